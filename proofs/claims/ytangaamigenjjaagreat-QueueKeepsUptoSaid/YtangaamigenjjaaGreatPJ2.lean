/- The plain side: what the models come to. No condition. -/
import Derived.Test.YtangaamigenjjaaGreatPJ1
import Derived.Test.YtangaamigenjjaaGreatA1
namespace Go.Proofs.YtangaamigenjjaaGreat
namespace Fw
set_option linter.unusedVariables false
set_option linter.unusedSimpArgs false
set_option linter.unusedSectionVars false
theorem zi{c:aq}{g:ah}{s:Sq}{A:List aN}{e:aN}{x:Int}(hs:s.list=A++[e])(hA:∀y∈A,mget x y.want=none)(he:mget x e.want=some true)(hr:az e.entry.rec_=some true∧ReOk e.entry.rec_)(hro:e.entry.route.length≤lim):
  b6 (mkq c g s) x 1=some [e.entry]:=by
 have hlen:(mkq c g s).list.length=A.length+1:=by show s.list.length=_; rw [hs,Co,List.length_singleton]
 unfold b6
 rw [hlen]
 refine yz (λi o=>o=if i≤A.length then [] else [e.entry]) (λo ho=>?_) (λf i o hi ho hf=>?_) (by rw [if_pos (CE _)])
 ·rw [ho,if_neg (by omega)]
 ·rw [ho,if_pos (by omega)]
  unfold iP dZ
  have hql:(mkq c g s).list=A++[e]:=hs
  rw [hql]
  rcases Nat.lt_or_ge i A.length with h | h
  ·have h1:gt (A++[e]) i=A[i]:=by rw [bT (by rw [Co]; omega),List.getElem_append_left h]
   rw [h1,hA _ (List.getElem_mem h)]
   exact hf _ (by rw [if_pos (by omega)])
  ·obtain rfl:i=A.length:=by omega
   have h1:gt (A++[e]) A.length=e:=by rw [bT (by simp)]; simp
   rw [h1,he,yS hr,sO hro]
   exact hf _ (by rw [if_neg (by omega)]; rfl)
section
variable {key val:ByteArray} {g:ah} {l:List Int}
theorem zG(hr:az (rk key val)=some true∧ReOk (rk key val))(h:l = []∨l = [1]∨l = [2]∨l = [1,2]∨l = [2,1]):b6 (mkq two g (s2 (rk key val) l)) 2 1=some (if 2∈l then [] else [⟨1,rk key val,l⟩]):=by
 have hl:l.length≤2:=by rcases h with rfl | rfl | rfl | rfl | rfl <;> simp
 by_cases h2:2∈l
 ·rw [if_pos h2]
  have e:(mkq two g (s2 (rk key val) l)).list = []:=by show (s2 (rk key val) l).list = []; unfold s2; rw [if_pos h2]
  unfold b6
  rw [e]; rfl
 ·rw [if_neg h2]
  have e:(s2 (rk key val) l).list = []++[(⟨⟨1,rk key val,l⟩,[(2,true)]⟩:aN)]:=by unfold s2; rw [if_neg h2]; rfl
  exact zi e (λy hy=>by cases hy) rfl hr (by rw [aY]; show l.length≤_; omega)
theorem sD:∀(t:List Int) (i:Nat) (a:List Int),a.drop i=t→forI (cm a) (λ_=>some true) i t ()=some true
 | [],i,a,_=>rfl
 | x::t,i,a,h=>by
  have hi:i<a.length:=by
   rcases Nat.lt_or_ge i a.length with h1 | h1
   ·exact h1
   ·rw [Cx h1] at h; cases h
  rw [j8 hi] at h
  injection h with h1 h2
  show cm a (forI (cm a) (λ_=>some true) (i+1) t) i x ()=_
  have ih:=sD t (i+1) a h2
  generalize forI (cm a) (λ_=>some true) (i+1) t=f at ih ⊢
  unfold cm
  rw [aH (CB hi),h1,aJ (by simp)]
  exact ih
theorem tg(a:List Int):bH a a=some true:=by
 unfold bH
 rw [aJ (by simp)]
 exact sD a 0 a rfl
theorem yx{K:Option Bool}:∀(t:List Int) (i:Nat) (x:List Int),forI cw (λ_=>K) i t x=K
 | [],i,x=>rfl
 | y::t,i,x=>by
  show cw (forI cw (λ_=>K) (i+1) t) i y x=_
  exact yx t (i+1) _
end
theorem xf{key val:ByteArray}{g:ah}{l:List Int}:b5 (mkq two g (s2 (rk key val) l))=some [1,0]:=rfl
theorem x3{key val:ByteArray}{g:ah}{l:List Int}:bp (mkq two g (s2 (rk key val) l))=some [1]:=rfl
theorem tL:de [1,0] [1,0]=some true:=by decide +kernel
theorem BW:gL=some two:=rfl
theorem yr{key val:ByteArray}{g:ah}{l:List Int}(hr:az (rk key val)=some true∧ReOk (rk key val))(h:l = []∨l = [1]∨l = [2]∨l = [1,2]∨l = [2,1]):
 (Option.bind (b5 (mkq two g (s2 (rk key val) l))) λz417=>(chk (decide (0<z417.length)) (Option.bind (bp (mkq two g (s2 (rk key val) l))) λz438=>(chk (decide (0<z438.length)) (Option.bind (b6 (mkq two g (s2 (rk key val) l)) 2 1) λz459=>(chk (z459.all (λe_=>decide (0<(e_.rec_.vers).length))) (Option.bind (b6 (mkq two g (s2 (rk key val) l)) 2 1) λz527=>(chk (imp (((z527.length:Nat):Int)==1) (decide (0<z527.length))) (chk (imp (((z527.length:Nat):Int)==1) (decide (0<((gt z527 0).rec_.vers).length))) (Option.bind (dP ((((z527.length:Nat):Int)==1)&&(!((gt ((gt z527 0).rec_.vers) 0).val != val))) (bH ((gt z527 0).route) l)) λz566=>(bif ((((z527.length:Nat):Int)==1)&&(((gt ((gt z527 0).rec_.vers) 0).val != val)||(!z566))) then
 (some false)
 else
 (bif (((z527.length:Nat):Int)==((z459.length:Nat):Int)) then
 (Option.bind (b5 (mkq two g (s2 (rk key val) l))) λz573=>(Option.bind (de z573 [1,0]) λz588=>(bif z588 then
 (Option.bind (bp (mkq two g (s2 (rk key val) l))) λz592=>(Option.bind (bH z592 [1]) λz607=>(some z607)))
 else
 (some false))))
 else
 (some false)))))))))))))=some true:=by
 rw [xf,Cy,aH (by decide),x3,Cy,aH (by decide),zG hr h,Cy]
 by_cases h2:2∈l
 ·rw [if_pos h2,aH (by rfl),Cy,aH (by rfl),aH (by rfl),show ((((([]:List ai).length:Nat):Int)==1))=false from rfl]
  simp only [Bool.false_and]
  rw [show (∀x:Option Bool,dP false x=some default) from λx=>rfl,Cy,aJ (by rfl),cg (by rfl),Cy,tL,Cy,cg (by rfl),Cy,tg,Cy]
 ·rw [if_neg h2,aH (by rfl),Cy,aH (by rfl),aH (by rfl)]
  have e1:(((([(⟨1,rk key val,l⟩:ai)].length:Nat):Int)==1))=true:=rfl
  have e2:((gt ((gt [(⟨1,rk key val,l⟩:ai)] 0).rec_.vers) 0).val != val)=false:=by show (val != val)=false; simp
  have e3:(gt [(⟨1,rk key val,l⟩:ai)] 0).route=l:=rfl
  rw [e1,e2,e3,tg,show (true&&(!false))=true from rfl,jM,Cy,aJ (by rfl),cg (by rfl),Cy,tL,Cy,cg (by rfl),Cy,tg,Cy]
theorem AY(key val:ByteArray)(route:List Int)(hl:route.length≤lim):dg key val route=some true:=by
 unfold dg
 rw [wy,Cy,aJ (by rfl),BW,Cy,BT,Cy]
 show Option.bind (ej (d0 1048576) 256 two) _=_
 rw [(qi0 two).reopen AU (by omega),Cy]
 simp only
 rw [aJ (by rfl),Cy,aH (by decide)]
 obtain⟨b,hb,hb2⟩:=ue (r:=rk key val) (by rw [aY]; show 1≤_; omega)
 cases b with
 | false=>rw [zH hb]; rfl
 | true=>
  have hr:az (rk key val)=some true∧ReOk (rk key val):=⟨hb,hb2 rfl⟩
  obtain⟨d1,L1,a1,a2⟩:=zz hr
  rw [a1,Cy]
  simp only
  rw [aJ (by rfl),vE hr,Cy,aH (by rfl),Cy,aH (by rw [Cm]; omega),aH (by rfl)]
  rw [aJ (by
   rw [show (gt (rk key val).vers 0).val=val from rfl,show (rk key val).key=key from rfl]; simp)]
  obtain⟨b,hs,hs2⟩:=xc (gl L1) (s1 (rk key val)) route
  cases b with
  | true=>
   obtain⟨q1,q2⟩:=hs2 rfl
   have h5:=xn q1 q2
   obtain⟨d2,L2,c1,c2⟩:=Ax hr a2 (λg=>hs) h5
   rw [c1,Cy]
   simp only
   rw [aJ (by rfl),yx]
   exact yr hr h5
  | false=>
   rw [Bn hr.1 hs,Cy]
   simp only
   rw [cg (by rfl)]
   obtain⟨d2,L2,c1,c2⟩:=Ax (l:=[1]) hr a2 (λg=>rfl) (.inr (.inl rfl))
   rw [c1,Cy]
   simp only
   rw [aJ (by rfl),aH (by decide)]
   exact yr (l:=[1]) hr (.inr (.inl rfl))
theorem l0{Γ:Gh}(key:ByteArray)(hkey:key.size≤lim)(val:ByteArray)(hval:val.size≤lim){Aroute:Option Addr}{croute:Nat}{route:List Int}(hroute:Sl intT Γ Aroute route)(hroutec:route.length≤croute)(hb:bkL cn route≤1048576):dg key val route=some true:=
 AY key val route hroute.le
end Fw
end Go.Proofs.YtangaamigenjjaaGreat
