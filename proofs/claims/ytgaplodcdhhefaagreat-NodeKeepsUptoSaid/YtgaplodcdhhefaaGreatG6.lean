/- Merging, out of layer 16. No condition. -/
import Derived.Test.YtgaplodcdhhefaaGreatG5
namespace Go.Proofs.YtgaplodcdhhefaaGreat
namespace Fw
namespace Mg
set_option linter.unusedVariables false
set_option linter.unusedSimpArgs false
set_option linter.unusedSectionVars false
def mOut(q:Bool×List Ver):Option (List Ver×Int):=bif q.1 then some ([],50) else bif decide ((512:Int)<(q.2.length:Int)) then some ([],3) else some (q.2,0)
def mGo(a b:List Ver)(s:Bool×Int×Int×List Ver):Bool×List Ver:=vsGo a b ((a.length - s.2.1.toNat)+(b.length - s.2.2.1.toNat)) (a.drop s.2.1.toNat) (b.drop s.2.2.1.toNat) s.1 s.2.2.2
theorem kK{i n:Nat}(h:i<n):inb (i:Int) n=true:=by unfold inb; rw [DW,DQ,DQ]; omega
theorem zl{i:Nat}(h:i≤4294967296):w64 ((i:Int)+1)=((i+1:Nat):Int):=by rw [bO (by unfold I64; omega)]; omega
theorem uK{a b:List Ver}(ha:a.length≤512)(hb:b.length≤512)(hva:∀v∈a,VerOk v)(hvb:∀v∈b,VerOk v):loopN (fv a b) FU (false,0,0,[])=mOut (vsGo a b (a.length+b.length) a b false []):=by
 have:=tv (body:=fv a b) (λs=>mOut (mGo a b s)) (λs => ∃i k:Nat,s.2.1=(i:Int)∧s.2.2.1=(k:Int)∧i≤a.length∧k≤b.length∧s.2.2.2.length≤i+k)
  (λs=>(a.length - s.2.1.toNat)+(b.length - s.2.2.1.toNat)) (λf s hI hf=>?_) (n:=FU) (s:=(false,0,0,[])) ⟨0,0,rfl,rfl,by omega,by omega,by simp⟩ (by simp [FU]; omega)
 ·rw [this]; simp [mGo]
 obtain⟨tw,i0,k0,out⟩:=s
 obtain⟨i,k,hi,hk,hia,hkb,ho⟩:=hI
 simp only at hi hk ho
 subst hi; subst hk
 unfold fv
 simp only [uM,su,E2,bX,DZ]
 have hlim:out.length<lim:=by rw [aK]; omega
 cases hc0:(decide ((i:Int)<(a.length:Int))||decide ((k:Int)<(b.length:Int)))
 ·-- at the end
  simp only [Bool.or_eq_false_iff,DR] at hc0
  have h1:i=a.length:=by omega
  have h2:k=b.length:=by omega
  subst h1; subst h2
  rw [cond_false]
  unfold mGo mOut
  simp only [DZ,Nat.sub_self,Nat.add_zero,List.drop_length,vsGo]
 ·rw [cond_true]
  have g1:imp (!((k:Int)==(b.length:Int))&&decide ((i:Int)<(a.length:Int))) (inb (i:Int) a.length)=true:=by
   cases h:(!((k:Int)==(b.length:Int))&&decide ((i:Int)<(a.length:Int)))
   ·rfl
   ·have:=de h; rw [DQ] at this
    exact kK (by omega)
  have g2:imp (!((k:Int)==(b.length:Int))&&decide ((i:Int)<(a.length:Int))) (inb (k:Int) b.length)=true:=by
   cases h:(!((k:Int)==(b.length:Int))&&decide ((i:Int)<(a.length:Int)))
   ·rfl
   ·have:=bV h
    simp only [Bool.not_eq_true',beq_eq_false_iff_ne,ne_eq] at this
    exact kK (by omega)
  rw [ao g1,ao g2]
  have hz:(((k:Int)==(b.length:Int))||(decide ((i:Int)<(a.length:Int))&&(bif (!((k:Int)==(b.length:Int))&&decide ((i:Int)<(a.length:Int))) then bI (gt a i).dot (gt b k).dot else default))) =
    (((k:Int)==(b.length:Int))||(decide ((i:Int)<(a.length:Int))&&bI (gt a i).dot (gt b k).dot)):=by
   cases ((k:Int)==(b.length:Int)) <;> cases decide ((i:Int)<(a.length:Int)) <;> rfl
  rw [hz]
  cases hc:(((k:Int)==(b.length:Int))||(decide ((i:Int)<(a.length:Int))&&bI (gt a i).dot (gt b k).dot))
  ·rw [cond_false]
   have hkb2:k<b.length:=by
    have:=or_l hc
    rw [beq_eq_false_iff_ne] at this; omega
   have g3:imp (decide ((i:Int)<(a.length:Int))) (inb (i:Int) a.length)=true:=by
    cases h:decide ((i:Int)<(a.length:Int))
    ·rfl
    ·rw [DQ] at h; exact kK (by omega)
   have g4:imp (decide ((i:Int)<(a.length:Int))) (inb (k:Int) b.length)=true:=by
    cases h:decide ((i:Int)<(a.length:Int))
    ·rfl
    ·exact kK hkb2
   rw [ao g3,ao g4]
   cases he:(decide ((i:Int)<(a.length:Int))&&((gt a i).dot==(gt b k).dot))
   ·rw [cond_false,ao (kK hkb2),zc (hvb _ (qr hkb2)).len hlim,E2,zl (by omega),hf]
    ·show mOut (mGo a b _)=mOut (mGo a b _)
     unfold mGo
     simp only [DZ]
     rw [Cd hia hkb2 hc he]
    ·refine⟨i,k+1,rfl,rfl,hia,hkb2,?_⟩
     have:=rV (gt b k) a b out
     simp only; omega
    ·simp only [DZ]; omega
   ·rw [cond_true]
    have hia2:i<a.length:=by have:=bV he; rw [DQ] at this; omega
    have g5:imp (!tw) (inb (i:Int) a.length)=true:=by cases tw; exact kK hia2; rfl
    have g6:imp (!tw) (inb (k:Int) b.length)=true:=by cases tw; exact kK hkb2; rfl
    rw [ao g5,ao g6,zl (by omega),hf]
    ·show mOut (mGo a b _)=mOut (mGo a b _)
     unfold mGo
     simp only [DZ]
     rw [CG hia2 hkb2 hc (de he)]
     cases tw <;> rfl
    ·exact⟨i+1,k,rfl,rfl,hia2,hkb,by simp only; omega⟩
    ·simp only [DZ]; omega
  ·rw [cond_true]
   have hia2:i<a.length:=by
    by_cases hkb2:k=b.length
    ·subst hkb2; simp at hc0; omega
    ·rw [Bool.or_eq_true] at hc
     rcases hc with h | h
     ·rw [beq_iff_eq] at h; omega
     ·have:=bV h; rw [DQ] at this; omega
   rw [ao (kK hia2),zc (hva _ (qr hia2)).len hlim,E2,zl (by omega),hf]
   ·show mOut (mGo a b _)=mOut (mGo a b _)
    unfold mGo
    simp only [DZ]
    rw [Cc hia2 hkb hc]
   ·refine⟨i+1,k,rfl,rfl,hia2,hkb,?_⟩
    have:=rV (gt a i) a b out
    simp only; omega
   ·simp only [DZ]; omega
theorem e_Merge{a b:List Ver}(ha:VersOk a)(hb:VersOk b):gc a b=some (vsMerge a b):=by
 unfold gc vsMerge
 rw [e_Right5 ha.1,e_Right5 hb.1]
 simp only [E2,bX]
 cases h1:jf a
 ·rfl
 ·cases h2:jf b
  ·rfl
  ·show loopN (fv a b) FU (false,0,0,[])=_
   rw [uK (qz h1) (qz h2) ha.2 hb.2]
   simp only [Bool.not_true,Bool.or_self,cond_false]
   unfold mOut
   cases (vsGo a b (a.length+b.length) a b false []).1
   ·rw [cond_false,cond_false]
    cases decide ((512:Int)<(((vsGo a b (a.length+b.length) a b false []).2.length:Nat):Int)) <;> rfl
   ·rfl
theorem e_SameOne(a b:Ver):b7 a b=some (hP a b):=by
 unfold b7 hP
 rw [yW]
 simp only [E2,bX]
 cases (((a.dot==b.dot)&&(a.gone==b.gone))&&(a.val==b.val)) <;> rfl
theorem e_vsSameL(a b:List Ver):jx a b=some (vsSameL a b):=by
 unfold jx vsSameL
 have hm:(min (a.length:Int) (b.length:Int)).toNat=min a.length b.length:=by omega
 rw [hm,zz (p:=λi=>k9 (gt a i) (gt b i)) (r:=some false) (λf i hi=>?_)]
 ·cases bl (λk=>k9 (gt a k) (gt b k)) 0 (min a.length b.length) <;> rfl
 ·unfold mF
  rw [ao (by simpa using (by omega:i<a.length)),ao (by simpa using (by omega:i<b.length)),su]
  show (bif !(k9 (gt a i) (gt b i)) then _ else _)=_
  cases k9 (gt a i) (gt b i) <;> rfl
theorem e_r5Behind(l:List Ver)(d:Dot):bz l d=some (r5Behind l d):=by
 unfold bz
 refine eO (λi _=>some (r5Behind (l.drop i) d)) (λ_ _=>True) (λs _=>?_) (λf i s hi _ hf=>?_) trivial
 ·rw [E1 (E6 _)]; rfl
 ·unfold ix
  rw [hf () trivial,bo hi,r5Behind,Bn]
  simp only [E2]
  cases qE (gt l i).past d <;> rfl
theorem Ce(a b:Dot):fI a b=some (ba a b):=by
 unfold fI ba
 cases a.s != b.s <;> rfl
theorem tS{v:Ver}(hv:VerOk v):dE v=some (dl v):=by
 unfold dE dl
 rw [uk,xZ hv.len hv.past,Bm]
 simp only [E2,bX]
 cases kE v.dot
 ·rfl
 ·cases lK v.past
  ·rfl
  ·simp only [Bool.not_true,Bool.not_false,Bool.or_self,cond_true,Bool.false_or]
   cases decide (v.dot.n≤qK v.past v.dot.s)
   ·cases v.gone <;> rfl
   ·rfl
theorem e_r5Right{l:List Ver}(hl:VersOk l):dk l=some (r5Right l):=by
 unfold dk r5Right
 have hd:(decide (512<(l.length:Int)))=decide (512<l.length):=by rw [Bool.eq_iff_iff,DQ,DQ]; omega
 rw [hd]
 cases decide (512<l.length)
 ·rw [cond_false,cond_false,mM (p:=λi=>!((!(dl (gt l i)))||r5Behind l (gt l i).dot)&&!(decide (0<(i:Int))&&!(ba (gt l (i - 1)).dot (gt l i).dot))) (r:=some false) (λf i hi=>?_)]
  ·cases bl (λi=>!((!(dl (gt l i)))||r5Behind l (gt l i).dot)&&!(decide (0<(i:Int))&&!(ba (gt l (i - 1)).dot (gt l i).dot))) 0 l.length <;> rfl
  ·unfold iJ
   have hl1:=hl.1
   rw [aK] at hl1
   rw [tS (hl.2 _ (qr hi)),e_r5Behind,Ce,u6 (by omega)]
   simp only [E2,bX]
   cases dl (gt l i)
   ·rfl
   ·cases r5Behind l (gt l i).dot
    ·by_cases h0:0<(i:Int)
     ·rw [show decide (0<(i:Int))=true by simpa using h0]
      have hi1:((i:Int) - 1).toNat=i - 1:=by omega
      simp only [Bool.not_true,Bool.not_false,cond_true,Bool.or_self,cond_false,Bool.true_and]
      rw [ao (show imp _ (inb ((i:Int) - 1) l.length)=true by
       show inb _ _=true
       unfold inb
       rw [DW,DQ,DQ]; omega),hi1]
      cases ba (gt l (i - 1)).dot (gt l i).dot <;> rfl
     ·rw [show decide (0<(i:Int))=false by simpa using h0]
      rfl
    ·rfl
 ·rfl
theorem merge_len(a b:List Ver):(rh a b).1.length≤512:=by
 unfold rh
 cases ((!(r5Right a))||(!(r5Right b)))
 ·rw [cond_false]
  cases qk a b
  ·rw [cond_false]
   cases h3:decide ((512:Int)<((eD b a (eD a b [])).length:Int))
   ·rw [cond_false]
    rw [DR] at h3
    show (eD b a (eD a b [])).length≤512
    omega
   ·simp
  ·simp
 ·simp
end Mg
end Fw
end Go.Proofs.YtgaplodcdhhefaaGreat
