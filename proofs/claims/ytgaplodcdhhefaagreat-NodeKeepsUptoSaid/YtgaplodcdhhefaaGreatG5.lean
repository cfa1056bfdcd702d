/- Merging, out of layer 16. No condition. -/
import Derived.Test.YtgaplodcdhhefaaGreatG4
namespace Go.Proofs.YtgaplodcdhhefaaGreat
namespace Fw
namespace Mg
set_option linter.unusedVariables false
set_option linter.unusedSimpArgs false
set_option linter.unusedSectionVars false
section
variable {α S R:Type} [Inhabited α]
theorem eO{body:(S→Option R)→Nat→α→S→Option R}{k:S→Option R}{l:List α}(T:Nat→S→Option R)(I:Nat→S→Prop)(hend:∀s,I l.length s→k s=T l.length s)
  (hstep:∀f i s,i<l.length→I i s→(∀s',I (i+1) s'→f s'=T (i+1) s')→body f i (gt l i) s=T i s) {s:S} (h0:I 0 s):forI body k 0 l s=T 0 s:=by
 have key:∀m i s,l.length - i=m→i≤l.length→I i s→forI body k i (l.drop i) s=T i s:=by
  intro m
  induction m with
  | zero=>
   intro i s hm hi hI
   have:i=l.length:=by omega
   subst this
   rw [E1 (E6 _)]
   exact hend s hI
  | succ m ih=>
   intro i s hm hi hI
   rw [bo (by omega)]
   exact hstep _ i s (by omega) hI λs' h'=>ih (i+1) s' (by omega) (by omega) h'
 exact key _ 0 s rfl (E7 _) h0
theorem Az{body:(S→Option R)→Nat→S→Option R}{k:S→Option R}{n:Nat}(T:Nat→S→Option R)(I:Nat→S→Prop)(hend:∀s,I n s→k s=T n s)
  (hstep:∀f i s,i<n→I i s→(∀s',I (i+1) s'→f s'=T (i+1) s')→body f i s=T i s) {s:S} (h0:I 0 s):forU body k n 0 s=T 0 s:=by
 have key:∀m i s,i+m=n→I i s→forU body k m i s=T i s:=by
  intro m
  induction m with
  | zero=>
   intro i s hm hI
   obtain rfl:i=n:=by omega
   exact hend s hI
  | succ m ih=>
   intro i s hm hI
   exact hstep _ i s (by omega) hI λs' h'=>ih (i+1) s' (by omega) h'
 exact key n 0 s (by omega) h0
theorem tv{body:(S→Option R)→S→Option R}(T:S→Option R)(I:S→Prop)(μ:S→Nat)
  (hstep:∀f s,I s→(∀s',I s'→μ s'<μ s→f s'=T s')→body f s=T s):∀{n:Nat} {s:S},I s→μ s<n→loopN body n s=T s
 | 0,_,_,h=>absurd h (Nat.not_lt_zero _)
 | n+1,s,hI,h=>hstep _ s hI λs' h' hl=>tv T I μ hstep h' (by omega)
theorem mM{body:(Unit→Option R)→Nat→α→Unit→Option R}{k:Unit→Option R}{l:List α}{p:Nat→Bool}{r:Option R}
  (h:∀f i,i<l.length→body f i (gt l i) ()=bif p i then f () else r):forI body k 0 l ()=bif bl p 0 l.length then k () else r:=by
 refine eO (λi _=>bif bl p i l.length then k () else r) (λ_ _=>True) (λs _=>?_) (λf i s hi _ hf=>?_) trivial
 ·rw [mL (E6 _)]; rfl
 ·rw [h f i hi,hf () trivial,jR hi]
  cases p i <;> rfl
theorem zz{body:(Unit→Option R)→Nat→Unit→Option R}{k:Unit→Option R}{n:Nat}{p:Nat→Bool}{r:Option R}
  (h:∀f i,i<n→body f i ()=bif p i then f () else r):forU body k n 0 ()=bif bl p 0 n then k () else r:=by
 refine Az (λi _=>bif bl p i n then k () else r) (λ_ _=>True) (λs _=>?_) (λf i s hi _ hf=>?_) trivial
 ·rw [mL (E6 _)]; rfl
 ·rw [h f i hi,hf () trivial,jR hi]
  cases p i <;> rfl
end
theorem Dr{a b:Nat}(h:a=b):((a:Int) != (b:Int))=false:=by subst h; simp
theorem Dv{a b:Nat}(h:¬ a=b):((a:Int) != (b:Int))=true:=by rw [bne_iff_ne]; omega
theorem bX{R:Type}[Inhabited R](g:Bool)(v:R):bM g (some v)=some (bif g then v else default):=by cases g <;> rfl
theorem u6{i:Nat}(h:i≤4611686018427387904):w64 ((i:Int) - 1)=(i:Int) - 1:=bO (by unfold I64; omega)
theorem ao{R:Type}{c:Bool}{k:Option R}(h:c=true):chk c k=k:=by rw [h]; rfl
theorem CZ(l:List Span)(d:Dot):kr l d=some (qL l d):=by
 unfold kr
 refine eO (λi _=>some (qL (l.drop i) d)) (λ_ _=>True) (λs _=>?_) (λf i s hi _ hf=>?_) trivial
 ·rw [E1 (E6 _)]; rfl
 ·unfold jd
  rw [hf () trivial,bo hi,qL]
  cases (((gt l i).s==d.s)&&(decide ((gt l i).f≤d.n)))&&(decide (d.n≤(gt l i).t)) <;> rfl
theorem Bn(l:List Span)(d:Dot):gj l d=some (qE l d):=by
 unfold gj
 refine eO (λi _=>some (qE (l.drop i) d)) (λ_ _=>True) (λs _=>?_) (λf i s hi _ hf=>?_) trivial
 ·rw [E1 (E6 _)]; rfl
 ·unfold jJ
  rw [hf () trivial,bo hi,qE]
  cases (((gt l i).s==d.s)&&(decide ((gt l i).f≤d.n)))&&(decide (d.n≤(gt l i).t)) <;> rfl
theorem yW(a b:List Span):cY a b=some (sx a b):=by
 unfold cY sx
 by_cases hl:a.length=b.length
 ·rw [Dr hl,show (a.length==b.length)=true by simpa using hl,cond_false,cond_true]
  rw [mM (p:=λi=>gt a i==gt b i) (r:=some false) (λf i hi=>?_)]
  ·cases bl (λi=>gt a i==gt b i) 0 a.length <;> rfl
  ·unfold dU
   rw [ao (by simpa using (by omega:i<b.length))]
   show (bif !(gt a i==gt b i) then _ else _)=_
   cases gt a i==gt b i <;> rfl
 ·rw [Dv hl,show (a.length==b.length)=false by simpa using hl]; rfl
theorem uD(l:List Span):fj l=some (j8 l):=by
 unfold fj j8
 have:=eO (body:=gQ) (k:=λ_=>some (decide ((l.length:Int)≤1024))) (l:=l) (λi s=>some (spGo (l.drop i) s&&decide ((l.length:Int)≤1024))) (λi s=>s.t≤4611686018427387904∧0≤s.t)
  (λs _=>?_) (λf i s hi hI hf=>?_) (s:=⟨0,0,0⟩) (by decide)
 ·rw [this]; rfl
 ·rw [E1 (E6 _)]; rfl
 ·unfold gQ
  rw [bO (x:=s.t+1) (by unfold I64; omega),bo hi,spGo]
  show (bif mr (gt l i) s then _ else _)=_
  cases h:mr (gt l i) s
  ·rw [cond_false,cond_false]
   refine hf _ ?_
   unfold mr at h
   simp only [Bool.or_eq_false_iff,DR] at h
   omega
  ·rfl
theorem Cl(l:List Span)(s:Int):iX l s=some (xq l s):=by
 unfold iX xq
 have:=eO (body:=gK s) (k:=λx=>some x) (l:=l) (λi t=>some (nn (l.drop i) s t)) (λ_ _=>True)
  (λt _=>?_) (λf i t hi hI hf=>?_) (s:=0) trivial
 ·rw [this]; rfl
 ·rw [E1 (E6 _)]; rfl
 ·unfold gK gC
  rw [hf _ trivial,hf _ trivial,bo hi,nn]
  cases (gt l i).s==s <;> rfl
theorem uk(d:Dot):eH d=some (kE d):=rfl
theorem xZ{l:List Span}(hl:l.length≤lim)(hr:∀x∈l,I64 x.f):ff l=some (lK l):=by
 unfold ff lK
 have hd:(decide (1024<(l.length:Int)))=decide (1024<l.length):=by rw [Bool.eq_iff_iff,DQ,DQ]; omega
 rw [hd]
 cases decide (1024<l.length)
 ·rw [cond_false,cond_false,mM (p:=λi=>!(ml (gt l i))&&!(decide (0<(i:Int))&&oX (gt l (i - 1)) (gt l i))) (r:=some false) (λf i hi=>?_)]
  ·cases bl (λi=>!(ml (gt l i))&&!(decide (0<(i:Int))&&oX (gt l (i - 1)) (gt l i))) 0 l.length <;> rfl
  ·unfold iM
   rw [aK] at hl
   have hf:(1≤(gt l i).f→w64 ((gt l i).f - 1)=(gt l i).f - 1):=λh=>bO (by have:=hr _ (qr hi); unfold I64 at *; omega)
   rw [uk,uk,u6 (by omega)]
   simp only [E2,bX]
   unfold ml
   cases h1:kE ⟨(gt l i).s,(gt l i).f⟩
   ·rfl
   ·cases h2:kE ⟨(gt l i).s,(gt l i).t⟩
    ·rfl
    ·cases h3:decide ((gt l i).t<(gt l i).f)
     ·simp only [Bool.not_true,Bool.not_false,cond_true,Bool.or_self,cond_false]
      rw [hf (AE h1).2.2.1]
      by_cases h0:0<(i:Int)
      ·rw [show decide (0<(i:Int))=true by simpa using h0]
       have hi1:((i:Int) - 1).toNat=i - 1:=by omega
       rw [ao (show imp true (inb ((i:Int) - 1) l.length)=true by
        show inb _ _=true
        unfold inb
        rw [DW,DQ,DQ]; omega),hi1]
       unfold oX
       simp only [Bool.true_and]
       cases (decide ((gt l i).s<(gt l (i - 1)).s)||((gt l i).s==(gt l (i - 1)).s)&&decide ((gt l i).f - 1≤(gt l (i - 1)).t)) <;> rfl
      ·rw [show decide (0<(i:Int))=false by simpa using h0]
       rfl
     ·rfl
 ·rfl
theorem Bm(l:List Span)(s:Int):gq l s=some (qK l s):=by
 unfold gq qK
 have:=eO (body:=gA s) (k:=λx=>some x) (l:=l) (λi t=>some (nl (l.drop i) s t)) (λ_ _=>True)
  (λt _=>?_) (λf i t hi hI hf=>?_) (s:=0) trivial
 ·rw [this]; rfl
 ·rw [E1 (E6 _)]; rfl
 ·unfold gA eA
  rw [hf _ trivial,hf _ trivial,bo hi,nl]
  cases ((gt l i).s==s)&&(decide (t<(gt l i).t)) <;> rfl
structure VerOk (v:Ver):Prop where
 dot:I64 v.dot.s∧I64 v.dot.n
 len:v.past.length≤lim
 past:∀x∈v.past,I64 x.f
 val:v.val.size≤lim
def VersOk(l:List Ver):Prop:=l.length≤lim∧∀v∈l,VerOk v
theorem wF(v:Ver):dR v=some (fh v):=by
 unfold dR fh
 rw [uD,uD,Cl]
 simp only [E2,bX]
 cases j8 [⟨v.dot.s,v.dot.n,v.dot.n⟩] <;> cases j8 v.past <;> rfl
theorem uM(a b:Dot):gI a b=some (bI a b):=rfl
theorem sj(d:Dot)(l:List Ver):dc d l=some (cA d l):=by
 unfold dc
 refine eO (λi _=>some (cA d (l.drop i))) (λ_ _=>True) (λs _=>?_) (λf i s hi _ hf=>?_) trivial
 ·rw [E1 (E6 _)]; rfl
 ·unfold gg
  rw [hf () trivial,bo hi,cA,CZ]
  simp only [E2]
  cases qL (gt l i).past d <;> rfl
theorem e_Right5{l:List Ver}(hl:l.length≤lim):dV l=some (jf l):=by
 unfold dV jf
 rw [mM (p:=λi=>!(((!(fh (gt l i)))||(decide (0<(i:Int))&&(!(bI (gt l (i - 1)).dot (gt l i).dot))))||cA (gt l i).dot l)) (r:=some false) (λf i hi=>?_)]
 ·cases bl (λi=>!(((!(fh (gt l i)))||(decide (0<(i:Int))&&(!(bI (gt l (i - 1)).dot (gt l i).dot))))||cA (gt l i).dot l)) 0 l.length <;> rfl
 ·unfold jF
  rw [aK] at hl
  rw [wF,uM,sj,u6 (by omega)]
  simp only [E2,bX]
  cases h1:fh (gt l i)
  ·rfl
  ·by_cases h0:0<(i:Int)
   ·rw [show decide (0<(i:Int))=true by simpa using h0]
    have hi1:((i:Int) - 1).toNat=i - 1:=by omega
    rw [ao (show imp _ (inb ((i:Int) - 1) l.length)=true by
     show inb _ _=true
     unfold inb
     rw [DW,DQ,DQ]; omega),hi1]
    cases bI (gt l (i - 1)).dot (gt l i).dot <;> cases cA (gt l i).dot l <;> rfl
   ·rw [show decide (0<(i:Int))=false by simpa using h0]
    show (bif _||_ then _ else _)=_
    cases cA (gt l i).dot l <;> rfl
theorem su(a b:Ver):jo a b=some (k9 a b):=by
 unfold jo k9
 cases h:((((a.dot != b.dot)||(a.gone != b.gone))||(a.val != b.val))||((a.past.length:Int) != (b.past.length:Int)))
 ·rw [cond_false,cond_false]
  have hl:a.past.length=b.past.length:=by
   have:=or_r h
   rw [bne_eq_false_iff_eq] at this; omega
  rw [mM (p:=λi=>!(gt a.past i != gt b.past i)) (r:=some false) (λf i hi=>?_)]
  ·cases bl (λi=>!(gt a.past i != gt b.past i)) 0 a.past.length <;> rfl
  ·unfold nb
   rw [ao (by simpa using (by omega:i<b.past.length))]
   cases gt a.past i != gt b.past i <;> rfl
 ·rfl
theorem yK{l:List Span}(h:l.length≤lim):cz l=some l:=by
 unfold cz; rw [ao (by simpa using h)]
theorem zc{v:Ver}{a b out:List Ver}(hv:v.past.length≤lim)(ho:out.length<lim):eI v a b out=some (iF v a b out):=by
 unfold eI iF
 rw [sj,sj,yK hv]
 simp only [E2,bX]
 rw [ao (show decide (out.length+1≤lim)=true by rw [DQ]; omega)]
 cases cA v.dot a <;> cases cA v.dot b <;> rfl
end Mg
end Fw
end Go.Proofs.YtgaplodcdhhefaaGreat
