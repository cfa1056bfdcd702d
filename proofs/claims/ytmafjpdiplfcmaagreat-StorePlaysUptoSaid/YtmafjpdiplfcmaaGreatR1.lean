/- Whether versions are right, out of layer 16. No condition. -/
import Derived.Test.YtmafjpdiplfcmaaGreatM
namespace Go.Proofs.YtmafjpdiplfcmaaGreat
namespace Fw
namespace Mg
set_option linter.unusedVariables false
set_option linter.unusedSimpArgs false
set_option linter.unusedSectionVars false
def eX(p:Nat→Bool)(k n:Nat):Bool:=(List.range' k (n - k)).all p
theorem pA{p:Nat→Bool}{k n:Nat}(h:k<n):eX p k n=(p k&&eX p (k+1) n):=by
  unfold eX
  rw [show n - k=(n - (k+1))+1 by omega,List.range'_succ]; rfl
theorem vA{p:Nat→Bool}{k n:Nat}(h:n≤k):eX p k n=true:=by
  unfold eX
  rw [show n - k=0 by omega]; rfl
def vh:List Span→Dot→Bool
  | [],_=>false
  | x::l,d=>((x.s==d.s)&&decide (x.f≤d.n))&&decide (d.n≤x.t)||vh l d
def vy:List Span→Dot→Bool
  | [],_=>false
  | x::l,d=>((x.s==d.s)&&decide (x.f≤d.n))&&decide (d.n≤x.t)||vy l d
def qH(x last:Span):Bool:=
  ((((((decide (x.s<1)||decide (16<x.s))||decide (x.f<1))||decide (x.t<x.f))||decide (4611686018427387904<x.t))||decide (x.s<last.s))||((x.s==last.s)&&decide (x.f≤(last.t+1))))
def spGo:List Span→Span→Bool
  | [],_=>true
  | x::l,last=>bif qH x last then false else spGo l x
def mw(l:List Span):Bool:=spGo l ⟨0,0,0⟩&&decide ((l.length:Int)≤1024)
def rp:List Span→Int→Int→Int
  | [],_,top=>top
  | x::l,s,top=>rp l s (bif x.s==s then max top x.t else top)
def Ck(l:List Span)(s:Int):Int:=rp l s 0
def og(d:Dot):Bool:=(((decide (1≤d.s)&&decide (d.s≤16))&&decide (1≤d.n))&&decide (d.n≤4611686018427387904))
theorem FC{d:Dot}(h:og d=true):1≤d.s∧d.s≤16∧1≤d.n∧d.n≤4611686018427387904:=by simp [og] at h; omega
def qZ(x:Span):Bool:=(((!(og ⟨x.s,x.f⟩))||(!(og ⟨x.s,x.t⟩)))||decide (x.t<x.f))
def u0(p x:Span):Bool:=(decide (x.s<p.s)||((x.s==p.s)&&decide ((x.f - 1)≤p.t)))
def pD(l:List Span):Bool:=bif decide (1024<l.length) then false else eX (λi=>!(qZ (gt l i))&&!(decide (0<(i:Int))&&u0 (gt l (i - 1)) (gt l i))) 0 l.length
def rE:List Span→Int→Int→Int
  | [],_,n=>n
  | x::l,s,n=>rE l s (bif (x.s==s)&&decide (n<x.t) then x.t else n)
def vk(l:List Span)(s:Int):Int:=rE l s 0
def ov(a b:Dot):Bool:=bif a.s != b.s then decide (a.s<b.s) else decide (a.n<b.n)
def iC(v:Ver):Bool:=bif (((!(og v.dot))||(!(pD v.past)))||decide (v.dot.n≤vk v.past v.dot.s)) then false else bif v.gone then v.val==⟨#[]⟩ else decide ((v.val.size:Int)≤256)
def jz:List Ver→Dot→Bool
  | [],_=>false
  | v::l,d=>vy v.past d||jz l d
def r5Right(l:List Ver):Bool:=bif decide (512<l.length) then false else eX (λi=>!((!(iC (gt l i)))||jz l (gt l i).dot)&&!(decide (0<(i:Int))&&!(ov (gt l (i - 1)).dot (gt l i).dot))) 0 l.length
def mQ(a b:Dot):Bool:=(decide (a.s<b.s)||((a.s==b.s)&&decide (a.n<b.n)))
def jA:Dot→List Ver→Bool
  | _,[]=>false
  | d,v::l=>vh v.past d||jA d l
def j9(v:Ver):Bool:=(((((mw [⟨v.dot.s,v.dot.n,v.dot.n⟩])&&(mw v.past))&&decide (Ck v.past v.dot.s<v.dot.n))&&decide ((v.val.size:Int)≤256))&&((!v.gone)||(v.val==⟨#[]⟩)))
def vQ(l:List Ver):Bool:=eX (λi=>!(((!(j9 (gt l i)))||(decide (0<(i:Int))&&(!(mQ (gt l (i - 1)).dot (gt l i).dot))))||jA (gt l i).dot l)) 0 l.length&&decide ((l.length:Int)≤512)
theorem zD{p:Nat→Bool}{n:Nat}:eX p 0 n=true↔∀i,i<n→p i=true:=by
  unfold eX
  rw [List.all_eq_true]
  simp only [List.mem_range'_1,IH,true_and,Nat.sub_zero,Nat.zero_add]
theorem xc{p q:Nat→Bool}{n:Nat}(h:∀i,i<n→p i=q i):eX p 0 n=eX q 0 n:=by
  rw [Bool.eq_iff_iff,zD,zD]
  exact⟨λh1 i hi=>(h i hi)▸h1 i hi,λh1 i hi=>(h i hi)▸h1 i hi⟩
theorem F0{α:Type}[Inhabited α]{l:List α}{i:Nat}(h:i<l.length):gt l i∈l:=by rw [fx h]; exact List.getElem_mem h
theorem EX{α:Type}[Inhabited α]{l:List α}{x:α}(h:x∈l):∃i,i<l.length∧gt l i=x:=by
  obtain⟨i,hi,rfl⟩:=List.getElem_of_mem h
  exact⟨i,hi,fx hi⟩
section
variable {β:Type} {list:List Int} {got:List (Int×β)} {in_:List Bool}
end
theorem G3(a b:Dot):mQ a b=ov a b:=by
  unfold mQ ov
  by_cases h:a.s=b.s
  · simp [h]
  · have h1:(a.s != b.s)=true:=by simpa using h
    have h2:(a.s==b.s)=false:=by simpa using h
    simp [h1,h2]
theorem Eh:∀(l:List Span) (d:Dot),vh l d=vy l d
  | [],_=>rfl
  | x::l,d=>by rw [vh,vy,Eh l d]
theorem yY:∀(l:List Span) (s t:Int),rp l s t=rE l s t
  | [],_,_=>rfl
  | x::l,s,t=>by
    rw [rp,rE,yY l]
    congr 1
    by_cases h:x.s=s
    · by_cases h2:t<x.t
      · simp [h,h2]; omega
      · simp [h,h2]; omega
    · have:(x.s==s)=false:=by simpa using h
      simp [this]
theorem Ha(l:List Span)(s:Int):Ck l s=vk l s:=yY l s 0
theorem y6:∀(d:Dot) (l:List Ver),jA d l=jz l d
  | _,[]=>rfl
  | d,v::l=>by rw [jA,jz,Eh,y6 d l]
def pchk{α:Type}(p:α→Bool)(q:α→α→Bool):Option α→List α→Bool
  | _,[]=>true
  | none,x::l=>p x&&pchk p q (some x) l
  | some y,x::l=>(p x&&q y x)&&pchk p q (some x) l
theorem Ak{α:Type}[Inhabited α](p:α→Bool)(q:α→α→Bool)(l:List α)(f:Nat→Bool)(h0:0<l.length→f 0=p (gt l 0))(hs:∀i,i+1<l.length→f (i+1)=(p (gt l (i+1))&&q (gt l i) (gt l (i+1)))):
    eX f 0 l.length=pchk p q none l:=by
  have key:∀m k,l.length - (k+1)=m→eX f (k+1) l.length=pchk p q (some (gt l k)) (l.drop (k+1)):=by
    intro m
    induction m with
    | zero=>
      intro k hk
      rw [vA (by omega),IB (by omega)]; rfl
    | succ m ih=>
      intro k hk
      rw [pA (by omega),cj (by omega),pchk,hs k (by omega),ih (k+1) (by omega)]
  by_cases hl:0<l.length
  · have h1:l=gt l 0::l.drop 1:=by have:=cj hl; simpa using this
    rw [pA hl,h0 hl,key _ 0 rfl]
    conv=>rhs; rw [h1]
    rfl
  · have:l = []:=List.eq_nil_of_length_eq_zero (by omega)
    subst this; rfl
theorem D5(x y:Span):(!(qH x y))=((!(qZ x))&&(!(u0 y x))):=by
  rw [Bool.eq_iff_iff]
  simp only [qH,qZ,u0,og,Bool.not_eq_true',Bool.or_eq_false_iff,Iw,Bool.and_eq_false_iff,Ir,Iq,beq_eq_false_iff_ne,Bool.not_eq_false',ne_eq]
  omega
theorem D2(x:Span):(!(qH x ⟨0,0,0⟩))=!(qZ x):=by
  rw [Bool.eq_iff_iff]
  simp only [qH,qZ,og,Bool.not_eq_true',Bool.or_eq_false_iff,Iw,Bool.and_eq_false_iff,Ir,Iq,beq_eq_false_iff_ne,Bool.not_eq_false',ne_eq]
  omega
theorem zC:∀(l:List Span) (y:Span),spGo l y=pchk (λx=>!(qZ x)) (λp x=>!(u0 p x)) (some y) l
  | [],_=>rfl
  | x::l,y=>by
    rw [spGo,pchk, ← zC l x, ← D5]
    cases qH x y <;> rfl
theorem Bv(l:List Span):mw l=pD l:=by
  unfold mw pD
  have h1:spGo l ⟨0,0,0⟩=pchk (λx=>!(qZ x)) (λp x=>!(u0 p x)) none l:=by
    cases l with
    | nil=>rfl
    | cons x l=>
      rw [spGo,pchk, ← zC l x, ← D2]
      cases qH x ⟨0,0,0⟩ <;> rfl
  rw [h1,Ak (λx=>!(qZ x)) (λp x=>!(u0 p x))]
  · by_cases h:1024<l.length
    · have h2:decide ((l.length:Int)≤1024)=false:=by simp; omega
      simp [h,h2]
    · have h2:decide ((l.length:Int)≤1024)=true:=by simp; omega
      simp [h,h2]
  · intro _; simp
  · intro i _
    have:decide ((0:Int)<((i+1:Nat):Int))=true:=by rw [Iq]; omega
    rw [this,Bool.true_and,Nat.add_sub_cancel]
theorem Ac(v:Ver):j9 v=iC v:=by
  unfold j9 iC
  rw [Bv v.past,Ha]
  have h1:mw [⟨v.dot.s,v.dot.n,v.dot.n⟩]=og v.dot:=by
    rw [Bool.eq_iff_iff]
    have e:∀c:Bool,(bif c then false else true)=!c:=by decide
    simp only [mw,spGo,e,qH,og,Iw,Iq,List.length_singleton,Bool.not_eq_true',Bool.or_eq_false_iff,Ir,Bool.and_eq_false_iff,beq_eq_false_iff_ne,ne_eq]
    omega
  rw [h1]
  have h2:(decide (vk v.past v.dot.s<v.dot.n))=!(decide (v.dot.n≤vk v.past v.dot.s)):=by
    rw [Bool.eq_iff_iff]; simp
  rw [h2]
  cases og v.dot <;> cases pD v.past <;> cases decide (v.dot.n≤vk v.past v.dot.s) <;> cases hg:v.gone <;> simp [hg]
  intro h
  try rw [rn,Iq] at h
  rw [h]
  decide
theorem right_eq(l:List Ver):vQ l=r5Right l:=by
  unfold vQ r5Right
  have h1:eX (λi=>!(((!(j9 (gt l i)))||(decide (0<(i:Int))&&(!(mQ (gt l (i - 1)).dot (gt l i).dot))))||jA (gt l i).dot l)) 0 l.length =
      eX (λi=>!((!(iC (gt l i)))||jz l (gt l i).dot)&&!(decide (0<(i:Int))&&!(ov (gt l (i - 1)).dot (gt l i).dot))) 0 l.length:=by
    refine xc λi _=>?_
    rw [Ac,G3,y6]
    cases iC (gt l i) <;> cases jz l (gt l i).dot <;> cases (decide (0<(i:Int))&&!(ov (gt l (i - 1)).dot (gt l i).dot)) <;> rfl
  rw [h1]
  by_cases h:512<l.length
  · have h2:decide ((l.length:Int)≤512)=false:=by rw [Ir]; omega
    simp [h,h2]
  · have h2:decide ((l.length:Int)≤512)=true:=by rw [Iq]; omega
    simp [h,h2]
section
variable {α S R:Type} [Inhabited α]
theorem fQ{body:(S→Option R)→Nat→α→S→Option R}{k:S→Option R}{l:List α}(T:Nat→S→Option R)(I:Nat→S→Prop)(hend:∀s,I l.length s→k s=T l.length s)
    (hstep:∀f i s,i<l.length→I i s→(∀s',I (i+1) s'→f s'=T (i+1) s')→body f i (gt l i) s=T i s) {s:S} (h0:I 0 s):forI body k 0 l s=T 0 s:=by
  have key:∀m i s,l.length - i=m→i≤l.length→I i s→forI body k i (l.drop i) s=T i s:=by
    intro m
    induction m with
    | zero=>
      intro i s hm hi hI
      have:i=l.length:=by omega
      subst this
      rw [IB (IG _)]
      exact hend s hI
    | succ m ih=>
      intro i s hm hi hI
      rw [cj (by omega)]
      exact hstep _ i s (by omega) hI λs' h'=>ih (i+1) s' (by omega) (by omega) h'
  exact key _ 0 s rfl (IH _) h0
theorem ww{body:(Unit→Option R)→Nat→α→Unit→Option R}{k:Unit→Option R}{l:List α}{p:Nat→Bool}{r:Option R}
    (h:∀f i,i<l.length→body f i (gt l i) ()=bif p i then f () else r):forI body k 0 l ()=bif eX p 0 l.length then k () else r:=by
  refine fQ (λi _=>bif eX p i l.length then k () else r) (λ_ _=>True) (λs _=>?_) (λf i s hi _ hf=>?_) trivial
  · rw [vA (IG _)]; rfl
  · rw [h f i hi,hf () trivial,pA hi]
    cases p i <;> rfl
end
theorem dX{R:Type}[Inhabited R](g:Bool)(v:R):gT g (some v)=some (bif g then v else default):=by cases g <;> rfl
theorem yK{i:Nat}(h:i≤4611686018427387904):w64 (((i:Nat):Int) - 1)=((i:Nat):Int) - 1:=aH (by unfold I64; omega)
theorem aw{R:Type}{c:Bool}{k:Option R}(h:c=true):chk c k=k:=by rw [h]; rfl
theorem HF(l:List Span)(d:Dot):nR l d=some (vh l d):=by
  unfold nR
  refine fQ (λi _=>some (vh (l.drop i) d)) (λ_ _=>True) (λs _=>?_) (λf i s hi _ hf=>?_) trivial
  · rw [IB (IG _)]; rfl
  · unfold mC
    rw [hf () trivial,cj hi,vh]
    cases (((gt l i).s==d.s)&&(decide ((gt l i).f≤d.n)))&&(decide (d.n≤(gt l i).t)) <;> rfl
theorem Fo(l:List Span)(d:Dot):kw l d=some (vy l d):=by
  unfold kw
  refine fQ (λi _=>some (vy (l.drop i) d)) (λ_ _=>True) (λs _=>?_) (λf i s hi _ hf=>?_) trivial
  · rw [IB (IG _)]; rfl
  · unfold nq
    rw [hf () trivial,cj hi,vy]
    cases (((gt l i).s==d.s)&&(decide ((gt l i).f≤d.n)))&&(decide (d.n≤(gt l i).t)) <;> rfl
theorem zZ(l:List Span):jb l=some (mw l):=by
  unfold jb mw
  have:=fQ (body:=l4) (k:=λ_=>some (decide (((l.length:Nat):Int)≤1024))) (l:=l) (λi s=>some (spGo (l.drop i) s&&decide (((l.length:Nat):Int)≤1024))) (λi s=>s.t≤4611686018427387904∧0≤s.t)
    (λs _=>?_) (λf i s hi hI hf=>?_) (s:=⟨0,0,0⟩) (by decide)
  · rw [this]; rfl
  · rw [IB (IG _)]; rfl
  · unfold l4
    rw [aH (x:=s.t+1) (by unfold I64; omega),cj hi,spGo]
    show (bif qH (gt l i) s then _ else _)=_
    cases h:qH (gt l i) s
    · rw [cond_false,cond_false]
      refine hf _ ?_
      unfold qH at h
      simp only [Bool.or_eq_false_iff,Ir] at h
      omega
    · rfl
theorem H7(l:List Span)(s:Int):mq l s=some (Ck l s):=by
  unfold mq Ck
  have:=fQ (body:=kN s) (k:=λx=>some x) (l:=l) (λi t=>some (rp (l.drop i) s t)) (λ_ _=>True)
    (λt _=>?_) (λf i t hi hI hf=>?_) (s:=0) trivial
  · rw [this]; rfl
  · rw [IB (IG _)]; rfl
  · unfold kN kO
    rw [hf _ trivial,hf _ trivial,cj hi,rp]
    cases (gt l i).s==s <;> rfl
theorem yx(d:Dot):iZ d=some (og d):=rfl
theorem CP{l:List Span}(hl:l.length≤lim)(hr:∀x∈l,I64 x.f):jn l=some (pD l):=by
  unfold jn pD
  have hd:(decide (1024<((l.length:Nat):Int)))=decide (1024<l.length):=by rw [Bool.eq_iff_iff,Iq,Iq]; omega
  rw [hd]
  cases decide (1024<l.length)
  · rw [cond_false,cond_false,ww (p:=λi=>!(qZ (gt l i))&&!(decide (0<(i:Int))&&u0 (gt l (i - 1)) (gt l i))) (r:=some false) (λf i hi=>?_)]
    · cases eX (λi=>!(qZ (gt l i))&&!(decide (0<(i:Int))&&u0 (gt l (i - 1)) (gt l i))) 0 l.length <;> rfl
    · unfold lU
      rw [aB] at hl
      have hf:(1≤(gt l i).f→w64 ((gt l i).f - 1)=(gt l i).f - 1):=λh=>aH (by have:=hr _ (F0 hi); unfold I64 at *; omega)
      rw [yx,yx,yK (by omega)]
      simp only [IC,dX]
      unfold qZ
      cases h1:og ⟨(gt l i).s,(gt l i).f⟩
      · rfl
      · cases h2:og ⟨(gt l i).s,(gt l i).t⟩
        · rfl
        · cases h3:decide ((gt l i).t<(gt l i).f)
          · simp only [Bool.not_true,Bool.not_false,cond_true,Bool.or_self,cond_false]
            rw [hf (FC h1).2.2.1]
            by_cases h0:0<(i:Int)
            · rw [show decide (0<((i:Nat):Int))=true by simpa using h0]
              have hi1:(((i:Nat):Int) - 1).toNat=i - 1:=by omega
              rw [aw (show imp true (inb (((i:Nat):Int) - 1) l.length)=true by
                show inb _ _=true
                unfold inb
                rw [Iw,Iq,Iq]; omega),hi1]
              unfold u0
              simp only [Bool.true_and]
              cases (decide ((gt l i).s<(gt l (i - 1)).s)||((gt l i).s==(gt l (i - 1)).s)&&decide ((gt l i).f - 1≤(gt l (i - 1)).t)) <;> rfl
            · rw [show decide (0<((i:Nat):Int))=false by simpa using h0]
              rfl
          · rfl
  · rfl
theorem FF(l:List Span)(s:Int):kF l s=some (vk l s):=by
  unfold kF vk
  have:=fQ (body:=kL s) (k:=λx=>some x) (l:=l) (λi t=>some (rE (l.drop i) s t)) (λ_ _=>True)
    (λt _=>?_) (λf i t hi hI hf=>?_) (s:=0) trivial
  · rw [this]; rfl
  · rw [IB (IG _)]; rfl
  · unfold kL iG
    rw [hf _ trivial,hf _ trivial,cj hi,rE]
    cases ((gt l i).s==s)&&(decide (t<(gt l i).t)) <;> rfl
structure VerOk (v:Ver):Prop where
  dot:I64 v.dot.s∧I64 v.dot.n
  len:v.past.length≤lim
  past:∀x∈v.past,I64 x.f
  val:v.val.size≤lim
def VersOk(l:List Ver):Prop:=l.length≤lim∧∀v∈l,VerOk v
theorem Bh(v:Ver):gV v=some (j9 v):=by
  unfold gV j9
  rw [zZ,zZ,H7]
  simp only [IC,dX]
  cases mw [⟨v.dot.s,v.dot.n,v.dot.n⟩] <;> cases mw v.past <;> rfl
theorem Eg(a b:Dot):mD a b=some (mQ a b):=rfl
theorem E4(d:Dot)(l:List Ver):jD d l=some (jA d l):=by
  unfold jD
  refine fQ (λi _=>some (jA d (l.drop i))) (λ_ _=>True) (λs _=>?_) (λf i s hi _ hf=>?_) trivial
  · rw [IB (IG _)]; rfl
  · unfold kz
    rw [hf () trivial,cj hi,jA,HF]
    simp only [IC]
    cases vh (gt l i).past d <;> rfl
theorem e_Right5{l:List Ver}(hl:l.length≤lim):kG l=some (vQ l):=by
  unfold kG vQ
  rw [ww (p:=λi=>!(((!(j9 (gt l i)))||(decide (0<(i:Int))&&(!(mQ (gt l (i - 1)).dot (gt l i).dot))))||jA (gt l i).dot l)) (r:=some false) (λf i hi=>?_)]
  · cases eX (λi=>!(((!(j9 (gt l i)))||(decide (0<(i:Int))&&(!(mQ (gt l (i - 1)).dot (gt l i).dot))))||jA (gt l i).dot l)) 0 l.length <;> rfl
  · unfold nb
    rw [aB] at hl
    rw [Bh,Eg,E4,yK (by omega)]
    simp only [IC,dX]
    cases h1:j9 (gt l i)
    · rfl
    · by_cases h0:0<(i:Int)
      · rw [show decide (0<((i:Nat):Int))=true by simpa using h0]
        have hi1:(((i:Nat):Int) - 1).toNat=i - 1:=by omega
        rw [aw (show imp _ (inb (((i:Nat):Int) - 1) l.length)=true by
          show inb _ _=true
          unfold inb
          rw [Iw,Iq,Iq]; omega),hi1]
        cases mQ (gt l (i - 1)).dot (gt l i).dot <;> cases jA (gt l i).dot l <;> rfl
      · rw [show decide (0<((i:Nat):Int))=false by simpa using h0]
        show (bif _||_ then _ else _)=_
        cases jA (gt l i).dot l <;> rfl
theorem Bp(l:List Ver)(d:Dot):iO l d=some (jz l d):=by
  unfold iO
  refine fQ (λi _=>some (jz (l.drop i) d)) (λ_ _=>True) (λs _=>?_) (λf i s hi _ hf=>?_) trivial
  · rw [IB (IG _)]; rfl
  · unfold lE
    rw [hf () trivial,cj hi,jz,Fo]
    simp only [IC]
    cases vy (gt l i).past d <;> rfl
theorem Hh(a b:Dot):jT a b=some (ov a b):=by
  unfold jT ov
  cases a.s != b.s <;> rfl
theorem yq{v:Ver}(hv:VerOk v):gO v=some (iC v):=by
  unfold gO iC
  rw [yx,CP hv.len hv.past,FF]
  simp only [IC,dX]
  cases og v.dot
  · rfl
  · cases pD v.past
    · rfl
    · simp only [Bool.not_true,Bool.not_false,Bool.or_self,cond_true,Bool.false_or]
      cases decide (v.dot.n≤vk v.past v.dot.s)
      · cases v.gone <;> rfl
      · rfl
theorem e_r5Right{l:List Ver}(hl:VersOk l):jo l=some (r5Right l):=by
  unfold jo r5Right
  have hd:(decide (512<((l.length:Nat):Int)))=decide (512<l.length):=by rw [Bool.eq_iff_iff,Iq,Iq]; omega
  rw [hd]
  cases decide (512<l.length)
  · rw [cond_false,cond_false,ww (p:=λi=>!((!(iC (gt l i)))||jz l (gt l i).dot)&&!(decide (0<(i:Int))&&!(ov (gt l (i - 1)).dot (gt l i).dot))) (r:=some false) (λf i hi=>?_)]
    · cases eX (λi=>!((!(iC (gt l i)))||jz l (gt l i).dot)&&!(decide (0<(i:Int))&&!(ov (gt l (i - 1)).dot (gt l i).dot))) 0 l.length <;> rfl
    · unfold lX
      have hl1:=hl.1
      rw [aB] at hl1
      rw [yq (hl.2 _ (F0 hi)),Bp,Hh,yK (by omega)]
      simp only [IC,dX]
      cases iC (gt l i)
      · rfl
      · cases jz l (gt l i).dot
        · by_cases h0:0<(i:Int)
          · rw [show decide (0<((i:Nat):Int))=true by simpa using h0]
            have hi1:(((i:Nat):Int) - 1).toNat=i - 1:=by omega
            simp only [Bool.not_true,Bool.not_false,cond_true,Bool.or_self,cond_false,Bool.true_and]
            rw [aw (show imp _ (inb (((i:Nat):Int) - 1) l.length)=true by
              show inb _ _=true
              unfold inb
              rw [Iw,Iq,Iq]; omega),hi1]
            cases ov (gt l (i - 1)).dot (gt l i).dot <;> rfl
          · rw [show decide (0<((i:Nat):Int))=false by simpa using h0]
            rfl
        · rfl
  · rfl
theorem sl_versOk{Γ:Gh}{A:Option Addr}{l:List Ver}(h:Sl verT Γ A l):VersOk l:=by
  refine⟨h.le,λv hv=>?_⟩
  obtain⟨i,hi,rfl⟩:=EX hv
  obtain⟨A2,c2,h2⟩:=h.verT_at i
  obtain⟨⟨h3,h4,⟨_,h5⟩,h6⟩,_⟩:=h2 hi
  refine⟨⟨h3,h4⟩,h5.le,λx hx=>?_,h6⟩
  obtain⟨k,hk,rfl⟩:=EX hx
  exact(h5.spanT_at hk).1.2.1
end Mg
end Fw
end Go.Proofs.YtmafjpdiplfcmaaGreat
