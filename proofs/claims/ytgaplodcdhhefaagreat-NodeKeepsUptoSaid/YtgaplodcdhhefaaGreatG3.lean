/- Merging, out of layer 16. No condition. -/
import Derived.Test.YtgaplodcdhhefaaGreatG2
namespace Go.Proofs.YtgaplodcdhhefaaGreat
namespace Fw
namespace Mg
set_option linter.unusedVariables false
set_option linter.unusedSimpArgs false
set_option linter.unusedSectionVars false
theorem je(a b:Dot):bI a b=ba a b:=by
 unfold bI ba
 by_cases h:a.s=b.s
 ·simp [h]
 ·have h1:(a.s != b.s)=true:=by simpa using h
  have h2:(a.s==b.s)=false:=by simpa using h
  simp [h1,h2]
theorem yP:∀(l:List Span) (d:Dot),qL l d=qE l d
 | [],_=>rfl
 | x::l,d=>by rw [qL,qE,yP l d]
theorem uu:∀(l:List Span) (s t:Int),nn l s t=nl l s t
 | [],_,_=>rfl
 | x::l,s,t=>by
  rw [nn,nl,uu l]
  congr 1
  by_cases h:x.s=s
  ·by_cases h2:t<x.t
   ·simp [h,h2]; omega
   ·simp [h,h2]; omega
  ·have:(x.s==s)=false:=by simpa using h
   simp [this]
theorem C4(l:List Span)(s:Int):xq l s=qK l s:=uu l s 0
theorem nq:∀(d:Dot) (l:List Ver),cA d l=r5Behind l d
 | _,[]=>rfl
 | d,v::l=>by rw [cA,r5Behind,yP,nq d l]
def pchk{α:Type}(p:α→Bool)(q:α→α→Bool):Option α→List α→Bool
 | _,[]=>true
 | none,x::l=>p x&&pchk p q (some x) l
 | some y,x::l=>(p x&&q y x)&&pchk p q (some x) l
theorem vt{α:Type}[Inhabited α](p:α→Bool)(q:α→α→Bool)(l:List α)(f:Nat→Bool)(h0:0<l.length→f 0=p (gt l 0))(hs:∀i,i+1<l.length→f (i+1)=(p (gt l (i+1))&&q (gt l i) (gt l (i+1)))):
  bl f 0 l.length=pchk p q none l:=by
 have key:∀m k,l.length - (k+1)=m→bl f (k+1) l.length=pchk p q (some (gt l k)) (l.drop (k+1)):=by
  intro m
  induction m with
  | zero=>
   intro k hk
   rw [mL (by omega),E1 (by omega)]; rfl
  | succ m ih=>
   intro k hk
   rw [jR (by omega),bo (by omega),pchk,hs k (by omega),ih (k+1) (by omega)]
 by_cases hl:0<l.length
 ·have h1:l=gt l 0::l.drop 1:=by have:=bo hl; simpa using this
  rw [jR hl,h0 hl,key _ 0 rfl]
  conv=>rhs; rw [h1]
  rfl
 ·have:l = []:=List.eq_nil_of_length_eq_zero (by omega)
  subst this; rfl
theorem xP(x y:Span):(!(mr x y))=((!(ml x))&&(!(oX y x))):=by
 rw [Bool.eq_iff_iff]
 simp only [mr,ml,oX,kE,Bool.not_eq_true',Bool.or_eq_false_iff,DW,Bool.and_eq_false_iff,DR,DQ,beq_eq_false_iff_ne,Bool.not_eq_false',ne_eq]
 omega
theorem ye(x:Span):(!(mr x ⟨0,0,0⟩))=!(ml x):=by
 rw [Bool.eq_iff_iff]
 simp only [mr,ml,kE,Bool.not_eq_true',Bool.or_eq_false_iff,DW,Bool.and_eq_false_iff,DR,DQ,beq_eq_false_iff_ne,Bool.not_eq_false',ne_eq]
 omega
theorem vB:∀(l:List Span) (y:Span),spGo l y=pchk (λx=>!(ml x)) (λp x=>!(oX p x)) (some y) l
 | [],_=>rfl
 | x::l,y=>by
  rw [spGo,pchk, ← vB l x, ← xP]
  cases mr x y <;> rfl
theorem wH(l:List Span):j8 l=lK l:=by
 unfold j8 lK
 have h1:spGo l ⟨0,0,0⟩=pchk (λx=>!(ml x)) (λp x=>!(oX p x)) none l:=by
  cases l with
  | nil=>rfl
  | cons x l=>
   rw [spGo,pchk, ← vB l x, ← ye]
   cases mr x ⟨0,0,0⟩ <;> rfl
 rw [h1,vt (λx=>!(ml x)) (λp x=>!(oX p x))]
 ·by_cases h:1024<l.length
  ·have h2:decide ((l.length:Int)≤1024)=false:=by simp; omega
   simp [h,h2]
  ·have h2:decide ((l.length:Int)≤1024)=true:=by simp; omega
   simp [h,h2]
 ·intro _; simp
 ·intro i _
  have:decide ((0:Int)<((i+1:Nat):Int))=true:=by rw [DQ]; omega
  rw [this,Bool.true_and,Nat.add_sub_cancel]
theorem vL(v:Ver):fh v=dl v:=by
 unfold fh dl
 rw [wH v.past,C4]
 have h1:j8 [⟨v.dot.s,v.dot.n,v.dot.n⟩]=kE v.dot:=by
  rw [Bool.eq_iff_iff]
  have e:∀c:Bool,(bif c then false else true)=!c:=by decide
  simp only [j8,spGo,e,mr,kE,DW,DQ,List.length_singleton,Bool.not_eq_true',Bool.or_eq_false_iff,DR,Bool.and_eq_false_iff,beq_eq_false_iff_ne,ne_eq]
  omega
 rw [h1]
 have h2:(decide (qK v.past v.dot.s<v.dot.n))=!(decide (v.dot.n≤qK v.past v.dot.s)):=by
  rw [Bool.eq_iff_iff]; simp
 rw [h2]
 cases kE v.dot <;> cases lK v.past <;> cases decide (v.dot.n≤qK v.past v.dot.s) <;> cases hg:v.gone <;> simp [hg]
 intro h
 try rw [iZ,DQ] at h
 rw [h]
 decide
theorem right_eq(l:List Ver):jf l=r5Right l:=by
 unfold jf r5Right
 have h1:bl (λi=>!(((!(fh (gt l i)))||(decide (0<(i:Int))&&(!(bI (gt l (i - 1)).dot (gt l i).dot))))||cA (gt l i).dot l)) 0 l.length =
   bl (λi=>!((!(dl (gt l i)))||r5Behind l (gt l i).dot)&&!(decide (0<(i:Int))&&!(ba (gt l (i - 1)).dot (gt l i).dot))) 0 l.length:=by
  refine sL λi _=>?_
  rw [vL,je,nq]
  cases dl (gt l i) <;> cases r5Behind l (gt l i).dot <;> cases (decide (0<(i:Int))&&!(ba (gt l (i - 1)).dot (gt l i).dot)) <;> rfl
 rw [h1]
 by_cases h:512<l.length
 ·have h2:decide ((l.length:Int)≤512)=false:=by rw [DR]; omega
  simp [h,h2]
 ·have h2:decide ((l.length:Int)≤512)=true:=by rw [DQ]; omega
  simp [h,h2]
theorem nt{l:List Ver}(h:r5Right l=true):l.length≤512∧(∀x∈l,dl x=true∧r5Behind l x.dot=false)∧l.Pairwise (λx y=>ba x.dot y.dot=true):=by
 unfold r5Right at h
 by_cases hl:512<l.length
 ·simp [hl] at h
 ·have hd:decide (512<l.length)=false:=by simpa using hl
  rw [hd,cond_false,me] at h
  refine⟨by omega,λx hx=>?_,?_⟩
  ·obtain⟨i,hi,rfl⟩:=vP hx
   have:=h i hi
   simp only [DW,Bool.not_eq_true',Bool.or_eq_false_iff,Bool.not_eq_false'] at this
   exact this.1
  ·have htr:∀a b c:Dot,ba a b=true→ba b c=true→ba a c=true:=by
    intro a b c
    rw [← je, ← je, ← je]
    simp only [bI,Bool.or_eq_true,DW,DQ,beq_iff_eq]
    omega
   rw [List.pairwise_iff_getElem]
   have key:∀m i,i+m+1<l.length→ba (gt l i).dot (gt l (i+m+1)).dot=true:=by
    intro m
    induction m with
    | zero=>
     intro i hi
     have:=h (i+1) hi
     simp only [DW,Bool.not_eq_true'] at this
     have h2:=this.2
     rw [show decide ((0:Int)<((i+1:Nat):Int))=true by rw [DQ]; omega,Bool.true_and,Bool.not_eq_false',Nat.add_sub_cancel] at h2
     exact h2
    | succ m ih=>
     intro i hi
     refine htr _ _ _ (ih i (by omega)) ?_
     have:=h (i+m+1+1) hi
     simp only [DW,Bool.not_eq_true'] at this
     have h2:=this.2
     rw [show decide ((0:Int)<((i+m+1+1:Nat):Int))=true by rw [DQ]; omega,Bool.true_and,Bool.not_eq_false',Nat.add_sub_cancel] at h2
     exact h2
   intro i j hi hj hij
   have:=key (j - i - 1) i (by omega)
   rw [show i+(j - i - 1)+1=j by omega,bA hi,bA hj] at this
   exact this
def Srt(l:List Ver):Prop:=l.Pairwise (λx y=>ba x.dot y.dot=true)
theorem ld(a:Dot):ba a a=false:=by
 rw [← je]; simp [bI]
theorem iU{a b c:Dot}(h1:ba a b=true)(h2:ba b c=true):ba a c=true:=by
 rw [← je] at *
 simp only [bI,Bool.or_eq_true,DW,DQ,beq_iff_eq] at *
 omega
theorem rG(a b:Dot):ba a b=true∨a=b∨ba b a=true:=by
 rw [← je, ← je]
 cases a; cases b
 simp only [bI,Bool.or_eq_true,DW,DQ,beq_iff_eq,Dot.mk.injEq]
 omega
theorem xh:∀{l m:List Ver},Srt l→Srt m→(∀x,x∈l↔x∈m)→l=m
 | [],[],_,_,_=>rfl
 | [],y::m,_,_,h=>absurd ((h y).2 (by simp)) (by simp)
 | x::l,[],_,_,h=>absurd ((h x).1 (by simp)) (by simp)
 | x::l,y::m,hl,hm,h=>by
  obtain⟨hx,hl2⟩:=List.pairwise_cons.1 hl
  obtain⟨hy,hm2⟩:=List.pairwise_cons.1 hm
  have hxy:x=y:=by
   rcases List.mem_cons.1 ((h x).1 (by simp)) with e | e
   ·exact e
   ·rcases List.mem_cons.1 ((h y).2 (by simp)) with e2 | e2
    ·exact e2.symm
    ·have:=iU (hy x e) (hx y e2)
     rw [ld] at this; cases this
  subst hxy
  congr 1
  refine xh hl2 hm2 λz=>?_
  constructor
  ·intro hz
   rcases List.mem_cons.1 ((h z).1 (DU _ hz)) with e | e
   ·subst e; have:=hx z hz; rw [ld] at this; cases this
   ·exact e
  ·intro hz
   rcases List.mem_cons.1 ((h z).2 (DU _ hz)) with e | e
   ·subst e; have:=hy z hz; rw [ld] at this; cases this
   ·exact e
def ins(v:Ver):List Ver→List Ver
 | []=>[v]
 | x::l=>bif ba x.dot v.dot then x::ins v l else bif x.dot==v.dot then x::l else v::x::l
theorem oq:∀(l:List Ver) (d:Dot) (k:Nat),ek l d k=k+ek l d 0
 | [],_,_=>rfl
 | x::l,d,k=>by
  rw [ek,ek,oq l d (k+1),oq l d (0+1)]
  cases ba x.dot d
  ·simp
  ·simp only [cond_true]; omega
theorem jU:∀(l:List Ver) (v:Ver),x7 l v=ins v l
 | [],v=>by simp [x7,ins,ek]
 | x::l,v=>by
  have ih:=jU l v
  unfold x7 at ih ⊢
  rw [ins,ek,oq l v.dot (0+1)]
  cases hx:ba x.dot v.dot
  ·simp [gt]
  ·simp only [cond_true]
   rw [← ih]
   have h1:gt (x::l) (0+1+ek l v.dot 0)=gt l (ek l v.dot 0):=by rw [show 0+1+ek l v.dot 0=ek l v.dot 0+1 by omega]; rfl
   have h2:decide (((0+1+ek l v.dot 0:Nat):Int)<((x::l).length:Int))=decide (((ek l v.dot 0:Nat):Int)<(l.length:Int)):=by
    rw [Bool.eq_iff_iff,DQ,DQ]; simp only [DY]; omega
   rw [h1,h2,show 0+1+ek l v.dot 0=ek l v.dot 0+1 by omega]
   cases (decide (((ek l v.dot 0:Nat):Int)<(l.length:Int))&&((gt l (ek l v.dot 0)).dot==v.dot)) <;> simp
theorem re{v y:Ver}:∀{l:List Ver},y∈ins v l→y=v∨y∈l
 | [],h=>by simp [ins] at h; exact .inl h
 | x::l,h=>by
  rw [ins] at h
  cases hx:ba x.dot v.dot
  ·rw [hx,cond_false] at h
   cases he:(x.dot==v.dot)
   ·rw [he,cond_false] at h; exact List.mem_cons.1 h
   ·rw [he,cond_true] at h; exact .inr h
  ·rw [hx,cond_true] at h
   rcases List.mem_cons.1 h with h | h
   ·exact .inr (h▸DT)
   ·exact(re h).imp id (DU _)
theorem xc{v y:Ver}:∀{l:List Ver},y∈l→y∈ins v l
 | x::l,h=>by
  rw [ins]
  cases hx:ba x.dot v.dot
  ·rw [cond_false]
   cases he:(x.dot==v.dot)
   ·rw [cond_false]; exact DU _ h
   ·rw [cond_true]; exact h
  ·rw [cond_true]
   rcases List.mem_cons.1 h with h | h
   ·exact h▸DT
   ·exact DU _ (xc h)
theorem xy{v:Ver}:∀{l:List Ver},Srt l→Srt (ins v l)
 | [],_=>by simp [ins,Srt]
 | x::l,h=>by
  obtain⟨h1,h2⟩:=List.pairwise_cons.1 h
  rw [ins]
  cases hx:ba x.dot v.dot
  ·rw [cond_false]
   cases he:(x.dot==v.dot)
   ·rw [cond_false]
    have hvx:ba v.dot x.dot=true:=by
     rcases rG x.dot v.dot with h3 | h3 | h3
     ·rw [hx] at h3; cases h3
     ·rw [h3] at he; simp at he
     ·exact h3
    refine List.pairwise_cons.2 ⟨λy hy=>?_,h⟩
    rcases List.mem_cons.1 hy with e | e
    ·rw [e]; exact hvx
    ·exact iU hvx (h1 y e)
   ·rw [cond_true]; exact h
  ·rw [cond_true]
   refine List.pairwise_cons.2 ⟨λy hy=>?_,xy h2⟩
   rcases re hy with e | e
   ·rw [e]; exact hx
   ·exact h1 y e
theorem wT{v:Ver}:∀{l:List Ver},(∀x∈l,x.dot=v.dot→x=v)→v∈ins v l
 | [],_=>by simp [ins]
 | x::l,h=>by
  rw [ins]
  cases hx:ba x.dot v.dot
  ·rw [cond_false]
   cases he:(x.dot==v.dot)
   ·rw [cond_false]; exact DT
   ·rw [cond_true]
    have:=h x DT (eq_of_beq he)
    exact this▸DT
  ·rw [cond_true]; exact DU _ (wT λy hy=>h y (DU _ hy))
theorem sg:∀{l skip out:List Ver},Srt out→Srt (eD l skip out)
 | [],_,_,h=>h
 | x::l,skip,out,h=>by
  rw [eD]
  refine sg ?_
  cases r5Behind skip x.dot
  ·simp only [Bool.not_false,cond_true]; rw [jU]; exact xy h
  ·simpa using h
theorem pg{y:Ver}:∀{l skip out:List Ver},y∈eD l skip out→y∈out∨(y∈l∧r5Behind skip y.dot=false)
 | [],_,_,h=>.inl h
 | x::l,skip,out,h=>by
  rw [eD] at h
  rcases pg h with h1 | ⟨h1,h2⟩
  ·cases hb:r5Behind skip x.dot
   ·rw [hb] at h1
    simp only [Bool.not_false,cond_true] at h1
    rw [jU] at h1
    rcases re h1 with e | e
    ·subst e; exact .inr ⟨DT,hb⟩
    ·exact .inl e
   ·rw [hb] at h1; exact .inl (by simpa using h1)
  ·exact .inr ⟨DU _ h1,h2⟩
theorem rM{y:Ver}:∀{l skip out:List Ver},y∈out→y∈eD l skip out
 | [],_,_,h=>h
 | x::l,skip,out,h=>by
  rw [eD]
  refine rM ?_
  cases r5Behind skip x.dot
  ·simp only [Bool.not_false,cond_true]; rw [jU]; exact xc h
  ·simpa using h
theorem rT{y:Ver}:∀{l skip out:List Ver},(∀a∈l, ∀b∈l,a.dot=b.dot→a=b)→(∀a∈out, ∀b∈l,a.dot=b.dot→a=b)→y∈l→r5Behind skip y.dot=false→y∈eD l skip out
 | [],_,_,_,_,h,_=>by cases h
 | x::l,skip,out,hl,ho,h,hb=>by
  rw [eD]
  rcases List.mem_cons.1 h with e | e
  ·subst e
   rw [hb]
   simp only [Bool.not_false,cond_true]
   rw [jU]
   exact rM (wT λa ha hd=>ho a ha y DT hd)
  ·refine rT (λa ha b hb'=>hl a (DU _ ha) b (DU _ hb')) ?_ e hb
   intro a ha b hb' hd
   cases hx:r5Behind skip x.dot
   ·rw [hx] at ha
    simp only [Bool.not_false,cond_true] at ha
    rw [jU] at ha
    rcases re ha with e2 | e2
    ·rw [e2] at hd ⊢; exact hl x DT b (DU _ hb') hd
    ·exact ho a e2 b (DU _ hb') hd
   ·rw [hx] at ha
    exact ho a (by simpa using ha) b (DU _ hb') hd
def kept(A B:List Ver)(y:Ver):Bool:=!(r5Behind A y.dot)&&!(r5Behind B y.dot)
theorem tq(v:Ver)(A B out:List Ver):iF v A B out=bif kept A B v then out++[v] else out:=by
 unfold iF kept; rw [nq,nq]
theorem d3{v y:Ver}{A B out:List Ver}:y∈iF v A B out↔y∈out∨(y=v∧kept A B v=true):=by
 rw [tq]
 cases kept A B v <;> simp
theorem pL{A B:List Ver}{y:Ver}:∀{n:Nat} {a b:List Ver} {tw:Bool} {out:List Ver},y∈(vsGo A B n a b tw out).2→y∈out∨((y∈a∨y∈b)∧kept A B y=true)
 | 0,_,_,_,_,h=>.inl h
 | n+1,[],[],_,_,h=>.inl h
 | n+1,[],z::b,tw,out,h=>by
  rw [vsGo] at h
  rcases pL h with h | ⟨h,hk⟩
  ·rcases d3.1 h with h | ⟨rfl,hk⟩
   ·exact .inl h
   ·exact .inr ⟨.inr DT,hk⟩
  ·exact .inr ⟨h.imp id (DU _),hk⟩
 | n+1,x::a,[],tw,out,h=>by
  rw [vsGo] at h
  rcases pL h with h | ⟨h,hk⟩
  ·rcases d3.1 h with h | ⟨rfl,hk⟩
   ·exact .inl h
   ·exact .inr ⟨.inl DT,hk⟩
  ·exact .inr ⟨h.imp (DU _) id,hk⟩
 | n+1,x::a,z::b,tw,out,h=>by
  rw [vsGo] at h
  cases hb:bI x.dot z.dot
  ·rw [hb,cond_false] at h
   cases he:(x.dot==z.dot)
   ·rw [he,cond_false] at h
    rcases pL h with h | ⟨h,hk⟩
    ·rcases d3.1 h with h | ⟨rfl,hk⟩
     ·exact .inl h
     ·exact .inr ⟨.inr DT,hk⟩
    ·exact .inr ⟨h.imp id (DU _),hk⟩
   ·rw [he,cond_true] at h
    rcases pL h with h | ⟨h,hk⟩
    ·exact .inl h
    ·exact .inr ⟨h.imp (DU _) id,hk⟩
  ·rw [hb,cond_true] at h
   rcases pL h with h | ⟨h,hk⟩
   ·rcases d3.1 h with h | ⟨rfl,hk⟩
    ·exact .inl h
    ·exact .inr ⟨.inl DT,hk⟩
   ·exact .inr ⟨h.imp (DU _) id,hk⟩
end Mg
end Fw
end Go.Proofs.YtgaplodcdhhefaaGreat
