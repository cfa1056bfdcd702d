/- Merging, out of layer 16. No condition. -/
import Derived.Test.YtckindfllegbgaaGreatG2
namespace Go.Proofs.YtckindfllegbgaaGreat
namespace Fw
namespace Mg
set_option linter.unusedVariables false
set_option linter.unusedSimpArgs false
set_option linter.unusedSectionVars false
theorem less_eq(a b:Dot):vsBefore a b=r5Less a b:=by
 unfold vsBefore r5Less
 by_cases h:a.s=b.s
 ·simp [h]
 ·have h1:(a.s != b.s)=true:=by simpa using h
  have h2:(a.s==b.s)=false:=by simpa using h
  simp [h1,h2]
theorem has_eq:∀(l:List Span) (d:Dot),spHas l d=r3Has l d
 | [],_=>rfl
 | x::l,d=>by rw [spHas,r3Has,has_eq l d]
theorem topGo_eq:∀(l:List Span) (s t:Int),spTopGo l s t=r3TopGo l s t
 | [],_,_=>rfl
 | x::l,s,t=>by
  rw [spTopGo,r3TopGo,topGo_eq l]
  congr 1
  by_cases h:x.s=s
  ·by_cases h2:t<x.t
   ·simp [h,h2]; omega
   ·simp [h,h2]; omega
  ·have:(x.s==s)=false:=by simpa using h
   simp [this]
theorem top_eq(l:List Span)(s:Int):spTop l s=r3Top l s:=topGo_eq l s 0
theorem behind_eq:∀(d:Dot) (l:List Ver),vsBehind d l=r5Behind l d
 | _,[]=>rfl
 | d,v::l=>by rw [vsBehind,r5Behind,has_eq,behind_eq d l]
def pchk{α:Type}(p:α→Bool)(q:α→α→Bool):Option α→List α→Bool
 | _,[]=>true
 | none,x::l=>p x&&pchk p q (some x) l
 | some y,x::l=>(p x&&q y x)&&pchk p q (some x) l
theorem allFrom_chk{α:Type}[Inhabited α](p:α→Bool)(q:α→α→Bool)(l:List α)(f:Nat→Bool)(h0:0<l.length→f 0=p (gt l 0))(hs:∀i,i+1<l.length→f (i+1)=(p (gt l (i+1))&&q (gt l i) (gt l (i+1)))):
  allFrom f 0 l.length=pchk p q none l:=by
 have key:∀m k,l.length - (k+1)=m→allFrom f (k+1) l.length=pchk p q (some (gt l k)) (l.drop (k+1)):=by
  intro m
  induction m with
  | zero=>
   intro k hk
   rw [allFrom_end (by omega),List.drop_of_length_le (by omega)]; rfl
  | succ m ih=>
   intro k hk
   rw [allFrom_step (by omega),drop_gt (by omega),pchk,hs k (by omega),ih (k+1) (by omega)]
 by_cases hl:0<l.length
 ·have h1:l=gt l 0::l.drop 1:=by have:=drop_gt hl; simpa using this
  rw [allFrom_step hl,h0 hl,key _ 0 rfl]
  conv=>rhs; rw [h1]
  rfl
 ·have:l = []:=List.eq_nil_of_length_eq_zero (by omega)
  subst this; rfl
theorem spBad_two(x y:Span):(!(spBad x y))=((!(r3One x))&&(!(r3Two y x))):=by
 rw [Bool.eq_iff_iff]
 simp only [spBad,r3One,r3Two,r3Dot,Bool.not_eq_true',Bool.or_eq_false_iff,Bool.and_eq_true,Bool.and_eq_false_iff,decide_eq_false_iff_not,decide_eq_true_eq,beq_eq_false_iff_ne,Bool.not_eq_false',ne_eq]
 omega
theorem spBad_one(x:Span):(!(spBad x ⟨0,0,0⟩))=!(r3One x):=by
 rw [Bool.eq_iff_iff]
 simp only [spBad,r3One,r3Dot,Bool.not_eq_true',Bool.or_eq_false_iff,Bool.and_eq_true,Bool.and_eq_false_iff,decide_eq_false_iff_not,decide_eq_true_eq,beq_eq_false_iff_ne,Bool.not_eq_false',ne_eq]
 omega
theorem spGo_chk:∀(l:List Span) (y:Span),spGo l y=pchk (λx=>!(r3One x)) (λp x=>!(r3Two p x)) (some y) l
 | [],_=>rfl
 | x::l,y=>by
  rw [spGo,pchk, ← spGo_chk l x, ← spBad_two]
  cases spBad x y <;> rfl
theorem spRight_eq(l:List Span):spRight l=r3Right l:=by
 unfold spRight r3Right
 have h1:spGo l ⟨0,0,0⟩=pchk (λx=>!(r3One x)) (λp x=>!(r3Two p x)) none l:=by
  cases l with
  | nil=>rfl
  | cons x l=>
   rw [spGo,pchk, ← spGo_chk l x, ← spBad_one]
   cases spBad x ⟨0,0,0⟩ <;> rfl
 rw [h1,allFrom_chk (λx=>!(r3One x)) (λp x=>!(r3Two p x))]
 ·by_cases h:1024<l.length
  ·have h2:decide ((l.length:Int)≤1024)=false:=by simp; omega
   simp [h,h2]
  ·have h2:decide ((l.length:Int)≤1024)=true:=by simp; omega
   simp [h,h2]
 ·intro _; simp
 ·intro i _
  have:decide ((0:Int)<((i+1:Nat):Int))=true:=by rw [decide_eq_true_eq]; omega
  rw [this,Bool.true_and,Nat.add_sub_cancel]
theorem rightOne_eq(v:Ver):vsRightOne v=r5RightOne v:=by
 unfold vsRightOne r5RightOne
 rw [spRight_eq v.past,top_eq]
 have h1:spRight [⟨v.dot.s,v.dot.n,v.dot.n⟩]=r3Dot v.dot:=by
  rw [Bool.eq_iff_iff]
  have e:∀c:Bool,(bif c then false else true)=!c:=by decide
  simp only [spRight,spGo,e,spBad,r3Dot,Bool.and_eq_true,decide_eq_true_eq,List.length_singleton,Bool.not_eq_true',Bool.or_eq_false_iff,decide_eq_false_iff_not,Bool.and_eq_false_iff,beq_eq_false_iff_ne,ne_eq]
  omega
 rw [h1]
 have h2:(decide (r3Top v.past v.dot.s<v.dot.n))=!(decide (v.dot.n≤r3Top v.past v.dot.s)):=by
  rw [Bool.eq_iff_iff]; simp
 rw [h2]
 cases r3Dot v.dot <;> cases r3Right v.past <;> cases decide (v.dot.n≤r3Top v.past v.dot.s) <;> cases hg:v.gone <;> simp [hg]
 intro h
 try rw [bytes_beq,decide_eq_true_eq] at h
 rw [h]
 decide
theorem right_eq(l:List Ver):vsRight l=r5Right l:=by
 unfold vsRight r5Right
 have h1:allFrom (λi=>!(((!(vsRightOne (gt l i)))||(decide (0<(i:Int))&&(!(vsBefore (gt l (i - 1)).dot (gt l i).dot))))||vsBehind (gt l i).dot l)) 0 l.length =
   allFrom (λi=>!((!(r5RightOne (gt l i)))||r5Behind l (gt l i).dot)&&!(decide (0<(i:Int))&&!(r5Less (gt l (i - 1)).dot (gt l i).dot))) 0 l.length:=by
  refine allFrom_congr λi _=>?_
  rw [rightOne_eq,less_eq,behind_eq]
  cases r5RightOne (gt l i) <;> cases r5Behind l (gt l i).dot <;> cases (decide (0<(i:Int))&&!(r5Less (gt l (i - 1)).dot (gt l i).dot)) <;> rfl
 rw [h1]
 by_cases h:512<l.length
 ·have h2:decide ((l.length:Int)≤512)=false:=by rw [decide_eq_false_iff_not]; omega
  simp [h,h2]
 ·have h2:decide ((l.length:Int)≤512)=true:=by rw [decide_eq_true_eq]; omega
  simp [h,h2]
theorem right_iff{l:List Ver}(h:r5Right l=true):l.length≤512∧(∀x∈l,r5RightOne x=true∧r5Behind l x.dot=false)∧l.Pairwise (λx y=>r5Less x.dot y.dot=true):=by
 unfold r5Right at h
 by_cases hl:512<l.length
 ·simp [hl] at h
 ·have hd:decide (512<l.length)=false:=by simpa using hl
  rw [hd,cond_false,all0_iff] at h
  refine⟨by omega,λx hx=>?_,?_⟩
  ·obtain⟨i,hi,rfl⟩:=mem_gt hx
   have:=h i hi
   simp only [Bool.and_eq_true,Bool.not_eq_true',Bool.or_eq_false_iff,Bool.not_eq_false'] at this
   exact this.1
  ·have htr:∀a b c:Dot,r5Less a b=true→r5Less b c=true→r5Less a c=true:=by
    intro a b c
    rw [← less_eq, ← less_eq, ← less_eq]
    simp only [vsBefore,Bool.or_eq_true,Bool.and_eq_true,decide_eq_true_eq,beq_iff_eq]
    omega
   rw [List.pairwise_iff_getElem]
   have key:∀m i,i+m+1<l.length→r5Less (gt l i).dot (gt l (i+m+1)).dot=true:=by
    intro m
    induction m with
    | zero=>
     intro i hi
     have:=h (i+1) hi
     simp only [Bool.and_eq_true,Bool.not_eq_true'] at this
     have h2:=this.2
     rw [show decide ((0:Int)<((i+1:Nat):Int))=true by rw [decide_eq_true_eq]; omega,Bool.true_and,Bool.not_eq_false',Nat.add_sub_cancel] at h2
     exact h2
    | succ m ih=>
     intro i hi
     refine htr _ _ _ (ih i (by omega)) ?_
     have:=h (i+m+1+1) hi
     simp only [Bool.and_eq_true,Bool.not_eq_true'] at this
     have h2:=this.2
     rw [show decide ((0:Int)<((i+m+1+1:Nat):Int))=true by rw [decide_eq_true_eq]; omega,Bool.true_and,Bool.not_eq_false',Nat.add_sub_cancel] at h2
     exact h2
   intro i j hi hj hij
   have:=key (j - i - 1) i (by omega)
   rw [show i+(j - i - 1)+1=j by omega,gt_eq hi,gt_eq hj] at this
   exact this
def Srt(l:List Ver):Prop:=l.Pairwise (λx y=>r5Less x.dot y.dot=true)
theorem less_irr(a:Dot):r5Less a a=false:=by
 rw [← less_eq]; simp [vsBefore]
theorem less_trans{a b c:Dot}(h1:r5Less a b=true)(h2:r5Less b c=true):r5Less a c=true:=by
 rw [← less_eq] at *
 simp only [vsBefore,Bool.or_eq_true,Bool.and_eq_true,decide_eq_true_eq,beq_iff_eq] at *
 omega
theorem less_tri(a b:Dot):r5Less a b=true∨a=b∨r5Less b a=true:=by
 rw [← less_eq, ← less_eq]
 cases a; cases b
 simp only [vsBefore,Bool.or_eq_true,Bool.and_eq_true,decide_eq_true_eq,beq_iff_eq,Dot.mk.injEq]
 omega
theorem srt_ext:∀{l m:List Ver},Srt l→Srt m→(∀x,x∈l↔x∈m)→l=m
 | [],[],_,_,_=>rfl
 | [],y::m,_,_,h=>absurd ((h y).2 (by simp)) (by simp)
 | x::l,[],_,_,h=>absurd ((h x).1 (by simp)) (by simp)
 | x::l,y::m,hl,hm,h=>by
  obtain⟨hx,hl2⟩:=List.pairwise_cons.1 hl
  obtain⟨hy,hm2⟩:=List.pairwise_cons.1 hm
  have hxy:x=y:=by
   rcases List.mem_cons.1 ((h x).1 (by simp)) with e | e
   ·exact e
   ·rcases List.mem_cons.1 ((h y).2 (by simp)) with e2 | e2
    ·exact e2.symm
    ·have:=less_trans (hy x e) (hx y e2)
     rw [less_irr] at this; cases this
  subst hxy
  congr 1
  refine srt_ext hl2 hm2 λz=>?_
  constructor
  ·intro hz
   rcases List.mem_cons.1 ((h z).1 (List.mem_cons_of_mem _ hz)) with e | e
   ·subst e; have:=hx z hz; rw [less_irr] at this; cases this
   ·exact e
  ·intro hz
   rcases List.mem_cons.1 ((h z).2 (List.mem_cons_of_mem _ hz)) with e | e
   ·subst e; have:=hy z hz; rw [less_irr] at this; cases this
   ·exact e
def ins(v:Ver):List Ver→List Ver
 | []=>[v]
 | x::l=>bif r5Less x.dot v.dot then x::ins v l else bif x.dot==v.dot then x::l else v::x::l
theorem r5AtGo_add:∀(l:List Ver) (d:Dot) (k:Nat),r5AtGo l d k=k+r5AtGo l d 0
 | [],_,_=>rfl
 | x::l,d,k=>by
  rw [r5AtGo,r5AtGo,r5AtGo_add l d (k+1),r5AtGo_add l d (0+1)]
  cases r5Less x.dot d
  ·simp
  ·simp only [cond_true]; omega
theorem r5Put_ins:∀(l:List Ver) (v:Ver),r5Put l v=ins v l
 | [],v=>by simp [r5Put,ins,r5AtGo]
 | x::l,v=>by
  have ih:=r5Put_ins l v
  unfold r5Put at ih ⊢
  rw [ins,r5AtGo,r5AtGo_add l v.dot (0+1)]
  cases hx:r5Less x.dot v.dot
  ·simp [gt]
  ·simp only [cond_true]
   rw [← ih]
   have h1:gt (x::l) (0+1+r5AtGo l v.dot 0)=gt l (r5AtGo l v.dot 0):=by rw [show 0+1+r5AtGo l v.dot 0=r5AtGo l v.dot 0+1 by omega]; rfl
   have h2:decide (((0+1+r5AtGo l v.dot 0:Nat):Int)<((x::l).length:Int))=decide (((r5AtGo l v.dot 0:Nat):Int)<(l.length:Int)):=by
    rw [Bool.eq_iff_iff,decide_eq_true_eq,decide_eq_true_eq]; simp only [List.length_cons]; omega
   rw [h1,h2,show 0+1+r5AtGo l v.dot 0=r5AtGo l v.dot 0+1 by omega]
   cases (decide (((r5AtGo l v.dot 0:Nat):Int)<(l.length:Int))&&((gt l (r5AtGo l v.dot 0)).dot==v.dot)) <;> simp
theorem ins_mem{v y:Ver}:∀{l:List Ver},y∈ins v l→y=v∨y∈l
 | [],h=>by simp [ins] at h; exact .inl h
 | x::l,h=>by
  rw [ins] at h
  cases hx:r5Less x.dot v.dot
  ·rw [hx,cond_false] at h
   cases he:(x.dot==v.dot)
   ·rw [he,cond_false] at h; exact List.mem_cons.1 h
   ·rw [he,cond_true] at h; exact .inr h
  ·rw [hx,cond_true] at h
   rcases List.mem_cons.1 h with h | h
   ·exact .inr (h▸List.mem_cons_self)
   ·exact(ins_mem h).imp id (List.mem_cons_of_mem _)
theorem ins_old{v y:Ver}:∀{l:List Ver},y∈l→y∈ins v l
 | x::l,h=>by
  rw [ins]
  cases hx:r5Less x.dot v.dot
  ·rw [cond_false]
   cases he:(x.dot==v.dot)
   ·rw [cond_false]; exact List.mem_cons_of_mem _ h
   ·rw [cond_true]; exact h
  ·rw [cond_true]
   rcases List.mem_cons.1 h with h | h
   ·exact h▸List.mem_cons_self
   ·exact List.mem_cons_of_mem _ (ins_old h)
theorem ins_srt{v:Ver}:∀{l:List Ver},Srt l→Srt (ins v l)
 | [],_=>by simp [ins,Srt]
 | x::l,h=>by
  obtain⟨h1,h2⟩:=List.pairwise_cons.1 h
  rw [ins]
  cases hx:r5Less x.dot v.dot
  ·rw [cond_false]
   cases he:(x.dot==v.dot)
   ·rw [cond_false]
    have hvx:r5Less v.dot x.dot=true:=by
     rcases less_tri x.dot v.dot with h3 | h3 | h3
     ·rw [hx] at h3; cases h3
     ·rw [h3] at he; simp at he
     ·exact h3
    refine List.pairwise_cons.2 ⟨λy hy=>?_,h⟩
    rcases List.mem_cons.1 hy with e | e
    ·rw [e]; exact hvx
    ·exact less_trans hvx (h1 y e)
   ·rw [cond_true]; exact h
  ·rw [cond_true]
   refine List.pairwise_cons.2 ⟨λy hy=>?_,ins_srt h2⟩
   rcases ins_mem hy with e | e
   ·rw [e]; exact hx
   ·exact h1 y e
theorem ins_has{v:Ver}:∀{l:List Ver},(∀x∈l,x.dot=v.dot→x=v)→v∈ins v l
 | [],_=>by simp [ins]
 | x::l,h=>by
  rw [ins]
  cases hx:r5Less x.dot v.dot
  ·rw [cond_false]
   cases he:(x.dot==v.dot)
   ·rw [cond_false]; exact List.mem_cons_self
   ·rw [cond_true]
    have:=h x List.mem_cons_self (eq_of_beq he)
    exact this▸List.mem_cons_self
  ·rw [cond_true]; exact List.mem_cons_of_mem _ (ins_has λy hy=>h y (List.mem_cons_of_mem _ hy))
theorem fold_srt:∀{l skip out:List Ver},Srt out→Srt (r5Fold l skip out)
 | [],_,_,h=>h
 | x::l,skip,out,h=>by
  rw [r5Fold]
  refine fold_srt ?_
  cases r5Behind skip x.dot
  ·simp only [Bool.not_false,cond_true]; rw [r5Put_ins]; exact ins_srt h
  ·simpa using h
theorem fold_sub{y:Ver}:∀{l skip out:List Ver},y∈r5Fold l skip out→y∈out∨(y∈l∧r5Behind skip y.dot=false)
 | [],_,_,h=>.inl h
 | x::l,skip,out,h=>by
  rw [r5Fold] at h
  rcases fold_sub h with h1 | ⟨h1,h2⟩
  ·cases hb:r5Behind skip x.dot
   ·rw [hb] at h1
    simp only [Bool.not_false,cond_true] at h1
    rw [r5Put_ins] at h1
    rcases ins_mem h1 with e | e
    ·subst e; exact .inr ⟨List.mem_cons_self,hb⟩
    ·exact .inl e
   ·rw [hb] at h1; exact .inl (by simpa using h1)
  ·exact .inr ⟨List.mem_cons_of_mem _ h1,h2⟩
theorem fold_old{y:Ver}:∀{l skip out:List Ver},y∈out→y∈r5Fold l skip out
 | [],_,_,h=>h
 | x::l,skip,out,h=>by
  rw [r5Fold]
  refine fold_old ?_
  cases r5Behind skip x.dot
  ·simp only [Bool.not_false,cond_true]; rw [r5Put_ins]; exact ins_old h
  ·simpa using h
theorem fold_new{y:Ver}:∀{l skip out:List Ver},(∀a∈l, ∀b∈l,a.dot=b.dot→a=b)→(∀a∈out, ∀b∈l,a.dot=b.dot→a=b)→y∈l→r5Behind skip y.dot=false→y∈r5Fold l skip out
 | [],_,_,_,_,h,_=>by cases h
 | x::l,skip,out,hl,ho,h,hb=>by
  rw [r5Fold]
  rcases List.mem_cons.1 h with e | e
  ·subst e
   rw [hb]
   simp only [Bool.not_false,cond_true]
   rw [r5Put_ins]
   exact fold_old (ins_has λa ha hd=>ho a ha y List.mem_cons_self hd)
  ·refine fold_new (λa ha b hb'=>hl a (List.mem_cons_of_mem _ ha) b (List.mem_cons_of_mem _ hb')) ?_ e hb
   intro a ha b hb' hd
   cases hx:r5Behind skip x.dot
   ·rw [hx] at ha
    simp only [Bool.not_false,cond_true] at ha
    rw [r5Put_ins] at ha
    rcases ins_mem ha with e2 | e2
    ·rw [e2] at hd ⊢; exact hl x List.mem_cons_self b (List.mem_cons_of_mem _ hb') hd
    ·exact ho a e2 b (List.mem_cons_of_mem _ hb') hd
   ·rw [hx] at ha
    exact ho a (by simpa using ha) b (List.mem_cons_of_mem _ hb') hd
def kept(A B:List Ver)(y:Ver):Bool:=!(r5Behind A y.dot)&&!(r5Behind B y.dot)
theorem vsKeep_eq(v:Ver)(A B out:List Ver):vsKeep v A B out=bif kept A B v then out++[v] else out:=by
 unfold vsKeep kept; rw [behind_eq,behind_eq]
theorem keep_mem{v y:Ver}{A B out:List Ver}:y∈vsKeep v A B out↔y∈out∨(y=v∧kept A B v=true):=by
 rw [vsKeep_eq]
 cases kept A B v <;> simp
theorem go_sub{A B:List Ver}{y:Ver}:∀{n:Nat} {a b:List Ver} {tw:Bool} {out:List Ver},y∈(vsGo A B n a b tw out).2→y∈out∨((y∈a∨y∈b)∧kept A B y=true)
 | 0,_,_,_,_,h=>.inl h
 | n+1,[],[],_,_,h=>.inl h
 | n+1,[],z::b,tw,out,h=>by
  rw [vsGo] at h
  rcases go_sub h with h | ⟨h,hk⟩
  ·rcases keep_mem.1 h with h | ⟨rfl,hk⟩
   ·exact .inl h
   ·exact .inr ⟨.inr List.mem_cons_self,hk⟩
  ·exact .inr ⟨h.imp id (List.mem_cons_of_mem _),hk⟩
 | n+1,x::a,[],tw,out,h=>by
  rw [vsGo] at h
  rcases go_sub h with h | ⟨h,hk⟩
  ·rcases keep_mem.1 h with h | ⟨rfl,hk⟩
   ·exact .inl h
   ·exact .inr ⟨.inl List.mem_cons_self,hk⟩
  ·exact .inr ⟨h.imp (List.mem_cons_of_mem _) id,hk⟩
 | n+1,x::a,z::b,tw,out,h=>by
  rw [vsGo] at h
  cases hb:vsBefore x.dot z.dot
  ·rw [hb,cond_false] at h
   cases he:(x.dot==z.dot)
   ·rw [he,cond_false] at h
    rcases go_sub h with h | ⟨h,hk⟩
    ·rcases keep_mem.1 h with h | ⟨rfl,hk⟩
     ·exact .inl h
     ·exact .inr ⟨.inr List.mem_cons_self,hk⟩
    ·exact .inr ⟨h.imp id (List.mem_cons_of_mem _),hk⟩
   ·rw [he,cond_true] at h
    rcases go_sub h with h | ⟨h,hk⟩
    ·exact .inl h
    ·exact .inr ⟨h.imp (List.mem_cons_of_mem _) id,hk⟩
  ·rw [hb,cond_true] at h
   rcases go_sub h with h | ⟨h,hk⟩
   ·rcases keep_mem.1 h with h | ⟨rfl,hk⟩
    ·exact .inl h
    ·exact .inr ⟨.inl List.mem_cons_self,hk⟩
   ·exact .inr ⟨h.imp (List.mem_cons_of_mem _) id,hk⟩
end Mg
end Fw
end Go.Proofs.YtckindfllegbgaaGreat
