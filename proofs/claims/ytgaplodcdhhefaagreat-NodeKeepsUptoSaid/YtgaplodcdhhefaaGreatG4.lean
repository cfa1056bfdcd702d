/- Merging, out of layer 16. No condition. -/
import Derived.Test.YtgaplodcdhhefaaGreatG3
namespace Go.Proofs.YtgaplodcdhhefaaGreat
namespace Fw
namespace Mg
set_option linter.unusedVariables false
set_option linter.unusedSimpArgs false
set_option linter.unusedSectionVars false
theorem yp{α:Type}[Inhabited α]{a b:List α}(hl:a.length=b.length)(h:∀i,i<a.length→gt a i=gt b i):a=b:=by
 apply List.ext_getElem hl
 intro i h1 h2
 have:=h i h1
 rwa [bA h1,bA h2] at this
theorem vT{a b:List Span}:sx a b=true↔a=b:=by
 unfold sx
 by_cases hl:a.length=b.length
 ·rw [show (a.length==b.length)=true by simpa using hl,cond_true,me]
  constructor
  ·intro h; exact yp hl λi hi=>by simpa using h i hi
  ·rintro rfl i _; simp
 ·rw [show (a.length==b.length)=false by simpa using hl,cond_false]
  simp only [Ed,false_iff]
  rintro rfl; exact hl rfl
theorem jl{a b:Ver}:hP a b=true↔a=b:=by
 unfold hP
 simp only [DW,beq_iff_eq,vT]
 cases a; cases b
 simp only [Ver.mk.injEq]
 constructor
 ·rintro⟨⟨⟨h1,h2⟩,h3⟩,h4⟩
  rw [iZ,DQ] at h3
  exact⟨h1,h4,h2,h3⟩
 ·rintro⟨h1,h2,h3,h4⟩
  exact⟨⟨⟨h1,h3⟩,by rw [iZ,DQ]; exact h4⟩,h2⟩
theorem xO(a b:Ver):k9 a b=hP a b:=by
 rw [Bool.eq_iff_iff,jl]
 unfold k9
 have hb:((a.val != b.val)=true)↔a.val≠b.val:=by
  show (!(a.val==b.val))=true↔_
  rw [iZ]; simp
 by_cases h:((((a.dot != b.dot)||(a.gone != b.gone))||(a.val != b.val))||((a.past.length:Int) != (b.past.length:Int)))=true
 ·rw [h,cond_true]
  simp only [Ed,false_iff]
  rintro rfl
  simp only [Bool.or_eq_true,hb] at h
  simp at h
 ·have h2:((((a.dot != b.dot)||(a.gone != b.gone))||(a.val != b.val))||((a.past.length:Int) != (b.past.length:Int)))=false:=by simpa using h
  rw [h2,cond_false,me]
  simp only [Bool.or_eq_true,hb,not_or,bne_iff_ne,ne_eq,Decidable.not_not] at h
  obtain⟨⟨⟨h3,h4⟩,h5⟩,h6⟩:=h
  constructor
  ·intro hp
   have:a.past=b.past:=yp (by exact_mod_cast h6) λi hi=>by simpa using hp i hi
   cases a; cases b; simp_all
  ·rintro rfl i _; simp
theorem x4{l:List Ver}(h:Srt l){a b:Ver}(ha:a∈l)(hb:b∈l)(hd:a.dot=b.dot):a=b:=by
 induction l with
 | nil=>cases ha
 | cons x l ih=>
  obtain⟨h1,h2⟩:=List.pairwise_cons.1 h
  rcases List.mem_cons.1 ha with e | e <;> rcases List.mem_cons.1 hb with e' | e'
  ·rw [e,e']
  ·have:=h1 b e'; rw [← e,hd,ld] at this; cases this
  ·have:=h1 a e; rw [← e', ← hd,ld] at this; cases this
  ·exact ih h2 e e'
def Twin(a b:List Ver):Prop := ∃x∈a, ∃z∈b,x.dot=z.dot∧x≠z
theorem sD{a b:List Ver}:qk a b=true↔Twin a b:=by
 unfold qk Twin
 rw [s9]
 constructor
 ·rintro⟨i,hi,h⟩
  obtain⟨k,hk,h⟩:=s9.1 h
  simp only [DW,beq_iff_eq,Bool.not_eq_true'] at h
  refine⟨_,qr hi,_,qr hk,h.1,λe=>?_⟩
  have:=jl.2 e
  rw [h.2] at this; cases this
 ·rintro⟨x,hx,z,hz,hd,hn⟩
  obtain⟨i,hi,rfl⟩:=vP hx
  obtain⟨k,hk,rfl⟩:=vP hz
  refine⟨i,hi,s9.2 ⟨k,hk,?_⟩⟩
  simp only [DW,beq_iff_eq,Bool.not_eq_true']
  refine⟨hd,?_⟩
  cases h:hP (gt a i) (gt b k)
  ·rfl
  ·exact absurd (jl.1 h) hn
theorem uC{a b:Dot}(h:ba a b=true):a≠b:=by rintro rfl; rw [ld] at h; cases h
theorem tt{A B:List Ver}:∀{n:Nat} {a b:List Ver} {tw:Bool} {out:List Ver},Srt a→Srt b→a.length+b.length≤n→((vsGo A B n a b tw out).1=true↔tw=true∨Twin a b)
 | 0,a,b,tw,out,_,_,hn=>by
  have:a = []:=List.eq_nil_of_length_eq_zero (by omega)
  subst this
  simp [vsGo,Twin]
 | n+1,[],[],tw,out,_,_,_=>by simp [vsGo,Twin]
 | n+1,[],z::b,tw,out,ha,hb,hn=>by
  rw [vsGo,tt ha (List.pairwise_cons.1 hb).2 (by simp at hn ⊢; omega)]
  simp [Twin]
 | n+1,x::a,[],tw,out,ha,hb,hn=>by
  rw [vsGo,tt (List.pairwise_cons.1 ha).2 hb (by simp at hn ⊢; omega)]
  simp [Twin]
 | n+1,x::a,z::b,tw,out,ha,hb,hn=>by
  obtain⟨ha1,ha2⟩:=List.pairwise_cons.1 ha
  obtain⟨hb1,hb2⟩:=List.pairwise_cons.1 hb
  rw [vsGo,je]
  cases hl:ba x.dot z.dot
  ·rw [cond_false]
   cases he:(x.dot==z.dot)
   ·rw [cond_false,tt ha hb2 (by simp at hn ⊢; omega)]
    have hzx:ba z.dot x.dot=true:=by
     rcases rG x.dot z.dot with h | h | h
     ·rw [hl] at h; cases h
     ·rw [h] at he; simp at he
     ·exact h
    refine or_congr_right ⟨λ⟨p,hp,q,hq,h⟩=>⟨p,hp,q,DU _ hq,h⟩,λ⟨p,hp,q,hq,h⟩=>⟨p,hp,q,?_,h⟩⟩
    rcases List.mem_cons.1 hq with e | e
    ·exfalso
     subst e
     rcases List.mem_cons.1 hp with e | e
     ·subst e; exact uC hzx h.1.symm
     ·exact uC (iU hzx (ha1 p e)) h.1.symm
    ·exact e
   ·rw [cond_true,tt ha2 hb (by simp at hn ⊢; omega)]
    have hd:=eq_of_beq he
    rw [Bool.or_eq_true,or_assoc]
    refine or_congr_right ?_
    rw [xO]
    constructor
    ·rintro (h | ⟨p,hp,q,hq,h⟩)
     ·refine⟨x,DT,z,DT,hd,λe=>?_⟩
      rw [jl.2 e] at h; cases h
     ·exact⟨p,DU _ hp,q,hq,h⟩
    ·rintro⟨p,hp,q,hq,h1,h2⟩
     rcases List.mem_cons.1 hp with e | e
     ·subst e
      rcases List.mem_cons.1 hq with e | e
      ·subst e
       left
       cases hs:hP p q
       ·rfl
       ·exact absurd (jl.1 hs) h2
      ·exact absurd (hd▸h1) (uC (hb1 q e))
     ·exact .inr ⟨p,e,q,hq,h1,h2⟩
  ·rw [cond_true,tt ha2 hb (by simp at hn ⊢; omega)]
   refine or_congr_right ⟨λ⟨p,hp,q,hq,h⟩=>⟨p,DU _ hp,q,hq,h⟩,λ⟨p,hp,q,hq,h⟩=>⟨p,?_,q,hq,h⟩⟩
   rcases List.mem_cons.1 hp with e | e
   ·exfalso
    subst e
    rcases List.mem_cons.1 hq with e | e
    ·subst e; exact uC hl h.1
    ·exact uC (iU hl (hb1 q e)) h.1
   ·exact e
theorem qp{A B:List Ver}{y:Ver}:∀{n:Nat} {a b:List Ver} {tw:Bool} {out:List Ver},Srt a→Srt b→a.length+b.length≤n→¬ Twin a b→(y∈out∨((y∈a∨y∈b)∧kept A B y=true))→y∈(vsGo A B n a b tw out).2
 | 0,a,b,tw,out,_,_,hn,_,h=>by
  have h1:a = []:=List.eq_nil_of_length_eq_zero (by omega)
  have h2:b = []:=List.eq_nil_of_length_eq_zero (by omega)
  subst h1; subst h2
  simpa [vsGo] using h
 | n+1,[],[],tw,out,_,_,_,_,h=>by simpa [vsGo] using h
 | n+1,[],z::b,tw,out,ha,hb,hn,ht,h=>by
  rw [vsGo]
  refine qp ha (List.pairwise_cons.1 hb).2 (by simp at hn ⊢; omega) (by simp [Twin]) ?_
  rcases h with h | ⟨h | h,hk⟩
  ·exact .inl (d3.2 (.inl h))
  ·cases h
  ·rcases List.mem_cons.1 h with e | e
   ·exact .inl (d3.2 (.inr ⟨e,e▸hk⟩))
   ·exact .inr ⟨.inr e,hk⟩
 | n+1,x::a,[],tw,out,ha,hb,hn,ht,h=>by
  rw [vsGo]
  refine qp (List.pairwise_cons.1 ha).2 hb (by simp at hn ⊢; omega) (by simp [Twin]) ?_
  rcases h with h | ⟨h | h,hk⟩
  ·exact .inl (d3.2 (.inl h))
  ·rcases List.mem_cons.1 h with e | e
   ·exact .inl (d3.2 (.inr ⟨e,e▸hk⟩))
   ·exact .inr ⟨.inl e,hk⟩
  ·cases h
 | n+1,x::a,z::b,tw,out,ha,hb,hn,ht,h=>by
  have ha2:=(List.pairwise_cons.1 ha).2
  have hb2:=(List.pairwise_cons.1 hb).2
  have ht1:¬ Twin a (z::b):=λ⟨p,hp,q,hq,h⟩=>ht ⟨p,DU _ hp,q,hq,h⟩
  have ht2:¬ Twin (x::a) b:=λ⟨p,hp,q,hq,h⟩=>ht ⟨p,hp,q,DU _ hq,h⟩
  rw [vsGo]
  cases hl:bI x.dot z.dot
  ·rw [cond_false]
   cases he:(x.dot==z.dot)
   ·rw [cond_false]
    refine qp ha hb2 (by simp at hn ⊢; omega) ht2 ?_
    rcases h with h | ⟨h | h,hk⟩
    ·exact .inl (d3.2 (.inl h))
    ·exact .inr ⟨.inl h,hk⟩
    ·rcases List.mem_cons.1 h with e | e
     ·exact .inl (d3.2 (.inr ⟨e,e▸hk⟩))
     ·exact .inr ⟨.inr e,hk⟩
   ·rw [cond_true]
    refine qp ha2 hb (by simp at hn ⊢; omega) ht1 ?_
    rcases h with h | ⟨h | h,hk⟩
    ·exact .inl h
    ·rcases List.mem_cons.1 h with e | e
     ·have hxz:x=z:=by
       by_cases hxz:x=z
       ·exact hxz
       ·exact absurd ⟨x,DT,z,DT,eq_of_beq he,hxz⟩ ht
      exact .inr ⟨.inr (by rw [e,hxz]; exact DT),hk⟩
     ·exact .inr ⟨.inl e,hk⟩
    ·exact .inr ⟨.inr h,hk⟩
  ·rw [cond_true]
   refine qp ha2 hb (by simp at hn ⊢; omega) ht1 ?_
   rcases h with h | ⟨h | h,hk⟩
   ·exact .inl (d3.2 (.inl h))
   ·rcases List.mem_cons.1 h with e | e
    ·exact .inl (d3.2 (.inr ⟨e,e▸hk⟩))
    ·exact .inr ⟨.inl e,hk⟩
   ·exact .inr ⟨.inr h,hk⟩
theorem pC{v:Ver}{A B out:List Ver}(ho:Srt out)(h:∀o∈out,ba o.dot v.dot=true):Srt (iF v A B out):=by
 rw [tq]
 cases kept A B v
 ·exact ho
 ·rw [cond_true]
  refine List.pairwise_append.2 ⟨ho,by simp,λo ho' y hy=>?_⟩
  rw [List.mem_singleton.1 hy]; exact h o ho'
theorem ql{A B:List Ver}:∀{n:Nat} {a b:List Ver} {tw:Bool} {out:List Ver},Srt a→Srt b→Srt out→(∀o∈out,(∀y∈a,ba o.dot y.dot=true)∧∀y∈b,ba o.dot y.dot=true)→Srt (vsGo A B n a b tw out).2
 | 0,_,_,_,_,_,_,h,_=>h
 | n+1,[],[],_,_,_,_,h,_=>h
 | n+1,[],z::b,tw,out,ha,hb,ho,h=>by
  obtain⟨hb1,hb2⟩:=List.pairwise_cons.1 hb
  rw [vsGo]
  refine ql ha hb2 (pC ho λo h'=>(h o h').2 z DT) λo h'=>⟨by simp,λy hy=>?_⟩
  rcases d3.1 h' with h2 | ⟨h2,_⟩
  ·exact(h o h2).2 y (DU _ hy)
  ·rw [h2]; exact hb1 y hy
 | n+1,x::a,[],tw,out,ha,hb,ho,h=>by
  obtain⟨ha1,ha2⟩:=List.pairwise_cons.1 ha
  rw [vsGo]
  refine ql ha2 hb (pC ho λo h'=>(h o h').1 x DT) λo h'=>⟨λy hy=>?_,by simp⟩
  rcases d3.1 h' with h2 | ⟨h2,_⟩
  ·exact(h o h2).1 y (DU _ hy)
  ·rw [h2]; exact ha1 y hy
 | n+1,x::a,z::b,tw,out,ha,hb,ho,h=>by
  obtain⟨ha1,ha2⟩:=List.pairwise_cons.1 ha
  obtain⟨hb1,hb2⟩:=List.pairwise_cons.1 hb
  rw [vsGo,je]
  cases hl:ba x.dot z.dot
  ·rw [cond_false]
   cases he:(x.dot==z.dot)
   ·rw [cond_false]
    have hzx:ba z.dot x.dot=true:=by
     rcases rG x.dot z.dot with h | h | h
     ·rw [hl] at h; cases h
     ·rw [h] at he; simp at he
     ·exact h
    refine ql ha hb2 (pC ho λo h'=>(h o h').2 z DT) λo h'=>?_
    rcases d3.1 h' with h2 | ⟨h2,_⟩
    ·exact⟨(h o h2).1,λy hy=>(h o h2).2 y (DU _ hy)⟩
    ·rw [h2]
     refine⟨λy hy=>?_,hb1⟩
     rcases List.mem_cons.1 hy with e | e
     ·rw [e]; exact hzx
     ·exact iU hzx (ha1 y e)
   ·rw [cond_true]
    exact ql ha2 hb ho λo h'=>⟨λy hy=>(h o h').1 y (DU _ hy),(h o h').2⟩
  ·rw [cond_true]
   refine ql ha2 hb (pC ho λo h'=>(h o h').1 x DT) λo h'=>?_
   rcases d3.1 h' with h2 | ⟨h2,_⟩
   ·exact⟨λy hy=>(h o h2).1 y (DU _ hy),(h o h2).2⟩
   ·rw [h2]
    refine⟨ha1,λy hy=>?_⟩
    rcases List.mem_cons.1 hy with e | e
    ·rw [e]; exact hl
    ·exact iU hl (hb1 y e)
theorem uV{a b:List Ver}(ha:r5Right a=true)(hb:r5Right b=true)(ht:¬ Twin a b):(vsGo a b (a.length+b.length) a b false []).2=eD b a (eD a b []):=by
 obtain⟨_,ha1,ha2⟩:=nt ha
 obtain⟨_,hb1,hb2⟩:=nt hb
 refine xh (ql ha2 hb2 (by simp [Srt]) (by simp)) (sg (sg (by simp [Srt]))) λy=>?_
 constructor
 ·intro h
  rcases pL h with h | ⟨h,hk⟩
  ·cases h
  ·unfold kept at hk
   simp only [DW,Bool.not_eq_true'] at hk
   have sub:∀p∈eD a b [],p∈a:=λp hp=>(pg hp).elim (λh=>by cases h) (λh=>h.1)
   rcases h with h | h
   ·exact rM (rT (λp hp q hq hd=>x4 ha2 hp hq hd) (by simp) h hk.2)
   ·refine rT (λp hp q hq hd=>x4 hb2 hp hq hd) (λp hp q hq hd=>?_) h hk.1
    by_cases e:p=q
    ·exact e
    ·exact absurd ⟨p,sub p hp,q,hq,hd,e⟩ ht
 ·intro h
  refine qp ha2 hb2 (E6 _) ht (.inr ?_)
  unfold kept
  rw [DW,Bool.not_eq_true',Bool.not_eq_true']
  rcases pg h with h | ⟨h,hk⟩
  ·rcases pg h with h | ⟨h,hk⟩
   ·cases h
   ·exact⟨.inl h,(ha1 y h).2,hk⟩
  ·exact⟨.inr h,hk,(hb1 y h).2⟩
theorem merge_eq(a b:List Ver):vsMerge a b=rh a b:=by
 unfold vsMerge rh
 rw [right_eq,right_eq]
 cases ha:r5Right a
 ·rfl
 ·cases hb:r5Right b
  ·rfl
  ·simp only [Bool.not_true,Bool.or_self,cond_false]
   obtain⟨_,ha1,ha2⟩:=nt ha
   obtain⟨_,hb1,hb2⟩:=nt hb
   have h1:(vsGo a b (a.length+b.length) a b false []).1=qk a b:=by
    rw [Bool.eq_iff_iff,tt ha2 hb2 (E6 _),sD]; simp
   rw [h1]
   cases ht:qk a b
   ·rw [uV ha hb (by rw [← sD,ht]; simp)]
   ·rfl
end Mg
end Fw
end Go.Proofs.YtgaplodcdhhefaaGreat
