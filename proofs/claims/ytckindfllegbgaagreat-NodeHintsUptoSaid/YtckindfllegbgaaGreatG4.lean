/- Merging, out of layer 16. No condition. -/
import Derived.Test.YtckindfllegbgaaGreatG3
namespace Go.Proofs.YtckindfllegbgaaGreat
namespace Fw
namespace Mg
set_option linter.unusedVariables false
set_option linter.unusedSimpArgs false
set_option linter.unusedSectionVars false
theorem gt_ext{α:Type}[Inhabited α]{a b:List α}(hl:a.length=b.length)(h:∀i,i<a.length→gt a i=gt b i):a=b:=by
 apply List.ext_getElem hl
 intro i h1 h2
 have:=h i h1
 rwa [gt_eq h1,gt_eq h2] at this
theorem r3Same_iff{a b:List Span}:r3Same a b=true↔a=b:=by
 unfold r3Same
 by_cases hl:a.length=b.length
 ·rw [show (a.length==b.length)=true by simpa using hl,cond_true,all0_iff]
  constructor
  ·intro h; exact gt_ext hl λi hi=>by simpa using h i hi
  ·rintro rfl i _; simp
 ·rw [show (a.length==b.length)=false by simpa using hl,cond_false]
  simp only [Bool.false_eq_true,false_iff]
  rintro rfl; exact hl rfl
theorem sameOne_iff{a b:Ver}:r5SameOne a b=true↔a=b:=by
 unfold r5SameOne
 simp only [Bool.and_eq_true,beq_iff_eq,r3Same_iff]
 cases a; cases b
 simp only [Ver.mk.injEq]
 constructor
 ·rintro⟨⟨⟨h1,h2⟩,h3⟩,h4⟩
  rw [bytes_beq,decide_eq_true_eq] at h3
  exact⟨h1,h4,h2,h3⟩
 ·rintro⟨h1,h2,h3,h4⟩
  exact⟨⟨⟨h1,h3⟩,by rw [bytes_beq,decide_eq_true_eq]; exact h4⟩,h2⟩
theorem vsSame_eq(a b:Ver):vsSame a b=r5SameOne a b:=by
 rw [Bool.eq_iff_iff,sameOne_iff]
 unfold vsSame
 have hb:((a.val != b.val)=true)↔a.val≠b.val:=by
  show (!(a.val==b.val))=true↔_
  rw [bytes_beq]; simp
 by_cases h:((((a.dot != b.dot)||(a.gone != b.gone))||(a.val != b.val))||((a.past.length:Int) != (b.past.length:Int)))=true
 ·rw [h,cond_true]
  simp only [Bool.false_eq_true,false_iff]
  rintro rfl
  simp only [Bool.or_eq_true,hb] at h
  simp at h
 ·have h2:((((a.dot != b.dot)||(a.gone != b.gone))||(a.val != b.val))||((a.past.length:Int) != (b.past.length:Int)))=false:=by simpa using h
  rw [h2,cond_false,all0_iff]
  simp only [Bool.or_eq_true,hb,not_or,bne_iff_ne,ne_eq,Decidable.not_not] at h
  obtain⟨⟨⟨h3,h4⟩,h5⟩,h6⟩:=h
  constructor
  ·intro hp
   have:a.past=b.past:=gt_ext (by exact_mod_cast h6) λi hi=>by simpa using hp i hi
   cases a; cases b; simp_all
  ·rintro rfl i _; simp
theorem srt_inj{l:List Ver}(h:Srt l){a b:Ver}(ha:a∈l)(hb:b∈l)(hd:a.dot=b.dot):a=b:=by
 induction l with
 | nil=>cases ha
 | cons x l ih=>
  obtain⟨h1,h2⟩:=List.pairwise_cons.1 h
  rcases List.mem_cons.1 ha with e | e <;> rcases List.mem_cons.1 hb with e' | e'
  ·rw [e,e']
  ·have:=h1 b e'; rw [← e,hd,less_irr] at this; cases this
  ·have:=h1 a e; rw [← e', ← hd,less_irr] at this; cases this
  ·exact ih h2 e e'
def Twin(a b:List Ver):Prop := ∃x∈a, ∃z∈b,x.dot=z.dot∧x≠z
theorem r5Twin_iff{a b:List Ver}:r5Twin a b=true↔Twin a b:=by
 unfold r5Twin Twin
 rw [any0_iff]
 constructor
 ·rintro⟨i,hi,h⟩
  obtain⟨k,hk,h⟩:=any0_iff.1 h
  simp only [Bool.and_eq_true,beq_iff_eq,Bool.not_eq_true'] at h
  refine⟨_,gt_mem hi,_,gt_mem hk,h.1,λe=>?_⟩
  have:=sameOne_iff.2 e
  rw [h.2] at this; cases this
 ·rintro⟨x,hx,z,hz,hd,hn⟩
  obtain⟨i,hi,rfl⟩:=mem_gt hx
  obtain⟨k,hk,rfl⟩:=mem_gt hz
  refine⟨i,hi,any0_iff.2 ⟨k,hk,?_⟩⟩
  simp only [Bool.and_eq_true,beq_iff_eq,Bool.not_eq_true']
  refine⟨hd,?_⟩
  cases h:r5SameOne (gt a i) (gt b k)
  ·rfl
  ·exact absurd (sameOne_iff.1 h) hn
theorem lt_ne{a b:Dot}(h:r5Less a b=true):a≠b:=by rintro rfl; rw [less_irr] at h; cases h
theorem go_tw{A B:List Ver}:∀{n:Nat} {a b:List Ver} {tw:Bool} {out:List Ver},Srt a→Srt b→a.length+b.length≤n→((vsGo A B n a b tw out).1=true↔tw=true∨Twin a b)
 | 0,a,b,tw,out,_,_,hn=>by
  have:a = []:=List.eq_nil_of_length_eq_zero (by omega)
  subst this
  simp [vsGo,Twin]
 | n+1,[],[],tw,out,_,_,_=>by simp [vsGo,Twin]
 | n+1,[],z::b,tw,out,ha,hb,hn=>by
  rw [vsGo,go_tw ha (List.pairwise_cons.1 hb).2 (by simp at hn ⊢; omega)]
  simp [Twin]
 | n+1,x::a,[],tw,out,ha,hb,hn=>by
  rw [vsGo,go_tw (List.pairwise_cons.1 ha).2 hb (by simp at hn ⊢; omega)]
  simp [Twin]
 | n+1,x::a,z::b,tw,out,ha,hb,hn=>by
  obtain⟨ha1,ha2⟩:=List.pairwise_cons.1 ha
  obtain⟨hb1,hb2⟩:=List.pairwise_cons.1 hb
  rw [vsGo,less_eq]
  cases hl:r5Less x.dot z.dot
  ·rw [cond_false]
   cases he:(x.dot==z.dot)
   ·rw [cond_false,go_tw ha hb2 (by simp at hn ⊢; omega)]
    have hzx:r5Less z.dot x.dot=true:=by
     rcases less_tri x.dot z.dot with h | h | h
     ·rw [hl] at h; cases h
     ·rw [h] at he; simp at he
     ·exact h
    refine or_congr_right ⟨λ⟨p,hp,q,hq,h⟩=>⟨p,hp,q,List.mem_cons_of_mem _ hq,h⟩,λ⟨p,hp,q,hq,h⟩=>⟨p,hp,q,?_,h⟩⟩
    rcases List.mem_cons.1 hq with e | e
    ·exfalso
     subst e
     rcases List.mem_cons.1 hp with e | e
     ·subst e; exact lt_ne hzx h.1.symm
     ·exact lt_ne (less_trans hzx (ha1 p e)) h.1.symm
    ·exact e
   ·rw [cond_true,go_tw ha2 hb (by simp at hn ⊢; omega)]
    have hd:=eq_of_beq he
    rw [Bool.or_eq_true,or_assoc]
    refine or_congr_right ?_
    rw [vsSame_eq]
    constructor
    ·rintro (h | ⟨p,hp,q,hq,h⟩)
     ·refine⟨x,List.mem_cons_self,z,List.mem_cons_self,hd,λe=>?_⟩
      rw [sameOne_iff.2 e] at h; cases h
     ·exact⟨p,List.mem_cons_of_mem _ hp,q,hq,h⟩
    ·rintro⟨p,hp,q,hq,h1,h2⟩
     rcases List.mem_cons.1 hp with e | e
     ·subst e
      rcases List.mem_cons.1 hq with e | e
      ·subst e
       left
       cases hs:r5SameOne p q
       ·rfl
       ·exact absurd (sameOne_iff.1 hs) h2
      ·exact absurd (hd▸h1) (lt_ne (hb1 q e))
     ·exact .inr ⟨p,e,q,hq,h1,h2⟩
  ·rw [cond_true,go_tw ha2 hb (by simp at hn ⊢; omega)]
   refine or_congr_right ⟨λ⟨p,hp,q,hq,h⟩=>⟨p,List.mem_cons_of_mem _ hp,q,hq,h⟩,λ⟨p,hp,q,hq,h⟩=>⟨p,?_,q,hq,h⟩⟩
   rcases List.mem_cons.1 hp with e | e
   ·exfalso
    subst e
    rcases List.mem_cons.1 hq with e | e
    ·subst e; exact lt_ne hl h.1
    ·exact lt_ne (less_trans hl (hb1 q e)) h.1
   ·exact e
theorem go_has{A B:List Ver}{y:Ver}:∀{n:Nat} {a b:List Ver} {tw:Bool} {out:List Ver},Srt a→Srt b→a.length+b.length≤n→¬ Twin a b→(y∈out∨((y∈a∨y∈b)∧kept A B y=true))→y∈(vsGo A B n a b tw out).2
 | 0,a,b,tw,out,_,_,hn,_,h=>by
  have h1:a = []:=List.eq_nil_of_length_eq_zero (by omega)
  have h2:b = []:=List.eq_nil_of_length_eq_zero (by omega)
  subst h1; subst h2
  simpa [vsGo] using h
 | n+1,[],[],tw,out,_,_,_,_,h=>by simpa [vsGo] using h
 | n+1,[],z::b,tw,out,ha,hb,hn,ht,h=>by
  rw [vsGo]
  refine go_has ha (List.pairwise_cons.1 hb).2 (by simp at hn ⊢; omega) (by simp [Twin]) ?_
  rcases h with h | ⟨h | h,hk⟩
  ·exact .inl (keep_mem.2 (.inl h))
  ·cases h
  ·rcases List.mem_cons.1 h with e | e
   ·exact .inl (keep_mem.2 (.inr ⟨e,e▸hk⟩))
   ·exact .inr ⟨.inr e,hk⟩
 | n+1,x::a,[],tw,out,ha,hb,hn,ht,h=>by
  rw [vsGo]
  refine go_has (List.pairwise_cons.1 ha).2 hb (by simp at hn ⊢; omega) (by simp [Twin]) ?_
  rcases h with h | ⟨h | h,hk⟩
  ·exact .inl (keep_mem.2 (.inl h))
  ·rcases List.mem_cons.1 h with e | e
   ·exact .inl (keep_mem.2 (.inr ⟨e,e▸hk⟩))
   ·exact .inr ⟨.inl e,hk⟩
  ·cases h
 | n+1,x::a,z::b,tw,out,ha,hb,hn,ht,h=>by
  have ha2:=(List.pairwise_cons.1 ha).2
  have hb2:=(List.pairwise_cons.1 hb).2
  have ht1:¬ Twin a (z::b):=λ⟨p,hp,q,hq,h⟩=>ht ⟨p,List.mem_cons_of_mem _ hp,q,hq,h⟩
  have ht2:¬ Twin (x::a) b:=λ⟨p,hp,q,hq,h⟩=>ht ⟨p,hp,q,List.mem_cons_of_mem _ hq,h⟩
  rw [vsGo]
  cases hl:vsBefore x.dot z.dot
  ·rw [cond_false]
   cases he:(x.dot==z.dot)
   ·rw [cond_false]
    refine go_has ha hb2 (by simp at hn ⊢; omega) ht2 ?_
    rcases h with h | ⟨h | h,hk⟩
    ·exact .inl (keep_mem.2 (.inl h))
    ·exact .inr ⟨.inl h,hk⟩
    ·rcases List.mem_cons.1 h with e | e
     ·exact .inl (keep_mem.2 (.inr ⟨e,e▸hk⟩))
     ·exact .inr ⟨.inr e,hk⟩
   ·rw [cond_true]
    refine go_has ha2 hb (by simp at hn ⊢; omega) ht1 ?_
    rcases h with h | ⟨h | h,hk⟩
    ·exact .inl h
    ·rcases List.mem_cons.1 h with e | e
     ·have hxz:x=z:=by
       by_cases hxz:x=z
       ·exact hxz
       ·exact absurd ⟨x,List.mem_cons_self,z,List.mem_cons_self,eq_of_beq he,hxz⟩ ht
      exact .inr ⟨.inr (by rw [e,hxz]; exact List.mem_cons_self),hk⟩
     ·exact .inr ⟨.inl e,hk⟩
    ·exact .inr ⟨.inr h,hk⟩
  ·rw [cond_true]
   refine go_has ha2 hb (by simp at hn ⊢; omega) ht1 ?_
   rcases h with h | ⟨h | h,hk⟩
   ·exact .inl (keep_mem.2 (.inl h))
   ·rcases List.mem_cons.1 h with e | e
    ·exact .inl (keep_mem.2 (.inr ⟨e,e▸hk⟩))
    ·exact .inr ⟨.inl e,hk⟩
   ·exact .inr ⟨.inr h,hk⟩
theorem keep_srt{v:Ver}{A B out:List Ver}(ho:Srt out)(h:∀o∈out,r5Less o.dot v.dot=true):Srt (vsKeep v A B out):=by
 rw [vsKeep_eq]
 cases kept A B v
 ·exact ho
 ·rw [cond_true]
  refine List.pairwise_append.2 ⟨ho,by simp,λo ho' y hy=>?_⟩
  rw [List.mem_singleton.1 hy]; exact h o ho'
theorem go_srt{A B:List Ver}:∀{n:Nat} {a b:List Ver} {tw:Bool} {out:List Ver},Srt a→Srt b→Srt out→(∀o∈out,(∀y∈a,r5Less o.dot y.dot=true)∧∀y∈b,r5Less o.dot y.dot=true)→Srt (vsGo A B n a b tw out).2
 | 0,_,_,_,_,_,_,h,_=>h
 | n+1,[],[],_,_,_,_,h,_=>h
 | n+1,[],z::b,tw,out,ha,hb,ho,h=>by
  obtain⟨hb1,hb2⟩:=List.pairwise_cons.1 hb
  rw [vsGo]
  refine go_srt ha hb2 (keep_srt ho λo h'=>(h o h').2 z List.mem_cons_self) λo h'=>⟨by simp,λy hy=>?_⟩
  rcases keep_mem.1 h' with h2 | ⟨h2,_⟩
  ·exact(h o h2).2 y (List.mem_cons_of_mem _ hy)
  ·rw [h2]; exact hb1 y hy
 | n+1,x::a,[],tw,out,ha,hb,ho,h=>by
  obtain⟨ha1,ha2⟩:=List.pairwise_cons.1 ha
  rw [vsGo]
  refine go_srt ha2 hb (keep_srt ho λo h'=>(h o h').1 x List.mem_cons_self) λo h'=>⟨λy hy=>?_,by simp⟩
  rcases keep_mem.1 h' with h2 | ⟨h2,_⟩
  ·exact(h o h2).1 y (List.mem_cons_of_mem _ hy)
  ·rw [h2]; exact ha1 y hy
 | n+1,x::a,z::b,tw,out,ha,hb,ho,h=>by
  obtain⟨ha1,ha2⟩:=List.pairwise_cons.1 ha
  obtain⟨hb1,hb2⟩:=List.pairwise_cons.1 hb
  rw [vsGo,less_eq]
  cases hl:r5Less x.dot z.dot
  ·rw [cond_false]
   cases he:(x.dot==z.dot)
   ·rw [cond_false]
    have hzx:r5Less z.dot x.dot=true:=by
     rcases less_tri x.dot z.dot with h | h | h
     ·rw [hl] at h; cases h
     ·rw [h] at he; simp at he
     ·exact h
    refine go_srt ha hb2 (keep_srt ho λo h'=>(h o h').2 z List.mem_cons_self) λo h'=>?_
    rcases keep_mem.1 h' with h2 | ⟨h2,_⟩
    ·exact⟨(h o h2).1,λy hy=>(h o h2).2 y (List.mem_cons_of_mem _ hy)⟩
    ·rw [h2]
     refine⟨λy hy=>?_,hb1⟩
     rcases List.mem_cons.1 hy with e | e
     ·rw [e]; exact hzx
     ·exact less_trans hzx (ha1 y e)
   ·rw [cond_true]
    exact go_srt ha2 hb ho λo h'=>⟨λy hy=>(h o h').1 y (List.mem_cons_of_mem _ hy),(h o h').2⟩
  ·rw [cond_true]
   refine go_srt ha2 hb (keep_srt ho λo h'=>(h o h').1 x List.mem_cons_self) λo h'=>?_
   rcases keep_mem.1 h' with h2 | ⟨h2,_⟩
   ·exact⟨λy hy=>(h o h2).1 y (List.mem_cons_of_mem _ hy),(h o h2).2⟩
   ·rw [h2]
    refine⟨ha1,λy hy=>?_⟩
    rcases List.mem_cons.1 hy with e | e
    ·rw [e]; exact hl
    ·exact less_trans hl (hb1 y e)
theorem merge_lists{a b:List Ver}(ha:r5Right a=true)(hb:r5Right b=true)(ht:¬ Twin a b):(vsGo a b (a.length+b.length) a b false []).2=r5Fold b a (r5Fold a b []):=by
 obtain⟨_,ha1,ha2⟩:=right_iff ha
 obtain⟨_,hb1,hb2⟩:=right_iff hb
 refine srt_ext (go_srt ha2 hb2 (by simp [Srt]) (by simp)) (fold_srt (fold_srt (by simp [Srt]))) λy=>?_
 constructor
 ·intro h
  rcases go_sub h with h | ⟨h,hk⟩
  ·cases h
  ·unfold kept at hk
   simp only [Bool.and_eq_true,Bool.not_eq_true'] at hk
   have sub:∀p∈r5Fold a b [],p∈a:=λp hp=>(fold_sub hp).elim (λh=>by cases h) (λh=>h.1)
   rcases h with h | h
   ·exact fold_old (fold_new (λp hp q hq hd=>srt_inj ha2 hp hq hd) (by simp) h hk.2)
   ·refine fold_new (λp hp q hq hd=>srt_inj hb2 hp hq hd) (λp hp q hq hd=>?_) h hk.1
    by_cases e:p=q
    ·exact e
    ·exact absurd ⟨p,sub p hp,q,hq,hd,e⟩ ht
 ·intro h
  refine go_has ha2 hb2 (Nat.le_refl _) ht (.inr ?_)
  unfold kept
  rw [Bool.and_eq_true,Bool.not_eq_true',Bool.not_eq_true']
  rcases fold_sub h with h | ⟨h,hk⟩
  ·rcases fold_sub h with h | ⟨h,hk⟩
   ·cases h
   ·exact⟨.inl h,(ha1 y h).2,hk⟩
  ·exact⟨.inr h,hk,(hb1 y h).2⟩
theorem merge_eq(a b:List Ver):vsMerge a b=r5Merge a b:=by
 unfold vsMerge r5Merge
 rw [right_eq,right_eq]
 cases ha:r5Right a
 ·rfl
 ·cases hb:r5Right b
  ·rfl
  ·simp only [Bool.not_true,Bool.or_self,cond_false]
   obtain⟨_,ha1,ha2⟩:=right_iff ha
   obtain⟨_,hb1,hb2⟩:=right_iff hb
   have h1:(vsGo a b (a.length+b.length) a b false []).1=r5Twin a b:=by
    rw [Bool.eq_iff_iff,go_tw ha2 hb2 (Nat.le_refl _),r5Twin_iff]; simp
   rw [h1]
   cases ht:r5Twin a b
   ·rw [merge_lists ha hb (by rw [← r5Twin_iff,ht]; simp)]
   ·rfl
end Mg
end Fw
end Go.Proofs.YtckindfllegbgaaGreat
