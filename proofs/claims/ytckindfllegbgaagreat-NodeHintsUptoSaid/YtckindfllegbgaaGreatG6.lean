/- Merging, out of layer 16. No condition. -/
import Derived.Test.YtckindfllegbgaaGreatG5
namespace Go.Proofs.YtckindfllegbgaaGreat
namespace Fw
namespace Mg
set_option linter.unusedVariables false
set_option linter.unusedSimpArgs false
set_option linter.unusedSectionVars false
def mOut(q:Bool×List Ver):Option (List Ver×Int):=bif q.1 then some ([],50) else bif decide ((512:Int)<(q.2.length:Int)) then some ([],3) else some (q.2,0)
def mGo(a b:List Ver)(s:Bool×Int×Int×List Ver):Bool×List Ver:=vsGo a b ((a.length - s.2.1.toNat)+(b.length - s.2.2.1.toNat)) (a.drop s.2.1.toNat) (b.drop s.2.2.1.toNat) s.1 s.2.2.2
theorem inb_nat{i n:Nat}(h:i<n):inb (i:Int) n=true:=by unfold inb; rw [Bool.and_eq_true,decide_eq_true_eq,decide_eq_true_eq]; omega
theorem w64_s{i:Nat}(h:i≤4294967296):w64 ((i:Int)+1)=((i+1:Nat):Int):=by rw [w64_i (by unfold I64; omega)]; omega
theorem e_mergeLoop{a b:List Ver}(ha:a.length≤512)(hb:b.length≤512)(hva:∀v∈a,VerOk v)(hvb:∀v∈b,VerOk v):loopN (m_vers_Merge_b1 a b) FU (false,0,0,[])=mOut (vsGo a b (a.length+b.length) a b false []):=by
 have:=loopN_inv (body:=m_vers_Merge_b1 a b) (λs=>mOut (mGo a b s)) (λs => ∃i k:Nat,s.2.1=(i:Int)∧s.2.2.1=(k:Int)∧i≤a.length∧k≤b.length∧s.2.2.2.length≤i+k)
  (λs=>(a.length - s.2.1.toNat)+(b.length - s.2.2.1.toNat)) (λf s hI hf=>?_) (n:=FU) (s:=(false,0,0,[])) ⟨0,0,rfl,rfl,by omega,by omega,by simp⟩ (by simp [FU]; omega)
 ·rw [this]; simp [mGo]
 obtain⟨tw,i0,k0,out⟩:=s
 obtain⟨i,k,hi,hk,hia,hkb,ho⟩:=hI
 simp only at hi hk ho
 subst hi; subst hk
 unfold m_vers_Merge_b1
 simp only [e_before,e_same,Option.bind_some,gcall_s,Int.toNat_natCast]
 have hlim:out.length<lim:=by rw [lim_eq]; omega
 cases hc0:(decide ((i:Int)<(a.length:Int))||decide ((k:Int)<(b.length:Int)))
 ·-- at the end
  simp only [Bool.or_eq_false_iff,decide_eq_false_iff_not] at hc0
  have h1:i=a.length:=by omega
  have h2:k=b.length:=by omega
  subst h1; subst h2
  rw [cond_false]
  unfold mGo mOut
  simp only [Int.toNat_natCast,Nat.sub_self,Nat.add_zero,List.drop_length,vsGo]
 ·rw [cond_true]
  have g1:imp (!((k:Int)==(b.length:Int))&&decide ((i:Int)<(a.length:Int))) (inb (i:Int) a.length)=true:=by
   cases h:(!((k:Int)==(b.length:Int))&&decide ((i:Int)<(a.length:Int)))
   ·rfl
   ·have:=and_r h; rw [decide_eq_true_eq] at this
    exact inb_nat (by omega)
  have g2:imp (!((k:Int)==(b.length:Int))&&decide ((i:Int)<(a.length:Int))) (inb (k:Int) b.length)=true:=by
   cases h:(!((k:Int)==(b.length:Int))&&decide ((i:Int)<(a.length:Int)))
   ·rfl
   ·have:=and_l h
    simp only [Bool.not_eq_true',beq_eq_false_iff_ne,ne_eq] at this
    exact inb_nat (by omega)
  rw [chk_t g1,chk_t g2]
  have hz:(((k:Int)==(b.length:Int))||(decide ((i:Int)<(a.length:Int))&&(bif (!((k:Int)==(b.length:Int))&&decide ((i:Int)<(a.length:Int))) then vsBefore (gt a i).dot (gt b k).dot else default))) =
    (((k:Int)==(b.length:Int))||(decide ((i:Int)<(a.length:Int))&&vsBefore (gt a i).dot (gt b k).dot)):=by
   cases ((k:Int)==(b.length:Int)) <;> cases decide ((i:Int)<(a.length:Int)) <;> rfl
  rw [hz]
  cases hc:(((k:Int)==(b.length:Int))||(decide ((i:Int)<(a.length:Int))&&vsBefore (gt a i).dot (gt b k).dot))
  ·rw [cond_false]
   have hkb2:k<b.length:=by
    have:=or_l hc
    rw [beq_eq_false_iff_ne] at this; omega
   have g3:imp (decide ((i:Int)<(a.length:Int))) (inb (i:Int) a.length)=true:=by
    cases h:decide ((i:Int)<(a.length:Int))
    ·rfl
    ·rw [decide_eq_true_eq] at h; exact inb_nat (by omega)
   have g4:imp (decide ((i:Int)<(a.length:Int))) (inb (k:Int) b.length)=true:=by
    cases h:decide ((i:Int)<(a.length:Int))
    ·rfl
    ·exact inb_nat hkb2
   rw [chk_t g3,chk_t g4]
   cases he:(decide ((i:Int)<(a.length:Int))&&((gt a i).dot==(gt b k).dot))
   ·rw [cond_false,chk_t (inb_nat hkb2),e_keep (hvb _ (gt_mem hkb2)).len hlim,Option.bind_some,w64_s (by omega),hf]
    ·show mOut (mGo a b _)=mOut (mGo a b _)
     unfold mGo
     simp only [Int.toNat_natCast]
     rw [vsGo_b hia hkb2 hc he]
    ·refine⟨i,k+1,rfl,rfl,hia,hkb2,?_⟩
     have:=vsKeep_len (gt b k) a b out
     simp only; omega
    ·simp only [Int.toNat_natCast]; omega
   ·rw [cond_true]
    have hia2:i<a.length:=by have:=and_l he; rw [decide_eq_true_eq] at this; omega
    have g5:imp (!tw) (inb (i:Int) a.length)=true:=by cases tw; exact inb_nat hia2; rfl
    have g6:imp (!tw) (inb (k:Int) b.length)=true:=by cases tw; exact inb_nat hkb2; rfl
    rw [chk_t g5,chk_t g6,w64_s (by omega),hf]
    ·show mOut (mGo a b _)=mOut (mGo a b _)
     unfold mGo
     simp only [Int.toNat_natCast]
     rw [vsGo_t hia2 hkb2 hc (and_r he)]
     cases tw <;> rfl
    ·exact⟨i+1,k,rfl,rfl,hia2,hkb,by simp only; omega⟩
    ·simp only [Int.toNat_natCast]; omega
  ·rw [cond_true]
   have hia2:i<a.length:=by
    by_cases hkb2:k=b.length
    ·subst hkb2; simp at hc0; omega
    ·rw [Bool.or_eq_true] at hc
     rcases hc with h | h
     ·rw [beq_iff_eq] at h; omega
     ·have:=and_l h; rw [decide_eq_true_eq] at this; omega
   rw [chk_t (inb_nat hia2),e_keep (hva _ (gt_mem hia2)).len hlim,Option.bind_some,w64_s (by omega),hf]
   ·show mOut (mGo a b _)=mOut (mGo a b _)
    unfold mGo
    simp only [Int.toNat_natCast]
    rw [vsGo_a hia2 hkb hc]
   ·refine⟨i+1,k,rfl,rfl,hia2,hkb,?_⟩
    have:=vsKeep_len (gt a i) a b out
    simp only; omega
   ·simp only [Int.toNat_natCast]; omega
theorem e_Merge{a b:List Ver}(ha:VersOk a)(hb:VersOk b):m_vers_Merge a b=some (vsMerge a b):=by
 unfold m_vers_Merge vsMerge
 rw [e_Right5 ha.1,e_Right5 hb.1]
 simp only [Option.bind_some,gcall_s]
 cases h1:vsRight a
 ·rfl
 ·cases h2:vsRight b
  ·rfl
  ·show loopN (m_vers_Merge_b1 a b) FU (false,0,0,[])=_
   rw [e_mergeLoop (vsRight_len h1) (vsRight_len h2) ha.2 hb.2]
   simp only [Bool.not_true,Bool.or_self,cond_false]
   unfold mOut
   cases (vsGo a b (a.length+b.length) a b false []).1
   ·rw [cond_false,cond_false]
    cases decide ((512:Int)<(((vsGo a b (a.length+b.length) a b false []).2.length:Nat):Int)) <;> rfl
   ·rfl
theorem e_SameOne(a b:Ver):m_firthref05_SameOne a b=some (r5SameOne a b):=by
 unfold m_firthref05_SameOne r5SameOne
 rw [e_r3Same]
 simp only [Option.bind_some,gcall_s]
 cases (((a.dot==b.dot)&&(a.gone==b.gone))&&(a.val==b.val)) <;> rfl
theorem e_vsSameL(a b:List Ver):m_vers_Same a b=some (vsSameL a b):=by
 unfold m_vers_Same vsSameL
 have hm:(min (a.length:Int) (b.length:Int)).toNat=min a.length b.length:=by omega
 rw [hm,forU_all (p:=λi=>vsSame (gt a i) (gt b i)) (r:=some false) (λf i hi=>?_)]
 ·cases allFrom (λk=>vsSame (gt a k) (gt b k)) 0 (min a.length b.length) <;> rfl
 ·unfold m_vers_Same_b1
  rw [chk_t (by simpa using (by omega:i<a.length)),chk_t (by simpa using (by omega:i<b.length)),e_same]
  show (bif !(vsSame (gt a i) (gt b i)) then _ else _)=_
  cases vsSame (gt a i) (gt b i) <;> rfl
theorem e_r5Behind(l:List Ver)(d:Dot):m_firthref05_Behind l d=some (r5Behind l d):=by
 unfold m_firthref05_Behind
 refine forI_inv (λi _=>some (r5Behind (l.drop i) d)) (λ_ _=>True) (λs _=>?_) (λf i s hi _ hf=>?_) trivial
 ·rw [List.drop_of_length_le (Nat.le_refl _)]; rfl
 ·unfold m_firthref05_Behind_b1
  rw [hf () trivial,drop_gt hi,r5Behind,e_r3Has]
  simp only [Option.bind_some]
  cases r3Has (gt l i).past d <;> rfl
theorem e_Less(a b:Dot):m_firthref05_Less a b=some (r5Less a b):=by
 unfold m_firthref05_Less r5Less
 cases a.s != b.s <;> rfl
theorem e_r5RightOne{v:Ver}(hv:VerOk v):m_firthref05_RightOne v=some (r5RightOne v):=by
 unfold m_firthref05_RightOne r5RightOne
 rw [e_r3Dot,e_r3Right hv.len hv.past,e_r3Top]
 simp only [Option.bind_some,gcall_s]
 cases r3Dot v.dot
 ·rfl
 ·cases r3Right v.past
  ·rfl
  ·simp only [Bool.not_true,Bool.not_false,Bool.or_self,cond_true,Bool.false_or]
   cases decide (v.dot.n≤r3Top v.past v.dot.s)
   ·cases v.gone <;> rfl
   ·rfl
theorem e_r5Right{l:List Ver}(hl:VersOk l):m_firthref05_Right l=some (r5Right l):=by
 unfold m_firthref05_Right r5Right
 have hd:(decide (512<(l.length:Int)))=decide (512<l.length):=by rw [Bool.eq_iff_iff,decide_eq_true_eq,decide_eq_true_eq]; omega
 rw [hd]
 cases decide (512<l.length)
 ·rw [cond_false,cond_false,forI_all (p:=λi=>!((!(r5RightOne (gt l i)))||r5Behind l (gt l i).dot)&&!(decide (0<(i:Int))&&!(r5Less (gt l (i - 1)).dot (gt l i).dot))) (r:=some false) (λf i hi=>?_)]
  ·cases allFrom (λi=>!((!(r5RightOne (gt l i)))||r5Behind l (gt l i).dot)&&!(decide (0<(i:Int))&&!(r5Less (gt l (i - 1)).dot (gt l i).dot))) 0 l.length <;> rfl
  ·unfold m_firthref05_Right_b1
   have hl1:=hl.1
   rw [lim_eq] at hl1
   rw [e_r5RightOne (hl.2 _ (gt_mem hi)),e_r5Behind,e_Less,w64_nat (by omega)]
   simp only [Option.bind_some,gcall_s]
   cases r5RightOne (gt l i)
   ·rfl
   ·cases r5Behind l (gt l i).dot
    ·by_cases h0:0<(i:Int)
     ·rw [show decide (0<(i:Int))=true by simpa using h0]
      have hi1:((i:Int) - 1).toNat=i - 1:=by omega
      simp only [Bool.not_true,Bool.not_false,cond_true,Bool.or_self,cond_false,Bool.true_and]
      rw [chk_t (show imp _ (inb ((i:Int) - 1) l.length)=true by
       show inb _ _=true
       unfold inb
       rw [Bool.and_eq_true,decide_eq_true_eq,decide_eq_true_eq]; omega),hi1]
      cases r5Less (gt l (i - 1)).dot (gt l i).dot <;> rfl
     ·rw [show decide (0<(i:Int))=false by simpa using h0]
      rfl
    ·rfl
 ·rfl
theorem e_Lacks{a b:List Ver}(ha:VersOk a)(hb:VersOk b):m_vers_Lacks a b=some (vsLacks a b):=by
 unfold m_vers_Lacks vsLacks
 rw [e_Merge ha hb,Option.bind_some,e_vsSameL,gcall_s,Option.bind_some]
 cases ((vsMerge a b).2==0) <;> rfl
theorem sameL_eq(a b:List Ver):vsSameL a b=r5Same a b:=by
 unfold vsSameL r5Same
 by_cases hl:a.length=b.length
 ·rw [show (a.length==b.length)=true by simpa using hl,cond_true,show min a.length b.length=a.length by omega,show ((a.length:Int)==(b.length:Int))=true by rw [beq_iff_eq]; omega]
  rw [allFrom_congr (q:=λi=>r5SameOne (gt a i) (gt b i)) λi _=>vsSame_eq _ _]
  cases allFrom (λi=>r5SameOne (gt a i) (gt b i)) 0 a.length <;> rfl
 ·rw [show (a.length==b.length)=false by simpa using hl,show ((a.length:Int)==(b.length:Int))=false by rw [beq_eq_false_iff_ne]; omega]
  cases allFrom (λk=>vsSame (gt a k) (gt b k)) 0 (min a.length b.length) <;> rfl
theorem r5Same_iff{a b:List Ver}:r5Same a b=true↔a=b:=by
 unfold r5Same
 by_cases hl:a.length=b.length
 ·rw [show (a.length==b.length)=true by simpa using hl,cond_true,all0_iff]
  constructor
  ·intro h; exact gt_ext hl λi hi=>sameOne_iff.1 (h i hi)
  ·rintro rfl i _; exact sameOne_iff.2 rfl
 ·rw [show (a.length==b.length)=false by simpa using hl,cond_false]
  simp only [Bool.false_eq_true,false_iff]
  rintro rfl; exact hl rfl
theorem merge_mem{a b:List Ver}{y:Ver}(h:y∈(r5Merge a b).1):y∈a∨y∈b:=by
 unfold r5Merge at h
 cases h1:((!(r5Right a))||(!(r5Right b)))
 ·rw [h1,cond_false] at h
  cases h2:r5Twin a b
  ·rw [h2,cond_false] at h
   cases h3:decide ((512:Int)<((r5Fold b a (r5Fold a b [])).length:Int))
   ·rw [h3,cond_false] at h
    rcases fold_sub h with h | ⟨h,_⟩
    ·rcases fold_sub h with h | ⟨h,_⟩
     ·cases h
     ·exact .inl h
    ·exact .inr h
   ·rw [h3] at h; cases h
  ·rw [h2] at h; cases h
 ·rw [h1] at h; cases h
theorem merge_len(a b:List Ver):(r5Merge a b).1.length≤512:=by
 unfold r5Merge
 cases ((!(r5Right a))||(!(r5Right b)))
 ·rw [cond_false]
  cases r5Twin a b
  ·rw [cond_false]
   cases h3:decide ((512:Int)<((r5Fold b a (r5Fold a b [])).length:Int))
   ·rw [cond_false]
    rw [decide_eq_false_iff_not] at h3
    show (r5Fold b a (r5Fold a b [])).length≤512
    omega
   ·simp
  ·simp
 ·simp
end Mg
end Fw
end Go.Proofs.YtckindfllegbgaaGreat
