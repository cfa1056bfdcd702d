/- Merging, out of layer 16. No condition. -/
import Derived.Test.YtckindfllegbgaaGreatG4
namespace Go.Proofs.YtckindfllegbgaaGreat
namespace Fw
namespace Mg
set_option linter.unusedVariables false
set_option linter.unusedSimpArgs false
set_option linter.unusedSectionVars false
section
variable {α S R:Type} [Inhabited α]
theorem forI_inv{body:(S→Option R)→Nat→α→S→Option R}{k:S→Option R}{l:List α}(T:Nat→S→Option R)(I:Nat→S→Prop)(hend:∀s,I l.length s→k s=T l.length s)
  (hstep:∀f i s,i<l.length→I i s→(∀s',I (i+1) s'→f s'=T (i+1) s')→body f i (gt l i) s=T i s) {s:S} (h0:I 0 s):forI body k 0 l s=T 0 s:=by
 have key:∀m i s,l.length - i=m→i≤l.length→I i s→forI body k i (l.drop i) s=T i s:=by
  intro m
  induction m with
  | zero=>
   intro i s hm hi hI
   have:i=l.length:=by omega
   subst this
   rw [List.drop_of_length_le (Nat.le_refl _)]
   exact hend s hI
  | succ m ih=>
   intro i s hm hi hI
   rw [drop_gt (by omega)]
   exact hstep _ i s (by omega) hI λs' h'=>ih (i+1) s' (by omega) (by omega) h'
 exact key _ 0 s rfl (Nat.zero_le _) h0
theorem forU_inv{body:(S→Option R)→Nat→S→Option R}{k:S→Option R}{n:Nat}(T:Nat→S→Option R)(I:Nat→S→Prop)(hend:∀s,I n s→k s=T n s)
  (hstep:∀f i s,i<n→I i s→(∀s',I (i+1) s'→f s'=T (i+1) s')→body f i s=T i s) {s:S} (h0:I 0 s):forU body k n 0 s=T 0 s:=by
 have key:∀m i s,i+m=n→I i s→forU body k m i s=T i s:=by
  intro m
  induction m with
  | zero=>
   intro i s hm hI
   obtain rfl:i=n:=by omega
   exact hend s hI
  | succ m ih=>
   intro i s hm hI
   exact hstep _ i s (by omega) hI λs' h'=>ih (i+1) s' (by omega) h'
 exact key n 0 s (by omega) h0
theorem loopN_inv{body:(S→Option R)→S→Option R}(T:S→Option R)(I:S→Prop)(μ:S→Nat)
  (hstep:∀f s,I s→(∀s',I s'→μ s'<μ s→f s'=T s')→body f s=T s):∀{n:Nat} {s:S},I s→μ s<n→loopN body n s=T s
 | 0,_,_,h=>absurd h (Nat.not_lt_zero _)
 | n+1,s,hI,h=>hstep _ s hI λs' h' hl=>loopN_inv T I μ hstep h' (by omega)
theorem forI_all{body:(Unit→Option R)→Nat→α→Unit→Option R}{k:Unit→Option R}{l:List α}{p:Nat→Bool}{r:Option R}
  (h:∀f i,i<l.length→body f i (gt l i) ()=bif p i then f () else r):forI body k 0 l ()=bif allFrom p 0 l.length then k () else r:=by
 refine forI_inv (λi _=>bif allFrom p i l.length then k () else r) (λ_ _=>True) (λs _=>?_) (λf i s hi _ hf=>?_) trivial
 ·rw [allFrom_end (Nat.le_refl _)]; rfl
 ·rw [h f i hi,hf () trivial,allFrom_step hi]
  cases p i <;> rfl
theorem forU_all{body:(Unit→Option R)→Nat→Unit→Option R}{k:Unit→Option R}{n:Nat}{p:Nat→Bool}{r:Option R}
  (h:∀f i,i<n→body f i ()=bif p i then f () else r):forU body k n 0 ()=bif allFrom p 0 n then k () else r:=by
 refine forU_inv (λi _=>bif allFrom p i n then k () else r) (λ_ _=>True) (λs _=>?_) (λf i s hi _ hf=>?_) trivial
 ·rw [allFrom_end (Nat.le_refl _)]; rfl
 ·rw [h f i hi,hf () trivial,allFrom_step hi]
  cases p i <;> rfl
end
theorem nat_f{a b:Nat}(h:a=b):((a:Int) != (b:Int))=false:=by subst h; simp
theorem nat_t{a b:Nat}(h:¬ a=b):((a:Int) != (b:Int))=true:=by rw [bne_iff_ne]; omega
theorem gcall_s{R:Type}[Inhabited R](g:Bool)(v:R):gcall g (some v)=some (bif g then v else default):=by cases g <;> rfl
theorem w64_nat{i:Nat}(h:i≤4294967296):w64 ((i:Int) - 1)=(i:Int) - 1:=w64_i (by unfold I64; omega)
theorem chk_t{R:Type}{c:Bool}{k:Option R}(h:c=true):chk c k=k:=by rw [h]; rfl
theorem e_Has(l:List Span)(d:Dot):m_span_Has l d=some (spHas l d):=by
 unfold m_span_Has
 refine forI_inv (λi _=>some (spHas (l.drop i) d)) (λ_ _=>True) (λs _=>?_) (λf i s hi _ hf=>?_) trivial
 ·rw [List.drop_of_length_le (Nat.le_refl _)]; rfl
 ·unfold m_span_Has_b1
  rw [hf () trivial,drop_gt hi,spHas]
  cases (((gt l i).s==d.s)&&(decide ((gt l i).f≤d.n)))&&(decide (d.n≤(gt l i).t)) <;> rfl
theorem e_r3Has(l:List Span)(d:Dot):m_firthref03_Has l d=some (r3Has l d):=by
 unfold m_firthref03_Has
 refine forI_inv (λi _=>some (r3Has (l.drop i) d)) (λ_ _=>True) (λs _=>?_) (λf i s hi _ hf=>?_) trivial
 ·rw [List.drop_of_length_le (Nat.le_refl _)]; rfl
 ·unfold m_firthref03_Has_b1
  rw [hf () trivial,drop_gt hi,r3Has]
  cases (((gt l i).s==d.s)&&(decide ((gt l i).f≤d.n)))&&(decide (d.n≤(gt l i).t)) <;> rfl
theorem e_r3Same(a b:List Span):m_firthref03_Same a b=some (r3Same a b):=by
 unfold m_firthref03_Same r3Same
 by_cases hl:a.length=b.length
 ·rw [nat_f hl,show (a.length==b.length)=true by simpa using hl,cond_false,cond_true]
  rw [forI_all (p:=λi=>gt a i==gt b i) (r:=some false) (λf i hi=>?_)]
  ·cases allFrom (λi=>gt a i==gt b i) 0 a.length <;> rfl
  ·unfold m_firthref03_Same_b1
   rw [chk_t (by simpa using (by omega:i<b.length))]
   show (bif !(gt a i==gt b i) then _ else _)=_
   cases gt a i==gt b i <;> rfl
 ·rw [nat_t hl,show (a.length==b.length)=false by simpa using hl]; rfl
theorem e_Right3(l:List Span):m_span_Right l=some (spRight l):=by
 unfold m_span_Right spRight
 have:=forI_inv (body:=m_span_Right_b1) (k:=λ_=>some (decide ((l.length:Int)≤1024))) (l:=l) (λi s=>some (spGo (l.drop i) s&&decide ((l.length:Int)≤1024))) (λi s=>s.t≤4611686018427387904∧0≤s.t)
  (λs _=>?_) (λf i s hi hI hf=>?_) (s:=⟨0,0,0⟩) (by decide)
 ·rw [this]; rfl
 ·rw [List.drop_of_length_le (Nat.le_refl _)]; rfl
 ·unfold m_span_Right_b1
  rw [w64_i (x:=s.t+1) (by unfold I64; omega),drop_gt hi,spGo]
  show (bif spBad (gt l i) s then _ else _)=_
  cases h:spBad (gt l i) s
  ·rw [cond_false,cond_false]
   refine hf _ ?_
   unfold spBad at h
   simp only [Bool.or_eq_false_iff,decide_eq_false_iff_not] at h
   omega
  ·rfl
theorem e_Top3(l:List Span)(s:Int):m_span_Top l s=some (spTop l s):=by
 unfold m_span_Top spTop
 have:=forI_inv (body:=m_span_Top_b5 s) (k:=λx=>some x) (l:=l) (λi t=>some (spTopGo (l.drop i) s t)) (λ_ _=>True)
  (λt _=>?_) (λf i t hi hI hf=>?_) (s:=0) trivial
 ·rw [this]; rfl
 ·rw [List.drop_of_length_le (Nat.le_refl _)]; rfl
 ·unfold m_span_Top_b5 m_span_Top_j6
  rw [hf _ trivial,hf _ trivial,drop_gt hi,spTopGo]
  cases (gt l i).s==s <;> rfl
theorem e_r3Dot(d:Dot):m_firthref03_Dot d=some (r3Dot d):=rfl
theorem e_r3Right{l:List Span}(hl:l.length≤lim)(hr:∀x∈l,I64 x.f):m_firthref03_Right l=some (r3Right l):=by
 unfold m_firthref03_Right r3Right
 have hd:(decide (1024<(l.length:Int)))=decide (1024<l.length):=by rw [Bool.eq_iff_iff,decide_eq_true_eq,decide_eq_true_eq]; omega
 rw [hd]
 cases decide (1024<l.length)
 ·rw [cond_false,cond_false,forI_all (p:=λi=>!(r3One (gt l i))&&!(decide (0<(i:Int))&&r3Two (gt l (i - 1)) (gt l i))) (r:=some false) (λf i hi=>?_)]
  ·cases allFrom (λi=>!(r3One (gt l i))&&!(decide (0<(i:Int))&&r3Two (gt l (i - 1)) (gt l i))) 0 l.length <;> rfl
  ·unfold m_firthref03_Right_b1
   rw [lim_eq] at hl
   have hf:(1≤(gt l i).f→w64 ((gt l i).f - 1)=(gt l i).f - 1):=λh=>w64_i (by have:=hr _ (gt_mem hi); unfold I64 at *; omega)
   rw [e_r3Dot,e_r3Dot,w64_nat (by omega)]
   simp only [Option.bind_some,gcall_s]
   unfold r3One
   cases h1:r3Dot ⟨(gt l i).s,(gt l i).f⟩
   ·rfl
   ·cases h2:r3Dot ⟨(gt l i).s,(gt l i).t⟩
    ·rfl
    ·cases h3:decide ((gt l i).t<(gt l i).f)
     ·simp only [Bool.not_true,Bool.not_false,cond_true,Bool.or_self,cond_false]
      rw [hf (r3Dot_t h1).2.2.1]
      by_cases h0:0<(i:Int)
      ·rw [show decide (0<(i:Int))=true by simpa using h0]
       have hi1:((i:Int) - 1).toNat=i - 1:=by omega
       rw [chk_t (show imp true (inb ((i:Int) - 1) l.length)=true by
        show inb _ _=true
        unfold inb
        rw [Bool.and_eq_true,decide_eq_true_eq,decide_eq_true_eq]; omega),hi1]
       unfold r3Two
       simp only [Bool.true_and]
       cases (decide ((gt l i).s<(gt l (i - 1)).s)||((gt l i).s==(gt l (i - 1)).s)&&decide ((gt l i).f - 1≤(gt l (i - 1)).t)) <;> rfl
      ·rw [show decide (0<(i:Int))=false by simpa using h0]
       rfl
     ·rfl
 ·rfl
theorem e_r3Top(l:List Span)(s:Int):m_firthref03_Top l s=some (r3Top l s):=by
 unfold m_firthref03_Top r3Top
 have:=forI_inv (body:=m_firthref03_Top_b5 s) (k:=λx=>some x) (l:=l) (λi t=>some (r3TopGo (l.drop i) s t)) (λ_ _=>True)
  (λt _=>?_) (λf i t hi hI hf=>?_) (s:=0) trivial
 ·rw [this]; rfl
 ·rw [List.drop_of_length_le (Nat.le_refl _)]; rfl
 ·unfold m_firthref03_Top_b5 m_firthref03_Top_j6
  rw [hf _ trivial,hf _ trivial,drop_gt hi,r3TopGo]
  cases ((gt l i).s==s)&&(decide (t<(gt l i).t)) <;> rfl
structure VerOk (v:Ver):Prop where
 dot:I64 v.dot.s∧I64 v.dot.n
 len:v.past.length≤lim
 past:∀x∈v.past,I64 x.f
 val:v.val.size≤lim
def VersOk(l:List Ver):Prop:=l.length≤lim∧∀v∈l,VerOk v
theorem e_RightOne(v:Ver):m_vers_RightOne v=some (vsRightOne v):=by
 unfold m_vers_RightOne vsRightOne
 rw [e_Right3,e_Right3,e_Top3]
 simp only [Option.bind_some,gcall_s]
 cases spRight [⟨v.dot.s,v.dot.n,v.dot.n⟩] <;> cases spRight v.past <;> rfl
theorem e_before(a b:Dot):m_vers_before a b=some (vsBefore a b):=rfl
theorem e_behind(d:Dot)(l:List Ver):m_vers_behind d l=some (vsBehind d l):=by
 unfold m_vers_behind
 refine forI_inv (λi _=>some (vsBehind d (l.drop i))) (λ_ _=>True) (λs _=>?_) (λf i s hi _ hf=>?_) trivial
 ·rw [List.drop_of_length_le (Nat.le_refl _)]; rfl
 ·unfold m_vers_behind_b1
  rw [hf () trivial,drop_gt hi,vsBehind,e_Has]
  simp only [Option.bind_some]
  cases spHas (gt l i).past d <;> rfl
theorem e_Right5{l:List Ver}(hl:l.length≤lim):m_vers_Right l=some (vsRight l):=by
 unfold m_vers_Right vsRight
 rw [forI_all (p:=λi=>!(((!(vsRightOne (gt l i)))||(decide (0<(i:Int))&&(!(vsBefore (gt l (i - 1)).dot (gt l i).dot))))||vsBehind (gt l i).dot l)) (r:=some false) (λf i hi=>?_)]
 ·cases allFrom (λi=>!(((!(vsRightOne (gt l i)))||(decide (0<(i:Int))&&(!(vsBefore (gt l (i - 1)).dot (gt l i).dot))))||vsBehind (gt l i).dot l)) 0 l.length <;> rfl
 ·unfold m_vers_Right_b1
  rw [lim_eq] at hl
  rw [e_RightOne,e_before,e_behind,w64_nat (by omega)]
  simp only [Option.bind_some,gcall_s]
  cases h1:vsRightOne (gt l i)
  ·rfl
  ·by_cases h0:0<(i:Int)
   ·rw [show decide (0<(i:Int))=true by simpa using h0]
    have hi1:((i:Int) - 1).toNat=i - 1:=by omega
    rw [chk_t (show imp _ (inb ((i:Int) - 1) l.length)=true by
     show inb _ _=true
     unfold inb
     rw [Bool.and_eq_true,decide_eq_true_eq,decide_eq_true_eq]; omega),hi1]
    cases vsBefore (gt l (i - 1)).dot (gt l i).dot <;> cases vsBehind (gt l i).dot l <;> rfl
   ·rw [show decide (0<(i:Int))=false by simpa using h0]
    show (bif _||_ then _ else _)=_
    cases vsBehind (gt l i).dot l <;> rfl
theorem e_same(a b:Ver):m_vers_same a b=some (vsSame a b):=by
 unfold m_vers_same vsSame
 cases h:((((a.dot != b.dot)||(a.gone != b.gone))||(a.val != b.val))||((a.past.length:Int) != (b.past.length:Int)))
 ·rw [cond_false,cond_false]
  have hl:a.past.length=b.past.length:=by
   have:=or_r h
   rw [bne_eq_false_iff_eq] at this; omega
  rw [forI_all (p:=λi=>!(gt a.past i != gt b.past i)) (r:=some false) (λf i hi=>?_)]
  ·cases allFrom (λi=>!(gt a.past i != gt b.past i)) 0 a.past.length <;> rfl
  ·unfold m_vers_same_b1
   rw [chk_t (by simpa using (by omega:i<b.past.length))]
   cases gt a.past i != gt b.past i <;> rfl
 ·rfl
theorem e_vclone{l:List Span}(h:l.length≤lim):m_vers_clone_api_Span l=some l:=by
 unfold m_vers_clone_api_Span; rw [chk_t (by simpa using h)]
theorem e_keep{v:Ver}{a b out:List Ver}(hv:v.past.length≤lim)(ho:out.length<lim):m_vers_Merge_1 v a b out=some (vsKeep v a b out):=by
 unfold m_vers_Merge_1 vsKeep
 rw [e_behind,e_behind,e_vclone hv]
 simp only [Option.bind_some,gcall_s]
 rw [chk_t (show decide (out.length+1≤lim)=true by rw [decide_eq_true_eq]; omega)]
 cases vsBehind v.dot a <;> cases vsBehind v.dot b <;> rfl
end Mg
end Fw
end Go.Proofs.YtckindfllegbgaaGreat
