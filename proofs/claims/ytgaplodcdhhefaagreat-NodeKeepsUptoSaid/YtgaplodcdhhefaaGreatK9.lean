/- When the order of the text serves for every order: a test that the kernel reckons fast. No condition. -/
import Derived.Test.YtgaplodcdhhefaaGreatK8
namespace Go.Proofs.YtgaplodcdhhefaaGreat
namespace Fw
set_option linter.unusedVariables false
set_option linter.unusedSimpArgs false
set_option linter.unusedSectionVars false
open Go.RowKit
def gy:List Oper→List Nat
 | []=>[]
 | o::l=>match o.dst with | some d=>d::gy l | none=>gy l
def memN(t:Nat):List Nat→Bool
 | []=>false
 | x::l=>bif Nat.beq x t then true else memN t l
def rf:List Nat→Bool
 | []=>true
 | x::l=>bif memN x l then false else rf l
def l2(ops:Array Oper)(t:Nat):List Edge→Bool
 | []=>false
 | e::l=>bif (Region.binds .any e&&(match (ops[e.on]?).bind (·.dst) with | some d=>Nat.beq d t | none=>false)) then true else l2 ops t l
def qY(k:Nat):List Edge→Bool
 | []=>false
 | e::l=>bif (Region.binds .any e&&Nat.beq e.on k) then true else qY k l
def uE(k t:Nat):List Oper→Bool
 | []=>false
 | o::l=>bif (match o.dst with | some d=>Nat.beq d t | none=>false) then qY k o.after.toList else uE k t l
def kD(ops:Array Oper)(ls:List Oper)(k:Nat)(D:List Nat)(es:List Edge):List Nat→Bool
 | []=>true
 | t::l=>bif memN t D then (bif l2 ops t es then kD ops ls k D es l else (uE k t ls&&kD ops ls k D es l)) else kD ops ls k D es l
def nj(k:Nat):List Edge→Bool
 | []=>true
 | e::l=>bif Nat.blt e.on k then nj k l else (!Region.binds .any e&&nj k l)
def tM(ops:Array Oper)(ls:List Oper)(D:List Nat):Nat→List Oper→Bool
 | _,[]=>true
 | k,o::l=>(nj k o.after.toList&&kD ops ls k D o.after.toList (o.looksAt ops))&&(match o.op with | .select ..=>false | _=>tM ops ls D (k+1) l)
def lexF(l:List Oper):Bool:=rf (gy l)&&tM l.toArray l (gy l) 0 l
theorem oV{k:Nat}:∀{l:List Edge},qY k l=true→∃e∈l,Region.binds .any e=true∧e.on=k
 | [],h=>by cases h
 | e::l,h=>by
  unfold qY at h
  cases hb:(Region.binds .any e&&Nat.beq e.on k) with
  | true=>exact⟨e,by simp,bV hb,Nat.eq_of_beq_eq_true (de hb)⟩
  | false=>
   rw [hb] at h
   obtain⟨e',h1,h2⟩:=oV (l:=l) h
   exact⟨e',by simp [h1],h2⟩
theorem sf{k t:Nat}:∀{l:List Oper},uE k t l=true→∃(j:Nat) (o:Oper),l[j]? = some o∧o.dst=some t∧∃e∈o.after.toList,Region.binds .any e=true∧e.on=k
 | [],h=>by cases h
 | o::l,h=>by
  unfold uE at h
  cases hb:(match o.dst with | some d=>Nat.beq d t | none=>false) with
  | true=>
   rw [hb] at h
   refine⟨0,o,rfl,?_,oV h⟩
   split at hb
   ·rename_i d hd; rw [hd,Nat.eq_of_beq_eq_true hb]
   ·cases hb
  | false=>
   rw [hb] at h
   obtain⟨j,o',h1,h2⟩:=sf (l:=l) h
   exact⟨j+1,o',by simpa using h1,h2⟩
theorem se{t:Nat}:∀{l:List Nat},memN t l=true↔t∈l
 | []=>by simp [memN]
 | x::l=>by
  unfold memN
  cases hb:Nat.beq x t with
  | true=>simp [(Nat.eq_of_beq_eq_true hb).symm]
  | false=>
   have:t≠x:=λe=>by subst e; simp at hb
   simp [se (l:=l),this]
theorem nN:∀{l:List Nat},rf l=true→l.Nodup
 | [],_=>by simp
 | x::l,h=>by
  unfold rf at h
  cases hb:memN x l with
  | true=>rw [hb] at h; cases h
  | false=>
   rw [hb] at h
   exact List.nodup_cons.2 ⟨(λhm=>by rw [se.2 hm] at hb; exact absurd hb (by decide)),nN h⟩
theorem nQ{ops:Array Oper}{t:Nat}:∀{l:List Edge},l2 ops t l=true→∃e∈l,Region.binds .any e=true∧(ops[e.on]?).bind (·.dst)=some t
 | [],h=>by cases h
 | e::l,h=>by
  unfold l2 at h
  cases hb:(Region.binds .any e&&(match (ops[e.on]?).bind (·.dst) with | some d=>Nat.beq d t | none=>false)) with
  | true=>
   have h1:=bV hb; have h2:=de hb
   refine⟨e,by simp,h1,?_⟩
   split at h2
   ·rename_i d hd; rw [hd,Nat.eq_of_beq_eq_true h2]
   ·cases h2
  | false=>
   rw [hb] at h
   obtain⟨e',h1,h2⟩:=nQ (l:=l) h
   exact⟨e',by simp [h1],h2⟩
theorem jN{ops:Array Oper}{ls:List Oper}{k:Nat}{D:List Nat}{es:List Edge}:∀{l:List Nat},kD ops ls k D es l=true→∀t∈l,t∈D→l2 ops t es=true∨uE k t ls=true
 | [],_,t,ht,_=>by cases ht
 | x::l,h,t,ht,hD=>by
  unfold kD at h
  cases hb:memN x D with
  | true=>
   rw [hb] at h
   cases hf:l2 ops x es with
   | false=>
    rw [hf] at h
    rcases List.mem_cons.1 ht with rfl | ht
    ·exact .inr (bV h)
    ·exact jN (l:=l) (de h) t ht hD
   | true=>
    rw [hf] at h
    rcases List.mem_cons.1 ht with rfl | ht
    ·exact .inl hf
    ·exact jN (l:=l) h t ht hD
  | false=>
   rw [hb] at h
   rcases List.mem_cons.1 ht with rfl | ht
   ·rw [se.2 hD] at hb; cases hb
   ·exact jN (l:=l) h t ht hD
theorem ic{k:Nat}:∀{l:List Edge},nj k l=true→∀e∈l,Region.binds .any e=true→e.on<k
 | [],_,e,he,_=>by cases he
 | x::l,h,e,he,hb=>by
  unfold nj at h
  cases hk:Nat.blt x.on k with
  | true=>
   rw [hk] at h
   rcases List.mem_cons.1 he with rfl | he
   ·simpa [Nat.blt_eq] using hk
   ·exact ic (l:=l) h e he hb
  | false=>
   rw [hk] at h
   rcases List.mem_cons.1 he with rfl | he
   ·have:=bV h; rw [hb] at this; cases this
   ·exact ic (l:=l) (de h) e he hb
theorem lL{ops:Array Oper}{ls:List Oper}{D:List Nat}:∀{k:Nat} {l:List Oper},tM ops ls D k l=true→∀j o,l[j]? = some o→nj (k+j) o.after.toList=true∧kD ops ls (k+j) D o.after.toList (o.looksAt ops)=true∧(match o.op with | .select ..=>false | _=>true)=true
 | k,[],_,j,o,h=>by simp at h
 | k,x::l,h,0,o,ho=>by
  simp only [List.getElem?_cons_zero,Ec] at ho
  subst ho
  unfold tM at h
  refine⟨bV (bV h),de (bV h),?_⟩
  have:=de h
  split at this <;> simp_all
 | k,x::l,h,j+1,o,ho=>by
  unfold tM at h
  have h2:=de h
  have h3:tM ops ls D (k+1) l=true:=by split at h2 <;> simp_all
  have:=lL (l:=l) h3 j o (by simpa using ho)
  rwa [show k+1+j=k+(j+1) by omega] at this
theorem lq:∀{l:List Oper},(gy l).Nodup→∀{i j:Nat} {x y:Oper} {d:Nat},l[i]? = some x→l[j]? = some y→x.dst=some d→y.dst=some d→i=j
 | [],_,i,j,x,y,d,hx,_,_,_=>by simp at hx
 | o::l,h,i,j,x,y,d,hx,hy,dx,dy=>by
  have hmem:∀{l:List Oper} {j:Nat} {y:Oper} {d:Nat},l[j]? = some y→y.dst=some d→d∈gy l:=by
   intro l
   induction l with
   | nil=>intro j y d hy; simp at hy
   | cons o l ih=>
    intro j y d hy hd
    cases j with
    | zero=>simp at hy; subst hy; simp [gy,hd]
    | succ j=>
     have:=ih (j:=j) (by simpa using hy) hd
     unfold gy; split <;> simp [this]
  have htl:(gy l).Nodup:=by
   unfold gy at h; split at h
   ·exact(List.nodup_cons.1 h).2
   ·exact h
  cases i with
  | zero=>
   simp at hx; subst hx
   cases j with
   | zero=>rfl
   | succ j=>
    have:=hmem (j:=j) (l:=l) (by simpa using hy) dy
    simp only [gy,dx] at h
    exact absurd this (List.nodup_cons.1 h).1
  | succ i=>
   cases j with
   | zero=>
    simp at hy; subst hy
    have:=hmem (j:=i) (l:=l) (by simpa using hx) dx
    simp only [gy,dy] at h
    exact absurd this (List.nodup_cons.1 h).1
   | succ j=>rw [lq htl (i:=i) (j:=j) (by simpa using hx) (by simpa using hy) dx dy]
theorem zf:∀{l:List Oper} {j:Nat} {y:Oper} {d:Nat},l[j]? = some y→y.dst=some d→d∈gy l:=by
 intro l
 induction l with
 | nil=>intro j y d hy; simp at hy
 | cons o l ih=>
  intro j y d hy hd
  cases j with
  | zero=>simp at hy; subst hy; simp [gy,hd]
  | succ j=>
   have:=ih (j:=j) (by simpa using hy) hd
   unfold gy; split <;> simp [this]
theorem xR{l:List Oper}(h:lexF l=true){k:Nat}{listed:Array Bool}(hk:k<l.length)(hL:∀j,j<l.length→listed.getD j true=decide (j<k)):Region.free .any l.toArray listed k=true:=by
 have hD:=nN (bV h)
 have hspec:=lL (de h)
 have hok:l[k]? = some l[k]:=List.getElem?_eq_getElem hk
 simp only [Region.free,List.getElem?_toArray,hok,List.all_eq_true,List.mem_range,List.size_toArray]
 intro j hj
 have hoj:l[j]? = some l[j]:=List.getElem?_eq_getElem hj
 simp only [hoj]
 by_cases hjk:j=k
 ·simp [hjk]
 by_cases hlt:j<k
 ·simp [hL j hj,hlt]
 have hgt:k<j:=by omega
 have hsj:=hspec j _ hoj
 have hsk:=hspec k _ hok
 have hkey:∀{i j:Nat} {x y:Oper} {d:Nat},l[i]? = some x→l[j]? = some y→x.dst=some d→d∈y.looksAt l.toArray→kD l.toArray l (0+j) (gy l) y.after.toList (y.looksAt l.toArray)=true→(∃e∈y.after.toList,Region.binds .any e=true∧e.on=i)∨(∃e∈x.after.toList,Region.binds .any e=true∧e.on=j):=by
  intro i j x y d hx hy dx hm hl
  rcases jN hl d hm (zf hx dx) with h1 | h1
  ·obtain⟨e,he,hb,hd⟩:=nQ h1
   obtain⟨z,hz,hzd⟩:=Option.bind_eq_some_iff.1 hd
   simp only [List.getElem?_toArray] at hz
   exact .inl ⟨e,he,hb,lq hD hz hx hzd dx⟩
  ·obtain⟨q,o,hq,hod,e,he,hb,hon⟩:=sf h1
   obtain rfl:=lq hD hq hx hod dx
   rw [hx] at hq
   obtain rfl:=Option.some.inj hq
   exact .inr ⟨e,he,hb,by omega⟩
 by_cases ha:l[j].after.any (λe=>Region.binds .any e&&e.on==k)=true
 ·simp [ha]
 have hap:l[k].apart l.toArray l[j]=true:=by
  have c1:∀d,l[k].dst=some d→d ∉ l[j].looksAt l.toArray:=by
   intro d hd hm
   rcases hkey hok hoj hd hm hsj.2.1 with ⟨e,he,hb,hon⟩ | ⟨e,he,hb,hon⟩
   ·refine ha ?_
    rw [Array.any_eq_true']
    exact⟨e,by simpa using he,by simp [hb,hon]⟩
   ·have:=ic hsk.1 e he hb
    omega
  have c2:∀d,l[k].dst=some d→l[j].dst≠some d:=λd hd hd'=>hjk (lq hD hok hoj hd hd').symm
  have c3:∀d,l[j].dst=some d→d ∉ l[k].looksAt l.toArray:=by
   intro d hd hm
   rcases hkey hoj hok hd hm hsk.2.1 with ⟨e,he,hb,hon⟩ | ⟨e,he,hb,hon⟩
   ·have:=ic hsk.1 e he hb
    omega
   ·refine ha ?_
    rw [Array.any_eq_true']
    exact⟨e,by simpa using he,by simp [hb,hon]⟩
  unfold Oper.apart
  simp only [DW]
  constructor
  ·cases hd:l[k].dst with
   | none=>rfl
   | some d=>simp [c1 d hd,c2 d hd]
  ·cases hd:l[j].dst with
   | none=>rfl
   | some d=>simp [c3 d hd]
 simp [hap]
theorem w8{l:List Oper}(h:lexF l=true){k:Nat}{listed:Array Bool}(hk:k<l.length)(hsz:listed.size=l.length)(hL:∀j,j<l.length→listed.getD j true=decide (j<k)):(Region.ready .any l.toArray listed).contains k=true:=by
 have hok:l[k]? = some l[k]:=List.getElem?_eq_getElem hk
 have hs:=lL (de h) k _ hok
 simp only [Region.ready,List.contains_iff_mem,List.mem_filter,List.mem_range,List.size_toArray,List.getElem?_toArray,hok,Eh,Option.getD_some,DW,Bool.not_eq_true']
 refine⟨hk,by rw [hL k hk]; simp,?_⟩
 rw [Array.all_eq_true']
 intro e he
 cases hb:Region.binds .any e with
 | false=>rfl
 | true=>
  have hlt:=ic hs.1 e (by simpa using he) hb
  have h1:=hL e.on (by omega)
  have h2:listed.getD e.on false=listed.getD e.on true:=by
   simp only [Array.getD_eq_getD_getElem?]
   rw [Array.getElem?_eq_getElem (by omega)]; rfl
  simp only [Bool.not_true,Bool.false_or]
  rw [h2,h1]
  have:e.on<k:=by omega
  simp [this]
theorem tF{l:List Oper}(h:lexF l=true):∀(n k:Nat) (listed:Array Bool),k+n=l.length→listed.size=l.length→(∀j,j<l.length→listed.getD j true=decide (j<k))→Region.lexFrom .any l.toArray n k listed=true
 | 0,k,listed,hn,hsz,hL=>by
  simp only [Region.lexFrom,List.isEmpty_iff,Region.ready,List.filter_eq_nil_iff,List.mem_range,List.size_toArray]
  intro j hj
  rw [hL j hj]
  have:j<k:=by omega
  simp [this]
 | n+1,k,listed,hn,hsz,hL=>by
  have hk:k<l.length:=by omega
  simp only [Region.lexFrom,DW]
  refine⟨⟨w8 h hk hsz hL,xR h hk hL⟩,tF h n (k+1) _ (by omega) (by simpa using hsz) ?_⟩
  intro j hj
  by_cases hjk:j=k
  ·subst hjk
   simp [Array.getD_eq_getD_getElem?,hsz,hk]
  ·have:=hL j hj
   simp only [Array.getD_eq_getD_getElem?,Array.getElem?_setIfInBounds] at this ⊢
   rw [if_neg (λe=>hjk e.symm),this]
   by_cases h1:j<k
   ·have:j<k+1:=by omega
    simp [h1,this]
   ·have:¬ j<k+1:=by omega
    simp [h1,this]
theorem Bb{l:List Oper}(h:lexF l=true):Region.lexB .any l.toArray=true:=by
 simp only [Region.lexB,DW]
 constructor
 ·simp only [Region.noSelect]
  rw [Array.all_eq_true']
  intro o ho
  obtain⟨j,hj,he⟩:=List.getElem_of_mem (show o∈l by simpa using ho)
  have:=(lL (de h) j o (by rw [List.getElem?_eq_getElem hj,he])).2.2
  split at this <;> simp_all
 ·refine tF h _ 0 _ (by simp) (by simp) ?_
  intro j hj
  simp [Array.getD_eq_getD_getElem?,hj]
section
variable {P:Program} {N:FN} {C:World→Prop} {Q:Exit→Env→World→Prop} {σ:Env}
theorem WC.dr{id:Nat}{l:List Oper}(hm:P.follows .mixedOrders=true)(hB:lexF l=true)(hC:∀w,C w→C { w with drawn:=w.drawn+1 })(h:WQ P N l.toArray C Q l σ):WC P N C (.region id l.toArray true) Q σ:=WC.draw hm (Bb hB) hC h
end
end Fw
end Go.Proofs.YtgaplodcdhhefaaGreat
