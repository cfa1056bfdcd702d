/- When the order of the text serves for every order: a test that the kernel reckons fast. No condition. -/
import Derived.Test.YtangaamigenjjaaGreatK8
namespace Go.Proofs.YtangaamigenjjaaGreat
namespace Fw
set_option linter.unusedVariables false
set_option linter.unusedSimpArgs false
set_option linter.unusedSectionVars false
open Go.RowKit
def gP:List Oper→List Nat
 | []=>[]
 | o::l=>match o.dst with | some d=>d::gP l | none=>gP l
def memN(t:Nat):List Nat→Bool
 | []=>false
 | x::l=>bif Nat.beq x t then true else memN t l
def qA:List Nat→Bool
 | []=>true
 | x::l=>bif memN x l then false else qA l
def kX(ops:Array Oper)(t:Nat):List Edge→Bool
 | []=>false
 | e::l=>bif (Region.binds .any e&&(match (ops[e.on]?).bind (·.dst) with | some d=>Nat.beq d t | none=>false)) then true else kX ops t l
def qB(k:Nat):List Edge→Bool
 | []=>false
 | e::l=>bif (Region.binds .any e&&Nat.beq e.on k) then true else qB k l
def uz(k t:Nat):List Oper→Bool
 | []=>false
 | o::l=>bif (match o.dst with | some d=>Nat.beq d t | none=>false) then qB k o.after.toList else uz k t l
def kC(ops:Array Oper)(ls:List Oper)(k:Nat)(D:List Nat)(es:List Edge):List Nat→Bool
 | []=>true
 | t::l=>bif memN t D then (bif kX ops t es then kC ops ls k D es l else (uz k t ls&&kC ops ls k D es l)) else kC ops ls k D es l
def n8(k:Nat):List Edge→Bool
 | []=>true
 | e::l=>bif Nat.blt e.on k then n8 k l else (!Region.binds .any e&&n8 k l)
def s6(ops:Array Oper)(ls:List Oper)(D:List Nat):Nat→List Oper→Bool
 | _,[]=>true
 | k,o::l=>(n8 k o.after.toList&&kC ops ls k D o.after.toList (o.looksAt ops))&&(match o.op with | .select ..=>false | _=>s6 ops ls D (k+1) l)
def lexF(l:List Oper):Bool:=qA (gP l)&&s6 l.toArray l (gP l) 0 l
theorem oC{k:Nat}:∀{l:List Edge},qB k l=true→∃e∈l,Region.binds .any e=true∧e.on=k
 | [],h=>by cases h
 | e::l,h=>by
  unfold qB at h
  cases hb:(Region.binds .any e&&Nat.beq e.on k) with
  | true=>exact⟨e,by simp,d4 hb,Nat.eq_of_beq_eq_true (fi hb)⟩
  | false=>
   rw [hb] at h
   obtain⟨e',h1,h2⟩:=oC (l:=l) h
   exact⟨e',by simp [h1],h2⟩
theorem qI{k t:Nat}:∀{l:List Oper},uz k t l=true→∃(j:Nat) (o:Oper),l[j]? = some o∧o.dst=some t∧∃e∈o.after.toList,Region.binds .any e=true∧e.on=k
 | [],h=>by cases h
 | o::l,h=>by
  unfold uz at h
  cases hb:(match o.dst with | some d=>Nat.beq d t | none=>false) with
  | true=>
   rw [hb] at h
   refine⟨0,o,rfl,?_,oC h⟩
   split at hb
   ·rename_i d hd; rw [hd,Nat.eq_of_beq_eq_true hb]
   ·cases hb
  | false=>
   rw [hb] at h
   obtain⟨j,o',h1,h2⟩:=qI (l:=l) h
   exact⟨j+1,o',by simpa using h1,h2⟩
theorem r5{t:Nat}:∀{l:List Nat},memN t l=true↔t∈l
 | []=>by simp [memN]
 | x::l=>by
  unfold memN
  cases hb:Nat.beq x t with
  | true=>simp [(Nat.eq_of_beq_eq_true hb).symm]
  | false=>
   have:t≠x:=λe=>by subst e; simp at hb
   simp [r5 (l:=l),this]
theorem ny:∀{l:List Nat},qA l=true→l.Nodup
 | [],_=>by simp
 | x::l,h=>by
  unfold qA at h
  cases hb:memN x l with
  | true=>rw [hb] at h; cases h
  | false=>
   rw [hb] at h
   exact List.nodup_cons.2 ⟨(λhm=>by rw [r5.2 hm] at hb; exact absurd hb (by decide)),ny h⟩
theorem nw{ops:Array Oper}{t:Nat}:∀{l:List Edge},kX ops t l=true→∃e∈l,Region.binds .any e=true∧(ops[e.on]?).bind (·.dst)=some t
 | [],h=>by cases h
 | e::l,h=>by
  unfold kX at h
  cases hb:(Region.binds .any e&&(match (ops[e.on]?).bind (·.dst) with | some d=>Nat.beq d t | none=>false)) with
  | true=>
   have h1:=d4 hb; have h2:=fi hb
   refine⟨e,by simp,h1,?_⟩
   split at h2
   ·rename_i d hd; rw [hd,Nat.eq_of_beq_eq_true h2]
   ·cases h2
  | false=>
   rw [hb] at h
   obtain⟨e',h1,h2⟩:=nw (l:=l) h
   exact⟨e',by simp [h1],h2⟩
theorem jH{ops:Array Oper}{ls:List Oper}{k:Nat}{D:List Nat}{es:List Edge}:∀{l:List Nat},kC ops ls k D es l=true→∀t∈l,t∈D→kX ops t es=true∨uz k t ls=true
 | [],_,t,ht,_=>by cases ht
 | x::l,h,t,ht,hD=>by
  unfold kC at h
  cases hb:memN x D with
  | true=>
   rw [hb] at h
   cases hf:kX ops x es with
   | false=>
    rw [hf] at h
    rcases List.mem_cons.1 ht with rfl | ht
    ·exact .inr (d4 h)
    ·exact jH (l:=l) (fi h) t ht hD
   | true=>
    rw [hf] at h
    rcases List.mem_cons.1 ht with rfl | ht
    ·exact .inl hf
    ·exact jH (l:=l) h t ht hD
  | false=>
   rw [hb] at h
   rcases List.mem_cons.1 ht with rfl | ht
   ·rw [r5.2 hD] at hb; cases hb
   ·exact jH (l:=l) h t ht hD
theorem iH{k:Nat}:∀{l:List Edge},n8 k l=true→∀e∈l,Region.binds .any e=true→e.on<k
 | [],_,e,he,_=>by cases he
 | x::l,h,e,he,hb=>by
  unfold n8 at h
  cases hk:Nat.blt x.on k with
  | true=>
   rw [hk] at h
   rcases List.mem_cons.1 he with rfl | he
   ·simpa [Nat.blt_eq] using hk
   ·exact iH (l:=l) h e he hb
  | false=>
   rw [hk] at h
   rcases List.mem_cons.1 he with rfl | he
   ·have:=d4 h; rw [hb] at this; cases this
   ·exact iH (l:=l) (fi h) e he hb
theorem lw{ops:Array Oper}{ls:List Oper}{D:List Nat}:∀{k:Nat} {l:List Oper},s6 ops ls D k l=true→∀j o,l[j]? = some o→n8 (k+j) o.after.toList=true∧kC ops ls (k+j) D o.after.toList (o.looksAt ops)=true∧(match o.op with | .select ..=>false | _=>true)=true
 | k,[],_,j,o,h=>by simp at h
 | k,x::l,h,0,o,ho=>by
  simp only [List.getElem?_cons_zero,CJ] at ho
  subst ho
  unfold s6 at h
  refine⟨d4 (d4 h),fi (d4 h),?_⟩
  have:=fi h
  split at this <;> simp_all
 | k,x::l,h,j+1,o,ho=>by
  unfold s6 at h
  have h2:=fi h
  have h3:s6 ops ls D (k+1) l=true:=by split at h2 <;> simp_all
  have:=lw (l:=l) h3 j o (by simpa using ho)
  rwa [show k+1+j=k+(j+1) by omega] at this
theorem lv:∀{l:List Oper},(gP l).Nodup→∀{i j:Nat} {x y:Oper} {d:Nat},l[i]? = some x→l[j]? = some y→x.dst=some d→y.dst=some d→i=j
 | [],_,i,j,x,y,d,hx,_,_,_=>by simp at hx
 | o::l,h,i,j,x,y,d,hx,hy,dx,dy=>by
  have hmem:∀{l:List Oper} {j:Nat} {y:Oper} {d:Nat},l[j]? = some y→y.dst=some d→d∈gP l:=by
   intro l
   induction l with
   | nil=>intro j y d hy; simp at hy
   | cons o l ih=>
    intro j y d hy hd
    cases j with
    | zero=>simp at hy; subst hy; simp [gP,hd]
    | succ j=>
     have:=ih (j:=j) (by simpa using hy) hd
     unfold gP; split <;> simp [this]
  have htl:(gP l).Nodup:=by
   unfold gP at h; split at h
   ·exact(List.nodup_cons.1 h).2
   ·exact h
  cases i with
  | zero=>
   simp at hx; subst hx
   cases j with
   | zero=>rfl
   | succ j=>
    have:=hmem (j:=j) (l:=l) (by simpa using hy) dy
    simp only [gP,dx] at h
    exact absurd this (List.nodup_cons.1 h).1
  | succ i=>
   cases j with
   | zero=>
    simp at hy; subst hy
    have:=hmem (j:=i) (l:=l) (by simpa using hx) dx
    simp only [gP,dy] at h
    exact absurd this (List.nodup_cons.1 h).1
   | succ j=>rw [lv htl (i:=i) (j:=j) (by simpa using hx) (by simpa using hy) dx dy]
theorem yn:∀{l:List Oper} {j:Nat} {y:Oper} {d:Nat},l[j]? = some y→y.dst=some d→d∈gP l:=by
 intro l
 induction l with
 | nil=>intro j y d hy; simp at hy
 | cons o l ih=>
  intro j y d hy hd
  cases j with
  | zero=>simp at hy; subst hy; simp [gP,hd]
  | succ j=>
   have:=ih (j:=j) (by simpa using hy) hd
   unfold gP; split <;> simp [this]
theorem x6{l:List Oper}(h:lexF l=true){k:Nat}{listed:Array Bool}(hk:k<l.length)(hL:∀j,j<l.length→listed.getD j true=decide (j<k)):Region.free .any l.toArray listed k=true:=by
 have hD:=ny (d4 h)
 have hspec:=lw (fi h)
 have hok:l[k]? = some l[k]:=List.getElem?_eq_getElem hk
 simp only [Region.free,List.getElem?_toArray,hok,List.all_eq_true,List.mem_range,List.size_toArray]
 intro j hj
 have hoj:l[j]? = some l[j]:=List.getElem?_eq_getElem hj
 simp only [hoj]
 by_cases hjk:j=k
 ·simp [hjk]
 by_cases hlt:j<k
 ·simp [hL j hj,hlt]
 have hgt:k<j:=by omega
 have hsj:=hspec j _ hoj
 have hsk:=hspec k _ hok
 have hkey:∀{i j:Nat} {x y:Oper} {d:Nat},l[i]? = some x→l[j]? = some y→x.dst=some d→d∈y.looksAt l.toArray→kC l.toArray l (0+j) (gP l) y.after.toList (y.looksAt l.toArray)=true→(∃e∈y.after.toList,Region.binds .any e=true∧e.on=i)∨(∃e∈x.after.toList,Region.binds .any e=true∧e.on=j):=by
  intro i j x y d hx hy dx hm hl
  rcases jH hl d hm (yn hx dx) with h1 | h1
  ·obtain⟨e,he,hb,hd⟩:=nw h1
   obtain⟨z,hz,hzd⟩:=Option.bind_eq_some_iff.1 hd
   simp only [List.getElem?_toArray] at hz
   exact .inl ⟨e,he,hb,lv hD hz hx hzd dx⟩
  ·obtain⟨q,o,hq,hod,e,he,hb,hon⟩:=qI h1
   obtain rfl:=lv hD hq hx hod dx
   rw [hx] at hq
   obtain rfl:=Option.some.inj hq
   exact .inr ⟨e,he,hb,by omega⟩
 by_cases ha:l[j].after.any (λe=>Region.binds .any e&&e.on==k)=true
 ·simp [ha]
 have hap:l[k].apart l.toArray l[j]=true:=by
  have c1:∀d,l[k].dst=some d→d ∉ l[j].looksAt l.toArray:=by
   intro d hd hm
   rcases hkey hok hoj hd hm hsj.2.1 with ⟨e,he,hb,hon⟩ | ⟨e,he,hb,hon⟩
   ·refine ha ?_
    rw [Array.any_eq_true']
    exact⟨e,by simpa using he,by simp [hb,hon]⟩
   ·have:=iH hsk.1 e he hb
    omega
  have c2:∀d,l[k].dst=some d→l[j].dst≠some d:=λd hd hd'=>hjk (lv hD hok hoj hd hd').symm
  have c3:∀d,l[j].dst=some d→d ∉ l[k].looksAt l.toArray:=by
   intro d hd hm
   rcases hkey hoj hok hd hm hsk.2.1 with ⟨e,he,hb,hon⟩ | ⟨e,he,hb,hon⟩
   ·have:=iH hsk.1 e he hb
    omega
   ·refine ha ?_
    rw [Array.any_eq_true']
    exact⟨e,by simpa using he,by simp [hb,hon]⟩
  unfold Oper.apart
  simp only [Cs]
  constructor
  ·cases hd:l[k].dst with
   | none=>rfl
   | some d=>simp [c1 d hd,c2 d hd]
  ·cases hd:l[j].dst with
   | none=>rfl
   | some d=>simp [c3 d hd]
 simp [hap]
theorem uR{l:List Oper}(h:lexF l=true){k:Nat}{listed:Array Bool}(hk:k<l.length)(hsz:listed.size=l.length)(hL:∀j,j<l.length→listed.getD j true=decide (j<k)):(Region.ready .any l.toArray listed).contains k=true:=by
 have hok:l[k]? = some l[k]:=List.getElem?_eq_getElem hk
 have hs:=lw (fi h) k _ hok
 simp only [Region.ready,List.contains_iff_mem,List.mem_filter,List.mem_range,List.size_toArray,List.getElem?_toArray,hok,CP,Option.getD_some,Cs,Bool.not_eq_true']
 refine⟨hk,by rw [hL k hk]; simp,?_⟩
 rw [Array.all_eq_true']
 intro e he
 cases hb:Region.binds .any e with
 | false=>rfl
 | true=>
  have hlt:=iH hs.1 e (by simpa using he) hb
  have h1:=hL e.on (by omega)
  have h2:listed.getD e.on false=listed.getD e.on true:=by
   simp only [Array.getD_eq_getD_getElem?]
   rw [Array.getElem?_eq_getElem (by omega)]; rfl
  simp only [Bool.not_true,Bool.false_or]
  rw [h2,h1]
  have:e.on<k:=by omega
  simp [this]
theorem sA{l:List Oper}(h:lexF l=true):∀(n k:Nat) (listed:Array Bool),k+n=l.length→listed.size=l.length→(∀j,j<l.length→listed.getD j true=decide (j<k))→Region.lexFrom .any l.toArray n k listed=true
 | 0,k,listed,hn,hsz,hL=>by
  simp only [Region.lexFrom,List.isEmpty_iff,Region.ready,List.filter_eq_nil_iff,List.mem_range,List.size_toArray]
  intro j hj
  rw [hL j hj]
  have:j<k:=by omega
  simp [this]
 | n+1,k,listed,hn,hsz,hL=>by
  have hk:k<l.length:=by omega
  simp only [Region.lexFrom,Cs]
  refine⟨⟨uR h hk hsz hL,x6 h hk hL⟩,sA h n (k+1) _ (by omega) (by simpa using hsz) ?_⟩
  intro j hj
  by_cases hjk:j=k
  ·subst hjk
   simp [Array.getD_eq_getD_getElem?,hsz,hk]
  ·have:=hL j hj
   simp only [Array.getD_eq_getD_getElem?,Array.getElem?_setIfInBounds] at this ⊢
   rw [if_neg (λe=>hjk e.symm),this]
   by_cases h1:j<k
   ·have:j<k+1:=by omega
    simp [h1,this]
   ·have:¬ j<k+1:=by omega
    simp [h1,this]
theorem zD{l:List Oper}(h:lexF l=true):Region.lexB .any l.toArray=true:=by
 simp only [Region.lexB,Cs]
 constructor
 ·simp only [Region.noSelect]
  rw [Array.all_eq_true']
  intro o ho
  obtain⟨j,hj,he⟩:=List.getElem_of_mem (show o∈l by simpa using ho)
  have:=(lw (fi h) j o (by rw [List.getElem?_eq_getElem hj,he])).2.2
  split at this <;> simp_all
 ·refine sA h _ 0 _ (by simp) (by simp) ?_
  intro j hj
  simp [Array.getD_eq_getD_getElem?,hj]
section
variable {P:Program} {N:FN} {C:World→Prop} {Q:Exit→Env→World→Prop} {σ:Env}
theorem WC.dr{id:Nat}{l:List Oper}(hm:P.follows .mixedOrders=true)(hB:lexF l=true)(hC:∀w,C w→C { w with drawn:=w.drawn+1 })(h:WQ P N l.toArray C Q l σ):WC P N C (.region id l.toArray true) Q σ:=WC.draw hm (zD hB) hC h
end
end Fw
end Go.Proofs.YtangaamigenjjaaGreat
