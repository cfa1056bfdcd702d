/- Slices of the call's own that begin anywhere in their block. No condition. -/
import Derived.Test.YtgaplodcdhhefaaGreatK36
import Derived.Laws.AppendOwn
import Derived.Deep.AppendSrc
namespace Go.Proofs.YtgaplodcdhhefaaGreat
namespace Fw
set_option linter.unusedVariables false
set_option linter.unusedSimpArgs false
set_option linter.unusedSectionVars false
open Go.RowKit
structure OwnV {α:Type} [Inhabited α] (T:Ty α) (Γ:Gh) (e:TypeId) (row:Rowb) (A:Option Addr) (c:Nat) (xs:List α):Prop where
 le:xs.length≤lim
 is:(A=none∧xs = []∧c=0∧row = []) ∨
  ∃(g b:Nat) (cur:Array Value) (css:List (List Value)),A=some ⟨g,b,none⟩∧row = [(g,.cells cur e (0,0))]∧xs.length≤c∧c≤maxLen∧b+c*T.n≤cur.size∧css.length=xs.length ∧
   (cur.toList.drop b).take (xs.length*T.n)=css.flatten∧∀i (h1:i<css.length),T.rd Γ css[i] (gt xs i)
def BW(row:Rowb)(A:Option Addr)(j:Nat)(vs:List Value):Prop := ∃g b arr e,A=some ⟨g,b,none⟩∧row = [(g,.cells arr e (0,0))]∧∀k v,vs[k]? = some v→arr[b+(j+k)]? = some v
theorem kL{β:Type}(n:Nat):∀{css:List (List β)} (h:∀c∈css,c.length=n) (k:Nat),(css.drop k).flatten=css.flatten.drop (k*n)
 | [],_,k=>by simp
 | c::css,h,0=>by simp
 | c::css,h,k+1=>by
  have hc:c.length=n:=h c (by simp)
  rw [List.drop_succ_cons,Ef,kL n (λc hc=>h c (by simp [hc])) k,List.drop_append,hc,E1 (l:=c) (by rw [hc,Nat.add_mul]; omega),Ee]
  congr 1
  rw [Nat.add_mul]; omega
section
variable {α:Type} [Inhabited α] {T:Ty α} {Γ Δ:Gh} {w w':World} {e:TypeId} {row:Rowb} {A:Option Addr} {c:Nat} {xs:List α}
theorem OwnV.mono(h:OwnV T Γ e row A c xs)(hs:Γ.le Δ):OwnV T Δ e row A c xs:=by
 refine⟨h.le,?_⟩
 rcases h.is with h1 | ⟨g,b,cur,css,h1,h2,h3,h4,h5,h6,h7,h8⟩
 ·exact .inl h1
 ·exact .inr ⟨g,b,cur,css,h1,h2,h3,h4,h5,h6,h7,λi a=>T.mono (h8 i a) hs⟩
theorem OwnV.of(h:Own T Γ e row A c xs):OwnV T Γ e row A c xs:=by
 refine⟨h.le,?_⟩
 rcases h.is with h1 | ⟨g,cur,css,h1,h2,h3,h4,h5,h6,h7,h8⟩
 ·exact .inl h1
 ·exact .inr ⟨g,0,cur,css,h1,h2,h3,h4,by omega,h6,by simpa using h7,h8⟩
theorem OwnV.nil(T:Ty α)(Γ:Gh)(e:TypeId):OwnV T Γ e [] none 0 []:=⟨by simp,.inl ⟨rfl,rfl,rfl,rfl⟩⟩
theorem OwnV.capz(h:OwnV T Γ e row A c xs):xs.length≤c:=by
 rcases h.is with ⟨_,rfl,rfl,_⟩ | ⟨g,b,cur,css,_,_,h,_⟩
 ·exact E6 _
 ·exact h
theorem OwnV.some_(h:OwnV T Γ e row A c xs){k:Nat}(hk:k<xs.length):A.isSome=true:=by
 rcases h.is with ⟨_,rfl,_⟩ | ⟨g,b,cur,css,rfl,_⟩
 ·simp at hk
 ·rfl
theorem sw{css:List (List Value)}(h8:∀i (h1:i<css.length),T.rd Γ css[i] (gt xs i)):∀cs∈css,cs.length=T.n:=by
 intro cs hcs
 obtain⟨k,hk,rfl⟩:=List.getElem_of_mem hcs
 exact T.len (h8 k hk)
theorem OwnV.get(h:OwnV T Γ e row A c xs){i:Nat}(hi:i<xs.length):∃cs,T.rd Γ cs (gt xs i)∧BW row A (i*T.n) cs:=by
 rcases h.is with ⟨_,rfl,_⟩ | ⟨g,b,cur,css,rfl,rfl,h3,h4,h5,h6,h7,h8⟩
 ·simp at hi
 ·have hic:i<css.length:=by omega
  have hall:=sw h8
  refine⟨css[i],h8 i hic,g,b,cur,e,rfl,rfl,λj v hj=>?_⟩
  have hjl:j<css[i].length:=(List.getElem?_eq_some_iff.1 hj).1
  have hjn:j<T.n:=by rw [hall _ (List.getElem_mem hic)] at hjl; exact hjl
  have h9:=jj T.n css i j hic hall hjn
  rw [← h7,List.getElem?_take,if_pos (wy hi hjn),List.getElem?_drop] at h9
  rw [← Array.getElem?_toList,h9,hj]
theorem OwnV.cut_from(h:OwnV T Γ e row A c xs){lo:Nat}(h1:lo≤xs.length):OwnV T Γ e row (if c=lo then A else A.map (·.add (lo*T.n))) (c - lo) (xs.drop lo):=by
 refine⟨by have:=h.le; simp; omega,?_⟩
 rcases h.is with ⟨rfl,rfl,rfl,rfl⟩ | ⟨g,b,cur,css,rfl,rfl,h3,h4,h5,h6,h7,h8⟩
 ·refine .inl ⟨?_,by simp,by simp,rfl⟩
  have:lo=0:=by simpa using h1
  subst this; rfl
 ·have hall:=sw h8
  have hdl:(css.drop lo).length=(xs.drop lo).length:=by simp [h6]
  have hrd:∀i (h1:i<(css.drop lo).length),T.rd Γ (css.drop lo)[i] (gt (xs.drop lo) i):=by
   intro i hi
   have hi2:lo+i<css.length:=by simp at hi; omega
   have h9:=h8 (lo+i) hi2
   have:gt (xs.drop lo) i=gt xs (lo+i):=by rw [bA (by rw [← hdl]; exact hi),bA (by omega)]; simp
   rw [this]
   simpa using h9
  by_cases hc:c=lo
  ·subst hc
   have hx:xs.length=c:=by omega
   refine .inr ⟨g,b,cur,css.drop c,by simp,rfl,by simp; omega,by omega,by rw [Nat.sub_self]; omega,hdl,?_,hrd⟩
   rw [E1 (l:=xs) (by omega),E1 (l:=css) (by omega)]; simp
  ·rw [if_neg hc]
   refine .inr ⟨g,b+lo*T.n,cur,css.drop lo,?_,rfl,by simp; omega,by omega,?_,hdl,?_,hrd⟩
   ·simp [Addr.add]
   ·have:lo*T.n+(c - lo)*T.n=c*T.n:=by rw [← Nat.add_mul]; congr 1; omega
    omega
   ·rw [kL T.n hall lo, ← h7,List.drop_take,List.drop_drop,Ej]
    congr 1
    rw [Nat.sub_mul]
theorem OwnV.cut_to(h:OwnV T Γ e row A c xs){hi:Nat}(h1:hi≤xs.length):OwnV T Γ e row A c (xs.take hi):=by
 refine⟨by have:=h.le; simp; omega,?_⟩
 rcases h.is with ⟨rfl,rfl,rfl,rfl⟩ | ⟨g,b,cur,css,rfl,rfl,h3,h4,h5,h6,h7,h8⟩
 ·exact .inl ⟨rfl,by simp,rfl,rfl⟩
 ·have hall:=sw h8
  have hl:(xs.take hi).length=hi:=by simp; omega
  refine .inr ⟨g,b,cur,css.take hi,rfl,rfl,by omega,h4,h5,by rw [hl]; simp; omega,?_,?_⟩
  ·rw [hl]
   have h9:(css.take hi).flatten=css.flatten.take (hi*T.n):=by
    have h10:=kL T.n hall hi
    have h11:css.flatten=(css.take hi).flatten++(css.drop hi).flatten:=by rw [← List.flatten_append,List.take_append_drop]
    have h12:(css.take hi).flatten.length=hi*T.n:=by
     rw [da T.n _ (λc hc=>hall c (List.mem_of_mem_take hc))]; congr 1; simp; omega
    rw [h11,List.take_left' h12]
   rw [h9, ← h7,List.take_take]
   congr 1
   have:hi*T.n≤xs.length*T.n:=Nat.mul_le_mul_right _ h1
   omega
  ·intro i hi2
   have hi3:i<css.length:=by simp at hi2; omega
   have h9:=h8 i hi3
   have:gt (xs.take hi) i=gt xs i:=by rw [bA (by rw [hl]; simp at hi2; omega),bA (by omega)]; simp
   rw [this]
   simpa using h9
end
section
variable {P:Program} {N:FN} {Q:Exit→Env→World→Prop} {σ:Env} {o:Oper} {F:Fm} {Γ Δ:Gh} {L U U' R:List Rowb} {ops:Array Oper} {rest:List Oper} {α:Type} [Inhabited α] {T:Ty α} {w w':World}
end
end Fw
end Go.Proofs.YtgaplodcdhhefaaGreat
