/- Data whose numbers, bools and strings are written over, anywhere: what stays is how many there are. No condition. -/
import Derived.Test.YtgaplodcdhhefaaGreatK27
namespace Go.Proofs.YtgaplodcdhhefaaGreat
namespace Fw
set_option linter.unusedVariables false
set_option linter.unusedSimpArgs false
set_option linter.unusedSectionVars false
open Go.RowKit
inductive Lk:Value→Value→Prop
 | same (v:Value):Lk v v
 | int (x y:Int):I64 y→Lk (.int .i64 x) (.int .i64 y)
 | str (x y:ByteArray):y.size≤lim→Lk (.string x) (.string y)
 | bool (x y:Bool):Lk (.bool x) (.bool y)
theorem Lk.trans{a b c:Value}(h:Lk a b)(h':Lk b c):Lk a c:=by
 cases h with
 | same=>exact h'
 | int x y hy=>
  cases h' with
  | same=>exact .int _ _ hy
  | int _ z hz=>exact .int _ _ hz
 | str x y hy=>
  cases h' with
  | same=>exact .str _ _ hy
  | str _ z hz=>exact .str _ _ hz
 | bool x y=>
  cases h' with
  | same=>exact .bool _ _
  | bool _ z=>exact .bool _ _
theorem Lk.one{a b:Value}(h:Lk a b)(h1:a.oneCell'=true):b.oneCell'=true:=by
 cases h with
 | same=>exact h1
 | _=>rfl
def LkO:Obj→Obj→Prop
 | .cells cs t fz,.cells cs' t' fz'=>t=t'∧fz=fz'∧cs.size=cs'.size∧∀(k:Nat) (v:Value),(cs:Array Value)[k]? = some v→∃v',(cs':Array Value)[k]? = some v'∧Lk v v'
 | a,b=>a=b
theorem LkO.refl(o:Obj):LkO o o:=by
 cases o with
 | cells cs t fz=>exact⟨rfl,rfl,rfl,λk v h=>⟨v,h,.same v⟩⟩
 | _=>exact(rfl:_=_)
def Like(Γ Δ:Gh):Prop := ∀b o,Γ b=some o→∃o',Δ b=some o'∧LkO o o'
theorem Like.refl(Γ:Gh):Like Γ Γ:=λb o h=>⟨o,h,LkO.refl o⟩
section
variable {Γ Δ:Gh} {A:Option Addr} {j:Nat} {v:Value} {vs:List Value}
theorem Cell.like(h:Cell Γ A j v)(hl:Like Γ Δ):∃v',Cell Δ A j v'∧Lk v v':=by
 obtain⟨b,o,cs,t,fz,rfl,hg,hc,hz⟩:=h
 obtain⟨o',hd,ho⟩:=hl _ _ hg
 cases o' with
 | cells cs' t' fz'=>
  obtain⟨rfl,rfl,_,hk⟩:=ho
  obtain⟨v',h1,h2⟩:=hk _ _ hc
  exact⟨v',⟨b,o,cs',t,fz,rfl,hd,h1,hz⟩,h2⟩
 | _=>cases ho
inductive Lks:List Value→List Value→Prop
 | nil:Lks [] []
 | cons {v u:Value} {vs us:List Value}:Lk v u→Lks vs us→Lks (v::vs) (u::us)
theorem eQ.like:∀{vs:List Value} {j:Nat},eQ Γ A j vs→Like Γ Δ→∃us,eQ Δ A j us∧Lks vs us
 | [],j,_,_=>⟨[],λk v h=>by simp at h,.nil⟩
 | v::vs,j,h,hl=>by
  obtain⟨u,h1,h2⟩:=(h 0 v rfl).like hl
  obtain⟨us,h3,h4⟩:=eQ.like (vs:=vs) (j:=j+1) (λk x hk=>by
   have:=h (k+1) x (by simpa using hk)
   rwa [show j+(k+1)=j+1+k by omega] at this) hl
  refine⟨u::us,λk x hk=>?_,.cons h2 h4⟩
  cases k with
  | zero=>simp at hk; subst hk; exact h1
  | succ k=>
   have:=h3 k x (by simpa using hk)
   rwa [show j+1+k=j+(k+1) by omega] at this
end
inductive Sh where
 | n:List Sh→Sh
def Sh.kids:Sh→List Sh
 | .n l=>l
def Sh.len(s:Sh):Nat:=s.kids.length
def Sh.kid(s:Sh)(i:Nat):Sh:=s.kids.getD i (.n [])
def sh0{α:Type}(_:α):Sh:=.n []
def shL{α:Type}(m:α→Sh)(l:List α):Sh:=.n (l.map m)
theorem r9{α:Type}{m:α→Sh}{l:List α}{s:Sh}(h:shL m l=s):l.length=s.len:=by
 subst h; simp [Sh.len,shL,Sh.kids]
theorem iE{α:Type}[Inhabited α]{m:α→Sh}{l:List α}{s:Sh}(h:shL m l=s){i:Nat}(hi:i<s.len):m (gt l i)=s.kid i:=by
 subst h
 have hi':i<l.length:=by simpa [Sh.len,shL,Sh.kids] using hi
 simp [Sh.kid,shL,Sh.kids,List.getD,hi',bA]
theorem jlt{α:Type}{m:α→Sh}{l:List α}{s:Sh}(h:shL m l=s){k:Nat}(hk:k<l.length):k<s.len:=by rw [← r9 h]; exact hk
theorem jtl{α:Type}{m:α→Sh}{l:List α}{s:Sh}(h:shL m l=s){k:Nat}(hk:k<s.len):k<l.length:=by rw [r9 h]; exact hk
structure tn {α:Type} (T:Ty α) (m:α→Sh):Prop where
 go:∀{Γ Δ:Gh} {cs cs':List Value} {x:α},T.rd Γ cs x→Like Γ Δ→Lks cs cs'→∃y,T.rd Δ cs' y∧m y=m x
theorem Sl.like{α:Type}[Inhabited α]{T:Ty α}{m:α→Sh}(hT:tn T m){Γ Δ:Gh}{A:Option Addr}{xs:List α}(h:Sl T Γ A xs)(hl:Like Γ Δ):∃ys,Sl T Δ A ys∧shL m ys=shL m xs:=by
 have key:∀i,i<xs.length→∃y,(∃cs,T.rd Δ cs y∧eQ Δ A (i*T.n) cs)∧m y=m (gt xs i):=λi hi=>by
  obtain⟨cs,h1,h2⟩:=h.get i hi
  obtain⟨us,h3,h4⟩:=h2.like hl
  obtain⟨y,h5,h6⟩:=hT.go h1 hl h4
  exact⟨y,⟨us,h5,h3⟩,h6⟩
 let f:Nat→α:=λi=>if hi:i<xs.length then Classical.choose (key i hi) else default
 have hf:∀i,i<xs.length→(∃cs,T.rd Δ cs (f i)∧eQ Δ A (i*T.n) cs)∧m (f i)=m (gt xs i):=λi hi=>by
  have:=Classical.choose_spec (key i hi)
  simp only [f,hi,dif_pos]; exact this
 have hlen:((List.range xs.length).map f).length=xs.length:=by simp
 refine⟨(List.range xs.length).map f,⟨by rw [hlen]; exact h.le,λi hi=>?_⟩,?_⟩
 ·rw [hlen] at hi
  rw [show gt ((List.range xs.length).map f) i=f i by rw [bA (by rw [hlen]; exact hi)]; simp]
  exact(hf i hi).1
 ·unfold shL
  congr 1
  apply List.ext_getElem
  ·simp
  ·intro i h1 h2
   have hi:i<xs.length:=by simpa using h2
   simp only [List.getElem_map,List.getElem_range]
   rw [(hf i hi).2,bA hi]
theorem j4{α β:Type}{m:α→Sh}{m':β→Sh}{a:List α}{b:List β}(h:shL m a=shL m' b):a.length=b.length:=by rw [r9 h,r9 (rfl:shL m' b=_)]
theorem fu{v:Value}{vs cs:List Value}(h:Lks (v::vs) cs):∃u us,cs=u::us∧Lk v u∧Lks vs us:=by
 cases h with
 | cons h1 h2=>exact⟨_,_,rfl,h1,h2⟩
theorem qZ{cs:List Value}(h:Lks [] cs):cs = []:=by
 cases h; rfl
theorem od{x:Int}{u:Value}(h:Lk (.int .i64 x) u)(hx:I64 x):∃y,u = .int .i64 y∧I64 y:=by
 cases h with
 | same=>exact⟨x,rfl,hx⟩
 | int _ y hy=>exact⟨y,rfl,hy⟩
theorem yz{x:ByteArray}{u:Value}(h:Lk (.string x) u)(hx:x.size≤lim):∃y,u = .string y∧y.size≤lim:=by
 cases h with
 | same=>exact⟨x,rfl,hx⟩
 | str _ y hy=>exact⟨y,rfl,hy⟩
theorem AJ{x:Bool}{u:Value}(h:Lk (.bool x) u):∃y,u = .bool y:=by
 cases h with
 | same=>exact⟨x,rfl⟩
 | bool _ y=>exact⟨y,rfl⟩
theorem Bz{α:Type}[Inhabited α]{T:Ty α}{m:α→Sh}(hT:tn T m){Γ Δ:Gh}{A:Option Addr}{c:Nat}{xs:List α}{u:Value}(hl:Like Γ Δ)(h:Lk (.slice A xs.length c) u)(hf:xs.length≤c∧Sl T Γ A xs):∃ys:List α,u = .slice A ys.length c∧(ys.length≤c∧Sl T Δ A ys)∧shL m ys=shL m xs:=by
 cases h with
 | same=>
  obtain⟨ys,h4,h5⟩:=hf.2.like hT hl
  have h6:=j4 h5
  exact⟨ys,by rw [h6],⟨by rw [h6]; exact hf.1,h4⟩,h5⟩
def setJ(J:Rowb)(b i:Nat)(v:Value):Rowb:=J.map λp=>if p.1=b then (p.1,match p.2 with | .cells cs t fz=>.cells (cs.set! i v) t fz | o=>o) else p
theorem yC(J:Rowb)(b i:Nat)(v:Value):(setJ J b i v).map (·.1)=J.map (·.1):=by
 unfold setJ
 rw [Eg]
 apply List.map_congr_left
 intro p _
 simp only [Function.comp]
 split <;> rfl
theorem yA(J:Rowb)(b i:Nat)(v:Value)(k:Nat):ghr (setJ J b i v) k=(ghr J k).map λo=>if k=b then (match o with | .cells cs t fz=>.cells (cs.set! i v) t fz | o=>o) else o:=by
 unfold ghr setJ
 induction J with
 | nil=>rfl
 | cons p J ih=>
  rw [E0,List.find?_cons,List.find?_cons]
  by_cases hp:p.1=k
  ·have h1:(p.1==k)=true:=by simpa using hp
   rw [h1]
   by_cases hb:p.1=b
   ·rw [if_pos hb]
    simp only [h1,Eh]
    rw [if_pos (by rw [← hp]; exact hb)]
   ·rw [if_neg hb]
    simp only [h1,Eh]
    rw [if_neg (by rw [← hp]; exact hb)]
  ·have h1:(p.1==k)=false:=by simpa using hp
   rw [h1]
   by_cases hb:p.1=b
   ·rw [if_pos hb]
    simp only [h1]
    exact ih
   ·rw [if_neg hb]
    simp only [h1]
    exact ih
theorem yi{J:Rowb}{b i:Nat}{v u:Value}(hc:∀cs t fz,ghr J b=some (.cells cs t fz)→cs[i]? = some u)(hk:Lk u v):Like (ghr J) (ghr (setJ J b i v)):=λk o h=>by
 rw [yA,h]
 simp only [Eh]
 refine⟨_,rfl,?_⟩
 split
 ·rename_i hb
  subst hb
  cases o with
  | cells cs t fz=>
   have hcs:=hc cs t fz h
   refine⟨rfl,rfl,by simp,λn x hx=>?_⟩
   by_cases hn:n=i
   ·subst hn
    rw [hcs] at hx
    injection hx with hx
    subst hx
    have hi:=(Array.getElem?_eq_some_iff.1 hcs).1
    exact⟨v,by simp [hi],hk⟩
   ·exact⟨x,by simp only [Array.set!_eq_setIfInBounds]; rw [Array.getElem?_setIfInBounds_ne (by omega)]; exact hx,.same x⟩
  | _=>exact LkO.refl _
 ·exact LkO.refl _
section
variable {P:Program} {N:FN} {F:Fm} {Γ:Gh} {L:List Rowb} {C:World→Prop} {Q:Exit→Env→World→Prop} {σ:Env} {w:World} {ops:Array Oper} {o:Oper} {rest:List Oper}
theorem qG{w:World}{b i k:Nat}{v:Value}:(w.setCell ⟨b,i,none⟩ v).heap[k]? = (w.heap[k]?).map λo=>if k=b then (match o with | .cells cs t fz=>.cells (cs.set! i v) t fz | o=>o) else o:=by
 unfold World.setCell
 simp only [Array.getElem?_modify]
 by_cases hk:b=k
 ·subst hk
  simp only [if_true]
  congr 1
 ·have hk':¬ k=b:=λh=>hk h.symm
  simp [hk,hk']
theorem w7{w:World}{k b:Nat}{f:Obj→Obj}(h:¬ k=b):(w.heap[k]?).map (λo=>if k=b then f o else o)=w.heap[k]?:=by
 simp [h]
theorem t7{t:TypeId}{ad x:Operand}{i j c:Nat}{A:Option Addr}{J:Rowb}{cs:List Value}{u v:Value}(hg:o.guard=none)(hdst:o.dst=none)(ho:o.op = .store t ad x)(ha:ev σ ad=eR A (j+c))(hx:ev σ x=v)
  (hz:∀w,(sizeOf t).run P w = .ok 1 w) (hc1:v.cells = #[v]) (h1:v.oneCell'=true) (hC:eQ (ghr J) A j cs) (hu:cs[c]? = some u) (hk:Lk u v) (hi:L[i]? = some J) (hn:(J.map (·.1)).Nodup)
  (k:∀J',(J'.map (·.1)).Nodup→Like (ghr J) (ghr J')→WR P N ops (CC F Γ (L.set i J')) Q rest σ):WR P N ops (CC F Γ L) Q (o::rest) σ:=by
 refine WR.eff hg (by rw [hdst]; rfl) λw hw=>?_
 obtain⟨b,off,arr,ty,fz,rfl,hgb,hcell,hfz⟩:=hC c u hu
 have hb:w.heap[b]? = some (.cells arr ty fz):=satJ hi hn w hw _ _ hgb
 have hn':((setJ J b (off+(j+c)) v).map (·.1)).Nodup:=by rw [yC]; exact hn
 have hcw:w.cell? ⟨b,off+(j+c),none⟩=some u:=by rw [cell_of_row w b _ arr ty fz hb]; exact hcell
 have hfw:w.frozen? ⟨b,off+(j+c),none⟩=false:=by
  unfold World.frozen?
  simp only
  rw [hb]
  simp only [Bool.and_eq_false_iff,DR]
  by_cases h1:fz.1≤off+(j+c)
  ·exact .inr (λh2=>hfz ⟨h1,h2⟩)
  ·exact .inl h1
 have hrun:=run_storeCells_cells (P:=P) b (off+(j+c)) [v] 0 w (λq hq=>by
  have:q=0:=by simpa using hq
  subst this; simp only [Nat.add_zero]; rw [hcw]; rfl) (λq hq=>by
  have:q=0:=by simpa using hq
  subst this; simpa using hfw) (λx hx=>by rw [List.mem_singleton.1 hx]; exact h1)
 simp only [Nat.add_zero] at hrun
 have hrun:(storeCells ⟨b,off+(j+c),none⟩ [v]).run P w = .ok () (w.setCell ⟨b,off+(j+c),none⟩ v):=hrun
 refine⟨undef,w.setCell ⟨b,off+(j+c),none⟩ v,.inr ⟨?_,rfl⟩,?_⟩
 ·simp [execOp,ho,ha,hx,eR,cx,Instr.storeAt,Instr.sureAddr,storeVar,hz,hc1,hrun,E4,E3]
 ·rw [hdst]
  refine k (setJ J b (off+(j+c)) v) hn' (yi (λcs' t' fz' h=>?_) hk) _ ?_
  ·rw [hgb] at h
   injection h with h
   injection h with h _ _
   subst h
   exact hcell
  ·have hbJ:∃p∈J,p.1=b:=⟨_,(ja hn).1 hgb,rfl⟩
   refine hw.set hi ⟨rfl,rfl,rfl,λ_=>E6 _,by simp [World.setCell],λq _ hq=>?_⟩ (λp hp=>?_) (λp hp=>.inl ?_) hn'
   ·rw [qG]
    exact w7 (λhe=>hq (by subst he; exact hbJ))
   ·obtain⟨p0,h0,rfl⟩:=List.mem_map.1 hp
    have h2:=hw.at_ hi h0
    rw [qG]
    split
    ·rename_i hb2
     simp only [hb2,if_true]
     rw [← hb2,h2]
     cases p0.2 <;> rfl
    ·rename_i hb2
     rw [h2]
     simp [hb2]
   ·obtain⟨p0,h0,rfl⟩:=List.mem_map.1 hp
    refine⟨p0,h0,?_⟩
    split <;> rfl
def lpJ(I:Nat→Env→World→Prop)(n i:Nat)(Q:Exit→Env→World→Prop):Exit→Env→World→Prop
 | .normal,σ,w=>i<n∧I (i+1) σ w
 | e,σ,w=>Q e σ w
theorem WC.loopJ{body:Code}(n:Nat)(I:Nat→Env→World→Prop)(h0:∀w,C w→I 0 σ w)(round:∀i σ w,I i σ w→Wpt P N body (lpJ I n i Q) σ w):WC P N C (.loop body) Q σ:=by
 refine WC.loop (λm σ w => ∃i,m=n - i∧I i σ w) (λw hw=>⟨_,0,rfl,h0 w hw⟩) ?_
 rintro m σ w ⟨i,rfl,hI⟩ a ha
 refine wp_mono (round i σ w hI a ha) ?_
 rintro e a' w' ⟨σ',ha',hq⟩
 refine⟨σ',ha',?_⟩
 cases e with
 | normal=>
  obtain⟨hlt,h1⟩:=hq
  exact⟨n - (i+1),by omega,i+1,rfl,h1⟩
 | _=>exact hq
end
end Fw
end Go.Proofs.YtgaplodcdhhefaaGreat
