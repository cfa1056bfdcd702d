/- An engine of our own over Code.wp: models that may fail, environments as functions, classes of worlds, rules for code. No condition. -/
import Derived.WalkKit
import Derived.Deep.Quiet
namespace Go.Proofs.YtgaplodcdhhefaaGreat
namespace Fw
set_option linter.unusedVariables false
set_option linter.unusedSimpArgs false
set_option linter.unusedSectionVars false
open Go.RowKit
abbrev DP:=@of_decide_eq_true
abbrev DQ:=@decide_eq_true_eq
abbrev DR:=@decide_eq_false_iff_not
abbrev DS:=@List.length_append
abbrev DT:=@List.mem_cons_self
abbrev DU:=@List.mem_cons_of_mem
abbrev DV:=@List.append_assoc
abbrev DW:=@Bool.and_eq_true
abbrev DX:=@List.mem_cons
abbrev DY:=@List.length_cons
abbrev DZ:=@Int.toNat_natCast
abbrev E0:=@List.map_cons
abbrev E1:=@List.drop_of_length_le
abbrev E2:=@Option.bind_some
abbrev E3:=@Sem.run_bind
abbrev E4:=@Sem.run_pure
abbrev E5:=@decide_eq_true
abbrev E6:=@Nat.le_refl
abbrev E7:=@Nat.zero_le
abbrev E8:=@List.length_map
abbrev E9:=@List.map_append
abbrev Ea:=@List.length_nil
abbrev Eb:=@List.append_nil
abbrev Ec:=@Option.some.injEq
abbrev Ed:=@Bool.false_eq_true
abbrev Ee:=@List.nil_append
abbrev Ef:=@List.flatten_cons
abbrev Eg:=@List.map_map
abbrev Eh:=@Option.map_some
abbrev Ei:=@List.length_take
abbrev Ej:=@List.length_drop
def chk{R:Type}(c:Bool)(k:Option R):Option R:=bif c then k else none
theorem af{R:Type}{c:Bool}{k:Option R}{r:R}(h:chk c k=some r):c=true∧k=some r:=by
 cases c with
 | true=>exact⟨rfl,h⟩
 | false=>cases h
theorem bnd{α R:Type}{x:Option α}{f:α→Option R}{r:R}(h:x.bind f=some r):∃a,x=some a∧f a=some r:=by
 cases x with
 | none=>cases h
 | some a=>exact⟨a,rfl,h⟩
theorem bt{R:Type}{b:Bool}{x y:Option R}{r:R}(hb:b=true)(h:(bif b then x else y)=some r):x=some r:=by subst hb; exact h
theorem bf{R:Type}{b:Bool}{x y:Option R}{r:R}(hb:b=false)(h:(bif b then x else y)=some r):y=some r:=by subst hb; exact h
def imp(g c:Bool):Bool:=bif g then c else true
theorem al{g c:Bool}(h:imp g c=true)(hg:g=true):c=true:=by subst hg; exact h
def bM{R:Type}[Inhabited R](g:Bool)(x:Option R):Option R:=bif g then x else some default
theorem bU{R:Type}[Inhabited R]{g:Bool}{x:Option R}{r:R}(h:bM g x=some r)(hg:g=true):x=some r:=by subst hg; exact h
def forI{α S R:Type}(body:(S→Option R)→Nat→α→S→Option R)(k:S→Option R):Nat→List α→S→Option R
 | _,[],s=>k s
 | i,x::t,s=>body (forI body k (i+1) t) i x s
def forU{S R:Type}(body:(S→Option R)→Nat→S→Option R)(k:S→Option R):Nat→Nat→S→Option R
 | 0,_,s=>k s
 | t+1,i,s=>body (forU body k t (i+1)) i s
def loopN{S R:Type}(body:(S→Option R)→S→Option R):Nat→S→Option R
 | 0,_=>none
 | n+1,s=>body (loopN body n) s
def FU:Nat:=18446744073709551616
def gt{α:Type}[Inhabited α](xs:List α)(k:Nat):α:=xs.getD k default
theorem bA{α:Type}[Inhabited α]{xs:List α}{k:Nat}(h:k<xs.length):gt xs k=xs[k]:=by simp [gt,List.getD,List.getElem?_eq_getElem h]
theorem bo{α:Type}[Inhabited α]{xs:List α}{k:Nat}(h:k<xs.length):xs.drop k=gt xs k::xs.drop (k+1):=by rw [bA h]; exact List.drop_eq_getElem_cons h
theorem xw{α:Type}[Inhabited α]{xs:List α}{k:Nat}(h:k<xs.length):xs.take (k+1)=xs.take k++[gt xs k]:=by rw [bA h]; exact List.take_succ_eq_append_getElem h
theorem iC{α:Type}[Inhabited α]{xs ys:List α}{i:Nat}(h:i<xs.length):gt (xs++ys) i=gt xs i:=by simp [gt,List.getD,List.getElem?_append_left h]
theorem gN{α:Type}[Inhabited α]{xs ys:List α}{i:Nat}(h:xs.length≤i):gt (xs++ys) i=gt ys (i - xs.length):=by simp [gt,List.getD,List.getElem?_append_right h]
section
variable {α S R:Type} [Inhabited α] {B:(S→Option R)→Nat→α→S→Option R} {K:S→Option R} {l:List α} {i:Nat} {s:S} {r:R}
theorem B8(hi:i<l.length)(h:forI B K i (l.drop i) s=some r):B (forI B K (i+1) (l.drop (i+1))) i (gt l i) s=some r:=by rw [bo hi] at h; exact h
theorem Bq(hi:l.length≤i)(h:forI B K i (l.drop i) s=some r):K s=some r:=by rw [E1 hi] at h; exact h
end
theorem AL{S R:Type}{B:(S→Option R)→Nat→S→Option R}{K:S→Option R}{n i:Nat}{s:S}{r:R}(hi:i<n)(h:forU B K (n - i) i s=some r):B (forU B K (n - (i+1)) (i+1)) i s=some r:=by
 rw [show n - i=(n - (i+1))+1 by omega] at h; exact h
theorem Bd{S R:Type}{B:(S→Option R)→Nat→S→Option R}{K:S→Option R}{n i:Nat}{s:S}{r:R}(hi:n≤i)(h:forU B K (n - i) i s=some r):K s=some r:=by
 rw [show n - i=0 by omega] at h; exact h
theorem ilti{a:Nat}{e:Int}(h:decide ((a:Int)<e)=true):a<e.toNat:=by have:=DP h; omega
theorem igei{a:Nat}{e:Int}(h:decide ((a:Int)<e)=false):e.toNat≤a:=by have:=of_decide_eq_false h; omega
theorem ilt{a b:Nat}(h:decide ((a:Int)<(b:Int))=true):a<b:=by have:=DP h; omega
theorem ige{a b:Nat}(h:decide ((a:Int)<(b:Int))=false):b≤a:=by have:=of_decide_eq_false h; omega
def rz(s:ByteArray):Nat:=s.size
def dg{α:Type}(_:α):Nat:=1
def bkL{α:Type}(m:α→Nat)(l:List α):Nat:=(l.map m).sum
theorem Bj{α:Type}{m:α→Nat}(h:∀x,1≤m x)(l:List α):l.length≤bkL m l:=by
 induction l with
 | nil=>exact E7 _
 | cons x l ih=>have:=h x; simp only [bkL,E0,List.sum_cons,DY] at *; omega
abbrev Env:=Nat→Value
noncomputable def upd (σ:Env) (d:Nat) (v:Value):Env:=λt=>@Bool.rec (λ_=>Value) (σ t) v (Nat.beq t d)
noncomputable def updo (σ:Env):Option Nat→Value→Env
 | some d,v=>upd σ d v
 | none,_=>σ
theorem vG(σ:Env)(d:Nat)(v:Value):upd σ d v d=v:=by simp [upd]
theorem zK(σ:Env){d t:Nat}(v:Value)(h:t≠d):upd σ d v t=σ t:=by
 have:Nat.beq t d=false:=by
  cases hb:Nat.beq t d with
  | false=>rfl
  | true=>exact absurd (Nat.eq_of_beq_eq_true hb) h
 simp [upd,this]
noncomputable def upds (σ:Env):List (Nat×Value)→Env
 | []=>σ
 | p::l=>upd (upds σ l) p.1 p.2
def slots(σ:Env)(l:List (Nat×Value)):Prop:=l.map (λp=>σ p.1)=l.map (λp=>p.2)
theorem Ad{σ:Env}{d:Nat}{v:Value}(h:σ d=v):upd σ d v=σ:=by
 funext t
 by_cases ht:t=d
 ·subst ht; rw [vG,h]
 ·rw [zK σ v ht]
theorem pT{σ:Env}:∀{l:List (Nat×Value)},slots σ l→upds σ l=σ
 | [],_=>rfl
 | p::l,h=>by
  unfold slots at h
  simp only [E0,List.cons.injEq] at h
  unfold upds
  rw [pT (l:=l) h.2]
  exact Ad h.1
structure FN where
 n:Nat
 ds:List Deferred
instance (n:Nat):OfNat FN n:=⟨⟨n,[]⟩⟩
structure Agr (N:FN) (a:Act) (σ:Env):Prop where
 size:a.tmps.size=N.n
 defs:a.defers=N.ds
 read:∀t,a.tmps.getD t undef=σ t
def ev(σ:Env):Operand→Value
 | .tmp t=>σ t
 | .const v=>v
 | .global g=>.pointer (some ⟨g,0,none⟩)
 | .func f=>.func (.func f) #[] #[]
theorem Agr.eval{N:FN}{a:Act}{σ:Env}(h:Agr N a σ):a.eval=ev σ:=by
 funext x
 cases x <;> simp [Act.eval,ev,h.read]
def bR(N:FN):Option Nat→Bool
 | none=>true
 | some d=>Nat.blt d N.n
theorem Agr.put{N:FN}{a:Act}{σ:Env}(h:Agr N a σ){dst:Option Nat}(hd:bR N dst=true)(v:Value):Agr N (a.put dst v) (updo σ dst v):=by
 cases dst with
 | none=>exact h
 | some d=>
  have hd':d<N.n:=by simpa [bR,Nat.blt_eq] using hd
  refine⟨by simp [Act.put,h.size],by simp [Act.put,h.defs],λt=>?_⟩
  by_cases ht:t=d
  ·subst ht
   have:t<a.tmps.size:=by rw [h.size]; exact hd'
   simp [Act.put,updo,vG,Array.getD_eq_getD_getElem?,this]
  ·have ht':d≠t:=λe=>ht e.symm
   have:=h.read t
   simp only [Array.getD_eq_getD_getElem?] at this
   simp only [updo,zK σ v ht]
   simp [Act.put,Array.getD_eq_getD_getElem?,ht',this]
theorem Agr.yield{N:FN}{a:Act}{σ:Env}(h:Agr N a σ){ops:Array Oper}{j dj:Nat}{g:Bool}(hj:(ops[j]?).bind (·.dst)=some dj)(hs:σ dj = .bool g):yielded ops a.tmps j=some g:=by
 have h1:=h.read dj
 rw [hs,Array.getD_eq_getD_getElem?] at h1
 unfold yielded
 rw [hj]
 simp only [E2]
 cases hq:a.tmps[dj]? with
 | none=>rw [hq] at h1; simp [undef] at h1
 | some x=>rw [hq] at h1; simp at h1; subst h1; rfl
def lift(N:FN)(Q:Exit→Env→World→Prop):Exit→Act→World→Prop:=λe a w => ∃σ,Agr N a σ∧Q e σ w
def Wpt(P:Program)(N:FN)(c:Code)(Q:Exit→Env→World→Prop)(σ:Env)(w:World):Prop := ∀a,Agr N a σ→c.wp P (lift N Q) a w
def WC(P:Program)(N:FN)(C:World→Prop)(c:Code)(Q:Exit→Env→World→Prop)(σ:Env):Prop := ∀w,C w→Wpt P N c Q σ w
def WRp(P:Program)(N:FN)(ops:Array Oper)(Q:Exit→Env→World→Prop)(rest:List Oper)(σ:Env)(w:World):Prop := ∀a,Agr N a σ→wpList P ops (lift N Q) rest a w
def WR(P:Program)(N:FN)(ops:Array Oper)(C:World→Prop)(Q:Exit→Env→World→Prop)(rest:List Oper)(σ:Env):Prop := ∀w,C w→WRp P N ops Q rest σ w
def sq(P:Program)(N:FN)(y:Code)(Q:Exit→Env→World→Prop):Exit→Env→World→Prop
 | .normal,σ,w=>Wpt P N y Q σ w
 | e,σ,w=>Q e σ w
def bk(id:Nat)(Q:Exit→Env→World→Prop):Exit→Env→World→Prop
 | .exit i,σ,w=>bif Nat.beq i id then Q .normal σ w else Q (.exit i) σ w
 | e,σ,w=>Q e σ w
def lp(I:Nat→Env→World→Prop)(m:Nat)(Q:Exit→Env→World→Prop):Exit→Env→World→Prop
 | .normal,σ,w => ∃m',m'<m∧I m' σ w
 | e,σ,w=>Q e σ w
section
variable {P:Program} {N:FN} {C:World→Prop} {Q:Exit→Env→World→Prop} {σ:Env} {w:World}
theorem WC.mono{C':World→Prop}{c:Code}(h:WC P N C' c Q σ)(hc:∀w,C w→C' w):WC P N C c Q σ:=λw hw=>h w (hc w hw)
theorem DN{c:Code}(h:WC P N C c Q σ)(hw:C w):Wpt P N c Q σ w:=h w hw
theorem WR.here{ops:Array Oper}{rest:List Oper}(h:WR P N ops C Q rest σ)(hw:C w):WRp P N ops Q rest σ w:=h w hw
theorem Dy{x y:Code}(h:WC P N C x (sq P N y Q) σ):WC P N C (.seq x y) Q σ:=by
 intro w hw a ha
 refine wp_seq (wp_mono (h w hw a ha) ?_)
 rintro e a' w' ⟨σ',ha',hq⟩
 cases e with
 | normal=>exact hq a' ha'
 | _=>exact⟨σ',ha',hq⟩
theorem WC.cond{c:Operand}{x y:Code}{b:Bool}(hc:ev σ c = .bool b)(ht:b=true→WC P N C x Q σ)(hf:b=false→WC P N C y Q σ):WC P N C (.cond c x y) Q σ:=by
 intro w hw a ha
 refine wp_cond_split (t:=b) (by rw [ha.eval]; exact hc) (λh=>ht h w hw a ha) (λh=>hf h w hw a ha)
theorem DD{id:Nat}{c:Code}(h:WC P N C c (bk id Q) σ):WC P N C (.block id c) Q σ:=by
 intro w hw a ha
 refine wp_block (wp_mono (h w hw a ha) ?_)
 rintro e a' w' ⟨σ',ha',hq⟩
 cases e with
 | exit i=>
  simp only [Exit.inBlock]
  by_cases hi:i=id
  ·subst hi
   simp only [bk,Nat.beq_refl,cond_true] at hq
   simp only [if_true]
   exact⟨σ',ha',hq⟩
  ·have:Nat.beq i id=false:=by
    cases hb:Nat.beq i id with
    | false=>rfl
    | true=>exact absurd (Nat.eq_of_beq_eq_true hb) hi
   simp only [bk,this,cond_false] at hq
   simp only [hi,if_false]
   exact⟨σ',ha',hq⟩
 | _=>exact⟨σ',ha',hq⟩
theorem DC(h:∀w,C w→Q .normal σ w):WC P N C .skip Q σ:=λw hw _ ha=>wp_skip ⟨σ,ha,h w hw⟩
theorem WC.label{l:Nat}(h:∀w,C w→Q .normal σ w):WC P N C (.label l) Q σ:=λw hw _ ha=>wp_label ⟨σ,ha,h w hw⟩
theorem DE{id:Nat}(h:∀w,C w→Q (.exit id) σ w):WC P N C (.exit id) Q σ:=λw hw _ ha=>wp_exit ⟨σ,ha,h w hw⟩
theorem DB(h:∀w,C w→Q .ret σ w):WC P N C .ret Q σ:=λw hw _ ha=>wp_ret ⟨σ,ha,h w hw⟩
theorem WC.loop{body:Code}(I:Nat→Env→World→Prop)(h0:∀w,C w→∃m,I m σ w)(round:∀m σ w,I m σ w→Wpt P N body (lp I m Q) σ w):WC P N C (.loop body) Q σ:=by
 intro w hw a ha b k cs
 obtain⟨m0,hm0⟩:=h0 w hw
 have key:∀m, ∀σ w a,Agr N a σ→I m σ w→∃e a' w',lift N Q e a' w'∧Arrives P (lone (b.at a (.code body :: .inLoop body::k)) cs w) b k cs e a' w':=by
  intro m
  induction m using Nat.strongRecOn with
  | _ m ih=>
   intro σ w a ha hI
   obtain⟨e,a₁,w₁,⟨σ₁,ha₁,hq⟩,harr⟩:=round m σ w hI a ha b (.inLoop body::k) cs
   cases e with
   | normal=>
    obtain⟨m',hlt,hI₁⟩:=hq
    obtain⟨e₂,a₂,w₂,hq₂,harr₂⟩:=ih m' hlt σ₁ w₁ a₁ ha₁ hI₁
    exact⟨e₂,a₂,w₂,hq₂,.of_steps (Steps.trans harr (.one step_inLoop)) harr₂⟩
   | exit id=>exact⟨_,a₁,w₁,⟨σ₁,ha₁,hq⟩,.pass (x:=.inLoop body) rfl (λ_ _=>.inl (by simp)) harr⟩
   | goto l=>exact⟨_,a₁,w₁,⟨σ₁,ha₁,hq⟩,.pass (x:=.inLoop body) rfl (λ_ _=>.inl (by simp)) harr⟩
   | ret=>exact⟨_,a₁,w₁,⟨σ₁,ha₁,hq⟩,.pass (x:=.inLoop body) rfl (λ_ _=>.inl (by simp)) harr⟩
   | panic ch=>exact⟨_,a₁,w₁,⟨σ₁,ha₁,hq⟩,.pass (x:=.inLoop body) rfl (λ_ _=>.inl (by simp)) harr⟩
   | outgrown=>exact⟨_,a₁,w₁,⟨σ₁,ha₁,hq⟩,.pass (x:=.inLoop body) rfl (λ_ _=>.inl (by simp)) harr⟩
 obtain⟨e,a',w',hq,harr⟩:=key m0 σ w a ha hm0
 exact⟨e,a',w',hq,.of_steps (.one step_loop) harr⟩
theorem DA{id:Nat}{l:List Oper}(h:WR P N l.toArray C Q l σ):WC P N C (.region id l.toArray false) Q σ:=
 λw hw a ha=>wp_region_lit (h w hw a ha)
theorem Dz{ops:Array Oper}(h:∀w,C w→Q .normal σ w):WR P N ops C Q [] σ:=λw hw _ ha=>wpList_nil ⟨σ,ha,h w hw⟩
def QO(P:Program)(C:World→Prop)(σ:Env)(o:Oper)(v:Value):Prop := ∀w,C w→Oper.quietUpon P C w v ((execOp (ev σ) o).run P w)
def QV(P:Program)(C:World→Prop)(σ:Env)(o:Oper)(v:Value):Prop := ∀w,C w→(execOp (ev σ) o).run P w = .ok (.value v) w
theorem QO.val{o:Oper}{v:Value}(h:∀w,C w→(execOp (ev σ) o).run P w = .ok (.value v) w):QO P C σ o v:=λw hw=>by rw [h w hw]; exact⟨rfl,rfl⟩
theorem QV.qo{o:Oper}{v:Value}(h:QV P C σ o v):QO P C σ o v:=QO.val h
theorem Oper.wp_of_QO{o:Oper}{v:Value}{a:Act}{K:Act→World→Prop}{Q':Exit→Act→World→Prop}(ha:Agr N a σ)(h:QO P C σ o v)(hw:C w)(k:∀w',C w'→K (a.put o.dst v) w'):o.wp P a w K Q':=by
 have h3:=h w hw
 unfold Oper.wp
 rw [ha.eval]
 generalize (execOp (ev σ) o).run P w=r at *
 cases r with
 | ok n w'=>
  cases n <;> simp only [Oper.quietUpon] at h3 <;> simp only [Oper.upon]
  case value u=>
   obtain⟨e1,e2⟩:=h3
   rw [e1,e2]
   exact k _ hw
  case skip=>
   obtain⟨e1,e2⟩:=h3
   rw [e1, ← e2]
   exact k _ hw
  case enter f args=>
   obtain⟨e1,hc⟩:=h3
   rw [e1]
   exact hc.mono λe w'' ⟨he,hw''⟩=>by subst he; exact k _ hw''
 | halt x w'=>simp only [Oper.quietUpon] at h3
def gd(g want:Bool)(v:Value):Value:=bif (g==want) then v else undef
theorem BM{g want:Bool}{v:Value}(h:g=want):gd g want v=v:=by subst h; simp [gd]
theorem WR.q{ops:Array Oper}{o:Oper}{rest:List Oper}{v:Value}(hg:o.guard=none)(hd:bR N o.dst=true)(h:QO P C σ o v)(k:WR P N ops C Q rest (updo σ o.dst v)):WR P N ops C Q (o::rest) σ:=
 λw hw _ ha=>wpList_plain hg λ_ hK=>Oper.wp_of_QO ha h hw λw' hw'=>hK _ _ (k w' hw' _ (ha.put hd v))
theorem WR.qg{ops:Array Oper}{o:Oper}{rest:List Oper}{v:Value}{j dj:Nat}{g want:Bool}(hg:o.guard=some (j,want))(hj:(ops[j]?).bind (·.dst)=some dj)(hs:σ dj = .bool g)(hd:bR N o.dst=true)(h:g=want→QO P C σ o v)
  (k:WR P N ops C Q rest (updo σ o.dst (gd g want v))):WR P N ops C Q (o::rest) σ:=by
 intro w hw a ha
 refine wpList_step λK hK=>?_
 have hy:yielded ops a.tmps j=some g:=ha.yield hj hs
 by_cases hgw:g=want
 ·have:Region.wanted o (yielded ops a.tmps)=true:=by simp [Region.wanted,hg,hy,hgw]
  rw [if_pos this]
  refine Oper.wp_of_QO ha (h hgw) hw λw' hw'=>hK _ _ ?_
  have:=k w' hw' _ (ha.put hd (gd g want v))
  rwa [BM hgw] at this
 ·have:¬ Region.wanted o (yielded ops a.tmps)=true:=by simp [Region.wanted,hg,hy,hgw]
  rw [if_neg this]
  refine hK _ _ ?_
  have e:gd g want v=undef:=by unfold gd; rw [show (g==want)=false by simpa using hgw]; rfl
  have:=k w hw _ (ha.put hd (gd g want v))
  rwa [e] at this
theorem WR.e{ops:Array Oper}{o:Oper}{rest:List Oper}(hg:o.guard=none)(h:∀w,C w→∀a,Agr N a σ→∀K:Act→World→Prop,(∀a w,wpList P ops (lift N Q) rest a w→K a w)→o.wp P a w K (lift N Q)):WR P N ops C Q (o::rest) σ:=
 λw hw a ha=>wpList_plain hg λK hK=>h w hw a ha K hK
theorem WR.eff{ops:Array Oper}{o:Oper}{rest:List Oper}(hg:o.guard=none)(hd:bR N o.dst=true)
  (h:∀w,C w→∃v w',((execOp (ev σ) o).run P w = .ok (.value v) w'∨((execOp (ev σ) o).run P w = .ok .skip w'∧v=undef))∧WRp P N ops Q rest (updo σ o.dst v) w'):WR P N ops C Q (o::rest) σ:=by
 refine WR.e hg λw hw a ha K hK=>?_
 obtain⟨v,w',hr,hk⟩:=h w hw
 unfold Oper.wp
 rw [ha.eval]
 rcases hr with hr | ⟨hr,rfl⟩
 ·rw [hr]; exact hK _ _ (hk _ (ha.put hd v))
 ·rw [hr]; exact hK _ _ (hk _ (ha.put hd undef))
theorem WR.call{ops:Array Oper}{o:Oper}{rest:List Oper}{f:FuncId}{args:Array Value}(hg:o.guard=none)(hd:bR N o.dst=true)
  (hr:∀w,(execOp (ev σ) o).run P w = .ok (.enter f args) w)
  (h:∀w,C w→Calls P f args w λe w' => ∃v,e = .returned v∧WRp P N ops Q rest (updo σ o.dst v) w'):WR P N ops C Q (o::rest) σ:=by
 refine WR.e hg λw hw a ha K hK=>?_
 unfold Oper.wp
 rw [ha.eval,hr w]
 refine(h w hw).mono ?_
 rintro e w' ⟨v,rfl,hk⟩
 exact hK _ _ (hk _ (ha.put hd v))
def WQ(P:Program)(N:FN)(ops:Array Oper)(C:World→Prop)(Q:Exit→Env→World→Prop)(rest:List Oper)(σ:Env):Prop := ∀a,Agr N a σ→wpQuiet P ops C (λa' => ∀w',C w'→lift N Q .normal a' w') rest a
theorem WC.draw{id:Nat}{l:List Oper}(hm:P.follows .mixedOrders=true)(hB:Region.lexB .any l.toArray=true)(hC:∀w,C w→C { w with drawn:=w.drawn+1 })(h:WQ P N l.toArray C Q l σ):WC P N C (.region id l.toArray true) Q σ:=
 λw hw a ha=>wp_region_quiet (C:=C) hm hB (hC w hw) (by simpa using h a ha)
theorem DJ{ops:Array Oper}(h:∀w,C w→Q .normal σ w):WQ P N ops C Q [] σ:=λ_ ha=>wpQuiet_nil (λw hw=>⟨σ,ha,h w hw⟩)
theorem WQ.q{ops:Array Oper}{o:Oper}{rest:List Oper}{v:Value}(hg:o.guard=none)(hd:bR N o.dst=true)(h:QO P C σ o v)(k:WQ P N ops C Q rest (updo σ o.dst v)):WQ P N ops C Q (o::rest) σ:=by
 intro a ha
 refine wpQuiet_step λK hK=>?_
 have:Region.wanted o (yielded ops a.tmps)=true:=by simp [Region.wanted,hg]
 rw [if_pos this]
 exact⟨v,λw hw=>by have:=h w hw; unfold Oper.quietAt; rw [ha.eval]; exact this,hK _ (k _ (ha.put hd v))⟩
theorem WQ.qg{ops:Array Oper}{o:Oper}{rest:List Oper}{v:Value}{j dj:Nat}{g want:Bool}(hg:o.guard=some (j,want))(hj:(ops[j]?).bind (·.dst)=some dj)(hs:σ dj = .bool g)(hd:bR N o.dst=true)(h:g=want→QO P C σ o v)
  (k:WQ P N ops C Q rest (updo σ o.dst (gd g want v))):WQ P N ops C Q (o::rest) σ:=by
 intro a ha
 refine wpQuiet_step λK hK=>?_
 have hy:yielded ops a.tmps j=some g:=ha.yield hj hs
 by_cases hgw:g=want
 ·have:Region.wanted o (yielded ops a.tmps)=true:=by simp [Region.wanted,hg,hy,hgw]
  rw [if_pos this]
  refine⟨v,λw hw=>by have:=h hgw w hw; unfold Oper.quietAt; rw [ha.eval]; exact this,hK _ ?_⟩
  have:=k _ (ha.put hd (gd g want v))
  rwa [BM hgw] at this
 ·have:¬ Region.wanted o (yielded ops a.tmps)=true:=by simp [Region.wanted,hg,hy,hgw]
  rw [if_neg this]
  refine hK _ ?_
  have e:gd g want v=undef:=by unfold gd; rw [show (g==want)=false by simpa using hgw]; rfl
  have:=k _ (ha.put hd (gd g want v))
  rwa [e] at this
def jq(J:Env→World→Prop)(Q:Exit→Env→World→Prop):Exit→Env→World→Prop
 | .normal,σ,w=>J σ w
 | e,σ,w=>Q e σ w
theorem DL{x y:Code}(J:Env→World→Prop)(h1:WC P N C x (jq J Q) σ)(h2:∀σ w,J σ w→Wpt P N y Q σ w):WC P N C (.seq x y) Q σ:=by
 refine Dy ?_
 intro w hw a ha
 refine wp_mono (h1 w hw a ha) ?_
 rintro e a' w' ⟨σ',ha',hq⟩
 cases e with
 | normal=>exact⟨σ',ha',h2 σ' w' hq⟩
 | _=>exact⟨σ',ha',hq⟩
theorem WC.cif{R:Type}{c:Operand}{x y:Code}{b:Bool}{mx my:Option R}{r:R}(h:(bif b then mx else my)=some r)(hc:ev σ c = .bool b)(ht:b=true→mx=some r→WC P N C x Q σ)(hf:b=false→my=some r→WC P N C y Q σ):WC P N C (.cond c x y) Q σ:=
 WC.cond hc (λhb=>ht hb (bt hb h)) (λhb=>hf hb (bf hb h))
theorem WC.ct{c:Operand}{x y:Code}(hc:ev σ c = .bool true)(h:WC P N C x Q σ):WC P N C (.cond c x y) Q σ:=WC.cond hc (λ_=>h) (λhb=>by cases hb)
theorem WC.cf{c:Operand}{x y:Code}(hc:ev σ c = .bool false)(h:WC P N C y Q σ):WC P N C (.cond c x y) Q σ:=WC.cond hc (λhb=>by cases hb) (λ_=>h)
theorem Wpt.slots{c:Code}{w:World}{σ:Env}{l:List (Nat×Value)}(h:slots σ l)(k:Wpt P N c Q (upds σ l) w):Wpt P N c Q σ w:=by rw [pT h] at k; exact k
section
variable {α S R:Type} [Inhabited α]
def lpI(I:Nat→S→Env→World→Prop)(f:S→Option R)(r:R)(i:Nat)(lt:Prop)(Q:Exit→Env→World→Prop):Exit→Env→World→Prop
 | .normal,σ,w=>lt∧∃s,f s=some r∧I i s σ w
 | e,σ,w=>Q e σ w
theorem DF{body:Code}{B:(S→Option R)→Nat→α→S→Option R}{K:S→Option R}{l:List α}{s0:S}{r:R}(h:Fw.forI B K 0 l s0=some r)(I:Nat→S→Env→World→Prop)(h0:∀w,C w→I 0 s0 σ w)
  (round:∀(f:S→Option R) i s σ w,i≤l.length→(i<l.length→B f i (gt l i) s=some r)→(l.length≤i→K s=some r)→I i s σ w→Wpt P N body (lpI I f r (i+1) (i<l.length) Q) σ w):WC P N C (.loop body) Q σ:=by
 refine WC.loop (λm σ w => ∃i s,m=l.length - i∧i≤l.length∧Fw.forI B K i (l.drop i) s=some r∧I i s σ w) (λw hw=>⟨_,0,s0,rfl,E7 _,h,h0 w hw⟩) ?_
 rintro m σ w ⟨i,s,rfl,hi,hs,hI⟩ a ha
 refine wp_mono (round (Fw.forI B K (i+1) (l.drop (i+1))) i s σ w hi (λh=>B8 h hs) (λh=>Bq h hs) hI a ha) ?_
 rintro e a' w' ⟨σ',ha',hq⟩
 refine⟨σ',ha',?_⟩
 cases e with
 | normal=>
  obtain⟨hlt,s',h1,h2⟩:=hq
  exact⟨l.length - (i+1),by omega,i+1,s',rfl,hlt,h1,h2⟩
 | _=>exact hq
theorem WC.forU{body:Code}{B:(S→Option R)→Nat→S→Option R}{K:S→Option R}{n:Nat}{s0:S}{r:R}(h:Fw.forU B K n 0 s0=some r)(I:Nat→S→Env→World→Prop)(h0:∀w,C w→I 0 s0 σ w)
  (round:∀(f:S→Option R) i s σ w,i≤n→(i<n→B f i s=some r)→(n≤i→K s=some r)→I i s σ w→Wpt P N body (lpI I f r (i+1) (i<n) Q) σ w):WC P N C (.loop body) Q σ:=by
 refine WC.loop (λm σ w => ∃i s,m=n - i∧i≤n∧Fw.forU B K (n - i) i s=some r∧I i s σ w) (λw hw=>⟨_,0,s0,rfl,E7 _,h,h0 w hw⟩) ?_
 rintro m σ w ⟨i,s,rfl,hi,hs,hI⟩ a ha
 refine wp_mono (round (Fw.forU B K (n - (i+1)) (i+1)) i s σ w hi (λh=>AL h hs) (λh=>Bd h hs) hI a ha) ?_
 rintro e a' w' ⟨σ',ha',hq⟩
 refine⟨σ',ha',?_⟩
 cases e with
 | normal=>
  obtain⟨hlt,s',h1,h2⟩:=hq
  exact⟨n - (i+1),by omega,i+1,s',rfl,hlt,h1,h2⟩
 | _=>exact hq
def lpN(I:S→Env→World→Prop)(f:S→Option R)(r:R)(Q:Exit→Env→World→Prop):Exit→Env→World→Prop
 | .normal,σ,w => ∃s,f s=some r∧I s σ w
 | e,σ,w=>Q e σ w
theorem DO{body:Code}{B:(S→Option R)→S→Option R}{n:Nat}{s0:S}{r:R}(h:Fw.loopN B n s0=some r)(I:S→Env→World→Prop)(h0:∀w,C w→I s0 σ w)
  (round:∀(f:S→Option R) s σ w,B f s=some r→I s σ w→Wpt P N body (lpN I f r Q) σ w):WC P N C (.loop body) Q σ:=by
 refine WC.loop (λm σ w => ∃s,Fw.loopN B m s=some r∧I s σ w) (λw hw=>⟨n,s0,h,h0 w hw⟩) ?_
 rintro m σ w ⟨s,hs,hI⟩ a ha
 cases m with
 | zero=>cases hs
 | succ m=>
  refine wp_mono (round (Fw.loopN B m) s σ w hs hI a ha) ?_
  rintro e a' w' ⟨σ',ha',hq⟩
  refine⟨σ',ha',?_⟩
  cases e with
  | normal=>
   obtain⟨s',h1,h2⟩:=hq
   exact⟨m,Nat.lt_succ_self m,s',h1,h2⟩
  | _=>exact hq
end
theorem Dx{id:Nat}{l:List Oper}{y:Code}(h:WR P N l.toArray C (sq P N y Q) l σ):WC P N C (.seq (.region id l.toArray false) y) Q σ:=Dy (DA h)
theorem Dw{ops:Array Oper}{y:Code}(h:WC P N C y Q σ):WR P N ops C (sq P N y Q) [] σ:=Dz h
def retV(σ:Env):List Nat→Value
 | [t]=>σ t
 | ts=>.tuple (ts.map σ).toArray
def fq(rs:List Nat)(R:Ending→World→Prop):Exit→Env→World→Prop
 | .normal,σ,w | .ret,σ,w=>R (.returned (retV σ rs)) w
 | .panic chain,_,w=>R (.panicked chain) w
 | .outgrown,_,w=>R .outgrown w
 | _,_,_=>False
def env0(args:List Value):Env:=λt=>args.getD t undef
theorem eP{fn:Func}{a:Act}(ha:Agr N a σ){rs:List Nat}(hrs:fn.results=(rs.map ResultVar.tmp).toArray)(w:World):(results fn a.tmps).run P w = .ok (retV σ rs) w:=by
 have key:∀(F:ResultVar→Sem Value),(∀t,F (.tmp t)=Pure.pure (a.tmps.getD t undef))→∀l:List Nat,(List.mapM (m:=Sem) F (l.map ResultVar.tmp)).run P w = .ok (l.map σ) w:=by
  intro F hF l
  induction l with
  | nil=>rfl
  | cons t l ih=>simp only [E0,List.mapM_cons,E3,hF,E4,Result.andThen_ok,ih,ha.read]
 unfold results
 rw [hrs,List.mapM_toArray]
 simp only [E3,Sem.run_map]
 rw [key _ (λt=>rfl) rs]
 match rs with
 | []=>rfl
 | [t]=>rfl
 | t::u::l=>simp [retV,E4]
theorem sy{N:Nat}{f:FuncId}{fn:Func}{c:Code}{args:List Value}{R:Ending→World→Prop}{rs:List Nat}(hf:P.funcs[f]? = some fn)(hb:fn.body=some c)(hn:fn.ntmps=N)(hrs:fn.results=(rs.map ResultVar.tmp).toArray)
  (ha:Nat.ble args.length N=true) (h:Wpt P ⟨N,[]⟩ c (fq rs R) (env0 args) w):Calls P f args.toArray w R:=by
 have hle:args.length≤N:=Nat.le_of_ble_eq_true ha
 refine calls_of_wp hf hb (wp_mono (h _ ⟨by simp [hn]; omega,rfl,λt=>?_⟩) ?_)
 ·by_cases ht:t<args.length
  ·simp [env0,Array.getD_eq_getD_getElem?,Array.getElem?_append,ht,List.getD]
  ·simp only [env0,Array.getD_eq_getD_getElem?,Array.getElem?_append,List.size_toArray,ht,if_false,List.getD,Array.getElem?_replicate]
   rw [List.getElem?_eq_none (by omega)]
   split <;> rfl
 ·rintro e a w' ⟨σ',ha',hq⟩
  cases e with
  | normal=>exact⟨ha'.defs,_,eP ha' hrs w',hq⟩
  | ret=>exact⟨ha'.defs,_,eP ha' hrs w',hq⟩
  | panic ch=>exact⟨ha'.defs,hq⟩
  | outgrown=>exact hq
  | exit id=>exact hq
  | goto l=>exact hq
end
noncomputable def gv (c:Bool) (v:Value):Value:=@Bool.rec (λ_=>Value) undef v c
theorem Di{c:Bool}{v:Value}(h:c=true):gv c v=v:=by subst h; rfl
theorem aJ{c:Bool}{v:Value}(h:c=false):gv c v=undef:=by subst h; rfl
theorem gu{x:Value}{c:Bool}{v:Value}(hc:c=true)(h:x=gv c v):x=v:=h.trans (Di hc)
theorem bV{a b:Bool}(h:(a&&b)=true):a=true:=by cases a <;> simp_all
theorem de{a b:Bool}(h:(a&&b)=true):b=true:=by cases a <;> simp_all
theorem or_l{a b:Bool}(h:(a||b)=false):a=false:=by cases a <;> simp_all
theorem or_r{a b:Bool}(h:(a||b)=false):b=false:=by cases b <;> simp_all
theorem yv{a:Bool}(h:(!a)=false):a=true:=by cases a <;> simp_all
theorem ta{a:Bool}(h:(!a)=true):a=false:=by cases a <;> simp_all
theorem nott{a:Bool}(h:a=true):(!a)=false:=by subst h; rfl
theorem notf{a:Bool}(h:a=false):(!a)=true:=by subst h; rfl
theorem yN{c g y:Bool}(hc:c=true):(bif g then Value.bool true else gv (c&&!g) (.bool y)) = .bool (g||y):=by subst hc; cases g <;> rfl
theorem kM{c g y:Bool}(hc:c=true):(bif g then gv (c&&g) (.bool y) else Value.bool false) = .bool (g&&y):=by subst hc; cases g <;> rfl
theorem Ca{g y:Bool}:(bif g then Value.bool true else gv (!g) (.bool y)) = .bool (g||y):=by cases g <;> rfl
theorem AY{g y:Bool}:(bif g then gv g (.bool y) else Value.bool false) = .bool (g&&y):=by cases g <;> rfl
section
variable {P:Program} {N:FN} {C:World→Prop} {Q:Exit→Env→World→Prop} {σ:Env} {o:Oper} {ops:Array Oper} {rest:List Oper} {v:Value} {d j dj:Nat} {c0 g:Bool}
theorem WR.gud{v:Value}{j dj:Nat}{c0 g want:Bool}(hg:o.guard=some (j,want))(hj:(ops[j]?).bind (·.dst)=some dj)(hs:σ dj=gv c0 (.bool g))(hd:bR N o.dst=true)
  (h:(c0&&(bif want then g else !g))=true→QO P C σ o v) (k:WR P N ops C Q rest (updo σ o.dst (gv (c0&&(bif want then g else !g)) v))):WR P N ops C Q (o::rest) σ:=by
 cases c0 with
 | true=>
  refine WR.qg hg hj hs hd (λe=>h (by subst e; cases g <;> rfl)) ?_
  have:gd g want v=gv (true&&(bif want then g else !g)) v:=by cases g <;> cases want <;> rfl
  rwa [this]
 | false=>
  intro w hw a ha
  refine wpList_step λK hK=>?_
  have hy:yielded ops a.tmps j=none:=by
   have h1:=ha.read dj
   rw [hs,Array.getD_eq_getD_getElem?] at h1
   unfold yielded
   rw [hj]
   simp only [E2]
   cases hq:a.tmps[dj]? with
   | none=>rfl
   | some x=>rw [hq] at h1; simp [gv,undef] at h1; subst h1; rfl
  have:¬ Region.wanted o (yielded ops a.tmps)=true:=by simp [Region.wanted,hg,hy]
  rw [if_neg this]
  exact hK _ _ (k w hw _ (ha.put hd undef))
theorem WQ.gud{v:Value}{j dj:Nat}{c0 g want:Bool}(hg:o.guard=some (j,want))(hj:(ops[j]?).bind (·.dst)=some dj)(hs:σ dj=gv c0 (.bool g))(hd:bR N o.dst=true)
  (h:(c0&&(bif want then g else !g))=true→QO P C σ o v) (k:WQ P N ops C Q rest (updo σ o.dst (gv (c0&&(bif want then g else !g)) v))):WQ P N ops C Q (o::rest) σ:=by
 cases c0 with
 | true=>
  refine WQ.qg hg hj hs hd (λe=>h (by subst e; cases g <;> rfl)) ?_
  have:gd g want v=gv (true&&(bif want then g else !g)) v:=by cases g <;> cases want <;> rfl
  rwa [this]
 | false=>
  intro a ha
  refine wpQuiet_step λK hK=>?_
  have hy:yielded ops a.tmps j=none:=by
   have h1:=ha.read dj
   rw [hs,Array.getD_eq_getD_getElem?] at h1
   unfold yielded
   rw [hj]
   simp only [E2]
   cases hq:a.tmps[dj]? with
   | none=>rfl
   | some x=>rw [hq] at h1; simp [gv,undef] at h1; subst h1; rfl
  have:¬ Region.wanted o (yielded ops a.tmps)=true:=by simp [Region.wanted,hg,hy]
  rw [if_neg this]
  exact hK _ (k _ (ha.put hd undef))
theorem va(hg:o.guard=none)(hdst:o.dst=some d)(hd:Nat.blt d N.n=true)(h:QV P C σ o v)(k:WR P N ops C Q rest (upd σ d v)):WR P N ops C Q (o::rest) σ:=WR.q hg (by rw [hdst]; exact hd) h.qo (by rw [hdst]; exact k)
theorem vc(hg:o.guard=none)(hdst:o.dst=some d)(hd:Nat.blt d N.n=true)(h:QO P C σ o v)(k:WR P N ops C Q rest (upd σ d v)):WR P N ops C Q (o::rest) σ:=WR.q hg (by rw [hdst]; exact hd) h (by rw [hdst]; exact k)
theorem vg1(hg:o.guard=some (j,true))(hj:(ops[j]?).bind (·.dst)=some dj)(hs:σ dj = .bool g)(hdst:o.dst=some d)(hd:Nat.blt d N.n=true)(h:g=true→QO P C σ o v)(k:WR P N ops C Q rest (upd σ d (gv g v))):WR P N ops C Q (o::rest) σ:=
 WR.gud (c0:=true) hg hj hs (by rw [hdst]; exact hd) (λe=>h e) (by rw [hdst]; exact k)
theorem vg0(hg:o.guard=some (j,false))(hj:(ops[j]?).bind (·.dst)=some dj)(hs:σ dj = .bool g)(hdst:o.dst=some d)(hd:Nat.blt d N.n=true)(h:(!g)=true→QO P C σ o v)(k:WR P N ops C Q rest (upd σ d (gv (!g) v))):WR P N ops C Q (o::rest) σ:=
 WR.gud (c0:=true) hg hj hs (by rw [hdst]; exact hd) (λe=>h e) (by rw [hdst]; exact k)
theorem vh1(hg:o.guard=some (j,true))(hj:(ops[j]?).bind (·.dst)=some dj)(hs:σ dj=gv c0 (.bool g))(hdst:o.dst=some d)(hd:Nat.blt d N.n=true)(h:(c0&&g)=true→QO P C σ o v)(k:WR P N ops C Q rest (upd σ d (gv (c0&&g) v))):WR P N ops C Q (o::rest) σ:=
 WR.gud hg hj hs (by rw [hdst]; exact hd) h (by rw [hdst]; exact k)
theorem wa(hg:o.guard=none)(hdst:o.dst=some d)(hd:Nat.blt d N.n=true)(h:QV P C σ o v)(k:WQ P N ops C Q rest (upd σ d v)):WQ P N ops C Q (o::rest) σ:=WQ.q hg (by rw [hdst]; exact hd) h.qo (by rw [hdst]; exact k)
theorem wc(hg:o.guard=none)(hdst:o.dst=some d)(hd:Nat.blt d N.n=true)(h:QO P C σ o v)(k:WQ P N ops C Q rest (upd σ d v)):WQ P N ops C Q (o::rest) σ:=WQ.q hg (by rw [hdst]; exact hd) h (by rw [hdst]; exact k)
theorem wg1(hg:o.guard=some (j,true))(hj:(ops[j]?).bind (·.dst)=some dj)(hs:σ dj = .bool g)(hdst:o.dst=some d)(hd:Nat.blt d N.n=true)(h:g=true→QO P C σ o v)(k:WQ P N ops C Q rest (upd σ d (gv g v))):WQ P N ops C Q (o::rest) σ:=
 WQ.gud (c0:=true) hg hj hs (by rw [hdst]; exact hd) (λe=>h e) (by rw [hdst]; exact k)
theorem wg0(hg:o.guard=some (j,false))(hj:(ops[j]?).bind (·.dst)=some dj)(hs:σ dj = .bool g)(hdst:o.dst=some d)(hd:Nat.blt d N.n=true)(h:(!g)=true→QO P C σ o v)(k:WQ P N ops C Q rest (upd σ d (gv (!g) v))):WQ P N ops C Q (o::rest) σ:=
 WQ.gud (c0:=true) hg hj hs (by rw [hdst]; exact hd) (λe=>h e) (by rw [hdst]; exact k)
theorem wh1(hg:o.guard=some (j,true))(hj:(ops[j]?).bind (·.dst)=some dj)(hs:σ dj=gv c0 (.bool g))(hdst:o.dst=some d)(hd:Nat.blt d N.n=true)(h:(c0&&g)=true→QO P C σ o v)(k:WQ P N ops C Q rest (upd σ d (gv (c0&&g) v))):WQ P N ops C Q (o::rest) σ:=
 WQ.gud hg hj hs (by rw [hdst]; exact hd) h (by rw [hdst]; exact k)
theorem wh0(hg:o.guard=some (j,false))(hj:(ops[j]?).bind (·.dst)=some dj)(hs:σ dj=gv c0 (.bool g))(hdst:o.dst=some d)(hd:Nat.blt d N.n=true)(h:(c0&&!g)=true→QO P C σ o v)(k:WQ P N ops C Q rest (upd σ d (gv (c0&&!g) v))):WQ P N ops C Q (o::rest) σ:=
 WQ.gud hg hj hs (by rw [hdst]; exact hd) h (by rw [hdst]; exact k)
theorem WC.sub{C':World→Prop}{c:Code}(h:∀w,C w→C' w)(k:WC P N C' c Q σ):WC P N C c Q σ:=λw hw=>k w (h w hw)
theorem WR.sub{C':World→Prop}(h:∀w,C w→C' w)(k:WR P N ops C' Q rest σ):WR P N ops C Q rest σ:=λw hw=>k w (h w hw)
end
end Fw
end Go.Proofs.YtgaplodcdhhefaaGreat
