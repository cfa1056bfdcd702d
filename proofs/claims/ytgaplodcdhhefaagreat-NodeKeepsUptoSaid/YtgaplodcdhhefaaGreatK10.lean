/- Results that lie in memory; tests of a slice against nil. No condition. -/
import Derived.Test.YtgaplodcdhhefaaGreatK9
namespace Go.Proofs.YtgaplodcdhhefaaGreat
namespace Fw
set_option linter.unusedVariables false
set_option linter.unusedSimpArgs false
set_option linter.unusedSectionVars false
open Go.RowKit
section
variable {P:Program} {N:FN} {C:World→Prop} {Q:Exit→Env→World→Prop} {σ:Env} {o:Oper} {F:Fm} {Γ Δ:Gh} {L:List Rowb} {w:World} {α:Type} [Inhabited α] {T:Ty α}
def gY(P:Program)(σ:Env)(w:World):List ResultVar→List Value→Prop
 | [],[]=>True
 | .tmp t::rs,v::vs=>σ t=v∧gY P σ w rs vs
 | .cell a t::rs,v::vs=>(∃ad,σ a = .pointer (some ad))∧(Instr.loadAt t (σ a)).run P w = .ok v w∧gY P σ w rs vs
 | _,_=>False
def retW:List Value→Value
 | [v]=>v
 | vs=>.tuple vs.toArray
def fqr(P:Program)(rs:List ResultVar)(R:Ending→World→Prop):Exit→Env→World→Prop
 | .normal,σ,w | .ret,σ,w => ∃vs,gY P σ w rs vs∧R (.returned (retW vs)) w
 | .panic chain,_,w=>R (.panicked chain) w
 | .outgrown,_,w=>R .outgrown w
 | _,_,_=>False
theorem jc{fn:Func}{a:Act}(ha:Agr N a σ){rs:List ResultVar}(hrs:fn.results=rs.toArray){w:World}{vs:List Value}(h:gY P σ w rs vs):(results fn a.tmps).run P w = .ok (retW vs) w:=by
 have key:∀(F:ResultVar→Sem Value),(∀t,F (.tmp t)=Pure.pure (a.tmps.getD t undef))→(∀c t,F (.cell c t)=(asAddr (a.tmps.getD c undef) >>= λx=>loadVar t x)) →
   ∀(rs:List ResultVar) (vs:List Value),gY P σ w rs vs→(List.mapM (m:=Sem) F rs).run P w = .ok vs w:=by
  intro F hF hG rs
  induction rs with
  | nil=>intro vs h; cases vs with | nil=>rfl | cons _ _=>exact h.elim
  | cons r rs ih=>
   intro vs h
   cases vs with
   | nil=>cases r <;> exact h.elim
   | cons v vs=>
    cases r with
    | tmp t=>
     obtain⟨h1,h2⟩:=h
     simp only [List.mapM_cons,E3,hF,E4,Result.andThen_ok,ih vs h2,ha.read,h1]
    | cell c t=>
     obtain⟨⟨ad,h0⟩,h1,h2⟩:=h
     have h3:(loadVar t ad).run P w = .ok v w:=by
      rw [h0] at h1
      simpa [Instr.loadAt,Instr.sureAddr,E3,E4] using h1
     simp only [List.mapM_cons,E3,hG,E4,ha.read,h0,asAddr,Result.andThen_ok,h3,ih vs h2]
 unfold results
 rw [hrs,List.mapM_toArray]
 simp only [E3,Sem.run_map]
 rw [key _ (λt=>rfl) (λc t=>rfl) rs vs h]
 match vs with
 | []=>rfl
 | [v]=>rfl
 | t::u::l=>simp [retW,E4]
theorem cH{N:Nat}{f:FuncId}{fn:Func}{c:Code}{args:List Value}{R:Ending→World→Prop}{rs:List ResultVar}(hf:P.funcs[f]? = some fn)(hb:fn.body=some c)(hn:fn.ntmps=N)(hrs:fn.results=rs.toArray)
  (ha:Nat.ble args.length N=true) (h:Wpt P ⟨N,[]⟩ c (fqr P rs R) (env0 args) w):Calls P f args.toArray w R:=by
 have hle:args.length≤N:=Nat.le_of_ble_eq_true ha
 refine calls_of_wp hf hb (wp_mono (h _ ⟨by simp [hn]; omega,rfl,λt=>?_⟩) ?_)
 ·by_cases ht:t<args.length
  ·simp [env0,Array.getD_eq_getD_getElem?,Array.getElem?_append,ht,List.getD]
  ·simp only [env0,Array.getD_eq_getD_getElem?,Array.getElem?_append,List.size_toArray,ht,if_false,List.getD,Array.getElem?_replicate]
   rw [List.getElem?_eq_none (by omega)]
   split <;> rfl
 ·rintro e a w' ⟨σ',ha',hq⟩
  cases e with
  | normal=>obtain⟨vs,h1,h2⟩:=hq; exact⟨ha'.defs,_,jc ha' hrs h1,h2⟩
  | ret=>obtain⟨vs,h1,h2⟩:=hq; exact⟨ha'.defs,_,jc ha' hrs h1,h2⟩
  | panic ch=>exact⟨ha'.defs,hq⟩
  | outgrown=>exact hq
  | exit id=>exact hq
  | goto l=>exact hq
theorem Ah{t:Nat}{rs:List ResultVar}{v:Value}{vs:List Value}(h:σ t=v)(k:gY P σ w rs vs):gY P σ w (.tmp t::rs) (v::vs):=⟨h,k⟩
theorem ns{a i g:Nat}{t e:TypeId}{cs:Array Value}{rs:List ResultVar}{v:Value}{vs:List Value}(hw:Cur F Γ L w)(hi:L[i]? = some [(g,.cells cs e (0,0))])(ht:∀w,(isAgg t).run P w = .ok false w)(h:σ a = .pointer (some ⟨g,0,none⟩))(hv:cs[0]? = some v)(k:gY P σ w rs vs):
  gY P σ w (.cell a t::rs) (v::vs):=⟨⟨_,h⟩,by rw [h]; exact dO ht ((hw.cell hi).trans hv),k⟩
theorem dL{a i g:Nat}{t e:TypeId}{cs:Array Value}{rs:List ResultVar}{us:List Value}{vs:List Value}(hw:Cur F Γ L w)(hi:L[i]? = some [(g,.cells cs e (0,0))])(ht:∀w,(isAgg t).run P w = .ok true w)(hz:∀w,(sizeOf t).run P w = .ok us.length w)(h:σ a = .pointer (some ⟨g,0,none⟩))(hv:cs.toList=us)(k:gY P σ w rs vs):
  gY P σ w (.cell a t::rs) (.agg us.toArray::vs):=⟨⟨_,h⟩,by
   rw [h]
   refine eK ht hz λj v hj=>?_
   rw [cx,hw.cell hi, ← Array.getElem?_toList,hv,Nat.zero_add]; exact hj,k⟩
theorem dK:gY P σ w [] []:=trivial
def nilc{R:Type}[DecidableEq R](e:Bool)(x y:Option R):Option R:=bif e then (if x=y then x else none) else y
theorem C6{R:Type}[DecidableEq R]{β:Type}{xs:List β}{x y:Option R}{r:R}(h:nilc xs.isEmpty x y=some r)(he:xs = []):x=some r:=by
 subst he
 simp only [nilc,List.isEmpty_nil,cond_true] at h
 split at h
 ·exact h
 ·cases h
theorem BU{R:Type}[DecidableEq R]{e:Bool}{x y:Option R}{r:R}(h:nilc e x y=some r):y=some r:=by
 cases e with
 | false=>exact h
 | true=>
  simp only [nilc,cond_true] at h
  split at h
  ·rename_i he; rw [← he]; exact h
  ·cases h
theorem Sl.none_nil{A:Option Addr}{xs:List α}(h:Sl T Γ A xs)(hA:A.isNone=true):xs = []:=by
 cases xs with
 | nil=>rfl
 | cons x l=>have:=h.some_ (k:=0) (by simp); cases A <;> simp_all
theorem Own.none_nil{e:TypeId}{row:Rowb}{A:Option Addr}{c:Nat}{xs:List α}(h:Own T Γ e row A c xs)(hA:A.isNone=true):xs = []:=by
 cases xs with
 | nil=>rfl
 | cons x l=>have:=h.some_ (k:=0) (by simp); cases A <;> simp_all
theorem WC.cnil{R:Type}[DecidableEq R]{β:Type}{xs:List β}{c:Operand}{x y:Code}{b:Bool}{mx my:Option R}{r:R}(h:nilc xs.isEmpty mx my=some r)(hc:ev σ c = .bool b)(hn:b=true→xs = [])(ht:b=true→mx=some r→WC P N C x Q σ)(hf:b=false→my=some r→WC P N C y Q σ):WC P N C (.cond c x y) Q σ:=
 WC.cond hc (λhb=>ht hb (C6 h (hn hb))) (λhb=>hf hb (BU h))
def optm{β R:Type}(o:Option β)(x:Option R)(f:β→Option R):Option R:=match o with
 | none=>x
 | some b=>f b
theorem bi{β R:Type}{o:Option β}{x:Option R}{f:β→Option R}{r:R}(h0:o=none)(h:optm o x f=some r):x=some r:=by subst h0; exact h
theorem bh{β R:Type}{o:Option β}{x:Option R}{f:β→Option R}{b:β}{r:R}(h0:o=some b)(h:optm o x f=some r):f b=some r:=by subst h0; exact h
def optp{β:Type}(o:Option β)(g:Nat):Value:=match o with
 | none=>.pointer none
 | some _=>.pointer (some ⟨g,0,none⟩)
def xd{β:Type}(ob:Rowb→β→Prop)(row:Rowb):Option β→Prop
 | none=>row = []
 | some x=>ob row x
theorem bS{β:Type}{o:Option β}{x:β}{g:Nat}{v:Value}(h:v=optp o g)(hx:o=some x):v = .pointer (some ⟨g,0,none⟩):=by subst hx; exact h
theorem jX{β:Type}{ob:Rowb→β→Prop}{row:Rowb}{o:Option β}{x:β}(h:xd ob row o)(hx:o=some x):ob row x:=by subst hx; exact h
theorem tJ{β:Type}{o':Option β}{g:Nat}{x y:Operand}{t ty e:TypeId}(ht:P.underlying t=some (.pointer e))(ho:o.op = .binOp .eql t x y ty)(hx:ev σ x=optp o' g)(hy:ev σ y = .pointer none):QV P C σ o (.bool o'.isNone):=by
 cases o' with
 | none=>exact nw (a:=none) ht ho hx hy
 | some b=>exact nw (a:=some ⟨g,0,none⟩) ht ho hx hy
theorem ke{c a b:Operand}{g:Bool}{v:Value}(ho:o.op = .pick c a b)(hc:ev σ c = .bool g)(hg:g=true)(ha:ev σ a=v):QV P C σ o v:=eV ho hc (by subst hg; exact ha)
theorem jv{c a b:Operand}{g:Bool}{v:Value}(ho:o.op = .pick c a b)(hc:ev σ c = .bool g)(hg:g=false)(hb:ev σ b=v):QV P C σ o v:=eV ho hc (by subst hg; exact hb)
theorem Cur.raU{row:Rowb}(is:List Nat)(h:Cur F Γ L w)(hi:okp is L.length=true)(hr:row=(pkU is L).flatten):∀p∈row,Gh.all w p.1=some p.2:=by
 subst hr
 intro p hp
 obtain⟨r,hr,hp⟩:=List.mem_flatten.1 hp
 exact(h.only hi).loc r hr p hp
theorem DK{S0:World→Prop}{ops:Array Oper}{fuel:Nat}{listed:Array Bool}{d:Nat}{v u:Value}(h:u=v)(k:WH P N ops S0 C Q fuel listed (upd σ d v)):WH P N ops S0 C Q fuel listed (upd σ d u):=by subst h; exact k
theorem bB{c:Bool}(h:c=false){p:Prop}(h':c=true):p:=by subst h; cases h'
end
end Fw
end Go.Proofs.YtgaplodcdhhefaaGreat
