/- Small laws that printed walks ask for. No condition. -/
import Derived.Test.YtgaplodcdhhefaaGreatK7
namespace Go.Proofs.YtgaplodcdhhefaaGreat
namespace Fw
set_option linter.unusedVariables false
set_option linter.unusedSimpArgs false
set_option linter.unusedSectionVars false
open Go.RowKit
theorem ax{i n:Nat}(h:i<n)(hn:n≤lim):wr .i64 ((i:Int)+1)=((i+1:Nat):Int):=by rw [aK] at hn; show w64 _=_; rw [bO (by unfold I64; omega)]; omega
theorem ui{i n:Nat}(h:i<n)(hn:n≤4611686018427387904):wr .i64 ((i:Int)+1)=((i+1:Nat):Int):=by show w64 _=_; rw [bO (by unfold I64; omega)]; omega
theorem pi{i:Nat}{e:Int}(h:i<e.toNat)(he:I64 e):wr .i64 ((i:Int)+1)=((i+1:Nat):Int):=by unfold I64 at he; show w64 _=_; rw [bO (by unfold I64; omega)]; omega
theorem ltq{a b c:Nat}(h:a<b)(he:b=c):a<c:=he▸h
def inle(x:Int)(n:Nat):Bool:=decide (0≤x)&&decide (x≤(n:Int))
theorem ey{x:Int}{n:Nat}(h:inle x n=true):x.toNat≤n:=by
 have h1:=DP (bV h); have h2:=DP (de h); omega
theorem kz{v:Value}{k:IntKind}{x:Int}{n:Nat}(hv:v = .int k x)(h:inle x n=true):v = .int k (x.toNat:Int):=by
 have h1:=DP (bV h); rw [hv,Int.toNat_of_nonneg h1]
theorem yt{v:Value}{k:IntKind}{x:Int}(hv:v = .int k x)(h:decide (0≤x)=true):v = .int k (x.toNat:Int):=by rw [hv,Int.toNat_of_nonneg (DP h)]
theorem zr{α:Type}{xs:List α}{c:Nat}(h:xs.length≤c)(i:Nat):(xs.take i).length≤c:=by rw [Ei]; omega
theorem oE{α:Type}{xs:List α}{c:Nat}(h:xs.length≤c)(i j:Nat):((xs.take j).drop i).length≤c - i:=by rw [Ej,Ei]; omega
section
variable {P:Program} {N:FN} {C:World→Prop} {Q:Exit→Env→World→Prop} {σ:Env} {o:Oper} {F:Fm} {Γ Δ:Gh} {L:List Rowb} {α:Type} [Inhabited α] {T:Ty α}
theorem WC.ctk{c:Operand}{x y:Code}{b:Bool}(hc:ev σ c = .bool b)(hb:b=true)(h:WC P N C x Q σ):WC P N C (.cond c x y) Q σ:=by subst hb; exact WC.ct hc h
theorem WC.cfk{c:Operand}{x y:Code}{b:Bool}(hc:ev σ c = .bool b)(hb:b=false)(h:WC P N C y Q σ):WC P N C (.cond c x y) Q σ:=by subst hb; exact WC.cf hc h
theorem vp{x l h:Operand}{t e:TypeId}{A:Option Addr}{c lo hi sz:Nat}{k k':IntKind}{xs:List α}(ht:P.underlying t=some (.slice e))(hsz:∀w,(sizeOf e).run P w = .ok sz w)(ho:o.op = .slice t x (some l) (some h) none)
  (hx:ev σ x = .slice A xs.length c) (hl:ev σ l = .int k (lo:Int)) (hh:ev σ h = .int k' (hi:Int)) (h1:lo≤hi) (h2:hi≤xs.length) (h3:xs.length≤c) :
  QV P C σ o (.slice (if c=lo then A else A.map (·.add (lo*sz))) ((xs.take hi).drop lo).length (c - lo)):=
 λw _=>by
  have h4:hi≤c:=by omega
  have h5:lo≤c:=by omega
  have e1:min hi xs.length=hi:=by omega
  simp [execOp,ho,hx,hl,hh,Instr.sliceAt,Instr.slice,Instr.sliceBounds,Instr.sliceBound,asIntOf,hsz,h1,h4,h5,e1,run_underlying ht,E4,E3]
theorem yO(j':Nat){x y:Operand}{t e:TypeId}{g j n sz i:Nat}{k:IntKind}(ht:P.underlying t=some (.array n e))(hsz:∀w,(sizeOf e).run P w = .ok sz w)(ho:o.op = .indexAddr t x y)
  (hx:ev σ x = .pointer (some ⟨g,j,none⟩)) (hy:ev σ y = .int k (i:Int)) (hi:Nat.blt i n=true) (hj:j+i*sz=j'):QV P C σ o (.pointer (some ⟨g,j',none⟩)):=
 λw _=>by
  have hi':i<n:=by simpa [Nat.blt_eq] using hi
  subst hj
  simp [execOp,ho,hx,hy,Instr.indexAt,Instr.sureAddr,asIntOf,run_underlying ht,hsz,hi',cx,E4,E3]
theorem bQ{f:FuncId}{first caps:Array Operand}{v:Value}(ho:o.op = .makeFunc (.func f) first caps)(hv:Value.func (.func f) (first.map (ev σ)) (caps.map (ev σ))=v):QV P C σ o v:=
 λw _=>by simp [execOp,ho,Instr.makeFunc,hv,E4,E3]
theorem Br{s:ByteArray}{i:Nat}(h:i<s.size):s[i]? = some (gt s.data.toList i):=by
 have h':i<s.data.toList.length:=by simpa using h
 rw [bA h',getElem?_pos s i h]; simp [ByteArray.getElem_eq_getElem_data]
theorem yV{x y:Operand}{t:TypeId}{s:ByteArray}{i:Nat}{k:IntKind}(ht:P.underlying t=some .string)(ho:o.op = .index t x y)(hx:ev σ x = .string s)(hy:ev σ y = .int k (i:Int))(hi:i<s.size):
  QV P C σ o (.int .u8 (((gt s.data.toList i).toNat:Nat):Int)):=
 λw _=>by
  simp [execOp,ho,hx,hy,Instr.index,asIntOf,run_underlying ht,Br hi,E4,E3]
theorem zp{g:Nat}{e:TypeId}{cs:Array Value}(n:Nat)(zt:List Value)(zx:α)(hcs:cs.toList=(List.replicate n zt).flatten)(hrd:T.rd Γ zt zx)(hle:n≤lim):
  Own T Γ e [(g,.cells cs e (0,0))] (some ⟨g,0,none⟩) n (List.replicate n zx):=by
 have:=Own.of_block (T:=T) (Γ:=Γ) (e:=e) (g:=g) (cs:=cs) (ys:=List.replicate n zx) (List.replicate n zt) hcs (by simp) (by simpa using hle) (λi h=>by
  have hi':i<n:=by simpa using h
  have:gt (List.replicate n zx) i=zx:=by rw [bA (by simpa using hi')]; simp
  rw [this]; simpa using hrd)
 simpa using this
theorem pu{A2:Option Addr}{c2:Nat}{ys:List α}{e2:TypeId}{row2:Rowb}{i:Nat}(hi:L[i]? = some row2)(h:Own T Γ e2 row2 A2 c2 ys){w:World}(hw:Cur F Γ L w):
  (A2=none∧ys = [])∨∃a2,A2=some a2∧∃css:List (List Value),css.length=ys.length∧(∀k (h1:k<css.length),T.rd Γ css[k] (gt ys k))∧∀j u,css.flatten[j]? = some u→w.cell? (a2.add j)=some u:=by
 rcases h.is with ⟨h1,h2,_⟩ | ⟨g,cur,css,rfl,rfl,h3,h4,h5,h6,h7,h8⟩
 ·exact .inl ⟨h1,h2⟩
 ·refine .inr ⟨_,rfl,css,h6,h8,λj u hu=>?_⟩
  have hall:∀cs∈css,cs.length=T.n:=by
   intro cs hcs
   obtain⟨q,hq,rfl⟩:=List.getElem_of_mem hcs
   exact T.len (h8 q hq)
  have hj:j<ys.length*T.n:=by
   have:=(List.getElem?_eq_some_iff.1 hu).1
   rwa [da T.n _ hall,h6] at this
  rw [cx,Nat.zero_add,hw.cell hi, ← Array.getElem?_toList]
  rw [← h7,List.getElem?_take,if_pos hj] at hu
  exact hu
end
end Fw
end Go.Proofs.YtgaplodcdhhefaaGreat
