/- The laws of the operations that turn nothing. No condition. -/
import Derived.Test.YtgaplodcdhhefaaGreatK3
import Derived.Laws.StructEq
import Derived.Laws.BytesString
import Derived.Laws.Shifts
namespace Go.Proofs.YtgaplodcdhhefaaGreat
namespace Fw
set_option linter.unusedVariables false
set_option linter.unusedSimpArgs false
set_option linter.unusedSectionVars false
open Go.RowKit
section
variable {P:Program} {N:FN} {C:World→Prop} {Q:Exit→Env→World→Prop} {σ:Env} {o:Oper} {ops:Array Oper} {rest:List Oper}
theorem b4{x:Operand}{v:Value}(ho:o.op = .move x)(hv:ev σ x=v):QV P C σ o v:=λw _=>by simp [execOp,ho,hv,E4]
theorem ij{x:Operand}{v:Value}(ho:o.op = .assign x)(hv:ev σ x=v):QV P C σ o v:=λw _=>by simp [execOp,ho,hv,E4]
theorem eV{c a b:Operand}{g:Bool}{v:Value}(ho:o.op = .pick c a b)(hc:ev σ c = .bool g)(hv:(bif g then ev σ a else ev σ b)=v):QV P C σ o v:=
 λw _=>by
  subst hv
  simp only [execOp,ho,hc,asBool,E3,E4,Result.andThen_ok]
  cases g <;> rfl
theorem D9{x:Operand}{A:Option Addr}(ho:o.op = .nilCheck x)(hv:ev σ x = .pointer A)(hs:A.isSome=true):QV P C σ o (.pointer A):=
 λw _=>by
  cases A with
  | none=>cases hs
  | some a=>simp [execOp,ho,hv,E4]
theorem AA{c a b:Operand}{v:Value}(ho:o.op = .pick c a b)(hc:ev σ c = .bool true)(ha:ev σ a=v):QV P C σ o v:=eV ho hc ha
theorem kI{c a b:Operand}{v:Value}(ho:o.op = .pick c a b)(hc:ev σ c = .bool false)(hb:ev σ b=v):QV P C σ o v:=eV ho hc hb
section ints
variable {x y:Operand} {t ty:TypeId} {k k':IntKind} {a b:Int}
theorem aw(ho:o.op = .binOp .lss t x y ty:=by exact rfl)(hx:ev σ x = .int k a:=by exact rfl)(hy:ev σ y = .int k b:=by exact rfl):QV P C σ o (.bool (decide (a<b))):=
 λw _=>by simp [execOp,ho,hx,hy,eqGuard,binOp,Op.intCmp,E4,E3]
theorem dh(ho:o.op = .binOp .leq t x y ty:=by exact rfl)(hx:ev σ x = .int k a:=by exact rfl)(hy:ev σ y = .int k b:=by exact rfl):QV P C σ o (.bool (decide (a≤b))):=
 λw _=>by simp [execOp,ho,hx,hy,eqGuard,binOp,Op.intCmp,E4,E3]
theorem bx(ho:o.op = .binOp .gtr t x y ty:=by exact rfl)(hx:ev σ x = .int k a:=by exact rfl)(hy:ev σ y = .int k b:=by exact rfl):QV P C σ o (.bool (decide (b<a))):=
 λw _=>by simp [execOp,ho,hx,hy,eqGuard,binOp,Op.intCmp,E4,E3]
theorem iA(ho:o.op = .binOp .geq t x y ty:=by exact rfl)(hx:ev σ x = .int k a:=by exact rfl)(hy:ev σ y = .int k b:=by exact rfl):QV P C σ o (.bool (decide (b≤a))):=
 λw _=>by simp [execOp,ho,hx,hy,eqGuard,binOp,Op.intCmp,E4,E3]
theorem cW(ho:o.op = .binOp .eql t x y ty:=by exact rfl)(hx:ev σ x = .int k a:=by exact rfl)(hy:ev σ y = .int k b:=by exact rfl):QV P C σ o (.bool (a==b)):=
 λw _=>by simp [execOp,ho,hx,hy,eqGuard,binOp,Op.intCmp,E4,E3]
theorem bj(ho:o.op = .binOp .neq t x y ty:=by exact rfl)(hx:ev σ x = .int k a:=by exact rfl)(hy:ev σ y = .int k b:=by exact rfl):QV P C σ o (.bool (a != b)):=
 λw _=>by simp [execOp,ho,hx,hy,eqGuard,binOp,Op.intCmp,E4,E3]
theorem bN(ho:o.op = .binOp .add t x y ty:=by exact rfl)(hx:ev σ x = .int k a:=by exact rfl)(hy:ev σ y = .int k b:=by exact rfl):QV P C σ o (.int k (wr k (a+b))):=
 λw _=>by rw [← mv]; simp [execOp,ho,hx,hy,eqGuard,binOp,Op.intArith,E4,E3]
theorem am{r:Int}(ho:o.op = .binOp .add t x y ty)(hx:ev σ x = .int k a)(hy:ev σ y = .int k b)(hr:wr k (a+b)=r):QV P C σ o (.int k r):=by subst hr; exact bN ho hx hy
theorem iK(ho:o.op = .binOp .sub t x y ty:=by exact rfl)(hx:ev σ x = .int k a:=by exact rfl)(hy:ev σ y = .int k b:=by exact rfl):QV P C σ o (.int k (wr k (a - b))):=
 λw _=>by rw [← mv]; simp [execOp,ho,hx,hy,eqGuard,binOp,Op.intArith,E4,E3]
theorem qF(ho:o.op = .binOp .mul t x y ty:=by exact rfl)(hx:ev σ x = .int k a:=by exact rfl)(hy:ev σ y = .int k b:=by exact rfl):QV P C σ o (.int k (wr k (a*b))):=
 λw _=>by rw [← mv]; simp [execOp,ho,hx,hy,eqGuard,binOp,Op.intArith,E4,E3]
theorem Dn(ho:o.op = .binOp .quo t x y ty)(hx:ev σ x = .int k a)(hy:ev σ y = .int k b)(hb:(b != 0)=true):QV P C σ o (.int k (wr k (a.tdiv b))):=
 λw _=>by
  have:b≠0:=by simpa using hb
  rw [← mv]; simp [execOp,ho,hx,hy,eqGuard,binOp,Op.intDiv,this,E4,E3]
theorem BO(ho:o.op = .binOp .rem t x y ty)(hx:ev σ x = .int k a)(hy:ev σ y = .int k b)(hb:(b != 0)=true):QV P C σ o (.int k (a.tmod b)):=
 λw _=>by
  have:b≠0:=by simpa using hb
  simp [execOp,ho,hx,hy,eqGuard,binOp,Op.intDiv,this,E4,E3]
def iand(k:IntKind)(a b:Int):Int:=wr k ((BitVec.ofInt k.bits a &&& BitVec.ofInt k.bits b).toNat:Int)
def ior(k:IntKind)(a b:Int):Int:=wr k ((BitVec.ofInt k.bits a ||| BitVec.ofInt k.bits b).toNat:Int)
def ixor(k:IntKind)(a b:Int):Int:=wr k ((BitVec.ofInt k.bits a ^^^ BitVec.ofInt k.bits b).toNat:Int)
def ishl(k:IntKind)(a b:Int):Int:=wr k (a*2 ^ min b.toNat k.bits)
def ishr(k:IntKind)(a b:Int):Int:=a / 2 ^ min b.toNat k.bits
theorem zv(ho:o.op = .binOp .and t x y ty:=by exact rfl)(hx:ev σ x = .int k a:=by exact rfl)(hy:ev σ y = .int k b:=by exact rfl):QV P C σ o (.int k (iand k a b)):=
 λw _=>by unfold iand; rw [← mv]; simp [execOp,ho,hx,hy,eqGuard,binOp,Op.intBits,E4,E3]
theorem q_or(ho:o.op = .binOp .or t x y ty:=by exact rfl)(hx:ev σ x = .int k a:=by exact rfl)(hy:ev σ y = .int k b:=by exact rfl):QV P C σ o (.int k (ior k a b)):=
 λw _=>by unfold ior; rw [← mv]; simp [execOp,ho,hx,hy,eqGuard,binOp,Op.intBits,E4,E3]
theorem uU(ho:o.op = .binOp .xor t x y ty:=by exact rfl)(hx:ev σ x = .int k a:=by exact rfl)(hy:ev σ y = .int k b:=by exact rfl):QV P C σ o (.int k (ixor k a b)):=
 λw _=>by unfold ixor; rw [← mv]; simp [execOp,ho,hx,hy,eqGuard,binOp,Op.intBits,E4,E3]
theorem BN(ho:o.op = .binOp .shl t x y ty)(hx:ev σ x = .int k a)(hy:ev σ y = .int k' b)(hb:decide (0≤b)=true):QV P C σ o (.int k (ishl k a b)):=
 λw _=>by
  have h1:=DP hb
  have h2:binOp .shl t (.int k a) (.int k' b)=Op.shift .shl k a k' b:=rfl
  have h3:eqGuard .shl t x y (.int k a) (.int k' b)=pure ():=rfl
  unfold ishl; rw [← mv]; simp [execOp,ho,hx,hy,h2,h3,shift_shl_any k k' a b h1,E4,E3]
theorem td(ho:o.op = .binOp .shr t x y ty)(hx:ev σ x = .int k a)(hy:ev σ y = .int k' b)(hb:decide (0≤b)=true):QV P C σ o (.int k (ishr k a b)):=
 λw _=>by
  have h1:=DP hb
  have h2:binOp .shr t (.int k a) (.int k' b)=Op.shift .shr k a k' b:=rfl
  have h3:eqGuard .shr t x y (.int k a) (.int k' b)=pure ():=rfl
  unfold ishr; simp [execOp,ho,hx,hy,h2,h3,shift_shr_any k k' a b h1,E4,E3]
theorem BG(ho:o.op = .unOp .neg t x:=by exact rfl)(hx:ev σ x = .int k a:=by exact rfl):QV P C σ o (.int k (wr k (0 - a))):=
 λw _=>by rw [← mv]; simp [execOp,ho,hx,Op.unary,Op.intArith,E4,E3]
def icom(k:IntKind)(a:Int):Int:=ixor k (if k.signed then -1 else k.max) a
theorem CY(ho:o.op = .unOp .xor t x)(hx:ev σ x = .int k a):QV P C σ o (.int k (icom k a)):=
 λw _=>by unfold icom ixor; rw [← mv]; simp [execOp,ho,hx,Op.unary,Op.intBits,E4,E3]
theorem gZ{s d:TypeId}{ds:TypeDesc}(hd:P.underlying d=some (.int k'))(hs:P.underlying s=some ds)(ho:o.op = .convert s d x:=by exact rfl)(hx:ev σ x = .int k a:=by exact rfl):QV P C σ o (.int k' (wr k' a)):=
 λw _=>by rw [← mv]; simp [execOp,ho,hx,convert,run_underlying hd,run_underlying hs,Conv.intToInt,E4,E3]
end ints
theorem bb{x:Operand}{t:TypeId}{g:Bool}(ho:o.op = .unOp .not t x:=by exact rfl)(hx:ev σ x = .bool g:=by exact rfl):QV P C σ o (.bool !g):=
 λw _=>by simp [execOp,ho,hx,Op.unary,E4,E3]
theorem y6{x:Operand}{i:Nat}{vs:Array Value}{v:Value}(ho:o.op = .extract x i)(hx:ev σ x = .tuple vs)(hv:vs[i]? = some v):QV P C σ o v:=
 λw _=>by simp [execOp,ho,hx,Instr.extract,hv,E4,E3]
theorem ab{x:Operand}{t e:TypeId}{A:Option Addr}{n c:Nat}(ho:o.op = .call { callee:=.builtin .len,args:=#[x],argTypes:=#[t] }:=by exact rfl)(ht:P.underlying t=some (.slice e))(hx:ev σ x = .slice A n c:=by exact rfl):
  QV P C σ o (.int .i64 n):=
 λw _=>by simp [execOp,ho,hx,resolve,invoke,builtin,Builtin.len_,run_underlying ht,goInt,E4,E3]
theorem bg{x:Operand}{t:TypeId}{s:ByteArray}(ho:o.op = .call { callee:=.builtin .len,args:=#[x],argTypes:=#[t] }:=by exact rfl)(ht:P.underlying t=some .string)(hx:ev σ x = .string s:=by exact rfl):
  QV P C σ o (.int .i64 s.size):=
 λw _=>by simp [execOp,ho,hx,resolve,invoke,builtin,Builtin.len_,run_underlying ht,goInt,E4,E3]
theorem dH{t:TypeId}{parts:Array (Nat×Operand)}{v:Value}(ho:o.op = .build t parts)(hr:∀w,(Instr.build t (parts.map λ(i,x)=>(i,ev σ x))).run P w = .ok v w):QV P C σ o v:=
 λw _=>by simp [execOp,ho,hr w,E4,E3]
def eR(A:Option Addr)(j:Nat):Value:=.pointer (A.map λa=>a.add j)
theorem rb(a:Addr)(i j:Nat):(a.add i).add j=a.add (i+j):=by
 unfold Addr.add
 by_cases hi:i=0 <;> by_cases hj:j=0 <;> simp [hi,hj,Nat.add_assoc]
theorem cx(b o i:Nat):(⟨b,o,none⟩:Addr).add i=⟨b,o+i,none⟩:=by unfold Addr.add; split <;> simp_all
theorem oK{x y:Operand}{t e:TypeId}{A:Option Addr}{n c i sz:Nat}{k:IntKind}(ho:o.op = .indexAddr t x y)(ht:P.underlying t=some (.slice e))(hsz:∀w,(sizeOf e).run P w = .ok sz w)
  (hx:ev σ x = .slice A n c) (hy:ev σ y = .int k (i:Int)) (hi:i<n) (hA:A.isSome=true):QV P C σ o (eR A (i*sz)):=
 λw _=>by
  cases A with
  | none=>cases hA
  | some a=>simp [execOp,ho,hx,hy,Instr.indexAt,asIntOf,run_underlying ht,hsz,eR,hi,E4,E3,DZ]
def aD(P:Program)(s:TypeId)(f off:Nat):Prop := ∃fs fd sz,P.underlying s=some (.struct fs)∧fs[f]? = some fd∧fd.offset=off∧∀w,(sizeOf fd.type).run P w = .ok (sz+1) w
theorem ah{x:Operand}{s:TypeId}{f off:Nat}{A:Option Addr}{j:Nat}(j':Nat)(hF:aD P s f off)(ho:o.op = .fieldAddr s x f)(hx:ev σ x=eR A j)(hA:A.isSome=true)(hj:j+off=j'):QV P C σ o (eR A j'):=
 λw _=>by
  obtain⟨fs,fd,sz,hs,hf,rfl,hz⟩:=hF
  cases A with
  | none=>cases hA
  | some a=>subst hj; simp [execOp,ho,hx,Instr.fieldAt,run_underlying hs,hf,fieldPlace,hz,eR,E4,E3,rb,Instr.sureAddr]
theorem vx{x:Operand}{s:TypeId}{f off:Nat}{g j:Nat}(j':Nat)(hF:aD P s f off)(ho:o.op = .fieldAddr s x f)(hx:ev σ x = .pointer (some ⟨g,j,none⟩))(hj:j+off=j'):QV P C σ o (.pointer (some ⟨g,j',none⟩)):=
 λw _=>by
  obtain⟨fs,fd,sz,hs,hf,rfl,hz⟩:=hF
  subst hj; simp [execOp,ho,hx,Instr.fieldAt,run_underlying hs,hf,fieldPlace,hz,E4,E3,cx,Instr.sureAddr]
section
variable {α:Type} [Inhabited α] {T:Ty α}
theorem vz{x y:Operand}{tys:Array TypeId}{k:IntKind}{a b:Int}(ho:o.op = .call { callee:=.builtin .max,args:=#[x,y],argTypes:=tys }:=by exact rfl)(hx:ev σ x = .int k a:=by exact rfl)(hy:ev σ y = .int k b:=by exact rfl):QV P C σ o (.int k (max a b)):=
 λw _=>by
  have:(if a<b then b else a)=max a b:=by omega
  simp [execOp,ho,hx,hy,resolve,invoke,builtin,Builtin.max_,Builtin.max2,this,E4,E3]
theorem BR{x y:Operand}{tys:Array TypeId}{k:IntKind}{a b:Int}(ho:o.op = .call { callee:=.builtin .min,args:=#[x,y],argTypes:=tys }:=by exact rfl)(hx:ev σ x = .int k a:=by exact rfl)(hy:ev σ y = .int k b:=by exact rfl):QV P C σ o (.int k (min a b)):=
 λw _=>by
  have:(if b<a then b else a)=min a b:=by omega
  simp [execOp,ho,hx,hy,resolve,invoke,builtin,Builtin.min_,Builtin.min2,this,E4,E3]
theorem oj{x y:Operand}{t ty:TypeId}{a b:ByteArray}(ho:o.op = .binOp .eql t x y ty:=by exact rfl)(hx:ev σ x = .string a:=by exact rfl)(hy:ev σ y = .string b:=by exact rfl):QV P C σ o (.bool (a==b)):=
 λw _=>by simp [execOp,ho,hx,hy,eqGuard,binOp,Op.stringOp,beq_toListBytes,E4,E3]
theorem vX{x y:Operand}{t ty:TypeId}{a b:ByteArray}(ho:o.op = .binOp .neq t x y ty:=by exact rfl)(hx:ev σ x = .string a:=by exact rfl)(hy:ev σ y = .string b:=by exact rfl):QV P C σ o (.bool (a != b)):=
 λw _=>by simp [execOp,ho,hx,hy,eqGuard,binOp,Op.stringOp,bne,beq_toListBytes,E4,E3]
theorem CH{x y:Operand}{t ty:TypeId}{a b:Bool}(ht:P.underlying t=some .bool)(ho:o.op = .binOp .eql t x y ty:=by exact rfl)(hx:ev σ x = .bool a:=by exact rfl)(hy:ev σ y = .bool b:=by exact rfl):QV P C σ o (.bool (a==b)):=
 λw _=>by
  have h1:eqGuard .eql t x y (.bool a) (.bool b)=pure ():=rfl
  have h2:binOp .eql t (.bool a) (.bool b)=(Op.equal t (.bool a) (.bool b) >>= λr=>pure (.bool r)):=rfl
  have h3:(Op.equal t (.bool a) (.bool b)).run P w = .ok (a==b) w:=run_equalIn_bool' w 9999 t a b ht
  simp only [execOp,ho,hx,hy,h1,h2,E3,E4,Result.andThen_ok,h3]
theorem CD{x y:Operand}{t ty:TypeId}{a b:Bool}(ht:P.underlying t=some .bool)(ho:o.op = .binOp .neq t x y ty:=by exact rfl)(hx:ev σ x = .bool a:=by exact rfl)(hy:ev σ y = .bool b:=by exact rfl):QV P C σ o (.bool (a != b)):=
 λw _=>by
  have h1:eqGuard .neq t x y (.bool a) (.bool b)=pure ():=rfl
  have h2:binOp .neq t (.bool a) (.bool b)=(Op.equal t (.bool a) (.bool b) >>= λr=>pure (.bool !r)):=rfl
  have h3:(Op.equal t (.bool a) (.bool b)).run P w = .ok (a==b) w:=run_equalIn_bool' w 9999 t a b ht
  simp only [execOp,ho,hx,hy,h1,h2,E3,E4,Result.andThen_ok,h3]
  rfl
theorem wE{x l:Operand}{t e:TypeId}{A:Option Addr}{c lo sz:Nat}{k:IntKind}{xs:List α}(ht:P.underlying t=some (.slice e))(hsz:∀w,(sizeOf e).run P w = .ok sz w)(ho:o.op = .slice t x (some l) none none)
  (hx:ev σ x = .slice A xs.length c) (hl:ev σ l = .int k (lo:Int)) (h1:lo≤xs.length):QV P C σ o (.slice (if c=lo then A else A.map (·.add (lo*sz))) (xs.drop lo).length (c - lo)):=
 λw _=>by
  simp only [execOp,ho,hx,Instr.sliceAt,Instr.slice,E3,run_underlying ht,Result.andThen_ok,Eh,Option.map_none,hl,Ej]
  have:(0:Int)≤(lo:Int)∧(lo:Int)≤(xs.length:Int):=⟨by omega,by omega⟩
  simp [Instr.sliceBounds,Instr.sliceBound,asIntOf,this,hsz,h1,E4,E3]
theorem Am{x h:Operand}{t e:TypeId}{A:Option Addr}{c hi sz:Nat}{k:IntKind}{xs:List α}(ht:P.underlying t=some (.slice e))(hsz:∀w,(sizeOf e).run P w = .ok sz w)(ho:o.op = .slice t x none (some h) none)
  (hx:ev σ x = .slice A xs.length c) (hl:ev σ h = .int k (hi:Int)) (h1:hi≤xs.length) (h2:xs.length≤c):QV P C σ o (.slice A (xs.take hi).length c):=
 λw _=>by
  have e0:(if c=0 then A else A.map (·.add 0))=A:=by
   split
   ·rfl
   ·cases A <;> simp [Addr.add]
  have e1:min hi xs.length=hi:=by omega
  have h3:hi≤c:=by omega
  simp [execOp,ho,hx,hl,Instr.sliceAt,Instr.slice,Instr.sliceBounds,Instr.sliceBound,asIntOf,hsz,h3,e0,e1,run_underlying ht,E4,E3]
end
theorem kC{σ:Env}{a0:Operand}{v0:Value}(h0:ev σ a0=v0): #[a0].map (ev σ) = #[v0]:=by subst h0; simp
theorem dX{σ:Env}{a0 a1:Operand}{v0 v1:Value}(h0:ev σ a0=v0)(h1:ev σ a1=v1): #[a0,a1].map (ev σ) = #[v0,v1]:=by subst h0 h1; simp
theorem x9{σ:Env}{a0 a1 a2:Operand}{v0 v1 v2:Value}(h0:ev σ a0=v0)(h1:ev σ a1=v1)(h2:ev σ a2=v2): #[a0,a1,a2].map (ev σ) = #[v0,v1,v2]:=by subst h0 h1 h2; simp
theorem iy{σ:Env}{i0:Nat}{a0:Operand}{v0:Value}(h0:ev σ a0=v0): #[(i0,a0)].map (λ(i,x)=>(i,ev σ x)) = #[(i0,v0)]:=by subst h0; simp
theorem dJ{σ:Env}{i0 i1:Nat}{a0 a1:Operand}{v0 v1:Value}(h0:ev σ a0=v0)(h1:ev σ a1=v1): #[(i0,a0),(i1,a1)].map (λ(i,x)=>(i,ev σ x)) = #[(i0,v0),(i1,v1)]:=by subst h0 h1; simp
theorem so{σ:Env}{i0 i1 i2:Nat}{a0 a1 a2:Operand}{v0 v1 v2:Value}(h0:ev σ a0=v0)(h1:ev σ a1=v1)(h2:ev σ a2=v2): #[(i0,a0),(i1,a1),(i2,a2)].map (λ(i,x)=>(i,ev σ x)) = #[(i0,v0),(i1,v1),(i2,v2)]:=by subst h0 h1 h2; simp
theorem zL{σ:Env}{i0 i1 i2 i3:Nat}{a0 a1 a2 a3:Operand}{v0 v1 v2 v3:Value}(h0:ev σ a0=v0)(h1:ev σ a1=v1)(h2:ev σ a2=v2)(h3:ev σ a3=v3): #[(i0,a0),(i1,a1),(i2,a2),(i3,a3)].map (λ(i,x)=>(i,ev σ x)) = #[(i0,v0),(i1,v1),(i2,v2),(i3,v3)]:=by subst h0 h1 h2 h3; simp
theorem wj{σ:Env}{i0 i1 i2 i3 i4:Nat}{a0 a1 a2 a3 a4:Operand}{v0 v1 v2 v3 v4:Value}(h0:ev σ a0=v0)(h1:ev σ a1=v1)(h2:ev σ a2=v2)(h3:ev σ a3=v3)(h4:ev σ a4=v4): #[(i0,a0),(i1,a1),(i2,a2),(i3,a3),(i4,a4)].map (λ(i,x)=>(i,ev σ x)) = #[(i0,v0),(i1,v1),(i2,v2),(i3,v3),(i4,v4)]:=by subst h0 h1 h2 h3 h4; simp
theorem aA{t:TypeId}{parts:Array (Nat×Operand)}{ps:Array (Nat×Value)}{v:Value}(ho:o.op = .build t parts)(hp:parts.map (λ(i,x)=>(i,ev σ x))=ps)(hr:∀w,(Instr.build t ps).run P w = .ok v w):QV P C σ o v:=
 dH ho (by rw [hp]; exact hr)
theorem uS{x y:Operand}{t ty e:TypeId}{A:Option Addr}{n c m q:Nat}(ht:P.underlying t=some (.slice e))(ho:o.op = .binOp .eql t x y ty)(hx:ev σ x = .slice A n c)(hy:ev σ y = .slice none m q):QV P C σ o (.bool A.isNone):=
 λw _=>by
  have h1:eqGuard .eql t x y (.slice A n c) (.slice none m q)=pure ():=rfl
  have h2:binOp .eql t (.slice A n c) (.slice none m q)=(Op.equal t (.slice A n c) (.slice none m q) >>= λr=>pure (.bool r)):=rfl
  have h4:∀d,(Op.equalIn (d+1) t (.slice A n c) (.slice none m q)).run P w = .ok A.isNone w:=by
   intro d
   simp only [Op.equalIn,E3,run_underlying ht,Result.andThen_ok]
   cases A <;> rfl
  have h3:(Op.equal t (.slice A n c) (.slice none m q)).run P w = .ok A.isNone w:=h4 9999
  simp only [execOp,ho,hx,hy,h1,h2,E3,E4,Result.andThen_ok,h3]
theorem nw{x y:Operand}{t ty e:TypeId}{a:Option Addr}(ht:P.underlying t=some (.pointer e))(ho:o.op = .binOp .eql t x y ty)(hx:ev σ x = .pointer a)(hy:ev σ y = .pointer none):QV P C σ o (.bool a.isNone):=
 λw _=>by
  have h1:eqGuard .eql t x y (.pointer a) (.pointer none)=pure ():=rfl
  have h2:binOp .eql t (.pointer a) (.pointer none)=(Op.equal t (.pointer a) (.pointer none) >>= λr=>pure (.bool r)):=rfl
  have h4:∀d,(Op.equalIn (d+1) t (.pointer a) (.pointer none)).run P w = .ok a.isNone w:=by
   intro d
   simp only [Op.equalIn,E3,run_underlying ht,Result.andThen_ok]
   cases a <;> rfl
  have h3:(Op.equal t (.pointer a) (.pointer none)).run P w = .ok a.isNone w:=h4 9999
  simp only [execOp,ho,hx,hy,h1,h2,E3,E4,Result.andThen_ok,h3]
theorem t6{x y:Operand}{t ty e:TypeId}{a:Option Addr}(ht:P.underlying t=some (.pointer e))(ho:o.op = .binOp .neq t x y ty)(hx:ev σ x = .pointer a)(hy:ev σ y = .pointer none):QV P C σ o (.bool (!a.isNone)):=
 λw _=>by
  have h1:eqGuard .neq t x y (.pointer a) (.pointer none)=pure ():=rfl
  have h2:binOp .neq t (.pointer a) (.pointer none)=(Op.equal t (.pointer a) (.pointer none) >>= λr=>pure (.bool !r)):=rfl
  have h4:∀d,(Op.equalIn (d+1) t (.pointer a) (.pointer none)).run P w = .ok a.isNone w:=by
   intro d
   simp only [Op.equalIn,E3,run_underlying ht,Result.andThen_ok]
   cases a <;> rfl
  have h3:(Op.equal t (.pointer a) (.pointer none)).run P w = .ok a.isNone w:=h4 9999
  simp only [execOp,ho,hx,hy,h1,h2,E3,E4,Result.andThen_ok,h3]
end
end Fw
end Go.Proofs.YtgaplodcdhhefaaGreat
