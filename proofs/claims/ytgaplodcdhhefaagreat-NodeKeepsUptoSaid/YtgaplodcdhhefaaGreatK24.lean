/- Parts of strings; the place of a byte in a string; the string of an array's end. No condition. -/
import Derived.Test.YtgaplodcdhhefaaGreatK14
import Derived.Laws.Externs
import Derived.Lib.Bytealg
namespace Go.Proofs.YtgaplodcdhhefaaGreat
namespace Fw
set_option linter.unusedVariables false
set_option linter.unusedSimpArgs false
set_option linter.unusedSectionVars false
open Go.RowKit
def ixbF:List UInt8→UInt8→Nat→Int
 | [],_,_ => -1
 | b::l,c,n=>bif b==c then (n:Int) else ixbF l c (n+1)
def ixb(s:ByteArray)(c:Int):Int:=ixbF s.data.toList c.toNat.toUInt8 0
theorem xt(c:UInt8):∀(l:List UInt8) (n:Nat),ixbF l c n=if Lib.indexByte l c == -1 then -1 else Lib.indexByte l c+n
 | [],n=>rfl
 | b::l,n=>by
  unfold ixbF Lib.indexByte
  by_cases h:(b==c)=true
  ·simp [h]
  ·have h0:(b==c)=false:=by simpa using h
   rw [h0,xt c l (n+1)]
   simp only [cond_false,Ed,if_false]
   by_cases h2:(Lib.indexByte l c == -1)=true
   ·simp [h2]
   ·have h3:0≤Lib.indexByte l c:=by
     have key:∀l:List UInt8,Lib.indexByte l c = -1∨0≤Lib.indexByte l c:=by
      intro l
      induction l with
      | nil=>exact .inl rfl
      | cons b l ih=>
       unfold Lib.indexByte
       split
       ·exact .inr (by decide)
       ·split
        ·exact .inl rfl
        ·rename_i hne; rcases ih with ih | ih
         ·rw [ih] at hne; simp at hne
         ·exact .inr (by omega)
     rcases key l with h4 | h4
     ·rw [h4] at h2; simp at h2
     ·exact h4
    have h4:(Lib.indexByte l c == -1)=false:=by simpa using h2
    have h5:(Lib.indexByte l c+1 == -1)=false:=by simp; omega
    rw [h4]
    simp only [Ed,if_false,h5]
    push_cast; omega
theorem C3(s:ByteArray)(c:Int):ixb s c=Lib.indexByte s.data.toList c.toNat.toUInt8:=by
 unfold ixb
 rw [xt]
 split
 ·rename_i h; exact(by simpa using h:Lib.indexByte _ _ = -1).symm
 ·simp
section
variable {P:Program} {σ:Env} {o:Oper} {C:World→Prop}
theorem Da{f:FuncId}{fn:Func}{ops':Array Operand}{tys:Array TypeId}{s:ByteArray}{c:Int}(hf:P.funcs[f]? = some fn)(hname:(fn.name == "runtime.NumGoroutine")=false)(hb:fn.body.isNone=true)(hn:Extern.findNext fn=none)
  (he:Extern.find fn=some Extern.BytealgIndexByte.indexByte) (ho:o.op = .call { callee:=.value (.func f),args:=ops',argTypes:=tys }) (ha:ops'.map (ev σ) = #[.string s,.int .u8 c]):QV P C σ o (.int .i64 (ixb s c)):=by
 intro w _
 have h0:ev σ (.func f) = .func (.func f) #[] #[]:=rfl
 have h1:=run_callFunc_extern (P:=P) hf hname hb hn he #[.string s,.int .u8 c] w
 rw [Lib.run_indexByteString] at h1
 simp only [Result.andThen] at h1
 simp [execOp,ho,resolve,h0,Deferred.ofValue,ha,invoke,h1,C3,E4,E3]
theorem th{t:TypeId}{x l:Operand}{s:ByteArray}{lo:Nat}{k:IntKind}(ht:P.underlying t=some .string)(ho:o.op = .slice t x (some l) none none)(hx:ev σ x = .string s)(hl:ev σ l = .int k (lo:Int))(h1:lo≤s.size):QV P C σ o (.string (s.extract lo s.size)):=by
 intro w _
 have h2:(0:Int)≤(lo:Int)∧(lo:Int)≤(s.size:Int):=⟨by omega,by omega⟩
 simp [execOp,ho,hx,hl,Instr.sliceAt,run_underlying ht,Instr.slice,Instr.sliceBounds,Instr.sliceBound,asIntOf,h2,h1,E4,E3]
theorem tC{t:TypeId}{x h:Operand}{s:ByteArray}{hi:Nat}{k:IntKind}(ht:P.underlying t=some .string)(ho:o.op = .slice t x none (some h) none)(hx:ev σ x = .string s)(hl:ev σ h = .int k (hi:Int))(h1:hi≤s.size):QV P C σ o (.string (s.extract 0 hi)):=by
 intro w _
 have h2:(0:Int)≤(hi:Int)∧(hi:Int)≤(s.size:Int):=⟨by omega,by omega⟩
 simp [execOp,ho,hx,hl,Instr.sliceAt,run_underlying ht,Instr.slice,Instr.sliceBounds,Instr.sliceBound,asIntOf,h2,h1,E4,E3]
end
section
variable {P:Program} {F:Fm} {Γ:Gh} {L:List Rowb} {σ:Env} {o:Oper}
theorem tX{x l:Operand}{t e2:TypeId}{g n sz lo:Nat}{k:IntKind}{α:Type}{xs:List α}{C:World→Prop}(ht:P.underlying t=some (.array n e2))(hsz:∀w,(sizeOf e2).run P w = .ok sz w)(ho:o.op = .slice t x (some l) none none)(hx:ev σ x = .pointer (some ⟨g,0,none⟩))
  (hl:ev σ l = .int k (lo:Int)) (hn:xs.length=n) (h1:lo≤n):QV P C σ o (.slice (if n=lo then (some ⟨g,0,none⟩:Option Addr) else Option.map (λa:Addr=>a.add (lo*sz)) (some ⟨g,0,none⟩)) (List.drop lo xs).length (n - lo)):=
 λw _=>by
  have h2:(0:Int)≤(lo:Int)∧(lo:Int)≤(n:Int):=⟨by omega,by omega⟩
  have h3:(List.drop lo xs).length=n - lo:=by simp [hn]
  rw [h3]
  simp [execOp,ho,hx,hl,Instr.sliceAt,Instr.sureAddr,run_underlying ht,Instr.sliceBounds,Instr.sliceBound,asIntOf,h2,h1,hsz,cx,E4,E3]
  split <;> rfl
theorem AK{src dst e e2:TypeId}{x:Operand}{xs:List UInt8}{A:Option Addr}{c i lo n:Nat}{row:Rowb}(hi:L[i]? = some row)(h:Own au Γ e2 row A n xs)(hs:P.underlying src=some (.slice e))(he:P.underlying e=some (.int .u8))(hd0:P.underlying dst=some .string)
  (ho:o.op = .convert src dst x) (hx:ev σ x = .slice (if c=lo then A else Option.map (λa:Addr=>a.add (lo*1)) A) (List.drop lo xs).length (c - lo)) (hc:xs.length≤c):QV P (CC F Γ L) σ o (.string ⟨(List.drop lo xs).toArray⟩):=λw hw=>by
 have:=uI (P:=P) (w:=w) (src:=src) (dst:=dst) (e:=e) (xs:=List.drop lo xs) (A:=if c=lo then A else Option.map (λa:Addr=>a.add (lo*1)) A) (c:=c - lo) hs he hd0 λk hk=>by
  have hk2:lo+k<xs.length:=by simp at hk; omega
  obtain⟨_,g,arr,e3,h1,h2,h3⟩:=h.byteT_at hk2
  subst h1
  have h5:=h3 0 _ rfl
  have hcl:¬ c=lo:=by omega
  rw [if_neg hcl]
  refine⟨g,lo,by simp [Addr.add]; intro h0; omega,?_⟩
  have hl:=hw.loc row (List.mem_of_getElem? hi) (g,.cells arr e3 (0,0)) (by rw [h2]; exact List.mem_singleton.2 rfl)
  rw [cell_of_row w g (lo+k) arr e3 (0,0) hl]
  have e5:gt (List.drop lo xs) k=gt xs (lo+k):=by rw [bA hk,bA hk2]; simp
  rw [e5]
  simpa using h5
 simp only [execOp,ho,hx,E3,this,Result.andThen_ok,E4]
end
end Fw
end Go.Proofs.YtgaplodcdhhefaaGreat
