/- The plain law RingParts: the program's hash is the document's. No condition. -/
import Derived.Test.YtgaplodcdhhefaaGreatPJ1
namespace Go.Proofs.YtgaplodcdhhefaaGreat
namespace Fw
set_option linter.unusedVariables false
set_option linter.unusedSimpArgs false
set_option linter.unusedSectionVars false
def vI(h:Int)(x:UInt8):Int:=wu64 ((ixor .u64 h (wu64 (x.toNat:Int)))*1099511628211)
def uy(b:List UInt8):Int:=b.foldl vI 14695981039346656037
def xE(h:Int):Int:=ixor .u64 (wu64 ((ixor .u64 h (ishr .u64 h 33))*18397679294719823053)) (ishr .u64 (wu64 ((ixor .u64 h (ishr .u64 h 33))*18397679294719823053)) 33)
def yD(b:List UInt8):Int:=xE (uy b)
theorem Ck(b:List UInt8):lr b=some (yD b):=by
 unfold lr yD uy
 refine eO (λi h=>some (xE ((b.drop i).foldl vI h))) (λ_ _=>True) (λs _=>?_) (λf i s hi _ hf=>?_) trivial
 ·rw [E1 (E6 _)]; rfl
 ·unfold nS
  rw [hf _ trivial,bo hi]; rfl
theorem C5(key:ByteArray):fS key=some (w64 ((yD key.data.toList).tmod 8)):=by
 unfold fS; rw [Ck]; exact Eq.refl _
end Fw
end Go.Proofs.YtgaplodcdhhefaaGreat
