/- The plain law RingParts: the program's hash is the document's. No condition. -/
import Derived.Test.YtckindfllegbgaaGreatPJ2
namespace Go.Proofs.YtckindfllegbgaaGreat
namespace Fw
set_option linter.unusedVariables false
set_option linter.unusedSimpArgs false
set_option linter.unusedSectionVars false
def hashStep(h:Int)(x:UInt8):Int:=wu64 ((ixor .u64 h (wu64 (x.toNat:Int)))*1099511628211)
def hashFold(b:List UInt8):Int:=b.foldl hashStep 14695981039346656037
def hashEnd(h:Int):Int:=ixor .u64 (wu64 ((ixor .u64 h (ishr .u64 h 33))*18397679294719823053)) (ishr .u64 (wu64 ((ixor .u64 h (ishr .u64 h 33))*18397679294719823053)) 33)
def hashB(b:List UInt8):Int:=hashEnd (hashFold b)
theorem wu64_rng(x:Int):0≤wu64 x∧wu64 x<18446744073709551616:=by unfold wu64; omega
theorem shr_div{h:Int}(h0:0≤h)(h1:h<18446744073709551616):wu64 (h.tdiv 8589934592)=ishr .u64 h 33:=by
 have e:h.tdiv 8589934592=h / 8589934592:=Int.tdiv_eq_ediv_of_nonneg h0
 rw [e]
 unfold wu64 ishr
 show h / 8589934592 % 18446744073709551616=h / 2 ^ (min (33:Int).toNat IntKind.u64.bits)
 rw [show (2:Int) ^ (min (33:Int).toNat IntKind.u64.bits)=8589934592 from by decide]
 omega
theorem e_Hash(b:List UInt8):m_num_Hash b=some (hashB b):=by
 unfold m_num_Hash hashB hashFold
 refine forI_inv (λi h=>some (hashEnd ((b.drop i).foldl hashStep h))) (λ_ _=>True) (λs _=>?_) (λf i s hi _ hf=>?_) trivial
 ·rw [List.drop_of_length_le (Nat.le_refl _)]; rfl
 ·unfold m_num_Hash_b1
  rw [hf _ trivial,drop_gt hi]; rfl
theorem rEnd{h:Int}(h0:0≤h)(h1:h<18446744073709551616):ixor .u64 (wu64 ((ixor .u64 h (wu64 (h.tdiv 8589934592)))*18397679294719823053)) (wu64 ((wu64 ((ixor .u64 h (wu64 (h.tdiv 8589934592)))*18397679294719823053)).tdiv 8589934592))=hashEnd h:=by
 rw [shr_div h0 h1,shr_div (wu64_rng _).1 (wu64_rng _).2]
 unfold hashEnd
 exact Eq.refl _
theorem init_rng:(0:Int)≤14695981039346656037∧(14695981039346656037:Int)<18446744073709551616:=by omega
theorem rStep(f:Int→Option Int)(i:Nat)(x:UInt8)(h:Int):m_firthref01_Hash_b1 f i x h=f (hashStep h x):=by
 unfold m_firthref01_Hash_b1 hashStep
 exact Eq.refl _
theorem e_rLoop{k:Int→Option Int}(hk:∀h,0≤h∧h<18446744073709551616→k h=some (hashEnd h)):∀(b:List UInt8) (i:Nat) (h:Int),0≤h∧h<18446744073709551616→forI m_firthref01_Hash_b1 k i b h=some (hashEnd (b.foldl hashStep h))
 | [],i,h,hh=>by rw [forI,hk h hh,List.foldl_nil]
 | x::b,i,h,hh=>by
  rw [forI,rStep,List.foldl_cons]
  exact e_rLoop hk b (i+1) _ (wu64_rng _)
theorem e_rHash(b:List UInt8):m_firthref01_Hash b=some (hashB b):=by
 unfold m_firthref01_Hash hashB hashFold
 exact e_rLoop (λh hh=>congrArg some (rEnd hh.1 hh.2)) b 0 _ init_rng
theorem e_Part(key:ByteArray):m_ring_Part key=some (w64 ((hashB key.data.toList).tmod 8)):=by
 unfold m_ring_Part; rw [e_Hash]; exact Eq.refl _
theorem e_rPart(key:ByteArray):m_firthref12_Part key=some (w64 ((hashB key.data.toList).tmod 8)):=by
 unfold m_firthref12_Part; rw [e_rHash]; exact Eq.refl _
end Fw
end Go.Proofs.YtckindfllegbgaaGreat
