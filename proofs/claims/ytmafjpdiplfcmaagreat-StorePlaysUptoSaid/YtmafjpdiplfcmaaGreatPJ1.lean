/- The plain side: what the models come to. No condition. -/
import Derived.Test.YtmafjpdiplfcmaaGreatM
import Derived.Test.YtmafjpdiplfcmaaGreatA1
namespace Go.Proofs.YtmafjpdiplfcmaaGreat
namespace Fw
set_option linter.unusedVariables false
set_option linter.unusedSimpArgs false
set_option linter.unusedSectionVars false
section
variable {α S R:Type} [Inhabited α]
theorem fQ{body:(S→Option R)→Nat→α→S→Option R}{k:S→Option R}{l:List α}(T:Nat→S→Option R)(I:Nat→S→Prop)(hend:∀s,I l.length s→k s=T l.length s)
  (hstep:∀f i s,i<l.length→I i s→(∀s',I (i+1) s'→f s'=T (i+1) s')→body f i (gt l i) s=T i s) {s:S} (h0:I 0 s):forI body k 0 l s=T 0 s:=by
 have key:∀m i s,l.length - i=m→i≤l.length→I i s→forI body k i (l.drop i) s=T i s:=by
  intro m
  induction m with
  | zero=>
   intro i s hm hi hI
   have:i=l.length:=by omega
   subst this
   rw [IB (IG _)]
   exact hend s hI
  | succ m ih=>
   intro i s hm hi hI
   rw [cj (by omega)]
   exact hstep _ i s (by omega) hI λs' h'=>ih (i+1) s' (by omega) (by omega) h'
 exact key _ 0 s rfl (IH _) h0
theorem oI{body:(S→Option R)→Nat→α→S→Option R}{k:S→Option R}{l:List α}{r:Option R}(I:Nat→S→Prop)
  (hend:∀s,I l.length s→k s=r) (hstep:∀f i s,i<l.length→I i s→(∀s',I (i+1) s'→f s'=r)→body f i (gt l i) s=r) {s:S} (h0:I 0 s):forI body k 0 l s=r:=
 fQ (λ_ _=>r) I hend hstep h0
end
theorem dX{R:Type}[Inhabited R](g:Bool)(v:R):gT g (some v)=some (bif g then v else default):=by cases g <;> rfl
theorem aw{R:Type}{c:Bool}{k:Option R}(h:c=true):chk c k=k:=by rw [h]; rfl
theorem az{R:Type}{c:Bool}{x y:R}(h:c=true):(bif c then x else y)=x:=by rw [h]; rfl
theorem ar{R:Type}{c:Bool}{x y:R}(h:c=false):(bif c then x else y)=y:=by rw [h]; rfl
instance:LawfulBEq ByteArray where
 eq_of_beq {a b} h:=by rw [rn] at h; exact Ip h
 rfl {a}:=by rw [rn]; exact IF rfl
section
variable {κ α:Type} [DecidableEq κ] {x y:κ} {v:α} {es:List (κ×α)}
def NK(es:List (κ×α)):Prop:=(es.map (·.1)).Nodup
theorem NK.nil:NK ([]:List (κ×α)):=by simp [NK]
theorem NK.cons{p:κ×α}:NK (p::es)↔(∀q∈es,q.1≠p.1)∧NK es:=by
 unfold NK
 rw [IA,List.nodup_cons]
 refine⟨λh=>⟨λq hq e=>h.1 (by rw [← e]; exact List.mem_map.2 ⟨q,hq,rfl⟩),h.2⟩,λh=>⟨λhm=>?_,h.2⟩⟩
 obtain⟨q,hq,e⟩:=List.mem_map.1 hm
 exact h.1 q hq e
theorem vu:∀{es:List (κ×α)},mget x es=some v→(x,v)∈es
 | [],h=>by cases h
 | p::es,h=>by
  unfold mget at h
  split at h
  ·rename_i e; injection h with h; rw [e, ← h]; exact It
  ·exact Iu _ (vu h)
theorem tG:∀{es:List (κ×α)},NK es→(x,v)∈es→mget x es=some v
 | p::es,hn,h=>by
  rw [NK.cons] at hn
  unfold mget
  rcases List.mem_cons.1 h with e | h
  ·rw [← e]; simp
  ·rw [if_neg (hn.1 _ h)]; exact tG hn.2 h
theorem dD:(mget x es).isSome=true↔x∈es.map (·.1):=by
 induction es with
 | nil=>simp [mget]
 | cons p es ih=>
  unfold mget
  split
  ·rename_i h; simp [h]
  ·rename_i h; rw [ih]; simp [h]
theorem xP{p:κ×α}:∀{es:List (κ×α)},p∈mput x v es→p=(x,v)∨p∈es
 | [],h=>by simp only [mput,List.mem_singleton] at h; exact .inl h
 | q::es,h=>by
  unfold mput at h
  split at h
  ·rcases List.mem_cons.1 h with h | h
   ·exact .inl h
   ·exact .inr (Iu _ h)
  ·rcases List.mem_cons.1 h with h | h
   ·exact .inr (h▸It)
   ·exact(xP h).imp id (Iu _)
theorem xS{p:κ×α}:∀{es:List (κ×α)},p∈mdel x es→p∈es
 | [],h=>by cases h
 | q::es,h=>by
  unfold mdel at h
  split at h
  ·exact Iu _ h
  ·rcases List.mem_cons.1 h with h | h
   ·exact h▸It
   ·exact Iu _ (xS h)
theorem NK.put:∀{es:List (κ×α)},NK es→NK (mput x v es)
 | [],_=>by simp [NK,mput]
 | p::es,h=>by
  rw [NK.cons] at h
  unfold mput
  split
  ·rename_i e; rw [NK.cons]; exact⟨λq hq=>by rw [e]; exact h.1 q hq,h.2⟩
  ·rename_i e
   rw [NK.cons]
   refine⟨λq hq=>?_,h.2.put⟩
   rcases xP hq with rfl | hq
   ·exact e
   ·exact h.1 q hq
theorem NK.del:∀{es:List (κ×α)},NK es→NK (mdel x es)
 | [],_=>by simp [NK,mdel]
 | p::es,h=>by
  rw [NK.cons] at h
  unfold mdel
  split
  ·exact h.2
  ·rw [NK.cons]; exact⟨λq hq=>h.1 q (xS hq),h.2.del⟩
theorem Bk(h:∀q∈es,q.1≠x):mget x es=none:=by
 induction es with
 | nil=>rfl
 | cons p es ih=>
  unfold mget
  rw [if_neg (λe=>h p It e.symm)]
  exact ih λq hq=>h q (Iu _ hq)
theorem fC:∀{es:List (κ×α)},NK es→mget y (mdel x es)=if y=x then none else mget y es
 | [],_=>by simp [mget,mdel]
 | p::es,h=>by
  rw [NK.cons] at h
  unfold mdel
  split
  ·rename_i e
   by_cases hy:y=x
   ·rw [if_pos hy,hy,e]; exact Bk h.1
   ·rw [if_neg hy,mget,if_neg (λe2=>hy (e2.trans e.symm))]
  ·rename_i e
   rw [mget,fC h.2]
   by_cases hy:y=p.1
   ·rw [if_pos hy,if_neg (λe2=>e (e2.symm.trans hy)),mget,if_pos hy]
   ·rw [if_neg hy,mget,if_neg hy]
theorem t8:∀{es:List (κ×α)},(mput x v es).length≤es.length+1
 | []=>by simp [mput]
 | p::es=>by
  unfold mput
  split
  ·simp
  ·have:=t8 (es:=es); simp only [Iy]; omega
theorem yT(h:(mget x es).isSome=true):(mput x v es).length=es.length:=by
 induction es with
 | nil=>cases h
 | cons p es ih=>
  unfold mget at h
  unfold mput
  split at h
  ·rename_i e; rw [if_pos e]; rfl
  ·rename_i e; rw [if_neg e]; simp [ih h]
theorem wJ:∀{es:List (κ×α)},(mdel x es).length≤es.length
 | []=>by simp [mdel]
 | p::es=>by
  unfold mdel
  split
  ·simp
  ·have:=wJ (es:=es); simp only [Iy]; omega
theorem yk(h:(mget x es).isSome=true):(mdel x es).length+1=es.length:=by
 induction es with
 | nil=>cases h
 | cons p es ih=>
  unfold mget at h
  unfold mdel
  split at h
  ·rename_i e; rw [if_pos e]; rfl
  ·rename_i e; rw [if_neg e]; simp [ih h]
end
def sz(es:List (ByteArray×List UInt8)):Nat:=(es.map (λp=>p.2.length)).sum
section
variable {x:ByteArray} {v:List UInt8} {es:List (ByteArray×List UInt8)}
theorem Ej:sz (mput x v es)+((mget x es).getD []).length=sz es+v.length:=by
 induction es with
 | nil=>simp [sz,mput,mget]
 | cons p es ih=>
  unfold mput mget
  split
  ·simp [sz]; omega
  ·simp only [sz,IA,List.sum_cons] at ih ⊢; omega
theorem AL:sz (mdel x es)+((mget x es).getD []).length=sz es:=by
 induction es with
 | nil=>simp [sz,mdel,mget]
 | cons p es ih=>
  unfold mdel mget
  split
  ·simp [sz]; omega
  ·simp only [sz,IA,List.sum_cons] at ih ⊢; omega
theorem wg:((mget x es).getD []).length≤sz es:=by have:=AL (x:=x) (es:=es); omega
end
theorem j7{a b:ByteArray}(h:a.data.toList=b.data.toList):a=b:=by
 rcases a with ⟨⟨a⟩⟩
 rcases b with ⟨⟨b⟩⟩
 simp only at h
 rw [h]
theorem lh{β:Type}{es:List (ByteArray×β)}{k:ByteArray}:k∈dg es↔k∈es.map (·.1):=by
 rw [pb]
 simp only [List.mem_map,List.mem_mergeSort]
 constructor
 ·rintro⟨l,⟨p,hp,rfl⟩,rfl⟩; exact⟨p,hp,j7 (by simp)⟩
 ·rintro⟨p,hp,rfl⟩; exact⟨_,⟨p,hp,rfl⟩,j7 (by simp)⟩
theorem za{β:Type}{es:List (ByteArray×β)}(hn:NK es):(dg es).Nodup:=by
 rw [pb]
 refine List.Pairwise.map _ (R:=λa b=>a≠b) (λa b h e=>h ?_) ?_
 ·have:=congrArg (λx:ByteArray=>x.data.toList) e
  simpa using this
 ·have:(es.map (λp=>p.1.data.toList)).Nodup:=by
   rw [show (λp:ByteArray×β=>p.1.data.toList)=((λb:ByteArray=>b.data.toList)∘(·.1)) from rfl, ← IQ]
   exact List.Pairwise.map _ (λa b h e=>h (j7 e)) hn
  exact(List.mergeSort_perm _ _).nodup_iff.2 this
theorem br{S R:Type}{b:(S→Option R)→S→Option R}{n:Nat}{s:S}:loopN b (n+1) s=b (loopN b n) s:=rfl
def pn(n:Nat):List UInt8:=if n<128 then [UInt8.ofNat n] else UInt8.ofNat (n % 128+128)::pn (n / 128)
 decreasing_by omega
theorem u7{n:Nat}(h:n<128):pn n = [UInt8.ofNat n]:=by unfold pn; rw [if_pos h]
theorem yc{n:Nat}(h:¬ n<128):pn n=UInt8.ofNat (n % 128+128)::pn (n / 128):=by rw [pn,if_neg h]
theorem wT:∀(k n:Nat),n<128 ^ (k+1)→(pn n).length≤k+1:=by
 intro k
 induction k with
 | zero=>intro n h; rw [u7 (by omega)]; simp
 | succ k ih=>
  intro n h
  by_cases h1:n<128
  ·rw [u7 h1]; simp
  ·rw [yc h1]
   have:=ih (n / 128) (by rw [Nat.pow_succ] at h; omega)
   simp; omega
theorem wO(n:Nat):0<(pn n).length:=by
 by_cases h1:n<128
 ·rw [u7 h1]; simp
 ·rw [yc h1]; simp
theorem ior8:∀k:Fin 256,ior .u8 (k.val:Int) 128=(k.val % 128+128:Nat):=by decide +kernel
theorem HM:∀k:Fin 256,iand .u8 (k.val:Int) 127=(k.val % 128:Nat):=by decide +kernel
theorem Em:∀(k u F:Nat) (b:List UInt8),u<128 ^ (k+1)→b.length+k+1≤lim→loopN gY (F+k+1) (b,(u:Int))=some (b++pn u):=by
 intro k
 induction k with
 | zero=>
  intro u F b h hb
  rw [br]
  generalize loopN gY (F+0)=f
  unfold gY
  simp only
  rw [ar (by rw [Ir]; omega),aw (by simp; omega),u7 (by omega),oR (by unfold U8; omega)]
  rfl
 | succ k ih=>
  intro u F b h hb
  rw [show F+(k+1)+1=(F+k+1)+1 by omega,br]
  generalize hf:loopN gY (F+k+1)=f
  unfold gY
  simp only
  by_cases h1:u<128
  ·rw [ar (by rw [Ir]; omega),aw (by simp; omega),u7 h1,oR (by unfold U8; omega)]; rfl
  ·have e1:wu8 (u:Int)=(((⟨u % 256,by omega⟩:Fin 256).val:Nat):Int):=by unfold wu8; simp
   rw [az (by rw [Iq]; omega),e1,ior8]
   have e2:(u % 256 % 128+128:Nat)=u % 128+128:=by omega
   simp only [e2]
   rw [aw (by unfold u8b; simp; omega),aw (by simp; omega)]
   have e3:ishr .u64 (u:Int) 7=((u / 128:Nat):Int):=by unfold ishr; rfl
   rw [e3, ← hf,ih (u / 128) F _ (by rw [Nat.pow_succ] at h; omega) (by simp; omega),yc h1]
   unfold b8
   rw [Iz,Iv]; rfl
theorem sZ{n:Nat}(h:n<9223372036854775808):fV (n:Int)=some (pn n):=by
 unfold fV
 rw [show wu64 (max (n:Int) 0)=(n:Int) by rw [oA (by unfold U64; omega)]; omega]
 obtain⟨F,hF⟩:∃F,FU=F+8+1:=⟨FU - 9,by unfold FU; omega⟩
 rw [hF]
 exact Em 8 n F [] (by omega) (by rw [aB]; simp)
def numF:Nat→Nat→List UInt8→Nat×Nat×Int
 | _,_,[]=>(0,0,4)
 | i,n,c::l=>if (i=8∧127<c.toNat)∨(0<i∧c.toNat=0) then (0,0,2) else if c.toNat<128 then (n+c.toNat*128 ^ i,i+1,0) else numF (i+1) (n+(c.toNat - 128)*128 ^ i) l
theorem p128(i:Nat):(128:Nat) ^ i=2 ^ (7*i):=by rw [Nat.pow_mul]
theorem p8{i:Nat}(h:i≤8):(128:Nat) ^ i≤72057594037927936:=Nat.le_trans (Nat.pow_le_pow_right (by decide) h) (by decide)
theorem rh{i n c:Nat}(hn:n<128 ^ i)(hc:c<128):n+c*128 ^ i<128 ^ (i+1):=by
 have:(c+1)*128 ^ i≤128*128 ^ i:=Nat.mul_le_mul_right _ hc
 rw [Nat.add_mul] at this
 rw [Nat.pow_succ,Nat.mul_comm (128 ^ i)]
 omega
theorem AF{i n c:Nat}(hi:i≤8)(hn:n<128 ^ i)(hc:c<128):ior .u64 (n:Int) (ishl .u64 (wu64 (c:Int)) (w64 (7*((i:Nat):Int))))=((n+c*128 ^ i:Nat):Int):=by
 have hp:=p8 hi
 have hs:=rh hn hc
 have hp9:(128:Nat) ^ (i+1)=128*128 ^ i:=by rw [Nat.pow_succ,Nat.mul_comm]
 have e1:w64 (7*((i:Nat):Int))=((7*i:Nat):Int):=by rw [aH (by unfold I64; omega)]; simp
 have e2:ishl .u64 (wu64 (c:Int)) ((7*i:Nat):Int)=((c*128 ^ i:Nat):Int):=by
  unfold ishl
  rw [oA (x:=(c:Int)) (by unfold U64; omega),Iz,show min (7*i) (IntKind.u64).bits=7*i from by show min (7*i) 64=_; omega]
  have:(c:Int)*2 ^ (7*i)=((c*128 ^ i:Nat):Int):=by rw [p128]; push_cast; rfl
  rw [this]
  show wu64 _=_
  exact oA (by unfold U64; omega)
 rw [e1,e2]
 unfold ior
 show wu64 _=_
 have e3:(BitVec.ofInt 64 (n:Int) ||| BitVec.ofInt 64 ((c*128 ^ i:Nat):Int)).toNat=n+c*128 ^ i:=by
  rw [BitVec.toNat_or,BitVec.ofInt_natCast,BitVec.ofInt_natCast,BitVec.toNat_ofNat,BitVec.toNat_ofNat,Nat.mod_eq_of_lt (by omega),Nat.mod_eq_of_lt (by omega)]
  have:=Nat.shiftLeft_add_eq_or_of_lt (a:=c) (b:=n) (i:=7*i) (by rw [← p128]; exact hn)
  rw [Nat.shiftLeft_eq, ← p128] at this
  rw [Nat.or_comm, ← this]; omega
 show wu64 (((BitVec.ofInt 64 (n:Int) ||| BitVec.ofInt 64 ((c*128 ^ i:Nat):Int)).toNat:Nat):Int)=_
 rw [e3]
 exact oA (by unfold U64; omega)
def numR(at_:Nat)(r:Nat×Nat×Int):Int×Int×Int:=((r.1:Int),(if r.2.2=0 then ((at_+r.2.1:Nat):Int) else 0),r.2.2)
theorem EO{b:List UInt8}{at_:Nat}{K:Int→Option (Int×Int×Int)}(hb:b.length≤lim)(ha:at_≤b.length)(hK:∀n,K n=some (0,0,4)):∀(l:List UInt8) (i n:Nat),(b.drop at_).drop i=l→i≤8→n<128 ^ i →
  forI (mv b (at_:Int)) K i l (n:Int)=some (numR at_ (numF i n l)):=by
 intro l
 induction l with
 | nil=>intro i n _ _ _; unfold forI; rw [hK]; rfl
 | cons c l ih=>
  intro i n hd hi hn
  have hg:gt (List.drop at_ b) i=c:=by
   have hlt:i<(b.drop at_).length:=by
    rcases Nat.lt_or_ge i (b.drop at_).length with h | h
    ·exact h
    ·rw [IB h] at hd; cases hd
   rw [cj hlt] at hd
   injection hd
  have hd2:(b.drop at_).drop (i+1)=l:=by
   have:=congrArg List.tail hd
   rw [List.tail_drop] at this
   exact this
  have hlen:i+1≤(b.drop at_).length:=by
   have:=congrArg List.length hd
   simp at this ⊢; omega
  rw [IW] at hlen
  rw [aB] at hb
  have hc:=c.toNat_lt
  rw [forI]
  generalize hf:forI (mv b (at_:Int)) K (i+1) l=f
  unfold mv mG nu numF
  rw [Iz,hg]
  by_cases h8:i=8∧127<c.toNat
  ·have q:((((i:Nat):Int)==8)&&(decide (127<((c.toNat:Nat):Int))))=true:=by simp; omega
   rw [q,if_pos (.inl h8)]; rfl
  ·have q:((((i:Nat):Int)==8)&&(decide (127<((c.toNat:Nat):Int))))=false:=by
    rw [Bool.eq_false_iff]; intro h; simp at h; exact h8 ⟨by omega,by omega⟩
   rw [q,ar rfl]
   by_cases h0:0<i∧c.toNat=0
   ·have q2:((decide (0<((i:Nat):Int)))&&(((c.toNat:Nat):Int)==0))=true:=by simp; omega
    rw [q2,az rfl,if_pos (.inr h0)]; rfl
   ·have q2:((decide (0<((i:Nat):Int)))&&(((c.toNat:Nat):Int)==0))=false:=by
     rw [Bool.eq_false_iff]; intro h; simp only [Iw,Iq,beq_iff_eq] at h; exact h0 ⟨by omega,by omega⟩
    rw [q2,ar rfl,if_neg (by rintro (h | h); exact h8 h; exact h0 h)]
    have hp:=p8 hi
    have hp9:(128:Nat) ^ (i+1)=128*128 ^ i:=by rw [Nat.pow_succ,Nat.mul_comm]
    by_cases h128:c.toNat<128
    ·have hs:=rh hn h128
     rw [az (by simp; omega),if_pos h128,AF hi hn h128,aw (by rw [aH (by unfold I64; omega)]; simp; omega)]
     unfold numR
     rw [if_pos rfl]
     rw [aH (x:=(at_:Int)+(i:Int)) (by unfold I64; omega),aH (x:=(at_:Int)+(i:Int)+1) (by unfold I64; omega),aH (by unfold I64; omega)]
     congr 3 <;> push_cast <;> omega
    ·have e1:=HM ⟨c.toNat,hc⟩
     have hm:c.toNat % 128=c.toNat - 128:=by omega
     simp only [hm] at e1
     have hs:=rh (i:=i) (n:=n) (c:=c.toNat - 128) hn (by omega)
     rw [ar (by simp; omega),if_neg h128,aw (by rw [aH (by unfold I64; omega)]; simp; omega),e1,AF hi hn (by omega)]
     rw [← hf]
     exact ih (i+1) _ hd2 (by omega) hs
theorem zl{b:List UInt8}{at_:Nat}(hb:b.length≤lim)(ha:at_≤b.length):gX b (at_:Int)=some (numR at_ (numF 0 0 (b.drop at_))):=by
 unfold gX
 rw [ar (by simp; omega),aw (by simp [inle]; omega),Iz]
 exact EO hb ha (λn=>rfl) _ 0 0 rfl (by omega) (by simp)
theorem Bq:∀(m i n:Nat) (rest:List UInt8),(0<i→0<m)→i+(pn m).length≤9→numF i n (pn m++rest)=(n+m*128 ^ i,i+(pn m).length,0):=by
 intro m
 induction m using Nat.strongRecOn with
 | _ m ih=>
  intro i n rest h0 h9
  by_cases h1:m<128
  ·rw [u7 h1] at *
   have e:(UInt8.ofNat m).toNat=m:=by rw [UInt8.toNat_ofNat_of_lt']; show m<256; omega
   simp only [List.cons_append,IO,Iy,IK]
   unfold numF
   rw [e,if_neg (by rintro (h | h); omega; exact absurd (h0 h.1) (by omega)),if_pos h1]
  ·have hp:=wO (m / 128)
   rw [yc h1] at h9 ⊢
   simp only [Iy] at h9
   have e:(UInt8.ofNat (m % 128+128)).toNat=m % 128+128:=by rw [UInt8.toNat_ofNat_of_lt']; show m % 128+128<256; omega
   simp only [List.cons_append,Iy]
   unfold numF
   rw [e,if_neg (by rintro (h | h); omega; omega),if_neg (by omega),ih (m / 128) (by omega) (i+1) _ rest (by omega) (by omega)]
   have hm:m=128*(m / 128)+m % 128:=by omega
   have:n+(m % 128+128 - 128)*128 ^ i+m / 128*128 ^ (i+1)=n+m*128 ^ i:=by
    rw [Nat.add_sub_cancel,Nat.pow_succ,Nat.mul_comm (128 ^ i) 128, ← Nat.mul_assoc,Nat.add_assoc, ← Nat.add_mul]
    congr 2; omega
   rw [this]; congr 2; omega
theorem vT:∀(l:List UInt8) (i n:Nat),i≤8→n<128 ^ i→((numF i n l).2.2=0∧i<(numF i n l).2.1∧(numF i n l).2.1≤i+l.length∧(numF i n l).1<9223372036854775808)∨(numF i n l).2.2=2∨(numF i n l).2.2=4:=by
 intro l
 induction l with
 | nil=>intro i n _ _; exact .inr (.inr rfl)
 | cons c l ih=>
  intro i n hi hn
  have hc:=c.toNat_lt
  unfold numF
  split
  ·exact .inr (.inl rfl)
  ·rename_i hx
   split
   ·rename_i h128
    have hs:=rh hn h128
    have hp:=p8 hi
    have hp9:(128:Nat) ^ (i+1)=128*128 ^ i:=by rw [Nat.pow_succ,Nat.mul_comm]
    exact .inl ⟨rfl,by simp,by simp,by simp; omega⟩
   ·rename_i h128
    have hi8:i≠8:=λh=>hx (.inl ⟨h,by omega⟩)
    rcases ih (i+1) (n+(c.toNat - 128)*128 ^ i) (by omega) (rh hn (by omega)) with h | h
    ·exact .inl ⟨h.1,by omega,by simp only [Iy]; omega,h.2.2.2⟩
    ·exact .inr h
def crcB(r:BitVec 32):BitVec 32:=(r >>> 1) ^^^ (3988292384#32 &&& -(r &&& 1#32))
def crcN:Nat→BitVec 32→BitVec 32
 | 0,r=>r
 | k+1,r=>crcN k (crcB r)
def crc(r:BitVec 32)(c:UInt8):BitVec 32:=crcN 8 (r ^^^ BitVec.ofNat 32 c.toNat)
def sumB(l:List UInt8):BitVec 32 := ~~~ (l.foldl crc 4294967295#32)
theorem tA(x:BitVec 32):BitVec.ofInt 32 ((x.toNat:Nat):Int)=x:=by rw [BitVec.ofInt_natCast,BitVec.ofNat_toNat]; simp
theorem wr32(x:BitVec 32):wr .u32 ((x.toNat:Nat):Int)=(x.toNat:Int):=by
 have:=x.isLt
 show wu32 _=_
 exact sg (by unfold U32; omega)
theorem uQ(x y:BitVec 32):ixor .u32 (x.toNat:Int) (y.toNat:Int)=((x ^^^ y).toNat:Int):=by
 unfold ixor
 show wr .u32 (((BitVec.ofInt 32 (x.toNat:Int) ^^^ BitVec.ofInt 32 (y.toNat:Int)).toNat:Nat):Int)=_
 rw [tA,tA,wr32]
theorem EW(x y:BitVec 32):iand .u32 (x.toNat:Int) (y.toNat:Int)=((x &&& y).toNat:Int):=by
 unfold iand
 show wr .u32 (((BitVec.ofInt 32 (x.toNat:Int) &&& BitVec.ofInt 32 (y.toNat:Int)).toNat:Nat):Int)=_
 rw [tA,tA,wr32]
theorem HB(x:BitVec 32):wu32 (0 - (x.toNat:Int))=((-x).toNat:Int):=by
 have:=x.isLt
 unfold wu32
 rw [BitVec.toNat_neg]
 omega
theorem FY(r:BitVec 32):ixor .u32 (ishr .u32 (r.toNat:Int) 1) (iand .u32 3988292384 (wu32 (0 - (iand .u32 (r.toNat:Int) 1))))=((crcB r).toNat:Int):=by
 have e1:iand .u32 (r.toNat:Int) 1=((r &&& 1#32).toNat:Int):=EW r 1#32
 have e2:ishr .u32 (r.toNat:Int) 1=((r >>> 1).toNat:Int):=by
  unfold ishr
  show (r.toNat:Int) / 2 ^ 1=_
  rw [BitVec.toNat_ushiftRight,Nat.shiftRight_eq_div_pow]; push_cast; rfl
 rw [e1,e2,HB]
 have e3:iand .u32 3988292384 (((-(r &&& 1#32)).toNat:Nat):Int)=((3988292384#32 &&& -(r &&& 1#32)).toNat:Int):=EW 3988292384#32 _
 rw [e3,uQ]; rfl
theorem Au{f:Int→Option Int}:∀(k i:Nat) (r:BitVec 32),forU kX f k i (r.toNat:Int)=f ((crcN k r).toNat:Int)
 | 0,_,_=>rfl
 | k+1,i,r=>by
  rw [forU]
  show forU kX f k (i+1) (ixor .u32 (ishr .u32 (r.toNat:Int) 1) (iand .u32 3988292384 (wu32 (0 - (iand .u32 (r.toNat:Int) 1)))))=_
  rw [FY]
  exact Au k (i+1) (crcB r)
theorem zH{f:Int→Option Int}:∀(l:List UInt8) (i:Nat) (r:BitVec 32),forI l0 f i l (r.toNat:Int)=f ((l.foldl crc r).toNat:Int)
 | [],_,_=>rfl
 | c::l,i,r=>by
  have hc:=c.toNat_lt
  have e:wu32 ((c.toNat:Nat):Int)=((BitVec.ofNat 32 c.toNat).toNat:Int):=by
   rw [BitVec.toNat_ofNat,sg (by unfold U32; omega),Nat.mod_eq_of_lt (by omega)]
  rw [forI]
  show forU kX (forI l0 f (i+1) l) 8 0 (ixor .u32 (r.toNat:Int) (wu32 ((c.toNat:Nat):Int)))=_
  rw [e,uQ,Au]
  exact zH l (i+1) (crc r c)
theorem xq{f:Int→Option Int}:∀(l:List (List UInt8)) (i:Nat) (r:BitVec 32),forI ne f i l (r.toNat:Int)=f ((l.flatten.foldl crc r).toNat:Int)
 | [],_,_=>rfl
 | p::l,i,r=>by
  rw [forI]
  show forI l0 (forI ne f (i+1) l) 0 p (r.toNat:Int)=_
  rw [zH,IP,List.foldl_append]
  exact xq l (i+1) _
theorem Gi(l:List (List UInt8)):mI l=some ((sumB l.flatten).toNat:Int):=by
 unfold mI
 rw [show (4294967295:Int)=((4294967295#32).toNat:Int) from rfl,xq]
 unfold icom
 show some (ixor .u32 (((4294967295#32).toNat:Nat):Int) _)=_
 rw [uQ]
 unfold sumB
 congr 2
def s4(s:BitVec 32):List UInt8:=[UInt8.ofNat (s.toNat % 256),UInt8.ofNat (s.toNat / 256 % 256),UInt8.ofNat (s.toNat / 65536 % 256),UInt8.ofNat (s.toNat / 16777216 % 256)]
theorem wl(s:BitVec 32):(s4 s).length=4:=rfl
theorem Gz(s:BitVec 32)(i:Nat)(hi:i<4):wu8 (ishr .u32 (s.toNat:Int) (w64 (8*((i:Nat):Int))))=((s.toNat / 2 ^ (8*i) % 256:Nat):Int):=by
 rw [aH (by unfold I64; omega)]
 unfold ishr wu8
 rw [show (8*(i:Int)).toNat=8*i by omega,show min (8*i) (IntKind.u32).bits=8*i from by show min (8*i) 32=_; omega]
 simp only [Int.natCast_emod,Int.natCast_ediv,Int.natCast_pow]; rfl
theorem Gq(s:BitVec 32)(i:Nat)(hi:i<4):b8 (wu8 (ishr .u32 (s.toNat:Int) (w64 (8*((i:Nat):Int)))))=gt (s4 s) i:=by
 rw [Gz s i hi]
 unfold b8
 rw [Iz]
 match i,hi with
 | 0,_=>simp [s4,gt]
 | 1,_=>simp [s4,gt]
 | 2,_=>simp [s4,gt]
 | 3,_=>simp [s4,gt]
def fr(x:List UInt8):List UInt8:=pn x.length++(s4 (sumB (pn x.length++x))++x)
theorem nS(x:List UInt8):(fr x).length=(pn x.length).length+4+x.length:=by unfold fr; simp [wl]; omega
theorem pn3{n:Nat}(h:n≤1048576):(pn n).length≤3:=wT 2 n (by omega)
theorem Gn{x:List UInt8}(h:x.length≤1048576):iu x=some (fr x,0):=by
 have h3:=pn3 h
 unfold iu
 rw [ar (by rw [Ir]; omega),sZ (by omega),IC,Gi,IC]
 simp only [IP,List.flatten_nil,IL]
 generalize hs:sumB (pn x.length++x)=s
 have hstep:∀(f:List UInt8→Option (List UInt8×Int)) (i:Nat) (out:List UInt8),i<4→out.length+1≤lim→nD (s.toNat:Int) f i out=f (out++[gt (s4 s) i]):=by
  intro f i out hi ho
  unfold nD
  rw [aw (by rw [aH (by unfold I64; omega)]; simp; omega),aw (by simpa using ho),Gq s i hi]
 simp only [forU]
 rw [hstep _ 0 _ (by decide) (by rw [aB]; omega),hstep _ 1 _ (by decide) (by rw [aB]; simp; omega),hstep _ 2 _ (by decide) (by rw [aB]; simp; omega),hstep _ 3 _ (by decide) (by rw [aB]; simp; omega)]
 rw [aw (by rw [aB]; simp; omega)]
 unfold fr
 rw [hs]
 simp [s4,gt]
theorem Bl{x:List UInt8}(h:1048576<x.length):iu x=some ([],3):=by
 unfold iu
 rw [az (by rw [Iq]; omega)]
def cG(l:List UInt8):List UInt8×Nat×Int:=
 if (numF 0 0 l).2.2≠0 then ([],0,(numF 0 0 l).2.2) else if 1048576<(numF 0 0 l).1 then ([],0,3) else if l.length - (numF 0 0 l).2.1<(numF 0 0 l).1+4 then ([],0,4) else
 if (l.drop (numF 0 0 l).2.1).take 4=s4 (sumB (l.take (numF 0 0 l).2.1++(l.drop ((numF 0 0 l).2.1+4)).take (numF 0 0 l).1)) then ((l.drop ((numF 0 0 l).2.1+4)).take (numF 0 0 l).1,(numF 0 0 l).2.1+4+(numF 0 0 l).1,0) else ([],0,20)
theorem HC{l:List UInt8}{k:Nat}(h:k+4≤l.length):(l.drop k).take 4 = [gt l k,gt l (k+1),gt l (k+2),gt l (k+3)]:=by
 rw [cj (by omega),cj (k:=k+1) (by omega),cj (k:=k+2) (by omega),cj (k:=k+3) (by omega)]; rfl
def yi(at_:Nat)(r:List UInt8×Nat×Int):List UInt8×Int×Int:=(r.1,(if r.2.2=0 then ((at_+r.2.1:Nat):Int) else 0),r.2.2)
theorem HE{c:UInt8}{n:Nat}(h:n<256):(((c.toNat:Nat):Int) != ((n:Nat):Int))=!decide (c=UInt8.ofNat n):=by
 rw [Bool.eq_iff_iff]
 simp only [bne_iff_ne,Bool.not_eq_true',Ir]
 refine not_congr ⟨λe=>?_,λe=>?_⟩
 ·have:c.toNat=n:=by omega
  rw [← this]; simp
 ·rw [e,UInt8.toNat_ofNat_of_lt']; exact h
theorem GQ{b:List UInt8}{at_:Nat}(hb:b.length≤lim)(ha:at_≤b.length):ny b (at_:Int)=some (yi at_ (cG (b.drop at_))):=by
 have hb':=hb
 rw [aB] at hb'
 have hok:=vT (b.drop at_) 0 0 (by omega) (by simp)
 unfold ny
 rw [zl hb ha,IC]
 unfold cG numR yi
 generalize hr:numF 0 0 (b.drop at_)=r at hok ⊢
 obtain⟨n,k,e⟩:=r
 simp only at hok ⊢
 by_cases he:e=0
 ·subst he
  rcases hok with ⟨_,h1,h2,h3⟩ | h | h
  rotate_left
  ·exact absurd h (by decide)
  ·exact absurd h (by decide)
  rw [IW] at h2
  rw [ar (by simp),if_pos rfl,if_neg (by simp)]
  by_cases hn:1048576<n
  ·rw [az (by simp; omega),if_pos hn]; rfl
  ·rw [ar (by simp; omega),if_neg hn]
   have w1:w64 (((b.length:Nat):Int) - ((at_+k:Nat):Int))=(b.length:Int) - (at_+k:Nat):=aH (by unfold I64; omega)
   have w2:w64 ((n:Int)+4)=((n+4:Nat):Int):=by rw [aH (by unfold I64; omega)]; rfl
   rw [w1,w2]
   by_cases hl:(b.drop at_).length - k<n+4
   ·rw [if_pos hl,az (by rw [IW] at hl; rw [Iq]; omega)]; rfl
   ·rw [if_neg hl,ar (by rw [IW] at hl; rw [Ir]; omega)]
    rw [IW] at hl
    have w3:w64 (((at_+k:Nat):Int)+4)=((at_+k+4:Nat):Int):=by rw [aH (by unfold I64; omega)]; rfl
    have w4:w64 (((at_+k+4:Nat):Int)+(n:Int))=((at_+k+4+n:Nat):Int):=by rw [aH (by unfold I64; omega)]; push_cast; rfl
    rw [w3,w4]
    clear w1 w2 w3 w4 hr hb
    have d1:List.drop at_ (List.take (at_+k) b)=(b.drop at_).take k:=by rw [List.drop_take]; congr 1; omega
    have d2:List.drop (at_+k+4) (List.take (at_+k+4+n) b)=((b.drop at_).drop (k+4)).take n:=by
     rw [List.drop_take,List.drop_drop]; congr 1
     ·omega
    simp only [Iz,d1,d2]
    rw [aw (by simp [inle]; omega),aw (by simp; omega),aw (by simp),aw (by simp [inle]; omega),aw (by simp),aw (by simp)]
    rw [Gi,IC]
    simp only [IP,List.flatten_nil,IL]
    generalize sumB ((b.drop at_).take k++((b.drop at_).drop (k+4)).take n)=s
    have hstep:∀(f:Unit→Option (List UInt8×Int×Int)) (i:Nat),i<4→na b ((n:Int),((at_+k:Nat):Int),0) (s.toNat:Int) f i ()=if gt (b.drop at_) (k+i)=gt (s4 s) i then f () else some ([],0,20):=by
     intro f i hi
     unfold na
     have w5:w64 (((at_+k:Nat):Int)+((i:Nat):Int))=((at_+k+i:Nat):Int):=by rw [aH (by unfold I64; omega)]; push_cast; rfl
     simp only
     rw [w5]
     clear w5
     rw [aw (by simp [inb]; omega),aw (by rw [aH (by unfold I64; omega)]; simp; omega),Iz]
     have hx:=Gq s i hi
     rw [Gz s i hi] at hx ⊢
     rw [HE (Nat.mod_lt _ (by decide))]
     unfold b8 at hx
     rw [Iz] at hx
     rw [hx]
     have hg:gt b (at_+k+i)=gt (b.drop at_) (k+i):=by
      rw [fx (by omega),fx (by rw [IW]; omega)]; simp [Nat.add_assoc]
     rw [hg]
     by_cases hq:gt (b.drop at_) (k+i)=gt (s4 s) i
     ·rw [if_pos hq,ar (by simp [hq])]
     ·rw [if_neg hq,az (by simp [hq])]
    have hchk:(0+(List.take n ((b.drop at_).drop (k+4))).length≤lim):=by rw [aB,IV,IW,IW]; omega
    simp only [forU]
    rw [hstep _ 0 (by decide),hstep _ 1 (by decide),hstep _ 2 (by decide),hstep _ 3 (by decide),aw (by simpa using hchk),HC (by rw [IW]; omega)]
    have hs4:s4 s = [gt (s4 s) 0,gt (s4 s) 1,gt (s4 s) 2,gt (s4 s) 3]:=by simp [s4,gt]
    rw [hs4]
    simp only [List.cons.injEq,and_true]
    rw [← hs4]
    simp only [Nat.add_zero,IO]
    by_cases h0:gt (b.drop at_) k=gt (s4 s) 0
    ·rw [if_pos h0]
     by_cases h1:gt (b.drop at_) (k+1)=gt (s4 s) 1
     ·rw [if_pos h1]
      by_cases h2:gt (b.drop at_) (k+2)=gt (s4 s) 2
      ·rw [if_pos h2]
       by_cases h3:gt (b.drop at_) (k+3)=gt (s4 s) 3
       ·rw [if_pos h3,if_pos ⟨h0,h1,h2,h3⟩]
        have:at_+k+4+n=at_+(k+4+n):=by omega
        rw [this]; rfl
       ·rw [if_neg h3,if_neg (by rintro⟨_,_,_,h⟩; exact h3 h)]; rfl
      ·rw [if_neg h2,if_neg (by rintro⟨_,_,h,_⟩; exact h2 h)]; rfl
     ·rw [if_neg h1,if_neg (by rintro⟨_,h,_,_⟩; exact h1 h)]; rfl
    ·rw [if_neg h0,if_neg (by rintro⟨h,_,_,_⟩; exact h0 h)]; rfl
 ·rw [az (by simpa using he),aw (by rcases hok with h | h | h; exact absurd h.1 he; rw [h]; rfl; rw [h]; rfl),if_pos he,if_neg he]
theorem Fy{x:List UInt8}(h:x.length≤1048576)(rest:List UInt8):cG (fr x++rest)=(x,(fr x).length,0):=by
 have h3:=pn3 h
 have hn:numF 0 0 (fr x++rest)=(x.length,(pn x.length).length,0):=by
  unfold fr
  rw [Iv,Bq _ 0 0 _ (by omega) (by omega)]
  simp
 unfold cG
 rw [hn]
 simp only
 rw [if_neg (by simp),if_neg (by omega),if_neg (by rw [Is,nS]; omega)]
 have e1:(fr x++rest).take (pn x.length).length=pn x.length:=by unfold fr; rw [Iv,List.take_left]
 have e2:((fr x++rest).drop (pn x.length).length).take 4=s4 (sumB (pn x.length++x)):=by
  unfold fr; rw [Iv,List.drop_left,Iv,List.take_append_of_le_length (by simp [wl])]; rfl
 have e3:((fr x++rest).drop ((pn x.length).length+4)).take x.length=x:=by
  unfold fr
  rw [← List.drop_drop,Iv,List.drop_left,Iv,List.drop_append_of_le_length (by simp [wl])]
  show List.take x.length (x++rest)=x
  rw [List.take_left]
 rw [e1,e2,e3,if_pos rfl,nS]
theorem pB{l:List UInt8}(h:(cG l).2.2=0):0<(cG l).2.1∧(cG l).2.1≤l.length∧(cG l).1.length≤1048576:=by
 have hok:=vT l 0 0 (by omega) (by simp)
 unfold cG at h ⊢
 split at h
 ·rename_i hq; exact absurd h hq
 ·rename_i hq
  rw [if_neg hq]
  split at h
  ·exact absurd h (by decide)
  ·rename_i h2
   rw [if_neg h2]
   split at h
   ·exact absurd h (by decide)
   ·rename_i h3
    rw [if_neg h3]
    split at h
    ·rename_i h4
     rw [if_pos h4]
     simp only [IV]
     omega
    ·exact absurd h (by decide)
def allF:Nat→List UInt8→List (List UInt8)×Nat×Int
 | 0,_=>([],0,0)
 | f+1,l=>if l = [] then ([],0,0) else if (cG l).2.2≠0 then ([],0,(cG l).2.2) else ((cG l).1::(allF f (l.drop (cG l).2.1)).1,(cG l).2.1+(allF f (l.drop (cG l).2.1)).2.1,(allF f (l.drop (cG l).2.1)).2.2)
def allB(l:List UInt8):List (List UInt8)×Nat×Int:=allF l.length l
theorem tV(f:Nat):allF f []=([],0,0):=by cases f <;> rfl
theorem CR:∀(f g:Nat) (l:List UInt8),l.length≤f→l.length≤g→allF f l=allF g l:=by
 intro f
 induction f with
 | zero=>
  intro g l h1 h2
  have:l = []:=List.eq_nil_of_length_eq_zero (by omega)
  subst this
  rw [tV,tV]
 | succ f ih=>
  intro g l h1 h2
  cases g with
  | zero=>
   have:l = []:=List.eq_nil_of_length_eq_zero (by omega)
   subst this
   rw [tV,tV]
  | succ g=>
   unfold allF
   split
   ·rfl
   ·split
    ·rfl
    ·rename_i hn he
     have hk:=pB (l:=l) (by simpa using he)
     rw [ih g (l.drop (cG l).2.1) (by rw [IW]; omega) (by rw [IW]; omega)]
theorem rJ(l:List UInt8):allB l=if l = [] then ([],0,0) else if (cG l).2.2≠0 then ([],0,(cG l).2.2) else ((cG l).1::(allB (l.drop (cG l).2.1)).1,(cG l).2.1+(allB (l.drop (cG l).2.1)).2.1,(allB (l.drop (cG l).2.1)).2.2):=by
 by_cases h:l = []
 ·rw [if_pos h,h]; rfl
 ·rw [if_neg h]
  have hl:l.length=(l.length - 1)+1:=by have:=List.length_pos_iff.2 h; omega
  conv=>lhs; unfold allB; rw [hl]; unfold allF
  rw [if_neg h]
  split
  ·rfl
  ·rename_i he
   have hk:=pB (l:=l) (by simpa using he)
   unfold allB
   rw [CR (l.length - 1) (l.drop (cG l).2.1).length _ (by rw [IW]; omega) (IG _)]
theorem all_nil:allB []=([],0,0):=rfl
theorem GV{x:List UInt8}(h:x.length≤1048576)(rest:List UInt8):allB (fr x++rest)=(x::(allB rest).1,(fr x).length+(allB rest).2.1,(allB rest).2.2):=by
 have hne:fr x++rest≠[]:=λe=>by
  have:=congrArg List.length e
  rw [Is,nS] at this
  simp at this
 rw [rJ,if_neg hne,Fy h,if_neg (by simp)]
 simp only
 rw [List.drop_left]
def frs(l:List (List UInt8)):List UInt8:=(l.map fr).flatten
theorem oL(x:List UInt8)(l:List (List UInt8)):frs (x::l)=fr x++frs l:=rfl
theorem vY(l m:List (List UInt8)):frs (l++m)=frs l++frs m:=by unfold frs; rw [IJ,List.flatten_append]
def Rk(l:List (List UInt8)):Prop := ∀x∈l,x.length≤1048576
theorem CB:∀{l:List (List UInt8)} (h:Rk l) (rest:List UInt8),allB (frs l++rest)=(l++(allB rest).1,(frs l).length+(allB rest).2.1,(allB rest).2.2)
 | [],_,rest=>by simp [frs]
 | x::l,h,rest=>by
  rw [oL,Iv,GV (h x It),CB (λy hy=>h y (Iu _ hy))]
  simp [Nat.add_assoc]
theorem zU{l:List (List UInt8)}(h:Rk l):allB (frs l)=(l,(frs l).length,0):=by
 have:=CB h []
 rw [IL,all_nil] at this
 simpa using this
theorem tZ(l:List UInt8):(allB l).2.1≤l.length∧(allB l).1.length≤(allB l).2.1:=by
 have key:∀(n:Nat) (l:List UInt8),l.length≤n→(allB l).2.1≤l.length∧(allB l).1.length≤(allB l).2.1:=by
  intro n
  induction n with
  | zero=>
   intro l h
   have:l = []:=List.eq_nil_of_length_eq_zero (by omega)
   subst this
   exact⟨IG _,IG _⟩
  | succ n ih=>
   intro l h
   rw [rJ]
   split
   ·simp
   ·split
    ·simp
    ·rename_i he
     have hk:=pB (l:=l) (by simpa using he)
     have:=ih (l.drop (cG l).2.1) (by rw [IW]; omega)
     rw [IW] at this
     simp only [Iy]
     omega
 exact key l.length l (IG _)
theorem AE{b:List UInt8}(hb:b.length≤lim):∀(n at_ F:Nat) (o:List (List UInt8)) (p:Int) (x5:Int),at_≤b.length→b.length - at_≤n→o.length+(b.length - at_)≤lim→p=(at_:Int) →
  ∃e,loopN (eB ix b) (F+n+1) ((at_:Int),x5,(o,p))=some ((o++(allB (b.drop at_)).1,((at_+(allB (b.drop at_)).2.1:Nat):Int)),e):=by
 intro n
 induction n with
 | zero=>
  intro at_ F o p x5 h1 h2 h3 hp
  rw [br]
  generalize loopN (eB ix b) (F+0)=f
  unfold eB
  simp only
  rw [ar (by rw [Ir]; omega)]
  refine⟨x5,?_⟩
  rw [IB (by omega),all_nil,hp]
  simp
 | succ n ih=>
  intro at_ F o p x5 h1 h2 h3 hp
  rw [show F+(n+1)+1=(F+n+1)+1 by omega,br]
  generalize hf:loopN (eB ix b) (F+n+1)=f
  unfold eB
  simp only
  by_cases hlt:at_<b.length
  ·have hne:b.drop at_≠[]:=λe=>by
    have:=congrArg List.length e
    rw [IW] at this
    simp at this; omega
   rw [az (by rw [Iq]; omega),GQ hb h1,IC]
   unfold yi
   simp only
   rw [rJ,if_neg hne]
   by_cases he:(cG (b.drop at_)).2.2=0
   ·have hk:=pB he
    rw [IW] at hk
    rw [if_pos he,if_neg (show ¬ ((cG (b.drop at_)).2.2≠0) from by simp [he]),az (by simp [he])]
    unfold ix
    rw [aw (by simp; omega),IC, ← hf]
    obtain⟨e,h⟩:=ih (at_+(cG (b.drop at_)).2.1) F (o++[(cG (b.drop at_)).1]) _ (cG (b.drop at_)).2.2 (by omega) (by omega) (by simp; omega) rfl
    refine⟨e,?_⟩
    simp only
    rw [h]
    simp only [List.drop_drop,Iv,List.cons_append,IO,Nat.add_assoc]
   ·rw [ar (by simp [he]),if_pos he]
    refine⟨(cG (b.drop at_)).2.2,?_⟩
    rw [hp]
    simp only [IL,Nat.add_zero]
  ·refine⟨x5,?_⟩
   rw [ar (by rw [Ir]; omega),IB (by omega),all_nil,hp]
   simp
theorem E9{b:List UInt8}(hb:b.length≤lim):∃e,mZ b=some ((allB b).1,(((allB b).2.1:Nat):Int),e):=by
 have hb':=hb
 rw [aB] at hb'
 obtain⟨F,hF⟩:∃F,FU=F+b.length+1:=⟨FU - b.length - 1,by unfold FU; omega⟩
 obtain⟨e,h⟩:=AE hb b.length 0 F [] 0 0 (by omega) (by omega) (by simp; omega) rfl
 refine⟨e,?_⟩
 unfold mZ m8
 rw [hF]
 simp only [List.drop_zero,Nat.zero_add,IO] at h
 rw [show ((0:Nat):Int)=0 from rfl] at h
 rw [h]; rfl
def dz(n:Nat):List UInt8:=if h:n=0 then [] else dz (n / 10)++[UInt8.ofNat (48+n % 10)]
 decreasing_by omega
theorem dz_0:dz 0 = []:=by unfold dz; rfl
theorem dz_s{n:Nat}(h:n≠0):dz n=dz (n / 10)++[UInt8.ofNat (48+n % 10)]:=by rw [dz,dif_neg h]
def ds(n:Nat):List UInt8:=dz (n / 10)++[UInt8.ofNat (48+n % 10)]
theorem Hf:∀(k n:Nat),n<10 ^ k→(dz n).length≤k:=by
 intro k
 induction k with
 | zero=>intro n h; rw [show n=0 by omega,dz_0]; simp
 | succ k ih=>
  intro n h
  by_cases h1:n=0
  ·rw [h1,dz_0]; simp
  ·rw [dz_s h1]
   have:=ih (n / 10) (by rw [Nat.pow_succ] at h; omega)
   simp; omega
theorem sP{k n:Nat}(h:n<10 ^ (k+1)):(ds n).length≤k+1:=by
 unfold ds
 have:=Hf k (n / 10) (by rw [Nat.pow_succ] at h; omega)
 simp; omega
theorem wv(n:Nat):0<(ds n).length:=by unfold ds; simp
theorem Aw(n:Nat):(UInt8.ofNat (48+n % 10)).toNat=48+n % 10:=by rw [UInt8.toNat_ofNat_of_lt']; show 48+n % 10<256; omega
theorem H9:∀(n:Nat), ∀c∈dz n,48≤c.toNat∧c.toNat≤57:=by
 intro n
 induction n using Nat.strongRecOn with
 | _ n ih=>
  intro c hc
  by_cases h1:n=0
  ·rw [h1,dz_0] at hc; cases hc
  ·rw [dz_s h1] at hc
   rcases List.mem_append.1 hc with h | h
   ·exact ih (n / 10) (by omega) c h
   ·rw [List.mem_singleton.1 h,Aw]; omega
theorem Eo(n:Nat):∀c∈ds n,48≤c.toNat∧c.toNat≤57:=by
 intro c hc
 unfold ds at hc
 rcases List.mem_append.1 hc with h | h
 ·exact H9 _ c h
 ·rw [List.mem_singleton.1 h,Aw]; omega
def rdV(n:Nat)(l:List UInt8):Nat:=l.foldl (λn c=>10*n+(c.toNat - 48)) n
theorem BV(n:Nat)(l m:List UInt8):rdV n (l++m)=rdV (rdV n l) m:=by unfold rdV; rw [List.foldl_append]
theorem F4:∀n:Nat,rdV 0 (dz n)=n:=by
 intro n
 induction n using Nat.strongRecOn with
 | _ n ih=>
  by_cases h1:n=0
  ·rw [h1,dz_0]; rfl
  ·rw [dz_s h1,BV,ih (n / 10) (by omega)]
   unfold rdV
   simp only [List.foldl_cons,List.foldl_nil,Aw]
   omega
theorem Bb(n:Nat):rdV 0 (ds n)=n:=by
 unfold ds
 rw [BV,F4]
 unfold rdV
 simp only [List.foldl_cons,List.foldl_nil,Aw]
 omega
theorem E2{m n:Nat}(h:ds m=ds n):m=n:=by rw [← Bb m,h,Bb]
theorem AU:∀(l:List UInt8) (n:Nat),n≤rdV n l
 | [],n=>IG _
 | c::l,n=>by
  have:=AU l (10*n+(c.toNat - 48))
  show n≤rdV (10*n+(c.toNat - 48)) l
  omega
theorem FD:∀(n:Nat) (c:UInt8) (l:List UInt8),dz n=c::l→c.toNat≠48:=by
 intro n
 induction n using Nat.strongRecOn with
 | _ n ih=>
  intro c l h
  by_cases h1:n=0
  ·rw [h1,dz_0] at h; cases h
  ·rw [dz_s h1] at h
   cases hd:dz (n / 10) with
   | nil=>
    rw [hd] at h
    injection h with h2 _
    rw [← h2,Aw]
    have:n / 10=0:=by
     have:=F4 (n / 10)
     rw [hd] at this
     exact this.symm
    omega
   | cons c' l'=>
    rw [hd] at h
    injection h with h2 _
    rw [← h2]
    exact ih (n / 10) (by omega) c' l' hd
theorem zs{x:List UInt8}{i:Nat}{v:UInt8}(h:i<x.length):(x.set i v).drop i=v::x.drop (i+1):=by
 rw [List.drop_eq_getElem_cons (by simpa using h)]
 congr 1
 ·simp
 ·rw [List.drop_set_of_lt (by omega)]
theorem zb{n:Int}{f:Int×Int×List UInt8→Option ByteArray}{at_ u:Nat}{x:List UInt8}(h1:0<at_)(h2:at_≤20)(h3:at_=20∨0<u)(h4:u≤18446744073709551615):
  dm n f ((at_:Int),(u:Int),x)=f (((at_ - 1:Nat):Int),((u / 10:Nat):Int),x.set (at_ - 1) (UInt8.ofNat (48+u % 10))):=by
 unfold dm
 simp only
 have e1:w64 ((at_:Int) - 1)=((at_ - 1:Nat):Int):=by rw [aH (by unfold I64; omega)]; omega
 have e2:(u:Int).tdiv 10=((u / 10:Nat):Int):=by rw [Int.tdiv_eq_ediv_of_nonneg (by omega)]; omega
 have e3:(u:Int).tmod 10=((u % 10:Nat):Int):=by rw [Int.tmod_eq_emod_of_nonneg (by omega)]; omega
 rw [e1,e2,e3]
 have c1:(((at_:Int)==20)||decide (0<(u:Int)))=true:=by
  simp only [Bool.or_eq_true,beq_iff_eq,Iq]; omega
 have c2:inb ((at_ - 1:Nat):Int) 20=true:=by
  unfold inb
  simp only [Iw,Iq]; omega
 rw [c1,az rfl,c2,aw rfl,oA (x:=((u / 10:Nat):Int)) (by unfold U64; omega),oA (x:=48+((u % 10:Nat):Int)) (by unfold U64; omega),oR (by unfold U8; omega)]
 unfold b8
 rw [Iz,show (48+((u % 10:Nat):Int)).toNat=48+u % 10 by omega]
theorem Ed{n:Int}(hn:0≤n):∀(k u at_ F:Nat) (acc x:List UInt8),u<10 ^ k→k≤at_→at_<20→x.length=20→x.drop at_=acc→loopN (dm n) (F+k+1) ((at_:Int),(u:Int),x)=some ⟨(dz u++acc).toArray⟩:=by
 intro k
 induction k with
 | zero=>
  intro u at_ F acc x hu h1 h2 h3 h4
  obtain rfl:u=0:=by omega
  rw [br]
  generalize loopN (dm n) (F+0)=f
  unfold dm ju
  simp only
  rw [ar (by simp; omega),ar (by simp; omega),aw (by simp [inle]; omega),Iz,h4,dz_0]; rfl
 | succ k ih=>
  intro u at_ F acc x hu h1 h2 h3 h4
  rw [show F+(k+1)+1=(F+k+1)+1 by omega,br]
  by_cases h0:u=0
  ·generalize loopN (dm n) (F+k+1)=f
   subst h0
   unfold dm ju
   simp only
   rw [ar (by simp; omega),ar (by simp; omega),aw (by simp [inle]; omega),Iz,h4,dz_0]; rfl
  ·have hb:u≤18446744073709551615:=by
    have:10 ^ (k+1)≤10 ^ 19:=Nat.pow_le_pow_right (by decide) (by omega)
    omega
   rw [zb (by omega) (by omega) (.inr (by omega)) hb,ih (u / 10) (at_ - 1) F (UInt8.ofNat (48+u % 10)::acc) _ (by rw [Nat.pow_succ] at hu; omega) (by omega) (by omega) (by simpa using h3) (by rw [zs (by omega),show at_ - 1+1=at_ by omega,h4]),dz_s h0]
   simp
theorem Aq{n:Nat}(h:n<10000000000000000000):lL (n:Int)=some ⟨(ds n).toArray⟩:=by
 unfold lL kV
 rw [ar (by simp),oA (by unfold U64; omega)]
 obtain⟨F,hF⟩:∃F,FU=(F+18+1)+1:=⟨FU - 20,by unfold FU; omega⟩
 rw [hF,br]
 have:=zb (n:=(n:Int)) (f:=loopN (dm (n:Int)) (F+18+1)) (at_:=20) (u:=n) (x:=List.replicate 20 (b8 0)) (by decide) (by decide) (.inl rfl) (by omega)
 rw [show (((20:Nat):Nat):Int)=20 from rfl] at this
 rw [this,Ed (by omega) 18 (n / 10) 19 F [UInt8.ofNat (48+n % 10)] _ (by omega) (by decide) (by decide) (by simp) (by rw [zs (by simp)]; rfl)]
 rfl
theorem BA(s:ByteArray):∃r,jm s=some r∧I64 r.1∧(r.2=0∨r.2=2):=by
 have key:∀(l:List UInt8) (i:Nat) (n:Int), ∃r,forI dT (λn_20=>bif decide (9223372036854775808≤n_20) then some (0,2) else some (w64 n_20,0)) i l n=some r∧I64 r.1∧(r.2=0∨r.2=2):=by
  intro l
  induction l with
  | nil=>
   intro i n
   rw [forI]
   cases decide (9223372036854775808≤n) with
   | true=>exact⟨(0,2),rfl,by unfold I64; decide,.inr rfl⟩
   | false=>exact⟨(w64 n,0),rfl,dR n,.inl rfl⟩
  | cons c l ih=>
   intro i n
   rw [forI]
   generalize hf:forI dT (λn_20=>bif decide (9223372036854775808≤n_20) then some (0,2) else some (w64 n_20,0)) (i+1) l=f
   unfold dT
   cases decide (((c.toNat:Nat):Int)<48)||decide (57<((c.toNat:Nat):Int)) with
   | true=>exact⟨(0,2),rfl,by unfold I64; decide,.inr rfl⟩
   | false=>rw [ar rfl, ← hf]; exact ih _ _
 unfold jm
 have hc:imp ((!(s==ByteArray.empty))&&(decide (1<((s.size:Nat):Int)))) (decide (0<s.size))=true:=by
  unfold imp
  by_cases h:1<s.size
  ·have:0<s.size:=by omega
   simp [this]
  ·have h2:decide (1<((s.size:Nat):Int))=false:=by rw [Ir]; omega
   rw [h2]; simp
 rw [hc,aw rfl]
 cases (s==ByteArray.empty||decide (1<((s.size:Nat):Int))&&((((gt s.data.toList 0).toNat:Nat):Int)==48))||decide (19<((s.size:Nat):Int)) with
 | true=>exact⟨(0,2),rfl,by unfold I64; decide,.inr rfl⟩
 | false=>rw [ar rfl]; exact key _ _ _
def rdP(s:ByteArray):Int×Int:=(jm s).getD (0,0)
theorem Ee(s:ByteArray):jm s=some (rdP s):=by obtain⟨r,h,_⟩:=BA s; unfold rdP; rw [h]; rfl
theorem G7(s:ByteArray):i64b (rdP s).1=true:=by
 obtain⟨r,h,h2,_⟩:=BA s
 unfold rdP
 rw [h]
 unfold i64b
 unfold I64 at h2
 simp; omega
theorem uO{K:Int→Option (Int×Int)}:∀(l:List UInt8) (i n:Nat),(∀c∈l,48≤c.toNat∧c.toNat≤57)→rdV n l<10000000000000000000→forI dT K i l (n:Int)=K ((rdV n l:Nat):Int)
 | [],_,_,_,_=>rfl
 | c::l,i,n,hd,hv=>by
  have hc:=hd c It
  have hv':rdV (10*n+(c.toNat - 48)) l<10000000000000000000:=hv
  have hle:=AU l (10*n+(c.toNat - 48))
  rw [forI]
  show (bif decide (((c.toNat:Nat):Int)<48)||decide (57<((c.toNat:Nat):Int)) then some (0,2) else forI dT K (i+1) l (wu64 ((wu64 (10*(n:Int)))+(wu64 (wu8 (((c.toNat:Nat):Int) - 48))))))=_
  rw [ar (by simp; omega),oR (by unfold U8; omega),oA (x:=10*(n:Int)) (by unfold U64; omega),oA (x:=((c.toNat:Nat):Int) - 48) (by unfold U64; omega),oA (by unfold U64; omega)]
  rw [show 10*(n:Int)+(((c.toNat:Nat):Int) - 48)=((10*n+(c.toNat - 48):Nat):Int) by omega]
  exact uO l (i+1) _ (λc' h=>hd c' (Iu _ h)) hv'
theorem l5(l:List UInt8):(⟨l.toArray⟩:ByteArray).size=l.length:=rfl
theorem wM{s:ByteArray}:s=ByteArray.empty↔s.size=0:=by
 constructor
 ·rintro rfl; rfl
 ·intro h
  apply j7
  have:s.data.toList.length=0:=h
  rw [List.eq_nil_of_length_eq_zero this]; rfl
theorem C9{n:Nat}(h:n<9223372036854775808):rdP ⟨(ds n).toArray⟩=((n:Int),0):=by
 have hl:(ds n).length≤19:=sP (by omega)
 have hp:=wv n
 have hv:=Bb n
 unfold rdP jm
 simp only [l5]
 have c0:((⟨(ds n).toArray⟩:ByteArray)==ByteArray.empty)=false:=by
  rw [beq_eq_false_iff_ne]; intro e; rw [wM,l5] at e; omega
 have c1:(decide (1<(((ds n).length:Nat):Int))&&((((gt (ds n) 0).toNat:Nat):Int)==48))=false:=by
  by_cases h1:1<(ds n).length
  ·have h2:(gt (ds n) 0).toNat≠48:=by
    have hd:ds n=dz (n / 10)++[UInt8.ofNat (48+n % 10)]:=rfl
    cases hq:dz (n / 10) with
    | nil=>rw [hq] at hd; rw [hd] at h1; simp at h1
    | cons c l=>rw [hd,hq]; exact FD _ _ _ hq
   have h3:((((gt (ds n) 0).toNat:Nat):Int)==48)=false:=by rw [beq_eq_false_iff_ne]; omega
   rw [h3,Bool.and_false]
  ·have:decide (1<(((ds n).length:Nat):Int))=false:=by rw [Ir]; omega
   rw [this,Bool.false_and]
 have c2:decide (19<(((ds n).length:Nat):Int))=false:=by rw [Ir]; omega
 rw [c0,c1,c2,aw (by unfold imp; simp; omega)]
 have:=uO (K:=λn_20=>bif decide (9223372036854775808≤n_20) then some (0,2) else some (w64 n_20,0)) (ds n) 0 0 (Eo n) (by rw [hv]; omega)
 rw [hv] at this
 show (forI dT _ 0 (ds n) ((0:Nat):Int)).getD (0,0)=_
 rw [this,ar (by rw [Ir]; omega),aH (by unfold I64; omega)]; rfl
def ND(l:List UInt8):Prop := ∀c∈l,c≠46
theorem DU(n:Nat):ND (ds n):=λc hc e=>by have:=Eo n c hc; rw [e] at this; exact absurd this.1 (by decide)
theorem pu:∀{a b x y:List UInt8},ND a→ND b→a++46::x=b++46::y→a=b∧x=y
 | [],[],x,y,_,_,h=>by injection h with _ h; exact⟨rfl,h⟩
 | [],d::b,x,y,_,hb,h=>by injection h with h _; exact absurd h.symm (hb d It)
 | c::a,[],x,y,ha,_,h=>by injection h with h _; exact absurd h (ha c It)
 | c::a,d::b,x,y,ha,hb,h=>by
  injection h with h1 h2
  obtain⟨e1,e2⟩:=pu (λq hq=>ha q (Iu _ hq)) (λq hq=>hb q (Iu _ hq)) h2
  exact⟨by rw [h1,e1],e2⟩
structure Nm (nm:ByteArray):Prop where
 lo:1≤nm.size
 hi:nm.size≤2
 nd:ND nm.data.toList
theorem EN{nm:ByteArray}:nm.data.toList.length=nm.size:=rfl
def fn(nm:ByteArray)(g k:Nat):ByteArray:=((((nm++(⟨#[46]⟩:ByteArray))++⟨(ds g).toArray⟩)++(⟨#[46]⟩:ByteArray))++⟨(ds k).toArray⟩)
def mn(nm:ByteArray):ByteArray:=nm++(⟨#[46,109]⟩:ByteArray)
theorem qy(a b:ByteArray):(a++b).data.toList=a.data.toList++b.data.toList:=ByteArray.toList_data_append
theorem fn_l(nm:ByteArray)(g k:Nat):(fn nm g k).data.toList=nm.data.toList++46::(ds g++46::ds k):=by
 unfold fn
 simp only [qy]
 simp
theorem mn_l(nm:ByteArray):(mn nm).data.toList=nm.data.toList++46::[109]:=by unfold mn; rw [qy]
theorem lr{nm nm':ByteArray}{g k g' k':Nat}(h:Nm nm)(h':Nm nm')(e:fn nm g k=fn nm' g' k'):nm=nm'∧g=g'∧k=k':=by
 have e2:=congrArg (λb:ByteArray=>b.data.toList) e
 simp only [fn_l] at e2
 obtain⟨e3,e4⟩:=pu h.nd h'.nd e2
 obtain⟨e5,e6⟩:=pu (DU g) (DU g') e4
 exact⟨j7 e3,E2 e5,E2 e6⟩
theorem xt{nm nm':ByteArray}{g k:Nat}(h:Nm nm)(h':Nm nm'):mn nm≠fn nm' g k:=by
 intro e
 have e2:=congrArg (λb:ByteArray=>b.data.toList) e
 simp only [fn_l,mn_l] at e2
 obtain⟨_,e4⟩:=pu h.nd h'.nd e2
 have:=congrArg List.length e4
 have h1:=wv g
 have h2:=wv k
 simp at this; omega
def gk(g k:Nat):Prop:=g≤999999∧1≤k∧k≤999999
theorem oq{nm:ByteArray}{g k:Nat}(h:Nm nm)(hg:g≤999999)(hk:k≤999999):4≤(fn nm g k).size∧(fn nm g k).size≤16:=by
 have h1:(ds g).length≤6:=sP (by omega)
 have h2:(ds k).length≤6:=sP (by omega)
 have h3:=wv g
 have h4:=wv k
 have h5:=h.lo
 have h6:=h.hi
 have:(fn nm g k).size=nm.size+1+(ds g).length+1+(ds k).length:=by
  show (fn nm g k).data.toList.length=_
  rw [fn_l]; simp [EN]; omega
 omega
theorem rA{nm:ByteArray}(h:Nm nm):3≤(mn nm).size∧(mn nm).size≤4:=by
 have h5:=h.lo
 have h6:=h.hi
 have:(mn nm).size=nm.size+2:=by
  show (mn nm).data.toList.length=_
  rw [mn_l]; simp [EN]
 omega
theorem yl{nm:ByteArray}(h:Nm nm){g k:Nat}(hg:g≤999999)(hk:k≤999999)(p2:Int):eA nm p2 (g:Int) (k:Int)=some (fn nm g k):=by
 have h1:(ds g).length≤6:=sP (by omega)
 have h2:(ds k).length≤6:=sP (by omega)
 have h6:=h.hi
 have hs1:(⟨#[46]⟩:ByteArray).size=1:=rfl
 unfold eA
 rw [Aq (by omega),IC,Aq (by omega),IC]
 have l:=aB
 rw [aw (by simp only [ByteArray.size_append,l5,hs1,Iq]; omega),aw (by simp only [ByteArray.size_append,l5,hs1,Iq]; omega),aw (by simp only [ByteArray.size_append,l5,hs1,Iq]; omega),aw (by simp only [ByteArray.size_append,l5,hs1,Iq]; omega),aw (by simp only [ByteArray.size_append,l5,hs1,Iq]; omega)]
 rfl
theorem AQ(nm:ByteArray)(p2:Int):cq nm p2=some (mn nm):=rfl
theorem yv:∀(l:List UInt8) (n:Nat),ND l→ixbF l 46 n = -1
 | [],_,_=>rfl
 | c::l,n,h=>by
  unfold ixbF
  rw [show (c==46)=false from by rw [beq_eq_false_iff_ne]; exact h c It,ar rfl]
  exact yv l (n+1) λq hq=>h q (Iu _ hq)
theorem BK:∀(l x:List UInt8) (n:Nat),ND l→ixbF (l++46::x) 46 n=((n+l.length:Nat):Int)
 | [],x,n,_=>rfl
 | c::l,x,n,h=>by
  rw [List.cons_append]
  unfold ixbF
  rw [show (c==46)=false from by rw [beq_eq_false_iff_ne]; exact h c It,ar rfl,BK l x (n+1) λq hq=>h q (Iu _ hq)]
  simp; omega
theorem Du:∀(l:List UInt8) (n:Nat),ixbF l 46 n = -1∨∃k,ixbF l 46 n=((n+k:Nat):Int)∧k<l.length
 | [],_=>.inl rfl
 | c::l,n=>by
  unfold ixbF
  cases hc:(c==46) with
  | true=>exact .inr ⟨0,rfl,by simp⟩
  | false=>
   rw [ar rfl]
   rcases Du l (n+1) with h | ⟨k,h,h2⟩
   ·exact .inl h
   ·exact .inr ⟨k+1,by rw [h]; congr 1; omega,by simp; omega⟩
theorem Cm(s:ByteArray):kW s=some (ixb s 46)∧bE s=some (ixb s 46):=by
 have h:bE s=some (ixb s 46):=by
  unfold bE eo
  by_cases hs:(⟨#[46]⟩:ByteArray)=s
  ·subst hs; rfl
  ·rw [ar (by rw [beq_eq_false_iff_ne]; exact hs)]; rfl
 exact⟨by unfold kW; rw [h]; rfl,h⟩
theorem Aj{nm:ByteArray}(h:Nm nm):j5 nm=some false:=by
 unfold j5
 rw [(Cm nm).1,IC]
 unfold ixb
 rw [show (46:Int).toNat.toUInt8=46 from rfl,yv _ _ h.nd]; rfl
def cutP(s p:ByteArray):ByteArray×Bool:=if p.size≤s.size∧s.extract 0 p.size=p then (s.extract p.size s.size,true) else (s,false)
theorem AG(s p:ByteArray):iQ s p=some (cutP s p):=by
 unfold iQ ej ee cutP
 have hi:imp (decide (((p.size:Nat):Int)≤((s.size:Nat):Int))) (decide (p.size≤s.size))=true:=by
  unfold imp
  by_cases h:p.size≤s.size
  ·simp [h]
  ·rw [show decide (((p.size:Nat):Int)≤((s.size:Nat):Int))=false from by rw [Ir]; omega]; rfl
 rw [hi,aw rfl,IC]
 by_cases h:p.size≤s.size∧s.extract 0 p.size=p
 ·rw [if_pos h,ar (by simp [h.2]; omega),aw (by simpa using h.1)]; rfl
 ·rw [if_neg h,az ?_]; rfl
  rw [Bool.not_eq_true',Bool.and_eq_false_iff]
  by_cases h1:p.size≤s.size
  ·right; rw [beq_eq_false_iff_ne]; exact λe=>h ⟨h1,e⟩
  ·left; rw [Ir]; omega
def cutD(s:ByteArray):ByteArray×ByteArray×Bool:=if 0≤ixb s 46 then (s.extract 0 (ixb s 46).toNat,s.extract ((ixb s 46).toNat+1) s.size,true) else (s,ByteArray.empty,false)
theorem HT(s:ByteArray)(hs:s.size≤lim):mB s=some (cutD s):=by
 unfold mB gx cutD
 rw [(Cm s).2,IC]
 have hr:ixb s 46 = -1∨∃k,ixb s 46=((k:Nat):Int)∧k<s.size:=by
  unfold ixb
  rcases Du s.data.toList 0 with h | ⟨k,h,h2⟩
  ·exact .inl h
  ·exact .inr ⟨k,by rw [show (46:Int).toNat.toUInt8=46 from rfl,h]; congr 1; omega,h2⟩
 rcases hr with h | ⟨k,h,hk⟩
 ·rw [h]; rfl
 ·rw [aB] at hs
  rw [h,az (by simp),if_pos (by omega),aH (by unfold I64; omega),aw (by simp [inle]; omega),aw (by simp [inle]; omega),show ((k:Int)+1).toNat=k+1 by omega,Iz]; rfl
def pf(nm f:ByteArray):Option (Int×Int):=
 if ((cutP f (nm++(⟨#[46]⟩:ByteArray))).2&&(cutD (cutP f (nm++(⟨#[46]⟩:ByteArray))).1).2.2&&((rdP (cutD (cutP f (nm++(⟨#[46]⟩:ByteArray))).1).1).2==0)&&((rdP (cutD (cutP f (nm++(⟨#[46]⟩:ByteArray))).1).2.1).2==0)&&(decide ((rdP (cutD (cutP f (nm++(⟨#[46]⟩:ByteArray))).1).1).1≤999999))&&(decide (1≤(rdP (cutD (cutP f (nm++(⟨#[46]⟩:ByteArray))).1).2.1).1))&&(decide ((rdP (cutD (cutP f (nm++(⟨#[46]⟩:ByteArray))).1).2.1).1≤999999)))=true
 then some ((rdP (cutD (cutP f (nm++(⟨#[46]⟩:ByteArray))).1).1).1,(rdP (cutD (cutP f (nm++(⟨#[46]⟩:ByteArray))).1).2.1).1) else none
theorem CV(s p:ByteArray):(cutP s p).1.size≤s.size:=by
 unfold cutP
 split
 ·simp only [ByteArray.size_extract]; omega
 ·exact IG _
theorem CU(s:ByteArray):(cutD s).1.size≤s.size∧(cutD s).2.1.size≤s.size:=by
 unfold cutD
 split
 ·simp only [ByteArray.size_extract]; omega
 ·exact⟨IG _,IH _⟩
theorem B5{nm f:ByteArray}(h:nm.size≤2)(hf:f.size≤lim){pred:Int→Int→Option Bool}{q:Int→Int→Bool}(hq:∀a b,pred a b=some (q a b))(k:ao→Option ao)(i:Nat)(o:ao)(ho:o.length+1≤lim):
  bW (dF pred) nm k i f o=k (o++if (pf nm f).any (λx=>q x.1 x.2) then [f] else []):=by
 unfold bW pf
 have hs1:(⟨#[46]⟩:ByteArray).size=1:=rfl
 have l:=aB
 rw [aw (by simp only [ByteArray.size_append,hs1,Iq]; omega),AG,IC]
 have c1:=CV f (nm++(⟨#[46]⟩:ByteArray))
 generalize cutP f (nm++(⟨#[46]⟩:ByteArray))=z24 at c1 ⊢
 rw [aw (by rw [Iq]; omega),HT _ (by omega),IC]
 have c2:=CU z24.1
 generalize cutD z24.1=z27 at c2 ⊢
 rw [aw (by rw [Iq]; omega),Ee,IC,aw (by rw [Iq]; omega),Ee,IC]
 have r1:=G7 z27.1
 have r2:=G7 z27.2.1
 generalize rdP z27.1=z30 at r1 ⊢
 generalize rdP z27.2.1=z33 at r2 ⊢
 generalize hc:((((((z24.2&&z27.2.2)&&(z30.2==0))&&(z33.2==0))&&decide (z30.1≤999999))&&decide (1≤z33.1))&&decide (z33.1≤999999))=c
 cases c with
 | true=>
  rw [az rfl,if_pos rfl,aw r1,aw r2]
  unfold dF
  rw [hq,IC]
  simp only [Option.any_some]
  by_cases hqq:q z30.1 z33.1=true
  ·rw [az hqq,if_pos hqq,aw (by simpa using ho)]; rfl
  ·rw [ar (by simpa using hqq),if_neg hqq,IL]; rfl
 | false=>
  rw [ar rfl,if_neg (by simp)]
  simp
theorem px(s:ByteArray)(i j:Nat):(s.extract i j).data.toList=(s.data.toList.take j).drop i:=by
 rw [ByteArray.data_extract,Array.toList_extract,List.extract_eq_take_drop,List.drop_take]
theorem ui{s p:ByteArray}{x:List UInt8}(h:s.data.toList=p.data.toList++x):cutP s p=(⟨x.toArray⟩,true):=by
 have hsz:s.size=p.size+x.length:=by
  show s.data.toList.length=_
  rw [h,Is]; rfl
 have h1:s.extract 0 p.size=p:=by
  apply j7
  rw [px,h,List.drop_zero,show p.size=p.data.toList.length from rfl,List.take_left]
 unfold cutP
 rw [if_pos ⟨by omega,h1⟩]
 congr 1
 apply j7
 rw [px,List.take_of_length_le (by show s.size≤s.size; exact IG _),h,show p.size=p.data.toList.length from rfl,List.drop_left]
theorem BR{s p:ByteArray}(h:∀x,s.data.toList≠p.data.toList++x):cutP s p=(s,false):=by
 unfold cutP
 rw [if_neg]
 rintro⟨h1,h2⟩
 apply h (s.data.toList.drop p.size)
 have:=congrArg (λb:ByteArray=>b.data.toList) h2
 simp only [px,List.drop_zero] at this
 rw [← this]
 exact(List.take_append_drop p.size s.data.toList).symm
theorem BS{a x:List UInt8}(h:ND a):cutD ⟨(a++46::x).toArray⟩=(⟨a.toArray⟩,⟨x.toArray⟩,true):=by
 have hi:ixb ⟨(a++46::x).toArray⟩ 46=((a.length:Nat):Int):=by
  unfold ixb
  show ixbF (a++46::x) 46 0=_
  rw [BK a x 0 h,Nat.zero_add]
 unfold cutD
 rw [hi,if_pos (by omega),Iz]
 congr 1
 ·apply j7
  rw [px]
  show List.drop 0 (List.take a.length (a++46::x))=a
  rw [List.drop_zero,List.take_left]
 ·congr 1
  apply j7
  rw [px]
  show List.drop (a.length+1) (List.take (a++46::x).length (a++46::x))=x
  rw [IR, ← List.drop_drop,List.drop_left]; rfl
theorem yr{x:List UInt8}(h:ND x):cutD ⟨x.toArray⟩=(⟨x.toArray⟩,ByteArray.empty,false):=by
 have hi:ixb ⟨x.toArray⟩ 46 = -1:=by
  unfold ixb
  show ixbF x 46 0=_
  rw [yv x 0 h]
 unfold cutD
 rw [hi]; rfl
theorem fG{nm:ByteArray}{g k:Nat}(h:gk g k):pf nm (fn nm g k)=some ((g:Int),(k:Int)):=by
 obtain⟨h1,h2,h3⟩:=h
 unfold pf
 rw [ui (x:=ds g++46::ds k) (by rw [fn_l,qy]; simp)]
 simp only
 rw [BS (DU g)]
 simp only
 rw [C9 (by omega),C9 (by omega)]
 rw [if_pos (by simp; omega)]
theorem zK{nm nm':ByteArray}(h:Nm nm)(h':Nm nm'):pf nm (mn nm')=none:=by
 unfold pf
 by_cases e:nm=nm'
 ·subst e
  rw [ui (x:=[109]) (by rw [mn_l,qy]; simp)]
  simp only
  rw [yr (by intro c hc; rw [List.mem_singleton.1 hc]; decide)]
  simp
 ·rw [BR (λx e2=>by
   rw [mn_l,qy] at e2
   have:nm.data.toList++(⟨#[46]⟩:ByteArray).data.toList++x=nm.data.toList++46::x:=by simp
   rw [this] at e2
   exact e (j7 (pu h.nd h'.nd e2.symm).1))]
  rfl
abbrev Mp:=List (ByteArray×List UInt8)
abbrev Cg:=aq
abbrev Dc:=aE
abbrev Dk:=a8
def ap:Cg→Mp→Mp
 | .disk_Disk_Remove_1 a,es=>mdel a es
 | .disk_add_1 n b,es=>mput n ((mget n es).getD []++b) es
 | .disk_Disk_Cut_1 n k,es=>mput n (((mget n es).getD []).take k.toNat) es
def okc:Cg→Mp→Prop
 | .disk_Disk_Cut_1 n k,es=>(mget n es).isSome=true∧0≤k∧k≤(((mget n es).getD []).length:Int)
 | .disk_Disk_Remove_1 a,es=>(mget a es).isSome=true
 | _,_=>True
theorem Ae{c:Cg}{es:Mp}(h:NK es):NK (ap c es):=by
 cases c with
 | disk_Disk_Remove_1 a=>exact h.del
 | disk_add_1 n b=>exact h.put
 | disk_Disk_Cut_1 n k=>exact h.put
theorem yF{c:Cg}{es:Mp}:(ap c es).length≤es.length+1:=by
 cases c with
 | disk_Disk_Remove_1 a=>exact Nat.le_trans wJ (Nat.le_succ _)
 | disk_add_1 n b=>exact t8
 | disk_Disk_Cut_1 n k=>exact t8
theorem v7{n:ByteArray}{b:List UInt8}{es:Mp}:sz (ap (.disk_add_1 n b) es)=sz es+b.length:=by
 have:=Ej (x:=n) (v:=(mget n es).getD []++b) (es:=es)
 rw [Is] at this
 show sz (mput n _ es)=_
 omega
theorem E6{a:ByteArray}{es:Mp}:sz (ap (.disk_Disk_Remove_1 a) es)≤sz es:=by
 have h2:=AL (x:=a) (es:=es)
 show sz (mdel a es)≤_
 omega
theorem EM{n:ByteArray}{k:Int}{es:Mp}:sz (ap (.disk_Disk_Cut_1 n k) es)≤sz es:=by
 have h1:=Ej (x:=n) (v:=((mget n es).getD []).take k.toNat) (es:=es)
 have h2:(((mget n es).getD []).take k.toNat).length≤((mget n es).getD []).length:=by rw [IV]; omega
 show sz (mput n _ es)≤_
 omega
theorem BL{c:Cg}{es:Mp}(hok:okc c es)(h:sz (ap c es)≤lim):cS c es=some (ap c es):=by
 cases c with
 | disk_Disk_Remove_1 a=>rfl
 | disk_add_1 n b=>
  rw [v7] at h
  have:=wg (x:=n) (es:=es)
  show nw es n b=_
  unfold nw iY
  rw [IC,aw (by simp; omega)]; rfl
 | disk_Disk_Cut_1 n k=>
  obtain⟨_,h1,h2⟩:=hok
  show jP es n k=_
  unfold jP
  rw [aw (by simp [inle,h1,h2])]; rfl
def run(cs:List Dc)(es:Mp):Mp:=cs.foldl (λes c=>ap c.do_ es) es
theorem Fe{cs ds:List Dc}{es:Mp}:run (cs++ds) es=run ds (run cs es):=by simp [run,List.foldl_append]
theorem nQ{cs:List Dc}{c:Dc}{es:Mp}:run (cs++[c]) es=ap c.do_ (run cs es):=by simp [run,List.foldl_append]
theorem oG{cs:List Dc}{k:Nat}{es:Mp}(h:k<cs.length):run (cs.take (k+1)) es=ap (gt cs k).do_ (run (cs.take k) es):=by rw [yy h,nQ]
theorem nM{cs:List Dc}{es:Mp}(h:NK es):NK (run cs es):=by
 induction cs generalizing es with
 | nil=>exact h
 | cons c cs ih=>exact ih (Ae h)
def Tl(c:Dc):Prop:=match c.do_ with
 | .disk_add_1 n b=>c.name=n∧c.tail=b
 | _=>c.tail = []
structure DI (R N:Nat) (d:Dk):Prop where
 rd:d.room=(R:Int)
 see:d.seen=run d.loose d.safe_
 nks:NK d.safe_
 szs:∀k,k≤d.loose.length→sz (run (d.loose.take k) d.safe_)≤R
 lns:∀k,k≤d.loose.length→(run (d.loose.take k) d.safe_).length≤N
 oks:∀k,k<d.loose.length→okc (gt d.loose k).do_ (run (d.loose.take k) d.safe_)
 tls:∀k,k<d.loose.length→Tl (gt d.loose k)
 ll:d.loose.length≤N
def MX:Nat:=1073741824
theorem kg{R:Nat}(hR:R≤MX):R≤lim:=by rw [aB]; unfold MX at hR; omega
section
variable {R N:Nat} {d:Dk}
theorem DI.mono(h:DI R N d){M:Nat}(hm:N≤M):DI R M d:=⟨h.rd,h.see,h.nks,h.szs,λk hk=>Nat.le_trans (h.lns k hk) hm,h.oks,h.tls,Nat.le_trans h.ll hm⟩
theorem DI.nk(h:DI R N d):NK d.seen:=by rw [h.see]; exact nM h.nks
theorem DI.sz(h:DI R N d):Fw.sz d.seen≤R:=by
 rw [h.see]
 have:=h.szs d.loose.length (IG _)
 rwa [IR] at this
theorem DI.ln(h:DI R N d):d.seen.length≤N:=by
 rw [h.see]
 have:=h.lns d.loose.length (IG _)
 rwa [IR] at this
theorem DI.clean{r:Int}{es:Mp}(hr:r=(R:Int))(h1:NK es)(h2:Fw.sz es≤R)(h3:es.length≤N):DI R N ⟨r,es,es,[]⟩:=
 ⟨hr,rfl,h1,λk hk=>by simpa [run] using h2,λk hk=>by simpa [run] using h3,λk hk=>absurd hk (Nat.not_lt_zero _),λk hk=>absurd hk (Nat.not_lt_zero _),IH _⟩
def okn(n:ByteArray):Bool:=decide (1≤n.size)&&decide (n.size≤16)
theorem FJ(s:ByteArray):(decide (((s.size:Nat):Int)<1)||decide (16<((s.size:Nat):Int)))=!okn s:=by
 unfold okn
 rw [Bool.eq_iff_iff]
 simp only [Bool.or_eq_true,Iq,Bool.not_eq_true',Bool.and_eq_false_iff,Ir]
 omega
theorem CA(l:List ByteArray):lN l=some (l.all okn):=by
 unfold lN
 refine(fQ (λi _=>some ((l.drop i).all okn)) (λ_ _=>True) (λs _=>?_) (λf i s hi _ hf=>?_) trivial)
 ·rw [IB (IG _)]; rfl
 ·unfold qc
  rw [hf () trivial,cj hi,List.all_cons]
  rw [FJ]
  cases okn (gt l i) <;> rfl
theorem Gy{l:List UInt8}(h:l.length≤lim):dh l=some l:=by
 unfold dh nilc
 cases l with
 | nil=>rfl
 | cons x l=>rw [aw (by simpa using h)]; rfl
theorem zJ:∀(es:Mp) (n:Int),0≤n→n+(sz es:Int)≤4611686018427387904→fldO iL n es=some (n+(sz es:Int))
 | [],n,_,_=>by simp [fldO,Fw.sz]
 | p::es,n,h0,h1=>by
  have hs:Fw.sz (p::es)=p.2.length+Fw.sz es:=by simp [Fw.sz]
  rw [hs] at h1 ⊢
  unfold fldO iL
  rw [IC,aH (by unfold I64; omega)]
  have:=zJ es (n+(p.2.length:Int)) (by omega) (by omega)
  unfold iL at this
  rw [this]; congr 1; omega
theorem He{d:Dk}(h:Fw.sz d.seen≤lim):kE d=some (Fw.sz d.seen:Int):=by
 unfold kE
 rw [aB] at h
 rw [zJ _ _ (Int.le_refl 0) (by omega),IC,Int.zero_add]
def m6(d:Dk)(c:Dc):Dk:=⟨d.room,d.safe_,ap c.do_ d.seen,d.loose++[c]⟩
def dApp(d:Dk)(n:ByteArray)(b:List UInt8):Dk×Int:=
 bif !okn n then (d,70) else bif decide (d.room - (Fw.sz d.seen:Int)<(b.length:Int)) then (d,72) else (m6 d ⟨.disk_add_1 n b,n,b⟩,0)
def fS(d:Dk)(n:ByteArray):Int:=bif !okn n then 70 else bif !(mget n d.seen).isSome then 71 else 0
def dCut(d:Dk)(n:ByteArray)(k:Int):Dk×Int:=
 bif fS d n != 0 then (d,fS d n) else bif decide (k<0)||decide (((((mget n d.seen).getD []).length:Nat):Int)<k) then (d,1) else (m6 d ⟨.disk_Disk_Cut_1 n k,ByteArray.empty,[]⟩,0)
def dRem(d:Dk)(n:ByteArray):Dk×Int:=
 bif fS d n != 0 then (d,fS d n) else (m6 d ⟨.disk_Disk_Remove_1 n,ByteArray.empty,[]⟩,0)
theorem B6(h:DI R N d)(hR:R≤lim)(hN:N+1≤lim){c:Dc}(h1:Fw.sz (ap c.do_ d.seen)≤R)(h2:okc c.do_ d.seen):gi d c=some (m6 d c,0):=by
 unfold gi
 have:=h.ll
 rw [BL h2 (Nat.le_trans h1 hR),IC,aw (by simp; omega)]; rfl
theorem DI.done(h:DI R N d){c:Dc}(h1:Fw.sz (ap c.do_ d.seen)≤R)(h2:okc c.do_ d.seen)(h4:Tl c):DI R (N+1) (m6 d c):=by
 have hs:=h.see
 have hk:∀k,k≤(d.loose++[c]).length→k≤d.loose.length∧(d.loose++[c]).take k=d.loose.take k∨k=d.loose.length+1∧(d.loose++[c]).take k=d.loose++[c]:=λk hk=>by
  rw [Is] at hk
  simp only [Iy,IK] at hk
  rcases Nat.lt_or_ge d.loose.length k with h | h
  ·right; exact⟨by omega,List.take_of_length_le (by simp; omega)⟩
  ·left; exact⟨h,by rw [List.take_append_of_le_length h]⟩
 have hg:∀k,k<(d.loose++[c]).length→k<d.loose.length∧gt (d.loose++[c]) k=gt d.loose k∨k=d.loose.length∧gt (d.loose++[c]) k=c:=λk hk=>by
  rw [Is] at hk
  simp only [Iy,IK] at hk
  rcases Nat.lt_or_ge k d.loose.length with h5 | h5
  ·left; exact⟨h5,gD h5⟩
  ·right
   have:k=d.loose.length:=by omega
   subst this
   exact⟨rfl,by rw [cM (IG _),Nat.sub_self]; rfl⟩
 refine⟨h.rd,?_,h.nks,λk q=>?_,λk q=>?_,λk q=>?_,λk q=>?_,?_⟩
 ·show ap c.do_ d.seen=run (d.loose++[c]) d.safe_
  rw [nQ, ← hs]
 ·rcases hk k q with ⟨a,b⟩ | ⟨a,b⟩
  ·show Fw.sz (run ((d.loose++[c]).take k) d.safe_)≤R
   rw [b]; exact h.szs k a
  ·show Fw.sz (run ((d.loose++[c]).take k) d.safe_)≤R
   rw [b,nQ, ← hs]; exact h1
 ·rcases hk k q with ⟨a,b⟩ | ⟨a,b⟩
  ·show (run ((d.loose++[c]).take k) d.safe_).length≤_
   rw [b]; exact Nat.le_trans (h.lns k a) (Nat.le_succ _)
  ·show (run ((d.loose++[c]).take k) d.safe_).length≤_
   rw [b,nQ, ← hs]
   have:=h.ln
   have h6:=yF (c:=c.do_) (es:=d.seen)
   omega
 ·rcases hg k q with ⟨a,b⟩ | ⟨a,b⟩
  ·show okc (gt (d.loose++[c]) k).do_ (run ((d.loose++[c]).take k) d.safe_)
   rw [b,List.take_append_of_le_length (Nat.le_of_lt a)]; exact h.oks k a
  ·show okc (gt (d.loose++[c]) k).do_ (run ((d.loose++[c]).take k) d.safe_)
   rw [b,a,List.take_append_of_le_length (IG _),IR, ← hs]; exact h2
 ·rcases hg k q with ⟨a,b⟩ | ⟨a,b⟩
  ·show Tl (gt (d.loose++[c]) k)
   rw [b]; exact h.tls k a
  ·show Tl (gt (d.loose++[c]) k)
   rw [b]; exact h4
 ·show (d.loose++[c]).length≤_
  have:=h.ll
  simp; omega
theorem EG{z:Nat}(hR:R≤MX)(hz:z≤R):w64 ((R:Int) - (z:Int))=(R:Int) - (z:Int):=aH (by unfold I64 MX at *; omega)
theorem EI(h:DI R N d)(hR:R≤MX)(hN:N+1≤lim)(n:ByteArray)(b:List UInt8):cd d n b=some (dApp d n b)∧DI R (N+1) (dApp d n b).1:=by
 have hs:=h.sz
 have hR2:=kg hR
 unfold cd dApp
 rw [CA,IC]
 simp only [List.all_cons,List.all_nil,Bool.and_true]
 cases okn n with
 | false=>exact⟨rfl,h.mono (Nat.le_succ _)⟩
 | true=>
  rw [show (!true)=false from rfl,ar rfl,ar rfl,He (Nat.le_trans hs hR2),IC,h.rd,EG hR hs]
  cases hc:decide ((R:Int) - (Fw.sz d.seen:Int)<((b.length:Nat):Int)) with
  | true=>exact⟨rfl,h.mono (Nat.le_succ _)⟩
  | false=>
   have hc:=of_decide_eq_false hc
   have h1:Fw.sz (ap (.disk_add_1 n b) d.seen)≤R:=by rw [v7]; omega
   rw [ar rfl,ar rfl,Gy (by omega),IC]
   unfold nE
   rw [IC,B6 h hR2 hN (c:=⟨.disk_add_1 n b,n,b⟩) h1 trivial]
   exact⟨rfl,h.done (c:=⟨.disk_add_1 n b,n,b⟩) h1 trivial ⟨rfl,rfl⟩⟩
theorem C4(n:ByteArray):ip d n=some (fS d n):=by
 unfold ip fS
 rw [CA,IC]
 simp only [List.all_cons,List.all_nil,Bool.and_true]
 cases okn n <;> cases (mget n d.seen).isSome <;> rfl
theorem BP(n:ByteArray):i64b (fS d n)=true:=by
 unfold fS
 cases okn n <;> cases (mget n d.seen).isSome <;> decide
theorem uh{n:ByteArray}(h:(fS d n != 0)=false):okn n=true∧(mget n d.seen).isSome=true:=by
 unfold fS at h
 cases h1:okn n <;> cases h2:(mget n d.seen).isSome <;> rw [h1,h2] at h <;> first | exact⟨rfl,rfl⟩ | exact absurd h (by decide)
theorem Bw{n:ByteArray}(h:okn n=true)(h2:(mget n d.seen).isSome=true):fS d n=0:=by
 unfold fS; rw [h,h2]; rfl
theorem Hd(h:DI R N d)(hR:R≤MX)(hN:N+1≤lim)(n:ByteArray)(k:Int):kY d n k=some (dCut d n k)∧DI R (N+1) (dCut d n k).1:=by
 have hs:=h.sz
 unfold kY dCut
 rw [C4,IC]
 cases ht:fS d n != 0 with
 | true=>rw [az rfl,az rfl,aw (BP n)]; exact⟨rfl,h.mono (Nat.le_succ _)⟩
 | false=>
  rw [ar rfl,ar rfl]
  cases hc:decide (k<0)||decide (((((mget n d.seen).getD []).length:Nat):Int)<k) with
  | true=>exact⟨rfl,h.mono (Nat.le_succ _)⟩
  | false=>
   simp only [Bool.or_eq_false_iff,Ir] at hc
   have h1:Fw.sz (ap (.disk_Disk_Cut_1 n k) d.seen)≤R:=Nat.le_trans (EM (n:=n) (k:=k)) hs
   have h2:okc (.disk_Disk_Cut_1 n k) d.seen:=⟨(uh ht).2,by omega,by omega⟩
   rw [ar rfl,ar rfl,B6 h (kg hR) hN (c:=⟨.disk_Disk_Cut_1 n k,ByteArray.empty,[]⟩) h1 h2]
   exact⟨rfl,h.done (c:=⟨.disk_Disk_Cut_1 n k,ByteArray.empty,[]⟩) h1 h2 rfl⟩
theorem HQ(h:DI R N d)(hR:R≤MX)(hN:N+1≤lim)(n:ByteArray):gy d n=some (dRem d n)∧DI R (N+1) (dRem d n).1:=by
 have hs:=h.sz
 unfold gy dRem
 rw [C4,IC]
 cases ht:fS d n != 0 with
 | true=>rw [az rfl,az rfl,aw (BP n)]; exact⟨rfl,h.mono (Nat.le_succ _)⟩
 | false=>
  have h1:Fw.sz (ap (.disk_Disk_Remove_1 n) d.seen)≤R:=Nat.le_trans (E6 (a:=n)) hs
  have h2:okc (.disk_Disk_Remove_1 n) d.seen:=(uh ht).2
  rw [ar rfl,ar rfl,B6 h (kg hR) hN (c:=⟨.disk_Disk_Remove_1 n,ByteArray.empty,[]⟩) h1 h2]
  exact⟨rfl,h.done (c:=⟨.disk_Disk_Remove_1 n,ByteArray.empty,[]⟩) h1 h2 rfl⟩
def iW(d:Dk):Dk:=⟨d.room,d.seen,d.seen,[]⟩
theorem uW:bo d=some (iW d):=rfl
theorem DI.sync(h:DI R N d):DI R N (iW d):=DI.clean h.rd h.nk h.sz h.ln
theorem e_Rd(h:DI R N d)(hR:R≤MX)(n:ByteArray):eR d n=some ((mget n d.seen).getD [],(mget n d.seen).isSome):=by
 unfold eR
 rw [Gy (Nat.le_trans wg (Nat.le_trans h.sz (kg hR)))]; rfl
theorem yu(h:DI R N d)(hN:N≤lim):hQ d=some (dg d.seen):=by
 unfold hQ
 have:=h.ln
 rw [aw (by simp; omega)]
theorem sr{κ α:Type}[DecidableEq κ]{x:κ}{v w:α}:∀{es:List (κ×α)},(mput x v es).length=(mput x w es).length
 | []=>rfl
 | p::es=>by
  unfold mput
  split
  ·rfl
  ·exact congrArg (· + 1) (sr (x:=x) (v:=v) (w:=w) (es:=es))
def cK(d:Dk)(keep:Int):Nat:=(min (max keep 0) ((d.loose.length:Nat):Int)).toNat
def cT(d:Dk)(k:Nat)(torn:Int):Bool:=decide (k<d.loose.length)&&(decide (0<torn)&&decide (0<(gt d.loose k).tail.length))
def dw(d:Dk)(keep torn:Int):Mp:=
 bif cT d (cK d keep) torn then ap (.disk_add_1 (gt d.loose (cK d keep)).name ((gt d.loose (cK d keep)).tail.take torn.toNat)) (run (d.loose.take (cK d keep)) d.safe_) else run (d.loose.take (cK d keep)) d.safe_
def pH(d:Dk)(keep torn:Int):Dk:=⟨d.room,dw d keep torn,dw d keep torn,[]⟩
theorem GA(keep:Int):min (max keep 0) ((d.loose.length:Nat):Int)=((cK d keep:Nat):Int):=by unfold cK; omega
theorem wu(keep:Int):cK d keep≤d.loose.length:=by unfold cK; omega
theorem wZ(h:DI R N d){k:Nat}{torn:Int}(hc:cT d k torn=true):k<d.loose.length∧0<torn∧(gt d.loose k).do_ = .disk_add_1 (gt d.loose k).name (gt d.loose k).tail:=by
 unfold cT at hc
 simp only [Iw,Iq] at hc
 obtain⟨h1,h2,h3⟩:=hc
 have htl:=h.tls k h1
 unfold Tl at htl
 cases hd:(gt d.loose k).do_ with
 | disk_add_1 n b=>
  rw [hd] at htl
  simp only at htl
  exact⟨h1,h2,by rw [htl.1,htl.2]⟩
 | disk_Disk_Remove_1 a=>rw [hd] at htl; simp only at htl; rw [htl] at h3; exact absurd h3 (Nat.lt_irrefl 0)
 | disk_Disk_Cut_1 a k'=>rw [hd] at htl; simp only at htl; rw [htl] at h3; exact absurd h3 (Nat.lt_irrefl 0)
theorem BT(h:DI R N d){k:Nat}{torn:Int}(hc:cT d k torn=true):Fw.sz (ap (.disk_add_1 (gt d.loose k).name ((gt d.loose k).tail.take torn.toNat)) (run (d.loose.take k) d.safe_))≤R ∧
  (ap (.disk_add_1 (gt d.loose k).name ((gt d.loose k).tail.take torn.toNat)) (run (d.loose.take k) d.safe_)).length≤N:=by
 obtain⟨h1,_,h2⟩:=wZ h hc
 have s1:=h.szs (k+1) h1
 have l1:=h.lns (k+1) h1
 rw [oG h1,h2] at s1 l1
 rw [v7] at s1 ⊢
 refine⟨?_,?_⟩
 ·rw [IV]; omega
 ·exact Nat.le_trans (Nat.le_of_eq sr) l1
theorem DI.crash(h:DI R N d)(keep torn:Int):DI R N (pH d keep torn):=by
 unfold pH
 have:NK (dw d keep torn)∧Fw.sz (dw d keep torn)≤R∧(dw d keep torn).length≤N:=by
  unfold dw
  cases hc:cT d (cK d keep) torn with
  | true=>simp only [cond_true]; exact⟨Ae (nM h.nks),BT h hc⟩
  | false=>simp only [cond_false]; exact⟨nM h.nks,h.szs _ (wu keep),h.lns _ (wu keep)⟩
 exact DI.clean h.rd this.1 this.2.1 this.2.2
theorem Fg(h:DI R N d)(hR:R≤MX)(keep torn:Int):ie d keep torn=some (pH d keep torn):=by
 have hle:=wu (d:=d) keep
 unfold ie
 simp only [GA,Iz]
 rw [aw (by simp [inle]; omega)]
 refine oI (λi x=>x=run (d.loose.take i) d.safe_) (λx hx=>?_) (λf i x hi hx hf=>?_) rfl
 ·rw [IV,Nat.min_eq_left hle] at hx
  subst hx
  unfold pH dw fi
  by_cases hk:cK d keep<d.loose.length
  ·rw [az (by simpa using hk),aw (by simp [inb]; omega)]
   have hct:decide (0<min (max torn 0) (((gt d.loose (cK d keep)).tail.length:Nat):Int))=cT d (cK d keep) torn:=by
    unfold cT
    rw [Bool.eq_iff_iff]
    simp only [Iw,Iq]
    omega
   rw [hct]
   cases hc:cT d (cK d keep) torn with
   | false=>rfl
   | true=>
    obtain⟨_,ht,_⟩:=wZ h hc
    have htk:List.take (min (max torn 0) (((gt d.loose (cK d keep)).tail.length:Nat):Int)).toNat (gt d.loose (cK d keep)).tail=(gt d.loose (cK d keep)).tail.take torn.toNat:=by
     rw [List.take_eq_take_iff]; omega
    unfold nE
    rw [az rfl,aw (by simp [inle]; omega),IC,htk,BL (c:=.disk_add_1 _ _) trivial (Nat.le_trans (BT h hc).1 (kg hR))]; rfl
  ·rw [ar (by simpa using hk)]
   have:cT d (cK d keep) torn=false:=by unfold cT; simp [hk]
   rw [this]; rfl
 ·subst hx
  rw [IV,Nat.min_eq_left hle] at hi
  have hg:gt (d.loose.take (cK d keep)) i=gt d.loose i:=by
   rw [fx (by rw [IV]; omega),fx (by omega),List.getElem_take]
  unfold mY
  have hz:=h.szs (i+1) (by omega)
  rw [oG (by omega)] at hz
  rw [hg,BL (h.oks i (by omega)) (Nat.le_trans hz (kg hR)),IC]
  exact hf _ (by rw [oG (by omega)])
end
def rm(room:Int):Nat:=(min (max room 0) 1073741824).toNat
theorem HY(room:Int):rm room≤MX:=by unfold rm MX; omega
def d0(room:Int):Dk:=⟨(rm room:Int),[],[],[]⟩
theorem Hq(room:Int):nN room=some (d0 room):=by
 unfold nN d0 rm
 rw [show (((min (max room 0) 1073741824).toNat:Nat):Int)=min (max room 0) 1073741824 by omega]
theorem yn(l:List UInt8):Rk (allB l).1:=by
 have key:∀(n:Nat) (l:List UInt8),l.length≤n→Rk (allB l).1:=by
  intro n
  induction n with
  | zero=>
   intro l h
   have:l = []:=List.eq_nil_of_length_eq_zero (by omega)
   subst this
   intro x hx; cases hx
  | succ n ih=>
   intro l h
   rw [rJ]
   split
   ·intro x hx; cases hx
   ·split
    ·intro x hx; cases hx
    ·rename_i he
     have hk:=pB (l:=l) (by simpa using he)
     intro x hx
     rcases List.mem_cons.1 hx with e | hx
     ·rw [e]; exact hk.2.2
     ·exact ih (l.drop (cG l).2.1) (by rw [IW]; omega) x hx
 exact key l.length l (IG _)
def mK:Nat→List (List UInt8)→Option Nat
 | g,[]=>some g
 | g,x::l=>if (numF 0 0 x).2.2≠0∨(numF 0 0 x).2.1≠x.length∨(numF 0 0 x).1<1∨999999<(numF 0 0 x).1 then none else mK (numF 0 0 x).1 l
def wB(at_:Nat):Option Nat→Int×Int×Int
 | some g=>((g:Int),(at_:Int),0)
 | none=>(0,0,2)
theorem wR{at_:Nat}:∀(l:List (List UInt8)) (i g:Nat),Rk l→g≤999999→forI iS (λgen_33=>chk (i64b gen_33) (some (gen_33,(at_:Int),0))) i l (g:Int)=some (wB at_ (mK g l))
 | [],i,g,_,hg=>by
  show chk (i64b (g:Int)) (some ((g:Int),(at_:Int),0))=_
  rw [aw (by unfold i64b; simp; omega)]; rfl
 | x::l,i,g,hr,hg=>by
  have hx:=hr x It
  rw [forI]
  show Option.bind (gX x 0) (λz44=>bif ((((z44.2.2 != 0)||(z44.2.1 != ((x.length:Nat):Int)))||(decide (z44.1<1)))||(decide (999999<z44.1))) then some (0,0,2) else forI iS (λgen_33=>chk (i64b gen_33) (some (gen_33,(at_:Int),0))) (i+1) l z44.1)=_
  have e:=zl (b:=x) (at_:=0) (by rw [aB]; omega) (IH _)
  rw [show ((0:Nat):Int)=0 from rfl,List.drop_zero] at e
  rw [e,IC]
  unfold mK numR
  generalize numF 0 0 x=r
  obtain⟨n,k,er⟩:=r
  simp only [Nat.zero_add]
  by_cases hc:er≠0∨k≠x.length∨n<1∨999999<n
  ·rw [if_pos hc,az ?_]; rfl
   simp only [Bool.or_eq_true,bne_iff_ne,Iq]
   rcases hc with h | h | h | h
   ·exact .inl (.inl (.inl h))
   ·by_cases he:er=0
    ·rw [if_pos he]; exact .inl (.inl (.inr (by omega)))
    ·exact .inl (.inl (.inl he))
   ·exact .inl (.inr (by omega))
   ·exact .inr (by omega)
  ·rw [if_neg hc]
   have h1:er=0:=Classical.byContradiction λh=>hc (.inl h)
   have h2:k=x.length:=Classical.byContradiction λh=>hc (.inr (.inl h))
   have h3:¬ n<1:=λh=>hc (.inr (.inr (.inl h)))
   have h4:¬ 999999<n:=λh=>hc (.inr (.inr (.inr h)))
   rw [if_pos h1,ar ?_]
   ·exact wR l (i+1) n (λy hy=>hr y (Iu _ hy)) (by omega)
   ·simp only [Bool.or_eq_false_iff,bne_eq_false_iff_eq,Ir]
    exact⟨⟨⟨h1,by omega⟩,by omega⟩,by omega⟩
section
variable {R N:Nat} {d:Dk}
def fb(d:Dk)(f:ByteArray):List UInt8:=(mget f d.seen).getD []
theorem wE(h:DI R N d)(hR:R≤MX)(f:ByteArray):(fb d f).length≤lim:=Nat.le_trans wg (Nat.le_trans h.sz (kg hR))
theorem e_holds(h:DI R N d)(hR:R≤MX){nm:ByteArray}(hn:Nm nm)(p2:Int):m_seglog_place_holds nm p2 d=some (wB (allB (fb d (mn nm))).2.1 (mK 0 (allB (fb d (mn nm))).1)):=by
 unfold m_seglog_place_holds
 have hs:=rA hn
 rw [AQ,IC,aw (by rw [aB,Iq]; omega),e_Rd h hR,IC]
 obtain⟨e,he⟩:=E9 (wE h hR (mn nm))
 unfold fb at he ⊢
 simp only
 rw [he,IC]
 exact wR _ 0 0 (yn _) (by omega)
def kf(d:Dk)(f:ByteArray)(n:Nat):Dk:=if n<(fb d f).length then (dCut d f (n:Int)).1 else d
theorem vX(h:DI R N d)(hR:R≤MX)(hN:N+1≤lim)(p1:ByteArray)(p2:Int)(f:ByteArray)(n:Nat):ei p1 p2 f (n:Int) d=some (kf d f n)∧DI R (N+1) (kf d f n):=by
 unfold ei kf
 rw [e_Rd h hR,IC]
 simp only
 obtain⟨a,b⟩:=Hd h hR hN f (n:Int)
 by_cases hc:n<(fb d f).length
 ·rw [if_pos hc,az (by rw [Iq]; unfold fb at hc; omega),a]
  exact⟨rfl,b⟩
 ·rw [if_neg hc,ar (by rw [Ir]; unfold fb at hc; omega)]
  exact⟨rfl,h.mono (Nat.le_succ _)⟩
theorem qT{f:ByteArray}{n:Nat}(h:(fb d f).length≤n):kf d f n=d:=by unfold kf; rw [if_neg (by omega)]
theorem w9{f:ByteArray}{n:Nat}(hf:okn f=true)(h:n<(fb d f).length):(kf d f n).seen=mput f ((fb d f).take n) d.seen∧(kf d f n).loose.length=d.loose.length+1:=by
 have hp:(mget f d.seen).isSome=true:=by
  unfold fb at h
  cases hm:mget f d.seen with
  | none=>rw [hm] at h; exact absurd h (Nat.not_lt_zero _)
  | some v=>rfl
 unfold kf
 rw [if_pos h]
 unfold dCut
 rw [Bw hf hp,ar (by decide),ar (by unfold fb at h; simp; omega)]
 exact⟨rfl,by show (d.loose++[_]).length=_; simp⟩
def remL(d:Dk)(l:List ByteArray):Dk:=l.foldl (λd f=>(dRem d f).1) d
def bA(nm:ByteArray)(q:Int→Int→Bool)(es:Mp):List ByteArray:=(dg es).filter λf=>(pf nm f).any λx=>q x.1 x.2
theorem r7{R:Nat}(hR:R≤MX):∀(l:List ByteArray) (i N:Nat) (d:Dk),DI R N d→N+l.length≤lim→forI gz some i l d=some (remL d l)∧DI R (N+l.length) (remL d l)
 | [],_,_,d,h,_=>⟨rfl,h⟩
 | f::l,i,N,d,h,hN=>by
  simp only [Iy] at hN
  obtain⟨a,b⟩:=HQ h hR (by omega) f
  rw [forI]
  show Option.bind (gy d f) (λz=>forI gz some (i+1) l z.1)=_∧_
  rw [a,IC]
  obtain⟨a2,b2⟩:=r7 hR l (i+1) (N+1) _ b (by omega)
  exact⟨a2,by rw [Iy,show N+(l.length+1)=N+1+l.length by omega]; exact b2⟩
theorem sD{nm:ByteArray}(h:nm.size≤2){pred:Int→Int→Option Bool}{q:Int→Int→Bool}(hq:∀a b,pred a b=some (q a b)):∀(l:List ByteArray) (i:Nat) (o:List ByteArray),(∀f∈l,f.size≤lim)→o.length+l.length≤lim →
  forI (bW (dF pred) nm) (λo13=>some o13) i l o=some (o++l.filter λf=>(pf nm f).any λx=>q x.1 x.2)
 | [],_,o,_,_=>by simp [forI]
 | f::l,i,o,hf,ho=>by
  simp only [Iy] at ho
  rw [forI,B5 h (hf f It) hq _ _ _ (by omega)]
  rw [sD h hq l (i+1) _ (λg hg=>hf g (Iu _ hg)) (by split <;> simp <;> omega)]
  by_cases hc:(pf nm f).any (λx=>q x.1 x.2)=true
  ·rw [if_pos hc,List.filter_cons_of_pos (by simpa using hc)]; simp
  ·rw [if_neg hc,List.filter_cons_of_neg (by simpa using hc)]; simp
def Ks(es:Mp):Prop := ∀k,(mget k es).isSome=true→okn k=true
theorem Ai(h:DI R N d)(hR:R≤MX)(hN:N+N≤lim){nm:ByteArray}(hn:nm.size≤2)(hk:Ks d.seen){pred:Int→Int→Option Bool}{q:Int→Int→Bool}(hq:∀a b,pred a b=some (q a b))(g:Int):
  aD d nm g pred=some (remL d (bA nm q d.seen))∧DI R (N+N) (remL d (bA nm q d.seen)):=by
 have hln:=h.ln
 have hlen:(bA nm q d.seen).length≤N:=Nat.le_trans (List.length_filter_le _ _) (by rw [gh]; exact hln)
 have hkl:∀f∈dg d.seen,f.size≤lim:=λf hf=>by
  have:=hk f (dD.2 (lh.1 hf))
  unfold okn at this
  simp only [Iw,Iq] at this
  rw [aB]; omega
 unfold aD fR
 rw [yu h (by omega),IC]
 have hp:=sD hn hq (dg d.seen) 0 [] hkl (by rw [gh]; simp; omega)
 rw [IO] at hp
 show Option.bind (forI (bW (dF pred) nm) (λo13=>some o13) 0 (dg d.seen) []) (λl=>forI gz some 0 l d)=_∧_
 rw [hp,IC]
 obtain⟨a,b⟩:=r7 hR (bA nm q d.seen) 0 N d h (by omega)
 exact⟨a,b.mono (by omega)⟩
theorem Ag{f:ByteArray}(hf:okn f=true)(hp:(mget f d.seen).isSome=true):(dRem d f).1.seen=mdel f d.seen∧(dRem d f).1.loose.length=d.loose.length+1:=by
 unfold dRem
 rw [Bw hf hp,ar (by decide)]
 exact⟨rfl,by show (d.loose++[_]).length=_; simp⟩
theorem yg:∀(l:List ByteArray) (d:Dk),NK d.seen→l.Nodup→(∀f∈l,okn f=true∧(mget f d.seen).isSome=true)→(∀k,mget k (remL d l).seen=if k∈l then none else mget k d.seen)∧(remL d l).loose.length=d.loose.length+l.length
 | [],d,_,_,_=>⟨λk=>by rw [if_neg (by simp)]; rfl,rfl⟩
 | f::l,d,hn,hd,hl=>by
  rw [List.nodup_cons] at hd
  obtain⟨h1,h2⟩:=hl f It
  obtain⟨s1,s2⟩:=Ag h1 h2
  have hn2:NK (dRem d f).1.seen:=by rw [s1]; exact hn.del
  have hl2:∀g∈l,okn g=true∧(mget g (dRem d f).1.seen).isSome=true:=λg hg=>by
   obtain⟨a,b⟩:=hl g (Iu _ hg)
   refine⟨a,?_⟩
   rw [s1,fC hn,if_neg (show ¬ g=f from λe=>hd.1 (e▸hg))]; exact b
  obtain⟨r1,r2⟩:=yg l (dRem d f).1 hn2 hd.2 hl2
  refine⟨λk=>?_,?_⟩
  ·show mget k (remL (dRem d f).1 l).seen=_
   rw [r1 k,s1,fC hn]
   by_cases hk:k∈l
   ·rw [if_pos hk,if_pos (Iu _ hk)]
   ·rw [if_neg hk]
    by_cases hf:k=f
    ·rw [if_pos hf,if_pos (hf▸It)]
    ·rw [if_neg hf,if_neg (by simp [hf,hk])]
  ·show (remL (dRem d f).1 l).loose.length=_
   rw [r2,s2,Iy]; omega
theorem xK{nm:ByteArray}{q:Int→Int→Bool}{es:Mp}(hn:NK es):(bA nm q es).Nodup:=(za hn).filter _
theorem l9{nm:ByteArray}{q:Int→Int→Bool}{es:Mp}{k:ByteArray}:k∈bA nm q es↔(mget k es).isSome=true∧(pf nm k).any (λx=>q x.1 x.2)=true:=by
 unfold bA
 rw [List.mem_filter,lh,dD]
theorem tN{nm:ByteArray}{q:Int→Int→Bool}(h:DI R N d)(hk:Ks d.seen):(∀k,mget k (remL d (bA nm q d.seen)).seen=if (pf nm k).any (λx=>q x.1 x.2)=true then none else mget k d.seen) ∧
  (remL d (bA nm q d.seen)).loose.length=d.loose.length+(bA nm q d.seen).length:=by
 obtain⟨a,b⟩:=yg (bA nm q d.seen) d h.nk (xK h.nk) λf hf=>by
  have:=(l9.1 hf).1
  exact⟨hk f this,this⟩
 refine⟨λk=>?_,b⟩
 rw [a k]
 by_cases hc:(pf nm k).any (λx=>q x.1 x.2)=true
 ·rw [if_pos hc]
  split
  ·rfl
  ·rename_i hm
   cases hs:mget k d.seen with
   | none=>rfl
   | some v=>exact absurd (l9.2 ⟨by rw [hs]; rfl,hc⟩) hm
 ·rw [if_neg hc,if_neg (λhm=>hc (l9.1 hm).2)]
end
abbrev Bs:=List (List UInt8)
def tot(bs:Bs):Nat:=(bs.map List.length).sum
def eZ(bs:Bs):List UInt8:=bs.getLastD []
theorem oe(a b:Bs):tot (a++b)=tot a+tot b:=by simp [tot]
theorem dZ(a:List UInt8)(b:Bs):tot (a::b)=a.length+tot b:=by simp [tot]
theorem l6(a:Bs)(b:List UInt8):eZ (a++[b])=b:=by simp [eZ]
theorem yp(bs:Bs):(eZ bs).length≤tot bs:=by
 rcases List.eq_nil_or_concat bs with h | ⟨l,b,h⟩
 ·rw [h]; exact IG _
 ·rw [h,List.concat_eq_append,l6,oe,dZ]; omega
def lg(nm:ByteArray)(g:Nat)(size:Int)(bs:Bs)(cnt:Nat):ai:=⟨nm,(g:Int),size,(bs.length:Int),((eZ bs).length:Int),(cnt:Int),(tot bs:Int)⟩
def Has(nm:ByteArray)(g:Nat)(bs:Bs)(es:Mp):Prop:=bs.length≤999999∧∀k,1≤k→k≤999999→mget (fn nm g k) es=bs[k - 1]?
theorem BF:∀(ks:List ByteArray) (es:Mp),NK es→ks.Nodup→(ks.map λk=>((mget k es).getD []).length).sum≤sz es
 | [],_,_,_=>IH _
 | k::ks,es,hn,hd=>by
  rw [List.nodup_cons] at hd
  have ih:=BF ks (mdel k es) hn.del hd.2
  have hs:=AL (x:=k) (es:=es)
  have:(ks.map λj=>((mget j (mdel k es)).getD []).length)=ks.map λj=>((mget j es).getD []).length:=by
   apply List.map_congr_left
   intro j hj
   rw [fC hn,if_neg (show ¬ j=k from λe=>hd.1 (e▸hj))]
  rw [this] at ih
  simp only [IA,List.sum_cons]
  omega
theorem Has.sz{nm:ByteArray}{g:Nat}{bs:Bs}{es:Mp}(h:Has nm g bs es)(hnm:Nm nm)(hn:NK es):tot bs≤Fw.sz es:=by
 have h1:=BF ((List.range bs.length).map λj=>fn nm g (j+1)) es hn (by
  refine List.Pairwise.map _ (R:=λa b=>a≠b) (λa b hab e=>hab ?_) List.nodup_range
  have:=(lr hnm hnm e).2.2; omega)
 rw [IQ] at h1
 refine Nat.le_trans (Nat.le_of_eq ?_) h1
 unfold tot
 congr 1
 apply List.ext_getElem
 ·simp
 ·intro i h2 h3
  simp only [II] at h2
  simp only [List.getElem_map,List.getElem_range,Function.comp]
  rw [h.2 (i+1) (by omega) (by have:=h.1; omega),Nat.add_sub_cancel,List.getElem?_eq_getElem h2]; rfl
def aC:Bs→Bs×Bs
 | []=>([],[])
 | b::t=>if (allB b).2.1=b.length then ((allB b).1++(aC t).1,b::(aC t).2) else ((allB b).1,[b.take (allB b).2.1])
theorem tu:∀bs:Bs,tot (aC bs).2≤tot bs∧(aC bs).1.length≤tot bs∧(aC bs).2.length≤bs.length
 | []=>⟨IG _,IG _,IG _⟩
 | b::t=>by
  have ih:=tu t
  have ha:=tZ b
  unfold aC
  split
  ·simp only [dZ,Is,Iy]; omega
  ·simp only [dZ,Iy,IK,IV]
   have:tot ([]:Bs)=0:=rfl
   omega
section
variable {R N:Nat} {d:Dk}
theorem B2{f:ByteArray}{n:Nat}(hf:okn f=true)(h:n<(fb d f).length)(k:ByteArray):mget k (kf d f n).seen=if k=f then some ((fb d f).take n) else mget k d.seen:=by
 rw [(w9 hf h).1,cC]
theorem mr{nm:ByteArray}(hnm:Nm nm){g k:Nat}(hg:g≤999999)(hk:k≤999999):okn (fn nm g k)=true:=by
 have:=oq hnm hg hk
 unfold okn
 simp only [Iw,Iq]; omega
theorem yU{nm:ByteArray}(hnm:Nm nm):okn (mn nm)=true:=by
 have:=rA hnm
 unfold okn
 simp only [Iw,Iq]; omega
theorem xO(h:DI R N d)(hR:R≤MX)(hN:N+1≤lim){nm:ByteArray}(hnm:Nm nm){g:Nat}(hg:g≤999999){size:Int}{bs:Bs}(hb:Has nm g bs d.seen):∀(t pre:Bs) (out:Bs) (F:Nat),bs=pre++t→out.length+tot t≤R→tot pre+tot t≤R →
  ∃d',loopN aY (F+t.length+1) (out,true,(⟨nm,(g:Int),size,(pre.length:Int),((eZ pre).length:Int),0,(tot pre:Int)⟩:ai),d)=some (lg nm g size (pre++(aC t).2) (out++(aC t).1).length,d',out++(aC t).1)∧DI R (N+1) d' ∧
   ((aC t).2=t∧d'=d∨0<(aC t).2.length∧(∀k,mget k d'.seen=if k=fn nm g (pre.length+(aC t).2.length) then some (eZ (aC t).2) else mget k d.seen)∧d'.loose.length=d.loose.length+1∧(aC t).2≠t):=by
 intro t
 induction t with
 | nil=>
  intro pre out F hbs ho htot
  rw [IL] at hbs
  have hl:=hb.1
  rw [hbs] at hl
  refine⟨d,?_,h.mono (Nat.le_succ _),.inl ⟨rfl,rfl⟩⟩
  rw [br]
  generalize loopN aY (F+([]:Bs).length)=f
  unfold aY dL
  simp only [Bool.true_and]
  by_cases hlt:pre.length<999999
  ·have hm:=hb.2 (pre.length+1) (by omega) (by omega)
   rw [hbs,Nat.add_sub_cancel,List.getElem?_eq_none (IG _)] at hm
   have hsz:=oq hnm hg (show pre.length+1≤999999 by omega)
   rw [az (by rw [Iq]; omega),aH (by unfold I64; omega),show (pre.length:Int)+1=((pre.length+1:Nat):Int) by omega,yl hnm hg (by omega),IC,aw (by rw [aB,Iq]; omega),e_Rd h hR,IC,hm,az (by rfl)]
   simp [aC,lg]
  ·rw [ar (by rw [Ir]; omega)]
   simp [aC,lg]
 | cons b t ih=>
  intro pre out F hbs ho htot
  have hl:=hb.1
  rw [hbs,Is,Iy] at hl
  have hm:=hb.2 (pre.length+1) (by omega) (by omega)
  rw [hbs,Nat.add_sub_cancel,List.getElem?_append_right (IG _),Nat.sub_self] at hm
  have hm:mget (fn nm g (pre.length+1)) d.seen=some b:=hm
  have hfb:fb d (fn nm g (pre.length+1))=b:=by unfold fb; rw [hm]; rfl
  have hsz:=oq hnm hg (show pre.length+1≤999999 by omega)
  have hbl:b.length≤lim:=by have:=wE h hR (fn nm g (pre.length+1)); rwa [hfb] at this
  obtain⟨e,he⟩:=E9 hbl
  have ha:=tZ b
  rw [dZ] at ho htot
  have hRv:R≤1073741824:=hR
  obtain⟨s1,s2⟩:=vX h hR hN nm (g:Int) (fn nm g (pre.length+1)) (allB b).2.1
  rw [show F+(b::t).length+1=(F+t.length+1)+1 by simp; omega,br]
  generalize hf:loopN aY (F+t.length+1)=f
  unfold aY
  simp only [Bool.true_and]
  rw [az (by rw [Iq]; omega),aH (x:=(pre.length:Int)+1) (by unfold I64; omega),show (pre.length:Int)+1=((pre.length+1:Nat):Int) by omega,yl hnm hg (by omega),IC,aw (by rw [aB,Iq]; omega),e_Rd h hR,IC,hm]
  simp only [Option.isSome_some,Option.getD_some,Bool.not_true]
  rw [ar rfl,he,IC]
  simp only
  rw [s1,IC,aw (by rw [aB,Iq]; omega),aH (by unfold I64; omega)]
  unfold aC
  by_cases hw:(allB b).2.1=b.length
  ·rw [if_pos hw]
   have hd:kf d (fn nm g (pre.length+1)) (allB b).2.1=d:=qT (by rw [hfb]; omega)
   rw [hd,hw,show (((b.length:Nat):Int)==((b.length:Nat):Int))=true by simp, ← hf]
   obtain⟨d',i1,i2,i3⟩:=ih (pre++[b]) (out++(allB b).1) F (by rw [hbs]; simp) (by simp; omega) (by rw [oe,dZ]; simp [tot] at htot ⊢; omega)
   refine⟨d',?_,i2,?_⟩
   ·have e1:(⟨nm,(g:Int),size,((pre.length+1:Nat):Int),((b.length:Nat):Int),0,(tot pre:Int)+((b.length:Nat):Int)⟩:ai)=⟨nm,(g:Int),size,((pre++[b]).length:Int),((eZ (pre++[b])).length:Int),0,(tot (pre++[b]):Int)⟩:=by
     rw [l6,oe,dZ]; simp [tot]
    rw [e1,i1]
    simp [Iv]
   ·rcases i3 with ⟨a1,a2⟩ | ⟨a0,a1,a2⟩
    ·exact .inl ⟨by rw [a1],a2⟩
    ·refine .inr ⟨by simp,λk=>?_,a2.1,λe=>a2.2 (List.cons.inj e).2⟩
     rw [a1 k]
     have e2:(pre++[b]).length+(aC t).2.length=pre.length+(b::(aC t).2).length:=by simp; omega
     have e3:eZ (b::(aC t).2)=eZ (aC t).2:=by
      cases hq:(aC t).2 with
      | nil=>rw [hq] at a0; exact absurd a0 (Nat.lt_irrefl 0)
      | cons x l=>simp [eZ]
     rw [e2,e3]
  ·rw [if_neg hw]
   have hlt:(allB b).2.1<(fb d (fn nm g (pre.length+1))).length:=by rw [hfb]; omega
   have hok:=mr hnm hg (show pre.length+1≤999999 by omega)
   refine⟨_,?_,s2,.inr ⟨by simp,λk=>?_,(w9 hok hlt).2,λe=>?_⟩⟩
   ·rw [show ((((allB b).2.1:Nat):Int)==((b.length:Nat):Int))=false by rw [beq_eq_false_iff_ne]; omega, ← hf,br]
    generalize loopN aY (F+t.length)=f2
    unfold aY dL
    simp only [Bool.false_and]
    rw [ar rfl]
    unfold lg
    rw [l6,oe,dZ]
    simp [tot,IV]
    omega
   ·rw [B2 hok hlt k,hfb]
    rfl
   ·have:=congrArg List.length (List.cons.inj e).1
    rw [IV] at this
    omega
theorem DB(h:DI R N d)(hR:R≤MX)(hN:N+1≤lim){nm:ByteArray}(hnm:Nm nm){g:Nat}(hg:g≤999999){size:Int}{bs:Bs}(hb:Has nm g bs d.seen):
  ∃d',dV (⟨nm,(g:Int),size,0,0,0,0⟩:ai) d=some (lg nm g size (aC bs).2 (aC bs).1.length,d',(aC bs).1)∧DI R (N+1) d' ∧
   ((aC bs).2=bs∧d'=d∨0<(aC bs).2.length∧(∀k,mget k d'.seen=if k=fn nm g (aC bs).2.length then some (eZ (aC bs).2) else mget k d.seen)∧d'.loose.length=d.loose.length+1∧(aC bs).2≠bs):=by
 have h1:=hb.sz hnm h.nk
 have h2:=h.sz
 have h3:=hb.1
 obtain⟨F,hF⟩:∃F,FU=F+bs.length+1:=⟨FU - bs.length - 1,by unfold FU; omega⟩
 have:=xO h hR hN hnm hg (size:=size) hb bs [] [] F rfl (by simp; omega) (by show 0+tot bs≤R; omega)
 unfold dV
 rw [hF]
 simpa [eZ,tot] using this
end
theorem wV:∀(bs:Bs) (i:Nat),i+1<(aC bs).2.length→(aC bs).2[i]? = bs[i]?
 | [],i,h=>by simp [aC] at h
 | b::t,i,h=>by
  unfold aC at h ⊢
  split
  ·rename_i hc
   rw [if_pos hc] at h
   cases i with
   | zero=>rfl
   | succ i=>
    simp only [Iy] at h
    simp only [List.getElem?_cons_succ]
    exact wV t i (by omega)
  ·rename_i hc
   rw [if_neg hc] at h
   simp at h
theorem um{bs:Bs}(h:0<bs.length):bs[bs.length - 1]? = some (eZ bs):=by
 rcases List.eq_nil_or_concat bs with e | ⟨l,b,e⟩
 ·rw [e] at h; exact absurd h (Nat.lt_irrefl 0)
 ·rw [e,List.concat_eq_append,l6]; simp
def Own1(nm:ByteArray)(g:Nat)(es:Mp):Prop := ∀k,(mget k es).isSome=true→pf nm k=none∨∃j,1≤j∧j≤999999∧k=fn nm g j
theorem su{nm:ByteArray}{q:Int→Int→Bool}{es:Mp}(h:∀k,(mget k es).isSome=true→(pf nm k).any (λx=>q x.1 x.2)=false):bA nm q es = []:=by
 apply List.eq_nil_iff_forall_not_mem.2
 intro k hk
 obtain⟨a,b⟩:=l9.1 hk
 rw [h k a] at b; cases b
section
variable {R N:Nat} {d:Dk}
theorem H1(h:DI R N d)(hR:R≤MX)(hN:4*N+10≤lim){nm:ByteArray}(hnm:Nm nm)(hk:Ks d.seen)(size:Int){gl:Bs}{e0:Int}{g:Nat}{bs:Bs}(hg:g≤999999)
  (hm:allB (fb d (mn nm))=(gl,(fb d (mn nm)).length,e0)) (hh:mK 0 gl=some g) (hb:Has nm g bs d.seen) (hx:Own1 nm g d.seen) :
  ∃d',dU d nm size=some (d',some (lg nm g (max size 16) (aC bs).2 (aC bs).1.length),(aC bs).1,0)∧DI R (4*N+10) d'∧Has nm g (aC bs).2 d'.seen ∧
   (∀k,(∀j,1≤j→j≤999999→k≠fn nm g j)→mget k d'.seen=mget k d.seen)∧(∀k,(mget k d'.seen).isSome=true→(mget k d.seen).isSome=true)∧(d'=d∨d'.loose = [])∧((aC bs).2=bs→d'=d):=by
 have hlo:=hnm.lo
 have hhi:=hnm.hi
 have hms:=rA hnm
 have hsl:=(tu bs).2.2
 have hbl:=hb.1
 unfold dU
 have c1:(decide (((nm.size:Nat):Int)<1)||decide (2<((nm.size:Nat):Int)))=false:=by simp; omega
 rw [c1,show (!false)=true from rfl,Aj hnm]
 unfold gT
 rw [az rfl,IC,show (false||false)=false from rfl,ar rfl,e_holds h hR hnm 0,IC,hm,hh]
 unfold wB hZ
 simp only
 rw [ar (by decide),IC,AQ,IC,aw (by rw [aB,Iq]; omega)]
 rw [(vX h hR (by omega) nm (g:Int) (mn nm) (fb d (mn nm)).length).1,IC,qT (IG _)]
 have q1:bA nm (λx _=>x != (g:Int)) d.seen = []:=su λk hks=>by
  rcases hx k hks with e | ⟨j,j1,j2,e⟩
  ·rw [e]; rfl
  ·rw [e,fG ⟨hg,j1,j2⟩]; simp
 have r1:=(Ai h hR (by omega) (nm:=nm) hhi hk (pred:=λx y=>gW x y (g:Int)) (q:=λx _=>x != (g:Int)) (λa b=>rfl) (g:Int)).1
 rw [q1] at r1
 have r1:aD d nm (g:Int) (λx y=>gW x y (g:Int))=some d:=r1
 rw [r1,IC]
 obtain⟨d1,s1,s2,s3⟩:=DB h hR (by omega) hnm hg (size:=max size 16) hb
 rw [s1,IC]
 simp only
 have hk1:Ks d1.seen∧(∀k,(mget k d1.seen).isSome=true→(mget k d.seen).isSome=true)∧(∀k,(∀j,1≤j→j≤999999→k≠fn nm g j)→mget k d1.seen=mget k d.seen):=by
  rcases s3 with ⟨a,b⟩ | ⟨a0,a,b,hne⟩
  ·rw [b]; exact⟨hk,λk hks=>hks,λk _=>rfl⟩
  ·have hin:(mget (fn nm g (aC bs).2.length) d.seen).isSome=true:=by
    rw [hb.2 _ (by omega) (by omega),List.getElem?_eq_getElem (by omega)]; rfl
   have hsub:∀k,(mget k d1.seen).isSome=true→(mget k d.seen).isSome=true:=λk hks=>by
    rw [a k] at hks
    split at hks
    ·rename_i e; rw [e]; exact hin
    ·exact hks
   exact⟨λk hks=>hk k (hsub k hks),hsub,λk hj=>by rw [a k,if_neg (hj _ (by omega) (by omega))]⟩
 have r2:=Ai s2 hR (by omega) (nm:=nm) hhi hk1.1 (pred:=λx y=>jt x y (lg nm g (max size 16) (aC bs).2 (aC bs).1.length)) (q:=λ_ n=>decide ((((aC bs).2.length:Nat):Int)<n)) (λa b=>rfl) (g:Int)
 rw [r2.1,IC,IC]
 have hrem:=tN (nm:=nm) (q:=λ_ n=>decide ((((aC bs).2.length:Nat):Int)<n)) s2 hk1.1
 have dd:=r2.2
 generalize hD:remL d1 (bA nm (λ_ n=>decide ((((aC bs).2.length:Nat):Int)<n)) d1.seen)=D at hrem dd ⊢
 have f1:Has nm g (aC bs).2 D.seen:=by
  refine⟨by omega,λk k1 k2=>?_⟩
  rw [hrem.1,fG ⟨hg,k1,k2⟩]
  simp only [Option.any_some,Iq]
  by_cases hc:(((aC bs).2.length:Nat):Int)<(k:Int)
  ·rw [if_pos hc,List.getElem?_eq_none (by omega)]
  ·rw [if_neg hc]
   rcases s3 with ⟨a,b⟩ | ⟨a0,a,b,hne⟩
   ·rw [b,hb.2 k k1 k2,a]
   ·rw [a]
    by_cases hl:k=(aC bs).2.length
    ·rw [if_pos (by rw [hl]),hl,um a0]
    ·rw [if_neg (λe=>hl (lr hnm hnm e).2.2),hb.2 k k1 k2,wV bs (k - 1) (by omega)]
 have f2:∀k,(∀j,1≤j→j≤999999→k≠fn nm g j)→mget k D.seen=mget k d.seen:=λk hj=>by
  rw [hrem.1,hk1.2.2 k hj]
  split
  ·rename_i hc
   cases hs:mget k d.seen with
   | none=>rfl
   | some v=>
    rcases hx k (by rw [hs]; rfl) with e | ⟨j,j1,j2,e⟩
    ·rw [e] at hc; cases hc
    ·exact absurd e (hj j j1 j2)
  ·rfl
 have f3:∀k,(mget k D.seen).isSome=true→(mget k d.seen).isSome=true:=λk hks=>by
  rw [hrem.1] at hks
  split at hks
  ·cases hks
  ·exact hk1.2.1 k hks
 have f4:D=d∨D.loose.length≠d.loose.length:=by
  rcases s3 with ⟨a,b⟩ | ⟨a0,a,b,hne⟩
  ·left
   have q2:bA nm (λ_ n=>decide ((((aC bs).2.length:Nat):Int)<n)) d1.seen = []:=su λk hks=>by
    rw [b] at hks
    rcases hx k hks with e | ⟨j,j1,j2,e⟩
    ·rw [e]; rfl
    ·rw [e] at hks ⊢
     rw [hb.2 j j1 j2] at hks
     rw [fG ⟨hg,j1,j2⟩,a]
     simp only [Option.any_some,Ir]
     intro hlt
     rw [List.getElem?_eq_none (by omega)] at hks; cases hks
   rw [← hD,q2,b]; rfl
  ·right; omega
 have f5:(aC bs).2=bs→D=d:=λhw=>by
  rcases s3 with ⟨a,b⟩ | ⟨a0,a,b,hne⟩
  ·rcases f4 with e | e
   ·exact e
   ·exfalso
    apply e
    have q2:bA nm (λ_ n=>decide ((((aC bs).2.length:Nat):Int)<n)) d1.seen = []:=su λk hks=>by
     rw [b] at hks
     rcases hx k hks with e | ⟨j,j1,j2,e⟩
     ·rw [e]; rfl
     ·rw [e] at hks ⊢
      rw [hb.2 j j1 j2] at hks
      rw [fG ⟨hg,j1,j2⟩,a]
      simp only [Option.any_some,Ir]
      intro hlt
      rw [List.getElem?_eq_none (by omega)] at hks; cases hks
    rw [← hD,q2,b]; rfl
  ·exact absurd hw hne
 by_cases hz:D.loose.length=d.loose.length
 ·have e:D=d:=f4.elim id (λhc=>absurd hz hc)
  rw [ar (by rw [bne_eq_false_iff_eq]; omega)]
  unfold gg
  exact⟨D,rfl,dd.mono (by omega),f1,f2,f3,.inl e,f5⟩
 ·rw [az (by rw [bne_iff_ne]; omega),uW,IC]
  unfold gg
  exact⟨iW D,rfl,(DI.sync dd).mono (by omega),f1,f2,f3,.inr rfl,λhw=>absurd (by rw [f5 hw]) hz⟩
end
def iE(size:Int)(bs:Bs)(f:List UInt8):Bool:=decide (bs.length=0)||(decide (0<(eZ bs).length)&&decide (size - ((eZ bs).length:Int)<(f.length:Int)))
def addP(size:Int)(bs:Bs)(f:List UInt8):Bs:=bif iE size bs f then bs++[f] else bs.dropLast++[eZ bs++f]
def pnum(size:Int)(bs:Bs)(f:List UInt8):Nat:=bif iE size bs f then bs.length+1 else bs.length
theorem yV{bs:Bs}(h:0<bs.length):bs=bs.dropLast++[eZ bs]:=by
 rcases List.eq_nil_or_concat bs with e | ⟨l,b,e⟩
 ·rw [e] at h; exact absurd h (Nat.lt_irrefl 0)
 ·rw [e,List.concat_eq_append,l6]; simp
theorem pY{size:Int}{bs:Bs}{f:List UInt8}(h:iE size bs f=false):0<bs.length:=by
 unfold iE at h
 simp only [Bool.or_eq_false_iff,Ir] at h
 omega
theorem zX(size:Int)(bs:Bs)(f:List UInt8):tot (addP size bs f)=tot bs+f.length:=by
 unfold addP
 cases h:iE size bs f with
 | true=>simp [tot]
 | false=>
  conv=>rhs; rw [yV (pY h)]
  simp [tot]; omega
theorem pw(size:Int)(bs:Bs)(f:List UInt8):(addP size bs f).length=pnum size bs f:=by
 unfold addP pnum
 cases h:iE size bs f with
 | true=>simp
 | false=>have:=pY h; simp; omega
theorem xx(size:Int)(bs:Bs)(f:List UInt8):eZ (addP size bs f)=(bif iE size bs f then [] else eZ bs)++f:=by
 unfold addP
 cases h:iE size bs f with
 | true=>simp [eZ]
 | false=>simp [eZ]
theorem pi(size:Int)(bs:Bs)(f:List UInt8):1≤pnum size bs f:=by
 unfold pnum
 cases h:iE size bs f with
 | true=>simp
 | false=>have:=pY h; simp only [cond_false]; omega
theorem yD(size:Int)(bs:Bs)(f:List UInt8):pnum size bs f≤bs.length+1:=by
 unfold pnum
 cases iE size bs f <;> simp
theorem FX{nm:ByteArray}{g:Nat}{size:Int}{bs:Bs}{es:Mp}{f:List UInt8}(hnm:Nm nm)(hb:Has nm g bs es)(hp:pnum size bs f≤999999):
  (mget (fn nm g (pnum size bs f)) es).getD []=(bif iE size bs f then [] else eZ bs)∧Has nm g (addP size bs f) (mput (fn nm g (pnum size bs f)) ((mget (fn nm g (pnum size bs f)) es).getD []++f) es):=by
 have h1:=pi size bs f
 have hold:(mget (fn nm g (pnum size bs f)) es).getD []=(bif iE size bs f then [] else eZ bs):=by
  rw [hb.2 _ h1 hp]
  unfold pnum
  cases h:iE size bs f with
  | true=>simp
  | false=>simp only [cond_false]; rw [um (pY h)]; rfl
 refine⟨hold,by rw [pw]; exact hp,λk k1 k2=>?_⟩
 rw [cC,hold]
 by_cases hk:k=pnum size bs f
 ·have hl:=um (bs:=addP size bs f) (by rw [pw]; omega)
  rw [pw] at hl
  rw [if_pos (by rw [hk]),hk,hl,xx]
 ·rw [if_neg (λe=>hk (lr hnm hnm e).2.2),hb.2 k k1 k2]
  unfold addP
  unfold pnum at hk
  cases h:iE size bs f with
  | true=>
   rw [h] at hk
   simp only [cond_true] at hk ⊢
   rcases Nat.lt_or_ge (k - 1) bs.length with hlt | hge
   ·rw [List.getElem?_append_left hlt]
   ·rw [List.getElem?_eq_none hge,List.getElem?_eq_none (by simp; omega)]
  | false=>
   have hpos:=pY h
   rw [h] at hk
   simp only [cond_false] at hk ⊢
   rcases Nat.lt_or_ge (k - 1) (bs.length - 1) with hlt | hge
   ·rw [List.getElem?_append_left (by simpa using hlt),List.getElem?_dropLast,if_pos hlt]
   ·rw [List.getElem?_eq_none (by omega),List.getElem?_eq_none (by simp; omega)]
section
variable {R N:Nat} {d:Dk}
def dAdd(d:Dk)(nm:ByteArray)(g:Nat)(size:Int)(bs:Bs)(f:List UInt8):Dk:=m6 d ⟨.disk_add_1 (fn nm g (pnum size bs f)) f,fn nm g (pnum size bs f),f⟩
inductive AppR (R:Nat) (d:Dk) (nm:ByteArray) (g:Nat) (size:Int) (bs:Bs) (cnt:Nat) (x:List UInt8):ai×Dk×Int→Prop
 | long:1048576<x.length→AppR R d nm g size bs cnt x (lg nm g size bs cnt,d,3)
 | many:x.length≤1048576→999999<pnum size bs (fr x)→AppR R d nm g size bs cnt x (lg nm g size bs cnt,d,72)
 | full:x.length≤1048576→pnum size bs (fr x)≤999999→R<Fw.sz d.seen+(fr x).length→AppR R d nm g size bs cnt x (lg nm g size bs cnt,d,72)
 | ok:x.length≤1048576→pnum size bs (fr x)≤999999→Fw.sz d.seen+(fr x).length≤R→AppR R d nm g size bs cnt x (lg nm g size (addP size bs (fr x)) (cnt+1),dAdd d nm g size bs (fr x),0)
theorem Ah(d:Dk)(nm:ByteArray)(g:Nat)(size:Int)(bs:Bs)(f:List UInt8):(dAdd d nm g size bs f).seen=mput (fn nm g (pnum size bs f)) ((mget (fn nm g (pnum size bs f)) d.seen).getD []++f) d.seen:=rfl
theorem Ez(h:DI R N d)(hR:R≤MX)(hN:N+1≤lim){nm:ByteArray}(hnm:Nm nm){g:Nat}(hg:g≤999999){size:Int}(hs0:0≤size)(hs1:size≤9223372036854775807){bs:Bs}(hb:Has nm g bs d.seen){cnt:Nat}(hc:cnt≤4611686018427387904)(x:List UInt8):
  ∃r,fJ (lg nm g size bs cnt) x d=some r∧AppR R d nm g size bs cnt x r∧DI R (N+1) r.2.1:=by
 have h1:=hb.sz hnm h.nk
 have h2:=h.sz
 have h3:=yp bs
 have hRv:R≤1073741824:=hR
 have hbl:=hb.1
 unfold fJ
 by_cases hl:1048576<x.length
 ·rw [Bl hl,IC]
  exact⟨_,rfl,.long hl,h.mono (Nat.le_succ _)⟩
 ·have hx:x.length≤1048576:=by omega
  have hfl:=nS x
  have hp3:=pn3 hx
  rw [Gn hx,IC]
  simp only
  rw [ar (by decide)]
  have hfr:(((lg nm g size bs cnt).last==0)||((decide (0<(lg nm g size bs cnt).tail))&&(decide ((w64 ((lg nm g size bs cnt).size - (lg nm g size bs cnt).tail))<(((fr x).length:Nat):Int)))))=iE size bs (fr x):=by
   unfold lg iE
   simp only
   rw [aH (by unfold I64; omega),Bool.eq_iff_iff]
   simp only [Bool.or_eq_true,Iw,beq_iff_eq,Iq]
   omega
  rw [hfr]
  have key:∀(p:Nat) (t:Int),p=pnum size bs (fr x)→t=(((bif iE size bs (fr x) then [] else eZ bs).length:Nat):Int)→∃r,e8 (lg nm g size bs cnt) d (fr x,0) (p:Int) t=some r∧AppR R d nm g size bs cnt x r∧DI R (N+1) r.2.1:=by
   intro p t hp ht
   unfold e8
   by_cases hm:999999<p
   ·rw [az (by rw [Iq]; omega)]
    exact⟨_,rfl,.many hx (by omega),h.mono (Nat.le_succ _)⟩
   ·have hsz:=oq hnm hg (show p≤999999 by omega)
    rw [ar (by rw [Ir]; omega)]
    show ∃r,Option.bind (eA nm (g:Int) (g:Int) (p:Int)) _=some r∧_
    rw [yl hnm hg (by omega),IC,aw (by rw [aB,Iq]; omega)]
    obtain⟨a1,a2⟩:=EI h hR hN (fn nm g p) (fr x)
    rw [a1,IC]
    have hok:=mr hnm hg (show p≤999999 by omega)
    unfold dApp at a2 ⊢
    rw [hok] at a2 ⊢
    rw [show (!true)=false from rfl,ar rfl] at a2 ⊢
    by_cases hroom:R<Fw.sz d.seen+(fr x).length
    ·rw [az (by rw [Iq,h.rd]; omega)]
     exact⟨_,rfl,.full hx (by omega) hroom,h.mono (Nat.le_succ _)⟩
    ·have hq:decide (d.room - (Fw.sz d.seen:Int)<((fr x).length:Int))=false:=by rw [Ir,h.rd]; omega
     rw [hq,ar rfl] at a2 ⊢
     unfold ja
     simp only
     rw [ar (by decide)]
     have el:(⟨(lg nm g size bs cnt).place_name,(lg nm g size bs cnt).place_gen,(lg nm g size bs cnt).size,(p:Int),w64 (t+(((fr x).length:Nat):Int)),w64 ((lg nm g size bs cnt).count+1),w64 ((lg nm g size bs cnt).bytes+(((fr x).length:Nat):Int))⟩:ai)=lg nm g size (addP size bs (fr x)) (cnt+1):=by
      have ht2:t+(((fr x).length:Nat):Int)=(((eZ (addP size bs (fr x))).length:Nat):Int):=by rw [xx,ht]; simp
      have hlt:=yp (addP size bs (fr x))
      have htt:=zX size bs (fr x)
      unfold lg
      simp only
      rw [pw,ht2,htt,aH (by unfold I64; omega),aH (by unfold I64; omega),aH (by unfold I64; omega),hp]
      rfl
     rw [el]
     subst hp
     exact⟨_,rfl,.ok hx (by omega) (by omega),a2⟩
  cases hq:iE size bs (fr x) with
  | true=>
   rw [az rfl]
   have e1:w64 ((lg nm g size bs cnt).last+1)=((bs.length+1:Nat):Int):=by
    unfold lg; simp only; rw [aH (by unfold I64; omega)]; rfl
   rw [e1]
   exact key _ _ (by unfold pnum; rw [hq]; rfl) (by rw [hq]; rfl)
  | false=>
   rw [ar rfl]
   exact key bs.length _ (by unfold pnum; rw [hq]; rfl) (by rw [hq]; rfl)
theorem AppR.has{nm:ByteArray}{g:Nat}{size:Int}{bs:Bs}(hnm:Nm nm)(hb:Has nm g bs d.seen){f:List UInt8}(hp:pnum size bs f≤999999):Has nm g (addP size bs f) (dAdd d nm g size bs f).seen:=(FX hnm hb hp).2
theorem ph{nm:ByteArray}{g:Nat}{size:Int}{bs:Bs}{f:List UInt8}{k:ByteArray}(hk:k≠fn nm g (pnum size bs f)):mget k (dAdd d nm g size bs f).seen=mget k d.seen:=by
 rw [Ah,cC,if_neg hk]
end
theorem nX{α S R:Type}[Inhabited α]{body:(S→Option R)→Nat→α→S→Option R}{K:S→Option R}{P:R→Prop}{l:List α}(I:Nat→S→Prop)(hend:∀s,I l.length s→∃r,K s=some r∧P r)
  (hstep:∀f i s,i<l.length→I i s→(∀s',I (i+1) s'→∃r,f s'=some r∧P r)→∃r,body f i (gt l i) s=some r∧P r) {s:S} (h0:I 0 s):∃r,forI body K 0 l s=some r∧P r:=by
 have key:∀m i s,l.length - i=m→i≤l.length→I i s→∃r,forI body K i (l.drop i) s=some r∧P r:=by
  intro m
  induction m with
  | zero=>
   intro i s hm hi hI
   have:i=l.length:=by omega
   subst this
   rw [IB (IG _)]
   exact hend s hI
  | succ m ih=>
   intro i s hm hi hI
   rw [cj (by omega)]
   exact hstep _ i s (by omega) hI λs' h'=>ih (i+1) s' (by omega) (by omega) h'
 exact key _ 0 s rfl (IH _) h0
def addR(size:Int)(rs:List Bs)(x:List UInt8):List Bs:=bif iE size (rs.map frs) (fr x) then rs++[[x]] else rs.dropLast++[rs.getLastD []++[x]]
def lo(size:Int)(l:Bs):List Bs:=l.foldl (addR size) []
def bsOf(size:Int)(l:Bs):Bs:=(lo size l).map frs
theorem DV(rs:List Bs):eZ (rs.map frs)=frs (rs.getLastD []):=by
 rcases List.eq_nil_or_concat rs with e | ⟨l,b,e⟩
 ·rw [e]; rfl
 ·rw [e,List.concat_eq_append]; simp [eZ]
theorem F2(size:Int)(rs:List Bs)(x:List UInt8):(addR size rs x).map frs=addP size (rs.map frs) (fr x):=by
 unfold addR addP
 cases h:iE size (rs.map frs) (fr x) with
 | true=>simp [frs]
 | false=>
  simp only [cond_false]
  rw [IJ,DV,List.map_dropLast]
  simp [vY,frs]
theorem D9(size:Int)(rs:List Bs)(x:List UInt8):(addR size rs x).flatten=rs.flatten++[x]:=by
 unfold addR
 cases h:iE size (rs.map frs) (fr x) with
 | true=>simp
 | false=>
  have hp:=pY h
  rw [II] at hp
  simp only [cond_false]
  rcases List.eq_nil_or_concat rs with e | ⟨l,b,e⟩
  ·rw [e] at hp; exact absurd hp (Nat.lt_irrefl 0)
  ·rw [e,List.concat_eq_append]; simp
theorem CE(size:Int)(l:Bs)(x:List UInt8):lo size (l++[x])=addR size (lo size l) x:=by unfold lo; rw [List.foldl_append]; rfl
theorem yJ(size:Int)(l:Bs):(lo size l).flatten=l:=by
 have key:∀(n:Nat) (l:Bs),l.length=n→(lo size l).flatten=l:=by
  intro n
  induction n with
  | zero=>intro l h; rw [List.eq_nil_of_length_eq_zero h]; rfl
  | succ n ih=>
   intro l h
   rcases List.eq_nil_or_concat l with e | ⟨m,b,e⟩
   ·rw [e] at h; cases h
   ·rw [List.concat_eq_append] at e
    rw [e,CE,D9,ih m (by rw [e] at h; simpa using h)]
 exact key _ l rfl
theorem uq(size:Int)(l:Bs)(x:List UInt8):bsOf size (l++[x])=addP size (bsOf size l) (fr x):=by
 unfold bsOf
 rw [CE,F2]
theorem wn:∀{rs:List Bs} (ex:Bs),(∀l∈rs,Rk l)→aC (rs.map frs++ex)=(rs.flatten++(aC ex).1,rs.map frs++(aC ex).2)
 | [],ex,_=>rfl
 | l::rs,ex,h=>by
  rw [IA,List.cons_append,aC,zU (h l It),if_pos rfl,wn ex λm hm=>h m (Iu _ hm)]
  simp
theorem Hs{size:Int}{l:Bs}(h:Rk l):∀m∈lo size l,Rk m:=λm hm x hx=>h x (by
 have:=yJ size l
 rw [← this]; exact List.mem_flatten.2 ⟨m,hm,hx⟩)
theorem D1(size:Int){l:Bs}(h:Rk l):aC (bsOf size l)=(l,bsOf size l):=by
 have:=wn (rs:=lo size l) [] (Hs h)
 rw [IL] at this
 unfold bsOf
 rw [this,yJ]
 simp [aC]
section
variable {R N:Nat} {d:Dk}
structure Mid (R M:Nat) (d:Dk) (nm:ByteArray) (g:Nat) (bs:Bs) (e:Dk):Prop where
 di:DI R M e
 has:Has nm g bs e.seen
 same:∀k,(∀j,1≤j→j≤999999→k≠fn nm g j)→mget k e.seen=mget k d.seen
theorem Mid.ks{M:Nat}{nm:ByteArray}{g:Nat}{bs:Bs}{e:Dk}(h:Mid R M d nm g bs e)(hnm:Nm nm)(hg:g≤999999)(hk:Ks d.seen):Ks e.seen:=λk hks=>by
 by_cases hc:∀j,1≤j→j≤999999→k≠fn nm g j
 ·rw [h.same k hc] at hks; exact hk k hks
 ·obtain⟨j,hc⟩:=Classical.not_forall.1 hc
  obtain⟨j1,hc⟩:=Classical.not_imp.1 hc
  obtain⟨j2,hc⟩:=Classical.not_imp.1 hc
  rw [Classical.not_not.1 hc]; exact mr hnm hg j2
theorem Et{nm:ByteArray}{g:Nat}{k:ByteArray}(hc:¬ ∀j,1≤j→j≤999999→k≠fn nm g j):∃j,1≤j∧j≤999999∧k=fn nm g j:=by
 obtain⟨j,hc⟩:=Classical.not_forall.1 hc
 obtain⟨j1,hc⟩:=Classical.not_imp.1 hc
 obtain⟨j2,hc⟩:=Classical.not_imp.1 hc
 exact⟨j,j1,j2,Classical.not_not.1 hc⟩
theorem Cb:∀l:Bs,5*l.length≤(frs l).length
 | []=>IG _
 | x::l=>by
  have:=Cb l
  have h2:=wO x.length
  rw [oL,Is,nS,Iy]; omega
theorem wb(size:Int)(l:Bs):(bsOf size l).length≤l.length:=by
 have key:∀(n:Nat) (l:Bs),l.length=n→(bsOf size l).length≤l.length:=by
  intro n
  induction n with
  | zero=>intro l h; rw [List.eq_nil_of_length_eq_zero h]; exact IG _
  | succ n ih=>
   intro l h
   rcases List.eq_nil_or_concat l with e | ⟨m,b,e⟩
   ·rw [e] at h; cases h
   ·rw [List.concat_eq_append] at e
    have hm:m.length=n:=by rw [e] at h; simpa using h
    have:=ih m hm
    have h2:=yD size (bsOf size m) (fr b)
    rw [e,uq,pw,Is]
    simp; omega
 exact key _ l rfl
inductive RewR (R M:Nat) (d:Dk) (nm:ByteArray) (g:Nat) (size:Int) (bs:Bs) (cnt:Nat) (list:Bs):ai×Dk×Int→Prop
 | no (e:Dk) (c:Int):c≠0→(¬ Rk list∨R<Fw.sz d.seen+(frs list).length+10∨999999<list.length)→DI R M e→(∀k,mget k e.seen=mget k d.seen)→RewR R M d nm g size bs cnt list (lg nm g size bs cnt,e,c)
 | ok (e:Dk):Rk list→DI R M e→e.loose = []→Has nm (g+1) (bsOf size list) e.seen→Own1 nm (g+1) e.seen→mget (mn nm) e.seen=some (fb d (mn nm)++fr (pn (g+1))) →
   (∀k,pf nm k=none→k≠mn nm→mget k e.seen=mget k d.seen)→RewR R M d nm g size bs cnt list (lg nm (g+1) size (bsOf size list) list.length,e,0)
end
def OwnG(nm:ByteArray)(es:Mp):Prop := ∀k,(mget k es).isSome=true→pf nm k=none∨∃g j,g≤999999∧1≤j∧j≤999999∧k=fn nm g j
structure Tch (p:ByteArray→Prop) (es:Mp) (e:Dk):Prop where
 nks:NK e.safe_
 ch:∀c∈e.loose,(match c.do_ with | .disk_Disk_Cut_1 n _=>p n | .disk_add_1 n _=>p n | .disk_Disk_Remove_1 n=>p n)∧(0<c.tail.length→p c.name)
 sf:∀k,¬ p k→mget k e.safe_=mget k es
theorem AD{c:Cg}{p:ByteArray→Prop}{es:Mp}(hn:NK es)(h:match c with | .disk_Disk_Cut_1 n _=>p n | .disk_add_1 n _=>p n | .disk_Disk_Remove_1 n=>p n){k:ByteArray}(hk:¬ p k):mget k (ap c es)=mget k es:=by
 cases c with
 | disk_Disk_Remove_1 a=>unfold ap; rw [fC hn,if_neg (show ¬ k=a from λe=>hk (e▸h))]
 | disk_add_1 n b=>unfold ap; rw [cC,if_neg (show ¬ k=n from λe=>hk (e▸h))]
 | disk_Disk_Cut_1 n j=>unfold ap; rw [cC,if_neg (show ¬ k=n from λe=>hk (e▸h))]
theorem uu{p:ByteArray→Prop}:∀(cs:List Dc) (es:Mp),NK es→(∀c∈cs,match c.do_ with | .disk_Disk_Cut_1 n _=>p n | .disk_add_1 n _=>p n | .disk_Disk_Remove_1 n=>p n)→∀k,¬ p k→mget k (run cs es)=mget k es
 | [],_,_,_,_,_=>rfl
 | c::cs,es,hn,h,k,hk=>by
  show mget k (run cs (ap c.do_ es))=_
  rw [uu cs (ap c.do_ es) (Ae hn) (λc' hc=>h c' (Iu _ hc)) k hk,AD hn (h c It) hk]
theorem Tch.crash{p:ByteArray→Prop}{es:Mp}{e:Dk}(h:Tch p es e)(keep torn:Int):∀k,¬ p k→mget k (dw e keep torn)=mget k es:=by
 intro k hk
 have hr:=uu (p:=p) (e.loose.take (cK e keep)) e.safe_ h.nks (λc hc=>(h.ch c (List.mem_of_mem_take hc)).1) k hk
 unfold dw
 cases hc:cT e (cK e keep) torn with
 | false=>rw [ar rfl,hr,h.sf k hk]
 | true=>
  unfold cT at hc
  simp only [Iw,Iq] at hc
  rw [az rfl,AD (c:=.disk_add_1 _ _) (nM h.nks) ((h.ch (gt e.loose (cK e keep)) (by rw [fx hc.1]; exact List.getElem_mem _)).2 hc.2.2) hk,hr,h.sf k hk]
theorem Tch.done{p:ByteArray→Prop}{es:Mp}{e:Dk}(h:Tch p es e){c:Dc}(h1:(match c.do_ with | .disk_Disk_Cut_1 n _=>p n | .disk_add_1 n _=>p n | .disk_Disk_Remove_1 n=>p n)∧(0<c.tail.length→p c.name)):Tch p es (m6 e c):=
 ⟨h.nks,λc' hc=>by
  rcases List.mem_append.1 hc with hc | hc
  ·exact h.ch c' hc
  ·rw [List.mem_singleton.1 hc]; exact h1,h.sf⟩
theorem Tch.rem{p:ByteArray→Prop}{es:Mp}:∀(l:List ByteArray) (e:Dk),Tch p es e→(∀f∈l,p f)→Tch p es (remL e l)
 | [],e,h,_=>h
 | f::l,e,h,hl=>by
  show Tch p es (remL (dRem e f).1 l)
  refine Tch.rem l _ ?_ λg hg=>hl g (Iu _ hg)
  unfold dRem
  cases fS e f != 0 with
  | true=>exact h
  | false=>exact h.done ⟨hl f It,λh0=>absurd h0 (Nat.not_lt_zero _)⟩
theorem Tch.sync{p:ByteArray→Prop}{es:Mp}{e:Dk}(hn:NK e.seen)(h:∀k,¬ p k→mget k e.seen=mget k es):Tch p es (iW e):=⟨hn,(λc hc=>by cases hc),h⟩
def Gf(nm:ByteArray)(g:Nat)(k:ByteArray):Prop := ∃j,1≤j∧j≤999999∧k=fn nm g j
section
variable {R N:Nat} {d:Dk}
structure Mid2 (R M:Nat) (d:Dk) (nm:ByteArray) (g:Nat) (bs:Bs) (e:Dk):Prop where
 di:DI R M e
 has:Has nm g bs e.seen
 same:∀k,(∀j,1≤j→j≤999999→k≠fn nm g j)→mget k e.seen=mget k d.seen
 tch:d.loose = []→Tch (Gf nm g) d.seen e
theorem Mid2.ks{M:Nat}{nm:ByteArray}{g:Nat}{bs:Bs}{e:Dk}(h:Mid2 R M d nm g bs e)(hnm:Nm nm)(hg:g≤999999)(hk:Ks d.seen):Ks e.seen:=λk hks=>by
 by_cases hc:∀j,1≤j→j≤999999→k≠fn nm g j
 ·rw [h.same k hc] at hks; exact hk k hks
 ·obtain⟨j,hc⟩:=Classical.not_forall.1 hc
  obtain⟨j1,hc⟩:=Classical.not_imp.1 hc
  obtain⟨j2,hc⟩:=Classical.not_imp.1 hc
  rw [Classical.not_not.1 hc]; exact mr hnm hg j2
inductive RewS (R M:Nat) (d:Dk) (nm:ByteArray) (g:Nat) (size:Int) (bs:Bs) (cnt:Nat) (list:Bs):ai×Dk×Int→Prop
 | no (e:Dk) (c:Int):c≠0→(¬ Rk list∨R<Fw.sz d.seen+(frs list).length+10∨999999<list.length)→DI R M e→(∀k,mget k e.seen=mget k d.seen)→(d.loose = []→Tch (Gf nm (g+1)) d.seen e)→RewS R M d nm g size bs cnt list (lg nm g size bs cnt,e,c)
 | ok (e:Dk):Rk list→DI R M e→e.loose = []→Has nm (g+1) (bsOf size list) e.seen→Own1 nm (g+1) e.seen→mget (mn nm) e.seen=some (fb d (mn nm)++fr (pn (g+1))) →
   (∀k,pf nm k=none→k≠mn nm→mget k e.seen=mget k d.seen)→RewS R M d nm g size bs cnt list (lg nm (g+1) size (bsOf size list) list.length,e,0)
end
def SpOk(x:Span):Prop:=1≤x.s∧x.s≤16∧1≤x.f∧x.f≤x.t∧x.t≤4611686018427387904
structure VeOk (v:Ver):Prop where
 s:1≤v.dot.s∧v.dot.s≤16
 n:1≤v.dot.n∧v.dot.n≤4611686018427387904
 pl:v.past.length≤1024
 past:∀x∈v.past,SpOk x
 val:v.val.size≤256
 gone:v.gone=true→v.val=ByteArray.empty
structure ReOk (r:Rec):Prop where
 key:1≤r.key.size∧r.key.size≤32
 vl:r.vers.length≤512
 vers:∀v∈r.vers,VeOk v
theorem G0{α:Type}[Inhabited α]{l:List α}{i:Nat}(h:i<l.length):gt l i∈l:=by rw [fx h]; exact List.getElem_mem h
theorem E1{α:Type}[Inhabited α]{l:List α}{p:α→Prop}(h:∀j,j<l.length→p (gt l j)):∀x∈l,p x:=λx hx=>by
 obtain⟨j,hj,rfl⟩:=List.getElem_of_mem hx
 have:=h j hj
 rwa [fx hj] at this
theorem Gu(l:List Span):∃b,jb l=some b∧(b=true→l.length≤1024∧∀x∈l,SpOk x):=by
 unfold jb
 refine nX (λi _ => ∀j,j<i→SpOk (gt l j)) (λs hI=>⟨_,rfl,λhb=>⟨by have:=Ip hb; omega,E1 hI⟩⟩) (λf i s hi hI hf=>?_) (λj hj=>absurd hj (Nat.not_lt_zero _))
 ·unfold l4
  cases hc:(((((((decide ((gt l i).s<1))||(decide (16<(gt l i).s)))||(decide ((gt l i).f<1)))||(decide ((gt l i).t<(gt l i).f)))||(decide (4611686018427387904<(gt l i).t)))||(decide ((gt l i).s<s.s)))||(((gt l i).s==s.s)&&(decide ((gt l i).f≤(w64 (s.t+1)))))) with
  | true=>exact⟨false,rfl,λh=>by cases h⟩
  | false=>
   refine hf _ λj hj=>?_
   rcases Nat.lt_or_ge j i with h | h
   ·exact hI j h
   ·obtain rfl:j=i:=by omega
    simp only [Bool.or_eq_false_iff,Ir] at hc
    obtain⟨⟨⟨⟨⟨⟨h1,h2⟩,h3⟩,h4⟩,h5⟩,h6⟩,h7⟩:=hc
    clear h6 h7
    unfold SpOk
    omega
theorem HH(l:List Span)(s:Int):∃n,mq l s=some n:=by
 unfold mq
 obtain⟨r,h,_⟩:=nX (body:=kN s) (K:=λt=>some t) (P:=λ_=>True) (l:=l) (λ_ _=>True) (λs _=>⟨_,rfl,trivial⟩) (λf i t hi _ hf=>by
  unfold kN kO
  cases (gt l i).s==s <;> exact hf _ trivial) (s:=0) trivial
 exact⟨r,h⟩
theorem zW(v:Ver):∃b,gV v=some b∧(b=true→VeOk v):=by
 unfold gV
 obtain⟨a,a1,a2⟩:=Gu [⟨v.dot.s,v.dot.n,v.dot.n⟩]
 obtain⟨b,b1,b2⟩:=Gu v.past
 obtain⟨n,n1⟩:=HH v.past v.dot.s
 rw [a1,IC,b1,dX,IC,n1,dX,IC]
 refine⟨_,rfl,λh=>?_⟩
 simp only [Iw,Iq,Bool.or_eq_true,Bool.not_eq_true',beq_iff_eq] at h
 obtain⟨⟨⟨⟨h1,h2⟩,h3⟩,h4⟩,h5⟩:=h
 rw [h1] at h2
 have ha:=(a2 h1).2 _ It
 unfold SpOk at ha
 simp only at ha
 have hb:=b2 h2
 refine⟨⟨ha.1,ha.2.1⟩,⟨ha.2.2.1,ha.2.2.2.2⟩,hb.1,hb.2,by omega,λhg=>?_⟩
 rcases h5 with h5 | h5
 ·rw [hg] at h5; cases h5
 ·exact h5
theorem D4(d:Dot)(l:List Ver):∃b,jD d l=some b:=by
 unfold jD
 obtain⟨r,h,_⟩:=nX (body:=kz d) (K:=λ_=>some false) (P:=λ_=>True) (l:=l) (λ_ _=>True) (λs _=>⟨_,rfl,trivial⟩) (λf i t hi _ hf=>by
  unfold kz nR
  obtain⟨z,h,_⟩:=nX (body:=mC d) (K:=λ_=>some false) (P:=λ_=>True) (l:=(gt l i).past) (λ_ _=>True) (λs _=>⟨_,rfl,trivial⟩) (λf j t hi _ hf=>by
   unfold mC
   cases (((gt (gt l i).past j).s==d.s)&&(decide ((gt (gt l i).past j).f≤d.n)))&&(decide (d.n≤(gt (gt l i).past j).t)) with
   | true=>exact⟨_,rfl,trivial⟩
   | false=>exact hf _ trivial) (s:=()) trivial
  rw [h,IC]
  cases z with
  | true=>exact⟨_,rfl,trivial⟩
  | false=>exact hf _ trivial) (s:=()) trivial
 exact⟨r,h⟩
theorem CH{l:List Ver}(hl:l.length≤lim):∃b,kG l=some b∧(b=true→l.length≤512∧∀x∈l,VeOk x):=by
 rw [aB] at hl
 unfold kG
 refine nX (λi _ => ∀j,j<i→VeOk (gt l j)) (λs hI=>⟨_,rfl,λhb=>⟨by have:=Ip hb; omega,E1 hI⟩⟩) (λf i s hi hI hf=>?_) (λj hj=>absurd hj (Nat.not_lt_zero _))
 ·unfold nb
  obtain⟨a,a1,a2⟩:=zW (gt l i)
  obtain⟨b,b1⟩:=D4 (gt l i).dot l
  have e1:w64 (((i:Nat):Int) - 1)=((i:Nat):Int) - 1:=aH (by unfold I64; omega)
  have hc:imp ((!(!a))&&(decide (0<((i:Nat):Int)))) (inb (w64 (((i:Nat):Int) - 1)) l.length)=true:=by
   rw [e1]
   by_cases h0:0<((i:Nat):Int)
   ·have:inb (((i:Nat):Int) - 1) l.length=true:=by
     unfold inb
     rw [Iw,Iq,Iq]
     clear e1 a1 a2 b1 hf hI
     omega
    rw [this]; cases a <;> cases decide (0<((i:Nat):Int)) <;> rfl
   ·rw [decide_eq_false h0]; cases a <;> rfl
  rw [a1,IC,aw hc,b1]
  unfold mD
  rw [dX,IC,dX,IC]
  cases a with
  | false=>exact⟨_,rfl,λh=>by cases h⟩
  | true=>
   have hn:∀j,j<i+1→VeOk (gt l j):=λj hj=>by
    rcases Nat.lt_or_ge j i with h | h
    ·exact hI j h
    ·obtain rfl:j=i:=by omega
     exact a2 rfl
   generalize hg:(((!true)||_)||_)=g
   cases g with
   | true=>exact⟨_,rfl,λh=>by cases h⟩
   | false=>exact hf _ hn
theorem nV{r:Rec}(hl:r.vers.length≤lim):∃b,cL r=some b∧(b=true→ReOk r):=by
 unfold cL
 obtain⟨a,a1,a2⟩:=CH hl
 rw [a1,dX,IC]
 refine⟨_,rfl,λh=>?_⟩
 simp only [Iw,Iq] at h
 obtain⟨⟨h1,h2⟩,h3⟩:=h
 have hc:((decide (1≤((r.key.size:Nat):Int)))&&(decide (((r.key.size:Nat):Int)≤32)))=true:=by rw [Iw,Iq,Iq]; exact⟨h1,h2⟩
 rw [hc] at h3
 have:=a2 h3
 exact⟨⟨by omega,by omega⟩,this.1,this.2⟩
def pz(n:Int):List UInt8:=pn n.toNat
def spB(x:Span):List UInt8:=pz x.s++(pz x.f++pz (x.t - x.f))
def spsB(l:List Span):List UInt8:=pz l.length++(l.map spB).flatten
def txB(s:ByteArray):List UInt8:=pz s.size++s.data.toList
def veB(v:Ver):List UInt8:=pz v.dot.s++(pz v.dot.n++(spsB v.past++(bif v.gone then pz 1 else pz 0++txB v.val)))
def vesB(l:List Ver):List UInt8:=pz l.length++(l.map veB).flatten
def reB(r:Rec):List UInt8:=txB r.key++vesB r.vers
theorem jk{n:Int}(h:n≤4611686018427387904):(pz n).length≤9:=wT 8 _ (by omega)
theorem Ev(n:Int):0<(pz n).length:=wO _
theorem yW{α:Type}{e:α→List UInt8}{c:Nat}:∀{l:List α},(∀x∈l,(e x).length≤c)→((l.map e).flatten).length≤c*l.length
 | [],_=>IG _
 | x::l,h=>by
  have h1:=h x It
  have h2:=yW (l:=l) λy hy=>h y (Iu _ hy)
  rw [IA,IP,Is,Iy,Nat.mul_add]; omega
theorem tg{α:Type}{e:α→List UInt8}:∀{l:List α},(∀x∈l,0<(e x).length)→l.length≤((l.map e).flatten).length
 | [],_=>IG _
 | x::l,h=>by
  have h1:=h x It
  have h2:=tg (l:=l) λy hy=>h y (Iu _ hy)
  rw [IA,IP,Is,Iy]; omega
theorem BZ{x:Span}(h:SpOk x):(spB x).length≤27:=by
 obtain⟨h1,h2,h3,h4,h5⟩:=h
 have a:=jk (n:=x.s) (by omega)
 have b:=jk (n:=x.f) (by omega)
 have c:=jk (n:=x.t - x.f) (by omega)
 unfold spB; simp only [Is]; omega
theorem BQ(x:Span):0<(spB x).length:=by
 have:=Ev x.s
 unfold spB; simp only [Is]; omega
theorem BM{s:ByteArray}(h:s.size≤256):(txB s).length≤265:=by
 have a:=jk (n:=(s.size:Int)) (by omega)
 have b:s.data.toList.length=s.size:=rfl
 unfold txB; simp only [Is]; omega
theorem FE{v:Ver}(h:VeOk v):(veB v).length≤28000:=by
 have a:=jk (n:=v.dot.s) (by have:=h.s; omega)
 have b:=jk (n:=v.dot.n) h.n.2
 have hp:=h.pl
 have c:=jk (n:=(v.past.length:Int)) (by omega)
 have d:=yW (e:=spB) (c:=27) (l:=v.past) λx hx=>BZ (h.past x hx)
 have e1:=jk (n:=1) (by omega)
 have e0:=jk (n:=0) (by omega)
 have f:=BM h.val
 have g:(bif v.gone then pz 1 else pz 0++txB v.val).length≤274:=by cases v.gone <;> simp only [cond_true,cond_false,Is] <;> omega
 unfold veB spsB; simp only [Is]; omega
theorem C7(v:Ver):0<(veB v).length:=by
 have:=Ev v.dot.s
 unfold veB; simp only [Is]; omega
theorem tK{r:Rec}(h:ReOk r):(reB r).length≤14400000:=by
 have hk:=h.key
 have hv:=h.vl
 have a:=BM (s:=r.key) (by omega)
 have c:=jk (n:=(r.vers.length:Int)) (by omega)
 have d:=yW (e:=veB) (c:=28000) (l:=r.vers) λx hx=>FE (h.vers x hx)
 unfold reB vesB; simp only [Is]; omega
theorem C0{b:List UInt8}{n:Int}(h0:0≤n)(h1:n≤4611686018427387904)(hb:b.length+(pz n).length≤lim):eh ⟨b⟩ n=some ⟨b++pz n⟩:=by
 unfold eh
 obtain⟨m,rfl⟩:∃m:Nat,n=(m:Int):=⟨n.toNat,by omega⟩
 rw [sZ (by omega),IC]
 exact aw (IF hb)
theorem xu{b:List UInt8}{n:Int}(h0:0≤n)(h1:n≤4611686018427387904)(hb:b.length+(pz n).length≤lim):cB ⟨b⟩ n=some ⟨b++pz n⟩:=by
 unfold cB
 rw [C0 h0 h1 hb]; rfl
theorem Ef{b:List UInt8}{s:ByteArray}(h:s.size≤256)(hb:b.length+(txB s).length≤lim):gn ⟨b⟩ s=some ⟨b++txB s⟩:=by
 unfold gn ox
 have hl:s.data.toList.length=s.size:=rfl
 have hx:(txB s).length=(pn s.size).length+s.size:=by unfold txB pz; rw [Is,hl,Iz]
 rw [sZ (by omega),IC,aw (IF (by omega)),IC]
 exact aw (IF hb)
theorem GL{b:List UInt8}{x:Span}(h:SpOk x)(hb:b.length+(spB x).length≤lim):gB ⟨b⟩ x=some ⟨b++spB x⟩:=by
 obtain⟨h1,h2,h3,h4,h5⟩:=h
 have e:(spB x).length=(pz x.s).length+((pz x.f).length+(pz (x.t - x.f)).length):=by unfold spB; simp only [Is]
 unfold gB
 rw [xu (by omega) (by omega) (by omega),IC,C0 (by omega) (by omega) (by rw [Is]; omega),IC,aH (x:=x.t - x.f) (by unfold I64; omega),
  C0 (by omega) (by omega) (by rw [Is,Is]; omega),IC]
 unfold spB
 rw [Iv,Iv]
theorem BG:∀{l:List Span} {b:List UInt8} (i:Nat),(∀x∈l,SpOk x)→b.length+((l.map spB).flatten).length≤lim→forI cN (λo=>some o) i l ⟨b⟩=some ⟨b++(l.map spB).flatten⟩
 | [],b,i,_,_=>by show some (⟨b⟩:aj)=some ⟨b++[]⟩; rw [IL]
 | x::l,b,i,h,hb=>by
  rw [IA,IP,Is] at hb
  show cN (forI cN (λo=>some o) (i+1) l) i x ⟨b⟩=_
  unfold cN
  rw [GL (h x It) (by omega),IC]
  rw [show (λf14 i15 ei15 o11=>Option.bind (gB o11 ei15) λz22=>f14 z22)=cN from rfl]
  rw [BG (i+1) (λy hy=>h y (Iu _ hy)) (by rw [Is]; omega),IA,IP,Iv]
theorem HD{l:List Span}{b:List UInt8}(h:∀x∈l,SpOk x)(hl:l.length≤1024)(hb:b.length+(spsB l).length≤lim):fL ⟨b⟩ l=some ⟨b++spsB l⟩:=by
 have e:(spsB l).length=(pz l.length).length+((l.map spB).flatten).length:=by unfold spsB; rw [Is]
 unfold fL
 rw [xu (by omega) (by omega) (by omega),IC,BG 0 h (by rw [Is]; omega),Iv]; rfl
theorem Hz{b:List UInt8}{v:Ver}(h:VeOk v)(hb:b.length+(veB v).length≤lim):fF ⟨b⟩ v=some ⟨b++veB v⟩:=by
 have hs:=h.s
 have hn:=h.n
 have e:(veB v).length=(pz v.dot.s).length+((pz v.dot.n).length+((spsB v.past).length+(bif v.gone then pz 1 else pz 0++txB v.val).length)):=by unfold veB; simp only [Is]
 unfold fF
 rw [xu (by omega) (by omega) (by omega),IC,C0 (by omega) (by omega) (by rw [Is]; omega),IC,HD h.past h.pl (by rw [Is,Is]; omega),IC]
 unfold veB
 cases hg:v.gone with
 | true=>
  rw [hg] at e
  simp only [cond_true] at e ⊢
  rw [xu (by omega) (by omega) (by rw [Is,Is,Is]; omega),IC]
  simp only [Iv]
 | false=>
  rw [hg] at e
  simp only [cond_false,Is] at e ⊢
  rw [xu (by omega) (by omega) (by rw [Is,Is,Is]; omega),IC,Ef h.val (by rw [Is,Is,Is,Is]; omega),IC]
  simp only [Iv]
theorem EK:∀{l:List Ver} {b:List UInt8} (i:Nat),(∀x∈l,VeOk x)→b.length+((l.map veB).flatten).length≤lim→forI d9 (λo=>some o) i l ⟨b⟩=some ⟨b++(l.map veB).flatten⟩
 | [],b,i,_,_=>by show some (⟨b⟩:aj)=some ⟨b++[]⟩; rw [IL]
 | x::l,b,i,h,hb=>by
  rw [IA,IP,Is] at hb
  show d9 (forI d9 (λo=>some o) (i+1) l) i x ⟨b⟩=_
  unfold d9
  rw [Hz (h x It) (by omega),IC]
  rw [show (λf14 i15 ei15 o11=>Option.bind (fF o11 ei15) λz25=>f14 z25)=d9 from rfl]
  rw [EK (i+1) (λy hy=>h y (Iu _ hy)) (by rw [Is]; omega),IA,IP,Iv]
theorem zq{r:Rec}(h:ReOk r):ic ⟨[]⟩ r=some ⟨reB r⟩:=by
 have hk:=h.key
 have hv:=h.vl
 have hl:=tK h
 have e:(reB r).length=(txB r.key).length+((pz r.vers.length).length+((r.vers.map veB).flatten).length):=by unfold reB vesB; simp only [Is]
 have hlim:14400000≤lim:=by rw [aB]; omega
 unfold ic
 rw [Ef (by omega) (by simp only [IK]; omega),IC]
 unfold jp
 rw [xu (by omega) (by omega) (by simp only [IO]; omega),IC,EK 0 h.vers (by simp only [IO,Is]; omega),IC]
 unfold reB vesB
 simp only [IO,Iv]
theorem DH{r:Rec}(hl:r.vers.length≤lim):(dS r=some ([],1))∨(cL r=some true∧ReOk r∧dS r=some (reB r,0)):=by
 obtain⟨b,b1,b2⟩:=nV hl
 unfold dS
 rw [b1,IC]
 cases b with
 | false=>exact .inl rfl
 | true=>refine .inr ⟨rfl,b2 rfl,?_⟩; rw [show (!true)=false from rfl,ar rfl,zq (b2 rfl)]; rfl
def At(B:List UInt8)(p:Int)(rest:List UInt8):Prop := ∃q:Nat,p=(q:Int)∧q≤B.length∧B.drop q=rest
theorem At.go{B a rest:List UInt8}{q:Nat}(hq:q≤B.length)(h:B.drop q=a++rest):At B ((q+a.length:Nat):Int) rest∧q+a.length≤B.length:=by
 have h1:=congrArg List.length h
 rw [IW,Is] at h1
 refine⟨⟨q+a.length,rfl,by omega,?_⟩,by omega⟩
 rw [← List.drop_drop,h,List.drop_left]
theorem At.len{B rest:List UInt8}{p:Int}(h:At B p rest):(B.length:Int) - p=(rest.length:Int)∧0≤p:=by
 obtain⟨q,rfl,h1,rfl⟩:=h
 rw [IW]; omega
theorem At.end_{B:List UInt8}{p:Int}(h:At B p []):p=(B.length:Int):=by have:=h.len; simp at this; omega
section
variable {B:List UInt8} (hB:B.length≤lim)
include hB
theorem F5{p n:Int}{rest:List UInt8}(h0:0≤n)(h1:n≤4611686018427387904)(h:At B p (pz n++rest)):∃q:Nat,gX B p=some (n,(q:Int),0)∧At B q rest∧q≤B.length:=by
 obtain⟨q,rfl,hq,hd⟩:=h
 have hg:=At.go hq hd
 have hl:=jk h1
 refine⟨q+(pz n).length,?_,hg.1,hg.2⟩
 rw [zl hB hq,hd]
 unfold pz at hl ⊢
 rw [Bq n.toNat 0 0 rest (λh=>absurd h (Nat.lt_irrefl 0)) (by omega)]
 unfold numR
 have e1:(((0+n.toNat*128 ^ 0:Nat):Nat):Int)=n:=by rw [Nat.pow_zero,Nat.mul_one,Nat.zero_add]; omega
 simp only [if_pos]
 rw [e1,Nat.zero_add]
theorem vn{p n:Int}{rest:List UInt8}(h0:0≤n)(h1:n≤4611686018427387904)(h:At B p (pz n++rest)):∃q,be ⟨B,p⟩=some (some (⟨B,q⟩,n))∧At B q rest:=by
 obtain⟨q,e,hA,hq⟩:=F5 hB h0 h1 h
 rw [aB] at hB
 refine⟨(q:Int),?_,hA⟩
 unfold be fj
 simp only
 rw [e,IC]
 simp only
 rw [ar (by decide),aw (by unfold i64b; rw [Iw,Iq,Iq]; omega),aw (by unfold i64b; rw [Iw,Iq,Iq]; omega)]
theorem GB{p n:Int}{rest:List UInt8}(h0:0≤n)(h1:n≤4611686018427387904)(h:At B p (pz n++rest)):∃q,d6 ⟨B,p⟩=some (some (⟨B,q⟩,n))∧At B q rest:=by
 obtain⟨q,e,hA⟩:=vn hB h0 h1 h
 refine⟨q,?_,hA⟩
 unfold d6
 rw [e]; rfl
theorem Ba{p:Int}{s:ByteArray}{rest:List UInt8}(hs:s.size≤256)(h:At B p (txB s++rest)):∃q,bX ⟨B,p⟩=some (some (⟨B,q⟩,s))∧At B q rest:=by
 unfold txB at h
 rw [Iv] at h
 obtain⟨q,e,hA,hq⟩:=F5 hB (by omega) (by omega) h
 obtain⟨q2,e2,hq2,hd⟩:=hA
 obtain rfl:q=q2:=by omega
 have hg:=At.go hq hd
 have hsl:s.data.toList.length=s.size:=rfl
 rw [hsl] at hg
 have hB2:=hB
 rw [aB] at hB2
 refine⟨((q+s.size:Nat):Int),?_,hg.1⟩
 have hgl:=hg.2
 have ew:w64 (((q:Nat):Int)+((s.size:Nat):Int))=((q+s.size:Nat):Int):=by rw [aH (by unfold I64; omega)]; omega
 have ew2:w64 (((B.length:Nat):Int) - ((q:Nat):Int))=((B.length:Nat):Int) - ((q:Nat):Int):=aH (by unfold I64; omega)
 have ed:(⟨(List.drop ((q:Nat):Int).toNat (List.take ((q+s.size:Nat):Int).toNat B)).toArray⟩:ByteArray)=s:=by
  apply j7
  show List.drop ((q:Nat):Int).toNat (List.take ((q+s.size:Nat):Int).toNat B)=s.data.toList
  rw [Iz,Iz,List.drop_take,hd,Nat.add_sub_cancel_left, ← hsl,List.take_left]
 unfold bX ke db
 simp only
 rw [e,IC]
 simp only
 rw [ar (by decide),ar (by rw [Ir]; clear ew ew2; omega),ew2,ar (by rw [Ir]; clear ew ew2; omega),ew,
  aw (by unfold inle; rw [Iw,Iq,Iq]; clear ew ew2; omega),aw (by rw [Iq]; clear ew ew2; omega),aw (by rw [Iq,Iz,Iz]; clear ew ew2; omega),ed,IC]
 simp only
 rw [ar (by decide),aw (by unfold i64b; rw [Iw,Iq,Iq]; clear ew ew2; omega),aw (by rw [aB,Iq]; clear ew ew2; omega)]
theorem GF{p:Int}{x:Span}{rest:List UInt8}(hx:SpOk x)(h:At B p (spB x++rest)):∃q,dv ⟨B,p⟩=some (some (⟨B,q⟩,x))∧At B q rest:=by
 obtain⟨h1,h2,h3,h4,h5⟩:=hx
 unfold spB at h
 rw [Iv,Iv] at h
 obtain⟨q1,e1,a1⟩:=GB hB (by omega) (by omega) h
 obtain⟨q2,e2,a2⟩:=vn hB (by omega) (by omega) a1
 obtain⟨q3,e3,a3⟩:=vn hB (by omega) (by omega) a2
 refine⟨q3,?_,a3⟩
 unfold dv eJ eK optm
 rw [e1,IC]
 simp only
 rw [e2,IC]
 simp only
 rw [e3,IC]
 simp only
 rw [show w64 (x.f+(x.t - x.f))=x.t by rw [aH (by unfold I64; omega)]; omega,ar (by rw [Ir]; omega)]
theorem Cj:∀{l:List Span} {out:List Span} {p:Int} {rest:List UInt8} (i:Nat),(∀x∈l,SpOk x)→out.length+l.length≤lim→At B p ((l.map spB).flatten++rest) →
  ∃q,forU b6 (λ(out_20,o25)=>some (some (o25,out_20))) l.length i (out,⟨B,p⟩)=some (some (⟨B,q⟩,out++l))∧At B q rest
 | [],out,p,rest,i,_,_,h=>⟨p,by show some (some ((⟨B,p⟩:aa),out))=_; rw [IL],h⟩
 | x::l,out,p,rest,i,hx,hl,h=>by
  rw [Iy] at hl
  rw [IA,IP,Iv] at h
  obtain⟨q1,e1,a1⟩:=GF hB (hx x It) h
  obtain⟨q2,e2,a2⟩:=Cj (l:=l) (out:=out++[x]) (i+1) (λy hy=>hx y (Iu _ hy)) (by rw [Is,List.length_singleton]; omega) a1
  refine⟨q2,?_,a2⟩
  show b6 (forU b6 (λ(out_20,o25)=>some (some (o25,out_20))) l.length (i+1)) i (out,⟨B,p⟩)=_
  rw [Iv] at e2
  generalize forU b6 (λ(out_20,o25)=>some (some (o25,out_20))) l.length (i+1)=f at e2 ⊢
  unfold b6 optm
  simp only
  rw [e1,IC]
  simp only
  rw [aw (IF (by omega)),e2]; rfl
theorem HG{p:Int}{l:List Span}{rest:List UInt8}(hx:∀x∈l,SpOk x)(hl:l.length≤1024)(h:At B p (spsB l++rest)):∃q,cH ⟨B,p⟩=some (some (⟨B,q⟩,l))∧At B q rest:=by
 unfold spsB at h
 rw [Iv] at h
 obtain⟨q1,e1,a1⟩:=vn hB (by omega) (by omega) h
 have hg:=tg (e:=spB) (l:=l) λx _=>BQ x
 have hr:=a1.len
 rw [Is] at hr
 have hB2:=hB
 rw [aB] at hB2
 obtain⟨q2,e2,a2⟩:=Cj hB (l:=l) (out:=[]) 0 hx (by rw [aB]; simp only [IK]; omega) a1
 refine⟨q2,?_,a2⟩
 unfold cH dO optm
 rw [e1,IC]
 simp only
 rw [aH (x:=((B.length:Nat):Int) - q1) (by unfold I64; omega),ar (by rw [Ir]; omega),Iz,e2]; rfl
theorem I2{p:Int}{v:Ver}{rest:List UInt8}(hv:VeOk v)(h:At B p (veB v++rest)):∃q,ek ⟨B,p⟩=some (some (⟨B,q⟩,v))∧At B q rest:=by
 have hs:=hv.s
 have hn:=hv.n
 unfold veB at h
 simp only [Iv] at h
 obtain⟨q1,e1,a1⟩:=GB hB (by omega) (by omega) h
 obtain⟨q2,e2,a2⟩:=vn hB (by omega) (by omega) a1
 obtain⟨q3,e3,a3⟩:=HG hB hv.past hv.pl a2
 unfold ek dK optm
 rw [e1,IC]
 simp only
 rw [e2,IC]
 simp only
 rw [e3,IC]
 simp only
 have hgo:=hv.gone
 obtain⟨⟨ds,dn⟩,past,gone,val⟩:=v
 simp only at a3 hgo ⊢
 cases gone with
 | true=>
  simp only [cond_true] at a3
  obtain⟨q4,e4,a4⟩:=vn hB (by omega) (by omega) a3
  refine⟨q4,?_,a4⟩
  rw [e4,IC]
  simp only
  rw [ar (by decide),az (by decide),hgo rfl]
 | false=>
  simp only [cond_false,Iv] at a3
  obtain⟨q4,e4,a4⟩:=vn hB (by omega) (by omega) a3
  obtain⟨q5,e5,a5⟩:=Ba hB hv.val a4
  refine⟨q5,?_,a5⟩
  rw [e4,IC]
  simp only
  rw [az (by decide),e5,IC]
theorem DJ:∀{l:List Ver} {out:List Ver} {p:Int} {rest:List UInt8} (i:Nat),(∀x∈l,VeOk x)→out.length+l.length≤lim→At B p ((l.map veB).flatten++rest) →
  ∃q,forU ba (λ(out_20,o25)=>some (some (o25,out_20))) l.length i (out,⟨B,p⟩)=some (some (⟨B,q⟩,out++l))∧At B q rest
 | [],out,p,rest,i,_,_,h=>⟨p,by show some (some ((⟨B,p⟩:aa),out))=_; rw [IL],h⟩
 | x::l,out,p,rest,i,hx,hl,h=>by
  rw [Iy] at hl
  rw [IA,IP,Iv] at h
  obtain⟨q1,e1,a1⟩:=I2 hB (hx x It) h
  obtain⟨q2,e2,a2⟩:=DJ (l:=l) (out:=out++[x]) (i+1) (λy hy=>hx y (Iu _ hy)) (by rw [Is,List.length_singleton]; omega) a1
  refine⟨q2,?_,a2⟩
  show ba (forU ba (λ(out_20,o25)=>some (some (o25,out_20))) l.length (i+1)) i (out,⟨B,p⟩)=_
  rw [Iv] at e2
  generalize forU ba (λ(out_20,o25)=>some (some (o25,out_20))) l.length (i+1)=f at e2 ⊢
  unfold ba optm
  simp only
  rw [e1,IC]
  simp only
  rw [aw (IF (by omega)),e2]; rfl
theorem HK{p:Int}{l:List Ver}{rest:List UInt8}(hx:∀x∈l,VeOk x)(hl:l.length≤512)(h:At B p (vesB l++rest)):∃q,cX ⟨B,p⟩=some (some (⟨B,q⟩,l))∧At B q rest:=by
 unfold vesB at h
 rw [Iv] at h
 obtain⟨q1,e1,a1⟩:=vn hB (by omega) (by omega) h
 have hg:=tg (e:=veB) (l:=l) λx _=>C7 x
 have hr:=a1.len
 rw [Is] at hr
 have hB2:=hB
 rw [aB] at hB2
 obtain⟨q2,e2,a2⟩:=DJ hB (l:=l) (out:=[]) 0 hx (by rw [aB]; simp only [IK]; omega) a1
 refine⟨q2,?_,a2⟩
 unfold cX dY optm
 rw [e1,IC]
 simp only
 rw [aH (x:=((B.length:Nat):Int) - q1) (by unfold I64; omega),ar (by rw [Ir]; omega),Iz,e2]; rfl
theorem Hn{p:Int}{r:Rec}{rest:List UInt8}(hr:ReOk r)(h:At B p (reB r++rest)):∃q,ef ⟨B,p⟩=some (some (⟨B,q⟩,r))∧At B q rest:=by
 have hk:=hr.key
 unfold reB at h
 rw [Iv] at h
 obtain⟨q1,e1,a1⟩:=Ba hB (by omega) h
 obtain⟨q2,e2,a2⟩:=HK hB hr.vers hr.vl a1
 refine⟨q2,?_,a2⟩
 unfold ef optm
 rw [e1,IC]
 simp only
 rw [e2,IC]
end
theorem wH{r:Rec}(hr:ReOk r)(h:cL r=some true):eN (reB r)=some (r,0):=by
 have hl:=tK hr
 obtain⟨q,e,a⟩:=Hn (B:=reB r) (by rw [aB]; omega) (p:=0) (rest:=[]) hr ⟨0,rfl,IH _,by rw [IL]; rfl⟩
 have hq:=a.end_
 unfold eN f0 dI optm
 rw [e,IC]
 simp only
 rw [hq,show (((reB r).length:Int) != ((reB r).length:Int))=false by simp,h]
 rfl
theorem De:eN []=some (⟨ByteArray.empty,[]⟩,2):=by decide
def Only(nm:ByteArray)(g:Nat)(bs:Bs)(es:Mp):Prop:=Has nm g bs es∧∀k,(mget k es).isSome=true→∃j,1≤j∧j≤999999∧k=fn nm g j
section
variable {R N:Nat} {d:Dk} {nm:ByteArray} {g:Nat} {bs:Bs} {es:Mp}
theorem Only.own(h:Only nm g bs es):Own1 nm g es:=λk hk=>.inr (h.2 k hk)
theorem Only.ks(h:Only nm g bs es)(hnm:Nm nm)(hg:g≤999999):Ks es:=λk hk=>by
 obtain⟨j,_,j2,e⟩:=h.2 k hk
 rw [e]; exact mr hnm hg j2
theorem Only.list(h:Only nm g bs d.seen)(hnm:Nm nm):fb d (mn nm) = []:=by
 unfold fb
 cases hs:mget (mn nm) d.seen with
 | none=>rfl
 | some v=>
  obtain⟨j,_,_,e⟩:=h.2 _ (by rw [hs]; rfl)
  exact absurd e (xt hnm hnm)
theorem Only.nil:Only nm g [] []:=⟨⟨IH _,λk _ _=>rfl⟩,λk hk=>by cases hk⟩
theorem Only.add{size:Int}{f:List UInt8}(h:Only nm g bs d.seen)(hnm:Nm nm)(hp:pnum size bs f≤999999):Only nm g (addP size bs f) (dAdd d nm g size bs f).seen:=by
 refine⟨AppR.has hnm h.1 hp,λk hk=>?_⟩
 by_cases e:k=fn nm g (pnum size bs f)
 ·exact⟨_,pi _ _ _,hp,e⟩
 ·rw [ph e] at hk; exact h.2 k hk
theorem Only.len(h:Only nm g bs es)(hnm:Nm nm)(hn:NK es):es.length=bs.length:=by
 have h1:(es.map (·.1)).Nodup:=hn
 have h2:((List.range bs.length).map λj=>fn nm g (j+1)).Nodup:=by
  refine List.Pairwise.map _ (R:=λa b=>a≠b) (λa b hab e=>hab ?_) List.nodup_range
  have:=(lr hnm hnm e).2.2; omega
 have h3:(es.map (·.1)).Perm ((List.range bs.length).map λj=>fn nm g (j+1)):=by
  rw [List.perm_ext_iff_of_nodup h1 h2]
  intro k
  rw [← dD,List.mem_map]
  constructor
  ·intro hk
   obtain⟨j,j1,j2,e⟩:=h.2 k hk
   rw [e,h.1.2 j j1 j2] at hk
   refine⟨j - 1,List.mem_range.2 ?_,by rw [e,show j - 1+1=j by omega]⟩
   rcases Nat.lt_or_ge (j - 1) bs.length with hlt | hge
   ·exact hlt
   ·rw [List.getElem?_eq_none hge] at hk; cases hk
  ·rintro⟨j,hj,rfl⟩
   have hj:=List.mem_range.1 hj
   have:=h.1.1
   rw [h.1.2 (j+1) (by omega) (by omega),Nat.add_sub_cancel,List.getElem?_eq_getElem hj]; rfl
 have:=h3.length_eq
 simpa using this
theorem CI(h:DI R N d)(hR:R≤MX)(hN:4*N+10≤lim)(hnm:Nm nm)(size:Int)(ho:Only nm 0 bs d.seen):
  ∃d',dU d nm size=some (d',some (lg nm 0 (max size 16) (aC bs).2 (aC bs).1.length),(aC bs).1,0)∧DI R (4*N+10) d'∧Only nm 0 (aC bs).2 d'.seen∧(d'=d∨d'.loose = [])∧((aC bs).2=bs→d'=d):=by
 obtain⟨d',h1,h2,h3,h4,h5,h6,h7⟩:=H1 h hR hN hnm (ho.ks hnm (IH _)) size (gl:=[]) (e0:=0) (g:=0) (bs:=bs) (IH _) (by rw [ho.list hnm]; rfl) rfl ho.1 ho.own
 exact⟨d',h1,h2,⟨h3,λk hk=>ho.2 k (h5 k hk)⟩,h6,h7⟩
end
theorem nm1{c:UInt8}(h:c≠46):Nm ⟨#[c]⟩:=⟨by show 1≤1; omega,by show 1≤2; omega,λx hx=>by rw [List.mem_singleton.1 hx]; exact h⟩
def Rt(r:Rec):Prop:=cL r=some true∧ReOk r
def layM(m:Mp)(r:Rec):Mp:=if r.vers = [] then mdel r.key m else mput r.key (reB r) (mdel r.key m)
def putM(m:Mp)(r:Rec):Mp:=mput r.key (reB r) m
def wS(l:List Rec):Mp:=l.foldl layM []
theorem EE(g:ai)(m:Mp)(r:Rec):ey ⟨g,m⟩ r (reB r)=some ⟨g,layM m r⟩:=by
 unfold ey layM
 cases hv:r.vers with
 | nil=>rw [ar (by decide),if_pos rfl]
 | cons x l=>rw [az (by rw [Iy,Iq]; omega),if_neg (by simp)]
structure KI (m:Mp):Prop where
 nk:NK m
 en:∀k b,mget k m=some b→∃r,Rt r∧r.key=k∧r.vers≠[]∧b=reB r
theorem KI.nil:KI []:=⟨NK.nil,λk b h=>by cases h⟩
theorem KI.lay{m:Mp}(h:KI m){r:Rec}(hr:Rt r):KI (layM m r):=by
 unfold layM
 by_cases hv:r.vers = []
 ·rw [if_pos hv]
  refine⟨h.nk.del,λk b hb=>?_⟩
  rw [fC h.nk] at hb
  split at hb
  ·cases hb
  ·exact h.en k b hb
 ·rw [if_neg hv]
  refine⟨h.nk.del.put,λk b hb=>?_⟩
  rw [cC] at hb
  by_cases hk:k=r.key
  ·rw [if_pos hk] at hb
   injection hb with hb
   exact⟨r,hr,hk.symm,hv,hb.symm⟩
  ·rw [if_neg hk,fC h.nk,if_neg hk] at hb
   exact h.en k b hb
theorem KI.fold:∀{l:List Rec} {m:Mp},KI m→(∀r∈l,Rt r)→KI (l.foldl layM m)
 | [],m,h,_=>h
 | r::l,m,h,hl=>KI.fold (l:=l) (h.lay (hl r It)) λx hx=>hl x (Iu _ hx)
theorem KI.of{l:List Rec}(h:∀r∈l,Rt r):KI (wS l):=KI.nil.fold h
theorem Fb(m:Mp)(r:Rec):(layM m r).length≤m.length+1:=by
 unfold layM
 have h:=wJ (x:=r.key) (es:=m)
 split
 ·omega
 ·have:=t8 (x:=r.key) (v:=reB r) (es:=mdel r.key m); omega
def decV(b:List UInt8):List Ver:=match eN b with
 | some z=>z.1.vers
 | none=>[]
def aO(m:Mp):List Rec:=(dg m).map λk=>⟨k,decV ((mget k m).getD [])⟩
theorem Gv{g:ai}{m:Mp}(h:KI m)(k:ByteArray):d8 ⟨g,m⟩ k=some (decV ((mget k m).getD [])):=by
 unfold d8 decV
 simp only
 cases hg:mget k m with
 | none=>rw [Option.getD_none,De]; rfl
 | some b=>
  obtain⟨r,hr,_,_,rfl⟩:=h.en k b hg
  rw [Option.getD_some,wH hr.2 hr.1]; rfl
theorem yh{g:ai}{m:Mp}(h:KI m):∀(l:List ByteArray) (i:Nat) (out:List Rec),out.length+l.length≤lim→forI (de ⟨g,m⟩) (λout_13=>some out_13) i l out=some (out++l.map λk=>⟨k,decV ((mget k m).getD [])⟩)
 | [],i,out,_=>by show some out=_; rw [List.map_nil,IL]
 | k::l,i,out,hl=>by
  rw [Iy] at hl
  have ih:=yh (g:=g) h l (i+1) (out++[⟨k,decV ((mget k m).getD [])⟩]) (by rw [Is,List.length_singleton]; omega)
  show de ⟨g,m⟩ (forI (de ⟨g,m⟩) (λout_13=>some out_13) (i+1) l) i k out=_
  generalize forI (de ⟨g,m⟩) (λout_13=>some out_13) (i+1) l=f at ih ⊢
  unfold de
  rw [Gv h,IC,aw (IF (by omega)),ih,Iv]; rfl
theorem Es{g:ai}{m:Mp}(hm:m.length≤lim):eQ ⟨g,m⟩=some (dg m):=aw (IF hm)
theorem Dq{g:ai}{m:Mp}(h:KI m)(hm:m.length≤lim):gC ⟨g,m⟩=some (aO m):=by
 unfold gC
 rw [Es hm,IC,yh h _ 0 [] (by rw [gh]; simpa using hm)]; rfl
theorem pF{m:Mp}(h:KI m){x:Rec}(hx:x∈aO m):Rt x∧x.vers≠[]∧mget x.key m=some (reB x):=by
 unfold aO at hx
 obtain⟨k,hk,rfl⟩:=List.mem_map.1 hx
 rw [lh, ← dD] at hk
 cases hg:mget k m with
 | none=>rw [hg] at hk; cases hk
 | some b=>
  obtain⟨r,hr,rfl,hv,rfl⟩:=h.en k b hg
  have hd:decV (reB r)=r.vers:=by unfold decV; rw [wH hr.2 hr.1]
  simp only [Option.getD_some,hd]
  exact⟨hr,hv,trivial⟩
theorem Cp{m:Mp}(h:KI m):(aO m).Pairwise λa b=>a.key≠b.key:=by
 unfold aO
 exact List.Pairwise.map _ (λa b hab=>hab) (za h.nk)
theorem kR(m:Mp):(aO m).length=m.length:=by unfold aO; rw [II,gh]
theorem e_sp(a:List Span):jW a a=some true:=by
 unfold jW
 rw [ar (by simp)]
 obtain⟨r,h,rfl⟩:=nX (body:=kb a) (K:=λ_=>some true) (P:=λb=>b=true) (l:=a) (λ_ _=>True) (λs _=>⟨_,rfl,rfl⟩) (λf i t hi _ hf=>by
  unfold kb
  rw [aw (IF hi),ar (by simp)]
  exact hf _ trivial) (s:=()) trivial
 exact h
theorem Hy(a:Ver):iq a a=some true:=by
 unfold iq
 rw [e_sp,dX,IC]
 have:(((a.dot==a.dot)&&(a.gone==a.gone))&&(a.val==a.val))=true:=by simp
 rw [this]; rfl
theorem Ga(a:List Ver):gZ a a=some true:=by
 unfold gZ
 rw [ar (by simp)]
 obtain⟨r,h,rfl⟩:=nX (body:=kp a) (K:=λ_=>some true) (P:=λb=>b=true) (l:=a) (λ_ _=>True) (λs _=>⟨_,rfl,rfl⟩) (λf i t hi _ hf=>by
  unfold kp
  rw [aw (IF hi),Hy,IC,show (!true)=false from rfl,ar rfl]
  exact hf _ trivial) (s:=()) trivial
 exact h
theorem H8(a:List Rec):gH a a=some true:=by
 unfold gH
 rw [ar (by simp)]
 obtain⟨r,h,rfl⟩:=nX (body:=iB a) (K:=λ_=>some true) (P:=λb=>b=true) (l:=a) (λ_ _=>True) (λs _=>⟨_,rfl,rfl⟩) (λf i t hi _ hf=>by
  unfold iB
  rw [aw (IF hi),Ga,dX,IC]
  have:((gt a i).key != (gt a i).key)=false:=by simp
  rw [this,show (false||!bif !false then true else default)=false from rfl,ar rfl]
  exact hf _ trivial) (s:=()) trivial
 exact h
structure StI (nm:ByteArray) (size:Int) (R N:Nat) (e:Dk) (s:ae) (L:List Rec):Prop where
 di:DI R N e
 lo:e.loose = []
 st:s=⟨lg nm 0 size (bsOf size (L.map reB)) L.length,wS L⟩
 rt:∀r∈L,Rt r
 rk:Rk (L.map reB)
 on:Only nm 0 (bsOf size (L.map reB)) e.seen
 ln:L.length≤N
section
variable {nm:ByteArray} {size:Int} {R N:Nat} {e:Dk} {s:ae} {L:List Rec}
theorem StI.mono(h:StI nm size R N e s L){M:Nat}(hm:N≤M):StI nm size R M e s L:=⟨h.di.mono hm,h.lo,h.st,h.rt,h.rk,h.on,Nat.le_trans h.ln hm⟩
theorem xz{z:Dk×Option ai×Bs×Int}{g:ai}:∀(L:List Rec) (i:Nat) (m:Mp),(∀r∈L,Rt r)→forI (bq z) (λo28=>some (z.1,some o28,0)) i (L.map reB) ⟨g,m⟩=some (z.1,some ⟨g,L.foldl layM m⟩,0)
 | [],i,m,_=>rfl
 | r::L,i,m,h=>by
  have hr:=h r It
  have ih:=xz (z:=z) (g:=g) L (i+1) (layM m r) λx hx=>h x (Iu _ hx)
  show bq z (forI (bq z) (λo28=>some (z.1,some o28,0)) (i+1) (L.map reB)) i (reB r) ⟨g,m⟩=_
  generalize forI (bq z) (λo28=>some (z.1,some o28,0)) (i+1) (L.map reB)=f at ih ⊢
  unfold bq
  rw [wH hr.2 hr.1,IC]
  simp only
  rw [ar (by decide),EE,IC,ih]; rfl
theorem FO{d d':Dk}{g:ai}{L:List Rec}(h:dU d nm size=some (d',some g,L.map reB,0))(hL:∀r∈L,Rt r):dp d nm size=some (d',some ⟨g,wS L⟩,0):=by
 unfold dp
 rw [h,IC]
 simp only
 rw [ar (by decide),IC]
 exact xz L 0 [] hL
end
def cov(v:List Int)(d:Dot):Bool:=((((decide (1≤d.s))&&(decide (d.s≤((v.length:Nat):Int))))&&(decide (1≤d.n)))&&(decide (d.n≤(gt v ((w64 (d.s - 1)).toNat)))))
def lC(v:List Int)(r:Rec):Bool:=!((((((r.vers).length:Nat):Int)==1)&&(gt (r.vers) 0).gone)&&cov v (gt (r.vers) 0).dot)
theorem Dz{v:List Int}(hv:v.length≤lim)(d:Dot):mF v d=some (cov v d):=by
 rw [aB] at hv
 unfold mF
 rw [aw]; · rfl
 by_cases h:1≤d.s∧d.s≤((v.length:Nat):Int)
 ·have hi:inb (w64 (d.s - 1)) v.length=true:=by
   rw [aH (by unfold I64; omega)]
   unfold inb
   rw [Iw,Iq,Iq]; omega
  rw [hi]
  generalize (((decide (1≤d.s))&&(decide (d.s≤((v.length:Nat):Int))))&&(decide (1≤d.n)))=c
  cases c <;> rfl
 ·have hc:((decide (1≤d.s))&&(decide (d.s≤((v.length:Nat):Int))))=false:=by
   rw [Bool.and_eq_false_iff,Ir,Ir]
   omega
  rw [hc]; rfl
theorem uw{v:List Int}(hv:v.length≤lim){g:ai}{m:Mp}{K:Bs×Mp→Option (ae×Dk×Int)}:∀(l:List Rec) (i:Nat) (acc:List Rec),(∀x∈l,mget x.key m=some (reB x))→acc.length+l.length≤lim →
  forI (dc ⟨g,m⟩ v) K i l (acc.map reB,acc.foldl putM [])=K ((acc++l.filter (lC v)).map reB,(acc++l.filter (lC v)).foldl putM [])
 | [],i,acc,_,_=>by show K _=_; rw [List.filter_nil,IL]
 | x::l,i,acc,h,hl=>by
  rw [Iy] at hl
  have hx:=h x It
  have ih0:=uw hv (g:=g) (m:=m) (K:=K) l (i+1) acc (λy hy=>h y (Iu _ hy)) (by omega)
  have ih1:=uw hv (g:=g) (m:=m) (K:=K) l (i+1) (acc++[x]) (λy hy=>h y (Iu _ hy)) (by rw [Is,List.length_singleton]; omega)
  show dc ⟨g,m⟩ v (forI (dc ⟨g,m⟩ v) K (i+1) l) i x _=_
  generalize forI (dc ⟨g,m⟩ v) K (i+1) l=f at ih0 ih1 ⊢
  unfold dc gN
  simp only
  have c1:imp ((((x.vers).length:Nat):Int)==1) (decide (0<(x.vers).length))=true:=by
   cases hv:x.vers with
   | nil=>rfl
   | cons a b=>rw [IF (by simp)]; generalize ((((a::b).length:Nat):Int)==1)=c; cases c <;> rfl
  have c2:imp (((((x.vers).length:Nat):Int)==1)&&(gt (x.vers) 0).gone) (decide (0<(x.vers).length))=true:=by
   cases hv:x.vers with
   | nil=>rfl
   | cons a b=>rw [IF (by simp)]; generalize ((((a::b).length:Nat):Int)==1)=c; cases c <;> cases (gt (a::b) 0).gone <;> rfl
  rw [aw c1,aw c2,Dz hv,dX,IC,List.filter_cons]
  have hk:(((((x.vers).length:Nat):Int)==1)&&(gt (x.vers) 0).gone&&(bif ((((x.vers).length:Nat):Int)==1)&&(gt (x.vers) 0).gone then cov v (gt (x.vers) 0).dot else default))=!lC v x:=by
   unfold lC
   generalize (((((x.vers).length:Nat):Int)==1)&&(gt (x.vers) 0).gone)=a
   cases a <;> simp
  rw [hk]
  cases hq:lC v x with
  | false=>
   rw [show (!false)=true from rfl,az rfl,ih0]; rfl
  | true=>
   rw [show (!true)=false from rfl,ar rfl,II,aw (IF (by omega)),hx,cC,if_pos rfl,if_pos rfl,Option.getD_some,Option.getD_some]
   rw [IJ,List.map_singleton,List.foldl_append,Iv,List.singleton_append] at ih1
   exact ih1
def kept(v:List Int)(L:List Rec):List Rec:=(aO (wS L)).filter (lC v)
section
variable {nm:ByteArray} {size:Int} {R N:Nat} {e:Dk} {s:ae} {L:List Rec}
inductive Gw (nm:ByteArray) (size:Int) (R M:Nat) (d:Dk) (s:ae) (L:List Rec) (v:List Int):ae×Dk×Int→Prop
 | no (e:Dk) (c:Int):c≠0→(¬ Rk ((kept v L).map reB)∨R<Fw.sz d.seen+(frs ((kept v L).map reB)).length+10∨999999<(kept v L).length)→DI R M e→Tch (Gf nm 1) d.seen e→Gw nm size R M d s L v (s,e,c)
 | ok (e:Dk):Rk ((kept v L).map reB)→DI R M e→e.loose = []→Has nm 1 (bsOf size ((kept v L).map reB)) e.seen→Own1 nm 1 e.seen→mget (mn nm) e.seen=some (fr (pn 1))→Ks e.seen →
   Gw nm size R M d s L v (⟨lg nm 1 size (bsOf size ((kept v L).map reB)) (kept v L).length,wS (kept v L)⟩,e,0)
theorem StI.open_(h:StI nm size R N e s L)(hnm:Nm nm)(hR:R≤MX)(hN:4*N+10≤lim){sz:Int}(hs:size=max sz 16):dp e nm sz=some (e,some s,0):=by
 obtain⟨d',o1,o2,o3,o4,o5⟩:=CI h.di hR hN hnm sz h.on
 rw [D1 _ h.rk] at o1 o5
 rw [o5 rfl,II, ← hs] at o1
 rw [FO o1 h.rt,h.st]
end
theorem nmS:Nm ⟨#[115]⟩:=nm1 (by decide)
end Fw
end Go.Proofs.YtmafjpdiplfcmaaGreat
