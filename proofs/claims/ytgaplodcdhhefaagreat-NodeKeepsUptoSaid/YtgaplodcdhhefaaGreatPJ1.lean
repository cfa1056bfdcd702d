/- The plain side: what the models come to. No condition. -/
import Derived.Test.YtgaplodcdhhefaaGreatG6
namespace Go.Proofs.YtgaplodcdhhefaaGreat
namespace Fw
set_option linter.unusedVariables false
set_option linter.unusedSimpArgs false
set_option linter.unusedSectionVars false
section
variable {α S R:Type} [Inhabited α]
theorem eO{body:(S→Option R)→Nat→α→S→Option R}{k:S→Option R}{l:List α}(T:Nat→S→Option R)(I:Nat→S→Prop)(hend:∀s,I l.length s→k s=T l.length s)
  (hstep:∀f i s,i<l.length→I i s→(∀s',I (i+1) s'→f s'=T (i+1) s')→body f i (gt l i) s=T i s) {s:S} (h0:I 0 s):forI body k 0 l s=T 0 s:=by
 have key:∀m i s,l.length - i=m→i≤l.length→I i s→forI body k i (l.drop i) s=T i s:=by
  intro m
  induction m with
  | zero=>
   intro i s hm hi hI
   have:i=l.length:=by omega
   subst this
   rw [E1 (E6 _)]
   exact hend s hI
  | succ m ih=>
   intro i s hm hi hI
   rw [bo (by omega)]
   exact hstep _ i s (by omega) hI λs' h'=>ih (i+1) s' (by omega) (by omega) h'
 exact key _ 0 s rfl (E7 _) h0
end
theorem bX{R:Type}[Inhabited R](g:Bool)(v:R):bM g (some v)=some (bif g then v else default):=by cases g <;> rfl
theorem ao{R:Type}{c:Bool}{k:Option R}(h:c=true):chk c k=k:=by rw [h]; rfl
theorem bq{R:Type}{c:Bool}{x y:R}(h:c=true):(bif c then x else y)=x:=by rw [h]; rfl
theorem ay{R:Type}{c:Bool}{x y:R}(h:c=false):(bif c then x else y)=y:=by rw [h]; rfl
instance:LawfulBEq ByteArray where
 eq_of_beq {a b} h:=by rw [iZ] at h; exact DP h
 rfl {a}:=by rw [iZ]; exact E5 rfl
section
variable {κ α:Type} [DecidableEq κ] {x y:κ} {v:α} {es:List (κ×α)}
def NK(es:List (κ×α)):Prop:=(es.map (·.1)).Nodup
theorem NK.nil:NK ([]:List (κ×α)):=by simp [NK]
theorem NK.cons{p:κ×α}:NK (p::es)↔(∀q∈es,q.1≠p.1)∧NK es:=by
 unfold NK
 rw [E0,List.nodup_cons]
 refine⟨λh=>⟨λq hq e=>h.1 (by rw [← e]; exact List.mem_map.2 ⟨q,hq,rfl⟩),h.2⟩,λh=>⟨λhm=>?_,h.2⟩⟩
 obtain⟨q,hq,e⟩:=List.mem_map.1 hm
 exact h.1 q hq e
theorem mt:(mget x es).isSome=true↔x∈es.map (·.1):=by
 induction es with
 | nil=>simp [mget]
 | cons p es ih=>
  unfold mget
  split
  ·rename_i h; simp [h]
  ·rename_i h; rw [ih]; simp [h]
theorem tA{p:κ×α}:∀{es:List (κ×α)},p∈mput x v es→p=(x,v)∨p∈es
 | [],h=>by simp only [mput,List.mem_singleton] at h; exact .inl h
 | q::es,h=>by
  unfold mput at h
  split at h
  ·rcases List.mem_cons.1 h with h | h
   ·exact .inl h
   ·exact .inr (DU _ h)
  ·rcases List.mem_cons.1 h with h | h
   ·exact .inr (h▸DT)
   ·exact(tA h).imp id (DU _)
theorem tL{p:κ×α}:∀{es:List (κ×α)},p∈mdel x es→p∈es
 | [],h=>by cases h
 | q::es,h=>by
  unfold mdel at h
  split at h
  ·exact DU _ h
  ·rcases List.mem_cons.1 h with h | h
   ·exact h▸DT
   ·exact DU _ (tL h)
theorem NK.put:∀{es:List (κ×α)},NK es→NK (mput x v es)
 | [],_=>by simp [NK,mput]
 | p::es,h=>by
  rw [NK.cons] at h
  unfold mput
  split
  ·rename_i e; rw [NK.cons]; exact⟨λq hq=>by rw [e]; exact h.1 q hq,h.2⟩
  ·rename_i e
   rw [NK.cons]
   refine⟨λq hq=>?_,h.2.put⟩
   rcases tA hq with rfl | hq
   ·exact e
   ·exact h.1 q hq
theorem NK.del:∀{es:List (κ×α)},NK es→NK (mdel x es)
 | [],_=>by simp [NK,mdel]
 | p::es,h=>by
  rw [NK.cons] at h
  unfold mdel
  split
  ·exact h.2
  ·rw [NK.cons]; exact⟨λq hq=>h.1 q (tL hq),h.2.del⟩
theorem vZ(h:∀q∈es,q.1≠x):mget x es=none:=by
 induction es with
 | nil=>rfl
 | cons p es ih=>
  unfold mget
  rw [if_neg (λe=>h p DT e.symm)]
  exact ih λq hq=>h q (DU _ hq)
theorem jV:∀{es:List (κ×α)},NK es→mget y (mdel x es)=if y=x then none else mget y es
 | [],_=>by simp [mget,mdel]
 | p::es,h=>by
  rw [NK.cons] at h
  unfold mdel
  split
  ·rename_i e
   by_cases hy:y=x
   ·rw [if_pos hy,hy,e]; exact vZ h.1
   ·rw [if_neg hy,mget,if_neg (λe2=>hy (e2.trans e.symm))]
  ·rename_i e
   rw [mget,jV h.2]
   by_cases hy:y=p.1
   ·rw [if_pos hy,if_neg (λe2=>e (e2.symm.trans hy)),mget,if_pos hy]
   ·rw [if_neg hy,mget,if_neg hy]
theorem pE:∀{es:List (κ×α)},(mput x v es).length≤es.length+1
 | []=>by simp [mput]
 | p::es=>by
  unfold mput
  split
  ·simp
  ·have:=pE (es:=es); simp only [DY]; omega
theorem s7:∀{es:List (κ×α)},(mdel x es).length≤es.length
 | []=>by simp [mdel]
 | p::es=>by
  unfold mdel
  split
  ·simp
  ·have:=s7 (es:=es); simp only [DY]; omega
end
def sz(es:List (ByteArray×List UInt8)):Nat:=(es.map (λp=>p.2.length)).sum
section
variable {x:ByteArray} {v:List UInt8} {es:List (ByteArray×List UInt8)}
theorem yI:sz (mput x v es)+((mget x es).getD []).length=sz es+v.length:=by
 induction es with
 | nil=>simp [sz,mput,mget]
 | cons p es ih=>
  unfold mput mget
  split
  ·simp [sz]; omega
  ·simp only [sz,E0,List.sum_cons] at ih ⊢; omega
theorem wC:sz (mdel x es)+((mget x es).getD []).length=sz es:=by
 induction es with
 | nil=>simp [sz,mdel,mget]
 | cons p es ih=>
  unfold mdel mget
  split
  ·simp [sz]; omega
  ·simp only [sz,E0,List.sum_cons] at ih ⊢; omega
theorem vV:((mget x es).getD []).length≤sz es:=by have:=wC (x:=x) (es:=es); omega
end
theorem jC{a b:ByteArray}(h:a.data.toList=b.data.toList):a=b:=by
 rcases a with ⟨⟨a⟩⟩
 rcases b with ⟨⟨b⟩⟩
 simp only at h
 rw [h]
theorem tE{β:Type}{es:List (ByteArray×β)}{k:ByteArray}:k∈dI es↔k∈es.map (·.1):=by
 rw [mA]
 simp only [List.mem_map,List.mem_mergeSort]
 constructor
 ·rintro⟨l,⟨p,hp,rfl⟩,rfl⟩; exact⟨p,hp,jC (by simp)⟩
 ·rintro⟨p,hp,rfl⟩; exact⟨_,⟨p,hp,rfl⟩,jC (by simp)⟩
theorem Ax{β:Type}{es:List (ByteArray×β)}(hn:NK es):(dI es).Nodup:=by
 rw [mA]
 refine List.Pairwise.map _ (R:=λa b=>a≠b) (λa b h e=>h ?_) ?_
 ·have:=congrArg (λx:ByteArray=>x.data.toList) e
  simpa using this
 ·have:(es.map (λp=>p.1.data.toList)).Nodup:=by
   rw [show (λp:ByteArray×β=>p.1.data.toList)=((λb:ByteArray=>b.data.toList)∘(·.1)) from rfl, ← Eg]
   exact List.Pairwise.map _ (λa b h e=>h (jC e)) hn
  exact(List.mergeSort_perm _ _).nodup_iff.2 this
theorem gO{S R:Type}{b:(S→Option R)→S→Option R}{n:Nat}{s:S}:loopN b (n+1) s=b (loopN b n) s:=rfl
def pn(n:Nat):List UInt8:=if n<128 then [UInt8.ofNat n] else UInt8.ofNat (n % 128+128)::pn (n / 128)
 decreasing_by omega
theorem tI{n:Nat}(h:n<128):pn n = [UInt8.ofNat n]:=by unfold pn; rw [if_pos h]
theorem xj{n:Nat}(h:¬ n<128):pn n=UInt8.ofNat (n % 128+128)::pn (n / 128):=by rw [pn,if_neg h]
theorem zD:∀(k n:Nat),n<128 ^ (k+1)→(pn n).length≤k+1:=by
 intro k
 induction k with
 | zero=>intro n h; rw [tI (by omega)]; simp
 | succ k ih=>
  intro n h
  by_cases h1:n<128
  ·rw [tI h1]; simp
  ·rw [xj h1]
   have:=ih (n / 128) (by rw [Nat.pow_succ] at h; omega)
   simp; omega
theorem Ac(n:Nat):0<(pn n).length:=by
 by_cases h1:n<128
 ·rw [tI h1]; simp
 ·rw [xj h1]; simp
theorem ior8:∀k:Fin 256,ior .u8 (k.val:Int) 128=(k.val % 128+128:Nat):=by decide +kernel
theorem CL:∀k:Fin 256,iand .u8 (k.val:Int) 127=(k.val % 128:Nat):=by decide +kernel
theorem zQ:∀(k u F:Nat) (b:List UInt8),u<128 ^ (k+1)→b.length+k+1≤lim→loopN dM (F+k+1) (b,(u:Int))=some (b++pn u):=by
 intro k
 induction k with
 | zero=>
  intro u F b h hb
  rw [gO]
  generalize loopN dM (F+0)=f
  unfold dM
  simp only
  rw [ay (by rw [DR]; omega),ao (by simp; omega),tI (by omega),xD (by unfold U8; omega)]
  rfl
 | succ k ih=>
  intro u F b h hb
  rw [show F+(k+1)+1=(F+k+1)+1 by omega,gO]
  generalize hf:loopN dM (F+k+1)=f
  unfold dM
  simp only
  by_cases h1:u<128
  ·rw [ay (by rw [DR]; omega),ao (by simp; omega),tI h1,xD (by unfold U8; omega)]; rfl
  ·have e1:wu8 (u:Int)=(((⟨u % 256,by omega⟩:Fin 256).val:Nat):Int):=by unfold wu8; simp
   rw [bq (by rw [DQ]; omega),e1,ior8]
   have e2:(u % 256 % 128+128:Nat)=u % 128+128:=by omega
   simp only [e2]
   rw [ao (by unfold u8b; simp; omega),ao (by simp; omega)]
   have e3:ishr .u64 (u:Int) 7=((u / 128:Nat):Int):=by unfold ishr; rfl
   rw [e3, ← hf,ih (u / 128) F _ (by rw [Nat.pow_succ] at h; omega) (by simp; omega),xj h1]
   unfold b8
   rw [DZ,DV]; rfl
theorem rQ{n:Nat}(h:n<9223372036854775808):gr (n:Int)=some (pn n):=by
 unfold gr
 rw [show wu64 (max (n:Int) 0)=(n:Int) by rw [kT (by unfold U64; omega)]; omega]
 obtain⟨F,hF⟩:∃F,FU=F+8+1:=⟨FU - 9,by unfold FU; omega⟩
 rw [hF]
 exact zQ 8 n F [] (by omega) (by rw [aK]; simp)
def numF:Nat→Nat→List UInt8→Nat×Nat×Int
 | _,_,[]=>(0,0,4)
 | i,n,c::l=>if (i=8∧127<c.toNat)∨(0<i∧c.toNat=0) then (0,0,2) else if c.toNat<128 then (n+c.toNat*128 ^ i,i+1,0) else numF (i+1) (n+(c.toNat - 128)*128 ^ i) l
theorem p128(i:Nat):(128:Nat) ^ i=2 ^ (7*i):=by rw [Nat.pow_mul]
theorem p8{i:Nat}(h:i≤8):(128:Nat) ^ i≤72057594037927936:=Nat.le_trans (Nat.pow_le_pow_right (by decide) h) (by decide)
theorem oO{i n c:Nat}(hn:n<128 ^ i)(hc:c<128):n+c*128 ^ i<128 ^ (i+1):=by
 have:(c+1)*128 ^ i≤128*128 ^ i:=Nat.mul_le_mul_right _ hc
 rw [Nat.add_mul] at this
 rw [Nat.pow_succ,Nat.mul_comm (128 ^ i)]
 omega
theorem uH{i n c:Nat}(hi:i≤8)(hn:n<128 ^ i)(hc:c<128):ior .u64 (n:Int) (ishl .u64 (wu64 (c:Int)) (w64 (7*((i:Nat):Int))))=((n+c*128 ^ i:Nat):Int):=by
 have hp:=p8 hi
 have hs:=oO hn hc
 have hp9:(128:Nat) ^ (i+1)=128*128 ^ i:=by rw [Nat.pow_succ,Nat.mul_comm]
 have e1:w64 (7*((i:Nat):Int))=((7*i:Nat):Int):=by rw [bO (by unfold I64; omega)]; simp
 have e2:ishl .u64 (wu64 (c:Int)) ((7*i:Nat):Int)=((c*128 ^ i:Nat):Int):=by
  unfold ishl
  rw [kT (x:=(c:Int)) (by unfold U64; omega),DZ,show min (7*i) (IntKind.u64).bits=7*i from by show min (7*i) 64=_; omega]
  have:(c:Int)*2 ^ (7*i)=((c*128 ^ i:Nat):Int):=by rw [p128]; push_cast; rfl
  rw [this]
  show wu64 _=_
  exact kT (by unfold U64; omega)
 rw [e1,e2]
 unfold ior
 show wu64 _=_
 have e3:(BitVec.ofInt 64 (n:Int) ||| BitVec.ofInt 64 ((c*128 ^ i:Nat):Int)).toNat=n+c*128 ^ i:=by
  rw [BitVec.toNat_or,BitVec.ofInt_natCast,BitVec.ofInt_natCast,BitVec.toNat_ofNat,BitVec.toNat_ofNat,Nat.mod_eq_of_lt (by omega),Nat.mod_eq_of_lt (by omega)]
  have:=Nat.shiftLeft_add_eq_or_of_lt (a:=c) (b:=n) (i:=7*i) (by rw [← p128]; exact hn)
  rw [Nat.shiftLeft_eq, ← p128] at this
  rw [Nat.or_comm, ← this]; omega
 show wu64 (((BitVec.ofInt 64 (n:Int) ||| BitVec.ofInt 64 ((c*128 ^ i:Nat):Int)).toNat:Nat):Int)=_
 rw [e3]
 exact kT (by unfold U64; omega)
def numR(at_:Nat)(r:Nat×Nat×Int):Int×Int×Int:=((r.1:Int),(if r.2.2=0 then ((at_+r.2.1:Nat):Int) else 0),r.2.2)
theorem Ap{b:List UInt8}{at_:Nat}{K:Int→Option (Int×Int×Int)}(hb:b.length≤lim)(ha:at_≤b.length)(hK:∀n,K n=some (0,0,4)):∀(l:List UInt8) (i n:Nat),(b.drop at_).drop i=l→i≤8→n<128 ^ i →
  forI (j6 b (at_:Int)) K i l (n:Int)=some (numR at_ (numF i n l)):=by
 intro l
 induction l with
 | nil=>intro i n _ _ _; unfold forI; rw [hK]; rfl
 | cons c l ih=>
  intro i n hd hi hn
  have hg:gt (List.drop at_ b) i=c:=by
   have hlt:i<(b.drop at_).length:=by
    rcases Nat.lt_or_ge i (b.drop at_).length with h | h
    ·exact h
    ·rw [E1 h] at hd; cases hd
   rw [bo hlt] at hd
   injection hd
  have hd2:(b.drop at_).drop (i+1)=l:=by
   have:=congrArg List.tail hd
   rw [List.tail_drop] at this
   exact this
  have hlen:i+1≤(b.drop at_).length:=by
   have:=congrArg List.length hd
   simp at this ⊢; omega
  rw [Ej] at hlen
  rw [aK] at hb
  have hc:=c.toNat_lt
  rw [forI]
  generalize hf:forI (j6 b (at_:Int)) K (i+1) l=f
  unfold j6 j9 jS numF
  rw [DZ,hg]
  by_cases h8:i=8∧127<c.toNat
  ·have q:((((i:Nat):Int)==8)&&(decide (127<((c.toNat:Nat):Int))))=true:=by simp; omega
   rw [q,if_pos (.inl h8)]; rfl
  ·have q:((((i:Nat):Int)==8)&&(decide (127<((c.toNat:Nat):Int))))=false:=by
    rw [Bool.eq_false_iff]; intro h; simp at h; exact h8 ⟨by omega,by omega⟩
   rw [q,ay rfl]
   by_cases h0:0<i∧c.toNat=0
   ·have q2:((decide (0<((i:Nat):Int)))&&(((c.toNat:Nat):Int)==0))=true:=by simp; omega
    rw [q2,bq rfl,if_pos (.inr h0)]; rfl
   ·have q2:((decide (0<((i:Nat):Int)))&&(((c.toNat:Nat):Int)==0))=false:=by
     rw [Bool.eq_false_iff]; intro h; simp only [DW,DQ,beq_iff_eq] at h; exact h0 ⟨by omega,by omega⟩
    rw [q2,ay rfl,if_neg (by rintro (h | h); exact h8 h; exact h0 h)]
    have hp:=p8 hi
    have hp9:(128:Nat) ^ (i+1)=128*128 ^ i:=by rw [Nat.pow_succ,Nat.mul_comm]
    by_cases h128:c.toNat<128
    ·have hs:=oO hn h128
     rw [bq (by simp; omega),if_pos h128,uH hi hn h128,ao (by rw [bO (by unfold I64; omega)]; simp; omega)]
     unfold numR
     rw [if_pos rfl]
     rw [bO (x:=(at_:Int)+(i:Int)) (by unfold I64; omega),bO (x:=(at_:Int)+(i:Int)+1) (by unfold I64; omega),bO (by unfold I64; omega)]
     congr 3 <;> push_cast <;> omega
    ·have e1:=CL ⟨c.toNat,hc⟩
     have hm:c.toNat % 128=c.toNat - 128:=by omega
     simp only [hm] at e1
     have hs:=oO (i:=i) (n:=n) (c:=c.toNat - 128) hn (by omega)
     rw [ay (by simp; omega),if_neg h128,ao (by rw [bO (by unfold I64; omega)]; simp; omega),e1,uH hi hn (by omega)]
     rw [← hf]
     exact ih (i+1) _ hd2 (by omega) hs
theorem yE{b:List UInt8}{at_:Nat}(hb:b.length≤lim)(ha:at_≤b.length):gi b (at_:Int)=some (numR at_ (numF 0 0 (b.drop at_))):=by
 unfold gi
 rw [ay (by simp; omega),ao (by simp [inle]; omega),DZ]
 exact Ap hb ha (λn=>rfl) _ 0 0 rfl (by omega) (by simp)
theorem za:∀(m i n:Nat) (rest:List UInt8),(0<i→0<m)→i+(pn m).length≤9→numF i n (pn m++rest)=(n+m*128 ^ i,i+(pn m).length,0):=by
 intro m
 induction m using Nat.strongRecOn with
 | _ m ih=>
  intro i n rest h0 h9
  by_cases h1:m<128
  ·rw [tI h1] at *
   have e:(UInt8.ofNat m).toNat=m:=by rw [UInt8.toNat_ofNat_of_lt']; show m<256; omega
   simp only [List.cons_append,Ee,DY,Ea]
   unfold numF
   rw [e,if_neg (by rintro (h | h); omega; exact absurd (h0 h.1) (by omega)),if_pos h1]
  ·have hp:=Ac (m / 128)
   rw [xj h1] at h9 ⊢
   simp only [DY] at h9
   have e:(UInt8.ofNat (m % 128+128)).toNat=m % 128+128:=by rw [UInt8.toNat_ofNat_of_lt']; show m % 128+128<256; omega
   simp only [List.cons_append,DY]
   unfold numF
   rw [e,if_neg (by rintro (h | h); omega; omega),if_neg (by omega),ih (m / 128) (by omega) (i+1) _ rest (by omega) (by omega)]
   have hm:m=128*(m / 128)+m % 128:=by omega
   have:n+(m % 128+128 - 128)*128 ^ i+m / 128*128 ^ (i+1)=n+m*128 ^ i:=by
    rw [Nat.add_sub_cancel,Nat.pow_succ,Nat.mul_comm (128 ^ i) 128, ← Nat.mul_assoc,Nat.add_assoc, ← Nat.add_mul]
    congr 2; omega
   rw [this]; congr 2; omega
theorem xu:∀(l:List UInt8) (i n:Nat),i≤8→n<128 ^ i→((numF i n l).2.2=0∧i<(numF i n l).2.1∧(numF i n l).2.1≤i+l.length∧(numF i n l).1<9223372036854775808)∨(numF i n l).2.2=2∨(numF i n l).2.2=4:=by
 intro l
 induction l with
 | nil=>intro i n _ _; exact .inr (.inr rfl)
 | cons c l ih=>
  intro i n hi hn
  have hc:=c.toNat_lt
  unfold numF
  split
  ·exact .inr (.inl rfl)
  ·rename_i hx
   split
   ·rename_i h128
    have hs:=oO hn h128
    have hp:=p8 hi
    have hp9:(128:Nat) ^ (i+1)=128*128 ^ i:=by rw [Nat.pow_succ,Nat.mul_comm]
    exact .inl ⟨rfl,by simp,by simp,by simp; omega⟩
   ·rename_i h128
    have hi8:i≠8:=λh=>hx (.inl ⟨h,by omega⟩)
    rcases ih (i+1) (n+(c.toNat - 128)*128 ^ i) (by omega) (oO hn (by omega)) with h | h
    ·exact .inl ⟨h.1,by omega,by simp only [DY]; omega,h.2.2.2⟩
    ·exact .inr h
def crcB(r:BitVec 32):BitVec 32:=(r >>> 1) ^^^ (3988292384#32 &&& -(r &&& 1#32))
def crcN:Nat→BitVec 32→BitVec 32
 | 0,r=>r
 | k+1,r=>crcN k (crcB r)
def crc(r:BitVec 32)(c:UInt8):BitVec 32:=crcN 8 (r ^^^ BitVec.ofNat 32 c.toNat)
def sumB(l:List UInt8):BitVec 32 := ~~~ (l.foldl crc 4294967295#32)
theorem oD(x:BitVec 32):BitVec.ofInt 32 ((x.toNat:Nat):Int)=x:=by rw [BitVec.ofInt_natCast,BitVec.ofNat_toNat]; simp
theorem wr32(x:BitVec 32):wr .u32 ((x.toNat:Nat):Int)=(x.toNat:Int):=by
 have:=x.isLt
 show wu32 _=_
 exact yx (by unfold U32; omega)
theorem w6(x y:BitVec 32):ixor .u32 (x.toNat:Int) (y.toNat:Int)=((x ^^^ y).toNat:Int):=by
 unfold ixor
 show wr .u32 (((BitVec.ofInt 32 (x.toNat:Int) ^^^ BitVec.ofInt 32 (y.toNat:Int)).toNat:Nat):Int)=_
 rw [oD,oD,wr32]
theorem yr(x y:BitVec 32):iand .u32 (x.toNat:Int) (y.toNat:Int)=((x &&& y).toNat:Int):=by
 unfold iand
 show wr .u32 (((BitVec.ofInt 32 (x.toNat:Int) &&& BitVec.ofInt 32 (y.toNat:Int)).toNat:Nat):Int)=_
 rw [oD,oD,wr32]
theorem CN(x:BitVec 32):wu32 (0 - (x.toNat:Int))=((-x).toNat:Int):=by
 have:=x.isLt
 unfold wu32
 rw [BitVec.toNat_neg]
 omega
theorem Bc(r:BitVec 32):ixor .u32 (ishr .u32 (r.toNat:Int) 1) (iand .u32 3988292384 (wu32 (0 - (iand .u32 (r.toNat:Int) 1))))=((crcB r).toNat:Int):=by
 have e1:iand .u32 (r.toNat:Int) 1=((r &&& 1#32).toNat:Int):=yr r 1#32
 have e2:ishr .u32 (r.toNat:Int) 1=((r >>> 1).toNat:Int):=by
  unfold ishr
  show (r.toNat:Int) / 2 ^ 1=_
  rw [BitVec.toNat_ushiftRight,Nat.shiftRight_eq_div_pow]; push_cast; rfl
 rw [e1,e2,CN]
 have e3:iand .u32 3988292384 (((-(r &&& 1#32)).toNat:Nat):Int)=((3988292384#32 &&& -(r &&& 1#32)).toNat:Int):=yr 3988292384#32 _
 rw [e3,w6]; rfl
theorem vM{f:Int→Option Int}:∀(k i:Nat) (r:BitVec 32),forU gP f k i (r.toNat:Int)=f ((crcN k r).toNat:Int)
 | 0,_,_=>rfl
 | k+1,i,r=>by
  rw [forU]
  show forU gP f k (i+1) (ixor .u32 (ishr .u32 (r.toNat:Int) 1) (iand .u32 3988292384 (wu32 (0 - (iand .u32 (r.toNat:Int) 1)))))=_
  rw [Bc]
  exact vM k (i+1) (crcB r)
theorem vi{f:Int→Option Int}:∀(l:List UInt8) (i:Nat) (r:BitVec 32),forI gT f i l (r.toNat:Int)=f ((l.foldl crc r).toNat:Int)
 | [],_,_=>rfl
 | c::l,i,r=>by
  have hc:=c.toNat_lt
  have e:wu32 ((c.toNat:Nat):Int)=((BitVec.ofNat 32 c.toNat).toNat:Int):=by
   rw [BitVec.toNat_ofNat,yx (by unfold U32; omega),Nat.mod_eq_of_lt (by omega)]
  rw [forI]
  show forU gP (forI gT f (i+1) l) 8 0 (ixor .u32 (r.toNat:Int) (wu32 ((c.toNat:Nat):Int)))=_
  rw [e,w6,vM]
  exact vi l (i+1) (crc r c)
theorem sU{f:Int→Option Int}:∀(l:List (List UInt8)) (i:Nat) (r:BitVec 32),forI jD f i l (r.toNat:Int)=f ((l.flatten.foldl crc r).toNat:Int)
 | [],_,_=>rfl
 | p::l,i,r=>by
  rw [forI]
  show forI gT (forI jD f (i+1) l) 0 p (r.toNat:Int)=_
  rw [vi,Ef,List.foldl_append]
  exact sU l (i+1) _
theorem BC(l:List (List UInt8)):jw l=some ((sumB l.flatten).toNat:Int):=by
 unfold jw
 rw [show (4294967295:Int)=((4294967295#32).toNat:Int) from rfl,sU]
 unfold icom
 show some (ixor .u32 (((4294967295#32).toNat:Nat):Int) _)=_
 rw [w6]
 unfold sumB
 congr 2
def s4(s:BitVec 32):List UInt8:=[UInt8.ofNat (s.toNat % 256),UInt8.ofNat (s.toNat / 256 % 256),UInt8.ofNat (s.toNat / 65536 % 256),UInt8.ofNat (s.toNat / 16777216 % 256)]
theorem wB(s:BitVec 32):(s4 s).length=4:=rfl
theorem BE(s:BitVec 32)(i:Nat)(hi:i<4):wu8 (ishr .u32 (s.toNat:Int) (w64 (8*((i:Nat):Int))))=((s.toNat / 2 ^ (8*i) % 256:Nat):Int):=by
 rw [bO (by unfold I64; omega)]
 unfold ishr wu8
 rw [show (8*(i:Int)).toNat=8*i by omega,show min (8*i) (IntKind.u32).bits=8*i from by show min (8*i) 32=_; omega]
 simp only [Int.natCast_emod,Int.natCast_ediv,Int.natCast_pow]; rfl
theorem BH(s:BitVec 32)(i:Nat)(hi:i<4):b8 (wu8 (ishr .u32 (s.toNat:Int) (w64 (8*((i:Nat):Int)))))=gt (s4 s) i:=by
 rw [BE s i hi]
 unfold b8
 rw [DZ]
 match i,hi with
 | 0,_=>simp [s4,gt]
 | 1,_=>simp [s4,gt]
 | 2,_=>simp [s4,gt]
 | 3,_=>simp [s4,gt]
def fr(x:List UInt8):List UInt8:=pn x.length++(s4 (sumB (pn x.length++x))++x)
theorem uq(x:List UInt8):(fr x).length=(pn x.length).length+4+x.length:=by unfold fr; simp [wB]; omega
theorem pn3{n:Nat}(h:n≤1048576):(pn n).length≤3:=zD 2 n (by omega)
theorem Dq{x:List UInt8}(h:x.length≤1048576):hQ x=some (fr x,0):=by
 have h3:=pn3 h
 unfold hQ
 rw [ay (by rw [DR]; omega),rQ (by omega),E2,BC,E2]
 simp only [Ef,List.flatten_nil,Eb]
 generalize hs:sumB (pn x.length++x)=s
 have hstep:∀(f:List UInt8→Option (List UInt8×Int)) (i:Nat) (out:List UInt8),i<4→out.length+1≤lim→jZ (s.toNat:Int) f i out=f (out++[gt (s4 s) i]):=by
  intro f i out hi ho
  unfold jZ
  rw [ao (by rw [bO (by unfold I64; omega)]; simp; omega),ao (by simpa using ho),BH s i hi]
 simp only [forU]
 rw [hstep _ 0 _ (by decide) (by rw [aK]; omega),hstep _ 1 _ (by decide) (by rw [aK]; simp; omega),hstep _ 2 _ (by decide) (by rw [aK]; simp; omega),hstep _ 3 _ (by decide) (by rw [aK]; simp; omega)]
 rw [ao (by rw [aK]; simp; omega)]
 unfold fr
 rw [hs]
 simp [s4,gt]
theorem vY{x:List UInt8}(h:1048576<x.length):hQ x=some ([],3):=by
 unfold hQ
 rw [bq (by rw [DQ]; omega)]
def d5(l:List UInt8):List UInt8×Nat×Int:=
 if (numF 0 0 l).2.2≠0 then ([],0,(numF 0 0 l).2.2) else if 1048576<(numF 0 0 l).1 then ([],0,3) else if l.length - (numF 0 0 l).2.1<(numF 0 0 l).1+4 then ([],0,4) else
 if (l.drop (numF 0 0 l).2.1).take 4=s4 (sumB (l.take (numF 0 0 l).2.1++(l.drop ((numF 0 0 l).2.1+4)).take (numF 0 0 l).1)) then ((l.drop ((numF 0 0 l).2.1+4)).take (numF 0 0 l).1,(numF 0 0 l).2.1+4+(numF 0 0 l).1,0) else ([],0,20)
theorem CM{l:List UInt8}{k:Nat}(h:k+4≤l.length):(l.drop k).take 4 = [gt l k,gt l (k+1),gt l (k+2),gt l (k+3)]:=by
 rw [bo (by omega),bo (k:=k+1) (by omega),bo (k:=k+2) (by omega),bo (k:=k+3) (by omega)]; rfl
def zS(at_:Nat)(r:List UInt8×Nat×Int):List UInt8×Int×Int:=(r.1,(if r.2.2=0 then ((at_+r.2.1:Nat):Int) else 0),r.2.2)
theorem D7{c:UInt8}{n:Nat}(h:n<256):(((c.toNat:Nat):Int) != ((n:Nat):Int))=!decide (c=UInt8.ofNat n):=by
 rw [Bool.eq_iff_iff]
 simp only [bne_iff_ne,Bool.not_eq_true',DR]
 refine not_congr ⟨λe=>?_,λe=>?_⟩
 ·have:c.toNat=n:=by omega
  rw [← this]; simp
 ·rw [e,UInt8.toNat_ofNat_of_lt']; exact h
theorem C7{b:List UInt8}{at_:Nat}(hb:b.length≤lim)(ha:at_≤b.length):jP b (at_:Int)=some (zS at_ (d5 (b.drop at_))):=by
 have hb':=hb
 rw [aK] at hb'
 have hok:=xu (b.drop at_) 0 0 (by omega) (by simp)
 unfold jP
 rw [yE hb ha,E2]
 unfold d5 numR zS
 generalize hr:numF 0 0 (b.drop at_)=r at hok ⊢
 obtain⟨n,k,e⟩:=r
 simp only at hok ⊢
 by_cases he:e=0
 ·subst he
  rcases hok with ⟨_,h1,h2,h3⟩ | h | h
  rotate_left
  ·exact absurd h (by decide)
  ·exact absurd h (by decide)
  rw [Ej] at h2
  rw [ay (by simp),if_pos rfl,if_neg (by simp)]
  by_cases hn:1048576<n
  ·rw [bq (by simp; omega),if_pos hn]; rfl
  ·rw [ay (by simp; omega),if_neg hn]
   have w1:w64 (((b.length:Nat):Int) - ((at_+k:Nat):Int))=(b.length:Int) - (at_+k:Nat):=bO (by unfold I64; omega)
   have w2:w64 ((n:Int)+4)=((n+4:Nat):Int):=by rw [bO (by unfold I64; omega)]; rfl
   rw [w1,w2]
   by_cases hl:(b.drop at_).length - k<n+4
   ·rw [if_pos hl,bq (by rw [Ej] at hl; rw [DQ]; omega)]; rfl
   ·rw [if_neg hl,ay (by rw [Ej] at hl; rw [DR]; omega)]
    rw [Ej] at hl
    have w3:w64 (((at_+k:Nat):Int)+4)=((at_+k+4:Nat):Int):=by rw [bO (by unfold I64; omega)]; rfl
    have w4:w64 (((at_+k+4:Nat):Int)+(n:Int))=((at_+k+4+n:Nat):Int):=by rw [bO (by unfold I64; omega)]; push_cast; rfl
    rw [w3,w4]
    clear w1 w2 w3 w4 hr hb
    have d1:List.drop at_ (List.take (at_+k) b)=(b.drop at_).take k:=by rw [List.drop_take]; congr 1; omega
    have d2:List.drop (at_+k+4) (List.take (at_+k+4+n) b)=((b.drop at_).drop (k+4)).take n:=by
     rw [List.drop_take,List.drop_drop]; congr 1
     ·omega
    simp only [DZ,d1,d2]
    rw [ao (by simp [inle]; omega),ao (by simp; omega),ao (by simp),ao (by simp [inle]; omega),ao (by simp),ao (by simp)]
    rw [BC,E2]
    simp only [Ef,List.flatten_nil,Eb]
    generalize sumB ((b.drop at_).take k++((b.drop at_).drop (k+4)).take n)=s
    have hstep:∀(f:Unit→Option (List UInt8×Int×Int)) (i:Nat),i<4→jE b ((n:Int),((at_+k:Nat):Int),0) (s.toNat:Int) f i ()=if gt (b.drop at_) (k+i)=gt (s4 s) i then f () else some ([],0,20):=by
     intro f i hi
     unfold jE
     have w5:w64 (((at_+k:Nat):Int)+((i:Nat):Int))=((at_+k+i:Nat):Int):=by rw [bO (by unfold I64; omega)]; push_cast; rfl
     simp only
     rw [w5]
     clear w5
     rw [ao (by simp [inb]; omega),ao (by rw [bO (by unfold I64; omega)]; simp; omega),DZ]
     have hx:=BH s i hi
     rw [BE s i hi] at hx ⊢
     rw [D7 (Nat.mod_lt _ (by decide))]
     unfold b8 at hx
     rw [DZ] at hx
     rw [hx]
     have hg:gt b (at_+k+i)=gt (b.drop at_) (k+i):=by
      rw [bA (by omega),bA (by rw [Ej]; omega)]; simp [Nat.add_assoc]
     rw [hg]
     by_cases hq:gt (b.drop at_) (k+i)=gt (s4 s) i
     ·rw [if_pos hq,ay (by simp [hq])]
     ·rw [if_neg hq,bq (by simp [hq])]
    have hchk:(0+(List.take n ((b.drop at_).drop (k+4))).length≤lim):=by rw [aK,Ei,Ej,Ej]; omega
    simp only [forU]
    rw [hstep _ 0 (by decide),hstep _ 1 (by decide),hstep _ 2 (by decide),hstep _ 3 (by decide),ao (by simpa using hchk),CM (by rw [Ej]; omega)]
    have hs4:s4 s = [gt (s4 s) 0,gt (s4 s) 1,gt (s4 s) 2,gt (s4 s) 3]:=by simp [s4,gt]
    rw [hs4]
    simp only [List.cons.injEq,and_true]
    rw [← hs4]
    simp only [Nat.add_zero,Ee]
    by_cases h0:gt (b.drop at_) k=gt (s4 s) 0
    ·rw [if_pos h0]
     by_cases h1:gt (b.drop at_) (k+1)=gt (s4 s) 1
     ·rw [if_pos h1]
      by_cases h2:gt (b.drop at_) (k+2)=gt (s4 s) 2
      ·rw [if_pos h2]
       by_cases h3:gt (b.drop at_) (k+3)=gt (s4 s) 3
       ·rw [if_pos h3,if_pos ⟨h0,h1,h2,h3⟩]
        have:at_+k+4+n=at_+(k+4+n):=by omega
        rw [this]; rfl
       ·rw [if_neg h3,if_neg (by rintro⟨_,_,_,h⟩; exact h3 h)]; rfl
      ·rw [if_neg h2,if_neg (by rintro⟨_,_,h,_⟩; exact h2 h)]; rfl
     ·rw [if_neg h1,if_neg (by rintro⟨_,h,_,_⟩; exact h1 h)]; rfl
    ·rw [if_neg h0,if_neg (by rintro⟨h,_,_,_⟩; exact h0 h)]; rfl
 ·rw [bq (by simpa using he),ao (by rcases hok with h | h | h; exact absurd h.1 he; rw [h]; rfl; rw [h]; rfl),if_pos he,if_neg he]
theorem Bf{x:List UInt8}(h:x.length≤1048576)(rest:List UInt8):d5 (fr x++rest)=(x,(fr x).length,0):=by
 have h3:=pn3 h
 have hn:numF 0 0 (fr x++rest)=(x.length,(pn x.length).length,0):=by
  unfold fr
  rw [DV,za _ 0 0 _ (by omega) (by omega)]
  simp
 unfold d5
 rw [hn]
 simp only
 rw [if_neg (by simp),if_neg (by omega),if_neg (by rw [DS,uq]; omega)]
 have e1:(fr x++rest).take (pn x.length).length=pn x.length:=by unfold fr; rw [DV,List.take_left]
 have e2:((fr x++rest).drop (pn x.length).length).take 4=s4 (sumB (pn x.length++x)):=by
  unfold fr; rw [DV,List.drop_left,DV,List.take_append_of_le_length (by simp [wB])]; rfl
 have e3:((fr x++rest).drop ((pn x.length).length+4)).take x.length=x:=by
  unfold fr
  rw [← List.drop_drop,DV,List.drop_left,DV,List.drop_append_of_le_length (by simp [wB])]
  show List.take x.length (x++rest)=x
  rw [List.take_left]
 rw [e1,e2,e3,if_pos rfl,uq]
theorem pj{l:List UInt8}(h:(d5 l).2.2=0):0<(d5 l).2.1∧(d5 l).2.1≤l.length∧(d5 l).1.length≤1048576:=by
 have hok:=xu l 0 0 (by omega) (by simp)
 unfold d5 at h ⊢
 split at h
 ·rename_i hq; exact absurd h hq
 ·rename_i hq
  rw [if_neg hq]
  split at h
  ·exact absurd h (by decide)
  ·rename_i h2
   rw [if_neg h2]
   split at h
   ·exact absurd h (by decide)
   ·rename_i h3
    rw [if_neg h3]
    split at h
    ·rename_i h4
     rw [if_pos h4]
     simp only [Ei]
     omega
    ·exact absurd h (by decide)
def allF:Nat→List UInt8→List (List UInt8)×Nat×Int
 | 0,_=>([],0,0)
 | f+1,l=>if l = [] then ([],0,0) else if (d5 l).2.2≠0 then ([],0,(d5 l).2.2) else ((d5 l).1::(allF f (l.drop (d5 l).2.1)).1,(d5 l).2.1+(allF f (l.drop (d5 l).2.1)).2.1,(allF f (l.drop (d5 l).2.1)).2.2)
def allB(l:List UInt8):List (List UInt8)×Nat×Int:=allF l.length l
theorem pw(f:Nat):allF f []=([],0,0):=by cases f <;> rfl
theorem y7:∀(f g:Nat) (l:List UInt8),l.length≤f→l.length≤g→allF f l=allF g l:=by
 intro f
 induction f with
 | zero=>
  intro g l h1 h2
  have:l = []:=List.eq_nil_of_length_eq_zero (by omega)
  subst this
  rw [pw,pw]
 | succ f ih=>
  intro g l h1 h2
  cases g with
  | zero=>
   have:l = []:=List.eq_nil_of_length_eq_zero (by omega)
   subst this
   rw [pw,pw]
  | succ g=>
   unfold allF
   split
   ·rfl
   ·split
    ·rfl
    ·rename_i hn he
     have hk:=pj (l:=l) (by simpa using he)
     rw [ih g (l.drop (d5 l).2.1) (by rw [Ej]; omega) (by rw [Ej]; omega)]
theorem r8(l:List UInt8):allB l=if l = [] then ([],0,0) else if (d5 l).2.2≠0 then ([],0,(d5 l).2.2) else ((d5 l).1::(allB (l.drop (d5 l).2.1)).1,(d5 l).2.1+(allB (l.drop (d5 l).2.1)).2.1,(allB (l.drop (d5 l).2.1)).2.2):=by
 by_cases h:l = []
 ·rw [if_pos h,h]; rfl
 ·rw [if_neg h]
  have hl:l.length=(l.length - 1)+1:=by have:=List.length_pos_iff.2 h; omega
  conv=>lhs; unfold allB; rw [hl]; unfold allF
  rw [if_neg h]
  split
  ·rfl
  ·rename_i he
   have hk:=pj (l:=l) (by simpa using he)
   unfold allB
   rw [y7 (l.length - 1) (l.drop (d5 l).2.1).length _ (by rw [Ej]; omega) (E6 _)]
theorem all_nil:allB []=([],0,0):=rfl
theorem BX{x:List UInt8}(h:x.length≤1048576)(rest:List UInt8):allB (fr x++rest)=(x::(allB rest).1,(fr x).length+(allB rest).2.1,(allB rest).2.2):=by
 have hne:fr x++rest≠[]:=λe=>by
  have:=congrArg List.length e
  rw [DS,uq] at this
  simp at this
 rw [r8,if_neg hne,Bf h,if_neg (by simp)]
 simp only
 rw [List.drop_left]
def frs(l:List (List UInt8)):List UInt8:=(l.map fr).flatten
theorem zC(x:List UInt8)(l:List (List UInt8)):frs (x::l)=fr x++frs l:=rfl
theorem B4(l m:List (List UInt8)):frs (l++m)=frs l++frs m:=by unfold frs; rw [E9,List.flatten_append]
def Rk(l:List (List UInt8)):Prop := ∀x∈l,x.length≤1048576
theorem xx:∀{l:List (List UInt8)} (h:Rk l) (rest:List UInt8),allB (frs l++rest)=(l++(allB rest).1,(frs l).length+(allB rest).2.1,(allB rest).2.2)
 | [],_,rest=>by simp [frs]
 | x::l,h,rest=>by
  rw [zC,DV,BX (h x DT),xx (λy hy=>h y (DU _ hy))]
  simp [Nat.add_assoc]
theorem yF{l:List (List UInt8)}(h:Rk l):allB (frs l)=(l,(frs l).length,0):=by
 have:=xx h []
 rw [Eb,all_nil] at this
 simpa using this
theorem xF(l:List UInt8):(allB l).2.1≤l.length∧(allB l).1.length≤(allB l).2.1:=by
 have key:∀(n:Nat) (l:List UInt8),l.length≤n→(allB l).2.1≤l.length∧(allB l).1.length≤(allB l).2.1:=by
  intro n
  induction n with
  | zero=>
   intro l h
   have:l = []:=List.eq_nil_of_length_eq_zero (by omega)
   subst this
   exact⟨E6 _,E6 _⟩
  | succ n ih=>
   intro l h
   rw [r8]
   split
   ·simp
   ·split
    ·simp
    ·rename_i he
     have hk:=pj (l:=l) (by simpa using he)
     have:=ih (l.drop (d5 l).2.1) (by rw [Ej]; omega)
     rw [Ej] at this
     simp only [DY]
     omega
 exact key l.length l (E6 _)
theorem vF{b:List UInt8}(hb:b.length≤lim):∀(n at_ F:Nat) (o:List (List UInt8)) (p:Int) (x5:Int),at_≤b.length→b.length - at_≤n→o.length+(b.length - at_)≤lim→p=(at_:Int) →
  ∃e,loopN (cu ee b) (F+n+1) ((at_:Int),x5,(o,p))=some ((o++(allB (b.drop at_)).1,((at_+(allB (b.drop at_)).2.1:Nat):Int)),e):=by
 intro n
 induction n with
 | zero=>
  intro at_ F o p x5 h1 h2 h3 hp
  rw [gO]
  generalize loopN (cu ee b) (F+0)=f
  unfold cu
  simp only
  rw [ay (by rw [DR]; omega)]
  refine⟨x5,?_⟩
  rw [E1 (by omega),all_nil,hp]
  simp
 | succ n ih=>
  intro at_ F o p x5 h1 h2 h3 hp
  rw [show F+(n+1)+1=(F+n+1)+1 by omega,gO]
  generalize hf:loopN (cu ee b) (F+n+1)=f
  unfold cu
  simp only
  by_cases hlt:at_<b.length
  ·have hne:b.drop at_≠[]:=λe=>by
    have:=congrArg List.length e
    rw [Ej] at this
    simp at this; omega
   rw [bq (by rw [DQ]; omega),C7 hb h1,E2]
   unfold zS
   simp only
   rw [r8,if_neg hne]
   by_cases he:(d5 (b.drop at_)).2.2=0
   ·have hk:=pj he
    rw [Ej] at hk
    rw [if_pos he,if_neg (show ¬ ((d5 (b.drop at_)).2.2≠0) from by simp [he]),bq (by simp [he])]
    unfold ee
    rw [ao (by simp; omega),E2, ← hf]
    obtain⟨e,h⟩:=ih (at_+(d5 (b.drop at_)).2.1) F (o++[(d5 (b.drop at_)).1]) _ (d5 (b.drop at_)).2.2 (by omega) (by omega) (by simp; omega) rfl
    refine⟨e,?_⟩
    simp only
    rw [h]
    simp only [List.drop_drop,DV,List.cons_append,Ee,Nat.add_assoc]
   ·rw [ay (by simp [he]),if_pos he]
    refine⟨(d5 (b.drop at_)).2.2,?_⟩
    rw [hp]
    simp only [Eb,Nat.add_zero]
  ·refine⟨x5,?_⟩
   rw [ay (by rw [DR]; omega),E1 (by omega),all_nil,hp]
   simp
theorem BP{b:List UInt8}(hb:b.length≤lim):∃e,jB b=some ((allB b).1,(((allB b).2.1:Nat):Int),e):=by
 have hb':=hb
 rw [aK] at hb'
 obtain⟨F,hF⟩:∃F,FU=F+b.length+1:=⟨FU - b.length - 1,by unfold FU; omega⟩
 obtain⟨e,h⟩:=vF hb b.length 0 F [] 0 0 (by omega) (by omega) (by simp; omega) rfl
 refine⟨e,?_⟩
 unfold jB iW
 rw [hF]
 simp only [List.drop_zero,Nat.zero_add,Ee] at h
 rw [show ((0:Nat):Int)=0 from rfl] at h
 rw [h]; rfl
def dz(n:Nat):List UInt8:=if h:n=0 then [] else dz (n / 10)++[UInt8.ofNat (48+n % 10)]
 decreasing_by omega
theorem dz_0:dz 0 = []:=by unfold dz; rfl
theorem dz_s{n:Nat}(h:n≠0):dz n=dz (n / 10)++[UInt8.ofNat (48+n % 10)]:=by rw [dz,dif_neg h]
def ds(n:Nat):List UInt8:=dz (n / 10)++[UInt8.ofNat (48+n % 10)]
theorem Ct:∀(k n:Nat),n<10 ^ k→(dz n).length≤k:=by
 intro k
 induction k with
 | zero=>intro n h; rw [show n=0 by omega,dz_0]; simp
 | succ k ih=>
  intro n h
  by_cases h1:n=0
  ·rw [h1,dz_0]; simp
  ·rw [dz_s h1]
   have:=ih (n / 10) (by rw [Nat.pow_succ] at h; omega)
   simp; omega
theorem qc{k n:Nat}(h:n<10 ^ (k+1)):(ds n).length≤k+1:=by
 unfold ds
 have:=Ct k (n / 10) (by rw [Nat.pow_succ] at h; omega)
 simp; omega
theorem ru(n:Nat):0<(ds n).length:=by unfold ds; simp
theorem vH(n:Nat):(UInt8.ofNat (48+n % 10)).toNat=48+n % 10:=by rw [UInt8.toNat_ofNat_of_lt']; show 48+n % 10<256; omega
theorem Cw:∀(n:Nat), ∀c∈dz n,48≤c.toNat∧c.toNat≤57:=by
 intro n
 induction n using Nat.strongRecOn with
 | _ n ih=>
  intro c hc
  by_cases h1:n=0
  ·rw [h1,dz_0] at hc; cases hc
  ·rw [dz_s h1] at hc
   rcases List.mem_append.1 hc with h | h
   ·exact ih (n / 10) (by omega) c h
   ·rw [List.mem_singleton.1 h,vH]; omega
theorem zu(n:Nat):∀c∈ds n,48≤c.toNat∧c.toNat≤57:=by
 intro c hc
 unfold ds at hc
 rcases List.mem_append.1 hc with h | h
 ·exact Cw _ c h
 ·rw [List.mem_singleton.1 h,vH]; omega
def rdV(n:Nat)(l:List UInt8):Nat:=l.foldl (λn c=>10*n+(c.toNat - 48)) n
theorem wQ(n:Nat)(l m:List UInt8):rdV n (l++m)=rdV (rdV n l) m:=by unfold rdV; rw [List.foldl_append]
theorem zm:∀n:Nat,rdV 0 (dz n)=n:=by
 intro n
 induction n using Nat.strongRecOn with
 | _ n ih=>
  by_cases h1:n=0
  ·rw [h1,dz_0]; rfl
  ·rw [dz_s h1,wQ,ih (n / 10) (by omega)]
   unfold rdV
   simp only [List.foldl_cons,List.foldl_nil,vH]
   omega
theorem wD(n:Nat):rdV 0 (ds n)=n:=by
 unfold ds
 rw [wQ,zm]
 unfold rdV
 simp only [List.foldl_cons,List.foldl_nil,vH]
 omega
theorem Ai{m n:Nat}(h:ds m=ds n):m=n:=by rw [← wD m,h,wD]
theorem zJ:∀(l:List UInt8) (n:Nat),n≤rdV n l
 | [],n=>E6 _
 | c::l,n=>by
  have:=zJ l (10*n+(c.toNat - 48))
  show n≤rdV (10*n+(c.toNat - 48)) l
  omega
theorem B5:∀(n:Nat) (c:UInt8) (l:List UInt8),dz n=c::l→c.toNat≠48:=by
 intro n
 induction n using Nat.strongRecOn with
 | _ n ih=>
  intro c l h
  by_cases h1:n=0
  ·rw [h1,dz_0] at h; cases h
  ·rw [dz_s h1] at h
   cases hd:dz (n / 10) with
   | nil=>
    rw [hd] at h
    injection h with h2 _
    rw [← h2,vH]
    have:n / 10=0:=by
     have:=zm (n / 10)
     rw [hd] at this
     exact this.symm
    omega
   | cons c' l'=>
    rw [hd] at h
    injection h with h2 _
    rw [← h2]
    exact ih (n / 10) (by omega) c' l' hd
theorem vw{x:List UInt8}{i:Nat}{v:UInt8}(h:i<x.length):(x.set i v).drop i=v::x.drop (i+1):=by
 rw [List.drop_eq_getElem_cons (by simpa using h)]
 congr 1
 ·simp
 ·rw [List.drop_set_of_lt (by omega)]
theorem vr{n:Int}{f:Int×Int×List UInt8→Option ByteArray}{at_ u:Nat}{x:List UInt8}(h1:0<at_)(h2:at_≤20)(h3:at_=20∨0<u)(h4:u≤18446744073709551615):
  bL n f ((at_:Int),(u:Int),x)=f (((at_ - 1:Nat):Int),((u / 10:Nat):Int),x.set (at_ - 1) (UInt8.ofNat (48+u % 10))):=by
 unfold bL
 simp only
 have e1:w64 ((at_:Int) - 1)=((at_ - 1:Nat):Int):=by rw [bO (by unfold I64; omega)]; omega
 have e2:(u:Int).tdiv 10=((u / 10:Nat):Int):=by rw [Int.tdiv_eq_ediv_of_nonneg (by omega)]; omega
 have e3:(u:Int).tmod 10=((u % 10:Nat):Int):=by rw [Int.tmod_eq_emod_of_nonneg (by omega)]; omega
 rw [e1,e2,e3]
 have c1:(((at_:Int)==20)||decide (0<(u:Int)))=true:=by
  simp only [Bool.or_eq_true,beq_iff_eq,DQ]; omega
 have c2:inb ((at_ - 1:Nat):Int) 20=true:=by
  unfold inb
  simp only [DW,DQ]; omega
 rw [c1,bq rfl,c2,ao rfl,kT (x:=((u / 10:Nat):Int)) (by unfold U64; omega),kT (x:=48+((u % 10:Nat):Int)) (by unfold U64; omega),xD (by unfold U8; omega)]
 unfold b8
 rw [DZ,show (48+((u % 10:Nat):Int)).toNat=48+u % 10 by omega]
theorem zH{n:Int}(hn:0≤n):∀(k u at_ F:Nat) (acc x:List UInt8),u<10 ^ k→k≤at_→at_<20→x.length=20→x.drop at_=acc→loopN (bL n) (F+k+1) ((at_:Int),(u:Int),x)=some ⟨(dz u++acc).toArray⟩:=by
 intro k
 induction k with
 | zero=>
  intro u at_ F acc x hu h1 h2 h3 h4
  obtain rfl:u=0:=by omega
  rw [gO]
  generalize loopN (bL n) (F+0)=f
  unfold bL fy
  simp only
  rw [ay (by simp; omega),ay (by simp; omega),ao (by simp [inle]; omega),DZ,h4,dz_0]; rfl
 | succ k ih=>
  intro u at_ F acc x hu h1 h2 h3 h4
  rw [show F+(k+1)+1=(F+k+1)+1 by omega,gO]
  by_cases h0:u=0
  ·generalize loopN (bL n) (F+k+1)=f
   subst h0
   unfold bL fy
   simp only
   rw [ay (by simp; omega),ay (by simp; omega),ao (by simp [inle]; omega),DZ,h4,dz_0]; rfl
  ·have hb:u≤18446744073709551615:=by
    have:10 ^ (k+1)≤10 ^ 19:=Nat.pow_le_pow_right (by decide) (by omega)
    omega
   rw [vr (by omega) (by omega) (.inr (by omega)) hb,ih (u / 10) (at_ - 1) F (UInt8.ofNat (48+u % 10)::acc) _ (by rw [Nat.pow_succ] at hu; omega) (by omega) (by omega) (by simpa using h3) (by rw [vw (by omega),show at_ - 1+1=at_ by omega,h4]),dz_s h0]
   simp
theorem sa{n:Nat}(h:n<10000000000000000000):gp (n:Int)=some ⟨(ds n).toArray⟩:=by
 unfold gp gM
 rw [ay (by simp),kT (by unfold U64; omega)]
 obtain⟨F,hF⟩:∃F,FU=(F+18+1)+1:=⟨FU - 20,by unfold FU; omega⟩
 rw [hF,gO]
 have:=vr (n:=(n:Int)) (f:=loopN (bL (n:Int)) (F+18+1)) (at_:=20) (u:=n) (x:=List.replicate 20 (b8 0)) (by decide) (by decide) (.inl rfl) (by omega)
 rw [show (((20:Nat):Nat):Int)=20 from rfl] at this
 rw [this,zH (by omega) 18 (n / 10) 19 F [UInt8.ofNat (48+n % 10)] _ (by omega) (by decide) (by decide) (by simp) (by rw [vw (by simp)]; rfl)]
 rfl
theorem x0(s:ByteArray):∃r,fU s=some r∧I64 r.1∧(r.2=0∨r.2=2):=by
 have key:∀(l:List UInt8) (i:Nat) (n:Int), ∃r,forI eo (λn_20=>bif decide (9223372036854775808≤n_20) then some (0,2) else some (w64 n_20,0)) i l n=some r∧I64 r.1∧(r.2=0∨r.2=2):=by
  intro l
  induction l with
  | nil=>
   intro i n
   rw [forI]
   cases decide (9223372036854775808≤n) with
   | true=>exact⟨(0,2),rfl,by unfold I64; decide,.inr rfl⟩
   | false=>exact⟨(w64 n,0),rfl,ep n,.inl rfl⟩
  | cons c l ih=>
   intro i n
   rw [forI]
   generalize hf:forI eo (λn_20=>bif decide (9223372036854775808≤n_20) then some (0,2) else some (w64 n_20,0)) (i+1) l=f
   unfold eo
   cases decide (((c.toNat:Nat):Int)<48)||decide (57<((c.toNat:Nat):Int)) with
   | true=>exact⟨(0,2),rfl,by unfold I64; decide,.inr rfl⟩
   | false=>rw [ay rfl, ← hf]; exact ih _ _
 unfold fU
 have hc:imp ((!(s==ByteArray.empty))&&(decide (1<((s.size:Nat):Int)))) (decide (0<s.size))=true:=by
  unfold imp
  by_cases h:1<s.size
  ·have:0<s.size:=by omega
   simp [this]
  ·have h2:decide (1<((s.size:Nat):Int))=false:=by rw [DR]; omega
   rw [h2]; simp
 rw [hc,ao rfl]
 cases (s==ByteArray.empty||decide (1<((s.size:Nat):Int))&&((((gt s.data.toList 0).toNat:Nat):Int)==48))||decide (19<((s.size:Nat):Int)) with
 | true=>exact⟨(0,2),rfl,by unfold I64; decide,.inr rfl⟩
 | false=>rw [ay rfl]; exact key _ _ _
def rdP(s:ByteArray):Int×Int:=(fU s).getD (0,0)
theorem yZ(s:ByteArray):fU s=some (rdP s):=by obtain⟨r,h,_⟩:=x0 s; unfold rdP; rw [h]; rfl
theorem BJ(s:ByteArray):i64b (rdP s).1=true:=by
 obtain⟨r,h,h2,_⟩:=x0 s
 unfold rdP
 rw [h]
 unfold i64b
 unfold I64 at h2
 simp; omega
theorem tg{K:Int→Option (Int×Int)}:∀(l:List UInt8) (i n:Nat),(∀c∈l,48≤c.toNat∧c.toNat≤57)→rdV n l<10000000000000000000→forI eo K i l (n:Int)=K ((rdV n l:Nat):Int)
 | [],_,_,_,_=>rfl
 | c::l,i,n,hd,hv=>by
  have hc:=hd c DT
  have hv':rdV (10*n+(c.toNat - 48)) l<10000000000000000000:=hv
  have hle:=zJ l (10*n+(c.toNat - 48))
  rw [forI]
  show (bif decide (((c.toNat:Nat):Int)<48)||decide (57<((c.toNat:Nat):Int)) then some (0,2) else forI eo K (i+1) l (wu64 ((wu64 (10*(n:Int)))+(wu64 (wu8 (((c.toNat:Nat):Int) - 48))))))=_
  rw [ay (by simp; omega),xD (by unfold U8; omega),kT (x:=10*(n:Int)) (by unfold U64; omega),kT (x:=((c.toNat:Nat):Int) - 48) (by unfold U64; omega),kT (by unfold U64; omega)]
  rw [show 10*(n:Int)+(((c.toNat:Nat):Int) - 48)=((10*n+(c.toNat - 48):Nat):Int) by omega]
  exact tg l (i+1) _ (λc' h=>hd c' (DU _ h)) hv'
theorem lN(l:List UInt8):(⟨l.toArray⟩:ByteArray).size=l.length:=rfl
theorem zo{s:ByteArray}:s=ByteArray.empty↔s.size=0:=by
 constructor
 ·rintro rfl; rfl
 ·intro h
  apply jC
  have:s.data.toList.length=0:=h
  rw [List.eq_nil_of_length_eq_zero this]; rfl
theorem xp{n:Nat}(h:n<9223372036854775808):rdP ⟨(ds n).toArray⟩=((n:Int),0):=by
 have hl:(ds n).length≤19:=qc (by omega)
 have hp:=ru n
 have hv:=wD n
 unfold rdP fU
 simp only [lN]
 have c0:((⟨(ds n).toArray⟩:ByteArray)==ByteArray.empty)=false:=by
  rw [beq_eq_false_iff_ne]; intro e; rw [zo,lN] at e; omega
 have c1:(decide (1<(((ds n).length:Nat):Int))&&((((gt (ds n) 0).toNat:Nat):Int)==48))=false:=by
  by_cases h1:1<(ds n).length
  ·have h2:(gt (ds n) 0).toNat≠48:=by
    have hd:ds n=dz (n / 10)++[UInt8.ofNat (48+n % 10)]:=rfl
    cases hq:dz (n / 10) with
    | nil=>rw [hq] at hd; rw [hd] at h1; simp at h1
    | cons c l=>rw [hd,hq]; exact B5 _ _ _ hq
   have h3:((((gt (ds n) 0).toNat:Nat):Int)==48)=false:=by rw [beq_eq_false_iff_ne]; omega
   rw [h3,Bool.and_false]
  ·have:decide (1<(((ds n).length:Nat):Int))=false:=by rw [DR]; omega
   rw [this,Bool.false_and]
 have c2:decide (19<(((ds n).length:Nat):Int))=false:=by rw [DR]; omega
 rw [c0,c1,c2,ao (by unfold imp; simp; omega)]
 have:=tg (K:=λn_20=>bif decide (9223372036854775808≤n_20) then some (0,2) else some (w64 n_20,0)) (ds n) 0 0 (zu n) (by rw [hv]; omega)
 rw [hv] at this
 show (forI eo _ 0 (ds n) ((0:Nat):Int)).getD (0,0)=_
 rw [this,ay (by rw [DR]; omega),bO (by unfold I64; omega)]; rfl
def ND(l:List UInt8):Prop := ∀c∈l,c≠46
theorem yQ(n:Nat):ND (ds n):=λc hc e=>by have:=zu n c hc; rw [e] at this; exact absurd this.1 (by decide)
theorem l9:∀{a b x y:List UInt8},ND a→ND b→a++46::x=b++46::y→a=b∧x=y
 | [],[],x,y,_,_,h=>by injection h with _ h; exact⟨rfl,h⟩
 | [],d::b,x,y,_,hb,h=>by injection h with h _; exact absurd h.symm (hb d DT)
 | c::a,[],x,y,ha,_,h=>by injection h with h _; exact absurd h (ha c DT)
 | c::a,d::b,x,y,ha,hb,h=>by
  injection h with h1 h2
  obtain⟨e1,e2⟩:=l9 (λq hq=>ha q (DU _ hq)) (λq hq=>hb q (DU _ hq)) h2
  exact⟨by rw [h1,e1],e2⟩
structure Nm (nm:ByteArray):Prop where
 lo:1≤nm.size
 hi:nm.size≤2
 nd:ND nm.data.toList
theorem Aq{nm:ByteArray}:nm.data.toList.length=nm.size:=rfl
def fn(nm:ByteArray)(g k:Nat):ByteArray:=((((nm++(⟨#[46]⟩:ByteArray))++⟨(ds g).toArray⟩)++(⟨#[46]⟩:ByteArray))++⟨(ds k).toArray⟩)
def mn(nm:ByteArray):ByteArray:=nm++(⟨#[46,109]⟩:ByteArray)
theorem q9(a b:ByteArray):(a++b).data.toList=a.data.toList++b.data.toList:=ByteArray.toList_data_append
theorem fn_l(nm:ByteArray)(g k:Nat):(fn nm g k).data.toList=nm.data.toList++46::(ds g++46::ds k):=by
 unfold fn
 simp only [q9]
 simp
theorem mn_l(nm:ByteArray):(mn nm).data.toList=nm.data.toList++46::[109]:=by unfold mn; rw [q9]
theorem rl{nm nm':ByteArray}{g k g' k':Nat}(h:Nm nm)(h':Nm nm')(e:fn nm g k=fn nm' g' k'):nm=nm'∧g=g'∧k=k':=by
 have e2:=congrArg (λb:ByteArray=>b.data.toList) e
 simp only [fn_l] at e2
 obtain⟨e3,e4⟩:=l9 h.nd h'.nd e2
 obtain⟨e5,e6⟩:=l9 (yQ g) (yQ g') e4
 exact⟨jC e3,Ai e5,Ai e6⟩
theorem BB{nm nm':ByteArray}{g k:Nat}(h:Nm nm)(h':Nm nm'):mn nm≠fn nm' g k:=by
 intro e
 have e2:=congrArg (λb:ByteArray=>b.data.toList) e
 simp only [fn_l,mn_l] at e2
 obtain⟨_,e4⟩:=l9 h.nd h'.nd e2
 have:=congrArg List.length e4
 have h1:=ru g
 have h2:=ru k
 simp at this; omega
def gk(g k:Nat):Prop:=g≤999999∧1≤k∧k≤999999
theorem oR{nm:ByteArray}{g k:Nat}(h:Nm nm)(hg:g≤999999)(hk:k≤999999):4≤(fn nm g k).size∧(fn nm g k).size≤16:=by
 have h1:(ds g).length≤6:=qc (by omega)
 have h2:(ds k).length≤6:=qc (by omega)
 have h3:=ru g
 have h4:=ru k
 have h5:=h.lo
 have h6:=h.hi
 have:(fn nm g k).size=nm.size+1+(ds g).length+1+(ds k).length:=by
  show (fn nm g k).data.toList.length=_
  rw [fn_l]; simp [Aq]; omega
 omega
theorem uj{nm:ByteArray}(h:Nm nm):3≤(mn nm).size∧(mn nm).size≤4:=by
 have h5:=h.lo
 have h6:=h.hi
 have:(mn nm).size=nm.size+2:=by
  show (mn nm).data.toList.length=_
  rw [mn_l]; simp [Aq]
 omega
theorem wn{nm:ByteArray}(h:Nm nm){g k:Nat}(hg:g≤999999)(hk:k≤999999)(p2:Int):cn nm p2 (g:Int) (k:Int)=some (fn nm g k):=by
 have h1:(ds g).length≤6:=qc (by omega)
 have h2:(ds k).length≤6:=qc (by omega)
 have h6:=h.hi
 have hs1:(⟨#[46]⟩:ByteArray).size=1:=rfl
 unfold cn
 rw [sa (by omega),E2,sa (by omega),E2]
 have l:=aK
 rw [ao (by simp only [ByteArray.size_append,lN,hs1,DQ]; omega),ao (by simp only [ByteArray.size_append,lN,hs1,DQ]; omega),ao (by simp only [ByteArray.size_append,lN,hs1,DQ]; omega),ao (by simp only [ByteArray.size_append,lN,hs1,DQ]; omega),ao (by simp only [ByteArray.size_append,lN,hs1,DQ]; omega)]
 rfl
theorem Av(nm:ByteArray)(p2:Int):et nm p2=some (mn nm):=rfl
theorem xf:∀(l:List UInt8) (n:Nat),ND l→ixbF l 46 n = -1
 | [],_,_=>rfl
 | c::l,n,h=>by
  unfold ixbF
  rw [show (c==46)=false from by rw [beq_eq_false_iff_ne]; exact h c DT,ay rfl]
  exact xf l (n+1) λq hq=>h q (DU _ hq)
theorem xl:∀(l x:List UInt8) (n:Nat),ND l→ixbF (l++46::x) 46 n=((n+l.length:Nat):Int)
 | [],x,n,_=>rfl
 | c::l,x,n,h=>by
  rw [List.cons_append]
  unfold ixbF
  rw [show (c==46)=false from by rw [beq_eq_false_iff_ne]; exact h c DT,ay rfl,xl l x (n+1) λq hq=>h q (DU _ hq)]
  simp; omega
theorem zZ:∀(l:List UInt8) (n:Nat),ixbF l 46 n = -1∨∃k,ixbF l 46 n=((n+k:Nat):Int)∧k<l.length
 | [],_=>.inl rfl
 | c::l,n=>by
  unfold ixbF
  cases hc:(c==46) with
  | true=>exact .inr ⟨0,rfl,by simp⟩
  | false=>
   rw [ay rfl]
   rcases zZ l (n+1) with h | ⟨k,h,h2⟩
   ·exact .inl h
   ·exact .inr ⟨k+1,by rw [h]; congr 1; omega,by simp; omega⟩
theorem xe(s:ByteArray):gV s=some (ixb s 46)∧aR s=some (ixb s 46):=by
 have h:aR s=some (ixb s 46):=by
  unfold aR ce
  by_cases hs:(⟨#[46]⟩:ByteArray)=s
  ·subst hs; rfl
  ·rw [ay (by rw [beq_eq_false_iff_ne]; exact hs)]; rfl
 exact⟨by unfold gV; rw [h]; rfl,h⟩
theorem yq{nm:ByteArray}(h:Nm nm):eZ nm=some false:=by
 unfold eZ
 rw [(xe nm).1,E2]
 unfold ixb
 rw [show (46:Int).toNat.toUInt8=46 from rfl,xf _ _ h.nd]; rfl
def cutP(s p:ByteArray):ByteArray×Bool:=if p.size≤s.size∧s.extract 0 p.size=p then (s.extract p.size s.size,true) else (s,false)
theorem vk(s p:ByteArray):eB s p=some (cutP s p):=by
 unfold eB bY ck cutP
 have hi:imp (decide (((p.size:Nat):Int)≤((s.size:Nat):Int))) (decide (p.size≤s.size))=true:=by
  unfold imp
  by_cases h:p.size≤s.size
  ·simp [h]
  ·rw [show decide (((p.size:Nat):Int)≤((s.size:Nat):Int))=false from by rw [DR]; omega]; rfl
 rw [hi,ao rfl,E2]
 by_cases h:p.size≤s.size∧s.extract 0 p.size=p
 ·rw [if_pos h,ay (by simp [h.2]; omega),ao (by simpa using h.1)]; rfl
 ·rw [if_neg h,bq ?_]; rfl
  rw [Bool.not_eq_true',Bool.and_eq_false_iff]
  by_cases h1:p.size≤s.size
  ·right; rw [beq_eq_false_iff_ne]; exact λe=>h ⟨h1,e⟩
  ·left; rw [DR]; omega
def cutD(s:ByteArray):ByteArray×ByteArray×Bool:=if 0≤ixb s 46 then (s.extract 0 (ixb s 46).toNat,s.extract ((ixb s 46).toNat+1) s.size,true) else (s,ByteArray.empty,false)
theorem Dj(s:ByteArray)(hs:s.size≤lim):jh s=some (cutD s):=by
 unfold jh du cutD
 rw [(xe s).2,E2]
 have hr:ixb s 46 = -1∨∃k,ixb s 46=((k:Nat):Int)∧k<s.size:=by
  unfold ixb
  rcases zZ s.data.toList 0 with h | ⟨k,h,h2⟩
  ·exact .inl h
  ·exact .inr ⟨k,by rw [show (46:Int).toNat.toUInt8=46 from rfl,h]; congr 1; omega,h2⟩
 rcases hr with h | ⟨k,h,hk⟩
 ·rw [h]; rfl
 ·rw [aK] at hs
  rw [h,bq (by simp),if_pos (by omega),bO (by unfold I64; omega),ao (by simp [inle]; omega),ao (by simp [inle]; omega),show ((k:Int)+1).toNat=k+1 by omega,DZ]; rfl
def pf(nm f:ByteArray):Option (Int×Int):=
 if ((cutP f (nm++(⟨#[46]⟩:ByteArray))).2&&(cutD (cutP f (nm++(⟨#[46]⟩:ByteArray))).1).2.2&&((rdP (cutD (cutP f (nm++(⟨#[46]⟩:ByteArray))).1).1).2==0)&&((rdP (cutD (cutP f (nm++(⟨#[46]⟩:ByteArray))).1).2.1).2==0)&&(decide ((rdP (cutD (cutP f (nm++(⟨#[46]⟩:ByteArray))).1).1).1≤999999))&&(decide (1≤(rdP (cutD (cutP f (nm++(⟨#[46]⟩:ByteArray))).1).2.1).1))&&(decide ((rdP (cutD (cutP f (nm++(⟨#[46]⟩:ByteArray))).1).2.1).1≤999999)))=true
 then some ((rdP (cutD (cutP f (nm++(⟨#[46]⟩:ByteArray))).1).1).1,(rdP (cutD (cutP f (nm++(⟨#[46]⟩:ByteArray))).1).2.1).1) else none
theorem xQ(s p:ByteArray):(cutP s p).1.size≤s.size:=by
 unfold cutP
 split
 ·simp only [ByteArray.size_extract]; omega
 ·exact E6 _
theorem yd(s:ByteArray):(cutD s).1.size≤s.size∧(cutD s).2.1.size≤s.size:=by
 unfold cutD
 split
 ·simp only [ByteArray.size_extract]; omega
 ·exact⟨E6 _,E7 _⟩
theorem vS{nm f:ByteArray}(h:nm.size≤2)(hf:f.size≤lim){pred:Int→Int→Option Bool}{q:Int→Int→Bool}(hq:∀a b,pred a b=some (q a b))(k:ag→Option ag)(i:Nat)(o:ag)(ho:o.length+1≤lim):
  bw (cF pred) nm k i f o=k (o++if (pf nm f).any (λx=>q x.1 x.2) then [f] else []):=by
 unfold bw pf
 have hs1:(⟨#[46]⟩:ByteArray).size=1:=rfl
 have l:=aK
 rw [ao (by simp only [ByteArray.size_append,hs1,DQ]; omega),vk,E2]
 have c1:=xQ f (nm++(⟨#[46]⟩:ByteArray))
 generalize cutP f (nm++(⟨#[46]⟩:ByteArray))=z24 at c1 ⊢
 rw [ao (by rw [DQ]; omega),Dj _ (by omega),E2]
 have c2:=yd z24.1
 generalize cutD z24.1=z27 at c2 ⊢
 rw [ao (by rw [DQ]; omega),yZ,E2,ao (by rw [DQ]; omega),yZ,E2]
 have r1:=BJ z27.1
 have r2:=BJ z27.2.1
 generalize rdP z27.1=z30 at r1 ⊢
 generalize rdP z27.2.1=z33 at r2 ⊢
 generalize hc:((((((z24.2&&z27.2.2)&&(z30.2==0))&&(z33.2==0))&&decide (z30.1≤999999))&&decide (1≤z33.1))&&decide (z33.1≤999999))=c
 cases c with
 | true=>
  rw [bq rfl,if_pos rfl,ao r1,ao r2]
  unfold cF
  rw [hq,E2]
  simp only [Option.any_some]
  by_cases hqq:q z30.1 z33.1=true
  ·rw [bq hqq,if_pos hqq,ao (by simpa using ho)]; rfl
  ·rw [ay (by simpa using hqq),if_neg hqq,Eb]; rfl
 | false=>
  rw [ay rfl,if_neg (by simp)]
  simp
theorem rD(s:ByteArray)(i j:Nat):(s.extract i j).data.toList=(s.data.toList.take j).drop i:=by
 rw [ByteArray.data_extract,Array.toList_extract,List.extract_eq_take_drop,List.drop_take]
theorem B1{s p:ByteArray}{x:List UInt8}(h:s.data.toList=p.data.toList++x):cutP s p=(⟨x.toArray⟩,true):=by
 have hsz:s.size=p.size+x.length:=by
  show s.data.toList.length=_
  rw [h,DS]; rfl
 have h1:s.extract 0 p.size=p:=by
  apply jC
  rw [rD,h,List.drop_zero,show p.size=p.data.toList.length from rfl,List.take_left]
 unfold cutP
 rw [if_pos ⟨by omega,h1⟩]
 congr 1
 apply jC
 rw [rD,List.take_of_length_le (by show s.size≤s.size; exact E6 _),h,show p.size=p.data.toList.length from rfl,List.drop_left]
theorem wV{s p:ByteArray}(h:∀x,s.data.toList≠p.data.toList++x):cutP s p=(s,false):=by
 unfold cutP
 rw [if_neg]
 rintro⟨h1,h2⟩
 apply h (s.data.toList.drop p.size)
 have:=congrArg (λb:ByteArray=>b.data.toList) h2
 simp only [rD,List.drop_zero] at this
 rw [← this]
 exact(List.take_append_drop p.size s.data.toList).symm
theorem Bh{a x:List UInt8}(h:ND a):cutD ⟨(a++46::x).toArray⟩=(⟨a.toArray⟩,⟨x.toArray⟩,true):=by
 have hi:ixb ⟨(a++46::x).toArray⟩ 46=((a.length:Nat):Int):=by
  unfold ixb
  show ixbF (a++46::x) 46 0=_
  rw [xl a x 0 h,Nat.zero_add]
 unfold cutD
 rw [hi,if_pos (by omega),DZ]
 congr 1
 ·apply jC
  rw [rD]
  show List.drop 0 (List.take a.length (a++46::x))=a
  rw [List.drop_zero,List.take_left]
 ·congr 1
  apply jC
  rw [rD]
  show List.drop (a.length+1) (List.take (a++46::x).length (a++46::x))=x
  rw [List.take_length, ← List.drop_drop,List.drop_left]; rfl
theorem ug{nm:ByteArray}{g k:Nat}(h:gk g k):pf nm (fn nm g k)=some ((g:Int),(k:Int)):=by
 obtain⟨h1,h2,h3⟩:=h
 unfold pf
 rw [B1 (x:=ds g++46::ds k) (by rw [fn_l,q9]; simp)]
 simp only
 rw [Bh (yQ g)]
 simp only
 rw [xp (by omega),xp (by omega)]
 rw [if_pos (by simp; omega)]
theorem zY{nm nm':ByteArray}(h:Nm nm)(h':Nm nm')(hne:nm≠nm')(g k:Nat):pf nm (fn nm' g k)=none:=by
 unfold pf
 rw [wV (λx e=>by
  rw [fn_l,q9] at e
  have:nm.data.toList++(⟨#[46]⟩:ByteArray).data.toList++x=nm.data.toList++46::x:=by simp
  rw [this] at e
  exact hne (jC (l9 h.nd h'.nd e.symm).1))]
 rfl
abbrev Mp:=List (ByteArray×List UInt8)
abbrev Cg:=aj
abbrev Dc:=az
abbrev Dk:=a6
def ap:Cg→Mp→Mp
 | .disk_Disk_Remove_1 a,es=>mdel a es
 | .disk_add_1 n b,es=>mput n ((mget n es).getD []++b) es
 | .disk_Disk_Cut_1 n k,es=>mput n (((mget n es).getD []).take k.toNat) es
def okc:Cg→Mp→Prop
 | .disk_Disk_Cut_1 n k,es=>(mget n es).isSome=true∧0≤k∧k≤(((mget n es).getD []).length:Int)
 | .disk_Disk_Remove_1 a,es=>(mget a es).isSome=true
 | _,_=>True
theorem D4{c:Cg}{es:Mp}(h:NK es):NK (ap c es):=by
 cases c with
 | disk_Disk_Remove_1 a=>exact h.del
 | disk_add_1 n b=>exact h.put
 | disk_Disk_Cut_1 n k=>exact h.put
theorem Cp{c:Cg}{es:Mp}:(ap c es).length≤es.length+1:=by
 cases c with
 | disk_Disk_Remove_1 a=>exact Nat.le_trans s7 (Nat.le_succ _)
 | disk_add_1 n b=>exact pE
 | disk_Disk_Cut_1 n k=>exact pE
theorem we{n:ByteArray}{b:List UInt8}{es:Mp}:sz (ap (.disk_add_1 n b) es)=sz es+b.length:=by
 have:=yI (x:=n) (v:=(mget n es).getD []++b) (es:=es)
 rw [DS] at this
 show sz (mput n _ es)=_
 omega
theorem Cj{a:ByteArray}{es:Mp}:sz (ap (.disk_Disk_Remove_1 a) es)≤sz es:=by
 have h2:=wC (x:=a) (es:=es)
 show sz (mdel a es)≤_
 omega
theorem C8{n:ByteArray}{k:Int}{es:Mp}:sz (ap (.disk_Disk_Cut_1 n k) es)≤sz es:=by
 have h1:=yI (x:=n) (v:=((mget n es).getD []).take k.toNat) (es:=es)
 have h2:(((mget n es).getD []).take k.toNat).length≤((mget n es).getD []).length:=by rw [Ei]; omega
 show sz (mput n _ es)≤_
 omega
theorem D0{c:Cg}{es:Mp}(hok:okc c es)(h:sz (ap c es)≤lim):fm c es=some (ap c es):=by
 cases c with
 | disk_Disk_Remove_1 a=>rfl
 | disk_add_1 n b=>
  rw [we] at h
  have:=vV (x:=n) (es:=es)
  show jO es n b=_
  unfold jO eJ
  rw [E2,ao (by simp; omega)]; rfl
 | disk_Disk_Cut_1 n k=>
  obtain⟨_,h1,h2⟩:=hok
  show fJ es n k=_
  unfold fJ
  rw [ao (by simp [inle,h1,h2])]; rfl
def run(cs:List Dc)(es:Mp):Mp:=cs.foldl (λes c=>ap c.do_ es) es
theorem rP{cs:List Dc}{c:Dc}{es:Mp}:run (cs++[c]) es=ap c.do_ (run cs es):=by simp [run,List.foldl_append]
theorem Cm{cs:List Dc}{es:Mp}(h:NK es):NK (run cs es):=by
 induction cs generalizing es with
 | nil=>exact h
 | cons c cs ih=>exact ih (D4 h)
def Tl(c:Dc):Prop:=match c.do_ with
 | .disk_add_1 n b=>c.name=n∧c.tail=b
 | _=>c.tail = []
structure DI (R N:Nat) (d:Dk):Prop where
 rd:d.room=(R:Int)
 see:d.seen=run d.loose d.safe_
 nks:NK d.safe_
 szs:∀k,k≤d.loose.length→sz (run (d.loose.take k) d.safe_)≤R
 lns:∀k,k≤d.loose.length→(run (d.loose.take k) d.safe_).length≤N
 oks:∀k,k<d.loose.length→okc (gt d.loose k).do_ (run (d.loose.take k) d.safe_)
 tls:∀k,k<d.loose.length→Tl (gt d.loose k)
 ll:d.loose.length≤N
def MX:Nat:=1073741824
theorem rr{R:Nat}(hR:R≤MX):R≤lim:=by rw [aK]; unfold MX at hR; omega
section
variable {R N:Nat} {d:Dk}
theorem DI.mono(h:DI R N d){M:Nat}(hm:N≤M):DI R M d:=⟨h.rd,h.see,h.nks,h.szs,λk hk=>Nat.le_trans (h.lns k hk) hm,h.oks,h.tls,Nat.le_trans h.ll hm⟩
theorem DI.nk(h:DI R N d):NK d.seen:=by rw [h.see]; exact Cm h.nks
theorem DI.sz(h:DI R N d):Fw.sz d.seen≤R:=by
 rw [h.see]
 have:=h.szs d.loose.length (E6 _)
 rwa [List.take_length] at this
theorem DI.ln(h:DI R N d):d.seen.length≤N:=by
 rw [h.see]
 have:=h.lns d.loose.length (E6 _)
 rwa [List.take_length] at this
theorem DI.clean{r:Int}{es:Mp}(hr:r=(R:Int))(h1:NK es)(h2:Fw.sz es≤R)(h3:es.length≤N):DI R N ⟨r,es,es,[]⟩:=
 ⟨hr,rfl,h1,λk hk=>by simpa [run] using h2,λk hk=>by simpa [run] using h3,λk hk=>absurd hk (Nat.not_lt_zero _),λk hk=>absurd hk (Nat.not_lt_zero _),E7 _⟩
def okn(n:ByteArray):Bool:=decide (1≤n.size)&&decide (n.size≤16)
theorem B7(s:ByteArray):(decide (((s.size:Nat):Int)<1)||decide (16<((s.size:Nat):Int)))=!okn s:=by
 unfold okn
 rw [Bool.eq_iff_iff]
 simp only [Bool.or_eq_true,DQ,Bool.not_eq_true',Bool.and_eq_false_iff,DR]
 omega
theorem wU(l:List ByteArray):il l=some (l.all okn):=by
 unfold il
 refine(eO (λi _=>some ((l.drop i).all okn)) (λ_ _=>True) (λs _=>?_) (λf i s hi _ hf=>?_) trivial)
 ·rw [E1 (E6 _)]; rfl
 ·unfold lT
  rw [hf () trivial,bo hi,List.all_cons]
  rw [B7]
  cases okn (gt l i) <;> rfl
theorem Bx{l:List UInt8}(h:l.length≤lim):bJ l=some l:=by
 unfold bJ nilc
 cases l with
 | nil=>rfl
 | cons x l=>rw [ao (by simpa using h)]; rfl
theorem vu:∀(es:Mp) (n:Int),0≤n→n+(sz es:Int)≤4611686018427387904→fldO eC n es=some (n+(sz es:Int))
 | [],n,_,_=>by simp [fldO,Fw.sz]
 | p::es,n,h0,h1=>by
  have hs:Fw.sz (p::es)=p.2.length+Fw.sz es:=by simp [Fw.sz]
  rw [hs] at h1 ⊢
  unfold fldO eC
  rw [E2,bO (by unfold I64; omega)]
  have:=vu es (n+(p.2.length:Int)) (by omega) (by omega)
  unfold eC at this
  rw [this]; congr 1; omega
theorem Cz{d:Dk}(h:Fw.sz d.seen≤lim):gm d=some (Fw.sz d.seen:Int):=by
 unfold gm
 rw [aK] at h
 rw [vu _ _ (Int.le_refl 0) (by omega),E2,Int.zero_add]
def tb(d:Dk)(c:Dc):Dk:=⟨d.room,d.safe_,ap c.do_ d.seen,d.loose++[c]⟩
def dApp(d:Dk)(n:ByteArray)(b:List UInt8):Dk×Int:=
 bif !okn n then (d,70) else bif decide (d.room - (Fw.sz d.seen:Int)<(b.length:Int)) then (d,72) else (tb d ⟨.disk_add_1 n b,n,b⟩,0)
def iG(d:Dk)(n:ByteArray):Int:=bif !okn n then 70 else bif !(mget n d.seen).isSome then 71 else 0
def dCut(d:Dk)(n:ByteArray)(k:Int):Dk×Int:=
 bif iG d n != 0 then (d,iG d n) else bif decide (k<0)||decide (((((mget n d.seen).getD []).length:Nat):Int)<k) then (d,1) else (tb d ⟨.disk_Disk_Cut_1 n k,ByteArray.empty,[]⟩,0)
def dRem(d:Dk)(n:ByteArray):Dk×Int:=
 bif iG d n != 0 then (d,iG d n) else (tb d ⟨.disk_Disk_Remove_1 n,ByteArray.empty,[]⟩,0)
theorem vO(h:DI R N d)(hR:R≤lim)(hN:N+1≤lim){c:Dc}(h1:Fw.sz (ap c.do_ d.seen)≤R)(h2:okc c.do_ d.seen):df d c=some (tb d c,0):=by
 unfold df
 have:=h.ll
 rw [D0 h2 (Nat.le_trans h1 hR),E2,ao (by simp; omega)]; rfl
theorem DI.done(h:DI R N d){c:Dc}(h1:Fw.sz (ap c.do_ d.seen)≤R)(h2:okc c.do_ d.seen)(h4:Tl c):DI R (N+1) (tb d c):=by
 have hs:=h.see
 have hk:∀k,k≤(d.loose++[c]).length→k≤d.loose.length∧(d.loose++[c]).take k=d.loose.take k∨k=d.loose.length+1∧(d.loose++[c]).take k=d.loose++[c]:=λk hk=>by
  rw [DS] at hk
  simp only [DY,Ea] at hk
  rcases Nat.lt_or_ge d.loose.length k with h | h
  ·right; exact⟨by omega,List.take_of_length_le (by simp; omega)⟩
  ·left; exact⟨h,by rw [List.take_append_of_le_length h]⟩
 have hg:∀k,k<(d.loose++[c]).length→k<d.loose.length∧gt (d.loose++[c]) k=gt d.loose k∨k=d.loose.length∧gt (d.loose++[c]) k=c:=λk hk=>by
  rw [DS] at hk
  simp only [DY,Ea] at hk
  rcases Nat.lt_or_ge k d.loose.length with h5 | h5
  ·left; exact⟨h5,iC h5⟩
  ·right
   have:k=d.loose.length:=by omega
   subst this
   exact⟨rfl,by rw [gN (E6 _),Nat.sub_self]; rfl⟩
 refine⟨h.rd,?_,h.nks,λk q=>?_,λk q=>?_,λk q=>?_,λk q=>?_,?_⟩
 ·show ap c.do_ d.seen=run (d.loose++[c]) d.safe_
  rw [rP, ← hs]
 ·rcases hk k q with ⟨a,b⟩ | ⟨a,b⟩
  ·show Fw.sz (run ((d.loose++[c]).take k) d.safe_)≤R
   rw [b]; exact h.szs k a
  ·show Fw.sz (run ((d.loose++[c]).take k) d.safe_)≤R
   rw [b,rP, ← hs]; exact h1
 ·rcases hk k q with ⟨a,b⟩ | ⟨a,b⟩
  ·show (run ((d.loose++[c]).take k) d.safe_).length≤_
   rw [b]; exact Nat.le_trans (h.lns k a) (Nat.le_succ _)
  ·show (run ((d.loose++[c]).take k) d.safe_).length≤_
   rw [b,rP, ← hs]
   have:=h.ln
   have h6:=Cp (c:=c.do_) (es:=d.seen)
   omega
 ·rcases hg k q with ⟨a,b⟩ | ⟨a,b⟩
  ·show okc (gt (d.loose++[c]) k).do_ (run ((d.loose++[c]).take k) d.safe_)
   rw [b,List.take_append_of_le_length (Nat.le_of_lt a)]; exact h.oks k a
  ·show okc (gt (d.loose++[c]) k).do_ (run ((d.loose++[c]).take k) d.safe_)
   rw [b,a,List.take_append_of_le_length (E6 _),List.take_length, ← hs]; exact h2
 ·rcases hg k q with ⟨a,b⟩ | ⟨a,b⟩
  ·show Tl (gt (d.loose++[c]) k)
   rw [b]; exact h.tls k a
  ·show Tl (gt (d.loose++[c]) k)
   rw [b]; exact h4
 ·show (d.loose++[c]).length≤_
  have:=h.ll
  simp; omega
theorem C1{z:Nat}(hR:R≤MX)(hz:z≤R):w64 ((R:Int) - (z:Int))=(R:Int) - (z:Int):=bO (by unfold I64 MX at *; omega)
theorem Ds(h:DI R N d)(hR:R≤MX)(hN:N+1≤lim)(n:ByteArray)(b:List UInt8):fg d n b=some (dApp d n b)∧DI R (N+1) (dApp d n b).1:=by
 have hs:=h.sz
 have hR2:=rr hR
 unfold fg dApp
 rw [wU,E2]
 simp only [List.all_cons,List.all_nil,Bool.and_true]
 cases okn n with
 | false=>exact⟨rfl,h.mono (Nat.le_succ _)⟩
 | true=>
  rw [show (!true)=false from rfl,ay rfl,ay rfl,Cz (Nat.le_trans hs hR2),E2,h.rd,C1 hR hs]
  cases hc:decide ((R:Int) - (Fw.sz d.seen:Int)<((b.length:Nat):Int)) with
  | true=>exact⟨rfl,h.mono (Nat.le_succ _)⟩
  | false=>
   have hc:=of_decide_eq_false hc
   have h1:Fw.sz (ap (.disk_add_1 n b) d.seen)≤R:=by rw [we]; omega
   rw [ay rfl,ay rfl,Bx (by omega),E2]
   unfold nY
   rw [E2,vO h hR2 hN (c:=⟨.disk_add_1 n b,n,b⟩) h1 trivial]
   exact⟨rfl,h.done (c:=⟨.disk_add_1 n b,n,b⟩) h1 trivial ⟨rfl,rfl⟩⟩
theorem xB(n:ByteArray):dZ d n=some (iG d n):=by
 unfold dZ iG
 rw [wU,E2]
 simp only [List.all_cons,List.all_nil,Bool.and_true]
 cases okn n <;> cases (mget n d.seen).isSome <;> rfl
theorem x1(n:ByteArray):i64b (iG d n)=true:=by
 unfold iG
 cases okn n <;> cases (mget n d.seen).isSome <;> decide
theorem wJ{n:ByteArray}(h:(iG d n != 0)=false):okn n=true∧(mget n d.seen).isSome=true:=by
 unfold iG at h
 cases h1:okn n <;> cases h2:(mget n d.seen).isSome <;> rw [h1,h2] at h <;> first | exact⟨rfl,rfl⟩ | exact absurd h (by decide)
theorem wY{n:ByteArray}(h:okn n=true)(h2:(mget n d.seen).isSome=true):iG d n=0:=by
 unfold iG; rw [h,h2]; rfl
theorem C2(h:DI R N d)(hR:R≤MX)(hN:N+1≤lim)(n:ByteArray)(k:Int):gU d n k=some (dCut d n k)∧DI R (N+1) (dCut d n k).1:=by
 have hs:=h.sz
 unfold gU dCut
 rw [xB,E2]
 cases ht:iG d n != 0 with
 | true=>rw [bq rfl,bq rfl,ao (x1 n)]; exact⟨rfl,h.mono (Nat.le_succ _)⟩
 | false=>
  rw [ay rfl,ay rfl]
  cases hc:decide (k<0)||decide (((((mget n d.seen).getD []).length:Nat):Int)<k) with
  | true=>exact⟨rfl,h.mono (Nat.le_succ _)⟩
  | false=>
   simp only [Bool.or_eq_false_iff,DR] at hc
   have h1:Fw.sz (ap (.disk_Disk_Cut_1 n k) d.seen)≤R:=Nat.le_trans (C8 (n:=n) (k:=k)) hs
   have h2:okc (.disk_Disk_Cut_1 n k) d.seen:=⟨(wJ ht).2,by omega,by omega⟩
   rw [ay rfl,ay rfl,vO h (rr hR) hN (c:=⟨.disk_Disk_Cut_1 n k,ByteArray.empty,[]⟩) h1 h2]
   exact⟨rfl,h.done (c:=⟨.disk_Disk_Cut_1 n k,ByteArray.empty,[]⟩) h1 h2 rfl⟩
theorem Dp(h:DI R N d)(hR:R≤MX)(hN:N+1≤lim)(n:ByteArray):dm d n=some (dRem d n)∧DI R (N+1) (dRem d n).1:=by
 have hs:=h.sz
 unfold dm dRem
 rw [xB,E2]
 cases ht:iG d n != 0 with
 | true=>rw [bq rfl,bq rfl,ao (x1 n)]; exact⟨rfl,h.mono (Nat.le_succ _)⟩
 | false=>
  have h1:Fw.sz (ap (.disk_Disk_Remove_1 n) d.seen)≤R:=Nat.le_trans (Cj (a:=n)) hs
  have h2:okc (.disk_Disk_Remove_1 n) d.seen:=(wJ ht).2
  rw [ay rfl,ay rfl,vO h (rr hR) hN (c:=⟨.disk_Disk_Remove_1 n,ByteArray.empty,[]⟩) h1 h2]
  exact⟨rfl,h.done (c:=⟨.disk_Disk_Remove_1 n,ByteArray.empty,[]⟩) h1 h2 rfl⟩
def x8(d:Dk):Dk:=⟨d.room,d.seen,d.seen,[]⟩
theorem yG:ga d=some (x8 d):=rfl
theorem DI.sync(h:DI R N d):DI R N (x8 d):=DI.clean h.rd h.nk h.sz h.ln
theorem e_Rd(h:DI R N d)(hR:R≤MX)(n:ByteArray):cE d n=some ((mget n d.seen).getD [],(mget n d.seen).isSome):=by
 unfold cE
 rw [Bx (Nat.le_trans vV (Nat.le_trans h.sz (rr hR)))]; rfl
theorem Bi(h:DI R N d)(hN:N≤lim):fP d=some (dI d.seen):=by
 unfold fP
 have:=h.ln
 rw [ao (by simp; omega)]
end
def rm(room:Int):Nat:=(min (max room 0) 1073741824).toNat
theorem BK(room:Int):rm room≤MX:=by unfold rm MX; omega
def d0(room:Int):Dk:=⟨(rm room:Int),[],[],[]⟩
theorem CT(room:Int):kd room=some (d0 room):=by
 unfold kd d0 rm
 rw [show (((min (max room 0) 1073741824).toNat:Nat):Int)=min (max room 0) 1073741824 by omega]
theorem di0(room:Int):DI (rm room) 0 (d0 room):=DI.clean rfl NK.nil (E7 _) (E7 _)
theorem CB(l:List UInt8):Rk (allB l).1:=by
 have key:∀(n:Nat) (l:List UInt8),l.length≤n→Rk (allB l).1:=by
  intro n
  induction n with
  | zero=>
   intro l h
   have:l = []:=List.eq_nil_of_length_eq_zero (by omega)
   subst this
   intro x hx; cases hx
  | succ n ih=>
   intro l h
   rw [r8]
   split
   ·intro x hx; cases hx
   ·split
    ·intro x hx; cases hx
    ·rename_i he
     have hk:=pj (l:=l) (by simpa using he)
     intro x hx
     rcases List.mem_cons.1 hx with e | hx
     ·rw [e]; exact hk.2.2
     ·exact ih (l.drop (d5 l).2.1) (by rw [Ej]; omega) x hx
 exact key l.length l (E6 _)
def v8:Nat→List (List UInt8)→Option Nat
 | g,[]=>some g
 | g,x::l=>if (numF 0 0 x).2.2≠0∨(numF 0 0 x).2.1≠x.length∨(numF 0 0 x).1<1∨999999<(numF 0 0 x).1 then none else v8 (numF 0 0 x).1 l
def yS(at_:Nat):Option Nat→Int×Int×Int
 | some g=>((g:Int),(at_:Int),0)
 | none=>(0,0,2)
theorem sk{at_:Nat}:∀(l:List (List UInt8)) (i g:Nat),Rk l→g≤999999→forI eF (λgen_33=>chk (i64b gen_33) (some (gen_33,(at_:Int),0))) i l (g:Int)=some (yS at_ (v8 g l))
 | [],i,g,_,hg=>by
  show chk (i64b (g:Int)) (some ((g:Int),(at_:Int),0))=_
  rw [ao (by unfold i64b; simp; omega)]; rfl
 | x::l,i,g,hr,hg=>by
  have hx:=hr x DT
  rw [forI]
  show Option.bind (gi x 0) (λz44=>bif ((((z44.2.2 != 0)||(z44.2.1 != ((x.length:Nat):Int)))||(decide (z44.1<1)))||(decide (999999<z44.1))) then some (0,0,2) else forI eF (λgen_33=>chk (i64b gen_33) (some (gen_33,(at_:Int),0))) (i+1) l z44.1)=_
  have e:=yE (b:=x) (at_:=0) (by rw [aK]; omega) (E7 _)
  rw [show ((0:Nat):Int)=0 from rfl,List.drop_zero] at e
  rw [e,E2]
  unfold v8 numR
  generalize numF 0 0 x=r
  obtain⟨n,k,er⟩:=r
  simp only [Nat.zero_add]
  by_cases hc:er≠0∨k≠x.length∨n<1∨999999<n
  ·rw [if_pos hc,bq ?_]; rfl
   simp only [Bool.or_eq_true,bne_iff_ne,DQ]
   rcases hc with h | h | h | h
   ·exact .inl (.inl (.inl h))
   ·by_cases he:er=0
    ·rw [if_pos he]; exact .inl (.inl (.inr (by omega)))
    ·exact .inl (.inl (.inl he))
   ·exact .inl (.inr (by omega))
   ·exact .inr (by omega)
  ·rw [if_neg hc]
   have h1:er=0:=Classical.byContradiction λh=>hc (.inl h)
   have h2:k=x.length:=Classical.byContradiction λh=>hc (.inr (.inl h))
   have h3:¬ n<1:=λh=>hc (.inr (.inr (.inl h)))
   have h4:¬ 999999<n:=λh=>hc (.inr (.inr (.inr h)))
   rw [if_pos h1,ay ?_]
   ·exact sk l (i+1) n (λy hy=>hr y (DU _ hy)) (by omega)
   ·simp only [Bool.or_eq_false_iff,bne_eq_false_iff_eq,DR]
    exact⟨⟨⟨h1,by omega⟩,by omega⟩,by omega⟩
section
variable {R N:Nat} {d:Dk}
def fb(d:Dk)(f:ByteArray):List UInt8:=(mget f d.seen).getD []
theorem yo(h:DI R N d)(hR:R≤MX)(f:ByteArray):(fb d f).length≤lim:=Nat.le_trans vV (Nat.le_trans h.sz (rr hR))
theorem e_holds(h:DI R N d)(hR:R≤MX){nm:ByteArray}(hn:Nm nm)(p2:Int):m_seglog_place_holds nm p2 d=some (yS (allB (fb d (mn nm))).2.1 (v8 0 (allB (fb d (mn nm))).1)):=by
 unfold m_seglog_place_holds
 have hs:=uj hn
 rw [Av,E2,ao (by rw [aK,DQ]; omega),e_Rd h hR,E2]
 obtain⟨e,he⟩:=BP (yo h hR (mn nm))
 unfold fb at he ⊢
 simp only
 rw [he,E2]
 exact sk _ 0 0 (CB _) (by omega)
def kU(d:Dk)(f:ByteArray)(n:Nat):Dk:=if n<(fb d f).length then (dCut d f (n:Int)).1 else d
theorem xv(h:DI R N d)(hR:R≤MX)(hN:N+1≤lim)(p1:ByteArray)(p2:Int)(f:ByteArray)(n:Nat):cc p1 p2 f (n:Int) d=some (kU d f n)∧DI R (N+1) (kU d f n):=by
 unfold cc kU
 rw [e_Rd h hR,E2]
 simp only
 obtain⟨a,b⟩:=C2 h hR hN f (n:Int)
 by_cases hc:n<(fb d f).length
 ·rw [if_pos hc,bq (by rw [DQ]; unfold fb at hc; omega),a]
  exact⟨rfl,b⟩
 ·rw [if_neg hc,ay (by rw [DR]; unfold fb at hc; omega)]
  exact⟨rfl,h.mono (Nat.le_succ _)⟩
theorem uO{f:ByteArray}{n:Nat}(h:(fb d f).length≤n):kU d f n=d:=by unfold kU; rw [if_neg (by omega)]
theorem rn{f:ByteArray}{n:Nat}(hf:okn f=true)(h:n<(fb d f).length):(kU d f n).seen=mput f ((fb d f).take n) d.seen∧(kU d f n).loose.length=d.loose.length+1:=by
 have hp:(mget f d.seen).isSome=true:=by
  unfold fb at h
  cases hm:mget f d.seen with
  | none=>rw [hm] at h; exact absurd h (Nat.not_lt_zero _)
  | some v=>rfl
 unfold kU
 rw [if_pos h]
 unfold dCut
 rw [wY hf hp,ay (by decide),ay (by unfold fb at h; simp; omega)]
 exact⟨rfl,by show (d.loose++[_]).length=_; simp⟩
def remL(d:Dk)(l:List ByteArray):Dk:=l.foldl (λd f=>(dRem d f).1) d
def gB(nm:ByteArray)(q:Int→Int→Bool)(es:Mp):List ByteArray:=(dI es).filter λf=>(pf nm f).any λx=>q x.1 x.2
theorem qC{R:Nat}(hR:R≤MX):∀(l:List ByteArray) (i N:Nat) (d:Dk),DI R N d→N+l.length≤lim→forI fc some i l d=some (remL d l)∧DI R (N+l.length) (remL d l)
 | [],_,_,d,h,_=>⟨rfl,h⟩
 | f::l,i,N,d,h,hN=>by
  simp only [DY] at hN
  obtain⟨a,b⟩:=Dp h hR (by omega) f
  rw [forI]
  show Option.bind (dm d f) (λz=>forI fc some (i+1) l z.1)=_∧_
  rw [a,E2]
  obtain⟨a2,b2⟩:=qC hR l (i+1) (N+1) _ b (by omega)
  exact⟨a2,by rw [DY,show N+(l.length+1)=N+1+l.length by omega]; exact b2⟩
theorem rp{nm:ByteArray}(h:nm.size≤2){pred:Int→Int→Option Bool}{q:Int→Int→Bool}(hq:∀a b,pred a b=some (q a b)):∀(l:List ByteArray) (i:Nat) (o:List ByteArray),(∀f∈l,f.size≤lim)→o.length+l.length≤lim →
  forI (bw (cF pred) nm) (λo13=>some o13) i l o=some (o++l.filter λf=>(pf nm f).any λx=>q x.1 x.2)
 | [],_,o,_,_=>by simp [forI]
 | f::l,i,o,hf,ho=>by
  simp only [DY] at ho
  rw [forI,vS h (hf f DT) hq _ _ _ (by omega)]
  rw [rp h hq l (i+1) _ (λg hg=>hf g (DU _ hg)) (by split <;> simp <;> omega)]
  by_cases hc:(pf nm f).any (λx=>q x.1 x.2)=true
  ·rw [if_pos hc,List.filter_cons_of_pos (by simpa using hc)]; simp
  ·rw [if_neg hc,List.filter_cons_of_neg (by simpa using hc)]; simp
def Ks(es:Mp):Prop := ∀k,(mget k es).isSome=true→okn k=true
theorem vd(h:DI R N d)(hR:R≤MX)(hN:N+N≤lim){nm:ByteArray}(hn:nm.size≤2)(hk:Ks d.seen){pred:Int→Int→Option Bool}{q:Int→Int→Bool}(hq:∀a b,pred a b=some (q a b))(g:Int):
  bH d nm g pred=some (remL d (gB nm q d.seen))∧DI R (N+N) (remL d (gB nm q d.seen)):=by
 have hln:=h.ln
 have hlen:(gB nm q d.seen).length≤N:=Nat.le_trans (List.length_filter_le _ _) (by rw [jT]; exact hln)
 have hkl:∀f∈dI d.seen,f.size≤lim:=λf hf=>by
  have:=hk f (mt.2 (tE.1 hf))
  unfold okn at this
  simp only [DW,DQ] at this
  rw [aK]; omega
 unfold bH fe
 rw [Bi h (by omega),E2]
 have hp:=rp hn hq (dI d.seen) 0 [] hkl (by rw [jT]; simp; omega)
 rw [Ee] at hp
 show Option.bind (forI (bw (cF pred) nm) (λo13=>some o13) 0 (dI d.seen) []) (λl=>forI fc some 0 l d)=_∧_
 rw [hp,E2]
 obtain⟨a,b⟩:=qC hR (gB nm q d.seen) 0 N d h (by omega)
 exact⟨a,b.mono (by omega)⟩
theorem Ak{f:ByteArray}(hf:okn f=true)(hp:(mget f d.seen).isSome=true):(dRem d f).1.seen=mdel f d.seen∧(dRem d f).1.loose.length=d.loose.length+1:=by
 unfold dRem
 rw [wY hf hp,ay (by decide)]
 exact⟨rfl,by show (d.loose++[_]).length=_; simp⟩
theorem tu:∀(l:List ByteArray) (d:Dk),NK d.seen→l.Nodup→(∀f∈l,okn f=true∧(mget f d.seen).isSome=true)→(∀k,mget k (remL d l).seen=if k∈l then none else mget k d.seen)∧(remL d l).loose.length=d.loose.length+l.length
 | [],d,_,_,_=>⟨λk=>by rw [if_neg (by simp)]; rfl,rfl⟩
 | f::l,d,hn,hd,hl=>by
  rw [List.nodup_cons] at hd
  obtain⟨h1,h2⟩:=hl f DT
  obtain⟨s1,s2⟩:=Ak h1 h2
  have hn2:NK (dRem d f).1.seen:=by rw [s1]; exact hn.del
  have hl2:∀g∈l,okn g=true∧(mget g (dRem d f).1.seen).isSome=true:=λg hg=>by
   obtain⟨a,b⟩:=hl g (DU _ hg)
   refine⟨a,?_⟩
   rw [s1,jV hn,if_neg (show ¬ g=f from λe=>hd.1 (e▸hg))]; exact b
  obtain⟨r1,r2⟩:=tu l (dRem d f).1 hn2 hd.2 hl2
  refine⟨λk=>?_,?_⟩
  ·show mget k (remL (dRem d f).1 l).seen=_
   rw [r1 k,s1,jV hn]
   by_cases hk:k∈l
   ·rw [if_pos hk,if_pos (DU _ hk)]
   ·rw [if_neg hk]
    by_cases hf:k=f
    ·rw [if_pos hf,if_pos (hf▸DT)]
    ·rw [if_neg hf,if_neg (by simp [hf,hk])]
  ·show (remL (dRem d f).1 l).loose.length=_
   rw [r2,s2,DY]; omega
theorem xN{nm:ByteArray}{q:Int→Int→Bool}{es:Mp}(hn:NK es):(gB nm q es).Nodup:=(Ax hn).filter _
theorem lM{nm:ByteArray}{q:Int→Int→Bool}{es:Mp}{k:ByteArray}:k∈gB nm q es↔(mget k es).isSome=true∧(pf nm k).any (λx=>q x.1 x.2)=true:=by
 unfold gB
 rw [List.mem_filter,tE,mt]
theorem B2{nm:ByteArray}{q:Int→Int→Bool}(h:DI R N d)(hk:Ks d.seen):(∀k,mget k (remL d (gB nm q d.seen)).seen=if (pf nm k).any (λx=>q x.1 x.2)=true then none else mget k d.seen) ∧
  (remL d (gB nm q d.seen)).loose.length=d.loose.length+(gB nm q d.seen).length:=by
 obtain⟨a,b⟩:=tu (gB nm q d.seen) d h.nk (xN h.nk) λf hf=>by
  have:=(lM.1 hf).1
  exact⟨hk f this,this⟩
 refine⟨λk=>?_,b⟩
 rw [a k]
 by_cases hc:(pf nm k).any (λx=>q x.1 x.2)=true
 ·rw [if_pos hc]
  split
  ·rfl
  ·rename_i hm
   cases hs:mget k d.seen with
   | none=>rfl
   | some v=>exact absurd (lM.2 ⟨by rw [hs]; rfl,hc⟩) hm
 ·rw [if_neg hc,if_neg (λhm=>hc (lM.1 hm).2)]
end
abbrev Bs:=List (List UInt8)
def tot(bs:Bs):Nat:=(bs.map List.length).sum
def eM(bs:Bs):List UInt8:=bs.getLastD []
theorem rg(a b:Bs):tot (a++b)=tot a+tot b:=by simp [tot]
theorem kw(a:List UInt8)(b:Bs):tot (a::b)=a.length+tot b:=by simp [tot]
theorem kl(a:Bs)(b:List UInt8):eM (a++[b])=b:=by simp [eM]
theorem xb(bs:Bs):(eM bs).length≤tot bs:=by
 rcases List.eq_nil_or_concat bs with h | ⟨l,b,h⟩
 ·rw [h]; exact E6 _
 ·rw [h,List.concat_eq_append,kl,rg,kw]; omega
def lg(nm:ByteArray)(g:Nat)(size:Int)(bs:Bs)(cnt:Nat):ai:=⟨nm,(g:Int),size,(bs.length:Int),((eM bs).length:Int),(cnt:Int),(tot bs:Int)⟩
def Has(nm:ByteArray)(g:Nat)(bs:Bs)(es:Mp):Prop:=bs.length≤999999∧∀k,1≤k→k≤999999→mget (fn nm g k) es=bs[k - 1]?
theorem wZ:∀(ks:List ByteArray) (es:Mp),NK es→ks.Nodup→(ks.map λk=>((mget k es).getD []).length).sum≤sz es
 | [],_,_,_=>E7 _
 | k::ks,es,hn,hd=>by
  rw [List.nodup_cons] at hd
  have ih:=wZ ks (mdel k es) hn.del hd.2
  have hs:=wC (x:=k) (es:=es)
  have:(ks.map λj=>((mget j (mdel k es)).getD []).length)=ks.map λj=>((mget j es).getD []).length:=by
   apply List.map_congr_left
   intro j hj
   rw [jV hn,if_neg (show ¬ j=k from λe=>hd.1 (e▸hj))]
  rw [this] at ih
  simp only [E0,List.sum_cons]
  omega
theorem Has.sz{nm:ByteArray}{g:Nat}{bs:Bs}{es:Mp}(h:Has nm g bs es)(hnm:Nm nm)(hn:NK es):tot bs≤Fw.sz es:=by
 have h1:=wZ ((List.range bs.length).map λj=>fn nm g (j+1)) es hn (by
  refine List.Pairwise.map _ (R:=λa b=>a≠b) (λa b hab e=>hab ?_) List.nodup_range
  have:=(rl hnm hnm e).2.2; omega)
 rw [Eg] at h1
 refine Nat.le_trans (Nat.le_of_eq ?_) h1
 unfold tot
 congr 1
 apply List.ext_getElem
 ·simp
 ·intro i h2 h3
  simp only [E8] at h2
  simp only [List.getElem_map,List.getElem_range,Function.comp]
  rw [h.2 (i+1) (by omega) (by have:=h.1; omega),Nat.add_sub_cancel,List.getElem?_eq_getElem h2]; rfl
def aX:Bs→Bs×Bs
 | []=>([],[])
 | b::t=>if (allB b).2.1=b.length then ((allB b).1++(aX t).1,b::(aX t).2) else ((allB b).1,[b.take (allB b).2.1])
theorem ve:∀bs:Bs,tot (aX bs).2≤tot bs∧(aX bs).1.length≤tot bs∧(aX bs).2.length≤bs.length
 | []=>⟨E6 _,E6 _,E6 _⟩
 | b::t=>by
  have ih:=ve t
  have ha:=xF b
  unfold aX
  split
  ·simp only [kw,DS,DY]; omega
  ·simp only [kw,DY,Ea,Ei]
   have:tot ([]:Bs)=0:=rfl
   omega
section
variable {R N:Nat} {d:Dk}
theorem wb{f:ByteArray}{n:Nat}(hf:okn f=true)(h:n<(fb d f).length)(k:ByteArray):mget k (kU d f n).seen=if k=f then some ((fb d f).take n) else mget k d.seen:=by
 rw [(rn hf h).1,kX]
theorem sv{nm:ByteArray}(hnm:Nm nm){g k:Nat}(hg:g≤999999)(hk:k≤999999):okn (fn nm g k)=true:=by
 have:=oR hnm hg hk
 unfold okn
 simp only [DW,DQ]; omega
theorem xK(h:DI R N d)(hR:R≤MX)(hN:N+1≤lim){nm:ByteArray}(hnm:Nm nm){g:Nat}(hg:g≤999999){size:Int}{bs:Bs}(hb:Has nm g bs d.seen):∀(t pre:Bs) (out:Bs) (F:Nat),bs=pre++t→out.length+tot t≤R→tot pre+tot t≤R →
  ∃d',loopN b5 (F+t.length+1) (out,true,(⟨nm,(g:Int),size,(pre.length:Int),((eM pre).length:Int),0,(tot pre:Int)⟩:ai),d)=some (lg nm g size (pre++(aX t).2) (out++(aX t).1).length,d',out++(aX t).1)∧DI R (N+1) d' ∧
   ((aX t).2=t∧d'=d∨0<(aX t).2.length∧(∀k,mget k d'.seen=if k=fn nm g (pre.length+(aX t).2.length) then some (eM (aX t).2) else mget k d.seen)∧d'.loose.length=d.loose.length+1∧(aX t).2≠t):=by
 intro t
 induction t with
 | nil=>
  intro pre out F hbs ho htot
  rw [Eb] at hbs
  have hl:=hb.1
  rw [hbs] at hl
  refine⟨d,?_,h.mono (Nat.le_succ _),.inl ⟨rfl,rfl⟩⟩
  rw [gO]
  generalize loopN b5 (F+([]:Bs).length)=f
  unfold b5 cM
  simp only [Bool.true_and]
  by_cases hlt:pre.length<999999
  ·have hm:=hb.2 (pre.length+1) (by omega) (by omega)
   rw [hbs,Nat.add_sub_cancel,List.getElem?_eq_none (E6 _)] at hm
   have hsz:=oR hnm hg (show pre.length+1≤999999 by omega)
   rw [bq (by rw [DQ]; omega),bO (by unfold I64; omega),show (pre.length:Int)+1=((pre.length+1:Nat):Int) by omega,wn hnm hg (by omega),E2,ao (by rw [aK,DQ]; omega),e_Rd h hR,E2,hm,bq (by rfl)]
   simp [aX,lg]
  ·rw [ay (by rw [DR]; omega)]
   simp [aX,lg]
 | cons b t ih=>
  intro pre out F hbs ho htot
  have hl:=hb.1
  rw [hbs,DS,DY] at hl
  have hm:=hb.2 (pre.length+1) (by omega) (by omega)
  rw [hbs,Nat.add_sub_cancel,List.getElem?_append_right (E6 _),Nat.sub_self] at hm
  have hm:mget (fn nm g (pre.length+1)) d.seen=some b:=hm
  have hfb:fb d (fn nm g (pre.length+1))=b:=by unfold fb; rw [hm]; rfl
  have hsz:=oR hnm hg (show pre.length+1≤999999 by omega)
  have hbl:b.length≤lim:=by have:=yo h hR (fn nm g (pre.length+1)); rwa [hfb] at this
  obtain⟨e,he⟩:=BP hbl
  have ha:=xF b
  rw [kw] at ho htot
  have hRv:R≤1073741824:=hR
  obtain⟨s1,s2⟩:=xv h hR hN nm (g:Int) (fn nm g (pre.length+1)) (allB b).2.1
  rw [show F+(b::t).length+1=(F+t.length+1)+1 by simp; omega,gO]
  generalize hf:loopN b5 (F+t.length+1)=f
  unfold b5
  simp only [Bool.true_and]
  rw [bq (by rw [DQ]; omega),bO (x:=(pre.length:Int)+1) (by unfold I64; omega),show (pre.length:Int)+1=((pre.length+1:Nat):Int) by omega,wn hnm hg (by omega),E2,ao (by rw [aK,DQ]; omega),e_Rd h hR,E2,hm]
  simp only [Option.isSome_some,Option.getD_some,Bool.not_true]
  rw [ay rfl,he,E2]
  simp only
  rw [s1,E2,ao (by rw [aK,DQ]; omega),bO (by unfold I64; omega)]
  unfold aX
  by_cases hw:(allB b).2.1=b.length
  ·rw [if_pos hw]
   have hd:kU d (fn nm g (pre.length+1)) (allB b).2.1=d:=uO (by rw [hfb]; omega)
   rw [hd,hw,show (((b.length:Nat):Int)==((b.length:Nat):Int))=true by simp, ← hf]
   obtain⟨d',i1,i2,i3⟩:=ih (pre++[b]) (out++(allB b).1) F (by rw [hbs]; simp) (by simp; omega) (by rw [rg,kw]; simp [tot] at htot ⊢; omega)
   refine⟨d',?_,i2,?_⟩
   ·have e1:(⟨nm,(g:Int),size,((pre.length+1:Nat):Int),((b.length:Nat):Int),0,(tot pre:Int)+((b.length:Nat):Int)⟩:ai)=⟨nm,(g:Int),size,((pre++[b]).length:Int),((eM (pre++[b])).length:Int),0,(tot (pre++[b]):Int)⟩:=by
     rw [kl,rg,kw]; simp [tot]
    rw [e1,i1]
    simp [DV]
   ·rcases i3 with ⟨a1,a2⟩ | ⟨a0,a1,a2⟩
    ·exact .inl ⟨by rw [a1],a2⟩
    ·refine .inr ⟨by simp,λk=>?_,a2.1,λe=>a2.2 (List.cons.inj e).2⟩
     rw [a1 k]
     have e2:(pre++[b]).length+(aX t).2.length=pre.length+(b::(aX t).2).length:=by simp; omega
     have e3:eM (b::(aX t).2)=eM (aX t).2:=by
      cases hq:(aX t).2 with
      | nil=>rw [hq] at a0; exact absurd a0 (Nat.lt_irrefl 0)
      | cons x l=>simp [eM]
     rw [e2,e3]
  ·rw [if_neg hw]
   have hlt:(allB b).2.1<(fb d (fn nm g (pre.length+1))).length:=by rw [hfb]; omega
   have hok:=sv hnm hg (show pre.length+1≤999999 by omega)
   refine⟨_,?_,s2,.inr ⟨by simp,λk=>?_,(rn hok hlt).2,λe=>?_⟩⟩
   ·rw [show ((((allB b).2.1:Nat):Int)==((b.length:Nat):Int))=false by rw [beq_eq_false_iff_ne]; omega, ← hf,gO]
    generalize loopN b5 (F+t.length)=f2
    unfold b5 cM
    simp only [Bool.false_and]
    rw [ay rfl]
    unfold lg
    rw [kl,rg,kw]
    simp [tot,Ei]
    omega
   ·rw [wb hok hlt k,hfb]
    rfl
   ·have:=congrArg List.length (List.cons.inj e).1
    rw [Ei] at this
    omega
theorem CI(h:DI R N d)(hR:R≤MX)(hN:N+1≤lim){nm:ByteArray}(hnm:Nm nm){g:Nat}(hg:g≤999999){size:Int}{bs:Bs}(hb:Has nm g bs d.seen):
  ∃d',fN (⟨nm,(g:Int),size,0,0,0,0⟩:ai) d=some (lg nm g size (aX bs).2 (aX bs).1.length,d',(aX bs).1)∧DI R (N+1) d' ∧
   ((aX bs).2=bs∧d'=d∨0<(aX bs).2.length∧(∀k,mget k d'.seen=if k=fn nm g (aX bs).2.length then some (eM (aX bs).2) else mget k d.seen)∧d'.loose.length=d.loose.length+1∧(aX bs).2≠bs):=by
 have h1:=hb.sz hnm h.nk
 have h2:=h.sz
 have h3:=hb.1
 obtain⟨F,hF⟩:∃F,FU=F+bs.length+1:=⟨FU - bs.length - 1,by unfold FU; omega⟩
 have:=xK h hR hN hnm hg (size:=size) hb bs [] [] F rfl (by simp; omega) (by show 0+tot bs≤R; omega)
 unfold fN
 rw [hF]
 simpa [eM,tot] using this
end
theorem uP:∀(bs:Bs) (i:Nat),i+1<(aX bs).2.length→(aX bs).2[i]? = bs[i]?
 | [],i,h=>by simp [aX] at h
 | b::t,i,h=>by
  unfold aX at h ⊢
  split
  ·rename_i hc
   rw [if_pos hc] at h
   cases i with
   | zero=>rfl
   | succ i=>
    simp only [DY] at h
    simp only [List.getElem?_cons_succ]
    exact uP t i (by omega)
  ·rename_i hc
   rw [if_neg hc] at h
   simp at h
theorem rZ{bs:Bs}(h:0<bs.length):bs[bs.length - 1]? = some (eM bs):=by
 rcases List.eq_nil_or_concat bs with e | ⟨l,b,e⟩
 ·rw [e] at h; exact absurd h (Nat.lt_irrefl 0)
 ·rw [e,List.concat_eq_append,kl]; simp
def Own1(nm:ByteArray)(g:Nat)(es:Mp):Prop := ∀k,(mget k es).isSome=true→pf nm k=none∨∃j,1≤j∧j≤999999∧k=fn nm g j
theorem oe{nm:ByteArray}{q:Int→Int→Bool}{es:Mp}(h:∀k,(mget k es).isSome=true→(pf nm k).any (λx=>q x.1 x.2)=false):gB nm q es = []:=by
 apply List.eq_nil_iff_forall_not_mem.2
 intro k hk
 obtain⟨a,b⟩:=lM.1 hk
 rw [h k a] at b; cases b
section
variable {R N:Nat} {d:Dk}
theorem Ch(h:DI R N d)(hR:R≤MX)(hN:4*N+10≤lim){nm:ByteArray}(hnm:Nm nm)(hk:Ks d.seen)(size:Int){gl:Bs}{e0:Int}{g:Nat}{bs:Bs}(hg:g≤999999)
  (hm:allB (fb d (mn nm))=(gl,(fb d (mn nm)).length,e0)) (hh:v8 0 gl=some g) (hb:Has nm g bs d.seen) (hx:Own1 nm g d.seen) :
  ∃d',gG d nm size=some (d',some (lg nm g (max size 16) (aX bs).2 (aX bs).1.length),(aX bs).1,0)∧DI R (4*N+10) d'∧Has nm g (aX bs).2 d'.seen ∧
   (∀k,(∀j,1≤j→j≤999999→k≠fn nm g j)→mget k d'.seen=mget k d.seen)∧(∀k,(mget k d'.seen).isSome=true→(mget k d.seen).isSome=true)∧(d'=d∨d'.loose = [])∧((aX bs).2=bs→d'=d):=by
 have hlo:=hnm.lo
 have hhi:=hnm.hi
 have hms:=uj hnm
 have hsl:=(ve bs).2.2
 have hbl:=hb.1
 unfold gG
 have c1:(decide (((nm.size:Nat):Int)<1)||decide (2<((nm.size:Nat):Int)))=false:=by simp; omega
 rw [c1,show (!false)=true from rfl,yq hnm]
 unfold bM
 rw [bq rfl,E2,show (false||false)=false from rfl,ay rfl,e_holds h hR hnm 0,E2,hm,hh]
 unfold yS fM
 simp only
 rw [ay (by decide),E2,Av,E2,ao (by rw [aK,DQ]; omega)]
 rw [(xv h hR (by omega) nm (g:Int) (mn nm) (fb d (mn nm)).length).1,E2,uO (E6 _)]
 have q1:gB nm (λx _=>x != (g:Int)) d.seen = []:=oe λk hks=>by
  rcases hx k hks with e | ⟨j,j1,j2,e⟩
  ·rw [e]; rfl
  ·rw [e,ug ⟨hg,j1,j2⟩]; simp
 have r1:=(vd h hR (by omega) (nm:=nm) hhi hk (pred:=λx y=>fB x y (g:Int)) (q:=λx _=>x != (g:Int)) (λa b=>rfl) (g:Int)).1
 rw [q1] at r1
 have r1:bH d nm (g:Int) (λx y=>fB x y (g:Int))=some d:=r1
 rw [r1,E2]
 obtain⟨d1,s1,s2,s3⟩:=CI h hR (by omega) hnm hg (size:=max size 16) hb
 rw [s1,E2]
 simp only
 have hk1:Ks d1.seen∧(∀k,(mget k d1.seen).isSome=true→(mget k d.seen).isSome=true)∧(∀k,(∀j,1≤j→j≤999999→k≠fn nm g j)→mget k d1.seen=mget k d.seen):=by
  rcases s3 with ⟨a,b⟩ | ⟨a0,a,b,hne⟩
  ·rw [b]; exact⟨hk,λk hks=>hks,λk _=>rfl⟩
  ·have hin:(mget (fn nm g (aX bs).2.length) d.seen).isSome=true:=by
    rw [hb.2 _ (by omega) (by omega),List.getElem?_eq_getElem (by omega)]; rfl
   have hsub:∀k,(mget k d1.seen).isSome=true→(mget k d.seen).isSome=true:=λk hks=>by
    rw [a k] at hks
    split at hks
    ·rename_i e; rw [e]; exact hin
    ·exact hks
   exact⟨λk hks=>hk k (hsub k hks),hsub,λk hj=>by rw [a k,if_neg (hj _ (by omega) (by omega))]⟩
 have r2:=vd s2 hR (by omega) (nm:=nm) hhi hk1.1 (pred:=λx y=>gS x y (lg nm g (max size 16) (aX bs).2 (aX bs).1.length)) (q:=λ_ n=>decide ((((aX bs).2.length:Nat):Int)<n)) (λa b=>rfl) (g:Int)
 rw [r2.1,E2,E2]
 have hrem:=B2 (nm:=nm) (q:=λ_ n=>decide ((((aX bs).2.length:Nat):Int)<n)) s2 hk1.1
 have dd:=r2.2
 generalize hD:remL d1 (gB nm (λ_ n=>decide ((((aX bs).2.length:Nat):Int)<n)) d1.seen)=D at hrem dd ⊢
 have f1:Has nm g (aX bs).2 D.seen:=by
  refine⟨by omega,λk k1 k2=>?_⟩
  rw [hrem.1,ug ⟨hg,k1,k2⟩]
  simp only [Option.any_some,DQ]
  by_cases hc:(((aX bs).2.length:Nat):Int)<(k:Int)
  ·rw [if_pos hc,List.getElem?_eq_none (by omega)]
  ·rw [if_neg hc]
   rcases s3 with ⟨a,b⟩ | ⟨a0,a,b,hne⟩
   ·rw [b,hb.2 k k1 k2,a]
   ·rw [a]
    by_cases hl:k=(aX bs).2.length
    ·rw [if_pos (by rw [hl]),hl,rZ a0]
    ·rw [if_neg (λe=>hl (rl hnm hnm e).2.2),hb.2 k k1 k2,uP bs (k - 1) (by omega)]
 have f2:∀k,(∀j,1≤j→j≤999999→k≠fn nm g j)→mget k D.seen=mget k d.seen:=λk hj=>by
  rw [hrem.1,hk1.2.2 k hj]
  split
  ·rename_i hc
   cases hs:mget k d.seen with
   | none=>rfl
   | some v=>
    rcases hx k (by rw [hs]; rfl) with e | ⟨j,j1,j2,e⟩
    ·rw [e] at hc; cases hc
    ·exact absurd e (hj j j1 j2)
  ·rfl
 have f3:∀k,(mget k D.seen).isSome=true→(mget k d.seen).isSome=true:=λk hks=>by
  rw [hrem.1] at hks
  split at hks
  ·cases hks
  ·exact hk1.2.1 k hks
 have f4:D=d∨D.loose.length≠d.loose.length:=by
  rcases s3 with ⟨a,b⟩ | ⟨a0,a,b,hne⟩
  ·left
   have q2:gB nm (λ_ n=>decide ((((aX bs).2.length:Nat):Int)<n)) d1.seen = []:=oe λk hks=>by
    rw [b] at hks
    rcases hx k hks with e | ⟨j,j1,j2,e⟩
    ·rw [e]; rfl
    ·rw [e] at hks ⊢
     rw [hb.2 j j1 j2] at hks
     rw [ug ⟨hg,j1,j2⟩,a]
     simp only [Option.any_some,DR]
     intro hlt
     rw [List.getElem?_eq_none (by omega)] at hks; cases hks
   rw [← hD,q2,b]; rfl
  ·right; omega
 have f5:(aX bs).2=bs→D=d:=λhw=>by
  rcases s3 with ⟨a,b⟩ | ⟨a0,a,b,hne⟩
  ·rcases f4 with e | e
   ·exact e
   ·exfalso
    apply e
    have q2:gB nm (λ_ n=>decide ((((aX bs).2.length:Nat):Int)<n)) d1.seen = []:=oe λk hks=>by
     rw [b] at hks
     rcases hx k hks with e | ⟨j,j1,j2,e⟩
     ·rw [e]; rfl
     ·rw [e] at hks ⊢
      rw [hb.2 j j1 j2] at hks
      rw [ug ⟨hg,j1,j2⟩,a]
      simp only [Option.any_some,DR]
      intro hlt
      rw [List.getElem?_eq_none (by omega)] at hks; cases hks
    rw [← hD,q2,b]; rfl
  ·exact absurd hw hne
 by_cases hz:D.loose.length=d.loose.length
 ·have e:D=d:=f4.elim id (λhc=>absurd hz hc)
  rw [ay (by rw [bne_eq_false_iff_eq]; omega)]
  unfold eL
  exact⟨D,rfl,dd.mono (by omega),f1,f2,f3,.inl e,f5⟩
 ·rw [bq (by rw [bne_iff_ne]; omega),yG,E2]
  unfold eL
  exact⟨x8 D,rfl,(DI.sync dd).mono (by omega),f1,f2,f3,.inr rfl,λhw=>absurd (by rw [f5 hw]) hz⟩
end
def fW(size:Int)(bs:Bs)(f:List UInt8):Bool:=decide (bs.length=0)||(decide (0<(eM bs).length)&&decide (size - ((eM bs).length:Int)<(f.length:Int)))
def addP(size:Int)(bs:Bs)(f:List UInt8):Bs:=bif fW size bs f then bs++[f] else bs.dropLast++[eM bs++f]
def pnum(size:Int)(bs:Bs)(f:List UInt8):Nat:=bif fW size bs f then bs.length+1 else bs.length
theorem Bl{bs:Bs}(h:0<bs.length):bs=bs.dropLast++[eM bs]:=by
 rcases List.eq_nil_or_concat bs with e | ⟨l,b,e⟩
 ·rw [e] at h; exact absurd h (Nat.lt_irrefl 0)
 ·rw [e,List.concat_eq_append,kl]; simp
theorem ny{size:Int}{bs:Bs}{f:List UInt8}(h:fW size bs f=false):0<bs.length:=by
 unfold fW at h
 simp only [Bool.or_eq_false_iff,DR] at h
 omega
theorem yX(size:Int)(bs:Bs)(f:List UInt8):tot (addP size bs f)=tot bs+f.length:=by
 unfold addP
 cases h:fW size bs f with
 | true=>simp [tot]
 | false=>
  conv=>rhs; rw [Bl (ny h)]
  simp [tot]; omega
theorem n2(size:Int)(bs:Bs)(f:List UInt8):(addP size bs f).length=pnum size bs f:=by
 unfold addP pnum
 cases h:fW size bs f with
 | true=>simp
 | false=>have:=ny h; simp; omega
theorem tc(size:Int)(bs:Bs)(f:List UInt8):eM (addP size bs f)=(bif fW size bs f then [] else eM bs)++f:=by
 unfold addP
 cases h:fW size bs f with
 | true=>simp [eM]
 | false=>simp [eM]
theorem si(size:Int)(bs:Bs)(f:List UInt8):1≤pnum size bs f:=by
 unfold pnum
 cases h:fW size bs f with
 | true=>simp
 | false=>have:=ny h; simp only [cond_false]; omega
theorem wL(size:Int)(bs:Bs)(f:List UInt8):pnum size bs f≤bs.length+1:=by
 unfold pnum
 cases fW size bs f <;> simp
theorem Bt{nm:ByteArray}{g:Nat}{size:Int}{bs:Bs}{es:Mp}{f:List UInt8}(hnm:Nm nm)(hb:Has nm g bs es)(hp:pnum size bs f≤999999):
  (mget (fn nm g (pnum size bs f)) es).getD []=(bif fW size bs f then [] else eM bs)∧Has nm g (addP size bs f) (mput (fn nm g (pnum size bs f)) ((mget (fn nm g (pnum size bs f)) es).getD []++f) es):=by
 have h1:=si size bs f
 have hold:(mget (fn nm g (pnum size bs f)) es).getD []=(bif fW size bs f then [] else eM bs):=by
  rw [hb.2 _ h1 hp]
  unfold pnum
  cases h:fW size bs f with
  | true=>simp
  | false=>simp only [cond_false]; rw [rZ (ny h)]; rfl
 refine⟨hold,by rw [n2]; exact hp,λk k1 k2=>?_⟩
 rw [kX,hold]
 by_cases hk:k=pnum size bs f
 ·have hl:=rZ (bs:=addP size bs f) (by rw [n2]; omega)
  rw [n2] at hl
  rw [if_pos (by rw [hk]),hk,hl,tc]
 ·rw [if_neg (λe=>hk (rl hnm hnm e).2.2),hb.2 k k1 k2]
  unfold addP
  unfold pnum at hk
  cases h:fW size bs f with
  | true=>
   rw [h] at hk
   simp only [cond_true] at hk ⊢
   rcases Nat.lt_or_ge (k - 1) bs.length with hlt | hge
   ·rw [List.getElem?_append_left hlt]
   ·rw [List.getElem?_eq_none hge,List.getElem?_eq_none (by simp; omega)]
  | false=>
   have hpos:=ny h
   rw [h] at hk
   simp only [cond_false] at hk ⊢
   rcases Nat.lt_or_ge (k - 1) (bs.length - 1) with hlt | hge
   ·rw [List.getElem?_append_left (by simpa using hlt),List.getElem?_dropLast,if_pos hlt]
   ·rw [List.getElem?_eq_none (by omega),List.getElem?_eq_none (by simp; omega)]
section
variable {R N:Nat} {d:Dk}
def dAdd(d:Dk)(nm:ByteArray)(g:Nat)(size:Int)(bs:Bs)(f:List UInt8):Dk:=tb d ⟨.disk_add_1 (fn nm g (pnum size bs f)) f,fn nm g (pnum size bs f),f⟩
inductive AppR (R:Nat) (d:Dk) (nm:ByteArray) (g:Nat) (size:Int) (bs:Bs) (cnt:Nat) (x:List UInt8):ai×Dk×Int→Prop
 | long:1048576<x.length→AppR R d nm g size bs cnt x (lg nm g size bs cnt,d,3)
 | many:x.length≤1048576→999999<pnum size bs (fr x)→AppR R d nm g size bs cnt x (lg nm g size bs cnt,d,72)
 | full:x.length≤1048576→pnum size bs (fr x)≤999999→R<Fw.sz d.seen+(fr x).length→AppR R d nm g size bs cnt x (lg nm g size bs cnt,d,72)
 | ok:x.length≤1048576→pnum size bs (fr x)≤999999→Fw.sz d.seen+(fr x).length≤R→AppR R d nm g size bs cnt x (lg nm g size (addP size bs (fr x)) (cnt+1),dAdd d nm g size bs (fr x),0)
theorem Aw(d:Dk)(nm:ByteArray)(g:Nat)(size:Int)(bs:Bs)(f:List UInt8):(dAdd d nm g size bs f).seen=mput (fn nm g (pnum size bs f)) ((mget (fn nm g (pnum size bs f)) d.seen).getD []++f) d.seen:=rfl
theorem Cn(h:DI R N d)(hR:R≤MX)(hN:N+1≤lim){nm:ByteArray}(hnm:Nm nm){g:Nat}(hg:g≤999999){size:Int}(hs0:0≤size)(hs1:size≤9223372036854775807){bs:Bs}(hb:Has nm g bs d.seen){cnt:Nat}(hc:cnt≤4611686018427387904)(x:List UInt8):
  ∃r,eq (lg nm g size bs cnt) x d=some r∧AppR R d nm g size bs cnt x r∧DI R (N+1) r.2.1:=by
 have h1:=hb.sz hnm h.nk
 have h2:=h.sz
 have h3:=xb bs
 have hRv:R≤1073741824:=hR
 have hbl:=hb.1
 unfold eq
 by_cases hl:1048576<x.length
 ·rw [vY hl,E2]
  exact⟨_,rfl,.long hl,h.mono (Nat.le_succ _)⟩
 ·have hx:x.length≤1048576:=by omega
  have hfl:=uq x
  have hp3:=pn3 hx
  rw [Dq hx,E2]
  simp only
  rw [ay (by decide)]
  have hfr:(((lg nm g size bs cnt).last==0)||((decide (0<(lg nm g size bs cnt).tail))&&(decide ((w64 ((lg nm g size bs cnt).size - (lg nm g size bs cnt).tail))<(((fr x).length:Nat):Int)))))=fW size bs (fr x):=by
   unfold lg fW
   simp only
   rw [bO (by unfold I64; omega),Bool.eq_iff_iff]
   simp only [Bool.or_eq_true,DW,beq_iff_eq,DQ]
   omega
  rw [hfr]
  have key:∀(p:Nat) (t:Int),p=pnum size bs (fr x)→t=(((bif fW size bs (fr x) then [] else eM bs).length:Nat):Int)→∃r,cd (lg nm g size bs cnt) d (fr x,0) (p:Int) t=some r∧AppR R d nm g size bs cnt x r∧DI R (N+1) r.2.1:=by
   intro p t hp ht
   unfold cd
   by_cases hm:999999<p
   ·rw [bq (by rw [DQ]; omega)]
    exact⟨_,rfl,.many hx (by omega),h.mono (Nat.le_succ _)⟩
   ·have hsz:=oR hnm hg (show p≤999999 by omega)
    rw [ay (by rw [DR]; omega)]
    show ∃r,Option.bind (cn nm (g:Int) (g:Int) (p:Int)) _=some r∧_
    rw [wn hnm hg (by omega),E2,ao (by rw [aK,DQ]; omega)]
    obtain⟨a1,a2⟩:=Ds h hR hN (fn nm g p) (fr x)
    rw [a1,E2]
    have hok:=sv hnm hg (show p≤999999 by omega)
    unfold dApp at a2 ⊢
    rw [hok] at a2 ⊢
    rw [show (!true)=false from rfl,ay rfl] at a2 ⊢
    by_cases hroom:R<Fw.sz d.seen+(fr x).length
    ·rw [bq (by rw [DQ,h.rd]; omega)]
     exact⟨_,rfl,.full hx (by omega) hroom,h.mono (Nat.le_succ _)⟩
    ·have hq:decide (d.room - (Fw.sz d.seen:Int)<((fr x).length:Int))=false:=by rw [DR,h.rd]; omega
     rw [hq,ay rfl] at a2 ⊢
     unfold fl
     simp only
     rw [ay (by decide)]
     have el:(⟨(lg nm g size bs cnt).place_name,(lg nm g size bs cnt).place_gen,(lg nm g size bs cnt).size,(p:Int),w64 (t+(((fr x).length:Nat):Int)),w64 ((lg nm g size bs cnt).count+1),w64 ((lg nm g size bs cnt).bytes+(((fr x).length:Nat):Int))⟩:ai)=lg nm g size (addP size bs (fr x)) (cnt+1):=by
      have ht2:t+(((fr x).length:Nat):Int)=(((eM (addP size bs (fr x))).length:Nat):Int):=by rw [tc,ht]; simp
      have hlt:=xb (addP size bs (fr x))
      have htt:=yX size bs (fr x)
      unfold lg
      simp only
      rw [n2,ht2,htt,bO (by unfold I64; omega),bO (by unfold I64; omega),bO (by unfold I64; omega),hp]
      rfl
     rw [el]
     subst hp
     exact⟨_,rfl,.ok hx (by omega) (by omega),a2⟩
  cases hq:fW size bs (fr x) with
  | true=>
   rw [bq rfl]
   have e1:w64 ((lg nm g size bs cnt).last+1)=((bs.length+1:Nat):Int):=by
    unfold lg; simp only; rw [bO (by unfold I64; omega)]; rfl
   rw [e1]
   exact key _ _ (by unfold pnum; rw [hq]; rfl) (by rw [hq]; rfl)
  | false=>
   rw [ay rfl]
   exact key bs.length _ (by unfold pnum; rw [hq]; rfl) (by rw [hq]; rfl)
theorem AppR.has{nm:ByteArray}{g:Nat}{size:Int}{bs:Bs}(hnm:Nm nm)(hb:Has nm g bs d.seen){f:List UInt8}(hp:pnum size bs f≤999999):Has nm g (addP size bs f) (dAdd d nm g size bs f).seen:=(Bt hnm hb hp).2
theorem tH{nm:ByteArray}{g:Nat}{size:Int}{bs:Bs}{f:List UInt8}{k:ByteArray}(hk:k≠fn nm g (pnum size bs f)):mget k (dAdd d nm g size bs f).seen=mget k d.seen:=by
 rw [Aw,kX,if_neg hk]
end
theorem ez{α S R:Type}[Inhabited α]{body:(S→Option R)→Nat→α→S→Option R}{K:S→Option R}{P:R→Prop}{l:List α}(I:Nat→S→Prop)(hend:∀s,I l.length s→∃r,K s=some r∧P r)
  (hstep:∀f i s,i<l.length→I i s→(∀s',I (i+1) s'→∃r,f s'=some r∧P r)→∃r,body f i (gt l i) s=some r∧P r) {s:S} (h0:I 0 s):∃r,forI body K 0 l s=some r∧P r:=by
 have key:∀m i s,l.length - i=m→i≤l.length→I i s→∃r,forI body K i (l.drop i) s=some r∧P r:=by
  intro m
  induction m with
  | zero=>
   intro i s hm hi hI
   have:i=l.length:=by omega
   subst this
   rw [E1 (E6 _)]
   exact hend s hI
  | succ m ih=>
   intro i s hm hi hI
   rw [bo (by omega)]
   exact hstep _ i s (by omega) hI λs' h'=>ih (i+1) s' (by omega) (by omega) h'
 exact key _ 0 s rfl (E7 _) h0
def addR(size:Int)(rs:List Bs)(x:List UInt8):List Bs:=bif fW size (rs.map frs) (fr x) then rs++[[x]] else rs.dropLast++[rs.getLastD []++[x]]
def lo(size:Int)(l:Bs):List Bs:=l.foldl (addR size) []
def bsOf(size:Int)(l:Bs):Bs:=(lo size l).map frs
theorem yY(rs:List Bs):eM (rs.map frs)=frs (rs.getLastD []):=by
 rcases List.eq_nil_or_concat rs with e | ⟨l,b,e⟩
 ·rw [e]; rfl
 ·rw [e,List.concat_eq_append]; simp [eM]
theorem zi(size:Int)(rs:List Bs)(x:List UInt8):(addR size rs x).map frs=addP size (rs.map frs) (fr x):=by
 unfold addR addP
 cases h:fW size (rs.map frs) (fr x) with
 | true=>simp [frs]
 | false=>
  simp only [cond_false]
  rw [E9,yY,List.map_dropLast]
  simp [B4,frs]
theorem yb(size:Int)(rs:List Bs)(x:List UInt8):(addR size rs x).flatten=rs.flatten++[x]:=by
 unfold addR
 cases h:fW size (rs.map frs) (fr x) with
 | true=>simp
 | false=>
  have hp:=ny h
  rw [E8] at hp
  simp only [cond_false]
  rcases List.eq_nil_or_concat rs with e | ⟨l,b,e⟩
  ·rw [e] at hp; exact absurd hp (Nat.lt_irrefl 0)
  ·rw [e,List.concat_eq_append]; simp
theorem wS(size:Int)(l:Bs)(x:List UInt8):lo size (l++[x])=addR size (lo size l) x:=by unfold lo; rw [List.foldl_append]; rfl
theorem wK(size:Int)(l:Bs):(lo size l).flatten=l:=by
 have key:∀(n:Nat) (l:Bs),l.length=n→(lo size l).flatten=l:=by
  intro n
  induction n with
  | zero=>intro l h; rw [List.eq_nil_of_length_eq_zero h]; rfl
  | succ n ih=>
   intro l h
   rcases List.eq_nil_or_concat l with e | ⟨m,b,e⟩
   ·rw [e] at h; cases h
   ·rw [List.concat_eq_append] at e
    rw [e,wS,yb,ih m (by rw [e] at h; simpa using h)]
 exact key _ l rfl
theorem q8(size:Int)(l:Bs)(x:List UInt8):bsOf size (l++[x])=addP size (bsOf size l) (fr x):=by
 unfold bsOf
 rw [wS,zi]
theorem rF:∀{rs:List Bs} (ex:Bs),(∀l∈rs,Rk l)→aX (rs.map frs++ex)=(rs.flatten++(aX ex).1,rs.map frs++(aX ex).2)
 | [],ex,_=>rfl
 | l::rs,ex,h=>by
  rw [E0,List.cons_append,aX,yF (h l DT),if_pos rfl,rF ex λm hm=>h m (DU _ hm)]
  simp
theorem CV{size:Int}{l:Bs}(h:Rk l):∀m∈lo size l,Rk m:=λm hm x hx=>h x (by
 have:=wK size l
 rw [← this]; exact List.mem_flatten.2 ⟨m,hm,hx⟩)
theorem yh(size:Int){l:Bs}(h:Rk l):aX (bsOf size l)=(l,bsOf size l):=by
 have:=rF (rs:=lo size l) [] (CV h)
 rw [Eb] at this
 unfold bsOf
 rw [this,wK]
 simp [aX]
section
variable {R N:Nat} {d:Dk}
structure Mid (R M:Nat) (d:Dk) (nm:ByteArray) (g:Nat) (bs:Bs) (e:Dk):Prop where
 di:DI R M e
 has:Has nm g bs e.seen
 same:∀k,(∀j,1≤j→j≤999999→k≠fn nm g j)→mget k e.seen=mget k d.seen
theorem Mid.ks{M:Nat}{nm:ByteArray}{g:Nat}{bs:Bs}{e:Dk}(h:Mid R M d nm g bs e)(hnm:Nm nm)(hg:g≤999999)(hk:Ks d.seen):Ks e.seen:=λk hks=>by
 by_cases hc:∀j,1≤j→j≤999999→k≠fn nm g j
 ·rw [h.same k hc] at hks; exact hk k hks
 ·obtain⟨j,hc⟩:=Classical.not_forall.1 hc
  obtain⟨j1,hc⟩:=Classical.not_imp.1 hc
  obtain⟨j2,hc⟩:=Classical.not_imp.1 hc
  rw [Classical.not_not.1 hc]; exact sv hnm hg j2
theorem zE(size:Int)(l:Bs):(bsOf size l).length≤l.length:=by
 have key:∀(n:Nat) (l:Bs),l.length=n→(bsOf size l).length≤l.length:=by
  intro n
  induction n with
  | zero=>intro l h; rw [List.eq_nil_of_length_eq_zero h]; exact E6 _
  | succ n ih=>
   intro l h
   rcases List.eq_nil_or_concat l with e | ⟨m,b,e⟩
   ·rw [e] at h; cases h
   ·rw [List.concat_eq_append] at e
    have hm:m.length=n:=by rw [e] at h; simpa using h
    have:=ih m hm
    have h2:=wL size (bsOf size m) (fr b)
    rw [e,q8,n2,DS]
    simp; omega
 exact key _ l rfl
theorem Cf{d:Dk}{nm:ByteArray}{g:Nat}{size:Int}{bs:Bs}{f:List UInt8}:Fw.sz (dAdd d nm g size bs f).seen=Fw.sz d.seen+f.length:=we
end
def SpOk(x:Span):Prop:=1≤x.s∧x.s≤16∧1≤x.f∧x.f≤x.t∧x.t≤4611686018427387904
structure VeOk (v:Ver):Prop where
 s:1≤v.dot.s∧v.dot.s≤16
 n:1≤v.dot.n∧v.dot.n≤4611686018427387904
 pl:v.past.length≤1024
 past:∀x∈v.past,SpOk x
 val:v.val.size≤256
 gone:v.gone=true→v.val=ByteArray.empty
structure ReOk (r:Rec):Prop where
 key:1≤r.key.size∧r.key.size≤32
 vl:r.vers.length≤512
 vers:∀v∈r.vers,VeOk v
theorem yL{α:Type}[Inhabited α]{l:List α}{p:α→Prop}(h:∀j,j<l.length→p (gt l j)):∀x∈l,p x:=λx hx=>by
 obtain⟨j,hj,rfl⟩:=List.getElem_of_mem hx
 have:=h j hj
 rwa [bA hj] at this
theorem Bu(l:List Span):∃b,fj l=some b∧(b=true→l.length≤1024∧∀x∈l,SpOk x):=by
 unfold fj
 refine ez (λi _ => ∀j,j<i→SpOk (gt l j)) (λs hI=>⟨_,rfl,λhb=>⟨by have:=DP hb; omega,yL hI⟩⟩) (λf i s hi hI hf=>?_) (λj hj=>absurd hj (Nat.not_lt_zero _))
 ·unfold gQ
  cases hc:(((((((decide ((gt l i).s<1))||(decide (16<(gt l i).s)))||(decide ((gt l i).f<1)))||(decide ((gt l i).t<(gt l i).f)))||(decide (4611686018427387904<(gt l i).t)))||(decide ((gt l i).s<s.s)))||(((gt l i).s==s.s)&&(decide ((gt l i).f≤(w64 (s.t+1)))))) with
  | true=>exact⟨false,rfl,λh=>by cases h⟩
  | false=>
   refine hf _ λj hj=>?_
   rcases Nat.lt_or_ge j i with h | h
   ·exact hI j h
   ·obtain rfl:j=i:=by omega
    simp only [Bool.or_eq_false_iff,DR] at hc
    obtain⟨⟨⟨⟨⟨⟨h1,h2⟩,h3⟩,h4⟩,h5⟩,h6⟩,h7⟩:=hc
    clear h6 h7
    unfold SpOk
    omega
theorem D2(l:List Span)(s:Int):∃n,iX l s=some n:=by
 unfold iX
 obtain⟨r,h,_⟩:=ez (body:=gK s) (K:=λt=>some t) (P:=λ_=>True) (l:=l) (λ_ _=>True) (λs _=>⟨_,rfl,trivial⟩) (λf i t hi _ hf=>by
  unfold gK gC
  cases (gt l i).s==s <;> exact hf _ trivial) (s:=0) trivial
 exact⟨r,h⟩
theorem uZ(v:Ver):∃b,dR v=some b∧(b=true→VeOk v):=by
 unfold dR
 obtain⟨a,a1,a2⟩:=Bu [⟨v.dot.s,v.dot.n,v.dot.n⟩]
 obtain⟨b,b1,b2⟩:=Bu v.past
 obtain⟨n,n1⟩:=D2 v.past v.dot.s
 rw [a1,E2,b1,bX,E2,n1,bX,E2]
 refine⟨_,rfl,λh=>?_⟩
 simp only [DW,DQ,Bool.or_eq_true,Bool.not_eq_true',beq_iff_eq] at h
 obtain⟨⟨⟨⟨h1,h2⟩,h3⟩,h4⟩,h5⟩:=h
 rw [h1] at h2
 have ha:=(a2 h1).2 _ DT
 unfold SpOk at ha
 simp only at ha
 have hb:=b2 h2
 refine⟨⟨ha.1,ha.2.1⟩,⟨ha.2.2.1,ha.2.2.2.2⟩,hb.1,hb.2,by omega,λhg=>?_⟩
 rcases h5 with h5 | h5
 ·rw [hg] at h5; cases h5
 ·exact h5
theorem y8(d:Dot)(l:List Ver):∃b,dc d l=some b:=by
 unfold dc
 obtain⟨r,h,_⟩:=ez (body:=gg d) (K:=λ_=>some false) (P:=λ_=>True) (l:=l) (λ_ _=>True) (λs _=>⟨_,rfl,trivial⟩) (λf i t hi _ hf=>by
  unfold gg kr
  obtain⟨z,h,_⟩:=ez (body:=jd d) (K:=λ_=>some false) (P:=λ_=>True) (l:=(gt l i).past) (λ_ _=>True) (λs _=>⟨_,rfl,trivial⟩) (λf j t hi _ hf=>by
   unfold jd
   cases (((gt (gt l i).past j).s==d.s)&&(decide ((gt (gt l i).past j).f≤d.n)))&&(decide (d.n≤(gt (gt l i).past j).t)) with
   | true=>exact⟨_,rfl,trivial⟩
   | false=>exact hf _ trivial) (s:=()) trivial
  rw [h,E2]
  cases z with
  | true=>exact⟨_,rfl,trivial⟩
  | false=>exact hf _ trivial) (s:=()) trivial
 exact⟨r,h⟩
theorem xG{l:List Ver}(hl:l.length≤lim):∃b,dV l=some b∧(b=true→l.length≤512∧∀x∈l,VeOk x):=by
 rw [aK] at hl
 unfold dV
 refine ez (λi _ => ∀j,j<i→VeOk (gt l j)) (λs hI=>⟨_,rfl,λhb=>⟨by have:=DP hb; omega,yL hI⟩⟩) (λf i s hi hI hf=>?_) (λj hj=>absurd hj (Nat.not_lt_zero _))
 ·unfold jF
  obtain⟨a,a1,a2⟩:=uZ (gt l i)
  obtain⟨b,b1⟩:=y8 (gt l i).dot l
  have e1:w64 (((i:Nat):Int) - 1)=((i:Nat):Int) - 1:=bO (by unfold I64; omega)
  have hc:imp ((!(!a))&&(decide (0<((i:Nat):Int)))) (inb (w64 (((i:Nat):Int) - 1)) l.length)=true:=by
   rw [e1]
   by_cases h0:0<((i:Nat):Int)
   ·have:inb (((i:Nat):Int) - 1) l.length=true:=by
     unfold inb
     rw [DW,DQ,DQ]
     clear e1 a1 a2 b1 hf hI
     omega
    rw [this]; cases a <;> cases decide (0<((i:Nat):Int)) <;> rfl
   ·rw [decide_eq_false h0]; cases a <;> rfl
  rw [a1,E2,ao hc,b1]
  unfold gI
  rw [bX,E2,bX,E2]
  cases a with
  | false=>exact⟨_,rfl,λh=>by cases h⟩
  | true=>
   have hn:∀j,j<i+1→VeOk (gt l j):=λj hj=>by
    rcases Nat.lt_or_ge j i with h | h
    ·exact hI j h
    ·obtain rfl:j=i:=by omega
     exact a2 rfl
   generalize hg:(((!true)||_)||_)=g
   cases g with
   | true=>exact⟨_,rfl,λh=>by cases h⟩
   | false=>exact hf _ hn
theorem vJ{r:Rec}(hl:r.vers.length≤lim):∃b,bc r=some b∧(b=true→ReOk r):=by
 unfold bc
 obtain⟨a,a1,a2⟩:=xG hl
 rw [a1,bX,E2]
 refine⟨_,rfl,λh=>?_⟩
 simp only [DW,DQ] at h
 obtain⟨⟨h1,h2⟩,h3⟩:=h
 have hc:((decide (1≤((r.key.size:Nat):Int)))&&(decide (((r.key.size:Nat):Int)≤32)))=true:=by rw [DW,DQ,DQ]; exact⟨h1,h2⟩
 rw [hc] at h3
 have:=a2 h3
 exact⟨⟨by omega,by omega⟩,this.1,this.2⟩
def pz(n:Int):List UInt8:=pn n.toNat
def spB(x:Span):List UInt8:=pz x.s++(pz x.f++pz (x.t - x.f))
def spsB(l:List Span):List UInt8:=pz l.length++(l.map spB).flatten
def txB(s:ByteArray):List UInt8:=pz s.size++s.data.toList
def veB(v:Ver):List UInt8:=pz v.dot.s++(pz v.dot.n++(spsB v.past++(bif v.gone then pz 1 else pz 0++txB v.val)))
def vesB(l:List Ver):List UInt8:=pz l.length++(l.map veB).flatten
def reB(r:Rec):List UInt8:=txB r.key++vesB r.vers
theorem ku{n:Int}(h:n≤4611686018427387904):(pz n).length≤9:=zD 8 _ (by omega)
theorem zg(n:Int):0<(pz n).length:=Ac _
theorem uo{α:Type}{e:α→List UInt8}{c:Nat}:∀{l:List α},(∀x∈l,(e x).length≤c)→((l.map e).flatten).length≤c*l.length
 | [],_=>E6 _
 | x::l,h=>by
  have h1:=h x DT
  have h2:=uo (l:=l) λy hy=>h y (DU _ hy)
  rw [E0,Ef,DS,DY,Nat.mul_add]; omega
theorem ub{α:Type}{e:α→List UInt8}:∀{l:List α},(∀x∈l,0<(e x).length)→l.length≤((l.map e).flatten).length
 | [],_=>E6 _
 | x::l,h=>by
  have h1:=h x DT
  have h2:=ub (l:=l) λy hy=>h y (DU _ hy)
  rw [E0,Ef,DS,DY]; omega
theorem AZ{x:Span}(h:SpOk x):(spB x).length≤27:=by
 obtain⟨h1,h2,h3,h4,h5⟩:=h
 have a:=ku (n:=x.s) (by omega)
 have b:=ku (n:=x.f) (by omega)
 have c:=ku (n:=x.t - x.f) (by omega)
 unfold spB; simp only [DS]; omega
theorem AS(x:Span):0<(spB x).length:=by
 have:=zg x.s
 unfold spB; simp only [DS]; omega
theorem xr{s:ByteArray}(h:s.size≤256):(txB s).length≤265:=by
 have a:=ku (n:=(s.size:Int)) (by omega)
 have b:s.data.toList.length=s.size:=rfl
 unfold txB; simp only [DS]; omega
theorem AC{v:Ver}(h:VeOk v):(veB v).length≤28000:=by
 have a:=ku (n:=v.dot.s) (by have:=h.s; omega)
 have b:=ku (n:=v.dot.n) h.n.2
 have hp:=h.pl
 have c:=ku (n:=(v.past.length:Int)) (by omega)
 have d:=uo (e:=spB) (c:=27) (l:=v.past) λx hx=>AZ (h.past x hx)
 have e1:=ku (n:=1) (by omega)
 have e0:=ku (n:=0) (by omega)
 have f:=xr h.val
 have g:(bif v.gone then pz 1 else pz 0++txB v.val).length≤274:=by cases v.gone <;> simp only [cond_true,cond_false,DS] <;> omega
 unfold veB spsB; simp only [DS]; omega
theorem AF(v:Ver):0<(veB v).length:=by
 have:=zg v.dot.s
 unfold veB; simp only [DS]; omega
theorem wW{r:Rec}(h:ReOk r):(reB r).length≤14400000:=by
 have hk:=h.key
 have hv:=h.vl
 have a:=xr (s:=r.key) (by omega)
 have c:=ku (n:=(r.vers.length:Int)) (by omega)
 have d:=uo (e:=veB) (c:=28000) (l:=r.vers) λx hx=>AC (h.vers x hx)
 unfold reB vesB; simp only [DS]; omega
theorem wP{b:List UInt8}{n:Int}(h0:0≤n)(h1:n≤4611686018427387904)(hb:b.length+(pz n).length≤lim):bZ ⟨b⟩ n=some ⟨b++pz n⟩:=by
 unfold bZ
 obtain⟨m,rfl⟩:∃m:Nat,n=(m:Int):=⟨n.toNat,by omega⟩
 rw [rQ (by omega),E2]
 exact ao (E5 hb)
theorem tf{b:List UInt8}{n:Int}(h0:0≤n)(h1:n≤4611686018427387904)(hb:b.length+(pz n).length≤lim):bm ⟨b⟩ n=some ⟨b++pz n⟩:=by
 unfold bm
 rw [wP h0 h1 hb]; rfl
theorem Au{b:List UInt8}{s:ByteArray}(h:s.size≤256)(hb:b.length+(txB s).length≤lim):dv ⟨b⟩ s=some ⟨b++txB s⟩:=by
 unfold dv kN
 have hl:s.data.toList.length=s.size:=rfl
 have hx:(txB s).length=(pn s.size).length+s.size:=by unfold txB pz; rw [DS,hl,DZ]
 rw [rQ (by omega),E2,ao (E5 (by omega)),E2]
 exact ao (E5 hb)
theorem CJ{b:List UInt8}{x:Span}(h:SpOk x)(hb:b.length+(spB x).length≤lim):dp ⟨b⟩ x=some ⟨b++spB x⟩:=by
 obtain⟨h1,h2,h3,h4,h5⟩:=h
 have e:(spB x).length=(pz x.s).length+((pz x.f).length+(pz (x.t - x.f)).length):=by unfold spB; simp only [DS]
 unfold dp
 rw [tf (by omega) (by omega) (by omega),E2,wP (by omega) (by omega) (by rw [DS]; omega),E2,bO (x:=x.t - x.f) (by unfold I64; omega),
  wP (by omega) (by omega) (by rw [DS,DS]; omega),E2]
 unfold spB
 rw [DV,DV]
theorem xk:∀{l:List Span} {b:List UInt8} (i:Nat),(∀x∈l,SpOk x)→b.length+((l.map spB).flatten).length≤lim→forI bv (λo=>some o) i l ⟨b⟩=some ⟨b++(l.map spB).flatten⟩
 | [],b,i,_,_=>by show some (⟨b⟩:ac)=some ⟨b++[]⟩; rw [Eb]
 | x::l,b,i,h,hb=>by
  rw [E0,Ef,DS] at hb
  show bv (forI bv (λo=>some o) (i+1) l) i x ⟨b⟩=_
  unfold bv
  rw [CJ (h x DT) (by omega),E2]
  rw [show (λf14 i15 ei15 o11=>Option.bind (dp o11 ei15) λz22=>f14 z22)=bv from rfl]
  rw [xk (i+1) (λy hy=>h y (DU _ hy)) (by rw [DS]; omega),E0,Ef,DV]
theorem Dg{l:List Span}{b:List UInt8}(h:∀x∈l,SpOk x)(hl:l.length≤1024)(hb:b.length+(spsB l).length≤lim):d6 ⟨b⟩ l=some ⟨b++spsB l⟩:=by
 have e:(spsB l).length=(pz l.length).length+((l.map spB).flatten).length:=by unfold spsB; rw [DS]
 unfold d6
 rw [tf (by omega) (by omega) (by omega),E2,xk 0 h (by rw [DS]; omega),DV]; rfl
theorem D8{b:List UInt8}{v:Ver}(h:VeOk v)(hb:b.length+(veB v).length≤lim):cT ⟨b⟩ v=some ⟨b++veB v⟩:=by
 have hs:=h.s
 have hn:=h.n
 have e:(veB v).length=(pz v.dot.s).length+((pz v.dot.n).length+((spsB v.past).length+(bif v.gone then pz 1 else pz 0++txB v.val).length)):=by unfold veB; simp only [DS]
 unfold cT
 rw [tf (by omega) (by omega) (by omega),E2,wP (by omega) (by omega) (by rw [DS]; omega),E2,Dg h.past h.pl (by rw [DS,DS]; omega),E2]
 unfold veB
 cases hg:v.gone with
 | true=>
  rw [hg] at e
  simp only [cond_true] at e ⊢
  rw [tf (by omega) (by omega) (by rw [DS,DS,DS]; omega),E2]
  simp only [DV]
 | false=>
  rw [hg] at e
  simp only [cond_false,DS] at e ⊢
  rw [tf (by omega) (by omega) (by rw [DS,DS,DS]; omega),E2,Au h.val (by rw [DS,DS,DS,DS]; omega),E2]
  simp only [DV]
theorem zs:∀{l:List Ver} {b:List UInt8} (i:Nat),(∀x∈l,VeOk x)→b.length+((l.map veB).flatten).length≤lim→forI bF (λo=>some o) i l ⟨b⟩=some ⟨b++(l.map veB).flatten⟩
 | [],b,i,_,_=>by show some (⟨b⟩:ac)=some ⟨b++[]⟩; rw [Eb]
 | x::l,b,i,h,hb=>by
  rw [E0,Ef,DS] at hb
  show bF (forI bF (λo=>some o) (i+1) l) i x ⟨b⟩=_
  unfold bF
  rw [D8 (h x DT) (by omega),E2]
  rw [show (λf14 i15 ei15 o11=>Option.bind (cT o11 ei15) λz25=>f14 z25)=bF from rfl]
  rw [zs (i+1) (λy hy=>h y (DU _ hy)) (by rw [DS]; omega),E0,Ef,DV]
theorem uw{r:Rec}(h:ReOk r):e8 ⟨[]⟩ r=some ⟨reB r⟩:=by
 have hk:=h.key
 have hv:=h.vl
 have hl:=wW h
 have e:(reB r).length=(txB r.key).length+((pz r.vers.length).length+((r.vers.map veB).flatten).length):=by unfold reB vesB; simp only [DS]
 have hlim:14400000≤lim:=by rw [aK]; omega
 unfold e8
 rw [Au (by omega) (by simp only [Ea]; omega),E2]
 unfold eU
 rw [tf (by omega) (by omega) (by simp only [Ee]; omega),E2,zs 0 h.vers (by simp only [Ee,DS]; omega),E2]
 unfold reB vesB
 simp only [Ee,DV]
theorem zF{r:Rec}(hl:r.vers.length≤lim):(eh r=some ([],1))∨(bc r=some true∧ReOk r∧eh r=some (reB r,0)):=by
 obtain⟨b,b1,b2⟩:=vJ hl
 unfold eh
 rw [b1,E2]
 cases b with
 | false=>exact .inl rfl
 | true=>refine .inr ⟨rfl,b2 rfl,?_⟩; rw [show (!true)=false from rfl,ay rfl,uw (b2 rfl)]; rfl
def At(B:List UInt8)(p:Int)(rest:List UInt8):Prop := ∃q:Nat,p=(q:Int)∧q≤B.length∧B.drop q=rest
theorem At.go{B a rest:List UInt8}{q:Nat}(hq:q≤B.length)(h:B.drop q=a++rest):At B ((q+a.length:Nat):Int) rest∧q+a.length≤B.length:=by
 have h1:=congrArg List.length h
 rw [Ej,DS] at h1
 refine⟨⟨q+a.length,rfl,by omega,?_⟩,by omega⟩
 rw [← List.drop_drop,h,List.drop_left]
theorem At.len{B rest:List UInt8}{p:Int}(h:At B p rest):(B.length:Int) - p=(rest.length:Int)∧0≤p:=by
 obtain⟨q,rfl,h1,rfl⟩:=h
 rw [Ej]; omega
theorem At.end_{B:List UInt8}{p:Int}(h:At B p []):p=(B.length:Int):=by have:=h.len; simp at this; omega
section
variable {B:List UInt8} (hB:B.length≤lim)
include hB
theorem BA{p n:Int}{rest:List UInt8}(h0:0≤n)(h1:n≤4611686018427387904)(h:At B p (pz n++rest)):∃q:Nat,gi B p=some (n,(q:Int),0)∧At B q rest∧q≤B.length:=by
 obtain⟨q,rfl,hq,hd⟩:=h
 have hg:=At.go hq hd
 have hl:=ku h1
 refine⟨q+(pz n).length,?_,hg.1,hg.2⟩
 rw [yE hB hq,hd]
 unfold pz at hl ⊢
 rw [za n.toNat 0 0 rest (λh=>absurd h (Nat.lt_irrefl 0)) (by omega)]
 unfold numR
 have e1:(((0+n.toNat*128 ^ 0:Nat):Nat):Int)=n:=by rw [Nat.pow_zero,Nat.mul_one,Nat.zero_add]; omega
 simp only [if_pos]
 rw [e1,Nat.zero_add]
theorem qH{p n:Int}{rest:List UInt8}(h0:0≤n)(h1:n≤4611686018427387904)(h:At B p (pz n++rest)):∃q,aW ⟨B,p⟩=some (some (⟨B,q⟩,n))∧At B q rest:=by
 obtain⟨q,e,hA,hq⟩:=BA hB h0 h1 h
 rw [aK] at hB
 refine⟨(q:Int),?_,hA⟩
 unfold aW ea
 simp only
 rw [e,E2]
 simp only
 rw [ay (by decide),ao (by unfold i64b; rw [DW,DQ,DQ]; omega),ao (by unfold i64b; rw [DW,DQ,DQ]; omega)]
theorem BL{p n:Int}{rest:List UInt8}(h0:0≤n)(h1:n≤4611686018427387904)(h:At B p (pz n++rest)):∃q,cR ⟨B,p⟩=some (some (⟨B,q⟩,n))∧At B q rest:=by
 obtain⟨q,e,hA⟩:=qH hB h0 h1 h
 refine⟨q,?_,hA⟩
 unfold cR
 rw [e]; rfl
theorem Ae{p:Int}{s:ByteArray}{rest:List UInt8}(hs:s.size≤256)(h:At B p (txB s++rest)):∃q,cC ⟨B,p⟩=some (some (⟨B,q⟩,s))∧At B q rest:=by
 unfold txB at h
 rw [DV] at h
 obtain⟨q,e,hA,hq⟩:=BA hB (by omega) (by omega) h
 obtain⟨q2,e2,hq2,hd⟩:=hA
 obtain rfl:q=q2:=by omega
 have hg:=At.go hq hd
 have hsl:s.data.toList.length=s.size:=rfl
 rw [hsl] at hg
 have hB2:=hB
 rw [aK] at hB2
 refine⟨((q+s.size:Nat):Int),?_,hg.1⟩
 have hgl:=hg.2
 have ew:w64 (((q:Nat):Int)+((s.size:Nat):Int))=((q+s.size:Nat):Int):=by rw [bO (by unfold I64; omega)]; omega
 have ew2:w64 (((B.length:Nat):Int) - ((q:Nat):Int))=((B.length:Nat):Int) - ((q:Nat):Int):=bO (by unfold I64; omega)
 have ed:(⟨(List.drop ((q:Nat):Int).toNat (List.take ((q+s.size:Nat):Int).toNat B)).toArray⟩:ByteArray)=s:=by
  apply jC
  show List.drop ((q:Nat):Int).toNat (List.take ((q+s.size:Nat):Int).toNat B)=s.data.toList
  rw [DZ,DZ,List.drop_take,hd,Nat.add_sub_cancel_left, ← hsl,List.take_left]
 unfold cC ou dD
 simp only
 rw [e,E2]
 simp only
 rw [ay (by decide),ay (by rw [DR]; clear ew ew2; omega),ew2,ay (by rw [DR]; clear ew ew2; omega),ew,
  ao (by unfold inle; rw [DW,DQ,DQ]; clear ew ew2; omega),ao (by rw [DQ]; clear ew ew2; omega),ao (by rw [DQ,DZ,DZ]; clear ew ew2; omega),ed,E2]
 simp only
 rw [ay (by decide),ao (by unfold i64b; rw [DW,DQ,DQ]; clear ew ew2; omega),ao (by rw [aK,DQ]; clear ew ew2; omega)]
theorem Cv{p:Int}{x:Span}{rest:List UInt8}(hx:SpOk x)(h:At B p (spB x++rest)):∃q,dt ⟨B,p⟩=some (some (⟨B,q⟩,x))∧At B q rest:=by
 obtain⟨h1,h2,h3,h4,h5⟩:=hx
 unfold spB at h
 rw [DV,DV] at h
 obtain⟨q1,e1,a1⟩:=BL hB (by omega) (by omega) h
 obtain⟨q2,e2,a2⟩:=qH hB (by omega) (by omega) a1
 obtain⟨q3,e3,a3⟩:=qH hB (by omega) (by omega) a2
 refine⟨q3,?_,a3⟩
 unfold dt dG dF optm
 rw [e1,E2]
 simp only
 rw [e2,E2]
 simp only
 rw [e3,E2]
 simp only
 rw [show w64 (x.f+(x.t - x.f))=x.t by rw [bO (by unfold I64; omega)]; omega,ay (by rw [DR]; omega)]
theorem wX:∀{l:List Span} {out:List Span} {p:Int} {rest:List UInt8} (i:Nat),(∀x∈l,SpOk x)→out.length+l.length≤lim→At B p ((l.map spB).flatten++rest) →
  ∃q,forU bn (λ(out_20,o25)=>some (some (o25,out_20))) l.length i (out,⟨B,p⟩)=some (some (⟨B,q⟩,out++l))∧At B q rest
 | [],out,p,rest,i,_,_,h=>⟨p,by show some (some ((⟨B,p⟩:a7),out))=_; rw [Eb],h⟩
 | x::l,out,p,rest,i,hx,hl,h=>by
  rw [DY] at hl
  rw [E0,Ef,DV] at h
  obtain⟨q1,e1,a1⟩:=Cv hB (hx x DT) h
  obtain⟨q2,e2,a2⟩:=wX (l:=l) (out:=out++[x]) (i+1) (λy hy=>hx y (DU _ hy)) (by rw [DS,List.length_singleton]; omega) a1
  refine⟨q2,?_,a2⟩
  show bn (forU bn (λ(out_20,o25)=>some (some (o25,out_20))) l.length (i+1)) i (out,⟨B,p⟩)=_
  rw [DV] at e2
  generalize forU bn (λ(out_20,o25)=>some (some (o25,out_20))) l.length (i+1)=f at e2 ⊢
  unfold bn optm
  simp only
  rw [e1,E2]
  simp only
  rw [ao (E5 (by omega)),e2]; rfl
theorem Do{p:Int}{l:List Span}{rest:List UInt8}(hx:∀x∈l,SpOk x)(hl:l.length≤1024)(h:At B p (spsB l++rest)):∃q,cL ⟨B,p⟩=some (some (⟨B,q⟩,l))∧At B q rest:=by
 unfold spsB at h
 rw [DV] at h
 obtain⟨q1,e1,a1⟩:=qH hB (by omega) (by omega) h
 have hg:=ub (e:=spB) (l:=l) λx _=>AS x
 have hr:=a1.len
 rw [DS] at hr
 have hB2:=hB
 rw [aK] at hB2
 obtain⟨q2,e2,a2⟩:=wX hB (l:=l) (out:=[]) 0 hx (by rw [aK]; simp only [Ea]; omega) a1
 refine⟨q2,?_,a2⟩
 unfold cL cV optm
 rw [e1,E2]
 simp only
 rw [bO (x:=((B.length:Nat):Int) - q1) (by unfold I64; omega),ay (by rw [DR]; omega),DZ,e2]; rfl
theorem Dt{p:Int}{v:Ver}{rest:List UInt8}(hv:VeOk v)(h:At B p (veB v++rest)):∃q,e7 ⟨B,p⟩=some (some (⟨B,q⟩,v))∧At B q rest:=by
 have hs:=hv.s
 have hn:=hv.n
 unfold veB at h
 simp only [DV] at h
 obtain⟨q1,e1,a1⟩:=BL hB (by omega) (by omega) h
 obtain⟨q2,e2,a2⟩:=qH hB (by omega) (by omega) a1
 obtain⟨q3,e3,a3⟩:=Do hB hv.past hv.pl a2
 unfold e7 cP optm
 rw [e1,E2]
 simp only
 rw [e2,E2]
 simp only
 rw [e3,E2]
 simp only
 have hgo:=hv.gone
 obtain⟨⟨ds,dn⟩,past,gone,val⟩:=v
 simp only at a3 hgo ⊢
 cases gone with
 | true=>
  simp only [cond_true] at a3
  obtain⟨q4,e4,a4⟩:=qH hB (by omega) (by omega) a3
  refine⟨q4,?_,a4⟩
  rw [e4,E2]
  simp only
  rw [ay (by decide),bq (by decide),hgo rfl]
 | false=>
  simp only [cond_false,DV] at a3
  obtain⟨q4,e4,a4⟩:=qH hB (by omega) (by omega) a3
  obtain⟨q5,e5,a5⟩:=Ae hB hv.val a4
  refine⟨q5,?_,a5⟩
  rw [e4,E2]
  simp only
  rw [bq (by decide),e5,E2]
theorem Af:∀{l:List Ver} {out:List Ver} {p:Int} {rest:List UInt8} (i:Nat),(∀x∈l,VeOk x)→out.length+l.length≤lim→At B p ((l.map veB).flatten++rest) →
  ∃q,forU bu (λ(out_20,o25)=>some (some (o25,out_20))) l.length i (out,⟨B,p⟩)=some (some (⟨B,q⟩,out++l))∧At B q rest
 | [],out,p,rest,i,_,_,h=>⟨p,by show some (some ((⟨B,p⟩:a7),out))=_; rw [Eb],h⟩
 | x::l,out,p,rest,i,hx,hl,h=>by
  rw [DY] at hl
  rw [E0,Ef,DV] at h
  obtain⟨q1,e1,a1⟩:=Dt hB (hx x DT) h
  obtain⟨q2,e2,a2⟩:=Af (l:=l) (out:=out++[x]) (i+1) (λy hy=>hx y (DU _ hy)) (by rw [DS,List.length_singleton]; omega) a1
  refine⟨q2,?_,a2⟩
  show bu (forU bu (λ(out_20,o25)=>some (some (o25,out_20))) l.length (i+1)) i (out,⟨B,p⟩)=_
  rw [DV] at e2
  generalize forU bu (λ(out_20,o25)=>some (some (o25,out_20))) l.length (i+1)=f at e2 ⊢
  unfold bu optm
  simp only
  rw [e1,E2]
  simp only
  rw [ao (E5 (by omega)),e2]; rfl
theorem Df{p:Int}{l:List Ver}{rest:List UInt8}(hx:∀x∈l,VeOk x)(hl:l.length≤512)(h:At B p (vesB l++rest)):∃q,d4 ⟨B,p⟩=some (some (⟨B,q⟩,l))∧At B q rest:=by
 unfold vesB at h
 rw [DV] at h
 obtain⟨q1,e1,a1⟩:=qH hB (by omega) (by omega) h
 have hg:=ub (e:=veB) (l:=l) λx _=>AF x
 have hr:=a1.len
 rw [DS] at hr
 have hB2:=hB
 rw [aK] at hB2
 obtain⟨q2,e2,a2⟩:=Af hB (l:=l) (out:=[]) 0 hx (by rw [aK]; simp only [Ea]; omega) a1
 refine⟨q2,?_,a2⟩
 unfold d4 d8 optm
 rw [e1,E2]
 simp only
 rw [bO (x:=((B.length:Nat):Int) - q1) (by unfold I64; omega),ay (by rw [DR]; omega),DZ,e2]; rfl
theorem D1{p:Int}{r:Rec}{rest:List UInt8}(hr:ReOk r)(h:At B p (reB r++rest)):∃q,dT ⟨B,p⟩=some (some (⟨B,q⟩,r))∧At B q rest:=by
 have hk:=hr.key
 unfold reB at h
 rw [DV] at h
 obtain⟨q1,e1,a1⟩:=Ae hB (by omega) h
 obtain⟨q2,e2,a2⟩:=Df hB hr.vers hr.vl a1
 refine⟨q2,?_,a2⟩
 unfold dT optm
 rw [e1,E2]
 simp only
 rw [e2,E2]
end
theorem yU{r:Rec}(hr:ReOk r)(h:bc r=some true):fX (reB r)=some (r,0):=by
 have hl:=wW hr
 obtain⟨q,e,a⟩:=D1 (B:=reB r) (by rw [aK]; omega) (p:=0) (rest:=[]) hr ⟨0,rfl,E7 _,by rw [Eb]; rfl⟩
 have hq:=a.end_
 unfold fX dW cS optm
 rw [e,E2]
 simp only
 rw [hq,show (((reB r).length:Int) != ((reB r).length:Int))=false by simp,h]
 rfl
theorem tR:fX []=some (⟨ByteArray.empty,[]⟩,2):=by decide
def Only(nm:ByteArray)(g:Nat)(bs:Bs)(es:Mp):Prop:=Has nm g bs es∧∀k,(mget k es).isSome=true→∃j,1≤j∧j≤999999∧k=fn nm g j
section
variable {R N:Nat} {d:Dk} {nm:ByteArray} {g:Nat} {bs:Bs} {es:Mp}
theorem Only.own(h:Only nm g bs es):Own1 nm g es:=λk hk=>.inr (h.2 k hk)
theorem Only.ks(h:Only nm g bs es)(hnm:Nm nm)(hg:g≤999999):Ks es:=λk hk=>by
 obtain⟨j,_,j2,e⟩:=h.2 k hk
 rw [e]; exact sv hnm hg j2
theorem Only.list(h:Only nm g bs d.seen)(hnm:Nm nm):fb d (mn nm) = []:=by
 unfold fb
 cases hs:mget (mn nm) d.seen with
 | none=>rfl
 | some v=>
  obtain⟨j,_,_,e⟩:=h.2 _ (by rw [hs]; rfl)
  exact absurd e (BB hnm hnm)
theorem Only.nil:Only nm g [] []:=⟨⟨E7 _,λk _ _=>rfl⟩,λk hk=>by cases hk⟩
theorem Only.add{size:Int}{f:List UInt8}(h:Only nm g bs d.seen)(hnm:Nm nm)(hp:pnum size bs f≤999999):Only nm g (addP size bs f) (dAdd d nm g size bs f).seen:=by
 refine⟨AppR.has hnm h.1 hp,λk hk=>?_⟩
 by_cases e:k=fn nm g (pnum size bs f)
 ·exact⟨_,si _ _ _,hp,e⟩
 ·rw [tH e] at hk; exact h.2 k hk
theorem Only.len(h:Only nm g bs es)(hnm:Nm nm)(hn:NK es):es.length=bs.length:=by
 have h1:(es.map (·.1)).Nodup:=hn
 have h2:((List.range bs.length).map λj=>fn nm g (j+1)).Nodup:=by
  refine List.Pairwise.map _ (R:=λa b=>a≠b) (λa b hab e=>hab ?_) List.nodup_range
  have:=(rl hnm hnm e).2.2; omega
 have h3:(es.map (·.1)).Perm ((List.range bs.length).map λj=>fn nm g (j+1)):=by
  rw [List.perm_ext_iff_of_nodup h1 h2]
  intro k
  rw [← mt,List.mem_map]
  constructor
  ·intro hk
   obtain⟨j,j1,j2,e⟩:=h.2 k hk
   rw [e,h.1.2 j j1 j2] at hk
   refine⟨j - 1,List.mem_range.2 ?_,by rw [e,show j - 1+1=j by omega]⟩
   rcases Nat.lt_or_ge (j - 1) bs.length with hlt | hge
   ·exact hlt
   ·rw [List.getElem?_eq_none hge] at hk; cases hk
  ·rintro⟨j,hj,rfl⟩
   have hj:=List.mem_range.1 hj
   have:=h.1.1
   rw [h.1.2 (j+1) (by omega) (by omega),Nat.add_sub_cancel,List.getElem?_eq_getElem hj]; rfl
 have:=h3.length_eq
 simpa using this
end
theorem Db{l:List UInt8}(h1:1≤l.length)(h2:l.length≤2)(h:ND l):Nm ⟨l.toArray⟩:=⟨h1,h2,h⟩
theorem nm1{c:UInt8}(h:c≠46):Nm ⟨#[c]⟩:=⟨by show 1≤1; omega,by show 1≤2; omega,λx hx=>by rw [List.mem_singleton.1 hx]; exact h⟩
def Rt(r:Rec):Prop:=bc r=some true∧ReOk r
def layM(m:Mp)(r:Rec):Mp:=if r.vers = [] then mdel r.key m else mput r.key (reB r) (mdel r.key m)
def fp(l:List Rec):Mp:=l.foldl layM []
theorem uW(l:List Rec)(r:Rec):fp (l++[r])=layM (fp l) r:=by unfold fp; rw [List.foldl_append]; rfl
theorem BF(g:ai)(m:Mp)(r:Rec):ci ⟨g,m⟩ r (reB r)=some ⟨g,layM m r⟩:=by
 unfold ci layM
 cases hv:r.vers with
 | nil=>rw [ay (by decide),if_pos rfl]
 | cons x l=>rw [bq (by rw [DY,DQ]; omega),if_neg (by simp)]
structure KI (m:Mp):Prop where
 nk:NK m
 en:∀k b,mget k m=some b→∃r,Rt r∧r.key=k∧r.vers≠[]∧b=reB r
theorem KI.nil:KI []:=⟨NK.nil,λk b h=>by cases h⟩
theorem KI.lay{m:Mp}(h:KI m){r:Rec}(hr:Rt r):KI (layM m r):=by
 unfold layM
 by_cases hv:r.vers = []
 ·rw [if_pos hv]
  refine⟨h.nk.del,λk b hb=>?_⟩
  rw [jV h.nk] at hb
  split at hb
  ·cases hb
  ·exact h.en k b hb
 ·rw [if_neg hv]
  refine⟨h.nk.del.put,λk b hb=>?_⟩
  rw [kX] at hb
  by_cases hk:k=r.key
  ·rw [if_pos hk] at hb
   injection hb with hb
   exact⟨r,hr,hk.symm,hv,hb.symm⟩
  ·rw [if_neg hk,jV h.nk,if_neg hk] at hb
   exact h.en k b hb
theorem KI.fold:∀{l:List Rec} {m:Mp},KI m→(∀r∈l,Rt r)→KI (l.foldl layM m)
 | [],m,h,_=>h
 | r::l,m,h,hl=>KI.fold (l:=l) (h.lay (hl r DT)) λx hx=>hl x (DU _ hx)
theorem KI.of{l:List Rec}(h:∀r∈l,Rt r):KI (fp l):=KI.nil.fold h
theorem AQ(m:Mp)(r:Rec):(layM m r).length≤m.length+1:=by
 unfold layM
 have h:=s7 (x:=r.key) (es:=m)
 split
 ·omega
 ·have:=pE (x:=r.key) (v:=reB r) (es:=mdel r.key m); omega
theorem vC:∀(l:List Rec) (m:Mp),(l.foldl layM m).length≤m.length+l.length
 | [],m=>E6 _
 | r::l,m=>by
  have h1:=vC l (layM m r)
  have h2:=AQ m r
  rw [List.foldl_cons,DY]; omega
theorem rK(l:List Rec):(fp l).length≤l.length:=by have:=vC l []; simpa [fp] using this
def decV(b:List UInt8):List Ver:=match fX b with
 | some z=>z.1.vers
 | none=>[]
def sd(m:Mp):List Rec:=(dI m).map λk=>⟨k,decV ((mget k m).getD [])⟩
theorem Bv{g:ai}{m:Mp}(h:KI m)(k:ByteArray):bD ⟨g,m⟩ k=some (decV ((mget k m).getD [])):=by
 unfold bD decV
 simp only
 cases hg:mget k m with
 | none=>rw [Option.getD_none,tR]; rfl
 | some b=>
  obtain⟨r,hr,_,_,rfl⟩:=h.en k b hg
  rw [Option.getD_some,yU hr.2 hr.1]; rfl
theorem sX{g:ai}{m:Mp}(h:KI m):∀(l:List ByteArray) (i:Nat) (out:List Rec),out.length+l.length≤lim→forI (bG ⟨g,m⟩) (λout_13=>some out_13) i l out=some (out++l.map λk=>⟨k,decV ((mget k m).getD [])⟩)
 | [],i,out,_=>by show some out=_; rw [List.map_nil,Eb]
 | k::l,i,out,hl=>by
  rw [DY] at hl
  have ih:=sX (g:=g) h l (i+1) (out++[⟨k,decV ((mget k m).getD [])⟩]) (by rw [DS,List.length_singleton]; omega)
  show bG ⟨g,m⟩ (forI (bG ⟨g,m⟩) (λout_13=>some out_13) (i+1) l) i k out=_
  generalize forI (bG ⟨g,m⟩) (λout_13=>some out_13) (i+1) l=f at ih ⊢
  unfold bG
  rw [Bv h,E2,ao (E5 (by omega)),ih,DV]; rfl
theorem Cx{g:ai}{m:Mp}(hm:m.length≤lim):ft ⟨g,m⟩=some (dI m):=ao (E5 hm)
theorem CF{g:ai}{m:Mp}(h:KI m)(hm:m.length≤lim):bP ⟨g,m⟩=some (sd m):=by
 unfold bP
 rw [Cx hm,E2,sX h _ 0 [] (by rw [jT]; simpa using hm)]; rfl
theorem zP(m:Mp):(sd m).length=m.length:=by unfold sd; rw [E8,jT]
theorem e_sp(a:List Span):cY a a=some true:=by
 unfold cY
 rw [ay (by simp)]
 obtain⟨r,h,rfl⟩:=ez (body:=dU a) (K:=λ_=>some true) (P:=λb=>b=true) (l:=a) (λ_ _=>True) (λs _=>⟨_,rfl,rfl⟩) (λf i t hi _ hf=>by
  unfold dU
  rw [ao (E5 hi),ay (by simp)]
  exact hf _ trivial) (s:=()) trivial
 exact h
theorem D3(a:Ver):b7 a a=some true:=by
 unfold b7
 rw [e_sp,bX,E2]
 have:(((a.dot==a.dot)&&(a.gone==a.gone))&&(a.val==a.val))=true:=by simp
 rw [this]; rfl
theorem CW(a:List Ver):fO a a=some true:=by
 unfold fO
 rw [ay (by simp)]
 obtain⟨r,h,rfl⟩:=ez (body:=fY a) (K:=λ_=>some true) (P:=λb=>b=true) (l:=a) (λ_ _=>True) (λs _=>⟨_,rfl,rfl⟩) (λf i t hi _ hf=>by
  unfold fY
  rw [ao (E5 hi),D3,E2,show (!true)=false from rfl,ay rfl]
  exact hf _ trivial) (s:=()) trivial
 exact h
theorem su(a:List Rec):aQ a a=some true:=by
 unfold aQ
 rw [ay (by simp)]
 obtain⟨r,h,rfl⟩:=ez (body:=ej a) (K:=λ_=>some true) (P:=λb=>b=true) (l:=a) (λ_ _=>True) (λs _=>⟨_,rfl,rfl⟩) (λf i t hi _ hf=>by
  unfold ej
  rw [ao (E5 hi),CW,bX,E2]
  have:((gt a i).key != (gt a i).key)=false:=by simp
  rw [this,show (false||!bif !false then true else default)=false from rfl,ay rfl]
  exact hf _ trivial) (s:=()) trivial
 exact h
structure StI (nm:ByteArray) (size:Int) (R N:Nat) (e:Dk) (s:a8) (L:List Rec):Prop where
 di:DI R N e
 lo:e.loose = []
 st:s=⟨lg nm 0 size (bsOf size (L.map reB)) L.length,fp L⟩
 rt:∀r∈L,Rt r
 rk:Rk (L.map reB)
 on:Only nm 0 (bsOf size (L.map reB)) e.seen
 ln:L.length≤N
section
variable {nm:ByteArray} {size:Int} {R N:Nat} {e:Dk} {s:a8} {L:List Rec}
theorem StI.mono(h:StI nm size R N e s L){M:Nat}(hm:N≤M):StI nm size R M e s L:=⟨h.di.mono hm,h.lo,h.st,h.rt,h.rk,h.on,Nat.le_trans h.ln hm⟩
theorem tp{z:Dk×Option ai×Bs×Int}{g:ai}:∀(L:List Rec) (i:Nat) (m:Mp),(∀r∈L,Rt r)→forI (dP z) (λo28=>some (z.1,some o28,0)) i (L.map reB) ⟨g,m⟩=some (z.1,some ⟨g,L.foldl layM m⟩,0)
 | [],i,m,_=>rfl
 | r::L,i,m,h=>by
  have hr:=h r DT
  have ih:=tp (z:=z) (g:=g) L (i+1) (layM m r) λx hx=>h x (DU _ hx)
  show dP z (forI (dP z) (λo28=>some (z.1,some o28,0)) (i+1) (L.map reB)) i (reB r) ⟨g,m⟩=_
  generalize forI (dP z) (λo28=>some (z.1,some o28,0)) (i+1) (L.map reB)=f at ih ⊢
  unfold dP
  rw [yU hr.2 hr.1,E2]
  simp only
  rw [ay (by decide),BF,E2,ih]; rfl
theorem Bp{d d':Dk}{g:ai}{L:List Rec}(h:gG d nm size=some (d',some g,L.map reB,0))(hL:∀r∈L,Rt r):gh d nm size=some (d',some ⟨g,fp L⟩,0):=by
 unfold gh
 rw [h,E2]
 simp only
 rw [ay (by decide),E2]
 exact tp L 0 [] hL
end
def okF:ByteArray:=⟨#[111,107]⟩
theorem AG:okn okF=true:=by decide
theorem Cb{nm:ByteArray}(h:Nm nm){g k:Nat}(hg:g≤999999)(hk:k≤999999):okF≠fn nm g k:=λe=>by
 have:=(oR h hg hk).1
 rw [← e] at this
 exact absurd this (by decide)
theorem Cy{nm:ByteArray}(h:Nm nm):okF≠mn nm:=λe=>by
 have:=(uj h).1
 rw [← e] at this
 exact absurd this (by decide)
theorem Cu(nm:ByteArray):pf nm okF=none:=by
 unfold pf
 rw [wV (λx e2=>by
  have h1:(46:UInt8)∈okF.data.toList:=by
   rw [e2,q9]
   exact List.mem_append_left _ (List.mem_append_right _ (by decide))
  exact absurd h1 (by decide))]
 rfl
abbrev Tab:=ByteArray→Option (List Rec)
def st(nm:ByteArray)(size:Int)(L:List Rec):a8:=⟨lg nm 0 size (bsOf size (L.map reB)) L.length,fp L⟩
def upd1(S:Tab)(nm:ByteArray)(L:List Rec):Tab:=λk=>if k=nm then some L else S k
structure Dm (nm:ByteArray) (size:Int) (N:Nat) (L:List Rec) (es:Mp):Prop where
 nok:Nm nm
 has:Has nm 0 (bsOf size (L.map reB)) es
 rt:∀r∈L,Rt r
 rk:Rk (L.map reB)
 ln:L.length≤N
structure NdI (size:Int) (R N:Nat) (e:Dk) (S:Tab):Prop where
 di:DI R N e
 lo:e.loose = []
 g:∀nm L,S nm=some L→Dm nm size N L e.seen
 own:∀k,(mget k e.seen).isSome=true→k=okF∨∃nm L j,S nm=some L∧1≤j∧j≤999999∧k=fn nm 0 j
section
variable {size:Int} {R N:Nat} {e:Dk} {S:Tab} {nm:ByteArray} {L:List Rec}
theorem NdI.mono(h:NdI size R N e S){M:Nat}(hm:N≤M):NdI size R M e S:=
 ⟨h.di.mono hm,h.lo,λnm L q=>⟨(h.g nm L q).nok,(h.g nm L q).has,(h.g nm L q).rt,(h.g nm L q).rk,Nat.le_trans (h.g nm L q).ln hm⟩,h.own⟩
theorem NdI.tab(h:NdI size R N e S){S':Tab}(hS:∀k,S' k=S k):NdI size R N e S':=by
 have:S'=S:=funext hS
 rw [this]; exact h
theorem NdI.ks(h:NdI size R N e S):Ks e.seen:=λk hk=>by
 rcases h.own k hk with e1 | ⟨nm,L,j,h1,h2,h3,e1⟩
 ·rw [e1]; exact AG
 ·rw [e1]; exact sv (h.g nm L h1).nok (E7 _) h3
theorem NdI.own1(h:NdI size R N e S)(hS:S nm=some L):Own1 nm 0 e.seen:=λk hk=>by
 rcases h.own k hk with e1 | ⟨nm',L',j,h1,h2,h3,e1⟩
 ·rw [e1]; exact .inl (Cu nm)
 ·by_cases hn:nm=nm'
  ·subst hn; exact .inr ⟨j,h2,h3,e1⟩
  ·rw [e1]; exact .inl (zY (h.g nm L hS).nok (h.g nm' L' h1).nok hn 0 j)
theorem NdI.list(h:NdI size R N e S)(hS:S nm=some L):fb e (mn nm) = []:=by
 have hnm:=(h.g nm L hS).nok
 unfold fb
 cases hs:mget (mn nm) e.seen with
 | none=>rfl
 | some v=>
  rcases h.own (mn nm) (by rw [hs]; rfl) with e1 | ⟨nm',L',j,h1,h2,h3,e1⟩
  ·exact absurd e1.symm (Cy hnm)
  ·exact absurd e1 (BB hnm (h.g nm' L' h1).nok)
theorem NdI.open_(h:NdI size R N e S)(hS:S nm=some L)(hR:R≤MX)(hN:4*N+10≤lim){sz:Int}(hs:size=max sz 16):gh e nm sz=some (e,some (st nm size L),0):=by
 have hg:=h.g nm L hS
 obtain⟨d',h1,h2,h3,h4,h5,h6,h7⟩:=Ch h.di hR hN hg.nok h.ks sz (gl:=[]) (e0:=0) (g:=0) (bs:=bsOf size (L.map reB)) (E7 _) (by rw [h.list hS]; rfl) rfl hg.has (h.own1 hS)
 rw [yh _ hg.rk] at h1 h7
 rw [h7 rfl,E8, ← hs] at h1
 rw [Bp h1 hg.rt]; rfl
theorem NdI.put(h:NdI size R N e S)(hS:S nm=some L)(hR:R≤MX)(hs0:0≤size)(hs1:size≤9223372036854775807)(hN:N+1≤lim){r:Rec}(hl:r.vers.length≤lim):∃L' e' c,cX (st nm size L) r e=some (st nm size L',e',c)∧NdI size R (N+1) e' (upd1 S nm L')∧mget okF e'.seen=mget okF e.seen ∧
  (c=0→L'=L++[r]∧Rt r∧Fw.sz e'.seen=Fw.sz e.seen+(fr (reB r)).length)∧(c≠0→L'=L∧e'=e)∧(Rt r→(reB r).length≤1048576→L.length<999999→Fw.sz e.seen+(fr (reB r)).length≤R→c=0):=by
 rw [aK] at hN
 have hg:=h.g nm L hS
 have hln:=hg.ln
 have same:NdI size R (N+1) e (upd1 S nm L):=(h.mono (Nat.le_succ _)).tab λk=>by
  unfold upd1; by_cases hk:k=nm
  ·rw [if_pos hk,hk,hS]
  ·rw [if_neg hk]
 unfold cX cQ
 rcases zF hl with hp | ⟨hr,hro,hp⟩
 ·rw [hp,E2]
  simp only
  rw [ay (by decide),bq (by decide)]
  refine⟨L,e,1,rfl,same,rfl,λhc=>absurd hc (by decide),λ_=>⟨rfl,rfl⟩,λhr=>?_⟩
  exfalso
  have:=hr.1
  unfold eh at hp
  rw [this,E2,show (!true)=false from rfl,ay rfl,uw hr.2] at hp
  simp at hp
 ·rw [hp,E2]
  simp only
  rw [bq (by decide)]
  obtain⟨z,a1,a2,a3⟩:=Cn h.di hR (by rw [aK]; omega) hg.nok (g:=0) (E7 _) hs0 hs1 hg.has (cnt:=L.length) (by omega) (reB r)
  rw [show (st nm size L).log=lg nm 0 size (bsOf size (L.map reB)) L.length from rfl,show (st nm size L).keys=fp L from rfl,a1,E2]
  have hbl:=zE size (L.map reB)
  rw [E8] at hbl
  have bad:∀c:Int,c≠0→(1048576<(reB r).length∨999999≤L.length∨R<Fw.sz e.seen+(fr (reB r)).length)→z=(lg nm 0 size (bsOf size (L.map reB)) L.length,e,c)→∃L' e' c,(bif (z.2.2 != 0) then some ((⟨z.1,fp L⟩:a8),z.2.1,z.2.2) else Option.bind (fH (⟨z.1,fp L⟩:a8).log z.2.1) λz54=>Option.bind (ci (⟨z.1,fp L⟩:a8) r (reB r)) λz63=>some (z63,z54,0))=some (st nm size L',e',c)∧NdI size R (N+1) e' (upd1 S nm L')∧mget okF e'.seen=mget okF e.seen ∧
    (c=0→L'=L++[r]∧Rt r∧Fw.sz e'.seen=Fw.sz e.seen+(fr (reB r)).length)∧(c≠0→L'=L∧e'=e)∧(Rt r→(reB r).length≤1048576→L.length<999999→Fw.sz e.seen+(fr (reB r)).length≤R→c=0):=by
   rintro c hc why rfl
   rw [bq (by simpa using hc)]
   exact⟨L,e,c,rfl,same,rfl,λh0=>absurd h0 hc,λ_=>⟨rfl,rfl⟩,λ_ q1 q2 q3=>by omega⟩
  cases a2 with
  | long q=>exact bad 3 (by decide) (.inl q) rfl
  | many _ q=>
   have:=wL size (bsOf size (L.map reB)) (fr (reB r))
   exact bad 72 (by decide) (.inr (.inl (by omega))) rfl
  | full _ _ q=>exact bad 72 (by decide) (.inr (.inr q)) rfl
  | ok q1 q2 q3=>
   rw [ay (by simp)]
   simp only
   unfold fH
   rw [yG,E2,E2,BF,E2]
   have hpos:=si size (bsOf size (L.map reB)) (fr (reB r))
   have hoth:∀k,k≠fn nm 0 (pnum size (bsOf size (L.map reB)) (fr (reB r)))→mget k (x8 (dAdd e nm 0 size (bsOf size (L.map reB)) (fr (reB r)))).seen=mget k e.seen:=λk hk=>tH hk
   have hrk:Rk ((L++[r]).map reB):=λx hx=>by
    rw [E9,List.map_singleton] at hx
    rcases List.mem_append.1 hx with hx | hx
    ·exact hg.rk x hx
    ·rw [List.mem_singleton.1 hx]; exact q1
   refine⟨L++[r],_,0,?_,⟨a3.sync,rfl,λnm' L' hS'=>?_,λk hk=>?_⟩,hoth okF (Cb hg.nok (E7 _) q2),λ_=>⟨rfl,⟨hr,hro⟩,Cf⟩,λh0=>absurd rfl h0,λ_ _ _ _=>rfl⟩
   ·unfold st
    rw [E9,List.map_singleton,q8,uW,DS,List.length_singleton]
   ·unfold upd1 at hS'
    by_cases hn:nm'=nm
    ·rw [if_pos hn] at hS'
     injection hS' with hS'
     subst hS'; subst hn
     refine⟨hg.nok,?_,λx hx=>?_,hrk,by rw [DS,List.length_singleton]; omega⟩
     ·rw [E9,List.map_singleton,q8]
      exact AppR.has hg.nok hg.has q2
     ·rcases List.mem_append.1 hx with hx | hx
      ·exact hg.rt x hx
      ·rw [List.mem_singleton.1 hx]; exact⟨hr,hro⟩
    ·rw [if_neg hn] at hS'
     have g':=h.g nm' L' hS'
     refine⟨g'.nok,⟨g'.has.1,λk k1 k2=>?_⟩,g'.rt,g'.rk,Nat.le_succ_of_le g'.ln⟩
     rw [hoth _ λe1=>hn (rl g'.nok hg.nok e1).1]
     exact g'.has.2 k k1 k2
   ·by_cases e1:k=fn nm 0 (pnum size (bsOf size (L.map reB)) (fr (reB r)))
    ·exact .inr ⟨nm,L++[r],_,by unfold upd1; rw [if_pos rfl],hpos,q2,e1⟩
    ·rw [hoth k e1] at hk
     rcases h.own k hk with e2 | ⟨nm',L',j,h1,h2,h3,e2⟩
     ·exact .inl e2
     ·by_cases hn:nm'=nm
      ·exact .inr ⟨nm,L++[r],j,by unfold upd1; rw [if_pos rfl],h2,h3,by rw [e2,hn]⟩
      ·exact .inr ⟨nm',L',j,by unfold upd1; rw [if_neg hn,h1],h2,h3,e2⟩
theorem NdI.mark(h:NdI size R N e S)(hR:R≤MX):cE e okF=some ((mget okF e.seen).getD [],(mget okF e.seen).isSome):=e_Rd h.di hR okF
end
def dN:ByteArray:=⟨#[100]⟩
def hn(f:Nat):ByteArray:=⟨#[104,UInt8.ofNat (48+f)]⟩
theorem CR:Nm dN:=nm1 (by decide)
theorem to8{f:Nat}(h:1≤f)(h8:f≤8):f=1∨f=2∨f=3∨f=4∨f=5∨f=6∨f=7∨f=8:=by omega
theorem Dl(f:Nat):hn f≠dN:=λe=>by
 have h1:(hn f).size=dN.size:=congrArg _ e
 have h2:(hn f).size=2:=rfl
 have h3:dN.size=1:=rfl
 omega
theorem De{f:Nat}(h:1≤f)(h8:f≤8):((⟨#[104]⟩:ByteArray)++(⟨(ds f).toArray⟩:ByteArray))=hn f:=by
 have hd:ds f = [UInt8.ofNat (48+f)]:=by
  unfold ds
  rw [show f / 10=0 by omega,dz_0,show f % 10=f by omega]; rfl
 refine jC ?_
 rw [q9,hd]; rfl
def tab(Lo:List Rec)(Lh:Nat→List Rec):Tab:=λk=>if k=dN then some Lo else ((List.range' 1 8).find? λf=>decide (k=hn f)).map Lh
section
variable {Lo:List Rec} {Lh:Nat→List Rec}
theorem zU:tab Lo Lh dN=some Lo:=if_pos rfl
theorem CP{f:Nat}(h:1≤f)(h8:f≤8):tab Lo Lh (hn f)=some (Lh f):=by
 unfold tab
 rw [if_neg (Dl f)]
 have:(List.range' 1 8).find? (λg=>decide (hn f=hn g))=some f:=by
  rcases to8 h h8 with rfl | rfl | rfl | rfl | rfl | rfl | rfl | rfl <;> decide
 rw [this]; rfl
theorem Du(L:List Rec):upd1 (tab Lo Lh) dN L=tab L Lh:=by
 funext k
 unfold upd1 tab
 by_cases hk:k=dN
 ·rw [if_pos hk,if_pos hk]
 ·rw [if_neg hk,if_neg hk,if_neg hk]
end
def hl(self:Nat):List Nat:=(List.range' 1 8).filter λf=>decide (f≠self)
def hin(size:Int)(Lh:Nat→List Rec)(l:List Nat):List (Int×a8):=l.map λf:Nat=>((f:Int),st (hn f) size (Lh f))
theorem uz{size:Int}{Lh:Nat→List Rec}(f:Nat):∀l:List Nat,mget (f:Int) (hin size Lh l)=if f∈l then some (st (hn f) size (Lh f)) else none
 | []=>rfl
 | g::l=>by
  have ih:=uz (size:=size) (Lh:=Lh) f l
  unfold hin at ih ⊢
  rw [E0]
  unfold mget
  by_cases hg:f=g
  ·subst hg; rw [if_pos rfl,if_pos DT]
  ·rw [if_neg (by simp only; omega),ih]
   by_cases hm:f∈l
   ·rw [if_pos hm,if_pos (DU _ hm)]
   ·rw [if_neg hm,if_neg λh=>by rcases List.mem_cons.1 h with h | h; exact hg h; exact hm h]
theorem oG{size:Int}{Lh:Nat→List Rec}{f:Nat}{x:a8}:∀{l:List Nat},f ∉ l→mput (f:Int) x (hin size Lh l)=hin size Lh l++[((f:Int),x)]
 | [],_=>rfl
 | g::l,h=>by
  have ih:=oG (size:=size) (Lh:=Lh) (x:=x) (l:=l) λhm=>h (DU _ hm)
  have hg:f≠g:=by rintro rfl; exact h DT
  unfold hin at ih ⊢
  rw [E0]
  conv=>lhs; unfold mput
  rw [if_neg (by simp only; omega),ih]; rfl
def tbl:List (Int×Nat):=mput 17 29 (mput 9 28 (mput 8 27 (mput 6 26 (mput 4 25 (mput 2 24 (mput 1 23 ([]:List (Int×Nat))))))))
def nd(life:Int)(self:Nat)(size:Int)(Lo:List Rec)(Lh:Nat→List Rec):aa:=⟨life,1,(self:Int),st dN size Lo,hin size Lh (hl self),tbl⟩
section
variable {size sz life:Int} {R N self:Nat} {e:Dk} {Lo:List Rec} {Lh:Nat→List Rec}
theorem B9(self m:Nat):(List.range' 1 (m+1)).filter (λg=>decide (g≠self))=(List.range' 1 m).filter (λg=>decide (g≠self))++if m+1≠self then [m+1] else []:=by
 rw [List.range'_1_concat,List.filter_append,Nat.add_comm 1 m]
 congr 1
 by_cases hfs:m+1=self <;> simp [hfs]
theorem rO(h:NdI size R N e (tab Lo Lh))(hR:R≤MX)(hN:4*N+10≤lim)(hs:size=max sz 16):∀(k f F:Nat),f+k=9→1≤f →
  loopN (eE ⟨1,(self:Int)⟩ sz life (st dN size Lo)) (F+k+1) ((f:Int),hin size Lh ((List.range' 1 (f - 1)).filter λg=>decide (g≠self)),e)=some (e,some (nd life self size Lo Lh),0)
 | 0,f,F,hf,h1=>by
  rw [gO]
  generalize loopN (eE ⟨1,(self:Int)⟩ sz life (st dN size Lo)) (F+0)=g
  unfold eE
  simp only
  rw [ay (decide_eq_false (by omega)),show f - 1=8 by omega]; rfl
 | k+1,f,F,hf,h1=>by
  have ih:=rO h hR hN hs k (f+1) F (by omega) (by omega)
  rw [show F+(k+1)+1=(F+k+1)+1 by omega,gO]
  generalize loopN (eE ⟨1,(self:Int)⟩ sz life (st dN size Lo)) (F+k+1)=g at ih ⊢
  have hw:w64 ((f:Int)+1)=((f+1:Nat):Int):=by rw [bO (by unfold I64; omega)]; omega
  have hrg:(List.range' 1 (f+1 - 1)).filter (λg=>decide (g≠self))=(List.range' 1 (f - 1)).filter (λg=>decide (g≠self))++if f≠self then [f] else []:=by
   have h2:=B9 self (f - 1)
   have e1:f - 1+1=f:=by omega
   rw [e1] at h2
   have e2:f+1 - 1=f:=by omega
   rw [e2]; exact h2
  unfold eE iz
  simp only
  rw [bq (by rw [DQ]; omega),hw]
  by_cases hfs:f=self
  ·rw [bq (by subst hfs; simp)]
   rw [hrg,if_neg (by simp [hfs]),Eb] at ih
   exact ih
  ·have hnm:f ∉ (List.range' 1 (f - 1)).filter λg=>decide (g≠self):=λhm=>by
    have:=(List.mem_filter.1 hm).1
    rw [List.mem_range'_1] at this; omega
   have hsz:(⟨(ds f).toArray⟩:ByteArray).size≤2:=qc (k:=1) (by omega)
   rw [ay (by simp; omega),sa (by omega),E2,De h1 (by omega),ao (by rw [DQ,aK]; omega),ao (by rw [DQ,aK]; show 2≤_; decide),h.open_ (CP h1 (by omega)) hR hN hs,E2]
   simp only
   rw [E2,ao (by rw [uz,if_neg hnm]; rfl),ay (by decide),oG hnm]
   rw [hrg,if_pos hfs] at ih
   have hap:hin size Lh ((List.range' 1 (f - 1)).filter (λg=>decide (g≠self))++[f])=hin size Lh ((List.range' 1 (f - 1)).filter λg=>decide (g≠self))++[((f:Int),st (hn f) size (Lh f))]:=by
    unfold hin; rw [E9]; rfl
   rw [hap] at ih
   exact ih
theorem AN(h:NdI size R N e (tab Lo Lh))(hR:R≤MX)(hN:4*N+10≤lim)(hs:size=max sz 16)(h1:1≤self)(h8:self≤8)(hl0:0≤life):jr e ⟨1,(self:Int)⟩ sz life=some (e,some (nd life self size Lo Lh),0):=by
 unfold jr
 have hc:(((((decide (life<0))||(decide ((1:Int)<1)))||(decide (16<(1:Int))))||(decide ((self:Int)<1)))||(decide (8<(self:Int))))=false:=by simp; omega
 simp only
 rw [hc,ay rfl]
 have hd:=h.open_ zU hR hN hs
 unfold dN at hd
 rw [hd,E2]
 simp only
 rw [ay (by decide),E2]
 obtain⟨F,hF⟩:∃F,FU=F+8+1:=⟨FU - 9,by unfold FU; omega⟩
 rw [hF]
 exact rO h hR hN hs 8 1 F rfl (E6 _)
theorem nd0{room:Int}:NdI size (rm room) 0 (d0 room) (tab [] λ_=>[]):=by
 have hz:∀nm L,tab [] (λ_=>[]) nm=some L→Nm nm∧L = []:=λnm L hS=>by
  unfold tab at hS
  by_cases hd:nm=dN
  ·rw [if_pos hd] at hS; injection hS with hS; exact⟨hd▸CR,hS.symm⟩
  ·rw [if_neg hd] at hS
   cases hf:(List.range' 1 8).find? (λg=>decide (nm=hn g)) with
   | none=>rw [hf] at hS; cases hS
   | some g=>
    rw [hf] at hS
    have hg0:=List.find?_some (p:=λg=>decide (nm=hn g)) hf
    have hg:nm=hn g:=DP hg0
    have hm:=List.mem_of_find?_eq_some hf
    rw [List.mem_range'_1] at hm
    have h2:hn g=⟨[104,UInt8.ofNat (48+g)].toArray⟩:=rfl
    refine⟨?_,by injection hS with hS; exact hS.symm⟩
    rw [hg,h2]
    refine Db (show 1≤2 by decide) (show 2≤2 by decide) λc hc=>?_
    rcases List.mem_cons.1 hc with rfl | hc
    ·decide
    ·rw [List.mem_singleton.1 hc]
     rcases to8 hm.1 (by omega) with rfl | rfl | rfl | rfl | rfl | rfl | rfl | rfl <;> decide
 refine⟨di0 room,rfl,λnm L hS=>?_,λk hk=>by cases hk⟩
 obtain⟨h1,rfl⟩:=hz nm L hS
 exact⟨h1,⟨E7 _,λk _ _=>rfl⟩,(λr hr=>by cases hr),(λx hx=>by cases hx),E7 _⟩
end
theorem CX{v:Ver}(h:VeOk v):Mg.VerOk v:=by
 have h1:=h.s; have h2:=h.n; have h3:=h.pl; have h5:=h.val
 refine⟨⟨by unfold I64; omega,by unfold I64; omega⟩,by rw [aK]; omega,λx hx=>?_,by rw [aK]; omega⟩
 have:=h.past x hx
 unfold SpOk at this
 unfold I64; omega
theorem Be{r:Rec}(h:ReOk r):Mg.VersOk r.vers:=⟨by have:=h.vl; rw [aK]; omega,λv hv=>CX (h.vers v hv)⟩
def gvs(L:List Rec)(k:ByteArray):List Ver:=decV ((mget k (fp L)).getD [])
section
variable {L:List Rec} (hrt:∀r∈L,Rt r)
include hrt
theorem xM(k:ByteArray):(gvs L k = []∧mget k (fp L)=none)∨∃r,Rt r∧r.key=k∧r.vers≠[]∧gvs L k=r.vers∧mget k (fp L)=some (reB r):=by
 unfold gvs
 cases hg:mget k (fp L) with
 | none=>
  refine .inl ⟨?_,rfl⟩
  show decV [] = []
  unfold decV; rw [tR]
 | some b=>
  obtain⟨r,h1,h2,h3,rfl⟩:=(KI.of hrt).en k b hg
  refine .inr ⟨r,h1,h2,h3,?_,rfl⟩
  show decV (reB r)=_
  unfold decV; rw [yU h1.2 h1.1]
theorem BS(k:ByteArray):Mg.VersOk (gvs L k):=by
 rcases xM hrt k with ⟨h,_⟩ | ⟨r,h1,_,_,h,_⟩
 ·rw [h]; exact⟨E7 _,λv hv=>by cases hv⟩
 ·rw [h]; exact Be h1.2
theorem C0(nm:ByteArray)(size:Int)(k:ByteArray):bD (st nm size L) k=some (gvs L k):=Bv (KI.of hrt) k
theorem AW(nm:ByteArray)(size:Int)(hn:L.length≤lim):bP (st nm size L)=some (sd (fp L)):=CF (KI.of hrt) (Nat.le_trans (rK L) hn)
end
theorem xS(S:Tab)(nm:ByteArray)(L L':List Rec):upd1 (upd1 S nm L) nm L'=upd1 S nm L':=by
 funext k
 unfold upd1
 by_cases hk:k=nm
 ·rw [if_pos hk,if_pos hk]
 ·rw [if_neg hk,if_neg hk,if_neg hk]
theorem tK{S:Tab}{nm:ByteArray}{L:List Rec}(h:S nm=some L)(k:ByteArray):upd1 S nm L k=S k:=by
 unfold upd1
 by_cases hk:k=nm
 ·rw [if_pos hk,hk,h]
 ·rw [if_neg hk]
section
variable {size:Int} {R:Nat} {nm:ByteArray}
theorem yy(hR:R≤MX)(hs0:0≤size)(hs1:size≤9223372036854775807):∀(l:List Rec) (i N:Nat) (e:Dk) (S:Tab) (L:List Rec),NdI size R N e S→S nm=some L→(∀r∈l,Mg.VersOk r.vers)→N+l.length≤lim →
  ∃L' e' c,forI (ef) (λ(o3,o6)=>(some (o3,o6,(0:Int)))) i l (st nm size L,e)=some (st nm size L',e',c)∧NdI size R (N+l.length) e' (upd1 S nm L')∧mget okF e'.seen=mget okF e.seen
 | [],i,N,e,S,L,h,hS,_,_=>⟨L,e,0,rfl,h.tab (tK hS),rfl⟩
 | r::l,i,N,e,S,L,h,hS,hv,hN=>by
  rw [DY] at hN ⊢
  have hg:=h.g nm L hS
  have ha:=BS hg.rt r.key
  have hb:=hv r DT
  show ∃L' e' c,ef (forI ef (λ(o3,o6)=>(some (o3,o6,(0:Int)))) (i+1) l) i r (st nm size L,e)=_∧_
  have rest:∀M e1 L1,N≤M→M≤N+1→NdI size R M e1 (upd1 S nm L1)→mget okF e1.seen=mget okF e.seen→∃L' e' c,forI ef (λ(o3,o6)=>(some (o3,o6,(0:Int)))) (i+1) l (st nm size L1,e1)=some (st nm size L',e',c)∧NdI size R (N+(l.length+1)) e' (upd1 S nm L')∧mget okF e'.seen=mget okF e.seen:=by
   intro M e1 L1 hM hM2 h1 h2
   obtain⟨L',e',c,q1,q2,q3⟩:=yy hR hs0 hs1 l (i+1) M e1 (upd1 S nm L1) L1 h1 (by unfold upd1; rw [if_pos rfl]) (λx hx=>hv x (DU _ hx)) (by omega)
   rw [xS] at q2
   exact⟨L',e',c,q1,q2.mono (by omega),q3.trans h2⟩
  generalize forI ef (λ(o3,o6)=>(some (o3,o6,(0:Int)))) (i+1) l=f at rest ⊢
  unfold ef gE
  simp only
  rw [C0 hg.rt,E2,Mg.e_Merge ha hb,E2,Mg.e_vsSameL,bX,E2]
  have h0:=h.tab (tK hS)
  generalize hz:Mg.vsMerge (gvs L r.key) r.vers=z
  have hzl:z.1.length≤lim:=by
   have:=Mg.merge_len (gvs L r.key) r.vers
   rw [← Mg.merge_eq,hz] at this
   rw [aK]; omega
  cases hc:((z.2==0)&&!(bif z.2==0 then Mg.vsSameL z.1 (gvs L r.key) else default)) with
  | true=>
   rw [bq rfl]
   obtain⟨L1,e1,c1,p1,p2,p3,_⟩:=h.put hS hR hs0 hs1 (by omega) (r:=⟨r.key,z.1⟩) hzl
   rw [p1,E2]
   simp only
   cases hc1:(c1 != 0) with
   | true=>rw [bq rfl]; exact⟨L1,e1,c1,rfl,p2.mono (by omega),p3⟩
   | false=>rw [ay rfl]; exact rest (N+1) e1 L1 (by omega) (E6 _) p2 p3
  | false=>
   rw [ay rfl]
   cases hc1:(z.2 != 0) with
   | true=>rw [bq rfl]; exact⟨L,e,z.2,rfl,h0.mono (by omega),rfl⟩
   | false=>rw [ay rfl]; exact rest N e L (E6 _) (by omega) h0 rfl
end
theorem mf{β:Type}[Inhabited β]{p:β→Prop}{x:Option β}(c:Bool)(h:∃b,x=some b∧p b):∃b,bM c x=some b∧(c=true→p b):=by
 obtain⟨b,h1,h2⟩:=h
 cases c with
 | true=>exact⟨b,h1,λ_=>h2⟩
 | false=>exact⟨default,rfl,λh=>by cases h⟩
end Fw
end Go.Proofs.YtgaplodcdhhefaaGreat
