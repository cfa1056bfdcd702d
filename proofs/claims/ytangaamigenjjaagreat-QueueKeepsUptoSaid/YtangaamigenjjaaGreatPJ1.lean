/- The plain side: what the models come to. No condition. -/
import Derived.Test.YtangaamigenjjaaGreatM
namespace Go.Proofs.YtangaamigenjjaaGreat
namespace Fw
set_option linter.unusedVariables false
set_option linter.unusedSimpArgs false
set_option linter.unusedSectionVars false
section
variable {α S R:Type} [Inhabited α]
theorem yh{body:(S→Option R)→Nat→α→S→Option R}{k:S→Option R}{l:List α}(T:Nat→S→Option R)(I:Nat→S→Prop)(hend:∀s,I l.length s→k s=T l.length s)
  (hstep:∀f i s,i<l.length→I i s→(∀s',I (i+1) s'→f s'=T (i+1) s')→body f i (gt l i) s=T i s) {s:S} (h0:I 0 s):forI body k 0 l s=T 0 s:=by
 have key:∀m i s,l.length - i=m→i≤l.length→I i s→forI body k i (l.drop i) s=T i s:=by
  intro m
  induction m with
  | zero=>
   intro i s hm hi hI
   have:i=l.length:=by omega
   subst this
   rw [Cx (CD _)]
   exact hend s hI
  | succ m ih=>
   intro i s hm hi hI
   rw [j8 (by omega)]
   exact hstep _ i s (by omega) hI λs' h'=>ih (i+1) s' (by omega) (by omega) h'
 exact key _ 0 s rfl (CE _) h0
theorem yz{body:(S→Option R)→Nat→S→Option R}{k:S→Option R}{n:Nat}{r:Option R}(I:Nat→S→Prop)
  (hend:∀s,I n s→k s=r) (hstep:∀f i s,i<n→I i s→(∀s',I (i+1) s'→f s'=r)→body f i s=r) {s:S} (h0:I 0 s):forU body k n 0 s=r:=by
 have key:∀m i s,i+m=n→I i s→forU body k m i s=r:=by
  intro m
  induction m with
  | zero=>
   intro i s hm hI
   obtain rfl:i=n:=by omega
   exact hend s hI
  | succ m ih=>
   intro i s hm hI
   exact hstep _ i s (by omega) hI λs' h'=>ih (i+1) s' (by omega) h'
 exact key n 0 s (by omega) h0
end
theorem jM{R:Type}[Inhabited R](g:Bool)(v:R):dP g (some v)=some (bif g then v else default):=by cases g <;> rfl
theorem aH{R:Type}{c:Bool}{k:Option R}(h:c=true):chk c k=k:=by rw [h]; rfl
theorem cg{R:Type}{c:Bool}{x y:R}(h:c=true):(bif c then x else y)=x:=by rw [h]; rfl
theorem aJ{R:Type}{c:Bool}{x y:R}(h:c=false):(bif c then x else y)=y:=by rw [h]; rfl
instance:LawfulBEq ByteArray where
 eq_of_beq {a b} h:=by rw [pB] at h; exact Cl h
 rfl {a}:=by rw [pB]; exact CB rfl
section
variable {κ α:Type} [DecidableEq κ] {x y:κ} {v:α} {es:List (κ×α)}
def NK(es:List (κ×α)):Prop:=(es.map (·.1)).Nodup
theorem NK.nil:NK ([]:List (κ×α)):=by simp [NK]
theorem NK.cons{p:κ×α}:NK (p::es)↔(∀q∈es,q.1≠p.1)∧NK es:=by
 unfold NK
 rw [Cw,List.nodup_cons]
 refine⟨λh=>⟨λq hq e=>h.1 (by rw [← e]; exact List.mem_map.2 ⟨q,hq,rfl⟩),h.2⟩,λh=>⟨λhm=>?_,h.2⟩⟩
 obtain⟨q,hq,e⟩:=List.mem_map.1 hm
 exact h.1 q hq e
theorem mJ:(mget x es).isSome=true↔x∈es.map (·.1):=by
 induction es with
 | nil=>simp [mget]
 | cons p es ih=>
  unfold mget
  split
  ·rename_i h; simp [h]
  ·rename_i h; rw [ih]; simp [h]
theorem su{p:κ×α}:∀{es:List (κ×α)},p∈mput x v es→p=(x,v)∨p∈es
 | [],h=>by simp only [mput,List.mem_singleton] at h; exact .inl h
 | q::es,h=>by
  unfold mput at h
  split at h
  ·rcases List.mem_cons.1 h with h | h
   ·exact .inl h
   ·exact .inr (Cq _ h)
  ·rcases List.mem_cons.1 h with h | h
   ·exact .inr (h▸Cp)
   ·exact(su h).imp id (Cq _)
theorem sd{p:κ×α}:∀{es:List (κ×α)},p∈mdel x es→p∈es
 | [],h=>by cases h
 | q::es,h=>by
  unfold mdel at h
  split at h
  ·exact Cq _ h
  ·rcases List.mem_cons.1 h with h | h
   ·exact h▸Cp
   ·exact Cq _ (sd h)
theorem NK.put:∀{es:List (κ×α)},NK es→NK (mput x v es)
 | [],_=>by simp [NK,mput]
 | p::es,h=>by
  rw [NK.cons] at h
  unfold mput
  split
  ·rename_i e; rw [NK.cons]; exact⟨λq hq=>by rw [e]; exact h.1 q hq,h.2⟩
  ·rename_i e
   rw [NK.cons]
   refine⟨λq hq=>?_,h.2.put⟩
   rcases su hq with rfl | hq
   ·exact e
   ·exact h.1 q hq
theorem NK.del:∀{es:List (κ×α)},NK es→NK (mdel x es)
 | [],_=>by simp [NK,mdel]
 | p::es,h=>by
  rw [NK.cons] at h
  unfold mdel
  split
  ·exact h.2
  ·rw [NK.cons]; exact⟨λq hq=>h.1 q (sd hq),h.2.del⟩
theorem vp(h:∀q∈es,q.1≠x):mget x es=none:=by
 induction es with
 | nil=>rfl
 | cons p es ih=>
  unfold mget
  rw [if_neg (λe=>h p Cp e.symm)]
  exact ih λq hq=>h q (Cq _ hq)
theorem na:∀{es:List (κ×α)},NK es→mget y (mdel x es)=if y=x then none else mget y es
 | [],_=>by simp [mget,mdel]
 | p::es,h=>by
  rw [NK.cons] at h
  unfold mdel
  split
  ·rename_i e
   by_cases hy:y=x
   ·rw [if_pos hy,hy,e]; exact vp h.1
   ·rw [if_neg hy,mget,if_neg (λe2=>hy (e2.trans e.symm))]
  ·rename_i e
   rw [mget,na h.2]
   by_cases hy:y=p.1
   ·rw [if_pos hy,if_neg (λe2=>e (e2.symm.trans hy)),mget,if_pos hy]
   ·rw [if_neg hy,mget,if_neg hy]
theorem qW:∀{es:List (κ×α)},(mput x v es).length≤es.length+1
 | []=>by simp [mput]
 | p::es=>by
  unfold mput
  split
  ·simp
  ·have:=qW (es:=es); simp only [Cu]; omega
theorem tV:∀{es:List (κ×α)},(mdel x es).length≤es.length
 | []=>by simp [mdel]
 | p::es=>by
  unfold mdel
  split
  ·simp
  ·have:=tV (es:=es); simp only [Cu]; omega
end
def sz(es:List (ByteArray×List UInt8)):Nat:=(es.map (λp=>p.2.length)).sum
section
variable {x:ByteArray} {v:List UInt8} {es:List (ByteArray×List UInt8)}
theorem xW:sz (mput x v es)+((mget x es).getD []).length=sz es+v.length:=by
 induction es with
 | nil=>simp [sz,mput,mget]
 | cons p es ih=>
  unfold mput mget
  split
  ·simp [sz]; omega
  ·simp only [sz,Cw,List.sum_cons] at ih ⊢; omega
theorem v6:sz (mdel x es)+((mget x es).getD []).length=sz es:=by
 induction es with
 | nil=>simp [sz,mdel,mget]
 | cons p es ih=>
  unfold mdel mget
  split
  ·simp [sz]; omega
  ·simp only [sz,Cw,List.sum_cons] at ih ⊢; omega
theorem uT:((mget x es).getD []).length≤sz es:=by have:=v6 (x:=x) (es:=es); omega
end
theorem kT{a b:ByteArray}(h:a.data.toList=b.data.toList):a=b:=by
 rcases a with ⟨⟨a⟩⟩
 rcases b with ⟨⟨b⟩⟩
 simp only at h
 rw [h]
theorem sr{β:Type}{es:List (ByteArray×β)}{k:ByteArray}:k∈fH es↔k∈es.map (·.1):=by
 rw [mQ]
 simp only [List.mem_map,List.mem_mergeSort]
 constructor
 ·rintro⟨l,⟨p,hp,rfl⟩,rfl⟩; exact⟨p,hp,kT (by simp)⟩
 ·rintro⟨p,hp,rfl⟩; exact⟨_,⟨p,hp,rfl⟩,kT (by simp)⟩
theorem xY{β:Type}{es:List (ByteArray×β)}(hn:NK es):(fH es).Nodup:=by
 rw [mQ]
 refine List.Pairwise.map _ (R:=λa b=>a≠b) (λa b h e=>h ?_) ?_
 ·have:=congrArg (λx:ByteArray=>x.data.toList) e
  simpa using this
 ·have:(es.map (λp=>p.1.data.toList)).Nodup:=by
   rw [show (λp:ByteArray×β=>p.1.data.toList)=((λb:ByteArray=>b.data.toList)∘(·.1)) from rfl, ← CM]
   exact List.Pairwise.map _ (λa b h e=>h (kT e)) hn
  exact(List.mergeSort_perm _ _).nodup_iff.2 this
theorem j6{S R:Type}{b:(S→Option R)→S→Option R}{n:Nat}{s:S}:loopN b (n+1) s=b (loopN b n) s:=rfl
def pn(n:Nat):List UInt8:=if n<128 then [UInt8.ofNat n] else UInt8.ofNat (n % 128+128)::pn (n / 128)
 decreasing_by omega
theorem sy{n:Nat}(h:n<128):pn n = [UInt8.ofNat n]:=by unfold pn; rw [if_pos h]
theorem w6{n:Nat}(h:¬ n<128):pn n=UInt8.ofNat (n % 128+128)::pn (n / 128):=by rw [pn,if_neg h]
theorem uS:∀(k n:Nat),n<128 ^ (k+1)→(pn n).length≤k+1:=by
 intro k
 induction k with
 | zero=>intro n h; rw [sy (by omega)]; simp
 | succ k ih=>
  intro n h
  by_cases h1:n<128
  ·rw [sy h1]; simp
  ·rw [w6 h1]
   have:=ih (n / 128) (by rw [Nat.pow_succ] at h; omega)
   simp; omega
theorem yZ(n:Nat):0<(pn n).length:=by
 by_cases h1:n<128
 ·rw [sy h1]; simp
 ·rw [w6 h1]; simp
theorem ior8:∀k:Fin 256,ior .u8 (k.val:Int) 128=(k.val % 128+128:Nat):=by decide +kernel
theorem Bl:∀k:Fin 256,iand .u8 (k.val:Int) 127=(k.val % 128:Nat):=by decide +kernel
theorem xB:∀(k u F:Nat) (b:List UInt8),u<128 ^ (k+1)→b.length+k+1≤lim→loopN ef (F+k+1) (b,(u:Int))=some (b++pn u):=by
 intro k
 induction k with
 | zero=>
  intro u F b h hb
  rw [j6]
  generalize loopN ef (F+0)=f
  unfold ef
  simp only
  rw [aJ (by rw [Cn]; omega),aH (by simp; omega),sy (by omega),vC (by unfold U8; omega)]
  rfl
 | succ k ih=>
  intro u F b h hb
  rw [show F+(k+1)+1=(F+k+1)+1 by omega,j6]
  generalize hf:loopN ef (F+k+1)=f
  unfold ef
  simp only
  by_cases h1:u<128
  ·rw [aJ (by rw [Cn]; omega),aH (by simp; omega),sy h1,vC (by unfold U8; omega)]; rfl
  ·have e1:wu8 (u:Int)=(((⟨u % 256,by omega⟩:Fin 256).val:Nat):Int):=by unfold wu8; simp
   rw [cg (by rw [Cm]; omega),e1,ior8]
   have e2:(u % 256 % 128+128:Nat)=u % 128+128:=by omega
   simp only [e2]
   rw [aH (by unfold u8b; simp; omega),aH (by simp; omega)]
   have e3:ishr .u64 (u:Int) 7=((u / 128:Nat):Int):=by unfold ishr; rfl
   rw [e3, ← hf,ih (u / 128) F _ (by rw [Nat.pow_succ] at h; omega) (by simp; omega),w6 h1]
   unfold b8
   rw [Cv,Cr]; rfl
theorem oI{n:Nat}(h:n<9223372036854775808):ei (n:Int)=some (pn n):=by
 unfold ei
 rw [show wu64 (max (n:Int) 0)=(n:Int) by rw [kK (by unfold U64; omega)]; omega]
 obtain⟨F,hF⟩:∃F,FU=F+8+1:=⟨FU - 9,by unfold FU; omega⟩
 rw [hF]
 exact xB 8 n F [] (by omega) (by rw [aY]; simp)
def numF:Nat→Nat→List UInt8→Nat×Nat×Int
 | _,_,[]=>(0,0,4)
 | i,n,c::l=>if (i=8∧127<c.toNat)∨(0<i∧c.toNat=0) then (0,0,2) else if c.toNat<128 then (n+c.toNat*128 ^ i,i+1,0) else numF (i+1) (n+(c.toNat - 128)*128 ^ i) l
theorem p128(i:Nat):(128:Nat) ^ i=2 ^ (7*i):=by rw [Nat.pow_mul]
theorem p8{i:Nat}(h:i≤8):(128:Nat) ^ i≤72057594037927936:=Nat.le_trans (Nat.pow_le_pow_right (by decide) h) (by decide)
theorem oA{i n c:Nat}(hn:n<128 ^ i)(hc:c<128):n+c*128 ^ i<128 ^ (i+1):=by
 have:(c+1)*128 ^ i≤128*128 ^ i:=Nat.mul_le_mul_right _ hc
 rw [Nat.add_mul] at this
 rw [Nat.pow_succ,Nat.mul_comm (128 ^ i)]
 omega
theorem ua{i n c:Nat}(hi:i≤8)(hn:n<128 ^ i)(hc:c<128):ior .u64 (n:Int) (ishl .u64 (wu64 (c:Int)) (w64 (7*((i:Nat):Int))))=((n+c*128 ^ i:Nat):Int):=by
 have hp:=p8 hi
 have hs:=oA hn hc
 have hp9:(128:Nat) ^ (i+1)=128*128 ^ i:=by rw [Nat.pow_succ,Nat.mul_comm]
 have e1:w64 (7*((i:Nat):Int))=((7*i:Nat):Int):=by rw [cL (by unfold I64; omega)]; simp
 have e2:ishl .u64 (wu64 (c:Int)) ((7*i:Nat):Int)=((c*128 ^ i:Nat):Int):=by
  unfold ishl
  rw [kK (x:=(c:Int)) (by unfold U64; omega),Cv,show min (7*i) (IntKind.u64).bits=7*i from by show min (7*i) 64=_; omega]
  have:(c:Int)*2 ^ (7*i)=((c*128 ^ i:Nat):Int):=by rw [p128]; push_cast; rfl
  rw [this]
  show wu64 _=_
  exact kK (by unfold U64; omega)
 rw [e1,e2]
 unfold ior
 show wu64 _=_
 have e3:(BitVec.ofInt 64 (n:Int) ||| BitVec.ofInt 64 ((c*128 ^ i:Nat):Int)).toNat=n+c*128 ^ i:=by
  rw [BitVec.toNat_or,BitVec.ofInt_natCast,BitVec.ofInt_natCast,BitVec.toNat_ofNat,BitVec.toNat_ofNat,Nat.mod_eq_of_lt (by omega),Nat.mod_eq_of_lt (by omega)]
  have:=Nat.shiftLeft_add_eq_or_of_lt (a:=c) (b:=n) (i:=7*i) (by rw [← p128]; exact hn)
  rw [Nat.shiftLeft_eq, ← p128] at this
  rw [Nat.or_comm, ← this]; omega
 show wu64 (((BitVec.ofInt 64 (n:Int) ||| BitVec.ofInt 64 ((c*128 ^ i:Nat):Int)).toNat:Nat):Int)=_
 rw [e3]
 exact kK (by unfold U64; omega)
def numR(at_:Nat)(r:Nat×Nat×Int):Int×Int×Int:=((r.1:Int),(if r.2.2=0 then ((at_+r.2.1:Nat):Int) else 0),r.2.2)
theorem xD{b:List UInt8}{at_:Nat}{K:Int→Option (Int×Int×Int)}(hb:b.length≤lim)(ha:at_≤b.length)(hK:∀n,K n=some (0,0,4)):∀(l:List UInt8) (i n:Nat),(b.drop at_).drop i=l→i≤8→n<128 ^ i →
  forI (je b (at_:Int)) K i l (n:Int)=some (numR at_ (numF i n l)):=by
 intro l
 induction l with
 | nil=>intro i n _ _ _; unfold forI; rw [hK]; rfl
 | cons c l ih=>
  intro i n hd hi hn
  have hg:gt (List.drop at_ b) i=c:=by
   have hlt:i<(b.drop at_).length:=by
    rcases Nat.lt_or_ge i (b.drop at_).length with h | h
    ·exact h
    ·rw [Cx h] at hd; cases hd
   rw [j8 hlt] at hd
   injection hd
  have hd2:(b.drop at_).drop (i+1)=l:=by
   have:=congrArg List.tail hd
   rw [List.tail_drop] at this
   exact this
  have hlen:i+1≤(b.drop at_).length:=by
   have:=congrArg List.length hd
   simp at this ⊢; omega
  rw [CT] at hlen
  rw [aY] at hb
  have hc:=c.toNat_lt
  rw [forI]
  generalize hf:forI (je b (at_:Int)) K (i+1) l=f
  unfold je j5 jK numF
  rw [Cv,hg]
  by_cases h8:i=8∧127<c.toNat
  ·have q:((((i:Nat):Int)==8)&&(decide (127<((c.toNat:Nat):Int))))=true:=by simp; omega
   rw [q,if_pos (.inl h8)]; rfl
  ·have q:((((i:Nat):Int)==8)&&(decide (127<((c.toNat:Nat):Int))))=false:=by
    rw [Bool.eq_false_iff]; intro h; simp at h; exact h8 ⟨by omega,by omega⟩
   rw [q,aJ rfl]
   by_cases h0:0<i∧c.toNat=0
   ·have q2:((decide (0<((i:Nat):Int)))&&(((c.toNat:Nat):Int)==0))=true:=by simp; omega
    rw [q2,cg rfl,if_pos (.inr h0)]; rfl
   ·have q2:((decide (0<((i:Nat):Int)))&&(((c.toNat:Nat):Int)==0))=false:=by
     rw [Bool.eq_false_iff]; intro h; simp only [Cs,Cm,beq_iff_eq] at h; exact h0 ⟨by omega,by omega⟩
    rw [q2,aJ rfl,if_neg (by rintro (h | h); exact h8 h; exact h0 h)]
    have hp:=p8 hi
    have hp9:(128:Nat) ^ (i+1)=128*128 ^ i:=by rw [Nat.pow_succ,Nat.mul_comm]
    by_cases h128:c.toNat<128
    ·have hs:=oA hn h128
     rw [cg (by simp; omega),if_pos h128,ua hi hn h128,aH (by rw [cL (by unfold I64; omega)]; simp; omega)]
     unfold numR
     rw [if_pos rfl]
     rw [cL (x:=(at_:Int)+(i:Int)) (by unfold I64; omega),cL (x:=(at_:Int)+(i:Int)+1) (by unfold I64; omega),cL (by unfold I64; omega)]
     congr 3 <;> push_cast <;> omega
    ·have e1:=Bl ⟨c.toNat,hc⟩
     have hm:c.toNat % 128=c.toNat - 128:=by omega
     simp only [hm] at e1
     have hs:=oA (i:=i) (n:=n) (c:=c.toNat - 128) hn (by omega)
     rw [aJ (by simp; omega),if_neg h128,aH (by rw [cL (by unfold I64; omega)]; simp; omega),e1,ua hi hn (by omega)]
     rw [← hf]
     exact ih (i+1) _ hd2 (by omega) hs
theorem xj{b:List UInt8}{at_:Nat}(hb:b.length≤lim)(ha:at_≤b.length):fN b (at_:Int)=some (numR at_ (numF 0 0 (b.drop at_))):=by
 unfold fN
 rw [aJ (by simp; omega),aH (by simp [inle]; omega),Cv]
 exact xD hb ha (λn=>rfl) _ 0 0 rfl (by omega) (by simp)
theorem yv:∀(m i n:Nat) (rest:List UInt8),(0<i→0<m)→i+(pn m).length≤9→numF i n (pn m++rest)=(n+m*128 ^ i,i+(pn m).length,0):=by
 intro m
 induction m using Nat.strongRecOn with
 | _ m ih=>
  intro i n rest h0 h9
  by_cases h1:m<128
  ·rw [sy h1] at *
   have e:(UInt8.ofNat m).toNat=m:=by rw [UInt8.toNat_ofNat_of_lt']; show m<256; omega
   simp only [List.cons_append,CK,Cu,CH]
   unfold numF
   rw [e,if_neg (by rintro (h | h); omega; exact absurd (h0 h.1) (by omega)),if_pos h1]
  ·have hp:=yZ (m / 128)
   rw [w6 h1] at h9 ⊢
   simp only [Cu] at h9
   have e:(UInt8.ofNat (m % 128+128)).toNat=m % 128+128:=by rw [UInt8.toNat_ofNat_of_lt']; show m % 128+128<256; omega
   simp only [List.cons_append,Cu]
   unfold numF
   rw [e,if_neg (by rintro (h | h); omega; omega),if_neg (by omega),ih (m / 128) (by omega) (i+1) _ rest (by omega) (by omega)]
   have hm:m=128*(m / 128)+m % 128:=by omega
   have:n+(m % 128+128 - 128)*128 ^ i+m / 128*128 ^ (i+1)=n+m*128 ^ i:=by
    rw [Nat.add_sub_cancel,Nat.pow_succ,Nat.mul_comm (128 ^ i) 128, ← Nat.mul_assoc,Nat.add_assoc, ← Nat.add_mul]
    congr 2; omega
   rw [this]; congr 2; omega
theorem vY:∀(l:List UInt8) (i n:Nat),i≤8→n<128 ^ i→((numF i n l).2.2=0∧i<(numF i n l).2.1∧(numF i n l).2.1≤i+l.length∧(numF i n l).1<9223372036854775808)∨(numF i n l).2.2=2∨(numF i n l).2.2=4:=by
 intro l
 induction l with
 | nil=>intro i n _ _; exact .inr (.inr rfl)
 | cons c l ih=>
  intro i n hi hn
  have hc:=c.toNat_lt
  unfold numF
  split
  ·exact .inr (.inl rfl)
  ·rename_i hx
   split
   ·rename_i h128
    have hs:=oA hn h128
    have hp:=p8 hi
    have hp9:(128:Nat) ^ (i+1)=128*128 ^ i:=by rw [Nat.pow_succ,Nat.mul_comm]
    exact .inl ⟨rfl,by simp,by simp,by simp; omega⟩
   ·rename_i h128
    have hi8:i≠8:=λh=>hx (.inl ⟨h,by omega⟩)
    rcases ih (i+1) (n+(c.toNat - 128)*128 ^ i) (by omega) (oA hn (by omega)) with h | h
    ·exact .inl ⟨h.1,by omega,by simp only [Cu]; omega,h.2.2.2⟩
    ·exact .inr h
def crcB(r:BitVec 32):BitVec 32:=(r >>> 1) ^^^ (3988292384#32 &&& -(r &&& 1#32))
def crcN:Nat→BitVec 32→BitVec 32
 | 0,r=>r
 | k+1,r=>crcN k (crcB r)
def crc(r:BitVec 32)(c:UInt8):BitVec 32:=crcN 8 (r ^^^ BitVec.ofNat 32 c.toNat)
def sumB(l:List UInt8):BitVec 32 := ~~~ (l.foldl crc 4294967295#32)
theorem oG(x:BitVec 32):BitVec.ofInt 32 ((x.toNat:Nat):Int)=x:=by rw [BitVec.ofInt_natCast,BitVec.ofNat_toNat]; simp
theorem wr32(x:BitVec 32):wr .u32 ((x.toNat:Nat):Int)=(x.toNat:Int):=by
 have:=x.isLt
 show wu32 _=_
 exact ya (by unfold U32; omega)
theorem vm(x y:BitVec 32):ixor .u32 (x.toNat:Int) (y.toNat:Int)=((x ^^^ y).toNat:Int):=by
 unfold ixor
 show wr .u32 (((BitVec.ofInt 32 (x.toNat:Int) ^^^ BitVec.ofInt 32 (y.toNat:Int)).toNat:Nat):Int)=_
 rw [oG,oG,wr32]
theorem yJ(x y:BitVec 32):iand .u32 (x.toNat:Int) (y.toNat:Int)=((x &&& y).toNat:Int):=by
 unfold iand
 show wr .u32 (((BitVec.ofInt 32 (x.toNat:Int) &&& BitVec.ofInt 32 (y.toNat:Int)).toNat:Nat):Int)=_
 rw [oG,oG,wr32]
theorem BM(x:BitVec 32):wu32 (0 - (x.toNat:Int))=((-x).toNat:Int):=by
 have:=x.isLt
 unfold wu32
 rw [BitVec.toNat_neg]
 omega
theorem zS(r:BitVec 32):ixor .u32 (ishr .u32 (r.toNat:Int) 1) (iand .u32 3988292384 (wu32 (0 - (iand .u32 (r.toNat:Int) 1))))=((crcB r).toNat:Int):=by
 have e1:iand .u32 (r.toNat:Int) 1=((r &&& 1#32).toNat:Int):=yJ r 1#32
 have e2:ishr .u32 (r.toNat:Int) 1=((r >>> 1).toNat:Int):=by
  unfold ishr
  show (r.toNat:Int) / 2 ^ 1=_
  rw [BitVec.toNat_ushiftRight,Nat.shiftRight_eq_div_pow]; push_cast; rfl
 rw [e1,e2,BM]
 have e3:iand .u32 3988292384 (((-(r &&& 1#32)).toNat:Nat):Int)=((3988292384#32 &&& -(r &&& 1#32)).toNat:Int):=yJ 3988292384#32 _
 rw [e3,vm]; rfl
theorem uB{f:Int→Option Int}:∀(k i:Nat) (r:BitVec 32),forU gX f k i (r.toNat:Int)=f ((crcN k r).toNat:Int)
 | 0,_,_=>rfl
 | k+1,i,r=>by
  rw [forU]
  show forU gX f k (i+1) (ixor .u32 (ishr .u32 (r.toNat:Int) 1) (iand .u32 3988292384 (wu32 (0 - (iand .u32 (r.toNat:Int) 1)))))=_
  rw [zS]
  exact uB k (i+1) (crcB r)
theorem tI{f:Int→Option Int}:∀(l:List UInt8) (i:Nat) (r:BitVec 32),forI ia f i l (r.toNat:Int)=f ((l.foldl crc r).toNat:Int)
 | [],_,_=>rfl
 | c::l,i,r=>by
  have hc:=c.toNat_lt
  have e:wu32 ((c.toNat:Nat):Int)=((BitVec.ofNat 32 c.toNat).toNat:Int):=by
   rw [BitVec.toNat_ofNat,ya (by unfold U32; omega),Nat.mod_eq_of_lt (by omega)]
  rw [forI]
  show forU gX (forI ia f (i+1) l) 8 0 (ixor .u32 (r.toNat:Int) (wu32 ((c.toNat:Nat):Int)))=_
  rw [e,vm,uB]
  exact tI l (i+1) (crc r c)
theorem sx{f:Int→Option Int}:∀(l:List (List UInt8)) (i:Nat) (r:BitVec 32),forI jA f i l (r.toNat:Int)=f ((l.flatten.foldl crc r).toNat:Int)
 | [],_,_=>rfl
 | p::l,i,r=>by
  rw [forI]
  show forI ia (forI jA f (i+1) l) 0 p (r.toNat:Int)=_
  rw [tI,CL,List.foldl_append]
  exact sx l (i+1) _
theorem As(l:List (List UInt8)):jt l=some ((sumB l.flatten).toNat:Int):=by
 unfold jt
 rw [show (4294967295:Int)=((4294967295#32).toNat:Int) from rfl,sx]
 unfold icom
 show some (ixor .u32 (((4294967295#32).toNat:Nat):Int) _)=_
 rw [vm]
 unfold sumB
 congr 2
def s4(s:BitVec 32):List UInt8:=[UInt8.ofNat (s.toNat % 256),UInt8.ofNat (s.toNat / 256 % 256),UInt8.ofNat (s.toNat / 65536 % 256),UInt8.ofNat (s.toNat / 16777216 % 256)]
theorem v7(s:BitVec 32):(s4 s).length=4:=rfl
theorem Ai(s:BitVec 32)(i:Nat)(hi:i<4):wu8 (ishr .u32 (s.toNat:Int) (w64 (8*((i:Nat):Int))))=((s.toNat / 2 ^ (8*i) % 256:Nat):Int):=by
 rw [cL (by unfold I64; omega)]
 unfold ishr wu8
 rw [show (8*(i:Int)).toNat=8*i by omega,show min (8*i) (IntKind.u32).bits=8*i from by show min (8*i) 32=_; omega]
 simp only [Int.natCast_emod,Int.natCast_ediv,Int.natCast_pow]; rfl
theorem Az(s:BitVec 32)(i:Nat)(hi:i<4):b8 (wu8 (ishr .u32 (s.toNat:Int) (w64 (8*((i:Nat):Int)))))=gt (s4 s) i:=by
 rw [Ai s i hi]
 unfold b8
 rw [Cv]
 match i,hi with
 | 0,_=>simp [s4,gt]
 | 1,_=>simp [s4,gt]
 | 2,_=>simp [s4,gt]
 | 3,_=>simp [s4,gt]
def fr(x:List UInt8):List UInt8:=pn x.length++(s4 (sumB (pn x.length++x))++x)
theorem rn(x:List UInt8):(fr x).length=(pn x.length).length+4+x.length:=by unfold fr; simp [v7]; omega
theorem pn3{n:Nat}(h:n≤1048576):(pn n).length≤3:=uS 2 n (by omega)
theorem BA{x:List UInt8}(h:x.length≤1048576):il x=some (fr x,0):=by
 have h3:=pn3 h
 unfold il
 rw [aJ (by rw [Cn]; omega),oI (by omega),Cy,As,Cy]
 simp only [CL,List.flatten_nil,CI]
 generalize hs:sumB (pn x.length++x)=s
 have hstep:∀(f:List UInt8→Option (List UInt8×Int)) (i:Nat) (out:List UInt8),i<4→out.length+1≤lim→ki (s.toNat:Int) f i out=f (out++[gt (s4 s) i]):=by
  intro f i out hi ho
  unfold ki
  rw [aH (by rw [cL (by unfold I64; omega)]; simp; omega),aH (by simpa using ho),Az s i hi]
 simp only [forU]
 rw [hstep _ 0 _ (by decide) (by rw [aY]; omega),hstep _ 1 _ (by decide) (by rw [aY]; simp; omega),hstep _ 2 _ (by decide) (by rw [aY]; simp; omega),hstep _ 3 _ (by decide) (by rw [aY]; simp; omega)]
 rw [aH (by rw [aY]; simp; omega)]
 unfold fr
 rw [hs]
 simp [s4,gt]
theorem vv{x:List UInt8}(h:1048576<x.length):il x=some ([],3):=by
 unfold il
 rw [cg (by rw [Cm]; omega)]
def dp(l:List UInt8):List UInt8×Nat×Int:=
 if (numF 0 0 l).2.2≠0 then ([],0,(numF 0 0 l).2.2) else if 1048576<(numF 0 0 l).1 then ([],0,3) else if l.length - (numF 0 0 l).2.1<(numF 0 0 l).1+4 then ([],0,4) else
 if (l.drop (numF 0 0 l).2.1).take 4=s4 (sumB (l.take (numF 0 0 l).2.1++(l.drop ((numF 0 0 l).2.1+4)).take (numF 0 0 l).1)) then ((l.drop ((numF 0 0 l).2.1+4)).take (numF 0 0 l).1,(numF 0 0 l).2.1+4+(numF 0 0 l).1,0) else ([],0,20)
theorem BL{l:List UInt8}{k:Nat}(h:k+4≤l.length):(l.drop k).take 4 = [gt l k,gt l (k+1),gt l (k+2),gt l (k+3)]:=by
 rw [j8 (by omega),j8 (k:=k+1) (by omega),j8 (k:=k+2) (by omega),j8 (k:=k+3) (by omega)]; rfl
def xu(at_:Nat)(r:List UInt8×Nat×Int):List UInt8×Int×Int:=(r.1,(if r.2.2=0 then ((at_+r.2.1:Nat):Int) else 0),r.2.2)
theorem BK{c:UInt8}{n:Nat}(h:n<256):(((c.toNat:Nat):Int) != ((n:Nat):Int))=!decide (c=UInt8.ofNat n):=by
 rw [Bool.eq_iff_iff]
 simp only [bne_iff_ne,Bool.not_eq_true',Cn]
 refine not_congr ⟨λe=>?_,λe=>?_⟩
 ·have:c.toNat=n:=by omega
  rw [← this]; simp
 ·rw [e,UInt8.toNat_ofNat_of_lt']; exact h
theorem B4{b:List UInt8}{at_:Nat}(hb:b.length≤lim)(ha:at_≤b.length):jI b (at_:Int)=some (xu at_ (dp (b.drop at_))):=by
 have hb':=hb
 rw [aY] at hb'
 have hok:=vY (b.drop at_) 0 0 (by omega) (by simp)
 unfold jI
 rw [xj hb ha,Cy]
 unfold dp numR xu
 generalize hr:numF 0 0 (b.drop at_)=r at hok ⊢
 obtain⟨n,k,e⟩:=r
 simp only at hok ⊢
 by_cases he:e=0
 ·subst he
  rcases hok with ⟨_,h1,h2,h3⟩ | h | h
  rotate_left
  ·exact absurd h (by decide)
  ·exact absurd h (by decide)
  rw [CT] at h2
  rw [aJ (by simp),if_pos rfl,if_neg (by simp)]
  by_cases hn:1048576<n
  ·rw [cg (by simp; omega),if_pos hn]; rfl
  ·rw [aJ (by simp; omega),if_neg hn]
   have w1:w64 (((b.length:Nat):Int) - ((at_+k:Nat):Int))=(b.length:Int) - (at_+k:Nat):=cL (by unfold I64; omega)
   have w2:w64 ((n:Int)+4)=((n+4:Nat):Int):=by rw [cL (by unfold I64; omega)]; rfl
   rw [w1,w2]
   by_cases hl:(b.drop at_).length - k<n+4
   ·rw [if_pos hl,cg (by rw [CT] at hl; rw [Cm]; omega)]; rfl
   ·rw [if_neg hl,aJ (by rw [CT] at hl; rw [Cn]; omega)]
    rw [CT] at hl
    have w3:w64 (((at_+k:Nat):Int)+4)=((at_+k+4:Nat):Int):=by rw [cL (by unfold I64; omega)]; rfl
    have w4:w64 (((at_+k+4:Nat):Int)+(n:Int))=((at_+k+4+n:Nat):Int):=by rw [cL (by unfold I64; omega)]; push_cast; rfl
    rw [w3,w4]
    clear w1 w2 w3 w4 hr hb
    have d1:List.drop at_ (List.take (at_+k) b)=(b.drop at_).take k:=by rw [List.drop_take]; congr 1; omega
    have d2:List.drop (at_+k+4) (List.take (at_+k+4+n) b)=((b.drop at_).drop (k+4)).take n:=by
     rw [List.drop_take,List.drop_drop]; congr 1
     ·omega
    simp only [Cv,d1,d2]
    rw [aH (by simp [inle]; omega),aH (by simp; omega),aH (by simp),aH (by simp [inle]; omega),aH (by simp),aH (by simp)]
    rw [As,Cy]
    simp only [CL,List.flatten_nil,CI]
    generalize sumB ((b.drop at_).take k++((b.drop at_).drop (k+4)).take n)=s
    have hstep:∀(f:Unit→Option (List UInt8×Int×Int)) (i:Nat),i<4→jz b ((n:Int),((at_+k:Nat):Int),0) (s.toNat:Int) f i ()=if gt (b.drop at_) (k+i)=gt (s4 s) i then f () else some ([],0,20):=by
     intro f i hi
     unfold jz
     have w5:w64 (((at_+k:Nat):Int)+((i:Nat):Int))=((at_+k+i:Nat):Int):=by rw [cL (by unfold I64; omega)]; push_cast; rfl
     simp only
     rw [w5]
     clear w5
     rw [aH (by simp [inb]; omega),aH (by rw [cL (by unfold I64; omega)]; simp; omega),Cv]
     have hx:=Az s i hi
     rw [Ai s i hi] at hx ⊢
     rw [BK (Nat.mod_lt _ (by decide))]
     unfold b8 at hx
     rw [Cv] at hx
     rw [hx]
     have hg:gt b (at_+k+i)=gt (b.drop at_) (k+i):=by
      rw [bT (by omega),bT (by rw [CT]; omega)]; simp [Nat.add_assoc]
     rw [hg]
     by_cases hq:gt (b.drop at_) (k+i)=gt (s4 s) i
     ·rw [if_pos hq,aJ (by simp [hq])]
     ·rw [if_neg hq,cg (by simp [hq])]
    have hchk:(0+(List.take n ((b.drop at_).drop (k+4))).length≤lim):=by rw [aY,CS,CT,CT]; omega
    simp only [forU]
    rw [hstep _ 0 (by decide),hstep _ 1 (by decide),hstep _ 2 (by decide),hstep _ 3 (by decide),aH (by simpa using hchk),BL (by rw [CT]; omega)]
    have hs4:s4 s = [gt (s4 s) 0,gt (s4 s) 1,gt (s4 s) 2,gt (s4 s) 3]:=by simp [s4,gt]
    rw [hs4]
    simp only [List.cons.injEq,and_true]
    rw [← hs4]
    simp only [Nat.add_zero,CK]
    by_cases h0:gt (b.drop at_) k=gt (s4 s) 0
    ·rw [if_pos h0]
     by_cases h1:gt (b.drop at_) (k+1)=gt (s4 s) 1
     ·rw [if_pos h1]
      by_cases h2:gt (b.drop at_) (k+2)=gt (s4 s) 2
      ·rw [if_pos h2]
       by_cases h3:gt (b.drop at_) (k+3)=gt (s4 s) 3
       ·rw [if_pos h3,if_pos ⟨h0,h1,h2,h3⟩]
        have:at_+k+4+n=at_+(k+4+n):=by omega
        rw [this]; rfl
       ·rw [if_neg h3,if_neg (by rintro⟨_,_,_,h⟩; exact h3 h)]; rfl
      ·rw [if_neg h2,if_neg (by rintro⟨_,_,h,_⟩; exact h2 h)]; rfl
     ·rw [if_neg h1,if_neg (by rintro⟨_,h,_,_⟩; exact h1 h)]; rfl
    ·rw [if_neg h0,if_neg (by rintro⟨h,_,_,_⟩; exact h0 h)]; rfl
 ·rw [cg (by simpa using he),aH (by rcases hok with h | h | h; exact absurd h.1 he; rw [h]; rfl; rw [h]; rfl),if_pos he,if_neg he]
theorem zj{x:List UInt8}(h:x.length≤1048576)(rest:List UInt8):dp (fr x++rest)=(x,(fr x).length,0):=by
 have h3:=pn3 h
 have hn:numF 0 0 (fr x++rest)=(x.length,(pn x.length).length,0):=by
  unfold fr
  rw [Cr,yv _ 0 0 _ (by omega) (by omega)]
  simp
 unfold dp
 rw [hn]
 simp only
 rw [if_neg (by simp),if_neg (by omega),if_neg (by rw [Co,rn]; omega)]
 have e1:(fr x++rest).take (pn x.length).length=pn x.length:=by unfold fr; rw [Cr,List.take_left]
 have e2:((fr x++rest).drop (pn x.length).length).take 4=s4 (sumB (pn x.length++x)):=by
  unfold fr; rw [Cr,List.drop_left,Cr,List.take_append_of_le_length (by simp [v7])]; rfl
 have e3:((fr x++rest).drop ((pn x.length).length+4)).take x.length=x:=by
  unfold fr
  rw [← List.drop_drop,Cr,List.drop_left,Cr,List.drop_append_of_le_length (by simp [v7])]
  show List.take x.length (x++rest)=x
  rw [List.take_left]
 rw [e1,e2,e3,if_pos rfl,rn]
theorem ol{l:List UInt8}(h:(dp l).2.2=0):0<(dp l).2.1∧(dp l).2.1≤l.length∧(dp l).1.length≤1048576:=by
 have hok:=vY l 0 0 (by omega) (by simp)
 unfold dp at h ⊢
 split at h
 ·rename_i hq; exact absurd h hq
 ·rename_i hq
  rw [if_neg hq]
  split at h
  ·exact absurd h (by decide)
  ·rename_i h2
   rw [if_neg h2]
   split at h
   ·exact absurd h (by decide)
   ·rename_i h3
    rw [if_neg h3]
    split at h
    ·rename_i h4
     rw [if_pos h4]
     simp only [CS]
     omega
    ·exact absurd h (by decide)
def allF:Nat→List UInt8→List (List UInt8)×Nat×Int
 | 0,_=>([],0,0)
 | f+1,l=>if l = [] then ([],0,0) else if (dp l).2.2≠0 then ([],0,(dp l).2.2) else ((dp l).1::(allF f (l.drop (dp l).2.1)).1,(dp l).2.1+(allF f (l.drop (dp l).2.1)).2.1,(allF f (l.drop (dp l).2.1)).2.2)
def allB(l:List UInt8):List (List UInt8)×Nat×Int:=allF l.length l
theorem oj(f:Nat):allF f []=([],0,0):=by cases f <;> rfl
theorem wN:∀(f g:Nat) (l:List UInt8),l.length≤f→l.length≤g→allF f l=allF g l:=by
 intro f
 induction f with
 | zero=>
  intro g l h1 h2
  have:l = []:=List.eq_nil_of_length_eq_zero (by omega)
  subst this
  rw [oj,oj]
 | succ f ih=>
  intro g l h1 h2
  cases g with
  | zero=>
   have:l = []:=List.eq_nil_of_length_eq_zero (by omega)
   subst this
   rw [oj,oj]
  | succ g=>
   unfold allF
   split
   ·rfl
   ·split
    ·rfl
    ·rename_i hn he
     have hk:=ol (l:=l) (by simpa using he)
     rw [ih g (l.drop (dp l).2.1) (by rw [CT]; omega) (by rw [CT]; omega)]
theorem qz(l:List UInt8):allB l=if l = [] then ([],0,0) else if (dp l).2.2≠0 then ([],0,(dp l).2.2) else ((dp l).1::(allB (l.drop (dp l).2.1)).1,(dp l).2.1+(allB (l.drop (dp l).2.1)).2.1,(allB (l.drop (dp l).2.1)).2.2):=by
 by_cases h:l = []
 ·rw [if_pos h,h]; rfl
 ·rw [if_neg h]
  have hl:l.length=(l.length - 1)+1:=by have:=List.length_pos_iff.2 h; omega
  conv=>lhs; unfold allB; rw [hl]; unfold allF
  rw [if_neg h]
  split
  ·rfl
  ·rename_i he
   have hk:=ol (l:=l) (by simpa using he)
   unfold allB
   rw [wN (l.length - 1) (l.drop (dp l).2.1).length _ (by rw [CT]; omega) (CD _)]
theorem all_nil:allB []=([],0,0):=rfl
theorem B8{x:List UInt8}(h:x.length≤1048576)(rest:List UInt8):allB (fr x++rest)=(x::(allB rest).1,(fr x).length+(allB rest).2.1,(allB rest).2.2):=by
 have hne:fr x++rest≠[]:=λe=>by
  have:=congrArg List.length e
  rw [Co,rn] at this
  simp at this
 rw [qz,if_neg hne,zj h,if_neg (by simp)]
 simp only
 rw [List.drop_left]
def frs(l:List (List UInt8)):List UInt8:=(l.map fr).flatten
theorem y8(x:List UInt8)(l:List (List UInt8)):frs (x::l)=fr x++frs l:=rfl
theorem zK(l m:List (List UInt8)):frs (l++m)=frs l++frs m:=by unfold frs; rw [CG,List.flatten_append]
def Rk(l:List (List UInt8)):Prop := ∀x∈l,x.length≤1048576
theorem vN:∀{l:List (List UInt8)} (h:Rk l) (rest:List UInt8),allB (frs l++rest)=(l++(allB rest).1,(frs l).length+(allB rest).2.1,(allB rest).2.2)
 | [],_,rest=>by simp [frs]
 | x::l,h,rest=>by
  rw [y8,Cr,B8 (h x Cp),vN (λy hy=>h y (Cq _ hy))]
  simp [Nat.add_assoc]
theorem yX{l:List (List UInt8)}(h:Rk l):allB (frs l)=(l,(frs l).length,0):=by
 have:=vN h []
 rw [CI,all_nil] at this
 simpa using this
theorem vW(l:List UInt8):(allB l).2.1≤l.length∧(allB l).1.length≤(allB l).2.1:=by
 have key:∀(n:Nat) (l:List UInt8),l.length≤n→(allB l).2.1≤l.length∧(allB l).1.length≤(allB l).2.1:=by
  intro n
  induction n with
  | zero=>
   intro l h
   have:l = []:=List.eq_nil_of_length_eq_zero (by omega)
   subst this
   exact⟨CD _,CD _⟩
  | succ n ih=>
   intro l h
   rw [qz]
   split
   ·simp
   ·split
    ·simp
    ·rename_i he
     have hk:=ol (l:=l) (by simpa using he)
     have:=ih (l.drop (dp l).2.1) (by rw [CT]; omega)
     rw [CT] at this
     simp only [Cu]
     omega
 exact key l.length l (CD _)
theorem tE{b:List UInt8}(hb:b.length≤lim):∀(n at_ F:Nat) (o:List (List UInt8)) (p:Int) (x5:Int),at_≤b.length→b.length - at_≤n→o.length+(b.length - at_)≤lim→p=(at_:Int) →
  ∃e,loopN (cF eG b) (F+n+1) ((at_:Int),x5,(o,p))=some ((o++(allB (b.drop at_)).1,((at_+(allB (b.drop at_)).2.1:Nat):Int)),e):=by
 intro n
 induction n with
 | zero=>
  intro at_ F o p x5 h1 h2 h3 hp
  rw [j6]
  generalize loopN (cF eG b) (F+0)=f
  unfold cF
  simp only
  rw [aJ (by rw [Cn]; omega)]
  refine⟨x5,?_⟩
  rw [Cx (by omega),all_nil,hp]
  simp
 | succ n ih=>
  intro at_ F o p x5 h1 h2 h3 hp
  rw [show F+(n+1)+1=(F+n+1)+1 by omega,j6]
  generalize hf:loopN (cF eG b) (F+n+1)=f
  unfold cF
  simp only
  by_cases hlt:at_<b.length
  ·have hne:b.drop at_≠[]:=λe=>by
    have:=congrArg List.length e
    rw [CT] at this
    simp at this; omega
   rw [cg (by rw [Cm]; omega),B4 hb h1,Cy]
   unfold xu
   simp only
   rw [qz,if_neg hne]
   by_cases he:(dp (b.drop at_)).2.2=0
   ·have hk:=ol he
    rw [CT] at hk
    rw [if_pos he,if_neg (show ¬ ((dp (b.drop at_)).2.2≠0) from by simp [he]),cg (by simp [he])]
    unfold eG
    rw [aH (by simp; omega),Cy, ← hf]
    obtain⟨e,h⟩:=ih (at_+(dp (b.drop at_)).2.1) F (o++[(dp (b.drop at_)).1]) _ (dp (b.drop at_)).2.2 (by omega) (by omega) (by simp; omega) rfl
    refine⟨e,?_⟩
    simp only
    rw [h]
    simp only [List.drop_drop,Cr,List.cons_append,CK,Nat.add_assoc]
   ·rw [aJ (by simp [he]),if_pos he]
    refine⟨(dp (b.drop at_)).2.2,?_⟩
    rw [hp]
    simp only [CI,Nat.add_zero]
  ·refine⟨x5,?_⟩
   rw [aJ (by rw [Cn]; omega),Cx (by omega),all_nil,hp]
   simp
theorem Av{b:List UInt8}(hb:b.length≤lim):∃e,jp b=some ((allB b).1,(((allB b).2.1:Nat):Int),e):=by
 have hb':=hb
 rw [aY] at hb'
 obtain⟨F,hF⟩:∃F,FU=F+b.length+1:=⟨FU - b.length - 1,by unfold FU; omega⟩
 obtain⟨e,h⟩:=tE hb b.length 0 F [] 0 0 (by omega) (by omega) (by simp; omega) rfl
 refine⟨e,?_⟩
 unfold jp iT
 rw [hF]
 simp only [List.drop_zero,Nat.zero_add,CK] at h
 rw [show ((0:Nat):Int)=0 from rfl] at h
 rw [h]; rfl
def dz(n:Nat):List UInt8:=if h:n=0 then [] else dz (n / 10)++[UInt8.ofNat (48+n % 10)]
 decreasing_by omega
theorem dz_0:dz 0 = []:=by unfold dz; rfl
theorem dz_s{n:Nat}(h:n≠0):dz n=dz (n / 10)++[UInt8.ofNat (48+n % 10)]:=by rw [dz,dif_neg h]
def ds(n:Nat):List UInt8:=dz (n / 10)++[UInt8.ofNat (48+n % 10)]
theorem AJ:∀(k n:Nat),n<10 ^ k→(dz n).length≤k:=by
 intro k
 induction k with
 | zero=>intro n h; rw [show n=0 by omega,dz_0]; simp
 | succ k ih=>
  intro n h
  by_cases h1:n=0
  ·rw [h1,dz_0]; simp
  ·rw [dz_s h1]
   have:=ih (n / 10) (by rw [Nat.pow_succ] at h; omega)
   simp; omega
theorem rp{k n:Nat}(h:n<10 ^ (k+1)):(ds n).length≤k+1:=by
 unfold ds
 have:=AJ k (n / 10) (by rw [Nat.pow_succ] at h; omega)
 simp; omega
theorem rb(n:Nat):0<(ds n).length:=by unfold ds; simp
theorem tN(n:Nat):(UInt8.ofNat (48+n % 10)).toNat=48+n % 10:=by rw [UInt8.toNat_ofNat_of_lt']; show 48+n % 10<256; omega
theorem B3:∀(n:Nat), ∀c∈dz n,48≤c.toNat∧c.toNat≤57:=by
 intro n
 induction n using Nat.strongRecOn with
 | _ n ih=>
  intro c hc
  by_cases h1:n=0
  ·rw [h1,dz_0] at hc; cases hc
  ·rw [dz_s h1] at hc
   rcases List.mem_append.1 hc with h | h
   ·exact ih (n / 10) (by omega) c h
   ·rw [List.mem_singleton.1 h,tN]; omega
theorem yV(n:Nat):∀c∈ds n,48≤c.toNat∧c.toNat≤57:=by
 intro c hc
 unfold ds at hc
 rcases List.mem_append.1 hc with h | h
 ·exact B3 _ c h
 ·rw [List.mem_singleton.1 h,tN]; omega
def rdV(n:Nat)(l:List UInt8):Nat:=l.foldl (λn c=>10*n+(c.toNat - 48)) n
theorem vO(n:Nat)(l m:List UInt8):rdV n (l++m)=rdV (rdV n l) m:=by unfold rdV; rw [List.foldl_append]
theorem yG:∀n:Nat,rdV 0 (dz n)=n:=by
 intro n
 induction n using Nat.strongRecOn with
 | _ n ih=>
  by_cases h1:n=0
  ·rw [h1,dz_0]; rfl
  ·rw [dz_s h1,vO,ih (n / 10) (by omega)]
   unfold rdV
   simp only [List.foldl_cons,List.foldl_nil,tN]
   omega
theorem uK(n:Nat):rdV 0 (ds n)=n:=by
 unfold ds
 rw [vO,yG]
 unfold rdV
 simp only [List.foldl_cons,List.foldl_nil,tN]
 omega
theorem yc{m n:Nat}(h:ds m=ds n):m=n:=by rw [← uK m,h,uK]
theorem xp:∀(l:List UInt8) (n:Nat),n≤rdV n l
 | [],n=>CD _
 | c::l,n=>by
  have:=xp l (10*n+(c.toNat - 48))
  show n≤rdV (10*n+(c.toNat - 48)) l
  omega
theorem zc:∀(n:Nat) (c:UInt8) (l:List UInt8),dz n=c::l→c.toNat≠48:=by
 intro n
 induction n using Nat.strongRecOn with
 | _ n ih=>
  intro c l h
  by_cases h1:n=0
  ·rw [h1,dz_0] at h; cases h
  ·rw [dz_s h1] at h
   cases hd:dz (n / 10) with
   | nil=>
    rw [hd] at h
    injection h with h2 _
    rw [← h2,tN]
    have:n / 10=0:=by
     have:=yG (n / 10)
     rw [hd] at this
     exact this.symm
    omega
   | cons c' l'=>
    rw [hd] at h
    injection h with h2 _
    rw [← h2]
    exact ih (n / 10) (by omega) c' l' hd
theorem ui{x:List UInt8}{i:Nat}{v:UInt8}(h:i<x.length):(x.set i v).drop i=v::x.drop (i+1):=by
 rw [List.drop_eq_getElem_cons (by simpa using h)]
 congr 1
 ·simp
 ·rw [List.drop_set_of_lt (by omega)]
theorem uc{n:Int}{f:Int×Int×List UInt8→Option ByteArray}{at_ u:Nat}{x:List UInt8}(h1:0<at_)(h2:at_≤20)(h3:at_=20∨0<u)(h4:u≤18446744073709551615):
  ce n f ((at_:Int),(u:Int),x)=f (((at_ - 1:Nat):Int),((u / 10:Nat):Int),x.set (at_ - 1) (UInt8.ofNat (48+u % 10))):=by
 unfold ce
 simp only
 have e1:w64 ((at_:Int) - 1)=((at_ - 1:Nat):Int):=by rw [cL (by unfold I64; omega)]; omega
 have e2:(u:Int).tdiv 10=((u / 10:Nat):Int):=by rw [Int.tdiv_eq_ediv_of_nonneg (by omega)]; omega
 have e3:(u:Int).tmod 10=((u % 10:Nat):Int):=by rw [Int.tmod_eq_emod_of_nonneg (by omega)]; omega
 rw [e1,e2,e3]
 have c1:(((at_:Int)==20)||decide (0<(u:Int)))=true:=by
  simp only [Bool.or_eq_true,beq_iff_eq,Cm]; omega
 have c2:inb ((at_ - 1:Nat):Int) 20=true:=by
  unfold inb
  simp only [Cs,Cm]; omega
 rw [c1,cg rfl,c2,aH rfl,kK (x:=((u / 10:Nat):Int)) (by unfold U64; omega),kK (x:=48+((u % 10:Nat):Int)) (by unfold U64; omega),vC (by unfold U8; omega)]
 unfold b8
 rw [Cv,show (48+((u % 10:Nat):Int)).toNat=48+u % 10 by omega]
theorem xz{n:Int}(hn:0≤n):∀(k u at_ F:Nat) (acc x:List UInt8),u<10 ^ k→k≤at_→at_<20→x.length=20→x.drop at_=acc→loopN (ce n) (F+k+1) ((at_:Int),(u:Int),x)=some ⟨(dz u++acc).toArray⟩:=by
 intro k
 induction k with
 | zero=>
  intro u at_ F acc x hu h1 h2 h3 h4
  obtain rfl:u=0:=by omega
  rw [j6]
  generalize loopN (ce n) (F+0)=f
  unfold ce fG
  simp only
  rw [aJ (by simp; omega),aJ (by simp; omega),aH (by simp [inle]; omega),Cv,h4,dz_0]; rfl
 | succ k ih=>
  intro u at_ F acc x hu h1 h2 h3 h4
  rw [show F+(k+1)+1=(F+k+1)+1 by omega,j6]
  by_cases h0:u=0
  ·generalize loopN (ce n) (F+k+1)=f
   subst h0
   unfold ce fG
   simp only
   rw [aJ (by simp; omega),aJ (by simp; omega),aH (by simp [inle]; omega),Cv,h4,dz_0]; rfl
  ·have hb:u≤18446744073709551615:=by
    have:10 ^ (k+1)≤10 ^ 19:=Nat.pow_le_pow_right (by decide) (by omega)
    omega
   rw [uc (by omega) (by omega) (.inr (by omega)) hb,ih (u / 10) (at_ - 1) F (UInt8.ofNat (48+u % 10)::acc) _ (by rw [Nat.pow_succ] at hu; omega) (by omega) (by omega) (by simpa using h3) (by rw [ui (by omega),show at_ - 1+1=at_ by omega,h4]),dz_s h0]
   simp
theorem tw{n:Nat}(h:n<10000000000000000000):iy (n:Int)=some ⟨(ds n).toArray⟩:=by
 unfold iy i6
 rw [aJ (by simp),kK (by unfold U64; omega)]
 obtain⟨F,hF⟩:∃F,FU=(F+18+1)+1:=⟨FU - 20,by unfold FU; omega⟩
 rw [hF,j6]
 have:=uc (n:=(n:Int)) (f:=loopN (ce (n:Int)) (F+18+1)) (at_:=20) (u:=n) (x:=List.replicate 20 (b8 0)) (by decide) (by decide) (.inl rfl) (by omega)
 rw [show (((20:Nat):Nat):Int)=20 from rfl] at this
 rw [this,xz (by omega) 18 (n / 10) 19 F [UInt8.ofNat (48+n % 10)] _ (by omega) (by decide) (by decide) (by simp) (by rw [ui (by simp)]; rfl)]
 rfl
theorem w7(s:ByteArray):∃r,gn s=some r∧I64 r.1∧(r.2=0∨r.2=2):=by
 have key:∀(l:List UInt8) (i:Nat) (n:Int), ∃r,forI eF (λn_20=>bif decide (9223372036854775808≤n_20) then some (0,2) else some (w64 n_20,0)) i l n=some r∧I64 r.1∧(r.2=0∨r.2=2):=by
  intro l
  induction l with
  | nil=>
   intro i n
   rw [forI]
   cases decide (9223372036854775808≤n) with
   | true=>exact⟨(0,2),rfl,by unfold I64; decide,.inr rfl⟩
   | false=>exact⟨(w64 n,0),rfl,ji n,.inl rfl⟩
  | cons c l ih=>
   intro i n
   rw [forI]
   generalize hf:forI eF (λn_20=>bif decide (9223372036854775808≤n_20) then some (0,2) else some (w64 n_20,0)) (i+1) l=f
   unfold eF
   cases decide (((c.toNat:Nat):Int)<48)||decide (57<((c.toNat:Nat):Int)) with
   | true=>exact⟨(0,2),rfl,by unfold I64; decide,.inr rfl⟩
   | false=>rw [aJ rfl, ← hf]; exact ih _ _
 unfold gn
 have hc:imp ((!(s==ByteArray.empty))&&(decide (1<((s.size:Nat):Int)))) (decide (0<s.size))=true:=by
  unfold imp
  by_cases h:1<s.size
  ·have:0<s.size:=by omega
   simp [this]
  ·have h2:decide (1<((s.size:Nat):Int))=false:=by rw [Cn]; omega
   rw [h2]; simp
 rw [hc,aH rfl]
 cases (s==ByteArray.empty||decide (1<((s.size:Nat):Int))&&((((gt s.data.toList 0).toNat:Nat):Int)==48))||decide (19<((s.size:Nat):Int)) with
 | true=>exact⟨(0,2),rfl,by unfold I64; decide,.inr rfl⟩
 | false=>rw [aJ rfl]; exact key _ _ _
def rdP(s:ByteArray):Int×Int:=(gn s).getD (0,0)
theorem yk(s:ByteArray):gn s=some (rdP s):=by obtain⟨r,h,_⟩:=w7 s; unfold rdP; rw [h]; rfl
theorem Af(s:ByteArray):i64b (rdP s).1=true:=by
 obtain⟨r,h,h2,_⟩:=w7 s
 unfold rdP
 rw [h]
 unfold i64b
 unfold I64 at h2
 simp; omega
theorem s7{K:Int→Option (Int×Int)}:∀(l:List UInt8) (i n:Nat),(∀c∈l,48≤c.toNat∧c.toNat≤57)→rdV n l<10000000000000000000→forI eF K i l (n:Int)=K ((rdV n l:Nat):Int)
 | [],_,_,_,_=>rfl
 | c::l,i,n,hd,hv=>by
  have hc:=hd c Cp
  have hv':rdV (10*n+(c.toNat - 48)) l<10000000000000000000:=hv
  have hle:=xp l (10*n+(c.toNat - 48))
  rw [forI]
  show (bif decide (((c.toNat:Nat):Int)<48)||decide (57<((c.toNat:Nat):Int)) then some (0,2) else forI eF K (i+1) l (wu64 ((wu64 (10*(n:Int)))+(wu64 (wu8 (((c.toNat:Nat):Int) - 48))))))=_
  rw [aJ (by simp; omega),vC (by unfold U8; omega),kK (x:=10*(n:Int)) (by unfold U64; omega),kK (x:=((c.toNat:Nat):Int) - 48) (by unfold U64; omega),kK (by unfold U64; omega)]
  rw [show 10*(n:Int)+(((c.toNat:Nat):Int) - 48)=((10*n+(c.toNat - 48):Nat):Int) by omega]
  exact s7 l (i+1) _ (λc' h=>hd c' (Cq _ h)) hv'
theorem ly(l:List UInt8):(⟨l.toArray⟩:ByteArray).size=l.length:=rfl
theorem yH{s:ByteArray}:s=ByteArray.empty↔s.size=0:=by
 constructor
 ·rintro rfl; rfl
 ·intro h
  apply kT
  have:s.data.toList.length=0:=h
  rw [List.eq_nil_of_length_eq_zero this]; rfl
theorem wq{n:Nat}(h:n<9223372036854775808):rdP ⟨(ds n).toArray⟩=((n:Int),0):=by
 have hl:(ds n).length≤19:=rp (by omega)
 have hp:=rb n
 have hv:=uK n
 unfold rdP gn
 simp only [ly]
 have c0:((⟨(ds n).toArray⟩:ByteArray)==ByteArray.empty)=false:=by
  rw [beq_eq_false_iff_ne]; intro e; rw [yH,ly] at e; omega
 have c1:(decide (1<(((ds n).length:Nat):Int))&&((((gt (ds n) 0).toNat:Nat):Int)==48))=false:=by
  by_cases h1:1<(ds n).length
  ·have h2:(gt (ds n) 0).toNat≠48:=by
    have hd:ds n=dz (n / 10)++[UInt8.ofNat (48+n % 10)]:=rfl
    cases hq:dz (n / 10) with
    | nil=>rw [hq] at hd; rw [hd] at h1; simp at h1
    | cons c l=>rw [hd,hq]; exact zc _ _ _ hq
   have h3:((((gt (ds n) 0).toNat:Nat):Int)==48)=false:=by rw [beq_eq_false_iff_ne]; omega
   rw [h3,Bool.and_false]
  ·have:decide (1<(((ds n).length:Nat):Int))=false:=by rw [Cn]; omega
   rw [this,Bool.false_and]
 have c2:decide (19<(((ds n).length:Nat):Int))=false:=by rw [Cn]; omega
 rw [c0,c1,c2,aH (by unfold imp; simp; omega)]
 have:=s7 (K:=λn_20=>bif decide (9223372036854775808≤n_20) then some (0,2) else some (w64 n_20,0)) (ds n) 0 0 (yV n) (by rw [hv]; omega)
 rw [hv] at this
 show (forI eF _ 0 (ds n) ((0:Nat):Int)).getD (0,0)=_
 rw [this,aJ (by rw [Cn]; omega),cL (by unfold I64; omega)]; rfl
def ND(l:List UInt8):Prop := ∀c∈l,c≠46
theorem xO(n:Nat):ND (ds n):=λc hc e=>by have:=yV n c hc; rw [e] at this; exact absurd this.1 (by decide)
theorem n3:∀{a b x y:List UInt8},ND a→ND b→a++46::x=b++46::y→a=b∧x=y
 | [],[],x,y,_,_,h=>by injection h with _ h; exact⟨rfl,h⟩
 | [],d::b,x,y,_,hb,h=>by injection h with h _; exact absurd h.symm (hb d Cp)
 | c::a,[],x,y,ha,_,h=>by injection h with h _; exact absurd h (ha c Cp)
 | c::a,d::b,x,y,ha,hb,h=>by
  injection h with h1 h2
  obtain⟨e1,e2⟩:=n3 (λq hq=>ha q (Cq _ hq)) (λq hq=>hb q (Cq _ hq)) h2
  exact⟨by rw [h1,e1],e2⟩
structure Nm (nm:ByteArray):Prop where
 lo:1≤nm.size
 hi:nm.size≤2
 nd:ND nm.data.toList
theorem xT{nm:ByteArray}:nm.data.toList.length=nm.size:=rfl
def fn(nm:ByteArray)(g k:Nat):ByteArray:=((((nm++(⟨#[46]⟩:ByteArray))++⟨(ds g).toArray⟩)++(⟨#[46]⟩:ByteArray))++⟨(ds k).toArray⟩)
def mn(nm:ByteArray):ByteArray:=nm++(⟨#[46,109]⟩:ByteArray)
theorem vu(a b:ByteArray):(a++b).data.toList=a.data.toList++b.data.toList:=ByteArray.toList_data_append
theorem fn_l(nm:ByteArray)(g k:Nat):(fn nm g k).data.toList=nm.data.toList++46::(ds g++46::ds k):=by
 unfold fn
 simp only [vu]
 simp
theorem mn_l(nm:ByteArray):(mn nm).data.toList=nm.data.toList++46::[109]:=by unfold mn; rw [vu]
theorem tp{nm nm':ByteArray}{g k g' k':Nat}(h:Nm nm)(h':Nm nm')(e:fn nm g k=fn nm' g' k'):nm=nm'∧g=g'∧k=k':=by
 have e2:=congrArg (λb:ByteArray=>b.data.toList) e
 simp only [fn_l] at e2
 obtain⟨e3,e4⟩:=n3 h.nd h'.nd e2
 obtain⟨e5,e6⟩:=n3 (xO g) (xO g') e4
 exact⟨kT e3,yc e5,yc e6⟩
theorem Bt{nm nm':ByteArray}{g k:Nat}(h:Nm nm)(h':Nm nm'):mn nm≠fn nm' g k:=by
 intro e
 have e2:=congrArg (λb:ByteArray=>b.data.toList) e
 simp only [fn_l,mn_l] at e2
 obtain⟨_,e4⟩:=n3 h.nd h'.nd e2
 have:=congrArg List.length e4
 have h1:=rb g
 have h2:=rb k
 simp at this; omega
def gk(g k:Nat):Prop:=g≤999999∧1≤k∧k≤999999
theorem qC{nm:ByteArray}{g k:Nat}(h:Nm nm)(hg:g≤999999)(hk:k≤999999):4≤(fn nm g k).size∧(fn nm g k).size≤16:=by
 have h1:(ds g).length≤6:=rp (by omega)
 have h2:(ds k).length≤6:=rp (by omega)
 have h3:=rb g
 have h4:=rb k
 have h5:=h.lo
 have h6:=h.hi
 have:(fn nm g k).size=nm.size+1+(ds g).length+1+(ds k).length:=by
  show (fn nm g k).data.toList.length=_
  rw [fn_l]; simp [xT]; omega
 omega
theorem wh{nm:ByteArray}(h:Nm nm):3≤(mn nm).size∧(mn nm).size≤4:=by
 have h5:=h.lo
 have h6:=h.hi
 have:(mn nm).size=nm.size+2:=by
  show (mn nm).data.toList.length=_
  rw [mn_l]; simp [xT]
 omega
theorem uY{nm:ByteArray}(h:Nm nm){g k:Nat}(hg:g≤999999)(hk:k≤999999)(p2:Int):cH nm p2 (g:Int) (k:Int)=some (fn nm g k):=by
 have h1:(ds g).length≤6:=rp (by omega)
 have h2:(ds k).length≤6:=rp (by omega)
 have h6:=h.hi
 have hs1:(⟨#[46]⟩:ByteArray).size=1:=rfl
 unfold cH
 rw [tw (by omega),Cy,tw (by omega),Cy]
 have l:=aY
 rw [aH (by simp only [ByteArray.size_append,ly,hs1,Cm]; omega),aH (by simp only [ByteArray.size_append,ly,hs1,Cm]; omega),aH (by simp only [ByteArray.size_append,ly,hs1,Cm]; omega),aH (by simp only [ByteArray.size_append,ly,hs1,Cm]; omega),aH (by simp only [ByteArray.size_append,ly,hs1,Cm]; omega)]
 rfl
theorem xJ(nm:ByteArray)(p2:Int):eM nm p2=some (mn nm):=rfl
theorem wg:∀(l:List UInt8) (n:Nat),ND l→ixbF l 46 n = -1
 | [],_,_=>rfl
 | c::l,n,h=>by
  unfold ixbF
  rw [show (c==46)=false from by rw [beq_eq_false_iff_ne]; exact h c Cp,aJ rfl]
  exact wg l (n+1) λq hq=>h q (Cq _ hq)
theorem wj:∀(l x:List UInt8) (n:Nat),ND l→ixbF (l++46::x) 46 n=((n+l.length:Nat):Int)
 | [],x,n,_=>rfl
 | c::l,x,n,h=>by
  rw [List.cons_append]
  unfold ixbF
  rw [show (c==46)=false from by rw [beq_eq_false_iff_ne]; exact h c Cp,aJ rfl,wj l x (n+1) λq hq=>h q (Cq _ hq)]
  simp; omega
theorem yC:∀(l:List UInt8) (n:Nat),ixbF l 46 n = -1∨∃k,ixbF l 46 n=((n+k:Nat):Int)∧k<l.length
 | [],_=>.inl rfl
 | c::l,n=>by
  unfold ixbF
  cases hc:(c==46) with
  | true=>exact .inr ⟨0,rfl,by simp⟩
  | false=>
   rw [aJ rfl]
   rcases yC l (n+1) with h | ⟨k,h,h2⟩
   ·exact .inl h
   ·exact .inr ⟨k+1,by rw [h]; congr 1; omega,by simp; omega⟩
theorem vK(s:ByteArray):gY s=some (ixb s 46)∧bj s=some (ixb s 46):=by
 have h:bj s=some (ixb s 46):=by
  unfold bj cC
  by_cases hs:(⟨#[46]⟩:ByteArray)=s
  ·subst hs; rfl
  ·rw [aJ (by rw [beq_eq_false_iff_ne]; exact hs)]; rfl
 exact⟨by unfold gY; rw [h]; rfl,h⟩
theorem yD{nm:ByteArray}(h:Nm nm):fA nm=some false:=by
 unfold fA
 rw [(vK nm).1,Cy]
 unfold ixb
 rw [show (46:Int).toNat.toUInt8=46 from rfl,wg _ _ h.nd]; rfl
def cutP(s p:ByteArray):ByteArray×Bool:=if p.size≤s.size∧s.extract 0 p.size=p then (s.extract p.size s.size,true) else (s,false)
theorem tB(s p:ByteArray):eJ s p=some (cutP s p):=by
 unfold eJ cA cv cutP
 have hi:imp (decide (((p.size:Nat):Int)≤((s.size:Nat):Int))) (decide (p.size≤s.size))=true:=by
  unfold imp
  by_cases h:p.size≤s.size
  ·simp [h]
  ·rw [show decide (((p.size:Nat):Int)≤((s.size:Nat):Int))=false from by rw [Cn]; omega]; rfl
 rw [hi,aH rfl,Cy]
 by_cases h:p.size≤s.size∧s.extract 0 p.size=p
 ·rw [if_pos h,aJ (by simp [h.2]; omega),aH (by simpa using h.1)]; rfl
 ·rw [if_neg h,cg ?_]; rfl
  rw [Bool.not_eq_true',Bool.and_eq_false_iff]
  by_cases h1:p.size≤s.size
  ·right; rw [beq_eq_false_iff_ne]; exact λe=>h ⟨h1,e⟩
  ·left; rw [Cn]; omega
def cutD(s:ByteArray):ByteArray×ByteArray×Bool:=if 0≤ixb s 46 then (s.extract 0 (ixb s 46).toNat,s.extract ((ixb s 46).toNat+1) s.size,true) else (s,ByteArray.empty,false)
theorem BR(s:ByteArray)(hs:s.size≤lim):jb s=some (cutD s):=by
 unfold jb dK cutD
 rw [(vK s).2,Cy]
 have hr:ixb s 46 = -1∨∃k,ixb s 46=((k:Nat):Int)∧k<s.size:=by
  unfold ixb
  rcases yC s.data.toList 0 with h | ⟨k,h,h2⟩
  ·exact .inl h
  ·exact .inr ⟨k,by rw [show (46:Int).toNat.toUInt8=46 from rfl,h]; congr 1; omega,h2⟩
 rcases hr with h | ⟨k,h,hk⟩
 ·rw [h]; rfl
 ·rw [aY] at hs
  rw [h,cg (by simp),if_pos (by omega),cL (by unfold I64; omega),aH (by simp [inle]; omega),aH (by simp [inle]; omega),show ((k:Int)+1).toNat=k+1 by omega,Cv]; rfl
def pf(nm f:ByteArray):Option (Int×Int):=
 if ((cutP f (nm++(⟨#[46]⟩:ByteArray))).2&&(cutD (cutP f (nm++(⟨#[46]⟩:ByteArray))).1).2.2&&((rdP (cutD (cutP f (nm++(⟨#[46]⟩:ByteArray))).1).1).2==0)&&((rdP (cutD (cutP f (nm++(⟨#[46]⟩:ByteArray))).1).2.1).2==0)&&(decide ((rdP (cutD (cutP f (nm++(⟨#[46]⟩:ByteArray))).1).1).1≤999999))&&(decide (1≤(rdP (cutD (cutP f (nm++(⟨#[46]⟩:ByteArray))).1).2.1).1))&&(decide ((rdP (cutD (cutP f (nm++(⟨#[46]⟩:ByteArray))).1).2.1).1≤999999)))=true
 then some ((rdP (cutD (cutP f (nm++(⟨#[46]⟩:ByteArray))).1).1).1,(rdP (cutD (cutP f (nm++(⟨#[46]⟩:ByteArray))).1).2.1).1) else none
theorem xb(s p:ByteArray):(cutP s p).1.size≤s.size:=by
 unfold cutP
 split
 ·simp only [ByteArray.size_extract]; omega
 ·exact CD _
theorem wG(s:ByteArray):(cutD s).1.size≤s.size∧(cutD s).2.1.size≤s.size:=by
 unfold cutD
 split
 ·simp only [ByteArray.size_extract]; omega
 ·exact⟨CD _,CE _⟩
theorem vg{nm f:ByteArray}(h:nm.size≤2)(hf:f.size≤lim){pred:Int→Int→Option Bool}{q:Int→Int→Bool}(hq:∀a b,pred a b=some (q a b))(k:af→Option af)(i:Nat)(o:af)(ho:o.length+1≤lim):
  bU (cO pred) nm k i f o=k (o++if (pf nm f).any (λx=>q x.1 x.2) then [f] else []):=by
 unfold bU pf
 have hs1:(⟨#[46]⟩:ByteArray).size=1:=rfl
 have l:=aY
 rw [aH (by simp only [ByteArray.size_append,hs1,Cm]; omega),tB,Cy]
 have c1:=xb f (nm++(⟨#[46]⟩:ByteArray))
 generalize cutP f (nm++(⟨#[46]⟩:ByteArray))=z24 at c1 ⊢
 rw [aH (by rw [Cm]; omega),BR _ (by omega),Cy]
 have c2:=wG z24.1
 generalize cutD z24.1=z27 at c2 ⊢
 rw [aH (by rw [Cm]; omega),yk,Cy,aH (by rw [Cm]; omega),yk,Cy]
 have r1:=Af z27.1
 have r2:=Af z27.2.1
 generalize rdP z27.1=z30 at r1 ⊢
 generalize rdP z27.2.1=z33 at r2 ⊢
 generalize hc:((((((z24.2&&z27.2.2)&&(z30.2==0))&&(z33.2==0))&&decide (z30.1≤999999))&&decide (1≤z33.1))&&decide (z33.1≤999999))=c
 cases c with
 | true=>
  rw [cg rfl,if_pos rfl,aH r1,aH r2]
  unfold cO
  rw [hq,Cy]
  simp only [Option.any_some]
  by_cases hqq:q z30.1 z33.1=true
  ·rw [cg hqq,if_pos hqq,aH (by simpa using ho)]; rfl
  ·rw [aJ (by simpa using hqq),if_neg hqq,CI]; rfl
 | false=>
  rw [aJ rfl,if_neg (by simp)]
  simp
theorem sR(s:ByteArray)(i j:Nat):(s.extract i j).data.toList=(s.data.toList.take j).drop i:=by
 rw [ByteArray.data_extract,Array.toList_extract,List.extract_eq_take_drop,List.drop_take]
theorem zb{s p:ByteArray}{x:List UInt8}(h:s.data.toList=p.data.toList++x):cutP s p=(⟨x.toArray⟩,true):=by
 have hsz:s.size=p.size+x.length:=by
  show s.data.toList.length=_
  rw [h,Co]; rfl
 have h1:s.extract 0 p.size=p:=by
  apply kT
  rw [sR,h,List.drop_zero,show p.size=p.data.toList.length from rfl,List.take_left]
 unfold cutP
 rw [if_pos ⟨by omega,h1⟩]
 congr 1
 apply kT
 rw [sR,List.take_of_length_le (by show s.size≤s.size; exact CD _),h,show p.size=p.data.toList.length from rfl,List.drop_left]
theorem zk{a x:List UInt8}(h:ND a):cutD ⟨(a++46::x).toArray⟩=(⟨a.toArray⟩,⟨x.toArray⟩,true):=by
 have hi:ixb ⟨(a++46::x).toArray⟩ 46=((a.length:Nat):Int):=by
  unfold ixb
  show ixbF (a++46::x) 46 0=_
  rw [wj a x 0 h,Nat.zero_add]
 unfold cutD
 rw [hi,if_pos (by omega),Cv]
 congr 1
 ·apply kT
  rw [sR]
  show List.drop 0 (List.take a.length (a++46::x))=a
  rw [List.drop_zero,List.take_left]
 ·congr 1
  apply kT
  rw [sR]
  show List.drop (a.length+1) (List.take (a++46::x).length (a++46::x))=x
  rw [CN, ← List.drop_drop,List.drop_left]; rfl
theorem tf{nm:ByteArray}{g k:Nat}(h:gk g k):pf nm (fn nm g k)=some ((g:Int),(k:Int)):=by
 obtain⟨h1,h2,h3⟩:=h
 unfold pf
 rw [zb (x:=ds g++46::ds k) (by rw [fn_l,vu]; simp)]
 simp only
 rw [zk (xO g)]
 simp only
 rw [wq (by omega),wq (by omega)]
 rw [if_pos (by simp; omega)]
abbrev Mp:=List (ByteArray×List UInt8)
abbrev Cg:=aj
abbrev Dc:=aG
abbrev Dk:=a7
def ap:Cg→Mp→Mp
 | .disk_Disk_Remove_1 a,es=>mdel a es
 | .disk_add_1 n b,es=>mput n ((mget n es).getD []++b) es
 | .disk_Disk_Cut_1 n k,es=>mput n (((mget n es).getD []).take k.toNat) es
def okc:Cg→Mp→Prop
 | .disk_Disk_Cut_1 n k,es=>(mget n es).isSome=true∧0≤k∧k≤(((mget n es).getD []).length:Int)
 | .disk_Disk_Remove_1 a,es=>(mget a es).isSome=true
 | _,_=>True
theorem BP{c:Cg}{es:Mp}(h:NK es):NK (ap c es):=by
 cases c with
 | disk_Disk_Remove_1 a=>exact h.del
 | disk_add_1 n b=>exact h.put
 | disk_Disk_Cut_1 n k=>exact h.put
theorem B6{c:Cg}{es:Mp}:(ap c es).length≤es.length+1:=by
 cases c with
 | disk_Disk_Remove_1 a=>exact Nat.le_trans tV (Nat.le_succ _)
 | disk_add_1 n b=>exact qW
 | disk_Disk_Cut_1 n k=>exact qW
theorem uM{n:ByteArray}{b:List UInt8}{es:Mp}:sz (ap (.disk_add_1 n b) es)=sz es+b.length:=by
 have:=xW (x:=n) (v:=(mget n es).getD []++b) (es:=es)
 rw [Co] at this
 show sz (mput n _ es)=_
 omega
theorem B1{a:ByteArray}{es:Mp}:sz (ap (.disk_Disk_Remove_1 a) es)≤sz es:=by
 have h2:=v6 (x:=a) (es:=es)
 show sz (mdel a es)≤_
 omega
theorem Bi{n:ByteArray}{k:Int}{es:Mp}:sz (ap (.disk_Disk_Cut_1 n k) es)≤sz es:=by
 have h1:=xW (x:=n) (v:=((mget n es).getD []).take k.toNat) (es:=es)
 have h2:(((mget n es).getD []).take k.toNat).length≤((mget n es).getD []).length:=by rw [CS]; omega
 show sz (mput n _ es)≤_
 omega
theorem BQ{c:Cg}{es:Mp}(hok:okc c es)(h:sz (ap c es)≤lim):ft c es=some (ap c es):=by
 cases c with
 | disk_Disk_Remove_1 a=>rfl
 | disk_add_1 n b=>
  rw [uM] at h
  have:=uT (x:=n) (es:=es)
  show jG es n b=_
  unfold jG fc
  rw [Cy,aH (by simp; omega)]; rfl
 | disk_Disk_Cut_1 n k=>
  obtain⟨_,h1,h2⟩:=hok
  show gh es n k=_
  unfold gh
  rw [aH (by simp [inle,h1,h2])]; rfl
def run(cs:List Dc)(es:Mp):Mp:=cs.foldl (λes c=>ap c.do_ es) es
theorem rD{cs:List Dc}{c:Dc}{es:Mp}:run (cs++[c]) es=ap c.do_ (run cs es):=by simp [run,List.foldl_append]
theorem AO{cs:List Dc}{es:Mp}(h:NK es):NK (run cs es):=by
 induction cs generalizing es with
 | nil=>exact h
 | cons c cs ih=>exact ih (BP h)
def Tl(c:Dc):Prop:=match c.do_ with
 | .disk_add_1 n b=>c.name=n∧c.tail=b
 | _=>c.tail = []
structure DI (R N:Nat) (d:Dk):Prop where
 rd:d.room=(R:Int)
 see:d.seen=run d.loose d.safe_
 nks:NK d.safe_
 szs:∀k,k≤d.loose.length→sz (run (d.loose.take k) d.safe_)≤R
 lns:∀k,k≤d.loose.length→(run (d.loose.take k) d.safe_).length≤N
 oks:∀k,k<d.loose.length→okc (gt d.loose k).do_ (run (d.loose.take k) d.safe_)
 tls:∀k,k<d.loose.length→Tl (gt d.loose k)
 ll:d.loose.length≤N
def MX:Nat:=1073741824
theorem qH{R:Nat}(hR:R≤MX):R≤lim:=by rw [aY]; unfold MX at hR; omega
section
variable {R N:Nat} {d:Dk}
theorem DI.mono(h:DI R N d){M:Nat}(hm:N≤M):DI R M d:=⟨h.rd,h.see,h.nks,h.szs,λk hk=>Nat.le_trans (h.lns k hk) hm,h.oks,h.tls,Nat.le_trans h.ll hm⟩
theorem DI.nk(h:DI R N d):NK d.seen:=by rw [h.see]; exact AO h.nks
theorem DI.sz(h:DI R N d):Fw.sz d.seen≤R:=by
 rw [h.see]
 have:=h.szs d.loose.length (CD _)
 rwa [CN] at this
theorem DI.ln(h:DI R N d):d.seen.length≤N:=by
 rw [h.see]
 have:=h.lns d.loose.length (CD _)
 rwa [CN] at this
theorem DI.clean{r:Int}{es:Mp}(hr:r=(R:Int))(h1:NK es)(h2:Fw.sz es≤R)(h3:es.length≤N):DI R N ⟨r,es,es,[]⟩:=
 ⟨hr,rfl,h1,λk hk=>by simpa [run] using h2,λk hk=>by simpa [run] using h3,λk hk=>absurd hk (Nat.not_lt_zero _),λk hk=>absurd hk (Nat.not_lt_zero _),CE _⟩
def okn(n:ByteArray):Bool:=decide (1≤n.size)&&decide (n.size≤16)
theorem zW(s:ByteArray):(decide (((s.size:Nat):Int)<1)||decide (16<((s.size:Nat):Int)))=!okn s:=by
 unfold okn
 rw [Bool.eq_iff_iff]
 simp only [Bool.or_eq_true,Cm,Bool.not_eq_true',Bool.and_eq_false_iff,Cn]
 omega
theorem vy(l:List ByteArray):iK l=some (l.all okn):=by
 unfold iK
 refine(yh (λi _=>some ((l.drop i).all okn)) (λ_ _=>True) (λs _=>?_) (λf i s hi _ hf=>?_) trivial)
 ·rw [Cx (CD _)]; rfl
 ·unfold lS
  rw [hf () trivial,j8 hi,List.all_cons]
  rw [zW]
  cases okn (gt l i) <;> rfl
theorem AA{l:List UInt8}(h:l.length≤lim):cd l=some l:=by
 unfold cd nilc
 cases l with
 | nil=>rfl
 | cons x l=>rw [aH (by simpa using h)]; rfl
theorem uf:∀(es:Mp) (n:Int),0≤n→n+(sz es:Int)≤4611686018427387904→fldO eN n es=some (n+(sz es:Int))
 | [],n,_,_=>by simp [fldO,Fw.sz]
 | p::es,n,h0,h1=>by
  have hs:Fw.sz (p::es)=p.2.length+Fw.sz es:=by simp [Fw.sz]
  rw [hs] at h1 ⊢
  unfold fldO eN
  rw [Cy,cL (by unfold I64; omega)]
  have:=uf es (n+(p.2.length:Int)) (by omega) (by omega)
  unfold eN at this
  rw [this]; congr 1; omega
theorem AN{d:Dk}(h:Fw.sz d.seen≤lim):gJ d=some (Fw.sz d.seen:Int):=by
 unfold gJ
 rw [aY] at h
 rw [uf _ _ (Int.le_refl 0) (by omega),Cy,Int.zero_add]
def sB(d:Dk)(c:Dc):Dk:=⟨d.room,d.safe_,ap c.do_ d.seen,d.loose++[c]⟩
def dApp(d:Dk)(n:ByteArray)(b:List UInt8):Dk×Int:=
 bif !okn n then (d,70) else bif decide (d.room - (Fw.sz d.seen:Int)<(b.length:Int)) then (d,72) else (sB d ⟨.disk_add_1 n b,n,b⟩,0)
def iE(d:Dk)(n:ByteArray):Int:=bif !okn n then 70 else bif !(mget n d.seen).isSome then 71 else 0
def dCut(d:Dk)(n:ByteArray)(k:Int):Dk×Int:=
 bif iE d n != 0 then (d,iE d n) else bif decide (k<0)||decide (((((mget n d.seen).getD []).length:Nat):Int)<k) then (d,1) else (sB d ⟨.disk_Disk_Cut_1 n k,ByteArray.empty,[]⟩,0)
def dRem(d:Dk)(n:ByteArray):Dk×Int:=
 bif iE d n != 0 then (d,iE d n) else (sB d ⟨.disk_Disk_Remove_1 n,ByteArray.empty,[]⟩,0)
theorem vi(h:DI R N d)(hR:R≤lim)(hN:N+1≤lim){c:Dc}(h1:Fw.sz (ap c.do_ d.seen)≤R)(h2:okc c.do_ d.seen):dI d c=some (sB d c,0):=by
 unfold dI
 have:=h.ll
 rw [BQ h2 (Nat.le_trans h1 hR),Cy,aH (by simp; omega)]; rfl
theorem DI.done(h:DI R N d){c:Dc}(h1:Fw.sz (ap c.do_ d.seen)≤R)(h2:okc c.do_ d.seen)(h4:Tl c):DI R (N+1) (sB d c):=by
 have hs:=h.see
 have hk:∀k,k≤(d.loose++[c]).length→k≤d.loose.length∧(d.loose++[c]).take k=d.loose.take k∨k=d.loose.length+1∧(d.loose++[c]).take k=d.loose++[c]:=λk hk=>by
  rw [Co] at hk
  simp only [Cu,CH] at hk
  rcases Nat.lt_or_ge d.loose.length k with h | h
  ·right; exact⟨by omega,List.take_of_length_le (by simp; omega)⟩
  ·left; exact⟨h,by rw [List.take_append_of_le_length h]⟩
 have hg:∀k,k<(d.loose++[c]).length→k<d.loose.length∧gt (d.loose++[c]) k=gt d.loose k∨k=d.loose.length∧gt (d.loose++[c]) k=c:=λk hk=>by
  rw [Co] at hk
  simp only [Cu,CH] at hk
  rcases Nat.lt_or_ge k d.loose.length with h5 | h5
  ·left; exact⟨h5,gr h5⟩
  ·right
   have:k=d.loose.length:=by omega
   subst this
   exact⟨rfl,by rw [fE (CD _),Nat.sub_self]; rfl⟩
 refine⟨h.rd,?_,h.nks,λk q=>?_,λk q=>?_,λk q=>?_,λk q=>?_,?_⟩
 ·show ap c.do_ d.seen=run (d.loose++[c]) d.safe_
  rw [rD, ← hs]
 ·rcases hk k q with ⟨a,b⟩ | ⟨a,b⟩
  ·show Fw.sz (run ((d.loose++[c]).take k) d.safe_)≤R
   rw [b]; exact h.szs k a
  ·show Fw.sz (run ((d.loose++[c]).take k) d.safe_)≤R
   rw [b,rD, ← hs]; exact h1
 ·rcases hk k q with ⟨a,b⟩ | ⟨a,b⟩
  ·show (run ((d.loose++[c]).take k) d.safe_).length≤_
   rw [b]; exact Nat.le_trans (h.lns k a) (Nat.le_succ _)
  ·show (run ((d.loose++[c]).take k) d.safe_).length≤_
   rw [b,rD, ← hs]
   have:=h.ln
   have h6:=B6 (c:=c.do_) (es:=d.seen)
   omega
 ·rcases hg k q with ⟨a,b⟩ | ⟨a,b⟩
  ·show okc (gt (d.loose++[c]) k).do_ (run ((d.loose++[c]).take k) d.safe_)
   rw [b,List.take_append_of_le_length (Nat.le_of_lt a)]; exact h.oks k a
  ·show okc (gt (d.loose++[c]) k).do_ (run ((d.loose++[c]).take k) d.safe_)
   rw [b,a,List.take_append_of_le_length (CD _),CN, ← hs]; exact h2
 ·rcases hg k q with ⟨a,b⟩ | ⟨a,b⟩
  ·show Tl (gt (d.loose++[c]) k)
   rw [b]; exact h.tls k a
  ·show Tl (gt (d.loose++[c]) k)
   rw [b]; exact h4
 ·show (d.loose++[c]).length≤_
  have:=h.ll
  simp; omega
theorem AQ{z:Nat}(hR:R≤MX)(hz:z≤R):w64 ((R:Int) - (z:Int))=(R:Int) - (z:Int):=cL (by unfold I64 MX at *; omega)
theorem Bp(h:DI R N d)(hR:R≤MX)(hN:N+1≤lim)(n:ByteArray)(b:List UInt8):fv d n b=some (dApp d n b)∧DI R (N+1) (dApp d n b).1:=by
 have hs:=h.sz
 have hR2:=qH hR
 unfold fv dApp
 rw [vy,Cy]
 simp only [List.all_cons,List.all_nil,Bool.and_true]
 cases okn n with
 | false=>exact⟨rfl,h.mono (Nat.le_succ _)⟩
 | true=>
  rw [show (!true)=false from rfl,aJ rfl,aJ rfl,AN (Nat.le_trans hs hR2),Cy,h.rd,AQ hR hs]
  cases hc:decide ((R:Int) - (Fw.sz d.seen:Int)<((b.length:Nat):Int)) with
  | true=>exact⟨rfl,h.mono (Nat.le_succ _)⟩
  | false=>
   have hc:=of_decide_eq_false hc
   have h1:Fw.sz (ap (.disk_add_1 n b) d.seen)≤R:=by rw [uM]; omega
   rw [aJ rfl,aJ rfl,AA (by omega),Cy]
   unfold nR
   rw [Cy,vi h hR2 hN (c:=⟨.disk_add_1 n b,n,b⟩) h1 trivial]
   exact⟨rfl,h.done (c:=⟨.disk_add_1 n b,n,b⟩) h1 trivial ⟨rfl,rfl⟩⟩
theorem wm(n:ByteArray):eC d n=some (iE d n):=by
 unfold eC iE
 rw [vy,Cy]
 simp only [List.all_cons,List.all_nil,Bool.and_true]
 cases okn n <;> cases (mget n d.seen).isSome <;> rfl
theorem vQ(n:ByteArray):i64b (iE d n)=true:=by
 unfold iE
 cases okn n <;> cases (mget n d.seen).isSome <;> decide
theorem vA{n:ByteArray}(h:(iE d n != 0)=false):okn n=true∧(mget n d.seen).isSome=true:=by
 unfold iE at h
 cases h1:okn n <;> cases h2:(mget n d.seen).isSome <;> rw [h1,h2] at h <;> first | exact⟨rfl,rfl⟩ | exact absurd h (by decide)
theorem wk{n:ByteArray}(h:okn n=true)(h2:(mget n d.seen).isSome=true):iE d n=0:=by
 unfold iE; rw [h,h2]; rfl
theorem Bj(h:DI R N d)(hR:R≤MX)(hN:N+1≤lim)(n:ByteArray)(k:Int):hQ d n k=some (dCut d n k)∧DI R (N+1) (dCut d n k).1:=by
 have hs:=h.sz
 unfold hQ dCut
 rw [wm,Cy]
 cases ht:iE d n != 0 with
 | true=>rw [cg rfl,cg rfl,aH (vQ n)]; exact⟨rfl,h.mono (Nat.le_succ _)⟩
 | false=>
  rw [aJ rfl,aJ rfl]
  cases hc:decide (k<0)||decide (((((mget n d.seen).getD []).length:Nat):Int)<k) with
  | true=>exact⟨rfl,h.mono (Nat.le_succ _)⟩
  | false=>
   simp only [Bool.or_eq_false_iff,Cn] at hc
   have h1:Fw.sz (ap (.disk_Disk_Cut_1 n k) d.seen)≤R:=Nat.le_trans (Bi (n:=n) (k:=k)) hs
   have h2:okc (.disk_Disk_Cut_1 n k) d.seen:=⟨(vA ht).2,by omega,by omega⟩
   rw [aJ rfl,aJ rfl,vi h (qH hR) hN (c:=⟨.disk_Disk_Cut_1 n k,ByteArray.empty,[]⟩) h1 h2]
   exact⟨rfl,h.done (c:=⟨.disk_Disk_Cut_1 n k,ByteArray.empty,[]⟩) h1 h2 rfl⟩
theorem BG(h:DI R N d)(hR:R≤MX)(hN:N+1≤lim)(n:ByteArray):dS d n=some (dRem d n)∧DI R (N+1) (dRem d n).1:=by
 have hs:=h.sz
 unfold dS dRem
 rw [wm,Cy]
 cases ht:iE d n != 0 with
 | true=>rw [cg rfl,cg rfl,aH (vQ n)]; exact⟨rfl,h.mono (Nat.le_succ _)⟩
 | false=>
  have h1:Fw.sz (ap (.disk_Disk_Remove_1 n) d.seen)≤R:=Nat.le_trans (B1 (a:=n)) hs
  have h2:okc (.disk_Disk_Remove_1 n) d.seen:=(vA ht).2
  rw [aJ rfl,aJ rfl,vi h (qH hR) hN (c:=⟨.disk_Disk_Remove_1 n,ByteArray.empty,[]⟩) h1 h2]
  exact⟨rfl,h.done (c:=⟨.disk_Disk_Remove_1 n,ByteArray.empty,[]⟩) h1 h2 rfl⟩
def q6(d:Dk):Dk:=⟨d.room,d.seen,d.seen,[]⟩
theorem uQ:gH d=some (q6 d):=rfl
theorem DI.sync(h:DI R N d):DI R N (q6 d):=DI.clean h.rd h.nk h.sz h.ln
theorem e_Rd(h:DI R N d)(hR:R≤MX)(n:ByteArray):dJ d n=some ((mget n d.seen).getD [],(mget n d.seen).isSome):=by
 unfold dJ
 rw [AA (Nat.le_trans uT (Nat.le_trans h.sz (qH hR)))]; rfl
theorem zp(h:DI R N d)(hN:N≤lim):fZ d=some (fH d.seen):=by
 unfold fZ
 have:=h.ln
 rw [aH (by simp; omega)]
end
def rm(room:Int):Nat:=(min (max room 0) 1073741824).toNat
def d0(room:Int):Dk:=⟨(rm room:Int),[],[],[]⟩
theorem BT(room:Int):k6 room=some (d0 room):=by
 unfold k6 d0 rm
 rw [show (((min (max room 0) 1073741824).toNat:Nat):Int)=min (max room 0) 1073741824 by omega]
theorem di0(room:Int):DI (rm room) 0 (d0 room):=DI.clean rfl NK.nil (CE _) (CE _)
theorem AV(l:List UInt8):Rk (allB l).1:=by
 have key:∀(n:Nat) (l:List UInt8),l.length≤n→Rk (allB l).1:=by
  intro n
  induction n with
  | zero=>
   intro l h
   have:l = []:=List.eq_nil_of_length_eq_zero (by omega)
   subst this
   intro x hx; cases hx
  | succ n ih=>
   intro l h
   rw [qz]
   split
   ·intro x hx; cases hx
   ·split
    ·intro x hx; cases hx
    ·rename_i he
     have hk:=ol (l:=l) (by simpa using he)
     intro x hx
     rcases List.mem_cons.1 hx with e | hx
     ·rw [e]; exact hk.2.2
     ·exact ih (l.drop (dp l).2.1) (by rw [CT]; omega) x hx
 exact key l.length l (CD _)
def uk:Nat→List (List UInt8)→Option Nat
 | g,[]=>some g
 | g,x::l=>if (numF 0 0 x).2.2≠0∨(numF 0 0 x).2.1≠x.length∨(numF 0 0 x).1<1∨999999<(numF 0 0 x).1 then none else uk (numF 0 0 x).1 l
def xk(at_:Nat):Option Nat→Int×Int×Int
 | some g=>((g:Int),(at_:Int),0)
 | none=>(0,0,2)
theorem rE{at_:Nat}:∀(l:List (List UInt8)) (i g:Nat),Rk l→g≤999999→forI fe (λgen_33=>chk (i64b gen_33) (some (gen_33,(at_:Int),0))) i l (g:Int)=some (xk at_ (uk g l))
 | [],i,g,_,hg=>by
  show chk (i64b (g:Int)) (some ((g:Int),(at_:Int),0))=_
  rw [aH (by unfold i64b; simp; omega)]; rfl
 | x::l,i,g,hr,hg=>by
  have hx:=hr x Cp
  rw [forI]
  show Option.bind (fN x 0) (λz44=>bif ((((z44.2.2 != 0)||(z44.2.1 != ((x.length:Nat):Int)))||(decide (z44.1<1)))||(decide (999999<z44.1))) then some (0,0,2) else forI fe (λgen_33=>chk (i64b gen_33) (some (gen_33,(at_:Int),0))) (i+1) l z44.1)=_
  have e:=xj (b:=x) (at_:=0) (by rw [aY]; omega) (CE _)
  rw [show ((0:Nat):Int)=0 from rfl,List.drop_zero] at e
  rw [e,Cy]
  unfold uk numR
  generalize numF 0 0 x=r
  obtain⟨n,k,er⟩:=r
  simp only [Nat.zero_add]
  by_cases hc:er≠0∨k≠x.length∨n<1∨999999<n
  ·rw [if_pos hc,cg ?_]; rfl
   simp only [Bool.or_eq_true,bne_iff_ne,Cm]
   rcases hc with h | h | h | h
   ·exact .inl (.inl (.inl h))
   ·by_cases he:er=0
    ·rw [if_pos he]; exact .inl (.inl (.inr (by omega)))
    ·exact .inl (.inl (.inl he))
   ·exact .inl (.inr (by omega))
   ·exact .inr (by omega)
  ·rw [if_neg hc]
   have h1:er=0:=Classical.byContradiction λh=>hc (.inl h)
   have h2:k=x.length:=Classical.byContradiction λh=>hc (.inr (.inl h))
   have h3:¬ n<1:=λh=>hc (.inr (.inr (.inl h)))
   have h4:¬ 999999<n:=λh=>hc (.inr (.inr (.inr h)))
   rw [if_pos h1,aJ ?_]
   ·exact rE l (i+1) n (λy hy=>hr y (Cq _ hy)) (by omega)
   ·simp only [Bool.or_eq_false_iff,bne_eq_false_iff_eq,Cn]
    exact⟨⟨⟨h1,by omega⟩,by omega⟩,by omega⟩
section
variable {R N:Nat} {d:Dk}
def fb(d:Dk)(f:ByteArray):List UInt8:=(mget f d.seen).getD []
theorem y9(h:DI R N d)(hR:R≤MX)(f:ByteArray):(fb d f).length≤lim:=Nat.le_trans uT (Nat.le_trans h.sz (qH hR))
theorem e_holds(h:DI R N d)(hR:R≤MX){nm:ByteArray}(hn:Nm nm)(p2:Int):m_seglog_place_holds nm p2 d=some (xk (allB (fb d (mn nm))).2.1 (uk 0 (allB (fb d (mn nm))).1)):=by
 unfold m_seglog_place_holds
 have hs:=wh hn
 rw [xJ,Cy,aH (by rw [aY,Cm]; omega),e_Rd h hR,Cy]
 obtain⟨e,he⟩:=Av (y9 h hR (mn nm))
 unfold fb at he ⊢
 simp only
 rw [he,Cy]
 exact rE _ 0 0 (AV _) (by omega)
def kU(d:Dk)(f:ByteArray)(n:Nat):Dk:=if n<(fb d f).length then (dCut d f (n:Int)).1 else d
theorem vH(h:DI R N d)(hR:R≤MX)(hN:N+1≤lim)(p1:ByteArray)(p2:Int)(f:ByteArray)(n:Nat):cy p1 p2 f (n:Int) d=some (kU d f n)∧DI R (N+1) (kU d f n):=by
 unfold cy kU
 rw [e_Rd h hR,Cy]
 simp only
 obtain⟨a,b⟩:=Bj h hR hN f (n:Int)
 by_cases hc:n<(fb d f).length
 ·rw [if_pos hc,cg (by rw [Cm]; unfold fb at hc; omega),a]
  exact⟨rfl,b⟩
 ·rw [if_neg hc,aJ (by rw [Cn]; unfold fb at hc; omega)]
  exact⟨rfl,h.mono (Nat.le_succ _)⟩
theorem tG{f:ByteArray}{n:Nat}(h:(fb d f).length≤n):kU d f n=d:=by unfold kU; rw [if_neg (by omega)]
theorem rl{f:ByteArray}{n:Nat}(hf:okn f=true)(h:n<(fb d f).length):(kU d f n).seen=mput f ((fb d f).take n) d.seen∧(kU d f n).loose.length=d.loose.length+1:=by
 have hp:(mget f d.seen).isSome=true:=by
  unfold fb at h
  cases hm:mget f d.seen with
  | none=>rw [hm] at h; exact absurd h (Nat.not_lt_zero _)
  | some v=>rfl
 unfold kU
 rw [if_pos h]
 unfold dCut
 rw [wk hf hp,aJ (by decide),aJ (by unfold fb at h; simp; omega)]
 exact⟨rfl,by show (d.loose++[_]).length=_; simp⟩
def remL(d:Dk)(l:List ByteArray):Dk:=l.foldl (λd f=>(dRem d f).1) d
def gQ(nm:ByteArray)(q:Int→Int→Bool)(es:Mp):List ByteArray:=(fH es).filter λf=>(pf nm f).any λx=>q x.1 x.2
theorem pZ{R:Nat}(hR:R≤MX):∀(l:List ByteArray) (i N:Nat) (d:Dk),DI R N d→N+l.length≤lim→forI fB some i l d=some (remL d l)∧DI R (N+l.length) (remL d l)
 | [],_,_,d,h,_=>⟨rfl,h⟩
 | f::l,i,N,d,h,hN=>by
  simp only [Cu] at hN
  obtain⟨a,b⟩:=BG h hR (by omega) f
  rw [forI]
  show Option.bind (dS d f) (λz=>forI fB some (i+1) l z.1)=_∧_
  rw [a,Cy]
  obtain⟨a2,b2⟩:=pZ hR l (i+1) (N+1) _ b (by omega)
  exact⟨a2,by rw [Cu,show N+(l.length+1)=N+1+l.length by omega]; exact b2⟩
theorem qX{nm:ByteArray}(h:nm.size≤2){pred:Int→Int→Option Bool}{q:Int→Int→Bool}(hq:∀a b,pred a b=some (q a b)):∀(l:List ByteArray) (i:Nat) (o:List ByteArray),(∀f∈l,f.size≤lim)→o.length+l.length≤lim →
  forI (bU (cO pred) nm) (λo13=>some o13) i l o=some (o++l.filter λf=>(pf nm f).any λx=>q x.1 x.2)
 | [],_,o,_,_=>by simp [forI]
 | f::l,i,o,hf,ho=>by
  simp only [Cu] at ho
  rw [forI,vg h (hf f Cp) hq _ _ _ (by omega)]
  rw [qX h hq l (i+1) _ (λg hg=>hf g (Cq _ hg)) (by split <;> simp <;> omega)]
  by_cases hc:(pf nm f).any (λx=>q x.1 x.2)=true
  ·rw [if_pos hc,List.filter_cons_of_pos (by simpa using hc)]; simp
  ·rw [if_neg hc,List.filter_cons_of_neg (by simpa using hc)]; simp
def Ks(es:Mp):Prop := ∀k,(mget k es).isSome=true→okn k=true
theorem uG(h:DI R N d)(hR:R≤MX)(hN:N+N≤lim){nm:ByteArray}(hn:nm.size≤2)(hk:Ks d.seen){pred:Int→Int→Option Bool}{q:Int→Int→Bool}(hq:∀a b,pred a b=some (q a b))(g:Int):
  cc d nm g pred=some (remL d (gQ nm q d.seen))∧DI R (N+N) (remL d (gQ nm q d.seen)):=by
 have hln:=h.ln
 have hlen:(gQ nm q d.seen).length≤N:=Nat.le_trans (List.length_filter_le _ _) (by rw [mY]; exact hln)
 have hkl:∀f∈fH d.seen,f.size≤lim:=λf hf=>by
  have:=hk f (mJ.2 (sr.1 hf))
  unfold okn at this
  simp only [Cs,Cm] at this
  rw [aY]; omega
 unfold cc fo
 rw [zp h (by omega),Cy]
 have hp:=qX hn hq (fH d.seen) 0 [] hkl (by rw [mY]; simp; omega)
 rw [CK] at hp
 show Option.bind (forI (bU (cO pred) nm) (λo13=>some o13) 0 (fH d.seen) []) (λl=>forI fB some 0 l d)=_∧_
 rw [hp,Cy]
 obtain⟨a,b⟩:=pZ hR (gQ nm q d.seen) 0 N d h (by omega)
 exact⟨a,b.mono (by omega)⟩
theorem yK{f:ByteArray}(hf:okn f=true)(hp:(mget f d.seen).isSome=true):(dRem d f).1.seen=mdel f d.seen∧(dRem d f).1.loose.length=d.loose.length+1:=by
 unfold dRem
 rw [wk hf hp,aJ (by decide)]
 exact⟨rfl,by show (d.loose++[_]).length=_; simp⟩
theorem sk:∀(l:List ByteArray) (d:Dk),NK d.seen→l.Nodup→(∀f∈l,okn f=true∧(mget f d.seen).isSome=true)→(∀k,mget k (remL d l).seen=if k∈l then none else mget k d.seen)∧(remL d l).loose.length=d.loose.length+l.length
 | [],d,_,_,_=>⟨λk=>by rw [if_neg (by simp)]; rfl,rfl⟩
 | f::l,d,hn,hd,hl=>by
  rw [List.nodup_cons] at hd
  obtain⟨h1,h2⟩:=hl f Cp
  obtain⟨s1,s2⟩:=yK h1 h2
  have hn2:NK (dRem d f).1.seen:=by rw [s1]; exact hn.del
  have hl2:∀g∈l,okn g=true∧(mget g (dRem d f).1.seen).isSome=true:=λg hg=>by
   obtain⟨a,b⟩:=hl g (Cq _ hg)
   refine⟨a,?_⟩
   rw [s1,na hn,if_neg (show ¬ g=f from λe=>hd.1 (e▸hg))]; exact b
  obtain⟨r1,r2⟩:=sk l (dRem d f).1 hn2 hd.2 hl2
  refine⟨λk=>?_,?_⟩
  ·show mget k (remL (dRem d f).1 l).seen=_
   rw [r1 k,s1,na hn]
   by_cases hk:k∈l
   ·rw [if_pos hk,if_pos (Cq _ hk)]
   ·rw [if_neg hk]
    by_cases hf:k=f
    ·rw [if_pos hf,if_pos (hf▸Cp)]
    ·rw [if_neg hf,if_neg (by simp [hf,hk])]
  ·show (remL (dRem d f).1 l).loose.length=_
   rw [r2,s2,Cu]; omega
theorem wK{nm:ByteArray}{q:Int→Int→Bool}{es:Mp}(hn:NK es):(gQ nm q es).Nodup:=(xY hn).filter _
theorem lq{nm:ByteArray}{q:Int→Int→Bool}{es:Mp}{k:ByteArray}:k∈gQ nm q es↔(mget k es).isSome=true∧(pf nm k).any (λx=>q x.1 x.2)=true:=by
 unfold gQ
 rw [List.mem_filter,sr,mJ]
theorem zm{nm:ByteArray}{q:Int→Int→Bool}(h:DI R N d)(hk:Ks d.seen):(∀k,mget k (remL d (gQ nm q d.seen)).seen=if (pf nm k).any (λx=>q x.1 x.2)=true then none else mget k d.seen) ∧
  (remL d (gQ nm q d.seen)).loose.length=d.loose.length+(gQ nm q d.seen).length:=by
 obtain⟨a,b⟩:=sk (gQ nm q d.seen) d h.nk (wK h.nk) λf hf=>by
  have:=(lq.1 hf).1
  exact⟨hk f this,this⟩
 refine⟨λk=>?_,b⟩
 rw [a k]
 by_cases hc:(pf nm k).any (λx=>q x.1 x.2)=true
 ·rw [if_pos hc]
  split
  ·rfl
  ·rename_i hm
   cases hs:mget k d.seen with
   | none=>rfl
   | some v=>exact absurd (lq.2 ⟨by rw [hs]; rfl,hc⟩) hm
 ·rw [if_neg hc,if_neg (λhm=>hc (lq.1 hm).2)]
end
abbrev Bs:=List (List UInt8)
def tot(bs:Bs):Nat:=(bs.map List.length).sum
def ff(bs:Bs):List UInt8:=bs.getLastD []
theorem qx(a b:Bs):tot (a++b)=tot a+tot b:=by simp [tot]
theorem jQ(a:List UInt8)(b:Bs):tot (a::b)=a.length+tot b:=by simp [tot]
theorem k7(a:Bs)(b:List UInt8):ff (a++[b])=b:=by simp [ff]
theorem vL(bs:Bs):(ff bs).length≤tot bs:=by
 rcases List.eq_nil_or_concat bs with h | ⟨l,b,h⟩
 ·rw [h]; exact CD _
 ·rw [h,List.concat_eq_append,k7,qx,jQ]; omega
def lg(nm:ByteArray)(g:Nat)(size:Int)(bs:Bs)(cnt:Nat):ah:=⟨nm,(g:Int),size,(bs.length:Int),((ff bs).length:Int),(cnt:Int),(tot bs:Int)⟩
def Has(nm:ByteArray)(g:Nat)(bs:Bs)(es:Mp):Prop:=bs.length≤999999∧∀k,1≤k→k≤999999→mget (fn nm g k) es=bs[k - 1]?
theorem ws:∀(ks:List ByteArray) (es:Mp),NK es→ks.Nodup→(ks.map λk=>((mget k es).getD []).length).sum≤sz es
 | [],_,_,_=>CE _
 | k::ks,es,hn,hd=>by
  rw [List.nodup_cons] at hd
  have ih:=ws ks (mdel k es) hn.del hd.2
  have hs:=v6 (x:=k) (es:=es)
  have:(ks.map λj=>((mget j (mdel k es)).getD []).length)=ks.map λj=>((mget j es).getD []).length:=by
   apply List.map_congr_left
   intro j hj
   rw [na hn,if_neg (show ¬ j=k from λe=>hd.1 (e▸hj))]
  rw [this] at ih
  simp only [Cw,List.sum_cons]
  omega
theorem Has.sz{nm:ByteArray}{g:Nat}{bs:Bs}{es:Mp}(h:Has nm g bs es)(hnm:Nm nm)(hn:NK es):tot bs≤Fw.sz es:=by
 have h1:=ws ((List.range bs.length).map λj=>fn nm g (j+1)) es hn (by
  refine List.Pairwise.map _ (R:=λa b=>a≠b) (λa b hab e=>hab ?_) List.nodup_range
  have:=(tp hnm hnm e).2.2; omega)
 rw [CM] at h1
 refine Nat.le_trans (Nat.le_of_eq ?_) h1
 unfold tot
 congr 1
 apply List.ext_getElem
 ·simp
 ·intro i h2 h3
  simp only [CF] at h2
  simp only [CO,List.getElem_range,Function.comp]
  rw [h.2 (i+1) (by omega) (by have:=h.1; omega),Nat.add_sub_cancel,List.getElem?_eq_getElem h2]; rfl
def bg:Bs→Bs×Bs
 | []=>([],[])
 | b::t=>if (allB b).2.1=b.length then ((allB b).1++(bg t).1,b::(bg t).2) else ((allB b).1,[b.take (allB b).2.1])
theorem ul:∀bs:Bs,tot (bg bs).2≤tot bs∧(bg bs).1.length≤tot bs∧(bg bs).2.length≤bs.length
 | []=>⟨CD _,CD _,CD _⟩
 | b::t=>by
  have ih:=ul t
  have ha:=vW b
  unfold bg
  split
  ·simp only [jQ,Co,Cu]; omega
  ·simp only [jQ,Cu,CH,CS]
   have:tot ([]:Bs)=0:=rfl
   omega
section
variable {R N:Nat} {d:Dk}
theorem vr{f:ByteArray}{n:Nat}(hf:okn f=true)(h:n<(fb d f).length)(k:ByteArray):mget k (kU d f n).seen=if k=f then some ((fb d f).take n) else mget k d.seen:=by
 rw [(rl hf h).1,ne]
theorem tb{nm:ByteArray}(hnm:Nm nm){g k:Nat}(hg:g≤999999)(hk:k≤999999):okn (fn nm g k)=true:=by
 have:=qC hnm hg hk
 unfold okn
 simp only [Cs,Cm]; omega
theorem xd(h:DI R N d)(hR:R≤MX)(hN:N+1≤lim){nm:ByteArray}(hnm:Nm nm){g:Nat}(hg:g≤999999){size:Int}{bs:Bs}(hb:Has nm g bs d.seen):∀(t pre:Bs) (out:Bs) (F:Nat),bs=pre++t→out.length+tot t≤R→tot pre+tot t≤R →
  ∃d',loopN bC (F+t.length+1) (out,true,(⟨nm,(g:Int),size,(pre.length:Int),((ff pre).length:Int),0,(tot pre:Int)⟩:ah),d)=some (lg nm g size (pre++(bg t).2) (out++(bg t).1).length,d',out++(bg t).1)∧DI R (N+1) d' ∧
   ((bg t).2=t∧d'=d∨0<(bg t).2.length∧(∀k,mget k d'.seen=if k=fn nm g (pre.length+(bg t).2.length) then some (ff (bg t).2) else mget k d.seen)∧d'.loose.length=d.loose.length+1∧(bg t).2≠t):=by
 intro t
 induction t with
 | nil=>
  intro pre out F hbs ho htot
  rw [CI] at hbs
  have hl:=hb.1
  rw [hbs] at hl
  refine⟨d,?_,h.mono (Nat.le_succ _),.inl ⟨rfl,rfl⟩⟩
  rw [j6]
  generalize loopN bC (F+([]:Bs).length)=f
  unfold bC cZ
  simp only [Bool.true_and]
  by_cases hlt:pre.length<999999
  ·have hm:=hb.2 (pre.length+1) (by omega) (by omega)
   rw [hbs,Nat.add_sub_cancel,List.getElem?_eq_none (CD _)] at hm
   have hsz:=qC hnm hg (show pre.length+1≤999999 by omega)
   rw [cg (by rw [Cm]; omega),cL (by unfold I64; omega),show (pre.length:Int)+1=((pre.length+1:Nat):Int) by omega,uY hnm hg (by omega),Cy,aH (by rw [aY,Cm]; omega),e_Rd h hR,Cy,hm,cg (by rfl)]
   simp [bg,lg]
  ·rw [aJ (by rw [Cn]; omega)]
   simp [bg,lg]
 | cons b t ih=>
  intro pre out F hbs ho htot
  have hl:=hb.1
  rw [hbs,Co,Cu] at hl
  have hm:=hb.2 (pre.length+1) (by omega) (by omega)
  rw [hbs,Nat.add_sub_cancel,List.getElem?_append_right (CD _),Nat.sub_self] at hm
  have hm:mget (fn nm g (pre.length+1)) d.seen=some b:=hm
  have hfb:fb d (fn nm g (pre.length+1))=b:=by unfold fb; rw [hm]; rfl
  have hsz:=qC hnm hg (show pre.length+1≤999999 by omega)
  have hbl:b.length≤lim:=by have:=y9 h hR (fn nm g (pre.length+1)); rwa [hfb] at this
  obtain⟨e,he⟩:=Av hbl
  have ha:=vW b
  rw [jQ] at ho htot
  have hRv:R≤1073741824:=hR
  obtain⟨s1,s2⟩:=vH h hR hN nm (g:Int) (fn nm g (pre.length+1)) (allB b).2.1
  rw [show F+(b::t).length+1=(F+t.length+1)+1 by simp; omega,j6]
  generalize hf:loopN bC (F+t.length+1)=f
  unfold bC
  simp only [Bool.true_and]
  rw [cg (by rw [Cm]; omega),cL (x:=(pre.length:Int)+1) (by unfold I64; omega),show (pre.length:Int)+1=((pre.length+1:Nat):Int) by omega,uY hnm hg (by omega),Cy,aH (by rw [aY,Cm]; omega),e_Rd h hR,Cy,hm]
  simp only [Option.isSome_some,Option.getD_some,Bool.not_true]
  rw [aJ rfl,he,Cy]
  simp only
  rw [s1,Cy,aH (by rw [aY,Cm]; omega),cL (by unfold I64; omega)]
  unfold bg
  by_cases hw:(allB b).2.1=b.length
  ·rw [if_pos hw]
   have hd:kU d (fn nm g (pre.length+1)) (allB b).2.1=d:=tG (by rw [hfb]; omega)
   rw [hd,hw,show (((b.length:Nat):Int)==((b.length:Nat):Int))=true by simp, ← hf]
   obtain⟨d',i1,i2,i3⟩:=ih (pre++[b]) (out++(allB b).1) F (by rw [hbs]; simp) (by simp; omega) (by rw [qx,jQ]; simp [tot] at htot ⊢; omega)
   refine⟨d',?_,i2,?_⟩
   ·have e1:(⟨nm,(g:Int),size,((pre.length+1:Nat):Int),((b.length:Nat):Int),0,(tot pre:Int)+((b.length:Nat):Int)⟩:ah)=⟨nm,(g:Int),size,((pre++[b]).length:Int),((ff (pre++[b])).length:Int),0,(tot (pre++[b]):Int)⟩:=by
     rw [k7,qx,jQ]; simp [tot]
    rw [e1,i1]
    simp [Cr]
   ·rcases i3 with ⟨a1,a2⟩ | ⟨a0,a1,a2⟩
    ·exact .inl ⟨by rw [a1],a2⟩
    ·refine .inr ⟨by simp,λk=>?_,a2.1,λe=>a2.2 (List.cons.inj e).2⟩
     rw [a1 k]
     have e2:(pre++[b]).length+(bg t).2.length=pre.length+(b::(bg t).2).length:=by simp; omega
     have e3:ff (b::(bg t).2)=ff (bg t).2:=by
      cases hq:(bg t).2 with
      | nil=>rw [hq] at a0; exact absurd a0 (Nat.lt_irrefl 0)
      | cons x l=>simp [ff]
     rw [e2,e3]
  ·rw [if_neg hw]
   have hlt:(allB b).2.1<(fb d (fn nm g (pre.length+1))).length:=by rw [hfb]; omega
   have hok:=tb hnm hg (show pre.length+1≤999999 by omega)
   refine⟨_,?_,s2,.inr ⟨by simp,λk=>?_,(rl hok hlt).2,λe=>?_⟩⟩
   ·rw [show ((((allB b).2.1:Nat):Int)==((b.length:Nat):Int))=false by rw [beq_eq_false_iff_ne]; omega, ← hf,j6]
    generalize loopN bC (F+t.length)=f2
    unfold bC cZ
    simp only [Bool.false_and]
    rw [aJ rfl]
    unfold lg
    rw [k7,qx,jQ]
    simp [tot,CS]
    omega
   ·rw [vr hok hlt k,hfb]
    rfl
   ·have:=congrArg List.length (List.cons.inj e).1
    rw [CS] at this
    omega
theorem AX(h:DI R N d)(hR:R≤MX)(hN:N+1≤lim){nm:ByteArray}(hnm:Nm nm){g:Nat}(hg:g≤999999){size:Int}{bs:Bs}(hb:Has nm g bs d.seen):
  ∃d',gi (⟨nm,(g:Int),size,0,0,0,0⟩:ah) d=some (lg nm g size (bg bs).2 (bg bs).1.length,d',(bg bs).1)∧DI R (N+1) d' ∧
   ((bg bs).2=bs∧d'=d∨0<(bg bs).2.length∧(∀k,mget k d'.seen=if k=fn nm g (bg bs).2.length then some (ff (bg bs).2) else mget k d.seen)∧d'.loose.length=d.loose.length+1∧(bg bs).2≠bs):=by
 have h1:=hb.sz hnm h.nk
 have h2:=h.sz
 have h3:=hb.1
 obtain⟨F,hF⟩:∃F,FU=F+bs.length+1:=⟨FU - bs.length - 1,by unfold FU; omega⟩
 have:=xd h hR hN hnm hg (size:=size) hb bs [] [] F rfl (by simp; omega) (by show 0+tot bs≤R; omega)
 unfold gi
 rw [hF]
 simpa [ff,tot] using this
end
theorem ur:∀(bs:Bs) (i:Nat),i+1<(bg bs).2.length→(bg bs).2[i]? = bs[i]?
 | [],i,h=>by simp [bg] at h
 | b::t,i,h=>by
  unfold bg at h ⊢
  split
  ·rename_i hc
   rw [if_pos hc] at h
   cases i with
   | zero=>rfl
   | succ i=>
    simp only [Cu] at h
    simp only [List.getElem?_cons_succ]
    exact ur t i (by omega)
  ·rename_i hc
   rw [if_neg hc] at h
   simp at h
theorem r4{bs:Bs}(h:0<bs.length):bs[bs.length - 1]? = some (ff bs):=by
 rcases List.eq_nil_or_concat bs with e | ⟨l,b,e⟩
 ·rw [e] at h; exact absurd h (Nat.lt_irrefl 0)
 ·rw [e,List.concat_eq_append,k7]; simp
def Own1(nm:ByteArray)(g:Nat)(es:Mp):Prop := ∀k,(mget k es).isSome=true→pf nm k=none∨∃j,1≤j∧j≤999999∧k=fn nm g j
theorem nH{nm:ByteArray}{q:Int→Int→Bool}{es:Mp}(h:∀k,(mget k es).isSome=true→(pf nm k).any (λx=>q x.1 x.2)=false):gQ nm q es = []:=by
 apply List.eq_nil_iff_forall_not_mem.2
 intro k hk
 obtain⟨a,b⟩:=lq.1 hk
 rw [h k a] at b; cases b
section
variable {R N:Nat} {d:Dk}
theorem Ba(h:DI R N d)(hR:R≤MX)(hN:4*N+10≤lim){nm:ByteArray}(hnm:Nm nm)(hk:Ks d.seen)(size:Int){gl:Bs}{e0:Int}{g:Nat}{bs:Bs}(hg:g≤999999)
  (hm:allB (fb d (mn nm))=(gl,(fb d (mn nm)).length,e0)) (hh:uk 0 gl=some g) (hb:Has nm g bs d.seen) (hx:Own1 nm g d.seen) :
  ∃d',fO d nm size=some (d',some (lg nm g (max size 16) (bg bs).2 (bg bs).1.length),(bg bs).1,0)∧DI R (4*N+10) d'∧Has nm g (bg bs).2 d'.seen ∧
   (∀k,(∀j,1≤j→j≤999999→k≠fn nm g j)→mget k d'.seen=mget k d.seen)∧(∀k,(mget k d'.seen).isSome=true→(mget k d.seen).isSome=true)∧(d'=d∨d'.loose = [])∧((bg bs).2=bs→d'=d):=by
 have hlo:=hnm.lo
 have hhi:=hnm.hi
 have hms:=wh hnm
 have hsl:=(ul bs).2.2
 have hbl:=hb.1
 unfold fO
 have c1:(decide (((nm.size:Nat):Int)<1)||decide (2<((nm.size:Nat):Int)))=false:=by simp; omega
 rw [c1,show (!false)=true from rfl,yD hnm]
 unfold dP
 rw [cg rfl,Cy,show (false||false)=false from rfl,aJ rfl,e_holds h hR hnm 0,Cy,hm,hh]
 unfold xk fV
 simp only
 rw [aJ (by decide),Cy,xJ,Cy,aH (by rw [aY,Cm]; omega)]
 rw [(vH h hR (by omega) nm (g:Int) (mn nm) (fb d (mn nm)).length).1,Cy,tG (CD _)]
 have q1:gQ nm (λx _=>x != (g:Int)) d.seen = []:=nH λk hks=>by
  rcases hx k hks with e | ⟨j,j1,j2,e⟩
  ·rw [e]; rfl
  ·rw [e,tf ⟨hg,j1,j2⟩]; simp
 have r1:=(uG h hR (by omega) (nm:=nm) hhi hk (pred:=λx y=>fF x y (g:Int)) (q:=λx _=>x != (g:Int)) (λa b=>rfl) (g:Int)).1
 rw [q1] at r1
 have r1:cc d nm (g:Int) (λx y=>fF x y (g:Int))=some d:=r1
 rw [r1,Cy]
 obtain⟨d1,s1,s2,s3⟩:=AX h hR (by omega) hnm hg (size:=max size 16) hb
 rw [s1,Cy]
 simp only
 have hk1:Ks d1.seen∧(∀k,(mget k d1.seen).isSome=true→(mget k d.seen).isSome=true)∧(∀k,(∀j,1≤j→j≤999999→k≠fn nm g j)→mget k d1.seen=mget k d.seen):=by
  rcases s3 with ⟨a,b⟩ | ⟨a0,a,b,hne⟩
  ·rw [b]; exact⟨hk,λk hks=>hks,λk _=>rfl⟩
  ·have hin:(mget (fn nm g (bg bs).2.length) d.seen).isSome=true:=by
    rw [hb.2 _ (by omega) (by omega),List.getElem?_eq_getElem (by omega)]; rfl
   have hsub:∀k,(mget k d1.seen).isSome=true→(mget k d.seen).isSome=true:=λk hks=>by
    rw [a k] at hks
    split at hks
    ·rename_i e; rw [e]; exact hin
    ·exact hks
   exact⟨λk hks=>hk k (hsub k hks),hsub,λk hj=>by rw [a k,if_neg (hj _ (by omega) (by omega))]⟩
 have r2:=uG s2 hR (by omega) (nm:=nm) hhi hk1.1 (pred:=λx y=>hM x y (lg nm g (max size 16) (bg bs).2 (bg bs).1.length)) (q:=λ_ n=>decide ((((bg bs).2.length:Nat):Int)<n)) (λa b=>rfl) (g:Int)
 rw [r2.1,Cy,Cy]
 have hrem:=zm (nm:=nm) (q:=λ_ n=>decide ((((bg bs).2.length:Nat):Int)<n)) s2 hk1.1
 have dd:=r2.2
 generalize hD:remL d1 (gQ nm (λ_ n=>decide ((((bg bs).2.length:Nat):Int)<n)) d1.seen)=D at hrem dd ⊢
 have f1:Has nm g (bg bs).2 D.seen:=by
  refine⟨by omega,λk k1 k2=>?_⟩
  rw [hrem.1,tf ⟨hg,k1,k2⟩]
  simp only [Option.any_some,Cm]
  by_cases hc:(((bg bs).2.length:Nat):Int)<(k:Int)
  ·rw [if_pos hc,List.getElem?_eq_none (by omega)]
  ·rw [if_neg hc]
   rcases s3 with ⟨a,b⟩ | ⟨a0,a,b,hne⟩
   ·rw [b,hb.2 k k1 k2,a]
   ·rw [a]
    by_cases hl:k=(bg bs).2.length
    ·rw [if_pos (by rw [hl]),hl,r4 a0]
    ·rw [if_neg (λe=>hl (tp hnm hnm e).2.2),hb.2 k k1 k2,ur bs (k - 1) (by omega)]
 have f2:∀k,(∀j,1≤j→j≤999999→k≠fn nm g j)→mget k D.seen=mget k d.seen:=λk hj=>by
  rw [hrem.1,hk1.2.2 k hj]
  split
  ·rename_i hc
   cases hs:mget k d.seen with
   | none=>rfl
   | some v=>
    rcases hx k (by rw [hs]; rfl) with e | ⟨j,j1,j2,e⟩
    ·rw [e] at hc; cases hc
    ·exact absurd e (hj j j1 j2)
  ·rfl
 have f3:∀k,(mget k D.seen).isSome=true→(mget k d.seen).isSome=true:=λk hks=>by
  rw [hrem.1] at hks
  split at hks
  ·cases hks
  ·exact hk1.2.1 k hks
 have f4:D=d∨D.loose.length≠d.loose.length:=by
  rcases s3 with ⟨a,b⟩ | ⟨a0,a,b,hne⟩
  ·left
   have q2:gQ nm (λ_ n=>decide ((((bg bs).2.length:Nat):Int)<n)) d1.seen = []:=nH λk hks=>by
    rw [b] at hks
    rcases hx k hks with e | ⟨j,j1,j2,e⟩
    ·rw [e]; rfl
    ·rw [e] at hks ⊢
     rw [hb.2 j j1 j2] at hks
     rw [tf ⟨hg,j1,j2⟩,a]
     simp only [Option.any_some,Cn]
     intro hlt
     rw [List.getElem?_eq_none (by omega)] at hks; cases hks
   rw [← hD,q2,b]; rfl
  ·right; omega
 have f5:(bg bs).2=bs→D=d:=λhw=>by
  rcases s3 with ⟨a,b⟩ | ⟨a0,a,b,hne⟩
  ·rcases f4 with e | e
   ·exact e
   ·exfalso
    apply e
    have q2:gQ nm (λ_ n=>decide ((((bg bs).2.length:Nat):Int)<n)) d1.seen = []:=nH λk hks=>by
     rw [b] at hks
     rcases hx k hks with e | ⟨j,j1,j2,e⟩
     ·rw [e]; rfl
     ·rw [e] at hks ⊢
      rw [hb.2 j j1 j2] at hks
      rw [tf ⟨hg,j1,j2⟩,a]
      simp only [Option.any_some,Cn]
      intro hlt
      rw [List.getElem?_eq_none (by omega)] at hks; cases hks
    rw [← hD,q2,b]; rfl
  ·exact absurd hw hne
 by_cases hz:D.loose.length=d.loose.length
 ·have e:D=d:=f4.elim id (λhc=>absurd hz hc)
  rw [aJ (by rw [bne_eq_false_iff_eq]; omega)]
  unfold eW
  exact⟨D,rfl,dd.mono (by omega),f1,f2,f3,.inl e,f5⟩
 ·rw [cg (by rw [bne_iff_ne]; omega),uQ,Cy]
  unfold eW
  exact⟨q6 D,rfl,(DI.sync dd).mono (by omega),f1,f2,f3,.inr rfl,λhw=>absurd (by rw [f5 hw]) hz⟩
end
def gD(size:Int)(bs:Bs)(f:List UInt8):Bool:=decide (bs.length=0)||(decide (0<(ff bs).length)&&decide (size - ((ff bs).length:Int)<(f.length:Int)))
def addP(size:Int)(bs:Bs)(f:List UInt8):Bs:=bif gD size bs f then bs++[f] else bs.dropLast++[ff bs++f]
def pnum(size:Int)(bs:Bs)(f:List UInt8):Nat:=bif gD size bs f then bs.length+1 else bs.length
theorem zE{bs:Bs}(h:0<bs.length):bs=bs.dropLast++[ff bs]:=by
 rcases List.eq_nil_or_concat bs with e | ⟨l,b,e⟩
 ·rw [e] at h; exact absurd h (Nat.lt_irrefl 0)
 ·rw [e,List.concat_eq_append,k7]; simp
theorem mS{size:Int}{bs:Bs}{f:List UInt8}(h:gD size bs f=false):0<bs.length:=by
 unfold gD at h
 simp only [Bool.or_eq_false_iff,Cn] at h
 omega
theorem xm(size:Int)(bs:Bs)(f:List UInt8):tot (addP size bs f)=tot bs+f.length:=by
 unfold addP
 cases h:gD size bs f with
 | true=>simp [tot]
 | false=>
  conv=>rhs; rw [zE (mS h)]
  simp [tot]; omega
theorem me(size:Int)(bs:Bs)(f:List UInt8):(addP size bs f).length=pnum size bs f:=by
 unfold addP pnum
 cases h:gD size bs f with
 | true=>simp
 | false=>have:=mS h; simp; omega
theorem sf(size:Int)(bs:Bs)(f:List UInt8):ff (addP size bs f)=(bif gD size bs f then [] else ff bs)++f:=by
 unfold addP
 cases h:gD size bs f with
 | true=>simp [ff]
 | false=>simp [ff]
theorem uE(size:Int)(bs:Bs)(f:List UInt8):1≤pnum size bs f:=by
 unfold pnum
 cases h:gD size bs f with
 | true=>simp
 | false=>have:=mS h; simp only [cond_false]; omega
theorem tn(size:Int)(bs:Bs)(f:List UInt8):pnum size bs f≤bs.length+1:=by
 unfold pnum
 cases gD size bs f <;> simp
theorem zF{nm:ByteArray}{g:Nat}{size:Int}{bs:Bs}{es:Mp}{f:List UInt8}(hnm:Nm nm)(hb:Has nm g bs es)(hp:pnum size bs f≤999999):
  (mget (fn nm g (pnum size bs f)) es).getD []=(bif gD size bs f then [] else ff bs)∧Has nm g (addP size bs f) (mput (fn nm g (pnum size bs f)) ((mget (fn nm g (pnum size bs f)) es).getD []++f) es):=by
 have h1:=uE size bs f
 have hold:(mget (fn nm g (pnum size bs f)) es).getD []=(bif gD size bs f then [] else ff bs):=by
  rw [hb.2 _ h1 hp]
  unfold pnum
  cases h:gD size bs f with
  | true=>simp
  | false=>simp only [cond_false]; rw [r4 (mS h)]; rfl
 refine⟨hold,by rw [me]; exact hp,λk k1 k2=>?_⟩
 rw [ne,hold]
 by_cases hk:k=pnum size bs f
 ·have hl:=r4 (bs:=addP size bs f) (by rw [me]; omega)
  rw [me] at hl
  rw [if_pos (by rw [hk]),hk,hl,sf]
 ·rw [if_neg (λe=>hk (tp hnm hnm e).2.2),hb.2 k k1 k2]
  unfold addP
  unfold pnum at hk
  cases h:gD size bs f with
  | true=>
   rw [h] at hk
   simp only [cond_true] at hk ⊢
   rcases Nat.lt_or_ge (k - 1) bs.length with hlt | hge
   ·rw [List.getElem?_append_left hlt]
   ·rw [List.getElem?_eq_none hge,List.getElem?_eq_none (by simp; omega)]
  | false=>
   have hpos:=mS h
   rw [h] at hk
   simp only [cond_false] at hk ⊢
   rcases Nat.lt_or_ge (k - 1) (bs.length - 1) with hlt | hge
   ·rw [List.getElem?_append_left (by simpa using hlt),List.getElem?_dropLast,if_pos hlt]
   ·rw [List.getElem?_eq_none (by omega),List.getElem?_eq_none (by simp; omega)]
section
variable {R N:Nat} {d:Dk}
def dAdd(d:Dk)(nm:ByteArray)(g:Nat)(size:Int)(bs:Bs)(f:List UInt8):Dk:=sB d ⟨.disk_add_1 (fn nm g (pnum size bs f)) f,fn nm g (pnum size bs f),f⟩
inductive AppR (R:Nat) (d:Dk) (nm:ByteArray) (g:Nat) (size:Int) (bs:Bs) (cnt:Nat) (x:List UInt8):ah×Dk×Int→Prop
 | long:1048576<x.length→AppR R d nm g size bs cnt x (lg nm g size bs cnt,d,3)
 | many:x.length≤1048576→999999<pnum size bs (fr x)→AppR R d nm g size bs cnt x (lg nm g size bs cnt,d,72)
 | full:x.length≤1048576→pnum size bs (fr x)≤999999→R<Fw.sz d.seen+(fr x).length→AppR R d nm g size bs cnt x (lg nm g size bs cnt,d,72)
 | ok:x.length≤1048576→pnum size bs (fr x)≤999999→Fw.sz d.seen+(fr x).length≤R→AppR R d nm g size bs cnt x (lg nm g size (addP size bs (fr x)) (cnt+1),dAdd d nm g size bs (fr x),0)
theorem yM(d:Dk)(nm:ByteArray)(g:Nat)(size:Int)(bs:Bs)(f:List UInt8):(dAdd d nm g size bs f).seen=mput (fn nm g (pnum size bs f)) ((mget (fn nm g (pnum size bs f)) d.seen).getD []++f) d.seen:=rfl
theorem Bg(h:DI R N d)(hR:R≤MX)(hN:N+1≤lim){nm:ByteArray}(hnm:Nm nm){g:Nat}(hg:g≤999999){size:Int}(hs0:0≤size)(hs1:size≤9223372036854775807){bs:Bs}(hb:Has nm g bs d.seen){cnt:Nat}(hc:cnt≤4611686018427387904)(x:List UInt8):
  ∃r,bh (lg nm g size bs cnt) x d=some r∧AppR R d nm g size bs cnt x r∧DI R (N+1) r.2.1:=by
 have h1:=hb.sz hnm h.nk
 have h2:=h.sz
 have h3:=vL bs
 have hRv:R≤1073741824:=hR
 have hbl:=hb.1
 unfold bh
 by_cases hl:1048576<x.length
 ·rw [vv hl,Cy]
  exact⟨_,rfl,.long hl,h.mono (Nat.le_succ _)⟩
 ·have hx:x.length≤1048576:=by omega
  have hfl:=rn x
  have hp3:=pn3 hx
  rw [BA hx,Cy]
  simp only
  rw [aJ (by decide)]
  have hfr:(((lg nm g size bs cnt).last==0)||((decide (0<(lg nm g size bs cnt).tail))&&(decide ((w64 ((lg nm g size bs cnt).size - (lg nm g size bs cnt).tail))<(((fr x).length:Nat):Int)))))=gD size bs (fr x):=by
   unfold lg gD
   simp only
   rw [cL (by unfold I64; omega),Bool.eq_iff_iff]
   simp only [Bool.or_eq_true,Cs,beq_iff_eq,Cm]
   omega
  rw [hfr]
  have key:∀(p:Nat) (t:Int),p=pnum size bs (fr x)→t=(((bif gD size bs (fr x) then [] else ff bs).length:Nat):Int)→∃r,cx (lg nm g size bs cnt) d (fr x,0) (p:Int) t=some r∧AppR R d nm g size bs cnt x r∧DI R (N+1) r.2.1:=by
   intro p t hp ht
   unfold cx
   by_cases hm:999999<p
   ·rw [cg (by rw [Cm]; omega)]
    exact⟨_,rfl,.many hx (by omega),h.mono (Nat.le_succ _)⟩
   ·have hsz:=qC hnm hg (show p≤999999 by omega)
    rw [aJ (by rw [Cn]; omega)]
    show ∃r,Option.bind (cH nm (g:Int) (g:Int) (p:Int)) _=some r∧_
    rw [uY hnm hg (by omega),Cy,aH (by rw [aY,Cm]; omega)]
    obtain⟨a1,a2⟩:=Bp h hR hN (fn nm g p) (fr x)
    rw [a1,Cy]
    have hok:=tb hnm hg (show p≤999999 by omega)
    unfold dApp at a2 ⊢
    rw [hok] at a2 ⊢
    rw [show (!true)=false from rfl,aJ rfl] at a2 ⊢
    by_cases hroom:R<Fw.sz d.seen+(fr x).length
    ·rw [cg (by rw [Cm,h.rd]; omega)]
     exact⟨_,rfl,.full hx (by omega) hroom,h.mono (Nat.le_succ _)⟩
    ·have hq:decide (d.room - (Fw.sz d.seen:Int)<((fr x).length:Int))=false:=by rw [Cn,h.rd]; omega
     rw [hq,aJ rfl] at a2 ⊢
     unfold fk
     simp only
     rw [aJ (by decide)]
     have el:(⟨(lg nm g size bs cnt).place_name,(lg nm g size bs cnt).place_gen,(lg nm g size bs cnt).size,(p:Int),w64 (t+(((fr x).length:Nat):Int)),w64 ((lg nm g size bs cnt).count+1),w64 ((lg nm g size bs cnt).bytes+(((fr x).length:Nat):Int))⟩:ah)=lg nm g size (addP size bs (fr x)) (cnt+1):=by
      have ht2:t+(((fr x).length:Nat):Int)=(((ff (addP size bs (fr x))).length:Nat):Int):=by rw [sf,ht]; simp
      have hlt:=vL (addP size bs (fr x))
      have htt:=xm size bs (fr x)
      unfold lg
      simp only
      rw [me,ht2,htt,cL (by unfold I64; omega),cL (by unfold I64; omega),cL (by unfold I64; omega),hp]
      rfl
     rw [el]
     subst hp
     exact⟨_,rfl,.ok hx (by omega) (by omega),a2⟩
  cases hq:gD size bs (fr x) with
  | true=>
   rw [cg rfl]
   have e1:w64 ((lg nm g size bs cnt).last+1)=((bs.length+1:Nat):Int):=by
    unfold lg; simp only; rw [cL (by unfold I64; omega)]; rfl
   rw [e1]
   exact key _ _ (by unfold pnum; rw [hq]; rfl) (by rw [hq]; rfl)
  | false=>
   rw [aJ rfl]
   exact key bs.length _ (by unfold pnum; rw [hq]; rfl) (by rw [hq]; rfl)
theorem AppR.has{nm:ByteArray}{g:Nat}{size:Int}{bs:Bs}(hnm:Nm nm)(hb:Has nm g bs d.seen){f:List UInt8}(hp:pnum size bs f≤999999):Has nm g (addP size bs f) (dAdd d nm g size bs f).seen:=(zF hnm hb hp).2
theorem wI{nm:ByteArray}{g:Nat}{size:Int}{bs:Bs}{f:List UInt8}{k:ByteArray}(hk:k≠fn nm g (pnum size bs f)):mget k (dAdd d nm g size bs f).seen=mget k d.seen:=by
 rw [yM,ne,if_neg hk]
end
theorem mX{α S R:Type}[Inhabited α]{body:(S→Option R)→Nat→α→S→Option R}{K:S→Option R}{P:R→Prop}{l:List α}(I:Nat→S→Prop)(hend:∀s,I l.length s→∃r,K s=some r∧P r)
  (hstep:∀f i s,i<l.length→I i s→(∀s',I (i+1) s'→∃r,f s'=some r∧P r)→∃r,body f i (gt l i) s=some r∧P r) {s:S} (h0:I 0 s):∃r,forI body K 0 l s=some r∧P r:=by
 have key:∀m i s,l.length - i=m→i≤l.length→I i s→∃r,forI body K i (l.drop i) s=some r∧P r:=by
  intro m
  induction m with
  | zero=>
   intro i s hm hi hI
   have:i=l.length:=by omega
   subst this
   rw [Cx (CD _)]
   exact hend s hI
  | succ m ih=>
   intro i s hm hi hI
   rw [j8 (by omega)]
   exact hstep _ i s (by omega) hI λs' h'=>ih (i+1) s' (by omega) (by omega) h'
 exact key _ 0 s rfl (CE _) h0
def addR(size:Int)(rs:List Bs)(x:List UInt8):List Bs:=bif gD size (rs.map frs) (fr x) then rs++[[x]] else rs.dropLast++[rs.getLastD []++[x]]
def lo(size:Int)(l:Bs):List Bs:=l.foldl (addR size) []
def bsOf(size:Int)(l:Bs):Bs:=(lo size l).map frs
theorem yI(rs:List Bs):ff (rs.map frs)=frs (rs.getLastD []):=by
 rcases List.eq_nil_or_concat rs with e | ⟨l,b,e⟩
 ·rw [e]; rfl
 ·rw [e,List.concat_eq_append]; simp [ff]
theorem xx(size:Int)(rs:List Bs)(x:List UInt8):(addR size rs x).map frs=addP size (rs.map frs) (fr x):=by
 unfold addR addP
 cases h:gD size (rs.map frs) (fr x) with
 | true=>simp [frs]
 | false=>
  simp only [cond_false]
  rw [CG,yI,List.map_dropLast]
  simp [zK,frs]
theorem wC(size:Int)(rs:List Bs)(x:List UInt8):(addR size rs x).flatten=rs.flatten++[x]:=by
 unfold addR
 cases h:gD size (rs.map frs) (fr x) with
 | true=>simp
 | false=>
  have hp:=mS h
  rw [CF] at hp
  simp only [cond_false]
  rcases List.eq_nil_or_concat rs with e | ⟨l,b,e⟩
  ·rw [e] at hp; exact absurd hp (Nat.lt_irrefl 0)
  ·rw [e,List.concat_eq_append]; simp
theorem vZ(size:Int)(l:Bs)(x:List UInt8):lo size (l++[x])=addR size (lo size l) x:=by unfold lo; rw [List.foldl_append]; rfl
theorem vX(size:Int)(l:Bs):(lo size l).flatten=l:=by
 have key:∀(n:Nat) (l:Bs),l.length=n→(lo size l).flatten=l:=by
  intro n
  induction n with
  | zero=>intro l h; rw [List.eq_nil_of_length_eq_zero h]; rfl
  | succ n ih=>
   intro l h
   rcases List.eq_nil_or_concat l with e | ⟨m,b,e⟩
   ·rw [e] at h; cases h
   ·rw [List.concat_eq_append] at e
    rw [e,vZ,wC,ih m (by rw [e] at h; simpa using h)]
 exact key _ l rfl
theorem ph(size:Int)(l:Bs)(x:List UInt8):bsOf size (l++[x])=addP size (bsOf size l) (fr x):=by
 unfold bsOf
 rw [vZ,xx]
theorem rf:∀{rs:List Bs} (ex:Bs),(∀l∈rs,Rk l)→bg (rs.map frs++ex)=(rs.flatten++(bg ex).1,rs.map frs++(bg ex).2)
 | [],ex,_=>rfl
 | l::rs,ex,h=>by
  rw [Cw,List.cons_append,bg,yX (h l Cp),if_pos rfl,rf ex λm hm=>h m (Cq _ hm)]
  simp
theorem Bu{size:Int}{l:Bs}(h:Rk l):∀m∈lo size l,Rk m:=λm hm x hx=>h x (by
 have:=vX size l
 rw [← this]; exact List.mem_flatten.2 ⟨m,hm,hx⟩)
theorem x7(size:Int){l:Bs}(h:Rk l):bg (bsOf size l)=(l,bsOf size l):=by
 have:=rf (rs:=lo size l) [] (Bu h)
 rw [CI] at this
 unfold bsOf
 rw [this,vX]
 simp [bg]
section
variable {R N:Nat} {d:Dk}
structure Mid (R M:Nat) (d:Dk) (nm:ByteArray) (g:Nat) (bs:Bs) (e:Dk):Prop where
 di:DI R M e
 has:Has nm g bs e.seen
 same:∀k,(∀j,1≤j→j≤999999→k≠fn nm g j)→mget k e.seen=mget k d.seen
theorem Mid.ks{M:Nat}{nm:ByteArray}{g:Nat}{bs:Bs}{e:Dk}(h:Mid R M d nm g bs e)(hnm:Nm nm)(hg:g≤999999)(hk:Ks d.seen):Ks e.seen:=λk hks=>by
 by_cases hc:∀j,1≤j→j≤999999→k≠fn nm g j
 ·rw [h.same k hc] at hks; exact hk k hks
 ·obtain⟨j,hc⟩:=Classical.not_forall.1 hc
  obtain⟨j1,hc⟩:=Classical.not_imp.1 hc
  obtain⟨j2,hc⟩:=Classical.not_imp.1 hc
  rw [Classical.not_not.1 hc]; exact tb hnm hg j2
theorem yu(size:Int)(l:Bs):(bsOf size l).length≤l.length:=by
 have key:∀(n:Nat) (l:Bs),l.length=n→(bsOf size l).length≤l.length:=by
  intro n
  induction n with
  | zero=>intro l h; rw [List.eq_nil_of_length_eq_zero h]; exact CD _
  | succ n ih=>
   intro l h
   rcases List.eq_nil_or_concat l with e | ⟨m,b,e⟩
   ·rw [e] at h; cases h
   ·rw [List.concat_eq_append] at e
    have hm:m.length=n:=by rw [e] at h; simpa using h
    have:=ih m hm
    have h2:=tn size (bsOf size m) (fr b)
    rw [e,ph,me,Co]
    simp; omega
 exact key _ l rfl
theorem AF{d:Dk}{nm:ByteArray}{g:Nat}{size:Int}{bs:Bs}{f:List UInt8}:Fw.sz (dAdd d nm g size bs f).seen=Fw.sz d.seen+f.length:=uM
end
def SpOk(x:Span):Prop:=1≤x.s∧x.s≤16∧1≤x.f∧x.f≤x.t∧x.t≤4611686018427387904
structure VeOk (v:Ver):Prop where
 s:1≤v.dot.s∧v.dot.s≤16
 n:1≤v.dot.n∧v.dot.n≤4611686018427387904
 pl:v.past.length≤1024
 past:∀x∈v.past,SpOk x
 val:v.val.size≤256
 gone:v.gone=true→v.val=ByteArray.empty
structure ReOk (r:Rec):Prop where
 key:1≤r.key.size∧r.key.size≤32
 vl:r.vers.length≤512
 vers:∀v∈r.vers,VeOk v
theorem xA{α:Type}[Inhabited α]{l:List α}{p:α→Prop}(h:∀j,j<l.length→p (gt l j)):∀x∈l,p x:=λx hx=>by
 obtain⟨j,hj,rfl⟩:=List.getElem_of_mem hx
 have:=h j hj
 rwa [bT hj] at this
theorem Ap(l:List Span):∃b,iw l=some b∧(b=true→l.length≤1024∧∀x∈l,SpOk x):=by
 unfold iw
 refine mX (λi _ => ∀j,j<i→SpOk (gt l j)) (λs hI=>⟨_,rfl,λhb=>⟨by have:=Cl hb; omega,xA hI⟩⟩) (λf i s hi hI hf=>?_) (λj hj=>absurd hj (Nat.not_lt_zero _))
 ·unfold lW
  cases hc:(((((((decide ((gt l i).s<1))||(decide (16<(gt l i).s)))||(decide ((gt l i).f<1)))||(decide ((gt l i).t<(gt l i).f)))||(decide (4611686018427387904<(gt l i).t)))||(decide ((gt l i).s<s.s)))||(((gt l i).s==s.s)&&(decide ((gt l i).f≤(w64 (s.t+1)))))) with
  | true=>exact⟨false,rfl,λh=>by cases h⟩
  | false=>
   refine hf _ λj hj=>?_
   rcases Nat.lt_or_ge j i with h | h
   ·exact hI j h
   ·obtain rfl:j=i:=by omega
    simp only [Bool.or_eq_false_iff,Cn] at hc
    obtain⟨⟨⟨⟨⟨⟨h1,h2⟩,h3⟩,h4⟩,h5⟩,h6⟩,h7⟩:=hc
    clear h6 h7
    unfold SpOk
    omega
theorem BO(l:List Span)(s:Int):∃n,lM l s=some n:=by
 unfold lM
 obtain⟨r,h,_⟩:=mX (body:=kR s) (K:=λt=>some t) (P:=λ_=>True) (l:=l) (λ_ _=>True) (λs _=>⟨_,rfl,trivial⟩) (λf i t hi _ hf=>by
  unfold kR jd
  cases (gt l i).s==s <;> exact hf _ trivial) (s:=0) trivial
 exact⟨r,h⟩
theorem tU(v:Ver):∃b,i7 v=some b∧(b=true→VeOk v):=by
 unfold i7
 obtain⟨a,a1,a2⟩:=Ap [⟨v.dot.s,v.dot.n,v.dot.n⟩]
 obtain⟨b,b1,b2⟩:=Ap v.past
 obtain⟨n,n1⟩:=BO v.past v.dot.s
 rw [a1,Cy,b1,jM,Cy,n1,jM,Cy]
 refine⟨_,rfl,λh=>?_⟩
 simp only [Cs,Cm,Bool.or_eq_true,Bool.not_eq_true',beq_iff_eq] at h
 obtain⟨⟨⟨⟨h1,h2⟩,h3⟩,h4⟩,h5⟩:=h
 rw [h1] at h2
 have ha:=(a2 h1).2 _ Cp
 unfold SpOk at ha
 simp only at ha
 have hb:=b2 h2
 refine⟨⟨ha.1,ha.2.1⟩,⟨ha.2.2.1,ha.2.2.2.2⟩,hb.1,hb.2,by omega,λhg=>?_⟩
 rcases h5 with h5 | h5
 ·rw [hg] at h5; cases h5
 ·exact h5
theorem wO(d:Dot)(l:List Ver):∃b,jc d l=some b:=by
 unfold jc
 obtain⟨r,h,_⟩:=mX (body:=iR d) (K:=λ_=>some false) (P:=λ_=>True) (l:=l) (λ_ _=>True) (λs _=>⟨_,rfl,trivial⟩) (λf i t hi _ hf=>by
  unfold iR nS
  obtain⟨z,h,_⟩:=mX (body:=kL d) (K:=λ_=>some false) (P:=λ_=>True) (l:=(gt l i).past) (λ_ _=>True) (λs _=>⟨_,rfl,trivial⟩) (λf j t hi _ hf=>by
   unfold kL
   cases (((gt (gt l i).past j).s==d.s)&&(decide ((gt (gt l i).past j).f≤d.n)))&&(decide (d.n≤(gt (gt l i).past j).t)) with
   | true=>exact⟨_,rfl,trivial⟩
   | false=>exact hf _ trivial) (s:=()) trivial
  rw [h,Cy]
  cases z with
  | true=>exact⟨_,rfl,trivial⟩
  | false=>exact hf _ trivial) (s:=()) trivial
 exact⟨r,h⟩
theorem wU{l:List Ver}(hl:l.length≤lim):∃b,jL l=some b∧(b=true→l.length≤512∧∀x∈l,VeOk x):=by
 rw [aY] at hl
 unfold jL
 refine mX (λi _ => ∀j,j<i→VeOk (gt l j)) (λs hI=>⟨_,rfl,λhb=>⟨by have:=Cl hb; omega,xA hI⟩⟩) (λf i s hi hI hf=>?_) (λj hj=>absurd hj (Nat.not_lt_zero _))
 ·unfold lT
  obtain⟨a,a1,a2⟩:=tU (gt l i)
  obtain⟨b,b1⟩:=wO (gt l i).dot l
  have e1:w64 (((i:Nat):Int) - 1)=((i:Nat):Int) - 1:=cL (by unfold I64; omega)
  have hc:imp ((!(!a))&&(decide (0<((i:Nat):Int)))) (inb (w64 (((i:Nat):Int) - 1)) l.length)=true:=by
   rw [e1]
   by_cases h0:0<((i:Nat):Int)
   ·have:inb (((i:Nat):Int) - 1) l.length=true:=by
     unfold inb
     rw [Cs,Cm,Cm]
     clear e1 a1 a2 b1 hf hI
     omega
    rw [this]; cases a <;> cases decide (0<((i:Nat):Int)) <;> rfl
   ·rw [decide_eq_false h0]; cases a <;> rfl
  rw [a1,Cy,aH hc,b1]
  unfold kP
  rw [jM,Cy,jM,Cy]
  cases a with
  | false=>exact⟨_,rfl,λh=>by cases h⟩
  | true=>
   have hn:∀j,j<i+1→VeOk (gt l j):=λj hj=>by
    rcases Nat.lt_or_ge j i with h | h
    ·exact hI j h
    ·obtain rfl:j=i:=by omega
     exact a2 rfl
   generalize hg:(((!true)||_)||_)=g
   cases g with
   | true=>exact⟨_,rfl,λh=>by cases h⟩
   | false=>exact hf _ hn
theorem ue{r:Rec}(hl:r.vers.length≤lim):∃b,az r=some b∧(b=true→ReOk r):=by
 unfold az
 obtain⟨a,a1,a2⟩:=wU hl
 rw [a1,jM,Cy]
 refine⟨_,rfl,λh=>?_⟩
 simp only [Cs,Cm] at h
 obtain⟨⟨h1,h2⟩,h3⟩:=h
 have hc:((decide (1≤((r.key.size:Nat):Int)))&&(decide (((r.key.size:Nat):Int)≤32)))=true:=by rw [Cs,Cm,Cm]; exact⟨h1,h2⟩
 rw [hc] at h3
 have:=a2 h3
 exact⟨⟨by omega,by omega⟩,this.1,this.2⟩
def pz(n:Int):List UInt8:=pn n.toNat
def spB(x:Span):List UInt8:=pz x.s++(pz x.f++pz (x.t - x.f))
def spsB(l:List Span):List UInt8:=pz l.length++(l.map spB).flatten
def txB(s:ByteArray):List UInt8:=pz s.size++s.data.toList
def veB(v:Ver):List UInt8:=pz v.dot.s++(pz v.dot.n++(spsB v.past++(bif v.gone then pz 1 else pz 0++txB v.val)))
def vesB(l:List Ver):List UInt8:=pz l.length++(l.map veB).flatten
def reB(r:Rec):List UInt8:=txB r.key++vesB r.vers
theorem cD{n:Int}(h:n≤4611686018427387904):(pz n).length≤9:=uS 8 _ (by omega)
theorem vd(n:Int):0<(pz n).length:=yZ _
theorem oa{α:Type}{e:α→List UInt8}{c:Nat}:∀{l:List α},(∀x∈l,(e x).length≤c)→((l.map e).flatten).length≤c*l.length
 | [],_=>CD _
 | x::l,h=>by
  have h1:=h x Cp
  have h2:=oa (l:=l) λy hy=>h y (Cq _ hy)
  rw [Cw,CL,Co,Cu,Nat.mul_add]; omega
theorem qy{α:Type}{e:α→List UInt8}:∀{l:List α},(∀x∈l,0<(e x).length)→l.length≤((l.map e).flatten).length
 | [],_=>CD _
 | x::l,h=>by
  have h1:=h x Cp
  have h2:=qy (l:=l) λy hy=>h y (Cq _ hy)
  rw [Cw,CL,Co,Cu]; omega
theorem zu{x:Span}(h:SpOk x):(spB x).length≤27:=by
 obtain⟨h1,h2,h3,h4,h5⟩:=h
 have a:=cD (n:=x.s) (by omega)
 have b:=cD (n:=x.f) (by omega)
 have c:=cD (n:=x.t - x.f) (by omega)
 unfold spB; simp only [Co]; omega
theorem zq(x:Span):0<(spB x).length:=by
 have:=vd x.s
 unfold spB; simp only [Co]; omega
theorem qu{s:ByteArray}(h:s.size≤256):(txB s).length≤265:=by
 have a:=cD (n:=(s.size:Int)) (by omega)
 have b:s.data.toList.length=s.size:=rfl
 unfold txB; simp only [Co]; omega
theorem zv{v:Ver}(h:VeOk v):(veB v).length≤28000:=by
 have a:=cD (n:=v.dot.s) (by have:=h.s; omega)
 have b:=cD (n:=v.dot.n) h.n.2
 have hp:=h.pl
 have c:=cD (n:=(v.past.length:Int)) (by omega)
 have d:=oa (e:=spB) (c:=27) (l:=v.past) λx hx=>zu (h.past x hx)
 have e1:=cD (n:=1) (by omega)
 have e0:=cD (n:=0) (by omega)
 have f:=qu h.val
 have g:(bif v.gone then pz 1 else pz 0++txB v.val).length≤274:=by cases v.gone <;> simp only [cond_true,cond_false,Co] <;> omega
 unfold veB spsB; simp only [Co]; omega
theorem zY(v:Ver):0<(veB v).length:=by
 have:=vd v.dot.s
 unfold veB; simp only [Co]; omega
theorem n4{r:Rec}(h:ReOk r):(reB r).length≤14400000:=by
 have hk:=h.key
 have hv:=h.vl
 have a:=qu (s:=r.key) (by omega)
 have c:=cD (n:=(r.vers.length:Int)) (by omega)
 have d:=oa (e:=veB) (c:=28000) (l:=r.vers) λx hx=>zv (h.vers x hx)
 unfold reB vesB; simp only [Co]; omega
theorem vU{b:List UInt8}{n:Int}(h0:0≤n)(h1:n≤4611686018427387904)(hb:b.length+(pz n).length≤lim):cB ⟨b⟩ n=some ⟨b++pz n⟩:=by
 unfold cB
 obtain⟨m,rfl⟩:∃m:Nat,n=(m:Int):=⟨n.toNat,by omega⟩
 rw [oI (by omega),Cy]
 exact aH (CB hb)
theorem sn{b:List UInt8}{n:Int}(h0:0≤n)(h1:n≤4611686018427387904)(hb:b.length+(pz n).length≤lim):bI ⟨b⟩ n=some ⟨b++pz n⟩:=by
 unfold bI
 rw [vU h0 h1 hb]; rfl
theorem yq{b:List UInt8}{s:ByteArray}(h:s.size≤256)(hb:b.length+(txB s).length≤lim):dW ⟨b⟩ s=some ⟨b++txB s⟩:=by
 unfold dW kI
 have hl:s.data.toList.length=s.size:=rfl
 have hx:(txB s).length=(pn s.size).length+s.size:=by unfold txB pz; rw [Co,hl,Cv]
 rw [oI (by omega),Cy,aH (CB (by omega)),Cy]
 exact aH (CB hb)
theorem AL{b:List UInt8}{x:Span}(h:SpOk x)(hb:b.length+(spB x).length≤lim):dM ⟨b⟩ x=some ⟨b++spB x⟩:=by
 obtain⟨h1,h2,h3,h4,h5⟩:=h
 have e:(spB x).length=(pz x.s).length+((pz x.f).length+(pz (x.t - x.f)).length):=by unfold spB; simp only [Co]
 unfold dM
 rw [sn (by omega) (by omega) (by omega),Cy,vU (by omega) (by omega) (by rw [Co]; omega),Cy,cL (x:=x.t - x.f) (by unfold I64; omega),
  vU (by omega) (by omega) (by rw [Co,Co]; omega),Cy]
 unfold spB
 rw [Cr,Cr]
theorem vz:∀{l:List Span} {b:List UInt8} (i:Nat),(∀x∈l,SpOk x)→b.length+((l.map spB).flatten).length≤lim→forI bP (λo=>some o) i l ⟨b⟩=some ⟨b++(l.map spB).flatten⟩
 | [],b,i,_,_=>by show some (⟨b⟩:a8)=some ⟨b++[]⟩; rw [CI]
 | x::l,b,i,h,hb=>by
  rw [Cw,CL,Co] at hb
  show bP (forI bP (λo=>some o) (i+1) l) i x ⟨b⟩=_
  unfold bP
  rw [AL (h x Cp) (by omega),Cy]
  rw [show (λf14 i15 ei15 o11=>Option.bind (dM o11 ei15) λz22=>f14 z22)=bP from rfl]
  rw [vz (i+1) (λy hy=>h y (Cq _ hy)) (by rw [Co]; omega),Cw,CL,Cr]
theorem BB{l:List Span}{b:List UInt8}(h:∀x∈l,SpOk x)(hl:l.length≤1024)(hb:b.length+(spsB l).length≤lim):dv ⟨b⟩ l=some ⟨b++spsB l⟩:=by
 have e:(spsB l).length=(pz l.length).length+((l.map spB).flatten).length:=by unfold spsB; rw [Co]
 unfold dv
 rw [sn (by omega) (by omega) (by omega),Cy,vz 0 h (by rw [Co]; omega),Cr]; rfl
theorem Bz{b:List UInt8}{v:Ver}(h:VeOk v)(hb:b.length+(veB v).length≤lim):dc ⟨b⟩ v=some ⟨b++veB v⟩:=by
 have hs:=h.s
 have hn:=h.n
 have e:(veB v).length=(pz v.dot.s).length+((pz v.dot.n).length+((spsB v.past).length+(bif v.gone then pz 1 else pz 0++txB v.val).length)):=by unfold veB; simp only [Co]
 unfold dc
 rw [sn (by omega) (by omega) (by omega),Cy,vU (by omega) (by omega) (by rw [Co]; omega),Cy,BB h.past h.pl (by rw [Co,Co]; omega),Cy]
 unfold veB
 cases hg:v.gone with
 | true=>
  rw [hg] at e
  simp only [cond_true] at e ⊢
  rw [sn (by omega) (by omega) (by rw [Co,Co,Co]; omega),Cy]
  simp only [Cr]
 | false=>
  rw [hg] at e
  simp only [cond_false,Co] at e ⊢
  rw [sn (by omega) (by omega) (by rw [Co,Co,Co]; omega),Cy,yq h.val (by rw [Co,Co,Co,Co]; omega),Cy]
  simp only [Cr]
theorem yd:∀{l:List Ver} {b:List UInt8} (i:Nat),(∀x∈l,VeOk x)→b.length+((l.map veB).flatten).length≤lim→forI bZ (λo=>some o) i l ⟨b⟩=some ⟨b++(l.map veB).flatten⟩
 | [],b,i,_,_=>by show some (⟨b⟩:a8)=some ⟨b++[]⟩; rw [CI]
 | x::l,b,i,h,hb=>by
  rw [Cw,CL,Co] at hb
  show bZ (forI bZ (λo=>some o) (i+1) l) i x ⟨b⟩=_
  unfold bZ
  rw [Bz (h x Cp) (by omega),Cy]
  rw [show (λf14 i15 ei15 o11=>Option.bind (dc o11 ei15) λz25=>f14 z25)=bZ from rfl]
  rw [yd (i+1) (λy hy=>h y (Cq _ hy)) (by rw [Co]; omega),Cw,CL,Cr]
theorem u5{r:Rec}(h:ReOk r):eu ⟨[]⟩ r=some ⟨reB r⟩:=by
 have hk:=h.key
 have hv:=h.vl
 have hl:=n4 h
 have e:(reB r).length=(txB r.key).length+((pz r.vers.length).length+((r.vers.map veB).flatten).length):=by unfold reB vesB; simp only [Co]
 have hlim:14400000≤lim:=by rw [aY]; omega
 unfold eu
 rw [yq (by omega) (by simp only [CH]; omega),Cy]
 unfold fw
 rw [sn (by omega) (by omega) (by simp only [CK]; omega),Cy,yd 0 h.vers (by simp only [CK,Co]; omega),Cy]
 unfold reB vesB
 simp only [CK,Cr]
def At(B:List UInt8)(p:Int)(rest:List UInt8):Prop := ∃q:Nat,p=(q:Int)∧q≤B.length∧B.drop q=rest
theorem At.go{B a rest:List UInt8}{q:Nat}(hq:q≤B.length)(h:B.drop q=a++rest):At B ((q+a.length:Nat):Int) rest∧q+a.length≤B.length:=by
 have h1:=congrArg List.length h
 rw [CT,Co] at h1
 refine⟨⟨q+a.length,rfl,by omega,?_⟩,by omega⟩
 rw [← List.drop_drop,h,List.drop_left]
theorem At.len{B rest:List UInt8}{p:Int}(h:At B p rest):(B.length:Int) - p=(rest.length:Int)∧0≤p:=by
 obtain⟨q,rfl,h1,rfl⟩:=h
 rw [CT]; omega
theorem At.end_{B:List UInt8}{p:Int}(h:At B p []):p=(B.length:Int):=by have:=h.len; simp at this; omega
section
variable {B:List UInt8} (hB:B.length≤lim)
include hB
theorem ye{p n:Int}{rest:List UInt8}(h0:0≤n)(h1:n≤4611686018427387904)(h:At B p (pz n++rest)):∃q:Nat,fN B p=some (n,(q:Int),0)∧At B q rest∧q≤B.length:=by
 obtain⟨q,rfl,hq,hd⟩:=h
 have hg:=At.go hq hd
 have hl:=cD h1
 refine⟨q+(pz n).length,?_,hg.1,hg.2⟩
 rw [xj hB hq,hd]
 unfold pz at hl ⊢
 rw [yv n.toNat 0 0 rest (λh=>absurd h (Nat.lt_irrefl 0)) (by omega)]
 unfold numR
 have e1:(((0+n.toNat*128 ^ 0:Nat):Nat):Int)=n:=by rw [Nat.pow_zero,Nat.mul_one,Nat.zero_add]; omega
 simp only [if_pos]
 rw [e1,Nat.zero_add]
theorem pV{p n:Int}{rest:List UInt8}(h0:0≤n)(h1:n≤4611686018427387904)(h:At B p (pz n++rest)):∃q,bx ⟨B,p⟩=some (some (⟨B,q⟩,n))∧At B q rest:=by
 obtain⟨q,e,hA,hq⟩:=ye hB h0 h1 h
 rw [aY] at hB
 refine⟨(q:Int),?_,hA⟩
 unfold bx gF
 simp only
 rw [e,Cy]
 simp only
 rw [aJ (by decide),aH (by unfold i64b; rw [Cs,Cm,Cm]; omega),aH (by unfold i64b; rw [Cs,Cm,Cm]; omega)]
theorem AB{p n:Int}{rest:List UInt8}(h0:0≤n)(h1:n≤4611686018427387904)(h:At B p (pz n++rest)):∃q,ek ⟨B,p⟩=some (some (⟨B,q⟩,n))∧At B q rest:=by
 obtain⟨q,e,hA⟩:=pV hB h0 h1 h
 refine⟨q,?_,hA⟩
 unfold ek
 rw [e]; rfl
theorem xX{p:Int}{s:ByteArray}{rest:List UInt8}(hs:s.size≤256)(h:At B p (txB s++rest)):∃q,dL ⟨B,p⟩=some (some (⟨B,q⟩,s))∧At B q rest:=by
 unfold txB at h
 rw [Cr] at h
 obtain⟨q,e,hA,hq⟩:=ye hB (by omega) (by omega) h
 obtain⟨q2,e2,hq2,hd⟩:=hA
 obtain rfl:q=q2:=by omega
 have hg:=At.go hq hd
 have hsl:s.data.toList.length=s.size:=rfl
 rw [hsl] at hg
 have hB2:=hB
 rw [aY] at hB2
 refine⟨((q+s.size:Nat):Int),?_,hg.1⟩
 have hgl:=hg.2
 have ew:w64 (((q:Nat):Int)+((s.size:Nat):Int))=((q+s.size:Nat):Int):=by rw [cL (by unfold I64; omega)]; omega
 have ew2:w64 (((B.length:Nat):Int) - ((q:Nat):Int))=((B.length:Nat):Int) - ((q:Nat):Int):=cL (by unfold I64; omega)
 have ed:(⟨(List.drop ((q:Nat):Int).toNat (List.take ((q+s.size:Nat):Int).toNat B)).toArray⟩:ByteArray)=s:=by
  apply kT
  show List.drop ((q:Nat):Int).toNat (List.take ((q+s.size:Nat):Int).toNat B)=s.data.toList
  rw [Cv,Cv,List.drop_take,hd,Nat.add_sub_cancel_left, ← hsl,List.take_left]
 unfold dL o6 fU
 simp only
 rw [e,Cy]
 simp only
 rw [aJ (by decide),aJ (by rw [Cn]; clear ew ew2; omega),ew2,aJ (by rw [Cn]; clear ew ew2; omega),ew,
  aH (by unfold inle; rw [Cs,Cm,Cm]; clear ew ew2; omega),aH (by rw [Cm]; clear ew ew2; omega),aH (by rw [Cm,Cv,Cv]; clear ew ew2; omega),ed,Cy]
 simp only
 rw [aJ (by decide),aH (by unfold i64b; rw [Cs,Cm,Cm]; clear ew ew2; omega),aH (by rw [aY,Cm]; clear ew ew2; omega)]
theorem Bc{p:Int}{x:Span}{rest:List UInt8}(hx:SpOk x)(h:At B p (spB x++rest)):∃q,fp ⟨B,p⟩=some (some (⟨B,q⟩,x))∧At B q rest:=by
 obtain⟨h1,h2,h3,h4,h5⟩:=hx
 unfold spB at h
 rw [Cr,Cr] at h
 obtain⟨q1,e1,a1⟩:=AB hB (by omega) (by omega) h
 obtain⟨q2,e2,a2⟩:=pV hB (by omega) (by omega) a1
 obtain⟨q3,e3,a3⟩:=pV hB (by omega) (by omega) a2
 refine⟨q3,?_,a3⟩
 unfold fp fQ fR optm
 rw [e1,Cy]
 simp only
 rw [e2,Cy]
 simp only
 rw [e3,Cy]
 simp only
 rw [show w64 (x.f+(x.t - x.f))=x.t by rw [cL (by unfold I64; omega)]; omega,aJ (by rw [Cn]; omega)]
theorem wu:∀{l:List Span} {out:List Span} {p:Int} {rest:List UInt8} (i:Nat),(∀x∈l,SpOk x)→out.length+l.length≤lim→At B p ((l.map spB).flatten++rest) →
  ∃q,forU bK (λ(out_20,o25)=>some (some (o25,out_20))) l.length i (out,⟨B,p⟩)=some (some (⟨B,q⟩,out++l))∧At B q rest
 | [],out,p,rest,i,_,_,h=>⟨p,by show some (some ((⟨B,p⟩:aa),out))=_; rw [CI],h⟩
 | x::l,out,p,rest,i,hx,hl,h=>by
  rw [Cu] at hl
  rw [Cw,CL,Cr] at h
  obtain⟨q1,e1,a1⟩:=Bc hB (hx x Cp) h
  obtain⟨q2,e2,a2⟩:=wu (l:=l) (out:=out++[x]) (i+1) (λy hy=>hx y (Cq _ hy)) (by rw [Co,List.length_singleton]; omega) a1
  refine⟨q2,?_,a2⟩
  show bK (forU bK (λ(out_20,o25)=>some (some (o25,out_20))) l.length (i+1)) i (out,⟨B,p⟩)=_
  rw [Cr] at e2
  generalize forU bK (λ(out_20,o25)=>some (some (o25,out_20))) l.length (i+1)=f at e2 ⊢
  unfold bK optm
  simp only
  rw [e1,Cy]
  simp only
  rw [aH (CB (by omega)),e2]; rfl
theorem BH{p:Int}{l:List Span}{rest:List UInt8}(hx:∀x∈l,SpOk x)(hl:l.length≤1024)(h:At B p (spsB l++rest)):∃q,eB ⟨B,p⟩=some (some (⟨B,q⟩,l))∧At B q rest:=by
 unfold spsB at h
 rw [Cr] at h
 obtain⟨q1,e1,a1⟩:=pV hB (by omega) (by omega) h
 have hg:=qy (e:=spB) (l:=l) λx _=>zq x
 have hr:=a1.len
 rw [Co] at hr
 have hB2:=hB
 rw [aY] at hB2
 obtain⟨q2,e2,a2⟩:=wu hB (l:=l) (out:=[]) 0 hx (by rw [aY]; simp only [CH]; omega) a1
 refine⟨q2,?_,a2⟩
 unfold eB eR optm
 rw [e1,Cy]
 simp only
 rw [cL (x:=((B.length:Nat):Int) - q1) (by unfold I64; omega),aJ (by rw [Cn]; omega),Cv,e2]; rfl
theorem BU{p:Int}{v:Ver}{rest:List UInt8}(hv:VeOk v)(h:At B p (veB v++rest)):∃q,gg ⟨B,p⟩=some (some (⟨B,q⟩,v))∧At B q rest:=by
 have hs:=hv.s
 have hn:=hv.n
 unfold veB at h
 simp only [Cr] at h
 obtain⟨q1,e1,a1⟩:=AB hB (by omega) (by omega) h
 obtain⟨q2,e2,a2⟩:=pV hB (by omega) (by omega) a1
 obtain⟨q3,e3,a3⟩:=BH hB hv.past hv.pl a2
 unfold gg eo optm
 rw [e1,Cy]
 simp only
 rw [e2,Cy]
 simp only
 rw [e3,Cy]
 simp only
 have hgo:=hv.gone
 obtain⟨⟨ds,dn⟩,past,gone,val⟩:=v
 simp only at a3 hgo ⊢
 cases gone with
 | true=>
  simp only [cond_true] at a3
  obtain⟨q4,e4,a4⟩:=pV hB (by omega) (by omega) a3
  refine⟨q4,?_,a4⟩
  rw [e4,Cy]
  simp only
  rw [aJ (by decide),cg (by decide),hgo rfl]
 | false=>
  simp only [cond_false,Cr] at a3
  obtain⟨q4,e4,a4⟩:=pV hB (by omega) (by omega) a3
  obtain⟨q5,e5,a5⟩:=xX hB hv.val a4
  refine⟨q5,?_,a5⟩
  rw [e4,Cy]
  simp only
  rw [cg (by decide),e5,Cy]
theorem xG:∀{l:List Ver} {out:List Ver} {p:Int} {rest:List UInt8} (i:Nat),(∀x∈l,VeOk x)→out.length+l.length≤lim→At B p ((l.map veB).flatten++rest) →
  ∃q,forU bQ (λ(out_20,o25)=>some (some (o25,out_20))) l.length i (out,⟨B,p⟩)=some (some (⟨B,q⟩,out++l))∧At B q rest
 | [],out,p,rest,i,_,_,h=>⟨p,by show some (some ((⟨B,p⟩:aa),out))=_; rw [CI],h⟩
 | x::l,out,p,rest,i,hx,hl,h=>by
  rw [Cu] at hl
  rw [Cw,CL,Cr] at h
  obtain⟨q1,e1,a1⟩:=BU hB (hx x Cp) h
  obtain⟨q2,e2,a2⟩:=xG (l:=l) (out:=out++[x]) (i+1) (λy hy=>hx y (Cq _ hy)) (by rw [Co,List.length_singleton]; omega) a1
  refine⟨q2,?_,a2⟩
  show bQ (forU bQ (λ(out_20,o25)=>some (some (o25,out_20))) l.length (i+1)) i (out,⟨B,p⟩)=_
  rw [Cr] at e2
  generalize forU bQ (λ(out_20,o25)=>some (some (o25,out_20))) l.length (i+1)=f at e2 ⊢
  unfold bQ optm
  simp only
  rw [e1,Cy]
  simp only
  rw [aH (CB (by omega)),e2]; rfl
theorem BE{p:Int}{l:List Ver}{rest:List UInt8}(hx:∀x∈l,VeOk x)(hl:l.length≤512)(h:At B p (vesB l++rest)):∃q,eL ⟨B,p⟩=some (some (⟨B,q⟩,l))∧At B q rest:=by
 unfold vesB at h
 rw [Cr] at h
 obtain⟨q1,e1,a1⟩:=pV hB (by omega) (by omega) h
 have hg:=qy (e:=veB) (l:=l) λx _=>zY x
 have hr:=a1.len
 rw [Co] at hr
 have hB2:=hB
 rw [aY] at hB2
 obtain⟨q2,e2,a2⟩:=xG hB (l:=l) (out:=[]) 0 hx (by rw [aY]; simp only [CH]; omega) a1
 refine⟨q2,?_,a2⟩
 unfold eL fD optm
 rw [e1,Cy]
 simp only
 rw [cL (x:=((B.length:Nat):Int) - q1) (by unfold I64; omega),aJ (by rw [Cn]; omega),Cv,e2]; rfl
theorem BN{p:Int}{r:Rec}{rest:List UInt8}(hr:ReOk r)(h:At B p (reB r++rest)):∃q,fW ⟨B,p⟩=some (some (⟨B,q⟩,r))∧At B q rest:=by
 have hk:=hr.key
 unfold reB at h
 rw [Cr] at h
 obtain⟨q1,e1,a1⟩:=xX hB (by omega) h
 obtain⟨q2,e2,a2⟩:=BE hB hr.vers hr.vl a1
 refine⟨q2,?_,a2⟩
 unfold fW optm
 rw [e1,Cy]
 simp only
 rw [e2,Cy]
end
theorem Ah{r:Rec}(hr:ReOk r)(h:az r=some true):kg (reB r)=some (r,0):=by
 have hl:=n4 hr
 obtain⟨q,e,a⟩:=BN (B:=reB r) (by rw [aY]; omega) (p:=0) (rest:=[]) hr ⟨0,rfl,CE _,by rw [CI]; rfl⟩
 have hq:=a.end_
 unfold kg gG fa optm
 rw [e,Cy]
 simp only
 rw [hq,show (((reB r).length:Int) != ((reB r).length:Int))=false by simp,h]
 rfl
def Only(nm:ByteArray)(g:Nat)(bs:Bs)(es:Mp):Prop:=Has nm g bs es∧∀k,(mget k es).isSome=true→∃j,1≤j∧j≤999999∧k=fn nm g j
section
variable {R N:Nat} {d:Dk} {nm:ByteArray} {g:Nat} {bs:Bs} {es:Mp}
theorem Only.own(h:Only nm g bs es):Own1 nm g es:=λk hk=>.inr (h.2 k hk)
theorem Only.ks(h:Only nm g bs es)(hnm:Nm nm)(hg:g≤999999):Ks es:=λk hk=>by
 obtain⟨j,_,j2,e⟩:=h.2 k hk
 rw [e]; exact tb hnm hg j2
theorem Only.list(h:Only nm g bs d.seen)(hnm:Nm nm):fb d (mn nm) = []:=by
 unfold fb
 cases hs:mget (mn nm) d.seen with
 | none=>rfl
 | some v=>
  obtain⟨j,_,_,e⟩:=h.2 _ (by rw [hs]; rfl)
  exact absurd e (Bt hnm hnm)
theorem Only.nil:Only nm g [] []:=⟨⟨CE _,λk _ _=>rfl⟩,λk hk=>by cases hk⟩
theorem Only.add{size:Int}{f:List UInt8}(h:Only nm g bs d.seen)(hnm:Nm nm)(hp:pnum size bs f≤999999):Only nm g (addP size bs f) (dAdd d nm g size bs f).seen:=by
 refine⟨AppR.has hnm h.1 hp,λk hk=>?_⟩
 by_cases e:k=fn nm g (pnum size bs f)
 ·exact⟨_,uE _ _ _,hp,e⟩
 ·rw [wI e] at hk; exact h.2 k hk
theorem Only.len(h:Only nm g bs es)(hnm:Nm nm)(hn:NK es):es.length=bs.length:=by
 have h1:(es.map (·.1)).Nodup:=hn
 have h2:((List.range bs.length).map λj=>fn nm g (j+1)).Nodup:=by
  refine List.Pairwise.map _ (R:=λa b=>a≠b) (λa b hab e=>hab ?_) List.nodup_range
  have:=(tp hnm hnm e).2.2; omega
 have h3:(es.map (·.1)).Perm ((List.range bs.length).map λj=>fn nm g (j+1)):=by
  rw [List.perm_ext_iff_of_nodup h1 h2]
  intro k
  rw [← mJ,List.mem_map]
  constructor
  ·intro hk
   obtain⟨j,j1,j2,e⟩:=h.2 k hk
   rw [e,h.1.2 j j1 j2] at hk
   refine⟨j - 1,List.mem_range.2 ?_,by rw [e,show j - 1+1=j by omega]⟩
   rcases Nat.lt_or_ge (j - 1) bs.length with hlt | hge
   ·exact hlt
   ·rw [List.getElem?_eq_none hge] at hk; cases hk
  ·rintro⟨j,hj,rfl⟩
   have hj:=List.mem_range.1 hj
   have:=h.1.1
   rw [h.1.2 (j+1) (by omega) (by omega),Nat.add_sub_cancel,List.getElem?_eq_getElem hj]; rfl
 have:=h3.length_eq
 simpa using this
theorem wW(h:DI R N d)(hR:R≤MX)(hN:4*N+10≤lim)(hnm:Nm nm)(size:Int)(ho:Only nm 0 bs d.seen):
  ∃d',fO d nm size=some (d',some (lg nm 0 (max size 16) (bg bs).2 (bg bs).1.length),(bg bs).1,0)∧DI R (4*N+10) d'∧Only nm 0 (bg bs).2 d'.seen∧(d'=d∨d'.loose = [])∧((bg bs).2=bs→d'=d):=by
 obtain⟨d',h1,h2,h3,h4,h5,h6,h7⟩:=Ba h hR hN hnm (ho.ks hnm (CE _)) size (gl:=[]) (e0:=0) (g:=0) (bs:=bs) (CE _) (by rw [ho.list hnm]; rfl) rfl ho.1 ho.own
 exact⟨d',h1,h2,⟨h3,λk hk=>ho.2 k (h5 k hk)⟩,h6,h7⟩
end
theorem nm1{c:UInt8}(h:c≠46):Nm ⟨#[c]⟩:=⟨by show 1≤1; omega,by show 1≤2; omega,λx hx=>by rw [List.mem_singleton.1 hx]; exact h⟩
theorem Bk{R:Nat}{d:Dk}{nm:ByteArray}{g:Nat}{bs:Bs}{size:Int}{cnt:Nat}{x:List UInt8}{r:ah×Dk×Int}(h:AppR R d nm g size bs cnt x r)(hx:x.length≤1048576)(hb:bs.length<999999)(hz:Fw.sz d.seen+(fr x).length≤R):
  r=(lg nm g size (addP size bs (fr x)) (cnt+1),dAdd d nm g size bs (fr x),0):=by
 have hp:=tn size bs (fr x)
 cases h with
 | long q=>omega
 | many _ q=>omega
 | full _ _ q=>omega
 | ok _ _ _=>rfl
def isB(r:Rec):List UInt8:=pz 1++reB r
def diB(l:List Int)(r:Rec):List UInt8:=pz 2++(pz l.length++((l.map pz).flatten++reB r))
theorem B0{n:Int}(h0:0≤n)(h1:n≤4611686018427387904):ei n=some (pz n):=by
 have:=oI (n:=n.toNat) (by omega)
 rw [show ((n.toNat:Nat):Int)=n by omega] at this
 exact this
theorem Bd(f:List UInt8→Option (List UInt8))(i:Nat){n:Int}{b:List UInt8}(h0:0≤n)(h1:n≤4611686018427387904)(hb:b.length+9≤lim):eb f i n b=f (b++pz n):=by
 have hp:=cD h1
 unfold eb
 rw [B0 h0 h1,Cy,aH (by rw [Cm]; omega)]
theorem yE:∀(l:List Int) (i:Nat) (b:List UInt8),(∀x∈l,0≤x∧x≤4611686018427387904)→b.length+9*l.length≤lim→forI eb (λb=>some b) i l b=some (b++(l.map pz).flatten)
 | [],i,b,_,_=>by show some b=_; simp
 | n::l,i,b,h,hb=>by
  have hn:=h n Cp
  have hp:=cD hn.2
  rw [Cu] at hb
  show eb (forI eb (λb=>some b) (i+1) l) i n b=_
  rw [Bd _ _ hn.1 hn.2 (by omega),yE l (i+1) _ (λx hx=>h x (Cq _ hx)) (by rw [Co]; omega)]
  rw [Cw,CL,Cr]
theorem td{l:List Int}{b:List UInt8}(h:∀x∈l,0≤x∧x≤4611686018427387904)(hb:b.length+9*l.length≤lim):ez b l=some (b++(l.map pz).flatten):=yE l 0 b h hb
theorem AH(f:List UInt8→Option (List UInt8))(i:Nat){n:Int}{b:List UInt8}(h0:0≤n)(h1:n≤4611686018427387904)(hb:b.length+9≤lim):cJ f i n b=f (b++pz n):=by
 unfold cJ
 rw [td (λx hx=>by rw [List.mem_singleton.1 hx]; exact⟨h0,h1⟩) (by rw [List.length_singleton]; omega),Cy]
 simp only [Cw,List.map_nil,CL,List.flatten_nil,CI]
theorem yy:∀(l:List Int) (i:Nat) (b:List UInt8),(∀x∈l,0≤x∧x≤4611686018427387904)→b.length+9*l.length≤lim→forI cJ (λb=>some b) i l b=some (b++(l.map pz).flatten)
 | [],i,b,_,_=>by show some b=_; simp
 | n::l,i,b,h,hb=>by
  have hn:=h n Cp
  have hp:=cD hn.2
  rw [Cu] at hb
  show cJ (forI cJ (λb=>some b) (i+1) l) i n b=_
  rw [AH _ _ hn.1 hn.2 (by omega),Cw,CL,yy l (i+1) _ (λx hx=>h x (Cq _ hx)) (by rw [Co]; omega),Cr]
theorem zT{l:List Int}{b:List UInt8}(h:∀x∈l,0≤x∧x≤4611686018427387904)(hb:b.length+9*(l.length+1)≤lim)(hl:l.length≤1000):eO b l=some (b++(pz l.length++(l.map pz).flatten)):=by
 have hp:=cD (n:=(l.length:Int)) (by omega)
 unfold eO
 rw [td (λx hx=>by rw [List.mem_singleton.1 hx]; omega) (by rw [List.length_singleton]; omega),Cy]
 simp only [Cw,List.map_nil,CL,List.flatten_nil,CI]
 rw [yy l 0 _ h (by rw [Co]; omega),Cr]
theorem xl{r:Rec}{b:List UInt8}(hr:az r=some true∧ReOk r)(hb:b.length+(reB r).length≤lim):gM b r=some (b++reB r):=by
 unfold gM fL
 rw [hr.1,Cy,show (!true)=false from rfl,aJ rfl,u5 hr.2]
 simp only [Cy]
 rw [aH (CB hb)]
theorem yO{r:Rec}(hr:az r=some true∧ReOk r):gT ⟨r⟩=some (isB r):=by
 have h1:=n4 hr.2
 unfold gT
 rw [td (λx hx=>by rw [List.mem_singleton.1 hx]; omega) (by rw [aY]; decide),Cy]
 simp only [Cw,List.map_nil,CL,List.flatten_nil,CI,CK]
 rw [xl hr (by have:=cD (n:=1) (by omega); rw [aY]; omega)]; rfl
theorem xN{r:Rec}{l:List Int}(hr:az r=some true∧ReOk r)(hl:l.length≤1000)(h:∀x∈l,0≤x∧x≤4611686018427387904):dH ⟨l,r⟩=some (diB l r):=by
 have h1:=n4 hr.2
 have h2:=oa (e:=pz) (c:=9) (l:=l) (λx hx=>cD (h x hx).2)
 have h3:=cD (n:=2) (by omega)
 have h4:=cD (n:=(l.length:Int)) (by omega)
 unfold dH
 rw [td (λx hx=>by rw [List.mem_singleton.1 hx]; omega) (by rw [aY]; decide),Cy]
 simp only [Cw,List.map_nil,CL,List.flatten_nil,CI,CK]
 rw [zT h (by rw [aY]; omega) hl,Cy,xl hr (by simp only [Co]; rw [aY]; omega),Cy]
 unfold diB
 simp only [Cr]
section
variable {B:List UInt8} (hB:B.length≤lim)
include hB
theorem wx{p n:Int}{rest:List UInt8}(h0:0≤n)(h1:n≤4611686018427387904)(h:At B p (pz n++rest)):∃q:Int,bF ⟨B,p,false⟩=some (⟨B,q,false⟩,n)∧At B q rest:=by
 obtain⟨q,e,hA,hq⟩:=ye hB h0 h1 h
 rw [aY] at hB
 refine⟨(q:Int),?_,hA⟩
 unfold bF
 simp only
 rw [e,Cy]
 simp only
 rw [aJ (by decide),aH (by unfold i64b; rw [Cs,Cm,Cm]; omega),aH (by unfold i64b; rw [Cs,Cm,Cm]; omega)]
theorem Ac{p:Int}{r:Rec}(hr:az r=some true∧ReOk r)(h:At B p (reB r)):dV ⟨B,p,false⟩=some (⟨B,(B.length:Int),false⟩,r):=by
 obtain⟨q,rfl,hq,hd⟩:=h
 unfold dV
 simp only
 have e1:min ((q:Nat):Int) ((B.length:Nat):Int)=(q:Int):=by omega
 rw [e1,aH (by unfold inle; rw [Cs,Cm,Cm]; omega)]
 rw [show ((q:Nat):Int).toNat=q by omega,hd,Ah hr.2 hr.1]
 rfl
theorem yi:∀(l:List Int) (i:Nat) (out:List Int) (p:Int) (rest:List UInt8),(∀x∈l,0≤x∧x≤4611686018427387904)→out.length+l.length≤lim→At B p ((l.map pz).flatten++rest) →
  ∃q:Int,forU cI (λ(out,o)=>some (o,out)) l.length i (out,(⟨B,p,false⟩:am))=some (⟨B,q,false⟩,out++l)∧At B q rest
 | [],i,out,p,rest,_,_,h=>⟨p,by show some _=_; rw [CI],h⟩
 | n::l,i,out,p,rest,hl,ho,h=>by
  have hn:=hl n Cp
  rw [Cu] at ho
  rw [Cw,CL,Cr] at h
  obtain⟨q1,a1,a2⟩:=wx hB hn.1 hn.2 h
  obtain⟨q2,b1,b2⟩:=yi l (i+1) (out++[n]) q1 rest (λx hx=>hl x (Cq _ hx)) (by rw [Co,List.length_singleton]; omega) a2
  refine⟨q2,?_,b2⟩
  show cI (forU cI (λ(out,o)=>some (o,out)) l.length (i+1)) i (out,⟨B,p,false⟩)=_
  unfold cI
  simp only
  rw [a1,Cy,aH (by rw [Cm]; omega)]
  have:=b1
  unfold cI at this
  rw [this]
  simp
end
theorem at0{a b:List UInt8}:At (a++b) 0 (a++b):=⟨0,rfl,CE _,rfl⟩
theorem zB{r:Rec}(hr:az r=some true∧ReOk r):bu (isB r)=some (.queue_issue ⟨r⟩,true):=by
 have h1:=n4 hr.2
 have h2:=cD (n:=1) (by omega)
 have hB:(isB r).length≤lim:=by unfold isB; rw [Co,aY]; omega
 obtain⟨q,a1,a2⟩:=wx hB (p:=0) (n:=1) (rest:=reB r) (by omega) (by omega) at0
 unfold bu
 rw [a1,Cy]
 simp only
 rw [cg (by decide),Ac hB hr a2,Cy]
 simp
theorem zL{r:Rec}{l:List Int}(hr:az r=some true∧ReOk r)(hl:l.length≤1000)(h:∀x∈l,0≤x∧x≤4611686018427387904):bu (diB l r)=some (.queue_did ⟨l,r⟩,true):=by
 have h1:=n4 hr.2
 have h2:=cD (n:=2) (by omega)
 have h3:=oa (e:=pz) (c:=9) (l:=l) (λx hx=>cD (h x hx).2)
 have h4:=cD (n:=(l.length:Int)) (by omega)
 have hB:(diB l r).length≤lim:=by unfold diB; simp only [Co]; rw [aY]; omega
 obtain⟨q,a1,a2⟩:=wx hB (p:=0) (n:=2) (rest:=pz l.length++((l.map pz).flatten++reB r)) (by omega) (by omega) at0
 obtain⟨q2,b1,b2⟩:=wx hB (p:=q) (n:=(l.length:Int)) (by omega) (by omega) a2
 obtain⟨q3,c1,c2⟩:=yi hB l 0 [] q2 (reB r) h (by rw [aY]; simp; omega) b2
 have hlen:=qy (e:=pz) (l:=l) (λx _=>vd x)
 have hr2:=b2.len
 rw [Co] at hr2
 have hm:gN ⟨diB l r,q,false⟩=some (⟨diB l r,q3,false⟩,l):=by
  unfold gN
  rw [b1,Cy]
  simp only
  rw [cL (by unfold I64; rw [aY] at hB; omega),aJ (by rw [Cn]; omega),show ((l.length:Nat):Int).toNat=l.length by omega]
  exact c1
 unfold bu
 rw [a1,Cy]
 simp only
 rw [aJ (by decide),cg (by decide),hm,Cy]
 simp only
 rw [Ac hB hr c2,Cy]
 simp
structure Sq where
 applied:List Int
 under:Option Rec
 list:List aN
 next:Int
 gaps:List (Int×Bool)
def mkq(c:aq)(g:ah)(s:Sq):a6:=⟨c.self,c.sites,c.links,c.cap,c.base,g,s.applied,s.under,s.list,s.next,s.gaps,c.members⟩
inductive Stp (c:aq) (s s':Sq):List UInt8→Prop
 | is (x:ar) (b:List UInt8):bu b=some (.queue_issue x,true)→(∀g,bB (mkq c g s) x=some true∧aS (mkq c g s) x=some (mkq c g s'))→Stp c s s' b
 | di (x:ae) (b:List UInt8):bu b=some (.queue_did x,true)→(∀g,bz (mkq c g s) x=some true∧aT (mkq c g s) x=some (mkq c g s'))→Stp c s s' b
 | ac (x:al) (b:List UInt8):bu b=some (.queue_ack x,true)→(∀g,d6 (mkq c g s) x=some true∧bl (mkq c g s) x=some (mkq c g s'))→Stp c s s' b
 | cl (x:ax) (b:List UInt8):bu b=some (.queue_clear x,true)→(∀g,cY (mkq c g s) x=some true∧bo (mkq c g s) x=some (mkq c g s'))→Stp c s s' b
inductive Run (c:aq):Sq→List (List UInt8)→Sq→Prop
 | nil (s:Sq):Run c s [] s
 | cons {s s' s'':Sq} {b:List UInt8} {L:List (List UInt8)}:Stp c s s' b→Run c s' L s''→Run c s (b::L) s''
theorem Run.snoc{c:aq}{s s' s'':Sq}{b:List UInt8}{L:List (List UInt8)}(h:Run c s L s')(h2:Stp c s' s'' b):Run c s (L++[b]) s'':=by
 induction h with
 | nil s=>exact .cons h2 (.nil _)
 | cons a _ ih=>exact .cons a (ih h2)
theorem Be{c:aq}{g:ah}{s s':Sq}{b:List UInt8}(h:Stp c s s' b)(z:a7×Option ah×List (List UInt8)×Int)(f:a6→Option (a7×Option a6×Int))(i:Nat):hZ z f i b (mkq c g s)=f (mkq c g s'):=by
 unfold hZ
 cases h with
 | is x _ h1 h2=>
  rw [h1,Cy]
  show Option.bind (dP true (bB (mkq c g s) x)) _=_
  rw [(h2 g).1]
  show Option.bind (aS (mkq c g s) x) _=_
  rw [(h2 g).2]; rfl
 | di x _ h1 h2=>
  rw [h1,Cy]
  show Option.bind (dP true (bz (mkq c g s) x)) _=_
  rw [(h2 g).1]
  show Option.bind (aT (mkq c g s) x) _=_
  rw [(h2 g).2]; rfl
 | ac x _ h1 h2=>
  rw [h1,Cy]
  show Option.bind (dP true (d6 (mkq c g s) x)) _=_
  rw [(h2 g).1]
  show Option.bind (bl (mkq c g s) x) _=_
  rw [(h2 g).2]; rfl
 | cl x _ h1 h2=>
  rw [h1,Cy]
  show Option.bind (dP true (cY (mkq c g s) x)) _=_
  rw [(h2 g).1]
  show Option.bind (bo (mkq c g s) x) _=_
  rw [(h2 g).2]; rfl
theorem yA{c:aq}{g:ah}{z:a7×Option ah×List (List UInt8)×Int}{K:a6→Option (a7×Option a6×Int)}{s s':Sq}{L:List (List UInt8)}(h:Run c s L s'):∀i,forI (hZ z) K i L (mkq c g s)=K (mkq c g s'):=by
 induction h with
 | nil s=>exact λi=>rfl
 | cons a _ ih=>
  intro i
  rw [← ih (i+1)]
  exact Be a z _ i
theorem rW{c:aq}{K:List Int→Option (a7×Option a6×Int)}:∀(n i:Nat) (x:List Int),x.length+n≤lim→forU (ee c) K n i x=K (x++List.replicate n c.base)
 | 0,i,x,_=>by show K x=_; rw [List.replicate_zero,CI]
 | n+1,i,x,h=>by
  have ih:=rW (K:=K) (c:=c) n (i+1) (x++[c.base]) (by rw [Co,List.length_singleton]; omega)
  show ee c (forU (ee c) K n (i+1)) i x=_
  generalize forU (ee c) K n (i+1)=f at ih ⊢
  unfold ee
  rw [aH (by rw [Cm]; omega),ih,Cr,List.replicate_succ]; rfl
theorem sO{l:List Int}(h:l.length≤lim):bm l=some l:=by
 unfold bm nilc
 cases l with
 | nil=>rfl
 | cons a l=>
  show chk _ _=_
  rw [aH (by rw [Cm]; omega)]; rfl
def s0(c:aq):Sq:=⟨List.replicate c.sites.toNat c.base,none,[],1,[]⟩
theorem za{c:aq}{d d':a7}{g:ah}{L:List (List UInt8)}{s':Sq}(hc:fu c=some true)(h1:c.links.length≤lim)(h2:c.members.length≤lim)(h3:c.sites.toNat≤lim){size:Int}(h:fO d ⟨#[103]⟩ size=some (d',some g,L,0))(hr:Run c (s0 c) L s'):
  ej d size c=some (d',some (mkq c g s'),0):=by
 unfold ej
 rw [hc,Cy,show (!true)=false from rfl,aJ rfl,h,Cy]
 simp only
 rw [aJ (by decide),sO h1,Cy,Cy,sO h2,Cy,rW _ _ _ (by simpa using h3),CK]
 exact yA hr 0
def nG:ByteArray:=⟨#[103]⟩
theorem nmG:Nm nG:=nm1 (by decide)
def gl(L:List (List UInt8)):ah:=lg nG 0 256 (bsOf 256 L) L.length
def RQ:Nat:=1048576
structure QI (c:aq) (N:Nat) (d:a7) (L:List (List UInt8)) (s:Sq):Prop where
 di:DI RQ N d
 rk:Rk L
 on:Only nG 0 (bsOf 256 L) d.seen
 ln:L.length=N
 run:Run c (s0 c) L s
 sz:Fw.sz d.seen≤1000*N
section
variable {c:aq} {N:Nat} {d:a7} {L:List (List UInt8)} {s s':Sq} {b:List UInt8}
theorem Ar:RQ≤MX:=by unfold RQ MX; omega
theorem QI.sync(h:QI c N d L s):QI c N (q6 d) L s:=⟨h.di.sync,h.rk,h.on,h.ln,h.run,h.sz⟩
theorem QI.app(h:QI c N d L s)(hs:Stp c s s' b)(hb:b.length≤900)(hN:N<1000):∃d',bh (gl L) b d=some (gl (L++[b]),d',0)∧QI c (N+1) d' (L++[b]) s':=by
 have hln:=h.ln
 have hsz:=h.sz
 obtain⟨z,a1,a2,a3⟩:=Bg h.di Ar (by rw [aY]; omega) nmG (g:=0) (CE _) (size:=256) (by omega) (by omega) h.on.1 (cnt:=L.length) (by omega) b
 have hbl:=yu 256 L
 have hf:(fr b).length≤910:=by
  have:=rn b
  have h2:=uS 4 b.length (by omega)
  omega
 have e:=Bk a2 (by omega) (by omega) (by unfold RQ; omega)
 subst e
 have hp:=tn 256 (bsOf 256 L) (fr b)
 refine⟨_,?_,a3,?_,?_,?_,h.run.snoc hs,?_⟩
 ·unfold gl
  rw [a1,ph,Co,List.length_singleton]
 ·intro x hx
  rcases List.mem_append.1 hx with hx | hx
  ·exact h.rk x hx
  ·rw [List.mem_singleton.1 hx]; omega
 ·rw [ph]
  exact h.on.add nmG (by omega)
 ·rw [Co,List.length_singleton]; omega
 ·show Fw.sz (dAdd d nG 0 256 (bsOf 256 L) (fr b)).seen≤_
  rw [AF]; omega
theorem AW(h:QI c N d L s)(hN:N<1000){x:ar}(hw:gT x=some b)(hr:bu b=some (.queue_issue x,true))(hb:b.length≤900)
  (hs:∀g,bB (mkq c g s) x=some true∧aS (mkq c g s) x=some (mkq c g s')) :
  ∃d',bA (mkq c (gl L) s) x true d=some (mkq c (gl (L++[b])) s',d',0)∧QI c (N+1) d' (L++[b]) s':=by
 obtain⟨d',a1,a2⟩:=h.app (.is x b hr hs) hb hN
 refine⟨q6 d',?_,a2.sync⟩
 unfold bA
 rw [(hs _).1,Cy,show (!true)=false from rfl,aJ rfl,hw,Cy]
 show Option.bind (bh (gl L) b d) _=_
 rw [a1,Cy]
 simp only
 rw [aJ (by decide),cg rfl]
 unfold cu
 rw [uQ,Cy,Cy]
 unfold dk
 rw [hr,Cy]
 show Option.bind (aS (mkq c (gl (L++[b])) s) x) (λz=>some (z,q6 d',(0:Int)))=_
 rw [(hs _).2,Cy]
theorem AK(h:QI c N d L s)(hN:N<1000){x:ae}(hw:dH x=some b)(hr:bu b=some (.queue_did x,true))(hb:b.length≤900)
  (hs:∀g,bz (mkq c g s) x=some true∧aT (mkq c g s) x=some (mkq c g s')) :
  ∃d',b4 (mkq c (gl L) s) x true d=some (mkq c (gl (L++[b])) s',d',0)∧QI c (N+1) d' (L++[b]) s':=by
 obtain⟨d',a1,a2⟩:=h.app (.di x b hr hs) hb hN
 refine⟨q6 d',?_,a2.sync⟩
 unfold b4
 rw [(hs _).1,Cy,show (!true)=false from rfl,aJ rfl,hw,Cy]
 show Option.bind (bh (gl L) b d) _=_
 rw [a1,Cy]
 simp only
 rw [aJ (by decide),cg rfl]
 unfold cu
 rw [uQ,Cy,Cy]
 unfold bL
 rw [hr,Cy]
 show Option.bind (aT (mkq c (gl (L++[b])) s) x) (λz=>some (z,q6 d',(0:Int)))=_
 rw [(hs _).2,Cy]
structure CR (c:aq):Prop where
 right:fu c=some true
 self:1≤c.self∧c.self≤c.sites
 sites:1≤c.sites∧c.sites≤16
 links:∀x∈c.links,1≤x∧x≤c.sites∧x≠c.self
 nd:c.links.Nodup
 ll:c.links.length≤16
 ml:c.members.length≤16
 cap:1≤c.cap
 base:0≤c.base
theorem QI.reopen(h:QI c N d L s)(hc:CR c)(hN:N<1000):ej d 256 c=some (d,some (mkq c (gl L) s),0):=by
 have hln:=h.ln
 obtain⟨d',a1,a2,a3,a4,a5⟩:=wW h.di Ar (by rw [aY]; omega) nmG 256 h.on
 rw [x7 256 h.rk] at a1 a5
 rw [a5 rfl] at a1
 have h1:=hc.ll
 have h2:=hc.ml
 have h3:=hc.sites
 exact za hc.right (by rw [aY]; omega) (by rw [aY]; omega) (by rw [aY]; omega) a1 h.run
theorem qi0(c:aq):QI c 0 (d0 1048576) [] (s0 c):=⟨di0 1048576,(λx hx=>by cases hx),Only.nil,rfl,.nil _,CE _⟩
end
theorem se{x:Int}:∀{l:List Int} {i:Nat},x∈l→∃k:Nat,forI (aB x) (λ_=>some (-1)) i l ()=some (k:Int)
 | [],i,h=>by cases h
 | y::l,i,h=>by
  show ∃k:Nat,aB x (forI (aB x) (λ_=>some (-1)) (i+1) l) i y ()=_
  cases hxy:x==y with
  | true=>exact⟨i,by unfold aB; rw [hxy]; rfl⟩
  | false=>
   have hne:x≠y:=by simpa using hxy
   obtain⟨k,hk⟩:=se (l:=l) (i:=i+1) ((List.mem_cons.1 h).resolve_left hne)
   refine⟨k,?_⟩
   rw [← hk]
   generalize forI (aB x) (λ_=>some (-1)) (i+1) l=f
   unfold aB
   rw [hxy]; rfl
theorem sE{x:Int}:∀(l:List Int) (i:Nat), ∃k:Int,forI (aB x) (λ_=>some (-1)) i l ()=some k
 | [],i=>⟨-1,rfl⟩
 | y::l,i=>by
  show ∃k:Int,aB x (forI (aB x) (λ_=>some (-1)) (i+1) l) i y ()=_
  obtain⟨k,hk⟩:=sE (x:=x) l (i+1)
  generalize forI (aB x) (λ_=>some (-1)) (i+1) l=f at hk
  cases hxy:x==y with
  | true=>exact⟨i,by unfold aB; rw [hxy]; rfl⟩
  | false=>exact⟨k,by unfold aB; rw [hxy]; exact hk⟩
theorem sL(l:List Int)(x:Int):∃b,bi l x=some b∧(b=false→x ∉ l):=by
 by_cases h:x∈l
 ·obtain⟨k,hk⟩:=se (i:=0) h
  refine⟨true,?_,λh=>by cases h⟩
  unfold bi dE
  rw [hk,Cy,CB (by omega)]
 ·obtain⟨k,hk⟩:=sE (x:=x) l 0
  refine⟨decide (0≤k),?_,λ_=>h⟩
  unfold bi dE
  rw [hk,Cy]
theorem yS{r:Rec}(hr:az r=some true∧ReOk r):gB r=some r:=by
 unfold gB fL
 rw [hr.1,Cy,show (!true)=false from rfl,aJ rfl,u5 hr.2,Cy,Cy]
 simp only
 rw [Ah hr.2 hr.1]; rfl
def two:aq:=⟨1,2,[2],1,0,[1]⟩
def rk(key val:ByteArray):Rec:=⟨key,[⟨⟨1,1⟩,[],false,val⟩]⟩
theorem yp{key val:ByteArray}(h:ReOk (rk key val)):(reB (rk key val)).length≤600:=by
 have h1:=qu (s:=key) (by have:=h.key.2; show key.size≤256; have h2:key.size≤32:=this; omega)
 have h2:=qu (s:=val) (h.vers _ (Cp (l:=[]))).val
 have h3:=cD (n:=1) (by omega)
 have h4:=cD (n:=0) (by omega)
 unfold reB rk vesB veB spsB
 simp only [Cw,List.map_nil,CL,List.flatten_nil,cond_false,Co,CH,Cu]
 rw [show ((0:Nat):Int)=0 from rfl,show ((0+1:Nat):Int)=1 from rfl]
 omega
def s1(r:Rec):Sq:=⟨[0,0],some r,[],1,[]⟩
def s2(r:Rec)(l:List Int):Sq:=⟨[1,0],none,if 2∈l then [] else [⟨⟨1,r,l⟩,[(2,true)]⟩],2,[]⟩
theorem sH:fh [0,0] 1=some (⟨1,1⟩,0):=by decide +kernel
section
variable {key val:ByteArray} {g:ah} {s:Sq} {b:Bool}
theorem Bw(h:az (rk key val)=some b):fX (mkq two g s) (rk key val)=some b:=by
 unfold fX
 rw [h,Cy]
 cases b <;> rfl
theorem wo(h:az (rk key val)=some b)(ha:s.applied = [0,0]):du (mkq two g s) (rk key val)=some b:=by
 unfold du
 rw [Bw h,Cy]
 cases b with
 | false=>rfl
 | true=>
  rw [show (!true)=false from rfl,aJ rfl]
  show Option.bind (fh s.applied 1) _=_
  rw [ha,sH]
  rfl
theorem may1(h:az (rk key val)=some b):bB (mkq two g (s0 two)) ⟨rk key val⟩=some b:=by
 unfold bB
 simp only
 rw [wo h rfl]
 cases b <;> rfl
theorem app1:aS (mkq two g (s0 two)) ⟨rk key val⟩=some (mkq two g (s1 (rk key val))):=rfl
end
theorem xc(g:ah)(s:Sq)(l:List Int):∃b,bX (mkq two g s) l=some b∧(b=true→(∀x∈l,1≤x∧x≤2)∧l.Nodup):=by
 unfold bX
 refine mX (λi _=>(∀x∈l.take i,1≤x∧x≤2)∧(l.take i).Nodup) (λ_ h=>⟨true,rfl,λ_=>by rw [CN] at h; exact h⟩) (λf i u hi hI hf=>?_) ⟨(λx hx=>by cases hx),List.nodup_nil⟩
 unfold iC
 obtain⟨b,hb,hn⟩:=sL (l.take i) (gt l i)
 have hc:(mkq two g s).c_sites=2:=rfl
 rw [hc]
 cases h1:(decide (gt l i<1))||(decide (2<gt l i)) with
 | true=>exact⟨false,rfl,λh=>by cases h⟩
 | false=>
  rw [show (!false)=true from rfl,hb,jM,Cy]
  cases b with
  | true=>exact⟨false,rfl,λh=>by cases h⟩
  | false=>
   simp only [Bool.or_eq_false_iff,Cn] at h1
   have hn:=hn rfl
   refine hf () ?_
   have e:l.take (i+1)=l.take i++[gt l i]:=by rw [bT hi,List.take_append_getElem hi]
   rw [e]
   refine⟨λx hx=>?_,?_⟩
   ·rcases List.mem_append.1 hx with h | h
    ·exact hI.1 x h
    ·rw [List.mem_singleton.1 h]; omega
   ·rw [List.nodup_append]
    exact⟨hI.2,List.nodup_cons.2 ⟨List.not_mem_nil,List.nodup_nil⟩,λa ha c hcc=>by rw [List.mem_singleton.1 hcc]; exact λh=>hn (h▸ha)⟩
theorem xn:∀{l:List Int},(∀x∈l,1≤x∧x≤2)→l.Nodup→l = []∨l = [1]∨l = [2]∨l = [1,2]∨l = [2,1]
 | [],_,_=>.inl rfl
 | [a],h,_=>by
  have h1:=h a (by simp)
  rcases (by omega:a=1∨a=2) with rfl | rfl <;> simp
 | [a,b],h,hn=>by
  have h1:=h a (by simp)
  have h2:=h b (by simp)
  have h3:a≠b:=by simpa using hn
  rcases (by omega:a=1∧b=2∨a=2∧b=1) with ⟨rfl,rfl⟩ | ⟨rfl,rfl⟩ <;> simp
 | a::b::c::t,h,hn=>by
  have h1:=h a (by simp)
  have h2:=h b (by simp)
  have h3:=h c (by simp)
  simp only [List.nodup_cons,Ct,not_or] at hn
  omega
section
variable {key val:ByteArray} {g:ah} {b:Bool}
theorem zr:kD (rk key val).vers (rk key val).vers=some true:=by
 unfold kD
 show jY (rk key val).vers (rk key val).vers (λ_=>some (((1:Nat):Int)==((1:Nat):Int))) 0 ()=_
 unfold jY
 have e:kH (gt (rk key val).vers 0) (gt (rk key val).vers 0)=some true:=by
  unfold kH
  rw [aJ (by simp)]
  rfl
 rw [e]
 rfl
theorem may2{l:List Int}(h:az (rk key val)=some true)(hs:bX (mkq two g (s1 (rk key val))) l=some b):bz (mkq two g (s1 (rk key val))) ⟨l,rk key val⟩=some b:=by
 have hr:=wo (g:=g) (s:=s1 (rk key val)) h rfl
 have h0:decide ((mkq two g (s1 (rk key val))).next≤4611686018427387904)=true:=rfl
 have h1:Option.isNone (mkq two g (s1 (rk key val))).under=false:=rfl
 have h2:Option.isSome (mkq two g (s1 (rk key val))).under=true:=rfl
 have h3:gt [gvo (mkq two g (s1 (rk key val))).under] 0=rk key val:=rfl
 have h4:((gt (rk key val).vers 0).dot.s != (mkq two g (s1 (rk key val))).c_self)=false:=rfl
 unfold bz
 simp only
 rw [hr,h0,h1,h2,h3,h4,jM,hs,Cy,cg rfl]
 cases b with
 | false=>rfl
 | true=>
  rw [show (true&&true)=true from rfl,jM,Cy,cg rfl,zr]
  rw [show ((rk key val).key==(rk key val).key)=true by simp]
  rfl
theorem app2{l:List Int}(h:l = []∨l = [1]∨l = [2]∨l = [1,2]∨l = [2,1]):aT (mkq two g (s1 (rk key val))) ⟨l,rk key val⟩=some (mkq two g (s2 (rk key val) l)):=by
 rcases h with rfl | rfl | rfl | rfl | rfl <;> rfl
end
theorem AU:CR two:=⟨by decide +kernel,by decide,by decide,by decide,by decide,by decide,by decide,by decide,by decide⟩
section
variable {key val:ByteArray} {d:a7}
theorem zH(h:az (rk key val)=some false):br (mkq two (gl []) (s0 two)) key [] false val d=some (mkq two (gl []) (s0 two),d,⟨⟨0,0⟩,[],false,ByteArray.empty⟩,1):=by
 unfold br
 rw [aJ (by rfl)]
 show Option.bind (fh [0,0] 1) _=_
 rw [sH,Cy]
 simp only
 rw [aJ (by decide),aH (by decide),aH (by decide)]
 have e:bA (mkq two (gl []) (s0 two)) ⟨rk key val⟩ true d=some (mkq two (gl []) (s0 two),d,1):=by
  unfold bA
  rw [may1 h,Cy]; rfl
 show Option.bind (bA (mkq two (gl []) (s0 two)) ⟨rk key val⟩ true d) _=_
 rw [e]; rfl
theorem vE{L:List (List UInt8)}(hr:az (rk key val)=some true∧ReOk (rk key val)):bv (mkq two (gl L) (s1 (rk key val)))=some (rk key val,true):=by
 unfold bv
 show chk true (Option.bind (gB (rk key val)) _)=_
 rw [yS hr]; rfl
theorem zz(hr:az (rk key val)=some true∧ReOk (rk key val)):∃d' L',br (mkq two (gl []) (s0 two)) key [] false val (d0 1048576)=some (mkq two (gl L') (s1 (rk key val)),d',gt (rk key val).vers 0,0)∧QI two 1 d' L' (s1 (rk key val)):=by
 have hl:=yp hr.2
 have hp:=cD (n:=1) (by omega)
 obtain⟨d',a1,a2⟩:=AW (qi0 two) (by omega) (yO hr) (zB hr) (by unfold isB; rw [Co]; omega) (λg=>⟨may1 hr.1,app1⟩)
 refine⟨d',[]++[isB (rk key val)],?_,a2⟩
 unfold br
 rw [aJ (by rfl)]
 show Option.bind (fh [0,0] 1) _=_
 rw [sH,Cy]
 simp only
 rw [aJ (by decide),aH (by decide),aH (by decide)]
 show Option.bind (bA (mkq two (gl []) (s0 two)) ⟨rk key val⟩ true (d0 1048576)) _=_
 rw [a1,Cy]
 simp only
 rw [aJ (by decide),vE hr,Cy]
 rfl
theorem Bn{L:List (List UInt8)}{l:List Int}(h:az (rk key val)=some true)(hs:bX (mkq two (gl L) (s1 (rk key val))) l=some false):bw (mkq two (gl L) (s1 (rk key val))) (rk key val) l d=some (mkq two (gl L) (s1 (rk key val)),d,1):=by
 unfold bw
 have e:b4 (mkq two (gl L) (s1 (rk key val))) ⟨l,rk key val⟩ true d=some (mkq two (gl L) (s1 (rk key val)),d,1):=by
  unfold b4
  rw [may2 h hs,Cy]; rfl
 show Option.bind (b4 (mkq two (gl L) (s1 (rk key val))) ⟨l,rk key val⟩ true d) _=_
 rw [e]; rfl
theorem Ax{L:List (List UInt8)}{l:List Int}(hr:az (rk key val)=some true∧ReOk (rk key val))(hq:QI two 1 d L (s1 (rk key val)))(hs:∀g,bX (mkq two g (s1 (rk key val))) l=some true)(h:l = []∨l = [1]∨l = [2]∨l = [1,2]∨l = [2,1]):
  ∃d' L',bw (mkq two (gl L) (s1 (rk key val))) (rk key val) l d=some (mkq two (gl L') (s2 (rk key val) l),d',0)∧QI two 2 d' L' (s2 (rk key val) l):=by
 have hl:=yp hr.2
 have hp:=cD (n:=2) (by omega)
 have hp1:=cD (n:=1) (by omega)
 have hp0:=cD (n:=0) (by omega)
 have hm:∀x∈l,0≤x∧x≤4611686018427387904:=λx hx=>by
  rcases h with rfl | rfl | rfl | rfl | rfl <;> simp at hx <;> omega
 have hll:l.length≤2:=by rcases h with rfl | rfl | rfl | rfl | rfl <;> simp
 have hb:(diB l (rk key val)).length≤900:=by
  unfold diB
  rcases h with rfl | rfl | rfl | rfl | rfl <;> simp only [Co,Cw,List.map_nil,CL,List.flatten_nil,CH,Cu]
  ·rw [show ((0:Nat):Int)=0 from rfl]; omega
  ·rw [show ((0+1:Nat):Int)=1 from rfl]; omega
  ·rw [show ((0+1:Nat):Int)=1 from rfl]; omega
  ·rw [show ((0+1+1:Nat):Int)=2 from rfl]; omega
  ·rw [show ((0+1+1:Nat):Int)=2 from rfl]; omega
 obtain⟨d',a1,a2⟩:=AK hq (by omega) (xN hr (by omega) hm) (zL hr (by omega) hm) hb (λg=>⟨may2 hr.1 (hs g),app2 h⟩)
 refine⟨d',_,?_,a2⟩
 unfold bw
 show Option.bind (b4 (mkq two (gl L) (s1 (rk key val))) ⟨l,rk key val⟩ true d) _=_
 rw [a1]; rfl
end
end Fw
end Go.Proofs.YtangaamigenjjaaGreat
