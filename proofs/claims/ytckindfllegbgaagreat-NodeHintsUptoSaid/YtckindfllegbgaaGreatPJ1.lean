/- The plain side: what the models come to. No condition. -/
import Derived.Test.YtckindfllegbgaaGreatG6
namespace Go.Proofs.YtckindfllegbgaaGreat
namespace Fw
set_option linter.unusedVariables false
set_option linter.unusedSimpArgs false
set_option linter.unusedSectionVars false
section
variable {α S R:Type} [Inhabited α]
theorem forI_inv{body:(S→Option R)→Nat→α→S→Option R}{k:S→Option R}{l:List α}(T:Nat→S→Option R)(I:Nat→S→Prop)(hend:∀s,I l.length s→k s=T l.length s)
  (hstep:∀f i s,i<l.length→I i s→(∀s',I (i+1) s'→f s'=T (i+1) s')→body f i (gt l i) s=T i s) {s:S} (h0:I 0 s):forI body k 0 l s=T 0 s:=by
 have key:∀m i s,l.length - i=m→i≤l.length→I i s→forI body k i (l.drop i) s=T i s:=by
  intro m
  induction m with
  | zero=>
   intro i s hm hi hI
   have:i=l.length:=by omega
   subst this
   rw [List.drop_of_length_le (Nat.le_refl _)]
   exact hend s hI
  | succ m ih=>
   intro i s hm hi hI
   rw [drop_gt (by omega)]
   exact hstep _ i s (by omega) hI λs' h'=>ih (i+1) s' (by omega) (by omega) h'
 exact key _ 0 s rfl (Nat.zero_le _) h0
theorem forI_run{body:(S→Option R)→Nat→α→S→Option R}{k:S→Option R}{l:List α}{r:Option R}(I:Nat→S→Prop)
  (hend:∀s,I l.length s→k s=r) (hstep:∀f i s,i<l.length→I i s→(∀s',I (i+1) s'→f s'=r)→body f i (gt l i) s=r) {s:S} (h0:I 0 s):forI body k 0 l s=r:=
 forI_inv (λ_ _=>r) I hend hstep h0
end
theorem gcall_s{R:Type}[Inhabited R](g:Bool)(v:R):gcall g (some v)=some (bif g then v else default):=by cases g <;> rfl
theorem chk_t{R:Type}{c:Bool}{k:Option R}(h:c=true):chk c k=k:=by rw [h]; rfl
theorem bif_t{R:Type}{c:Bool}{x y:R}(h:c=true):(bif c then x else y)=x:=by rw [h]; rfl
theorem bif_f{R:Type}{c:Bool}{x y:R}(h:c=false):(bif c then x else y)=y:=by rw [h]; rfl
instance:LawfulBEq ByteArray where
 eq_of_beq {a b} h:=by rw [bytes_beq] at h; exact of_decide_eq_true h
 rfl {a}:=by rw [bytes_beq]; exact decide_eq_true rfl
section
variable {κ α:Type} [DecidableEq κ] {x y:κ} {v:α} {es:List (κ×α)}
def NK(es:List (κ×α)):Prop:=(es.map (·.1)).Nodup
theorem NK.nil:NK ([]:List (κ×α)):=by simp [NK]
theorem NK.cons{p:κ×α}:NK (p::es)↔(∀q∈es,q.1≠p.1)∧NK es:=by
 unfold NK
 rw [List.map_cons,List.nodup_cons]
 refine⟨λh=>⟨λq hq e=>h.1 (by rw [← e]; exact List.mem_map.2 ⟨q,hq,rfl⟩),h.2⟩,λh=>⟨λhm=>?_,h.2⟩⟩
 obtain⟨q,hq,e⟩:=List.mem_map.1 hm
 exact h.1 q hq e
theorem mget_isSome:(mget x es).isSome=true↔x∈es.map (·.1):=by
 induction es with
 | nil=>simp [mget]
 | cons p es ih=>
  unfold mget
  split
  ·rename_i h; simp [h]
  ·rename_i h; rw [ih]; simp [h]
theorem mem_mput2{p:κ×α}:∀{es:List (κ×α)},p∈mput x v es→p=(x,v)∨p∈es
 | [],h=>by simp only [mput,List.mem_singleton] at h; exact .inl h
 | q::es,h=>by
  unfold mput at h
  split at h
  ·rcases List.mem_cons.1 h with h | h
   ·exact .inl h
   ·exact .inr (List.mem_cons_of_mem _ h)
  ·rcases List.mem_cons.1 h with h | h
   ·exact .inr (h▸List.mem_cons_self)
   ·exact(mem_mput2 h).imp id (List.mem_cons_of_mem _)
theorem mem_mdel2{p:κ×α}:∀{es:List (κ×α)},p∈mdel x es→p∈es
 | [],h=>by cases h
 | q::es,h=>by
  unfold mdel at h
  split at h
  ·exact List.mem_cons_of_mem _ h
  ·rcases List.mem_cons.1 h with h | h
   ·exact h▸List.mem_cons_self
   ·exact List.mem_cons_of_mem _ (mem_mdel2 h)
theorem NK.put:∀{es:List (κ×α)},NK es→NK (mput x v es)
 | [],_=>by simp [NK,mput]
 | p::es,h=>by
  rw [NK.cons] at h
  unfold mput
  split
  ·rename_i e; rw [NK.cons]; exact⟨λq hq=>by rw [e]; exact h.1 q hq,h.2⟩
  ·rename_i e
   rw [NK.cons]
   refine⟨λq hq=>?_,h.2.put⟩
   rcases mem_mput2 hq with rfl | hq
   ·exact e
   ·exact h.1 q hq
theorem NK.del:∀{es:List (κ×α)},NK es→NK (mdel x es)
 | [],_=>by simp [NK,mdel]
 | p::es,h=>by
  rw [NK.cons] at h
  unfold mdel
  split
  ·exact h.2
  ·rw [NK.cons]; exact⟨λq hq=>h.1 q (mem_mdel2 hq),h.2.del⟩
theorem mget_none2(h:∀q∈es,q.1≠x):mget x es=none:=by
 induction es with
 | nil=>rfl
 | cons p es ih=>
  unfold mget
  rw [if_neg (λe=>h p List.mem_cons_self e.symm)]
  exact ih λq hq=>h q (List.mem_cons_of_mem _ hq)
theorem mget_mdel:∀{es:List (κ×α)},NK es→mget y (mdel x es)=if y=x then none else mget y es
 | [],_=>by simp [mget,mdel]
 | p::es,h=>by
  rw [NK.cons] at h
  unfold mdel
  split
  ·rename_i e
   by_cases hy:y=x
   ·rw [if_pos hy,hy,e]; exact mget_none2 h.1
   ·rw [if_neg hy,mget,if_neg (λe2=>hy (e2.trans e.symm))]
  ·rename_i e
   rw [mget,mget_mdel h.2]
   by_cases hy:y=p.1
   ·rw [if_pos hy,if_neg (λe2=>e (e2.symm.trans hy)),mget,if_pos hy]
   ·rw [if_neg hy,mget,if_neg hy]
theorem len_mput:∀{es:List (κ×α)},(mput x v es).length≤es.length+1
 | []=>by simp [mput]
 | p::es=>by
  unfold mput
  split
  ·simp
  ·have:=len_mput (es:=es); simp only [List.length_cons]; omega
theorem len_mdel:∀{es:List (κ×α)},(mdel x es).length≤es.length
 | []=>by simp [mdel]
 | p::es=>by
  unfold mdel
  split
  ·simp
  ·have:=len_mdel (es:=es); simp only [List.length_cons]; omega
end
def sz(es:List (ByteArray×List UInt8)):Nat:=(es.map (λp=>p.2.length)).sum
section
variable {x:ByteArray} {v:List UInt8} {es:List (ByteArray×List UInt8)}
theorem sz_put:sz (mput x v es)+((mget x es).getD []).length=sz es+v.length:=by
 induction es with
 | nil=>simp [sz,mput,mget]
 | cons p es ih=>
  unfold mput mget
  split
  ·simp [sz]; omega
  ·simp only [sz,List.map_cons,List.sum_cons] at ih ⊢; omega
theorem sz_del:sz (mdel x es)+((mget x es).getD []).length=sz es:=by
 induction es with
 | nil=>simp [sz,mdel,mget]
 | cons p es ih=>
  unfold mdel mget
  split
  ·simp [sz]; omega
  ·simp only [sz,List.map_cons,List.sum_cons] at ih ⊢; omega
theorem sz_get:((mget x es).getD []).length≤sz es:=by have:=sz_del (x:=x) (es:=es); omega
end
theorem ba_inj{a b:ByteArray}(h:a.data.toList=b.data.toList):a=b:=by
 rcases a with ⟨⟨a⟩⟩
 rcases b with ⟨⟨b⟩⟩
 simp only at h
 rw [h]
theorem mem_skeys{β:Type}{es:List (ByteArray×β)}{k:ByteArray}:k∈skeys es↔k∈es.map (·.1):=by
 unfold skeys
 simp only [List.mem_map,List.mem_mergeSort]
 constructor
 ·rintro⟨l,⟨p,hp,rfl⟩,rfl⟩; exact⟨p,hp,ba_inj (by simp)⟩
 ·rintro⟨p,hp,rfl⟩; exact⟨_,⟨p,hp,rfl⟩,ba_inj (by simp)⟩
theorem skeys_nd{β:Type}{es:List (ByteArray×β)}(hn:NK es):(skeys es).Nodup:=by
 unfold skeys
 refine List.Pairwise.map _ (R:=λa b=>a≠b) (λa b h e=>h ?_) ?_
 ·have:=congrArg (λx:ByteArray=>x.data.toList) e
  simpa using this
 ·have:(es.map (λp=>p.1.data.toList)).Nodup:=by
   rw [show (λp:ByteArray×β=>p.1.data.toList)=((λb:ByteArray=>b.data.toList)∘(·.1)) from rfl, ← List.map_map]
   exact List.Pairwise.map _ (λa b h e=>h (ba_inj e)) hn
  exact(List.mergeSort_perm _ _).nodup_iff.2 this
theorem loopN_s{S R:Type}{b:(S→Option R)→S→Option R}{n:Nat}{s:S}:loopN b (n+1) s=b (loopN b n) s:=rfl
def pn(n:Nat):List UInt8:=if n<128 then [UInt8.ofNat n] else UInt8.ofNat (n % 128+128)::pn (n / 128)
 decreasing_by omega
theorem pn_lt{n:Nat}(h:n<128):pn n = [UInt8.ofNat n]:=by unfold pn; rw [if_pos h]
theorem pn_ge{n:Nat}(h:¬ n<128):pn n=UInt8.ofNat (n % 128+128)::pn (n / 128):=by rw [pn,if_neg h]
theorem pn_len:∀(k n:Nat),n<128 ^ (k+1)→(pn n).length≤k+1:=by
 intro k
 induction k with
 | zero=>intro n h; rw [pn_lt (by omega)]; simp
 | succ k ih=>
  intro n h
  by_cases h1:n<128
  ·rw [pn_lt h1]; simp
  ·rw [pn_ge h1]
   have:=ih (n / 128) (by rw [Nat.pow_succ] at h; omega)
   simp; omega
theorem pn_pos(n:Nat):0<(pn n).length:=by
 by_cases h1:n<128
 ·rw [pn_lt h1]; simp
 ·rw [pn_ge h1]; simp
theorem ior8:∀k:Fin 256,ior .u8 (k.val:Int) 128=(k.val % 128+128:Nat):=by decide +kernel
theorem iand8:∀k:Fin 256,iand .u8 (k.val:Int) 127=(k.val % 128:Nat):=by decide +kernel
theorem put_loop:∀(k u F:Nat) (b:List UInt8),u<128 ^ (k+1)→b.length+k+1≤lim→loopN m_num_PutNum_b1 (F+k+1) (b,(u:Int))=some (b++pn u):=by
 intro k
 induction k with
 | zero=>
  intro u F b h hb
  rw [loopN_s]
  generalize loopN m_num_PutNum_b1 (F+0)=f
  unfold m_num_PutNum_b1
  simp only
  rw [bif_f (by rw [decide_eq_false_iff_not]; omega),chk_t (by simp; omega),pn_lt (by omega),wu8_i (by unfold U8; omega)]
  rfl
 | succ k ih=>
  intro u F b h hb
  rw [show F+(k+1)+1=(F+k+1)+1 by omega,loopN_s]
  generalize hf:loopN m_num_PutNum_b1 (F+k+1)=f
  unfold m_num_PutNum_b1
  simp only
  by_cases h1:u<128
  ·rw [bif_f (by rw [decide_eq_false_iff_not]; omega),chk_t (by simp; omega),pn_lt h1,wu8_i (by unfold U8; omega)]; rfl
  ·have e1:wu8 (u:Int)=(((⟨u % 256,by omega⟩:Fin 256).val:Nat):Int):=by unfold wu8; simp
   rw [bif_t (by rw [decide_eq_true_eq]; omega),e1,ior8]
   have e2:(u % 256 % 128+128:Nat)=u % 128+128:=by omega
   simp only [e2]
   rw [chk_t (by unfold u8b; simp; omega),chk_t (by simp; omega)]
   have e3:ishr .u64 (u:Int) 7=((u / 128:Nat):Int):=by unfold ishr; rfl
   rw [e3, ← hf,ih (u / 128) F _ (by rw [Nat.pow_succ] at h; omega) (by simp; omega),pn_ge h1]
   unfold b8
   rw [Int.toNat_natCast,List.append_assoc]; rfl
theorem e_PutNum{n:Nat}(h:n<9223372036854775808):m_num_PutNum (n:Int)=some (pn n):=by
 unfold m_num_PutNum
 rw [show wu64 (max (n:Int) 0)=(n:Int) by rw [wu64_i (by unfold U64; omega)]; omega]
 obtain⟨F,hF⟩:∃F,FU=F+8+1:=⟨FU - 9,by unfold FU; omega⟩
 rw [hF]
 exact put_loop 8 n F [] (by omega) (by rw [lim_eq]; simp)
def numF:Nat→Nat→List UInt8→Nat×Nat×Int
 | _,_,[]=>(0,0,4)
 | i,n,c::l=>if (i=8∧127<c.toNat)∨(0<i∧c.toNat=0) then (0,0,2) else if c.toNat<128 then (n+c.toNat*128 ^ i,i+1,0) else numF (i+1) (n+(c.toNat - 128)*128 ^ i) l
theorem p128(i:Nat):(128:Nat) ^ i=2 ^ (7*i):=by rw [Nat.pow_mul]
theorem p8{i:Nat}(h:i≤8):(128:Nat) ^ i≤72057594037927936:=Nat.le_trans (Nat.pow_le_pow_right (by decide) h) (by decide)
theorem step_lt{i n c:Nat}(hn:n<128 ^ i)(hc:c<128):n+c*128 ^ i<128 ^ (i+1):=by
 have:(c+1)*128 ^ i≤128*128 ^ i:=Nat.mul_le_mul_right _ hc
 rw [Nat.add_mul] at this
 rw [Nat.pow_succ,Nat.mul_comm (128 ^ i)]
 omega
theorem num_step{i n c:Nat}(hi:i≤8)(hn:n<128 ^ i)(hc:c<128):ior .u64 (n:Int) (ishl .u64 (wu64 (c:Int)) (w64 (7*((i:Nat):Int))))=((n+c*128 ^ i:Nat):Int):=by
 have hp:=p8 hi
 have hs:=step_lt hn hc
 have hp9:(128:Nat) ^ (i+1)=128*128 ^ i:=by rw [Nat.pow_succ,Nat.mul_comm]
 have e1:w64 (7*((i:Nat):Int))=((7*i:Nat):Int):=by rw [w64_i (by unfold I64; omega)]; simp
 have e2:ishl .u64 (wu64 (c:Int)) ((7*i:Nat):Int)=((c*128 ^ i:Nat):Int):=by
  unfold ishl
  rw [wu64_i (x:=(c:Int)) (by unfold U64; omega),Int.toNat_natCast,show min (7*i) (IntKind.u64).bits=7*i from by show min (7*i) 64=_; omega]
  have:(c:Int)*2 ^ (7*i)=((c*128 ^ i:Nat):Int):=by rw [p128]; push_cast; rfl
  rw [this]
  show wu64 _=_
  exact wu64_i (by unfold U64; omega)
 rw [e1,e2]
 unfold ior
 show wu64 _=_
 have e3:(BitVec.ofInt 64 (n:Int) ||| BitVec.ofInt 64 ((c*128 ^ i:Nat):Int)).toNat=n+c*128 ^ i:=by
  rw [BitVec.toNat_or,BitVec.ofInt_natCast,BitVec.ofInt_natCast,BitVec.toNat_ofNat,BitVec.toNat_ofNat,Nat.mod_eq_of_lt (by omega),Nat.mod_eq_of_lt (by omega)]
  have:=Nat.shiftLeft_add_eq_or_of_lt (a:=c) (b:=n) (i:=7*i) (by rw [← p128]; exact hn)
  rw [Nat.shiftLeft_eq, ← p128] at this
  rw [Nat.or_comm, ← this]; omega
 show wu64 (((BitVec.ofInt 64 (n:Int) ||| BitVec.ofInt 64 ((c*128 ^ i:Nat):Int)).toNat:Nat):Int)=_
 rw [e3]
 exact wu64_i (by unfold U64; omega)
def numR(at_:Nat)(r:Nat×Nat×Int):Int×Int×Int:=((r.1:Int),(if r.2.2=0 then ((at_+r.2.1:Nat):Int) else 0),r.2.2)
theorem num_loop{b:List UInt8}{at_:Nat}{K:Int→Option (Int×Int×Int)}(hb:b.length≤lim)(ha:at_≤b.length)(hK:∀n,K n=some (0,0,4)):∀(l:List UInt8) (i n:Nat),(b.drop at_).drop i=l→i≤8→n<128 ^ i →
  forI (m_num_Num_b10 b (at_:Int)) K i l (n:Int)=some (numR at_ (numF i n l)):=by
 intro l
 induction l with
 | nil=>intro i n _ _ _; unfold forI; rw [hK]; rfl
 | cons c l ih=>
  intro i n hd hi hn
  have hg:gt (List.drop at_ b) i=c:=by
   have hlt:i<(b.drop at_).length:=by
    rcases Nat.lt_or_ge i (b.drop at_).length with h | h
    ·exact h
    ·rw [List.drop_of_length_le h] at hd; cases hd
   rw [drop_gt hlt] at hd
   injection hd
  have hd2:(b.drop at_).drop (i+1)=l:=by
   have:=congrArg List.tail hd
   rw [List.tail_drop] at this
   exact this
  have hlen:i+1≤(b.drop at_).length:=by
   have:=congrArg List.length hd
   simp at this ⊢; omega
  rw [List.length_drop] at hlen
  rw [lim_eq] at hb
  have hc:=c.toNat_lt
  rw [forI]
  generalize hf:forI (m_num_Num_b10 b (at_:Int)) K (i+1) l=f
  unfold m_num_Num_b10 m_num_Num_j11 m_num_Num_j1 numF
  rw [Int.toNat_natCast,hg]
  by_cases h8:i=8∧127<c.toNat
  ·have q:((((i:Nat):Int)==8)&&(decide (127<((c.toNat:Nat):Int))))=true:=by simp; omega
   rw [q,if_pos (.inl h8)]; rfl
  ·have q:((((i:Nat):Int)==8)&&(decide (127<((c.toNat:Nat):Int))))=false:=by
    rw [Bool.eq_false_iff]; intro h; simp at h; exact h8 ⟨by omega,by omega⟩
   rw [q,bif_f rfl]
   by_cases h0:0<i∧c.toNat=0
   ·have q2:((decide (0<((i:Nat):Int)))&&(((c.toNat:Nat):Int)==0))=true:=by simp; omega
    rw [q2,bif_t rfl,if_pos (.inr h0)]; rfl
   ·have q2:((decide (0<((i:Nat):Int)))&&(((c.toNat:Nat):Int)==0))=false:=by
     rw [Bool.eq_false_iff]; intro h; simp only [Bool.and_eq_true,decide_eq_true_eq,beq_iff_eq] at h; exact h0 ⟨by omega,by omega⟩
    rw [q2,bif_f rfl,if_neg (by rintro (h | h); exact h8 h; exact h0 h)]
    have hp:=p8 hi
    have hp9:(128:Nat) ^ (i+1)=128*128 ^ i:=by rw [Nat.pow_succ,Nat.mul_comm]
    by_cases h128:c.toNat<128
    ·have hs:=step_lt hn h128
     rw [bif_t (by simp; omega),if_pos h128,num_step hi hn h128,chk_t (by rw [w64_i (by unfold I64; omega)]; simp; omega)]
     unfold numR
     rw [if_pos rfl]
     rw [w64_i (x:=(at_:Int)+(i:Int)) (by unfold I64; omega),w64_i (x:=(at_:Int)+(i:Int)+1) (by unfold I64; omega),w64_i (by unfold I64; omega)]
     congr 3 <;> push_cast <;> omega
    ·have e1:=iand8 ⟨c.toNat,hc⟩
     have hm:c.toNat % 128=c.toNat - 128:=by omega
     simp only [hm] at e1
     have hs:=step_lt (i:=i) (n:=n) (c:=c.toNat - 128) hn (by omega)
     rw [bif_f (by simp; omega),if_neg h128,chk_t (by rw [w64_i (by unfold I64; omega)]; simp; omega),e1,num_step hi hn (by omega)]
     rw [← hf]
     exact ih (i+1) _ hd2 (by omega) hs
theorem e_Num{b:List UInt8}{at_:Nat}(hb:b.length≤lim)(ha:at_≤b.length):m_num_Num b (at_:Int)=some (numR at_ (numF 0 0 (b.drop at_))):=by
 unfold m_num_Num
 rw [bif_f (by simp; omega),chk_t (by simp [inle]; omega),Int.toNat_natCast]
 exact num_loop hb ha (λn=>rfl) _ 0 0 rfl (by omega) (by simp)
theorem num_pn:∀(m i n:Nat) (rest:List UInt8),(0<i→0<m)→i+(pn m).length≤9→numF i n (pn m++rest)=(n+m*128 ^ i,i+(pn m).length,0):=by
 intro m
 induction m using Nat.strongRecOn with
 | _ m ih=>
  intro i n rest h0 h9
  by_cases h1:m<128
  ·rw [pn_lt h1] at *
   have e:(UInt8.ofNat m).toNat=m:=by rw [UInt8.toNat_ofNat_of_lt']; show m<256; omega
   simp only [List.cons_append,List.nil_append,List.length_cons,List.length_nil]
   unfold numF
   rw [e,if_neg (by rintro (h | h); omega; exact absurd (h0 h.1) (by omega)),if_pos h1]
  ·have hp:=pn_pos (m / 128)
   rw [pn_ge h1] at h9 ⊢
   simp only [List.length_cons] at h9
   have e:(UInt8.ofNat (m % 128+128)).toNat=m % 128+128:=by rw [UInt8.toNat_ofNat_of_lt']; show m % 128+128<256; omega
   simp only [List.cons_append,List.length_cons]
   unfold numF
   rw [e,if_neg (by rintro (h | h); omega; omega),if_neg (by omega),ih (m / 128) (by omega) (i+1) _ rest (by omega) (by omega)]
   have hm:m=128*(m / 128)+m % 128:=by omega
   have:n+(m % 128+128 - 128)*128 ^ i+m / 128*128 ^ (i+1)=n+m*128 ^ i:=by
    rw [Nat.add_sub_cancel,Nat.pow_succ,Nat.mul_comm (128 ^ i) 128, ← Nat.mul_assoc,Nat.add_assoc, ← Nat.add_mul]
    congr 2; omega
   rw [this]; congr 2; omega
theorem numF_ok:∀(l:List UInt8) (i n:Nat),i≤8→n<128 ^ i→((numF i n l).2.2=0∧i<(numF i n l).2.1∧(numF i n l).2.1≤i+l.length∧(numF i n l).1<9223372036854775808)∨(numF i n l).2.2=2∨(numF i n l).2.2=4:=by
 intro l
 induction l with
 | nil=>intro i n _ _; exact .inr (.inr rfl)
 | cons c l ih=>
  intro i n hi hn
  have hc:=c.toNat_lt
  unfold numF
  split
  ·exact .inr (.inl rfl)
  ·rename_i hx
   split
   ·rename_i h128
    have hs:=step_lt hn h128
    have hp:=p8 hi
    have hp9:(128:Nat) ^ (i+1)=128*128 ^ i:=by rw [Nat.pow_succ,Nat.mul_comm]
    exact .inl ⟨rfl,by simp,by simp,by simp; omega⟩
   ·rename_i h128
    have hi8:i≠8:=λh=>hx (.inl ⟨h,by omega⟩)
    rcases ih (i+1) (n+(c.toNat - 128)*128 ^ i) (by omega) (step_lt hn (by omega)) with h | h
    ·exact .inl ⟨h.1,by omega,by simp only [List.length_cons]; omega,h.2.2.2⟩
    ·exact .inr h
def crcB(r:BitVec 32):BitVec 32:=(r >>> 1) ^^^ (3988292384#32 &&& -(r &&& 1#32))
def crcN:Nat→BitVec 32→BitVec 32
 | 0,r=>r
 | k+1,r=>crcN k (crcB r)
def crc(r:BitVec 32)(c:UInt8):BitVec 32:=crcN 8 (r ^^^ BitVec.ofNat 32 c.toNat)
def sumB(l:List UInt8):BitVec 32 := ~~~ (l.foldl crc 4294967295#32)
theorem of_toNat(x:BitVec 32):BitVec.ofInt 32 ((x.toNat:Nat):Int)=x:=by rw [BitVec.ofInt_natCast,BitVec.ofNat_toNat]; simp
theorem wr32(x:BitVec 32):wr .u32 ((x.toNat:Nat):Int)=(x.toNat:Int):=by
 have:=x.isLt
 show wu32 _=_
 exact wu32_i (by unfold U32; omega)
theorem ixor_b(x y:BitVec 32):ixor .u32 (x.toNat:Int) (y.toNat:Int)=((x ^^^ y).toNat:Int):=by
 unfold ixor
 show wr .u32 (((BitVec.ofInt 32 (x.toNat:Int) ^^^ BitVec.ofInt 32 (y.toNat:Int)).toNat:Nat):Int)=_
 rw [of_toNat,of_toNat,wr32]
theorem iand_b(x y:BitVec 32):iand .u32 (x.toNat:Int) (y.toNat:Int)=((x &&& y).toNat:Int):=by
 unfold iand
 show wr .u32 (((BitVec.ofInt 32 (x.toNat:Int) &&& BitVec.ofInt 32 (y.toNat:Int)).toNat:Nat):Int)=_
 rw [of_toNat,of_toNat,wr32]
theorem neg_b(x:BitVec 32):wu32 (0 - (x.toNat:Int))=((-x).toNat:Int):=by
 have:=x.isLt
 unfold wu32
 rw [BitVec.toNat_neg]
 omega
theorem crcB_eq(r:BitVec 32):ixor .u32 (ishr .u32 (r.toNat:Int) 1) (iand .u32 3988292384 (wu32 (0 - (iand .u32 (r.toNat:Int) 1))))=((crcB r).toNat:Int):=by
 have e1:iand .u32 (r.toNat:Int) 1=((r &&& 1#32).toNat:Int):=iand_b r 1#32
 have e2:ishr .u32 (r.toNat:Int) 1=((r >>> 1).toNat:Int):=by
  unfold ishr
  show (r.toNat:Int) / 2 ^ 1=_
  rw [BitVec.toNat_ushiftRight,Nat.shiftRight_eq_div_pow]; push_cast; rfl
 rw [e1,e2,neg_b]
 have e3:iand .u32 3988292384 (((-(r &&& 1#32)).toNat:Nat):Int)=((3988292384#32 &&& -(r &&& 1#32)).toNat:Int):=iand_b 3988292384#32 _
 rw [e3,ixor_b]; rfl
theorem crc_loop{f:Int→Option Int}:∀(k i:Nat) (r:BitVec 32),forU m_frame_Sum_b21 f k i (r.toNat:Int)=f ((crcN k r).toNat:Int)
 | 0,_,_=>rfl
 | k+1,i,r=>by
  rw [forU]
  show forU m_frame_Sum_b21 f k (i+1) (ixor .u32 (ishr .u32 (r.toNat:Int) 1) (iand .u32 3988292384 (wu32 (0 - (iand .u32 (r.toNat:Int) 1)))))=_
  rw [crcB_eq]
  exact crc_loop k (i+1) (crcB r)
theorem crc_part{f:Int→Option Int}:∀(l:List UInt8) (i:Nat) (r:BitVec 32),forI m_frame_Sum_b20 f i l (r.toNat:Int)=f ((l.foldl crc r).toNat:Int)
 | [],_,_=>rfl
 | c::l,i,r=>by
  have hc:=c.toNat_lt
  have e:wu32 ((c.toNat:Nat):Int)=((BitVec.ofNat 32 c.toNat).toNat:Int):=by
   rw [BitVec.toNat_ofNat,wu32_i (by unfold U32; omega),Nat.mod_eq_of_lt (by omega)]
  rw [forI]
  show forU m_frame_Sum_b21 (forI m_frame_Sum_b20 f (i+1) l) 8 0 (ixor .u32 (r.toNat:Int) (wu32 ((c.toNat:Nat):Int)))=_
  rw [e,ixor_b,crc_loop]
  exact crc_part l (i+1) (crc r c)
theorem crc_parts{f:Int→Option Int}:∀(l:List (List UInt8)) (i:Nat) (r:BitVec 32),forI m_frame_Sum_b16 f i l (r.toNat:Int)=f ((l.flatten.foldl crc r).toNat:Int)
 | [],_,_=>rfl
 | p::l,i,r=>by
  rw [forI]
  show forI m_frame_Sum_b20 (forI m_frame_Sum_b16 f (i+1) l) 0 p (r.toNat:Int)=_
  rw [crc_part,List.flatten_cons,List.foldl_append]
  exact crc_parts l (i+1) _
theorem e_Sum(l:List (List UInt8)):m_frame_Sum l=some ((sumB l.flatten).toNat:Int):=by
 unfold m_frame_Sum
 rw [show (4294967295:Int)=((4294967295#32).toNat:Int) from rfl,crc_parts]
 unfold icom
 show some (ixor .u32 (((4294967295#32).toNat:Nat):Int) _)=_
 rw [ixor_b]
 unfold sumB
 congr 2
def s4(s:BitVec 32):List UInt8:=[UInt8.ofNat (s.toNat % 256),UInt8.ofNat (s.toNat / 256 % 256),UInt8.ofNat (s.toNat / 65536 % 256),UInt8.ofNat (s.toNat / 16777216 % 256)]
theorem s4_len(s:BitVec 32):(s4 s).length=4:=rfl
theorem sh_eq(s:BitVec 32)(i:Nat)(hi:i<4):wu8 (ishr .u32 (s.toNat:Int) (w64 (8*((i:Nat):Int))))=((s.toNat / 2 ^ (8*i) % 256:Nat):Int):=by
 rw [w64_i (by unfold I64; omega)]
 unfold ishr wu8
 rw [show (8*(i:Int)).toNat=8*i by omega,show min (8*i) (IntKind.u32).bits=8*i from by show min (8*i) 32=_; omega]
 simp only [Int.natCast_emod,Int.natCast_ediv,Int.natCast_pow]; rfl
theorem s4_gt(s:BitVec 32)(i:Nat)(hi:i<4):b8 (wu8 (ishr .u32 (s.toNat:Int) (w64 (8*((i:Nat):Int)))))=gt (s4 s) i:=by
 rw [sh_eq s i hi]
 unfold b8
 rw [Int.toNat_natCast]
 match i,hi with
 | 0,_=>simp [s4,gt]
 | 1,_=>simp [s4,gt]
 | 2,_=>simp [s4,gt]
 | 3,_=>simp [s4,gt]
def fr(x:List UInt8):List UInt8:=pn x.length++(s4 (sumB (pn x.length++x))++x)
theorem fr_len(x:List UInt8):(fr x).length=(pn x.length).length+4+x.length:=by unfold fr; simp [s4_len]; omega
theorem pn3{n:Nat}(h:n≤1048576):(pn n).length≤3:=pn_len 2 n (by omega)
theorem e_Put{x:List UInt8}(h:x.length≤1048576):m_frame_Put x=some (fr x,0):=by
 have h3:=pn3 h
 unfold m_frame_Put
 rw [bif_f (by rw [decide_eq_false_iff_not]; omega),e_PutNum (by omega),Option.bind_some,e_Sum,Option.bind_some]
 simp only [List.flatten_cons,List.flatten_nil,List.append_nil]
 generalize hs:sumB (pn x.length++x)=s
 have hstep:∀(f:List UInt8→Option (List UInt8×Int)) (i:Nat) (out:List UInt8),i<4→out.length+1≤lim→m_frame_Put_b1 (s.toNat:Int) f i out=f (out++[gt (s4 s) i]):=by
  intro f i out hi ho
  unfold m_frame_Put_b1
  rw [chk_t (by rw [w64_i (by unfold I64; omega)]; simp; omega),chk_t (by simpa using ho),s4_gt s i hi]
 simp only [forU]
 rw [hstep _ 0 _ (by decide) (by rw [lim_eq]; omega),hstep _ 1 _ (by decide) (by rw [lim_eq]; simp; omega),hstep _ 2 _ (by decide) (by rw [lim_eq]; simp; omega),hstep _ 3 _ (by decide) (by rw [lim_eq]; simp; omega)]
 rw [chk_t (by rw [lim_eq]; simp; omega)]
 unfold fr
 rw [hs]
 simp [s4,gt]
theorem e_Put_long{x:List UInt8}(h:1048576<x.length):m_frame_Put x=some ([],3):=by
 unfold m_frame_Put
 rw [bif_t (by rw [decide_eq_true_eq]; omega)]
def nextF(l:List UInt8):List UInt8×Nat×Int:=
 if (numF 0 0 l).2.2≠0 then ([],0,(numF 0 0 l).2.2) else if 1048576<(numF 0 0 l).1 then ([],0,3) else if l.length - (numF 0 0 l).2.1<(numF 0 0 l).1+4 then ([],0,4) else
 if (l.drop (numF 0 0 l).2.1).take 4=s4 (sumB (l.take (numF 0 0 l).2.1++(l.drop ((numF 0 0 l).2.1+4)).take (numF 0 0 l).1)) then ((l.drop ((numF 0 0 l).2.1+4)).take (numF 0 0 l).1,(numF 0 0 l).2.1+4+(numF 0 0 l).1,0) else ([],0,20)
theorem take4{l:List UInt8}{k:Nat}(h:k+4≤l.length):(l.drop k).take 4 = [gt l k,gt l (k+1),gt l (k+2),gt l (k+3)]:=by
 rw [drop_gt (by omega),drop_gt (k:=k+1) (by omega),drop_gt (k:=k+2) (by omega),drop_gt (k:=k+3) (by omega)]; rfl
def nextR(at_:Nat)(r:List UInt8×Nat×Int):List UInt8×Int×Int:=(r.1,(if r.2.2=0 then ((at_+r.2.1:Nat):Int) else 0),r.2.2)
theorem u8_ne{c:UInt8}{n:Nat}(h:n<256):(((c.toNat:Nat):Int) != ((n:Nat):Int))=!decide (c=UInt8.ofNat n):=by
 rw [Bool.eq_iff_iff]
 simp only [bne_iff_ne,Bool.not_eq_true',decide_eq_false_iff_not]
 refine not_congr ⟨λe=>?_,λe=>?_⟩
 ·have:c.toNat=n:=by omega
  rw [← this]; simp
 ·rw [e,UInt8.toNat_ofNat_of_lt']; exact h
theorem e_Next{b:List UInt8}{at_:Nat}(hb:b.length≤lim)(ha:at_≤b.length):m_frame_Next b (at_:Int)=some (nextR at_ (nextF (b.drop at_))):=by
 have hb':=hb
 rw [lim_eq] at hb'
 have hok:=numF_ok (b.drop at_) 0 0 (by omega) (by simp)
 unfold m_frame_Next
 rw [e_Num hb ha,Option.bind_some]
 unfold nextF numR nextR
 generalize hr:numF 0 0 (b.drop at_)=r at hok ⊢
 obtain⟨n,k,e⟩:=r
 simp only at hok ⊢
 by_cases he:e=0
 ·subst he
  rcases hok with ⟨_,h1,h2,h3⟩ | h | h
  rotate_left
  ·exact absurd h (by decide)
  ·exact absurd h (by decide)
  rw [List.length_drop] at h2
  rw [bif_f (by simp),if_pos rfl,if_neg (by simp)]
  by_cases hn:1048576<n
  ·rw [bif_t (by simp; omega),if_pos hn]; rfl
  ·rw [bif_f (by simp; omega),if_neg hn]
   have w1:w64 (((b.length:Nat):Int) - ((at_+k:Nat):Int))=(b.length:Int) - (at_+k:Nat):=w64_i (by unfold I64; omega)
   have w2:w64 ((n:Int)+4)=((n+4:Nat):Int):=by rw [w64_i (by unfold I64; omega)]; rfl
   rw [w1,w2]
   by_cases hl:(b.drop at_).length - k<n+4
   ·rw [if_pos hl,bif_t (by rw [List.length_drop] at hl; rw [decide_eq_true_eq]; omega)]; rfl
   ·rw [if_neg hl,bif_f (by rw [List.length_drop] at hl; rw [decide_eq_false_iff_not]; omega)]
    rw [List.length_drop] at hl
    have w3:w64 (((at_+k:Nat):Int)+4)=((at_+k+4:Nat):Int):=by rw [w64_i (by unfold I64; omega)]; rfl
    have w4:w64 (((at_+k+4:Nat):Int)+(n:Int))=((at_+k+4+n:Nat):Int):=by rw [w64_i (by unfold I64; omega)]; push_cast; rfl
    rw [w3,w4]
    clear w1 w2 w3 w4 hr hb
    have d1:List.drop at_ (List.take (at_+k) b)=(b.drop at_).take k:=by rw [List.drop_take]; congr 1; omega
    have d2:List.drop (at_+k+4) (List.take (at_+k+4+n) b)=((b.drop at_).drop (k+4)).take n:=by
     rw [List.drop_take,List.drop_drop]; congr 1
     ·omega
    simp only [Int.toNat_natCast,d1,d2]
    rw [chk_t (by simp [inle]; omega),chk_t (by simp; omega),chk_t (by simp),chk_t (by simp [inle]; omega),chk_t (by simp),chk_t (by simp)]
    rw [e_Sum,Option.bind_some]
    simp only [List.flatten_cons,List.flatten_nil,List.append_nil]
    generalize sumB ((b.drop at_).take k++((b.drop at_).drop (k+4)).take n)=s
    have hstep:∀(f:Unit→Option (List UInt8×Int×Int)) (i:Nat),i<4→m_frame_Next_b1 b ((n:Int),((at_+k:Nat):Int),0) (s.toNat:Int) f i ()=if gt (b.drop at_) (k+i)=gt (s4 s) i then f () else some ([],0,20):=by
     intro f i hi
     unfold m_frame_Next_b1
     have w5:w64 (((at_+k:Nat):Int)+((i:Nat):Int))=((at_+k+i:Nat):Int):=by rw [w64_i (by unfold I64; omega)]; push_cast; rfl
     simp only
     rw [w5]
     clear w5
     rw [chk_t (by simp [inb]; omega),chk_t (by rw [w64_i (by unfold I64; omega)]; simp; omega),Int.toNat_natCast]
     have hx:=s4_gt s i hi
     rw [sh_eq s i hi] at hx ⊢
     rw [u8_ne (Nat.mod_lt _ (by decide))]
     unfold b8 at hx
     rw [Int.toNat_natCast] at hx
     rw [hx]
     have hg:gt b (at_+k+i)=gt (b.drop at_) (k+i):=by
      rw [gt_eq (by omega),gt_eq (by rw [List.length_drop]; omega)]; simp [Nat.add_assoc]
     rw [hg]
     by_cases hq:gt (b.drop at_) (k+i)=gt (s4 s) i
     ·rw [if_pos hq,bif_f (by simp [hq])]
     ·rw [if_neg hq,bif_t (by simp [hq])]
    have hchk:(0+(List.take n ((b.drop at_).drop (k+4))).length≤lim):=by rw [lim_eq,List.length_take,List.length_drop,List.length_drop]; omega
    simp only [forU]
    rw [hstep _ 0 (by decide),hstep _ 1 (by decide),hstep _ 2 (by decide),hstep _ 3 (by decide),chk_t (by simpa using hchk),take4 (by rw [List.length_drop]; omega)]
    have hs4:s4 s = [gt (s4 s) 0,gt (s4 s) 1,gt (s4 s) 2,gt (s4 s) 3]:=by simp [s4,gt]
    rw [hs4]
    simp only [List.cons.injEq,and_true]
    rw [← hs4]
    simp only [Nat.add_zero,List.nil_append]
    by_cases h0:gt (b.drop at_) k=gt (s4 s) 0
    ·rw [if_pos h0]
     by_cases h1:gt (b.drop at_) (k+1)=gt (s4 s) 1
     ·rw [if_pos h1]
      by_cases h2:gt (b.drop at_) (k+2)=gt (s4 s) 2
      ·rw [if_pos h2]
       by_cases h3:gt (b.drop at_) (k+3)=gt (s4 s) 3
       ·rw [if_pos h3,if_pos ⟨h0,h1,h2,h3⟩]
        have:at_+k+4+n=at_+(k+4+n):=by omega
        rw [this]; rfl
       ·rw [if_neg h3,if_neg (by rintro⟨_,_,_,h⟩; exact h3 h)]; rfl
      ·rw [if_neg h2,if_neg (by rintro⟨_,_,h,_⟩; exact h2 h)]; rfl
     ·rw [if_neg h1,if_neg (by rintro⟨_,h,_,_⟩; exact h1 h)]; rfl
    ·rw [if_neg h0,if_neg (by rintro⟨h,_,_,_⟩; exact h0 h)]; rfl
 ·rw [bif_t (by simpa using he),chk_t (by rcases hok with h | h | h; exact absurd h.1 he; rw [h]; rfl; rw [h]; rfl),if_pos he,if_neg he]
theorem next_fr{x:List UInt8}(h:x.length≤1048576)(rest:List UInt8):nextF (fr x++rest)=(x,(fr x).length,0):=by
 have h3:=pn3 h
 have hn:numF 0 0 (fr x++rest)=(x.length,(pn x.length).length,0):=by
  unfold fr
  rw [List.append_assoc,num_pn _ 0 0 _ (by omega) (by omega)]
  simp
 unfold nextF
 rw [hn]
 simp only
 rw [if_neg (by simp),if_neg (by omega),if_neg (by rw [List.length_append,fr_len]; omega)]
 have e1:(fr x++rest).take (pn x.length).length=pn x.length:=by unfold fr; rw [List.append_assoc,List.take_left]
 have e2:((fr x++rest).drop (pn x.length).length).take 4=s4 (sumB (pn x.length++x)):=by
  unfold fr; rw [List.append_assoc,List.drop_left,List.append_assoc,List.take_append_of_le_length (by simp [s4_len])]; rfl
 have e3:((fr x++rest).drop ((pn x.length).length+4)).take x.length=x:=by
  unfold fr
  rw [← List.drop_drop,List.append_assoc,List.drop_left,List.append_assoc,List.drop_append_of_le_length (by simp [s4_len])]
  show List.take x.length (x++rest)=x
  rw [List.take_left]
 rw [e1,e2,e3,if_pos rfl,fr_len]
theorem next_ok{l:List UInt8}(h:(nextF l).2.2=0):0<(nextF l).2.1∧(nextF l).2.1≤l.length∧(nextF l).1.length≤1048576:=by
 have hok:=numF_ok l 0 0 (by omega) (by simp)
 unfold nextF at h ⊢
 split at h
 ·rename_i hq; exact absurd h hq
 ·rename_i hq
  rw [if_neg hq]
  split at h
  ·exact absurd h (by decide)
  ·rename_i h2
   rw [if_neg h2]
   split at h
   ·exact absurd h (by decide)
   ·rename_i h3
    rw [if_neg h3]
    split at h
    ·rename_i h4
     rw [if_pos h4]
     simp only [List.length_take]
     omega
    ·exact absurd h (by decide)
def allF:Nat→List UInt8→List (List UInt8)×Nat×Int
 | 0,_=>([],0,0)
 | f+1,l=>if l = [] then ([],0,0) else if (nextF l).2.2≠0 then ([],0,(nextF l).2.2) else ((nextF l).1::(allF f (l.drop (nextF l).2.1)).1,(nextF l).2.1+(allF f (l.drop (nextF l).2.1)).2.1,(allF f (l.drop (nextF l).2.1)).2.2)
def allB(l:List UInt8):List (List UInt8)×Nat×Int:=allF l.length l
theorem allF_nil(f:Nat):allF f []=([],0,0):=by cases f <;> rfl
theorem allF_fuel:∀(f g:Nat) (l:List UInt8),l.length≤f→l.length≤g→allF f l=allF g l:=by
 intro f
 induction f with
 | zero=>
  intro g l h1 h2
  have:l = []:=List.eq_nil_of_length_eq_zero (by omega)
  subst this
  rw [allF_nil,allF_nil]
 | succ f ih=>
  intro g l h1 h2
  cases g with
  | zero=>
   have:l = []:=List.eq_nil_of_length_eq_zero (by omega)
   subst this
   rw [allF_nil,allF_nil]
  | succ g=>
   unfold allF
   split
   ·rfl
   ·split
    ·rfl
    ·rename_i hn he
     have hk:=next_ok (l:=l) (by simpa using he)
     rw [ih g (l.drop (nextF l).2.1) (by rw [List.length_drop]; omega) (by rw [List.length_drop]; omega)]
theorem allB_eq(l:List UInt8):allB l=if l = [] then ([],0,0) else if (nextF l).2.2≠0 then ([],0,(nextF l).2.2) else ((nextF l).1::(allB (l.drop (nextF l).2.1)).1,(nextF l).2.1+(allB (l.drop (nextF l).2.1)).2.1,(allB (l.drop (nextF l).2.1)).2.2):=by
 by_cases h:l = []
 ·rw [if_pos h,h]; rfl
 ·rw [if_neg h]
  have hl:l.length=(l.length - 1)+1:=by have:=List.length_pos_iff.2 h; omega
  conv=>lhs; unfold allB; rw [hl]; unfold allF
  rw [if_neg h]
  split
  ·rfl
  ·rename_i he
   have hk:=next_ok (l:=l) (by simpa using he)
   unfold allB
   rw [allF_fuel (l.length - 1) (l.drop (nextF l).2.1).length _ (by rw [List.length_drop]; omega) (Nat.le_refl _)]
theorem all_nil:allB []=([],0,0):=rfl
theorem all_fr{x:List UInt8}(h:x.length≤1048576)(rest:List UInt8):allB (fr x++rest)=(x::(allB rest).1,(fr x).length+(allB rest).2.1,(allB rest).2.2):=by
 have hne:fr x++rest≠[]:=λe=>by
  have:=congrArg List.length e
  rw [List.length_append,fr_len] at this
  simp at this
 rw [allB_eq,if_neg hne,next_fr h,if_neg (by simp)]
 simp only
 rw [List.drop_left]
def frs(l:List (List UInt8)):List UInt8:=(l.map fr).flatten
theorem frs_cons(x:List UInt8)(l:List (List UInt8)):frs (x::l)=fr x++frs l:=rfl
theorem frs_app(l m:List (List UInt8)):frs (l++m)=frs l++frs m:=by unfold frs; rw [List.map_append,List.flatten_append]
def Rk(l:List (List UInt8)):Prop := ∀x∈l,x.length≤1048576
theorem all_frs:∀{l:List (List UInt8)} (h:Rk l) (rest:List UInt8),allB (frs l++rest)=(l++(allB rest).1,(frs l).length+(allB rest).2.1,(allB rest).2.2)
 | [],_,rest=>by simp [frs]
 | x::l,h,rest=>by
  rw [frs_cons,List.append_assoc,all_fr (h x List.mem_cons_self),all_frs (λy hy=>h y (List.mem_cons_of_mem _ hy))]
  simp [Nat.add_assoc]
theorem all_frs0{l:List (List UInt8)}(h:Rk l):allB (frs l)=(l,(frs l).length,0):=by
 have:=all_frs h []
 rw [List.append_nil,all_nil] at this
 simpa using this
theorem all_len(l:List UInt8):(allB l).2.1≤l.length∧(allB l).1.length≤(allB l).2.1:=by
 have key:∀(n:Nat) (l:List UInt8),l.length≤n→(allB l).2.1≤l.length∧(allB l).1.length≤(allB l).2.1:=by
  intro n
  induction n with
  | zero=>
   intro l h
   have:l = []:=List.eq_nil_of_length_eq_zero (by omega)
   subst this
   exact⟨Nat.le_refl _,Nat.le_refl _⟩
  | succ n ih=>
   intro l h
   rw [allB_eq]
   split
   ·simp
   ·split
    ·simp
    ·rename_i he
     have hk:=next_ok (l:=l) (by simpa using he)
     have:=ih (l.drop (nextF l).2.1) (by rw [List.length_drop]; omega)
     rw [List.length_drop] at this
     simp only [List.length_cons]
     omega
 exact key l.length l (Nat.le_refl _)
theorem frames_loop{b:List UInt8}(hb:b.length≤lim):∀(n at_ F:Nat) (o:List (List UInt8)) (p:Int) (x5:Int),at_≤b.length→b.length - at_≤n→o.length+(b.length - at_)≤lim→p=(at_:Int) →
  ∃e,loopN (m_frame_frames_1_b1 m_frame_All_y b) (F+n+1) ((at_:Int),x5,(o,p))=some ((o++(allB (b.drop at_)).1,((at_+(allB (b.drop at_)).2.1:Nat):Int)),e):=by
 intro n
 induction n with
 | zero=>
  intro at_ F o p x5 h1 h2 h3 hp
  rw [loopN_s]
  generalize loopN (m_frame_frames_1_b1 m_frame_All_y b) (F+0)=f
  unfold m_frame_frames_1_b1
  simp only
  rw [bif_f (by rw [decide_eq_false_iff_not]; omega)]
  refine⟨x5,?_⟩
  rw [List.drop_of_length_le (by omega),all_nil,hp]
  simp
 | succ n ih=>
  intro at_ F o p x5 h1 h2 h3 hp
  rw [show F+(n+1)+1=(F+n+1)+1 by omega,loopN_s]
  generalize hf:loopN (m_frame_frames_1_b1 m_frame_All_y b) (F+n+1)=f
  unfold m_frame_frames_1_b1
  simp only
  by_cases hlt:at_<b.length
  ·have hne:b.drop at_≠[]:=λe=>by
    have:=congrArg List.length e
    rw [List.length_drop] at this
    simp at this; omega
   rw [bif_t (by rw [decide_eq_true_eq]; omega),e_Next hb h1,Option.bind_some]
   unfold nextR
   simp only
   rw [allB_eq,if_neg hne]
   by_cases he:(nextF (b.drop at_)).2.2=0
   ·have hk:=next_ok he
    rw [List.length_drop] at hk
    rw [if_pos he,if_neg (show ¬ ((nextF (b.drop at_)).2.2≠0) from by simp [he]),bif_t (by simp [he])]
    unfold m_frame_All_y
    rw [chk_t (by simp; omega),Option.bind_some, ← hf]
    obtain⟨e,h⟩:=ih (at_+(nextF (b.drop at_)).2.1) F (o++[(nextF (b.drop at_)).1]) _ (nextF (b.drop at_)).2.2 (by omega) (by omega) (by simp; omega) rfl
    refine⟨e,?_⟩
    simp only
    rw [h]
    simp only [List.drop_drop,List.append_assoc,List.cons_append,List.nil_append,Nat.add_assoc]
   ·rw [bif_f (by simp [he]),if_pos he]
    refine⟨(nextF (b.drop at_)).2.2,?_⟩
    rw [hp]
    simp only [List.append_nil,Nat.add_zero]
  ·refine⟨x5,?_⟩
   rw [bif_f (by rw [decide_eq_false_iff_not]; omega),List.drop_of_length_le (by omega),all_nil,hp]
   simp
theorem e_All{b:List UInt8}(hb:b.length≤lim):∃e,m_frame_All b=some ((allB b).1,(((allB b).2.1:Nat):Int),e):=by
 have hb':=hb
 rw [lim_eq] at hb'
 obtain⟨F,hF⟩:∃F,FU=F+b.length+1:=⟨FU - b.length - 1,by unfold FU; omega⟩
 obtain⟨e,h⟩:=frames_loop hb b.length 0 F [] 0 0 (by omega) (by omega) (by simp; omega) rfl
 refine⟨e,?_⟩
 unfold m_frame_All m_frame_frames_1
 rw [hF]
 simp only [List.drop_zero,Nat.zero_add,List.nil_append] at h
 rw [show ((0:Nat):Int)=0 from rfl] at h
 rw [h]; rfl
def dz(n:Nat):List UInt8:=if h:n=0 then [] else dz (n / 10)++[UInt8.ofNat (48+n % 10)]
 decreasing_by omega
theorem dz_0:dz 0 = []:=by unfold dz; rfl
theorem dz_s{n:Nat}(h:n≠0):dz n=dz (n / 10)++[UInt8.ofNat (48+n % 10)]:=by rw [dz,dif_neg h]
def ds(n:Nat):List UInt8:=dz (n / 10)++[UInt8.ofNat (48+n % 10)]
theorem dz_len:∀(k n:Nat),n<10 ^ k→(dz n).length≤k:=by
 intro k
 induction k with
 | zero=>intro n h; rw [show n=0 by omega,dz_0]; simp
 | succ k ih=>
  intro n h
  by_cases h1:n=0
  ·rw [h1,dz_0]; simp
  ·rw [dz_s h1]
   have:=ih (n / 10) (by rw [Nat.pow_succ] at h; omega)
   simp; omega
theorem ds_len{k n:Nat}(h:n<10 ^ (k+1)):(ds n).length≤k+1:=by
 unfold ds
 have:=dz_len k (n / 10) (by rw [Nat.pow_succ] at h; omega)
 simp; omega
theorem ds_pos(n:Nat):0<(ds n).length:=by unfold ds; simp
theorem dig_v(n:Nat):(UInt8.ofNat (48+n % 10)).toNat=48+n % 10:=by rw [UInt8.toNat_ofNat_of_lt']; show 48+n % 10<256; omega
theorem dz_dig:∀(n:Nat), ∀c∈dz n,48≤c.toNat∧c.toNat≤57:=by
 intro n
 induction n using Nat.strongRecOn with
 | _ n ih=>
  intro c hc
  by_cases h1:n=0
  ·rw [h1,dz_0] at hc; cases hc
  ·rw [dz_s h1] at hc
   rcases List.mem_append.1 hc with h | h
   ·exact ih (n / 10) (by omega) c h
   ·rw [List.mem_singleton.1 h,dig_v]; omega
theorem ds_dig(n:Nat):∀c∈ds n,48≤c.toNat∧c.toNat≤57:=by
 intro c hc
 unfold ds at hc
 rcases List.mem_append.1 hc with h | h
 ·exact dz_dig _ c h
 ·rw [List.mem_singleton.1 h,dig_v]; omega
def rdV(n:Nat)(l:List UInt8):Nat:=l.foldl (λn c=>10*n+(c.toNat - 48)) n
theorem rdV_app(n:Nat)(l m:List UInt8):rdV n (l++m)=rdV (rdV n l) m:=by unfold rdV; rw [List.foldl_append]
theorem rdV_dz:∀n:Nat,rdV 0 (dz n)=n:=by
 intro n
 induction n using Nat.strongRecOn with
 | _ n ih=>
  by_cases h1:n=0
  ·rw [h1,dz_0]; rfl
  ·rw [dz_s h1,rdV_app,ih (n / 10) (by omega)]
   unfold rdV
   simp only [List.foldl_cons,List.foldl_nil,dig_v]
   omega
theorem rdV_ds(n:Nat):rdV 0 (ds n)=n:=by
 unfold ds
 rw [rdV_app,rdV_dz]
 unfold rdV
 simp only [List.foldl_cons,List.foldl_nil,dig_v]
 omega
theorem ds_inj{m n:Nat}(h:ds m=ds n):m=n:=by rw [← rdV_ds m,h,rdV_ds]
theorem rdV_le:∀(l:List UInt8) (n:Nat),n≤rdV n l
 | [],n=>Nat.le_refl _
 | c::l,n=>by
  have:=rdV_le l (10*n+(c.toNat - 48))
  show n≤rdV (10*n+(c.toNat - 48)) l
  omega
theorem dz_head:∀(n:Nat) (c:UInt8) (l:List UInt8),dz n=c::l→c.toNat≠48:=by
 intro n
 induction n using Nat.strongRecOn with
 | _ n ih=>
  intro c l h
  by_cases h1:n=0
  ·rw [h1,dz_0] at h; cases h
  ·rw [dz_s h1] at h
   cases hd:dz (n / 10) with
   | nil=>
    rw [hd] at h
    injection h with h2 _
    rw [← h2,dig_v]
    have:n / 10=0:=by
     have:=rdV_dz (n / 10)
     rw [hd] at this
     exact this.symm
    omega
   | cons c' l'=>
    rw [hd] at h
    injection h with h2 _
    rw [← h2]
    exact ih (n / 10) (by omega) c' l' hd
theorem drop_set{x:List UInt8}{i:Nat}{v:UInt8}(h:i<x.length):(x.set i v).drop i=v::x.drop (i+1):=by
 rw [List.drop_eq_getElem_cons (by simpa using h)]
 congr 1
 ·simp
 ·rw [List.drop_set_of_lt (by omega)]
theorem dig_step{n:Int}{f:Int×Int×List UInt8→Option ByteArray}{at_ u:Nat}{x:List UInt8}(h1:0<at_)(h2:at_≤20)(h3:at_=20∨0<u)(h4:u≤18446744073709551615):
  m_num_Digits_b2 n f ((at_:Int),(u:Int),x)=f (((at_ - 1:Nat):Int),((u / 10:Nat):Int),x.set (at_ - 1) (UInt8.ofNat (48+u % 10))):=by
 unfold m_num_Digits_b2
 simp only
 have e1:w64 ((at_:Int) - 1)=((at_ - 1:Nat):Int):=by rw [w64_i (by unfold I64; omega)]; omega
 have e2:(u:Int).tdiv 10=((u / 10:Nat):Int):=by rw [Int.tdiv_eq_ediv_of_nonneg (by omega)]; omega
 have e3:(u:Int).tmod 10=((u % 10:Nat):Int):=by rw [Int.tmod_eq_emod_of_nonneg (by omega)]; omega
 rw [e1,e2,e3]
 have c1:(((at_:Int)==20)||decide (0<(u:Int)))=true:=by
  simp only [Bool.or_eq_true,beq_iff_eq,decide_eq_true_eq]; omega
 have c2:inb ((at_ - 1:Nat):Int) 20=true:=by
  unfold inb
  simp only [Bool.and_eq_true,decide_eq_true_eq]; omega
 rw [c1,bif_t rfl,c2,chk_t rfl,wu64_i (x:=((u / 10:Nat):Int)) (by unfold U64; omega),wu64_i (x:=48+((u % 10:Nat):Int)) (by unfold U64; omega),wu8_i (by unfold U8; omega)]
 unfold b8
 rw [Int.toNat_natCast,show (48+((u % 10:Nat):Int)).toNat=48+u % 10 by omega]
theorem dig_loop{n:Int}(hn:0≤n):∀(k u at_ F:Nat) (acc x:List UInt8),u<10 ^ k→k≤at_→at_<20→x.length=20→x.drop at_=acc→loopN (m_num_Digits_b2 n) (F+k+1) ((at_:Int),(u:Int),x)=some ⟨(dz u++acc).toArray⟩:=by
 intro k
 induction k with
 | zero=>
  intro u at_ F acc x hu h1 h2 h3 h4
  obtain rfl:u=0:=by omega
  rw [loopN_s]
  generalize loopN (m_num_Digits_b2 n) (F+0)=f
  unfold m_num_Digits_b2 m_num_Digits_j3
  simp only
  rw [bif_f (by simp; omega),bif_f (by simp; omega),chk_t (by simp [inle]; omega),Int.toNat_natCast,h4,dz_0]; rfl
 | succ k ih=>
  intro u at_ F acc x hu h1 h2 h3 h4
  rw [show F+(k+1)+1=(F+k+1)+1 by omega,loopN_s]
  by_cases h0:u=0
  ·generalize loopN (m_num_Digits_b2 n) (F+k+1)=f
   subst h0
   unfold m_num_Digits_b2 m_num_Digits_j3
   simp only
   rw [bif_f (by simp; omega),bif_f (by simp; omega),chk_t (by simp [inle]; omega),Int.toNat_natCast,h4,dz_0]; rfl
  ·have hb:u≤18446744073709551615:=by
    have:10 ^ (k+1)≤10 ^ 19:=Nat.pow_le_pow_right (by decide) (by omega)
    omega
   rw [dig_step (by omega) (by omega) (.inr (by omega)) hb,ih (u / 10) (at_ - 1) F (UInt8.ofNat (48+u % 10)::acc) _ (by rw [Nat.pow_succ] at hu; omega) (by omega) (by omega) (by simpa using h3) (by rw [drop_set (by omega),show at_ - 1+1=at_ by omega,h4]),dz_s h0]
   simp
theorem e_Digits{n:Nat}(h:n<10000000000000000000):m_num_Digits (n:Int)=some ⟨(ds n).toArray⟩:=by
 unfold m_num_Digits m_num_Digits_j1
 rw [bif_f (by simp),wu64_i (by unfold U64; omega)]
 obtain⟨F,hF⟩:∃F,FU=(F+18+1)+1:=⟨FU - 20,by unfold FU; omega⟩
 rw [hF,loopN_s]
 have:=dig_step (n:=(n:Int)) (f:=loopN (m_num_Digits_b2 (n:Int)) (F+18+1)) (at_:=20) (u:=n) (x:=List.replicate 20 (b8 0)) (by decide) (by decide) (.inl rfl) (by omega)
 rw [show (((20:Nat):Nat):Int)=20 from rfl] at this
 rw [this,dig_loop (by omega) 18 (n / 10) 19 F [UInt8.ofNat (48+n % 10)] _ (by omega) (by decide) (by decide) (by simp) (by rw [drop_set (by simp)]; rfl)]
 rfl
theorem read_ex(s:ByteArray):∃r,m_num_Read s=some r∧I64 r.1∧(r.2=0∨r.2=2):=by
 have key:∀(l:List UInt8) (i:Nat) (n:Int), ∃r,forI m_num_Read_b1 (λn_20=>bif decide (9223372036854775808≤n_20) then some (0,2) else some (w64 n_20,0)) i l n=some r∧I64 r.1∧(r.2=0∨r.2=2):=by
  intro l
  induction l with
  | nil=>
   intro i n
   rw [forI]
   cases decide (9223372036854775808≤n) with
   | true=>exact⟨(0,2),rfl,by unfold I64; decide,.inr rfl⟩
   | false=>exact⟨(w64 n,0),rfl,w64_r n,.inl rfl⟩
  | cons c l ih=>
   intro i n
   rw [forI]
   generalize hf:forI m_num_Read_b1 (λn_20=>bif decide (9223372036854775808≤n_20) then some (0,2) else some (w64 n_20,0)) (i+1) l=f
   unfold m_num_Read_b1
   cases decide (((c.toNat:Nat):Int)<48)||decide (57<((c.toNat:Nat):Int)) with
   | true=>exact⟨(0,2),rfl,by unfold I64; decide,.inr rfl⟩
   | false=>rw [bif_f rfl, ← hf]; exact ih _ _
 unfold m_num_Read
 have hc:imp ((!(s==ByteArray.empty))&&(decide (1<((s.size:Nat):Int)))) (decide (0<s.size))=true:=by
  unfold imp
  by_cases h:1<s.size
  ·have:0<s.size:=by omega
   simp [this]
  ·have h2:decide (1<((s.size:Nat):Int))=false:=by rw [decide_eq_false_iff_not]; omega
   rw [h2]; simp
 rw [hc,chk_t rfl]
 cases (s==ByteArray.empty||decide (1<((s.size:Nat):Int))&&((((gt s.data.toList 0).toNat:Nat):Int)==48))||decide (19<((s.size:Nat):Int)) with
 | true=>exact⟨(0,2),rfl,by unfold I64; decide,.inr rfl⟩
 | false=>rw [bif_f rfl]; exact key _ _ _
def rdP(s:ByteArray):Int×Int:=(m_num_Read s).getD (0,0)
theorem e_Read(s:ByteArray):m_num_Read s=some (rdP s):=by obtain⟨r,h,_⟩:=read_ex s; unfold rdP; rw [h]; rfl
theorem rdP_r(s:ByteArray):i64b (rdP s).1=true:=by
 obtain⟨r,h,h2,_⟩:=read_ex s
 unfold rdP
 rw [h]
 unfold i64b
 unfold I64 at h2
 simp; omega
theorem read_loop{K:Int→Option (Int×Int)}:∀(l:List UInt8) (i n:Nat),(∀c∈l,48≤c.toNat∧c.toNat≤57)→rdV n l<10000000000000000000→forI m_num_Read_b1 K i l (n:Int)=K ((rdV n l:Nat):Int)
 | [],_,_,_,_=>rfl
 | c::l,i,n,hd,hv=>by
  have hc:=hd c List.mem_cons_self
  have hv':rdV (10*n+(c.toNat - 48)) l<10000000000000000000:=hv
  have hle:=rdV_le l (10*n+(c.toNat - 48))
  rw [forI]
  show (bif decide (((c.toNat:Nat):Int)<48)||decide (57<((c.toNat:Nat):Int)) then some (0,2) else forI m_num_Read_b1 K (i+1) l (wu64 ((wu64 (10*(n:Int)))+(wu64 (wu8 (((c.toNat:Nat):Int) - 48))))))=_
  rw [bif_f (by simp; omega),wu8_i (by unfold U8; omega),wu64_i (x:=10*(n:Int)) (by unfold U64; omega),wu64_i (x:=((c.toNat:Nat):Int) - 48) (by unfold U64; omega),wu64_i (by unfold U64; omega)]
  rw [show 10*(n:Int)+(((c.toNat:Nat):Int) - 48)=((10*n+(c.toNat - 48):Nat):Int) by omega]
  exact read_loop l (i+1) _ (λc' h=>hd c' (List.mem_cons_of_mem _ h)) hv'
theorem ba_size(l:List UInt8):(⟨l.toArray⟩:ByteArray).size=l.length:=rfl
theorem ba_empty{s:ByteArray}:s=ByteArray.empty↔s.size=0:=by
 constructor
 ·rintro rfl; rfl
 ·intro h
  apply ba_inj
  have:s.data.toList.length=0:=h
  rw [List.eq_nil_of_length_eq_zero this]; rfl
theorem read_ds{n:Nat}(h:n<9223372036854775808):rdP ⟨(ds n).toArray⟩=((n:Int),0):=by
 have hl:(ds n).length≤19:=ds_len (by omega)
 have hp:=ds_pos n
 have hv:=rdV_ds n
 unfold rdP m_num_Read
 simp only [ba_size]
 have c0:((⟨(ds n).toArray⟩:ByteArray)==ByteArray.empty)=false:=by
  rw [beq_eq_false_iff_ne]; intro e; rw [ba_empty,ba_size] at e; omega
 have c1:(decide (1<(((ds n).length:Nat):Int))&&((((gt (ds n) 0).toNat:Nat):Int)==48))=false:=by
  by_cases h1:1<(ds n).length
  ·have h2:(gt (ds n) 0).toNat≠48:=by
    have hd:ds n=dz (n / 10)++[UInt8.ofNat (48+n % 10)]:=rfl
    cases hq:dz (n / 10) with
    | nil=>rw [hq] at hd; rw [hd] at h1; simp at h1
    | cons c l=>rw [hd,hq]; exact dz_head _ _ _ hq
   have h3:((((gt (ds n) 0).toNat:Nat):Int)==48)=false:=by rw [beq_eq_false_iff_ne]; omega
   rw [h3,Bool.and_false]
  ·have:decide (1<(((ds n).length:Nat):Int))=false:=by rw [decide_eq_false_iff_not]; omega
   rw [this,Bool.false_and]
 have c2:decide (19<(((ds n).length:Nat):Int))=false:=by rw [decide_eq_false_iff_not]; omega
 rw [c0,c1,c2,chk_t (by unfold imp; simp; omega)]
 have:=read_loop (K:=λn_20=>bif decide (9223372036854775808≤n_20) then some (0,2) else some (w64 n_20,0)) (ds n) 0 0 (ds_dig n) (by rw [hv]; omega)
 rw [hv] at this
 show (forI m_num_Read_b1 _ 0 (ds n) ((0:Nat):Int)).getD (0,0)=_
 rw [this,bif_f (by rw [decide_eq_false_iff_not]; omega),w64_i (by unfold I64; omega)]; rfl
def ND(l:List UInt8):Prop := ∀c∈l,c≠46
theorem nd_ds(n:Nat):ND (ds n):=λc hc e=>by have:=ds_dig n c hc; rw [e] at this; exact absurd this.1 (by decide)
theorem dot_split:∀{a b x y:List UInt8},ND a→ND b→a++46::x=b++46::y→a=b∧x=y
 | [],[],x,y,_,_,h=>by injection h with _ h; exact⟨rfl,h⟩
 | [],d::b,x,y,_,hb,h=>by injection h with h _; exact absurd h.symm (hb d List.mem_cons_self)
 | c::a,[],x,y,ha,_,h=>by injection h with h _; exact absurd h (ha c List.mem_cons_self)
 | c::a,d::b,x,y,ha,hb,h=>by
  injection h with h1 h2
  obtain⟨e1,e2⟩:=dot_split (λq hq=>ha q (List.mem_cons_of_mem _ hq)) (λq hq=>hb q (List.mem_cons_of_mem _ hq)) h2
  exact⟨by rw [h1,e1],e2⟩
structure Nm (nm:ByteArray):Prop where
 lo:1≤nm.size
 hi:nm.size≤2
 nd:ND nm.data.toList
theorem nm_len{nm:ByteArray}:nm.data.toList.length=nm.size:=rfl
def fn(nm:ByteArray)(g k:Nat):ByteArray:=((((nm++(⟨#[46]⟩:ByteArray))++⟨(ds g).toArray⟩)++(⟨#[46]⟩:ByteArray))++⟨(ds k).toArray⟩)
def mn(nm:ByteArray):ByteArray:=nm++(⟨#[46,109]⟩:ByteArray)
theorem bl_app(a b:ByteArray):(a++b).data.toList=a.data.toList++b.data.toList:=ByteArray.toList_data_append
theorem fn_l(nm:ByteArray)(g k:Nat):(fn nm g k).data.toList=nm.data.toList++46::(ds g++46::ds k):=by
 unfold fn
 simp only [bl_app]
 simp
theorem mn_l(nm:ByteArray):(mn nm).data.toList=nm.data.toList++46::[109]:=by unfold mn; rw [bl_app]
theorem fn_inj{nm nm':ByteArray}{g k g' k':Nat}(h:Nm nm)(h':Nm nm')(e:fn nm g k=fn nm' g' k'):nm=nm'∧g=g'∧k=k':=by
 have e2:=congrArg (λb:ByteArray=>b.data.toList) e
 simp only [fn_l] at e2
 obtain⟨e3,e4⟩:=dot_split h.nd h'.nd e2
 obtain⟨e5,e6⟩:=dot_split (nd_ds g) (nd_ds g') e4
 exact⟨ba_inj e3,ds_inj e5,ds_inj e6⟩
theorem mn_fn{nm nm':ByteArray}{g k:Nat}(h:Nm nm)(h':Nm nm'):mn nm≠fn nm' g k:=by
 intro e
 have e2:=congrArg (λb:ByteArray=>b.data.toList) e
 simp only [fn_l,mn_l] at e2
 obtain⟨_,e4⟩:=dot_split h.nd h'.nd e2
 have:=congrArg List.length e4
 have h1:=ds_pos g
 have h2:=ds_pos k
 simp at this; omega
def gk(g k:Nat):Prop:=g≤999999∧1≤k∧k≤999999
theorem fn_size{nm:ByteArray}{g k:Nat}(h:Nm nm)(hg:g≤999999)(hk:k≤999999):4≤(fn nm g k).size∧(fn nm g k).size≤16:=by
 have h1:(ds g).length≤6:=ds_len (by omega)
 have h2:(ds k).length≤6:=ds_len (by omega)
 have h3:=ds_pos g
 have h4:=ds_pos k
 have h5:=h.lo
 have h6:=h.hi
 have:(fn nm g k).size=nm.size+1+(ds g).length+1+(ds k).length:=by
  show (fn nm g k).data.toList.length=_
  rw [fn_l]; simp [nm_len]; omega
 omega
theorem mn_size{nm:ByteArray}(h:Nm nm):3≤(mn nm).size∧(mn nm).size≤4:=by
 have h5:=h.lo
 have h6:=h.hi
 have:(mn nm).size=nm.size+2:=by
  show (mn nm).data.toList.length=_
  rw [mn_l]; simp [nm_len]
 omega
theorem e_file{nm:ByteArray}(h:Nm nm){g k:Nat}(hg:g≤999999)(hk:k≤999999)(p2:Int):m_seglog_place_file nm p2 (g:Int) (k:Int)=some (fn nm g k):=by
 have h1:(ds g).length≤6:=ds_len (by omega)
 have h2:(ds k).length≤6:=ds_len (by omega)
 have h6:=h.hi
 have hs1:(⟨#[46]⟩:ByteArray).size=1:=rfl
 unfold m_seglog_place_file
 rw [e_Digits (by omega),Option.bind_some,e_Digits (by omega),Option.bind_some]
 have l:=lim_eq
 rw [chk_t (by simp only [ByteArray.size_append,ba_size,hs1,decide_eq_true_eq]; omega),chk_t (by simp only [ByteArray.size_append,ba_size,hs1,decide_eq_true_eq]; omega),chk_t (by simp only [ByteArray.size_append,ba_size,hs1,decide_eq_true_eq]; omega),chk_t (by simp only [ByteArray.size_append,ba_size,hs1,decide_eq_true_eq]; omega),chk_t (by simp only [ByteArray.size_append,ba_size,hs1,decide_eq_true_eq]; omega)]
 rfl
theorem e_list(nm:ByteArray)(p2:Int):m_seglog_place_list nm p2=some (mn nm):=rfl
theorem ixbF_nd:∀(l:List UInt8) (n:Nat),ND l→ixbF l 46 n = -1
 | [],_,_=>rfl
 | c::l,n,h=>by
  unfold ixbF
  rw [show (c==46)=false from by rw [beq_eq_false_iff_ne]; exact h c List.mem_cons_self,bif_f rfl]
  exact ixbF_nd l (n+1) λq hq=>h q (List.mem_cons_of_mem _ hq)
theorem ixbF_at:∀(l x:List UInt8) (n:Nat),ND l→ixbF (l++46::x) 46 n=((n+l.length:Nat):Int)
 | [],x,n,_=>rfl
 | c::l,x,n,h=>by
  rw [List.cons_append]
  unfold ixbF
  rw [show (c==46)=false from by rw [beq_eq_false_iff_ne]; exact h c List.mem_cons_self,bif_f rfl,ixbF_at l x (n+1) λq hq=>h q (List.mem_cons_of_mem _ hq)]
  simp; omega
theorem ixbF_r:∀(l:List UInt8) (n:Nat),ixbF l 46 n = -1∨∃k,ixbF l 46 n=((n+k:Nat):Int)∧k<l.length
 | [],_=>.inl rfl
 | c::l,n=>by
  unfold ixbF
  cases hc:(c==46) with
  | true=>exact .inr ⟨0,rfl,by simp⟩
  | false=>
   rw [bif_f rfl]
   rcases ixbF_r l (n+1) with h | ⟨k,h,h2⟩
   ·exact .inl h
   ·exact .inr ⟨k+1,by rw [h]; congr 1; omega,by simp; omega⟩
theorem e_Index(s:ByteArray):m_strings_Index s=some (ixb s 46)∧m_internal_stringslite_Index s=some (ixb s 46):=by
 have h:m_internal_stringslite_Index s=some (ixb s 46):=by
  unfold m_internal_stringslite_Index m_internal_stringslite_IndexByte
  by_cases hs:(⟨#[46]⟩:ByteArray)=s
  ·subst hs; rfl
  ·rw [bif_f (by rw [beq_eq_false_iff_ne]; exact hs)]; rfl
 exact⟨by unfold m_strings_Index; rw [h]; rfl,h⟩
theorem nm_nodot{nm:ByteArray}(h:Nm nm):m_strings_Contains nm=some false:=by
 unfold m_strings_Contains
 rw [(e_Index nm).1,Option.bind_some]
 unfold ixb
 rw [show (46:Int).toNat.toUInt8=46 from rfl,ixbF_nd _ _ h.nd]; rfl
def cutP(s p:ByteArray):ByteArray×Bool:=if p.size≤s.size∧s.extract 0 p.size=p then (s.extract p.size s.size,true) else (s,false)
theorem e_CutPrefix(s p:ByteArray):m_strings_CutPrefix s p=some (cutP s p):=by
 unfold m_strings_CutPrefix m_internal_stringslite_CutPrefix m_internal_stringslite_HasPrefix cutP
 have hi:imp (decide (((p.size:Nat):Int)≤((s.size:Nat):Int))) (decide (p.size≤s.size))=true:=by
  unfold imp
  by_cases h:p.size≤s.size
  ·simp [h]
  ·rw [show decide (((p.size:Nat):Int)≤((s.size:Nat):Int))=false from by rw [decide_eq_false_iff_not]; omega]; rfl
 rw [hi,chk_t rfl,Option.bind_some]
 by_cases h:p.size≤s.size∧s.extract 0 p.size=p
 ·rw [if_pos h,bif_f (by simp [h.2]; omega),chk_t (by simpa using h.1)]; rfl
 ·rw [if_neg h,bif_t ?_]; rfl
  rw [Bool.not_eq_true',Bool.and_eq_false_iff]
  by_cases h1:p.size≤s.size
  ·right; rw [beq_eq_false_iff_ne]; exact λe=>h ⟨h1,e⟩
  ·left; rw [decide_eq_false_iff_not]; omega
def cutD(s:ByteArray):ByteArray×ByteArray×Bool:=if 0≤ixb s 46 then (s.extract 0 (ixb s 46).toNat,s.extract ((ixb s 46).toNat+1) s.size,true) else (s,ByteArray.empty,false)
theorem e_Cut(s:ByteArray)(hs:s.size≤lim):m_strings_Cut s=some (cutD s):=by
 unfold m_strings_Cut m_internal_stringslite_Cut cutD
 rw [(e_Index s).2,Option.bind_some]
 have hr:ixb s 46 = -1∨∃k,ixb s 46=((k:Nat):Int)∧k<s.size:=by
  unfold ixb
  rcases ixbF_r s.data.toList 0 with h | ⟨k,h,h2⟩
  ·exact .inl h
  ·exact .inr ⟨k,by rw [show (46:Int).toNat.toUInt8=46 from rfl,h]; congr 1; omega,h2⟩
 rcases hr with h | ⟨k,h,hk⟩
 ·rw [h]; rfl
 ·rw [lim_eq] at hs
  rw [h,bif_t (by simp),if_pos (by omega),w64_i (by unfold I64; omega),chk_t (by simp [inle]; omega),chk_t (by simp [inle]; omega),show ((k:Int)+1).toNat=k+1 by omega,Int.toNat_natCast]; rfl
def pf(nm f:ByteArray):Option (Int×Int):=
 if ((cutP f (nm++(⟨#[46]⟩:ByteArray))).2&&(cutD (cutP f (nm++(⟨#[46]⟩:ByteArray))).1).2.2&&((rdP (cutD (cutP f (nm++(⟨#[46]⟩:ByteArray))).1).1).2==0)&&((rdP (cutD (cutP f (nm++(⟨#[46]⟩:ByteArray))).1).2.1).2==0)&&(decide ((rdP (cutD (cutP f (nm++(⟨#[46]⟩:ByteArray))).1).1).1≤999999))&&(decide (1≤(rdP (cutD (cutP f (nm++(⟨#[46]⟩:ByteArray))).1).2.1).1))&&(decide ((rdP (cutD (cutP f (nm++(⟨#[46]⟩:ByteArray))).1).2.1).1≤999999)))=true
 then some ((rdP (cutD (cutP f (nm++(⟨#[46]⟩:ByteArray))).1).1).1,(rdP (cutD (cutP f (nm++(⟨#[46]⟩:ByteArray))).1).2.1).1) else none
theorem cutP_size(s p:ByteArray):(cutP s p).1.size≤s.size:=by
 unfold cutP
 split
 ·simp only [ByteArray.size_extract]; omega
 ·exact Nat.le_refl _
theorem cutD_size(s:ByteArray):(cutD s).1.size≤s.size∧(cutD s).2.1.size≤s.size:=by
 unfold cutD
 split
 ·simp only [ByteArray.size_extract]; omega
 ·exact⟨Nat.le_refl _,Nat.zero_le _⟩
theorem parts_step{nm f:ByteArray}(h:nm.size≤2)(hf:f.size≤lim){pred:Int→Int→Option Bool}{q:Int→Int→Bool}(hq:∀a b,pred a b=some (q a b))(k:YSseglog_place_parts_1→Option YSseglog_place_parts_1)(i:Nat)(o:YSseglog_place_parts_1)(ho:o.length+1≤lim):
  m_seglog_place_parts_1_b1 (m_seglog_parts_y pred) nm k i f o=k (o++if (pf nm f).any (λx=>q x.1 x.2) then [f] else []):=by
 unfold m_seglog_place_parts_1_b1 pf
 have hs1:(⟨#[46]⟩:ByteArray).size=1:=rfl
 have l:=lim_eq
 rw [chk_t (by simp only [ByteArray.size_append,hs1,decide_eq_true_eq]; omega),e_CutPrefix,Option.bind_some]
 have c1:=cutP_size f (nm++(⟨#[46]⟩:ByteArray))
 generalize cutP f (nm++(⟨#[46]⟩:ByteArray))=z24 at c1 ⊢
 rw [chk_t (by rw [decide_eq_true_eq]; omega),e_Cut _ (by omega),Option.bind_some]
 have c2:=cutD_size z24.1
 generalize cutD z24.1=z27 at c2 ⊢
 rw [chk_t (by rw [decide_eq_true_eq]; omega),e_Read,Option.bind_some,chk_t (by rw [decide_eq_true_eq]; omega),e_Read,Option.bind_some]
 have r1:=rdP_r z27.1
 have r2:=rdP_r z27.2.1
 generalize rdP z27.1=z30 at r1 ⊢
 generalize rdP z27.2.1=z33 at r2 ⊢
 generalize hc:((((((z24.2&&z27.2.2)&&(z30.2==0))&&(z33.2==0))&&decide (z30.1≤999999))&&decide (1≤z33.1))&&decide (z33.1≤999999))=c
 cases c with
 | true=>
  rw [bif_t rfl,if_pos rfl,chk_t r1,chk_t r2]
  unfold m_seglog_parts_y
  rw [hq,Option.bind_some]
  simp only [Option.any_some]
  by_cases hqq:q z30.1 z33.1=true
  ·rw [bif_t hqq,if_pos hqq,chk_t (by simpa using ho)]; rfl
  ·rw [bif_f (by simpa using hqq),if_neg hqq,List.append_nil]; rfl
 | false=>
  rw [bif_f rfl,if_neg (by simp)]
  simp
theorem bl_ext(s:ByteArray)(i j:Nat):(s.extract i j).data.toList=(s.data.toList.take j).drop i:=by
 rw [ByteArray.data_extract,Array.toList_extract,List.extract_eq_take_drop,List.drop_take]
theorem cutP_eq{s p:ByteArray}{x:List UInt8}(h:s.data.toList=p.data.toList++x):cutP s p=(⟨x.toArray⟩,true):=by
 have hsz:s.size=p.size+x.length:=by
  show s.data.toList.length=_
  rw [h,List.length_append]; rfl
 have h1:s.extract 0 p.size=p:=by
  apply ba_inj
  rw [bl_ext,h,List.drop_zero,show p.size=p.data.toList.length from rfl,List.take_left]
 unfold cutP
 rw [if_pos ⟨by omega,h1⟩]
 congr 1
 apply ba_inj
 rw [bl_ext,List.take_of_length_le (by show s.size≤s.size; exact Nat.le_refl _),h,show p.size=p.data.toList.length from rfl,List.drop_left]
theorem cutP_ne{s p:ByteArray}(h:∀x,s.data.toList≠p.data.toList++x):cutP s p=(s,false):=by
 unfold cutP
 rw [if_neg]
 rintro⟨h1,h2⟩
 apply h (s.data.toList.drop p.size)
 have:=congrArg (λb:ByteArray=>b.data.toList) h2
 simp only [bl_ext,List.drop_zero] at this
 rw [← this]
 exact(List.take_append_drop p.size s.data.toList).symm
theorem cutD_eq{a x:List UInt8}(h:ND a):cutD ⟨(a++46::x).toArray⟩=(⟨a.toArray⟩,⟨x.toArray⟩,true):=by
 have hi:ixb ⟨(a++46::x).toArray⟩ 46=((a.length:Nat):Int):=by
  unfold ixb
  show ixbF (a++46::x) 46 0=_
  rw [ixbF_at a x 0 h,Nat.zero_add]
 unfold cutD
 rw [hi,if_pos (by omega),Int.toNat_natCast]
 congr 1
 ·apply ba_inj
  rw [bl_ext]
  show List.drop 0 (List.take a.length (a++46::x))=a
  rw [List.drop_zero,List.take_left]
 ·congr 1
  apply ba_inj
  rw [bl_ext]
  show List.drop (a.length+1) (List.take (a++46::x).length (a++46::x))=x
  rw [List.take_length, ← List.drop_drop,List.drop_left]; rfl
theorem pf_own{nm:ByteArray}{g k:Nat}(h:gk g k):pf nm (fn nm g k)=some ((g:Int),(k:Int)):=by
 obtain⟨h1,h2,h3⟩:=h
 unfold pf
 rw [cutP_eq (x:=ds g++46::ds k) (by rw [fn_l,bl_app]; simp)]
 simp only
 rw [cutD_eq (nd_ds g)]
 simp only
 rw [read_ds (by omega),read_ds (by omega)]
 rw [if_pos (by simp; omega)]
theorem pf_other{nm nm':ByteArray}(h:Nm nm)(h':Nm nm')(hne:nm≠nm')(g k:Nat):pf nm (fn nm' g k)=none:=by
 unfold pf
 rw [cutP_ne (λx e=>by
  rw [fn_l,bl_app] at e
  have:nm.data.toList++(⟨#[46]⟩:ByteArray).data.toList++x=nm.data.toList++46::x:=by simp
  rw [this] at e
  exact hne (ba_inj (dot_split h.nd h'.nd e.symm).1))]
 rfl
abbrev Mp:=List (ByteArray×List UInt8)
abbrev Cg:=Cdisk_change_do
abbrev Dc:=Ddisk_change
abbrev Dk:=Odisk_Disk
def ap:Cg→Mp→Mp
 | .disk_Disk_Remove_1 a,es=>mdel a es
 | .disk_add_1 n b,es=>mput n ((mget n es).getD []++b) es
 | .disk_Disk_Cut_1 n k,es=>mput n (((mget n es).getD []).take k.toNat) es
def okc:Cg→Mp→Prop
 | .disk_Disk_Cut_1 n k,es=>(mget n es).isSome=true∧0≤k∧k≤(((mget n es).getD []).length:Int)
 | .disk_Disk_Remove_1 a,es=>(mget a es).isSome=true
 | _,_=>True
theorem ap_nk{c:Cg}{es:Mp}(h:NK es):NK (ap c es):=by
 cases c with
 | disk_Disk_Remove_1 a=>exact h.del
 | disk_add_1 n b=>exact h.put
 | disk_Disk_Cut_1 n k=>exact h.put
theorem ap_len{c:Cg}{es:Mp}:(ap c es).length≤es.length+1:=by
 cases c with
 | disk_Disk_Remove_1 a=>exact Nat.le_trans len_mdel (Nat.le_succ _)
 | disk_add_1 n b=>exact len_mput
 | disk_Disk_Cut_1 n k=>exact len_mput
theorem sz_add{n:ByteArray}{b:List UInt8}{es:Mp}:sz (ap (.disk_add_1 n b) es)=sz es+b.length:=by
 have:=sz_put (x:=n) (v:=(mget n es).getD []++b) (es:=es)
 rw [List.length_append] at this
 show sz (mput n _ es)=_
 omega
theorem sz_rem{a:ByteArray}{es:Mp}:sz (ap (.disk_Disk_Remove_1 a) es)≤sz es:=by
 have h2:=sz_del (x:=a) (es:=es)
 show sz (mdel a es)≤_
 omega
theorem sz_cut{n:ByteArray}{k:Int}{es:Mp}:sz (ap (.disk_Disk_Cut_1 n k) es)≤sz es:=by
 have h1:=sz_put (x:=n) (v:=((mget n es).getD []).take k.toNat) (es:=es)
 have h2:(((mget n es).getD []).take k.toNat).length≤((mget n es).getD []).length:=by rw [List.length_take]; omega
 show sz (mput n _ es)≤_
 omega
theorem e_chg{c:Cg}{es:Mp}(hok:okc c es)(h:sz (ap c es)≤lim):m_call_Cdisk_change_do c es=some (ap c es):=by
 cases c with
 | disk_Disk_Remove_1 a=>rfl
 | disk_add_1 n b=>
  rw [sz_add] at h
  have:=sz_get (x:=n) (es:=es)
  show m_disk_add_1 es n b=_
  unfold m_disk_add_1 m_slices_Clip_byte_byte
  rw [Option.bind_some,chk_t (by simp; omega)]; rfl
 | disk_Disk_Cut_1 n k=>
  obtain⟨_,h1,h2⟩:=hok
  show m_disk_Disk_Cut_1 es n k=_
  unfold m_disk_Disk_Cut_1
  rw [chk_t (by simp [inle,h1,h2])]; rfl
def run(cs:List Dc)(es:Mp):Mp:=cs.foldl (λes c=>ap c.do_ es) es
theorem run_snoc{cs:List Dc}{c:Dc}{es:Mp}:run (cs++[c]) es=ap c.do_ (run cs es):=by simp [run,List.foldl_append]
theorem run_take{cs:List Dc}{k:Nat}{es:Mp}(h:k<cs.length):run (cs.take (k+1)) es=ap (gt cs k).do_ (run (cs.take k) es):=by rw [take_gt h,run_snoc]
theorem run_nk{cs:List Dc}{es:Mp}(h:NK es):NK (run cs es):=by
 induction cs generalizing es with
 | nil=>exact h
 | cons c cs ih=>exact ih (ap_nk h)
def Tl(c:Dc):Prop:=match c.do_ with
 | .disk_add_1 n b=>c.name=n∧c.tail=b
 | _=>c.tail = []
structure DI (R N:Nat) (d:Dk):Prop where
 rd:d.room=(R:Int)
 see:d.seen=run d.loose d.safe_
 nks:NK d.safe_
 szs:∀k,k≤d.loose.length→sz (run (d.loose.take k) d.safe_)≤R
 lns:∀k,k≤d.loose.length→(run (d.loose.take k) d.safe_).length≤N
 oks:∀k,k<d.loose.length→okc (gt d.loose k).do_ (run (d.loose.take k) d.safe_)
 tls:∀k,k<d.loose.length→Tl (gt d.loose k)
 ll:d.loose.length≤N
def MX:Nat:=1073741824
theorem MX_lim{R:Nat}(hR:R≤MX):R≤lim:=by rw [lim_eq]; unfold MX at hR; omega
section
variable {R N:Nat} {d:Dk}
theorem DI.mono(h:DI R N d){M:Nat}(hm:N≤M):DI R M d:=⟨h.rd,h.see,h.nks,h.szs,λk hk=>Nat.le_trans (h.lns k hk) hm,h.oks,h.tls,Nat.le_trans h.ll hm⟩
theorem DI.nk(h:DI R N d):NK d.seen:=by rw [h.see]; exact run_nk h.nks
theorem DI.sz(h:DI R N d):Fw.sz d.seen≤R:=by
 rw [h.see]
 have:=h.szs d.loose.length (Nat.le_refl _)
 rwa [List.take_length] at this
theorem DI.ln(h:DI R N d):d.seen.length≤N:=by
 rw [h.see]
 have:=h.lns d.loose.length (Nat.le_refl _)
 rwa [List.take_length] at this
theorem DI.clean{r:Int}{es:Mp}(hr:r=(R:Int))(h1:NK es)(h2:Fw.sz es≤R)(h3:es.length≤N):DI R N ⟨r,es,es,[]⟩:=
 ⟨hr,rfl,h1,λk hk=>by simpa [run] using h2,λk hk=>by simpa [run] using h3,λk hk=>absurd hk (Nat.not_lt_zero _),λk hk=>absurd hk (Nat.not_lt_zero _),Nat.zero_le _⟩
def okn(n:ByteArray):Bool:=decide (1≤n.size)&&decide (n.size≤16)
theorem okn_not(s:ByteArray):(decide (((s.size:Nat):Int)<1)||decide (16<((s.size:Nat):Int)))=!okn s:=by
 unfold okn
 rw [Bool.eq_iff_iff]
 simp only [Bool.or_eq_true,decide_eq_true_eq,Bool.not_eq_true',Bool.and_eq_false_iff,decide_eq_false_iff_not]
 omega
theorem e_right(l:List ByteArray):m_disk_right l=some (l.all okn):=by
 unfold m_disk_right
 refine(forI_inv (λi _=>some ((l.drop i).all okn)) (λ_ _=>True) (λs _=>?_) (λf i s hi _ hf=>?_) trivial)
 ·rw [List.drop_of_length_le (Nat.le_refl _)]; rfl
 ·unfold m_disk_right_b1
  rw [hf () trivial,drop_gt hi,List.all_cons]
  rw [okn_not]
  cases okn (gt l i) <;> rfl
theorem e_cln{l:List UInt8}(h:l.length≤lim):m_slices_Clone_byte_byte l=some l:=by
 unfold m_slices_Clone_byte_byte nilc
 cases l with
 | nil=>rfl
 | cons x l=>rw [chk_t (by simpa using h)]; rfl
theorem fld_used:∀(es:Mp) (n:Int),0≤n→n+(sz es:Int)≤4611686018427387904→fldO m_disk_Disk_Used_b1 n es=some (n+(sz es:Int))
 | [],n,_,_=>by simp [fldO,Fw.sz]
 | p::es,n,h0,h1=>by
  have hs:Fw.sz (p::es)=p.2.length+Fw.sz es:=by simp [Fw.sz]
  rw [hs] at h1 ⊢
  unfold fldO m_disk_Disk_Used_b1
  rw [Option.bind_some,w64_i (by unfold I64; omega)]
  have:=fld_used es (n+(p.2.length:Int)) (by omega) (by omega)
  unfold m_disk_Disk_Used_b1 at this
  rw [this]; congr 1; omega
theorem e_used{d:Dk}(h:Fw.sz d.seen≤lim):m_disk_Disk_Used d=some (Fw.sz d.seen:Int):=by
 unfold m_disk_Disk_Used
 rw [lim_eq] at h
 rw [fld_used _ _ (Int.le_refl 0) (by omega),Option.bind_some,Int.zero_add]
def dDone(d:Dk)(c:Dc):Dk:=⟨d.room,d.safe_,ap c.do_ d.seen,d.loose++[c]⟩
def dApp(d:Dk)(n:ByteArray)(b:List UInt8):Dk×Int:=
 bif !okn n then (d,70) else bif decide (d.room - (Fw.sz d.seen:Int)<(b.length:Int)) then (d,72) else (dDone d ⟨.disk_add_1 n b,n,b⟩,0)
def dThere(d:Dk)(n:ByteArray):Int:=bif !okn n then 70 else bif !(mget n d.seen).isSome then 71 else 0
def dCut(d:Dk)(n:ByteArray)(k:Int):Dk×Int:=
 bif dThere d n != 0 then (d,dThere d n) else bif decide (k<0)||decide (((((mget n d.seen).getD []).length:Nat):Int)<k) then (d,1) else (dDone d ⟨.disk_Disk_Cut_1 n k,ByteArray.empty,[]⟩,0)
def dRem(d:Dk)(n:ByteArray):Dk×Int:=
 bif dThere d n != 0 then (d,dThere d n) else (dDone d ⟨.disk_Disk_Remove_1 n,ByteArray.empty,[]⟩,0)
theorem e_done(h:DI R N d)(hR:R≤lim)(hN:N+1≤lim){c:Dc}(h1:Fw.sz (ap c.do_ d.seen)≤R)(h2:okc c.do_ d.seen):m_disk_Disk_done d c=some (dDone d c,0):=by
 unfold m_disk_Disk_done
 have:=h.ll
 rw [e_chg h2 (Nat.le_trans h1 hR),Option.bind_some,chk_t (by simp; omega)]; rfl
theorem DI.done(h:DI R N d){c:Dc}(h1:Fw.sz (ap c.do_ d.seen)≤R)(h2:okc c.do_ d.seen)(h4:Tl c):DI R (N+1) (dDone d c):=by
 have hs:=h.see
 have hk:∀k,k≤(d.loose++[c]).length→k≤d.loose.length∧(d.loose++[c]).take k=d.loose.take k∨k=d.loose.length+1∧(d.loose++[c]).take k=d.loose++[c]:=λk hk=>by
  rw [List.length_append] at hk
  simp only [List.length_cons,List.length_nil] at hk
  rcases Nat.lt_or_ge d.loose.length k with h | h
  ·right; exact⟨by omega,List.take_of_length_le (by simp; omega)⟩
  ·left; exact⟨h,by rw [List.take_append_of_le_length h]⟩
 have hg:∀k,k<(d.loose++[c]).length→k<d.loose.length∧gt (d.loose++[c]) k=gt d.loose k∨k=d.loose.length∧gt (d.loose++[c]) k=c:=λk hk=>by
  rw [List.length_append] at hk
  simp only [List.length_cons,List.length_nil] at hk
  rcases Nat.lt_or_ge k d.loose.length with h5 | h5
  ·left; exact⟨h5,gt_append_left h5⟩
  ·right
   have:k=d.loose.length:=by omega
   subst this
   exact⟨rfl,by rw [gt_append_right (Nat.le_refl _),Nat.sub_self]; rfl⟩
 refine⟨h.rd,?_,h.nks,λk q=>?_,λk q=>?_,λk q=>?_,λk q=>?_,?_⟩
 ·show ap c.do_ d.seen=run (d.loose++[c]) d.safe_
  rw [run_snoc, ← hs]
 ·rcases hk k q with ⟨a,b⟩ | ⟨a,b⟩
  ·show Fw.sz (run ((d.loose++[c]).take k) d.safe_)≤R
   rw [b]; exact h.szs k a
  ·show Fw.sz (run ((d.loose++[c]).take k) d.safe_)≤R
   rw [b,run_snoc, ← hs]; exact h1
 ·rcases hk k q with ⟨a,b⟩ | ⟨a,b⟩
  ·show (run ((d.loose++[c]).take k) d.safe_).length≤_
   rw [b]; exact Nat.le_trans (h.lns k a) (Nat.le_succ _)
  ·show (run ((d.loose++[c]).take k) d.safe_).length≤_
   rw [b,run_snoc, ← hs]
   have:=h.ln
   have h6:=ap_len (c:=c.do_) (es:=d.seen)
   omega
 ·rcases hg k q with ⟨a,b⟩ | ⟨a,b⟩
  ·show okc (gt (d.loose++[c]) k).do_ (run ((d.loose++[c]).take k) d.safe_)
   rw [b,List.take_append_of_le_length (Nat.le_of_lt a)]; exact h.oks k a
  ·show okc (gt (d.loose++[c]) k).do_ (run ((d.loose++[c]).take k) d.safe_)
   rw [b,a,List.take_append_of_le_length (Nat.le_refl _),List.take_length, ← hs]; exact h2
 ·rcases hg k q with ⟨a,b⟩ | ⟨a,b⟩
  ·show Tl (gt (d.loose++[c]) k)
   rw [b]; exact h.tls k a
  ·show Tl (gt (d.loose++[c]) k)
   rw [b]; exact h4
 ·show (d.loose++[c]).length≤_
  have:=h.ll
  simp; omega
theorem room_w{z:Nat}(hR:R≤MX)(hz:z≤R):w64 ((R:Int) - (z:Int))=(R:Int) - (z:Int):=w64_i (by unfold I64 MX at *; omega)
theorem e_App(h:DI R N d)(hR:R≤MX)(hN:N+1≤lim)(n:ByteArray)(b:List UInt8):m_disk_Disk_Append d n b=some (dApp d n b)∧DI R (N+1) (dApp d n b).1:=by
 have hs:=h.sz
 have hR2:=MX_lim hR
 unfold m_disk_Disk_Append dApp
 rw [e_right,Option.bind_some]
 simp only [List.all_cons,List.all_nil,Bool.and_true]
 cases okn n with
 | false=>exact⟨rfl,h.mono (Nat.le_succ _)⟩
 | true=>
  rw [show (!true)=false from rfl,bif_f rfl,bif_f rfl,e_used (Nat.le_trans hs hR2),Option.bind_some,h.rd,room_w hR hs]
  cases hc:decide ((R:Int) - (Fw.sz d.seen:Int)<((b.length:Nat):Int)) with
  | true=>exact⟨rfl,h.mono (Nat.le_succ _)⟩
  | false=>
   have hc:=of_decide_eq_false hc
   have h1:Fw.sz (ap (.disk_add_1 n b) d.seen)≤R:=by rw [sz_add]; omega
   rw [bif_f rfl,bif_f rfl,e_cln (by omega),Option.bind_some]
   unfold m_disk_add
   rw [Option.bind_some,e_done h hR2 hN (c:=⟨.disk_add_1 n b,n,b⟩) h1 trivial]
   exact⟨rfl,h.done (c:=⟨.disk_add_1 n b,n,b⟩) h1 trivial ⟨rfl,rfl⟩⟩
theorem e_There(n:ByteArray):m_disk_Disk_there d n=some (dThere d n):=by
 unfold m_disk_Disk_there dThere
 rw [e_right,Option.bind_some]
 simp only [List.all_cons,List.all_nil,Bool.and_true]
 cases okn n <;> cases (mget n d.seen).isSome <;> rfl
theorem there_r(n:ByteArray):i64b (dThere d n)=true:=by
 unfold dThere
 cases okn n <;> cases (mget n d.seen).isSome <;> decide
theorem there_0{n:ByteArray}(h:(dThere d n != 0)=false):okn n=true∧(mget n d.seen).isSome=true:=by
 unfold dThere at h
 cases h1:okn n <;> cases h2:(mget n d.seen).isSome <;> rw [h1,h2] at h <;> first | exact⟨rfl,rfl⟩ | exact absurd h (by decide)
theorem there_t{n:ByteArray}(h:okn n=true)(h2:(mget n d.seen).isSome=true):dThere d n=0:=by
 unfold dThere; rw [h,h2]; rfl
theorem e_Cut1(h:DI R N d)(hR:R≤MX)(hN:N+1≤lim)(n:ByteArray)(k:Int):m_disk_Disk_Cut d n k=some (dCut d n k)∧DI R (N+1) (dCut d n k).1:=by
 have hs:=h.sz
 unfold m_disk_Disk_Cut dCut
 rw [e_There,Option.bind_some]
 cases ht:dThere d n != 0 with
 | true=>rw [bif_t rfl,bif_t rfl,chk_t (there_r n)]; exact⟨rfl,h.mono (Nat.le_succ _)⟩
 | false=>
  rw [bif_f rfl,bif_f rfl]
  cases hc:decide (k<0)||decide (((((mget n d.seen).getD []).length:Nat):Int)<k) with
  | true=>exact⟨rfl,h.mono (Nat.le_succ _)⟩
  | false=>
   simp only [Bool.or_eq_false_iff,decide_eq_false_iff_not] at hc
   have h1:Fw.sz (ap (.disk_Disk_Cut_1 n k) d.seen)≤R:=Nat.le_trans (sz_cut (n:=n) (k:=k)) hs
   have h2:okc (.disk_Disk_Cut_1 n k) d.seen:=⟨(there_0 ht).2,by omega,by omega⟩
   rw [bif_f rfl,bif_f rfl,e_done h (MX_lim hR) hN (c:=⟨.disk_Disk_Cut_1 n k,ByteArray.empty,[]⟩) h1 h2]
   exact⟨rfl,h.done (c:=⟨.disk_Disk_Cut_1 n k,ByteArray.empty,[]⟩) h1 h2 rfl⟩
theorem e_Rem(h:DI R N d)(hR:R≤MX)(hN:N+1≤lim)(n:ByteArray):m_disk_Disk_Remove d n=some (dRem d n)∧DI R (N+1) (dRem d n).1:=by
 have hs:=h.sz
 unfold m_disk_Disk_Remove dRem
 rw [e_There,Option.bind_some]
 cases ht:dThere d n != 0 with
 | true=>rw [bif_t rfl,bif_t rfl,chk_t (there_r n)]; exact⟨rfl,h.mono (Nat.le_succ _)⟩
 | false=>
  have h1:Fw.sz (ap (.disk_Disk_Remove_1 n) d.seen)≤R:=Nat.le_trans (sz_rem (a:=n)) hs
  have h2:okc (.disk_Disk_Remove_1 n) d.seen:=(there_0 ht).2
  rw [bif_f rfl,bif_f rfl,e_done h (MX_lim hR) hN (c:=⟨.disk_Disk_Remove_1 n,ByteArray.empty,[]⟩) h1 h2]
  exact⟨rfl,h.done (c:=⟨.disk_Disk_Remove_1 n,ByteArray.empty,[]⟩) h1 h2 rfl⟩
def dSync(d:Dk):Dk:=⟨d.room,d.seen,d.seen,[]⟩
theorem e_Sync:m_disk_Disk_Sync d=some (dSync d):=rfl
theorem DI.sync(h:DI R N d):DI R N (dSync d):=DI.clean h.rd h.nk h.sz h.ln
theorem e_Rd(h:DI R N d)(hR:R≤MX)(n:ByteArray):m_disk_Disk_Read d n=some ((mget n d.seen).getD [],(mget n d.seen).isSome):=by
 unfold m_disk_Disk_Read
 rw [e_cln (Nat.le_trans sz_get (Nat.le_trans h.sz (MX_lim hR)))]; rfl
theorem e_Names(h:DI R N d)(hN:N≤lim):m_disk_Disk_Names d=some (skeys d.seen):=by
 unfold m_disk_Disk_Names
 have:=h.ln
 rw [chk_t (by simp; omega)]
theorem len_mput_v{κ α:Type}[DecidableEq κ]{x:κ}{v w:α}:∀{es:List (κ×α)},(mput x v es).length=(mput x w es).length
 | []=>rfl
 | p::es=>by
  unfold mput
  split
  ·rfl
  ·exact congrArg (· + 1) (len_mput_v (x:=x) (v:=v) (w:=w) (es:=es))
def cK(d:Dk)(keep:Int):Nat:=(min (max keep 0) ((d.loose.length:Nat):Int)).toNat
def cT(d:Dk)(k:Nat)(torn:Int):Bool:=decide (k<d.loose.length)&&(decide (0<torn)&&decide (0<(gt d.loose k).tail.length))
def crashM(d:Dk)(keep torn:Int):Mp:=
 bif cT d (cK d keep) torn then ap (.disk_add_1 (gt d.loose (cK d keep)).name ((gt d.loose (cK d keep)).tail.take torn.toNat)) (run (d.loose.take (cK d keep)) d.safe_) else run (d.loose.take (cK d keep)) d.safe_
def dCrash(d:Dk)(keep torn:Int):Dk:=⟨d.room,crashM d keep torn,crashM d keep torn,[]⟩
theorem cK_eq(keep:Int):min (max keep 0) ((d.loose.length:Nat):Int)=((cK d keep:Nat):Int):=by unfold cK; omega
theorem cK_le(keep:Int):cK d keep≤d.loose.length:=by unfold cK; omega
theorem torn_add(h:DI R N d){k:Nat}{torn:Int}(hc:cT d k torn=true):k<d.loose.length∧0<torn∧(gt d.loose k).do_ = .disk_add_1 (gt d.loose k).name (gt d.loose k).tail:=by
 unfold cT at hc
 simp only [Bool.and_eq_true,decide_eq_true_eq] at hc
 obtain⟨h1,h2,h3⟩:=hc
 have htl:=h.tls k h1
 unfold Tl at htl
 cases hd:(gt d.loose k).do_ with
 | disk_add_1 n b=>
  rw [hd] at htl
  simp only at htl
  exact⟨h1,h2,by rw [htl.1,htl.2]⟩
 | disk_Disk_Remove_1 a=>rw [hd] at htl; simp only at htl; rw [htl] at h3; exact absurd h3 (Nat.lt_irrefl 0)
 | disk_Disk_Cut_1 a k'=>rw [hd] at htl; simp only at htl; rw [htl] at h3; exact absurd h3 (Nat.lt_irrefl 0)
theorem torn_sz(h:DI R N d){k:Nat}{torn:Int}(hc:cT d k torn=true):Fw.sz (ap (.disk_add_1 (gt d.loose k).name ((gt d.loose k).tail.take torn.toNat)) (run (d.loose.take k) d.safe_))≤R ∧
  (ap (.disk_add_1 (gt d.loose k).name ((gt d.loose k).tail.take torn.toNat)) (run (d.loose.take k) d.safe_)).length≤N:=by
 obtain⟨h1,_,h2⟩:=torn_add h hc
 have s1:=h.szs (k+1) h1
 have l1:=h.lns (k+1) h1
 rw [run_take h1,h2] at s1 l1
 rw [sz_add] at s1 ⊢
 refine⟨?_,?_⟩
 ·rw [List.length_take]; omega
 ·exact Nat.le_trans (Nat.le_of_eq len_mput_v) l1
theorem DI.crash(h:DI R N d)(keep torn:Int):DI R N (dCrash d keep torn):=by
 unfold dCrash
 have:NK (crashM d keep torn)∧Fw.sz (crashM d keep torn)≤R∧(crashM d keep torn).length≤N:=by
  unfold crashM
  cases hc:cT d (cK d keep) torn with
  | true=>simp only [cond_true]; exact⟨ap_nk (run_nk h.nks),torn_sz h hc⟩
  | false=>simp only [cond_false]; exact⟨run_nk h.nks,h.szs _ (cK_le keep),h.lns _ (cK_le keep)⟩
 exact DI.clean h.rd this.1 this.2.1 this.2.2
theorem e_Crash(h:DI R N d)(hR:R≤MX)(keep torn:Int):m_disk_Disk_Crash d keep torn=some (dCrash d keep torn):=by
 have hle:=cK_le (d:=d) keep
 unfold m_disk_Disk_Crash
 simp only [cK_eq,Int.toNat_natCast]
 rw [chk_t (by simp [inle]; omega)]
 refine forI_run (λi x=>x=run (d.loose.take i) d.safe_) (λx hx=>?_) (λf i x hi hx hf=>?_) rfl
 ·rw [List.length_take,Nat.min_eq_left hle] at hx
  subst hx
  unfold dCrash crashM m_disk_Disk_Crash_j2
  by_cases hk:cK d keep<d.loose.length
  ·rw [bif_t (by simpa using hk),chk_t (by simp [inb]; omega)]
   have hct:decide (0<min (max torn 0) (((gt d.loose (cK d keep)).tail.length:Nat):Int))=cT d (cK d keep) torn:=by
    unfold cT
    rw [Bool.eq_iff_iff]
    simp only [Bool.and_eq_true,decide_eq_true_eq]
    omega
   rw [hct]
   cases hc:cT d (cK d keep) torn with
   | false=>rfl
   | true=>
    obtain⟨_,ht,_⟩:=torn_add h hc
    have htk:List.take (min (max torn 0) (((gt d.loose (cK d keep)).tail.length:Nat):Int)).toNat (gt d.loose (cK d keep)).tail=(gt d.loose (cK d keep)).tail.take torn.toNat:=by
     rw [List.take_eq_take_iff]; omega
    unfold m_disk_add
    rw [bif_t rfl,chk_t (by simp [inle]; omega),Option.bind_some,htk,e_chg (c:=.disk_add_1 _ _) trivial (Nat.le_trans (torn_sz h hc).1 (MX_lim hR))]; rfl
  ·rw [bif_f (by simpa using hk)]
   have:cT d (cK d keep) torn=false:=by unfold cT; simp [hk]
   rw [this]; rfl
 ·subst hx
  rw [List.length_take,Nat.min_eq_left hle] at hi
  have hg:gt (d.loose.take (cK d keep)) i=gt d.loose i:=by
   rw [gt_eq (by rw [List.length_take]; omega),gt_eq (by omega),List.getElem_take]
  unfold m_disk_Disk_Crash_b1
  have hz:=h.szs (i+1) (by omega)
  rw [run_take (by omega)] at hz
  rw [hg,e_chg (h.oks i (by omega)) (Nat.le_trans hz (MX_lim hR)),Option.bind_some]
  exact hf _ (by rw [run_take (by omega)])
end
def rm(room:Int):Nat:=(min (max room 0) 1073741824).toNat
theorem rm_le(room:Int):rm room≤MX:=by unfold rm MX; omega
def d0(room:Int):Dk:=⟨(rm room:Int),[],[],[]⟩
theorem e_New(room:Int):m_disk_New room=some (d0 room):=by
 unfold m_disk_New d0 rm
 rw [show (((min (max room 0) 1073741824).toNat:Nat):Int)=min (max room 0) 1073741824 by omega]
theorem di0(room:Int):DI (rm room) 0 (d0 room):=DI.clean rfl NK.nil (Nat.zero_le _) (Nat.zero_le _)
theorem all_rk(l:List UInt8):Rk (allB l).1:=by
 have key:∀(n:Nat) (l:List UInt8),l.length≤n→Rk (allB l).1:=by
  intro n
  induction n with
  | zero=>
   intro l h
   have:l = []:=List.eq_nil_of_length_eq_zero (by omega)
   subst this
   intro x hx; cases hx
  | succ n ih=>
   intro l h
   rw [allB_eq]
   split
   ·intro x hx; cases hx
   ·split
    ·intro x hx; cases hx
    ·rename_i he
     have hk:=next_ok (l:=l) (by simpa using he)
     intro x hx
     rcases List.mem_cons.1 hx with e | hx
     ·rw [e]; exact hk.2.2
     ·exact ih (l.drop (nextF l).2.1) (by rw [List.length_drop]; omega) x hx
 exact key l.length l (Nat.le_refl _)
def holdF:Nat→List (List UInt8)→Option Nat
 | g,[]=>some g
 | g,x::l=>if (numF 0 0 x).2.2≠0∨(numF 0 0 x).2.1≠x.length∨(numF 0 0 x).1<1∨999999<(numF 0 0 x).1 then none else holdF (numF 0 0 x).1 l
def holdR(at_:Nat):Option Nat→Int×Int×Int
 | some g=>((g:Int),(at_:Int),0)
 | none=>(0,0,2)
theorem holds_loop{at_:Nat}:∀(l:List (List UInt8)) (i g:Nat),Rk l→g≤999999→forI m_seglog_place_holds_b1 (λgen_33=>chk (i64b gen_33) (some (gen_33,(at_:Int),0))) i l (g:Int)=some (holdR at_ (holdF g l))
 | [],i,g,_,hg=>by
  show chk (i64b (g:Int)) (some ((g:Int),(at_:Int),0))=_
  rw [chk_t (by unfold i64b; simp; omega)]; rfl
 | x::l,i,g,hr,hg=>by
  have hx:=hr x List.mem_cons_self
  rw [forI]
  show Option.bind (m_num_Num x 0) (λz44=>bif ((((z44.2.2 != 0)||(z44.2.1 != ((x.length:Nat):Int)))||(decide (z44.1<1)))||(decide (999999<z44.1))) then some (0,0,2) else forI m_seglog_place_holds_b1 (λgen_33=>chk (i64b gen_33) (some (gen_33,(at_:Int),0))) (i+1) l z44.1)=_
  have e:=e_Num (b:=x) (at_:=0) (by rw [lim_eq]; omega) (Nat.zero_le _)
  rw [show ((0:Nat):Int)=0 from rfl,List.drop_zero] at e
  rw [e,Option.bind_some]
  unfold holdF numR
  generalize numF 0 0 x=r
  obtain⟨n,k,er⟩:=r
  simp only [Nat.zero_add]
  by_cases hc:er≠0∨k≠x.length∨n<1∨999999<n
  ·rw [if_pos hc,bif_t ?_]; rfl
   simp only [Bool.or_eq_true,bne_iff_ne,decide_eq_true_eq]
   rcases hc with h | h | h | h
   ·exact .inl (.inl (.inl h))
   ·by_cases he:er=0
    ·rw [if_pos he]; exact .inl (.inl (.inr (by omega)))
    ·exact .inl (.inl (.inl he))
   ·exact .inl (.inr (by omega))
   ·exact .inr (by omega)
  ·rw [if_neg hc]
   have h1:er=0:=Classical.byContradiction λh=>hc (.inl h)
   have h2:k=x.length:=Classical.byContradiction λh=>hc (.inr (.inl h))
   have h3:¬ n<1:=λh=>hc (.inr (.inr (.inl h)))
   have h4:¬ 999999<n:=λh=>hc (.inr (.inr (.inr h)))
   rw [if_pos h1,bif_f ?_]
   ·exact holds_loop l (i+1) n (λy hy=>hr y (List.mem_cons_of_mem _ hy)) (by omega)
   ·simp only [Bool.or_eq_false_iff,bne_eq_false_iff_eq,decide_eq_false_iff_not]
    exact⟨⟨⟨h1,by omega⟩,by omega⟩,by omega⟩
section
variable {R N:Nat} {d:Dk}
def fb(d:Dk)(f:ByteArray):List UInt8:=(mget f d.seen).getD []
theorem fb_len(h:DI R N d)(hR:R≤MX)(f:ByteArray):(fb d f).length≤lim:=Nat.le_trans sz_get (Nat.le_trans h.sz (MX_lim hR))
theorem e_holds(h:DI R N d)(hR:R≤MX){nm:ByteArray}(hn:Nm nm)(p2:Int):m_seglog_place_holds nm p2 d=some (holdR (allB (fb d (mn nm))).2.1 (holdF 0 (allB (fb d (mn nm))).1)):=by
 unfold m_seglog_place_holds
 have hs:=mn_size hn
 rw [e_list,Option.bind_some,chk_t (by rw [lim_eq,decide_eq_true_eq]; omega),e_Rd h hR,Option.bind_some]
 obtain⟨e,he⟩:=e_All (fb_len h hR (mn nm))
 unfold fb at he ⊢
 simp only
 rw [he,Option.bind_some]
 exact holds_loop _ 0 0 (all_rk _) (by omega)
def dShort(d:Dk)(f:ByteArray)(n:Nat):Dk:=if n<(fb d f).length then (dCut d f (n:Int)).1 else d
theorem e_short(h:DI R N d)(hR:R≤MX)(hN:N+1≤lim)(p1:ByteArray)(p2:Int)(f:ByteArray)(n:Nat):m_seglog_place_shorten p1 p2 f (n:Int) d=some (dShort d f n)∧DI R (N+1) (dShort d f n):=by
 unfold m_seglog_place_shorten dShort
 rw [e_Rd h hR,Option.bind_some]
 simp only
 obtain⟨a,b⟩:=e_Cut1 h hR hN f (n:Int)
 by_cases hc:n<(fb d f).length
 ·rw [if_pos hc,bif_t (by rw [decide_eq_true_eq]; unfold fb at hc; omega),a]
  exact⟨rfl,b⟩
 ·rw [if_neg hc,bif_f (by rw [decide_eq_false_iff_not]; unfold fb at hc; omega)]
  exact⟨rfl,h.mono (Nat.le_succ _)⟩
theorem short_no{f:ByteArray}{n:Nat}(h:(fb d f).length≤n):dShort d f n=d:=by unfold dShort; rw [if_neg (by omega)]
theorem short_seen{f:ByteArray}{n:Nat}(hf:okn f=true)(h:n<(fb d f).length):(dShort d f n).seen=mput f ((fb d f).take n) d.seen∧(dShort d f n).loose.length=d.loose.length+1:=by
 have hp:(mget f d.seen).isSome=true:=by
  unfold fb at h
  cases hm:mget f d.seen with
  | none=>rw [hm] at h; exact absurd h (Nat.not_lt_zero _)
  | some v=>rfl
 unfold dShort
 rw [if_pos h]
 unfold dCut
 rw [there_t hf hp,bif_f (by decide),bif_f (by unfold fb at h; simp; omega)]
 exact⟨rfl,by show (d.loose++[_]).length=_; simp⟩
def remL(d:Dk)(l:List ByteArray):Dk:=l.foldl (λd f=>(dRem d f).1) d
def chosen(nm:ByteArray)(q:Int→Int→Bool)(es:Mp):List ByteArray:=(skeys es).filter λf=>(pf nm f).any λx=>q x.1 x.2
theorem remove_loop{R:Nat}(hR:R≤MX):∀(l:List ByteArray) (i N:Nat) (d:Dk),DI R N d→N+l.length≤lim→forI m_seglog_remove_b1 some i l d=some (remL d l)∧DI R (N+l.length) (remL d l)
 | [],_,_,d,h,_=>⟨rfl,h⟩
 | f::l,i,N,d,h,hN=>by
  simp only [List.length_cons] at hN
  obtain⟨a,b⟩:=e_Rem h hR (by omega) f
  rw [forI]
  show Option.bind (m_disk_Disk_Remove d f) (λz=>forI m_seglog_remove_b1 some (i+1) l z.1)=_∧_
  rw [a,Option.bind_some]
  obtain⟨a2,b2⟩:=remove_loop hR l (i+1) (N+1) _ b (by omega)
  exact⟨a2,by rw [List.length_cons,show N+(l.length+1)=N+1+l.length by omega]; exact b2⟩
theorem parts_loop{nm:ByteArray}(h:nm.size≤2){pred:Int→Int→Option Bool}{q:Int→Int→Bool}(hq:∀a b,pred a b=some (q a b)):∀(l:List ByteArray) (i:Nat) (o:List ByteArray),(∀f∈l,f.size≤lim)→o.length+l.length≤lim →
  forI (m_seglog_place_parts_1_b1 (m_seglog_parts_y pred) nm) (λo13=>some o13) i l o=some (o++l.filter λf=>(pf nm f).any λx=>q x.1 x.2)
 | [],_,o,_,_=>by simp [forI]
 | f::l,i,o,hf,ho=>by
  simp only [List.length_cons] at ho
  rw [forI,parts_step h (hf f List.mem_cons_self) hq _ _ _ (by omega)]
  rw [parts_loop h hq l (i+1) _ (λg hg=>hf g (List.mem_cons_of_mem _ hg)) (by split <;> simp <;> omega)]
  by_cases hc:(pf nm f).any (λx=>q x.1 x.2)=true
  ·rw [if_pos hc,List.filter_cons_of_pos (by simpa using hc)]; simp
  ·rw [if_neg hc,List.filter_cons_of_neg (by simpa using hc)]; simp
def Ks(es:Mp):Prop := ∀k,(mget k es).isSome=true→okn k=true
theorem e_remove(h:DI R N d)(hR:R≤MX)(hN:N+N≤lim){nm:ByteArray}(hn:nm.size≤2)(hk:Ks d.seen){pred:Int→Int→Option Bool}{q:Int→Int→Bool}(hq:∀a b,pred a b=some (q a b))(g:Int):
  m_seglog_place_remove d nm g pred=some (remL d (chosen nm q d.seen))∧DI R (N+N) (remL d (chosen nm q d.seen)):=by
 have hln:=h.ln
 have hlen:(chosen nm q d.seen).length≤N:=Nat.le_trans (List.length_filter_le _ _) (by rw [skeys_len]; exact hln)
 have hkl:∀f∈skeys d.seen,f.size≤lim:=λf hf=>by
  have:=hk f (mget_isSome.2 (mem_skeys.1 hf))
  unfold okn at this
  simp only [Bool.and_eq_true,decide_eq_true_eq] at this
  rw [lim_eq]; omega
 unfold m_seglog_place_remove m_seglog_place_parts_1
 rw [e_Names h (by omega),Option.bind_some]
 have hp:=parts_loop hn hq (skeys d.seen) 0 [] hkl (by rw [skeys_len]; simp; omega)
 rw [List.nil_append] at hp
 show Option.bind (forI (m_seglog_place_parts_1_b1 (m_seglog_parts_y pred) nm) (λo13=>some o13) 0 (skeys d.seen) []) (λl=>forI m_seglog_remove_b1 some 0 l d)=_∧_
 rw [hp,Option.bind_some]
 obtain⟨a,b⟩:=remove_loop hR (chosen nm q d.seen) 0 N d h (by omega)
 exact⟨a,b.mono (by omega)⟩
theorem rem_seen{f:ByteArray}(hf:okn f=true)(hp:(mget f d.seen).isSome=true):(dRem d f).1.seen=mdel f d.seen∧(dRem d f).1.loose.length=d.loose.length+1:=by
 unfold dRem
 rw [there_t hf hp,bif_f (by decide)]
 exact⟨rfl,by show (d.loose++[_]).length=_; simp⟩
theorem remL_seen:∀(l:List ByteArray) (d:Dk),NK d.seen→l.Nodup→(∀f∈l,okn f=true∧(mget f d.seen).isSome=true)→(∀k,mget k (remL d l).seen=if k∈l then none else mget k d.seen)∧(remL d l).loose.length=d.loose.length+l.length
 | [],d,_,_,_=>⟨λk=>by rw [if_neg (by simp)]; rfl,rfl⟩
 | f::l,d,hn,hd,hl=>by
  rw [List.nodup_cons] at hd
  obtain⟨h1,h2⟩:=hl f List.mem_cons_self
  obtain⟨s1,s2⟩:=rem_seen h1 h2
  have hn2:NK (dRem d f).1.seen:=by rw [s1]; exact hn.del
  have hl2:∀g∈l,okn g=true∧(mget g (dRem d f).1.seen).isSome=true:=λg hg=>by
   obtain⟨a,b⟩:=hl g (List.mem_cons_of_mem _ hg)
   refine⟨a,?_⟩
   rw [s1,mget_mdel hn,if_neg (show ¬ g=f from λe=>hd.1 (e▸hg))]; exact b
  obtain⟨r1,r2⟩:=remL_seen l (dRem d f).1 hn2 hd.2 hl2
  refine⟨λk=>?_,?_⟩
  ·show mget k (remL (dRem d f).1 l).seen=_
   rw [r1 k,s1,mget_mdel hn]
   by_cases hk:k∈l
   ·rw [if_pos hk,if_pos (List.mem_cons_of_mem _ hk)]
   ·rw [if_neg hk]
    by_cases hf:k=f
    ·rw [if_pos hf,if_pos (hf▸List.mem_cons_self)]
    ·rw [if_neg hf,if_neg (by simp [hf,hk])]
  ·show (remL (dRem d f).1 l).loose.length=_
   rw [r2,s2,List.length_cons]; omega
theorem chosen_nd{nm:ByteArray}{q:Int→Int→Bool}{es:Mp}(hn:NK es):(chosen nm q es).Nodup:=(skeys_nd hn).filter _
theorem mem_chosen{nm:ByteArray}{q:Int→Int→Bool}{es:Mp}{k:ByteArray}:k∈chosen nm q es↔(mget k es).isSome=true∧(pf nm k).any (λx=>q x.1 x.2)=true:=by
 unfold chosen
 rw [List.mem_filter,mem_skeys,mget_isSome]
theorem removed{nm:ByteArray}{q:Int→Int→Bool}(h:DI R N d)(hk:Ks d.seen):(∀k,mget k (remL d (chosen nm q d.seen)).seen=if (pf nm k).any (λx=>q x.1 x.2)=true then none else mget k d.seen) ∧
  (remL d (chosen nm q d.seen)).loose.length=d.loose.length+(chosen nm q d.seen).length:=by
 obtain⟨a,b⟩:=remL_seen (chosen nm q d.seen) d h.nk (chosen_nd h.nk) λf hf=>by
  have:=(mem_chosen.1 hf).1
  exact⟨hk f this,this⟩
 refine⟨λk=>?_,b⟩
 rw [a k]
 by_cases hc:(pf nm k).any (λx=>q x.1 x.2)=true
 ·rw [if_pos hc]
  split
  ·rfl
  ·rename_i hm
   cases hs:mget k d.seen with
   | none=>rfl
   | some v=>exact absurd (mem_chosen.2 ⟨by rw [hs]; rfl,hc⟩) hm
 ·rw [if_neg hc,if_neg (λhm=>hc (mem_chosen.1 hm).2)]
end
abbrev Bs:=List (List UInt8)
def tot(bs:Bs):Nat:=(bs.map List.length).sum
def lastP(bs:Bs):List UInt8:=bs.getLastD []
theorem tot_app(a b:Bs):tot (a++b)=tot a+tot b:=by simp [tot]
theorem tot_cons(a:List UInt8)(b:Bs):tot (a::b)=a.length+tot b:=by simp [tot]
theorem lastP_snoc(a:Bs)(b:List UInt8):lastP (a++[b])=b:=by simp [lastP]
theorem last_le(bs:Bs):(lastP bs).length≤tot bs:=by
 rcases List.eq_nil_or_concat bs with h | ⟨l,b,h⟩
 ·rw [h]; exact Nat.le_refl _
 ·rw [h,List.concat_eq_append,lastP_snoc,tot_app,tot_cons]; omega
def lg(nm:ByteArray)(g:Nat)(size:Int)(bs:Bs)(cnt:Nat):Oseglog_Log:=⟨nm,(g:Int),size,(bs.length:Int),((lastP bs).length:Int),(cnt:Int),(tot bs:Int)⟩
def Has(nm:ByteArray)(g:Nat)(bs:Bs)(es:Mp):Prop:=bs.length≤999999∧∀k,1≤k→k≤999999→mget (fn nm g k) es=bs[k - 1]?
theorem sz_keys:∀(ks:List ByteArray) (es:Mp),NK es→ks.Nodup→(ks.map λk=>((mget k es).getD []).length).sum≤sz es
 | [],_,_,_=>Nat.zero_le _
 | k::ks,es,hn,hd=>by
  rw [List.nodup_cons] at hd
  have ih:=sz_keys ks (mdel k es) hn.del hd.2
  have hs:=sz_del (x:=k) (es:=es)
  have:(ks.map λj=>((mget j (mdel k es)).getD []).length)=ks.map λj=>((mget j es).getD []).length:=by
   apply List.map_congr_left
   intro j hj
   rw [mget_mdel hn,if_neg (show ¬ j=k from λe=>hd.1 (e▸hj))]
  rw [this] at ih
  simp only [List.map_cons,List.sum_cons]
  omega
theorem Has.sz{nm:ByteArray}{g:Nat}{bs:Bs}{es:Mp}(h:Has nm g bs es)(hnm:Nm nm)(hn:NK es):tot bs≤Fw.sz es:=by
 have h1:=sz_keys ((List.range bs.length).map λj=>fn nm g (j+1)) es hn (by
  refine List.Pairwise.map _ (R:=λa b=>a≠b) (λa b hab e=>hab ?_) List.nodup_range
  have:=(fn_inj hnm hnm e).2.2; omega)
 rw [List.map_map] at h1
 refine Nat.le_trans (Nat.le_of_eq ?_) h1
 unfold tot
 congr 1
 apply List.ext_getElem
 ·simp
 ·intro i h2 h3
  simp only [List.length_map] at h2
  simp only [List.getElem_map,List.getElem_range,Function.comp]
  rw [h.2 (i+1) (by omega) (by have:=h.1; omega),Nat.add_sub_cancel,List.getElem?_eq_getElem h2]; rfl
def scanF:Bs→Bs×Bs
 | []=>([],[])
 | b::t=>if (allB b).2.1=b.length then ((allB b).1++(scanF t).1,b::(scanF t).2) else ((allB b).1,[b.take (allB b).2.1])
theorem scan_tot:∀bs:Bs,tot (scanF bs).2≤tot bs∧(scanF bs).1.length≤tot bs∧(scanF bs).2.length≤bs.length
 | []=>⟨Nat.le_refl _,Nat.le_refl _,Nat.le_refl _⟩
 | b::t=>by
  have ih:=scan_tot t
  have ha:=all_len b
  unfold scanF
  split
  ·simp only [tot_cons,List.length_append,List.length_cons]; omega
  ·simp only [tot_cons,List.length_cons,List.length_nil,List.length_take]
   have:tot ([]:Bs)=0:=rfl
   omega
section
variable {R N:Nat} {d:Dk}
theorem short_file{f:ByteArray}{n:Nat}(hf:okn f=true)(h:n<(fb d f).length)(k:ByteArray):mget k (dShort d f n).seen=if k=f then some ((fb d f).take n) else mget k d.seen:=by
 rw [(short_seen hf h).1,mget_mput]
theorem okn_fn{nm:ByteArray}(hnm:Nm nm){g k:Nat}(hg:g≤999999)(hk:k≤999999):okn (fn nm g k)=true:=by
 have:=fn_size hnm hg hk
 unfold okn
 simp only [Bool.and_eq_true,decide_eq_true_eq]; omega
theorem scan_loop(h:DI R N d)(hR:R≤MX)(hN:N+1≤lim){nm:ByteArray}(hnm:Nm nm){g:Nat}(hg:g≤999999){size:Int}{bs:Bs}(hb:Has nm g bs d.seen):∀(t pre:Bs) (out:Bs) (F:Nat),bs=pre++t→out.length+tot t≤R→tot pre+tot t≤R →
  ∃d',loopN m_seglog_Log_scan_b3 (F+t.length+1) (out,true,(⟨nm,(g:Int),size,(pre.length:Int),((lastP pre).length:Int),0,(tot pre:Int)⟩:Oseglog_Log),d)=some (lg nm g size (pre++(scanF t).2) (out++(scanF t).1).length,d',out++(scanF t).1)∧DI R (N+1) d' ∧
   ((scanF t).2=t∧d'=d∨0<(scanF t).2.length∧(∀k,mget k d'.seen=if k=fn nm g (pre.length+(scanF t).2.length) then some (lastP (scanF t).2) else mget k d.seen)∧d'.loose.length=d.loose.length+1∧(scanF t).2≠t):=by
 intro t
 induction t with
 | nil=>
  intro pre out F hbs ho htot
  rw [List.append_nil] at hbs
  have hl:=hb.1
  rw [hbs] at hl
  refine⟨d,?_,h.mono (Nat.le_succ _),.inl ⟨rfl,rfl⟩⟩
  rw [loopN_s]
  generalize loopN m_seglog_Log_scan_b3 (F+([]:Bs).length)=f
  unfold m_seglog_Log_scan_b3 m_seglog_Log_scan_j1
  simp only [Bool.true_and]
  by_cases hlt:pre.length<999999
  ·have hm:=hb.2 (pre.length+1) (by omega) (by omega)
   rw [hbs,Nat.add_sub_cancel,List.getElem?_eq_none (Nat.le_refl _)] at hm
   have hsz:=fn_size hnm hg (show pre.length+1≤999999 by omega)
   rw [bif_t (by rw [decide_eq_true_eq]; omega),w64_i (by unfold I64; omega),show (pre.length:Int)+1=((pre.length+1:Nat):Int) by omega,e_file hnm hg (by omega),Option.bind_some,chk_t (by rw [lim_eq,decide_eq_true_eq]; omega),e_Rd h hR,Option.bind_some,hm,bif_t (by rfl)]
   simp [scanF,lg]
  ·rw [bif_f (by rw [decide_eq_false_iff_not]; omega)]
   simp [scanF,lg]
 | cons b t ih=>
  intro pre out F hbs ho htot
  have hl:=hb.1
  rw [hbs,List.length_append,List.length_cons] at hl
  have hm:=hb.2 (pre.length+1) (by omega) (by omega)
  rw [hbs,Nat.add_sub_cancel,List.getElem?_append_right (Nat.le_refl _),Nat.sub_self] at hm
  have hm:mget (fn nm g (pre.length+1)) d.seen=some b:=hm
  have hfb:fb d (fn nm g (pre.length+1))=b:=by unfold fb; rw [hm]; rfl
  have hsz:=fn_size hnm hg (show pre.length+1≤999999 by omega)
  have hbl:b.length≤lim:=by have:=fb_len h hR (fn nm g (pre.length+1)); rwa [hfb] at this
  obtain⟨e,he⟩:=e_All hbl
  have ha:=all_len b
  rw [tot_cons] at ho htot
  have hRv:R≤1073741824:=hR
  obtain⟨s1,s2⟩:=e_short h hR hN nm (g:Int) (fn nm g (pre.length+1)) (allB b).2.1
  rw [show F+(b::t).length+1=(F+t.length+1)+1 by simp; omega,loopN_s]
  generalize hf:loopN m_seglog_Log_scan_b3 (F+t.length+1)=f
  unfold m_seglog_Log_scan_b3
  simp only [Bool.true_and]
  rw [bif_t (by rw [decide_eq_true_eq]; omega),w64_i (x:=(pre.length:Int)+1) (by unfold I64; omega),show (pre.length:Int)+1=((pre.length+1:Nat):Int) by omega,e_file hnm hg (by omega),Option.bind_some,chk_t (by rw [lim_eq,decide_eq_true_eq]; omega),e_Rd h hR,Option.bind_some,hm]
  simp only [Option.isSome_some,Option.getD_some,Bool.not_true]
  rw [bif_f rfl,he,Option.bind_some]
  simp only
  rw [s1,Option.bind_some,chk_t (by rw [lim_eq,decide_eq_true_eq]; omega),w64_i (by unfold I64; omega)]
  unfold scanF
  by_cases hw:(allB b).2.1=b.length
  ·rw [if_pos hw]
   have hd:dShort d (fn nm g (pre.length+1)) (allB b).2.1=d:=short_no (by rw [hfb]; omega)
   rw [hd,hw,show (((b.length:Nat):Int)==((b.length:Nat):Int))=true by simp, ← hf]
   obtain⟨d',i1,i2,i3⟩:=ih (pre++[b]) (out++(allB b).1) F (by rw [hbs]; simp) (by simp; omega) (by rw [tot_app,tot_cons]; simp [tot] at htot ⊢; omega)
   refine⟨d',?_,i2,?_⟩
   ·have e1:(⟨nm,(g:Int),size,((pre.length+1:Nat):Int),((b.length:Nat):Int),0,(tot pre:Int)+((b.length:Nat):Int)⟩:Oseglog_Log)=⟨nm,(g:Int),size,((pre++[b]).length:Int),((lastP (pre++[b])).length:Int),0,(tot (pre++[b]):Int)⟩:=by
     rw [lastP_snoc,tot_app,tot_cons]; simp [tot]
    rw [e1,i1]
    simp [List.append_assoc]
   ·rcases i3 with ⟨a1,a2⟩ | ⟨a0,a1,a2⟩
    ·exact .inl ⟨by rw [a1],a2⟩
    ·refine .inr ⟨by simp,λk=>?_,a2.1,λe=>a2.2 (List.cons.inj e).2⟩
     rw [a1 k]
     have e2:(pre++[b]).length+(scanF t).2.length=pre.length+(b::(scanF t).2).length:=by simp; omega
     have e3:lastP (b::(scanF t).2)=lastP (scanF t).2:=by
      cases hq:(scanF t).2 with
      | nil=>rw [hq] at a0; exact absurd a0 (Nat.lt_irrefl 0)
      | cons x l=>simp [lastP]
     rw [e2,e3]
  ·rw [if_neg hw]
   have hlt:(allB b).2.1<(fb d (fn nm g (pre.length+1))).length:=by rw [hfb]; omega
   have hok:=okn_fn hnm hg (show pre.length+1≤999999 by omega)
   refine⟨_,?_,s2,.inr ⟨by simp,λk=>?_,(short_seen hok hlt).2,λe=>?_⟩⟩
   ·rw [show ((((allB b).2.1:Nat):Int)==((b.length:Nat):Int))=false by rw [beq_eq_false_iff_ne]; omega, ← hf,loopN_s]
    generalize loopN m_seglog_Log_scan_b3 (F+t.length)=f2
    unfold m_seglog_Log_scan_b3 m_seglog_Log_scan_j1
    simp only [Bool.false_and]
    rw [bif_f rfl]
    unfold lg
    rw [lastP_snoc,tot_app,tot_cons]
    simp [tot,List.length_take]
    omega
   ·rw [short_file hok hlt k,hfb]
    rfl
   ·have:=congrArg List.length (List.cons.inj e).1
    rw [List.length_take] at this
    omega
theorem e_scan(h:DI R N d)(hR:R≤MX)(hN:N+1≤lim){nm:ByteArray}(hnm:Nm nm){g:Nat}(hg:g≤999999){size:Int}{bs:Bs}(hb:Has nm g bs d.seen):
  ∃d',m_seglog_Log_scan (⟨nm,(g:Int),size,0,0,0,0⟩:Oseglog_Log) d=some (lg nm g size (scanF bs).2 (scanF bs).1.length,d',(scanF bs).1)∧DI R (N+1) d' ∧
   ((scanF bs).2=bs∧d'=d∨0<(scanF bs).2.length∧(∀k,mget k d'.seen=if k=fn nm g (scanF bs).2.length then some (lastP (scanF bs).2) else mget k d.seen)∧d'.loose.length=d.loose.length+1∧(scanF bs).2≠bs):=by
 have h1:=hb.sz hnm h.nk
 have h2:=h.sz
 have h3:=hb.1
 obtain⟨F,hF⟩:∃F,FU=F+bs.length+1:=⟨FU - bs.length - 1,by unfold FU; omega⟩
 have:=scan_loop h hR hN hnm hg (size:=size) hb bs [] [] F rfl (by simp; omega) (by show 0+tot bs≤R; omega)
 unfold m_seglog_Log_scan
 rw [hF]
 simpa [lastP,tot] using this
end
theorem scan_pre:∀(bs:Bs) (i:Nat),i+1<(scanF bs).2.length→(scanF bs).2[i]? = bs[i]?
 | [],i,h=>by simp [scanF] at h
 | b::t,i,h=>by
  unfold scanF at h ⊢
  split
  ·rename_i hc
   rw [if_pos hc] at h
   cases i with
   | zero=>rfl
   | succ i=>
    simp only [List.length_cons] at h
    simp only [List.getElem?_cons_succ]
    exact scan_pre t i (by omega)
  ·rename_i hc
   rw [if_neg hc] at h
   simp at h
theorem last_get{bs:Bs}(h:0<bs.length):bs[bs.length - 1]? = some (lastP bs):=by
 rcases List.eq_nil_or_concat bs with e | ⟨l,b,e⟩
 ·rw [e] at h; exact absurd h (Nat.lt_irrefl 0)
 ·rw [e,List.concat_eq_append,lastP_snoc]; simp
def Own1(nm:ByteArray)(g:Nat)(es:Mp):Prop := ∀k,(mget k es).isSome=true→pf nm k=none∨∃j,1≤j∧j≤999999∧k=fn nm g j
theorem chosen_nil{nm:ByteArray}{q:Int→Int→Bool}{es:Mp}(h:∀k,(mget k es).isSome=true→(pf nm k).any (λx=>q x.1 x.2)=false):chosen nm q es = []:=by
 apply List.eq_nil_iff_forall_not_mem.2
 intro k hk
 obtain⟨a,b⟩:=mem_chosen.1 hk
 rw [h k a] at b; cases b
section
variable {R N:Nat} {d:Dk}
theorem e_Open(h:DI R N d)(hR:R≤MX)(hN:4*N+10≤lim){nm:ByteArray}(hnm:Nm nm)(hk:Ks d.seen)(size:Int){gl:Bs}{e0:Int}{g:Nat}{bs:Bs}(hg:g≤999999)
  (hm:allB (fb d (mn nm))=(gl,(fb d (mn nm)).length,e0)) (hh:holdF 0 gl=some g) (hb:Has nm g bs d.seen) (hx:Own1 nm g d.seen) :
  ∃d',m_seglog_Open d nm size=some (d',some (lg nm g (max size 16) (scanF bs).2 (scanF bs).1.length),(scanF bs).1,0)∧DI R (4*N+10) d'∧Has nm g (scanF bs).2 d'.seen ∧
   (∀k,(∀j,1≤j→j≤999999→k≠fn nm g j)→mget k d'.seen=mget k d.seen)∧(∀k,(mget k d'.seen).isSome=true→(mget k d.seen).isSome=true)∧(d'=d∨d'.loose = [])∧((scanF bs).2=bs→d'=d):=by
 have hlo:=hnm.lo
 have hhi:=hnm.hi
 have hms:=mn_size hnm
 have hsl:=(scan_tot bs).2.2
 have hbl:=hb.1
 unfold m_seglog_Open
 have c1:(decide (((nm.size:Nat):Int)<1)||decide (2<((nm.size:Nat):Int)))=false:=by simp; omega
 rw [c1,show (!false)=true from rfl,nm_nodot hnm]
 unfold gcall
 rw [bif_t rfl,Option.bind_some,show (false||false)=false from rfl,bif_f rfl,e_holds h hR hnm 0,Option.bind_some,hm,hh]
 unfold holdR m_disk_Disk_Loose
 simp only
 rw [bif_f (by decide),Option.bind_some,e_list,Option.bind_some,chk_t (by rw [lim_eq,decide_eq_true_eq]; omega)]
 rw [(e_short h hR (by omega) nm (g:Int) (mn nm) (fb d (mn nm)).length).1,Option.bind_some,short_no (Nat.le_refl _)]
 have q1:chosen nm (λx _=>x != (g:Int)) d.seen = []:=chosen_nil λk hks=>by
  rcases hx k hks with e | ⟨j,j1,j2,e⟩
  ·rw [e]; rfl
  ·rw [e,pf_own ⟨hg,j1,j2⟩]; simp
 have r1:=(e_remove h hR (by omega) (nm:=nm) hhi hk (pred:=λx y=>m_seglog_Open_1 x y (g:Int)) (q:=λx _=>x != (g:Int)) (λa b=>rfl) (g:Int)).1
 rw [q1] at r1
 have r1:m_seglog_place_remove d nm (g:Int) (λx y=>m_seglog_Open_1 x y (g:Int))=some d:=r1
 rw [r1,Option.bind_some]
 obtain⟨d1,s1,s2,s3⟩:=e_scan h hR (by omega) hnm hg (size:=max size 16) hb
 rw [s1,Option.bind_some]
 simp only
 have hk1:Ks d1.seen∧(∀k,(mget k d1.seen).isSome=true→(mget k d.seen).isSome=true)∧(∀k,(∀j,1≤j→j≤999999→k≠fn nm g j)→mget k d1.seen=mget k d.seen):=by
  rcases s3 with ⟨a,b⟩ | ⟨a0,a,b,hne⟩
  ·rw [b]; exact⟨hk,λk hks=>hks,λk _=>rfl⟩
  ·have hin:(mget (fn nm g (scanF bs).2.length) d.seen).isSome=true:=by
    rw [hb.2 _ (by omega) (by omega),List.getElem?_eq_getElem (by omega)]; rfl
   have hsub:∀k,(mget k d1.seen).isSome=true→(mget k d.seen).isSome=true:=λk hks=>by
    rw [a k] at hks
    split at hks
    ·rename_i e; rw [e]; exact hin
    ·exact hks
   exact⟨λk hks=>hk k (hsub k hks),hsub,λk hj=>by rw [a k,if_neg (hj _ (by omega) (by omega))]⟩
 have r2:=e_remove s2 hR (by omega) (nm:=nm) hhi hk1.1 (pred:=λx y=>m_seglog_Open_2 x y (lg nm g (max size 16) (scanF bs).2 (scanF bs).1.length)) (q:=λ_ n=>decide ((((scanF bs).2.length:Nat):Int)<n)) (λa b=>rfl) (g:Int)
 rw [r2.1,Option.bind_some,Option.bind_some]
 have hrem:=removed (nm:=nm) (q:=λ_ n=>decide ((((scanF bs).2.length:Nat):Int)<n)) s2 hk1.1
 have dd:=r2.2
 generalize hD:remL d1 (chosen nm (λ_ n=>decide ((((scanF bs).2.length:Nat):Int)<n)) d1.seen)=D at hrem dd ⊢
 have f1:Has nm g (scanF bs).2 D.seen:=by
  refine⟨by omega,λk k1 k2=>?_⟩
  rw [hrem.1,pf_own ⟨hg,k1,k2⟩]
  simp only [Option.any_some,decide_eq_true_eq]
  by_cases hc:(((scanF bs).2.length:Nat):Int)<(k:Int)
  ·rw [if_pos hc,List.getElem?_eq_none (by omega)]
  ·rw [if_neg hc]
   rcases s3 with ⟨a,b⟩ | ⟨a0,a,b,hne⟩
   ·rw [b,hb.2 k k1 k2,a]
   ·rw [a]
    by_cases hl:k=(scanF bs).2.length
    ·rw [if_pos (by rw [hl]),hl,last_get a0]
    ·rw [if_neg (λe=>hl (fn_inj hnm hnm e).2.2),hb.2 k k1 k2,scan_pre bs (k - 1) (by omega)]
 have f2:∀k,(∀j,1≤j→j≤999999→k≠fn nm g j)→mget k D.seen=mget k d.seen:=λk hj=>by
  rw [hrem.1,hk1.2.2 k hj]
  split
  ·rename_i hc
   cases hs:mget k d.seen with
   | none=>rfl
   | some v=>
    rcases hx k (by rw [hs]; rfl) with e | ⟨j,j1,j2,e⟩
    ·rw [e] at hc; cases hc
    ·exact absurd e (hj j j1 j2)
  ·rfl
 have f3:∀k,(mget k D.seen).isSome=true→(mget k d.seen).isSome=true:=λk hks=>by
  rw [hrem.1] at hks
  split at hks
  ·cases hks
  ·exact hk1.2.1 k hks
 have f4:D=d∨D.loose.length≠d.loose.length:=by
  rcases s3 with ⟨a,b⟩ | ⟨a0,a,b,hne⟩
  ·left
   have q2:chosen nm (λ_ n=>decide ((((scanF bs).2.length:Nat):Int)<n)) d1.seen = []:=chosen_nil λk hks=>by
    rw [b] at hks
    rcases hx k hks with e | ⟨j,j1,j2,e⟩
    ·rw [e]; rfl
    ·rw [e] at hks ⊢
     rw [hb.2 j j1 j2] at hks
     rw [pf_own ⟨hg,j1,j2⟩,a]
     simp only [Option.any_some,decide_eq_false_iff_not]
     intro hlt
     rw [List.getElem?_eq_none (by omega)] at hks; cases hks
   rw [← hD,q2,b]; rfl
  ·right; omega
 have f5:(scanF bs).2=bs→D=d:=λhw=>by
  rcases s3 with ⟨a,b⟩ | ⟨a0,a,b,hne⟩
  ·rcases f4 with e | e
   ·exact e
   ·exfalso
    apply e
    have q2:chosen nm (λ_ n=>decide ((((scanF bs).2.length:Nat):Int)<n)) d1.seen = []:=chosen_nil λk hks=>by
     rw [b] at hks
     rcases hx k hks with e | ⟨j,j1,j2,e⟩
     ·rw [e]; rfl
     ·rw [e] at hks ⊢
      rw [hb.2 j j1 j2] at hks
      rw [pf_own ⟨hg,j1,j2⟩,a]
      simp only [Option.any_some,decide_eq_false_iff_not]
      intro hlt
      rw [List.getElem?_eq_none (by omega)] at hks; cases hks
    rw [← hD,q2,b]; rfl
  ·exact absurd hw hne
 by_cases hz:D.loose.length=d.loose.length
 ·have e:D=d:=f4.elim id (λhc=>absurd hz hc)
  rw [bif_f (by rw [bne_eq_false_iff_eq]; omega)]
  unfold m_seglog_Open_j1
  exact⟨D,rfl,dd.mono (by omega),f1,f2,f3,.inl e,f5⟩
 ·rw [bif_t (by rw [bne_iff_ne]; omega),e_Sync,Option.bind_some]
  unfold m_seglog_Open_j1
  exact⟨dSync D,rfl,(DI.sync dd).mono (by omega),f1,f2,f3,.inr rfl,λhw=>absurd (by rw [f5 hw]) hz⟩
end
def fresh(size:Int)(bs:Bs)(f:List UInt8):Bool:=decide (bs.length=0)||(decide (0<(lastP bs).length)&&decide (size - ((lastP bs).length:Int)<(f.length:Int)))
def addP(size:Int)(bs:Bs)(f:List UInt8):Bs:=bif fresh size bs f then bs++[f] else bs.dropLast++[lastP bs++f]
def pnum(size:Int)(bs:Bs)(f:List UInt8):Nat:=bif fresh size bs f then bs.length+1 else bs.length
theorem snoc_of{bs:Bs}(h:0<bs.length):bs=bs.dropLast++[lastP bs]:=by
 rcases List.eq_nil_or_concat bs with e | ⟨l,b,e⟩
 ·rw [e] at h; exact absurd h (Nat.lt_irrefl 0)
 ·rw [e,List.concat_eq_append,lastP_snoc]; simp
theorem fresh_f{size:Int}{bs:Bs}{f:List UInt8}(h:fresh size bs f=false):0<bs.length:=by
 unfold fresh at h
 simp only [Bool.or_eq_false_iff,decide_eq_false_iff_not] at h
 omega
theorem addP_tot(size:Int)(bs:Bs)(f:List UInt8):tot (addP size bs f)=tot bs+f.length:=by
 unfold addP
 cases h:fresh size bs f with
 | true=>simp [tot]
 | false=>
  conv=>rhs; rw [snoc_of (fresh_f h)]
  simp [tot]; omega
theorem addP_len(size:Int)(bs:Bs)(f:List UInt8):(addP size bs f).length=pnum size bs f:=by
 unfold addP pnum
 cases h:fresh size bs f with
 | true=>simp
 | false=>have:=fresh_f h; simp; omega
theorem addP_last(size:Int)(bs:Bs)(f:List UInt8):lastP (addP size bs f)=(bif fresh size bs f then [] else lastP bs)++f:=by
 unfold addP
 cases h:fresh size bs f with
 | true=>simp [lastP]
 | false=>simp [lastP]
theorem pnum_pos(size:Int)(bs:Bs)(f:List UInt8):1≤pnum size bs f:=by
 unfold pnum
 cases h:fresh size bs f with
 | true=>simp
 | false=>have:=fresh_f h; simp only [cond_false]; omega
theorem pnum_le(size:Int)(bs:Bs)(f:List UInt8):pnum size bs f≤bs.length+1:=by
 unfold pnum
 cases fresh size bs f <;> simp
theorem has_add{nm:ByteArray}{g:Nat}{size:Int}{bs:Bs}{es:Mp}{f:List UInt8}(hnm:Nm nm)(hb:Has nm g bs es)(hp:pnum size bs f≤999999):
  (mget (fn nm g (pnum size bs f)) es).getD []=(bif fresh size bs f then [] else lastP bs)∧Has nm g (addP size bs f) (mput (fn nm g (pnum size bs f)) ((mget (fn nm g (pnum size bs f)) es).getD []++f) es):=by
 have h1:=pnum_pos size bs f
 have hold:(mget (fn nm g (pnum size bs f)) es).getD []=(bif fresh size bs f then [] else lastP bs):=by
  rw [hb.2 _ h1 hp]
  unfold pnum
  cases h:fresh size bs f with
  | true=>simp
  | false=>simp only [cond_false]; rw [last_get (fresh_f h)]; rfl
 refine⟨hold,by rw [addP_len]; exact hp,λk k1 k2=>?_⟩
 rw [mget_mput,hold]
 by_cases hk:k=pnum size bs f
 ·have hl:=last_get (bs:=addP size bs f) (by rw [addP_len]; omega)
  rw [addP_len] at hl
  rw [if_pos (by rw [hk]),hk,hl,addP_last]
 ·rw [if_neg (λe=>hk (fn_inj hnm hnm e).2.2),hb.2 k k1 k2]
  unfold addP
  unfold pnum at hk
  cases h:fresh size bs f with
  | true=>
   rw [h] at hk
   simp only [cond_true] at hk ⊢
   rcases Nat.lt_or_ge (k - 1) bs.length with hlt | hge
   ·rw [List.getElem?_append_left hlt]
   ·rw [List.getElem?_eq_none hge,List.getElem?_eq_none (by simp; omega)]
  | false=>
   have hpos:=fresh_f h
   rw [h] at hk
   simp only [cond_false] at hk ⊢
   rcases Nat.lt_or_ge (k - 1) (bs.length - 1) with hlt | hge
   ·rw [List.getElem?_append_left (by simpa using hlt),List.getElem?_dropLast,if_pos hlt]
   ·rw [List.getElem?_eq_none (by omega),List.getElem?_eq_none (by simp; omega)]
section
variable {R N:Nat} {d:Dk}
def dAdd(d:Dk)(nm:ByteArray)(g:Nat)(size:Int)(bs:Bs)(f:List UInt8):Dk:=dDone d ⟨.disk_add_1 (fn nm g (pnum size bs f)) f,fn nm g (pnum size bs f),f⟩
inductive AppR (R:Nat) (d:Dk) (nm:ByteArray) (g:Nat) (size:Int) (bs:Bs) (cnt:Nat) (x:List UInt8):Oseglog_Log×Dk×Int→Prop
 | long:1048576<x.length→AppR R d nm g size bs cnt x (lg nm g size bs cnt,d,3)
 | many:x.length≤1048576→999999<pnum size bs (fr x)→AppR R d nm g size bs cnt x (lg nm g size bs cnt,d,72)
 | full:x.length≤1048576→pnum size bs (fr x)≤999999→R<Fw.sz d.seen+(fr x).length→AppR R d nm g size bs cnt x (lg nm g size bs cnt,d,72)
 | ok:x.length≤1048576→pnum size bs (fr x)≤999999→Fw.sz d.seen+(fr x).length≤R→AppR R d nm g size bs cnt x (lg nm g size (addP size bs (fr x)) (cnt+1),dAdd d nm g size bs (fr x),0)
theorem add_seen(d:Dk)(nm:ByteArray)(g:Nat)(size:Int)(bs:Bs)(f:List UInt8):(dAdd d nm g size bs f).seen=mput (fn nm g (pnum size bs f)) ((mget (fn nm g (pnum size bs f)) d.seen).getD []++f) d.seen:=rfl
theorem e_LApp(h:DI R N d)(hR:R≤MX)(hN:N+1≤lim){nm:ByteArray}(hnm:Nm nm){g:Nat}(hg:g≤999999){size:Int}(hs0:0≤size)(hs1:size≤9223372036854775807){bs:Bs}(hb:Has nm g bs d.seen){cnt:Nat}(hc:cnt≤4611686018427387904)(x:List UInt8):
  ∃r,m_seglog_Log_Append (lg nm g size bs cnt) x d=some r∧AppR R d nm g size bs cnt x r∧DI R (N+1) r.2.1:=by
 have h1:=hb.sz hnm h.nk
 have h2:=h.sz
 have h3:=last_le bs
 have hRv:R≤1073741824:=hR
 have hbl:=hb.1
 unfold m_seglog_Log_Append
 by_cases hl:1048576<x.length
 ·rw [e_Put_long hl,Option.bind_some]
  exact⟨_,rfl,.long hl,h.mono (Nat.le_succ _)⟩
 ·have hx:x.length≤1048576:=by omega
  have hfl:=fr_len x
  have hp3:=pn3 hx
  rw [e_Put hx,Option.bind_some]
  simp only
  rw [bif_f (by decide)]
  have hfr:(((lg nm g size bs cnt).last==0)||((decide (0<(lg nm g size bs cnt).tail))&&(decide ((w64 ((lg nm g size bs cnt).size - (lg nm g size bs cnt).tail))<(((fr x).length:Nat):Int)))))=fresh size bs (fr x):=by
   unfold lg fresh
   simp only
   rw [w64_i (by unfold I64; omega),Bool.eq_iff_iff]
   simp only [Bool.or_eq_true,Bool.and_eq_true,beq_iff_eq,decide_eq_true_eq]
   omega
  rw [hfr]
  have key:∀(p:Nat) (t:Int),p=pnum size bs (fr x)→t=(((bif fresh size bs (fr x) then [] else lastP bs).length:Nat):Int)→∃r,m_seglog_Log_Append_j1 (lg nm g size bs cnt) d (fr x,0) (p:Int) t=some r∧AppR R d nm g size bs cnt x r∧DI R (N+1) r.2.1:=by
   intro p t hp ht
   unfold m_seglog_Log_Append_j1
   by_cases hm:999999<p
   ·rw [bif_t (by rw [decide_eq_true_eq]; omega)]
    exact⟨_,rfl,.many hx (by omega),h.mono (Nat.le_succ _)⟩
   ·have hsz:=fn_size hnm hg (show p≤999999 by omega)
    rw [bif_f (by rw [decide_eq_false_iff_not]; omega)]
    show ∃r,Option.bind (m_seglog_place_file nm (g:Int) (g:Int) (p:Int)) _=some r∧_
    rw [e_file hnm hg (by omega),Option.bind_some,chk_t (by rw [lim_eq,decide_eq_true_eq]; omega)]
    obtain⟨a1,a2⟩:=e_App h hR hN (fn nm g p) (fr x)
    rw [a1,Option.bind_some]
    have hok:=okn_fn hnm hg (show p≤999999 by omega)
    unfold dApp at a2 ⊢
    rw [hok] at a2 ⊢
    rw [show (!true)=false from rfl,bif_f rfl] at a2 ⊢
    by_cases hroom:R<Fw.sz d.seen+(fr x).length
    ·rw [bif_t (by rw [decide_eq_true_eq,h.rd]; omega)]
     exact⟨_,rfl,.full hx (by omega) hroom,h.mono (Nat.le_succ _)⟩
    ·have hq:decide (d.room - (Fw.sz d.seen:Int)<((fr x).length:Int))=false:=by rw [decide_eq_false_iff_not,h.rd]; omega
     rw [hq,bif_f rfl] at a2 ⊢
     unfold m_seglog_Log_Append_j2
     simp only
     rw [bif_f (by decide)]
     have el:(⟨(lg nm g size bs cnt).place_name,(lg nm g size bs cnt).place_gen,(lg nm g size bs cnt).size,(p:Int),w64 (t+(((fr x).length:Nat):Int)),w64 ((lg nm g size bs cnt).count+1),w64 ((lg nm g size bs cnt).bytes+(((fr x).length:Nat):Int))⟩:Oseglog_Log)=lg nm g size (addP size bs (fr x)) (cnt+1):=by
      have ht2:t+(((fr x).length:Nat):Int)=(((lastP (addP size bs (fr x))).length:Nat):Int):=by rw [addP_last,ht]; simp
      have hlt:=last_le (addP size bs (fr x))
      have htt:=addP_tot size bs (fr x)
      unfold lg
      simp only
      rw [addP_len,ht2,htt,w64_i (by unfold I64; omega),w64_i (by unfold I64; omega),w64_i (by unfold I64; omega),hp]
      rfl
     rw [el]
     subst hp
     exact⟨_,rfl,.ok hx (by omega) (by omega),a2⟩
  cases hq:fresh size bs (fr x) with
  | true=>
   rw [bif_t rfl]
   have e1:w64 ((lg nm g size bs cnt).last+1)=((bs.length+1:Nat):Int):=by
    unfold lg; simp only; rw [w64_i (by unfold I64; omega)]; rfl
   rw [e1]
   exact key _ _ (by unfold pnum; rw [hq]; rfl) (by rw [hq]; rfl)
  | false=>
   rw [bif_f rfl]
   exact key bs.length _ (by unfold pnum; rw [hq]; rfl) (by rw [hq]; rfl)
theorem AppR.has{nm:ByteArray}{g:Nat}{size:Int}{bs:Bs}(hnm:Nm nm)(hb:Has nm g bs d.seen){f:List UInt8}(hp:pnum size bs f≤999999):Has nm g (addP size bs f) (dAdd d nm g size bs f).seen:=(has_add hnm hb hp).2
theorem add_other{nm:ByteArray}{g:Nat}{size:Int}{bs:Bs}{f:List UInt8}{k:ByteArray}(hk:k≠fn nm g (pnum size bs f)):mget k (dAdd d nm g size bs f).seen=mget k d.seen:=by
 rw [add_seen,mget_mput,if_neg hk]
end
theorem forI_ex{α S R:Type}[Inhabited α]{body:(S→Option R)→Nat→α→S→Option R}{K:S→Option R}{P:R→Prop}{l:List α}(I:Nat→S→Prop)(hend:∀s,I l.length s→∃r,K s=some r∧P r)
  (hstep:∀f i s,i<l.length→I i s→(∀s',I (i+1) s'→∃r,f s'=some r∧P r)→∃r,body f i (gt l i) s=some r∧P r) {s:S} (h0:I 0 s):∃r,forI body K 0 l s=some r∧P r:=by
 have key:∀m i s,l.length - i=m→i≤l.length→I i s→∃r,forI body K i (l.drop i) s=some r∧P r:=by
  intro m
  induction m with
  | zero=>
   intro i s hm hi hI
   have:i=l.length:=by omega
   subst this
   rw [List.drop_of_length_le (Nat.le_refl _)]
   exact hend s hI
  | succ m ih=>
   intro i s hm hi hI
   rw [drop_gt (by omega)]
   exact hstep _ i s (by omega) hI λs' h'=>ih (i+1) s' (by omega) (by omega) h'
 exact key _ 0 s rfl (Nat.zero_le _) h0
def addR(size:Int)(rs:List Bs)(x:List UInt8):List Bs:=bif fresh size (rs.map frs) (fr x) then rs++[[x]] else rs.dropLast++[rs.getLastD []++[x]]
def lo(size:Int)(l:Bs):List Bs:=l.foldl (addR size) []
def bsOf(size:Int)(l:Bs):Bs:=(lo size l).map frs
theorem last_frs(rs:List Bs):lastP (rs.map frs)=frs (rs.getLastD []):=by
 rcases List.eq_nil_or_concat rs with e | ⟨l,b,e⟩
 ·rw [e]; rfl
 ·rw [e,List.concat_eq_append]; simp [lastP]
theorem addR_map(size:Int)(rs:List Bs)(x:List UInt8):(addR size rs x).map frs=addP size (rs.map frs) (fr x):=by
 unfold addR addP
 cases h:fresh size (rs.map frs) (fr x) with
 | true=>simp [frs]
 | false=>
  simp only [cond_false]
  rw [List.map_append,last_frs,List.map_dropLast]
  simp [frs_app,frs]
theorem addR_flat(size:Int)(rs:List Bs)(x:List UInt8):(addR size rs x).flatten=rs.flatten++[x]:=by
 unfold addR
 cases h:fresh size (rs.map frs) (fr x) with
 | true=>simp
 | false=>
  have hp:=fresh_f h
  rw [List.length_map] at hp
  simp only [cond_false]
  rcases List.eq_nil_or_concat rs with e | ⟨l,b,e⟩
  ·rw [e] at hp; exact absurd hp (Nat.lt_irrefl 0)
  ·rw [e,List.concat_eq_append]; simp
theorem lo_snoc(size:Int)(l:Bs)(x:List UInt8):lo size (l++[x])=addR size (lo size l) x:=by unfold lo; rw [List.foldl_append]; rfl
theorem lo_flat(size:Int)(l:Bs):(lo size l).flatten=l:=by
 have key:∀(n:Nat) (l:Bs),l.length=n→(lo size l).flatten=l:=by
  intro n
  induction n with
  | zero=>intro l h; rw [List.eq_nil_of_length_eq_zero h]; rfl
  | succ n ih=>
   intro l h
   rcases List.eq_nil_or_concat l with e | ⟨m,b,e⟩
   ·rw [e] at h; cases h
   ·rw [List.concat_eq_append] at e
    rw [e,lo_snoc,addR_flat,ih m (by rw [e] at h; simpa using h)]
 exact key _ l rfl
theorem bsOf_snoc(size:Int)(l:Bs)(x:List UInt8):bsOf size (l++[x])=addP size (bsOf size l) (fr x):=by
 unfold bsOf
 rw [lo_snoc,addR_map]
theorem scan_whole:∀{rs:List Bs} (ex:Bs),(∀l∈rs,Rk l)→scanF (rs.map frs++ex)=(rs.flatten++(scanF ex).1,rs.map frs++(scanF ex).2)
 | [],ex,_=>rfl
 | l::rs,ex,h=>by
  rw [List.map_cons,List.cons_append,scanF,all_frs0 (h l List.mem_cons_self),if_pos rfl,scan_whole ex λm hm=>h m (List.mem_cons_of_mem _ hm)]
  simp
theorem rk_lo{size:Int}{l:Bs}(h:Rk l):∀m∈lo size l,Rk m:=λm hm x hx=>h x (by
 have:=lo_flat size l
 rw [← this]; exact List.mem_flatten.2 ⟨m,hm,hx⟩)
theorem scan_bsOf(size:Int){l:Bs}(h:Rk l):scanF (bsOf size l)=(l,bsOf size l):=by
 have:=scan_whole (rs:=lo size l) [] (rk_lo h)
 rw [List.append_nil] at this
 unfold bsOf
 rw [this,lo_flat]
 simp [scanF]
section
variable {R N:Nat} {d:Dk}
structure Mid (R M:Nat) (d:Dk) (nm:ByteArray) (g:Nat) (bs:Bs) (e:Dk):Prop where
 di:DI R M e
 has:Has nm g bs e.seen
 same:∀k,(∀j,1≤j→j≤999999→k≠fn nm g j)→mget k e.seen=mget k d.seen
theorem Mid.ks{M:Nat}{nm:ByteArray}{g:Nat}{bs:Bs}{e:Dk}(h:Mid R M d nm g bs e)(hnm:Nm nm)(hg:g≤999999)(hk:Ks d.seen):Ks e.seen:=λk hks=>by
 by_cases hc:∀j,1≤j→j≤999999→k≠fn nm g j
 ·rw [h.same k hc] at hks; exact hk k hks
 ·obtain⟨j,hc⟩:=Classical.not_forall.1 hc
  obtain⟨j1,hc⟩:=Classical.not_imp.1 hc
  obtain⟨j2,hc⟩:=Classical.not_imp.1 hc
  rw [Classical.not_not.1 hc]; exact okn_fn hnm hg j2
theorem bsOf_len(size:Int)(l:Bs):(bsOf size l).length≤l.length:=by
 have key:∀(n:Nat) (l:Bs),l.length=n→(bsOf size l).length≤l.length:=by
  intro n
  induction n with
  | zero=>intro l h; rw [List.eq_nil_of_length_eq_zero h]; exact Nat.le_refl _
  | succ n ih=>
   intro l h
   rcases List.eq_nil_or_concat l with e | ⟨m,b,e⟩
   ·rw [e] at h; cases h
   ·rw [List.concat_eq_append] at e
    have hm:m.length=n:=by rw [e] at h; simpa using h
    have:=ih m hm
    have h2:=pnum_le size (bsOf size m) (fr b)
    rw [e,bsOf_snoc,addP_len,List.length_append]
    simp; omega
 exact key _ l rfl
theorem add_sz{d:Dk}{nm:ByteArray}{g:Nat}{size:Int}{bs:Bs}{f:List UInt8}:Fw.sz (dAdd d nm g size bs f).seen=Fw.sz d.seen+f.length:=sz_add
end
def SpOk(x:Span):Prop:=1≤x.s∧x.s≤16∧1≤x.f∧x.f≤x.t∧x.t≤4611686018427387904
structure VeOk (v:Ver):Prop where
 s:1≤v.dot.s∧v.dot.s≤16
 n:1≤v.dot.n∧v.dot.n≤4611686018427387904
 pl:v.past.length≤1024
 past:∀x∈v.past,SpOk x
 val:v.val.size≤256
 gone:v.gone=true→v.val=ByteArray.empty
structure ReOk (r:Rec):Prop where
 key:1≤r.key.size∧r.key.size≤32
 vl:r.vers.length≤512
 vers:∀v∈r.vers,VeOk v
theorem all_of{α:Type}[Inhabited α]{l:List α}{p:α→Prop}(h:∀j,j<l.length→p (gt l j)):∀x∈l,p x:=λx hx=>by
 obtain⟨j,hj,rfl⟩:=List.getElem_of_mem hx
 have:=h j hj
 rwa [gt_eq hj] at this
theorem e_spR(l:List Span):∃b,m_span_Right l=some b∧(b=true→l.length≤1024∧∀x∈l,SpOk x):=by
 unfold m_span_Right
 refine forI_ex (λi _ => ∀j,j<i→SpOk (gt l j)) (λs hI=>⟨_,rfl,λhb=>⟨by have:=of_decide_eq_true hb; omega,all_of hI⟩⟩) (λf i s hi hI hf=>?_) (λj hj=>absurd hj (Nat.not_lt_zero _))
 ·unfold m_span_Right_b1
  cases hc:(((((((decide ((gt l i).s<1))||(decide (16<(gt l i).s)))||(decide ((gt l i).f<1)))||(decide ((gt l i).t<(gt l i).f)))||(decide (4611686018427387904<(gt l i).t)))||(decide ((gt l i).s<s.s)))||(((gt l i).s==s.s)&&(decide ((gt l i).f≤(w64 (s.t+1)))))) with
  | true=>exact⟨false,rfl,λh=>by cases h⟩
  | false=>
   refine hf _ λj hj=>?_
   rcases Nat.lt_or_ge j i with h | h
   ·exact hI j h
   ·obtain rfl:j=i:=by omega
    simp only [Bool.or_eq_false_iff,decide_eq_false_iff_not] at hc
    obtain⟨⟨⟨⟨⟨⟨h1,h2⟩,h3⟩,h4⟩,h5⟩,h6⟩,h7⟩:=hc
    clear h6 h7
    unfold SpOk
    omega
theorem e_spT(l:List Span)(s:Int):∃n,m_span_Top l s=some n:=by
 unfold m_span_Top
 obtain⟨r,h,_⟩:=forI_ex (body:=m_span_Top_b5 s) (K:=λt=>some t) (P:=λ_=>True) (l:=l) (λ_ _=>True) (λs _=>⟨_,rfl,trivial⟩) (λf i t hi _ hf=>by
  unfold m_span_Top_b5 m_span_Top_j6
  cases (gt l i).s==s <;> exact hf _ trivial) (s:=0) trivial
 exact⟨r,h⟩
theorem e_RightOne2(v:Ver):∃b,m_vers_RightOne v=some b∧(b=true→VeOk v):=by
 unfold m_vers_RightOne
 obtain⟨a,a1,a2⟩:=e_spR [⟨v.dot.s,v.dot.n,v.dot.n⟩]
 obtain⟨b,b1,b2⟩:=e_spR v.past
 obtain⟨n,n1⟩:=e_spT v.past v.dot.s
 rw [a1,Option.bind_some,b1,gcall_s,Option.bind_some,n1,gcall_s,Option.bind_some]
 refine⟨_,rfl,λh=>?_⟩
 simp only [Bool.and_eq_true,decide_eq_true_eq,Bool.or_eq_true,Bool.not_eq_true',beq_iff_eq] at h
 obtain⟨⟨⟨⟨h1,h2⟩,h3⟩,h4⟩,h5⟩:=h
 rw [h1] at h2
 have ha:=(a2 h1).2 _ List.mem_cons_self
 unfold SpOk at ha
 simp only at ha
 have hb:=b2 h2
 refine⟨⟨ha.1,ha.2.1⟩,⟨ha.2.2.1,ha.2.2.2.2⟩,hb.1,hb.2,by omega,λhg=>?_⟩
 rcases h5 with h5 | h5
 ·rw [hg] at h5; cases h5
 ·exact h5
theorem e_behind2(d:Dot)(l:List Ver):∃b,m_vers_behind d l=some b:=by
 unfold m_vers_behind
 obtain⟨r,h,_⟩:=forI_ex (body:=m_vers_behind_b1 d) (K:=λ_=>some false) (P:=λ_=>True) (l:=l) (λ_ _=>True) (λs _=>⟨_,rfl,trivial⟩) (λf i t hi _ hf=>by
  unfold m_vers_behind_b1 m_span_Has
  obtain⟨z,h,_⟩:=forI_ex (body:=m_span_Has_b1 d) (K:=λ_=>some false) (P:=λ_=>True) (l:=(gt l i).past) (λ_ _=>True) (λs _=>⟨_,rfl,trivial⟩) (λf j t hi _ hf=>by
   unfold m_span_Has_b1
   cases (((gt (gt l i).past j).s==d.s)&&(decide ((gt (gt l i).past j).f≤d.n)))&&(decide (d.n≤(gt (gt l i).past j).t)) with
   | true=>exact⟨_,rfl,trivial⟩
   | false=>exact hf _ trivial) (s:=()) trivial
  rw [h,Option.bind_some]
  cases z with
  | true=>exact⟨_,rfl,trivial⟩
  | false=>exact hf _ trivial) (s:=()) trivial
 exact⟨r,h⟩
theorem e_Right52{l:List Ver}(hl:l.length≤lim):∃b,m_vers_Right l=some b∧(b=true→l.length≤512∧∀x∈l,VeOk x):=by
 rw [lim_eq] at hl
 unfold m_vers_Right
 refine forI_ex (λi _ => ∀j,j<i→VeOk (gt l j)) (λs hI=>⟨_,rfl,λhb=>⟨by have:=of_decide_eq_true hb; omega,all_of hI⟩⟩) (λf i s hi hI hf=>?_) (λj hj=>absurd hj (Nat.not_lt_zero _))
 ·unfold m_vers_Right_b1
  obtain⟨a,a1,a2⟩:=e_RightOne2 (gt l i)
  obtain⟨b,b1⟩:=e_behind2 (gt l i).dot l
  have e1:w64 (((i:Nat):Int) - 1)=((i:Nat):Int) - 1:=w64_i (by unfold I64; omega)
  have hc:imp ((!(!a))&&(decide (0<((i:Nat):Int)))) (inb (w64 (((i:Nat):Int) - 1)) l.length)=true:=by
   rw [e1]
   by_cases h0:0<((i:Nat):Int)
   ·have:inb (((i:Nat):Int) - 1) l.length=true:=by
     unfold inb
     rw [Bool.and_eq_true,decide_eq_true_eq,decide_eq_true_eq]
     clear e1 a1 a2 b1 hf hI
     omega
    rw [this]; cases a <;> cases decide (0<((i:Nat):Int)) <;> rfl
   ·rw [decide_eq_false h0]; cases a <;> rfl
  rw [a1,Option.bind_some,chk_t hc,b1]
  unfold m_vers_before
  rw [gcall_s,Option.bind_some,gcall_s,Option.bind_some]
  cases a with
  | false=>exact⟨_,rfl,λh=>by cases h⟩
  | true=>
   have hn:∀j,j<i+1→VeOk (gt l j):=λj hj=>by
    rcases Nat.lt_or_ge j i with h | h
    ·exact hI j h
    ·obtain rfl:j=i:=by omega
     exact a2 rfl
   generalize hg:(((!true)||_)||_)=g
   cases g with
   | true=>exact⟨_,rfl,λh=>by cases h⟩
   | false=>exact hf _ hn
theorem e_RightRec2{r:Rec}(hl:r.vers.length≤lim):∃b,m_code_RightRec r=some b∧(b=true→ReOk r):=by
 unfold m_code_RightRec
 obtain⟨a,a1,a2⟩:=e_Right52 hl
 rw [a1,gcall_s,Option.bind_some]
 refine⟨_,rfl,λh=>?_⟩
 simp only [Bool.and_eq_true,decide_eq_true_eq] at h
 obtain⟨⟨h1,h2⟩,h3⟩:=h
 have hc:((decide (1≤((r.key.size:Nat):Int)))&&(decide (((r.key.size:Nat):Int)≤32)))=true:=by rw [Bool.and_eq_true,decide_eq_true_eq,decide_eq_true_eq]; exact⟨h1,h2⟩
 rw [hc] at h3
 have:=a2 h3
 exact⟨⟨by omega,by omega⟩,this.1,this.2⟩
def pz(n:Int):List UInt8:=pn n.toNat
def spB(x:Span):List UInt8:=pz x.s++(pz x.f++pz (x.t - x.f))
def spsB(l:List Span):List UInt8:=pz l.length++(l.map spB).flatten
def txB(s:ByteArray):List UInt8:=pz s.size++s.data.toList
def veB(v:Ver):List UInt8:=pz v.dot.s++(pz v.dot.n++(spsB v.past++(bif v.gone then pz 1 else pz 0++txB v.val)))
def vesB(l:List Ver):List UInt8:=pz l.length++(l.map veB).flatten
def reB(r:Rec):List UInt8:=txB r.key++vesB r.vers
theorem pz_len{n:Int}(h:n≤4611686018427387904):(pz n).length≤9:=pn_len 8 _ (by omega)
theorem pz_pos(n:Int):0<(pz n).length:=pn_pos _
theorem flat_le{α:Type}{e:α→List UInt8}{c:Nat}:∀{l:List α},(∀x∈l,(e x).length≤c)→((l.map e).flatten).length≤c*l.length
 | [],_=>Nat.le_refl _
 | x::l,h=>by
  have h1:=h x List.mem_cons_self
  have h2:=flat_le (l:=l) λy hy=>h y (List.mem_cons_of_mem _ hy)
  rw [List.map_cons,List.flatten_cons,List.length_append,List.length_cons,Nat.mul_add]; omega
theorem flat_ge{α:Type}{e:α→List UInt8}:∀{l:List α},(∀x∈l,0<(e x).length)→l.length≤((l.map e).flatten).length
 | [],_=>Nat.le_refl _
 | x::l,h=>by
  have h1:=h x List.mem_cons_self
  have h2:=flat_ge (l:=l) λy hy=>h y (List.mem_cons_of_mem _ hy)
  rw [List.map_cons,List.flatten_cons,List.length_append,List.length_cons]; omega
theorem spB_len{x:Span}(h:SpOk x):(spB x).length≤27:=by
 obtain⟨h1,h2,h3,h4,h5⟩:=h
 have a:=pz_len (n:=x.s) (by omega)
 have b:=pz_len (n:=x.f) (by omega)
 have c:=pz_len (n:=x.t - x.f) (by omega)
 unfold spB; simp only [List.length_append]; omega
theorem spB_pos(x:Span):0<(spB x).length:=by
 have:=pz_pos x.s
 unfold spB; simp only [List.length_append]; omega
theorem txB_len{s:ByteArray}(h:s.size≤256):(txB s).length≤265:=by
 have a:=pz_len (n:=(s.size:Int)) (by omega)
 have b:s.data.toList.length=s.size:=rfl
 unfold txB; simp only [List.length_append]; omega
theorem veB_len{v:Ver}(h:VeOk v):(veB v).length≤28000:=by
 have a:=pz_len (n:=v.dot.s) (by have:=h.s; omega)
 have b:=pz_len (n:=v.dot.n) h.n.2
 have hp:=h.pl
 have c:=pz_len (n:=(v.past.length:Int)) (by omega)
 have d:=flat_le (e:=spB) (c:=27) (l:=v.past) λx hx=>spB_len (h.past x hx)
 have e1:=pz_len (n:=1) (by omega)
 have e0:=pz_len (n:=0) (by omega)
 have f:=txB_len h.val
 have g:(bif v.gone then pz 1 else pz 0++txB v.val).length≤274:=by cases v.gone <;> simp only [cond_true,cond_false,List.length_append] <;> omega
 unfold veB spsB; simp only [List.length_append]; omega
theorem veB_pos(v:Ver):0<(veB v).length:=by
 have:=pz_pos v.dot.s
 unfold veB; simp only [List.length_append]; omega
theorem reB_len{r:Rec}(h:ReOk r):(reB r).length≤14400000:=by
 have hk:=h.key
 have hv:=h.vl
 have a:=txB_len (s:=r.key) (by omega)
 have c:=pz_len (n:=(r.vers.length:Int)) (by omega)
 have d:=flat_le (e:=veB) (c:=28000) (l:=r.vers) λx hx=>veB_len (h.vers x hx)
 unfold reB vesB; simp only [List.length_append]; omega
theorem w_num{b:List UInt8}{n:Int}(h0:0≤n)(h1:n≤4611686018427387904)(hb:b.length+(pz n).length≤lim):m_code_writer_num ⟨b⟩ n=some ⟨b++pz n⟩:=by
 unfold m_code_writer_num
 obtain⟨m,rfl⟩:∃m:Nat,n=(m:Int):=⟨n.toNat,by omega⟩
 rw [e_PutNum (by omega),Option.bind_some]
 exact chk_t (decide_eq_true hb)
theorem w_int{b:List UInt8}{n:Int}(h0:0≤n)(h1:n≤4611686018427387904)(hb:b.length+(pz n).length≤lim):m_code_writer_int ⟨b⟩ n=some ⟨b++pz n⟩:=by
 unfold m_code_writer_int
 rw [w_num h0 h1 hb]; rfl
theorem w_text{b:List UInt8}{s:ByteArray}(h:s.size≤256)(hb:b.length+(txB s).length≤lim):m_code_writer_text ⟨b⟩ s=some ⟨b++txB s⟩:=by
 unfold m_code_writer_text m_num_PutText
 have hl:s.data.toList.length=s.size:=rfl
 have hx:(txB s).length=(pn s.size).length+s.size:=by unfold txB pz; rw [List.length_append,hl,Int.toNat_natCast]
 rw [e_PutNum (by omega),Option.bind_some,chk_t (decide_eq_true (by omega)),Option.bind_some]
 exact chk_t (decide_eq_true hb)
theorem w_span{b:List UInt8}{x:Span}(h:SpOk x)(hb:b.length+(spB x).length≤lim):m_code_writer_span ⟨b⟩ x=some ⟨b++spB x⟩:=by
 obtain⟨h1,h2,h3,h4,h5⟩:=h
 have e:(spB x).length=(pz x.s).length+((pz x.f).length+(pz (x.t - x.f)).length):=by unfold spB; simp only [List.length_append]
 unfold m_code_writer_span
 rw [w_int (by omega) (by omega) (by omega),Option.bind_some,w_num (by omega) (by omega) (by rw [List.length_append]; omega),Option.bind_some,w64_i (x:=x.t - x.f) (by unfold I64; omega),
  w_num (by omega) (by omega) (by rw [List.length_append,List.length_append]; omega),Option.bind_some]
 unfold spB
 rw [List.append_assoc,List.append_assoc]
theorem w_spans:∀{l:List Span} {b:List UInt8} (i:Nat),(∀x∈l,SpOk x)→b.length+((l.map spB).flatten).length≤lim→forI m_code_put_api_Span_b1 (λo=>some o) i l ⟨b⟩=some ⟨b++(l.map spB).flatten⟩
 | [],b,i,_,_=>by show some (⟨b⟩:Ocode_writer)=some ⟨b++[]⟩; rw [List.append_nil]
 | x::l,b,i,h,hb=>by
  rw [List.map_cons,List.flatten_cons,List.length_append] at hb
  show m_code_put_api_Span_b1 (forI m_code_put_api_Span_b1 (λo=>some o) (i+1) l) i x ⟨b⟩=_
  unfold m_code_put_api_Span_b1
  rw [w_span (h x List.mem_cons_self) (by omega),Option.bind_some]
  rw [show (λf14 i15 ei15 o11=>Option.bind (m_code_writer_span o11 ei15) λz22=>f14 z22)=m_code_put_api_Span_b1 from rfl]
  rw [w_spans (i+1) (λy hy=>h y (List.mem_cons_of_mem _ hy)) (by rw [List.length_append]; omega),List.map_cons,List.flatten_cons,List.append_assoc]
theorem w_sps{l:List Span}{b:List UInt8}(h:∀x∈l,SpOk x)(hl:l.length≤1024)(hb:b.length+(spsB l).length≤lim):m_code_put_api_Span ⟨b⟩ l=some ⟨b++spsB l⟩:=by
 have e:(spsB l).length=(pz l.length).length+((l.map spB).flatten).length:=by unfold spsB; rw [List.length_append]
 unfold m_code_put_api_Span
 rw [w_int (by omega) (by omega) (by omega),Option.bind_some,w_spans 0 h (by rw [List.length_append]; omega),List.append_assoc]; rfl
theorem w_ver{b:List UInt8}{v:Ver}(h:VeOk v)(hb:b.length+(veB v).length≤lim):m_code_writer_ver ⟨b⟩ v=some ⟨b++veB v⟩:=by
 have hs:=h.s
 have hn:=h.n
 have e:(veB v).length=(pz v.dot.s).length+((pz v.dot.n).length+((spsB v.past).length+(bif v.gone then pz 1 else pz 0++txB v.val).length)):=by unfold veB; simp only [List.length_append]
 unfold m_code_writer_ver
 rw [w_int (by omega) (by omega) (by omega),Option.bind_some,w_num (by omega) (by omega) (by rw [List.length_append]; omega),Option.bind_some,w_sps h.past h.pl (by rw [List.length_append,List.length_append]; omega),Option.bind_some]
 unfold veB
 cases hg:v.gone with
 | true=>
  rw [hg] at e
  simp only [cond_true] at e ⊢
  rw [w_int (by omega) (by omega) (by rw [List.length_append,List.length_append,List.length_append]; omega),Option.bind_some]
  simp only [List.append_assoc]
 | false=>
  rw [hg] at e
  simp only [cond_false,List.length_append] at e ⊢
  rw [w_int (by omega) (by omega) (by rw [List.length_append,List.length_append,List.length_append]; omega),Option.bind_some,w_text h.val (by rw [List.length_append,List.length_append,List.length_append,List.length_append]; omega),Option.bind_some]
  simp only [List.append_assoc]
theorem w_vers:∀{l:List Ver} {b:List UInt8} (i:Nat),(∀x∈l,VeOk x)→b.length+((l.map veB).flatten).length≤lim→forI m_code_put_api_Ver_b1 (λo=>some o) i l ⟨b⟩=some ⟨b++(l.map veB).flatten⟩
 | [],b,i,_,_=>by show some (⟨b⟩:Ocode_writer)=some ⟨b++[]⟩; rw [List.append_nil]
 | x::l,b,i,h,hb=>by
  rw [List.map_cons,List.flatten_cons,List.length_append] at hb
  show m_code_put_api_Ver_b1 (forI m_code_put_api_Ver_b1 (λo=>some o) (i+1) l) i x ⟨b⟩=_
  unfold m_code_put_api_Ver_b1
  rw [w_ver (h x List.mem_cons_self) (by omega),Option.bind_some]
  rw [show (λf14 i15 ei15 o11=>Option.bind (m_code_writer_ver o11 ei15) λz25=>f14 z25)=m_code_put_api_Ver_b1 from rfl]
  rw [w_vers (i+1) (λy hy=>h y (List.mem_cons_of_mem _ hy)) (by rw [List.length_append]; omega),List.map_cons,List.flatten_cons,List.append_assoc]
theorem e_writer{r:Rec}(h:ReOk r):m_code_writer_rec ⟨[]⟩ r=some ⟨reB r⟩:=by
 have hk:=h.key
 have hv:=h.vl
 have hl:=reB_len h
 have e:(reB r).length=(txB r.key).length+((pz r.vers.length).length+((r.vers.map veB).flatten).length):=by unfold reB vesB; simp only [List.length_append]
 have hlim:14400000≤lim:=by rw [lim_eq]; omega
 unfold m_code_writer_rec
 rw [w_text (by omega) (by simp only [List.length_nil]; omega),Option.bind_some]
 unfold m_code_put_api_Ver
 rw [w_int (by omega) (by omega) (by simp only [List.nil_append]; omega),Option.bind_some,w_vers 0 h.vers (by simp only [List.nil_append,List.length_append]; omega),Option.bind_some]
 unfold reB vesB
 simp only [List.nil_append,List.append_assoc]
theorem e_PutRec{r:Rec}(hl:r.vers.length≤lim):(m_code_PutRec r=some ([],1))∨(m_code_RightRec r=some true∧ReOk r∧m_code_PutRec r=some (reB r,0)):=by
 obtain⟨b,b1,b2⟩:=e_RightRec2 hl
 unfold m_code_PutRec
 rw [b1,Option.bind_some]
 cases b with
 | false=>exact .inl rfl
 | true=>refine .inr ⟨rfl,b2 rfl,?_⟩; rw [show (!true)=false from rfl,bif_f rfl,e_writer (b2 rfl)]; rfl
def At(B:List UInt8)(p:Int)(rest:List UInt8):Prop := ∃q:Nat,p=(q:Int)∧q≤B.length∧B.drop q=rest
theorem At.go{B a rest:List UInt8}{q:Nat}(hq:q≤B.length)(h:B.drop q=a++rest):At B ((q+a.length:Nat):Int) rest∧q+a.length≤B.length:=by
 have h1:=congrArg List.length h
 rw [List.length_drop,List.length_append] at h1
 refine⟨⟨q+a.length,rfl,by omega,?_⟩,by omega⟩
 rw [← List.drop_drop,h,List.drop_left]
theorem At.len{B rest:List UInt8}{p:Int}(h:At B p rest):(B.length:Int) - p=(rest.length:Int)∧0≤p:=by
 obtain⟨q,rfl,h1,rfl⟩:=h
 rw [List.length_drop]; omega
theorem At.end_{B:List UInt8}{p:Int}(h:At B p []):p=(B.length:Int):=by have:=h.len; simp at this; omega
section
variable {B:List UInt8} (hB:B.length≤lim)
include hB
theorem n_num{p n:Int}{rest:List UInt8}(h0:0≤n)(h1:n≤4611686018427387904)(h:At B p (pz n++rest)):∃q:Nat,m_num_Num B p=some (n,(q:Int),0)∧At B q rest∧q≤B.length:=by
 obtain⟨q,rfl,hq,hd⟩:=h
 have hg:=At.go hq hd
 have hl:=pz_len h1
 refine⟨q+(pz n).length,?_,hg.1,hg.2⟩
 rw [e_Num hB hq,hd]
 unfold pz at hl ⊢
 rw [num_pn n.toNat 0 0 rest (λh=>absurd h (Nat.lt_irrefl 0)) (by omega)]
 unfold numR
 have e1:(((0+n.toNat*128 ^ 0:Nat):Nat):Int)=n:=by rw [Nat.pow_zero,Nat.mul_one,Nat.zero_add]; omega
 simp only [if_pos]
 rw [e1,Nat.zero_add]
theorem r_num{p n:Int}{rest:List UInt8}(h0:0≤n)(h1:n≤4611686018427387904)(h:At B p (pz n++rest)):∃q,m_code_reader_num ⟨B,p⟩=some (some (⟨B,q⟩,n))∧At B q rest:=by
 obtain⟨q,e,hA,hq⟩:=n_num hB h0 h1 h
 rw [lim_eq] at hB
 refine⟨(q:Int),?_,hA⟩
 unfold m_code_reader_num m_code_reader_num_j1
 simp only
 rw [e,Option.bind_some]
 simp only
 rw [bif_f (by decide),chk_t (by unfold i64b; rw [Bool.and_eq_true,decide_eq_true_eq,decide_eq_true_eq]; omega),chk_t (by unfold i64b; rw [Bool.and_eq_true,decide_eq_true_eq,decide_eq_true_eq]; omega)]
theorem r_int{p n:Int}{rest:List UInt8}(h0:0≤n)(h1:n≤4611686018427387904)(h:At B p (pz n++rest)):∃q,m_code_reader_int ⟨B,p⟩=some (some (⟨B,q⟩,n))∧At B q rest:=by
 obtain⟨q,e,hA⟩:=r_num hB h0 h1 h
 refine⟨q,?_,hA⟩
 unfold m_code_reader_int
 rw [e]; rfl
theorem r_text{p:Int}{s:ByteArray}{rest:List UInt8}(hs:s.size≤256)(h:At B p (txB s++rest)):∃q,m_code_reader_text ⟨B,p⟩=some (some (⟨B,q⟩,s))∧At B q rest:=by
 unfold txB at h
 rw [List.append_assoc] at h
 obtain⟨q,e,hA,hq⟩:=n_num hB (by omega) (by omega) h
 obtain⟨q2,e2,hq2,hd⟩:=hA
 obtain rfl:q=q2:=by omega
 have hg:=At.go hq hd
 have hsl:s.data.toList.length=s.size:=rfl
 rw [hsl] at hg
 have hB2:=hB
 rw [lim_eq] at hB2
 refine⟨((q+s.size:Nat):Int),?_,hg.1⟩
 have hgl:=hg.2
 have ew:w64 (((q:Nat):Int)+((s.size:Nat):Int))=((q+s.size:Nat):Int):=by rw [w64_i (by unfold I64; omega)]; omega
 have ew2:w64 (((B.length:Nat):Int) - ((q:Nat):Int))=((B.length:Nat):Int) - ((q:Nat):Int):=w64_i (by unfold I64; omega)
 have ed:(⟨(List.drop ((q:Nat):Int).toNat (List.take ((q+s.size:Nat):Int).toNat B)).toArray⟩:ByteArray)=s:=by
  apply ba_inj
  show List.drop ((q:Nat):Int).toNat (List.take ((q+s.size:Nat):Int).toNat B)=s.data.toList
  rw [Int.toNat_natCast,Int.toNat_natCast,List.drop_take,hd,Nat.add_sub_cancel_left, ← hsl,List.take_left]
 unfold m_code_reader_text m_num_Text m_code_reader_text_j1
 simp only
 rw [e,Option.bind_some]
 simp only
 rw [bif_f (by decide),bif_f (by rw [decide_eq_false_iff_not]; clear ew ew2; omega),ew2,bif_f (by rw [decide_eq_false_iff_not]; clear ew ew2; omega),ew,
  chk_t (by unfold inle; rw [Bool.and_eq_true,decide_eq_true_eq,decide_eq_true_eq]; clear ew ew2; omega),chk_t (by rw [decide_eq_true_eq]; clear ew ew2; omega),chk_t (by rw [decide_eq_true_eq,Int.toNat_natCast,Int.toNat_natCast]; clear ew ew2; omega),ed,Option.bind_some]
 simp only
 rw [bif_f (by decide),chk_t (by unfold i64b; rw [Bool.and_eq_true,decide_eq_true_eq,decide_eq_true_eq]; clear ew ew2; omega),chk_t (by rw [lim_eq,decide_eq_true_eq]; clear ew ew2; omega)]
theorem r_span{p:Int}{x:Span}{rest:List UInt8}(hx:SpOk x)(h:At B p (spB x++rest)):∃q,m_code_reader_span ⟨B,p⟩=some (some (⟨B,q⟩,x))∧At B q rest:=by
 obtain⟨h1,h2,h3,h4,h5⟩:=hx
 unfold spB at h
 rw [List.append_assoc,List.append_assoc] at h
 obtain⟨q1,e1,a1⟩:=r_int hB (by omega) (by omega) h
 obtain⟨q2,e2,a2⟩:=r_num hB (by omega) (by omega) a1
 obtain⟨q3,e3,a3⟩:=r_num hB (by omega) (by omega) a2
 refine⟨q3,?_,a3⟩
 unfold m_code_reader_span m_code_reader_span_j1 m_code_reader_span_j2 optm
 rw [e1,Option.bind_some]
 simp only
 rw [e2,Option.bind_some]
 simp only
 rw [e3,Option.bind_some]
 simp only
 rw [show w64 (x.f+(x.t - x.f))=x.t by rw [w64_i (by unfold I64; omega)]; omega,bif_f (by rw [decide_eq_false_iff_not]; omega)]
theorem r_spans:∀{l:List Span} {out:List Span} {p:Int} {rest:List UInt8} (i:Nat),(∀x∈l,SpOk x)→out.length+l.length≤lim→At B p ((l.map spB).flatten++rest) →
  ∃q,forU m_code_take_api_Span_b2 (λ(out_20,o25)=>some (some (o25,out_20))) l.length i (out,⟨B,p⟩)=some (some (⟨B,q⟩,out++l))∧At B q rest
 | [],out,p,rest,i,_,_,h=>⟨p,by show some (some ((⟨B,p⟩:Ocode_reader),out))=_; rw [List.append_nil],h⟩
 | x::l,out,p,rest,i,hx,hl,h=>by
  rw [List.length_cons] at hl
  rw [List.map_cons,List.flatten_cons,List.append_assoc] at h
  obtain⟨q1,e1,a1⟩:=r_span hB (hx x List.mem_cons_self) h
  obtain⟨q2,e2,a2⟩:=r_spans (l:=l) (out:=out++[x]) (i+1) (λy hy=>hx y (List.mem_cons_of_mem _ hy)) (by rw [List.length_append,List.length_singleton]; omega) a1
  refine⟨q2,?_,a2⟩
  show m_code_take_api_Span_b2 (forU m_code_take_api_Span_b2 (λ(out_20,o25)=>some (some (o25,out_20))) l.length (i+1)) i (out,⟨B,p⟩)=_
  rw [List.append_assoc] at e2
  generalize forU m_code_take_api_Span_b2 (λ(out_20,o25)=>some (some (o25,out_20))) l.length (i+1)=f at e2 ⊢
  unfold m_code_take_api_Span_b2 optm
  simp only
  rw [e1,Option.bind_some]
  simp only
  rw [chk_t (decide_eq_true (by omega)),e2]; rfl
theorem r_sps{p:Int}{l:List Span}{rest:List UInt8}(hx:∀x∈l,SpOk x)(hl:l.length≤1024)(h:At B p (spsB l++rest)):∃q,m_code_take_api_Span ⟨B,p⟩=some (some (⟨B,q⟩,l))∧At B q rest:=by
 unfold spsB at h
 rw [List.append_assoc] at h
 obtain⟨q1,e1,a1⟩:=r_num hB (by omega) (by omega) h
 have hg:=flat_ge (e:=spB) (l:=l) λx _=>spB_pos x
 have hr:=a1.len
 rw [List.length_append] at hr
 have hB2:=hB
 rw [lim_eq] at hB2
 obtain⟨q2,e2,a2⟩:=r_spans hB (l:=l) (out:=[]) 0 hx (by rw [lim_eq]; simp only [List.length_nil]; omega) a1
 refine⟨q2,?_,a2⟩
 unfold m_code_take_api_Span m_code_take_api_Span_j1 optm
 rw [e1,Option.bind_some]
 simp only
 rw [w64_i (x:=((B.length:Nat):Int) - q1) (by unfold I64; omega),bif_f (by rw [decide_eq_false_iff_not]; omega),Int.toNat_natCast,e2]; rfl
theorem r_ver{p:Int}{v:Ver}{rest:List UInt8}(hv:VeOk v)(h:At B p (veB v++rest)):∃q,m_code_reader_ver ⟨B,p⟩=some (some (⟨B,q⟩,v))∧At B q rest:=by
 have hs:=hv.s
 have hn:=hv.n
 unfold veB at h
 simp only [List.append_assoc] at h
 obtain⟨q1,e1,a1⟩:=r_int hB (by omega) (by omega) h
 obtain⟨q2,e2,a2⟩:=r_num hB (by omega) (by omega) a1
 obtain⟨q3,e3,a3⟩:=r_sps hB hv.past hv.pl a2
 unfold m_code_reader_ver m_code_reader_ver_j1 optm
 rw [e1,Option.bind_some]
 simp only
 rw [e2,Option.bind_some]
 simp only
 rw [e3,Option.bind_some]
 simp only
 have hgo:=hv.gone
 obtain⟨⟨ds,dn⟩,past,gone,val⟩:=v
 simp only at a3 hgo ⊢
 cases gone with
 | true=>
  simp only [cond_true] at a3
  obtain⟨q4,e4,a4⟩:=r_num hB (by omega) (by omega) a3
  refine⟨q4,?_,a4⟩
  rw [e4,Option.bind_some]
  simp only
  rw [bif_f (by decide),bif_t (by decide),hgo rfl]
 | false=>
  simp only [cond_false,List.append_assoc] at a3
  obtain⟨q4,e4,a4⟩:=r_num hB (by omega) (by omega) a3
  obtain⟨q5,e5,a5⟩:=r_text hB hv.val a4
  refine⟨q5,?_,a5⟩
  rw [e4,Option.bind_some]
  simp only
  rw [bif_t (by decide),e5,Option.bind_some]
theorem r_vers:∀{l:List Ver} {out:List Ver} {p:Int} {rest:List UInt8} (i:Nat),(∀x∈l,VeOk x)→out.length+l.length≤lim→At B p ((l.map veB).flatten++rest) →
  ∃q,forU m_code_take_api_Ver_b2 (λ(out_20,o25)=>some (some (o25,out_20))) l.length i (out,⟨B,p⟩)=some (some (⟨B,q⟩,out++l))∧At B q rest
 | [],out,p,rest,i,_,_,h=>⟨p,by show some (some ((⟨B,p⟩:Ocode_reader),out))=_; rw [List.append_nil],h⟩
 | x::l,out,p,rest,i,hx,hl,h=>by
  rw [List.length_cons] at hl
  rw [List.map_cons,List.flatten_cons,List.append_assoc] at h
  obtain⟨q1,e1,a1⟩:=r_ver hB (hx x List.mem_cons_self) h
  obtain⟨q2,e2,a2⟩:=r_vers (l:=l) (out:=out++[x]) (i+1) (λy hy=>hx y (List.mem_cons_of_mem _ hy)) (by rw [List.length_append,List.length_singleton]; omega) a1
  refine⟨q2,?_,a2⟩
  show m_code_take_api_Ver_b2 (forU m_code_take_api_Ver_b2 (λ(out_20,o25)=>some (some (o25,out_20))) l.length (i+1)) i (out,⟨B,p⟩)=_
  rw [List.append_assoc] at e2
  generalize forU m_code_take_api_Ver_b2 (λ(out_20,o25)=>some (some (o25,out_20))) l.length (i+1)=f at e2 ⊢
  unfold m_code_take_api_Ver_b2 optm
  simp only
  rw [e1,Option.bind_some]
  simp only
  rw [chk_t (decide_eq_true (by omega)),e2]; rfl
theorem r_ves{p:Int}{l:List Ver}{rest:List UInt8}(hx:∀x∈l,VeOk x)(hl:l.length≤512)(h:At B p (vesB l++rest)):∃q,m_code_take_api_Ver ⟨B,p⟩=some (some (⟨B,q⟩,l))∧At B q rest:=by
 unfold vesB at h
 rw [List.append_assoc] at h
 obtain⟨q1,e1,a1⟩:=r_num hB (by omega) (by omega) h
 have hg:=flat_ge (e:=veB) (l:=l) λx _=>veB_pos x
 have hr:=a1.len
 rw [List.length_append] at hr
 have hB2:=hB
 rw [lim_eq] at hB2
 obtain⟨q2,e2,a2⟩:=r_vers hB (l:=l) (out:=[]) 0 hx (by rw [lim_eq]; simp only [List.length_nil]; omega) a1
 refine⟨q2,?_,a2⟩
 unfold m_code_take_api_Ver m_code_take_api_Ver_j1 optm
 rw [e1,Option.bind_some]
 simp only
 rw [w64_i (x:=((B.length:Nat):Int) - q1) (by unfold I64; omega),bif_f (by rw [decide_eq_false_iff_not]; omega),Int.toNat_natCast,e2]; rfl
theorem r_rec{p:Int}{r:Rec}{rest:List UInt8}(hr:ReOk r)(h:At B p (reB r++rest)):∃q,m_code_reader_rec ⟨B,p⟩=some (some (⟨B,q⟩,r))∧At B q rest:=by
 have hk:=hr.key
 unfold reB at h
 rw [List.append_assoc] at h
 obtain⟨q1,e1,a1⟩:=r_text hB (by omega) h
 obtain⟨q2,e2,a2⟩:=r_ves hB hr.vers hr.vl a1
 refine⟨q2,?_,a2⟩
 unfold m_code_reader_rec optm
 rw [e1,Option.bind_some]
 simp only
 rw [e2,Option.bind_some]
end
theorem e_Rec{r:Rec}(hr:ReOk r)(h:m_code_RightRec r=some true):m_code_Rec (reB r)=some (r,0):=by
 have hl:=reB_len hr
 obtain⟨q,e,a⟩:=r_rec (B:=reB r) (by rw [lim_eq]; omega) (p:=0) (rest:=[]) hr ⟨0,rfl,Nat.zero_le _,by rw [List.append_nil]; rfl⟩
 have hq:=a.end_
 unfold m_code_Rec m_code_whole_api_Rec m_code_whole_api_Rec_j1 optm
 rw [e,Option.bind_some]
 simp only
 rw [hq,show (((reB r).length:Int) != ((reB r).length:Int))=false by simp,h]
 rfl
theorem e_Rec_nil:m_code_Rec []=some (⟨ByteArray.empty,[]⟩,2):=by decide
def Only(nm:ByteArray)(g:Nat)(bs:Bs)(es:Mp):Prop:=Has nm g bs es∧∀k,(mget k es).isSome=true→∃j,1≤j∧j≤999999∧k=fn nm g j
section
variable {R N:Nat} {d:Dk} {nm:ByteArray} {g:Nat} {bs:Bs} {es:Mp}
theorem Only.own(h:Only nm g bs es):Own1 nm g es:=λk hk=>.inr (h.2 k hk)
theorem Only.ks(h:Only nm g bs es)(hnm:Nm nm)(hg:g≤999999):Ks es:=λk hk=>by
 obtain⟨j,_,j2,e⟩:=h.2 k hk
 rw [e]; exact okn_fn hnm hg j2
theorem Only.list(h:Only nm g bs d.seen)(hnm:Nm nm):fb d (mn nm) = []:=by
 unfold fb
 cases hs:mget (mn nm) d.seen with
 | none=>rfl
 | some v=>
  obtain⟨j,_,_,e⟩:=h.2 _ (by rw [hs]; rfl)
  exact absurd e (mn_fn hnm hnm)
theorem Only.nil:Only nm g [] []:=⟨⟨Nat.zero_le _,λk _ _=>rfl⟩,λk hk=>by cases hk⟩
theorem Only.add{size:Int}{f:List UInt8}(h:Only nm g bs d.seen)(hnm:Nm nm)(hp:pnum size bs f≤999999):Only nm g (addP size bs f) (dAdd d nm g size bs f).seen:=by
 refine⟨AppR.has hnm h.1 hp,λk hk=>?_⟩
 by_cases e:k=fn nm g (pnum size bs f)
 ·exact⟨_,pnum_pos _ _ _,hp,e⟩
 ·rw [add_other e] at hk; exact h.2 k hk
theorem Only.len(h:Only nm g bs es)(hnm:Nm nm)(hn:NK es):es.length=bs.length:=by
 have h1:(es.map (·.1)).Nodup:=hn
 have h2:((List.range bs.length).map λj=>fn nm g (j+1)).Nodup:=by
  refine List.Pairwise.map _ (R:=λa b=>a≠b) (λa b hab e=>hab ?_) List.nodup_range
  have:=(fn_inj hnm hnm e).2.2; omega
 have h3:(es.map (·.1)).Perm ((List.range bs.length).map λj=>fn nm g (j+1)):=by
  rw [List.perm_ext_iff_of_nodup h1 h2]
  intro k
  rw [← mget_isSome,List.mem_map]
  constructor
  ·intro hk
   obtain⟨j,j1,j2,e⟩:=h.2 k hk
   rw [e,h.1.2 j j1 j2] at hk
   refine⟨j - 1,List.mem_range.2 ?_,by rw [e,show j - 1+1=j by omega]⟩
   rcases Nat.lt_or_ge (j - 1) bs.length with hlt | hge
   ·exact hlt
   ·rw [List.getElem?_eq_none hge] at hk; cases hk
  ·rintro⟨j,hj,rfl⟩
   have hj:=List.mem_range.1 hj
   have:=h.1.1
   rw [h.1.2 (j+1) (by omega) (by omega),Nat.add_sub_cancel,List.getElem?_eq_getElem hj]; rfl
 have:=h3.length_eq
 simpa using this
end
theorem nm_of{l:List UInt8}(h1:1≤l.length)(h2:l.length≤2)(h:ND l):Nm ⟨l.toArray⟩:=⟨h1,h2,h⟩
theorem nm1{c:UInt8}(h:c≠46):Nm ⟨#[c]⟩:=⟨by show 1≤1; omega,by show 1≤2; omega,λx hx=>by rw [List.mem_singleton.1 hx]; exact h⟩
def Rt(r:Rec):Prop:=m_code_RightRec r=some true∧ReOk r
def layM(m:Mp)(r:Rec):Mp:=if r.vers = [] then mdel r.key m else mput r.key (reB r) (mdel r.key m)
def keysOf(l:List Rec):Mp:=l.foldl layM []
theorem keysOf_snoc(l:List Rec)(r:Rec):keysOf (l++[r])=layM (keysOf l) r:=by unfold keysOf; rw [List.foldl_append]; rfl
theorem e_lay(g:Oseglog_Log)(m:Mp)(r:Rec):m_store_Store_lay ⟨g,m⟩ r (reB r)=some ⟨g,layM m r⟩:=by
 unfold m_store_Store_lay layM
 cases hv:r.vers with
 | nil=>rw [bif_f (by decide),if_pos rfl]
 | cons x l=>rw [bif_t (by rw [List.length_cons,decide_eq_true_eq]; omega),if_neg (by simp)]
structure KI (m:Mp):Prop where
 nk:NK m
 en:∀k b,mget k m=some b→∃r,Rt r∧r.key=k∧r.vers≠[]∧b=reB r
theorem KI.nil:KI []:=⟨NK.nil,λk b h=>by cases h⟩
theorem KI.lay{m:Mp}(h:KI m){r:Rec}(hr:Rt r):KI (layM m r):=by
 unfold layM
 by_cases hv:r.vers = []
 ·rw [if_pos hv]
  refine⟨h.nk.del,λk b hb=>?_⟩
  rw [mget_mdel h.nk] at hb
  split at hb
  ·cases hb
  ·exact h.en k b hb
 ·rw [if_neg hv]
  refine⟨h.nk.del.put,λk b hb=>?_⟩
  rw [mget_mput] at hb
  by_cases hk:k=r.key
  ·rw [if_pos hk] at hb
   injection hb with hb
   exact⟨r,hr,hk.symm,hv,hb.symm⟩
  ·rw [if_neg hk,mget_mdel h.nk,if_neg hk] at hb
   exact h.en k b hb
theorem KI.fold:∀{l:List Rec} {m:Mp},KI m→(∀r∈l,Rt r)→KI (l.foldl layM m)
 | [],m,h,_=>h
 | r::l,m,h,hl=>KI.fold (l:=l) (h.lay (hl r List.mem_cons_self)) λx hx=>hl x (List.mem_cons_of_mem _ hx)
theorem KI.of{l:List Rec}(h:∀r∈l,Rt r):KI (keysOf l):=KI.nil.fold h
theorem lay_len(m:Mp)(r:Rec):(layM m r).length≤m.length+1:=by
 unfold layM
 have h:=len_mdel (x:=r.key) (es:=m)
 split
 ·omega
 ·have:=len_mput (x:=r.key) (v:=reB r) (es:=mdel r.key m); omega
theorem keys_len:∀(l:List Rec) (m:Mp),(l.foldl layM m).length≤m.length+l.length
 | [],m=>Nat.le_refl _
 | r::l,m=>by
  have h1:=keys_len l (layM m r)
  have h2:=lay_len m r
  rw [List.foldl_cons,List.length_cons]; omega
theorem keysOf_len(l:List Rec):(keysOf l).length≤l.length:=by have:=keys_len l []; simpa [keysOf] using this
def decV(b:List UInt8):List Ver:=match m_code_Rec b with
 | some z=>z.1.vers
 | none=>[]
def recsOf(m:Mp):List Rec:=(skeys m).map λk=>⟨k,decV ((mget k m).getD [])⟩
theorem e_Get{g:Oseglog_Log}{m:Mp}(h:KI m)(k:ByteArray):m_store_Store_Get ⟨g,m⟩ k=some (decV ((mget k m).getD [])):=by
 unfold m_store_Store_Get decV
 simp only
 cases hg:mget k m with
 | none=>rw [Option.getD_none,e_Rec_nil]; rfl
 | some b=>
  obtain⟨r,hr,_,_,rfl⟩:=h.en k b hg
  rw [Option.getD_some,e_Rec hr.2 hr.1]; rfl
theorem recs_loop{g:Oseglog_Log}{m:Mp}(h:KI m):∀(l:List ByteArray) (i:Nat) (out:List Rec),out.length+l.length≤lim→forI (m_store_Store_Recs_b1 ⟨g,m⟩) (λout_13=>some out_13) i l out=some (out++l.map λk=>⟨k,decV ((mget k m).getD [])⟩)
 | [],i,out,_=>by show some out=_; rw [List.map_nil,List.append_nil]
 | k::l,i,out,hl=>by
  rw [List.length_cons] at hl
  have ih:=recs_loop (g:=g) h l (i+1) (out++[⟨k,decV ((mget k m).getD [])⟩]) (by rw [List.length_append,List.length_singleton]; omega)
  show m_store_Store_Recs_b1 ⟨g,m⟩ (forI (m_store_Store_Recs_b1 ⟨g,m⟩) (λout_13=>some out_13) (i+1) l) i k out=_
  generalize forI (m_store_Store_Recs_b1 ⟨g,m⟩) (λout_13=>some out_13) (i+1) l=f at ih ⊢
  unfold m_store_Store_Recs_b1
  rw [e_Get h,Option.bind_some,chk_t (decide_eq_true (by omega)),ih,List.append_assoc]; rfl
theorem e_Keys{g:Oseglog_Log}{m:Mp}(hm:m.length≤lim):m_store_Store_Keys ⟨g,m⟩=some (skeys m):=chk_t (decide_eq_true hm)
theorem e_Recs{g:Oseglog_Log}{m:Mp}(h:KI m)(hm:m.length≤lim):m_store_Store_Recs ⟨g,m⟩=some (recsOf m):=by
 unfold m_store_Store_Recs
 rw [e_Keys hm,Option.bind_some,recs_loop h _ 0 [] (by rw [skeys_len]; simpa using hm)]; rfl
theorem rec_mem{m:Mp}(h:KI m){x:Rec}(hx:x∈recsOf m):Rt x∧x.vers≠[]∧mget x.key m=some (reB x):=by
 unfold recsOf at hx
 obtain⟨k,hk,rfl⟩:=List.mem_map.1 hx
 rw [mem_skeys, ← mget_isSome] at hk
 cases hg:mget k m with
 | none=>rw [hg] at hk; cases hk
 | some b=>
  obtain⟨r,hr,rfl,hv,rfl⟩:=h.en k b hg
  have hd:decV (reB r)=r.vers:=by unfold decV; rw [e_Rec hr.2 hr.1]
  simp only [Option.getD_some,hd]
  exact⟨hr,hv,trivial⟩
theorem recs_nd{m:Mp}(h:KI m):(recsOf m).Pairwise λa b=>a.key≠b.key:=by
 unfold recsOf
 exact List.Pairwise.map _ (λa b hab=>hab) (skeys_nd h.nk)
theorem recs_len(m:Mp):(recsOf m).length=m.length:=by unfold recsOf; rw [List.length_map,skeys_len]
theorem e_sp(a:List Span):m_firthref03_Same a a=some true:=by
 unfold m_firthref03_Same
 rw [bif_f (by simp)]
 obtain⟨r,h,rfl⟩:=forI_ex (body:=m_firthref03_Same_b1 a) (K:=λ_=>some true) (P:=λb=>b=true) (l:=a) (λ_ _=>True) (λs _=>⟨_,rfl,rfl⟩) (λf i t hi _ hf=>by
  unfold m_firthref03_Same_b1
  rw [chk_t (decide_eq_true hi),bif_f (by simp)]
  exact hf _ trivial) (s:=()) trivial
 exact h
theorem e_one(a:Ver):m_firthref05_SameOne a a=some true:=by
 unfold m_firthref05_SameOne
 rw [e_sp,gcall_s,Option.bind_some]
 have:(((a.dot==a.dot)&&(a.gone==a.gone))&&(a.val==a.val))=true:=by simp
 rw [this]; rfl
theorem e_ves(a:List Ver):m_firthref05_Same a a=some true:=by
 unfold m_firthref05_Same
 rw [bif_f (by simp)]
 obtain⟨r,h,rfl⟩:=forI_ex (body:=m_firthref05_Same_b1 a) (K:=λ_=>some true) (P:=λb=>b=true) (l:=a) (λ_ _=>True) (λs _=>⟨_,rfl,rfl⟩) (λf i t hi _ hf=>by
  unfold m_firthref05_Same_b1
  rw [chk_t (decide_eq_true hi),e_one,Option.bind_some,show (!true)=false from rfl,bif_f rfl]
  exact hf _ trivial) (s:=()) trivial
 exact h
theorem e_same(a:List Rec):m_firthref06_SameRecs a a=some true:=by
 unfold m_firthref06_SameRecs
 rw [bif_f (by simp)]
 obtain⟨r,h,rfl⟩:=forI_ex (body:=m_firthref06_SameRecs_b1 a) (K:=λ_=>some true) (P:=λb=>b=true) (l:=a) (λ_ _=>True) (λs _=>⟨_,rfl,rfl⟩) (λf i t hi _ hf=>by
  unfold m_firthref06_SameRecs_b1
  rw [chk_t (decide_eq_true hi),e_ves,gcall_s,Option.bind_some]
  have:((gt a i).key != (gt a i).key)=false:=by simp
  rw [this,show (false||!bif !false then true else default)=false from rfl,bif_f rfl]
  exact hf _ trivial) (s:=()) trivial
 exact h
structure StI (nm:ByteArray) (size:Int) (R N:Nat) (e:Dk) (s:Ostore_Store) (L:List Rec):Prop where
 di:DI R N e
 lo:e.loose = []
 st:s=⟨lg nm 0 size (bsOf size (L.map reB)) L.length,keysOf L⟩
 rt:∀r∈L,Rt r
 rk:Rk (L.map reB)
 on:Only nm 0 (bsOf size (L.map reB)) e.seen
 ln:L.length≤N
section
variable {nm:ByteArray} {size:Int} {R N:Nat} {e:Dk} {s:Ostore_Store} {L:List Rec}
theorem StI.mono(h:StI nm size R N e s L){M:Nat}(hm:N≤M):StI nm size R M e s L:=⟨h.di.mono hm,h.lo,h.st,h.rt,h.rk,h.on,Nat.le_trans h.ln hm⟩
theorem open_loop{z:Dk×Option Oseglog_Log×Bs×Int}{g:Oseglog_Log}:∀(L:List Rec) (i:Nat) (m:Mp),(∀r∈L,Rt r)→forI (m_store_Open_b1 z) (λo28=>some (z.1,some o28,0)) i (L.map reB) ⟨g,m⟩=some (z.1,some ⟨g,L.foldl layM m⟩,0)
 | [],i,m,_=>rfl
 | r::L,i,m,h=>by
  have hr:=h r List.mem_cons_self
  have ih:=open_loop (z:=z) (g:=g) L (i+1) (layM m r) λx hx=>h x (List.mem_cons_of_mem _ hx)
  show m_store_Open_b1 z (forI (m_store_Open_b1 z) (λo28=>some (z.1,some o28,0)) (i+1) (L.map reB)) i (reB r) ⟨g,m⟩=_
  generalize forI (m_store_Open_b1 z) (λo28=>some (z.1,some o28,0)) (i+1) (L.map reB)=f at ih ⊢
  unfold m_store_Open_b1
  rw [e_Rec hr.2 hr.1,Option.bind_some]
  simp only
  rw [bif_f (by decide),e_lay,Option.bind_some,ih]; rfl
theorem e_SOpen{d d':Dk}{g:Oseglog_Log}{L:List Rec}(h:m_seglog_Open d nm size=some (d',some g,L.map reB,0))(hL:∀r∈L,Rt r):m_store_Open d nm size=some (d',some ⟨g,keysOf L⟩,0):=by
 unfold m_store_Open
 rw [h,Option.bind_some]
 simp only
 rw [bif_f (by decide),Option.bind_some]
 exact open_loop L 0 [] hL
end
theorem dcrash_clean{d:Dk}{R N:Nat}(h:DI R N d)(hl:d.loose = [])(keep torn:Int):dCrash d keep torn=d:=by
 have h1:d.safe_=d.seen:=by rw [h.see,hl]; rfl
 have h2:crashM d keep torn=d.seen:=by
  have hk:cK d keep=0:=by have:=cK_le (d:=d) keep; rw [hl] at this; simpa using this
  unfold crashM
  rw [hk,hl]
  have:cT d 0 torn=false:=by unfold cT; rw [hl]; rfl
  rw [this, ← h1]; rfl
 unfold dCrash
 rw [h2]
 obtain⟨a,b,c,l⟩:=d
 simp only at h1 hl ⊢
 rw [h1,hl]
def okF:ByteArray:=⟨#[111,107]⟩
theorem okn_okF:okn okF=true:=by decide
theorem okF_fn{nm:ByteArray}(h:Nm nm){g k:Nat}(hg:g≤999999)(hk:k≤999999):okF≠fn nm g k:=λe=>by
 have:=(fn_size h hg hk).1
 rw [← e] at this
 exact absurd this (by decide)
theorem okF_mn{nm:ByteArray}(h:Nm nm):okF≠mn nm:=λe=>by
 have:=(mn_size h).1
 rw [← e] at this
 exact absurd this (by decide)
theorem pf_okF(nm:ByteArray):pf nm okF=none:=by
 unfold pf
 rw [cutP_ne (λx e2=>by
  have h1:(46:UInt8)∈okF.data.toList:=by
   rw [e2,bl_app]
   exact List.mem_append_left _ (List.mem_append_right _ (by decide))
  exact absurd h1 (by decide))]
 rfl
abbrev Tab:=ByteArray→Option (List Rec)
def st(nm:ByteArray)(size:Int)(L:List Rec):Ostore_Store:=⟨lg nm 0 size (bsOf size (L.map reB)) L.length,keysOf L⟩
def upd1(S:Tab)(nm:ByteArray)(L:List Rec):Tab:=λk=>if k=nm then some L else S k
structure Good1 (nm:ByteArray) (size:Int) (N:Nat) (L:List Rec) (es:Mp):Prop where
 nok:Nm nm
 has:Has nm 0 (bsOf size (L.map reB)) es
 rt:∀r∈L,Rt r
 rk:Rk (L.map reB)
 ln:L.length≤N
structure NdI (size:Int) (R N:Nat) (e:Dk) (S:Tab):Prop where
 di:DI R N e
 lo:e.loose = []
 g:∀nm L,S nm=some L→Good1 nm size N L e.seen
 own:∀k,(mget k e.seen).isSome=true→k=okF∨∃nm L j,S nm=some L∧1≤j∧j≤999999∧k=fn nm 0 j
section
variable {size:Int} {R N:Nat} {e:Dk} {S:Tab} {nm:ByteArray} {L:List Rec}
theorem NdI.mono(h:NdI size R N e S){M:Nat}(hm:N≤M):NdI size R M e S:=
 ⟨h.di.mono hm,h.lo,λnm L q=>⟨(h.g nm L q).nok,(h.g nm L q).has,(h.g nm L q).rt,(h.g nm L q).rk,Nat.le_trans (h.g nm L q).ln hm⟩,h.own⟩
theorem NdI.tab(h:NdI size R N e S){S':Tab}(hS:∀k,S' k=S k):NdI size R N e S':=by
 have:S'=S:=funext hS
 rw [this]; exact h
theorem NdI.ks(h:NdI size R N e S):Ks e.seen:=λk hk=>by
 rcases h.own k hk with e1 | ⟨nm,L,j,h1,h2,h3,e1⟩
 ·rw [e1]; exact okn_okF
 ·rw [e1]; exact okn_fn (h.g nm L h1).nok (Nat.zero_le _) h3
theorem NdI.own1(h:NdI size R N e S)(hS:S nm=some L):Own1 nm 0 e.seen:=λk hk=>by
 rcases h.own k hk with e1 | ⟨nm',L',j,h1,h2,h3,e1⟩
 ·rw [e1]; exact .inl (pf_okF nm)
 ·by_cases hn:nm=nm'
  ·subst hn; exact .inr ⟨j,h2,h3,e1⟩
  ·rw [e1]; exact .inl (pf_other (h.g nm L hS).nok (h.g nm' L' h1).nok hn 0 j)
theorem NdI.list(h:NdI size R N e S)(hS:S nm=some L):fb e (mn nm) = []:=by
 have hnm:=(h.g nm L hS).nok
 unfold fb
 cases hs:mget (mn nm) e.seen with
 | none=>rfl
 | some v=>
  rcases h.own (mn nm) (by rw [hs]; rfl) with e1 | ⟨nm',L',j,h1,h2,h3,e1⟩
  ·exact absurd e1.symm (okF_mn hnm)
  ·exact absurd e1 (mn_fn hnm (h.g nm' L' h1).nok)
theorem NdI.open_(h:NdI size R N e S)(hS:S nm=some L)(hR:R≤MX)(hN:4*N+10≤lim){sz:Int}(hs:size=max sz 16):m_store_Open e nm sz=some (e,some (st nm size L),0):=by
 have hg:=h.g nm L hS
 obtain⟨d',h1,h2,h3,h4,h5,h6,h7⟩:=e_Open h.di hR hN hg.nok h.ks sz (gl:=[]) (e0:=0) (g:=0) (bs:=bsOf size (L.map reB)) (Nat.zero_le _) (by rw [h.list hS]; rfl) rfl hg.has (h.own1 hS)
 rw [scan_bsOf _ hg.rk] at h1 h7
 rw [h7 rfl,List.length_map, ← hs] at h1
 rw [e_SOpen h1 hg.rt]; rfl
theorem NdI.put(h:NdI size R N e S)(hS:S nm=some L)(hR:R≤MX)(hs0:0≤size)(hs1:size≤9223372036854775807)(hN:N+1≤lim){r:Rec}(hl:r.vers.length≤lim):∃L' e' c,m_store_Store_Put (st nm size L) r e=some (st nm size L',e',c)∧NdI size R (N+1) e' (upd1 S nm L')∧mget okF e'.seen=mget okF e.seen ∧
  (c=0→L'=L++[r]∧Rt r∧Fw.sz e'.seen=Fw.sz e.seen+(fr (reB r)).length)∧(c≠0→L'=L∧e'=e)∧(Rt r→(reB r).length≤1048576→L.length<999999→Fw.sz e.seen+(fr (reB r)).length≤R→c=0):=by
 rw [lim_eq] at hN
 have hg:=h.g nm L hS
 have hln:=hg.ln
 have same:NdI size R (N+1) e (upd1 S nm L):=(h.mono (Nat.le_succ _)).tab λk=>by
  unfold upd1; by_cases hk:k=nm
  ·rw [if_pos hk,hk,hS]
  ·rw [if_neg hk]
 unfold m_store_Store_Put m_store_Store_Put_j1
 rcases e_PutRec hl with hp | ⟨hr,hro,hp⟩
 ·rw [hp,Option.bind_some]
  simp only
  rw [bif_f (by decide),bif_t (by decide)]
  refine⟨L,e,1,rfl,same,rfl,λhc=>absurd hc (by decide),λ_=>⟨rfl,rfl⟩,λhr=>?_⟩
  exfalso
  have:=hr.1
  unfold m_code_PutRec at hp
  rw [this,Option.bind_some,show (!true)=false from rfl,bif_f rfl,e_writer hr.2] at hp
  simp at hp
 ·rw [hp,Option.bind_some]
  simp only
  rw [bif_t (by decide)]
  obtain⟨z,a1,a2,a3⟩:=e_LApp h.di hR (by rw [lim_eq]; omega) hg.nok (g:=0) (Nat.zero_le _) hs0 hs1 hg.has (cnt:=L.length) (by omega) (reB r)
  rw [show (st nm size L).log=lg nm 0 size (bsOf size (L.map reB)) L.length from rfl,show (st nm size L).keys=keysOf L from rfl,a1,Option.bind_some]
  have hbl:=bsOf_len size (L.map reB)
  rw [List.length_map] at hbl
  have bad:∀c:Int,c≠0→(1048576<(reB r).length∨999999≤L.length∨R<Fw.sz e.seen+(fr (reB r)).length)→z=(lg nm 0 size (bsOf size (L.map reB)) L.length,e,c)→∃L' e' c,(bif (z.2.2 != 0) then some ((⟨z.1,keysOf L⟩:Ostore_Store),z.2.1,z.2.2) else Option.bind (m_seglog_Log_Sync (⟨z.1,keysOf L⟩:Ostore_Store).log z.2.1) λz54=>Option.bind (m_store_Store_lay (⟨z.1,keysOf L⟩:Ostore_Store) r (reB r)) λz63=>some (z63,z54,0))=some (st nm size L',e',c)∧NdI size R (N+1) e' (upd1 S nm L')∧mget okF e'.seen=mget okF e.seen ∧
    (c=0→L'=L++[r]∧Rt r∧Fw.sz e'.seen=Fw.sz e.seen+(fr (reB r)).length)∧(c≠0→L'=L∧e'=e)∧(Rt r→(reB r).length≤1048576→L.length<999999→Fw.sz e.seen+(fr (reB r)).length≤R→c=0):=by
   rintro c hc why rfl
   rw [bif_t (by simpa using hc)]
   exact⟨L,e,c,rfl,same,rfl,λh0=>absurd h0 hc,λ_=>⟨rfl,rfl⟩,λ_ q1 q2 q3=>by omega⟩
  cases a2 with
  | long q=>exact bad 3 (by decide) (.inl q) rfl
  | many _ q=>
   have:=pnum_le size (bsOf size (L.map reB)) (fr (reB r))
   exact bad 72 (by decide) (.inr (.inl (by omega))) rfl
  | full _ _ q=>exact bad 72 (by decide) (.inr (.inr q)) rfl
  | ok q1 q2 q3=>
   rw [bif_f (by simp)]
   simp only
   unfold m_seglog_Log_Sync
   rw [e_Sync,Option.bind_some,Option.bind_some,e_lay,Option.bind_some]
   have hpos:=pnum_pos size (bsOf size (L.map reB)) (fr (reB r))
   have hoth:∀k,k≠fn nm 0 (pnum size (bsOf size (L.map reB)) (fr (reB r)))→mget k (dSync (dAdd e nm 0 size (bsOf size (L.map reB)) (fr (reB r)))).seen=mget k e.seen:=λk hk=>add_other hk
   have hrk:Rk ((L++[r]).map reB):=λx hx=>by
    rw [List.map_append,List.map_singleton] at hx
    rcases List.mem_append.1 hx with hx | hx
    ·exact hg.rk x hx
    ·rw [List.mem_singleton.1 hx]; exact q1
   refine⟨L++[r],_,0,?_,⟨a3.sync,rfl,λnm' L' hS'=>?_,λk hk=>?_⟩,hoth okF (okF_fn hg.nok (Nat.zero_le _) q2),λ_=>⟨rfl,⟨hr,hro⟩,add_sz⟩,λh0=>absurd rfl h0,λ_ _ _ _=>rfl⟩
   ·unfold st
    rw [List.map_append,List.map_singleton,bsOf_snoc,keysOf_snoc,List.length_append,List.length_singleton]
   ·unfold upd1 at hS'
    by_cases hn:nm'=nm
    ·rw [if_pos hn] at hS'
     injection hS' with hS'
     subst hS'; subst hn
     refine⟨hg.nok,?_,λx hx=>?_,hrk,by rw [List.length_append,List.length_singleton]; omega⟩
     ·rw [List.map_append,List.map_singleton,bsOf_snoc]
      exact AppR.has hg.nok hg.has q2
     ·rcases List.mem_append.1 hx with hx | hx
      ·exact hg.rt x hx
      ·rw [List.mem_singleton.1 hx]; exact⟨hr,hro⟩
    ·rw [if_neg hn] at hS'
     have g':=h.g nm' L' hS'
     refine⟨g'.nok,⟨g'.has.1,λk k1 k2=>?_⟩,g'.rt,g'.rk,Nat.le_succ_of_le g'.ln⟩
     rw [hoth _ λe1=>hn (fn_inj g'.nok hg.nok e1).1]
     exact g'.has.2 k k1 k2
   ·by_cases e1:k=fn nm 0 (pnum size (bsOf size (L.map reB)) (fr (reB r)))
    ·exact .inr ⟨nm,L++[r],_,by unfold upd1; rw [if_pos rfl],hpos,q2,e1⟩
    ·rw [hoth k e1] at hk
     rcases h.own k hk with e2 | ⟨nm',L',j,h1,h2,h3,e2⟩
     ·exact .inl e2
     ·by_cases hn:nm'=nm
      ·exact .inr ⟨nm,L++[r],j,by unfold upd1; rw [if_pos rfl],h2,h3,by rw [e2,hn]⟩
      ·exact .inr ⟨nm',L',j,by unfold upd1; rw [if_neg hn,h1],h2,h3,e2⟩
theorem NdI.mark(h:NdI size R N e S)(hR:R≤MX):m_disk_Disk_Read e okF=some ((mget okF e.seen).getD [],(mget okF e.seen).isSome):=e_Rd h.di hR okF
end
def dN:ByteArray:=⟨#[100]⟩
def hn(f:Nat):ByteArray:=⟨#[104,UInt8.ofNat (48+f)]⟩
theorem nm_dN:Nm dN:=nm1 (by decide)
theorem to8{f:Nat}(h:1≤f)(h8:f≤8):f=1∨f=2∨f=3∨f=4∨f=5∨f=6∨f=7∨f=8:=by omega
theorem hn_dN(f:Nat):hn f≠dN:=λe=>by
 have h1:(hn f).size=dN.size:=congrArg _ e
 have h2:(hn f).size=2:=rfl
 have h3:dN.size=1:=rfl
 omega
theorem hn_eq{f:Nat}(h:1≤f)(h8:f≤8):((⟨#[104]⟩:ByteArray)++(⟨(ds f).toArray⟩:ByteArray))=hn f:=by
 have hd:ds f = [UInt8.ofNat (48+f)]:=by
  unfold ds
  rw [show f / 10=0 by omega,dz_0,show f % 10=f by omega]; rfl
 refine ba_inj ?_
 rw [bl_app,hd]; rfl
def tab(Lo:List Rec)(Lh:Nat→List Rec):Tab:=λk=>if k=dN then some Lo else ((List.range' 1 8).find? λf=>decide (k=hn f)).map Lh
def updH(Lh:Nat→List Rec)(f:Nat)(L:List Rec):Nat→List Rec:=λg=>if g=f then L else Lh g
section
variable {Lo:List Rec} {Lh:Nat→List Rec}
theorem tab_d:tab Lo Lh dN=some Lo:=if_pos rfl
theorem tab_h{f:Nat}(h:1≤f)(h8:f≤8):tab Lo Lh (hn f)=some (Lh f):=by
 unfold tab
 rw [if_neg (hn_dN f)]
 have:(List.range' 1 8).find? (λg=>decide (hn f=hn g))=some f:=by
  rcases to8 h h8 with rfl | rfl | rfl | rfl | rfl | rfl | rfl | rfl <;> decide
 rw [this]; rfl
theorem upd_d(L:List Rec):upd1 (tab Lo Lh) dN L=tab L Lh:=by
 funext k
 unfold upd1 tab
 by_cases hk:k=dN
 ·rw [if_pos hk,if_pos hk]
 ·rw [if_neg hk,if_neg hk,if_neg hk]
theorem upd_h{f:Nat}(h:1≤f)(h8:f≤8)(L:List Rec):upd1 (tab Lo Lh) (hn f) L=tab Lo (updH Lh f L):=by
 funext k
 by_cases hk:k=hn f
 ·subst hk
  rw [tab_h h h8]
  unfold upd1 updH
  rw [if_pos rfl,if_pos rfl]
 ·unfold upd1
  rw [if_neg hk]
  unfold tab
  by_cases hd:k=dN
  ·rw [if_pos hd,if_pos hd]
  ·rw [if_neg hd,if_neg hd]
   cases hf:(List.range' 1 8).find? (λg=>decide (k=hn g)) with
   | none=>rfl
   | some g=>
    have hg0:=List.find?_some (p:=λg=>decide (k=hn g)) hf
    have hg:k=hn g:=of_decide_eq_true hg0
    show some (Lh g)=some (updH Lh f L g)
    unfold updH
    rw [if_neg λe:g=f=>hk (e▸hg)]
end
def hl(self:Nat):List Nat:=(List.range' 1 8).filter λf=>decide (f≠self)
def hin(size:Int)(Lh:Nat→List Rec)(l:List Nat):List (Int×Ostore_Store):=l.map λf:Nat=>((f:Int),st (hn f) size (Lh f))
theorem mem_hl{self f:Nat}:f∈hl self↔1≤f∧f≤8∧f≠self:=by
 unfold hl
 rw [List.mem_filter,List.mem_range'_1,decide_eq_true_eq]; omega
theorem hl_nd(self:Nat):(hl self).Nodup:=List.Pairwise.filter _ List.nodup_range'
theorem mget_hin{size:Int}{Lh:Nat→List Rec}(f:Nat):∀l:List Nat,mget (f:Int) (hin size Lh l)=if f∈l then some (st (hn f) size (Lh f)) else none
 | []=>rfl
 | g::l=>by
  have ih:=mget_hin (size:=size) (Lh:=Lh) f l
  unfold hin at ih ⊢
  rw [List.map_cons]
  unfold mget
  by_cases hg:f=g
  ·subst hg; rw [if_pos rfl,if_pos List.mem_cons_self]
  ·rw [if_neg (by simp only; omega),ih]
   by_cases hm:f∈l
   ·rw [if_pos hm,if_pos (List.mem_cons_of_mem _ hm)]
   ·rw [if_neg hm,if_neg λh=>by rcases List.mem_cons.1 h with h | h; exact hg h; exact hm h]
theorem mput_hin{size:Int}{Lh:Nat→List Rec}{f:Nat}(L:List Rec):∀{l:List Nat},f∈l→l.Nodup→mput (f:Int) (st (hn f) size L) (hin size Lh l)=hin size (updH Lh f L) l
 | [],h,_=>by cases h
 | g::l,h,hn_=>by
  obtain⟨n1,n2⟩:=List.nodup_cons.1 hn_
  unfold hin
  rw [List.map_cons,List.map_cons]
  unfold mput
  by_cases hg:f=g
  ·subst hg
   rw [if_pos rfl]
   have:updH Lh f L f=L:=if_pos rfl
   rw [this]
   congr 1
   refine List.map_congr_left λx hx=>?_
   have:updH Lh f L x=Lh x:=if_neg λe:x=f=>n1 (e▸hx)
   rw [this]
  ·have hm:f∈l:=by rcases List.mem_cons.1 h with h | h; exact absurd h hg; exact h
   have ih:=mput_hin (size:=size) (Lh:=Lh) L hm n2
   unfold hin at ih
   have:updH Lh f L g=Lh g:=if_neg λe=>hg e.symm
   rw [if_neg (by simp only; omega),ih,this]
theorem mput_hin_new{size:Int}{Lh:Nat→List Rec}{f:Nat}{x:Ostore_Store}:∀{l:List Nat},f ∉ l→mput (f:Int) x (hin size Lh l)=hin size Lh l++[((f:Int),x)]
 | [],_=>rfl
 | g::l,h=>by
  have ih:=mput_hin_new (size:=size) (Lh:=Lh) (x:=x) (l:=l) λhm=>h (List.mem_cons_of_mem _ hm)
  have hg:f≠g:=by rintro rfl; exact h List.mem_cons_self
  unfold hin at ih ⊢
  rw [List.map_cons]
  conv=>lhs; unfold mput
  rw [if_neg (by simp only; omega),ih]; rfl
def tbl:List (Int×Nat):=mput 17 38 (mput 9 37 (mput 8 36 (mput 6 35 (mput 4 34 (mput 2 33 (mput 1 32 ([]:List (Int×Nat))))))))
def nd(life:Int)(self:Nat)(size:Int)(Lo:List Rec)(Lh:Nat→List Rec):Onode_Node:=⟨life,1,(self:Int),st dN size Lo,hin size Lh (hl self),tbl⟩
section
variable {size sz life:Int} {R N self:Nat} {e:Dk} {Lo:List Rec} {Lh:Nat→List Rec}
theorem rg_succ(self m:Nat):(List.range' 1 (m+1)).filter (λg=>decide (g≠self))=(List.range' 1 m).filter (λg=>decide (g≠self))++if m+1≠self then [m+1] else []:=by
 rw [List.range'_1_concat,List.filter_append,Nat.add_comm 1 m]
 congr 1
 by_cases hfs:m+1=self <;> simp [hfs]
theorem nopen_loop(h:NdI size R N e (tab Lo Lh))(hR:R≤MX)(hN:4*N+10≤lim)(hs:size=max sz 16):∀(k f F:Nat),f+k=9→1≤f →
  loopN (m_node_Open_b3 ⟨1,(self:Int)⟩ sz life (st dN size Lo)) (F+k+1) ((f:Int),hin size Lh ((List.range' 1 (f - 1)).filter λg=>decide (g≠self)),e)=some (e,some (nd life self size Lo Lh),0)
 | 0,f,F,hf,h1=>by
  rw [loopN_s]
  generalize loopN (m_node_Open_b3 ⟨1,(self:Int)⟩ sz life (st dN size Lo)) (F+0)=g
  unfold m_node_Open_b3
  simp only
  rw [bif_f (decide_eq_false (by omega)),show f - 1=8 by omega]; rfl
 | k+1,f,F,hf,h1=>by
  have ih:=nopen_loop h hR hN hs k (f+1) F (by omega) (by omega)
  rw [show F+(k+1)+1=(F+k+1)+1 by omega,loopN_s]
  generalize loopN (m_node_Open_b3 ⟨1,(self:Int)⟩ sz life (st dN size Lo)) (F+k+1)=g at ih ⊢
  have hw:w64 ((f:Int)+1)=((f+1:Nat):Int):=by rw [w64_i (by unfold I64; omega)]; omega
  have hrg:(List.range' 1 (f+1 - 1)).filter (λg=>decide (g≠self))=(List.range' 1 (f - 1)).filter (λg=>decide (g≠self))++if f≠self then [f] else []:=by
   have h2:=rg_succ self (f - 1)
   have e1:f - 1+1=f:=by omega
   rw [e1] at h2
   have e2:f+1 - 1=f:=by omega
   rw [e2]; exact h2
  unfold m_node_Open_b3 m_node_Open_j4
  simp only
  rw [bif_t (by rw [decide_eq_true_eq]; omega),hw]
  by_cases hfs:f=self
  ·rw [bif_t (by subst hfs; simp)]
   rw [hrg,if_neg (by simp [hfs]),List.append_nil] at ih
   exact ih
  ·have hnm:f ∉ (List.range' 1 (f - 1)).filter λg=>decide (g≠self):=λhm=>by
    have:=(List.mem_filter.1 hm).1
    rw [List.mem_range'_1] at this; omega
   have hsz:(⟨(ds f).toArray⟩:ByteArray).size≤2:=ds_len (k:=1) (by omega)
   rw [bif_f (by simp; omega),e_Digits (by omega),Option.bind_some,hn_eq h1 (by omega),chk_t (by rw [decide_eq_true_eq,lim_eq]; omega),chk_t (by rw [decide_eq_true_eq,lim_eq]; show 2≤_; decide),h.open_ (tab_h h1 (by omega)) hR hN hs,Option.bind_some]
   simp only
   rw [Option.bind_some,chk_t (by rw [mget_hin,if_neg hnm]; rfl),bif_f (by decide),mput_hin_new hnm]
   rw [hrg,if_pos hfs] at ih
   have hap:hin size Lh ((List.range' 1 (f - 1)).filter (λg=>decide (g≠self))++[f])=hin size Lh ((List.range' 1 (f - 1)).filter λg=>decide (g≠self))++[((f:Int),st (hn f) size (Lh f))]:=by
    unfold hin; rw [List.map_append]; rfl
   rw [hap] at ih
   exact ih
theorem e_NOpen(h:NdI size R N e (tab Lo Lh))(hR:R≤MX)(hN:4*N+10≤lim)(hs:size=max sz 16)(h1:1≤self)(h8:self≤8)(hl0:0≤life):m_node_Open e ⟨1,(self:Int)⟩ sz life=some (e,some (nd life self size Lo Lh),0):=by
 unfold m_node_Open
 have hc:(((((decide (life<0))||(decide ((1:Int)<1)))||(decide (16<(1:Int))))||(decide ((self:Int)<1)))||(decide (8<(self:Int))))=false:=by simp; omega
 simp only
 rw [hc,bif_f rfl]
 have hd:=h.open_ tab_d hR hN hs
 unfold dN at hd
 rw [hd,Option.bind_some]
 simp only
 rw [bif_f (by decide),Option.bind_some]
 obtain⟨F,hF⟩:∃F,FU=F+8+1:=⟨FU - 9,by unfold FU; omega⟩
 rw [hF]
 exact nopen_loop h hR hN hs 8 1 F rfl (Nat.le_refl _)
theorem nd0{room:Int}:NdI size (rm room) 0 (d0 room) (tab [] λ_=>[]):=by
 have hz:∀nm L,tab [] (λ_=>[]) nm=some L→Nm nm∧L = []:=λnm L hS=>by
  unfold tab at hS
  by_cases hd:nm=dN
  ·rw [if_pos hd] at hS; injection hS with hS; exact⟨hd▸nm_dN,hS.symm⟩
  ·rw [if_neg hd] at hS
   cases hf:(List.range' 1 8).find? (λg=>decide (nm=hn g)) with
   | none=>rw [hf] at hS; cases hS
   | some g=>
    rw [hf] at hS
    have hg0:=List.find?_some (p:=λg=>decide (nm=hn g)) hf
    have hg:nm=hn g:=of_decide_eq_true hg0
    have hm:=List.mem_of_find?_eq_some hf
    rw [List.mem_range'_1] at hm
    have h2:hn g=⟨[104,UInt8.ofNat (48+g)].toArray⟩:=rfl
    refine⟨?_,by injection hS with hS; exact hS.symm⟩
    rw [hg,h2]
    refine nm_of (show 1≤2 by decide) (show 2≤2 by decide) λc hc=>?_
    rcases List.mem_cons.1 hc with rfl | hc
    ·decide
    ·rw [List.mem_singleton.1 hc]
     rcases to8 hm.1 (by omega) with rfl | rfl | rfl | rfl | rfl | rfl | rfl | rfl <;> decide
 refine⟨di0 room,rfl,λnm L hS=>?_,λk hk=>by cases hk⟩
 obtain⟨h1,rfl⟩:=hz nm L hS
 exact⟨h1,⟨Nat.zero_le _,λk _ _=>rfl⟩,(λr hr=>by cases hr),(λx hx=>by cases hx),Nat.zero_le _⟩
end
end Fw
end Go.Proofs.YtckindfllegbgaaGreat
