/- The plain side: what the models come to. No condition. -/
import Derived.Test.YtmafjpdiplfcmaaGreatPJ1
import Derived.Test.YtmafjpdiplfcmaaGreatR1
namespace Go.Proofs.YtmafjpdiplfcmaaGreat
namespace Fw
set_option linter.unusedVariables false
set_option linter.unusedSimpArgs false
set_option linter.unusedSectionVars false
section
variable {α S R:Type} [Inhabited α]
end
section
variable {κ α:Type} [DecidableEq κ] {x y:κ} {v:α} {es:List (κ×α)}
end
section
variable {x:ByteArray} {v:List UInt8} {es:List (ByteArray×List UInt8)}
end
abbrev Fl:=ab
def ky(f:Fl):List UInt8:=f.name.data.toList
def SF(l:List Fl):Prop:=l.Pairwise (λa b=>ky a<ky b)
theorem sm(x:List UInt8):¬ x<x:=List.lt_irrefl x
theorem DW{x y z:List UInt8}(h:x<y)(h2:y<z):x<z:=List.lt_trans h h2
theorem Gx{x y:List UInt8}(h:x<y):¬ y<x:=λh2=>sm x (DW h h2)
theorem AX{x y:List UInt8}(h:¬ y<x)(hne:x≠y):x<y:=by
 rcases Classical.em (x<y) with h2 | h2
 ·exact h2
 ·exact absurd (List.le_antisymm (show x≤y from h) (show y≤x from h2)) hne
theorem ED:∀{l l':List Fl},SF l→SF l'→(∀f,f∈l↔f∈l')→l=l'
 | [],[],_,_,_=>rfl
 | [],b::l',_,_,h=>by have:=(h b).2 It; cases this
 | a::l,[],_,_,h=>by have:=(h a).1 It; cases this
 | a::l,b::l',h1,h2,h=>by
  unfold SF at h1 h2
  rw [List.pairwise_cons] at h1 h2
  have e:a=b:=by
   rcases List.mem_cons.1 ((h a).1 It) with e | ha
   ·exact e
   ·rcases List.mem_cons.1 ((h b).2 It) with e | hb
    ·exact e.symm
    ·exact absurd (h2.1 a ha) (Gx (h1.1 b hb))
  subst e
  rw [ED h1.2 h2.2 λf=>?_]
  refine⟨λhf=>?_,λhf=>?_⟩
  ·rcases List.mem_cons.1 ((h f).1 (Iu _ hf)) with e | hf2
   ·subst e; exact absurd (h1.1 f hf) (sm _)
   ·exact hf2
  ·rcases List.mem_cons.1 ((h f).2 (Iu _ hf)) with e | hf2
   ·subst e; exact absurd (h2.1 f hf) (sm _)
   ·exact hf2
def FM(es:List (ByteArray×List UInt8)):List Fl:=(dg es).map λk=>⟨k,(mget k es).getD []⟩
theorem sd{es:List (ByteArray×List UInt8)}{f:Fl}:f∈FM es↔mget f.name es=some f.data:=by
 unfold FM
 simp only [List.mem_map,lh]
 constructor
 ·rintro⟨k,hk,rfl⟩
  have:=dD.2 (List.mem_map.2 hk)
  obtain⟨v,hv⟩:=Option.isSome_iff_exists.1 this
  simp [hv]
 ·intro h
  refine⟨f.name,List.mem_map.1 (dD.1 (by rw [h]; rfl)),?_⟩
  rw [h]; rfl
theorem xX{es:List (ByteArray×List UInt8)}(hn:NK es):SF (FM es):=by
 unfold SF FM
 rw [List.pairwise_map]
 show (dg es).Pairwise λa b=>a.data.toList<b.data.toList
 rw [pb]
 rw [List.pairwise_map]
 have hs:=List.pairwise_mergeSort (le:=λx y:List UInt8=>decide (x≤y)) (λa b c h1 h2=>by
  simp only [Iq] at *; exact List.le_trans h1 h2) (λa b=>by
  simp only [Bool.or_eq_true,Iq]; exact List.le_total a b) (es.map (λp=>p.1.data.toList))
 have hnd:((es.map (λp=>p.1.data.toList)).mergeSort (λx y=>decide (x≤y))).Nodup:=by
  rw [(List.mergeSort_perm _ _).nodup_iff,show (λp:ByteArray×List UInt8=>p.1.data.toList)=((λb:ByteArray=>b.data.toList)∘(·.1)) from rfl, ← IQ]
  exact List.Pairwise.map _ (λa b h e=>h (j7 e)) hn
 refine(hs.and hnd).imp λ{a b} h=>?_
 have h1:=Ip h.1
 exact AX h1 h.2
theorem DA{es:List (ByteArray×List UInt8)}{l:List Fl}(hn:NK es)(hl:SF l)(h:∀f,f∈l↔mget f.name es=some f.data):l=FM es:=
 ED hl (xX hn) λf=>(h f).trans sd.symm
abbrev Ch:=ak
def lk(n:ByteArray):List Fl→Option (List UInt8)
 | []=>none
 | f::l=>if f.name=n then some f.data else lk n l
def wo(n:ByteArray)(l:List Fl):List Fl:=l.filter λf=>f.name != n
def insL(n:ByteArray)(b:List UInt8):List Fl→List Fl
 | []=>[⟨n,b⟩]
 | f::l=>bif nr n f.name then ⟨n,b⟩::f::l else f::insL n b l
def fix(n:ByteArray):List Fl→Nat→Int
 | [],_ => -1
 | f::l,i=>bif f.name==n then (i:Int) else fix n l (i+1)
theorem Be(l:List Fl)(n:ByteArray):fD l n=some (fix n l 0):=by
 unfold fD
 refine fQ (λi _=>some (fix n (l.drop i) i)) (λ_ _=>True) (λs _=>?_) (λf i s hi _ hf=>?_) trivial
 ·rw [IB (IG _)]; rfl
 ·unfold mT
  rw [hf () trivial,cj hi,fix]
  cases (gt l i).name==n <;> rfl
theorem wK{n:ByteArray}:∀{l:List Fl} {i:Nat},lk n l=none→fix n l i = -1
 | [],_,_=>rfl
 | f::l,i,h=>by
  unfold lk at h
  split at h
  ·cases h
  ·rename_i hne
   unfold fix
   rw [beq_eq_false_iff_ne.2 hne]; exact wK h
theorem tv{n:ByteArray}{v:List UInt8}:∀{l:List Fl} {i:Nat},lk n l=some v→∃j,fix n l i=((i+j:Nat):Int)∧j<l.length∧(gt l j).data=v
 | [],_,h=>by cases h
 | f::l,i,h=>by
  unfold lk at h
  unfold fix
  split at h
  ·rename_i he
   refine⟨0,?_,by simp,by injection h⟩
   rw [beq_iff_eq.2 he]; rfl
  ·rename_i hne
   obtain⟨j,h1,h2,h3⟩:=tv (i:=i+1) h
   refine⟨j+1,?_,by simp; omega,h3⟩
   rw [beq_eq_false_iff_ne.2 hne]
   rw [show i+(j+1)=i+1+j by omega]; exact h1
theorem Dv{n:ByteArray}{l:List Fl}:decide (fix n l 0<0)=!(lk n l).isSome:=by
 cases h:lk n l with
 | none=>rw [wK h]; rfl
 | some v=>
  obtain⟨j,h1,_⟩:=tv (i:=0) h
  rw [h1]; simp
theorem Ex{l:List Fl}{n:ByteArray}(h:∀f∈l,f.data.length≤lim):cZ l n=some ((lk n l).getD []):=by
 unfold cZ
 rw [Be,IC]
 cases hl:lk n l with
 | none=>rw [wK hl]; rfl
 | some v=>
  obtain⟨j,h1,h2,h3⟩:=tv (i:=0) hl
  rw [h1,Nat.zero_add,az (by simp),aw (by simp [inb]; omega),aw]
  ·simp [h3]
  ·rw [Iz,Nat.zero_add,Iq]
   exact h _ (by rw [fx h2]; exact List.getElem_mem h2)
theorem xB{l:List Fl}{n:ByteArray}(h:l.length≤lim):dB l n=some (wo n l):=by
 unfold dB
 refine(fQ (λi out=>some (out++wo n (l.drop i))) (λi out=>out.length≤i) (λs _=>?_) (λf i s hi hI hf=>?_) (s:=[]) (IG 0)).trans (by simp)
 ·rw [IB (IG _)]; simp [wo]
 ·unfold ld fu
  rw [cj hi]
  unfold wo
  cases hc:(gt l i).name != n with
  | true=>
   rw [az rfl,aw (by simp; omega),hf _ (by simp; omega),List.filter_cons_of_pos (by simpa using hc)]
   simp [wo]
  | false=>
   rw [ar rfl,hf _ (by omega),List.filter_cons_of_neg (by simp [hc])]
   rfl
theorem GM{n:ByteArray}{l:List Fl}:(wo n l).length≤l.length:=List.length_filter_le ..
theorem EH{l:List Fl}{n:ByteArray}{b:List UInt8}(h:l.length+1≤lim):fv l n b=some (insL n b (wo n l)):=by
 unfold fv
 rw [xB (by omega),IC]
 have hw:=GM (n:=n) (l:=l)
 generalize wo n l=z at hw
 refine(fQ (λi s=>some (s.1++(bif s.2 then z.drop i else insL n b (z.drop i)))) (λi s=>s.1.length=i+(bif s.2 then 1 else 0)) (λs hI=>?_) (λf i s hi hI hf=>?_) (s:=([],false)) rfl).trans (by simp)
 ·obtain⟨out,laid⟩:=s
  rw [IB (IG _)]
  cases laid with
  | false=>
   simp only [cond_false,Nat.add_zero] at hI
   show (bif !false then _ else _)=_
   rw [show (!false)=true from rfl,az rfl,aw (by simp; omega)]; rfl
  | true=>simp
 ·obtain⟨out,laid⟩:=s
  unfold mW hJ
  simp only
  rw [cj hi]
  cases laid with
  | true=>
   simp only [cond_true] at hI
   rw [show (!true&&nr n (gt z i).name)=false from rfl,ar rfl,aw (by simp; omega),hf _ (by simp; omega)]
   simp
  | false=>
   simp only [cond_false,Nat.add_zero] at hI
   rw [show (!false&&nr n (gt z i).name)=nr n (gt z i).name from by simp]
   unfold insL
   cases hc:nr n (gt z i).name with
   | true=>
    rw [az rfl,aw (by simp; omega),aw (by simp; omega),hf _ (by simp; omega)]
    simp
   | false=>
    rw [ar rfl,aw (by simp; omega),hf _ (by simp; omega)]
    simp
theorem EC{n:ByteArray}{v:List UInt8}:∀{l:List Fl},SF l→(lk n l=some v↔(⟨n,v⟩:Fl)∈l)
 | [],_=>by simp [lk]
 | f::l,h=>by
  unfold SF at h
  rw [List.pairwise_cons] at h
  unfold lk
  by_cases he:f.name=n
  ·rw [if_pos he]
   constructor
   ·intro h2; injection h2 with h2
    have:f=⟨n,v⟩:=by rw [← he, ← h2]
    rw [this]; exact It
   ·intro h2
    rcases List.mem_cons.1 h2 with h2 | h2
    ·rw [← h2]
    ·have:=h.1 _ h2
     unfold ky at this
     rw [he] at this
     exact absurd this (sm _)
  ·rw [if_neg he,EC (show SF l from h.2)]
   refine⟨λh2=>Iu _ h2,λh2=>?_⟩
   rcases List.mem_cons.1 h2 with h2 | h2
   ·rw [← h2] at he; exact absurd rfl he
   ·exact h2
theorem As{n:ByteArray}{es:Mp}(hn:NK es):lk n (FM es)=mget n es:=by
 apply Option.ext
 intro v
 rw [EC (xX hn),sd]
theorem Gt{n:ByteArray}{l:List Fl}(h:SF l):SF (wo n l):=List.Pairwise.filter _ h
theorem Gg{n:ByteArray}{es:Mp}(hn:NK es):wo n (FM es)=FM (mdel n es):=by
 refine DA hn.del (Gt (xX hn)) λf=>?_
 unfold wo
 rw [List.mem_filter,sd,fC hn]
 by_cases h:f.name=n
 ·simp [h]
 ·simp [h]
theorem x8{n:ByteArray}{b:List UInt8}{f:Fl}:∀{l:List Fl},f∈insL n b l↔f=⟨n,b⟩∨f∈l
 | []=>by simp [insL]
 | g::l=>by
  unfold insL
  cases nr n g.name with
  | true=>simp
  | false=>simp only [cond_false,Ix,x8 (l:=l)]; exact⟨λh=>h.elim (λh=>.inr (.inl h)) (λh=>h.elim .inl (λh=>.inr (.inr h))),λh=>h.elim (λh=>.inr (.inl h)) (λh=>h.elim .inl (λh=>.inr (.inr h)))⟩
theorem C2{n:ByteArray}{b:List UInt8}:∀{l:List Fl},SF l→(∀f∈l,f.name≠n)→SF (insL n b l)
 | [],_,_=>by simp [insL,SF]
 | g::l,h,hn=>by
  have h0:=h
  unfold SF at h
  rw [List.pairwise_cons] at h
  unfold insL
  cases hc:nr n g.name with
  | true=>
   have hlt:n.data.toList<ky g:=Ip hc
   refine List.pairwise_cons.2 ⟨λf hf=>?_,h0⟩
   rcases List.mem_cons.1 hf with e | hf
   ·rw [e]; exact hlt
   ·exact DW hlt (h.1 f hf)
  | false=>
   have hlt:ky g<n.data.toList:=AX (of_decide_eq_false hc) λe=>hn g It (j7 e)
   refine List.pairwise_cons.2 ⟨λf hf=>?_,C2 h.2 λf hf=>hn f (Iu _ hf)⟩
   rcases x8.1 hf with e | hf
   ·rw [e]; exact hlt
   ·exact h.1 f hf
theorem DS{n:ByteArray}{b:List UInt8}{es:Mp}(hn:NK es):insL n b (wo n (FM es))=FM (mput n b es):=by
 have hne:∀f∈wo n (FM es),f.name≠n:=λf hf=>by
  have:=(List.mem_filter.1 hf).2
  simpa using this
 refine DA hn.put (C2 (Gt (xX hn)) hne) λf=>?_
 rw [x8,cC,Gg hn,sd,fC hn]
 by_cases h:f.name=n
 ·rw [if_pos h,if_pos h]
  constructor
  ·rintro (e | e)
   ·rw [e]
   ·cases e
  ·intro e; injection e with e; left
   cases f; simp_all
 ·rw [if_neg h,if_neg h]
  exact⟨λe=>e.elim (λe=>absurd (by rw [e]) h) id,.inr⟩
theorem AJ{es:Mp}:(FM es).length=es.length:=by unfold FM; rw [II,gh]
theorem Gd{es:Mp}{N:Nat}(h:sz es≤N):∀f∈FM es,f.data.length≤N:=λf hf=>by
 have:=sd.1 hf
 have h2:=wg (x:=f.name) (es:=es)
 rw [this] at h2
 exact Nat.le_trans h2 h
def Corr:Cg→Ch→Prop
 | .disk_Disk_Remove_1 a,t=>t.kind=4∧t.name=a
 | .disk_add_1 n b,t=>t.kind=1∧t.name=n∧t.data=b
 | .disk_Disk_Cut_1 n k,t=>t.kind=2∧t.name=n∧t.n=k
theorem G9{c:Cg}{t:Ch}{es:Mp}(hn:NK es)(hc:Corr c t)(hok:okc c es)(h1:sz es≤lim)(h2:sz (ap c es)≤lim)(h3:es.length+1≤lim):dE (FM es) t=some (FM (ap c es)):=by
 have hd:cZ (FM es) t.name=some ((mget t.name es).getD []):=by rw [Ex (Gd h1),As hn]
 have hl:(FM es).length+1≤lim:=by rw [AJ]; exact h3
 unfold dE
 cases c with
 | disk_add_1 n b=>
  obtain⟨hk,rfl,rfl⟩:=hc
  rw [v7] at h2
  have:=wg (x:=t.name) (es:=es)
  rw [az (by rw [hk]; rfl),hd,IC,aw (by simp; omega),EH hl,IC,DS hn]; rfl
 | disk_Disk_Cut_1 n k=>
  obtain⟨hk,rfl,rfl⟩:=hc
  obtain⟨_,q1,q2⟩:=hok
  rw [ar (by rw [hk]; rfl),az (by rw [hk]; rfl),hd,IC,aw (by simp [inle,q1,q2]),EH hl,IC,DS hn]; rfl
 | disk_Disk_Remove_1 a=>
  obtain⟨hk,rfl⟩:=hc
  rw [ar (by rw [hk]; rfl),ar (by rw [hk]; rfl),ar (by rw [hk]; rfl),xB (by omega),IC,Gg hn]; rfl
structure Good (R N:Nat) (es:Mp) (cs:List Dc) (ts:List Ch):Prop where
 len:cs.length=ts.length
 nk:NK es
 sz:∀k,k≤cs.length→sz (run (cs.take k) es)≤R
 ln:∀k,k≤cs.length→(run (cs.take k) es).length≤N
 ok:∀k,k<cs.length→okc (gt cs k).do_ (run (cs.take k) es)
 cor:∀k,k<cs.length→Corr (gt cs k).do_ (gt ts k)∧Tl (gt cs k)
theorem Good.nil{R N:Nat}{es:Mp}(hn:NK es)(h1:Fw.sz es≤R)(h2:es.length≤N):Good R N es [] []:=
 ⟨rfl,hn,λk hk=>by simpa [run] using h1,λk hk=>by simpa [run] using h2,λk hk=>absurd hk (Nat.not_lt_zero _),λk hk=>absurd hk (Nat.not_lt_zero _)⟩
theorem Good.mono{R N M:Nat}{es:Mp}{cs:List Dc}{ts:List Ch}(h:Good R N es cs ts)(hm:N≤M):Good R M es cs ts:=
 ⟨h.len,h.nk,h.sz,λk hk=>Nat.le_trans (h.ln k hk) hm,h.ok,h.cor⟩
theorem Good.snoc{R N:Nat}{es:Mp}{cs:List Dc}{ts:List Ch}{c:Dc}{t:Ch}(h:Good R N es cs ts)(h1:Fw.sz (ap c.do_ (run cs es))≤R)(h2:okc c.do_ (run cs es))(h3:Corr c.do_ t)(h4:Tl c):Good R (N+1) es (cs++[c]) (ts++[t]):=by
 have hk:∀k,k≤(cs++[c]).length→k≤cs.length∧(cs++[c]).take k=cs.take k∨k=cs.length+1∧(cs++[c]).take k=cs++[c]:=λk hk=>by
  rw [Is] at hk
  simp only [Iy,IK] at hk
  rcases Nat.lt_or_ge cs.length k with h | h
  ·right; exact⟨by omega,List.take_of_length_le (by simp; omega)⟩
  ·left; exact⟨h,by rw [List.take_append_of_le_length h]⟩
 have hg:∀k,k<(cs++[c]).length→k<cs.length∧gt (cs++[c]) k=gt cs k∧gt (ts++[t]) k=gt ts k∨k=cs.length∧gt (cs++[c]) k=c∧gt (ts++[t]) k=t:=λk hk=>by
  rw [Is] at hk
  simp only [Iy,IK] at hk
  rcases Nat.lt_or_ge k cs.length with h5 | h5
  ·left; exact⟨h5,gD h5,gD (by rw [← h.len]; exact h5)⟩
  ·right
   have:k=cs.length:=by omega
   subst this
   refine⟨rfl,?_,?_⟩
   ·rw [cM (IG _),Nat.sub_self]; rfl
   ·rw [h.len,cM (IG _),Nat.sub_self]; rfl
 refine⟨by simp [h.len],h.nk,λk q=>?_,λk q=>?_,λk q=>?_,λk q=>?_⟩
 ·rcases hk k q with ⟨a,b⟩ | ⟨a,b⟩
  ·rw [b]; exact h.sz k a
  ·rw [b,nQ]; exact h1
 ·rcases hk k q with ⟨a,b⟩ | ⟨a,b⟩
  ·rw [b]; exact Nat.le_trans (h.ln k a) (Nat.le_succ _)
  ·rw [b,nQ]
   have:=h.ln cs.length (IG _)
   rw [IR] at this
   have h6:=yF (c:=c.do_) (es:=run cs es)
   omega
 ·rcases hg k q with ⟨a,b,_⟩ | ⟨a,b,_⟩
  ·rw [b,List.take_append_of_le_length (Nat.le_of_lt a)]; exact h.ok k a
  ·rw [b,a,List.take_append_of_le_length (IG _),IR]; exact h2
 ·rcases hg k q with ⟨a,b,b2⟩ | ⟨a,b,b2⟩
  ·rw [b,b2]; exact h.cor k a
  ·rw [b,b2]; exact⟨h3,h4⟩
theorem Good.step{R N:Nat}{es:Mp}{cs:List Dc}{ts:List Ch}{k:Nat}(h:Good R N es cs ts)(hk:k<cs.length)(hR:R≤lim)(hN:N+1≤lim):
  cS (gt cs k).do_ (run (cs.take k) es)=some (run (cs.take (k+1)) es)∧dE (FM (run (cs.take k) es)) (gt ts k)=some (FM (run (cs.take (k+1)) es)):=by
 have h1:=h.sz k (Nat.le_of_lt hk)
 have h2:=h.sz (k+1) hk
 have h3:=h.ln k (Nat.le_of_lt hk)
 rw [oG hk] at h2 ⊢
 exact⟨BL (h.ok k hk) (Nat.le_trans h2 hR),G9 (nM h.nk) (h.cor k hk).1 (h.ok k hk) (Nat.le_trans h1 hR) (Nat.le_trans h2 hR) (by omega)⟩
abbrev Md:=a7
theorem Gc:lim=1099511627776:=aB
theorem Ct(n:ByteArray):gr n=some (!okn n):=by
 unfold gr okn
 congr 1
 rw [Bool.eq_iff_iff]
 simp only [Bool.or_eq_true,beq_iff_eq,Iq,Bool.not_eq_true',Bool.and_eq_false_iff,Ir,wM]
 omega
def lsum(l:List Fl):Nat:=(l.map (·.data.length)).sum
theorem Cn{es:Mp}(hn:NK es):lsum (FM es)=sz es:=by
 have h1:(FM es).Nodup:=(xX hn).imp λ{a b} h e=>by rw [e] at h; exact sm _ h
 have h2:(es.map λp=>(⟨p.1,p.2⟩:Fl)).Nodup:=by
  unfold NK at hn
  refine List.Pairwise.map _ (λa b h e=>?_) (List.pairwise_map.1 hn)
  injection e with e1 _
  exact h e1
 have h3:(FM es).Perm (es.map λp=>(⟨p.1,p.2⟩:Fl)):=by
  rw [List.perm_ext_iff_of_nodup h1 h2]
  intro f
  rw [sd,List.mem_map]
  constructor
  ·intro h; exact⟨_,vu h,rfl⟩
  ·rintro⟨p,hp,rfl⟩; exact tG hn hp
 unfold lsum sz
 rw [(h3.map _).sum_nat,IQ]; rfl
theorem Fd{l:List Fl}{K:Int→Option Int}(h:lsum l≤4611686018427387904):forI cW K 0 l 0=K (lsum l:Int):=by
 have key:∀(l:List Fl) (i:Nat) (n:Int),0≤n→n+(lsum l:Int)≤4611686018427387904→forI cW K i l n=K (n+(lsum l:Int)):=by
  intro l
  induction l with
  | nil=>intro i n _ _; simp [forI,lsum]
  | cons f l ih=>
   intro i n h0 h1
   have hs:lsum (f::l)=f.data.length+lsum l:=by simp [lsum]
   rw [hs] at h1 ⊢
   unfold forI cW
   rw [aH (by unfold I64; omega)]
   have:=ih (i+1) (n+(f.data.length:Int)) (by omega) (by omega)
   unfold cW at this
   rw [this]; congr 1; omega
 rw [key l 0 0 (Int.le_refl 0) (by omega),Int.zero_add]
structure Rel (R N:Nat) (d:Dk) (m:Md):Prop where
 rd:d.room=(R:Int)
 rm:m.room=(R:Int)
 seen:d.seen=run d.loose d.safe_
 safe:m.safe_=FM d.safe_
 good:Good R N d.safe_ d.loose m.todo
 ll:d.loose.length≤N
theorem Rel.di{R N:Nat}{d:Dk}{m:Md}(h:Rel R N d m):DI R N d:=⟨h.rd,h.seen,h.good.nk,h.good.sz,h.good.ln,h.good.ok,λk hk=>(h.good.cor k hk).2,h.ll⟩
section
variable {R N:Nat} {d:Dk} {m:Md}
theorem Rel.mono(h:Rel R N d m){M:Nat}(hm:N≤M):Rel R M d m:=⟨h.rd,h.rm,h.seen,h.safe,h.good.mono hm,Nat.le_trans h.ll hm⟩
theorem Rel.nk(h:Rel R N d m):NK d.seen:=by rw [h.seen]; exact nM h.good.nk
theorem Rel.sz(h:Rel R N d m):sz d.seen≤R:=by
 rw [h.seen]
 have:=h.good.sz d.loose.length (IG _)
 rwa [IR] at this
theorem Rel.ln(h:Rel R N d m):d.seen.length≤N:=by
 rw [h.seen]
 have:=h.good.ln d.loose.length (IG _)
 rwa [IR] at this
theorem Rel.files(h:Rel R N d m)(hR:R≤lim)(hN:N+1≤lim):aQ m=some (FM d.seen):=by
 unfold aQ
 refine oI (λi l=>l=FM (run (d.loose.take i) d.safe_)) (λl hl=>?_) (λf i l hi hl hf=>?_) (by rw [h.safe]; rfl)
 ·rw [hl,h.seen, ← h.good.len,IR]
 ·subst hl
  rw [← h.good.len] at hi
  unfold kj
  rw [(h.good.step hi hR hN).2,IC]
  exact hf _ rfl
theorem Rel.used(h:Rel R N d m)(hR:R≤lim)(hN:N+1≤lim):fY m=some (Fw.sz d.seen:Int):=by
 unfold fY
 have:=h.sz
 rw [Gc] at hR
 rw [h.files (by rw [Gc]; omega) hN,IC,Fd (by rw [Cn h.nk]; omega),Cn h.nk]
theorem Rel.done(h:Rel R N d m){c:Dc}{t:Ch}(h1:Fw.sz (ap c.do_ d.seen)≤R)(h2:okc c.do_ d.seen)(h3:Corr c.do_ t)(h4:Tl c):Rel R (N+1) (m6 d c) ⟨m.room,m.safe_,m.todo++[t]⟩:=by
 have hs:=h.seen
 refine⟨h.rd,h.rm,?_,h.safe,?_,?_⟩
 ·show ap c.do_ d.seen=run (d.loose++[c]) d.safe_
  rw [nQ, ← hs]
 ·rw [hs] at h1 h2
  exact h.good.snoc h1 h2 h3 h4
 ·show (d.loose++[c]).length≤_
  have:=h.ll
  simp; omega
end
section
variable {R N:Nat} {d:Dk} {m:Md}
def Hx(m:Md)(t:Ch):Md:=⟨m.room,m.safe_,m.todo++[t]⟩
theorem Eb{es:Mp}{n:ByteArray}(hn:NK es)(h:(mget n es).isSome=true):decide (fix n (FM es) 0<0)=false:=by rw [Dv,As hn,h]; rfl
theorem EL{es:Mp}{n:ByteArray}(hn:NK es)(h:(mget n es).isSome=false):decide (fix n (FM es) 0<0)=true:=by rw [Dv,As hn,h]; rfl
theorem EA{t:Ch}(h1:t.data.length≤lim)(h2:m.todo.length+1≤lim):bx m t=some (Hx m t,0):=by
 unfold bx
 rw [aw (by simpa using h1),aw (by simpa using h2)]; rfl
theorem wx(h:Rel R N d m)(hR:R≤MX)(hN:N+1≤lim)(t:Ch):dA m t=bif !okn t.name||(t.kind==3&&!okn t.to_) then some (m,70) else
  (bif t.kind==1 then fy m t (decide ((R:Int) - (Fw.sz d.seen:Int)<((t.data.length:Nat):Int)))
  else bif !(mget t.name d.seen).isSome then some (m,71)
  else bif t.kind==2 then (bif decide (t.n<0)||decide (((((mget t.name d.seen).getD []).length:Nat):Int)<t.n) then some (m,1) else bx m t)
  else bx m t):=by
 unfold dA
 rw [Ct,Ct,IC,dX,IC]
 have h1:(!okn t.name||(t.kind==3)&&(bif (!!okn t.name)&&(t.kind==3) then !okn t.to_ else default))=(!okn t.name||(t.kind==3&&!okn t.to_)):=by
  cases okn t.name <;> cases t.kind==3 <;> rfl
 rw [h1]
 cases (!okn t.name||(t.kind==3&&!okn t.to_)) with
 | true=>rfl
 | false=>
  rw [ar rfl,ar rfl,h.files (kg hR) hN,IC,Be,IC]
  cases t.kind==1 with
  | true=>
   rw [az rfl,az rfl,h.used (kg hR) hN,IC,h.rm,EG hR h.sz]
  | false=>
   rw [ar rfl,ar rfl]
   cases hm:(mget t.name d.seen).isSome with
   | false=>rw [EL h.nk hm]; rfl
   | true=>
    rw [Eb h.nk hm]
    obtain⟨v,hv⟩:=Option.isSome_iff_exists.1 hm
    obtain⟨j,g1,g2,g3⟩:=tv (i:=0) ((As h.nk).trans hv)
    rw [Nat.zero_add] at g1
    rw [g1,hv]
    cases t.kind==2 with
    | true=>
     have g4:inb ((j:Nat):Int) (FM d.seen).length=true:=by simp [inb]; omega
     rw [ar rfl,az rfl,g4]
     have g5:imp (!decide (t.n<0)) true=true:=by cases decide (t.n<0) <;> rfl
     rw [aw g5,Iz,g3]
     rfl
    | false=>rfl
theorem Dr(h:Rel R N d m)(hR:R≤MX)(hN:N+1≤lim)(n:ByteArray)(b:List UInt8):∃m',bm m n b=some (m',(dApp d n b).2)∧Rel R (N+1) (dApp d n b).1 m':=by
 have hs:=h.sz
 have hR2:=kg hR
 unfold bm
 rw [wx h hR hN]
 unfold dApp
 have h3:((1:Int)==3)=false:=by decide
 have h1:((1:Int)==1)=true:=by decide
 simp only [h3,h1,Bool.false_and,Bool.or_false]
 cases okn n with
 | false=>exact⟨m,rfl,h.mono (Nat.le_succ _)⟩
 | true=>
  rw [show (!true)=false from rfl,ar rfl,ar rfl,az rfl,h.rd]
  unfold fy
  cases hc:decide ((R:Int) - (Fw.sz d.seen:Int)<((b.length:Nat):Int)) with
  | true=>exact⟨m,rfl,h.mono (Nat.le_succ _)⟩
  | false=>
   have hc:=of_decide_eq_false hc
   have hl:=h.ll
   rw [ar rfl,ar rfl,EA (by show b.length≤lim; omega) (by rw [← h.good.len]; omega)]
   exact⟨_,rfl,h.done (c:=⟨.disk_add_1 n b,n,b⟩) (by show Fw.sz (ap (.disk_add_1 n b) d.seen)≤R; rw [v7]; omega) trivial ⟨rfl,rfl,rfl⟩ ⟨rfl,rfl⟩⟩
theorem Ce{n:ByteArray}(h:(fS d n != 0)=true):okn n=false∧fS d n=70∨okn n=true∧(mget n d.seen).isSome=false∧fS d n=71:=by
 unfold fS at h ⊢
 cases h1:okn n <;> cases h2:(mget n d.seen).isSome <;> rw [h1,h2] at h <;> first | exact .inl ⟨rfl,rfl⟩ | exact .inr ⟨rfl,rfl,rfl⟩ | exact absurd h (by decide)
theorem Hv(h:Rel R N d m)(hR:R≤MX)(hN:N+1≤lim)(n:ByteArray)(k:Int):∃m',gL m n k=some (m',(dCut d n k).2)∧Rel R (N+1) (dCut d n k).1 m':=by
 have hs:=h.sz
 have hl:=h.ll
 unfold gL
 rw [wx h hR hN]
 unfold dCut
 have h3:((2:Int)==3)=false:=by decide
 have h1:((2:Int)==1)=false:=by decide
 have h2:((2:Int)==2)=true:=by decide
 simp only [h3,h1,h2,Bool.false_and,Bool.or_false]
 cases ht:fS d n != 0 with
 | true=>
  rcases Ce ht with ⟨q1,q2⟩ | ⟨q1,q3,q2⟩
  ·rw [q1,q2]; exact⟨m,rfl,h.mono (Nat.le_succ _)⟩
  ·rw [q1,q2,q3]; exact⟨m,rfl,h.mono (Nat.le_succ _)⟩
 | false=>
  obtain⟨q1,q2⟩:=uh ht
  rw [q1,q2]
  cases hc:decide (k<0)||decide (((((mget n d.seen).getD []).length:Nat):Int)<k) with
  | true=>exact⟨m,rfl,h.mono (Nat.le_succ _)⟩
  | false=>
   simp only [Bool.or_eq_false_iff,Ir] at hc
   simp only [cond_false,cond_true,Bool.not_true]
   rw [EA (by simp) (by rw [← h.good.len]; omega)]
   exact⟨_,rfl,h.done (c:=⟨.disk_Disk_Cut_1 n k,ByteArray.empty,[]⟩) (Nat.le_trans (EM (n:=n) (k:=k)) hs) ⟨q2,by omega,by omega⟩ ⟨rfl,rfl,rfl⟩ rfl⟩
theorem Hk(h:Rel R N d m)(hR:R≤MX)(hN:N+1≤lim)(n:ByteArray):∃m',eW m n=some (m',(dRem d n).2)∧Rel R (N+1) (dRem d n).1 m':=by
 have hs:=h.sz
 have hl:=h.ll
 unfold eW
 rw [wx h hR hN]
 unfold dRem
 have h3:((4:Int)==3)=false:=by decide
 have h1:((4:Int)==1)=false:=by decide
 have h2:((4:Int)==2)=false:=by decide
 simp only [h3,h1,h2,Bool.false_and,Bool.or_false]
 cases ht:fS d n != 0 with
 | true=>
  rcases Ce ht with ⟨q1,q2⟩ | ⟨q1,q3,q2⟩
  ·rw [q1,q2]; exact⟨m,rfl,h.mono (Nat.le_succ _)⟩
  ·rw [q1,q2,q3]; exact⟨m,rfl,h.mono (Nat.le_succ _)⟩
 | false=>
  obtain⟨q1,q2⟩:=uh ht
  rw [q1,q2]
  simp only [cond_false,cond_true,Bool.not_true]
  rw [EA (by simp) (by rw [← h.good.len]; omega)]
  exact⟨_,rfl,h.done (c:=⟨.disk_Disk_Remove_1 n,ByteArray.empty,[]⟩) (Nat.le_trans (E6 (a:=n)) hs) q2 ⟨rfl,rfl⟩ rfl⟩
end
theorem GT:FM [] = []:=List.eq_nil_of_length_eq_zero (by rw [AJ]; rfl)
section
variable {R N:Nat} {d:Dk} {m:Md}
theorem ws(h:Rel R N d m)(hR:R≤MX)(hN:N+1≤lim):∃m',bd m=some m'∧Rel R N (iW d) m':=by
 unfold bd
 rw [h.files (kg hR) hN]
 exact⟨_,rfl,h.rd,h.rm,rfl,rfl,Good.nil h.nk h.sz h.ln,IH _⟩
theorem G4(h:Rel R N d m)(hR:R≤MX)(hN:N+1≤lim):du d=some (FM d.seen):=by
 unfold du
 have hln:=h.ln
 rw [yu h.di (by omega),IC]
 refine oI (λi out=>out=((dg d.seen).take i).map λk=>(⟨k,(mget k d.seen).getD []⟩:Fl)) (λs hs=>?_) (λf i s hi hI hf=>?_) rfl
 ·rw [hs,IR]; rfl
 ·unfold lZ gQ
  have hm:(mget (gt (dg d.seen) i) d.seen).isSome=true:=by
   rw [dD, ← lh,fx hi]; exact List.getElem_mem hi
  rw [e_Rd h.di hR,IC]
  simp only [hm,cond_true]
  rw [gh] at hi
  rw [aw (by rw [hI]; simp; omega)]
  refine hf _ ?_
  rw [hI,yy (by rw [gh]; exact hi),IJ]; rfl
theorem EV(l l':List Fl):eb l l'=some (decide (l=l')):=by
 unfold eb
 cases hl:(((l.length:Nat):Int) != ((l'.length:Nat):Int)) with
 | true=>
  rw [az rfl]
  rw [bne_iff_ne] at hl
  rw [decide_eq_false (λe=>hl (by rw [e]))]
 | false=>
  have hlen:l.length=l'.length:=by
   have:=of_decide_eq_false (p:=¬ ((l.length:Nat):Int)=l'.length) (by rw [← hl]; simp [bne,BEq.beq])
   omega
  rw [ar rfl]
  refine(fQ (λi _=>some (decide (l.drop i=l'.drop i))) (λ_ _=>True) (λs _=>?_) (λf i s hi _ hf=>?_) trivial)
  ·rw [IB (IG _),IB (by omega)]; rfl
  ·unfold mH
   have hi':i<l'.length:=by omega
   rw [aw (by simpa using hi'),hf () trivial,cj hi,cj hi']
   have hb:∀a b:List UInt8,((⟨a.toArray⟩:ByteArray) != ⟨b.toArray⟩)=decide (a≠b):=by
    intro a b
    rw [Bool.eq_iff_iff,bne_iff_ne,Iq]
    exact not_congr ⟨λe=>by have:=congrArg (λx:ByteArray=>x.data.toList) e; simpa using this,λe=>by rw [e]⟩
   generalize gt l i=x
   generalize gt l' i=y
   rw [hb x.data y.data]
   simp only [List.cons.injEq]
   by_cases h1:x.name=y.name
   ·by_cases h2:x.data=y.data
    ·have:x=y:=by cases x; cases y; simp_all
     subst this
     simp
    ·have:x≠y:=λe=>h2 (by rw [e])
     simp [this,h2]
   ·have:x≠y:=λe=>h1 (by rw [e])
    have h2:(x.name != y.name)=true:=bne_iff_ne.2 h1
    simp [this,h2]
end
section
variable {R N:Nat} {d:Dk} {m:Md}
theorem xr(h:Rel R N d m){k:Nat}{torn:Int}(hc:cT d k torn=true):k<d.loose.length∧0<torn∧(gt d.loose k).do_ = .disk_add_1 (gt d.loose k).name (gt d.loose k).tail∧(gt m.todo k).kind=1∧(gt m.todo k).name=(gt d.loose k).name∧(gt m.todo k).data=(gt d.loose k).tail:=by
 unfold cT at hc
 simp only [Iw,Iq] at hc
 obtain⟨h1,h2,h3⟩:=hc
 obtain⟨hcor,htl⟩:=h.good.cor k h1
 unfold Tl at htl
 cases hd:(gt d.loose k).do_ with
 | disk_add_1 n b=>
  rw [hd] at hcor htl
  obtain⟨a1,a2,a3⟩:=hcor
  simp only at htl
  obtain⟨b1,b2⟩:=htl
  exact⟨h1,h2,by rw [b1,b2],a1,a2.trans b1.symm,a3.trans b2.symm⟩
 | disk_Disk_Remove_1 a=>rw [hd] at htl; simp only at htl; rw [htl] at h3; exact absurd h3 (Nat.lt_irrefl 0)
 | disk_Disk_Cut_1 a k'=>rw [hd] at htl; simp only at htl; rw [htl] at h3; exact absurd h3 (Nat.lt_irrefl 0)
theorem zz(h:Rel R N d m){k:Nat}{torn:Int}(hc:cT d k torn=true):Fw.sz (ap (.disk_add_1 (gt d.loose k).name ((gt d.loose k).tail.take torn.toNat)) (run (d.loose.take k) d.safe_))≤R ∧
  (ap (.disk_add_1 (gt d.loose k).name ((gt d.loose k).tail.take torn.toNat)) (run (d.loose.take k) d.safe_)).length≤N:=by
 obtain⟨h1,_,h2,_⟩:=xr h hc
 have s1:=h.good.sz (k+1) h1
 have l1:=h.good.ln (k+1) h1
 rw [oG h1,h2] at s1 l1
 rw [v7] at s1 ⊢
 refine⟨?_,?_⟩
 ·rw [IV]; omega
 ·exact Nat.le_trans (Nat.le_of_eq sr) l1
theorem EU(h:Rel R N d m)(keep torn:Int):NK (dw d keep torn)∧Fw.sz (dw d keep torn)≤R∧(dw d keep torn).length≤N:=by
 unfold dw
 cases hc:cT d (cK d keep) torn with
 | true=>simp only [cond_true]; exact⟨Ae (nM h.good.nk),zz h hc⟩
 | false=>simp only [cond_false]; exact⟨nM h.good.nk,h.good.sz _ (wu keep),h.good.ln _ (wu keep)⟩
theorem F9(h:Rel R N d m)(hR:R≤MX)(hN:N+1≤lim)(keep torn:Int):∃m',dN m keep torn=some m'∧Rel R N (pH d keep torn) m':=by
 have hle:=wu (d:=d) keep
 have hKe:=GA (d:=d) keep
 have hlt:=h.good.len
 obtain⟨c1,c2,c3⟩:=EU h keep torn
 refine⟨⟨m.room,FM (dw d keep torn),[]⟩,?_,h.rd,h.rm,rfl,rfl,Good.nil c1 c2 c3,IH _⟩
 unfold dN
 refine oI (λi l=>l=if i≤cK d keep then FM (run (d.loose.take i) d.safe_) else FM (dw d keep torn)) (λl hl=>?_) (λf i l hi hl hf=>?_) (by rw [h.safe,if_pos (IH _)]; rfl)
 ·rw [hl]
  split
  ·rename_i hk
   have:cK d keep=m.todo.length:=by omega
   have hc:cT d (cK d keep) torn=false:=by unfold cT; simp; omega
   unfold dw
   rw [hc,this]; rfl
  ·rfl
 ·subst hl
  rw [← hlt] at hi
  unfold jU
  rcases Nat.lt_trichotomy i (cK d keep) with hik | hik | hik
  ·-- changes that stay whole
   have q1:decide (((i:Nat):Int)<keep)=true:=by rw [Iq]; omega
   have q2:((((i:Nat):Int)==keep)||((((i:Nat):Int)==0)&&decide (keep<0)))=false:=by
    rw [Bool.eq_false_iff]; intro hc
    simp only [Bool.or_eq_true,Iw,beq_iff_eq,Iq] at hc
    omega
   rw [if_pos (by omega),q1,az rfl,(h.good.step hi (kg hR) hN).2,IC]
   unfold bL bj
   rw [q2]
   exact hf _ (by rw [if_pos (by omega)])
  ·subst hik
   have q1:decide (((cK d keep:Nat):Int)<keep)=false:=by rw [Ir]; omega
   have q2:((((cK d keep:Nat):Int)==keep)||((((cK d keep:Nat):Int)==0)&&decide (keep<0)))=true:=by
    simp only [Bool.or_eq_true,Iw,beq_iff_eq,Iq]
    omega
   rw [if_pos (IG _),q1,ar rfl]
   unfold bL bj
   rw [q2,Bool.true_and]
   cases hc:cT d (cK d keep) torn with
   | true=>
    obtain⟨a1,a2,a3,a4,a5,a6⟩:=xr h hc
    have hpos:0<(gt d.loose (cK d keep)).tail.length:=by
     unfold cT at hc; simp only [Iw,Iq] at hc; exact hc.2.2
    have hes:dw d keep torn=ap (.disk_add_1 (gt d.loose (cK d keep)).name ((gt d.loose (cK d keep)).tail.take torn.toNat)) (run (d.loose.take (cK d keep)) d.safe_):=by unfold dw; rw [hc]; rfl
    have hz:=zz h hc
    have hdid:∀t:Ch,t.kind=1→t.name=(gt d.loose (cK d keep)).name→t.data=(gt d.loose (cK d keep)).tail.take torn.toNat→dE (FM (run (d.loose.take (cK d keep)) d.safe_)) t=some (FM (dw d keep torn)):=λt t1 t2 t3=>by
     have g1:=h.good.sz (cK d keep) hle
     have g2:=h.good.ln (cK d keep) hle
     have hl:=kg hR
     rw [hes]
     exact G9 (nM h.good.nk) (c:=.disk_add_1 _ _) ⟨t1,t2,t3⟩ trivial (by omega) (Nat.le_trans hz.1 hl) (by omega)
    have hcond:((((gt m.todo (cK d keep)).kind==1)&&decide (0<torn))&&decide (0<(((gt m.todo (cK d keep)).data.length:Nat):Int)))=true:=by
     simp only [Iw,beq_iff_eq,Iq]
     rw [a6]; exact⟨⟨a4,a2⟩,by omega⟩
    rw [hcond,az rfl]
    unfold dP bj
    rw [a6]
    cases hq:decide (torn<(((gt d.loose (cK d keep)).tail.length:Nat):Int)) with
    | true=>
     have hq:=Ip hq
     rw [az rfl,aw (by simp [inle]; omega),hdid (⟨(gt m.todo (cK d keep)).kind,(gt m.todo (cK d keep)).name,(gt m.todo (cK d keep)).to_,List.take torn.toNat (gt d.loose (cK d keep)).tail,(gt m.todo (cK d keep)).n⟩:Ch) a4 a5 rfl,IC]
     exact hf _ (by rw [if_neg (by omega)])
    | false=>
     have hq:=of_decide_eq_false hq
     rw [ar rfl,hdid _ a4 a5 (by rw [a6,List.take_of_length_le (by omega)]),IC]
     exact hf _ (by rw [if_neg (by omega)])
   | false=>
    have hes:dw d keep torn=run (d.loose.take (cK d keep)) d.safe_:=by unfold dw; rw [hc]; rfl
    have hcond:((((gt m.todo (cK d keep)).kind==1)&&decide (0<torn))&&decide (0<(((gt m.todo (cK d keep)).data.length:Nat):Int)))=false:=by
     rw [Bool.eq_false_iff]
     intro hx
     simp only [Iw,beq_iff_eq,Iq] at hx
     obtain⟨⟨x1,x2⟩,x3⟩:=hx
     obtain⟨hcor,htl⟩:=h.good.cor _ hi
     unfold Tl at htl
     cases hd:(gt d.loose (cK d keep)).do_ with
     | disk_add_1 n b=>
      rw [hd] at hcor htl
      obtain⟨_,_,y3⟩:=hcor
      simp only at htl
      rw [y3, ← htl.2] at x3
      have:cT d (cK d keep) torn=true:=by
       unfold cT; simp only [Iw,Iq]; exact⟨hi,x2,by omega⟩
      rw [hc] at this; cases this
     | disk_Disk_Remove_1 a=>rw [hd] at hcor; have:=hcor.1; omega
     | disk_Disk_Cut_1 a k'=>rw [hd] at hcor; have:=hcor.1; omega
    rw [hcond,ar rfl]
    exact hf _ (by rw [if_neg (by omega),hes])
  ·have q1:decide (((i:Nat):Int)<keep)=false:=by rw [Ir]; omega
   have q2:((((i:Nat):Int)==keep)||((((i:Nat):Int)==0)&&decide (keep<0)))=false:=by
    rw [Bool.eq_false_iff]; intro hc
    simp only [Bool.or_eq_true,Iw,beq_iff_eq,Iq] at hc
    omega
   rw [if_neg (by omega),q1,ar rfl]
   unfold bL bj
   rw [q2]
   exact hf _ (by rw [if_neg (by omega)])
end
section
variable {R N:Nat} {d:Dk} {m:Md}
end
def m0(room:Int):Md:=⟨(rm room:Int),[],[]⟩
theorem GO(room:Int):kC room=some (m0 room):=by
 unfold kC iK iN m0 rm
 by_cases h:room<0
 ·rw [az (by simpa using h),ar (by decide)]
  rw [show (((min (max room 0) 1073741824).toNat:Nat):Int)=0 by omega]
 ·rw [ar (by simpa using h)]
  by_cases h2:1073741824<room
  ·rw [az (by simpa using h2),show (((min (max room 0) 1073741824).toNat:Nat):Int)=1073741824 by omega]
  ·rw [ar (by simpa using h2),show (((min (max room 0) 1073741824).toNat:Nat):Int)=room by omega]
theorem rel0(room:Int):Rel (rm room) 0 (d0 room) (m0 room):=⟨rfl,rfl,rfl,GT.symm,Good.nil NK.nil (IH _) (IH _),IH _⟩
theorem Dh{b:List UInt8}{at_:Nat}(hb:b.length≤lim):∀(k i n F:Nat),i+k=8→n<128 ^ i→at_+i≤b.length→loopN (eE b) (F+k+1) (((at_+i:Nat):Int),(n:Int),((128 ^ i:Nat):Int),(i:Int))=some (numR at_ (numF i n (b.drop (at_+i)))):=by
 rw [aB] at hb
 intro k
 induction k with
 | zero=>
  intro i n F hi hn ha
  obtain rfl:i=8:=by omega
  rw [br]
  generalize loopN (eE b) (F+0)=f
  unfold eE
  simp only
  by_cases h0:at_+8<b.length
  ·have hg:(gt b (((at_+8:Nat):Int)).toNat)=gt b (at_+8):=by rw [Iz]
   rw [az (by rw [Iq]; omega),aw (by unfold inb; rw [Iw,Iq,Iq]; omega),hg,cj h0]
   generalize gt b (at_+8)=c
   have hc:=c.toNat_lt
   have hn8:n<72057594037927936:=Nat.lt_of_lt_of_le hn (p8 (IG 8))
   rw [aH (x:=((c.toNat:Nat):Int)) (by unfold I64; omega)]
   unfold numF
   by_cases h1:127<c.toNat
   ·rw [az (by simp; omega),if_pos (.inl ⟨rfl,h1⟩)]; rfl
   ·by_cases h2:c.toNat=0
    ·rw [az (by simp; omega),if_pos (.inr ⟨by decide,h2⟩)]; rfl
    ·have hp:(128 ^ 8:Nat)=72057594037927936:=by decide
     rw [ar (by simp; omega),if_neg (by omega),az (by rw [Iq]; omega),if_pos (by omega)]
     unfold numR
     simp only [if_pos]
     rw [hp,Int.tmod_eq_emod_of_nonneg (by omega),aH (x:=((c.toNat:Nat):Int) % 128*((72057594037927936:Nat):Int)) (by unfold I64; omega),aH (x:=(n:Int)+_) (by unfold I64; omega),aH (by unfold I64; omega)]
     have e1:(n:Int)+((c.toNat:Nat):Int) % 128*((72057594037927936:Nat):Int)=((n+c.toNat*72057594037927936:Nat):Int):=by omega
     have e2:((at_+8:Nat):Int)+1=((at_+(8+1):Nat):Int):=by omega
     rw [e1,e2]
  ·rw [ar (by rw [Ir]; omega),IB (by omega)]; rfl
 | succ k ih=>
  intro i n F hi hn ha
  rw [show F+(k+1)+1=(F+k+1)+1 by omega,br]
  have ih2:=λn=>ih (i+1) n F
  generalize loopN (eE b) (F+k+1)=f at ih2 ⊢
  unfold eE
  simp only
  have hpi:=p8 (i:=i) (by omega)
  by_cases h0:at_+i<b.length
  ·have hg:(gt b (((at_+i:Nat):Int)).toNat)=gt b (at_+i):=by rw [Iz]
   rw [az (by rw [Iq]; omega),aw (by unfold inb; rw [Iw,Iq,Iq]; omega),hg,cj h0]
   generalize gt b (at_+i)=c
   have hc:=c.toNat_lt
   rw [aH (x:=((c.toNat:Nat):Int)) (by unfold I64; omega)]
   unfold numF
   by_cases h2:0<i∧c.toNat=0
   ·rw [az (by simp; omega),if_pos (.inr h2)]; rfl
   ·rw [ar (by simp; omega),if_neg (by omega)]
    have hmul:c.toNat % 128*128 ^ i≤127*128 ^ i:=Nat.mul_le_mul_right _ (by omega)
    have em:(((c.toNat:Nat):Int).tmod 128)*((128 ^ i:Nat):Int)=((c.toNat % 128*128 ^ i:Nat):Int):=by
     rw [Int.tmod_eq_emod_of_nonneg (by omega)]; push_cast; rfl
    rw [em]
    generalize hX:c.toNat % 128*128 ^ i=X at hmul
    rw [aH (x:=(X:Int)) (by unfold I64; omega),aH (x:=(n:Int)+(X:Int)) (by unfold I64; omega),aH (x:=((at_+i:Nat):Int)+1) (by unfold I64; omega)]
    by_cases h3:c.toNat<128
    ·rw [az (by rw [Iq]; omega),if_pos h3]
     unfold numR
     simp only [if_pos]
     rw [← hX,Nat.mod_eq_of_lt h3]
     congr 2
    ·rw [ar (by rw [Ir]; omega),if_neg h3]
     have e1:((128 ^ i:Nat):Int)*128=((128 ^ (i+1):Nat):Int):=by rw [Nat.pow_succ]; push_cast; rfl
     have hp1:128 ^ (i+1)≤72057594037927936:=p8 (by omega)
     rw [e1,aH (x:=((128 ^ (i+1):Nat):Int)) (by unfold I64; omega),aH (x:=(i:Int)+1) (by unfold I64; omega)]
     have:=ih2 (n+(c.toNat - 128)*128 ^ i) (by omega) (rh hn (by omega)) (by omega)
     rw [show c.toNat % 128=c.toNat - 128 by omega] at hX
     rw [hX] at this ⊢
     rw [← Nat.add_assoc at_ i 1] at this
     exact this
  ·rw [ar (by rw [Ir]; omega),IB (by omega)]; rfl
theorem Bt{b:List UInt8}{at_:Nat}(hb:b.length≤lim)(ha:at_≤b.length):cR b (at_:Int)=some (numR at_ (numF 0 0 (b.drop at_))):=by
 unfold cR
 obtain⟨F,hF⟩:∃F,FU=F+8+1:=⟨FU - 9,by unfold FU; omega⟩
 rw [hF]
 exact Dh hb 8 0 0 F rfl (by decide) ha
theorem Da:∀(k u F:Nat) (b:List UInt8),u<128 ^ (k+1)→k≤8→b.length+k+1≤lim→loopN bH (F+k+1) ((u:Int),b)=some (b++pn u):=by
 intro k
 induction k with
 | zero=>
  intro u F b h _ hb
  rw [br]
  generalize loopN bH (F+0)=f
  unfold bH
  simp only
  rw [ar (by rw [Ir]; omega),aw (by rw [Iq]; omega),u7 (by omega),oR (by unfold U8; omega)]
  unfold b8
  rw [Iz]
 | succ k ih=>
  intro u F b h hk hb
  rw [show F+(k+1)+1=(F+k+1)+1 by omega,br]
  by_cases h1:u<128
  ·generalize loopN bH (F+k+1)=f
   unfold bH
   simp only
   rw [ar (by rw [Ir]; omega),aw (by rw [Iq]; omega),u7 h1,oR (by unfold U8; omega)]
   unfold b8
   rw [Iz]
  ·have hp:128 ^ (k+1+1)≤128 ^ 9:=Nat.pow_le_pow_right (by decide) (by omega)
   have hp9:(128 ^ 9:Nat)=9223372036854775808:=by decide
   have ih2:=ih (u / 128) F (b++[UInt8.ofNat (u % 128+128)]) (by rw [Nat.pow_succ] at h; omega) (by omega) (by simp; omega)
   generalize loopN bH (F+k+1)=f at ih2 ⊢
   unfold bH
   simp only
   rw [az (by rw [Iq]; omega),aw (by rw [Iq]; omega),Int.tmod_eq_emod_of_nonneg (by omega),Int.tdiv_eq_ediv_of_nonneg (by omega)]
   rw [aH (x:=(u:Int) / 128) (by unfold I64; omega),aH (x:=(u:Int) % 128+128) (by unfold I64; omega),oR (by unfold U8; omega)]
   rw [show (u:Int) / 128=((u / 128:Nat):Int) by omega,show (u:Int) % 128+128=((u % 128+128:Nat):Int) by omega]
   unfold b8
   rw [Iz,ih2,yc h1,Iv]; rfl
theorem rj{n:Nat}(h:n<9223372036854775808):cw (n:Int)=some (pn n):=by
 unfold cw ga
 rw [ar (by rw [Ir]; omega)]
 obtain⟨F,hF⟩:∃F,FU=F+8+1:=⟨FU - 9,by unfold FU; omega⟩
 rw [hF]
 exact Da 8 n F [] (by omega) (IG _) (by rw [aB]; simp)
theorem F8(r:BitVec 32):crcB r=if r.toNat % 2=1 then (r >>> 1) ^^^ 3988292384#32 else r >>> 1:=by
 have h1:r &&& 1#32=if r.toNat % 2=1 then 1#32 else 0#32:=by
  apply BitVec.eq_of_toNat_eq
  rw [BitVec.toNat_and,show (1#32).toNat=2 ^ 1 - 1 from rfl,Nat.and_two_pow_sub_one_eq_mod]
  split
  ·rename_i h; rw [show (2:Nat) ^ 1=2 from rfl,h]; rfl
  ·rename_i h; rw [show (2:Nat) ^ 1=2 from rfl]; show r.toNat % 2=0; omega
 unfold crcB
 rw [h1]
 split
 ·rw [show -(1#32)=4294967295#32 by decide,show 3988292384#32 &&& 4294967295#32=3988292384#32 by decide]
 ·rw [show -(0#32)=0#32 by decide,show 3988292384#32 &&& 0#32=0#32 by decide,BitVec.xor_zero]
theorem half(r:BitVec 32):wu32 ((r.toNat:Int).tdiv 2)=((r >>> 1).toNat:Int):=by
 have:=r.isLt
 rw [Int.tdiv_eq_ediv_of_nonneg (by omega),sg (by unfold U32; omega),BitVec.toNat_ushiftRight,Nat.shiftRight_eq_div_pow]; push_cast; rfl
theorem xV{f:Int→Option Int}:∀(k i:Nat) (r:BitVec 32),forU i8 f k i (r.toNat:Int)=f ((crcN k r).toNat:Int)
 | 0,_,_=>rfl
 | k+1,i,r=>by
  have ih:=xV (f:=f) k (i+1) (crcB r)
  rw [forU]
  generalize forU i8 f k (i+1)=g at ih ⊢
  unfold i8 il
  rw [half]
  show _=f ((crcN k (crcB r)).toNat:Int)
  rw [← ih,F8]
  have hm:((r.toNat:Int).tmod 2==1)=decide (r.toNat % 2=1):=by
   rw [Int.tmod_eq_emod_of_nonneg (by omega),Bool.eq_iff_iff,beq_iff_eq,Iq]; omega
  rw [hm]
  by_cases h:r.toNat % 2=1
  ·rw [IF h,az rfl,if_pos h,show (3988292384:Int)=((3988292384#32).toNat:Int) from rfl,uQ]
  ·rw [decide_eq_false h,ar rfl,if_neg h]
theorem GZ(l:List UInt8):kD l=some ((sumB l).toNat:Int):=by
 unfold kD
 have key:∀(l:List UInt8) (i:Nat) (r:BitVec 32),forI im (λr_1=>some (ixor .u32 r_1 4294967295)) i l (r.toNat:Int)=some (ixor .u32 ((l.foldl crc r).toNat:Int) 4294967295):=by
  intro l
  induction l with
  | nil=>intro i r; rfl
  | cons c l ih=>
   intro i r
   have hc:=c.toNat_lt
   have e:wu32 ((c.toNat:Nat):Int)=((BitVec.ofNat 32 c.toNat).toNat:Int):=by
    rw [BitVec.toNat_ofNat,sg (by unfold U32; omega),Nat.mod_eq_of_lt (by omega)]
   have ih2:=ih (i+1) (crc r c)
   rw [forI]
   generalize forI im (λr_1=>some (ixor .u32 r_1 4294967295)) (i+1) l=g at ih2 ⊢
   unfold im
   rw [e,uQ,xV]
   exact ih2
 rw [show (4294967295:Int)=((4294967295#32).toNat:Int) from rfl] at key ⊢
 rw [key,uQ]
 unfold sumB
 congr 3
 rw [BitVec.xor_comm]
 exact BitVec.allOnes_xor
theorem E7{a b:List UInt8}(h:a.length+b.length≤lim):eP a b=some (a++b):=by
 unfold eP
 rw [aw (by rw [Iq]; omega),aw (by rw [Iq]; omega)]
theorem Bf{x:List UInt8}(h:x.length+40≤lim):eS x=some (fr x):=by
 have hl:=h
 rw [aB] at hl
 have hp:(pn x.length).length≤9:=wT 8 _ (by omega)
 unfold eS
 rw [rj (by omega),IC,E7 (by omega),IC,GZ,IC,aw (by rw [Iq]; omega)]
 generalize hs:sumB (pn x.length++x)=s
 have hlt:=s.isLt
 have e4:[b8 (wu8 ((s.toNat:Int).tmod 256)),b8 (wu8 ((wu32 ((s.toNat:Int).tdiv 256)).tmod 256)),b8 (wu8 ((wu32 ((s.toNat:Int).tdiv 65536)).tmod 256)),b8 (wu8 (wu32 ((s.toNat:Int).tdiv 16777216)))]=s4 s:=by
  unfold s4 b8
  rw [Int.tdiv_eq_ediv_of_nonneg (by omega),Int.tdiv_eq_ediv_of_nonneg (by omega),Int.tdiv_eq_ediv_of_nonneg (by omega),sg (x:=(s.toNat:Int) / 256) (by unfold U32; omega),sg (x:=(s.toNat:Int) / 65536) (by unfold U32; omega),sg (x:=(s.toNat:Int) / 16777216) (by unfold U32; omega)]
  rw [Int.tmod_eq_emod_of_nonneg (by omega),Int.tmod_eq_emod_of_nonneg (by omega),Int.tmod_eq_emod_of_nonneg (by omega)]
  rw [oR (by unfold U8; omega),oR (by unfold U8; omega),oR (by unfold U8; omega),oR (by unfold U8; omega)]
  have q1:((s.toNat:Int) % 256).toNat=s.toNat % 256:=by omega
  have q2:((s.toNat:Int) / 256 % 256).toNat=s.toNat / 256 % 256:=by omega
  have q3:((s.toNat:Int) / 65536 % 256).toNat=s.toNat / 65536 % 256:=by omega
  have q4:((s.toNat:Int) / 16777216).toNat=s.toNat / 16777216 % 256:=by omega
  rw [q1,q2,q3,q4]
 rw [e4,E7 (by rw [Is,wl]; omega),IC,Iv]
 unfold fr
 rw [hs]
theorem rz:∀(l:List UInt8) (i n r k:Nat),numF i n l=(r,k,0)→∃m,r=n+m*128 ^ i∧i<k∧l.take (k - i)=pn m∧(0<i→0<m)
 | [],_,_,_,_,h=>by unfold numF at h; injection h with _ h; injection h with _ h; exact absurd h (by decide)
 | c::l,i,n,r,k,h=>by
  have hc:=c.toNat_lt
  unfold numF at h
  split at h
  ·injection h with _ h; injection h with _ h; exact absurd h (by decide)
  ·rename_i h1
   split at h
   ·rename_i h2
    injection h with e1 h; injection h with e2 _
    refine⟨c.toNat,e1.symm,by omega,?_,λhi=>by omega⟩
    rw [← e2,Nat.add_sub_cancel_left,u7 h2]
    simp
   ·rename_i h2
    obtain⟨m,m1,m2,m3,m4⟩:=rz l (i+1) _ r k h
    have hm:=m4 (Nat.succ_pos i)
    refine⟨c.toNat - 128+128*m,?_,by omega,?_,λ_=>by omega⟩
    ·rw [m1,Nat.pow_succ,Nat.add_mul,Nat.add_assoc]
     congr 1
     congr 1
     rw [Nat.mul_comm (128 ^ i) 128, ← Nat.mul_assoc,Nat.mul_comm m 128]
    ·rw [show k - i=(k - (i+1))+1 by omega,List.take_succ_cons,m3,yc (n:=c.toNat - 128+128*m) (by omega)]
     rw [show (c.toNat - 128+128*m) % 128+128=c.toNat by omega,show (c.toNat - 128+128*m) / 128=m by omega]
     simp
theorem Hl(a b:List UInt8):((⟨a.toArray⟩:ByteArray) != ⟨b.toArray⟩)=!decide (a=b):=by
 rw [Bool.eq_iff_iff,bne_iff_ne]
 simp only [Bool.not_eq_true',Ir]
 exact not_congr ⟨λe=>by have:=congrArg (λx:ByteArray=>x.data.toList) e; simpa using this,λe=>by rw [e]⟩
theorem Fc{b:List UInt8}{at_:Nat}(hb:b.length≤lim)(ha:at_≤b.length):jR b (at_:Int)=some (yi at_ (cG (b.drop at_))):=by
 have hok:=vT (b.drop at_) 0 0 (by omega) (by simp)
 have hbl:=hb
 rw [aB] at hbl
 unfold jR
 rw [Bt hb ha,IC]
 have hll:(b.drop at_).length=b.length - at_:=IW
 have htk:∀k,b.take (at_+k)=b.take at_++(b.drop at_).take k:=λk=>List.take_add
 have hdt:∀k j,(b.take (at_+k)).drop (at_+j)=((b.drop at_).take k).drop j:=λk j=>by
  rw [List.drop_take,List.drop_take,List.drop_drop]
  congr 1
  omega
 generalize hl:b.drop at_=l at hok hll hdt ⊢
 unfold cG
 generalize hr:numF 0 0 l=r at hok ⊢
 obtain⟨n,k,e⟩:=r
 unfold numR yi
 simp only at hok ⊢
 by_cases he:e=0
 rotate_left
 ·have hi:i64b e=true:=by
   rcases hok with h | h | h
   ·exact absurd h.1 he
   ·rw [h]; decide
   ·rw [h]; decide
  rw [if_pos he,az (by simpa using he),aw hi]
  simp only [if_neg he]
 ·subst he
  rcases hok with ⟨_,h1,h2,h3⟩ | h | h
  rotate_left
  ·exact absurd h (by decide)
  ·exact absurd h (by decide)
  obtain⟨m,m1,_,m3,_⟩:=rz l 0 0 n k hr
  rw [Nat.pow_zero,Nat.mul_one,Nat.zero_add] at m1
  rw [← m1,Nat.sub_zero] at m3
  simp only [if_pos,if_neg (show ¬ ((0:Int)≠0) from λh=>h rfl)]
  rw [ar (by decide)]
  by_cases g1:1048576<n
  ·rw [az (by rw [Iq]; omega),if_pos g1]; rfl
  rw [ar (by rw [Ir]; omega),if_neg g1,aH (x:=((b.length:Nat):Int) - ((at_+k:Nat):Int)) (by unfold I64; omega),aH (x:=(n:Int)+4) (by unfold I64; omega)]
  by_cases g2:l.length - k<n+4
  ·rw [az (by rw [Iq]; omega),if_pos g2]; rfl
  rw [ar (by rw [Ir]; omega),if_neg g2,aH (x:=((at_+k:Nat):Int)+4) (by unfold I64; omega),aH (x:=((at_+k:Nat):Int)+4+(n:Int)) (by unfold I64; omega)]
  have e1:(((at_+k:Nat):Int)+4+(n:Int)).toNat=at_+(k+4+n):=by omega
  have e2:(((at_+k:Nat):Int)+4).toNat=at_+(k+4):=by omega
  rw [e1,e2,hdt,aw (by unfold inle; rw [Iw,Iq,Iq]; omega),aw (by rw [Iq]; omega),aw (by rw [Iq]; omega)]
  have hx:(l.take (k+4+n)).drop (k+4)=(l.drop (k+4)).take n:=by rw [List.drop_take,Nat.add_sub_cancel_left]
  have hxl:((l.drop (k+4)).take n).length=n:=by rw [IV,IW]; omega
  rw [hx,E7 (by rw [hxl,IK]; omega),IC,IO,aw (by rw [Iq]; omega),aw (by rw [Iq]; omega),Bf (by rw [hxl,aB]; omega),IC]
  have hsp:l.take (k+4+n)=l.take k++((l.drop k).take 4++(l.drop (k+4)).take n):=by
   rw [Nat.add_assoc,List.take_add,List.take_add,List.drop_drop]
  have ht0:(b.take (at_+(k+4+n))).drop ((at_:Nat):Int).toNat=l.take (k+4+n):=by
   rw [Iz]; have:=hdt (k+4+n) 0; rw [Nat.add_zero,List.drop_zero] at this; exact this
  rw [ht0,Hl,hsp]
  generalize hxx:(l.drop (k+4)).take n=x at hxl
  have hfr:fr x=l.take k++(s4 (sumB (l.take k++x))++x):=by unfold fr; rw [hxl, ← m3]
  rw [hfr]
  have h4:((l.drop k).take 4).length=4:=by rw [IV,IW]; omega
  by_cases g3:(l.drop k).take 4=s4 (sumB (l.take k++x))
  ·rw [if_pos g3, ← g3,IF rfl,show (!true)=false from rfl,ar rfl]
   simp only [if_pos]
   congr 3
   omega
  ·rw [if_neg g3,decide_eq_false (λh=>g3 (by
    have:=List.append_cancel_left h
    exact(List.append_inj this (by rw [wl,h4])).1.symm)),show (!false)=true from rfl,az rfl]
   rfl
theorem CM{b:List UInt8}(hb:b.length≤lim):∀(m p F:Nat) (out:List (List UInt8)),p≤b.length→b.length - p≤m→out.length+(b.length - p)≤lim →
  ∃e,loopN (cu b) (F+m+1) (out,(p:Int))=some (out++(allB (b.drop p)).1,((p+(allB (b.drop p)).2.1:Nat):Int),e):=by
 intro m
 induction m with
 | zero=>
  intro p F out hp hm ho
  obtain rfl:p=b.length:=by omega
  rw [br]
  generalize loopN (cu b) (F+0)=f
  unfold cu
  simp only
  rw [ar (by rw [Ir]; omega),IB (IG _),all_nil]
  exact⟨0,by simp⟩
 | succ m ih=>
  intro p F out hp hm ho
  rw [show F+(m+1)+1=(F+m+1)+1 by omega,br]
  by_cases hpl:p=b.length
  ·subst hpl
   generalize loopN (cu b) (F+m+1)=f
   unfold cu
   simp only
   rw [ar (by rw [Ir]; omega),IB (IG _),all_nil]
   exact⟨0,by simp⟩
  ·have hlt:p<b.length:=by omega
   have ih2:=λq out=>ih q F out
   generalize loopN (cu b) (F+m+1)=f at ih2
   unfold cu
   simp only
   rw [az (by rw [Iq]; omega),Fc hb hp,IC]
   have hne:b.drop p≠[]:=λe=>by have:=congrArg List.length e; rw [IW,IK] at this; omega
   have hll:(b.drop p).length=b.length - p:=IW
   rw [rJ,if_neg hne]
   unfold yi
   simp only
   by_cases he:(cG (b.drop p)).2.2=0
   ·have hk:=pB he
    rw [if_pos he,if_neg (show ¬ (cG (b.drop p)).2.2≠0 from λh=>h he),ar (by rw [he]; rfl),aw (by rw [Iq]; omega)]
    obtain⟨e,h⟩:=ih2 (p+(cG (b.drop p)).2.1) (out++[(cG (b.drop p)).1]) (by omega) (by omega) (by rw [Is,List.length_singleton]; omega)
    refine⟨e,?_⟩
    rw [h,List.drop_drop,Iv]
    simp only [List.singleton_append]
    rw [Nat.add_assoc]
   ·rw [if_pos (show (cG (b.drop p)).2.2≠0 from he),az (by simpa using he)]
    exact⟨(cG (b.drop p)).2.2,by simp⟩
theorem Do{b:List UInt8}(hb:b.length≤lim):∃e,iR b=some ((allB b).1,(((allB b).2.1:Nat):Int),e):=by
 unfold iR
 have hl:=hb
 rw [aB] at hl
 obtain⟨F,hF⟩:∃F,FU=F+b.length+1:=⟨FU - b.length - 1,by unfold FU; omega⟩
 rw [hF]
 obtain⟨e,h⟩:=CM hb b.length 0 F [] (IH _) (by omega) (by simpa using hb)
 rw [List.drop_zero,IO,Nat.zero_add] at h
 exact⟨e,h⟩
theorem D8{n:Int}(hn:0≤n):∀(k u F:Nat) (acc:List UInt8),u<10 ^ k→k≤19→acc≠[]→acc.length+k≤20→loopN (bI n) (F+k+1) (⟨acc.toArray⟩,(u:Int))=some ⟨(dz u++acc).toArray⟩:=by
 intro k
 have hl:=aB
 have hemp:∀acc:List UInt8,acc≠[]→((⟨acc.toArray⟩:ByteArray)==ByteArray.empty)=false:=λacc h=>by
  rw [beq_eq_false_iff_ne]; intro e
  have:=congrArg (λx:ByteArray=>x.data.toList) e
  exact h (by simpa using this)
 have fin:∀(f:ByteArray×Int→Option ByteArray) (acc:List UInt8),acc≠[]→bI n f (⟨acc.toArray⟩,((0:Nat):Int))=some ⟨(dz 0++acc).toArray⟩:=λf acc h=>by
  unfold bI
  simp only
  rw [hemp acc h,show (false||(((0:Nat):Int) != 0))=false from rfl,ar rfl,ar (by rw [Ir]; omega),dz_0]; rfl
 induction k with
 | zero=>
  intro u F acc hu _ ha _
  obtain rfl:u=0:=by omega
  rw [br]
  exact fin _ acc ha
 | succ k ih=>
  intro u F acc hu hk ha hla
  rw [show F+(k+1)+1=(F+k+1)+1 by omega,br]
  by_cases h0:u=0
  ·subst h0; exact fin _ acc ha
  ·have hb:10 ^ (k+1)≤10 ^ 19:=Nat.pow_le_pow_right (by decide) (by omega)
   have h19:(10 ^ 19:Nat)=10000000000000000000:=by decide
   have ih2:=ih (u / 10) F (UInt8.ofNat (48+u % 10)::acc) (by rw [Nat.pow_succ] at hu; omega) (by omega) (by simp) (by rw [Iy]; omega)
   generalize loopN (bI n) (F+k+1)=f at ih2 ⊢
   unfold bI ep
   simp only
   have c1:((⟨acc.toArray⟩:ByteArray)==ByteArray.empty||((u:Int) != 0))=true:=by
    rw [Bool.or_eq_true]; right; rw [bne_iff_ne]; omega
   rw [c1,az rfl,Int.tmod_eq_emod_of_nonneg (by omega),ar (by rw [Ir]; omega),aw (by show decide (acc.length≤lim)=true; rw [Iq]; omega),Int.tdiv_eq_ediv_of_nonneg (by omega)]
   rw [aH (x:=48+(u:Int) % 10) (by unfold I64; omega),oR (by unfold U8; omega)]
   have hdiv:w64 ((u:Int) / 10)=((u / 10:Nat):Int):=by
    by_cases hs:u≤9223372036854775807
    ·rw [aH (by unfold I64; omega)]; omega
    ·rw [aH (by unfold I64; omega)]; omega
   rw [hdiv]
   unfold b8
   have e1:((⟨[UInt8.ofNat (48+(u:Int) % 10).toNat].toArray⟩:ByteArray)++⟨acc.toArray⟩)=⟨(UInt8.ofNat (48+u % 10)::acc).toArray⟩:=by
    apply j7
    rw [qy,show (48+(u:Int) % 10).toNat=48+u % 10 by omega]; rfl
   rw [e1,ih2,dz_s h0,Iv]; rfl
theorem xU{n:Nat}(h:n<10000000000000000000):fN (n:Int)=some ⟨(ds n).toArray⟩:=by
 have hl:=aB
 unfold fN
 obtain⟨F,hF⟩:∃F,FU=(F+18+1)+1:=⟨FU - 20,by unfold FU; omega⟩
 rw [hF,br]
 have h2:=D8 (n:=(n:Int)) (by omega) 18 (n / 10) F [UInt8.ofNat (48+n % 10)] (by omega) (by omega) (by simp) (by simp)
 generalize loopN (bI (n:Int)) (F+18+1)=f at h2 ⊢
 unfold bI ep
 simp only
 rw [show (ByteArray.empty==ByteArray.empty||((n:Int) != 0))=true by rw [show (ByteArray.empty==ByteArray.empty)=true by decide]; rfl,az rfl,Int.tmod_eq_emod_of_nonneg (by omega),ar (by rw [Ir]; omega),aw (by decide),Int.tdiv_eq_ediv_of_nonneg (by omega)]
 rw [aH (x:=48+(n:Int) % 10) (by unfold I64; omega),oR (by unfold U8; omega),aH (x:=(n:Int) / 10) (by unfold I64; omega)]
 unfold b8
 have e1:((⟨[UInt8.ofNat (48+(n:Int) % 10).toNat].toArray⟩:ByteArray)++ByteArray.empty)=⟨[UInt8.ofNat (48+n % 10)].toArray⟩:=by
  apply j7
  rw [qy,show (48+(n:Int) % 10).toNat=48+n % 10 by omega]; rfl
 rw [e1,show (n:Int) / 10=((n / 10:Nat):Int) by omega,h2]; rfl
theorem yI{nm:ByteArray}(h:Nm nm){g k:Nat}(hg:g≤999999)(hk:k≤999999):fp nm (g:Int) (k:Int)=some (fn nm g k):=by
 have h1:(ds g).length≤6:=sP (by omega)
 have h2:(ds k).length≤6:=sP (by omega)
 have h6:=h.hi
 have hs1:(⟨#[46]⟩:ByteArray).size=1:=rfl
 unfold fp
 rw [xU (by omega),IC,xU (by omega),IC]
 have l:=aB
 rw [aw (by simp only [ByteArray.size_append,l5,hs1,Iq]; omega),aw (by simp only [ByteArray.size_append,l5,hs1,Iq]; omega),aw (by simp only [ByteArray.size_append,l5,hs1,Iq]; omega),aw (by simp only [ByteArray.size_append,l5,hs1,Iq]; omega),aw (by simp only [ByteArray.size_append,l5,hs1,Iq]; omega)]
 rfl
def Dg(l:List UInt8):Prop := ∀c∈l,48≤c.toNat∧c.toNat≤57
instance (l:List UInt8):Decidable (Dg l):=by unfold Dg; infer_instance
def wN(l:List UInt8):Bool:=decide (1<l.length)&&decide ((gt l 0).toNat=48)
def rdQ(s:ByteArray):Int×Int:=if s.data.toList≠[]∧wN s.data.toList=false∧Dg s.data.toList∧rdV 0 s.data.toList<9223372036854775808 then (((rdV 0 s.data.toList:Nat):Int),0) else (0,2)
theorem C3:∀(l:List UInt8) (n:Nat),n*10 ^ l.length≤rdV n l
 | [],n=>by show n*1≤n; omega
 | c::l,n=>by
  have:=C3 l (10*n+(c.toNat - 48))
  show n*10 ^ (l.length+1)≤rdV (10*n+(c.toNat - 48)) l
  refine Nat.le_trans ?_ this
  rw [Nat.pow_succ,Nat.mul_comm (10 ^ l.length) 10, ← Nat.mul_assoc]
  exact Nat.mul_le_mul_right _ (by omega)
theorem FI{l:List UInt8}(h:19<l.length)(hz:wN l=false)(hd:Dg l):9223372036854775808≤rdV 0 l:=by
 cases l with
 | nil=>exact absurd h (Nat.not_lt_zero _)
 | cons c l=>
  have hc:=hd c It
  unfold wN at hz
  rw [Bool.and_eq_false_iff,Ir,Ir] at hz
  have hne:c.toNat≠48:=by
   rcases hz with hz | hz
   ·exact absurd (by omega) hz
   ·exact hz
  rw [Iy] at h
  have h1:=C3 l (10*0+(c.toNat - 48))
  have h2:10 ^ 19≤10 ^ l.length:=Nat.pow_le_pow_right (by decide) (by omega)
  have h3:1*10 ^ l.length≤(10*0+(c.toNat - 48))*10 ^ l.length:=Nat.mul_le_mul_right _ (by omega)
  have h19:(10 ^ 19:Nat)=10000000000000000000:=by decide
  show 9223372036854775808≤rdV (10*0+(c.toNat - 48)) l
  omega
theorem CN{l:List UInt8}(h:l.length≤19)(hd:Dg l):rdV 0 l<10000000000000000000:=by
 have key:∀(l:List UInt8) (n:Nat),Dg l→rdV n l<(n+1)*10 ^ l.length:=by
  intro l
  induction l with
  | nil=>intro n _; show n<(n+1)*1; omega
  | cons c l ih=>
   intro n hd
   have hc:=hd c It
   have:=ih (10*n+(c.toNat - 48)) λq hq=>hd q (Iu _ hq)
   show rdV (10*n+(c.toNat - 48)) l<(n+1)*10 ^ (l.length+1)
   refine Nat.lt_of_lt_of_le this ?_
   rw [Nat.pow_succ,Nat.mul_comm (10 ^ l.length) 10, ← Nat.mul_assoc]
   exact Nat.mul_le_mul_right _ (by omega)
 have h1:=key l 0 hd
 have h2:10 ^ l.length≤10 ^ 19:=Nat.pow_le_pow_right (by decide) h
 have h19:(10 ^ 19:Nat)=10000000000000000000:=by decide
 omega
theorem zQ{K:Int→Option (Int×Int)}:∀(l:List UInt8) (i:Nat) (n:Int),¬ Dg l→forI dT K i l n=some (0,2)
 | [],_,_,h=>absurd (λc hc=>by cases hc) h
 | c::l,i,n,h=>by
  rw [forI]
  show (bif decide (((c.toNat:Nat):Int)<48)||decide (57<((c.toNat:Nat):Int)) then some (0,2) else forI dT K (i+1) l _)=_
  by_cases hc:48≤c.toNat∧c.toNat≤57
  ·rw [ar (by simp; omega)]
   refine zQ l (i+1) _ λhd=>h λq hq=>?_
   rcases List.mem_cons.1 hq with e | hq
   ·rw [e]; exact hc
   ·exact hd q hq
  ·rw [az (by simp; omega)]
theorem sz0{s:ByteArray}:(s==ByteArray.empty)=decide (s.data.toList = []):=by
 rw [Bool.eq_iff_iff,beq_iff_eq,Iq,wM]
 show s.data.toList.length=0↔_
 exact List.length_eq_zero_iff
theorem ze(s:ByteArray):(decide (1<((s.size:Nat):Int))&&((((gt s.data.toList 0).toNat:Nat):Int)==48))=wN s.data.toList:=by
 unfold wN
 have h1:s.size=s.data.toList.length:=rfl
 rw [h1]
 rw [Bool.eq_iff_iff]
 simp only [Iw,Iq,beq_iff_eq]
 omega
theorem GE(s:ByteArray):rdP s=rdQ s:=by
 unfold rdP jm rdQ
 rw [sz0,ze]
 have hsz:s.size=s.data.toList.length:=rfl
 have hc:imp ((!(decide (s.data.toList = [])))&&(decide (1<((s.size:Nat):Int)))) (decide (0<s.size))=true:=by
  unfold imp
  by_cases h:1<s.size
  ·have:0<s.size:=by omega
   simp [this]
  ·have h2:decide (1<((s.size:Nat):Int))=false:=by rw [Ir]; omega
   rw [h2]; simp
 rw [hc,aw rfl,hsz]
 generalize s.data.toList=l
 by_cases h0:l = []
 ·rw [IF h0,if_neg (λh=>h.1 h0)]; rfl
 rw [decide_eq_false h0]
 cases hz:wN l with
 | true=>rw [if_neg (λh=>by cases h.2.1)]; rfl
 | false=>
  rw [show (false||false)=false from rfl,Bool.false_or]
  by_cases h19:19<l.length
  ·rw [az (by rw [Iq]; omega),if_neg (λh=>by have:=FI h19 hz h.2.2.1; omega)]; rfl
  ·rw [ar (by rw [Ir]; omega)]
   by_cases hd:Dg l
   ·have hs:=CN (by omega) hd
    have:=uO (K:=λn_20=>bif decide (9223372036854775808≤n_20) then some (0,2) else some (w64 n_20,0)) l 0 0 hd hs
    have this2:forI dT (λn_20=>bif decide (9223372036854775808≤n_20) then some (0,2) else some (w64 n_20,0)) 0 l 0=_:=this
    rw [this2]
    by_cases hv:rdV 0 l<9223372036854775808
    ·rw [if_pos ⟨h0,rfl,hd,hv⟩,ar (by rw [Ir]; omega),aH (by unfold I64; omega)]; rfl
    ·rw [if_neg (λh=>hv h.2.2.2),az (by rw [Iq]; omega)]; rfl
   ·rw [zQ l 0 0 hd,if_neg (λh=>hd h.2.2.1)]; rfl
theorem w8{s:ByteArray}:∀(k i n:Nat),i+k=s.data.toList.length→n<9223372036854775808→forU (fa s) (λn_11=>some (n_11,0)) k i (n:Int)=some (if Dg (s.data.toList.drop i)∧rdV n (s.data.toList.drop i)<9223372036854775808 then (((rdV n (s.data.toList.drop i):Nat):Int),0) else (0,2))
 | 0,i,n,h,hn=>by
  rw [IB (by omega),if_pos ⟨λc hc=>(by cases hc),hn⟩]; rfl
 | k+1,i,n,h,hn=>by
  have hi:i<s.data.toList.length:=by omega
  have ih:=λm=>w8 (s:=s) k (i+1) m (by omega)
  rw [forU]
  generalize forU (fa s) (λn_11=>some (n_11,0)) k (i+1)=f at ih ⊢
  unfold fa
  rw [cj hi]
  generalize gt s.data.toList i=c
  have hc:=c.toNat_lt
  by_cases hd:48≤c.toNat∧c.toNat≤57
  ·rw [ar (by simp; omega),aH (x:=((c.toNat:Nat):Int)) (by unfold I64; omega),aH (x:=((c.toNat:Nat):Int) - 48) (by unfold I64; omega),aH (x:=9223372036854775807 - (((c.toNat:Nat):Int) - 48)) (by unfold I64; omega),Int.tdiv_eq_ediv_of_nonneg (by omega),aH (x:=(9223372036854775807 - (((c.toNat:Nat):Int) - 48)) / 10) (by unfold I64; omega)]
   have hrv:rdV n (c::s.data.toList.drop (i+1))=rdV (10*n+(c.toNat - 48)) (s.data.toList.drop (i+1)):=rfl
   have hdg:Dg (c::s.data.toList.drop (i+1))↔Dg (s.data.toList.drop (i+1)):=⟨λh q hq=>h q (Iu _ hq),λh q hq=>by
    rcases List.mem_cons.1 hq with e | hq
    ·rw [e]; exact hd
    ·exact h q hq⟩
   rw [hrv]
   by_cases ho:(9223372036854775807 - (((c.toNat:Nat):Int) - 48)) / 10<(n:Int)
   ·have:=AU (s.data.toList.drop (i+1)) (10*n+(c.toNat - 48))
    rw [az (IF ho),if_neg (λh=>by have:=h.2; omega)]
   ·rw [ar (decide_eq_false ho),aH (x:=10*(n:Int)) (by unfold I64; omega),aH (by unfold I64; omega),show 10*(n:Int)+(((c.toNat:Nat):Int) - 48)=((10*n+(c.toNat - 48):Nat):Int) by omega,ih _ (by omega)]
    simp only [hdg]
  ·rw [az (by simp; omega),if_neg (λh=>hd (h.1 c It))]
theorem Cl(s:ByteArray):io s=some (rdP s):=by
 rw [GE]
 unfold io rdQ
 rw [sz0,ze]
 have hsz:s.size=s.data.toList.length:=rfl
 have hc:imp ((!(decide (s.data.toList = [])))&&(decide (1<((s.size:Nat):Int)))) (decide (0<s.size))=true:=by
  unfold imp
  by_cases h:1<s.size
  ·have:0<s.size:=by omega
   simp [this]
  ·have h2:decide (1<((s.size:Nat):Int))=false:=by rw [Ir]; omega
   rw [h2]; simp
 rw [hc,aw rfl]
 have hl:=w8 (s:=s) s.data.toList.length 0 0 (Nat.zero_add _) (by omega)
 rw [List.drop_zero] at hl
 by_cases h0:s.data.toList = []
 ·rw [IF h0,if_neg (λh=>h.1 h0)]; rfl
 rw [decide_eq_false h0]
 cases hz:wN s.data.toList with
 | true=>rw [if_neg (λh=>by cases h.2.1)]; rfl
 | false=>
  rw [show (false||false)=false from rfl,ar rfl,hsz]
  show forU (fa s) (λn_11=>some (n_11,0)) s.data.toList.length 0 ((0:Nat):Int)=_
  rw [hl]
  by_cases hv:Dg s.data.toList∧rdV 0 s.data.toList<9223372036854775808
  ·rw [if_pos hv,if_pos ⟨h0,rfl,hv.1,hv.2⟩]
  ·rw [if_neg hv,if_neg (λh=>hv ⟨h.2.2.1,h.2.2.2⟩)]
theorem zG:∀x:List UInt8,ND x∨∃a y,ND a∧x=a++46::y
 | []=>.inl λc hc=>by cases hc
 | c::x=>by
  by_cases hc:c=46
  ·exact .inr ⟨[],x,λq hq=>(by cases hq),by rw [hc]; rfl⟩
  ·rcases zG x with h | ⟨a,y,h1,h2⟩
   ·refine .inl λq hq=>?_
    rcases List.mem_cons.1 hq with e | hq
    ·rw [e]; exact hc
    ·exact h q hq
   ·refine .inr ⟨c::a,y,λq hq=>?_,by rw [h2]; rfl⟩
    rcases List.mem_cons.1 hq with e | hq
    ·rw [e]; exact hc
    ·exact h1 q hq
def IsR(o:Option (Int×Int))(r:Int×Int×Bool):Prop:=match o with
 | some x=>r=(x.1,x.2,true)
 | none=>r.2.2=false
theorem HX{f nm:ByteArray}(hf:f.size≤lim):∀(k i F:Nat),i+k=f.size→ND (f.data.toList.drop i)→loopN (bw f nm) (F+k+1) (i:Int)=some (0,0,false):=by
 rw [aB] at hf
 intro k
 induction k with
 | zero=>
  intro i F hi _
  rw [br]
  generalize loopN (bw f nm) (F+0)=g
  unfold bw
  rw [ar (by rw [Ir]; omega)]
 | succ k ih=>
  intro i F hi hn
  have hlt:i<f.data.toList.length:=by show i<f.size; omega
  rw [cj hlt] at hn
  have hne:=hn _ It
  rw [show F+(k+1)+1=(F+k+1)+1 by omega,br]
  have ih2:=ih (i+1) F (by omega) λq hq=>hn q (Iu _ hq)
  generalize loopN (bw f nm) (F+k+1)=g at ih2 ⊢
  unfold bw
  have hc:((((gt f.data.toList ((i:Int)).toNat).toNat:Nat):Int) != 46)=true:=by
   rw [Iz,bne_iff_ne]
   intro e
   exact hne (UInt8.toNat_inj.1 (show _=46 by omega))
  rw [az (by rw [Iq]; omega),aw (by unfold inb; rw [Iw,Iq,Iq]; omega),hc,az rfl,aH (by unfold I64; omega)]
  exact ih2
theorem HA{f nm:ByteArray}(hf:f.size≤lim){j:Nat}(hnm:nm.size+1≤j)(hj:j<f.size)(hg:gt f.data.toList j=46):∀(k i F:Nat),i+k=j→(∀q,i≤q→q<j→gt f.data.toList q≠46)→loopN (bw f nm) (F+k+1) (i:Int)=some ((rdP (f.extract (nm.size+1) j)).1,(rdP (f.extract (j+1) f.size)).1,(((((rdP (f.extract (nm.size+1) j)).2==0)&&((rdP (f.extract (j+1) f.size)).2==0))&&(decide ((rdP (f.extract (nm.size+1) j)).1≤999999)))&&(decide (1≤(rdP (f.extract (j+1) f.size)).1)))&&(decide ((rdP (f.extract (j+1) f.size)).1≤999999))):=by
 rw [aB] at hf
 intro k
 induction k with
 | zero=>
  intro i F hi _
  obtain rfl:i=j:=by omega
  rw [br]
  generalize loopN (bw f nm) (F+0)=g
  unfold bw
  have hc:((((gt f.data.toList ((i:Int)).toNat).toNat:Nat):Int) != 46)=false:=by
   rw [Iz,hg]; rfl
  have e1:w64 (((nm.size:Nat):Int)+1)=((nm.size+1:Nat):Int):=by rw [aH (by unfold I64; omega)]; omega
  have e2:w64 ((i:Int)+1)=((i+1:Nat):Int):=by rw [aH (by unfold I64; omega)]; omega
  rw [az (by rw [Iq]; omega),aw (by unfold inb; rw [Iw,Iq,Iq]; omega),hc,ar rfl,e1,e2,Iz,Iz,Iz,
   aw (by unfold inle; rw [Iw,Iq,Iq]; omega),aw (by unfold inle; rw [Iw,Iq,Iq]; omega),Cl,IC,aw (by unfold inle; rw [Iw,Iq,Iq]; omega),Cl,IC]
 | succ k ih=>
  intro i F hi hn
  have hne:=hn i (IG _) (by omega)
  rw [show F+(k+1)+1=(F+k+1)+1 by omega,br]
  have ih2:=ih (i+1) F (by omega) λq h1 h2=>hn q (by omega) h2
  generalize loopN (bw f nm) (F+k+1)=g at ih2 ⊢
  unfold bw
  have hc:((((gt f.data.toList ((i:Int)).toNat).toNat:Nat):Int) != 46)=true:=by
   rw [Iz,bne_iff_ne]
   intro e
   exact hne (UInt8.toNat_inj.1 (show _=46 by omega))
  rw [az (by rw [Iq]; omega),aw (by unfold inb; rw [Iw,Iq,Iq]; omega),hc,az rfl,aH (by unfold I64; omega)]
  exact ih2
theorem HI(f nm:ByteArray)(hf:f.size≤lim)(hn:nm.size≤2):∃r,kU f nm=some r∧IsR (pf nm f) r:=by
 have hfl:=hf
 rw [aB] at hfl
 have hp1:(nm++(⟨#[46]⟩:ByteArray)).data.toList=nm.data.toList++[46]:=by rw [qy]
 have hps:(nm++(⟨#[46]⟩:ByteArray)).size=nm.size+1:=by show (nm++(⟨#[46]⟩:ByteArray)).data.toList.length=_; rw [hp1,Is]; rfl
 unfold kU
 have e1:w64 (((nm.size:Nat):Int)+1)=((nm.size+1:Nat):Int):=by rw [aH (by unfold I64; omega)]; omega
 rw [e1,IC,Iz]
 have hck:imp (!decide (((f.size:Nat):Int)≤((nm.size+1:Nat):Int))) (inle ((nm.size+1:Nat):Int) f.size)=true:=by
  by_cases h:f.size≤nm.size+1
  ·rw [IF (by omega)]; rfl
  ·have hi:inle ((nm.size+1:Nat):Int) f.size=true:=by
    unfold inle
    rw [Iw,Iq,Iq]; omega
   rw [decide_eq_false (by omega),hi]; rfl
 rw [aw hck,IC]
 by_cases hpre:∃x,f.data.toList=(nm++(⟨#[46]⟩:ByteArray)).data.toList++x
 ·obtain⟨x,hx⟩:=hpre
  have hsz:f.size=nm.size+1+x.length:=by
   show f.data.toList.length=_
   rw [hx,Is]
   show (nm++(⟨#[46]⟩:ByteArray)).size+_=_
   rw [hps]
  have hext:f.extract 0 (nm.size+1)=nm++(⟨#[46]⟩:ByteArray):=by
   apply j7
   rw [px,hx,List.drop_zero, ← hps]
   exact List.take_left
  have hpl:(nm++(⟨#[46]⟩:ByteArray)).data.toList.length=nm.size+1:=hps
  have hdr:f.data.toList.drop (nm.size+1)=x:=by rw [hx, ← hpl,List.drop_left]
  by_cases hxe:x = []
  ·subst hxe
   rw [IF (by simp at hsz; omega),Bool.true_or,az rfl]
   refine⟨_,rfl,?_⟩
   unfold pf
   rw [ui hx]
   simp only
   rw [yr (λc hc=>by cases hc)]
   simp [IsR]
  ·have hxl:0<x.length:=List.length_pos_iff.2 hxe
   rw [decide_eq_false (by omega),Bool.false_or,hext]
   have hb:((nm++(⟨#[46]⟩:ByteArray)) != (nm++(⟨#[46]⟩:ByteArray)))=false:=by simp
   rw [hb,ar rfl]
   rcases zG x with hnd | ⟨a,y,ha,rfl⟩
   ·obtain⟨F,hF⟩:∃F,FU=F+x.length+1:=⟨FU - x.length - 1,by unfold FU; omega⟩
    rw [hF,HX hf x.length (nm.size+1) F (by omega) (by rw [hdr]; exact hnd)]
    refine⟨_,rfl,?_⟩
    unfold pf
    rw [ui hx]
    simp only
    rw [yr hnd]
    simp [IsR]
   ·have hlen:(a++46::y).length=a.length+1+y.length:=by simp; omega
    obtain⟨F,hF⟩:∃F,FU=F+a.length+1:=⟨FU - a.length - 1,by unfold FU; omega⟩
    have hgt:∀q,nm.size+1≤q→gt f.data.toList q=gt (a++46::y) (q - (nm.size+1)):=λq hq=>by
     rw [hx,cM (by rw [hpl]; exact hq),hpl]
    rw [hF,HA hf (j:=nm.size+1+a.length) (by omega) (by omega) (by rw [hgt _ (by omega),Nat.add_sub_cancel_left,cM (IG _),Nat.sub_self]; rfl) a.length (nm.size+1) F rfl (λq h1 h2=>by
     rw [hgt q h1,gD (by omega)]
     exact ha _ (by rw [fx (by omega)]; exact List.getElem_mem _))]
    have x1:f.extract (nm.size+1) (nm.size+1+a.length)=⟨a.toArray⟩:=by
     apply j7
     rw [px,List.drop_take,hdr,Nat.add_sub_cancel_left,List.take_left]
    have x2:f.extract (nm.size+1+a.length+1) f.size=⟨y.toArray⟩:=by
     apply j7
     rw [px,List.take_of_length_le (by show f.size≤f.size; exact IG _),show nm.size+1+a.length+1=(nm.size+1)+(a.length+1) by omega, ← List.drop_drop,hdr, ← List.drop_drop,List.drop_left]; rfl
    rw [x1,x2]
    refine⟨_,rfl,?_⟩
    unfold pf
    rw [ui hx]
    simp only
    rw [BS ha]
    simp only [Bool.true_and]
    generalize rdP ⟨a.toArray⟩=u
    generalize rdP ⟨y.toArray⟩=v
    cases hc:((((u.2==0)&&(v.2==0))&&(decide (u.1≤999999)))&&(decide (1≤v.1)))&&(decide (v.1≤999999)) with
    | true=>rw [if_pos rfl]; rfl
    | false=>rw [if_neg (by simp)]; rfl
 ·have hno:∀x,f.data.toList≠(nm++(⟨#[46]⟩:ByteArray)).data.toList++x:=λx e=>hpre ⟨x,e⟩
  have hz:(decide (((f.size:Nat):Int)≤((nm.size+1:Nat):Int))||((f.extract 0 (nm.size+1)) != (nm++(⟨#[46]⟩:ByteArray))))=true:=by
   by_cases h:f.size≤nm.size+1
   ·rw [IF (by omega)]; rfl
   ·rw [Bool.or_eq_true]; right
    rw [bne_iff_ne]
    intro e
    apply hno (f.data.toList.drop (nm.size+1))
    have:=congrArg (λb:ByteArray=>b.data.toList) e
    simp only [px,List.drop_zero] at this
    rw [← this]
    exact(List.take_append_drop _ _).symm
  rw [hz,az rfl]
  refine⟨_,rfl,?_⟩
  unfold pf
  rw [BR hno]
  simp [IsR]
section
variable {R N:Nat} {d:Dk} {m:Md}
theorem uJ(h:Rel R N d m)(hR:R≤MX)(hN:N+1≤lim)(n:ByteArray):cg m n=some ((mget n d.seen).getD [],(mget n d.seen).isSome):=by
 have hs:=h.sz
 have hR2:=kg hR
 unfold cg
 rw [h.files (kg hR) hN,IC,Ex (Gd (Nat.le_trans hs hR2)),As h.nk,IC,Be,IC]
 have hd:∀x:Int,decide (0≤x)=!decide (x<0):=λx=>by
  by_cases hx:x<0
  ·rw [IF hx,decide_eq_false (by omega)]; rfl
  ·rw [decide_eq_false hx,IF (by omega)]; rfl
 rw [hd]
 cases hm:(mget n d.seen).isSome with
 | true=>rw [Eb h.nk hm]; rfl
 | false=>rw [EL h.nk hm]; rfl
theorem vq{at_:Nat}:∀(l:List (List UInt8)) (i g:Nat),Rk l→g≤999999→forI jH (λgen_33=>chk (i64b gen_33) (some (gen_33,(at_:Int),0))) i l (g:Int)=some (wB at_ (mK g l))
 | [],i,g,_,hg=>by
  show chk (i64b (g:Int)) (some ((g:Int),(at_:Int),0))=_
  rw [aw (by unfold i64b; simp; omega)]; rfl
 | x::l,i,g,hr,hg=>by
  have hx:=hr x It
  rw [forI]
  show Option.bind (cR x 0) (λz44=>bif ((((z44.2.2 != 0)||(z44.2.1 != ((x.length:Nat):Int)))||(decide (z44.1<1)))||(decide (999999<z44.1))) then some (0,0,2) else forI jH (λgen_33=>chk (i64b gen_33) (some (gen_33,(at_:Int),0))) (i+1) l z44.1)=_
  have e:=Bt (b:=x) (at_:=0) (by rw [aB]; omega) (IH _)
  rw [show ((0:Nat):Int)=0 from rfl,List.drop_zero] at e
  rw [e,IC]
  unfold mK numR
  generalize numF 0 0 x=r
  obtain⟨n,k,er⟩:=r
  simp only [Nat.zero_add]
  by_cases hc:er≠0∨k≠x.length∨n<1∨999999<n
  ·rw [if_pos hc,az ?_]; rfl
   simp only [Bool.or_eq_true,bne_iff_ne,Iq]
   rcases hc with h | h | h | h
   ·exact .inl (.inl (.inl h))
   ·by_cases he:er=0
    ·rw [if_pos he]; exact .inl (.inl (.inr (by omega)))
    ·exact .inl (.inl (.inl he))
   ·exact .inl (.inr (by omega))
   ·exact .inr (by omega)
  ·rw [if_neg hc]
   have h1:er=0:=Classical.byContradiction λh=>hc (.inl h)
   have h2:k=x.length:=Classical.byContradiction λh=>hc (.inr (.inl h))
   have h3:¬ n<1:=λh=>hc (.inr (.inr (.inl h)))
   have h4:¬ 999999<n:=λh=>hc (.inr (.inr (.inr h)))
   rw [if_pos h1,ar ?_]
   ·exact vq l (i+1) n (λy hy=>hr y (Iu _ hy)) (by omega)
   ·simp only [Bool.or_eq_false_iff,bne_eq_false_iff_eq,Ir]
    exact⟨⟨⟨h1,by omega⟩,by omega⟩,by omega⟩
theorem r_holds(h:Rel R N d m)(hR:R≤MX)(hN:N+1≤lim){nm:ByteArray}(hn:Nm nm):m_firthref09_holds m nm=some (wB (allB (fb d (mn nm))).2.1 (mK 0 (allB (fb d (mn nm))).1)):=by
 unfold m_firthref09_holds
 have hs:=rA hn
 show chk (decide ((mn nm).size≤lim)) (Option.bind (cg m (mn nm)) _)=_
 rw [aw (by rw [aB,Iq]; omega),uJ h hR hN,IC]
 obtain⟨e,he⟩:=Do (wE h.di hR (mn nm))
 unfold fb at he ⊢
 simp only
 rw [he,IC]
 exact vq _ 0 0 (yn _) (by omega)
theorem G1(h:Rel R N d m)(hR:R≤MX)(hN:N+1≤lim)(f:ByteArray)(n:Nat):∃m',bU m f (n:Int)=some m'∧Rel R (N+1) (kf d f n) m':=by
 unfold bU kf
 rw [uJ h hR hN,IC]
 simp only
 obtain⟨m',a,b⟩:=Hv h hR hN f (n:Int)
 by_cases hc:n<(fb d f).length
 ·have hp:(mget f d.seen).isSome=true:=by
   unfold fb at hc
   cases hm:mget f d.seen with
   | none=>rw [hm] at hc; exact absurd hc (Nat.not_lt_zero _)
   | some v=>rfl
  rw [if_pos hc,az (by rw [hp,Bool.true_and,Iq]; unfold fb at hc; omega),a]
  exact⟨_,rfl,b⟩
 ·rw [if_neg hc,ar (by rw [Bool.and_eq_false_iff,Ir]; right; unfold fb at hc; omega)]
  exact⟨_,rfl,h.mono (Nat.le_succ _)⟩
def qR(gen:Int)(other:Bool)(above:Int)(a b:Int):Bool:=(other&&(a != gen))||(((!other)&&(a==gen))&&decide (above<b))
theorem AB{R:Nat}(hR:R≤MX){nm:ByteArray}(hn:nm.size≤2){gen above:Int}{other:Bool}:∀(l:List Fl) (i N:Nat) (d:Dk) (m:Md),Rel R N d m→N+l.length+1≤lim→(∀f∈l,f.name.size≤lim) →
  ∃m',forI (fW nm gen other above) (λo=>some o) i l m=some m'∧Rel R (N+((l.map (·.name)).filter λf=>(pf nm f).any λx=>qR gen other above x.1 x.2).length) (remL d ((l.map (·.name)).filter λf=>(pf nm f).any λx=>qR gen other above x.1 x.2)) m'
 | [],i,N,d,m,h,_,_=>⟨m,rfl,h⟩
 | f::l,i,N,d,m,h,hN,hf=>by
  simp only [Iy] at hN
  obtain⟨r,r1,r2⟩:=HI f.name nm (hf f It) hn
  have hf2:∀g∈l,g.name.size≤lim:=λg hg=>hf g (Iu _ hg)
  have ih:=λN d m h hN=>AB hR hn (gen:=gen) (above:=above) (other:=other) l (i+1) N d m h hN hf2
  rw [forI]
  generalize forI (fW nm gen other above) (λo=>some o) (i+1) l=F at ih ⊢
  unfold fW fZ
  rw [r1,IC,IA]
  have hc:(r.2.2&&((other&&(r.1 != gen))||(((!other)&&(r.1==gen))&&(decide (above<r.2.1)))))=(pf nm f.name).any λx=>qR gen other above x.1 x.2:=by
   cases hp:pf nm f.name with
   | none=>rw [hp] at r2; rw [show r.2.2=false from r2]; rfl
   | some x=>
    rw [hp] at r2
    rw [show r=(x.1,x.2,true) from r2]; rfl
  rw [hc]
  cases hq:(pf nm f.name).any λx=>qR gen other above x.1 x.2 with
  | true=>
   rw [az rfl,List.filter_cons_of_pos (p:=λf=>(pf nm f).any λx=>qR gen other above x.1 x.2) hq]
   obtain⟨m1,a1,a2⟩:=Hk h hR (by omega) f.name
   rw [a1,IC]
   obtain⟨m2,b1,b2⟩:=ih (N+1) _ m1 a2 (by omega)
   refine⟨m2,b1,?_⟩
   rw [Iy,show ∀k,N+(k+1)=N+1+k from λk=>by omega]
   exact b2
  | false=>
   rw [ar rfl,List.filter_cons_of_neg (p:=λf=>(pf nm f).any λx=>qR gen other above x.1 x.2) (by rw [hq]; simp)]
   exact ih N _ m h (by omega)
theorem tj(h:Rel R N d m)(hR:R≤MX)(hN:N+d.seen.length+1≤lim){nm:ByteArray}(hn:nm.size≤2)(hk:Ks d.seen)(gen:Int)(other:Bool)(above:Int):
  ∃m',bB m nm gen other above=some m'∧Rel R (N+(bA nm (qR gen other above) d.seen).length) (remL d (bA nm (qR gen other above) d.seen)) m':=by
 unfold bB
 rw [h.files (kg hR) (by omega),IC]
 have hfn:(FM d.seen).map (·.name)=dg d.seen:=by unfold FM; rw [IQ]; exact List.map_id _
 have hl:∀f∈FM d.seen,f.name.size≤lim:=λf hf=>by
  have:=hk f.name (by rw [sd.1 hf]; rfl)
  unfold okn at this
  simp only [Iw,Iq] at this
  rw [aB]; omega
 obtain⟨m',a,b⟩:=AB hR hn (gen:=gen) (above:=above) (other:=other) (FM d.seen) 0 N d m h (by rw [AJ]; omega) hl
 rw [hfn] at b
 exact⟨m',a,b⟩
def ni(nm:ByteArray)(g:Nat)(d:Dk):Nat→Bs→Dk
 | _,[]=>d
 | n,b::t=>if (allB b).2.1=b.length then ni nm g d (n+1) t else kf d (fn nm g (n+1)) (allB b).2.1
end
section
variable {R N:Nat} {d:Dk} {m:Md}
theorem rI(h:DI R N d)(hR:R≤MX)(hN:N+d.seen.length≤lim){nm:ByteArray}(hn:nm.size≤2)(hk:Ks d.seen){pred:Int→Int→Option Bool}{q:Int→Int→Bool}(hq:∀a b,pred a b=some (q a b))(g:Int):
  aD d nm g pred=some (remL d (bA nm q d.seen)):=by
 have hln:=h.ln
 have hlen:(bA nm q d.seen).length≤d.seen.length:=Nat.le_trans (List.length_filter_le _ _) (by rw [gh]; exact IG _)
 have hkl:∀f∈dg d.seen,f.size≤lim:=λf hf=>by
  have:=hk f (dD.2 (lh.1 hf))
  unfold okn at this
  simp only [Iw,Iq] at this
  rw [aB]; omega
 unfold aD fR
 rw [yu h (by omega),IC]
 have hp:=sD hn hq (dg d.seen) 0 [] hkl (by rw [gh]; simp; omega)
 rw [IO] at hp
 show Option.bind (forI (bW (dF pred) nm) (λo13=>some o13) 0 (dg d.seen) []) (λl=>forI gz some 0 l d)=_
 rw [hp,IC]
 exact(r7 hR (bA nm q d.seen) 0 N d h (by omega)).1
theorem Ay:∀(l:List ByteArray) (d:Dk),NK d.seen→l.Nodup→(∀f∈l,okn f=true∧(mget f d.seen).isSome=true)→(remL d l).seen.length+l.length=d.seen.length
 | [],d,_,_,_=>rfl
 | f::l,d,hn,hd,hl=>by
  rw [List.nodup_cons] at hd
  obtain⟨h1,h2⟩:=hl f It
  obtain⟨s1,s2⟩:=Ag h1 h2
  have hn2:NK (dRem d f).1.seen:=by rw [s1]; exact hn.del
  have hl2:∀g∈l,okn g=true∧(mget g (dRem d f).1.seen).isSome=true:=λg hg=>by
   obtain⟨a,b⟩:=hl g (Iu _ hg)
   refine⟨a,?_⟩
   rw [s1,fC hn,if_neg (show ¬ g=f from λe=>hd.1 (e▸hg))]; exact b
  have r1:=Ay l (dRem d f).1 hn2 hd.2 hl2
  rw [s1] at r1
  have:=yk h2
  show (remL (dRem d f).1 l).seen.length+_=_
  rw [Iy]
  omega
theorem pJ{nm:ByteArray}{q:Int→Int→Bool}(h:DI R N d)(hk:Ks d.seen):(remL d (bA nm q d.seen)).seen.length+(bA nm q d.seen).length=d.seen.length:=
 Ay _ d h.nk (xK h.nk) λf hf=>⟨hk f (l9.1 hf).1,(l9.1 hf).1⟩
theorem nt{nm:ByteArray}{q q':Int→Int→Bool}{es:Mp}(h:∀k,(mget k es).isSome=true→(pf nm k).any (λx=>q x.1 x.2)=(pf nm k).any (λx=>q' x.1 x.2)):bA nm q es=bA nm q' es:=by
 unfold bA
 exact List.filter_congr λk hk=>h k (dD.2 (lh.1 hk))
theorem Bn(h:DI R N d)(hR:R≤MX)(hN:N+1≤lim){nm:ByteArray}(hnm:Nm nm){g:Nat}(hg:g≤999999){size:Int}{bs:Bs}(hb:Has nm g bs d.seen):∀(t pre:Bs) (out:Bs) (F:Nat),bs=pre++t→out.length+tot t≤R→tot pre+tot t≤R →
  loopN aY (F+t.length+1) (out,true,(⟨nm,(g:Int),size,(pre.length:Int),((eZ pre).length:Int),0,(tot pre:Int)⟩:ai),d)=some (lg nm g size (pre++(aC t).2) (out++(aC t).1).length,ni nm g d pre.length t,out++(aC t).1):=by
 intro t
 induction t with
 | nil=>
  intro pre out F hbs ho htot
  obtain⟨d',a,_,c⟩:=xO h hR hN hnm hg (size:=size) hb [] pre out F hbs ho htot
  rcases c with ⟨_,c⟩ | ⟨c,_⟩
  ·rw [a,c]; rfl
  ·exact absurd c (Nat.lt_irrefl 0)
 | cons b t ih=>
  intro pre out F hbs ho htot
  have hl:=hb.1
  rw [hbs,Is,Iy] at hl
  have hm:=hb.2 (pre.length+1) (by omega) (by omega)
  rw [hbs,Nat.add_sub_cancel,List.getElem?_append_right (IG _),Nat.sub_self] at hm
  have hm:mget (fn nm g (pre.length+1)) d.seen=some b:=hm
  have hfb:fb d (fn nm g (pre.length+1))=b:=by unfold fb; rw [hm]; rfl
  have hsz:=oq hnm hg (show pre.length+1≤999999 by omega)
  have hbl:b.length≤lim:=by have:=wE h hR (fn nm g (pre.length+1)); rwa [hfb] at this
  obtain⟨e,he⟩:=E9 hbl
  have ha:=tZ b
  rw [dZ] at ho htot
  have hRv:R≤1073741824:=hR
  obtain⟨s1,s2⟩:=vX h hR hN nm (g:Int) (fn nm g (pre.length+1)) (allB b).2.1
  rw [show F+(b::t).length+1=(F+t.length+1)+1 by simp; omega,br]
  generalize hf:loopN aY (F+t.length+1)=f
  unfold aY
  simp only [Bool.true_and]
  rw [az (by rw [Iq]; omega),aH (x:=(pre.length:Int)+1) (by unfold I64; omega),show (pre.length:Int)+1=((pre.length+1:Nat):Int) by omega,yl hnm hg (by omega),IC,aw (by rw [aB,Iq]; omega),e_Rd h hR,IC,hm]
  simp only [Option.isSome_some,Option.getD_some,Bool.not_true]
  rw [ar rfl,he,IC]
  simp only
  rw [s1,IC,aw (by rw [aB,Iq]; omega),aH (by unfold I64; omega)]
  unfold aC ni
  by_cases hw:(allB b).2.1=b.length
  ·rw [if_pos hw,if_pos hw]
   have hd:kf d (fn nm g (pre.length+1)) (allB b).2.1=d:=qT (by rw [hfb]; omega)
   rw [hd,hw,show (((b.length:Nat):Int)==((b.length:Nat):Int))=true by simp, ← hf]
   have i1:=ih (pre++[b]) (out++(allB b).1) F (by rw [hbs]; simp) (by simp; omega) (by rw [oe,dZ]; simp [tot] at htot ⊢; omega)
   have e1:(⟨nm,(g:Int),size,((pre.length+1:Nat):Int),((b.length:Nat):Int),0,(tot pre:Int)+((b.length:Nat):Int)⟩:ai)=⟨nm,(g:Int),size,((pre++[b]).length:Int),((eZ (pre++[b])).length:Int),0,(tot (pre++[b]):Int)⟩:=by
    rw [l6,oe,dZ]; simp [tot]
   rw [e1,i1]
   simp [Iv]
  ·rw [if_neg hw,if_neg hw]
   rw [show ((((allB b).2.1:Nat):Int)==((b.length:Nat):Int))=false by rw [beq_eq_false_iff_ne]; omega, ← hf,br]
   generalize loopN aY (F+t.length)=f2
   unfold aY dL
   simp only [Bool.false_and]
   rw [ar rfl]
   unfold lg
   rw [l6,oe,dZ]
   simp [tot,IV]
   omega
theorem G2(h:DI R N d)(hR:R≤MX)(hN:N+1≤lim){nm:ByteArray}(hnm:Nm nm){g:Nat}(hg:g≤999999){size:Int}{bs:Bs}(hb:Has nm g bs d.seen):
  dV (⟨nm,(g:Int),size,0,0,0,0⟩:ai) d=some (lg nm g size (aC bs).2 (aC bs).1.length,ni nm g d 0 bs,(aC bs).1)∧DI R (N+1) (ni nm g d 0 bs) ∧
   ((aC bs).2=bs∧ni nm g d 0 bs=d∨0<(aC bs).2.length∧(∀k,mget k (ni nm g d 0 bs).seen=if k=fn nm g (aC bs).2.length then some (eZ (aC bs).2) else mget k d.seen)∧(ni nm g d 0 bs).loose.length=d.loose.length+1∧(aC bs).2≠bs):=by
 have h1:=hb.sz hnm h.nk
 have h2:=h.sz
 have h3:=hb.1
 obtain⟨F,hF⟩:∃F,FU=F+bs.length+1:=⟨FU - bs.length - 1,by unfold FU; omega⟩
 have h4:=Bn h hR hN hnm hg (size:=size) hb bs [] [] F rfl (by simp; omega) (by show 0+tot bs≤R; omega)
 have h5:dV (⟨nm,(g:Int),size,0,0,0,0⟩:ai) d=some (lg nm g size (aC bs).2 (aC bs).1.length,ni nm g d 0 bs,(aC bs).1):=by
  unfold dV
  rw [hF]
  simpa [eZ,tot] using h4
 obtain⟨d',a,b,c⟩:=DB h hR hN hnm hg (size:=size) hb
 rw [a] at h5
 have e:d'=ni nm g d 0 bs:=by injection h5 with h5; exact congrArg (λz=>z.2.1) h5
 subst e
 exact⟨a,b,c⟩
def pl(bs:Bs):List Int:=bs.map λb=>(b.length:Int)
theorem ru(bs:Bs)(b:List UInt8):pl (bs++[b])=pl bs++[(b.length:Int)]:=by simp [pl]
theorem q6(bs:Bs):(pl bs).length=bs.length:=by simp [pl]
theorem B7(h:Rel R N d m)(hR:R≤MX)(hN:N+1≤lim){nm:ByteArray}(hnm:Nm nm){g:Nat}(hg:g≤999999){size sz x:Int}{D:Md}{bs:Bs}(hb:Has nm g bs d.seen):∀(t pre:Bs) (out:Bs) (F:Nat),bs=pre++t→out.length+tot t≤R→tot pre+tot t≤R →
  ∃m',loopN (bV D nm size ((g:Int),x,0)) (F+t.length+1) (out,(⟨nm,sz,(g:Int),pl pre,0⟩:af),m)=dJ D nm size ((g:Int),x,0) (out++(aC t).1) (⟨nm,sz,(g:Int),pl (pre++(aC t).2),0⟩:af) m'∧Rel R (N+1) (ni nm g d pre.length t) m':=by
 intro t
 induction t with
 | nil=>
  intro pre out F hbs ho htot
  rw [IL] at hbs
  have hl:=hb.1
  rw [hbs] at hl
  refine⟨m,?_,h.mono (Nat.le_succ _)⟩
  rw [br]
  generalize loopN (bV D nm size ((g:Int),x,0)) (F+([]:Bs).length)=f
  unfold bV
  simp only [aC,IL,q6]
  by_cases hlt:pre.length<999999
  ·have hm:=hb.2 (pre.length+1) (by omega) (by omega)
   rw [hbs,Nat.add_sub_cancel,List.getElem?_eq_none (IG _)] at hm
   have hsz:=oq hnm hg (show pre.length+1≤999999 by omega)
   rw [az (by rw [Iq]; omega),aH (by unfold I64; omega),show (pre.length:Int)+1=((pre.length+1:Nat):Int) by omega,yI hnm hg (by omega),IC,aw (by rw [aB,Iq]; omega),uJ h hR hN,IC,hm,az (by rfl)]
  ·rw [ar (by rw [Ir]; omega)]
 | cons b t ih=>
  intro pre out F hbs ho htot
  have hl:=hb.1
  rw [hbs,Is,Iy] at hl
  have hm:=hb.2 (pre.length+1) (by omega) (by omega)
  rw [hbs,Nat.add_sub_cancel,List.getElem?_append_right (IG _),Nat.sub_self] at hm
  have hm:mget (fn nm g (pre.length+1)) d.seen=some b:=hm
  have hfb:fb d (fn nm g (pre.length+1))=b:=by unfold fb; rw [hm]; rfl
  have hsz:=oq hnm hg (show pre.length+1≤999999 by omega)
  have hbl:b.length≤lim:=by have:=wE h.di hR (fn nm g (pre.length+1)); rwa [hfb] at this
  obtain⟨e,he⟩:=Do hbl
  have ha:=tZ b
  rw [dZ] at ho htot
  have hRv:R≤1073741824:=hR
  obtain⟨m1,s1,s2⟩:=G1 h hR hN (fn nm g (pre.length+1)) (allB b).2.1
  rw [show F+(b::t).length+1=(F+t.length+1)+1 by simp; omega,br]
  generalize hf:loopN (bV D nm size ((g:Int),x,0)) (F+t.length+1)=f
  unfold bV
  simp only [q6]
  rw [az (by rw [Iq]; omega),aH (x:=(pre.length:Int)+1) (by unfold I64; omega),show (pre.length:Int)+1=((pre.length+1:Nat):Int) by omega,yI hnm hg (by omega),IC,aw (by rw [aB,Iq]; omega),uJ h hR hN,IC,hm]
  simp only [Option.isSome_some,Option.getD_some,Bool.not_true]
  rw [ar rfl,he,IC]
  simp only
  rw [s1,IC,aw (by rw [aB,Iq]; omega),aw (by rw [aB,Iq]; omega)]
  unfold aC ni
  by_cases hw:(allB b).2.1=b.length
  ·rw [if_pos hw,if_pos hw]
   have hd:kf d (fn nm g (pre.length+1)) (allB b).2.1=d:=qT (by rw [hfb]; omega)
   rw [ar (by rw [Ir]; omega)]
   have hm1:m1=m:=by
    unfold bU at s1
    rw [uJ h hR hN,IC,hm] at s1
    simp only [Option.isSome_some,Option.getD_some,Bool.true_and] at s1
    rw [ar (by rw [Ir]; omega)] at s1
    injection s1 with s1; exact s1.symm
   rw [hm1, ← hf,hw, ← ru]
   obtain⟨m',i1,i2⟩:=ih (pre++[b]) (out++(allB b).1) F (by rw [hbs]; simp) (by simp; omega) (by rw [oe,dZ]; simp [tot] at htot ⊢; omega)
   refine⟨m',?_,?_⟩
   ·rw [i1]; simp [Iv]
   ·rw [Is] at i2; exact i2
  ·rw [if_neg hw,if_neg hw]
   rw [az (by rw [Iq]; omega)]
   refine⟨m1,?_,s2⟩
   rw [ru,show (b.take (allB b).2.1).length=(allB b).2.1 by rw [IV]; omega]
end
section
variable {R N:Nat} {d:Dk} {m:Md}
theorem AO(f:ByteArray)(n:Nat):(kf d f n).seen.length=d.seen.length:=by
 unfold kf
 by_cases hc:n<(fb d f).length
 ·rw [if_pos hc]
  unfold dCut
  cases ht:fS d f != 0 with
  | true=>rfl
  | false=>
   obtain⟨q1,q2⟩:=uh ht
   rw [ar rfl]
   cases decide ((n:Int)<0)||decide (((((mget f d.seen).getD []).length:Nat):Int)<(n:Int)) with
   | true=>rfl
   | false=>exact yT q2
 ·rw [if_neg hc]
theorem xM{nm:ByteArray}{g:Nat}:∀(t:Bs) (n:Nat),(ni nm g d n t).seen.length=d.seen.length
 | [],n=>rfl
 | b::t,n=>by
  unfold ni
  split
  ·exact xM t (n+1)
  ·exact AO _ _
def rlg(nm:ByteArray)(g:Nat)(size:Int)(bs:Bs)(cnt:Nat):af:=⟨nm,size,(g:Int),pl bs,(cnt:Int)⟩
theorem H5(h:Rel R N d m)(hR:R≤MX){nm:ByteArray}(hnm:Nm nm)(hname:ij nm=some true)(hk:Ks d.seen)(size:Int){gl:Bs}{e0:Int}{g:Nat}{bs:Bs}(hg:g≤999999)
  (hm:allB (fb d (mn nm))=(gl,(fb d (mn nm)).length,e0)) (hh:mK 0 gl=some g) (hb:Has nm g bs d.seen) (hx:OwnG nm d.seen) {F:Nat} (hF:d.seen.length≤F) (hN:N+2*F+20≤lim) :
  ∃d' m',dU d nm size=some (d',some (lg nm g (max size 16) (aC bs).2 (aC bs).1.length),(aC bs).1,0) ∧
   fA m nm size=some (m',some (rlg nm g (max size 16) (aC bs).2 (aC bs).1.length),(aC bs).1,0)∧Rel R (N+F+2) d' m' ∧
   Has nm g (aC bs).2 d'.seen∧(∀k,pf nm k=none→mget k d'.seen=mget k d.seen)∧Own1 nm g d'.seen∧(d'=d∧(aC bs).2=bs∨d'.loose = []):=by
 have hlo:=hnm.lo
 have hhi:=hnm.hi
 have hms:=rA hnm
 have hst:=tu bs
 have hsl:=hst.2.2
 have hbl:=hb.1
 have htot:=Nat.le_trans (hb.sz hnm h.nk) h.sz
 have hRv:R≤1073741824:=hR
 have hlw:∀e m',Rel R N e m'→True:=λ_ _ _=>trivial
 have k1:=rI h.di hR (by omega) (nm:=nm) hhi hk (pred:=λx y=>gW x y (g:Int)) (q:=λx _=>x != (g:Int)) (λa b=>rfl) (g:Int)
 obtain⟨m0,k2,k3⟩:=tj h hR (by omega) (nm:=nm) hhi hk (g:Int) true 0
 have kc:bA nm (qR (g:Int) true 0) d.seen=bA nm (λx _=>x != (g:Int)) d.seen:=by
  refine nt λk _=>?_
  congr 1
  funext x
  unfold qR; simp
 rw [kc] at k3
 have rr:=tN (nm:=nm) (q:=λx _=>x != (g:Int)) h.di hk
 have cl:=pJ (nm:=nm) (q:=λx _=>x != (g:Int)) h.di hk
 have hd0:(bA nm (λx _=>x != (g:Int)) d.seen).length=0→remL d (bA nm (λx _=>x != (g:Int)) d.seen)=d:=λe=>by rw [List.eq_nil_of_length_eq_zero e]; rfl
 generalize hc1:(bA nm (λx _=>x != (g:Int)) d.seen).length=c1 at k3 rr cl hd0
 generalize hE0:remL d (bA nm (λx _=>x != (g:Int)) d.seen)=d0 at k1 k3 rr cl hd0
 have hb0:Has nm g bs d0.seen:=⟨hb.1,λk k1 k2=>by rw [rr.1,fG ⟨hg,k1,k2⟩,if_neg (by simp),hb.2 k k1 k2]⟩
 have hk0:Ks d0.seen:=λk hks=>by
  rw [rr.1] at hks
  split at hks
  ·cases hks
  ·exact hk k hks
 have ho0:Own1 nm g d0.seen:=λk hks=>by
  rw [rr.1] at hks
  split at hks
  ·cases hks
  ·rename_i hq
   rcases hx k hks with e | ⟨g',j,g1,j1,j2,e⟩
   ·exact .inl e
   ·rw [e,fG ⟨g1,j1,j2⟩] at hq
    have hq2:(g':Int)=(g:Int):=by simpa using hq
    have:g'=g:=by omega
    exact .inr ⟨j,j1,j2,by rw [e,this]⟩
 obtain⟨s1,s2,s3⟩:=G2 k3.di hR (by omega) hnm hg (size:=max size 16) hb0
 obtain⟨Fu,hFu⟩:∃Fu,FU=Fu+bs.length+1:=⟨FU - bs.length - 1,by unfold FU; omega⟩
 have sl:=xM (d:=d0) (nm:=nm) (g:=g) bs 0
 obtain⟨m1,t1,t2⟩:=B7 k3 hR (by omega) hnm hg (size:=size) (sz:=max size 16) (x:=(((fb d (mn nm)).length:Nat):Int)) (D:=m) hb0 bs [] [] Fu rfl (by simp; omega) (by show 0+tot bs≤R; omega)
 rw [← hFu,IO,IO] at t1
 have t2:Rel R (N+c1+1) (ni nm g d0 0 bs) m1:=t2
 generalize hE1:ni nm g d0 0 bs=d1 at s1 s2 s3 sl t2
 have hp1:∀k,pf nm k=none→mget k d1.seen=mget k d.seen:=λk hp=>by
  have e0:mget k d0.seen=mget k d.seen:=by rw [rr.1,hp,if_neg (by simp)]
  rcases s3 with ⟨a,b⟩ | ⟨a0,a,b,hne⟩
  ·rw [b,e0]
  ·rw [a k,if_neg,e0]
   intro e
   rw [e,fG ⟨hg,by omega,by omega⟩] at hp; cases hp
 have hk1:Ks d1.seen∧Own1 nm g d1.seen:=by
  rcases s3 with ⟨a,b⟩ | ⟨a0,a,b,hne⟩
  ·rw [b]; exact⟨hk0,ho0⟩
  ·refine⟨λk hks=>?_,λk hks=>?_⟩
   ·rw [a k] at hks
    split at hks
    ·rename_i e; rw [e]; exact mr hnm hg (by omega)
    ·exact hk0 k hks
   ·rw [a k] at hks
    split at hks
    ·rename_i e; exact .inr ⟨_,by omega,by omega,e⟩
    ·exact ho0 k hks
 have u1:=rI t2.di hR (by omega) (nm:=nm) hhi hk1.1 (pred:=λx y=>jt x y (lg nm g (max size 16) (aC bs).2 (aC bs).1.length)) (q:=λ_ n=>decide ((((aC bs).2.length:Nat):Int)<n)) (λa b=>rfl) (g:Int)
 obtain⟨m2,u2,u3⟩:=tj t2 hR (by omega) (nm:=nm) hhi hk1.1 (g:Int) false ((((aC bs).2.length:Nat):Int))
 have uc:bA nm (qR (g:Int) false ((((aC bs).2.length:Nat):Int))) d1.seen=bA nm (λ_ n=>decide ((((aC bs).2.length:Nat):Int)<n)) d1.seen:=by
  refine nt λk hks=>?_
  rcases hk1.2 k hks with e | ⟨j,j1,j2,e⟩
  ·rw [e]; rfl
  ·rw [e,fG ⟨hg,j1,j2⟩]
   unfold qR; simp
 rw [uc] at u3
 have vv:=tN (nm:=nm) (q:=λ_ n=>decide ((((aC bs).2.length:Nat):Int)<n)) t2.di hk1.1
 have vl:=pJ (nm:=nm) (q:=λ_ n=>decide ((((aC bs).2.length:Nat):Int)<n)) t2.di hk1.1
 have hd2:(bA nm (λ_ n=>decide ((((aC bs).2.length:Nat):Int)<n)) d1.seen).length=0→remL d1 (bA nm (λ_ n=>decide ((((aC bs).2.length:Nat):Int)<n)) d1.seen)=d1:=λe=>by rw [List.eq_nil_of_length_eq_zero e]; rfl
 generalize hc2:(bA nm (λ_ n=>decide ((((aC bs).2.length:Nat):Int)<n)) d1.seen).length=c2 at u3 vv vl hd2
 generalize hE2:remL d1 (bA nm (λ_ n=>decide ((((aC bs).2.length:Nat):Int)<n)) d1.seen)=D at u1 u3 vv vl hd2
 have u3:Rel R (N+F+1) D m2:=u3.mono (by omega)
 have hpD:∀k,pf nm k=none→mget k D.seen=mget k d.seen:=λk hp=>by rw [vv.1,hp,if_neg (by simp),hp1 k hp]
 have hoD:Own1 nm g D.seen:=λk hks=>by
  rw [vv.1] at hks
  split at hks
  ·cases hks
  ·exact hk1.2 k hks
 have hhD:Has nm g (aC bs).2 D.seen:=by
  refine⟨by omega,λk k1 k2=>?_⟩
  rw [vv.1,fG ⟨hg,k1,k2⟩]
  by_cases hlt:(aC bs).2.length<k
  ·rw [if_pos (by simpa using hlt),List.getElem?_eq_none (by omega)]
  ·rw [if_neg (by simpa using hlt)]
   rcases s3 with ⟨a,b⟩ | ⟨a0,a,b,hne⟩
   ·rw [a,b,hb0.2 k k1 k2]
   ·rw [a]
    by_cases hkl:k=(aC bs).2.length
    ·rw [if_pos (by rw [hkl]),hkl,um a0]
    ·rw [if_neg (λe=>hkl (lr hnm hnm e).2.2),hb0.2 k k1 k2,wV bs (k - 1) (by omega)]
 have hcase:D.loose.length=d.loose.length→D=d∧(aC bs).2=bs:=λe=>by
  have v2:=vv.2
  have r2:=rr.2
  rcases s3 with ⟨a,b⟩ | ⟨a0,a,b,hne⟩
  ·rw [b] at v2
   refine⟨?_,a⟩
   rw [hd2 (by omega),b,hd0 (by omega)]
  ·omega
 refine⟨if D.loose.length=d.loose.length then D else iW D,?_⟩
 have ours:dU d nm size=some ((if D.loose.length=d.loose.length then D else iW D),some (lg nm g (max size 16) (aC bs).2 (aC bs).1.length),(aC bs).1,0):=by
  unfold dU
  have c1:(decide (((nm.size:Nat):Int)<1)||decide (2<((nm.size:Nat):Int)))=false:=by simp; omega
  rw [c1,show (!false)=true from rfl,Aj hnm]
  unfold gT
  rw [az rfl,IC,show (false||false)=false from rfl,ar rfl,e_holds h.di hR hnm 0,IC,hm,hh]
  unfold wB hZ
  simp only
  rw [ar (by decide),IC,AQ,IC,aw (by rw [aB,Iq]; omega)]
  rw [(vX h.di hR (by omega) nm (g:Int) (mn nm) (fb d (mn nm)).length).1,IC,qT (IG _)]
  rw [k1,IC,s1,IC]
  simp only
  rw [u1,IC,IC]
  unfold gg
  by_cases hc:D.loose.length=d.loose.length
  ·rw [if_pos hc,ar (by rw [bne_eq_false_iff_eq]; omega)]
  ·rw [if_neg hc,az (by rw [bne_iff_ne]; omega),uW,IC]
 have theirs:∃m',fA m nm size=some (m',some (rlg nm g (max size 16) (aC bs).2 (aC bs).1.length),(aC bs).1,0)∧Rel R (N+F+2) (if D.loose.length=d.loose.length then D else iW D) m':=by
  unfold fA
  rw [hname,IC,show (!true)=false from rfl,ar rfl,r_holds h hR (by omega) hnm,IC,hm,hh]
  unfold wB
  simp only
  rw [ar (by decide)]
  have hj1:∀sz:Int,sz=max size 16→∃m',fh m nm size ((g:Int),(((fb d (mn nm)).length:Nat):Int),0) sz=some (m',some (rlg nm g (max size 16) (aC bs).2 (aC bs).1.length),(aC bs).1,0)∧Rel R (N+F+2) (if D.loose.length=d.loose.length then D else iW D) m':=by
   intro sz hs
   unfold fh
   have e:nm++(⟨#[46,109]⟩:ByteArray)=mn nm:=rfl
   rw [e,aw (by rw [aB,Iq]; omega)]
   have hsh:bU m (mn nm) (((fb d (mn nm)).length:Nat):Int)=some m:=by
    unfold bU
    rw [uJ h hR (by omega),IC]
    simp only
    rw [ar (by rw [Bool.and_eq_false_iff,Ir]; right; unfold fb; omega)]
   rw [hsh,IC,k2,IC,hs]
   show ∃m',loopN (bV m nm size ((g:Int),(((fb d (mn nm)).length:Nat):Int),0)) FU ([],(⟨nm,max size 16,(g:Int),pl [],0⟩:af),m0)=_∧_
   rw [t1]
   unfold dJ
   simp only [q6]
   rw [u2,IC]
   have hl2:m2.todo.length=D.loose.length:=u3.good.len.symm
   have hl:m.todo.length=d.loose.length:=h.good.len.symm
   rw [hl2,hl]
   by_cases hc:D.loose.length=d.loose.length
   ·rw [if_pos hc,ar (by rw [bne_eq_false_iff_eq]; omega)]
    exact⟨_,rfl,u3.mono (by omega)⟩
   ·rw [if_neg hc,az (by rw [bne_iff_ne]; omega)]
    obtain⟨m3,w1,w2⟩:=ws u3 hR (by omega)
    rw [w1,IC]
    exact⟨_,rfl,w2.mono (by omega)⟩
  by_cases hs:size<16
  ·rw [az (by simpa using hs)]; exact hj1 16 (by omega)
  ·rw [ar (by simpa using hs)]; exact hj1 size (by omega)
 obtain⟨m',th1,th2⟩:=theirs
 have hsn:(if D.loose.length=d.loose.length then D else iW D).seen=D.seen:=by split <;> rfl
 refine⟨m',ours,th1,th2,by rw [hsn]; exact hhD,by rw [hsn]; exact hpD,by rw [hsn]; exact hoD,?_⟩
 by_cases hc:D.loose.length=d.loose.length
 ·rw [if_pos hc]; exact .inl (hcase hc)
 ·rw [if_neg hc]; exact .inr rfl
end
theorem Am{α:Type}(l:List α)(x y:α):(l++[x]).set l.length y=l++[y]:=by
 induction l with
 | nil=>rfl
 | cons a l ih=>exact congrArg (a :: ·) ih
theorem Ci{α:Type}[Inhabited α](l:List α)(x:α):gt (l++[x]) l.length=x:=by
 rw [cM (IG _),Nat.sub_self]; rfl
section
variable {R N:Nat} {d:Dk} {m:Md}
theorem Cx{bs:Bs}(h:0<bs.length):gt (pl bs) (bs.length - 1)=((eZ bs).length:Int):=by
 have e:=yV h
 have hl:bs.dropLast.length=bs.length - 1:=List.length_dropLast
 have:pl bs=pl bs.dropLast++[((eZ bs).length:Int)]:=by rw [← ru, ← e]
 rw [this, ← hl, ← q6 bs.dropLast,Ci]
theorem Ea(h:Rel R N d m)(hR:R≤MX)(hN:N+1≤lim){nm:ByteArray}(hnm:Nm nm){g:Nat}(hg:g≤999999){size:Int}(hs0:0≤size)(hs1:size≤9223372036854775807){bs:Bs}(hb:Has nm g bs d.seen){cnt:Nat}(hc:cnt≤4611686018427387904)(x:List UInt8)
  {r:ai×Dk×Int} (hr:AppR R d nm g size bs cnt x r):∃m',dH (rlg nm g size bs cnt) x m=some ((if r.2.2=0 then rlg nm g size (addP size bs (fr x)) (cnt+1) else rlg nm g size bs cnt),m',r.2.2)∧Rel R (N+1) r.2.1 m':=by
 have h1:=hb.sz hnm h.nk
 have h2:=h.sz
 have h3:=yp bs
 have hRv:R≤1073741824:=hR
 have hbl:=hb.1
 unfold dH
 by_cases hl:1048576<x.length
 ·rw [az (by rw [Iq]; omega)]
  cases hr with
  | long _=>exact⟨m,rfl,h.mono (Nat.le_succ _)⟩
  | many q _=>omega
  | full q _ _=>omega
  | ok q _ _=>omega
 have hx:x.length≤1048576:=by omega
 have hfl:=nS x
 have hp3:=pn3 hx
 rw [ar (by rw [Ir]; omega),Bf (by rw [aB]; omega),IC]
 have hpl:(rlg nm g size bs cnt).parts.length=bs.length:=q6 bs
 rw [hpl]
 have hw1:0<bs.length→w64 (((bs.length:Nat):Int) - 1)=((bs.length - 1:Nat):Int):=λh0=>by rw [aH (by unfold I64; omega)]; omega
 have hfr:((((bs.length:Nat):Int)==0)||((decide (0<(gt (rlg nm g size bs cnt).parts ((w64 (((bs.length:Nat):Int) - 1)).toNat))))&&(decide ((rlg nm g size bs cnt).size<(w64 ((gt (rlg nm g size bs cnt).parts ((w64 (((bs.length:Nat):Int) - 1)).toNat))+(((fr x).length:Nat):Int)))))))=iE size bs (fr x):=by
  unfold iE
  by_cases h0:0<bs.length
  ·rw [hw1 h0,Iz]
   show ((((bs.length:Nat):Int)==0)||((decide (0<(gt (pl bs) (bs.length - 1))))&&(decide (size<(w64 ((gt (pl bs) (bs.length - 1))+(((fr x).length:Nat):Int)))))))=_
   rw [Cx h0,aH (by unfold I64; omega),Bool.eq_iff_iff]
   simp only [Bool.or_eq_true,Iw,beq_iff_eq,Iq]
   omega
  ·have e0:bs.length=0:=by omega
   rw [IF e0,Bool.true_or,beq_iff_eq.2 (show ((bs.length:Nat):Int)=0 by omega),Bool.true_or]
 have hck:imp (!((((bs.length:Nat):Int))==0)) (inb (w64 (((bs.length:Nat):Int) - 1)) bs.length)=true:=by
  by_cases h0:0<bs.length
  ·have:inb (w64 (((bs.length:Nat):Int) - 1)) bs.length=true:=by
    rw [hw1 h0]; unfold inb; rw [Iw,Iq,Iq]; omega
   rw [this]; cases (!((((bs.length:Nat):Int))==0)) <;> rfl
  ·rw [beq_iff_eq.2 (show ((bs.length:Nat):Int)=0 by omega)]; rfl
 rw [aw hck,hfr]
 have hpn:(bif iE size bs (fr x) then bu (rlg nm g size bs cnt) m (fr x) (w64 (((bs.length:Nat):Int)+1)) else bu (rlg nm g size bs cnt) m (fr x) ((bs.length:Nat):Int))=bu (rlg nm g size bs cnt) m (fr x) ((pnum size bs (fr x):Nat):Int):=by
  unfold pnum
  cases iE size bs (fr x) with
  | true=>rw [az rfl,az rfl,aH (by unfold I64; omega),show ((bs.length:Nat):Int)+1=((bs.length+1:Nat):Int) by omega]
  | false=>rw [ar rfl,ar rfl]
 rw [hpn]
 have hpp:=pi size bs (fr x)
 unfold bu
 by_cases hm:999999<pnum size bs (fr x)
 ·rw [az (by rw [Iq]; omega)]
  cases hr with
  | long q=>omega
  | many _ _=>exact⟨m,rfl,h.mono (Nat.le_succ _)⟩
  | full _ q _=>omega
  | ok _ q _=>omega
 have hsz:=oq hnm hg (show pnum size bs (fr x)≤999999 by omega)
 rw [ar (by rw [Ir]; omega)]
 show ∃m',Option.bind (fp nm (g:Int) ((pnum size bs (fr x):Nat):Int)) _=some _∧_
 rw [yI hnm hg (by omega),IC,aw (by rw [aB,Iq]; omega)]
 obtain⟨m',a1,a2⟩:=Dr h hR hN (fn nm g (pnum size bs (fr x))) (fr x)
 rw [a1,IC]
 simp only
 have hok:=mr hnm hg (show pnum size bs (fr x)≤999999 by omega)
 unfold dApp at a2 ⊢
 rw [hok] at a2 ⊢
 rw [show (!true)=false from rfl,ar rfl] at a2 ⊢
 unfold gA
 by_cases hroom:R<Fw.sz d.seen+(fr x).length
 ·have hd:decide (d.room - (Fw.sz d.seen:Int)<((fr x).length:Int))=true:=by rw [Iq,h.rd]; omega
  rw [hd,az rfl] at a2 ⊢
  rw [show (((72:Int)) != 0)=true from by decide,az rfl]
  cases hr with
  | long q=>omega
  | many _ q=>omega
  | full _ _ _=>exact⟨m',rfl,a2⟩
  | ok _ _ q=>omega
 have hd:decide (d.room - (Fw.sz d.seen:Int)<((fr x).length:Int))=false:=by rw [Ir,h.rd]; omega
 rw [hd,ar rfl] at a2 ⊢
 rw [show (((0:Int)) != 0)=false from by decide,ar rfl,hpl,hfr]
 cases hr with
 | long q=>omega
 | many _ q=>omega
 | full _ _ q=>omega
 | ok _ _ _=>
 refine⟨m',?_,a2⟩
 rw [if_pos rfl]
 unfold rlg
 simp only
 cases hf:iE size bs (fr x) with
 | true=>
  have e1:pnum size bs (fr x)=bs.length+1:=by unfold pnum; rw [hf]; rfl
  have e2:addP size bs (fr x)=bs++[fr x]:=by unfold addP; rw [hf]; rfl
  rw [az rfl,aw (by rw [aB,Iq]; omega),e1,e2]
  unfold cI ez
  simp only
  rw [show w64 (((bs.length+1:Nat):Int) - 1)=((bs.length:Nat):Int) by rw [aH (by unfold I64; omega)]; omega]
  rw [aw (by unfold inb; rw [Is,q6,Iw,Iq,Iq]; simp; omega),Iz, ← q6 bs,Ci,Am,Int.zero_add,aH (by unfold I64; omega),aH (by unfold I64; omega),ru]
  rfl
 | false=>
  have h0:=pY hf
  have e1:pnum size bs (fr x)=bs.length:=by unfold pnum; rw [hf]; rfl
  have e2:addP size bs (fr x)=bs.dropLast++[eZ bs++fr x]:=by unfold addP; rw [hf]; rfl
  have hl:bs.dropLast.length=bs.length - 1:=List.length_dropLast
  have e3:pl bs=pl bs.dropLast++[((eZ bs).length:Int)]:=by rw [← ru, ← yV h0]
  rw [ar rfl,e1,e2]
  unfold cI ez
  simp only
  rw [hw1 h0,aw (by unfold inb; rw [q6,Iw,Iq,Iq]; omega),Iz,Cx h0,e3, ← hl, ← q6 bs.dropLast,Am,aH (by unfold I64; omega),aH (by unfold I64; omega),ru,Is]
  rfl
def Al(Q:Dc→Prop)(d:Dk):Prop := ∀c∈d.loose,Q c
theorem Al.done{Q:Dc→Prop}(h:Al Q d){c:Dc}(hc:Q c):Al Q (m6 d c):=λc' hc'=>by
 rcases List.mem_append.1 hc' with h1 | h1
 ·exact h c' h1
 ·rw [List.mem_singleton.1 h1]; exact hc
theorem Al.none{Q:Dc→Prop}(h:d.loose = []):Al Q d:=λc hc=>by rw [h] at hc; cases hc
theorem Al.rem{Q:Dc→Prop}:∀(l:List ByteArray) (d:Dk),Al Q d→(∀f∈l,Q ⟨.disk_Disk_Remove_1 f,ByteArray.empty,[]⟩)→Al Q (remL d l)
 | [],d,h,_=>h
 | f::l,d,h,hl=>by
  show Al Q (remL (dRem d f).1 l)
  refine Al.rem l _ ?_ λg hg=>hl g (Iu _ hg)
  unfold dRem
  cases fS d f != 0 with
  | true=>exact h
  | false=>exact h.done (hl f It)
def Sf(nm:ByteArray)(g:Nat)(d e:Dk):Prop := ∀k,(∀j,1≤j→j≤999999→k≠fn nm g j)→(mget k d.safe_).isSome=true→(mget k d.seen).isSome=true→(mget k e.safe_).isSome=true
theorem yf:∀(l:List ByteArray) (d:Dk),(remL d l).safe_=d.safe_
 | [],d=>rfl
 | f::l,d=>by
  show (remL (dRem d f).1 l).safe_=_
  rw [yf l]
  unfold dRem
  cases fS d f != 0 <;> rfl
theorem GD{es fs:Mp}(h1:NK es)(h2:NK fs)(h:∀k,mget k es=mget k fs):es.length=fs.length:=by
 have h3:(es.map (·.1)).Perm (fs.map (·.1)):=by
  rw [List.perm_ext_iff_of_nodup h1 h2]
  intro k
  rw [← dD, ← dD,h k]
 simpa using h3.length_eq
def GK(nm:ByteArray)(g K:Nat)(k:ByteArray):Prop := ∃j,1≤j∧j≤K∧(j≤999999∧g≤999999)∧k=fn nm g j
def Qc(nm:ByteArray)(g K:Nat)(c:Dc):Prop:=match c.do_ with
 | .disk_Disk_Cut_1 _ _=>False
 | .disk_add_1 n _=>n=fn nm 0 1∨GK nm (g+1) K n
 | .disk_Disk_Remove_1 n=>GK nm (g+1) K n
end
section
variable {R N M:Nat} {d e:Dk} {m me:Md}
theorem Rel.tight(h:Rel R N d m)(hl:d.loose = [])(hM:d.seen.length≤M):Rel R M d m:=by
 have hs:=h.seen
 have hg:=h.good
 have ht:=hg.len
 rw [hl] at ht hg hs
 have ht:m.todo = []:=List.eq_nil_of_length_eq_zero ht.symm
 rw [ht] at hg
 refine⟨h.rd,h.rm,h.seen,h.safe,?_,by rw [hl]; exact IH _⟩
 rw [hl,ht]
 have hs:d.seen=d.safe_:=hs
 exact Good.nil hg.nk (hs▸h.sz) (hs▸hM)
structure Mid4 (R M:Nat) (d:Dk) (nm:ByteArray) (g K i:Nat) (bs:Bs) (e:Dk) (me:Md):Prop where
 rel:Rel R M e me
 has:Has nm (g+1) bs e.seen
 same:∀k,(∀j,1≤j→j≤999999→k≠fn nm (g+1) j)→mget k e.seen=mget k d.seen
 len:e.seen.length≤d.seen.length+i
 bl:bs.length≤K
 al:Al (Qc nm g K) e
 sf:Sf nm (g+1) d e
theorem Mid4.who{nm:ByteArray}{g K i:Nat}{bs:Bs}(h:Mid4 R M d nm g K i bs e me)(hnm:Nm nm)(hg:g+1≤999999)(hx:Own1 nm g d.seen){k:ByteArray}(hk:(mget k e.seen).isSome=true):
  (pf nm k=none∧mget k e.seen=mget k d.seen)∨(∃j,1≤j∧j≤999999∧k=fn nm g j∧mget k e.seen=mget k d.seen)∨∃j,1≤j∧j≤K∧j≤999999∧k=fn nm (g+1) j:=by
 by_cases hc:∀j,1≤j→j≤999999→k≠fn nm (g+1) j
 ·have hs:=h.same k hc
  rw [hs] at hk
  rcases hx k hk with e1 | ⟨j,j1,j2,e1⟩
  ·exact .inl ⟨e1,hs⟩
  ·exact .inr (.inl ⟨j,j1,j2,e1,hs⟩)
 ·obtain⟨j,j1,j2,e1⟩:=Et hc
  refine .inr (.inr ⟨j,j1,?_,j2,e1⟩)
  rw [e1,h.has.2 j j1 j2] at hk
  have hbl:=h.bl
  rcases Nat.lt_or_ge (j - 1) bs.length with hlt | hge
  ·omega
  ·rw [List.getElem?_eq_none hge] at hk; cases hk
theorem Mid4.ks{nm:ByteArray}{g K i:Nat}{bs:Bs}(h:Mid4 R M d nm g K i bs e me)(hnm:Nm nm)(hg:g+1≤999999)(hx:Own1 nm g d.seen)(hk:Ks d.seen):Ks e.seen:=λk hks=>by
 rcases h.who hnm hg hx hks with ⟨_,e1⟩ | ⟨j,_,_,_,e1⟩ | ⟨j,j1,_,j2,e1⟩
 ·rw [e1] at hks; exact hk k hks
 ·rw [e1] at hks; exact hk k hks
 ·rw [e1]; exact mr hnm hg j2
theorem G6{nm:ByteArray}{g K i:Nat}{bs:Bs}(h:Mid4 R M d nm g K i bs e me)(hR:R≤MX)(hM:M+d.seen.length+i+2≤lim)(hnm:Nm nm)(hg:g+1≤999999)(hn:NK d.seen)(hk:Ks d.seen)(hx:Own1 nm g d.seen){pred:Int→Int→Option Bool}(hq:∀a b,pred a b=some (a==((g+1:Nat):Int)))(p2:Int):
  ∃e' m',aD e nm p2 pred=some e'∧bB me nm ((g+1:Nat):Int) false 0=some m'∧Rel R (M+i) e' m'∧(∀k,mget k e'.seen=mget k d.seen)∧Al (Qc nm g K) e'∧Sf nm (g+1) d e':=by
 have hke:=h.ks hnm hg hx hk
 have hl:=h.len
 have r:=rI h.rel.di hR (by omega) (nm:=nm) hnm.hi hke (pred:=pred) (q:=λa _=>a==((g+1:Nat):Int)) hq p2
 obtain⟨m',r1,r2⟩:=tj h.rel hR (by omega) (nm:=nm) hnm.hi hke ((g+1:Nat):Int) false 0
 have cc:bA nm (qR ((g+1:Nat):Int) false 0) e.seen=bA nm (λa _=>a==((g+1:Nat):Int)) e.seen:=by
  refine nt λk hks=>?_
  rcases h.who hnm hg hx hks with ⟨e1,_⟩ | ⟨j,j1,j2,e1,_⟩ | ⟨j,j1,_,j2,e1⟩
  ·rw [e1]; rfl
  ·rw [e1,fG ⟨by omega,j1,j2⟩]
   unfold qR; simp; omega
  ·rw [e1,fG ⟨hg,j1,j2⟩]
   unfold qR; simp; omega
 rw [cc] at r2
 have hrem:=(tN (nm:=nm) (q:=λa _=>a==((g+1:Nat):Int)) h.rel.di hke).1
 have hcl:=pJ (nm:=nm) (q:=λa _=>a==((g+1:Nat):Int)) h.rel.di hke
 have hsame:∀k,mget k (remL e (bA nm (λa _=>a==((g+1:Nat):Int)) e.seen)).seen=mget k d.seen:=λk=>by
  rw [hrem k]
  by_cases hc:∀j,1≤j→j≤999999→k≠fn nm (g+1) j
  ·rw [h.same k hc]
   split
   ·rename_i hp
    cases hs:mget k d.seen with
    | none=>rfl
    | some v=>
     rcases hx k (by rw [hs]; rfl) with e1 | ⟨j,j1,j2,e1⟩
     ·rw [e1] at hp; cases hp
     ·rw [e1,fG ⟨by omega,j1,j2⟩] at hp
      simp at hp
      omega
   ·rfl
  ·obtain⟨j,j1,j2,e1⟩:=Et hc
   rw [e1,fG ⟨hg,j1,j2⟩,if_pos (by simp)]
   cases hs:mget (fn nm (g+1) j) d.seen with
   | none=>rfl
   | some v=>
    exfalso
    rcases hx _ (by rw [hs]; rfl) with e2 | ⟨i,i1,i2,e2⟩
    ·rw [fG ⟨hg,j1,j2⟩] at e2; cases e2
    ·have:=(lr hnm hnm e2).2.1
     omega
 have hlen:=GD r2.nk hn hsame
 refine⟨_,m',r,r1,r2.mono (by omega),hsame,Al.rem _ _ h.al λf hf=>?_,λk q1 q2 q3=>by rw [yf]; exact h.sf k q1 q2 q3⟩
 obtain⟨f1,f2⟩:=l9.1 hf
 rcases h.who hnm hg hx f1 with ⟨e1,_⟩ | ⟨j,j1,j2,e1,_⟩ | ⟨j,j1,jK,j2,e1⟩
 ·rw [e1] at f2; cases f2
 ·rw [e1,fG ⟨by omega,j1,j2⟩] at f2
  simp at f2
  omega
 ·exact⟨j,j1,jK,⟨j2,hg⟩,e1⟩
inductive RewJ (R M:Nat) (d:Dk) (nm:ByteArray) (g K:Nat) (size:Int) (bs:Bs) (cnt:Nat) (list:Bs):Option (ai×Dk×Int)→Option (af×Md×Int)→Prop
 | no (e:Dk) (m':Md) (c:Int):c≠0→Rel R M e m'→(∀k,mget k e.seen=mget k d.seen)→Al (Qc nm g K) e→Sf nm (g+1) d e→RewJ R M d nm g K size bs cnt list (some (lg nm g size bs cnt,e,c)) (some (rlg nm g size bs cnt,m',c))
 | ok (e:Dk) (m':Md):g+1≤999999→Rel R M e m'→e.loose = []→Has nm (g+1) (bsOf size list) e.seen→Own1 nm (g+1) e.seen→mget (mn nm) e.seen=some (fb d (mn nm)++fr (pn (g+1))) →
   (∀k,pf nm k=none→k≠mn nm→mget k e.seen=mget k d.seen)→RewJ R M d nm g K size bs cnt list (some (lg nm (g+1) size (bsOf size list) list.length,e,0)) (some (rlg nm (g+1) size (bsOf size list) list.length,m',0))
theorem FB{nm:ByteArray}{g K:Nat}{size:Int}{bs:Bs}{cnt:Nat}{list:Bs}(h:Mid4 R (N+list.length) d nm g K list.length (bsOf size list) e me)(hlK:list.length≤K)(hR:R≤MX)(hN:N+2*K+d.seen.length+10≤lim)(hnm:Nm nm)(hg:g+1≤999999)(hn:NK d.seen)(hk:Ks d.seen)(hx:Own1 nm g d.seen):
  RewJ R (N+2*K+4) d nm g K size bs cnt list
   (Option.bind (bo e) λz62=>(Option.bind (fV (lg nm (g+1) size (bsOf size list) list.length).place_gen) λz71=>(Option.bind (iu z71) λz86=>(Option.bind (cq (lg nm g size bs cnt).place_name (lg nm g size bs cnt).place_gen) λz103=>(chk (decide (z103.size≤lim)) (Option.bind (cd z62 z103 z86.1) λz106=>(bif (z106.2 != 0) then
 (Option.bind (aD z106.1 (lg nm (g+1) size (bsOf size list) list.length).place_name (lg nm (g+1) size (bsOf size list) list.length).place_gen (λx y=>bY x y (lg nm (g+1) size (bsOf size list) list.length))) λz119=>(some (lg nm g size bs cnt,z119,z106.2)))
 else
 (Option.bind (bo z106.1) λz128=>(Option.bind (aD z128 (lg nm (g+1) size (bsOf size list) list.length).place_name (lg nm (g+1) size (bsOf size list) list.length).place_gen (λx y=>bJ x y (lg nm g size bs cnt).place_gen)) λz138=>(Option.bind (bo z138) λz146=>(some (lg nm (g+1) size (bsOf size list) list.length,z146,0))))))))))))
   (Option.bind (bd me) λz62=>(Option.bind (cw ((g+1:Nat):Int)) λz72=>(Option.bind (eS z72) λz87=>(chk (decide ((nm++(⟨#[46,109]⟩:ByteArray)).size≤lim)) (Option.bind (bm z62 (nm++(⟨#[46,109]⟩:ByteArray)) z87) λz103=>(bN (rlg nm g size bs cnt) (rlg nm (g+1) size (bsOf size list) list.length) z103.2 z103.1)))))):=by
 have hms:=rA hnm
 have hpn:=pn3 (n:=g+1) (by omega)
 have hfl:=nS (pn (g+1))
 have hp3:=pn3 (n:=(pn (g+1)).length) (by omega)
 have hl:=h.len
 have hks:=h.ks hnm hg hx hk
 have hln:=h.rel.ln
 obtain⟨ms,s1,s2⟩:=ws h.rel hR (by omega)
 rw [uW,IC,s1,IC]
 rw [show (lg nm (g+1) size (bsOf size list) list.length).place_gen=((g+1:Nat):Int) from rfl,sZ (by omega),IC,Gn (by omega),IC,rj (by omega),IC,Bf (by rw [aB]; omega),IC]
 rw [show cq (lg nm g size bs cnt).place_name (lg nm g size bs cnt).place_gen=some (mn nm) from rfl,IC,show nm++(⟨#[46,109]⟩:ByteArray)=mn nm from rfl,aw (by rw [aB,Iq]; omega),aw (by rw [aB,Iq]; omega)]
 obtain⟨a1,a2⟩:=EI s2.di hR (by omega) (mn nm) (fr (pn (g+1)))
 obtain⟨mA,b1,b2⟩:=Dr s2 hR (by omega) (mn nm) (fr (pn (g+1)))
 rw [a1,IC,b1,IC]
 unfold dApp at b2 ⊢
 rw [yU hnm] at b2 ⊢
 rw [show (!true)=false from rfl,ar rfl] at b2 ⊢
 unfold bN
 have hnk:=h.rel.nk
 cases hroom:decide ((iW e).room - (Fw.sz (iW e).seen:Int)<((fr (pn (g+1))).length:Int)) with
 | true=>
  rw [hroom,az rfl] at b2
  rw [az rfl]
  simp only at b2 ⊢
  rw [show (((72:Int)) != 0)=true from by decide,az rfl,az rfl]
  have hmS:Mid4 R (N+list.length+1) d nm g K list.length (bsOf size list) (iW e) mA:=⟨b2,h.has,h.same,hl,h.bl,Al.none rfl,λk q1 q2 q3=>by show (mget k e.seen).isSome=true; rw [h.same k q1]; exact q3⟩
  obtain⟨e',m',u1,u2,u3,u4,u5,u6⟩:=G6 hmS hR (by omega) hnm hg hn hk hx (pred:=λx y=>bY x y (lg nm (g+1) size (bsOf size list) list.length)) (λa b=>rfl) ((g+1:Nat):Int)
  rw [show (lg nm (g+1) size (bsOf size list) list.length).place_name=nm from rfl,u1,IC,show (rlg nm g size bs cnt).name=nm from rfl,show (rlg nm (g+1) size (bsOf size list) list.length).gen=((g+1:Nat):Int) from rfl,u2,IC]
  exact .no e' m' 72 (by decide) (u3.mono (by omega)) u4 u5 u6
 | false=>
  rw [hroom,ar rfl] at b2
  rw [ar rfl]
  simp only at b2 ⊢
  rw [show (((0:Int)) != 0)=false from by decide,ar rfl,ar rfl,uW,IC]
  obtain⟨mE,t1,t2⟩:=ws b2 hR (by omega)
  rw [t1,IC]
  have hEln:(m6 (iW e) ⟨.disk_add_1 (mn nm) (fr (pn (g+1))),mn nm,fr (pn (g+1))⟩).seen.length≤e.seen.length+1:=yF (c:=.disk_add_1 (mn nm) (fr (pn (g+1)))) (es:=e.seen)
  have hEs:(iW (m6 (iW e) ⟨.disk_add_1 (mn nm) (fr (pn (g+1))),mn nm,fr (pn (g+1))⟩)).seen=mput (mn nm) ((mget (mn nm) e.seen).getD []++fr (pn (g+1))) e.seen:=rfl
  have hEl:(iW (m6 (iW e) ⟨.disk_add_1 (mn nm) (fr (pn (g+1))),mn nm,fr (pn (g+1))⟩)).seen.length≤e.seen.length+1:=hEln
  generalize iW (m6 (iW e) ⟨.disk_add_1 (mn nm) (fr (pn (g+1))),mn nm,fr (pn (g+1))⟩)=E at t2 hEs hEl ⊢
  have hEk:Ks E.seen:=λk hks2=>by
   rw [hEs,cC] at hks2
   by_cases hkm:k=mn nm
   ·rw [hkm]; exact yU hnm
   ·rw [if_neg hkm] at hks2; exact hks k hks2
  have hwho:∀k,(mget k E.seen).isSome=true→pf nm k=none∨(∃j,1≤j∧j≤999999∧k=fn nm g j)∨∃j,1≤j∧j≤999999∧k=fn nm (g+1) j:=λk hks2=>by
   rw [hEs,cC] at hks2
   by_cases hkm:k=mn nm
   ·rw [hkm]; exact .inl (zK hnm hnm)
   ·rw [if_neg hkm] at hks2
    rcases h.who hnm hg hx hks2 with ⟨e1,_⟩ | ⟨j,j1,j2,e1,_⟩ | ⟨j,j1,_,j2,e1⟩
    ·exact .inl e1
    ·exact .inr (.inl ⟨j,j1,j2,e1⟩)
    ·exact .inr (.inr ⟨j,j1,j2,e1⟩)
  have r:=rI t2.di hR (by omega) (nm:=nm) hnm.hi hEk (pred:=λx y=>bJ x y (g:Int)) (q:=λa _=>a==(g:Int)) (λa b=>rfl) ((g+1:Nat):Int)
  obtain⟨mR,r1,r2⟩:=tj t2 hR (by omega) (nm:=nm) hnm.hi hEk (g:Int) false 0
  have cc:bA nm (qR (g:Int) false 0) E.seen=bA nm (λa _=>a==(g:Int)) E.seen:=by
   refine nt λk hks2=>?_
   rcases hwho k hks2 with e1 | ⟨j,j1,j2,e1⟩ | ⟨j,j1,j2,e1⟩
   ·rw [e1]; rfl
   ·rw [e1,fG ⟨by omega,j1,j2⟩]
    unfold qR; simp; omega
   ·rw [e1,fG ⟨hg,j1,j2⟩]
    unfold qR; simp; omega
  rw [cc] at r2
  have rr:=(tN (nm:=nm) (q:=λa _=>a==(g:Int)) t2.di hEk).1
  have rl:=pJ (nm:=nm) (q:=λa _=>a==(g:Int)) t2.di hEk
  have hcL:(bA nm (λa _=>a==(g:Int)) E.seen).length≤E.seen.length:=by omega
  rw [show aD E (lg nm (g+1) size (bsOf size list) list.length).place_name ((g+1:Nat):Int) (λx y=>bJ x y (lg nm g size bs cnt).place_gen)=some _ from r,IC,uW,IC]
  rw [show bB mE (rlg nm g size bs cnt).name (rlg nm g size bs cnt).gen false 0=some mR from r1,IC]
  obtain⟨mS,q1,q2⟩:=ws r2 hR (by omega)
  rw [q1,IC]
  have hmfn:∀j,1≤j→j≤999999→mn nm≠fn nm (g+1) j:=λj _ _=>xt hnm hnm
  refine RewJ.ok (iW (remL E (bA nm (λa _=>a==(g:Int)) E.seen))) mS hg (q2.tight rfl ?_) rfl ⟨h.has.1,λk k1 k2=>?_⟩ (λk hks2=>?_) ?_ (λk hp hkm=>?_)
  ·show (remL E _).seen.length≤_
   have:=h.rel.ln
   omega
  ·show mget _ (remL E _).seen=_
   rw [rr,fG ⟨hg,k1,k2⟩,if_neg (by simp; omega),hEs,cC,if_neg (λe=>hmfn k k1 k2 e.symm),h.has.2 k k1 k2]
  ·have hks3:(mget k (remL E (bA nm (λa _=>a==(g:Int)) E.seen)).seen).isSome=true:=hks2
   rw [rr] at hks3
   split at hks3
   ·cases hks3
   ·rename_i hc
    rcases hwho k hks3 with e1 | ⟨j,j1,j2,e1⟩ | ⟨j,j1,j2,e1⟩
    ·exact .inl e1
    ·exfalso; apply hc
     rw [e1,fG ⟨by omega,j1,j2⟩]; simp
    ·exact .inr ⟨j,j1,j2,e1⟩
  ·show mget _ (remL E _).seen=_
   rw [rr,zK hnm hnm,if_neg (by simp),hEs,cC,if_pos rfl,h.same _ hmfn]; rfl
  ·show mget _ (remL E _).seen=_
   rw [rr,hp,if_neg (by simp),hEs,cC,if_neg hkm,h.same k (λj j1 j2 e=>by rw [e,fG ⟨hg,j1,j2⟩] at hp; cases hp)]
end
section
variable {R N M:Nat} {d e:Dk} {m me:Md}
theorem Af{nm:ByteArray}{g K:Nat}{size:Int}{bs:Bs}{cnt:Nat}{list:Bs}(hs0:0≤size)(hs1:size≤9223372036854775807)(hlK:list.length≤K)(hR:R≤MX)(hN:N+2*K+d.seen.length+10≤lim)(hnm:Nm nm)(hg:g+1≤999999)(hn:NK d.seen)(hk:Ks d.seen)(hx:Own1 nm g d.seen)
  {Kc:ai×Dk→Option (ai×Dk×Int)}
  (hK:∀e,Kc (lg nm (g+1) size (bsOf size list) list.length,e)=(Option.bind (bo e) λz62=>(Option.bind (fV (lg nm (g+1) size (bsOf size list) list.length).place_gen) λz71=>(Option.bind (iu z71) λz86=>(Option.bind (cq (lg nm g size bs cnt).place_name (lg nm g size bs cnt).place_gen) λz103=>(chk (decide (z103.size≤lim)) (Option.bind (cd z62 z103 z86.1) λz106=>(bif (z106.2 != 0) then
 (Option.bind (aD z106.1 (lg nm (g+1) size (bsOf size list) list.length).place_name (lg nm (g+1) size (bsOf size list) list.length).place_gen (λx y=>bY x y (lg nm (g+1) size (bsOf size list) list.length))) λz119=>(some (lg nm g size bs cnt,z119,z106.2)))
 else
 (Option.bind (bo z106.1) λz128=>(Option.bind (aD z128 (lg nm (g+1) size (bsOf size list) list.length).place_name (lg nm (g+1) size (bsOf size list) list.length).place_gen (λx y=>bJ x y (lg nm g size bs cnt).place_gen)) λz138=>(Option.bind (bo z138) λz146=>(some (lg nm (g+1) size (bsOf size list) list.length,z146,0))))))))))))) :
  ∀(t pre:Bs) (Fu:Nat) (e:Dk) (me:Md),list=pre++t→Mid4 R (N+pre.length) d nm g K pre.length (bsOf size pre) e me →
  RewJ R (N+2*K+4) d nm g K size bs cnt list (forI (fE (lg nm g size bs cnt)) Kc pre.length t (lg nm (g+1) size (bsOf size pre) pre.length,e)) (loopN (b7 (rlg nm g size bs cnt) list) (Fu+t.length+1) (0,(pre.length:Int),rlg nm (g+1) size (bsOf size pre) pre.length,me))
 | [],pre,Fu,e,me,hl,h=>by
  rw [IL] at hl
  subst hl
  have he:=FB (cnt:=cnt) (bs:=bs) h hlK hR hN hnm hg hn hk hx
  rw [forI,hK e,br]
  generalize loopN (b7 (rlg nm g size bs cnt) list) (Fu+([]:Bs).length)=f
  unfold b7
  simp only
  rw [ar (by rw [decide_eq_false (by omega)]; rfl),show ((0:Int)==0)=true from rfl,az rfl]
  exact he
 | x::t,pre,Fu,e,me,hl,h=>by
  have hle:list.length=pre.length+(t.length+1):=by rw [hl,Is,Iy]
  have hel:=h.len
  have hLv:N+2*K+d.seen.length+10≤lim:=hN
  rw [aB] at hLv
  obtain⟨r,a1,a2,_⟩:=Ez h.rel.di hR (by omega) hnm hg hs0 hs1 h.has (cnt:=pre.length) (by omega) x
  obtain⟨m1,b1,b2⟩:=Ea h.rel hR (by omega) hnm hg hs0 hs1 h.has (cnt:=pre.length) (by omega) x a2
  have ih:=λe me=>Af hs0 hs1 hlK hR hN hnm hg hn hk hx hK t (pre++[x]) Fu e me (by rw [hl]; simp)
  rw [forI,show Fu+(x::t).length+1=(Fu+t.length+1)+1 by rw [Iy]; omega,br]
  have hpl:(pre++[x]).length=pre.length+1:=by simp
  rw [hpl] at ih
  generalize forI (fE (lg nm g size bs cnt)) Kc (pre.length+1) t=fc at ih ⊢
  generalize hF:loopN (b7 (rlg nm g size bs cnt) list) (Fu+t.length+1)=fr_ at ih ⊢
  have hgx:gt list pre.length=x:=by rw [hl,cM (IG _),Nat.sub_self]; rfl
  have step:b7 (rlg nm g size bs cnt) list fr_ (0,(pre.length:Int),rlg nm (g+1) size (bsOf size pre) pre.length,me)=fr_ (r.2.2,((pre.length+1:Nat):Int),(if r.2.2=0 then rlg nm (g+1) size (addP size (bsOf size pre) (fr x)) (pre.length+1) else rlg nm (g+1) size (bsOf size pre) pre.length),m1):=by
   unfold b7
   simp only
   rw [az (by rw [IF (by omega)]; rfl),aw (by unfold inb; rw [Iw,Iq,Iq]; omega),Iz,hgx,b1,IC,aH (by unfold I64; omega)]
   rfl
  rw [step]
  unfold fE
  simp only
  rw [a1,IC]
  have bad:∀c:Int,c≠0→r=(lg nm (g+1) size (bsOf size pre) pre.length,e,c)→RewJ R (N+2*K+4) d nm g K size bs cnt list (bif (r.2.2 != 0) then (Option.bind (aD r.2.1 r.1.place_name r.1.place_gen (λx y=>bZ x y r.1)) λz53=>(some (lg nm g size bs cnt,z53,r.2.2))) else (fc (r.1,r.2.1))) (fr_ (r.2.2,((pre.length+1:Nat):Int),(if r.2.2=0 then rlg nm (g+1) size (addP size (bsOf size pre) (fr x)) (pre.length+1) else rlg nm (g+1) size (bsOf size pre) pre.length),m1)):=by
   rintro c hc rfl
   have hm:Mid4 R (N+pre.length+1) d nm g K pre.length (bsOf size pre) e m1:=⟨b2,h.has,h.same,h.len,h.bl,h.al,h.sf⟩
   obtain⟨e',m',u1,u2,u3,u4,u5,u6⟩:=G6 hm hR (by omega) hnm hg hn hk hx (pred:=λx y=>bZ x y (lg nm (g+1) size (bsOf size pre) pre.length)) (λa b=>rfl) ((g+1:Nat):Int)
   rw [az (by simpa using hc),show aD e (lg nm (g+1) size (bsOf size pre) pre.length).place_name (lg nm (g+1) size (bsOf size pre) pre.length).place_gen (λx y=>bZ x y (lg nm (g+1) size (bsOf size pre) pre.length))=some e' from u1,IC]
   rw [if_neg hc, ← hF,br]
   generalize loopN (b7 (rlg nm g size bs cnt) list) (Fu+t.length)=f2
   unfold b7 bN
   simp only
   have hc0:(c==0)=false:=beq_eq_false_iff_ne.2 hc
   rw [hc0,Bool.and_false,ar rfl,ar rfl,az (bne_iff_ne.2 hc),show bB m1 (rlg nm g size bs cnt).name (rlg nm (g+1) size (bsOf size pre) pre.length).gen false 0=some m' from u2,IC]
   exact .no e' m' c hc (u3.mono (by omega)) u4 u5 u6
  cases a2 with
  | long q1=>exact bad 3 (by decide) rfl
  | many _ q2=>exact bad 72 (by decide) rfl
  | full _ _ q3=>exact bad 72 (by decide) rfl
  | ok q1 q2 q3=>
   simp only at b2 ⊢
   rw [show (((0:Int)) != 0)=false from rfl,ar rfl,if_pos trivial, ← uq]
   refine ih _ m1 ⟨by rw [← Nat.add_assoc]; exact b2,?_,λk hj=>?_,?_,?_,?_,λk q1 q2 q3=>h.sf k q1 q2 q3⟩
   ·rw [uq]; exact AppR.has hnm h.has q2
   ·rw [ph (hj _ (pi _ _ _) q2),h.same k hj]
   ·have:=yF (c:=.disk_add_1 (fn nm (g+1) (pnum size (bsOf size pre) (fr x))) (fr x)) (es:=e.seen)
    have e9:(dAdd e nm (g+1) size (bsOf size pre) (fr x)).seen=ap (.disk_add_1 (fn nm (g+1) (pnum size (bsOf size pre) (fr x))) (fr x)) e.seen:=rfl
    rw [e9]
    omega
   ·have:=wb size (pre++[x])
    omega
   ·refine h.al.done (.inr ⟨_,pi _ _ _,?_,⟨q2,hg⟩,rfl⟩)
    have h1:=yD size (bsOf size pre) (fr x)
    have h2:=wb size pre
    omega
theorem Dl(h:Rel R N d m)(hR:R≤MX){nm:ByteArray}(hnm:Nm nm){g:Nat}(hg:g≤999999){size:Int}(hs0:0≤size)(hs1:size≤9223372036854775807){bs:Bs}{cnt:Nat}(hk:Ks d.seen)(hx:Own1 nm g d.seen)(list:Bs){K:Nat}(hK:list.length≤K)(hN:N+2*K+d.seen.length+10≤lim)(hA:Al (Qc nm g K) d):
  RewJ R (N+2*K+4) d nm g K size bs cnt list (ff (lg nm g size bs cnt) list d) (dl (rlg nm g size bs cnt) list m):=by
 have hLv:=hN
 rw [aB] at hLv
 unfold ff dl
 have first:∀(K:Unit→Option (ai×Dk×Int)) (l:List (List UInt8)) (i:Nat),(Rk l→forI (dC (lg nm g size bs cnt) d) K i l ()=K ())∧(¬ Rk l→forI (dC (lg nm g size bs cnt) d) K i l ()=some (lg nm g size bs cnt,d,3)):=by
  intro K l
  induction l with
  | nil=>intro i; exact⟨λ_=>rfl,λhr=>absurd (λx hx=>by cases hx) hr⟩
  | cons x l ih=>
   intro i
   have e:forI (dC (lg nm g size bs cnt) d) K i (x::l) ()=bif decide (1048576<((x.length:Nat):Int)) then some (lg nm g size bs cnt,d,3) else forI (dC (lg nm g size bs cnt) d) K (i+1) l ():=rfl
   rw [e]
   by_cases hq:1048576<x.length
   ·rw [az (by rw [Iq]; omega)]
    exact⟨λhr=>by have:=hr x It; omega,λ_=>rfl⟩
   ·rw [ar (by rw [Ir]; omega)]
    refine⟨λhr=>(ih (i+1)).1 λy hy=>hr y (Iu _ hy),λhr=>(ih (i+1)).2 λhr2=>hr λy hy=>?_⟩
    rcases List.mem_cons.1 hy with e | hy
    ·rw [e]; omega
    ·exact hr2 y hy
 have first7:∀(K:Unit→Option (af×Md×Int)) (l:List (List UInt8)) (i:Nat),(Rk l→forI (cz (rlg nm g size bs cnt) m) K i l ()=K ())∧(¬ Rk l→forI (cz (rlg nm g size bs cnt) m) K i l ()=some (rlg nm g size bs cnt,m,3)):=by
  intro K l
  induction l with
  | nil=>intro i; exact⟨λ_=>rfl,λhr=>absurd (λx hx=>by cases hx) hr⟩
  | cons x l ih=>
   intro i
   have e:forI (cz (rlg nm g size bs cnt) m) K i (x::l) ()=bif decide (1048576<((x.length:Nat):Int)) then some (rlg nm g size bs cnt,m,3) else forI (cz (rlg nm g size bs cnt) m) K (i+1) l ():=rfl
   rw [e]
   by_cases hq:1048576<x.length
   ·rw [az (by rw [Iq]; omega)]
    exact⟨λhr=>by have:=hr x It; omega,λ_=>rfl⟩
   ·rw [ar (by rw [Ir]; omega)]
    refine⟨λhr=>(ih (i+1)).1 λy hy=>hr y (Iu _ hy),λhr=>(ih (i+1)).2 λhr2=>hr λy hy=>?_⟩
    rcases List.mem_cons.1 hy with e | hy
    ·rw [e]; omega
    ·exact hr2 y hy
 by_cases hrk:Rk list
 case neg=>
  rw [(first _ list 0).2 hrk,(first7 _ list 0).2 hrk]
  exact .no d m 3 (by decide) (h.mono (by omega)) (λk=>rfl) hA (λk _ q _=>q)
 rw [(first _ list 0).1 hrk,(first7 _ list 0).1 hrk]
 by_cases hge:g=999999
 ·rw [az (by rw [hge]; rfl),az (by rw [hge]; rfl)]
  exact .no d m 72 (by decide) (h.mono (by omega)) (λk=>rfl) hA (λk _ q _=>q)
 have hg1:g+1≤999999:=by omega
 rw [ar (by show ((g:Int)==999999)=false; rw [beq_eq_false_iff_ne]; omega),ar (by show decide (999999≤(g:Int))=false; rw [Ir]; omega)]
 have e0:(⟨(lg nm g size bs cnt).place_name,w64 ((lg nm g size bs cnt).place_gen+1),(lg nm g size bs cnt).size,0,0,0,0⟩:ai)=lg nm (g+1) size (bsOf size []) 0:=by
  unfold lg
  simp only
  rw [aH (by unfold I64; omega)]; rfl
 have e1:(⟨(rlg nm g size bs cnt).name,(rlg nm g size bs cnt).size,w64 ((rlg nm g size bs cnt).gen+1),[],0⟩:af)=rlg nm (g+1) size (bsOf size []) 0:=by
  unfold rlg
  simp only
  rw [aH (by unfold I64; omega)]; rfl
 rw [e0,e1]
 have hgone:∀j,1≤j→j≤999999→mget (fn nm (g+1) j) d.seen=none:=λj j1 j2=>by
  cases hs:mget (fn nm (g+1) j) d.seen with
  | none=>rfl
  | some v=>
   exfalso
   rcases hx _ (by rw [hs]; rfl) with e2 | ⟨i,i1,i2,e2⟩
   ·rw [fG ⟨hg1,j1,j2⟩] at e2; cases e2
   ·have:=(lr hnm hnm e2).2.1
    omega
 obtain⟨Fu,hFu⟩:∃Fu,FU=Fu+list.length+1:=⟨FU - list.length - 1,by unfold FU; omega⟩
 rw [hFu]
 refine Af hs0 hs1 hK hR hN hnm hg1 h.nk hk hx (λe=>rfl) list [] Fu d m rfl ⟨h,⟨IH _,λk k1 k2=>?_⟩,λk _=>rfl,IG _,IH _,hA,λk _ q _=>q⟩
 rw [hgone k k1 k2]; rfl
end
theorem At.eq{B a b:List UInt8}{p:Int}(h:At B p a)(h':At B p b):a=b:=by
 obtain⟨q,e,_,rfl⟩:=h
 obtain⟨q',e',_,rfl⟩:=h'
 have:q=q':=by omega
 rw [this]
section
variable {B:List UInt8} (hB:B.length≤lim)
include hB
theorem wh{p:Int}{rest:List UInt8}(h:At B p rest):cR B p=gX B p:=by
 obtain⟨q,rfl,hq,_⟩:=h
 rw [Bt hB hq,zl hB hq]
theorem Ek{p:Int}{rest:List UInt8}(h:At B p rest):(∃x y e,e≠0∧gX B p=some (x,y,e))∨∃(n:Int) (q:Nat) (rest':List UInt8),gX B p=some (n,(q:Int),0)∧0≤n∧n<9223372036854775808∧At B p (pz n++rest')∧At B q rest'∧q≤B.length:=by
 obtain⟨q,rfl,hq,hd⟩:=h
 rw [zl hB hq,hd]
 have hl:=congrArg List.length hd
 rw [IW] at hl
 rcases vT rest 0 0 (by omega) (by simp) with ⟨h1,h2,h3,h4⟩ | h1 | h1
 ·right
  obtain⟨m,m1,m2,m3,_⟩:=rz rest 0 0 (numF 0 0 rest).1 (numF 0 0 rest).2.1 (by rw [← h1])
  rw [Nat.pow_zero,Nat.mul_one,Nat.zero_add] at m1
  rw [Nat.sub_zero] at m3
  refine⟨((numF 0 0 rest).1:Int),q+(numF 0 0 rest).2.1,rest.drop (numF 0 0 rest).2.1,?_,by omega,by omega,⟨q,rfl,hq,?_⟩,⟨_,rfl,by omega,?_⟩,by omega⟩
  ·unfold numR; rw [if_pos h1,h1]
  ·unfold pz
   rw [hd,Iz,m1, ← m3,List.take_append_drop]
  ·rw [← List.drop_drop,hd]
 ·left; exact⟨_,_,2,by decide,by unfold numR; rw [h1]⟩
 ·left; exact⟨_,_,4,by decide,by unfold numR; rw [h1]⟩
theorem xL{p:Int}{rest:List UInt8}(h:At B p rest):jY B p ((B.length:Nat):Int)=ke B p ((B.length:Nat):Int):=by
 unfold jY ke
 rw [wh hB h]
 congr 1
 funext z1
 have e:max ((B.length:Nat):Int) 0=((B.length:Nat):Int):=by omega
 rw [e]
 cases z1.2.2 != 0 with
 | true=>rfl
 | false=>
  rw [ar rfl,ar rfl,ar (by rw [Ir]; omega)]
  rfl
theorem Dy{p:Int}{rest:List UInt8}(h:At B p rest):(∃x y e,e≠0∧ke B p ((B.length:Nat):Int)=some (x,y,e))∨∃(s:ByteArray) (q:Nat) (rest':List UInt8),ke B p ((B.length:Nat):Int)=some (s,(q:Int),0)∧s.size≤B.length∧At B p (txB s++rest')∧At B q rest'∧q≤B.length:=by
 have hB2:=hB
 rw [aB] at hB2
 unfold ke
 rcases Ek hB h with ⟨x,y,e,he,h1⟩ | ⟨n,q,r1,h1,h2,h3,h4,h5,h6⟩
 ·rw [h1,IC]
  simp only
  rw [az (bne_iff_ne.2 he)]
  exact .inl ⟨_,_,e,he,rfl⟩
 ·rw [h1,IC]
  simp only
  rw [show (((0:Int)) != 0)=false from rfl,ar rfl]
  by_cases hc:max ((B.length:Nat):Int) 0<n
  ·rw [az (IF hc)]
   exact .inl ⟨_,_,3,by decide,rfl⟩
  ·rw [ar (decide_eq_false hc),aH (by unfold I64; omega)]
   by_cases hc2:((B.length:Nat):Int) - (q:Int)<n
   ·rw [az (IF hc2)]
    exact .inl ⟨_,_,4,by decide,rfl⟩
   ·rw [ar (decide_eq_false hc2)]
    obtain⟨k,rfl⟩:∃k:Nat,n=(k:Int):=⟨n.toNat,by omega⟩
    have ew:w64 (((q:Nat):Int)+((k:Nat):Int))=((q+k:Nat):Int):=by rw [aH (by unfold I64; omega)]; omega
    rw [ew,aw (by unfold inle; rw [Iw,Iq,Iq]; clear ew; omega),aw (by rw [Iq]; clear ew; omega),aw (by rw [Iq,Iz,Iz]; clear ew; omega),Iz,Iz]
    clear ew
    obtain⟨q2,e2,e3,e4⟩:=h5
    have e2:q=q2:=by omega
    subst e2
    have hsl:(List.drop q (List.take (q+k) B)).length=k:=by rw [IW,IV]; omega
    have hsz:(⟨(List.drop q (List.take (q+k) B)).toArray⟩:ByteArray).size=k:=hsl
    have hdr:r1=List.drop q (List.take (q+k) B)++B.drop (q+k):=by
     rw [← e4,List.drop_take,Nat.add_sub_cancel_left, ← List.drop_drop,List.take_append_drop]
    refine .inr ⟨_,q+k,B.drop (q+k),rfl,by rw [hsz]; omega,?_,⟨_,rfl,by omega,rfl⟩,by omega⟩
    unfold txB
    rw [hsz,Iv]
    show At B p (pz (k:Int)++(List.drop q (List.take (q+k) B)++B.drop (q+k)))
    rw [← hdr]; exact h4
def Vc(B:List UInt8)(s:aa):Prop:=s.b=B∧∃rest,At B s.at_ rest
def Co(B:List UInt8)(s s':aa)(w:List UInt8):Prop:=s'.b=B∧∃rest,At B s.at_ (w++rest)∧At B s'.at_ rest
omit hB in
theorem Co.v{s s':aa}{w:List UInt8}(h:Co B s s' w):Vc B s':=⟨h.1,h.2.imp λ_ h=>h.2⟩
omit hB in
theorem Co.nil{s:aa}(h:Vc B s):Co B s s []:=⟨h.1,h.2.imp λ_ h=>⟨h,h⟩⟩
omit hB in
theorem Co.trans{s s' s'':aa}{v w:List UInt8}(h:Co B s s' v)(h':Co B s' s'' w):Co B s s'' (v++w):=by
 obtain⟨h1,r1,a1,b1⟩:=h
 obtain⟨h2,r2,a2,b2⟩:=h'
 refine⟨h2,r2,?_,b2⟩
 rw [Iv, ← b1.eq a2]
 exact a1
def Sd{α:Type}(B:List UInt8)(s:aa)(m:Option (Option (aa×α)))(P:α→List UInt8→Prop):Prop:=m=some none∨∃s' x w,m=some (some (s',x))∧Co B s s' w∧P x w
theorem wD{s:aa}(h:Vc B s):Sd B s (be s) λn w=>0≤n∧n<9223372036854775808∧w=pz n:=by
 obtain⟨b,p⟩:=s
 obtain⟨rfl,rest,h⟩:=h
 have hB2:=hB
 rw [aB] at hB2
 unfold be fj
 simp only at h hB hB2 ⊢
 rcases Ek hB h with ⟨x,y,e,he,h1⟩ | ⟨n,q,r1,h1,h2,h3,h4,h5,h6⟩
 ·rw [h1,IC]
  simp only
  rw [az (bne_iff_ne.2 he)]
  exact .inl rfl
 ·rw [h1,IC]
  simp only
  rw [ar (by decide),aw (by unfold i64b; rw [Iw,Iq,Iq]; omega),aw (by unfold i64b; rw [Iw,Iq,Iq]; omega)]
  exact .inr ⟨_,_,_,rfl,⟨rfl,r1,h4,h5⟩,h2,h3,rfl⟩
theorem G8{s:aa}(h:Vc B s):Sd B s (d6 s) λn w=>0≤n∧n<9223372036854775808∧w=pz n:=by
 unfold d6
 rcases wD hB h with e | ⟨s',x,w,e,h1,h2⟩
 ·rw [e]; exact .inl rfl
 ·rw [e]; exact .inr ⟨s',x,w,rfl,h1,h2⟩
theorem EZ{s:aa}(h:Vc B s):Sd B s (bX s) λx w=>x.size≤lim∧w=txB x:=by
 obtain⟨b,p⟩:=s
 obtain⟨rfl,rest,h⟩:=h
 have hB2:=hB
 rw [aB] at hB2
 unfold bX db
 simp only at h hB hB2 ⊢
 rcases Dy hB h with ⟨x,y,e,he,h1⟩ | ⟨n,q,r1,h1,h2,h4,h5,h6⟩
 ·rw [h1,IC]
  simp only
  rw [az (bne_iff_ne.2 he)]
  exact .inl rfl
 ·rw [h1,IC]
  simp only
  rw [ar (by decide),aw (by unfold i64b; rw [Iw,Iq,Iq]; omega),aw (by rw [Iq]; omega)]
  exact .inr ⟨_,_,_,rfl,⟨rfl,r1,h4,h5⟩,by omega,rfl⟩
theorem GI{s:aa}(h:Vc B s):Sd B s (dv s) λx w=>x.f≤x.t∧I64 x.f∧w=spB x:=by
 unfold dv eJ eK optm
 rcases G8 hB h with e | ⟨s1,x1,w1,e,h1,p1,p2,rfl⟩
 ·rw [e]; exact .inl rfl
 rw [e,IC]
 simp only
 rcases wD hB h1.v with e | ⟨s2,x2,w2,e,h2,p3,p4,rfl⟩
 ·rw [e]; exact .inl rfl
 rw [e,IC]
 simp only
 rcases wD hB h2.v with e | ⟨s3,x3,w3,e,h3,p5,p6,rfl⟩
 ·rw [e]; exact .inl rfl
 rw [e,IC]
 simp only
 by_cases hc:w64 (x2+x3)<x2
 ·rw [az (IF hc)]; exact .inl rfl
 rw [ar (decide_eq_false hc)]
 have hw:w64 (x2+x3)=x2+x3:=by
  by_cases hs:x2+x3<9223372036854775808
  ·exact aH (by unfold I64; omega)
  ·exfalso; apply hc
   have:w64 (x2+x3)=x2+x3 - 18446744073709551616:=by
    rw [← aH (x:=x2+x3 - 18446744073709551616) (by unfold I64; omega)]
    unfold w64; omega
   rw [this]; omega
 refine .inr ⟨s3,_,_,rfl,(h1.trans h2).trans h3,by simp only; omega,by simp only; unfold I64; omega,?_⟩
 unfold spB
 simp only
 rw [hw,show x2+x3 - x2=x3 by omega,Iv]
end
section
variable {B:List UInt8} (hB:B.length≤lim)
include hB
theorem Cf:∀(k i:Nat) (out:List Span) (s:aa),Vc B s→out.length+k≤lim →
  Sd B s (forU b6 (λ(out_20,o25)=>some (some (o25,out_20))) k i (out,s)) λl w => ∃l',l=out++l'∧l'.length=k∧(∀x∈l',I64 x.f)∧w=(l'.map spB).flatten
 | 0,i,out,s,h,_=>.inr ⟨s,out,[],rfl,Co.nil h,[],by simp,rfl,(λx hx=>by cases hx),rfl⟩
 | k+1,i,out,s,h,hl=>by
  have ih:=λout s h hl=>Cf k (i+1) out s h hl
  show Sd B s (b6 (forU b6 (λ(out_20,o25)=>some (some (o25,out_20))) k (i+1)) i (out,s)) _
  generalize forU b6 (λ(out_20,o25)=>some (some (o25,out_20))) k (i+1)=f at ih ⊢
  unfold b6 optm
  simp only
  rcases GI hB h with e | ⟨s1,x1,w1,e,h1,p1,p2,p3⟩
  ·rw [e]; exact .inl rfl
  rw [e,IC]
  simp only
  rw [aw (IF (by omega))]
  rcases ih (out++[x1]) s1 h1.v (by simp; omega) with e | ⟨s2,x2,w2,e,h2,l',e2,e3,e4,e5⟩
  ·rw [e]; exact .inl rfl
  ·rw [e]
   refine .inr ⟨s2,x2,_,rfl,h1.trans h2,x1::l',by rw [e2]; simp,by simp [e3],λx hx=>?_,by rw [p3,e5]; simp⟩
   rcases List.mem_cons.1 hx with e | hx
   ·rw [e]; exact p2
   ·exact e4 x hx
theorem Hr{s:aa}(h:Vc B s):Sd B s (cH s) λl w=>l.length≤lim∧(∀x∈l,I64 x.f)∧w=spsB l:=by
 have hB2:=hB
 rw [aB] at hB2
 unfold cH dO optm
 rcases wD hB h with e | ⟨s1,n,w1,e,h1,p1,p2,rfl⟩
 ·rw [e]; exact .inl rfl
 rw [e,IC]
 simp only
 obtain⟨hb1,r1,hv1⟩:=h1.v
 have hlen:=hv1.len
 rw [hb1,aH (by unfold I64; omega)]
 by_cases hc:((B.length:Nat):Int) - s1.at_<n
 ·rw [az (IF hc)]; exact .inl rfl
 rw [ar (decide_eq_false hc)]
 have hn:n.toNat≤lim:=by omega
 rcases Cf hB n.toNat 0 [] s1 h1.v (by simpa using hn) with e | ⟨s2,x2,w2,e,h2,l',e2,e3,e4,e5⟩
 ·rw [e]; exact .inl rfl
 ·rw [e]
  rw [IO] at e2
  subst e2
  refine .inr ⟨s2,x2,_,rfl,h1.trans h2,by omega,e4,?_⟩
  unfold spsB
  rw [e5,show ((x2.length:Nat):Int)=n by omega]
theorem I0{s:aa}(h:Vc B s):Sd B s (ek s) λv w=>Mg.VerOk v∧w=veB v:=by
 unfold ek dK optm
 rcases G8 hB h with e | ⟨s1,x1,w1,e,h1,p1,p2,rfl⟩
 ·rw [e]; exact .inl rfl
 rw [e,IC]
 simp only
 rcases wD hB h1.v with e | ⟨s2,x2,w2,e,h2,p3,p4,rfl⟩
 ·rw [e]; exact .inl rfl
 rw [e,IC]
 simp only
 rcases Hr hB h2.v with e | ⟨s3,x3,w3,e,h3,p5,p6,rfl⟩
 ·rw [e]; exact .inl rfl
 rw [e,IC]
 simp only
 rcases wD hB h3.v with e | ⟨s4,x4,w4,e,h4,p7,p8,rfl⟩
 ·rw [e]; exact .inl rfl
 rw [e,IC]
 simp only
 have d1:I64 x1∧I64 x2:=by unfold I64; omega
 by_cases h0:x4=0
 ·rw [az (by rw [h0]; rfl)]
  rcases EZ hB h4.v with e | ⟨s5,x5,w5,e,h5,p9,rfl⟩
  ·rw [e]; exact .inl rfl
  rw [e,IC]
  simp only
  refine .inr ⟨s5,_,_,rfl,(((h1.trans h2).trans h3).trans h4).trans h5,⟨d1,p5,p6,p9⟩,?_⟩
  unfold veB
  rw [h0]; simp
 ·rw [ar (by simpa using h0)]
  by_cases h1':x4=1
  ·rw [az (by rw [h1']; rfl)]
   refine .inr ⟨s4,_,_,rfl,((h1.trans h2).trans h3).trans h4,⟨d1,p5,p6,IH _⟩,?_⟩
   unfold veB
   rw [h1']; simp
  ·rw [ar (by simpa using h1')]; exact .inl rfl
theorem Dp:∀(k i:Nat) (out:List Ver) (s:aa),Vc B s→out.length+k≤lim →
  Sd B s (forU ba (λ(out_20,o25)=>some (some (o25,out_20))) k i (out,s)) λl w => ∃l',l=out++l'∧l'.length=k∧(∀x∈l',Mg.VerOk x)∧w=(l'.map veB).flatten
 | 0,i,out,s,h,_=>.inr ⟨s,out,[],rfl,Co.nil h,[],by simp,rfl,(λx hx=>by cases hx),rfl⟩
 | k+1,i,out,s,h,hl=>by
  have ih:=λout s h hl=>Dp k (i+1) out s h hl
  show Sd B s (ba (forU ba (λ(out_20,o25)=>some (some (o25,out_20))) k (i+1)) i (out,s)) _
  generalize forU ba (λ(out_20,o25)=>some (some (o25,out_20))) k (i+1)=f at ih ⊢
  unfold ba optm
  simp only
  rcases I0 hB h with e | ⟨s1,x1,w1,e,h1,p2,p3⟩
  ·rw [e]; exact .inl rfl
  rw [e,IC]
  simp only
  rw [aw (IF (by omega))]
  rcases ih (out++[x1]) s1 h1.v (by simp; omega) with e | ⟨s2,x2,w2,e,h2,l',e2,e3,e4,e5⟩
  ·rw [e]; exact .inl rfl
  ·rw [e]
   refine .inr ⟨s2,x2,_,rfl,h1.trans h2,x1::l',by rw [e2]; simp,by simp [e3],λx hx=>?_,by rw [p3,e5]; simp⟩
   rcases List.mem_cons.1 hx with e | hx
   ·rw [e]; exact p2
   ·exact e4 x hx
theorem HZ{s:aa}(h:Vc B s):Sd B s (cX s) λl w=>Mg.VersOk l∧w=vesB l:=by
 have hB2:=hB
 rw [aB] at hB2
 unfold cX dY optm
 rcases wD hB h with e | ⟨s1,n,w1,e,h1,p1,p2,rfl⟩
 ·rw [e]; exact .inl rfl
 rw [e,IC]
 simp only
 obtain⟨hb1,r1,hv1⟩:=h1.v
 have hlen:=hv1.len
 rw [hb1,aH (by unfold I64; omega)]
 by_cases hc:((B.length:Nat):Int) - s1.at_<n
 ·rw [az (IF hc)]; exact .inl rfl
 rw [ar (decide_eq_false hc)]
 have hn:n.toNat≤lim:=by omega
 rcases Dp hB n.toNat 0 [] s1 h1.v (by simpa using hn) with e | ⟨s2,x2,w2,e,h2,l',e2,e3,e4,e5⟩
 ·rw [e]; exact .inl rfl
 ·rw [e]
  rw [IO] at e2
  subst e2
  refine .inr ⟨s2,x2,_,rfl,h1.trans h2,⟨by omega,e4⟩,?_⟩
  unfold vesB
  rw [e5,show ((x2.length:Nat):Int)=n by omega]
theorem HO{s:aa}(h:Vc B s):Sd B s (ef s) λr w=>Mg.VersOk r.vers∧w=reB r:=by
 unfold ef optm
 rcases EZ hB h with e | ⟨s1,x1,w1,e,h1,p1,rfl⟩
 ·rw [e]; exact .inl rfl
 rw [e,IC]
 simp only
 rcases HZ hB h1.v with e | ⟨s2,x2,w2,e,h2,p2,rfl⟩
 ·rw [e]; exact .inl rfl
 rw [e,IC]
 exact .inr ⟨s2,_,_,rfl,h1.trans h2,p2,rfl⟩
end
def rrB(r:Rec):Bool:=((decide (1≤((r.key.size:Nat):Int)))&&(decide (((r.key.size:Nat):Int)≤32)))&&Mg.r5Right r.vers
theorem rr_c{r:Rec}(hv:Mg.VersOk r.vers):cL r=some (rrB r):=by
 unfold cL rrB
 rw [Mg.e_Right5 hv.1,dX,IC,Mg.right_eq]
 cases ((decide (1≤((r.key.size:Nat):Int)))&&(decide (((r.key.size:Nat):Int)≤32))) <;> rfl
theorem rr_r{r:Rec}(hv:Mg.VersOk r.vers):eL r=some (rrB r):=by
 unfold eL rrB
 have hk:(r.key != ByteArray.empty)=decide (1≤((r.key.size:Nat):Int)):=by
  by_cases h:r.key=ByteArray.empty
  ·rw [h]; decide
  ·have:r.key.size≠0:=λe=>h (by
    have e2:r.key.data.size=0:=e
    have e3:=Array.eq_empty_of_size_eq_zero e2
    cases hr:r.key with | mk d=>rw [hr] at e3; simp only at e3; rw [e3]; rfl)
   rw [IF (by omega)]
   exact bne_iff_ne.2 h
 rw [Mg.e_r5Right hv,dX,IC,hk]
 cases ((decide (1≤((r.key.size:Nat):Int)))&&(decide (((r.key.size:Nat):Int)≤32))) <;> rfl
theorem DE{b:List UInt8}(hb:b.length≤lim):(∃r,b=reB r∧Rt r∧Mg.VersOk r.vers∧eN b=some (r,0))∨eN b=some (⟨ByteArray.empty,[]⟩,2):=by
 unfold eN f0 dI optm
 rcases HO hb (s:=⟨b,0⟩) ⟨rfl,b,0,rfl,IH _,rfl⟩ with e | ⟨s1,r,w,e,h1,p1,rfl⟩
 ·rw [e]; exact .inr rfl
 rw [e,IC]
 simp only
 rw [rr_c p1,dX,IC]
 by_cases hat:s1.at_=((b.length:Nat):Int)
 ·rw [show (s1.at_ != ((b.length:Nat):Int))=false by rw [bne_eq_false_iff_eq]; exact hat]
  cases hr:rrB r with
  | false=>exact .inr rfl
  | true=>
   left
   obtain⟨_,rest,a1,a2⟩:=h1
   have hl:=a2.len
   have hr0:rest = []:=List.eq_nil_of_length_eq_zero (by omega)
   subst hr0
   obtain⟨q,e1,e2,e3⟩:=a1
   have e1:(0:Int)=(q:Int):=e1
   have:q=0:=by omega
   subst this
   rw [List.drop_zero,IL] at e3
   have hrc:=rr_c p1
   rw [hr] at hrc
   obtain⟨b',b1,b2⟩:=nV (r:=r) p1.1
   rw [hrc] at b1
   injection b1 with b1
   exact⟨r,e3,⟨hrc,b2 b1.symm⟩,p1,rfl⟩
 ·rw [show (s1.at_ != ((b.length:Nat):Int))=true by rw [bne_iff_ne]; exact hat]
  exact .inr rfl
abbrev Rr:=ac
def Vr(B:List UInt8)(r:Rr):Prop:=r.b=B∧∃rest,At B r.at_ rest
structure Rg (B:List UInt8) (P:Prop) (r r':Rr) (w:List UInt8):Prop where
 v:Vr B r'
 ok:r'.bad=false→r.bad=false∧(P→∃rest,At B r.at_ (w++rest)∧At B r'.at_ rest)
section
variable {B:List UInt8}
theorem Rg.trans{P Q:Prop}{r r1 r2:Rr}{v w:List UInt8}(h:Rg B P r r1 v)(h':Rg B Q r1 r2 w):Rg B (P∧Q) r r2 (v++w):=
 ⟨h'.v,λhb=>by
  obtain⟨b1,k1⟩:=h'.ok hb
  obtain⟨b2,k2⟩:=h.ok b1
  refine⟨b2,λhp=>?_⟩
  obtain⟨r1,a1,a2⟩:=k1 hp.2
  obtain⟨r2,a3,a4⟩:=k2 hp.1
  exact⟨r1,by rw [Iv, ← a4.eq a1]; exact a3,a2⟩⟩
theorem Rg.weak{P Q:Prop}{r r':Rr}{v w:List UInt8}(h:Rg B P r r' v)(hq:r'.bad=false→Q→P∧v=w):Rg B Q r r' w:=
 ⟨h.v,λhb=>⟨(h.ok hb).1,λq=>by
  obtain⟨p,e⟩:=hq hb q
  rw [← e]; exact(h.ok hb).2 p⟩⟩
theorem Rg.bad{P:Prop}{r r':Rr}{w:List UInt8}(hv:Vr B r')(h:r'.bad=true):Rg B P r r' w:=⟨hv,λhb=>by rw [h] at hb; cases hb⟩
theorem Rg.nil{P:Prop}{r:Rr}(hv:Vr B r):Rg B P r r []:=⟨hv,λhb=>⟨hb,λ_=>hv.2.imp λ_ h=>⟨h,h⟩⟩⟩
end
section
variable {B:List UInt8} (hB:B.length≤lim)
include hB
theorem wm{r:Rr}(h:Vr B r):∃r' n,b9 r=some (r',n)∧Rg B True r r' (pz n)∧0≤n∧n<9223372036854775808:=by
 obtain⟨b,p,bad⟩:=r
 have hv:=h
 obtain⟨rfl,rest,h⟩:=h
 have hB2:=hB
 rw [aB] at hB2
 unfold b9
 simp only at h hB hB2 hv ⊢
 cases bad with
 | true=>exact⟨_,0,rfl,Rg.bad hv rfl,by decide,by decide⟩
 | false=>
  rw [ar rfl,wh hB h]
  rcases Ek hB h with ⟨x,y,e,he,h1⟩ | ⟨n,q,r1,h1,h2,h3,h4,h5,h6⟩
  ·rw [h1,IC]
   simp only
   rw [az (bne_iff_ne.2 he)]
   exact⟨_,0,rfl,Rg.bad hv rfl,by decide,by decide⟩
  ·rw [h1,IC]
   simp only
   rw [ar (by decide),aw (by unfold i64b; rw [Iw,Iq,Iq]; omega),aw (by unfold i64b; rw [Iw,Iq,Iq]; omega)]
   exact⟨_,n,rfl,⟨⟨rfl,r1,h5⟩,λ_=>⟨rfl,λ_=>⟨r1,h4,h5⟩⟩⟩,h2,h3⟩
theorem DQ{r:Rr}(h:Vr B r):∃r' s,ce r=some (r',s)∧Rg B True r r' (txB s)∧s.size≤lim:=by
 obtain⟨b,p,bad⟩:=r
 have hv:=h
 obtain⟨rfl,rest,h⟩:=h
 have hB2:=hB
 rw [aB] at hB2
 unfold ce
 simp only at h hB hB2 hv ⊢
 cases bad with
 | true=>exact⟨_,ByteArray.empty,rfl,Rg.bad hv rfl,IH _⟩
 | false=>
  rw [ar rfl,xL hB h]
  rcases Dy hB h with ⟨x,y,e,he,h1⟩ | ⟨n,q,r1,h1,h2,h4,h5,h6⟩
  ·rw [h1,IC]
   simp only
   rw [az (bne_iff_ne.2 he)]
   exact⟨_,ByteArray.empty,rfl,Rg.bad hv rfl,IH _⟩
  ·rw [h1,IC]
   simp only
   rw [ar (by decide),aw (by unfold i64b; rw [Iw,Iq,Iq]; omega),aw (by rw [Iq]; omega)]
   exact⟨_,n,rfl,⟨⟨rfl,r1,h5⟩,λ_=>⟨rfl,λ_=>⟨r1,h4,h5⟩⟩⟩,by omega⟩
theorem BO{r:Rr}(h:Vr B r):∃r' n,bS r=some (r',n)∧Rg B True r r' (pz n)∧0≤n∧n≤(B.length:Int):=by
 have hB2:=hB
 rw [aB] at hB2
 obtain⟨r',n,e,h1,h2,h3⟩:=wm hB h
 unfold bS
 rw [e,IC]
 simp only
 obtain⟨hb,rest,ha⟩:=h1.v
 have hl:=ha.len
 rw [hb,aH (by unfold I64; omega)]
 by_cases hc:((B.length:Nat):Int) - r'.at_<n
 ·rw [az (IF hc)]
  exact⟨_,0,rfl,Rg.bad ⟨rfl,rest,ha⟩ rfl,by omega,by omega⟩
 ·rw [ar (decide_eq_false hc)]
  exact⟨r',n,rfl,h1,h2,by omega⟩
def SpF(l:List Span):Prop := ∀x∈l,x.f≤x.t
theorem C6{n:Nat}(hn:n≤B.length){r0 z:Rr}:∀(k:Nat) (out:List Span) (o:Rr) (Fu:Nat),n=out.length+k→Rg B (SpF out) r0 o (out.map spB).flatten→(∀x∈out,I64 x.f) →
  ∃r' l,loopN (aM (z,(n:Int))) (Fu+k+1) (out,(out.length:Int),o)=some (r',l)∧Rg B (SpF l) r0 r' (l.map spB).flatten∧(r'.bad=false→l.length=n)∧l.length≤n∧(∀x∈l,I64 x.f)
 | 0,out,o,Fu,hk,h,h2=>by
  rw [br]
  generalize loopN (aM (z,(n:Int))) (Fu+0)=f
  unfold aM
  simp only
  rw [ar (by rw [decide_eq_false (by omega)]; rfl)]
  exact⟨o,out,rfl,h,λ_=>by omega,by omega,h2⟩
 | k+1,out,o,Fu,hk,h,h2=>by
  have hB2:=hB
  rw [aB] at hB2
  rw [show Fu+(k+1)+1=(Fu+k+1)+1 by omega,br]
  have ih:=λx o h h2=>C6 hn (r0:=r0) (z:=z) k (out++[x]) o Fu (by rw [Is]; show n=out.length+1+k; omega) h h2
  generalize loopN (aM (z,(n:Int))) (Fu+k+1)=f at ih ⊢
  unfold aM
  simp only
  cases hb:o.bad with
  | true=>
   rw [ar (by simp)]
   exact⟨o,out,rfl,h,(λe=>by rw [hb] at e; cases e),by omega,h2⟩
  | false=>
   rw [az (by rw [IF (by omega)]; rfl)]
   obtain⟨r1,x1,e1,g1,p1,p2⟩:=wm hB h.v
   obtain⟨r2,x2,e2,g2,p3,p4⟩:=wm hB g1.v
   obtain⟨r3,x3,e3,g3,p5,p6⟩:=wm hB g2.v
   rw [e1,IC]
   simp only
   rw [e2,IC]
   simp only
   rw [e3,IC]
   simp only
   by_cases hc:4611686018427387904<x2∨4611686018427387904<x3
   ·rw [az (by rw [Bool.or_eq_true,Iq,Iq]; exact hc)]
    refine⟨_,[],rfl,Rg.bad ⟨g3.v.1,g3.v.2⟩ rfl,λe=>(by cases e),IH _,λx hx=>by cases hx⟩
   ·rw [ar (by rw [Bool.or_eq_false_iff,Ir,Ir]; exact not_or.1 hc),aw (IF (by omega)),aH (x:=(out.length:Int)+1) (by unfold I64; omega)]
    have hi:((out.length:Int)+1)=(((out++[(⟨x1,x2,w64 (x2+x3)⟩:Span)]).length:Nat):Int):=by rw [Is]; rfl
    rw [hi]
    refine ih _ r3 ((((h.trans g1).trans g2).trans g3).weak λhbd hq=>?_) λx hx=>?_
    ·have hx:=hq (⟨x1,x2,w64 (x2+x3)⟩:Span) (by simp)
     simp only at hx
     have hw:w64 (x2+x3)=x2+x3:=by
      by_cases hs:x2+x3<9223372036854775808
      ·exact aH (by unfold I64; omega)
      ·exfalso
       have:w64 (x2+x3)=x2+x3 - 18446744073709551616:=by
        rw [← aH (x:=x2+x3 - 18446744073709551616) (by unfold I64; omega)]
        unfold w64; omega
       omega
     refine⟨⟨⟨⟨λy hy=>hq y (List.mem_append_left _ hy),trivial⟩,trivial⟩,trivial⟩,?_⟩
     rw [hw]
     simp only [IJ,IA,List.map_nil,List.flatten_append,IP,List.flatten_nil,IL,spB,Iv]
     rw [show x2+x3 - x2=x3 by omega]
    ·rcases List.mem_append.1 hx with hx | hx
     ·exact h2 x hx
     ·rw [List.mem_singleton.1 hx]; simp only; unfold I64; omega
theorem FW{r:Rr}(h:Vr B r):∃r' l,cD r=some (r',l)∧Rg B (SpF l) r r' (spsB l)∧l.length≤lim∧(∀x∈l,I64 x.f):=by
 obtain⟨r1,n,e1,g1,p1,p2⟩:=BO hB h
 unfold cD
 rw [e1,IC]
 obtain⟨k,rfl⟩:∃k:Nat,n=(k:Int):=⟨n.toNat,by omega⟩
 have hB2:=hB
 rw [aB] at hB2
 obtain⟨Fu,hFu⟩:∃Fu,FU=Fu+k+1:=⟨FU - k - 1,by unfold FU; omega⟩
 obtain⟨r2,l,e2,g2,q1,q2,q3⟩:=C6 hB (n:=k) (by omega) (r0:=r1) (z:=r1) k [] r1 Fu (by simp) (Rg.nil g1.v) (λx hx=>by cases hx)
 rw [hFu]
 refine⟨r2,l,e2,(g1.trans g2).weak λhb hq=>⟨⟨trivial,hq⟩,?_⟩,by omega,q3⟩
 unfold spsB
 rw [q1 hb]
end
section
variable {B:List UInt8} (hB:B.length≤lim)
include hB
def VeF(l:List Ver):Prop := ∀v∈l,SpF v.past
theorem Bx{n:Nat}(hn:n≤B.length){r0:Rr}{z:Rr}{y:Rr×ByteArray}:∀(k:Nat) (out:List Ver) (o:Rr) (Fu:Nat),n=out.length+k→Rg B (VeF out) r0 o (out.map veB).flatten→(∀x∈out,Mg.VerOk x) →
  ∃r' l,loopN (aT y (z,(n:Int))) (Fu+k+1) ((out.length:Int),out,o)=some (r',⟨y.2,l⟩)∧Rg B (VeF l) r0 r' (l.map veB).flatten∧(r'.bad=false→l.length=n)∧l.length≤n∧(∀x∈l,Mg.VerOk x)
 | 0,out,o,Fu,hk,h,h2=>by
  rw [br]
  generalize loopN (aT y (z,(n:Int))) (Fu+0)=f
  unfold aT
  simp only
  rw [ar (by rw [decide_eq_false (by omega)]; rfl)]
  exact⟨o,out,rfl,h,(λ_=>by omega),by omega,h2⟩
 | k+1,out,o,Fu,hk,h,h2=>by
  have hB2:=hB
  rw [aB] at hB2
  rw [show Fu+(k+1)+1=(Fu+k+1)+1 by omega,br]
  have ih:=λx o h h2=>Bx hn (r0:=r0) (z:=z) (y:=y) k (out++[x]) o Fu (by rw [Is]; show n=out.length+1+k; omega) h h2
  generalize loopN (aT y (z,(n:Int))) (Fu+k+1)=f at ih ⊢
  unfold aT
  simp only
  cases hb:o.bad with
  | true=>
   rw [ar (by simp)]
   exact⟨o,out,rfl,h,(λe=>by rw [hb] at e; cases e),by omega,h2⟩
  | false=>
   rw [az (by rw [IF (by omega)]; rfl)]
   obtain⟨r1,x1,e1,g1,p1,p2⟩:=wm hB h.v
   obtain⟨r2,x2,e2,g2,p3,p4⟩:=wm hB g1.v
   obtain⟨r3,x3,e3,g3,p5,p6⟩:=FW hB g2.v
   obtain⟨r4,x4,e4,g4,p7,p8⟩:=wm hB g3.v
   rw [e1,IC]
   simp only
   rw [e2,IC]
   simp only
   rw [e3,IC]
   simp only
   rw [e4,IC]
   simp only
   have hi:∀v:Ver,w64 ((out.length:Int)+1)=(((out++[v]).length:Nat):Int):=λv=>by rw [aH (by unfold I64; omega),Is]; rfl
   have d1:I64 x1∧I64 x2:=by unfold I64; omega
   have hall:∀v:Ver,Mg.VerOk v→∀x∈out++[v],Mg.VerOk x:=λv hv x hx=>by
    rcases List.mem_append.1 hx with hx | hx
    ·exact h2 x hx
    ·rw [List.mem_singleton.1 hx]; exact hv
   by_cases h0:x4=0
   ·rw [az (by rw [h0]; rfl)]
    obtain⟨r5,x5,e5,g5,p9⟩:=DQ hB g4.v
    rw [e5,IC]
    unfold cn cm
    simp only
    rw [ar (by rw [Ir]; omega),aw (IF (by omega)),hi ⟨⟨x1,x2⟩,x3,x4==1,x5⟩]
    refine ih ⟨⟨x1,x2⟩,x3,x4==1,x5⟩ r5 ((((((h.trans g1).trans g2).trans g3).trans g4).trans g5).weak λhbd hq=>?_) (hall _ ⟨d1,p5,p6,p9⟩)
    refine⟨⟨⟨⟨⟨⟨λy hy=>hq y (List.mem_append_left _ hy),trivial⟩,trivial⟩,hq ⟨⟨x1,x2⟩,x3,x4==1,x5⟩ (by simp)⟩,trivial⟩,trivial⟩,?_⟩
    rw [h0]
    simp only [IJ,IA,List.map_nil,List.flatten_append,IP,List.flatten_nil,IL,veB,Iv,show ((0:Int)==1)=false from rfl,cond_false]
   ·rw [ar (by simpa using h0)]
    unfold cn cm
    by_cases h1:1<x4
    ·rw [az (IF h1),aw (IF (by omega)),hi ⟨⟨x1,x2⟩,x3,x4==1,ByteArray.empty⟩]
     exact ih ⟨⟨x1,x2⟩,x3,x4==1,ByteArray.empty⟩ _ (Rg.bad ⟨g4.v.1,g4.v.2⟩ rfl) (hall _ ⟨d1,p5,p6,IH _⟩)
    ·rw [ar (decide_eq_false h1),aw (IF (by omega)),hi ⟨⟨x1,x2⟩,x3,x4==1,ByteArray.empty⟩]
     refine ih ⟨⟨x1,x2⟩,x3,x4==1,ByteArray.empty⟩ r4 (((((h.trans g1).trans g2).trans g3).trans g4).weak λhbd hq=>?_) (hall _ ⟨d1,p5,p6,IH _⟩)
     refine⟨⟨⟨⟨⟨λy hy=>hq y (List.mem_append_left _ hy),trivial⟩,trivial⟩,hq ⟨⟨x1,x2⟩,x3,x4==1,ByteArray.empty⟩ (by simp)⟩,trivial⟩,?_⟩
     have h11:x4=1:=by omega
     rw [h11]
     simp only [IJ,IA,List.map_nil,List.flatten_append,IP,List.flatten_nil,IL,veB,Iv,show ((1:Int)==1)=true from rfl,cond_true]
theorem Ht{r:Rr}(h:Vr B r):∃r' x,df r=some (r',x)∧Rg B (VeF x.vers) r r' (reB x)∧Mg.VersOk x.vers:=by
 obtain⟨r1,s,e1,g1,p1⟩:=DQ hB h
 obtain⟨r2,n,e2,g2,p2,p3⟩:=BO hB g1.v
 unfold df
 rw [e1,IC]
 simp only
 rw [e2,IC]
 obtain⟨k,rfl⟩:∃k:Nat,n=(k:Int):=⟨n.toNat,by omega⟩
 have hB2:=hB
 rw [aB] at hB2
 obtain⟨Fu,hFu⟩:∃Fu,FU=Fu+k+1:=⟨FU - k - 1,by unfold FU; omega⟩
 obtain⟨r3,l,e3,g3,q1,q2,q3⟩:=Bx hB (n:=k) (by omega) (r0:=r2) (z:=r2) (y:=(r1,s)) k [] r2 Fu (by simp) (Rg.nil g2.v) (λx hx=>by cases hx)
 rw [hFu]
 refine⟨r3,⟨s,l⟩,e3,((g1.trans g2).trans g3).weak λhb hq=>⟨⟨⟨trivial,trivial⟩,hq⟩,?_⟩,(show l.length≤lim by omega),q3⟩
 unfold reB vesB
 simp only
 rw [q1 hb,Iv]
end
theorem Fp{b:List UInt8}(hb:b.length≤lim):(∃r,b=reB r∧Rt r∧Mg.VersOk r.vers∧cU b=some (r,0))∨cU b=some (⟨ByteArray.empty,[]⟩,2):=by
 unfold cU
 obtain⟨s1,r,e,h1,p1⟩:=Ht hb (r:=⟨b,0,false⟩) ⟨rfl,b,0,rfl,IH _,rfl⟩
 rw [e,IC]
 simp only
 rw [rr_r p1,dX,IC]
 cases hbd:s1.bad with
 | true=>exact .inr rfl
 | false=>
  by_cases hat:s1.at_=((b.length:Nat):Int)
  ·rw [show (s1.at_ != ((b.length:Nat):Int))=false by rw [bne_eq_false_iff_eq]; exact hat]
   cases hr:rrB r with
   | false=>exact .inr rfl
   | true=>
    left
    have hrc:=rr_c p1
    rw [hr] at hrc
    obtain⟨b',b1,b2⟩:=nV (r:=r) p1.1
    rw [hrc] at b1
    injection b1 with b1
    have hok:=b2 b1.symm
    obtain⟨rest,a1,a2⟩:=(h1.ok hbd).2 λv hv x hx=>((hok.vers v hv).past x hx).2.2.2.1
    have hl:=a2.len
    have hr0:rest = []:=List.eq_nil_of_length_eq_zero (by omega)
    subst hr0
    obtain⟨q,e1,e2,e3⟩:=a1
    have e1:(0:Int)=(q:Int):=e1
    have:q=0:=by omega
    subst this
    rw [List.drop_zero,IL] at e3
    exact⟨r,e3,⟨hrc,hok⟩,p1,rfl⟩
  ·rw [show (s1.at_ != ((b.length:Nat):Int))=true by rw [bne_iff_ne]; exact hat]
   exact .inr rfl
end Fw
end Go.Proofs.YtmafjpdiplfcmaaGreat
