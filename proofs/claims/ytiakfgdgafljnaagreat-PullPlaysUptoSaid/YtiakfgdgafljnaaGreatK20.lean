/- Blocks of maps that may be nil; maps to blocks that hold a number which is made once. No condition. -/
import Derived.Test.YtiakfgdgafljnaaGreatK17
import Derived.Test.YtiakfgdgafljnaaGreatK19
import Derived.Laws.Cover3
namespace Go.Proofs.YtiakfgdgafljnaaGreat
namespace Fw
set_option linter.unusedVariables false
set_option linter.unusedSimpArgs false
set_option linter.unusedSectionVars false
open Go.RowKit Go.MapKept
def cgt(cs:List Value)(i:Nat):Value:=cs.getD i undef
theorem cgt_eq{cs:List Value}{i:Nat}(h:i<cs.length):cs[i]? = some (cgt cs i):=by simp [cgt,List.getD,List.getElem?_eq_getElem h]
theorem set_cgt{cs:List Value}{i:Nat}{v:Value}(h:cgt cs i=v):cs.set i v=cs:=by
  apply List.ext_getElem?
  intro j
  rw [List.getElem?_set]
  split
  · rename_i e; subst e
    split
    · rename_i hl; rw [cgt_eq hl,h]
    · rename_i hl; rw [List.getElem?_eq_none (by omega)]
  · rfl
theorem blk_at{cs:List Value}{u:Value}{i:Nat}(h:i<cs.length):(cs++[u]).toArray[i]? = some (cgt cs i):=by
  rw [List.getElem?_toArray,List.getElem?_append_left h,cgt_eq h]
theorem blk_end{cs:List Value}{u:Value}{n:Nat}(h:cs.length=n):(cs++[u]).toArray[n]? = some u:=by
  subst h
  rw [List.getElem?_toArray,List.getElem?_append_right (Nat.le_refl _),Nat.sub_self]; rfl
section
variable {P:Program} {k:TypeId} {κ α:Type} [DecidableEq κ]
/-- a map that may be nil -/
def OMap(K:KeyT P k κ)(V:Tv α)(Γ:Gh)(c:Value)(r:Rowb):Option (List (κ×α))→Prop
  | none=>c = .map none∧r = []
  | some es => ∃m,c = .map (some m)∧MapO K V Γ r m es
theorem OMap.mono{K:KeyT P k κ}{V:Tv α}{Γ Δ:Gh}{c:Value}{r:Rowb}:∀{o:Option (List (κ×α))},OMap K V Γ c r o→Γ.le Δ→OMap K V Δ c r o
  | none,h,_=>h
  | some _,⟨m,h1,h2⟩,hs=>⟨m,h1,h2.mono hs⟩
structure MapsA (K:KeyT P k κ) (V:Tv α) (Γ:Gh) (cs:List Value) (row:Rowb) (xs:List (Option (List (κ×α)))):Prop where
  is:∃rs:List Rowb,row=rs.flatten∧cs.length=xs.length∧rs.length=xs.length∧∀i (h:i<xs.length),OMap K V Γ (cgt cs i) (rs.getD i []) (gt xs i)
variable {K:KeyT P k κ} {V:Tv α} {Γ Δ:Gh} {cs:List Value} {row:Rowb} {xs:List (Option (List (κ×α)))}
theorem MapsA.mono(h:MapsA K V Γ cs row xs)(hs:Γ.le Δ):MapsA K V Δ cs row xs:=by
  obtain⟨rs,h1,h2,h3,h4⟩:=h.is
  exact⟨⟨rs,h1,h2,h3,λi hi=>(h4 i hi).mono hs⟩⟩
theorem MapsA.len(h:MapsA K V Γ cs row xs):cs.length=xs.length:=by obtain⟨rs,h1,h2,h3,h4⟩:=h.is; exact h2
theorem MapsA.nils(K:KeyT P k κ)(V:Tv α)(Γ:Gh)(n:Nat):MapsA K V Γ (List.replicate n (.map none)) [] (List.replicate n (none:Option (List (κ×α)))):=
  ⟨⟨List.replicate n [],by simp,by simp,by simp,λi hi=>by
    have hi':i<n:=by simpa using hi
    have h1:gt (List.replicate n (none:Option (List (κ×α)))) i=none:=by rw [gt_eq hi]; simp
    rw [h1]
    refine⟨?_,?_⟩
    · simp [cgt,List.getD,hi']
    · simp [List.getD,hi']⟩⟩
theorem MapsA.at_(h:MapsA K V Γ cs row xs){i:Nat}(hi:i<xs.length):∃rA r rB,row=rA++(r++rB)∧OMap K V Γ (cgt cs i) r (gt xs i) ∧
    ∀Δ c' r' x',Γ.le Δ→OMap K V Δ c' r' x'→MapsA K V Δ (cs.set i c') (rA++(r'++rB)) (xs.set i x'):=by
  obtain⟨rs,h1,h2,h3,h4⟩:=h.is
  have hir:i<rs.length:=by omega
  have hsplit:rs=rs.take i++rs.getD i []::rs.drop (i+1):=by
    have:rs.getD i []=rs[i]:=by simp [List.getD,List.getElem?_eq_getElem hir]
    rw [this, ← List.drop_eq_getElem_cons hir,List.take_append_drop]
  refine⟨(rs.take i).flatten,rs.getD i [],(rs.drop (i+1)).flatten,?_,h4 i hi,λΔ c' r' x' hs ho=>⟨⟨rs.set i r',?_,by simpa using h2,by simpa using h3,λj hj=>?_⟩⟩⟩
  · rw [h1]
    conv=>lhs; rw [hsplit]
    simp
  · rw [show rs.set i r'=rs.take i++r'::rs.drop (i+1) from List.set_eq_take_append_cons_drop.trans (by rw [if_pos hir])]
    simp
  · have hj':j<xs.length:=by simpa using hj
    by_cases e:i=j
    · subst e
      have e1:gt (xs.set i x') i=x':=by rw [gt_eq hj]; simp
      have e2:cgt (cs.set i c') i=c':=by simp [cgt,List.getD,show i<cs.length by omega]
      have e3:(rs.set i r').getD i []=r':=by simp [List.getD,hir]
      rw [e1,e2,e3]; exact ho
    · have e1:gt (xs.set i x') j=gt xs j:=by rw [gt_eq hj,gt_eq hj',List.getElem_set_ne e]
      have e2:cgt (cs.set i c') j=cgt cs j:=by simp [cgt,List.getD,List.getElem?_set_ne e]
      have e3:(rs.set i r').getD j []=rs.getD j []:=by simp [List.getD,List.getElem?_set_ne e]
      rw [e1,e2,e3]; exact(h4 j hj').mono hs
/-! ### numbers that are made once, behind a map's pointers -/
def refV:Tv Nat:=⟨λ_ v g=>v = .pointer (some ⟨g,0,none⟩),λh _=>h⟩
def sumO(t:TypeId)(g:Nat)(h:Int):Nat×Obj:=(g,.cells #[.int .u32 1,.int .i32 0,.int .u32 0,.int .u64 h] t (0,0))
structure Sums (KS:KeyT P k κ) (ty:TypeId) (lent:List (κ×Nat)) (Γ:Gh) (row:Rowb) (sm:Nat) (es:List (κ×Int)):Prop where
  is:∃(own:List (κ×Nat)) (rowM:Rowb),own.map (·.1)=es.map (·.1)∧MapO KS refV Γ rowM sm (lent++own)∧row=rowM++List.zipWith (λa b=>sumO ty a.2 b.2) own es
  ok:∀p∈es,U64 p.2
variable {KS:KeyT P k κ} {ty:TypeId} {lent:List (κ×Nat)} {sm:Nat} {es:List (κ×Int)}
theorem Sums.mono(h:Sums KS ty lent Γ row sm es)(hs:Γ.le Δ):Sums KS ty lent Δ row sm es:=by
  obtain⟨own,rowM,h1,h2,h3⟩:=h.is
  exact⟨⟨own,rowM,h1,h2.mono hs,h3⟩,h.ok⟩
theorem Sums.new(h:MapO KS refV Γ row sm []):Sums KS ty [] Γ row sm []:=⟨⟨[],row,rfl,h,by simp⟩,by simp⟩
theorem mdel_zip{f:Nat→Int→Nat×Obj}(x:κ):∀{own:List (κ×Nat)} {es:List (κ×Int)},own.map (·.1)=es.map (·.1)→(mdel x own).map (·.1)=(mdel x es).map (·.1)∧(List.zipWith (λa b=>f a.2 b.2) (mdel x own) (mdel x es)).Sublist (List.zipWith (λa b=>f a.2 b.2) own es)
  | [],[],_=>⟨rfl,List.Sublist.refl _⟩
  | [],_::_,h=>by simp at h
  | _::_,[],h=>by simp at h
  | a::own,b::es,h=>by
    simp only [List.map_cons,List.cons.injEq] at h
    obtain⟨h1,h2⟩:=mdel_zip (f:=f) x h.2
    unfold mdel
    rw [← h.1]
    by_cases e:x=a.1
    · simp only [e,if_true,List.zipWith_cons_cons]
      exact⟨h.2,List.sublist_cons_self _ _⟩
    · simp only [e,if_false,List.zipWith_cons_cons,List.map_cons]
      exact⟨by rw [h.1,h1],List.Sublist.cons_cons _ h2⟩
end
section
variable {P:Program} {N:Nat} {Q:Exit→Env→World→Prop} {σ:Env} {o:Oper} {F:Fm} {Γ Δ:Gh} {L:List Rowb} {ops:Array Oper} {rest:List Oper} {C C':World→Prop} {row row':Rowb} {w:World}
theorem Cur.shrink0(h:Cur F Γ (row::L) w)(hs:row'.Sublist row):Cur F Γ (row'::L) w:=by
  refine⟨h.fr,h.sat,h.le,h.gnew,λr hr p hp=>?_,λr hr p hp=>?_,λr hr p hp=>?_,?_⟩
  · rcases List.mem_cons.1 hr with rfl | hr
    · exact h.loc row List.mem_cons_self p (hs.subset hp)
    · exact h.loc r (List.mem_cons_of_mem _ hr) p hp
  · rcases List.mem_cons.1 hr with rfl | hr
    · exact h.sep row List.mem_cons_self p (hs.subset hp)
    · exact h.sep r (List.mem_cons_of_mem _ hr) p hp
  · rcases List.mem_cons.1 hr with rfl | hr
    · exact h.out row List.mem_cons_self p (hs.subset hp)
    · exact h.out r (List.mem_cons_of_mem _ hr) p hp
  · exact h.nodup.sublist (List.Sublist.map _ (by simp only [List.flatten_cons]; exact List.Sublist.append hs (List.Sublist.refl _)))
theorem set_perm{β:Type}{L:List β}{i:Nat}{x:β}(h:i<L.length):(L.set i x).Perm (x::L.eraseIdx i):=by
  rw [show L.set i x=L.take i++x::L.drop (i+1) from List.set_eq_take_append_cons_drop.trans (by rw [if_pos h]),List.eraseIdx_eq_take_drop_succ]
  exact List.perm_middle
/-- delete from a map of numbers that are made once -/
theorem e_sdelete{ks e t ty2 ty:TypeId}{κ:Type}[DecidableEq κ]{KS:KeyT P ks κ}{mo xo:Operand}{i sm:Nat}{x:κ}{es:List (κ×Int)}(hi:L[i]? = some row)(hs:Sums KS ty [] Γ row sm es)(hg:o.guard=none)(hd:okDst N o.dst=true)(ho:o.op = .call { callee:=.builtin .delete,args:=#[mo,xo],argTypes:=#[t,ty2] })(ht:P.underlying t=some (.map ks e))
    (hm:ev σ mo = .map (some sm)) (hx:ev σ xo=KS.val x)
    (k':∀row',Sums KS ty [] Γ row' sm (mdel x es)→WR P N ops (CC F Γ (L.set i row')) Q rest (updo σ o.dst (.tuple #[]))):WR P N ops (CC F Γ L) Q (o::rest) σ:=by
  obtain⟨own,rowM,h1,h2,h3⟩:=hs.is
  have hil:i<L.length:=(List.getElem?_eq_some_iff.1 hi).1
  have h0:WR P N ops (CC F Γ ([rowM,List.zipWith (λa b=>sumO ty a.2 b.2) own es]++L.eraseIdx i)) Q (o::rest) σ:=by
    refine e_delete (i:=0) (row:=rowM) (x:=x) rfl h2 hg hd ho ht hm hx λrow1 h4=>?_
    obtain⟨h5,h6⟩:=mdel_zip (f:=λa b=>sumO ty a b) x h1
    have h7:=k' (row1++List.zipWith (λa b=>sumO ty a.2 b.2) (mdel x own) (mdel x es)) ⟨⟨mdel x own,row1,h5,by simpa using h4,rfl⟩,λp hp=>hs.ok p (mdel_sub.subset hp)⟩
    intro w hw
    refine h7 w ?_
    have h8:Cur F Γ (row1::List.zipWith (λa b=>sumO ty a.2 b.2) own es::L.eraseIdx i) w:=hw
    have h9:Cur F Γ (List.zipWith (λa b=>sumO ty a.2 b.2) (mdel x own) (mdel x es)::row1::L.eraseIdx i) w:=(h8.permL (List.Perm.swap _ _ _)).shrink0 h6
    have h9':Cur F Γ ([row1,List.zipWith (λa b=>sumO ty a.2 b.2) (mdel x own) (mdel x es)]++L.eraseIdx i) w:=h9.permL (List.Perm.swap _ _ _)
    have h10:=Cur.glue h9'
    simp only [List.flatten_cons,List.flatten_nil,List.append_nil] at h10
    exact h10.permL (set_perm hil)
  exact λw hw=>h0 w (hw.unfold hi (by rw [h3]; simp))
/-! ### places that are not known by a number -/
theorem q_ixd{x y:Operand}{t e:TypeId}{g j n sz:Nat}{k:IntKind}{i:Nat}(ht:P.underlying t=some (.array n e))(hsz:∀w,(sizeOf e).run P w = .ok sz w)(ho:o.op = .indexAddr t x y)
    (hx:ev σ x = .pointer (some ⟨g,j,none⟩)) (hy:ev σ y = .int k ((i:Nat):Int)) (hi:i<n):QV P C σ o (.pointer (some ⟨g,j+i*sz,none⟩)):=
  λw _=>by
    simp [execOp,ho,hx,hy,Instr.indexAt,Instr.sureAddr,asIntOf,run_underlying ht,hsz,hi,addr_add,Sem.run_pure,Sem.run_bind]
theorem q_ldA{x:Operand}{t e:TypeId}{i g j:Nat}{cs:List Value}{u:Value}(hi:L[i]? = some [(g,.cells (cs++[u]).toArray e (0,0))])(hj:j<cs.length)(ho:o.op = .load t x)(ht:∀w,(isAgg t).run P w = .ok false w)(hx:ev σ x = .pointer (some ⟨g,j,none⟩)):QV P (CC F Γ L) σ o (cgt cs j):=
  q_ldl hi ho ht hx (blk_at hj)
theorem q_ldAe{x:Operand}{t e:TypeId}{i g n:Nat}{cs:List Value}{u:Value}(hi:L[i]? = some [(g,.cells (cs++[u]).toArray e (0,0))])(hn:cs.length=n)(ho:o.op = .load t x)(ht:∀w,(isAgg t).run P w = .ok false w)(hx:ev σ x = .pointer (some ⟨g,n,none⟩)):QV P (CC F Γ L) σ o u:=
  q_ldl hi ho ht hx (blk_end hn)
/-- so many cells at once, out of a block within a row -/
theorem q_ldAs{x:Operand}{t e:TypeId}{i g j n:Nat}{cs:List Value}{u:Value}(hi:L[i]? = some row)(hr:(g,Obj.cells (cs++[u]).toArray e (0,0))∈row)(hj:j+n≤cs.length)(ho:o.op = .load t x)(ht:∀w,(isAgg t).run P w = .ok true w)(hz:∀w,(sizeOf t).run P w = .ok n w)(hx:ev σ x = .pointer (some ⟨g,j,none⟩)):QV P (CC F Γ L) σ o (.agg ((cs.drop j).take n).toArray):=
  λw hw=>by
    have hb:=hw.at_ hi hr
    have hl:((cs.drop j).take n).length=n:=by rw [List.length_take,List.length_drop]; omega
    simp only [execOp,ho,hx,Sem.run_bind]
    rw [run_loadAt_cells (vs:=(cs.drop j).take n) ht (by intro w; rw [hl]; exact hz w)]
    · rfl
    · intro q v hq
      rw [addr_add,cell_of_row w g _ _ _ _ hb,List.getElem?_toArray]
      have hq':q<n:=by have:=(List.getElem?_eq_some_iff.1 hq).1; omega
      rw [List.getElem?_append_left (by omega), ← hq,List.getElem?_take,if_pos hq',List.getElem?_drop]
/-- one of the cells of an array -/
theorem q_ixv{x y:Operand}{t e:TypeId}{j n i:Nat}{cs:List Value}{k:IntKind}(ht:P.underlying t=some (.array n e))(ha:∀w,(isAgg e).run P w = .ok false w)(hsz:∀w,(sizeOf e).run P w = .ok 1 w)(hj:j+n≤cs.length)(ho:o.op = .index t x y)(hx:ev σ x = .agg ((cs.drop j).take n).toArray)(hy:ev σ y = .int k ((i:Nat):Int))(hi:i<n):QV P C σ o (cgt cs (j+i*1)):=
  λw _=>by
    have h1:(((cs.drop j).take n).toArray)[i]? = some (cgt cs (j+i)):=by
      rw [List.getElem?_toArray,List.getElem?_take,if_pos hi,List.getElem?_drop,cgt_eq (by omega)]
    simp [execOp,ho,hx,hy,Instr.index,asIntOf,run_underlying ht,hsz,ha,hi,part,cgt_eq (show j+i<cs.length by omega),Sem.run_pure,Sem.run_bind]
theorem q_omap_nil{t ty k e kk:TypeId}{κ α:Type}[DecidableEq κ]{K:KeyT P kk κ}{V:Tv α}{x y:Operand}{c:Value}{r:Rowb}{m:Option (List (κ×α))}(h:OMap K V Γ c r m)(ht:P.underlying t=some (.map k e))(ho:o.op = .binOp .eql t x y ty)(hx:ev σ x=c)(hy:ev σ y = .map none):QV P C σ o (.bool m.isNone):=
  λw _=>by
    have key:∀a:Option Nat,ev σ x = .map a→(execOp (ev σ) o).run P w = .ok (.value (.bool a.isNone)) w:=λa ha=>by
      have h1:eqGuard .eql t x y (.map a) (.map none)=pure ():=rfl
      have h2:binOp .eql t (.map a) (.map none)=(Op.equal t (.map a) (.map none) >>= λr=>pure (.bool r)):=rfl
      simp [execOp,ho,ha,hy,h1,h2,run_equal_map_nil w t k e a ht,Sem.run_pure,Sem.run_bind]
    cases m with
    | none=>obtain⟨rfl,-⟩:=h; exact key none hx
    | some es=>obtain⟨g,rfl,-⟩:=h; exact key (some g) hx
theorem e_stA{t e:TypeId}{ad x:Operand}{i g j:Nat}{cs:List Value}{u v:Value}(hi:L[i]? = some [(g,.cells (cs++[u]).toArray e (0,0))])(hj:j<cs.length)(hz:∀w,(sizeOf t).run P w = .ok 1 w)(hg:o.guard=none)(hdst:o.dst=none)(ho:o.op = .store t ad x)(ha:ev σ ad = .pointer (some ⟨g,j,none⟩))(hx:ev σ x=v)(h1:v.cells = #[v])(h2:v.oneCell'=true)
    (k:WR P N ops (CC F Γ (L.set i [(g,.cells (cs.set j v++[u]).toArray e (0,0))])) Q rest σ):WR P N ops (CC F Γ L) Q (o::rest) σ:=by
  refine WR.eff hg (by rw [hdst]; rfl) λw hw=>?_
  have hb:=hw.at_ hi (p:=(g,.cells (cs++[u]).toArray e (0,0))) (by simp)
  have hs:=run_storeCells_at P g j e [v] 0 (cs++[u]).toArray w hb (by simp; omega) (by simpa using h2)
  have hset:((cs++[u]).take j++[v]++(cs++[u]).drop (j+1))=cs.set j v++[u]:=by
    rw [show cs.set j v=cs.take j++v::cs.drop (j+1) from List.set_eq_take_append_cons_drop.trans (by rw [if_pos hj])]
    rw [List.take_append_of_le_length (by omega),List.drop_append_of_le_length (by omega)]
    simp
  simp only [Nat.add_zero,List.length_cons,List.length_nil,Nat.zero_add,hset] at hs
  refine⟨undef,w.setRow g (cs.set j v++[u]).toArray,.inr ⟨?_,rfl⟩,?_⟩
  rotate_left 1
  · rw [hdst]; exact k _ (hw.setRow hi)
  · simp [execOp,ho,ha,hx,Instr.storeAt,Instr.sureAddr,storeVar,hz,h1,hs,Sem.run_pure,Sem.run_bind]
end
section
variable {P:Program} {N:Nat} {Q:Exit→Env→World→Prop} {σ:Env} {o:Oper} {F:Fm} {Γ Δ:Gh} {L:List Rowb} {ops:Array Oper} {rest:List Oper} {row row':Rowb} {w:World} {k e ty:TypeId} {κ α:Type} [DecidableEq κ] {K:KeyT P k κ} {V:Tv α} {KS:KeyT P k κ} {g sm:Nat}
theorem MapO.look2{es:List (κ×α)}(h:MapO K V Γ row g es)(x:κ)(z:Value):(∃v a,mget x es=some a∧V.rv Γ v a∧MAt K row g x z v true)∨(mget x es=none∧MAt K row g x z z false):=by
  obtain⟨es',hp,hm⟩:=h
  rw [← mget_perm hp hm.nodup x]
  obtain⟨arr,clock,ps,h1,h2,h3⟩:=hm.is
  rcases mrd_fnd (x:=x) 0 h3 with ⟨g1,g2⟩ | ⟨j,v,a,g1,g2,g3,q,g4,g5⟩
  · exact .inr ⟨g2,arr,clock,ps,h1,h2,.inl ⟨g1,rfl,rfl⟩⟩
  · exact .inl ⟨v,a,g2,g3,arr,clock,ps,h1,h2,.inr ⟨_,g1,rfl⟩⟩
theorem q_lookup1r{t:TypeId}{mo xo:Operand}{x:κ}{z v:Value}{b:Bool}(hb:∀w,Cur F Γ L w→∀p∈row,w.heap[p.1]? = some p.2)(hat:MAt K row g x z v b)(ho:o.op = .lookup t mo xo false)(ht:P.underlying t=some (.map k e))(hz:∀w,(zeroValue e).run P w = .ok z w)
    (hm:ev σ mo = .map (some g)) (hx:ev σ xo=K.val x):QV P (CC F Γ L) σ o v:=
  λw hw=>by
    have:=run_lookup (ok:=false) ht hz hat (hb w hw)
    simp only [execOp,ho,hm,hx,Sem.run_bind,this,Bool.false_eq_true,if_false,Result.andThen_ok,Sem.run_pure]
theorem mget_app{x:κ}:∀{l l':List (κ×α)},(∀p∈l,p.1≠x)→mget x (l++l')=mget x l'
  | [],_,_=>rfl
  | p::l,l',h=>by
    show (if x=p.1 then some p.2 else mget x (l++l'))=_
    rw [if_neg (λe=>h p List.mem_cons_self e.symm)]
    exact mget_app (λq hq=>h q (List.mem_cons_of_mem _ hq))
theorem own_get{f:Nat→Int→Nat×Obj}{x:κ}:∀{own:List (κ×Nat)} {es:List (κ×Int)},own.map (·.1)=es.map (·.1) →
    (∃gs hv,mget x own=some gs∧mget x es=some hv∧(x,hv)∈es∧f gs hv∈List.zipWith (λa b=>f a.2 b.2) own es)∨(mget x own=none∧mget x es=none)
  | [],[],_=>.inr ⟨rfl,rfl⟩
  | [],_::_,h=>by simp at h
  | _::_,[],h=>by simp at h
  | a::own,b::es,h=>by
    simp only [List.map_cons,List.cons.injEq] at h
    by_cases he:x=a.1
    · have he2:x=b.1:=he.trans h.1
      refine .inl ⟨a.2,b.2,by simp [mget,he],by simp [mget,he2],?_,by simp⟩
      subst he2; exact List.mem_cons_self
    · have he2:x≠b.1:=λe=>he (e.trans h.1.symm)
      rcases own_get (f:=f) (x:=x) h.2 with ⟨gs,hv,h1,h2,h3,h4⟩ | ⟨h1,h2⟩
      · exact .inl ⟨gs,hv,by simp [mget,he,h1],by simp [mget,he2,h2],List.mem_cons_of_mem _ h3,by simp [h4]⟩
      · exact .inr ⟨by simp [mget,he,h1],by simp [mget,he2,h2]⟩
theorem Sums.look{lent:List (κ×Nat)}{es:List (κ×Int)}(hs:Sums KS ty lent Γ row sm es){x:κ}(hx:∀p∈lent,p.1≠x)(z:Value):
    (∃hv gs rowM B,mget x es=some hv∧U64 hv∧row=rowM++B∧sumO ty gs hv∈row∧MAt KS rowM sm x z (.pointer (some ⟨gs,0,none⟩)) true) ∨
    (mget x es=none∧∃own rowM,own.map (·.1)=es.map (·.1)∧MapO KS refV Γ rowM sm (lent++own)∧mget x (lent++own)=none∧row=rowM++List.zipWith (λa b=>sumO ty a.2 b.2) own es∧MAt KS rowM sm x z z false):=by
  obtain⟨own,rowM,h1,h2,h3⟩:=hs.is
  have hm:=mget_app (l':=own) hx
  rcases own_get (f:=sumO ty) (x:=x) h1 with ⟨gs,hv,h4,h5,h6,h7⟩ | ⟨h4,h5⟩
  · rcases h2.look2 x z with ⟨v,a,h8,h9,h10⟩ | ⟨h8,h9⟩
    · rw [hm,h4] at h8
      injection h8 with h8
      subst h8
      have h9':v = .pointer (some ⟨gs,0,none⟩):=h9
      subst h9'
      exact .inl ⟨hv,gs,rowM,_,h5,hs.ok _ h6,h3,by rw [h3]; exact List.mem_append_right _ h7,h10⟩
    · rw [hm,h4] at h8; cases h8
  · rcases h2.look2 x z with ⟨v,a,h8,h9,h10⟩ | ⟨h8,h9⟩
    · rw [hm,h4] at h8; cases h8
    · exact .inr ⟨h5,own,rowM,h1,h2,h8,h3,h9⟩
theorem Sums.lend{lent:List (κ×Nat)}{own:List (κ×Nat)}{es:List (κ×Int)}{rowM:Rowb}{x:κ}{gs:Nat}(h1:own.map (·.1)=es.map (·.1))(hm:MapO KS refV Γ rowM sm (mput x gs (lent++own)))(hn:mget x (lent++own)=none)(hok:∀p∈es,U64 p.2):
    Sums KS ty ((x,gs)::lent) Γ (rowM++List.zipWith (λa b=>sumO ty a.2 b.2) own es) sm es:=
  ⟨⟨own,rowM,h1,by rw [mput_new hn] at hm; exact hm.perm List.perm_append_comm,rfl⟩,hok⟩
theorem Sums.back{lent:List (κ×Nat)}{es:List (κ×Int)}{x:κ}{gs:Nat}{hv:Int}(hs:Sums KS ty ((x,gs)::lent) Γ row sm es)(hv64:U64 hv):Sums KS ty lent Γ (row++[sumO ty gs hv]) sm (es++[(x,hv)]):=by
  obtain⟨own,rowM,h1,h2,h3⟩:=hs.is
  have hl:own.length=es.length:=by have:=congrArg List.length h1; simpa using this
  refine⟨⟨own++[(x,gs)],rowM,by simp [h1],h2.perm ?_,?_⟩,λp hp=>?_⟩
  · show ((x,gs)::(lent++own)).Perm (lent++(own++[(x,gs)]))
    rw [← List.append_assoc]
    exact(List.perm_append_comm (l₁:=[(x,gs)]) (l₂:=lent++own))
  · rw [h3,List.zipWith_append hl]; simp
  · rcases List.mem_append.1 hp with h | h
    · exact hs.ok p h
    · rw [List.mem_singleton.1 h]; exact hv64
theorem setCell_row{cs:Array Value}{t:TypeId}{fz:Nat×Nat}{j:Nat}{v:Value}(hb:w.heap[g]? = some (.cells cs t fz)):w.setCell ⟨g,j,none⟩ v=w.setRow g (cs.setIfInBounds j v):=by
  unfold World.setCell World.setRow
  have hlt:g<w.heap.size:=heap_lt hb
  have hv:w.heap[g] = .cells cs t fz:=(Array.getElem?_eq_some_iff.1 hb).2
  congr 1
  apply Array.ext
  · simp
  · intro q h1 h2
    simp only [Array.getElem_modify]
    split
    · rename_i hq; subst hq; rw [hv]; rfl
    · rfl
theorem Cur.setCell(h:Cur F Γ L w){i j:Nat}{cs new:Array Value}{t:TypeId}{v:Value}(hi:L[i]? = some [(g,.cells cs t (0,0))])(hn:cs.setIfInBounds j v=new):Cur F Γ (L.set i [(g,.cells new t (0,0))]) (w.setCell ⟨g,j,none⟩ v):=by
  subst hn
  rw [setCell_row (h.at_ hi (p:=(g,.cells cs t (0,0))) (by simp))]
  exact h.setRow hi
theorem Cur.drew(h:Cur F Γ L w):Cur F Γ L w.drew:=h.drawn 1
end
theorem leaf_lt{p q:Nat}(hp:p<16)(hq:q<16):0+p*16+q*1<256:=by omega
theorem leaf_le{p:Nat}(hp:p<16):0+p*16+16≤256:=by omega
end Fw
end Go.Proofs.YtiakfgdgafljnaaGreat
