/- What is handed in reads as data; what a law's contract gives its statement. No condition. -/
import Derived.Test.YtgaplodcdhhefaaGreatK10
import Derived.Test.YtgaplodcdhhefaaGreatRows
import Derived.Deep.Slices
import Derived.ChangeMaps5
import Derived.Carry
import Derived.ProofKit
import Derived.OpenShut
import Derived.JoinedCond
namespace Go.Proofs.YtgaplodcdhhefaaGreat
namespace Fw
set_option linter.unusedVariables false
set_option linter.unusedSimpArgs false
set_option linter.unusedSectionVars false
open Go.RowKit Go.ChangeShapes
theorem tx{H:Type}{d:DataW H}{l:List (DataW H)}(h:d∈l):Rows.uptoBulk d≤Rows.uptoBulkAll l:=by
 induction l with
 | nil=>cases h
 | cons x r ih=>
  simp only [Rows.uptoBulkAll]
  rcases List.mem_cons.1 h with e | e
  ·subst e; omega
  ·have:=ih e; omega
theorem rS{H:Type}(d:DataW H):1≤Rows.uptoBulk d:=by
 cases d with
 | lit l=>cases l <;> simp [Rows.uptoBulk]
 | _=>simp [Rows.uptoBulk]
theorem vg{H:Type}(l r:List (DataW H)):Rows.uptoBulkAll (l++r)=Rows.uptoBulkAll l+Rows.uptoBulkAll r:=by
 induction l with
 | nil=>simp [Rows.uptoBulkAll]
 | cons x l ih=>simp only [List.cons_append,Rows.uptoBulkAll,ih]; omega
theorem zX{H:Type}(l:List (DataW H)):l.length≤Rows.uptoBulkAll l:=by
 induction l with
 | nil=>simp [Rows.uptoBulkAll]
 | cons x r ih=>have:=rS x; simp only [Rows.uptoBulkAll,DY]; omega
def pF{α:Type}(P:Program)(e:TypeId)(T:Ty α)(m:α→Nat):Prop := ∀(H:Type) (enc:TypeId×Value→H) (w:World) (base:Nat) (spare:Nat→Bool) (held:Bool) (fuel:Nat) (cs:List Value) (x:DataW H×List MemPlace),
 DataW.trod enc P w base spare held fuel e cs=some x→w.noneFrozen x.2→Rows.uptoBulk x.1≤1048576→∃y,T.rd (Gh.all w) cs y∧m y≤Rows.uptoBulk x.1
theorem uY{w:World}{a:Addr}{v:Value}(h:w.cell? a=some v):∃cs t fz,w.heap[a.block]? = some (.cells cs t fz)∧cs[a.off]? = some v:=by
 unfold World.cell? at h
 split at h
 ·rename_i c t fz hc
  split at h
  ·cases h
  ·exact⟨c,t,fz,hc,h⟩
 ·cases h
theorem mj{H:Type}{w:World}{xs:List (DataW H×List MemPlace)}{y:DataW H×List MemPlace}(h:w.noneFrozen (xs.flatMap (·.2)))(hy:y∈xs):w.noneFrozen y.2:=
 λb off hm=>h b off (List.mem_flatMap.2 ⟨y,hy,hm⟩)
theorem CA{w:World}{b i:Nat}{cs:Array Value}{t:TypeId}{fz:Nat×Nat}(hb:w.heap[b]? = some (.cells cs t fz))(h:w.frozen? ⟨b,i,none⟩=false):nfz fz i:=by
 unfold World.frozen? at h
 simp only at h
 rw [hb] at h
 rintro⟨h1,h2⟩
 have:(decide (fz.1≤i)&&decide (i<fz.2))=false:=h
 simp [h1,h2] at this
section
variable {P:Program} {t e:TypeId} {α:Type} [Inhabited α] {T:Ty α} {m:α→Nat}
theorem lj(ht:P.underlying t=some (.int .i64)):pF P t intT dg:=by
 intro H enc w base spare held fuel cs x h _ _
 obtain⟨n,rfl,_,hw⟩:=DataW.trod_int ht h
 exact⟨n,⟨rfl,by simpa [Lit.wf,IntKind.min,IntKind.max,IntKind.signed,IntKind.bits,I64] using hw⟩,rS _⟩
theorem wh(ht:P.underlying t=some .bool):pF P t CU dg:=by
 intro H enc w base spare held fuel cs x h _ _
 obtain⟨b,rfl,_⟩:=DataW.trod_bool ht h
 exact⟨b,rfl,rS _⟩
theorem t8(ht:P.underlying t=some .string):pF P t strT rz:=by
 intro H enc w base spare held fuel cs x h hnf hb
 obtain⟨s,rfl,rfl,_⟩:=DataW.trod_string ht h
 simp only [Rows.uptoBulk] at hb
 have:s.data.toList.length=s.size:=rfl
 refine⟨s,⟨rfl,?_⟩,?_⟩
 ·rw [aK]; omega
 ·simp only [Rows.uptoBulk,rz]; omega
theorem mB(ht:P.underlying t=some (.slice e))(hc:P.cellsOf e=T.n)(he:pF P e T m):pF P t (slT T) (bkL m):=by
 intro H enc w base spare held fuel cs x h hnf hb
 rcases Deep.open_slice ht h with ⟨rfl,rfl⟩ | ⟨a,len,cap,mm,n,D,Pl,rfl,hbs,hl,hm,hmm,rfl,hx⟩
 ·exact⟨[],⟨none,0,rfl,E7 _,Sl.nil _ _ _⟩,E7 _⟩
 ·have hlm:len≤mm:=by rw [hmm]; split <;> omega
  have hel:Rows.uptoBulkAll ((List.range len).map D)≤1048576:=by simp only [Rows.uptoBulk] at hb; omega
  have hlen:len≤1048576:=by
   have:=zX ((List.range len).map D)
   simp at this; omega
  have hf:∀i,i<len→∃(cs:List Value) (y:α),(T.rd (Gh.all w) cs y∧m y≤Rows.uptoBulk (D i))∧w.cells? base (a.add (i*T.n)) T.n=some cs:=by
   intro i hi
   obtain⟨cs',h1,h2⟩:=hx i (by omega)
   obtain⟨y,hy⟩:=he H enc w base spare held n cs' _ h2 (λb off hm'=>hnf b off (List.mem_append.2 (.inr (List.mem_flatMap.2 ⟨i,List.mem_range.2 (by omega),hm'⟩)))) (by
    have:=tx (d:=D i) (l:=(List.range len).map D) (List.mem_map.2 ⟨i,List.mem_range.2 hi,rfl⟩)
    exact Nat.le_trans this hel)
   exact⟨cs',y,hy,by rw [← hc]; exact h1⟩
  let f:Nat→α:=λi=>if hi:i<len then Classical.choose (Classical.choose_spec (hf i hi)) else default
  have hfs:∀i,i<len→∃cs:List Value,(T.rd (Gh.all w) cs (f i)∧m (f i)≤Rows.uptoBulk (D i))∧w.cells? base (a.add (i*T.n)) T.n=some cs:=by
   intro i hi
   refine⟨Classical.choose (hf i hi),?_⟩
   simp only [f,hi,dif_pos]
   exact Classical.choose_spec (Classical.choose_spec (hf i hi))
  have hll:((List.range len).map f).length=len:=by simp
  refine⟨(List.range len).map f,⟨some a,cap,by rw [hll],by rw [hll]; exact hl,⟨by rw [hll,aK]; omega,λi hi=>?_⟩⟩,?_⟩
  rotate_left
  ·have key:∀k,k≤len→bkL m ((List.range k).map f)≤Rows.uptoBulkAll ((List.range k).map D):=by
    intro k
    induction k with
    | zero=>intro _; exact E7 _
    | succ k ih=>
     intro hk
     obtain⟨_,⟨_,h⟩,_⟩:=hfs k (by omega)
     have:=ih (by omega)
     rw [List.range_succ,E9,E9,vg]
     simp only [bkL,E9,E0,List.map_nil,List.sum_append,List.sum_cons,List.sum_nil,Rows.uptoBulkAll] at *
     omega
   have:=key len (E6 _)
   simp only [Rows.uptoBulk]; omega
  rw [hll] at hi
  obtain⟨cs',h1,h2⟩:=hfs i hi
  have hg:gt ((List.range len).map f) i=f i:=by rw [bA (by rw [hll]; exact hi)]; simp
  refine⟨cs',by rw [hg]; exact h1.1,λj v hj=>?_⟩
  obtain⟨_,hcl,hcell⟩:=World.cells?_some h2
  have hjl:j<cs'.length:=(List.getElem?_eq_some_iff.1 hj).1
  have hjn:j<T.n:=by rw [hcl] at hjl; exact hjl
  have hsp:a.spot=none:=by
   obtain⟨cs0,_,h20⟩:=hfs 0 (by omega)
   obtain⟨_,hcl0,hcell0⟩:=World.cells?_some h20
   have h0:=hcell0 0 T.pos
   rw [List.getElem?_eq_getElem (by rw [hcl0]; exact T.pos)] at h0
   have:=World.cell?_spot h0
   simpa [Addr.add] using this
  obtain⟨b,o,sp⟩:=a
  simp only at hsp
  subst hsp
  have h3:=hcell j hjn
  rw [hj,rb,cx] at h3
  obtain⟨cr,tr,fz,hr,hv⟩:=uY h3
  refine⟨b,o,cr,tr,fz,rfl,hr,hv,CA hr (hnf _ _ (List.mem_append.2 (.inl (List.mem_map.2 ⟨i*T.n+j,List.mem_range.2 ?_,by simp⟩))))⟩
  rw [hc]
  exact wy (by omega) hjn
end
theorem sN{H:Type}{enc:TypeId×Value→H}{P:Program}{f:Func}{s:ChangeSpec}{apart fW handsOn again:Bool}{W W':World}{args:Array Value}{v:Value}{ds gs:List (DataW H)}{before pa pv:List MemPlace}
  (hW:DataW.Whole enc P f.params.toList s.vars apart W args.toList ds gs before)
  (hres:∀(b:Nat) (sp:Nat→Bool) (hd:Bool),DataW.TrodAll enc P W' b sp hd f.resultTypes.toList (v.resultList f.resultTypes.size) (s.fn H (ds++gs)).results [])
  (hargs:∀sp:Nat→Bool,(∀p∈before,sp p.block=true)→DataW.TrodAll enc P W' 0 sp true f.params.toList args.toList (s.fn H (ds++gs)).args pa)
  (hvars:∀sp:Nat→Bool,(∀p∈before,sp p.block=true)→DataW.TrodVars enc P W' sp s.vars (s.fn H (ds++gs)).vars pv)
  (hps:before=pa++pv) (hb:Below W.heap.size W W')
  (hok:∀(j:Nat) (t:TypeId) (r:Value),f.resultTypes[j]? = some t→(v.resultList f.resultTypes.size)[j]? = some r→Value.okWide P W' .any 0 t r) :
  s.post enc P f apart fW handsOn again W args v W':=by
 have hlt:∀p∈before,p.block<W.heap.size:=λp hp=>hW.lt p hp
 have hold:∀p∈before,(λb=>decide (b<W.heap.size)) p.block=true:=λp hp=>by simpa using hlt p hp
 refine⟨ds,gs,before,[],pa,pv,hW,hres _ _ _,hargs _ hold,hvars _ hold,World.keptBut_mono (λp hp=>⟨hp,?_⟩) (hb.frame (·∈before)),λ_=>?_⟩
 ·rw [hps,List.mem_append] at hp
  exact Or.inr hp
 ·obtain⟨_,_,_,_,_,hz,hn⟩:=hW
  refine⟨hok,_,_,([]++pa)++pv,⟨[]++pa,pv,trodAll_append (hargs _ (λ_ _=>rfl)) (hres _ _ _),hvars _ (λ_ _=>rfl),rfl,?_,?_⟩,?_⟩
  ·intro b off hp
   have hm:MemPlace.cell b off∈before:=by rw [hps]; simpa using hp
   rw [hb.frozen (hlt _ hm)]
   exact hz b off hm
  ·intro ha
   have:=hn ha
   rw [hps] at this
   simpa using this
  ·intro p hp _
   rw [hps]
   simpa using hp
theorem nO{H:Type}{enc:TypeId×Value→H}{P:Program}(hl:laidOutB P=true){W W':World}(hb:Below W.heap.size W W'):∀{ts:List TypeId} {vs:List Value} {ds:List (DataW H)} {ps:List MemPlace},
  ts.all (λt=>P.readableRec t&&decide (t<P.types.size))=true→DataW.TrodAll enc P W 0 (λ_=>true) true ts vs ds ps→(∀x∈ps,x.block<W.heap.size)→∀sp:Nat→Bool,(∀p∈ps,sp p.block=true)→DataW.TrodAll enc P W' 0 sp true ts vs ds ps
 | [],[],[],ps,_,h,_,_,_=>h
 | [],[],_::_,_,_,h,_,_,_=>h.elim
 | [],_::_,_,_,_,h,_,_,_=>h.elim
 | _::_,[],_,_,_,h,_,_,_=>h.elim
 | _::_,_::_,[],_,_,h,_,_,_=>h.elim
 | t::ts,v::vs,d::ds,ps,hr,⟨p,q,h1,h2,he⟩,hlt,sp,hsp=>by
  subst he
  simp only [List.all_cons,DW,DQ] at hr
  refine⟨p,q,WideElems.Trod_stays hl hr.1.1 hr.1.2 h1 (λx hx=>hb.same (hlt x (List.mem_append.2 (.inl hx)))) (λx hx=>hsp x (List.mem_append.2 (.inl hx))),
   nO hl hb hr.2 h2 (λx hx=>hlt x (List.mem_append.2 (.inr hx))) sp (λx hx=>hsp x (List.mem_append.2 (.inr hx))),rfl⟩
end Fw
end Go.Proofs.YtgaplodcdhhefaaGreat
