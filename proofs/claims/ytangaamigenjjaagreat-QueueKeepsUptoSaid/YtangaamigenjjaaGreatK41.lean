/- A map's keys in order, where they are numbers. No condition. -/
import Derived.Test.YtangaamigenjjaaGreatK15
import Derived.Lib.SlKeysI
import Derived.Shelf.SlIterI.Sorted
import Derived.Shelf.SlIterI.Collect
import Derived.Shelf.SlIterI.Nil
namespace Go.Proofs.YtangaamigenjjaaGreat
namespace Fw
set_option linter.unusedVariables false
set_option linter.unusedSimpArgs false
set_option linter.unusedSectionVars false
open Go.RowKit Go.MapKept Go.Shelf Go.Maps Go.Sort Go.WideElems
def insI(x:Int):List Int→List Int
 | []=>[x]
 | y::l=>bif decide (x≤y) then x::y::l else y::insI x l
def srtI:List Int→List Int
 | []=>[]
 | x::l=>insI x (srtI l)
theorem pD(x:Int):∀l,(insI x l).Perm (x::l)
 | []=>List.Perm.refl _
 | y::l=>by
  unfold insI
  cases decide (x≤y) with
  | true=>exact List.Perm.refl _
  | false=>exact((pD x l).cons y).trans (List.Perm.swap x y l)
theorem sj:∀l,(srtI l).Perm l
 | []=>List.Perm.refl _
 | x::l=>(pD x (srtI l)).trans ((sj l).cons x)
theorem tY(x:Int):∀l:List Int,l.Pairwise (·≤·)→(insI x l).Pairwise (·≤·)
 | [],_=>by simp [insI]
 | y::l,h=>by
  rw [List.pairwise_cons] at h
  unfold insI
  cases hc:decide (x≤y) with
  | true=>
   have hc:=Cl hc
   refine List.pairwise_cons.2 ⟨λz hz=>?_,List.pairwise_cons.2 h⟩
   rcases List.mem_cons.1 hz with e | hz
   ·rw [e]; exact hc
   ·exact Int.le_trans hc (h.1 z hz)
  | false=>
   have hc:=of_decide_eq_false hc
   refine List.pairwise_cons.2 ⟨λz hz=>?_,tY x l h.2⟩
   rcases List.mem_cons.1 ((pD x l).mem_iff.1 hz) with e | hz
   ·rw [e]; omega
   ·exact h.1 z hz
theorem tM:∀l:List Int,(srtI l).Pairwise (·≤·)
 | []=>List.Pairwise.nil
 | x::l=>tY x _ (tM l)
theorem zI(l:List Int):srtI l=l.mergeSort (λx y=>decide (x≤y)):=by
 have h:(srtI l).mergeSort (λx y=>decide (x≤y))=l.mergeSort (λx y=>decide (x≤y)):=mergeSort_of_perm_i (sj l)
 rw [← h,List.mergeSort_of_pairwise]
 exact(tM l).imp λh=>CB h
def iN{β:Type}(es:List (Int×β)):List Int:=srtI (es.map (λp=>p.1))
theorem rg{β:Type}(es:List (Int×β)):iN es=(es.map (λp=>p.1)).mergeSort (λx y=>decide (x≤y)):=by unfold iN; rw [zI]
theorem rU{β:Type}(es:List (Int×β)):(iN es).length=es.length:=by rw [rg]; simp
section
variable {P:Program} {N:FN} {F:Fm} {Γ:Gh} {L:List Rowb} {σ:Env} {o:Oper} {Q:Exit→Env→World→Prop} {rest:List Oper} {ops:Array Oper} {κ α:Type} [DecidableEq κ] {k t e:TypeId} {K:KeyT P k κ} {V:Tv α} {row:Rowb} {g:Nat} {es:List (κ×α)}
theorem zd{ρ:Ren}(Ly:SlLaysZI.n7 P ρ){mb:Option Nat}(hg:o.guard=none)(hd:ci N o.dst=true)(hr:∀w,(execOp (ev σ) o).run P w = .ok (.enter (ρ.f 7) #[.map mb]) w)
  (k':∀g',WR P N ops (CC F Γ ([(g',.cells #[.map mb] (ρ.t 23))]::L)) Q rest (updo σ o.dst (.func (.func (ρ.f 10)) #[] #[.pointer (some ⟨g',0,none⟩)]))):WR P N ops (CC F Γ L) Q (o::rest) σ:=
 WR.callnew (mk:=λg=>.func (.func (ρ.f 10)) #[] #[.pointer (some ⟨g,0,none⟩)]) (obj:=.cells #[.map mb] (ρ.t 23)) hg hd hr (λw _=>(callsIn_wide (n:=6)).1 (AnyZI.keys_in Ly Fence.wide 6 trivial rfl mb w)) k'
theorem B5{x:Int}(h:I64 x):(Lit.int .i64 x).wf=true:=by
 obtain⟨h1,h2⟩:=h
 have e1:IntKind.i64.min = -9223372036854775808:=by decide
 have e2:IntKind.i64.max=9223372036854775807:=by decide
 simp only [Lit.wf,e1,e2,Cs,Cm]
 omega
theorem vh{kt:TypeId}(hk:P.underlying kt=some (.int .i64)){β:Type}{V:Tv β}{es:List (Int×β)}(h:MapE (intK hk) V Γ row g es){w:World}(hr:∀p∈row,w.heap[p.1]? = some p.2)(hn:es.length≤lim):
  ∃D:DataW Unit,w.ownsMap P kt (λ_=>some (.nil,[])) g es.length D∧Maps.size D=es.length∧(intKeys D).Perm (es.map (λp=>p.1)):=by
 obtain⟨arr,clock,ps,rfl,h2,h3⟩:=h.is
 have hlen:arr.size=es.length:=by
  have:=congrArg List.length h2
  simp only [CF,Array.length_toList] at this
  rw [this,nb h3]
 have hpk:∀{ps:List (Int×Value)} {es:List (Int×β)},mrd V Γ ps es→ps.map (·.1)=es.map (·.1):=by
  intro ps
  induction ps with
  | nil=>intro es h; cases es with
   | nil=>rfl
   | cons _ _=>exact h.elim
  | cons p ps ih=>intro es h; cases es with
   | nil=>exact h.elim
   | cons e es=>obtain⟨h1,_,h4⟩:=h; simp [h1,ih h4]
 have hkeys:arr.toList.map (·.key)=es.map (λp=>Value.int .i64 p.1):=by
  have h5:=congrArg (List.map Prod.fst) h2
  rw [CM,CM] at h5
  have h6:arr.toList.map (·.key)=ps.map (λp=>Value.int .i64 p.1):=h5
  rw [h6,show (λp:Int×Value=>Value.int .i64 p.1)=(Value.int .i64∘λp=>p.1) from rfl, ← CM,hpk h3,CM]; rfl
 have hkey:∀x∈arr.toList, ∃s:Int,x.key = .int .i64 s∧I64 s:=by
  intro x hx
  have:x.key∈es.map (λp=>Value.int .i64 p.1):=by rw [← hkeys]; exact List.mem_map.2 ⟨x,hx,rfl⟩
  obtain⟨p,hp,he⟩:=List.mem_map.1 this
  exact⟨p.1,he.symm,h.ks p hp⟩
 have hko:∀s:Int,I64 s→keyOf P kt (.int .i64 s)=some (.int .i64 s):=by
  intro s hs
  simp [keyOf,hk,mapKey,B5 hs]
 have hrd:∀x∈arr.toList, ∀s:Int,x.key = .int .i64 s→I64 s→WideElems.rd P kt (λ_=>some ((.nil:DataW Unit),[])) x=some (.int .i64 s,.nil):=by
  intro x hx s he hs
  unfold WideElems.rd
  rw [he,hko s hs]; rfl
 have F:Fit P kt (λ_=>some ((.nil:DataW Unit),[])) arr clock:=⟨by rw [hlen]; have:=jX; omega,h.stamped,λx hx=>by
  obtain⟨s,he,hs⟩:=hkey x hx
  exact⟨_,hrd x hx s he hs⟩⟩
 refine⟨_,⟨arr,clock,hr _ (List.mem_singleton.2 rfl),F,by omega,rfl⟩,?_,?_⟩
 ·rw [Maps.size_eq,(WideShapes.sorted_perm _).length_eq,CF,Array.length_toList,hlen]
 ·show List.Perm (List.map (λp:Lit×DataW Unit=>Go.intOf p.1) _) _
  refine((WideShapes.sorted_perm _).map _).trans (List.Perm.of_eq ?_)
  rw [CM]
  have h7:es.map (λp=>p.1)=(arr.toList.map (·.key)).map (λv=>match v with | .int _ s=>s | _=>0):=by rw [hkeys,CM]; rfl
  rw [h7,CM]
  refine List.map_congr_left λx hx=>?_
  obtain⟨s,he,hs⟩:=hkey x hx
  simp only [Function.comp]
  rw [rg_of (hrd x hx s he hs),he]; rfl
theorem wM{kt:TypeId}(hk:P.underlying kt=some (.int .i64)){β:Type}{V:Tv β}{es:List (Int×β)}(h:MapO (intK hk) V Γ row g es){w:World}(hr:∀p∈row,w.heap[p.1]? = some p.2)(hn:es.length≤lim):
  ∃D:DataW Unit,w.ownsMap P kt (λ_=>some (.nil,[])) g es.length D∧Maps.size D=es.length∧(intKeys D).Perm (es.map (λp=>p.1)):=by
 obtain⟨es',hpm,h⟩:=h
 obtain⟨D,h1,h2,h3⟩:=vh hk h hr (by rw [hpm.length_eq]; exact hn)
 rw [hpm.length_eq] at h1 h2
 exact⟨D,h1,h2,h3.trans (hpm.map _)⟩
theorem sQ{ρ ρ':Ren}(Lz:SlLaysZI.n10 P ρ)(Ls:SlLaysZI.n6 P ρ')(h26:ρ.t 26=ρ'.t 26)(hsort:AnyZI.SortsIn P ρ' Fence.wide 5)(e9:∀args w,(callFunc (ρ'.f 9) args).run P w = .ok (.enter (ρ'.f 9) args) w)(eg:∀args w,(callFunc (ρ.f 10) args).run P w = .ok (.enter (ρ.f 10) args) w)
  (hd:nZ=false) (hk:P.underlying (ρ'.t 26)=some (.int .i64)) {β:Type} {V:Tv β} {es:List (Int×β)} (hm:MapO (intK hk) V Γ row g es) (hn:es.length≤lim) {gb:Nat} {w:World} (hp:Pre [[(gb,.cells #[.map (some g)] t)],row] Γ w) :
  Calls P (ρ'.f 6) #[.func (.func (ρ.f 10)) #[] #[.pointer (some ⟨gb,0,none⟩)]] w (Outc Γ [[(gb,.cells #[.map (some g)] t)],row] w λU Δ v => ∃A c row',v = .slice A (iN es).length c∧U = [[(gb,.cells #[.map (some g)] t)],row,row']∧Own intT Δ (ρ'.t 26) row' A c (iN es)):=by
 have hb:w.heap[gb]? = some (.cells #[.map (some g)] t):=hp.loc _ Cp (gb,_) Cp
 have hrow:∀p∈row,w.heap[p.1]? = some p.2:=hp.loc row (by simp)
 obtain⟨D,hown,hsz,hperm⟩:=wM hk hm hrow hn
 have hnl:es.length≤2147483648:=hn
 have hseq:=AnyZI.keys_gives Lz Fence.wide 3 trivial rfl (by omega) gb g es.length D w (dw hb) (by rw [cell_of_row w gb 0 _ _ _ hb]; rfl) (by rw [h26]; exact hown)
 refine((callsIn_wide (n:=6)).1 (AnyZI.sorted_in Ls Fence.wide 6 trivial trivial trivial trivial rfl (by omega) hsort e9 (ρ.f 10) #[.pointer (some ⟨gb,0,none⟩)] trivial eg _ (Maps.size D) (by rw [hsz]; have:=jX; omega) (by rw [hsz]; omega) w hseq)).mono ?_
 rintro e' w' ⟨v,ss,rfl,hS,hrow',hnil,hbl⟩
 have hfr:Fr no w w':=⟨hbl.os,hbl.tape,hbl.output,(λq=>absurd (hd.symm.trans q) (by decide)),hbl.size,λk hk _=>hbl.block k hk⟩
 have hss:ss.mergeSort (λx y=>decide (x≤y))=(es.map (λp=>p.1)).mergeSort (λx y=>decide (x≤y)):=mergeSort_of_perm_i (hS.trans hperm)
 have hlen:ss.length=(iN es).length:=by rw [rU,(hS.trans hperm).length_eq,CF]
 have hx:(ss.mergeSort (λx y=>decide (x≤y))).map encZ=((iN es).map (λs=>[Value.int .i64 s])).flatten:=by
  rw [hss,rg]
  generalize (es.map (λp=>p.1)).mergeSort (λx y=>decide (x≤y))=l
  induction l with
  | nil=>rfl
  | cons x l ih=>simp only [Cw,CL,ih]; rfl
 obtain⟨A,c,rfl,hown2,hbase⟩:∃A c,v = .slice A (iN es).length c∧w'.ownsRow 0 (ρ'.t 26) intT.n (.slice A (iN es).length c) (iN es).length ((iN es).map (λs=>[Value.int .i64 s])).flatten∧∀b,(Value.slice A (iN es).length c).ownBlock=some b→w.heap.size≤b:=by
  rw [hx,hlen] at hrow'
  obtain⟨hl1,hr1⟩:=hrow'
  rcases hr1 with ⟨rfl,h0⟩ | ⟨g2,cap,cur,rfl,hge,h3,h4,h5,h6,h7⟩
  ·exact⟨none,0,by rw [h0],⟨hl1,.inl ⟨by rw [h0],h0⟩⟩,λb hb=>by simp [Value.ownBlock] at hb⟩
  ·exact⟨some ⟨g2,0,none⟩,cap,rfl,⟨hl1,.inr ⟨g2,cap,cur,rfl,CE _,h3,h4,h5,h6,h7⟩⟩,λb hb=>by simp only [Value.ownBlock,CJ] at hb; omega⟩
 have hok:∀s∈iN es,I64 s:=by
  intro s hs
  rw [rg] at hs
  rw [List.mem_mergeSort] at hs
  obtain⟨p,hp2,rfl⟩:=List.mem_map.1 hs
  exact hm.ks p hp2
 obtain⟨row',ho,h8,h9,h10⟩:=Ck (T:=intT) (Γ:=Γ) (xs:=iN es) hown2 (by simp) (by rw [rU]; exact hn) (λi h1=>by
  have hi:i<(iN es).length:=by simpa using h1
  refine⟨?_,hok _ (by rw [bT hi]; exact List.getElem_mem hi)⟩
  rw [CO,bT hi])
 exact⟨_,rfl,Γ,_,Eff.of_new hp hfr h8 (λp hp2=>hbase _ (h10 p hp2)) h9,A,c,row',rfl,rfl,ho⟩
end
end Fw
end Go.Proofs.YtangaamigenjjaaGreat
