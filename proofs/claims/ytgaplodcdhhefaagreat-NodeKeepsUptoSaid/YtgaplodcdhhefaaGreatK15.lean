/- Maps more: copies; a map's keys, sorted: what the shelf's contracts give. No condition. -/
import Derived.Test.YtgaplodcdhhefaaGreatK14
import Derived.Shelf.SlMaps.Clone
import Derived.Shelf.SlIter.Nil
import Derived.Shelf.SortM.Plain
import Derived.Shelf.SortM.SortNone
import Derived.Maps.Range
namespace Go.Proofs.YtgaplodcdhhefaaGreat
namespace Fw
set_option linter.unusedVariables false
set_option linter.unusedSimpArgs false
set_option linter.unusedSectionVars false
open Go.RowKit Go.MapKept Go.Shelf Go.Maps Go.Sort Go.WideElems
theorem oB:lim≤maxLen:=by decide
section
variable {P:Program} {N:FN} {F:Fm} {Γ:Gh} {L:List Rowb} {σ:Env} {o:Oper} {Q:Exit→Env→World→Prop} {rest:List Oper} {ops:Array Oper} {κ α:Type} [DecidableEq κ] {k t e:TypeId} {K:KeyT P k κ} {V:Tv α} {row:Rowb} {g:Nat} {es:List (κ×α)}
theorem WR.callnew{f:FuncId}{args:Array Value}{obj:Obj}{mk:Nat→Value}(hg:o.guard=none)(hd:bR N o.dst=true)(hr:∀w,(execOp (ev σ) o).run P w = .ok (.enter f args) w)
  (h:∀w,Cur F Γ L w→Calls P f args w λe w'=>e = .returned (mk w.heap.size)∧w'=w.alloc obj)
  (k':∀g,WR P N ops (CC F Γ ([(g,obj)]::L)) Q rest (updo σ o.dst (mk g))):WR P N ops (CC F Γ L) Q (o::rest) σ:=by
 refine WR.call hg hd hr λw hw=>?_
 refine(h w hw).mono ?_
 rintro e w' ⟨rfl,rfl⟩
 exact⟨_,rfl,k' w.heap.size _ (hw.new obj)⟩
theorem Eff.of_new{U:List Rowb}{row':Rowb}{w w':World}(hp:Pre U Γ w)(hf:Fr no w w')(hl:∀p∈row',w'.heap[p.1]? = some p.2)(hn:∀p∈row',w.heap.size≤p.1)(hnd:(row'.map (·.1)).Nodup):Eff Γ Γ U (U++[row']) w w':=by
 have hold:∀r∈U, ∀p∈r,p.1<w.heap.size:=λr hr p hq=>dC (hp.loc r hr p hq)
 refine⟨hf.of_no,λb o hb=>(hf.keep b (dC (hp.sat b o hb)) id).trans (hp.sat b o hb),Gh.refl _,λb o hb=>.inl ⟨o,hb⟩,λr hr p hq=>?_,λr hr p hq=>?_,λr hr p hq=>?_,?_⟩
 ·rcases List.mem_append.1 hr with hr | hr
  ·rw [hf.keep _ (hold r hr p hq) id]; exact hp.loc r hr p hq
  ·rw [List.mem_singleton.1 hr] at hq; exact hl p hq
 ·rcases List.mem_append.1 hr with hr | hr
  ·exact .inl ⟨r,hr,p,hq,rfl⟩
  ·rw [List.mem_singleton.1 hr] at hq; exact .inr (hn p hq)
 ·rcases List.mem_append.1 hr with hr | hr
  ·exact hp.out r hr p hq
  ·rw [List.mem_singleton.1 hr] at hq
   cases hg:Γ p.1 with
   | none=>rfl
   | some o=>have:=dC (hp.sat _ _ hg); have:=hn p hq; omega
 ·rw [List.flatten_append,E9,List.nodup_append]
  refine⟨hp.nodup,by simpa using hnd,λa ha b hb e=>?_⟩
  obtain⟨p,hq,rfl⟩:=List.mem_map.1 ha
  obtain⟨r,hr,hq⟩:=List.mem_flatten.1 hq
  obtain⟨q,hq2,rfl⟩:=List.mem_map.1 hb
  simp only [Ef,List.flatten_nil,Eb] at hq2
  have h1:=hold r hr p hq
  have h2:=hn q hq2
  omega
theorem AR{ρ:Ren}(Ly:SlLaysW.n5 P ρ){i:Nat}(hi:L[i]? = some row)(hm:MapO K V Γ row g es)(hg:o.guard=none)(hd:bR N o.dst=true)(hr:∀w,(execOp (ev σ) o).run P w = .ok (.enter (ρ.f 5) #[.map (some g)]) w)
  (k':∀g' row',MapO K V Γ row' g' es→WR P N ops (CC F Γ (row'::L)) Q rest (updo σ o.dst (.map (some g')))):WR P N ops (CC F Γ L) Q (o::rest) σ:=by
 obtain⟨es',hpm,hm⟩:=hm
 obtain⟨arr,clock,ps,rfl,h2,h3⟩:=hm.is
 refine WR.callnew (mk:=λg=>.map (some g)) (obj:=.map arr clock) hg hd hr (λw hw=>AnyW.maps_Clone Ly g arr clock w (hw.at_ hi (p:=(g,.map arr clock)) (by simp))) λg'=>k' g' _ ?_
 exact⟨es',hpm,⟨⟨arr,clock,ps,rfl,h2,h3⟩,⟨arr,clock,rfl,hm.stamped⟩,hm.ks⟩⟩
theorem wi{ρ:Ren}(Ly:SlLaysZ.n7 P ρ){mb:Option Nat}(hg:o.guard=none)(hd:bR N o.dst=true)(hr:∀w,(execOp (ev σ) o).run P w = .ok (.enter (ρ.f 7) #[.map mb]) w)
  (k':∀g',WR P N ops (CC F Γ ([(g',.cells #[.map mb] (ρ.t 23))]::L)) Q rest (updo σ o.dst (.func (.func (ρ.f 10)) #[] #[.pointer (some ⟨g',0,none⟩)]))):WR P N ops (CC F Γ L) Q (o::rest) σ:=
 WR.callnew (mk:=λg=>.func (.func (ρ.f 10)) #[] #[.pointer (some ⟨g,0,none⟩)]) (obj:=.cells #[.map mb] (ρ.t 23)) hg hd hr (λw _=>(callsIn_wide (n:=6)).1 (AnyZ.keys_in Ly Fence.wide 6 trivial rfl mb w)) k'
def insB(x:List UInt8):List (List UInt8)→List (List UInt8)
 | []=>[x]
 | y::l=>bif decide (x≤y) then x::y::l else y::insB x l
def srtB:List (List UInt8)→List (List UInt8)
 | []=>[]
 | x::l=>insB x (srtB l)
theorem pM(x:List UInt8):∀l,(insB x l).Perm (x::l)
 | []=>List.Perm.refl _
 | y::l=>by
  unfold insB
  cases decide (x≤y) with
  | true=>exact List.Perm.refl _
  | false=>exact((pM x l).cons y).trans (List.Perm.swap x y l)
theorem te:∀l,(srtB l).Perm l
 | []=>List.Perm.refl _
 | x::l=>(pM x (srtB l)).trans ((te l).cons x)
theorem uR(x:List UInt8):∀l:List (List UInt8),l.Pairwise (·≤·)→(insB x l).Pairwise (·≤·)
 | [],_=>by simp [insB]
 | y::l,h=>by
  rw [List.pairwise_cons] at h
  unfold insB
  cases hc:decide (x≤y) with
  | true=>
   have hc:=DP hc
   refine List.pairwise_cons.2 ⟨λz hz=>?_,List.pairwise_cons.2 h⟩
   rcases List.mem_cons.1 hz with e | hz
   ·rw [e]; exact hc
   ·exact List.le_trans hc (h.1 z hz)
  | false=>
   have hc:=of_decide_eq_false hc
   refine List.pairwise_cons.2 ⟨λz hz=>?_,uR x l h.2⟩
   rcases List.mem_cons.1 ((pM x l).mem_iff.1 hz) with e | hz
   ·rw [e]; exact(List.le_total y x).resolve_right hc
   ·exact h.1 z hz
theorem vy:∀l:List (List UInt8),(srtB l).Pairwise (·≤·)
 | []=>List.Pairwise.nil
 | x::l=>uR x _ (vy l)
theorem AO(l:List (List UInt8)):srtB l=l.mergeSort (λx y=>decide (x≤y)):=by
 have h:(srtB l).mergeSort (λx y=>decide (x≤y))=l.mergeSort (λx y=>decide (x≤y)):=mergeSort_of_perm (te l)
 rw [← h,List.mergeSort_of_pairwise]
 exact(vy l).imp λh=>E5 h
def dI{β:Type}(es:List (ByteArray×β)):List ByteArray:=(srtB (es.map (λp=>p.1.data.toList))).map (λl=>⟨l.toArray⟩)
theorem mA{β:Type}(es:List (ByteArray×β)):dI es=((es.map (λp=>p.1.data.toList)).mergeSort (λx y=>decide (x≤y))).map (λl=>⟨l.toArray⟩):=by unfold dI; rw [AO]
theorem jT{β:Type}(es:List (ByteArray×β)):(dI es).length=es.length:=by rw [mA]; simp
theorem xH{kt:TypeId}(hk:P.underlying kt=some .string){β:Type}{V:Tv β}{es:List (ByteArray×β)}(h:MapE (strK hk) V Γ row g es){w:World}(hr:∀p∈row,w.heap[p.1]? = some p.2)(hn:es.length≤lim):
  ∃D:DataW Unit,w.ownsMap P kt (λ_=>some (.nil,[])) g es.length D∧Maps.size D=es.length∧(strKeys D).Perm (es.map (λp=>p.1.data.toList)):=by
 obtain⟨arr,clock,ps,rfl,h2,h3⟩:=h.is
 have hlen:arr.size=es.length:=by
  have:=congrArg List.length h2
  simp only [E8,Array.length_toList] at this
  rw [this,pD h3]
 have hpk:∀{ps:List (ByteArray×Value)} {es:List (ByteArray×β)},mrd V Γ ps es→ps.map (·.1)=es.map (·.1):=by
  intro ps
  induction ps with
  | nil=>intro es h; cases es with
   | nil=>rfl
   | cons _ _=>exact h.elim
  | cons p ps ih=>intro es h; cases es with
   | nil=>exact h.elim
   | cons e es=>obtain⟨h1,_,h4⟩:=h; simp [h1,ih h4]
 have hkeys:arr.toList.map (·.key)=es.map (λp=>Value.string p.1):=by
  have h5:=congrArg (List.map Prod.fst) h2
  rw [Eg,Eg] at h5
  have h6:arr.toList.map (·.key)=ps.map (λp=>Value.string p.1):=h5
  rw [h6,show (λp:ByteArray×Value=>Value.string p.1)=(Value.string∘λp=>p.1) from rfl, ← Eg,hpk h3,Eg]; rfl
 have hkey:∀x∈arr.toList, ∃s:ByteArray,x.key = .string s∧s.size≤lim:=by
  intro x hx
  have:x.key∈es.map (λp=>Value.string p.1):=by rw [← hkeys]; exact List.mem_map.2 ⟨x,hx,rfl⟩
  obtain⟨p,hp,he⟩:=List.mem_map.1 this
  exact⟨p.1,he.symm,h.ks p hp⟩
 have hko:∀s:ByteArray,s.size≤lim→keyOf P kt (.string s)=some (.string s.data.toList):=by
  intro s hs
  have:s.size≤maxLen:=by have:=oB; omega
  simp [keyOf,hk,mapKey,this]
 have hrd:∀x∈arr.toList, ∀s:ByteArray,x.key = .string s→s.size≤lim→WideElems.rd P kt (λ_=>some ((.nil:DataW Unit),[])) x=some (.string s.data.toList,.nil):=by
  intro x hx s he hs
  unfold WideElems.rd
  rw [he,hko s hs]; rfl
 have F:Fit P kt (λ_=>some ((.nil:DataW Unit),[])) arr clock:=⟨by rw [hlen]; have:=oB; omega,h.stamped,λx hx=>by
  obtain⟨s,he,hs⟩:=hkey x hx
  exact⟨_,hrd x hx s he hs⟩⟩
 refine⟨_,⟨arr,clock,hr _ (List.mem_singleton.2 rfl),F,by omega,rfl⟩,?_,?_⟩
 ·rw [Maps.size_eq,(WideShapes.sorted_perm _).length_eq,E8,Array.length_toList,hlen]
 ·show List.Perm (List.map (λp:Lit×DataW Unit=>strOf p.1) _) _
  refine((WideShapes.sorted_perm _).map _).trans (List.Perm.of_eq ?_)
  rw [Eg]
  have h7:es.map (λp=>p.1.data.toList)=(arr.toList.map (·.key)).map (λv=>match v with | .string s=>s.data.toList | _=>[]):=by rw [hkeys,Eg]; rfl
  rw [h7,Eg]
  refine List.map_congr_left λx hx=>?_
  obtain⟨s,he,hs⟩:=hkey x hx
  simp only [Function.comp]
  rw [rg_of (hrd x hx s he hs),he]; rfl
theorem yH{kt:TypeId}(hk:P.underlying kt=some .string){β:Type}{V:Tv β}{es:List (ByteArray×β)}(h:MapO (strK hk) V Γ row g es){w:World}(hr:∀p∈row,w.heap[p.1]? = some p.2)(hn:es.length≤lim):
  ∃D:DataW Unit,w.ownsMap P kt (λ_=>some (.nil,[])) g es.length D∧Maps.size D=es.length∧(strKeys D).Perm (es.map (λp=>p.1.data.toList)):=by
 obtain⟨es',hpm,h⟩:=h
 obtain⟨D,h1,h2,h3⟩:=xH hk h hr (by rw [hpm.length_eq]; exact hn)
 rw [hpm.length_eq] at h1 h2
 exact⟨D,h1,h2,h3.trans (hpm.map _)⟩
theorem qw{ρ ρ':Ren}(Lz:SlLaysZ.n10 P ρ)(Ls:SlLaysZ.n6 P ρ')(h26:ρ.t 26=ρ'.t 26)(hsort:AnyZ.SortsIn P ρ' Fence.wide 5)(e9:∀args w,(callFunc (ρ'.f 9) args).run P w = .ok (.enter (ρ'.f 9) args) w)(eg:∀args w,(callFunc (ρ.f 10) args).run P w = .ok (.enter (ρ.f 10) args) w)
  (hd:s6=false) (hk:P.underlying (ρ'.t 26)=some .string) {β:Type} {V:Tv β} {es:List (ByteArray×β)} (hm:MapO (strK hk) V Γ row g es) (hn:es.length≤lim) {gb:Nat} {w:World} (hp:Pre [[(gb,.cells #[.map (some g)] t)],row] Γ w) :
  Calls P (ρ'.f 6) #[.func (.func (ρ.f 10)) #[] #[.pointer (some ⟨gb,0,none⟩)]] w (Outc Γ [[(gb,.cells #[.map (some g)] t)],row] w λU Δ v => ∃A c row',v = .slice A (dI es).length c∧U = [[(gb,.cells #[.map (some g)] t)],row,row']∧Own strT Δ (ρ'.t 26) row' A c (dI es)):=by
 have hb:w.heap[gb]? = some (.cells #[.map (some g)] t):=hp.loc _ DT (gb,_) DT
 have hrow:∀p∈row,w.heap[p.1]? = some p.2:=hp.loc row (by simp)
 obtain⟨D,hown,hsz,hperm⟩:=yH hk hm hrow hn
 have hnl:es.length≤2147483648:=hn
 have hseq:=AnyZ.keys_gives Lz Fence.wide 3 trivial rfl (by omega) gb g es.length D w (dC hb) (by rw [cell_of_row w gb 0 _ _ _ hb]; rfl) (by rw [h26]; exact hown)
 refine((callsIn_wide (n:=6)).1 (AnyZ.sorted_in Ls Fence.wide 6 trivial trivial trivial trivial rfl (by omega) hsort e9 (ρ.f 10) #[.pointer (some ⟨gb,0,none⟩)] trivial eg _ (Maps.size D) (by rw [hsz]; have:=oB; omega) (by rw [hsz]; omega) w hseq)).mono ?_
 rintro e' w' ⟨v,ss,rfl,hS,hrow',hnil,hbl⟩
 have hfr:Fr no w w':=⟨hbl.os,hbl.tape,hbl.output,(λq=>absurd (hd.symm.trans q) (by decide)),hbl.size,λk hk _=>hbl.block k hk⟩
 have hss:ss.mergeSort (λx y=>decide (x≤y))=(es.map (λp=>p.1.data.toList)).mergeSort (λx y=>decide (x≤y)):=mergeSort_of_perm (hS.trans hperm)
 have hlen:ss.length=(dI es).length:=by rw [jT,(hS.trans hperm).length_eq,E8]
 have hx:(ss.mergeSort (λx y=>decide (x≤y))).map encStr=((dI es).map (λs=>[Value.string s])).flatten:=by
  rw [hss,mA]
  rw [Eg]
  generalize (es.map (λp=>p.1.data.toList)).mergeSort (λx y=>decide (x≤y))=l
  induction l with
  | nil=>rfl
  | cons x l ih=>simp only [E0,Ef,ih]; rfl
 obtain⟨A,c,rfl,hown2,hbase⟩:∃A c,v = .slice A (dI es).length c∧w'.ownsRow 0 (ρ'.t 26) strT.n (.slice A (dI es).length c) (dI es).length ((dI es).map (λs=>[Value.string s])).flatten∧∀b,(Value.slice A (dI es).length c).ownBlock=some b→w.heap.size≤b:=by
  rw [hx,hlen] at hrow'
  obtain⟨hl1,hr1⟩:=hrow'
  rcases hr1 with ⟨rfl,h0⟩ | ⟨g2,cap,cur,rfl,hge,h3,h4,h5,h6,h7⟩
  ·exact⟨none,0,by rw [h0],⟨hl1,.inl ⟨by rw [h0],h0⟩⟩,λb hb=>by simp [Value.ownBlock] at hb⟩
  ·exact⟨some ⟨g2,0,none⟩,cap,rfl,⟨hl1,.inr ⟨g2,cap,cur,rfl,E7 _,h3,h4,h5,h6,h7⟩⟩,λb hb=>by simp only [Value.ownBlock,Ec] at hb; omega⟩
 have hok:∀s∈dI es,s.size≤lim:=by
  intro s hs
  rw [mA] at hs
  obtain⟨l,hl,rfl⟩:=List.mem_map.1 hs
  rw [List.mem_mergeSort] at hl
  obtain⟨p,hp2,rfl⟩:=List.mem_map.1 hl
  exact hm.ks p hp2
 obtain⟨row',ho,h8,h9,h10⟩:=Own.of_owns (T:=strT) (Γ:=Γ) (xs:=dI es) hown2 (by simp) (by rw [jT]; exact hn) (λi h1=>by
  have hi:i<(dI es).length:=by simpa using h1
  refine⟨?_,hok _ (by rw [bA hi]; exact List.getElem_mem hi)⟩
  rw [List.getElem_map,bA hi])
 exact⟨_,rfl,Γ,_,Eff.of_new hp hfr h8 (λp hp2=>hbase _ (h10 p hp2)) h9,A,c,row',rfl,rfl,ho⟩
end
end Fw
end Go.Proofs.YtgaplodcdhhefaaGreat
