/- What is lent: a ghost that a call reads and does not keep. No condition. -/
import Derived.Test.YtgaplodcdhhefaaGreatK11
namespace Go.Proofs.YtgaplodcdhhefaaGreat
namespace Fw
set_option linter.unusedVariables false
set_option linter.unusedSimpArgs false
set_option linter.unusedSectionVars false
open Go.RowKit
section
variable {P:Program} {N:FN} {F:Fm} {Γ Δ B:Gh} {L U:List Rowb} {C:World→Prop} {Q:Exit→Env→World→Prop} {σ:Env} {w:World} {ops:Array Oper} {o:Oper} {rest:List Oper}
structure Lent (F:Fm) (B:Gh):Prop where
 old:Sat B F.E
 out:∀b o,B b=some o→¬ F.S b
theorem Lent.start{E:World}{G:Gh}(h:Pre U B E):Lent ⟨ids U,E,G⟩ B:=
 ⟨h.sat,λb o hb ⟨r,hr,p,hp,he⟩=>by have:=h.out r hr p hp; rw [he,hb] at this; cases this⟩
theorem Lent.start0{E:World}{G:Gh}(h:Sat B E):Lent ⟨no,E,G⟩ B:=⟨h,λb o hb hn=>hn⟩
theorem Lent.nil(F:Fm):Lent F (λ_=>none):=⟨(λb o hb=>by cases hb),(λb o hb=>by cases hb)⟩
theorem Lent.sat(h:Lent F B)(hw:Cur F Γ L w):Sat B w:=λb o hb=>by
 have h1:=h.old b o hb
 rw [hw.fr.keep b (dC h1) (h.out b o hb)]; exact h1
theorem Lent.sep(h:Lent F B)(hw:Cur F Γ L w):∀r∈L, ∀p∈r,B p.1=none:=λr hr p hp=>by
 cases hb:B p.1 with
 | none=>rfl
 | some o=>
  exfalso
  rcases hw.sep r hr p hp with h1 | h1
  ·exact h.out _ _ hb h1
  ·have:=dC (h.old _ _ hb); omega
theorem tO{x:Operand}{t:TypeId}{A:Option Addr}{j c:Nat}{cs:List Value}{v:Value}(hS:∀w,Cur F Γ L w→Sat B w)(hC:eQ B A j cs)(ho:o.op = .load t x)(ht:∀w,(isAgg t).run P w = .ok false w)(hx:ev σ x=eR A (j+c))(hv:cs[c]? = some v):QV P (CC F Γ L) σ o v:=
 λw hw=>by
  obtain⟨b,o',rfl,h2⟩:=(hC c v hv).now (hS w hw)
  simp only [execOp,ho,hx,eR,Eh,cx,E3]
  rw [dO ht h2]; rfl
theorem iI{x:Operand}{t:TypeId}{A:Option Addr}{j c:Nat}{cs vs:List Value}(hS:∀w,Cur F Γ L w→Sat B w)(hC:eQ B A j cs)(ho:o.op = .load t x)(ht:∀w,(isAgg t).run P w = .ok true w)(hz:∀w,(sizeOf t).run P w = .ok vs.length w)(hx:ev σ x=eR A (j+c))
  (hp:Nat.blt 0 cs.length=true) (hv:(cs.drop c).take vs.length=vs):QV P (CC F Γ L) σ o (.agg vs.toArray):=
 λw hw=>by
  have hA:=hC.some_ (by simpa [Nat.blt_eq] using hp)
  cases A with
  | none=>cases hA
  | some a=>
   simp only [execOp,ho,hx,eR,Eh,E3]
   rw [eK ht hz]
   ·rfl
   ·intro i v hi
    obtain⟨b,o',he,h2⟩:=(hC _ v (j7 hv hi)).now (hS w hw)
    cases he
    rw [rb,cx, ← h2,Nat.add_assoc]
theorem BQ{v:Value}(hS:∀w,Cur F Γ L w→Sat B w)(h:∀F':Fm,QV P (CC F' B []) σ o v):QV P (CC F Γ L) σ o v:=λw hw=>h ⟨no,w,B⟩ w (Cur.start0 (hS w hw))
noncomputable def Gh.but (U:List Rowb) (w:World):Gh:=λb=>open Classical in if ids U b then none else w.heap[b]?
theorem Gh.but_le(hs:Sat B w)(ho:∀r∈U, ∀p∈r,B p.1=none):B.le (Gh.but U w):=λb o hb=>by
 unfold Gh.but
 rw [if_neg (λ⟨r,hr,p,hp,he⟩=>by have:=ho r hr p hp; rw [he,hb] at this; cases this)]
 exact hs b o hb
theorem Gh.but_rows{is:List Nat}(hi:okp is L.length=true)(hw:Cur F Γ L w):∀r∈pkR is L, ∀p∈r,Gh.but (pkU is L) w p.1=some p.2:=λr hr p hp=>by
 have h:=hw.pick hi
 unfold Gh.but
 rw [if_neg]
 ·exact h.loc r (List.mem_append.2 (.inr hr)) p hp
 ·rintro⟨r',hr',p',hp',he⟩
  have hn:=h.nodup
  rw [List.flatten_append,E9] at hn
  exact(List.nodup_append.1 hn).2.2 _ (List.mem_map.2 ⟨p',List.mem_flatten.2 ⟨r',hr',hp'⟩,rfl⟩) _ (List.mem_map.2 ⟨p,List.mem_flatten.2 ⟨r,hr,hp⟩,rfl⟩) he
theorem Gh.but_pre(hp:Pre U Γ w):Pre U (Gh.but U w) w:=
 ⟨λb o hb=>by
  unfold Gh.but at hb
  split at hb
  ·cases hb
  ·exact hb,hp.loc,λr hr p hp'=>by unfold Gh.but; rw [if_pos ⟨r,hr,p,hp',rfl⟩],hp.nodup⟩
theorem eu{is:List Nat}{f:FuncId}{args:Array Value}{Res:List Rowb→Gh→Value→Prop}(hL:Lent F B)(hg:o.guard=none)(hd:bR N o.dst=true)(hr:∀w,(execOp (ev σ) o).run P w = .ok (.enter f args) w)(hi:okp is L.length=true)
  (h:∀w Θ,Pre (pkU is L) Γ w→Pre (pkU is L) Θ w→Γ.le Θ→B.le Θ→(∀r∈pkR is L, ∀p∈r,Θ p.1=some p.2)→Calls P f args w (Outc Γ (pkU is L) w Res))
  (k:∀Δ U' v,Γ.le Δ→Res U' Δ v→WR P N ops (CC F Δ (U'++pkR is L)) Q rest (updo σ o.dst v)):WR P N ops (CC F Γ L) Q (o::rest) σ:=by
 refine WR.call hg hd hr λw hw=>?_
 have hp:=hw.pick hi
 have h1:=(hw.only hi).pre
 refine(h w (Gh.but (pkU is L) w) h1 (Gh.but_pre h1) (Gh.but_le h1.sat h1.out) (Gh.but_le (hL.sat hw) (hL.sep (hw.only hi))) (Gh.but_rows hi hw)).mono ?_
 rintro e w' ⟨v,rfl,Δ,U',he,hres⟩
 exact⟨v,rfl,k Δ U' v he.le hres w' (hp.eff he)⟩
def ghr(J:Rowb):Gh:=λb=>(J.find? (λp=>p.1==b)).map (·.2)
def qv(Δ:Gh)(n:Nat):Rowb:=(List.range n).filterMap λb=>(Δ b).map λo=>(b,o)
theorem nu{n:Nat}{p:Nat×Obj}:p∈qv Δ n↔p.1<n∧Δ p.1=some p.2:=by
 unfold qv
 rw [List.mem_filterMap]
 constructor
 ·rintro⟨b,hb,h⟩
  cases hd:Δ b with
  | none=>rw [hd] at h; cases h
  | some o=>
   rw [hd] at h
   injection h with h
   subst h
   exact⟨List.mem_range.1 hb,hd⟩
 ·rintro⟨h1,h2⟩
  exact⟨p.1,List.mem_range.2 h1,by rw [h2]; rfl⟩
theorem mu(Δ:Gh)(n:Nat):((qv Δ n).map (·.1)).Nodup:=by
 have key:∀l:List Nat,l.Nodup→((l.filterMap λb=>(Δ b).map λo=>(b,o)).map (·.1)).Nodup:=by
  intro l
  induction l with
  | nil=>intro _; simp
  | cons b l ih=>
   intro h
   rw [List.nodup_cons] at h
   rw [List.filterMap_cons]
   cases hd:Δ b with
   | none=>exact ih h.2
   | some o=>
    simp only [Eh,E0]
    rw [List.nodup_cons]
    refine⟨λhm=>h.1 ?_,ih h.2⟩
    obtain⟨p,hp,he⟩:=List.mem_map.1 hm
    obtain⟨b',hb',he'⟩:=List.mem_filterMap.1 hp
    cases hq:Δ b' with
    | none=>rw [hq] at he'; cases he'
    | some o'=>
     rw [hq] at he'
     injection he' with he'
     rw [← he'] at he
     simp only at he
     rw [← he]; exact hb'
 exact key _ List.nodup_range
theorem ja:∀{J:Rowb},(J.map (·.1)).Nodup→∀{b:Nat} {o:Obj},ghr J b=some o↔(b,o)∈J
 | [],_,b,o=>by simp [ghr]
 | p::J,h,b,o=>by
  rw [E0,List.nodup_cons] at h
  unfold ghr
  rw [List.find?_cons]
  by_cases hb:p.1=b
  ·rw [show (p.1==b)=true by simpa using hb]
   simp only [Eh,Ec]
   constructor
   ·intro h2; rw [← h2, ← hb]; exact DT
   ·intro h2
    rcases List.mem_cons.1 h2 with e | h2
    ·rw [← e]
    ·exact absurd (List.mem_map.2 ⟨_,h2,hb.symm⟩) h.1
  ·rw [show (p.1==b)=false by simpa using hb]
   show ghr J b=some o↔_
   rw [ja h.2]
   constructor
   ·exact DU _
   ·intro h2
    rcases List.mem_cons.1 h2 with e | h2
    ·exact absurd (by rw [← e]) hb
    ·exact h2
theorem ym(h:Sat Δ w):ghr (qv Δ w.heap.size)=Δ:=by
 funext b
 apply Option.ext
 intro o
 rw [ja (mu Δ _),nu]
 exact⟨λh2=>h2.2,λh2=>⟨dC (h b o h2),h2⟩⟩
theorem Cur.join2{r1 r2:Rowb}{R:List Rowb}(h:Cur F Γ (r1::r2::R) w):Cur F Γ ((r1++r2)::R) w:=by
 have key:∀r∈((r1++r2)::R), ∀p∈r, ∃r'∈(r1::r2::R),p∈r':=λr hr p hp=>by
  rcases List.mem_cons.1 hr with rfl | hr
  ·rcases List.mem_append.1 hp with hp | hp
   ·exact⟨r1,by simp,hp⟩
   ·exact⟨r2,by simp,hp⟩
  ·exact⟨r,by simp [hr],hp⟩
 refine⟨h.fr,h.sat,h.le,h.gnew,λr hr p hp=>?_,λr hr p hp=>?_,λr hr p hp=>?_,?_⟩
 ·obtain⟨r',h1,h2⟩:=key r hr p hp; exact h.loc r' h1 p h2
 ·obtain⟨r',h1,h2⟩:=key r hr p hp; exact h.sep r' h1 p h2
 ·obtain⟨r',h1,h2⟩:=key r hr p hp; exact h.out r' h1 p h2
 ·have:=h.nodup
  simpa [DV] using this
theorem WR.join2{r1 r2:Rowb}{R:List Rowb}(k:((r1++r2).map (·.1)).Nodup→WR P N ops (CC F Γ ((r1++r2)::R)) Q rest σ):WR P N ops (CC F Γ (r1::r2::R)) Q rest σ:=λw hw=>by
 have h:=hw.join2
 refine k ?_ w h
 have h2:=h.nodup
 rw [Ef,E9] at h2
 exact(List.nodup_append.1 h2).1
theorem iH{r1 r2:Rowb}(h:((r1++r2).map (·.1)).Nodup):(ghr r1).le (ghr (r1++r2)):=λb o hb=>by
 have h1:(r1.map (·.1)).Nodup:=by rw [E9] at h; exact(List.nodup_append.1 h).1
 exact(ja h).2 (List.mem_append.2 (.inl ((ja h1).1 hb)))
theorem AB{r1 r2:Rowb}(h:((r1++r2).map (·.1)).Nodup):(ghr r2).le (ghr (r1++r2)):=λb o hb=>by
 have h1:(r2.map (·.1)).Nodup:=by rw [E9] at h; exact(List.nodup_append.1 h).2.1
 exact(ja h).2 (List.mem_append.2 (.inr ((ja h1).1 hb)))
theorem i8{r1 r2:Rowb}(h:((r1++r2).map (·.1)).Nodup):∀p∈r2,ghr (r1++r2) p.1=some p.2:=λp hp=>(ja h).2 (List.mem_append.2 (.inr hp))
def Gh.nil:Gh:=λ_=>none
theorem kH{is:List Nat}{f:FuncId}{args:Array Value}{Res:List Rowb→Gh→Value→Prop}(hL:Lent F B)(hg:o.guard=none)(hd:bR N o.dst=true)(hr:∀w,(execOp (ev σ) o).run P w = .ok (.enter f args) w)(hi:okp is L.length=true)
  (h:∀w Θ,Pre (pkU is L) Gh.nil w→Pre (pkU is L) Θ w→Γ.le Θ→B.le Θ→(∀r∈pkR is L, ∀p∈r,Θ p.1=some p.2)→Calls P f args w (Outc Gh.nil (pkU is L) w Res))
  (k:∀J U' v,(J.map (·.1)).Nodup→Res U' (ghr J) v→WR P N ops (CC F Γ (J::(U'++pkR is L))) Q rest (updo σ o.dst v)):WR P N ops (CC F Γ L) Q (o::rest) σ:=by
 refine WR.call hg hd hr λw hw=>?_
 have hp:=hw.pick hi
 have ho:=hw.only hi
 have h1:=ho.pre
 have h0:Pre (pkU is L) Gh.nil w:=⟨(λb o hb=>by cases hb),h1.loc,(λr _ p _=>rfl),h1.nodup⟩
 refine(h w (Gh.but (pkU is L) w) h0 (Gh.but_pre h1) (Gh.but_le h1.sat h1.out) (Gh.but_le (hL.sat hw) (hL.sep ho)) (Gh.but_rows hi hw)).mono ?_
 rintro e w' ⟨v,rfl,Δ,U',he,hres⟩
 have hJ:ghr (qv Δ w'.heap.size)=Δ:=ym he.sat
 refine⟨v,rfl,k (qv Δ w'.heap.size) U' v (mu _ _) (by rw [hJ]; exact hres) w' ?_⟩
 have hwh:∀b o,Γ b=some o→b<w.heap.size:=λb o hb=>dC (hw.sat b o hb)
 have hnew:∀p∈qv Δ w'.heap.size,ids (pkU is L) p.1∨w.heap.size≤p.1:=λp hp'=>by
  rcases he.gnew p.1 p.2 (nu.1 hp').2 with ⟨o',h'⟩ | h' | h'
  ·cases h'
  ·exact .inl h'
  ·exact .inr h'
 have hgo:∀b,ids (pkU is L) b∨w.heap.size≤b→Γ b=none:=λb hb=>by
  cases hg':Γ b with
  | none=>rfl
  | some o=>
   exfalso
   rcases hb with ⟨r,hr',p,hp',e⟩ | hb
   ·have:=h1.out r hr' p hp'
    rw [e,hg'] at this; cases this
   ·have:=hwh b o hg'; omega
 have he2:Eff Γ Γ (pkU is L) (qv Δ w'.heap.size::U') w w':=by
  refine⟨he.fr,λb o hb=>?_,Gh.refl Γ,λb o hb=>.inl ⟨o,hb⟩,?_,?_,?_,?_⟩
  ·rw [he.fr.keep b (hwh b o hb) (λhid=>by have:=hgo b (.inl hid); rw [hb] at this; cases this)]
   exact hw.sat b o hb
  ·intro r hr' p hp'
   rcases List.mem_cons.1 hr' with rfl | hr'
   ·exact he.sat _ _ (nu.1 hp').2
   ·exact he.loc r hr' p hp'
  ·intro r hr' p hp'
   rcases List.mem_cons.1 hr' with rfl | hr'
   ·exact hnew p hp'
   ·exact he.new r hr' p hp'
  ·intro r hr' p hp'
   rcases List.mem_cons.1 hr' with rfl | hr'
   ·exact hgo _ (hnew p hp')
   ·exact hgo _ (he.new r hr' p hp')
  ·rw [Ef,E9]
   refine List.nodup_append.2 ⟨mu _ _,he.nodup,λa ha b hb e=>?_⟩
   obtain⟨p,hp',rfl⟩:=List.mem_map.1 ha
   obtain⟨q,hq,rfl⟩:=List.mem_map.1 hb
   obtain⟨r,hr',hq'⟩:=List.mem_flatten.1 hq
   have h3:=he.out r hr' q hq'
   have h4:=(nu.1 hp').2
   rw [e,h3] at h4; cases h4
 exact hp.eff he2
theorem ze{J:Rowb}{R:List Rowb}{Θ:Gh}(hR:∀r∈R, ∀p∈r,Θ p.1=some p.2)(hn:(J.map (·.1)).Nodup)(hJ:J∈R):(ghr J).le Θ:=λb o h=>hR J hJ (b,o) ((ja hn).1 h)
theorem satJ{J:Rowb}{i:Nat}(hi:L[i]? = some J)(hn:(J.map (·.1)).Nodup):∀w,Cur F Γ L w→Sat (ghr J) w:=λw hw b o h=>hw.loc J (List.mem_of_getElem? hi) (b,o) ((ja hn).1 h)
theorem ue{α:Type}[Inhabited α]{T:Ty α}{A2:Option Addr}{ys:List α}(hS:∀w,Cur F Γ L w→Sat B w)(hfl:∀cs x,T.rd B cs x→T.rd Γ cs x)(h:Sl T B A2 ys){w:World}(hw:Cur F Γ L w):(A2=none∧ys = [])∨∃a2,A2=some a2∧∃css:List (List Value),css.length=ys.length∧(∀k (h1:k<css.length),T.rd Γ css[k] (gt ys k))∧∀j u,css.flatten[j]? = some u→w.cell? (a2.add j)=some u:=by
 rcases mQ h (Cur.start0 (hS w hw)) with h1 | ⟨a2,e,css,h2,h3,h4⟩
 ·exact .inl h1
 ·exact .inr ⟨a2,e,css,h2,λk hk=>hfl _ _ (h3 k hk),h4⟩
end
end Fw
end Go.Proofs.YtgaplodcdhhefaaGreat
