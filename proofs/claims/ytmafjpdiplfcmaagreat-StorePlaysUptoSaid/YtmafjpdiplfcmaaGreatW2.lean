/- Walks through the functions that the law reaches (printed by a program). No condition. -/
import Derived.Test.YtmafjpdiplfcmaaGreatW1
namespace Go.Proofs.YtmafjpdiplfcmaaGreat
namespace Fw
set_option linter.unusedVariables false
set_option linter.unusedSimpArgs false
set_option linter.unusedSectionVars false
set_option maxRecDepth 100000
set_option maxHeartbeats 400000
open Go.RowKit
open Go.Proofs.Tryz
variable {Γ:Gh} {w0:World}
abbrev qh(Bo:Gh)(gr_:Nat)(er_:Nat)(r:aa×Span)(U:List Rowb)(Γ:Gh)(v:Value):Prop := ∃(rowr_':Rowb),v = .agg #[.int .i64 r.2.s,.int .i64 r.2.f,.int .i64 r.2.t]∧U = [rowr_']∧aa.ob er_ Bo gr_ rowr_' r.1∧Span.fits Γ  r.2∧True
theorem lS{Bo:Gh}{gr_ er_:Nat}{rowr_:Rowb}{r_:aa}(hr_:aa.ob er_ Bo gr_ rowr_ r_)(hp:Pre [rowr_] Γ w0)(hpO:Pre [rowr_] Bo w0){r:Option (aa×Span)}(h:dv r_=some r):Calls Tryz.prog 164 #[(pq gr_)] w0 (nj [{ v:=(.iface 194 (.agg #[])),recovered:=false }] Γ [rowr_] w0 (λr=>qh Bo gr_ er_ r) r):=by
 refine fH (N:=24) (rs:=[.cell 2 41]) (args:=[(pq gr_)]) func164 rfl ntmps164 results164 rfl ?_
 obtain⟨F,hF⟩:∃F:Fm,F=⟨ids [rowr_],w0,Γ⟩:=⟨_,rfl⟩
 refine Ik (C:=CC F Γ [rowr_]) ?_ (hF▸hp.start)
 have hO:Lent F Bo:=hF▸Lent.start hpO
 refine I4 ?_
 refine alV Jp λg1=>?_
 refine I3 (I4 (mV (k:=?_)))
 obtain⟨z2,hz3,h⟩:=bnd h
 rcases z2 with _ | o4
 ·
  have h:=cQ rfl h
  refine fe (is:=[1]) rfl (caV Jq) rfl (λw hw hp=>ir hr_ hp (hO.pre (is:=[1]) hw rfl) hz3) ?_
  intro Γ5 hl6
  intro w hw
  cases h
  subst hF
  first | exact aR hw | exact λ_=>aR hw
 have h:=cP rfl h
 refine ik (is:=[1]) rfl rfl (caV Jq) rfl (λw hw hp=>ir hr_ hp (hO.pre (is:=[1]) hw rfl) hz3) ?_
 rintro Γ7 _ _ hl8 ⟨row11,rfl,rfl,hr12,hr13,_⟩
 refine cwV 5 [_,_] (sV (aZ (v:=.agg #[ii o4.2,ii 0,ii 0]) rfl (l7 rfl) (λw=>by kernel_rfl)) (k:=?_))
 refine alV Jp λg14=>?_
 refine stV 0 (.agg #[ii o4.2,ii 0,ii 0]) #[ii o4.2,ii 0,ii 0] Jr (k:=I3 (I4 (mV (k:=?_))))
 obtain⟨z15,hz16,h⟩:=bnd h
 rcases z15 with _ | o17
 ·
  have h:=cQ rfl h
  refine fe (is:=[1]) rfl (caV Jo) rfl (λw hw hp=>aK hr12 hp (hO.pre (is:=[1]) hw rfl) hz16) ?_
  intro Γ18 hl19
  intro w hw
  cases h
  subst hF
  first | exact aR hw | exact λ_=>aR hw
 have h:=cP rfl h
 refine ik (is:=[1]) rfl rfl (caV Jo) rfl (λw hw hp=>aK hr12 hp (hO.pre (is:=[1]) hw rfl) hz16) ?_
 rintro Γ20 _ _ hl21 ⟨row24,rfl,rfl,hr25,hr26,_⟩
 refine cwV 8 [_,_,_] (sV (q_fl 1 eI) (k:=stV 1 (ii o17.2) #[ii o4.2,ii o17.2,ii 0] Jk (k:=I3 ?_)))
 refine Id (λσ w => ∃(x29:Span), ∃(o31:aa), ∃(Γ27:Gh), ∃(row32:Rowb),eJ x29 o31=some r∧slots σ [(2,(pq g1)),(3,(pq g14))]∧CC F Γ27 [row32,[(g14,.cells (Span.cs x29).toArray 41 (0,0))],[(g1,.cells #[ii 0,ii 0,ii 0] 41 (0,0))]] w∧Gh.le Γ20 Γ27∧Span.fits Γ27  x29∧aa.ob er_ Bo gr_ row32 o31∧True) ?_ ?_
 ·
  refine leV λh034=>?_
  refine dW (CC F Γ20 [[(g1,.cells #[ii 0,ii 0,ii 0] 41 (0,0))]]) (bo_ [2] gR h034) λk=>?_
  change WH _ _ _ _ (CC F Γ20 [_,_,_]) _ 7 _ _
  refine hV 0 k (q:=q_fl 1 eI) (k:=hV 2 k (q:=moV) (k:=?_))
  obtain⟨z35,hz36,h⟩:=bnd h
  refine WH.each (l:=[1,3]) (by kernel_rfl) (by simp) ?_
  intro i hi; simp only [Ix,List.not_mem_nil,or_false] at hi
  rcases hi with rfl | rfl
  ·
   refine⟨_,rfl,?_⟩
   refine sV (ldV 1 Jl) (k:=?_)
   refine I6 (nxV (bo_ [2] gR h034) λk=>?_)
   refine wl_ 3 rfl ?_
   rcases z35 with _ | o37
   ·
    have h:=cQ rfl h
    refine fe (is:=[0]) rfl (caV Jo) rfl (λw hw hp=>aK hr25 hp (hO.pre (is:=[0]) hw rfl) hz36) ?_
    intro Γ38 hl39
    intro w hw
    cases h
    subst hF
    first | exact aR hw | exact λ_=>aR hw
   have h:=cP rfl h
   refine ik (is:=[0]) rfl rfl (caV Jo) rfl (λw hw hp=>aK hr25 hp (hO.pre (is:=[0]) hw rfl) hz36) ?_
   rintro Γ40 _ _ hl41 ⟨row44,rfl,rfl,hr45,hr46,_⟩
   refine cwV 13 [_,_,_] ?_
   refine I6 (nxV (bo_ [2] hl41 h034) λk=>?_)
   refine hV 4 k (q:=bR) (k:=hV 5 k (q:=q_fl 2 eu) (k:=wl_ 6 rfl (stV 1 (ii (w64 (o17.2+o37.2))) #[ii o4.2,ii o17.2,ii (w64 (o17.2+o37.2))] Jk (k:=?_))))
   refine I6 (nxV (bo_ [2] hl41 h034) λk=>?_)
   refine Ig (by kernel_rfl) ?_
   intro w hw
   exact⟨(⟨o4.2,o17.2,(w64 (o17.2+o37.2))⟩:Span),o37.1,Γ40,row44,h,slK,hw,hl41,⟨hr13,hr26,(dR _)⟩,hr45,trivial⟩
  refine⟨_,rfl,?_⟩
  rcases z35 with _ | o37
  ·
   have h:=cQ rfl h
   refine fe (is:=[0]) rfl (caV Jo) rfl (λw hw hp=>aK hr25 hp (hO.pre (is:=[0]) hw rfl) hz36) ?_
   intro Γ38 hl39
   intro w hw
   cases h
   subst hF
   first | exact aR hw | exact λ_=>aR hw
  have h:=cP rfl h
  refine ik (is:=[0]) rfl rfl (caV Jo) rfl (λw hw hp=>aK hr25 hp (hO.pre (is:=[0]) hw rfl) hz36) ?_
  rintro Γ40 _ _ hl41 ⟨row44,rfl,rfl,hr45,hr46,_⟩
  refine cwV 13 [_,_,_] ?_
  refine I6 (nxV (bo_ [2] hl41 h034) λk=>?_)
  refine wl_ 1 rfl (sV (ldV 1 Jl) (k:=?_))
  refine I6 (nxV (bo_ [2] hl41 h034) λk=>?_)
  refine hV 4 k (q:=bR) (k:=hV 5 k (q:=q_fl 2 eu) (k:=wl_ 6 rfl (stV 1 (ii (w64 (o17.2+o37.2))) #[ii o4.2,ii o17.2,ii (w64 (o17.2+o37.2))] Jk (k:=?_))))
  refine I6 (nxV (bo_ [2] hl41 h034) λk=>?_)
  refine Ig (by kernel_rfl) ?_
  intro w hw
  exact⟨(⟨o4.2,o17.2,(w64 (o17.2+o37.2))⟩:Span),o37.1,Γ40,row44,h,slK,hw,hl41,⟨hr13,hr26,(dR _)⟩,hr45,trivial⟩
 rintro σ w ⟨x29,o31,Γ27,row32,h,hsl,hw,hl28,hf30,ho33,-⟩
 refine slV hsl hw [_,_,_] ?_; clear hw hsl
 refine Id (λσ w=>eK x29 o31  = some r∧slots σ [(2,(pq g1)),(3,(pq g14))]∧CC F Γ27 [row32,[(g14,.cells (Span.cs x29).toArray 41 (0,0))],[(g1,.cells #[ii 0,ii 0,ii 0] 41 (0,0))]] w∧True) ?_ ?_
 ·
  refine I4 (sV (q_fl 2 eu) (k:=sV (ldV 1 Jl) (k:=sV (q_fl 1 eI) (k:=sV (ldV 1 Jl) (k:=sV aG (k:=I3 ?_))))))
  refine ciV h (λhb47 h=>?_) (λhb47 h=>?_)
  ·
   refine I9 ?_
   refine sV (fl (v:=.agg #[]) rfl (λw=>by kernel_rfl)) (k:=sV (jM rfl rfl (λw=>mkif Jn w)) (k:=?_))
   refine jN (v:=.iface 194 (.agg #[])) rfl (d7 rfl rfl) ?_
   intro w hw
   cases h
   subst hF
   first | exact aR hw | exact λ_=>aR hw
  exact I7 λw hw=>⟨h,slK,hw,trivial⟩
 rintro σ w ⟨h,hsl,hw,-⟩
 refine slV hsl hw [_,_,_] ?_; clear hw hsl
 refine I4 (sV (ldaV 1 (Span.cs x29) Js Jr) (k:=stV 2 (.agg (Span.cs x29).toArray) (Span.cs x29).toArray Jr (k:=I3 ?_)))
 refine I8 ?_
 intro w hw
 cases h
 subst hF
 exact⟨[.agg (Span.cs x29).toArray],(j8 (i:=2) (us:=(Span.cs x29)) hw rfl Js Jr (by kernel_rfl) rfl jh),aL (is:=[0]) (by kernel_rfl) hw rfl ⟨row32,rfl,rfl,ho33,hf30,trivial⟩⟩
abbrev oS(Bo:Gh)(gr_:Nat)(er_:Nat)(r:aa×(List Span))(U:List Rowb)(Γ:Gh)(v:Value):Prop := ∃(rowr_':Rowb), ∃(A0:Option Addr), ∃(c0:Nat), ∃(row0:Rowb),v = .slice A0 r.2.length c0∧U = [rowr_',row0]∧aa.ob er_ Bo gr_ rowr_' r.1∧Own gS Γ 41 row0 A0 c0 r.2∧True
theorem lc{Bo:Gh}{gr_ er_:Nat}{rowr_:Rowb}{r_:aa}(hr_:aa.ob er_ Bo gr_ rowr_ r_)(hp:Pre [rowr_] Γ w0)(hpO:Pre [rowr_] Bo w0){r:Option (aa×(List Span))}(h:cH r_=some r):Calls Tryz.prog 163 #[(pq gr_),.func (.func 164) #[(pq gr_)] #[]] w0 (nj [{ v:=(.iface 194 (.agg #[])),recovered:=false }] Γ [rowr_] w0 (λr=>oS Bo gr_ er_ r) r):=by
 refine goV [4] func163 ntmps163 results163 hp λF hF=>?_
 have hO:Lent F Bo:=hF▸Lent.start hpO
 refine I4 (aV (k:=I3 (I4 (mV (k:=?_)))))
 obtain⟨z1,hz2,h⟩:=bnd h
 rcases z1 with _ | o3
 ·
  have h:=cQ rfl h
  refine fe (is:=[0]) rfl (caV Jo) rfl (λw hw hp=>aK hr_ hp (hO.pre (is:=[0]) hw rfl) hz2) ?_
  intro Γ4 hl5
  intro w hw
  cases h
  subst hF
  first | exact aR hw | exact λ_=>aR hw
 have h:=cP rfl h
 refine ik (is:=[0]) rfl rfl (caV Jo) rfl (λw hw hp=>aK hr_ hp (hO.pre (is:=[0]) hw rfl) hz2) ?_
 rintro Γ6 _ _ hl7 ⟨row10,rfl,rfl,hr11,hr12,_⟩
 refine cwV 8 [_] (aV (k:=I3 ?_))
 refine Id (λσ w=>dO o3  = some r∧slots σ [(1,.func (.func 164) #[(pq gr_)] #[]),(5,ii o3.2)]∧CC F Γ6 [row10] w∧True) ?_ ?_
 ·
  refine I5 ?_
  obtain⟨A0_13,c0_13,hrow_13,ho0_13,ho1_13,ho2_13,-⟩:=id hr11
  refine ufC 0 hrow_13 [_] ?_
  refine drV ?_
  refine zV moV (k:=zV moV (k:=zV nlV (k:=zV (q_fl 0 jF) (k:=zV (ldV 0 J9) (k:=zV (ag rfl IZ) (k:=zV moV (k:=zV nlV (k:=?_))))))))
  refine zV (q_fl 1 fm) (k:=zV (ldV 0 Jc) (k:=zV fO (k:=zV bi (k:=?_))))
  refine Ij ?_
  change WC _ _ _ _ _ _
  refine ciV h (λhb14 h=>?_) (λhb14 h=>?_)
  ·
   refine I9 ?_
   refine sV (fl (v:=.agg #[]) rfl (λw=>by kernel_rfl)) (k:=sV (jM rfl rfl (λw=>mkif Jn w)) (k:=?_))
   refine jN (v:=.iface 194 (.agg #[])) rfl (d7 rfl rfl) ?_
   intro w hw
   cases h
   subst hF
   first | exact aR hw | exact λ_=>aR hw
  refine I7 ?_
  intro w hw
  have hw:=hw.fold (is:=[0]) rfl hrow_13
  exact⟨h,slK,hw,trivial⟩
 rintro σ w ⟨h,hsl,hw,-⟩
 refine slV hsl hw [_] ?_; clear hw hsl
 refine I4 (aV (k:=I3 (I5 (I4 (mV (k:=mV (k:=I3 ?_)))))))
 refine Ia ?_
 refine Io h (λ(i29:Nat) (s:(List Span)×aa) σ w=>match s with | (out_20,o25) => ∃(Γ18:Gh), ∃(A21:Option Addr), ∃(c22:Nat), ∃(row23:Rowb), ∃(row26:Rowb),slots σ [(1,.func (.func 164) #[(pq gr_)] #[]),(6,.slice A21 out_20.length c22),(23,ii o3.2),(24,ii (i29:Int))]∧CC F Γ18 [row23,row26] w∧Gh.le Γ6 Γ18∧Own gS Γ18 41 row23 A21 c22 out_20∧aa.ob er_ Bo gr_ row26 o25∧True) ?_ ?_
 ·
  intro w hw
  have hw:=hw.pad
  exact⟨Γ6,none,0,[],row10,slK,hw,gR,(Own.nil gS _ 41),hr11,trivial⟩
 rintro f28 i29 ⟨out_20,o25⟩ σ w hi30 hlt31 hge32 ⟨Γ18,A21,c22,row23,row26,hsl,hw,hl19,ho24,ho27,-⟩
 refine slV hsl hw [_,_] ?_; clear hw hsl
 refine I4 (sV aG (k:=I3 (I5 ?_)))
 refine coV (λhb33=>?_) (λhb33=>?_)
 ·
  have hl34:=ilti hb33
  have h:=hlt31 hl34
  refine I7 (wc_ (I5 (Ia ?_)))
  refine I9 ?_
  refine mV (k:=mU (v:=.func (.func 164) #[(pq gr_)] #[]) (k:=?_))
  obtain⟨z35,hz36,h⟩:=bnd h
  rcases z35 with _ | o37
  ·
   have h:=cQ rfl h
   refine fe (is:=[1]) rfl (eF (first:=#[(pq gr_)]) call164 rfl (by kernel_rfl) (by kernel_rfl)) rfl (λw hw hp=>lS ho27 hp (hO.pre (is:=[1]) hw rfl) hz36) ?_
   intro Γ38 hl39
   intro w hw
   cases h
   subst hF
   first | exact aR hw | exact λ_=>aR hw
  have h:=cP rfl h
  refine ik (is:=[1]) rfl rfl (eF (first:=#[(pq gr_)]) call164 rfl (by kernel_rfl) (by kernel_rfl)) rfl (λw hw hp=>lS ho27 hp (hO.pre (is:=[1]) hw rfl) hz36) ?_
  rintro Γ40 _ _ hl41 ⟨row44,rfl,rfl,hr45,hr46,_⟩
  refine cwV 28 [_,_] ?_
  refine bsV (Span.cs o37.2).toArray 41 λg47=>?_
  obtain⟨hk48,h⟩:=am h
  refine apV 2 [o37.2] vV (ho24.mono hl41) (Ip hk48) (λw hw=>bM (i:=0) rfl (by exact⟨rfl,hr46⟩) hw) ?_
  intro row49 A50 c51 ho52
  refine aV (k:=?_)
  refine I6 ?_
  change WC _ _ _ _ _ _
  refine I9 ?_
  refine sV (aF rfl rfl rfl (vW hl34 hr12)) (k:=mV (k:=?_))
  exact I6 λw hw=>⟨hl34,((out_20++[o37.2]),o37.1),h,Γ40,A50,c51,row49,row44,slK,(hw.on [2,1]),(hl19.trans hl41),ho52,hr45,trivial⟩
 have h:=hge32 (igei hb33)
 refine Ic ?_
 change WC _ _ _ _ _ _
 refine I4 (mV (k:=aV (k:=I3 ?_)))
 refine I8 ?_
 intro w hw
 cases h
 subst hF
 exact aL (is:=[1,0]) (by kernel_rfl) hw rfl ⟨row26,A21,c22,row23,rfl,rfl,ho27,ho24,trivial⟩
abbrev qw(Bo:Gh)(gr_:Nat)(er_:Nat)(r:aa×Ver)(U:List Rowb)(Γ:Gh)(v:Value):Prop := ∃(rowr_':Rowb), ∃(A0_2:Option Addr), ∃(c0_2:Nat),v = .agg #[.int .i64 r.2.dot.s,.int .i64 r.2.dot.n,.slice A0_2 r.2.past.length c0_2,.bool r.2.gone,.string r.2.val]∧U = [rowr_']∧aa.ob er_ Bo gr_ rowr_' r.1∧Ver.fits Γ A0_2 c0_2 r.2∧True
theorem mP{Bo:Gh}{gr_ er_:Nat}{rowr_:Rowb}{r_:aa}(hr_:aa.ob er_ Bo gr_ rowr_ r_)(hp:Pre [rowr_] Γ w0)(hpO:Pre [rowr_] Bo w0){r:Option (aa×Ver)}(h:ek r_=some r):Calls Tryz.prog 125 #[(pq gr_)] w0 (nj [{ v:=(.iface 194 (.agg #[])),recovered:=false }] Γ [rowr_] w0 (λr=>qw Bo gr_ er_ r) r):=by
 refine fH (N:=30) (rs:=[.cell 2 39]) (args:=[(pq gr_)]) func125 rfl ntmps125 results125 rfl ?_
 obtain⟨F,hF⟩:∃F:Fm,F=⟨ids [rowr_],w0,Γ⟩:=⟨_,rfl⟩
 refine Ik (C:=CC F Γ [rowr_]) ?_ (hF▸hp.start)
 have hO:Lent F Bo:=hF▸Lent.start hpO
 refine I4 ?_
 refine alV Jt λg1=>?_
 refine I3 (I4 (mV (k:=?_)))
 obtain⟨z2,hz3,h⟩:=bnd h
 rcases z2 with _ | o4
 ·
  have h:=cQ rfl h
  refine fe (is:=[1]) rfl (caV Jq) rfl (λw hw hp=>ir hr_ hp (hO.pre (is:=[1]) hw rfl) hz3) ?_
  intro Γ5 hl6
  intro w hw
  cases h
  subst hF
  first | exact aR hw | exact λ_=>aR hw
 have h:=cP rfl h
 refine ik (is:=[1]) rfl rfl (caV Jq) rfl (λw hw hp=>ir hr_ hp (hO.pre (is:=[1]) hw rfl) hz3) ?_
 rintro Γ7 _ _ hl8 ⟨row11,rfl,rfl,hr12,hr13,_⟩
 refine cwV 5 [_,_] (sV (aZ (v:=.agg #[ii o4.2,ii 0]) rfl (l7 rfl) (λw=>by kernel_rfl)) (k:=sV (aZ (v:=.agg #[ii o4.2,ii 0,.slice none 0 0,.bool false,.string ByteArray.empty]) rfl (l7 rfl) (λw=>by kernel_rfl)) (k:=?_)))
 refine alV Jt λg14=>?_
 refine stV 0 (.agg #[ii o4.2,ii 0,.slice none 0 0,.bool false,.string ByteArray.empty]) #[ii o4.2,ii 0,.slice none 0 0,.bool false,.string ByteArray.empty] Ju (k:=I3 (I4 (mV (k:=?_))))
 obtain⟨z15,hz16,h⟩:=bnd h
 rcases z15 with _ | o17
 ·
  have h:=cQ rfl h
  refine fe (is:=[1]) rfl (caV Jo) rfl (λw hw hp=>aK hr12 hp (hO.pre (is:=[1]) hw rfl) hz16) ?_
  intro Γ18 hl19
  intro w hw
  cases h
  subst hF
  first | exact aR hw | exact λ_=>aR hw
 have h:=cP rfl h
 refine ik (is:=[1]) rfl rfl (caV Jo) rfl (λw hw hp=>aK hr12 hp (hO.pre (is:=[1]) hw rfl) hz16) ?_
 rintro Γ20 _ _ hl21 ⟨row24,rfl,rfl,hr25,hr26,_⟩
 refine cwV 9 [_,_,_] (sV (q_fl 0 bO) (k:=sV (q_fl 1 cA) (k:=stV 1 (ii o17.2) #[ii o4.2,ii o17.2,.slice none 0 0,.bool false,.string ByteArray.empty] Jk (k:=I3 (I4 (mV (k:=mV (k:=?_))))))))
 refine sV (gE (v:=.func (.func 164) #[(pq gr_)] #[]) rfl (by kernel_rfl)) (k:=?_)
 obtain⟨z27,hz28,h⟩:=bnd h
 rcases z27 with _ | o29
 ·
  have h:=cQ rfl h
  refine fe (is:=[0]) rfl (caV call163) rfl (λw hw hp=>lc hr25 hp (hO.pre (is:=[0]) hw rfl) hz28) ?_
  intro Γ30 hl31
  intro w hw
  cases h
  subst hF
  first | exact aR hw | exact λ_=>aR hw
 have h:=cP rfl h
 refine ik (is:=[0]) rfl rfl (caV call163) rfl (λw hw hp=>lc hr25 hp (hO.pre (is:=[0]) hw rfl) hz28) ?_
 rintro Γ32 _ _ hl33 ⟨row36,A38,c39,row40,rfl,rfl,hr37,hr41,_⟩
 refine cwV 15 [_,_,_,_] (sV (q_fl 2 fI) (k:=stV 2 (.slice A38 o29.2.length c39) #[ii o4.2,ii o17.2,.slice A38 o29.2.length c39,.bool false,.string ByteArray.empty] sizeOf37 (k:=I3 ?_)))
 refine Id (λσ w => ∃(x44:Bool), ∃(x45:ByteArray), ∃(o47:aa), ∃(Γ42:Gh), ∃(row48:Rowb),dK o4 o17 o29 x44 x45 o47=some r∧slots σ [(2,(pq g1)),(3,(pq g14))]∧CC F Γ42 [row48,row40,[(g14,.cells #[ii o4.2,ii o17.2,.slice A38 o29.2.length c39,.bool x44,.string x45] 39 (0,0))],[(g1,.cells #[ii 0,ii 0,.slice none 0 0,.bool false,.string ByteArray.empty] 39 (0,0))]] w∧Gh.le Γ32 Γ42∧x45.size≤lim∧aa.ob er_ Bo gr_ row48 o47∧True) ?_ ?_
 ·
  refine I4 (mV (k:=?_))
  obtain⟨z50,hz51,h⟩:=bnd h
  rcases z50 with _ | o52
  ·
   have h:=cQ rfl h
   refine fe (is:=[0]) rfl (caV Jo) rfl (λw hw hp=>aK hr37 hp (hO.pre (is:=[0]) hw rfl) hz51) ?_
   intro Γ53 hl54
   intro w hw
   cases h
   subst hF
   first | exact aR hw | exact λ_=>aR hw
  have h:=cP rfl h
  refine ik (is:=[0]) rfl rfl (caV Jo) rfl (λw hw hp=>aK hr37 hp (hO.pre (is:=[0]) hw rfl) hz51) ?_
  rintro Γ55 _ _ hl56 ⟨row59,rfl,rfl,hr60,hr61,_⟩
  refine cwV 18 [_,_,_,_] (I3 (Ia (I4 (sV bp (k:=aV (k:=I3 ?_))))))
  refine ciV h (λhb62 h=>?_) (λhb62 h=>?_)
  ·
   refine I9 ?_
   refine mV (k:=?_)
   obtain⟨z63,hz64,h⟩:=bnd h
   rcases z63 with _ | o65
   ·
    have h:=cQ rfl h
    refine fe (is:=[0]) rfl (caV Jv) rfl (λw hw hp=>gI hr60 hp (hO.pre (is:=[0]) hw rfl) hz64) ?_
    intro Γ66 hl67
    intro w hw
    cases h
    subst hF
    first | exact aR hw | exact λ_=>aR hw
   have h:=cP rfl h
   refine ik (is:=[0]) rfl rfl (caV Jv) rfl (λw hw hp=>gI hr60 hp (hO.pre (is:=[0]) hw rfl) hz64) ?_
   rintro Γ68 _ _ hl69 ⟨row72,rfl,rfl,hr73,hr74,_⟩
   refine cwV 24 [_,_,_,_] (sV (q_fl 4 jw) (k:=stV 2 (.string o65.2) #[ii o4.2,ii o17.2,.slice A38 o29.2.length c39,.bool false,.string o65.2] Ji (k:=?_)))
   exact I6 λw hw=>⟨false,o65.2,o65.1,Γ68,row72,h,slK,hw,(hl56.trans hl69),hr74,hr73,trivial⟩
  refine I4 (sV bp (k:=aV (k:=I3 ?_)))
  refine ciV h (λhb75 h=>?_) (λhb75 h=>?_)
  ·
   refine I9 ?_
   refine sV (q_fl 3 jC) (k:=stV 2 (.bool true) #[ii o4.2,ii o17.2,.slice A38 o29.2.length c39,.bool true,.string ByteArray.empty] Jw (k:=?_))
   exact I6 λw hw=>⟨true,ByteArray.empty,o52.1,Γ55,row59,h,slK,hw,hl56,(show (ByteArray.empty:ByteArray).size≤lim by decide),hr60,trivial⟩
  refine I9 ?_
  refine sV (fl (v:=.agg #[]) rfl (λw=>by kernel_rfl)) (k:=sV (jM rfl rfl (λw=>mkif Jn w)) (k:=?_))
  refine jN (v:=.iface 194 (.agg #[])) rfl (d7 rfl rfl) ?_
  intro w hw
  cases h
  subst hF
  first | exact aR hw | exact λ_=>aR hw
 rintro σ w ⟨x44,x45,o47,Γ42,row48,h,hsl,hw,hl43,hr46,ho49,-⟩
 refine slV hsl hw [_,_,_,_] ?_; clear hw hsl
 refine I4 (sV (ldaV 2 [ii o4.2,ii o17.2,.slice A38 o29.2.length c39,.bool x44,.string x45] Jx Ju) (k:=stV 3 (.agg #[ii o4.2,ii o17.2,.slice A38 o29.2.length c39,.bool x44,.string x45]) #[ii o4.2,ii o17.2,.slice A38 o29.2.length c39,.bool x44,.string x45] Ju (k:=I3 ?_)))
 refine I8 ?_
 intro w hw
 have hc82:=(hr41.mono hl43).capz
 obtain⟨Γ78,hw,hl79,hr80⟩:=hw.seal (i:=1) rfl; have hs81:=(hr41.mono hl43).sl hl79 hr80
 cases h
 subst hF
 exact⟨[.agg #[ii o4.2,ii o17.2,.slice A38 o29.2.length c39,.bool x44,.string x45]],(j8 (i:=3) (us:=[ii o4.2,ii o17.2,.slice A38 o29.2.length c39,.bool x44,.string x45]) hw rfl Jx Ju (by kernel_rfl) rfl jh),aL (is:=[0]) (by kernel_rfl) hw rfl ⟨row48,A38,c39,rfl,rfl,ho49,⟨hr13,hr26,⟨hc82,hs81⟩,hr46⟩,trivial⟩⟩
abbrev pP(Bo:Gh)(gr_:Nat)(er_:Nat)(r:aa×(List Ver))(U:List Rowb)(Γ:Gh)(v:Value):Prop := ∃(rowr_':Rowb), ∃(A0:Option Addr), ∃(c0:Nat), ∃(row0:Rowb),v = .slice A0 r.2.length c0∧U = [rowr_',row0]∧aa.ob er_ Bo gr_ rowr_' r.1∧Own verT Γ 39 row0 A0 c0 r.2∧True
theorem lB{Bo:Gh}{gr_ er_:Nat}{rowr_:Rowb}{r_:aa}(hr_:aa.ob er_ Bo gr_ rowr_ r_)(hp:Pre [rowr_] Γ w0)(hpO:Pre [rowr_] Bo w0){r:Option (aa×(List Ver))}(h:cX r_=some r):Calls Tryz.prog 124 #[(pq gr_),.func (.func 125) #[(pq gr_)] #[]] w0 (nj [{ v:=(.iface 194 (.agg #[])),recovered:=false }] Γ [rowr_] w0 (λr=>pP Bo gr_ er_ r) r):=by
 refine goV [4] func124 ntmps124 results124 hp λF hF=>?_
 have hO:Lent F Bo:=hF▸Lent.start hpO
 refine I4 (aV (k:=I3 (I4 (mV (k:=?_)))))
 obtain⟨z1,hz2,h⟩:=bnd h
 rcases z1 with _ | o3
 ·
  have h:=cQ rfl h
  refine fe (is:=[0]) rfl (caV Jo) rfl (λw hw hp=>aK hr_ hp (hO.pre (is:=[0]) hw rfl) hz2) ?_
  intro Γ4 hl5
  intro w hw
  cases h
  subst hF
  first | exact aR hw | exact λ_=>aR hw
 have h:=cP rfl h
 refine ik (is:=[0]) rfl rfl (caV Jo) rfl (λw hw hp=>aK hr_ hp (hO.pre (is:=[0]) hw rfl) hz2) ?_
 rintro Γ6 _ _ hl7 ⟨row10,rfl,rfl,hr11,hr12,_⟩
 refine cwV 8 [_] (aV (k:=I3 ?_))
 refine Id (λσ w=>dY o3  = some r∧slots σ [(1,.func (.func 125) #[(pq gr_)] #[]),(5,ii o3.2)]∧CC F Γ6 [row10] w∧True) ?_ ?_
 ·
  refine I5 ?_
  obtain⟨A0_13,c0_13,hrow_13,ho0_13,ho1_13,ho2_13,-⟩:=id hr11
  refine ufC 0 hrow_13 [_] ?_
  refine drV ?_
  refine zV moV (k:=zV moV (k:=zV nlV (k:=zV (q_fl 0 jF) (k:=zV (ldV 0 J9) (k:=zV (ag rfl IZ) (k:=zV moV (k:=zV nlV (k:=?_))))))))
  refine zV (q_fl 1 fm) (k:=zV (ldV 0 Jc) (k:=zV fO (k:=zV bi (k:=?_))))
  refine Ij ?_
  change WC _ _ _ _ _ _
  refine ciV h (λhb14 h=>?_) (λhb14 h=>?_)
  ·
   refine I9 ?_
   refine sV (fl (v:=.agg #[]) rfl (λw=>by kernel_rfl)) (k:=sV (jM rfl rfl (λw=>mkif Jn w)) (k:=?_))
   refine jN (v:=.iface 194 (.agg #[])) rfl (d7 rfl rfl) ?_
   intro w hw
   cases h
   subst hF
   first | exact aR hw | exact λ_=>aR hw
  refine I7 ?_
  intro w hw
  have hw:=hw.fold (is:=[0]) rfl hrow_13
  exact⟨h,slK,hw,trivial⟩
 rintro σ w ⟨h,hsl,hw,-⟩
 refine slV hsl hw [_] ?_; clear hw hsl
 refine I4 (aV (k:=I3 (I5 (I4 (mV (k:=mV (k:=I3 ?_)))))))
 refine Ia ?_
 refine Io h (λ(i29:Nat) (s:(List Ver)×aa) σ w=>match s with | (out_20,o25) => ∃(Γ18:Gh), ∃(A21:Option Addr), ∃(c22:Nat), ∃(row23:Rowb), ∃(row26:Rowb),slots σ [(1,.func (.func 125) #[(pq gr_)] #[]),(6,.slice A21 out_20.length c22),(23,ii o3.2),(24,ii (i29:Int))]∧CC F Γ18 [row23,row26] w∧Gh.le Γ6 Γ18∧Own verT Γ18 39 row23 A21 c22 out_20∧aa.ob er_ Bo gr_ row26 o25∧True) ?_ ?_
 ·
  intro w hw
  have hw:=hw.pad
  exact⟨Γ6,none,0,[],row10,slK,hw,gR,(Own.nil verT _ 39),hr11,trivial⟩
 rintro f28 i29 ⟨out_20,o25⟩ σ w hi30 hlt31 hge32 ⟨Γ18,A21,c22,row23,row26,hsl,hw,hl19,ho24,ho27,-⟩
 refine slV hsl hw [_,_] ?_; clear hw hsl
 refine I4 (sV aG (k:=I3 (I5 ?_)))
 refine coV (λhb33=>?_) (λhb33=>?_)
 ·
  have hl34:=ilti hb33
  have h:=hlt31 hl34
  refine I7 (wc_ (I5 (Ia ?_)))
  refine I9 ?_
  refine mV (k:=mU (v:=.func (.func 125) #[(pq gr_)] #[]) (k:=?_))
  obtain⟨z35,hz36,h⟩:=bnd h
  rcases z35 with _ | o37
  ·
   have h:=cQ rfl h
   refine fe (is:=[1]) rfl (eF (first:=#[(pq gr_)]) call125 rfl (by kernel_rfl) (by kernel_rfl)) rfl (λw hw hp=>mP ho27 hp (hO.pre (is:=[1]) hw rfl) hz36) ?_
   intro Γ38 hl39
   intro w hw
   cases h
   subst hF
   first | exact aR hw | exact λ_=>aR hw
  have h:=cP rfl h
  refine ik (is:=[1]) rfl rfl (eF (first:=#[(pq gr_)]) call125 rfl (by kernel_rfl) (by kernel_rfl)) rfl (λw hw hp=>mP ho27 hp (hO.pre (is:=[1]) hw rfl) hz36) ?_
  rintro Γ40 _ _ hl41 ⟨row44,A46,c47,rfl,rfl,hr45,hr48,_⟩
  refine cwV 28 [_,_] ?_
  refine bsV (Ver.cs A46 c47 o37.2).toArray 39 λg49=>?_
  obtain⟨hk50,h⟩:=am h
  refine apV 2 [o37.2] vZ (ho24.mono hl41) (Ip hk50) (λw hw=>bM (i:=0) rfl (by exact⟨A46,c47,rfl,hr48⟩) hw) ?_
  intro row51 A52 c53 ho54
  refine aV (k:=?_)
  refine I6 ?_
  change WC _ _ _ _ _ _
  refine I9 ?_
  refine sV (aF rfl rfl rfl (vW hl34 hr12)) (k:=mV (k:=?_))
  exact I6 λw hw=>⟨hl34,((out_20++[o37.2]),o37.1),h,Γ40,A52,c53,row51,row44,slK,(hw.on [2,1]),(hl19.trans hl41),ho54,hr45,trivial⟩
 have h:=hge32 (igei hb33)
 refine Ic ?_
 change WC _ _ _ _ _ _
 refine I4 (mV (k:=aV (k:=I3 ?_)))
 refine I8 ?_
 intro w hw
 cases h
 subst hF
 exact aL (is:=[1,0]) (by kernel_rfl) hw rfl ⟨row26,A21,c22,row23,rfl,rfl,ho27,ho24,trivial⟩
abbrev rb(Bo:Gh)(gr_:Nat)(er_:Nat)(r:aa×Rec)(U:List Rowb)(Γ:Gh)(v:Value):Prop := ∃(rowr_':Rowb), ∃(A0_1:Option Addr), ∃(c0_1:Nat),v = .agg #[.string r.2.key,.slice A0_1 r.2.vers.length c0_1]∧U = [rowr_']∧aa.ob er_ Bo gr_ rowr_' r.1∧Rec.fits Γ A0_1 c0_1 r.2∧True
theorem n0{Bo:Gh}{gr_ er_:Nat}{rowr_:Rowb}{r_:aa}(hr_:aa.ob er_ Bo gr_ rowr_ r_)(hp:Pre [rowr_] Γ w0)(hpO:Pre [rowr_] Bo w0){r:Option (aa×Rec)}(h:ef r_=some r):Calls Tryz.prog 78 #[(pq gr_)] w0 (nj [{ v:=(.iface 194 (.agg #[])),recovered:=false }] Γ [rowr_] w0 (λr=>rb Bo gr_ er_ r) r):=by
 refine fH (N:=12) (rs:=[.cell 2 24]) (args:=[(pq gr_)]) func78 rfl ntmps78 results78 rfl ?_
 obtain⟨F,hF⟩:∃F:Fm,F=⟨ids [rowr_],w0,Γ⟩:=⟨_,rfl⟩
 refine Ik (C:=CC F Γ [rowr_]) ?_ (hF▸hp.start)
 have hO:Lent F Bo:=hF▸Lent.start hpO
 refine I4 ?_
 refine alV Jy λg1=>?_
 refine I3 (I4 (mV (k:=?_)))
 obtain⟨z2,hz3,h⟩:=bnd h
 rcases z2 with _ | o4
 ·
  have h:=cQ rfl h
  refine fe (is:=[1]) rfl (caV Jv) rfl (λw hw hp=>gI hr_ hp (hO.pre (is:=[1]) hw rfl) hz3) ?_
  intro Γ5 hl6
  intro w hw
  cases h
  subst hF
  first | exact aR hw | exact λ_=>aR hw
 have h:=cP rfl h
 refine ik (is:=[1]) rfl rfl (caV Jv) rfl (λw hw hp=>gI hr_ hp (hO.pre (is:=[1]) hw rfl) hz3) ?_
 rintro Γ7 _ _ hl8 ⟨row11,rfl,rfl,hr12,hr13,_⟩
 refine cwV 5 [_,_] (aV (k:=I3 (I4 (mV (k:=mV (k:=mV (k:=sV (gE (v:=.func (.func 125) #[(pq gr_)] #[]) rfl (by kernel_rfl)) (k:=?_))))))))
 obtain⟨z14,hz15,h⟩:=bnd h
 rcases z14 with _ | o16
 ·
  have h:=cQ rfl h
  refine fe (is:=[0]) rfl (caV call124) rfl (λw hw hp=>lB hr12 hp (hO.pre (is:=[0]) hw rfl) hz15) ?_
  intro Γ17 hl18
  intro w hw
  cases h
  subst hF
  first | exact aR hw | exact λ_=>aR hw
 have h:=cP rfl h
 refine ik (is:=[0]) rfl rfl (caV call124) rfl (λw hw hp=>lB hr12 hp (hO.pre (is:=[0]) hw rfl) hz15) ?_
 rintro Γ19 _ _ hl20 ⟨row23,A25,c26,row27,rfl,rfl,hr24,hr28,_⟩
 refine cwV 10 [_,_,_] (sV (aZ (v:=.agg #[.string o4.2,.slice A25 o16.2.length c26]) rfl (jI rfl rfl) (λw=>by kernel_rfl)) (k:=stV 2 (.agg #[.string o4.2,.slice A25 o16.2.length c26]) #[.string o4.2,.slice A25 o16.2.length c26] Jz (k:=I3 ?_)))
 refine I8 ?_
 intro w hw
 have hc33:=hr28.capz
 obtain⟨Γ29,hw,hl30,hr31⟩:=hw.seal (i:=1) rfl; have hs32:=hr28.sl hl30 hr31
 cases h
 subst hF
 exact⟨[.agg #[.string o4.2,.slice A25 o16.2.length c26]],(j8 (i:=2) (us:=[.string o4.2,.slice A25 o16.2.length c26]) hw rfl JA Jz (by kernel_rfl) rfl jh),aL (is:=[0]) (by kernel_rfl) hw rfl ⟨row23,A25,c26,rfl,rfl,hr24,⟨hr13,⟨hc33,hs32⟩⟩,trivial⟩⟩
abbrev oU(r:Rec×Int)(U:List Rowb)(Γ:Gh)(v:Value):Prop := ∃(A0_1:Option Addr), ∃(c0_1:Nat),v = .tuple #[.agg #[.string r.1.key,.slice A0_1 r.1.vers.length c0_1],.int .i64 r.2]∧U = []∧Rec.fits Γ A0_1 c0_1 r.1∧I64 r.2∧True
theorem oD{B:Gh}{Ab:Option Addr}{cb:Nat}{b:List UInt8}(hb:Sl av B Ab b)(hbc:b.length≤cb)(hp:Pre [] Γ w0)(hpB:Pre [] B w0){r:Rec×Int}(h:f0 b=some r):Calls Tryz.prog 77 #[.slice Ab b.length cb,.func (.func 78) #[] #[],.func (.func 79) #[] #[]] w0 (Outc Γ [] w0 (oU r)):=by
 refine wq (n:=32) (args:=[.slice Ab b.length cb,.func (.func 78) #[] #[],.func (.func 79) #[] #[]]) func77 rfl ntmps77 rfl ?_
 obtain⟨F,hF⟩:∃F:Fm,F=⟨ids [],w0,Γ⟩:=⟨_,rfl⟩
 refine WX.here (C:=CC F Γ []) ?_ (hF▸hp.start)
 have hB:Lent F B:=hF▸Lent.start hpB
 refine WX.seq ?_
 refine I9 ?_
 refine alV Jy λg1=>?_
 refine alV zeroValue30 λg2=>?_
 refine I6 ?_
 change WX _ _ _ _ _ _ _
 refine WX.defer (v:=.func (.func 122) #[] #[(pq g1),(pq g2)]) (d:=⟨.fn (.func 122) #[(pq g1),(pq g2)], #[]⟩) rfl rfl rfl rfl (gE (v:=.func (.func 122) #[] #[(pq g1),(pq g2)]) rfl (by kernel_rfl)) (xG rfl rfl) ?_
 refine WX.last ?_
 change WC _ _ _ _ _ _
 refine I4 (mV (k:=sV (aZ (v:=.agg #[.slice Ab b.length cb,ii 0]) rfl (l7 rfl) (λw=>by kernel_rfl)) (k:=?_)))
 refine bxV (v:=.agg #[.slice Ab b.length cb,ii 0]) λg3=>?_
 refine aV (k:=I3 (I4 (mU (v:=.func (.func 78) #[] #[]) (k:=mV (k:=?_)))))
 obtain⟨row_4,hrow_4,hob_4⟩:∃rw:Rowb,rw=([[(g3,.cells #[.slice Ab b.length cb,ii 0] 196 (0,0))]]:List Rowb).flatten∧aa.ob 196 B g3 rw (⟨b,0⟩:aa):=⟨_,rfl,Ab,cb,rfl,hbc,hb,iV,trivial⟩
 refine foR [0] hrow_4 [_,_,_] ?_
 obtain⟨z5,hz6,h⟩:=bnd h
 rcases z5 with _ | o7
 ·
  have h:=cQ rfl h
  refine fe (is:=[0]) rfl (gc (caps:=#[]) call78 rfl (by kernel_rfl) (by kernel_rfl)) rfl (λw hw hp=>n0 hob_4 hp (hB.pre (is:=[0]) hw rfl) hz6) ?_
  intro Γ8 hl9
  change ∀w,CC F Γ8 [[(g2,.cells #[ii 0] 30 (0,0))],[(g1,.cells #[.string ByteArray.empty,.slice none 0 0] 24 (0,0))]] w→_
  obtain⟨z10,hz11,h⟩:=bnd h
  refine pK (rs:=[.cell 6 24,.cell 7 30]) (is:=[1,0]) JI (nA call122) rfl rfl (λw hp=>fX ByteArray.empty (show (ByteArray.empty:ByteArray).size≤lim by decide) (Sl.nil verT _ none) (IH 0) 0 iV hp hz11) ?_
  rintro Γ12 _ _ hl13 ⟨A17,c18,rfl,rfl,hr16,hc20,hr19,hr21,_⟩
  change WRt _ _ _ (CC F Γ12 [_,_]) _
  unfold WRt
  intro w hw
  cases h
  subst hF
  exact⟨[.agg #[.string z10.1,.slice A17 z10.2.1.length c18],ii z10.2.2],(j8 (i:=0) (us:=[.string z10.1,.slice A17 z10.2.1.length c18]) hw rfl JA Jz (by kernel_rfl) rfl (rC (i:=1) hw rfl isAgg30 (by kernel_rfl) rfl jh)),aL (is:=[]) (by kernel_rfl) hw rfl ⟨A17,c18,rfl,rfl,⟨hr16,⟨hc20,hr19⟩⟩,hr21,trivial⟩⟩
 have h:=cP rfl h
 refine ik (is:=[0]) rfl rfl (gc (caps:=#[]) call78 rfl (by kernel_rfl) (by kernel_rfl)) rfl (λw hw hp=>n0 hob_4 hp (hB.pre (is:=[0]) hw rfl) hz6) ?_
 rintro Γ22 _ _ hl23 ⟨row26,A28,c29,rfl,rfl,hr27,hr30,_⟩
 refine cwV 15 [_,_,_] (stV 2 (.agg (Rec.cs A28 c29 o7.2).toArray) (Rec.cs A28 c29 o7.2).toArray Jz (k:=I3 ?_))
 refine Id (λσ w=>dI o7  = some r∧slots σ [(6,(pq g1)),(7,(pq g2))]∧CC F Γ22 [row26,[(g2,.cells #[ii 0] 30 (0,0))],[(g1,.cells (Rec.cs A28 c29 o7.2).toArray 24 (0,0))]] w∧True) ?_ ?_
 ·
  refine I4 (mV (k:=sV nlV (k:=sV (q_fl 1 fm) (k:=?_))))
  obtain⟨A0_31,c0_31,hrow_31,ho0_31,ho1_31,ho2_31,-⟩:=id hr27
  refine ufR 0 hrow_31 [_,_,_] ?_
  refine sV (ldV 0 Jc) (k:=mV (k:=sV (ag rfl IZ) (k:=sV bD (k:=mV (k:=vG0 (h:=λhg32=>bv (v:=.func (.func 79) #[] #[]) rfl (by kernel_rfl)) (k:=vG0 (h:=λhg33=>ldaV 2 (Rec.cs A28 c29 o7.2) JA Jz) (k:=?_)))))))
  obtain⟨z35,hz36,h⟩:=bnd h
  refine vC0 (h:=λhg34=>bK (gc (caps:=#[]) (args:=#[.agg (Rec.cs A28 c29 o7.2).toArray]) call79 rfl (grV hg34) ((congrArg (· ++ #[]) (lT (grV hg34))).trans (by kernel_rfl))) (λw hw=>kZ (Γ:=Gh.all w) o7.2 (Rec.fits_mono hr30 hw.sat.le_all) (Sat.all w) (jv hz36 hg34))) (k:=vG0 (h:=λhg37=>cY rfl (grV hg37)) (k:=sV pkO (k:=I3 ?_)))
  refine ciV h (λhb38 h=>?_) (λhb38 h=>?_)
  ·
   refine I9 ?_
   refine sV (fl (v:=.agg #[]) rfl (λw=>by kernel_rfl)) (k:=sV (jM rfl rfl (λw=>mkif Jn w)) (k:=?_))
   refine jN (v:=.iface 194 (.agg #[])) rfl (d7 rfl rfl) ?_
   change ∀w,CC F Γ22 [[(g3,.cells #[.slice A0_31 o7.1.b.length c0_31,ii o7.1.at_] 196 (0,0))],[(g2,.cells #[ii 0] 30 (0,0))],[(g1,.cells (Rec.cs A28 c29 o7.2).toArray 24 (0,0))]] w→_
   obtain⟨z41,hz42,h⟩:=bnd h
   refine pK (rs:=[.cell 6 24,.cell 7 30]) (is:=[2,1]) JI (nA call122) rfl rfl (λw hp=>fX o7.2.key hr30.1 hr30.2.2 hr30.2.1 0 iV hp hz42) ?_
   rintro Γ43 _ _ hl44 ⟨A48,c49,rfl,rfl,hr47,hc51,hr50,hr52,_⟩
   change WRt _ _ _ (CC F Γ43 [_,_,_]) _
   unfold WRt
   intro w hw
   cases h
   subst hF
   exact⟨[.agg #[.string z41.1,.slice A48 z41.2.1.length c49],ii z41.2.2],(j8 (i:=0) (us:=[.string z41.1,.slice A48 z41.2.1.length c49]) hw rfl JA Jz (by kernel_rfl) rfl (rC (i:=1) hw rfl isAgg30 (by kernel_rfl) rfl jh)),aL (is:=[]) (by kernel_rfl) hw rfl ⟨A48,c49,rfl,rfl,⟨hr47,⟨hc51,hr50⟩⟩,hr52,trivial⟩⟩
  refine I7 ?_
  intro w hw
  have hw:=hw.fold (is:=[0]) rfl hrow_31
  exact⟨h,slK,hw,trivial⟩
 rintro σ w ⟨h,hsl,hw,-⟩
 refine slV hsl hw [_,_,_] ?_; clear hw hsl
 refine I4 (sV (ldaV 2 (Rec.cs A28 c29 o7.2) JA Jz) (k:=stV 2 (.agg (Rec.cs A28 c29 o7.2).toArray) (Rec.cs A28 c29 o7.2).toArray Jz (k:=stV 1 (ii 0) #[ii 0] sizeOf30 (k:=I3 ?_))))
 refine I8 ?_
 refine zp (rs:=[.cell 6 24,.cell 7 30]) JI (nA call122) (zc ((pq g1)) ((pq g2))) ?_
 unfold WRt
 intro w hw
 cases h
 subst hF
 exact⟨[.agg (Rec.cs A28 c29 o7.2).toArray,ii 0],(j8 (i:=2) (us:=(Rec.cs A28 c29 o7.2)) hw rfl JA Jz (by kernel_rfl) rfl (rC (i:=1) hw rfl isAgg30 (by kernel_rfl) rfl jh)),aL (is:=[]) (by kernel_rfl) hw rfl ⟨A28,c29,rfl,rfl,hr30,iV,trivial⟩⟩
abbrev AW(r:Rec×Int)(U:List Rowb)(Γ:Gh)(v:Value):Prop := ∃(A0_1:Option Addr), ∃(c0_1:Nat),v = .tuple #[.agg #[.string r.1.key,.slice A0_1 r.1.vers.length c0_1],.int .i64 r.2]∧U = []∧Rec.fits Γ A0_1 c0_1 r.1∧I64 r.2∧True
theorem B9{Ab:Option Addr}{cb:Nat}{b:List UInt8}(hb:Sl av Γ Ab b)(hbc:b.length≤cb)(hp:Pre [] Γ w0){r:Rec×Int}(h:eN b=some r):Calls Tryz.prog 34 #[.slice Ab b.length cb] w0 (Outc Γ [] w0 (AW r)):=by
 refine fH (N:=8) (rs:=[.cell 2 24,.tmp 3]) (args:=[.slice Ab b.length cb]) func34 rfl ntmps34 results34 rfl ?_
 obtain⟨F,hF⟩:∃F:Fm,F=⟨ids [],w0,Γ⟩:=⟨_,rfl⟩
 refine Ik (C:=CC F Γ []) ?_ (hF▸hp.start)
 refine I4 ?_
 refine alV Jy λg1=>?_
 refine aV (k:=I3 (I4 (mV (k:=?_))))
 obtain⟨z2,hz3,h⟩:=bnd h
 refine ecV [] (caV call77) (λw hp=>qW hb hbc hp hz3) ?_
 rintro Γ4 _ _ hl5 ⟨A8,c9,rfl,rfl,hr10,hr11,_⟩
 refine cwV 5 [_] (sV exV (k:=sV exV (k:=stV 0 (.agg (Rec.cs A8 c9 z2.1).toArray) (Rec.cs A8 c9 z2.1).toArray Jz (k:=aV (k:=I3 ?_)))))
 refine I8 ?_
 intro w hw
 cases h
 subst hF
 exact⟨[.agg (Rec.cs A8 c9 z2.1).toArray,ii z2.2],(j8 (i:=0) (us:=(Rec.cs A8 c9 z2.1)) hw rfl JA Jz (by kernel_rfl) rfl (yL (by kernel_rfl) jh)),aL (is:=[]) (by kernel_rfl) hw rfl ⟨A8,c9,rfl,rfl,hr10,hr11,trivial⟩⟩
abbrev xj(r:Rec×Int)(U:List Rowb)(Γ:Gh)(v:Value):Prop := ∃(A0_1:Option Addr), ∃(c0_1:Nat),v = .tuple #[.agg #[.string r.1.key,.slice A0_1 r.1.vers.length c0_1],.int .i64 r.2]∧U = []∧Rec.fits Γ A0_1 c0_1 r.1∧I64 r.2∧True
theorem sb{B:Gh}{Ab:Option Addr}{cb:Nat}{b:List UInt8}(hb:Sl av B Ab b)(hbc:b.length≤cb)(hp:Pre [] Γ w0)(hpB:Pre [] B w0){r:Rec×Int}(h:eN b=some r):Calls Tryz.prog 34 #[.slice Ab b.length cb] w0 (Outc Γ [] w0 (xj r)):=by
 refine fH (N:=8) (rs:=[.cell 2 24,.tmp 3]) (args:=[.slice Ab b.length cb]) func34 rfl ntmps34 results34 rfl ?_
 obtain⟨F,hF⟩:∃F:Fm,F=⟨ids [],w0,Γ⟩:=⟨_,rfl⟩
 refine Ik (C:=CC F Γ []) ?_ (hF▸hp.start)
 have hB:Lent F B:=hF▸Lent.start hpB
 refine I4 ?_
 refine alV Jy λg1=>?_
 refine aV (k:=I3 (I4 (mV (k:=?_))))
 obtain⟨z2,hz3,h⟩:=bnd h
 refine jV (is:=[]) hB rfl rfl (caV call77) rfl (λw Θ hp hpB hle hleB hR=>oD (hb.mono hleB) hbc hp hpB hz3) ?_
 rintro Γ4 _ _ hl5 ⟨A8,c9,rfl,rfl,hr10,hr11,_⟩
 refine cwV 5 [_] (sV exV (k:=sV exV (k:=stV 0 (.agg (Rec.cs A8 c9 z2.1).toArray) (Rec.cs A8 c9 z2.1).toArray Jz (k:=aV (k:=I3 ?_)))))
 refine I8 ?_
 intro w hw
 cases h
 subst hF
 exact⟨[.agg (Rec.cs A8 c9 z2.1).toArray,ii z2.2],(j8 (i:=0) (us:=(Rec.cs A8 c9 z2.1)) hw rfl JA Jz (by kernel_rfl) rfl (yL (by kernel_rfl) jh)),aL (is:=[]) (by kernel_rfl) hw rfl ⟨A8,c9,rfl,rfl,hr10,hr11,trivial⟩⟩
abbrev tS(gs_:Nat)(es_:Nat×Nat)(r:ae)(U:List Rowb)(Γ:Gh)(v:Value):Prop := ∃(rows_':Rowb),v = .tuple #[]∧U = [rows_']∧ae.ob es_ Γ gs_ rows_' r∧True
theorem nT{gs_:Nat}{es_:Nat×Nat}{rows_:Rowb}{s_:ae}(hs_:ae.ob es_ Γ gs_ rows_ s_){Ar_1:Option Addr}{cr_1:Nat}(r_:Rec)(hr_:Rec.fits Γ Ar_1 cr_1 r_){Ab:Option Addr}{cb:Nat}{b:List UInt8}(hb:Sl av Γ Ab b)(hbc:b.length≤cb)(hp:Pre [rows_] Γ w0){r:ae}(h:ey s_ r_ b=some r):Calls Tryz.prog 35 #[(pq gs_),.agg (Rec.cs Ar_1 cr_1 r_).toArray,.slice Ab b.length cb] w0 (Outc Γ [rows_] w0 (tS gs_ es_ r)):=by
 refine goV [] func35 ntmps35 results35 hp λF hF=>?_
 refine I4 ?_
 refine bxV (v:=.agg (Rec.cs Ar_1 cr_1 r_).toArray) λg1=>?_
 refine I3 (I5 ?_)
 refine leV λh02=>?_
 refine dW (CC F Γ [[(g1,.cells (Rec.cs Ar_1 cr_1 r_).toArray 24 (0,0))]]) (bo_ [0] gR h02) λk=>?_
 change WH _ _ _ _ (CC F Γ [_,_]) _ 7 _ _
 refine hV 0 k (q:=moV) (k:=hV 1 k (q:=nlV) (k:=hV 2 k (q:=q_fl 1 kT) (k:=hV 4 k (q:=q_fl 0 cV) (k:=hV 5 k (q:=ldV 0 IY) (k:=wl_ 3 rfl ?_)))))
 obtain⟨g0_3,r0_3,m1_3,r1_3,hrow_3,ho0_3,ho1_3,-⟩:=id hs_
 refine ufR 1 hrow_3 [_,_,_,_] ?_
 refine sV (ldV 0 JJ) (k:=?_)
 refine I6 (nxV (bo_ [3] gR h02) λk=>?_)
 refine wl_ 6 rfl ?_
 refine wX (i:=2) (x:=r_.key) rfl ho1_3 rfl rfl rfl JK rfl rfl ?_
 intro row4 hm5
 refine I6 (nxV (bo_ [3] gR h02) λk=>?_)
 refine Ig (by kernel_rfl) ?_
 change WC _ _ _ _ _ _
 refine I4 (sV (q_fl 1 ci) (k:=sV (ldV 3 JH) (k:=sV (ag rfl JE) (k:=sV bi (k:=I3 ?_)))))
 refine ciV h (λhb6 h=>?_) (λhb6 h=>?_)
 ·
  refine leV λh07=>?_
  refine dW (CC F Γ [[(gs_,.cells #[(pq g0_3),.map (some m1_3)] es_.1 (0,0))],[(g1,.cells (Rec.cs Ar_1 cr_1 r_).toArray 24 (0,0))]]) (bo_ [0,2] gR h07) λk=>?_
  change WH _ _ _ _ (CC F Γ [_,_,_,_]) _ 8 _ _
  refine hV 0 k (q:=moV) (k:=hV 1 k (q:=nlV) (k:=hV 2 k (q:=q_fl 1 kT) (k:=hV 3 k (q:=ldV 0 JJ) (k:=hV 4 k (q:=q_fl 0 cV) (k:=hV 5 k (q:=ldV 1 IY) (k:=hV 6 k (q:=moV) (k:=wl_ 7 rfl ?_)))))))
  refine n4 (i:=2) (x:=r_.key) (v:=.slice Ab b.length cb) (a:=b) rfl rfl rfl JK rfl rfl (by kernel_rfl) rfl hm5 (by exact⟨Ab,cb,rfl,hbc,hb⟩) hr_.1 ?_
  intro row8 hm9
  refine I6 (nxV (bo_ [0,2] gR h07) λk=>?_)
  refine Ig (by kernel_rfl) ?_
  intro w hw
  obtain⟨row_10,hrow_10,hob_10⟩:∃rw:Rowb,rw=([[(gs_,.cells #[(pq g0_3),.map (some m1_3)] es_.1 (0,0))],r0_3,row8]:List Rowb).flatten∧ae.ob es_ Γ gs_ rw (⟨s_.log,(mput r_.key b (mdel r_.key s_.keys))⟩:ae):=⟨_,rfl,g0_3,r0_3,m1_3,row8,rfl,ho0_3,hm9,trivial⟩
  have hw:=hw.fold (is:=[0,0,0]) rfl hrow_10
  cases h
  subst hF
  exact aL (is:=[0]) (by kernel_rfl) hw rfl ⟨row_10,rfl,rfl,hob_10,trivial⟩
 refine I7 ?_
 intro w hw
 obtain⟨row_11,hrow_11,hob_11⟩:∃rw:Rowb,rw=([[(gs_,.cells #[(pq g0_3),.map (some m1_3)] es_.1 (0,0))],r0_3,row4]:List Rowb).flatten∧ae.ob es_ Γ gs_ rw (⟨s_.log,(mdel r_.key s_.keys)⟩:ae):=⟨_,rfl,g0_3,r0_3,m1_3,row4,rfl,ho0_3,hm5,trivial⟩
 have hw:=hw.fold (is:=[0,0,0]) rfl hrow_11
 cases h
 subst hF
 exact aL (is:=[0]) (by kernel_rfl) hw rfl ⟨row_11,rfl,rfl,hob_11,trivial⟩
abbrev yE(gd:Nat)(ed:Nat)(r:a8×(Option ae)×Int)(U:List Rowb)(Γ:Gh)(v:Value):Prop := ∃(rowd':Rowb), ∃(g0:Nat), ∃(row0:Rowb),v = .tuple #[optp r.2.1 g0,.int .i64 r.2.2]∧U = [rowd',row0]∧a8.ob ed Γ gd rowd' r.1∧oK (ae.ob (86,gd) Γ g0) row0 r.2.1∧I64 r.2.2∧True
theorem pR{gd ed:Nat}{rowd:Rowb}{d:a8}(hd:a8.ob ed Γ gd rowd d)(name:ByteArray)(hname:name.size≤lim)(size:Int)(hsize:I64 size)(hp:Pre [rowd] Γ w0){r:a8×(Option ae)×Int}(h:dp d name size=some r):Calls Tryz.prog 9 #[(pq gd),.string name,ii size] w0 (Outc Γ [rowd] w0 (yE gd ed r)):=by
 refine goV [6,7] func9 ntmps9 results9 hp λF hF=>?_
 refine I4 (aV (k:=aV (k:=I3 (I4 (mV (k:=mV (k:=mV (k:=?_))))))))
 obtain⟨z1,hz2,h⟩:=bnd h
 refine ecV [0] (caV call33) (λw hp=>xd hd name hname size hsize hp hz2) ?_
 rintro Γ3 _ _ hl4 ⟨row7,g9,row10,A12,c13,row14,rfl,rfl,hr8,hr11,hr15,hr16,_⟩
 refine cwV 20 [_,_,_] (mV (k:=sV exV (k:=sV exV (k:=sV exV (k:=aU (v:=optp z1.2.1 g9) (k:=aV (k:=aV (k:=?_))))))))
 refine I3 (I5 (I4 (mV (k:=sV bD (k:=I3 ?_)))))
 refine ciV h (λhb17 h=>?_) (λhb17 h=>?_)
 ·
  refine I4 (mV (k:=aV (k:=aV (k:=I3 ?_))))
  refine I8 ?_
  intro w hw
  have hw:=hw.pad
  exact re_ r [1,0] h hF hw ⟨row7,0,[],rfl,rfl,hr8,rfl,hr16,trivial⟩
 refine I7 (wc_ (I4 (mU (v:=optp z1.2.1 g9) (k:=?_))))
 refine rF (strK IX) (slT av).v rfl rfl rfl rfl ?_
 intro g18 row19 hm20
 obtain⟨z21,hz22,h⟩:=bnd h
 have ho23:=iy hr11 hz22
 refine sV (aZ (v:=.agg #[(pq g9),.map (some g18)]) rfl (jI (bz rfl hz22) rfl) (λw=>by kernel_rfl)) (k:=?_)
 refine bxV (v:=.agg #[(pq g9),.map (some g18)]) λg24=>?_
 refine aV (k:=I3 (I5 (I4 (mV (k:=sV (ag rfl J7) (k:=mV (k:=I3 ?_)))))))
 refine Ia ?_
 obtain⟨row_25,hrow_25,hob_25⟩:∃rw:Rowb,rw=([[(g24,.cells #[(pq g9),.map (some g18)] 86 (0,0))],row10,row19]:List Rowb).flatten∧ae.ob (86,gd) Γ3 g24 rw (⟨z21,([]:List (ByteArray×(List UInt8)))⟩:ae):=⟨_,rfl,g9,row10,g18,row19,rfl,ho23,hm20,trivial⟩
 refine foC [0,2,0] hrow_25 [_,_,_] ?_
 refine Ie h (λ(i32:Nat) (o28:ae) σ w => ∃(Γ26:Gh), ∃(row29:Rowb),slots σ [(11,(pq g24)),(31,.slice A12 z1.2.2.1.length c13),(32,ii (z1.2.2.1.length:Int)),(33,ii (i32:Int))]∧CC F Γ26 [row29,row7,row14] w∧Gh.le Γ3 Γ26∧ae.ob (86,gd) Γ26 g24 row29 o28∧True) ?_ ?_
 ·
  intro w hw
  exact⟨Γ3,row_25,slK,hw,gR,hob_25,trivial⟩
 rintro f31 i32 o28 σ w hi33 hlt34 hge35 ⟨Γ26,row29,hsl,hw,hl27,ho30,-⟩
 refine slV hsl hw [_,_,_] ?_; clear hw hsl
 refine I4 (sV aG (k:=I3 (I5 ?_)))
 refine coV (λhb36=>?_) (λhb36=>?_)
 ·
  have hl37:=ilt hb36
  have h:=hlt34 hl37
  refine I7 (wc_ (I5 (Ia (I4 (sV (aN (i:=i32) J7 J8 rfl rfl rfl hl37 ((hr15.mono hl27).some_ hl37)) (k:=?_))))))
  obtain⟨A38,c39,hx40⟩:=(hr15.mono hl27).slT_at i32
  refine sV (lQ (c:=0) (v:=.slice A38 (gt z1.2.2.1 i32).length c39) (i:=2) rfl (hx40 hl37).2 rfl J9 rfl rfl) (k:=aV (k:=I3 (I4 (mV (k:=?_)))))
  obtain⟨z41,hz42,h⟩:=bnd h
  refine jV (is:=[]) (Lent.nil F) rfl rfl (caV call34) rfl (λw Θ hp hpB hle hleB hR=>sb ((hx40 hl37).1.2.mono hle) (hx40 hl37).1.1 hp hpB hz42) ?_
  rintro Γ43 _ _ hl44 ⟨A47,c48,rfl,rfl,hr49,hr50,_⟩
  refine cwV 39 [_,_,_] (mV (k:=sV exV (k:=sV exV (k:=?_))))
  refine alV Jy λg51=>?_
  refine stV 0 (.agg (Rec.cs A47 c48 z41.1).toArray) (Rec.cs A47 c48 z41.1).toArray Jz (k:=aV (k:=I3 (I5 (I4 (mV (k:=sV bD (k:=I3 ?_)))))))
  refine ciV h (λhb52 h=>?_) (λhb52 h=>?_)
  ·
   refine I4 (mV (k:=aV (k:=aV (k:=I3 ?_))))
   refine I8 ?_
   intro w hw
   have hw:=hw.pad
   exact re_ r [3,0] h hF hw ⟨row7,0,[],rfl,rfl,(hr8.mono (hl27.trans hl44)),rfl,hr50,trivial⟩
  refine I7 (wc_ ?_)
  refine I9 ?_
  refine mV (k:=sV (ldaV 0 (Rec.cs A47 c48 z41.1) JA Jz) (k:=mV (k:=?_)))
  obtain⟨z53,hz54,h⟩:=bnd h
  refine ecV [1] (caV call35) (λw hp=>nT (ho30.mono hl44) z41.1 hr49 ((hx40 hl37).1.2.mono hl44) (hx40 hl37).1.1 hp hz54) ?_
  rintro Γ55 _ _ hl56 ⟨row59,rfl,rfl,hr60,_⟩
  refine cwV 48 [_,_,_,_] ?_
  refine I6 ?_
  change WC _ _ _ _ _ _
  refine I9 ?_
  refine sV (aF rfl rfl rfl (aJ hl37 (hr15.mono hl27).le)) (k:=mV (k:=?_))
  exact I6 λw hw=>⟨hl37,z53,h,Γ55,row59,slK,(hw.on [0,1,1]),((hl27.trans hl44).trans hl56),hr60,trivial⟩
 have h:=hge35 (ige hb36)
 refine Ic ?_
 change WC _ _ _ _ _ _
 refine I4 (mV (k:=aV (k:=aV (k:=I3 ?_))))
 exact I8 λw hw=>re_ r [1,0] h hF hw ⟨row7,g24,row29,rfl,rfl,(hr8.mono hl27),ho30,iV,trivial⟩
abbrev uA(r:Ver)(U:List Rowb)(Γ:Gh)(v:Value):Prop := ∃(A0_2:Option Addr), ∃(c0_2:Nat),v = .agg #[.int .i64 r.dot.s,.int .i64 r.dot.n,.slice A0_2 r.past.length c0_2,.bool r.gone,.string r.val]∧U = []∧Ver.fits Γ A0_2 c0_2 r∧True
theorem oV(s_:Int)(hs_:I64 s_)(n:Int)(hn:I64 n)(gone:Bool)(hp:Pre [] Γ w0){r:Ver}(h:ma s_ n gone=some r):Calls Tryz.prog 29 #[ii s_,ii n,.bool gone] w0 (Outc Γ [] w0 (uA r)):=by
 refine fH (N:=12) (rs:=[.cell 6 39]) (args:=[ii s_,ii n,.bool gone]) func29 rfl ntmps29 results29 rfl ?_
 obtain⟨F,hF⟩:∃F:Fm,F=⟨ids [],w0,Γ⟩:=⟨_,rfl⟩
 refine Ik (C:=CC F Γ []) ?_ (hF▸hp.start)
 refine I4 ?_
 refine alV Jt λg1=>?_
 refine I3 (I4 (mV (k:=mV (k:=sV (aZ (v:=.agg #[ii s_,ii n]) rfl (jI rfl rfl) (λw=>by kernel_rfl)) (k:=mV (k:=sV (aZ (v:=.agg #[ii s_,ii n,.slice none 0 0,.bool gone,.string ByteArray.empty]) rfl (jI rfl rfl) (λw=>by kernel_rfl)) (k:=stV 0 (.agg #[ii s_,ii n,.slice none 0 0,.bool gone,.string ByteArray.empty]) #[ii s_,ii n,.slice none 0 0,.bool gone,.string ByteArray.empty] Ju (k:=?_))))))))
 refine I3 ?_
 refine I8 ?_
 intro w hw
 cases h
 subst hF
 exact⟨[.agg #[ii s_,ii n,.slice none 0 0,.bool gone,.string ByteArray.empty]],(j8 (i:=0) (us:=[ii s_,ii n,.slice none 0 0,.bool gone,.string ByteArray.empty]) hw rfl Jx Ju (by kernel_rfl) rfl jh),aL (is:=[]) (by kernel_rfl) hw rfl ⟨none,0,rfl,rfl,⟨hs_,hn,nilV,(show (ByteArray.empty:ByteArray).size≤lim by decide)⟩,trivial⟩⟩
abbrev yB(r:List UInt8)(U:List Rowb)(Γ:Gh)(v:Value):Prop := ∃(A0:Option Addr), ∃(c0:Nat), ∃(row0:Rowb),v = .slice A0 r.length c0∧U = [row0]∧Own av Γ 5 row0 A0 c0 r∧True
theorem kB(n:Int)(hn:I64 n)(hp:Pre [] Γ w0){r:List UInt8}(h:fV n=some r):Calls Tryz.prog 95 #[ii n] w0 (Outc Γ [] w0 (yB r)):=by
 refine goV [2] func95 ntmps95 results95 hp λF hF=>?_
 refine I4 (aV (k:=I3 (I4 (aV (k:=I3 (I4 (mV (k:=?_))))))))
 refine sV wI (k:=sV (gw J4 J6) (k:=aV (k:=I3 (I5 (Ia ?_)))))
 refine Il h (λ(s:(List UInt8)×Int) σ w=>match s with | (b_1,u_6) => ∃(A2:Option Addr), ∃(c3:Nat), ∃(row4:Rowb),slots σ [(3,.slice A2 b_1.length c3),(4,.int .u64 u_6)]∧CC F Γ [row4] w∧Own av Γ 5 row4 A2 c3 b_1∧True) ?_ ?_
 ·
  intro w hw
  have hw:=hw.pad
  exact⟨none,0,[],slK,hw,(Own.nil av _ 5),trivial⟩
 rintro f7 ⟨b_1,u_6⟩ σ w h ⟨A2,c3,row4,hsl,hw,ho5,-⟩
 refine slV hsl hw [_] ?_; clear hw hsl
 refine I5 (I4 (mV (k:=sV bi (k:=I3 ?_))))
 refine ciV h (λhb11 h=>?_) (λhb11 h=>?_)
 ·
  refine I7 (wc_ (I5 (Ia ?_)))
  refine I9 ?_
  refine mV (k:=mV (k:=sV (gw J5 J4) (k:=sV q_or (k:=?_))))
  refine bsV #[.int .u8 (ior .u8 (wu8 u_6) 128)] 5 λg12=>?_
  obtain⟨hk13,h⟩:=am h
  obtain⟨hk14,h⟩:=am h
  refine apV 1 [(b8 (ior .u8 (wu8 u_6) 128))] dq ho5 (Ip hk14) (λw hw=>bM (i:=0) rfl (by exact(by show [Value.int .u8 (ior .u8 (wu8 u_6) 128)] = [Value.int .u8 _]; rw [lx (GW hk13)])) hw) ?_
  intro row15 A16 c17 ho18
  refine aV (k:=?_)
  refine I6 ?_
  change WC _ _ _ _ _ _
  refine I9 ?_
  refine mV (k:=sV (BD rfl rfl rfl (by decide)) (k:=aV (k:=?_)))
  exact I6 λw hw=>⟨((b_1++[(b8 (ior .u8 (wu8 u_6) 128))]),(ishr .u64 u_6 7)),h,A16,c17,row15,slK,(hw.on [1]),ho18,trivial⟩
 refine Ic ?_
 change WC _ _ _ _ _ _
 refine I4 (mV (k:=mV (k:=sV (gw J5 J4) (k:=?_))))
 refine bsV #[.int .u8 (wu8 u_6)] 5 λg19=>?_
 obtain⟨hk20,h⟩:=am h
 refine apV 1 [(b8 (wu8 u_6))] dq ho5 (Ip hk20) (λw hw=>bM (i:=0) rfl (by exact(by show [Value.int .u8 (wu8 u_6)] = [Value.int .u8 _]; rw [lx (sa _)])) hw) ?_
 intro row21 A22 c23 ho24
 refine aV (k:=I3 ?_)
 exact I8 λw hw=>re_ r [1] h hF hw ⟨A22,c23,row21,rfl,rfl,ho24,trivial⟩
abbrev xb(r:List UInt8)(U:List Rowb)(Γ:Gh)(v:Value):Prop := ∃(A0:Option Addr), ∃(c0:Nat), ∃(row0:Rowb),v = .slice A0 r.length c0∧U = [row0]∧Own av Γ 5 row0 A0 c0 r∧True
theorem s6(s_:ByteArray)(hs_:s_.size≤lim)(hp:Pre [] Γ w0){r:List UInt8}(h:ox s_=some r):Calls Tryz.prog 168 #[.string s_] w0 (Outc Γ [] w0 (xb r)):=by
 refine goV [2] func168 ntmps168 results168 hp λF hF=>?_
 refine I4 (aV (k:=I3 (I4 (mV (k:=sV (bg rfl IX) (k:=?_))))))
 obtain⟨z1,hz2,h⟩:=bnd h
 refine ecV [] (caV call95) (λw hp=>kB (s_.size:Int) (mL hs_) hp hz2) ?_
 rintro Γ3 _ _ hl4 ⟨A7,c8,row9,rfl,rfl,hr10,_⟩
 refine cwV 5 [_] (mV (k:=?_))
 obtain⟨hk11,h⟩:=am h
 refine yR (xs:=z1) (s:=s_) (ti:=t5) IZ IX (by kernel_rfl) (by kernel_rfl) (by kernel_rfl) (by kernel_rfl) (i:=0) rfl rfl rfl rfl rfl rfl rfl hr10 (Ip hk11) ?_
 intro row12 A13 c14 ho15
 refine aV (k:=I3 ?_)
 exact I8 λw hw=>re_ r [0] h hF hw ⟨A13,c14,row12,rfl,rfl,ho15,trivial⟩
abbrev sJ(gw_:Nat)(ew_:Nat)(r:aj)(U:List Rowb)(Γ:Gh)(v:Value):Prop := ∃(roww_':Rowb),v = .tuple #[]∧U = [roww_']∧aj.ob ew_ Γ gw_ roww_' r∧True
theorem je{gw_ ew_:Nat}{roww_:Rowb}{w_:aj}(hw_:aj.ob ew_ Γ gw_ roww_ w_)(s_:ByteArray)(hs_:s_.size≤lim)(hp:Pre [roww_] Γ w0){r:aj}(h:gn w_ s_=some r):Calls Tryz.prog 127 #[(pq gw_),.string s_] w0 (Outc Γ [roww_] w0 (sJ gw_ ew_ r)):=by
 refine goV [] func127 ntmps127 results127 hp λF hF=>?_
 refine leV λh01=>?_
 refine dW (CC F Γ []) (bo_ [] gR h01) λk=>?_
 change WH _ _ _ _ (CC F Γ [_]) _ 11 _ _
 refine hV 0 k (q:=moV) (k:=hV 1 k (q:=moV) (k:=hV 2 k (q:=nlV) (k:=hV 3 k (q:=q_fl 0 lj) (k:=hV 5 k (q:=moV) (k:=?_)))))
 obtain⟨z2,hz3,h⟩:=bnd h
 refine WH.each (l:=[4,6]) (by kernel_rfl) (by simp) ?_
 intro i hi; simp only [Ix,List.not_mem_nil,or_false] at hi
 rcases hi with rfl | rfl
 ·
  refine⟨_,rfl,?_⟩
  obtain⟨A0_4,c0_4,r0_4,hrow_4,ho0_4,-⟩:=id hw_
  refine ufR 0 hrow_4 [_,_] ?_
  refine sV (ldV 0 J9) (k:=?_)
  refine I6 (nxV (bo_ [] gR h01) λk=>?_)
  refine wl_ 6 rfl ?_
  refine ecV [] (caV call168) (λw hp=>s6 s_ hs_ hp hz3) ?_
  rintro Γ5 _ _ hl6 ⟨A9,c10,row11,rfl,rfl,hr12,_⟩
  refine cwV 10 [_,_,_] ?_
  refine I6 (nxV (bo_ [] hl6 h01) λk=>?_)
  refine wl_ 7 rfl ?_
  obtain⟨hk13,h⟩:=am h
  refine apV 2 z2 dq (ho0_4.mono hl6) (Ip hk13) (λw hw=>lK (i:=0) rfl hr12 hw) ?_
  intro row14 A15 c16 ho17
  refine I6 (nxV (bo_ [] hl6 h01) λk=>?_)
  refine hV 8 k (q:=nlV) (k:=hV 9 k (q:=q_fl 0 lj) (k:=wl_ 10 rfl (stV 1 (.slice A15 (w_.b++z2).length c16) #[.slice A15 (w_.b++z2).length c16] J8 (k:=?_))))
  refine I6 (nxV (bo_ [] hl6 h01) λk=>?_)
  refine Ig (by kernel_rfl) ?_
  intro w hw
  obtain⟨row_18,hrow_18,hob_18⟩:∃rw:Rowb,rw=([[(gw_,.cells #[.slice A15 (w_.b++z2).length c16] ew_ (0,0))],row14]:List Rowb).flatten∧aj.ob ew_ Γ5 gw_ rw (⟨(w_.b++z2)⟩:aj):=⟨_,rfl,A15,c16,row14,rfl,ho17,trivial⟩
  have hw:=hw.fold (is:=[1,1]) rfl hrow_18
  cases h
  subst hF
  exact aL (is:=[0]) (by kernel_rfl) hw rfl ⟨row_18,rfl,rfl,hob_18,trivial⟩
 refine⟨_,rfl,?_⟩
 refine ecV [] (caV call168) (λw hp=>s6 s_ hs_ hp hz3) ?_
 rintro Γ4 _ _ hl5 ⟨A8,c9,row10,rfl,rfl,hr11,_⟩
 refine cwV 10 [_,_] ?_
 refine I6 (nxV (bo_ [] hl5 h01) λk=>?_)
 refine wl_ 4 rfl ?_
 obtain⟨A0_12,c0_12,r0_12,hrow_12,ho0_12,-⟩:=(hw_.mono hl5)
 refine ufR 1 hrow_12 [_,_,_] ?_
 refine sV (ldV 0 J9) (k:=?_)
 refine I6 (nxV (bo_ [] hl5 h01) λk=>?_)
 refine wl_ 7 rfl ?_
 obtain⟨hk13,h⟩:=am h
 refine apV 1 z2 dq ho0_12 (Ip hk13) (λw hw=>lK (i:=2) rfl hr11 hw) ?_
 intro row14 A15 c16 ho17
 refine I6 (nxV (bo_ [] hl5 h01) λk=>?_)
 refine hV 8 k (q:=nlV) (k:=hV 9 k (q:=q_fl 0 lj) (k:=wl_ 10 rfl (stV 0 (.slice A15 (w_.b++z2).length c16) #[.slice A15 (w_.b++z2).length c16] J8 (k:=?_))))
 refine I6 (nxV (bo_ [] hl5 h01) λk=>?_)
 refine Ig (by kernel_rfl) ?_
 intro w hw
 obtain⟨row_18,hrow_18,hob_18⟩:∃rw:Rowb,rw=([[(gw_,.cells #[.slice A15 (w_.b++z2).length c16] ew_ (0,0))],row14]:List Rowb).flatten∧aj.ob ew_ Γ4 gw_ rw (⟨(w_.b++z2)⟩:aj):=⟨_,rfl,A15,c16,row14,rfl,ho17,trivial⟩
 have hw:=hw.fold (is:=[0,0]) rfl hrow_18
 cases h
 subst hF
 exact aL (is:=[0]) (by kernel_rfl) hw rfl ⟨row_18,rfl,rfl,hob_18,trivial⟩
abbrev ta(gw_:Nat)(ew_:Nat)(r:aj)(U:List Rowb)(Γ:Gh)(v:Value):Prop := ∃(roww_':Rowb),v = .tuple #[]∧U = [roww_']∧aj.ob ew_ Γ gw_ roww_' r∧True
theorem ia{gw_ ew_:Nat}{roww_:Rowb}{w_:aj}(hw_:aj.ob ew_ Γ gw_ roww_ w_)(n:Int)(hn:I64 n)(hp:Pre [roww_] Γ w0){r:aj}(h:eh w_ n=some r):Calls Tryz.prog 170 #[(pq gw_),ii n] w0 (Outc Γ [roww_] w0 (ta gw_ ew_ r)):=by
 refine goV [] func170 ntmps170 results170 hp λF hF=>?_
 refine leV λh01=>?_
 refine dW (CC F Γ []) (bo_ [] gR h01) λk=>?_
 change WH _ _ _ _ (CC F Γ [_]) _ 11 _ _
 refine hV 0 k (q:=moV) (k:=hV 1 k (q:=moV) (k:=hV 2 k (q:=nlV) (k:=hV 3 k (q:=q_fl 0 lj) (k:=hV 5 k (q:=moV) (k:=?_)))))
 obtain⟨z2,hz3,h⟩:=bnd h
 refine WH.each (l:=[4,6]) (by kernel_rfl) (by simp) ?_
 intro i hi; simp only [Ix,List.not_mem_nil,or_false] at hi
 rcases hi with rfl | rfl
 ·
  refine⟨_,rfl,?_⟩
  obtain⟨A0_4,c0_4,r0_4,hrow_4,ho0_4,-⟩:=id hw_
  refine ufR 0 hrow_4 [_,_] ?_
  refine sV (ldV 0 J9) (k:=?_)
  refine I6 (nxV (bo_ [] gR h01) λk=>?_)
  refine wl_ 6 rfl ?_
  refine ecV [] (caV call95) (λw hp=>kB n hn hp hz3) ?_
  rintro Γ5 _ _ hl6 ⟨A9,c10,row11,rfl,rfl,hr12,_⟩
  refine cwV 10 [_,_,_] ?_
  refine I6 (nxV (bo_ [] hl6 h01) λk=>?_)
  refine wl_ 7 rfl ?_
  obtain⟨hk13,h⟩:=am h
  refine apV 2 z2 dq (ho0_4.mono hl6) (Ip hk13) (λw hw=>lK (i:=0) rfl hr12 hw) ?_
  intro row14 A15 c16 ho17
  refine I6 (nxV (bo_ [] hl6 h01) λk=>?_)
  refine hV 8 k (q:=nlV) (k:=hV 9 k (q:=q_fl 0 lj) (k:=wl_ 10 rfl (stV 1 (.slice A15 (w_.b++z2).length c16) #[.slice A15 (w_.b++z2).length c16] J8 (k:=?_))))
  refine I6 (nxV (bo_ [] hl6 h01) λk=>?_)
  refine Ig (by kernel_rfl) ?_
  intro w hw
  obtain⟨row_18,hrow_18,hob_18⟩:∃rw:Rowb,rw=([[(gw_,.cells #[.slice A15 (w_.b++z2).length c16] ew_ (0,0))],row14]:List Rowb).flatten∧aj.ob ew_ Γ5 gw_ rw (⟨(w_.b++z2)⟩:aj):=⟨_,rfl,A15,c16,row14,rfl,ho17,trivial⟩
  have hw:=hw.fold (is:=[1,1]) rfl hrow_18
  cases h
  subst hF
  exact aL (is:=[0]) (by kernel_rfl) hw rfl ⟨row_18,rfl,rfl,hob_18,trivial⟩
 refine⟨_,rfl,?_⟩
 refine ecV [] (caV call95) (λw hp=>kB n hn hp hz3) ?_
 rintro Γ4 _ _ hl5 ⟨A8,c9,row10,rfl,rfl,hr11,_⟩
 refine cwV 10 [_,_] ?_
 refine I6 (nxV (bo_ [] hl5 h01) λk=>?_)
 refine wl_ 4 rfl ?_
 obtain⟨A0_12,c0_12,r0_12,hrow_12,ho0_12,-⟩:=(hw_.mono hl5)
 refine ufR 1 hrow_12 [_,_,_] ?_
 refine sV (ldV 0 J9) (k:=?_)
 refine I6 (nxV (bo_ [] hl5 h01) λk=>?_)
 refine wl_ 7 rfl ?_
 obtain⟨hk13,h⟩:=am h
 refine apV 1 z2 dq ho0_12 (Ip hk13) (λw hw=>lK (i:=2) rfl hr11 hw) ?_
 intro row14 A15 c16 ho17
 refine I6 (nxV (bo_ [] hl5 h01) λk=>?_)
 refine hV 8 k (q:=nlV) (k:=hV 9 k (q:=q_fl 0 lj) (k:=wl_ 10 rfl (stV 0 (.slice A15 (w_.b++z2).length c16) #[.slice A15 (w_.b++z2).length c16] J8 (k:=?_))))
 refine I6 (nxV (bo_ [] hl5 h01) λk=>?_)
 refine Ig (by kernel_rfl) ?_
 intro w hw
 obtain⟨row_18,hrow_18,hob_18⟩:∃rw:Rowb,rw=([[(gw_,.cells #[.slice A15 (w_.b++z2).length c16] ew_ (0,0))],row14]:List Rowb).flatten∧aj.ob ew_ Γ4 gw_ rw (⟨(w_.b++z2)⟩:aj):=⟨_,rfl,A15,c16,row14,rfl,ho17,trivial⟩
 have hw:=hw.fold (is:=[0,0]) rfl hrow_18
 cases h
 subst hF
 exact aL (is:=[0]) (by kernel_rfl) hw rfl ⟨row_18,rfl,rfl,hob_18,trivial⟩
abbrev tp(gw_:Nat)(ew_:Nat)(r:aj)(U:List Rowb)(Γ:Gh)(v:Value):Prop := ∃(roww_':Rowb),v = .tuple #[]∧U = [roww_']∧aj.ob ew_ Γ gw_ roww_' r∧True
theorem bG{gw_ ew_:Nat}{roww_:Rowb}{w_:aj}(hw_:aj.ob ew_ Γ gw_ roww_ w_)(n:Int)(hn:I64 n)(hp:Pre [roww_] Γ w0){r:aj}(h:cB w_ n=some r):Calls Tryz.prog 169 #[(pq gw_),ii n] w0 (Outc Γ [roww_] w0 (tp gw_ ew_ r)):=by
 refine goV [] func169 ntmps169 results169 hp λF hF=>?_
 refine I9 ?_
 refine mV (k:=mV (k:=?_))
 obtain⟨z1,hz2,h⟩:=bnd h
 refine ecV [0] (caV call170) (λw hp=>ia hw_ n hn hp hz2) ?_
 rintro Γ3 _ _ hl4 ⟨row7,rfl,rfl,hr8,_⟩
 refine cwV 6 [_] ?_
 refine I6 ?_
 intro w hw
 cases h
 subst hF
 exact aL (is:=[0]) (by kernel_rfl) hw rfl ⟨row7,rfl,rfl,hr8,trivial⟩
abbrev sO(gw_:Nat)(ew_:Nat)(r:aj)(U:List Rowb)(Γ:Gh)(v:Value):Prop := ∃(roww_':Rowb),v = .tuple #[]∧U = [roww_']∧aj.ob ew_ Γ gw_ roww_' r∧True
theorem nG{gw_ ew_:Nat}{roww_:Rowb}{w_:aj}(hw_:aj.ob ew_ Γ gw_ roww_ w_)(x_:Span)(hx_:Span.fits Γ  x_)(hp:Pre [roww_] Γ w0){r:aj}(h:gB w_ x_=some r):Calls Tryz.prog 172 #[(pq gw_),.agg (Span.cs x_).toArray] w0 (Outc Γ [roww_] w0 (sO gw_ ew_ r)):=by
 refine goV [] func172 ntmps172 results172 hp λF hF=>?_
 refine I4 ?_
 refine bxV (v:=.agg (Span.cs x_).toArray) λg1=>?_
 refine I3 (I4 (mV (k:=sV (q_fl 0 eM) (k:=sV (ldV 0 Jc) (k:=?_)))))
 obtain⟨z2,hz3,h⟩:=bnd h
 refine ecV [1] (caV JL) (λw hp=>bG hw_ x_.s hx_.1 hp hz3) ?_
 rintro Γ4 _ _ hl5 ⟨row8,rfl,rfl,hr9,_⟩
 refine cwV 7 [_,_] (I3 (I4 (mV (k:=sV (q_fl 1 eI) (k:=sV (ldV 1 Jl) (k:=?_))))))
 obtain⟨z10,hz11,h⟩:=bnd h
 refine ecV [0] (caV call170) (λw hp=>ia hr9 x_.f hx_.2.1 hp hz11) ?_
 rintro Γ12 _ _ hl13 ⟨row16,rfl,rfl,hr17,_⟩
 refine cwV 11 [_,_] (I3 ?_)
 refine I9 ?_
 refine mV (k:=sV (q_fl 2 eu) (k:=sV (ldV 1 Jl) (k:=sV (q_fl 1 eI) (k:=sV (ldV 1 Jl) (k:=sV fO (k:=?_))))))
 obtain⟨z18,hz19,h⟩:=bnd h
 refine ecV [0] (caV call170) (λw hp=>ia hr17 (w64 (x_.t - x_.f)) (dR _) hp hz19) ?_
 rintro Γ20 _ _ hl21 ⟨row24,rfl,rfl,hr25,_⟩
 refine cwV 18 [_,_] ?_
 refine I6 ?_
 intro w hw
 cases h
 subst hF
 exact aL (is:=[0]) (by kernel_rfl) hw rfl ⟨row24,rfl,rfl,hr25,trivial⟩
abbrev rR(gw_:Nat)(ew_:Nat)(r:aj)(U:List Rowb)(Γ:Gh)(v:Value):Prop := ∃(roww_':Rowb),v = .tuple #[]∧U = [roww_']∧aj.ob ew_ Γ gw_ roww_' r∧True
theorem rV{gw_ ew_:Nat}{roww_:Rowb}{w_:aj}(hw_:aj.ob ew_ Γ gw_ roww_ w_){Al:Option Addr}{cl:Nat}{l:List Span}(hl:Sl gS Γ Al l)(hlc:l.length≤cl)(hp:Pre [roww_] Γ w0){r:aj}(h:fL w_ l=some r):Calls Tryz.prog 171 #[(pq gw_),.slice Al l.length cl,.func (.func 172) #[(pq gw_)] #[]] w0 (Outc Γ [roww_] w0 (rR gw_ ew_ r)):=by
 refine goV [] func171 ntmps171 results171 hp λF hF=>?_
 refine I4 (mV (k:=mV (k:=sV (ag rfl JB) (k:=?_))))
 obtain⟨z1,hz2,h⟩:=bnd h
 refine ecV [0] (caV JL) (λw hp=>bG hw_ (l.length:Int) (mL hl.le) hp hz2) ?_
 rintro Γ3 _ _ hl4 ⟨row7,rfl,rfl,hr8,_⟩
 refine cwV 11 [_] (I3 (I4 (mV (k:=sV (ag rfl JB) (k:=mV (k:=I3 (Ia ?_)))))))
 refine Ie h (λ(i15:Nat) (o11:aj) σ w => ∃(Γ9:Gh), ∃(row12:Rowb),slots σ [(2,.func (.func 172) #[(pq gw_)] #[]),(12,.slice Al l.length cl),(13,ii (l.length:Int)),(14,ii (i15:Int))]∧CC F Γ9 [row12] w∧Gh.le Γ3 Γ9∧aj.ob ew_ Γ9 gw_ row12 o11∧True) ?_ ?_
 ·
  intro w hw
  exact⟨Γ3,row7,slK,hw,gR,hr8,trivial⟩
 rintro f14 i15 o11 σ w hi16 hlt17 hge18 ⟨Γ9,row12,hsl,hw,hl10,ho13,-⟩
 refine slV hsl hw [_] ?_; clear hw hsl
 refine I4 (sV aG (k:=I3 (I5 ?_)))
 refine coV (λhb19=>?_) (λhb19=>?_)
 ·
  have hl20:=ilt hb19
  have h:=hlt17 hl20
  refine I7 (wc_ (I5 (Ia (I4 (sV (aN (i:=i15) JB Jr rfl rfl rfl hl20 ((hl.mono (hl4.trans hl10)).some_ hl20)) (k:=sV (jx (c:=0) (vs:=(Span.cs (gt l i15))) ((hl.mono (hl4.trans hl10)).spanT_at hl20).2 rfl Js Jr rfl rfl rfl) (k:=?_)))))))
  refine alV Jp λg21=>?_
  refine stV 0 (.agg (Span.cs (gt l i15)).toArray) (Span.cs (gt l i15)).toArray Jr (k:=I3 ?_)
  refine I9 ?_
  refine mU (v:=.func (.func 172) #[(pq gw_)] #[]) (k:=sV (ldaV 0 (Span.cs (gt l i15)) Js Jr) (k:=?_))
  obtain⟨z22,hz23,h⟩:=bnd h
  refine ecV [1] (eF (first:=#[(pq gw_)]) call172 rfl (by kernel_rfl) (by kernel_rfl)) (λw hp=>nG ho13 (gt l i15) ((hl.mono (hl4.trans hl10)).spanT_at hl20).1 hp hz23) ?_
  rintro Γ24 _ _ hl25 ⟨row28,rfl,rfl,hr29,_⟩
  refine cwV 20 [_,_] ?_
  refine I6 ?_
  change WC _ _ _ _ _ _
  refine I9 ?_
  refine sV (aF rfl rfl rfl (aJ hl20 (hl.mono (hl4.trans hl10)).le)) (k:=mV (k:=?_))
  exact I6 λw hw=>⟨hl20,z22,h,Γ24,row28,slK,(hw.on [0]),(hl10.trans hl25),hr29,trivial⟩
 have h:=hge18 (ige hb19)
 refine Ic ?_
 intro w hw
 cases h
 subst hF
 exact aL (is:=[0]) (by kernel_rfl) hw rfl ⟨row12,rfl,rfl,ho13,trivial⟩
abbrev tW(gw_:Nat)(ew_:Nat)(r:aj)(U:List Rowb)(Γ:Gh)(v:Value):Prop := ∃(roww_':Rowb),v = .tuple #[]∧U = [roww_']∧aj.ob ew_ Γ gw_ roww_' r∧True
theorem tb{gw_ ew_:Nat}{roww_:Rowb}{w_:aj}(hw_:aj.ob ew_ Γ gw_ roww_ w_){Av_2:Option Addr}{cv_2:Nat}(v_:Ver)(hv_:Ver.fits Γ Av_2 cv_2 v_)(hp:Pre [roww_] Γ w0){r:aj}(h:fF w_ v_=some r):Calls Tryz.prog 129 #[(pq gw_),.agg (Ver.cs Av_2 cv_2 v_).toArray] w0 (Outc Γ [roww_] w0 (tW gw_ ew_ r)):=by
 refine goV [] func129 ntmps129 results129 hp λF hF=>?_
 refine I4 ?_
 refine bxV (v:=.agg (Ver.cs Av_2 cv_2 v_).toArray) λg1=>?_
 refine I3 (I4 (mV (k:=sV (q_fl 0 bO) (k:=sV (q_fl 0 cJ) (k:=sV (ldV 0 Jc) (k:=?_))))))
 obtain⟨z2,hz3,h⟩:=bnd h
 refine ecV [1] (caV JL) (λw hp=>bG hw_ v_.dot.s hv_.1 hp hz3) ?_
 rintro Γ4 _ _ hl5 ⟨row8,rfl,rfl,hr9,_⟩
 refine cwV 8 [_,_] (I3 (I4 (mV (k:=sV (q_fl 0 bO) (k:=sV (q_fl 1 cA) (k:=sV (ldV 1 Jl) (k:=?_)))))))
 obtain⟨z10,hz11,h⟩:=bnd h
 refine ecV [0] (caV call170) (λw hp=>ia hr9 v_.dot.n hv_.2.1 hp hz11) ?_
 rintro Γ12 _ _ hl13 ⟨row16,rfl,rfl,hr17,_⟩
 refine cwV 13 [_,_] (I3 (I4 (mV (k:=sV (q_fl 2 fI) (k:=sV (ldV 1 JC) (k:=mV (k:=sV (gE (v:=.func (.func 172) #[(pq gw_)] #[]) rfl (by kernel_rfl)) (k:=?_))))))))
 obtain⟨z18,hz19,h⟩:=bnd h
 refine ecV [0] (caV call171) (λw hp=>rV hr17 (hv_.2.2.1.2.mono (hl5.trans hl13)) hv_.2.2.1.1 hp hz19) ?_
 rintro Γ20 _ _ hl21 ⟨row24,rfl,rfl,hr25,_⟩
 refine cwV 19 [_,_] (I3 (I5 (I4 (sV (q_fl 3 jC) (k:=sV (ldV 1 JD) (k:=I3 ?_))))))
 refine ciV h (λhb26 h=>?_) (λhb26 h=>?_)
 ·
  refine I4 (mV (k:=?_))
  obtain⟨z27,hz28,h⟩:=bnd h
  refine ecV [0] (caV JL) (λw hp=>bG hr25 1 iV hp hz28) ?_
  rintro Γ29 _ _ hl30 ⟨row33,rfl,rfl,hr34,_⟩
  refine cwV 23 [_,_] (I3 ?_)
  exact I8 λw hw=>re_ r [0] h hF hw ⟨row33,rfl,rfl,hr34,trivial⟩
 refine I7 (wc_ (I4 (mV (k:=?_))))
 obtain⟨z35,hz36,h⟩:=bnd h
 refine ecV [0] (caV JL) (λw hp=>bG hr25 0 iV hp hz36) ?_
 rintro Γ37 _ _ hl38 ⟨row41,rfl,rfl,hr42,_⟩
 refine cwV 25 [_,_] (I3 ?_)
 refine I9 ?_
 refine mV (k:=sV (q_fl 4 jw) (k:=sV (ldV 1 IY) (k:=?_)))
 obtain⟨z43,hz44,h⟩:=bnd h
 refine ecV [0] (caV call127) (λw hp=>je hr42 v_.val hv_.2.2.2 hp hz44) ?_
 rintro Γ45 _ _ hl46 ⟨row49,rfl,rfl,hr50,_⟩
 refine cwV 29 [_,_] ?_
 refine I6 ?_
 intro w hw
 cases h
 subst hF
 exact aL (is:=[0]) (by kernel_rfl) hw rfl ⟨row49,rfl,rfl,hr50,trivial⟩
abbrev sM(gw_:Nat)(ew_:Nat)(r:aj)(U:List Rowb)(Γ:Gh)(v:Value):Prop := ∃(roww_':Rowb),v = .tuple #[]∧U = [roww_']∧aj.ob ew_ Γ gw_ roww_' r∧True
theorem sB{gw_ ew_:Nat}{roww_:Rowb}{w_:aj}(hw_:aj.ob ew_ Γ gw_ roww_ w_){Al:Option Addr}{cl:Nat}{l:List Ver}(hl:Sl verT Γ Al l)(hlc:l.length≤cl)(hp:Pre [roww_] Γ w0){r:aj}(h:jp w_ l=some r):Calls Tryz.prog 128 #[(pq gw_),.slice Al l.length cl,.func (.func 129) #[(pq gw_)] #[]] w0 (Outc Γ [roww_] w0 (sM gw_ ew_ r)):=by
 refine goV [] func128 ntmps128 results128 hp λF hF=>?_
 refine I4 (mV (k:=mV (k:=sV (ag rfl JE) (k:=?_))))
 obtain⟨z1,hz2,h⟩:=bnd h
 refine ecV [0] (caV JL) (λw hp=>bG hw_ (l.length:Int) (mL hl.le) hp hz2) ?_
 rintro Γ3 _ _ hl4 ⟨row7,rfl,rfl,hr8,_⟩
 refine cwV 11 [_] (I3 (I4 (mV (k:=sV (ag rfl JE) (k:=mV (k:=I3 (Ia ?_)))))))
 refine Ie h (λ(i15:Nat) (o11:aj) σ w => ∃(Γ9:Gh), ∃(row12:Rowb),slots σ [(2,.func (.func 129) #[(pq gw_)] #[]),(12,.slice Al l.length cl),(13,ii (l.length:Int)),(14,ii (i15:Int))]∧CC F Γ9 [row12] w∧Gh.le Γ3 Γ9∧aj.ob ew_ Γ9 gw_ row12 o11∧True) ?_ ?_
 ·
  intro w hw
  exact⟨Γ3,row7,slK,hw,gR,hr8,trivial⟩
 rintro f14 i15 o11 σ w hi16 hlt17 hge18 ⟨Γ9,row12,hsl,hw,hl10,ho13,-⟩
 refine slV hsl hw [_] ?_; clear hw hsl
 refine I4 (sV aG (k:=I3 (I5 ?_)))
 refine coV (λhb19=>?_) (λhb19=>?_)
 ·
  have hl20:=ilt hb19
  have h:=hlt17 hl20
  refine I7 (wc_ (I5 (Ia (I4 (sV (aN (i:=i15) JE Ju rfl rfl rfl hl20 ((hl.mono (hl4.trans hl10)).some_ hl20)) (k:=?_))))))
  obtain⟨A21,c22,hx23⟩:=(hl.mono (hl4.trans hl10)).verT_at i15
  refine sV (jx (c:=0) (vs:=(Ver.cs A21 c22 (gt l i15))) (hx23 hl20).2 rfl Jx Ju rfl rfl rfl) (k:=?_)
  refine alV Jt λg24=>?_
  refine stV 0 (.agg (Ver.cs A21 c22 (gt l i15)).toArray) (Ver.cs A21 c22 (gt l i15)).toArray Ju (k:=I3 ?_)
  refine I9 ?_
  refine mU (v:=.func (.func 129) #[(pq gw_)] #[]) (k:=sV (ldaV 0 (Ver.cs A21 c22 (gt l i15)) Jx Ju) (k:=?_))
  obtain⟨z25,hz26,h⟩:=bnd h
  refine ecV [1] (eF (first:=#[(pq gw_)]) call129 rfl (by kernel_rfl) (by kernel_rfl)) (λw hp=>tb ho13 (gt l i15) (hx23 hl20).1 hp hz26) ?_
  rintro Γ27 _ _ hl28 ⟨row31,rfl,rfl,hr32,_⟩
  refine cwV 20 [_,_] ?_
  refine I6 ?_
  change WC _ _ _ _ _ _
  refine I9 ?_
  refine sV (aF rfl rfl rfl (aJ hl20 (hl.mono (hl4.trans hl10)).le)) (k:=mV (k:=?_))
  exact I6 λw hw=>⟨hl20,z25,h,Γ27,row31,slK,(hw.on [0]),(hl10.trans hl28),hr32,trivial⟩
 have h:=hge18 (ige hb19)
 refine Ic ?_
 intro w hw
 cases h
 subst hF
 exact aL (is:=[0]) (by kernel_rfl) hw rfl ⟨row12,rfl,rfl,ho13,trivial⟩
abbrev sT(gw_:Nat)(ew_:Nat)(r:aj)(U:List Rowb)(Γ:Gh)(v:Value):Prop := ∃(roww_':Rowb),v = .tuple #[]∧U = [roww_']∧aj.ob ew_ Γ gw_ roww_' r∧True
theorem tY{gw_ ew_:Nat}{roww_:Rowb}{w_:aj}(hw_:aj.ob ew_ Γ gw_ roww_ w_){Ar_1:Option Addr}{cr_1:Nat}(r_:Rec)(hr_:Rec.fits Γ Ar_1 cr_1 r_)(hp:Pre [roww_] Γ w0){r:aj}(h:ic w_ r_=some r):Calls Tryz.prog 80 #[(pq gw_),.agg (Rec.cs Ar_1 cr_1 r_).toArray] w0 (Outc Γ [roww_] w0 (sT gw_ ew_ r)):=by
 refine goV [] func80 ntmps80 results80 hp λF hF=>?_
 refine I4 ?_
 refine bxV (v:=.agg (Rec.cs Ar_1 cr_1 r_).toArray) λg1=>?_
 refine I3 (I4 (mV (k:=sV (q_fl 0 cV) (k:=sV (ldV 0 IY) (k:=?_)))))
 obtain⟨z2,hz3,h⟩:=bnd h
 refine ecV [1] (caV call127) (λw hp=>je hw_ r_.key hr_.1 hp hz3) ?_
 rintro Γ4 _ _ hl5 ⟨row8,rfl,rfl,hr9,_⟩
 refine cwV 7 [_,_] (I3 ?_)
 refine I9 ?_
 refine mV (k:=sV (q_fl 1 ci) (k:=sV (ldV 1 JH) (k:=mV (k:=sV (gE (v:=.func (.func 129) #[(pq gw_)] #[]) rfl (by kernel_rfl)) (k:=?_)))))
 obtain⟨z10,hz11,h⟩:=bnd h
 refine ecV [0] (caV call128) (λw hp=>sB hr9 (hr_.2.2.mono hl5) hr_.2.1 hp hz11) ?_
 rintro Γ12 _ _ hl13 ⟨row16,rfl,rfl,hr17,_⟩
 refine cwV 13 [_,_] ?_
 refine I6 ?_
 intro w hw
 cases h
 subst hF
 exact aL (is:=[0]) (by kernel_rfl) hw rfl ⟨row16,rfl,rfl,hr17,trivial⟩
abbrev xn(r:(List UInt8)×Int)(U:List Rowb)(Γ:Gh)(v:Value):Prop := ∃(A0:Option Addr), ∃(c0:Nat), ∃(row0:Rowb),v = .tuple #[.slice A0 r.1.length c0,.int .i64 r.2]∧U = [row0]∧Own av Γ 5 row0 A0 c0 r.1∧I64 r.2∧True
theorem xe{Ar_1:Option Addr}{cr_1:Nat}(r_:Rec)(hr_:Rec.fits Γ Ar_1 cr_1 r_)(hp:Pre [] Γ w0){r:(List UInt8)×Int}(h:dS r_=some r):Calls Tryz.prog 36 #[.agg (Rec.cs Ar_1 cr_1 r_).toArray] w0 (Outc Γ [] w0 (xn r)):=by
 refine goV [2,3] func36 ntmps36 results36 hp λF hF=>?_
 refine I4 ?_
 refine bxV (v:=.agg (Rec.cs Ar_1 cr_1 r_).toArray) λg1=>?_
 refine aV (k:=aV (k:=I3 (I5 (I4 (sV (ldaV 0 (Rec.cs Ar_1 cr_1 r_) JA Jz) (k:=?_))))))
 obtain⟨z2,hz3,h⟩:=bnd h
 refine vqV (caV call79) (λw hw=>kZ (Γ:=Gh.all w) r_ (Rec.fits_mono hr_ hw.sat.le_all) (Sat.all w) hz3) (k:=sV cY (k:=I3 ?_))
 refine ciV h (λhb4 h=>?_) (λhb4 h=>?_)
 ·
  refine I4 (aV (k:=aV (k:=I3 ?_)))
  refine I8 ?_
  intro w hw
  have hw:=hw.pad
  exact re_ r [0] h hF hw ⟨none,0,[],rfl,rfl,(Own.nil av _ 5),iV,trivial⟩
 refine I7 (wc_ (I4 (sV (fl (v:=.agg #[.slice none 0 0]) rfl (λw=>by kernel_rfl)) (k:=?_))))
 refine bxV (v:=.agg #[.slice none 0 0]) λg5=>?_
 refine aV (k:=I3 (I4 (mV (k:=sV (ldaV 1 (Rec.cs Ar_1 cr_1 r_) JA Jz) (k:=?_)))))
 refine WR.sub (λw hw=>hw.pad) ?_
 obtain⟨row_6,hrow_6,hob_6⟩:∃rw:Rowb,rw=([[(g5,.cells #[.slice none 0 0] 154 (0,0))],[]]:List Rowb).flatten∧aj.ob 154 Γ g5 rw (⟨[]⟩:aj):=⟨_,rfl,none,0,[],rfl,(Own.nil av Γ 5),trivial⟩
 refine foR [1,0] hrow_6 [_,_] ?_
 obtain⟨z7,hz8,h⟩:=bnd h
 refine ecV [0] (caV call80) (λw hp=>tY hob_6 r_ hr_ hp hz8) ?_
 rintro Γ9 _ _ hl10 ⟨row13,rfl,rfl,hr14,_⟩
 refine cwV 12 [_,_] (I3 (I4 (mV (k:=sV nlV (k:=sV (q_fl 0 lj) (k:=?_))))))
 obtain⟨A0_15,c0_15,r0_15,hrow_15,ho0_15,-⟩:=id hr14
 refine ufR 0 hrow_15 [_,_,_] ?_
 refine sV (ldV 0 J9) (k:=aV (k:=aV (k:=I3 ?_)))
 exact I8 λw hw=>re_ r [1] h hF hw ⟨A0_15,c0_15,r0_15,rfl,rfl,ho0_15,iV,trivial⟩
abbrev pI(gw_:Nat)(ew_:Nat)(r:aj)(U:List Rowb)(Γ:Gh)(v:Value):Prop := ∃(roww_':Rowb),v = .tuple #[]∧U = [roww_']∧aj.ob ew_ Γ gw_ roww_' r∧True
theorem pU{B:Gh}{gw_ ew_:Nat}{roww_:Rowb}{w_:aj}(hw_:aj.ob ew_ Γ gw_ roww_ w_){Al:Option Addr}{cl:Nat}{l:List Span}(hl:Sl gS B Al l)(hlc:l.length≤cl)(hp:Pre [roww_] Γ w0)(hpB:Pre [roww_] B w0){r:aj}(h:fL w_ l=some r):Calls Tryz.prog 171 #[(pq gw_),.slice Al l.length cl,.func (.func 172) #[(pq gw_)] #[]] w0 (Outc Γ [roww_] w0 (pI gw_ ew_ r)):=by
 refine goV [] func171 ntmps171 results171 hp λF hF=>?_
 have hB:Lent F B:=hF▸Lent.start hpB
 refine I4 (mV (k:=mV (k:=sV (ag rfl JB) (k:=?_))))
 obtain⟨z1,hz2,h⟩:=bnd h
 refine ecV [0] (caV JL) (λw hp=>bG hw_ (l.length:Int) (mL hl.le) hp hz2) ?_
 rintro Γ3 _ _ hl4 ⟨row7,rfl,rfl,hr8,_⟩
 refine cwV 11 [_] (I3 (I4 (mV (k:=sV (ag rfl JB) (k:=mV (k:=I3 (Ia ?_)))))))
 refine Ie h (λ(i15:Nat) (o11:aj) σ w => ∃(Γ9:Gh), ∃(row12:Rowb),slots σ [(2,.func (.func 172) #[(pq gw_)] #[]),(12,.slice Al l.length cl),(13,ii (l.length:Int)),(14,ii (i15:Int))]∧CC F Γ9 [row12] w∧Gh.le Γ3 Γ9∧aj.ob ew_ Γ9 gw_ row12 o11∧True) ?_ ?_
 ·
  intro w hw
  exact⟨Γ3,row7,slK,hw,gR,hr8,trivial⟩
 rintro f14 i15 o11 σ w hi16 hlt17 hge18 ⟨Γ9,row12,hsl,hw,hl10,ho13,-⟩
 refine slV hsl hw [_] ?_; clear hw hsl
 refine I4 (sV aG (k:=I3 (I5 ?_)))
 refine coV (λhb19=>?_) (λhb19=>?_)
 ·
  have hl20:=ilt hb19
  have h:=hlt17 hl20
  refine I7 (wc_ (I5 (Ia (I4 (sV (aN (i:=i15) JB Jr rfl rfl rfl hl20 (hl.some_ hl20)) (k:=sV (Ei (c:=0) (vs:=(Span.cs (gt l i15))) (λw hw=>hB.sat hw) (hl.spanT_at hl20).2 rfl Js Jr rfl rfl rfl) (k:=?_)))))))
  refine alV Jp λg21=>?_
  refine stV 0 (.agg (Span.cs (gt l i15)).toArray) (Span.cs (gt l i15)).toArray Jr (k:=I3 ?_)
  refine I9 ?_
  refine mU (v:=.func (.func 172) #[(pq gw_)] #[]) (k:=sV (ldaV 0 (Span.cs (gt l i15)) Js Jr) (k:=?_))
  obtain⟨z22,hz23,h⟩:=bnd h
  refine ecV [1] (eF (first:=#[(pq gw_)]) call172 rfl (by kernel_rfl) (by kernel_rfl)) (λw hp=>nG ho13 (gt l i15) (by exact(hl.spanT_at hl20).1) hp hz23) ?_
  rintro Γ24 _ _ hl25 ⟨row28,rfl,rfl,hr29,_⟩
  refine cwV 20 [_,_] ?_
  refine I6 ?_
  change WC _ _ _ _ _ _
  refine I9 ?_
  refine sV (aF rfl rfl rfl (aJ hl20 hl.le)) (k:=mV (k:=?_))
  exact I6 λw hw=>⟨hl20,z22,h,Γ24,row28,slK,(hw.on [0]),(hl10.trans hl25),hr29,trivial⟩
 have h:=hge18 (ige hb19)
 refine Ic ?_
 intro w hw
 cases h
 subst hF
 exact aL (is:=[0]) (by kernel_rfl) hw rfl ⟨row12,rfl,rfl,ho13,trivial⟩
abbrev qC(gw_:Nat)(ew_:Nat)(r:aj)(U:List Rowb)(Γ:Gh)(v:Value):Prop := ∃(roww_':Rowb),v = .tuple #[]∧U = [roww_']∧aj.ob ew_ Γ gw_ roww_' r∧True
theorem re{B:Gh}{gw_ ew_:Nat}{roww_:Rowb}{w_:aj}(hw_:aj.ob ew_ Γ gw_ roww_ w_){Av_2:Option Addr}{cv_2:Nat}(v_:Ver)(hv_:Ver.fits B Av_2 cv_2 v_)(hp:Pre [roww_] Γ w0)(hpB:Pre [roww_] B w0){r:aj}(h:fF w_ v_=some r):Calls Tryz.prog 129 #[(pq gw_),.agg (Ver.cs Av_2 cv_2 v_).toArray] w0 (Outc Γ [roww_] w0 (qC gw_ ew_ r)):=by
 refine goV [] func129 ntmps129 results129 hp λF hF=>?_
 have hB:Lent F B:=hF▸Lent.start hpB
 refine I4 ?_
 refine bxV (v:=.agg (Ver.cs Av_2 cv_2 v_).toArray) λg1=>?_
 refine I3 (I4 (mV (k:=sV (q_fl 0 bO) (k:=sV (q_fl 0 cJ) (k:=sV (ldV 0 Jc) (k:=?_))))))
 obtain⟨z2,hz3,h⟩:=bnd h
 refine ecV [1] (caV JL) (λw hp=>bG hw_ v_.dot.s hv_.1 hp hz3) ?_
 rintro Γ4 _ _ hl5 ⟨row8,rfl,rfl,hr9,_⟩
 refine cwV 8 [_,_] (I3 (I4 (mV (k:=sV (q_fl 0 bO) (k:=sV (q_fl 1 cA) (k:=sV (ldV 1 Jl) (k:=?_)))))))
 obtain⟨z10,hz11,h⟩:=bnd h
 refine ecV [0] (caV call170) (λw hp=>ia hr9 v_.dot.n hv_.2.1 hp hz11) ?_
 rintro Γ12 _ _ hl13 ⟨row16,rfl,rfl,hr17,_⟩
 refine cwV 13 [_,_] (I3 (I4 (mV (k:=sV (q_fl 2 fI) (k:=sV (ldV 1 JC) (k:=mV (k:=sV (gE (v:=.func (.func 172) #[(pq gw_)] #[]) rfl (by kernel_rfl)) (k:=?_))))))))
 obtain⟨z18,hz19,h⟩:=bnd h
 refine jV (is:=[0]) hB rfl rfl (caV call171) rfl (λw Θ hp hpB hle hleB hR=>pU hr17 (hv_.2.2.1.2.mono hleB) hv_.2.2.1.1 hp hpB hz19) ?_
 rintro Γ20 _ _ hl21 ⟨row24,rfl,rfl,hr25,_⟩
 refine cwV 19 [_,_] (I3 (I5 (I4 (sV (q_fl 3 jC) (k:=sV (ldV 1 JD) (k:=I3 ?_))))))
 refine ciV h (λhb26 h=>?_) (λhb26 h=>?_)
 ·
  refine I4 (mV (k:=?_))
  obtain⟨z27,hz28,h⟩:=bnd h
  refine ecV [0] (caV JL) (λw hp=>bG hr25 1 iV hp hz28) ?_
  rintro Γ29 _ _ hl30 ⟨row33,rfl,rfl,hr34,_⟩
  refine cwV 23 [_,_] (I3 ?_)
  exact I8 λw hw=>re_ r [0] h hF hw ⟨row33,rfl,rfl,hr34,trivial⟩
 refine I7 (wc_ (I4 (mV (k:=?_))))
 obtain⟨z35,hz36,h⟩:=bnd h
 refine ecV [0] (caV JL) (λw hp=>bG hr25 0 iV hp hz36) ?_
 rintro Γ37 _ _ hl38 ⟨row41,rfl,rfl,hr42,_⟩
 refine cwV 25 [_,_] (I3 ?_)
 refine I9 ?_
 refine mV (k:=sV (q_fl 4 jw) (k:=sV (ldV 1 IY) (k:=?_)))
 obtain⟨z43,hz44,h⟩:=bnd h
 refine ecV [0] (caV call127) (λw hp=>je hr42 v_.val hv_.2.2.2 hp hz44) ?_
 rintro Γ45 _ _ hl46 ⟨row49,rfl,rfl,hr50,_⟩
 refine cwV 29 [_,_] ?_
 refine I6 ?_
 intro w hw
 cases h
 subst hF
 exact aL (is:=[0]) (by kernel_rfl) hw rfl ⟨row49,rfl,rfl,hr50,trivial⟩
abbrev qi(gw_:Nat)(ew_:Nat)(r:aj)(U:List Rowb)(Γ:Gh)(v:Value):Prop := ∃(roww_':Rowb),v = .tuple #[]∧U = [roww_']∧aj.ob ew_ Γ gw_ roww_' r∧True
theorem qd{B:Gh}{gw_ ew_:Nat}{roww_:Rowb}{w_:aj}(hw_:aj.ob ew_ Γ gw_ roww_ w_){Al:Option Addr}{cl:Nat}{l:List Ver}(hl:Sl verT B Al l)(hlc:l.length≤cl)(hp:Pre [roww_] Γ w0)(hpB:Pre [roww_] B w0){r:aj}(h:jp w_ l=some r):Calls Tryz.prog 128 #[(pq gw_),.slice Al l.length cl,.func (.func 129) #[(pq gw_)] #[]] w0 (Outc Γ [roww_] w0 (qi gw_ ew_ r)):=by
 refine goV [] func128 ntmps128 results128 hp λF hF=>?_
 have hB:Lent F B:=hF▸Lent.start hpB
 refine I4 (mV (k:=mV (k:=sV (ag rfl JE) (k:=?_))))
 obtain⟨z1,hz2,h⟩:=bnd h
 refine ecV [0] (caV JL) (λw hp=>bG hw_ (l.length:Int) (mL hl.le) hp hz2) ?_
 rintro Γ3 _ _ hl4 ⟨row7,rfl,rfl,hr8,_⟩
 refine cwV 11 [_] (I3 (I4 (mV (k:=sV (ag rfl JE) (k:=mV (k:=I3 (Ia ?_)))))))
 refine Ie h (λ(i15:Nat) (o11:aj) σ w => ∃(Γ9:Gh), ∃(row12:Rowb),slots σ [(2,.func (.func 129) #[(pq gw_)] #[]),(12,.slice Al l.length cl),(13,ii (l.length:Int)),(14,ii (i15:Int))]∧CC F Γ9 [row12] w∧Gh.le Γ3 Γ9∧aj.ob ew_ Γ9 gw_ row12 o11∧True) ?_ ?_
 ·
  intro w hw
  exact⟨Γ3,row7,slK,hw,gR,hr8,trivial⟩
 rintro f14 i15 o11 σ w hi16 hlt17 hge18 ⟨Γ9,row12,hsl,hw,hl10,ho13,-⟩
 refine slV hsl hw [_] ?_; clear hw hsl
 refine I4 (sV aG (k:=I3 (I5 ?_)))
 refine coV (λhb19=>?_) (λhb19=>?_)
 ·
  have hl20:=ilt hb19
  have h:=hlt17 hl20
  refine I7 (wc_ (I5 (Ia (I4 (sV (aN (i:=i15) JE Ju rfl rfl rfl hl20 (hl.some_ hl20)) (k:=?_))))))
  obtain⟨A21,c22,hx23⟩:=hl.verT_at i15
  refine sV (Ei (c:=0) (vs:=(Ver.cs A21 c22 (gt l i15))) (λw hw=>hB.sat hw) (hx23 hl20).2 rfl Jx Ju rfl rfl rfl) (k:=?_)
  refine alV Jt λg24=>?_
  refine stV 0 (.agg (Ver.cs A21 c22 (gt l i15)).toArray) (Ver.cs A21 c22 (gt l i15)).toArray Ju (k:=I3 ?_)
  refine I9 ?_
  refine mU (v:=.func (.func 129) #[(pq gw_)] #[]) (k:=sV (ldaV 0 (Ver.cs A21 c22 (gt l i15)) Jx Ju) (k:=?_))
  obtain⟨z25,hz26,h⟩:=bnd h
  refine jV (is:=[1]) hB rfl rfl (eF (first:=#[(pq gw_)]) call129 rfl (by kernel_rfl) (by kernel_rfl)) rfl (λw Θ hp hpB hle hleB hR=>re ho13 (gt l i15) (Ver.fits_mono (hx23 hl20).1 hleB) hp hpB hz26) ?_
  rintro Γ27 _ _ hl28 ⟨row31,rfl,rfl,hr32,_⟩
  refine cwV 20 [_,_] ?_
  refine I6 ?_
  change WC _ _ _ _ _ _
  refine I9 ?_
  refine sV (aF rfl rfl rfl (aJ hl20 hl.le)) (k:=mV (k:=?_))
  exact I6 λw hw=>⟨hl20,z25,h,Γ27,row31,slK,(hw.on [0]),(hl10.trans hl28),hr32,trivial⟩
 have h:=hge18 (ige hb19)
 refine Ic ?_
 intro w hw
 cases h
 subst hF
 exact aL (is:=[0]) (by kernel_rfl) hw rfl ⟨row12,rfl,rfl,ho13,trivial⟩
abbrev qF(gw_:Nat)(ew_:Nat)(r:aj)(U:List Rowb)(Γ:Gh)(v:Value):Prop := ∃(roww_':Rowb),v = .tuple #[]∧U = [roww_']∧aj.ob ew_ Γ gw_ roww_' r∧True
theorem r9{B:Gh}{gw_ ew_:Nat}{roww_:Rowb}{w_:aj}(hw_:aj.ob ew_ Γ gw_ roww_ w_){Ar_1:Option Addr}{cr_1:Nat}(r_:Rec)(hr_:Rec.fits B Ar_1 cr_1 r_)(hp:Pre [roww_] Γ w0)(hpB:Pre [roww_] B w0){r:aj}(h:ic w_ r_=some r):Calls Tryz.prog 80 #[(pq gw_),.agg (Rec.cs Ar_1 cr_1 r_).toArray] w0 (Outc Γ [roww_] w0 (qF gw_ ew_ r)):=by
 refine goV [] func80 ntmps80 results80 hp λF hF=>?_
 have hB:Lent F B:=hF▸Lent.start hpB
 refine I4 ?_
 refine bxV (v:=.agg (Rec.cs Ar_1 cr_1 r_).toArray) λg1=>?_
 refine I3 (I4 (mV (k:=sV (q_fl 0 cV) (k:=sV (ldV 0 IY) (k:=?_)))))
 obtain⟨z2,hz3,h⟩:=bnd h
 refine ecV [1] (caV call127) (λw hp=>je hw_ r_.key hr_.1 hp hz3) ?_
 rintro Γ4 _ _ hl5 ⟨row8,rfl,rfl,hr9,_⟩
 refine cwV 7 [_,_] (I3 ?_)
 refine I9 ?_
 refine mV (k:=sV (q_fl 1 ci) (k:=sV (ldV 1 JH) (k:=mV (k:=sV (gE (v:=.func (.func 129) #[(pq gw_)] #[]) rfl (by kernel_rfl)) (k:=?_)))))
 obtain⟨z10,hz11,h⟩:=bnd h
 refine jV (is:=[0]) hB rfl rfl (caV call128) rfl (λw Θ hp hpB hle hleB hR=>qd hr9 (hr_.2.2.mono hleB) hr_.2.1 hp hpB hz11) ?_
 rintro Γ12 _ _ hl13 ⟨row16,rfl,rfl,hr17,_⟩
 refine cwV 13 [_,_] ?_
 refine I6 ?_
 intro w hw
 cases h
 subst hF
 exact aL (is:=[0]) (by kernel_rfl) hw rfl ⟨row16,rfl,rfl,hr17,trivial⟩
abbrev uU(r:(List UInt8)×Int)(U:List Rowb)(Γ:Gh)(v:Value):Prop := ∃(A0:Option Addr), ∃(c0:Nat), ∃(row0:Rowb),v = .tuple #[.slice A0 r.1.length c0,.int .i64 r.2]∧U = [row0]∧Own av Γ 5 row0 A0 c0 r.1∧I64 r.2∧True
theorem uP{B:Gh}{Ar_1:Option Addr}{cr_1:Nat}(r_:Rec)(hr_:Rec.fits B Ar_1 cr_1 r_)(hp:Pre [] Γ w0)(hpB:Pre [] B w0){r:(List UInt8)×Int}(h:dS r_=some r):Calls Tryz.prog 36 #[.agg (Rec.cs Ar_1 cr_1 r_).toArray] w0 (Outc Γ [] w0 (uU r)):=by
 refine goV [2,3] func36 ntmps36 results36 hp λF hF=>?_
 have hB:Lent F B:=hF▸Lent.start hpB
 refine I4 ?_
 refine bxV (v:=.agg (Rec.cs Ar_1 cr_1 r_).toArray) λg1=>?_
 refine aV (k:=aV (k:=I3 (I5 (I4 (sV (ldaV 0 (Rec.cs Ar_1 cr_1 r_) JA Jz) (k:=?_))))))
 obtain⟨z2,hz3,h⟩:=bnd h
 refine vqV (caV call79) (λw hw=>kZ (Γ:=Gh.all w) r_ (Rec.fits_mono hr_ ((λw hw=>hB.sat hw) w hw).le_all) (Sat.all w) hz3) (k:=sV cY (k:=I3 ?_))
 refine ciV h (λhb4 h=>?_) (λhb4 h=>?_)
 ·
  refine I4 (aV (k:=aV (k:=I3 ?_)))
  refine I8 ?_
  intro w hw
  have hw:=hw.pad
  exact re_ r [0] h hF hw ⟨none,0,[],rfl,rfl,(Own.nil av _ 5),iV,trivial⟩
 refine I7 (wc_ (I4 (sV (fl (v:=.agg #[.slice none 0 0]) rfl (λw=>by kernel_rfl)) (k:=?_))))
 refine bxV (v:=.agg #[.slice none 0 0]) λg5=>?_
 refine aV (k:=I3 (I4 (mV (k:=sV (ldaV 1 (Rec.cs Ar_1 cr_1 r_) JA Jz) (k:=?_)))))
 refine WR.sub (λw hw=>hw.pad) ?_
 obtain⟨row_6,hrow_6,hob_6⟩:∃rw:Rowb,rw=([[(g5,.cells #[.slice none 0 0] 154 (0,0))],[]]:List Rowb).flatten∧aj.ob 154 Γ g5 rw (⟨[]⟩:aj):=⟨_,rfl,none,0,[],rfl,(Own.nil av Γ 5),trivial⟩
 refine foR [1,0] hrow_6 [_,_] ?_
 obtain⟨z7,hz8,h⟩:=bnd h
 refine jV (is:=[0]) hB rfl rfl (caV call80) rfl (λw Θ hp hpB hle hleB hR=>r9 hob_6 r_ (Rec.fits_mono hr_ hleB) hp hpB hz8) ?_
 rintro Γ9 _ _ hl10 ⟨row13,rfl,rfl,hr14,_⟩
 refine cwV 12 [_,_] (I3 (I4 (mV (k:=sV nlV (k:=sV (q_fl 0 lj) (k:=?_))))))
 obtain⟨A0_15,c0_15,r0_15,hrow_15,ho0_15,-⟩:=id hr14
 refine ufR 0 hrow_15 [_,_,_] ?_
 refine sV (ldV 0 J9) (k:=aV (k:=aV (k:=I3 ?_)))
 exact I8 λw hw=>re_ r [1] h hF hw ⟨A0_15,c0_15,r0_15,rfl,rfl,ho0_15,iV,trivial⟩
abbrev zP(r:(List UInt8)×Int)(U:List Rowb)(Γ:Gh)(v:Value):Prop := ∃(A0:Option Addr), ∃(c0:Nat), ∃(row0:Rowb),v = .tuple #[.slice A0 r.1.length c0,.int .i64 r.2]∧U = [row0]∧Own av Γ 5 row0 A0 c0 r.1∧I64 r.2∧True
theorem qM{Ab:Option Addr}{cb:Nat}{b:List UInt8}(hb:Sl av Γ Ab b)(hbc:b.length≤cb)(hp:Pre [] Γ w0){r:(List UInt8)×Int}(h:iu b=some r):Calls Tryz.prog 81 #[.slice Ab b.length cb] w0 (Outc Γ [] w0 (zP r)):=by
 refine goV [2,3] func81 ntmps81 results81 hp λF hF=>?_
 refine I4 (aV (k:=aV (k:=I3 (I5 (I4 (mV (k:=sV (ag rfl IZ) (k:=?_))))))))
 refine sV bi (k:=I3 ?_)
 refine ciV h (λhb1 h=>?_) (λhb1 h=>?_)
 ·
  refine I4 (aV (k:=aV (k:=I3 ?_)))
  refine I8 ?_
  intro w hw
  have hw:=hw.pad
  exact re_ r [0] h hF hw ⟨none,0,[],rfl,rfl,(Own.nil av _ 5),iV,trivial⟩
 refine I7 (wc_ (I4 (mV (k:=sV (ag rfl IZ) (k:=?_)))))
 obtain⟨z2,hz3,h⟩:=bnd h
 refine ecV [] (caV call95) (λw hp=>kB (b.length:Int) (mL hb.le) hp hz3) ?_
 rintro Γ4 _ _ hl5 ⟨A8,c9,row10,rfl,rfl,hr11,_⟩
 refine cwV 12 [_] (aV (k:=I3 (I4 (mV (k:=mV (k:=?_))))))
 refine bsV #[.slice A8 z2.length c9,.slice Ab b.length cb] 51 λg12=>?_
 obtain⟨z13,hz14,h⟩:=bnd h
 refine vqV (caV call130) (λw hw=>vC (Γ:=Gh.all w) ((Ii (T:=slT av) (Γ:=Gh.all w) (e:=51) (g:=g12) (ys:=([z2,b]:List (List UInt8))) [[.slice A8 z2.length c9],[.slice Ab b.length cb]] rfl (show 2≤lim by decide) (show Ty.rd (slT av) (Gh.all w) [.slice A8 z2.length c9] z2∧Ty.rd (slT av) (Gh.all w) [.slice Ab b.length cb] b∧True from ⟨⟨A8,c9,rfl,hr11.capz,(hr11.sl hw.sat.le_all (hw.ra 1 rfl))⟩,⟨Ab,cb,rfl,hbc,((hb.mono hl5).mono hw.sat.le_all)⟩,trivial⟩)).sl gR (hw.ra 0 rfl)) (IG _) (Sat.all w) hz14) (k:=aV (k:=I3 (I5 (I4 (mV (k:=I3 (Ia ?_)))))))
 refine Io h (λ(i21:Nat) (out_15:List UInt8) σ w => ∃(A16:Option Addr), ∃(c17:Nat), ∃(row18:Rowb),slots σ [(0,.slice Ab b.length cb),(4,.slice A16 out_15.length c17),(5,.int .u32 z13),(17,ii (i21:Int))]∧CC F Γ4 [row18] w∧Own av Γ4 5 row18 A16 c17 out_15∧True) ?_ ?_
 ·
  intro w hw
  exact⟨A8,c9,row10,slK,(hw.on [1]),hr11,trivial⟩
 rintro f20 i21 out_15 σ w hi22 hlt23 hge24 ⟨A16,c17,row18,hsl,hw,ho19,-⟩
 refine slV hsl hw [_] ?_; clear hw hsl
 refine I4 (sV aG (k:=I3 (I5 ?_)))
 refine coV (λhb25=>?_) (λhb25=>?_)
 ·
  have hl26:=ilt hb25
  have h:=hlt23 hl26
  refine I7 (wc_ (I5 (Ia (I4 (mV (k:=aV (k:=I3 ?_)))))))
  refine I9 ?_
  refine mV (k:=mV (k:=mV (k:=sV vp (k:=?_))))
  obtain⟨hk27,h⟩:=am h
  refine sV (BD rfl rfl rfl hk27) (k:=sV (gw J5 Ja) (k:=?_))
  refine bsV #[.int .u8 (wu8 (ishr .u32 z13 (w64 (8*(i21:Int)))))] 5 λg28=>?_
  obtain⟨hk29,h⟩:=am h
  refine apV 1 [(b8 (wu8 (ishr .u32 z13 (w64 (8*(i21:Int))))))] dq ho19 (Ip hk29) (λw hw=>bM (i:=0) rfl (by exact(by show [Value.int .u8 (wu8 (ishr .u32 z13 (w64 (8*(i21:Int)))))] = [Value.int .u8 _]; rw [lx (sa _)])) hw) ?_
  intro row30 A31 c32 ho33
  refine aV (k:=?_)
  refine I6 ?_
  change WC _ _ _ _ _ _
  refine I9 ?_
  refine sV (aF rfl rfl rfl (vP hl26 (by decide))) (k:=mV (k:=?_))
  exact I6 λw hw=>⟨hl26,(out_15++[(b8 (wu8 (ishr .u32 z13 (w64 (8*(i21:Int))))))]),h,A31,c32,row30,slK,(hw.on [1]),ho33,trivial⟩
 have h:=hge24 (ige hb25)
 refine Ic ?_
 change WC _ _ _ _ _ _
 refine I4 (mV (k:=mV (k:=?_)))
 obtain⟨hk34,h⟩:=am h
 refine apV 0 b dq ho19 (Ip hk34) (λw hw=>nc (hb.mono hl5) hw) ?_
 intro row35 A36 c37 ho38
 refine aV (k:=aV (k:=I3 ?_))
 exact I8 λw hw=>re_ r [0] h hF hw ⟨A36,c37,row35,rfl,rfl,ho38,iV,trivial⟩
theorem uS{gd ed:Nat}{rowd:Rowb}{d:a8}(hd:a8.ob ed Γ gd rowd d)(hdr:∀p∈rowd,Γ p.1=some p.2)(hs:Sat Γ w0){r:Int}(h:kE d=some r):CQ Tryz.prog 54 #[(pq gd)] w0 (ii r):=by
 refine goQ [2] func54 ntmps54 results54 hs λF hF=>?_
 refine I4 (aV (k:=I3 (I4 (aV (k:=I3 (I5 (I4 ?_)))))))
 refine mV (k:=sV nlV (k:=sV (q_fl 2 n2) (k:=?_)))
 obtain⟨m1_1,r1_1,m2_1,r2_1,A3_1,c3_1,r3_1,hrow_1,ho0_1,ho1_1,ho2_1,ho3_1,-⟩:=id hd
 have hg_2:∀u∈([[(gd,.cells #[ii d.room,.map (some m1_1),.map (some m2_1),.slice A3_1 d.loose.length c3_1] ed (0,0))],r1_1,r2_1,r3_1]:List Rowb), ∀p∈u,Γ p.1=some p.2:=λu hu p hp=>(λp hp=>(hdr p hp)) p (hrow_1▸List.mem_flatten.2 ⟨u,hu,hp⟩)
 have hgc3:=hg_2 _ (It ..) (gd,_) (List.mem_singleton.2 rfl)
 have hgs4:=hg_2 r1_1 (by simp)
 have hgs5:=hg_2 r2_1 (by simp)
 have hgs6:=hg_2 r3_1 (by simp)
 have hs7:=ho3_1.sl gR hgs6
 refine sV (mX (v:=.map (some m2_1)) hgc3 rfl J0 rfl rfl) (k:=?_)
 refine F7 ho2_1 (λw hw p hp=>hw.sat _ _ (hgs5 p hp)) rfl rfl rfl J1 rfl ?_
 intro g8 row9 hi10
 refine cwV 10 [_] (I3 (Ia ?_))
 refine WC.forE h (Comm.of_tot _ (λ_ _=>rfl) (λ_ _ _=>F3 _ _ _)) (λ(l11:List (ByteArray×(List UInt8))) (n_12:Int) σ w => ∃(row14:Rowb),slots σ [(3,ii n_12),(10,(pq g8))]∧CC F Γ [row14] w∧I64 n_12∧ItO (strK IX) (slT av).v Γ row14 g8 m2_1 r2_1 d.seen l11∧True) ?_ ?_
 ·
  intro w hw
  exact⟨row9,slK,hw,iV,hi10,trivial⟩
 rintro G21 l11 n_12 σ w hstep16 hK17 ⟨row14,hsl,hw,hr13,hi15,-⟩
 refine slV hsl hw [_] ?_; clear hw hsl
 refine I4 ?_
 refine Hc (i:=0) rfl ho2_1.ks hi15 (λw hw p hp=>hw.sat _ _ (hgs5 p hp)) rfl rfl rfl rfl (λhl22=>?_) (λen23 l24 v25 row26 hp27 hok28 hv29 hit30 he31=>?_)
 ·
  have h:=hK17 hl22
  refine cwV 11 [_] (sV exV (k:=I3 (I5 ?_)))
  refine WC.cfk (b:=false) (by kernel_rfl) rfl ?_
  refine Ic ?_
  change WC _ _ _ _ _ _
  refine I4 (mV (k:=aV (k:=I3 ?_)))
  exact I8 λw hw=>rq_ r h hF hw
 obtain⟨hlen18,s219,h,hgo20⟩:=hstep16 en23 l24 hp27
 obtain⟨A32,c33,hv29,hc34,hs35⟩:=hv29
 obtain rfl:v25=_:=List.cons.inj hv29 |>.1
 refine cwV 11 [_] (sV exV (k:=I3 (I5 ?_)))
 refine Im (b:=true) (by kernel_rfl) rfl ?_
 refine I7 (wc_ (Ia (I4 (sV (FK (kv:=.string en23.1) (v:=.slice A32 en23.2.length c33) (i:=0) rfl he31 (λw hw p hp=>hw.sat _ _ (hgs5 p hp)) rfl rfl) (k:=sV exV (k:=aV (k:=I3 ?_)))))))
 refine I9 ?_
 refine mV (k:=mV (k:=sV (ag rfl IZ) (k:=sV bR (k:=aV (k:=?_)))))
 refine I6 ?_
 intro w hw
 cases h
 exact⟨l24,_,hlen18,hgo20,row26,slK,hw,(dR _),hit30,trivial⟩
abbrev B8(r:aq)(U:List Rowb)(Γ:Gh)(v:Value):Prop := ∃(A0:Option Addr), ∃(c0:Nat),v=(aq.val r A0 c0)∧U = []∧aq.ok Γ A0 c0 r∧True
theorem w7(name:ByteArray)(hname:name.size≤lim){Ab:Option Addr}{cb:Nat}{b:List UInt8}(hb:Sl av Γ Ab b)(hbc:b.length≤cb)(hp:Pre [] Γ w0){r:aq}(h:nE name b=some r):Calls Tryz.prog 50 #[.string name,.slice Ab b.length cb] w0 (Outc Γ [] w0 (B8 r)):=by
 refine goV [4] func50 ntmps50 results50 hp λF hF=>?_
 refine I4 ?_
 refine bxV (v:=.string name) λg1=>?_
 refine bxV (v:=.slice Ab b.length cb) λg2=>?_
 refine aU (v:=.nilFunc) (k:=I3 (I4 (sV (gE (v:=.func (.func 99) #[] #[(pq g1),(pq g2)]) rfl (by kernel_rfl)) (k:=aU (v:=.func (.func 99) #[] #[(pq g1),(pq g2)]) (k:=I3 ?_)))))
 refine I8 ?_
 intro w hw
 obtain⟨Γ3,hw,hl4,hr5⟩:=hw.seal (i:=1) rfl
 have hg6:=hr5 _ (List.mem_singleton.2 rfl)
 obtain⟨Γ7,hw,hl8,hr9⟩:=hw.seal (i:=0) rfl
 have hg10:=hr9 _ (List.mem_singleton.2 rfl)
 have hf11:aq.ok Γ7 (some ⟨g2,0,none⟩) g1 (aq.disk_add_1 name b):=⟨⟨(hl8 _ _ hg6),hname⟩,⟨g2,Ab,cb,rfl,hg10,hbc,(hb.mono (hl4.trans hl8))⟩,trivial⟩
 cases h
 subst hF
 exact aL (is:=[]) (by kernel_rfl) hw rfl ⟨(some ⟨g2,0,none⟩),g1,rfl,rfl,hf11,trivial⟩
abbrev sG(gd:Nat)(ed:Nat)(r:a8×Int)(U:List Rowb)(Γ:Gh)(v:Value):Prop := ∃(rowd':Rowb),v = .int .i64 r.2∧U = [rowd']∧a8.ob ed Γ gd rowd' r.1∧I64 r.2∧True
theorem j4{gd ed:Nat}{rowd:Rowb}{d:a8}(hd:a8.ob ed Γ gd rowd d)(name:ByteArray)(hname:name.size≤lim){Ab:Option Addr}{cb:Nat}{b:List UInt8}(hb:Sl av Γ Ab b)(hbc:b.length≤cb)(hp:Pre [rowd] Γ w0){r:a8×Int}(h:cd d name b=some r):Calls Tryz.prog 21 #[(pq gd),.string name,.slice Ab b.length cb] w0 (Outc Γ [rowd] w0 (sG gd ed r)):=by
 refine goV [6] func21 ntmps21 results21 hp λF hF=>?_
 refine I4 (aV (k:=I3 (I5 (I4 (mV (k:=?_))))))
 refine bsV #[.string name] 9 λg1=>?_
 have ho2:Own strT Γ 9 [(g1,.cells #[.string name] 9 (0,0))] (some ⟨g1,0,none⟩) 1 [name]:=Ii (T:=strT) (ys:=[name]) [[.string name]] rfl (show 1≤lim by decide) ⟨⟨rfl,hname⟩,trivial⟩
 obtain⟨z3,hz4,h⟩:=bnd h
 refine vqV (caV call53) (λw hw=>uj (Γ:=Gh.all w) (ho2.sl hw.sat.le_all (hw.ra 0 rfl)) ho2.capz (Sat.all w) hz4) (k:=sV cY (k:=I3 ?_))
 refine ciV h (λhb5 h=>?_) (λhb5 h=>?_)
 ·
  refine I4 (aV (k:=I3 ?_))
  exact I8 λw hw=>re_ r [1] h hF hw ⟨rowd,rfl,rfl,hd,iV,trivial⟩
 refine I7 (wc_ (I5 (I5 ?_)))
 obtain⟨m1_6,r1_6,m2_6,r2_6,A3_6,c3_6,r3_6,hrow_6,ho0_6,ho1_6,ho2_6,ho3_6,-⟩:=id hd
 refine ufC 1 hrow_6 [_,_,_,_,_] ?_
 refine drV ?_
 refine zV moV (k:=zV (ag rfl IZ) (k:=zV moV (k:=zV nlV (k:=zV (q_fl 0 E8) (k:=zV (ldV 0 Jc) (k:=zV moV (k:=?_)))))))
 obtain⟨z7,hz8,h⟩:=bnd h
 refine wc rfl rfl rfl (bK (caV call54) (λw hw=>uS (Γ:=Gh.all w) (hd.mono hw.sat.le_all) (hw.raU [0,0,0,0] rfl hrow_6) (Sat.all w) hz8)) (zV fO (k:=zV bi (k:=?_)))
 refine Ij ?_
 change WC _ _ _ _ _ _
 refine ciV h (λhb9 h=>?_) (λhb9 h=>?_)
 ·
  refine I4 (aV (k:=I3 ?_))
  refine I8 ?_
  intro w hw
  have hw:=hw.fold (is:=[0,0,0,0]) rfl hrow_6
  exact re_ r [0] h hF hw ⟨rowd,rfl,rfl,hd,iV,trivial⟩
 refine I7 (wc_ (I4 (mV (k:=?_))))
 obtain⟨z11,hz12,h⟩:=bnd h
 refine ecV [] (caV call55) (λw hp=>kP hb hbc hp hz12) ?_
 rintro Γ13 _ _ hl14 ⟨A17,c18,row19,rfl,rfl,hr20,_⟩
 refine cwV 22 [_,_,_,_,_,_] (aV (k:=I3 (I4 (mV (k:=mV (k:=mV (k:=?_)))))))
 have hc25:=hr20.capz
 refine seR 0 [_,_,_,_,_,_] λΓ21 hl22 hr23=>?_
 have hs24:=hr20.sl hl22 hr23
 obtain⟨z26,hz27,h⟩:=bnd h
 refine ecV [] (caV call50) (λw hp=>w7 name hname hs24 hc25 hp hz27) ?_
 rintro Γ28 _ _ hl29 ⟨A32,c33,rfl,rfl,hr34,_⟩
 refine cwV 26 [_,_,_,_,_,_] (mV (k:=mV (k:=sV (aZ (v:=.agg #[(aq.val z26 A32 c33),.string name,.slice A17 z11.length c18]) rfl (uV rfl rfl rfl) (λw=>by kernel_rfl)) (k:=?_))))
 refine foR [1,1,1,1] hrow_6 [_,_,_] ?_
 obtain⟨z36,hz37,h⟩:=bnd h
 refine ecV [0] (caV call56) (λw hp=>ml (hd.mono ((hl14.trans hl22).trans hl29)) (⟨z26,name,z11⟩:aE) ⟨hr34,hname,⟨hc25,(hs24.mono hl29)⟩⟩ hp hz37) ?_
 rintro Γ38 _ _ hl39 ⟨row42,rfl,rfl,hr43,hr44,_⟩
 refine cwV 30 [_,_,_] (aV (k:=I3 ?_))
 exact I8 λw hw=>re_ r [0] h hF hw ⟨row42,rfl,rfl,hr43,hr44,trivial⟩
abbrev rP(gl:Nat)(el:Nat×Nat)(edk0:Nat)(r:ai×a8×Int)(U:List Rowb)(Γ:Gh)(v:Value):Prop := ∃(rowl':Rowb), ∃(rowdk0':Rowb),v = .int .i64 r.2.2∧U = [rowl',rowdk0']∧ai.ob el Γ gl rowl' r.1∧a8.ob edk0 Γ el.2 rowdk0' r.2.1∧I64 r.2.2∧True
theorem iI{gl:Nat}{el:Nat×Nat}{rowl:Rowb}{l:ai}(hl:ai.ob el Γ gl rowl l){Ab:Option Addr}{cb:Nat}{b:List UInt8}(hb:Sl av Γ Ab b)(hbc:b.length≤cb){edk0:Nat}{rowdk0:Rowb}{dk0:a8}(hdk0:a8.ob edk0 Γ el.2 rowdk0 dk0)(hp:Pre [rowl,rowdk0] Γ w0){r:ai×a8×Int}(h:fJ l b dk0=some r):Calls Tryz.prog 37 #[(pq gl),.slice Ab b.length cb] w0 (Outc Γ [rowl,rowdk0] w0 (rP gl el edk0 r)):=by
 refine goV [4] func37 ntmps37 results37 hp λF hF=>?_
 refine I4 (aV (k:=I3 (I4 (mV (k:=?_)))))
 obtain⟨z1,hz2,h⟩:=bnd h
 refine ecV [] (caV call81) (λw hp=>qM hb hbc hp hz2) ?_
 rintro Γ3 _ _ hl4 ⟨A7,c8,row9,rfl,rfl,hr10,hr11,_⟩
 refine cwV 12 [_,_,_] (mV (k:=sV exV (k:=sV exV (k:=aV (k:=aV (k:=I3 (I5 ?_)))))))
 refine I4 (mV (k:=sV bD (k:=I3 ?_)))
 refine ciV h (λhb12 h=>?_) (λhb12 h=>?_)
 ·
  refine I4 (mV (k:=aV (k:=I3 ?_)))
  exact I8 λw hw=>re_ r [1,1] h hF hw ⟨rowl,rowdk0,rfl,rfl,(hl.mono hl4),(hdk0.mono hl4),hr11,trivial⟩
 refine I7 (wc_ (I5 ?_))
 obtain⟨hrow_13,ho0_13,ho1_13,ho2_13,ho3_13,ho4_13,ho5_13,ho6_13,-⟩:=(hl.mono hl4)
 refine ufC 1 hrow_13 [_,_,_] ?_
 refine drV ?_
 refine zV moV (k:=zV nlV (k:=zV (q_fl 4 m9) (k:=zV (ldV 0 Jl) (k:=zV moV (k:=zV nlV (k:=zV (q_fl 5 uM) (k:=zV (ldV 0 Jc) (k:=?_))))))))
 refine zV aoV (k:=zV aoV (k:=?_))
 refine Ij ?_
 change WC _ _ _ _ _ _
 refine foC [0] hrow_13 [_,_,_] ?_
 refine Id (λσ w => ∃(part_15:Int), ∃(tail_17:Int),e8 l dk0 z1 part_15 tail_17=some r∧slots σ [(0,(pq gl)),(5,.slice A7 z1.1.length c8),(7,ii part_15),(8,ii tail_17)]∧CC F Γ3 [rowl,row9,rowdk0] w∧I64 part_15∧I64 tail_17∧True) ?_ ?_
 ·
  refine I4 (mV (k:=sV bp (k:=mV (k:=vG0 (h:=λhg19=>moV) (k:=vG0 (h:=λhg20=>bi rfl (grV hg20)) (k:=vG0 (h:=λhg21=>bv (v:=.bool (decide (0<l.tail))) rfl (grV hg21)) (k:=vh1 (c0:=(!(l.last==0))) (g:=(decide (0<l.tail))) rfl rfl rfl rfl rfl (λ_=>QV.qo moV) ?_)))))))
  refine vh1 (c0:=(!(l.last==0))) (g:=(decide (0<l.tail))) rfl rfl rfl rfl rfl (λhg23=>QV.qo (ag rfl IZ (grV hg23))) (vh1 (c0:=(!(l.last==0))) (g:=(decide (0<l.tail))) rfl rfl rfl rfl rfl (λ_=>QV.qo moV) (vh1 (c0:=(!(l.last==0))) (g:=(decide (0<l.tail))) rfl rfl rfl rfl rfl (λhg25=>QV.qo (nlV (hv:=grV hg25))) (vh1 (c0:=(!(l.last==0))) (g:=(decide (0<l.tail))) rfl rfl rfl rfl rfl (λhg26=>QV.qo (q_fl 3 xw rfl (grV hg26))) ?_)))
  obtain⟨hrow_28,ho0_28,ho1_28,ho2_28,ho3_28,ho4_28,ho5_28,ho6_28,-⟩:=(hl.mono hl4)
  refine ufR 0 hrow_28 [_,_,_] ?_
  refine vh1 (c0:=(!(l.last==0))) (g:=(decide (0<l.tail))) rfl rfl rfl rfl rfl (λhg29=>QV.qo (ldV 0 Jc (hx:=grV hg29))) (vh1 (c0:=(!(l.last==0))) (g:=(decide (0<l.tail))) rfl rfl rfl rfl rfl (λ_=>QV.qo moV) (vh1 (c0:=(!(l.last==0))) (g:=(decide (0<l.tail))) rfl rfl rfl rfl rfl (λhg31=>QV.qo (fO rfl (grV hg31) (grV hg31))) (vh1 (c0:=(!(l.last==0))) (g:=(decide (0<l.tail))) rfl rfl rfl rfl rfl (λhg32=>QV.qo (bi rfl (grV hg32) (grV hg32))) (vG0 (h:=λhg33=>gq rfl (grV hg33) (ly (c:=(!(l.last==0))) (g:=(decide (0<l.tail))) (y:=(decide ((w64 (l.size - l.tail))<(z1.1.length:Int)))) hg33)) (k:=sV pkO (k:=I3 ?_))))))
  refine ciV h (λhb34 h=>?_) (λhb34 h=>?_)
  ·
   refine I9 ?_
   refine mV (k:=sV bR (k:=aV (k:=aV (k:=?_))))
   refine I6 ?_
   intro w hw
   have hw:=hw.fold (is:=[0]) rfl hrow_28
   exact⟨(w64 (l.last+1)),0,h,slK,hw,(dR _),iV,trivial⟩
  refine I7 ?_
  intro w hw
  have hw:=hw.fold (is:=[0]) rfl hrow_28
  exact⟨l.last,l.tail,h,slK,hw,ho3_13,ho4_13,trivial⟩
 rintro σ w ⟨part_15,tail_17,h,hsl,hw,hr16,hr18,-⟩
 refine slV hsl hw [_,_,_] ?_; clear hw hsl
 refine I5 (I4 (mV (k:=sV bi (k:=I3 ?_))))
 refine ciV h (λhb37 h=>?_) (λhb37 h=>?_)
 ·
  refine I4 (aV (k:=I3 ?_))
  exact I8 λw hw=>re_ r [0,1] h hF hw ⟨rowl,rowdk0,rfl,rfl,(hl.mono hl4),(hdk0.mono hl4),iV,trivial⟩
 refine I7 (wc_ (I5 ?_))
 refine Id (λσ w => ∃(f_40:List UInt8), ∃(e_45:Int), ∃(o47:a8), ∃(Γ38:Gh), ∃(A41:Option Addr), ∃(c42:Nat), ∃(row48:Rowb),ja l part_15 tail_17 f_40 e_45 o47=some r∧slots σ [(0,(pq gl)),(5,.slice A41 f_40.length c42),(7,ii part_15),(8,ii tail_17),(9,ii e_45)]∧CC F Γ38 [rowl,row48] w∧Gh.le Γ3 Γ38∧f_40.length≤c42∧Sl av Γ38 A41 f_40∧I64 e_45∧a8.ob edk0 Γ38 el.2 row48 o47∧True) ?_ ?_
 ·
  have hc54:=hr10.capz
  refine seC 1 [_,_,_] λΓ50 hl51 hr52=>?_
  have hs53:=hr10.sl hl51 hr52
  obtain⟨hrow_55,ho0_55,ho1_55,ho2_55,ho3_55,ho4_55,ho5_55,ho6_55,-⟩:=(hl.mono (hl4.trans hl51))
  refine ufC 0 hrow_55 [_,_,_] ?_
  refine leV λh056=>?_
  refine dW (CC F Γ50 [[(gl,.cells #[.pointer (some ⟨el.2,0,none⟩),.string l.place_name,ii l.place_gen,ii l.size,ii l.last,ii l.tail,ii l.count,ii l.bytes] el.1 (0,0))],[]]) (bo_ [0,0] gR h056) λk=>?_
  change WH _ _ _ _ (CC F Γ50 [_,_,_]) _ 19 _ _
  refine hV 0 k (q:=moV) (k:=hV 1 k (q:=nlV) (k:=hV 2 k (q:=q_fl 0 aW) (k:=hV 3 k (q:=q_fl 0 eC) (k:=hV 4 k (q:=ldV 0 Jd) (k:=hV 5 k (q:=moV) (k:=hV 6 k (q:=nlV) (k:=hV 7 k (q:=q_fl 0 aW) (k:=?_))))))))
  refine hV 8 k (q:=ldaV 0 [.pointer (some ⟨el.2,0,none⟩),.string l.place_name,ii l.place_gen] Je Jf) (k:=hV 9 k (q:=moV) (k:=hV 10 k (q:=nlV) (k:=hV 11 k (q:=q_fl 0 aW) (k:=hV 12 k (q:=q_fl 2 fB) (k:=hV 13 k (q:=ldV 0 Jl) (k:=hV 14 k (q:=moV) (k:=hV 16 k (q:=moV) (k:=?_))))))))
  refine wl_ 15 rfl ?_
  obtain⟨z57,hz58,h⟩:=bnd h
  refine vqV (caV call82) (λw hw=>nn (Γ:=Gh.all w) (gp__0:=el.2) l.place_name ho0_55 l.place_gen ho1_55 l.place_gen ho1_55 part_15 hr16 (Sat.all w) hz58) (k:=?_)
  refine I6 (nxV (bo_ [0,0] gR h056) λk=>?_)
  refine wl_ 17 rfl ?_
  obtain⟨hk59,h⟩:=am h
  obtain⟨z60,hz61,h⟩:=bnd h
  refine ecV [2] (caV call21) (λw hp=>j4 (hdk0.mono (hl4.trans hl51)) z57 (Ip hk59) hs53 hc54 hp hz61) ?_
  rintro Γ62 _ _ hl63 ⟨row66,rfl,rfl,hr67,hr68,_⟩
  refine cwV 64 [_,_,_] ?_
  refine I6 (nxV (bo_ [1,1] hl63 h056) λk=>?_)
  refine hV 18 k (q:=aoV) (k:=?_)
  refine Ig (by kernel_rfl) ?_
  intro w hw
  have hw:=hw.fold (is:=[1]) rfl hrow_55
  exact⟨z1.1,z60.2,z60.1,Γ62,A7,c8,row66,h,slK,(hw.on [0,0]),(hl51.trans hl63),hc54,(hs53.mono hl63),hr68,hr67,trivial⟩
 rintro σ w ⟨f_40,e_45,o47,Γ38,A41,c42,row48,h,hsl,hw,hl39,hc44,hs43,hr46,ho49,-⟩
 refine slV hsl hw [_,_] ?_; clear hw hsl
 refine I4 (mV (k:=sV bD (k:=I3 ?_)))
 refine ciV h (λhb70 h=>?_) (λhb70 h=>?_)
 ·
  refine I4 (mV (k:=aV (k:=I3 ?_)))
  exact I8 λw hw=>re_ r [0,0] h hF hw ⟨rowl,row48,rfl,rfl,(hl.mono (hl4.trans hl39)),ho49,hr46,trivial⟩
 refine I7 (wc_ (I4 (mV (k:=mV (k:=mV (k:=mV (k:=mV (k:=?_))))))))
 refine sV (ag rfl IZ) (k:=sV bR (k:=sV nlV (k:=sV (q_fl 4 m9) (k:=?_))))
 obtain⟨hrow_71,ho0_71,ho1_71,ho2_71,ho3_71,ho4_71,ho5_71,ho6_71,-⟩:=(hl.mono (hl4.trans hl39))
 refine ufR 0 hrow_71 [_,_] ?_
 refine stV 0 (ii part_15) #[.pointer (some ⟨el.2,0,none⟩),.string l.place_name,ii l.place_gen,ii l.size,ii part_15,ii l.tail,ii l.count,ii l.bytes] Jk (k:=sV nlV (k:=sV (q_fl 5 uM) (k:=stV 0 (ii (w64 (tail_17+(f_40.length:Int)))) #[.pointer (some ⟨el.2,0,none⟩),.string l.place_name,ii l.place_gen,ii l.size,ii part_15,ii (w64 (tail_17+(f_40.length:Int))),ii l.count,ii l.bytes] Jb (k:=I3 (I4 (mV (k:=sV nlV (k:=?_))))))))
 refine sV (q_fl 6 ry) (k:=sV (ldV 0 Jc) (k:=sV bR (k:=sV nlV (k:=sV (q_fl 6 ry) (k:=stV 0 (ii (w64 (l.count+1))) #[.pointer (some ⟨el.2,0,none⟩),.string l.place_name,ii l.place_gen,ii l.size,ii part_15,ii (w64 (tail_17+(f_40.length:Int))),ii (w64 (l.count+1)),ii l.bytes] Jb (k:=I3 (I4 ?_)))))))
 refine mV (k:=sV nlV (k:=sV (q_fl 7 rD) (k:=sV (ldV 0 Jc) (k:=mV (k:=sV (ag rfl IZ) (k:=sV bR (k:=sV nlV (k:=?_))))))))
 refine sV (q_fl 7 rD) (k:=stV 0 (ii (w64 (l.bytes+(f_40.length:Int)))) #[.pointer (some ⟨el.2,0,none⟩),.string l.place_name,ii l.place_gen,ii l.size,ii part_15,ii (w64 (tail_17+(f_40.length:Int))),ii (w64 (l.count+1)),ii (w64 (l.bytes+(f_40.length:Int)))] Jb (k:=I3 (I4 (aV (k:=I3 ?_)))))
 refine I8 ?_
 intro w hw
 obtain⟨row_72,hrow_72,hob_72⟩:∃rw:Rowb,rw=([[(gl,.cells #[.pointer (some ⟨el.2,0,none⟩),.string l.place_name,ii l.place_gen,ii l.size,ii part_15,ii (w64 (tail_17+(f_40.length:Int))),ii (w64 (l.count+1)),ii (w64 (l.bytes+(f_40.length:Int)))] el.1 (0,0))]]:List Rowb).flatten∧ai.ob el Γ38 gl rw (⟨l.place_name,l.place_gen,l.size,part_15,(w64 (tail_17+(f_40.length:Int))),(w64 (l.count+1)),(w64 (l.bytes+(f_40.length:Int)))⟩:ai):=⟨_,rfl,rfl,ho0_71,ho1_71,ho2_71,hr16,(dR _),(dR _),(dR _),trivial⟩
 have hw:=hw.fold (is:=[0]) rfl hrow_72
 cases h
 subst hF
 exact aL (is:=[0,0]) (by kernel_rfl) hw rfl ⟨row_72,row48,rfl,rfl,hob_72,ho49,iV,trivial⟩
abbrev tn(gl:Nat)(el:Nat×Nat)(rowl:Rowb)(edk0:Nat)(r:a8)(U:List Rowb)(Γ:Gh)(v:Value):Prop := ∃(rowdk0':Rowb),v = .tuple #[]∧U = [rowl,rowdk0']∧a8.ob edk0 Γ el.2 rowdk0' r∧True
theorem nZ{gl:Nat}{el:Nat×Nat}{rowl:Rowb}{l:ai}(hl:ai.ob el Γ gl rowl l){edk0:Nat}{rowdk0:Rowb}{dk0:a8}(hdk0:a8.ob edk0 Γ el.2 rowdk0 dk0)(hp:Pre [rowl,rowdk0] Γ w0){r:a8}(h:jS l dk0=some r):Calls Tryz.prog 38 #[(pq gl)] w0 (Outc Γ [rowl,rowdk0] w0 (tn gl el rowl edk0 r)):=by
 refine goV [] func38 ntmps38 results38 hp λF hF=>?_
 refine I9 ?_
 refine mV (k:=sV nlV (k:=sV (q_fl 0 aW) (k:=sV (q_fl 0 eC) (k:=?_))))
 obtain⟨hrow_1,ho0_1,ho1_1,ho2_1,ho3_1,ho4_1,ho5_1,ho6_1,-⟩:=id hl
 refine ufR 0 hrow_1 [_,_] ?_
 refine sV (ldV 0 Jd) (k:=?_)
 obtain⟨z2,hz3,h⟩:=bnd h
 refine ecV [1] (caV call76) (λw hp=>dG hdk0 hp hz3) ?_
 rintro Γ4 _ _ hl5 ⟨row8,rfl,rfl,hr9,_⟩
 refine cwV 7 [_,_] ?_
 refine I6 ?_
 intro w hw
 have hw:=hw.fold (is:=[1]) rfl hrow_1
 cases h
 subst hF
 exact aL (is:=[0,0]) (by kernel_rfl) hw rfl ⟨row8,rfl,rfl,hr9,trivial⟩
abbrev rg(gs_:Nat)(es_:Nat×Nat)(r:ae)(U:List Rowb)(Γ:Gh)(v:Value):Prop := ∃(rows_':Rowb),v = .tuple #[]∧U = [rows_']∧ae.ob es_ Γ gs_ rows_' r∧True
theorem qQ{B:Gh}{gs_:Nat}{es_:Nat×Nat}{rows_:Rowb}{s_:ae}(hs_:ae.ob es_ Γ gs_ rows_ s_){Ar_1:Option Addr}{cr_1:Nat}(r_:Rec)(hr_:Rec.fits B Ar_1 cr_1 r_){Ab:Option Addr}{cb:Nat}{b:List UInt8}(hb:Sl av Γ Ab b)(hbc:b.length≤cb)(hp:Pre [rows_] Γ w0)(hpB:Pre [rows_] B w0){r:ae}(h:ey s_ r_ b=some r):Calls Tryz.prog 35 #[(pq gs_),.agg (Rec.cs Ar_1 cr_1 r_).toArray,.slice Ab b.length cb] w0 (Outc Γ [rows_] w0 (rg gs_ es_ r)):=by
 refine goV [] func35 ntmps35 results35 hp λF hF=>?_
 have hB:Lent F B:=hF▸Lent.start hpB
 refine I4 ?_
 refine bxV (v:=.agg (Rec.cs Ar_1 cr_1 r_).toArray) λg1=>?_
 refine I3 (I5 ?_)
 refine leV λh02=>?_
 refine dW (CC F Γ [[(g1,.cells (Rec.cs Ar_1 cr_1 r_).toArray 24 (0,0))]]) (bo_ [0] gR h02) λk=>?_
 change WH _ _ _ _ (CC F Γ [_,_]) _ 7 _ _
 refine hV 0 k (q:=moV) (k:=hV 1 k (q:=nlV) (k:=hV 2 k (q:=q_fl 1 kT) (k:=hV 4 k (q:=q_fl 0 cV) (k:=hV 5 k (q:=ldV 0 IY) (k:=wl_ 3 rfl ?_)))))
 obtain⟨g0_3,r0_3,m1_3,r1_3,hrow_3,ho0_3,ho1_3,-⟩:=id hs_
 refine ufR 1 hrow_3 [_,_,_,_] ?_
 refine sV (ldV 0 JJ) (k:=?_)
 refine I6 (nxV (bo_ [3] gR h02) λk=>?_)
 refine wl_ 6 rfl ?_
 refine wX (i:=2) (x:=r_.key) rfl ho1_3 rfl rfl rfl JK rfl rfl ?_
 intro row4 hm5
 refine I6 (nxV (bo_ [3] gR h02) λk=>?_)
 refine Ig (by kernel_rfl) ?_
 change WC _ _ _ _ _ _
 refine I4 (sV (q_fl 1 ci) (k:=sV (ldV 3 JH) (k:=sV (ag rfl JE) (k:=sV bi (k:=I3 ?_)))))
 refine ciV h (λhb6 h=>?_) (λhb6 h=>?_)
 ·
  refine leV λh07=>?_
  refine dW (CC F Γ [[(gs_,.cells #[(pq g0_3),.map (some m1_3)] es_.1 (0,0))],[(g1,.cells (Rec.cs Ar_1 cr_1 r_).toArray 24 (0,0))]]) (bo_ [0,2] gR h07) λk=>?_
  change WH _ _ _ _ (CC F Γ [_,_,_,_]) _ 8 _ _
  refine hV 0 k (q:=moV) (k:=hV 1 k (q:=nlV) (k:=hV 2 k (q:=q_fl 1 kT) (k:=hV 3 k (q:=ldV 0 JJ) (k:=hV 4 k (q:=q_fl 0 cV) (k:=hV 5 k (q:=ldV 1 IY) (k:=hV 6 k (q:=moV) (k:=wl_ 7 rfl ?_)))))))
  refine n4 (i:=2) (x:=r_.key) (v:=.slice Ab b.length cb) (a:=b) rfl rfl rfl JK rfl rfl (by kernel_rfl) rfl hm5 (by exact⟨Ab,cb,rfl,hbc,hb⟩) hr_.1 ?_
  intro row8 hm9
  refine I6 (nxV (bo_ [0,2] gR h07) λk=>?_)
  refine Ig (by kernel_rfl) ?_
  intro w hw
  obtain⟨row_10,hrow_10,hob_10⟩:∃rw:Rowb,rw=([[(gs_,.cells #[(pq g0_3),.map (some m1_3)] es_.1 (0,0))],r0_3,row8]:List Rowb).flatten∧ae.ob es_ Γ gs_ rw (⟨s_.log,(mput r_.key b (mdel r_.key s_.keys))⟩:ae):=⟨_,rfl,g0_3,r0_3,m1_3,row8,rfl,ho0_3,hm9,trivial⟩
  have hw:=hw.fold (is:=[0,0,0]) rfl hrow_10
  cases h
  subst hF
  exact aL (is:=[0]) (by kernel_rfl) hw rfl ⟨row_10,rfl,rfl,hob_10,trivial⟩
 refine I7 ?_
 intro w hw
 obtain⟨row_11,hrow_11,hob_11⟩:∃rw:Rowb,rw=([[(gs_,.cells #[(pq g0_3),.map (some m1_3)] es_.1 (0,0))],r0_3,row4]:List Rowb).flatten∧ae.ob es_ Γ gs_ rw (⟨s_.log,(mdel r_.key s_.keys)⟩:ae):=⟨_,rfl,g0_3,r0_3,m1_3,row4,rfl,ho0_3,hm5,trivial⟩
 have hw:=hw.fold (is:=[0,0,0]) rfl hrow_11
 cases h
 subst hF
 exact aL (is:=[0]) (by kernel_rfl) hw rfl ⟨row_11,rfl,rfl,hob_11,trivial⟩
abbrev sU(gs_:Nat)(es_:Nat×Nat)(edk0:Nat)(r:ae×a8×Int)(U:List Rowb)(Γ:Gh)(v:Value):Prop := ∃(rows_':Rowb), ∃(rowdk0':Rowb),v = .int .i64 r.2.2∧U = [rows_',rowdk0']∧ae.ob es_ Γ gs_ rows_' r.1∧a8.ob edk0 Γ es_.2 rowdk0' r.2.1∧I64 r.2.2∧True
theorem sW{gs_:Nat}{es_:Nat×Nat}{rows_:Rowb}{s_:ae}(hs_:ae.ob es_ Γ gs_ rows_ s_){Ar_1:Option Addr}{cr_1:Nat}(r_:Rec)(hr_:Rec.fits Γ Ar_1 cr_1 r_){edk0:Nat}{rowdk0:Rowb}{dk0:a8}(hdk0:a8.ob edk0 Γ es_.2 rowdk0 dk0)(hp:Pre [rows_,rowdk0] Γ w0){r:ae×a8×Int}(h:cy s_ r_ dk0=some r):Calls Tryz.prog 11 #[(pq gs_),.agg (Rec.cs Ar_1 cr_1 r_).toArray] w0 (Outc Γ [rows_,rowdk0] w0 (sU gs_ es_ edk0 r)):=by
 refine goV [4] func11 ntmps11 results11 hp λF hF=>?_
 refine I4 ?_
 refine bxV (v:=.agg (Rec.cs Ar_1 cr_1 r_).toArray) λg1=>?_
 refine aV (k:=I3 (I4 (sV (ldaV 0 (Rec.cs Ar_1 cr_1 r_) JA Jz) (k:=?_))))
 obtain⟨z2,hz3,h⟩:=bnd h
 refine ecV [] (caV call36) (λw hp=>xe r_ hr_ hp hz3) ?_
 rintro Γ4 _ _ hl5 ⟨A8,c9,row10,rfl,rfl,hr11,hr12,_⟩
 refine cwV 9 [_,_,_,_] (mV (k:=sV exV (k:=sV exV (k:=aV (k:=aV (k:=I3 ?_))))))
 refine Id (λσ w => ∃(b_15:List UInt8), ∃(e_20:Int), ∃(o22:ae), ∃(o25:a8), ∃(Γ13:Gh), ∃(A16:Option Addr), ∃(c17:Nat), ∃(row23:Rowb), ∃(row26:Rowb),eY r_ b_15 e_20 o22 o25=some r∧slots σ [(0,(pq gs_)),(3,(pq g1)),(5,.slice A16 b_15.length c17),(6,ii e_20)]∧CC F Γ13 [[(g1,.cells (Rec.cs Ar_1 cr_1 r_).toArray 24 (0,0))],row23,row26] w∧Gh.le Γ4 Γ13∧b_15.length≤c17∧Sl av Γ13 A16 b_15∧I64 e_20∧ae.ob es_ Γ13 gs_ row23 o22∧a8.ob edk0 Γ13 es_.2 row26 o25∧True) ?_ ?_
 ·
  refine I4 (mV (k:=sV bp (k:=I3 ?_)))
  refine ciV h (λhb28 h=>?_) (λhb28 h=>?_)
  ·
   refine I9 ?_
   refine mV (k:=sV nlV (k:=sV (q_fl 0 oZ) (k:=?_)))
   obtain⟨g0_29,r0_29,m1_29,r1_29,hrow_29,ho0_29,ho1_29,-⟩:=(hs_.mono hl5)
   refine ufR 2 hrow_29 [_,_,_,_,_,_] ?_
   refine sV (ldV 0 Jm) (k:=mV (k:=?_))
   have hc34:=hr11.capz
   refine seR 3 [_,_,_,_,_,_] λΓ30 hl31 hr32=>?_
   have hs33:=hr11.sl hl31 hr32
   obtain⟨z35,hz36,h⟩:=bnd h
   refine ecV [1,4] (caV call37) (λw hp=>iI (ho0_29.mono hl31) hs33 hc34 (hdk0.mono (hl5.trans hl31)) hp hz36) ?_
   rintro Γ37 _ _ hl38 ⟨row41,row43,rfl,rfl,hr42,hr44,hr45,_⟩
   refine cwV 19 [_,_,_,_,_,_] (aV (k:=?_))
   refine I6 ?_
   intro w hw
   obtain⟨row_46,hrow_46,hob_46⟩:∃rw:Rowb,rw=([[(gs_,.cells #[(pq g0_29),.map (some m1_29)] es_.1 (0,0))],row41,r1_29]:List Rowb).flatten∧ae.ob es_ Γ37 gs_ rw (⟨z35.1,s_.keys⟩:ae):=⟨_,rfl,g0_29,row41,m1_29,r1_29,rfl,hr42,(ho1_29.mono (hl31.trans hl38)),trivial⟩
   have hw:=hw.fold (is:=[2,0,1]) rfl hrow_46
   exact⟨z2.1,z35.2.2,(⟨z35.1,s_.keys⟩:ae),z35.2.1,Γ37,A8,c9,row_46,row43,h,slK,(hw.on [3,0,0]),(hl31.trans hl38),hc34,(hs33.mono hl38),hr45,hob_46,hr44,trivial⟩
  refine I7 ?_
  intro w hw
  have hc51:=hr11.capz
  obtain⟨Γ47,hw,hl48,hr49⟩:=hw.seal (i:=0) rfl; have hs50:=hr11.sl hl48 hr49
  exact⟨z2.1,z2.2,s_,dk0,Γ47,A8,c9,rows_,rowdk0,h,slK,(hw.on [1,1,1]),hl48,hc51,hs50,hr12,(hs_.mono (hl5.trans hl48)),(hdk0.mono (hl5.trans hl48)),trivial⟩
 rintro σ w ⟨b_15,e_20,o22,o25,Γ13,A16,c17,row23,row26,h,hsl,hw,hl14,hc19,hs18,hr21,ho24,ho27,-⟩
 refine slV hsl hw [_,_,_] ?_; clear hw hsl
 refine I5 (I4 (mV (k:=sV bD (k:=I3 ?_))))
 refine ciV h (λhb52 h=>?_) (λhb52 h=>?_)
 ·
  refine I4 (mV (k:=aV (k:=I3 ?_)))
  exact I8 λw hw=>re_ r [1,1] h hF hw ⟨row23,row26,rfl,rfl,ho24,ho27,hr21,trivial⟩
 refine I7 (wc_ (I4 (mV (k:=sV nlV (k:=sV (q_fl 0 oZ) (k:=?_))))))
 obtain⟨g0_53,r0_53,m1_53,r1_53,hrow_53,ho0_53,ho1_53,-⟩:=id ho24
 refine ufR 1 hrow_53 [_,_,_,_,_] ?_
 refine sV (ldV 0 Jm) (k:=?_)
 obtain⟨z54,hz55,h⟩:=bnd h
 refine ecV [1,3] (caV call38) (λw hp=>nZ ho0_53 ho27 hp hz55) ?_
 rintro Γ56 _ _ hl57 ⟨row60,rfl,rfl,hr61,_⟩
 refine cwV 27 [_,_,_,_,_] (I3 (I4 (mV (k:=sV (ldaV 4 (Rec.cs Ar_1 cr_1 r_) JA Jz) (k:=mV (k:=?_))))))
 refine foR [2,0,1] hrow_53 [_,_,_] ?_
 obtain⟨z63,hz64,h⟩:=bnd h
 refine ecV [0] (caV call35) (λw hp=>nT (ho24.mono hl57) r_ (Rec.fits_mono hr_ ((hl5.trans hl14).trans hl57)) (hs18.mono hl57) hc19 hp hz64) ?_
 rintro Γ65 _ _ hl66 ⟨row69,rfl,rfl,hr70,_⟩
 refine cwV 31 [_,_,_] (I3 (I4 (aV (k:=I3 ?_))))
 exact I8 λw hw=>re_ r [0,0] h hF hw ⟨row69,row60,rfl,rfl,hr70,(hr61.mono hl66),iV,trivial⟩
abbrev qO(gs_:Nat)(es_:Nat×Nat)(edk0:Nat)(r:ae×a8×Int)(U:List Rowb)(Γ:Gh)(v:Value):Prop := ∃(rows_':Rowb), ∃(rowdk0':Rowb),v = .int .i64 r.2.2∧U = [rows_',rowdk0']∧ae.ob es_ Γ gs_ rows_' r.1∧a8.ob edk0 Γ es_.2 rowdk0' r.2.1∧I64 r.2.2∧True
theorem mO{B:Gh}{gs_:Nat}{es_:Nat×Nat}{rows_:Rowb}{s_:ae}(hs_:ae.ob es_ Γ gs_ rows_ s_){Ar_1:Option Addr}{cr_1:Nat}(r_:Rec)(hr_:Rec.fits B Ar_1 cr_1 r_){edk0:Nat}{rowdk0:Rowb}{dk0:a8}(hdk0:a8.ob edk0 Γ es_.2 rowdk0 dk0)(hp:Pre [rows_,rowdk0] Γ w0)(hpB:Pre [rows_,rowdk0] B w0){r:ae×a8×Int}(h:cy s_ r_ dk0=some r):Calls Tryz.prog 11 #[(pq gs_),.agg (Rec.cs Ar_1 cr_1 r_).toArray] w0 (Outc Γ [rows_,rowdk0] w0 (qO gs_ es_ edk0 r)):=by
 refine goV [4] func11 ntmps11 results11 hp λF hF=>?_
 have hB:Lent F B:=hF▸Lent.start hpB
 refine I4 ?_
 refine bxV (v:=.agg (Rec.cs Ar_1 cr_1 r_).toArray) λg1=>?_
 refine aV (k:=I3 (I4 (sV (ldaV 0 (Rec.cs Ar_1 cr_1 r_) JA Jz) (k:=?_))))
 obtain⟨z2,hz3,h⟩:=bnd h
 refine jV (is:=[]) hB rfl rfl (caV call36) rfl (λw Θ hp hpB hle hleB hR=>uP r_ (Rec.fits_mono hr_ hleB) hp hpB hz3) ?_
 rintro Γ4 _ _ hl5 ⟨A8,c9,row10,rfl,rfl,hr11,hr12,_⟩
 refine cwV 9 [_,_,_,_] (mV (k:=sV exV (k:=sV exV (k:=aV (k:=aV (k:=I3 ?_))))))
 refine Id (λσ w => ∃(b_15:List UInt8), ∃(e_20:Int), ∃(o22:ae), ∃(o25:a8), ∃(Γ13:Gh), ∃(A16:Option Addr), ∃(c17:Nat), ∃(row23:Rowb), ∃(row26:Rowb),eY r_ b_15 e_20 o22 o25=some r∧slots σ [(0,(pq gs_)),(3,(pq g1)),(5,.slice A16 b_15.length c17),(6,ii e_20)]∧CC F Γ13 [[(g1,.cells (Rec.cs Ar_1 cr_1 r_).toArray 24 (0,0))],row23,row26] w∧Gh.le Γ4 Γ13∧b_15.length≤c17∧Sl av Γ13 A16 b_15∧I64 e_20∧ae.ob es_ Γ13 gs_ row23 o22∧a8.ob edk0 Γ13 es_.2 row26 o25∧True) ?_ ?_
 ·
  refine I4 (mV (k:=sV bp (k:=I3 ?_)))
  refine ciV h (λhb28 h=>?_) (λhb28 h=>?_)
  ·
   refine I9 ?_
   refine mV (k:=sV nlV (k:=sV (q_fl 0 oZ) (k:=?_)))
   obtain⟨g0_29,r0_29,m1_29,r1_29,hrow_29,ho0_29,ho1_29,-⟩:=(hs_.mono hl5)
   refine ufR 2 hrow_29 [_,_,_,_,_,_] ?_
   refine sV (ldV 0 Jm) (k:=mV (k:=?_))
   have hc34:=hr11.capz
   refine seR 3 [_,_,_,_,_,_] λΓ30 hl31 hr32=>?_
   have hs33:=hr11.sl hl31 hr32
   obtain⟨z35,hz36,h⟩:=bnd h
   refine ecV [1,4] (caV call37) (λw hp=>iI (ho0_29.mono hl31) hs33 hc34 (hdk0.mono (hl5.trans hl31)) hp hz36) ?_
   rintro Γ37 _ _ hl38 ⟨row41,row43,rfl,rfl,hr42,hr44,hr45,_⟩
   refine cwV 19 [_,_,_,_,_,_] (aV (k:=?_))
   refine I6 ?_
   intro w hw
   obtain⟨row_46,hrow_46,hob_46⟩:∃rw:Rowb,rw=([[(gs_,.cells #[(pq g0_29),.map (some m1_29)] es_.1 (0,0))],row41,r1_29]:List Rowb).flatten∧ae.ob es_ Γ37 gs_ rw (⟨z35.1,s_.keys⟩:ae):=⟨_,rfl,g0_29,row41,m1_29,r1_29,rfl,hr42,(ho1_29.mono (hl31.trans hl38)),trivial⟩
   have hw:=hw.fold (is:=[2,0,1]) rfl hrow_46
   exact⟨z2.1,z35.2.2,(⟨z35.1,s_.keys⟩:ae),z35.2.1,Γ37,A8,c9,row_46,row43,h,slK,(hw.on [3,0,0]),(hl31.trans hl38),hc34,(hs33.mono hl38),hr45,hob_46,hr44,trivial⟩
  refine I7 ?_
  intro w hw
  have hc51:=hr11.capz
  obtain⟨Γ47,hw,hl48,hr49⟩:=hw.seal (i:=0) rfl; have hs50:=hr11.sl hl48 hr49
  exact⟨z2.1,z2.2,s_,dk0,Γ47,A8,c9,rows_,rowdk0,h,slK,(hw.on [1,1,1]),hl48,hc51,hs50,hr12,(hs_.mono (hl5.trans hl48)),(hdk0.mono (hl5.trans hl48)),trivial⟩
 rintro σ w ⟨b_15,e_20,o22,o25,Γ13,A16,c17,row23,row26,h,hsl,hw,hl14,hc19,hs18,hr21,ho24,ho27,-⟩
 refine slV hsl hw [_,_,_] ?_; clear hw hsl
 refine I5 (I4 (mV (k:=sV bD (k:=I3 ?_))))
 refine ciV h (λhb52 h=>?_) (λhb52 h=>?_)
 ·
  refine I4 (mV (k:=aV (k:=I3 ?_)))
  exact I8 λw hw=>re_ r [1,1] h hF hw ⟨row23,row26,rfl,rfl,ho24,ho27,hr21,trivial⟩
 refine I7 (wc_ (I4 (mV (k:=sV nlV (k:=sV (q_fl 0 oZ) (k:=?_))))))
 obtain⟨g0_53,r0_53,m1_53,r1_53,hrow_53,ho0_53,ho1_53,-⟩:=id ho24
 refine ufR 1 hrow_53 [_,_,_,_,_] ?_
 refine sV (ldV 0 Jm) (k:=?_)
 obtain⟨z54,hz55,h⟩:=bnd h
 refine ecV [1,3] (caV call38) (λw hp=>nZ ho0_53 ho27 hp hz55) ?_
 rintro Γ56 _ _ hl57 ⟨row60,rfl,rfl,hr61,_⟩
 refine cwV 27 [_,_,_,_,_] (I3 (I4 (mV (k:=sV (ldaV 4 (Rec.cs Ar_1 cr_1 r_) JA Jz) (k:=mV (k:=?_))))))
 refine foR [2,0,1] hrow_53 [_,_,_] ?_
 obtain⟨z63,hz64,h⟩:=bnd h
 refine jV (is:=[0]) hB rfl rfl (caV call35) rfl (λw Θ hp hpB hle hleB hR=>qQ (ho24.mono hl57) r_ (Rec.fits_mono hr_ hleB) (hs18.mono hl57) hc19 hp hpB hz64) ?_
 rintro Γ65 _ _ hl66 ⟨row69,rfl,rfl,hr70,_⟩
 refine cwV 31 [_,_,_] (I3 (I4 (aV (k:=I3 ?_))))
 exact I8 λw hw=>re_ r [0,0] h hF hw ⟨row69,row60,rfl,rfl,hr70,(hr61.mono hl66),iV,trivial⟩
abbrev sv(gs_:Nat)(es_:Nat×Nat)(rows_:Rowb)(r:List ByteArray)(U:List Rowb)(Γ:Gh)(v:Value):Prop := ∃(A0:Option Addr), ∃(c0:Nat), ∃(row0:Rowb),v = .slice A0 r.length c0∧U = [rows_,row0]∧Own strT Γ 9 row0 A0 c0 r∧True
theorem j6{gs_:Nat}{es_:Nat×Nat}{rows_:Rowb}{s_:ae}(hs_:ae.ob es_ Γ gs_ rows_ s_)(hp:Pre [rows_] Γ w0){r:List ByteArray}(h:eQ s_=some r):Calls Tryz.prog 30 #[(pq gs_)] w0 (Outc Γ [rows_] w0 (sv gs_ es_ rows_ r)):=by
 refine goV [2] func30 ntmps30 results30 hp λF hF=>?_
 refine I4 (aV (k:=I3 (I4 (mV (k:=sV nlV (k:=sV (q_fl 1 kT) (k:=?_)))))))
 obtain⟨g0_1,r0_1,m1_1,r1_1,hrow_1,ho0_1,ho1_1,-⟩:=id hs_
 refine ufR 0 hrow_1 [_,_,_] ?_
 refine sV (ldV 0 JJ) (k:=?_)
 refine F1 (ρ:=sj) DR (mb:=some m1_1) rfl rfl (caV call62) ?_
 intro g2
 refine cwV 7 [_,_,_,_] ?_
 obtain⟨hk3,h⟩:=am h
 refine ecV [0,2] (caV call61) (λw hp=>Ff ho1_1 (Ip hk3) hp) ?_
 rintro Γ4 _ _ hl5 ⟨A8,c9,row10,rfl,rfl,ho11⟩
 refine cwV 8 [_,_,_,_,_] (aV (k:=I3 ?_))
 refine I8 ?_
 intro w hw
 have hw:=hw.fold (is:=[3,3,1]) rfl hrow_1
 exact re_ r [0,1] h hF hw ⟨A8,c9,row10,rfl,rfl,ho11,trivial⟩
abbrev th(gs_:Nat)(es_:Nat×Nat)(rows_:Rowb)(r:List Ver)(U:List Rowb)(Γ:Gh)(v:Value):Prop := ∃(A0:Option Addr), ∃(c0:Nat),v = .slice A0 r.length c0∧U = [rows_]∧r.length≤c0∧Sl verT Γ A0 r∧True
theorem tc{gs_:Nat}{es_:Nat×Nat}{rows_:Rowb}{s_:ae}(hs_:ae.ob es_ Γ gs_ rows_ s_)(key:ByteArray)(hkey:key.size≤lim)(hp:Pre [rows_] Γ w0){r:List Ver}(h:d8 s_ key=some r):Calls Tryz.prog 12 #[(pq gs_),.string key] w0 (Outc Γ [rows_] w0 (th gs_ es_ rows_ r)):=by
 refine goV [4] func12 ntmps12 results12 hp λF hF=>?_
 refine I4 (aV (k:=I3 (I4 (mV (k:=sV nlV (k:=sV (q_fl 1 kT) (k:=?_)))))))
 obtain⟨g0_1,r0_1,m1_1,r1_1,hrow_1,ho0_1,ho1_1,-⟩:=id hs_
 refine ufR 0 hrow_1 [_,_,_] ?_
 refine sV (ldV 0 JJ) (k:=mV (k:=?_))
 obtain⟨v2,⟨A5,c6,hv3,hc7,hs8⟩,hat4⟩:=MapO.look ho1_1 key (z:=.slice none 0 0) (zx:=[]) ⟨none,0,rfl,IH _,Sl.nil _ _ _⟩
 obtain rfl:v2=_:=List.cons.inj hv3 |>.1
 refine sV (nz (v:=.slice A5 ((mget key s_.keys).getD []).length c6) hat4 rfl JK J2 rfl rfl (i:=2) rfl) (k:=?_)
 obtain⟨z9,hz10,h⟩:=bnd h
 refine ecV [] (caV call34) (λw hp=>B9 hs8 hc7 hp hz10) ?_
 rintro Γ11 _ _ hl12 ⟨A15,c16,rfl,rfl,hr17,hr18,_⟩
 refine cwV 14 [_,_,_] (mV (k:=sV exV (k:=sV exV (k:=?_))))
 refine alV Jy λg19=>?_
 refine stV 0 (.agg (Rec.cs A15 c16 z9.1).toArray) (Rec.cs A15 c16 z9.1).toArray Jz (k:=aV (k:=I3 (I4 (sV (q_fl 1 ci) (k:=sV (ldV 0 JH) (k:=aV (k:=I3 ?_)))))))
 refine I8 ?_
 intro w hw
 have hw:=hw.fold (is:=[1,1,1]) rfl hrow_1
 exact re_ r [0] h hF hw ⟨A15,c16,rfl,rfl,hr17.2.1,hr17.2.2,trivial⟩
abbrev qB(r:List Ver)(U:List Rowb)(Γ:Gh)(v:Value):Prop := ∃(A0:Option Addr), ∃(c0:Nat),v = .slice A0 r.length c0∧U = []∧r.length≤c0∧Sl verT Γ A0 r∧True
theorem jZ{B:Gh}{gs_:Nat}{es_:Nat×Nat}{rows_:Rowb}{s_:ae}(hs_:ae.ob es_ B gs_ rows_ s_)(hs_r:∀p∈rows_,B p.1=some p.2)(key:ByteArray)(hkey:key.size≤lim)(hp:Pre [] Γ w0)(hpB:Pre [] B w0){r:List Ver}(h:d8 s_ key=some r):Calls Tryz.prog 12 #[(pq gs_),.string key] w0 (Outc Γ [] w0 (qB r)):=by
 refine goV [4] func12 ntmps12 results12 hp λF hF=>?_
 have hB:Lent F B:=hF▸Lent.start hpB
 refine I4 (aV (k:=I3 (I4 (mV (k:=sV nlV (k:=sV (q_fl 1 kT) (k:=?_)))))))
 obtain⟨g0_1,r0_1,m1_1,r1_1,hrow_1,ho0_1,ho1_1,-⟩:=id hs_
 have hg_2:∀u∈([[(gs_,.cells #[(pq g0_1),.map (some m1_1)] es_.1 (0,0))],r0_1,r1_1]:List Rowb), ∀p∈u,B p.1=some p.2:=λu hu p hp=>(λp hp=>(hs_r p hp)) p (hrow_1▸List.mem_flatten.2 ⟨u,hu,hp⟩)
 have hgc3:=hg_2 _ (It ..) (gs_,_) (List.mem_singleton.2 rfl)
 have hgs4:=hg_2 r0_1 (by simp)
 have hgs5:=hg_2 r1_1 (by simp)
 refine sV (Ge (λw hw=>hB.sat hw) λF=>(mX (v:=.map (some m1_1)) hgc3 rfl JJ rfl rfl)) (k:=mV (k:=?_))
 obtain⟨v6,⟨A9,c10,hv7,hc11,hs12⟩,hat8⟩:=MapO.look ho1_1 key (z:=.slice none 0 0) (zx:=[]) ⟨none,0,rfl,IH _,Sl.nil _ _ _⟩
 obtain rfl:v6=_:=List.cons.inj hv7 |>.1
 refine sV (Ge (λw hw=>hB.sat hw) λF=>(B3 (v:=.slice A9 ((mget key s_.keys).getD []).length c10) (λp hp=>(hgs5 p hp)) hat8 rfl JK J2 rfl rfl)) (k:=?_)
 obtain⟨z13,hz14,h⟩:=bnd h
 refine jV (is:=[]) hB rfl rfl (caV call34) rfl (λw Θ hp hpB hle hleB hR=>sb (hs12.mono hleB) hc11 hp hpB hz14) ?_
 rintro Γ15 _ _ hl16 ⟨A19,c20,rfl,rfl,hr21,hr22,_⟩
 refine cwV 14 [] (mV (k:=sV exV (k:=sV exV (k:=?_))))
 refine alV Jy λg23=>?_
 refine stV 0 (.agg (Rec.cs A19 c20 z13.1).toArray) (Rec.cs A19 c20 z13.1).toArray Jz (k:=aV (k:=I3 (I4 (sV (q_fl 1 ci) (k:=sV (ldV 0 JH) (k:=aV (k:=I3 ?_)))))))
 exact I8 λw hw=>re_ r [] h hF hw ⟨A19,c20,rfl,rfl,hr21.2.1,hr21.2.2,trivial⟩
abbrev sI(gs_:Nat)(es_:Nat×Nat)(rows_:Rowb)(r:List Rec)(U:List Rowb)(Γ:Gh)(v:Value):Prop := ∃(A0:Option Addr), ∃(c0:Nat), ∃(row0:Rowb),v = .slice A0 r.length c0∧U = [rows_,row0]∧Own recT Γ 24 row0 A0 c0 r∧True
theorem nI{gs_:Nat}{es_:Nat×Nat}{rows_:Rowb}{s_:ae}(hs_:ae.ob es_ Γ gs_ rows_ s_)(hp:Pre [rows_] Γ w0){r:List Rec}(h:gC s_=some r):Calls Tryz.prog 27 #[(pq gs_)] w0 (Outc Γ [rows_] w0 (sI gs_ es_ rows_ r)):=by
 refine goV [2] func27 ntmps27 results27 hp λF hF=>?_
 refine I4 (aV (k:=I3 (I4 (aV (k:=I3 (I5 (I4 ?_)))))))
 refine mV (k:=?_)
 obtain⟨z1,hz2,h⟩:=bnd h
 refine ecV [0] (caV call30) (λw hp=>j6 hs_ hp hz2) ?_
 rintro Γ3 _ _ hl4 ⟨A7,c8,row9,rfl,rfl,hr10,_⟩
 refine cwV 7 [_,_] (sV (ag rfl Jh) (k:=mV (k:=I3 (Ia ?_))))
 refine Ie h (λ(i19:Nat) (out_13:List Rec) σ w => ∃(Γ11:Gh), ∃(A14:Option Addr), ∃(c15:Nat), ∃(row16:Rowb),slots σ [(0,(pq gs_)),(3,.slice A14 out_13.length c15),(7,.slice A7 z1.length c8),(8,ii (z1.length:Int)),(9,ii (i19:Int))]∧CC F Γ11 [row16,rows_,row9] w∧Gh.le Γ3 Γ11∧Own recT Γ11 24 row16 A14 c15 out_13∧True) ?_ ?_
 ·
  intro w hw
  have hw:=hw.pad
  exact⟨Γ3,none,0,[],slK,hw,gR,(Own.nil recT _ 24),trivial⟩
 rintro f18 i19 out_13 σ w hi20 hlt21 hge22 ⟨Γ11,A14,c15,row16,hsl,hw,hl12,ho17,-⟩
 refine slV hsl hw [_,_,_] ?_; clear hw hsl
 refine I4 (sV aG (k:=I3 (I5 ?_)))
 refine coV (λhb23=>?_) (λhb23=>?_)
 ·
  have hl24:=ilt hb23
  have h:=hlt21 hl24
  refine I7 (wc_ (I5 (Ia (I4 (sV (aN (i:=i19) Jh Ji rfl rfl rfl hl24 ((hr10.mono hl12).some_ hl24)) (k:=sV (lQ (c:=0) (v:=.string (gt z1 i19)) (i:=2) rfl ((hr10.mono hl12).strT_at hl24).2 rfl IY rfl rfl) (k:=aV (k:=?_))))))))
  refine I3 ?_
  refine I9 ?_
  refine mV (k:=mV (k:=mV (k:=mV (k:=?_))))
  obtain⟨z25,hz26,h⟩:=bnd h
  refine jV (is:=[]) (Lent.nil F) rfl rfl (caV call12) rfl (λw Θ hp hpB hle hleB hR=>jZ ((hs_.mono (hl4.trans hl12)).mono hle) (λp hp=>hR _ (List.mem_of_getElem? (i:=1) rfl) p hp) (gt z1 i19) ((hr10.mono hl12).strT_at hl24).1 hp hpB hz26) ?_
  rintro Γ27 _ _ hl28 ⟨A31,c32,rfl,rfl,hc34,hr33,_⟩
  refine cwV 17 [_,_,_] (sV (aZ (v:=.agg #[.string (gt z1 i19),.slice A31 z25.length c32]) rfl (jI rfl rfl) (λw=>by kernel_rfl)) (k:=?_))
  refine bsV #[.string (gt z1 i19),.slice A31 z25.length c32] 24 λg35=>?_
  obtain⟨hk36,h⟩:=am h
  refine apV 1 [(⟨(gt z1 i19),z25⟩:Rec)] tH (ho17.mono hl28) (Ip hk36) (λw hw=>bM (i:=0) rfl (by exact⟨A31,c32,rfl,⟨((hr10.mono (hl12.trans hl28)).strT_at hl24).1,⟨hc34,hr33⟩⟩⟩) hw) ?_
  intro row37 A38 c39 ho40
  refine aV (k:=?_)
  refine I6 ?_
  change WC _ _ _ _ _ _
  refine I9 ?_
  refine sV (aF rfl rfl rfl (aJ hl24 (hr10.mono hl12).le)) (k:=mV (k:=?_))
  exact I6 λw hw=>⟨hl24,(out_13++[(⟨(gt z1 i19),z25⟩:Rec)]),h,Γ27,A38,c39,row37,slK,(hw.on [1,1,1]),(hl12.trans hl28),ho40,trivial⟩
 have h:=hge22 (ige hb23)
 refine Ic ?_
 change WC _ _ _ _ _ _
 refine I4 (mV (k:=aV (k:=I3 ?_)))
 exact I8 λw hw=>re_ r [1,0] h hF hw ⟨A14,c15,row16,rfl,rfl,ho17,trivial⟩
theorem xi{Av_:Option Addr}{cv_:Nat}{v_:List Int}(hv_:Sl intT Γ Av_ v_)(hv_c:v_.length≤cv_)(d:Dot)(hd:Dot.fits Γ  d)(hs:Sat Γ w0){r:Bool}(h:mF v_ d=some r):CQ Tryz.prog 46 #[.slice Av_ v_.length cv_,.agg (Dot.cs d).toArray] w0 (.bool r):=by
 refine goQ [4] func46 ntmps46 results46 hs λF hF=>?_
 refine I4 ?_
 refine bxV (v:=.agg (Dot.cs d).toArray) λg1=>?_
 refine aV (k:=I3 (I5 ?_))
 refine drV ?_
 refine zV (q_fl 0 cJ) (k:=zV (ldV 0 Jc) (k:=zV lz (k:=zV moV (k:=wG1 (h:=λhg2=>q_fl 0 cJ) (k:=wG1 (h:=λhg3=>ldV 0 Jc (hx:=grV hg3)) (k:=wG1 (h:=λhg4=>moV) (k:=wG1 (h:=λhg5=>ag rfl JM (grV hg5)) (k:=?_))))))))
 refine wG1 (h:=λhg6=>kM rfl (grV hg6) (grV hg6)) (k:=zV pkA (k:=zV moV (k:=wG1 (h:=λhg7=>q_fl 1 cA) (k:=wG1 (h:=λhg8=>ldV 0 Jl (hx:=grV hg8)) (k:=wG1 (h:=λhg9=>lz rfl (grV hg9)) (k:=zV pkA (k:=zV moV (k:=?_))))))))
 refine wG1 (h:=λhg10=>q_fl 1 cA) (k:=wG1 (h:=λhg11=>ldV 0 Jl (hx:=grV hg11)) (k:=wG1 (h:=λhg12=>moV) (k:=wG1 (h:=λhg13=>q_fl 0 cJ) (k:=wG1 (h:=λhg14=>ldV 0 Jc (hx:=grV hg14)) (k:=wG1 (h:=λhg15=>fO rfl (grV hg15)) (k:=?_))))))
 obtain⟨hk17,h⟩:=am h
 refine wG1 (h:=λhg16=>q_ix JM Jk rfl (grV hg16) (grV hg16) (b5 hk17 hg16) (hv_.some_ (bc (b5 hk17 hg16)))) (k:=wG1 (h:=λhg18=>q_ld (c:=0) (v:=ii (gt v_ ((w64 (d.s - 1)).toNat))) (hv_.intT_at (bc (b5 hk17 hg18))).2 rfl Jl (grV hg18) rfl) (k:=wG1 (h:=λhg19=>kM rfl (grV hg19) (grV hg19)) (k:=zV pkA (k:=zV aoV (k:=?_)))))
 refine Ij ?_
 change WC _ _ _ _ _ _
 exact I8 λw hw=>rq_ r h hF hw
abbrev pG(gb0:Nat)(gb0v:Nat)(eb0v:Nat×Nat)(b0v:ai)(rowb0v:Rowb)(r:Bool)(U:List Rowb)(Γ:Gh)(v:Value):Prop:=v = .bool r∧U = [[(gb0,.cells #[.pointer (some ⟨gb0v,0,none⟩)] 81 (0,0))],rowb0v]∧True
theorem lv(g_:Int)(hg_:I64 g_)(a1:Int)(ha1:I64 a1){gb0:Nat}{gb0v:Nat}{eb0v:Nat×Nat}{rowb0v:Rowb}{b0v:ai}(hb0v:ai.ob eb0v Γ gb0v rowb0v b0v)(hp:Pre [[(gb0,.cells #[(pq gb0v)] 81 (0,0))],rowb0v] Γ w0){r:Bool}(h:bZ g_ a1 b0v=some r):Calls Tryz.prog 94 #[ii g_,ii a1,(pq gb0)] w0 (Outc Γ [[(gb0,.cells #[(pq gb0v)] 81 (0,0))],rowb0v] w0 (pG gb0 gb0v eb0v b0v rowb0v r)):=by
 refine goV [5] func94 ntmps94 results94 hp λF hF=>?_
 refine I4 (aV (k:=I3 (I4 (mV (k:=sV (ldV 0 Jm) (k:=sV nlV (k:=sV (q_fl 0 aW) (k:=?_))))))))
 refine sV (q_fl 2 fB) (k:=?_)
 obtain⟨hrow_1,ho0_1,ho1_1,ho2_1,ho3_1,ho4_1,ho5_1,ho6_1,-⟩:=id hb0v
 refine ufR 1 hrow_1 [_,_] ?_
 refine sV (ldV 0 Jl) (k:=sV bp (k:=aV (k:=I3 ?_)))
 refine I8 ?_
 intro w hw
 have hw:=hw.fold (is:=[0]) rfl hrow_1
 exact re_ r [1,0] h hF hw ⟨rfl,rfl,trivial⟩
abbrev q7(gb0:Nat)(gb0v:Nat)(eb0v:Nat×Nat)(b0v:ai)(rowb0v:Rowb)(r:Bool)(U:List Rowb)(Γ:Gh)(v:Value):Prop:=v = .bool r∧U = [[(gb0,.cells #[.pointer (some ⟨gb0v,0,none⟩)] 81 (0,0))],rowb0v]∧True
theorem lF(g_:Int)(hg_:I64 g_)(a1:Int)(ha1:I64 a1){gb0:Nat}{gb0v:Nat}{eb0v:Nat×Nat}{rowb0v:Rowb}{b0v:ai}(hb0v:ai.ob eb0v Γ gb0v rowb0v b0v)(hp:Pre [[(gb0,.cells #[(pq gb0v)] 81 (0,0))],rowb0v] Γ w0){r:Bool}(h:bY g_ a1 b0v=some r):Calls Tryz.prog 96 #[ii g_,ii a1,(pq gb0)] w0 (Outc Γ [[(gb0,.cells #[(pq gb0v)] 81 (0,0))],rowb0v] w0 (q7 gb0 gb0v eb0v b0v rowb0v r)):=by
 refine goV [5] func96 ntmps96 results96 hp λF hF=>?_
 refine I4 (aV (k:=I3 (I4 (mV (k:=sV (ldV 0 Jm) (k:=sV nlV (k:=sV (q_fl 0 aW) (k:=?_))))))))
 refine sV (q_fl 2 fB) (k:=?_)
 obtain⟨hrow_1,ho0_1,ho1_1,ho2_1,ho3_1,ho4_1,ho5_1,ho6_1,-⟩:=id hb0v
 refine ufR 1 hrow_1 [_,_] ?_
 refine sV (ldV 0 Jl) (k:=sV bp (k:=aV (k:=I3 ?_)))
 refine I8 ?_
 intro w hw
 have hw:=hw.fold (is:=[0]) rfl hrow_1
 exact re_ r [1,0] h hF hw ⟨rfl,rfl,trivial⟩
abbrev pT(gb0:Nat)(b0v:Int)(r:Bool)(U:List Rowb)(Γ:Gh)(v:Value):Prop:=v = .bool r∧U = [[(gb0,.cells #[.int .i64 b0v] 2 (0,0))]]∧True
theorem lJ(g_:Int)(hg_:I64 g_)(a1:Int)(ha1:I64 a1){gb0:Nat}(b0v:Int)(hb0v:I64 b0v)(hp:Pre [[(gb0,.cells #[ii b0v] 2 (0,0))]] Γ w0){r:Bool}(h:bJ g_ a1 b0v=some r):Calls Tryz.prog 97 #[ii g_,ii a1,(pq gb0)] w0 (Outc Γ [[(gb0,.cells #[ii b0v] 2 (0,0))]] w0 (pT gb0 b0v r)):=by
 refine goV [5] func97 ntmps97 results97 hp λF hF=>?_
 refine I4 (aV (k:=I3 (I4 (mV (k:=sV (ldV 0 Jl) (k:=sV bp (k:=aV (k:=?_))))))))
 refine I3 ?_
 exact I8 λw hw=>re_ r [0] h hF hw ⟨rfl,rfl,trivial⟩
abbrev qt(gl:Nat)(el:Nat×Nat)(edk0:Nat)(r:ai×a8×Int)(U:List Rowb)(Γ:Gh)(v:Value):Prop := ∃(rowl':Rowb), ∃(rowdk0':Rowb),v = .int .i64 r.2.2∧U = [rowl',rowdk0']∧ai.ob el Γ gl rowl' r.1∧a8.ob edk0 Γ el.2 rowdk0' r.2.1∧I64 r.2.2∧True
theorem qu{gl:Nat}{el:Nat×Nat}{rowl:Rowb}{l:ai}(hl:ai.ob el Γ gl rowl l){Alist:Option Addr}{clist:Nat}{list:List (List UInt8)}(hlist:Sl (slT av) Γ Alist list)(hlistc:list.length≤clist){edk0:Nat}{rowdk0:Rowb}{dk0:a8}(hdk0:a8.ob edk0 Γ el.2 rowdk0 dk0)(hp:Pre [rowl,rowdk0] Γ w0){r:ai×a8×Int}(h:ff l list dk0=some r):Calls Tryz.prog 47 #[(pq gl),.slice Alist list.length clist] w0 (Outc Γ [rowl,rowdk0] w0 (qt gl el edk0 r)):=by
 refine goV [4] func47 ntmps47 results47 hp λF hF=>?_
 refine I4 (aV (k:=I3 (I5 (I4 (mV (k:=sV (ag rfl J7) (k:=mV (k:=?_))))))))
 refine I3 (Ia ?_)
 refine Ie h (λ(i2:Nat) (s:Unit) σ w=>match s with | ()=>slots σ [(0,(pq gl)),(1,.slice Alist list.length clist),(15,.slice Alist list.length clist),(16,ii (list.length:Int)),(17,ii (i2:Int))]∧CC F Γ [rowl,rowdk0] w∧True) ?_ ?_
 ·
  intro w hw
  exact⟨slK,hw,trivial⟩
 rintro f1 i2 ⟨⟩ σ w hi3 hlt4 hge5 ⟨hsl,hw,-⟩
 refine slV hsl hw [_,_] ?_; clear hw hsl
 refine I4 (sV aG (k:=I3 (I5 ?_)))
 refine coV (λhb6=>?_) (λhb6=>?_)
 ·
  have hl7:=ilt hb6
  have h:=hlt4 hl7
  refine I7 (wc_ (I5 (Ia (I4 (sV (aN (i:=i2) J7 J8 rfl rfl rfl hl7 (hlist.some_ hl7)) (k:=?_))))))
  obtain⟨A8,c9,hx10⟩:=hlist.slT_at i2
  refine sV (q_ld (c:=0) (v:=.slice A8 (gt list i2).length c9) (hx10 hl7).2 rfl J9 rfl rfl) (k:=aV (k:=I3 (I4 (mV (k:=sV (ag rfl IZ) (k:=sV bi (k:=I3 ?_)))))))
  refine ciV h (λhb11 h=>?_) (λhb11 h=>?_)
  ·
   refine I4 (aV (k:=I3 ?_))
   exact I8 λw hw=>re_ r [0,0] h hF hw ⟨rowl,rowdk0,rfl,rfl,hl,hdk0,iV,trivial⟩
  refine I7 (wc_ ?_)
  refine I9 ?_
  refine sV (aF rfl rfl rfl (aJ hl7 hlist.le)) (k:=mV (k:=?_))
  exact I6 λw hw=>⟨hl7,(),h,slK,hw,trivial⟩
 have h:=hge5 (ige hb6)
 refine Ic ?_
 change WC _ _ _ _ _ _
 refine I5 (I4 (mV (k:=sV nlV (k:=sV (q_fl 0 aW) (k:=sV (q_fl 2 fB) (k:=?_))))))
 obtain⟨hrow_12,ho0_12,ho1_12,ho2_12,ho3_12,ho4_12,ho5_12,ho6_12,-⟩:=id hl
 refine ufR 0 hrow_12 [_,_] ?_
 refine sV (ldV 0 Jl) (k:=sV bp (k:=I3 ?_))
 refine ciV h (λhb13 h=>?_) (λhb13 h=>?_)
 ·
  refine I4 (aV (k:=I3 ?_))
  refine I8 ?_
  intro w hw
  have hw:=hw.fold (is:=[0]) rfl hrow_12
  exact re_ r [0,0] h hF hw ⟨rowl,rowdk0,rfl,rfl,hl,hdk0,iV,trivial⟩
 refine I7 (wc_ (I5 ?_))
 refine leV λh015=>?_
 refine dW (CC F Γ [[(gl,.cells #[.pointer (some ⟨el.2,0,none⟩),.string l.place_name,ii l.place_gen,ii l.size,ii l.last,ii l.tail,ii l.count,ii l.bytes] el.1 (0,0))]]) (bo_ [0] gR h015) λk=>?_
 change WH _ _ _ _ (CC F Γ [_,_]) _ 12 _ _
 refine hV 0 k (q:=moV) (k:=hV 1 k (q:=nlV) (k:=hV 2 k (q:=q_fl 0 aW) (k:=hV 3 k (q:=ldaV 0 [.pointer (some ⟨el.2,0,none⟩),.string l.place_name,ii l.place_gen] Je Jf) (k:=hV 4 k (q:=moV) (k:=hV 5 k (q:=nlV) (k:=hV 6 k (q:=q_fl 3 xw) (k:=hV 7 k (q:=ldV 0 Jc) (k:=?_))))))))
 refine hV 8 k (q:=aZ (v:=.agg #[.pointer (some ⟨el.2,0,none⟩),.string l.place_name,ii l.place_gen,ii l.size,ii 0,ii 0,ii 0,ii 0]) rfl (jI rfl rfl) (λw=>by kernel_rfl)) (k:=?_)
 refine WH.each (l:=[9,10]) (by kernel_rfl) (by simp) ?_
 intro i hi; simp only [Ix,List.not_mem_nil,or_false] at hi
 rcases hi with rfl | rfl
 ·
  refine⟨_,rfl,?_⟩
  refine bxV (v:=.agg #[.pointer (some ⟨el.2,0,none⟩),.string l.place_name,ii l.place_gen,ii l.size,ii 0,ii 0,ii 0,ii 0]) λgh40_=>?_
  refine I6 (nxV (bo_ [1] gR h015) λk=>?_)
  refine wl_ 10 rfl ?_
  refine alV zeroValue81 λgh7_=>?_
  refine I6 (nxV (bo_ [2] gR h015) λk=>?_)
  refine wl_ 11 rfl (stV 0 ((pq gh40_)) #[(pq gh40_)] sizeOf81 (k:=?_))
  refine I6 (nxV (bo_ [2] gR h015) λk=>?_)
  refine Ig (by kernel_rfl) ?_
  change WC _ _ _ _ _ _
  refine I4 (sV (ldV 0 Jm) (k:=sV nlV (k:=sV (q_fl 0 aW) (k:=sV (q_fl 2 fB) (k:=sV (ldV 1 Jl) (k:=sV bR (k:=sV nlV (k:=?_))))))))
  refine sV (q_fl 0 aW) (k:=sV (q_fl 2 fB) (k:=stV 1 (ii (w64 (l.place_gen+1))) #[.pointer (some ⟨el.2,0,none⟩),.string l.place_name,ii (w64 (l.place_gen+1)),ii l.size,ii 0,ii 0,ii 0,ii 0] Jk (k:=I3 (I4 (mV (k:=sV nlV (k:=sV (q_fl 0 aW) (k:=?_))))))))
  refine sV (q_fl 2 fB) (k:=sV (ldV 2 Jl) (k:=?_))
  refine alV zeroValue2 λg16=>?_
  refine stV 0 (ii l.place_gen) #[ii l.place_gen] Jk (k:=I3 (I5 (I4 (mV (k:=sV (ag rfl J7) (k:=mV (k:=I3 ?_)))))))
  refine Ia ?_
  refine foC [3] hrow_12 [_,_,_,_,_] ?_
  obtain⟨row_18,hrow_18,hob_18⟩:∃rw:Rowb,rw=([[(gh40_,.cells #[.pointer (some ⟨el.2,0,none⟩),.string l.place_name,ii (w64 (l.place_gen+1)),ii l.size,ii 0,ii 0,ii 0,ii 0] 146 (0,0))]]:List Rowb).flatten∧ai.ob (146,el.2) Γ gh40_ rw (⟨l.place_name,(w64 (l.place_gen+1)),l.size,0,0,0,0⟩:ai):=⟨_,rfl,rfl,ho0_12,(dR _),ho2_12,iV,iV,iV,iV,trivial⟩
  refine foC [3] hrow_18 [_,_,_,_,_] ?_
  refine Ie h (λ(i28:Nat) (s:ai×a8) σ w=>match s with | (o21,o24) => ∃(Γ19:Gh), ∃(row22:Rowb), ∃(row25:Rowb),slots σ [(0,(pq gl)),(7,(pq gh7_)),(8,(pq g16)),(55,.slice Alist list.length clist),(56,ii (list.length:Int)),(57,ii (i28:Int))]∧CC F Γ19 [row22,rowl,[(g16,.cells #[ii l.place_gen] 2 (0,0))],[(gh7_,.cells #[(pq gh40_)] 81 (0,0))],row25] w∧Gh.le Γ Γ19∧ai.ob (146,el.2) Γ19 gh40_ row22 o21∧a8.ob edk0 Γ19 el.2 row25 o24∧True) ?_ ?_
  ·
   intro w hw
   exact⟨Γ,row_18,rowdk0,slK,hw,gR,hob_18,hdk0,trivial⟩
  rintro f27 i28 ⟨o21,o24⟩ σ w hi29 hlt30 hge31 ⟨Γ19,row22,row25,hsl,hw,hl20,ho23,ho26,-⟩
  refine slV hsl hw [_,_,_,_,_] ?_; clear hw hsl
  refine I4 (sV aG (k:=I3 (I5 ?_)))
  refine coV (λhb32=>?_) (λhb32=>?_)
  ·
   have hl33:=ilt hb32
   have h:=hlt30 hl33
   refine I7 (wc_ (I5 (Ia (I4 (sV (aN (i:=i28) J7 J8 rfl rfl rfl hl33 ((hlist.mono hl20).some_ hl33)) (k:=?_))))))
   obtain⟨A34,c35,hx36⟩:=(hlist.mono hl20).slT_at i28
   refine sV (q_ld (c:=0) (v:=.slice A34 (gt list i28).length c35) (hx36 hl33).2 rfl J9 rfl rfl) (k:=aV (k:=I3 (I4 (sV (ldV 3 Jm) (k:=mV (k:=?_))))))
   obtain⟨z37,hz38,h⟩:=bnd h
   refine ecV [0,3] (caV call37) (λw hp=>iI ho23 (hx36 hl33).1.2 (hx36 hl33).1.1 ho26 hp hz38) ?_
   rintro Γ39 _ _ hl40 ⟨row43,row45,rfl,rfl,hr44,hr46,hr47,_⟩
   refine cwV 63 [_,_,_,_,_] (aV (k:=I3 (I4 (mV (k:=sV bD (k:=I3 ?_))))))
   refine ciV h (λhb48 h=>?_) (λhb48 h=>?_)
   ·
    refine I4 (sV (ldV 4 Jm) (k:=sV nlV (k:=sV (q_fl 0 aW) (k:=?_))))
    obtain⟨hrow_49,ho0_49,ho1_49,ho2_49,ho3_49,ho4_49,ho5_49,ho6_49,-⟩:=id hr44
    refine ufR 0 hrow_49 [_,_,_,_,_] ?_
    refine sV (ldaV 0 [.pointer (some ⟨el.2,0,none⟩),.string z37.1.place_name,ii z37.1.place_gen] Je Jf) (k:=sV (gE (v:=.func (.func 94) #[] #[(pq gh7_)]) rfl (by kernel_rfl)) (k:=?_))
    refine foR [0] hrow_49 [_,_,_,_,_] ?_
    obtain⟨rowT51,hT52⟩:∃r:Rowb,r=([[(gh7_,.cells #[(pq gh40_)] 81 (0,0))],row43]:List Rowb).flatten:=⟨_,rfl⟩
    refine WR.sub (λw hw=>hw.fold (is:=[4,0]) rfl hT52) ?_
    obtain⟨z53,hz54,h⟩:=bnd h
    refine ecV [1,0] (caV call72) (λw hp=>bP (caps:=#[(pq gh7_)]) hr46 z37.1.place_name ho0_49 z37.1.place_gen ho1_49 (λx y=>bZ x y z37.1) (λ{Γq_ wq_} x hx y hy hle hp2 {_} hq=>Calls.mono (lv (Γ:=Γq_) x hx y hy (hr44.mono hle) (by subst hT52; exact hp2.parts) hq) (λe w2 ho=>In (by subst hT52; exact hp2.parts) ho (λ_ _ _ hr=>⟨hr.1,hr.2.1⟩))) call94 hp hz54) ?_
    rintro Γ55 _ _ hl56 ⟨row59,rfl,rfl,hd60⟩
    refine cwV 71 [_,_,_,_] ?_
    refine WR.sub (λw hw=>hw.unfold (i:=1) rfl hT52) ?_
    change WR _ _ _ (CC F Γ55 [_,_,_,_,_]) _ _ _
    refine I3 (I4 (mV (k:=aV (k:=I3 ?_))))
    exact I8 λw hw=>re_ r [3,2] h hF hw ⟨rowl,row59,rfl,rfl,(hl.mono ((hl20.trans hl40).trans hl56)),hd60,hr47,trivial⟩
   refine I7 (wc_ ?_)
   refine I9 ?_
   refine sV (aF rfl rfl rfl (aJ hl33 (hlist.mono hl20).le)) (k:=mV (k:=?_))
   exact I6 λw hw=>⟨hl33,(z37.1,z37.2.1),h,Γ39,row43,row45,slK,(hw.on [0,1,1,1,0]),(hl20.trans hl40),hr44,hr46,trivial⟩
  have h:=hge31 (ige hb32)
  refine Ic ?_
  change WC _ _ _ _ _ _
  refine I4 (mV (k:=sV nlV (k:=sV (q_fl 0 aW) (k:=sV (q_fl 0 eC) (k:=?_)))))
  obtain⟨hrow_61,ho0_61,ho1_61,ho2_61,ho3_61,ho4_61,ho5_61,ho6_61,-⟩:=(hl.mono hl20)
  refine ufR 1 hrow_61 [_,_,_,_,_] ?_
  refine sV (ldV 0 Jd) (k:=?_)
  obtain⟨z62,hz63,h⟩:=bnd h
  refine ecV [4] (caV call76) (λw hp=>dG ho26 hp hz63) ?_
  rintro Γ64 _ _ hl65 ⟨row68,rfl,rfl,hr69,_⟩
  refine cwV 79 [_,_,_,_,_] (I3 (I4 (sV (ldV 4 Jm) (k:=sV nlV (k:=sV (q_fl 0 aW) (k:=sV (q_fl 2 fB) (k:=?_)))))))
  obtain⟨hrow_70,ho0_70,ho1_70,ho2_70,ho3_70,ho4_70,ho5_70,ho6_70,-⟩:=(ho23.mono hl65)
  refine ufR 2 hrow_70 [_,_,_,_,_] ?_
  refine sV (ldV 0 Jl) (k:=?_)
  obtain⟨z71,hz72,h⟩:=bnd h
  refine ecV [] (caV call95) (λw hp=>kB o21.place_gen ho1_70 hp hz72) ?_
  rintro Γ73 _ _ hl74 ⟨A77,c78,row79,rfl,rfl,hr80,_⟩
  refine cwV 86 [_,_,_,_,_,_] ?_
  have hc85:=hr80.capz
  refine seR 0 [_,_,_,_,_,_] λΓ81 hl82 hr83=>?_
  have hs84:=hr80.sl hl82 hr83
  obtain⟨z86,hz87,h⟩:=bnd h
  refine ecV [] (caV call81) (λw hp=>qM hs84 hc85 hp hz87) ?_
  rintro Γ88 _ _ hl89 ⟨A92,c93,row94,rfl,rfl,hr95,hr96,_⟩
  refine cwV 87 [_,_,_,_,_,_,_] (mV (k:=sV exV (k:=sV exV (k:=aV (k:=aV (k:=I3 (I5 ?_)))))))
  refine I5 ?_
  have hc101:=hr95.capz
  refine seC 0 [_,_,_,_,_,_,_] λΓ97 hl98 hr99=>?_
  have hs100:=hr95.sl hl98 hr99
  refine leV λh0102=>?_
  refine dW (CC F Γ97 [[],[],[(gh40_,.cells #[.pointer (some ⟨el.2,0,none⟩),.string o21.place_name,ii o21.place_gen,ii o21.size,ii o21.last,ii o21.tail,ii o21.count,ii o21.bytes] 146 (0,0))],[(gl,.cells #[.pointer (some ⟨el.2,0,none⟩),.string l.place_name,ii l.place_gen,ii l.size,ii l.last,ii l.tail,ii l.count,ii l.bytes] el.1 (0,0))],[(g16,.cells #[ii l.place_gen] 2 (0,0))],[(gh7_,.cells #[(pq gh40_)] 81 (0,0))]]) (bo_ [0,0,0,1,1,1] gR h0102) λk=>?_
  change WH _ _ _ _ (CC F Γ97 [_,_,_,_,_,_,_]) _ 13 _ _
  refine hV 0 k (q:=moV) (k:=hV 1 k (q:=nlV) (k:=hV 2 k (q:=q_fl 0 aW) (k:=hV 3 k (q:=q_fl 0 eC) (k:=hV 4 k (q:=ldV 3 Jd) (k:=hV 5 k (q:=moV) (k:=hV 6 k (q:=nlV) (k:=hV 7 k (q:=q_fl 0 aW) (k:=?_))))))))
  refine hV 8 k (q:=ldaV 3 [.pointer (some ⟨el.2,0,none⟩),.string l.place_name,ii l.place_gen] Je Jf) (k:=hV 10 k (q:=moV) (k:=wl_ 9 rfl ?_))
  obtain⟨z103,hz104,h⟩:=bnd h
  refine vqV (caV call71) (λw hw=>iF (Γ:=Gh.all w) (gp__0:=el.2) l.place_name ho0_61 l.place_gen ho1_61 (Sat.all w) hz104) (k:=?_)
  refine I6 (nxV (bo_ [0,0,0,1,1,1] gR h0102) λk=>?_)
  refine wl_ 11 rfl ?_
  obtain⟨hk105,h⟩:=am h
  obtain⟨z106,hz107,h⟩:=bnd h
  refine ecV [3] (caV call21) (λw hp=>j4 (hr69.mono (((hl74.trans hl82).trans hl89).trans hl98)) z103 (Ip hk105) hs100 hc101 hp hz107) ?_
  rintro Γ108 _ _ hl109 ⟨row112,rfl,rfl,hr113,hr114,_⟩
  refine cwV 101 [_,_,_,_,_,_,_] ?_
  refine I6 (nxV (bo_ [1,1,1,1,1,1] hl109 h0102) λk=>?_)
  refine hV 12 k (q:=aoV) (k:=?_)
  refine Ig (by kernel_rfl) ?_
  change WC _ _ _ _ _ _
  refine I4 (mV (k:=sV bD (k:=I3 ?_)))
  refine ciV h (λhb115 h=>?_) (λhb115 h=>?_)
  ·
   refine I4 (sV (ldV 6 Jm) (k:=sV nlV (k:=sV (q_fl 0 aW) (k:=sV (ldaV 3 [.pointer (some ⟨el.2,0,none⟩),.string o21.place_name,ii o21.place_gen] Je Jf) (k:=sV (gE (v:=.func (.func 96) #[] #[(pq gh7_)]) rfl (by kernel_rfl)) (k:=?_))))))
   refine foR [3] hrow_70 [_,_,_,_,_,_,_] ?_
   obtain⟨rowT117,hT118⟩:∃r:Rowb,r=([[(gh7_,.cells #[(pq gh40_)] 81 (0,0))],row22]:List Rowb).flatten:=⟨_,rfl⟩
   refine WR.sub (λw hw=>hw.fold (is:=[6,0]) rfl hT118) ?_
   obtain⟨z119,hz120,h⟩:=bnd h
   refine ecV [1,0] (caV call72) (λw hp=>bP (caps:=#[(pq gh7_)]) hr113 o21.place_name ho0_70 o21.place_gen ho1_70 (λx y=>bY x y o21) (λ{Γq_ wq_} x hx y hy hle hp2 {_} hq=>Calls.mono (lF (Γ:=Γq_) x hx y hy ((ho23.mono (((((hl65.trans hl74).trans hl82).trans hl89).trans hl98).trans hl109)).mono hle) (by subst hT118; exact hp2.parts) hq) (λe w2 ho=>In (by subst hT118; exact hp2.parts) ho (λ_ _ _ hr=>⟨hr.1,hr.2.1⟩))) call96 hp hz120) ?_
   rintro Γ121 _ _ hl122 ⟨row125,rfl,rfl,hd126⟩
   refine cwV 109 [_,_,_,_,_,_] ?_
   refine WR.sub (λw hw=>hw.unfold (i:=1) rfl hT118) ?_
   change WR _ _ _ (CC F Γ121 [_,_,_,_,_,_,_]) _ _ _
   refine I3 (I4 (mV (k:=aV (k:=I3 ?_))))
   refine I8 ?_
   intro w hw
   have hw:=hw.fold (is:=[5]) rfl hrow_61
   exact re_ r [0,2] h hF hw ⟨rowl,row125,rfl,rfl,(hl.mono (((((((hl20.trans hl65).trans hl74).trans hl82).trans hl89).trans hl98).trans hl109).trans hl122)),hd126,hr114,trivial⟩
  refine I7 (wc_ (I4 (mV (k:=sV nlV (k:=sV (q_fl 0 aW) (k:=sV (q_fl 0 eC) (k:=sV (ldV 4 Jd) (k:=?_))))))))
  obtain⟨z128,hz129,h⟩:=bnd h
  refine ecV [0] (caV call76) (λw hp=>dG hr113 hp hz129) ?_
  rintro Γ130 _ _ hl131 ⟨row134,rfl,rfl,hr135,_⟩
  refine cwV 116 [_,_,_,_,_,_,_] (I3 (I4 (sV (ldV 6 Jm) (k:=sV nlV (k:=sV (q_fl 0 aW) (k:=sV (ldaV 3 [.pointer (some ⟨el.2,0,none⟩),.string o21.place_name,ii o21.place_gen] Je Jf) (k:=sV (gE (v:=.func (.func 97) #[] #[(pq g16)]) rfl (by kernel_rfl)) (k:=?_))))))))
  obtain⟨rowT136,hT137⟩:∃r:Rowb,r=([[(g16,.cells #[ii l.place_gen] 2 (0,0))]]:List Rowb).flatten:=⟨_,rfl⟩
  refine WR.sub (λw hw=>hw.fold (is:=[5]) rfl hT137) ?_
  obtain⟨z138,hz139,h⟩:=bnd h
  refine ecV [1,0] (caV call72) (λw hp=>bP (caps:=#[(pq g16)]) hr135 o21.place_name ho0_70 o21.place_gen ho1_70 (λx y=>bJ x y l.place_gen) (λ{Γq_ wq_} x hx y hy hle hp2 {_} hq=>Calls.mono (lJ (Γ:=Γq_) x hx y hy l.place_gen ho1_12 (by subst hT137; exact hp2.parts) hq) (λe w2 ho=>In (by subst hT137; exact hp2.parts) ho (λ_ _ _ hr=>⟨hr.1,hr.2.1⟩))) call97 hp hz139) ?_
  rintro Γ140 _ _ hl141 ⟨row144,rfl,rfl,hd145⟩
  refine cwV 122 [_,_,_,_,_,_,_] ?_
  refine WR.sub (λw hw=>hw.unfold (i:=1) rfl hT137) ?_
  change WR _ _ _ (CC F Γ140 [_,_,_,_,_,_,_]) _ _ _
  refine I3 (I4 (mV (k:=sV nlV (k:=sV (q_fl 0 aW) (k:=sV (q_fl 0 eC) (k:=sV (ldV 5 Jd) (k:=?_)))))))
  obtain⟨z146,hz147,h⟩:=bnd h
  refine ecV [1] (caV call76) (λw hp=>dG hd145 hp hz147) ?_
  rintro Γ148 _ _ hl149 ⟨row152,rfl,rfl,hr153,_⟩
  refine cwV 128 [_,_,_,_,_,_,_] (I3 (I4 (mV (k:=sV (ldV 6 Jm) (k:=sV nlV (k:=sV (ldaV 4 [.pointer (some ⟨el.2,0,none⟩),.string o21.place_name,ii o21.place_gen,ii o21.size,ii o21.last,ii o21.tail,ii o21.count,ii o21.bytes] isAgg146 sizeOf146) (k:=sV nlV (k:=?_))))))))
  refine stV 5 (.agg #[.pointer (some ⟨el.2,0,none⟩),.string o21.place_name,ii o21.place_gen,ii o21.size,ii o21.last,ii o21.tail,ii o21.count,ii o21.bytes]) #[.pointer (some ⟨el.2,0,none⟩),.string o21.place_name,ii o21.place_gen,ii o21.size,ii o21.last,ii o21.tail,ii o21.count,ii o21.bytes] sizeOf146 (k:=I3 (I4 (aV (k:=I3 ?_))))
  refine I8 ?_
  intro w hw
  obtain⟨row_154,hrow_154,hob_154⟩:∃rw:Rowb,rw=([[(gl,.cells #[.pointer (some ⟨el.2,0,none⟩),.string o21.place_name,ii o21.place_gen,ii o21.size,ii o21.last,ii o21.tail,ii o21.count,ii o21.bytes] el.1 (0,0))]]:List Rowb).flatten∧ai.ob el Γ148 gl rw (⟨o21.place_name,o21.place_gen,o21.size,o21.last,o21.tail,o21.count,o21.bytes⟩:ai):=⟨_,rfl,rfl,ho0_70,ho1_70,ho2_70,ho3_70,ho4_70,ho5_70,ho6_70,trivial⟩
  have hw:=hw.fold (is:=[5]) rfl hrow_154
  cases h
  subst hF
  exact aL (is:=[0,0]) (by kernel_rfl) hw rfl ⟨row_154,row152,rfl,rfl,hob_154,hr153,iV,trivial⟩
 refine⟨_,rfl,?_⟩
 refine alV zeroValue81 λg16=>?_
 refine I6 (nxV (bo_ [1] gR h015) λk=>?_)
 refine wl_ 9 rfl ?_
 refine bxV (v:=.agg #[.pointer (some ⟨el.2,0,none⟩),.string l.place_name,ii l.place_gen,ii l.size,ii 0,ii 0,ii 0,ii 0]) λgh40_=>?_
 refine I6 (nxV (bo_ [2] gR h015) λk=>?_)
 refine wl_ 11 rfl (stV 1 ((pq gh40_)) #[(pq gh40_)] sizeOf81 (k:=?_))
 refine I6 (nxV (bo_ [2] gR h015) λk=>?_)
 refine Ig (by kernel_rfl) ?_
 change WC _ _ _ _ _ _
 refine I4 (sV (ldV 1 Jm) (k:=sV nlV (k:=sV (q_fl 0 aW) (k:=sV (q_fl 2 fB) (k:=sV (ldV 0 Jl) (k:=sV bR (k:=sV nlV (k:=?_))))))))
 refine sV (q_fl 0 aW) (k:=sV (q_fl 2 fB) (k:=stV 0 (ii (w64 (l.place_gen+1))) #[.pointer (some ⟨el.2,0,none⟩),.string l.place_name,ii (w64 (l.place_gen+1)),ii l.size,ii 0,ii 0,ii 0,ii 0] Jk (k:=I3 (I4 (mV (k:=sV nlV (k:=sV (q_fl 0 aW) (k:=?_))))))))
 refine sV (q_fl 2 fB) (k:=sV (ldV 2 Jl) (k:=?_))
 refine alV zeroValue2 λg17=>?_
 refine stV 0 (ii l.place_gen) #[ii l.place_gen] Jk (k:=I3 (I5 (I4 (mV (k:=sV (ag rfl J7) (k:=mV (k:=I3 ?_)))))))
 refine Ia ?_
 refine foC [3] hrow_12 [_,_,_,_,_] ?_
 obtain⟨row_19,hrow_19,hob_19⟩:∃rw:Rowb,rw=([[(gh40_,.cells #[.pointer (some ⟨el.2,0,none⟩),.string l.place_name,ii (w64 (l.place_gen+1)),ii l.size,ii 0,ii 0,ii 0,ii 0] 146 (0,0))]]:List Rowb).flatten∧ai.ob (146,el.2) Γ gh40_ rw (⟨l.place_name,(w64 (l.place_gen+1)),l.size,0,0,0,0⟩:ai):=⟨_,rfl,rfl,ho0_12,(dR _),ho2_12,iV,iV,iV,iV,trivial⟩
 refine foC [2] hrow_19 [_,_,_,_,_] ?_
 refine Ie h (λ(i29:Nat) (s:ai×a8) σ w=>match s with | (o22,o25) => ∃(Γ20:Gh), ∃(row23:Rowb), ∃(row26:Rowb),slots σ [(0,(pq gl)),(7,(pq g16)),(8,(pq g17)),(55,.slice Alist list.length clist),(56,ii (list.length:Int)),(57,ii (i29:Int))]∧CC F Γ20 [row23,rowl,[(g17,.cells #[ii l.place_gen] 2 (0,0))],[(g16,.cells #[(pq gh40_)] 81 (0,0))],row26] w∧Gh.le Γ Γ20∧ai.ob (146,el.2) Γ20 gh40_ row23 o22∧a8.ob edk0 Γ20 el.2 row26 o25∧True) ?_ ?_
 ·
  intro w hw
  exact⟨Γ,row_19,rowdk0,slK,hw,gR,hob_19,hdk0,trivial⟩
 rintro f28 i29 ⟨o22,o25⟩ σ w hi30 hlt31 hge32 ⟨Γ20,row23,row26,hsl,hw,hl21,ho24,ho27,-⟩
 refine slV hsl hw [_,_,_,_,_] ?_; clear hw hsl
 refine I4 (sV aG (k:=I3 (I5 ?_)))
 refine coV (λhb33=>?_) (λhb33=>?_)
 ·
  have hl34:=ilt hb33
  have h:=hlt31 hl34
  refine I7 (wc_ (I5 (Ia (I4 (sV (aN (i:=i29) J7 J8 rfl rfl rfl hl34 ((hlist.mono hl21).some_ hl34)) (k:=?_))))))
  obtain⟨A35,c36,hx37⟩:=(hlist.mono hl21).slT_at i29
  refine sV (q_ld (c:=0) (v:=.slice A35 (gt list i29).length c36) (hx37 hl34).2 rfl J9 rfl rfl) (k:=aV (k:=I3 (I4 (sV (ldV 3 Jm) (k:=mV (k:=?_))))))
  obtain⟨z38,hz39,h⟩:=bnd h
  refine ecV [0,3] (caV call37) (λw hp=>iI ho24 (hx37 hl34).1.2 (hx37 hl34).1.1 ho27 hp hz39) ?_
  rintro Γ40 _ _ hl41 ⟨row44,row46,rfl,rfl,hr45,hr47,hr48,_⟩
  refine cwV 63 [_,_,_,_,_] (aV (k:=I3 (I4 (mV (k:=sV bD (k:=I3 ?_))))))
  refine ciV h (λhb49 h=>?_) (λhb49 h=>?_)
  ·
   refine I4 (sV (ldV 4 Jm) (k:=sV nlV (k:=sV (q_fl 0 aW) (k:=?_))))
   obtain⟨hrow_50,ho0_50,ho1_50,ho2_50,ho3_50,ho4_50,ho5_50,ho6_50,-⟩:=id hr45
   refine ufR 0 hrow_50 [_,_,_,_,_] ?_
   refine sV (ldaV 0 [.pointer (some ⟨el.2,0,none⟩),.string z38.1.place_name,ii z38.1.place_gen] Je Jf) (k:=sV (gE (v:=.func (.func 94) #[] #[(pq g16)]) rfl (by kernel_rfl)) (k:=?_))
   refine foR [0] hrow_50 [_,_,_,_,_] ?_
   obtain⟨rowT52,hT53⟩:∃r:Rowb,r=([[(g16,.cells #[(pq gh40_)] 81 (0,0))],row44]:List Rowb).flatten:=⟨_,rfl⟩
   refine WR.sub (λw hw=>hw.fold (is:=[4,0]) rfl hT53) ?_
   obtain⟨z54,hz55,h⟩:=bnd h
   refine ecV [1,0] (caV call72) (λw hp=>bP (caps:=#[(pq g16)]) hr47 z38.1.place_name ho0_50 z38.1.place_gen ho1_50 (λx y=>bZ x y z38.1) (λ{Γq_ wq_} x hx y hy hle hp2 {_} hq=>Calls.mono (lv (Γ:=Γq_) x hx y hy (hr45.mono hle) (by subst hT53; exact hp2.parts) hq) (λe w2 ho=>In (by subst hT53; exact hp2.parts) ho (λ_ _ _ hr=>⟨hr.1,hr.2.1⟩))) call94 hp hz55) ?_
   rintro Γ56 _ _ hl57 ⟨row60,rfl,rfl,hd61⟩
   refine cwV 71 [_,_,_,_] ?_
   refine WR.sub (λw hw=>hw.unfold (i:=1) rfl hT53) ?_
   change WR _ _ _ (CC F Γ56 [_,_,_,_,_]) _ _ _
   refine I3 (I4 (mV (k:=aV (k:=I3 ?_))))
   exact I8 λw hw=>re_ r [3,2] h hF hw ⟨rowl,row60,rfl,rfl,(hl.mono ((hl21.trans hl41).trans hl57)),hd61,hr48,trivial⟩
  refine I7 (wc_ ?_)
  refine I9 ?_
  refine sV (aF rfl rfl rfl (aJ hl34 (hlist.mono hl21).le)) (k:=mV (k:=?_))
  exact I6 λw hw=>⟨hl34,(z38.1,z38.2.1),h,Γ40,row44,row46,slK,(hw.on [0,1,1,1,0]),(hl21.trans hl41),hr45,hr47,trivial⟩
 have h:=hge32 (ige hb33)
 refine Ic ?_
 change WC _ _ _ _ _ _
 refine I4 (mV (k:=sV nlV (k:=sV (q_fl 0 aW) (k:=sV (q_fl 0 eC) (k:=?_)))))
 obtain⟨hrow_62,ho0_62,ho1_62,ho2_62,ho3_62,ho4_62,ho5_62,ho6_62,-⟩:=(hl.mono hl21)
 refine ufR 1 hrow_62 [_,_,_,_,_] ?_
 refine sV (ldV 0 Jd) (k:=?_)
 obtain⟨z63,hz64,h⟩:=bnd h
 refine ecV [4] (caV call76) (λw hp=>dG ho27 hp hz64) ?_
 rintro Γ65 _ _ hl66 ⟨row69,rfl,rfl,hr70,_⟩
 refine cwV 79 [_,_,_,_,_] (I3 (I4 (sV (ldV 4 Jm) (k:=sV nlV (k:=sV (q_fl 0 aW) (k:=sV (q_fl 2 fB) (k:=?_)))))))
 obtain⟨hrow_71,ho0_71,ho1_71,ho2_71,ho3_71,ho4_71,ho5_71,ho6_71,-⟩:=(ho24.mono hl66)
 refine ufR 2 hrow_71 [_,_,_,_,_] ?_
 refine sV (ldV 0 Jl) (k:=?_)
 obtain⟨z72,hz73,h⟩:=bnd h
 refine ecV [] (caV call95) (λw hp=>kB o22.place_gen ho1_71 hp hz73) ?_
 rintro Γ74 _ _ hl75 ⟨A78,c79,row80,rfl,rfl,hr81,_⟩
 refine cwV 86 [_,_,_,_,_,_] ?_
 have hc86:=hr81.capz
 refine seR 0 [_,_,_,_,_,_] λΓ82 hl83 hr84=>?_
 have hs85:=hr81.sl hl83 hr84
 obtain⟨z87,hz88,h⟩:=bnd h
 refine ecV [] (caV call81) (λw hp=>qM hs85 hc86 hp hz88) ?_
 rintro Γ89 _ _ hl90 ⟨A93,c94,row95,rfl,rfl,hr96,hr97,_⟩
 refine cwV 87 [_,_,_,_,_,_,_] (mV (k:=sV exV (k:=sV exV (k:=aV (k:=aV (k:=I3 (I5 ?_)))))))
 refine I5 ?_
 have hc102:=hr96.capz
 refine seC 0 [_,_,_,_,_,_,_] λΓ98 hl99 hr100=>?_
 have hs101:=hr96.sl hl99 hr100
 refine leV λh0103=>?_
 refine dW (CC F Γ98 [[],[],[(gh40_,.cells #[.pointer (some ⟨el.2,0,none⟩),.string o22.place_name,ii o22.place_gen,ii o22.size,ii o22.last,ii o22.tail,ii o22.count,ii o22.bytes] 146 (0,0))],[(gl,.cells #[.pointer (some ⟨el.2,0,none⟩),.string l.place_name,ii l.place_gen,ii l.size,ii l.last,ii l.tail,ii l.count,ii l.bytes] el.1 (0,0))],[(g17,.cells #[ii l.place_gen] 2 (0,0))],[(g16,.cells #[(pq gh40_)] 81 (0,0))]]) (bo_ [0,0,0,1,1,1] gR h0103) λk=>?_
 change WH _ _ _ _ (CC F Γ98 [_,_,_,_,_,_,_]) _ 13 _ _
 refine hV 0 k (q:=moV) (k:=hV 1 k (q:=nlV) (k:=hV 2 k (q:=q_fl 0 aW) (k:=hV 3 k (q:=q_fl 0 eC) (k:=hV 4 k (q:=ldV 3 Jd) (k:=hV 5 k (q:=moV) (k:=hV 6 k (q:=nlV) (k:=hV 7 k (q:=q_fl 0 aW) (k:=?_))))))))
 refine hV 8 k (q:=ldaV 3 [.pointer (some ⟨el.2,0,none⟩),.string l.place_name,ii l.place_gen] Je Jf) (k:=hV 10 k (q:=moV) (k:=wl_ 9 rfl ?_))
 obtain⟨z104,hz105,h⟩:=bnd h
 refine vqV (caV call71) (λw hw=>iF (Γ:=Gh.all w) (gp__0:=el.2) l.place_name ho0_62 l.place_gen ho1_62 (Sat.all w) hz105) (k:=?_)
 refine I6 (nxV (bo_ [0,0,0,1,1,1] gR h0103) λk=>?_)
 refine wl_ 11 rfl ?_
 obtain⟨hk106,h⟩:=am h
 obtain⟨z107,hz108,h⟩:=bnd h
 refine ecV [3] (caV call21) (λw hp=>j4 (hr70.mono (((hl75.trans hl83).trans hl90).trans hl99)) z104 (Ip hk106) hs101 hc102 hp hz108) ?_
 rintro Γ109 _ _ hl110 ⟨row113,rfl,rfl,hr114,hr115,_⟩
 refine cwV 101 [_,_,_,_,_,_,_] ?_
 refine I6 (nxV (bo_ [1,1,1,1,1,1] hl110 h0103) λk=>?_)
 refine hV 12 k (q:=aoV) (k:=?_)
 refine Ig (by kernel_rfl) ?_
 change WC _ _ _ _ _ _
 refine I4 (mV (k:=sV bD (k:=I3 ?_)))
 refine ciV h (λhb116 h=>?_) (λhb116 h=>?_)
 ·
  refine I4 (sV (ldV 6 Jm) (k:=sV nlV (k:=sV (q_fl 0 aW) (k:=sV (ldaV 3 [.pointer (some ⟨el.2,0,none⟩),.string o22.place_name,ii o22.place_gen] Je Jf) (k:=sV (gE (v:=.func (.func 96) #[] #[(pq g16)]) rfl (by kernel_rfl)) (k:=?_))))))
  refine foR [3] hrow_71 [_,_,_,_,_,_,_] ?_
  obtain⟨rowT118,hT119⟩:∃r:Rowb,r=([[(g16,.cells #[(pq gh40_)] 81 (0,0))],row23]:List Rowb).flatten:=⟨_,rfl⟩
  refine WR.sub (λw hw=>hw.fold (is:=[6,0]) rfl hT119) ?_
  obtain⟨z120,hz121,h⟩:=bnd h
  refine ecV [1,0] (caV call72) (λw hp=>bP (caps:=#[(pq g16)]) hr114 o22.place_name ho0_71 o22.place_gen ho1_71 (λx y=>bY x y o22) (λ{Γq_ wq_} x hx y hy hle hp2 {_} hq=>Calls.mono (lF (Γ:=Γq_) x hx y hy ((ho24.mono (((((hl66.trans hl75).trans hl83).trans hl90).trans hl99).trans hl110)).mono hle) (by subst hT119; exact hp2.parts) hq) (λe w2 ho=>In (by subst hT119; exact hp2.parts) ho (λ_ _ _ hr=>⟨hr.1,hr.2.1⟩))) call96 hp hz121) ?_
  rintro Γ122 _ _ hl123 ⟨row126,rfl,rfl,hd127⟩
  refine cwV 109 [_,_,_,_,_,_] ?_
  refine WR.sub (λw hw=>hw.unfold (i:=1) rfl hT119) ?_
  change WR _ _ _ (CC F Γ122 [_,_,_,_,_,_,_]) _ _ _
  refine I3 (I4 (mV (k:=aV (k:=I3 ?_))))
  refine I8 ?_
  intro w hw
  have hw:=hw.fold (is:=[5]) rfl hrow_62
  exact re_ r [0,2] h hF hw ⟨rowl,row126,rfl,rfl,(hl.mono (((((((hl21.trans hl66).trans hl75).trans hl83).trans hl90).trans hl99).trans hl110).trans hl123)),hd127,hr115,trivial⟩
 refine I7 (wc_ (I4 (mV (k:=sV nlV (k:=sV (q_fl 0 aW) (k:=sV (q_fl 0 eC) (k:=sV (ldV 4 Jd) (k:=?_))))))))
 obtain⟨z129,hz130,h⟩:=bnd h
 refine ecV [0] (caV call76) (λw hp=>dG hr114 hp hz130) ?_
 rintro Γ131 _ _ hl132 ⟨row135,rfl,rfl,hr136,_⟩
 refine cwV 116 [_,_,_,_,_,_,_] (I3 (I4 (sV (ldV 6 Jm) (k:=sV nlV (k:=sV (q_fl 0 aW) (k:=sV (ldaV 3 [.pointer (some ⟨el.2,0,none⟩),.string o22.place_name,ii o22.place_gen] Je Jf) (k:=sV (gE (v:=.func (.func 97) #[] #[(pq g17)]) rfl (by kernel_rfl)) (k:=?_))))))))
 obtain⟨rowT137,hT138⟩:∃r:Rowb,r=([[(g17,.cells #[ii l.place_gen] 2 (0,0))]]:List Rowb).flatten:=⟨_,rfl⟩
 refine WR.sub (λw hw=>hw.fold (is:=[5]) rfl hT138) ?_
 obtain⟨z139,hz140,h⟩:=bnd h
 refine ecV [1,0] (caV call72) (λw hp=>bP (caps:=#[(pq g17)]) hr136 o22.place_name ho0_71 o22.place_gen ho1_71 (λx y=>bJ x y l.place_gen) (λ{Γq_ wq_} x hx y hy hle hp2 {_} hq=>Calls.mono (lJ (Γ:=Γq_) x hx y hy l.place_gen ho1_12 (by subst hT138; exact hp2.parts) hq) (λe w2 ho=>In (by subst hT138; exact hp2.parts) ho (λ_ _ _ hr=>⟨hr.1,hr.2.1⟩))) call97 hp hz140) ?_
 rintro Γ141 _ _ hl142 ⟨row145,rfl,rfl,hd146⟩
 refine cwV 122 [_,_,_,_,_,_,_] ?_
 refine WR.sub (λw hw=>hw.unfold (i:=1) rfl hT138) ?_
 change WR _ _ _ (CC F Γ141 [_,_,_,_,_,_,_]) _ _ _
 refine I3 (I4 (mV (k:=sV nlV (k:=sV (q_fl 0 aW) (k:=sV (q_fl 0 eC) (k:=sV (ldV 5 Jd) (k:=?_)))))))
 obtain⟨z147,hz148,h⟩:=bnd h
 refine ecV [1] (caV call76) (λw hp=>dG hd146 hp hz148) ?_
 rintro Γ149 _ _ hl150 ⟨row153,rfl,rfl,hr154,_⟩
 refine cwV 128 [_,_,_,_,_,_,_] (I3 (I4 (mV (k:=sV (ldV 6 Jm) (k:=sV nlV (k:=sV (ldaV 4 [.pointer (some ⟨el.2,0,none⟩),.string o22.place_name,ii o22.place_gen,ii o22.size,ii o22.last,ii o22.tail,ii o22.count,ii o22.bytes] isAgg146 sizeOf146) (k:=sV nlV (k:=?_))))))))
 refine stV 5 (.agg #[.pointer (some ⟨el.2,0,none⟩),.string o22.place_name,ii o22.place_gen,ii o22.size,ii o22.last,ii o22.tail,ii o22.count,ii o22.bytes]) #[.pointer (some ⟨el.2,0,none⟩),.string o22.place_name,ii o22.place_gen,ii o22.size,ii o22.last,ii o22.tail,ii o22.count,ii o22.bytes] sizeOf146 (k:=I3 (I4 (aV (k:=I3 ?_))))
 refine I8 ?_
 intro w hw
 obtain⟨row_155,hrow_155,hob_155⟩:∃rw:Rowb,rw=([[(gl,.cells #[.pointer (some ⟨el.2,0,none⟩),.string o22.place_name,ii o22.place_gen,ii o22.size,ii o22.last,ii o22.tail,ii o22.count,ii o22.bytes] el.1 (0,0))]]:List Rowb).flatten∧ai.ob el Γ149 gl rw (⟨o22.place_name,o22.place_gen,o22.size,o22.last,o22.tail,o22.count,o22.bytes⟩:ai):=⟨_,rfl,rfl,ho0_71,ho1_71,ho2_71,ho3_71,ho4_71,ho5_71,ho6_71,trivial⟩
 have hw:=hw.fold (is:=[5]) rfl hrow_155
 cases h
 subst hF
 exact aL (is:=[0,0]) (by kernel_rfl) hw rfl ⟨row_155,row153,rfl,rfl,hob_155,hr154,iV,trivial⟩
abbrev sE(gs_:Nat)(es_:Nat×Nat)(edk0:Nat)(r:ae×a8×Int)(U:List Rowb)(Γ:Gh)(v:Value):Prop := ∃(rows_':Rowb), ∃(rowdk0':Rowb),v = .int .i64 r.2.2∧U = [rows_',rowdk0']∧ae.ob es_ Γ gs_ rows_' r.1∧a8.ob edk0 Γ es_.2 rowdk0' r.2.1∧I64 r.2.2∧True
theorem nL{gs_:Nat}{es_:Nat×Nat}{rows_:Rowb}{s_:ae}(hs_:ae.ob es_ Γ gs_ rows_ s_){Afloor:Option Addr}{cfloor:Nat}{floor:List Int}(hfloor:Sl intT Γ Afloor floor)(hfloorc:floor.length≤cfloor){edk0:Nat}{rowdk0:Rowb}{dk0:a8}(hdk0:a8.ob edk0 Γ es_.2 rowdk0 dk0)(hp:Pre [rows_,rowdk0] Γ w0){r:ae×a8×Int}(h:dt s_ floor dk0=some r):Calls Tryz.prog 17 #[(pq gs_),.slice Afloor floor.length cfloor] w0 (Outc Γ [rows_,rowdk0] w0 (sE gs_ es_ edk0 r)):=by
 refine goV [4] func17 ntmps17 results17 hp λF hF=>?_
 refine I4 (aV (k:=I3 (I4 ?_)))
 refine rF (strK IX) (slT av).v rfl rfl rfl rfl ?_
 intro g1 row2 hm3
 refine aU (v:=.map (some g1)) (k:=I3 (I4 (aV (k:=I3 (I5 (I4 (mV (k:=?_))))))))
 obtain⟨z4,hz5,h⟩:=bnd h
 refine ecV [1] (caV call27) (λw hp=>nI hs_ hp hz5) ?_
 rintro Γ6 _ _ hl7 ⟨A10,c11,row12,rfl,rfl,hr13,_⟩
 refine cwV 12 [_,_,_,_] (sV (ag rfl JN) (k:=mV (k:=I3 (Ia ?_))))
 refine Ie h (λ(i23:Nat) (s:(List (List UInt8))×(List (ByteArray×(List UInt8)))) σ w=>match s with | (list_14,m19) => ∃(A15:Option Addr), ∃(c16:Nat), ∃(row17:Rowb), ∃(row20:Rowb),slots σ [(0,(pq gs_)),(1,.slice Afloor floor.length cfloor),(5,.map (some g1)),(6,.slice A15 list_14.length c16),(12,.slice A10 z4.length c11),(13,ii (z4.length:Int)),(14,ii (i23:Int))]∧CC F Γ6 [row17,rows_,row12,row20,rowdk0] w∧Own (slT av) Γ6 51 row17 A15 c16 list_14∧MapO (strK IX) (slT av).v Γ6 row20 g1 m19∧True) ?_ ?_
 ·
  intro w hw
  have hw:=hw.pad
  exact⟨none,0,[],row2,slK,hw,(Own.nil (slT av) _ 51),(hm3.mono hl7),trivial⟩
 rintro f22 i23 ⟨list_14,m19⟩ σ w hi24 hlt25 hge26 ⟨A15,c16,row17,row20,hsl,hw,ho18,ho21,-⟩
 refine slV hsl hw [_,_,_,_,_] ?_; clear hw hsl
 refine I4 (sV aG (k:=I3 (I5 ?_)))
 refine coV (λhb27=>?_) (λhb27=>?_)
 ·
  have hl28:=ilt hb27
  have h:=hlt25 hl28
  refine I7 (wc_ ?_)
  refine Id (λσ w => ∃(list_29:List (List UInt8)), ∃(m34:List (ByteArray×(List UInt8))), ∃(A30:Option Addr), ∃(c31:Nat), ∃(row32:Rowb), ∃(row35:Rowb),gN f22 list_29 m34=some r∧slots σ [(0,(pq gs_)),(1,.slice Afloor floor.length cfloor),(5,.map (some g1)),(6,.slice A30 list_29.length c31),(12,.slice A10 z4.length c11),(13,ii (z4.length:Int)),(14,ii (i23:Int))]∧CC F Γ6 [row32,rows_,row12,row35,rowdk0] w∧Own (slT av) Γ6 51 row32 A30 c31 list_29∧MapO (strK IX) (slT av).v Γ6 row35 g1 m34∧True) ?_ ?_
  ·
   refine Ia (I4 (sV (aN (i:=i23) JN Jz rfl rfl rfl hl28 (hr13.some_ hl28)) (k:=?_)))
   obtain⟨A37,c38,hx39⟩:=hr13.recT_at i23
   refine sV (uB (c:=0) (vs:=(Rec.cs A37 c38 (gt z4 i23))) (i:=2) rfl (hx39 hl28).2 rfl JA Jz rfl rfl) (k:=?_)
   refine alV Jy λg40=>?_
   refine stV 0 (.agg (Rec.cs A37 c38 (gt z4 i23)).toArray) (Rec.cs A37 c38 (gt z4 i23)).toArray Jz (k:=I3 (I5 (I4 (sV (q_fl 1 ci) (k:=sV (ldV 0 JH) (k:=sV (ag rfl JE) (k:=sV bp (k:=?_))))))))
   refine mV (k:=vG1 (h:=λhg41=>q_fl 1 ci) (k:=vG1 (h:=λhg42=>ldV 0 JH (hx:=grV hg42)) (k:=?_)))
   obtain⟨hk44,h⟩:=am h
   refine vG1 (h:=λhg43=>aN (i:=0) JE Ju rfl (grV hg43) rfl (Ip (b5 hk44 hg43)) ((hx39 hl28).1.2.2.some_ (Ip (b5 hk44 hg43)))) (k:=vG1 (h:=λhg45=>ay (0*5+3) jC rfl (grV hg45) ((hx39 hl28).1.2.2.some_ (Ip (b5 hk44 hg45))) rfl) (k:=?_))
   obtain⟨A47,c48,hx49⟩:=(hx39 hl28).1.2.2.verT_at 0
   refine vG1 (h:=λhg46=>q_ld (c:=3) (v:=.bool (gt ((gt z4 i23).vers) 0).gone) (hx49 (Ip (b5 hk44 hg46))).2 rfl JD (grV hg46) rfl) (k:=sV pkA (k:=mV (k:=vG1 (h:=λhg50=>moV) (k:=vG1 (h:=λhg51=>q_fl 1 ci) (k:=vG1 (h:=λhg52=>ldV 0 JH (hx:=grV hg52)) (k:=?_))))))
   obtain⟨hk54,h⟩:=am h
   refine vG1 (h:=λhg53=>aN (i:=0) JE Ju rfl (grV hg53) rfl (Ip (b5 hk54 hg53)) ((hx39 hl28).1.2.2.some_ (Ip (b5 hk54 hg53)))) (k:=vG1 (h:=λhg55=>ay (0*5) bO rfl (grV hg55) ((hx39 hl28).1.2.2.some_ (Ip (b5 hk54 hg55))) rfl) (k:=vG1 (h:=λhg56=>jx (c:=0) (vs:=[ii (gt ((gt z4 i23).vers) 0).dot.s,ii (gt ((gt z4 i23).vers) 0).dot.n]) (hx49 (Ip (b5 hk54 hg56))).2 rfl JF JG (grV hg56) rfl rfl) (k:=?_)))
   obtain⟨z58,hz59,h⟩:=bnd h
   refine vC1 (h:=λhg57=>bK (bb call46 rfl rfl (jX (grV hg57) (grV hg57))) (λw hw=>xi (Γ:=Gh.all w) ((hfloor.mono hl7).mono hw.sat.le_all) hfloorc ((gt ((gt z4 i23).vers) 0).dot) ⟨(hx49 (Ip (b5 hk54 hg57))).1.1,(hx49 (Ip (b5 hk54 hg57))).1.2.1⟩ (Sat.all w) (jv hz59 hg57))) (k:=sV pkA (k:=I3 ?_))
   refine ciV h (λhb60 h=>?_) (λhb60 h=>?_)
   ·
    exact Ic λw hw=>⟨list_14,m19,A15,c16,row17,row20,h,slK,(hw.on [1,1,1,1,1]),ho18,ho21,trivial⟩
   refine I7 (wc_ (I5 ?_))
   refine leV λh061=>?_
   refine dW (CC F Γ6 [[(g40,.cells (Rec.cs A37 c38 (gt z4 i23)).toArray 24 (0,0))],row17,row12]) (bo_ [0,0,1] gR h061) λk=>?_
   change WH _ _ _ _ (CC F Γ6 [_,_,_,_,_,_]) _ 11 _ _
   refine hV 0 k (q:=bv (v:=.map (some g1)) rfl (by kernel_rfl)) (k:=hV 1 k (q:=q_fl 0 cV) (k:=hV 2 k (q:=ldV 0 IY) (k:=hV 3 k (q:=moV) (k:=hV 4 k (q:=nlV) (k:=hV 5 k (q:=q_fl 1 kT) (k:=hV 7 k (q:=q_fl 0 cV) (k:=hV 8 k (q:=ldV 0 IY) (k:=?_))))))))
   refine wl_ 6 rfl ?_
   obtain⟨g0_62,r0_62,m1_62,r1_62,hrow_62,ho0_62,ho1_62,-⟩:=(hs_.mono hl7)
   refine ufR 2 hrow_62 [_,_,_,_,_,_,_,_] ?_
   refine sV (ldV 0 JJ) (k:=?_)
   refine I6 (nxV (bo_ [3,3,3] gR h061) λk=>?_)
   refine wl_ 9 rfl ?_
   obtain⟨v63,⟨A66,c67,hv64,hc68,hs69⟩,hat65⟩:=MapO.look ho1_62 ((gt z4 i23).key) (z:=.slice none 0 0) (zx:=[]) ⟨none,0,rfl,IH _,Sl.nil _ _ _⟩
   obtain rfl:v63=_:=List.cons.inj hv64 |>.1
   refine sV (nz (v:=.slice A66 ((mget ((gt z4 i23).key) s_.keys).getD []).length c67) hat65 rfl JK J2 rfl rfl (i:=2) rfl) (k:=?_)
   refine I6 (nxV (bo_ [3,3,3] gR h061) λk=>?_)
   refine wl_ 10 rfl ?_
   refine n4 (i:=6) (x:=((gt z4 i23).key)) (v:=.slice A66 ((mget ((gt z4 i23).key) s_.keys).getD []).length c67) (a:=((mget ((gt z4 i23).key) s_.keys).getD [])) rfl rfl rfl JK rfl rfl (by kernel_rfl) rfl ho21 (by exact⟨A66,c67,rfl,hc68,hs69⟩) (hx39 hl28).1.1 ?_
   intro row70 hm71
   refine I6 (nxV (bo_ [3,3,3] gR h061) λk=>?_)
   refine Ig (by kernel_rfl) ?_
   change WC _ _ _ _ _ _
   refine I9 ?_
   refine mV (k:=mU (v:=.map (some g1)) (k:=sV (q_fl 0 cV) (k:=sV (ldV 3 IY) (k:=?_))))
   obtain⟨v72,⟨A75,c76,hv73,hc77,hs78⟩,hat74⟩:=MapO.look hm71 ((gt z4 i23).key) (z:=.slice none 0 0) (zx:=[]) ⟨none,0,rfl,IH _,Sl.nil _ _ _⟩
   obtain rfl:v72=_:=List.cons.inj hv73 |>.1
   refine sV (nz (v:=.slice A75 ((mget ((gt z4 i23).key) (mput ((gt z4 i23).key) ((mget ((gt z4 i23).key) s_.keys).getD []) m19)).getD []).length c76) hat74 rfl JK J2 rfl rfl (i:=6) rfl) (k:=?_)
   refine bsV #[.slice A75 ((mget ((gt z4 i23).key) (mput ((gt z4 i23).key) ((mget ((gt z4 i23).key) s_.keys).getD []) m19)).getD []).length c76] 51 λg79=>?_
   obtain⟨hk80,h⟩:=am h
   refine apV 5 [((mget ((gt z4 i23).key) (mput ((gt z4 i23).key) ((mget ((gt z4 i23).key) s_.keys).getD []) m19)).getD [])] rG ho18 (Ip hk80) (λw hw=>bM (i:=0) rfl (by exact⟨A75,c76,rfl,hc77,hs78⟩) hw) ?_
   intro row81 A82 c83 ho84
   refine aV (k:=?_)
   refine I6 ?_
   intro w hw
   have hw:=hw.fold (is:=[1,1,1]) rfl hrow_62
   exact⟨(list_14++[((mget ((gt z4 i23).key) (mput ((gt z4 i23).key) ((mget ((gt z4 i23).key) s_.keys).getD []) m19)).getD [])]),(mput ((gt z4 i23).key) ((mget ((gt z4 i23).key) s_.keys).getD []) m19),A82,c83,row81,row70,h,slK,(hw.on [3,0,2,2,2]),ho84,hm71,trivial⟩
  rintro σ w ⟨list_29,m34,A30,c31,row32,row35,h,hsl,hw,ho33,ho36,-⟩
  refine slV hsl hw [_,_,_,_,_] ?_; clear hw hsl
  refine I9 ?_
  refine sV (aF rfl rfl rfl (aJ hl28 hr13.le)) (k:=mV (k:=?_))
  exact I6 λw hw=>⟨hl28,(list_29,m34),h,A30,c31,row32,row35,slK,hw,ho33,ho36,trivial⟩
 have h:=hge26 (ige hb27)
 refine Ic ?_
 change WC _ _ _ _ _ _
 refine I5 (I4 (mV (k:=sV nlV (k:=sV (q_fl 0 oZ) (k:=?_)))))
 obtain⟨g0_86,r0_86,m1_86,r1_86,hrow_86,ho0_86,ho1_86,-⟩:=(hs_.mono hl7)
 refine ufR 1 hrow_86 [_,_,_,_,_,_,_] ?_
 refine sV (ldV 0 Jm) (k:=mV (k:=?_))
 have hc91:=ho18.capz
 refine seR 3 [_,_,_,_,_,_,_] λΓ87 hl88 hr89=>?_
 have hs90:=ho18.sl hl88 hr89
 obtain⟨z92,hz93,h⟩:=bnd h
 refine ecV [1,5] (caV call47) (λw hp=>qu (ho0_86.mono hl88) hs90 hc91 (hdk0.mono (hl7.trans hl88)) hp hz93) ?_
 rintro Γ94 _ _ hl95 ⟨row98,row100,rfl,rfl,hr99,hr101,hr102,_⟩
 refine cwV 61 [_,_,_,_,_,_,_] (aV (k:=I3 (I4 (mV (k:=sV bD (k:=I3 ?_))))))
 refine ciV h (λhb103 h=>?_) (λhb103 h=>?_)
 ·
  refine I4 (mV (k:=aV (k:=I3 ?_)))
  refine I8 ?_
  intro w hw
  obtain⟨row_104,hrow_104,hob_104⟩:∃rw:Rowb,rw=([[(gs_,.cells #[(pq g0_86),.map (some m1_86)] es_.1 (0,0))],row98,r1_86]:List Rowb).flatten∧ae.ob es_ Γ94 gs_ rw (⟨z92.1,s_.keys⟩:ae):=⟨_,rfl,g0_86,row98,m1_86,r1_86,rfl,hr99,(ho1_86.mono (hl88.trans hl95)),trivial⟩
  have hw:=hw.fold (is:=[2,0,1]) rfl hrow_104
  cases h
  subst hF
  exact aL (is:=[0,0]) (by kernel_rfl) hw rfl ⟨row_104,row100,rfl,rfl,hob_104,hr101,hr102,trivial⟩
 refine I7 (wc_ (I4 (mV (k:=mU (v:=.map (some g1)) (k:=sV nlV (k:=sV (q_fl 1 kT) (k:=stV 2 (.map (some g1)) #[(pq g0_86),.map (some g1)] sizeOf76 (k:=?_))))))))
 refine I3 (I4 (aV (k:=I3 ?_)))
 refine I8 ?_
 intro w hw
 obtain⟨row_105,hrow_105,hob_105⟩:∃rw:Rowb,rw=([[(gs_,.cells #[(pq g0_86),.map (some g1)] es_.1 (0,0))],row98,row20]:List Rowb).flatten∧ae.ob es_ Γ94 gs_ rw (⟨z92.1,m19⟩:ae):=⟨_,rfl,g0_86,row98,g1,row20,rfl,hr99,(ho21.mono (hl88.trans hl95)),trivial⟩
 have hw:=hw.fold (is:=[2,0,4]) rfl hrow_105
 cases h
 subst hF
 exact aL (is:=[0,0]) (by kernel_rfl) hw rfl ⟨row_105,row100,rfl,rfl,hob_105,hr101,iV,trivial⟩
theorem so{gl:Nat}{el:Nat×Nat}{rowl:Rowb}{l:ai}(hl:ai.ob el Γ gl rowl l)(hlr:∀p∈rowl,Γ p.1=some p.2)(hs:Sat Γ w0){r:Int}(h:nK l=some r):CQ Tryz.prog 63 #[(pq gl)] w0 (ii r):=by
 refine goQ [2] func63 ntmps63 results63 hs λF hF=>?_
 refine I4 (aV (k:=I3 (I4 (mV (k:=sV nlV (k:=sV (q_fl 6 ry) (k:=?_)))))))
 obtain⟨hrow_1,ho0_1,ho1_1,ho2_1,ho3_1,ho4_1,ho5_1,ho6_1,-⟩:=id hl
 have hg_2:∀u∈([[(gl,.cells #[.pointer (some ⟨el.2,0,none⟩),.string l.place_name,ii l.place_gen,ii l.size,ii l.last,ii l.tail,ii l.count,ii l.bytes] el.1 (0,0))]]:List Rowb), ∀p∈u,Γ p.1=some p.2:=λu hu p hp=>(λp hp=>(hlr p hp)) p (hrow_1▸List.mem_flatten.2 ⟨u,hu,hp⟩)
 have hgc3:=hg_2 _ (It ..) (gl,_) (List.mem_singleton.2 rfl)
 refine sV (mX (v:=ii l.count) hgc3 rfl Jc rfl rfl) (k:=aV (k:=I3 ?_))
 exact I8 λw hw=>rq_ r h hF hw
theorem nl{gs_:Nat}{es_:Nat×Nat}{rows_:Rowb}{s_:ae}(hs_:ae.ob es_ Γ gs_ rows_ s_)(hs_r:∀p∈rows_,Γ p.1=some p.2)(hs:Sat Γ w0){r:Int}(h:iJ s_=some r):CQ Tryz.prog 31 #[(pq gs_)] w0 (ii r):=by
 refine goQ [2] func31 ntmps31 results31 hs λF hF=>?_
 refine I4 (aV (k:=I3 (I5 ?_)))
 refine drV ?_
 refine zV moV (k:=zV nlV (k:=zV (q_fl 0 oZ) (k:=?_)))
 obtain⟨g0_1,r0_1,m1_1,r1_1,hrow_1,ho0_1,ho1_1,-⟩:=id hs_
 have hg_2:∀u∈([[(gs_,.cells #[(pq g0_1),.map (some m1_1)] es_.1 (0,0))],r0_1,r1_1]:List Rowb), ∀p∈u,Γ p.1=some p.2:=λu hu p hp=>(λp hp=>(hs_r p hp)) p (hrow_1▸List.mem_flatten.2 ⟨u,hu,hp⟩)
 have hgc3:=hg_2 _ (It ..) (gs_,_) (List.mem_singleton.2 rfl)
 have hgs4:=hg_2 r0_1 (by simp)
 have hgs5:=hg_2 r1_1 (by simp)
 refine zV (mX (v:=(pq g0_1)) hgc3 rfl Jm rfl rfl) (k:=?_)
 obtain⟨z6,hz7,h⟩:=bnd h
 refine wc rfl rfl rfl (bK (caV call63) (λw hw=>so (Γ:=Gh.all w) (ho0_1.mono hw.sat.le_all) (λp hp=>hw.sat _ _ (hgs4 p hp)) (Sat.all w) hz7)) (zV moV (k:=zV nlV (k:=zV (q_fl 1 kT) (k:=zV (mX (v:=.map (some m1_1)) hgc3 rfl JJ rfl rfl) (k:=zV (AM (λp hp=>(hgs5 p hp)) ho1_1 rfl JK rfl) (k:=zV fO (k:=zV aoV (k:=?_))))))))
 refine Ij ?_
 change WC _ _ _ _ _ _
 exact I8 λw hw=>rq_ r h hF hw
theorem sw(hs:Sat Γ w0){r:Bool}(h:l8=some r):CQ Tryz.prog 6 #[] w0 (.bool r):=by
 refine goQ [0] func6 ntmps6 results6 hs λF hF=>?_
 refine I4 (aV (k:=I3 (I4 ?_)))
 obtain⟨z1,hz2,h⟩:=bnd h
 refine ecV [] (caV call8) (λw hp=>wQ 1000 iV hp hz2) ?_
 rintro Γ3 _ _ hl4 ⟨g7,row8,rfl,rfl,hr9,_⟩
 refine cwV 6 [_] (aV (k:=I3 (I4 (mV (k:=?_)))))
 obtain⟨z10,hz11,h⟩:=bnd h
 refine ecV [0] (caV call9) (λw hp=>pR hr9 (⟨#[115]⟩:ByteArray) (show (⟨#[115]⟩:ByteArray).size≤lim by decide) 64 iV hp hz11) ?_
 rintro Γ12 _ _ hl13 ⟨row16,g18,row19,rfl,rfl,hr17,hr20,hr21,_⟩
 refine cwV 9 [_,_] (mV (k:=sV exV (k:=sV exV (k:=aU (v:=optp z10.2.1 g18) (k:=aV (k:=I3 (I5 ?_)))))))
 refine I4 (mU (v:=optp z10.2.1 g18) (k:=sV (Df JO rfl rfl rfl) (k:=mV (k:=vG0 (h:=λhg22=>moV) (k:=vG0 (h:=λhg23=>bD rfl (grV hg23)) (k:=sV pkO (k:=mV (k:=?_))))))))
 refine vG0 (h:=λhg24=>bv (v:=optp z10.2.1 g18) rfl (by kernel_rfl)) (k:=?_)
 refine(Bool.eq_false_or_eq_true (!((Option.isNone z10.2.1)||(z10.2.2 != 0)))).elim (λhb25=>?_) (λhb25=>?_)
 ·
  have h:=bt hb25 h
  obtain⟨z26,hz27,h⟩:=bnd h
  have ho28:=iy hr20 hz27
  refine WR.sat (c0:=true) (g:=((Option.isNone z10.2.1)||(z10.2.2 != 0))) rfl rfl rfl hb25 ?_
  obtain⟨z29,hz30,h⟩:=bnd h
  refine ecV [] (caV call29) (λw hp=>oV 1 iV 1 iV false hp hz30) ?_
  rintro Γ31 _ _ hl32 ⟨A35,c36,rfl,rfl,hr37,_⟩
  refine cwV 20 [_,_] ?_
  refine WR.sat (c0:=true) (g:=((Option.isNone z10.2.1)||(z10.2.2 != 0))) rfl rfl rfl hb25 ?_
  refine bsV (Ver.cs A35 c36 z29).toArray 39 λg38=>?_
  refine WR.sat (c0:=true) (g:=((Option.isNone z10.2.1)||(z10.2.2 != 0))) rfl rfl rfl hb25 ?_
  refine sV (aZ (v:=.agg #[.string (⟨#[107]⟩:ByteArray),.slice (some ⟨g38,0,none⟩) 1 1]) rfl (jI rfl rfl) (λw=>by kernel_rfl)) (k:=?_)
  refine WR.sat (c0:=true) (g:=((Option.isNone z10.2.1)||(z10.2.2 != 0))) rfl rfl rfl hb25 ?_
  have ho39:Own verT Γ31 39 [(g38,.cells (Ver.cs A35 c36 z29).toArray 39 (0,0))] (some ⟨g38,0,none⟩) 1 [z29]:=Ii (T:=verT) (ys:=[z29]) [(Ver.cs A35 c36 z29)] rfl (show 1≤lim by decide) ⟨⟨A35,c36,rfl,hr37⟩,trivial⟩
  have hc44:=ho39.capz
  refine seR 0 [_,_,_] λΓ40 hl41 hr42=>?_
  have hs43:=ho39.sl hl41 hr42
  obtain⟨z45,hz46,h⟩:=bnd h
  refine jV (is:=[2,1]) (Lent.nil F) rfl rfl (bb call11 rfl rfl (jX (bz (grV hb25) hz27) rfl)) rfl (λw Θ hp hpB hle hleB hR=>mO (ho28.mono (hl32.trans hl41)) (⟨(⟨#[107]⟩:ByteArray),[z29]⟩:Rec) (Rec.fits_mono ⟨(show (⟨#[107]⟩:ByteArray).size≤lim by decide),⟨hc44,hs43⟩⟩ hle) (hr17.mono (hl32.trans hl41)) hp hpB hz46) ?_
  rintro Γ47 _ _ hl48 ⟨row51,row53,rfl,rfl,hr52,hr54,hr55,_⟩
  refine cwV 23 [_,_,_] ?_
  refine WR.sat (c0:=true) (g:=((Option.isNone z10.2.1)||(z10.2.2 != 0))) rfl rfl rfl hb25 ?_
  refine sV bD (k:=sV (eH (v:=.bool (z45.2.2 != 0)) rfl rfl (pd hb25) (by kernel_rfl)) (k:=mV (k:=vG0 (h:=λhg56=>bv (v:=(pq g18)) rfl (bz rfl hz27)) (k:=?_))))
  refine(Bool.eq_false_or_eq_true (!(z45.2.2 != 0))).elim (λhb57=>?_) (λhb57=>?_)
  ·
   have h:=bt hb57 h
   refine WR.sat (c0:=true) (g:=(z45.2.2 != 0)) rfl rfl rfl hb57 ?_
   obtain⟨z58,hz59,h⟩:=bnd h
   refine ecV [] (caV call29) (λw hp=>oV 2 iV 1 iV true hp hz59) ?_
   rintro Γ60 _ _ hl61 ⟨A64,c65,rfl,rfl,hr66,_⟩
   refine cwV 28 [_,_,_] ?_
   refine WR.sat (c0:=true) (g:=(z45.2.2 != 0)) rfl rfl rfl hb57 ?_
   refine bsV (Ver.cs A64 c65 z58).toArray 39 λg67=>?_
   refine WR.sat (c0:=true) (g:=(z45.2.2 != 0)) rfl rfl rfl hb57 ?_
   refine sV (aZ (v:=.agg #[.string (⟨#[108]⟩:ByteArray),.slice (some ⟨g67,0,none⟩) 1 1]) rfl (jI rfl rfl) (λw=>by kernel_rfl)) (k:=?_)
   refine WR.sat (c0:=true) (g:=(z45.2.2 != 0)) rfl rfl rfl hb57 ?_
   have ho68:Own verT Γ60 39 [(g67,.cells (Ver.cs A64 c65 z58).toArray 39 (0,0))] (some ⟨g67,0,none⟩) 1 [z58]:=Ii (T:=verT) (ys:=[z58]) [(Ver.cs A64 c65 z58)] rfl (show 1≤lim by decide) ⟨⟨A64,c65,rfl,hr66⟩,trivial⟩
   have hc73:=ho68.capz
   refine seR 0 [_,_,_,_] λΓ69 hl70 hr71=>?_
   have hs72:=ho68.sl hl70 hr71
   obtain⟨z74,hz75,h⟩:=bnd h
   refine jV (is:=[1,1]) (Lent.nil F) rfl rfl (bb call11 rfl rfl (jX (grV hb57) rfl)) rfl (λw Θ hp hpB hle hleB hR=>mO (hr52.mono (hl61.trans hl70)) (⟨(⟨#[108]⟩:ByteArray),[z58]⟩:Rec) (Rec.fits_mono ⟨(show (⟨#[108]⟩:ByteArray).size≤lim by decide),⟨hc73,hs72⟩⟩ hle) (hr54.mono (hl61.trans hl70)) hp hpB hz75) ?_
   rintro Γ76 _ _ hl77 ⟨row80,row82,rfl,rfl,hr81,hr83,hr84,_⟩
   refine cwV 31 [_,_,_,_] ?_
   refine WR.sat (c0:=true) (g:=(z45.2.2 != 0)) rfl rfl rfl hb57 ?_
   refine sV bD (k:=sV (eH (v:=.bool (z74.2.2 != 0)) rfl rfl (pd hb57) (by kernel_rfl)) (k:=I3 ?_))
   refine ciV h (λhb85 h=>?_) (λhb85 h=>?_)
   ·
    refine I4 (aV (k:=I3 ?_))
    exact I8 λw hw=>rq_ r h hF hw
   refine I7 (wc_ (I4 (sV (bv (v:=(pq g18)) rfl (bz rfl hz27)) (k:=?_))))
   obtain⟨z86,hz87,h⟩:=bnd h
   refine ecV [0] (caV call30) (λw hp=>j6 hr81 hp hz87) ?_
   rintro Γ88 _ _ hl89 ⟨A92,c93,row94,rfl,rfl,hr95,_⟩
   refine cwV 35 [_,_,_,_,_] (sV (ag rfl Jh) (k:=aV (k:=I3 (I4 (sV (bv (v:=(pq g18)) rfl (bz rfl hz27)) (k:=?_))))))
   refine bsV #[ii 9,ii 1] 2 λg96=>?_
   have ho97:Own intT Γ88 2 [(g96,.cells #[ii 9,ii 1] 2 (0,0))] (some ⟨g96,0,none⟩) 2 [9,1]:=Ii (T:=intT) (ys:=[9,1]) [[ii 9],[ii 1]] rfl (show 2≤lim by decide) ⟨⟨rfl,iV⟩,⟨rfl,iV⟩,trivial⟩
   have hc102:=ho97.capz
   refine seR 0 [_,_,_,_,_,_] λΓ98 hl99 hr100=>?_
   have hs101:=ho97.sl hl99 hr100
   obtain⟨z103,hz104,h⟩:=bnd h
   refine ecV [1,2] (caV call17) (λw hp=>nL (hr81.mono (hl89.trans hl99)) hs101 hc102 (hr83.mono (hl89.trans hl99)) hp hz104) ?_
   rintro Γ105 _ _ hl106 ⟨row109,row111,rfl,rfl,hr110,hr112,hr113,_⟩
   refine cwV 39 [_,_,_,_,_,_] (aV (k:=I3 (I4 (mV (k:=sV bp (k:=mV (k:=vG1 (h:=λhg114=>moV) (k:=?_))))))))
   refine vG1 (h:=λhg115=>bp rfl (grV hg115)) (k:=sV pkA (k:=mV (k:=vG1 (h:=λhg116=>bv (v:=(pq g18)) rfl (bz rfl hz27)) (k:=?_))))
   refine(Bool.eq_false_or_eq_true (((z86.length:Int)==2)&&(z103.2.2==0))).elim (λhb117=>?_) (λhb117=>?_)
   ·
    have h:=bt hb117 h
    refine WR.sat (c0:=true) (g:=(((z86.length:Int)==2)&&(z103.2.2==0))) rfl rfl rfl hb117 ?_
    obtain⟨z118,hz119,h⟩:=bnd h
    refine ecV [0] (bb call30 rfl rfl (lT (grV hb117))) (λw hp=>j6 hr110 hp hz119) ?_
    rintro Γ120 _ _ hl121 ⟨A124,c125,row126,rfl,rfl,hr127,_⟩
    refine cwV 48 [_,_,_,_,_,_,_] ?_
    refine WR.sat (c0:=true) (g:=(((z86.length:Int)==2)&&(z103.2.2==0))) rfl rfl rfl hb117 ?_
    refine sV (ag rfl Jh) (k:=?_)
    refine WR.sat (c0:=true) (g:=(((z86.length:Int)==2)&&(z103.2.2==0))) rfl rfl rfl hb117 ?_
    refine sV bp (k:=sV (ig (v:=.bool ((z118.length:Int)==1)) rfl rfl hb117 (by kernel_rfl)) (k:=mV (k:=vG1 (h:=λhg128=>bv (v:=(pq g18)) rfl (bz rfl hz27)) (k:=?_))))
    obtain⟨z130,hz131,h⟩:=bnd h
    refine vC1 (h:=λhg129=>bK (bb call31 rfl rfl (lT (grV hg129))) (λw hw=>nl (Γ:=Gh.all w) ((hr110.mono hl121).mono hw.sat.le_all) (hw.ra 0 rfl) (Sat.all w) (jv hz131 hg129))) (k:=vG1 (h:=λhg132=>bp rfl (grV hg132)) (k:=sV pkA (k:=mV (k:=vG1 (h:=λhg133=>bv (v:=(pq g18)) rfl (bz rfl hz27)) (k:=?_)))))
    refine(Bool.eq_false_or_eq_true (((z118.length:Int)==1)&&(z130==0))).elim (λhb134=>?_) (λhb134=>?_)
    ·
     have h:=bt hb134 h
     refine WR.sat (c0:=true) (g:=(((z118.length:Int)==1)&&(z130==0))) rfl rfl rfl hb134 ?_
     obtain⟨z135,hz136,h⟩:=bnd h
     refine jV (is:=[]) (Lent.nil F) rfl rfl (bb call12 rfl rfl (jX (grV hb134) rfl)) rfl (λw Θ hp hpB hle hleB hR=>jZ ((hr110.mono hl121).mono hle) (λp hp=>hR _ (List.mem_of_getElem? (i:=0) rfl) p hp) (⟨#[107]⟩:ByteArray) (show (⟨#[107]⟩:ByteArray).size≤lim by decide) hp hpB hz136) ?_
     rintro Γ137 _ _ hl138 ⟨A141,c142,rfl,rfl,hc144,hr143,_⟩
     refine cwV 59 [_,_,_,_,_,_,_] ?_
     refine WR.sat (c0:=true) (g:=(((z118.length:Int)==1)&&(z130==0))) rfl rfl rfl hb134 ?_
     refine sV (ag rfl JE) (k:=?_)
     refine WR.sat (c0:=true) (g:=(((z118.length:Int)==1)&&(z130==0))) rfl rfl rfl hb134 ?_
     refine sV bp (k:=sV (ig (v:=.bool ((z135.length:Int)==1)) rfl rfl hb134 (by kernel_rfl)) (k:=mV (k:=vG1 (h:=λhg145=>bv (v:=(pq g18)) rfl (bz rfl hz27)) (k:=?_))))
     refine(Bool.eq_false_or_eq_true ((z135.length:Int)==1)).elim (λhb146=>?_) (λhb146=>?_)
     ·
      have h:=bt hb146 h
      refine WR.sat (c0:=true) (g:=((z135.length:Int)==1)) rfl rfl rfl hb146 ?_
      obtain⟨z147,hz148,h⟩:=bnd h
      refine jV (is:=[]) (Lent.nil F) rfl rfl (bb call12 rfl rfl (jX (grV hb146) rfl)) rfl (λw Θ hp hpB hle hleB hR=>jZ ((hr110.mono (hl121.trans hl138)).mono hle) (λp hp=>hR _ (List.mem_of_getElem? (i:=0) rfl) p hp) (⟨#[108]⟩:ByteArray) (show (⟨#[108]⟩:ByteArray).size≤lim by decide) hp hpB hz148) ?_
      rintro Γ149 _ _ hl150 ⟨A153,c154,rfl,rfl,hc156,hr155,_⟩
      refine cwV 65 [_,_,_,_,_,_,_] ?_
      refine WR.sat (c0:=true) (g:=((z135.length:Int)==1)) rfl rfl rfl hb146 ?_
      refine sV (ag rfl JE) (k:=?_)
      refine WR.sat (c0:=true) (g:=((z135.length:Int)==1)) rfl rfl rfl hb146 ?_
      refine sV bp (k:=sV (ig (v:=.bool ((z147.length:Int)==0)) rfl rfl hb146 (by kernel_rfl)) (k:=aV (k:=I3 ?_)))
      exact I8 λw hw=>rq_ r h hF hw
     have h:=bf hb146 h
     refine Ib (c0:=true) (g:=((z135.length:Int)==1)) rfl rfl rfl hb146 rfl ?_
     refine Ib (c0:=true) (g:=((z135.length:Int)==1)) rfl rfl rfl hb146 rfl ?_
     refine Ib (c0:=true) (g:=((z135.length:Int)==1)) rfl rfl rfl hb146 rfl ?_
     refine sV (eH (v:=.bool false) rfl rfl hb146 (by kernel_rfl)) (k:=aV (k:=I3 ?_))
     exact I8 λw hw=>rq_ r h hF hw
    have h:=bf hb134 h
    refine Ib (c0:=true) (g:=(((z118.length:Int)==1)&&(z130==0))) rfl rfl rfl hb134 rfl ?_
    refine Ib (c0:=true) (g:=(((z118.length:Int)==1)&&(z130==0))) rfl rfl rfl hb134 rfl ?_
    refine Ib (c0:=true) (g:=(((z118.length:Int)==1)&&(z130==0))) rfl rfl rfl hb134 rfl ?_
    refine sV (eH (v:=.bool false) rfl rfl hb134 (by kernel_rfl)) (k:=mV (k:=?_))
    refine Ib (c0:=true) (g:=false) rfl rfl rfl rfl rfl ?_
    refine Ib (c0:=true) (g:=false) rfl rfl rfl rfl rfl ?_
    refine Ib (c0:=true) (g:=false) rfl rfl rfl rfl rfl ?_
    refine Ib (c0:=true) (g:=false) rfl rfl rfl rfl rfl ?_
    refine sV (q8 (v:=.bool false) rfl rfl rfl) (k:=aV (k:=I3 ?_))
    exact I8 λw hw=>rq_ r h hF hw
   have h:=bf hb117 h
   refine Ib (c0:=true) (g:=(((z86.length:Int)==2)&&(z103.2.2==0))) rfl rfl rfl hb117 rfl ?_
   refine Ib (c0:=true) (g:=(((z86.length:Int)==2)&&(z103.2.2==0))) rfl rfl rfl hb117 rfl ?_
   refine Ib (c0:=true) (g:=(((z86.length:Int)==2)&&(z103.2.2==0))) rfl rfl rfl hb117 rfl ?_
   refine sV (eH (v:=.bool false) rfl rfl hb117 (by kernel_rfl)) (k:=mV (k:=?_))
   refine Ib (c0:=true) (g:=false) rfl rfl rfl rfl rfl ?_
   refine Ib (c0:=true) (g:=false) rfl rfl rfl rfl rfl ?_
   refine Ib (c0:=true) (g:=false) rfl rfl rfl rfl rfl ?_
   refine sV (q8 (v:=.bool false) rfl rfl rfl) (k:=mV (k:=?_))
   refine Ib (c0:=true) (g:=false) rfl rfl rfl rfl rfl ?_
   refine Ib (c0:=true) (g:=false) rfl rfl rfl rfl rfl ?_
   refine Ib (c0:=true) (g:=false) rfl rfl rfl rfl rfl ?_
   refine Ib (c0:=true) (g:=false) rfl rfl rfl rfl rfl ?_
   refine sV (q8 (v:=.bool false) rfl rfl rfl) (k:=mV (k:=?_))
   refine Ib (c0:=true) (g:=false) rfl rfl rfl rfl rfl ?_
   refine Ib (c0:=true) (g:=false) rfl rfl rfl rfl rfl ?_
   refine Ib (c0:=true) (g:=false) rfl rfl rfl rfl rfl ?_
   refine Ib (c0:=true) (g:=false) rfl rfl rfl rfl rfl ?_
   refine sV (q8 (v:=.bool false) rfl rfl rfl) (k:=aV (k:=I3 ?_))
   exact I8 λw hw=>rq_ r h hF hw
  have h:=bf hb57 h
  refine Ib (c0:=true) (g:=(z45.2.2 != 0)) rfl rfl rfl hb57 rfl ?_
  refine Ib (c0:=true) (g:=(z45.2.2 != 0)) rfl rfl rfl hb57 rfl ?_
  refine Ib (c0:=true) (g:=(z45.2.2 != 0)) rfl rfl rfl hb57 rfl ?_
  refine Ib (c0:=true) (g:=(z45.2.2 != 0)) rfl rfl rfl hb57 rfl ?_
  refine Ib (c0:=true) (g:=(z45.2.2 != 0)) rfl rfl rfl hb57 rfl ?_
  refine sV (ig (v:=.bool true) rfl rfl (s9 hb57) (by kernel_rfl)) (k:=I3 ?_)
  refine Im (b:=true) (by kernel_rfl) rfl ?_
  refine I4 (aV (k:=I3 ?_))
  exact I8 λw hw=>rq_ r h hF hw
 have h:=bf hb25 h
 refine Ib (c0:=true) (g:=((Option.isNone z10.2.1)||(z10.2.2 != 0))) rfl rfl rfl hb25 rfl ?_
 refine Ib (c0:=true) (g:=((Option.isNone z10.2.1)||(z10.2.2 != 0))) rfl rfl rfl hb25 rfl ?_
 refine Ib (c0:=true) (g:=((Option.isNone z10.2.1)||(z10.2.2 != 0))) rfl rfl rfl hb25 rfl ?_
 refine Ib (c0:=true) (g:=((Option.isNone z10.2.1)||(z10.2.2 != 0))) rfl rfl rfl hb25 rfl ?_
 refine Ib (c0:=true) (g:=((Option.isNone z10.2.1)||(z10.2.2 != 0))) rfl rfl rfl hb25 rfl ?_
 refine sV (ig (v:=.bool true) rfl rfl (s9 hb25) (by kernel_rfl)) (k:=mV (k:=?_))
 refine Ib (c0:=true) (g:=true) rfl rfl rfl (nott rfl) rfl ?_
 refine Ib (c0:=true) (g:=true) rfl rfl rfl (nott rfl) rfl ?_
 refine Ib (c0:=true) (g:=true) rfl rfl rfl (nott rfl) rfl ?_
 refine Ib (c0:=true) (g:=true) rfl rfl rfl (nott rfl) rfl ?_
 refine Ib (c0:=true) (g:=true) rfl rfl rfl (nott rfl) rfl ?_
 refine Ib (c0:=true) (g:=true) rfl rfl rfl (nott rfl) rfl ?_
 refine sV (rB (v:=.bool true) rfl rfl rfl) (k:=I3 ?_)
 refine Im (b:=true) (by kernel_rfl) rfl ?_
 refine I4 (aV (k:=I3 ?_))
 exact I8 λw hw=>rq_ r h hF hw
abbrev un(gd:Nat)(ed:Nat)(r:a8)(U:List Rowb)(Γ:Gh)(v:Value):Prop := ∃(rowd':Rowb),v = .tuple #[]∧U = [rowd']∧a8.ob ed Γ gd rowd' r∧True
theorem ue{gd ed:Nat}{rowd:Rowb}{d:a8}(hd:a8.ob ed Γ gd rowd d)(keep:Int)(hkeep:I64 keep)(torn:Int)(htorn:I64 torn)(hp:Pre [rowd] Γ w0){r:a8}(h:ie d keep torn=some r):Calls Tryz.prog 19 #[(pq gd),ii keep,ii torn] w0 (Outc Γ [rowd] w0 (un gd ed r)):=by
 refine goV [] func19 ntmps19 results19 hp λF hF=>?_
 refine I4 (mV (k:=sV wI (k:=mV (k:=sV nlV (k:=sV (q_fl 3 kS) (k:=?_))))))
 obtain⟨m1_1,r1_1,m2_1,r2_1,A3_1,c3_1,r3_1,hrow_1,ho0_1,ho1_1,ho2_1,ho3_1,-⟩:=id hd
 refine ufR 0 hrow_1 [_,_,_,_] ?_
 refine sV (ldV 0 isAgg78) (k:=sV (ag rfl Jg) (k:=sV Er (k:=aV (k:=I3 (I5 (I4 (mV (k:=?_))))))))
 refine sV nlV (k:=sV (q_fl 3 kS) (k:=sV (ldV 0 isAgg78) (k:=mV (k:=?_))))
 have hc6:=ho3_1.capz
 refine seR 3 [_,_,_,_] λΓ2 hl3 hr4=>?_
 have hs5:=ho3_1.sl hl3 hr4
 obtain⟨hk7,h⟩:=am h
 refine sV (qE (c:=c3_1) (hi:=(min (max keep 0) (d.loose.length:Int)).toNat) (xs:=d.loose) Jg Jj rfl rfl (fU rfl hk7) (bC hk7) hc6) (k:=sV (ag rfl Jg) (k:=mV (k:=I3 (Ia ?_))))
 refine Ie h (λ(i14:Nat) (m10:List (ByteArray×(List UInt8))) σ w => ∃(Γ8:Gh), ∃(row11:Rowb),slots σ [(0,(pq gd)),(1,ii (min (max keep 0) (d.loose.length:Int))),(2,ii torn),(23,.slice A3_1 (List.take ((min (max keep 0) (d.loose.length:Int)).toNat) d.loose).length c3_1),(24,ii (((List.take ((min (max keep 0) (d.loose.length:Int)).toNat) d.loose).length:Nat):Int)),(25,ii (i14:Int))]∧CC F Γ8 [[(gd,.cells #[ii d.room,.map (some m1_1),.map (some m2_1),.slice A3_1 d.loose.length c3_1] ed (0,0))],row11,r2_1] w∧Gh.le Γ2 Γ8∧MapO (strK IX) (slT av).v Γ8 row11 m1_1 m10∧True) ?_ ?_
 ·
  intro w hw
  exact⟨Γ2,r1_1,slK,(hw.on [0,0,0]),gR,(ho1_1.mono hl3),trivial⟩
 rintro f13 i14 m10 σ w hi15 hlt16 hge17 ⟨Γ8,row11,hsl,hw,hl9,ho12,-⟩
 refine slV hsl hw [_,_,_] ?_; clear hw hsl
 refine I4 (sV aG (k:=I3 (I5 ?_)))
 refine coV (λhb18=>?_) (λhb18=>?_)
 ·
  have hl19:=ilt hb18
  have h:=hlt16 hl19
  refine I7 (wc_ (I5 (Ia (I4 (sV (aN (i:=i14) Jg Jj rfl rfl rfl hl19 (((hs5.mono hl9).cut_to (hi:=(min (max keep 0) (d.loose.length:Int)).toNat) (bC hk7)).some_ hl19)) (k:=?_))))))
  obtain⟨A20,c21,A22,c23,hx24⟩:=((hs5.mono hl9).cut_to (hi:=(min (max keep 0) (d.loose.length:Int)).toNat) (bC hk7)).ddisk_changeT_at i14
  refine sV (jx (c:=0) (vs:=[(aq.val ((gt (List.take ((min (max keep 0) (d.loose.length:Int)).toNat) d.loose) i14).do_) A20 c21),.string (gt (List.take ((min (max keep 0) (d.loose.length:Int)).toNat) d.loose) i14).name,.slice A22 ((gt (List.take ((min (max keep 0) (d.loose.length:Int)).toNat) d.loose) i14).tail).length c23]) (hx24 hl19).2 rfl isAgg115 Jj rfl rfl rfl) (k:=?_)
  refine alV zeroValue115 λg25=>?_
  refine stV 0 (.agg #[(aq.val ((gt (List.take ((min (max keep 0) (d.loose.length:Int)).toNat) d.loose) i14).do_) A20 c21),.string (gt (List.take ((min (max keep 0) (d.loose.length:Int)).toNat) d.loose) i14).name,.slice A22 ((gt (List.take ((min (max keep 0) (d.loose.length:Int)).toNat) d.loose) i14).tail).length c23]) #[(aq.val ((gt (List.take ((min (max keep 0) (d.loose.length:Int)).toNat) d.loose) i14).do_) A20 c21),.string (gt (List.take ((min (max keep 0) (d.loose.length:Int)).toNat) d.loose) i14).name,.slice A22 ((gt (List.take ((min (max keep 0) (d.loose.length:Int)).toNat) d.loose) i14).tail).length c23] Jj (k:=I3 ?_)
  refine leV λh026=>?_
  refine dW (CC F Γ8 [[(g25,.cells #[(aq.val ((gt (List.take ((min (max keep 0) (d.loose.length:Int)).toNat) d.loose) i14).do_) A20 c21),.string (gt (List.take ((min (max keep 0) (d.loose.length:Int)).toNat) d.loose) i14).name,.slice A22 ((gt (List.take ((min (max keep 0) (d.loose.length:Int)).toNat) d.loose) i14).tail).length c23] 115 (0,0))],[(gd,.cells #[ii d.room,.map (some m1_1),.map (some m2_1),.slice A3_1 d.loose.length c3_1] ed (0,0))]]) (bo_ [0,0] gR h026) λk=>?_
  change WH _ _ _ _ (CC F Γ8 [_,_,_,_]) _ 7 _ _
  refine hV 0 k (q:=q_fl 0 xQ) (k:=hV 1 k (q:=ldV 0 isAgg113) (k:=hV 2 k (q:=moV) (k:=hV 3 k (q:=nlV) (k:=hV 4 k (q:=q_fl 1 tz) (k:=hV 5 k (q:=ldV 1 J0) (k:=wl_ 6 rfl ?_))))))
  obtain⟨z27,hz28,h⟩:=bnd h
  obtain⟨fd29,cp30,hv31,he32,hcl33⟩:=jj (x:=(gt (List.take ((min (max keep 0) (d.loose.length:Int)).toNat) d.loose) i14).do_) (hx24 hl19).1.1 ho12 hz28
  refine ecV [2] (gc (caps:=cp30) (args:=#[.map (some m1_1)]++cp30) he32 rfl (Eq.trans (b:=(aq.val ((gt (List.take ((min (max keep 0) (d.loose.length:Int)).toNat) d.loose) i14).do_) A20 c21)) (by kernel_rfl) hv31) (by kernel_rfl)) (λw hp=>(by exact hcl33 w hp)) ?_
  rintro Γ34 _ _ hl35 ⟨row38,rfl,rfl,hr39,_⟩
  refine cwV 35 [_,_,_,_] ?_
  refine I6 (nxV (bo_ [1,1] hl35 h026) λk=>?_)
  refine Ig (by kernel_rfl) ?_
  change WC _ _ _ _ _ _
  refine I9 ?_
  refine sV (aF rfl rfl rfl (aJ hl19 ((hs5.mono hl9).cut_to (hi:=(min (max keep 0) (d.loose.length:Int)).toNat) (bC hk7)).le)) (k:=mV (k:=?_))
  exact I6 λw hw=>⟨hl19,z27,h,Γ34,row38,slK,(hw.on [2,0,1]),(hl9.trans hl35),hr39,trivial⟩
 have h:=hge17 (ige hb18)
 refine Ic ?_
 change WC _ _ _ _ _ _
 refine Id (λσ w => ∃(m42:List (ByteArray×(List UInt8))), ∃(Γ40:Gh), ∃(row43:Rowb),fi d m42=some r∧slots σ [(0,(pq gd))]∧CC F Γ40 [[(gd,.cells #[ii d.room,.map (some m1_1),.map (some m2_1),.slice A3_1 d.loose.length c3_1] ed (0,0))],row43,r2_1] w∧Gh.le Γ8 Γ40∧MapO (strK IX) (slT av).v Γ40 row43 m1_1 m42∧True) ?_ ?_
 ·
  refine I4 (mV (k:=mV (k:=sV nlV (k:=sV (q_fl 3 kS) (k:=sV (ldV 0 isAgg78) (k:=sV (ag rfl Jg) (k:=sV aG (k:=?_))))))))
  refine I3 ?_
  refine ciV h (λhb45 h=>?_) (λhb45 h=>?_)
  ·
   refine I4 (mV (k:=sV nlV (k:=sV (q_fl 3 kS) (k:=sV (ldV 0 isAgg78) (k:=mV (k:=?_))))))
   obtain⟨hk46,h⟩:=am h
   refine sV (q_ix Jg Jj rfl rfl rfl hk46 ((hs5.mono hl9).some_ (bc hk46))) (k:=?_)
   obtain⟨A47,c48,A49,c50,hx51⟩:=(hs5.mono hl9).ddisk_changeT_at ((min (max keep 0) (d.loose.length:Int)).toNat)
   refine sV (jx (c:=0) (vs:=[(aq.val ((gt d.loose ((min (max keep 0) (d.loose.length:Int)).toNat)).do_) A47 c48),.string (gt d.loose ((min (max keep 0) (d.loose.length:Int)).toNat)).name,.slice A49 ((gt d.loose ((min (max keep 0) (d.loose.length:Int)).toNat)).tail).length c50]) (hx51 (bc hk46)).2 rfl isAgg115 Jj rfl rfl rfl) (k:=?_)
   refine alV zeroValue115 λg52=>?_
   refine stV 0 (.agg #[(aq.val ((gt d.loose ((min (max keep 0) (d.loose.length:Int)).toNat)).do_) A47 c48),.string (gt d.loose ((min (max keep 0) (d.loose.length:Int)).toNat)).name,.slice A49 ((gt d.loose ((min (max keep 0) (d.loose.length:Int)).toNat)).tail).length c50]) #[(aq.val ((gt d.loose ((min (max keep 0) (d.loose.length:Int)).toNat)).do_) A47 c48),.string (gt d.loose ((min (max keep 0) (d.loose.length:Int)).toNat)).name,.slice A49 ((gt d.loose ((min (max keep 0) (d.loose.length:Int)).toNat)).tail).length c50] Jj (k:=I3 (I4 (mV (k:=sV wI (k:=sV (q_fl 2 xH) (k:=sV (ldV 0 J9) (k:=sV (ag rfl IZ) (k:=?_))))))))
   refine sV Er (k:=aV (k:=I3 (I4 (mV (k:=sV bi (k:=I3 ?_))))))
   refine ciV h (λhb53 h=>?_) (λhb53 h=>?_)
   ·
    refine leV λh054=>?_
    refine dW (CC F Γ8 [[(g52,.cells #[(aq.val ((gt d.loose ((min (max keep 0) (d.loose.length:Int)).toNat)).do_) A47 c48),.string (gt d.loose ((min (max keep 0) (d.loose.length:Int)).toNat)).name,.slice A49 ((gt d.loose ((min (max keep 0) (d.loose.length:Int)).toNat)).tail).length c50] 115 (0,0))],[(gd,.cells #[ii d.room,.map (some m1_1),.map (some m2_1),.slice A3_1 d.loose.length c3_1] ed (0,0))]]) (bo_ [0,0] gR h054) λk=>?_
    change WH _ _ _ _ (CC F Γ8 [_,_,_,_]) _ 12 _ _
    refine hV 0 k (q:=q_fl 1 CO) (k:=hV 1 k (q:=ldV 0 IY) (k:=hV 2 k (q:=q_fl 2 xH) (k:=hV 3 k (q:=ldV 0 J9) (k:=hV 4 k (q:=moV) (k:=?_)))))
    obtain⟨hk55,h⟩:=am h
    refine hV 5 k (q:=qE (c:=c50) (hi:=(min (max torn 0) ((((gt d.loose ((min (max keep 0) (d.loose.length:Int)).toNat)).tail).length:Nat):Int)).toNat) (xs:=((gt d.loose ((min (max keep 0) (d.loose.length:Int)).toNat)).tail)) IZ J3 rfl rfl (fU rfl hk55) (bC hk55) (hx51 (bc hk46)).1.2.2.1) (k:=hV 7 k (q:=moV) (k:=hV 8 k (q:=nlV) (k:=hV 9 k (q:=q_fl 1 tz) (k:=hV 10 k (q:=ldV 1 J0) (k:=wl_ 6 rfl ?_)))))
    obtain⟨z56,hz57,h⟩:=bnd h
    refine ecV [] (caV call50) (λw hp=>w7 ((gt d.loose ((min (max keep 0) (d.loose.length:Int)).toNat)).name) (hx51 (bc hk46)).1.2.1 ((hx51 (bc hk46)).1.2.2.2.cut_to (hi:=(min (max torn 0) ((((gt d.loose ((min (max keep 0) (d.loose.length:Int)).toNat)).tail).length:Nat):Int)).toNat) (bC hk55)) (tJ (hx51 (bc hk46)).1.2.2.1 ((min (max torn 0) ((((gt d.loose ((min (max keep 0) (d.loose.length:Int)).toNat)).tail).length:Nat):Int)).toNat)) hp hz57) ?_
    rintro Γ58 _ _ hl59 ⟨A62,c63,rfl,rfl,hr64,_⟩
    refine cwV 65 [_,_,_,_] ?_
    refine I6 (nxV (bo_ [0,0] hl59 h054) λk=>?_)
    refine wl_ 11 rfl ?_
    obtain⟨z65,hz66,h⟩:=bnd h
    obtain⟨fd67,cp68,hv69,he70,hcl71⟩:=jj (x:=z56) hr64 (ho12.mono hl59) hz66
    refine ecV [2] (gc (caps:=cp68) (args:=#[.map (some m1_1)]++cp68) he70 rfl (Eq.trans (b:=(aq.val z56 A62 c63)) (by kernel_rfl) hv69) (by kernel_rfl)) (λw hp=>(by exact hcl71 w hp)) ?_
    rintro Γ72 _ _ hl73 ⟨row76,rfl,rfl,hr77,_⟩
    refine cwV 70 [_,_,_,_] ?_
    refine I6 (nxV (bo_ [1,1] (hl59.trans hl73) h054) λk=>?_)
    refine Ig (by kernel_rfl) ?_
    intro w hw
    exact⟨z65,Γ72,row76,h,slK,(hw.on [2,0,1]),(hl59.trans hl73),hr77,trivial⟩
   exact I7 λw hw=>⟨m10,Γ8,row11,h,slK,(hw.on [1,1,1]),gR,ho12,trivial⟩
  exact I7 λw hw=>⟨m10,Γ8,row11,h,slK,hw,gR,ho12,trivial⟩
 rintro σ w ⟨m42,Γ40,row43,h,hsl,hw,hl41,ho44,-⟩
 refine slV hsl hw [_,_,_] ?_; clear hw hsl
 refine I4 (mV (k:=mV (k:=sV nlV (k:=sV (q_fl 1 tz) (k:=sV (ldV 0 J0) (k:=?_))))))
 refine Cy BX (i:=1) rfl ho44 rfl rfl (caV call51) ?_
 intro g78 row79 hm80
 refine cwV 76 [_,_,_,_] (sV nlV (k:=sV (q_fl 2 n2) (k:=stV 1 (.map (some g78)) #[ii d.room,.map (some m1_1),.map (some g78),.slice A3_1 d.loose.length c3_1] sizeOf77 (k:=I3 ?_))))
 refine I9 ?_
 refine mV (k:=sV nlV (k:=sV (q_fl 3 kS) (k:=stV 1 (.slice none 0 0) #[ii d.room,.map (some m1_1),.map (some g78),.slice none 0 0] sizeOf78 (k:=?_))))
 refine I6 ?_
 intro w hw
 have hw:=hw.pad
 obtain⟨row_81,hrow_81,hob_81⟩:∃rw:Rowb,rw=([[(gd,.cells #[ii d.room,.map (some m1_1),.map (some g78),.slice none 0 0] ed (0,0))],row43,row79,[]]:List Rowb).flatten∧a8.ob ed Γ40 gd rw (⟨d.room,m42,m42,[]⟩:a8):=⟨_,rfl,m1_1,row43,g78,row79,none,0,[],rfl,ho0_1,ho44,hm80,(Own.nil iz Γ40 115),trivial⟩
 have hw:=hw.fold (is:=[2,2,1,0]) rfl hrow_81
 cases h
 subst hF
 exact aL (is:=[0]) (by kernel_rfl) hw rfl ⟨row_81,rfl,rfl,hob_81,trivial⟩
theorem tq{Aa:Option Addr}{ca:Nat}{a:List Span}(ha:Sl gS Γ Aa a)(hac:a.length≤ca){Ab:Option Addr}{cb:Nat}{b:List Span}(hb:Sl gS Γ Ab b)(hbc:b.length≤cb)(hs:Sat Γ w0){r:Bool}(h:jW a b=some r):CQ Tryz.prog 83 #[.slice Aa a.length ca,.slice Ab b.length cb] w0 (.bool r):=by
 refine goQ [4] func83 ntmps83 results83 hs λF hF=>?_
 refine I4 (aV (k:=I3 (I5 (I4 (mV (k:=sV (ag rfl JB) (k:=mV (k:=?_))))))))
 refine sV (ag rfl JB) (k:=sV bD (k:=I3 ?_))
 refine ciV h (λhb1 h=>?_) (λhb1 h=>?_)
 ·
  refine I4 (aV (k:=I3 ?_))
  exact I8 λw hw=>rq_ r h hF hw
 refine I7 (wc_ (I5 (I4 (aV (k:=I3 (Ia ?_))))))
 refine Ie h (λ(i3:Nat) (s:Unit) σ w=>match s with | ()=>slots σ [(0,.slice Aa a.length ca),(1,.slice Ab b.length cb),(5,ii (i3:Int))]∧CC F Γ [] w∧True) ?_ ?_
 ·
  intro w hw
  exact⟨slK,hw,trivial⟩
 rintro f2 i3 ⟨⟩ σ w hi4 hlt5 hge6 ⟨hsl,hw,-⟩
 refine slV hsl hw [] ?_; clear hw hsl
 refine I5 (I4 (mV (k:=mV (k:=sV (ag rfl JB) (k:=sV aG (k:=I3 ?_))))))
 refine coV (λhb7=>?_) (λhb7=>?_)
 ·
  have hl8:=ilt hb7
  have h:=hlt5 hl8
  refine I7 (wc_ (I5 (Ia (I5 ?_))))
  refine drV ?_
  refine zV moV (k:=zV moV (k:=zV (aN (i:=i3) JB Jr rfl rfl rfl hl8 (ha.some_ hl8)) (k:=zV (jx (c:=0) (vs:=(Span.cs (gt a i3))) (ha.spanT_at hl8).2 rfl Js Jr rfl rfl rfl) (k:=zV moV (k:=zV moV (k:=?_))))))
  obtain⟨hk9,h⟩:=am h
  refine zV (aN (i:=i3) JB Jr rfl rfl rfl (Ip hk9) (hb.some_ (Ip hk9))) (k:=zV (jx (c:=0) (vs:=(Span.cs (gt b i3))) (hb.spanT_at (Ip hk9)).2 rfl Js Jr rfl rfl rfl) (k:=zV (B4 (a:=(gt a i3)) (b:=(gt b i3)) rfl rfl rfl) (k:=?_)))
  refine Ij ?_
  change WC _ _ _ _ _ _
  refine ciV h (λhb10 h=>?_) (λhb10 h=>?_)
  ·
   refine I4 (aV (k:=I3 ?_))
   exact I8 λw hw=>rq_ r h hF hw
  refine I7 (wc_ ?_)
  refine I9 ?_
  refine mV (k:=sV (aF rfl rfl rfl (aJ hl8 ha.le)) (k:=aV (k:=?_)))
  exact I6 λw hw=>⟨hl8,(),h,slK,hw,trivial⟩
 have h:=hge6 (ige hb7)
 refine Ic ?_
 change WC _ _ _ _ _ _
 refine I4 (aV (k:=I3 ?_))
 exact I8 λw hw=>rq_ r h hF hw
theorem qG{Aa2:Option Addr}{ca2:Nat}(a:Ver)(ha:Ver.fits Γ Aa2 ca2 a){Ab2:Option Addr}{cb2:Nat}(b:Ver)(hb:Ver.fits Γ Ab2 cb2 b)(hs:Sat Γ w0){r:Bool}(h:iq a b=some r):CQ Tryz.prog 39 #[.agg (Ver.cs Aa2 ca2 a).toArray,.agg (Ver.cs Ab2 cb2 b).toArray] w0 (.bool r):=by
 refine goQ [4] func39 ntmps39 results39 hs λF hF=>?_
 refine I4 ?_
 refine bxV (v:=.agg (Ver.cs Aa2 ca2 a).toArray) λg1=>?_
 refine bxV (v:=.agg (Ver.cs Ab2 cb2 b).toArray) λg2=>?_
 refine aV (k:=I3 (I4 (sV (q_fl 0 bO) (k:=sV (ldaV 1 (Dot.cs a.dot) JF JG) (k:=sV (q_fl 0 bO) (k:=sV (ldaV 0 (Dot.cs b.dot) JF JG) (k:=sV (CL (a:=a.dot) (b:=b.dot) rfl rfl rfl) (k:=?_))))))))
 refine mV (k:=vG1 (h:=λhg3=>q_fl 3 jC) (k:=vG1 (h:=λhg4=>ldV 1 JD (hx:=grV hg4)) (k:=vG1 (h:=λhg5=>q_fl 3 jC) (k:=vG1 (h:=λhg6=>ldV 0 JD (hx:=grV hg6)) (k:=vG1 (h:=λhg7=>GN underlying4 rfl (grV hg7) (grV hg7)) (k:=sV pkA (k:=mV (k:=?_))))))))
 refine vG1 (h:=λhg8=>q_fl 4 jw) (k:=vG1 (h:=λhg9=>ldV 1 IY (hx:=grV hg9)) (k:=vG1 (h:=λhg10=>q_fl 4 jw) (k:=vG1 (h:=λhg11=>ldV 0 IY (hx:=grV hg11)) (k:=vG1 (h:=λhg12=>nH rfl (grV hg12) (grV hg12)) (k:=sV pkA (k:=mV (k:=vG1 (h:=λhg13=>q_fl 2 fI) (k:=?_))))))))
 refine vG1 (h:=λhg14=>ldV 1 JC (hx:=grV hg14)) (k:=vG1 (h:=λhg15=>q_fl 2 fI) (k:=vG1 (h:=λhg16=>ldV 0 JC (hx:=grV hg16)) (k:=?_)))
 obtain⟨z18,hz19,h⟩:=bnd h
 refine vC1 (h:=λhg17=>bK (bb call83 rfl rfl (jX (grV hg17) (grV hg17))) (λw hw=>tq (Γ:=Gh.all w) (ha.2.2.1.2.mono hw.sat.le_all) ha.2.2.1.1 (hb.2.2.1.2.mono hw.sat.le_all) hb.2.2.1.1 (Sat.all w) (jv hz19 hg17))) (k:=sV pkA (k:=aV (k:=I3 ?_)))
 exact I8 λw hw=>rq_ r h hF hw
theorem nW{Aa:Option Addr}{ca:Nat}{a:List Ver}(ha:Sl verT Γ Aa a)(hac:a.length≤ca){Ab:Option Addr}{cb:Nat}{b:List Ver}(hb:Sl verT Γ Ab b)(hbc:b.length≤cb)(hs:Sat Γ w0){r:Bool}(h:gZ a b=some r):CQ Tryz.prog 13 #[.slice Aa a.length ca,.slice Ab b.length cb] w0 (.bool r):=by
 refine goQ [4] func13 ntmps13 results13 hs λF hF=>?_
 refine I4 (aV (k:=I3 (I5 (I4 (mV (k:=sV (ag rfl JE) (k:=mV (k:=?_))))))))
 refine sV (ag rfl JE) (k:=sV bD (k:=I3 ?_))
 refine ciV h (λhb1 h=>?_) (λhb1 h=>?_)
 ·
  refine I4 (aV (k:=I3 ?_))
  exact I8 λw hw=>rq_ r h hF hw
 refine I7 (wc_ (I5 (I4 (aV (k:=I3 (Ia ?_))))))
 refine Ie h (λ(i3:Nat) (s:Unit) σ w=>match s with | ()=>slots σ [(0,.slice Aa a.length ca),(1,.slice Ab b.length cb),(5,ii (i3:Int))]∧CC F Γ [] w∧True) ?_ ?_
 ·
  intro w hw
  exact⟨slK,hw,trivial⟩
 rintro f2 i3 ⟨⟩ σ w hi4 hlt5 hge6 ⟨hsl,hw,-⟩
 refine slV hsl hw [] ?_; clear hw hsl
 refine I5 (I4 (mV (k:=mV (k:=sV (ag rfl JE) (k:=sV aG (k:=I3 ?_))))))
 refine coV (λhb7=>?_) (λhb7=>?_)
 ·
  have hl8:=ilt hb7
  have h:=hlt5 hl8
  refine I7 (wc_ (I5 (Ia (I5 ?_))))
  refine drV ?_
  refine zV moV (k:=zV moV (k:=zV (aN (i:=i3) JE Ju rfl rfl rfl hl8 (ha.some_ hl8)) (k:=?_)))
  obtain⟨A9,c10,hx11⟩:=ha.verT_at i3
  refine zV (jx (c:=0) (vs:=(Ver.cs A9 c10 (gt a i3))) (hx11 hl8).2 rfl Jx Ju rfl rfl rfl) (k:=zV moV (k:=zV moV (k:=?_)))
  obtain⟨hk12,h⟩:=am h
  refine zV (aN (i:=i3) JE Ju rfl rfl rfl (Ip hk12) (hb.some_ (Ip hk12))) (k:=?_)
  obtain⟨A13,c14,hx15⟩:=hb.verT_at i3
  refine zV (jx (c:=0) (vs:=(Ver.cs A13 c14 (gt b i3))) (hx15 (Ip hk12)).2 rfl Jx Ju rfl rfl rfl) (k:=?_)
  obtain⟨z16,hz17,h⟩:=bnd h
  refine wc rfl rfl rfl (bK (caV call39) (λw hw=>qG (Γ:=Gh.all w) (gt a i3) (Ver.fits_mono (hx11 hl8).1 hw.sat.le_all) (gt b i3) (Ver.fits_mono (hx15 (Ip hk12)).1 hw.sat.le_all) (Sat.all w) hz17)) (zV cY (k:=?_))
  refine Ij ?_
  change WC _ _ _ _ _ _
  refine ciV h (λhb18 h=>?_) (λhb18 h=>?_)
  ·
   refine I4 (aV (k:=I3 ?_))
   exact I8 λw hw=>rq_ r h hF hw
  refine I7 (wc_ ?_)
  refine I9 ?_
  refine mV (k:=sV (aF rfl rfl rfl (aJ hl8 ha.le)) (k:=aV (k:=?_)))
  exact I6 λw hw=>⟨hl8,(),h,slK,hw,trivial⟩
 have h:=hge6 (ige hb7)
 refine Ic ?_
 change WC _ _ _ _ _ _
 refine I4 (aV (k:=I3 ?_))
 exact I8 λw hw=>rq_ r h hF hw
end Fw
end Go.Proofs.YtmafjpdiplfcmaaGreat
