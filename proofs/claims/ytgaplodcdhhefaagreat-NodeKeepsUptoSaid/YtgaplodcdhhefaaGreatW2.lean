/- Walks through the functions that the law reaches (printed by a program). No condition. -/
import Derived.Test.YtgaplodcdhhefaaGreatW1
namespace Go.Proofs.YtgaplodcdhhefaaGreat
namespace Fw
set_option linter.unusedVariables false
set_option linter.unusedSimpArgs false
set_option linter.unusedSectionVars false
set_option maxRecDepth 100000
set_option maxHeartbeats 2000000
open Go.RowKit
open Go.Proofs.Tryz
variable {Γ:Gh} {w0:World}
abbrev mp(Bo:Gh)(gr_:Nat)(er_:Nat)(r:a7×Int)(U:List Rowb)(Γ:Gh)(v:Value):Prop := ∃(rowr_':Rowb),v = .int .i64 r.2∧U = [rowr_']∧a7.ob er_ Bo gr_ rowr_' r.1∧I64 r.2∧True
theorem eb{Bo:Gh}{gr_ er_:Nat}{rowr_:Rowb}{r_:a7}(hr_:a7.ob er_ Bo gr_ rowr_ r_)(hp:Pre [rowr_] Γ w0)(hpO:Pre [rowr_] Bo w0){r:Option (a7×Int)}(h:cR r_=some r):Calls Tryz.prog 152 #[(pq gr_)] w0 (jK [{ v:=(.iface 179 (.agg #[])),recovered:=false }] Γ [rowr_] w0 (λr=>mp Bo gr_ er_ r) r):=by
 refine goV [2] func152 ntmps152 results152 hp λF hF=>?_
 have hO:Lent F Bo:=hF▸Lent.start hpO
 refine Dx (aV (k:=Dw (Dx (mV (k:=?_)))))
 obtain⟨z1,hz2,h⟩:=bnd h
 rcases z1 with _ | o3
 ·
  have h:=bi rfl h
  refine cK (is:=[0]) rfl (caV EJ) rfl (λw hw hp=>av hr_ hp (hO.pre (is:=[0]) hw rfl) hz2) ?_
  intro Γ4 hl5
  intro w hw
  cases h
  subst hF
  first | exact aE hw | exact λ_=>aE hw
 have h:=bh rfl h
 refine cw (is:=[0]) rfl rfl (caV EJ) rfl (λw hw hp=>av hr_ hp (hO.pre (is:=[0]) hw rfl) hz2) ?_
 rintro Γ6 _ _ hl7 ⟨row10,rfl,rfl,hr11,hr12,_⟩
 refine cwV 4 [_] (aV (k:=Dw ?_))
 refine DB ?_
 intro w hw
 cases h
 subst hF
 exact aI (is:=[0]) (by kernel_rfl) hw rfl ⟨row10,rfl,rfl,hr11,hr12,trivial⟩
abbrev m8(Bo:Gh)(gr_:Nat)(er_:Nat)(r:a7×Span)(U:List Rowb)(Γ:Gh)(v:Value):Prop := ∃(rowr_':Rowb),v = .agg #[.int .i64 r.2.s,.int .i64 r.2.f,.int .i64 r.2.t]∧U = [rowr_']∧a7.ob er_ Bo gr_ rowr_' r.1∧Span.fits Γ  r.2∧True
theorem iL{Bo:Gh}{gr_ er_:Nat}{rowr_:Rowb}{r_:a7}(hr_:a7.ob er_ Bo gr_ rowr_ r_)(hp:Pre [rowr_] Γ w0)(hpO:Pre [rowr_] Bo w0){r:Option (a7×Span)}(h:dt r_=some r):Calls Tryz.prog 154 #[(pq gr_)] w0 (jK [{ v:=(.iface 179 (.agg #[])),recovered:=false }] Γ [rowr_] w0 (λr=>m8 Bo gr_ er_ r) r):=by
 refine cH (N:=24) (rs:=[.cell 2 78]) (args:=[(pq gr_)]) func154 rfl ntmps154 results154 rfl ?_
 obtain⟨F,hF⟩:∃F:Fm,F=⟨ids [rowr_],w0,Γ⟩:=⟨_,rfl⟩
 refine DN (C:=CC F Γ [rowr_]) ?_ (hF▸hp.start)
 have hO:Lent F Bo:=hF▸Lent.start hpO
 refine Dx ?_
 refine alV EK λg1=>?_
 refine Dw (Dx (mV (k:=?_)))
 obtain⟨z2,hz3,h⟩:=bnd h
 rcases z2 with _ | o4
 ·
  have h:=bi rfl h
  refine cK (is:=[1]) rfl (caV EL) rfl (λw hw hp=>eb hr_ hp (hO.pre (is:=[1]) hw rfl) hz3) ?_
  intro Γ5 hl6
  intro w hw
  cases h
  subst hF
  first | exact aE hw | exact λ_=>aE hw
 have h:=bh rfl h
 refine cw (is:=[1]) rfl rfl (caV EL) rfl (λw hw hp=>eb hr_ hp (hO.pre (is:=[1]) hw rfl) hz3) ?_
 rintro Γ7 _ _ hl8 ⟨row11,rfl,rfl,hr12,hr13,_⟩
 refine cwV 5 [_,_] (sV (aA (v:=.agg #[ii o4.2,ii 0,ii 0]) rfl (iy rfl) (λw=>by kernel_rfl)) (k:=?_))
 refine alV EK λg14=>?_
 refine stV 0 (.agg #[ii o4.2,ii 0,ii 0]) #[ii o4.2,ii 0,ii 0] EM (k:=Dw (Dx (mV (k:=?_))))
 obtain⟨z15,hz16,h⟩:=bnd h
 rcases z15 with _ | o17
 ·
  have h:=bi rfl h
  refine cK (is:=[1]) rfl (caV EJ) rfl (λw hw hp=>av hr12 hp (hO.pre (is:=[1]) hw rfl) hz16) ?_
  intro Γ18 hl19
  intro w hw
  cases h
  subst hF
  first | exact aE hw | exact λ_=>aE hw
 have h:=bh rfl h
 refine cw (is:=[1]) rfl rfl (caV EJ) rfl (λw hw hp=>av hr12 hp (hO.pre (is:=[1]) hw rfl) hz16) ?_
 rintro Γ20 _ _ hl21 ⟨row24,rfl,rfl,hr25,hr26,_⟩
 refine cwV 8 [_,_,_] (sV (q_fl 1 cB) (k:=stV 1 (ii o17.2) #[ii o4.2,ii o17.2,ii 0] EG (k:=Dw ?_)))
 refine DL (λσ w => ∃(x29:Span), ∃(o31:a7), ∃(Γ27:Gh), ∃(row32:Rowb),dG x29 o31=some r∧slots σ [(2,(pq g1)),(3,(pq g14))]∧CC F Γ27 [row32,[(g14,.cells (Span.cs x29).toArray 78 (0,0))],[(g1,.cells #[ii 0,ii 0,ii 0] 78 (0,0))]] w∧Gh.le Γ20 Γ27∧Span.fits Γ27  x29∧a7.ob er_ Bo gr_ row32 o31∧True) ?_ ?_
 ·
  refine leV λh034=>?_
  refine db (CC F Γ20 [[(g1,.cells #[ii 0,ii 0,ii 0] 78 (0,0))]]) (bo_ [2] gR h034) λk=>?_
  change WH _ _ _ _ (CC F Γ20 [_,_,_]) _ 7 _ _
  refine hV 0 k (q:=q_fl 1 cB) (k:=hV 2 k (q:=moV) (k:=?_))
  obtain⟨z35,hz36,h⟩:=bnd h
  refine WH.each (l:=[1,3]) (by kernel_rfl) (by simp) ?_
  intro i hi; simp only [DX,List.not_mem_nil,or_false] at hi
  rcases hi with rfl | rfl
  ·
   refine⟨_,rfl,?_⟩
   refine sV (ldV 1 EH) (k:=?_)
   refine Dz (nxV (bo_ [2] gR h034) λk=>?_)
   refine wl_ 3 rfl ?_
   rcases z35 with _ | o37
   ·
    have h:=bi rfl h
    refine cK (is:=[0]) rfl (caV EJ) rfl (λw hw hp=>av hr25 hp (hO.pre (is:=[0]) hw rfl) hz36) ?_
    intro Γ38 hl39
    intro w hw
    cases h
    subst hF
    first | exact aE hw | exact λ_=>aE hw
   have h:=bh rfl h
   refine cw (is:=[0]) rfl rfl (caV EJ) rfl (λw hw hp=>av hr25 hp (hO.pre (is:=[0]) hw rfl) hz36) ?_
   rintro Γ40 _ _ hl41 ⟨row44,rfl,rfl,hr45,hr46,_⟩
   refine cwV 13 [_,_,_] ?_
   refine Dz (nxV (bo_ [2] hl41 h034) λk=>?_)
   refine hV 4 k (q:=bN) (k:=hV 5 k (q:=q_fl 2 bK) (k:=wl_ 6 rfl (stV 1 (ii (w64 (o17.2+o37.2))) #[ii o4.2,ii o17.2,ii (w64 (o17.2+o37.2))] EG (k:=?_))))
   refine Dz (nxV (bo_ [2] hl41 h034) λk=>?_)
   refine DH (by kernel_rfl) ?_
   intro w hw
   exact⟨(⟨o4.2,o17.2,(w64 (o17.2+o37.2))⟩:Span),o37.1,Γ40,row44,h,slK,hw,hl41,⟨hr13,hr26,(ep _)⟩,hr45,trivial⟩
  refine⟨_,rfl,?_⟩
  rcases z35 with _ | o37
  ·
   have h:=bi rfl h
   refine cK (is:=[0]) rfl (caV EJ) rfl (λw hw hp=>av hr25 hp (hO.pre (is:=[0]) hw rfl) hz36) ?_
   intro Γ38 hl39
   intro w hw
   cases h
   subst hF
   first | exact aE hw | exact λ_=>aE hw
  have h:=bh rfl h
  refine cw (is:=[0]) rfl rfl (caV EJ) rfl (λw hw hp=>av hr25 hp (hO.pre (is:=[0]) hw rfl) hz36) ?_
  rintro Γ40 _ _ hl41 ⟨row44,rfl,rfl,hr45,hr46,_⟩
  refine cwV 13 [_,_,_] ?_
  refine Dz (nxV (bo_ [2] hl41 h034) λk=>?_)
  refine wl_ 1 rfl (sV (ldV 1 EH) (k:=?_))
  refine Dz (nxV (bo_ [2] hl41 h034) λk=>?_)
  refine hV 4 k (q:=bN) (k:=hV 5 k (q:=q_fl 2 bK) (k:=wl_ 6 rfl (stV 1 (ii (w64 (o17.2+o37.2))) #[ii o4.2,ii o17.2,ii (w64 (o17.2+o37.2))] EG (k:=?_))))
  refine Dz (nxV (bo_ [2] hl41 h034) λk=>?_)
  refine DH (by kernel_rfl) ?_
  intro w hw
  exact⟨(⟨o4.2,o17.2,(w64 (o17.2+o37.2))⟩:Span),o37.1,Γ40,row44,h,slK,hw,hl41,⟨hr13,hr26,(ep _)⟩,hr45,trivial⟩
 rintro σ w ⟨x29,o31,Γ27,row32,h,hsl,hw,hl28,hf30,ho33,-⟩
 refine slV hsl hw [_,_,_] ?_; clear hw hsl
 refine DL (λσ w=>dF x29 o31  = some r∧slots σ [(2,(pq g1)),(3,(pq g14))]∧CC F Γ27 [row32,[(g14,.cells (Span.cs x29).toArray 78 (0,0))],[(g1,.cells #[ii 0,ii 0,ii 0] 78 (0,0))]] w∧True) ?_ ?_
 ·
  refine Dx (sV (q_fl 2 bK) (k:=sV (ldV 1 EH) (k:=sV (q_fl 1 cB) (k:=sV (ldV 1 EH) (k:=sV aw (k:=Dw ?_))))))
  refine ciV h (λhb47 h=>?_) (λhb47 h=>?_)
  ·
   refine DA ?_
   refine sV (dH (v:=.agg #[]) rfl (λw=>by kernel_rfl)) (k:=sV (fQ rfl rfl (λw=>mkif EI w)) (k:=?_))
   refine fK (v:=.iface 179 (.agg #[])) rfl (bC rfl rfl) ?_
   intro w hw
   cases h
   subst hF
   first | exact aE hw | exact λ_=>aE hw
  exact DC λw hw=>⟨h,slK,hw,trivial⟩
 rintro σ w ⟨h,hsl,hw,-⟩
 refine slV hsl hw [_,_,_] ?_; clear hw hsl
 refine Dx (sV (ldaV 1 (Span.cs x29) EN EM) (k:=stV 2 (.agg (Span.cs x29).toArray) (Span.cs x29).toArray EM (k:=Dw ?_)))
 refine DB ?_
 intro w hw
 cases h
 subst hF
 exact⟨[.agg (Span.cs x29).toArray],(dL (i:=2) (us:=(Span.cs x29)) hw rfl EN EM (by kernel_rfl) rfl dK),aI (is:=[0]) (by kernel_rfl) hw rfl ⟨row32,rfl,rfl,ho33,hf30,trivial⟩⟩
abbrev kW(Bo:Gh)(gr_:Nat)(er_:Nat)(r:a7×(List Span))(U:List Rowb)(Γ:Gh)(v:Value):Prop := ∃(rowr_':Rowb), ∃(A0:Option Addr), ∃(c0:Nat), ∃(row0:Rowb),v = .slice A0 r.2.length c0∧U = [rowr_',row0]∧a7.ob er_ Bo gr_ rowr_' r.1∧Own bW Γ 78 row0 A0 c0 r.2∧True
theorem hX{Bo:Gh}{gr_ er_:Nat}{rowr_:Rowb}{r_:a7}(hr_:a7.ob er_ Bo gr_ rowr_ r_)(hp:Pre [rowr_] Γ w0)(hpO:Pre [rowr_] Bo w0){r:Option (a7×(List Span))}(h:cL r_=some r):Calls Tryz.prog 153 #[(pq gr_),.func (.func 154) #[(pq gr_)] #[]] w0 (jK [{ v:=(.iface 179 (.agg #[])),recovered:=false }] Γ [rowr_] w0 (λr=>kW Bo gr_ er_ r) r):=by
 refine goV [4] func153 ntmps153 results153 hp λF hF=>?_
 have hO:Lent F Bo:=hF▸Lent.start hpO
 refine Dx (aV (k:=Dw (Dx (mV (k:=?_)))))
 obtain⟨z1,hz2,h⟩:=bnd h
 rcases z1 with _ | o3
 ·
  have h:=bi rfl h
  refine cK (is:=[0]) rfl (caV EJ) rfl (λw hw hp=>av hr_ hp (hO.pre (is:=[0]) hw rfl) hz2) ?_
  intro Γ4 hl5
  intro w hw
  cases h
  subst hF
  first | exact aE hw | exact λ_=>aE hw
 have h:=bh rfl h
 refine cw (is:=[0]) rfl rfl (caV EJ) rfl (λw hw hp=>av hr_ hp (hO.pre (is:=[0]) hw rfl) hz2) ?_
 rintro Γ6 _ _ hl7 ⟨row10,rfl,rfl,hr11,hr12,_⟩
 refine cwV 8 [_] (aV (k:=Dw ?_))
 refine DL (λσ w=>cV o3  = some r∧slots σ [(1,.func (.func 154) #[(pq gr_)] #[]),(5,ii o3.2)]∧CC F Γ6 [row10] w∧True) ?_ ?_
 ·
  refine Dy ?_
  obtain⟨A0_13,c0_13,hrow_13,ho0_13,ho1_13,ho2_13,-⟩:=id hr11
  refine ufC 0 hrow_13 [_] ?_
  refine drV ?_
  refine zV moV (k:=zV moV (k:=zV nlV (k:=zV (q_fl 0 fC) (k:=zV (ldV 0 Ex) (k:=zV (ab rfl Eo) (k:=zV moV (k:=zV nlV (k:=?_))))))))
  refine zV (q_fl 1 cU) (k:=zV (ldV 0 Ez) (k:=zV iK (k:=zV bx (k:=?_))))
  refine DJ ?_
  change WC _ _ _ _ _ _
  refine ciV h (λhb14 h=>?_) (λhb14 h=>?_)
  ·
   refine DA ?_
   refine sV (dH (v:=.agg #[]) rfl (λw=>by kernel_rfl)) (k:=sV (fQ rfl rfl (λw=>mkif EI w)) (k:=?_))
   refine fK (v:=.iface 179 (.agg #[])) rfl (bC rfl rfl) ?_
   intro w hw
   cases h
   subst hF
   first | exact aE hw | exact λ_=>aE hw
  refine DC ?_
  intro w hw
  have hw:=hw.fold (is:=[0]) rfl hrow_13
  exact⟨h,slK,hw,trivial⟩
 rintro σ w ⟨h,hsl,hw,-⟩
 refine slV hsl hw [_] ?_; clear hw hsl
 refine Dx (aV (k:=Dw (Dy (Dx (mV (k:=mV (k:=Dw ?_)))))))
 refine DD ?_
 refine WC.forU h (λ(i29:Nat) (s:(List Span)×a7) σ w=>match s with | (out_20,o25) => ∃(Γ18:Gh), ∃(A21:Option Addr), ∃(c22:Nat), ∃(row23:Rowb), ∃(row26:Rowb),slots σ [(1,.func (.func 154) #[(pq gr_)] #[]),(6,.slice A21 out_20.length c22),(23,ii o3.2),(24,ii (i29:Int))]∧CC F Γ18 [row23,row26] w∧Gh.le Γ6 Γ18∧Own bW Γ18 78 row23 A21 c22 out_20∧a7.ob er_ Bo gr_ row26 o25∧True) ?_ ?_
 ·
  intro w hw
  have hw:=hw.pad
  exact⟨Γ6,none,0,[],row10,slK,hw,gR,(Own.nil bW _ 78),hr11,trivial⟩
 rintro f28 i29 ⟨out_20,o25⟩ σ w hi30 hlt31 hge32 ⟨Γ18,A21,c22,row23,row26,hsl,hw,hl19,ho24,ho27,-⟩
 refine slV hsl hw [_,_] ?_; clear hw hsl
 refine Dx (sV aw (k:=Dw (Dy ?_)))
 refine coV (λhb33=>?_) (λhb33=>?_)
 ·
  have hl34:=ilti hb33
  have h:=hlt31 hl34
  refine DC (wc_ (Dy (DD ?_)))
  refine DA ?_
  refine mV (k:=mU (v:=.func (.func 154) #[(pq gr_)] #[]) (k:=?_))
  obtain⟨z35,hz36,h⟩:=bnd h
  rcases z35 with _ | o37
  ·
   have h:=bi rfl h
   refine cK (is:=[1]) rfl (bp (first:=#[(pq gr_)]) call154 rfl (by kernel_rfl) (by kernel_rfl)) rfl (λw hw hp=>iL ho27 hp (hO.pre (is:=[1]) hw rfl) hz36) ?_
   intro Γ38 hl39
   intro w hw
   cases h
   subst hF
   first | exact aE hw | exact λ_=>aE hw
  have h:=bh rfl h
  refine cw (is:=[1]) rfl rfl (bp (first:=#[(pq gr_)]) call154 rfl (by kernel_rfl) (by kernel_rfl)) rfl (λw hw hp=>iL ho27 hp (hO.pre (is:=[1]) hw rfl) hz36) ?_
  rintro Γ40 _ _ hl41 ⟨row44,rfl,rfl,hr45,hr46,_⟩
  refine cwV 28 [_,_] ?_
  refine bsV (Span.cs o37.2).toArray 78 λg47=>?_
  obtain⟨hk48,h⟩:=af h
  refine apV 2 [o37.2] lx (ho24.mono hl41) (DP hk48) (λw hw=>br (i:=0) rfl (by exact⟨rfl,hr46⟩) hw) ?_
  intro row49 A50 c51 ho52
  refine aV (k:=?_)
  refine Dz ?_
  change WC _ _ _ _ _ _
  refine DA ?_
  refine sV (am rfl rfl rfl (pi hl34 hr12)) (k:=mV (k:=?_))
  exact Dz λw hw=>⟨hl34,((out_20++[o37.2]),o37.1),h,Γ40,A50,c51,row49,row44,slK,(hw.on [2,1]),(hl19.trans hl41),ho52,hr45,trivial⟩
 have h:=hge32 (igei hb33)
 refine DE ?_
 change WC _ _ _ _ _ _
 refine Dx (mV (k:=aV (k:=Dw ?_)))
 refine DB ?_
 intro w hw
 cases h
 subst hF
 exact aI (is:=[1,0]) (by kernel_rfl) hw rfl ⟨row26,A21,c22,row23,rfl,rfl,ho27,ho24,trivial⟩
abbrev nh(Bo:Gh)(gr_:Nat)(er_:Nat)(r:a7×Ver)(U:List Rowb)(Γ:Gh)(v:Value):Prop := ∃(rowr_':Rowb), ∃(A0_2:Option Addr), ∃(c0_2:Nat),v = .agg #[.int .i64 r.2.dot.s,.int .i64 r.2.dot.n,.slice A0_2 r.2.past.length c0_2,.bool r.2.gone,.string r.2.val]∧U = [rowr_']∧a7.ob er_ Bo gr_ rowr_' r.1∧Ver.fits Γ A0_2 c0_2 r.2∧True
theorem jp{Bo:Gh}{gr_ er_:Nat}{rowr_:Rowb}{r_:a7}(hr_:a7.ob er_ Bo gr_ rowr_ r_)(hp:Pre [rowr_] Γ w0)(hpO:Pre [rowr_] Bo w0){r:Option (a7×Ver)}(h:e7 r_=some r):Calls Tryz.prog 113 #[(pq gr_)] w0 (jK [{ v:=(.iface 179 (.agg #[])),recovered:=false }] Γ [rowr_] w0 (λr=>nh Bo gr_ er_ r) r):=by
 refine cH (N:=30) (rs:=[.cell 2 72]) (args:=[(pq gr_)]) func113 rfl ntmps113 results113 rfl ?_
 obtain⟨F,hF⟩:∃F:Fm,F=⟨ids [rowr_],w0,Γ⟩:=⟨_,rfl⟩
 refine DN (C:=CC F Γ [rowr_]) ?_ (hF▸hp.start)
 have hO:Lent F Bo:=hF▸Lent.start hpO
 refine Dx ?_
 refine alV EO λg1=>?_
 refine Dw (Dx (mV (k:=?_)))
 obtain⟨z2,hz3,h⟩:=bnd h
 rcases z2 with _ | o4
 ·
  have h:=bi rfl h
  refine cK (is:=[1]) rfl (caV EL) rfl (λw hw hp=>eb hr_ hp (hO.pre (is:=[1]) hw rfl) hz3) ?_
  intro Γ5 hl6
  intro w hw
  cases h
  subst hF
  first | exact aE hw | exact λ_=>aE hw
 have h:=bh rfl h
 refine cw (is:=[1]) rfl rfl (caV EL) rfl (λw hw hp=>eb hr_ hp (hO.pre (is:=[1]) hw rfl) hz3) ?_
 rintro Γ7 _ _ hl8 ⟨row11,rfl,rfl,hr12,hr13,_⟩
 refine cwV 5 [_,_] (sV (aA (v:=.agg #[ii o4.2,ii 0]) rfl (iy rfl) (λw=>by kernel_rfl)) (k:=sV (aA (v:=.agg #[ii o4.2,ii 0,.slice none 0 0,.bool false,.string ByteArray.empty]) rfl (iy rfl) (λw=>by kernel_rfl)) (k:=?_)))
 refine alV EO λg14=>?_
 refine stV 0 (.agg #[ii o4.2,ii 0,.slice none 0 0,.bool false,.string ByteArray.empty]) #[ii o4.2,ii 0,.slice none 0 0,.bool false,.string ByteArray.empty] EP (k:=Dw (Dx (mV (k:=?_))))
 obtain⟨z15,hz16,h⟩:=bnd h
 rcases z15 with _ | o17
 ·
  have h:=bi rfl h
  refine cK (is:=[1]) rfl (caV EJ) rfl (λw hw hp=>av hr12 hp (hO.pre (is:=[1]) hw rfl) hz16) ?_
  intro Γ18 hl19
  intro w hw
  cases h
  subst hF
  first | exact aE hw | exact λ_=>aE hw
 have h:=bh rfl h
 refine cw (is:=[1]) rfl rfl (caV EJ) rfl (λw hw hp=>av hr12 hp (hO.pre (is:=[1]) hw rfl) hz16) ?_
 rintro Γ20 _ _ hl21 ⟨row24,rfl,rfl,hr25,hr26,_⟩
 refine cwV 9 [_,_,_] (sV (q_fl 0 aG) (k:=sV (q_fl 1 cy) (k:=stV 1 (ii o17.2) #[ii o4.2,ii o17.2,.slice none 0 0,.bool false,.string ByteArray.empty] EG (k:=Dw (Dx (mV (k:=mV (k:=?_))))))))
 refine sV (bQ (v:=.func (.func 154) #[(pq gr_)] #[]) rfl (by kernel_rfl)) (k:=?_)
 obtain⟨z27,hz28,h⟩:=bnd h
 rcases z27 with _ | o29
 ·
  have h:=bi rfl h
  refine cK (is:=[0]) rfl (caV call153) rfl (λw hw hp=>hX hr25 hp (hO.pre (is:=[0]) hw rfl) hz28) ?_
  intro Γ30 hl31
  intro w hw
  cases h
  subst hF
  first | exact aE hw | exact λ_=>aE hw
 have h:=bh rfl h
 refine cw (is:=[0]) rfl rfl (caV call153) rfl (λw hw hp=>hX hr25 hp (hO.pre (is:=[0]) hw rfl) hz28) ?_
 rintro Γ32 _ _ hl33 ⟨row36,A38,c39,row40,rfl,rfl,hr37,hr41,_⟩
 refine cwV 15 [_,_,_,_] (sV (q_fl 2 aN) (k:=stV 2 (.slice A38 o29.2.length c39) #[ii o4.2,ii o17.2,.slice A38 o29.2.length c39,.bool false,.string ByteArray.empty] EQ (k:=Dw ?_)))
 refine DL (λσ w => ∃(x44:Bool), ∃(x45:ByteArray), ∃(o47:a7), ∃(Γ42:Gh), ∃(row48:Rowb),cP o4 o17 o29 x44 x45 o47=some r∧slots σ [(2,(pq g1)),(3,(pq g14))]∧CC F Γ42 [row48,row40,[(g14,.cells #[ii o4.2,ii o17.2,.slice A38 o29.2.length c39,.bool x44,.string x45] 72 (0,0))],[(g1,.cells #[ii 0,ii 0,.slice none 0 0,.bool false,.string ByteArray.empty] 72 (0,0))]] w∧Gh.le Γ32 Γ42∧x45.size≤lim∧a7.ob er_ Bo gr_ row48 o47∧True) ?_ ?_
 ·
  refine Dx (mV (k:=?_))
  obtain⟨z50,hz51,h⟩:=bnd h
  rcases z50 with _ | o52
  ·
   have h:=bi rfl h
   refine cK (is:=[0]) rfl (caV EJ) rfl (λw hw hp=>av hr37 hp (hO.pre (is:=[0]) hw rfl) hz51) ?_
   intro Γ53 hl54
   intro w hw
   cases h
   subst hF
   first | exact aE hw | exact λ_=>aE hw
  have h:=bh rfl h
  refine cw (is:=[0]) rfl rfl (caV EJ) rfl (λw hw hp=>av hr37 hp (hO.pre (is:=[0]) hw rfl) hz51) ?_
  rintro Γ55 _ _ hl56 ⟨row59,rfl,rfl,hr60,hr61,_⟩
  refine cwV 18 [_,_,_,_] (Dw (DD (Dx (sV cW (k:=aV (k:=Dw ?_))))))
  refine ciV h (λhb62 h=>?_) (λhb62 h=>?_)
  ·
   refine DA ?_
   refine mV (k:=?_)
   obtain⟨z63,hz64,h⟩:=bnd h
   rcases z63 with _ | o65
   ·
    have h:=bi rfl h
    refine cK (is:=[0]) rfl (caV ER) rfl (λw hw hp=>dw hr60 hp (hO.pre (is:=[0]) hw rfl) hz64) ?_
    intro Γ66 hl67
    intro w hw
    cases h
    subst hF
    first | exact aE hw | exact λ_=>aE hw
   have h:=bh rfl h
   refine cw (is:=[0]) rfl rfl (caV ER) rfl (λw hw hp=>dw hr60 hp (hO.pre (is:=[0]) hw rfl) hz64) ?_
   rintro Γ68 _ _ hl69 ⟨row72,rfl,rfl,hr73,hr74,_⟩
   refine cwV 24 [_,_,_,_] (sV (q_fl 4 ec) (k:=stV 2 (.string o65.2) #[ii o4.2,ii o17.2,.slice A38 o29.2.length c39,.bool false,.string o65.2] EF (k:=?_)))
   exact Dz λw hw=>⟨false,o65.2,o65.1,Γ68,row72,h,slK,hw,(hl56.trans hl69),hr74,hr73,trivial⟩
  refine Dx (sV cW (k:=aV (k:=Dw ?_)))
  refine ciV h (λhb75 h=>?_) (λhb75 h=>?_)
  ·
   refine DA ?_
   refine sV (q_fl 3 gF) (k:=stV 2 (.bool true) #[ii o4.2,ii o17.2,.slice A38 o29.2.length c39,.bool true,.string ByteArray.empty] sizeOf4 (k:=?_))
   exact Dz λw hw=>⟨true,ByteArray.empty,o52.1,Γ55,row59,h,slK,hw,hl56,(show (ByteArray.empty:ByteArray).size≤lim by decide),hr60,trivial⟩
  refine DA ?_
  refine sV (dH (v:=.agg #[]) rfl (λw=>by kernel_rfl)) (k:=sV (fQ rfl rfl (λw=>mkif EI w)) (k:=?_))
  refine fK (v:=.iface 179 (.agg #[])) rfl (bC rfl rfl) ?_
  intro w hw
  cases h
  subst hF
  first | exact aE hw | exact λ_=>aE hw
 rintro σ w ⟨x44,x45,o47,Γ42,row48,h,hsl,hw,hl43,hr46,ho49,-⟩
 refine slV hsl hw [_,_,_,_] ?_; clear hw hsl
 refine Dx (sV (ldaV 2 [ii o4.2,ii o17.2,.slice A38 o29.2.length c39,.bool x44,.string x45] ES EP) (k:=stV 3 (.agg #[ii o4.2,ii o17.2,.slice A38 o29.2.length c39,.bool x44,.string x45]) #[ii o4.2,ii o17.2,.slice A38 o29.2.length c39,.bool x44,.string x45] EP (k:=Dw ?_)))
 refine DB ?_
 intro w hw
 have hc82:=(hr41.mono hl43).capz
 obtain⟨Γ78,hw,hl79,hr80⟩:=hw.seal (i:=1) rfl; have hs81:=(hr41.mono hl43).sl hl79 hr80
 cases h
 subst hF
 exact⟨[.agg #[ii o4.2,ii o17.2,.slice A38 o29.2.length c39,.bool x44,.string x45]],(dL (i:=3) (us:=[ii o4.2,ii o17.2,.slice A38 o29.2.length c39,.bool x44,.string x45]) hw rfl ES EP (by kernel_rfl) rfl dK),aI (is:=[0]) (by kernel_rfl) hw rfl ⟨row48,A38,c39,rfl,rfl,ho49,⟨hr13,hr26,⟨hc82,hs81⟩,hr46⟩,trivial⟩⟩
abbrev lF(Bo:Gh)(gr_:Nat)(er_:Nat)(r:a7×(List Ver))(U:List Rowb)(Γ:Gh)(v:Value):Prop := ∃(rowr_':Rowb), ∃(A0:Option Addr), ∃(c0:Nat), ∃(row0:Rowb),v = .slice A0 r.2.length c0∧U = [rowr_',row0]∧a7.ob er_ Bo gr_ rowr_' r.1∧Own verT Γ 72 row0 A0 c0 r.2∧True
theorem io{Bo:Gh}{gr_ er_:Nat}{rowr_:Rowb}{r_:a7}(hr_:a7.ob er_ Bo gr_ rowr_ r_)(hp:Pre [rowr_] Γ w0)(hpO:Pre [rowr_] Bo w0){r:Option (a7×(List Ver))}(h:d4 r_=some r):Calls Tryz.prog 112 #[(pq gr_),.func (.func 113) #[(pq gr_)] #[]] w0 (jK [{ v:=(.iface 179 (.agg #[])),recovered:=false }] Γ [rowr_] w0 (λr=>lF Bo gr_ er_ r) r):=by
 refine goV [4] func112 ntmps112 results112 hp λF hF=>?_
 have hO:Lent F Bo:=hF▸Lent.start hpO
 refine Dx (aV (k:=Dw (Dx (mV (k:=?_)))))
 obtain⟨z1,hz2,h⟩:=bnd h
 rcases z1 with _ | o3
 ·
  have h:=bi rfl h
  refine cK (is:=[0]) rfl (caV EJ) rfl (λw hw hp=>av hr_ hp (hO.pre (is:=[0]) hw rfl) hz2) ?_
  intro Γ4 hl5
  intro w hw
  cases h
  subst hF
  first | exact aE hw | exact λ_=>aE hw
 have h:=bh rfl h
 refine cw (is:=[0]) rfl rfl (caV EJ) rfl (λw hw hp=>av hr_ hp (hO.pre (is:=[0]) hw rfl) hz2) ?_
 rintro Γ6 _ _ hl7 ⟨row10,rfl,rfl,hr11,hr12,_⟩
 refine cwV 8 [_] (aV (k:=Dw ?_))
 refine DL (λσ w=>d8 o3  = some r∧slots σ [(1,.func (.func 113) #[(pq gr_)] #[]),(5,ii o3.2)]∧CC F Γ6 [row10] w∧True) ?_ ?_
 ·
  refine Dy ?_
  obtain⟨A0_13,c0_13,hrow_13,ho0_13,ho1_13,ho2_13,-⟩:=id hr11
  refine ufC 0 hrow_13 [_] ?_
  refine drV ?_
  refine zV moV (k:=zV moV (k:=zV nlV (k:=zV (q_fl 0 fC) (k:=zV (ldV 0 Ex) (k:=zV (ab rfl Eo) (k:=zV moV (k:=zV nlV (k:=?_))))))))
  refine zV (q_fl 1 cU) (k:=zV (ldV 0 Ez) (k:=zV iK (k:=zV bx (k:=?_))))
  refine DJ ?_
  change WC _ _ _ _ _ _
  refine ciV h (λhb14 h=>?_) (λhb14 h=>?_)
  ·
   refine DA ?_
   refine sV (dH (v:=.agg #[]) rfl (λw=>by kernel_rfl)) (k:=sV (fQ rfl rfl (λw=>mkif EI w)) (k:=?_))
   refine fK (v:=.iface 179 (.agg #[])) rfl (bC rfl rfl) ?_
   intro w hw
   cases h
   subst hF
   first | exact aE hw | exact λ_=>aE hw
  refine DC ?_
  intro w hw
  have hw:=hw.fold (is:=[0]) rfl hrow_13
  exact⟨h,slK,hw,trivial⟩
 rintro σ w ⟨h,hsl,hw,-⟩
 refine slV hsl hw [_] ?_; clear hw hsl
 refine Dx (aV (k:=Dw (Dy (Dx (mV (k:=mV (k:=Dw ?_)))))))
 refine DD ?_
 refine WC.forU h (λ(i29:Nat) (s:(List Ver)×a7) σ w=>match s with | (out_20,o25) => ∃(Γ18:Gh), ∃(A21:Option Addr), ∃(c22:Nat), ∃(row23:Rowb), ∃(row26:Rowb),slots σ [(1,.func (.func 113) #[(pq gr_)] #[]),(6,.slice A21 out_20.length c22),(23,ii o3.2),(24,ii (i29:Int))]∧CC F Γ18 [row23,row26] w∧Gh.le Γ6 Γ18∧Own verT Γ18 72 row23 A21 c22 out_20∧a7.ob er_ Bo gr_ row26 o25∧True) ?_ ?_
 ·
  intro w hw
  have hw:=hw.pad
  exact⟨Γ6,none,0,[],row10,slK,hw,gR,(Own.nil verT _ 72),hr11,trivial⟩
 rintro f28 i29 ⟨out_20,o25⟩ σ w hi30 hlt31 hge32 ⟨Γ18,A21,c22,row23,row26,hsl,hw,hl19,ho24,ho27,-⟩
 refine slV hsl hw [_,_] ?_; clear hw hsl
 refine Dx (sV aw (k:=Dw (Dy ?_)))
 refine coV (λhb33=>?_) (λhb33=>?_)
 ·
  have hl34:=ilti hb33
  have h:=hlt31 hl34
  refine DC (wc_ (Dy (DD ?_)))
  refine DA ?_
  refine mV (k:=mU (v:=.func (.func 113) #[(pq gr_)] #[]) (k:=?_))
  obtain⟨z35,hz36,h⟩:=bnd h
  rcases z35 with _ | o37
  ·
   have h:=bi rfl h
   refine cK (is:=[1]) rfl (bp (first:=#[(pq gr_)]) call113 rfl (by kernel_rfl) (by kernel_rfl)) rfl (λw hw hp=>jp ho27 hp (hO.pre (is:=[1]) hw rfl) hz36) ?_
   intro Γ38 hl39
   intro w hw
   cases h
   subst hF
   first | exact aE hw | exact λ_=>aE hw
  have h:=bh rfl h
  refine cw (is:=[1]) rfl rfl (bp (first:=#[(pq gr_)]) call113 rfl (by kernel_rfl) (by kernel_rfl)) rfl (λw hw hp=>jp ho27 hp (hO.pre (is:=[1]) hw rfl) hz36) ?_
  rintro Γ40 _ _ hl41 ⟨row44,A46,c47,rfl,rfl,hr45,hr48,_⟩
  refine cwV 28 [_,_] ?_
  refine bsV (Ver.cs A46 c47 o37.2).toArray 72 λg49=>?_
  obtain⟨hk50,h⟩:=af h
  refine apV 2 [o37.2] lv (ho24.mono hl41) (DP hk50) (λw hw=>br (i:=0) rfl (by exact⟨A46,c47,rfl,hr48⟩) hw) ?_
  intro row51 A52 c53 ho54
  refine aV (k:=?_)
  refine Dz ?_
  change WC _ _ _ _ _ _
  refine DA ?_
  refine sV (am rfl rfl rfl (pi hl34 hr12)) (k:=mV (k:=?_))
  exact Dz λw hw=>⟨hl34,((out_20++[o37.2]),o37.1),h,Γ40,A52,c53,row51,row44,slK,(hw.on [2,1]),(hl19.trans hl41),ho54,hr45,trivial⟩
 have h:=hge32 (igei hb33)
 refine DE ?_
 change WC _ _ _ _ _ _
 refine Dx (mV (k:=aV (k:=Dw ?_)))
 refine DB ?_
 intro w hw
 cases h
 subst hF
 exact aI (is:=[1,0]) (by kernel_rfl) hw rfl ⟨row26,A21,c22,row23,rfl,rfl,ho27,ho24,trivial⟩
abbrev nf(Bo:Gh)(gr_:Nat)(er_:Nat)(r:a7×Rec)(U:List Rowb)(Γ:Gh)(v:Value):Prop := ∃(rowr_':Rowb), ∃(A0_1:Option Addr), ∃(c0_1:Nat),v = .agg #[.string r.2.key,.slice A0_1 r.2.vers.length c0_1]∧U = [rowr_']∧a7.ob er_ Bo gr_ rowr_' r.1∧Rec.fits Γ A0_1 c0_1 r.2∧True
theorem jn{Bo:Gh}{gr_ er_:Nat}{rowr_:Rowb}{r_:a7}(hr_:a7.ob er_ Bo gr_ rowr_ r_)(hp:Pre [rowr_] Γ w0)(hpO:Pre [rowr_] Bo w0){r:Option (a7×Rec)}(h:dT r_=some r):Calls Tryz.prog 77 #[(pq gr_)] w0 (jK [{ v:=(.iface 179 (.agg #[])),recovered:=false }] Γ [rowr_] w0 (λr=>nf Bo gr_ er_ r) r):=by
 refine cH (N:=12) (rs:=[.cell 2 36]) (args:=[(pq gr_)]) func77 rfl ntmps77 results77 rfl ?_
 obtain⟨F,hF⟩:∃F:Fm,F=⟨ids [rowr_],w0,Γ⟩:=⟨_,rfl⟩
 refine DN (C:=CC F Γ [rowr_]) ?_ (hF▸hp.start)
 have hO:Lent F Bo:=hF▸Lent.start hpO
 refine Dx ?_
 refine alV ET λg1=>?_
 refine Dw (Dx (mV (k:=?_)))
 obtain⟨z2,hz3,h⟩:=bnd h
 rcases z2 with _ | o4
 ·
  have h:=bi rfl h
  refine cK (is:=[1]) rfl (caV ER) rfl (λw hw hp=>dw hr_ hp (hO.pre (is:=[1]) hw rfl) hz3) ?_
  intro Γ5 hl6
  intro w hw
  cases h
  subst hF
  first | exact aE hw | exact λ_=>aE hw
 have h:=bh rfl h
 refine cw (is:=[1]) rfl rfl (caV ER) rfl (λw hw hp=>dw hr_ hp (hO.pre (is:=[1]) hw rfl) hz3) ?_
 rintro Γ7 _ _ hl8 ⟨row11,rfl,rfl,hr12,hr13,_⟩
 refine cwV 5 [_,_] (aV (k:=Dw (Dx (mV (k:=mV (k:=mV (k:=sV (bQ (v:=.func (.func 113) #[(pq gr_)] #[]) rfl (by kernel_rfl)) (k:=?_))))))))
 obtain⟨z14,hz15,h⟩:=bnd h
 rcases z14 with _ | o16
 ·
  have h:=bi rfl h
  refine cK (is:=[0]) rfl (caV call112) rfl (λw hw hp=>io hr12 hp (hO.pre (is:=[0]) hw rfl) hz15) ?_
  intro Γ17 hl18
  intro w hw
  cases h
  subst hF
  first | exact aE hw | exact λ_=>aE hw
 have h:=bh rfl h
 refine cw (is:=[0]) rfl rfl (caV call112) rfl (λw hw hp=>io hr12 hp (hO.pre (is:=[0]) hw rfl) hz15) ?_
 rintro Γ19 _ _ hl20 ⟨row23,A25,c26,row27,rfl,rfl,hr24,hr28,_⟩
 refine cwV 10 [_,_,_] (sV (aA (v:=.agg #[.string o4.2,.slice A25 o16.2.length c26]) rfl (dJ rfl rfl) (λw=>by kernel_rfl)) (k:=stV 2 (.agg #[.string o4.2,.slice A25 o16.2.length c26]) #[.string o4.2,.slice A25 o16.2.length c26] EU (k:=Dw ?_)))
 refine DB ?_
 intro w hw
 have hc33:=hr28.capz
 obtain⟨Γ29,hw,hl30,hr31⟩:=hw.seal (i:=1) rfl; have hs32:=hr28.sl hl30 hr31
 cases h
 subst hF
 exact⟨[.agg #[.string o4.2,.slice A25 o16.2.length c26]],(dL (i:=2) (us:=[.string o4.2,.slice A25 o16.2.length c26]) hw rfl EV EU (by kernel_rfl) rfl dK),aI (is:=[0]) (by kernel_rfl) hw rfl ⟨row23,A25,c26,rfl,rfl,hr24,⟨hr13,⟨hc33,hs32⟩⟩,trivial⟩⟩
abbrev la(r:Rec×Int)(U:List Rowb)(Γ:Gh)(v:Value):Prop := ∃(A0_1:Option Addr), ∃(c0_1:Nat),v = .tuple #[.agg #[.string r.1.key,.slice A0_1 r.1.vers.length c0_1],.int .i64 r.2]∧U = []∧Rec.fits Γ A0_1 c0_1 r.1∧I64 r.2∧True
theorem lc{B:Gh}{Ab:Option Addr}{cb:Nat}{b:List UInt8}(hb:Sl au B Ab b)(hbc:b.length≤cb)(hp:Pre [] Γ w0)(hpB:Pre [] B w0){r:Rec×Int}(h:dW b=some r):Calls Tryz.prog 76 #[.slice Ab b.length cb,.func (.func 77) #[] #[],.func (.func 55) #[] #[]] w0 (Outc Γ [] w0 (la r)):=by
 refine rR (n:=32) (args:=[.slice Ab b.length cb,.func (.func 77) #[] #[],.func (.func 55) #[] #[]]) func76 rfl ntmps76 rfl ?_
 obtain⟨F,hF⟩:∃F:Fm,F=⟨ids [],w0,Γ⟩:=⟨_,rfl⟩
 refine WX.here (C:=CC F Γ []) ?_ (hF▸hp.start)
 have hB:Lent F B:=hF▸Lent.start hpB
 refine WX.seq ?_
 refine DA ?_
 refine alV ET λg1=>?_
 refine alV zeroValue26 λg2=>?_
 refine Dz ?_
 change WX _ _ _ _ _ _ _
 refine WX.defer (v:=.func (.func 110) #[] #[(pq g1),(pq g2)]) (d:=⟨.fn (.func 110) #[(pq g1),(pq g2)], #[]⟩) rfl rfl rfl rfl (bQ (v:=.func (.func 110) #[] #[(pq g1),(pq g2)]) rfl (by kernel_rfl)) (tB rfl rfl) ?_
 refine WX.last ?_
 change WC _ _ _ _ _ _
 refine Dx (mV (k:=sV (aA (v:=.agg #[.slice Ab b.length cb,ii 0]) rfl (iy rfl) (λw=>by kernel_rfl)) (k:=?_)))
 refine bxV (v:=.agg #[.slice Ab b.length cb,ii 0]) λg3=>?_
 refine aV (k:=Dw (Dx (mU (v:=.func (.func 77) #[] #[]) (k:=mV (k:=?_)))))
 obtain⟨row_4,hrow_4,hob_4⟩:∃rw:Rowb,rw=([[(g3,.cells #[.slice Ab b.length cb,ii 0] 181 (0,0))]]:List Rowb).flatten∧a7.ob 181 B g3 rw (⟨b,0⟩:a7):=⟨_,rfl,Ab,cb,rfl,hbc,hb,iV,trivial⟩
 refine foR [0] hrow_4 [_,_,_] ?_
 obtain⟨z5,hz6,h⟩:=bnd h
 rcases z5 with _ | o7
 ·
  have h:=bi rfl h
  refine cK (is:=[0]) rfl (aT (caps:=#[]) call77 rfl (by kernel_rfl) (by kernel_rfl)) rfl (λw hw hp=>jn hob_4 hp (hB.pre (is:=[0]) hw rfl) hz6) ?_
  intro Γ8 hl9
  change ∀w,CC F Γ8 [[(g2,.cells #[ii 0] 26 (0,0))],[(g1,.cells #[.string ByteArray.empty,.slice none 0 0] 36 (0,0))]] w→_
  obtain⟨z10,hz11,h⟩:=bnd h
  refine lB (rs:=[.cell 6 36,.cell 7 26]) (is:=[1,0]) F2 (jW call110) rfl rfl (λw hp=>d9 ByteArray.empty (show (ByteArray.empty:ByteArray).size≤lim by decide) (Sl.nil verT _ none) (E7 0) 0 iV hp hz11) ?_
  rintro Γ12 _ _ hl13 ⟨A17,c18,rfl,rfl,hr16,hc20,hr19,hr21,_⟩
  change WRt _ _ _ (CC F Γ12 [_,_]) _
  unfold WRt
  intro w hw
  cases h
  subst hF
  exact⟨[.agg #[.string z10.1,.slice A17 z10.2.1.length c18],ii z10.2.2],(dL (i:=0) (us:=[.string z10.1,.slice A17 z10.2.1.length c18]) hw rfl EV EU (by kernel_rfl) rfl (ns (i:=1) hw rfl EA (by kernel_rfl) rfl dK)),aI (is:=[]) (by kernel_rfl) hw rfl ⟨A17,c18,rfl,rfl,⟨hr16,⟨hc20,hr19⟩⟩,hr21,trivial⟩⟩
 have h:=bh rfl h
 refine cw (is:=[0]) rfl rfl (aT (caps:=#[]) call77 rfl (by kernel_rfl) (by kernel_rfl)) rfl (λw hw hp=>jn hob_4 hp (hB.pre (is:=[0]) hw rfl) hz6) ?_
 rintro Γ22 _ _ hl23 ⟨row26,A28,c29,rfl,rfl,hr27,hr30,_⟩
 refine cwV 15 [_,_,_] (stV 2 (.agg (Rec.cs A28 c29 o7.2).toArray) (Rec.cs A28 c29 o7.2).toArray EU (k:=Dw ?_))
 refine DL (λσ w=>cS o7  = some r∧slots σ [(6,(pq g1)),(7,(pq g2))]∧CC F Γ22 [row26,[(g2,.cells #[ii 0] 26 (0,0))],[(g1,.cells (Rec.cs A28 c29 o7.2).toArray 36 (0,0))]] w∧True) ?_ ?_
 ·
  refine Dx (mV (k:=sV nlV (k:=sV (q_fl 1 cU) (k:=?_))))
  obtain⟨A0_31,c0_31,hrow_31,ho0_31,ho1_31,ho2_31,-⟩:=id hr27
  refine ufR 0 hrow_31 [_,_,_] ?_
  refine sV (ldV 0 Ez) (k:=mV (k:=sV (ab rfl Eo) (k:=sV bj (k:=mV (k:=vG0 (h:=λhg32=>b4 (v:=.func (.func 55) #[] #[]) rfl (by kernel_rfl)) (k:=vG0 (h:=λhg33=>ldaV 2 (Rec.cs A28 c29 o7.2) EV EU) (k:=?_)))))))
  obtain⟨z35,hz36,h⟩:=bnd h
  refine vC0 (h:=λhg34=>aH (aT (caps:=#[]) (args:=#[.agg (Rec.cs A28 c29 o7.2).toArray]) call55 rfl (grV hg34) ((congrArg (· ++ #[]) (kC (grV hg34))).trans (by kernel_rfl))) (λw hw=>fw (Γ:=Gh.all w) o7.2 (Rec.fits_mono hr30 hw.sat.le_all) (Sat.all w) (bU hz36 hg34))) (k:=vG0 (h:=λhg37=>bb rfl (grV hg37)) (k:=sV pkO (k:=Dw ?_)))
  refine ciV h (λhb38 h=>?_) (λhb38 h=>?_)
  ·
   refine DA ?_
   refine sV (dH (v:=.agg #[]) rfl (λw=>by kernel_rfl)) (k:=sV (fQ rfl rfl (λw=>mkif EI w)) (k:=?_))
   refine fK (v:=.iface 179 (.agg #[])) rfl (bC rfl rfl) ?_
   change ∀w,CC F Γ22 [[(g3,.cells #[.slice A0_31 o7.1.b.length c0_31,ii o7.1.at_] 181 (0,0))],[(g2,.cells #[ii 0] 26 (0,0))],[(g1,.cells (Rec.cs A28 c29 o7.2).toArray 36 (0,0))]] w→_
   obtain⟨z41,hz42,h⟩:=bnd h
   refine lB (rs:=[.cell 6 36,.cell 7 26]) (is:=[2,1]) F2 (jW call110) rfl rfl (λw hp=>d9 o7.2.key hr30.1 hr30.2.2 hr30.2.1 0 iV hp hz42) ?_
   rintro Γ43 _ _ hl44 ⟨A48,c49,rfl,rfl,hr47,hc51,hr50,hr52,_⟩
   change WRt _ _ _ (CC F Γ43 [_,_,_]) _
   unfold WRt
   intro w hw
   cases h
   subst hF
   exact⟨[.agg #[.string z41.1,.slice A48 z41.2.1.length c49],ii z41.2.2],(dL (i:=0) (us:=[.string z41.1,.slice A48 z41.2.1.length c49]) hw rfl EV EU (by kernel_rfl) rfl (ns (i:=1) hw rfl EA (by kernel_rfl) rfl dK)),aI (is:=[]) (by kernel_rfl) hw rfl ⟨A48,c49,rfl,rfl,⟨hr47,⟨hc51,hr50⟩⟩,hr52,trivial⟩⟩
  refine DC ?_
  intro w hw
  have hw:=hw.fold (is:=[0]) rfl hrow_31
  exact⟨h,slK,hw,trivial⟩
 rintro σ w ⟨h,hsl,hw,-⟩
 refine slV hsl hw [_,_,_] ?_; clear hw hsl
 refine Dx (sV (ldaV 2 (Rec.cs A28 c29 o7.2) EV EU) (k:=stV 2 (.agg (Rec.cs A28 c29 o7.2).toArray) (Rec.cs A28 c29 o7.2).toArray EU (k:=stV 1 (ii 0) #[ii 0] sizeOf26 (k:=Dw ?_))))
 refine DB ?_
 refine ux (rs:=[.cell 6 36,.cell 7 26]) F2 (jW call110) (v7 ((pq g1)) ((pq g2))) ?_
 unfold WRt
 intro w hw
 cases h
 subst hF
 exact⟨[.agg (Rec.cs A28 c29 o7.2).toArray,ii 0],(dL (i:=2) (us:=(Rec.cs A28 c29 o7.2)) hw rfl EV EU (by kernel_rfl) rfl (ns (i:=1) hw rfl EA (by kernel_rfl) rfl dK)),aI (is:=[]) (by kernel_rfl) hw rfl ⟨A28,c29,rfl,rfl,hr30,iV,trivial⟩⟩
abbrev wA(r:Rec×Int)(U:List Rowb)(Γ:Gh)(v:Value):Prop := ∃(A0_1:Option Addr), ∃(c0_1:Nat),v = .tuple #[.agg #[.string r.1.key,.slice A0_1 r.1.vers.length c0_1],.int .i64 r.2]∧U = []∧Rec.fits Γ A0_1 c0_1 r.1∧I64 r.2∧True
theorem wx{Ab:Option Addr}{cb:Nat}{b:List UInt8}(hb:Sl au Γ Ab b)(hbc:b.length≤cb)(hp:Pre [] Γ w0){r:Rec×Int}(h:fX b=some r):Calls Tryz.prog 40 #[.slice Ab b.length cb] w0 (Outc Γ [] w0 (wA r)):=by
 refine cH (N:=8) (rs:=[.cell 2 36,.tmp 3]) (args:=[.slice Ab b.length cb]) func40 rfl ntmps40 results40 rfl ?_
 obtain⟨F,hF⟩:∃F:Fm,F=⟨ids [],w0,Γ⟩:=⟨_,rfl⟩
 refine DN (C:=CC F Γ []) ?_ (hF▸hp.start)
 refine Dx ?_
 refine alV ET λg1=>?_
 refine aV (k:=Dw (Dx (mV (k:=?_))))
 obtain⟨z2,hz3,h⟩:=bnd h
 refine ecV [] (caV call76) (λw hp=>mZ hb hbc hp hz3) ?_
 rintro Γ4 _ _ hl5 ⟨A8,c9,rfl,rfl,hr10,hr11,_⟩
 refine cwV 5 [_] (sV exV (k:=sV exV (k:=stV 0 (.agg (Rec.cs A8 c9 z2.1).toArray) (Rec.cs A8 c9 z2.1).toArray EU (k:=aV (k:=Dw ?_)))))
 refine DB ?_
 intro w hw
 cases h
 subst hF
 exact⟨[.agg (Rec.cs A8 c9 z2.1).toArray,ii z2.2],(dL (i:=0) (us:=(Rec.cs A8 c9 z2.1)) hw rfl EV EU (by kernel_rfl) rfl (Ah (by kernel_rfl) dK)),aI (is:=[]) (by kernel_rfl) hw rfl ⟨A8,c9,rfl,rfl,hr10,hr11,trivial⟩⟩
abbrev sF(r:Rec×Int)(U:List Rowb)(Γ:Gh)(v:Value):Prop := ∃(A0_1:Option Addr), ∃(c0_1:Nat),v = .tuple #[.agg #[.string r.1.key,.slice A0_1 r.1.vers.length c0_1],.int .i64 r.2]∧U = []∧Rec.fits Γ A0_1 c0_1 r.1∧I64 r.2∧True
theorem nP{B:Gh}{Ab:Option Addr}{cb:Nat}{b:List UInt8}(hb:Sl au B Ab b)(hbc:b.length≤cb)(hp:Pre [] Γ w0)(hpB:Pre [] B w0){r:Rec×Int}(h:fX b=some r):Calls Tryz.prog 40 #[.slice Ab b.length cb] w0 (Outc Γ [] w0 (sF r)):=by
 refine cH (N:=8) (rs:=[.cell 2 36,.tmp 3]) (args:=[.slice Ab b.length cb]) func40 rfl ntmps40 results40 rfl ?_
 obtain⟨F,hF⟩:∃F:Fm,F=⟨ids [],w0,Γ⟩:=⟨_,rfl⟩
 refine DN (C:=CC F Γ []) ?_ (hF▸hp.start)
 have hB:Lent F B:=hF▸Lent.start hpB
 refine Dx ?_
 refine alV ET λg1=>?_
 refine aV (k:=Dw (Dx (mV (k:=?_))))
 obtain⟨z2,hz3,h⟩:=bnd h
 refine eu (is:=[]) hB rfl rfl (caV call76) rfl (λw Θ hp hpB hle hleB hR=>lc (hb.mono hleB) hbc hp hpB hz3) ?_
 rintro Γ4 _ _ hl5 ⟨A8,c9,rfl,rfl,hr10,hr11,_⟩
 refine cwV 5 [_] (sV exV (k:=sV exV (k:=stV 0 (.agg (Rec.cs A8 c9 z2.1).toArray) (Rec.cs A8 c9 z2.1).toArray EU (k:=aV (k:=Dw ?_)))))
 refine DB ?_
 intro w hw
 cases h
 subst hF
 exact⟨[.agg (Rec.cs A8 c9 z2.1).toArray,ii z2.2],(dL (i:=0) (us:=(Rec.cs A8 c9 z2.1)) hw rfl EV EU (by kernel_rfl) rfl (Ah (by kernel_rfl) dK)),aI (is:=[]) (by kernel_rfl) hw rfl ⟨A8,c9,rfl,rfl,hr10,hr11,trivial⟩⟩
abbrev p4(gs_:Nat)(es_:Nat×Nat)(r:a8)(U:List Rowb)(Γ:Gh)(v:Value):Prop := ∃(rows_':Rowb),v = .tuple #[]∧U = [rows_']∧a8.ob es_ Γ gs_ rows_' r∧True
theorem kF{gs_:Nat}{es_:Nat×Nat}{rows_:Rowb}{s_:a8}(hs_:a8.ob es_ Γ gs_ rows_ s_){Ar_1:Option Addr}{cr_1:Nat}(r_:Rec)(hr_:Rec.fits Γ Ar_1 cr_1 r_){Ab:Option Addr}{cb:Nat}{b:List UInt8}(hb:Sl au Γ Ab b)(hbc:b.length≤cb)(hp:Pre [rows_] Γ w0){r:a8}(h:ci s_ r_ b=some r):Calls Tryz.prog 41 #[(pq gs_),.agg (Rec.cs Ar_1 cr_1 r_).toArray,.slice Ab b.length cb] w0 (Outc Γ [rows_] w0 (p4 gs_ es_ r)):=by
 refine goV [] func41 ntmps41 results41 hp λF hF=>?_
 refine Dx ?_
 refine bxV (v:=.agg (Rec.cs Ar_1 cr_1 r_).toArray) λg1=>?_
 refine Dw (Dy ?_)
 refine leV λh02=>?_
 refine db (CC F Γ [[(g1,.cells (Rec.cs Ar_1 cr_1 r_).toArray 36 (0,0))]]) (bo_ [0] gR h02) λk=>?_
 change WH _ _ _ _ (CC F Γ [_,_]) _ 7 _ _
 refine hV 0 k (q:=moV) (k:=hV 1 k (q:=nlV) (k:=hV 2 k (q:=q_fl 1 jy) (k:=hV 4 k (q:=q_fl 0 b6) (k:=hV 5 k (q:=ldV 0 En) (k:=wl_ 3 rfl ?_)))))
 obtain⟨g0_3,r0_3,m1_3,r1_3,hrow_3,ho0_3,ho1_3,-⟩:=id hs_
 refine ufR 1 hrow_3 [_,_,_,_] ?_
 refine sV (ldV 0 F3) (k:=?_)
 refine Dz (nxV (bo_ [3] gR h02) λk=>?_)
 refine wl_ 6 rfl ?_
 refine sc (i:=2) (x:=r_.key) rfl ho1_3 rfl rfl rfl F4 rfl rfl ?_
 intro row4 hm5
 refine Dz (nxV (bo_ [3] gR h02) λk=>?_)
 refine DH (by kernel_rfl) ?_
 change WC _ _ _ _ _ _
 refine Dx (sV (q_fl 1 aM) (k:=sV (ldV 3 F1) (k:=sV (ab rfl EY) (k:=sV bx (k:=Dw ?_)))))
 refine ciV h (λhb6 h=>?_) (λhb6 h=>?_)
 ·
  refine leV λh07=>?_
  refine db (CC F Γ [[(gs_,.cells #[(pq g0_3),.map (some m1_3)] es_.1 (0,0))],[(g1,.cells (Rec.cs Ar_1 cr_1 r_).toArray 36 (0,0))]]) (bo_ [0,2] gR h07) λk=>?_
  change WH _ _ _ _ (CC F Γ [_,_,_,_]) _ 8 _ _
  refine hV 0 k (q:=moV) (k:=hV 1 k (q:=nlV) (k:=hV 2 k (q:=q_fl 1 jy) (k:=hV 3 k (q:=ldV 0 F3) (k:=hV 4 k (q:=q_fl 0 b6) (k:=hV 5 k (q:=ldV 1 En) (k:=hV 6 k (q:=moV) (k:=wl_ 7 rfl ?_)))))))
  refine cv (i:=2) (x:=r_.key) (v:=.slice Ab b.length cb) (a:=b) rfl rfl rfl F4 rfl rfl (by kernel_rfl) rfl hm5 (by exact⟨Ab,cb,rfl,hbc,hb⟩) hr_.1 ?_
  intro row8 hm9
  refine Dz (nxV (bo_ [0,2] gR h07) λk=>?_)
  refine DH (by kernel_rfl) ?_
  intro w hw
  obtain⟨row_10,hrow_10,hob_10⟩:∃rw:Rowb,rw=([[(gs_,.cells #[(pq g0_3),.map (some m1_3)] es_.1 (0,0))],r0_3,row8]:List Rowb).flatten∧a8.ob es_ Γ gs_ rw (⟨s_.log,(mput r_.key b (mdel r_.key s_.keys))⟩:a8):=⟨_,rfl,g0_3,r0_3,m1_3,row8,rfl,ho0_3,hm9,trivial⟩
  have hw:=hw.fold (is:=[0,0,0]) rfl hrow_10
  cases h
  subst hF
  exact aI (is:=[0]) (by kernel_rfl) hw rfl ⟨row_10,rfl,rfl,hob_10,trivial⟩
 refine DC ?_
 intro w hw
 obtain⟨row_11,hrow_11,hob_11⟩:∃rw:Rowb,rw=([[(gs_,.cells #[(pq g0_3),.map (some m1_3)] es_.1 (0,0))],r0_3,row4]:List Rowb).flatten∧a8.ob es_ Γ gs_ rw (⟨s_.log,(mdel r_.key s_.keys)⟩:a8):=⟨_,rfl,g0_3,r0_3,m1_3,row4,rfl,ho0_3,hm5,trivial⟩
 have hw:=hw.fold (is:=[0,0,0]) rfl hrow_11
 cases h
 subst hF
 exact aI (is:=[0]) (by kernel_rfl) hw rfl ⟨row_11,rfl,rfl,hob_11,trivial⟩
abbrev tW(gd:Nat)(ed:Nat)(r:a6×(Option a8)×Int)(U:List Rowb)(Γ:Gh)(v:Value):Prop := ∃(rowd':Rowb), ∃(g0:Nat), ∃(row0:Rowb),v = .tuple #[optp r.2.1 g0,.int .i64 r.2.2]∧U = [rowd',row0]∧a6.ob ed Γ gd rowd' r.1∧xd (a8.ob (88,gd) Γ g0) row0 r.2.1∧I64 r.2.2∧True
theorem oZ{gd ed:Nat}{rowd:Rowb}{d:a6}(hd:a6.ob ed Γ gd rowd d)(name:ByteArray)(hname:name.size≤lim)(size:Int)(hsize:I64 size)(hp:Pre [rowd] Γ w0){r:a6×(Option a8)×Int}(h:gh d name size=some r):Calls Tryz.prog 21 #[(pq gd),.string name,ii size] w0 (Outc Γ [rowd] w0 (tW gd ed r)):=by
 refine goV [6,7] func21 ntmps21 results21 hp λF hF=>?_
 refine Dx (aV (k:=aV (k:=Dw (Dx (mV (k:=mV (k:=mV (k:=?_))))))))
 obtain⟨z1,hz2,h⟩:=bnd h
 refine ecV [0] (caV call39) (λw hp=>sH hd name hname size hsize hp hz2) ?_
 rintro Γ3 _ _ hl4 ⟨row7,g9,row10,A12,c13,row14,rfl,rfl,hr8,hr11,hr15,hr16,_⟩
 refine cwV 20 [_,_,_] (mV (k:=sV exV (k:=sV exV (k:=sV exV (k:=aU (v:=optp z1.2.1 g9) (k:=aV (k:=aV (k:=?_))))))))
 refine Dw (Dy (Dx (mV (k:=sV bj (k:=Dw ?_)))))
 refine ciV h (λhb17 h=>?_) (λhb17 h=>?_)
 ·
  refine Dx (mV (k:=aV (k:=aV (k:=Dw ?_))))
  refine DB ?_
  intro w hw
  have hw:=hw.pad
  exact re_ r [1,0] h hF hw ⟨row7,0,[],rfl,rfl,hr8,rfl,hr16,trivial⟩
 refine DC (wc_ (Dx (mU (v:=optp z1.2.1 g9) (k:=?_))))
 refine lk (strK Ek) (slT au).v rfl rfl rfl rfl ?_
 intro g18 row19 hm20
 obtain⟨z21,hz22,h⟩:=bnd h
 have ho23:=jX hr11 hz22
 refine sV (aA (v:=.agg #[(pq g9),.map (some g18)]) rfl (dJ (bS rfl hz22) rfl) (λw=>by kernel_rfl)) (k:=?_)
 refine bxV (v:=.agg #[(pq g9),.map (some g18)]) λg24=>?_
 refine aV (k:=Dw (Dy (Dx (mV (k:=sV (ab rfl Ev) (k:=mV (k:=Dw ?_)))))))
 refine DD ?_
 obtain⟨row_25,hrow_25,hob_25⟩:∃rw:Rowb,rw=([[(g24,.cells #[(pq g9),.map (some g18)] 88 (0,0))],row10,row19]:List Rowb).flatten∧a8.ob (88,gd) Γ3 g24 rw (⟨z21,([]:List (ByteArray×(List UInt8)))⟩:a8):=⟨_,rfl,g9,row10,g18,row19,rfl,ho23,hm20,trivial⟩
 refine foC [0,2,0] hrow_25 [_,_,_] ?_
 refine DF h (λ(i32:Nat) (o28:a8) σ w => ∃(Γ26:Gh), ∃(row29:Rowb),slots σ [(11,(pq g24)),(31,.slice A12 z1.2.2.1.length c13),(32,ii (z1.2.2.1.length:Int)),(33,ii (i32:Int))]∧CC F Γ26 [row29,row7,row14] w∧Gh.le Γ3 Γ26∧a8.ob (88,gd) Γ26 g24 row29 o28∧True) ?_ ?_
 ·
  intro w hw
  exact⟨Γ3,row_25,slK,hw,gR,hob_25,trivial⟩
 rintro f31 i32 o28 σ w hi33 hlt34 hge35 ⟨Γ26,row29,hsl,hw,hl27,ho30,-⟩
 refine slV hsl hw [_,_,_] ?_; clear hw hsl
 refine Dx (sV aw (k:=Dw (Dy ?_)))
 refine coV (λhb36=>?_) (λhb36=>?_)
 ·
  have hl37:=ilt hb36
  have h:=hlt34 hl37
  refine DC (wc_ (Dy (DD (Dx (sV (ar (i:=i32) Ev Ew rfl rfl rfl hl37 ((hr15.mono hl27).some_ hl37)) (k:=?_))))))
  obtain⟨A38,c39,hx40⟩:=(hr15.mono hl27).slT_at i32
  refine sV (nR (c:=0) (v:=.slice A38 (gt z1.2.2.1 i32).length c39) (i:=2) rfl (hx40 hl37).2 rfl Ex rfl rfl) (k:=aV (k:=Dw (Dx (mV (k:=?_)))))
  obtain⟨z41,hz42,h⟩:=bnd h
  refine eu (is:=[]) (Lent.nil F) rfl rfl (caV call40) rfl (λw Θ hp hpB hle hleB hR=>nP ((hx40 hl37).1.2.mono hle) (hx40 hl37).1.1 hp hpB hz42) ?_
  rintro Γ43 _ _ hl44 ⟨A47,c48,rfl,rfl,hr49,hr50,_⟩
  refine cwV 39 [_,_,_] (mV (k:=sV exV (k:=sV exV (k:=?_))))
  refine alV ET λg51=>?_
  refine stV 0 (.agg (Rec.cs A47 c48 z41.1).toArray) (Rec.cs A47 c48 z41.1).toArray EU (k:=aV (k:=Dw (Dy (Dx (mV (k:=sV bj (k:=Dw ?_)))))))
  refine ciV h (λhb52 h=>?_) (λhb52 h=>?_)
  ·
   refine Dx (mV (k:=aV (k:=aV (k:=Dw ?_))))
   refine DB ?_
   intro w hw
   have hw:=hw.pad
   exact re_ r [3,0] h hF hw ⟨row7,0,[],rfl,rfl,(hr8.mono (hl27.trans hl44)),rfl,hr50,trivial⟩
  refine DC (wc_ ?_)
  refine DA ?_
  refine mV (k:=sV (ldaV 0 (Rec.cs A47 c48 z41.1) EV EU) (k:=mV (k:=?_)))
  obtain⟨z53,hz54,h⟩:=bnd h
  refine ecV [1] (caV call41) (λw hp=>kF (ho30.mono hl44) z41.1 hr49 ((hx40 hl37).1.2.mono hl44) (hx40 hl37).1.1 hp hz54) ?_
  rintro Γ55 _ _ hl56 ⟨row59,rfl,rfl,hr60,_⟩
  refine cwV 48 [_,_,_,_] ?_
  refine Dz ?_
  change WC _ _ _ _ _ _
  refine DA ?_
  refine sV (am rfl rfl rfl (ax hl37 (hr15.mono hl27).le)) (k:=mV (k:=?_))
  exact Dz λw hw=>⟨hl37,z53,h,Γ55,row59,slK,(hw.on [0,1,1]),((hl27.trans hl44).trans hl56),hr60,trivial⟩
 have h:=hge35 (ige hb36)
 refine DE ?_
 change WC _ _ _ _ _ _
 refine Dx (mV (k:=aV (k:=aV (k:=Dw ?_))))
 exact DB λw hw=>re_ r [1,0] h hF hw ⟨row7,g24,row29,rfl,rfl,(hr8.mono hl27),ho30,iV,trivial⟩
abbrev vb(gd:Nat)(ed:Nat)(r:a6×(Option aa)×Int)(U:List Rowb)(Γ:Gh)(v:Value):Prop := ∃(rowd':Rowb), ∃(g0:Nat), ∃(row0:Rowb),v = .tuple #[optp r.2.1 g0,.int .i64 r.2.2]∧U = [rowd',row0]∧a6.ob ed Γ gd rowd' r.1∧xd (aa.ob (60,gd) Γ g0) row0 r.2.1∧I64 r.2.2∧True
theorem qN{gd ed:Nat}{rowd:Rowb}{d:a6}(hd:a6.ob ed Γ gd rowd d)(self:Adr)(hself:Adr.fits Γ  self)(size:Int)(hsize:I64 size)(life:Int)(hlife:I64 life)(hp:Pre [rowd] Γ w0){r:a6×(Option aa)×Int}(h:jr d self size life=some r):Calls Tryz.prog 6 #[(pq gd),.agg (Adr.cs self).toArray,ii size,ii life] w0 (Outc Γ [rowd] w0 (vb gd ed r)):=by
 refine goV [8,9] func6 ntmps6 results6 hp λF hF=>?_
 refine Dx ?_
 refine bxV (v:=.agg (Adr.cs self).toArray) λg1=>?_
 refine aV (k:=aV (k:=Dw (Dy (Dx (mV (k:=sV aw (k:=mV (k:=?_))))))))
 refine vG0 (h:=λhg2=>q_fl 0 ik) (k:=vG0 (h:=λhg3=>ldV 0 Ez (hx:=grV hg3)) (k:=vG0 (h:=λhg4=>aw rfl (grV hg4)) (k:=sV pkO (k:=mV (k:=vG0 (h:=λhg5=>q_fl 0 ik) (k:=vG0 (h:=λhg6=>ldV 0 Ez (hx:=grV hg6)) (k:=vG0 (h:=λhg7=>bx rfl (grV hg7)) (k:=?_))))))))
 refine sV pkO (k:=mV (k:=vG0 (h:=λhg8=>q_fl 1 k8) (k:=vG0 (h:=λhg9=>ldV 0 Ez (hx:=grV hg9)) (k:=vG0 (h:=λhg10=>aw rfl (grV hg10)) (k:=sV pkO (k:=mV (k:=vG0 (h:=λhg11=>q_fl 1 k8) (k:=?_))))))))
 refine vG0 (h:=λhg12=>ldV 0 Ez (hx:=grV hg12)) (k:=vG0 (h:=λhg13=>bx rfl (grV hg13)) (k:=sV pkO (k:=Dw ?_)))
 refine ciV h (λhb14 h=>?_) (λhb14 h=>?_)
 ·
  refine Dx (aV (k:=aV (k:=Dw ?_)))
  refine DB ?_
  intro w hw
  have hw:=hw.pad
  exact re_ r [2,0] h hF hw ⟨rowd,0,[],rfl,rfl,hd,rfl,iV,trivial⟩
 refine DC (wc_ (Dx (mV (k:=mV (k:=?_)))))
 obtain⟨z15,hz16,h⟩:=bnd h
 refine ecV [1] (caV call21) (λw hp=>oZ hd (⟨#[100]⟩:ByteArray) (show (⟨#[100]⟩:ByteArray).size≤lim by decide) size hsize hp hz16) ?_
 rintro Γ17 _ _ hl18 ⟨row21,g23,row24,rfl,rfl,hr22,hr25,hr26,_⟩
 refine cwV 39 [_,_,_] (mV (k:=sV exV (k:=sV exV (k:=aU (v:=optp z15.2.1 g23) (k:=aV (k:=Dw (Dy ?_)))))))
 refine Dx (mV (k:=sV bj (k:=Dw ?_)))
 refine ciV h (λhb27 h=>?_) (λhb27 h=>?_)
 ·
  refine Dx (mV (k:=aV (k:=aV (k:=Dw ?_))))
  refine DB ?_
  intro w hw
  have hw:=hw.pad
  exact re_ r [1,0] h hF hw ⟨row21,0,[],rfl,rfl,hr22,rfl,hr26,trivial⟩
 refine DC (wc_ (Dx (mV (k:=mV (k:=sV (ldaV 2 (Adr.cs self) Em El) (k:=mU (v:=optp z15.2.1 g23) (k:=?_)))))))
 refine lk (intK F5) yM rfl rfl rfl rfl ?_
 intro g28 row29 hm30
 have hm30:=MapJ.new (T:=(a8.tob (88,gd))) hm30
 obtain⟨z31,hz32,h⟩:=bnd h
 have ho33:=jX hr25 hz32
 refine sV (aA (v:=.agg #[ii life,(pq gd),ii self.site,ii self.node,(pq g23),.map (some g28),.map none]) rfl (wj rfl rfl rfl (bS rfl hz32) rfl) (λw=>by kernel_rfl)) (k:=?_)
 refine bxV (v:=.agg #[ii life,(pq gd),ii self.site,ii self.node,(pq g23),.map (some g28),.map none]) λg34=>?_
 refine aV (k:=Dw (Dy (Dx (aV (k:=Dw (DD ?_))))))
 refine DO h (λ(s:Int×(List (Int×a8))×a6) σ w=>match s with | (f_37,m39,o42) => ∃(Γ35:Gh), ∃(row40:Rowb), ∃(row43:Rowb),slots σ [(0,(pq gd)),(2,ii size),(5,(pq g1)),(12,(pq g34)),(13,ii f_37)]∧CC F Γ35 [[(g34,.cells #[ii life,(pq gd),ii self.site,ii self.node,(pq g23),.map (some g28),.map none] 60 (0,0))],row40,row43,row24,[(g1,.cells (Adr.cs self).toArray 32 (0,0))]] w∧Gh.le Γ17 Γ35∧I64 f_37∧MapJ (intK F5) (a8.tob (88,gd)) Γ35 row40 g28 m39∧a6.ob ed Γ35 gd row43 o42∧True) ?_ ?_
 ·
  intro w hw
  exact⟨Γ17,row29,row21,slK,hw,gR,iV,hm30,hr22,trivial⟩
 rintro f45 ⟨f_37,m39,o42⟩ σ w h ⟨Γ35,row40,row43,hsl,hw,hl36,hr38,ho41,ho44,-⟩
 refine slV hsl hw [_,_,_,_,_] ?_; clear hw hsl
 refine Dy (Dx (mV (k:=sV dh (k:=Dw ?_))))
 refine ciV h (λhb49 h=>?_) (λhb49 h=>?_)
 ·
  refine DC (wc_ ?_)
  refine DL (λσ w => ∃(m52:List (Int×a8)), ∃(o55:a6), ∃(Γ50:Gh), ∃(row53:Rowb), ∃(row56:Rowb),iz f_37 f45 m52 o55=some r∧slots σ [(0,(pq gd)),(2,ii size),(5,(pq g1)),(12,(pq g34)),(13,ii f_37)]∧CC F Γ50 [[(g34,.cells #[ii life,(pq gd),ii self.site,ii self.node,(pq g23),.map (some g28),.map none] 60 (0,0))],row53,row56,row24,[(g1,.cells (Adr.cs self).toArray 32 (0,0))]] w∧Gh.le Γ35 Γ50∧MapJ (intK F5) (a8.tob (88,gd)) Γ50 row53 g28 m52∧a6.ob ed Γ50 gd row56 o55∧True) ?_ ?_
  ·
   refine DD (Dy (Dx (mV (k:=sV (q_fl 1 k8) (k:=sV (ldV 4 Ez) (k:=sV cW (k:=Dw ?_)))))))
   refine ciV h (λhb58 h=>?_) (λhb58 h=>?_)
   ·
    exact DE λw hw=>⟨m39,o42,Γ35,row40,row43,h,slK,hw,gR,ho41,ho44,trivial⟩
   refine DC (wc_ (Dy ?_))
   refine leV λh059=>?_
   refine db (CC F Γ35 [[(g34,.cells #[ii life,(pq gd),ii self.site,ii self.node,(pq g23),.map (some g28),.map none] 60 (0,0))],[(g1,.cells (Adr.cs self).toArray 32 (0,0))]]) (bo_ [0,3] gR h059) λk=>?_
   change WH _ _ _ _ (CC F Γ35 [_,_,_,_,_]) _ 16 _ _
   refine hV 0 k (q:=moV) (k:=hV 1 k (q:=nlV) (k:=hV 2 k (q:=q_fl 5 oM) (k:=hV 3 k (q:=ldV 0 isAgg57) (k:=hV 4 k (q:=moV) (k:=hV 5 k (q:=moV) (k:=hV 6 k (q:=moV) (k:=hV 9 k (q:=moV) (k:=?_))))))))
   refine wl_ 7 rfl ?_
   obtain⟨z60,hz61,h⟩:=bnd h
   refine vqV (caV call22) (λw hw=>lw (Γ:=Gh.all w) f_37 hr38 (Sat.all w) hz61) (k:=?_)
   refine Dz (nxV (bo_ [0,3] gR h059) λk=>?_)
   obtain⟨hk62,h⟩:=af h
   refine hV 8 k (q:=og rfl rfl rfl (show (⟨#[104]⟩:ByteArray).size≤lim by decide) (DP hk62)) (k:=wl_ 10 rfl ?_)
   obtain⟨hk63,h⟩:=af h
   obtain⟨z64,hz65,h⟩:=bnd h
   refine ecV [2] (caV call21) (λw hp=>oZ ho44 ((⟨#[104]⟩:ByteArray)++z60) (DP hk63) size hsize hp hz65) ?_
   rintro Γ66 _ _ hl67 ⟨row70,g72,row73,rfl,rfl,hr71,hr74,hr75,_⟩
   refine cwV 71 [_,_,_,_,_,_] ?_
   refine Dz (nxV (bo_ [2,4] hl67 h059) λk=>?_)
   refine hV 11 k (q:=moV) (k:=hV 12 k (q:=exV) (k:=hV 13 k (q:=exV) (k:=wl_ 14 rfl ?_)))
   obtain⟨z76,hz77,h⟩:=bnd h
   have ho78:=jX hr74 hz77
   obtain⟨hk79,h⟩:=af h
   refine AH (i:=3) (j:=1) (x:=f_37) rfl (by decide) rfl (ho41.mono hl67) ho78 (ta hk79) rfl rfl rfl F6 rfl rfl (bS rfl hz77) hr38 ?_
   intro row80 hm81
   change WR _ _ _ (CC F Γ66 [_,_,_,_,_]) _ _ _
   refine Dz (nxV (bo_ [2,3] hl67 h059) λk=>?_)
   refine hV 15 k (q:=aoV) (k:=?_)
   refine DH (by kernel_rfl) ?_
   change WC _ _ _ _ _ _
   refine Dx (mV (k:=sV bj (k:=Dw ?_)))
   refine ciV h (λhb82 h=>?_) (λhb82 h=>?_)
   ·
    refine Dx (mV (k:=aV (k:=aV (k:=Dw ?_))))
    refine DB ?_
    intro w hw
    have hw:=hw.pad
    exact re_ r [2,0] h hF hw ⟨row70,0,[],rfl,rfl,hr71,rfl,hr75,trivial⟩
   exact DC λw hw=>⟨(mput f_37 z76 m39),z64.1,Γ66,row80,row70,h,slK,(hw.on [2,0,0,0,0]),hl67,hm81,hr71,trivial⟩
  rintro σ w ⟨m52,o55,Γ50,row53,row56,h,hsl,hw,hl51,ho54,ho57,-⟩
  refine slV hsl hw [_,_,_,_,_] ?_; clear hw hsl
  refine DA ?_
  refine mV (k:=sV bN (k:=aV (k:=?_)))
  exact Dz λw hw=>⟨((w64 (f_37+1)),m52,o55),h,Γ50,row53,row56,slK,hw,(hl36.trans hl51),(ep _),ho54,ho57,trivial⟩
 refine DE ?_
 change WC _ _ _ _ _ _
 refine Dx (mV (k:=?_))
 refine lk (intK F5) (fnV g34) rfl rfl rfl rfl ?_
 intro g83 row84 hm85
 refine mV (k:=sV (bQ (v:=.func (.func 23) #[(pq g34)] #[]) rfl (by kernel_rfl)) (k:=?_))
 refine WR.insert rfl rfl rfl (λo' hg' hd' ho'=>?_)
 refine cv (i:=0) (x:=1) (v:=.func (.func 23) #[(pq g34)] #[]) (a:=23) hg' hd' ho' F7 rfl rfl (by kernel_rfl) rfl hm85 (by exact rfl) iV ?_
 intro row86 hm87
 refine mV (k:=sV (bQ (v:=.func (.func 24) #[(pq g34)] #[]) rfl (by kernel_rfl)) (k:=?_))
 refine WR.insert rfl rfl rfl (λo' hg' hd' ho'=>?_)
 refine cv (i:=0) (x:=2) (v:=.func (.func 24) #[(pq g34)] #[]) (a:=24) hg' hd' ho' F7 rfl rfl (by kernel_rfl) rfl hm87 (by exact rfl) iV ?_
 intro row88 hm89
 refine mV (k:=sV (bQ (v:=.func (.func 25) #[(pq g34)] #[]) rfl (by kernel_rfl)) (k:=?_))
 refine WR.insert rfl rfl rfl (λo' hg' hd' ho'=>?_)
 refine cv (i:=0) (x:=4) (v:=.func (.func 25) #[(pq g34)] #[]) (a:=25) hg' hd' ho' F7 rfl rfl (by kernel_rfl) rfl hm89 (by exact rfl) iV ?_
 intro row90 hm91
 refine mV (k:=sV (bQ (v:=.func (.func 26) #[(pq g34)] #[]) rfl (by kernel_rfl)) (k:=?_))
 refine WR.insert rfl rfl rfl (λo' hg' hd' ho'=>?_)
 refine cv (i:=0) (x:=6) (v:=.func (.func 26) #[(pq g34)] #[]) (a:=26) hg' hd' ho' F7 rfl rfl (by kernel_rfl) rfl hm91 (by exact rfl) iV ?_
 intro row92 hm93
 refine mV (k:=sV (bQ (v:=.func (.func 27) #[(pq g34)] #[]) rfl (by kernel_rfl)) (k:=?_))
 refine WR.insert rfl rfl rfl (λo' hg' hd' ho'=>?_)
 refine cv (i:=0) (x:=8) (v:=.func (.func 27) #[(pq g34)] #[]) (a:=27) hg' hd' ho' F7 rfl rfl (by kernel_rfl) rfl hm93 (by exact rfl) iV ?_
 intro row94 hm95
 refine mV (k:=sV (bQ (v:=.func (.func 28) #[(pq g34)] #[]) rfl (by kernel_rfl)) (k:=?_))
 refine WR.insert rfl rfl rfl (λo' hg' hd' ho'=>?_)
 refine cv (i:=0) (x:=9) (v:=.func (.func 28) #[(pq g34)] #[]) (a:=28) hg' hd' ho' F7 rfl rfl (by kernel_rfl) rfl hm95 (by exact rfl) iV ?_
 intro row96 hm97
 refine mV (k:=sV (bQ (v:=.func (.func 29) #[(pq g34)] #[]) rfl (by kernel_rfl)) (k:=?_))
 refine WR.insert rfl rfl rfl (λo' hg' hd' ho'=>?_)
 refine cv (i:=0) (x:=17) (v:=.func (.func 29) #[(pq g34)] #[]) (a:=29) hg' hd' ho' F7 rfl rfl (by kernel_rfl) rfl hm97 (by exact rfl) iV ?_
 intro row98 hm99
 refine mU (v:=.map (some g83)) (k:=sV nlV (k:=sV (q_fl 6 rX) (k:=stV 1 (.map (some g83)) #[ii life,(pq gd),ii self.site,ii self.node,(pq g23),.map (some g28),.map (some g83)] sizeOf58 (k:=Dw (Dx (mV (k:=aV (k:=?_))))))))
 refine aV (k:=Dw ?_)
 refine DB ?_
 intro w hw
 obtain⟨row_100,hrow_100,hob_100⟩:∃rw:Rowb,rw=([[(g34,.cells #[ii life,(pq gd),ii self.site,ii self.node,(pq g23),.map (some g28),.map (some g83)] 60 (0,0))],row24,row40,row98]:List Rowb).flatten∧aa.ob (60,gd) Γ35 g34 rw (⟨life,self.site,self.node,z31,m39,(mput 17 29 (mput 9 28 (mput 8 27 (mput 6 26 (mput 4 25 (mput 2 24 (mput 1 23 ([]:List (Int×Nat)))))))))⟩:aa):=⟨_,rfl,g23,row24,g28,row40,g83,row98,rfl,hlife,hself.1,hself.2,(ho33.mono hl36),ho41,hm99,trivial⟩
 have hw:=hw.fold (is:=[1,3,1,0]) rfl hrow_100
 cases h
 subst hF
 exact aI (is:=[1,0]) (by kernel_rfl) hw rfl ⟨row43,g34,row_100,rfl,rfl,ho44,hob_100,iV,trivial⟩
abbrev pJ(r:Rec)(U:List Rowb)(Γ:Gh)(v:Value):Prop := ∃(A0_1:Option Addr), ∃(c0_1:Nat),v = .agg #[.string r.key,.slice A0_1 r.vers.length c0_1]∧U = []∧Rec.fits Γ A0_1 c0_1 r∧True
theorem l6(key:ByteArray)(hkey:key.size≤lim)(s_:Int)(hs_:I64 s_)(n:Int)(hn:I64 n)(hp:Pre [] Γ w0){r:Rec}(h:j0 key s_ n=some r):Calls Tryz.prog 15 #[.string key,ii s_,ii n] w0 (Outc Γ [] w0 (pJ r)):=by
 refine cH (N:=14) (rs:=[.cell 6 36]) (args:=[.string key,ii s_,ii n]) func15 rfl ntmps15 results15 rfl ?_
 obtain⟨F,hF⟩:∃F:Fm,F=⟨ids [],w0,Γ⟩:=⟨_,rfl⟩
 refine DN (C:=CC F Γ []) ?_ (hF▸hp.start)
 refine Dx ?_
 refine alV ET λg1=>?_
 refine Dw (Dx (mV (k:=mV (k:=mV (k:=sV (aA (v:=.agg #[ii s_,ii n]) rfl (dJ rfl rfl) (λw=>by kernel_rfl)) (k:=sV (aA (v:=.agg #[ii s_,ii n,.slice none 0 0,.bool false,.string (⟨#[118]⟩:ByteArray)]) rfl (dJ rfl rfl) (λw=>by kernel_rfl)) (k:=?_)))))))
 refine bsV #[ii s_,ii n,.slice none 0 0,.bool false,.string (⟨#[118]⟩:ByteArray)] 72 λg2=>?_
 refine sV (aA (v:=.agg #[.string key,.slice (some ⟨g2,0,none⟩) 1 1]) rfl (dJ rfl rfl) (λw=>by kernel_rfl)) (k:=stV 1 (.agg #[.string key,.slice (some ⟨g2,0,none⟩) 1 1]) #[.string key,.slice (some ⟨g2,0,none⟩) 1 1] EU (k:=Dw ?_))
 refine DB ?_
 intro w hw
 have ho3:Own verT Γ 72 [(g2,.cells #[ii s_,ii n,.slice none 0 0,.bool false,.string (⟨#[118]⟩:ByteArray)] 72 (0,0))] (some ⟨g2,0,none⟩) 1 [(⟨(⟨s_,n⟩:Dot),[],false,(⟨#[118]⟩:ByteArray)⟩:Ver)]:=DM (T:=verT) (ys:=[(⟨(⟨s_,n⟩:Dot),[],false,(⟨#[118]⟩:ByteArray)⟩:Ver)]) [[ii s_,ii n,.slice none 0 0,.bool false,.string (⟨#[118]⟩:ByteArray)]] rfl (show 1≤lim by decide) ⟨⟨none,0,rfl,⟨hs_,hn,nilV,(show (⟨#[118]⟩:ByteArray).size≤lim by decide)⟩⟩,trivial⟩
 have hc8:=ho3.capz
 obtain⟨Γ4,hw,hl5,hr6⟩:=hw.seal (i:=0) rfl; have hs7:=ho3.sl hl5 hr6
 cases h
 subst hF
 exact⟨[.agg #[.string key,.slice (some ⟨g2,0,none⟩) [(⟨(⟨s_,n⟩:Dot),[],false,(⟨#[118]⟩:ByteArray)⟩:Ver)].length 1]],(dL (i:=1) (us:=[.string key,.slice (some ⟨g2,0,none⟩) [(⟨(⟨s_,n⟩:Dot),[],false,(⟨#[118]⟩:ByteArray)⟩:Ver)].length 1]) hw rfl EV EU (by kernel_rfl) rfl dK),aI (is:=[]) (by kernel_rfl) hw rfl ⟨(some ⟨g2,0,none⟩),1,rfl,rfl,⟨hkey,⟨hc8,hs7⟩⟩,trivial⟩⟩
abbrev pP(r:ae)(U:List Rowb)(Γ:Gh)(v:Value):Prop := ∃(A0_10:Option Addr), ∃(c0_10:Nat), ∃(A0_11:Option Addr), ∃(c0_11:Nat), ∃(A0_12:Option Addr), ∃(c0_12:Nat), ∃(A0_13:Option Addr), ∃(c0_13:Nat), ∃(A0_14:Option Addr), ∃(c0_14:Nat),v = .agg #[.int .i64 r.kind,.int .i64 r.from_.site,.int .i64 r.from_.node,.int .i64 r.to_.site,.int .i64 r.to_.node,.int .i64 r.id,.int .i64 r.n,.int .i64 r.for_,.int .i64 r.code,.string r.key,.slice A0_10 r.recs.length c0_10,.slice A0_11 r.vec.length c0_11,.slice A0_12 r.path.length c0_12,.slice A0_13 r.hashes.length c0_13,.slice A0_14 r.route.length c0_14]∧U = []∧ae.fits Γ A0_10 c0_10 A0_11 c0_11 A0_12 c0_12 A0_13 c0_13 A0_14 c0_14 r∧True
theorem kZ(to_:Int)(hto_:I64 to_){Ar_:Option Addr}{cr_:Nat}{r_:List Rec}(hr_:Sl recT Γ Ar_ r_)(hr_c:r_.length≤cr_)(hp:Pre [] Γ w0){r:ae}(h:j5 to_ r_=some r):Calls Tryz.prog 11 #[ii to_,.slice Ar_ r_.length cr_] w0 (Outc Γ [] w0 (pP r)):=by
 refine cH (N:=10) (rs:=[.cell 4 44]) (args:=[ii to_,.slice Ar_ r_.length cr_]) func11 rfl ntmps11 results11 rfl ?_
 obtain⟨F,hF⟩:∃F:Fm,F=⟨ids [],w0,Γ⟩:=⟨_,rfl⟩
 refine DN (C:=CC F Γ []) ?_ (hF▸hp.start)
 refine Dx ?_
 refine alV zeroValue44 λg1=>?_
 refine Dw (Dx ?_)
 obtain⟨z2,hz3,h⟩:=bnd h
 refine vqV (caV call8) (λw hw=>dQ (Γ:=Gh.all w) 0 iV (Sat.all w) hz3) (k:=mV (k:=?_))
 obtain⟨z4,hz5,h⟩:=bnd h
 refine vqV (caV call8) (λw hw=>dQ (Γ:=Gh.all w) to_ hto_ (Sat.all w) hz5) (k:=mV (k:=sV (aA (v:=.agg #[ii 1,ii z2.site,ii z2.node,ii z4.site,ii z4.node,ii 5,ii 0,ii 0,ii 0,.string ByteArray.empty,.slice Ar_ r_.length cr_,.slice none 0 0,.slice none 0 0,.slice none 0 0,.slice none 0 0]) rfl (wj rfl rfl rfl rfl rfl) (λw=>by kernel_rfl)) (k:=stV 0 (.agg #[ii 1,ii z2.site,ii z2.node,ii z4.site,ii z4.node,ii 5,ii 0,ii 0,ii 0,.string ByteArray.empty,.slice Ar_ r_.length cr_,.slice none 0 0,.slice none 0 0,.slice none 0 0,.slice none 0 0]) #[ii 1,ii z2.site,ii z2.node,ii z4.site,ii z4.node,ii 5,ii 0,ii 0,ii 0,.string ByteArray.empty,.slice Ar_ r_.length cr_,.slice none 0 0,.slice none 0 0,.slice none 0 0,.slice none 0 0] F8 (k:=Dw ?_))))
 refine DB ?_
 intro w hw
 obtain⟨hk6,h⟩:=af h
 obtain⟨hk7,h⟩:=af h
 obtain⟨hk8,h⟩:=af h
 obtain⟨hk9,h⟩:=af h
 cases h
 subst hF
 exact⟨[.agg #[ii 1,ii z2.site,ii z2.node,ii z4.site,ii z4.node,ii 5,ii 0,ii 0,ii 0,.string ByteArray.empty,.slice Ar_ r_.length cr_,.slice none 0 0,.slice none 0 0,.slice none 0 0,.slice none 0 0]],(dL (i:=0) (us:=[ii 1,ii z2.site,ii z2.node,ii z4.site,ii z4.node,ii 5,ii 0,ii 0,ii 0,.string ByteArray.empty,.slice Ar_ r_.length cr_,.slice none 0 0,.slice none 0 0,.slice none 0 0,.slice none 0 0]) hw rfl F9 F8 (by kernel_rfl) rfl dK),aI (is:=[]) (by kernel_rfl) hw rfl ⟨Ar_,cr_,none,0,none,0,none,0,none,0,rfl,rfl,⟨iV,(cj hk6),(cj hk7),(cj hk8),(cj hk9),iV,iV,iV,iV,(show (ByteArray.empty:ByteArray).size≤lim by decide),⟨hr_c,hr_⟩,nilV,nilV,nilV,nilV⟩,trivial⟩⟩
theorem po(a:Adr)(ha:Adr.fits Γ  a)(hs:Sat Γ w0){r:Bool}(h:ip a=some r):CQ Tryz.prog 53 #[.agg (Adr.cs a).toArray] w0 (.bool r):=by
 refine goQ [2] func53 ntmps53 results53 hs λF hF=>?_
 refine Dx ?_
 refine bxV (v:=.agg (Adr.cs a).toArray) λg1=>?_
 refine aV (k:=Dw (Dx (sV (q_fl 0 ik) (k:=sV (ldV 0 Ez) (k:=sV iA (k:=mV (k:=vG1 (h:=λhg2=>q_fl 0 ik) (k:=?_))))))))
 refine vG1 (h:=λhg3=>ldV 0 Ez (hx:=grV hg3)) (k:=vG1 (h:=λhg4=>dh rfl (grV hg4)) (k:=sV pkA (k:=mV (k:=vG1 (h:=λhg5=>q_fl 1 k8) (k:=vG1 (h:=λhg6=>ldV 0 Ez (hx:=grV hg6)) (k:=vG1 (h:=λhg7=>iA rfl (grV hg7)) (k:=sV pkA (k:=?_))))))))
 refine mV (k:=vG1 (h:=λhg8=>q_fl 1 k8) (k:=vG1 (h:=λhg9=>ldV 0 Ez (hx:=grV hg9)) (k:=vG1 (h:=λhg10=>dh rfl (grV hg10)) (k:=sV pkA (k:=aV (k:=Dw ?_))))))
 exact DB λw hw=>rq_ r h hF hw
theorem o5{Al:Option Addr}{cl:Nat}{l:List Rec}(hl:Sl recT Γ Al l)(hlc:l.length≤cl)(most:Int)(hmost:I64 most)(hs:Sat Γ w0){r:Bool}(h:eY l most=some r):CQ Tryz.prog 54 #[.slice Al l.length cl,ii most,.func (.func 55) #[] #[]] w0 (.bool r):=by
 refine goQ [6] func54 ntmps54 results54 hs λF hF=>?_
 refine Dx (aV (k:=Dw (Dy (Dx (mV (k:=sV (ab rfl Fa) (k:=mV (k:=?_))))))))
 refine Dw (DD ?_)
 refine DF h (λ(i2:Nat) (s:Unit) σ w=>match s with | ()=>slots σ [(0,.slice Al l.length cl),(1,ii most),(2,.func (.func 55) #[] #[]),(9,.slice Al l.length cl),(10,ii (l.length:Int)),(11,ii (i2:Int))]∧CC F Γ [] w∧True) ?_ ?_
 ·
  intro w hw
  exact⟨slK,hw,trivial⟩
 rintro f1 i2 ⟨⟩ σ w hi3 hlt4 hge5 ⟨hsl,hw,-⟩
 refine slV hsl hw [] ?_; clear hw hsl
 refine Dx (sV aw (k:=Dw (Dy ?_)))
 refine coV (λhb6=>?_) (λhb6=>?_)
 ·
  have hl7:=ilt hb6
  have h:=hlt4 hl7
  refine DC (wc_ (Dy (DD (Dx (sV (ar (i:=i2) Fa EU rfl rfl rfl hl7 (hl.some_ hl7)) (k:=?_))))))
  obtain⟨A8,c9,hx10⟩:=hl.recT_at i2
  refine sV (bT (c:=0) (vs:=(Rec.cs A8 c9 (gt l i2))) (hx10 hl7).2 rfl EV EU rfl rfl rfl) (k:=?_)
  refine alV ET λg11=>?_
  refine stV 0 (.agg (Rec.cs A8 c9 (gt l i2)).toArray) (Rec.cs A8 c9 (gt l i2)).toArray EU (k:=Dw (Dx (mU (v:=.func (.func 55) #[] #[]) (k:=sV (ldaV 0 (Rec.cs A8 c9 (gt l i2)) EV EU) (k:=?_)))))
  obtain⟨z12,hz13,h⟩:=bnd h
  refine vqV (aT (caps:=#[]) call55 rfl (by kernel_rfl) (by kernel_rfl)) (λw hw=>fw (Γ:=Gh.all w) (gt l i2) (Rec.fits_mono (hx10 hl7).1 hw.sat.le_all) (Sat.all w) hz13) (k:=sV bb (k:=Dw ?_))
  refine ciV h (λhb14 h=>?_) (λhb14 h=>?_)
  ·
   refine Dx (aV (k:=Dw ?_))
   exact DB λw hw=>rq_ r h hF hw
  refine DC (wc_ ?_)
  refine DA ?_
  refine sV (am rfl rfl rfl (ax hl7 hl.le)) (k:=mV (k:=?_))
  exact Dz λw hw=>⟨hl7,(),h,slK,(hw.on []),trivial⟩
 have h:=hge5 (ige hb6)
 refine DE ?_
 change WC _ _ _ _ _ _
 refine Dx (mV (k:=sV (ab rfl Fa) (k:=mV (k:=sV dh (k:=aV (k:=Dw ?_))))))
 exact DB λw hw=>rq_ r h hF hw
abbrev mT(r:Int×Int)(U:List Rowb)(Γ:Gh)(v:Value):Prop := ∃(g0_0:Nat), ∃(g0_1:Nat),v = .func (.func 96) #[] #[.pointer (some ⟨g0_0,0,none⟩),.pointer (some ⟨g0_1,0,none⟩)]∧U = [[(g0_0,.cells #[.int .i64 r.1] 2 (0,0))],[(g0_1,.cells #[.int .i64 r.2] 2 (0,0))]]∧I64 r.1∧I64 r.2∧True
theorem mR(lo:Int)(hlo:I64 lo)(hi:Int)(hhi:I64 hi)(hp:Pre [] Γ w0){r:Int×Int}(h:jk lo hi=some r):Calls Tryz.prog 57 #[ii lo,ii hi] w0 (Outc Γ [] w0 (mT r)):=by
 refine goV [4] func57 ntmps57 results57 hp λF hF=>?_
 refine Dx ?_
 refine bxV (v:=ii lo) λg1=>?_
 refine bxV (v:=ii hi) λg2=>?_
 refine aU (v:=.nilFunc) (k:=Dw (Dx (sV (bQ (v:=.func (.func 96) #[] #[(pq g1),(pq g2)]) rfl (by kernel_rfl)) (k:=aU (v:=.func (.func 96) #[] #[(pq g1),(pq g2)]) (k:=Dw ?_)))))
 exact DB λw hw=>re_ r [1,0] h hF hw ⟨g1,g2,rfl,rfl,hlo,hhi,trivial⟩
abbrev oz(r:Int×Int)(U:List Rowb)(Γ:Gh)(v:Value):Prop := ∃(g0_0:Nat), ∃(g0_1:Nat),v = .func (.func 97) #[] #[.pointer (some ⟨g0_0,0,none⟩),.pointer (some ⟨g0_1,0,none⟩)]∧U = [[(g0_0,.cells #[.int .i64 r.1] 3 (0,0))],[(g0_1,.cells #[.int .i64 r.2] 3 (0,0))]]∧I64 r.1∧I64 r.2∧True
theorem kj(lo:Int)(hlo:I64 lo)(hi:Int)(hhi:I64 hi)(hp:Pre [] Γ w0){r:Int×Int}(h:gW lo hi=some r):Calls Tryz.prog 59 #[ii lo,ii hi] w0 (Outc Γ [] w0 (oz r)):=by
 refine goV [4] func59 ntmps59 results59 hp λF hF=>?_
 refine Dx ?_
 refine bxV (v:=ii lo) λg1=>?_
 refine bxV (v:=ii hi) λg2=>?_
 refine aU (v:=.nilFunc) (k:=Dw (Dx (sV (bQ (v:=.func (.func 97) #[] #[(pq g1),(pq g2)]) rfl (by kernel_rfl)) (k:=aU (v:=.func (.func 97) #[] #[(pq g1),(pq g2)]) (k:=Dw ?_)))))
 exact DB λw hw=>re_ r [1,0] h hF hw ⟨g1,g2,rfl,rfl,hlo,hhi,trivial⟩
abbrev lJ(gb0:Nat)(b0v:Int)(gb1:Nat)(b1v:Int)(r:Bool)(U:List Rowb)(Γ:Gh)(v:Value):Prop:=v = .bool r∧U = [[(gb0,.cells #[.int .i64 b0v] 2 (0,0))],[(gb1,.cells #[.int .i64 b1v] 2 (0,0))]]∧True
theorem lG(n:Int)(hn:I64 n){gb0:Nat}(b0v:Int)(hb0v:I64 b0v){gb1:Nat}(b1v:Int)(hb1v:I64 b1v)(hp:Pre [[(gb0,.cells #[ii b0v] 2 (0,0))],[(gb1,.cells #[ii b1v] 2 (0,0))]] Γ w0){r:Bool}(h:iD n b0v b1v=some r):Calls Tryz.prog 96 #[ii n,(pq gb0),(pq gb1)] w0 (Outc Γ [[(gb0,.cells #[ii b0v] 2 (0,0))],[(gb1,.cells #[ii b1v] 2 (0,0))]] w0 (lJ gb0 b0v gb1 b1v r)):=by
 refine goV [4] func96 ntmps96 results96 hp λF hF=>?_
 refine Dx (aV (k:=Dw (Dx (mV (k:=sV (ldV 0 EH) (k:=sV iA (k:=mV (k:=?_))))))))
 refine vG1 (h:=λhg1=>moV) (k:=vG1 (h:=λhg2=>ldV 1 EH) (k:=vG1 (h:=λhg3=>dh rfl (grV hg3) (grV hg3)) (k:=sV pkA (k:=aV (k:=Dw ?_)))))
 exact DB λw hw=>re_ r [0,0] h hF hw ⟨rfl,rfl,trivial⟩
abbrev pN(gok0:Nat)(ok0v:Int)(gok1:Nat)(ok1v:Int)(r:Bool)(U:List Rowb)(Γ:Gh)(v:Value):Prop:=v = .bool r∧U = [[(gok0,.cells #[.int .i64 ok0v] 2 (0,0))],[(gok1,.cells #[.int .i64 ok1v] 2 (0,0))]]∧True
theorem qs{Al:Option Addr}{cl:Nat}{l:List Int}(hl:Sl intT Γ Al l)(hlc:l.length≤cl)(most:Int)(hmost:I64 most){gok0:Nat}(ok0v:Int)(hok0v:I64 ok0v){gok1:Nat}(ok1v:Int)(hok1v:I64 ok1v)(hp:Pre [[(gok0,.cells #[ii ok0v] 2 (0,0))],[(gok1,.cells #[ii ok1v] 2 (0,0))]] Γ w0){r:Bool}(h:lh l most ok0v ok1v=some r):Calls Tryz.prog 56 #[.slice Al l.length cl,ii most,.func (.func 96) #[] #[(pq gok0),(pq gok1)]] w0 (Outc Γ [[(gok0,.cells #[ii ok0v] 2 (0,0))],[(gok1,.cells #[ii ok1v] 2 (0,0))]] w0 (pN gok0 ok0v gok1 ok1v r)):=by
 refine goV [6] func56 ntmps56 results56 hp λF hF=>?_
 refine Dx (aV (k:=Dw (Dy (Dx (mV (k:=sV (ab rfl underlying40) (k:=mV (k:=?_))))))))
 refine Dw (DD ?_)
 refine DF h (λ(i4:Nat) (s:Unit) σ w=>match s with | () => ∃(Γ1:Gh),slots σ [(0,.slice Al l.length cl),(1,ii most),(2,.func (.func 96) #[] #[(pq gok0),(pq gok1)]),(9,.slice Al l.length cl),(10,ii (l.length:Int)),(11,ii (i4:Int))]∧CC F Γ1 [[(gok0,.cells #[ii ok0v] 2 (0,0))],[(gok1,.cells #[ii ok1v] 2 (0,0))]] w∧Gh.le Γ Γ1∧True) ?_ ?_
 ·
  intro w hw
  exact⟨Γ,slK,hw,gR,trivial⟩
 rintro f3 i4 ⟨⟩ σ w hi5 hlt6 hge7 ⟨Γ1,hsl,hw,hl2,-⟩
 refine slV hsl hw [_,_] ?_; clear hw hsl
 refine Dx (sV aw (k:=Dw (Dy ?_)))
 refine coV (λhb8=>?_) (λhb8=>?_)
 ·
  have hl9:=ilt hb8
  have h:=hlt6 hl9
  refine DC (wc_ (Dy (DD (Dx (sV (ar (i:=i4) underlying40 EG rfl rfl rfl hl9 ((hl.mono hl2).some_ hl9)) (k:=sV (q_ld (c:=0) (v:=ii (gt l i4)) ((hl.mono hl2).intT_at hl9).2 rfl EH rfl rfl) (k:=aV (k:=?_))))))))
  refine Dw (Dx (mU (v:=.func (.func 96) #[] #[(pq gok0),(pq gok1)]) (k:=mV (k:=?_))))
  obtain⟨z10,hz11,h⟩:=bnd h
  refine ecV [0,0] (aT (caps:=#[(pq gok0),(pq gok1)]) call96 rfl (by kernel_rfl) (by kernel_rfl)) (λw hp=>lG (gt l i4) ((hl.mono hl2).intT_at hl9).1 ok0v hok0v ok1v hok1v hp hz11) ?_
  rintro Γ12 _ _ hl13 ⟨rfl,rfl,_⟩
  refine cwV 17 [_,_] (sV bb (k:=Dw ?_))
  refine ciV h (λhb16 h=>?_) (λhb16 h=>?_)
  ·
   refine Dx (aV (k:=Dw ?_))
   exact DB λw hw=>re_ r [0,0] h hF hw ⟨rfl,rfl,trivial⟩
  refine DC (wc_ ?_)
  refine DA ?_
  refine sV (am rfl rfl rfl (ax hl9 (hl.mono hl2).le)) (k:=mV (k:=?_))
  exact Dz λw hw=>⟨hl9,(),h,Γ12,slK,hw,(hl2.trans hl13),trivial⟩
 have h:=hge7 (ige hb8)
 refine DE ?_
 change WC _ _ _ _ _ _
 refine Dx (mV (k:=sV (ab rfl underlying40) (k:=mV (k:=sV dh (k:=aV (k:=Dw ?_))))))
 exact DB λw hw=>re_ r [0,0] h hF hw ⟨rfl,rfl,trivial⟩
abbrev mC(gb0:Nat)(b0v:Int)(gb1:Nat)(b1v:Int)(r:Bool)(U:List Rowb)(Γ:Gh)(v:Value):Prop:=v = .bool r∧U = [[(gb0,.cells #[.int .i64 b0v] 3 (0,0))],[(gb1,.cells #[.int .i64 b1v] 3 (0,0))]]∧True
theorem n9(n:Int)(hn:I64 n){gb0:Nat}(b0v:Int)(hb0v:I64 b0v){gb1:Nat}(b1v:Int)(hb1v:I64 b1v)(hp:Pre [[(gb0,.cells #[ii b0v] 3 (0,0))],[(gb1,.cells #[ii b1v] 3 (0,0))]] Γ w0){r:Bool}(h:ju n b0v b1v=some r):Calls Tryz.prog 97 #[ii n,(pq gb0),(pq gb1)] w0 (Outc Γ [[(gb0,.cells #[ii b0v] 3 (0,0))],[(gb1,.cells #[ii b1v] 3 (0,0))]] w0 (mC gb0 b0v gb1 b1v r)):=by
 refine goV [4] func97 ntmps97 results97 hp λF hF=>?_
 refine Dx (aV (k:=Dw (Dx (mV (k:=sV (ldV 0 Ez) (k:=sV iA (k:=mV (k:=?_))))))))
 refine vG1 (h:=λhg1=>moV) (k:=vG1 (h:=λhg2=>ldV 1 Ez) (k:=vG1 (h:=λhg3=>dh rfl (grV hg3) (grV hg3)) (k:=sV pkA (k:=aV (k:=Dw ?_)))))
 exact DB λw hw=>re_ r [0,0] h hF hw ⟨rfl,rfl,trivial⟩
abbrev sB(gok0:Nat)(ok0v:Int)(gok1:Nat)(ok1v:Int)(r:Bool)(U:List Rowb)(Γ:Gh)(v:Value):Prop:=v = .bool r∧U = [[(gok0,.cells #[.int .i64 ok0v] 3 (0,0))],[(gok1,.cells #[.int .i64 ok1v] 3 (0,0))]]∧True
theorem mH{Al:Option Addr}{cl:Nat}{l:List Int}(hl:Sl intT Γ Al l)(hlc:l.length≤cl)(most:Int)(hmost:I64 most){gok0:Nat}(ok0v:Int)(hok0v:I64 ok0v){gok1:Nat}(ok1v:Int)(hok1v:I64 ok1v)(hp:Pre [[(gok0,.cells #[ii ok0v] 3 (0,0))],[(gok1,.cells #[ii ok1v] 3 (0,0))]] Γ w0){r:Bool}(h:ka l most ok0v ok1v=some r):Calls Tryz.prog 58 #[.slice Al l.length cl,ii most,.func (.func 97) #[] #[(pq gok0),(pq gok1)]] w0 (Outc Γ [[(gok0,.cells #[ii ok0v] 3 (0,0))],[(gok1,.cells #[ii ok1v] 3 (0,0))]] w0 (sB gok0 ok0v gok1 ok1v r)):=by
 refine goV [6] func58 ntmps58 results58 hp λF hF=>?_
 refine Dx (aV (k:=Dw (Dy (Dx (mV (k:=sV (ab rfl underlying41) (k:=mV (k:=?_))))))))
 refine Dw (DD ?_)
 refine DF h (λ(i4:Nat) (s:Unit) σ w=>match s with | () => ∃(Γ1:Gh),slots σ [(0,.slice Al l.length cl),(1,ii most),(2,.func (.func 97) #[] #[(pq gok0),(pq gok1)]),(9,.slice Al l.length cl),(10,ii (l.length:Int)),(11,ii (i4:Int))]∧CC F Γ1 [[(gok0,.cells #[ii ok0v] 3 (0,0))],[(gok1,.cells #[ii ok1v] 3 (0,0))]] w∧Gh.le Γ Γ1∧True) ?_ ?_
 ·
  intro w hw
  exact⟨Γ,slK,hw,gR,trivial⟩
 rintro f3 i4 ⟨⟩ σ w hi5 hlt6 hge7 ⟨Γ1,hsl,hw,hl2,-⟩
 refine slV hsl hw [_,_] ?_; clear hw hsl
 refine Dx (sV aw (k:=Dw (Dy ?_)))
 refine coV (λhb8=>?_) (λhb8=>?_)
 ·
  have hl9:=ilt hb8
  have h:=hlt6 hl9
  refine DC (wc_ (Dy (DD (Dx (sV (ar (i:=i4) underlying41 Ey rfl rfl rfl hl9 ((hl.mono hl2).some_ hl9)) (k:=sV (q_ld (c:=0) (v:=ii (gt l i4)) ((hl.mono hl2).intT_at hl9).2 rfl Ez rfl rfl) (k:=aV (k:=?_))))))))
  refine Dw (Dx (mU (v:=.func (.func 97) #[] #[(pq gok0),(pq gok1)]) (k:=mV (k:=?_))))
  obtain⟨z10,hz11,h⟩:=bnd h
  refine ecV [0,0] (aT (caps:=#[(pq gok0),(pq gok1)]) call97 rfl (by kernel_rfl) (by kernel_rfl)) (λw hp=>n9 (gt l i4) ((hl.mono hl2).intT_at hl9).1 ok0v hok0v ok1v hok1v hp hz11) ?_
  rintro Γ12 _ _ hl13 ⟨rfl,rfl,_⟩
  refine cwV 17 [_,_] (sV bb (k:=Dw ?_))
  refine ciV h (λhb16 h=>?_) (λhb16 h=>?_)
  ·
   refine Dx (aV (k:=Dw ?_))
   exact DB λw hw=>re_ r [0,0] h hF hw ⟨rfl,rfl,trivial⟩
  refine DC (wc_ ?_)
  refine DA ?_
  refine sV (am rfl rfl rfl (ax hl9 (hl.mono hl2).le)) (k:=mV (k:=?_))
  exact Dz λw hw=>⟨hl9,(),h,Γ12,slK,hw,(hl2.trans hl13),trivial⟩
 have h:=hge7 (ige hb8)
 refine DE ?_
 change WC _ _ _ _ _ _
 refine Dx (mV (k:=sV (ab rfl underlying41) (k:=mV (k:=sV dh (k:=aV (k:=Dw ?_))))))
 exact DB λw hw=>re_ r [0,0] h hF hw ⟨rfl,rfl,trivial⟩
theorem lQ{Am10:Option Addr}{cm10:Nat}{Am11:Option Addr}{cm11:Nat}{Am12:Option Addr}{cm12:Nat}{Am13:Option Addr}{cm13:Nat}{Am14:Option Addr}{cm14:Nat}(m:ae)(hm:ae.fits Γ Am10 cm10 Am11 cm11 Am12 cm12 Am13 cm13 Am14 cm14 m)(hs:Sat Γ w0){r:Bool}(h:fA m=some r):CQ Tryz.prog 30 #[.agg (ae.cs Am10 cm10 Am11 cm11 Am12 cm12 Am13 cm13 Am14 cm14 m).toArray] w0 (.bool r):=by
 refine goQ [2] func30 ntmps30 results30 hs λF hF=>?_
 refine Dx ?_
 refine bxV (v:=.agg (ae.cs Am10 cm10 Am11 cm11 Am12 cm12 Am13 cm13 Am14 cm14 m).toArray) λg1=>?_
 refine aV (k:=Dw (Dy ?_))
 refine leV λh02=>?_
 refine db (CC F Γ [[(g1,.cells (ae.cs Am10 cm10 Am11 cm11 Am12 cm12 Am13 cm13 Am14 cm14 m).toArray 44 (0,0))]]) (bo_ [0] gR h02) λk=>?_
 change WH _ _ _ _ (CC F Γ [_]) _ 87 #[false,false,false,false,false,false,false,false,false,false,false,false,false,false,false,false,false,false,false,false,false,false,false,false,false,false,false,false,false,false,false,false,false,false,false,false,false,false,false,false,false,false,false,false,false,false,false,false,false,false,false,false,false,false,false,false,false,false,false,false,false,false,false,false,false,false,false,false,false,false,false,false,false,false,false,false,false,false,false,false,false,false,false,false,false,false,false] _
 refine hV 0 k (q:=q_fl 0 mq) (k:=hV 1 k (q:=ldV 0 Ez) (k:=hV 2 k (q:=iA) (k:=hV 3 k (q:=moV) (k:=hV1 4 k (h:=λhg3=>q_fl 0 mq) (k:=hV1 5 k (h:=λhg4=>ldV 0 Ez (hx:=grV hg4)) (k:=hV1 6 k (h:=λhg5=>dh rfl (grV hg5)) (k:=hV 7 k (q:=pkA) (k:=?_))))))))
 refine hV 8 k (q:=moV) (k:=hV1 9 k (h:=λhg6=>q_fl 1 gL) (k:=hV1 10 k (h:=λhg7=>ldaV 0 (Adr.cs m.from_) Em El (hx:=grV hg7)) (k:=wl_ 11 rfl ?_)))
 obtain⟨z9,hz10,h⟩:=bnd h
 refine vC1 (h:=λhg8=>aH (aC call53 rfl rfl (kC (grV hg8))) (λw hw=>po (Γ:=Gh.all w) m.from_ ⟨hm.2.1,hm.2.2.1⟩ (Sat.all w) (bU hz10 hg8))) (k:=?_)
 refine Dz (nxV (bo_ [0] gR h02) λk=>?_)
 refine hV 12 k (q:=pkA) (k:=hV 13 k (q:=moV) (k:=hV1 14 k (h:=λhg11=>q_fl 3 jY) (k:=hV1 15 k (h:=λhg12=>ldaV 0 (Adr.cs m.to_) Em El (hx:=grV hg12)) (k:=wl_ 16 rfl ?_))))
 obtain⟨z14,hz15,h⟩:=bnd h
 refine vC1 (h:=λhg13=>aH (aC call53 rfl rfl (kC (grV hg13))) (λw hw=>po (Γ:=Gh.all w) m.to_ ⟨hm.2.2.2.1,hm.2.2.2.2.1⟩ (Sat.all w) (bU hz15 hg13))) (k:=?_)
 refine Dz (nxV (bo_ [0] gR h02) λk=>?_)
 refine hV 17 k (q:=pkA) (k:=hV 18 k (q:=moV) (k:=hV1 19 k (h:=λhg16=>q_fl 5 ki) (k:=hV1 20 k (h:=λhg17=>ldV 0 EH (hx:=grV hg17)) (k:=hV1 21 k (h:=λhg18=>iA rfl (grV hg18)) (k:=hV 22 k (q:=pkA) (k:=hV 23 k (q:=moV) (k:=hV1 24 k (h:=λhg19=>q_fl 6 zw) (k:=?_))))))))
 refine hV1 25 k (h:=λhg20=>ldV 0 EH (hx:=grV hg20)) (k:=hV1 26 k (h:=λhg21=>iA rfl (grV hg21)) (k:=hV 27 k (q:=pkA) (k:=hV 28 k (q:=moV) (k:=hV1 29 k (h:=λhg22=>q_fl 7 k7) (k:=hV1 30 k (h:=λhg23=>ldV 0 Ez (hx:=grV hg23)) (k:=hV1 31 k (h:=λhg24=>iA rfl (grV hg24)) (k:=hV 32 k (q:=pkA) (k:=?_))))))))
 refine hV 33 k (q:=moV) (k:=hV1 34 k (h:=λhg25=>q_fl 7 k7) (k:=hV1 35 k (h:=λhg26=>ldV 0 Ez (hx:=grV hg26)) (k:=hV1 36 k (h:=λhg27=>dh rfl (grV hg27)) (k:=hV 37 k (q:=pkA) (k:=hV 38 k (q:=moV) (k:=hV1 39 k (h:=λhg28=>q_fl 8 uQ) (k:=hV1 40 k (h:=λhg29=>ldV 0 EA (hx:=grV hg29)) (k:=?_))))))))
 refine hV1 41 k (h:=λhg30=>iA rfl (grV hg30)) (k:=hV 42 k (q:=pkA) (k:=hV 43 k (q:=moV) (k:=hV1 44 k (h:=λhg31=>q_fl 8 uQ) (k:=hV1 45 k (h:=λhg32=>ldV 0 EA (hx:=grV hg32)) (k:=hV1 46 k (h:=λhg33=>dh rfl (grV hg33)) (k:=hV 47 k (q:=pkA) (k:=hV 48 k (q:=moV) (k:=?_))))))))
 refine hV1 49 k (h:=λhg34=>q_fl 9 zj) (k:=hV1 50 k (h:=λhg35=>ldV 0 En (hx:=grV hg35)) (k:=hV1 51 k (h:=λhg36=>bg rfl Ek (grV hg36)) (k:=hV1 52 k (h:=λhg37=>dh rfl (grV hg37)) (k:=hV 53 k (q:=pkA) (k:=hV 54 k (q:=moV) (k:=hV1 55 k (h:=λhg38=>q_fl 10 fZ) (k:=hV1 56 k (h:=λhg39=>ldV 0 Fb (hx:=grV hg39)) (k:=?_))))))))
 refine hV1 57 k (h:=λhg40=>q_fl 10 fZ) (k:=hV1 58 k (h:=λhg41=>ldV 0 Fb (hx:=grV hg41)) (k:=hV1 59 k (h:=λhg42=>ab rfl Fa (grV hg42)) (k:=wl_ 60 rfl ?_)))
 obtain⟨z44,hz45,h⟩:=bnd h
 refine vC1 (h:=λhg43=>aH (aC call54 rfl rfl (x9 (grV hg43) (grV hg43) rfl)) (λw hw=>o5 (Γ:=Gh.all w) (hm.2.2.2.2.2.2.2.2.2.2.1.2.mono hw.sat.le_all) hm.2.2.2.2.2.2.2.2.2.2.1.1 (m.recs.length:Int) (lS hm.2.2.2.2.2.2.2.2.2.2.1.2.le) (Sat.all w) (bU hz45 hg43))) (k:=?_)
 refine Dz (nxV (bo_ [0] gR h02) λk=>?_)
 refine hV 61 k (q:=pkA) (k:=hV 62 k (q:=moV) (k:=hV1 63 k (h:=λhg46=>q_fl 11 Aj) (k:=hV1 64 k (h:=λhg47=>ldV 0 isAgg40 (hx:=grV hg47)) (k:=?_))))
 refine(Bool.eq_false_or_eq_true ((((((((((((decide (1≤m.kind))&&(decide (m.kind≤17)))&&z9)&&z14)&&(decide (0≤m.id)))&&(decide (0≤m.n)))&&(decide (0≤m.for_)))&&(decide (m.for_≤8)))&&(decide (0≤m.code)))&&(decide (m.code≤999)))&&(decide ((m.key.size:Int)≤32)))&&z44)).elim (λhb48=>?_) (λhb48=>?_)
 ·
  have h:=bt hb48 h
  refine wl_ 65 rfl ?_
  refine WR.sat (c0:=true) (g:=((((((((((((decide (1≤m.kind))&&(decide (m.kind≤17)))&&z9)&&z14)&&(decide (0≤m.id)))&&(decide (0≤m.n)))&&(decide (0≤m.for_)))&&(decide (m.for_≤8)))&&(decide (0≤m.code)))&&(decide (m.code≤999)))&&(decide ((m.key.size:Int)≤32)))&&z44)) rfl rfl rfl hb48 ?_
  obtain⟨z49,hz50,h⟩:=bnd h
  refine ecV [] (caV call57) (λw hp=>mR 0 iV 4611686018427387904 iV hp hz50) ?_
  rintro Γ51 _ _ hl52 ⟨g55,g57,rfl,rfl,hr56,hr58,_⟩
  refine cwV 68 [_,_,_] ?_
  refine Dz (nxV (bo_ [2] hl52 h02) λk=>?_)
  refine wl_ 66 rfl ?_
  refine WR.sat (c0:=true) (g:=((((((((((((decide (1≤m.kind))&&(decide (m.kind≤17)))&&z9)&&z14)&&(decide (0≤m.id)))&&(decide (0≤m.n)))&&(decide (0≤m.for_)))&&(decide (m.for_≤8)))&&(decide (0≤m.code)))&&(decide (m.code≤999)))&&(decide ((m.key.size:Int)≤32)))&&z44)) rfl rfl rfl hb48 ?_
  obtain⟨z59,hz60,h⟩:=bnd h
  refine ecV [0,0] (aC call56 rfl rfl (x9 (grV hb48) rfl rfl)) (λw hp=>qs (hm.2.2.2.2.2.2.2.2.2.2.2.1.2.mono hl52) hm.2.2.2.2.2.2.2.2.2.2.2.1.1 16 iV z49.1 hr56 z49.2 hr58 hp hz60) ?_
  rintro Γ61 _ _ hl62 ⟨rfl,rfl,_⟩
  refine cwV 69 [_,_,_] ?_
  refine Dz (nxV (bo_ [2] (hl52.trans hl62) h02) λk=>?_)
  refine hV 67 k (q:=ke (v:=.bool z59) rfl rfl hb48 (by kernel_rfl)) (k:=hV 68 k (q:=moV) (k:=hV1 69 k (h:=λhg65=>q_fl 12 xL) (k:=hV1 70 k (h:=λhg66=>ldV 0 isAgg41 (hx:=grV hg66)) (k:=?_))))
  refine(Bool.eq_false_or_eq_true z59).elim (λhb67=>?_) (λhb67=>?_)
  ·
   have h:=bt hb67 h
   refine wl_ 71 rfl ?_
   refine WR.sat (c0:=true) (g:=z59) rfl rfl rfl hb67 ?_
   obtain⟨z68,hz69,h⟩:=bnd h
   refine ecV [] (caV call59) (λw hp=>kj 0 iV 15 iV hp hz69) ?_
   rintro Γ70 _ _ hl71 ⟨g74,g76,rfl,rfl,hr75,hr77,_⟩
   refine cwV 74 [_,_,_,_,_] ?_
   refine Dz (nxV (bo_ [4] ((hl52.trans hl62).trans hl71) h02) λk=>?_)
   refine wl_ 72 rfl ?_
   refine WR.sat (c0:=true) (g:=z59) rfl rfl rfl hb67 ?_
   obtain⟨z78,hz79,h⟩:=bnd h
   refine ecV [0,0] (aC call58 rfl rfl (x9 (grV hb67) rfl rfl)) (λw hp=>mH (hm.2.2.2.2.2.2.2.2.2.2.2.2.1.2.mono ((hl52.trans hl62).trans hl71)) hm.2.2.2.2.2.2.2.2.2.2.2.2.1.1 2 iV z68.1 hr75 z68.2 hr77 hp hz79) ?_
   rintro Γ80 _ _ hl81 ⟨rfl,rfl,_⟩
   refine cwV 75 [_,_,_,_,_] ?_
   refine Dz (nxV (bo_ [4] (((hl52.trans hl62).trans hl71).trans hl81) h02) λk=>?_)
   refine hV 73 k (q:=ke (v:=.bool z78) rfl rfl hb67 (by kernel_rfl)) (k:=hV 74 k (q:=moV) (k:=hV1 75 k (h:=λhg84=>q_fl 13 y5) (k:=hV1 76 k (h:=λhg85=>ldV 0 isAgg42 (hx:=grV hg85)) (k:=hV1 77 k (h:=λhg86=>ab rfl underlying42 (grV hg86)) (k:=hV1 78 k (h:=λhg87=>dh rfl (grV hg87)) (k:=hV 79 k (q:=pkA) (k:=hV 80 k (q:=moV) (k:=?_))))))))
   refine hV1 81 k (h:=λhg88=>q_fl 14 y9) (k:=hV1 82 k (h:=λhg89=>ldV 0 isAgg41 (hx:=grV hg89)) (k:=?_))
   refine(Bool.eq_false_or_eq_true (z78&&(decide ((m.hashes.length:Int)≤16)))).elim (λhb90=>?_) (λhb90=>?_)
   ·
    have h:=bt hb90 h
    refine wl_ 83 rfl ?_
    refine WR.sat (c0:=true) (g:=(z78&&(decide ((m.hashes.length:Int)≤16)))) rfl rfl rfl hb90 ?_
    obtain⟨z91,hz92,h⟩:=bnd h
    refine ecV [] (caV call59) (λw hp=>kj 1 iV 16 iV hp hz92) ?_
    rintro Γ93 _ _ hl94 ⟨g97,g99,rfl,rfl,hr98,hr100,_⟩
    refine cwV 86 [_,_,_,_,_,_,_] ?_
    refine Dz (nxV (bo_ [6] ((((hl52.trans hl62).trans hl71).trans hl81).trans hl94) h02) λk=>?_)
    refine wl_ 84 rfl ?_
    refine WR.sat (c0:=true) (g:=(z78&&(decide ((m.hashes.length:Int)≤16)))) rfl rfl rfl hb90 ?_
    obtain⟨z101,hz102,h⟩:=bnd h
    refine ecV [0,0] (aC call58 rfl rfl (x9 (grV hb90) rfl rfl)) (λw hp=>mH (hm.2.2.2.2.2.2.2.2.2.2.2.2.2.2.2.mono ((((hl52.trans hl62).trans hl71).trans hl81).trans hl94)) hm.2.2.2.2.2.2.2.2.2.2.2.2.2.2.1 16 iV z91.1 hr98 z91.2 hr100 hp hz102) ?_
    rintro Γ103 _ _ hl104 ⟨rfl,rfl,_⟩
    refine cwV 87 [_,_,_,_,_,_,_] ?_
    refine Dz (nxV (bk_ (((((hl52.trans hl62).trans hl71).trans hl81).trans hl94).trans hl104) h02 (.cons _ (.cons _ (.cons _ (.cons _ (.cons _ (.cons _ (.cons_cons _ .slnil)))))))) λk=>?_)
    refine hV 85 k (q:=ke (v:=.bool z101) rfl rfl hb90 (by kernel_rfl)) (k:=hV 86 k (q:=aoV) (k:=?_))
    refine DH (by kernel_rfl) ?_
    change WC _ _ _ _ _ _
    exact DB λw hw=>rq_ r h hF hw
   have h:=bf hb90 h
   refine hg1 (g:=(z78&&(decide ((m.hashes.length:Int)≤16)))) (i:=83) (v:=undef) rfl (by kernel_rfl) rfl rfl rfl rfl rfl (bo_ [4] (((hl52.trans hl62).trans hl71).trans hl81) h02) (bB hb90) ?_
   refine DK (v:=undef) (aJ hb90) ?_
   refine hg1 (g:=(z78&&(decide ((m.hashes.length:Int)≤16)))) (i:=84) (v:=undef) rfl (by kernel_rfl) rfl rfl rfl rfl rfl (bo_ [4] (((hl52.trans hl62).trans hl71).trans hl81) h02) (bB hb90) ?_
   refine DK (v:=undef) (aJ hb90) ?_
   refine hV 85 (bo_ [4] (((hl52.trans hl62).trans hl71).trans hl81) h02) (q:=jv (v:=.bool false) rfl rfl hb90 (by kernel_rfl)) (k:=hV 86 (bo_ [4] (((hl52.trans hl62).trans hl71).trans hl81) h02) (q:=aoV) (k:=?_))
   refine DH (by kernel_rfl) ?_
   change WC _ _ _ _ _ _
   exact DB λw hw=>rq_ r h hF hw
  have h:=bf hb67 h
  refine hg1 (g:=z59) (i:=71) (v:=undef) rfl (by kernel_rfl) rfl rfl rfl rfl rfl (bo_ [2] (hl52.trans hl62) h02) (bB hb67) ?_
  refine DK (v:=undef) (aJ hb67) ?_
  refine hg1 (g:=z59) (i:=72) (v:=undef) rfl (by kernel_rfl) rfl rfl rfl rfl rfl (bo_ [2] (hl52.trans hl62) h02) (bB hb67) ?_
  refine DK (v:=undef) (aJ hb67) ?_
  refine hV 73 (bo_ [2] (hl52.trans hl62) h02) (q:=jv (v:=.bool false) rfl rfl hb67 (by kernel_rfl)) (k:=hV 74 (bo_ [2] (hl52.trans hl62) h02) (q:=moV) (k:=?_))
  refine hg1 (g:=false) (i:=75) (v:=undef) rfl (by kernel_rfl) rfl rfl rfl rfl rfl (bo_ [2] (hl52.trans hl62) h02) (bB rfl) ?_
  refine DK (v:=undef) (aJ rfl) ?_
  refine hg1 (g:=false) (i:=76) (v:=undef) rfl (by kernel_rfl) rfl rfl rfl rfl rfl (bo_ [2] (hl52.trans hl62) h02) (bB rfl) ?_
  refine DK (v:=undef) (aJ rfl) ?_
  refine hg1 (g:=false) (i:=77) (v:=undef) rfl (by kernel_rfl) rfl rfl rfl rfl rfl (bo_ [2] (hl52.trans hl62) h02) (bB rfl) ?_
  refine DK (v:=undef) (aJ rfl) ?_
  refine hg1 (g:=false) (i:=78) (v:=undef) rfl (by kernel_rfl) rfl rfl rfl rfl rfl (bo_ [2] (hl52.trans hl62) h02) (bB rfl) ?_
  refine DK (v:=undef) (aJ rfl) ?_
  refine hV 79 (bo_ [2] (hl52.trans hl62) h02) (q:=kI (v:=.bool false) rfl rfl rfl) (k:=hV 80 (bo_ [2] (hl52.trans hl62) h02) (q:=moV) (k:=?_))
  refine hg1 (g:=false) (i:=81) (v:=undef) rfl (by kernel_rfl) rfl rfl rfl rfl rfl (bo_ [2] (hl52.trans hl62) h02) (bB rfl) ?_
  refine DK (v:=undef) (aJ rfl) ?_
  refine hg1 (g:=false) (i:=82) (v:=undef) rfl (by kernel_rfl) rfl rfl rfl rfl rfl (bo_ [2] (hl52.trans hl62) h02) (bB rfl) ?_
  refine DK (v:=undef) (aJ rfl) ?_
  refine hg1 (g:=false) (i:=83) (v:=undef) rfl (by kernel_rfl) rfl rfl rfl rfl rfl (bo_ [2] (hl52.trans hl62) h02) (bB rfl) ?_
  refine DK (v:=undef) (aJ rfl) ?_
  refine hg1 (g:=false) (i:=84) (v:=undef) rfl (by kernel_rfl) rfl rfl rfl rfl rfl (bo_ [2] (hl52.trans hl62) h02) (bB rfl) ?_
  refine DK (v:=undef) (aJ rfl) ?_
  refine hV 85 (bo_ [2] (hl52.trans hl62) h02) (q:=kI (v:=.bool false) rfl rfl rfl) (k:=hV 86 (bo_ [2] (hl52.trans hl62) h02) (q:=aoV) (k:=?_))
  refine DH (by kernel_rfl) ?_
  change WC _ _ _ _ _ _
  exact DB λw hw=>rq_ r h hF hw
 have h:=bf hb48 h
 refine hg1 (g:=((((((((((((decide (1≤m.kind))&&(decide (m.kind≤17)))&&z9)&&z14)&&(decide (0≤m.id)))&&(decide (0≤m.n)))&&(decide (0≤m.for_)))&&(decide (m.for_≤8)))&&(decide (0≤m.code)))&&(decide (m.code≤999)))&&(decide ((m.key.size:Int)≤32)))&&z44)) (i:=65) (v:=undef) rfl (by kernel_rfl) rfl rfl rfl rfl rfl (bo_ [0] gR h02) (bB hb48) ?_
 refine DK (v:=undef) (aJ hb48) ?_
 refine hg1 (g:=((((((((((((decide (1≤m.kind))&&(decide (m.kind≤17)))&&z9)&&z14)&&(decide (0≤m.id)))&&(decide (0≤m.n)))&&(decide (0≤m.for_)))&&(decide (m.for_≤8)))&&(decide (0≤m.code)))&&(decide (m.code≤999)))&&(decide ((m.key.size:Int)≤32)))&&z44)) (i:=66) (v:=undef) rfl (by kernel_rfl) rfl rfl rfl rfl rfl (bo_ [0] gR h02) (bB hb48) ?_
 refine DK (v:=undef) (aJ hb48) ?_
 refine hV 67 (bo_ [0] gR h02) (q:=jv (v:=.bool false) rfl rfl hb48 (by kernel_rfl)) (k:=hV 68 (bo_ [0] gR h02) (q:=moV) (k:=?_))
 refine hg1 (g:=false) (i:=69) (v:=undef) rfl (by kernel_rfl) rfl rfl rfl rfl rfl (bo_ [0] gR h02) (bB rfl) ?_
 refine DK (v:=undef) (aJ rfl) ?_
 refine hg1 (g:=false) (i:=70) (v:=undef) rfl (by kernel_rfl) rfl rfl rfl rfl rfl (bo_ [0] gR h02) (bB rfl) ?_
 refine DK (v:=undef) (aJ rfl) ?_
 refine hg1 (g:=false) (i:=71) (v:=undef) rfl (by kernel_rfl) rfl rfl rfl rfl rfl (bo_ [0] gR h02) (bB rfl) ?_
 refine DK (v:=undef) (aJ rfl) ?_
 refine hg1 (g:=false) (i:=72) (v:=undef) rfl (by kernel_rfl) rfl rfl rfl rfl rfl (bo_ [0] gR h02) (bB rfl) ?_
 refine DK (v:=undef) (aJ rfl) ?_
 refine hV 73 (bo_ [0] gR h02) (q:=kI (v:=.bool false) rfl rfl rfl) (k:=hV 74 (bo_ [0] gR h02) (q:=moV) (k:=?_))
 refine hg1 (g:=false) (i:=75) (v:=undef) rfl (by kernel_rfl) rfl rfl rfl rfl rfl (bo_ [0] gR h02) (bB rfl) ?_
 refine DK (v:=undef) (aJ rfl) ?_
 refine hg1 (g:=false) (i:=76) (v:=undef) rfl (by kernel_rfl) rfl rfl rfl rfl rfl (bo_ [0] gR h02) (bB rfl) ?_
 refine DK (v:=undef) (aJ rfl) ?_
 refine hg1 (g:=false) (i:=77) (v:=undef) rfl (by kernel_rfl) rfl rfl rfl rfl rfl (bo_ [0] gR h02) (bB rfl) ?_
 refine DK (v:=undef) (aJ rfl) ?_
 refine hg1 (g:=false) (i:=78) (v:=undef) rfl (by kernel_rfl) rfl rfl rfl rfl rfl (bo_ [0] gR h02) (bB rfl) ?_
 refine DK (v:=undef) (aJ rfl) ?_
 refine hV 79 (bo_ [0] gR h02) (q:=kI (v:=.bool false) rfl rfl rfl) (k:=hV 80 (bo_ [0] gR h02) (q:=moV) (k:=?_))
 refine hg1 (g:=false) (i:=81) (v:=undef) rfl (by kernel_rfl) rfl rfl rfl rfl rfl (bo_ [0] gR h02) (bB rfl) ?_
 refine DK (v:=undef) (aJ rfl) ?_
 refine hg1 (g:=false) (i:=82) (v:=undef) rfl (by kernel_rfl) rfl rfl rfl rfl rfl (bo_ [0] gR h02) (bB rfl) ?_
 refine DK (v:=undef) (aJ rfl) ?_
 refine hg1 (g:=false) (i:=83) (v:=undef) rfl (by kernel_rfl) rfl rfl rfl rfl rfl (bo_ [0] gR h02) (bB rfl) ?_
 refine DK (v:=undef) (aJ rfl) ?_
 refine hg1 (g:=false) (i:=84) (v:=undef) rfl (by kernel_rfl) rfl rfl rfl rfl rfl (bo_ [0] gR h02) (bB rfl) ?_
 refine DK (v:=undef) (aJ rfl) ?_
 refine hV 85 (bo_ [0] gR h02) (q:=kI (v:=.bool false) rfl rfl rfl) (k:=hV 86 (bo_ [0] gR h02) (q:=aoV) (k:=?_))
 refine DH (by kernel_rfl) ?_
 change WC _ _ _ _ _ _
 exact DB λw hw=>rq_ r h hF hw
abbrev oU(gs_:Nat)(es_:Nat×Nat)(rows_:Rowb)(r:List Ver)(U:List Rowb)(Γ:Gh)(v:Value):Prop := ∃(A0:Option Addr), ∃(c0:Nat),v = .slice A0 r.length c0∧U = [rows_]∧r.length≤c0∧Sl verT Γ A0 r∧True
theorem iv{gs_:Nat}{es_:Nat×Nat}{rows_:Rowb}{s_:a8}(hs_:a8.ob es_ Γ gs_ rows_ s_)(key:ByteArray)(hkey:key.size≤lim)(hp:Pre [rows_] Γ w0){r:List Ver}(h:bD s_ key=some r):Calls Tryz.prog 44 #[(pq gs_),.string key] w0 (Outc Γ [rows_] w0 (oU gs_ es_ rows_ r)):=by
 refine goV [4] func44 ntmps44 results44 hp λF hF=>?_
 refine Dx (aV (k:=Dw (Dx (mV (k:=sV nlV (k:=sV (q_fl 1 jy) (k:=?_)))))))
 obtain⟨g0_1,r0_1,m1_1,r1_1,hrow_1,ho0_1,ho1_1,-⟩:=id hs_
 refine ufR 0 hrow_1 [_,_,_] ?_
 refine sV (ldV 0 F3) (k:=mV (k:=?_))
 obtain⟨v2,⟨A5,c6,hv3,hc7,hs8⟩,hat4⟩:=MapO.look ho1_1 key (z:=.slice none 0 0) (zx:=[]) ⟨none,0,rfl,E7 _,Sl.nil _ _ _⟩
 obtain rfl:v2=_:=List.cons.inj hv3 |>.1
 refine sV (hZ (v:=.slice A5 ((mget key s_.keys).getD []).length c6) hat4 rfl F4 Er rfl rfl (i:=2) rfl) (k:=?_)
 obtain⟨z9,hz10,h⟩:=bnd h
 refine ecV [] (caV call40) (λw hp=>wx hs8 hc7 hp hz10) ?_
 rintro Γ11 _ _ hl12 ⟨A15,c16,rfl,rfl,hr17,hr18,_⟩
 refine cwV 14 [_,_,_] (mV (k:=sV exV (k:=sV exV (k:=?_))))
 refine alV ET λg19=>?_
 refine stV 0 (.agg (Rec.cs A15 c16 z9.1).toArray) (Rec.cs A15 c16 z9.1).toArray EU (k:=aV (k:=Dw (Dx (sV (q_fl 1 aM) (k:=sV (ldV 0 F1) (k:=aV (k:=Dw ?_)))))))
 refine DB ?_
 intro w hw
 have hw:=hw.fold (is:=[1,1,1]) rfl hrow_1
 exact re_ r [0] h hF hw ⟨A15,c16,rfl,rfl,hr17.2.1,hr17.2.2,trivial⟩
abbrev mc(r:List Span)(U:List Rowb)(Γ:Gh)(v:Value):Prop := ∃(A0:Option Addr), ∃(c0:Nat), ∃(row0:Rowb),v = .slice A0 r.length c0∧U = [row0]∧Own bW Γ 78 row0 A0 c0 r∧True
theorem ma{Al:Option Addr}{cl:Nat}{l:List Span}(hl:Sl bW Γ Al l)(hlc:l.length≤cl)(hp:Pre [] Γ w0){r:List Span}(h:cz l=some r):Calls Tryz.prog 116 #[.slice Al l.length cl] w0 (Outc Γ [] w0 (mc r)):=by
 refine goV [2] func116 ntmps116 results116 hp λF hF=>?_
 refine Dx (aV (k:=Dw (Dx (mV (k:=?_)))))
 refine WR.sub (λw hw=>hw.pad) ?_
 obtain⟨hk1,h⟩:=af h
 refine l7 (T:=bW) (xs:=[]) (ys:=l) lx (i:=0) rfl rfl rfl rfl (by kernel_rfl) rfl rfl (Own.nil bW Γ 78) (DP hk1) (λw hw=>mQ hl hw) ?_
 intro row2 A3 c4 ho5
 refine aV (k:=Dw ?_)
 exact DB λw hw=>re_ r [0] h hF hw ⟨A3,c4,row2,rfl,rfl,ho5,trivial⟩
abbrev mX(gb0:Nat)(Ab0v:Option Addr)(cb0v:Nat)(b0v:List Ver)(gb1:Nat)(Ab1v:Option Addr)(cb1v:Nat)(b1v:List Ver)(gb2:Nat)(Ab2v:Option Addr)(cb2v:Nat)(b2v:List Ver)(rowb2v:Rowb)(r:List Ver)(U:List Rowb)(Γ:Gh)(v:Value):Prop := ∃(Ab2_0:Option Addr), ∃(cb2_0:Nat), ∃(rowb2_0:Rowb),v = .tuple #[]∧U = [[(gb0,.cells #[.slice Ab0v b0v.length cb0v] 34 (0,0))],[(gb1,.cells #[.slice Ab1v b1v.length cb1v] 34 (0,0))],[(gb2,.cells #[.slice Ab2_0 r.length cb2_0] 34 (0,0))],rowb2_0]∧Own verT Γ 72 rowb2_0 Ab2_0 cb2_0 r∧True
theorem mN{Av_2:Option Addr}{cv_2:Nat}(v_:Ver)(hv_:Ver.fits Γ Av_2 cv_2 v_){gb0:Nat}{Ab0v:Option Addr}{cb0v:Nat}{b0v:List Ver}(hb0v:Sl verT Γ Ab0v b0v)(hb0vc:b0v.length≤cb0v){gb1:Nat}{Ab1v:Option Addr}{cb1v:Nat}{b1v:List Ver}(hb1v:Sl verT Γ Ab1v b1v)(hb1vc:b1v.length≤cb1v){gb2:Nat}{Ab2v:Option Addr}{cb2v:Nat}{rowb2v:Rowb}{b2v:List Ver}(hb2v:Own verT Γ 72 rowb2v Ab2v cb2v b2v)(hp:Pre [[(gb0,.cells #[.slice Ab0v b0v.length cb0v] 34 (0,0))],[(gb1,.cells #[.slice Ab1v b1v.length cb1v] 34 (0,0))],[(gb2,.cells #[.slice Ab2v b2v.length cb2v] 34 (0,0))],rowb2v] Γ w0){r:List Ver}(h:eI v_ b0v b1v b2v=some r):Calls Tryz.prog 114 #[.agg (Ver.cs Av_2 cv_2 v_).toArray,(pq gb0),(pq gb1),(pq gb2)] w0 (Outc Γ [[(gb0,.cells #[.slice Ab0v b0v.length cb0v] 34 (0,0))],[(gb1,.cells #[.slice Ab1v b1v.length cb1v] 34 (0,0))],[(gb2,.cells #[.slice Ab2v b2v.length cb2v] 34 (0,0))],rowb2v] w0 (mX gb0 Ab0v cb0v b0v gb1 Ab1v cb1v b1v gb2 Ab2v cb2v b2v rowb2v r)):=by
 refine goV [] func114 ntmps114 results114 hp λF hF=>?_
 refine Dx ?_
 refine bxV (v:=.agg (Ver.cs Av_2 cv_2 v_).toArray) λg1=>?_
 refine Dw (Dx (sV (q_fl 0 aG) (k:=sV (ldaV 0 (Dot.cs v_.dot) EZ F0) (k:=sV (ldV 1 F1) (k:=?_)))))
 obtain⟨z2,hz3,h⟩:=bnd h
 refine vqV (caV call115) (λw hw=>gJ (Γ:=Gh.all w) v_.dot ⟨hv_.1,hv_.2.1⟩ (hb0v.mono hw.sat.le_all) hb0vc (Sat.all w) hz3) (k:=sV bb (k:=mV (k:=vG1 (h:=λhg4=>q_fl 0 aG) (k:=vG1 (h:=λhg5=>ldaV 0 (Dot.cs v_.dot) EZ F0 (hx:=grV hg5)) (k:=vG1 (h:=λhg6=>ldV 2 F1) (k:=?_))))))
 obtain⟨z8,hz9,h⟩:=bnd h
 refine vC1 (h:=λhg7=>aH (aC call115 rfl rfl (dX (grV hg7) (grV hg7))) (λw hw=>gJ (Γ:=Gh.all w) v_.dot ⟨hv_.1,hv_.2.1⟩ (hb1v.mono hw.sat.le_all) hb1vc (Sat.all w) (bU hz9 hg7))) (k:=vG1 (h:=λhg10=>bb rfl (grV hg10)) (k:=sV pkA (k:=Dw ?_)))
 refine ciV h (λhb11 h=>?_) (λhb11 h=>?_)
 ·
  refine Dx (sV (q_fl 2 aN) (k:=sV (ldV 0 EX) (k:=?_)))
  obtain⟨z12,hz13,h⟩:=bnd h
  refine ecV [] (caV call116) (λw hp=>ma hv_.2.2.1.2 hv_.2.2.1.1 hp hz13) ?_
  rintro Γ14 _ _ hl15 ⟨A18,c19,row20,rfl,rfl,hr21,_⟩
  refine cwV 19 [_,_,_,_,_,_] (sV (q_fl 2 aN) (k:=stV 1 (.slice A18 z12.length c19) #[ii v_.dot.s,ii v_.dot.n,.slice A18 z12.length c19,.bool v_.gone,.string v_.val] EQ (k:=Dw ?_)))
  refine DA ?_
  refine sV (ldV 4 F1) (k:=sV (ldaV 1 [ii v_.dot.s,ii v_.dot.n,.slice A18 z12.length c19,.bool v_.gone,.string v_.val] ES EP) (k:=?_))
  have hc26:=hr21.capz
  refine seR 0 [_,_,_,_,_,_] λΓ22 hl23 hr24=>?_
  have hs25:=hr21.sl hl23 hr24
  refine bsV #[ii v_.dot.s,ii v_.dot.n,.slice A18 z12.length c19,.bool v_.gone,.string v_.val] 72 λg27=>?_
  obtain⟨hk28,h⟩:=af h
  refine apV 6 [(⟨(⟨v_.dot.s,v_.dot.n⟩:Dot),z12,v_.gone,v_.val⟩:Ver)] lv (hb2v.mono (hl15.trans hl23)) (DP hk28) (λw hw=>br (i:=0) rfl (by exact⟨A18,c19,rfl,⟨hv_.1,hv_.2.1,⟨hc26,hs25⟩,hv_.2.2.2⟩⟩) hw) ?_
  intro row29 A30 c31 ho32
  refine stV 5 (.slice A30 (b2v++[(⟨(⟨v_.dot.s,v_.dot.n⟩:Dot),z12,v_.gone,v_.val⟩:Ver)]).length c31) #[.slice A30 (b2v++[(⟨(⟨v_.dot.s,v_.dot.n⟩:Dot),z12,v_.gone,v_.val⟩:Ver)]).length c31] sizeOf34 (k:=?_)
  refine Dz ?_
  intro w hw
  cases h
  subst hF
  exact aI (is:=[3,3,3,3]) (by kernel_rfl) hw rfl ⟨A30,c31,row29,rfl,rfl,ho32,trivial⟩
 refine DC ?_
 intro w hw
 cases h
 subst hF
 exact aI (is:=[1,1,1,1]) (by kernel_rfl) hw rfl ⟨Ab2v,cb2v,rowb2v,rfl,rfl,hb2v,trivial⟩
theorem nc{Aa2:Option Addr}{ca2:Nat}(a:Ver)(ha:Ver.fits Γ Aa2 ca2 a){Ab2:Option Addr}{cb2:Nat}(b:Ver)(hb:Ver.fits Γ Ab2 cb2 b)(hs:Sat Γ w0){r:Bool}(h:jo a b=some r):CQ Tryz.prog 118 #[.agg (Ver.cs Aa2 ca2 a).toArray,.agg (Ver.cs Ab2 cb2 b).toArray] w0 (.bool r):=by
 refine goQ [4] func118 ntmps118 results118 hs λF hF=>?_
 refine Dx ?_
 refine bxV (v:=.agg (Ver.cs Aa2 ca2 a).toArray) λg1=>?_
 refine bxV (v:=.agg (Ver.cs Ab2 cb2 b).toArray) λg2=>?_
 refine aV (k:=Dw (Dy (Dx (sV (q_fl 0 aG) (k:=sV (ldaV 1 (Dot.cs a.dot) EZ F0) (k:=sV (q_fl 0 aG) (k:=sV (ldaV 0 (Dot.cs b.dot) EZ F0) (k:=?_))))))))
 refine sV (xJ (a:=a.dot) (b:=b.dot) rfl rfl rfl) (k:=mV (k:=vG0 (h:=λhg3=>q_fl 3 gF) (k:=vG0 (h:=λhg4=>ldV 1 isAgg4 (hx:=grV hg4)) (k:=vG0 (h:=λhg5=>q_fl 3 gF) (k:=vG0 (h:=λhg6=>ldV 0 isAgg4 (hx:=grV hg6)) (k:=vG0 (h:=λhg7=>CD underlying4 rfl (grV hg7) (grV hg7)) (k:=sV pkO (k:=?_))))))))
 refine mV (k:=vG0 (h:=λhg8=>q_fl 4 ec) (k:=vG0 (h:=λhg9=>ldV 1 En (hx:=grV hg9)) (k:=vG0 (h:=λhg10=>q_fl 4 ec) (k:=vG0 (h:=λhg11=>ldV 0 En (hx:=grV hg11)) (k:=vG0 (h:=λhg12=>vX rfl (grV hg12) (grV hg12)) (k:=sV pkO (k:=mV (k:=?_))))))))
 refine vG0 (h:=λhg13=>q_fl 2 aN) (k:=vG0 (h:=λhg14=>ldV 1 EX (hx:=grV hg14)) (k:=vG0 (h:=λhg15=>ab rfl EW (grV hg15)) (k:=vG0 (h:=λhg16=>q_fl 2 aN) (k:=vG0 (h:=λhg17=>ldV 0 EX (hx:=grV hg17)) (k:=vG0 (h:=λhg18=>ab rfl EW (grV hg18)) (k:=vG0 (h:=λhg19=>bj rfl (grV hg19) (grV hg19)) (k:=sV pkO (k:=?_))))))))
 refine Dw ?_
 refine ciV h (λhb20 h=>?_) (λhb20 h=>?_)
 ·
  refine Dx (aV (k:=Dw ?_))
  exact DB λw hw=>rq_ r h hF hw
 refine DC (wc_ (Dy (Dx (sV (q_fl 2 aN) (k:=sV (ldV 1 EX) (k:=sV (ab rfl EW) (k:=mV (k:=?_))))))))
 refine Dw (DD ?_)
 refine DF h (λ(i22:Nat) (s:Unit) σ w=>match s with | ()=>slots σ [(2,(pq g1)),(3,(pq g2)),(36,ii (a.past.length:Int)),(37,ii (i22:Int))]∧CC F Γ [[(g2,.cells (Ver.cs Ab2 cb2 b).toArray 72 (0,0))],[(g1,.cells (Ver.cs Aa2 ca2 a).toArray 72 (0,0))]] w∧True) ?_ ?_
 ·
  intro w hw
  exact⟨slK,hw,trivial⟩
 rintro f21 i22 ⟨⟩ σ w hi23 hlt24 hge25 ⟨hsl,hw,-⟩
 refine slV hsl hw [_,_] ?_; clear hw hsl
 refine Dx (sV aw (k:=Dw (Dy ?_)))
 refine coV (λhb26=>?_) (λhb26=>?_)
 ·
  have hl27:=ilt hb26
  have h:=hlt24 hl27
  refine DC (wc_ (Dy (DD (Dx (mV (k:=aV (k:=Dw ?_)))))))
  refine Dy ?_
  refine drV ?_
  refine zV (q_fl 2 aN) (k:=zV (ldV 1 EX) (k:=zV moV (k:=zV (ar (i:=i22) EW EM rfl rfl rfl hl27 (ha.2.2.1.2.some_ hl27)) (k:=zV (bT (c:=0) (vs:=(Span.cs (gt a.past i22))) (ha.2.2.1.2.spanT_at hl27).2 rfl EN EM rfl rfl rfl) (k:=zV (q_fl 2 aN) (k:=zV (ldV 0 EX) (k:=zV moV (k:=?_))))))))
  obtain⟨hk28,h⟩:=af h
  refine zV (ar (i:=i22) EW EM rfl rfl rfl (DP hk28) (hb.2.2.1.2.some_ (DP hk28))) (k:=zV (bT (c:=0) (vs:=(Span.cs (gt b.past i22))) (hb.2.2.1.2.spanT_at (DP hk28)).2 rfl EN EM rfl rfl rfl) (k:=zV (ry (a:=(gt a.past i22)) (b:=(gt b.past i22)) rfl rfl rfl) (k:=?_)))
  refine DJ ?_
  change WC _ _ _ _ _ _
  refine ciV h (λhb29 h=>?_) (λhb29 h=>?_)
  ·
   refine Dx (aV (k:=Dw ?_))
   exact DB λw hw=>rq_ r h hF hw
  refine DC (wc_ ?_)
  refine DA ?_
  refine sV (am rfl rfl rfl (ax hl27 ha.2.2.1.2.le)) (k:=mV (k:=?_))
  exact Dz λw hw=>⟨hl27,(),h,slK,hw,trivial⟩
 have h:=hge25 (ige hb26)
 refine DE ?_
 change WC _ _ _ _ _ _
 refine Dx (aV (k:=Dw ?_))
 exact DB λw hw=>rq_ r h hF hw
abbrev oI(r:(List Ver)×Int)(U:List Rowb)(Γ:Gh)(v:Value):Prop := ∃(A0:Option Addr), ∃(c0:Nat), ∃(row0:Rowb),v = .tuple #[.slice A0 r.1.length c0,.int .i64 r.2]∧U = [row0]∧Own verT Γ 72 row0 A0 c0 r.1∧I64 r.2∧True
theorem un{Aa:Option Addr}{ca:Nat}{a:List Ver}(ha:Sl verT Γ Aa a)(hac:a.length≤ca){Ab:Option Addr}{cb:Nat}{b:List Ver}(hb:Sl verT Γ Ab b)(hbc:b.length≤cb)(hp:Pre [] Γ w0){r:(List Ver)×Int}(h:gc a b=some r):Calls Tryz.prog 78 #[.slice Aa a.length ca,.slice Ab b.length cb] w0 (Outc Γ [] w0 (oI r)):=by
 refine goV [4,5] func78 ntmps78 results78 hp λF hF=>?_
 refine Dx ?_
 refine bxV (v:=.slice Aa a.length ca) λg1=>?_
 refine bxV (v:=.slice Ab b.length cb) λg2=>?_
 refine aV (k:=aV (k:=Dw (Dy (Dx (sV (ldV 1 F1) (k:=?_))))))
 obtain⟨z3,hz4,h⟩:=bnd h
 refine vqV (caV call95) (λw hw=>ig (Γ:=Gh.all w) (ha.mono hw.sat.le_all) hac (Sat.all w) hz4) (k:=sV bb (k:=mV (k:=vG0 (h:=λhg5=>ldV 0 F1) (k:=?_))))
 obtain⟨z7,hz8,h⟩:=bnd h
 refine vC0 (h:=λhg6=>aH (aC call95 rfl rfl (kC (grV hg6))) (λw hw=>ig (Γ:=Gh.all w) (hb.mono hw.sat.le_all) hbc (Sat.all w) (bU hz8 hg6))) (k:=vG0 (h:=λhg9=>bb rfl (grV hg9)) (k:=sV pkO (k:=Dw ?_)))
 refine ciV h (λhb10 h=>?_) (λhb10 h=>?_)
 ·
  refine Dx (aV (k:=aV (k:=Dw ?_)))
  refine DB ?_
  intro w hw
  have hw:=hw.pad
  exact re_ r [0] h hF hw ⟨none,0,[],rfl,rfl,(Own.nil verT _ 72),iV,trivial⟩
 refine DC (wc_ (Dx ?_))
 refine alV zeroValue34 λg11=>?_
 refine Dw (Dx (sV (bQ (v:=.func (.func 114) #[] #[(pq g1),(pq g2),(pq g11)]) rfl (by kernel_rfl)) (k:=aU (v:=.func (.func 114) #[] #[(pq g1),(pq g2),(pq g11)]) (k:=Dw (Dx (aV (k:=Dw ?_)))))))
 refine Dy (Dx (aV (k:=aV (k:=Dw (DD ?_)))))
 refine DO h (λ(s:Bool×Int×Int×(List Ver)) σ w=>match s with | (twin_14,i_15,k_17,x19) => ∃(Γ12:Gh), ∃(A20:Option Addr), ∃(c21:Nat), ∃(row22:Rowb),slots σ [(2,(pq g1)),(3,(pq g2)),(6,(pq g11)),(7,.func (.func 114) #[] #[(pq g1),(pq g2),(pq g11)]),(8,.bool twin_14),(9,ii i_15),(10,ii k_17)]∧CC F Γ12 [row22,[(g11,.cells #[.slice A20 x19.length c21] 34 (0,0))],[(g2,.cells #[.slice Ab b.length cb] 34 (0,0))],[(g1,.cells #[.slice Aa a.length ca] 34 (0,0))]] w∧Gh.le Γ Γ12∧I64 i_15∧I64 k_17∧Own verT Γ12 72 row22 A20 c21 x19∧True) ?_ ?_
 ·
  intro w hw
  have hw:=hw.pad
  exact⟨Γ,none,0,[],slK,hw,gR,iV,iV,(Own.nil verT _ 72),trivial⟩
 rintro f24 ⟨twin_14,i_15,k_17,x19⟩ σ w h ⟨Γ12,A20,c21,row22,hsl,hw,hl13,hr16,hr18,ho23,-⟩
 refine slV hsl hw [_,_,_,_] ?_; clear hw hsl
 refine Dy (Dx (mV (k:=sV (ldV 3 F1) (k:=sV (ab rfl EY) (k:=sV aw (k:=mV (k:=vG0 (h:=λhg28=>moV) (k:=?_))))))))
 refine vG0 (h:=λhg29=>ldV 2 F1) (k:=vG0 (h:=λhg30=>ab rfl EY (grV hg30)) (k:=vG0 (h:=λhg31=>aw rfl (grV hg31) (grV hg31)) (k:=sV pkO (k:=Dw ?_))))
 refine ciV h (λhb32 h=>?_) (λhb32 h=>?_)
 ·
  refine DC (wc_ (DD (DD (Dy ?_))))
  refine drV ?_
  refine zV moV (k:=zV (ldV 2 F1) (k:=zV (ab rfl EY) (k:=zV cW (k:=zV moV (k:=wG0 (h:=λhg33=>moV) (k:=wG0 (h:=λhg34=>ldV 3 F1) (k:=wG0 (h:=λhg35=>ab rfl EY (grV hg35)) (k:=?_))))))))
  refine wG0 (h:=λhg36=>aw rfl (grV hg36) (grV hg36)) (k:=wG0 (h:=λhg37=>b4 (v:=.bool (decide (i_15<(a.length:Int)))) rfl (grV hg37)) (k:=wh1 (c0:=(!(k_17==(b.length:Int)))) (g:=(decide (i_15<(a.length:Int)))) rfl rfl rfl rfl rfl (λ_=>QV.qo (ldV 3 F1)) (wh1 (c0:=(!(k_17==(b.length:Int)))) (g:=(decide (i_15<(a.length:Int)))) rfl rfl rfl rfl rfl (λ_=>QV.qo moV) ?_)))
  obtain⟨hk41,h⟩:=af h
  refine wh1 (c0:=(!(k_17==(b.length:Int)))) (g:=(decide (i_15<(a.length:Int)))) rfl rfl rfl rfl rfl (λhg40=>QV.qo (q_ix EY EP rfl (grV hg40) (grV hg40) (al hk41 hg40) ((ha.mono hl13).some_ (aq (al hk41 hg40))))) (wh1 (c0:=(!(k_17==(b.length:Int)))) (g:=(decide (i_15<(a.length:Int)))) rfl rfl rfl rfl rfl (λhg42=>QV.qo (ah (i_15.toNat*5) aG rfl (grV hg42) ((ha.mono hl13).some_ (aq (al hk41 hg42))) rfl)) ?_)
  obtain⟨A44,c45,hx46⟩:=(ha.mono hl13).verT_at i_15.toNat
  refine wh1 (c0:=(!(k_17==(b.length:Int)))) (g:=(decide (i_15<(a.length:Int)))) rfl rfl rfl rfl rfl (λhg43=>QV.qo (bT (c:=0) (vs:=[ii (gt a i_15.toNat).dot.s,ii (gt a i_15.toNat).dot.n]) (hx46 (aq (al hk41 hg43))).2 rfl EZ F0 (grV hg43) rfl rfl)) (wh1 (c0:=(!(k_17==(b.length:Int)))) (g:=(decide (i_15<(a.length:Int)))) rfl rfl rfl rfl rfl (λ_=>QV.qo (ldV 2 F1)) (wh1 (c0:=(!(k_17==(b.length:Int)))) (g:=(decide (i_15<(a.length:Int)))) rfl rfl rfl rfl rfl (λ_=>QV.qo moV) ?_))
  obtain⟨hk50,h⟩:=af h
  refine wh1 (c0:=(!(k_17==(b.length:Int)))) (g:=(decide (i_15<(a.length:Int)))) rfl rfl rfl rfl rfl (λhg49=>QV.qo (q_ix EY EP rfl (grV hg49) (grV hg49) (al hk50 hg49) ((hb.mono hl13).some_ (aq (al hk50 hg49))))) (wh1 (c0:=(!(k_17==(b.length:Int)))) (g:=(decide (i_15<(a.length:Int)))) rfl rfl rfl rfl rfl (λhg51=>QV.qo (ah (k_17.toNat*5) aG rfl (grV hg51) ((hb.mono hl13).some_ (aq (al hk50 hg51))) rfl)) ?_)
  obtain⟨A53,c54,hx55⟩:=(hb.mono hl13).verT_at k_17.toNat
  refine wh1 (c0:=(!(k_17==(b.length:Int)))) (g:=(decide (i_15<(a.length:Int)))) rfl rfl rfl rfl rfl (λhg52=>QV.qo (bT (c:=0) (vs:=[ii (gt b k_17.toNat).dot.s,ii (gt b k_17.toNat).dot.n]) (hx55 (aq (al hk50 hg52))).2 rfl EZ F0 (grV hg52) rfl rfl)) ?_
  obtain⟨z57,hz58,h⟩:=bnd h
  refine wh1 (c0:=(!(k_17==(b.length:Int)))) (g:=(decide (i_15<(a.length:Int)))) rfl rfl rfl rfl rfl (λhg56=>(aH (aC call117 rfl rfl (dX (grV hg56) (grV hg56))) (λw hw=>kV (Γ:=Gh.all w) ((gt a i_15.toNat).dot) ⟨(hx46 (aq (al hk41 hg56))).1.1,(hx46 (aq (al hk41 hg56))).1.2.1⟩ ((gt b k_17.toNat).dot) ⟨(hx55 (aq (al hk50 hg56))).1.1,(hx55 (aq (al hk50 hg56))).1.2.1⟩ (Sat.all w) (bU hz58 hg56)))) (wG0 (h:=λhg59=>eV rfl (grV hg59) (kM (c:=(!(k_17==(b.length:Int)))) (g:=(decide (i_15<(a.length:Int)))) (y:=z57) hg59)) (k:=zV pkO (k:=zV aoV (k:=?_))))
  refine DJ ?_
  change WC _ _ _ _ _ _
  refine ciV h (λhb60 h=>?_) (λhb60 h=>?_)
  ·
   refine Dx (mU (v:=.func (.func 114) #[] #[(pq g1),(pq g2),(pq g11)]) (k:=sV (ldV 3 F1) (k:=mV (k:=?_))))
   obtain⟨hk61,h⟩:=af h
   refine sV (q_ix EY EP rfl rfl rfl hk61 ((ha.mono hl13).some_ (aq hk61))) (k:=sV (bT (c:=0) (vs:=(Ver.cs A44 c45 (gt a i_15.toNat))) (hx46 (aq hk61)).2 rfl ES EP rfl rfl rfl) (k:=?_))
   obtain⟨z62,hz63,h⟩:=bnd h
   refine ecV [3,2,1,0] (aT (caps:=#[(pq g1),(pq g2),(pq g11)]) call114 rfl (by kernel_rfl) (by kernel_rfl)) (λw hp=>mN (gt a i_15.toNat) (hx46 (aq hk61)).1 (ha.mono hl13) hac (hb.mono hl13) hbc ho23 hp hz63) ?_
   rintro Γ64 _ _ hl65 ⟨A68,c69,row70,rfl,rfl,hr71,_⟩
   refine cwV 67 [_,_,_,_] (Dw ?_)
   refine DA ?_
   refine mV (k:=sV bN (k:=aV (k:=?_)))
   exact Dz λw hw=>⟨(twin_14,(w64 (i_15+1)),k_17,z62),h,Γ64,A68,c69,row70,slK,(hw.on [3,2,1,0]),(hl13.trans hl65),(ep _),hr18,hr71,trivial⟩
  refine Dy ?_
  refine drV ?_
  refine zV moV (k:=zV (ldV 3 F1) (k:=zV (ab rfl EY) (k:=zV aw (k:=zV moV (k:=wG1 (h:=λhg72=>ldV 3 F1) (k:=wG1 (h:=λhg73=>moV) (k:=?_)))))))
  obtain⟨hk75,h⟩:=af h
  refine wG1 (h:=λhg74=>q_ix EY EP rfl (grV hg74) (grV hg74) (al hk75 hg74) ((ha.mono hl13).some_ (aq (al hk75 hg74)))) (k:=wG1 (h:=λhg76=>ah (i_15.toNat*5) aG rfl (grV hg76) ((ha.mono hl13).some_ (aq (al hk75 hg76))) rfl) (k:=wG1 (h:=λhg77=>bT (c:=0) (vs:=[ii (gt a i_15.toNat).dot.s,ii (gt a i_15.toNat).dot.n]) (hx46 (aq (al hk75 hg77))).2 rfl EZ F0 (grV hg77) rfl rfl) (k:=wG1 (h:=λhg78=>ldV 2 F1) (k:=wG1 (h:=λhg79=>moV) (k:=?_)))))
  obtain⟨hk81,h⟩:=af h
  refine wG1 (h:=λhg80=>q_ix EY EP rfl (grV hg80) (grV hg80) (al hk81 hg80) ((hb.mono hl13).some_ (aq (al hk81 hg80)))) (k:=wG1 (h:=λhg82=>ah (k_17.toNat*5) aG rfl (grV hg82) ((hb.mono hl13).some_ (aq (al hk81 hg82))) rfl) (k:=wG1 (h:=λhg83=>bT (c:=0) (vs:=[ii (gt b k_17.toNat).dot.s,ii (gt b k_17.toNat).dot.n]) (hx55 (aq (al hk81 hg83))).2 rfl EZ F0 (grV hg83) rfl rfl) (k:=wG1 (h:=λhg84=>nr (a:=(gt a i_15.toNat).dot) (b:=(gt b k_17.toNat).dot) rfl (grV hg84) (grV hg84)) (k:=zV pkA (k:=zV aoV (k:=?_))))))
  refine DJ ?_
  change WC _ _ _ _ _ _
  refine ciV h (λhb85 h=>?_) (λhb85 h=>?_)
  ·
   refine Dy ?_
   refine drV ?_
   refine zV moV (k:=zV moV (k:=wG0 (h:=λhg86=>ldV 3 F1) (k:=wG0 (h:=λhg87=>moV) (k:=?_))))
   obtain⟨hk89,h⟩:=af h
   refine wG0 (h:=λhg88=>q_ix EY EP rfl (grV hg88) (grV hg88) (al hk89 hg88) ((ha.mono hl13).some_ (aq (al hk89 hg88)))) (k:=wG0 (h:=λhg90=>bT (c:=0) (vs:=(Ver.cs A44 c45 (gt a i_15.toNat))) (hx46 (aq (al hk89 hg90))).2 rfl ES EP (grV hg90) rfl rfl) (k:=wG0 (h:=λhg91=>ldV 2 F1) (k:=wG0 (h:=λhg92=>moV) (k:=?_))))
   obtain⟨hk94,h⟩:=af h
   refine wG0 (h:=λhg93=>q_ix EY EP rfl (grV hg93) (grV hg93) (al hk94 hg93) ((hb.mono hl13).some_ (aq (al hk94 hg93)))) (k:=wG0 (h:=λhg95=>bT (c:=0) (vs:=(Ver.cs A53 c54 (gt b k_17.toNat))) (hx55 (aq (al hk94 hg95))).2 rfl ES EP (grV hg95) rfl rfl) (k:=?_))
   obtain⟨z97,hz98,h⟩:=bnd h
   refine wC0 (h:=λhg96=>aH (aC call118 rfl rfl (dX (grV hg96) (grV hg96))) (λw hw=>nc (Γ:=Gh.all w) (gt a i_15.toNat) (Ver.fits_mono (hx46 (aq (al hk89 hg96))).1 hw.sat.le_all) (gt b k_17.toNat) (Ver.fits_mono (hx55 (aq (al hk94 hg96))).1 hw.sat.le_all) (Sat.all w) (bU hz98 hg96))) (k:=wG0 (h:=λhg99=>bb rfl (grV hg99)) (k:=zV pkO (k:=zV aoV (k:=?_))))
   refine DJ ?_
   change WC _ _ _ _ _ _
   refine DA ?_
   refine mV (k:=sV bN (k:=aV (k:=?_)))
   exact Dz λw hw=>⟨((twin_14||(!z97)),(w64 (i_15+1)),k_17,x19),h,Γ12,A20,c21,row22,slK,hw,hl13,(ep _),hr18,ho23,trivial⟩
  refine Dx (mU (v:=.func (.func 114) #[] #[(pq g1),(pq g2),(pq g11)]) (k:=sV (ldV 2 F1) (k:=mV (k:=?_))))
  obtain⟨hk100,h⟩:=af h
  refine sV (q_ix EY EP rfl rfl rfl hk100 ((hb.mono hl13).some_ (aq hk100))) (k:=sV (bT (c:=0) (vs:=(Ver.cs A53 c54 (gt b k_17.toNat))) (hx55 (aq hk100)).2 rfl ES EP rfl rfl rfl) (k:=?_))
  obtain⟨z101,hz102,h⟩:=bnd h
  refine ecV [3,2,1,0] (aT (caps:=#[(pq g1),(pq g2),(pq g11)]) call114 rfl (by kernel_rfl) (by kernel_rfl)) (λw hp=>mN (gt b k_17.toNat) (hx55 (aq hk100)).1 (ha.mono hl13) hac (hb.mono hl13) hbc ho23 hp hz102) ?_
  rintro Γ103 _ _ hl104 ⟨A107,c108,row109,rfl,rfl,hr110,_⟩
  refine cwV 35 [_,_,_,_] (Dw ?_)
  refine DA ?_
  refine mV (k:=sV bN (k:=aV (k:=?_)))
  exact Dz λw hw=>⟨(twin_14,i_15,(w64 (k_17+1)),z101),h,Γ103,A107,c108,row109,slK,(hw.on [3,2,1,0]),(hl13.trans hl104),hr16,(ep _),hr110,trivial⟩
 refine DE ?_
 change WC _ _ _ _ _ _
 refine Dy (DD (Dx (mV (k:=aV (k:=Dw ?_)))))
 refine ciV h (λhb111 h=>?_) (λhb111 h=>?_)
 ·
  refine Dx (aV (k:=aV (k:=Dw ?_)))
  refine DB ?_
  intro w hw
  have hw:=hw.pad
  exact re_ r [0] h hF hw ⟨none,0,[],rfl,rfl,(Own.nil verT _ 72),iV,trivial⟩
 refine Dx (sV (ldV 1 F1) (k:=sV (ab rfl EY) (k:=sV bx (k:=aV (k:=Dw ?_)))))
 refine ciV h (λhb112 h=>?_) (λhb112 h=>?_)
 ·
  refine Dx (aV (k:=aV (k:=Dw ?_)))
  refine DB ?_
  intro w hw
  have hw:=hw.pad
  exact re_ r [0] h hF hw ⟨none,0,[],rfl,rfl,(Own.nil verT _ 72),iV,trivial⟩
 refine DC (wc_ (Dx (sV (ldV 1 F1) (k:=aV (k:=aV (k:=Dw ?_))))))
 exact DB λw hw=>re_ r [0] h hF hw ⟨A20,c21,row22,rfl,rfl,ho23,iV,trivial⟩
abbrev kO(r:List Span)(U:List Rowb)(Γ:Gh)(v:Value):Prop := ∃(A0:Option Addr), ∃(c0:Nat), ∃(row0:Rowb),v = .slice A0 r.length c0∧U = [row0]∧Own bW Γ 78 row0 A0 c0 r∧True
theorem kQ{B:Gh}{Al:Option Addr}{cl:Nat}{l:List Span}(hl:Sl bW B Al l)(hlc:l.length≤cl)(hp:Pre [] Γ w0)(hpB:Pre [] B w0){r:List Span}(h:cz l=some r):Calls Tryz.prog 116 #[.slice Al l.length cl] w0 (Outc Γ [] w0 (kO r)):=by
 refine goV [2] func116 ntmps116 results116 hp λF hF=>?_
 have hB:Lent F B:=hF▸Lent.start hpB
 refine Dx (aV (k:=Dw (Dx (mV (k:=?_)))))
 refine WR.sub (λw hw=>hw.pad) ?_
 obtain⟨hk1,h⟩:=af h
 refine l7 (T:=bW) (xs:=[]) (ys:=l) lx (i:=0) rfl rfl rfl rfl (by kernel_rfl) rfl rfl (Own.nil bW Γ 78) (DP hk1) (λw hw=>ue (Γ:=Γ) (λw hw=>hB.sat hw) (λ_ _ h=>h) hl hw) ?_
 intro row2 A3 c4 ho5
 refine aV (k:=Dw ?_)
 exact DB λw hw=>re_ r [0] h hF hw ⟨A3,c4,row2,rfl,rfl,ho5,trivial⟩
theorem li{B:Gh}{Av_2:Option Addr}{cv_2:Nat}(v_:Ver)(hv_:Ver.fits B Av_2 cv_2 v_){gb0:Nat}{Ab0v:Option Addr}{cb0v:Nat}{b0v:List Ver}(hb0v:Sl verT B Ab0v b0v)(hb0vc:b0v.length≤cb0v){gb1:Nat}{Ab1v:Option Addr}{cb1v:Nat}{b1v:List Ver}(hb1v:Sl verT B Ab1v b1v)(hb1vc:b1v.length≤cb1v){gb2:Nat}{Ab2v:Option Addr}{cb2v:Nat}{rowb2v:Rowb}{b2v:List Ver}(hb2v:Own verT Γ 72 rowb2v Ab2v cb2v b2v)(hp:Pre [[(gb0,.cells #[.slice Ab0v b0v.length cb0v] 34 (0,0))],[(gb1,.cells #[.slice Ab1v b1v.length cb1v] 34 (0,0))],[(gb2,.cells #[.slice Ab2v b2v.length cb2v] 34 (0,0))],rowb2v] Γ w0)(hpB:Pre [[(gb0,.cells #[.slice Ab0v b0v.length cb0v] 34 (0,0))],[(gb1,.cells #[.slice Ab1v b1v.length cb1v] 34 (0,0))],[(gb2,.cells #[.slice Ab2v b2v.length cb2v] 34 (0,0))],rowb2v] B w0){r:List Ver}(h:eI v_ b0v b1v b2v=some r):Calls Tryz.prog 114 #[.agg (Ver.cs Av_2 cv_2 v_).toArray,(pq gb0),(pq gb1),(pq gb2)] w0 (Outc Γ [[(gb0,.cells #[.slice Ab0v b0v.length cb0v] 34 (0,0))],[(gb1,.cells #[.slice Ab1v b1v.length cb1v] 34 (0,0))],[(gb2,.cells #[.slice Ab2v b2v.length cb2v] 34 (0,0))],rowb2v] w0 (mX gb0 Ab0v cb0v b0v gb1 Ab1v cb1v b1v gb2 Ab2v cb2v b2v rowb2v r)):=by
 refine goV [] func114 ntmps114 results114 hp λF hF=>?_
 have hB:Lent F B:=hF▸Lent.start hpB
 refine Dx ?_
 refine bxV (v:=.agg (Ver.cs Av_2 cv_2 v_).toArray) λg1=>?_
 refine Dw (Dx (sV (q_fl 0 aG) (k:=sV (ldaV 0 (Dot.cs v_.dot) EZ F0) (k:=sV (ldV 1 F1) (k:=?_)))))
 obtain⟨z2,hz3,h⟩:=bnd h
 refine vqV (caV call115) (λw hw=>gJ (Γ:=Gh.all w) v_.dot ⟨hv_.1,hv_.2.1⟩ (hb0v.mono (hB.sat hw).le_all) hb0vc (Sat.all w) hz3) (k:=sV bb (k:=mV (k:=vG1 (h:=λhg4=>q_fl 0 aG) (k:=vG1 (h:=λhg5=>ldaV 0 (Dot.cs v_.dot) EZ F0 (hx:=grV hg5)) (k:=vG1 (h:=λhg6=>ldV 2 F1) (k:=?_))))))
 obtain⟨z8,hz9,h⟩:=bnd h
 refine vC1 (h:=λhg7=>aH (aC call115 rfl rfl (dX (grV hg7) (grV hg7))) (λw hw=>gJ (Γ:=Gh.all w) v_.dot ⟨hv_.1,hv_.2.1⟩ (hb1v.mono (hB.sat hw).le_all) hb1vc (Sat.all w) (bU hz9 hg7))) (k:=vG1 (h:=λhg10=>bb rfl (grV hg10)) (k:=sV pkA (k:=Dw ?_)))
 refine ciV h (λhb11 h=>?_) (λhb11 h=>?_)
 ·
  refine Dx (sV (q_fl 2 aN) (k:=sV (ldV 0 EX) (k:=?_)))
  obtain⟨z12,hz13,h⟩:=bnd h
  refine cw (is:=[]) rfl rfl (caV call116) rfl (λw hw hp=>kQ (B:=B) hv_.2.2.1.2 hv_.2.2.1.1 hp (hB.pre (is:=[]) hw rfl) hz13) ?_
  rintro Γ14 _ _ hl15 ⟨A18,c19,row20,rfl,rfl,hr21,_⟩
  refine cwV 19 [_,_,_,_,_,_] (sV (q_fl 2 aN) (k:=stV 1 (.slice A18 z12.length c19) #[ii v_.dot.s,ii v_.dot.n,.slice A18 z12.length c19,.bool v_.gone,.string v_.val] EQ (k:=Dw ?_)))
  refine DA ?_
  refine sV (ldV 4 F1) (k:=sV (ldaV 1 [ii v_.dot.s,ii v_.dot.n,.slice A18 z12.length c19,.bool v_.gone,.string v_.val] ES EP) (k:=?_))
  have hc26:=hr21.capz
  refine seR 0 [_,_,_,_,_,_] λΓ22 hl23 hr24=>?_
  have hs25:=hr21.sl hl23 hr24
  refine bsV #[ii v_.dot.s,ii v_.dot.n,.slice A18 z12.length c19,.bool v_.gone,.string v_.val] 72 λg27=>?_
  obtain⟨hk28,h⟩:=af h
  refine apV 6 [(⟨(⟨v_.dot.s,v_.dot.n⟩:Dot),z12,v_.gone,v_.val⟩:Ver)] lv (hb2v.mono (hl15.trans hl23)) (DP hk28) (λw hw=>br (i:=0) rfl (by exact⟨A18,c19,rfl,⟨hv_.1,hv_.2.1,⟨hc26,hs25⟩,hv_.2.2.2⟩⟩) hw) ?_
  intro row29 A30 c31 ho32
  refine stV 5 (.slice A30 (b2v++[(⟨(⟨v_.dot.s,v_.dot.n⟩:Dot),z12,v_.gone,v_.val⟩:Ver)]).length c31) #[.slice A30 (b2v++[(⟨(⟨v_.dot.s,v_.dot.n⟩:Dot),z12,v_.gone,v_.val⟩:Ver)]).length c31] sizeOf34 (k:=?_)
  refine Dz ?_
  intro w hw
  cases h
  subst hF
  exact aI (is:=[3,3,3,3]) (by kernel_rfl) hw rfl ⟨A30,c31,row29,rfl,rfl,ho32,trivial⟩
 refine DC ?_
 intro w hw
 cases h
 subst hF
 exact aI (is:=[1,1,1,1]) (by kernel_rfl) hw rfl ⟨Ab2v,cb2v,rowb2v,rfl,rfl,hb2v,trivial⟩
theorem mD{B:Gh}{Aa:Option Addr}{ca:Nat}{a:List Ver}(ha:Sl verT B Aa a)(hac:a.length≤ca){Ab:Option Addr}{cb:Nat}{b:List Ver}(hb:Sl verT B Ab b)(hbc:b.length≤cb)(hp:Pre [] Γ w0)(hpB:Pre [] B w0){r:(List Ver)×Int}(h:gc a b=some r):Calls Tryz.prog 78 #[.slice Aa a.length ca,.slice Ab b.length cb] w0 (Outc Γ [] w0 (oI r)):=by
 refine goV [4,5] func78 ntmps78 results78 hp λF hF=>?_
 have hB:Lent F B:=hF▸Lent.start hpB
 refine Dx ?_
 refine bxV (v:=.slice Aa a.length ca) λg1=>?_
 refine bxV (v:=.slice Ab b.length cb) λg2=>?_
 refine aV (k:=aV (k:=Dw (Dy (Dx (sV (ldV 1 F1) (k:=?_))))))
 obtain⟨z3,hz4,h⟩:=bnd h
 refine vqV (caV call95) (λw hw=>ig (Γ:=Gh.all w) (ha.mono (hB.sat hw).le_all) hac (Sat.all w) hz4) (k:=sV bb (k:=mV (k:=vG0 (h:=λhg5=>ldV 0 F1) (k:=?_))))
 obtain⟨z7,hz8,h⟩:=bnd h
 refine vC0 (h:=λhg6=>aH (aC call95 rfl rfl (kC (grV hg6))) (λw hw=>ig (Γ:=Gh.all w) (hb.mono (hB.sat hw).le_all) hbc (Sat.all w) (bU hz8 hg6))) (k:=vG0 (h:=λhg9=>bb rfl (grV hg9)) (k:=sV pkO (k:=Dw ?_)))
 refine ciV h (λhb10 h=>?_) (λhb10 h=>?_)
 ·
  refine Dx (aV (k:=aV (k:=Dw ?_)))
  refine DB ?_
  intro w hw
  have hw:=hw.pad
  exact re_ r [0] h hF hw ⟨none,0,[],rfl,rfl,(Own.nil verT _ 72),iV,trivial⟩
 refine DC (wc_ (Dx ?_))
 refine alV zeroValue34 λg11=>?_
 refine Dw (Dx (sV (bQ (v:=.func (.func 114) #[] #[(pq g1),(pq g2),(pq g11)]) rfl (by kernel_rfl)) (k:=aU (v:=.func (.func 114) #[] #[(pq g1),(pq g2),(pq g11)]) (k:=Dw (Dx (aV (k:=Dw ?_)))))))
 refine Dy (Dx (aV (k:=aV (k:=Dw (DD ?_)))))
 refine DO h (λ(s:Bool×Int×Int×(List Ver)) σ w=>match s with | (twin_14,i_15,k_17,x19) => ∃(Γ12:Gh), ∃(A20:Option Addr), ∃(c21:Nat), ∃(row22:Rowb),slots σ [(2,(pq g1)),(3,(pq g2)),(6,(pq g11)),(7,.func (.func 114) #[] #[(pq g1),(pq g2),(pq g11)]),(8,.bool twin_14),(9,ii i_15),(10,ii k_17)]∧CC F Γ12 [row22,[(g11,.cells #[.slice A20 x19.length c21] 34 (0,0))],[(g2,.cells #[.slice Ab b.length cb] 34 (0,0))],[(g1,.cells #[.slice Aa a.length ca] 34 (0,0))]] w∧Gh.le Γ Γ12∧I64 i_15∧I64 k_17∧Own verT Γ12 72 row22 A20 c21 x19∧True) ?_ ?_
 ·
  intro w hw
  have hw:=hw.pad
  exact⟨Γ,none,0,[],slK,hw,gR,iV,iV,(Own.nil verT _ 72),trivial⟩
 rintro f24 ⟨twin_14,i_15,k_17,x19⟩ σ w h ⟨Γ12,A20,c21,row22,hsl,hw,hl13,hr16,hr18,ho23,-⟩
 refine slV hsl hw [_,_,_,_] ?_; clear hw hsl
 refine Dy (Dx (mV (k:=sV (ldV 3 F1) (k:=sV (ab rfl EY) (k:=sV aw (k:=mV (k:=vG0 (h:=λhg28=>moV) (k:=?_))))))))
 refine vG0 (h:=λhg29=>ldV 2 F1) (k:=vG0 (h:=λhg30=>ab rfl EY (grV hg30)) (k:=vG0 (h:=λhg31=>aw rfl (grV hg31) (grV hg31)) (k:=sV pkO (k:=Dw ?_))))
 refine ciV h (λhb32 h=>?_) (λhb32 h=>?_)
 ·
  refine DC (wc_ (DD (DD (Dy ?_))))
  refine drV ?_
  refine zV moV (k:=zV (ldV 2 F1) (k:=zV (ab rfl EY) (k:=zV cW (k:=zV moV (k:=wG0 (h:=λhg33=>moV) (k:=wG0 (h:=λhg34=>ldV 3 F1) (k:=wG0 (h:=λhg35=>ab rfl EY (grV hg35)) (k:=?_))))))))
  refine wG0 (h:=λhg36=>aw rfl (grV hg36) (grV hg36)) (k:=wG0 (h:=λhg37=>b4 (v:=.bool (decide (i_15<(a.length:Int)))) rfl (grV hg37)) (k:=wh1 (c0:=(!(k_17==(b.length:Int)))) (g:=(decide (i_15<(a.length:Int)))) rfl rfl rfl rfl rfl (λ_=>QV.qo (ldV 3 F1)) (wh1 (c0:=(!(k_17==(b.length:Int)))) (g:=(decide (i_15<(a.length:Int)))) rfl rfl rfl rfl rfl (λ_=>QV.qo moV) ?_)))
  obtain⟨hk41,h⟩:=af h
  refine wh1 (c0:=(!(k_17==(b.length:Int)))) (g:=(decide (i_15<(a.length:Int)))) rfl rfl rfl rfl rfl (λhg40=>QV.qo (q_ix EY EP rfl (grV hg40) (grV hg40) (al hk41 hg40) (ha.some_ (aq (al hk41 hg40))))) (wh1 (c0:=(!(k_17==(b.length:Int)))) (g:=(decide (i_15<(a.length:Int)))) rfl rfl rfl rfl rfl (λhg42=>QV.qo (ah (i_15.toNat*5) aG rfl (grV hg42) (ha.some_ (aq (al hk41 hg42))) rfl)) ?_)
  obtain⟨A44,c45,hx46⟩:=ha.verT_at i_15.toNat
  refine wh1 (c0:=(!(k_17==(b.length:Int)))) (g:=(decide (i_15<(a.length:Int)))) rfl rfl rfl rfl rfl (λhg43=>QV.qo (iI (c:=0) (vs:=[ii (gt a i_15.toNat).dot.s,ii (gt a i_15.toNat).dot.n]) (λw hw=>hB.sat hw) (hx46 (aq (al hk41 hg43))).2 rfl EZ F0 (grV hg43) rfl rfl)) (wh1 (c0:=(!(k_17==(b.length:Int)))) (g:=(decide (i_15<(a.length:Int)))) rfl rfl rfl rfl rfl (λ_=>QV.qo (ldV 2 F1)) (wh1 (c0:=(!(k_17==(b.length:Int)))) (g:=(decide (i_15<(a.length:Int)))) rfl rfl rfl rfl rfl (λ_=>QV.qo moV) ?_))
  obtain⟨hk50,h⟩:=af h
  refine wh1 (c0:=(!(k_17==(b.length:Int)))) (g:=(decide (i_15<(a.length:Int)))) rfl rfl rfl rfl rfl (λhg49=>QV.qo (q_ix EY EP rfl (grV hg49) (grV hg49) (al hk50 hg49) (hb.some_ (aq (al hk50 hg49))))) (wh1 (c0:=(!(k_17==(b.length:Int)))) (g:=(decide (i_15<(a.length:Int)))) rfl rfl rfl rfl rfl (λhg51=>QV.qo (ah (k_17.toNat*5) aG rfl (grV hg51) (hb.some_ (aq (al hk50 hg51))) rfl)) ?_)
  obtain⟨A53,c54,hx55⟩:=hb.verT_at k_17.toNat
  refine wh1 (c0:=(!(k_17==(b.length:Int)))) (g:=(decide (i_15<(a.length:Int)))) rfl rfl rfl rfl rfl (λhg52=>QV.qo (iI (c:=0) (vs:=[ii (gt b k_17.toNat).dot.s,ii (gt b k_17.toNat).dot.n]) (λw hw=>hB.sat hw) (hx55 (aq (al hk50 hg52))).2 rfl EZ F0 (grV hg52) rfl rfl)) ?_
  obtain⟨z57,hz58,h⟩:=bnd h
  refine wh1 (c0:=(!(k_17==(b.length:Int)))) (g:=(decide (i_15<(a.length:Int)))) rfl rfl rfl rfl rfl (λhg56=>(aH (aC call117 rfl rfl (dX (grV hg56) (grV hg56))) (λw hw=>kV (Γ:=Gh.all w) ((gt a i_15.toNat).dot) ⟨(hx46 (aq (al hk41 hg56))).1.1,(hx46 (aq (al hk41 hg56))).1.2.1⟩ ((gt b k_17.toNat).dot) ⟨(hx55 (aq (al hk50 hg56))).1.1,(hx55 (aq (al hk50 hg56))).1.2.1⟩ (Sat.all w) (bU hz58 hg56)))) (wG0 (h:=λhg59=>eV rfl (grV hg59) (kM (c:=(!(k_17==(b.length:Int)))) (g:=(decide (i_15<(a.length:Int)))) (y:=z57) hg59)) (k:=zV pkO (k:=zV aoV (k:=?_))))
  refine DJ ?_
  change WC _ _ _ _ _ _
  refine ciV h (λhb60 h=>?_) (λhb60 h=>?_)
  ·
   refine Dx (mU (v:=.func (.func 114) #[] #[(pq g1),(pq g2),(pq g11)]) (k:=sV (ldV 3 F1) (k:=mV (k:=?_))))
   obtain⟨hk61,h⟩:=af h
   refine sV (q_ix EY EP rfl rfl rfl hk61 (ha.some_ (aq hk61))) (k:=sV (iI (c:=0) (vs:=(Ver.cs A44 c45 (gt a i_15.toNat))) (λw hw=>hB.sat hw) (hx46 (aq hk61)).2 rfl ES EP rfl rfl rfl) (k:=?_))
   obtain⟨z62,hz63,h⟩:=bnd h
   refine cw (is:=[3,2,1,0]) rfl rfl (aT (caps:=#[(pq g1),(pq g2),(pq g11)]) call114 rfl (by kernel_rfl) (by kernel_rfl)) rfl (λw hw hp=>li (B:=B) (gt a i_15.toNat) (hx46 (aq hk61)).1 ha hac hb hbc ho23 hp (hB.pre (is:=[3,2,1,0]) hw rfl) hz63) ?_
   rintro Γ64 _ _ hl65 ⟨A68,c69,row70,rfl,rfl,hr71,_⟩
   refine cwV 67 [_,_,_,_] (Dw ?_)
   refine DA ?_
   refine mV (k:=sV bN (k:=aV (k:=?_)))
   exact Dz λw hw=>⟨(twin_14,(w64 (i_15+1)),k_17,z62),h,Γ64,A68,c69,row70,slK,(hw.on [3,2,1,0]),(hl13.trans hl65),(ep _),hr18,hr71,trivial⟩
  refine Dy ?_
  refine drV ?_
  refine zV moV (k:=zV (ldV 3 F1) (k:=zV (ab rfl EY) (k:=zV aw (k:=zV moV (k:=wG1 (h:=λhg72=>ldV 3 F1) (k:=wG1 (h:=λhg73=>moV) (k:=?_)))))))
  obtain⟨hk75,h⟩:=af h
  refine wG1 (h:=λhg74=>q_ix EY EP rfl (grV hg74) (grV hg74) (al hk75 hg74) (ha.some_ (aq (al hk75 hg74)))) (k:=wG1 (h:=λhg76=>ah (i_15.toNat*5) aG rfl (grV hg76) (ha.some_ (aq (al hk75 hg76))) rfl) (k:=wG1 (h:=λhg77=>iI (c:=0) (vs:=[ii (gt a i_15.toNat).dot.s,ii (gt a i_15.toNat).dot.n]) (λw hw=>hB.sat hw) (hx46 (aq (al hk75 hg77))).2 rfl EZ F0 (grV hg77) rfl rfl) (k:=wG1 (h:=λhg78=>ldV 2 F1) (k:=wG1 (h:=λhg79=>moV) (k:=?_)))))
  obtain⟨hk81,h⟩:=af h
  refine wG1 (h:=λhg80=>q_ix EY EP rfl (grV hg80) (grV hg80) (al hk81 hg80) (hb.some_ (aq (al hk81 hg80)))) (k:=wG1 (h:=λhg82=>ah (k_17.toNat*5) aG rfl (grV hg82) (hb.some_ (aq (al hk81 hg82))) rfl) (k:=wG1 (h:=λhg83=>iI (c:=0) (vs:=[ii (gt b k_17.toNat).dot.s,ii (gt b k_17.toNat).dot.n]) (λw hw=>hB.sat hw) (hx55 (aq (al hk81 hg83))).2 rfl EZ F0 (grV hg83) rfl rfl) (k:=wG1 (h:=λhg84=>nr (a:=(gt a i_15.toNat).dot) (b:=(gt b k_17.toNat).dot) rfl (grV hg84) (grV hg84)) (k:=zV pkA (k:=zV aoV (k:=?_))))))
  refine DJ ?_
  change WC _ _ _ _ _ _
  refine ciV h (λhb85 h=>?_) (λhb85 h=>?_)
  ·
   refine Dy ?_
   refine drV ?_
   refine zV moV (k:=zV moV (k:=wG0 (h:=λhg86=>ldV 3 F1) (k:=wG0 (h:=λhg87=>moV) (k:=?_))))
   obtain⟨hk89,h⟩:=af h
   refine wG0 (h:=λhg88=>q_ix EY EP rfl (grV hg88) (grV hg88) (al hk89 hg88) (ha.some_ (aq (al hk89 hg88)))) (k:=wG0 (h:=λhg90=>iI (c:=0) (vs:=(Ver.cs A44 c45 (gt a i_15.toNat))) (λw hw=>hB.sat hw) (hx46 (aq (al hk89 hg90))).2 rfl ES EP (grV hg90) rfl rfl) (k:=wG0 (h:=λhg91=>ldV 2 F1) (k:=wG0 (h:=λhg92=>moV) (k:=?_))))
   obtain⟨hk94,h⟩:=af h
   refine wG0 (h:=λhg93=>q_ix EY EP rfl (grV hg93) (grV hg93) (al hk94 hg93) (hb.some_ (aq (al hk94 hg93)))) (k:=wG0 (h:=λhg95=>iI (c:=0) (vs:=(Ver.cs A53 c54 (gt b k_17.toNat))) (λw hw=>hB.sat hw) (hx55 (aq (al hk94 hg95))).2 rfl ES EP (grV hg95) rfl rfl) (k:=?_))
   obtain⟨z97,hz98,h⟩:=bnd h
   refine wC0 (h:=λhg96=>aH (aC call118 rfl rfl (dX (grV hg96) (grV hg96))) (λw hw=>nc (Γ:=Gh.all w) (gt a i_15.toNat) (Ver.fits_mono (hx46 (aq (al hk89 hg96))).1 (hB.sat hw).le_all) (gt b k_17.toNat) (Ver.fits_mono (hx55 (aq (al hk94 hg96))).1 (hB.sat hw).le_all) (Sat.all w) (bU hz98 hg96))) (k:=wG0 (h:=λhg99=>bb rfl (grV hg99)) (k:=zV pkO (k:=zV aoV (k:=?_))))
   refine DJ ?_
   change WC _ _ _ _ _ _
   refine DA ?_
   refine mV (k:=sV bN (k:=aV (k:=?_)))
   exact Dz λw hw=>⟨((twin_14||(!z97)),(w64 (i_15+1)),k_17,x19),h,Γ12,A20,c21,row22,slK,hw,hl13,(ep _),hr18,ho23,trivial⟩
  refine Dx (mU (v:=.func (.func 114) #[] #[(pq g1),(pq g2),(pq g11)]) (k:=sV (ldV 2 F1) (k:=mV (k:=?_))))
  obtain⟨hk100,h⟩:=af h
  refine sV (q_ix EY EP rfl rfl rfl hk100 (hb.some_ (aq hk100))) (k:=sV (iI (c:=0) (vs:=(Ver.cs A53 c54 (gt b k_17.toNat))) (λw hw=>hB.sat hw) (hx55 (aq hk100)).2 rfl ES EP rfl rfl rfl) (k:=?_))
  obtain⟨z101,hz102,h⟩:=bnd h
  refine cw (is:=[3,2,1,0]) rfl rfl (aT (caps:=#[(pq g1),(pq g2),(pq g11)]) call114 rfl (by kernel_rfl) (by kernel_rfl)) rfl (λw hw hp=>li (B:=B) (gt b k_17.toNat) (hx55 (aq hk100)).1 ha hac hb hbc ho23 hp (hB.pre (is:=[3,2,1,0]) hw rfl) hz102) ?_
  rintro Γ103 _ _ hl104 ⟨A107,c108,row109,rfl,rfl,hr110,_⟩
  refine cwV 35 [_,_,_,_] (Dw ?_)
  refine DA ?_
  refine mV (k:=sV bN (k:=aV (k:=?_)))
  exact Dz λw hw=>⟨(twin_14,i_15,(w64 (k_17+1)),z101),h,Γ103,A107,c108,row109,slK,(hw.on [3,2,1,0]),(hl13.trans hl104),hr16,(ep _),hr110,trivial⟩
 refine DE ?_
 change WC _ _ _ _ _ _
 refine Dy (DD (Dx (mV (k:=aV (k:=Dw ?_)))))
 refine ciV h (λhb111 h=>?_) (λhb111 h=>?_)
 ·
  refine Dx (aV (k:=aV (k:=Dw ?_)))
  refine DB ?_
  intro w hw
  have hw:=hw.pad
  exact re_ r [0] h hF hw ⟨none,0,[],rfl,rfl,(Own.nil verT _ 72),iV,trivial⟩
 refine Dx (sV (ldV 1 F1) (k:=sV (ab rfl EY) (k:=sV bx (k:=aV (k:=Dw ?_)))))
 refine ciV h (λhb112 h=>?_) (λhb112 h=>?_)
 ·
  refine Dx (aV (k:=aV (k:=Dw ?_)))
  refine DB ?_
  intro w hw
  have hw:=hw.pad
  exact re_ r [0] h hF hw ⟨none,0,[],rfl,rfl,(Own.nil verT _ 72),iV,trivial⟩
 refine DC (wc_ (Dx (sV (ldV 1 F1) (k:=aV (k:=aV (k:=Dw ?_))))))
 exact DB λw hw=>re_ r [0] h hF hw ⟨A20,c21,row22,rfl,rfl,ho23,iV,trivial⟩
theorem mh{Aa:Option Addr}{ca:Nat}{a:List Ver}(ha:Sl verT Γ Aa a)(hac:a.length≤ca){Ab:Option Addr}{cb:Nat}{b:List Ver}(hb:Sl verT Γ Ab b)(hbc:b.length≤cb)(hs:Sat Γ w0){r:Bool}(h:jx a b=some r):CQ Tryz.prog 79 #[.slice Aa a.length ca,.slice Ab b.length cb] w0 (.bool r):=by
 refine goQ [4] func79 ntmps79 results79 hs λF hF=>?_
 refine Dx (aV (k:=Dw (Dy (Dx (mV (k:=sV (ab rfl EY) (k:=mV (k:=?_))))))))
 refine sV (ab rfl EY) (k:=sV BR (k:=mV (k:=Dw (DD ?_))))
 refine WC.forU h (λ(i2:Nat) (s:Unit) σ w=>match s with | ()=>slots σ [(0,.slice Aa a.length ca),(1,.slice Ab b.length cb),(10,ii (min (a.length:Int) (b.length:Int))),(11,ii (i2:Int))]∧CC F Γ [] w∧True) ?_ ?_
 ·
  intro w hw
  exact⟨slK,hw,trivial⟩
 rintro f1 i2 ⟨⟩ σ w hi3 hlt4 hge5 ⟨hsl,hw,-⟩
 refine slV hsl hw [] ?_; clear hw hsl
 refine Dx (sV aw (k:=Dw (Dy ?_)))
 refine coV (λhb6=>?_) (λhb6=>?_)
 ·
  have hl7:=ilti hb6
  have h:=hlt4 hl7
  refine DC (wc_ (Dy (DD (Dx (mV (k:=aV (k:=Dw ?_)))))))
  refine Dy ?_
  refine drV ?_
  refine zV moV (k:=zV moV (k:=?_))
  obtain⟨hk8,h⟩:=af h
  refine zV (ar (i:=i2) EY EP rfl rfl rfl (DP hk8) (ha.some_ (DP hk8))) (k:=?_)
  obtain⟨A9,c10,hx11⟩:=ha.verT_at i2
  refine zV (bT (c:=0) (vs:=(Ver.cs A9 c10 (gt a i2))) (hx11 (DP hk8)).2 rfl ES EP rfl rfl rfl) (k:=zV moV (k:=zV moV (k:=?_)))
  obtain⟨hk12,h⟩:=af h
  refine zV (ar (i:=i2) EY EP rfl rfl rfl (DP hk12) (hb.some_ (DP hk12))) (k:=?_)
  obtain⟨A13,c14,hx15⟩:=hb.verT_at i2
  refine zV (bT (c:=0) (vs:=(Ver.cs A13 c14 (gt b i2))) (hx15 (DP hk12)).2 rfl ES EP rfl rfl rfl) (k:=?_)
  obtain⟨z16,hz17,h⟩:=bnd h
  refine wc rfl rfl rfl (aH (caV call118) (λw hw=>nc (Γ:=Gh.all w) (gt a i2) (Ver.fits_mono (hx11 (DP hk8)).1 hw.sat.le_all) (gt b i2) (Ver.fits_mono (hx15 (DP hk12)).1 hw.sat.le_all) (Sat.all w) hz17)) (zV bb (k:=?_))
  refine DJ ?_
  change WC _ _ _ _ _ _
  refine ciV h (λhb18 h=>?_) (λhb18 h=>?_)
  ·
   refine Dx (aV (k:=Dw ?_))
   exact DB λw hw=>rq_ r h hF hw
  refine DC (wc_ ?_)
  refine DA ?_
  refine sV (am rfl rfl rfl (pi hl7 (BD (lS ha.le) (lS hb.le)))) (k:=mV (k:=?_))
  exact Dz λw hw=>⟨hl7,(),h,slK,hw,trivial⟩
 have h:=hge5 (igei hb6)
 refine DE ?_
 change WC _ _ _ _ _ _
 refine Dx (mV (k:=sV (ab rfl EY) (k:=mV (k:=sV (ab rfl EY) (k:=sV cW (k:=aV (k:=Dw ?_)))))))
 exact DB λw hw=>rq_ r h hF hw
abbrev u9(r:List UInt8)(U:List Rowb)(Γ:Gh)(v:Value):Prop := ∃(A0:Option Addr), ∃(c0:Nat), ∃(row0:Rowb),v = .slice A0 r.length c0∧U = [row0]∧Own au Γ 5 row0 A0 c0 r∧True
theorem jM(n:Int)(hn:I64 n)(hp:Pre [] Γ w0){r:List UInt8}(h:gr n=some r):Calls Tryz.prog 159 #[ii n] w0 (Outc Γ [] w0 (u9 r)):=by
 refine goV [2] func159 ntmps159 results159 hp λF hF=>?_
 refine Dx (aV (k:=Dw (Dx (aV (k:=Dw (Dx (mV (k:=?_))))))))
 refine sV vz (k:=sV (gZ Et underlying2) (k:=aV (k:=Dw (Dy (DD ?_)))))
 refine DO h (λ(s:(List UInt8)×Int) σ w=>match s with | (b_1,u_6) => ∃(A2:Option Addr), ∃(c3:Nat), ∃(row4:Rowb),slots σ [(3,.slice A2 b_1.length c3),(4,.int .u64 u_6)]∧CC F Γ [row4] w∧Own au Γ 5 row4 A2 c3 b_1∧True) ?_ ?_
 ·
  intro w hw
  have hw:=hw.pad
  exact⟨none,0,[],slK,hw,(Own.nil au _ 5),trivial⟩
 rintro f7 ⟨b_1,u_6⟩ σ w h ⟨A2,c3,row4,hsl,hw,ho5,-⟩
 refine slV hsl hw [_] ?_; clear hw hsl
 refine Dy (Dx (mV (k:=sV bx (k:=Dw ?_))))
 refine ciV h (λhb11 h=>?_) (λhb11 h=>?_)
 ·
  refine DC (wc_ (Dy (DD ?_)))
  refine DA ?_
  refine mV (k:=mV (k:=sV (gZ Eu Et) (k:=sV q_or (k:=?_))))
  refine bsV #[.int .u8 (ior .u8 (wu8 u_6) 128)] 5 λg12=>?_
  obtain⟨hk13,h⟩:=af h
  obtain⟨hk14,h⟩:=af h
  refine apV 1 [(b8 (ior .u8 (wu8 u_6) 128))] im ho5 (DP hk14) (λw hw=>br (i:=0) rfl (by exact(by show [Value.int .u8 (ior .u8 (wu8 u_6) 128)] = [Value.int .u8 _]; rw [qq (CK hk13)])) hw) ?_
  intro row15 A16 c17 ho18
  refine aV (k:=?_)
  refine Dz ?_
  change WC _ _ _ _ _ _
  refine DA ?_
  refine mV (k:=sV (td rfl rfl rfl (by decide)) (k:=aV (k:=?_)))
  exact Dz λw hw=>⟨((b_1++[(b8 (ior .u8 (wu8 u_6) 128))]),(ishr .u64 u_6 7)),h,A16,c17,row15,slK,(hw.on [1]),ho18,trivial⟩
 refine DE ?_
 change WC _ _ _ _ _ _
 refine Dx (mV (k:=mV (k:=sV (gZ Eu Et) (k:=?_))))
 refine bsV #[.int .u8 (wu8 u_6)] 5 λg19=>?_
 obtain⟨hk20,h⟩:=af h
 refine apV 1 [(b8 (wu8 u_6))] im ho5 (DP hk20) (λw hw=>br (i:=0) rfl (by exact(by show [Value.int .u8 (wu8 u_6)] = [Value.int .u8 _]; rw [qq (zB _)])) hw) ?_
 intro row21 A22 c23 ho24
 refine aV (k:=Dw ?_)
 exact DB λw hw=>re_ r [1] h hF hw ⟨A22,c23,row21,rfl,rfl,ho24,trivial⟩
abbrev sG(r:List UInt8)(U:List Rowb)(Γ:Gh)(v:Value):Prop := ∃(A0:Option Addr), ∃(c0:Nat), ∃(row0:Rowb),v = .slice A0 r.length c0∧U = [row0]∧Own au Γ 5 row0 A0 c0 r∧True
theorem nM(s_:ByteArray)(hs_:s_.size≤lim)(hp:Pre [] Γ w0){r:List UInt8}(h:kN s_=some r):Calls Tryz.prog 185 #[.string s_] w0 (Outc Γ [] w0 (sG r)):=by
 refine goV [2] func185 ntmps185 results185 hp λF hF=>?_
 refine Dx (aV (k:=Dw (Dx (mV (k:=sV (bg rfl Ek) (k:=?_))))))
 obtain⟨z1,hz2,h⟩:=bnd h
 refine ecV [] (caV call159) (λw hp=>jM (s_.size:Int) (lS hs_) hp hz2) ?_
 rintro Γ3 _ _ hl4 ⟨A7,c8,row9,rfl,rfl,hr10,_⟩
 refine cwV 5 [_] (mV (k:=?_))
 obtain⟨hk11,h⟩:=af h
 refine ud (xs:=z1) (s:=s_) (ti:=t5) Eo Ek (by kernel_rfl) (by kernel_rfl) (by kernel_rfl) (by kernel_rfl) (i:=0) rfl rfl rfl rfl rfl rfl rfl hr10 (DP hk11) ?_
 intro row12 A13 c14 ho15
 refine aV (k:=Dw ?_)
 exact DB λw hw=>re_ r [0] h hF hw ⟨A13,c14,row12,rfl,rfl,ho15,trivial⟩
abbrev o9(gw_:Nat)(ew_:Nat)(r:ac)(U:List Rowb)(Γ:Gh)(v:Value):Prop := ∃(roww_':Rowb),v = .tuple #[]∧U = [roww_']∧ac.ob ew_ Γ gw_ roww_' r∧True
theorem eW{gw_ ew_:Nat}{roww_:Rowb}{w_:ac}(hw_:ac.ob ew_ Γ gw_ roww_ w_)(s_:ByteArray)(hs_:s_.size≤lim)(hp:Pre [roww_] Γ w0){r:ac}(h:dv w_ s_=some r):Calls Tryz.prog 156 #[(pq gw_),.string s_] w0 (Outc Γ [roww_] w0 (o9 gw_ ew_ r)):=by
 refine goV [] func156 ntmps156 results156 hp λF hF=>?_
 refine leV λh01=>?_
 refine db (CC F Γ []) (bo_ [] gR h01) λk=>?_
 change WH _ _ _ _ (CC F Γ [_]) _ 11 _ _
 refine hV 0 k (q:=moV) (k:=hV 1 k (q:=moV) (k:=hV 2 k (q:=nlV) (k:=hV 3 k (q:=q_fl 0 ib) (k:=hV 5 k (q:=moV) (k:=?_)))))
 obtain⟨z2,hz3,h⟩:=bnd h
 refine WH.each (l:=[4,6]) (by kernel_rfl) (by simp) ?_
 intro i hi; simp only [DX,List.not_mem_nil,or_false] at hi
 rcases hi with rfl | rfl
 ·
  refine⟨_,rfl,?_⟩
  obtain⟨A0_4,c0_4,r0_4,hrow_4,ho0_4,-⟩:=id hw_
  refine ufR 0 hrow_4 [_,_] ?_
  refine sV (ldV 0 Ex) (k:=?_)
  refine Dz (nxV (bo_ [] gR h01) λk=>?_)
  refine wl_ 6 rfl ?_
  refine ecV [] (caV call185) (λw hp=>nM s_ hs_ hp hz3) ?_
  rintro Γ5 _ _ hl6 ⟨A9,c10,row11,rfl,rfl,hr12,_⟩
  refine cwV 10 [_,_,_] ?_
  refine Dz (nxV (bo_ [] hl6 h01) λk=>?_)
  refine wl_ 7 rfl ?_
  obtain⟨hk13,h⟩:=af h
  refine apV 2 z2 im (ho0_4.mono hl6) (DP hk13) (λw hw=>pu (i:=0) rfl hr12 hw) ?_
  intro row14 A15 c16 ho17
  refine Dz (nxV (bo_ [] hl6 h01) λk=>?_)
  refine hV 8 k (q:=nlV) (k:=hV 9 k (q:=q_fl 0 ib) (k:=wl_ 10 rfl (stV 1 (.slice A15 (w_.b++z2).length c16) #[.slice A15 (w_.b++z2).length c16] Ew (k:=?_))))
  refine Dz (nxV (bo_ [] hl6 h01) λk=>?_)
  refine DH (by kernel_rfl) ?_
  intro w hw
  obtain⟨row_18,hrow_18,hob_18⟩:∃rw:Rowb,rw=([[(gw_,.cells #[.slice A15 (w_.b++z2).length c16] ew_ (0,0))],row14]:List Rowb).flatten∧ac.ob ew_ Γ5 gw_ rw (⟨(w_.b++z2)⟩:ac):=⟨_,rfl,A15,c16,row14,rfl,ho17,trivial⟩
  have hw:=hw.fold (is:=[1,1]) rfl hrow_18
  cases h
  subst hF
  exact aI (is:=[0]) (by kernel_rfl) hw rfl ⟨row_18,rfl,rfl,hob_18,trivial⟩
 refine⟨_,rfl,?_⟩
 refine ecV [] (caV call185) (λw hp=>nM s_ hs_ hp hz3) ?_
 rintro Γ4 _ _ hl5 ⟨A8,c9,row10,rfl,rfl,hr11,_⟩
 refine cwV 10 [_,_] ?_
 refine Dz (nxV (bo_ [] hl5 h01) λk=>?_)
 refine wl_ 4 rfl ?_
 obtain⟨A0_12,c0_12,r0_12,hrow_12,ho0_12,-⟩:=(hw_.mono hl5)
 refine ufR 1 hrow_12 [_,_,_] ?_
 refine sV (ldV 0 Ex) (k:=?_)
 refine Dz (nxV (bo_ [] hl5 h01) λk=>?_)
 refine wl_ 7 rfl ?_
 obtain⟨hk13,h⟩:=af h
 refine apV 1 z2 im ho0_12 (DP hk13) (λw hw=>pu (i:=2) rfl hr11 hw) ?_
 intro row14 A15 c16 ho17
 refine Dz (nxV (bo_ [] hl5 h01) λk=>?_)
 refine hV 8 k (q:=nlV) (k:=hV 9 k (q:=q_fl 0 ib) (k:=wl_ 10 rfl (stV 0 (.slice A15 (w_.b++z2).length c16) #[.slice A15 (w_.b++z2).length c16] Ew (k:=?_))))
 refine Dz (nxV (bo_ [] hl5 h01) λk=>?_)
 refine DH (by kernel_rfl) ?_
 intro w hw
 obtain⟨row_18,hrow_18,hob_18⟩:∃rw:Rowb,rw=([[(gw_,.cells #[.slice A15 (w_.b++z2).length c16] ew_ (0,0))],row14]:List Rowb).flatten∧ac.ob ew_ Γ4 gw_ rw (⟨(w_.b++z2)⟩:ac):=⟨_,rfl,A15,c16,row14,rfl,ho17,trivial⟩
 have hw:=hw.fold (is:=[0,0]) rfl hrow_18
 cases h
 subst hF
 exact aI (is:=[0]) (by kernel_rfl) hw rfl ⟨row_18,rfl,rfl,hob_18,trivial⟩
abbrev oY(gw_:Nat)(ew_:Nat)(r:ac)(U:List Rowb)(Γ:Gh)(v:Value):Prop := ∃(roww_':Rowb),v = .tuple #[]∧U = [roww_']∧ac.ob ew_ Γ gw_ roww_' r∧True
theorem dS{gw_ ew_:Nat}{roww_:Rowb}{w_:ac}(hw_:ac.ob ew_ Γ gw_ roww_ w_)(n:Int)(hn:I64 n)(hp:Pre [roww_] Γ w0){r:ac}(h:bZ w_ n=some r):Calls Tryz.prog 187 #[(pq gw_),ii n] w0 (Outc Γ [roww_] w0 (oY gw_ ew_ r)):=by
 refine goV [] func187 ntmps187 results187 hp λF hF=>?_
 refine leV λh01=>?_
 refine db (CC F Γ []) (bo_ [] gR h01) λk=>?_
 change WH _ _ _ _ (CC F Γ [_]) _ 11 _ _
 refine hV 0 k (q:=moV) (k:=hV 1 k (q:=moV) (k:=hV 2 k (q:=nlV) (k:=hV 3 k (q:=q_fl 0 ib) (k:=hV 5 k (q:=moV) (k:=?_)))))
 obtain⟨z2,hz3,h⟩:=bnd h
 refine WH.each (l:=[4,6]) (by kernel_rfl) (by simp) ?_
 intro i hi; simp only [DX,List.not_mem_nil,or_false] at hi
 rcases hi with rfl | rfl
 ·
  refine⟨_,rfl,?_⟩
  obtain⟨A0_4,c0_4,r0_4,hrow_4,ho0_4,-⟩:=id hw_
  refine ufR 0 hrow_4 [_,_] ?_
  refine sV (ldV 0 Ex) (k:=?_)
  refine Dz (nxV (bo_ [] gR h01) λk=>?_)
  refine wl_ 6 rfl ?_
  refine ecV [] (caV call159) (λw hp=>jM n hn hp hz3) ?_
  rintro Γ5 _ _ hl6 ⟨A9,c10,row11,rfl,rfl,hr12,_⟩
  refine cwV 10 [_,_,_] ?_
  refine Dz (nxV (bo_ [] hl6 h01) λk=>?_)
  refine wl_ 7 rfl ?_
  obtain⟨hk13,h⟩:=af h
  refine apV 2 z2 im (ho0_4.mono hl6) (DP hk13) (λw hw=>pu (i:=0) rfl hr12 hw) ?_
  intro row14 A15 c16 ho17
  refine Dz (nxV (bo_ [] hl6 h01) λk=>?_)
  refine hV 8 k (q:=nlV) (k:=hV 9 k (q:=q_fl 0 ib) (k:=wl_ 10 rfl (stV 1 (.slice A15 (w_.b++z2).length c16) #[.slice A15 (w_.b++z2).length c16] Ew (k:=?_))))
  refine Dz (nxV (bo_ [] hl6 h01) λk=>?_)
  refine DH (by kernel_rfl) ?_
  intro w hw
  obtain⟨row_18,hrow_18,hob_18⟩:∃rw:Rowb,rw=([[(gw_,.cells #[.slice A15 (w_.b++z2).length c16] ew_ (0,0))],row14]:List Rowb).flatten∧ac.ob ew_ Γ5 gw_ rw (⟨(w_.b++z2)⟩:ac):=⟨_,rfl,A15,c16,row14,rfl,ho17,trivial⟩
  have hw:=hw.fold (is:=[1,1]) rfl hrow_18
  cases h
  subst hF
  exact aI (is:=[0]) (by kernel_rfl) hw rfl ⟨row_18,rfl,rfl,hob_18,trivial⟩
 refine⟨_,rfl,?_⟩
 refine ecV [] (caV call159) (λw hp=>jM n hn hp hz3) ?_
 rintro Γ4 _ _ hl5 ⟨A8,c9,row10,rfl,rfl,hr11,_⟩
 refine cwV 10 [_,_] ?_
 refine Dz (nxV (bo_ [] hl5 h01) λk=>?_)
 refine wl_ 4 rfl ?_
 obtain⟨A0_12,c0_12,r0_12,hrow_12,ho0_12,-⟩:=(hw_.mono hl5)
 refine ufR 1 hrow_12 [_,_,_] ?_
 refine sV (ldV 0 Ex) (k:=?_)
 refine Dz (nxV (bo_ [] hl5 h01) λk=>?_)
 refine wl_ 7 rfl ?_
 obtain⟨hk13,h⟩:=af h
 refine apV 1 z2 im ho0_12 (DP hk13) (λw hw=>pu (i:=2) rfl hr11 hw) ?_
 intro row14 A15 c16 ho17
 refine Dz (nxV (bo_ [] hl5 h01) λk=>?_)
 refine hV 8 k (q:=nlV) (k:=hV 9 k (q:=q_fl 0 ib) (k:=wl_ 10 rfl (stV 0 (.slice A15 (w_.b++z2).length c16) #[.slice A15 (w_.b++z2).length c16] Ew (k:=?_))))
 refine Dz (nxV (bo_ [] hl5 h01) λk=>?_)
 refine DH (by kernel_rfl) ?_
 intro w hw
 obtain⟨row_18,hrow_18,hob_18⟩:∃rw:Rowb,rw=([[(gw_,.cells #[.slice A15 (w_.b++z2).length c16] ew_ (0,0))],row14]:List Rowb).flatten∧ac.ob ew_ Γ4 gw_ rw (⟨(w_.b++z2)⟩:ac):=⟨_,rfl,A15,c16,row14,rfl,ho17,trivial⟩
 have hw:=hw.fold (is:=[0,0]) rfl hrow_18
 cases h
 subst hF
 exact aI (is:=[0]) (by kernel_rfl) hw rfl ⟨row_18,rfl,rfl,hob_18,trivial⟩
abbrev oF(gw_:Nat)(ew_:Nat)(r:ac)(U:List Rowb)(Γ:Gh)(v:Value):Prop := ∃(roww_':Rowb),v = .tuple #[]∧U = [roww_']∧ac.ob ew_ Γ gw_ roww_' r∧True
theorem aS{gw_ ew_:Nat}{roww_:Rowb}{w_:ac}(hw_:ac.ob ew_ Γ gw_ roww_ w_)(n:Int)(hn:I64 n)(hp:Pre [roww_] Γ w0){r:ac}(h:bm w_ n=some r):Calls Tryz.prog 186 #[(pq gw_),ii n] w0 (Outc Γ [roww_] w0 (oF gw_ ew_ r)):=by
 refine goV [] func186 ntmps186 results186 hp λF hF=>?_
 refine DA ?_
 refine mV (k:=mV (k:=?_))
 obtain⟨z1,hz2,h⟩:=bnd h
 refine ecV [0] (caV call187) (λw hp=>dS hw_ n hn hp hz2) ?_
 rintro Γ3 _ _ hl4 ⟨row7,rfl,rfl,hr8,_⟩
 refine cwV 6 [_] ?_
 refine Dz ?_
 intro w hw
 cases h
 subst hF
 exact aI (is:=[0]) (by kernel_rfl) hw rfl ⟨row7,rfl,rfl,hr8,trivial⟩
abbrev ot(gw_:Nat)(ew_:Nat)(r:ac)(U:List Rowb)(Γ:Gh)(v:Value):Prop := ∃(roww_':Rowb),v = .tuple #[]∧U = [roww_']∧ac.ob ew_ Γ gw_ roww_' r∧True
theorem kc{gw_ ew_:Nat}{roww_:Rowb}{w_:ac}(hw_:ac.ob ew_ Γ gw_ roww_ w_)(x_:Span)(hx_:Span.fits Γ  x_)(hp:Pre [roww_] Γ w0){r:ac}(h:dp w_ x_=some r):Calls Tryz.prog 189 #[(pq gw_),.agg (Span.cs x_).toArray] w0 (Outc Γ [roww_] w0 (ot gw_ ew_ r)):=by
 refine goV [] func189 ntmps189 results189 hp λF hF=>?_
 refine Dx ?_
 refine bxV (v:=.agg (Span.cs x_).toArray) λg1=>?_
 refine Dw (Dx (mV (k:=sV (q_fl 0 cg) (k:=sV (ldV 0 Ez) (k:=?_)))))
 obtain⟨z2,hz3,h⟩:=bnd h
 refine ecV [1] (caV Fc) (λw hp=>aS hw_ x_.s hx_.1 hp hz3) ?_
 rintro Γ4 _ _ hl5 ⟨row8,rfl,rfl,hr9,_⟩
 refine cwV 7 [_,_] (Dw (Dx (mV (k:=sV (q_fl 1 cB) (k:=sV (ldV 1 EH) (k:=?_))))))
 obtain⟨z10,hz11,h⟩:=bnd h
 refine ecV [0] (caV call187) (λw hp=>dS hr9 x_.f hx_.2.1 hp hz11) ?_
 rintro Γ12 _ _ hl13 ⟨row16,rfl,rfl,hr17,_⟩
 refine cwV 11 [_,_] (Dw ?_)
 refine DA ?_
 refine mV (k:=sV (q_fl 2 bK) (k:=sV (ldV 1 EH) (k:=sV (q_fl 1 cB) (k:=sV (ldV 1 EH) (k:=sV iK (k:=?_))))))
 obtain⟨z18,hz19,h⟩:=bnd h
 refine ecV [0] (caV call187) (λw hp=>dS hr17 (w64 (x_.t - x_.f)) (ep _) hp hz19) ?_
 rintro Γ20 _ _ hl21 ⟨row24,rfl,rfl,hr25,_⟩
 refine cwV 18 [_,_] ?_
 refine Dz ?_
 intro w hw
 cases h
 subst hF
 exact aI (is:=[0]) (by kernel_rfl) hw rfl ⟨row24,rfl,rfl,hr25,trivial⟩
abbrev nJ(gw_:Nat)(ew_:Nat)(r:ac)(U:List Rowb)(Γ:Gh)(v:Value):Prop := ∃(roww_':Rowb),v = .tuple #[]∧U = [roww_']∧ac.ob ew_ Γ gw_ roww_' r∧True
theorem nK{gw_ ew_:Nat}{roww_:Rowb}{w_:ac}(hw_:ac.ob ew_ Γ gw_ roww_ w_){Al:Option Addr}{cl:Nat}{l:List Span}(hl:Sl bW Γ Al l)(hlc:l.length≤cl)(hp:Pre [roww_] Γ w0){r:ac}(h:d6 w_ l=some r):Calls Tryz.prog 188 #[(pq gw_),.slice Al l.length cl,.func (.func 189) #[(pq gw_)] #[]] w0 (Outc Γ [roww_] w0 (nJ gw_ ew_ r)):=by
 refine goV [] func188 ntmps188 results188 hp λF hF=>?_
 refine Dx (mV (k:=mV (k:=sV (ab rfl EW) (k:=?_))))
 obtain⟨z1,hz2,h⟩:=bnd h
 refine ecV [0] (caV Fc) (λw hp=>aS hw_ (l.length:Int) (lS hl.le) hp hz2) ?_
 rintro Γ3 _ _ hl4 ⟨row7,rfl,rfl,hr8,_⟩
 refine cwV 11 [_] (Dw (Dx (mV (k:=sV (ab rfl EW) (k:=mV (k:=Dw (DD ?_)))))))
 refine DF h (λ(i15:Nat) (o11:ac) σ w => ∃(Γ9:Gh), ∃(row12:Rowb),slots σ [(2,.func (.func 189) #[(pq gw_)] #[]),(12,.slice Al l.length cl),(13,ii (l.length:Int)),(14,ii (i15:Int))]∧CC F Γ9 [row12] w∧Gh.le Γ3 Γ9∧ac.ob ew_ Γ9 gw_ row12 o11∧True) ?_ ?_
 ·
  intro w hw
  exact⟨Γ3,row7,slK,hw,gR,hr8,trivial⟩
 rintro f14 i15 o11 σ w hi16 hlt17 hge18 ⟨Γ9,row12,hsl,hw,hl10,ho13,-⟩
 refine slV hsl hw [_] ?_; clear hw hsl
 refine Dx (sV aw (k:=Dw (Dy ?_)))
 refine coV (λhb19=>?_) (λhb19=>?_)
 ·
  have hl20:=ilt hb19
  have h:=hlt17 hl20
  refine DC (wc_ (Dy (DD (Dx (sV (ar (i:=i15) EW EM rfl rfl rfl hl20 ((hl.mono (hl4.trans hl10)).some_ hl20)) (k:=sV (bT (c:=0) (vs:=(Span.cs (gt l i15))) ((hl.mono (hl4.trans hl10)).spanT_at hl20).2 rfl EN EM rfl rfl rfl) (k:=?_)))))))
  refine alV EK λg21=>?_
  refine stV 0 (.agg (Span.cs (gt l i15)).toArray) (Span.cs (gt l i15)).toArray EM (k:=Dw ?_)
  refine DA ?_
  refine mU (v:=.func (.func 189) #[(pq gw_)] #[]) (k:=sV (ldaV 0 (Span.cs (gt l i15)) EN EM) (k:=?_))
  obtain⟨z22,hz23,h⟩:=bnd h
  refine ecV [1] (bp (first:=#[(pq gw_)]) call189 rfl (by kernel_rfl) (by kernel_rfl)) (λw hp=>kc ho13 (gt l i15) ((hl.mono (hl4.trans hl10)).spanT_at hl20).1 hp hz23) ?_
  rintro Γ24 _ _ hl25 ⟨row28,rfl,rfl,hr29,_⟩
  refine cwV 20 [_,_] ?_
  refine Dz ?_
  change WC _ _ _ _ _ _
  refine DA ?_
  refine sV (am rfl rfl rfl (ax hl20 (hl.mono (hl4.trans hl10)).le)) (k:=mV (k:=?_))
  exact Dz λw hw=>⟨hl20,z22,h,Γ24,row28,slK,(hw.on [0]),(hl10.trans hl25),hr29,trivial⟩
 have h:=hge18 (ige hb19)
 refine DE ?_
 intro w hw
 cases h
 subst hF
 exact aI (is:=[0]) (by kernel_rfl) hw rfl ⟨row12,rfl,rfl,ho13,trivial⟩
abbrev p9(gw_:Nat)(ew_:Nat)(r:ac)(U:List Rowb)(Γ:Gh)(v:Value):Prop := ∃(roww_':Rowb),v = .tuple #[]∧U = [roww_']∧ac.ob ew_ Γ gw_ roww_' r∧True
theorem oW{gw_ ew_:Nat}{roww_:Rowb}{w_:ac}(hw_:ac.ob ew_ Γ gw_ roww_ w_){Av_2:Option Addr}{cv_2:Nat}(v_:Ver)(hv_:Ver.fits Γ Av_2 cv_2 v_)(hp:Pre [roww_] Γ w0){r:ac}(h:cT w_ v_=some r):Calls Tryz.prog 158 #[(pq gw_),.agg (Ver.cs Av_2 cv_2 v_).toArray] w0 (Outc Γ [roww_] w0 (p9 gw_ ew_ r)):=by
 refine goV [] func158 ntmps158 results158 hp λF hF=>?_
 refine Dx ?_
 refine bxV (v:=.agg (Ver.cs Av_2 cv_2 v_).toArray) λg1=>?_
 refine Dw (Dx (mV (k:=sV (q_fl 0 aG) (k:=sV (q_fl 0 cN) (k:=sV (ldV 0 Ez) (k:=?_))))))
 obtain⟨z2,hz3,h⟩:=bnd h
 refine ecV [1] (caV Fc) (λw hp=>aS hw_ v_.dot.s hv_.1 hp hz3) ?_
 rintro Γ4 _ _ hl5 ⟨row8,rfl,rfl,hr9,_⟩
 refine cwV 8 [_,_] (Dw (Dx (mV (k:=sV (q_fl 0 aG) (k:=sV (q_fl 1 cy) (k:=sV (ldV 1 EH) (k:=?_)))))))
 obtain⟨z10,hz11,h⟩:=bnd h
 refine ecV [0] (caV call187) (λw hp=>dS hr9 v_.dot.n hv_.2.1 hp hz11) ?_
 rintro Γ12 _ _ hl13 ⟨row16,rfl,rfl,hr17,_⟩
 refine cwV 13 [_,_] (Dw (Dx (mV (k:=sV (q_fl 2 aN) (k:=sV (ldV 1 EX) (k:=mV (k:=sV (bQ (v:=.func (.func 189) #[(pq gw_)] #[]) rfl (by kernel_rfl)) (k:=?_))))))))
 obtain⟨z18,hz19,h⟩:=bnd h
 refine ecV [0] (caV call188) (λw hp=>nK hr17 (hv_.2.2.1.2.mono (hl5.trans hl13)) hv_.2.2.1.1 hp hz19) ?_
 rintro Γ20 _ _ hl21 ⟨row24,rfl,rfl,hr25,_⟩
 refine cwV 19 [_,_] (Dw (Dy (Dx (sV (q_fl 3 gF) (k:=sV (ldV 1 isAgg4) (k:=Dw ?_))))))
 refine ciV h (λhb26 h=>?_) (λhb26 h=>?_)
 ·
  refine Dx (mV (k:=?_))
  obtain⟨z27,hz28,h⟩:=bnd h
  refine ecV [0] (caV Fc) (λw hp=>aS hr25 1 iV hp hz28) ?_
  rintro Γ29 _ _ hl30 ⟨row33,rfl,rfl,hr34,_⟩
  refine cwV 23 [_,_] (Dw ?_)
  exact DB λw hw=>re_ r [0] h hF hw ⟨row33,rfl,rfl,hr34,trivial⟩
 refine DC (wc_ (Dx (mV (k:=?_))))
 obtain⟨z35,hz36,h⟩:=bnd h
 refine ecV [0] (caV Fc) (λw hp=>aS hr25 0 iV hp hz36) ?_
 rintro Γ37 _ _ hl38 ⟨row41,rfl,rfl,hr42,_⟩
 refine cwV 25 [_,_] (Dw ?_)
 refine DA ?_
 refine mV (k:=sV (q_fl 4 ec) (k:=sV (ldV 1 En) (k:=?_)))
 obtain⟨z43,hz44,h⟩:=bnd h
 refine ecV [0] (caV call156) (λw hp=>eW hr42 v_.val hv_.2.2.2 hp hz44) ?_
 rintro Γ45 _ _ hl46 ⟨row49,rfl,rfl,hr50,_⟩
 refine cwV 29 [_,_] ?_
 refine Dz ?_
 intro w hw
 cases h
 subst hF
 exact aI (is:=[0]) (by kernel_rfl) hw rfl ⟨row49,rfl,rfl,hr50,trivial⟩
abbrev oC(gw_:Nat)(ew_:Nat)(r:ac)(U:List Rowb)(Γ:Gh)(v:Value):Prop := ∃(roww_':Rowb),v = .tuple #[]∧U = [roww_']∧ac.ob ew_ Γ gw_ roww_' r∧True
theorem ow{gw_ ew_:Nat}{roww_:Rowb}{w_:ac}(hw_:ac.ob ew_ Γ gw_ roww_ w_){Al:Option Addr}{cl:Nat}{l:List Ver}(hl:Sl verT Γ Al l)(hlc:l.length≤cl)(hp:Pre [roww_] Γ w0){r:ac}(h:eU w_ l=some r):Calls Tryz.prog 157 #[(pq gw_),.slice Al l.length cl,.func (.func 158) #[(pq gw_)] #[]] w0 (Outc Γ [roww_] w0 (oC gw_ ew_ r)):=by
 refine goV [] func157 ntmps157 results157 hp λF hF=>?_
 refine Dx (mV (k:=mV (k:=sV (ab rfl EY) (k:=?_))))
 obtain⟨z1,hz2,h⟩:=bnd h
 refine ecV [0] (caV Fc) (λw hp=>aS hw_ (l.length:Int) (lS hl.le) hp hz2) ?_
 rintro Γ3 _ _ hl4 ⟨row7,rfl,rfl,hr8,_⟩
 refine cwV 11 [_] (Dw (Dx (mV (k:=sV (ab rfl EY) (k:=mV (k:=Dw (DD ?_)))))))
 refine DF h (λ(i15:Nat) (o11:ac) σ w => ∃(Γ9:Gh), ∃(row12:Rowb),slots σ [(2,.func (.func 158) #[(pq gw_)] #[]),(12,.slice Al l.length cl),(13,ii (l.length:Int)),(14,ii (i15:Int))]∧CC F Γ9 [row12] w∧Gh.le Γ3 Γ9∧ac.ob ew_ Γ9 gw_ row12 o11∧True) ?_ ?_
 ·
  intro w hw
  exact⟨Γ3,row7,slK,hw,gR,hr8,trivial⟩
 rintro f14 i15 o11 σ w hi16 hlt17 hge18 ⟨Γ9,row12,hsl,hw,hl10,ho13,-⟩
 refine slV hsl hw [_] ?_; clear hw hsl
 refine Dx (sV aw (k:=Dw (Dy ?_)))
 refine coV (λhb19=>?_) (λhb19=>?_)
 ·
  have hl20:=ilt hb19
  have h:=hlt17 hl20
  refine DC (wc_ (Dy (DD (Dx (sV (ar (i:=i15) EY EP rfl rfl rfl hl20 ((hl.mono (hl4.trans hl10)).some_ hl20)) (k:=?_))))))
  obtain⟨A21,c22,hx23⟩:=(hl.mono (hl4.trans hl10)).verT_at i15
  refine sV (bT (c:=0) (vs:=(Ver.cs A21 c22 (gt l i15))) (hx23 hl20).2 rfl ES EP rfl rfl rfl) (k:=?_)
  refine alV EO λg24=>?_
  refine stV 0 (.agg (Ver.cs A21 c22 (gt l i15)).toArray) (Ver.cs A21 c22 (gt l i15)).toArray EP (k:=Dw ?_)
  refine DA ?_
  refine mU (v:=.func (.func 158) #[(pq gw_)] #[]) (k:=sV (ldaV 0 (Ver.cs A21 c22 (gt l i15)) ES EP) (k:=?_))
  obtain⟨z25,hz26,h⟩:=bnd h
  refine ecV [1] (bp (first:=#[(pq gw_)]) call158 rfl (by kernel_rfl) (by kernel_rfl)) (λw hp=>oW ho13 (gt l i15) (hx23 hl20).1 hp hz26) ?_
  rintro Γ27 _ _ hl28 ⟨row31,rfl,rfl,hr32,_⟩
  refine cwV 20 [_,_] ?_
  refine Dz ?_
  change WC _ _ _ _ _ _
  refine DA ?_
  refine sV (am rfl rfl rfl (ax hl20 (hl.mono (hl4.trans hl10)).le)) (k:=mV (k:=?_))
  exact Dz λw hw=>⟨hl20,z25,h,Γ27,row31,slK,(hw.on [0]),(hl10.trans hl28),hr32,trivial⟩
 have h:=hge18 (ige hb19)
 refine DE ?_
 intro w hw
 cases h
 subst hF
 exact aI (is:=[0]) (by kernel_rfl) hw rfl ⟨row12,rfl,rfl,ho13,trivial⟩
abbrev py(gw_:Nat)(ew_:Nat)(r:ac)(U:List Rowb)(Γ:Gh)(v:Value):Prop := ∃(roww_':Rowb),v = .tuple #[]∧U = [roww_']∧ac.ob ew_ Γ gw_ roww_' r∧True
theorem pd{gw_ ew_:Nat}{roww_:Rowb}{w_:ac}(hw_:ac.ob ew_ Γ gw_ roww_ w_){Ar_1:Option Addr}{cr_1:Nat}(r_:Rec)(hr_:Rec.fits Γ Ar_1 cr_1 r_)(hp:Pre [roww_] Γ w0){r:ac}(h:e8 w_ r_=some r):Calls Tryz.prog 119 #[(pq gw_),.agg (Rec.cs Ar_1 cr_1 r_).toArray] w0 (Outc Γ [roww_] w0 (py gw_ ew_ r)):=by
 refine goV [] func119 ntmps119 results119 hp λF hF=>?_
 refine Dx ?_
 refine bxV (v:=.agg (Rec.cs Ar_1 cr_1 r_).toArray) λg1=>?_
 refine Dw (Dx (mV (k:=sV (q_fl 0 b6) (k:=sV (ldV 0 En) (k:=?_)))))
 obtain⟨z2,hz3,h⟩:=bnd h
 refine ecV [1] (caV call156) (λw hp=>eW hw_ r_.key hr_.1 hp hz3) ?_
 rintro Γ4 _ _ hl5 ⟨row8,rfl,rfl,hr9,_⟩
 refine cwV 7 [_,_] (Dw ?_)
 refine DA ?_
 refine mV (k:=sV (q_fl 1 aM) (k:=sV (ldV 1 F1) (k:=mV (k:=sV (bQ (v:=.func (.func 158) #[(pq gw_)] #[]) rfl (by kernel_rfl)) (k:=?_)))))
 obtain⟨z10,hz11,h⟩:=bnd h
 refine ecV [0] (caV call157) (λw hp=>ow hr9 (hr_.2.2.mono hl5) hr_.2.1 hp hz11) ?_
 rintro Γ12 _ _ hl13 ⟨row16,rfl,rfl,hr17,_⟩
 refine cwV 13 [_,_] ?_
 refine Dz ?_
 intro w hw
 cases h
 subst hF
 exact aI (is:=[0]) (by kernel_rfl) hw rfl ⟨row16,rfl,rfl,hr17,trivial⟩
abbrev sO(r:(List UInt8)×Int)(U:List Rowb)(Γ:Gh)(v:Value):Prop := ∃(A0:Option Addr), ∃(c0:Nat), ∃(row0:Rowb),v = .tuple #[.slice A0 r.1.length c0,.int .i64 r.2]∧U = [row0]∧Own au Γ 5 row0 A0 c0 r.1∧I64 r.2∧True
theorem sJ{Ar_1:Option Addr}{cr_1:Nat}(r_:Rec)(hr_:Rec.fits Γ Ar_1 cr_1 r_)(hp:Pre [] Γ w0){r:(List UInt8)×Int}(h:eh r_=some r):Calls Tryz.prog 80 #[.agg (Rec.cs Ar_1 cr_1 r_).toArray] w0 (Outc Γ [] w0 (sO r)):=by
 refine goV [2,3] func80 ntmps80 results80 hp λF hF=>?_
 refine Dx ?_
 refine bxV (v:=.agg (Rec.cs Ar_1 cr_1 r_).toArray) λg1=>?_
 refine aV (k:=aV (k:=Dw (Dy (Dx (sV (ldaV 0 (Rec.cs Ar_1 cr_1 r_) EV EU) (k:=?_))))))
 obtain⟨z2,hz3,h⟩:=bnd h
 refine vqV (caV call55) (λw hw=>fw (Γ:=Gh.all w) r_ (Rec.fits_mono hr_ hw.sat.le_all) (Sat.all w) hz3) (k:=sV bb (k:=Dw ?_))
 refine ciV h (λhb4 h=>?_) (λhb4 h=>?_)
 ·
  refine Dx (aV (k:=aV (k:=Dw ?_)))
  refine DB ?_
  intro w hw
  have hw:=hw.pad
  exact re_ r [0] h hF hw ⟨none,0,[],rfl,rfl,(Own.nil au _ 5),iV,trivial⟩
 refine DC (wc_ (Dx (sV (dH (v:=.agg #[.slice none 0 0]) rfl (λw=>by kernel_rfl)) (k:=?_))))
 refine bxV (v:=.agg #[.slice none 0 0]) λg5=>?_
 refine aV (k:=Dw (Dx (mV (k:=sV (ldaV 1 (Rec.cs Ar_1 cr_1 r_) EV EU) (k:=?_)))))
 refine WR.sub (λw hw=>hw.pad) ?_
 obtain⟨row_6,hrow_6,hob_6⟩:∃rw:Rowb,rw=([[(g5,.cells #[.slice none 0 0] 189 (0,0))],[]]:List Rowb).flatten∧ac.ob 189 Γ g5 rw (⟨[]⟩:ac):=⟨_,rfl,none,0,[],rfl,(Own.nil au Γ 5),trivial⟩
 refine foR [1,0] hrow_6 [_,_] ?_
 obtain⟨z7,hz8,h⟩:=bnd h
 refine ecV [0] (caV call119) (λw hp=>pd hob_6 r_ hr_ hp hz8) ?_
 rintro Γ9 _ _ hl10 ⟨row13,rfl,rfl,hr14,_⟩
 refine cwV 12 [_,_] (Dw (Dx (mV (k:=sV nlV (k:=sV (q_fl 0 ib) (k:=?_))))))
 obtain⟨A0_15,c0_15,r0_15,hrow_15,ho0_15,-⟩:=id hr14
 refine ufR 0 hrow_15 [_,_,_] ?_
 refine sV (ldV 0 Ex) (k:=aV (k:=aV (k:=Dw ?_)))
 exact DB λw hw=>re_ r [1] h hF hw ⟨A0_15,c0_15,r0_15,rfl,rfl,ho0_15,iV,trivial⟩
abbrev lO(gw_:Nat)(ew_:Nat)(r:ac)(U:List Rowb)(Γ:Gh)(v:Value):Prop := ∃(roww_':Rowb),v = .tuple #[]∧U = [roww_']∧ac.ob ew_ Γ gw_ roww_' r∧True
theorem lE{B:Gh}{gw_ ew_:Nat}{roww_:Rowb}{w_:ac}(hw_:ac.ob ew_ Γ gw_ roww_ w_){Al:Option Addr}{cl:Nat}{l:List Span}(hl:Sl bW B Al l)(hlc:l.length≤cl)(hp:Pre [roww_] Γ w0)(hpB:Pre [roww_] B w0){r:ac}(h:d6 w_ l=some r):Calls Tryz.prog 188 #[(pq gw_),.slice Al l.length cl,.func (.func 189) #[(pq gw_)] #[]] w0 (Outc Γ [roww_] w0 (lO gw_ ew_ r)):=by
 refine goV [] func188 ntmps188 results188 hp λF hF=>?_
 have hB:Lent F B:=hF▸Lent.start hpB
 refine Dx (mV (k:=mV (k:=sV (ab rfl EW) (k:=?_))))
 obtain⟨z1,hz2,h⟩:=bnd h
 refine ecV [0] (caV Fc) (λw hp=>aS hw_ (l.length:Int) (lS hl.le) hp hz2) ?_
 rintro Γ3 _ _ hl4 ⟨row7,rfl,rfl,hr8,_⟩
 refine cwV 11 [_] (Dw (Dx (mV (k:=sV (ab rfl EW) (k:=mV (k:=Dw (DD ?_)))))))
 refine DF h (λ(i15:Nat) (o11:ac) σ w => ∃(Γ9:Gh), ∃(row12:Rowb),slots σ [(2,.func (.func 189) #[(pq gw_)] #[]),(12,.slice Al l.length cl),(13,ii (l.length:Int)),(14,ii (i15:Int))]∧CC F Γ9 [row12] w∧Gh.le Γ3 Γ9∧ac.ob ew_ Γ9 gw_ row12 o11∧True) ?_ ?_
 ·
  intro w hw
  exact⟨Γ3,row7,slK,hw,gR,hr8,trivial⟩
 rintro f14 i15 o11 σ w hi16 hlt17 hge18 ⟨Γ9,row12,hsl,hw,hl10,ho13,-⟩
 refine slV hsl hw [_] ?_; clear hw hsl
 refine Dx (sV aw (k:=Dw (Dy ?_)))
 refine coV (λhb19=>?_) (λhb19=>?_)
 ·
  have hl20:=ilt hb19
  have h:=hlt17 hl20
  refine DC (wc_ (Dy (DD (Dx (sV (ar (i:=i15) EW EM rfl rfl rfl hl20 (hl.some_ hl20)) (k:=sV (iI (c:=0) (vs:=(Span.cs (gt l i15))) (λw hw=>hB.sat hw) (hl.spanT_at hl20).2 rfl EN EM rfl rfl rfl) (k:=?_)))))))
  refine alV EK λg21=>?_
  refine stV 0 (.agg (Span.cs (gt l i15)).toArray) (Span.cs (gt l i15)).toArray EM (k:=Dw ?_)
  refine DA ?_
  refine mU (v:=.func (.func 189) #[(pq gw_)] #[]) (k:=sV (ldaV 0 (Span.cs (gt l i15)) EN EM) (k:=?_))
  obtain⟨z22,hz23,h⟩:=bnd h
  refine ecV [1] (bp (first:=#[(pq gw_)]) call189 rfl (by kernel_rfl) (by kernel_rfl)) (λw hp=>kc ho13 (gt l i15) (by exact(hl.spanT_at hl20).1) hp hz23) ?_
  rintro Γ24 _ _ hl25 ⟨row28,rfl,rfl,hr29,_⟩
  refine cwV 20 [_,_] ?_
  refine Dz ?_
  change WC _ _ _ _ _ _
  refine DA ?_
  refine sV (am rfl rfl rfl (ax hl20 hl.le)) (k:=mV (k:=?_))
  exact Dz λw hw=>⟨hl20,z22,h,Γ24,row28,slK,(hw.on [0]),(hl10.trans hl25),hr29,trivial⟩
 have h:=hge18 (ige hb19)
 refine DE ?_
 intro w hw
 cases h
 subst hF
 exact aI (is:=[0]) (by kernel_rfl) hw rfl ⟨row12,rfl,rfl,ho13,trivial⟩
abbrev mw(gw_:Nat)(ew_:Nat)(r:ac)(U:List Rowb)(Γ:Gh)(v:Value):Prop := ∃(roww_':Rowb),v = .tuple #[]∧U = [roww_']∧ac.ob ew_ Γ gw_ roww_' r∧True
theorem mJ{B:Gh}{gw_ ew_:Nat}{roww_:Rowb}{w_:ac}(hw_:ac.ob ew_ Γ gw_ roww_ w_){Av_2:Option Addr}{cv_2:Nat}(v_:Ver)(hv_:Ver.fits B Av_2 cv_2 v_)(hp:Pre [roww_] Γ w0)(hpB:Pre [roww_] B w0){r:ac}(h:cT w_ v_=some r):Calls Tryz.prog 158 #[(pq gw_),.agg (Ver.cs Av_2 cv_2 v_).toArray] w0 (Outc Γ [roww_] w0 (mw gw_ ew_ r)):=by
 refine goV [] func158 ntmps158 results158 hp λF hF=>?_
 have hB:Lent F B:=hF▸Lent.start hpB
 refine Dx ?_
 refine bxV (v:=.agg (Ver.cs Av_2 cv_2 v_).toArray) λg1=>?_
 refine Dw (Dx (mV (k:=sV (q_fl 0 aG) (k:=sV (q_fl 0 cN) (k:=sV (ldV 0 Ez) (k:=?_))))))
 obtain⟨z2,hz3,h⟩:=bnd h
 refine ecV [1] (caV Fc) (λw hp=>aS hw_ v_.dot.s hv_.1 hp hz3) ?_
 rintro Γ4 _ _ hl5 ⟨row8,rfl,rfl,hr9,_⟩
 refine cwV 8 [_,_] (Dw (Dx (mV (k:=sV (q_fl 0 aG) (k:=sV (q_fl 1 cy) (k:=sV (ldV 1 EH) (k:=?_)))))))
 obtain⟨z10,hz11,h⟩:=bnd h
 refine ecV [0] (caV call187) (λw hp=>dS hr9 v_.dot.n hv_.2.1 hp hz11) ?_
 rintro Γ12 _ _ hl13 ⟨row16,rfl,rfl,hr17,_⟩
 refine cwV 13 [_,_] (Dw (Dx (mV (k:=sV (q_fl 2 aN) (k:=sV (ldV 1 EX) (k:=mV (k:=sV (bQ (v:=.func (.func 189) #[(pq gw_)] #[]) rfl (by kernel_rfl)) (k:=?_))))))))
 obtain⟨z18,hz19,h⟩:=bnd h
 refine eu (is:=[0]) hB rfl rfl (caV call188) rfl (λw Θ hp hpB hle hleB hR=>lE hr17 (hv_.2.2.1.2.mono hleB) hv_.2.2.1.1 hp hpB hz19) ?_
 rintro Γ20 _ _ hl21 ⟨row24,rfl,rfl,hr25,_⟩
 refine cwV 19 [_,_] (Dw (Dy (Dx (sV (q_fl 3 gF) (k:=sV (ldV 1 isAgg4) (k:=Dw ?_))))))
 refine ciV h (λhb26 h=>?_) (λhb26 h=>?_)
 ·
  refine Dx (mV (k:=?_))
  obtain⟨z27,hz28,h⟩:=bnd h
  refine ecV [0] (caV Fc) (λw hp=>aS hr25 1 iV hp hz28) ?_
  rintro Γ29 _ _ hl30 ⟨row33,rfl,rfl,hr34,_⟩
  refine cwV 23 [_,_] (Dw ?_)
  exact DB λw hw=>re_ r [0] h hF hw ⟨row33,rfl,rfl,hr34,trivial⟩
 refine DC (wc_ (Dx (mV (k:=?_))))
 obtain⟨z35,hz36,h⟩:=bnd h
 refine ecV [0] (caV Fc) (λw hp=>aS hr25 0 iV hp hz36) ?_
 rintro Γ37 _ _ hl38 ⟨row41,rfl,rfl,hr42,_⟩
 refine cwV 25 [_,_] (Dw ?_)
 refine DA ?_
 refine mV (k:=sV (q_fl 4 ec) (k:=sV (ldV 1 En) (k:=?_)))
 obtain⟨z43,hz44,h⟩:=bnd h
 refine ecV [0] (caV call156) (λw hp=>eW hr42 v_.val hv_.2.2.2 hp hz44) ?_
 rintro Γ45 _ _ hl46 ⟨row49,rfl,rfl,hr50,_⟩
 refine cwV 29 [_,_] ?_
 refine Dz ?_
 intro w hw
 cases h
 subst hF
 exact aI (is:=[0]) (by kernel_rfl) hw rfl ⟨row49,rfl,rfl,hr50,trivial⟩
abbrev m4(gw_:Nat)(ew_:Nat)(r:ac)(U:List Rowb)(Γ:Gh)(v:Value):Prop := ∃(roww_':Rowb),v = .tuple #[]∧U = [roww_']∧ac.ob ew_ Γ gw_ roww_' r∧True
theorem m7{B:Gh}{gw_ ew_:Nat}{roww_:Rowb}{w_:ac}(hw_:ac.ob ew_ Γ gw_ roww_ w_){Al:Option Addr}{cl:Nat}{l:List Ver}(hl:Sl verT B Al l)(hlc:l.length≤cl)(hp:Pre [roww_] Γ w0)(hpB:Pre [roww_] B w0){r:ac}(h:eU w_ l=some r):Calls Tryz.prog 157 #[(pq gw_),.slice Al l.length cl,.func (.func 158) #[(pq gw_)] #[]] w0 (Outc Γ [roww_] w0 (m4 gw_ ew_ r)):=by
 refine goV [] func157 ntmps157 results157 hp λF hF=>?_
 have hB:Lent F B:=hF▸Lent.start hpB
 refine Dx (mV (k:=mV (k:=sV (ab rfl EY) (k:=?_))))
 obtain⟨z1,hz2,h⟩:=bnd h
 refine ecV [0] (caV Fc) (λw hp=>aS hw_ (l.length:Int) (lS hl.le) hp hz2) ?_
 rintro Γ3 _ _ hl4 ⟨row7,rfl,rfl,hr8,_⟩
 refine cwV 11 [_] (Dw (Dx (mV (k:=sV (ab rfl EY) (k:=mV (k:=Dw (DD ?_)))))))
 refine DF h (λ(i15:Nat) (o11:ac) σ w => ∃(Γ9:Gh), ∃(row12:Rowb),slots σ [(2,.func (.func 158) #[(pq gw_)] #[]),(12,.slice Al l.length cl),(13,ii (l.length:Int)),(14,ii (i15:Int))]∧CC F Γ9 [row12] w∧Gh.le Γ3 Γ9∧ac.ob ew_ Γ9 gw_ row12 o11∧True) ?_ ?_
 ·
  intro w hw
  exact⟨Γ3,row7,slK,hw,gR,hr8,trivial⟩
 rintro f14 i15 o11 σ w hi16 hlt17 hge18 ⟨Γ9,row12,hsl,hw,hl10,ho13,-⟩
 refine slV hsl hw [_] ?_; clear hw hsl
 refine Dx (sV aw (k:=Dw (Dy ?_)))
 refine coV (λhb19=>?_) (λhb19=>?_)
 ·
  have hl20:=ilt hb19
  have h:=hlt17 hl20
  refine DC (wc_ (Dy (DD (Dx (sV (ar (i:=i15) EY EP rfl rfl rfl hl20 (hl.some_ hl20)) (k:=?_))))))
  obtain⟨A21,c22,hx23⟩:=hl.verT_at i15
  refine sV (iI (c:=0) (vs:=(Ver.cs A21 c22 (gt l i15))) (λw hw=>hB.sat hw) (hx23 hl20).2 rfl ES EP rfl rfl rfl) (k:=?_)
  refine alV EO λg24=>?_
  refine stV 0 (.agg (Ver.cs A21 c22 (gt l i15)).toArray) (Ver.cs A21 c22 (gt l i15)).toArray EP (k:=Dw ?_)
  refine DA ?_
  refine mU (v:=.func (.func 158) #[(pq gw_)] #[]) (k:=sV (ldaV 0 (Ver.cs A21 c22 (gt l i15)) ES EP) (k:=?_))
  obtain⟨z25,hz26,h⟩:=bnd h
  refine eu (is:=[1]) hB rfl rfl (bp (first:=#[(pq gw_)]) call158 rfl (by kernel_rfl) (by kernel_rfl)) rfl (λw Θ hp hpB hle hleB hR=>mJ ho13 (gt l i15) (Ver.fits_mono (hx23 hl20).1 hleB) hp hpB hz26) ?_
  rintro Γ27 _ _ hl28 ⟨row31,rfl,rfl,hr32,_⟩
  refine cwV 20 [_,_] ?_
  refine Dz ?_
  change WC _ _ _ _ _ _
  refine DA ?_
  refine sV (am rfl rfl rfl (ax hl20 hl.le)) (k:=mV (k:=?_))
  exact Dz λw hw=>⟨hl20,z25,h,Γ27,row31,slK,(hw.on [0]),(hl10.trans hl28),hr32,trivial⟩
 have h:=hge18 (ige hb19)
 refine DE ?_
 intro w hw
 cases h
 subst hF
 exact aI (is:=[0]) (by kernel_rfl) hw rfl ⟨row12,rfl,rfl,ho13,trivial⟩
abbrev n8(gw_:Nat)(ew_:Nat)(r:ac)(U:List Rowb)(Γ:Gh)(v:Value):Prop := ∃(roww_':Rowb),v = .tuple #[]∧U = [roww_']∧ac.ob ew_ Γ gw_ roww_' r∧True
theorem ng{B:Gh}{gw_ ew_:Nat}{roww_:Rowb}{w_:ac}(hw_:ac.ob ew_ Γ gw_ roww_ w_){Ar_1:Option Addr}{cr_1:Nat}(r_:Rec)(hr_:Rec.fits B Ar_1 cr_1 r_)(hp:Pre [roww_] Γ w0)(hpB:Pre [roww_] B w0){r:ac}(h:e8 w_ r_=some r):Calls Tryz.prog 119 #[(pq gw_),.agg (Rec.cs Ar_1 cr_1 r_).toArray] w0 (Outc Γ [roww_] w0 (n8 gw_ ew_ r)):=by
 refine goV [] func119 ntmps119 results119 hp λF hF=>?_
 have hB:Lent F B:=hF▸Lent.start hpB
 refine Dx ?_
 refine bxV (v:=.agg (Rec.cs Ar_1 cr_1 r_).toArray) λg1=>?_
 refine Dw (Dx (mV (k:=sV (q_fl 0 b6) (k:=sV (ldV 0 En) (k:=?_)))))
 obtain⟨z2,hz3,h⟩:=bnd h
 refine ecV [1] (caV call156) (λw hp=>eW hw_ r_.key hr_.1 hp hz3) ?_
 rintro Γ4 _ _ hl5 ⟨row8,rfl,rfl,hr9,_⟩
 refine cwV 7 [_,_] (Dw ?_)
 refine DA ?_
 refine mV (k:=sV (q_fl 1 aM) (k:=sV (ldV 1 F1) (k:=mV (k:=sV (bQ (v:=.func (.func 158) #[(pq gw_)] #[]) rfl (by kernel_rfl)) (k:=?_)))))
 obtain⟨z10,hz11,h⟩:=bnd h
 refine eu (is:=[0]) hB rfl rfl (caV call157) rfl (λw Θ hp hpB hle hleB hR=>m7 hr9 (hr_.2.2.mono hleB) hr_.2.1 hp hpB hz11) ?_
 rintro Γ12 _ _ hl13 ⟨row16,rfl,rfl,hr17,_⟩
 refine cwV 13 [_,_] ?_
 refine Dz ?_
 intro w hw
 cases h
 subst hF
 exact aI (is:=[0]) (by kernel_rfl) hw rfl ⟨row16,rfl,rfl,hr17,trivial⟩
abbrev qa(r:(List UInt8)×Int)(U:List Rowb)(Γ:Gh)(v:Value):Prop := ∃(A0:Option Addr), ∃(c0:Nat), ∃(row0:Rowb),v = .tuple #[.slice A0 r.1.length c0,.int .i64 r.2]∧U = [row0]∧Own au Γ 5 row0 A0 c0 r.1∧I64 r.2∧True
theorem pX{B:Gh}{Ar_1:Option Addr}{cr_1:Nat}(r_:Rec)(hr_:Rec.fits B Ar_1 cr_1 r_)(hp:Pre [] Γ w0)(hpB:Pre [] B w0){r:(List UInt8)×Int}(h:eh r_=some r):Calls Tryz.prog 80 #[.agg (Rec.cs Ar_1 cr_1 r_).toArray] w0 (Outc Γ [] w0 (qa r)):=by
 refine goV [2,3] func80 ntmps80 results80 hp λF hF=>?_
 have hB:Lent F B:=hF▸Lent.start hpB
 refine Dx ?_
 refine bxV (v:=.agg (Rec.cs Ar_1 cr_1 r_).toArray) λg1=>?_
 refine aV (k:=aV (k:=Dw (Dy (Dx (sV (ldaV 0 (Rec.cs Ar_1 cr_1 r_) EV EU) (k:=?_))))))
 obtain⟨z2,hz3,h⟩:=bnd h
 refine vqV (caV call55) (λw hw=>fw (Γ:=Gh.all w) r_ (Rec.fits_mono hr_ ((λw hw=>hB.sat hw) w hw).le_all) (Sat.all w) hz3) (k:=sV bb (k:=Dw ?_))
 refine ciV h (λhb4 h=>?_) (λhb4 h=>?_)
 ·
  refine Dx (aV (k:=aV (k:=Dw ?_)))
  refine DB ?_
  intro w hw
  have hw:=hw.pad
  exact re_ r [0] h hF hw ⟨none,0,[],rfl,rfl,(Own.nil au _ 5),iV,trivial⟩
 refine DC (wc_ (Dx (sV (dH (v:=.agg #[.slice none 0 0]) rfl (λw=>by kernel_rfl)) (k:=?_))))
 refine bxV (v:=.agg #[.slice none 0 0]) λg5=>?_
 refine aV (k:=Dw (Dx (mV (k:=sV (ldaV 1 (Rec.cs Ar_1 cr_1 r_) EV EU) (k:=?_)))))
 refine WR.sub (λw hw=>hw.pad) ?_
 obtain⟨row_6,hrow_6,hob_6⟩:∃rw:Rowb,rw=([[(g5,.cells #[.slice none 0 0] 189 (0,0))],[]]:List Rowb).flatten∧ac.ob 189 Γ g5 rw (⟨[]⟩:ac):=⟨_,rfl,none,0,[],rfl,(Own.nil au Γ 5),trivial⟩
 refine foR [1,0] hrow_6 [_,_] ?_
 obtain⟨z7,hz8,h⟩:=bnd h
 refine eu (is:=[0]) hB rfl rfl (caV call119) rfl (λw Θ hp hpB hle hleB hR=>ng hob_6 r_ (Rec.fits_mono hr_ hleB) hp hpB hz8) ?_
 rintro Γ9 _ _ hl10 ⟨row13,rfl,rfl,hr14,_⟩
 refine cwV 12 [_,_] (Dw (Dx (mV (k:=sV nlV (k:=sV (q_fl 0 ib) (k:=?_))))))
 obtain⟨A0_15,c0_15,r0_15,hrow_15,ho0_15,-⟩:=id hr14
 refine ufR 0 hrow_15 [_,_,_] ?_
 refine sV (ldV 0 Ex) (k:=aV (k:=aV (k:=Dw ?_)))
 exact DB λw hw=>re_ r [1] h hF hw ⟨A0_15,c0_15,r0_15,rfl,rfl,ho0_15,iV,trivial⟩
abbrev uA(r:(List UInt8)×Int)(U:List Rowb)(Γ:Gh)(v:Value):Prop := ∃(A0:Option Addr), ∃(c0:Nat), ∃(row0:Rowb),v = .tuple #[.slice A0 r.1.length c0,.int .i64 r.2]∧U = [row0]∧Own au Γ 5 row0 A0 c0 r.1∧I64 r.2∧True
theorem ur{Ab:Option Addr}{cb:Nat}{b:List UInt8}(hb:Sl au Γ Ab b)(hbc:b.length≤cb)(hp:Pre [] Γ w0){r:(List UInt8)×Int}(h:hQ b=some r):Calls Tryz.prog 120 #[.slice Ab b.length cb] w0 (Outc Γ [] w0 (uA r)):=by
 refine goV [2,3] func120 ntmps120 results120 hp λF hF=>?_
 refine Dx (aV (k:=aV (k:=Dw (Dy (Dx (mV (k:=sV (ab rfl Eo) (k:=?_))))))))
 refine sV bx (k:=Dw ?_)
 refine ciV h (λhb1 h=>?_) (λhb1 h=>?_)
 ·
  refine Dx (aV (k:=aV (k:=Dw ?_)))
  refine DB ?_
  intro w hw
  have hw:=hw.pad
  exact re_ r [0] h hF hw ⟨none,0,[],rfl,rfl,(Own.nil au _ 5),iV,trivial⟩
 refine DC (wc_ (Dx (mV (k:=sV (ab rfl Eo) (k:=?_)))))
 obtain⟨z2,hz3,h⟩:=bnd h
 refine ecV [] (caV call159) (λw hp=>jM (b.length:Int) (lS hb.le) hp hz3) ?_
 rintro Γ4 _ _ hl5 ⟨A8,c9,row10,rfl,rfl,hr11,_⟩
 refine cwV 12 [_] (aV (k:=Dw (Dx (mV (k:=mV (k:=?_))))))
 refine bsV #[.slice A8 z2.length c9,.slice Ab b.length cb] 89 λg12=>?_
 obtain⟨z13,hz14,h⟩:=bnd h
 refine vqV (caV call160) (λw hw=>qD (Γ:=Gh.all w) ((DM (T:=slT au) (Γ:=Gh.all w) (e:=89) (g:=g12) (ys:=([z2,b]:List (List UInt8))) [[.slice A8 z2.length c9],[.slice Ab b.length cb]] rfl (show 2≤lim by decide) (show Ty.rd (slT au) (Gh.all w) [.slice A8 z2.length c9] z2∧Ty.rd (slT au) (Gh.all w) [.slice Ab b.length cb] b∧True from ⟨⟨A8,c9,rfl,hr11.capz,(hr11.sl hw.sat.le_all (hw.ra 1 rfl))⟩,⟨Ab,cb,rfl,hbc,((hb.mono hl5).mono hw.sat.le_all)⟩,trivial⟩)).sl gR (hw.ra 0 rfl)) (E6 _) (Sat.all w) hz14) (k:=aV (k:=Dw (Dy (Dx (mV (k:=Dw (DD ?_)))))))
 refine WC.forU h (λ(i21:Nat) (out_15:List UInt8) σ w => ∃(A16:Option Addr), ∃(c17:Nat), ∃(row18:Rowb),slots σ [(0,.slice Ab b.length cb),(4,.slice A16 out_15.length c17),(5,.int .u32 z13),(17,ii (i21:Int))]∧CC F Γ4 [row18] w∧Own au Γ4 5 row18 A16 c17 out_15∧True) ?_ ?_
 ·
  intro w hw
  exact⟨A8,c9,row10,slK,(hw.on [1]),hr11,trivial⟩
 rintro f20 i21 out_15 σ w hi22 hlt23 hge24 ⟨A16,c17,row18,hsl,hw,ho19,-⟩
 refine slV hsl hw [_] ?_; clear hw hsl
 refine Dx (sV aw (k:=Dw (Dy ?_)))
 refine coV (λhb25=>?_) (λhb25=>?_)
 ·
  have hl26:=ilt hb25
  have h:=hlt23 hl26
  refine DC (wc_ (Dy (DD (Dx (mV (k:=aV (k:=Dw ?_)))))))
  refine DA ?_
  refine mV (k:=mV (k:=mV (k:=sV qF (k:=?_))))
  obtain⟨hk27,h⟩:=af h
  refine sV (td rfl rfl rfl hk27) (k:=sV (gZ Eu underlying235) (k:=?_))
  refine bsV #[.int .u8 (wu8 (ishr .u32 z13 (w64 (8*(i21:Int)))))] 5 λg28=>?_
  obtain⟨hk29,h⟩:=af h
  refine apV 1 [(b8 (wu8 (ishr .u32 z13 (w64 (8*(i21:Int))))))] im ho19 (DP hk29) (λw hw=>br (i:=0) rfl (by exact(by show [Value.int .u8 (wu8 (ishr .u32 z13 (w64 (8*(i21:Int)))))] = [Value.int .u8 _]; rw [qq (zB _)])) hw) ?_
  intro row30 A31 c32 ho33
  refine aV (k:=?_)
  refine Dz ?_
  change WC _ _ _ _ _ _
  refine DA ?_
  refine sV (am rfl rfl rfl (ui hl26 (by decide))) (k:=mV (k:=?_))
  exact Dz λw hw=>⟨hl26,(out_15++[(b8 (wu8 (ishr .u32 z13 (w64 (8*(i21:Int))))))]),h,A31,c32,row30,slK,(hw.on [1]),ho33,trivial⟩
 have h:=hge24 (ige hb25)
 refine DE ?_
 change WC _ _ _ _ _ _
 refine Dx (mV (k:=mV (k:=?_)))
 obtain⟨hk34,h⟩:=af h
 refine apV 0 b im ho19 (DP hk34) (λw hw=>mQ (hb.mono hl5) hw) ?_
 intro row35 A36 c37 ho38
 refine aV (k:=aV (k:=Dw ?_))
 exact DB λw hw=>re_ r [0] h hF hw ⟨A36,c37,row35,rfl,rfl,ho38,iV,trivial⟩
theorem pK{gd ed:Nat}{rowd:Rowb}{d:a6}(hd:a6.ob ed Γ gd rowd d)(hdr:∀p∈rowd,Γ p.1=some p.2)(hs:Sat Γ w0){r:Int}(h:gm d=some r):CQ Tryz.prog 134 #[(pq gd)] w0 (ii r):=by
 refine goQ [2] func134 ntmps134 results134 hs λF hF=>?_
 refine Dx (aV (k:=Dw (Dx (aV (k:=Dw (Dy (Dx ?_)))))))
 refine mV (k:=sV nlV (k:=sV (q_fl 2 kp) (k:=?_)))
 obtain⟨m1_1,r1_1,m2_1,r2_1,A3_1,c3_1,r3_1,hrow_1,ho0_1,ho1_1,ho2_1,ho3_1,-⟩:=id hd
 have hg_2:∀u∈([[(gd,.cells #[ii d.room,.map (some m1_1),.map (some m2_1),.slice A3_1 d.loose.length c3_1] ed (0,0))],r1_1,r2_1,r3_1]:List Rowb), ∀p∈u,Γ p.1=some p.2:=λu hu p hp=>(λp hp=>(hdr p hp)) p (hrow_1▸List.mem_flatten.2 ⟨u,hu,hp⟩)
 have hgc3:=hg_2 _ (DT ..) (gd,_) (List.mem_singleton.2 rfl)
 have hgs4:=hg_2 r1_1 (by simp)
 have hgs5:=hg_2 r2_1 (by simp)
 have hgs6:=hg_2 r3_1 (by simp)
 have hs7:=ho3_1.sl gR hgs6
 refine sV (mG (v:=.map (some m2_1)) hgc3 rfl isAgg64 rfl rfl) (k:=?_)
 refine AX ho2_1 (λw hw p hp=>hw.sat _ _ (hgs5 p hp)) rfl rfl rfl Ep rfl ?_
 intro g8 row9 hi10
 refine cwV 10 [_] (Dw (DD ?_))
 refine WC.forE h (Comm.of_tot _ (λ_ _=>rfl) (λ_ _ _=>zT _ _ _)) (λ(l11:List (ByteArray×(List UInt8))) (n_12:Int) σ w => ∃(row14:Rowb),slots σ [(3,ii n_12),(10,(pq g8))]∧CC F Γ [row14] w∧I64 n_12∧ItO (strK Ek) (slT au).v Γ row14 g8 m2_1 r2_1 d.seen l11∧True) ?_ ?_
 ·
  intro w hw
  exact⟨row9,slK,hw,iV,hi10,trivial⟩
 rintro G21 l11 n_12 σ w hstep16 hK17 ⟨row14,hsl,hw,hr13,hi15,-⟩
 refine slV hsl hw [_] ?_; clear hw hsl
 refine Dx ?_
 refine C9 (i:=0) rfl ho2_1.ks hi15 (λw hw p hp=>hw.sat _ _ (hgs5 p hp)) rfl rfl rfl rfl (λhl22=>?_) (λen23 l24 v25 row26 hp27 hok28 hv29 hit30 he31=>?_)
 ·
  have h:=hK17 hl22
  refine cwV 11 [_] (sV exV (k:=Dw (Dy ?_)))
  refine WC.cfk (b:=false) (by kernel_rfl) rfl ?_
  refine DE ?_
  change WC _ _ _ _ _ _
  refine Dx (mV (k:=aV (k:=Dw ?_)))
  exact DB λw hw=>rq_ r h hF hw
 obtain⟨hlen18,s219,h,hgo20⟩:=hstep16 en23 l24 hp27
 obtain⟨A32,c33,hv29,hc34,hs35⟩:=hv29
 obtain rfl:v25=_:=List.cons.inj hv29 |>.1
 refine cwV 11 [_] (sV exV (k:=Dw (Dy ?_)))
 refine WC.ctk (b:=true) (by kernel_rfl) rfl ?_
 refine DC (wc_ (DD (Dx (sV (Bg (kv:=.string en23.1) (v:=.slice A32 en23.2.length c33) (i:=0) rfl he31 (λw hw p hp=>hw.sat _ _ (hgs5 p hp)) rfl rfl) (k:=sV exV (k:=aV (k:=Dw ?_)))))))
 refine DA ?_
 refine mV (k:=mV (k:=sV (ab rfl Eo) (k:=sV bN (k:=aV (k:=?_)))))
 refine Dz ?_
 intro w hw
 cases h
 exact⟨l24,_,hlen18,hgo20,row26,slK,hw,(ep _),hit30,trivial⟩
abbrev ww(r:aj)(U:List Rowb)(Γ:Gh)(v:Value):Prop := ∃(A0:Option Addr), ∃(c0:Nat),v=(aj.val r A0 c0)∧U = []∧aj.ok Γ A0 c0 r∧True
theorem wv(name:ByteArray)(hname:name.size≤lim){Ab:Option Addr}{cb:Nat}{b:List UInt8}(hb:Sl au Γ Ab b)(hbc:b.length≤cb)(hp:Pre [] Γ w0){r:aj}(h:nY name b=some r):Calls Tryz.prog 136 #[.string name,.slice Ab b.length cb] w0 (Outc Γ [] w0 (ww r)):=by
 refine goV [4] func136 ntmps136 results136 hp λF hF=>?_
 refine Dx ?_
 refine bxV (v:=.string name) λg1=>?_
 refine bxV (v:=.slice Ab b.length cb) λg2=>?_
 refine aU (v:=.nilFunc) (k:=Dw (Dx (sV (bQ (v:=.func (.func 172) #[] #[(pq g1),(pq g2)]) rfl (by kernel_rfl)) (k:=aU (v:=.func (.func 172) #[] #[(pq g1),(pq g2)]) (k:=Dw ?_)))))
 refine DB ?_
 intro w hw
 obtain⟨Γ3,hw,hl4,hr5⟩:=hw.seal (i:=1) rfl
 have hg6:=hr5 _ (List.mem_singleton.2 rfl)
 obtain⟨Γ7,hw,hl8,hr9⟩:=hw.seal (i:=0) rfl
 have hg10:=hr9 _ (List.mem_singleton.2 rfl)
 have hf11:aj.ok Γ7 (some ⟨g2,0,none⟩) g1 (aj.disk_add_1 name b):=⟨⟨(hl8 _ _ hg6),hname⟩,⟨g2,Ab,cb,rfl,hg10,hbc,(hb.mono (hl4.trans hl8))⟩,trivial⟩
 cases h
 subst hF
 exact aI (is:=[]) (by kernel_rfl) hw rfl ⟨(some ⟨g2,0,none⟩),g1,rfl,rfl,hf11,trivial⟩
abbrev nV(gd:Nat)(ed:Nat)(r:a6×Int)(U:List Rowb)(Γ:Gh)(v:Value):Prop := ∃(rowd':Rowb),v = .int .i64 r.2∧U = [rowd']∧a6.ob ed Γ gd rowd' r.1∧I64 r.2∧True
theorem ol{gd ed:Nat}{rowd:Rowb}{d:a6}(hd:a6.ob ed Γ gd rowd d)(name:ByteArray)(hname:name.size≤lim){Ab:Option Addr}{cb:Nat}{b:List UInt8}(hb:Sl au Γ Ab b)(hbc:b.length≤cb)(hp:Pre [rowd] Γ w0){r:a6×Int}(h:fg d name b=some r):Calls Tryz.prog 94 #[(pq gd),.string name,.slice Ab b.length cb] w0 (Outc Γ [rowd] w0 (nV gd ed r)):=by
 refine goV [6] func94 ntmps94 results94 hp λF hF=>?_
 refine Dx (aV (k:=Dw (Dy (Dx (mV (k:=?_))))))
 refine bsV #[.string name] 9 λg1=>?_
 have ho2:Own strT Γ 9 [(g1,.cells #[.string name] 9 (0,0))] (some ⟨g1,0,none⟩) 1 [name]:=DM (T:=strT) (ys:=[name]) [[.string name]] rfl (show 1≤lim by decide) ⟨⟨rfl,hname⟩,trivial⟩
 obtain⟨z3,hz4,h⟩:=bnd h
 refine vqV (caV call133) (λw hw=>pt (Γ:=Gh.all w) (ho2.sl hw.sat.le_all (hw.ra 0 rfl)) ho2.capz (Sat.all w) hz4) (k:=sV bb (k:=Dw ?_))
 refine ciV h (λhb5 h=>?_) (λhb5 h=>?_)
 ·
  refine Dx (aV (k:=Dw ?_))
  exact DB λw hw=>re_ r [1] h hF hw ⟨rowd,rfl,rfl,hd,iV,trivial⟩
 refine DC (wc_ (Dy (Dy ?_)))
 obtain⟨m1_6,r1_6,m2_6,r2_6,A3_6,c3_6,r3_6,hrow_6,ho0_6,ho1_6,ho2_6,ho3_6,-⟩:=id hd
 refine ufC 1 hrow_6 [_,_,_,_,_] ?_
 refine drV ?_
 refine zV moV (k:=zV (ab rfl Eo) (k:=zV moV (k:=zV nlV (k:=zV (q_fl 0 yR) (k:=zV (ldV 0 Ez) (k:=zV moV (k:=?_)))))))
 obtain⟨z7,hz8,h⟩:=bnd h
 refine wc rfl rfl rfl (aH (caV call134) (λw hw=>pK (Γ:=Gh.all w) (hd.mono hw.sat.le_all) (hw.raU [0,0,0,0] rfl hrow_6) (Sat.all w) hz8)) (zV iK (k:=zV bx (k:=?_)))
 refine DJ ?_
 change WC _ _ _ _ _ _
 refine ciV h (λhb9 h=>?_) (λhb9 h=>?_)
 ·
  refine Dx (aV (k:=Dw ?_))
  refine DB ?_
  intro w hw
  have hw:=hw.fold (is:=[0,0,0,0]) rfl hrow_6
  exact re_ r [0] h hF hw ⟨rowd,rfl,rfl,hd,iV,trivial⟩
 refine DC (wc_ (Dx (mV (k:=?_))))
 obtain⟨z11,hz12,h⟩:=bnd h
 refine ecV [] (caV call121) (λw hp=>gD hb hbc hp hz12) ?_
 rintro Γ13 _ _ hl14 ⟨A17,c18,row19,rfl,rfl,hr20,_⟩
 refine cwV 22 [_,_,_,_,_,_] (aV (k:=Dw (Dx (mV (k:=mV (k:=mV (k:=?_)))))))
 have hc25:=hr20.capz
 refine seR 0 [_,_,_,_,_,_] λΓ21 hl22 hr23=>?_
 have hs24:=hr20.sl hl22 hr23
 obtain⟨z26,hz27,h⟩:=bnd h
 refine ecV [] (caV call136) (λw hp=>wv name hname hs24 hc25 hp hz27) ?_
 rintro Γ28 _ _ hl29 ⟨A32,c33,rfl,rfl,hr34,_⟩
 refine cwV 26 [_,_,_,_,_,_] (mV (k:=mV (k:=sV (aA (v:=.agg #[(aj.val z26 A32 c33),.string name,.slice A17 z11.length c18]) rfl (so rfl rfl rfl) (λw=>by kernel_rfl)) (k:=?_))))
 refine foR [1,1,1,1] hrow_6 [_,_,_] ?_
 obtain⟨z36,hz37,h⟩:=bnd h
 refine ecV [0] (caV call135) (λw hp=>iP (hd.mono ((hl14.trans hl22).trans hl29)) (⟨z26,name,z11⟩:az) ⟨hr34,hname,⟨hc25,(hs24.mono hl29)⟩⟩ hp hz37) ?_
 rintro Γ38 _ _ hl39 ⟨row42,rfl,rfl,hr43,hr44,_⟩
 refine cwV 30 [_,_,_] (aV (k:=Dw ?_))
 exact DB λw hw=>re_ r [0] h hF hw ⟨row42,rfl,rfl,hr43,hr44,trivial⟩
abbrev nI(gl:Nat)(el:Nat×Nat)(edk0:Nat)(r:ai×a6×Int)(U:List Rowb)(Γ:Gh)(v:Value):Prop := ∃(rowl':Rowb), ∃(rowdk0':Rowb),v = .int .i64 r.2.2∧U = [rowl',rowdk0']∧ai.ob el Γ gl rowl' r.1∧a6.ob edk0 Γ el.2 rowdk0' r.2.1∧I64 r.2.2∧True
theorem jL{gl:Nat}{el:Nat×Nat}{rowl:Rowb}{l:ai}(hl:ai.ob el Γ gl rowl l){Ab:Option Addr}{cb:Nat}{b:List UInt8}(hb:Sl au Γ Ab b)(hbc:b.length≤cb){edk0:Nat}{rowdk0:Rowb}{dk0:a6}(hdk0:a6.ob edk0 Γ el.2 rowdk0 dk0)(hp:Pre [rowl,rowdk0] Γ w0){r:ai×a6×Int}(h:eq l b dk0=some r):Calls Tryz.prog 81 #[(pq gl),.slice Ab b.length cb] w0 (Outc Γ [rowl,rowdk0] w0 (nI gl el edk0 r)):=by
 refine goV [4] func81 ntmps81 results81 hp λF hF=>?_
 refine Dx (aV (k:=Dw (Dx (mV (k:=?_)))))
 obtain⟨z1,hz2,h⟩:=bnd h
 refine ecV [] (caV call120) (λw hp=>ur hb hbc hp hz2) ?_
 rintro Γ3 _ _ hl4 ⟨A7,c8,row9,rfl,rfl,hr10,hr11,_⟩
 refine cwV 12 [_,_,_] (mV (k:=sV exV (k:=sV exV (k:=aV (k:=aV (k:=Dw (Dy ?_)))))))
 refine Dx (mV (k:=sV bj (k:=Dw ?_)))
 refine ciV h (λhb12 h=>?_) (λhb12 h=>?_)
 ·
  refine Dx (mV (k:=aV (k:=Dw ?_)))
  exact DB λw hw=>re_ r [1,1] h hF hw ⟨rowl,rowdk0,rfl,rfl,(hl.mono hl4),(hdk0.mono hl4),hr11,trivial⟩
 refine DC (wc_ (Dy ?_))
 obtain⟨hrow_13,ho0_13,ho1_13,ho2_13,ho3_13,ho4_13,ho5_13,ho6_13,-⟩:=(hl.mono hl4)
 refine ufC 1 hrow_13 [_,_,_] ?_
 refine drV ?_
 refine zV moV (k:=zV nlV (k:=zV (q_fl 4 iQ) (k:=zV (ldV 0 EH) (k:=zV moV (k:=zV nlV (k:=zV (q_fl 5 qn) (k:=zV (ldV 0 Ez) (k:=?_))))))))
 refine zV aoV (k:=zV aoV (k:=?_))
 refine DJ ?_
 change WC _ _ _ _ _ _
 refine foC [0] hrow_13 [_,_,_] ?_
 refine DL (λσ w => ∃(part_15:Int), ∃(tail_17:Int),cd l dk0 z1 part_15 tail_17=some r∧slots σ [(0,(pq gl)),(5,.slice A7 z1.1.length c8),(7,ii part_15),(8,ii tail_17)]∧CC F Γ3 [rowl,row9,rowdk0] w∧I64 part_15∧I64 tail_17∧True) ?_ ?_
 ·
  refine Dx (mV (k:=sV cW (k:=mV (k:=vG0 (h:=λhg19=>moV) (k:=vG0 (h:=λhg20=>bx rfl (grV hg20)) (k:=vG0 (h:=λhg21=>b4 (v:=.bool (decide (0<l.tail))) rfl (grV hg21)) (k:=vh1 (c0:=(!(l.last==0))) (g:=(decide (0<l.tail))) rfl rfl rfl rfl rfl (λ_=>QV.qo moV) ?_)))))))
  refine vh1 (c0:=(!(l.last==0))) (g:=(decide (0<l.tail))) rfl rfl rfl rfl rfl (λhg23=>QV.qo (ab rfl Eo (grV hg23))) (vh1 (c0:=(!(l.last==0))) (g:=(decide (0<l.tail))) rfl rfl rfl rfl rfl (λ_=>QV.qo moV) (vh1 (c0:=(!(l.last==0))) (g:=(decide (0<l.tail))) rfl rfl rfl rfl rfl (λhg25=>QV.qo (nlV (hv:=grV hg25))) (vh1 (c0:=(!(l.last==0))) (g:=(decide (0<l.tail))) rfl rfl rfl rfl rfl (λhg26=>QV.qo (q_fl 3 yg rfl (grV hg26))) ?_)))
  obtain⟨hrow_28,ho0_28,ho1_28,ho2_28,ho3_28,ho4_28,ho5_28,ho6_28,-⟩:=(hl.mono hl4)
  refine ufR 0 hrow_28 [_,_,_] ?_
  refine vh1 (c0:=(!(l.last==0))) (g:=(decide (0<l.tail))) rfl rfl rfl rfl rfl (λhg29=>QV.qo (ldV 0 Ez (hx:=grV hg29))) (vh1 (c0:=(!(l.last==0))) (g:=(decide (0<l.tail))) rfl rfl rfl rfl rfl (λ_=>QV.qo moV) (vh1 (c0:=(!(l.last==0))) (g:=(decide (0<l.tail))) rfl rfl rfl rfl rfl (λhg31=>QV.qo (iK rfl (grV hg31) (grV hg31))) (vh1 (c0:=(!(l.last==0))) (g:=(decide (0<l.tail))) rfl rfl rfl rfl rfl (λhg32=>QV.qo (bx rfl (grV hg32) (grV hg32))) (vG0 (h:=λhg33=>eV rfl (grV hg33) (kM (c:=(!(l.last==0))) (g:=(decide (0<l.tail))) (y:=(decide ((w64 (l.size - l.tail))<(z1.1.length:Int)))) hg33)) (k:=sV pkO (k:=Dw ?_))))))
  refine ciV h (λhb34 h=>?_) (λhb34 h=>?_)
  ·
   refine DA ?_
   refine mV (k:=sV bN (k:=aV (k:=aV (k:=?_))))
   refine Dz ?_
   intro w hw
   have hw:=hw.fold (is:=[0]) rfl hrow_28
   exact⟨(w64 (l.last+1)),0,h,slK,hw,(ep _),iV,trivial⟩
  refine DC ?_
  intro w hw
  have hw:=hw.fold (is:=[0]) rfl hrow_28
  exact⟨l.last,l.tail,h,slK,hw,ho3_13,ho4_13,trivial⟩
 rintro σ w ⟨part_15,tail_17,h,hsl,hw,hr16,hr18,-⟩
 refine slV hsl hw [_,_,_] ?_; clear hw hsl
 refine Dy (Dx (mV (k:=sV bx (k:=Dw ?_))))
 refine ciV h (λhb37 h=>?_) (λhb37 h=>?_)
 ·
  refine Dx (aV (k:=Dw ?_))
  exact DB λw hw=>re_ r [0,1] h hF hw ⟨rowl,rowdk0,rfl,rfl,(hl.mono hl4),(hdk0.mono hl4),iV,trivial⟩
 refine DC (wc_ (Dy ?_))
 refine DL (λσ w => ∃(f_40:List UInt8), ∃(e_45:Int), ∃(o47:a6), ∃(Γ38:Gh), ∃(A41:Option Addr), ∃(c42:Nat), ∃(row48:Rowb),fl l part_15 tail_17 f_40 e_45 o47=some r∧slots σ [(0,(pq gl)),(5,.slice A41 f_40.length c42),(7,ii part_15),(8,ii tail_17),(9,ii e_45)]∧CC F Γ38 [rowl,row48] w∧Gh.le Γ3 Γ38∧f_40.length≤c42∧Sl au Γ38 A41 f_40∧I64 e_45∧a6.ob edk0 Γ38 el.2 row48 o47∧True) ?_ ?_
 ·
  have hc54:=hr10.capz
  refine seC 1 [_,_,_] λΓ50 hl51 hr52=>?_
  have hs53:=hr10.sl hl51 hr52
  obtain⟨hrow_55,ho0_55,ho1_55,ho2_55,ho3_55,ho4_55,ho5_55,ho6_55,-⟩:=(hl.mono (hl4.trans hl51))
  refine ufC 0 hrow_55 [_,_,_] ?_
  refine leV λh056=>?_
  refine db (CC F Γ50 [[(gl,.cells #[.pointer (some ⟨el.2,0,none⟩),.string l.place_name,ii l.place_gen,ii l.size,ii l.last,ii l.tail,ii l.count,ii l.bytes] el.1 (0,0))],[]]) (bo_ [0,0] gR h056) λk=>?_
  change WH _ _ _ _ (CC F Γ50 [_,_,_]) _ 19 _ _
  refine hV 0 k (q:=moV) (k:=hV 1 k (q:=nlV) (k:=hV 2 k (q:=q_fl 0 i6) (k:=hV 3 k (q:=q_fl 0 ia) (k:=hV 4 k (q:=ldV 0 EB) (k:=hV 5 k (q:=moV) (k:=hV 6 k (q:=nlV) (k:=hV 7 k (q:=q_fl 0 i6) (k:=?_))))))))
  refine hV 8 k (q:=ldaV 0 [.pointer (some ⟨el.2,0,none⟩),.string l.place_name,ii l.place_gen] EC ED) (k:=hV 9 k (q:=moV) (k:=hV 10 k (q:=nlV) (k:=hV 11 k (q:=q_fl 0 i6) (k:=hV 12 k (q:=q_fl 2 pY) (k:=hV 13 k (q:=ldV 0 EH) (k:=hV 14 k (q:=moV) (k:=hV 16 k (q:=moV) (k:=?_))))))))
  refine wl_ 15 rfl ?_
  obtain⟨z57,hz58,h⟩:=bnd h
  refine vqV (caV call108) (λw hw=>jH (Γ:=Gh.all w) (gp__0:=el.2) l.place_name ho0_55 l.place_gen ho1_55 l.place_gen ho1_55 part_15 hr16 (Sat.all w) hz58) (k:=?_)
  refine Dz (nxV (bo_ [0,0] gR h056) λk=>?_)
  refine wl_ 17 rfl ?_
  obtain⟨hk59,h⟩:=af h
  obtain⟨z60,hz61,h⟩:=bnd h
  refine ecV [2] (caV call94) (λw hp=>ol (hdk0.mono (hl4.trans hl51)) z57 (DP hk59) hs53 hc54 hp hz61) ?_
  rintro Γ62 _ _ hl63 ⟨row66,rfl,rfl,hr67,hr68,_⟩
  refine cwV 64 [_,_,_] ?_
  refine Dz (nxV (bo_ [1,1] hl63 h056) λk=>?_)
  refine hV 18 k (q:=aoV) (k:=?_)
  refine DH (by kernel_rfl) ?_
  intro w hw
  have hw:=hw.fold (is:=[1]) rfl hrow_55
  exact⟨z1.1,z60.2,z60.1,Γ62,A7,c8,row66,h,slK,(hw.on [0,0]),(hl51.trans hl63),hc54,(hs53.mono hl63),hr68,hr67,trivial⟩
 rintro σ w ⟨f_40,e_45,o47,Γ38,A41,c42,row48,h,hsl,hw,hl39,hc44,hs43,hr46,ho49,-⟩
 refine slV hsl hw [_,_] ?_; clear hw hsl
 refine Dx (mV (k:=sV bj (k:=Dw ?_)))
 refine ciV h (λhb70 h=>?_) (λhb70 h=>?_)
 ·
  refine Dx (mV (k:=aV (k:=Dw ?_)))
  exact DB λw hw=>re_ r [0,0] h hF hw ⟨rowl,row48,rfl,rfl,(hl.mono (hl4.trans hl39)),ho49,hr46,trivial⟩
 refine DC (wc_ (Dx (mV (k:=mV (k:=mV (k:=mV (k:=mV (k:=?_))))))))
 refine sV (ab rfl Eo) (k:=sV bN (k:=sV nlV (k:=sV (q_fl 4 iQ) (k:=?_))))
 obtain⟨hrow_71,ho0_71,ho1_71,ho2_71,ho3_71,ho4_71,ho5_71,ho6_71,-⟩:=(hl.mono (hl4.trans hl39))
 refine ufR 0 hrow_71 [_,_] ?_
 refine stV 0 (ii part_15) #[.pointer (some ⟨el.2,0,none⟩),.string l.place_name,ii l.place_gen,ii l.size,ii part_15,ii l.tail,ii l.count,ii l.bytes] EG (k:=sV nlV (k:=sV (q_fl 5 qn) (k:=stV 0 (ii (w64 (tail_17+(f_40.length:Int)))) #[.pointer (some ⟨el.2,0,none⟩),.string l.place_name,ii l.place_gen,ii l.size,ii part_15,ii (w64 (tail_17+(f_40.length:Int))),ii l.count,ii l.bytes] Ey (k:=Dw (Dx (mV (k:=sV nlV (k:=?_))))))))
 refine sV (q_fl 6 qb) (k:=sV (ldV 0 Ez) (k:=sV bN (k:=sV nlV (k:=sV (q_fl 6 qb) (k:=stV 0 (ii (w64 (l.count+1))) #[.pointer (some ⟨el.2,0,none⟩),.string l.place_name,ii l.place_gen,ii l.size,ii part_15,ii (w64 (tail_17+(f_40.length:Int))),ii (w64 (l.count+1)),ii l.bytes] Ey (k:=Dw (Dx ?_)))))))
 refine mV (k:=sV nlV (k:=sV (q_fl 7 np) (k:=sV (ldV 0 Ez) (k:=mV (k:=sV (ab rfl Eo) (k:=sV bN (k:=sV nlV (k:=?_))))))))
 refine sV (q_fl 7 np) (k:=stV 0 (ii (w64 (l.bytes+(f_40.length:Int)))) #[.pointer (some ⟨el.2,0,none⟩),.string l.place_name,ii l.place_gen,ii l.size,ii part_15,ii (w64 (tail_17+(f_40.length:Int))),ii (w64 (l.count+1)),ii (w64 (l.bytes+(f_40.length:Int)))] Ey (k:=Dw (Dx (aV (k:=Dw ?_)))))
 refine DB ?_
 intro w hw
 obtain⟨row_72,hrow_72,hob_72⟩:∃rw:Rowb,rw=([[(gl,.cells #[.pointer (some ⟨el.2,0,none⟩),.string l.place_name,ii l.place_gen,ii l.size,ii part_15,ii (w64 (tail_17+(f_40.length:Int))),ii (w64 (l.count+1)),ii (w64 (l.bytes+(f_40.length:Int)))] el.1 (0,0))]]:List Rowb).flatten∧ai.ob el Γ38 gl rw (⟨l.place_name,l.place_gen,l.size,part_15,(w64 (tail_17+(f_40.length:Int))),(w64 (l.count+1)),(w64 (l.bytes+(f_40.length:Int)))⟩:ai):=⟨_,rfl,rfl,ho0_71,ho1_71,ho2_71,hr16,(ep _),(ep _),(ep _),trivial⟩
 have hw:=hw.fold (is:=[0]) rfl hrow_72
 cases h
 subst hF
 exact aI (is:=[0,0]) (by kernel_rfl) hw rfl ⟨row_72,row48,rfl,rfl,hob_72,ho49,iV,trivial⟩
abbrev oT(gl:Nat)(el:Nat×Nat)(rowl:Rowb)(edk0:Nat)(r:a6)(U:List Rowb)(Γ:Gh)(v:Value):Prop := ∃(rowdk0':Rowb),v = .tuple #[]∧U = [rowl,rowdk0']∧a6.ob edk0 Γ el.2 rowdk0' r∧True
theorem kJ{gl:Nat}{el:Nat×Nat}{rowl:Rowb}{l:ai}(hl:ai.ob el Γ gl rowl l){edk0:Nat}{rowdk0:Rowb}{dk0:a6}(hdk0:a6.ob edk0 Γ el.2 rowdk0 dk0)(hp:Pre [rowl,rowdk0] Γ w0){r:a6}(h:fH l dk0=some r):Calls Tryz.prog 82 #[(pq gl)] w0 (Outc Γ [rowl,rowdk0] w0 (oT gl el rowl edk0 r)):=by
 refine goV [] func82 ntmps82 results82 hp λF hF=>?_
 refine DA ?_
 refine mV (k:=sV nlV (k:=sV (q_fl 0 i6) (k:=sV (q_fl 0 ia) (k:=?_))))
 obtain⟨hrow_1,ho0_1,ho1_1,ho2_1,ho3_1,ho4_1,ho5_1,ho6_1,-⟩:=id hl
 refine ufR 0 hrow_1 [_,_] ?_
 refine sV (ldV 0 EB) (k:=?_)
 obtain⟨z2,hz3,h⟩:=bnd h
 refine ecV [1] (caV call75) (λw hp=>l4 hdk0 hp hz3) ?_
 rintro Γ4 _ _ hl5 ⟨row8,rfl,rfl,hr9,_⟩
 refine cwV 7 [_,_] ?_
 refine Dz ?_
 intro w hw
 have hw:=hw.fold (is:=[1]) rfl hrow_1
 cases h
 subst hF
 exact aI (is:=[0,0]) (by kernel_rfl) hw rfl ⟨row8,rfl,rfl,hr9,trivial⟩
abbrev n4(gs_:Nat)(es_:Nat×Nat)(r:a8)(U:List Rowb)(Γ:Gh)(v:Value):Prop := ∃(rows_':Rowb),v = .tuple #[]∧U = [rows_']∧a8.ob es_ Γ gs_ rows_' r∧True
theorem mW{B:Gh}{gs_:Nat}{es_:Nat×Nat}{rows_:Rowb}{s_:a8}(hs_:a8.ob es_ Γ gs_ rows_ s_){Ar_1:Option Addr}{cr_1:Nat}(r_:Rec)(hr_:Rec.fits B Ar_1 cr_1 r_){Ab:Option Addr}{cb:Nat}{b:List UInt8}(hb:Sl au Γ Ab b)(hbc:b.length≤cb)(hp:Pre [rows_] Γ w0)(hpB:Pre [rows_] B w0){r:a8}(h:ci s_ r_ b=some r):Calls Tryz.prog 41 #[(pq gs_),.agg (Rec.cs Ar_1 cr_1 r_).toArray,.slice Ab b.length cb] w0 (Outc Γ [rows_] w0 (n4 gs_ es_ r)):=by
 refine goV [] func41 ntmps41 results41 hp λF hF=>?_
 have hB:Lent F B:=hF▸Lent.start hpB
 refine Dx ?_
 refine bxV (v:=.agg (Rec.cs Ar_1 cr_1 r_).toArray) λg1=>?_
 refine Dw (Dy ?_)
 refine leV λh02=>?_
 refine db (CC F Γ [[(g1,.cells (Rec.cs Ar_1 cr_1 r_).toArray 36 (0,0))]]) (bo_ [0] gR h02) λk=>?_
 change WH _ _ _ _ (CC F Γ [_,_]) _ 7 _ _
 refine hV 0 k (q:=moV) (k:=hV 1 k (q:=nlV) (k:=hV 2 k (q:=q_fl 1 jy) (k:=hV 4 k (q:=q_fl 0 b6) (k:=hV 5 k (q:=ldV 0 En) (k:=wl_ 3 rfl ?_)))))
 obtain⟨g0_3,r0_3,m1_3,r1_3,hrow_3,ho0_3,ho1_3,-⟩:=id hs_
 refine ufR 1 hrow_3 [_,_,_,_] ?_
 refine sV (ldV 0 F3) (k:=?_)
 refine Dz (nxV (bo_ [3] gR h02) λk=>?_)
 refine wl_ 6 rfl ?_
 refine sc (i:=2) (x:=r_.key) rfl ho1_3 rfl rfl rfl F4 rfl rfl ?_
 intro row4 hm5
 refine Dz (nxV (bo_ [3] gR h02) λk=>?_)
 refine DH (by kernel_rfl) ?_
 change WC _ _ _ _ _ _
 refine Dx (sV (q_fl 1 aM) (k:=sV (ldV 3 F1) (k:=sV (ab rfl EY) (k:=sV bx (k:=Dw ?_)))))
 refine ciV h (λhb6 h=>?_) (λhb6 h=>?_)
 ·
  refine leV λh07=>?_
  refine db (CC F Γ [[(gs_,.cells #[(pq g0_3),.map (some m1_3)] es_.1 (0,0))],[(g1,.cells (Rec.cs Ar_1 cr_1 r_).toArray 36 (0,0))]]) (bo_ [0,2] gR h07) λk=>?_
  change WH _ _ _ _ (CC F Γ [_,_,_,_]) _ 8 _ _
  refine hV 0 k (q:=moV) (k:=hV 1 k (q:=nlV) (k:=hV 2 k (q:=q_fl 1 jy) (k:=hV 3 k (q:=ldV 0 F3) (k:=hV 4 k (q:=q_fl 0 b6) (k:=hV 5 k (q:=ldV 1 En) (k:=hV 6 k (q:=moV) (k:=wl_ 7 rfl ?_)))))))
  refine cv (i:=2) (x:=r_.key) (v:=.slice Ab b.length cb) (a:=b) rfl rfl rfl F4 rfl rfl (by kernel_rfl) rfl hm5 (by exact⟨Ab,cb,rfl,hbc,hb⟩) hr_.1 ?_
  intro row8 hm9
  refine Dz (nxV (bo_ [0,2] gR h07) λk=>?_)
  refine DH (by kernel_rfl) ?_
  intro w hw
  obtain⟨row_10,hrow_10,hob_10⟩:∃rw:Rowb,rw=([[(gs_,.cells #[(pq g0_3),.map (some m1_3)] es_.1 (0,0))],r0_3,row8]:List Rowb).flatten∧a8.ob es_ Γ gs_ rw (⟨s_.log,(mput r_.key b (mdel r_.key s_.keys))⟩:a8):=⟨_,rfl,g0_3,r0_3,m1_3,row8,rfl,ho0_3,hm9,trivial⟩
  have hw:=hw.fold (is:=[0,0,0]) rfl hrow_10
  cases h
  subst hF
  exact aI (is:=[0]) (by kernel_rfl) hw rfl ⟨row_10,rfl,rfl,hob_10,trivial⟩
 refine DC ?_
 intro w hw
 obtain⟨row_11,hrow_11,hob_11⟩:∃rw:Rowb,rw=([[(gs_,.cells #[(pq g0_3),.map (some m1_3)] es_.1 (0,0))],r0_3,row4]:List Rowb).flatten∧a8.ob es_ Γ gs_ rw (⟨s_.log,(mdel r_.key s_.keys)⟩:a8):=⟨_,rfl,g0_3,r0_3,m1_3,row4,rfl,ho0_3,hm5,trivial⟩
 have hw:=hw.fold (is:=[0,0,0]) rfl hrow_11
 cases h
 subst hF
 exact aI (is:=[0]) (by kernel_rfl) hw rfl ⟨row_11,rfl,rfl,hob_11,trivial⟩
abbrev oL(gs_:Nat)(es_:Nat×Nat)(edk0:Nat)(r:a8×a6×Int)(U:List Rowb)(Γ:Gh)(v:Value):Prop := ∃(rows_':Rowb), ∃(rowdk0':Rowb),v = .int .i64 r.2.2∧U = [rows_',rowdk0']∧a8.ob es_ Γ gs_ rows_' r.1∧a6.ob edk0 Γ es_.2 rowdk0' r.2.1∧I64 r.2.2∧True
theorem oH{gs_:Nat}{es_:Nat×Nat}{rows_:Rowb}{s_:a8}(hs_:a8.ob es_ Γ gs_ rows_ s_){Ar_1:Option Addr}{cr_1:Nat}(r_:Rec)(hr_:Rec.fits Γ Ar_1 cr_1 r_){edk0:Nat}{rowdk0:Rowb}{dk0:a6}(hdk0:a6.ob edk0 Γ es_.2 rowdk0 dk0)(hp:Pre [rows_,rowdk0] Γ w0){r:a8×a6×Int}(h:cX s_ r_ dk0=some r):Calls Tryz.prog 46 #[(pq gs_),.agg (Rec.cs Ar_1 cr_1 r_).toArray] w0 (Outc Γ [rows_,rowdk0] w0 (oL gs_ es_ edk0 r)):=by
 refine goV [4] func46 ntmps46 results46 hp λF hF=>?_
 refine Dx ?_
 refine bxV (v:=.agg (Rec.cs Ar_1 cr_1 r_).toArray) λg1=>?_
 refine aV (k:=Dw (Dx (sV (ldaV 0 (Rec.cs Ar_1 cr_1 r_) EV EU) (k:=?_))))
 obtain⟨z2,hz3,h⟩:=bnd h
 refine ecV [] (caV call80) (λw hp=>sJ r_ hr_ hp hz3) ?_
 rintro Γ4 _ _ hl5 ⟨A8,c9,row10,rfl,rfl,hr11,hr12,_⟩
 refine cwV 9 [_,_,_,_] (mV (k:=sV exV (k:=sV exV (k:=aV (k:=aV (k:=Dw ?_))))))
 refine DL (λσ w => ∃(b_15:List UInt8), ∃(e_20:Int), ∃(o22:a8), ∃(o25:a6), ∃(Γ13:Gh), ∃(A16:Option Addr), ∃(c17:Nat), ∃(row23:Rowb), ∃(row26:Rowb),cQ r_ b_15 e_20 o22 o25=some r∧slots σ [(0,(pq gs_)),(3,(pq g1)),(5,.slice A16 b_15.length c17),(6,ii e_20)]∧CC F Γ13 [[(g1,.cells (Rec.cs Ar_1 cr_1 r_).toArray 36 (0,0))],row23,row26] w∧Gh.le Γ4 Γ13∧b_15.length≤c17∧Sl au Γ13 A16 b_15∧I64 e_20∧a8.ob es_ Γ13 gs_ row23 o22∧a6.ob edk0 Γ13 es_.2 row26 o25∧True) ?_ ?_
 ·
  refine Dx (mV (k:=sV cW (k:=Dw ?_)))
  refine ciV h (λhb28 h=>?_) (λhb28 h=>?_)
  ·
   refine DA ?_
   refine mV (k:=sV nlV (k:=sV (q_fl 0 pp) (k:=?_)))
   obtain⟨g0_29,r0_29,m1_29,r1_29,hrow_29,ho0_29,ho1_29,-⟩:=(hs_.mono hl5)
   refine ufR 2 hrow_29 [_,_,_,_,_,_] ?_
   refine sV (ldV 0 isAgg83) (k:=mV (k:=?_))
   have hc34:=hr11.capz
   refine seR 3 [_,_,_,_,_,_] λΓ30 hl31 hr32=>?_
   have hs33:=hr11.sl hl31 hr32
   obtain⟨z35,hz36,h⟩:=bnd h
   refine ecV [1,4] (caV call81) (λw hp=>jL (ho0_29.mono hl31) hs33 hc34 (hdk0.mono (hl5.trans hl31)) hp hz36) ?_
   rintro Γ37 _ _ hl38 ⟨row41,row43,rfl,rfl,hr42,hr44,hr45,_⟩
   refine cwV 19 [_,_,_,_,_,_] (aV (k:=?_))
   refine Dz ?_
   intro w hw
   obtain⟨row_46,hrow_46,hob_46⟩:∃rw:Rowb,rw=([[(gs_,.cells #[(pq g0_29),.map (some m1_29)] es_.1 (0,0))],row41,r1_29]:List Rowb).flatten∧a8.ob es_ Γ37 gs_ rw (⟨z35.1,s_.keys⟩:a8):=⟨_,rfl,g0_29,row41,m1_29,r1_29,rfl,hr42,(ho1_29.mono (hl31.trans hl38)),trivial⟩
   have hw:=hw.fold (is:=[2,0,1]) rfl hrow_46
   exact⟨z2.1,z35.2.2,(⟨z35.1,s_.keys⟩:a8),z35.2.1,Γ37,A8,c9,row_46,row43,h,slK,(hw.on [3,0,0]),(hl31.trans hl38),hc34,(hs33.mono hl38),hr45,hob_46,hr44,trivial⟩
  refine DC ?_
  intro w hw
  have hc51:=hr11.capz
  obtain⟨Γ47,hw,hl48,hr49⟩:=hw.seal (i:=0) rfl; have hs50:=hr11.sl hl48 hr49
  exact⟨z2.1,z2.2,s_,dk0,Γ47,A8,c9,rows_,rowdk0,h,slK,(hw.on [1,1,1]),hl48,hc51,hs50,hr12,(hs_.mono (hl5.trans hl48)),(hdk0.mono (hl5.trans hl48)),trivial⟩
 rintro σ w ⟨b_15,e_20,o22,o25,Γ13,A16,c17,row23,row26,h,hsl,hw,hl14,hc19,hs18,hr21,ho24,ho27,-⟩
 refine slV hsl hw [_,_,_] ?_; clear hw hsl
 refine Dy (Dx (mV (k:=sV bj (k:=Dw ?_))))
 refine ciV h (λhb52 h=>?_) (λhb52 h=>?_)
 ·
  refine Dx (mV (k:=aV (k:=Dw ?_)))
  exact DB λw hw=>re_ r [1,1] h hF hw ⟨row23,row26,rfl,rfl,ho24,ho27,hr21,trivial⟩
 refine DC (wc_ (Dx (mV (k:=sV nlV (k:=sV (q_fl 0 pp) (k:=?_))))))
 obtain⟨g0_53,r0_53,m1_53,r1_53,hrow_53,ho0_53,ho1_53,-⟩:=id ho24
 refine ufR 1 hrow_53 [_,_,_,_,_] ?_
 refine sV (ldV 0 isAgg83) (k:=?_)
 obtain⟨z54,hz55,h⟩:=bnd h
 refine ecV [1,3] (caV call82) (λw hp=>kJ ho0_53 ho27 hp hz55) ?_
 rintro Γ56 _ _ hl57 ⟨row60,rfl,rfl,hr61,_⟩
 refine cwV 27 [_,_,_,_,_] (Dw (Dx (mV (k:=sV (ldaV 4 (Rec.cs Ar_1 cr_1 r_) EV EU) (k:=mV (k:=?_))))))
 refine foR [2,0,1] hrow_53 [_,_,_] ?_
 obtain⟨z63,hz64,h⟩:=bnd h
 refine ecV [0] (caV call41) (λw hp=>kF (ho24.mono hl57) r_ (Rec.fits_mono hr_ ((hl5.trans hl14).trans hl57)) (hs18.mono hl57) hc19 hp hz64) ?_
 rintro Γ65 _ _ hl66 ⟨row69,rfl,rfl,hr70,_⟩
 refine cwV 31 [_,_,_] (Dw (Dx (aV (k:=Dw ?_))))
 exact DB λw hw=>re_ r [0,0] h hF hw ⟨row69,row60,rfl,rfl,hr70,(hr61.mono hl66),iV,trivial⟩
abbrev ne(gs_:Nat)(es_:Nat×Nat)(edk0:Nat)(r:a8×a6×Int)(U:List Rowb)(Γ:Gh)(v:Value):Prop := ∃(rows_':Rowb), ∃(rowdk0':Rowb),v = .int .i64 r.2.2∧U = [rows_',rowdk0']∧a8.ob es_ Γ gs_ rows_' r.1∧a6.ob edk0 Γ es_.2 rowdk0' r.2.1∧I64 r.2.2∧True
theorem jz{B:Gh}{gs_:Nat}{es_:Nat×Nat}{rows_:Rowb}{s_:a8}(hs_:a8.ob es_ Γ gs_ rows_ s_){Ar_1:Option Addr}{cr_1:Nat}(r_:Rec)(hr_:Rec.fits B Ar_1 cr_1 r_){edk0:Nat}{rowdk0:Rowb}{dk0:a6}(hdk0:a6.ob edk0 Γ es_.2 rowdk0 dk0)(hp:Pre [rows_,rowdk0] Γ w0)(hpB:Pre [rows_,rowdk0] B w0){r:a8×a6×Int}(h:cX s_ r_ dk0=some r):Calls Tryz.prog 46 #[(pq gs_),.agg (Rec.cs Ar_1 cr_1 r_).toArray] w0 (Outc Γ [rows_,rowdk0] w0 (ne gs_ es_ edk0 r)):=by
 refine goV [4] func46 ntmps46 results46 hp λF hF=>?_
 have hB:Lent F B:=hF▸Lent.start hpB
 refine Dx ?_
 refine bxV (v:=.agg (Rec.cs Ar_1 cr_1 r_).toArray) λg1=>?_
 refine aV (k:=Dw (Dx (sV (ldaV 0 (Rec.cs Ar_1 cr_1 r_) EV EU) (k:=?_))))
 obtain⟨z2,hz3,h⟩:=bnd h
 refine eu (is:=[]) hB rfl rfl (caV call80) rfl (λw Θ hp hpB hle hleB hR=>pX r_ (Rec.fits_mono hr_ hleB) hp hpB hz3) ?_
 rintro Γ4 _ _ hl5 ⟨A8,c9,row10,rfl,rfl,hr11,hr12,_⟩
 refine cwV 9 [_,_,_,_] (mV (k:=sV exV (k:=sV exV (k:=aV (k:=aV (k:=Dw ?_))))))
 refine DL (λσ w => ∃(b_15:List UInt8), ∃(e_20:Int), ∃(o22:a8), ∃(o25:a6), ∃(Γ13:Gh), ∃(A16:Option Addr), ∃(c17:Nat), ∃(row23:Rowb), ∃(row26:Rowb),cQ r_ b_15 e_20 o22 o25=some r∧slots σ [(0,(pq gs_)),(3,(pq g1)),(5,.slice A16 b_15.length c17),(6,ii e_20)]∧CC F Γ13 [[(g1,.cells (Rec.cs Ar_1 cr_1 r_).toArray 36 (0,0))],row23,row26] w∧Gh.le Γ4 Γ13∧b_15.length≤c17∧Sl au Γ13 A16 b_15∧I64 e_20∧a8.ob es_ Γ13 gs_ row23 o22∧a6.ob edk0 Γ13 es_.2 row26 o25∧True) ?_ ?_
 ·
  refine Dx (mV (k:=sV cW (k:=Dw ?_)))
  refine ciV h (λhb28 h=>?_) (λhb28 h=>?_)
  ·
   refine DA ?_
   refine mV (k:=sV nlV (k:=sV (q_fl 0 pp) (k:=?_)))
   obtain⟨g0_29,r0_29,m1_29,r1_29,hrow_29,ho0_29,ho1_29,-⟩:=(hs_.mono hl5)
   refine ufR 2 hrow_29 [_,_,_,_,_,_] ?_
   refine sV (ldV 0 isAgg83) (k:=mV (k:=?_))
   have hc34:=hr11.capz
   refine seR 3 [_,_,_,_,_,_] λΓ30 hl31 hr32=>?_
   have hs33:=hr11.sl hl31 hr32
   obtain⟨z35,hz36,h⟩:=bnd h
   refine ecV [1,4] (caV call81) (λw hp=>jL (ho0_29.mono hl31) hs33 hc34 (hdk0.mono (hl5.trans hl31)) hp hz36) ?_
   rintro Γ37 _ _ hl38 ⟨row41,row43,rfl,rfl,hr42,hr44,hr45,_⟩
   refine cwV 19 [_,_,_,_,_,_] (aV (k:=?_))
   refine Dz ?_
   intro w hw
   obtain⟨row_46,hrow_46,hob_46⟩:∃rw:Rowb,rw=([[(gs_,.cells #[(pq g0_29),.map (some m1_29)] es_.1 (0,0))],row41,r1_29]:List Rowb).flatten∧a8.ob es_ Γ37 gs_ rw (⟨z35.1,s_.keys⟩:a8):=⟨_,rfl,g0_29,row41,m1_29,r1_29,rfl,hr42,(ho1_29.mono (hl31.trans hl38)),trivial⟩
   have hw:=hw.fold (is:=[2,0,1]) rfl hrow_46
   exact⟨z2.1,z35.2.2,(⟨z35.1,s_.keys⟩:a8),z35.2.1,Γ37,A8,c9,row_46,row43,h,slK,(hw.on [3,0,0]),(hl31.trans hl38),hc34,(hs33.mono hl38),hr45,hob_46,hr44,trivial⟩
  refine DC ?_
  intro w hw
  have hc51:=hr11.capz
  obtain⟨Γ47,hw,hl48,hr49⟩:=hw.seal (i:=0) rfl; have hs50:=hr11.sl hl48 hr49
  exact⟨z2.1,z2.2,s_,dk0,Γ47,A8,c9,rows_,rowdk0,h,slK,(hw.on [1,1,1]),hl48,hc51,hs50,hr12,(hs_.mono (hl5.trans hl48)),(hdk0.mono (hl5.trans hl48)),trivial⟩
 rintro σ w ⟨b_15,e_20,o22,o25,Γ13,A16,c17,row23,row26,h,hsl,hw,hl14,hc19,hs18,hr21,ho24,ho27,-⟩
 refine slV hsl hw [_,_,_] ?_; clear hw hsl
 refine Dy (Dx (mV (k:=sV bj (k:=Dw ?_))))
 refine ciV h (λhb52 h=>?_) (λhb52 h=>?_)
 ·
  refine Dx (mV (k:=aV (k:=Dw ?_)))
  exact DB λw hw=>re_ r [1,1] h hF hw ⟨row23,row26,rfl,rfl,ho24,ho27,hr21,trivial⟩
 refine DC (wc_ (Dx (mV (k:=sV nlV (k:=sV (q_fl 0 pp) (k:=?_))))))
 obtain⟨g0_53,r0_53,m1_53,r1_53,hrow_53,ho0_53,ho1_53,-⟩:=id ho24
 refine ufR 1 hrow_53 [_,_,_,_,_] ?_
 refine sV (ldV 0 isAgg83) (k:=?_)
 obtain⟨z54,hz55,h⟩:=bnd h
 refine ecV [1,3] (caV call82) (λw hp=>kJ ho0_53 ho27 hp hz55) ?_
 rintro Γ56 _ _ hl57 ⟨row60,rfl,rfl,hr61,_⟩
 refine cwV 27 [_,_,_,_,_] (Dw (Dx (mV (k:=sV (ldaV 4 (Rec.cs Ar_1 cr_1 r_) EV EU) (k:=mV (k:=?_))))))
 refine foR [2,0,1] hrow_53 [_,_,_] ?_
 obtain⟨z63,hz64,h⟩:=bnd h
 refine eu (is:=[0]) hB rfl rfl (caV call41) rfl (λw Θ hp hpB hle hleB hR=>mW (ho24.mono hl57) r_ (Rec.fits_mono hr_ hleB) (hs18.mono hl57) hc19 hp hpB hz64) ?_
 rintro Γ65 _ _ hl66 ⟨row69,rfl,rfl,hr70,_⟩
 refine cwV 31 [_,_,_] (Dw (Dx (aV (k:=Dw ?_))))
 exact DB λw hw=>re_ r [0,0] h hF hw ⟨row69,row60,rfl,rfl,hr70,(hr61.mono hl66),iV,trivial⟩
end Fw
end Go.Proofs.YtgaplodcdhhefaaGreat
