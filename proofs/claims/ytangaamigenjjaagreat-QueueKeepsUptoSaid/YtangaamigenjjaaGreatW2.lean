/- Walks through the functions that the law reaches (printed by a program). No condition. -/
import Derived.Test.YtangaamigenjjaaGreatW1
namespace Go.Proofs.YtangaamigenjjaaGreat
namespace Fw
set_option linter.unusedVariables false
set_option linter.unusedSimpArgs false
set_option linter.unusedSectionVars false
set_option maxRecDepth 100000
set_option maxHeartbeats 400000
open Go.RowKit
open Go.Proofs.Tryz
variable {Γ:Gh} {w0:World}
theorem sT{Al:Option Addr}{cl:Nat}{l:List Ver}(hl:Sl verT Γ Al l)(hlc:l.length≤cl)(hs:Sat Γ w0){r:Bool}(h:jL l=some r):CQ Tryz.prog 112 #[.slice Al l.length cl] w0 (.bool r):=by
 refine goQ [2] func112 ntmps112 results112 hs λF hF=>?_
 refine BZ (aV (k:=BX (C1 (BZ (mV (k:=sV (ab rfl Dy) (k:=mV (k:=?_))))))))
 refine BX (C5 ?_)
 refine Cc h (λ(i2:Nat) (s:Unit) σ w=>match s with | ()=>slots σ [(0,.slice Al l.length cl),(5,.slice Al l.length cl),(6,ii (l.length:Int)),(7,ii (i2:Int))]∧CC F Γ [] w∧True) ?_ ?_
 ·
  intro w hw
  exact⟨slK,hw,trivial⟩
 rintro f1 i2 ⟨⟩ σ w hi3 hlt4 hge5 ⟨hsl,hw,-⟩
 refine slV hsl hw [] ?_; clear hw hsl
 refine BZ (sV aQ (k:=BX (C1 ?_)))
 refine coV (λhb6=>?_) (λhb6=>?_)
 ·
  have hl7:=ilt hb6
  have h:=hlt4 hl7
  refine C4 (wc_ (C1 (C5 (BZ (mV (k:=sV (aO (i:=i2) Dy Dr rfl rfl rfl hl7 (hl.some_ hl7)) (k:=?_)))))))
  obtain⟨A8,c9,hx10⟩:=hl.verT_at i2
  refine sV (ik (c:=0) (vs:=(Ver.cs A8 c9 (gt l i2))) (hx10 hl7).2 rfl Ds Dr rfl rfl rfl) (k:=?_)
  refine alV Dq λg11=>?_
  refine aV (k:=stV 0 (.agg (Ver.cs A8 c9 (gt l i2)).toArray) (Ver.cs A8 c9 (gt l i2)).toArray Dr (k:=BX (C1 ?_)))
  refine drV ?_
  refine zV (ldaV 0 (Ver.cs A8 c9 (gt l i2)) Ds Dr) (k:=?_)
  obtain⟨z12,hz13,h⟩:=bnd h
  refine wc rfl rfl rfl (b3 (caV call146) (λw hw=>qt (Γ:=Gh.all w) (gt l i2) (Ver.fits_mono (hx10 hl7).1 hw.sat.le_all) (Sat.all w) hz13)) (zV aX (k:=zV moV (k:=wG0 (h:=λhg14=>moV) (k:=wG0 (h:=λhg15=>cp rfl (grV hg15)) (k:=wG0 (h:=λhg16=>au (v:=.bool (decide (0<(i2:Int)))) rfl (grV hg16)) (k:=wh1 (c0:=(!(!z12))) (g:=(decide (0<(i2:Int)))) rfl rfl rfl rfl rfl (λ_=>QV.qo moV) (wh1 (c0:=(!(!z12))) (g:=(decide (0<(i2:Int)))) rfl rfl rfl rfl rfl (λ_=>QV.qo moV) ?_)))))))
  refine wh1 (c0:=(!(!z12))) (g:=(decide (0<(i2:Int)))) rfl rfl rfl rfl rfl (λhg19=>QV.qo (iQ rfl (grV hg19))) ?_
  obtain⟨hk21,h⟩:=ag h
  refine wh1 (c0:=(!(!z12))) (g:=(decide (0<(i2:Int)))) rfl rfl rfl rfl rfl (λhg20=>QV.qo (q_ix Dy Dr rfl (grV hg20) (grV hg20) (aD hk21 hg20) (hl.some_ (dU (aD hk21 hg20))))) (wh1 (c0:=(!(!z12))) (g:=(decide (0<(i2:Int)))) rfl rfl rfl rfl rfl (λhg22=>QV.qo (av (((w64 ((i2:Int) - 1)).toNat)*5) bJ rfl (grV hg22) (hl.some_ (dU (aD hk21 hg22))) rfl)) ?_)
  obtain⟨A24,c25,hx26⟩:=hl.verT_at ((w64 ((i2:Int) - 1)).toNat)
  refine wh1 (c0:=(!(!z12))) (g:=(decide (0<(i2:Int)))) rfl rfl rfl rfl rfl (λhg23=>QV.qo (ik (c:=0) (vs:=[ii (gt l ((w64 ((i2:Int) - 1)).toNat)).dot.s,ii (gt l ((w64 ((i2:Int) - 1)).toNat)).dot.n]) (hx26 (dU (aD hk21 hg23))).2 rfl Dz DA (grV hg23) rfl rfl)) (wh1 (c0:=(!(!z12))) (g:=(decide (0<(i2:Int)))) rfl rfl rfl rfl rfl (λ_=>QV.qo (q_fl 0 bJ)) (wh1 (c0:=(!(!z12))) (g:=(decide (0<(i2:Int)))) rfl rfl rfl rfl rfl (λhg28=>QV.qo (ldaV 0 [ii (gt l i2).dot.s,ii (gt l i2).dot.n] Dz DA (hx:=grV hg28))) ?_))
  obtain⟨z30,hz31,h⟩:=bnd h
  refine wh1 (c0:=(!(!z12))) (g:=(decide (0<(i2:Int)))) rfl rfl rfl rfl rfl (λhg29=>(b3 (aE call147 rfl rfl (cN (grV hg29) (grV hg29))) (λw hw=>rM (Γ:=Gh.all w) ((gt l ((w64 ((i2:Int) - 1)).toNat)).dot) ⟨(hx26 (dU (aD hk21 hg29))).1.1,(hx26 (dU (aD hk21 hg29))).1.2.1⟩ ((gt l i2).dot) ⟨(hx10 hl7).1.1,(hx10 hl7).1.2.1⟩ (Sat.all w) (cK hz31 hg29)))) (wh1 (c0:=(!(!z12))) (g:=(decide (0<(i2:Int)))) rfl rfl rfl rfl rfl (λhg32=>QV.qo (aX rfl (grV hg32))) (wG0 (h:=λhg33=>fx rfl (grV hg33) (lr (c:=(!(!z12))) (g:=(decide (0<(i2:Int)))) (y:=(!z30)) hg33)) (k:=zV pkO (k:=zV moV (k:=wG0 (h:=λhg34=>q_fl 0 bJ) (k:=wG0 (h:=λhg35=>ldaV 0 [ii (gt l i2).dot.s,ii (gt l i2).dot.n] Dz DA (hx:=grV hg35)) (k:=wG0 (h:=λhg36=>moV) (k:=?_))))))))
  obtain⟨z38,hz39,h⟩:=bnd h
  refine wC0 (h:=λhg37=>b3 (aE call148 rfl rfl (cN (grV hg37) (grV hg37))) (λw hw=>rI (Γ:=Gh.all w) ((gt l i2).dot) ⟨(hx10 hl7).1.1,(hx10 hl7).1.2.1⟩ (hl.mono hw.sat.le_all) hlc (Sat.all w) (cK hz39 hg37))) (k:=zV pkO (k:=?_))
  refine Cd ?_
  change WC _ _ _ _ _ _
  refine ciV h (λhb40 h=>?_) (λhb40 h=>?_)
  ·
   refine BZ (aV (k:=BX ?_))
   exact C2 λw hw=>rq_ r h hF hw
  refine C4 (wc_ ?_)
  refine C3 ?_
  refine sV (aw rfl rfl rfl (aA hl7 hl.le)) (k:=mV (k:=?_))
  exact C0 λw hw=>⟨hl7,(),h,slK,(hw.on []),trivial⟩
 have h:=hge5 (ige hb6)
 refine C8 ?_
 change WC _ _ _ _ _ _
 refine BZ (mV (k:=sV (ab rfl Dy) (k:=sV gU (k:=aV (k:=BX ?_)))))
 exact C2 λw hw=>rq_ r h hF hw
theorem i8{Ar_1:Option Addr}{cr_1:Nat}(r_:Rec)(hr_:Rec.fits Γ Ar_1 cr_1 r_)(hs:Sat Γ w0){r:Bool}(h:az r_=some r):CQ Tryz.prog 81 #[.agg (Rec.cs Ar_1 cr_1 r_).toArray] w0 (.bool r):=by
 refine goQ [2] func81 ntmps81 results81 hs λF hF=>?_
 refine BZ ?_
 refine bxV (v:=.agg (Rec.cs Ar_1 cr_1 r_).toArray) λg1=>?_
 refine aV (k:=BX (BZ (sV (q_fl 0 kc) (k:=sV (ldV 0 D1) (k:=sV (cG rfl CU) (k:=sV kG (k:=mV (k:=?_))))))))
 refine vG1 (h:=λhg2=>q_fl 0 kc) (k:=vG1 (h:=λhg3=>ldV 0 D1 (hx:=grV hg3)) (k:=vG1 (h:=λhg4=>cG rfl CU (grV hg4)) (k:=vG1 (h:=λhg5=>gU rfl (grV hg5)) (k:=sV pkA (k:=mV (k:=vG1 (h:=λhg6=>q_fl 1 bG) (k:=vG1 (h:=λhg7=>ldV 0 DB (hx:=grV hg7)) (k:=?_))))))))
 obtain⟨z9,hz10,h⟩:=bnd h
 refine vC1 (h:=λhg8=>b3 (aE call112 rfl rfl (mv (grV hg8))) (λw hw=>sT (Γ:=Gh.all w) (hr_.2.2.mono hw.sat.le_all) hr_.2.1 (Sat.all w) (cK hz10 hg8))) (k:=sV pkA (k:=aV (k:=BX ?_)))
 exact C2 λw hw=>rq_ r h hF hw
abbrev mE(r:Rec×Int)(U:List Rowb)(Γ:Gh)(v:Value):Prop := ∃(A0_1:Option Addr), ∃(c0_1:Nat),v = .tuple #[.agg #[.string r.1.key,.slice A0_1 r.1.vers.length c0_1],.int .i64 r.2]∧U = []∧Rec.fits Γ A0_1 c0_1 r.1∧I64 r.2∧True
theorem md{Ab:Option Addr}{cb:Nat}{b:List UInt8}(hb:Sl ay Γ Ab b)(hbc:b.length≤cb)(hp:Pre [] Γ w0){r:Rec×Int}(h:gG b=some r):Calls Tryz.prog 92 #[.slice Ab b.length cb,.func (.func 93) #[] #[],.func (.func 81) #[] #[]] w0 (Outc Γ [] w0 (mE r)):=by
 refine uL (n:=32) (args:=[.slice Ab b.length cb,.func (.func 93) #[] #[],.func (.func 81) #[] #[]]) func92 rfl ntmps92 rfl ?_
 obtain⟨F,hF⟩:∃F:Fm,F=⟨ids [],w0,Γ⟩:=⟨_,rfl⟩
 refine WX.here (C:=CC F Γ []) ?_ (hF▸hp.start)
 refine WX.seq ?_
 refine C3 ?_
 refine alV Dt λg1=>?_
 refine alV zeroValue28 λg2=>?_
 refine C0 ?_
 change WX _ _ _ _ _ _ _
 refine WX.defer (v:=.func (.func 121) #[] #[(pq g1),(pq g2)]) (d:=⟨.fn (.func 121) #[(pq g1),(pq g2)], #[]⟩) rfl rfl rfl rfl (iD (v:=.func (.func 121) #[] #[(pq g1),(pq g2)]) rfl (by kernel_rfl)) (wH rfl rfl) ?_
 refine WX.last ?_
 change WC _ _ _ _ _ _
 refine BZ (mV (k:=sV (aR (v:=.agg #[.slice Ab b.length cb,ii 0]) rfl (jy rfl) (λw=>by kernel_rfl)) (k:=?_)))
 refine bxV (v:=.agg #[.slice Ab b.length cb,ii 0]) λg3=>?_
 refine aV (k:=BX (BZ (mU (v:=.func (.func 93) #[] #[]) (k:=mV (k:=?_)))))
 obtain⟨row_4,hrow_4,hob_4⟩:∃rw:Rowb,rw=([[(g3,.cells #[.slice Ab b.length cb,ii 0] 221 (0,0))]]:List Rowb).flatten∧aa.ob 221 Γ g3 rw (⟨b,0⟩:aa):=⟨_,rfl,Ab,cb,rfl,hbc,hb,iV,trivial⟩
 refine foR [0] hrow_4 [_,_,_] ?_
 obtain⟨z5,hz6,h⟩:=bnd h
 rcases z5 with _ | o7
 ·
  have h:=gx rfl h
  refine ep (is:=[0]) rfl (gE (caps:=#[]) call93 rfl (by kernel_rfl) (by kernel_rfl)) rfl (λw hp=>kx hob_4 hp hz6) ?_
  intro Γ8 hl9
  change ∀w,CC F Γ8 [[(g2,.cells #[ii 0] 28 (0,0))],[(g1,.cells #[.string ByteArray.empty,.slice none 0 0] 42 (0,0))]] w→_
  obtain⟨z10,hz11,h⟩:=bnd h
  refine qU (rs:=[.cell 6 42,.cell 7 28]) (is:=[1,0]) results92 (pO call121) rfl rfl (λw hp=>iA ByteArray.empty (show (ByteArray.empty:ByteArray).size≤lim by decide) (Sl.nil verT _ none) (CE 0) 0 iV hp hz11) ?_
  rintro Γ12 _ _ hl13 ⟨A17,c18,rfl,rfl,hr16,hc20,hr19,hr21,_⟩
  change WRt _ _ _ (CC F Γ12 [_,_]) _
  unfold WRt
  intro w hw
  cases h
  subst hF
  exact⟨[.agg #[.string z10.1,.slice A17 z10.2.1.length c18],ii z10.2.2],(da (i:=0) (us:=[.string z10.1,.slice A17 z10.2.1.length c18]) hw rfl Dv Du (by kernel_rfl) rfl (t6 (i:=1) hw rfl isAgg28 (by kernel_rfl) rfl db)),aM (is:=[]) (by kernel_rfl) hw rfl ⟨A17,c18,rfl,rfl,⟨hr16,⟨hc20,hr19⟩⟩,hr21,trivial⟩⟩
 have h:=gw rfl h
 refine ecV [0] (gE (caps:=#[]) call93 rfl (by kernel_rfl) (by kernel_rfl)) (λw hp=>kx hob_4 hp hz6) ?_
 rintro Γ22 _ _ hl23 ⟨row26,A28,c29,rfl,rfl,hr27,hr30,_⟩
 refine cwV 15 [_,_,_] (stV 2 (.agg (Rec.cs A28 c29 o7.2).toArray) (Rec.cs A28 c29 o7.2).toArray Du (k:=BX ?_))
 refine Ce (λσ w=>fa o7  = some r∧slots σ [(6,(pq g1)),(7,(pq g2))]∧CC F Γ22 [row26,[(g2,.cells #[ii 0] 28 (0,0))],[(g1,.cells (Rec.cs A28 c29 o7.2).toArray 42 (0,0))]] w∧True) ?_ ?_
 ·
  refine BZ (mV (k:=sV nlV (k:=sV (q_fl 1 iZ) (k:=?_))))
  obtain⟨A0_31,c0_31,hrow_31,ho0_31,ho1_31,ho2_31,-⟩:=id hr27
  refine ufR 0 hrow_31 [_,_,_] ?_
  refine sV (ldV 0 CY) (k:=mV (k:=sV (ab rfl D2) (k:=sV bO (k:=mV (k:=vG0 (h:=λhg32=>au (v:=.func (.func 81) #[] #[]) rfl (by kernel_rfl)) (k:=vG0 (h:=λhg33=>ldaV 2 (Rec.cs A28 c29 o7.2) Dv Du) (k:=?_)))))))
  obtain⟨z35,hz36,h⟩:=bnd h
  refine vC0 (h:=λhg34=>b3 (gE (caps:=#[]) (args:=#[.agg (Rec.cs A28 c29 o7.2).toArray]) call81 rfl (grV hg34) ((congrArg (· ++ #[]) (mv (grV hg34))).trans (by kernel_rfl))) (λw hw=>i8 (Γ:=Gh.all w) o7.2 (Rec.fits_mono hr30 hw.sat.le_all) (Sat.all w) (cK hz36 hg34))) (k:=vG0 (h:=λhg37=>aX rfl (grV hg37)) (k:=sV pkO (k:=BX ?_)))
  refine ciV h (λhb38 h=>?_) (λhb38 h=>?_)
  ·
   refine C3 ?_
   refine sV (cT (v:=.agg #[]) rfl (λw=>by kernel_rfl)) (k:=sV (eD rfl rfl (λw=>mkif Dl w)) (k:=?_))
   refine lI (v:=.iface 219 (.agg #[])) rfl (gz rfl rfl) ?_
   change ∀w,CC F Γ22 [[(g3,.cells #[.slice A0_31 o7.1.b.length c0_31,ii o7.1.at_] 221 (0,0))],[(g2,.cells #[ii 0] 28 (0,0))],[(g1,.cells (Rec.cs A28 c29 o7.2).toArray 42 (0,0))]] w→_
   obtain⟨z41,hz42,h⟩:=bnd h
   refine qU (rs:=[.cell 6 42,.cell 7 28]) (is:=[2,1]) results92 (pO call121) rfl rfl (λw hp=>iA o7.2.key hr30.1 hr30.2.2 hr30.2.1 0 iV hp hz42) ?_
   rintro Γ43 _ _ hl44 ⟨A48,c49,rfl,rfl,hr47,hc51,hr50,hr52,_⟩
   change WRt _ _ _ (CC F Γ43 [_,_,_]) _
   unfold WRt
   intro w hw
   cases h
   subst hF
   exact⟨[.agg #[.string z41.1,.slice A48 z41.2.1.length c49],ii z41.2.2],(da (i:=0) (us:=[.string z41.1,.slice A48 z41.2.1.length c49]) hw rfl Dv Du (by kernel_rfl) rfl (t6 (i:=1) hw rfl isAgg28 (by kernel_rfl) rfl db)),aM (is:=[]) (by kernel_rfl) hw rfl ⟨A48,c49,rfl,rfl,⟨hr47,⟨hc51,hr50⟩⟩,hr52,trivial⟩⟩
  refine C4 ?_
  intro w hw
  have hw:=hw.fold (is:=[0]) rfl hrow_31
  exact⟨h,slK,hw,trivial⟩
 rintro σ w ⟨h,hsl,hw,-⟩
 refine slV hsl hw [_,_,_] ?_; clear hw hsl
 refine BZ (sV (ldaV 2 (Rec.cs A28 c29 o7.2) Dv Du) (k:=stV 2 (.agg (Rec.cs A28 c29 o7.2).toArray) (Rec.cs A28 c29 o7.2).toArray Du (k:=stV 1 (ii 0) #[ii 0] sizeOf28 (k:=BX ?_))))
 refine C2 ?_
 refine xw (rs:=[.cell 6 42,.cell 7 28]) results92 (pO call121) (yR ((pq g1)) ((pq g2))) ?_
 unfold WRt
 intro w hw
 cases h
 subst hF
 exact⟨[.agg (Rec.cs A28 c29 o7.2).toArray,ii 0],(da (i:=2) (us:=(Rec.cs A28 c29 o7.2)) hw rfl Dv Du (by kernel_rfl) rfl (t6 (i:=1) hw rfl isAgg28 (by kernel_rfl) rfl db)),aM (is:=[]) (by kernel_rfl) hw rfl ⟨A28,c29,rfl,rfl,hr30,iV,trivial⟩⟩
abbrev uV(r:Rec×Int)(U:List Rowb)(Γ:Gh)(v:Value):Prop := ∃(A0_1:Option Addr), ∃(c0_1:Nat),v = .tuple #[.agg #[.string r.1.key,.slice A0_1 r.1.vers.length c0_1],.int .i64 r.2]∧U = []∧Rec.fits Γ A0_1 c0_1 r.1∧I64 r.2∧True
theorem lA{Ab:Option Addr}{cb:Nat}{b:List UInt8}(hb:Sl ay Γ Ab b)(hbc:b.length≤cb)(hp:Pre [] Γ w0){r:Rec×Int}(h:kg b=some r):Calls Tryz.prog 65 #[.slice Ab b.length cb] w0 (Outc Γ [] w0 (uV r)):=by
 refine dl (N:=8) (rs:=[.cell 2 42,.tmp 3]) (args:=[.slice Ab b.length cb]) func65 rfl ntmps65 results65 rfl ?_
 obtain⟨F,hF⟩:∃F:Fm,F=⟨ids [],w0,Γ⟩:=⟨_,rfl⟩
 refine Cf (C:=CC F Γ []) ?_ (hF▸hp.start)
 refine BZ ?_
 refine alV Dt λg1=>?_
 refine aV (k:=BX (BZ (mV (k:=?_))))
 obtain⟨z2,hz3,h⟩:=bnd h
 refine ecV [] (caV call92) (λw hp=>md hb hbc hp hz3) ?_
 rintro Γ4 _ _ hl5 ⟨A8,c9,rfl,rfl,hr10,hr11,_⟩
 refine cwV 5 [_] (sV exV (k:=sV exV (k:=stV 0 (.agg (Rec.cs A8 c9 z2.1).toArray) (Rec.cs A8 c9 z2.1).toArray Du (k:=aV (k:=BX ?_)))))
 refine C2 ?_
 intro w hw
 cases h
 subst hF
 exact⟨[.agg (Rec.cs A8 c9 z2.1).toArray,ii z2.2],(da (i:=0) (us:=(Rec.cs A8 c9 z2.1)) hw rfl Dv Du (by kernel_rfl) rfl (ie (by kernel_rfl) db)),aM (is:=[]) (by kernel_rfl) hw rfl ⟨A8,c9,rfl,rfl,hr10,hr11,trivial⟩⟩
abbrev nK(gr_:Nat)(er_:Nat)(r:am×Rec)(U:List Rowb)(Γ:Gh)(v:Value):Prop := ∃(rowr_':Rowb), ∃(A0_1:Option Addr), ∃(c0_1:Nat),v = .agg #[.string r.2.key,.slice A0_1 r.2.vers.length c0_1]∧U = [rowr_']∧am.ob er_ Γ gr_ rowr_' r.1∧Rec.fits Γ A0_1 c0_1 r.2∧True
theorem jR{gr_ er_:Nat}{rowr_:Rowb}{r_:am}(hr_:am.ob er_ Γ gr_ rowr_ r_)(hp:Pre [rowr_] Γ w0){r:am×Rec}(h:dV r_=some r):Calls Tryz.prog 44 #[(pq gr_)] w0 (Outc Γ [rowr_] w0 (nK gr_ er_ r)):=by
 refine dl (N:=44) (rs:=[.cell 2 42]) (args:=[(pq gr_)]) func44 rfl ntmps44 results44 rfl ?_
 obtain⟨F,hF⟩:∃F:Fm,F=⟨ids [rowr_],w0,Γ⟩:=⟨_,rfl⟩
 refine Cf (C:=CC F Γ [rowr_]) ?_ (hF▸hp.start)
 refine BZ ?_
 refine alV Dt λg1=>?_
 refine BX (C1 ?_)
 obtain⟨A0_2,c0_2,hrow_2,ho0_2,ho1_2,ho2_2,-⟩:=id hr_
 refine ufC 1 hrow_2 [_,_] ?_
 refine leV λh03=>?_
 refine e7 (CC F Γ [[(gr_,.cells #[.slice A0_2 r_.b.length c0_2,ii r_.at_,.bool r_.bad] er_ (0,0))],[(g1,.cells #[.string ByteArray.empty,.slice none 0 0] 42 (0,0))]]) (bo_ [0,0] gR h03) λk=>?_
 change WH _ _ _ _ (CC F Γ [_,_]) _ 22 _ _
 refine hV 0 k (q:=moV) (k:=hV 1 k (q:=nlV) (k:=hV 2 k (q:=q_fl 0 jN) (k:=hV 3 k (q:=ldV 0 Da) (k:=hV 4 k (q:=moV) (k:=hV 5 k (q:=nlV) (k:=hV 6 k (q:=q_fl 1 fK) (k:=hV 7 k (q:=ldV 0 CY) (k:=?_))))))))
 refine hV 8 k (q:=moV) (k:=hV 9 k (q:=nlV) (k:=hV 10 k (q:=q_fl 0 jN) (k:=hV 11 k (q:=ldV 0 Da) (k:=hV 12 k (q:=ab rfl D2) (k:=hV 13 k (q:=xS) (k:=?_))))))
 obtain⟨hk4,h⟩:=ag h
 refine hV 14 k (q:=lx (c:=c0_2) (lo:=(min r_.at_ (r_.b.length:Int)).toNat) (xs:=r_.b) D2 D5 rfl rfl (jJ rfl hk4) (dD hk4)) (k:=?_)
 obtain⟨z5,hz6,h⟩:=bnd h
 refine Cj (l:=[15,19]) (by kernel_rfl) (by simp) ?_
 intro i hi; simp only [Ct,List.not_mem_nil,or_false] at hi
 rcases hi with rfl | rfl
 ·
  refine⟨_,rfl,?_⟩
  refine ecV [] (caV call65) (λw hp=>lA (ho1_2.cut_from (c:=c0_2) (lo:=(min r_.at_ (r_.b.length:Int)).toNat) (dD hk4) ho0_2) (w9 ho0_2 ((min r_.at_ (r_.b.length:Int)).toNat)) hp hz6) ?_
  rintro Γ7 _ _ hl8 ⟨A11,c12,rfl,rfl,hr13,hr14,_⟩
  refine cwV 21 [_,_] ?_
  refine C0 (nxV (bo_ [0,0] hl8 h03) λk=>?_)
  refine hV 16 k (q:=moV) (k:=hV 17 k (q:=exV) (k:=hV 18 k (q:=exV) (k:=wl_ 19 rfl ?_)))
  refine alV Dt λg15=>?_
  refine C0 (nxV (bo_ [1,1] hl8 h03) λk=>?_)
  refine wl_ 20 rfl (stV 0 (.agg (Rec.cs A11 c12 z5.1).toArray) (Rec.cs A11 c12 z5.1).toArray Du (k:=?_))
  refine C0 (nxV (bo_ [1,1] hl8 h03) λk=>?_)
  refine hV 21 k (q:=aoV) (k:=?_)
  refine Ca (by kernel_rfl) ?_
  change WC _ _ _ _ _ _
  refine BZ (mV (k:=mV (k:=sV nlV (k:=sV (q_fl 2 eQ) (k:=sV (ldV 1 Dj) (k:=mV (k:=vG0 (h:=λhg16=>moV) (k:=?_))))))))
  refine vG0 (h:=λhg17=>bO rfl (grV hg17)) (k:=sV pkO (k:=sV nlV (k:=sV (q_fl 2 eQ) (k:=stV 1 (.bool (r_.bad||(z5.2 != 0))) #[.slice A0_2 r_.b.length c0_2,ii r_.at_,.bool (r_.bad||(z5.2 != 0))] sizeOf4 (k:=BX (BZ (mV (k:=?_))))))))
  refine mV (k:=sV nlV (k:=sV (q_fl 0 jN) (k:=sV (ldV 1 Da) (k:=sV (ab rfl D2) (k:=sV nlV (k:=sV (q_fl 1 fK) (k:=stV 1 (ii (r_.b.length:Int)) #[.slice A0_2 r_.b.length c0_2,ii (r_.b.length:Int),.bool (r_.bad||(z5.2 != 0))] CX (k:=?_))))))))
  refine BX (BZ (sV (ldaV 0 (Rec.cs A11 c12 z5.1) Dv Du) (k:=stV 2 (.agg (Rec.cs A11 c12 z5.1).toArray) (Rec.cs A11 c12 z5.1).toArray Du (k:=BX ?_))))
  refine C2 ?_
  intro w hw
  obtain⟨row_18,hrow_18,hob_18⟩:∃rw:Rowb,rw=([[(gr_,.cells #[.slice A0_2 r_.b.length c0_2,ii (r_.b.length:Int),.bool (r_.bad||(z5.2 != 0))] er_ (0,0))]]:List Rowb).flatten∧am.ob er_ Γ7 gr_ rw (⟨r_.b,(r_.b.length:Int),(r_.bad||(z5.2 != 0))⟩:am):=⟨_,rfl,A0_2,c0_2,rfl,ho0_2,(ho1_2.mono hl8),(jT (ho1_2.mono hl8).le),trivial⟩
  have hw:=hw.fold (is:=[1]) rfl hrow_18
  cases h
  subst hF
  exact⟨[.agg (Rec.cs A11 c12 z5.1).toArray],(da (i:=2) (us:=(Rec.cs A11 c12 z5.1)) hw rfl Dv Du (by kernel_rfl) rfl db),aM (is:=[0]) (by kernel_rfl) hw rfl ⟨row_18,A11,c12,rfl,rfl,hob_18,hr13,trivial⟩⟩
 refine⟨_,rfl,?_⟩
 refine alV Dt λg7=>?_
 refine C0 (nxV (bo_ [1,1] gR h03) λk=>?_)
 refine wl_ 15 rfl ?_
 refine ecV [] (caV call65) (λw hp=>lA (ho1_2.cut_from (c:=c0_2) (lo:=(min r_.at_ (r_.b.length:Int)).toNat) (dD hk4) ho0_2) (w9 ho0_2 ((min r_.at_ (r_.b.length:Int)).toNat)) hp hz6) ?_
 rintro Γ8 _ _ hl9 ⟨A12,c13,rfl,rfl,hr14,hr15,_⟩
 refine cwV 21 [_,_,_] ?_
 refine C0 (nxV (bo_ [1,1] hl9 h03) λk=>?_)
 refine hV 16 k (q:=moV) (k:=hV 17 k (q:=exV) (k:=hV 18 k (q:=exV) (k:=wl_ 20 rfl (stV 0 (.agg (Rec.cs A12 c13 z5.1).toArray) (Rec.cs A12 c13 z5.1).toArray Du (k:=?_)))))
 refine C0 (nxV (bo_ [1,1] hl9 h03) λk=>?_)
 refine hV 21 k (q:=aoV) (k:=?_)
 refine Ca (by kernel_rfl) ?_
 change WC _ _ _ _ _ _
 refine BZ (mV (k:=mV (k:=sV nlV (k:=sV (q_fl 2 eQ) (k:=sV (ldV 1 Dj) (k:=mV (k:=vG0 (h:=λhg16=>moV) (k:=?_))))))))
 refine vG0 (h:=λhg17=>bO rfl (grV hg17)) (k:=sV pkO (k:=sV nlV (k:=sV (q_fl 2 eQ) (k:=stV 1 (.bool (r_.bad||(z5.2 != 0))) #[.slice A0_2 r_.b.length c0_2,ii r_.at_,.bool (r_.bad||(z5.2 != 0))] sizeOf4 (k:=BX (BZ (mV (k:=?_))))))))
 refine mV (k:=sV nlV (k:=sV (q_fl 0 jN) (k:=sV (ldV 1 Da) (k:=sV (ab rfl D2) (k:=sV nlV (k:=sV (q_fl 1 fK) (k:=stV 1 (ii (r_.b.length:Int)) #[.slice A0_2 r_.b.length c0_2,ii (r_.b.length:Int),.bool (r_.bad||(z5.2 != 0))] CX (k:=?_))))))))
 refine BX (BZ (sV (ldaV 0 (Rec.cs A12 c13 z5.1) Dv Du) (k:=stV 2 (.agg (Rec.cs A12 c13 z5.1).toArray) (Rec.cs A12 c13 z5.1).toArray Du (k:=BX ?_))))
 refine C2 ?_
 intro w hw
 obtain⟨row_18,hrow_18,hob_18⟩:∃rw:Rowb,rw=([[(gr_,.cells #[.slice A0_2 r_.b.length c0_2,ii (r_.b.length:Int),.bool (r_.bad||(z5.2 != 0))] er_ (0,0))]]:List Rowb).flatten∧am.ob er_ Γ8 gr_ rw (⟨r_.b,(r_.b.length:Int),(r_.bad||(z5.2 != 0))⟩:am):=⟨_,rfl,A0_2,c0_2,rfl,ho0_2,(ho1_2.mono hl9),(jT (ho1_2.mono hl9).le),trivial⟩
 have hw:=hw.fold (is:=[1]) rfl hrow_18
 cases h
 subst hF
 exact⟨[.agg (Rec.cs A12 c13 z5.1).toArray],(da (i:=2) (us:=(Rec.cs A12 c13 z5.1)) hw rfl Dv Du (by kernel_rfl) rfl db),aM (is:=[0]) (by kernel_rfl) hw rfl ⟨row_18,A12,c13,rfl,rfl,hob_18,hr14,trivial⟩⟩
abbrev px(gr_:Nat)(er_:Nat)(r:am×(List Int))(U:List Rowb)(Γ:Gh)(v:Value):Prop := ∃(rowr_':Rowb), ∃(A0:Option Addr), ∃(c0:Nat), ∃(row0:Rowb),v = .slice A0 r.2.length c0∧U = [rowr_',row0]∧am.ob er_ Γ gr_ rowr_' r.1∧Own intT Γ 3 row0 A0 c0 r.2∧True
theorem pK{gr_ er_:Nat}{rowr_:Rowb}{r_:am}(hr_:am.ob er_ Γ gr_ rowr_ r_)(hp:Pre [rowr_] Γ w0){r:am×(List Int)}(h:gN r_=some r):Calls Tryz.prog 45 #[(pq gr_)] w0 (Outc Γ [rowr_] w0 (px gr_ er_ r)):=by
 refine goV [2] func45 ntmps45 results45 hp λF hF=>?_
 refine BZ (aV (k:=BX (BZ (mV (k:=?_)))))
 obtain⟨z1,hz2,h⟩:=bnd h
 refine ecV [0] (caV call43) (λw hp=>cR hr_ hp hz2) ?_
 rintro Γ3 _ _ hl4 ⟨row7,rfl,rfl,hr8,hr9,_⟩
 refine cwV 6 [_] (aV (k:=BX (C1 (C1 ?_))))
 obtain⟨A0_10,c0_10,hrow_10,ho0_10,ho1_10,ho2_10,-⟩:=id hr8
 refine ufC 0 hrow_10 [_] ?_
 refine drV ?_
 refine zV moV (k:=zV moV (k:=zV nlV (k:=zV (q_fl 0 jN) (k:=zV (ldV 0 Da) (k:=zV (ab rfl D2) (k:=zV moV (k:=zV nlV (k:=?_))))))))
 refine zV (q_fl 1 fK) (k:=zV (ldV 0 CY) (k:=zV iQ (k:=zV cp (k:=?_))))
 refine Cd ?_
 change WC _ _ _ _ _ _
 refine ciV h (λhb11 h=>?_) (λhb11 h=>?_)
 ·
  refine BZ (mV (k:=sV nlV (k:=sV (q_fl 2 eQ) (k:=stV 0 (.bool true) #[.slice A0_10 z1.1.b.length c0_10,ii z1.1.at_,.bool true] sizeOf4 (k:=BX (BZ (aV (k:=?_))))))))
  refine BX ?_
  refine C2 ?_
  intro w hw
  obtain⟨row_12,hrow_12,hob_12⟩:∃rw:Rowb,rw=([[(gr_,.cells #[.slice A0_10 z1.1.b.length c0_10,ii z1.1.at_,.bool true] er_ (0,0))]]:List Rowb).flatten∧am.ob er_ Γ3 gr_ rw (⟨z1.1.b,z1.1.at_,true⟩:am):=⟨_,rfl,A0_10,c0_10,rfl,ho0_10,ho1_10,ho2_10,trivial⟩
  have hw:=hw.fold (is:=[0]) rfl hrow_12
  have hw:=hw.pad
  cases h
  subst hF
  exact aM (is:=[1,0]) (by kernel_rfl) hw rfl ⟨row_12,none,0,[],rfl,rfl,hob_12,(Own.nil intT _ 3),trivial⟩
 refine C4 (wc_ (BZ (aV (k:=BX (C1 (BZ (mV (k:=?_))))))))
 refine mV (k:=BX (C5 ?_))
 refine foC [0] hrow_10 [_] ?_
 refine Ci h (λ(i25:Nat) (s:(List Int)×am) σ w=>match s with | (out_16,o21) => ∃(Γ14:Gh), ∃(A17:Option Addr), ∃(c18:Nat), ∃(row19:Rowb), ∃(row22:Rowb),slots σ [(0,(pq gr_)),(4,.slice A17 out_16.length c18),(22,ii z1.2),(23,ii (i25:Int))]∧CC F Γ14 [row19,row22] w∧Gh.le Γ3 Γ14∧Own intT Γ14 3 row19 A17 c18 out_16∧am.ob er_ Γ14 gr_ row22 o21∧True) ?_ ?_
 ·
  intro w hw
  have hw:=hw.pad
  exact⟨Γ3,none,0,[],row7,slK,hw,gR,(Own.nil intT _ 3),hr8,trivial⟩
 rintro f24 i25 ⟨out_16,o21⟩ σ w hi26 hlt27 hge28 ⟨Γ14,A17,c18,row19,row22,hsl,hw,hl15,ho20,ho23,-⟩
 refine slV hsl hw [_,_] ?_; clear hw hsl
 refine BZ (sV aQ (k:=BX (C1 ?_)))
 refine coV (λhb29=>?_) (λhb29=>?_)
 ·
  have hl30:=ilti hb29
  have h:=hlt27 hl30
  refine C4 (wc_ (C1 (C5 ?_)))
  refine C3 ?_
  refine mV (k:=mV (k:=?_))
  obtain⟨z31,hz32,h⟩:=bnd h
  refine ecV [1] (caV call43) (λw hp=>cR ho23 hp hz32) ?_
  rintro Γ33 _ _ hl34 ⟨row37,rfl,rfl,hr38,hr39,_⟩
  refine cwV 27 [_,_] ?_
  refine bsV #[ii z31.2] 3 λg40=>?_
  obtain⟨hk41,h⟩:=ag h
  refine apV 2 [z31.2] lD (ho20.mono hl34) (Cl hk41) (λw hw=>cM (i:=0) rfl (by exact⟨rfl,hr39⟩) hw) ?_
  intro row42 A43 c44 ho45
  refine aV (k:=?_)
  refine C0 ?_
  change WC _ _ _ _ _ _
  refine C3 ?_
  refine sV (aw rfl rfl rfl (hO hl30 hr9)) (k:=mV (k:=?_))
  exact C0 λw hw=>⟨hl30,((out_16++[z31.2]),z31.1),h,Γ33,A43,c44,row42,row37,slK,(hw.on [2,1]),(hl15.trans hl34),ho45,hr38,trivial⟩
 have h:=hge28 (igei hb29)
 refine C8 ?_
 change WC _ _ _ _ _ _
 refine BZ (mV (k:=aV (k:=BX ?_)))
 exact C2 λw hw=>re_ r [1,0] h hF hw ⟨row22,A17,c18,row19,rfl,rfl,ho23,ho20,trivial⟩
abbrev tm(r:ak×Bool)(U:List Rowb)(Γ:Gh)(v:Value):Prop:=(r.1 = .nil∧(v = .tuple #[.nilIface,.bool r.2]∧U = []∧True))∨(∃x_:ar,r.1 = .queue_issue x_∧(∃(A0_1:Option Addr), ∃(c0_1:Nat),v = .tuple #[.iface 83 (.agg #[.string x_.r.key,.slice A0_1 x_.r.vers.length c0_1]),.bool r.2]∧U = []∧ar.fits Γ A0_1 c0_1 x_∧True))∨(∃x_:ae,r.1 = .queue_did x_∧(∃(A0_0:Option Addr), ∃(c0_0:Nat), ∃(A0_2:Option Addr), ∃(c0_2:Nat),v = .tuple #[.iface 86 (.agg #[.slice A0_0 x_.route.length c0_0,.string x_.r.key,.slice A0_2 x_.r.vers.length c0_2]),.bool r.2]∧U = []∧ae.fits Γ A0_0 c0_0 A0_2 c0_2 x_∧True))∨(∃x_:al,r.1 = .queue_ack x_∧(v = .tuple #[.iface 95 (.agg #[.int .i64 x_.sink,.int .i64 x_.seq]),.bool r.2]∧U = []∧al.fits Γ  x_∧True))∨(∃x_:ax,r.1 = .queue_clear x_∧(v = .tuple #[.iface 97 (.agg #[.int .i64 x_.sink]),.bool r.2]∧U = []∧ax.fits Γ  x_∧True))
theorem dC{Ab:Option Addr}{cb:Nat}{b:List UInt8}(hb:Sl ay Γ Ab b)(hbc:b.length≤cb)(hp:Pre [] Γ w0){r:ak×Bool}(h:bu b=some r):Calls Tryz.prog 23 #[.slice Ab b.length cb] w0 (Outc Γ [] w0 (tm r)):=by
 refine goV [2,3] func23 ntmps23 results23 hp λF hF=>?_
 refine BZ (aU (v:=.nilIface) (k:=aV (k:=BX (BZ (mV (k:=sV (aR (v:=.agg #[.slice Ab b.length cb,ii 0,.bool false]) rfl (jy rfl) (λw=>by kernel_rfl)) (k:=?_)))))))
 refine bxV (v:=.agg #[.slice Ab b.length cb,ii 0,.bool false]) λg1=>?_
 refine aV (k:=BX (BZ (aU (v:=.nilIface) (k:=BX (C1 (BZ (mV (k:=?_))))))))
 obtain⟨row_2,hrow_2,hob_2⟩:∃rw:Rowb,rw=([[(g1,.cells #[.slice Ab b.length cb,ii 0,.bool false] 113 (0,0))]]:List Rowb).flatten∧am.ob 113 Γ g1 rw (⟨b,0,false⟩:am):=⟨_,rfl,Ab,cb,rfl,hbc,hb,iV,trivial⟩
 refine foR [0] hrow_2 [_] ?_
 obtain⟨z3,hz4,h⟩:=bnd h
 refine ecV [0] (caV call43) (λw hp=>cR hob_2 hp hz4) ?_
 rintro Γ5 _ _ hl6 ⟨row9,rfl,rfl,hr10,hr11,_⟩
 refine cwV 13 [_] (BX (C5 (BZ (sV bD (k:=aV (k:=BX ?_))))))
 refine ciV h (λhb12 h=>?_) (λhb12 h=>?_)
 ·
  refine C3 ?_
  refine mV (k:=?_)
  obtain⟨z13,hz14,h⟩:=bnd h
  refine ecV [0] (caV call44) (λw hp=>jR hr10 hp hz14) ?_
  rintro Γ15 _ _ hl16 ⟨row19,A21,c22,rfl,rfl,hr20,hr23,_⟩
  refine cwV 17 [_] (sV (aR (v:=.agg (Rec.cs A21 c22 z13.2).toArray) rfl (jy rfl) (λw=>by kernel_rfl)) (k:=sV (eD rfl rfl (λw=>mkif DC w)) (k:=aU (v:=.iface 83 (.agg (Rec.cs A21 c22 z13.2).toArray)) (k:=?_))))
  refine C0 ?_
  change WC _ _ _ _ _ _
  refine C1 ?_
  obtain⟨A0_24,c0_24,hrow_24,ho0_24,ho1_24,ho2_24,-⟩:=id hr20
  refine ufC 0 hrow_24 [_] ?_
  refine drV ?_
  refine zV (au (v:=.iface 83 (.agg (Rec.cs A21 c22 z13.2).toArray)) rfl (by kernel_rfl)) (k:=zV moV (k:=zV nlV (k:=zV (q_fl 2 eQ) (k:=zV (ldV 0 Dj) (k:=zV aX (k:=zV moV (k:=wG1 (h:=λhg25=>moV) (k:=?_))))))))
  refine wG1 (h:=λhg26=>nlV (hv:=grV hg26)) (k:=wG1 (h:=λhg27=>q_fl 1 fK rfl (grV hg27)) (k:=wG1 (h:=λhg28=>ldV 0 CY (hx:=grV hg28)) (k:=wG1 (h:=λhg29=>moV) (k:=wG1 (h:=λhg30=>ab rfl D2 (grV hg30)) (k:=wG1 (h:=λhg31=>bD rfl (grV hg31) (grV hg31)) (k:=zV pkA (k:=zV (bV (v:=.iface 83 (.agg (Rec.cs A21 c22 z13.2).toArray)) rfl (by kernel_rfl)) (k:=?_))))))))
  refine zV aoV (k:=?_)
  refine Cd ?_
  change WC _ _ _ _ _ _
  refine C2 ?_
  intro w hw
  cases h
  subst hF
  exact aM (is:=[]) (by kernel_rfl) hw rfl (.inr (.inl ⟨_,rfl,A21,c22,rfl,rfl,⟨hr23.1,⟨hr23.2.1,hr23.2.2⟩⟩,trivial⟩))
 refine BZ (sV bD (k:=aV (k:=BX ?_)))
 refine ciV h (λhb32 h=>?_) (λhb32 h=>?_)
 ·
  refine BZ (mV (k:=?_))
  obtain⟨z33,hz34,h⟩:=bnd h
  refine ecV [0] (caV call45) (λw hp=>pK hr10 hp hz34) ?_
  rintro Γ35 _ _ hl36 ⟨row39,A41,c42,row43,rfl,rfl,hr40,hr44,_⟩
  refine cwV 23 [_,_] (aV (k:=BX ?_))
  refine C3 ?_
  refine mV (k:=mV (k:=?_))
  obtain⟨z45,hz46,h⟩:=bnd h
  refine ecV [0] (caV call44) (λw hp=>jR hr40 hp hz46) ?_
  rintro Γ47 _ _ hl48 ⟨row51,A53,c54,rfl,rfl,hr52,hr55,_⟩
  refine cwV 26 [_,_] (sV (aR (v:=.agg #[.slice A41 z33.2.length c42,.string z45.2.key,.slice A53 z45.2.vers.length c54]) rfl (ib rfl rfl) (λw=>by kernel_rfl)) (k:=sV (eD rfl rfl (λw=>mkif DD w)) (k:=aU (v:=.iface 86 (.agg #[.slice A41 z33.2.length c42,.string z45.2.key,.slice A53 z45.2.vers.length c54])) (k:=?_))))
  refine C0 ?_
  change WC _ _ _ _ _ _
  refine C1 ?_
  obtain⟨A0_56,c0_56,hrow_56,ho0_56,ho1_56,ho2_56,-⟩:=id hr52
  refine ufC 0 hrow_56 [_,_] ?_
  refine drV ?_
  refine zV (au (v:=.iface 86 (.agg #[.slice A41 z33.2.length c42,.string z45.2.key,.slice A53 z45.2.vers.length c54])) rfl (by kernel_rfl)) (k:=zV moV (k:=zV nlV (k:=zV (q_fl 2 eQ) (k:=zV (ldV 0 Dj) (k:=zV aX (k:=zV moV (k:=wG1 (h:=λhg57=>moV) (k:=?_))))))))
  refine wG1 (h:=λhg58=>nlV (hv:=grV hg58)) (k:=wG1 (h:=λhg59=>q_fl 1 fK rfl (grV hg59)) (k:=wG1 (h:=λhg60=>ldV 0 CY (hx:=grV hg60)) (k:=wG1 (h:=λhg61=>moV) (k:=wG1 (h:=λhg62=>ab rfl D2 (grV hg62)) (k:=wG1 (h:=λhg63=>bD rfl (grV hg63) (grV hg63)) (k:=zV pkA (k:=zV (bV (v:=.iface 86 (.agg #[.slice A41 z33.2.length c42,.string z45.2.key,.slice A53 z45.2.vers.length c54])) rfl (by kernel_rfl)) (k:=?_))))))))
  refine zV aoV (k:=?_)
  refine Cd ?_
  change WC _ _ _ _ _ _
  refine C2 ?_
  intro w hw
  have hc68:=(hr44.mono hl48).capz
  obtain⟨Γ64,hw,hl65,hr66⟩:=hw.seal (i:=1) rfl; have hs67:=(hr44.mono hl48).sl hl65 hr66
  cases h
  subst hF
  exact aM (is:=[]) (by kernel_rfl) hw rfl (.inr (.inr (.inl ⟨_,rfl,A41,c42,A53,c54,rfl,rfl,⟨⟨hc68,hs67⟩,hr55.1,⟨hr55.2.1,(hr55.2.2.mono hl65)⟩⟩,trivial⟩)))
 refine BZ (sV bD (k:=aV (k:=BX ?_)))
 refine ciV h (λhb69 h=>?_) (λhb69 h=>?_)
 ·
  cases h
 refine BZ (sV bD (k:=aV (k:=BX ?_)))
 refine ciV h (λhb70 h=>?_) (λhb70 h=>?_)
 ·
  refine BZ (mV (k:=?_))
  obtain⟨z71,hz72,h⟩:=bnd h
  refine ecV [0] (caV call43) (λw hp=>cR hr10 hp hz72) ?_
  rintro Γ73 _ _ hl74 ⟨row77,rfl,rfl,hr78,hr79,_⟩
  refine cwV 38 [_] (aV (k:=BX ?_))
  refine C3 ?_
  refine mV (k:=mV (k:=?_))
  obtain⟨z80,hz81,h⟩:=bnd h
  refine ecV [0] (caV call43) (λw hp=>cR hr78 hp hz81) ?_
  rintro Γ82 _ _ hl83 ⟨row86,rfl,rfl,hr87,hr88,_⟩
  refine cwV 41 [_] (sV (aR (v:=.agg #[ii z71.2,ii z80.2]) rfl (ib rfl rfl) (λw=>by kernel_rfl)) (k:=sV (eD rfl rfl (λw=>mkif DE w)) (k:=aU (v:=.iface 95 (.agg #[ii z71.2,ii z80.2])) (k:=?_))))
  refine C0 ?_
  change WC _ _ _ _ _ _
  refine C1 ?_
  obtain⟨A0_89,c0_89,hrow_89,ho0_89,ho1_89,ho2_89,-⟩:=id hr87
  refine ufC 0 hrow_89 [_] ?_
  refine drV ?_
  refine zV (au (v:=.iface 95 (.agg #[ii z71.2,ii z80.2])) rfl (by kernel_rfl)) (k:=zV moV (k:=zV nlV (k:=zV (q_fl 2 eQ) (k:=zV (ldV 0 Dj) (k:=zV aX (k:=zV moV (k:=wG1 (h:=λhg90=>moV) (k:=?_))))))))
  refine wG1 (h:=λhg91=>nlV (hv:=grV hg91)) (k:=wG1 (h:=λhg92=>q_fl 1 fK rfl (grV hg92)) (k:=wG1 (h:=λhg93=>ldV 0 CY (hx:=grV hg93)) (k:=wG1 (h:=λhg94=>moV) (k:=wG1 (h:=λhg95=>ab rfl D2 (grV hg95)) (k:=wG1 (h:=λhg96=>bD rfl (grV hg96) (grV hg96)) (k:=zV pkA (k:=zV (bV (v:=.iface 95 (.agg #[ii z71.2,ii z80.2])) rfl (by kernel_rfl)) (k:=?_))))))))
  refine zV aoV (k:=?_)
  refine Cd ?_
  change WC _ _ _ _ _ _
  refine C2 ?_
  intro w hw
  cases h
  subst hF
  exact aM (is:=[]) (by kernel_rfl) hw rfl (.inr (.inr (.inr (.inl ⟨_,rfl,rfl,rfl,⟨hr79,hr88⟩,trivial⟩))))
 refine BZ (sV bD (k:=aV (k:=BX ?_)))
 refine ciV h (λhb97 h=>?_) (λhb97 h=>?_)
 ·
  refine C3 ?_
  refine mV (k:=?_)
  obtain⟨z98,hz99,h⟩:=bnd h
  refine ecV [0] (caV call43) (λw hp=>cR hr10 hp hz99) ?_
  rintro Γ100 _ _ hl101 ⟨row104,rfl,rfl,hr105,hr106,_⟩
  refine cwV 47 [_] (sV (aR (v:=.agg #[ii z98.2]) rfl (jy rfl) (λw=>by kernel_rfl)) (k:=sV (eD rfl rfl (λw=>mkif DF w)) (k:=aU (v:=.iface 97 (.agg #[ii z98.2])) (k:=?_))))
  refine C0 ?_
  change WC _ _ _ _ _ _
  refine C1 ?_
  obtain⟨A0_107,c0_107,hrow_107,ho0_107,ho1_107,ho2_107,-⟩:=id hr105
  refine ufC 0 hrow_107 [_] ?_
  refine drV ?_
  refine zV (au (v:=.iface 97 (.agg #[ii z98.2])) rfl (by kernel_rfl)) (k:=zV moV (k:=zV nlV (k:=zV (q_fl 2 eQ) (k:=zV (ldV 0 Dj) (k:=zV aX (k:=zV moV (k:=wG1 (h:=λhg108=>moV) (k:=?_))))))))
  refine wG1 (h:=λhg109=>nlV (hv:=grV hg109)) (k:=wG1 (h:=λhg110=>q_fl 1 fK rfl (grV hg110)) (k:=wG1 (h:=λhg111=>ldV 0 CY (hx:=grV hg111)) (k:=wG1 (h:=λhg112=>moV) (k:=wG1 (h:=λhg113=>ab rfl D2 (grV hg113)) (k:=wG1 (h:=λhg114=>bD rfl (grV hg114) (grV hg114)) (k:=zV pkA (k:=zV (bV (v:=.iface 97 (.agg #[ii z98.2])) rfl (by kernel_rfl)) (k:=?_))))))))
  refine zV aoV (k:=?_)
  refine Cd ?_
  change WC _ _ _ _ _ _
  refine C2 ?_
  intro w hw
  cases h
  subst hF
  exact aM (is:=[]) (by kernel_rfl) hw rfl (.inr (.inr (.inr (.inr ⟨_,rfl,rfl,rfl,hr106,trivial⟩))))
 refine BZ (sV bD (k:=aV (k:=BX ?_)))
 refine ciV h (λhb115 h=>?_) (λhb115 h=>?_)
 ·
  cases h
 refine BZ (sV bD (k:=aV (k:=BX ?_)))
 refine ciV h (λhb116 h=>?_) (λhb116 h=>?_)
 ·
  cases h
 refine BZ (sV bD (k:=aV (k:=BX ?_)))
 refine ciV h (λhb117 h=>?_) (λhb117 h=>?_)
 ·
  cases h
 refine BZ (sV bD (k:=aV (k:=BX ?_)))
 refine ciV h (λhb118 h=>?_) (λhb118 h=>?_)
 ·
  cases h
 refine BZ (aU (v:=.nilIface) (k:=aV (k:=BX ?_)))
 refine C2 ?_
 intro w hw
 cases h
 subst hF
 exact aM (is:=[]) (by kernel_rfl) hw rfl (.inl ⟨rfl,rfl,rfl,trivial⟩)
theorem ga{gq:Nat}{eq:Nat×Nat}{rowq:Rowb}{q:a6}(hq:a6.ob eq Γ gq rowq q)(hqr:∀p∈rowq,Γ p.1=some p.2)(hs:Sat Γ w0){r:Bool}(h:kw q=some r):CQ Tryz.prog 24 #[(pq gq),.nilIface] w0 (.bool r):=by
 refine goQ [4] func24 ntmps24 results24 hs λF hF=>?_
 refine BZ ?_
 refine bxV (v:=(pq gq)) λg1=>?_
 refine aV (k:=BX (C1 (BZ (mU (v:=.nilIface) (k:=BX (C5 (BZ ?_)))))))
 refine sV (bd DC DG rfl rfl) (k:=sV exV (k:=sV exV (k:=BX ?_)))
 refine Cb (b:=false) (by kernel_rfl) rfl ?_
 refine BZ (sV (bd DD DH rfl rfl) (k:=sV exV (k:=sV exV (k:=BX ?_))))
 refine Cb (b:=false) (by kernel_rfl) rfl ?_
 refine BZ (sV (bd DJ DK rfl rfl) (k:=sV exV (k:=sV exV (k:=BX ?_))))
 refine Cb (b:=false) (by kernel_rfl) rfl ?_
 refine BZ (sV (bd DE DL rfl rfl) (k:=sV exV (k:=sV exV (k:=BX ?_))))
 refine Cb (b:=false) (by kernel_rfl) rfl ?_
 refine BZ (sV (bd DF DM rfl rfl) (k:=sV exV (k:=sV exV (k:=BX ?_))))
 refine Cb (b:=false) (by kernel_rfl) rfl ?_
 refine BZ (sV (bd underlying121 zeroValue121 rfl rfl) (k:=sV exV (k:=sV exV (k:=BX ?_))))
 refine Cb (b:=false) (by kernel_rfl) rfl ?_
 refine BZ (sV (bd underlying123 zeroValue123 rfl rfl) (k:=sV exV (k:=sV exV (k:=BX ?_))))
 refine Cb (b:=false) (by kernel_rfl) rfl ?_
 refine BZ (sV (bd underlying125 zeroValue125 rfl rfl) (k:=sV exV (k:=sV exV (k:=BX ?_))))
 refine Cb (b:=false) (by kernel_rfl) rfl ?_
 refine BZ (sV (bd underlying126 zeroValue126 rfl rfl) (k:=sV exV (k:=sV exV (k:=BX ?_))))
 refine Cb (b:=false) (by kernel_rfl) rfl ?_
 refine C4 (wc_ (BZ (aV (k:=BX ?_))))
 exact C2 λw hw=>rq_ r h hF hw
abbrev nq(gq:Nat)(eq:Nat×Nat)(rowq:Rowb)(r:Unit)(U:List Rowb)(Γ:Gh)(v:Value):Prop:=v = .tuple #[]∧U = [rowq]∧True
theorem bq{gq:Nat}{eq:Nat×Nat}{rowq:Rowb}{q:a6}(hq:a6.ob eq Γ gq rowq q)(hp:Pre [rowq] Γ w0){r:Unit}(h:cE q=some r):Calls Tryz.prog 25 #[(pq gq),.nilIface] w0 (Outc Γ [rowq] w0 (nq gq eq rowq r)):=by
 refine goV [] func25 ntmps25 results25 hp λF hF=>?_
 refine BZ (mU (v:=.nilIface) (k:=BX (C5 (BZ (sV (bd DC DG rfl rfl) (k:=sV exV (k:=sV exV (k:=?_))))))))
 refine BX ?_
 refine Cb (b:=false) (by kernel_rfl) rfl ?_
 refine BZ (sV (bd DD DH rfl rfl) (k:=sV exV (k:=sV exV (k:=BX ?_))))
 refine Cb (b:=false) (by kernel_rfl) rfl ?_
 refine BZ (sV (bd DJ DK rfl rfl) (k:=sV exV (k:=sV exV (k:=BX ?_))))
 refine Cb (b:=false) (by kernel_rfl) rfl ?_
 refine BZ (sV (bd DE DL rfl rfl) (k:=sV exV (k:=sV exV (k:=BX ?_))))
 refine Cb (b:=false) (by kernel_rfl) rfl ?_
 refine BZ (sV (bd DF DM rfl rfl) (k:=sV exV (k:=sV exV (k:=BX ?_))))
 refine Cb (b:=false) (by kernel_rfl) rfl ?_
 refine BZ (sV (bd underlying121 zeroValue121 rfl rfl) (k:=sV exV (k:=sV exV (k:=BX ?_))))
 refine Cb (b:=false) (by kernel_rfl) rfl ?_
 refine BZ (sV (bd underlying123 zeroValue123 rfl rfl) (k:=sV exV (k:=sV exV (k:=BX ?_))))
 refine Cb (b:=false) (by kernel_rfl) rfl ?_
 refine BZ (sV (bd underlying125 zeroValue125 rfl rfl) (k:=sV exV (k:=sV exV (k:=BX ?_))))
 refine Cb (b:=false) (by kernel_rfl) rfl ?_
 refine BZ (sV (bd underlying126 zeroValue126 rfl rfl) (k:=sV exV (k:=sV exV (k:=BX ?_))))
 refine Cb (b:=false) (by kernel_rfl) rfl ?_
 refine C4 ?_
 intro w hw
 cases h
 subst hF
 exact aM (is:=[0]) (by kernel_rfl) hw rfl ⟨rfl,rfl,trivial⟩
theorem p4{gq:Nat}{eq:Nat×Nat}{rowq:Rowb}{q:a6}(hq:a6.ob eq Γ gq rowq q)(hqr:∀p∈rowq,Γ p.1=some p.2){Ar_1:Option Addr}{cr_1:Nat}(r_:Rec)(hr_:Rec.fits Γ Ar_1 cr_1 r_)(hs:Sat Γ w0){r:Bool}(h:fX q r_=some r):CQ Tryz.prog 52 #[(pq gq),.agg (Rec.cs Ar_1 cr_1 r_).toArray] w0 (.bool r):=by
 refine goQ [4] func52 ntmps52 results52 hs λF hF=>?_
 refine BZ ?_
 refine bxV (v:=.agg (Rec.cs Ar_1 cr_1 r_).toArray) λg1=>?_
 refine aV (k:=BX (C1 ?_))
 refine drV ?_
 refine zV (ldaV 0 (Rec.cs Ar_1 cr_1 r_) Dv Du) (k:=?_)
 obtain⟨z2,hz3,h⟩:=bnd h
 refine wc rfl rfl rfl (b3 (caV call81) (λw hw=>i8 (Γ:=Gh.all w) r_ (Rec.fits_mono hr_ hw.sat.le_all) (Sat.all w) hz3)) (zV moV (k:=wG1 (h:=λhg4=>q_fl 1 bG) (k:=wG1 (h:=λhg5=>ldV 0 DB (hx:=grV hg5)) (k:=wG1 (h:=λhg6=>ab rfl Dy (grV hg6)) (k:=wG1 (h:=λhg7=>bD rfl (grV hg7)) (k:=zV pkA (k:=zV moV (k:=?_))))))))
 refine wG1 (h:=λhg8=>q_fl 1 bG) (k:=wG1 (h:=λhg9=>ldV 0 DB (hx:=grV hg9)) (k:=?_))
 obtain⟨hk11,h⟩:=ag h
 refine wG1 (h:=λhg10=>aO (i:=0) Dy Dr rfl (grV hg10) rfl (Cl (aD hk11 hg10)) (hr_.2.2.some_ (Cl (aD hk11 hg10)))) (k:=wG1 (h:=λhg12=>av (0*5) bJ rfl (grV hg12) (hr_.2.2.some_ (Cl (aD hk11 hg12))) rfl) (k:=wG1 (h:=λhg13=>av (0*5) cz rfl (grV hg13) (hr_.2.2.some_ (Cl (aD hk11 hg13))) rfl) (k:=?_)))
 obtain⟨A15,c16,hx17⟩:=hr_.2.2.verT_at 0
 refine wG1 (h:=λhg14=>q_ld (c:=0) (v:=ii (gt r_.vers 0).dot.s) (hx17 (Cl (aD hk11 hg14))).2 rfl CY (grV hg14) rfl) (k:=wG1 (h:=λhg18=>moV) (k:=wG1 (h:=λhg19=>nlV (hv:=grV hg19)) (k:=wG1 (h:=λhg20=>q_fl 0 ix rfl (grV hg20)) (k:=wG1 (h:=λhg21=>q_fl 1 gS rfl (grV hg21)) (k:=?_)))))
 obtain⟨A2_23,c2_23,y5_23,g6_23,r6_23,A7_23,c7_23,A8_23,A9_23,c9_23,r9_23,m11_23,r11_23,A12_23,c12_23,hrow_23,ho0_23,ho1_23,ho2_23,ho3_23,ho4_23,ho5_23,ho6_23,ho7_23,ho8_23,ho9_23,ho10_23,ho11_23,ho12_23,ho13_23,ho14_23,-⟩:=id hq
 have hg_24:∀u∈([[(gq,.cells #[ii q.c_self,ii q.c_sites,.slice A2_23 q.c_links.length c2_23,ii q.c_cap,ii q.c_base,y5_23,(pq g6_23),.slice A7_23 q.applied.length c7_23,.pointer A8_23,.slice A9_23 q.list.length c9_23,ii q.next,.map (some m11_23),.slice A12_23 q.members.length c12_23] eq.1 (0,0))],r6_23,r9_23,r11_23]:List Rowb), ∀p∈u,Γ p.1=some p.2:=λu hu p hp=>(λp hp=>(hqr p hp)) p (hrow_23▸List.mem_flatten.2 ⟨u,hu,hp⟩)
 have hgc25:=hg_24 _ (Cp ..) (gq,_) (List.mem_singleton.2 rfl)
 have hgs26:=hg_24 r6_23 (by simp)
 have hgs27:=hg_24 r9_23 (by simp)
 have hgs28:=hg_24 r11_23 (by simp)
 refine wG1 (h:=λhg22=>eU (v:=ii q.c_sites) hgc25 rfl CY (grV hg22) rfl) (k:=wG1 (h:=λhg29=>gU rfl (grV hg29) (grV hg29)) (k:=zV pkA (k:=zV aoV (k:=?_))))
 refine Cd ?_
 change WC _ _ _ _ _ _
 exact C2 λw hw=>rq_ r h hF hw
theorem sZ{Av_:Option Addr}{cv_:Nat}{v_:List Int}(hv_:Sl intT Γ Av_ v_)(hv_c:v_.length≤cv_)(hs:Sat Γ w0){r:Bool}(h:oE v_=some r):CQ Tryz.prog 50 #[.slice Av_ v_.length cv_] w0 (.bool r):=by
 refine goQ [2] func50 ntmps50 results50 hs λF hF=>?_
 refine BZ (aV (k:=BX (C1 (BZ (mV (k:=sV (ab rfl DN) (k:=mV (k:=?_))))))))
 refine BX (C5 ?_)
 refine Cc h (λ(i2:Nat) (s:Unit) σ w=>match s with | ()=>slots σ [(0,.slice Av_ v_.length cv_),(5,.slice Av_ v_.length cv_),(6,ii (v_.length:Int)),(7,ii (i2:Int))]∧CC F Γ [] w∧True) ?_ ?_
 ·
  intro w hw
  exact⟨slK,hw,trivial⟩
 rintro f1 i2 ⟨⟩ σ w hi3 hlt4 hge5 ⟨hsl,hw,-⟩
 refine slV hsl hw [] ?_; clear hw hsl
 refine BZ (sV aQ (k:=BX (C1 ?_)))
 refine coV (λhb6=>?_) (λhb6=>?_)
 ·
  have hl7:=ilt hb6
  have h:=hlt4 hl7
  refine C4 (wc_ (C1 (C5 (BZ (sV (aO (i:=i2) DN Dh rfl rfl rfl hl7 (hv_.some_ hl7)) (k:=sV (q_ld (c:=0) (v:=ii (gt v_ i2)) (hv_.intT_at hl7).2 rfl D0 rfl rfl) (k:=aV (k:=?_))))))))
  refine BX (BZ (mV (k:=sV aQ (k:=mV (k:=vG0 (h:=λhg8=>moV) (k:=vG0 (h:=λhg9=>cp rfl (grV hg9)) (k:=sV pkO (k:=?_))))))))
  refine BX ?_
  refine ciV h (λhb10 h=>?_) (λhb10 h=>?_)
  ·
   refine BZ (aV (k:=BX ?_))
   exact C2 λw hw=>rq_ r h hF hw
  refine C4 (wc_ ?_)
  refine C3 ?_
  refine sV (aw rfl rfl rfl (aA hl7 hv_.le)) (k:=mV (k:=?_))
  exact C0 λw hw=>⟨hl7,(),h,slK,hw,trivial⟩
 have h:=hge5 (ige hb6)
 refine C8 ?_
 change WC _ _ _ _ _ _
 refine BZ (mV (k:=sV (ab rfl DN) (k:=sV kG (k:=mV (k:=vG1 (h:=λhg11=>moV) (k:=vG1 (h:=λhg12=>ab rfl DN (grV hg12)) (k:=vG1 (h:=λhg13=>gU rfl (grV hg13)) (k:=?_))))))))
 refine sV pkA (k:=aV (k:=BX ?_))
 exact C2 λw hw=>rq_ r h hF hw
theorem jj{Av_:Option Addr}{cv_:Nat}{v_:List Int}(hv_:Sl intT Γ Av_ v_)(hv_c:v_.length≤cv_)(s_:Int)(hs_:I64 s_)(hs:Sat Γ w0){r:Dot×Int}(h:fh v_ s_=some r):CQ Tryz.prog 26 #[.slice Av_ v_.length cv_,ii s_] w0 (.tuple #[.agg (Dot.cs r.1).toArray,ii r.2]):=by
 refine dl (N:=37) (rs:=[.cell 4 35,.tmp 5]) (args:=[.slice Av_ v_.length cv_,ii s_]) func26 rfl ntmps26 results26 rfl ?_
 obtain⟨F,hF⟩:∃F:Fm,F=⟨no,w0,Γ⟩:=⟨_,rfl⟩
 refine Cf (C:=CC F Γ []) ?_ (hF▸Cur.start0 hs)
 refine BZ ?_
 refine alV DO λg1=>?_
 refine aV (k:=BX (C1 (C5 (BZ (mV (k:=?_))))))
 obtain⟨z2,hz3,h⟩:=bnd h
 refine vqV (caV call50) (λw hw=>sZ (Γ:=Gh.all w) (hv_.mono hw.sat.le_all) hv_c (Sat.all w) hz3) (k:=sV aX (k:=mV (k:=vG0 (h:=λhg4=>moV) (k:=vG0 (h:=λhg5=>aQ rfl (grV hg5)) (k:=sV pkO (k:=mV (k:=vG0 (h:=λhg6=>moV) (k:=?_))))))))
 refine vG0 (h:=λhg7=>moV) (k:=vG0 (h:=λhg8=>ab rfl DN (grV hg8)) (k:=vG0 (h:=λhg9=>cp rfl (grV hg9) (grV hg9)) (k:=sV pkO (k:=aV (k:=BX ?_)))))
 refine ciV h (λhb10 h=>?_) (λhb10 h=>?_)
 ·
  refine BZ (sV (cT (v:=.agg #[ii 0,ii 0]) rfl (λw=>by kernel_rfl)) (k:=stV 0 (.agg #[ii 0,ii 0]) #[ii 0,ii 0] DA (k:=aV (k:=BX ?_))))
  refine C2 ?_
  intro w hw
  cases h
  subst hF
  exact⟨[.agg #[ii 0,ii 0],ii 1],(da (i:=0) (us:=[ii 0,ii 0]) hw rfl Dz DA (by kernel_rfl) rfl (ie (by kernel_rfl) db)),by kernel_rfl,hw.fr⟩
 refine BZ (mV (k:=mV (k:=sV iQ (k:=?_))))
 obtain⟨hk11,h⟩:=ag h
 refine sV (q_ix DN Dh rfl rfl rfl hk11 (hv_.some_ (dU hk11))) (k:=sV (q_ld (c:=0) (v:=ii (gt v_ ((w64 (s_ - 1)).toNat))) (hv_.intT_at (dU hk11)).2 rfl D0 rfl rfl) (k:=sV bD (k:=aV (k:=BX ?_))))
 refine ciV h (λhb12 h=>?_) (λhb12 h=>?_)
 ·
  refine BZ (sV (cT (v:=.agg #[ii 0,ii 0]) rfl (λw=>by kernel_rfl)) (k:=stV 0 (.agg #[ii 0,ii 0]) #[ii 0,ii 0] DA (k:=aV (k:=BX ?_))))
  refine C2 ?_
  intro w hw
  cases h
  subst hF
  exact⟨[.agg #[ii 0,ii 0],ii 40],(da (i:=0) (us:=[ii 0,ii 0]) hw rfl Dz DA (by kernel_rfl) rfl (ie (by kernel_rfl) db)),by kernel_rfl,hw.fr⟩
 refine C4 (wc_ (BZ (mV (k:=mV (k:=mV (k:=sV iQ (k:=sV (q_ix DN Dh rfl rfl rfl hk11 (hv_.some_ (dU hk11))) (k:=?_))))))))
 refine sV (q_ld (c:=0) (v:=ii (gt v_ ((w64 (s_ - 1)).toNat))) (hv_.intT_at (dU hk11)).2 rfl D0 rfl rfl) (k:=sV eH (k:=sV (aR (v:=.agg #[ii s_,ii (w64 ((gt v_ ((w64 (s_ - 1)).toNat))+1))]) rfl (ib rfl rfl) (λw=>by kernel_rfl)) (k:=stV 0 (.agg #[ii s_,ii (w64 ((gt v_ ((w64 (s_ - 1)).toNat))+1))]) #[ii s_,ii (w64 ((gt v_ ((w64 (s_ - 1)).toNat))+1))] DA (k:=aV (k:=BX ?_)))))
 refine C2 ?_
 intro w hw
 cases h
 subst hF
 exact⟨[.agg #[ii s_,ii (w64 ((gt v_ ((w64 (s_ - 1)).toNat))+1))],ii 0],(da (i:=0) (us:=[ii s_,ii (w64 ((gt v_ ((w64 (s_ - 1)).toNat))+1))]) hw rfl Dz DA (by kernel_rfl) rfl (ie (by kernel_rfl) db)),by kernel_rfl,hw.fr⟩
theorem rN{Av_:Option Addr}{cv_:Nat}{v_:List Int}(hv_:Sl intT Γ Av_ v_)(hv_c:v_.length≤cv_)(d:Dot)(hd:Dot.fits Γ  d)(hs:Sat Γ w0){r:Bool}(h:nD v_ d=some r):CQ Tryz.prog 57 #[.slice Av_ v_.length cv_,.agg (Dot.cs d).toArray] w0 (.bool r):=by
 refine goQ [4] func57 ntmps57 results57 hs λF hF=>?_
 refine BZ ?_
 refine bxV (v:=.agg (Dot.cs d).toArray) λg1=>?_
 refine aV (k:=BX (C1 ?_))
 refine drV ?_
 refine zV (q_fl 0 cz) (k:=zV (ldV 0 CY) (k:=zV kG (k:=zV moV (k:=wG1 (h:=λhg2=>q_fl 0 cz) (k:=wG1 (h:=λhg3=>ldV 0 CY (hx:=grV hg3)) (k:=wG1 (h:=λhg4=>moV) (k:=wG1 (h:=λhg5=>ab rfl DN (grV hg5)) (k:=?_))))))))
 refine wG1 (h:=λhg6=>gU rfl (grV hg6) (grV hg6)) (k:=zV pkA (k:=zV moV (k:=wG1 (h:=λhg7=>q_fl 1 eP) (k:=wG1 (h:=λhg8=>ldV 0 D0 (hx:=grV hg8)) (k:=wG1 (h:=λhg9=>kG rfl (grV hg9)) (k:=zV pkA (k:=zV moV (k:=?_))))))))
 refine wG1 (h:=λhg10=>q_fl 1 eP) (k:=wG1 (h:=λhg11=>ldV 0 D0 (hx:=grV hg11)) (k:=wG1 (h:=λhg12=>moV) (k:=wG1 (h:=λhg13=>q_fl 0 cz) (k:=wG1 (h:=λhg14=>ldV 0 CY (hx:=grV hg14)) (k:=wG1 (h:=λhg15=>iQ rfl (grV hg15)) (k:=?_))))))
 obtain⟨hk17,h⟩:=ag h
 refine wG1 (h:=λhg16=>q_ix DN Dh rfl (grV hg16) (grV hg16) (aD hk17 hg16) (hv_.some_ (dU (aD hk17 hg16)))) (k:=wG1 (h:=λhg18=>q_ld (c:=0) (v:=ii (gt v_ ((w64 (d.s - 1)).toNat))) (hv_.intT_at (dU (aD hk17 hg18))).2 rfl D0 (grV hg18) rfl) (k:=wG1 (h:=λhg19=>gU rfl (grV hg19) (grV hg19)) (k:=zV pkA (k:=zV aoV (k:=?_)))))
 refine Cd ?_
 change WC _ _ _ _ _ _
 exact C2 λw hw=>rq_ r h hF hw
theorem oF{Av_:Option Addr}{cv_:Nat}{v_:List Int}(hv_:Sl intT Γ Av_ v_)(hv_c:v_.length≤cv_){Al:Option Addr}{cl:Nat}{l:List Span}(hl:Sl gO Γ Al l)(hlc:l.length≤cl)(hs:Sat Γ w0){r:Bool}(h:oJ v_ l=some r):CQ Tryz.prog 78 #[.slice Av_ v_.length cv_,.slice Al l.length cl] w0 (.bool r):=by
 refine goQ [4] func78 ntmps78 results78 hs λF hF=>?_
 refine BZ (aV (k:=BX (C1 (BZ (mV (k:=sV (ab rfl Dw) (k:=mV (k:=?_))))))))
 refine BX (C5 ?_)
 refine Cc h (λ(i2:Nat) (s:Unit) σ w=>match s with | ()=>slots σ [(0,.slice Av_ v_.length cv_),(7,.slice Al l.length cl),(8,ii (l.length:Int)),(9,ii (i2:Int))]∧CC F Γ [] w∧True) ?_ ?_
 ·
  intro w hw
  exact⟨slK,hw,trivial⟩
 rintro f1 i2 ⟨⟩ σ w hi3 hlt4 hge5 ⟨hsl,hw,-⟩
 refine slV hsl hw [] ?_; clear hw hsl
 refine BZ (sV aQ (k:=BX (C1 ?_)))
 refine coV (λhb6=>?_) (λhb6=>?_)
 ·
  have hl7:=ilt hb6
  have h:=hlt4 hl7
  refine C4 (wc_ (C1 (C5 (BZ (sV (aO (i:=i2) Dw Do rfl rfl rfl hl7 (hl.some_ hl7)) (k:=sV (ik (c:=0) (vs:=(Span.cs (gt l i2))) (hl.spanT_at hl7).2 rfl Dp Do rfl rfl rfl) (k:=?_)))))))
  refine alV Dn λg8=>?_
  refine stV 0 (.agg (Span.cs (gt l i2)).toArray) (Span.cs (gt l i2)).toArray Do (k:=BX (BZ (mV (k:=sV (q_fl 0 fM) (k:=sV (ldV 0 CY) (k:=sV (q_fl 2 fJ) (k:=sV (ldV 0 D0) (k:=?_))))))))
  refine sV (aR (v:=.agg #[ii (gt l i2).s,ii (gt l i2).t]) rfl (ib rfl rfl) (λw=>by kernel_rfl)) (k:=?_)
  obtain⟨z9,hz10,h⟩:=bnd h
  refine vqV (caV call57) (λw hw=>rN (Γ:=Gh.all w) (hv_.mono hw.sat.le_all) hv_c (⟨(gt l i2).s,(gt l i2).t⟩:Dot) ⟨(hl.spanT_at hl7).1.1,(hl.spanT_at hl7).1.2.2⟩ (Sat.all w) hz10) (k:=sV aX (k:=BX ?_))
  refine ciV h (λhb11 h=>?_) (λhb11 h=>?_)
  ·
   refine BZ (aV (k:=BX ?_))
   exact C2 λw hw=>rq_ r h hF hw
  refine C4 (wc_ ?_)
  refine C3 ?_
  refine sV (aw rfl rfl rfl (aA hl7 hl.le)) (k:=mV (k:=?_))
  exact C0 λw hw=>⟨hl7,(),h,slK,(hw.on []),trivial⟩
 have h:=hge5 (ige hb6)
 refine C8 ?_
 change WC _ _ _ _ _ _
 refine BZ (aV (k:=BX ?_))
 exact C2 λw hw=>rq_ r h hF hw
theorem jC{gq:Nat}{eq:Nat×Nat}{rowq:Rowb}{q:a6}(hq:a6.ob eq Γ gq rowq q)(hqr:∀p∈rowq,Γ p.1=some p.2){Ar_1:Option Addr}{cr_1:Nat}(r_:Rec)(hr_:Rec.fits Γ Ar_1 cr_1 r_)(hs:Sat Γ w0){r:Bool}(h:du q r_=some r):CQ Tryz.prog 47 #[(pq gq),.agg (Rec.cs Ar_1 cr_1 r_).toArray] w0 (.bool r):=by
 refine goQ [4] func47 ntmps47 results47 hs λF hF=>?_
 refine BZ ?_
 refine bxV (v:=.agg (Rec.cs Ar_1 cr_1 r_).toArray) λg1=>?_
 refine aV (k:=BX (C1 (BZ (mV (k:=sV (ldaV 0 (Rec.cs Ar_1 cr_1 r_) Dv Du) (k:=?_))))))
 obtain⟨z2,hz3,h⟩:=bnd h
 refine vqV (caV call52) (λw hw=>p4 (Γ:=Gh.all w) (hq.mono hw.sat.le_all) (λp hp=>hw.sat _ _ (hqr p hp)) r_ (Rec.fits_mono hr_ hw.sat.le_all) (Sat.all w) hz3) (k:=sV aX (k:=BX ?_))
 refine ciV h (λhb4 h=>?_) (λhb4 h=>?_)
 ·
  refine BZ (aV (k:=BX ?_))
  exact C2 λw hw=>rq_ r h hF hw
 refine C4 (wc_ (C1 ?_))
 refine leV λh05=>?_
 refine e7 (CC F Γ [[(g1,.cells (Rec.cs Ar_1 cr_1 r_).toArray 42 (0,0))]]) (bo_ [0] gR h05) λk=>?_
 change WH _ _ _ _ (CC F Γ [_]) _ 17 _ _
 refine hV 0 k (q:=moV) (k:=hV 1 k (q:=nlV) (k:=hV 2 k (q:=q_fl 7 cj) (k:=?_)))
 obtain⟨A2_6,c2_6,y5_6,g6_6,r6_6,A7_6,c7_6,A8_6,A9_6,c9_6,r9_6,m11_6,r11_6,A12_6,c12_6,hrow_6,ho0_6,ho1_6,ho2_6,ho3_6,ho4_6,ho5_6,ho6_6,ho7_6,ho8_6,ho9_6,ho10_6,ho11_6,ho12_6,ho13_6,ho14_6,-⟩:=id hq
 have hg_7:∀u∈([[(gq,.cells #[ii q.c_self,ii q.c_sites,.slice A2_6 q.c_links.length c2_6,ii q.c_cap,ii q.c_base,y5_6,(pq g6_6),.slice A7_6 q.applied.length c7_6,.pointer A8_6,.slice A9_6 q.list.length c9_6,ii q.next,.map (some m11_6),.slice A12_6 q.members.length c12_6] eq.1 (0,0))],r6_6,r9_6,r11_6]:List Rowb), ∀p∈u,Γ p.1=some p.2:=λu hu p hp=>(λp hp=>(hqr p hp)) p (hrow_6▸List.mem_flatten.2 ⟨u,hu,hp⟩)
 have hgc8:=hg_7 _ (Cp ..) (gq,_) (List.mem_singleton.2 rfl)
 have hgs9:=hg_7 r6_6 (by simp)
 have hgs10:=hg_7 r9_6 (by simp)
 have hgs11:=hg_7 r11_6 (by simp)
 refine hV 3 k (q:=eU (v:=.slice A7_6 q.applied.length c7_6) hgc8 rfl DP rfl rfl) (k:=hV 4 k (q:=q_fl 1 bG) (k:=hV 5 k (q:=ldV 0 DB) (k:=?_)))
 obtain⟨hk12,h⟩:=ag h
 refine hV 6 k (q:=aO (i:=0) Dy Dr rfl rfl rfl (Cl hk12) (hr_.2.2.some_ (Cl hk12))) (k:=hV 7 k (q:=av (0*5) bJ rfl rfl (hr_.2.2.some_ (Cl hk12)) rfl) (k:=hV 8 k (q:=av (0*5) cz rfl rfl (hr_.2.2.some_ (Cl hk12)) rfl) (k:=?_)))
 obtain⟨A13,c14,hx15⟩:=hr_.2.2.verT_at 0
 refine hV 9 k (q:=q_ld (c:=0) (v:=ii (gt r_.vers 0).dot.s) (hx15 (Cl hk12)).2 rfl CY rfl rfl) (k:=?_)
 obtain⟨z16,hz17,h⟩:=bnd h
 refine Cj (l:=[10,14]) (by kernel_rfl) (by simp) ?_
 intro i hi; simp only [Ct,List.not_mem_nil,or_false] at hi
 rcases hi with rfl | rfl
 ·
  refine⟨_,rfl,?_⟩
  refine vqV (caV call26) (λw hw=>jj (Γ:=Gh.all w) (ho8_6.mono hw.sat.le_all) ho7_6 ((gt r_.vers 0).dot.s) (hx15 (Cl hk12)).1.1 (Sat.all w) hz17) (k:=?_)
  refine C0 (nxV (bo_ [0] gR h05) λk=>?_)
  refine hV 11 k (q:=moV) (k:=hV 12 k (q:=exV) (k:=hV 13 k (q:=exV) (k:=wl_ 14 rfl ?_)))
  refine alV DO λg18=>?_
  refine C0 (nxV (bo_ [1] gR h05) λk=>?_)
  refine wl_ 15 rfl (stV 0 (.agg (Dot.cs z16.1).toArray) (Dot.cs z16.1).toArray DA (k:=?_))
  refine C0 (nxV (bo_ [1] gR h05) λk=>?_)
  refine hV 16 k (q:=aoV) (k:=?_)
  refine Ca (by kernel_rfl) ?_
  change WC _ _ _ _ _ _
  refine C1 ?_
  refine drV ?_
  refine zV moV (k:=zV bD (k:=zV moV (k:=wG1 (h:=λhg19=>ldaV 0 (Dot.cs z16.1) Dz DA) (k:=wG1 (h:=λhg20=>q_fl 1 bG) (k:=wG1 (h:=λhg21=>ldV 1 DB (hx:=grV hg21)) (k:=wG1 (h:=λhg22=>aO (i:=0) Dy Dr rfl (grV hg22) rfl (Cl hk12) (hr_.2.2.some_ (Cl hk12))) (k:=wG1 (h:=λhg23=>av (0*5) bJ rfl (grV hg23) (hr_.2.2.some_ (Cl hk12)) rfl) (k:=?_))))))))
  refine wG1 (h:=λhg24=>ik (c:=0) (vs:=[ii (gt r_.vers 0).dot.s,ii (gt r_.vers 0).dot.n]) (hx15 (Cl hk12)).2 rfl Dz DA (grV hg24) rfl rfl) (k:=wG1 (h:=λhg25=>pp (a:=z16.1) (b:=(gt r_.vers 0).dot) rfl (grV hg25) (grV hg25)) (k:=zV pkA (k:=zV moV (k:=wG1 (h:=λhg26=>moV) (k:=wG1 (h:=λhg27=>nlV (hv:=grV hg27)) (k:=wG1 (h:=λhg28=>q_fl 7 cj rfl (grV hg28)) (k:=wG1 (h:=λhg29=>eU (v:=.slice A7_6 q.applied.length c7_6) hgc8 rfl DP (grV hg29) rfl) (k:=?_))))))))
  refine wG1 (h:=λhg30=>q_fl 1 bG) (k:=wG1 (h:=λhg31=>ldV 1 DB (hx:=grV hg31)) (k:=wG1 (h:=λhg32=>aO (i:=0) Dy Dr rfl (grV hg32) rfl (Cl hk12) (hr_.2.2.some_ (Cl hk12))) (k:=wG1 (h:=λhg33=>av (0*5+2) eX rfl (grV hg33) (hr_.2.2.some_ (Cl hk12)) rfl) (k:=wG1 (h:=λhg34=>q_ld (c:=2) (v:=.slice A13 ((gt r_.vers 0).past).length c14) (hx15 (Cl hk12)).2 rfl Dx (grV hg34) rfl) (k:=?_)))))
  obtain⟨z36,hz37,h⟩:=bnd h
  refine wC1 (h:=λhg35=>b3 (aE call78 rfl rfl (cN (grV hg35) (grV hg35))) (λw hw=>oF (Γ:=Gh.all w) (ho8_6.mono hw.sat.le_all) ho7_6 ((hx15 (Cl hk12)).1.2.2.1.2.mono hw.sat.le_all) (hx15 (Cl hk12)).1.2.2.1.1 (Sat.all w) (cK hz37 hg35))) (k:=zV pkA (k:=zV aoV (k:=?_)))
  refine Cd ?_
  change WC _ _ _ _ _ _
  exact C2 λw hw=>rq_ r h hF hw
 refine⟨_,rfl,?_⟩
 refine alV DO λg18=>?_
 refine C0 (nxV (bo_ [1] gR h05) λk=>?_)
 refine wl_ 10 rfl (vqV (caV call26) (λw hw=>jj (Γ:=Gh.all w) (ho8_6.mono hw.sat.le_all) ho7_6 ((gt r_.vers 0).dot.s) (hx15 (Cl hk12)).1.1 (Sat.all w) hz17) (k:=?_))
 refine C0 (nxV (bo_ [1] gR h05) λk=>?_)
 refine hV 11 k (q:=moV) (k:=hV 12 k (q:=exV) (k:=hV 13 k (q:=exV) (k:=wl_ 15 rfl (stV 0 (.agg (Dot.cs z16.1).toArray) (Dot.cs z16.1).toArray DA (k:=?_)))))
 refine C0 (nxV (bo_ [1] gR h05) λk=>?_)
 refine hV 16 k (q:=aoV) (k:=?_)
 refine Ca (by kernel_rfl) ?_
 change WC _ _ _ _ _ _
 refine C1 ?_
 refine drV ?_
 refine zV moV (k:=zV bD (k:=zV moV (k:=wG1 (h:=λhg19=>ldaV 0 (Dot.cs z16.1) Dz DA) (k:=wG1 (h:=λhg20=>q_fl 1 bG) (k:=wG1 (h:=λhg21=>ldV 1 DB (hx:=grV hg21)) (k:=wG1 (h:=λhg22=>aO (i:=0) Dy Dr rfl (grV hg22) rfl (Cl hk12) (hr_.2.2.some_ (Cl hk12))) (k:=wG1 (h:=λhg23=>av (0*5) bJ rfl (grV hg23) (hr_.2.2.some_ (Cl hk12)) rfl) (k:=?_))))))))
 refine wG1 (h:=λhg24=>ik (c:=0) (vs:=[ii (gt r_.vers 0).dot.s,ii (gt r_.vers 0).dot.n]) (hx15 (Cl hk12)).2 rfl Dz DA (grV hg24) rfl rfl) (k:=wG1 (h:=λhg25=>pp (a:=z16.1) (b:=(gt r_.vers 0).dot) rfl (grV hg25) (grV hg25)) (k:=zV pkA (k:=zV moV (k:=wG1 (h:=λhg26=>moV) (k:=wG1 (h:=λhg27=>nlV (hv:=grV hg27)) (k:=wG1 (h:=λhg28=>q_fl 7 cj rfl (grV hg28)) (k:=wG1 (h:=λhg29=>eU (v:=.slice A7_6 q.applied.length c7_6) hgc8 rfl DP (grV hg29) rfl) (k:=?_))))))))
 refine wG1 (h:=λhg30=>q_fl 1 bG) (k:=wG1 (h:=λhg31=>ldV 1 DB (hx:=grV hg31)) (k:=wG1 (h:=λhg32=>aO (i:=0) Dy Dr rfl (grV hg32) rfl (Cl hk12) (hr_.2.2.some_ (Cl hk12))) (k:=wG1 (h:=λhg33=>av (0*5+2) eX rfl (grV hg33) (hr_.2.2.some_ (Cl hk12)) rfl) (k:=wG1 (h:=λhg34=>q_ld (c:=2) (v:=.slice A13 ((gt r_.vers 0).past).length c14) (hx15 (Cl hk12)).2 rfl Dx (grV hg34) rfl) (k:=?_)))))
 obtain⟨z36,hz37,h⟩:=bnd h
 refine wC1 (h:=λhg35=>b3 (aE call78 rfl rfl (cN (grV hg35) (grV hg35))) (λw hw=>oF (Γ:=Gh.all w) (ho8_6.mono hw.sat.le_all) ho7_6 ((hx15 (Cl hk12)).1.2.2.1.2.mono hw.sat.le_all) (hx15 (Cl hk12)).1.2.2.1.1 (Sat.all w) (cK hz37 hg35))) (k:=zV pkA (k:=zV aoV (k:=?_)))
 refine Cd ?_
 change WC _ _ _ _ _ _
 exact C2 λw hw=>rq_ r h hF hw
theorem d9{gq:Nat}{eq:Nat×Nat}{rowq:Rowb}{q:a6}(hq:a6.ob eq Γ gq rowq q)(hqr:∀p∈rowq,Γ p.1=some p.2){Ax_1:Option Addr}{cx_1:Nat}(x_:ar)(hx_:ar.fits Γ Ax_1 cx_1 x_)(hs:Sat Γ w0){r:Bool}(h:bB q x_=some r):CQ Tryz.prog 24 #[(pq gq),.iface 83 (.agg (Rec.cs Ax_1 cx_1 x_.r).toArray)] w0 (.bool r):=by
 refine goQ [4] func24 ntmps24 results24 hs λF hF=>?_
 refine BZ ?_
 refine bxV (v:=(pq gq)) λg1=>?_
 refine aV (k:=BX (C1 (BZ (mU (v:=.iface 83 (.agg (Rec.cs Ax_1 cx_1 x_.r).toArray)) (k:=BX (C5 (BZ ?_)))))))
 refine sV (df DC rfl rfl) (k:=sV exV (k:=sV exV (k:=BX ?_)))
 refine Ch (b:=true) (by kernel_rfl) rfl ?_
 refine BZ ?_
 refine alV DG λg2=>?_
 refine stV 0 (.agg (Rec.cs Ax_1 cx_1 x_.r).toArray) (Rec.cs Ax_1 cx_1 x_.r).toArray sizeOf83 (k:=BX (C1 ?_))
 refine drV ?_
 refine zV (ldV 1 DQ) (k:=zV nlV (k:=zV (q_fl 8 gA) (k:=?_)))
 obtain⟨A2_3,c2_3,y5_3,g6_3,r6_3,A7_3,c7_3,A8_3,A9_3,c9_3,r9_3,m11_3,r11_3,A12_3,c12_3,hrow_3,ho0_3,ho1_3,ho2_3,ho3_3,ho4_3,ho5_3,ho6_3,ho7_3,ho8_3,ho9_3,ho10_3,ho11_3,ho12_3,ho13_3,ho14_3,-⟩:=id hq
 have hg_4:∀u∈([[(gq,.cells #[ii q.c_self,ii q.c_sites,.slice A2_3 q.c_links.length c2_3,ii q.c_cap,ii q.c_base,y5_3,(pq g6_3),.slice A7_3 q.applied.length c7_3,.pointer A8_3,.slice A9_3 q.list.length c9_3,ii q.next,.map (some m11_3),.slice A12_3 q.members.length c12_3] eq.1 (0,0))],r6_3,r9_3,r11_3]:List Rowb), ∀p∈u,Γ p.1=some p.2:=λu hu p hp=>(λp hp=>(hqr p hp)) p (hrow_3▸List.mem_flatten.2 ⟨u,hu,hp⟩)
 have hgc5:=hg_4 _ (Cp ..) (gq,_) (List.mem_singleton.2 rfl)
 have hgs6:=hg_4 r6_3 (by simp)
 have hgs7:=hg_4 r9_3 (by simp)
 have hgs8:=hg_4 r11_3 (by simp)
 refine zV (eU (v:=.pointer A8_3) hgc5 rfl DR rfl rfl) (k:=zV (qL ho9_3 DS rfl rfl rfl) (k:=zV moV (k:=wG1 (h:=λhg9=>ldV 1 DQ) (k:=wG1 (h:=λhg10=>q_fl 0 oN) (k:=wG1 (h:=λhg11=>ldaV 0 (Rec.cs Ax_1 cx_1 x_.r) Dv Du (hx:=grV hg11)) (k:=?_))))))
 obtain⟨z13,hz14,h⟩:=bnd h
 refine wC1 (h:=λhg12=>b3 (aE call47 rfl rfl (cN (grV hg12) (grV hg12))) (λw hw=>jC (Γ:=Gh.all w) (hq.mono hw.sat.le_all) (λp hp=>hw.sat _ _ (hqr p hp)) x_.r (Rec.fits_mono ⟨hx_.1,⟨hx_.2.1,hx_.2.2⟩⟩ hw.sat.le_all) (Sat.all w) (cK hz14 hg12))) (k:=zV pkA (k:=zV moV (k:=wG1 (h:=λhg15=>q_fl 0 oN) (k:=wG1 (h:=λhg16=>q_fl 1 bG rfl (grV hg16)) (k:=wG1 (h:=λhg17=>ldV 0 DB (hx:=grV hg17)) (k:=?_))))))
 obtain⟨hk19,h⟩:=ag h
 refine wG1 (h:=λhg18=>aO (i:=0) Dy Dr rfl (grV hg18) rfl (Cl (aD hk19 hg18)) (hx_.2.2.some_ (Cl (aD hk19 hg18)))) (k:=wG1 (h:=λhg20=>av (0*5) bJ rfl (grV hg20) (hx_.2.2.some_ (Cl (aD hk19 hg20))) rfl) (k:=wG1 (h:=λhg21=>av (0*5) cz rfl (grV hg21) (hx_.2.2.some_ (Cl (aD hk19 hg21))) rfl) (k:=?_)))
 obtain⟨A23,c24,hx25⟩:=hx_.2.2.verT_at 0
 refine wG1 (h:=λhg22=>q_ld (c:=0) (v:=ii (gt x_.r.vers 0).dot.s) (hx25 (Cl (aD hk19 hg22))).2 rfl CY (grV hg22) rfl) (k:=wG1 (h:=λhg26=>ldV 1 DQ) (k:=wG1 (h:=λhg27=>nlV (hv:=grV hg27)) (k:=wG1 (h:=λhg28=>q_fl 0 ix rfl (grV hg28)) (k:=wG1 (h:=λhg29=>q_fl 0 ke rfl (grV hg29)) (k:=wG1 (h:=λhg30=>eU (v:=ii q.c_self) hgc5 rfl CY (grV hg30) rfl) (k:=wG1 (h:=λhg31=>bD rfl (grV hg31) (grV hg31)) (k:=zV pkA (k:=?_))))))))
 refine zV aoV (k:=?_)
 refine Cd ?_
 change WC _ _ _ _ _ _
 exact C2 λw hw=>rq_ r h hF hw
abbrev lQ(gq:Nat)(eq:Nat×Nat)(r:a6)(U:List Rowb)(Γ:Gh)(v:Value):Prop := ∃(rowq':Rowb),v = .tuple #[]∧U = [rowq']∧a6.ob eq Γ gq rowq' r∧True
theorem b7{gq:Nat}{eq:Nat×Nat}{rowq:Rowb}{q:a6}(hq:a6.ob eq Γ gq rowq q){Ax_1:Option Addr}{cx_1:Nat}(x_:ar)(hx_:ar.fits Γ Ax_1 cx_1 x_)(hp:Pre [rowq] Γ w0){r:a6}(h:aS q x_=some r):Calls Tryz.prog 25 #[(pq gq),.iface 83 (.agg (Rec.cs Ax_1 cx_1 x_.r).toArray)] w0 (Outc Γ [rowq] w0 (lQ gq eq r)):=by
 refine goV [] func25 ntmps25 results25 hp λF hF=>?_
 refine BZ (mU (v:=.iface 83 (.agg (Rec.cs Ax_1 cx_1 x_.r).toArray)) (k:=BX (C5 (BZ (sV (df DC rfl rfl) (k:=sV exV (k:=sV exV (k:=?_))))))))
 refine BX ?_
 refine Ch (b:=true) (by kernel_rfl) rfl ?_
 refine BZ ?_
 refine alV DG λg1=>?_
 refine stV 0 (.agg (Rec.cs Ax_1 cx_1 x_.r).toArray) (Rec.cs Ax_1 cx_1 x_.r).toArray sizeOf83 (k:=BX ?_)
 refine C3 ?_
 refine mV (k:=sV (q_fl 0 oN) (k:=sV nlV (k:=sV (q_fl 8 gA) (k:=?_))))
 obtain⟨A2_2,c2_2,y5_2,g6_2,r6_2,A7_2,c7_2,A8_2,A9_2,c9_2,r9_2,m11_2,r11_2,A12_2,c12_2,hrow_2,ho0_2,ho1_2,ho2_2,ho3_2,ho4_2,ho5_2,ho6_2,ho7_2,ho8_2,ho9_2,ho10_2,ho11_2,ho12_2,ho13_2,ho14_2,-⟩:=id hq
 refine ufR 1 hrow_2 [_,_,_,_,_] ?_
 have ho3:Own recT Γ 83 [(g1,.cells (Rec.cs Ax_1 cx_1 x_.r).toArray 83 (0,0))] (some ⟨g1,0,none⟩) 1 [x_.r]:=C7 (T:=recT) (ys:=[x_.r]) [(Rec.cs Ax_1 cx_1 x_.r)] rfl (show 1≤lim by decide) ⟨⟨Ax_1,cx_1,rfl,⟨hx_.1,⟨hx_.2.1,hx_.2.2⟩⟩⟩,trivial⟩
 have hc8:=ho3.capz
 refine seR 4 [_,_,_,_,_] λΓ4 hl5 hr6=>?_
 have hs7:=ho3.sl hl5 hr6
 refine stV 0 ((pq g1)) #[ii q.c_self,ii q.c_sites,.slice A2_2 q.c_links.length c2_2,ii q.c_cap,ii q.c_base,y5_2,(pq g6_2),.slice A7_2 q.applied.length c7_2,(pq g1),.slice A9_2 q.list.length c9_2,ii q.next,.map (some m11_2),.slice A12_2 q.members.length c12_2] sizeOf65 (k:=?_)
 refine C0 ?_
 intro w hw
 obtain⟨row_9,hrow_9,hob_9⟩:∃rw:Rowb,rw=([[(gq,.cells #[ii q.c_self,ii q.c_sites,.slice A2_2 q.c_links.length c2_2,ii q.c_cap,ii q.c_base,y5_2,(pq g6_2),.slice A7_2 q.applied.length c7_2,(pq g1),.slice A9_2 q.list.length c9_2,ii q.next,.map (some m11_2),.slice A12_2 q.members.length c12_2] eq.1 (0,0))],r6_2,r9_2,r11_2]:List Rowb).flatten∧a6.ob eq Γ4 gq rw (⟨q.c_self,q.c_sites,q.c_links,q.c_cap,q.c_base,q.log,q.applied,(some x_.r),q.list,q.next,q.gaps,q.members⟩:a6):=⟨_,rfl,A2_2,c2_2,(y5_2),g6_2,r6_2,A7_2,c7_2,(some ⟨g1,0,none⟩),A9_2,c9_2,r9_2,m11_2,r11_2,A12_2,c12_2,rfl,ho0_2,ho1_2,ho2_2,(ho3_2.mono hl5),ho4_2,ho5_2,(ho6_2.mono hl5),ho7_2,(ho8_2.mono hl5),(Pd.of hs7),(ho10_2.mono hl5),ho11_2,(ho12_2.mono hl5),ho13_2,(ho14_2.mono hl5),trivial⟩
 have hw:=hw.fold (is:=[0,0,0,0]) rfl hrow_9
 cases h
 subst hF
 exact aM (is:=[0]) (by kernel_rfl) hw rfl ⟨row_9,rfl,rfl,hob_9,trivial⟩
theorem lK{As_:Option Addr}{cs_:Nat}{s_:List Int}(hs_:Sl intT Γ As_ s_)(hs_c:s_.length≤cs_)(v_:Int)(hv_:I64 v_)(hs:Sat Γ w0){r:Int}(h:dE s_ v_=some r):CQ Tryz.prog 111 #[.slice As_ s_.length cs_,ii v_] w0 (ii r):=by
 refine goQ [4] func111 ntmps111 results111 hs λF hF=>?_
 refine BZ (aV (k:=BX (C1 (BZ (mV (k:=sV (ab rfl CW) (k:=mV (k:=?_))))))))
 refine BX (C5 ?_)
 refine Cc h (λ(i2:Nat) (s:Unit) σ w=>match s with | ()=>slots σ [(0,.slice As_ s_.length cs_),(1,ii v_),(7,ii (s_.length:Int)),(8,ii (i2:Int))]∧CC F Γ [] w∧True) ?_ ?_
 ·
  intro w hw
  exact⟨slK,hw,trivial⟩
 rintro f1 i2 ⟨⟩ σ w hi3 hlt4 hge5 ⟨hsl,hw,-⟩
 refine slV hsl hw [] ?_; clear hw hsl
 refine BZ (sV aQ (k:=BX (C1 ?_)))
 refine coV (λhb6=>?_) (λhb6=>?_)
 ·
  have hl7:=ilt hb6
  have h:=hlt4 hl7
  refine C4 (wc_ (C1 (C5 (BZ (mV (k:=aV (k:=BX ?_)))))))
  refine BZ (mV (k:=mV (k:=mV (k:=sV (aO (i:=i2) CW CX rfl rfl rfl hl7 (hs_.some_ hl7)) (k:=sV (q_ld (c:=0) (v:=ii (gt s_ i2)) (hs_.intT_at hl7).2 rfl CY rfl rfl) (k:=sV bD (k:=BX ?_)))))))
  refine ciV h (λhb8 h=>?_) (λhb8 h=>?_)
  ·
   refine BZ (mV (k:=aV (k:=BX ?_)))
   exact C2 λw hw=>rq_ r h hF hw
  refine C4 (wc_ ?_)
  refine C3 ?_
  refine sV (aw rfl rfl rfl (aA hl7 hs_.le)) (k:=mV (k:=?_))
  exact C0 λw hw=>⟨hl7,(),h,slK,hw,trivial⟩
 have h:=hge5 (ige hb6)
 refine C8 ?_
 change WC _ _ _ _ _ _
 refine BZ (aV (k:=BX ?_))
 exact C2 λw hw=>rq_ r h hF hw
theorem e8{As_:Option Addr}{cs_:Nat}{s_:List Int}(hs_:Sl intT Γ As_ s_)(hs_c:s_.length≤cs_)(v_:Int)(hv_:I64 v_)(hs:Sat Γ w0){r:Bool}(h:bi s_ v_=some r):CQ Tryz.prog 79 #[.slice As_ s_.length cs_,ii v_] w0 (.bool r):=by
 refine goQ [4] func79 ntmps79 results79 hs λF hF=>?_
 refine BZ (aV (k:=BX (BZ (mV (k:=mV (k:=?_))))))
 obtain⟨z1,hz2,h⟩:=bnd h
 refine vqV (caV call111) (λw hw=>lK (Γ:=Gh.all w) (hs_.mono hw.sat.le_all) hs_c v_ hv_ (Sat.all w) hz2) (k:=sV kG (k:=aV (k:=BX ?_)))
 exact C2 λw hw=>rq_ r h hF hw
theorem np{gq:Nat}{eq:Nat×Nat}{rowq:Rowb}{q:a6}(hq:a6.ob eq Γ gq rowq q)(hqr:∀p∈rowq,Γ p.1=some p.2){Al:Option Addr}{cl:Nat}{l:List Int}(hl:Sl intT Γ Al l)(hlc:l.length≤cl)(hs:Sat Γ w0){r:Bool}(h:bX q l=some r):CQ Tryz.prog 48 #[(pq gq),.slice Al l.length cl] w0 (.bool r):=by
 refine goQ [4] func48 ntmps48 results48 hs λF hF=>?_
 refine BZ (aV (k:=BX (C1 (BZ (mV (k:=sV (ab rfl CW) (k:=mV (k:=?_))))))))
 refine BX (C5 ?_)
 refine Cc h (λ(i2:Nat) (s:Unit) σ w=>match s with | ()=>slots σ [(0,(pq gq)),(1,.slice Al l.length cl),(7,.slice Al l.length cl),(8,ii (l.length:Int)),(9,ii (i2:Int))]∧CC F Γ [] w∧True) ?_ ?_
 ·
  intro w hw
  exact⟨slK,hw,trivial⟩
 rintro f1 i2 ⟨⟩ σ w hi3 hlt4 hge5 ⟨hsl,hw,-⟩
 refine slV hsl hw [] ?_; clear hw hsl
 refine BZ (sV aQ (k:=BX (C1 ?_)))
 refine coV (λhb6=>?_) (λhb6=>?_)
 ·
  have hl7:=ilt hb6
  have h:=hlt4 hl7
  refine C4 (wc_ (C1 (C5 (BZ (mV (k:=sV (aO (i:=i2) CW CX rfl rfl rfl hl7 (hl.some_ hl7)) (k:=sV (q_ld (c:=0) (v:=ii (gt l i2)) (hl.intT_at hl7).2 rfl CY rfl rfl) (k:=?_))))))))
  refine aV (k:=aV (k:=BX (BZ (mV (k:=sV aQ (k:=mV (k:=vG0 (h:=λhg8=>moV) (k:=?_))))))))
  refine vG0 (h:=λhg9=>moV) (k:=vG0 (h:=λhg10=>nlV (hv:=grV hg10)) (k:=vG0 (h:=λhg11=>q_fl 0 ix rfl (grV hg11)) (k:=vG0 (h:=λhg12=>q_fl 1 gS rfl (grV hg12)) (k:=?_))))
  obtain⟨A2_14,c2_14,y5_14,g6_14,r6_14,A7_14,c7_14,A8_14,A9_14,c9_14,r9_14,m11_14,r11_14,A12_14,c12_14,hrow_14,ho0_14,ho1_14,ho2_14,ho3_14,ho4_14,ho5_14,ho6_14,ho7_14,ho8_14,ho9_14,ho10_14,ho11_14,ho12_14,ho13_14,ho14_14,-⟩:=id hq
  have hg_15:∀u∈([[(gq,.cells #[ii q.c_self,ii q.c_sites,.slice A2_14 q.c_links.length c2_14,ii q.c_cap,ii q.c_base,y5_14,(pq g6_14),.slice A7_14 q.applied.length c7_14,.pointer A8_14,.slice A9_14 q.list.length c9_14,ii q.next,.map (some m11_14),.slice A12_14 q.members.length c12_14] eq.1 (0,0))],r6_14,r9_14,r11_14]:List Rowb), ∀p∈u,Γ p.1=some p.2:=λu hu p hp=>(λp hp=>(hqr p hp)) p (hrow_14▸List.mem_flatten.2 ⟨u,hu,hp⟩)
  have hgc16:=hg_15 _ (Cp ..) (gq,_) (List.mem_singleton.2 rfl)
  have hgs17:=hg_15 r6_14 (by simp)
  have hgs18:=hg_15 r9_14 (by simp)
  have hgs19:=hg_15 r11_14 (by simp)
  refine vG0 (h:=λhg13=>eU (v:=ii q.c_sites) hgc16 rfl CY (grV hg13) rfl) (k:=vG0 (h:=λhg20=>cp rfl (grV hg20) (grV hg20)) (k:=sV pkO (k:=mV (k:=vG0 (h:=λhg21=>moV) (k:=vG0 (h:=λhg22=>moV) (k:=vG0 (h:=λhg23=>qF (c:=cl) (hi:=i2) (xs:=l) CW CX rfl (grV hg23) (grV hg23) (Nat.le_of_lt hl7) hlc) (k:=vG0 (h:=λhg24=>moV) (k:=?_))))))))
  obtain⟨z26,hz27,h⟩:=bnd h
  refine vC0 (h:=λhg25=>b3 (aE call79 rfl rfl (cN (grV hg25) (grV hg25))) (λw hw=>e8 (Γ:=Gh.all w) ((hl.cut_to (hi:=i2) (Nat.le_of_lt hl7)).mono hw.sat.le_all) (uq hlc i2) (gt l i2) (hl.intT_at hl7).1 (Sat.all w) (cK hz27 hg25))) (k:=sV pkO (k:=BX ?_))
  refine ciV h (λhb28 h=>?_) (λhb28 h=>?_)
  ·
   refine BZ (aV (k:=BX ?_))
   exact C2 λw hw=>rq_ r h hF hw
  refine C4 (wc_ ?_)
  refine C3 ?_
  refine sV (aw rfl rfl rfl (aA hl7 hl.le)) (k:=mV (k:=?_))
  exact C0 λw hw=>⟨hl7,(),h,slK,hw,trivial⟩
 have h:=hge5 (ige hb6)
 refine C8 ?_
 change WC _ _ _ _ _ _
 refine BZ (aV (k:=BX ?_))
 exact C2 λw hw=>rq_ r h hF hw
theorem tv{Aa2:Option Addr}{ca2:Nat}(a:Ver)(ha:Ver.fits Γ Aa2 ca2 a){Ab2:Option Addr}{cb2:Nat}(b:Ver)(hb:Ver.fits Γ Ab2 cb2 b)(hs:Sat Γ w0){r:Bool}(h:kH a b=some r):CQ Tryz.prog 80 #[.agg (Ver.cs Aa2 ca2 a).toArray,.agg (Ver.cs Ab2 cb2 b).toArray] w0 (.bool r):=by
 refine goQ [4] func80 ntmps80 results80 hs λF hF=>?_
 refine BZ ?_
 refine bxV (v:=.agg (Ver.cs Aa2 ca2 a).toArray) λg1=>?_
 refine bxV (v:=.agg (Ver.cs Ab2 cb2 b).toArray) λg2=>?_
 refine aV (k:=BX (C1 (BZ (sV (q_fl 0 bJ) (k:=sV (ldaV 1 (Dot.cs a.dot) Dz DA) (k:=sV (q_fl 0 bJ) (k:=sV (ldaV 0 (Dot.cs b.dot) Dz DA) (k:=?_))))))))
 refine sV (pe (a:=a.dot) (b:=b.dot) rfl rfl rfl) (k:=mV (k:=vG0 (h:=λhg3=>q_fl 3 la) (k:=vG0 (h:=λhg4=>ldV 1 Dj (hx:=grV hg4)) (k:=vG0 (h:=λhg5=>q_fl 3 la) (k:=vG0 (h:=λhg6=>ldV 0 Dj (hx:=grV hg6)) (k:=vG0 (h:=λhg7=>B7 underlying4 rfl (grV hg7) (grV hg7)) (k:=sV pkO (k:=?_))))))))
 refine mV (k:=vG0 (h:=λhg8=>q_fl 4 dX) (k:=vG0 (h:=λhg9=>ldV 1 D1 (hx:=grV hg9)) (k:=vG0 (h:=λhg10=>q_fl 4 dX) (k:=vG0 (h:=λhg11=>ldV 0 D1 (hx:=grV hg11)) (k:=vG0 (h:=λhg12=>qY rfl (grV hg12) (grV hg12)) (k:=sV pkO (k:=mV (k:=?_))))))))
 refine vG0 (h:=λhg13=>q_fl 2 eX) (k:=vG0 (h:=λhg14=>ldV 1 Dx (hx:=grV hg14)) (k:=vG0 (h:=λhg15=>ab rfl Dw (grV hg15)) (k:=vG0 (h:=λhg16=>q_fl 2 eX) (k:=vG0 (h:=λhg17=>ldV 0 Dx (hx:=grV hg17)) (k:=vG0 (h:=λhg18=>ab rfl Dw (grV hg18)) (k:=vG0 (h:=λhg19=>bO rfl (grV hg19) (grV hg19)) (k:=sV pkO (k:=?_))))))))
 refine BX ?_
 refine ciV h (λhb20 h=>?_) (λhb20 h=>?_)
 ·
  refine BZ (aV (k:=BX ?_))
  exact C2 λw hw=>rq_ r h hF hw
 refine C4 (wc_ (C1 (BZ (sV (q_fl 2 eX) (k:=sV (ldV 1 Dx) (k:=sV (ab rfl Dw) (k:=mV (k:=?_))))))))
 refine BX (C5 ?_)
 refine Cc h (λ(i22:Nat) (s:Unit) σ w=>match s with | ()=>slots σ [(2,(pq g1)),(3,(pq g2)),(36,ii (a.past.length:Int)),(37,ii (i22:Int))]∧CC F Γ [[(g2,.cells (Ver.cs Ab2 cb2 b).toArray 37 (0,0))],[(g1,.cells (Ver.cs Aa2 ca2 a).toArray 37 (0,0))]] w∧True) ?_ ?_
 ·
  intro w hw
  exact⟨slK,hw,trivial⟩
 rintro f21 i22 ⟨⟩ σ w hi23 hlt24 hge25 ⟨hsl,hw,-⟩
 refine slV hsl hw [_,_] ?_; clear hw hsl
 refine BZ (sV aQ (k:=BX (C1 ?_)))
 refine coV (λhb26=>?_) (λhb26=>?_)
 ·
  have hl27:=ilt hb26
  have h:=hlt24 hl27
  refine C4 (wc_ (C1 (C5 (BZ (mV (k:=aV (k:=BX ?_)))))))
  refine C1 ?_
  refine drV ?_
  refine zV (q_fl 2 eX) (k:=zV (ldV 1 Dx) (k:=zV moV (k:=zV (aO (i:=i22) Dw Do rfl rfl rfl hl27 (ha.2.2.1.2.some_ hl27)) (k:=zV (ik (c:=0) (vs:=(Span.cs (gt a.past i22))) (ha.2.2.1.2.spanT_at hl27).2 rfl Dp Do rfl rfl rfl) (k:=zV (q_fl 2 eX) (k:=zV (ldV 0 Dx) (k:=zV moV (k:=?_))))))))
  obtain⟨hk28,h⟩:=ag h
  refine zV (aO (i:=i22) Dw Do rfl rfl rfl (Cl hk28) (hb.2.2.1.2.some_ (Cl hk28))) (k:=zV (ik (c:=0) (vs:=(Span.cs (gt b.past i22))) (hb.2.2.1.2.spanT_at (Cl hk28)).2 rfl Dp Do rfl rfl rfl) (k:=zV (vn (a:=(gt a.past i22)) (b:=(gt b.past i22)) rfl rfl rfl) (k:=?_)))
  refine Cd ?_
  change WC _ _ _ _ _ _
  refine ciV h (λhb29 h=>?_) (λhb29 h=>?_)
  ·
   refine BZ (aV (k:=BX ?_))
   exact C2 λw hw=>rq_ r h hF hw
  refine C4 (wc_ ?_)
  refine C3 ?_
  refine sV (aw rfl rfl rfl (aA hl27 ha.2.2.1.2.le)) (k:=mV (k:=?_))
  exact C0 λw hw=>⟨hl27,(),h,slK,hw,trivial⟩
 have h:=hge25 (ige hb26)
 refine C8 ?_
 change WC _ _ _ _ _ _
 refine BZ (aV (k:=BX ?_))
 exact C2 λw hw=>rq_ r h hF hw
theorem tT{Aa:Option Addr}{ca:Nat}{a:List Ver}(ha:Sl verT Γ Aa a)(hac:a.length≤ca){Ab:Option Addr}{cb:Nat}{b:List Ver}(hb:Sl verT Γ Ab b)(hbc:b.length≤cb)(hs:Sat Γ w0){r:Bool}(h:kD a b=some r):CQ Tryz.prog 49 #[.slice Aa a.length ca,.slice Ab b.length cb] w0 (.bool r):=by
 refine goQ [4] func49 ntmps49 results49 hs λF hF=>?_
 refine BZ (aV (k:=BX (C1 (BZ (mV (k:=sV (ab rfl Dy) (k:=mV (k:=?_))))))))
 refine sV (ab rfl Dy) (k:=sV xS (k:=mV (k:=BX (C5 ?_))))
 refine Ci h (λ(i2:Nat) (s:Unit) σ w=>match s with | ()=>slots σ [(0,.slice Aa a.length ca),(1,.slice Ab b.length cb),(10,ii (min (a.length:Int) (b.length:Int))),(11,ii (i2:Int))]∧CC F Γ [] w∧True) ?_ ?_
 ·
  intro w hw
  exact⟨slK,hw,trivial⟩
 rintro f1 i2 ⟨⟩ σ w hi3 hlt4 hge5 ⟨hsl,hw,-⟩
 refine slV hsl hw [] ?_; clear hw hsl
 refine BZ (sV aQ (k:=BX (C1 ?_)))
 refine coV (λhb6=>?_) (λhb6=>?_)
 ·
  have hl7:=ilti hb6
  have h:=hlt4 hl7
  refine C4 (wc_ (C1 (C5 (BZ (mV (k:=aV (k:=BX ?_)))))))
  refine C1 ?_
  refine drV ?_
  refine zV moV (k:=zV moV (k:=?_))
  obtain⟨hk8,h⟩:=ag h
  refine zV (aO (i:=i2) Dy Dr rfl rfl rfl (Cl hk8) (ha.some_ (Cl hk8))) (k:=?_)
  obtain⟨A9,c10,hx11⟩:=ha.verT_at i2
  refine zV (ik (c:=0) (vs:=(Ver.cs A9 c10 (gt a i2))) (hx11 (Cl hk8)).2 rfl Ds Dr rfl rfl rfl) (k:=zV moV (k:=zV moV (k:=?_)))
  obtain⟨hk12,h⟩:=ag h
  refine zV (aO (i:=i2) Dy Dr rfl rfl rfl (Cl hk12) (hb.some_ (Cl hk12))) (k:=?_)
  obtain⟨A13,c14,hx15⟩:=hb.verT_at i2
  refine zV (ik (c:=0) (vs:=(Ver.cs A13 c14 (gt b i2))) (hx15 (Cl hk12)).2 rfl Ds Dr rfl rfl rfl) (k:=?_)
  obtain⟨z16,hz17,h⟩:=bnd h
  refine wc rfl rfl rfl (b3 (caV call80) (λw hw=>tv (Γ:=Gh.all w) (gt a i2) (Ver.fits_mono (hx11 (Cl hk8)).1 hw.sat.le_all) (gt b i2) (Ver.fits_mono (hx15 (Cl hk12)).1 hw.sat.le_all) (Sat.all w) hz17)) (zV aX (k:=?_))
  refine Cd ?_
  change WC _ _ _ _ _ _
  refine ciV h (λhb18 h=>?_) (λhb18 h=>?_)
  ·
   refine BZ (aV (k:=BX ?_))
   exact C2 λw hw=>rq_ r h hF hw
  refine C4 (wc_ ?_)
  refine C3 ?_
  refine sV (aw rfl rfl rfl (hO hl7 (Ag (jT ha.le) (jT hb.le)))) (k:=mV (k:=?_))
  exact C0 λw hw=>⟨hl7,(),h,slK,hw,trivial⟩
 have h:=hge5 (igei hb6)
 refine C8 ?_
 change WC _ _ _ _ _ _
 refine BZ (mV (k:=sV (ab rfl Dy) (k:=mV (k:=sV (ab rfl Dy) (k:=sV bD (k:=aV (k:=BX ?_)))))))
 exact C2 λw hw=>rq_ r h hF hw
theorem ck{gq:Nat}{eq:Nat×Nat}{rowq:Rowb}{q:a6}(hq:a6.ob eq Γ gq rowq q)(hqr:∀p∈rowq,Γ p.1=some p.2){Ax_0:Option Addr}{cx_0:Nat}{Ax_2:Option Addr}{cx_2:Nat}(x_:ae)(hx_:ae.fits Γ Ax_0 cx_0 Ax_2 cx_2 x_)(hs:Sat Γ w0){r:Bool}(h:bz q x_=some r):CQ Tryz.prog 24 #[(pq gq),.iface 86 (.agg (ae.cs Ax_0 cx_0 Ax_2 cx_2 x_).toArray)] w0 (.bool r):=by
 refine goQ [4] func24 ntmps24 results24 hs λF hF=>?_
 refine BZ ?_
 refine bxV (v:=(pq gq)) λg1=>?_
 refine aV (k:=BX (C1 (BZ (mU (v:=.iface 86 (.agg (ae.cs Ax_0 cx_0 Ax_2 cx_2 x_).toArray)) (k:=BX (C5 (BZ ?_)))))))
 refine sV (aI DC DG rfl rfl rfl) (k:=sV exV (k:=sV exV (k:=BX ?_)))
 refine Cb (b:=false) (by kernel_rfl) rfl ?_
 refine BZ (sV (df DD rfl rfl) (k:=sV exV (k:=sV exV (k:=BX ?_))))
 refine Ch (b:=true) (by kernel_rfl) rfl ?_
 refine BZ ?_
 refine alV DH λg2=>?_
 refine stV 0 (.agg (ae.cs Ax_0 cx_0 Ax_2 cx_2 x_).toArray) (ae.cs Ax_0 cx_0 Ax_2 cx_2 x_).toArray sizeOf86 (k:=BX (C1 ?_))
 refine drV ?_
 refine zV (ldV 1 DQ) (k:=zV nlV (k:=zV (q_fl 10 p6) (k:=?_)))
 obtain⟨A2_3,c2_3,y5_3,g6_3,r6_3,A7_3,c7_3,A8_3,A9_3,c9_3,r9_3,m11_3,r11_3,A12_3,c12_3,hrow_3,ho0_3,ho1_3,ho2_3,ho3_3,ho4_3,ho5_3,ho6_3,ho7_3,ho8_3,ho9_3,ho10_3,ho11_3,ho12_3,ho13_3,ho14_3,-⟩:=id hq
 have hg_4:∀u∈([[(gq,.cells #[ii q.c_self,ii q.c_sites,.slice A2_3 q.c_links.length c2_3,ii q.c_cap,ii q.c_base,y5_3,(pq g6_3),.slice A7_3 q.applied.length c7_3,.pointer A8_3,.slice A9_3 q.list.length c9_3,ii q.next,.map (some m11_3),.slice A12_3 q.members.length c12_3] eq.1 (0,0))],r6_3,r9_3,r11_3]:List Rowb), ∀p∈u,Γ p.1=some p.2:=λu hu p hp=>(λp hp=>(hqr p hp)) p (hrow_3▸List.mem_flatten.2 ⟨u,hu,hp⟩)
 have hgc5:=hg_4 _ (Cp ..) (gq,_) (List.mem_singleton.2 rfl)
 have hgs6:=hg_4 r6_3 (by simp)
 have hgs7:=hg_4 r9_3 (by simp)
 have hgs8:=hg_4 r11_3 (by simp)
 refine zV (eU (v:=ii q.next) hgc5 rfl D0 rfl rfl) (k:=zV gU (k:=zV moV (k:=wG1 (h:=λhg9=>ldV 1 DQ) (k:=wG1 (h:=λhg10=>q_fl 1 jg) (k:=wG1 (h:=λhg11=>ldaV 0 (Rec.cs Ax_2 cx_2 x_.r) Dv Du (hx:=grV hg11)) (k:=?_))))))
 obtain⟨z13,hz14,h⟩:=bnd h
 refine wC1 (h:=λhg12=>b3 (aE call47 rfl rfl (cN (grV hg12) (grV hg12))) (λw hw=>jC (Γ:=Gh.all w) (hq.mono hw.sat.le_all) (λp hp=>hw.sat _ _ (hqr p hp)) x_.r (Rec.fits_mono ⟨hx_.2.1,⟨hx_.2.2.1,hx_.2.2.2⟩⟩ hw.sat.le_all) (Sat.all w) (cK hz14 hg12))) (k:=zV pkA (k:=zV moV (k:=wG1 (h:=λhg15=>ldV 1 DQ) (k:=wG1 (h:=λhg16=>q_fl 0 mK) (k:=wG1 (h:=λhg17=>ldV 0 CZ (hx:=grV hg17)) (k:=?_))))))
 obtain⟨z19,hz20,h⟩:=bnd h
 refine wC1 (h:=λhg18=>b3 (aE call48 rfl rfl (cN (grV hg18) (grV hg18))) (λw hw=>np (Γ:=Gh.all w) (hq.mono hw.sat.le_all) (λp hp=>hw.sat _ _ (hqr p hp)) (hx_.1.2.mono hw.sat.le_all) hx_.1.1 (Sat.all w) (cK hz20 hg18))) (k:=zV pkA (k:=zV moV (k:=wG1 (h:=λhg21=>q_fl 1 jg) (k:=wG1 (h:=λhg22=>q_fl 2 bG rfl (grV hg22)) (k:=wG1 (h:=λhg23=>ldV 0 DB (hx:=grV hg23)) (k:=?_))))))
 obtain⟨hk25,h⟩:=ag h
 refine wG1 (h:=λhg24=>aO (i:=0) Dy Dr rfl (grV hg24) rfl (Cl (aD hk25 hg24)) (hx_.2.2.2.some_ (Cl (aD hk25 hg24)))) (k:=wG1 (h:=λhg26=>av (0*5) bJ rfl (grV hg26) (hx_.2.2.2.some_ (Cl (aD hk25 hg26))) rfl) (k:=wG1 (h:=λhg27=>av (0*5) cz rfl (grV hg27) (hx_.2.2.2.some_ (Cl (aD hk25 hg27))) rfl) (k:=?_)))
 obtain⟨A29,c30,hx31⟩:=hx_.2.2.2.verT_at 0
 refine wG1 (h:=λhg28=>q_ld (c:=0) (v:=ii (gt x_.r.vers 0).dot.s) (hx31 (Cl (aD hk25 hg28))).2 rfl CY (grV hg28) rfl) (k:=wG1 (h:=λhg32=>ldV 1 DQ) (k:=wG1 (h:=λhg33=>nlV (hv:=grV hg33)) (k:=wG1 (h:=λhg34=>q_fl 0 ix rfl (grV hg34)) (k:=wG1 (h:=λhg35=>q_fl 0 ke rfl (grV hg35)) (k:=wG1 (h:=λhg36=>eU (v:=ii q.c_self) hgc5 rfl CY (grV hg36) rfl) (k:=wG1 (h:=λhg37=>bO rfl (grV hg37) (grV hg37)) (k:=wG1 (h:=λhg38=>au (v:=.bool ((gt x_.r.vers 0).dot.s != q.c_self)) rfl (grV hg38)) (k:=?_))))))))
 refine wh0 (c0:=(((decide (q.next≤4611686018427387904))&&z13)&&z19)) (g:=((gt x_.r.vers 0).dot.s != q.c_self)) rfl rfl rfl rfl rfl (λ_=>QV.qo (ldV 1 DQ)) (wh0 (c0:=(((decide (q.next≤4611686018427387904))&&z13)&&z19)) (g:=((gt x_.r.vers 0).dot.s != q.c_self)) rfl rfl rfl rfl rfl (λhg40=>QV.qo (nlV (hv:=grV hg40))) (wh0 (c0:=(((decide (q.next≤4611686018427387904))&&z13)&&z19)) (g:=((gt x_.r.vers 0).dot.s != q.c_self)) rfl rfl rfl rfl rfl (λhg41=>QV.qo (q_fl 8 gA rfl (grV hg41))) (wh0 (c0:=(((decide (q.next≤4611686018427387904))&&z13)&&z19)) (g:=((gt x_.r.vers 0).dot.s != q.c_self)) rfl rfl rfl rfl rfl (λhg42=>QV.qo (eU (v:=.pointer A8_3) hgc5 rfl DR (grV hg42) rfl)) (wh0 (c0:=(((decide (q.next≤4611686018427387904))&&z13)&&z19)) (g:=((gt x_.r.vers 0).dot.s != q.c_self)) rfl rfl rfl rfl rfl (λhg43=>QV.qo (uv ho9_3 DS rfl (grV hg43) rfl)) (wh0 (c0:=(((decide (q.next≤4611686018427387904))&&z13)&&z19)) (g:=((gt x_.r.vers 0).dot.s != q.c_self)) rfl rfl rfl rfl rfl (λhg44=>QV.qo (au (v:=.bool (!(Option.isNone q.under))) rfl (grV hg44))) (wh1 (c0:=((((decide (q.next≤4611686018427387904))&&z13)&&z19)&&(!((gt x_.r.vers 0).dot.s != q.c_self)))) (g:=(!(Option.isNone q.under))) rfl rfl rfl rfl rfl (λ_=>QV.qo (ldV 1 DQ)) ?_))))))
 refine wh1 (c0:=((((decide (q.next≤4611686018427387904))&&z13)&&z19)&&(!((gt x_.r.vers 0).dot.s != q.c_self)))) (g:=(!(Option.isNone q.under))) rfl rfl rfl rfl rfl (λhg46=>QV.qo (nlV (hv:=grV hg46))) (wh1 (c0:=((((decide (q.next≤4611686018427387904))&&z13)&&z19)&&(!((gt x_.r.vers 0).dot.s != q.c_self)))) (g:=(!(Option.isNone q.under))) rfl rfl rfl rfl rfl (λhg47=>QV.qo (q_fl 8 gA rfl (grV hg47))) (wh1 (c0:=((((decide (q.next≤4611686018427387904))&&z13)&&z19)&&(!((gt x_.r.vers 0).dot.s != q.c_self)))) (g:=(!(Option.isNone q.under))) rfl rfl rfl rfl rfl (λhg48=>QV.qo (eU (v:=.pointer A8_3) hgc5 rfl DR (grV hg48) rfl)) ?_))
 obtain⟨hk50,h⟩:=ag h
 refine wh1 (c0:=((((decide (q.next≤4611686018427387904))&&z13)&&z19)&&(!((gt x_.r.vers 0).dot.s != q.c_self)))) (g:=(!(Option.isNone q.under))) rfl rfl rfl rfl rfl (λhg49=>QV.qo (oS ho9_3 (aD hk50 hg49) rfl (grV hg49))) (wh1 (c0:=((((decide (q.next≤4611686018427387904))&&z13)&&z19)&&(!((gt x_.r.vers 0).dot.s != q.c_self)))) (g:=(!(Option.isNone q.under))) rfl rfl rfl rfl rfl (λhg51=>QV.qo (av (A:=A8_3) (j:=0) (0) kc rfl (grV hg51) ((Pd.sl ho9_3 (aD hk50 hg51)).some_ Nat.zero_lt_one) rfl)) ?_)
 obtain⟨A53,c54,hx55⟩:=qv (λhs_=>(Pd.sl ho9_3 hs_).recT_at 0)
 refine wh1 (c0:=((((decide (q.next≤4611686018427387904))&&z13)&&z19)&&(!((gt x_.r.vers 0).dot.s != q.c_self)))) (g:=(!(Option.isNone q.under))) rfl rfl rfl rfl rfl (λhg52=>QV.qo (q_ld (c:=0) (v:=.string (gt [gvo q.under] 0).key) (hx55 (aD hk50 hg52) Nat.zero_lt_one).2 rfl D1 (grV hg52) rfl)) (wh1 (c0:=((((decide (q.next≤4611686018427387904))&&z13)&&z19)&&(!((gt x_.r.vers 0).dot.s != q.c_self)))) (g:=(!(Option.isNone q.under))) rfl rfl rfl rfl rfl (λ_=>QV.qo (q_fl 1 jg)) (wh1 (c0:=((((decide (q.next≤4611686018427387904))&&z13)&&z19)&&(!((gt x_.r.vers 0).dot.s != q.c_self)))) (g:=(!(Option.isNone q.under))) rfl rfl rfl rfl rfl (λhg57=>QV.qo (q_fl 1 kc rfl (grV hg57))) (wh1 (c0:=((((decide (q.next≤4611686018427387904))&&z13)&&z19)&&(!((gt x_.r.vers 0).dot.s != q.c_self)))) (g:=(!(Option.isNone q.under))) rfl rfl rfl rfl rfl (λhg58=>QV.qo (ldV 0 D1 (hx:=grV hg58))) (wh1 (c0:=((((decide (q.next≤4611686018427387904))&&z13)&&z19)&&(!((gt x_.r.vers 0).dot.s != q.c_self)))) (g:=(!(Option.isNone q.under))) rfl rfl rfl rfl rfl (λhg59=>QV.qo (rh rfl (grV hg59) (grV hg59))) ?_))))
 refine wh0 (c0:=(((decide (q.next≤4611686018427387904))&&z13)&&z19)) (g:=((gt x_.r.vers 0).dot.s != q.c_self)) rfl rfl rfl rfl rfl (λhg60=>QV.qo (fx rfl (grV hg60) (lr (c:=((((decide (q.next≤4611686018427387904))&&z13)&&z19)&&(!((gt x_.r.vers 0).dot.s != q.c_self)))) (g:=(!(Option.isNone q.under))) (y:=((gt [gvo q.under] 0).key==x_.r.key)) hg60))) (wh0 (c0:=(((decide (q.next≤4611686018427387904))&&z13)&&z19)) (g:=((gt x_.r.vers 0).dot.s != q.c_self)) rfl rfl rfl rfl rfl (λhg61=>QV.qo (au (v:=.bool ((!(Option.isNone q.under))&&((gt [gvo q.under] 0).key==x_.r.key))) rfl (grV hg61))) (wh1 (c0:=((((decide (q.next≤4611686018427387904))&&z13)&&z19)&&(!((gt x_.r.vers 0).dot.s != q.c_self)))) (g:=((!(Option.isNone q.under))&&((gt [gvo q.under] 0).key==x_.r.key))) rfl rfl rfl rfl rfl (λ_=>QV.qo (ldV 1 DQ)) (wh1 (c0:=((((decide (q.next≤4611686018427387904))&&z13)&&z19)&&(!((gt x_.r.vers 0).dot.s != q.c_self)))) (g:=((!(Option.isNone q.under))&&((gt [gvo q.under] 0).key==x_.r.key))) rfl rfl rfl rfl rfl (λhg63=>QV.qo (nlV (hv:=grV hg63))) ?_)))
 refine wh1 (c0:=((((decide (q.next≤4611686018427387904))&&z13)&&z19)&&(!((gt x_.r.vers 0).dot.s != q.c_self)))) (g:=((!(Option.isNone q.under))&&((gt [gvo q.under] 0).key==x_.r.key))) rfl rfl rfl rfl rfl (λhg64=>QV.qo (q_fl 8 gA rfl (grV hg64))) (wh1 (c0:=((((decide (q.next≤4611686018427387904))&&z13)&&z19)&&(!((gt x_.r.vers 0).dot.s != q.c_self)))) (g:=((!(Option.isNone q.under))&&((gt [gvo q.under] 0).key==x_.r.key))) rfl rfl rfl rfl rfl (λhg65=>QV.qo (eU (v:=.pointer A8_3) hgc5 rfl DR (grV hg65) rfl)) ?_)
 obtain⟨hk67,h⟩:=ag h
 refine wh1 (c0:=((((decide (q.next≤4611686018427387904))&&z13)&&z19)&&(!((gt x_.r.vers 0).dot.s != q.c_self)))) (g:=((!(Option.isNone q.under))&&((gt [gvo q.under] 0).key==x_.r.key))) rfl rfl rfl rfl rfl (λhg66=>QV.qo (oS ho9_3 (aD hk67 hg66) rfl (grV hg66))) (wh1 (c0:=((((decide (q.next≤4611686018427387904))&&z13)&&z19)&&(!((gt x_.r.vers 0).dot.s != q.c_self)))) (g:=((!(Option.isNone q.under))&&((gt [gvo q.under] 0).key==x_.r.key))) rfl rfl rfl rfl rfl (λhg68=>QV.qo (av (0+1) bG rfl (grV hg68) ((Pd.sl ho9_3 (aD hk67 hg68)).some_ Nat.zero_lt_one) rfl)) ?_)
 obtain⟨A70,c71,hx72⟩:=qv (λhs_=>(Pd.sl ho9_3 hs_).recT_at 0)
 refine wh1 (c0:=((((decide (q.next≤4611686018427387904))&&z13)&&z19)&&(!((gt x_.r.vers 0).dot.s != q.c_self)))) (g:=((!(Option.isNone q.under))&&((gt [gvo q.under] 0).key==x_.r.key))) rfl rfl rfl rfl rfl (λhg69=>QV.qo (q_ld (c:=1) (v:=.slice A70 ((gt [gvo q.under] 0).vers).length c71) (hx72 (aD hk67 hg69) Nat.zero_lt_one).2 rfl DB (grV hg69) rfl)) (wh1 (c0:=((((decide (q.next≤4611686018427387904))&&z13)&&z19)&&(!((gt x_.r.vers 0).dot.s != q.c_self)))) (g:=((!(Option.isNone q.under))&&((gt [gvo q.under] 0).key==x_.r.key))) rfl rfl rfl rfl rfl (λ_=>QV.qo (q_fl 1 jg)) (wh1 (c0:=((((decide (q.next≤4611686018427387904))&&z13)&&z19)&&(!((gt x_.r.vers 0).dot.s != q.c_self)))) (g:=((!(Option.isNone q.under))&&((gt [gvo q.under] 0).key==x_.r.key))) rfl rfl rfl rfl rfl (λhg74=>QV.qo (q_fl 2 bG rfl (grV hg74))) (wh1 (c0:=((((decide (q.next≤4611686018427387904))&&z13)&&z19)&&(!((gt x_.r.vers 0).dot.s != q.c_self)))) (g:=((!(Option.isNone q.under))&&((gt [gvo q.under] 0).key==x_.r.key))) rfl rfl rfl rfl rfl (λhg75=>QV.qo (ldV 0 DB (hx:=grV hg75))) ?_)))
 obtain⟨z77,hz78,h⟩:=bnd h
 refine wh1 (c0:=((((decide (q.next≤4611686018427387904))&&z13)&&z19)&&(!((gt x_.r.vers 0).dot.s != q.c_self)))) (g:=((!(Option.isNone q.under))&&((gt [gvo q.under] 0).key==x_.r.key))) rfl rfl rfl rfl rfl (λhg76=>(b3 (aE call49 rfl rfl (cN (grV hg76) (grV hg76))) (λw hw=>tT (Γ:=Gh.all w) ((hx72 (aD hk67 hg76) Nat.zero_lt_one).1.2.2.mono hw.sat.le_all) (hx72 (aD hk67 hg76) Nat.zero_lt_one).1.2.1 (hx_.2.2.2.mono hw.sat.le_all) hx_.2.2.1 (Sat.all w) (cK hz78 hg76)))) (wh0 (c0:=(((decide (q.next≤4611686018427387904))&&z13)&&z19)) (g:=((gt x_.r.vers 0).dot.s != q.c_self)) rfl rfl rfl rfl rfl (λhg79=>QV.qo (fx rfl (grV hg79) (lr (c:=((((decide (q.next≤4611686018427387904))&&z13)&&z19)&&(!((gt x_.r.vers 0).dot.s != q.c_self)))) (g:=((!(Option.isNone q.under))&&((gt [gvo q.under] 0).key==x_.r.key))) (y:=z77) hg79))) (wG1 (h:=λhg80=>fx rfl (grV hg80) (vR (c:=(((decide (q.next≤4611686018427387904))&&z13)&&z19)) (g:=((gt x_.r.vers 0).dot.s != q.c_self)) (y:=(((!(Option.isNone q.under))&&((gt [gvo q.under] 0).key==x_.r.key))&&z77)) hg80)) (k:=zV pkA (k:=zV aoV (k:=?_)))))
 refine Cd ?_
 change WC _ _ _ _ _ _
 exact C2 λw hw=>rq_ r h hF hw
abbrev uC(r:(List Int)×Int)(U:List Rowb)(Γ:Gh)(v:Value):Prop := ∃(A0:Option Addr), ∃(c0:Nat), ∃(row0:Rowb),v = .tuple #[.slice A0 r.1.length c0,.int .i64 r.2]∧U = [row0]∧Own intT Γ 2 row0 A0 c0 r.1∧I64 r.2∧True
theorem tP{Av_:Option Addr}{cv_:Nat}{v_:List Int}(hv_:Sl intT Γ Av_ v_)(hv_c:v_.length≤cv_)(d:Dot)(hd:Dot.fits Γ  d)(hp:Pre [] Γ w0){r:(List Int)×Int}(h:q9 v_ d=some r):Calls Tryz.prog 83 #[.slice Av_ v_.length cv_,.agg (Dot.cs d).toArray] w0 (Outc Γ [] w0 (uC r)):=by
 refine goV [4,5] func83 ntmps83 results83 hp λF hF=>?_
 refine BZ ?_
 refine bxV (v:=.agg (Dot.cs d).toArray) λg1=>?_
 refine aV (k:=aV (k:=BX (BZ (mV (k:=sV (q_fl 0 cz) (k:=sV (ldV 0 CY) (k:=?_)))))))
 obtain⟨z2,hz3,h⟩:=bnd h
 refine vqV (caV call26) (λw hw=>jj (Γ:=Gh.all w) (hv_.mono hw.sat.le_all) hv_c d.s hd.1 (Sat.all w) hz3) (k:=mV (k:=sV exV (k:=sV exV (k:=?_))))
 refine alV DO λg4=>?_
 refine stV 0 (.agg (Dot.cs z2.1).toArray) (Dot.cs z2.1).toArray DA (k:=aV (k:=BX (C1 (BZ (mV (k:=sV bO (k:=mV (k:=?_))))))))
 refine vG0 (h:=λhg5=>ldaV 0 (Dot.cs z2.1) Dz DA) (k:=vG0 (h:=λhg6=>ldaV 1 (Dot.cs d) Dz DA) (k:=vG0 (h:=λhg7=>pe (a:=z2.1) (b:=d) rfl (grV hg7) (grV hg7)) (k:=sV pkO (k:=BX ?_))))
 refine ciV h (λhb8 h=>?_) (λhb8 h=>?_)
 ·
  refine BZ (aV (k:=aV (k:=BX ?_)))
  refine C2 ?_
  intro w hw
  have hw:=hw.pad
  exact re_ r [0] h hF hw ⟨none,0,[],rfl,rfl,(Own.nil intT _ 2),iV,trivial⟩
 refine C4 (wc_ (BZ ?_))
 refine bsV #[] 2 λg9=>?_
 refine mV (k:=?_)
 have ho10:Own intT Γ 2 [(g9,.cells #[] 2 (0,0))] (some ⟨g9,0,none⟩) 0 ([]:List Int):=C7 (T:=intT) (ys:=([]:List Int)) [] rfl (show 0≤lim by decide) (show True from trivial)
 obtain⟨hk11,h⟩:=ag h
 refine apV 0 v_ iz ho10 (Cl hk11) (λw hw=>kQ hv_ hw) ?_
 intro row12 A13 c14 ho15
 refine aV (k:=BX (BZ (mV (k:=sV (q_fl 0 cz) (k:=sV (ldV 2 CY) (k:=sV iQ (k:=sV (q_fl 1 eP) (k:=?_))))))))
 refine sV (ldV 2 D0) (k:=?_)
 obtain⟨hk16,h⟩:=ag h
 refine sV (q_ix DN Dh rfl rfl rfl hk16 (ho15.some_ (dU hk16))) (k:=?_)
 refine jm (T:=intT) (q:=(w64 (d.s - 1)).toNat) (v:=ii d.n) (y:=d.n) rfl rfl rfl rfl (by kernel_rfl) Dh (by exact⟨rfl,hd.2⟩) (i:=0) rfl ho15 (dU hk16) ?_
 intro row17 ho18
 refine BX (BZ (mV (k:=aV (k:=aV (k:=BX ?_)))))
 refine C2 ?_
 rw [show Value.slice A13 ((([]:List Int)++v_).length) c14=Value.slice A13 ((List.set (([]:List Int)++v_) ((w64 (d.s - 1)).toNat) d.n).length) c14 from by first | (rw [List.length_set]; done) | (rw [List.length_set]; rfl)]
 intro w hw
 cases h
 subst hF
 exact aM (is:=[0]) (by kernel_rfl) hw rfl ⟨A13,c14,row17,rfl,rfl,ho18,iV,trivial⟩
abbrev oe(gq:Nat)(eq:Nat×Nat)(r:a6)(U:List Rowb)(Γ:Gh)(v:Value):Prop := ∃(rowq':Rowb),v = .tuple #[]∧U = [rowq']∧a6.ob eq Γ gq rowq' r∧True
theorem p9{gq:Nat}{eq:Nat×Nat}{rowq:Rowb}{q:a6}(hq:a6.ob eq Γ gq rowq q)(seq:Int)(hseq:I64 seq){Ar_1:Option Addr}{cr_1:Nat}(r_:Rec)(hr_:Rec.fits Γ Ar_1 cr_1 r_){Aroute:Option Addr}{croute:Nat}{route:List Int}(hroute:Sl intT Γ Aroute route)(hroutec:route.length≤croute){Asinks:Option Addr}{csinks:Nat}{sinks:List Int}(hsinks:Sl intT Γ Asinks sinks)(hsinksc:sinks.length≤csinks)(hp:Pre [rowq] Γ w0){r:a6}(h:kF q seq r_ route sinks=some r):Calls Tryz.prog 60 #[(pq gq),ii seq,.agg (Rec.cs Ar_1 cr_1 r_).toArray,.slice Aroute route.length croute,.slice Asinks sinks.length csinks] w0 (Outc Γ [rowq] w0 (oe gq eq r)):=by
 refine goV [] func60 ntmps60 results60 hp λF hF=>?_
 refine BZ ?_
 refine bxV (v:=.agg (Rec.cs Ar_1 cr_1 r_).toArray) λg1=>?_
 refine BX (BZ (mV (k:=sV (ldaV 0 (Rec.cs Ar_1 cr_1 r_) Dv Du) (k:=mV (k:=sV (aR (v:=.agg #[ii seq,.string r_.key,.slice Ar_1 r_.vers.length cr_1,.slice Aroute route.length croute]) rfl (qK rfl rfl rfl) (λw=>by kernel_rfl)) (k:=?_))))))
 refine iW (intK DT) gp.v rfl rfl rfl rfl ?_
 intro g2 row3 hm4
 refine sV (aR (v:=.agg #[ii seq,.string r_.key,.slice Ar_1 r_.vers.length cr_1,.slice Aroute route.length croute,.map (some g2)]) rfl (ib rfl rfl) (λw=>by kernel_rfl)) (k:=?_)
 refine alV zeroValue89 λg5=>?_
 refine stV 0 (.agg #[ii seq,.string r_.key,.slice Ar_1 r_.vers.length cr_1,.slice Aroute route.length croute,.map (some g2)]) #[ii seq,.string r_.key,.slice Ar_1 r_.vers.length cr_1,.slice Aroute route.length croute,.map (some g2)] DU (k:=BX (C1 (BZ (mV (k:=sV (ab rfl CW) (k:=mV (k:=BX ?_)))))))
 refine C5 ?_
 refine Cc h (λ(i10:Nat) (m6:List (Int×Bool)) σ w => ∃(row7:Rowb),slots σ [(0,(pq gq)),(4,.slice Asinks sinks.length csinks),(10,(pq g5)),(19,.slice Asinks sinks.length csinks),(20,ii (sinks.length:Int)),(21,ii (i10:Int))]∧CC F Γ [[(g5,.cells #[ii seq,.string r_.key,.slice Ar_1 r_.vers.length cr_1,.slice Aroute route.length croute,.map (some g2)] 89 (0,0))],row7,rowq] w∧MapO (intK DT) gp.v Γ row7 g2 m6∧True) ?_ ?_
 ·
  intro w hw
  exact⟨row3,slK,(hw.on [0,0,1]),hm4,trivial⟩
 rintro f9 i10 m6 σ w hi11 hlt12 hge13 ⟨row7,hsl,hw,ho8,-⟩
 refine slV hsl hw [_,_,_] ?_; clear hw hsl
 refine BZ (sV aQ (k:=BX (C1 ?_)))
 refine coV (λhb14=>?_) (λhb14=>?_)
 ·
  have hl15:=ilt hb14
  have h:=hlt12 hl15
  refine C4 (wc_ (C1 (C5 (BZ (sV (aO (i:=i10) CW CX rfl rfl rfl hl15 (hsinks.some_ hl15)) (k:=sV (q_ld (c:=0) (v:=ii (gt sinks i10)) (hsinks.intT_at hl15).2 rfl CY rfl rfl) (k:=aV (k:=?_))))))))
  refine BX ?_
  refine C3 ?_
  refine sV (q_fl 4 lk) (k:=sV (ldV 0 DV) (k:=mV (k:=?_)))
  refine kr (i:=1) (x:=(gt sinks i10)) (v:=.bool true) (a:=true) rfl rfl rfl DW rfl rfl (by kernel_rfl) rfl ho8 (by exact rfl) (hsinks.intT_at hl15).1 ?_
  intro row16 hm17
  refine C0 ?_
  change WC _ _ _ _ _ _
  refine C3 ?_
  refine sV (aw rfl rfl rfl (aA hl15 hsinks.le)) (k:=mV (k:=?_))
  exact C0 λw hw=>⟨hl15,(mput (gt sinks i10) true m6),h,row16,slK,hw,hm17,trivial⟩
 have h:=hge13 (ige hb14)
 refine C8 ?_
 change WC _ _ _ _ _ _
 refine BZ (mV (k:=sV (ab rfl CW) (k:=sV cp (k:=BX ?_))))
 refine ciV h (λhb18 h=>?_) (λhb18 h=>?_)
 ·
  refine leV λh019=>?_
  refine e7 (CC F Γ [[(g5,.cells #[ii seq,.string r_.key,.slice Ar_1 r_.vers.length cr_1,.slice Aroute route.length croute,.map (some g2)] 89 (0,0))]]) (bo_ [0] gR h019) λk=>?_
  change WH _ _ _ _ (CC F Γ [_,_,_]) _ 11 _ _
  refine hV 0 k (q:=moV) (k:=hV 1 k (q:=moV) (k:=hV 2 k (q:=nlV) (k:=hV 3 k (q:=q_fl 9 dO) (k:=hV 5 k (q:=ldaV 0 [ii seq,.string r_.key,.slice Ar_1 r_.vers.length cr_1,.slice Aroute route.length croute,.map (some g2)] isAgg89 DU) (k:=?_)))))
  refine Cj (l:=[4,6]) (by kernel_rfl) (by simp) ?_
  intro i hi; simp only [Ct,List.not_mem_nil,or_false] at hi
  rcases hi with rfl | rfl
  ·
   refine⟨_,rfl,?_⟩
   obtain⟨A2_20,c2_20,y5_20,g6_20,r6_20,A7_20,c7_20,A8_20,A9_20,c9_20,r9_20,m11_20,r11_20,A12_20,c12_20,hrow_20,ho0_20,ho1_20,ho2_20,ho3_20,ho4_20,ho5_20,ho6_20,ho7_20,ho8_20,ho9_20,ho10_20,ho11_20,ho12_20,ho13_20,ho14_20,-⟩:=id hq
   refine ufR 2 hrow_20 [_,_,_,_,_,_] ?_
   refine sV (ldV 0 DX) (k:=?_)
   refine C0 (nxV (bo_ [4] gR h019) λk=>?_)
   refine wl_ 6 rfl ?_
   refine bsV #[ii seq,.string r_.key,.slice Ar_1 r_.vers.length cr_1,.slice Aroute route.length croute,.map (some g2)] 89 λg21=>?_
   refine C0 (nxV (bo_ [5] gR h019) λk=>?_)
   refine wl_ 7 rfl ?_
   obtain⟨hk22,h⟩:=ag h
   refine rz (E:=aL) (T:=aZ) (K:=(intK DT)) (V:=gp.v) (i:=3) (j:=6) (m:=(⟨(⟨seq,(⟨r_.key,r_.vers⟩:Rec),route⟩:ai),m6⟩:aN)) (g:=g2) (xs:=q.list) vD rfl rfl rfl rfl rfl rfl rfl (by decide) rfl ho10_20 ho8 (Cl hk22) (λw hw=>cM (i:=0) rfl (by exact⟨Ar_1,cr_1,Aroute,croute,rfl,⟨hseq,hr_.1,⟨hr_.2.1,hr_.2.2⟩,⟨hroutec,hroute⟩⟩⟩) hw) ?_
   intro row23 A24 c25 hm26
   change WR _ _ _ (CC F Γ [_,_,_,_,_,_]) _ _ _
   refine C0 (nxV (bo_ [5] gR h019) λk=>?_)
   refine hV 8 k (q:=nlV) (k:=hV 9 k (q:=q_fl 9 dO) (k:=wl_ 10 rfl (stV 2 (.slice A24 ((q.list++[(⟨(⟨seq,(⟨r_.key,r_.vers⟩:Rec),route⟩:ai),m6⟩:aN)]).length) c25) #[ii q.c_self,ii q.c_sites,.slice A2_20 q.c_links.length c2_20,ii q.c_cap,ii q.c_base,y5_20,(pq g6_20),.slice A7_20 q.applied.length c7_20,.pointer A8_20,.slice A24 ((q.list++[(⟨(⟨seq,(⟨r_.key,r_.vers⟩:Rec),route⟩:ai),m6⟩:aN)]).length) c25,ii q.next,.map (some m11_20),.slice A12_20 q.members.length c12_20] sizeOf66 (k:=?_))))
   refine C0 (nxV (bo_ [5] gR h019) λk=>?_)
   refine Ca (by kernel_rfl) ?_
   intro w hw
   obtain⟨row_27,hrow_27,hob_27⟩:∃rw:Rowb,rw=([[(gq,.cells #[ii q.c_self,ii q.c_sites,.slice A2_20 q.c_links.length c2_20,ii q.c_cap,ii q.c_base,y5_20,(pq g6_20),.slice A7_20 q.applied.length c7_20,.pointer A8_20,.slice A24 ((q.list++[(⟨(⟨seq,(⟨r_.key,r_.vers⟩:Rec),route⟩:ai),m6⟩:aN)]).length) c25,ii q.next,.map (some m11_20),.slice A12_20 q.members.length c12_20] eq.1 (0,0))],r6_20,row23,r11_20]:List Rowb).flatten∧a6.ob eq Γ gq rw (⟨q.c_self,q.c_sites,q.c_links,q.c_cap,q.c_base,q.log,q.applied,q.under,(q.list++[(⟨(⟨seq,(⟨r_.key,r_.vers⟩:Rec),route⟩:ai),m6⟩:aN)]),q.next,q.gaps,q.members⟩:a6):=⟨_,rfl,A2_20,c2_20,(y5_20),g6_20,r6_20,A7_20,c7_20,A8_20,A24,c25,row23,m11_20,r11_20,A12_20,c12_20,rfl,ho0_20,ho1_20,ho2_20,ho3_20,ho4_20,ho5_20,ho6_20,ho7_20,ho8_20,ho9_20,hm26,ho11_20,ho12_20,ho13_20,ho14_20,trivial⟩
   have hw:=hw.fold (is:=[2,2,0,1]) rfl hrow_27
   cases h
   subst hF
   exact aM (is:=[0]) (by kernel_rfl) hw rfl ⟨row_27,rfl,rfl,hob_27,trivial⟩
  refine⟨_,rfl,?_⟩
  refine bsV #[ii seq,.string r_.key,.slice Ar_1 r_.vers.length cr_1,.slice Aroute route.length croute,.map (some g2)] 89 λg20=>?_
  refine C0 (nxV (bo_ [1] gR h019) λk=>?_)
  refine wl_ 4 rfl ?_
  obtain⟨A2_21,c2_21,y5_21,g6_21,r6_21,A7_21,c7_21,A8_21,A9_21,c9_21,r9_21,m11_21,r11_21,A12_21,c12_21,hrow_21,ho0_21,ho1_21,ho2_21,ho3_21,ho4_21,ho5_21,ho6_21,ho7_21,ho8_21,ho9_21,ho10_21,ho11_21,ho12_21,ho13_21,ho14_21,-⟩:=id hq
  refine ufR 3 hrow_21 [_,_,_,_,_,_,_] ?_
  refine sV (ldV 0 DX) (k:=?_)
  refine C0 (nxV (bo_ [5] gR h019) λk=>?_)
  refine wl_ 7 rfl ?_
  obtain⟨hk22,h⟩:=ag h
  refine rz (E:=aL) (T:=aZ) (K:=(intK DT)) (V:=gp.v) (i:=2) (j:=6) (m:=(⟨(⟨seq,(⟨r_.key,r_.vers⟩:Rec),route⟩:ai),m6⟩:aN)) (g:=g2) (xs:=q.list) vD rfl rfl rfl rfl rfl rfl rfl (by decide) rfl ho10_21 ho8 (Cl hk22) (λw hw=>cM (i:=4) rfl (by exact⟨Ar_1,cr_1,Aroute,croute,rfl,⟨hseq,hr_.1,⟨hr_.2.1,hr_.2.2⟩,⟨hroutec,hroute⟩⟩⟩) hw) ?_
  intro row23 A24 c25 hm26
  change WR _ _ _ (CC F Γ [_,_,_,_,_,_]) _ _ _
  refine C0 (nxV (bo_ [5] gR h019) λk=>?_)
  refine hV 8 k (q:=nlV) (k:=hV 9 k (q:=q_fl 9 dO) (k:=wl_ 10 rfl (stV 1 (.slice A24 ((q.list++[(⟨(⟨seq,(⟨r_.key,r_.vers⟩:Rec),route⟩:ai),m6⟩:aN)]).length) c25) #[ii q.c_self,ii q.c_sites,.slice A2_21 q.c_links.length c2_21,ii q.c_cap,ii q.c_base,y5_21,(pq g6_21),.slice A7_21 q.applied.length c7_21,.pointer A8_21,.slice A24 ((q.list++[(⟨(⟨seq,(⟨r_.key,r_.vers⟩:Rec),route⟩:ai),m6⟩:aN)]).length) c25,ii q.next,.map (some m11_21),.slice A12_21 q.members.length c12_21] sizeOf66 (k:=?_))))
  refine C0 (nxV (bo_ [5] gR h019) λk=>?_)
  refine Ca (by kernel_rfl) ?_
  intro w hw
  obtain⟨row_27,hrow_27,hob_27⟩:∃rw:Rowb,rw=([[(gq,.cells #[ii q.c_self,ii q.c_sites,.slice A2_21 q.c_links.length c2_21,ii q.c_cap,ii q.c_base,y5_21,(pq g6_21),.slice A7_21 q.applied.length c7_21,.pointer A8_21,.slice A24 ((q.list++[(⟨(⟨seq,(⟨r_.key,r_.vers⟩:Rec),route⟩:ai),m6⟩:aN)]).length) c25,ii q.next,.map (some m11_21),.slice A12_21 q.members.length c12_21] eq.1 (0,0))],r6_21,row23,r11_21]:List Rowb).flatten∧a6.ob eq Γ gq rw (⟨q.c_self,q.c_sites,q.c_links,q.c_cap,q.c_base,q.log,q.applied,q.under,(q.list++[(⟨(⟨seq,(⟨r_.key,r_.vers⟩:Rec),route⟩:ai),m6⟩:aN)]),q.next,q.gaps,q.members⟩:a6):=⟨_,rfl,A2_21,c2_21,(y5_21),g6_21,r6_21,A7_21,c7_21,A8_21,A24,c25,row23,m11_21,r11_21,A12_21,c12_21,rfl,ho0_21,ho1_21,ho2_21,ho3_21,ho4_21,ho5_21,ho6_21,ho7_21,ho8_21,ho9_21,hm26,ho11_21,ho12_21,ho13_21,ho14_21,trivial⟩
  have hw:=hw.fold (is:=[1,1,0,0]) rfl hrow_27
  cases h
  subst hF
  exact aM (is:=[0]) (by kernel_rfl) hw rfl ⟨row_27,rfl,rfl,hob_27,trivial⟩
 refine C4 ?_
 intro w hw
 cases h
 subst hF
 exact aM (is:=[2]) (by kernel_rfl) hw rfl ⟨rowq,rfl,rfl,hq,trivial⟩
abbrev oX(gq:Nat)(eq:Nat×Nat)(r:a6)(U:List Rowb)(Γ:Gh)(v:Value):Prop := ∃(rowq':Rowb),v = .tuple #[]∧U = [rowq']∧a6.ob eq Γ gq rowq' r∧True
theorem oc{gq:Nat}{eq:Nat×Nat}{rowq:Rowb}{q:a6}(hq:a6.ob eq Γ gq rowq q){Ax_0:Option Addr}{cx_0:Nat}{Ax_2:Option Addr}{cx_2:Nat}(x_:ae)(hx_:ae.fits Γ Ax_0 cx_0 Ax_2 cx_2 x_)(hp:Pre [rowq] Γ w0){r:a6}(h:ky q x_=some r):Calls Tryz.prog 55 #[(pq gq),.agg (ae.cs Ax_0 cx_0 Ax_2 cx_2 x_).toArray] w0 (Outc Γ [rowq] w0 (oX gq eq r)):=by
 refine goV [] func55 ntmps55 results55 hp λF hF=>?_
 refine BZ ?_
 refine bxV (v:=.agg (ae.cs Ax_0 cx_0 Ax_2 cx_2 x_).toArray) λg1=>?_
 refine BX (BZ (sV (q_fl 1 jg) (k:=sV (q_fl 2 bG) (k:=sV (ldV 0 DB) (k:=?_)))))
 obtain⟨hk2,h⟩:=ag h
 refine sV (aO (i:=0) Dy Dr rfl rfl rfl (Cl hk2) (hx_.2.2.2.some_ (Cl hk2))) (k:=sV (av (0*5) bJ rfl rfl (hx_.2.2.2.some_ (Cl hk2)) rfl) (k:=?_))
 obtain⟨A3,c4,hx5⟩:=hx_.2.2.2.verT_at 0
 refine sV (ik (c:=0) (vs:=[ii (gt x_.r.vers 0).dot.s,ii (gt x_.r.vers 0).dot.n]) (hx5 (Cl hk2)).2 rfl Dz DA rfl rfl rfl) (k:=?_)
 refine alV DO λg6=>?_
 refine stV 0 (.agg #[ii (gt x_.r.vers 0).dot.s,ii (gt x_.r.vers 0).dot.n]) #[ii (gt x_.r.vers 0).dot.s,ii (gt x_.r.vers 0).dot.n] DA (k:=BX (C1 ?_))
 refine leV λh07=>?_
 refine e7 (CC F Γ [[(g6,.cells #[ii (gt x_.r.vers 0).dot.s,ii (gt x_.r.vers 0).dot.n] 35 (0,0))],[(g1,.cells (ae.cs Ax_0 cx_0 Ax_2 cx_2 x_).toArray 86 (0,0))]]) (bo_ [0,0] gR h07) λk=>?_
 change WH _ _ _ _ (CC F Γ [_,_,_]) _ 13 _ _
 refine hV 0 k (q:=moV) (k:=hV 1 k (q:=moV) (k:=hV 2 k (q:=nlV) (k:=hV 3 k (q:=q_fl 7 cj) (k:=hV 5 k (q:=ldaV 0 [ii (gt x_.r.vers 0).dot.s,ii (gt x_.r.vers 0).dot.n] Dz DA) (k:=wl_ 4 rfl ?_)))))
 obtain⟨A2_8,c2_8,y5_8,g6_8,r6_8,A7_8,c7_8,A8_8,A9_8,c9_8,r9_8,m11_8,r11_8,A12_8,c12_8,hrow_8,ho0_8,ho1_8,ho2_8,ho3_8,ho4_8,ho5_8,ho6_8,ho7_8,ho8_8,ho9_8,ho10_8,ho11_8,ho12_8,ho13_8,ho14_8,-⟩:=id hq
 refine ufR 2 hrow_8 [_,_,_,_,_,_] ?_
 refine sV (ldV 0 DP) (k:=?_)
 refine C0 (nxV (bo_ [4,4] gR h07) λk=>?_)
 refine wl_ 6 rfl ?_
 obtain⟨z9,hz10,h⟩:=bnd h
 refine ecV [] (caV call83) (λw hp=>tP ho8_8 ho7_8 ((gt x_.r.vers 0).dot) ⟨(hx5 (Cl hk2)).1.1,(hx5 (Cl hk2)).1.2.1⟩ hp hz10) ?_
 rintro Γ11 _ _ hl12 ⟨A15,c16,row17,rfl,rfl,hr18,hr19,_⟩
 refine cwV 22 [_,_,_,_,_,_,_] ?_
 refine C0 (nxV (bo_ [5,5] hl12 h07) λk=>?_)
 refine hV 7 k (q:=moV) (k:=hV 8 k (q:=exV) (k:=hV 9 k (q:=exV) (k:=hV 10 k (q:=nlV) (k:=hV 11 k (q:=q_fl 7 cj) (k:=wl_ 12 rfl (stV 1 (.slice A15 z9.1.length c16) #[ii q.c_self,ii q.c_sites,.slice A2_8 q.c_links.length c2_8,ii q.c_cap,ii q.c_base,y5_8,(pq g6_8),.slice A15 z9.1.length c16,.pointer A8_8,.slice A9_8 q.list.length c9_8,ii q.next,.map (some m11_8),.slice A12_8 q.members.length c12_8] DY (k:=?_)))))))
 refine C0 (nxV (bo_ [5,5] hl12 h07) λk=>?_)
 refine Ca (by kernel_rfl) ?_
 change WC _ _ _ _ _ _
 have hc24:=hr18.capz
 refine seC 0 [_,_,_,_,_,_,_] λΓ20 hl21 hr22=>?_
 have hs23:=hr18.sl hl21 hr22
 obtain⟨row_25,hrow_25,hob_25⟩:∃rw:Rowb,rw=([[(gq,.cells #[ii q.c_self,ii q.c_sites,.slice A2_8 q.c_links.length c2_8,ii q.c_cap,ii q.c_base,y5_8,(pq g6_8),.slice A15 z9.1.length c16,.pointer A8_8,.slice A9_8 q.list.length c9_8,ii q.next,.map (some m11_8),.slice A12_8 q.members.length c12_8] eq.1 (0,0))],r6_8,r9_8,r11_8]:List Rowb).flatten∧a6.ob eq Γ20 gq rw (⟨q.c_self,q.c_sites,q.c_links,q.c_cap,q.c_base,q.log,z9.1,q.under,q.list,q.next,q.gaps,q.members⟩:a6):=⟨_,rfl,A2_8,c2_8,(y5_8),g6_8,r6_8,A15,c16,A8_8,A9_8,c9_8,r9_8,m11_8,r11_8,A12_8,c12_8,rfl,ho0_8,ho1_8,ho2_8,(ho3_8.mono (hl12.trans hl21)),ho4_8,ho5_8,(ho6_8.mono (hl12.trans hl21)),hc24,hs23,(ho9_8.mono (hl12.trans hl21)),(ho10_8.mono (hl12.trans hl21)),ho11_8,(ho12_8.mono (hl12.trans hl21)),ho13_8,(ho14_8.mono (hl12.trans hl21)),trivial⟩
 refine foC [1,1,1,1] hrow_25 [_,_,_,_] ?_
 refine Ce (λσ w => ∃(o26:a6), ∃(row27:Rowb),gy x_ o26=some r∧slots σ [(0,(pq gq)),(3,(pq g1))]∧CC F Γ20 [row27,[(g1,.cells (ae.cs Ax_0 cx_0 Ax_2 cx_2 x_).toArray 86 (0,0))]] w∧a6.ob eq Γ20 gq row27 o26∧True) ?_ ?_
 ·
  refine C1 ?_
  obtain⟨A2_29,c2_29,y5_29,g6_29,r6_29,A7_29,c7_29,A8_29,A9_29,c9_29,r9_29,m11_29,r11_29,A12_29,c12_29,hrow_29,ho0_29,ho1_29,ho2_29,ho3_29,ho4_29,ho5_29,ho6_29,ho7_29,ho8_29,ho9_29,ho10_29,ho11_29,ho12_29,ho13_29,ho14_29,-⟩:=id hob_25
  refine ufC 0 hrow_29 [_,_,_,_,_,_,_] ?_
  refine drV ?_
  refine zV (q_fl 0 cz) (k:=zV (ldV 5 CY) (k:=zV moV (k:=zV nlV (k:=zV (q_fl 0 ix) (k:=zV (q_fl 0 ke) (k:=zV (ldV 0 CY) (k:=zV bD (k:=?_))))))))
  refine Cd ?_
  change WC _ _ _ _ _ _
  refine ciV h (λhb30 h=>?_) (λhb30 h=>?_)
  ·
   refine C3 ?_
   refine mV (k:=sV nlV (k:=sV (q_fl 8 gA) (k:=?_)))
   refine stV 0 (.pointer none) #[ii (⟨q.c_self,q.c_sites,q.c_links,q.c_cap,q.c_base,q.log,z9.1,q.under,q.list,q.next,q.gaps,q.members⟩:a6).c_self,ii (⟨q.c_self,q.c_sites,q.c_links,q.c_cap,q.c_base,q.log,z9.1,q.under,q.list,q.next,q.gaps,q.members⟩:a6).c_sites,.slice A2_29 ((⟨q.c_self,q.c_sites,q.c_links,q.c_cap,q.c_base,q.log,z9.1,q.under,q.list,q.next,q.gaps,q.members⟩:a6).c_links).length c2_29,ii (⟨q.c_self,q.c_sites,q.c_links,q.c_cap,q.c_base,q.log,z9.1,q.under,q.list,q.next,q.gaps,q.members⟩:a6).c_cap,ii (⟨q.c_self,q.c_sites,q.c_links,q.c_cap,q.c_base,q.log,z9.1,q.under,q.list,q.next,q.gaps,q.members⟩:a6).c_base,y5_29,(pq g6_29),.slice A7_29 ((⟨q.c_self,q.c_sites,q.c_links,q.c_cap,q.c_base,q.log,z9.1,q.under,q.list,q.next,q.gaps,q.members⟩:a6).applied).length c7_29,.pointer none,.slice A9_29 ((⟨q.c_self,q.c_sites,q.c_links,q.c_cap,q.c_base,q.log,z9.1,q.under,q.list,q.next,q.gaps,q.members⟩:a6).list.length) c9_29,ii (⟨q.c_self,q.c_sites,q.c_links,q.c_cap,q.c_base,q.log,z9.1,q.under,q.list,q.next,q.gaps,q.members⟩:a6).next,.map (some m11_29),.slice A12_29 ((⟨q.c_self,q.c_sites,q.c_links,q.c_cap,q.c_base,q.log,z9.1,q.under,q.list,q.next,q.gaps,q.members⟩:a6).members).length c12_29] sizeOf65 (k:=?_)
   refine C0 ?_
   intro w hw
   obtain⟨row_31,hrow_31,hob_31⟩:∃rw:Rowb,rw=([[(gq,.cells #[ii (⟨q.c_self,q.c_sites,q.c_links,q.c_cap,q.c_base,q.log,z9.1,q.under,q.list,q.next,q.gaps,q.members⟩:a6).c_self,ii (⟨q.c_self,q.c_sites,q.c_links,q.c_cap,q.c_base,q.log,z9.1,q.under,q.list,q.next,q.gaps,q.members⟩:a6).c_sites,.slice A2_29 ((⟨q.c_self,q.c_sites,q.c_links,q.c_cap,q.c_base,q.log,z9.1,q.under,q.list,q.next,q.gaps,q.members⟩:a6).c_links).length c2_29,ii (⟨q.c_self,q.c_sites,q.c_links,q.c_cap,q.c_base,q.log,z9.1,q.under,q.list,q.next,q.gaps,q.members⟩:a6).c_cap,ii (⟨q.c_self,q.c_sites,q.c_links,q.c_cap,q.c_base,q.log,z9.1,q.under,q.list,q.next,q.gaps,q.members⟩:a6).c_base,y5_29,(pq g6_29),.slice A7_29 ((⟨q.c_self,q.c_sites,q.c_links,q.c_cap,q.c_base,q.log,z9.1,q.under,q.list,q.next,q.gaps,q.members⟩:a6).applied).length c7_29,.pointer none,.slice A9_29 ((⟨q.c_self,q.c_sites,q.c_links,q.c_cap,q.c_base,q.log,z9.1,q.under,q.list,q.next,q.gaps,q.members⟩:a6).list.length) c9_29,ii (⟨q.c_self,q.c_sites,q.c_links,q.c_cap,q.c_base,q.log,z9.1,q.under,q.list,q.next,q.gaps,q.members⟩:a6).next,.map (some m11_29),.slice A12_29 ((⟨q.c_self,q.c_sites,q.c_links,q.c_cap,q.c_base,q.log,z9.1,q.under,q.list,q.next,q.gaps,q.members⟩:a6).members).length c12_29] eq.1 (0,0))],r6_29,r9_29,r11_29]:List Rowb).flatten∧a6.ob eq Γ20 gq rw (⟨(⟨q.c_self,q.c_sites,q.c_links,q.c_cap,q.c_base,q.log,z9.1,q.under,q.list,q.next,q.gaps,q.members⟩:a6).c_self,(⟨q.c_self,q.c_sites,q.c_links,q.c_cap,q.c_base,q.log,z9.1,q.under,q.list,q.next,q.gaps,q.members⟩:a6).c_sites,(⟨q.c_self,q.c_sites,q.c_links,q.c_cap,q.c_base,q.log,z9.1,q.under,q.list,q.next,q.gaps,q.members⟩:a6).c_links,(⟨q.c_self,q.c_sites,q.c_links,q.c_cap,q.c_base,q.log,z9.1,q.under,q.list,q.next,q.gaps,q.members⟩:a6).c_cap,(⟨q.c_self,q.c_sites,q.c_links,q.c_cap,q.c_base,q.log,z9.1,q.under,q.list,q.next,q.gaps,q.members⟩:a6).c_base,(⟨q.c_self,q.c_sites,q.c_links,q.c_cap,q.c_base,q.log,z9.1,q.under,q.list,q.next,q.gaps,q.members⟩:a6).log,(⟨q.c_self,q.c_sites,q.c_links,q.c_cap,q.c_base,q.log,z9.1,q.under,q.list,q.next,q.gaps,q.members⟩:a6).applied,none,(⟨q.c_self,q.c_sites,q.c_links,q.c_cap,q.c_base,q.log,z9.1,q.under,q.list,q.next,q.gaps,q.members⟩:a6).list,(⟨q.c_self,q.c_sites,q.c_links,q.c_cap,q.c_base,q.log,z9.1,q.under,q.list,q.next,q.gaps,q.members⟩:a6).next,(⟨q.c_self,q.c_sites,q.c_links,q.c_cap,q.c_base,q.log,z9.1,q.under,q.list,q.next,q.gaps,q.members⟩:a6).gaps,(⟨q.c_self,q.c_sites,q.c_links,q.c_cap,q.c_base,q.log,z9.1,q.under,q.list,q.next,q.gaps,q.members⟩:a6).members⟩:a6):=⟨_,rfl,A2_29,c2_29,(y5_29),g6_29,r6_29,A7_29,c7_29,none,A9_29,c9_29,r9_29,m11_29,r11_29,A12_29,c12_29,rfl,ho0_29,ho1_29,ho2_29,ho3_29,ho4_29,ho5_29,ho6_29,ho7_29,ho8_29,(Pd.nil _ _),ho10_29,ho11_29,ho12_29,ho13_29,ho14_29,trivial⟩
   have hw:=hw.fold (is:=[0,0,0,0]) rfl hrow_31
   exact⟨(⟨(⟨q.c_self,q.c_sites,q.c_links,q.c_cap,q.c_base,q.log,z9.1,q.under,q.list,q.next,q.gaps,q.members⟩:a6).c_self,(⟨q.c_self,q.c_sites,q.c_links,q.c_cap,q.c_base,q.log,z9.1,q.under,q.list,q.next,q.gaps,q.members⟩:a6).c_sites,(⟨q.c_self,q.c_sites,q.c_links,q.c_cap,q.c_base,q.log,z9.1,q.under,q.list,q.next,q.gaps,q.members⟩:a6).c_links,(⟨q.c_self,q.c_sites,q.c_links,q.c_cap,q.c_base,q.log,z9.1,q.under,q.list,q.next,q.gaps,q.members⟩:a6).c_cap,(⟨q.c_self,q.c_sites,q.c_links,q.c_cap,q.c_base,q.log,z9.1,q.under,q.list,q.next,q.gaps,q.members⟩:a6).c_base,(⟨q.c_self,q.c_sites,q.c_links,q.c_cap,q.c_base,q.log,z9.1,q.under,q.list,q.next,q.gaps,q.members⟩:a6).log,(⟨q.c_self,q.c_sites,q.c_links,q.c_cap,q.c_base,q.log,z9.1,q.under,q.list,q.next,q.gaps,q.members⟩:a6).applied,none,(⟨q.c_self,q.c_sites,q.c_links,q.c_cap,q.c_base,q.log,z9.1,q.under,q.list,q.next,q.gaps,q.members⟩:a6).list,(⟨q.c_self,q.c_sites,q.c_links,q.c_cap,q.c_base,q.log,z9.1,q.under,q.list,q.next,q.gaps,q.members⟩:a6).next,(⟨q.c_self,q.c_sites,q.c_links,q.c_cap,q.c_base,q.log,z9.1,q.under,q.list,q.next,q.gaps,q.members⟩:a6).gaps,(⟨q.c_self,q.c_sites,q.c_links,q.c_cap,q.c_base,q.log,z9.1,q.under,q.list,q.next,q.gaps,q.members⟩:a6).members⟩:a6),row_31,h,slK,(hw.on [0,2]),hob_31,trivial⟩
  refine C4 ?_
  intro w hw
  have hw:=hw.fold (is:=[0,0,0,0]) rfl hrow_29
  exact⟨(⟨q.c_self,q.c_sites,q.c_links,q.c_cap,q.c_base,q.log,z9.1,q.under,q.list,q.next,q.gaps,q.members⟩:a6),row_25,h,slK,(hw.on [0,2]),hob_25,trivial⟩
 rintro σ w ⟨o26,row27,h,hsl,hw,ho28,-⟩
 refine slV hsl hw [_,_] ?_; clear hw hsl
 refine BZ (aV (k:=BX (C1 (BZ (mV (k:=sV nlV (k:=sV (q_fl 0 ix) (k:=?_))))))))
 refine sV (q_fl 2 iJ) (k:=?_)
 obtain⟨A2_33,c2_33,y5_33,g6_33,r6_33,A7_33,c7_33,A8_33,A9_33,c9_33,r9_33,m11_33,r11_33,A12_33,c12_33,hrow_33,ho0_33,ho1_33,ho2_33,ho3_33,ho4_33,ho5_33,ho6_33,ho7_33,ho8_33,ho9_33,ho10_33,ho11_33,ho12_33,ho13_33,ho14_33,-⟩:=id ho28
 refine ufR 0 hrow_33 [_,_,_,_,_] ?_
 refine sV (ldV 0 CZ) (k:=sV (ab rfl CW) (k:=mV (k:=BX (C5 ?_))))
 refine foC [0,0,0,0] hrow_33 [_,_] ?_
 refine Cc h (λ(i41:Nat) (sinks_35:List Int) σ w => ∃(A36:Option Addr), ∃(c37:Nat), ∃(row38:Rowb),slots σ [(0,(pq gq)),(3,(pq g1)),(5,.slice A36 sinks_35.length c37),(42,.slice A2_33 o26.c_links.length c2_33),(43,ii (o26.c_links.length:Int)),(44,ii (i41:Int))]∧CC F Γ20 [row38,row27,[(g1,.cells (ae.cs Ax_0 cx_0 Ax_2 cx_2 x_).toArray 86 (0,0))]] w∧Own intT Γ20 3 row38 A36 c37 sinks_35∧True) ?_ ?_
 ·
  intro w hw
  have hw:=hw.pad
  exact⟨none,0,[],slK,hw,(Own.nil intT _ 3),trivial⟩
 rintro f40 i41 sinks_35 σ w hi42 hlt43 hge44 ⟨A36,c37,row38,hsl,hw,ho39,-⟩
 refine slV hsl hw [_,_,_] ?_; clear hw hsl
 refine BZ (sV aQ (k:=BX (C1 ?_)))
 refine coV (λhb45=>?_) (λhb45=>?_)
 ·
  have hl46:=ilt hb45
  have h:=hlt43 hl46
  refine C4 (wc_ ?_)
  refine Ce (λσ w => ∃(sinks_47:List Int), ∃(A48:Option Addr), ∃(c49:Nat), ∃(row50:Rowb),gC f40 sinks_47=some r∧slots σ [(0,(pq gq)),(3,(pq g1)),(5,.slice A48 sinks_47.length c49),(42,.slice A2_33 o26.c_links.length c2_33),(43,ii (o26.c_links.length:Int)),(44,ii (i41:Int))]∧CC F Γ20 [row50,row27,[(g1,.cells (ae.cs Ax_0 cx_0 Ax_2 cx_2 x_).toArray 86 (0,0))]] w∧Own intT Γ20 3 row50 A48 c49 sinks_47∧True) ?_ ?_
  ·
   refine C5 (BZ (sV (aO (i:=i41) CW CX rfl rfl rfl hl46 (ho3_33.some_ hl46)) (k:=sV (q_ld (c:=0) (v:=ii (gt o26.c_links i41)) (ho3_33.intT_at hl46).2 rfl CY rfl rfl) (k:=aV (k:=BX (BZ (sV (q_fl 0 mK) (k:=?_))))))))
   refine sV (ldV 2 CZ) (k:=mV (k:=?_))
   obtain⟨z52,hz53,h⟩:=bnd h
   refine vqV (caV call79) (λw hw=>e8 (Γ:=Gh.all w) ((hx_.1.2.mono (hl12.trans hl21)).mono hw.sat.le_all) hx_.1.1 (gt o26.c_links i41) (ho3_33.intT_at hl46).1 (Sat.all w) hz53) (k:=sV aX (k:=BX ?_))
   refine ciV h (λhb54 h=>?_) (λhb54 h=>?_)
   ·
    refine C3 ?_
    refine mV (k:=mV (k:=?_))
    refine bsV #[ii (gt o26.c_links i41)] 3 λg55=>?_
    obtain⟨hk56,h⟩:=ag h
    refine apV 1 [(gt o26.c_links i41)] lD ho39 (Cl hk56) (λw hw=>cM (i:=0) rfl (by exact⟨rfl,(ho3_33.intT_at hl46).1⟩) hw) ?_
    intro row57 A58 c59 ho60
    refine aV (k:=?_)
    exact C0 λw hw=>⟨(sinks_35++[(gt o26.c_links i41)]),A58,c59,row57,h,slK,(hw.on [1,1,1]),ho60,trivial⟩
   exact C4 λw hw=>⟨sinks_35,A36,c37,row38,h,slK,hw,ho39,trivial⟩
  rintro σ w ⟨sinks_47,A48,c49,row50,h,hsl,hw,ho51,-⟩
  refine slV hsl hw [_,_,_] ?_; clear hw hsl
  refine C3 ?_
  refine sV (aw rfl rfl rfl (aA hl46 ho3_33.le)) (k:=mV (k:=?_))
  exact C0 λw hw=>⟨hl46,sinks_47,h,A48,c49,row50,slK,hw,ho51,trivial⟩
 have h:=hge44 (ige hb45)
 refine C8 ?_
 change WC _ _ _ _ _ _
 refine C1 ?_
 have hc65:=ho39.capz
 refine seC 0 [_,_,_] λΓ61 hl62 hr63=>?_
 have hs64:=ho39.sl hl62 hr63
 refine leV λh066=>?_
 refine e7 (CC F Γ61 [[],[(g1,.cells (ae.cs Ax_0 cx_0 Ax_2 cx_2 x_).toArray 86 (0,0))]]) (bo_ [0,1] gR h066) λk=>?_
 change WH _ _ _ _ (CC F Γ61 [_,_,_]) _ 11 _ _
 refine hV 0 k (q:=moV) (k:=hV 1 k (q:=moV) (k:=hV 2 k (q:=nlV) (k:=hV 3 k (q:=q_fl 10 p6) (k:=hV 5 k (q:=q_fl 1 jg) (k:=hV 6 k (q:=ldaV 1 (Rec.cs Ax_2 cx_2 x_.r) Dv Du) (k:=hV 7 k (q:=q_fl 0 mK) (k:=hV 8 k (q:=ldV 1 CZ) (k:=?_))))))))
 refine hV 9 k (q:=moV) (k:=wl_ 4 rfl ?_)
 obtain⟨A2_67,c2_67,y5_67,g6_67,r6_67,A7_67,c7_67,A8_67,A9_67,c9_67,r9_67,m11_67,r11_67,A12_67,c12_67,hrow_67,ho0_67,ho1_67,ho2_67,ho3_67,ho4_67,ho5_67,ho6_67,ho7_67,ho8_67,ho9_67,ho10_67,ho11_67,ho12_67,ho13_67,ho14_67,-⟩:=(ho28.mono hl62)
 refine ufR 1 hrow_67 [_,_,_,_,_,_] ?_
 refine sV (ldV 0 D0) (k:=?_)
 refine C0 (nxV (bo_ [4,4] gR h066) λk=>?_)
 refine wl_ 10 rfl ?_
 refine foR [0,0,0,0] hrow_67 [_,_,_] ?_
 obtain⟨z69,hz70,h⟩:=bnd h
 refine ecV [0] (caV call60) (λw hp=>p9 (ho28.mono hl62) o26.next ho11_67 x_.r ⟨hx_.2.1,⟨hx_.2.2.1,(hx_.2.2.2.mono ((hl12.trans hl21).trans hl62))⟩⟩ (hx_.1.2.mono ((hl12.trans hl21).trans hl62)) hx_.1.1 hs64 hc65 hp hz70) ?_
 rintro Γ71 _ _ hl72 ⟨row75,rfl,rfl,hr76,_⟩
 refine cwV 68 [_,_,_] ?_
 refine C0 (nxV (bo_ [1,1] hl72 h066) λk=>?_)
 refine Ca (by kernel_rfl) ?_
 change WC _ _ _ _ _ _
 refine BZ (mV (k:=sV nlV (k:=sV (q_fl 10 p6) (k:=?_))))
 obtain⟨A2_77,c2_77,y5_77,g6_77,r6_77,A7_77,c7_77,A8_77,A9_77,c9_77,r9_77,m11_77,r11_77,A12_77,c12_77,hrow_77,ho0_77,ho1_77,ho2_77,ho3_77,ho4_77,ho5_77,ho6_77,ho7_77,ho8_77,ho9_77,ho10_77,ho11_77,ho12_77,ho13_77,ho14_77,-⟩:=id hr76
 refine ufR 0 hrow_77 [_,_,_,_,_,_] ?_
 refine sV (ldV 0 D0) (k:=sV eH (k:=sV nlV (k:=sV (q_fl 10 p6) (k:=stV 0 (ii (w64 (z69.next+1))) #[ii z69.c_self,ii z69.c_sites,.slice A2_77 z69.c_links.length c2_77,ii z69.c_cap,ii z69.c_base,y5_77,(pq g6_77),.slice A7_77 z69.applied.length c7_77,.pointer A8_77,.slice A9_77 z69.list.length c9_77,ii (w64 (z69.next+1)),.map (some m11_77),.slice A12_77 z69.members.length c12_77] Dh (k:=BX (C1 ?_))))))
 refine drV ?_
 refine zV moV (k:=zV nlV (k:=zV (q_fl 9 dO) (k:=zV (ldV 0 DX) (k:=?_))))
 have hlen78:z69.list.length≤lim:=ho10_77.le
 refine zV (ab rfl DZ) (k:=zV moV (k:=zV nlV (k:=zV (q_fl 0 ix) (k:=zV (q_fl 3 rF) (k:=zV (ldV 0 CY) (k:=zV cp (k:=?_)))))))
 refine Cd ?_
 change WC _ _ _ _ _ _
 refine ciV h (λhb79 h=>?_) (λhb79 h=>?_)
 ·
  refine C1 (BZ (mV (k:=sV nlV (k:=sV (q_fl 9 dO) (k:=sV (ldV 0 DX) (k:=?_))))))
  obtain⟨hk80,h⟩:=ag h
  refine sV (aO (i:=0) DZ DU rfl rfl rfl (Cl hk80) (ho10_77.some_ (Cl hk80))) (k:=sV (av (0*5+4) lk rfl rfl (ho10_77.some_ (Cl hk80)) rfl) (k:=?_))
  obtain⟨g_81,rL_81,rA_81,rM_81,rB_81,cs_81,hrow_81,hrd_81,hvc_81,hsub_81,hm_81,hback_81⟩:=LM.part ho10_77 (Cl hk80)
  obtain⟨A_81_2,c_81_2,A_81_3,c_81_3,rfl,hrd_81⟩:=hrd_81
  have hs1_81:∀p∈rL_81,p∈r9_77:=λp hp=>by rw [hrow_81]; exact List.mem_append.2 (.inl (hsub_81 p hp))
  have hs2_81:∀p∈rM_81,p∈r9_77:=λp hp=>by rw [hrow_81]; exact List.mem_append.2 (.inr (List.mem_append.2 (.inl hp)))
  refine sV (xH (c:=4) (v:=.map (some g_81)) (i:=2) rfl hs1_81 hvc_81 rfl DV rfl rfl) (k:=?_)
  intro w hw; have hw:=hw.unfold (U:=[rA_81,rM_81,rB_81]) (i:=2) rfl (by rw [hrow_81]; simp)
  refine WR.here (C:=CC F Γ71 [_,_,_,_,_,_,_,_]) ?_ hw
  clear hw
  refine ww hm_81 (λw hw p hp=>hw.at_ (i:=1) rfl hp) rfl rfl rfl DW rfl ?_
  intro g82 row83 hi84
  refine cwV 94 [_,_,_,_,_,_,_,_,_] (BX (C5 ?_))
  refine WC.forEq h vV (yY (c:=true) (λ_ _=>rfl)) hm_81.nodup (xM ho12_77.nodup) (λ(l85:List (Int×Bool)) (m88:List (Int×Bool)) σ w => ∃(row86:Rowb), ∃(row89:Rowb),slots σ [(0,(pq gq)),(94,(pq g82))]∧CC F Γ71 [row86,rA_81,rM_81,rB_81,[(gq,.cells #[ii z69.c_self,ii z69.c_sites,.slice A2_77 z69.c_links.length c2_77,ii z69.c_cap,ii z69.c_base,y5_77,(pq g6_77),.slice A7_77 z69.applied.length c7_77,.pointer A8_77,.slice A9_77 z69.list.length c9_77,ii (w64 (z69.next+1)),.map (some m11_77),.slice A12_77 z69.members.length c12_77] eq.1 (0,0))],r6_77,row89] w∧ItO (intK DT) gp.v Γ71 row86 g82 g_81 rM_81 ((gt z69.list 0).want) l85∧MapO (intK DT) gp.v Γ71 row89 m11_77 m88∧True) ?_ ?_
  ·
   intro w hw
   exact⟨row83,r11_77,slK,(hw.on [0,0,0,0,0,0,0]),hi84,ho12_77,trivial⟩
  rintro G96 l85 m88 σ w hstep91 hK92 ⟨row86,row89,hsl,hw,hi87,ho90,-⟩
  refine slV hsl hw [_,_,_,_,_,_,_] ?_; clear hw hsl
  refine BZ ?_
  refine yg (i:=0) rfl hm_81.ks hi87 (λw hw p hp=>hw.at_ (i:=2) rfl hp) rfl rfl rfl rfl (λhl97=>?_) (λen98 l99 v100 row101 hp102 hok103 hv104 hit105 he106=>?_)
  ·
   obtain⟨m107,hp108,h⟩:=hK92 hl97
   refine cwV 95 [_,_,_,_,_,_,_] (sV exV (k:=BX (C1 ?_)))
   refine Cb (b:=false) (by kernel_rfl) rfl ?_
   refine C8 ?_
   change WC _ _ _ _ _ _
   refine C3 ?_
   refine mV (k:=mV (k:=sV nlV (k:=sV (q_fl 9 dO) (k:=sV (ldV 4 DX) (k:=?_)))))
   intro w hw; have hw:=hw.fold (is:=[1,1,1]) rfl (show r9_77=([rA_81,rM_81,rB_81]:List Rowb).flatten from by rw [hrow_81]; simp)
   refine WR.here (C:=CC F Γ71 [_,_,_,_,_]) ?_ hw
   clear hw
   obtain⟨hk109,h⟩:=ag h
   refine sV (lx (c:=c9_77) (lo:=1) (xs:=z69.list) DZ DU rfl rfl rfl (Cl hk109)) (k:=sV nlV (k:=sV (q_fl 9 dO) (k:=?_)))
   obtain⟨row110,hp_111,hm112⟩:=LM.cut_from (lo:=1) ho10_77 (Cl hk109)
   refine WR.reorder (i:=0) rfl hp_111 ?_
   refine stV 2 (.slice (if c9_77=1 then A9_77 else Option.map (λa=>a.add (1*5)) A9_77) ((List.drop 1 z69.list).length) (c9_77 - 1)) #[ii z69.c_self,ii z69.c_sites,.slice A2_77 z69.c_links.length c2_77,ii z69.c_cap,ii z69.c_base,y5_77,(pq g6_77),.slice A7_77 z69.applied.length c7_77,.pointer A8_77,.slice (if c9_77=1 then A9_77 else Option.map (λa=>a.add (1*5)) A9_77) ((List.drop 1 z69.list).length) (c9_77 - 1),ii (w64 (z69.next+1)),.map (some m11_77),.slice A12_77 z69.members.length c12_77] sizeOf66 (k:=?_)
   refine C0 ?_
   intro w hw
   obtain⟨row_113,hrow_113,hob_113⟩:∃rw:Rowb,rw=([[(gq,.cells #[ii z69.c_self,ii z69.c_sites,.slice A2_77 z69.c_links.length c2_77,ii z69.c_cap,ii z69.c_base,y5_77,(pq g6_77),.slice A7_77 z69.applied.length c7_77,.pointer A8_77,.slice (if c9_77=1 then A9_77 else Option.map (λa=>a.add (1*5)) A9_77) ((List.drop 1 z69.list).length) (c9_77 - 1),ii (w64 (z69.next+1)),.map (some m11_77),.slice A12_77 z69.members.length c12_77] eq.1 (0,0))],r6_77,row110,row89]:List Rowb).flatten∧a6.ob eq Γ71 gq rw (⟨z69.c_self,z69.c_sites,z69.c_links,z69.c_cap,z69.c_base,z69.log,z69.applied,z69.under,(List.drop 1 z69.list),(w64 (z69.next+1)),m107,z69.members⟩:a6):=⟨_,rfl,A2_77,c2_77,(y5_77),g6_77,r6_77,A7_77,c7_77,A8_77,(if c9_77=1 then A9_77 else Option.map (λa=>a.add (1*5)) A9_77),(c9_77 - 1),row110,m11_77,row89,A12_77,c12_77,rfl,ho0_77,ho1_77,ho2_77,ho3_77,ho4_77,ho5_77,ho6_77,ho7_77,ho8_77,ho9_77,hm112,(ji _),(ho90.perm hp108.1),ho13_77,ho14_77,trivial⟩
   have hw:=hw.fold (is:=[2,2,0,1]) rfl hrow_113
   cases h
   subst hF
   exact aM (is:=[0]) (by kernel_rfl) hw rfl ⟨row_113,rfl,rfl,hob_113,trivial⟩
  obtain⟨hlen93,s294,h,hgo95⟩:=hstep91 en98 l99 hp102
  obtain rfl:v100=_:=List.cons.inj hv104 |>.1
  refine cwV 95 [_,_,_,_,_,_,_] (sV exV (k:=BX (C1 ?_)))
  refine Ch (b:=true) (by kernel_rfl) rfl ?_
  refine C4 (wc_ (C5 (BZ (sV (we (kv:=ii en98.1) (v:=.bool en98.2) (i:=0) rfl he106 (λw hw p hp=>hw.at_ (i:=2) rfl hp) rfl rfl) (k:=sV exV (k:=aV (k:=BX ?_)))))))
  refine C3 ?_
  refine mV (k:=sV nlV (k:=sV (q_fl 11 og) (k:=sV (ldV 4 DV) (k:=mV (k:=?_)))))
  refine kr (i:=6) (x:=en98.1) (v:=.bool true) (a:=true) rfl rfl rfl DW rfl rfl (by kernel_rfl) rfl ho90 (by exact rfl) hok103 ?_
  intro row114 hm115
  refine C0 ?_
  intro w hw
  cases h
  exact⟨l99,_,hlen93,hgo95,row101,row114,slK,hw,hit105,hm115,trivial⟩
 refine C4 ?_
 intro w hw
 obtain⟨row_116,hrow_116,hob_116⟩:∃rw:Rowb,rw=([[(gq,.cells #[ii z69.c_self,ii z69.c_sites,.slice A2_77 z69.c_links.length c2_77,ii z69.c_cap,ii z69.c_base,y5_77,(pq g6_77),.slice A7_77 z69.applied.length c7_77,.pointer A8_77,.slice A9_77 z69.list.length c9_77,ii (w64 (z69.next+1)),.map (some m11_77),.slice A12_77 z69.members.length c12_77] eq.1 (0,0))],r6_77,r9_77,r11_77]:List Rowb).flatten∧a6.ob eq Γ71 gq rw (⟨z69.c_self,z69.c_sites,z69.c_links,z69.c_cap,z69.c_base,z69.log,z69.applied,z69.under,z69.list,(w64 (z69.next+1)),z69.gaps,z69.members⟩:a6):=⟨_,rfl,A2_77,c2_77,(y5_77),g6_77,r6_77,A7_77,c7_77,A8_77,A9_77,c9_77,r9_77,m11_77,r11_77,A12_77,c12_77,rfl,ho0_77,ho1_77,ho2_77,ho3_77,ho4_77,ho5_77,ho6_77,ho7_77,ho8_77,ho9_77,ho10_77,(ji _),ho12_77,ho13_77,ho14_77,trivial⟩
 have hw:=hw.fold (is:=[0,0,0,0]) rfl hrow_116
 cases h
 subst hF
 exact aM (is:=[0]) (by kernel_rfl) hw rfl ⟨row_116,rfl,rfl,hob_116,trivial⟩
abbrev lG(gq:Nat)(eq:Nat×Nat)(r:a6)(U:List Rowb)(Γ:Gh)(v:Value):Prop := ∃(rowq':Rowb),v = .tuple #[]∧U = [rowq']∧a6.ob eq Γ gq rowq' r∧True
theorem b9{gq:Nat}{eq:Nat×Nat}{rowq:Rowb}{q:a6}(hq:a6.ob eq Γ gq rowq q){Ax_0:Option Addr}{cx_0:Nat}{Ax_2:Option Addr}{cx_2:Nat}(x_:ae)(hx_:ae.fits Γ Ax_0 cx_0 Ax_2 cx_2 x_)(hp:Pre [rowq] Γ w0){r:a6}(h:aT q x_=some r):Calls Tryz.prog 25 #[(pq gq),.iface 86 (.agg (ae.cs Ax_0 cx_0 Ax_2 cx_2 x_).toArray)] w0 (Outc Γ [rowq] w0 (lG gq eq r)):=by
 refine goV [] func25 ntmps25 results25 hp λF hF=>?_
 refine BZ (mU (v:=.iface 86 (.agg (ae.cs Ax_0 cx_0 Ax_2 cx_2 x_).toArray)) (k:=BX (C5 (BZ (sV (aI DC DG rfl rfl rfl) (k:=sV exV (k:=sV exV (k:=?_))))))))
 refine BX ?_
 refine Cb (b:=false) (by kernel_rfl) rfl ?_
 refine BZ (sV (df DD rfl rfl) (k:=sV exV (k:=sV exV (k:=BX ?_))))
 refine Ch (b:=true) (by kernel_rfl) rfl ?_
 refine BZ ?_
 refine alV DH λg1=>?_
 refine stV 0 (.agg (ae.cs Ax_0 cx_0 Ax_2 cx_2 x_).toArray) (ae.cs Ax_0 cx_0 Ax_2 cx_2 x_).toArray sizeOf86 (k:=BX ?_)
 refine C3 ?_
 refine mV (k:=sV (ldaV 0 (ae.cs Ax_0 cx_0 Ax_2 cx_2 x_) isAgg86 sizeOf86) (k:=?_))
 obtain⟨z2,hz3,h⟩:=bnd h
 refine ecV [1] (caV call55) (λw hp=>oc hq x_ hx_ hp hz3) ?_
 rintro Γ4 _ _ hl5 ⟨row8,rfl,rfl,hr9,_⟩
 refine cwV 27 [_,_] ?_
 refine C0 ?_
 intro w hw
 cases h
 subst hF
 exact aM (is:=[0]) (by kernel_rfl) hw rfl ⟨row8,rfl,rfl,hr9,trivial⟩
theorem jW{gq:Nat}{eq:Nat×Nat}{rowq:Rowb}{q:a6}(hq:a6.ob eq Γ gq rowq q)(hqr:∀p∈rowq,Γ p.1=some p.2)(n:Int)(hn:I64 n)(hs:Sat Γ w0){r:Bool}(h:ic q n=some r):CQ Tryz.prog 51 #[(pq gq),ii n] w0 (.bool r):=by
 refine goQ [4] func51 ntmps51 results51 hs λF hF=>?_
 refine BZ (aV (k:=BX (BZ (mV (k:=sV gU (k:=mV (k:=vG1 (h:=λhg1=>moV) (k:=?_))))))))
 refine vG1 (h:=λhg2=>nlV (hv:=grV hg2)) (k:=vG1 (h:=λhg3=>q_fl 0 ix rfl (grV hg3)) (k:=vG1 (h:=λhg4=>q_fl 2 iJ rfl (grV hg4)) (k:=?_)))
 obtain⟨A2_6,c2_6,y5_6,g6_6,r6_6,A7_6,c7_6,A8_6,A9_6,c9_6,r9_6,m11_6,r11_6,A12_6,c12_6,hrow_6,ho0_6,ho1_6,ho2_6,ho3_6,ho4_6,ho5_6,ho6_6,ho7_6,ho8_6,ho9_6,ho10_6,ho11_6,ho12_6,ho13_6,ho14_6,-⟩:=id hq
 have hg_7:∀u∈([[(gq,.cells #[ii q.c_self,ii q.c_sites,.slice A2_6 q.c_links.length c2_6,ii q.c_cap,ii q.c_base,y5_6,(pq g6_6),.slice A7_6 q.applied.length c7_6,.pointer A8_6,.slice A9_6 q.list.length c9_6,ii q.next,.map (some m11_6),.slice A12_6 q.members.length c12_6] eq.1 (0,0))],r6_6,r9_6,r11_6]:List Rowb), ∀p∈u,Γ p.1=some p.2:=λu hu p hp=>(λp hp=>(hqr p hp)) p (hrow_6▸List.mem_flatten.2 ⟨u,hu,hp⟩)
 have hgc8:=hg_7 _ (Cp ..) (gq,_) (List.mem_singleton.2 rfl)
 have hgs9:=hg_7 r6_6 (by simp)
 have hgs10:=hg_7 r9_6 (by simp)
 have hgs11:=hg_7 r11_6 (by simp)
 refine vG1 (h:=λhg5=>eU (v:=.slice A2_6 q.c_links.length c2_6) hgc8 rfl CZ (grV hg5) rfl) (k:=vG1 (h:=λhg12=>moV) (k:=?_))
 obtain⟨z14,hz15,h⟩:=bnd h
 refine vC1 (h:=λhg13=>b3 (aE call79 rfl rfl (cN (grV hg13) (grV hg13))) (λw hw=>e8 (Γ:=Gh.all w) (ho3_6.mono hw.sat.le_all) ho2_6 n hn (Sat.all w) (cK hz15 hg13))) (k:=sV pkA (k:=aV (k:=BX ?_)))
 exact C2 λw hw=>rq_ r h hF hw
theorem d7{gq:Nat}{eq:Nat×Nat}{rowq:Rowb}{q:a6}(hq:a6.ob eq Γ gq rowq q)(hqr:∀p∈rowq,Γ p.1=some p.2)(x_:al)(hx_:al.fits Γ  x_)(hs:Sat Γ w0){r:Bool}(h:d6 q x_=some r):CQ Tryz.prog 24 #[(pq gq),.iface 95 (.agg (al.cs x_).toArray)] w0 (.bool r):=by
 refine goQ [4] func24 ntmps24 results24 hs λF hF=>?_
 refine BZ ?_
 refine bxV (v:=(pq gq)) λg1=>?_
 refine aV (k:=BX (C1 (BZ (mU (v:=.iface 95 (.agg (al.cs x_).toArray)) (k:=BX (C5 (BZ ?_)))))))
 refine sV (aI DC DG rfl rfl rfl) (k:=sV exV (k:=sV exV (k:=BX ?_)))
 refine Cb (b:=false) (by kernel_rfl) rfl ?_
 refine BZ (sV (aI DD DH rfl rfl rfl) (k:=sV exV (k:=sV exV (k:=BX ?_))))
 refine Cb (b:=false) (by kernel_rfl) rfl ?_
 refine BZ (sV (aI DJ DK rfl rfl rfl) (k:=sV exV (k:=sV exV (k:=BX ?_))))
 refine Cb (b:=false) (by kernel_rfl) rfl ?_
 refine BZ (sV (df DE rfl rfl) (k:=sV exV (k:=sV exV (k:=BX ?_))))
 refine Ch (b:=true) (by kernel_rfl) rfl ?_
 refine BZ ?_
 refine alV DL λg2=>?_
 refine stV 0 (.agg (al.cs x_).toArray) (al.cs x_).toArray sizeOf95 (k:=BX (BZ (sV (ldV 1 DQ) (k:=sV (q_fl 0 r7) (k:=sV (ldV 0 D0) (k:=?_))))))
 obtain⟨z3,hz4,h⟩:=bnd h
 refine vqV (caV call51) (λw hw=>jW (Γ:=Gh.all w) (hq.mono hw.sat.le_all) (λp hp=>hw.sat _ _ (hqr p hp)) x_.sink hx_.1 (Sat.all w) hz4) (k:=mV (k:=vG1 (h:=λhg5=>q_fl 1 qQ) (k:=vG1 (h:=λhg6=>ldV 0 D0 (hx:=grV hg6)) (k:=vG1 (h:=λhg7=>cp rfl (grV hg7)) (k:=sV pkA (k:=aV (k:=BX ?_)))))))
 exact C2 λw hw=>rq_ r h hF hw
theorem iO{Ae_2:Option Addr}{ce_2:Nat}{Ae_3:Option Addr}{ce_3:Nat}(e_:aC)(he_:aC.fits Γ Ae_2 ce_2 Ae_3 ce_3 e_){rowe_m:Rowb}{e_m:List (Int×Bool)}(he_m:MapO (intK DT) gp.v Γ rowe_m e_.want e_m)(he_mr:∀p∈rowe_m,Γ p.1=some p.2)(hs:Sat Γ w0){r:Bool}(h:m7 e_ e_m=some r):CQ Tryz.prog 59 #[.agg (aC.cs Ae_2 ce_2 Ae_3 ce_3 e_).toArray] w0 (.bool r):=by
 refine goQ [2] func59 ntmps59 results59 hs λF hF=>?_
 refine BZ ?_
 refine bxV (v:=.agg (aC.cs Ae_2 ce_2 Ae_3 ce_3 e_).toArray) λg1=>?_
 refine aV (k:=BX (BZ (sV (q_fl 4 lk) (k:=sV (ldV 0 DV) (k:=sV (vx (λp hp=>(he_mr p hp)) he_m rfl DW rfl) (k:=sV bD (k:=aV (k:=?_))))))))
 refine BX ?_
 exact C2 λw hw=>rq_ r h hF hw
/-- the first place at which a list of truths is true, from i on; or -1 -/
def wi(q:Nat→Bool)(n:Nat):Option Int:=forU (λf i (_:Unit)=>bif q i then some (i:Int) else f ()) (λ_=>some (-1)) n 0 ()
theorem nQ{q:Nat→Bool}:∀{m i:Nat} {r:Int},forU (λf i (_:Unit)=>bif q i then some (i:Int) else f ()) (λ_=>some (-1)) m i ()=some r →
    (r = -1∧∀j,i≤j→j<i+m→q j=false)∨∃k:Nat,r=(k:Int)∧i≤k∧k<i+m∧q k=true∧∀j,i≤j→j<k→q j=false
  | 0,i,r,h=>by
    have h:(some (-1):Option Int)=some r:=h
    injection h with h
    exact .inl ⟨h.symm,λj h1 h2=>by omega⟩
  | m+1,i,r,h=>by
    have h:(bif q i then some (i:Int) else forU (λf i (_:Unit)=>bif q i then some (i:Int) else f ()) (λ_=>some (-1)) m (i+1) ())=some r:=h
    cases hq:q i with
    | true=>
      rw [hq] at h
      have h:(some (i:Int))=some r:=h
      injection h with h
      exact .inr ⟨i,h.symm,CD _,by omega,hq,λj h1 h2=>by omega⟩
    | false=>
      rw [hq] at h
      rcases nQ (m:=m) (i:=i+1) h with ⟨h1,h2⟩ | ⟨k,h1,h2,h3,h4,h5⟩
      · refine .inl ⟨h1,λj h3 h4=>?_⟩
        by_cases hj:j=i
        · rw [hj]; exact hq
        · exact h2 j (by omega) (by omega)
      · refine .inr ⟨k,h1,by omega,by omega,h4,λj h6 h7=>?_⟩
        by_cases hj:j=i
        · rw [hj]; exact hq
        · exact h5 j (by omega) h7
theorem rC(q:Nat→Bool):∀(m i:Nat), ∃r,forU (λf i (_:Unit)=>bif q i then some (i:Int) else f ()) (λ_=>some (-1)) m i ()=some r
  | 0,i=>⟨-1,rfl⟩
  | m+1,i=>by
    obtain⟨r,hr⟩:=rC q m (i+1)
    cases hq:q i with
    | true=>exact⟨(i:Int),by show (bif q i then _ else _)=_; rw [hq]; rfl⟩
    | false=>exact⟨r,by show (bif q i then _ else _)=_; rw [hq]; exact hr⟩
set_option maxRecDepth 100000 in
set_option maxHeartbeats 400000 in
theorem zJ{Γ:Gh}{w0:World}{A:Option Addr}{c:Nat}{ds:List aC}(hd:Sl aZ Γ A ds)(hc:ds.length≤c)(q:Nat→Bool)(hq:∀i,i<ds.length→∃r m,MapO (intK Tryz.underlying3) gp.v Γ r (gt ds i).want m∧(∀p∈r,Γ p.1=some p.2)∧q i=((m.length:Int)==0))(hs:Sat Γ w0){r:Int}(h:wi q ds.length=some r):Calls Tryz.prog 84 #[.slice A ds.length c,.func (.func 59) #[] #[]] w0 (λe w'=>e = .returned (.int .i64 r)∧Fr no w0 w'):=by
  refine oV (N:=19) (rs:=[4]) (args:=[.slice A ds.length c,.func (.func 59) #[] #[]]) Tryz.func84 rfl Tryz.ntmps84 Tryz.results84 rfl ?_
  obtain⟨F,hF⟩:∃F:Fm,F=⟨no,w0,Γ⟩:=⟨_,rfl⟩
  refine Cf (C:=CC F Γ []) ?_ (hF▸Cur.start0 hs)
  refine BZ ?_
  refine va rfl rfl rfl (bV (v:=.int .i64 0) rfl (by kernel_rfl)) ?_
  refine C0 ?_
  change WC _ _ _ _ _ _
  refine C1 ?_
  refine BZ ?_
  refine va rfl rfl rfl (au (v:=.slice A ds.length c) rfl (by kernel_rfl)) ?_
  refine va rfl rfl rfl (ab rfl Tryz.underlying66 rfl) ?_
  refine va rfl rfl rfl (au (v:=.int .i64 0) rfl (by kernel_rfl)) ?_
  refine C0 ?_
  change WC _ _ _ _ _ _
  refine C5 ?_
  unfold wi at h
  refine Ci h (λ(i2:Nat) (s:Unit) σ w=>match s with | ()=>slots σ [(0,.slice A ds.length c),(1,.func (.func 59) #[] #[]),(7,.int .i64 (ds.length:Int)),(8,.int .i64 (i2:Int))]∧CC F Γ [] w∧True) ?_ ?_
  · skip
    intro w hw
    exact⟨(sl_ (by kernel_rfl)),hw,trivial⟩
  rintro f1 i2 ⟨⟩ σ w hi3 hlt4 hge5 ⟨hsl,hw,-⟩
  refine Wpt.slots hsl ?_
  refine Cf (C:=CC F Γ []) ?_ hw
  clear hw hsl
  refine BZ ?_
  refine va rfl rfl rfl (aQ rfl rfl rfl) ?_
  refine C0 ?_
  change WC _ _ _ _ _ _
  refine C1 ?_
  refine WC.cond (b:=(decide ((i2:Int)<(ds.length:Int)))) (by kernel_rfl) (λhb6=>?_) (λhb6=>?_)
  · skip
    have hl7:=ilt hb6
    have h:=hlt4 hl7
    refine C4 ?_
    change WC _ _ _ _ _ _
    refine C1 ?_
    refine C5 ?_
    refine BZ ?_
    refine va rfl rfl rfl (au (v:=.int .i64 (i2:Int)) rfl (by kernel_rfl)) ?_
    refine va rfl rfl rfl (bV (v:=.int .i64 (i2:Int)) rfl (by kernel_rfl)) ?_
    refine C0 ?_
    change WC _ _ _ _ _ _
    refine BZ ?_
    refine va rfl rfl rfl (au (v:=.func (.func 59) #[] #[]) rfl (by kernel_rfl)) ?_
    refine va rfl rfl rfl (au (v:=.slice A ds.length c) rfl (by kernel_rfl)) ?_
    refine va rfl rfl rfl (au (v:=.int .i64 (i2:Int)) rfl (by kernel_rfl)) ?_
    refine va rfl rfl rfl (aO (i:=i2) Tryz.underlying66 Tryz.sizeOf89 rfl rfl rfl hl7 (hd.some_ hl7)) ?_
    obtain⟨Ad2,cd2,Ad3,cd3,hx⟩:=hd.dqueue_entryT_at i2
    refine va rfl rfl rfl (ik (c:=0) (vs:=[.int .i64 (gt ds i2).entry.seq,.string (gt ds i2).entry.rec_.key,.slice Ad2 (gt ds i2).entry.rec_.vers.length cd2,.slice Ad3 (gt ds i2).entry.route.length cd3,.map (some (gt ds i2).want)]) (hx hl7).2 rfl Tryz.isAgg89 Tryz.sizeOf89 rfl rfl rfl) ?_
    obtain⟨rr,m,hm,hrr,hqi⟩:=hq i2 hl7
    refine vc rfl rfl rfl (b3 (gE (caps:=#[]) Tryz.call59 rfl (by kernel_rfl) (by kernel_rfl)) (λw hw=>iO (Γ:=Gh.all w) (gt ds i2) (aC.fits_mono (hx hl7).1 hw.sat.le_all) (hm.mono hw.sat.le_all) (λp hp=>hw.sat.le_all _ _ (hrr p hp)) (Sat.all w) (r:=q i2) (by rw [hqi]; rfl))) ?_
    refine C0 ?_
    change WC _ _ _ _ _ _
    refine WC.cif h (by kernel_rfl) (λhb8 h=>?_) (λhb8 h=>?_)
    · skip
      refine BZ ?_
      refine va rfl rfl rfl (au (v:=.int .i64 (i2:Int)) rfl (by kernel_rfl)) ?_
      refine va rfl rfl rfl (bV (v:=.int .i64 (i2:Int)) rfl (by kernel_rfl)) ?_
      refine C0 ?_
      change WC _ _ _ _ _ _
      refine C2 ?_
      intro w hw
      cases h
      subst hF
      exact⟨by kernel_rfl,hw.fr⟩
    · skip
      refine C4 ?_
      change WC _ _ _ _ _ _
      refine C3 ?_
      refine va rfl rfl rfl (aw (r:=((i2+1:Nat):Int)) rfl rfl rfl (aA hl7 hd.le)) ?_
      refine va rfl rfl rfl (au (v:=.int .i64 ((i2+1:Nat):Int)) rfl (by kernel_rfl)) ?_
      exact C0 λw hw=>⟨hl7,(),h,(sl_ (by kernel_rfl)),hw,trivial⟩
  · skip
    have h:=hge5 (ige hb6)
    refine C8 ?_
    change WC _ _ _ _ _ _
    refine BZ ?_
    refine va rfl rfl rfl (bV (v:=.int .i64 (-1)) rfl (by kernel_rfl)) ?_
    refine C0 ?_
    change WC _ _ _ _ _ _
    refine C2 ?_
    intro w hw
    cases h
    subst hF
    exact⟨by kernel_rfl,hw.fr⟩
theorem BJ(n:Nat):((n:Int)==0)=(n==0):=by
  rw [Bool.eq_iff_iff]; simp
def kp58(t:MGR aN):Bool:=!(t.1.want.length==0)
/-- behind one more element: what is kept -/
theorem mq{ts:List (MGR aN)}{j:Nat}(hj:j<ts.length):(ts.take (j+1)).filter kp58=(ts.take j).filter kp58++(bif kp58 ts[j] then [ts[j]] else []):=by
  rw [List.take_succ_eq_append_getElem hj,List.filter_append]
  congr 1
  all_goals (cases h:kp58 ts[j] <;> simp [h])
set_option maxRecDepth 100000 in
set_option maxHeartbeats 1000000 in
theorem sS{Γ:Gh}{w0:World}{row:Rowb}{A:Option Addr}{c:Nat}{xs:List aN}(hl:LM aL aZ (intK Tryz.underlying3) gp.v Γ 89 row A c xs)(hp:Pre [row] Γ w0):Calls Tryz.prog 58 #[.slice A xs.length c,.func (.func 59) #[] #[]] w0 (Outc Γ [row] w0 (λU Δ v => ∃row',v = .slice A (List.filter (λx=>!(x.want.length==0)) xs).length c∧U = [row']∧LM aL aZ (intK Tryz.underlying3) gp.v Δ 89 row' A c (List.filter (λx=>!(x.want.length==0)) xs)∧True)):=by
  obtain⟨ts,rowL,jk,ho,hrow,hmap,rfl⟩:=hl.is
  obtain⟨ds,hds⟩:∃ds,ds=dsof aL ts:=⟨_,rfl⟩
  rw [← hds] at ho
  have hdl:ds.length=ts.length:=by rw [hds]; simp [dsof]
  have hlen:(List.map (λx=>x.1) ts).length=ds.length:=by rw [hdl]; simp
  have hdg:∀i (hi:i<ts.length),gt ds i=aL.mkd ts[i].1 ts[i].2.1:=λi hi=>by rw [bT (by rw [hdl]; exact hi)]; simp [hds,dsof]
  have hfil:List.filter (λx=>!(x.want.length==0)) (List.map (λx=>x.1) ts)=(ts.filter kp58).map (·.1):=by rw [List.filter_map]; rfl
  have hcap:ds.length≤c:=ho.capz
  have hlim:=ho.le
  rw [hfil,hlen]
  let q:Nat→Bool:=λi=>match ts[i]? with
    | some t=>!(kp58 t)
    | none=>true
  have hqt:∀i (hi:i<ts.length),q i=!(kp58 ts[i]):=λi hi=>by show (match ts[i]? with | some t=>!(kp58 t) | none=>true)=_; rw [List.getElem?_eq_getElem hi]
  have hq:∀(F:Fm) (rw_:Rowb) w,Cur F Γ [rw_,rsof ts++jk] w→∀i,i<ds.length→∃r m,MapO (intK Tryz.underlying3) gp.v (Gh.all w) r (gt ds i).want m∧(∀p∈r,Gh.all w p.1=some p.2)∧q i=((m.length:Int)==0):=by
    intro F rw_ w hw i hi
    have hi2:i<ts.length:=by rw [← hdl]; exact hi
    refine⟨ts[i].2.2,ts[i].1.want,?_,λp hp=>hw.ra 1 rfl p (List.mem_append.2 (.inl (List.mem_flatten.2 ⟨_,List.mem_map.2 ⟨ts[i],List.getElem_mem hi2,rfl⟩,hp⟩))),?_⟩
    · rw [hdg i hi2]; exact(hmap _ (List.getElem_mem hi2)).mono hw.sat.le_all
    · rw [hqt i hi2,BJ]; simp [kp58]
  refine oV (N:=42) (rs:=[4]) (args:=[.slice A ds.length c,.func (.func 59) #[] #[]]) Tryz.func58 rfl Tryz.ntmps58 Tryz.results58 rfl ?_
  obtain⟨F,hF⟩:∃F:Fm,F=⟨ids [row],w0,Γ⟩:=⟨_,rfl⟩
  refine Cf (C:=CC F Γ [rowL,rsof ts++jk]) ?_ (by have hw:=hF▸hp.start; have hw:=hw.unfold (U:=[rowL,rsof ts++jk]) (i:=0) rfl (by rw [hrow]; simp); exact hw)
  refine BZ ?_
  refine va rfl rfl rfl (bV (v:=.slice none 0 0) rfl (by kernel_rfl)) ?_
  refine C0 ?_
  change WC _ _ _ _ _ _
  refine BZ ?_
  refine va rfl rfl rfl (au (v:=.slice A ds.length c) rfl (by kernel_rfl)) ?_
  refine va rfl rfl rfl (au (v:=.func (.func 59) #[] #[]) rfl (by kernel_rfl)) ?_
  obtain⟨z,hz⟩:=rC q ds.length 0
  refine vc rfl rfl rfl (b3 (aE Tryz.call84 rfl rfl (by kernel_rfl)) (λw hw=>zJ (Γ:=Gh.all w) (ho.sl hw.sat.le_all (hw.ra 0 rfl)) hcap q (hq F rowL w hw) (Sat.all w) hz)) ?_
  refine va rfl rfl rfl (bV (v:=.int .i64 z) rfl (by kernel_rfl)) ?_
  refine C0 ?_
  change WC _ _ _ _ _ _
  refine C1 ?_
  refine BZ ?_
  refine va rfl rfl rfl (au (v:=.int .i64 z) rfl (by kernel_rfl)) ?_
  refine va rfl rfl rfl (bD rfl rfl rfl) ?_
  refine C0 ?_
  change WC _ _ _ _ _ _
  have hfin:∀(F:Fm) (hF:F=⟨ids [row],w0,Γ⟩) (rowX:Rowb) (us vs:List (MGR aN)) w,OwnV aZ Γ 89 rowX A c (dsof aL us)→us=ts.filter kp58→(us++vs).Perm ts→Cur F Γ [rowX,rsof ts++jk] w→Outc Γ [row] w0 (λU Δ v => ∃row',v = .slice A ((ts.filter kp58).map (·.1)).length c∧U = [row']∧LM aL aZ (intK Tryz.underlying3) gp.v Δ 89 row' A c ((ts.filter kp58).map (·.1))∧True) (.returned (.slice A (dsof aL us).length c)) w:=by
    intro F hF rowX us vs w hX hus hpm hw
    obtain⟨row',h1,h2⟩:=LM.keep (jk:=jk) hX hpm hmap
    have hw:=hw.fold (is:=[0,0]) rfl (row:=rowX++(rsof ts++jk)) (by simp [pkU])
    have hw:=Cur.reorder hw (i:=0) rfl h1
    subst hF
    exact aM (is:=[0]) (by kernel_rfl) hw rfl ⟨row',(show Value.slice A (dsof aL us).length c = .slice A ((ts.filter kp58).map (·.1)).length c by rw [hus]; simp [dsof]),rfl,by rw [← hus]; exact h2,trivial⟩
  refine WC.cond (b:=(z==(-1))) (by kernel_rfl) (λhb=>?_) (λhb=>?_)
  · skip
    have hz1:z = -1:=by simpa using hb
    have hall:∀j,j<ds.length→q j=false:=by
      rcases nQ hz with ⟨_,h2⟩ | ⟨k,h1,_⟩
      · exact λj hj=>h2 j (by omega) (by omega)
      · omega
    have hself:ts.filter kp58=ts:=by
      rw [List.filter_eq_self]
      intro t ht
      obtain⟨i,hi,rfl⟩:=List.getElem_of_mem ht
      have:=hall i (by rw [hdl]; exact hi)
      rw [hqt i hi] at this
      simpa using this
    refine BZ ?_
    refine va rfl rfl rfl (au (v:=.slice A ds.length c) rfl (by kernel_rfl)) ?_
    refine va rfl rfl rfl (bV (v:=.slice A ds.length c) rfl (by kernel_rfl)) ?_
    refine C0 ?_
    change WC _ _ _ _ _ _
    refine C2 ?_
    intro w hw
    have h1:=hfin F hF rowL ts [] w (by rw [← hds]; exact ho) hself.symm (by simp) hw
    rw [← hds] at h1
    exact h1
  · skip
    obtain⟨k,hk1,hk2,hk3,hk4⟩:∃k:Nat,z=(k:Int)∧k<ds.length∧q k=true∧∀j,j<k→q j=false:=by
      rcases nQ hz with ⟨h1,_⟩ | ⟨k,h1,h2,h3,h4,h5⟩
      · rw [h1] at hb; cases hb
      · exact⟨k,h1,by omega,h4,λj hj=>h5 j (by omega) hj⟩
    subst hk1
    refine C4 ?_
    change WC _ _ _ _ _ _
    refine C1 ?_
    refine BZ ?_
    refine va rfl rfl rfl (au (v:=.int .i64 (k:Int)) rfl (by kernel_rfl)) ?_
    refine va rfl rfl rfl (aw (r:=((k+1:Nat):Int)) rfl rfl rfl (aA hk2 hlim)) ?_
    refine va rfl rfl rfl (bV (v:=.int .i64 ((k+1:Nat):Int)) rfl (by kernel_rfl)) ?_
    refine C0 ?_
    change WC _ _ _ _ _ _
    refine C5 ?_
    have hk0:(ts.take k).filter kp58=ts.take k:=by
      rw [List.filter_eq_self]
      intro t ht
      obtain⟨i,hi,rfl⟩:=List.getElem_of_mem ht
      have hi2:i<k∧i<ts.length:=by simpa [Nat.lt_min] using hi
      have:=hk4 i hi2.1
      rw [hqt i hi2.2] at this
      simpa using this
    have hkt:k<ts.length:=by rw [← hdl]; exact hk2
    have hkk:(ts.take (k+1)).filter kp58=ts.take k:=by
      rw [mq hkt,hk0]
      have:=hk3
      rw [hqt k hkt] at this
      have h9:kp58 ts[k]=false:=by simpa using this
      rw [h9]; simp
    refine WC.loop (λm σ w => ∃(j i:Nat) (es:List aC) (rowX:Rowb),m=ds.length - j∧j≤ds.length∧i<j∧i=((ts.take j).filter kp58).length∧es.length=ds.length∧es.take i=dsof aL ((ts.take j).filter kp58)∧es.drop j=ds.drop j∧slots σ [(0,.slice A ds.length c),(1,.func (.func 59) #[] #[]),(5,.int .i64 (i:Int)),(6,.int .i64 (j:Int))]∧CC F Γ [rowX,rsof ts++jk] w∧OwnV aZ Γ 89 rowX A c es) ?_ ?_
    · skip
      intro w hw
      refine⟨_,k+1,k,ds,rowL,rfl,hk2,Nat.lt_succ_self k,?_,rfl,?_,rfl,(sl_ (by kernel_rfl)),hw,ho⟩
      · rw [hkk]; simp; omega
      · rw [hkk,hds]; simp [dsof,List.map_take]
    rintro m σ w ⟨j,i,es,rowX,rfl,hjn,hij,hi,hel,het,hed,hsl,hw,hoX⟩
    refine Wpt.slots hsl ?_
    refine Cf (C:=CC F Γ [rowX,rsof ts++jk]) ?_ hw
    clear hw hsl
    refine C1 ?_
    refine BZ ?_
    refine va rfl rfl rfl (au (v:=.int .i64 (j:Int)) rfl (by kernel_rfl)) ?_
    refine va rfl rfl rfl (au (v:=.slice A ds.length c) rfl (by kernel_rfl)) ?_
    refine va rfl rfl rfl (ab rfl Tryz.underlying66 rfl) ?_
    refine va rfl rfl rfl (aQ rfl rfl rfl) ?_
    refine C0 ?_
    change WC _ _ _ _ _ _
    refine WC.cond (b:=(decide ((j:Int)<(ds.length:Int)))) (by kernel_rfl) (λhb6=>?_) (λhb6=>?_)
    · skip
      have hl7:=ilt hb6
      have hjt:j<ts.length:=by rw [← hdl]; exact hl7
      have hje:j<es.length:=by rw [hel]; exact hl7
      have hgj:gt es j=gt ds j:=by
        rw [bT hje,bT hl7]
        have h1:(es.drop j)[0]? = (ds.drop j)[0]?:=by rw [hed]
        simp only [List.getElem?_drop,Nat.add_zero] at h1
        rw [List.getElem?_eq_getElem hje,List.getElem?_eq_getElem hl7] at h1
        exact Option.some.inj h1
      refine C4 ?_
      change WC _ _ _ _ _ _
      refine C1 ?_
      refine C5 ?_
      refine BZ ?_
      refine va rfl rfl rfl (au (v:=.slice A ds.length c) rfl (by kernel_rfl)) ?_
      refine va rfl rfl rfl (au (v:=.int .i64 (j:Int)) rfl (by kernel_rfl)) ?_
      refine va rfl rfl rfl (aO (i:=j) Tryz.underlying66 Tryz.sizeOf89 rfl rfl rfl hl7 (hoX.some_ hje)) ?_
      obtain⟨cs,⟨Ad2,cd2,Ad3,cd3,rfl,hx⟩,hC⟩:=hoX.get hje
      refine va rfl rfl rfl (uJ (c:=0) (vs:=[.int .i64 (gt es j).entry.seq,.string (gt es j).entry.rec_.key,.slice Ad2 (gt es j).entry.rec_.vers.length cd2,.slice Ad3 (gt es j).entry.route.length cd3,.map (some (gt es j).want)]) (i:=0) rfl (λp hp=>hp) hC rfl Tryz.isAgg89 Tryz.sizeOf89 rfl rfl) ?_
      refine vM Tryz.zeroValue89 rfl rfl rfl rfl ?_
      intro gb
      refine e_st (i:=0) (v:=.agg #[.int .i64 (gt es j).entry.seq,.string (gt es j).entry.rec_.key,.slice Ad2 (gt es j).entry.rec_.vers.length cd2,.slice Ad3 (gt es j).entry.route.length cd3,.map (some (gt es j).want)]) (new:=#[.int .i64 (gt es j).entry.seq,.string (gt es j).entry.rec_.key,.slice Ad2 (gt es j).entry.rec_.vers.length cd2,.slice Ad3 (gt es j).entry.route.length cd3,.map (some (gt es j).want)]) rfl Tryz.sizeOf89 rfl rfl rfl rfl (by kernel_rfl) rfl rfl rfl rfl ?_
      refine C0 ?_
      change WC _ _ _ _ _ _
      refine BZ ?_
      refine va rfl rfl rfl (au (v:=.func (.func 59) #[] #[]) rfl (by kernel_rfl)) ?_
      refine va rfl rfl rfl (vw (i:=0) (vs:=[.int .i64 (gt es j).entry.seq,.string (gt es j).entry.rec_.key,.slice Ad2 (gt es j).entry.rec_.vers.length cd2,.slice Ad3 (gt es j).entry.route.length cd3,.map (some (gt es j).want)]) rfl rfl Tryz.isAgg89 Tryz.sizeOf89 rfl rfl) ?_
      have hcall:∀w,Cur F Γ [[(gb,.cells #[.int .i64 (gt es j).entry.seq,.string (gt es j).entry.rec_.key,.slice Ad2 (gt es j).entry.rec_.vers.length cd2,.slice Ad3 (gt es j).entry.route.length cd3,.map (some (gt es j).want)] 89 (0,0))],rowX,rsof ts++jk] w→Calls Tryz.prog 59 #[.agg #[.int .i64 (gt es j).entry.seq,.string (gt es j).entry.rec_.key,.slice Ad2 (gt es j).entry.rec_.vers.length cd2,.slice Ad3 (gt es j).entry.route.length cd3,.map (some (gt es j).want)]] w λe w'=>e = .returned (.bool (q j))∧Fr no w w':=by
        intro w hw
        obtain⟨rr,m,hm,hrr,hqi⟩:=hq F rowX w (hw.sub (List.sublist_cons_self _ _)) j hl7
        rw [← hgj] at hm
        exact iO (Γ:=Gh.all w) (gt es j) (aC.fits_mono hx hw.sat.le_all) hm hrr (Sat.all w) (r:=q j) (by rw [hqi]; rfl)
      refine vc rfl rfl rfl (b3 (gE (caps:=#[]) Tryz.call59 rfl (by kernel_rfl) (by kernel_rfl)) hcall) ?_
      refine va rfl rfl rfl (aX rfl rfl) ?_
      refine C0 ?_
      change WC _ _ _ _ _ _
      have hqj:=hqt j hjt
      refine WC.cond (b:=(!(q j))) (by kernel_rfl) (λhb8=>?_) (λhb8=>?_)
      · skip
        have hkj:kp58 ts[j]=true:=by rw [hqj] at hb8; simpa using hb8
        have hie:i<es.length:=by omega
        refine BZ ?_
        refine va rfl rfl rfl (au (v:=.slice A ds.length c) rfl (by kernel_rfl)) ?_
        refine va rfl rfl rfl (au (v:=.int .i64 (i:Int)) rfl (by kernel_rfl)) ?_
        refine va rfl rfl rfl (vw (i:=0) (vs:=[.int .i64 (gt es j).entry.seq,.string (gt es j).entry.rec_.key,.slice Ad2 (gt es j).entry.rec_.vers.length cd2,.slice Ad3 (gt es j).entry.route.length cd3,.map (some (gt es j).want)]) rfl rfl Tryz.isAgg89 Tryz.sizeOf89 rfl rfl) ?_
        refine va rfl rfl rfl (aO (i:=i) Tryz.underlying66 Tryz.sizeOf89 rfl rfl rfl (by omega) (hoX.some_ hje)) ?_
        refine xh (T:=aZ) (q:=i) (v:=.agg #[.int .i64 (gt es j).entry.seq,.string (gt es j).entry.rec_.key,.slice Ad2 (gt es j).entry.rec_.vers.length cd2,.slice Ad3 (gt es j).entry.route.length cd3,.map (some (gt es j).want)]) (y:=gt es j) rfl rfl rfl rfl rfl Tryz.sizeOf89 (by exact⟨Ad2,cd2,Ad3,cd3,rfl,hx⟩) (i:=1) rfl hoX hie ?_
        intro rowY hoY
        refine C0 ?_
        change WC _ _ _ _ _ _
        refine C3 ?_
        refine va rfl rfl rfl (au (v:=.int .i64 (i:Int)) rfl (by kernel_rfl)) ?_
        refine va rfl rfl rfl (aw (r:=((i+1:Nat):Int)) rfl rfl rfl (aA (n:=ds.length) (by omega) hlim)) ?_
        refine va rfl rfl rfl (bV (v:=.int .i64 ((i+1:Nat):Int)) rfl (by kernel_rfl)) ?_
        refine C0 ?_
        change WC _ _ _ _ _ _
        refine C3 ?_
        refine va rfl rfl rfl (au (v:=.int .i64 (j:Int)) rfl (by kernel_rfl)) ?_
        refine va rfl rfl rfl (aw (r:=((j+1:Nat):Int)) rfl rfl rfl (aA hl7 hlim)) ?_
        refine va rfl rfl rfl (bV (v:=.int .i64 ((j+1:Nat):Int)) rfl (by kernel_rfl)) ?_
        refine C0 ?_
        intro w hw
        have hks:=mq hjt
        rw [hkj] at hks
        refine⟨ds.length - (j+1),by omega,j+1,i+1,es.set i (gt es j),rowY,rfl,hl7,by omega,?_,by simpa using hel,?_,?_,(sl_ (by kernel_rfl)),hw.only (is:=[1,1]) rfl,hoY⟩
        · rw [hks,Co, ← hi]; rfl
        · rw [hks]
          have h1:(es.set i (gt es j)).take (i+1)=es.take i++[gt es j]:=by
            rw [List.take_succ_eq_append_getElem (by simpa using hie),List.take_set_of_le (CD i)]
            simp
          rw [h1,het,hgj,hdg j hjt]
          simp [dsof]
        · rw [List.drop_set_of_lt (by omega)]
          have h2:=congrArg (List.drop 1) hed
          simpa [List.drop_drop,Nat.add_comm] using h2
      · skip
        have hkj:kp58 ts[j]=false:=by rw [hqj] at hb8; simpa using hb8
        refine C4 ?_
        change WC _ _ _ _ _ _
        refine C3 ?_
        refine va rfl rfl rfl (au (v:=.int .i64 (j:Int)) rfl (by kernel_rfl)) ?_
        refine va rfl rfl rfl (aw (r:=((j+1:Nat):Int)) rfl rfl rfl (aA hl7 hlim)) ?_
        refine va rfl rfl rfl (bV (v:=.int .i64 ((j+1:Nat):Int)) rfl (by kernel_rfl)) ?_
        refine C0 ?_
        intro w hw
        have hks:=mq hjt
        rw [hkj] at hks
        have hks:(ts.take (j+1)).filter kp58=(ts.take j).filter kp58:=by rw [hks]; simp
        refine⟨ds.length - (j+1),by omega,j+1,i,es,rowX,rfl,hl7,by omega,by rw [hks]; exact hi,hel,by rw [hks]; exact het,?_,(sl_ (by kernel_rfl)),hw.only (is:=[1,1]) rfl,hoX⟩
        have h2:=congrArg (List.drop 1) hed
        simpa [List.drop_drop,Nat.add_comm] using h2
    · skip
      have hjn2:j=ds.length:=by have:=ige hb6; omega
      have htk:ts.take j=ts:=List.take_of_length_le (by omega)
      rw [htk] at hi het
      have hX:=hoX.cut_to (hi:=i) (by omega)
      rw [het] at hX
      have hul:(dsof aL (ts.filter kp58)).length=i:=by rw [hi]; simp [dsof]
      refine C8 ?_
      change WC _ _ _ _ _ _
      refine BZ ?_
      refine va rfl rfl rfl (au (v:=.slice A ds.length c) rfl (by kernel_rfl)) ?_
      refine va rfl rfl rfl (au (v:=.int .i64 (i:Int)) rfl (by kernel_rfl)) ?_
      refine va rfl rfl rfl (lx (c:=c) (lo:=i) (xs:=ds) Tryz.underlying66 Tryz.sizeOf89 rfl rfl rfl (by omega)) ?_
      refine x8 (T:=aZ) (i:=0) (xs:=dsof aL (ts.filter kp58)) (m:=ds.length) Tryz.underlying66 Tryz.zeroValue89 rfl (λu hu=>by revert u hu; decide) rfl rfl rfl (by rw [hul]; simp only [CT]; rfl) (by omega) hcap rfl hX ?_
      intro rowY hY
      refine C0 ?_
      change WC _ _ _ _ _ _
      refine BZ ?_
      refine va rfl rfl rfl (au (v:=.slice A ds.length c) rfl (by kernel_rfl)) ?_
      refine va rfl rfl rfl (au (v:=.int .i64 (i:Int)) rfl (by kernel_rfl)) ?_
      refine va rfl rfl rfl (qF (c:=c) (hi:=i) (xs:=ds) Tryz.underlying66 Tryz.sizeOf89 rfl rfl rfl (by omega) hcap) ?_
      refine va rfl rfl rfl (bV (v:=.slice A (List.take i ds).length c) rfl (by kernel_rfl)) ?_
      refine C0 ?_
      change WC _ _ _ _ _ _
      refine C2 ?_
      intro w hw
      have h1:=hfin F hF rowY (ts.filter kp58) (ts.filter (λt=>!(kp58 t))) w hY rfl (List.filter_append_perm _ _) hw
      have h2:(dsof aL (ts.filter kp58)).length=(List.take i ds).length:=by rw [hul,CS]; omega
      rw [h2] at h1
      exact h1
abbrev lL(gq:Nat)(eq:Nat×Nat)(r:a6)(U:List Rowb)(Γ:Gh)(v:Value):Prop := ∃(rowq':Rowb),v = .tuple #[]∧U = [rowq']∧a6.ob eq Γ gq rowq' r∧True
theorem bb{gq:Nat}{eq:Nat×Nat}{rowq:Rowb}{q:a6}(hq:a6.ob eq Γ gq rowq q)(x_:al)(hx_:al.fits Γ  x_)(hp:Pre [rowq] Γ w0){r:a6}(h:bl q x_=some r):Calls Tryz.prog 25 #[(pq gq),.iface 95 (.agg (al.cs x_).toArray)] w0 (Outc Γ [rowq] w0 (lL gq eq r)):=by
 refine goV [] func25 ntmps25 results25 hp λF hF=>?_
 refine BZ (mU (v:=.iface 95 (.agg (al.cs x_).toArray)) (k:=BX (C5 (BZ (sV (aI DC DG rfl rfl rfl) (k:=sV exV (k:=sV exV (k:=?_))))))))
 refine BX ?_
 refine Cb (b:=false) (by kernel_rfl) rfl ?_
 refine BZ (sV (aI DD DH rfl rfl rfl) (k:=sV exV (k:=sV exV (k:=BX ?_))))
 refine Cb (b:=false) (by kernel_rfl) rfl ?_
 refine BZ (sV (aI DJ DK rfl rfl rfl) (k:=sV exV (k:=sV exV (k:=BX ?_))))
 refine Cb (b:=false) (by kernel_rfl) rfl ?_
 refine BZ (sV (df DE rfl rfl) (k:=sV exV (k:=sV exV (k:=BX ?_))))
 refine Ch (b:=true) (by kernel_rfl) rfl ?_
 refine BZ ?_
 refine alV DL λg1=>?_
 refine stV 0 (.agg (al.cs x_).toArray) (al.cs x_).toArray sizeOf95 (k:=BX (C1 (BZ (mV (k:=sV nlV (k:=sV (q_fl 9 dO) (k:=?_)))))))
 obtain⟨A2_2,c2_2,y5_2,g6_2,r6_2,A7_2,c7_2,A8_2,A9_2,c9_2,r9_2,m11_2,r11_2,A12_2,c12_2,hrow_2,ho0_2,ho1_2,ho2_2,ho3_2,ho4_2,ho5_2,ho6_2,ho7_2,ho8_2,ho9_2,ho10_2,ho11_2,ho12_2,ho13_2,ho14_2,-⟩:=id hq
 refine ufR 1 hrow_2 [_,_,_,_,_] ?_
 refine sV (ldV 0 DX) (k:=?_)
 have hlen3:q.list.length≤lim:=ho10_2.le
 refine sV (ab rfl DZ) (k:=mV (k:=BX (C5 ?_)))
 refine foC [0,0,0,0] hrow_2 [_,_] ?_
 refine Ci h (λ(i9:Nat) (o5:a6) σ w => ∃(row6:Rowb),slots σ [(0,(pq gq)),(7,(pq g1)),(76,ii (q.list.length:Int)),(77,ii (i9:Int))]∧CC F Γ [row6,[(g1,.cells (al.cs x_).toArray 95 (0,0))]] w∧a6.ob eq Γ gq row6 o5∧True) ?_ ?_
 ·
  intro w hw
  exact⟨rowq,slK,hw,hq,trivial⟩
 rintro f8 i9 o5 σ w hi10 hlt11 hge12 ⟨row6,hsl,hw,ho7,-⟩
 refine slV hsl hw [_,_] ?_; clear hw hsl
 refine BZ (sV aQ (k:=BX (C1 ?_)))
 refine coV (λhb13=>?_) (λhb13=>?_)
 ·
  have hl14:=ilt hb13
  have h:=hlt11 hl14
  refine C4 (wc_ ?_)
  refine Ce (λσ w => ∃(o15:a6), ∃(row16:Rowb),ea f8 o15=some r∧slots σ [(0,(pq gq)),(7,(pq g1)),(76,ii (q.list.length:Int)),(77,ii (i9:Int))]∧CC F Γ [row16,[(g1,.cells (al.cs x_).toArray 95 (0,0))]] w∧a6.ob eq Γ gq row16 o15∧True) ?_ ?_
  ·
   refine C5 (BZ (mV (k:=aV (k:=BX (C1 ?_)))))
   obtain⟨A2_18,c2_18,y5_18,g6_18,r6_18,A7_18,c7_18,A8_18,A9_18,c9_18,r9_18,m11_18,r11_18,A12_18,c12_18,hrow_18,ho0_18,ho1_18,ho2_18,ho3_18,ho4_18,ho5_18,ho6_18,ho7_18,ho8_18,ho9_18,ho10_18,ho11_18,ho12_18,ho13_18,ho14_18,-⟩:=id ho7
   refine ufC 0 hrow_18 [_,_,_,_,_] ?_
   refine drV ?_
   refine zV moV (k:=zV nlV (k:=zV (q_fl 9 dO) (k:=zV (ldV 0 DX) (k:=zV moV (k:=?_)))))
   obtain⟨hk19,h⟩:=ag h
   refine zV (aO (i:=i9) DZ DU rfl rfl rfl (Cl hk19) (ho10_18.some_ (Cl hk19))) (k:=zV (av (i9*5) mI rfl rfl (ho10_18.some_ (Cl hk19)) rfl) (k:=zV (av (i9*5) qO rfl rfl (ho10_18.some_ (Cl hk19)) rfl) (k:=?_)))
   obtain⟨g_20,rL_20,rA_20,rM_20,rB_20,cs_20,hrow_20,hrd_20,hvc_20,hsub_20,hm_20,hback_20⟩:=LM.part ho10_18 (Cl hk19)
   obtain⟨A_20_2,c_20_2,A_20_3,c_20_3,rfl,hrd_20⟩:=hrd_20
   have hs1_20:∀p∈rL_20,p∈r9_18:=λp hp=>by rw [hrow_20]; exact List.mem_append.2 (.inl (hsub_20 p hp))
   have hs2_20:∀p∈rM_20,p∈r9_18:=λp hp=>by rw [hrow_20]; exact List.mem_append.2 (.inr (List.mem_append.2 (.inl hp)))
   refine zV (xH (c:=0) (v:=ii (gt o5.list i9).entry.seq) (i:=2) rfl hs1_20 hvc_20 rfl D0 rfl rfl) (k:=zV (q_fl 1 qQ) (k:=zV (ldV 4 D0) (k:=zV bD (k:=?_))))
   refine Cd ?_
   change WC _ _ _ _ _ _
   refine ciV h (λhb21 h=>?_) (λhb21 h=>?_)
   ·
    refine leV λh022=>?_
    refine e7 (CC F Γ [[(gq,.cells #[ii o5.c_self,ii o5.c_sites,.slice A2_18 o5.c_links.length c2_18,ii o5.c_cap,ii o5.c_base,y5_18,(pq g6_18),.slice A7_18 o5.applied.length c7_18,.pointer A8_18,.slice A9_18 o5.list.length c9_18,ii o5.next,.map (some m11_18),.slice A12_18 o5.members.length c12_18] eq.1 (0,0))],r6_18,r11_18,[(g1,.cells (al.cs x_).toArray 95 (0,0))]]) (bo_ [0,0,1,1] gR h022) λk=>?_
    change WH _ _ _ _ (CC F Γ [_,_,_,_,_]) _ 11 _ _
    refine hV 0 k (q:=moV) (k:=hV 1 k (q:=nlV) (k:=hV 2 k (q:=q_fl 9 dO) (k:=hV 3 k (q:=ldV 0 DX) (k:=hV 4 k (q:=moV) (k:=hV 8 k (q:=q_fl 0 r7) (k:=hV 9 k (q:=ldV 3 D0) (k:=wl_ 5 rfl ?_)))))))
    refine sV (aO (i:=i9) DZ DU rfl rfl rfl (Cl hk19) (ho10_18.some_ (Cl hk19))) (k:=?_)
    refine C0 (nxV (bo_ [0,0,1,1] gR h022) λk=>?_)
    refine wl_ 6 rfl (sV (av (i9*5+4) lk rfl rfl (ho10_18.some_ (Cl hk19)) rfl) (k:=?_))
    refine C0 (nxV (bo_ [0,0,1,1] gR h022) λk=>?_)
    refine wl_ 7 rfl (sV (xH (c:=4) (v:=.map (some g_20)) (i:=2) rfl hs1_20 hvc_20 rfl DV rfl rfl) (k:=?_))
    refine C0 (nxV (bo_ [0,0,1,1] gR h022) λk=>?_)
    refine wl_ 10 rfl ?_
    intro w hw; have hw:=hw.unfold (U:=[rA_20,rM_20,rB_20]) (i:=2) rfl (by rw [hrow_20]; simp)
    refine WR.here (C:=CC F Γ [_,_,_,_,_,_,_]) ?_ hw
    clear hw
    refine qG (i:=1) (x:=x_.sink) rfl hm_20 rfl rfl rfl DW rfl rfl ?_
    intro row23 hm24
    refine C0 (nxV (bo_ [3,3,3,3] gR h022) λk=>?_)
    refine Ca (by kernel_rfl) ?_
    intro w hw
    obtain⟨row25,hrow26,hm27⟩:∃rw:Rowb,rw=([rA_20,row23,rB_20]:List Rowb).flatten∧LM aL aZ (intK DT) gp.v Γ 89 rw A9_18 c9_18 (List.set o5.list i9 (aL.up (gt o5.list i9) (mdel x_.sink ((gt o5.list i9).want)))):=⟨_,rfl,by simpa using hback_20 _ _ _ gR hm24⟩
    have hw:=hw.fold (is:=[0,0,0]) rfl hrow26
    obtain⟨row_28,hrow_28,hob_28⟩:∃rw:Rowb,rw=([[(gq,.cells #[ii o5.c_self,ii o5.c_sites,.slice A2_18 o5.c_links.length c2_18,ii o5.c_cap,ii o5.c_base,y5_18,(pq g6_18),.slice A7_18 o5.applied.length c7_18,.pointer A8_18,.slice A9_18 o5.list.length c9_18,ii o5.next,.map (some m11_18),.slice A12_18 o5.members.length c12_18] eq.1 (0,0))],r6_18,row25,r11_18]:List Rowb).flatten∧a6.ob eq Γ gq rw (⟨o5.c_self,o5.c_sites,o5.c_links,o5.c_cap,o5.c_base,o5.log,o5.applied,o5.under,(List.set o5.list i9 (aL.up (gt o5.list i9) (mdel x_.sink ((gt o5.list i9).want)))),o5.next,o5.gaps,o5.members⟩:a6):=⟨_,rfl,A2_18,c2_18,(y5_18),g6_18,r6_18,A7_18,c7_18,A8_18,A9_18,c9_18,row25,m11_18,r11_18,A12_18,c12_18,(by simp only [show _=_ from List.length_set]),ho0_18,ho1_18,ho2_18,ho3_18,ho4_18,ho5_18,ho6_18,ho7_18,ho8_18,ho9_18,hm27,ho11_18,ho12_18,ho13_18,ho14_18,trivial⟩
    have hw:=hw.fold (is:=[1,1,0,0]) rfl hrow_28
    exact⟨(⟨o5.c_self,o5.c_sites,o5.c_links,o5.c_cap,o5.c_base,o5.log,o5.applied,o5.under,(List.set o5.list i9 (aL.up (gt o5.list i9) (mdel x_.sink ((gt o5.list i9).want)))),o5.next,o5.gaps,o5.members⟩:a6),row_28,h,slK,hw,hob_28,trivial⟩
   refine C4 ?_
   intro w hw
   have hw:=hw.fold (is:=[0,0,0,0]) rfl hrow_18
   exact⟨o5,row6,h,slK,hw,ho7,trivial⟩
  rintro σ w ⟨o15,row16,h,hsl,hw,ho17,-⟩
  refine slV hsl hw [_,_] ?_; clear hw hsl
  refine C3 ?_
  refine sV (aw rfl rfl rfl (aA hl14 hlen3)) (k:=mV (k:=?_))
  exact C0 λw hw=>⟨hl14,o15,h,row16,slK,hw,ho17,trivial⟩
 have h:=hge12 (ige hb13)
 refine C8 ?_
 change WC _ _ _ _ _ _
 refine C3 ?_
 refine mV (k:=mV (k:=sV nlV (k:=sV (q_fl 9 dO) (k:=?_))))
 obtain⟨A2_30,c2_30,y5_30,g6_30,r6_30,A7_30,c7_30,A8_30,A9_30,c9_30,r9_30,m11_30,r11_30,A12_30,c12_30,hrow_30,ho0_30,ho1_30,ho2_30,ho3_30,ho4_30,ho5_30,ho6_30,ho7_30,ho8_30,ho9_30,ho10_30,ho11_30,ho12_30,ho13_30,ho14_30,-⟩:=id ho7
 refine ufR 0 hrow_30 [_,_,_,_,_] ?_
 refine sV (ldV 0 DX) (k:=?_)
 refine ecV [2] (caV call58) (λw hp=>sS ho10_30 hp) ?_
 rintro Γ31 _ _ hl32 ⟨row35,rfl,rfl,hm36,_⟩
 refine cwV 108 [_,_,_,_,_] (sV nlV (k:=sV (q_fl 9 dO) (k:=stV 1 (.slice A9_30 ((List.filter (λx=>!(x.want.length==0)) o5.list).length) c9_30) #[ii o5.c_self,ii o5.c_sites,.slice A2_30 o5.c_links.length c2_30,ii o5.c_cap,ii o5.c_base,y5_30,(pq g6_30),.slice A7_30 o5.applied.length c7_30,.pointer A8_30,.slice A9_30 ((List.filter (λx=>!(x.want.length==0)) o5.list).length) c9_30,ii o5.next,.map (some m11_30),.slice A12_30 o5.members.length c12_30] sizeOf66 (k:=?_))))
 refine C0 ?_
 intro w hw
 obtain⟨row_37,hrow_37,hob_37⟩:∃rw:Rowb,rw=([[(gq,.cells #[ii o5.c_self,ii o5.c_sites,.slice A2_30 o5.c_links.length c2_30,ii o5.c_cap,ii o5.c_base,y5_30,(pq g6_30),.slice A7_30 o5.applied.length c7_30,.pointer A8_30,.slice A9_30 ((List.filter (λx=>!(x.want.length==0)) o5.list).length) c9_30,ii o5.next,.map (some m11_30),.slice A12_30 o5.members.length c12_30] eq.1 (0,0))],r6_30,row35,r11_30]:List Rowb).flatten∧a6.ob eq Γ31 gq rw (⟨o5.c_self,o5.c_sites,o5.c_links,o5.c_cap,o5.c_base,o5.log,o5.applied,o5.under,(List.filter (λx=>!(x.want.length==0)) o5.list),o5.next,o5.gaps,o5.members⟩:a6):=⟨_,rfl,A2_30,c2_30,(y5_30),g6_30,r6_30,A7_30,c7_30,A8_30,A9_30,c9_30,row35,m11_30,r11_30,A12_30,c12_30,rfl,ho0_30,ho1_30,ho2_30,(ho3_30.mono hl32),ho4_30,ho5_30,(ho6_30.mono hl32),ho7_30,(ho8_30.mono hl32),(ho9_30.mono hl32),hm36,ho11_30,(ho12_30.mono hl32),ho13_30,(ho14_30.mono hl32),trivial⟩
 have hw:=hw.fold (is:=[1,1,0,0]) rfl hrow_37
 cases h
 subst hF
 exact aM (is:=[0]) (by kernel_rfl) hw rfl ⟨row_37,rfl,rfl,hob_37,trivial⟩
theorem d8{gq:Nat}{eq:Nat×Nat}{rowq:Rowb}{q:a6}(hq:a6.ob eq Γ gq rowq q)(hqr:∀p∈rowq,Γ p.1=some p.2)(x_:ax)(hx_:ax.fits Γ  x_)(hs:Sat Γ w0){r:Bool}(h:cY q x_=some r):CQ Tryz.prog 24 #[(pq gq),.iface 97 (.agg #[ii x_.sink])] w0 (.bool r):=by
 refine goQ [4] func24 ntmps24 results24 hs λF hF=>?_
 refine BZ ?_
 refine bxV (v:=(pq gq)) λg1=>?_
 refine aV (k:=BX (C1 (BZ (mU (v:=.iface 97 (.agg #[ii x_.sink])) (k:=BX (C5 (BZ ?_)))))))
 refine sV (aI DC DG rfl rfl rfl) (k:=sV exV (k:=sV exV (k:=BX ?_)))
 refine Cb (b:=false) (by kernel_rfl) rfl ?_
 refine BZ (sV (aI DD DH rfl rfl rfl) (k:=sV exV (k:=sV exV (k:=BX ?_))))
 refine Cb (b:=false) (by kernel_rfl) rfl ?_
 refine BZ (sV (aI DJ DK rfl rfl rfl) (k:=sV exV (k:=sV exV (k:=BX ?_))))
 refine Cb (b:=false) (by kernel_rfl) rfl ?_
 refine BZ (sV (aI DE DL rfl rfl rfl) (k:=sV exV (k:=sV exV (k:=BX ?_))))
 refine Cb (b:=false) (by kernel_rfl) rfl ?_
 refine BZ (sV (df DF rfl rfl) (k:=sV exV (k:=sV exV (k:=BX ?_))))
 refine Ch (b:=true) (by kernel_rfl) rfl ?_
 refine BZ ?_
 refine alV DM λg2=>?_
 refine stV 0 (.agg #[ii x_.sink]) #[ii x_.sink] sizeOf97 (k:=BX (BZ (sV (ldV 1 DQ) (k:=sV (q_fl 0 qT) (k:=sV (ldV 0 D0) (k:=?_))))))
 obtain⟨z3,hz4,h⟩:=bnd h
 refine vqV (caV call51) (λw hw=>jW (Γ:=Gh.all w) (hq.mono hw.sat.le_all) (λp hp=>hw.sat _ _ (hqr p hp)) x_.sink hx_ (Sat.all w) hz4) (k:=aV (k:=BX ?_))
 exact C2 λw hw=>rq_ r h hF hw
abbrev lm(gq:Nat)(eq:Nat×Nat)(r:a6)(U:List Rowb)(Γ:Gh)(v:Value):Prop := ∃(rowq':Rowb),v = .tuple #[]∧U = [rowq']∧a6.ob eq Γ gq rowq' r∧True
theorem ba{gq:Nat}{eq:Nat×Nat}{rowq:Rowb}{q:a6}(hq:a6.ob eq Γ gq rowq q)(x_:ax)(hx_:ax.fits Γ  x_)(hp:Pre [rowq] Γ w0){r:a6}(h:bo q x_=some r):Calls Tryz.prog 25 #[(pq gq),.iface 97 (.agg #[ii x_.sink])] w0 (Outc Γ [rowq] w0 (lm gq eq r)):=by
 refine goV [] func25 ntmps25 results25 hp λF hF=>?_
 refine BZ (mU (v:=.iface 97 (.agg #[ii x_.sink])) (k:=BX (C5 (BZ (sV (aI DC DG rfl rfl rfl) (k:=sV exV (k:=sV exV (k:=?_))))))))
 refine BX ?_
 refine Cb (b:=false) (by kernel_rfl) rfl ?_
 refine BZ (sV (aI DD DH rfl rfl rfl) (k:=sV exV (k:=sV exV (k:=BX ?_))))
 refine Cb (b:=false) (by kernel_rfl) rfl ?_
 refine BZ (sV (aI DJ DK rfl rfl rfl) (k:=sV exV (k:=sV exV (k:=BX ?_))))
 refine Cb (b:=false) (by kernel_rfl) rfl ?_
 refine BZ (sV (aI DE DL rfl rfl rfl) (k:=sV exV (k:=sV exV (k:=BX ?_))))
 refine Cb (b:=false) (by kernel_rfl) rfl ?_
 refine BZ (sV (df DF rfl rfl) (k:=sV exV (k:=sV exV (k:=BX ?_))))
 refine Ch (b:=true) (by kernel_rfl) rfl ?_
 refine BZ ?_
 refine alV DM λg1=>?_
 refine stV 0 (.agg #[ii x_.sink]) #[ii x_.sink] sizeOf97 (k:=BX ?_)
 refine leV λh02=>?_
 refine e7 (CC F Γ [[(g1,.cells #[ii x_.sink] 97 (0,0))]]) (bo_ [0] gR h02) λk=>?_
 change WH _ _ _ _ (CC F Γ [_,_]) _ 7 _ _
 refine hV 0 k (q:=moV) (k:=hV 1 k (q:=nlV) (k:=hV 2 k (q:=q_fl 11 og) (k:=hV 4 k (q:=q_fl 0 qT) (k:=hV 5 k (q:=ldV 0 D0) (k:=wl_ 3 rfl ?_)))))
 obtain⟨A2_3,c2_3,y5_3,g6_3,r6_3,A7_3,c7_3,A8_3,A9_3,c9_3,r9_3,m11_3,r11_3,A12_3,c12_3,hrow_3,ho0_3,ho1_3,ho2_3,ho3_3,ho4_3,ho5_3,ho6_3,ho7_3,ho8_3,ho9_3,ho10_3,ho11_3,ho12_3,ho13_3,ho14_3,-⟩:=id hq
 refine ufR 1 hrow_3 [_,_,_,_,_] ?_
 refine sV (ldV 0 DV) (k:=?_)
 refine C0 (nxV (bo_ [4] gR h02) λk=>?_)
 refine wl_ 6 rfl ?_
 refine qG (i:=3) (x:=x_.sink) rfl ho12_3 rfl rfl rfl DW rfl rfl ?_
 intro row4 hm5
 refine C0 (nxV (bo_ [4] gR h02) λk=>?_)
 refine Ca (by kernel_rfl) ?_
 intro w hw
 obtain⟨row_6,hrow_6,hob_6⟩:∃rw:Rowb,rw=([[(gq,.cells #[ii q.c_self,ii q.c_sites,.slice A2_3 q.c_links.length c2_3,ii q.c_cap,ii q.c_base,y5_3,(pq g6_3),.slice A7_3 q.applied.length c7_3,.pointer A8_3,.slice A9_3 q.list.length c9_3,ii q.next,.map (some m11_3),.slice A12_3 q.members.length c12_3] eq.1 (0,0))],r6_3,r9_3,row4]:List Rowb).flatten∧a6.ob eq Γ gq rw (⟨q.c_self,q.c_sites,q.c_links,q.c_cap,q.c_base,q.log,q.applied,q.under,q.list,q.next,(mdel x_.sink q.gaps),q.members⟩:a6):=⟨_,rfl,A2_3,c2_3,(y5_3),g6_3,r6_3,A7_3,c7_3,A8_3,A9_3,c9_3,r9_3,m11_3,row4,A12_3,c12_3,rfl,ho0_3,ho1_3,ho2_3,ho3_3,ho4_3,ho5_3,ho6_3,ho7_3,ho8_3,ho9_3,ho10_3,ho11_3,hm5,ho13_3,ho14_3,trivial⟩
 have hw:=hw.fold (is:=[0,0,0,0]) rfl hrow_6
 cases h
 subst hF
 exact aM (is:=[0]) (by kernel_rfl) hw rfl ⟨row_6,rfl,rfl,hob_6,trivial⟩
abbrev tq(gd:Nat)(ed:Nat)(r:a7×(Option a6)×Int)(U:List Rowb)(Γ:Gh)(v:Value):Prop := ∃(rowd':Rowb), ∃(g0:Nat), ∃(row0:Rowb),v = .tuple #[optp r.2.1 g0,.int .i64 r.2.2]∧U = [rowd',row0]∧a7.ob ed Γ gd rowd' r.1∧sC (a6.ob (68,gd) Γ g0) row0 r.2.1∧I64 r.2.2∧True
theorem tu{gd ed:Nat}{rowd:Rowb}{d:a7}(hd:a7.ob ed Γ gd rowd d)(size:Int)(hsize:I64 size){Ac_2:Option Addr}{cc_2:Nat}{Ac_5:Option Addr}{cc_5:Nat}(c_:aq)(hc_:aq.fits Γ Ac_2 cc_2 Ac_5 cc_5 c_)(hp:Pre [rowd] Γ w0){r:a7×(Option a6)×Int}(h:ej d size c_=some r):Calls Tryz.prog 6 #[(pq gd),ii size,.agg (aq.cs Ac_2 cc_2 Ac_5 cc_5 c_).toArray] w0 (Outc Γ [rowd] w0 (tq gd ed r)):=by
 refine goV [6,7] func6 ntmps6 results6 hp λF hF=>?_
 refine BZ ?_
 refine bxV (v:=.agg (aq.cs Ac_2 cc_2 Ac_5 cc_5 c_).toArray) λg1=>?_
 refine aV (k:=aV (k:=BX (C1 (BZ (sV (ldaV 0 (aq.cs Ac_2 cc_2 Ac_5 cc_5 c_) isAgg25 CV) (k:=?_))))))
 obtain⟨z2,hz3,h⟩:=bnd h
 refine vqV (caV call20) (λw hw=>kd (Γ:=Gh.all w) c_ (aq.fits_mono hc_ hw.sat.le_all) (Sat.all w) hz3) (k:=sV aX (k:=BX ?_))
 refine ciV h (λhb4 h=>?_) (λhb4 h=>?_)
 ·
  refine BZ (aV (k:=aV (k:=BX ?_)))
  refine C2 ?_
  intro w hw
  have hw:=hw.pad
  exact re_ r [2,0] h hF hw ⟨rowd,0,[],rfl,rfl,hd,rfl,iV,trivial⟩
 refine C4 (wc_ (BZ (mV (k:=mV (k:=?_)))))
 obtain⟨z5,hz6,h⟩:=bnd h
 refine ecV [1] (caV call21) (λw hp=>nA hd (⟨#[103]⟩:ByteArray) (show (⟨#[103]⟩:ByteArray).size≤lim by decide) size hsize hp hz6) ?_
 rintro Γ7 _ _ hl8 ⟨row11,g13,row14,A16,c17,row18,rfl,rfl,hr12,hr15,hr19,hr20,_⟩
 refine cwV 22 [_,_,_,_] (mV (k:=sV exV (k:=sV exV (k:=sV exV (k:=aU (v:=optp z5.2.1 g13) (k:=aV (k:=aV (k:=?_))))))))
 refine BX (C1 (BZ (mV (k:=sV bO (k:=BX ?_)))))
 refine ciV h (λhb21 h=>?_) (λhb21 h=>?_)
 ·
  refine BZ (mV (k:=aV (k:=aV (k:=BX ?_))))
  refine C2 ?_
  intro w hw
  have hw:=hw.pad
  exact re_ r [1,0] h hF hw ⟨row11,0,[],rfl,rfl,hr12,rfl,hr20,trivial⟩
 refine C4 (wc_ (BZ (sV (q_fl 2 iJ) (k:=sV (ldV 3 CZ) (k:=?_)))))
 obtain⟨z22,hz23,h⟩:=bnd h
 refine ecV [] (caV call22) (λw hp=>fl (hc_.2.2.1.2.mono hl8) hc_.2.2.1.1 hp hz23) ?_
 rintro Γ24 _ _ hl25 ⟨A28,c29,row30,rfl,rfl,hr31,_⟩
 refine cwV 31 [_,_,_,_,_] (sV (q_fl 2 iJ) (k:=stV 4 (.slice A28 z22.length c29) #[ii c_.self,ii c_.sites,.slice A28 z22.length c29,ii c_.cap,ii c_.base,.slice Ac_5 c_.members.length cc_5] sizeOf22 (k:=BX (C1 ?_))))
 obtain⟨z32,hz33,h⟩:=bnd h
 have ho34:=lN (qM hr15 (λ_ h=>h.mono hl25)) hz33
 refine leV λh035=>?_
 refine e7 (CC F Γ24 [row18,[(g1,.cells #[ii c_.self,ii c_.sites,.slice A28 z22.length c29,ii c_.cap,ii c_.base,.slice Ac_5 c_.members.length cc_5] 25 (0,0))]]) (bo_ [3,3] gR h035) λk=>?_
 change WH _ _ _ _ (CC F Γ24 [_,_,_,_,_]) _ 9 _ _
 refine hV 0 k (q:=ldaV 1 [ii c_.self,ii c_.sites,.slice A28 z22.length c29,ii c_.cap,ii c_.base,.slice Ac_5 c_.members.length cc_5] isAgg25 CV) (k:=hV 1 k (q:=au (v:=(pq g13)) rfl (aW rfl hz33)) (k:=hV 3 k (q:=q_fl 5 rc) (k:=hV 4 k (q:=ldV 1 CZ) (k:=?_))))
 obtain⟨z36,hz37,h⟩:=bnd h
 refine Cj (l:=[2,5]) (by kernel_rfl) (by simp) ?_
 intro i hi; simp only [Ct,List.not_mem_nil,or_false] at hi
 rcases hi with rfl | rfl
 ·
  refine⟨_,rfl,?_⟩
  refine iW (intK DT) gp.v rfl rfl rfl rfl ?_
  intro g38 row39 hm40
  refine C0 (nxV (bo_ [4,4] gR h035) λk=>?_)
  refine wl_ 5 rfl ?_
  refine ecV [] (caV call22) (λw hp=>fl (hc_.2.2.2.2.2.2.mono (hl8.trans hl25)) hc_.2.2.2.2.2.1 hp hz37) ?_
  rintro Γ41 _ _ hl42 ⟨A45,c46,row47,rfl,rfl,hr48,_⟩
  refine cwV 38 [_,_,_,_,_,_,_] ?_
  refine C0 (nxV (bo_ [5,5] hl42 h035) λk=>?_)
  refine hV 6 k (q:=aR (v:=.agg #[ii c_.self,ii c_.sites,.slice A28 z22.length c29,ii c_.cap,ii c_.base,.slice Ac_5 c_.members.length cc_5,(pq g13),.slice none 0 0,.pointer none,.slice none 0 0,ii 1,.map (some g38),.slice A45 z36.length c46]) rfl (qZ rfl rfl rfl rfl rfl) (λw=>by kernel_rfl)) (k:=wl_ 7 rfl ?_)
  refine bxV (v:=.agg #[ii c_.self,ii c_.sites,.slice A28 z22.length c29,ii c_.cap,ii c_.base,.slice Ac_5 c_.members.length cc_5,(pq g13),.slice none 0 0,.pointer none,.slice none 0 0,ii 1,.map (some g38),.slice A45 z36.length c46]) λgh40_=>?_
  refine C0 (nxV (bo_ [6,6] hl42 h035) λk=>?_)
  refine hV 8 k (q:=aoV) (k:=?_)
  refine Ca (by kernel_rfl) ?_
  change WC _ _ _ _ _ _
  refine C1 (BZ (sV (q_fl 1 gS) (k:=sV (ldV 7 CY) (k:=mV (k:=BX (C5 ?_))))))
  refine Ci h (λ(i55:Nat) (x49:List Int) σ w => ∃(A50:Option Addr), ∃(c51:Nat), ∃(row52:Rowb),slots σ [(5,(pq g1)),(9,.slice A16 z5.2.2.1.length c17),(11,(pq gh40_)),(42,ii c_.sites),(43,ii (i55:Int))]∧CC F Γ41 [row52,[(gh40_,.cells #[ii c_.self,ii c_.sites,.slice A28 z22.length c29,ii c_.cap,ii c_.base,.slice Ac_5 c_.members.length cc_5,(pq g13),.slice A50 x49.length c51,.pointer none,.slice none 0 0,ii 1,.map (some g38),.slice A45 z36.length c46] 68 (0,0))],row47,row39,row30,row11,row14,row18,[(g1,.cells #[ii c_.self,ii c_.sites,.slice A28 z22.length c29,ii c_.cap,ii c_.base,.slice Ac_5 c_.members.length cc_5] 25 (0,0))]] w∧Own intT Γ41 2 row52 A50 c51 x49∧True) ?_ ?_
  ·
   intro w hw
   have hw:=hw.pad
   exact⟨none,0,[],slK,hw,(Own.nil intT _ 2),trivial⟩
  rintro f54 i55 x49 σ w hi56 hlt57 hge58 ⟨A50,c51,row52,hsl,hw,ho53,-⟩
  refine slV hsl hw [_,_,_,_,_,_,_,_,_] ?_; clear hw hsl
  refine BZ (sV aQ (k:=BX (C1 ?_)))
  refine coV (λhb59=>?_) (λhb59=>?_)
  ·
   have hl60:=ilti hb59
   have h:=hlt57 hl60
   refine C4 (wc_ (C1 (C5 ?_)))
   refine leV λh061=>?_
   refine e7 (CC F Γ41 [row18,[(g1,.cells #[ii c_.self,ii c_.sites,.slice A28 z22.length c29,ii c_.cap,ii c_.base,.slice Ac_5 c_.members.length cc_5] 25 (0,0))]]) (bo_ [7,7] gR h061) λk=>?_
   change WH _ _ _ _ (CC F Γ41 [_,_,_,_,_,_,_,_,_]) _ 12 _ _
   refine hV 0 k (q:=moV) (k:=hV 1 k (q:=moV) (k:=hV 2 k (q:=nlV) (k:=hV 3 k (q:=q_fl 7 cj) (k:=hV 5 k (q:=q_fl 4 l6) (k:=hV 6 k (q:=ldV 1 D0) (k:=?_))))))
   refine Cj (l:=[4,7]) (by kernel_rfl) (by simp) ?_
   intro i hi; simp only [Ct,List.not_mem_nil,or_false] at hi
   rcases hi with rfl | rfl
   ·
    refine⟨_,rfl,?_⟩
    refine sV (ldV 1 DP) (k:=?_)
    refine C0 (nxV (bo_ [7,7] gR h061) λk=>?_)
    refine wl_ 7 rfl ?_
    refine bsV #[ii c_.base] 2 λg62=>?_
    refine C0 (nxV (bo_ [8,8] gR h061) λk=>?_)
    refine wl_ 8 rfl ?_
    obtain⟨hk63,h⟩:=ag h
    refine apV 1 [c_.base] iz ho53 (Cl hk63) (λw hw=>cM (i:=0) rfl (by exact⟨rfl,hc_.2.2.2.2.1⟩) hw) ?_
    intro row64 A65 c66 ho67
    refine C0 (nxV (bo_ [8,8] gR h061) λk=>?_)
    refine hV 9 k (q:=nlV) (k:=hV 10 k (q:=q_fl 7 cj) (k:=wl_ 11 rfl (stV 2 (.slice A65 (x49++[c_.base]).length c66) #[ii c_.self,ii c_.sites,.slice A28 z22.length c29,ii c_.cap,ii c_.base,.slice Ac_5 c_.members.length cc_5,(pq g13),.slice A65 (x49++[c_.base]).length c66,.pointer none,.slice none 0 0,ii 1,.map (some g38),.slice A45 z36.length c46] DY (k:=?_))))
    refine C0 (nxV (bo_ [8,8] gR h061) λk=>?_)
    refine Ca (by kernel_rfl) ?_
    change WC _ _ _ _ _ _
    refine C3 ?_
    refine sV (aw rfl rfl rfl (hO hl60 hc_.2.1)) (k:=mV (k:=?_))
    exact C0 λw hw=>⟨hl60,(x49++[c_.base]),h,A65,c66,row64,slK,(hw.on [1,1,1,1,1,1,1,1,1]),ho67,trivial⟩
   refine⟨_,rfl,?_⟩
   refine bsV #[ii c_.base] 2 λg62=>?_
   refine C0 (nxV (bo_ [8,8] gR h061) λk=>?_)
   refine wl_ 4 rfl (sV (ldV 2 DP) (k:=?_))
   refine C0 (nxV (bo_ [8,8] gR h061) λk=>?_)
   refine wl_ 8 rfl ?_
   obtain⟨hk63,h⟩:=ag h
   refine apV 1 [c_.base] iz ho53 (Cl hk63) (λw hw=>cM (i:=0) rfl (by exact⟨rfl,hc_.2.2.2.2.1⟩) hw) ?_
   intro row64 A65 c66 ho67
   refine C0 (nxV (bo_ [8,8] gR h061) λk=>?_)
   refine hV 9 k (q:=nlV) (k:=hV 10 k (q:=q_fl 7 cj) (k:=wl_ 11 rfl (stV 2 (.slice A65 (x49++[c_.base]).length c66) #[ii c_.self,ii c_.sites,.slice A28 z22.length c29,ii c_.cap,ii c_.base,.slice Ac_5 c_.members.length cc_5,(pq g13),.slice A65 (x49++[c_.base]).length c66,.pointer none,.slice none 0 0,ii 1,.map (some g38),.slice A45 z36.length c46] DY (k:=?_))))
   refine C0 (nxV (bo_ [8,8] gR h061) λk=>?_)
   refine Ca (by kernel_rfl) ?_
   change WC _ _ _ _ _ _
   refine C3 ?_
   refine sV (aw rfl rfl rfl (hO hl60 hc_.2.1)) (k:=mV (k:=?_))
   exact C0 λw hw=>⟨hl60,(x49++[c_.base]),h,A65,c66,row64,slK,(hw.on [1,1,1,1,1,1,1,1,1]),ho67,trivial⟩
  have h:=hge58 (igei hb59)
  refine C8 ?_
  change WC _ _ _ _ _ _
  refine C1 (BZ (mV (k:=sV (ab rfl D8) (k:=mV (k:=BX (C5 ?_))))))
  have hc72:=(hr31.mono hl42).capz
  refine seC 4 [_,_,_,_,_,_,_,_,_] λΓ68 hl69 hr70=>?_
  have hs71:=(hr31.mono hl42).sl hl69 hr70
  have hc77:=(ho53.mono hl69).capz
  refine seC 0 [_,_,_,_,_,_,_,_,_] λΓ73 hl74 hr75=>?_
  have hs76:=(ho53.mono hl69).sl hl74 hr75
  refine WC.mono ?_ (λw hw=>hw.pad)
  have hc82:=(hr48.mono (hl69.trans hl74)).capz
  refine seC 3 [_,_,_,_,_,_,_,_,_,_] λΓ78 hl79 hr80=>?_
  have hs81:=(hr48.mono (hl69.trans hl74)).sl hl79 hr80
  obtain⟨row_83,hrow_83,hob_83⟩:∃rw:Rowb,rw=([[(gh40_,.cells #[ii c_.self,ii c_.sites,.slice A28 z22.length c29,ii c_.cap,ii c_.base,.slice Ac_5 c_.members.length cc_5,(pq g13),.slice A50 x49.length c51,.pointer none,.slice none 0 0,ii 1,.map (some g38),.slice A45 z36.length c46] 68 (0,0))],row14,[],row39]:List Rowb).flatten∧a6.ob (68,gd) Γ78 gh40_ rw (⟨c_.self,c_.sites,z22,c_.cap,c_.base,z32,x49,none,([]:List aN),1,([]:List (Int×Bool)),z36⟩:a6):=⟨_,rfl,A28,c29,(.slice Ac_5 c_.members.length cc_5),g13,row14,A50,c51,none,none,0,[],g38,row39,A45,c46,rfl,hc_.1,hc_.2.1,hc72,(hs71.mono (hl74.trans hl79)),hc_.2.2.2.1,hc_.2.2.2.2.1,(ho34.mono (((hl42.trans hl69).trans hl74).trans hl79)),hc77,(hs76.mono hl79),(Pd.nil _ _),((LM.nil aL aZ (intK DT) gp.v Γ73 89).mono hl79),iV,(hm40.mono (((hl42.trans hl69).trans hl74).trans hl79)),hc82,hs81,trivial⟩
  refine foC [2,6,0,2] hrow_83 [_,_,_,_,_,_,_] ?_
  refine Cc h (λ(i90:Nat) (o86:a6) σ w => ∃(Γ84:Gh), ∃(row87:Rowb),slots σ [(11,(pq gh40_)),(57,.slice A16 z5.2.2.1.length c17),(58,ii (z5.2.2.1.length:Int)),(59,ii (i90:Int))]∧CC F Γ84 [row87,row11,row18] w∧Gh.le Γ78 Γ84∧a6.ob (68,gd) Γ84 gh40_ row87 o86∧True) ?_ ?_
  ·
   intro w hw
   exact⟨Γ78,row_83,slK,(hw.on [0,3,3]),gR,hob_83,trivial⟩
  rintro f89 i90 o86 σ w hi91 hlt92 hge93 ⟨Γ84,row87,hsl,hw,hl85,ho88,-⟩
  refine slV hsl hw [_,_,_] ?_; clear hw hsl
  refine BZ (sV aQ (k:=BX (C1 ?_)))
  refine coV (λhb94=>?_) (λhb94=>?_)
  ·
   have hl95:=ilt hb94
   have h:=hlt92 hl95
   refine C4 (wc_ (C1 (C5 (BZ (sV (aO (i:=i90) D8 D9 rfl rfl rfl hl95 ((hr19.mono (((((hl25.trans hl42).trans hl69).trans hl74).trans hl79).trans hl85)).some_ hl95)) (k:=?_))))))
   obtain⟨A96,c97,hx98⟩:=(hr19.mono (((((hl25.trans hl42).trans hl69).trans hl74).trans hl79).trans hl85)).slT_at i90
   refine sV (ry (c:=0) (v:=.slice A96 (gt z5.2.2.1 i90).length c97) (i:=2) rfl (hx98 hl95).2 rfl Da rfl rfl) (k:=aV (k:=BX (BZ (mV (k:=?_)))))
   obtain⟨z99,hz100,h⟩:=bnd h
   refine ecV [] (caV call23) (λw hp=>dC (hx98 hl95).1.2 (hx98 hl95).1.1 hp hz100) ?_
   rintro Γ101 _ _ hl102 (⟨ho105,rfl,rfl,_⟩ | ⟨o106,ho105,A107,c108,rfl,rfl,hr109,_⟩ | ⟨o106,ho105,A110,c111,A112,c113,rfl,rfl,hr114,_⟩ | ⟨o106,ho105,rfl,rfl,hr115,_⟩ | ⟨o106,ho105,rfl,rfl,hr116,_⟩)
   ·
    have h:=ak.e_nil ho105 h
    refine cwV 65 [_,_,_] (mV (k:=sV exV (k:=sV exV (k:=aU (v:=.nilIface) (k:=aV (k:=BX (C1 ?_)))))))
    refine BZ (mV (k:=sV aX (k:=mV (k:=vG0 (h:=λhg117=>moV) (k:=vG0 (h:=λhg118=>au (v:=.nilIface) rfl (by kernel_rfl)) (k:=?_))))))
    obtain⟨z120,hz121,h⟩:=bnd h
    refine vC0 (h:=λhg119=>b3 (aE E0 rfl rfl (cN (grV hg119) (grV hg119))) (λw hw=>ga (Γ:=Gh.all w) ((ho88.mono hl102).mono hw.sat.le_all) (hw.ra 0 rfl) (Sat.all w) (cK hz121 hg119))) (k:=vG0 (h:=λhg122=>aX rfl (grV hg122)) (k:=sV pkO (k:=BX ?_)))
    refine ciV h (λhb123 h=>?_) (λhb123 h=>?_)
    ·
     refine BZ (aV (k:=aV (k:=BX ?_)))
     refine C2 ?_
     intro w hw
     have hw:=hw.pad
     exact re_ r [2,0] h hF hw ⟨row11,0,[],rfl,rfl,(hr12.mono ((((((hl25.trans hl42).trans hl69).trans hl74).trans hl79).trans hl85).trans hl102)),rfl,iV,trivial⟩
    refine C4 (wc_ ?_)
    refine C3 ?_
    refine mV (k:=mU (v:=.nilIface) (k:=?_))
    obtain⟨z124,hz125,h⟩:=bnd h
    refine ecV [0] (caV E1) (λw hp=>bq (ho88.mono hl102) hp hz125) ?_
    rintro Γ126 _ _ hl127 ⟨rfl,rfl,_⟩
    refine cwV 78 [_,_,_] ?_
    refine C0 ?_
    change WC _ _ _ _ _ _
    refine C3 ?_
    refine sV (aw rfl rfl rfl (aA hl95 (hr19.mono (((((hl25.trans hl42).trans hl69).trans hl74).trans hl79).trans hl85)).le)) (k:=mV (k:=?_))
    exact C0 λw hw=>⟨hl95,o86,h,Γ126,row87,slK,hw,((hl85.trans hl102).trans hl127),(ho88.mono (hl102.trans hl127)),trivial⟩
   ·
    have h:=ak.e_queue_issue ho105 h
    refine cwV 65 [_,_,_] (mV (k:=sV exV (k:=sV exV (k:=aU (v:=.iface 83 (.agg (Rec.cs A107 c108 o106.r).toArray)) (k:=aV (k:=BX (C1 ?_)))))))
    refine BZ (mV (k:=sV aX (k:=mV (k:=vG0 (h:=λhg130=>moV) (k:=vG0 (h:=λhg131=>au (v:=.iface 83 (.agg (Rec.cs A107 c108 o106.r).toArray)) rfl (by kernel_rfl)) (k:=?_))))))
    obtain⟨z133,hz134,h⟩:=bnd h
    refine vC0 (h:=λhg132=>b3 (aE E0 rfl rfl (cN (grV hg132) (grV hg132))) (λw hw=>d9 (Γ:=Gh.all w) ((ho88.mono hl102).mono hw.sat.le_all) (hw.ra 0 rfl) o106 (ar.fits_mono hr109 hw.sat.le_all) (Sat.all w) (cK hz134 hg132))) (k:=vG0 (h:=λhg135=>aX rfl (grV hg135)) (k:=sV pkO (k:=BX ?_)))
    refine ciV h (λhb136 h=>?_) (λhb136 h=>?_)
    ·
     refine BZ (aV (k:=aV (k:=BX ?_)))
     refine C2 ?_
     intro w hw
     have hw:=hw.pad
     exact re_ r [2,0] h hF hw ⟨row11,0,[],rfl,rfl,(hr12.mono ((((((hl25.trans hl42).trans hl69).trans hl74).trans hl79).trans hl85).trans hl102)),rfl,iV,trivial⟩
    refine C4 (wc_ ?_)
    refine C3 ?_
    refine mV (k:=mU (v:=.iface 83 (.agg (Rec.cs A107 c108 o106.r).toArray)) (k:=?_))
    obtain⟨z137,hz138,h⟩:=bnd h
    refine ecV [0] (caV E1) (λw hp=>b7 (ho88.mono hl102) o106 hr109 hp hz138) ?_
    rintro Γ139 _ _ hl140 ⟨row143,rfl,rfl,hr144,_⟩
    refine cwV 78 [_,_,_] ?_
    refine C0 ?_
    change WC _ _ _ _ _ _
    refine C3 ?_
    refine sV (aw rfl rfl rfl (aA hl95 (hr19.mono (((((hl25.trans hl42).trans hl69).trans hl74).trans hl79).trans hl85)).le)) (k:=mV (k:=?_))
    exact C0 λw hw=>⟨hl95,z137,h,Γ139,row143,slK,hw,((hl85.trans hl102).trans hl140),hr144,trivial⟩
   ·
    have h:=ak.e_queue_did ho105 h
    refine cwV 65 [_,_,_] (mV (k:=sV exV (k:=sV exV (k:=aU (v:=.iface 86 (.agg (ae.cs A110 c111 A112 c113 o106).toArray)) (k:=aV (k:=BX (C1 ?_)))))))
    refine BZ (mV (k:=sV aX (k:=mV (k:=vG0 (h:=λhg145=>moV) (k:=vG0 (h:=λhg146=>au (v:=.iface 86 (.agg (ae.cs A110 c111 A112 c113 o106).toArray)) rfl (by kernel_rfl)) (k:=?_))))))
    obtain⟨z148,hz149,h⟩:=bnd h
    refine vC0 (h:=λhg147=>b3 (aE E0 rfl rfl (cN (grV hg147) (grV hg147))) (λw hw=>ck (Γ:=Gh.all w) ((ho88.mono hl102).mono hw.sat.le_all) (hw.ra 0 rfl) o106 (ae.fits_mono hr114 hw.sat.le_all) (Sat.all w) (cK hz149 hg147))) (k:=vG0 (h:=λhg150=>aX rfl (grV hg150)) (k:=sV pkO (k:=BX ?_)))
    refine ciV h (λhb151 h=>?_) (λhb151 h=>?_)
    ·
     refine BZ (aV (k:=aV (k:=BX ?_)))
     refine C2 ?_
     intro w hw
     have hw:=hw.pad
     exact re_ r [2,0] h hF hw ⟨row11,0,[],rfl,rfl,(hr12.mono ((((((hl25.trans hl42).trans hl69).trans hl74).trans hl79).trans hl85).trans hl102)),rfl,iV,trivial⟩
    refine C4 (wc_ ?_)
    refine C3 ?_
    refine mV (k:=mU (v:=.iface 86 (.agg (ae.cs A110 c111 A112 c113 o106).toArray)) (k:=?_))
    obtain⟨z152,hz153,h⟩:=bnd h
    refine ecV [0] (caV E1) (λw hp=>b9 (ho88.mono hl102) o106 hr114 hp hz153) ?_
    rintro Γ154 _ _ hl155 ⟨row158,rfl,rfl,hr159,_⟩
    refine cwV 78 [_,_,_] ?_
    refine C0 ?_
    change WC _ _ _ _ _ _
    refine C3 ?_
    refine sV (aw rfl rfl rfl (aA hl95 (hr19.mono (((((hl25.trans hl42).trans hl69).trans hl74).trans hl79).trans hl85)).le)) (k:=mV (k:=?_))
    exact C0 λw hw=>⟨hl95,z152,h,Γ154,row158,slK,hw,((hl85.trans hl102).trans hl155),hr159,trivial⟩
   ·
    have h:=ak.e_queue_ack ho105 h
    refine cwV 65 [_,_,_] (mV (k:=sV exV (k:=sV exV (k:=aU (v:=.iface 95 (.agg (al.cs o106).toArray)) (k:=aV (k:=BX (C1 ?_)))))))
    refine BZ (mV (k:=sV aX (k:=mV (k:=vG0 (h:=λhg160=>moV) (k:=vG0 (h:=λhg161=>au (v:=.iface 95 (.agg (al.cs o106).toArray)) rfl (by kernel_rfl)) (k:=?_))))))
    obtain⟨z163,hz164,h⟩:=bnd h
    refine vC0 (h:=λhg162=>b3 (aE E0 rfl rfl (cN (grV hg162) (grV hg162))) (λw hw=>d7 (Γ:=Gh.all w) ((ho88.mono hl102).mono hw.sat.le_all) (hw.ra 0 rfl) o106 hr115 (Sat.all w) (cK hz164 hg162))) (k:=vG0 (h:=λhg165=>aX rfl (grV hg165)) (k:=sV pkO (k:=BX ?_)))
    refine ciV h (λhb166 h=>?_) (λhb166 h=>?_)
    ·
     refine BZ (aV (k:=aV (k:=BX ?_)))
     refine C2 ?_
     intro w hw
     have hw:=hw.pad
     exact re_ r [2,0] h hF hw ⟨row11,0,[],rfl,rfl,(hr12.mono ((((((hl25.trans hl42).trans hl69).trans hl74).trans hl79).trans hl85).trans hl102)),rfl,iV,trivial⟩
    refine C4 (wc_ ?_)
    refine C3 ?_
    refine mV (k:=mU (v:=.iface 95 (.agg (al.cs o106).toArray)) (k:=?_))
    obtain⟨z167,hz168,h⟩:=bnd h
    refine ecV [0] (caV E1) (λw hp=>bb (ho88.mono hl102) o106 hr115 hp hz168) ?_
    rintro Γ169 _ _ hl170 ⟨row173,rfl,rfl,hr174,_⟩
    refine cwV 78 [_,_,_] ?_
    refine C0 ?_
    change WC _ _ _ _ _ _
    refine C3 ?_
    refine sV (aw rfl rfl rfl (aA hl95 (hr19.mono (((((hl25.trans hl42).trans hl69).trans hl74).trans hl79).trans hl85)).le)) (k:=mV (k:=?_))
    exact C0 λw hw=>⟨hl95,z167,h,Γ169,row173,slK,hw,((hl85.trans hl102).trans hl170),hr174,trivial⟩
   have h:=ak.e_queue_clear ho105 h
   refine cwV 65 [_,_,_] (mV (k:=sV exV (k:=sV exV (k:=aU (v:=.iface 97 (.agg #[ii o106.sink])) (k:=aV (k:=BX (C1 ?_)))))))
   refine BZ (mV (k:=sV aX (k:=mV (k:=vG0 (h:=λhg175=>moV) (k:=vG0 (h:=λhg176=>au (v:=.iface 97 (.agg #[ii o106.sink])) rfl (by kernel_rfl)) (k:=?_))))))
   obtain⟨z178,hz179,h⟩:=bnd h
   refine vC0 (h:=λhg177=>b3 (aE E0 rfl rfl (cN (grV hg177) (grV hg177))) (λw hw=>d8 (Γ:=Gh.all w) ((ho88.mono hl102).mono hw.sat.le_all) (hw.ra 0 rfl) o106 hr116 (Sat.all w) (cK hz179 hg177))) (k:=vG0 (h:=λhg180=>aX rfl (grV hg180)) (k:=sV pkO (k:=BX ?_)))
   refine ciV h (λhb181 h=>?_) (λhb181 h=>?_)
   ·
    refine BZ (aV (k:=aV (k:=BX ?_)))
    refine C2 ?_
    intro w hw
    have hw:=hw.pad
    exact re_ r [2,0] h hF hw ⟨row11,0,[],rfl,rfl,(hr12.mono ((((((hl25.trans hl42).trans hl69).trans hl74).trans hl79).trans hl85).trans hl102)),rfl,iV,trivial⟩
   refine C4 (wc_ ?_)
   refine C3 ?_
   refine mV (k:=mU (v:=.iface 97 (.agg #[ii o106.sink])) (k:=?_))
   obtain⟨z182,hz183,h⟩:=bnd h
   refine ecV [0] (caV E1) (λw hp=>ba (ho88.mono hl102) o106 hr116 hp hz183) ?_
   rintro Γ184 _ _ hl185 ⟨row188,rfl,rfl,hr189,_⟩
   refine cwV 78 [_,_,_] ?_
   refine C0 ?_
   change WC _ _ _ _ _ _
   refine C3 ?_
   refine sV (aw rfl rfl rfl (aA hl95 (hr19.mono (((((hl25.trans hl42).trans hl69).trans hl74).trans hl79).trans hl85)).le)) (k:=mV (k:=?_))
   exact C0 λw hw=>⟨hl95,z182,h,Γ184,row188,slK,hw,((hl85.trans hl102).trans hl185),hr189,trivial⟩
  have h:=hge93 (ige hb94)
  refine C8 ?_
  change WC _ _ _ _ _ _
  refine BZ (mV (k:=aV (k:=aV (k:=BX ?_))))
  exact C2 λw hw=>re_ r [1,0] h hF hw ⟨row11,gh40_,row87,rfl,rfl,(hr12.mono (((((hl25.trans hl42).trans hl69).trans hl74).trans hl79).trans hl85)),ho88,iV,trivial⟩
 refine⟨_,rfl,?_⟩
 refine ecV [] (caV call22) (λw hp=>fl (hc_.2.2.2.2.2.2.mono (hl8.trans hl25)) hc_.2.2.2.2.2.1 hp hz37) ?_
 rintro Γ38 _ _ hl39 ⟨A42,c43,row44,rfl,rfl,hr45,_⟩
 refine cwV 38 [_,_,_,_,_,_] ?_
 refine C0 (nxV (bo_ [4,4] hl39 h035) λk=>?_)
 refine wl_ 2 rfl ?_
 refine iW (intK DT) gp.v rfl rfl rfl rfl ?_
 intro g46 row47 hm48
 refine C0 (nxV (bo_ [5,5] hl39 h035) λk=>?_)
 refine hV 6 k (q:=aR (v:=.agg #[ii c_.self,ii c_.sites,.slice A28 z22.length c29,ii c_.cap,ii c_.base,.slice Ac_5 c_.members.length cc_5,(pq g13),.slice none 0 0,.pointer none,.slice none 0 0,ii 1,.map (some g46),.slice A42 z36.length c43]) rfl (qZ rfl rfl rfl rfl rfl) (λw=>by kernel_rfl)) (k:=wl_ 7 rfl ?_)
 refine bxV (v:=.agg #[ii c_.self,ii c_.sites,.slice A28 z22.length c29,ii c_.cap,ii c_.base,.slice Ac_5 c_.members.length cc_5,(pq g13),.slice none 0 0,.pointer none,.slice none 0 0,ii 1,.map (some g46),.slice A42 z36.length c43]) λgh40_=>?_
 refine C0 (nxV (bo_ [6,6] hl39 h035) λk=>?_)
 refine hV 8 k (q:=aoV) (k:=?_)
 refine Ca (by kernel_rfl) ?_
 change WC _ _ _ _ _ _
 refine C1 (BZ (sV (q_fl 1 gS) (k:=sV (ldV 7 CY) (k:=mV (k:=BX (C5 ?_))))))
 refine Ci h (λ(i55:Nat) (x49:List Int) σ w => ∃(A50:Option Addr), ∃(c51:Nat), ∃(row52:Rowb),slots σ [(5,(pq g1)),(9,.slice A16 z5.2.2.1.length c17),(11,(pq gh40_)),(42,ii c_.sites),(43,ii (i55:Int))]∧CC F Γ38 [row52,[(gh40_,.cells #[ii c_.self,ii c_.sites,.slice A28 z22.length c29,ii c_.cap,ii c_.base,.slice Ac_5 c_.members.length cc_5,(pq g13),.slice A50 x49.length c51,.pointer none,.slice none 0 0,ii 1,.map (some g46),.slice A42 z36.length c43] 68 (0,0))],row47,row44,row30,row11,row14,row18,[(g1,.cells #[ii c_.self,ii c_.sites,.slice A28 z22.length c29,ii c_.cap,ii c_.base,.slice Ac_5 c_.members.length cc_5] 25 (0,0))]] w∧Own intT Γ38 2 row52 A50 c51 x49∧True) ?_ ?_
 ·
  intro w hw
  have hw:=hw.pad
  exact⟨none,0,[],slK,hw,(Own.nil intT _ 2),trivial⟩
 rintro f54 i55 x49 σ w hi56 hlt57 hge58 ⟨A50,c51,row52,hsl,hw,ho53,-⟩
 refine slV hsl hw [_,_,_,_,_,_,_,_,_] ?_; clear hw hsl
 refine BZ (sV aQ (k:=BX (C1 ?_)))
 refine coV (λhb59=>?_) (λhb59=>?_)
 ·
  have hl60:=ilti hb59
  have h:=hlt57 hl60
  refine C4 (wc_ (C1 (C5 ?_)))
  refine leV λh061=>?_
  refine e7 (CC F Γ38 [row18,[(g1,.cells #[ii c_.self,ii c_.sites,.slice A28 z22.length c29,ii c_.cap,ii c_.base,.slice Ac_5 c_.members.length cc_5] 25 (0,0))]]) (bo_ [7,7] gR h061) λk=>?_
  change WH _ _ _ _ (CC F Γ38 [_,_,_,_,_,_,_,_,_]) _ 12 _ _
  refine hV 0 k (q:=moV) (k:=hV 1 k (q:=moV) (k:=hV 2 k (q:=nlV) (k:=hV 3 k (q:=q_fl 7 cj) (k:=hV 5 k (q:=q_fl 4 l6) (k:=hV 6 k (q:=ldV 1 D0) (k:=?_))))))
  refine Cj (l:=[4,7]) (by kernel_rfl) (by simp) ?_
  intro i hi; simp only [Ct,List.not_mem_nil,or_false] at hi
  rcases hi with rfl | rfl
  ·
   refine⟨_,rfl,?_⟩
   refine sV (ldV 1 DP) (k:=?_)
   refine C0 (nxV (bo_ [7,7] gR h061) λk=>?_)
   refine wl_ 7 rfl ?_
   refine bsV #[ii c_.base] 2 λg62=>?_
   refine C0 (nxV (bo_ [8,8] gR h061) λk=>?_)
   refine wl_ 8 rfl ?_
   obtain⟨hk63,h⟩:=ag h
   refine apV 1 [c_.base] iz ho53 (Cl hk63) (λw hw=>cM (i:=0) rfl (by exact⟨rfl,hc_.2.2.2.2.1⟩) hw) ?_
   intro row64 A65 c66 ho67
   refine C0 (nxV (bo_ [8,8] gR h061) λk=>?_)
   refine hV 9 k (q:=nlV) (k:=hV 10 k (q:=q_fl 7 cj) (k:=wl_ 11 rfl (stV 2 (.slice A65 (x49++[c_.base]).length c66) #[ii c_.self,ii c_.sites,.slice A28 z22.length c29,ii c_.cap,ii c_.base,.slice Ac_5 c_.members.length cc_5,(pq g13),.slice A65 (x49++[c_.base]).length c66,.pointer none,.slice none 0 0,ii 1,.map (some g46),.slice A42 z36.length c43] DY (k:=?_))))
   refine C0 (nxV (bo_ [8,8] gR h061) λk=>?_)
   refine Ca (by kernel_rfl) ?_
   change WC _ _ _ _ _ _
   refine C3 ?_
   refine sV (aw rfl rfl rfl (hO hl60 hc_.2.1)) (k:=mV (k:=?_))
   exact C0 λw hw=>⟨hl60,(x49++[c_.base]),h,A65,c66,row64,slK,(hw.on [1,1,1,1,1,1,1,1,1]),ho67,trivial⟩
  refine⟨_,rfl,?_⟩
  refine bsV #[ii c_.base] 2 λg62=>?_
  refine C0 (nxV (bo_ [8,8] gR h061) λk=>?_)
  refine wl_ 4 rfl (sV (ldV 2 DP) (k:=?_))
  refine C0 (nxV (bo_ [8,8] gR h061) λk=>?_)
  refine wl_ 8 rfl ?_
  obtain⟨hk63,h⟩:=ag h
  refine apV 1 [c_.base] iz ho53 (Cl hk63) (λw hw=>cM (i:=0) rfl (by exact⟨rfl,hc_.2.2.2.2.1⟩) hw) ?_
  intro row64 A65 c66 ho67
  refine C0 (nxV (bo_ [8,8] gR h061) λk=>?_)
  refine hV 9 k (q:=nlV) (k:=hV 10 k (q:=q_fl 7 cj) (k:=wl_ 11 rfl (stV 2 (.slice A65 (x49++[c_.base]).length c66) #[ii c_.self,ii c_.sites,.slice A28 z22.length c29,ii c_.cap,ii c_.base,.slice Ac_5 c_.members.length cc_5,(pq g13),.slice A65 (x49++[c_.base]).length c66,.pointer none,.slice none 0 0,ii 1,.map (some g46),.slice A42 z36.length c43] DY (k:=?_))))
  refine C0 (nxV (bo_ [8,8] gR h061) λk=>?_)
  refine Ca (by kernel_rfl) ?_
  change WC _ _ _ _ _ _
  refine C3 ?_
  refine sV (aw rfl rfl rfl (hO hl60 hc_.2.1)) (k:=mV (k:=?_))
  exact C0 λw hw=>⟨hl60,(x49++[c_.base]),h,A65,c66,row64,slK,(hw.on [1,1,1,1,1,1,1,1,1]),ho67,trivial⟩
 have h:=hge58 (igei hb59)
 refine C8 ?_
 change WC _ _ _ _ _ _
 refine C1 (BZ (mV (k:=sV (ab rfl D8) (k:=mV (k:=BX (C5 ?_))))))
 have hc72:=(hr31.mono hl39).capz
 refine seC 4 [_,_,_,_,_,_,_,_,_] λΓ68 hl69 hr70=>?_
 have hs71:=(hr31.mono hl39).sl hl69 hr70
 have hc77:=(ho53.mono hl69).capz
 refine seC 0 [_,_,_,_,_,_,_,_,_] λΓ73 hl74 hr75=>?_
 have hs76:=(ho53.mono hl69).sl hl74 hr75
 refine WC.mono ?_ (λw hw=>hw.pad)
 have hc82:=(hr45.mono (hl69.trans hl74)).capz
 refine seC 4 [_,_,_,_,_,_,_,_,_,_] λΓ78 hl79 hr80=>?_
 have hs81:=(hr45.mono (hl69.trans hl74)).sl hl79 hr80
 obtain⟨row_83,hrow_83,hob_83⟩:∃rw:Rowb,rw=([[(gh40_,.cells #[ii c_.self,ii c_.sites,.slice A28 z22.length c29,ii c_.cap,ii c_.base,.slice Ac_5 c_.members.length cc_5,(pq g13),.slice A50 x49.length c51,.pointer none,.slice none 0 0,ii 1,.map (some g46),.slice A42 z36.length c43] 68 (0,0))],row14,[],row47]:List Rowb).flatten∧a6.ob (68,gd) Γ78 gh40_ rw (⟨c_.self,c_.sites,z22,c_.cap,c_.base,z32,x49,none,([]:List aN),1,([]:List (Int×Bool)),z36⟩:a6):=⟨_,rfl,A28,c29,(.slice Ac_5 c_.members.length cc_5),g13,row14,A50,c51,none,none,0,[],g46,row47,A42,c43,rfl,hc_.1,hc_.2.1,hc72,(hs71.mono (hl74.trans hl79)),hc_.2.2.2.1,hc_.2.2.2.2.1,(ho34.mono (((hl39.trans hl69).trans hl74).trans hl79)),hc77,(hs76.mono hl79),(Pd.nil _ _),((LM.nil aL aZ (intK DT) gp.v Γ73 89).mono hl79),iV,(hm48.mono ((hl69.trans hl74).trans hl79)),hc82,hs81,trivial⟩
 refine foC [2,6,0,1] hrow_83 [_,_,_,_,_,_,_] ?_
 refine Cc h (λ(i90:Nat) (o86:a6) σ w => ∃(Γ84:Gh), ∃(row87:Rowb),slots σ [(11,(pq gh40_)),(57,.slice A16 z5.2.2.1.length c17),(58,ii (z5.2.2.1.length:Int)),(59,ii (i90:Int))]∧CC F Γ84 [row87,row11,row18] w∧Gh.le Γ78 Γ84∧a6.ob (68,gd) Γ84 gh40_ row87 o86∧True) ?_ ?_
 ·
  intro w hw
  exact⟨Γ78,row_83,slK,(hw.on [0,3,3]),gR,hob_83,trivial⟩
 rintro f89 i90 o86 σ w hi91 hlt92 hge93 ⟨Γ84,row87,hsl,hw,hl85,ho88,-⟩
 refine slV hsl hw [_,_,_] ?_; clear hw hsl
 refine BZ (sV aQ (k:=BX (C1 ?_)))
 refine coV (λhb94=>?_) (λhb94=>?_)
 ·
  have hl95:=ilt hb94
  have h:=hlt92 hl95
  refine C4 (wc_ (C1 (C5 (BZ (sV (aO (i:=i90) D8 D9 rfl rfl rfl hl95 ((hr19.mono (((((hl25.trans hl39).trans hl69).trans hl74).trans hl79).trans hl85)).some_ hl95)) (k:=?_))))))
  obtain⟨A96,c97,hx98⟩:=(hr19.mono (((((hl25.trans hl39).trans hl69).trans hl74).trans hl79).trans hl85)).slT_at i90
  refine sV (ry (c:=0) (v:=.slice A96 (gt z5.2.2.1 i90).length c97) (i:=2) rfl (hx98 hl95).2 rfl Da rfl rfl) (k:=aV (k:=BX (BZ (mV (k:=?_)))))
  obtain⟨z99,hz100,h⟩:=bnd h
  refine ecV [] (caV call23) (λw hp=>dC (hx98 hl95).1.2 (hx98 hl95).1.1 hp hz100) ?_
  rintro Γ101 _ _ hl102 (⟨ho105,rfl,rfl,_⟩ | ⟨o106,ho105,A107,c108,rfl,rfl,hr109,_⟩ | ⟨o106,ho105,A110,c111,A112,c113,rfl,rfl,hr114,_⟩ | ⟨o106,ho105,rfl,rfl,hr115,_⟩ | ⟨o106,ho105,rfl,rfl,hr116,_⟩)
  ·
   have h:=ak.e_nil ho105 h
   refine cwV 65 [_,_,_] (mV (k:=sV exV (k:=sV exV (k:=aU (v:=.nilIface) (k:=aV (k:=BX (C1 ?_)))))))
   refine BZ (mV (k:=sV aX (k:=mV (k:=vG0 (h:=λhg117=>moV) (k:=vG0 (h:=λhg118=>au (v:=.nilIface) rfl (by kernel_rfl)) (k:=?_))))))
   obtain⟨z120,hz121,h⟩:=bnd h
   refine vC0 (h:=λhg119=>b3 (aE E0 rfl rfl (cN (grV hg119) (grV hg119))) (λw hw=>ga (Γ:=Gh.all w) ((ho88.mono hl102).mono hw.sat.le_all) (hw.ra 0 rfl) (Sat.all w) (cK hz121 hg119))) (k:=vG0 (h:=λhg122=>aX rfl (grV hg122)) (k:=sV pkO (k:=BX ?_)))
   refine ciV h (λhb123 h=>?_) (λhb123 h=>?_)
   ·
    refine BZ (aV (k:=aV (k:=BX ?_)))
    refine C2 ?_
    intro w hw
    have hw:=hw.pad
    exact re_ r [2,0] h hF hw ⟨row11,0,[],rfl,rfl,(hr12.mono ((((((hl25.trans hl39).trans hl69).trans hl74).trans hl79).trans hl85).trans hl102)),rfl,iV,trivial⟩
   refine C4 (wc_ ?_)
   refine C3 ?_
   refine mV (k:=mU (v:=.nilIface) (k:=?_))
   obtain⟨z124,hz125,h⟩:=bnd h
   refine ecV [0] (caV E1) (λw hp=>bq (ho88.mono hl102) hp hz125) ?_
   rintro Γ126 _ _ hl127 ⟨rfl,rfl,_⟩
   refine cwV 78 [_,_,_] ?_
   refine C0 ?_
   change WC _ _ _ _ _ _
   refine C3 ?_
   refine sV (aw rfl rfl rfl (aA hl95 (hr19.mono (((((hl25.trans hl39).trans hl69).trans hl74).trans hl79).trans hl85)).le)) (k:=mV (k:=?_))
   exact C0 λw hw=>⟨hl95,o86,h,Γ126,row87,slK,hw,((hl85.trans hl102).trans hl127),(ho88.mono (hl102.trans hl127)),trivial⟩
  ·
   have h:=ak.e_queue_issue ho105 h
   refine cwV 65 [_,_,_] (mV (k:=sV exV (k:=sV exV (k:=aU (v:=.iface 83 (.agg (Rec.cs A107 c108 o106.r).toArray)) (k:=aV (k:=BX (C1 ?_)))))))
   refine BZ (mV (k:=sV aX (k:=mV (k:=vG0 (h:=λhg130=>moV) (k:=vG0 (h:=λhg131=>au (v:=.iface 83 (.agg (Rec.cs A107 c108 o106.r).toArray)) rfl (by kernel_rfl)) (k:=?_))))))
   obtain⟨z133,hz134,h⟩:=bnd h
   refine vC0 (h:=λhg132=>b3 (aE E0 rfl rfl (cN (grV hg132) (grV hg132))) (λw hw=>d9 (Γ:=Gh.all w) ((ho88.mono hl102).mono hw.sat.le_all) (hw.ra 0 rfl) o106 (ar.fits_mono hr109 hw.sat.le_all) (Sat.all w) (cK hz134 hg132))) (k:=vG0 (h:=λhg135=>aX rfl (grV hg135)) (k:=sV pkO (k:=BX ?_)))
   refine ciV h (λhb136 h=>?_) (λhb136 h=>?_)
   ·
    refine BZ (aV (k:=aV (k:=BX ?_)))
    refine C2 ?_
    intro w hw
    have hw:=hw.pad
    exact re_ r [2,0] h hF hw ⟨row11,0,[],rfl,rfl,(hr12.mono ((((((hl25.trans hl39).trans hl69).trans hl74).trans hl79).trans hl85).trans hl102)),rfl,iV,trivial⟩
   refine C4 (wc_ ?_)
   refine C3 ?_
   refine mV (k:=mU (v:=.iface 83 (.agg (Rec.cs A107 c108 o106.r).toArray)) (k:=?_))
   obtain⟨z137,hz138,h⟩:=bnd h
   refine ecV [0] (caV E1) (λw hp=>b7 (ho88.mono hl102) o106 hr109 hp hz138) ?_
   rintro Γ139 _ _ hl140 ⟨row143,rfl,rfl,hr144,_⟩
   refine cwV 78 [_,_,_] ?_
   refine C0 ?_
   change WC _ _ _ _ _ _
   refine C3 ?_
   refine sV (aw rfl rfl rfl (aA hl95 (hr19.mono (((((hl25.trans hl39).trans hl69).trans hl74).trans hl79).trans hl85)).le)) (k:=mV (k:=?_))
   exact C0 λw hw=>⟨hl95,z137,h,Γ139,row143,slK,hw,((hl85.trans hl102).trans hl140),hr144,trivial⟩
  ·
   have h:=ak.e_queue_did ho105 h
   refine cwV 65 [_,_,_] (mV (k:=sV exV (k:=sV exV (k:=aU (v:=.iface 86 (.agg (ae.cs A110 c111 A112 c113 o106).toArray)) (k:=aV (k:=BX (C1 ?_)))))))
   refine BZ (mV (k:=sV aX (k:=mV (k:=vG0 (h:=λhg145=>moV) (k:=vG0 (h:=λhg146=>au (v:=.iface 86 (.agg (ae.cs A110 c111 A112 c113 o106).toArray)) rfl (by kernel_rfl)) (k:=?_))))))
   obtain⟨z148,hz149,h⟩:=bnd h
   refine vC0 (h:=λhg147=>b3 (aE E0 rfl rfl (cN (grV hg147) (grV hg147))) (λw hw=>ck (Γ:=Gh.all w) ((ho88.mono hl102).mono hw.sat.le_all) (hw.ra 0 rfl) o106 (ae.fits_mono hr114 hw.sat.le_all) (Sat.all w) (cK hz149 hg147))) (k:=vG0 (h:=λhg150=>aX rfl (grV hg150)) (k:=sV pkO (k:=BX ?_)))
   refine ciV h (λhb151 h=>?_) (λhb151 h=>?_)
   ·
    refine BZ (aV (k:=aV (k:=BX ?_)))
    refine C2 ?_
    intro w hw
    have hw:=hw.pad
    exact re_ r [2,0] h hF hw ⟨row11,0,[],rfl,rfl,(hr12.mono ((((((hl25.trans hl39).trans hl69).trans hl74).trans hl79).trans hl85).trans hl102)),rfl,iV,trivial⟩
   refine C4 (wc_ ?_)
   refine C3 ?_
   refine mV (k:=mU (v:=.iface 86 (.agg (ae.cs A110 c111 A112 c113 o106).toArray)) (k:=?_))
   obtain⟨z152,hz153,h⟩:=bnd h
   refine ecV [0] (caV E1) (λw hp=>b9 (ho88.mono hl102) o106 hr114 hp hz153) ?_
   rintro Γ154 _ _ hl155 ⟨row158,rfl,rfl,hr159,_⟩
   refine cwV 78 [_,_,_] ?_
   refine C0 ?_
   change WC _ _ _ _ _ _
   refine C3 ?_
   refine sV (aw rfl rfl rfl (aA hl95 (hr19.mono (((((hl25.trans hl39).trans hl69).trans hl74).trans hl79).trans hl85)).le)) (k:=mV (k:=?_))
   exact C0 λw hw=>⟨hl95,z152,h,Γ154,row158,slK,hw,((hl85.trans hl102).trans hl155),hr159,trivial⟩
  ·
   have h:=ak.e_queue_ack ho105 h
   refine cwV 65 [_,_,_] (mV (k:=sV exV (k:=sV exV (k:=aU (v:=.iface 95 (.agg (al.cs o106).toArray)) (k:=aV (k:=BX (C1 ?_)))))))
   refine BZ (mV (k:=sV aX (k:=mV (k:=vG0 (h:=λhg160=>moV) (k:=vG0 (h:=λhg161=>au (v:=.iface 95 (.agg (al.cs o106).toArray)) rfl (by kernel_rfl)) (k:=?_))))))
   obtain⟨z163,hz164,h⟩:=bnd h
   refine vC0 (h:=λhg162=>b3 (aE E0 rfl rfl (cN (grV hg162) (grV hg162))) (λw hw=>d7 (Γ:=Gh.all w) ((ho88.mono hl102).mono hw.sat.le_all) (hw.ra 0 rfl) o106 hr115 (Sat.all w) (cK hz164 hg162))) (k:=vG0 (h:=λhg165=>aX rfl (grV hg165)) (k:=sV pkO (k:=BX ?_)))
   refine ciV h (λhb166 h=>?_) (λhb166 h=>?_)
   ·
    refine BZ (aV (k:=aV (k:=BX ?_)))
    refine C2 ?_
    intro w hw
    have hw:=hw.pad
    exact re_ r [2,0] h hF hw ⟨row11,0,[],rfl,rfl,(hr12.mono ((((((hl25.trans hl39).trans hl69).trans hl74).trans hl79).trans hl85).trans hl102)),rfl,iV,trivial⟩
   refine C4 (wc_ ?_)
   refine C3 ?_
   refine mV (k:=mU (v:=.iface 95 (.agg (al.cs o106).toArray)) (k:=?_))
   obtain⟨z167,hz168,h⟩:=bnd h
   refine ecV [0] (caV E1) (λw hp=>bb (ho88.mono hl102) o106 hr115 hp hz168) ?_
   rintro Γ169 _ _ hl170 ⟨row173,rfl,rfl,hr174,_⟩
   refine cwV 78 [_,_,_] ?_
   refine C0 ?_
   change WC _ _ _ _ _ _
   refine C3 ?_
   refine sV (aw rfl rfl rfl (aA hl95 (hr19.mono (((((hl25.trans hl39).trans hl69).trans hl74).trans hl79).trans hl85)).le)) (k:=mV (k:=?_))
   exact C0 λw hw=>⟨hl95,z167,h,Γ169,row173,slK,hw,((hl85.trans hl102).trans hl170),hr174,trivial⟩
  have h:=ak.e_queue_clear ho105 h
  refine cwV 65 [_,_,_] (mV (k:=sV exV (k:=sV exV (k:=aU (v:=.iface 97 (.agg #[ii o106.sink])) (k:=aV (k:=BX (C1 ?_)))))))
  refine BZ (mV (k:=sV aX (k:=mV (k:=vG0 (h:=λhg175=>moV) (k:=vG0 (h:=λhg176=>au (v:=.iface 97 (.agg #[ii o106.sink])) rfl (by kernel_rfl)) (k:=?_))))))
  obtain⟨z178,hz179,h⟩:=bnd h
  refine vC0 (h:=λhg177=>b3 (aE E0 rfl rfl (cN (grV hg177) (grV hg177))) (λw hw=>d8 (Γ:=Gh.all w) ((ho88.mono hl102).mono hw.sat.le_all) (hw.ra 0 rfl) o106 hr116 (Sat.all w) (cK hz179 hg177))) (k:=vG0 (h:=λhg180=>aX rfl (grV hg180)) (k:=sV pkO (k:=BX ?_)))
  refine ciV h (λhb181 h=>?_) (λhb181 h=>?_)
  ·
   refine BZ (aV (k:=aV (k:=BX ?_)))
   refine C2 ?_
   intro w hw
   have hw:=hw.pad
   exact re_ r [2,0] h hF hw ⟨row11,0,[],rfl,rfl,(hr12.mono ((((((hl25.trans hl39).trans hl69).trans hl74).trans hl79).trans hl85).trans hl102)),rfl,iV,trivial⟩
  refine C4 (wc_ ?_)
  refine C3 ?_
  refine mV (k:=mU (v:=.iface 97 (.agg #[ii o106.sink])) (k:=?_))
  obtain⟨z182,hz183,h⟩:=bnd h
  refine ecV [0] (caV E1) (λw hp=>ba (ho88.mono hl102) o106 hr116 hp hz183) ?_
  rintro Γ184 _ _ hl185 ⟨row188,rfl,rfl,hr189,_⟩
  refine cwV 78 [_,_,_] ?_
  refine C0 ?_
  change WC _ _ _ _ _ _
  refine C3 ?_
  refine sV (aw rfl rfl rfl (aA hl95 (hr19.mono (((((hl25.trans hl39).trans hl69).trans hl74).trans hl79).trans hl85)).le)) (k:=mV (k:=?_))
  exact C0 λw hw=>⟨hl95,z182,h,Γ184,row188,slK,hw,((hl85.trans hl102).trans hl185),hr189,trivial⟩
 have h:=hge93 (ige hb94)
 refine C8 ?_
 change WC _ _ _ _ _ _
 refine BZ (mV (k:=aV (k:=aV (k:=BX ?_))))
 exact C2 λw hw=>re_ r [1,0] h hF hw ⟨row11,gh40_,row87,rfl,rfl,(hr12.mono (((((hl25.trans hl39).trans hl69).trans hl74).trans hl79).trans hl85)),ho88,iV,trivial⟩
abbrev t8(r:List UInt8)(U:List Rowb)(Γ:Gh)(v:Value):Prop := ∃(A0:Option Addr), ∃(c0:Nat), ∃(row0:Rowb),v = .slice A0 r.length c0∧U = [row0]∧Own ay Γ 5 row0 A0 c0 r∧True
theorem iL(n:Int)(hn:I64 n)(hp:Pre [] Γ w0){r:List UInt8}(h:ei n=some r):Calls Tryz.prog 113 #[ii n] w0 (Outc Γ [] w0 (t8 r)):=by
 refine goV [2] func113 ntmps113 results113 hp λF hF=>?_
 refine BZ (aV (k:=BX (BZ (aV (k:=BX (BZ (mV (k:=?_))))))))
 refine sV tS (k:=sV (j0 D6 underlying2) (k:=aV (k:=BX (C1 (C5 ?_)))))
 refine WC.loopN h (λ(s:(List UInt8)×Int) σ w=>match s with | (b_1,u_6) => ∃(A2:Option Addr), ∃(c3:Nat), ∃(row4:Rowb),slots σ [(3,.slice A2 b_1.length c3),(4,.int .u64 u_6)]∧CC F Γ [row4] w∧Own ay Γ 5 row4 A2 c3 b_1∧True) ?_ ?_
 ·
  intro w hw
  have hw:=hw.pad
  exact⟨none,0,[],slK,hw,(Own.nil ay _ 5),trivial⟩
 rintro f7 ⟨b_1,u_6⟩ σ w h ⟨A2,c3,row4,hsl,hw,ho5,-⟩
 refine slV hsl hw [_] ?_; clear hw hsl
 refine C1 (BZ (mV (k:=sV cp (k:=BX ?_))))
 refine ciV h (λhb11 h=>?_) (λhb11 h=>?_)
 ·
  refine C4 (wc_ (C1 (C5 ?_)))
  refine C3 ?_
  refine mV (k:=mV (k:=sV (j0 D7 D6) (k:=sV q_or (k:=?_))))
  refine bsV #[.int .u8 (ior .u8 (wu8 u_6) 128)] 5 λg12=>?_
  obtain⟨hk13,h⟩:=ag h
  obtain⟨hk14,h⟩:=ag h
  refine apV 1 [(b8 (ior .u8 (wu8 u_6) 128))] gc ho5 (Cl hk14) (λw hw=>cM (i:=0) rfl (by exact(by show [Value.int .u8 (ior .u8 (wu8 u_6) 128)] = [Value.int .u8 _]; rw [pm (Bf hk13)])) hw) ?_
  intro row15 A16 c17 ho18
  refine aV (k:=?_)
  refine C0 ?_
  change WC _ _ _ _ _ _
  refine C3 ?_
  refine mV (k:=sV (wn rfl rfl rfl (by decide)) (k:=aV (k:=?_)))
  exact C0 λw hw=>⟨((b_1++[(b8 (ior .u8 (wu8 u_6) 128))]),(ishr .u64 u_6 7)),h,A16,c17,row15,slK,(hw.on [1]),ho18,trivial⟩
 refine C8 ?_
 change WC _ _ _ _ _ _
 refine BZ (mV (k:=mV (k:=sV (j0 D7 D6) (k:=?_))))
 refine bsV #[.int .u8 (wu8 u_6)] 5 λg19=>?_
 obtain⟨hk20,h⟩:=ag h
 refine apV 1 [(b8 (wu8 u_6))] gc ho5 (Cl hk20) (λw hw=>cM (i:=0) rfl (by exact(by show [Value.int .u8 (wu8 u_6)] = [Value.int .u8 _]; rw [pm (xV _)])) hw) ?_
 intro row21 A22 c23 ho24
 refine aV (k:=BX ?_)
 exact C2 λw hw=>re_ r [1] h hF hw ⟨A22,c23,row21,rfl,rfl,ho24,trivial⟩
end Fw
end Go.Proofs.YtangaamigenjjaaGreat
