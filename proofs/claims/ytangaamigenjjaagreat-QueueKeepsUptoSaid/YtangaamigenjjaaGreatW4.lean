/- Walks through the functions that the law reaches (printed by a program). No condition. -/
import Derived.Test.YtangaamigenjjaaGreatW3
namespace Go.Proofs.YtangaamigenjjaaGreat
namespace Fw
set_option linter.unusedVariables false
set_option linter.unusedSimpArgs false
set_option linter.unusedSectionVars false
set_option maxRecDepth 100000
set_option maxHeartbeats 400000
open Go.RowKit
open Go.Proofs.Tryz
variable {Γ:Gh} {w0:World}
abbrev qd(gd:Nat)(ed:Nat)(r:a7×(Option a6)×Int)(U:List Rowb)(Γ:Gh)(v:Value):Prop := ∃(rowd':Rowb), ∃(g0:Nat), ∃(row0:Rowb),v = .tuple #[optp r.2.1 g0,.int .i64 r.2.2]∧U = [rowd',row0]∧a7.ob ed Γ gd rowd' r.1∧sC (a6.ob (68,gd) Γ g0) row0 r.2.1∧I64 r.2.2∧True
theorem qn{B:Gh}{gd ed:Nat}{rowd:Rowb}{d:a7}(hd:a7.ob ed Γ gd rowd d)(size:Int)(hsize:I64 size){Ac_2:Option Addr}{cc_2:Nat}{Ac_5:Option Addr}{cc_5:Nat}(c_:aq)(hc_:aq.fits B Ac_2 cc_2 Ac_5 cc_5 c_)(hp:Pre [rowd] Γ w0)(hpB:Pre [rowd] B w0){r:a7×(Option a6)×Int}(h:ej d size c_=some r):Calls Tryz.prog 6 #[(pq gd),ii size,.agg (aq.cs Ac_2 cc_2 Ac_5 cc_5 c_).toArray] w0 (Outc Γ [rowd] w0 (qd gd ed r)):=by
 refine goV [6,7] func6 ntmps6 results6 hp λF hF=>?_
 have hB:Lent F B:=hF▸Lent.start hpB
 refine BZ ?_
 refine bxV (v:=.agg (aq.cs Ac_2 cc_2 Ac_5 cc_5 c_).toArray) λg1=>?_
 refine aV (k:=aV (k:=BX (C1 (BZ (sV (ldaV 0 (aq.cs Ac_2 cc_2 Ac_5 cc_5 c_) isAgg25 CV) (k:=?_))))))
 obtain⟨z2,hz3,h⟩:=bnd h
 refine vqV (caV call20) (λw hw=>kd (Γ:=Gh.all w) c_ (aq.fits_mono hc_ ((λw hw=>hB.sat hw) w hw).le_all) (Sat.all w) hz3) (k:=sV aX (k:=BX ?_))
 refine ciV h (λhb4 h=>?_) (λhb4 h=>?_)
 ·
  refine BZ (aV (k:=aV (k:=BX ?_)))
  refine C2 ?_
  intro w hw
  have hw:=hw.pad
  exact re_ r [2,0] h hF hw ⟨rowd,0,[],rfl,rfl,hd,rfl,iV,trivial⟩
 refine C4 (wc_ (BZ (mV (k:=mV (k:=?_)))))
 obtain⟨z5,hz6,h⟩:=bnd h
 refine ecV [1] (caV call21) (λw hp=>nA hd (⟨#[103]⟩:ByteArray) (show (⟨#[103]⟩:ByteArray).size≤lim by decide) size hsize hp hz6) ?_
 rintro Γ7 _ _ hl8 ⟨row11,g13,row14,A16,c17,row18,rfl,rfl,hr12,hr15,hr19,hr20,_⟩
 refine cwV 22 [_,_,_,_] (mV (k:=sV exV (k:=sV exV (k:=sV exV (k:=aU (v:=optp z5.2.1 g13) (k:=aV (k:=aV (k:=?_))))))))
 refine BX (C1 (BZ (mV (k:=sV bO (k:=BX ?_)))))
 refine ciV h (λhb21 h=>?_) (λhb21 h=>?_)
 ·
  refine BZ (mV (k:=aV (k:=aV (k:=BX ?_))))
  refine C2 ?_
  intro w hw
  have hw:=hw.pad
  exact re_ r [1,0] h hF hw ⟨row11,0,[],rfl,rfl,hr12,rfl,hr20,trivial⟩
 refine C4 (wc_ (BZ (sV (q_fl 2 iJ) (k:=sV (ldV 3 CZ) (k:=?_)))))
 obtain⟨z22,hz23,h⟩:=bnd h
 refine dB (is:=[]) hB rfl rfl (caV call22) rfl (λw Θ hp hpB hle hleB hR=>bW (hc_.2.2.1.2.mono hleB) hc_.2.2.1.1 hp hpB hz23) ?_
 rintro Γ24 _ _ hl25 ⟨A28,c29,row30,rfl,rfl,hr31,_⟩
 refine cwV 31 [_,_,_,_,_] (sV (q_fl 2 iJ) (k:=stV 4 (.slice A28 z22.length c29) #[ii c_.self,ii c_.sites,.slice A28 z22.length c29,ii c_.cap,ii c_.base,.slice Ac_5 c_.members.length cc_5] sizeOf22 (k:=BX (C1 ?_))))
 obtain⟨z32,hz33,h⟩:=bnd h
 have ho34:=lN (qM hr15 (λ_ h=>h.mono hl25)) hz33
 refine leV λh035=>?_
 refine e7 (CC F Γ24 [row18,[(g1,.cells #[ii c_.self,ii c_.sites,.slice A28 z22.length c29,ii c_.cap,ii c_.base,.slice Ac_5 c_.members.length cc_5] 25 (0,0))]]) (bo_ [3,3] gR h035) λk=>?_
 change WH _ _ _ _ (CC F Γ24 [_,_,_,_,_]) _ 9 _ _
 refine hV 0 k (q:=ldaV 1 [ii c_.self,ii c_.sites,.slice A28 z22.length c29,ii c_.cap,ii c_.base,.slice Ac_5 c_.members.length cc_5] isAgg25 CV) (k:=hV 1 k (q:=au (v:=(pq g13)) rfl (aW rfl hz33)) (k:=hV 3 k (q:=q_fl 5 rc) (k:=hV 4 k (q:=ldV 1 CZ) (k:=?_))))
 obtain⟨z36,hz37,h⟩:=bnd h
 refine Cj (l:=[2,5]) (by kernel_rfl) (by simp) ?_
 intro i hi; simp only [Ct,List.not_mem_nil,or_false] at hi
 rcases hi with rfl | rfl
 ·
  refine⟨_,rfl,?_⟩
  refine iW (intK DT) gp.v rfl rfl rfl rfl ?_
  intro g38 row39 hm40
  refine C0 (nxV (bo_ [4,4] gR h035) λk=>?_)
  refine wl_ 5 rfl ?_
  refine dB (is:=[]) hB rfl rfl (caV call22) rfl (λw Θ hp hpB hle hleB hR=>bW (hc_.2.2.2.2.2.2.mono hleB) hc_.2.2.2.2.2.1 hp hpB hz37) ?_
  rintro Γ41 _ _ hl42 ⟨A45,c46,row47,rfl,rfl,hr48,_⟩
  refine cwV 38 [_,_,_,_,_,_,_] ?_
  refine C0 (nxV (bo_ [5,5] hl42 h035) λk=>?_)
  refine hV 6 k (q:=aR (v:=.agg #[ii c_.self,ii c_.sites,.slice A28 z22.length c29,ii c_.cap,ii c_.base,.slice Ac_5 c_.members.length cc_5,(pq g13),.slice none 0 0,.pointer none,.slice none 0 0,ii 1,.map (some g38),.slice A45 z36.length c46]) rfl (qZ rfl rfl rfl rfl rfl) (λw=>by kernel_rfl)) (k:=wl_ 7 rfl ?_)
  refine bxV (v:=.agg #[ii c_.self,ii c_.sites,.slice A28 z22.length c29,ii c_.cap,ii c_.base,.slice Ac_5 c_.members.length cc_5,(pq g13),.slice none 0 0,.pointer none,.slice none 0 0,ii 1,.map (some g38),.slice A45 z36.length c46]) λgh40_=>?_
  refine C0 (nxV (bo_ [6,6] hl42 h035) λk=>?_)
  refine hV 8 k (q:=aoV) (k:=?_)
  refine Ca (by kernel_rfl) ?_
  change WC _ _ _ _ _ _
  refine C1 (BZ (sV (q_fl 1 gS) (k:=sV (ldV 7 CY) (k:=mV (k:=BX (C5 ?_))))))
  refine Ci h (λ(i55:Nat) (x49:List Int) σ w => ∃(A50:Option Addr), ∃(c51:Nat), ∃(row52:Rowb),slots σ [(5,(pq g1)),(9,.slice A16 z5.2.2.1.length c17),(11,(pq gh40_)),(42,ii c_.sites),(43,ii (i55:Int))]∧CC F Γ41 [row52,[(gh40_,.cells #[ii c_.self,ii c_.sites,.slice A28 z22.length c29,ii c_.cap,ii c_.base,.slice Ac_5 c_.members.length cc_5,(pq g13),.slice A50 x49.length c51,.pointer none,.slice none 0 0,ii 1,.map (some g38),.slice A45 z36.length c46] 68 (0,0))],row47,row39,row30,row11,row14,row18,[(g1,.cells #[ii c_.self,ii c_.sites,.slice A28 z22.length c29,ii c_.cap,ii c_.base,.slice Ac_5 c_.members.length cc_5] 25 (0,0))]] w∧Own intT Γ41 2 row52 A50 c51 x49∧True) ?_ ?_
  ·
   intro w hw
   have hw:=hw.pad
   exact⟨none,0,[],slK,hw,(Own.nil intT _ 2),trivial⟩
  rintro f54 i55 x49 σ w hi56 hlt57 hge58 ⟨A50,c51,row52,hsl,hw,ho53,-⟩
  refine slV hsl hw [_,_,_,_,_,_,_,_,_] ?_; clear hw hsl
  refine BZ (sV aQ (k:=BX (C1 ?_)))
  refine coV (λhb59=>?_) (λhb59=>?_)
  ·
   have hl60:=ilti hb59
   have h:=hlt57 hl60
   refine C4 (wc_ (C1 (C5 ?_)))
   refine leV λh061=>?_
   refine e7 (CC F Γ41 [row18,[(g1,.cells #[ii c_.self,ii c_.sites,.slice A28 z22.length c29,ii c_.cap,ii c_.base,.slice Ac_5 c_.members.length cc_5] 25 (0,0))]]) (bo_ [7,7] gR h061) λk=>?_
   change WH _ _ _ _ (CC F Γ41 [_,_,_,_,_,_,_,_,_]) _ 12 _ _
   refine hV 0 k (q:=moV) (k:=hV 1 k (q:=moV) (k:=hV 2 k (q:=nlV) (k:=hV 3 k (q:=q_fl 7 cj) (k:=hV 5 k (q:=q_fl 4 l6) (k:=hV 6 k (q:=ldV 1 D0) (k:=?_))))))
   refine Cj (l:=[4,7]) (by kernel_rfl) (by simp) ?_
   intro i hi; simp only [Ct,List.not_mem_nil,or_false] at hi
   rcases hi with rfl | rfl
   ·
    refine⟨_,rfl,?_⟩
    refine sV (ldV 1 DP) (k:=?_)
    refine C0 (nxV (bo_ [7,7] gR h061) λk=>?_)
    refine wl_ 7 rfl ?_
    refine bsV #[ii c_.base] 2 λg62=>?_
    refine C0 (nxV (bo_ [8,8] gR h061) λk=>?_)
    refine wl_ 8 rfl ?_
    obtain⟨hk63,h⟩:=ag h
    refine apV 1 [c_.base] iz ho53 (Cl hk63) (λw hw=>cM (i:=0) rfl (by exact⟨rfl,hc_.2.2.2.2.1⟩) hw) ?_
    intro row64 A65 c66 ho67
    refine C0 (nxV (bo_ [8,8] gR h061) λk=>?_)
    refine hV 9 k (q:=nlV) (k:=hV 10 k (q:=q_fl 7 cj) (k:=wl_ 11 rfl (stV 2 (.slice A65 (x49++[c_.base]).length c66) #[ii c_.self,ii c_.sites,.slice A28 z22.length c29,ii c_.cap,ii c_.base,.slice Ac_5 c_.members.length cc_5,(pq g13),.slice A65 (x49++[c_.base]).length c66,.pointer none,.slice none 0 0,ii 1,.map (some g38),.slice A45 z36.length c46] DY (k:=?_))))
    refine C0 (nxV (bo_ [8,8] gR h061) λk=>?_)
    refine Ca (by kernel_rfl) ?_
    change WC _ _ _ _ _ _
    refine C3 ?_
    refine sV (aw rfl rfl rfl (hO hl60 hc_.2.1)) (k:=mV (k:=?_))
    exact C0 λw hw=>⟨hl60,(x49++[c_.base]),h,A65,c66,row64,slK,(hw.on [1,1,1,1,1,1,1,1,1]),ho67,trivial⟩
   refine⟨_,rfl,?_⟩
   refine bsV #[ii c_.base] 2 λg62=>?_
   refine C0 (nxV (bo_ [8,8] gR h061) λk=>?_)
   refine wl_ 4 rfl (sV (ldV 2 DP) (k:=?_))
   refine C0 (nxV (bo_ [8,8] gR h061) λk=>?_)
   refine wl_ 8 rfl ?_
   obtain⟨hk63,h⟩:=ag h
   refine apV 1 [c_.base] iz ho53 (Cl hk63) (λw hw=>cM (i:=0) rfl (by exact⟨rfl,hc_.2.2.2.2.1⟩) hw) ?_
   intro row64 A65 c66 ho67
   refine C0 (nxV (bo_ [8,8] gR h061) λk=>?_)
   refine hV 9 k (q:=nlV) (k:=hV 10 k (q:=q_fl 7 cj) (k:=wl_ 11 rfl (stV 2 (.slice A65 (x49++[c_.base]).length c66) #[ii c_.self,ii c_.sites,.slice A28 z22.length c29,ii c_.cap,ii c_.base,.slice Ac_5 c_.members.length cc_5,(pq g13),.slice A65 (x49++[c_.base]).length c66,.pointer none,.slice none 0 0,ii 1,.map (some g38),.slice A45 z36.length c46] DY (k:=?_))))
   refine C0 (nxV (bo_ [8,8] gR h061) λk=>?_)
   refine Ca (by kernel_rfl) ?_
   change WC _ _ _ _ _ _
   refine C3 ?_
   refine sV (aw rfl rfl rfl (hO hl60 hc_.2.1)) (k:=mV (k:=?_))
   exact C0 λw hw=>⟨hl60,(x49++[c_.base]),h,A65,c66,row64,slK,(hw.on [1,1,1,1,1,1,1,1,1]),ho67,trivial⟩
  have h:=hge58 (igei hb59)
  refine C8 ?_
  change WC _ _ _ _ _ _
  refine C1 (BZ (mV (k:=sV (ab rfl D8) (k:=mV (k:=BX (C5 ?_))))))
  have hc72:=(hr31.mono hl42).capz
  refine seC 4 [_,_,_,_,_,_,_,_,_] λΓ68 hl69 hr70=>?_
  have hs71:=(hr31.mono hl42).sl hl69 hr70
  have hc77:=(ho53.mono hl69).capz
  refine seC 0 [_,_,_,_,_,_,_,_,_] λΓ73 hl74 hr75=>?_
  have hs76:=(ho53.mono hl69).sl hl74 hr75
  refine WC.mono ?_ (λw hw=>hw.pad)
  have hc82:=(hr48.mono (hl69.trans hl74)).capz
  refine seC 3 [_,_,_,_,_,_,_,_,_,_] λΓ78 hl79 hr80=>?_
  have hs81:=(hr48.mono (hl69.trans hl74)).sl hl79 hr80
  obtain⟨row_83,hrow_83,hob_83⟩:∃rw:Rowb,rw=([[(gh40_,.cells #[ii c_.self,ii c_.sites,.slice A28 z22.length c29,ii c_.cap,ii c_.base,.slice Ac_5 c_.members.length cc_5,(pq g13),.slice A50 x49.length c51,.pointer none,.slice none 0 0,ii 1,.map (some g38),.slice A45 z36.length c46] 68 (0,0))],row14,[],row39]:List Rowb).flatten∧a6.ob (68,gd) Γ78 gh40_ rw (⟨c_.self,c_.sites,z22,c_.cap,c_.base,z32,x49,none,([]:List aN),1,([]:List (Int×Bool)),z36⟩:a6):=⟨_,rfl,A28,c29,(.slice Ac_5 c_.members.length cc_5),g13,row14,A50,c51,none,none,0,[],g38,row39,A45,c46,rfl,hc_.1,hc_.2.1,hc72,(hs71.mono (hl74.trans hl79)),hc_.2.2.2.1,hc_.2.2.2.2.1,(ho34.mono (((hl42.trans hl69).trans hl74).trans hl79)),hc77,(hs76.mono hl79),(Pd.nil _ _),((LM.nil aL aZ (intK DT) gp.v Γ73 89).mono hl79),iV,(hm40.mono (((hl42.trans hl69).trans hl74).trans hl79)),hc82,hs81,trivial⟩
  refine foC [2,6,0,2] hrow_83 [_,_,_,_,_,_,_] ?_
  refine Cc h (λ(i90:Nat) (o86:a6) σ w => ∃(Γ84:Gh), ∃(row87:Rowb),slots σ [(11,(pq gh40_)),(57,.slice A16 z5.2.2.1.length c17),(58,ii (z5.2.2.1.length:Int)),(59,ii (i90:Int))]∧CC F Γ84 [row87,row11,row18] w∧Gh.le Γ78 Γ84∧a6.ob (68,gd) Γ84 gh40_ row87 o86∧True) ?_ ?_
  ·
   intro w hw
   exact⟨Γ78,row_83,slK,(hw.on [0,3,3]),gR,hob_83,trivial⟩
  rintro f89 i90 o86 σ w hi91 hlt92 hge93 ⟨Γ84,row87,hsl,hw,hl85,ho88,-⟩
  refine slV hsl hw [_,_,_] ?_; clear hw hsl
  refine BZ (sV aQ (k:=BX (C1 ?_)))
  refine coV (λhb94=>?_) (λhb94=>?_)
  ·
   have hl95:=ilt hb94
   have h:=hlt92 hl95
   refine C4 (wc_ (C1 (C5 (BZ (sV (aO (i:=i90) D8 D9 rfl rfl rfl hl95 ((hr19.mono (((((hl25.trans hl42).trans hl69).trans hl74).trans hl79).trans hl85)).some_ hl95)) (k:=?_))))))
   obtain⟨A96,c97,hx98⟩:=(hr19.mono (((((hl25.trans hl42).trans hl69).trans hl74).trans hl79).trans hl85)).slT_at i90
   refine sV (ry (c:=0) (v:=.slice A96 (gt z5.2.2.1 i90).length c97) (i:=2) rfl (hx98 hl95).2 rfl Da rfl rfl) (k:=aV (k:=BX (BZ (mV (k:=?_)))))
   obtain⟨z99,hz100,h⟩:=bnd h
   refine ecV [] (caV call23) (λw hp=>dC (hx98 hl95).1.2 (hx98 hl95).1.1 hp hz100) ?_
   rintro Γ101 _ _ hl102 (⟨ho105,rfl,rfl,_⟩ | ⟨o106,ho105,A107,c108,rfl,rfl,hr109,_⟩ | ⟨o106,ho105,A110,c111,A112,c113,rfl,rfl,hr114,_⟩ | ⟨o106,ho105,rfl,rfl,hr115,_⟩ | ⟨o106,ho105,rfl,rfl,hr116,_⟩)
   ·
    have h:=ak.e_nil ho105 h
    refine cwV 65 [_,_,_] (mV (k:=sV exV (k:=sV exV (k:=aU (v:=.nilIface) (k:=aV (k:=BX (C1 ?_)))))))
    refine BZ (mV (k:=sV aX (k:=mV (k:=vG0 (h:=λhg117=>moV) (k:=vG0 (h:=λhg118=>au (v:=.nilIface) rfl (by kernel_rfl)) (k:=?_))))))
    obtain⟨z120,hz121,h⟩:=bnd h
    refine vC0 (h:=λhg119=>b3 (aE E0 rfl rfl (cN (grV hg119) (grV hg119))) (λw hw=>ga (Γ:=Gh.all w) ((ho88.mono hl102).mono hw.sat.le_all) (hw.ra 0 rfl) (Sat.all w) (cK hz121 hg119))) (k:=vG0 (h:=λhg122=>aX rfl (grV hg122)) (k:=sV pkO (k:=BX ?_)))
    refine ciV h (λhb123 h=>?_) (λhb123 h=>?_)
    ·
     refine BZ (aV (k:=aV (k:=BX ?_)))
     refine C2 ?_
     intro w hw
     have hw:=hw.pad
     exact re_ r [2,0] h hF hw ⟨row11,0,[],rfl,rfl,(hr12.mono ((((((hl25.trans hl42).trans hl69).trans hl74).trans hl79).trans hl85).trans hl102)),rfl,iV,trivial⟩
    refine C4 (wc_ ?_)
    refine C3 ?_
    refine mV (k:=mU (v:=.nilIface) (k:=?_))
    obtain⟨z124,hz125,h⟩:=bnd h
    refine ecV [0] (caV E1) (λw hp=>bq (ho88.mono hl102) hp hz125) ?_
    rintro Γ126 _ _ hl127 ⟨rfl,rfl,_⟩
    refine cwV 78 [_,_,_] ?_
    refine C0 ?_
    change WC _ _ _ _ _ _
    refine C3 ?_
    refine sV (aw rfl rfl rfl (aA hl95 (hr19.mono (((((hl25.trans hl42).trans hl69).trans hl74).trans hl79).trans hl85)).le)) (k:=mV (k:=?_))
    exact C0 λw hw=>⟨hl95,o86,h,Γ126,row87,slK,hw,((hl85.trans hl102).trans hl127),(ho88.mono (hl102.trans hl127)),trivial⟩
   ·
    have h:=ak.e_queue_issue ho105 h
    refine cwV 65 [_,_,_] (mV (k:=sV exV (k:=sV exV (k:=aU (v:=.iface 83 (.agg (Rec.cs A107 c108 o106.r).toArray)) (k:=aV (k:=BX (C1 ?_)))))))
    refine BZ (mV (k:=sV aX (k:=mV (k:=vG0 (h:=λhg130=>moV) (k:=vG0 (h:=λhg131=>au (v:=.iface 83 (.agg (Rec.cs A107 c108 o106.r).toArray)) rfl (by kernel_rfl)) (k:=?_))))))
    obtain⟨z133,hz134,h⟩:=bnd h
    refine vC0 (h:=λhg132=>b3 (aE E0 rfl rfl (cN (grV hg132) (grV hg132))) (λw hw=>d9 (Γ:=Gh.all w) ((ho88.mono hl102).mono hw.sat.le_all) (hw.ra 0 rfl) o106 (ar.fits_mono hr109 hw.sat.le_all) (Sat.all w) (cK hz134 hg132))) (k:=vG0 (h:=λhg135=>aX rfl (grV hg135)) (k:=sV pkO (k:=BX ?_)))
    refine ciV h (λhb136 h=>?_) (λhb136 h=>?_)
    ·
     refine BZ (aV (k:=aV (k:=BX ?_)))
     refine C2 ?_
     intro w hw
     have hw:=hw.pad
     exact re_ r [2,0] h hF hw ⟨row11,0,[],rfl,rfl,(hr12.mono ((((((hl25.trans hl42).trans hl69).trans hl74).trans hl79).trans hl85).trans hl102)),rfl,iV,trivial⟩
    refine C4 (wc_ ?_)
    refine C3 ?_
    refine mV (k:=mU (v:=.iface 83 (.agg (Rec.cs A107 c108 o106.r).toArray)) (k:=?_))
    obtain⟨z137,hz138,h⟩:=bnd h
    refine ecV [0] (caV E1) (λw hp=>b7 (ho88.mono hl102) o106 hr109 hp hz138) ?_
    rintro Γ139 _ _ hl140 ⟨row143,rfl,rfl,hr144,_⟩
    refine cwV 78 [_,_,_] ?_
    refine C0 ?_
    change WC _ _ _ _ _ _
    refine C3 ?_
    refine sV (aw rfl rfl rfl (aA hl95 (hr19.mono (((((hl25.trans hl42).trans hl69).trans hl74).trans hl79).trans hl85)).le)) (k:=mV (k:=?_))
    exact C0 λw hw=>⟨hl95,z137,h,Γ139,row143,slK,hw,((hl85.trans hl102).trans hl140),hr144,trivial⟩
   ·
    have h:=ak.e_queue_did ho105 h
    refine cwV 65 [_,_,_] (mV (k:=sV exV (k:=sV exV (k:=aU (v:=.iface 86 (.agg (ae.cs A110 c111 A112 c113 o106).toArray)) (k:=aV (k:=BX (C1 ?_)))))))
    refine BZ (mV (k:=sV aX (k:=mV (k:=vG0 (h:=λhg145=>moV) (k:=vG0 (h:=λhg146=>au (v:=.iface 86 (.agg (ae.cs A110 c111 A112 c113 o106).toArray)) rfl (by kernel_rfl)) (k:=?_))))))
    obtain⟨z148,hz149,h⟩:=bnd h
    refine vC0 (h:=λhg147=>b3 (aE E0 rfl rfl (cN (grV hg147) (grV hg147))) (λw hw=>ck (Γ:=Gh.all w) ((ho88.mono hl102).mono hw.sat.le_all) (hw.ra 0 rfl) o106 (ae.fits_mono hr114 hw.sat.le_all) (Sat.all w) (cK hz149 hg147))) (k:=vG0 (h:=λhg150=>aX rfl (grV hg150)) (k:=sV pkO (k:=BX ?_)))
    refine ciV h (λhb151 h=>?_) (λhb151 h=>?_)
    ·
     refine BZ (aV (k:=aV (k:=BX ?_)))
     refine C2 ?_
     intro w hw
     have hw:=hw.pad
     exact re_ r [2,0] h hF hw ⟨row11,0,[],rfl,rfl,(hr12.mono ((((((hl25.trans hl42).trans hl69).trans hl74).trans hl79).trans hl85).trans hl102)),rfl,iV,trivial⟩
    refine C4 (wc_ ?_)
    refine C3 ?_
    refine mV (k:=mU (v:=.iface 86 (.agg (ae.cs A110 c111 A112 c113 o106).toArray)) (k:=?_))
    obtain⟨z152,hz153,h⟩:=bnd h
    refine ecV [0] (caV E1) (λw hp=>b9 (ho88.mono hl102) o106 hr114 hp hz153) ?_
    rintro Γ154 _ _ hl155 ⟨row158,rfl,rfl,hr159,_⟩
    refine cwV 78 [_,_,_] ?_
    refine C0 ?_
    change WC _ _ _ _ _ _
    refine C3 ?_
    refine sV (aw rfl rfl rfl (aA hl95 (hr19.mono (((((hl25.trans hl42).trans hl69).trans hl74).trans hl79).trans hl85)).le)) (k:=mV (k:=?_))
    exact C0 λw hw=>⟨hl95,z152,h,Γ154,row158,slK,hw,((hl85.trans hl102).trans hl155),hr159,trivial⟩
   ·
    have h:=ak.e_queue_ack ho105 h
    refine cwV 65 [_,_,_] (mV (k:=sV exV (k:=sV exV (k:=aU (v:=.iface 95 (.agg (al.cs o106).toArray)) (k:=aV (k:=BX (C1 ?_)))))))
    refine BZ (mV (k:=sV aX (k:=mV (k:=vG0 (h:=λhg160=>moV) (k:=vG0 (h:=λhg161=>au (v:=.iface 95 (.agg (al.cs o106).toArray)) rfl (by kernel_rfl)) (k:=?_))))))
    obtain⟨z163,hz164,h⟩:=bnd h
    refine vC0 (h:=λhg162=>b3 (aE E0 rfl rfl (cN (grV hg162) (grV hg162))) (λw hw=>d7 (Γ:=Gh.all w) ((ho88.mono hl102).mono hw.sat.le_all) (hw.ra 0 rfl) o106 hr115 (Sat.all w) (cK hz164 hg162))) (k:=vG0 (h:=λhg165=>aX rfl (grV hg165)) (k:=sV pkO (k:=BX ?_)))
    refine ciV h (λhb166 h=>?_) (λhb166 h=>?_)
    ·
     refine BZ (aV (k:=aV (k:=BX ?_)))
     refine C2 ?_
     intro w hw
     have hw:=hw.pad
     exact re_ r [2,0] h hF hw ⟨row11,0,[],rfl,rfl,(hr12.mono ((((((hl25.trans hl42).trans hl69).trans hl74).trans hl79).trans hl85).trans hl102)),rfl,iV,trivial⟩
    refine C4 (wc_ ?_)
    refine C3 ?_
    refine mV (k:=mU (v:=.iface 95 (.agg (al.cs o106).toArray)) (k:=?_))
    obtain⟨z167,hz168,h⟩:=bnd h
    refine ecV [0] (caV E1) (λw hp=>bb (ho88.mono hl102) o106 hr115 hp hz168) ?_
    rintro Γ169 _ _ hl170 ⟨row173,rfl,rfl,hr174,_⟩
    refine cwV 78 [_,_,_] ?_
    refine C0 ?_
    change WC _ _ _ _ _ _
    refine C3 ?_
    refine sV (aw rfl rfl rfl (aA hl95 (hr19.mono (((((hl25.trans hl42).trans hl69).trans hl74).trans hl79).trans hl85)).le)) (k:=mV (k:=?_))
    exact C0 λw hw=>⟨hl95,z167,h,Γ169,row173,slK,hw,((hl85.trans hl102).trans hl170),hr174,trivial⟩
   have h:=ak.e_queue_clear ho105 h
   refine cwV 65 [_,_,_] (mV (k:=sV exV (k:=sV exV (k:=aU (v:=.iface 97 (.agg #[ii o106.sink])) (k:=aV (k:=BX (C1 ?_)))))))
   refine BZ (mV (k:=sV aX (k:=mV (k:=vG0 (h:=λhg175=>moV) (k:=vG0 (h:=λhg176=>au (v:=.iface 97 (.agg #[ii o106.sink])) rfl (by kernel_rfl)) (k:=?_))))))
   obtain⟨z178,hz179,h⟩:=bnd h
   refine vC0 (h:=λhg177=>b3 (aE E0 rfl rfl (cN (grV hg177) (grV hg177))) (λw hw=>d8 (Γ:=Gh.all w) ((ho88.mono hl102).mono hw.sat.le_all) (hw.ra 0 rfl) o106 hr116 (Sat.all w) (cK hz179 hg177))) (k:=vG0 (h:=λhg180=>aX rfl (grV hg180)) (k:=sV pkO (k:=BX ?_)))
   refine ciV h (λhb181 h=>?_) (λhb181 h=>?_)
   ·
    refine BZ (aV (k:=aV (k:=BX ?_)))
    refine C2 ?_
    intro w hw
    have hw:=hw.pad
    exact re_ r [2,0] h hF hw ⟨row11,0,[],rfl,rfl,(hr12.mono ((((((hl25.trans hl42).trans hl69).trans hl74).trans hl79).trans hl85).trans hl102)),rfl,iV,trivial⟩
   refine C4 (wc_ ?_)
   refine C3 ?_
   refine mV (k:=mU (v:=.iface 97 (.agg #[ii o106.sink])) (k:=?_))
   obtain⟨z182,hz183,h⟩:=bnd h
   refine ecV [0] (caV E1) (λw hp=>ba (ho88.mono hl102) o106 hr116 hp hz183) ?_
   rintro Γ184 _ _ hl185 ⟨row188,rfl,rfl,hr189,_⟩
   refine cwV 78 [_,_,_] ?_
   refine C0 ?_
   change WC _ _ _ _ _ _
   refine C3 ?_
   refine sV (aw rfl rfl rfl (aA hl95 (hr19.mono (((((hl25.trans hl42).trans hl69).trans hl74).trans hl79).trans hl85)).le)) (k:=mV (k:=?_))
   exact C0 λw hw=>⟨hl95,z182,h,Γ184,row188,slK,hw,((hl85.trans hl102).trans hl185),hr189,trivial⟩
  have h:=hge93 (ige hb94)
  refine C8 ?_
  change WC _ _ _ _ _ _
  refine BZ (mV (k:=aV (k:=aV (k:=BX ?_))))
  exact C2 λw hw=>re_ r [1,0] h hF hw ⟨row11,gh40_,row87,rfl,rfl,(hr12.mono (((((hl25.trans hl42).trans hl69).trans hl74).trans hl79).trans hl85)),ho88,iV,trivial⟩
 refine⟨_,rfl,?_⟩
 refine dB (is:=[]) hB rfl rfl (caV call22) rfl (λw Θ hp hpB hle hleB hR=>bW (hc_.2.2.2.2.2.2.mono hleB) hc_.2.2.2.2.2.1 hp hpB hz37) ?_
 rintro Γ38 _ _ hl39 ⟨A42,c43,row44,rfl,rfl,hr45,_⟩
 refine cwV 38 [_,_,_,_,_,_] ?_
 refine C0 (nxV (bo_ [4,4] hl39 h035) λk=>?_)
 refine wl_ 2 rfl ?_
 refine iW (intK DT) gp.v rfl rfl rfl rfl ?_
 intro g46 row47 hm48
 refine C0 (nxV (bo_ [5,5] hl39 h035) λk=>?_)
 refine hV 6 k (q:=aR (v:=.agg #[ii c_.self,ii c_.sites,.slice A28 z22.length c29,ii c_.cap,ii c_.base,.slice Ac_5 c_.members.length cc_5,(pq g13),.slice none 0 0,.pointer none,.slice none 0 0,ii 1,.map (some g46),.slice A42 z36.length c43]) rfl (qZ rfl rfl rfl rfl rfl) (λw=>by kernel_rfl)) (k:=wl_ 7 rfl ?_)
 refine bxV (v:=.agg #[ii c_.self,ii c_.sites,.slice A28 z22.length c29,ii c_.cap,ii c_.base,.slice Ac_5 c_.members.length cc_5,(pq g13),.slice none 0 0,.pointer none,.slice none 0 0,ii 1,.map (some g46),.slice A42 z36.length c43]) λgh40_=>?_
 refine C0 (nxV (bo_ [6,6] hl39 h035) λk=>?_)
 refine hV 8 k (q:=aoV) (k:=?_)
 refine Ca (by kernel_rfl) ?_
 change WC _ _ _ _ _ _
 refine C1 (BZ (sV (q_fl 1 gS) (k:=sV (ldV 7 CY) (k:=mV (k:=BX (C5 ?_))))))
 refine Ci h (λ(i55:Nat) (x49:List Int) σ w => ∃(A50:Option Addr), ∃(c51:Nat), ∃(row52:Rowb),slots σ [(5,(pq g1)),(9,.slice A16 z5.2.2.1.length c17),(11,(pq gh40_)),(42,ii c_.sites),(43,ii (i55:Int))]∧CC F Γ38 [row52,[(gh40_,.cells #[ii c_.self,ii c_.sites,.slice A28 z22.length c29,ii c_.cap,ii c_.base,.slice Ac_5 c_.members.length cc_5,(pq g13),.slice A50 x49.length c51,.pointer none,.slice none 0 0,ii 1,.map (some g46),.slice A42 z36.length c43] 68 (0,0))],row47,row44,row30,row11,row14,row18,[(g1,.cells #[ii c_.self,ii c_.sites,.slice A28 z22.length c29,ii c_.cap,ii c_.base,.slice Ac_5 c_.members.length cc_5] 25 (0,0))]] w∧Own intT Γ38 2 row52 A50 c51 x49∧True) ?_ ?_
 ·
  intro w hw
  have hw:=hw.pad
  exact⟨none,0,[],slK,hw,(Own.nil intT _ 2),trivial⟩
 rintro f54 i55 x49 σ w hi56 hlt57 hge58 ⟨A50,c51,row52,hsl,hw,ho53,-⟩
 refine slV hsl hw [_,_,_,_,_,_,_,_,_] ?_; clear hw hsl
 refine BZ (sV aQ (k:=BX (C1 ?_)))
 refine coV (λhb59=>?_) (λhb59=>?_)
 ·
  have hl60:=ilti hb59
  have h:=hlt57 hl60
  refine C4 (wc_ (C1 (C5 ?_)))
  refine leV λh061=>?_
  refine e7 (CC F Γ38 [row18,[(g1,.cells #[ii c_.self,ii c_.sites,.slice A28 z22.length c29,ii c_.cap,ii c_.base,.slice Ac_5 c_.members.length cc_5] 25 (0,0))]]) (bo_ [7,7] gR h061) λk=>?_
  change WH _ _ _ _ (CC F Γ38 [_,_,_,_,_,_,_,_,_]) _ 12 _ _
  refine hV 0 k (q:=moV) (k:=hV 1 k (q:=moV) (k:=hV 2 k (q:=nlV) (k:=hV 3 k (q:=q_fl 7 cj) (k:=hV 5 k (q:=q_fl 4 l6) (k:=hV 6 k (q:=ldV 1 D0) (k:=?_))))))
  refine Cj (l:=[4,7]) (by kernel_rfl) (by simp) ?_
  intro i hi; simp only [Ct,List.not_mem_nil,or_false] at hi
  rcases hi with rfl | rfl
  ·
   refine⟨_,rfl,?_⟩
   refine sV (ldV 1 DP) (k:=?_)
   refine C0 (nxV (bo_ [7,7] gR h061) λk=>?_)
   refine wl_ 7 rfl ?_
   refine bsV #[ii c_.base] 2 λg62=>?_
   refine C0 (nxV (bo_ [8,8] gR h061) λk=>?_)
   refine wl_ 8 rfl ?_
   obtain⟨hk63,h⟩:=ag h
   refine apV 1 [c_.base] iz ho53 (Cl hk63) (λw hw=>cM (i:=0) rfl (by exact⟨rfl,hc_.2.2.2.2.1⟩) hw) ?_
   intro row64 A65 c66 ho67
   refine C0 (nxV (bo_ [8,8] gR h061) λk=>?_)
   refine hV 9 k (q:=nlV) (k:=hV 10 k (q:=q_fl 7 cj) (k:=wl_ 11 rfl (stV 2 (.slice A65 (x49++[c_.base]).length c66) #[ii c_.self,ii c_.sites,.slice A28 z22.length c29,ii c_.cap,ii c_.base,.slice Ac_5 c_.members.length cc_5,(pq g13),.slice A65 (x49++[c_.base]).length c66,.pointer none,.slice none 0 0,ii 1,.map (some g46),.slice A42 z36.length c43] DY (k:=?_))))
   refine C0 (nxV (bo_ [8,8] gR h061) λk=>?_)
   refine Ca (by kernel_rfl) ?_
   change WC _ _ _ _ _ _
   refine C3 ?_
   refine sV (aw rfl rfl rfl (hO hl60 hc_.2.1)) (k:=mV (k:=?_))
   exact C0 λw hw=>⟨hl60,(x49++[c_.base]),h,A65,c66,row64,slK,(hw.on [1,1,1,1,1,1,1,1,1]),ho67,trivial⟩
  refine⟨_,rfl,?_⟩
  refine bsV #[ii c_.base] 2 λg62=>?_
  refine C0 (nxV (bo_ [8,8] gR h061) λk=>?_)
  refine wl_ 4 rfl (sV (ldV 2 DP) (k:=?_))
  refine C0 (nxV (bo_ [8,8] gR h061) λk=>?_)
  refine wl_ 8 rfl ?_
  obtain⟨hk63,h⟩:=ag h
  refine apV 1 [c_.base] iz ho53 (Cl hk63) (λw hw=>cM (i:=0) rfl (by exact⟨rfl,hc_.2.2.2.2.1⟩) hw) ?_
  intro row64 A65 c66 ho67
  refine C0 (nxV (bo_ [8,8] gR h061) λk=>?_)
  refine hV 9 k (q:=nlV) (k:=hV 10 k (q:=q_fl 7 cj) (k:=wl_ 11 rfl (stV 2 (.slice A65 (x49++[c_.base]).length c66) #[ii c_.self,ii c_.sites,.slice A28 z22.length c29,ii c_.cap,ii c_.base,.slice Ac_5 c_.members.length cc_5,(pq g13),.slice A65 (x49++[c_.base]).length c66,.pointer none,.slice none 0 0,ii 1,.map (some g46),.slice A42 z36.length c43] DY (k:=?_))))
  refine C0 (nxV (bo_ [8,8] gR h061) λk=>?_)
  refine Ca (by kernel_rfl) ?_
  change WC _ _ _ _ _ _
  refine C3 ?_
  refine sV (aw rfl rfl rfl (hO hl60 hc_.2.1)) (k:=mV (k:=?_))
  exact C0 λw hw=>⟨hl60,(x49++[c_.base]),h,A65,c66,row64,slK,(hw.on [1,1,1,1,1,1,1,1,1]),ho67,trivial⟩
 have h:=hge58 (igei hb59)
 refine C8 ?_
 change WC _ _ _ _ _ _
 refine C1 (BZ (mV (k:=sV (ab rfl D8) (k:=mV (k:=BX (C5 ?_))))))
 have hc72:=(hr31.mono hl39).capz
 refine seC 4 [_,_,_,_,_,_,_,_,_] λΓ68 hl69 hr70=>?_
 have hs71:=(hr31.mono hl39).sl hl69 hr70
 have hc77:=(ho53.mono hl69).capz
 refine seC 0 [_,_,_,_,_,_,_,_,_] λΓ73 hl74 hr75=>?_
 have hs76:=(ho53.mono hl69).sl hl74 hr75
 refine WC.mono ?_ (λw hw=>hw.pad)
 have hc82:=(hr45.mono (hl69.trans hl74)).capz
 refine seC 4 [_,_,_,_,_,_,_,_,_,_] λΓ78 hl79 hr80=>?_
 have hs81:=(hr45.mono (hl69.trans hl74)).sl hl79 hr80
 obtain⟨row_83,hrow_83,hob_83⟩:∃rw:Rowb,rw=([[(gh40_,.cells #[ii c_.self,ii c_.sites,.slice A28 z22.length c29,ii c_.cap,ii c_.base,.slice Ac_5 c_.members.length cc_5,(pq g13),.slice A50 x49.length c51,.pointer none,.slice none 0 0,ii 1,.map (some g46),.slice A42 z36.length c43] 68 (0,0))],row14,[],row47]:List Rowb).flatten∧a6.ob (68,gd) Γ78 gh40_ rw (⟨c_.self,c_.sites,z22,c_.cap,c_.base,z32,x49,none,([]:List aN),1,([]:List (Int×Bool)),z36⟩:a6):=⟨_,rfl,A28,c29,(.slice Ac_5 c_.members.length cc_5),g13,row14,A50,c51,none,none,0,[],g46,row47,A42,c43,rfl,hc_.1,hc_.2.1,hc72,(hs71.mono (hl74.trans hl79)),hc_.2.2.2.1,hc_.2.2.2.2.1,(ho34.mono (((hl39.trans hl69).trans hl74).trans hl79)),hc77,(hs76.mono hl79),(Pd.nil _ _),((LM.nil aL aZ (intK DT) gp.v Γ73 89).mono hl79),iV,(hm48.mono ((hl69.trans hl74).trans hl79)),hc82,hs81,trivial⟩
 refine foC [2,6,0,1] hrow_83 [_,_,_,_,_,_,_] ?_
 refine Cc h (λ(i90:Nat) (o86:a6) σ w => ∃(Γ84:Gh), ∃(row87:Rowb),slots σ [(11,(pq gh40_)),(57,.slice A16 z5.2.2.1.length c17),(58,ii (z5.2.2.1.length:Int)),(59,ii (i90:Int))]∧CC F Γ84 [row87,row11,row18] w∧Gh.le Γ78 Γ84∧a6.ob (68,gd) Γ84 gh40_ row87 o86∧True) ?_ ?_
 ·
  intro w hw
  exact⟨Γ78,row_83,slK,(hw.on [0,3,3]),gR,hob_83,trivial⟩
 rintro f89 i90 o86 σ w hi91 hlt92 hge93 ⟨Γ84,row87,hsl,hw,hl85,ho88,-⟩
 refine slV hsl hw [_,_,_] ?_; clear hw hsl
 refine BZ (sV aQ (k:=BX (C1 ?_)))
 refine coV (λhb94=>?_) (λhb94=>?_)
 ·
  have hl95:=ilt hb94
  have h:=hlt92 hl95
  refine C4 (wc_ (C1 (C5 (BZ (sV (aO (i:=i90) D8 D9 rfl rfl rfl hl95 ((hr19.mono (((((hl25.trans hl39).trans hl69).trans hl74).trans hl79).trans hl85)).some_ hl95)) (k:=?_))))))
  obtain⟨A96,c97,hx98⟩:=(hr19.mono (((((hl25.trans hl39).trans hl69).trans hl74).trans hl79).trans hl85)).slT_at i90
  refine sV (ry (c:=0) (v:=.slice A96 (gt z5.2.2.1 i90).length c97) (i:=2) rfl (hx98 hl95).2 rfl Da rfl rfl) (k:=aV (k:=BX (BZ (mV (k:=?_)))))
  obtain⟨z99,hz100,h⟩:=bnd h
  refine ecV [] (caV call23) (λw hp=>dC (hx98 hl95).1.2 (hx98 hl95).1.1 hp hz100) ?_
  rintro Γ101 _ _ hl102 (⟨ho105,rfl,rfl,_⟩ | ⟨o106,ho105,A107,c108,rfl,rfl,hr109,_⟩ | ⟨o106,ho105,A110,c111,A112,c113,rfl,rfl,hr114,_⟩ | ⟨o106,ho105,rfl,rfl,hr115,_⟩ | ⟨o106,ho105,rfl,rfl,hr116,_⟩)
  ·
   have h:=ak.e_nil ho105 h
   refine cwV 65 [_,_,_] (mV (k:=sV exV (k:=sV exV (k:=aU (v:=.nilIface) (k:=aV (k:=BX (C1 ?_)))))))
   refine BZ (mV (k:=sV aX (k:=mV (k:=vG0 (h:=λhg117=>moV) (k:=vG0 (h:=λhg118=>au (v:=.nilIface) rfl (by kernel_rfl)) (k:=?_))))))
   obtain⟨z120,hz121,h⟩:=bnd h
   refine vC0 (h:=λhg119=>b3 (aE E0 rfl rfl (cN (grV hg119) (grV hg119))) (λw hw=>ga (Γ:=Gh.all w) ((ho88.mono hl102).mono hw.sat.le_all) (hw.ra 0 rfl) (Sat.all w) (cK hz121 hg119))) (k:=vG0 (h:=λhg122=>aX rfl (grV hg122)) (k:=sV pkO (k:=BX ?_)))
   refine ciV h (λhb123 h=>?_) (λhb123 h=>?_)
   ·
    refine BZ (aV (k:=aV (k:=BX ?_)))
    refine C2 ?_
    intro w hw
    have hw:=hw.pad
    exact re_ r [2,0] h hF hw ⟨row11,0,[],rfl,rfl,(hr12.mono ((((((hl25.trans hl39).trans hl69).trans hl74).trans hl79).trans hl85).trans hl102)),rfl,iV,trivial⟩
   refine C4 (wc_ ?_)
   refine C3 ?_
   refine mV (k:=mU (v:=.nilIface) (k:=?_))
   obtain⟨z124,hz125,h⟩:=bnd h
   refine ecV [0] (caV E1) (λw hp=>bq (ho88.mono hl102) hp hz125) ?_
   rintro Γ126 _ _ hl127 ⟨rfl,rfl,_⟩
   refine cwV 78 [_,_,_] ?_
   refine C0 ?_
   change WC _ _ _ _ _ _
   refine C3 ?_
   refine sV (aw rfl rfl rfl (aA hl95 (hr19.mono (((((hl25.trans hl39).trans hl69).trans hl74).trans hl79).trans hl85)).le)) (k:=mV (k:=?_))
   exact C0 λw hw=>⟨hl95,o86,h,Γ126,row87,slK,hw,((hl85.trans hl102).trans hl127),(ho88.mono (hl102.trans hl127)),trivial⟩
  ·
   have h:=ak.e_queue_issue ho105 h
   refine cwV 65 [_,_,_] (mV (k:=sV exV (k:=sV exV (k:=aU (v:=.iface 83 (.agg (Rec.cs A107 c108 o106.r).toArray)) (k:=aV (k:=BX (C1 ?_)))))))
   refine BZ (mV (k:=sV aX (k:=mV (k:=vG0 (h:=λhg130=>moV) (k:=vG0 (h:=λhg131=>au (v:=.iface 83 (.agg (Rec.cs A107 c108 o106.r).toArray)) rfl (by kernel_rfl)) (k:=?_))))))
   obtain⟨z133,hz134,h⟩:=bnd h
   refine vC0 (h:=λhg132=>b3 (aE E0 rfl rfl (cN (grV hg132) (grV hg132))) (λw hw=>d9 (Γ:=Gh.all w) ((ho88.mono hl102).mono hw.sat.le_all) (hw.ra 0 rfl) o106 (ar.fits_mono hr109 hw.sat.le_all) (Sat.all w) (cK hz134 hg132))) (k:=vG0 (h:=λhg135=>aX rfl (grV hg135)) (k:=sV pkO (k:=BX ?_)))
   refine ciV h (λhb136 h=>?_) (λhb136 h=>?_)
   ·
    refine BZ (aV (k:=aV (k:=BX ?_)))
    refine C2 ?_
    intro w hw
    have hw:=hw.pad
    exact re_ r [2,0] h hF hw ⟨row11,0,[],rfl,rfl,(hr12.mono ((((((hl25.trans hl39).trans hl69).trans hl74).trans hl79).trans hl85).trans hl102)),rfl,iV,trivial⟩
   refine C4 (wc_ ?_)
   refine C3 ?_
   refine mV (k:=mU (v:=.iface 83 (.agg (Rec.cs A107 c108 o106.r).toArray)) (k:=?_))
   obtain⟨z137,hz138,h⟩:=bnd h
   refine ecV [0] (caV E1) (λw hp=>b7 (ho88.mono hl102) o106 hr109 hp hz138) ?_
   rintro Γ139 _ _ hl140 ⟨row143,rfl,rfl,hr144,_⟩
   refine cwV 78 [_,_,_] ?_
   refine C0 ?_
   change WC _ _ _ _ _ _
   refine C3 ?_
   refine sV (aw rfl rfl rfl (aA hl95 (hr19.mono (((((hl25.trans hl39).trans hl69).trans hl74).trans hl79).trans hl85)).le)) (k:=mV (k:=?_))
   exact C0 λw hw=>⟨hl95,z137,h,Γ139,row143,slK,hw,((hl85.trans hl102).trans hl140),hr144,trivial⟩
  ·
   have h:=ak.e_queue_did ho105 h
   refine cwV 65 [_,_,_] (mV (k:=sV exV (k:=sV exV (k:=aU (v:=.iface 86 (.agg (ae.cs A110 c111 A112 c113 o106).toArray)) (k:=aV (k:=BX (C1 ?_)))))))
   refine BZ (mV (k:=sV aX (k:=mV (k:=vG0 (h:=λhg145=>moV) (k:=vG0 (h:=λhg146=>au (v:=.iface 86 (.agg (ae.cs A110 c111 A112 c113 o106).toArray)) rfl (by kernel_rfl)) (k:=?_))))))
   obtain⟨z148,hz149,h⟩:=bnd h
   refine vC0 (h:=λhg147=>b3 (aE E0 rfl rfl (cN (grV hg147) (grV hg147))) (λw hw=>ck (Γ:=Gh.all w) ((ho88.mono hl102).mono hw.sat.le_all) (hw.ra 0 rfl) o106 (ae.fits_mono hr114 hw.sat.le_all) (Sat.all w) (cK hz149 hg147))) (k:=vG0 (h:=λhg150=>aX rfl (grV hg150)) (k:=sV pkO (k:=BX ?_)))
   refine ciV h (λhb151 h=>?_) (λhb151 h=>?_)
   ·
    refine BZ (aV (k:=aV (k:=BX ?_)))
    refine C2 ?_
    intro w hw
    have hw:=hw.pad
    exact re_ r [2,0] h hF hw ⟨row11,0,[],rfl,rfl,(hr12.mono ((((((hl25.trans hl39).trans hl69).trans hl74).trans hl79).trans hl85).trans hl102)),rfl,iV,trivial⟩
   refine C4 (wc_ ?_)
   refine C3 ?_
   refine mV (k:=mU (v:=.iface 86 (.agg (ae.cs A110 c111 A112 c113 o106).toArray)) (k:=?_))
   obtain⟨z152,hz153,h⟩:=bnd h
   refine ecV [0] (caV E1) (λw hp=>b9 (ho88.mono hl102) o106 hr114 hp hz153) ?_
   rintro Γ154 _ _ hl155 ⟨row158,rfl,rfl,hr159,_⟩
   refine cwV 78 [_,_,_] ?_
   refine C0 ?_
   change WC _ _ _ _ _ _
   refine C3 ?_
   refine sV (aw rfl rfl rfl (aA hl95 (hr19.mono (((((hl25.trans hl39).trans hl69).trans hl74).trans hl79).trans hl85)).le)) (k:=mV (k:=?_))
   exact C0 λw hw=>⟨hl95,z152,h,Γ154,row158,slK,hw,((hl85.trans hl102).trans hl155),hr159,trivial⟩
  ·
   have h:=ak.e_queue_ack ho105 h
   refine cwV 65 [_,_,_] (mV (k:=sV exV (k:=sV exV (k:=aU (v:=.iface 95 (.agg (al.cs o106).toArray)) (k:=aV (k:=BX (C1 ?_)))))))
   refine BZ (mV (k:=sV aX (k:=mV (k:=vG0 (h:=λhg160=>moV) (k:=vG0 (h:=λhg161=>au (v:=.iface 95 (.agg (al.cs o106).toArray)) rfl (by kernel_rfl)) (k:=?_))))))
   obtain⟨z163,hz164,h⟩:=bnd h
   refine vC0 (h:=λhg162=>b3 (aE E0 rfl rfl (cN (grV hg162) (grV hg162))) (λw hw=>d7 (Γ:=Gh.all w) ((ho88.mono hl102).mono hw.sat.le_all) (hw.ra 0 rfl) o106 hr115 (Sat.all w) (cK hz164 hg162))) (k:=vG0 (h:=λhg165=>aX rfl (grV hg165)) (k:=sV pkO (k:=BX ?_)))
   refine ciV h (λhb166 h=>?_) (λhb166 h=>?_)
   ·
    refine BZ (aV (k:=aV (k:=BX ?_)))
    refine C2 ?_
    intro w hw
    have hw:=hw.pad
    exact re_ r [2,0] h hF hw ⟨row11,0,[],rfl,rfl,(hr12.mono ((((((hl25.trans hl39).trans hl69).trans hl74).trans hl79).trans hl85).trans hl102)),rfl,iV,trivial⟩
   refine C4 (wc_ ?_)
   refine C3 ?_
   refine mV (k:=mU (v:=.iface 95 (.agg (al.cs o106).toArray)) (k:=?_))
   obtain⟨z167,hz168,h⟩:=bnd h
   refine ecV [0] (caV E1) (λw hp=>bb (ho88.mono hl102) o106 hr115 hp hz168) ?_
   rintro Γ169 _ _ hl170 ⟨row173,rfl,rfl,hr174,_⟩
   refine cwV 78 [_,_,_] ?_
   refine C0 ?_
   change WC _ _ _ _ _ _
   refine C3 ?_
   refine sV (aw rfl rfl rfl (aA hl95 (hr19.mono (((((hl25.trans hl39).trans hl69).trans hl74).trans hl79).trans hl85)).le)) (k:=mV (k:=?_))
   exact C0 λw hw=>⟨hl95,z167,h,Γ169,row173,slK,hw,((hl85.trans hl102).trans hl170),hr174,trivial⟩
  have h:=ak.e_queue_clear ho105 h
  refine cwV 65 [_,_,_] (mV (k:=sV exV (k:=sV exV (k:=aU (v:=.iface 97 (.agg #[ii o106.sink])) (k:=aV (k:=BX (C1 ?_)))))))
  refine BZ (mV (k:=sV aX (k:=mV (k:=vG0 (h:=λhg175=>moV) (k:=vG0 (h:=λhg176=>au (v:=.iface 97 (.agg #[ii o106.sink])) rfl (by kernel_rfl)) (k:=?_))))))
  obtain⟨z178,hz179,h⟩:=bnd h
  refine vC0 (h:=λhg177=>b3 (aE E0 rfl rfl (cN (grV hg177) (grV hg177))) (λw hw=>d8 (Γ:=Gh.all w) ((ho88.mono hl102).mono hw.sat.le_all) (hw.ra 0 rfl) o106 hr116 (Sat.all w) (cK hz179 hg177))) (k:=vG0 (h:=λhg180=>aX rfl (grV hg180)) (k:=sV pkO (k:=BX ?_)))
  refine ciV h (λhb181 h=>?_) (λhb181 h=>?_)
  ·
   refine BZ (aV (k:=aV (k:=BX ?_)))
   refine C2 ?_
   intro w hw
   have hw:=hw.pad
   exact re_ r [2,0] h hF hw ⟨row11,0,[],rfl,rfl,(hr12.mono ((((((hl25.trans hl39).trans hl69).trans hl74).trans hl79).trans hl85).trans hl102)),rfl,iV,trivial⟩
  refine C4 (wc_ ?_)
  refine C3 ?_
  refine mV (k:=mU (v:=.iface 97 (.agg #[ii o106.sink])) (k:=?_))
  obtain⟨z182,hz183,h⟩:=bnd h
  refine ecV [0] (caV E1) (λw hp=>ba (ho88.mono hl102) o106 hr116 hp hz183) ?_
  rintro Γ184 _ _ hl185 ⟨row188,rfl,rfl,hr189,_⟩
  refine cwV 78 [_,_,_] ?_
  refine C0 ?_
  change WC _ _ _ _ _ _
  refine C3 ?_
  refine sV (aw rfl rfl rfl (aA hl95 (hr19.mono (((((hl25.trans hl39).trans hl69).trans hl74).trans hl79).trans hl85)).le)) (k:=mV (k:=?_))
  exact C0 λw hw=>⟨hl95,z182,h,Γ184,row188,slK,hw,((hl85.trans hl102).trans hl185),hr189,trivial⟩
 have h:=hge93 (ige hb94)
 refine C8 ?_
 change WC _ _ _ _ _ _
 refine BZ (mV (k:=aV (k:=aV (k:=BX ?_))))
 exact C2 λw hw=>re_ r [1,0] h hF hw ⟨row11,gh40_,row87,rfl,rfl,(hr12.mono (((((hl25.trans hl39).trans hl69).trans hl74).trans hl79).trans hl85)),ho88,iV,trivial⟩
abbrev lu(r:Rec×Bool)(U:List Rowb)(Γ:Gh)(v:Value):Prop := ∃(A0_1:Option Addr), ∃(c0_1:Nat),v = .tuple #[.agg #[.string r.1.key,.slice A0_1 r.1.vers.length c0_1],.bool r.2]∧U = []∧Rec.fits Γ A0_1 c0_1 r.1∧True
theorem iv{B:Gh}{gq:Nat}{eq:Nat×Nat}{rowq:Rowb}{q:a6}(hq:a6.ob eq B gq rowq q)(hqr:∀p∈rowq,B p.1=some p.2)(hp:Pre [] Γ w0)(hpB:Pre [] B w0){r:Rec×Bool}(h:bv q=some r):Calls Tryz.prog 9 #[(pq gq)] w0 (Outc Γ [] w0 (lu r)):=by
 refine dl (N:=17) (rs:=[.cell 2 42,.tmp 3]) (args:=[(pq gq)]) func9 rfl ntmps9 results9 rfl ?_
 obtain⟨F,hF⟩:∃F:Fm,F=⟨ids [],w0,Γ⟩:=⟨_,rfl⟩
 refine Cf (C:=CC F Γ []) ?_ (hF▸hp.start)
 have hB:Lent F B:=hF▸Lent.start hpB
 refine BZ ?_
 refine alV Dt λg1=>?_
 refine aV (k:=BX (C1 (BZ (mV (k:=sV nlV (k:=sV (q_fl 8 gA) (k:=?_)))))))
 obtain⟨A2_2,c2_2,y5_2,g6_2,r6_2,A7_2,c7_2,A8_2,A9_2,c9_2,r9_2,m11_2,r11_2,A12_2,c12_2,hrow_2,ho0_2,ho1_2,ho2_2,ho3_2,ho4_2,ho5_2,ho6_2,ho7_2,ho8_2,ho9_2,ho10_2,ho11_2,ho12_2,ho13_2,ho14_2,-⟩:=id hq
 have hg_3:∀u∈([[(gq,.cells #[ii q.c_self,ii q.c_sites,.slice A2_2 q.c_links.length c2_2,ii q.c_cap,ii q.c_base,y5_2,(pq g6_2),.slice A7_2 q.applied.length c7_2,.pointer A8_2,.slice A9_2 q.list.length c9_2,ii q.next,.map (some m11_2),.slice A12_2 q.members.length c12_2] eq.1 (0,0))],r6_2,r9_2,r11_2]:List Rowb), ∀p∈u,B p.1=some p.2:=λu hu p hp=>(λp hp=>(hqr p hp)) p (hrow_2▸List.mem_flatten.2 ⟨u,hu,hp⟩)
 have hgc4:=hg_3 _ (Cp ..) (gq,_) (List.mem_singleton.2 rfl)
 have hgs5:=hg_3 r6_2 (by simp)
 have hgs6:=hg_3 r9_2 (by simp)
 have hgs7:=hg_3 r11_2 (by simp)
 refine sV (vF (λw hw=>hB.sat hw) λF=>(eU (v:=.pointer A8_2) hgc4 rfl DR rfl rfl)) (k:=sV (qL ho9_2 DS rfl rfl rfl) (k:=BX ?_))
 refine ciV h (λhb8 h=>?_) (λhb8 h=>?_)
 ·
  refine BZ (sV (cT (v:=.agg #[.string ByteArray.empty,.slice none 0 0]) rfl (λw=>by kernel_rfl)) (k:=stV 0 (.agg #[.string ByteArray.empty,.slice none 0 0]) #[.string ByteArray.empty,.slice none 0 0] Du (k:=aV (k:=BX ?_))))
  refine C2 ?_
  intro w hw
  cases h
  subst hF
  exact⟨[.agg #[.string ByteArray.empty,.slice none 0 0],.bool false],(da (i:=0) (us:=[.string ByteArray.empty,.slice none 0 0]) hw rfl Dv Du (by kernel_rfl) rfl (ie (by kernel_rfl) db)),aM (is:=[]) (by kernel_rfl) hw rfl ⟨none,0,rfl,rfl,⟨(show (ByteArray.empty:ByteArray).size≤lim by decide),nilV⟩,trivial⟩⟩
 refine C4 (wc_ (BZ (mV (k:=sV nlV (k:=sV (q_fl 8 gA) (k:=sV (vF (λw hw=>hB.sat hw) λF=>(eU (v:=.pointer A8_2) hgc4 rfl DR rfl rfl)) (k:=?_)))))))
 obtain⟨hk9,h⟩:=ag h
 refine sV (oS ho9_2 hk9 rfl rfl) (k:=?_)
 obtain⟨A10,c11,hx12⟩:=(Pd.sl ho9_2 hk9).recT_at 0
 refine sV (uX (c:=0) (vs:=(Rec.cs A10 c11 (gt [gvo q.under] 0))) (λw hw=>hB.sat hw) (hx12 Nat.zero_lt_one).2 rfl Dv Du rfl rfl rfl) (k:=?_)
 obtain⟨z13,hz14,h⟩:=bnd h
 refine dB (is:=[]) hB rfl rfl (caV call28) rfl (λw Θ hp hpB hle hleB hR=>mP (gt [gvo q.under] 0) (Rec.fits_mono (hx12 Nat.zero_lt_one).1 hleB) hp hpB hz14) ?_
 rintro Γ15 _ _ hl16 ⟨A19,c20,rfl,rfl,hr21,_⟩
 refine cwV 16 [_] (stV 0 (.agg (Rec.cs A19 c20 z13).toArray) (Rec.cs A19 c20 z13).toArray Du (k:=aV (k:=BX ?_)))
 refine C2 ?_
 intro w hw
 cases h
 subst hF
 exact⟨[.agg (Rec.cs A19 c20 z13).toArray,.bool true],(da (i:=0) (us:=(Rec.cs A19 c20 z13)) hw rfl Dv Du (by kernel_rfl) rfl (ie (by kernel_rfl) db)),aM (is:=[]) (by kernel_rfl) hw rfl ⟨A19,c20,rfl,rfl,hr21,trivial⟩⟩
abbrev nt(r:List UInt8)(U:List Rowb)(Γ:Gh)(v:Value):Prop := ∃(A0:Option Addr), ∃(c0:Nat), ∃(row0:Rowb),v = .slice A0 r.length c0∧U = [row0]∧Own ay Γ 5 row0 A0 c0 r∧True
theorem ng{B:Gh}{Ab:Option Addr}{cb:Nat}{rowb:Rowb}{b:List UInt8}(hb:Own ay Γ 5 rowb Ab cb b){Al:Option Addr}{cl:Nat}{l:List Int}(hl:Sl intT B Al l)(hlc:l.length≤cl)(hp:Pre [rowb] Γ w0)(hpB:Pre [rowb] B w0){r:List UInt8}(h:eO b l=some r):Calls Tryz.prog 87 #[.slice Ab b.length cb,.slice Al l.length cl] w0 (Outc Γ [rowb] w0 (nt r)):=by
 refine goV [4] func87 ntmps87 results87 hp λF hF=>?_
 have hB:Lent F B:=hF▸Lent.start hpB
 refine BZ (aV (k:=BX (BZ (mV (k:=mV (k:=sV (ab rfl CW) (k:=?_)))))))
 refine bsV #[ii (l.length:Int)] 2 λg1=>?_
 have ho2:Own intT Γ 2 [(g1,.cells #[ii (l.length:Int)] 2 (0,0))] (some ⟨g1,0,none⟩) 1 [(l.length:Int)]:=C7 (T:=intT) (ys:=[(l.length:Int)]) [[ii (l.length:Int)]] rfl (show 1≤lim by decide) ⟨⟨rfl,(jT hl.le)⟩,trivial⟩
 have hc7:=ho2.capz
 refine seR 0 [_,_] λΓ3 hl4 hr5=>?_
 have hs6:=ho2.sl hl4 hr5
 obtain⟨z8,hz9,h⟩:=bnd h
 refine ecV [1] (caV call86) (λw hp=>dA (hb.mono hl4) hs6 hc7 hp hz9) ?_
 rintro Γ10 _ _ hl11 ⟨A14,c15,row16,rfl,rfl,hr17,_⟩
 refine cwV 11 [_,_] (aV (k:=BX (C1 (BZ (mV (k:=sV (ab rfl CW) (k:=mV (k:=?_))))))))
 refine BX (C5 ?_)
 refine Cc h (λ(i26:Nat) (b_20:List UInt8) σ w => ∃(Γ18:Gh), ∃(A21:Option Addr), ∃(c22:Nat), ∃(row23:Rowb),slots σ [(0,.slice A21 b_20.length c22),(12,.slice Al l.length cl),(13,ii (l.length:Int)),(14,ii (i26:Int))]∧CC F Γ18 [row23] w∧Gh.le Γ10 Γ18∧Own ay Γ18 5 row23 A21 c22 b_20∧True) ?_ ?_
 ·
  intro w hw
  exact⟨Γ10,A14,c15,row16,slK,(hw.on [0]),gR,hr17,trivial⟩
 rintro f25 i26 b_20 σ w hi27 hlt28 hge29 ⟨Γ18,A21,c22,row23,hsl,hw,hl19,ho24,-⟩
 refine slV hsl hw [_] ?_; clear hw hsl
 refine BZ (sV aQ (k:=BX (C1 ?_)))
 refine coV (λhb30=>?_) (λhb30=>?_)
 ·
  have hl31:=ilt hb30
  have h:=hlt28 hl31
  refine C4 (wc_ (C1 (C5 (BZ (sV (aO (i:=i26) CW CX rfl rfl rfl hl31 (hl.some_ hl31)) (k:=sV (kE (c:=0) (v:=ii (gt l i26)) (λw hw=>hB.sat hw) (hl.intT_at hl31).2 rfl CY rfl rfl) (k:=aV (k:=?_))))))))
  refine BX ?_
  refine C3 ?_
  refine mV (k:=mV (k:=?_))
  refine bsV #[ii (gt l i26)] 2 λg32=>?_
  have ho33:Own intT Γ18 2 [(g32,.cells #[ii (gt l i26)] 2 (0,0))] (some ⟨g32,0,none⟩) 1 [(gt l i26)]:=C7 (T:=intT) (ys:=[(gt l i26)]) [[ii (gt l i26)]] rfl (show 1≤lim by decide) ⟨⟨rfl,(hl.intT_at hl31).1⟩,trivial⟩
  have hc38:=ho33.capz
  refine seR 0 [_,_] λΓ34 hl35 hr36=>?_
  have hs37:=ho33.sl hl35 hr36
  obtain⟨z39,hz40,h⟩:=bnd h
  refine ecV [1] (caV call86) (λw hp=>dA (ho24.mono hl35) hs37 hc38 hp hz40) ?_
  rintro Γ41 _ _ hl42 ⟨A45,c46,row47,rfl,rfl,hr48,_⟩
  refine cwV 21 [_,_] (aV (k:=?_))
  refine C0 ?_
  change WC _ _ _ _ _ _
  refine C3 ?_
  refine sV (aw rfl rfl rfl (aA hl31 hl.le)) (k:=mV (k:=?_))
  exact C0 λw hw=>⟨hl31,z39,h,Γ41,A45,c46,row47,slK,(hw.on [0]),((hl19.trans hl35).trans hl42),hr48,trivial⟩
 have h:=hge29 (ige hb30)
 refine C8 ?_
 change WC _ _ _ _ _ _
 refine BZ (mV (k:=aV (k:=BX ?_)))
 exact C2 λw hw=>re_ r [0] h hF hw ⟨A21,c22,row23,rfl,rfl,ho24,trivial⟩
abbrev qm(r:List UInt8)(U:List Rowb)(Γ:Gh)(v:Value):Prop := ∃(A0:Option Addr), ∃(c0:Nat), ∃(row0:Rowb),v = .slice A0 r.length c0∧U = [row0]∧Own ay Γ 5 row0 A0 c0 r∧True
theorem qr{B:Gh}{Ab:Option Addr}{cb:Nat}{rowb:Rowb}{b:List UInt8}(hb:Own ay Γ 5 rowb Ab cb b){Ar_1:Option Addr}{cr_1:Nat}(r_:Rec)(hr_:Rec.fits B Ar_1 cr_1 r_)(hp:Pre [rowb] Γ w0)(hpB:Pre [rowb] B w0){r:List UInt8}(h:gM b r_=some r):Calls Tryz.prog 85 #[.slice Ab b.length cb,.agg (Rec.cs Ar_1 cr_1 r_).toArray] w0 (Outc Γ [rowb] w0 (qm r)):=by
 refine goV [4] func85 ntmps85 results85 hp λF hF=>?_
 have hB:Lent F B:=hF▸Lent.start hpB
 refine BZ ?_
 refine bxV (v:=.agg (Rec.cs Ar_1 cr_1 r_).toArray) λg1=>?_
 refine aV (k:=BX (BZ (sV (ldaV 0 (Rec.cs Ar_1 cr_1 r_) Dv Du) (k:=?_))))
 obtain⟨z2,hz3,h⟩:=bnd h
 refine dB (is:=[]) hB rfl rfl (caV call64) rfl (λw Θ hp hpB hle hleB hR=>l9 r_ (Rec.fits_mono hr_ hleB) hp hpB hz3) ?_
 rintro Γ4 _ _ hl5 ⟨A8,c9,row10,rfl,rfl,hr11,hr12,_⟩
 refine cwV 9 [_,_,_] (mV (k:=sV exV (k:=sV exV (k:=aV (k:=aV (k:=BX (BZ ?_)))))))
 refine mV (k:=mV (k:=?_))
 obtain⟨hk13,h⟩:=ag h
 refine apV 2 z2.1 gc (hb.mono hl5) (Cl hk13) (λw hw=>jf (i:=0) rfl hr11 hw) ?_
 intro row14 A15 c16 ho17
 refine aV (k:=BX ?_)
 exact C2 λw hw=>re_ r [2] h hF hw ⟨A15,c16,row14,rfl,rfl,ho17,trivial⟩
abbrev pb(r:List UInt8)(U:List Rowb)(Γ:Gh)(v:Value):Prop := ∃(A0:Option Addr), ∃(c0:Nat), ∃(row0:Rowb),v = .slice A0 r.length c0∧U = [row0]∧Own ay Γ 5 row0 A0 c0 r∧True
theorem pd{B:Gh}{Ax_0:Option Addr}{cx_0:Nat}{Ax_2:Option Addr}{cx_2:Nat}(x_:ae)(hx_:ae.fits B Ax_0 cx_0 Ax_2 cx_2 x_)(hp:Pre [] Γ w0)(hpB:Pre [] B w0){r:List UInt8}(h:dH x_=some r):Calls Tryz.prog 61 #[.iface 86 (.agg (ae.cs Ax_0 cx_0 Ax_2 cx_2 x_).toArray)] w0 (Outc Γ [] w0 (pb r)):=by
 refine goV [2] func61 ntmps61 results61 hp λF hF=>?_
 have hB:Lent F B:=hF▸Lent.start hpB
 refine BZ (aV (k:=BX (C1 (BZ (mU (v:=.iface 86 (.agg (ae.cs Ax_0 cx_0 Ax_2 cx_2 x_).toArray)) (k:=BX (C5 ?_)))))))
 refine BZ (sV (aI DC DG rfl rfl rfl) (k:=sV exV (k:=sV exV (k:=BX ?_))))
 refine Cb (b:=false) (by kernel_rfl) rfl ?_
 refine BZ (sV (df DD rfl rfl) (k:=sV exV (k:=sV exV (k:=BX ?_))))
 refine Ch (b:=true) (by kernel_rfl) rfl ?_
 refine BZ ?_
 refine alV DH λg1=>?_
 refine stV 0 (.agg (ae.cs Ax_0 cx_0 Ax_2 cx_2 x_).toArray) (ae.cs Ax_0 cx_0 Ax_2 cx_2 x_).toArray sizeOf86 (k:=BX (C1 ?_))
 refine leV λh02=>?_
 refine e7 (CC F Γ [[(g1,.cells (ae.cs Ax_0 cx_0 Ax_2 cx_2 x_).toArray 86 (0,0))]]) (bo_ [0] gR h02) λk=>?_
 change WH _ _ _ _ (CC F Γ [_]) _ 9 _ _
 refine hV 2 k (q:=q_fl 0 mK) (k:=hV 3 k (q:=ldV 0 CZ) (k:=hV 5 k (q:=q_fl 1 jg) (k:=hV 6 k (q:=ldaV 0 (Rec.cs Ax_2 cx_2 x_.r) Dv Du) (k:=wl_ 0 rfl ?_))))
 refine bsV #[ii 2] 2 λg3=>?_
 refine C0 (nxV (bo_ [1] gR h02) λk=>?_)
 refine wl_ 1 rfl ?_
 have ho4:Own intT Γ 2 [(g3,.cells #[ii 2] 2 (0,0))] (some ⟨g3,0,none⟩) 1 [2]:=C7 (T:=intT) (ys:=[2]) [[ii 2]] rfl (show 1≤lim by decide) ⟨⟨rfl,iV⟩,trivial⟩
 have hc9:=ho4.capz
 refine seR 0 [_,_] λΓ5 hl6 hr7=>?_
 have hs8:=ho4.sl hl6 hr7
 refine WR.sub (λw hw=>hw.pad) ?_
 obtain⟨z10,hz11,h⟩:=bnd h
 refine ecV [0] (caV call86) (λw hp=>dA (Own.nil ay Γ5 5) hs8 hc9 hp hz11) ?_
 rintro Γ12 _ _ hl13 ⟨A16,c17,row18,rfl,rfl,hr19,_⟩
 refine cwV 25 [_,_,_] ?_
 refine C0 (nxV (bo_ [2] (hl6.trans hl13) h02) λk=>?_)
 refine wl_ 4 rfl ?_
 obtain⟨z20,hz21,h⟩:=bnd h
 refine dB (is:=[0]) hB rfl rfl (caV call87) rfl (λw Θ hp hpB hle hleB hR=>ng hr19 (hx_.1.2.mono hleB) hx_.1.1 hp hpB hz21) ?_
 rintro Γ22 _ _ hl23 ⟨A26,c27,row28,rfl,rfl,hr29,_⟩
 refine cwV 28 [_,_,_] ?_
 refine C0 (nxV (bo_ [2] ((hl6.trans hl13).trans hl23) h02) λk=>?_)
 refine wl_ 7 rfl ?_
 obtain⟨z30,hz31,h⟩:=bnd h
 refine dB (is:=[0]) hB rfl rfl (caV call85) rfl (λw Θ hp hpB hle hleB hR=>qr hr29 x_.r (Rec.fits_mono ⟨hx_.2.1,⟨hx_.2.2.1,hx_.2.2.2⟩⟩ hleB) hp hpB hz31) ?_
 rintro Γ32 _ _ hl33 ⟨A36,c37,row38,rfl,rfl,hr39,_⟩
 refine cwV 31 [_,_,_] ?_
 refine C0 (nxV (bo_ [2] (((hl6.trans hl13).trans hl23).trans hl33) h02) λk=>?_)
 refine hV 8 k (q:=aoV) (k:=?_)
 refine Ca (by kernel_rfl) ?_
 change WC _ _ _ _ _ _
 exact C2 λw hw=>re_ r [0] h hF hw ⟨A36,c37,row38,rfl,rfl,hr39,trivial⟩
abbrev l2(gq:Nat)(eq:Nat×Nat)(edk0:Nat)(r:a6×a7×Int)(U:List Rowb)(Γ:Gh)(v:Value):Prop := ∃(rowq':Rowb), ∃(rowdk0':Rowb),v = .int .i64 r.2.2∧U = [rowq',rowdk0']∧a6.ob eq Γ gq rowq' r.1∧a7.ob edk0 Γ eq.2 rowdk0' r.2.1∧I64 r.2.2∧True
theorem kW{B:Gh}{gq:Nat}{eq:Nat×Nat}{rowq:Rowb}{q:a6}(hq:a6.ob eq Γ gq rowq q){Ax_0:Option Addr}{cx_0:Nat}{Ax_2:Option Addr}{cx_2:Nat}(x_:ae)(hx_:ae.fits B Ax_0 cx_0 Ax_2 cx_2 x_)(sync:Bool){edk0:Nat}{rowdk0:Rowb}{dk0:a7}(hdk0:a7.ob edk0 Γ eq.2 rowdk0 dk0)(hp:Pre [rowq,rowdk0] Γ w0)(hpB:Pre [rowq,rowdk0] B w0){r:a6×a7×Int}(h:b4 q x_ sync dk0=some r):Calls Tryz.prog 27 #[(pq gq),.iface 86 (.agg (ae.cs Ax_0 cx_0 Ax_2 cx_2 x_).toArray),.bool sync] w0 (Outc Γ [rowq,rowdk0] w0 (l2 gq eq edk0 r)):=by
 refine goV [6] func27 ntmps27 results27 hp λF hF=>?_
 have hB:Lent F B:=hF▸Lent.start hpB
 refine BZ (aV (k:=BX (C1 (BZ (mV (k:=mU (v:=.iface 86 (.agg (ae.cs Ax_0 cx_0 Ax_2 cx_2 x_).toArray)) (k:=?_)))))))
 obtain⟨z1,hz2,h⟩:=bnd h
 refine vqV (caV E0) (λw hw=>ck (Γ:=Gh.all w) (hq.mono hw.sat.le_all) (hw.ra 0 rfl) x_ (ae.fits_mono hx_ ((λw hw=>hB.sat hw) w hw).le_all) (Sat.all w) hz2) (k:=sV aX (k:=BX ?_))
 refine ciV h (λhb3 h=>?_) (λhb3 h=>?_)
 ·
  refine BZ (aV (k:=BX ?_))
  exact C2 λw hw=>re_ r [0,0] h hF hw ⟨rowq,rowdk0,rfl,rfl,hq,hdk0,iV,trivial⟩
 refine C4 (wc_ (BZ (mU (v:=.iface 86 (.agg (ae.cs Ax_0 cx_0 Ax_2 cx_2 x_).toArray)) (k:=?_))))
 obtain⟨z4,hz5,h⟩:=bnd h
 refine dB (is:=[]) hB rfl rfl (caV call61) rfl (λw Θ hp hpB hle hleB hR=>pd x_ (ae.fits_mono hx_ hleB) hp hpB hz5) ?_
 rintro Γ6 _ _ hl7 ⟨A10,c11,row12,rfl,rfl,hr13,_⟩
 refine cwV 16 [_,_,_] (aV (k:=BX (C1 (BZ (mV (k:=sV nlV (k:=sV (q_fl 6 gW) (k:=?_))))))))
 obtain⟨A2_14,c2_14,y5_14,g6_14,r6_14,A7_14,c7_14,A8_14,A9_14,c9_14,r9_14,m11_14,r11_14,A12_14,c12_14,hrow_14,ho0_14,ho1_14,ho2_14,ho3_14,ho4_14,ho5_14,ho6_14,ho7_14,ho8_14,ho9_14,ho10_14,ho11_14,ho12_14,ho13_14,ho14_14,-⟩:=(hq.mono hl7)
 refine ufR 1 hrow_14 [_,_,_,_,_,_] ?_
 refine sV (ldV 0 Di) (k:=mV (k:=?_))
 have hc19:=hr13.capz
 refine seR 4 [_,_,_,_,_,_] λΓ15 hl16 hr17=>?_
 have hs18:=hr13.sl hl16 hr17
 obtain⟨z20,hz21,h⟩:=bnd h
 refine ecV [1,4] (caV call62) (λw hp=>dq (ho6_14.mono hl16) hs18 hc19 (hdk0.mono (hl7.trans hl16)) hp hz21) ?_
 rintro Γ22 _ _ hl23 ⟨row26,row28,rfl,rfl,hr27,hr29,hr30,_⟩
 refine cwV 22 [_,_,_,_,_,_] (aV (k:=BX (BZ (mV (k:=sV bO (k:=BX ?_))))))
 refine ciV h (λhb31 h=>?_) (λhb31 h=>?_)
 ·
  refine BZ (mV (k:=aV (k:=BX ?_)))
  refine C2 ?_
  intro w hw
  obtain⟨row_32,hrow_32,hob_32⟩:∃rw:Rowb,rw=([[(gq,.cells #[ii q.c_self,ii q.c_sites,.slice A2_14 q.c_links.length c2_14,ii q.c_cap,ii q.c_base,y5_14,(pq g6_14),.slice A7_14 q.applied.length c7_14,.pointer A8_14,.slice A9_14 q.list.length c9_14,ii q.next,.map (some m11_14),.slice A12_14 q.members.length c12_14] eq.1 (0,0))],row26,r9_14,r11_14]:List Rowb).flatten∧a6.ob eq Γ22 gq rw (⟨q.c_self,q.c_sites,q.c_links,q.c_cap,q.c_base,z20.1,q.applied,q.under,q.list,q.next,q.gaps,q.members⟩:a6):=⟨_,rfl,A2_14,c2_14,(y5_14),g6_14,row26,A7_14,c7_14,A8_14,A9_14,c9_14,r9_14,m11_14,r11_14,A12_14,c12_14,rfl,ho0_14,ho1_14,ho2_14,(ho3_14.mono (hl16.trans hl23)),ho4_14,ho5_14,hr27,ho7_14,(ho8_14.mono (hl16.trans hl23)),(ho9_14.mono (hl16.trans hl23)),(ho10_14.mono (hl16.trans hl23)),ho11_14,(ho12_14.mono (hl16.trans hl23)),ho13_14,(ho14_14.mono (hl16.trans hl23)),trivial⟩
  have hw:=hw.fold (is:=[2,0,1,1]) rfl hrow_32
  cases h
  subst hF
  exact aM (is:=[0,0]) (by kernel_rfl) hw rfl ⟨row_32,row28,rfl,rfl,hob_32,hr29,hr30,trivial⟩
 refine C4 (wc_ ?_)
 obtain⟨row_33,hrow_33,hob_33⟩:∃rw:Rowb,rw=([[(gq,.cells #[ii q.c_self,ii q.c_sites,.slice A2_14 q.c_links.length c2_14,ii q.c_cap,ii q.c_base,y5_14,(pq g6_14),.slice A7_14 q.applied.length c7_14,.pointer A8_14,.slice A9_14 q.list.length c9_14,ii q.next,.map (some m11_14),.slice A12_14 q.members.length c12_14] eq.1 (0,0))],row26,r9_14,r11_14]:List Rowb).flatten∧a6.ob eq Γ22 gq rw (⟨q.c_self,q.c_sites,q.c_links,q.c_cap,q.c_base,z20.1,q.applied,q.under,q.list,q.next,q.gaps,q.members⟩:a6):=⟨_,rfl,A2_14,c2_14,(y5_14),g6_14,row26,A7_14,c7_14,A8_14,A9_14,c9_14,r9_14,m11_14,r11_14,A12_14,c12_14,rfl,ho0_14,ho1_14,ho2_14,(ho3_14.mono (hl16.trans hl23)),ho4_14,ho5_14,hr27,ho7_14,(ho8_14.mono (hl16.trans hl23)),(ho9_14.mono (hl16.trans hl23)),(ho10_14.mono (hl16.trans hl23)),ho11_14,(ho12_14.mono (hl16.trans hl23)),ho13_14,(ho14_14.mono (hl16.trans hl23)),trivial⟩
 refine foC [2,0,1,1] hrow_33 [_,_,_] ?_
 refine Ce (λσ w => ∃(o36:a7), ∃(Γ34:Gh), ∃(row37:Rowb),bL q z4 z20 o36=some r∧slots σ [(0,(pq gq)),(7,.slice A10 z4.length c11)]∧CC F Γ34 [row_33,row37] w∧Gh.le Γ22 Γ34∧a7.ob edk0 Γ34 eq.2 row37 o36∧True) ?_ ?_
 ·
  refine BZ (mV (k:=BX ?_))
  refine ciV h (λhb39 h=>?_) (λhb39 h=>?_)
  ·
   refine C3 ?_
   refine mV (k:=sV nlV (k:=sV (q_fl 6 gW) (k:=?_)))
   obtain⟨A2_40,c2_40,y5_40,g6_40,r6_40,A7_40,c7_40,A8_40,A9_40,c9_40,r9_40,m11_40,r11_40,A12_40,c12_40,hrow_40,ho0_40,ho1_40,ho2_40,ho3_40,ho4_40,ho5_40,ho6_40,ho7_40,ho8_40,ho9_40,ho10_40,ho11_40,ho12_40,ho13_40,ho14_40,-⟩:=id hob_33
   refine ufR 0 hrow_40 [_,_,_,_,_,_] ?_
   refine sV (ldV 0 Di) (k:=?_)
   obtain⟨z41,hz42,h⟩:=bnd h
   refine ecV [1,3] (caV call63) (λw hp=>ey ho6_40 hr29 hp hz42) ?_
   rintro Γ43 _ _ hl44 ⟨row47,rfl,rfl,hr48,_⟩
   refine cwV 31 [_,_,_,_,_,_] ?_
   refine C0 ?_
   intro w hw
   have hw:=hw.fold (is:=[2,0,1,1]) rfl hrow_40
   exact⟨z41,Γ43,row47,h,slK,(hw.on [0,0]),hl44,hr48,trivial⟩
  exact C4 λw hw=>⟨z20.2.1,Γ22,row28,h,slK,(hw.on [0,0]),gR,hr29,trivial⟩
 rintro σ w ⟨o36,Γ34,row37,h,hsl,hw,hl35,ho38,-⟩
 refine slV hsl hw [_,_] ?_; clear hw hsl
 refine BZ (mV (k:=?_))
 obtain⟨z50,hz51,h⟩:=bnd h
 refine ecV [] (caV call23) (λw hp=>dC (hs18.mono (hl23.trans hl35)) hc19 hp hz51) ?_
 rintro Γ52 _ _ hl53 (⟨ho56,rfl,rfl,_⟩ | ⟨o57,ho56,A58,c59,rfl,rfl,hr60,_⟩ | ⟨o57,ho56,A61,c62,A63,c64,rfl,rfl,hr65,_⟩ | ⟨o57,ho56,rfl,rfl,hr66,_⟩ | ⟨o57,ho56,rfl,rfl,hr67,_⟩)
 ·
  have h:=ak.e_nil ho56 h
  refine cwV 34 [_,_] (mV (k:=sV exV (k:=sV exV (k:=aU (v:=.nilIface) (k:=aV (k:=BX (BZ ?_)))))))
  refine mV (k:=mU (v:=.nilIface) (k:=?_))
  obtain⟨z68,hz69,h⟩:=bnd h
  refine ecV [0] (caV E1) (λw hp=>bq (hob_33.mono (hl35.trans hl53)) hp hz69) ?_
  rintro Γ70 _ _ hl71 ⟨rfl,rfl,_⟩
  refine cwV 39 [_,_] (BX (BZ (aV (k:=BX ?_))))
  exact C2 λw hw=>re_ r [0,0] h hF hw ⟨row_33,row37,rfl,rfl,(hob_33.mono ((hl35.trans hl53).trans hl71)),(ho38.mono (hl53.trans hl71)),iV,trivial⟩
 ·
  have h:=ak.e_queue_issue ho56 h
  refine cwV 34 [_,_] (mV (k:=sV exV (k:=sV exV (k:=aU (v:=.iface 83 (.agg (Rec.cs A58 c59 o57.r).toArray)) (k:=aV (k:=BX (BZ ?_)))))))
  refine mV (k:=mU (v:=.iface 83 (.agg (Rec.cs A58 c59 o57.r).toArray)) (k:=?_))
  obtain⟨z74,hz75,h⟩:=bnd h
  refine ecV [0] (caV E1) (λw hp=>b7 (hob_33.mono (hl35.trans hl53)) o57 hr60 hp hz75) ?_
  rintro Γ76 _ _ hl77 ⟨row80,rfl,rfl,hr81,_⟩
  refine cwV 39 [_,_] (BX (BZ (aV (k:=BX ?_))))
  exact C2 λw hw=>re_ r [0,0] h hF hw ⟨row80,row37,rfl,rfl,hr81,(ho38.mono (hl53.trans hl77)),iV,trivial⟩
 ·
  have h:=ak.e_queue_did ho56 h
  refine cwV 34 [_,_] (mV (k:=sV exV (k:=sV exV (k:=aU (v:=.iface 86 (.agg (ae.cs A61 c62 A63 c64 o57).toArray)) (k:=aV (k:=BX (BZ ?_)))))))
  refine mV (k:=mU (v:=.iface 86 (.agg (ae.cs A61 c62 A63 c64 o57).toArray)) (k:=?_))
  obtain⟨z82,hz83,h⟩:=bnd h
  refine ecV [0] (caV E1) (λw hp=>b9 (hob_33.mono (hl35.trans hl53)) o57 hr65 hp hz83) ?_
  rintro Γ84 _ _ hl85 ⟨row88,rfl,rfl,hr89,_⟩
  refine cwV 39 [_,_] (BX (BZ (aV (k:=BX ?_))))
  exact C2 λw hw=>re_ r [0,0] h hF hw ⟨row88,row37,rfl,rfl,hr89,(ho38.mono (hl53.trans hl85)),iV,trivial⟩
 ·
  have h:=ak.e_queue_ack ho56 h
  refine cwV 34 [_,_] (mV (k:=sV exV (k:=sV exV (k:=aU (v:=.iface 95 (.agg (al.cs o57).toArray)) (k:=aV (k:=BX (BZ ?_)))))))
  refine mV (k:=mU (v:=.iface 95 (.agg (al.cs o57).toArray)) (k:=?_))
  obtain⟨z90,hz91,h⟩:=bnd h
  refine ecV [0] (caV E1) (λw hp=>bb (hob_33.mono (hl35.trans hl53)) o57 hr66 hp hz91) ?_
  rintro Γ92 _ _ hl93 ⟨row96,rfl,rfl,hr97,_⟩
  refine cwV 39 [_,_] (BX (BZ (aV (k:=BX ?_))))
  exact C2 λw hw=>re_ r [0,0] h hF hw ⟨row96,row37,rfl,rfl,hr97,(ho38.mono (hl53.trans hl93)),iV,trivial⟩
 have h:=ak.e_queue_clear ho56 h
 refine cwV 34 [_,_] (mV (k:=sV exV (k:=sV exV (k:=aU (v:=.iface 97 (.agg #[ii o57.sink])) (k:=aV (k:=BX (BZ ?_)))))))
 refine mV (k:=mU (v:=.iface 97 (.agg #[ii o57.sink])) (k:=?_))
 obtain⟨z98,hz99,h⟩:=bnd h
 refine ecV [0] (caV E1) (λw hp=>ba (hob_33.mono (hl35.trans hl53)) o57 hr67 hp hz99) ?_
 rintro Γ100 _ _ hl101 ⟨row104,rfl,rfl,hr105,_⟩
 refine cwV 39 [_,_] (BX (BZ (aV (k:=BX ?_))))
 exact C2 λw hw=>re_ r [0,0] h hF hw ⟨row104,row37,rfl,rfl,hr105,(ho38.mono (hl53.trans hl101)),iV,trivial⟩
abbrev mG(gq:Nat)(eq:Nat×Nat)(edk0:Nat)(r:a6×a7×Int)(U:List Rowb)(Γ:Gh)(v:Value):Prop := ∃(rowq':Rowb), ∃(rowdk0':Rowb),v = .int .i64 r.2.2∧U = [rowq',rowdk0']∧a6.ob eq Γ gq rowq' r.1∧a7.ob edk0 Γ eq.2 rowdk0' r.2.1∧I64 r.2.2∧True
theorem jo{B:Gh}{gq:Nat}{eq:Nat×Nat}{rowq:Rowb}{q:a6}(hq:a6.ob eq Γ gq rowq q){Ar_1:Option Addr}{cr_1:Nat}(r_:Rec)(hr_:Rec.fits B Ar_1 cr_1 r_){Aroute:Option Addr}{croute:Nat}{route:List Int}(hroute:Sl intT B Aroute route)(hroutec:route.length≤croute){edk0:Nat}{rowdk0:Rowb}{dk0:a7}(hdk0:a7.ob edk0 Γ eq.2 rowdk0 dk0)(hp:Pre [rowq,rowdk0] Γ w0)(hpB:Pre [rowq,rowdk0] B w0){r:a6×a7×Int}(h:bw q r_ route dk0=some r):Calls Tryz.prog 10 #[(pq gq),.agg (Rec.cs Ar_1 cr_1 r_).toArray,.slice Aroute route.length croute] w0 (Outc Γ [rowq,rowdk0] w0 (mG gq eq edk0 r)):=by
 refine goV [6] func10 ntmps10 results10 hp λF hF=>?_
 have hB:Lent F B:=hF▸Lent.start hpB
 refine BZ ?_
 refine bxV (v:=.agg (Rec.cs Ar_1 cr_1 r_).toArray) λg1=>?_
 refine aV (k:=BX (BZ (mV (k:=mV (k:=sV (ldaV 0 (Rec.cs Ar_1 cr_1 r_) Dv Du) (k:=sV (aR (v:=.agg #[.slice Aroute route.length croute,.string r_.key,.slice Ar_1 r_.vers.length cr_1]) rfl (ib rfl rfl) (λw=>by kernel_rfl)) (k:=sV (eD rfl rfl (λw=>mkif DD w)) (k:=?_))))))))
 obtain⟨z2,hz3,h⟩:=bnd h
 refine dB (is:=[1,1]) hB rfl rfl (caV call27) rfl (λw Θ hp hpB hle hleB hR=>kW hq (⟨route,(⟨r_.key,r_.vers⟩:Rec)⟩:ae) (ae.fits_mono ⟨⟨hroutec,hroute⟩,hr_.1,⟨hr_.2.1,hr_.2.2⟩⟩ hleB) true hdk0 hp hpB hz3) ?_
 rintro Γ4 _ _ hl5 ⟨row8,row10,rfl,rfl,hr9,hr11,hr12,_⟩
 refine cwV 12 [_,_,_] (aV (k:=BX ?_))
 exact C2 λw hw=>re_ r [0,0] h hF hw ⟨row8,row10,rfl,rfl,hr9,hr11,hr12,trivial⟩
abbrev js(r:List Int)(U:List Rowb)(Γ:Gh)(v:Value):Prop := ∃(A0:Option Addr), ∃(c0:Nat), ∃(row0:Rowb),v = .slice A0 r.length c0∧U = [row0]∧Own intT Γ 2 row0 A0 c0 r∧True
theorem jl{B:Gh}{As_:Option Addr}{cs_:Nat}{s_:List Int}(hs_:Sl intT B As_ s_)(hs_c:s_.length≤cs_)(hp:Pre [] Γ w0)(hpB:Pre [] B w0){r:List Int}(h:dT s_=some r):Calls Tryz.prog 29 #[.slice As_ s_.length cs_] w0 (Outc Γ [] w0 (js r)):=by
 refine goV [2] func29 ntmps29 results29 hp λF hF=>?_
 have hB:Lent F B:=hF▸Lent.start hpB
 refine BZ (aV (k:=BX (C1 (BZ (mV (k:=sV (jx DN rfl rfl rfl) (k:=BX ?_)))))))
 refine WC.cnil h (by kernel_rfl) (λhb=>hs_.none_nil hb) (λhb1 h=>?_) (λhb1 h=>?_)
 ·
  refine BZ (aV (k:=BX ?_))
  refine C2 ?_
  intro w hw
  have hw:=hw.pad
  exact re_ r [0] h hF hw ⟨none,0,[],rfl,rfl,(Own.nil intT _ 2),trivial⟩
 refine C4 (wc_ (BZ ?_))
 refine bsV #[] 2 λg2=>?_
 refine mV (k:=?_)
 have ho3:Own intT Γ 2 [(g2,.cells #[] 2 (0,0))] (some ⟨g2,0,none⟩) 0 ([]:List Int):=C7 (T:=intT) (ys:=([]:List Int)) [] rfl (show 0≤lim by decide) (show True from trivial)
 obtain⟨hk4,h⟩:=ag h
 refine apV 0 s_ iz ho3 (Cl hk4) (λw hw=>wl (Γ:=Γ) (λw hw=>hB.sat hw) (λ_ _ h=>h) hs_ hw) ?_
 intro row5 A6 c7 ho8
 refine aV (k:=BX ?_)
 exact C2 λw hw=>re_ r [0] h hF hw ⟨A6,c7,row5,rfl,rfl,ho8,trivial⟩
abbrev kM(r:List Int)(U:List Rowb)(Γ:Gh)(v:Value):Prop := ∃(A0:Option Addr), ∃(c0:Nat), ∃(row0:Rowb),v = .slice A0 r.length c0∧U = [row0]∧Own intT Γ 2 row0 A0 c0 r∧True
theorem cU{B:Gh}{gq:Nat}{eq:Nat×Nat}{rowq:Rowb}{q:a6}(hq:a6.ob eq B gq rowq q)(hqr:∀p∈rowq,B p.1=some p.2)(hp:Pre [] Γ w0)(hpB:Pre [] B w0){r:List Int}(h:b5 q=some r):Calls Tryz.prog 11 #[(pq gq)] w0 (Outc Γ [] w0 (kM r)):=by
 refine goV [2] func11 ntmps11 results11 hp λF hF=>?_
 have hB:Lent F B:=hF▸Lent.start hpB
 refine BZ (aV (k:=BX (BZ (mV (k:=sV nlV (k:=sV (q_fl 7 cj) (k:=?_)))))))
 obtain⟨A2_1,c2_1,y5_1,g6_1,r6_1,A7_1,c7_1,A8_1,A9_1,c9_1,r9_1,m11_1,r11_1,A12_1,c12_1,hrow_1,ho0_1,ho1_1,ho2_1,ho3_1,ho4_1,ho5_1,ho6_1,ho7_1,ho8_1,ho9_1,ho10_1,ho11_1,ho12_1,ho13_1,ho14_1,-⟩:=id hq
 have hg_2:∀u∈([[(gq,.cells #[ii q.c_self,ii q.c_sites,.slice A2_1 q.c_links.length c2_1,ii q.c_cap,ii q.c_base,y5_1,(pq g6_1),.slice A7_1 q.applied.length c7_1,.pointer A8_1,.slice A9_1 q.list.length c9_1,ii q.next,.map (some m11_1),.slice A12_1 q.members.length c12_1] eq.1 (0,0))],r6_1,r9_1,r11_1]:List Rowb), ∀p∈u,B p.1=some p.2:=λu hu p hp=>(λp hp=>(hqr p hp)) p (hrow_1▸List.mem_flatten.2 ⟨u,hu,hp⟩)
 have hgc3:=hg_2 _ (Cp ..) (gq,_) (List.mem_singleton.2 rfl)
 have hgs4:=hg_2 r6_1 (by simp)
 have hgs5:=hg_2 r9_1 (by simp)
 have hgs6:=hg_2 r11_1 (by simp)
 refine sV (vF (λw hw=>hB.sat hw) λF=>(eU (v:=.slice A7_1 q.applied.length c7_1) hgc3 rfl DP rfl rfl)) (k:=?_)
 obtain⟨z7,hz8,h⟩:=bnd h
 refine dB (is:=[]) hB rfl rfl (caV call29) rfl (λw Θ hp hpB hle hleB hR=>jl (ho8_1.mono hleB) ho7_1 hp hpB hz8) ?_
 rintro Γ9 _ _ hl10 ⟨A13,c14,row15,rfl,rfl,hr16,_⟩
 refine cwV 7 [_] (aV (k:=BX ?_))
 exact C2 λw hw=>re_ r [0] h hF hw ⟨A13,c14,row15,rfl,rfl,hr16,trivial⟩
abbrev kO(r:List Int)(U:List Rowb)(Γ:Gh)(v:Value):Prop := ∃(A0:Option Addr), ∃(c0:Nat), ∃(row0:Rowb),v = .slice A0 r.length c0∧U = [row0]∧Own intT Γ 3 row0 A0 c0 r∧True
theorem cW{B:Gh}{gq:Nat}{eq:Nat×Nat}{rowq:Rowb}{q:a6}(hq:a6.ob eq B gq rowq q)(hqr:∀p∈rowq,B p.1=some p.2)(hp:Pre [] Γ w0)(hpB:Pre [] B w0){r:List Int}(h:bp q=some r):Calls Tryz.prog 12 #[(pq gq)] w0 (Outc Γ [] w0 (kO r)):=by
 refine goV [2] func12 ntmps12 results12 hp λF hF=>?_
 have hB:Lent F B:=hF▸Lent.start hpB
 refine BZ (aV (k:=BX (BZ (mV (k:=sV nlV (k:=sV (q_fl 12 yj) (k:=?_)))))))
 obtain⟨A2_1,c2_1,y5_1,g6_1,r6_1,A7_1,c7_1,A8_1,A9_1,c9_1,r9_1,m11_1,r11_1,A12_1,c12_1,hrow_1,ho0_1,ho1_1,ho2_1,ho3_1,ho4_1,ho5_1,ho6_1,ho7_1,ho8_1,ho9_1,ho10_1,ho11_1,ho12_1,ho13_1,ho14_1,-⟩:=id hq
 have hg_2:∀u∈([[(gq,.cells #[ii q.c_self,ii q.c_sites,.slice A2_1 q.c_links.length c2_1,ii q.c_cap,ii q.c_base,y5_1,(pq g6_1),.slice A7_1 q.applied.length c7_1,.pointer A8_1,.slice A9_1 q.list.length c9_1,ii q.next,.map (some m11_1),.slice A12_1 q.members.length c12_1] eq.1 (0,0))],r6_1,r9_1,r11_1]:List Rowb), ∀p∈u,B p.1=some p.2:=λu hu p hp=>(λp hp=>(hqr p hp)) p (hrow_1▸List.mem_flatten.2 ⟨u,hu,hp⟩)
 have hgc3:=hg_2 _ (Cp ..) (gq,_) (List.mem_singleton.2 rfl)
 have hgs4:=hg_2 r6_1 (by simp)
 have hgs5:=hg_2 r9_1 (by simp)
 have hgs6:=hg_2 r11_1 (by simp)
 refine sV (vF (λw hw=>hB.sat hw) λF=>(eU (v:=.slice A12_1 q.members.length c12_1) hgc3 rfl CZ rfl rfl)) (k:=?_)
 obtain⟨z7,hz8,h⟩:=bnd h
 refine dB (is:=[]) hB rfl rfl (caV call22) rfl (λw Θ hp hpB hle hleB hR=>bW (ho14_1.mono hleB) ho13_1 hp hpB hz8) ?_
 rintro Γ9 _ _ hl10 ⟨A13,c14,row15,rfl,rfl,hr16,_⟩
 refine cwV 7 [_] (aV (k:=BX ?_))
 exact C2 λw hw=>re_ r [0] h hF hw ⟨A13,c14,row15,rfl,rfl,hr16,trivial⟩
theorem gm{Aa:Option Addr}{ca:Nat}{a:List Int}(ha:Sl intT Γ Aa a)(hac:a.length≤ca){Ab:Option Addr}{cb:Nat}{b:List Int}(hb:Sl intT Γ Ab b)(hbc:b.length≤cb)(hs:Sat Γ w0){r:Bool}(h:bH a b=some r):CQ Tryz.prog 14 #[.slice Aa a.length ca,.slice Ab b.length cb] w0 (.bool r):=by
 refine goQ [4] func14 ntmps14 results14 hs λF hF=>?_
 refine BZ (aV (k:=BX (C1 (BZ (mV (k:=sV (ab rfl CW) (k:=mV (k:=?_))))))))
 refine sV (ab rfl CW) (k:=sV bO (k:=BX ?_))
 refine ciV h (λhb1 h=>?_) (λhb1 h=>?_)
 ·
  refine BZ (aV (k:=BX ?_))
  exact C2 λw hw=>rq_ r h hF hw
 refine C4 (wc_ (C1 (BZ (aV (k:=BX (C5 ?_))))))
 refine Cc h (λ(i3:Nat) (s:Unit) σ w=>match s with | ()=>slots σ [(0,.slice Aa a.length ca),(1,.slice Ab b.length cb),(5,ii (i3:Int))]∧CC F Γ [] w∧True) ?_ ?_
 ·
  intro w hw
  exact⟨slK,hw,trivial⟩
 rintro f2 i3 ⟨⟩ σ w hi4 hlt5 hge6 ⟨hsl,hw,-⟩
 refine slV hsl hw [] ?_; clear hw hsl
 refine C1 (BZ (mV (k:=mV (k:=sV (ab rfl CW) (k:=sV aQ (k:=BX ?_))))))
 refine coV (λhb7=>?_) (λhb7=>?_)
 ·
  have hl8:=ilt hb7
  have h:=hlt5 hl8
  refine C4 (wc_ (C1 (C5 (C1 ?_))))
  refine drV ?_
  refine zV moV (k:=zV moV (k:=zV (aO (i:=i3) CW CX rfl rfl rfl hl8 (ha.some_ hl8)) (k:=zV (q_ld (c:=0) (v:=ii (gt a i3)) (ha.intT_at hl8).2 rfl CY rfl rfl) (k:=zV moV (k:=zV moV (k:=?_))))))
  obtain⟨hk9,h⟩:=ag h
  refine zV (aO (i:=i3) CW CX rfl rfl rfl (Cl hk9) (hb.some_ (Cl hk9))) (k:=zV (q_ld (c:=0) (v:=ii (gt b i3)) (hb.intT_at (Cl hk9)).2 rfl CY rfl rfl) (k:=zV bO (k:=?_)))
  refine Cd ?_
  change WC _ _ _ _ _ _
  refine ciV h (λhb10 h=>?_) (λhb10 h=>?_)
  ·
   refine BZ (aV (k:=BX ?_))
   exact C2 λw hw=>rq_ r h hF hw
  refine C4 (wc_ ?_)
  refine C3 ?_
  refine mV (k:=sV (aw rfl rfl rfl (aA hl8 ha.le)) (k:=aV (k:=?_)))
  exact C0 λw hw=>⟨hl8,(),h,slK,hw,trivial⟩
 have h:=hge6 (ige hb7)
 refine C8 ?_
 change WC _ _ _ _ _ _
 refine BZ (aV (k:=BX ?_))
 exact C2 λw hw=>rq_ r h hF hw
theorem l4(key:ByteArray)(hkey:key.size≤lim)(val:ByteArray)(hval:val.size≤lim){Aroute:Option Addr}{croute:Nat}{route:List Int}(hroute:Sl intT Γ Aroute route)(hroutec:route.length≤croute)(hs:Sat Γ w0){r:Bool}(h:dg key val route=some r):CQ Tryz.prog 3 #[.string key,.string val,.slice Aroute route.length croute] w0 (.bool r):=by
 refine goQ [6] func3 ntmps3 results3 hs λF hF=>?_
 refine BZ (aV (k:=BX (C1 (BZ ?_))))
 obtain⟨z1,hz2,h⟩:=bnd h
 refine vqV (caV call4) (λw hw=>nW (Γ:=Gh.all w)  (Sat.all w) hz2) (k:=sV aX (k:=BX ?_))
 refine ciV h (λhb3 h=>?_) (λhb3 h=>?_)
 ·
  refine BZ (aV (k:=BX ?_))
  exact C2 λw hw=>rq_ r h hF hw
 refine C4 (wc_ (BZ ?_))
 obtain⟨z4,hz5,h⟩:=bnd h
 refine gK (is:=[]) (Lent.nil F) rfl rfl (caV call5) rfl (λw Θ hp hpB hle hleB hR=>lc  hp hz5) ?_
 rintro J6 U8 v9 hn7 ⟨A10,c11,A12,c13,rfl,rfl,hr14,_⟩
 refine cwV 28 [_] ?_
 refine alV zeroValue25 λg15=>?_
 refine stV 0 (.agg (aq.cs A10 c11 A12 c13 z4).toArray) (aq.cs A10 c11 A12 c13 z4).toArray CV (k:=BX (BZ ?_))
 refine bsV #[ii 2] 3 λg16=>?_
 refine WR.sub (λw hw=>hw.pad) ?_
 have ho17:Own intT (ghr []) 3 [(g16,.cells #[ii 2] 3 (0,0))] (some ⟨g16,0,none⟩) 1 [2]:=C7 (T:=intT) (ys:=[2]) [[ii 2]] rfl (show 1≤lim by decide) ⟨⟨rfl,iV⟩,trivial⟩
 change WR _ _ _ (CC F Γ [_,_,_,_]) _ _ _
 refine aV (k:=BX (BZ ?_))
 refine WR.join2 λhn18=>?_
 have hr19:=ho17.sl (d5 hn18) (eV hn18)
 have hc20:=ho17.capz
 change WR _ _ _ (CC F Γ [_,_,_]) _ _ _
 refine WR.sub (λw hw=>hw.on [2,0,0]) ?_
 change WR _ _ _ (CC F Γ [_,_,_]) _ _ _
 refine WR.join2 λhn21=>?_
 change WR _ _ _ (CC F Γ [_,_]) _ _ _
 refine mV (k:=sV (q_fl 2 iJ) (k:=stV 1 (.slice (some ⟨g16,0,none⟩) [2].length 1) #[ii z4.self,ii z4.sites,.slice (some ⟨g16,0,none⟩) [2].length 1,ii z4.cap,ii z4.base,.slice A12 z4.members.length c13] sizeOf22 (k:=BX (C1 ?_))))
 refine leV λh022=>?_
 refine e7 (CC F Γ [(J6++([]++([(g16,.cells #[ii 2] 3 (0,0))]:Rowb))),[(g15,.cells #[ii z4.self,ii z4.sites,.slice (some ⟨g16,0,none⟩) [2].length 1,ii z4.cap,ii z4.base,.slice A12 z4.members.length c13] 25 (0,0))]]) (bo_ [0,0] gR h022) λk=>?_
 change WH _ _ _ _ (CC F Γ [_,_]) _ 8 _ _
 refine hV 1 k (q:=ldaV 1 [ii z4.self,ii z4.sites,.slice (some ⟨g16,0,none⟩) [2].length 1,ii z4.cap,ii z4.base,.slice A12 z4.members.length c13] isAgg25 CV) (k:=wl_ 0 rfl ?_)
 obtain⟨z23,hz24,h⟩:=bnd h
 refine ecV [] (caV call7) (λw hp=>qJ 1048576 iV hp hz24) ?_
 rintro Γ25 _ _ hl26 ⟨g29,row30,rfl,rfl,hr31,_⟩
 refine cwV 33 [_,_,_] ?_
 refine C0 (nxV (bo_ [1,1] hl26 h022) λk=>?_)
 refine wl_ 2 rfl ?_
 obtain⟨z32,hz33,h⟩:=bnd h
 refine dB (is:=[0]) (Lent.nil F) rfl rfl (caV call6) rfl (λw Θ hp hpB hle hleB hR=>qn hr31 256 iV (⟨z4.self,z4.sites,[2],z4.cap,z4.base,z4.members⟩:aq) (aq.fits_mono ⟨hr14.1,hr14.2.1,⟨hc20,(hr19.mono (n9 hn21))⟩,hr14.2.2.2.1,hr14.2.2.2.2.1,⟨hr14.2.2.2.2.2.1,(hr14.2.2.2.2.2.2.mono (d5 hn21))⟩⟩ (uW hR hn21 (List.mem_of_getElem? (i:=0) rfl))) hp hpB hz33) ?_
 rintro Γ34 _ _ hl35 ⟨row38,g40,row41,rfl,rfl,hr39,hr42,hr43,_⟩
 refine cwV 35 [_,_,_,_] ?_
 refine C0 (nxV (bo_ [2,2] (hl26.trans hl35) h022) λk=>?_)
 refine hV 3 k (q:=moV) (k:=hV 4 k (q:=exV) (k:=hV 5 k (q:=exV) (k:=hV 6 k (q:=bV (v:=optp z32.2.1 g40) rfl (by kernel_rfl)) (k:=hV 7 k (q:=aoV) (k:=?_)))))
 refine Ca (by kernel_rfl) ?_
 change WC _ _ _ _ _ _
 refine C1 (BZ (mU (v:=optp z32.2.1 g40) (k:=sV (sG underlying27 rfl rfl rfl) (k:=mV (k:=vG0 (h:=λhg44=>moV) (k:=vG0 (h:=λhg45=>bO rfl (grV hg45)) (k:=sV pkO (k:=?_))))))))
 refine BX ?_
 refine ciV h (λhb46 h=>?_) (λhb46 h=>?_)
 ·
  refine BZ (aV (k:=BX ?_))
  exact C2 λw hw=>rq_ r h hF hw
 obtain⟨z47,hz48,h⟩:=bnd h
 have ho49:=lN hr42 hz48
 refine C4 (wc_ (BZ (mV (k:=?_))))
 obtain⟨hk50,h⟩:=ag h
 refine sV (aO (i:=0) CW CX rfl rfl rfl (Cl hk50) ((hr19.mono (n9 hn21)).some_ (Cl hk50))) (k:=?_)
 have hj51:=(hr14.2.2.1.2.mono (d5 hn21))
 have hj52:=(hr14.2.2.2.2.2.2.mono (d5 hn21))
 have hj53:=(hr19.mono (n9 hn21))
 refine ec (c:=0) (u:=ii (gt [2] 0)) (v:=ii 9) rfl rfl rfl rfl (by kernel_rfl) CX rfl rfl ((hr19.mono (n9 hn21)).intT_at (Cl hk50)).2 rfl (.int _ _ iV) (i:=2) rfl hn21 ?_
 intro J54 hn55 hl56
 obtain⟨ys57,hj58,hs59⟩:=hj51.like jw hl56
 have hq60:=bE hs59
 obtain⟨ys61,hj62,hs63⟩:=hj52.like jw hl56
 have hq64:=bE hs63
 obtain⟨ys65,hj66,hs67⟩:=hj53.like jw hl56
 have hq68:=bE hs67
 refine BX (BZ ?_)
 refine bsV #[] 207 λg69=>?_
 refine aV (k:=BX (BZ (sV (au (v:=(pq g40)) rfl (aW rfl hz48)) (k:=mV (k:=mV (k:=mV (k:=?_)))))))
 have ho70:Own gO Γ34 207 [(g69,.cells #[] 207 (0,0))] (some ⟨g69,0,none⟩) 0 ([]:List Span):=C7 (T:=gO) (ys:=([]:List Span)) [] rfl (show 0≤lim by decide) (show True from trivial)
 have hc75:=ho70.capz
 refine seR 0 [_,_,_,_,_] λΓ71 hl72 hr73=>?_
 have hs74:=ho70.sl hl72 hr73
 obtain⟨z76,hz77,h⟩:=bnd h
 refine ecV [2,1] (caV call8) (λw hp=>eK (ho49.mono hl72) key hkey hs74 hc75 false val hval (hr39.mono hl72) hp hz77) ?_
 rintro Γ78 _ _ hl79 ⟨row82,row84,A86,c87,rfl,rfl,hr83,hr85,hr88,hr89,_⟩
 refine cwV 52 [_,_,_,_,_] (mV (k:=sV exV (k:=sV exV (k:=?_))))
 refine alV Dq λg90=>?_
 refine stV 0 (.agg (Ver.cs A86 c87 z76.2.2.1).toArray) (Ver.cs A86 c87 z76.2.2.1).toArray Dr (k:=aV (k:=BX (C1 (BZ (mV (k:=sV bO (k:=BX ?_)))))))
 refine ciV h (λhb91 h=>?_) (λhb91 h=>?_)
 ·
  refine BZ (mV (k:=sV bD (k:=mV (k:=vG1 (h:=λhg92=>q_fl 0 bJ) (k:=vG1 (h:=λhg93=>ldaV 0 (Dot.cs z76.2.2.1.dot) Dz DA (hx:=grV hg93)) (k:=vG1 (h:=λhg94=>cT (v:=.agg #[ii 0,ii 0]) rfl (λw=>by kernel_rfl)) (k:=vG1 (h:=λhg95=>pp (a:=z76.2.2.1.dot) (b:=(⟨0,0⟩:Dot)) rfl (grV hg95) (grV hg95)) (k:=?_))))))))
  refine sV pkA (k:=aV (k:=BX ?_))
  exact C2 λw hw=>rq_ r h hF hw
 refine C4 (wc_ (BZ (sV (au (v:=(pq g40)) rfl (aW rfl hz48)) (k:=?_))))
 obtain⟨z96,hz97,h⟩:=bnd h
 refine gK (is:=[]) (Lent.nil F) rfl rfl (caV call9) rfl (λw Θ hp hpB hle hleB hR=>iv (hr83.mono hle) (λp hp=>hR _ (List.mem_of_getElem? (i:=1) rfl) p hp) hp hpB hz97) ?_
 rintro J98 U100 v101 hn99 ⟨A102,c103,rfl,rfl,hr104,_⟩
 refine cwV 67 [_,_,_,_,_,_,_] (mV (k:=sV exV (k:=sV exV (k:=?_))))
 refine alV Dt λg105=>?_
 refine stV 0 (.agg (Rec.cs A102 c103 z96.1).toArray) (Rec.cs A102 c103 z96.1).toArray Du (k:=aV (k:=BX (BZ (sV (q_fl 1 bG) (k:=sV (ldV 0 DB) (k:=?_))))))
 obtain⟨hk106,h⟩:=ag h
 refine sV (aO (i:=0) Dy Dr rfl rfl rfl (Cl hk106) (hr104.2.2.some_ (Cl hk106))) (k:=sV (av (0*5+4) dX rfl rfl (hr104.2.2.some_ (Cl hk106)) rfl) (k:=?_))
 have hj107:=hr104.2.2
 obtain⟨A108,c109,hx110⟩:=hr104.2.2.verT_at 0
 refine ec (c:=4) (u:=.string (gt z96.1.vers 0).val) (v:=.string (⟨#[115,112,111,105,108,116]⟩:ByteArray)) rfl rfl rfl rfl (by kernel_rfl) Dg rfl rfl (hx110 (Cl hk106)).2 rfl (.str _ _ (show (⟨#[115,112,111,105,108,116]⟩:ByteArray).size≤lim by decide)) (i:=1) rfl hn99 ?_
 intro J111 hn112 hl113
 obtain⟨ys114,hj115,hs116⟩:=hj107.like mh hl113
 have hq117:=bE hs116
 refine BX (BZ (sV (au (v:=(pq g40)) rfl (aW rfl hz48)) (k:=?_)))
 obtain⟨z118,hz119,h⟩:=bnd h
 refine gK (is:=[]) (Lent.nil F) rfl rfl (caV call9) rfl (λw Θ hp hpB hle hleB hR=>iv (hr83.mono hle) (λp hp=>hR _ (List.mem_of_getElem? (i:=3) rfl) p hp) hp hpB hz119) ?_
 rintro J120 U122 v123 hn121 ⟨A124,c125,rfl,rfl,hr126,_⟩
 refine cwV 76 [_,_,_,_,_,_,_,_,_] (mV (k:=sV exV (k:=sV exV (k:=?_))))
 refine alV Dt λg127=>?_
 refine stV 0 (.agg (Rec.cs A124 c125 z118.1).toArray) (Rec.cs A124 c125 z118.1).toArray Du (k:=aV (k:=BX (BZ (aV (k:=BX (BZ (mV (k:=?_))))))))
 refine mV (k:=?_)
 refine WR.sub (λw hw=>hw.pad) ?_
 obtain⟨hk128,h⟩:=ag h
 refine oW (T:=intT) (xs:=[]) (ys:=route) lD (i:=0) rfl rfl rfl rfl (by kernel_rfl) rfl rfl (Own.nil intT Γ78 3) (Cl hk128) (λw hw=>kQ (hroute.mono (((hl26.trans hl35).trans hl72).trans hl79)) hw) ?_
 intro row129 A130 c131 ho132
 refine aV (k:=BX (C1 (BZ (sV (q_fl 1 bG) (k:=sV (ldV 1 DB) (k:=?_))))))
 obtain⟨hk133,h⟩:=ag h
 refine sV (aO (i:=0) Dy Dr rfl rfl rfl (Cl hk133) (hr126.2.2.some_ (Cl hk133))) (k:=sV (av (0*5+4) dX rfl rfl (hr126.2.2.some_ (Cl hk133)) rfl) (k:=?_))
 obtain⟨A134,c135,hx136⟩:=hr126.2.2.verT_at 0
 refine sV (kE (c:=4) (v:=.string (gt z118.1.vers 0).val) (satJ (i:=2) rfl hn121) (hx136 (Cl hk133)).2 rfl D1 rfl rfl) (k:=mV (k:=sV qY (k:=mV (k:=vG0 (h:=λhg137=>q_fl 0 kc) (k:=vG0 (h:=λhg138=>ldV 1 D1 (hx:=grV hg138)) (k:=vG0 (h:=λhg139=>moV) (k:=vG0 (h:=λhg140=>qY rfl (grV hg140) (grV hg140)) (k:=?_))))))))
 refine sV pkO (k:=BX ?_)
 refine ciV h (λhb141 h=>?_) (λhb141 h=>?_)
 ·
  refine BZ (aV (k:=BX ?_))
  exact C2 λw hw=>rq_ r h hF hw
 refine C4 (wc_ (C1 (BZ (sV (au (v:=(pq g40)) rfl (aW rfl hz48)) (k:=sV (ldaV 1 (Rec.cs A124 c125 z118.1) Dv Du) (k:=mV (k:=?_)))))))
 obtain⟨z142,hz143,h⟩:=bnd h
 refine dB (is:=[6,6]) (Lent.nil F) rfl rfl (caV call10) rfl (λw Θ hp hpB hle hleB hR=>jo hr83 z118.1 (Rec.fits_mono hr126 (uW hR hn121 (List.mem_of_getElem? (i:=2) rfl))) (tO ho132 hR (List.mem_of_getElem? (i:=0) rfl) hle) ho132.capz hr85 hp hpB hz143) ?_
 rintro Γ144 _ _ hl145 ⟨row148,row150,rfl,rfl,hr149,hr151,hr152,_⟩
 refine cwV 98 [_,_,_,_,_,_,_,_,_,_,_] (sV bO (k:=BX ?_))
 refine ciV h (λhb153 h=>?_) (λhb153 h=>?_)
 ·
  refine BZ ?_
  refine bsV #[ii 1] 3 λg154=>?_
  refine aV (k:=BX (BZ (sV (au (v:=(pq g40)) rfl (aW rfl hz48)) (k:=sV (ldaV 4 (Rec.cs A124 c125 z118.1) Dv Du) (k:=mV (k:=?_))))))
  have ho155:Own intT Γ144 3 [(g154,.cells #[ii 1] 3 (0,0))] (some ⟨g154,0,none⟩) 1 [1]:=C7 (T:=intT) (ys:=[1]) [[ii 1]] rfl (show 1≤lim by decide) ⟨⟨rfl,iV⟩,trivial⟩
  obtain⟨z156,hz157,h⟩:=bnd h
  refine dB (is:=[1,1]) (Lent.nil F) rfl rfl (caV call10) rfl (λw Θ hp hpB hle hleB hR=>jo hr149 z118.1 (Rec.fits_mono hr126 (uW hR hn121 (List.mem_of_getElem? (i:=3) rfl))) (tO ho155 hR (List.mem_of_getElem? (i:=0) rfl) hle) ho155.capz hr151 hp hpB hz157) ?_
  rintro Γ158 _ _ hl159 ⟨row162,row164,rfl,rfl,hr163,hr165,hr166,_⟩
  refine cwV 104 [_,_,_,_,_,_,_,_,_,_,_,_] (sV bO (k:=BX ?_))
  refine ciV h (λhb167 h=>?_) (λhb167 h=>?_)
  ·
   refine BZ (aV (k:=BX ?_))
   exact C2 λw hw=>rq_ r h hF hw
  refine C4 (wc_ (BZ (aV (k:=BX (BZ (mV (k:=mV (k:=?_))))))))
  refine WR.sub (λw hw=>hw.pad) ?_
  obtain⟨hk168,h⟩:=ag h
  refine oW (T:=intT) (xs:=[]) (ys:=[1]) lD (i:=0) rfl rfl rfl rfl (by kernel_rfl) rfl rfl (Own.nil intT Γ158 3) (Cl hk168) (λw hw=>jf (i:=3) rfl (ho155.mono hl159) hw) ?_
  intro row169 A170 c171 ho172
  refine aV (k:=BX (C1 (BZ (aV (k:=BX (C5 ?_))))))
  refine Ci h (λ(i178:Nat) (x173:List Int) σ w => ∃(row174:Rowb),slots σ [(1,.string val),(9,optp z32.2.1 g40),(15,(pq g127)),(17,.slice (some ⟨g154,0,none⟩) 1 1),(18,.slice A170 [1].length c171),(19,ii (i178:Int))]∧CC F Γ158 [row169,row162,row164,row174,[(g127,.cells (Rec.cs A124 c125 z118.1).toArray 42 (0,0))],J120] w∧x173.length=1∧Own intT Γ158 3 row174 (some ⟨g154,0,none⟩) 1 x173∧True) ?_ ?_
  ·
   intro w hw
   exact⟨[(g154,.cells #[ii 1] 3 (0,0))],slK,(hw.on [0,0,0,0,1,1]),rfl,(ho155.mono hl159),trivial⟩
  rintro f177 i178 x173 σ w hi179 hlt180 hge181 ⟨row174,hsl,hw,hn176,ho175,-⟩
  refine slV hsl hw [_,_,_,_,_,_] ?_; clear hw hsl
  refine C1 (BZ (mV (k:=mV (k:=sV (ab (n:=1) rfl CW) (k:=sV aQ (k:=BX ?_))))))
  refine coV (λhb182=>?_) (λhb182=>?_)
  ·
   have hl183:=ilt hb182
   have h:=hlt180 hl183
   refine C4 (wc_ (C1 (C5 ?_)))
   refine C3 ?_
   refine mV (k:=mV (k:=sV (aO (i:=i178) CW CX rfl rfl rfl hl183 (ho175.some_ (ltq hl183 hn176.symm))) (k:=?_)))
   refine jm (T:=intT) (q:=i178) (v:=ii 77) (y:=77) rfl rfl rfl rfl (by kernel_rfl) CX (by exact⟨rfl,iV⟩) (i:=3) rfl ho175 (ltq hl183 hn176.symm) ?_
   intro row184 ho185
   refine C0 ?_
   change WC _ _ _ _ _ _
   refine C3 ?_
   refine mV (k:=sV (aw rfl rfl rfl (qw hl183 (by decide))) (k:=aV (k:=?_)))
   exact C0 λw hw=>⟨hl183,(List.set x173 i178 77),h,row184,slK,hw,(List.length_set.trans hn176),ho185,trivial⟩
  have h:=hge181 (ige hb182)
  refine C8 ?_
  change WC _ _ _ _ _ _
  refine BZ (sV (q_fl 1 bG) (k:=sV (ldV 4 DB) (k:=sV (aO (i:=0) Dy Dr rfl rfl rfl (Cl hk133) (hr126.2.2.some_ (Cl hk133))) (k:=sV (av (0*5+4) dX rfl rfl (hr126.2.2.some_ (Cl hk133)) rfl) (k:=?_)))))
  have hj186:=hr126.2.2
  obtain⟨A187,c188,hx189⟩:=hr126.2.2.verT_at 0
  refine ec (c:=4) (u:=.string (gt z118.1.vers 0).val) (v:=.string (⟨#[115,112,111,105,108,116]⟩:ByteArray)) rfl rfl rfl rfl (by kernel_rfl) Dg rfl rfl (hx189 (Cl hk133)).2 rfl (.str _ _ (show (⟨#[115,112,111,105,108,116]⟩:ByteArray).size≤lim by decide)) (i:=5) rfl hn121 ?_
  intro J190 hn191 hl192
  obtain⟨ys193,hj194,hs195⟩:=hj186.like mh hl192
  have hq196:=bE hs195
  refine BX (BZ (sV (au (v:=(pq g40)) rfl (aW rfl hz48)) (k:=?_)))
  obtain⟨z197,hz198,h⟩:=bnd h
  refine gK (is:=[]) (Lent.nil F) rfl rfl (caV call11) rfl (λw Θ hp hpB hle hleB hR=>cU (hr163.mono hle) (λp hp=>hR _ (List.mem_of_getElem? (i:=1) rfl) p hp) hp hpB hz198) ?_
  rintro J199 U201 v202 hn200 ⟨A203,c204,row205,rfl,rfl,hr206,_⟩
  refine WR.join2 λhn207=>?_
  have hr208:=hr206.sl (d5 hn207) (eV hn207)
  have hc209:=hr206.capz
  refine cwV 123 [_,_,_,_,_,_,_] (aV (k:=BX (BZ (mV (k:=?_)))))
  obtain⟨hk210,h⟩:=ag h
  refine sV (aO (i:=0) DN Dh rfl rfl rfl (Cl hk210) (hr208.some_ (Cl hk210))) (k:=?_)
  refine ec (c:=0) (u:=ii (gt z197 0)) (v:=ii (-5)) rfl rfl rfl rfl (by kernel_rfl) Dh rfl rfl (hr208.intT_at (Cl hk210)).2 rfl (.int _ _ iV) (i:=0) rfl hn207 ?_
  intro J211 hn212 hl213
  obtain⟨ys214,hj215,hs216⟩:=hr208.like jw hl213
  have hq217:=bE hs216
  refine BX (BZ (sV (au (v:=(pq g40)) rfl (aW rfl hz48)) (k:=?_)))
  obtain⟨z218,hz219,h⟩:=bnd h
  refine gK (is:=[]) (Lent.nil F) rfl rfl (caV call12) rfl (λw Θ hp hpB hle hleB hR=>cW (hr163.mono hle) (λp hp=>hR _ (List.mem_of_getElem? (i:=2) rfl) p hp) hp hpB hz219) ?_
  rintro J220 U222 v223 hn221 ⟨A224,c225,row226,rfl,rfl,hr227,_⟩
  refine WR.join2 λhn228=>?_
  have hr229:=hr227.sl (d5 hn228) (eV hn228)
  have hc230:=hr227.capz
  refine cwV 127 [_,_,_,_,_,_,_,_] (aV (k:=BX (BZ (mV (k:=?_)))))
  obtain⟨hk231,h⟩:=ag h
  refine sV (aO (i:=0) CW CX rfl rfl rfl (Cl hk231) (hr229.some_ (Cl hk231))) (k:=?_)
  refine ec (c:=0) (u:=ii (gt z218 0)) (v:=ii 9) rfl rfl rfl rfl (by kernel_rfl) CX rfl rfl (hr229.intT_at (Cl hk231)).2 rfl (.int _ _ iV) (i:=0) rfl hn228 ?_
  intro J232 hn233 hl234
  obtain⟨ys235,hj236,hs237⟩:=hr229.like jw hl234
  have hq238:=bE hs237
  refine BX (BZ (sV (au (v:=(pq g40)) rfl (aW rfl hz48)) (k:=?_)))
  obtain⟨z239,hz240,h⟩:=bnd h
  refine ecV [3] (caV call13) (λw hp=>dQ hr163 2 iV 1 iV hp hz240) ?_
  rintro Γ241 _ _ hl242 ⟨A245,c246,J247,rfl,rfl,hn248,hc249,hr250,_⟩
  refine cwV 131 [_,_,_,_,_,_,_,_,_] (aV (k:=BX (C1 (BZ (aV (k:=BX (C5 ?_)))))))
  obtain⟨hk251,h⟩:=ag h
  refine WC.loopJ (z239.length) (λ(i252:Nat) σ w => ∃(J253:Rowb) (ys255:List ai),(J253.map (·.1)).Nodup∧Sl bN (ghr J253) A245 ys255∧shL ai.sh ys255=shL ai.sh z239∧slots σ [(1,.string val),(9,optp z32.2.1 g40),(18,.slice A170 [1].length c171),(22,.slice A245 z239.length c246),(23,ii (i252:Int))]∧CC F Γ241 [row162,J253,J232,J211,row169,row164,row174,[(g127,.cells (Rec.cs A124 c125 z118.1).toArray 42 (0,0))],J190] w) ?_ ?_
  ·
   intro w hw; exact⟨J247,z239,hn248,hr250,rfl,slK,hw⟩
  rintro i252 σ w ⟨J253,ys255,hn254,hj256,hs257,hsl,hw⟩
  have hq258:=bE hs257
  refine slV hsl hw [_,_,_,_,_,_,_,_,_] ?_; clear hw hsl
  refine C1 (BZ (mV (k:=mV (k:=sV (ab rfl E3) (k:=sV aQ (k:=BX ?_))))))
  refine coV (λhb259=>?_) (λhb259=>?_)
  ·
   have hl260:=ilt hb259
   have hq261:=jlt hs257 (ltq hl260 hq258.symm)
   have hq262:=jlt (lU (dh (rfl:shL ai.sh z239=_) hq261)) (show 0<((gt z239 i252).rec_.vers).length from Cl (yf hk251 (jtl (rfl:shL ai.sh z239=_) hq261)))
   have hlt263:=jtl (lU (dh hs257 hq261)) hq262
   refine C4 (wc_ (C1 (C5 (BZ (mV (k:=mV (k:=sV (aO (i:=i252) E3 E4 rfl rfl rfl hl260 (hj256.some_ (ltq hl260 hq258.symm))) (k:=?_))))))))
   refine sV (av (i252*4+1) mu rfl rfl (hj256.some_ (ltq hl260 hq258.symm)) rfl) (k:=sV (av (i252*4+2) bG rfl rfl (hj256.some_ (ltq hl260 hq258.symm)) rfl) (k:=?_))
   obtain⟨A264,c265,A266,c267,hx268⟩:=hj256.dqueue_EntryT_at i252
   refine sV (kE (c:=2) (v:=.slice A264 ((gt ys255 i252).rec_.vers).length c265) (satJ (i:=1) rfl hn254) (hx268 (ltq hl260 hq258.symm)).2 rfl DB rfl rfl) (k:=sV (aO (i:=0) Dy Dr rfl rfl rfl hlt263 ((hx268 (ltq hl260 hq258.symm)).1.2.2.1.2.some_ hlt263)) (k:=sV (av (0*5+4) dX rfl rfl ((hx268 (ltq hl260 hq258.symm)).1.2.2.1.2.some_ hlt263) rfl) (k:=?_)))
   obtain⟨A269,c270,hx271⟩:=(hx268 (ltq hl260 hq258.symm)).1.2.2.1.2.verT_at 0
   refine ec (c:=4) (u:=.string (gt ((gt ys255 i252).rec_.vers) 0).val) (v:=.string (⟨#[115,112,111,105,108,116]⟩:ByteArray)) rfl rfl rfl rfl (by kernel_rfl) Dg rfl rfl (hx271 hlt263).2 rfl (.str _ _ (show (⟨#[115,112,111,105,108,116]⟩:ByteArray).size≤lim by decide)) (i:=1) rfl hn254 ?_
   intro J272 hn273 hl274
   obtain⟨ys275,hj276,hs277⟩:=hj256.like fY hl274
   have hs277:=hs277.trans hs257
   have hq278:=bE hs277
   have hlt279:=jtl (lU (dh hs277 hq261)) hq262
   refine BX (BZ (aV (k:=BX (C5 ?_))))
   refine WC.loopJ (((gt ys275 i252).route).length) (λ(i280:Nat) σ w => ∃(J281:Rowb) (ys283:List ai),(J281.map (·.1)).Nodup∧Sl bN (ghr J281) A245 ys283∧shL ai.sh ys283=shL ai.sh z239∧slots σ [(1,.string val),(9,optp z32.2.1 g40),(18,.slice A170 [1].length c171),(22,.slice A245 z239.length c246),(23,ii (i252:Int)),(24,ii (i280:Int))]∧CC F Γ241 [row162,J281,J232,J211,row169,row164,row174,[(g127,.cells (Rec.cs A124 c125 z118.1).toArray 42 (0,0))],J190] w) ?_ ?_
   ·
    intro w hw; exact⟨J272,ys275,hn273,hj276,hs277,slK,hw⟩
   rintro i280 σ w ⟨J281,ys283,hn282,hj284,hs285,hsl,hw⟩
   have hq286:=bE hs285
   refine slV hsl hw [_,_,_,_,_,_,_,_,_] ?_; clear hw hsl
   have hlt287:=jtl (lU (dh hs285 hq261)) hq262
   refine C1 (BZ (mV (k:=mV (k:=mV (k:=sV (aO (i:=i252) E3 E4 rfl rfl rfl hl260 (hj284.some_ (ltq hl260 hq286.symm))) (k:=sV (av (i252*4+3) kb rfl rfl (hj284.some_ (ltq hl260 hq286.symm)) rfl) (k:=?_)))))))
   obtain⟨A288,c289,A290,c291,hx292⟩:=hj284.dqueue_EntryT_at i252
   refine sV (kE (c:=3) (v:=.slice A290 ((gt ys283 i252).route).length c291) (satJ (i:=1) rfl hn282) (hx292 (ltq hl260 hq286.symm)).2 rfl CZ rfl rfl) (k:=sV (ab rfl CW) (k:=sV aQ (k:=BX ?_)))
   refine coV (λhb293=>?_) (λhb293=>?_)
   ·
    have hl294:=ilt hb293
    have hq295:=jlt (pT (dh hs285 hq261)) hl294
    have hlt296:=jtl (lU (dh hs285 hq261)) hq262
    have hlt297:=jtl (pT (dh hs285 hq261)) hq295
    refine C4 (wc_ (C1 (C5 ?_)))
    refine C3 ?_
    refine mV (k:=mV (k:=sV (aO (i:=i252) E3 E4 rfl rfl rfl hl260 (hj284.some_ (ltq hl260 hq286.symm))) (k:=sV (av (i252*4+3) kb rfl rfl (hj284.some_ (ltq hl260 hq286.symm)) rfl) (k:=sV (kE (c:=3) (v:=.slice A290 ((gt ys283 i252).route).length c291) (satJ (i:=1) rfl hn282) (hx292 (ltq hl260 hq286.symm)).2 rfl CZ rfl rfl) (k:=mV (k:=sV (aO (i:=i280) CW CX rfl rfl rfl hlt297 ((hx292 (ltq hl260 hq286.symm)).1.2.2.2.2.some_ hlt297)) (k:=?_)))))))
    refine ec (c:=0) (u:=ii (gt ((gt ys283 i252).route) i280)) (v:=ii 77) rfl rfl rfl rfl (by kernel_rfl) CX rfl rfl ((hx292 (ltq hl260 hq286.symm)).1.2.2.2.2.intT_at hlt297).2 rfl (.int _ _ iV) (i:=1) rfl hn282 ?_
    intro J298 hn299 hl300
    obtain⟨ys301,hj302,hs303⟩:=hj284.like fY hl300
    have hs303:=hs303.trans hs285
    have hq304:=bE hs303
    have hlt305:=jtl (lU (dh hs303 hq261)) hq262
    have hlt306:=jtl (pT (dh hs303 hq261)) hq295
    refine C0 ?_
    change WC _ _ _ _ _ _
    refine C3 ?_
    refine mV (k:=sV (aw rfl rfl rfl (aA hl294 (hx292 (ltq hl260 hq286.symm)).1.2.2.2.2.le)) (k:=aV (k:=?_)))
    refine C0 ?_
    intro w hw; exact⟨(jtl (pT (dh hs277 hq261)) hq295),J298,ys301,hn299,hj302,hs303,slK,hw⟩
   refine C8 ?_
   change WC _ _ _ _ _ _
   refine C3 ?_
   refine mV (k:=sV (aw rfl rfl rfl (aA hl260 (hq258▸hj256.le))) (k:=aV (k:=?_)))
   refine C0 ?_
   intro w hw; exact⟨hl260,J281,ys283,hn282,hj284,hs285,slK,hw⟩
  refine C8 ?_
  change WC _ _ _ _ _ _
  refine BZ (sV (au (v:=(pq g40)) rfl (aW rfl hz48)) (k:=?_))
  obtain⟨z307,hz308,h⟩:=bnd h
  refine ecV [0] (caV call13) (λw hp=>dQ (hr163.mono hl242) 2 iV 1 iV hp hz308) ?_
  rintro Γ309 _ _ hl310 ⟨A313,c314,J315,rfl,rfl,hn316,hc317,hr318,_⟩
  refine cwV 164 [_,_,_,_,_,_,_,_,_,_] (aV (k:=BX (C1 (BZ (mV (k:=sV (ab rfl E3) (k:=sV bD (k:=?_))))))))
  refine mV (k:=vG1 (h:=λhg319=>moV) (k:=?_))
  obtain⟨hk321,h⟩:=ag h
  refine vG1 (h:=λhg320=>aO (i:=0) E3 E4 rfl (grV hg320) rfl (Cl (aD hk321 hg320)) (hr318.some_ (Cl (aD hk321 hg320)))) (k:=vG1 (h:=λhg322=>av (0*4+1) mu rfl (grV hg322) (hr318.some_ (Cl (aD hk321 hg322))) rfl) (k:=vG1 (h:=λhg323=>av (0*4+2) bG rfl (grV hg323) (hr318.some_ (Cl (aD hk321 hg323))) rfl) (k:=?_)))
  obtain⟨A325,c326,A327,c328,hx329⟩:=hr318.dqueue_EntryT_at 0
  refine vG1 (h:=λhg324=>kE (c:=2) (v:=.slice A325 ((gt z307 0).rec_.vers).length c326) (satJ (i:=1) rfl hn316) (hx329 (Cl (aD hk321 hg324))).2 rfl DB (grV hg324) rfl) (k:=?_)
  obtain⟨hk331,h⟩:=ag h
  refine vG1 (h:=λhg330=>aO (i:=0) Dy Dr rfl (grV hg330) rfl (Cl (aD hk331 hg330)) ((hx329 (Cl (aD hk321 hg330))).1.2.2.1.2.some_ (Cl (aD hk331 hg330)))) (k:=vG1 (h:=λhg332=>av (0*5+4) dX rfl (grV hg332) ((hx329 (Cl (aD hk321 hg332))).1.2.2.1.2.some_ (Cl (aD hk331 hg332))) rfl) (k:=?_))
  obtain⟨A334,c335,hx336⟩:=qv (λ(hs_:((z307.length:Int)==1)=true)=>(hx329 (Cl (aD hk321 hs_))).1.2.2.1.2.verT_at 0)
  refine vG1 (h:=λhg333=>kE (c:=4) (v:=.string (gt ((gt z307 0).rec_.vers) 0).val) (satJ (i:=1) rfl hn316) (hx336 hg333 (Cl (aD hk331 hg333))).2 rfl D1 (grV hg333) rfl) (k:=vG1 (h:=λhg337=>moV) (k:=vG1 (h:=λhg338=>qY rfl (grV hg338) (grV hg338)) (k:=vG1 (h:=λhg339=>au (v:=.bool ((gt ((gt z307 0).rec_.vers) 0).val != val)) rfl (grV hg339)) (k:=vh0 (c0:=((z307.length:Int)==1)) (g:=((gt ((gt z307 0).rec_.vers) 0).val != val)) rfl rfl rfl rfl rfl (λ_=>QV.qo moV) (vh0 (c0:=((z307.length:Int)==1)) (g:=((gt ((gt z307 0).rec_.vers) 0).val != val)) rfl rfl rfl rfl rfl (λhg341=>QV.qo (aO (i:=0) E3 E4 rfl (grV hg341) rfl (Cl (aD hk321 (d4 hg341))) (hr318.some_ (Cl (aD hk321 (d4 hg341)))))) (vh0 (c0:=((z307.length:Int)==1)) (g:=((gt ((gt z307 0).rec_.vers) 0).val != val)) rfl rfl rfl rfl rfl (λhg342=>QV.qo (av (0*4+3) kb rfl (grV hg342) (hr318.some_ (Cl (aD hk321 (d4 hg342)))) rfl)) (vh0 (c0:=((z307.length:Int)==1)) (g:=((gt ((gt z307 0).rec_.vers) 0).val != val)) rfl rfl rfl rfl rfl (λhg343=>QV.qo (kE (c:=3) (v:=.slice A327 ((gt z307 0).route).length c328) (satJ (i:=1) rfl hn316) (hx329 (Cl (aD hk321 (d4 hg343)))).2 rfl CZ (grV hg343) rfl)) ?_)))))))
  refine vh0 (c0:=((z307.length:Int)==1)) (g:=((gt ((gt z307 0).rec_.vers) 0).val != val)) rfl rfl rfl rfl rfl (λ_=>QV.qo moV) ?_
  obtain⟨z346,hz347,h⟩:=bnd h
  refine vh0 (c0:=((z307.length:Int)==1)) (g:=((gt ((gt z307 0).rec_.vers) 0).val != val)) rfl rfl rfl rfl rfl (λhg345=>(b3 (aE call14 rfl rfl (cN (grV hg345) (grV hg345))) (λw hw=>gm (Γ:=Gh.all w) ((hx329 (Cl (aD hk321 (d4 hg345)))).1.2.2.2.2.mono ((satJ (i:=1) rfl hn316) w hw).le_all) (hx329 (Cl (aD hk321 (d4 hg345)))).1.2.2.2.1 ((ho172.mono (hl242.trans hl310)).sl hw.sat.le_all (hw.ra 5 rfl)) (ho172.mono (hl242.trans hl310)).capz (Sat.all w) (cK hz347 hg345)))) (vh0 (c0:=((z307.length:Int)==1)) (g:=((gt ((gt z307 0).rec_.vers) 0).val != val)) rfl rfl rfl rfl rfl (λhg348=>QV.qo (aX rfl (grV hg348))) (vG1 (h:=λhg349=>fx rfl (grV hg349) (vR (c:=((z307.length:Int)==1)) (g:=((gt ((gt z307 0).rec_.vers) 0).val != val)) (y:=(!z346)) hg349)) (k:=sV pkA (k:=BX ?_))))
  refine ciV h (λhb350 h=>?_) (λhb350 h=>?_)
  ·
   refine BZ (aV (k:=BX ?_))
   exact C2 λw hw=>rq_ r h hF hw
  refine C4 (wc_ (BZ (mV (k:=sV (ab rfl E3) (k:=mV (k:=sV (ab rfl E3) (k:=sV bD (k:=?_))))))))
  refine mV (k:=vG1 (h:=λhg351=>au (v:=(pq g40)) rfl (aW rfl hz48)) (k:=?_))
  refine(Bool.eq_false_or_eq_true ((z307.length:Int)==(z239.length:Int))).elim (λhb352=>?_) (λhb352=>?_)
  ·
   have h:=bt hb352 h
   refine WR.sat (c0:=true) (g:=((z307.length:Int)==(z239.length:Int))) rfl rfl rfl hb352 ?_
   obtain⟨z353,hz354,h⟩:=bnd h
   refine gK (is:=[]) (Lent.nil F) rfl rfl (aE call11 rfl rfl (mv (grV hb352))) rfl (λw Θ hp hpB hle hleB hR=>cU ((hr163.mono (hl242.trans hl310)).mono hle) (λp hp=>hR _ (List.mem_of_getElem? (i:=0) rfl) p hp) hp hpB hz354) ?_
   rintro J355 U357 v358 hn356 ⟨A359,c360,row361,rfl,rfl,hr362,_⟩
   refine WR.join2 λhn363=>?_
   have hr364:=hr362.sl (d5 hn363) (eV hn363)
   have hc365:=hr362.capz
   refine cwV 196 [_,_,_,_,_,_,_,_,_,_,_] ?_
   refine WR.sat (c0:=true) (g:=((z307.length:Int)==(z239.length:Int))) rfl rfl rfl hb352 ?_
   refine bsV #[ii 1,ii 0] 2 λg366=>?_
   refine WR.sat (c0:=true) (g:=((z307.length:Int)==(z239.length:Int))) rfl rfl rfl hb352 ?_
   have ho367:Own intT Γ309 2 [(g366,.cells #[ii 1,ii 0] 2 (0,0))] (some ⟨g366,0,none⟩) 2 [1,0]:=C7 (T:=intT) (ys:=[1,0]) [[ii 1],[ii 0]] rfl (show 2≤lim by decide) ⟨⟨rfl,iV⟩,⟨rfl,iV⟩,trivial⟩
   obtain⟨z368,hz369,h⟩:=bnd h
   refine vqV (caV call15) (λw hw=>iB (Γ:=Gh.all w) (hr364.mono ((satJ (i:=1) rfl hn363) w hw).le_all) hc365 (ho367.sl hw.sat.le_all (hw.ra 0 rfl)) ho367.capz (Sat.all w) hz369) (k:=sV (eZ (v:=.bool z368) rfl rfl hb352 (by kernel_rfl)) (k:=mV (k:=vG1 (h:=λhg370=>au (v:=(pq g40)) rfl (aW rfl hz48)) (k:=?_))))
   refine(Bool.eq_false_or_eq_true z368).elim (λhb371=>?_) (λhb371=>?_)
   ·
    have h:=bt hb371 h
    refine WR.sat (c0:=true) (g:=z368) rfl rfl rfl hb371 ?_
    obtain⟨z372,hz373,h⟩:=bnd h
    refine gK (is:=[]) (Lent.nil F) rfl rfl (aE call12 rfl rfl (mv (grV hb371))) rfl (λw Θ hp hpB hle hleB hR=>cW ((hr163.mono (hl242.trans hl310)).mono hle) (λp hp=>hR _ (List.mem_of_getElem? (i:=2) rfl) p hp) hp hpB hz373) ?_
    rintro J374 U376 v377 hn375 ⟨A378,c379,row380,rfl,rfl,hr381,_⟩
    refine WR.join2 λhn382=>?_
    have hr383:=hr381.sl (d5 hn382) (eV hn382)
    have hc384:=hr381.capz
    refine cwV 202 [_,_,_,_,_,_,_,_,_,_,_,_,_] ?_
    refine WR.sat (c0:=true) (g:=z368) rfl rfl rfl hb371 ?_
    refine bsV #[ii 1] 3 λg385=>?_
    refine WR.sat (c0:=true) (g:=z368) rfl rfl rfl hb371 ?_
    have ho386:Own intT Γ309 3 [(g385,.cells #[ii 1] 3 (0,0))] (some ⟨g385,0,none⟩) 1 [1]:=C7 (T:=intT) (ys:=[1]) [[ii 1]] rfl (show 1≤lim by decide) ⟨⟨rfl,iV⟩,trivial⟩
    obtain⟨z387,hz388,h⟩:=bnd h
    refine vqV (caV call14) (λw hw=>gm (Γ:=Gh.all w) (hr383.mono ((satJ (i:=1) rfl hn382) w hw).le_all) hc384 (ho386.sl hw.sat.le_all (hw.ra 0 rfl)) ho386.capz (Sat.all w) hz388) (k:=sV (eZ (v:=.bool z387) rfl rfl hb371 (by kernel_rfl)) (k:=aV (k:=BX ?_)))
    exact C2 λw hw=>rq_ r h hF hw
   have h:=bf hb371 h
   refine C6 (c0:=true) (g:=z368) rfl rfl rfl hb371 rfl ?_
   refine C6 (c0:=true) (g:=z368) rfl rfl rfl hb371 rfl ?_
   refine C6 (c0:=true) (g:=z368) rfl rfl rfl hb371 rfl ?_
   refine sV (eh (v:=.bool false) rfl rfl hb371 (by kernel_rfl)) (k:=aV (k:=BX ?_))
   exact C2 λw hw=>rq_ r h hF hw
  have h:=bf hb352 h
  refine C6 (c0:=true) (g:=((z307.length:Int)==(z239.length:Int))) rfl rfl rfl hb352 rfl ?_
  refine C6 (c0:=true) (g:=((z307.length:Int)==(z239.length:Int))) rfl rfl rfl hb352 rfl ?_
  refine C6 (c0:=true) (g:=((z307.length:Int)==(z239.length:Int))) rfl rfl rfl hb352 rfl ?_
  refine sV (eh (v:=.bool false) rfl rfl hb352 (by kernel_rfl)) (k:=mV (k:=?_))
  refine C6 (c0:=true) (g:=false) rfl rfl rfl rfl rfl ?_
  refine C6 (c0:=true) (g:=false) rfl rfl rfl rfl rfl ?_
  refine C6 (c0:=true) (g:=false) rfl rfl rfl rfl rfl ?_
  refine C6 (c0:=true) (g:=false) rfl rfl rfl rfl rfl ?_
  refine sV (gZ (v:=.bool false) rfl rfl rfl) (k:=aV (k:=BX ?_))
  exact C2 λw hw=>rq_ r h hF hw
 refine C4 (wc_ (BZ (aV (k:=BX (BZ (mV (k:=mV (k:=?_))))))))
 refine WR.sub (λw hw=>hw.pad) ?_
 refine oW (T:=intT) (xs:=[]) (ys:=route) lD (i:=0) rfl rfl rfl rfl (by kernel_rfl) rfl rfl (Own.nil intT Γ144 3) (Cl hk128) (λw hw=>jf (i:=3) rfl (ho132.mono hl145) hw) ?_
 intro row389 A390 c391 ho392
 refine aV (k:=BX (C1 (BZ (aV (k:=BX (C5 ?_))))))
 refine Cc h (λ(i398:Nat) (x393:List Int) σ w => ∃(row394:Rowb),slots σ [(1,.string val),(9,optp z32.2.1 g40),(15,(pq g127)),(17,.slice A130 route.length c131),(18,.slice A390 route.length c391),(19,ii (i398:Int))]∧CC F Γ144 [row389,row148,row150,row394,[(g127,.cells (Rec.cs A124 c125 z118.1).toArray 42 (0,0))],J120] w∧x393.length=route.length∧Own intT Γ144 3 row394 A130 c131 x393∧True) ?_ ?_
 ·
  intro w hw
  exact⟨row129,slK,(hw.on [0,0,0,0,0,0]),rfl,(ho132.mono hl145),trivial⟩
 rintro f397 i398 x393 σ w hi399 hlt400 hge401 ⟨row394,hsl,hw,hn396,ho395,-⟩
 refine slV hsl hw [_,_,_,_,_,_] ?_; clear hw hsl
 refine C1 (BZ (mV (k:=mV (k:=sV (ab rfl CW) (k:=sV aQ (k:=BX ?_))))))
 refine coV (λhb402=>?_) (λhb402=>?_)
 ·
  have hl403:=ilt hb402
  have h:=hlt400 hl403
  refine C4 (wc_ (C1 (C5 ?_)))
  refine C3 ?_
  refine mV (k:=mV (k:=sV (aO (i:=i398) CW CX rfl rfl rfl hl403 (ho395.some_ (ltq hl403 hn396.symm))) (k:=?_)))
  refine jm (T:=intT) (q:=i398) (v:=ii 77) (y:=77) rfl rfl rfl rfl (by kernel_rfl) CX (by exact⟨rfl,iV⟩) (i:=3) rfl ho395 (ltq hl403 hn396.symm) ?_
  intro row404 ho405
  refine C0 ?_
  change WC _ _ _ _ _ _
  refine C3 ?_
  refine mV (k:=sV (aw rfl rfl rfl (aA hl403 ho392.le)) (k:=aV (k:=?_)))
  exact C0 λw hw=>⟨hl403,(List.set x393 i398 77),h,row404,slK,hw,(List.length_set.trans hn396),ho405,trivial⟩
 have h:=hge401 (ige hb402)
 refine C8 ?_
 change WC _ _ _ _ _ _
 refine BZ (sV (q_fl 1 bG) (k:=sV (ldV 4 DB) (k:=sV (aO (i:=0) Dy Dr rfl rfl rfl (Cl hk133) (hr126.2.2.some_ (Cl hk133))) (k:=sV (av (0*5+4) dX rfl rfl (hr126.2.2.some_ (Cl hk133)) rfl) (k:=?_)))))
 have hj406:=hr126.2.2
 obtain⟨A407,c408,hx409⟩:=hr126.2.2.verT_at 0
 refine ec (c:=4) (u:=.string (gt z118.1.vers 0).val) (v:=.string (⟨#[115,112,111,105,108,116]⟩:ByteArray)) rfl rfl rfl rfl (by kernel_rfl) Dg rfl rfl (hx409 (Cl hk133)).2 rfl (.str _ _ (show (⟨#[115,112,111,105,108,116]⟩:ByteArray).size≤lim by decide)) (i:=5) rfl hn121 ?_
 intro J410 hn411 hl412
 obtain⟨ys413,hj414,hs415⟩:=hj406.like mh hl412
 have hq416:=bE hs415
 refine BX (BZ (sV (au (v:=(pq g40)) rfl (aW rfl hz48)) (k:=?_)))
 obtain⟨z417,hz418,h⟩:=bnd h
 refine gK (is:=[]) (Lent.nil F) rfl rfl (caV call11) rfl (λw Θ hp hpB hle hleB hR=>cU (hr149.mono hle) (λp hp=>hR _ (List.mem_of_getElem? (i:=1) rfl) p hp) hp hpB hz418) ?_
 rintro J419 U421 v422 hn420 ⟨A423,c424,row425,rfl,rfl,hr426,_⟩
 refine WR.join2 λhn427=>?_
 have hr428:=hr426.sl (d5 hn427) (eV hn427)
 have hc429:=hr426.capz
 refine cwV 123 [_,_,_,_,_,_,_] (aV (k:=BX (BZ (mV (k:=?_)))))
 obtain⟨hk430,h⟩:=ag h
 refine sV (aO (i:=0) DN Dh rfl rfl rfl (Cl hk430) (hr428.some_ (Cl hk430))) (k:=?_)
 refine ec (c:=0) (u:=ii (gt z417 0)) (v:=ii (-5)) rfl rfl rfl rfl (by kernel_rfl) Dh rfl rfl (hr428.intT_at (Cl hk430)).2 rfl (.int _ _ iV) (i:=0) rfl hn427 ?_
 intro J431 hn432 hl433
 obtain⟨ys434,hj435,hs436⟩:=hr428.like jw hl433
 have hq437:=bE hs436
 refine BX (BZ (sV (au (v:=(pq g40)) rfl (aW rfl hz48)) (k:=?_)))
 obtain⟨z438,hz439,h⟩:=bnd h
 refine gK (is:=[]) (Lent.nil F) rfl rfl (caV call12) rfl (λw Θ hp hpB hle hleB hR=>cW (hr149.mono hle) (λp hp=>hR _ (List.mem_of_getElem? (i:=2) rfl) p hp) hp hpB hz439) ?_
 rintro J440 U442 v443 hn441 ⟨A444,c445,row446,rfl,rfl,hr447,_⟩
 refine WR.join2 λhn448=>?_
 have hr449:=hr447.sl (d5 hn448) (eV hn448)
 have hc450:=hr447.capz
 refine cwV 127 [_,_,_,_,_,_,_,_] (aV (k:=BX (BZ (mV (k:=?_)))))
 obtain⟨hk451,h⟩:=ag h
 refine sV (aO (i:=0) CW CX rfl rfl rfl (Cl hk451) (hr449.some_ (Cl hk451))) (k:=?_)
 refine ec (c:=0) (u:=ii (gt z438 0)) (v:=ii 9) rfl rfl rfl rfl (by kernel_rfl) CX rfl rfl (hr449.intT_at (Cl hk451)).2 rfl (.int _ _ iV) (i:=0) rfl hn448 ?_
 intro J452 hn453 hl454
 obtain⟨ys455,hj456,hs457⟩:=hr449.like jw hl454
 have hq458:=bE hs457
 refine BX (BZ (sV (au (v:=(pq g40)) rfl (aW rfl hz48)) (k:=?_)))
 obtain⟨z459,hz460,h⟩:=bnd h
 refine ecV [3] (caV call13) (λw hp=>dQ hr149 2 iV 1 iV hp hz460) ?_
 rintro Γ461 _ _ hl462 ⟨A465,c466,J467,rfl,rfl,hn468,hc469,hr470,_⟩
 refine cwV 131 [_,_,_,_,_,_,_,_,_] (aV (k:=BX (C1 (BZ (aV (k:=BX (C5 ?_)))))))
 obtain⟨hk471,h⟩:=ag h
 refine WC.loopJ (z459.length) (λ(i472:Nat) σ w => ∃(J473:Rowb) (ys475:List ai),(J473.map (·.1)).Nodup∧Sl bN (ghr J473) A465 ys475∧shL ai.sh ys475=shL ai.sh z459∧slots σ [(1,.string val),(9,optp z32.2.1 g40),(18,.slice A390 route.length c391),(22,.slice A465 z459.length c466),(23,ii (i472:Int))]∧CC F Γ461 [row148,J473,J452,J431,row389,row150,row394,[(g127,.cells (Rec.cs A124 c125 z118.1).toArray 42 (0,0))],J410] w) ?_ ?_
 ·
  intro w hw; exact⟨J467,z459,hn468,hr470,rfl,slK,hw⟩
 rintro i472 σ w ⟨J473,ys475,hn474,hj476,hs477,hsl,hw⟩
 have hq478:=bE hs477
 refine slV hsl hw [_,_,_,_,_,_,_,_,_] ?_; clear hw hsl
 refine C1 (BZ (mV (k:=mV (k:=sV (ab rfl E3) (k:=sV aQ (k:=BX ?_))))))
 refine coV (λhb479=>?_) (λhb479=>?_)
 ·
  have hl480:=ilt hb479
  have hq481:=jlt hs477 (ltq hl480 hq478.symm)
  have hq482:=jlt (lU (dh (rfl:shL ai.sh z459=_) hq481)) (show 0<((gt z459 i472).rec_.vers).length from Cl (yf hk471 (jtl (rfl:shL ai.sh z459=_) hq481)))
  have hlt483:=jtl (lU (dh hs477 hq481)) hq482
  refine C4 (wc_ (C1 (C5 (BZ (mV (k:=mV (k:=sV (aO (i:=i472) E3 E4 rfl rfl rfl hl480 (hj476.some_ (ltq hl480 hq478.symm))) (k:=?_))))))))
  refine sV (av (i472*4+1) mu rfl rfl (hj476.some_ (ltq hl480 hq478.symm)) rfl) (k:=sV (av (i472*4+2) bG rfl rfl (hj476.some_ (ltq hl480 hq478.symm)) rfl) (k:=?_))
  obtain⟨A484,c485,A486,c487,hx488⟩:=hj476.dqueue_EntryT_at i472
  refine sV (kE (c:=2) (v:=.slice A484 ((gt ys475 i472).rec_.vers).length c485) (satJ (i:=1) rfl hn474) (hx488 (ltq hl480 hq478.symm)).2 rfl DB rfl rfl) (k:=sV (aO (i:=0) Dy Dr rfl rfl rfl hlt483 ((hx488 (ltq hl480 hq478.symm)).1.2.2.1.2.some_ hlt483)) (k:=sV (av (0*5+4) dX rfl rfl ((hx488 (ltq hl480 hq478.symm)).1.2.2.1.2.some_ hlt483) rfl) (k:=?_)))
  obtain⟨A489,c490,hx491⟩:=(hx488 (ltq hl480 hq478.symm)).1.2.2.1.2.verT_at 0
  refine ec (c:=4) (u:=.string (gt ((gt ys475 i472).rec_.vers) 0).val) (v:=.string (⟨#[115,112,111,105,108,116]⟩:ByteArray)) rfl rfl rfl rfl (by kernel_rfl) Dg rfl rfl (hx491 hlt483).2 rfl (.str _ _ (show (⟨#[115,112,111,105,108,116]⟩:ByteArray).size≤lim by decide)) (i:=1) rfl hn474 ?_
  intro J492 hn493 hl494
  obtain⟨ys495,hj496,hs497⟩:=hj476.like fY hl494
  have hs497:=hs497.trans hs477
  have hq498:=bE hs497
  have hlt499:=jtl (lU (dh hs497 hq481)) hq482
  refine BX (BZ (aV (k:=BX (C5 ?_))))
  refine WC.loopJ (((gt ys495 i472).route).length) (λ(i500:Nat) σ w => ∃(J501:Rowb) (ys503:List ai),(J501.map (·.1)).Nodup∧Sl bN (ghr J501) A465 ys503∧shL ai.sh ys503=shL ai.sh z459∧slots σ [(1,.string val),(9,optp z32.2.1 g40),(18,.slice A390 route.length c391),(22,.slice A465 z459.length c466),(23,ii (i472:Int)),(24,ii (i500:Int))]∧CC F Γ461 [row148,J501,J452,J431,row389,row150,row394,[(g127,.cells (Rec.cs A124 c125 z118.1).toArray 42 (0,0))],J410] w) ?_ ?_
  ·
   intro w hw; exact⟨J492,ys495,hn493,hj496,hs497,slK,hw⟩
  rintro i500 σ w ⟨J501,ys503,hn502,hj504,hs505,hsl,hw⟩
  have hq506:=bE hs505
  refine slV hsl hw [_,_,_,_,_,_,_,_,_] ?_; clear hw hsl
  have hlt507:=jtl (lU (dh hs505 hq481)) hq482
  refine C1 (BZ (mV (k:=mV (k:=mV (k:=sV (aO (i:=i472) E3 E4 rfl rfl rfl hl480 (hj504.some_ (ltq hl480 hq506.symm))) (k:=sV (av (i472*4+3) kb rfl rfl (hj504.some_ (ltq hl480 hq506.symm)) rfl) (k:=?_)))))))
  obtain⟨A508,c509,A510,c511,hx512⟩:=hj504.dqueue_EntryT_at i472
  refine sV (kE (c:=3) (v:=.slice A510 ((gt ys503 i472).route).length c511) (satJ (i:=1) rfl hn502) (hx512 (ltq hl480 hq506.symm)).2 rfl CZ rfl rfl) (k:=sV (ab rfl CW) (k:=sV aQ (k:=BX ?_)))
  refine coV (λhb513=>?_) (λhb513=>?_)
  ·
   have hl514:=ilt hb513
   have hq515:=jlt (pT (dh hs505 hq481)) hl514
   have hlt516:=jtl (lU (dh hs505 hq481)) hq482
   have hlt517:=jtl (pT (dh hs505 hq481)) hq515
   refine C4 (wc_ (C1 (C5 ?_)))
   refine C3 ?_
   refine mV (k:=mV (k:=sV (aO (i:=i472) E3 E4 rfl rfl rfl hl480 (hj504.some_ (ltq hl480 hq506.symm))) (k:=sV (av (i472*4+3) kb rfl rfl (hj504.some_ (ltq hl480 hq506.symm)) rfl) (k:=sV (kE (c:=3) (v:=.slice A510 ((gt ys503 i472).route).length c511) (satJ (i:=1) rfl hn502) (hx512 (ltq hl480 hq506.symm)).2 rfl CZ rfl rfl) (k:=mV (k:=sV (aO (i:=i500) CW CX rfl rfl rfl hlt517 ((hx512 (ltq hl480 hq506.symm)).1.2.2.2.2.some_ hlt517)) (k:=?_)))))))
   refine ec (c:=0) (u:=ii (gt ((gt ys503 i472).route) i500)) (v:=ii 77) rfl rfl rfl rfl (by kernel_rfl) CX rfl rfl ((hx512 (ltq hl480 hq506.symm)).1.2.2.2.2.intT_at hlt517).2 rfl (.int _ _ iV) (i:=1) rfl hn502 ?_
   intro J518 hn519 hl520
   obtain⟨ys521,hj522,hs523⟩:=hj504.like fY hl520
   have hs523:=hs523.trans hs505
   have hq524:=bE hs523
   have hlt525:=jtl (lU (dh hs523 hq481)) hq482
   have hlt526:=jtl (pT (dh hs523 hq481)) hq515
   refine C0 ?_
   change WC _ _ _ _ _ _
   refine C3 ?_
   refine mV (k:=sV (aw rfl rfl rfl (aA hl514 (hx512 (ltq hl480 hq506.symm)).1.2.2.2.2.le)) (k:=aV (k:=?_)))
   refine C0 ?_
   intro w hw; exact⟨(jtl (pT (dh hs497 hq481)) hq515),J518,ys521,hn519,hj522,hs523,slK,hw⟩
  refine C8 ?_
  change WC _ _ _ _ _ _
  refine C3 ?_
  refine mV (k:=sV (aw rfl rfl rfl (aA hl480 (hq478▸hj476.le))) (k:=aV (k:=?_)))
  refine C0 ?_
  intro w hw; exact⟨hl480,J501,ys503,hn502,hj504,hs505,slK,hw⟩
 refine C8 ?_
 change WC _ _ _ _ _ _
 refine BZ (sV (au (v:=(pq g40)) rfl (aW rfl hz48)) (k:=?_))
 obtain⟨z527,hz528,h⟩:=bnd h
 refine ecV [0] (caV call13) (λw hp=>dQ (hr149.mono hl462) 2 iV 1 iV hp hz528) ?_
 rintro Γ529 _ _ hl530 ⟨A533,c534,J535,rfl,rfl,hn536,hc537,hr538,_⟩
 refine cwV 164 [_,_,_,_,_,_,_,_,_,_] (aV (k:=BX (C1 (BZ (mV (k:=sV (ab rfl E3) (k:=sV bD (k:=?_))))))))
 refine mV (k:=vG1 (h:=λhg539=>moV) (k:=?_))
 obtain⟨hk541,h⟩:=ag h
 refine vG1 (h:=λhg540=>aO (i:=0) E3 E4 rfl (grV hg540) rfl (Cl (aD hk541 hg540)) (hr538.some_ (Cl (aD hk541 hg540)))) (k:=vG1 (h:=λhg542=>av (0*4+1) mu rfl (grV hg542) (hr538.some_ (Cl (aD hk541 hg542))) rfl) (k:=vG1 (h:=λhg543=>av (0*4+2) bG rfl (grV hg543) (hr538.some_ (Cl (aD hk541 hg543))) rfl) (k:=?_)))
 obtain⟨A545,c546,A547,c548,hx549⟩:=hr538.dqueue_EntryT_at 0
 refine vG1 (h:=λhg544=>kE (c:=2) (v:=.slice A545 ((gt z527 0).rec_.vers).length c546) (satJ (i:=1) rfl hn536) (hx549 (Cl (aD hk541 hg544))).2 rfl DB (grV hg544) rfl) (k:=?_)
 obtain⟨hk551,h⟩:=ag h
 refine vG1 (h:=λhg550=>aO (i:=0) Dy Dr rfl (grV hg550) rfl (Cl (aD hk551 hg550)) ((hx549 (Cl (aD hk541 hg550))).1.2.2.1.2.some_ (Cl (aD hk551 hg550)))) (k:=vG1 (h:=λhg552=>av (0*5+4) dX rfl (grV hg552) ((hx549 (Cl (aD hk541 hg552))).1.2.2.1.2.some_ (Cl (aD hk551 hg552))) rfl) (k:=?_))
 obtain⟨A554,c555,hx556⟩:=qv (λ(hs_:((z527.length:Int)==1)=true)=>(hx549 (Cl (aD hk541 hs_))).1.2.2.1.2.verT_at 0)
 refine vG1 (h:=λhg553=>kE (c:=4) (v:=.string (gt ((gt z527 0).rec_.vers) 0).val) (satJ (i:=1) rfl hn536) (hx556 hg553 (Cl (aD hk551 hg553))).2 rfl D1 (grV hg553) rfl) (k:=vG1 (h:=λhg557=>moV) (k:=vG1 (h:=λhg558=>qY rfl (grV hg558) (grV hg558)) (k:=vG1 (h:=λhg559=>au (v:=.bool ((gt ((gt z527 0).rec_.vers) 0).val != val)) rfl (grV hg559)) (k:=vh0 (c0:=((z527.length:Int)==1)) (g:=((gt ((gt z527 0).rec_.vers) 0).val != val)) rfl rfl rfl rfl rfl (λ_=>QV.qo moV) (vh0 (c0:=((z527.length:Int)==1)) (g:=((gt ((gt z527 0).rec_.vers) 0).val != val)) rfl rfl rfl rfl rfl (λhg561=>QV.qo (aO (i:=0) E3 E4 rfl (grV hg561) rfl (Cl (aD hk541 (d4 hg561))) (hr538.some_ (Cl (aD hk541 (d4 hg561)))))) (vh0 (c0:=((z527.length:Int)==1)) (g:=((gt ((gt z527 0).rec_.vers) 0).val != val)) rfl rfl rfl rfl rfl (λhg562=>QV.qo (av (0*4+3) kb rfl (grV hg562) (hr538.some_ (Cl (aD hk541 (d4 hg562)))) rfl)) (vh0 (c0:=((z527.length:Int)==1)) (g:=((gt ((gt z527 0).rec_.vers) 0).val != val)) rfl rfl rfl rfl rfl (λhg563=>QV.qo (kE (c:=3) (v:=.slice A547 ((gt z527 0).route).length c548) (satJ (i:=1) rfl hn536) (hx549 (Cl (aD hk541 (d4 hg563)))).2 rfl CZ (grV hg563) rfl)) ?_)))))))
 refine vh0 (c0:=((z527.length:Int)==1)) (g:=((gt ((gt z527 0).rec_.vers) 0).val != val)) rfl rfl rfl rfl rfl (λ_=>QV.qo moV) ?_
 obtain⟨z566,hz567,h⟩:=bnd h
 refine vh0 (c0:=((z527.length:Int)==1)) (g:=((gt ((gt z527 0).rec_.vers) 0).val != val)) rfl rfl rfl rfl rfl (λhg565=>(b3 (aE call14 rfl rfl (cN (grV hg565) (grV hg565))) (λw hw=>gm (Γ:=Gh.all w) ((hx549 (Cl (aD hk541 (d4 hg565)))).1.2.2.2.2.mono ((satJ (i:=1) rfl hn536) w hw).le_all) (hx549 (Cl (aD hk541 (d4 hg565)))).1.2.2.2.1 ((ho392.mono (hl462.trans hl530)).sl hw.sat.le_all (hw.ra 5 rfl)) (ho392.mono (hl462.trans hl530)).capz (Sat.all w) (cK hz567 hg565)))) (vh0 (c0:=((z527.length:Int)==1)) (g:=((gt ((gt z527 0).rec_.vers) 0).val != val)) rfl rfl rfl rfl rfl (λhg568=>QV.qo (aX rfl (grV hg568))) (vG1 (h:=λhg569=>fx rfl (grV hg569) (vR (c:=((z527.length:Int)==1)) (g:=((gt ((gt z527 0).rec_.vers) 0).val != val)) (y:=(!z566)) hg569)) (k:=sV pkA (k:=BX ?_))))
 refine ciV h (λhb570 h=>?_) (λhb570 h=>?_)
 ·
  refine BZ (aV (k:=BX ?_))
  exact C2 λw hw=>rq_ r h hF hw
 refine C4 (wc_ (BZ (mV (k:=sV (ab rfl E3) (k:=mV (k:=sV (ab rfl E3) (k:=sV bD (k:=?_))))))))
 refine mV (k:=vG1 (h:=λhg571=>au (v:=(pq g40)) rfl (aW rfl hz48)) (k:=?_))
 refine(Bool.eq_false_or_eq_true ((z527.length:Int)==(z459.length:Int))).elim (λhb572=>?_) (λhb572=>?_)
 ·
  have h:=bt hb572 h
  refine WR.sat (c0:=true) (g:=((z527.length:Int)==(z459.length:Int))) rfl rfl rfl hb572 ?_
  obtain⟨z573,hz574,h⟩:=bnd h
  refine gK (is:=[]) (Lent.nil F) rfl rfl (aE call11 rfl rfl (mv (grV hb572))) rfl (λw Θ hp hpB hle hleB hR=>cU ((hr149.mono (hl462.trans hl530)).mono hle) (λp hp=>hR _ (List.mem_of_getElem? (i:=0) rfl) p hp) hp hpB hz574) ?_
  rintro J575 U577 v578 hn576 ⟨A579,c580,row581,rfl,rfl,hr582,_⟩
  refine WR.join2 λhn583=>?_
  have hr584:=hr582.sl (d5 hn583) (eV hn583)
  have hc585:=hr582.capz
  refine cwV 196 [_,_,_,_,_,_,_,_,_,_,_] ?_
  refine WR.sat (c0:=true) (g:=((z527.length:Int)==(z459.length:Int))) rfl rfl rfl hb572 ?_
  refine bsV #[ii 1,ii 0] 2 λg586=>?_
  refine WR.sat (c0:=true) (g:=((z527.length:Int)==(z459.length:Int))) rfl rfl rfl hb572 ?_
  have ho587:Own intT Γ529 2 [(g586,.cells #[ii 1,ii 0] 2 (0,0))] (some ⟨g586,0,none⟩) 2 [1,0]:=C7 (T:=intT) (ys:=[1,0]) [[ii 1],[ii 0]] rfl (show 2≤lim by decide) ⟨⟨rfl,iV⟩,⟨rfl,iV⟩,trivial⟩
  obtain⟨z588,hz589,h⟩:=bnd h
  refine vqV (caV call15) (λw hw=>iB (Γ:=Gh.all w) (hr584.mono ((satJ (i:=1) rfl hn583) w hw).le_all) hc585 (ho587.sl hw.sat.le_all (hw.ra 0 rfl)) ho587.capz (Sat.all w) hz589) (k:=sV (eZ (v:=.bool z588) rfl rfl hb572 (by kernel_rfl)) (k:=mV (k:=vG1 (h:=λhg590=>au (v:=(pq g40)) rfl (aW rfl hz48)) (k:=?_))))
  refine(Bool.eq_false_or_eq_true z588).elim (λhb591=>?_) (λhb591=>?_)
  ·
   have h:=bt hb591 h
   refine WR.sat (c0:=true) (g:=z588) rfl rfl rfl hb591 ?_
   obtain⟨z592,hz593,h⟩:=bnd h
   refine gK (is:=[]) (Lent.nil F) rfl rfl (aE call12 rfl rfl (mv (grV hb591))) rfl (λw Θ hp hpB hle hleB hR=>cW ((hr149.mono (hl462.trans hl530)).mono hle) (λp hp=>hR _ (List.mem_of_getElem? (i:=2) rfl) p hp) hp hpB hz593) ?_
   rintro J594 U596 v597 hn595 ⟨A598,c599,row600,rfl,rfl,hr601,_⟩
   refine WR.join2 λhn602=>?_
   have hr603:=hr601.sl (d5 hn602) (eV hn602)
   have hc604:=hr601.capz
   refine cwV 202 [_,_,_,_,_,_,_,_,_,_,_,_,_] ?_
   refine WR.sat (c0:=true) (g:=z588) rfl rfl rfl hb591 ?_
   refine bsV #[ii 1] 3 λg605=>?_
   refine WR.sat (c0:=true) (g:=z588) rfl rfl rfl hb591 ?_
   have ho606:Own intT Γ529 3 [(g605,.cells #[ii 1] 3 (0,0))] (some ⟨g605,0,none⟩) 1 [1]:=C7 (T:=intT) (ys:=[1]) [[ii 1]] rfl (show 1≤lim by decide) ⟨⟨rfl,iV⟩,trivial⟩
   obtain⟨z607,hz608,h⟩:=bnd h
   refine vqV (caV call14) (λw hw=>gm (Γ:=Gh.all w) (hr603.mono ((satJ (i:=1) rfl hn602) w hw).le_all) hc604 (ho606.sl hw.sat.le_all (hw.ra 0 rfl)) ho606.capz (Sat.all w) hz608) (k:=sV (eZ (v:=.bool z607) rfl rfl hb591 (by kernel_rfl)) (k:=aV (k:=BX ?_)))
   exact C2 λw hw=>rq_ r h hF hw
  have h:=bf hb591 h
  refine C6 (c0:=true) (g:=z588) rfl rfl rfl hb591 rfl ?_
  refine C6 (c0:=true) (g:=z588) rfl rfl rfl hb591 rfl ?_
  refine C6 (c0:=true) (g:=z588) rfl rfl rfl hb591 rfl ?_
  refine sV (eh (v:=.bool false) rfl rfl hb591 (by kernel_rfl)) (k:=aV (k:=BX ?_))
  exact C2 λw hw=>rq_ r h hF hw
 have h:=bf hb572 h
 refine C6 (c0:=true) (g:=((z527.length:Int)==(z459.length:Int))) rfl rfl rfl hb572 rfl ?_
 refine C6 (c0:=true) (g:=((z527.length:Int)==(z459.length:Int))) rfl rfl rfl hb572 rfl ?_
 refine C6 (c0:=true) (g:=((z527.length:Int)==(z459.length:Int))) rfl rfl rfl hb572 rfl ?_
 refine sV (eh (v:=.bool false) rfl rfl hb572 (by kernel_rfl)) (k:=mV (k:=?_))
 refine C6 (c0:=true) (g:=false) rfl rfl rfl rfl rfl ?_
 refine C6 (c0:=true) (g:=false) rfl rfl rfl rfl rfl ?_
 refine C6 (c0:=true) (g:=false) rfl rfl rfl rfl rfl ?_
 refine C6 (c0:=true) (g:=false) rfl rfl rfl rfl rfl ?_
 refine sV (gZ (v:=.bool false) rfl rfl rfl) (k:=aV (k:=BX ?_))
 exact C2 λw hw=>rq_ r h hF hw
end Fw
end Go.Proofs.YtangaamigenjjaaGreat
