/- Walks through the functions that the law reaches (printed by a program). No condition. -/
import Derived.Test.YtgaplodcdhhefaaGreatW3
namespace Go.Proofs.YtgaplodcdhhefaaGreat
namespace Fw
set_option linter.unusedVariables false
set_option linter.unusedSimpArgs false
set_option linter.unusedSectionVars false
set_option maxRecDepth 100000
set_option maxHeartbeats 2000000
open Go.RowKit
open Go.Proofs.Tryz
variable {Γ:Gh} {w0:World}
theorem lm{Alist:Option Addr}{clist:Nat}{list:List Rec}(hlist:Sl recT Γ Alist list)(hlistc:list.length≤clist)(hs:Sat Γ w0){r:Bool}(h:fo list=some r):CQ Tryz.prog 3 #[.slice Alist list.length clist] w0 (.bool r):=by
 refine goQ [2] func3 ntmps3 results3 hs λF hF=>?_
 refine Dx (aV (k:=Dw (Dy (Dx ?_))))
 obtain⟨z1,hz2,h⟩:=bnd h
 refine vqV (caV call4) (λw hw=>kg (Γ:=Gh.all w)  (Sat.all w) hz2) (k:=sV bb (k:=mV (k:=vG0 (h:=λhg3=>moV) (k:=?_))))
 obtain⟨z5,hz6,h⟩:=bnd h
 refine vC0 (h:=λhg4=>aH (aC call5 rfl rfl (kC (grV hg4))) (λw hw=>oA (Γ:=Gh.all w) (hlist.mono hw.sat.le_all) hlistc (Sat.all w) (bU hz6 hg4))) (k:=vG0 (h:=λhg7=>bb rfl (grV hg7)) (k:=sV pkO (k:=Dw ?_)))
 refine ciV h (λhb8 h=>?_) (λhb8 h=>?_)
 ·
  refine Dx ?_
  obtain⟨z9,hz10,h⟩:=bnd h
  refine vqV (caV call4) (λw hw=>kg (Γ:=Gh.all w)  (Sat.all w) hz10) (k:=aV (k:=Dw ?_))
  exact DB λw hw=>rq_ r h hF hw
 refine DC (wc_ (Dx ?_))
 obtain⟨z11,hz12,h⟩:=bnd h
 refine ecV [] (caV call7) (λw hp=>sr 16777216 iV hp hz12) ?_
 rintro Γ13 _ _ hl14 ⟨g17,row18,rfl,rfl,hr19,_⟩
 refine cwV 19 [_] ?_
 refine uh (n:=5) (rs:=[.cell 2 32]) (args:=[ii 2]) rfl rfl (caV call8) func8 rfl ntmps8 results8 rfl ?_
 intro R20 hR21
 refine Dx ?_
 refine alV zeroValue32 λg22=>?_
 refine Dw (Dx (mV (k:=sV (aA (v:=.agg #[ii 1,ii 2]) rfl (dJ rfl rfl) (λw=>by kernel_rfl)) (k:=stV 0 (.agg #[ii 1,ii 2]) #[ii 1,ii 2] El (k:=Dw ?_)))))
 refine DB ?_
 refine ri (rs:=[.cell 2 32]) (vs:=[.agg #[ii 1,ii 2]]) hR21 (λw hw=>(dL (i:=0) (us:=[ii 1,ii 2]) hw rfl Em El (by kernel_rfl) rfl dK)) ?_
 change WR _ _ _ _ _ _ (upd _ 20 (.agg #[ii 1,ii 2]))
 obtain⟨z23,hz24,h⟩:=bnd h
 refine ecV [1] (caV call6) (λw hp=>qN hr19 (⟨1,2⟩:Adr) ⟨iV,iV⟩ 500 iV 3 iV hp hz24) ?_
 rintro Γ25 _ _ hl26 ⟨row29,g31,row32,rfl,rfl,hr30,hr33,hr34,_⟩
 refine cwV 21 [_,_,_] (mV (k:=sV exV (k:=sV exV (k:=aU (v:=optp z23.2.1 g31) (k:=aV (k:=Dw (Dy ?_)))))))
 refine Dx (mU (v:=optp z23.2.1 g31) (k:=sV (tJ underlying25 rfl rfl rfl) (k:=mV (k:=vG0 (h:=λhg35=>moV) (k:=vG0 (h:=λhg36=>bj rfl (grV hg36)) (k:=sV pkO (k:=Dw ?_)))))))
 refine ciV h (λhb37 h=>?_) (λhb37 h=>?_)
 ·
  refine Dx (aV (k:=Dw ?_))
  exact DB λw hw=>rq_ r h hF hw
 obtain⟨z38,hz39,h⟩:=bnd h
 have ho40:=jX hr33 hz39
 refine DC (wc_ (Dx ?_))
 refine WR.sub (λw hw=>hw.pad) ?_
 refine WR.sub (λw hw=>hw.pad) ?_
 refine aV (k:=Dw (Dy (Dx (aV (k:=Dw (DD ?_))))))
 refine DF h (λ(i49:Nat) (mine_43:List Rec) σ w => ∃(J41:Rowb), ∃(A44:Option Addr), ∃(c45:Nat), ∃(row46:Rowb),slots σ [(0,.slice Alist list.length clist),(3,optp z23.2.1 g31),(5,.slice A44 mine_43.length c45),(6,ii (i49:Int))]∧CC F Γ25 [row46,J41,row29,row32] w∧(J41.map (·.1)).Nodup∧Own recT (ghr J41) 36 row46 A44 c45 mine_43∧True) ?_ ?_
 ·
  intro w hw
  exact⟨[],none,0,[],slK,(hw.on [1,0,0,0]),List.nodup_nil,(Own.nil recT (ghr []) 36),trivial⟩
 rintro f48 i49 mine_43 σ w hi50 hlt51 hge52 ⟨J41,A44,c45,row46,hsl,hw,hn42,ho47,-⟩
 refine slV hsl hw [_,_,_,_] ?_; clear hw hsl
 refine Dy (Dx (mV (k:=mV (k:=sV (ab rfl Fa) (k:=sV aw (k:=Dw ?_))))))
 refine coV (λhb53=>?_) (λhb53=>?_)
 ·
  have hl54:=ilt hb53
  have h:=hlt51 hl54
  refine DC (wc_ (Dy (DD ?_)))
  refine DA ?_
  refine mV (k:=mV (k:=mV (k:=sV (ar (i:=i49) Fa EU rfl rfl rfl hl54 ((hlist.mono (hl14.trans hl26)).some_ hl54)) (k:=?_))))
  obtain⟨A55,c56,hx57⟩:=(hlist.mono (hl14.trans hl26)).recT_at i49
  refine sV (bT (c:=0) (vs:=(Rec.cs A55 c56 (gt list i49))) (hx57 hl54).2 rfl EV EU rfl rfl rfl) (k:=?_)
  obtain⟨z58,hz59,h⟩:=bnd h
  refine kH (is:=[]) (Lent.nil F) rfl rfl (caV call9) rfl (λw Θ hp hpB hle hleB hR=>nC (gt list i49) (Rec.fits_mono (hx57 hl54).1 hle) hp hpB hz59) ?_
  rintro J60 U62 v63 hn61 ⟨A64,c65,rfl,rfl,hr66,_⟩
  refine cwV 41 [_,_,_,_,_] ?_
  refine bsV (Rec.cs A64 c65 z58).toArray 36 λg67=>?_
  refine WR.sub (λw hw=>hw.on [1,2,0,0,0,0]) ?_
  change WR _ _ _ (CC F Γ25 [_,_,_,_,_,_]) _ _ _
  refine WR.join2 λhn68=>?_
  change WR _ _ _ (CC F Γ25 [_,_,_,_,_]) _ _ _
  obtain⟨hk69,h⟩:=af h
  refine apV 2 [z58] (lI.at (ghr (J60++J41))) (ho47.mono (AB hn68)).toat (DP hk69) (λw hw=>br (i:=1) rfl (by exact⟨A64,c65,rfl,⟨hr66.1,⟨hr66.2.1,(hr66.2.2.mono (iH hn68))⟩⟩⟩) hw) ?_
  intro row70 A71 c72 ho73
  have ho74:=ho73.unat
  refine aV (k:=?_)
  refine Dz ?_
  change WC _ _ _ _ _ _
  refine DA ?_
  refine mV (k:=sV (am rfl rfl rfl (ax hl54 (hlist.mono (hl14.trans hl26)).le)) (k:=aV (k:=?_)))
  exact Dz λw hw=>⟨hl54,(mine_43++[z58]),h,(J60++J41),A71,c72,row70,slK,(hw.on [2,0,1,1]),hn68,ho74,trivial⟩
 have h:=hge52 (ige hb53)
 refine DE ?_
 change WC _ _ _ _ _ _
 refine Dx (sV (b4 (v:=(pq g31)) rfl (bS rfl hz39)) (k:=mV (k:=?_)))
 refine WR.sub (λw hw=>hw.on [1,0,0,0]) ?_
 change WR _ _ _ (CC F Γ25 [_,_,_,_]) _ _ _
 refine WR.join2 λhn75=>?_
 have hr76:=ho47.sl (iH hn75) (i8 hn75)
 have hc77:=ho47.capz
 change WR _ _ _ (CC F Γ25 [_,_,_]) _ _ _
 refine uh (n:=10) (rs:=[.cell 4 44]) (args:=[ii 2,.slice A44 mine_43.length c45]) rfl rfl (caV call11) func11 rfl ntmps11 results11 rfl ?_
 intro R78 hR79
 refine Dx ?_
 refine alV zeroValue44 λg80=>?_
 refine Dw (Dx ?_)
 refine uh (n:=5) (rs:=[.cell 2 32]) (args:=[ii 0]) rfl rfl (caV call8) func8 rfl ntmps8 results8 rfl ?_
 intro R81 hR82
 refine Dx ?_
 refine alV zeroValue32 λg83=>?_
 refine Dw (Dx (mV (k:=sV (aA (v:=.agg #[ii 1,ii 0]) rfl (dJ rfl rfl) (λw=>by kernel_rfl)) (k:=stV 0 (.agg #[ii 1,ii 0]) #[ii 1,ii 0] El (k:=Dw ?_)))))
 refine DB ?_
 refine ri (rs:=[.cell 2 32]) (vs:=[.agg #[ii 1,ii 0]]) hR82 (λw hw=>(dL (i:=0) (us:=[ii 1,ii 0]) hw rfl Em El (by kernel_rfl) rfl dK)) ?_
 change WR _ _ _ _ _ _ (upd _ 5 (.agg #[ii 1,ii 0]))
 refine mV (k:=?_)
 refine uh (n:=5) (rs:=[.cell 2 32]) (args:=[ii 2]) rfl rfl (caV call8) func8 rfl ntmps8 results8 rfl ?_
 intro R84 hR85
 refine Dx ?_
 refine alV zeroValue32 λg86=>?_
 refine Dw (Dx (mV (k:=sV (aA (v:=.agg #[ii 1,ii 2]) rfl (dJ rfl rfl) (λw=>by kernel_rfl)) (k:=stV 0 (.agg #[ii 1,ii 2]) #[ii 1,ii 2] El (k:=Dw ?_)))))
 refine DB ?_
 refine ri (rs:=[.cell 2 32]) (vs:=[.agg #[ii 1,ii 2]]) hR85 (λw hw=>(dL (i:=0) (us:=[ii 1,ii 2]) hw rfl Em El (by kernel_rfl) rfl dK)) ?_
 change WR _ _ _ _ _ _ (upd _ 7 (.agg #[ii 1,ii 2]))
 refine mV (k:=sV (aA (v:=.agg #[ii 1,ii 1,ii 0,ii 1,ii 2,ii 5,ii 0,ii 0,ii 0,.string ByteArray.empty,.slice A44 mine_43.length c45,.slice none 0 0,.slice none 0 0,.slice none 0 0,.slice none 0 0]) rfl (wj rfl rfl rfl rfl rfl) (λw=>by kernel_rfl)) (k:=stV 2 (.agg #[ii 1,ii 1,ii 0,ii 1,ii 2,ii 5,ii 0,ii 0,ii 0,.string ByteArray.empty,.slice A44 mine_43.length c45,.slice none 0 0,.slice none 0 0,.slice none 0 0,.slice none 0 0]) #[ii 1,ii 1,ii 0,ii 1,ii 2,ii 5,ii 0,ii 0,ii 0,.string ByteArray.empty,.slice A44 mine_43.length c45,.slice none 0 0,.slice none 0 0,.slice none 0 0,.slice none 0 0] F8 (k:=Dw ?_)))
 refine DB ?_
 refine ri (rs:=[.cell 4 44]) (vs:=[.agg #[ii 1,ii 1,ii 0,ii 1,ii 2,ii 5,ii 0,ii 0,ii 0,.string ByteArray.empty,.slice A44 mine_43.length c45,.slice none 0 0,.slice none 0 0,.slice none 0 0,.slice none 0 0]]) hR79 (λw hw=>(dL (i:=2) (us:=[ii 1,ii 1,ii 0,ii 1,ii 2,ii 5,ii 0,ii 0,ii 0,.string ByteArray.empty,.slice A44 mine_43.length c45,.slice none 0 0,.slice none 0 0,.slice none 0 0,.slice none 0 0]) hw rfl F9 F8 (by kernel_rfl) rfl dK)) ?_
 change WR _ _ _ _ _ _ (upd _ 46 (.agg #[ii 1,ii 1,ii 0,ii 1,ii 2,ii 5,ii 0,ii 0,ii 0,.string ByteArray.empty,.slice A44 mine_43.length c45,.slice none 0 0,.slice none 0 0,.slice none 0 0,.slice none 0 0]))
 refine WR.sub (λw hw=>hw.on [3,3,3]) ?_
 change WR _ _ _ (CC F Γ25 [_,_,_]) _ _ _
 refine x3 (n:=44) (rs:=[4]) (args:=[(pq g31),.agg #[ii 1,ii 1,ii 0,ii 1,ii 2,ii 5,ii 0,ii 0,ii 0,.string ByteArray.empty,.slice A44 mine_43.length c45,.slice none 0 0,.slice none 0 0,.slice none 0 0,.slice none 0 0]]) rfl rfl (caV call10) func10 rfl ntmps10 results10 rfl ?_
 intro R87 hR88
 refine Dx ?_
 refine bxV (v:=(pq g31)) λg89=>?_
 refine bxV (v:=.agg #[ii 1,ii 1,ii 0,ii 1,ii 2,ii 5,ii 0,ii 0,ii 0,.string ByteArray.empty,.slice A44 mine_43.length c45,.slice none 0 0,.slice none 0 0,.slice none 0 0,.slice none 0 0]) λg90=>?_
 refine aV (k:=Dw (Dy (Dy ?_)))
 obtain⟨g4_91,r4_91,m5_91,r5_91,m6_91,r6_91,hrow_91,ho0_91,ho1_91,ho2_91,ho3_91,ho4_91,ho5_91,-⟩:=id ho40
 intro w hw; have hw:=hw.unfold (i:=4) rfl hrow_91
 let rw92:Rowb:=[(g31,.cells #[ii z38.life,(pq g17),ii z38.self_site,ii z38.self_node,(pq g4_91),.map (some m5_91),.map (some m6_91)] 60 (0,0))]
 let rw93:Rowb:=[(g90,.cells #[ii 1,ii 1,ii 0,ii 1,ii 2,ii 5,ii 0,ii 0,ii 0,.string ByteArray.empty,.slice A44 mine_43.length c45,.slice none 0 0,.slice none 0 0,.slice none 0 0,.slice none 0 0] 44 (0,0))]
 refine DN (C:=CC F Γ25 [_,_,_,_,_,_,_,_]) ?_ hw
 clear hw
 refine drV ?_
 refine zV (ldaV 4 [ii 1,ii 1,ii 0,ii 1,ii 2,ii 5,ii 0,ii 0,ii 0,.string ByteArray.empty,.slice A44 mine_43.length c45,.slice none 0 0,.slice none 0 0,.slice none 0 0,.slice none 0 0] F9 F8) (k:=?_)
 obtain⟨z94,hz95,h⟩:=bnd h
 obtain⟨hk96,h⟩:=af h
 refine wc rfl rfl rfl (zW hk96 (aH (caV call30) (λw hw=>lQ (Γ:=Gh.all w) (Am11:=none) (cm11:=0) (Am12:=none) (cm12:=0) (Am13:=none) (cm13:=0) (Am14:=none) (cm14:=0) (⟨1,(⟨1,0⟩:Adr),(⟨1,2⟩:Adr),5,0,0,0,ByteArray.empty,mine_43,[],[],[],[]⟩:ae) (ae.fits_mono ⟨iV,iV,iV,iV,iV,iV,iV,iV,iV,(show (ByteArray.empty:ByteArray).size≤lim by decide),⟨hc77,hr76⟩,nilV,nilV,nilV,nilV⟩ ((satJ (i:=6) rfl hn75) w hw).le_all) (Sat.all w) hz95))) (zV (xA (nott rfl) bb) (k:=zV moV (k:=wG0 (h:=λhg97=>q_fl 3 jY) (k:=wG0 (h:=λhg98=>ldaV 4 [ii 1,ii 2] Em El (hx:=grV hg98)) (k:=wG0 (h:=λhg99=>ldV 5 Fd) (k:=wG0 (h:=λhg100=>nlV (hv:=grV hg100)) (k:=wG0 (h:=λhg101=>q_fl 2 gH rfl (grV hg101)) (k:=?_))))))))
 refine wG0 (h:=λhg102=>ldaV 0 [ii z38.self_site,ii z38.self_node] Em El (hx:=grV hg102)) (k:=?_)
 obtain⟨hk104,h⟩:=af h
 refine wG0 (h:=λhg103=>xA (ta hk104) (pQ (a:=(⟨1,2⟩:Adr)) (b:=(⟨z38.self_site,z38.self_node⟩:Adr)) rfl (grV hg103) (grV hg103))) (k:=zV (kI (v:=.bool false) rfl rfl (grV (notf rfl))) (k:=zV moV (k:=wG0 (h:=λhg105=>q_fl 1 gL) (k:=wG0 (h:=λhg106=>q_fl 1 ik rfl (grV hg106)) (k:=wG0 (h:=λhg107=>ldV 4 Ez (hx:=grV hg107)) (k:=wG0 (h:=λhg108=>ldV 5 Fd) (k:=wG0 (h:=λhg109=>nlV (hv:=grV hg109)) (k:=?_))))))))
 refine wG0 (h:=λhg110=>q_fl 2 gH rfl (grV hg110)) (k:=wG0 (h:=λhg111=>q_fl 2 ik rfl (grV hg111)) (k:=wG0 (h:=λhg112=>ldV 0 Ez (hx:=grV hg112)) (k:=?_)))
 obtain⟨hk114,h⟩:=af h
 refine wG0 (h:=λhg113=>xA (ta hk114) (bj rfl (grV hg113) (grV hg113))) (k:=zV (kI (v:=.bool false) rfl rfl (grV (notf rfl))) (k:=?_))
 refine DJ ?_
 change WC _ _ _ _ _ _
 refine WC.cfk (b:=false) (by kernel_rfl) rfl ?_
 refine DC (wc_ (Dx ?_))
 refine alV zeroValue38 λg115=>?_
 refine Dw (Dy (Dy ?_))
 refine leV λh0116=>?_
 refine db (CC F Γ25 [[(g115,.cells #[.slice none 0 0] 38 (0,0))],rw92,r4_91,r6_91,rw93,[(g89,.cells #[(pq g31)] 25 (0,0))],(J41++row46)]) (bo_ [0,0,0,1,1,1,1] gR h0116) λk=>?_
 change WH _ _ _ _ (CC F Γ25 [_,_,_,_,_,_,_,_,_]) _ 8 _ _
 refine hV 0 k (q:=ldV 5 Fd) (k:=hV 1 k (q:=nlV) (k:=hV 2 k (q:=q_fl 6 rX) (k:=hV 3 k (q:=ldV 1 isAgg58) (k:=hV 4 k (q:=q_fl 0 mq) (k:=hV 5 k (q:=ldV 4 Ez) (k:=wl_ 6 rfl ?_))))))
 obtain⟨hk117,h⟩:=af h
 obtain⟨v118,hv119,hat120⟩:=MapO.hit ho5_91 .nilFunc (eq_of_beq hk117)
 obtain rfl:v118 = .func (.func 23) #[(pq g31)] #[]:=hv119
 refine sV (hZ (v:=.func (.func 23) #[(pq g31)] #[]) hat120 rfl F7 zeroValue62 rfl rfl (i:=4) rfl) (k:=?_)
 refine Dz (nxV (bo_ [0,0,0,1,1,1,1] gR h0116) λk=>?_)
 refine hV 7 k (q:=ij (v:=.func (.func 23) #[(pq g31)] #[]) rfl (by kernel_rfl)) (k:=?_)
 refine DH (by kernel_rfl) ?_
 change WC _ _ _ _ _ _
 refine Dx (mU (v:=.func (.func 23) #[(pq g31)] #[]) (k:=sV (rL Fg rfl rfl rfl) (k:=Dw ?_)))
 refine WC.ctk (b:=true) (by kernel_rfl) rfl ?_
 refine DA ?_
 refine mU (v:=.func (.func 23) #[(pq g31)] #[]) (k:=sV (ldaV 5 [ii 1,ii 1,ii 0,ii 1,ii 2,ii 5,ii 0,ii 0,ii 0,.string ByteArray.empty,.slice A44 mine_43.length c45,.slice none 0 0,.slice none 0 0,.slice none 0 0,.slice none 0 0] F9 F8) (k:=sV (bQ (v:=.func (.func 31) #[] #[(pq g89),(pq g90),(pq g115)]) rfl (by kernel_rfl)) (k:=?_)))
 refine x3 (n:=53) (rs:=[]) (args:=[(pq g31),.agg #[ii 1,ii 1,ii 0,ii 1,ii 2,ii 5,ii 0,ii 0,ii 0,.string ByteArray.empty,.slice A44 mine_43.length c45,.slice none 0 0,.slice none 0 0,.slice none 0 0,.slice none 0 0],.func (.func 31) #[] #[(pq g89),(pq g90),(pq g115)]]) rfl rfl (bp (first:=#[(pq g31)]) call23 rfl (by kernel_rfl) (by kernel_rfl)) func23 rfl ntmps23 results23 rfl ?_
 intro R121 hR122
 refine Dx ?_
 refine bxV (v:=.agg #[ii 1,ii 1,ii 0,ii 1,ii 2,ii 5,ii 0,ii 0,ii 0,.string ByteArray.empty,.slice A44 mine_43.length c45,.slice none 0 0,.slice none 0 0,.slice none 0 0,.slice none 0 0]) λg123=>?_
 refine Dw (Dy (Dy ?_))
 refine drV ?_
 refine zV (q_fl 7 k7) (k:=zV (ldV 0 Ez) (k:=zV (xA (show (((0:Int) != 0))=false by decide) bj) (k:=zV moV (k:=wg1 (v:=undef) rfl rfl rfl rfl rfl (bB rfl) (wg1 (v:=undef) rfl rfl rfl rfl rfl (bB rfl) (wg1 (v:=undef) rfl rfl rfl rfl rfl (bB rfl) (wg1 (v:=undef) rfl rfl rfl rfl rfl (bB rfl) ?_)))))))
 refine wg1 (v:=undef) rfl rfl rfl rfl rfl (bB rfl) (wg1 (v:=undef) rfl rfl rfl rfl rfl (bB rfl) (wg1 (v:=undef) rfl rfl rfl rfl rfl (bB rfl) (wg1 (v:=undef) rfl rfl rfl rfl rfl (bB rfl) (zV (kI (v:=.bool false) rfl rfl rfl) (k:=?_)))))
 refine DJ ?_
 change WC _ _ _ _ _ _
 refine WC.cfk (b:=false) (by kernel_rfl) rfl ?_
 refine DC (wc_ (Dy (Dy ?_)))
 intro w hw; have h0124:=hw.le
 let rw125:Rowb:=[(g123,.cells #[ii 1,ii 1,ii 0,ii 1,ii 2,ii 5,ii 0,ii 0,ii 0,.string ByteArray.empty,.slice A44 mine_43.length c45,.slice none 0 0,.slice none 0 0,.slice none 0 0,.slice none 0 0] 44 (0,0))]
 refine DN (C:=CC F Γ25 [_,_,_,_,_,_,_,_,_,_]) ?_ hw; clear hw
 refine db (CC F Γ25 [[(g123,.cells #[ii 1,ii 1,ii 0,ii 1,ii 2,ii 5,ii 0,ii 0,ii 0,.string ByteArray.empty,.slice A44 mine_43.length c45,.slice none 0 0,.slice none 0 0,.slice none 0 0,.slice none 0 0] 44 (0,0))],[(g115,.cells #[.slice none 0 0] 38 (0,0))],rw92,r6_91,rw93,[(g89,.cells #[(pq g31)] 25 (0,0))],(J41++row46)]) (bo_ [0,0,0,2,2,2,2] gR h0124) λk=>?_
 change WH _ _ _ _ (CC F Γ25 [_,_,_,_,_,_,_,_,_,_]) _ 8 _ _
 refine hV 0 k (q:=moV) (k:=hV 1 k (q:=nlV) (k:=hV 2 k (q:=q_fl 4 p7) (k:=hV 3 k (q:=ldV 2 isAgg54) (k:=hV 4 k (q:=q_fl 10 fZ) (k:=hV 5 k (q:=ldV 0 Fb) (k:=wl_ 6 rfl ?_))))))
 obtain⟨z126,hz127,h⟩:=bnd h
 refine eu (is:=[3,8]) (Lent.nil F) rfl rfl (caV call42) rfl (λw Θ hp hpB hle hleB hR=>sS ho3_91 (hr76.mono (ze hR hn75 (List.mem_of_getElem? (i:=7) rfl))) hc77 hr30 hp hpB hz127) ?_
 rintro Γ128 _ _ hl129 ⟨row132,row134,rfl,rfl,hr133,hr135,hr136,_⟩
 refine cwV 36 [_,_,_,_,_,_,_,_,_,_] ?_
 refine Dz (nxV (bo_ [2,2,2,3,3,3,3] hl129 h0124) λk=>?_)
 refine hV 7 k (q:=aoV) (k:=?_)
 refine DH (by kernel_rfl) ?_
 change WC _ _ _ _ _ _
 refine Dx (mV (k:=sV bj (k:=Dw ?_)))
 refine ciV h (λhb137 h=>?_) (λhb137 h=>?_)
 ·
  refine Dx (mU (v:=.func (.func 31) #[] #[(pq g89),(pq g90),(pq g115)]) (k:=mV (k:=sV (aA (v:=.agg #[ii 3,ii 0,ii 0,ii 0,ii 0,ii 0,ii 0,ii 0,ii z126.2.2,.string ByteArray.empty,.slice none 0 0,.slice none 0 0,.slice none 0 0,.slice none 0 0,.slice none 0 0]) rfl (dJ rfl rfl) (λw=>by kernel_rfl)) (k:=?_))))
  refine x3 (n:=20) (rs:=[]) (args:=[.agg #[ii 3,ii 0,ii 0,ii 0,ii 0,ii 0,ii 0,ii 0,ii z126.2.2,.string ByteArray.empty,.slice none 0 0,.slice none 0 0,.slice none 0 0,.slice none 0 0,.slice none 0 0],(pq g89),(pq g90),(pq g115)]) rfl rfl (aT (caps:=#[(pq g89),(pq g90),(pq g115)]) call31 rfl (by kernel_rfl) (by kernel_rfl)) func31 rfl ntmps31 results31 rfl ?_
  intro R138 hR139
  refine Dx ?_
  refine bxV (v:=.agg #[ii 3,ii 0,ii 0,ii 0,ii 0,ii 0,ii 0,ii 0,ii z126.2.2,.string ByteArray.empty,.slice none 0 0,.slice none 0 0,.slice none 0 0,.slice none 0 0,.slice none 0 0]) λg140=>?_
  refine Dw (Dy ?_)
  intro w hw; have h0141:=hw.le
  let rw142:Rowb:=[(g140,.cells #[ii 3,ii 0,ii 0,ii 0,ii 0,ii 0,ii 0,ii 0,ii z126.2.2,.string ByteArray.empty,.slice none 0 0,.slice none 0 0,.slice none 0 0,.slice none 0 0,.slice none 0 0] 44 (0,0))]
  refine DN (C:=CC F Γ128 [_,_,_,_,_,_,_,_,_,_,_]) ?_ hw; clear hw
  refine db (CC F Γ128 [rw125,[(g115,.cells #[.slice none 0 0] 38 (0,0))],rw92,rw93,[(g89,.cells #[(pq g31)] 25 (0,0))],(J41++row46)]) (bo_ [3,3,3,5,5,5] gR h0141) λk=>?_
  change WH _ _ _ _ (CC F Γ128 [_,_,_,_,_,_,_,_,_,_,_]) _ 14 _ _
  refine hV 0 k (q:=ldV 4 Fd) (k:=hV 1 k (q:=nlV) (k:=hV 2 k (q:=q_fl 2 gH) (k:=hV 3 k (q:=ldaV 2 [ii z38.self_site,ii z38.self_node] Em El) (k:=hV 4 k (q:=q_fl 1 gL) (k:=hV 5 k (q:=ldaV 3 [ii 1,ii 0] Em El) (k:=hV 6 k (q:=q_fl 5 ki) (k:=hV 7 k (q:=ldV 3 EH) (k:=?_))))))))
  refine hV 8 k (q:=q_fl 1 gL) (k:=wl_ 9 rfl (stV 0 (.agg #[ii z38.self_site,ii z38.self_node]) #[ii 3,ii z38.self_site,ii z38.self_node,ii 0,ii 0,ii 0,ii 0,ii 0,ii z126.2.2,.string ByteArray.empty,.slice none 0 0,.slice none 0 0,.slice none 0 0,.slice none 0 0,.slice none 0 0] El (k:=?_)))
  refine Dz (nxV (bo_ [3,3,3,5,5,5] gR h0141) λk=>?_)
  refine hV 10 k (q:=q_fl 3 jY) (k:=wl_ 11 rfl (stV 0 (.agg #[ii 1,ii 0]) #[ii 3,ii z38.self_site,ii z38.self_node,ii 1,ii 0,ii 0,ii 0,ii 0,ii z126.2.2,.string ByteArray.empty,.slice none 0 0,.slice none 0 0,.slice none 0 0,.slice none 0 0,.slice none 0 0] El (k:=?_)))
  refine Dz (nxV (bo_ [3,3,3,5,5,5] gR h0141) λk=>?_)
  refine hV 12 k (q:=q_fl 5 ki) (k:=wl_ 13 rfl (stV 0 (ii 5) #[ii 3,ii z38.self_site,ii z38.self_node,ii 1,ii 0,ii 5,ii 0,ii 0,ii z126.2.2,.string ByteArray.empty,.slice none 0 0,.slice none 0 0,.slice none 0 0,.slice none 0 0,.slice none 0 0] EG (k:=?_)))
  refine Dz (nxV (bo_ [3,3,3,5,5,5] gR h0141) λk=>?_)
  refine DH (by kernel_rfl) ?_
  change WC _ _ _ _ _ _
  refine DA ?_
  refine sV (ldV 4 isAgg38) (k:=sV (ldaV 0 [ii 3,ii z38.self_site,ii z38.self_node,ii 1,ii 0,ii 5,ii 0,ii 0,ii z126.2.2,.string ByteArray.empty,.slice none 0 0,.slice none 0 0,.slice none 0 0,.slice none 0 0,.slice none 0 0] F9 F8) (k:=?_))
  refine bsV #[ii 3,ii z38.self_site,ii z38.self_node,ii 1,ii 0,ii 5,ii 0,ii 0,ii z126.2.2,.string ByteArray.empty,.slice none 0 0,.slice none 0 0,.slice none 0 0,.slice none 0 0,.slice none 0 0] 44 λg143=>?_
  refine WR.sub (λw hw=>hw.pad) ?_
  refine WR.sub (λw hw=>hw.pad) ?_
  obtain⟨hk144,h⟩:=af h
  refine apV 0 [(⟨3,(⟨z38.self_site,z38.self_node⟩:Adr),(⟨1,0⟩:Adr),5,0,0,z126.2.2,ByteArray.empty,[],[],[],[],[]⟩:ae)] (rc.at (ghr [])) (Own.nil bd (ghr []) 44).toat (DP hk144) (λw hw=>br (i:=2) rfl (by exact⟨none,0,none,0,none,0,none,0,none,0,rfl,⟨iV,ho1_91,ho2_91,iV,iV,iV,iV,iV,hr136,(show (ByteArray.empty:ByteArray).size≤lim by decide),nilV,nilV,nilV,nilV,nilV⟩⟩) hw) ?_
  intro row145 A146 c147 ho148
  have ho149:=ho148.unat
  refine stV 7 (.slice A146 [(⟨3,(⟨z38.self_site,z38.self_node⟩:Adr),(⟨1,0⟩:Adr),5,0,0,z126.2.2,ByteArray.empty,[],[],[],[],[]⟩:ae)].length c147) #[.slice A146 [(⟨3,(⟨z38.self_site,z38.self_node⟩:Adr),(⟨1,0⟩:Adr),5,0,0,z126.2.2,ByteArray.empty,[],[],[],[],[]⟩:ae)].length c147] sizeOf38 (k:=?_)
  refine Dz ?_
  refine q7 hR139 ?_
  change WR _ _ _ _ _ _ (upd _ 42 (.tuple #[]))
  refine WR.sub (λw hw=>hw.on [0,0,2,2,2,2,2,2,2,2,2,2]) ?_
  let rw150:Rowb:=[(g115,.cells #[.slice A146 [(⟨3,(⟨z38.self_site,z38.self_node⟩:Adr),(⟨1,0⟩:Adr),5,0,0,z126.2.2,ByteArray.empty,[],[],[],[],[]⟩:ae)].length c147] 38 (0,0))]
  change WR _ _ _ (CC F Γ128 [_,_,_,_,_,_,_,_,_,_,_,_]) _ _ _
  refine Dw ?_
  refine DB ?_
  refine q7 hR122 ?_
  change WR _ _ _ _ _ _ (upd _ 42 (.tuple #[]))
  refine Dz ?_
  change WC _ _ _ _ _ _
  refine Dx (sV (ldV 5 isAgg38) (k:=aV (k:=Dw ?_)))
  refine DB ?_
  refine q7 hR88 ?_
  change WR _ _ _ _ _ _ (upd _ 47 (.slice A146 [(⟨3,(⟨z38.self_site,z38.self_node⟩:Adr),(⟨1,0⟩:Adr),5,0,0,z126.2.2,ByteArray.empty,[],[],[],[],[]⟩:ae)].length c147))
  refine WR.sub (λw hw=>hw.on [0,0,0,0,2,2,2,4]) ?_
  change WR _ _ _ (CC F Γ128 [_,_,_,_,_,_,_,_]) _ _ _
  refine aV (k:=Dw (Dx (sV (b4 (v:=(pq g31)) rfl (bS rfl hz39)) (k:=?_))))
  obtain⟨row_151,hrow_151,hob_151⟩:∃rw:Rowb,rw=([rw92,row132,r5_91,r6_91]:List Rowb).flatten∧aa.ob (60,g17) Γ128 g31 rw (⟨z38.life,z38.self_site,z38.self_node,z126.1,z38.hints,z38.does⟩:aa):=⟨_,rfl,g4_91,row132,m5_91,r5_91,m6_91,r6_91,rfl,ho0_91,ho1_91,ho2_91,hr133,(ho4_91.mono hl129),(ho5_91.mono hl129),trivial⟩
  refine foR [4,2,3,3] hrow_151 [_,_,_,_,_] ?_
  obtain⟨z152,hz153,h⟩:=bnd h
  refine kH (is:=[0]) (Lent.nil F) rfl rfl (caV call12) rfl (λw Θ hp hpB hle hleB hR=>cq (hob_151.mono hle) (-1) iV hp hpB hz153) ?_
  rintro J154 U156 v157 hn155 ⟨A158,c159,row160,rfl,rfl,hr161,_⟩
  refine WR.sub (λw hw=>hw.on [0,1,0,0,0,0,0]) ?_
  change WR _ _ _ (CC F Γ128 [_,_,_,_,_,_,_]) _ _ _
  refine WR.join2 λhn162=>?_
  have hr163:=hr161.sl (iH hn162) (i8 hn162)
  have hc164:=hr161.capz
  refine cwV 49 [_,_,_,_,_,_] (aV (k:=Dw (Dy (Dx (mV (k:=sV (ab rfl Fh) (k:=sV bj (k:=?_))))))))
  refine mV (k:=vG0 (h:=λhg165=>moV) (k:=vG0 (h:=λhg166=>moV) (k:=?_)))
  obtain⟨z168,hz169,h⟩:=bnd h
  refine vC0 (h:=λhg167=>aH (aC call13 rfl rfl (dX (grV hg167) (grV hg167))) (λw hw=>dB (Γ:=Gh.all w) (hr76.mono ((satJ (i:=5) rfl hn75) w hw).le_all) hc77 ((hlist.mono ((hl14.trans hl26).trans hl129)).mono hw.sat.le_all) hlistc (Sat.all w) (bU hz169 hg167))) (k:=vG0 (h:=λhg170=>bb rfl (grV hg170)) (k:=sV pkO (k:=Dw ?_)))
  refine ciV h (λhb171 h=>?_) (λhb171 h=>?_)
  ·
   refine Dx (aV (k:=Dw ?_))
   exact DB λw hw=>rq_ r h hF hw
  refine DC (wc_ (Dx (mV (k:=?_))))
  obtain⟨z172,hz173,h⟩:=bnd h
  refine ecV [5] (caV call14) (λw hp=>cD hn75 hr76 hc77 hp hz173) ?_
  rintro Γ174 _ _ hl175 ⟨J178,rfl,rfl,_⟩
  refine cwV 60 [_,_,_,_,_,_] (Dw (Dx (mV (k:=?_))))
  obtain⟨hk179,h⟩:=af h
  refine sV (ar (i:=0) Fh F8 rfl rfl rfl (DP hk179) (ho149.some_ (DP hk179))) (k:=sV (ah (0*15+10) fZ rfl rfl (ho149.some_ (DP hk179)) rfl) (k:=?_))
  obtain⟨A180,c181,A182,c183,A184,c185,A186,c187,A188,c189,hx190⟩:=ho149.dapi_MsgT_at 0
  refine sV (nR (c:=10) (v:=.slice A180 ((gt [(⟨3,(⟨z38.self_site,z38.self_node⟩:Adr),(⟨1,0⟩:Adr),5,0,0,z126.2.2,ByteArray.empty,[],[],[],[],[]⟩:ae)] 0).recs).length c181) (i:=3) rfl (hx190 (DP hk179)).2 rfl Fb rfl rfl) (k:=?_)
  obtain⟨z191,hz192,h⟩:=bnd h
  refine ecV [4] (caV call14) (λw hp=>cD (show (([]:Rowb).map (·.1)).Nodup from List.nodup_nil) (hx190 (DP hk179)).1.2.2.2.2.2.2.2.2.2.2.1.2 (hx190 (DP hk179)).1.2.2.2.2.2.2.2.2.2.2.1.1 hp hz192) ?_
  rintro Γ193 _ _ hl194 ⟨J197,rfl,rfl,_⟩
  refine cwV 65 [_,_,_,_,_,_] (Dw (Dx (sV (b4 (v:=(pq g31)) rfl (bS rfl hz39)) (k:=?_))))
  obtain⟨z198,hz199,h⟩:=bnd h
  refine kH (is:=[3]) (Lent.nil F) rfl rfl (caV call12) rfl (λw Θ hp hpB hle hleB hR=>cq ((hob_151.mono (hl175.trans hl194)).mono hle) (-1) iV hp hpB hz199) ?_
  rintro J200 U202 v203 hn201 ⟨A204,c205,row206,rfl,rfl,hr207,_⟩
  refine WR.sub (λw hw=>hw.on [0,1,0,0,0,0,0,0]) ?_
  change WR _ _ _ (CC F Γ193 [_,_,_,_,_,_,_,_]) _ _ _
  refine WR.join2 λhn208=>?_
  have hr209:=hr207.sl (iH hn208) (i8 hn208)
  have hc210:=hr207.capz
  refine cwV 67 [_,_,_,_,_,_,_] (aV (k:=Dw (Dx (mV (k:=?_)))))
  obtain⟨z211,hz212,h⟩:=bnd h
  refine ecV [0] (caV call14) (λw hp=>cD hn208 hr209 hc210 hp hz212) ?_
  rintro Γ213 _ _ hl214 ⟨J217,rfl,rfl,_⟩
  refine cwV 69 [_,_,_,_,_,_,_] (Dw (Dx (sV (b4 (v:=(pq g31)) rfl (bS rfl hz39)) (k:=?_))))
  obtain⟨z218,hz219,h⟩:=bnd h
  refine kH (is:=[1]) (Lent.nil F) rfl rfl (caV call12) rfl (λw Θ hp hpB hle hleB hR=>cq ((hob_151.mono ((hl175.trans hl194).trans hl214)).mono hle) (-1) iV hp hpB hz219) ?_
  rintro J220 U222 v223 hn221 ⟨A224,c225,row226,rfl,rfl,hr227,_⟩
  refine WR.sub (λw hw=>hw.on [0,1,0,0,0,0,0,0,0]) ?_
  change WR _ _ _ (CC F Γ213 [_,_,_,_,_,_,_,_,_]) _ _ _
  refine WR.join2 λhn228=>?_
  have hr229:=hr227.sl (iH hn228) (i8 hn228)
  have hc230:=hr227.capz
  refine cwV 71 [_,_,_,_,_,_,_,_] (mV (k:=?_))
  obtain⟨z231,hz232,h⟩:=bnd h
  refine vqV (caV call13) (λw hw=>dB (Γ:=Gh.all w) (hr229.mono ((satJ (i:=0) rfl hn228) w hw).le_all) hc230 (hr163.mono ((satJ (i:=5) rfl hn162) w hw).le_all) hc164 (Sat.all w) hz232) (k:=aV (k:=Dw ?_))
  exact DB λw hw=>rq_ r h hF hw
 refine DC (wc_ ?_)
 obtain⟨row_233,hrow_233,hob_233⟩:∃rw:Rowb,rw=([rw92,row132,r5_91,r6_91]:List Rowb).flatten∧aa.ob (60,g17) Γ128 g31 rw (⟨z38.life,z38.self_site,z38.self_node,z126.1,z38.hints,z38.does⟩:aa):=⟨_,rfl,g4_91,row132,m5_91,r5_91,m6_91,r6_91,rfl,ho0_91,ho1_91,ho2_91,hr133,(ho4_91.mono hl129),(ho5_91.mono hl129),trivial⟩
 refine foC [4,0,3,3] hrow_233 [_,_,_,_,_,_,_] ?_
 obtain⟨g4_234,r4_234,m5_234,r5_234,m6_234,r6_234,hrow_234,ho0_234,ho1_234,ho2_234,ho3_234,ho4_234,ho5_234,-⟩:=id hob_233
 intro w hw; have hw:=hw.unfold (i:=0) rfl hrow_234
 let rw235:Rowb:=[(g31,.cells #[ii (⟨z38.life,z38.self_site,z38.self_node,z126.1,z38.hints,z38.does⟩:aa).life,(pq g17),ii (⟨z38.life,z38.self_site,z38.self_node,z126.1,z38.hints,z38.does⟩:aa).self_site,ii (⟨z38.life,z38.self_site,z38.self_node,z126.1,z38.hints,z38.does⟩:aa).self_node,(pq g4_234),.map (some m5_234),.map (some m6_234)] 60 (0,0))]
 refine DN (C:=CC F Γ128 [_,_,_,_,_,_,_,_,_,_]) ?_ hw
 clear hw
 refine leV λh0236=>?_
 refine db (CC F Γ128 [rw235,r4_234,r6_234,rw125,(J41++row46)]) (bo_ [0,0,1,2,5] gR h0236) λk=>?_
 change WH _ _ _ _ (CC F Γ128 [_,_,_,_,_,_,_,_,_,_]) _ 10 _ _
 refine hV 0 k (q:=b4 (v:=.func (.func 31) #[] #[(pq g89),(pq g90),(pq g115)]) rfl (by kernel_rfl)) (k:=hV 1 k (q:=moV) (k:=hV 2 k (q:=nlV) (k:=hV 3 k (q:=q_fl 0 vn) (k:=hV 4 k (q:=ldV 0 EH) (k:=hV 5 k (q:=q_fl 10 fZ) (k:=hV 6 k (q:=ldV 3 Fb) (k:=wl_ 7 rfl ?_)))))))
 obtain⟨z237,hz238,h⟩:=bnd h
 refine kH (is:=[]) (Lent.nil F) rfl rfl (caV call43) rfl (λw Θ hp hpB hle hleB hR=>sT (hr76.mono (ze hR hn75 (List.mem_of_getElem? (i:=9) rfl))) hc77 hp hpB hz238) ?_
 rintro J239 U241 v242 hn240 ⟨A243,c244,row245,rfl,rfl,hr246,_⟩
 refine WR.join2 λhn247=>?_
 have hr248:=hr246.sl (iH hn247) (i8 hn247)
 have hc249:=hr246.capz
 refine cwV 50 [_,_,_,_,_,_,_,_,_,_,_] ?_
 refine Dz (nxV (bo_ [1,1,2,3,6] gR h0236) λk=>?_)
 refine hV 8 k (q:=aA (v:=.agg #[ii 2,ii 0,ii 0,ii 0,ii 0,ii 0,ii (⟨z38.life,z38.self_site,z38.self_node,z126.1,z38.hints,z38.does⟩:aa).life,ii 0,ii 0,.string ByteArray.empty,.slice A243 z237.length c244,.slice none 0 0,.slice none 0 0,.slice none 0 0,.slice none 0 0]) rfl (so rfl rfl rfl) (λw=>by kernel_rfl)) (k:=wl_ 9 rfl ?_)
 refine x3 (n:=20) (rs:=[]) (args:=[.agg #[ii 2,ii 0,ii 0,ii 0,ii 0,ii 0,ii (⟨z38.life,z38.self_site,z38.self_node,z126.1,z38.hints,z38.does⟩:aa).life,ii 0,ii 0,.string ByteArray.empty,.slice A243 z237.length c244,.slice none 0 0,.slice none 0 0,.slice none 0 0,.slice none 0 0],(pq g89),(pq g90),(pq g115)]) rfl rfl (aT (caps:=#[(pq g89),(pq g90),(pq g115)]) call31 rfl (by kernel_rfl) (by kernel_rfl)) func31 rfl ntmps31 results31 rfl ?_
 intro R250 hR251
 refine Dx ?_
 refine bxV (v:=.agg #[ii 2,ii 0,ii 0,ii 0,ii 0,ii 0,ii (⟨z38.life,z38.self_site,z38.self_node,z126.1,z38.hints,z38.does⟩:aa).life,ii 0,ii 0,.string ByteArray.empty,.slice A243 z237.length c244,.slice none 0 0,.slice none 0 0,.slice none 0 0,.slice none 0 0]) λg252=>?_
 refine Dw (Dy ?_)
 intro w hw; have h0253:=hw.le
 let rw254:Rowb:=[(g252,.cells #[ii 2,ii 0,ii 0,ii 0,ii 0,ii 0,ii (⟨z38.life,z38.self_site,z38.self_node,z126.1,z38.hints,z38.does⟩:aa).life,ii 0,ii 0,.string ByteArray.empty,.slice A243 z237.length c244,.slice none 0 0,.slice none 0 0,.slice none 0 0,.slice none 0 0] 44 (0,0))]
 refine DN (C:=CC F Γ128 [_,_,_,_,_,_,_,_,_,_,_,_]) ?_ hw; clear hw
 refine db (CC F Γ128 [(J239++row245),rw235,r4_234,r6_234,rw125,[(g115,.cells #[.slice none 0 0] 38 (0,0))],rw93,[(g89,.cells #[(pq g31)] 25 (0,0))],(J41++row46)]) (bo_ [1,1,1,2,3,3,3,3,3] gR h0253) λk=>?_
 change WH _ _ _ _ (CC F Γ128 [_,_,_,_,_,_,_,_,_,_,_,_]) _ 14 _ _
 refine hV 0 k (q:=ldV 7 Fd) (k:=hV 1 k (q:=nlV) (k:=hV 2 k (q:=q_fl 2 gH) (k:=hV 3 k (q:=ldaV 1 [ii (⟨z38.life,z38.self_site,z38.self_node,z126.1,z38.hints,z38.does⟩:aa).self_site,ii (⟨z38.life,z38.self_site,z38.self_node,z126.1,z38.hints,z38.does⟩:aa).self_node] Em El) (k:=hV 4 k (q:=q_fl 1 gL) (k:=hV 5 k (q:=ldaV 6 [ii 1,ii 0] Em El) (k:=hV 6 k (q:=q_fl 5 ki) (k:=hV 7 k (q:=ldV 6 EH) (k:=?_))))))))
 refine hV 8 k (q:=q_fl 1 gL) (k:=wl_ 9 rfl (stV 0 (.agg #[ii (⟨z38.life,z38.self_site,z38.self_node,z126.1,z38.hints,z38.does⟩:aa).self_site,ii (⟨z38.life,z38.self_site,z38.self_node,z126.1,z38.hints,z38.does⟩:aa).self_node]) #[ii 2,ii (⟨z38.life,z38.self_site,z38.self_node,z126.1,z38.hints,z38.does⟩:aa).self_site,ii (⟨z38.life,z38.self_site,z38.self_node,z126.1,z38.hints,z38.does⟩:aa).self_node,ii 0,ii 0,ii 0,ii (⟨z38.life,z38.self_site,z38.self_node,z126.1,z38.hints,z38.does⟩:aa).life,ii 0,ii 0,.string ByteArray.empty,.slice A243 z237.length c244,.slice none 0 0,.slice none 0 0,.slice none 0 0,.slice none 0 0] El (k:=?_)))
 refine Dz (nxV (bo_ [1,1,1,2,3,3,3,3,3] gR h0253) λk=>?_)
 refine hV 10 k (q:=q_fl 3 jY) (k:=wl_ 11 rfl (stV 0 (.agg #[ii 1,ii 0]) #[ii 2,ii (⟨z38.life,z38.self_site,z38.self_node,z126.1,z38.hints,z38.does⟩:aa).self_site,ii (⟨z38.life,z38.self_site,z38.self_node,z126.1,z38.hints,z38.does⟩:aa).self_node,ii 1,ii 0,ii 0,ii (⟨z38.life,z38.self_site,z38.self_node,z126.1,z38.hints,z38.does⟩:aa).life,ii 0,ii 0,.string ByteArray.empty,.slice A243 z237.length c244,.slice none 0 0,.slice none 0 0,.slice none 0 0,.slice none 0 0] El (k:=?_)))
 refine Dz (nxV (bo_ [1,1,1,2,3,3,3,3,3] gR h0253) λk=>?_)
 refine hV 12 k (q:=q_fl 5 ki) (k:=wl_ 13 rfl (stV 0 (ii 5) #[ii 2,ii (⟨z38.life,z38.self_site,z38.self_node,z126.1,z38.hints,z38.does⟩:aa).self_site,ii (⟨z38.life,z38.self_site,z38.self_node,z126.1,z38.hints,z38.does⟩:aa).self_node,ii 1,ii 0,ii 5,ii (⟨z38.life,z38.self_site,z38.self_node,z126.1,z38.hints,z38.does⟩:aa).life,ii 0,ii 0,.string ByteArray.empty,.slice A243 z237.length c244,.slice none 0 0,.slice none 0 0,.slice none 0 0,.slice none 0 0] EG (k:=?_)))
 refine Dz (nxV (bo_ [1,1,1,2,3,3,3,3,3] gR h0253) λk=>?_)
 refine DH (by kernel_rfl) ?_
 change WC _ _ _ _ _ _
 refine DA ?_
 refine sV (ldV 8 isAgg38) (k:=sV (ldaV 0 [ii 2,ii (⟨z38.life,z38.self_site,z38.self_node,z126.1,z38.hints,z38.does⟩:aa).self_site,ii (⟨z38.life,z38.self_site,z38.self_node,z126.1,z38.hints,z38.does⟩:aa).self_node,ii 1,ii 0,ii 5,ii (⟨z38.life,z38.self_site,z38.self_node,z126.1,z38.hints,z38.does⟩:aa).life,ii 0,ii 0,.string ByteArray.empty,.slice A243 z237.length c244,.slice none 0 0,.slice none 0 0,.slice none 0 0,.slice none 0 0] F9 F8) (k:=?_))
 refine bsV #[ii 2,ii (⟨z38.life,z38.self_site,z38.self_node,z126.1,z38.hints,z38.does⟩:aa).self_site,ii (⟨z38.life,z38.self_site,z38.self_node,z126.1,z38.hints,z38.does⟩:aa).self_node,ii 1,ii 0,ii 5,ii (⟨z38.life,z38.self_site,z38.self_node,z126.1,z38.hints,z38.does⟩:aa).life,ii 0,ii 0,.string ByteArray.empty,.slice A243 z237.length c244,.slice none 0 0,.slice none 0 0,.slice none 0 0,.slice none 0 0] 44 λg255=>?_
 refine WR.sub (λw hw=>hw.pad) ?_
 obtain⟨hk256,h⟩:=af h
 refine apV 0 [(⟨2,(⟨(⟨z38.life,z38.self_site,z38.self_node,z126.1,z38.hints,z38.does⟩:aa).self_site,(⟨z38.life,z38.self_site,z38.self_node,z126.1,z38.hints,z38.does⟩:aa).self_node⟩:Adr),(⟨1,0⟩:Adr),5,(⟨z38.life,z38.self_site,z38.self_node,z126.1,z38.hints,z38.does⟩:aa).life,0,0,ByteArray.empty,z237,[],[],[],[]⟩:ae)] (rc.at (ghr (J239++row245))) (Own.nil bd (ghr (J239++row245)) 44).toat (DP hk256) (λw hw=>br (i:=1) rfl (by exact⟨A243,c244,none,0,none,0,none,0,none,0,rfl,⟨iV,ho1_234,ho2_234,iV,iV,iV,ho0_234,iV,iV,(show (ByteArray.empty:ByteArray).size≤lim by decide),⟨hc249,hr248⟩,nilV,nilV,nilV,nilV⟩⟩) hw) ?_
 intro row257 A258 c259 ho260
 have ho261:=ho260.unat
 refine stV 10 (.slice A258 [(⟨2,(⟨(⟨z38.life,z38.self_site,z38.self_node,z126.1,z38.hints,z38.does⟩:aa).self_site,(⟨z38.life,z38.self_site,z38.self_node,z126.1,z38.hints,z38.does⟩:aa).self_node⟩:Adr),(⟨1,0⟩:Adr),5,(⟨z38.life,z38.self_site,z38.self_node,z126.1,z38.hints,z38.does⟩:aa).life,0,0,ByteArray.empty,z237,[],[],[],[]⟩:ae)].length c259) #[.slice A258 [(⟨2,(⟨(⟨z38.life,z38.self_site,z38.self_node,z126.1,z38.hints,z38.does⟩:aa).self_site,(⟨z38.life,z38.self_site,z38.self_node,z126.1,z38.hints,z38.does⟩:aa).self_node⟩:Adr),(⟨1,0⟩:Adr),5,(⟨z38.life,z38.self_site,z38.self_node,z126.1,z38.hints,z38.does⟩:aa).life,0,0,ByteArray.empty,z237,[],[],[],[]⟩:ae)].length c259] sizeOf38 (k:=?_)
 refine Dz ?_
 refine q7 hR251 ?_
 change WR _ _ _ _ _ _ (upd _ 52 (.tuple #[]))
 refine WR.sub (λw hw=>hw.on [0,2,2,2,2,2,2,2,2,2,2,2]) ?_
 let rw262:Rowb:=[(g115,.cells #[.slice A258 [(⟨2,(⟨(⟨z38.life,z38.self_site,z38.self_node,z126.1,z38.hints,z38.does⟩:aa).self_site,(⟨z38.life,z38.self_site,z38.self_node,z126.1,z38.hints,z38.does⟩:aa).self_node⟩:Adr),(⟨1,0⟩:Adr),5,(⟨z38.life,z38.self_site,z38.self_node,z126.1,z38.hints,z38.does⟩:aa).life,0,0,ByteArray.empty,z237,[],[],[],[]⟩:ae)].length c259] 38 (0,0))]
 change WR _ _ _ (CC F Γ128 [_,_,_,_,_,_,_,_,_,_,_,_]) _ _ _
 refine Dz (nxV (bo_ [2,2,3,4,7] gR h0236) λk=>?_)
 refine DH (by kernel_rfl) ?_
 refine q7 hR122 ?_
 change WR _ _ _ _ _ _ (upd _ 42 (.tuple #[]))
 refine Dz ?_
 change WC _ _ _ _ _ _
 refine Dx (sV (ldV 8 isAgg38) (k:=aV (k:=Dw ?_)))
 refine DB ?_
 refine q7 hR88 ?_
 change WR _ _ _ _ _ _ (upd _ 47 (.slice A258 [(⟨2,(⟨(⟨z38.life,z38.self_site,z38.self_node,z126.1,z38.hints,z38.does⟩:aa).self_site,(⟨z38.life,z38.self_site,z38.self_node,z126.1,z38.hints,z38.does⟩:aa).self_node⟩:Adr),(⟨1,0⟩:Adr),5,(⟨z38.life,z38.self_site,z38.self_node,z126.1,z38.hints,z38.does⟩:aa).life,0,0,ByteArray.empty,z237,[],[],[],[]⟩:ae)].length c259))
 refine WR.sub (λw hw=>hw.on [0,0,0,0,0,0,0,4]) ?_
 change WR _ _ _ (CC F Γ128 [_,_,_,_,_,_,_,_]) _ _ _
 refine aV (k:=Dw (Dx (sV (b4 (v:=(pq g31)) rfl (bS rfl hz39)) (k:=?_))))
 refine foR [2,2,2,2] hrow_234 [_,_,_,_,_] ?_
 obtain⟨z264,hz265,h⟩:=bnd h
 refine kH (is:=[0]) (Lent.nil F) rfl rfl (caV call12) rfl (λw Θ hp hpB hle hleB hR=>cq (hob_233.mono hle) (-1) iV hp hpB hz265) ?_
 rintro J266 U268 v269 hn267 ⟨A270,c271,row272,rfl,rfl,hr273,_⟩
 refine WR.sub (λw hw=>hw.on [0,1,0,0,0,0,0]) ?_
 change WR _ _ _ (CC F Γ128 [_,_,_,_,_,_,_]) _ _ _
 refine WR.join2 λhn274=>?_
 have hr275:=hr273.sl (iH hn274) (i8 hn274)
 have hc276:=hr273.capz
 refine cwV 49 [_,_,_,_,_,_] (aV (k:=Dw (Dy (Dx (mV (k:=sV (ab rfl Fh) (k:=sV bj (k:=?_))))))))
 refine mV (k:=vG0 (h:=λhg277=>moV) (k:=vG0 (h:=λhg278=>moV) (k:=?_)))
 obtain⟨z280,hz281,h⟩:=bnd h
 refine vC0 (h:=λhg279=>aH (aC call13 rfl rfl (dX (grV hg279) (grV hg279))) (λw hw=>dB (Γ:=Gh.all w) (hr76.mono ((satJ (i:=5) rfl hn75) w hw).le_all) hc77 ((hlist.mono ((hl14.trans hl26).trans hl129)).mono hw.sat.le_all) hlistc (Sat.all w) (bU hz281 hg279))) (k:=vG0 (h:=λhg282=>bb rfl (grV hg282)) (k:=sV pkO (k:=Dw ?_)))
 refine ciV h (λhb283 h=>?_) (λhb283 h=>?_)
 ·
  refine Dx (aV (k:=Dw ?_))
  exact DB λw hw=>rq_ r h hF hw
 refine DC (wc_ (Dx (mV (k:=?_))))
 obtain⟨z284,hz285,h⟩:=bnd h
 refine ecV [5] (caV call14) (λw hp=>cD hn75 hr76 hc77 hp hz285) ?_
 rintro Γ286 _ _ hl287 ⟨J290,rfl,rfl,_⟩
 refine cwV 60 [_,_,_,_,_,_] (Dw (Dx (mV (k:=?_))))
 obtain⟨hk291,h⟩:=af h
 refine sV (ar (i:=0) Fh F8 rfl rfl rfl (DP hk291) (ho261.some_ (DP hk291))) (k:=sV (ah (0*15+10) fZ rfl rfl (ho261.some_ (DP hk291)) rfl) (k:=?_))
 obtain⟨A292,c293,A294,c295,A296,c297,A298,c299,A300,c301,hx302⟩:=ho261.dapi_MsgT_at 0
 refine sV (nR (c:=10) (v:=.slice A292 ((gt [(⟨2,(⟨(⟨z38.life,z38.self_site,z38.self_node,z126.1,z38.hints,z38.does⟩:aa).self_site,(⟨z38.life,z38.self_site,z38.self_node,z126.1,z38.hints,z38.does⟩:aa).self_node⟩:Adr),(⟨1,0⟩:Adr),5,(⟨z38.life,z38.self_site,z38.self_node,z126.1,z38.hints,z38.does⟩:aa).life,0,0,ByteArray.empty,z237,[],[],[],[]⟩:ae)] 0).recs).length c293) (i:=3) rfl (hx302 (DP hk291)).2 rfl Fb rfl rfl) (k:=?_)
 obtain⟨z303,hz304,h⟩:=bnd h
 refine ecV [4] (caV call14) (λw hp=>cD hn247 (hx302 (DP hk291)).1.2.2.2.2.2.2.2.2.2.2.1.2 (hx302 (DP hk291)).1.2.2.2.2.2.2.2.2.2.2.1.1 hp hz304) ?_
 rintro Γ305 _ _ hl306 ⟨J309,rfl,rfl,_⟩
 refine cwV 65 [_,_,_,_,_,_] (Dw (Dx (sV (b4 (v:=(pq g31)) rfl (bS rfl hz39)) (k:=?_))))
 obtain⟨z310,hz311,h⟩:=bnd h
 refine kH (is:=[3]) (Lent.nil F) rfl rfl (caV call12) rfl (λw Θ hp hpB hle hleB hR=>cq ((hob_233.mono (hl287.trans hl306)).mono hle) (-1) iV hp hpB hz311) ?_
 rintro J312 U314 v315 hn313 ⟨A316,c317,row318,rfl,rfl,hr319,_⟩
 refine WR.sub (λw hw=>hw.on [0,1,0,0,0,0,0,0]) ?_
 change WR _ _ _ (CC F Γ305 [_,_,_,_,_,_,_,_]) _ _ _
 refine WR.join2 λhn320=>?_
 have hr321:=hr319.sl (iH hn320) (i8 hn320)
 have hc322:=hr319.capz
 refine cwV 67 [_,_,_,_,_,_,_] (aV (k:=Dw (Dx (mV (k:=?_)))))
 obtain⟨z323,hz324,h⟩:=bnd h
 refine ecV [0] (caV call14) (λw hp=>cD hn320 hr321 hc322 hp hz324) ?_
 rintro Γ325 _ _ hl326 ⟨J329,rfl,rfl,_⟩
 refine cwV 69 [_,_,_,_,_,_,_] (Dw (Dx (sV (b4 (v:=(pq g31)) rfl (bS rfl hz39)) (k:=?_))))
 obtain⟨z330,hz331,h⟩:=bnd h
 refine kH (is:=[1]) (Lent.nil F) rfl rfl (caV call12) rfl (λw Θ hp hpB hle hleB hR=>cq ((hob_233.mono ((hl287.trans hl306).trans hl326)).mono hle) (-1) iV hp hpB hz331) ?_
 rintro J332 U334 v335 hn333 ⟨A336,c337,row338,rfl,rfl,hr339,_⟩
 refine WR.sub (λw hw=>hw.on [0,1,0,0,0,0,0,0,0]) ?_
 change WR _ _ _ (CC F Γ325 [_,_,_,_,_,_,_,_,_]) _ _ _
 refine WR.join2 λhn340=>?_
 have hr341:=hr339.sl (iH hn340) (i8 hn340)
 have hc342:=hr339.capz
 refine cwV 71 [_,_,_,_,_,_,_,_] (mV (k:=?_))
 obtain⟨z343,hz344,h⟩:=bnd h
 refine vqV (caV call13) (λw hw=>dB (Γ:=Gh.all w) (hr341.mono ((satJ (i:=0) rfl hn340) w hw).le_all) hc342 (hr275.mono ((satJ (i:=5) rfl hn274) w hw).le_all) hc276 (Sat.all w) hz344) (k:=aV (k:=Dw ?_))
 exact DB λw hw=>rq_ r h hF hw
end Fw
end Go.Proofs.YtgaplodcdhhefaaGreat
