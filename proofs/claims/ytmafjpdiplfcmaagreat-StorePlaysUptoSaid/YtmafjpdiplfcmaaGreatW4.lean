/- Walks through the functions that the law reaches (printed by a program). No condition. -/
import Derived.Test.YtmafjpdiplfcmaaGreatW3
namespace Go.Proofs.YtmafjpdiplfcmaaGreat
namespace Fw
set_option linter.unusedVariables false
set_option linter.unusedSimpArgs false
set_option linter.unusedSectionVars false
set_option maxRecDepth 100000
set_option maxHeartbeats 400000
open Go.RowKit
open Go.Proofs.Tryz
variable {Γ:Gh} {w0:World}
abbrev pm(gl:Nat)(el:Nat×Nat)(edk0:Nat)(r:af×a7×Int)(U:List Rowb)(Γ:Gh)(v:Value):Prop := ∃(rowl':Rowb), ∃(rowdk0':Rowb),v = .int .i64 r.2.2∧U = [rowl',rowdk0']∧af.ob el Γ gl rowl' r.1∧a7.ob edk0 Γ el.2 rowdk0' r.2.1∧I64 r.2.2∧True
theorem la{gl:Nat}{el:Nat×Nat}{rowl:Rowb}{l:af}(hl:af.ob el Γ gl rowl l){Ab:Option Addr}{cb:Nat}{b:List UInt8}(hb:Sl av Γ Ab b)(hbc:b.length≤cb){edk0:Nat}{rowdk0:Rowb}{dk0:a7}(hdk0:a7.ob edk0 Γ el.2 rowdk0 dk0)(hp:Pre [rowl,rowdk0] Γ w0){r:af×a7×Int}(h:dH l b dk0=some r):Calls Tryz.prog 43 #[(pq gl),.slice Ab b.length cb] w0 (Outc Γ [rowl,rowdk0] w0 (pm gl el edk0 r)):=by
 refine goV [4] func43 ntmps43 results43 hp λF hF=>?_
 refine I4 (aV (k:=I3 (I5 (I4 (mV (k:=sV (ag rfl IZ) (k:=sV bi (k:=?_))))))))
 refine I3 ?_
 refine ciV h (λhb1 h=>?_) (λhb1 h=>?_)
 ·
  refine I4 (aV (k:=I3 ?_))
  exact I8 λw hw=>re_ r [0,0] h hF hw ⟨rowl,rowdk0,rfl,rfl,hl,hdk0,iV,trivial⟩
 refine I7 (wc_ (I4 (mV (k:=?_))))
 obtain⟨z2,hz3,h⟩:=bnd h
 refine ecV [] (caV call92) (λw hp=>mh hb hbc hp hz3) ?_
 rintro Γ4 _ _ hl5 ⟨A8,c9,row10,rfl,rfl,hr11,_⟩
 refine cwV 13 [_,_,_] (aV (k:=I3 (I4 (mV (k:=sV nlV (k:=sV (q_fl 4 ft) (k:=?_)))))))
 obtain⟨A4_12,c4_12,r4_12,hrow_12,ho0_12,ho1_12,ho2_12,ho3_12,ho4_12,-⟩:=(hl.mono hl5)
 refine ufR 1 hrow_12 [_,_,_,_] ?_
 refine sV (ldV 0 JU) (k:=sV (ag rfl JV) (k:=aV (k:=I3 (I5 ?_))))
 refine drV ?_
 refine zV moV (k:=zV bp (k:=zV moV (k:=wG0 (h:=λhg13=>moV) (k:=wG0 (h:=λhg14=>nlV (hv:=grV hg14)) (k:=wG0 (h:=λhg15=>q_fl 4 ft rfl (grV hg15)) (k:=wG0 (h:=λhg16=>ldV 0 JU (hx:=grV hg16)) (k:=wG0 (h:=λhg17=>moV) (k:=?_))))))))
 refine wG0 (h:=λhg18=>fO rfl (grV hg18)) (k:=?_)
 obtain⟨hk20,h⟩:=am h
 refine wG0 (h:=λhg19=>q_ix JV Jb rfl (grV hg19) (grV hg19) (b5 hk20 hg19) (ho3_12.some_ (bc (b5 hk20 hg19)))) (k:=wG0 (h:=λhg21=>lQ (c:=0) (v:=ii (gt l.parts ((w64 ((l.parts.length:Int) - 1)).toNat))) (i:=1) rfl (ho3_12.intT_at (bc (b5 hk20 hg21))).2 rfl Jc (grV hg21) rfl) (k:=wG0 (h:=λhg22=>bi rfl (grV hg22)) (k:=wG0 (h:=λhg23=>bv (v:=.bool (decide (0<(gt l.parts ((w64 ((l.parts.length:Int) - 1)).toNat))))) rfl (grV hg23)) (k:=wh1 (c0:=(!((l.parts.length:Int)==0))) (g:=(decide (0<(gt l.parts ((w64 ((l.parts.length:Int) - 1)).toNat))))) rfl rfl rfl rfl rfl (λ_=>QV.qo moV) (wh1 (c0:=(!((l.parts.length:Int)==0))) (g:=(decide (0<(gt l.parts ((w64 ((l.parts.length:Int) - 1)).toNat))))) rfl rfl rfl rfl rfl (λhg25=>QV.qo (nlV (hv:=grV hg25))) (wh1 (c0:=(!((l.parts.length:Int)==0))) (g:=(decide (0<(gt l.parts ((w64 ((l.parts.length:Int) - 1)).toNat))))) rfl rfl rfl rfl rfl (λhg26=>QV.qo (q_fl 4 ft rfl (grV hg26))) (wh1 (c0:=(!((l.parts.length:Int)==0))) (g:=(decide (0<(gt l.parts ((w64 ((l.parts.length:Int) - 1)).toNat))))) rfl rfl rfl rfl rfl (λhg27=>QV.qo (ldV 0 JU (hx:=grV hg27))) ?_)))))))
 refine wh1 (c0:=(!((l.parts.length:Int)==0))) (g:=(decide (0<(gt l.parts ((w64 ((l.parts.length:Int) - 1)).toNat))))) rfl rfl rfl rfl rfl (λ_=>QV.qo moV) (wh1 (c0:=(!((l.parts.length:Int)==0))) (g:=(decide (0<(gt l.parts ((w64 ((l.parts.length:Int) - 1)).toNat))))) rfl rfl rfl rfl rfl (λhg29=>QV.qo (fO rfl (grV hg29))) (wh1 (c0:=(!((l.parts.length:Int)==0))) (g:=(decide (0<(gt l.parts ((w64 ((l.parts.length:Int) - 1)).toNat))))) rfl rfl rfl rfl rfl (λhg30=>QV.qo (q_ix JV Jb rfl (grV hg30) (grV hg30) (b5 hk20 (dQ hg30)) (ho3_12.some_ (bc (b5 hk20 (dQ hg30)))))) (wh1 (c0:=(!((l.parts.length:Int)==0))) (g:=(decide (0<(gt l.parts ((w64 ((l.parts.length:Int) - 1)).toNat))))) rfl rfl rfl rfl rfl (λhg31=>QV.qo (lQ (c:=0) (v:=ii (gt l.parts ((w64 ((l.parts.length:Int) - 1)).toNat))) (i:=1) rfl (ho3_12.intT_at (bc (b5 hk20 (dQ hg31)))).2 rfl Jc (grV hg31) rfl)) (wh1 (c0:=(!((l.parts.length:Int)==0))) (g:=(decide (0<(gt l.parts ((w64 ((l.parts.length:Int) - 1)).toNat))))) rfl rfl rfl rfl rfl (λ_=>QV.qo moV) (wh1 (c0:=(!((l.parts.length:Int)==0))) (g:=(decide (0<(gt l.parts ((w64 ((l.parts.length:Int) - 1)).toNat))))) rfl rfl rfl rfl rfl (λhg33=>QV.qo (ag rfl IZ (grV hg33))) ?_)))))
 refine wh1 (c0:=(!((l.parts.length:Int)==0))) (g:=(decide (0<(gt l.parts ((w64 ((l.parts.length:Int) - 1)).toNat))))) rfl rfl rfl rfl rfl (λhg34=>QV.qo (bR rfl (grV hg34) (grV hg34))) (wh1 (c0:=(!((l.parts.length:Int)==0))) (g:=(decide (0<(gt l.parts ((w64 ((l.parts.length:Int) - 1)).toNat))))) rfl rfl rfl rfl rfl (λ_=>QV.qo moV) (wh1 (c0:=(!((l.parts.length:Int)==0))) (g:=(decide (0<(gt l.parts ((w64 ((l.parts.length:Int) - 1)).toNat))))) rfl rfl rfl rfl rfl (λhg36=>QV.qo (nlV (hv:=grV hg36))) (wh1 (c0:=(!((l.parts.length:Int)==0))) (g:=(decide (0<(gt l.parts ((w64 ((l.parts.length:Int) - 1)).toNat))))) rfl rfl rfl rfl rfl (λhg37=>QV.qo (q_fl 2 ya rfl (grV hg37))) (wh1 (c0:=(!((l.parts.length:Int)==0))) (g:=(decide (0<(gt l.parts ((w64 ((l.parts.length:Int) - 1)).toNat))))) rfl rfl rfl rfl rfl (λhg38=>QV.qo (ldV 0 Jc (hx:=grV hg38))) (wh1 (c0:=(!((l.parts.length:Int)==0))) (g:=(decide (0<(gt l.parts ((w64 ((l.parts.length:Int) - 1)).toNat))))) rfl rfl rfl rfl rfl (λhg39=>QV.qo (bi rfl (grV hg39) (grV hg39))) ?_)))))
 refine wG0 (h:=λhg40=>gq rfl (grV hg40) (ly (c:=(!((l.parts.length:Int)==0))) (g:=(decide (0<(gt l.parts ((w64 ((l.parts.length:Int) - 1)).toNat))))) (y:=(decide (l.size<(w64 ((gt l.parts ((w64 ((l.parts.length:Int) - 1)).toNat))+(z2.length:Int)))))) hg40)) (k:=zV pkO (k:=zV aoV (k:=?_)))
 refine Ij ?_
 change WC _ _ _ _ _ _
 refine foC [0,0] hrow_12 [_,_,_] ?_
 refine Id (λσ w => ∃(n_42:Int),bu l dk0 z2 n_42=some r∧slots σ [(0,(pq gl)),(5,.slice A8 z2.length c9),(6,ii n_42),(7,.bool (((l.parts.length:Int)==0)||((decide (0<(gt l.parts ((w64 ((l.parts.length:Int) - 1)).toNat))))&&(decide (l.size<(w64 ((gt l.parts ((w64 ((l.parts.length:Int) - 1)).toNat))+(z2.length:Int))))))))]∧CC F Γ4 [rowl,row10,rowdk0] w∧I64 n_42∧True) ?_ ?_
 ·
  refine I4 (mV (k:=I3 ?_))
  refine ciV h (λhb44 h=>?_) (λhb44 h=>?_)
  ·
   refine I9 ?_
   refine mV (k:=sV bR (k:=aV (k:=?_)))
   exact I6 λw hw=>⟨(w64 ((l.parts.length:Int)+1)),h,slK,hw,(dR _),trivial⟩
  exact I7 λw hw=>⟨(l.parts.length:Int),h,slK,hw,(mL ho3_12.le),trivial⟩
 rintro σ w ⟨n_42,h,hsl,hw,hr43,-⟩
 refine slV hsl hw [_,_,_] ?_; clear hw hsl
 refine I5 (I4 (mV (k:=sV bi (k:=I3 ?_))))
 refine ciV h (λhb45 h=>?_) (λhb45 h=>?_)
 ·
  refine I4 (aV (k:=I3 ?_))
  exact I8 λw hw=>re_ r [0,1] h hF hw ⟨rowl,rowdk0,rfl,rfl,(hl.mono hl5),(hdk0.mono hl5),iV,trivial⟩
 refine I7 (wc_ ?_)
 refine Id (λσ w => ∃(f_48:List UInt8), ∃(e_53:Int), ∃(o55:a7), ∃(Γ46:Gh), ∃(A49:Option Addr), ∃(c50:Nat), ∃(row56:Rowb),gA l z2 n_42 f_48 e_53 o55=some r∧slots σ [(0,(pq gl)),(5,.slice A49 f_48.length c50),(6,ii n_42),(7,.bool (((l.parts.length:Int)==0)||((decide (0<(gt l.parts ((w64 ((l.parts.length:Int) - 1)).toNat))))&&(decide (l.size<(w64 ((gt l.parts ((w64 ((l.parts.length:Int) - 1)).toNat))+(z2.length:Int)))))))),(8,ii e_53)]∧CC F Γ46 [rowl,row56] w∧Gh.le Γ4 Γ46∧f_48.length≤c50∧Sl av Γ46 A49 f_48∧I64 e_53∧a7.ob edk0 Γ46 el.2 row56 o55∧True) ?_ ?_
 ·
  have hc62:=hr11.capz
  refine seC 1 [_,_,_] λΓ58 hl59 hr60=>?_
  have hs61:=hr11.sl hl59 hr60
  obtain⟨A4_63,c4_63,r4_63,hrow_63,ho0_63,ho1_63,ho2_63,ho3_63,ho4_63,-⟩:=(hl.mono (hl5.trans hl59))
  refine ufC 0 hrow_63 [_,_,_,_] ?_
  refine leV λh064=>?_
  refine dW (CC F Γ58 [[(gl,.cells #[.pointer (some ⟨el.2,0,none⟩),.string l.name,ii l.size,ii l.gen,.slice A4_63 l.parts.length c4_63,ii l.records] el.1 (0,0))],r4_63,[]]) (bo_ [0,0,0] gR h064) λk=>?_
  change WH _ _ _ _ (CC F Γ58 [_,_,_,_]) _ 17 _ _
  refine hV 0 k (q:=moV) (k:=hV 1 k (q:=nlV) (k:=hV 2 k (q:=q_fl 0 kA) (k:=hV 3 k (q:=ldV 0 JX) (k:=hV 4 k (q:=moV) (k:=hV 5 k (q:=nlV) (k:=hV 6 k (q:=q_fl 1 pt) (k:=hV 7 k (q:=ldV 0 IY) (k:=?_))))))))
  refine hV 8 k (q:=moV) (k:=hV 9 k (q:=nlV) (k:=hV 10 k (q:=q_fl 3 li) (k:=hV 11 k (q:=ldV 0 Jl) (k:=hV 12 k (q:=moV) (k:=hV 14 k (q:=moV) (k:=wl_ 13 rfl ?_))))))
  obtain⟨z65,hz66,h⟩:=bnd h
  refine vqV (caV call88) (λw hw=>od (Γ:=Gh.all w) l.name ho0_63 l.gen ho2_63 n_42 hr43 (Sat.all w) hz66) (k:=?_)
  refine I6 (nxV (bo_ [0,0,0] gR h064) λk=>?_)
  refine wl_ 15 rfl ?_
  obtain⟨hk67,h⟩:=am h
  obtain⟨z68,hz69,h⟩:=bnd h
  refine ecV [3] (caV call22) (λw hp=>iw (hdk0.mono (hl5.trans hl59)) z65 (Ip hk67) hs61 hc62 hp hz69) ?_
  rintro Γ70 _ _ hl71 ⟨row74,rfl,rfl,hr75,hr76,_⟩
  refine cwV 70 [_,_,_,_] ?_
  refine I6 (nxV (bo_ [1,1,1] hl71 h064) λk=>?_)
  refine hV 16 k (q:=aoV) (k:=?_)
  refine Ig (by kernel_rfl) ?_
  intro w hw
  have hw:=hw.fold (is:=[1,1]) rfl hrow_63
  exact⟨z2,z68.2,z68.1,Γ70,A8,c9,row74,h,slK,(hw.on [0,0]),(hl59.trans hl71),hc62,(hs61.mono hl71),hr76,hr75,trivial⟩
 rintro σ w ⟨f_48,e_53,o55,Γ46,A49,c50,row56,h,hsl,hw,hl47,hc52,hs51,hr54,ho57,-⟩
 refine slV hsl hw [_,_] ?_; clear hw hsl
 refine I5 (I4 (mV (k:=sV bD (k:=I3 ?_))))
 refine ciV h (λhb78 h=>?_) (λhb78 h=>?_)
 ·
  refine I4 (mV (k:=aV (k:=I3 ?_)))
  exact I8 λw hw=>re_ r [0,0] h hF hw ⟨rowl,row56,rfl,rfl,(hl.mono (hl5.trans hl47)),ho57,hr54,trivial⟩
 refine I7 (wc_ ?_)
 refine Id (λσ w => ∃(o79:af), ∃(row80:Rowb),cI n_42 f_48 o55 o79=some r∧slots σ [(0,(pq gl)),(5,.slice A49 f_48.length c50),(6,ii n_42)]∧CC F Γ46 [row80,row56] w∧af.ob el Γ46 gl row80 o79∧True) ?_ ?_
 ·
  refine I4 (mV (k:=I3 ?_))
  refine ciV h (λhb82 h=>?_) (λhb82 h=>?_)
  ·
   refine I9 ?_
   refine mV (k:=mV (k:=sV nlV (k:=sV (q_fl 4 ft) (k:=?_))))
   obtain⟨A4_83,c4_83,r4_83,hrow_83,ho0_83,ho1_83,ho2_83,ho3_83,ho4_83,-⟩:=(hl.mono (hl5.trans hl47))
   refine ufR 0 hrow_83 [_,_,_] ?_
   refine sV (ldV 0 JU) (k:=?_)
   refine bsV #[ii 0] 3 λg84=>?_
   obtain⟨hk85,h⟩:=am h
   refine apV 2 [0] zI ho3_83 (Ip hk85) (λw hw=>bM (i:=0) rfl (by exact⟨rfl,iV⟩) hw) ?_
   intro row86 A87 c88 ho89
   refine sV nlV (k:=sV (q_fl 4 ft) (k:=stV 1 (.slice A87 (l.parts++[0]).length c88) #[.pointer (some ⟨el.2,0,none⟩),.string l.name,ii l.size,ii l.gen,.slice A87 (l.parts++[0]).length c88,ii l.records] sizeOf107 (k:=?_)))
   refine I6 ?_
   intro w hw
   obtain⟨row_90,hrow_90,hob_90⟩:∃rw:Rowb,rw=([[(gl,.cells #[.pointer (some ⟨el.2,0,none⟩),.string l.name,ii l.size,ii l.gen,.slice A87 (l.parts++[0]).length c88,ii l.records] el.1 (0,0))],row86]:List Rowb).flatten∧af.ob el Γ46 gl rw (⟨l.name,l.size,l.gen,(l.parts++[0]),l.records⟩:af):=⟨_,rfl,A87,c88,row86,rfl,ho0_83,ho1_83,ho2_83,ho89,ho4_83,trivial⟩
   have hw:=hw.fold (is:=[1,1]) rfl hrow_90
   exact⟨(⟨l.name,l.size,l.gen,(l.parts++[0]),l.records⟩:af),row_90,h,slK,(hw.on [0,1]),hob_90,trivial⟩
  exact I7 λw hw=>⟨l,rowl,h,slK,hw,(hl.mono (hl5.trans hl47)),trivial⟩
 rintro σ w ⟨o79,row80,h,hsl,hw,ho81,-⟩
 refine slV hsl hw [_,_] ?_; clear hw hsl
 refine Id (λσ w => ∃(o91:af), ∃(row92:Rowb),ez o55 o91=some r∧slots σ [(0,(pq gl))]∧CC F Γ46 [row92,row56] w∧af.ob el Γ46 gl row92 o91∧True) ?_ ?_
 ·
  obtain⟨A4_94,c4_94,r4_94,hrow_94,ho0_94,ho1_94,ho2_94,ho3_94,ho4_94,-⟩:=id ho81
  refine ufC 0 hrow_94 [_,_,_] ?_
  refine leV λh095=>?_
  refine dW (CC F Γ46 [[(gl,.cells #[.pointer (some ⟨el.2,0,none⟩),.string o79.name,ii o79.size,ii o79.gen,.slice A4_94 o79.parts.length c4_94,ii o79.records] el.1 (0,0))]]) (bo_ [0] gR h095) λk=>?_
  change WH _ _ _ _ (CC F Γ46 [_,_,_]) _ 19 _ _
  refine hV 0 k (q:=moV) (k:=hV 1 k (q:=nlV) (k:=hV 2 k (q:=q_fl 4 ft) (k:=hV 3 k (q:=ldV 0 JU) (k:=hV 4 k (q:=moV) (k:=hV 5 k (q:=fO) (k:=hV 6 k (q:=moV) (k:=hV 7 k (q:=nlV) (k:=?_))))))))
  refine hV 8 k (q:=q_fl 4 ft) (k:=hV 9 k (q:=ldV 0 JU) (k:=hV 10 k (q:=moV) (k:=hV 11 k (q:=fO) (k:=hV 14 k (q:=moV) (k:=hV 15 k (q:=ag rfl IZ) (k:=wl_ 12 rfl ?_))))))
  obtain⟨hk99,h⟩:=am h
  refine sV (q_ix JV Jb rfl rfl rfl hk99 (ho3_94.some_ (bc hk99))) (k:=?_)
  refine I6 (nxV (bo_ [0] gR h095) λk=>?_)
  refine wl_ 13 rfl (sV (lQ (c:=0) (v:=ii (gt o79.parts ((w64 (n_42 - 1)).toNat))) (i:=1) rfl (ho3_94.intT_at (bc hk99)).2 rfl Jc rfl rfl) (k:=?_))
  refine I6 (nxV (bo_ [0] gR h095) λk=>?_)
  refine hV 16 k (q:=bR) (k:=wl_ 17 rfl (sV (q_ix JV Jb rfl rfl rfl hk99 (ho3_94.some_ (bc hk99))) (k:=?_)))
  refine I6 (nxV (bo_ [0] gR h095) λk=>?_)
  refine wl_ 18 rfl ?_
  refine qX (T:=intT) (q:=(w64 (n_42 - 1)).toNat) (v:=ii (w64 ((gt o79.parts ((w64 (n_42 - 1)).toNat))+(f_48.length:Int)))) (y:=(w64 ((gt o79.parts ((w64 (n_42 - 1)).toNat))+(f_48.length:Int)))) rfl rfl rfl rfl (by kernel_rfl) Jb (by exact⟨rfl,(dR _)⟩) (i:=1) rfl ho3_94 (bc hk99) ?_
  intro row100 ho101
  refine I6 (nxV (bo_ [0] gR h095) λk=>?_)
  refine Ig (by kernel_rfl) ?_
  intro w hw
  obtain⟨row_102,hrow_102,hob_102⟩:∃rw:Rowb,rw=([[(gl,.cells #[.pointer (some ⟨el.2,0,none⟩),.string o79.name,ii o79.size,ii o79.gen,.slice A4_94 o79.parts.length c4_94,ii o79.records] el.1 (0,0))],row100]:List Rowb).flatten∧af.ob el Γ46 gl rw (⟨o79.name,o79.size,o79.gen,(List.set o79.parts ((w64 (n_42 - 1)).toNat) (w64 ((gt o79.parts ((w64 (n_42 - 1)).toNat))+(f_48.length:Int)))),o79.records⟩:af):=⟨_,rfl,A4_94,c4_94,row100,(by simp only [show _=_ from List.length_set]),ho0_94,ho1_94,ho2_94,ho101,ho4_94,trivial⟩
  have hw:=hw.fold (is:=[0,0]) rfl hrow_102
  exact⟨(⟨o79.name,o79.size,o79.gen,(List.set o79.parts ((w64 (n_42 - 1)).toNat) (w64 ((gt o79.parts ((w64 (n_42 - 1)).toNat))+(f_48.length:Int)))),o79.records⟩:af),row_102,h,slK,hw,hob_102,trivial⟩
 rintro σ w ⟨o91,row92,h,hsl,hw,ho93,-⟩
 refine slV hsl hw [_,_] ?_; clear hw hsl
 refine I4 (mV (k:=sV nlV (k:=sV (q_fl 5 nB) (k:=?_))))
 obtain⟨A4_103,c4_103,r4_103,hrow_103,ho0_103,ho1_103,ho2_103,ho3_103,ho4_103,-⟩:=id ho93
 refine ufR 0 hrow_103 [_,_,_] ?_
 refine sV (ldV 0 Jc) (k:=sV bR (k:=sV nlV (k:=sV (q_fl 5 nB) (k:=stV 0 (ii (w64 (o91.records+1))) #[.pointer (some ⟨el.2,0,none⟩),.string o91.name,ii o91.size,ii o91.gen,.slice A4_103 o91.parts.length c4_103,ii (w64 (o91.records+1))] Jb (k:=I3 (I4 (aV (k:=?_))))))))
 refine I3 ?_
 refine I8 ?_
 intro w hw
 obtain⟨row_104,hrow_104,hob_104⟩:∃rw:Rowb,rw=([[(gl,.cells #[.pointer (some ⟨el.2,0,none⟩),.string o91.name,ii o91.size,ii o91.gen,.slice A4_103 o91.parts.length c4_103,ii (w64 (o91.records+1))] el.1 (0,0))],r4_103]:List Rowb).flatten∧af.ob el Γ46 gl rw (⟨o91.name,o91.size,o91.gen,o91.parts,(w64 (o91.records+1))⟩:af):=⟨_,rfl,A4_103,c4_103,r4_103,rfl,ho0_103,ho1_103,ho2_103,ho3_103,(dR _),trivial⟩
 have hw:=hw.fold (is:=[0,0]) rfl hrow_104
 cases h
 subst hF
 exact aL (is:=[0,0]) (by kernel_rfl) hw rfl ⟨row_104,row56,rfl,rfl,hob_104,ho57,iV,trivial⟩
abbrev uZ(r:Rec)(U:List Rowb)(Γ:Gh)(v:Value):Prop := ∃(A0_1:Option Addr), ∃(c0_1:Nat),v = .agg #[.string r.key,.slice A0_1 r.vers.length c0_1]∧U = []∧Rec.fits Γ A0_1 c0_1 r∧True
theorem oO{Ar_1:Option Addr}{cr_1:Nat}(r_:Rec)(hr_:Rec.fits Γ Ar_1 cr_1 r_)(hp:Pre [] Γ w0){r:Rec}(h:iU r_=some r):Calls Tryz.prog 10 #[.agg (Rec.cs Ar_1 cr_1 r_).toArray] w0 (Outc Γ [] w0 (uZ r)):=by
 refine fH (N:=35) (rs:=[.cell 2 24]) (args:=[.agg (Rec.cs Ar_1 cr_1 r_).toArray]) func10 rfl ntmps10 results10 rfl ?_
 obtain⟨F,hF⟩:∃F:Fm,F=⟨ids [],w0,Γ⟩:=⟨_,rfl⟩
 refine Ik (C:=CC F Γ []) ?_ (hF▸hp.start)
 refine I4 ?_
 refine bxV (v:=.agg (Rec.cs Ar_1 cr_1 r_).toArray) λg1=>?_
 refine alV Jy λg2=>?_
 refine I3 (I4 (sV (q_fl 0 cV) (k:=sV (ldV 1 IY) (k:=sV (aZ (v:=.agg #[.string r_.key,.slice none 0 0]) rfl (l7 rfl) (λw=>by kernel_rfl)) (k:=?_)))))
 refine alV Jy λg3=>?_
 refine stV 0 (.agg #[.string r_.key,.slice none 0 0]) #[.string r_.key,.slice none 0 0] Jz (k:=I3 (I5 (I4 (aV (k:=I3 (Ia ?_))))))
 refine Ie h (λ(i12:Nat) (x6:List Ver) σ w => ∃(Γ4:Gh), ∃(A7:Option Addr), ∃(c8:Nat), ∃(row9:Rowb),slots σ [(1,(pq g1)),(2,(pq g2)),(3,(pq g3)),(4,ii (i12:Int))]∧CC F Γ4 [row9,[(g3,.cells #[.string r_.key,.slice A7 x6.length c8] 24 (0,0))],[(g2,.cells #[.string ByteArray.empty,.slice none 0 0] 24 (0,0))],[(g1,.cells (Rec.cs Ar_1 cr_1 r_).toArray 24 (0,0))]] w∧Gh.le Γ Γ4∧Own verT Γ4 39 row9 A7 c8 x6∧True) ?_ ?_
 ·
  intro w hw
  have hw:=hw.pad
  exact⟨Γ,none,0,[],slK,hw,gR,(Own.nil verT _ 39),trivial⟩
 rintro f11 i12 x6 σ w hi13 hlt14 hge15 ⟨Γ4,A7,c8,row9,hsl,hw,hl5,ho10,-⟩
 refine slV hsl hw [_,_,_,_] ?_; clear hw hsl
 refine I5 (I4 (mV (k:=sV (q_fl 1 ci) (k:=sV (ldV 3 JH) (k:=sV (ag rfl JE) (k:=sV aG (k:=I3 ?_)))))))
 refine coV (λhb16=>?_) (λhb16=>?_)
 ·
  have hl17:=ilt hb16
  have h:=hlt14 hl17
  refine I7 (wc_ (I5 (Ia (I4 (sV (q_fl 1 ci) (k:=sV (ldV 3 JH) (k:=mV (k:=?_))))))))
  refine sV (aN (i:=i12) JE Ju rfl rfl rfl hl17 ((hr_.2.2.mono hl5).some_ hl17)) (k:=?_)
  obtain⟨A18,c19,hx20⟩:=(hr_.2.2.mono hl5).verT_at i12
  refine sV (jx (c:=0) (vs:=(Ver.cs A18 c19 (gt r_.vers i12))) (hx20 hl17).2 rfl Jx Ju rfl rfl rfl) (k:=?_)
  refine alV Jt λg21=>?_
  refine stV 0 (.agg (Ver.cs A18 c19 (gt r_.vers i12)).toArray) (Ver.cs A18 c19 (gt r_.vers i12)).toArray Ju (k:=I3 (I4 (aV (k:=I3 (I4 (mV (k:=sV (q_fl 2 fI) (k:=?_))))))))
  refine sV (ldV 0 JC) (k:=?_)
  refine WR.sub (λw hw=>hw.pad) ?_
  obtain⟨hk22,h⟩:=am h
  refine pr (T:=gS) (xs:=[]) (ys:=(gt r_.vers i12).past) vV (i:=0) rfl rfl rfl rfl (by kernel_rfl) rfl rfl (Own.nil gS Γ4 41) (Ip hk22) (λw hw=>nc (hx20 hl17).1.2.2.1.2 hw) ?_
  intro row23 A24 c25 ho26
  refine aV (k:=I3 (I4 (mV (k:=sV (q_fl 2 fI) (k:=stV 1 (.slice A24 (gt r_.vers i12).past.length c25) (Ver.cs A24 c25 (gt r_.vers i12)).toArray sizeOf37 (k:=I3 ?_))))))
  refine I9 ?_
  refine sV (q_fl 1 ci) (k:=sV (ldV 3 JH) (k:=sV (ldaV 1 (Ver.cs A24 c25 (gt r_.vers i12)) Jx Ju) (k:=?_)))
  have hc31:=ho26.capz
  refine seR 0 [_,_,_,_,_,_] λΓ27 hl28 hr29=>?_
  have hs30:=ho26.sl hl28 hr29
  refine bsV (Ver.cs A24 c25 (gt r_.vers i12)).toArray 39 λg32=>?_
  obtain⟨hk33,h⟩:=am h
  refine apV 3 [(gt r_.vers i12)] vZ (ho10.mono hl28) (Ip hk33) (λw hw=>bM (i:=0) rfl (by exact⟨A24,c25,rfl,⟨(hx20 hl17).1.1,(hx20 hl17).1.2.1,⟨hc31,hs30⟩,(hx20 hl17).1.2.2.2⟩⟩) hw) ?_
  intro row34 A35 c36 ho37
  refine sV (q_fl 1 ci) (k:=stV 4 (.slice A35 (x6++[(gt r_.vers i12)]).length c36) #[.string r_.key,.slice A35 (x6++[(gt r_.vers i12)]).length c36] sizeOf22 (k:=?_))
  refine I6 ?_
  change WC _ _ _ _ _ _
  refine I9 ?_
  refine mV (k:=sV (aF rfl rfl rfl (aJ hl17 (hr_.2.2.mono hl5).le)) (k:=aV (k:=?_)))
  exact I6 λw hw=>⟨hl17,(x6++[(gt r_.vers i12)]),h,Γ27,A35,c36,row34,slK,(hw.on [3,3,3,3]),(hl5.trans hl28),ho37,trivial⟩
 have h:=hge15 (ige hb16)
 refine Ic ?_
 change WC _ _ _ _ _ _
 refine I4 (sV (ldaV 1 [.string r_.key,.slice A7 x6.length c8] JA Jz) (k:=stV 2 (.agg #[.string r_.key,.slice A7 x6.length c8]) #[.string r_.key,.slice A7 x6.length c8] Jz (k:=I3 ?_)))
 refine I8 ?_
 intro w hw
 have hc42:=ho10.capz
 obtain⟨Γ38,hw,hl39,hr40⟩:=hw.seal (i:=0) rfl; have hs41:=ho10.sl hl39 hr40
 cases h
 subst hF
 exact⟨[.agg #[.string r_.key,.slice A7 x6.length c8]],(j8 (i:=2) (us:=[.string r_.key,.slice A7 x6.length c8]) hw rfl JA Jz (by kernel_rfl) rfl jh),aL (is:=[]) (by kernel_rfl) hw rfl ⟨A7,c8,rfl,rfl,⟨hr_.1,⟨hc42,hs41⟩⟩,trivial⟩⟩
abbrev pE(gs_:Nat)(es_:Nat×Nat)(edk0:Nat)(r:ah×a7×Int)(U:List Rowb)(Γ:Gh)(v:Value):Prop := ∃(rows_':Rowb), ∃(rowdk0':Rowb),v = .int .i64 r.2.2∧U = [rows_',rowdk0']∧ah.ob es_ Γ gs_ rows_' r.1∧a7.ob edk0 Γ es_.2 rowdk0' r.2.1∧I64 r.2.2∧True
theorem pW{gs_:Nat}{es_:Nat×Nat}{rows_:Rowb}{s_:ah}(hs_:ah.ob es_ Γ gs_ rows_ s_){Ar_1:Option Addr}{cr_1:Nat}(r_:Rec)(hr_:Rec.fits Γ Ar_1 cr_1 r_){edk0:Nat}{rowdk0:Rowb}{dk0:a7}(hdk0:a7.ob edk0 Γ es_.2 rowdk0 dk0)(hp:Pre [rows_,rowdk0] Γ w0){r:ah×a7×Int}(h:cO s_ r_ dk0=some r):Calls Tryz.prog 16 #[(pq gs_),.agg (Rec.cs Ar_1 cr_1 r_).toArray] w0 (Outc Γ [rows_,rowdk0] w0 (pE gs_ es_ edk0 r)):=by
 refine goV [4] func16 ntmps16 results16 hp λF hF=>?_
 refine I4 ?_
 refine bxV (v:=.agg (Rec.cs Ar_1 cr_1 r_).toArray) λg1=>?_
 refine aV (k:=I3 (I5 (I4 (sV (ldaV 0 (Rec.cs Ar_1 cr_1 r_) JA Jz) (k:=?_)))))
 obtain⟨z2,hz3,h⟩:=bnd h
 refine vqV (caV call7) (λw hw=>lV (Γ:=Gh.all w) r_ (Rec.fits_mono hr_ hw.sat.le_all) (Sat.all w) hz3) (k:=sV cY (k:=I3 ?_))
 refine ciV h (λhb4 h=>?_) (λhb4 h=>?_)
 ·
  refine I4 (aV (k:=I3 ?_))
  exact I8 λw hw=>re_ r [1,1] h hF hw ⟨rows_,rowdk0,rfl,rfl,hs_,hdk0,iV,trivial⟩
 refine I7 (wc_ ?_)
 refine Id (λσ w => ∃(e_7:Int), ∃(o9:ah), ∃(o12:a7), ∃(Γ5:Gh), ∃(row10:Rowb), ∃(row13:Rowb),gU r_ e_7 o9 o12=some r∧slots σ [(0,(pq gs_)),(3,(pq g1)),(5,ii e_7)]∧CC F Γ5 [[(g1,.cells (Rec.cs Ar_1 cr_1 r_).toArray 24 (0,0))],row10,row13] w∧Gh.le Γ Γ5∧I64 e_7∧ah.ob es_ Γ5 gs_ row10 o9∧a7.ob edk0 Γ5 es_.2 row13 o12∧True) ?_ ?_
 ·
  obtain⟨g0_15,r0_15,A1_15,c1_15,r1_15,hrow_15,ho0_15,ho1_15,-⟩:=id hs_
  refine ufC 1 hrow_15 [_,_,_,_,_] ?_
  refine leV λh016=>?_
  refine dW (CC F Γ [[(gs_,.cells #[(pq g0_15),.slice A1_15 s_.list.length c1_15] es_.1 (0,0))],r1_15,[(g1,.cells (Rec.cs Ar_1 cr_1 r_).toArray 24 (0,0))]]) (bo_ [0,1,1] gR h016) λk=>?_
  change WH _ _ _ _ (CC F Γ [_,_,_,_,_]) _ 8 _ _
  refine hV 0 k (q:=moV) (k:=hV 1 k (q:=nlV) (k:=hV 2 k (q:=q_fl 0 rM) (k:=hV 3 k (q:=ldV 0 isAgg97) (k:=hV 4 k (q:=ldaV 2 (Rec.cs Ar_1 cr_1 r_) JA Jz) (k:=wl_ 5 rfl ?_)))))
  obtain⟨z17,hz18,h⟩:=bnd h
  refine ecV [] (caV call44) (λw hp=>nh r_ hr_ hp hz18) ?_
  rintro Γ19 _ _ hl20 ⟨A23,c24,row25,rfl,rfl,hr26,_⟩
  refine cwV 14 [_,_,_,_,_,_] ?_
  refine I6 (nxV (bo_ [1,2,2] hl20 h016) λk=>?_)
  refine wl_ 6 rfl ?_
  have hc31:=hr26.capz
  refine seR 0 [_,_,_,_,_,_] λΓ27 hl28 hr29=>?_
  have hs30:=hr26.sl hl28 hr29
  obtain⟨z32,hz33,h⟩:=bnd h
  refine ecV [2,4] (caV call43) (λw hp=>la (ho0_15.mono (hl20.trans hl28)) hs30 hc31 (hdk0.mono (hl20.trans hl28)) hp hz33) ?_
  rintro Γ34 _ _ hl35 ⟨row38,row40,rfl,rfl,hr39,hr41,hr42,_⟩
  refine cwV 15 [_,_,_,_,_,_] ?_
  refine I6 (nxV (bo_ [3,3,3] ((hl20.trans hl28).trans hl35) h016) λk=>?_)
  refine hV 7 k (q:=aoV) (k:=?_)
  refine Ig (by kernel_rfl) ?_
  intro w hw
  obtain⟨row_43,hrow_43,hob_43⟩:∃rw:Rowb,rw=([[(gs_,.cells #[(pq g0_15),.slice A1_15 s_.list.length c1_15] es_.1 (0,0))],row38,r1_15]:List Rowb).flatten∧ah.ob es_ Γ34 gs_ rw (⟨z32.1,s_.list⟩:ah):=⟨_,rfl,g0_15,row38,A1_15,c1_15,r1_15,rfl,hr39,(ho1_15.mono ((hl20.trans hl28).trans hl35)),trivial⟩
  have hw:=hw.fold (is:=[3,0,2]) rfl hrow_43
  exact⟨z32.2.2,(⟨z32.1,s_.list⟩:ah),z32.2.1,Γ34,row_43,row40,h,slK,(hw.on [3,0,0]),((hl20.trans hl28).trans hl35),hr42,hob_43,hr41,trivial⟩
 rintro σ w ⟨e_7,o9,o12,Γ5,row10,row13,h,hsl,hw,hl6,hr8,ho11,ho14,-⟩
 refine slV hsl hw [_,_,_] ?_; clear hw hsl
 refine I5 (I4 (mV (k:=sV bD (k:=I3 ?_))))
 refine ciV h (λhb44 h=>?_) (λhb44 h=>?_)
 ·
  refine I4 (mV (k:=aV (k:=I3 ?_)))
  exact I8 λw hw=>re_ r [1,1] h hF hw ⟨row10,row13,rfl,rfl,ho11,ho14,hr8,trivial⟩
 refine I7 (wc_ (I4 (mV (k:=sV nlV (k:=sV (q_fl 0 rM) (k:=?_))))))
 obtain⟨g0_45,r0_45,A1_45,c1_45,r1_45,hrow_45,ho0_45,ho1_45,-⟩:=id ho11
 refine ufR 1 hrow_45 [_,_,_,_,_] ?_
 refine sV (ldV 0 isAgg97) (k:=sV nlV (k:=sV (q_fl 0 kA) (k:=?_)))
 obtain⟨A4_46,c4_46,r4_46,hrow_46,ho0_46,ho1_46,ho2_46,ho3_46,ho4_46,-⟩:=id ho0_45
 refine ufR 1 hrow_46 [_,_,_,_,_,_] ?_
 refine sV (ldV 0 JX) (k:=?_)
 obtain⟨z47,hz48,h⟩:=bnd h
 refine ecV [5] (caV call45) (λw hp=>ec ho14 hp hz48) ?_
 rintro Γ49 _ _ hl50 ⟨row53,rfl,rfl,hr54,_⟩
 refine cwV 26 [_,_,_,_,_,_] (I3 (I5 ?_))
 refine leV λh055=>?_
 refine dW (CC F Γ49 [r4_46,[(g1,.cells (Rec.cs Ar_1 cr_1 r_).toArray 24 (0,0))]]) (bo_ [2,4] gR h055) λk=>?_
 change WH _ _ _ _ (CC F Γ49 [_,_,_,_,_,_]) _ 11 _ _
 refine hV 0 k (q:=moV) (k:=hV 1 k (q:=moV) (k:=hV 2 k (q:=nlV) (k:=hV 3 k (q:=q_fl 1 eO) (k:=hV 5 k (q:=ldaV 1 (Rec.cs Ar_1 cr_1 r_) JA Jz) (k:=?_)))))
 obtain⟨z56,hz57,h⟩:=bnd h
 refine WH.each (l:=[4,6]) (by kernel_rfl) (by simp) ?_
 intro i hi; simp only [Ix,List.not_mem_nil,or_false] at hi
 rcases hi with rfl | rfl
 ·
  refine⟨_,rfl,?_⟩
  refine sV (ldV 3 JW) (k:=?_)
  refine I6 (nxV (bo_ [2,4] gR h055) λk=>?_)
  refine wl_ 6 rfl ?_
  refine ecV [] (caV call10) (λw hp=>oO r_ (Rec.fits_mono hr_ (hl6.trans hl50)) hp hz57) ?_
  rintro Γ58 _ _ hl59 ⟨A62,c63,rfl,rfl,hr64,_⟩
  refine cwV 33 [_,_,_,_,_,_] ?_
  refine I6 (nxV (bo_ [2,4] hl59 h055) λk=>?_)
  refine wl_ 7 rfl ?_
  have hc69:=(ho1_45.mono (hl50.trans hl59)).capz
  refine seR 4 [_,_,_,_,_,_] λΓ65 hl66 hr67=>?_
  have hs68:=(ho1_45.mono (hl50.trans hl59)).sl hl66 hr67
  obtain⟨z70,hz71,h⟩:=bnd h
  refine ecV [] (caV call42) (λw hp=>lM hs68 hc69 z56 (Rec.fits_mono hr64 hl66) hp hz71) ?_
  rintro Γ72 _ _ hl73 ⟨A76,c77,row78,rfl,rfl,hr79,_⟩
  refine cwV 34 [_,_,_,_,_,_,_] ?_
  refine I6 (nxV (bo_ [3,5] ((hl59.trans hl66).trans hl73) h055) λk=>?_)
  refine hV 8 k (q:=nlV) (k:=hV 9 k (q:=q_fl 1 eO) (k:=wl_ 10 rfl (stV 4 (.slice A76 z70.length c77) #[(pq g0_45),.slice A76 z70.length c77] sizeOf66 (k:=?_))))
  refine I6 (nxV (bo_ [3,5] ((hl59.trans hl66).trans hl73) h055) λk=>?_)
  refine Ig (by kernel_rfl) ?_
  change WC _ _ _ _ _ _
  refine I4 (aV (k:=I3 ?_))
  refine I8 ?_
  intro w hw
  have hw:=hw.fold (is:=[2,2]) rfl hrow_46
  obtain⟨row_81,hrow_81,hob_81⟩:∃rw:Rowb,rw=([[(gs_,.cells #[(pq g0_45),.slice A76 z70.length c77] es_.1 (0,0))],r0_45,row78]:List Rowb).flatten∧ah.ob es_ Γ72 gs_ rw (⟨o9.log,z70⟩:ah):=⟨_,rfl,g0_45,r0_45,A76,c77,row78,rfl,(ho0_45.mono (((hl50.trans hl59).trans hl66).trans hl73)),hr79,trivial⟩
  have hw:=hw.fold (is:=[3,0,0]) rfl hrow_81
  cases h
  subst hF
  exact aL (is:=[0,0]) (by kernel_rfl) hw rfl ⟨row_81,row53,rfl,rfl,hob_81,(hr54.mono ((hl59.trans hl66).trans hl73)),iV,trivial⟩
 refine⟨_,rfl,?_⟩
 refine ecV [] (caV call10) (λw hp=>oO r_ (Rec.fits_mono hr_ (hl6.trans hl50)) hp hz57) ?_
 rintro Γ58 _ _ hl59 ⟨A62,c63,rfl,rfl,hr64,_⟩
 refine cwV 33 [_,_,_,_,_,_] ?_
 refine I6 (nxV (bo_ [2,4] hl59 h055) λk=>?_)
 refine wl_ 4 rfl (sV (ldV 3 JW) (k:=?_))
 refine I6 (nxV (bo_ [2,4] hl59 h055) λk=>?_)
 refine wl_ 7 rfl ?_
 have hc69:=(ho1_45.mono (hl50.trans hl59)).capz
 refine seR 4 [_,_,_,_,_,_] λΓ65 hl66 hr67=>?_
 have hs68:=(ho1_45.mono (hl50.trans hl59)).sl hl66 hr67
 obtain⟨z70,hz71,h⟩:=bnd h
 refine ecV [] (caV call42) (λw hp=>lM hs68 hc69 z56 (Rec.fits_mono hr64 hl66) hp hz71) ?_
 rintro Γ72 _ _ hl73 ⟨A76,c77,row78,rfl,rfl,hr79,_⟩
 refine cwV 34 [_,_,_,_,_,_,_] ?_
 refine I6 (nxV (bo_ [3,5] ((hl59.trans hl66).trans hl73) h055) λk=>?_)
 refine hV 8 k (q:=nlV) (k:=hV 9 k (q:=q_fl 1 eO) (k:=wl_ 10 rfl (stV 4 (.slice A76 z70.length c77) #[(pq g0_45),.slice A76 z70.length c77] sizeOf66 (k:=?_))))
 refine I6 (nxV (bo_ [3,5] ((hl59.trans hl66).trans hl73) h055) λk=>?_)
 refine Ig (by kernel_rfl) ?_
 change WC _ _ _ _ _ _
 refine I4 (aV (k:=I3 ?_))
 refine I8 ?_
 intro w hw
 have hw:=hw.fold (is:=[2,2]) rfl hrow_46
 obtain⟨row_81,hrow_81,hob_81⟩:∃rw:Rowb,rw=([[(gs_,.cells #[(pq g0_45),.slice A76 z70.length c77] es_.1 (0,0))],r0_45,row78]:List Rowb).flatten∧ah.ob es_ Γ72 gs_ rw (⟨o9.log,z70⟩:ah):=⟨_,rfl,g0_45,r0_45,A76,c77,row78,rfl,(ho0_45.mono (((hl50.trans hl59).trans hl66).trans hl73)),hr79,trivial⟩
 have hw:=hw.fold (is:=[3,0,0]) rfl hrow_81
 cases h
 subst hF
 exact aL (is:=[0,0]) (by kernel_rfl) hw rfl ⟨row_81,row53,rfl,rfl,hob_81,(hr54.mono ((hl59.trans hl66).trans hl73)),iV,trivial⟩
theorem rW{Av_:Option Addr}{cv_:Nat}{v_:List Int}(hv_:Sl intT Γ Av_ v_)(hv_c:v_.length≤cv_)(d:Dot)(hd:Dot.fits Γ  d)(hs:Sat Γ w0){r:Bool}(h:fM v_ d=some r):CQ Tryz.prog 48 #[.slice Av_ v_.length cv_,.agg (Dot.cs d).toArray] w0 (.bool r):=by
 refine goQ [4] func48 ntmps48 results48 hs λF hF=>?_
 refine I4 ?_
 refine bxV (v:=.agg (Dot.cs d).toArray) λg1=>?_
 refine aV (k:=I3 (I5 (I4 (aV (k:=I3 (Ia ?_))))))
 refine Ie h (λ(i3:Nat) (s:Unit) σ w=>match s with | ()=>slots σ [(0,.slice Av_ v_.length cv_),(3,(pq g1)),(5,ii (i3:Int))]∧CC F Γ [[(g1,.cells (Dot.cs d).toArray 36 (0,0))]] w∧True) ?_ ?_
 ·
  intro w hw
  exact⟨slK,hw,trivial⟩
 rintro f2 i3 ⟨⟩ σ w hi4 hlt5 hge6 ⟨hsl,hw,-⟩
 refine slV hsl hw [_] ?_; clear hw hsl
 refine I5 (I4 (mV (k:=mV (k:=sV (ag rfl JM) (k:=sV aG (k:=I3 ?_))))))
 refine coV (λhb7=>?_) (λhb7=>?_)
 ·
  have hl8:=ilt hb7
  have h:=hlt5 hl8
  refine I7 (wc_ (I5 (Ia (I4 (mV (k:=sV (q_fl 0 cJ) (k:=sV (ldV 0 Jc) (k:=?_))))))))
  refine sV fO (k:=sV bp (k:=I3 ?_))
  refine ciV h (λhb9 h=>?_) (λhb9 h=>?_)
  ·
   refine I5 ?_
   refine drV ?_
   refine zV (q_fl 1 cA) (k:=zV (ldV 0 Jl) (k:=zV bi (k:=zV moV (k:=wG1 (h:=λhg10=>moV) (k:=wG1 (h:=λhg11=>moV) (k:=wG1 (h:=λhg12=>aN (i:=i3) JM Jk rfl (grV hg12) (grV hg12) hl8 (hv_.some_ hl8)) (k:=wG1 (h:=λhg13=>q_ld (c:=0) (v:=ii (gt v_ i3)) (hv_.intT_at hl8).2 rfl Jl (grV hg13) rfl) (k:=?_))))))))
   refine wG1 (h:=λhg14=>q_fl 1 cA) (k:=wG1 (h:=λhg15=>ldV 0 Jl (hx:=grV hg15)) (k:=wG1 (h:=λhg16=>lz rfl (grV hg16) (grV hg16)) (k:=zV pkA (k:=zV aoV (k:=?_)))))
   refine Ij ?_
   change WC _ _ _ _ _ _
   exact I8 λw hw=>rq_ r h hF hw
  refine I7 (wc_ ?_)
  refine I9 ?_
  refine mV (k:=sV (aF rfl rfl rfl (aJ hl8 hv_.le)) (k:=aV (k:=?_)))
  exact I6 λw hw=>⟨hl8,(),h,slK,hw,trivial⟩
 have h:=hge6 (ige hb7)
 refine Ic ?_
 change WC _ _ _ _ _ _
 refine I4 (aV (k:=I3 ?_))
 exact I8 λw hw=>rq_ r h hF hw
abbrev oz(gl:Nat)(el:Nat×Nat)(edk0:Nat)(r:af×a7×Int)(U:List Rowb)(Γ:Gh)(v:Value):Prop := ∃(rowl':Rowb), ∃(rowdk0':Rowb),v = .int .i64 r.2.2∧U = [rowl',rowdk0']∧af.ob el Γ gl rowl' r.1∧a7.ob edk0 Γ el.2 rowdk0' r.2.1∧I64 r.2.2∧True
theorem oB{gl:Nat}{el:Nat×Nat}{rowl:Rowb}{l:af}(hl:af.ob el Γ gl rowl l){Alist:Option Addr}{clist:Nat}{list:List (List UInt8)}(hlist:Sl (slT av) Γ Alist list)(hlistc:list.length≤clist){edk0:Nat}{rowdk0:Rowb}{dk0:a7}(hdk0:a7.ob edk0 Γ el.2 rowdk0 dk0)(hp:Pre [rowl,rowdk0] Γ w0){r:af×a7×Int}(h:dl l list dk0=some r):Calls Tryz.prog 49 #[(pq gl),.slice Alist list.length clist] w0 (Outc Γ [rowl,rowdk0] w0 (oz gl el edk0 r)):=by
 refine goV [4] func49 ntmps49 results49 hp λF hF=>?_
 refine I4 (aV (k:=I3 (I5 (I4 (aV (k:=I3 (Ia ?_)))))))
 refine Ie h (λ(i2:Nat) (s:Unit) σ w=>match s with | ()=>slots σ [(0,(pq gl)),(1,.slice Alist list.length clist),(5,ii (i2:Int))]∧CC F Γ [rowl,rowdk0] w∧True) ?_ ?_
 ·
  intro w hw
  exact⟨slK,hw,trivial⟩
 rintro f1 i2 ⟨⟩ σ w hi3 hlt4 hge5 ⟨hsl,hw,-⟩
 refine slV hsl hw [_,_] ?_; clear hw hsl
 refine I5 (I4 (mV (k:=mV (k:=sV (ag rfl J7) (k:=sV aG (k:=I3 ?_))))))
 refine coV (λhb6=>?_) (λhb6=>?_)
 ·
  have hl7:=ilt hb6
  have h:=hlt4 hl7
  refine I7 (wc_ (I5 (Ia (I4 (mV (k:=mV (k:=sV (aN (i:=i2) J7 J8 rfl rfl rfl hl7 (hlist.some_ hl7)) (k:=?_))))))))
  obtain⟨A8,c9,hx10⟩:=hlist.slT_at i2
  refine sV (q_ld (c:=0) (v:=.slice A8 (gt list i2).length c9) (hx10 hl7).2 rfl J9 rfl rfl) (k:=sV (ag rfl IZ) (k:=sV bi (k:=I3 ?_)))
  refine ciV h (λhb11 h=>?_) (λhb11 h=>?_)
  ·
   refine I4 (aV (k:=I3 ?_))
   exact I8 λw hw=>re_ r [0,0] h hF hw ⟨rowl,rowdk0,rfl,rfl,hl,hdk0,iV,trivial⟩
  refine I7 (wc_ ?_)
  refine I9 ?_
  refine mV (k:=sV (aF rfl rfl rfl (aJ hl7 hlist.le)) (k:=aV (k:=?_)))
  exact I6 λw hw=>⟨hl7,(),h,slK,hw,trivial⟩
 have h:=hge5 (ige hb6)
 refine Ic ?_
 change WC _ _ _ _ _ _
 refine I5 (I4 (mV (k:=sV nlV (k:=sV (q_fl 3 li) (k:=?_)))))
 obtain⟨A4_12,c4_12,r4_12,hrow_12,ho0_12,ho1_12,ho2_12,ho3_12,ho4_12,-⟩:=id hl
 refine ufR 0 hrow_12 [_,_,_] ?_
 refine sV (ldV 0 Jl) (k:=sV lz (k:=I3 ?_))
 refine ciV h (λhb13 h=>?_) (λhb13 h=>?_)
 ·
  refine I4 (aV (k:=I3 ?_))
  refine I8 ?_
  intro w hw
  have hw:=hw.fold (is:=[0,0]) rfl hrow_12
  exact re_ r [0,0] h hF hw ⟨rowl,rowdk0,rfl,rfl,hl,hdk0,iV,trivial⟩
 refine I7 (wc_ (I5 ?_))
 refine leV λh015=>?_
 refine dW (CC F Γ [[(gl,.cells #[.pointer (some ⟨el.2,0,none⟩),.string l.name,ii l.size,ii l.gen,.slice A4_12 l.parts.length c4_12,ii l.records] el.1 (0,0))],r4_12]) (bo_ [0,0] gR h015) λk=>?_
 change WH _ _ _ _ (CC F Γ [_,_,_]) _ 20 _ _
 refine hV 0 k (q:=moV) (k:=hV 1 k (q:=nlV) (k:=hV 2 k (q:=q_fl 0 kA) (k:=hV 3 k (q:=ldV 0 JX) (k:=hV 4 k (q:=moV) (k:=hV 5 k (q:=nlV) (k:=hV 6 k (q:=q_fl 1 pt) (k:=hV 7 k (q:=ldV 0 IY) (k:=?_))))))))
 refine hV 8 k (q:=moV) (k:=hV 9 k (q:=nlV) (k:=hV 10 k (q:=q_fl 2 ya) (k:=hV 11 k (q:=ldV 0 Jc) (k:=hV 12 k (q:=moV) (k:=hV 13 k (q:=nlV) (k:=hV 14 k (q:=q_fl 3 li) (k:=hV 15 k (q:=ldV 0 Jl) (k:=?_))))))))
 refine hV 16 k (q:=bR) (k:=hV 17 k (q:=aZ (v:=.agg #[.pointer (some ⟨el.2,0,none⟩),.string l.name,ii l.size,ii (w64 (l.gen+1)),.slice none 0 0,ii 0]) rfl (EQ rfl rfl rfl rfl) (λw=>by kernel_rfl)) (k:=wl_ 18 rfl ?_))
 refine bxV (v:=.agg #[.pointer (some ⟨el.2,0,none⟩),.string l.name,ii l.size,ii (w64 (l.gen+1)),.slice none 0 0,ii 0]) λg16=>?_
 refine I6 (nxV (bo_ [1,1] gR h015) λk=>?_)
 refine hV 19 k (q:=aoV) (k:=?_)
 refine Ig (by kernel_rfl) ?_
 change WC _ _ _ _ _ _
 refine I4 (aV (k:=I3 (I5 (I4 (aV (k:=I3 (Ia ?_)))))))
 refine foC [1,1] hrow_12 [_,_,_] ?_
 refine WC.sub (λw hw=>hw.pad) ?_
 obtain⟨row_18,hrow_18,hob_18⟩:∃rw:Rowb,rw=([[(g16,.cells #[.pointer (some ⟨el.2,0,none⟩),.string l.name,ii l.size,ii (w64 (l.gen+1)),.slice none 0 0,ii 0] 109 (0,0))],[]]:List Rowb).flatten∧af.ob (109,el.2) Γ g16 rw (⟨l.name,l.size,(w64 (l.gen+1)),[],0⟩:af):=⟨_,rfl,none,0,[],rfl,ho0_12,ho1_12,(dR _),(Own.nil intT Γ 3),iV,trivial⟩
 refine foC [2,0] hrow_18 [_,_,_] ?_
 refine Il h (λ(s:Int×Int×af×a7) σ w=>match s with | (e_21,i_23,o25,o28) => ∃(Γ19:Gh), ∃(row26:Rowb), ∃(row29:Rowb),slots σ [(0,(pq gl)),(1,.slice Alist list.length clist),(6,(pq g16)),(7,ii e_21),(8,ii i_23)]∧CC F Γ19 [row26,rowl,row29] w∧Gh.le Γ Γ19∧I64 e_21∧I64 i_23∧af.ob (109,el.2) Γ19 g16 row26 o25∧a7.ob edk0 Γ19 el.2 row29 o28∧True) ?_ ?_
 ·
  intro w hw
  exact⟨Γ,row_18,rowdk0,slK,hw,gR,iV,iV,hob_18,hdk0,trivial⟩
 rintro f31 ⟨e_21,i_23,o25,o28⟩ σ w h ⟨Γ19,row26,row29,hsl,hw,hl20,hr22,hr24,ho27,ho30,-⟩
 refine slV hsl hw [_,_,_] ?_; clear hw hsl
 refine I5 (I4 (mV (k:=mV (k:=sV (ag rfl J7) (k:=sV aG (k:=mV (k:=vG1 (h:=λhg35=>moV) (k:=?_))))))))
 refine vG1 (h:=λhg36=>bp rfl (grV hg36)) (k:=sV pkA (k:=I3 ?_))
 refine ciV h (λhb37 h=>?_) (λhb37 h=>?_)
 ·
  refine I7 (wc_ (I5 (Ia ?_)))
  refine I9 ?_
  refine mV (k:=mV (k:=mV (k:=?_)))
  obtain⟨hk38,h⟩:=am h
  refine sV (q_ix J7 J8 rfl rfl rfl hk38 ((hlist.mono hl20).some_ (bc hk38))) (k:=?_)
  obtain⟨A39,c40,hx41⟩:=(hlist.mono hl20).slT_at i_23.toNat
  refine sV (q_ld (c:=0) (v:=.slice A39 (gt list i_23.toNat).length c40) (hx41 (bc hk38)).2 rfl J9 rfl rfl) (k:=?_)
  obtain⟨z42,hz43,h⟩:=bnd h
  refine ecV [0,1] (caV call43) (λw hp=>la ho27 (hx41 (bc hk38)).1.2 (hx41 (bc hk38)).1.1 ho30 hp hz43) ?_
  rintro Γ44 _ _ hl45 ⟨row48,row50,rfl,rfl,hr49,hr51,hr52,_⟩
  refine cwV 60 [_,_,_] (aV (k:=?_))
  refine I6 ?_
  change WC _ _ _ _ _ _
  refine I9 ?_
  refine mV (k:=sV bR (k:=aV (k:=?_)))
  exact I6 λw hw=>⟨(z42.2.2,(w64 (i_23+1)),z42.1,z42.2.1),h,Γ44,row48,row50,slK,(hw.on [0,1,0]),(hl20.trans hl45),hr52,(dR _),hr49,hr51,trivial⟩
 refine Ic ?_
 change WC _ _ _ _ _ _
 refine Id (λσ w => ∃(e_55:Int), ∃(o57:a7), ∃(Γ53:Gh), ∃(row58:Rowb),bN l o25 e_55 o57=some r∧slots σ [(0,(pq gl)),(6,(pq g16)),(7,ii e_55)]∧CC F Γ53 [row26,rowl,row58] w∧Gh.le Γ19 Γ53∧I64 e_55∧a7.ob edk0 Γ53 el.2 row58 o57∧True) ?_ ?_
 ·
  refine I4 (mV (k:=sV bp (k:=I3 ?_)))
  refine ciV h (λhb60 h=>?_) (λhb60 h=>?_)
  ·
   refine I4 (mV (k:=sV nlV (k:=sV (q_fl 0 kA) (k:=?_))))
   obtain⟨A4_61,c4_61,r4_61,hrow_61,ho0_61,ho1_61,ho2_61,ho3_61,ho4_61,-⟩:=(hl.mono hl20)
   refine ufR 1 hrow_61 [_,_,_,_] ?_
   refine sV (ldV 0 JX) (k:=?_)
   obtain⟨z62,hz63,h⟩:=bnd h
   refine ecV [3] (caV call45) (λw hp=>ec ho30 hp hz63) ?_
   rintro Γ64 _ _ hl65 ⟨row68,rfl,rfl,hr69,_⟩
   refine cwV 67 [_,_,_,_] (I3 ?_)
   refine leV λh070=>?_
   refine dW (CC F Γ64 [[(gl,.cells #[.pointer (some ⟨el.2,0,none⟩),.string l.name,ii l.size,ii l.gen,.slice A4_61 l.parts.length c4_61,ii l.records] el.1 (0,0))],r4_61]) (bo_ [1,1] gR h070) λk=>?_
   change WH _ _ _ _ (CC F Γ64 [_,_,_,_]) _ 17 _ _
   refine hV 0 k (q:=moV) (k:=hV 1 k (q:=nlV) (k:=hV 2 k (q:=q_fl 0 kA) (k:=hV 3 k (q:=ldV 0 JX) (k:=hV 4 k (q:=moV) (k:=hV 5 k (q:=nlV) (k:=hV 6 k (q:=q_fl 1 pt) (k:=hV 7 k (q:=ldV 0 IY) (k:=?_))))))))
   refine hV 8 k (q:=kK rfl rfl rfl ho0_61 (show (⟨#[46,109]⟩:ByteArray).size≤lim by decide)) (k:=hV 9 k (q:=moV) (k:=hV 10 k (q:=nlV) (k:=hV 11 k (q:=q_fl 3 li) (k:=wl_ 12 rfl ?_))))
   obtain⟨A4_71,c4_71,r4_71,hrow_71,ho0_71,ho1_71,ho2_71,ho3_71,ho4_71,-⟩:=(ho27.mono hl65)
   refine ufR 3 hrow_71 [_,_,_,_,_] ?_
   refine sV (ldV 0 Jl) (k:=?_)
   refine I6 (nxV (bo_ [3,3] gR h070) λk=>?_)
   refine wl_ 13 rfl ?_
   obtain⟨z72,hz73,h⟩:=bnd h
   refine ecV [] (caV call98) (λw hp=>iH o25.gen ho2_71 hp hz73) ?_
   rintro Γ74 _ _ hl75 ⟨A78,c79,row80,rfl,rfl,hr81,_⟩
   refine cwV 81 [_,_,_,_,_,_] ?_
   refine I6 (nxV (bo_ [4,4] hl75 h070) λk=>?_)
   refine wl_ 14 rfl ?_
   have hc86:=hr81.capz
   refine seR 0 [_,_,_,_,_,_] λΓ82 hl83 hr84=>?_
   have hs85:=hr81.sl hl83 hr84
   obtain⟨z87,hz88,h⟩:=bnd h
   refine ecV [] (caV call92) (λw hp=>mh hs85 hc86 hp hz88) ?_
   rintro Γ89 _ _ hl90 ⟨A93,c94,row95,rfl,rfl,hr96,_⟩
   refine cwV 82 [_,_,_,_,_,_,_] ?_
   refine I6 (nxV (bo_ [5,5] ((hl75.trans hl83).trans hl90) h070) λk=>?_)
   refine wl_ 15 rfl ?_
   have hc101:=hr96.capz
   refine seR 0 [_,_,_,_,_,_,_] λΓ97 hl98 hr99=>?_
   have hs100:=hr96.sl hl98 hr99
   obtain⟨hk102,h⟩:=am h
   obtain⟨z103,hz104,h⟩:=bnd h
   refine ecV [4] (caV call22) (λw hp=>iw (hr69.mono (((hl75.trans hl83).trans hl90).trans hl98)) (l.name++(⟨#[46,109]⟩:ByteArray)) (Ip hk102) hs100 hc101 hp hz104) ?_
   rintro Γ105 _ _ hl106 ⟨row109,rfl,rfl,hr110,hr111,_⟩
   refine cwV 83 [_,_,_,_,_,_,_] ?_
   refine I6 (nxV (bo_ [5,5] ((((hl75.trans hl83).trans hl90).trans hl98).trans hl106) h070) λk=>?_)
   refine hV 16 k (q:=aoV) (k:=?_)
   refine Ig (by kernel_rfl) ?_
   intro w hw
   have hw:=hw.fold (is:=[3,3]) rfl hrow_71
   have hw:=hw.fold (is:=[4,4]) rfl hrow_61
   exact⟨z103.2,z103.1,Γ105,row109,h,slK,(hw.on [1,0,0]),(((((hl65.trans hl75).trans hl83).trans hl90).trans hl98).trans hl106),hr111,hr110,trivial⟩
  exact I7 λw hw=>⟨e_21,o28,Γ19,row29,h,slK,hw,gR,hr22,ho30,trivial⟩
 rintro σ w ⟨e_55,o57,Γ53,row58,h,hsl,hw,hl54,hr56,ho59,-⟩
 refine slV hsl hw [_,_,_] ?_; clear hw hsl
 refine I5 (I4 (mV (k:=sV bD (k:=I3 ?_))))
 refine ciV h (λhb114 h=>?_) (λhb114 h=>?_)
 ·
  refine I5 ?_
  obtain⟨A4_115,c4_115,r4_115,hrow_115,ho0_115,ho1_115,ho2_115,ho3_115,ho4_115,-⟩:=(hl.mono (hl20.trans hl54))
  refine ufC 1 hrow_115 [_,_,_,_] ?_
  refine leV λh0116=>?_
  refine dW (CC F Γ53 [[(gl,.cells #[.pointer (some ⟨el.2,0,none⟩),.string l.name,ii l.size,ii l.gen,.slice A4_115 l.parts.length c4_115,ii l.records] el.1 (0,0))],r4_115]) (bo_ [0,0] gR h0116) λk=>?_
  change WH _ _ _ _ (CC F Γ53 [_,_,_,_]) _ 13 _ _
  refine hV 0 k (q:=moV) (k:=hV 1 k (q:=nlV) (k:=hV 2 k (q:=q_fl 0 kA) (k:=hV 3 k (q:=ldV 0 JX) (k:=hV 4 k (q:=moV) (k:=hV 5 k (q:=nlV) (k:=hV 6 k (q:=q_fl 1 pt) (k:=hV 7 k (q:=ldV 0 IY) (k:=?_))))))))
  refine hV 8 k (q:=moV) (k:=hV 9 k (q:=nlV) (k:=hV 10 k (q:=q_fl 3 li) (k:=wl_ 11 rfl ?_)))
  obtain⟨A4_117,c4_117,r4_117,hrow_117,ho0_117,ho1_117,ho2_117,ho3_117,ho4_117,-⟩:=(ho27.mono hl54)
  refine ufR 2 hrow_117 [_,_,_,_,_] ?_
  refine sV (ldV 0 Jl) (k:=?_)
  refine I6 (nxV (bo_ [2,2] gR h0116) λk=>?_)
  refine wl_ 12 rfl ?_
  obtain⟨z118,hz119,h⟩:=bnd h
  refine ecV [4] (caV call87) (λw hp=>iP ho59 l.name ho0_115 o25.gen ho2_117 false 0 iV hp hz119) ?_
  rintro Γ120 _ _ hl121 ⟨row124,rfl,rfl,hr125,_⟩
  refine cwV 98 [_,_,_,_,_] ?_
  refine I6 (nxV (bo_ [3,3] hl121 h0116) λk=>?_)
  refine Ig (by kernel_rfl) ?_
  change WC _ _ _ _ _ _
  refine I4 (mV (k:=aV (k:=I3 ?_)))
  refine I8 ?_
  intro w hw
  have hw:=hw.fold (is:=[3,3]) rfl hrow_115
  exact re_ r [0,0] h hF hw ⟨rowl,row124,rfl,rfl,(hl.mono ((hl20.trans hl54).trans hl121)),hr125,hr56,trivial⟩
 refine I7 (wc_ (I4 (mV (k:=sV nlV (k:=sV (q_fl 0 kA) (k:=?_))))))
 obtain⟨A4_127,c4_127,r4_127,hrow_127,ho0_127,ho1_127,ho2_127,ho3_127,ho4_127,-⟩:=(hl.mono (hl20.trans hl54))
 refine ufR 1 hrow_127 [_,_,_,_] ?_
 refine sV (ldV 0 JX) (k:=?_)
 obtain⟨z128,hz129,h⟩:=bnd h
 refine ecV [3] (caV call45) (λw hp=>ec ho59 hp hz129) ?_
 rintro Γ130 _ _ hl131 ⟨row134,rfl,rfl,hr135,_⟩
 refine cwV 104 [_,_,_,_] (I3 (I5 ?_))
 refine leV λh0136=>?_
 refine dW (CC F Γ130 [[(gl,.cells #[.pointer (some ⟨el.2,0,none⟩),.string l.name,ii l.size,ii l.gen,.slice A4_127 l.parts.length c4_127,ii l.records] el.1 (0,0))],r4_127]) (bo_ [1,1] gR h0136) λk=>?_
 change WH _ _ _ _ (CC F Γ130 [_,_,_,_]) _ 13 _ _
 refine hV 0 k (q:=moV) (k:=hV 1 k (q:=nlV) (k:=hV 2 k (q:=q_fl 0 kA) (k:=hV 3 k (q:=ldV 0 JX) (k:=hV 4 k (q:=moV) (k:=hV 5 k (q:=nlV) (k:=hV 6 k (q:=q_fl 1 pt) (k:=hV 7 k (q:=ldV 0 IY) (k:=?_))))))))
 refine hV 8 k (q:=moV) (k:=hV 9 k (q:=nlV) (k:=hV 10 k (q:=q_fl 3 li) (k:=hV 11 k (q:=ldV 0 Jl) (k:=wl_ 12 rfl ?_))))
 obtain⟨z137,hz138,h⟩:=bnd h
 refine ecV [0] (caV call87) (λw hp=>iP hr135 l.name ho0_127 l.gen ho2_127 false 0 iV hp hz138) ?_
 rintro Γ139 _ _ hl140 ⟨row143,rfl,rfl,hr144,_⟩
 refine cwV 117 [_,_,_,_] ?_
 refine I6 (nxV (bo_ [1,1] hl140 h0136) λk=>?_)
 refine Ig (by kernel_rfl) ?_
 change WC _ _ _ _ _ _
 refine I4 (mV (k:=sV nlV (k:=sV (q_fl 0 kA) (k:=sV (ldV 1 JX) (k:=?_)))))
 obtain⟨z145,hz146,h⟩:=bnd h
 refine ecV [0] (caV call45) (λw hp=>ec hr144 hp hz146) ?_
 rintro Γ147 _ _ hl148 ⟨row151,rfl,rfl,hr152,_⟩
 refine cwV 122 [_,_,_,_] (I3 (I4 (mV (k:=mV (k:=sV nlV (k:=sV (q_fl 3 li) (k:=?_)))))))
 obtain⟨A4_153,c4_153,r4_153,hrow_153,ho0_153,ho1_153,ho2_153,ho3_153,ho4_153,-⟩:=(ho27.mono (((hl54.trans hl131).trans hl140).trans hl148))
 refine ufR 3 hrow_153 [_,_,_,_,_] ?_
 refine sV (ldV 0 Jl) (k:=sV nlV (k:=sV (q_fl 3 li) (k:=stV 3 (ii o25.gen) #[.pointer (some ⟨el.2,0,none⟩),.string l.name,ii l.size,ii o25.gen,.slice A4_127 l.parts.length c4_127,ii l.records] Jk (k:=I3 (I4 (mV (k:=mV (k:=?_))))))))
 refine sV nlV (k:=sV (q_fl 4 ft) (k:=sV (ldV 0 JU) (k:=sV nlV (k:=sV (q_fl 4 ft) (k:=stV 3 (.slice A4_153 o25.parts.length c4_153) #[.pointer (some ⟨el.2,0,none⟩),.string l.name,ii l.size,ii o25.gen,.slice A4_153 o25.parts.length c4_153,ii l.records] sizeOf107 (k:=I3 (I4 ?_)))))))
 refine mV (k:=mV (k:=sV nlV (k:=sV (q_fl 5 nB) (k:=sV (ldV 0 Jc) (k:=sV nlV (k:=sV (q_fl 5 nB) (k:=stV 3 (ii o25.records) #[.pointer (some ⟨el.2,0,none⟩),.string l.name,ii l.size,ii o25.gen,.slice A4_153 o25.parts.length c4_153,ii o25.records] Jb (k:=?_))))))))
 refine I3 (I4 (aV (k:=I3 ?_)))
 refine I8 ?_
 intro w hw
 obtain⟨row_154,hrow_154,hob_154⟩:∃rw:Rowb,rw=([[(gl,.cells #[.pointer (some ⟨el.2,0,none⟩),.string l.name,ii l.size,ii o25.gen,.slice A4_153 o25.parts.length c4_153,ii o25.records] el.1 (0,0))],r4_153]:List Rowb).flatten∧af.ob el Γ147 gl rw (⟨l.name,l.size,o25.gen,o25.parts,o25.records⟩:af):=⟨_,rfl,A4_153,c4_153,r4_153,rfl,ho0_127,ho1_127,ho2_153,ho3_153,ho4_153,trivial⟩
 have hw:=hw.fold (is:=[3,1]) rfl hrow_154
 cases h
 subst hF
 exact aL (is:=[0,1]) (by kernel_rfl) hw rfl ⟨row_154,row151,rfl,rfl,hob_154,hr152,iV,trivial⟩
abbrev oT(gs_:Nat)(es_:Nat×Nat)(edk0:Nat)(r:ah×a7×Int)(U:List Rowb)(Γ:Gh)(v:Value):Prop := ∃(rows_':Rowb), ∃(rowdk0':Rowb),v = .int .i64 r.2.2∧U = [rows_',rowdk0']∧ah.ob es_ Γ gs_ rows_' r.1∧a7.ob edk0 Γ es_.2 rowdk0' r.2.1∧I64 r.2.2∧True
theorem pg{gs_:Nat}{es_:Nat×Nat}{rows_:Rowb}{s_:ah}(hs_:ah.ob es_ Γ gs_ rows_ s_){Afloor:Option Addr}{cfloor:Nat}{floor:List Int}(hfloor:Sl intT Γ Afloor floor)(hfloorc:floor.length≤cfloor){edk0:Nat}{rowdk0:Rowb}{dk0:a7}(hdk0:a7.ob edk0 Γ es_.2 rowdk0 dk0)(hp:Pre [rows_,rowdk0] Γ w0){r:ah×a7×Int}(h:cF s_ floor dk0=some r):Calls Tryz.prog 18 #[(pq gs_),.slice Afloor floor.length cfloor] w0 (Outc Γ [rows_,rowdk0] w0 (oT gs_ es_ edk0 r)):=by
 refine goV [4] func18 ntmps18 results18 hp λF hF=>?_
 refine I4 (aV (k:=I3 (I4 (aV (k:=I3 (I4 (aV (k:=?_))))))))
 refine I3 (I5 (I4 (aV (k:=I3 (Ia ?_)))))
 refine Ie h (λ(i14:Nat) (s:(List Rec)×(List (List UInt8))) σ w=>match s with | (left_3,list_8) => ∃(Γ1:Gh), ∃(A4:Option Addr), ∃(c5:Nat), ∃(row6:Rowb), ∃(A9:Option Addr), ∃(c10:Nat), ∃(row11:Rowb),slots σ [(0,(pq gs_)),(1,.slice Afloor floor.length cfloor),(5,.slice A4 left_3.length c5),(6,.slice A9 list_8.length c10),(7,ii (i14:Int))]∧CC F Γ1 [row6,row11,rows_,rowdk0] w∧Gh.le Γ Γ1∧Own recT Γ1 24 row6 A4 c5 left_3∧Own (slT av) Γ1 51 row11 A9 c10 list_8∧True) ?_ ?_
 ·
  intro w hw
  have hw:=hw.pad
  have hw:=hw.pad
  exact⟨Γ,none,0,[],none,0,[],slK,(hw.on [1,0,0,0]),gR,(Own.nil recT _ 24),(Own.nil (slT av) _ 51),trivial⟩
 rintro f13 i14 ⟨left_3,list_8⟩ σ w hi15 hlt16 hge17 ⟨Γ1,A4,c5,row6,A9,c10,row11,hsl,hw,hl2,ho7,ho12,-⟩
 refine slV hsl hw [_,_,_,_] ?_; clear hw hsl
 refine I5 (I4 (mV (k:=mV (k:=sV nlV (k:=sV (q_fl 1 eO) (k:=?_))))))
 obtain⟨g0_18,r0_18,A1_18,c1_18,r1_18,hrow_18,ho0_18,ho1_18,-⟩:=(hs_.mono hl2)
 refine ufR 2 hrow_18 [_,_,_,_,_,_] ?_
 refine sV (ldV 0 JW) (k:=sV (ag rfl JN) (k:=sV aG (k:=I3 ?_)))
 refine coV (λhb19=>?_) (λhb19=>?_)
 ·
  have hl20:=ilt hb19
  have h:=hlt16 hl20
  refine I7 (wc_ ?_)
  refine foC [0,0,0] hrow_18 [_,_,_,_] ?_
  refine Id (λσ w => ∃(left_24:List Rec), ∃(list_29:List (List UInt8)), ∃(Γ22:Gh), ∃(A25:Option Addr), ∃(c26:Nat), ∃(row27:Rowb), ∃(A30:Option Addr), ∃(c31:Nat), ∃(row32:Rowb),ea f13 left_24 list_29=some r∧slots σ [(0,(pq gs_)),(1,.slice Afloor floor.length cfloor),(5,.slice A25 left_24.length c26),(6,.slice A30 list_29.length c31),(7,ii (i14:Int))]∧CC F Γ22 [row27,row32,rows_,rowdk0] w∧Gh.le Γ1 Γ22∧Own recT Γ22 24 row27 A25 c26 left_24∧Own (slT av) Γ22 51 row32 A30 c31 list_29∧True) ?_ ?_
  ·
   refine Ia (I4 (mV (k:=sV nlV (k:=sV (q_fl 1 eO) (k:=?_)))))
   obtain⟨g0_34,r0_34,A1_34,c1_34,r1_34,hrow_34,ho0_34,ho1_34,-⟩:=(hs_.mono hl2)
   refine ufR 0 hrow_34 [_,_,_,_,_,_] ?_
   refine sV (ldV 0 JW) (k:=mV (k:=sV (aN (i:=i14) JN Jz rfl rfl rfl hl20 (ho1_34.some_ hl20)) (k:=sV (ay (i14*2+1) ci rfl rfl (ho1_34.some_ hl20) rfl) (k:=?_))))
   obtain⟨A35,c36,hx37⟩:=ho1_34.recT_at i14
   refine sV (lQ (c:=1) (v:=.slice A35 ((gt s_.list i14).vers).length c36) (i:=2) rfl (hx37 hl20).2 rfl JH rfl rfl) (k:=aV (k:=I3 (I5 (I4 (mV (k:=sV (ag rfl JE) (k:=sV bp (k:=?_))))))))
   refine mV (k:=vG1 (h:=λhg38=>moV) (k:=?_))
   obtain⟨hk40,h⟩:=am h
   refine vG1 (h:=λhg39=>aN (i:=0) JE Ju rfl (grV hg39) rfl (Ip (b5 hk40 hg39)) ((hx37 hl20).1.2.2.some_ (Ip (b5 hk40 hg39)))) (k:=vG1 (h:=λhg41=>ay (0*5+3) jC rfl (grV hg41) ((hx37 hl20).1.2.2.some_ (Ip (b5 hk40 hg41))) rfl) (k:=?_))
   obtain⟨A43,c44,hx45⟩:=(hx37 hl20).1.2.2.verT_at 0
   refine vG1 (h:=λhg42=>q_ld (c:=3) (v:=.bool (gt ((gt s_.list i14).vers) 0).gone) (hx45 (Ip (b5 hk40 hg42))).2 rfl JD (grV hg42) rfl) (k:=sV pkA (k:=mV (k:=vG1 (h:=λhg46=>moV) (k:=vG1 (h:=λhg47=>moV) (k:=?_)))))
   obtain⟨hk49,h⟩:=am h
   refine vG1 (h:=λhg48=>aN (i:=0) JE Ju rfl (grV hg48) rfl (Ip (b5 hk49 hg48)) ((hx37 hl20).1.2.2.some_ (Ip (b5 hk49 hg48)))) (k:=vG1 (h:=λhg50=>ay (0*5) bO rfl (grV hg50) ((hx37 hl20).1.2.2.some_ (Ip (b5 hk49 hg50))) rfl) (k:=vG1 (h:=λhg51=>jx (c:=0) (vs:=[ii (gt ((gt s_.list i14).vers) 0).dot.s,ii (gt ((gt s_.list i14).vers) 0).dot.n]) (hx45 (Ip (b5 hk49 hg51))).2 rfl JF JG (grV hg51) rfl rfl) (k:=?_)))
   obtain⟨z53,hz54,h⟩:=bnd h
   refine vC1 (h:=λhg52=>bK (bb call48 rfl rfl (jX (grV hg52) (grV hg52))) (λw hw=>rW (Γ:=Gh.all w) ((hfloor.mono hl2).mono hw.sat.le_all) hfloorc ((gt ((gt s_.list i14).vers) 0).dot) ⟨(hx45 (Ip (b5 hk49 hg52))).1.1,(hx45 (Ip (b5 hk49 hg52))).1.2.1⟩ (Sat.all w) (jv hz54 hg52))) (k:=sV pkA (k:=I3 ?_))
   refine ciV h (λhb55 h=>?_) (λhb55 h=>?_)
   ·
    refine Ic ?_
    intro w hw
    have hw:=hw.fold (is:=[0,0,0]) rfl hrow_34
    exact⟨left_3,list_8,Γ1,A4,c5,row6,A9,c10,row11,h,slK,(hw.on [1,1,0,0]),gR,ho7,ho12,trivial⟩
   refine I7 (wc_ (I4 (mV (k:=mV (k:=sV nlV (k:=sV (q_fl 1 eO) (k:=sV (ldV 0 JW) (k:=?_))))))))
   refine mV (k:=sV (aN (i:=i14) JN Jz rfl rfl rfl hl20 (ho1_34.some_ hl20)) (k:=sV (uB (c:=0) (vs:=(Rec.cs A35 c36 (gt s_.list i14))) (i:=2) rfl (hx37 hl20).2 rfl JA Jz rfl rfl) (k:=?_)))
   refine bsV (Rec.cs A35 c36 (gt s_.list i14)).toArray 24 λg57=>?_
   obtain⟨hk58,h⟩:=am h
   refine apV 4 [(gt s_.list i14)] tH ho7 (Ip hk58) (λw hw=>bM (i:=0) rfl (by exact⟨A35,c36,rfl,(hx37 hl20).1⟩) hw) ?_
   intro row59 A60 c61 ho62
   refine aV (k:=I3 ?_)
   refine I9 ?_
   refine mV (k:=mV (k:=sV nlV (k:=sV (q_fl 1 eO) (k:=sV (ldV 1 JW) (k:=mV (k:=sV (aN (i:=i14) JN Jz rfl rfl rfl hl20 (ho1_34.some_ hl20)) (k:=sV (uB (c:=0) (vs:=(Rec.cs A35 c36 (gt s_.list i14))) (i:=3) rfl (hx37 hl20).2 rfl JA Jz rfl rfl) (k:=?_))))))))
   obtain⟨z63,hz64,h⟩:=bnd h
   refine ecV [] (caV call44) (λw hp=>nh (gt s_.list i14) (hx37 hl20).1 hp hz64) ?_
   rintro Γ65 _ _ hl66 ⟨A69,c70,row71,rfl,rfl,hr72,_⟩
   refine cwV 62 [_,_,_,_,_,_,_,_] ?_
   have hc77:=hr72.capz
   refine seR 0 [_,_,_,_,_,_,_,_] λΓ73 hl74 hr75=>?_
   have hs76:=hr72.sl hl74 hr75
   refine bsV #[.slice A69 z63.length c70] 51 λg78=>?_
   obtain⟨hk79,h⟩:=am h
   refine apV 7 [z63] rG (ho12.mono (hl66.trans hl74)) (Ip hk79) (λw hw=>bM (i:=0) rfl (by exact⟨A69,c70,rfl,hc77,hs76⟩) hw) ?_
   intro row80 A81 c82 ho83
   refine aV (k:=?_)
   refine I6 ?_
   intro w hw
   have hw:=hw.fold (is:=[3,3,3]) rfl hrow_34
   exact⟨(left_3++[(gt s_.list i14)]),(list_8++[z63]),Γ73,A60,c61,row59,A81,c82,row80,h,slK,(hw.on [4,4,0,3]),(hl66.trans hl74),(ho62.mono (hl66.trans hl74)),ho83,trivial⟩
  rintro σ w ⟨left_24,list_29,Γ22,A25,c26,row27,A30,c31,row32,h,hsl,hw,hl23,ho28,ho33,-⟩
  refine slV hsl hw [_,_,_,_] ?_; clear hw hsl
  refine I9 ?_
  refine mV (k:=sV (aF rfl rfl rfl (aJ hl20 ho1_18.le)) (k:=aV (k:=?_)))
  exact I6 λw hw=>⟨hl20,(left_24,list_29),h,Γ22,A25,c26,row27,A30,c31,row32,slK,hw,(hl2.trans hl23),ho28,ho33,trivial⟩
 have h:=hge17 (ige hb19)
 refine Ic ?_
 change WC _ _ _ _ _ _
 refine I4 (mV (k:=sV nlV (k:=sV (q_fl 0 rM) (k:=sV (ldV 0 isAgg97) (k:=mV (k:=?_))))))
 have hc89:=ho12.capz
 refine seR 4 [_,_,_,_,_,_] λΓ85 hl86 hr87=>?_
 have hs88:=ho12.sl hl86 hr87
 obtain⟨z90,hz91,h⟩:=bnd h
 refine ecV [1,4] (caV call49) (λw hp=>oB (ho0_18.mono hl86) hs88 hc89 (hdk0.mono (hl2.trans hl86)) hp hz91) ?_
 rintro Γ92 _ _ hl93 ⟨row96,row98,rfl,rfl,hr97,hr99,hr100,_⟩
 refine cwV 70 [_,_,_,_,_,_] (aV (k:=I3 (I5 (I4 (mV (k:=sV bp (k:=I3 ?_)))))))
 refine ciV h (λhb101 h=>?_) (λhb101 h=>?_)
 ·
  refine I9 ?_
  refine mV (k:=mV (k:=sV nlV (k:=sV (q_fl 1 eO) (k:=stV 2 (.slice A4 left_3.length c5) #[(pq g0_18),.slice A4 left_3.length c5] sizeOf66 (k:=?_)))))
  refine I6 ?_
  change WC _ _ _ _ _ _
  refine I4 (mV (k:=aV (k:=I3 ?_)))
  refine I8 ?_
  intro w hw
  obtain⟨row_102,hrow_102,hob_102⟩:∃rw:Rowb,rw=([[(gs_,.cells #[(pq g0_18),.slice A4 left_3.length c5] es_.1 (0,0))],row96,row6]:List Rowb).flatten∧ah.ob es_ Γ92 gs_ rw (⟨z90.1,left_3⟩:ah):=⟨_,rfl,g0_18,row96,A4,c5,row6,rfl,hr97,(ho7.mono (hl86.trans hl93)),trivial⟩
  have hw:=hw.fold (is:=[2,0,2]) rfl hrow_102
  cases h
  subst hF
  exact aL (is:=[0,0]) (by kernel_rfl) hw rfl ⟨row_102,row98,rfl,rfl,hob_102,hr99,hr100,trivial⟩
 refine I7 (wc_ (I4 (mV (k:=aV (k:=I3 ?_)))))
 refine I8 ?_
 intro w hw
 obtain⟨row_103,hrow_103,hob_103⟩:∃rw:Rowb,rw=([[(gs_,.cells #[(pq g0_18),.slice A1_18 s_.list.length c1_18] es_.1 (0,0))],row96,r1_18]:List Rowb).flatten∧ah.ob es_ Γ92 gs_ rw (⟨z90.1,s_.list⟩:ah):=⟨_,rfl,g0_18,row96,A1_18,c1_18,r1_18,rfl,hr97,(ho1_18.mono (hl86.trans hl93)),trivial⟩
 have hw:=hw.fold (is:=[2,0,1]) rfl hrow_103
 cases h
 subst hF
 exact aL (is:=[0,0]) (by kernel_rfl) hw rfl ⟨row_103,row98,rfl,rfl,hob_103,hr99,hr100,trivial⟩
abbrev oQ(gd:Nat)(ed:Nat)(r:a7)(U:List Rowb)(Γ:Gh)(v:Value):Prop := ∃(rowd':Rowb),v = .tuple #[]∧U = [rowd']∧a7.ob ed Γ gd rowd' r∧True
theorem pe{gd ed:Nat}{rowd:Rowb}{d:a7}(hd:a7.ob ed Γ gd rowd d)(keep:Int)(hkeep:I64 keep)(torn:Int)(htorn:I64 torn)(hp:Pre [rowd] Γ w0){r:a7}(h:dN d keep torn=some r):Calls Tryz.prog 20 #[(pq gd),ii keep,ii torn] w0 (Outc Γ [rowd] w0 (oQ gd ed r)):=by
 refine goV [] func20 ntmps20 results20 hp λF hF=>?_
 refine I4 (mV (k:=sV nlV (k:=sV (q_fl 1 tf) (k:=?_))))
 obtain⟨A1_1,c1_1,A2_1,c2_1,r2_1,hrow_1,ho0_1,ho1_1,ho2_1,ho3_1,-⟩:=id hd
 refine ufR 0 hrow_1 [_,_] ?_
 refine sV (ldV 0 isAgg62) (k:=aV (k:=I3 (I5 (I4 (aV (k:=I3 (Ia ?_)))))))
 refine foC [0,0] hrow_1 [_] ?_
 refine Ie h (λ(i11:Nat) (l_5:List ab) σ w => ∃(Γ3:Gh), ∃(A6:Option Addr), ∃(c7:Nat),slots σ [(0,(pq gd)),(1,ii keep),(2,ii torn),(6,.slice A6 l_5.length c7),(7,ii (i11:Int))]∧CC F Γ3 [rowd] w∧Gh.le Γ Γ3∧l_5.length≤c7∧Sl aA Γ3 A6 l_5∧True) ?_ ?_
 ·
  intro w hw
  exact⟨Γ,A1_1,c1_1,slK,hw,gR,ho1_1,ho2_1,trivial⟩
 rintro f10 i11 l_5 σ w hi12 hlt13 hge14 ⟨Γ3,A6,c7,hsl,hw,hl4,hc9,hs8,-⟩
 refine slV hsl hw [_] ?_; clear hw hsl
 refine I5 (I4 (mV (k:=mV (k:=sV nlV (k:=sV (q_fl 2 ki) (k:=?_))))))
 obtain⟨A1_15,c1_15,A2_15,c2_15,r2_15,hrow_15,ho0_15,ho1_15,ho2_15,ho3_15,-⟩:=(hd.mono hl4)
 refine ufR 0 hrow_15 [_,_] ?_
 refine sV (ldV 0 JR) (k:=sV (ag rfl JS) (k:=sV aG (k:=I3 ?_)))
 refine coV (λhb16=>?_) (λhb16=>?_)
 ·
  have hl17:=ilt hb16
  have h:=hlt13 hl17
  refine I7 (wc_ ?_)
  refine foC [0,0] hrow_15 [_] ?_
  refine Id (λσ w => ∃(l_21:List ab), ∃(Γ19:Gh), ∃(A22:Option Addr), ∃(c23:Nat),bj f10 l_21=some r∧slots σ [(0,(pq gd)),(1,ii keep),(2,ii torn),(6,.slice A22 l_21.length c23),(7,ii (i11:Int))]∧CC F Γ19 [rowd] w∧Gh.le Γ3 Γ19∧l_21.length≤c23∧Sl aA Γ19 A22 l_21∧True) ?_ ?_
  ·
   refine Ia (I4 (mV (k:=sV nlV (k:=sV (q_fl 2 ki) (k:=?_)))))
   obtain⟨A1_26,c1_26,A2_26,c2_26,r2_26,hrow_26,ho0_26,ho1_26,ho2_26,ho3_26,-⟩:=(hd.mono hl4)
   refine ufR 0 hrow_26 [_,_] ?_
   refine sV (ldV 0 JR) (k:=mV (k:=sV (aN (i:=i11) JS JT rfl rfl rfl hl17 (ho3_26.some_ hl17)) (k:=?_)))
   obtain⟨A27,c28,hx29⟩:=ho3_26.dfirthref07_ChangeT_at i11
   refine sV (uB (c:=0) (vs:=(ak.cs A27 c28 (gt d.todo i11))) (i:=1) rfl (hx29 hl17).2 rfl isAgg119 JT rfl rfl) (k:=?_)
   refine alV zeroValue119 λg30=>?_
   refine stV 0 (.agg (ak.cs A27 c28 (gt d.todo i11)).toArray) (ak.cs A27 c28 (gt d.todo i11)).toArray JT (k:=I3 ?_)
   refine foC [1,1] hrow_26 [_,_] ?_
   refine Id (λσ w => ∃(l_34:List ab), ∃(Γ32:Gh), ∃(A35:Option Addr), ∃(c36:Nat),bL d keep torn f10 i11 l_34=some r∧slots σ [(0,(pq gd)),(1,ii keep),(2,ii torn),(6,.slice A35 l_34.length c36),(7,ii (i11:Int)),(8,(pq g30))]∧CC F Γ32 [rowd,[(g30,.cells (ak.cs A27 c28 (gt d.todo i11)).toArray 119 (0,0))]] w∧Gh.le Γ3 Γ32∧l_34.length≤c36∧Sl aA Γ32 A35 l_34∧True) ?_ ?_
   ·
    refine I4 (mV (k:=mV (k:=sV aG (k:=I3 ?_))))
    refine ciV h (λhb39 h=>?_) (λhb39 h=>?_)
    ·
     refine I9 ?_
     refine mV (k:=sV (ldaV 1 (ak.cs A27 c28 (gt d.todo i11)) isAgg119 JT) (k:=?_))
     obtain⟨z40,hz41,h⟩:=bnd h
     refine ecV [] (caV call52) (λw hp=>md hs8 hc9 (gt d.todo i11) (hx29 hl17).1 hp hz41) ?_
     rintro Γ42 _ _ hl43 ⟨A46,c47,row48,rfl,rfl,hr49,_⟩
     refine cwV 34 [_,_,_] (aV (k:=?_))
     refine I6 ?_
     intro w hw
     have hc54:=hr49.capz
     obtain⟨Γ50,hw,hl51,hr52⟩:=hw.seal (i:=0) rfl; have hs53:=hr49.sl hl51 hr52
     exact⟨z40,Γ50,A46,c47,h,slK,(hw.on [1,1]),(hl43.trans hl51),hc54,hs53,trivial⟩
    exact I7 λw hw=>⟨l_5,Γ3,A6,c7,h,slK,hw,gR,hc9,hs8,trivial⟩
   rintro σ w ⟨l_34,Γ32,A35,c36,h,hsl,hw,hl33,hc38,hs37,-⟩
   refine slV hsl hw [_,_] ?_; clear hw hsl
   refine I4 (mV (k:=mV (k:=sV bp (k:=mV (k:=vG0 (h:=λhg55=>moV) (k:=vG0 (h:=λhg56=>bp rfl (grV hg56)) (k:=vG0 (h:=λhg57=>bv (v:=.bool ((i11:Int)==0)) rfl (grV hg57)) (k:=?_))))))))
   refine vh1 (c0:=(!((i11:Int)==keep))) (g:=((i11:Int)==0)) rfl rfl rfl rfl rfl (λ_=>QV.qo moV) (vh1 (c0:=(!((i11:Int)==keep))) (g:=((i11:Int)==0)) rfl rfl rfl rfl rfl (λhg59=>QV.qo (aG rfl (grV hg59))) (vG0 (h:=λhg60=>gq rfl (grV hg60) (ly (c:=(!((i11:Int)==keep))) (g:=((i11:Int)==0)) (y:=(decide (keep<0))) hg60)) (k:=sV pkO (k:=mV (k:=vG1 (h:=λhg61=>q_fl 0 oN) (k:=vG1 (h:=λhg62=>ldV 1 Jc (hx:=grV hg62)) (k:=vG1 (h:=λhg63=>bp rfl (grV hg63)) (k:=?_))))))))
   refine sV pkA (k:=mV (k:=vG1 (h:=λhg64=>moV) (k:=vG1 (h:=λhg65=>bi rfl (grV hg65)) (k:=sV pkA (k:=mV (k:=vG1 (h:=λhg66=>q_fl 3 lf) (k:=vG1 (h:=λhg67=>ldV 1 J9 (hx:=grV hg67)) (k:=?_))))))))
   refine vG1 (h:=λhg68=>ag rfl IZ (grV hg68)) (k:=vG1 (h:=λhg69=>bi rfl (grV hg69)) (k:=sV pkA (k:=I3 ?_)))
   refine ciV h (λhb70 h=>?_) (λhb70 h=>?_)
   ·
    refine Id (λσ w => ∃(x71:ak), ∃(A73:Option Addr), ∃(c74:Nat),dP f10 l_34 x71=some r∧slots σ [(0,(pq gd)),(1,ii keep),(2,ii torn),(6,.slice A35 l_34.length c36),(7,ii (i11:Int)),(8,(pq g30))]∧CC F Γ32 [rowd,[(g30,.cells (ak.cs A73 c74 x71).toArray 119 (0,0))]] w∧ak.fits Γ32 A73 c74 x71∧True) ?_ ?_
    ·
     refine I4 (mV (k:=sV (q_fl 3 lf) (k:=sV (ldV 1 J9) (k:=sV (ag rfl IZ) (k:=sV aG (k:=I3 ?_))))))
     refine ciV h (λhb75 h=>?_) (λhb75 h=>?_)
     ·
      refine I9 ?_
      refine sV (q_fl 3 lf) (k:=sV (ldV 1 J9) (k:=mV (k:=?_)))
      obtain⟨hk76,h⟩:=am h
      refine sV (qE (c:=c28) (hi:=torn.toNat) (xs:=((gt d.todo i11).data)) IZ J3 rfl rfl (fU rfl hk76) (bC hk76) (hx29 hl17).1.2.2.2.1.1) (k:=sV (q_fl 3 lf) (k:=stV 1 (.slice A27 (List.take torn.toNat ((gt d.todo i11).data)).length c28) #[ii (gt d.todo i11).kind,.string (gt d.todo i11).name,.string (gt d.todo i11).to_,.slice A27 (List.take torn.toNat ((gt d.todo i11).data)).length c28,ii (gt d.todo i11).n] J8 (k:=?_)))
      exact I6 λw hw=>⟨(⟨(gt d.todo i11).kind,(gt d.todo i11).name,(gt d.todo i11).to_,(List.take torn.toNat ((gt d.todo i11).data)),(gt d.todo i11).n⟩:ak),A27,c28,h,slK,hw,⟨(hx29 hl17).1.1,(hx29 hl17).1.2.1,(hx29 hl17).1.2.2.1,⟨(tJ (hx29 hl17).1.2.2.2.1.1 torn.toNat),(((hx29 hl17).1.2.2.2.1.2.mono hl33).cut_to (hi:=torn.toNat) (bC hk76))⟩,(hx29 hl17).1.2.2.2.2⟩,trivial⟩
     exact I7 λw hw=>⟨(gt d.todo i11),A27,c28,h,slK,hw,(ak.fits_mono (hx29 hl17).1 hl33),trivial⟩
    rintro σ w ⟨x71,A73,c74,h,hsl,hw,hf72,-⟩
    refine slV hsl hw [_,_] ?_; clear hw hsl
    refine I9 ?_
    refine mV (k:=sV (ldaV 1 (ak.cs A73 c74 x71) isAgg119 JT) (k:=?_))
    obtain⟨z77,hz78,h⟩:=bnd h
    refine ecV [] (caV call52) (λw hp=>md hs37 hc38 x71 hf72 hp hz78) ?_
    rintro Γ79 _ _ hl80 ⟨A83,c84,row85,rfl,rfl,hr86,_⟩
    refine cwV 73 [_,_,_] (aV (k:=?_))
    refine I6 ?_
    intro w hw
    have hc91:=hr86.capz
    obtain⟨Γ87,hw,hl88,hr89⟩:=hw.seal (i:=0) rfl; have hs90:=hr86.sl hl88 hr89
    exact⟨z77,Γ87,A83,c84,h,slK,(hw.on [1]),((hl33.trans hl80).trans hl88),hc91,hs90,trivial⟩
   exact I7 λw hw=>⟨l_34,Γ32,A35,c36,h,slK,(hw.on [0]),hl33,hc38,hs37,trivial⟩
  rintro σ w ⟨l_21,Γ19,A22,c23,h,hsl,hw,hl20,hc25,hs24,-⟩
  refine slV hsl hw [_] ?_; clear hw hsl
  refine I9 ?_
  refine mV (k:=sV (aF rfl rfl rfl (aJ hl17 ho3_15.le)) (k:=aV (k:=?_)))
  exact I6 λw hw=>⟨hl17,l_21,h,Γ19,A22,c23,slK,hw,(hl4.trans hl20),hc25,hs24,trivial⟩
 have h:=hge14 (ige hb16)
 refine Ic ?_
 change WC _ _ _ _ _ _
 refine I4 (mV (k:=mV (k:=sV nlV (k:=sV (q_fl 1 tf) (k:=stV 0 (.slice A6 l_5.length c7) #[ii d.room,.slice A6 l_5.length c7,.slice A2_15 d.todo.length c2_15] sizeOf62 (k:=I3 ?_))))))
 refine I9 ?_
 refine mV (k:=sV nlV (k:=sV (q_fl 2 ki) (k:=stV 0 (.slice none 0 0) #[ii d.room,.slice A6 l_5.length c7,.slice none 0 0] sizeOf94 (k:=?_))))
 refine I6 ?_
 intro w hw
 have hw:=hw.pad
 obtain⟨row_92,hrow_92,hob_92⟩:∃rw:Rowb,rw=([[(gd,.cells #[ii d.room,.slice A6 l_5.length c7,.slice none 0 0] ed (0,0))],[]]:List Rowb).flatten∧a7.ob ed Γ3 gd rw (⟨d.room,l_5,[]⟩:a7):=⟨_,rfl,A6,c7,none,0,[],rfl,ho0_15,hc9,hs8,(Own.nil cv Γ3 119),trivial⟩
 have hw:=hw.fold (is:=[1,0]) rfl hrow_92
 cases h
 subst hF
 exact aL (is:=[0]) (by kernel_rfl) hw rfl ⟨row_92,rfl,rfl,hob_92,trivial⟩
theorem oy{gs_:Nat}{es_:Nat×Nat}{rows_:Rowb}{s_:ah}(hs_:ah.ob es_ Γ gs_ rows_ s_)(hs_r:∀p∈rows_,Γ p.1=some p.2)(hs:Sat Γ w0){r:Int}(h:iD s_=some r):CQ Tryz.prog 58 #[(pq gs_)] w0 (ii r):=by
 refine goQ [2] func58 ntmps58 results58 hs λF hF=>?_
 refine I4 (aV (k:=I3 (I5 ?_)))
 refine drV ?_
 refine zV moV (k:=zV nlV (k:=zV (q_fl 0 rM) (k:=?_)))
 obtain⟨g0_1,r0_1,A1_1,c1_1,r1_1,hrow_1,ho0_1,ho1_1,-⟩:=id hs_
 have hg_2:∀u∈([[(gs_,.cells #[(pq g0_1),.slice A1_1 s_.list.length c1_1] es_.1 (0,0))],r0_1,r1_1]:List Rowb), ∀p∈u,Γ p.1=some p.2:=λu hu p hp=>(λp hp=>(hs_r p hp)) p (hrow_1▸List.mem_flatten.2 ⟨u,hu,hp⟩)
 have hgc3:=hg_2 _ (It ..) (gs_,_) (List.mem_singleton.2 rfl)
 have hgs4:=hg_2 r0_1 (by simp)
 have hgs5:=hg_2 r1_1 (by simp)
 have hs6:=ho1_1.sl gR hgs5
 refine zV (mX (v:=(pq g0_1)) hgc3 rfl isAgg97 rfl rfl) (k:=zV nlV (k:=zV (q_fl 5 nB) (k:=?_)))
 obtain⟨A4_7,c4_7,r4_7,hrow_7,ho0_7,ho1_7,ho2_7,ho3_7,ho4_7,-⟩:=id ho0_1
 have hg_8:∀u∈([[(g0_1,.cells #[.pointer (some ⟨es_.2,0,none⟩),.string s_.log.name,ii s_.log.size,ii s_.log.gen,.slice A4_7 s_.log.parts.length c4_7,ii s_.log.records] 109 (0,0))],r4_7]:List Rowb), ∀p∈u,Γ p.1=some p.2:=λu hu p hp=>(λp hp=>(hgs4 p hp)) p (hrow_7▸List.mem_flatten.2 ⟨u,hu,hp⟩)
 have hgc9:=hg_8 _ (It ..) (g0_1,_) (List.mem_singleton.2 rfl)
 have hgs10:=hg_8 r4_7 (by simp)
 have hs11:=ho3_7.sl gR hgs10
 refine zV (mX (v:=ii s_.log.records) hgc9 rfl Jc rfl rfl) (k:=zV moV (k:=zV nlV (k:=zV (q_fl 1 eO) (k:=zV (mX (v:=.slice A1_1 s_.list.length c1_1) hgc3 rfl JW rfl rfl) (k:=zV (ag rfl JN) (k:=zV fO (k:=zV aoV (k:=?_))))))))
 refine Ij ?_
 change WC _ _ _ _ _ _
 exact I8 λw hw=>rq_ r h hF hw
abbrev sk(gs_:Nat)(es_:Nat×Nat)(rows_:Rowb)(gm:Nat)(em:Nat×Nat)(rowm:Rowb)(r:Bool)(U:List Rowb)(Γ:Gh)(v:Value):Prop:=v = .bool r∧U = [rows_,rowm]∧True
theorem sQ{gs_:Nat}{es_:Nat×Nat}{rows_:Rowb}{s_:ae}(hs_:ae.ob es_ Γ gs_ rows_ s_){gm:Nat}{em:Nat×Nat}{rowm:Rowb}{m:ah}(hm:ah.ob em Γ gm rowm m)(hp:Pre [rows_,rowm] Γ w0){r:Bool}(h:jf s_ m=some r):Calls Tryz.prog 23 #[(pq gs_),(pq gm)] w0 (Outc Γ [rows_,rowm] w0 (sk gs_ es_ rows_ gm em rowm r)):=by
 refine goV [4] func23 ntmps23 results23 hp λF hF=>?_
 refine I4 (aV (k:=I3 (I5 (I4 (mV (k:=sV (gj (a:=some ⟨gs_,0,none⟩) JO rfl rfl rfl) (k:=mV (k:=?_))))))))
 refine WR.sat (c0:=true) (g:=false) rfl rfl rfl (notf rfl) ?_
 refine mV (k:=?_)
 refine WR.sat (c0:=true) (g:=false) rfl rfl rfl (notf rfl) ?_
 refine sV (gj (a:=some ⟨gm,0,none⟩) JY rfl rfl rfl) (k:=sV (q8 (v:=.bool false) rfl rfl rfl) (k:=I3 ?_))
 refine WC.cfk (b:=false) (by kernel_rfl) rfl ?_
 refine I7 (wc_ (I4 (mV (k:=?_))))
 obtain⟨z1,hz2,h⟩:=bnd h
 refine ecV [0] (caV call30) (λw hp=>j6 hs_ hp hz2) ?_
 rintro Γ3 _ _ hl4 ⟨A7,c8,row9,rfl,rfl,hr10,_⟩
 refine cwV 20 [_,_,_] (aV (k:=I3 (I5 ?_)))
 refine Id (λσ w => ∃(x_13:Bool), ∃(Γ11:Gh),gP s_ m z1 x_13=some r∧slots σ [(0,(pq gs_)),(1,(pq gm)),(5,.slice A7 z1.length c8),(45,.bool x_13)]∧CC F Γ11 [rows_,row9,rowm] w∧Gh.le Γ3 Γ11∧True) ?_ ?_
 ·
  obtain⟨g0_14,r0_14,A1_14,c1_14,r1_14,hrow_14,ho0_14,ho1_14,-⟩:=(hm.mono hl4)
  refine ufC 2 hrow_14 [_,_,_,_,_] ?_
  refine leV λh015=>?_
  refine dW (CC F Γ3 [[(gm,.cells #[(pq g0_14),.slice A1_14 m.list.length c1_14] em.1 (0,0))],r0_14,r1_14,row9]) (bo_ [0,0,0,1] gR h015) λk=>?_
  change WH _ _ _ _ (CC F Γ3 [_,_,_,_,_]) _ 25 _ _
  refine hV 0 k (q:=moV) (k:=hV 1 k (q:=ag rfl Jh) (k:=hV 2 k (q:=moV) (k:=hV 3 k (q:=nlV) (k:=hV 4 k (q:=q_fl 1 eO) (k:=hV 5 k (q:=ldV 0 JW) (k:=hV 6 k (q:=ag rfl JN) (k:=hV 7 k (q:=bD) (k:=?_))))))))
  refine hV 8 k (q:=moV) (k:=hV0 9 k (h:=λhg16=>moV) (k:=hV0 11 k (h:=λhg17=>moV) (k:=wl_ 10 rfl ?_)))
  obtain⟨z19,hz20,h⟩:=bnd h
  refine vC0 (h:=λhg18=>bK (bb call31 rfl rfl (lT (grV hg18))) (λw hw=>nl (Γ:=Gh.all w) ((hs_.mono hl4).mono hw.sat.le_all) (hw.ra 3 rfl) (Sat.all w) (jv hz20 hg18))) (k:=?_)
  refine I6 (nxV (bo_ [0,0,0,1] gR h015) λk=>?_)
  refine wl_ 12 rfl ?_
  obtain⟨z22,hz23,h⟩:=bnd h
  refine vC0 (h:=λhg21=>bK (bb call58 rfl rfl (lT (grV hg21))) (λw hw=>oy (Γ:=Gh.all w) ((hm.mono hl4).mono hw.sat.le_all) (hw.raU [0,0,0] rfl hrow_14) (Sat.all w) (jv hz23 hg21))) (k:=?_)
  refine I6 (nxV (bo_ [0,0,0,1] gR h015) λk=>?_)
  refine hV0 13 k (h:=λhg24=>bD rfl (grV hg24) (grV hg24)) (k:=hV 14 k (q:=pkO) (k:=hV 15 k (q:=moV) (k:=hV0 16 k (h:=λhg25=>moV) (k:=hV0 18 k (h:=λhg26=>moV) (k:=hV0 19 k (h:=λhg27=>nlV (hv:=grV hg27)) (k:=hV0 20 k (h:=λhg28=>q_fl 1 eO rfl (grV hg28)) (k:=hV0 21 k (h:=λhg29=>ldV 0 JW (hx:=grV hg29)) (k:=?_))))))))
  refine(Bool.eq_false_or_eq_true (!(((z1.length:Int) != (m.list.length:Int))||(z19 != z22)))).elim (λhb30=>?_) (λhb30=>?_)
  ·
   have h:=bt hb30 h
   refine wl_ 17 rfl ?_
   refine WR.sat (c0:=true) (g:=(((z1.length:Int) != (m.list.length:Int))||(z19 != z22))) rfl rfl rfl hb30 ?_
   obtain⟨z31,hz32,h⟩:=bnd h
   refine ecV [3] (bb call27 rfl rfl (lT (grV hb30))) (λw hp=>nI (hs_.mono hl4) hp hz32) ?_
   rintro Γ33 _ _ hl34 ⟨A37,c38,row39,rfl,rfl,hr40,_⟩
   refine cwV 38 [_,_,_,_,_,_] ?_
   refine I6 (nxV (bo_ [2,2,2,2] hl34 h015) λk=>?_)
   refine wl_ 22 rfl ?_
   obtain⟨z42,hz43,h⟩:=bnd h
   refine vC0 (h:=λhg41=>bK (bb call28 rfl rfl (jX rfl (grV hg41))) (λw hw=>qe (Γ:=Gh.all w) (hr40.sl hw.sat.le_all (hw.ra 1 rfl)) hr40.capz ((ho1_14.mono hl34).sl hw.sat.le_all (hw.ra 4 rfl)) (ho1_14.mono hl34).capz (Sat.all w) (jv hz43 hg41))) (k:=?_)
   refine I6 (nxV (bo_ [2,2,2,2] hl34 h015) λk=>?_)
   refine hV0 23 k (h:=λhg44=>cY rfl (grV hg44)) (k:=hV 24 k (q:=eH (v:=.bool (!z42)) rfl rfl (pd hb30) (grV hb30)) (k:=?_))
   refine Ig (by kernel_rfl) ?_
   intro w hw
   have hw:=hw.fold (is:=[2,2,2]) rfl hrow_14
   exact⟨(!z42),Γ33,h,slK,(hw.on [1,2,0]),hl34,trivial⟩
  have h:=bf hb30 h
  refine hg0 (g:=(((z1.length:Int) != (m.list.length:Int))||(z19 != z22))) (i:=17) (v:=undef) rfl (by kernel_rfl) rfl rfl rfl rfl rfl (bo_ [0,0,0,1] gR h015) (xZ hb30) ?_
  refine WH.env (v:=undef) (po hb30) ?_
  refine hg0 (g:=(((z1.length:Int) != (m.list.length:Int))||(z19 != z22))) (i:=22) (v:=undef) rfl (by kernel_rfl) rfl rfl rfl rfl rfl (bo_ [0,0,0,1] gR h015) (xZ hb30) ?_
  refine WH.env (v:=undef) (po hb30) ?_
  refine hg0 (g:=(((z1.length:Int) != (m.list.length:Int))||(z19 != z22))) (i:=23) (v:=undef) rfl (by kernel_rfl) rfl rfl rfl rfl rfl (bo_ [0,0,0,1] gR h015) (xZ hb30) ?_
  refine WH.env (v:=undef) (po hb30) ?_
  refine hV 24 (bo_ [0,0,0,1] gR h015) (q:=ig (v:=.bool true) rfl rfl (s9 hb30) (by kernel_rfl)) (k:=?_)
  refine Ig (by kernel_rfl) ?_
  intro w hw
  have hw:=hw.fold (is:=[0,0,0]) rfl hrow_14
  exact⟨true,Γ3,h,slK,(hw.on [1,1,0]),gR,trivial⟩
 rintro σ w ⟨x_13,Γ11,h,hsl,hw,hl12,-⟩
 refine slV hsl hw [_,_,_] ?_; clear hw hsl
 refine ciV h (λhb47 h=>?_) (λhb47 h=>?_)
 ·
  refine I4 (aV (k:=I3 ?_))
  exact I8 λw hw=>re_ r [0,1] h hF hw ⟨rfl,rfl,trivial⟩
 refine I7 (wc_ (I5 (I4 (aV (k:=I3 (Ia ?_))))))
 refine Ie h (λ(i51:Nat) (s:Unit) σ w=>match s with | () => ∃(Γ48:Gh),slots σ [(0,(pq gs_)),(1,(pq gm)),(5,.slice A7 z1.length c8),(6,ii (i51:Int))]∧CC F Γ48 [rows_,row9,rowm] w∧Gh.le Γ11 Γ48∧True) ?_ ?_
 ·
  intro w hw
  exact⟨Γ11,slK,hw,gR,trivial⟩
 rintro f50 i51 ⟨⟩ σ w hi52 hlt53 hge54 ⟨Γ48,hsl,hw,hl49,-⟩
 refine slV hsl hw [_,_,_] ?_; clear hw hsl
 refine I5 (I4 (mV (k:=mV (k:=sV (ag rfl Jh) (k:=sV aG (k:=I3 ?_))))))
 refine coV (λhb55=>?_) (λhb55=>?_)
 ·
  have hl56:=ilt hb55
  have h:=hlt53 hl56
  refine I7 (wc_ (I5 (Ia ?_)))
  refine Id (λσ w => ∃(x_59:Bool), ∃(Γ57:Gh),gK f50 x_59=some r∧slots σ [(0,(pq gs_)),(1,(pq gm)),(5,.slice A7 z1.length c8),(6,ii (i51:Int)),(82,.bool x_59)]∧CC F Γ57 [rows_,row9,rowm] w∧Gh.le Γ48 Γ57∧True) ?_ ?_
  ·
   obtain⟨g0_60,r0_60,A1_60,c1_60,r1_60,hrow_60,ho0_60,ho1_60,-⟩:=(hm.mono ((hl4.trans hl12).trans hl49))
   refine ufC 2 hrow_60 [_,_,_,_,_] ?_
   refine leV λh061=>?_
   refine dW (CC F Γ48 [[(gm,.cells #[(pq g0_60),.slice A1_60 m.list.length c1_60] em.1 (0,0))],r0_60,r1_60,row9]) (bo_ [0,0,0,1] gR h061) λk=>?_
   change WH _ _ _ _ (CC F Γ48 [_,_,_,_,_]) _ 31 _ _
   refine hV 0 k (q:=moV) (k:=hV 1 k (q:=moV) (k:=hV 2 k (q:=aN (i:=i51) Jh Ji rfl rfl rfl hl56 ((hr10.mono (hl12.trans hl49)).some_ hl56)) (k:=hV 3 k (q:=lQ (c:=0) (v:=.string (gt z1 i51)) (i:=3) rfl ((hr10.mono (hl12.trans hl49)).strT_at hl56).2 rfl IY rfl rfl) (k:=hV 4 k (q:=moV) (k:=hV 5 k (q:=nlV) (k:=hV 6 k (q:=q_fl 1 eO) (k:=hV 7 k (q:=ldV 0 JW) (k:=?_))))))))
   refine hV 8 k (q:=moV) (k:=?_)
   obtain⟨hk62,h⟩:=am h
   refine hV 9 k (q:=aN (i:=i51) JN Jz rfl rfl rfl (Ip hk62) (ho1_60.some_ (Ip hk62))) (k:=hV 10 k (q:=ay (i51*2) cV rfl rfl (ho1_60.some_ (Ip hk62)) rfl) (k:=?_))
   obtain⟨A63,c64,hx65⟩:=ho1_60.recT_at i51
   refine hV 11 k (q:=lQ (c:=0) (v:=.string (gt m.list i51).key) (i:=2) rfl (hx65 (Ip hk62)).2 rfl IY rfl rfl) (k:=hV 12 k (q:=qS) (k:=hV 13 k (q:=moV) (k:=hV0 14 k (h:=λhg66=>moV) (k:=hV0 15 k (h:=λhg67=>moV) (k:=hV0 16 k (h:=λhg68=>moV) (k:=hV0 17 k (h:=λhg69=>aN (i:=i51) Jh Ji rfl (grV hg69) (grV hg69) hl56 ((hr10.mono (hl12.trans hl49)).some_ hl56)) (k:=hV0 18 k (h:=λhg70=>lQ (c:=0) (v:=.string (gt z1 i51)) (i:=3) rfl ((hr10.mono (hl12.trans hl49)).strT_at hl56).2 rfl IY (grV hg70) rfl) (k:=?_))))))))
   refine hV0 20 k (h:=λhg71=>moV) (k:=hV0 21 k (h:=λhg72=>nlV (hv:=grV hg72)) (k:=hV0 22 k (h:=λhg73=>q_fl 1 eO rfl (grV hg73)) (k:=hV0 23 k (h:=λhg74=>ldV 0 JW (hx:=grV hg74)) (k:=hV0 24 k (h:=λhg75=>moV) (k:=hV0 25 k (h:=λhg76=>aN (i:=i51) JN Jz rfl (grV hg76) (grV hg76) (Ip hk62) (ho1_60.some_ (Ip hk62))) (k:=hV0 26 k (h:=λhg77=>ay (i51*2+1) ci rfl (grV hg77) (ho1_60.some_ (Ip hk62)) rfl) (k:=hV0 27 k (h:=λhg78=>lQ (c:=1) (v:=.slice A63 ((gt m.list i51).vers).length c64) (i:=2) rfl (hx65 (Ip hk62)).2 rfl JH (grV hg78) rfl) (k:=?_))))))))
   refine(Bool.eq_false_or_eq_true (!((gt z1 i51) != (gt m.list i51).key))).elim (λhb79=>?_) (λhb79=>?_)
   ·
    have h:=bt hb79 h
    refine wl_ 19 rfl ?_
    refine WR.sat (c0:=true) (g:=((gt z1 i51) != (gt m.list i51).key)) rfl rfl rfl hb79 ?_
    obtain⟨z80,hz81,h⟩:=bnd h
    refine ecV [3] (bb call12 rfl rfl (jX (grV hb79) (grV hb79))) (λw hp=>tc (hs_.mono ((hl4.trans hl12).trans hl49)) (gt z1 i51) ((hr10.mono (hl12.trans hl49)).strT_at hl56).1 hp hz81) ?_
    rintro Γ82 _ _ hl83 ⟨A86,c87,rfl,rfl,hc89,hr88,_⟩
    refine cwV 71 [_,_,_,_,_] ?_
    refine I6 (nxV (bo_ [1,1,1,1] hl83 h061) λk=>?_)
    refine wl_ 28 rfl ?_
    obtain⟨z91,hz92,h⟩:=bnd h
    refine vC0 (h:=λhg90=>bK (bb call13 rfl rfl (jX rfl (grV hg90))) (λw hw=>nW (Γ:=Gh.all w) (hr88.mono hw.sat.le_all) hc89 (((hx65 (Ip hk62)).1.2.2.mono hl83).mono hw.sat.le_all) (hx65 (Ip hk62)).1.2.1 (Sat.all w) (jv hz92 hg90))) (k:=?_)
    refine I6 (nxV (bo_ [1,1,1,1] hl83 h061) λk=>?_)
    refine hV0 29 k (h:=λhg93=>cY rfl (grV hg93)) (k:=hV 30 k (q:=eH (v:=.bool (!z91)) rfl rfl (pd hb79) (grV hb79)) (k:=?_))
    refine Ig (by kernel_rfl) ?_
    intro w hw
    have hw:=hw.fold (is:=[1,1,1]) rfl hrow_60
    exact⟨(!z91),Γ82,h,slK,(hw.on [1,1,0]),hl83,trivial⟩
   have h:=bf hb79 h
   refine hg0 (g:=((gt z1 i51) != (gt m.list i51).key)) (i:=19) (v:=undef) rfl (by kernel_rfl) rfl rfl rfl rfl rfl (bo_ [0,0,0,1] gR h061) (xZ hb79) ?_
   refine WH.env (v:=undef) (po hb79) ?_
   refine hg0 (g:=((gt z1 i51) != (gt m.list i51).key)) (i:=28) (v:=undef) rfl (by kernel_rfl) rfl rfl rfl rfl rfl (bo_ [0,0,0,1] gR h061) (xZ hb79) ?_
   refine WH.env (v:=undef) (po hb79) ?_
   refine hg0 (g:=((gt z1 i51) != (gt m.list i51).key)) (i:=29) (v:=undef) rfl (by kernel_rfl) rfl rfl rfl rfl rfl (bo_ [0,0,0,1] gR h061) (xZ hb79) ?_
   refine WH.env (v:=undef) (po hb79) ?_
   refine hV 30 (bo_ [0,0,0,1] gR h061) (q:=ig (v:=.bool true) rfl rfl (s9 hb79) (by kernel_rfl)) (k:=?_)
   refine Ig (by kernel_rfl) ?_
   intro w hw
   have hw:=hw.fold (is:=[0,0,0]) rfl hrow_60
   exact⟨true,Γ48,h,slK,(hw.on [1,1,0]),gR,trivial⟩
  rintro σ w ⟨x_59,Γ57,h,hsl,hw,hl58,-⟩
  refine slV hsl hw [_,_,_] ?_; clear hw hsl
  refine ciV h (λhb96 h=>?_) (λhb96 h=>?_)
  ·
   refine I4 (aV (k:=I3 ?_))
   exact I8 λw hw=>re_ r [0,1] h hF hw ⟨rfl,rfl,trivial⟩
  refine I7 (wc_ ?_)
  refine I9 ?_
  refine mV (k:=sV (aF rfl rfl rfl (aJ hl56 (hr10.mono (hl12.trans hl49)).le)) (k:=aV (k:=?_)))
  exact I6 λw hw=>⟨hl56,(),h,Γ57,slK,hw,(hl49.trans hl58),trivial⟩
 have h:=hge54 (ige hb55)
 refine Ic ?_
 change WC _ _ _ _ _ _
 refine I4 (aV (k:=I3 ?_))
 exact I8 λw hw=>re_ r [0,1] h hF hw ⟨rfl,rfl,trivial⟩
theorem qm(hs:Sat Γ w0){r:Bool}(h:jJ=some r):CQ Tryz.prog 23 #[.pointer none,.pointer none] w0 (.bool r):=by
 refine goQ [4] func23 ntmps23 results23 hs λF hF=>?_
 refine I4 (aV (k:=I3 (I5 (I4 (mV (k:=sV (gj (a:=none) JO rfl rfl rfl) (k:=mV (k:=?_))))))))
 refine Ib (c0:=true) (g:=true) rfl rfl rfl (nott rfl) rfl ?_
 refine Ib (c0:=true) (g:=true) rfl rfl rfl (nott rfl) rfl ?_
 refine sV (rB (v:=.bool true) rfl rfl rfl) (k:=I3 ?_)
 refine Im (b:=true) (by kernel_rfl) rfl ?_
 refine I4 (mV (k:=sV (gj (a:=none) JO rfl rfl rfl) (k:=mV (k:=?_))))
 refine WR.sat (c0:=true) (g:=true) rfl rfl rfl rfl ?_
 refine mV (k:=?_)
 refine WR.sat (c0:=true) (g:=true) rfl rfl rfl rfl ?_
 refine sV (gj (a:=none) JY rfl rfl rfl) (k:=sV (rB (v:=.bool true) rfl rfl rfl) (k:=aV (k:=I3 ?_)))
 exact I8 λw hw=>rq_ r h hF hw
abbrev sA(gd:Nat)(ed:Nat)(rowd:Rowb)(r:List ab)(U:List Rowb)(Γ:Gh)(v:Value):Prop := ∃(A0:Option Addr), ∃(c0:Nat), ∃(row0:Rowb),v = .slice A0 r.length c0∧U = [rowd,row0]∧Own aA Γ 126 row0 A0 c0 r∧True
theorem ji{gd ed:Nat}{rowd:Rowb}{d:a8}(hd:a8.ob ed Γ gd rowd d)(hp:Pre [rowd] Γ w0){r:List ab}(h:du d=some r):Calls Tryz.prog 25 #[(pq gd)] w0 (Outc Γ [rowd] w0 (sA gd ed rowd r)):=by
 refine goV [2] func25 ntmps25 results25 hp λF hF=>?_
 refine I4 (aV (k:=I3 (I4 (aV (k:=I3 (I4 (mV (k:=?_))))))))
 obtain⟨z1,hz2,h⟩:=bnd h
 refine ecV [0] (caV call59) (λw hp=>oa hd hp hz2) ?_
 rintro Γ3 _ _ hl4 ⟨A7,c8,row9,rfl,rfl,hr10,_⟩
 refine cwV 9 [_,_] (aV (k:=I3 (I5 (I4 (aV (k:=I3 (Ia ?_)))))))
 refine Ie h (λ(i19:Nat) (out_13:List ab) σ w => ∃(Γ11:Gh), ∃(A14:Option Addr), ∃(c15:Nat), ∃(row16:Rowb),slots σ [(0,(pq gd)),(3,.slice A14 out_13.length c15),(4,.slice A7 z1.length c8),(5,ii (i19:Int))]∧CC F Γ11 [row16,rowd,row9] w∧Gh.le Γ3 Γ11∧Own aA Γ11 126 row16 A14 c15 out_13∧True) ?_ ?_
 ·
  intro w hw
  have hw:=hw.pad
  exact⟨Γ3,none,0,[],slK,hw,gR,(Own.nil aA _ 126),trivial⟩
 rintro f18 i19 out_13 σ w hi20 hlt21 hge22 ⟨Γ11,A14,c15,row16,hsl,hw,hl12,ho17,-⟩
 refine slV hsl hw [_,_,_] ?_; clear hw hsl
 refine I5 (I4 (mV (k:=mV (k:=sV (ag rfl Jh) (k:=sV aG (k:=I3 ?_))))))
 refine coV (λhb23=>?_) (λhb23=>?_)
 ·
  have hl24:=ilt hb23
  have h:=hlt21 hl24
  refine I7 (wc_ ?_)
  refine Id (λσ w => ∃(out_27:List ab), ∃(Γ25:Gh), ∃(A28:Option Addr), ∃(c29:Nat), ∃(row30:Rowb),gQ f18 out_27=some r∧slots σ [(0,(pq gd)),(3,.slice A28 out_27.length c29),(4,.slice A7 z1.length c8),(5,ii (i19:Int))]∧CC F Γ25 [row30,rowd,row9] w∧Gh.le Γ11 Γ25∧Own aA Γ25 126 row30 A28 c29 out_27∧True) ?_ ?_
  ·
   refine Ia (I4 (mV (k:=mV (k:=mV (k:=sV (aN (i:=i19) Jh Ji rfl rfl rfl hl24 ((hr10.mono hl12).some_ hl24)) (k:=sV (lQ (c:=0) (v:=.string (gt z1 i19)) (i:=2) rfl ((hr10.mono hl12).strT_at hl24).2 rfl IY rfl rfl) (k:=?_)))))))
   obtain⟨z32,hz33,h⟩:=bnd h
   refine ecV [1] (caV call60) (λw hp=>kx (hd.mono (hl4.trans hl12)) (gt z1 i19) ((hr10.mono hl12).strT_at hl24).1 hp hz33) ?_
   rintro Γ34 _ _ hl35 ⟨A38,c39,row40,rfl,rfl,hr41,_⟩
   refine cwV 22 [_,_,_,_] (mV (k:=sV exV (k:=sV exV (k:=aV (k:=aV (k:=I3 (I4 ?_)))))))
   refine mV (k:=I3 ?_)
   refine ciV h (λhb42 h=>?_) (λhb42 h=>?_)
   ·
    refine I9 ?_
    refine mV (k:=mV (k:=mV (k:=sV (aN (i:=i19) Jh Ji rfl rfl rfl hl24 ((hr10.mono (hl12.trans hl35)).some_ hl24)) (k:=sV (lQ (c:=0) (v:=.string (gt z1 i19)) (i:=3) rfl ((hr10.mono (hl12.trans hl35)).strT_at hl24).2 rfl IY rfl rfl) (k:=mV (k:=sV (aZ (v:=.agg #[.string (gt z1 i19),.slice A38 z32.1.length c39]) rfl (jI rfl rfl) (λw=>by kernel_rfl)) (k:=?_)))))))
    have hc47:=hr41.capz
    refine seR 1 [_,_,_,_] λΓ43 hl44 hr45=>?_
    have hs46:=hr41.sl hl44 hr45
    refine bsV #[.string (gt z1 i19),.slice A38 z32.1.length c39] 126 λg48=>?_
    obtain⟨hk49,h⟩:=am h
    refine apV 3 [(⟨(gt z1 i19),z32.1⟩:ab)] te (ho17.mono (hl35.trans hl44)) (Ip hk49) (λw hw=>bM (i:=0) rfl (by exact⟨A38,c39,rfl,⟨((hr10.mono ((hl12.trans hl35).trans hl44)).strT_at hl24).1,⟨hc47,hs46⟩⟩⟩) hw) ?_
    intro row50 A51 c52 ho53
    refine aV (k:=?_)
    exact I6 λw hw=>⟨(out_13++[(⟨(gt z1 i19),z32.1⟩:ab)]),Γ43,A51,c52,row50,h,slK,(hw.on [3,1,2]),(hl35.trans hl44),ho53,trivial⟩
   exact I7 λw hw=>⟨out_13,Γ34,A14,c15,row16,h,slK,(hw.on [2,0,1]),hl35,(ho17.mono hl35),trivial⟩
  rintro σ w ⟨out_27,Γ25,A28,c29,row30,h,hsl,hw,hl26,ho31,-⟩
  refine slV hsl hw [_,_,_] ?_; clear hw hsl
  refine I9 ?_
  refine mV (k:=sV (aF rfl rfl rfl (aJ hl24 (hr10.mono hl12).le)) (k:=aV (k:=?_)))
  exact I6 λw hw=>⟨hl24,out_27,h,Γ25,A28,c29,row30,slK,hw,(hl12.trans hl26),ho31,trivial⟩
 have h:=hge22 (ige hb23)
 refine Ic ?_
 change WC _ _ _ _ _ _
 refine I4 (mV (k:=aV (k:=I3 ?_)))
 exact I8 λw hw=>re_ r [1,0] h hF hw ⟨A14,c15,row16,rfl,rfl,ho17,trivial⟩
theorem jO{Aa:Option Addr}{ca:Nat}{a:List ab}(ha:Sl aA Γ Aa a)(hac:a.length≤ca){Ab:Option Addr}{cb:Nat}{b:List ab}(hb:Sl aA Γ Ab b)(hbc:b.length≤cb)(hs:Sat Γ w0){r:Bool}(h:eb a b=some r):CQ Tryz.prog 24 #[.slice Aa a.length ca,.slice Ab b.length cb] w0 (.bool r):=by
 refine goQ [4] func24 ntmps24 results24 hs λF hF=>?_
 refine I4 (aV (k:=I3 (I5 (I4 (mV (k:=sV (ag rfl JP) (k:=mV (k:=?_))))))))
 refine sV (ag rfl JP) (k:=sV bD (k:=I3 ?_))
 refine ciV h (λhb1 h=>?_) (λhb1 h=>?_)
 ·
  refine I4 (aV (k:=I3 ?_))
  exact I8 λw hw=>rq_ r h hF hw
 refine I7 (wc_ (I5 (I4 (aV (k:=I3 (Ia ?_))))))
 refine Ie h (λ(i3:Nat) (s:Unit) σ w=>match s with | ()=>slots σ [(0,.slice Aa a.length ca),(1,.slice Ab b.length cb),(5,ii (i3:Int))]∧CC F Γ [] w∧True) ?_ ?_
 ·
  intro w hw
  exact⟨slK,hw,trivial⟩
 rintro f2 i3 ⟨⟩ σ w hi4 hlt5 hge6 ⟨hsl,hw,-⟩
 refine slV hsl hw [] ?_; clear hw hsl
 refine I5 (I4 (mV (k:=mV (k:=sV (ag rfl JP) (k:=sV aG (k:=I3 ?_))))))
 refine coV (λhb7=>?_) (λhb7=>?_)
 ·
  have hl8:=ilt hb7
  have h:=hlt5 hl8
  refine I7 (wc_ (I5 (Ia (I5 ?_))))
  refine drV ?_
  refine zV moV (k:=zV moV (k:=zV (aN (i:=i3) JP JQ rfl rfl rfl hl8 (ha.some_ hl8)) (k:=zV (ay (i3*2) mc rfl rfl (ha.some_ hl8) rfl) (k:=?_))))
  obtain⟨A9,c10,hx11⟩:=ha.dfirthref07_FileT_at i3
  refine zV (q_ld (c:=0) (v:=.string (gt a i3).name) (hx11 hl8).2 rfl IY rfl rfl) (k:=zV moV (k:=zV moV (k:=?_)))
  obtain⟨hk12,h⟩:=am h
  refine zV (aN (i:=i3) JP JQ rfl rfl rfl (Ip hk12) (hb.some_ (Ip hk12))) (k:=zV (ay (i3*2) mc rfl rfl (hb.some_ (Ip hk12)) rfl) (k:=?_))
  obtain⟨A13,c14,hx15⟩:=hb.dfirthref07_FileT_at i3
  refine zV (q_ld (c:=0) (v:=.string (gt b i3).name) (hx15 (Ip hk12)).2 rfl IY rfl rfl) (k:=zV qS (k:=zV moV (k:=wG0 (h:=λhg16=>moV) (k:=wG0 (h:=λhg17=>moV) (k:=wG0 (h:=λhg18=>aN (i:=i3) JP JQ rfl (grV hg18) (grV hg18) hl8 (ha.some_ hl8)) (k:=wG0 (h:=λhg19=>ay (i3*2+1) pj rfl (grV hg19) (ha.some_ hl8) rfl) (k:=wG0 (h:=λhg20=>q_ld (c:=1) (v:=.slice A9 ((gt a i3).data).length c10) (hx11 hl8).2 rfl J9 (grV hg20) rfl) (k:=?_))))))))
  refine wG0 (h:=λhg21=>wC (hx11 hl8).1.2.2 IZ J5 IX rfl (grV hg21)) (k:=wG0 (h:=λhg22=>moV) (k:=wG0 (h:=λhg23=>moV) (k:=wG0 (h:=λhg24=>aN (i:=i3) JP JQ rfl (grV hg24) (grV hg24) (Ip hk12) (hb.some_ (Ip hk12))) (k:=wG0 (h:=λhg25=>ay (i3*2+1) pj rfl (grV hg25) (hb.some_ (Ip hk12)) rfl) (k:=wG0 (h:=λhg26=>q_ld (c:=1) (v:=.slice A13 ((gt b i3).data).length c14) (hx15 (Ip hk12)).2 rfl J9 (grV hg26) rfl) (k:=wG0 (h:=λhg27=>wC (hx15 (Ip hk12)).1.2.2 IZ J5 IX rfl (grV hg27)) (k:=wG0 (h:=λhg28=>qS rfl (grV hg28) (grV hg28)) (k:=?_))))))))
  refine zV pkO (k:=?_)
  refine Ij ?_
  change WC _ _ _ _ _ _
  refine ciV h (λhb29 h=>?_) (λhb29 h=>?_)
  ·
   refine I4 (aV (k:=I3 ?_))
   exact I8 λw hw=>rq_ r h hF hw
  refine I7 (wc_ ?_)
  refine I9 ?_
  refine mV (k:=sV (aF rfl rfl rfl (aJ hl8 ha.le)) (k:=aV (k:=?_)))
  exact I6 λw hw=>⟨hl8,(),h,slK,hw,trivial⟩
 have h:=hge6 (ige hb7)
 refine Ic ?_
 change WC _ _ _ _ _ _
 refine I4 (aV (k:=I3 ?_))
 exact I8 λw hw=>rq_ r h hF hw
theorem qs{gm:Nat}{em:Nat×Nat}{rowm:Rowb}{m:ah}(hm:ah.ob em Γ gm rowm m)(hmr:∀p∈rowm,Γ p.1=some p.2)(hs:Sat Γ w0){r:Bool}(h:lR m=some r):CQ Tryz.prog 23 #[.pointer none,(pq gm)] w0 (.bool r):=by
 refine goQ [4] func23 ntmps23 results23 hs λF hF=>?_
 refine I4 (aV (k:=I3 (I5 (I4 (mV (k:=sV (gj (a:=none) JO rfl rfl rfl) (k:=mV (k:=?_))))))))
 refine Ib (c0:=true) (g:=true) rfl rfl rfl (nott rfl) rfl ?_
 refine Ib (c0:=true) (g:=true) rfl rfl rfl (nott rfl) rfl ?_
 refine sV (rB (v:=.bool true) rfl rfl rfl) (k:=I3 ?_)
 refine Im (b:=true) (by kernel_rfl) rfl ?_
 refine I4 (mV (k:=sV (gj (a:=none) JO rfl rfl rfl) (k:=mV (k:=?_))))
 refine WR.sat (c0:=true) (g:=true) rfl rfl rfl rfl ?_
 refine mV (k:=?_)
 refine WR.sat (c0:=true) (g:=true) rfl rfl rfl rfl ?_
 refine sV (gj (a:=some ⟨gm,0,none⟩) JY rfl rfl rfl) (k:=sV (rB (v:=.bool false) rfl rfl rfl) (k:=aV (k:=I3 ?_)))
 exact I8 λw hw=>rq_ r h hF hw
theorem qj{gs_:Nat}{es_:Nat×Nat}{rows_:Rowb}{s_:ae}(hs_:ae.ob es_ Γ gs_ rows_ s_)(hs_r:∀p∈rows_,Γ p.1=some p.2)(hs:Sat Γ w0){r:Bool}(h:lW s_=some r):CQ Tryz.prog 23 #[(pq gs_),.pointer none] w0 (.bool r):=by
 refine goQ [4] func23 ntmps23 results23 hs λF hF=>?_
 refine I4 (aV (k:=I3 (I5 (I4 (mV (k:=sV (gj (a:=some ⟨gs_,0,none⟩) JO rfl rfl rfl) (k:=mV (k:=?_))))))))
 refine WR.sat (c0:=true) (g:=false) rfl rfl rfl (notf rfl) ?_
 refine mV (k:=?_)
 refine WR.sat (c0:=true) (g:=false) rfl rfl rfl (notf rfl) ?_
 refine sV (gj (a:=none) JY rfl rfl rfl) (k:=sV (q8 (v:=.bool true) rfl rfl rfl) (k:=I3 ?_))
 refine Im (b:=true) (by kernel_rfl) rfl ?_
 refine I4 (mV (k:=sV (gj (a:=some ⟨gs_,0,none⟩) JO rfl rfl rfl) (k:=mV (k:=?_))))
 refine Ib (c0:=true) (g:=false) rfl rfl rfl rfl rfl ?_
 refine Ib (c0:=true) (g:=false) rfl rfl rfl rfl rfl ?_
 refine sV (q8 (v:=.bool false) rfl rfl rfl) (k:=aV (k:=I3 ?_))
 exact I8 λw hw=>rq_ r h hF hw
theorem oP(room:Int)(hroom:I64 room){Ascript:Option Addr}{cscript:Nat}{script:List au}(hscript:Sl js Γ Ascript script)(hscriptc:script.length≤cscript)(hs:Sat Γ w0){r:Bool}(h:iT room script=some r):CQ Tryz.prog 4 #[ii room,.slice Ascript script.length cscript] w0 (.bool r):=by
 refine goQ [4] func4 ntmps4 results4 hs λF hF=>?_
 refine I4 (aV (k:=I3 (I5 (I4 ?_))))
 obtain⟨z1,hz2,h⟩:=bnd h
 refine vqV (caV call6) (λw hw=>sw (Γ:=Gh.all w)  (Sat.all w) hz2) (k:=sV cY (k:=I3 ?_))
 refine ciV h (λhb3 h=>?_) (λhb3 h=>?_)
 ·
  refine I4 (aV (k:=I3 ?_))
  exact I8 λw hw=>rq_ r h hF hw
 refine I7 (wc_ (I4 (mV (k:=?_))))
 obtain⟨z4,hz5,h⟩:=bnd h
 refine ecV [] (caV call8) (λw hp=>wQ room hroom hp hz5) ?_
 rintro Γ6 _ _ hl7 ⟨g10,row11,rfl,rfl,hr12,_⟩
 refine cwV 16 [_] (aV (k:=I3 (I4 (mV (k:=?_)))))
 obtain⟨z13,hz14,h⟩:=bnd h
 refine ecV [] (caV call14) (λw hp=>uL room hroom hp hz14) ?_
 rintro Γ15 _ _ hl16 ⟨g19,row20,rfl,rfl,hr21,_⟩
 refine cwV 18 [_,_] (aV (k:=I3 (I4 (mV (k:=?_)))))
 obtain⟨z22,hz23,h⟩:=bnd h
 refine ecV [1] (caV call9) (λw hp=>pR (hr12.mono hl16) (⟨#[115]⟩:ByteArray) (show (⟨#[115]⟩:ByteArray).size≤lim by decide) 64 iV hp hz23) ?_
 rintro Γ24 _ _ hl25 ⟨row28,g30,row31,rfl,rfl,hr29,hr32,hr33,_⟩
 refine cwV 21 [_,_,_] (mV (k:=sV exV (k:=sV exV (k:=aU (v:=optp z22.2.1 g30) (k:=aV (k:=I3 (I4 ?_)))))))
 refine mV (k:=?_)
 obtain⟨z34,hz35,h⟩:=bnd h
 refine ecV [2] (caV call15) (λw hp=>oh (hr21.mono hl25) (⟨#[115]⟩:ByteArray) (show (⟨#[115]⟩:ByteArray).size≤lim by decide) 64 iV hp hz35) ?_
 rintro Γ36 _ _ hl37 ⟨row40,g42,row43,rfl,rfl,hr41,hr44,hr45,_⟩
 refine cwV 26 [_,_,_,_] (mV (k:=sV exV (k:=sV exV (k:=aU (v:=optp z34.2.1 g42) (k:=aV (k:=I3 (I5 ?_)))))))
 refine I4 (aV (k:=I3 (Ia ?_)))
 refine Ie h (λ(i67:Nat) (s:(Option ae)×Int×(Option ah)×Int×a7×a8) σ w=>match s with | (o48,e_52,o54,f_58,o60,o63) => ∃(Γ46:Gh), ∃(g49:Nat), ∃(row50:Rowb), ∃(g55:Nat), ∃(row56:Rowb), ∃(row61:Rowb), ∃(row64:Rowb),slots σ [(1,.slice Ascript script.length cscript),(5,(pq g10)),(6,(pq g19)),(7,optp o48 g49),(8,ii e_52),(9,optp o54 g55),(10,ii f_58),(11,ii (i67:Int))]∧CC F Γ46 [row50,row56,row61,row64] w∧Gh.le Γ36 Γ46∧oK (ae.ob (86,g10) Γ46 g49) row50 o48∧I64 e_52∧oK (ah.ob (101,g19) Γ46 g55) row56 o54∧I64 f_58∧a7.ob 96 Γ46 g19 row61 o60∧a8.ob 80 Γ46 g10 row64 o63∧True) ?_ ?_
 ·
  intro w hw
  exact⟨Γ36,g30,row31,g42,row43,row40,row28,slK,(hw.on [3,1,0,0]),gR,(iA hr32 (λ_ h=>h.mono hl37)),hr33,hr44,hr45,hr41,(hr29.mono hl37),trivial⟩
 rintro f66 i67 ⟨o48,e_52,o54,f_58,o60,o63⟩ σ w hi68 hlt69 hge70 ⟨Γ46,g49,row50,g55,row56,row61,row64,hsl,hw,hl47,ho51,hr53,ho57,hr59,ho62,ho65,-⟩
 refine slV hsl hw [_,_,_,_] ?_; clear hw hsl
 refine I5 (I4 (mV (k:=mV (k:=sV (ag rfl underlying44) (k:=sV aG (k:=I3 ?_))))))
 refine coV (λhb71=>?_) (λhb71=>?_)
 ·
  have hl72:=ilt hb71
  have h:=hlt69 hl72
  refine I7 (wc_ (I5 (Ia (I4 (mV (k:=mV (k:=sV (aN (i:=i67) underlying44 sizeOf53 rfl rfl rfl hl72 ((hscript.mono ((((hl7.trans hl16).trans hl25).trans hl37).trans hl47)).some_ hl72)) (k:=?_))))))))
  obtain⟨A73,c74,A75,c76,A77,c78,hx79⟩:=(hscript.mono ((((hl7.trans hl16).trans hl25).trans hl37).trans hl47)).dfirthlaw10_OpT_at i67
  refine sV (jx (c:=0) (vs:=(au.cs A73 c74 A75 c76 A77 c78 (gt script i67))) (hx79 hl72).2 rfl isAgg53 sizeOf53 rfl rfl rfl) (k:=?_)
  refine alV zeroValue53 λg80=>?_
  refine stV 0 (.agg (au.cs A73 c74 A75 c76 A77 c78 (gt script i67)).toArray) (au.cs A73 c74 A75 c76 A77 c78 (gt script i67)).toArray sizeOf53 (k:=I3 ?_)
  refine Id (λσ w => ∃(e_83:Int), ∃(f_85:Int), ∃(o87:Option ae), ∃(o90:Option ah), ∃(o93:a7), ∃(o96:a8), ∃(Γ81:Gh), ∃(row88:Rowb), ∃(row91:Rowb), ∃(row94:Rowb), ∃(row97:Rowb),aS script f66 i67 e_83 f_85 o87 o90 o93 o96=some r∧slots σ [(1,.slice Ascript script.length cscript),(5,(pq g10)),(6,(pq g19)),(7,optp o87 g49),(8,ii e_83),(9,optp o90 g55),(10,ii f_85),(11,ii (i67:Int)),(12,(pq g80))]∧CC F Γ81 [[(g80,.cells (au.cs A73 c74 A75 c76 A77 c78 (gt script i67)).toArray 53 (0,0))],row88,row91,row94,row97] w∧Gh.le Γ46 Γ81∧I64 e_83∧I64 f_85∧oK (ae.ob (86,g10) Γ81 g49) row88 o87∧oK (ah.ob (101,g19) Γ81 g55) row91 o90∧a7.ob 96 Γ81 g19 row94 o93∧a8.ob 80 Γ81 g10 row97 o96∧True) ?_ ?_
  ·
   refine Ia (I4 (sV (q_fl 0 oX) (k:=sV (ldV 0 Jc) (k:=sV bp (k:=mV (k:=vG1 (h:=λhg99=>bv (v:=optp o48 g49) rfl (by kernel_rfl)) (k:=vG1 (h:=λhg100=>rK JO rfl (grV hg100) rfl) (k:=?_))))))))
   refine sV pkA (k:=mV (k:=vG1 (h:=λhg101=>bv (v:=optp o54 g55) rfl (by kernel_rfl)) (k:=vG1 (h:=λhg102=>rK JY rfl (grV hg102) rfl) (k:=sV pkA (k:=aV (k:=I3 ?_))))))
   refine ciV h (λhb103 h=>?_) (λhb103 h=>?_)
   ·
    obtain⟨z104,hz105,h⟩:=bnd h
    have ho106:=iy ho51 hz105
    obtain⟨z107,hz108,h⟩:=bnd h
    have ho109:=iy ho57 hz108
    refine I4 (sV (bv (v:=(pq g49)) rfl (bz rfl hz105)) (k:=sV (q_fl 1 zO) (k:=sV (ldaV 0 [.string (gt script i67).r.key,.slice A73 ((gt script i67).r.vers).length c74] JA Jz) (k:=?_))))
    obtain⟨z110,hz111,h⟩:=bnd h
    refine ecV [1,3] (caV call11) (λw hp=>sW ho106 ((gt script i67).r) ⟨(hx79 hl72).1.2.1,⟨(hx79 hl72).1.2.2.1.1,(hx79 hl72).1.2.2.1.2⟩⟩ ho65 hp hz111) ?_
    rintro Γ112 _ _ hl113 ⟨row116,row118,rfl,rfl,hr117,hr119,hr120,_⟩
    refine cwV 54 [_,_,_,_,_] (aV (k:=I3 ?_))
    refine I9 ?_
    refine sV (bv (v:=(pq g55)) rfl (bz rfl hz108)) (k:=sV (q_fl 1 zO) (k:=sV (ldaV 2 [.string (gt script i67).r.key,.slice A73 ((gt script i67).r.vers).length c74] JA Jz) (k:=?_)))
    obtain⟨z121,hz122,h⟩:=bnd h
    refine ecV [3,3] (caV call16) (λw hp=>pW (ho109.mono hl113) ((gt script i67).r) ⟨(hx79 hl72).1.2.1,⟨(hx79 hl72).1.2.2.1.1,((hx79 hl72).1.2.2.1.2.mono hl113)⟩⟩ (ho62.mono hl113) hp hz122) ?_
    rintro Γ123 _ _ hl124 ⟨row127,row129,rfl,rfl,hr128,hr130,hr131,_⟩
    refine cwV 58 [_,_,_,_,_] (aV (k:=?_))
    refine I6 ?_
    intro w hw
    have hc132:optp o48 g49=(pq g49):=bz rfl hz105
    rw [hc132]
    have hc133:optp o54 g55=(pq g55):=bz rfl hz108
    rw [hc133]
    exact⟨z110.2.2,z121.2.2,(some z110.1),(some z121.1),z121.2.1,z110.2.1,Γ123,row116,row127,row129,row118,h,slK,(hw.on [4,2,0,0,0]),(hl113.trans hl124),hr120,hr131,(hr117.mono hl124),hr128,hr130,(hr119.mono hl124),trivial⟩
   refine I4 (sV (q_fl 0 oX) (k:=sV (ldV 0 Jc) (k:=sV bp (k:=mV (k:=vG1 (h:=λhg134=>bv (v:=optp o48 g49) rfl (by kernel_rfl)) (k:=vG1 (h:=λhg135=>rK JO rfl (grV hg135) rfl) (k:=sV pkA (k:=?_))))))))
   refine mV (k:=vG1 (h:=λhg136=>bv (v:=optp o54 g55) rfl (by kernel_rfl)) (k:=vG1 (h:=λhg137=>rK JY rfl (grV hg137) rfl) (k:=sV pkA (k:=aV (k:=I3 ?_)))))
   refine ciV h (λhb138 h=>?_) (λhb138 h=>?_)
   ·
    obtain⟨z139,hz140,h⟩:=bnd h
    have ho141:=iy ho51 hz140
    obtain⟨z142,hz143,h⟩:=bnd h
    have ho144:=iy ho57 hz143
    refine I4 (sV (bv (v:=(pq g49)) rfl (bz rfl hz140)) (k:=sV (q_fl 3 zj) (k:=sV (ldV 0 isAgg50) (k:=?_))))
    obtain⟨z145,hz146,h⟩:=bnd h
    refine ecV [1,3] (caV call17) (λw hp=>nL ho141 (hx79 hl72).1.2.2.2.1.2 (hx79 hl72).1.2.2.2.1.1 ho65 hp hz146) ?_
    rintro Γ147 _ _ hl148 ⟨row151,row153,rfl,rfl,hr152,hr154,hr155,_⟩
    refine cwV 74 [_,_,_,_,_] (aV (k:=I3 ?_))
    refine I9 ?_
    refine sV (bv (v:=(pq g55)) rfl (bz rfl hz143)) (k:=sV (q_fl 3 zj) (k:=sV (ldV 2 isAgg50) (k:=?_)))
    obtain⟨z156,hz157,h⟩:=bnd h
    refine ecV [3,3] (caV call18) (λw hp=>pg (ho144.mono hl148) ((hx79 hl72).1.2.2.2.1.2.mono hl148) (hx79 hl72).1.2.2.2.1.1 (ho62.mono hl148) hp hz157) ?_
    rintro Γ158 _ _ hl159 ⟨row162,row164,rfl,rfl,hr163,hr165,hr166,_⟩
    refine cwV 78 [_,_,_,_,_] (aV (k:=?_))
    refine I6 ?_
    intro w hw
    have hc167:optp o48 g49=(pq g49):=bz rfl hz140
    rw [hc167]
    have hc168:optp o54 g55=(pq g55):=bz rfl hz143
    rw [hc168]
    exact⟨z145.2.2,z156.2.2,(some z145.1),(some z156.1),z156.2.1,z145.2.1,Γ158,row151,row162,row164,row153,h,slK,(hw.on [4,2,0,0,0]),(hl148.trans hl159),hr155,hr166,(hr152.mono hl159),hr163,hr165,(hr154.mono hl159),trivial⟩
   refine I4 (sV (q_fl 0 oX) (k:=sV (ldV 0 Jc) (k:=sV bp (k:=aV (k:=I3 ?_)))))
   refine ciV h (λhb169 h=>?_) (λhb169 h=>?_)
   ·
    refine I4 (mV (k:=sV (q_fl 5 AA) (k:=sV (ldV 0 Jc) (k:=sV (q_fl 6 zL) (k:=sV (ldV 0 Jc) (k:=?_))))))
    obtain⟨z170,hz171,h⟩:=bnd h
    refine ecV [4] (caV call19) (λw hp=>ue ho65 ((gt script i67).n) (hx79 hl72).1.2.2.2.2.2.1 ((gt script i67).torn) (hx79 hl72).1.2.2.2.2.2.2 hp hz171) ?_
    rintro Γ172 _ _ hl173 ⟨row176,rfl,rfl,hr177,_⟩
    refine cwV 88 [_,_,_,_,_] (I3 ?_)
    refine I9 ?_
    refine mV (k:=sV (q_fl 5 AA) (k:=sV (ldV 1 Jc) (k:=sV (q_fl 6 zL) (k:=sV (ldV 1 Jc) (k:=?_)))))
    obtain⟨z178,hz179,h⟩:=bnd h
    refine ecV [4] (caV call20) (λw hp=>pe (ho62.mono hl173) ((gt script i67).n) (hx79 hl72).1.2.2.2.2.2.1 ((gt script i67).torn) (hx79 hl72).1.2.2.2.2.2.2 hp hz179) ?_
    rintro Γ180 _ _ hl181 ⟨row184,rfl,rfl,hr185,_⟩
    refine cwV 94 [_,_,_,_,_] ?_
    exact I6 λw hw=>⟨e_52,f_58,o48,o54,z178,z170,Γ180,row50,row56,row184,row176,h,slK,(hw.on [2,2,2,0,0]),(hl173.trans hl181),hr53,hr59,(iA ho51 (λ_ h=>h.mono (hl173.trans hl181))),(iA ho57 (λ_ h=>h.mono (hl173.trans hl181))),hr185,(hr177.mono hl181),trivial⟩
   refine I4 (sV (q_fl 0 oX) (k:=sV (ldV 0 Jc) (k:=sV bp (k:=aV (k:=I3 ?_)))))
   refine ciV h (λhb186 h=>?_) (λhb186 h=>?_)
   ·
    refine I4 (mV (k:=sV (q_fl 4 zM) (k:=sV (ldV 0 J9) (k:=?_))))
    obtain⟨z187,hz188,h⟩:=bnd h
    refine ecV [4] (caV call21) (λw hp=>j4 ho65 (⟨#[115,46,48,46,49]⟩:ByteArray) (show (⟨#[115,46,48,46,49]⟩:ByteArray).size≤lim by decide) (hx79 hl72).1.2.2.2.2.1.2 (hx79 hl72).1.2.2.2.2.1.1 hp hz188) ?_
    rintro Γ189 _ _ hl190 ⟨row193,rfl,rfl,hr194,hr195,_⟩
    refine cwV 102 [_,_,_,_,_] (aV (k:=I3 (I4 (mV (k:=sV (q_fl 4 zM) (k:=sV (ldV 1 J9) (k:=?_)))))))
    obtain⟨z196,hz197,h⟩:=bnd h
    refine ecV [4] (caV call22) (λw hp=>iw (ho62.mono hl190) (⟨#[115,46,48,46,49]⟩:ByteArray) (show (⟨#[115,46,48,46,49]⟩:ByteArray).size≤lim by decide) ((hx79 hl72).1.2.2.2.2.1.2.mono hl190) (hx79 hl72).1.2.2.2.2.1.1 hp hz197) ?_
    rintro Γ198 _ _ hl199 ⟨row202,rfl,rfl,hr203,hr204,_⟩
    refine cwV 106 [_,_,_,_,_] (aV (k:=I3 (I4 (mV (k:=mV (k:=sV bD (k:=I3 ?_)))))))
    refine ciV h (λhb205 h=>?_) (λhb205 h=>?_)
    ·
     refine I4 (aV (k:=I3 ?_))
     exact I8 λw hw=>rq_ r h hF hw
    exact I7 λw hw=>⟨z187.2,z196.2,o48,o54,z196.1,z187.1,Γ198,row50,row56,row202,row193,h,slK,(hw.on [2,2,2,0,0]),(hl190.trans hl199),hr195,hr204,(iA ho51 (λ_ h=>h.mono (hl190.trans hl199))),(iA ho57 (λ_ h=>h.mono (hl190.trans hl199))),hr203,(hr194.mono hl199),trivial⟩
   exact I7 λw hw=>⟨e_52,f_58,o48,o54,o60,o63,Γ46,row50,row56,row61,row64,h,slK,hw,gR,hr53,hr59,ho51,ho57,ho62,ho65,trivial⟩
  rintro σ w ⟨e_83,f_85,o87,o90,o93,o96,Γ81,row88,row91,row94,row97,h,hsl,hw,hl82,hr84,hr86,ho89,ho92,ho95,ho98,-⟩
  refine slV hsl hw [_,_,_,_,_] ?_; clear hw hsl
  refine Id (λσ w => ∃(o208:Option ae), ∃(e_212:Int), ∃(o214:Option ah), ∃(f_218:Int), ∃(o220:a7), ∃(o223:a8), ∃(Γ206:Gh), ∃(g209:Nat), ∃(row210:Rowb), ∃(g215:Nat), ∃(row216:Rowb), ∃(row221:Rowb), ∃(row224:Rowb),bQ f66 o208 e_212 o214 f_218 o220 o223=some r∧slots σ [(1,.slice Ascript script.length cscript),(5,(pq g10)),(6,(pq g19)),(7,optp o208 g209),(8,ii e_212),(9,optp o214 g215),(10,ii f_218),(11,ii (i67:Int))]∧CC F Γ206 [row210,row216,row221,row224] w∧Gh.le Γ81 Γ206∧oK (ae.ob (86,g10) Γ206 g209) row210 o208∧I64 e_212∧oK (ah.ob (101,g19) Γ206 g215) row216 o214∧I64 f_218∧a7.ob 96 Γ206 g19 row221 o220∧a8.ob 80 Γ206 g10 row224 o223∧True) ?_ ?_
  ·
   refine I4 (sV (q_fl 0 oX) (k:=sV (ldV 0 Jc) (k:=sV lz (k:=mV (k:=vG1 (h:=λhg226=>q_fl 0 oX) (k:=vG1 (h:=λhg227=>ldV 0 Jc (hx:=grV hg227)) (k:=vG1 (h:=λhg228=>kM rfl (grV hg228)) (k:=?_))))))))
   refine sV pkA (k:=I3 ?_)
   refine ciV h (λhb229 h=>?_) (λhb229 h=>?_)
   ·
    refine I4 (mV (k:=?_))
    obtain⟨z230,hz231,h⟩:=bnd h
    refine ecV [4] (caV call9) (λw hp=>pR ho98 (⟨#[115]⟩:ByteArray) (show (⟨#[115]⟩:ByteArray).size≤lim by decide) 64 iV hp hz231) ?_
    rintro Γ232 _ _ hl233 ⟨row236,g238,row239,rfl,rfl,hr237,hr240,hr241,_⟩
    refine cwV 120 [_,_,_,_,_,_] (mV (k:=sV exV (k:=sV exV (k:=aU (v:=optp z230.2.1 g238) (k:=aV (k:=I3 ?_))))))
    refine I9 ?_
    refine mV (k:=?_)
    obtain⟨z242,hz243,h⟩:=bnd h
    refine ecV [5] (caV call15) (λw hp=>oh (ho95.mono hl233) (⟨#[115]⟩:ByteArray) (show (⟨#[115]⟩:ByteArray).size≤lim by decide) 64 iV hp hz243) ?_
    rintro Γ244 _ _ hl245 ⟨row248,g250,row251,rfl,rfl,hr249,hr252,hr253,_⟩
    refine cwV 125 [_,_,_,_,_,_,_] (mV (k:=sV exV (k:=sV exV (k:=aU (v:=optp z242.2.1 g250) (k:=aV (k:=?_))))))
    exact I6 λw hw=>⟨z230.2.1,z230.2.2,z242.2.1,z242.2.2,z242.1,z230.1,Γ244,g238,row239,g250,row251,row248,row236,h,slK,(hw.on [3,1,0,0]),(hl233.trans hl245),(iA hr240 (λ_ h=>h.mono hl245)),hr241,hr252,hr253,hr249,(hr237.mono hl245),trivial⟩
   exact I7 λw hw=>⟨o87,e_83,o90,f_85,o93,o96,Γ81,g49,row88,g55,row91,row94,row97,h,slK,(hw.on [1,1,1,1]),gR,ho89,hr84,ho92,hr86,ho95,ho98,trivial⟩
  rintro σ w ⟨o208,e_212,o214,f_218,o220,o223,Γ206,g209,row210,g215,row216,row221,row224,h,hsl,hw,hl207,ho211,hr213,ho217,hr219,ho222,ho225,-⟩
  refine slV hsl hw [_,_,_,_] ?_; clear hw hsl
  refine I4 (mV (k:=mV (k:=sV bD (k:=mV (k:=vG0 (h:=λhg254=>bv (v:=optp o208 g209) rfl (by kernel_rfl)) (k:=vG0 (h:=λhg255=>bv (v:=optp o214 g215) rfl (by kernel_rfl)) (k:=?_)))))))
  refine(Bool.eq_false_or_eq_true (!(e_212 != f_218))).elim (λhb256=>?_) (λhb256=>?_)
  ·
   have h:=bt hb256 h
   refine WR.sat (c0:=true) (g:=(e_212 != f_218)) rfl rfl rfl hb256 ?_
   refine(Bool.eq_false_or_eq_true (Option.isNone o208)).elim (λhb257=>?_) (λhb257=>?_)
   ·
    have h:=bt hb257 h
    refine(Bool.eq_false_or_eq_true (Option.isNone o214)).elim (λhb258=>?_) (λhb258=>?_)
    ·
     have h:=bt hb258 h
     obtain⟨z259,hz260,h⟩:=bnd h
     refine vqV (bb call23 rfl rfl (jX (ri (grV hb256) hb257) (ri (grV hb256) hb258))) (λw hw=>qm (Γ:=Gh.all w)  (Sat.all w) hz260) (k:=?_)
     refine WR.sat (c0:=true) (g:=(e_212 != f_218)) rfl rfl rfl hb256 ?_
     refine sV cY (k:=sV (eH (v:=.bool (!z259)) rfl rfl (pd hb256) (by kernel_rfl)) (k:=mV (k:=vG0 (h:=λhg261=>moV) (k:=?_))))
     refine(Bool.eq_false_or_eq_true (!(!z259))).elim (λhb262=>?_) (λhb262=>?_)
     ·
      have h:=bt hb262 h
      refine WR.sat (c0:=true) (g:=(!z259)) rfl rfl rfl hb262 ?_
      obtain⟨z263,hz264,h⟩:=bnd h
      refine ecV [3] (bb call25 rfl rfl (lT (grV hb262))) (λw hp=>ji ho225 hp hz264) ?_
      rintro Γ265 _ _ hl266 ⟨A269,c270,row271,rfl,rfl,hr272,_⟩
      refine cwV 139 [_,_,_,_,_] ?_
      refine WR.sat (c0:=true) (g:=(!z259)) rfl rfl rfl hb262 ?_
      refine mV (k:=?_)
      refine WR.sat (c0:=true) (g:=(!z259)) rfl rfl rfl hb262 ?_
      obtain⟨z273,hz274,h⟩:=bnd h
      refine ecV [4] (caV call26) (λw hp=>bh (ho222.mono hl266) hp hz274) ?_
      rintro Γ275 _ _ hl276 ⟨A279,c280,rfl,rfl,hc282,hr281,_⟩
      refine cwV 141 [_,_,_,_,_] ?_
      refine WR.sat (c0:=true) (g:=(!z259)) rfl rfl rfl hb262 ?_
      obtain⟨z283,hz284,h⟩:=bnd h
      refine vqV (caV call24) (λw hw=>jO (Γ:=Gh.all w) ((hr272.mono hl276).sl hw.sat.le_all (hw.ra 2 rfl)) (hr272.mono hl276).capz (hr281.mono hw.sat.le_all) hc282 (Sat.all w) hz284) (k:=?_)
      refine WR.sat (c0:=true) (g:=(!z259)) rfl rfl rfl hb262 ?_
      refine sV cY (k:=sV (eH (v:=.bool (!z283)) rfl rfl (pd hb262) (by kernel_rfl)) (k:=I3 ?_))
      refine ciV h (λhb285 h=>?_) (λhb285 h=>?_)
      ·
       refine I4 (aV (k:=I3 ?_))
       exact I8 λw hw=>rq_ r h hF hw
      refine I7 (wc_ ?_)
      refine I9 ?_
      refine mV (k:=sV (aF rfl rfl rfl (aJ hl72 (hscript.mono ((((hl7.trans hl16).trans hl25).trans hl37).trans hl47)).le)) (k:=aV (k:=?_)))
      exact I6 λw hw=>⟨hl72,(o208,e_212,o214,f_218,o220,o223),h,Γ275,g209,row210,g215,row216,row221,row224,slK,(hw.on [3,3,0,0]),((((hl47.trans hl82).trans hl207).trans hl266).trans hl276),(iA ho211 (λ_ h=>h.mono (hl266.trans hl276))),hr213,(iA ho217 (λ_ h=>h.mono (hl266.trans hl276))),hr219,(ho222.mono (hl266.trans hl276)),(ho225.mono (hl266.trans hl276)),trivial⟩
     have h:=bf hb262 h
     refine Ib (c0:=true) (g:=(!z259)) rfl rfl rfl hb262 rfl ?_
     refine Ib (c0:=true) (g:=(!z259)) rfl rfl rfl hb262 rfl ?_
     refine Ib (c0:=true) (g:=(!z259)) rfl rfl rfl hb262 rfl ?_
     refine Ib (c0:=true) (g:=(!z259)) rfl rfl rfl hb262 rfl ?_
     refine Ib (c0:=true) (g:=(!z259)) rfl rfl rfl hb262 rfl ?_
     refine sV (ig (v:=.bool true) rfl rfl (s9 hb262) (by kernel_rfl)) (k:=I3 ?_)
     refine Im (b:=true) (by kernel_rfl) rfl ?_
     refine I4 (aV (k:=I3 ?_))
     exact I8 λw hw=>rq_ r h hF hw
    have h:=bf hb258 h
    obtain⟨z286,hz287,h⟩:=bnd h
    have ho288:=iy ho217 hz287
    obtain⟨z289,hz290,h⟩:=bnd h
    refine vqV (bb call23 rfl rfl (jX (ri (grV hb256) hb257) (bz (grV hb256) hz287))) (λw hw=>qs (Γ:=Gh.all w) (ho288.mono hw.sat.le_all) (hw.ra 1 rfl) (Sat.all w) hz290) (k:=?_)
    refine WR.sat (c0:=true) (g:=(e_212 != f_218)) rfl rfl rfl hb256 ?_
    refine sV cY (k:=sV (eH (v:=.bool (!z289)) rfl rfl (pd hb256) (by kernel_rfl)) (k:=mV (k:=vG0 (h:=λhg291=>moV) (k:=?_))))
    refine(Bool.eq_false_or_eq_true (!(!z289))).elim (λhb292=>?_) (λhb292=>?_)
    ·
     have h:=bt hb292 h
     refine WR.sat (c0:=true) (g:=(!z289)) rfl rfl rfl hb292 ?_
     obtain⟨z293,hz294,h⟩:=bnd h
     refine ecV [3] (bb call25 rfl rfl (lT (grV hb292))) (λw hp=>ji ho225 hp hz294) ?_
     rintro Γ295 _ _ hl296 ⟨A299,c300,row301,rfl,rfl,hr302,_⟩
     refine cwV 139 [_,_,_,_,_] ?_
     refine WR.sat (c0:=true) (g:=(!z289)) rfl rfl rfl hb292 ?_
     refine mV (k:=?_)
     refine WR.sat (c0:=true) (g:=(!z289)) rfl rfl rfl hb292 ?_
     obtain⟨z303,hz304,h⟩:=bnd h
     refine ecV [4] (caV call26) (λw hp=>bh (ho222.mono hl296) hp hz304) ?_
     rintro Γ305 _ _ hl306 ⟨A309,c310,rfl,rfl,hc312,hr311,_⟩
     refine cwV 141 [_,_,_,_,_] ?_
     refine WR.sat (c0:=true) (g:=(!z289)) rfl rfl rfl hb292 ?_
     obtain⟨z313,hz314,h⟩:=bnd h
     refine vqV (caV call24) (λw hw=>jO (Γ:=Gh.all w) ((hr302.mono hl306).sl hw.sat.le_all (hw.ra 2 rfl)) (hr302.mono hl306).capz (hr311.mono hw.sat.le_all) hc312 (Sat.all w) hz314) (k:=?_)
     refine WR.sat (c0:=true) (g:=(!z289)) rfl rfl rfl hb292 ?_
     refine sV cY (k:=sV (eH (v:=.bool (!z313)) rfl rfl (pd hb292) (by kernel_rfl)) (k:=I3 ?_))
     refine ciV h (λhb315 h=>?_) (λhb315 h=>?_)
     ·
      refine I4 (aV (k:=I3 ?_))
      exact I8 λw hw=>rq_ r h hF hw
     refine I7 (wc_ ?_)
     refine I9 ?_
     refine mV (k:=sV (aF rfl rfl rfl (aJ hl72 (hscript.mono ((((hl7.trans hl16).trans hl25).trans hl37).trans hl47)).le)) (k:=aV (k:=?_)))
     refine I6 ?_
     intro w hw
     have hc316:optp o214 g215=(pq g215):=bz rfl hz287
     rw [hc316]
     exact⟨hl72,(o208,e_212,(some z286),f_218,o220,o223),h,Γ305,g209,row210,g215,row216,row221,row224,slK,(hw.on [3,3,0,0]),((((hl47.trans hl82).trans hl207).trans hl296).trans hl306),(iA ho211 (λ_ h=>h.mono (hl296.trans hl306))),hr213,(ho288.mono (hl296.trans hl306)),hr219,(ho222.mono (hl296.trans hl306)),(ho225.mono (hl296.trans hl306)),trivial⟩
    have h:=bf hb292 h
    refine Ib (c0:=true) (g:=(!z289)) rfl rfl rfl hb292 rfl ?_
    refine Ib (c0:=true) (g:=(!z289)) rfl rfl rfl hb292 rfl ?_
    refine Ib (c0:=true) (g:=(!z289)) rfl rfl rfl hb292 rfl ?_
    refine Ib (c0:=true) (g:=(!z289)) rfl rfl rfl hb292 rfl ?_
    refine Ib (c0:=true) (g:=(!z289)) rfl rfl rfl hb292 rfl ?_
    refine sV (ig (v:=.bool true) rfl rfl (s9 hb292) (by kernel_rfl)) (k:=I3 ?_)
    refine Im (b:=true) (by kernel_rfl) rfl ?_
    refine I4 (aV (k:=I3 ?_))
    exact I8 λw hw=>rq_ r h hF hw
   have h:=bf hb257 h
   obtain⟨z317,hz318,h⟩:=bnd h
   have ho319:=iy ho211 hz318
   refine(Bool.eq_false_or_eq_true (Option.isNone o214)).elim (λhb320=>?_) (λhb320=>?_)
   ·
    have h:=bt hb320 h
    obtain⟨z321,hz322,h⟩:=bnd h
    refine vqV (bb call23 rfl rfl (jX (bz (grV hb256) hz318) (ri (grV hb256) hb320))) (λw hw=>qj (Γ:=Gh.all w) (ho319.mono hw.sat.le_all) (hw.ra 0 rfl) (Sat.all w) hz322) (k:=?_)
    refine WR.sat (c0:=true) (g:=(e_212 != f_218)) rfl rfl rfl hb256 ?_
    refine sV cY (k:=sV (eH (v:=.bool (!z321)) rfl rfl (pd hb256) (by kernel_rfl)) (k:=mV (k:=vG0 (h:=λhg323=>moV) (k:=?_))))
    refine(Bool.eq_false_or_eq_true (!(!z321))).elim (λhb324=>?_) (λhb324=>?_)
    ·
     have h:=bt hb324 h
     refine WR.sat (c0:=true) (g:=(!z321)) rfl rfl rfl hb324 ?_
     obtain⟨z325,hz326,h⟩:=bnd h
     refine ecV [3] (bb call25 rfl rfl (lT (grV hb324))) (λw hp=>ji ho225 hp hz326) ?_
     rintro Γ327 _ _ hl328 ⟨A331,c332,row333,rfl,rfl,hr334,_⟩
     refine cwV 139 [_,_,_,_,_] ?_
     refine WR.sat (c0:=true) (g:=(!z321)) rfl rfl rfl hb324 ?_
     refine mV (k:=?_)
     refine WR.sat (c0:=true) (g:=(!z321)) rfl rfl rfl hb324 ?_
     obtain⟨z335,hz336,h⟩:=bnd h
     refine ecV [4] (caV call26) (λw hp=>bh (ho222.mono hl328) hp hz336) ?_
     rintro Γ337 _ _ hl338 ⟨A341,c342,rfl,rfl,hc344,hr343,_⟩
     refine cwV 141 [_,_,_,_,_] ?_
     refine WR.sat (c0:=true) (g:=(!z321)) rfl rfl rfl hb324 ?_
     obtain⟨z345,hz346,h⟩:=bnd h
     refine vqV (caV call24) (λw hw=>jO (Γ:=Gh.all w) ((hr334.mono hl338).sl hw.sat.le_all (hw.ra 2 rfl)) (hr334.mono hl338).capz (hr343.mono hw.sat.le_all) hc344 (Sat.all w) hz346) (k:=?_)
     refine WR.sat (c0:=true) (g:=(!z321)) rfl rfl rfl hb324 ?_
     refine sV cY (k:=sV (eH (v:=.bool (!z345)) rfl rfl (pd hb324) (by kernel_rfl)) (k:=I3 ?_))
     refine ciV h (λhb347 h=>?_) (λhb347 h=>?_)
     ·
      refine I4 (aV (k:=I3 ?_))
      exact I8 λw hw=>rq_ r h hF hw
     refine I7 (wc_ ?_)
     refine I9 ?_
     refine mV (k:=sV (aF rfl rfl rfl (aJ hl72 (hscript.mono ((((hl7.trans hl16).trans hl25).trans hl37).trans hl47)).le)) (k:=aV (k:=?_)))
     refine I6 ?_
     intro w hw
     have hc348:optp o208 g209=(pq g209):=bz rfl hz318
     rw [hc348]
     exact⟨hl72,((some z317),e_212,o214,f_218,o220,o223),h,Γ337,g209,row210,g215,row216,row221,row224,slK,(hw.on [3,3,0,0]),((((hl47.trans hl82).trans hl207).trans hl328).trans hl338),(ho319.mono (hl328.trans hl338)),hr213,(iA ho217 (λ_ h=>h.mono (hl328.trans hl338))),hr219,(ho222.mono (hl328.trans hl338)),(ho225.mono (hl328.trans hl338)),trivial⟩
    have h:=bf hb324 h
    refine Ib (c0:=true) (g:=(!z321)) rfl rfl rfl hb324 rfl ?_
    refine Ib (c0:=true) (g:=(!z321)) rfl rfl rfl hb324 rfl ?_
    refine Ib (c0:=true) (g:=(!z321)) rfl rfl rfl hb324 rfl ?_
    refine Ib (c0:=true) (g:=(!z321)) rfl rfl rfl hb324 rfl ?_
    refine Ib (c0:=true) (g:=(!z321)) rfl rfl rfl hb324 rfl ?_
    refine sV (ig (v:=.bool true) rfl rfl (s9 hb324) (by kernel_rfl)) (k:=I3 ?_)
    refine Im (b:=true) (by kernel_rfl) rfl ?_
    refine I4 (aV (k:=I3 ?_))
    exact I8 λw hw=>rq_ r h hF hw
   have h:=bf hb320 h
   obtain⟨z349,hz350,h⟩:=bnd h
   have ho351:=iy ho217 hz350
   obtain⟨z352,hz353,h⟩:=bnd h
   refine ecV [0,0] (bb call23 rfl rfl (jX (bz (grV hb256) hz318) (bz (grV hb256) hz350))) (λw hp=>sQ ho319 ho351 hp hz353) ?_
   rintro Γ354 _ _ hl355 ⟨rfl,rfl,_⟩
   refine cwV 134 [_,_,_,_] ?_
   refine WR.sat (c0:=true) (g:=(e_212 != f_218)) rfl rfl rfl hb256 ?_
   refine sV cY (k:=sV (eH (v:=.bool (!z352)) rfl rfl (pd hb256) (by kernel_rfl)) (k:=mV (k:=vG0 (h:=λhg358=>moV) (k:=?_))))
   refine(Bool.eq_false_or_eq_true (!(!z352))).elim (λhb359=>?_) (λhb359=>?_)
   ·
    have h:=bt hb359 h
    refine WR.sat (c0:=true) (g:=(!z352)) rfl rfl rfl hb359 ?_
    obtain⟨z360,hz361,h⟩:=bnd h
    refine ecV [3] (bb call25 rfl rfl (lT (grV hb359))) (λw hp=>ji (ho225.mono hl355) hp hz361) ?_
    rintro Γ362 _ _ hl363 ⟨A366,c367,row368,rfl,rfl,hr369,_⟩
    refine cwV 139 [_,_,_,_,_] ?_
    refine WR.sat (c0:=true) (g:=(!z352)) rfl rfl rfl hb359 ?_
    refine mV (k:=?_)
    refine WR.sat (c0:=true) (g:=(!z352)) rfl rfl rfl hb359 ?_
    obtain⟨z370,hz371,h⟩:=bnd h
    refine ecV [4] (caV call26) (λw hp=>bh (ho222.mono (hl355.trans hl363)) hp hz371) ?_
    rintro Γ372 _ _ hl373 ⟨A376,c377,rfl,rfl,hc379,hr378,_⟩
    refine cwV 141 [_,_,_,_,_] ?_
    refine WR.sat (c0:=true) (g:=(!z352)) rfl rfl rfl hb359 ?_
    obtain⟨z380,hz381,h⟩:=bnd h
    refine vqV (caV call24) (λw hw=>jO (Γ:=Gh.all w) ((hr369.mono hl373).sl hw.sat.le_all (hw.ra 2 rfl)) (hr369.mono hl373).capz (hr378.mono hw.sat.le_all) hc379 (Sat.all w) hz381) (k:=?_)
    refine WR.sat (c0:=true) (g:=(!z352)) rfl rfl rfl hb359 ?_
    refine sV cY (k:=sV (eH (v:=.bool (!z380)) rfl rfl (pd hb359) (by kernel_rfl)) (k:=I3 ?_))
    refine ciV h (λhb382 h=>?_) (λhb382 h=>?_)
    ·
     refine I4 (aV (k:=I3 ?_))
     exact I8 λw hw=>rq_ r h hF hw
    refine I7 (wc_ ?_)
    refine I9 ?_
    refine mV (k:=sV (aF rfl rfl rfl (aJ hl72 (hscript.mono ((((hl7.trans hl16).trans hl25).trans hl37).trans hl47)).le)) (k:=aV (k:=?_)))
    refine I6 ?_
    intro w hw
    have hc383:optp o208 g209=(pq g209):=bz rfl hz318
    rw [hc383]
    have hc384:optp o214 g215=(pq g215):=bz rfl hz350
    rw [hc384]
    exact⟨hl72,((some z317),e_212,(some z349),f_218,o220,o223),h,Γ372,g209,row210,g215,row216,row221,row224,slK,(hw.on [3,3,0,0]),(((((hl47.trans hl82).trans hl207).trans hl355).trans hl363).trans hl373),(ho319.mono ((hl355.trans hl363).trans hl373)),hr213,(ho351.mono ((hl355.trans hl363).trans hl373)),hr219,(ho222.mono ((hl355.trans hl363).trans hl373)),(ho225.mono ((hl355.trans hl363).trans hl373)),trivial⟩
   have h:=bf hb359 h
   refine Ib (c0:=true) (g:=(!z352)) rfl rfl rfl hb359 rfl ?_
   refine Ib (c0:=true) (g:=(!z352)) rfl rfl rfl hb359 rfl ?_
   refine Ib (c0:=true) (g:=(!z352)) rfl rfl rfl hb359 rfl ?_
   refine Ib (c0:=true) (g:=(!z352)) rfl rfl rfl hb359 rfl ?_
   refine Ib (c0:=true) (g:=(!z352)) rfl rfl rfl hb359 rfl ?_
   refine sV (ig (v:=.bool true) rfl rfl (s9 hb359) (by kernel_rfl)) (k:=I3 ?_)
   refine Im (b:=true) (by kernel_rfl) rfl ?_
   refine I4 (aV (k:=I3 ?_))
   exact I8 λw hw=>rq_ r h hF hw
  have h:=bf hb256 h
  refine Ib (c0:=true) (g:=(e_212 != f_218)) rfl rfl rfl hb256 rfl ?_
  refine Ib (c0:=true) (g:=(e_212 != f_218)) rfl rfl rfl hb256 rfl ?_
  refine sV (ig (v:=.bool true) rfl rfl (s9 hb256) (by kernel_rfl)) (k:=mV (k:=?_))
  refine Ib (c0:=true) (g:=true) rfl rfl rfl (nott rfl) rfl ?_
  refine Ib (c0:=true) (g:=true) rfl rfl rfl (nott rfl) rfl ?_
  refine Ib (c0:=true) (g:=true) rfl rfl rfl (nott rfl) rfl ?_
  refine Ib (c0:=true) (g:=true) rfl rfl rfl (nott rfl) rfl ?_
  refine Ib (c0:=true) (g:=true) rfl rfl rfl (nott rfl) rfl ?_
  refine Ib (c0:=true) (g:=true) rfl rfl rfl (nott rfl) rfl ?_
  refine sV (rB (v:=.bool true) rfl rfl rfl) (k:=I3 ?_)
  refine Im (b:=true) (by kernel_rfl) rfl ?_
  refine I4 (aV (k:=I3 ?_))
  exact I8 λw hw=>rq_ r h hF hw
 have h:=hge70 (ige hb71)
 refine Ic ?_
 change WC _ _ _ _ _ _
 refine I4 (aV (k:=I3 ?_))
 exact I8 λw hw=>rq_ r h hF hw
end Fw
end Go.Proofs.YtmafjpdiplfcmaaGreat
