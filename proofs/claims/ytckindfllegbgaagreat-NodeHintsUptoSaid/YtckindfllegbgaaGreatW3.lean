/- Walks through the functions that the law reaches (printed by a program). No condition. -/
import Derived.Test.YtckindfllegbgaaGreatW2
namespace Go.Proofs.YtckindfllegbgaaGreat
namespace Fw
set_option linter.unusedVariables false
set_option linter.unusedSimpArgs false
set_option linter.unusedSectionVars false
set_option maxRecDepth 100000
set_option maxHeartbeats 400000
open Go.RowKit
open Go.Proofs.Tryz
variable {Γ:Gh} {w0:World}
abbrev r_node_Node_done(gn:Nat)(en:Nat×Nat)(ga20:Nat)(ga21:Nat)(Aa21_10:Option Addr)(ca21_10:Nat)(Aa21_11:Option Addr)(ca21_11:Nat)(Aa21_12:Option Addr)(ca21_12:Nat)(Aa21_13:Option Addr)(ca21_13:Nat)(Aa21_14:Option Addr)(ca21_14:Nat)(a21:Dapi_Msg)(ga22:Nat)(Aa22v:Option Addr)(ca22v:Nat)(a22v:List Dapi_Msg)(rowa22v:Rowb)(edk0:Nat)(r:Onode_Node×Odisk_Disk)(U:List Rowb)(Γ:Gh)(v:Value):Prop := ∃(rown':Rowb), ∃(rowdk0':Rowb),v = .tuple #[]∧U = [rown',[(ga20,.cells #[.pointer (some ⟨gn,0,none⟩)] 27 (0,0))],[(ga21,.cells #[.int .i64 a21.kind,.int .i64 a21.from_.site,.int .i64 a21.from_.node,.int .i64 a21.to_.site,.int .i64 a21.to_.node,.int .i64 a21.id,.int .i64 a21.n,.int .i64 a21.for_,.int .i64 a21.code,.string a21.key,.slice Aa21_10 a21.recs.length ca21_10,.slice Aa21_11 a21.vec.length ca21_11,.slice Aa21_12 a21.path.length ca21_12,.slice Aa21_13 a21.hashes.length ca21_13,.slice Aa21_14 a21.route.length ca21_14] 40 (0,0))],[(ga22,.cells #[.slice Aa22v a22v.length ca22v] 34 (0,0))],rowa22v,rowdk0']∧Onode_Node.ob en Γ gn rown' r.1∧Odisk_Disk.ob edk0 Γ en.2 rowdk0' r.2∧True
theorem t_node_Node_done{gn:Nat}{en:Nat×Nat}{rown:Rowb}{n:Onode_Node}(hn:Onode_Node.ob en Γ gn rown n){Am10:Option Addr}{cm10:Nat}{Am11:Option Addr}{cm11:Nat}{Am12:Option Addr}{cm12:Nat}{Am13:Option Addr}{cm13:Nat}{Am14:Option Addr}{cm14:Nat}(m:Dapi_Msg)(hm:Dapi_Msg.fits Γ Am10 cm10 Am11 cm11 Am12 cm12 Am13 cm13 Am14 cm14 m){ga20:Nat}{ga21:Nat}{Aa21_10:Option Addr}{ca21_10:Nat}{Aa21_11:Option Addr}{ca21_11:Nat}{Aa21_12:Option Addr}{ca21_12:Nat}{Aa21_13:Option Addr}{ca21_13:Nat}{Aa21_14:Option Addr}{ca21_14:Nat}(a21:Dapi_Msg)(ha21:Dapi_Msg.fits Γ Aa21_10 ca21_10 Aa21_11 ca21_11 Aa21_12 ca21_12 Aa21_13 ca21_13 Aa21_14 ca21_14 a21){ga22:Nat}{Aa22v:Option Addr}{ca22v:Nat}{rowa22v:Rowb}{a22v:List Dapi_Msg}(ha22v:Own dapi_MsgT Γ 40 rowa22v Aa22v ca22v a22v){edk0:Nat}{rowdk0:Rowb}{dk0:Odisk_Disk}(hdk0:Odisk_Disk.ob edk0 Γ en.2 rowdk0 dk0)(hp:Pre [rown,[(ga20,.cells #[(pq gn)] 27 (0,0))],[(ga21,.cells (Dapi_Msg.cs Aa21_10 ca21_10 Aa21_11 ca21_11 Aa21_12 ca21_12 Aa21_13 ca21_13 Aa21_14 ca21_14 a21).toArray 40 (0,0))],[(ga22,.cells #[.slice Aa22v a22v.length ca22v] 34 (0,0))],rowa22v,rowdk0] Γ w0){r:Onode_Node×Odisk_Disk}(h:m_node_Node_done n m a21 a22v dk0=some r):Calls Tryz.prog 33 #[(pq gn),.agg (Dapi_Msg.cs Am10 cm10 Am11 cm11 Am12 cm12 Am13 cm13 Am14 cm14 m).toArray,.func (.func 41) #[] #[(pq ga20),(pq ga21),(pq ga22)]] w0 (Outc Γ [rown,[(ga20,.cells #[(pq gn)] 27 (0,0))],[(ga21,.cells (Dapi_Msg.cs Aa21_10 ca21_10 Aa21_11 ca21_11 Aa21_12 ca21_12 Aa21_13 ca21_13 Aa21_14 ca21_14 a21).toArray 40 (0,0))],[(ga22,.cells #[.slice Aa22v a22v.length ca22v] 34 (0,0))],rowa22v,rowdk0] w0 (r_node_Node_done gn en ga20 ga21 Aa21_10 ca21_10 Aa21_11 ca21_11 Aa21_12 ca21_12 Aa21_13 ca21_13 Aa21_14 ca21_14 a21 ga22 Aa22v ca22v a22v rowa22v edk0 r)):=by
 refine goV [] func33 ntmps33 results33 hp λF hF=>?_
 refine ab ?_
 refine bxV (v:=.agg (Dapi_Msg.cs Am10 cm10 Am11 cm11 Am12 cm12 Am13 cm13 Am14 cm14 m).toArray) λg1=>?_
 refine aa (ac ?_)
 refine leV λh02=>?_
 refine held_ (CC F Γ [[(g1,.cells (Dapi_Msg.cs Am10 cm10 Am11 cm11 Am12 cm12 Am13 cm13 Am14 cm14 m).toArray 40 (0,0))],[(ga20,.cells #[(pq gn)] 27 (0,0))],[(ga21,.cells (Dapi_Msg.cs Aa21_10 ca21_10 Aa21_11 ca21_11 Aa21_12 ca21_12 Aa21_13 ca21_13 Aa21_14 ca21_14 a21).toArray 40 (0,0))],[(ga22,.cells #[.slice Aa22v a22v.length ca22v] 34 (0,0))]]) (bo_ [0,1,1,1] gR h02) λk=>?_
 change WH _ _ _ _ (CC F Γ [_,_,_,_,_,_,_]) _ 9 _ _
 refine hV 0 k (q:=moV) (k:=hV 1 k (q:=nlV) (k:=hV 2 k (q:=q_fl 5 fld_74_4) (k:=hV 4 k (q:=q_fl 1 fld_40_1) (k:=hV 5 k (q:=q_fl 2 fld_32_1) (k:=hV 6 k (q:=ldV 0 isAgg3) (k:=wl_ 3 rfl ?_))))))
 obtain⟨g4_3,r4_3,m5_3,r5_3,m6_3,r6_3,hrow_3,ho0_3,ho1_3,ho2_3,ho3_3,ho4_3,ho5_3,-⟩:=id hn
 refine ufR 1 hrow_3 [_,_,_,_,_,_,_,_,_,_] ?_
 refine sV (ldV 0 isAgg71) (k:=?_)
 refine ae (nxV (bo_ [4,4,4,4] gR h02) λk=>?_)
 refine wl_ 7 rfl ?_
 obtain hq5 | ⟨o4,hq5⟩:=opt_or (mget m.from_.node n.hints)
 ·
  have h:=optm_n hq5 h
  obtain⟨rM6,hat7,hsub8⟩:=MapJ.no ho4_3 hq5
  refine sV (q_lookup1r (v:=.pointer none) (λw hw p hp=>hw.at_ (i:=2) rfl (hsub8 p hp)) hat7 rfl underlying71 zeroValue68 rfl rfl) (k:=?_)
  refine ae (nxV (bo_ [4,4,4,4] gR h02) λk=>?_)
  refine hV 8 k (q:=aoV) (k:=?_)
  refine am (by kernel_rfl) ?_
  change WC _ _ _ _ _ _
  refine ac (ab (mV (k:=sV (q_ptr_eql (a:=none) underlying68 rfl rfl rfl) (k:=aa ?_))))
  refine WC.ctk (b:=true) (by kernel_rfl) rfl ?_
  refine af ?_
  intro w hw
  have hw:=hw.fold (is:=[0,0,0,0]) rfl hrow_3
  exact re_ r [0,1,1,1,1,1] h hF hw ⟨rown,rowdk0,rfl,rfl,hn,hdk0,trivial⟩
 have h:=optm_s hq5 h
 obtain⟨gs10,rM11,rA12,rS13,rB14,hat15,hsub16,hrow17,hm18,hback19⟩:=MapJ.part ho4_3 hq5
 have hm18:Ostore_Store.ob (107,en.2) Γ gs10 rS13 o4:=hm18
 refine sV (q_lookup1r (v:=(pq gs10)) (λw hw p hp=>hw.at_ (i:=2) rfl (by rw [hrow17]; exact List.mem_append.2 (.inl (hsub16 p hp)))) hat15 rfl underlying71 zeroValue68 rfl rfl) (k:=?_)
 intro w hw; have hw:=hw.unfold (U:=[rA12,rS13,rB14]) (i:=2) rfl (by rw [hrow17]; simp)
 refine WR.here (C:=CC F Γ [_,_,_,_,_,_,_,_,_,_,_,_]) ?_ hw
 clear hw
 refine ae (nxV (bo_ [6,6,6,6] gR h02) λk=>?_)
 refine hV 8 k (q:=aoV) (k:=?_)
 refine am (by kernel_rfl) ?_
 change WC _ _ _ _ _ _
 refine ac (ab (mV (k:=sV (q_ptr_eql (a:=some ⟨gs10,0,none⟩) underlying68 rfl rfl rfl) (k:=aa ?_))))
 refine WC.cfk (b:=false) (by kernel_rfl) rfl ?_
 refine ag (wc_ (ab (sV (q_fl 10 fld_40_8) (k:=sV (ldV 6 isAgg22) (k:=sV (q_len_slice rfl underlying22) (k:=mV (k:=aa ?_)))))))
 refine ai ?_
 refine al h (λ(i29:Nat) (s:Ostore_Store×Odisk_Disk) σ w=>match s with | (o22,o25) => ∃(Γ20:Gh), ∃(row23:Rowb), ∃(row26:Rowb),slots σ [(6,(pq gs10)),(21,.slice Am10 m.recs.length cm10),(22,ii (m.recs.length:Int)),(23,ii (i29:Int))]∧CC F Γ20 [rA12,row23,rB14,[(gn,.cells #[ii n.life,.pointer (some ⟨en.2,0,none⟩),ii n.self_site,ii n.self_node,(pq g4_3),.map (some m5_3),.map (some m6_3)] en.1 (0,0))],r4_3,r6_3,[(ga20,.cells #[(pq gn)] 27 (0,0))],[(ga21,.cells (Dapi_Msg.cs Aa21_10 ca21_10 Aa21_11 ca21_11 Aa21_12 ca21_12 Aa21_13 ca21_13 Aa21_14 ca21_14 a21).toArray 40 (0,0))],[(ga22,.cells #[.slice Aa22v a22v.length ca22v] 34 (0,0))],rowa22v,row26] w∧Gh.le Γ Γ20∧Ostore_Store.ob (107,en.2) Γ20 gs10 row23 o22∧Odisk_Disk.ob edk0 Γ20 en.2 row26 o25∧True) ?_ ?_
 ·
  intro w hw
  exact⟨Γ,rS13,rowdk0,slK,(hw.on [0,0,0,0,0,0,1,1,1,1,1]),gR,hm18,hdk0,trivial⟩
 rintro f28 i29 ⟨o22,o25⟩ σ w hi30 hlt31 hge32 ⟨Γ20,row23,row26,hsl,hw,hl21,ho24,ho27,-⟩
 refine slV hsl hw [_,_,_,_,_,_,_,_,_,_,_] ?_; clear hw hsl
 refine ab (sV q_lss (k:=aa (ac ?_)))
 refine coV (λhb33=>?_) (λhb33=>?_)
 ·
  have hl34:=ilt hb33
  have h:=hlt31 hl34
  refine ag (wc_ ?_)
  refine ar (λσ w => ∃(o37:Ostore_Store), ∃(o40:Odisk_Disk), ∃(Γ35:Gh), ∃(row38:Rowb), ∃(row41:Rowb),m_node_Node_done_j5 f28 o37 o40=some r∧slots σ [(6,(pq gs10)),(21,.slice Am10 m.recs.length cm10),(22,ii (m.recs.length:Int)),(23,ii (i29:Int))]∧CC F Γ35 [rA12,row38,rB14,[(gn,.cells #[ii n.life,.pointer (some ⟨en.2,0,none⟩),ii n.self_site,ii n.self_node,(pq g4_3),.map (some m5_3),.map (some m6_3)] en.1 (0,0))],r4_3,r6_3,[(ga20,.cells #[(pq gn)] 27 (0,0))],[(ga21,.cells (Dapi_Msg.cs Aa21_10 ca21_10 Aa21_11 ca21_11 Aa21_12 ca21_12 Aa21_13 ca21_13 Aa21_14 ca21_14 a21).toArray 40 (0,0))],[(ga22,.cells #[.slice Aa22v a22v.length ca22v] 34 (0,0))],rowa22v,row41] w∧Gh.le Γ20 Γ35∧Ostore_Store.ob (107,en.2) Γ35 gs10 row38 o37∧Odisk_Disk.ob edk0 Γ35 en.2 row41 o40∧True) ?_ ?_
  ·
   refine ai (ab (sV (q_ixn (i:=i29) underlying22 sizeOf45 rfl rfl rfl hl34 ((hm.2.2.2.2.2.2.2.2.2.2.1.2.mono hl21).some_ hl34)) (k:=?_)))
   obtain⟨A43,c44,hx45⟩:=(hm.2.2.2.2.2.2.2.2.2.2.1.2.mono hl21).recT_at i29
   refine sV (q_lda (c:=0) (vs:=(Rec.cs A43 c44 (gt m.recs i29))) (hx45 hl34).2 rfl isAgg45 sizeOf45 rfl rfl rfl) (k:=?_)
   refine alV zeroValue45 λg46=>?_
   refine stV 0 (.agg (Rec.cs A43 c44 (gt m.recs i29)).toArray) (Rec.cs A43 c44 (gt m.recs i29)).toArray sizeOf45 (k:=aa (ab (mV (k:=sV (q_fl 0 fld_45_0) (k:=sV (ldV 0 isAgg9) (k:=?_))))))
   obtain⟨z47,hz48,h⟩:=bnd h
   refine ecV [2] (caV call58) (λw hp=>t_store_Store_Get ho24 ((gt m.recs i29).key) (hx45 hl34).1.1 hp hz48) ?_
   rintro Γ49 _ _ hl50 ⟨A53,c54,rfl,rfl,hc56,hr55,_⟩
   refine cwV 30 [_,_,_,_,_,_,_,_,_,_,_,_] (aV (k:=aa (ab (mV (k:=sV (q_len_slice rfl underlying43) (k:=sV q_gtr (k:=mV (k:=?_))))))))
   refine vG1 (h:=λhg57=>q_fl 1 fld_45_1) (k:=vG1 (h:=λhg58=>ldV 1 isAgg43 (hx:=grV hg58)) (k:=vG1 (h:=λhg59=>moV) (k:=?_)))
   obtain⟨z61,hz62,h⟩:=bnd h
   refine vC1 (h:=λhg60=>q_call (call_run call59 rfl rfl (args2 (grV hg60) (grV hg60))) (λw hw=>t_vers_Lacks (Γ:=Gh.all w) (((hx45 hl34).1.2.2.mono hl50).mono hw.sat.le_all) (hx45 hl34).1.2.1 (hr55.mono hw.sat.le_all) hc56 (Sat.all w) (gc_of hz62 hg60))) (k:=vG1 (h:=λhg63=>q_not rfl (grV hg63)) (k:=sV pkA (k:=aa ?_)))
   refine ciV h (λhb64 h=>?_) (λhb64 h=>?_)
   ·
    refine ah ?_
    refine mV (k:=sV (q_fl 0 fld_45_0) (k:=sV (ldV 1 isAgg9) (k:=sV (q_build' (v:=.agg #[.string (gt m.recs i29).key,.slice none 0 0]) rfl (bargs1 rfl) (λw=>by kernel_rfl)) (k:=?_))))
    obtain⟨z65,hz66,h⟩:=bnd h
    refine ecV [0,10] (caV call60) (λw hp=>t_store_Store_Put (ho24.mono hl50) (Ar_1:=none) (cr_1:=0) (⟨(gt m.recs i29).key,[]⟩:Rec) ⟨(hx45 hl34).1.1,nilV⟩ (ho27.mono hl50) hp hz66) ?_
    rintro Γ67 _ _ hl68 ⟨row71,row73,rfl,rfl,hr72,hr74,hr75,_⟩
    refine cwV 45 [_,_,_,_,_,_,_,_,_,_,_,_] ?_
    exact ae λw hw=>⟨z65.1,z65.2.1,Γ67,row71,row73,h,slK,(hw.on [3,0,2,2,2,2,2,2,2,2,0]),(hl50.trans hl68),hr72,hr74,trivial⟩
   exact ag λw hw=>⟨o22,o25,Γ49,row23,row26,h,slK,(hw.on [2,0,1,1,1,1,1,1,1,1,1]),hl50,(ho24.mono hl50),(ho27.mono hl50),trivial⟩
  rintro σ w ⟨o37,o40,Γ35,row38,row41,h,hsl,hw,hl36,ho39,ho42,-⟩
  refine slV hsl hw [_,_,_,_,_,_,_,_,_,_,_] ?_; clear hw hsl
  refine ah ?_
  refine sV (q_add_r rfl rfl rfl (ctr_len hl34 (hm.2.2.2.2.2.2.2.2.2.2.1.2.mono hl21).le)) (k:=mV (k:=?_))
  exact ae λw hw=>⟨hl34,(o37,o40),h,Γ35,row38,row41,slK,hw,(hl21.trans hl36),ho39,ho42,trivial⟩
 have h:=hge32 (ige hb33)
 refine aj ?_
 intro w hw
 obtain⟨row76,hrow77,hm78⟩:∃rw:Rowb,rw=([rA12,row23,rB14]:List Rowb).flatten∧MapJ (intK underlying3) (Ostore_Store.tob (107,en.2)) Γ20 rw m5_3 (mput m.from_.node o22 n.hints):=⟨_,rfl,by simpa using hback19 _ _ _ hl21 ho24⟩
 have hw:=hw.fold (is:=[0,0,0]) rfl hrow77
 obtain⟨row_79,hrow_79,hob_79⟩:∃rw:Rowb,rw=([[(gn,.cells #[ii n.life,.pointer (some ⟨en.2,0,none⟩),ii n.self_site,ii n.self_node,(pq g4_3),.map (some m5_3),.map (some m6_3)] en.1 (0,0))],r4_3,row76,r6_3]:List Rowb).flatten∧Onode_Node.ob en Γ20 gn rw (⟨n.life,n.self_site,n.self_node,n.own,(mput m.from_.node o22 n.hints),n.does⟩:Onode_Node):=⟨_,rfl,g4_3,r4_3,m5_3,row76,m6_3,r6_3,rfl,ho0_3,ho1_3,ho2_3,(ho3_3.mono hl21),hm78,(ho5_3.mono hl21),trivial⟩
 have hw:=hw.fold (is:=[1,1,0,0]) rfl hrow_79
 cases h
 subst hF
 exact end_e (is:=[0,0,0,0,0,0]) (by kernel_rfl) hw rfl ⟨row_79,row26,rfl,rfl,hob_79,ho27,trivial⟩
abbrev r_node_Node_Handle(gn:Nat)(en:Nat×Nat)(edk0:Nat)(r:Onode_Node×Odisk_Disk×(List Dapi_Msg))(U:List Rowb)(Γ:Gh)(v:Value):Prop := ∃(rown':Rowb), ∃(rowdk0':Rowb), ∃(A0:Option Addr), ∃(c0:Nat), ∃(row0:Rowb),v = .slice A0 r.2.2.length c0∧U = [rown',rowdk0',row0]∧Onode_Node.ob en Γ gn rown' r.1∧Odisk_Disk.ob edk0 Γ en.2 rowdk0' r.2.1∧Own dapi_MsgT Γ 40 row0 A0 c0 r.2.2∧True
theorem t_node_Node_Handle{gn:Nat}{en:Nat×Nat}{rown:Rowb}{n:Onode_Node}(hn:Onode_Node.ob en Γ gn rown n){Am10:Option Addr}{cm10:Nat}{Am11:Option Addr}{cm11:Nat}{Am12:Option Addr}{cm12:Nat}{Am13:Option Addr}{cm13:Nat}{Am14:Option Addr}{cm14:Nat}(m:Dapi_Msg)(hm:Dapi_Msg.fits Γ Am10 cm10 Am11 cm11 Am12 cm12 Am13 cm13 Am14 cm14 m){edk0:Nat}{rowdk0:Rowb}{dk0:Odisk_Disk}(hdk0:Odisk_Disk.ob edk0 Γ en.2 rowdk0 dk0)(hp:Pre [rown,rowdk0] Γ w0){r:Onode_Node×Odisk_Disk×(List Dapi_Msg)}(h:m_node_Node_Handle n m dk0=some r):Calls Tryz.prog 13 #[(pq gn),.agg (Dapi_Msg.cs Am10 cm10 Am11 cm11 Am12 cm12 Am13 cm13 Am14 cm14 m).toArray] w0 (Outc Γ [rown,rowdk0] w0 (r_node_Node_Handle gn en edk0 r)):=by
 refine goV [4] func13 ntmps13 results13 hp λF hF=>?_
 refine ab ?_
 refine bxV (v:=(pq gn)) λg1=>?_
 refine bxV (v:=.agg (Dapi_Msg.cs Am10 cm10 Am11 cm11 Am12 cm12 Am13 cm13 Am14 cm14 m).toArray) λg2=>?_
 refine aV (k:=aa (ac (ac ?_)))
 obtain⟨g4_3,r4_3,m5_3,r5_3,m6_3,r6_3,hrow_3,ho0_3,ho1_3,ho2_3,ho3_3,ho4_3,ho5_3,-⟩:=id hn
 refine ufC 2 hrow_3 [_,_,_,_,_,_,_] ?_
 refine drV ?_
 refine zV (ldaV 4 (Dapi_Msg.cs Am10 cm10 Am11 cm11 Am12 cm12 Am13 cm13 Am14 cm14 m) isAgg40 sizeOf40) (k:=?_)
 obtain⟨z4,hz5,h⟩:=bnd h
 refine wc rfl rfl rfl (q_call (caV call40) (λw hw=>t_code_RightMsg (Γ:=Gh.all w) m (Dapi_Msg.fits_mono hm hw.sat.le_all) (Sat.all w) hz5)) (zV q_not (k:=zV moV (k:=wG0 (h:=λhg6=>q_fl 3 fld_40_2) (k:=wG0 (h:=λhg7=>ldaV 4 (Adr.cs m.to_) isAgg32 sizeOf32 (hx:=grV hg7)) (k:=wG0 (h:=λhg8=>ldV 5 isAgg27) (k:=wG0 (h:=λhg9=>nlV (hv:=grV hg9)) (k:=wG0 (h:=λhg10=>q_fl 2 fld_74_2 rfl (grV hg10)) (k:=?_))))))))
 refine wG0 (h:=λhg11=>ldaV 0 [ii n.self_site,ii n.self_node] isAgg32 sizeOf32 (hx:=grV hg11)) (k:=wG0 (h:=λhg12=>q_neq_Adr (a:=m.to_) (b:=(⟨n.self_site,n.self_node⟩:Adr)) rfl (grV hg12) (grV hg12)) (k:=zV pkO (k:=zV moV (k:=wG0 (h:=λhg13=>q_fl 1 fld_40_1) (k:=wG0 (h:=λhg14=>q_fl 1 fld_32_0 rfl (grV hg14)) (k:=wG0 (h:=λhg15=>ldV 4 isAgg3 (hx:=grV hg15)) (k:=wG0 (h:=λhg16=>ldV 5 isAgg27) (k:=?_))))))))
 refine wG0 (h:=λhg17=>nlV (hv:=grV hg17)) (k:=wG0 (h:=λhg18=>q_fl 2 fld_74_2 rfl (grV hg18)) (k:=wG0 (h:=λhg19=>q_fl 2 fld_32_0 rfl (grV hg19)) (k:=wG0 (h:=λhg20=>ldV 0 isAgg3 (hx:=grV hg20)) (k:=wG0 (h:=λhg21=>q_neq rfl (grV hg21) (grV hg21)) (k:=zV pkO (k:=?_))))))
 refine ao ?_
 change WC _ _ _ _ _ _
 refine ciV h (λhb22 h=>?_) (λhb22 h=>?_)
 ·
  refine ab (aV (k:=aa ?_))
  refine af ?_
  intro w hw
  have hw:=hw.fold (is:=[0,0,0,0]) rfl hrow_3
  have hw:=hw.pad
  exact re_ r [1,3,0] h hF hw ⟨rown,rowdk0,none,0,[],rfl,rfl,hn,hdk0,(Own.nil dapi_MsgT _ 40),trivial⟩
 refine ag (wc_ (ab ?_))
 refine alV zeroValue34 λg24=>?_
 refine aa ?_
 refine foC [1,1,1,1] hrow_3 [_,_,_,_,_] ?_
 refine ar (λσ w => ∃(x28:List Dapi_Msg), ∃(o33:Onode_Node), ∃(o36:Odisk_Disk), ∃(Γ26:Gh), ∃(A29:Option Addr), ∃(c30:Nat), ∃(row31:Rowb), ∃(row34:Rowb), ∃(row37:Rowb),m_node_Node_Handle_j1 x28 o33 o36=some r∧slots σ [(5,(pq g24))]∧CC F Γ26 [row31,row34,[(g24,.cells #[.slice A29 x28.length c30] 34 (0,0))],row37] w∧Gh.le Γ Γ26∧Own dapi_MsgT Γ26 40 row31 A29 c30 x28∧Onode_Node.ob en Γ26 gn row34 o33∧Odisk_Disk.ob edk0 Γ26 en.2 row37 o36∧True) ?_ ?_
 ·
  refine ac ?_
  refine leV λh039=>?_
  refine held_ (CC F Γ [[(g24,.cells #[.slice none 0 0] 34 (0,0))],[(g2,.cells (Dapi_Msg.cs Am10 cm10 Am11 cm11 Am12 cm12 Am13 cm13 Am14 cm14 m).toArray 40 (0,0))],[(g1,.cells #[(pq gn)] 27 (0,0))]]) (bo_ [1,1,1] gR h039) λk=>?_
  change WH _ _ _ _ (CC F Γ [_,_,_,_,_]) _ 8 _ _
  refine hV 0 k (q:=ldV 2 isAgg27) (k:=hV 1 k (q:=nlV) (k:=hV 2 k (q:=q_fl 6 fld_74_5) (k:=hV 4 k (q:=q_fl 0 fld_40_0) (k:=hV 5 k (q:=ldV 1 isAgg3) (k:=wl_ 3 rfl ?_)))))
  obtain⟨g4_40,r4_40,m5_40,r5_40,m6_40,r6_40,hrow_40,ho0_40,ho1_40,ho2_40,ho3_40,ho4_40,ho5_40,-⟩:=id hn
  refine ufR 0 hrow_40 [_,_,_,_,_,_,_,_] ?_
  refine sV (ldV 0 isAgg72) (k:=?_)
  refine ae (nxV (bo_ [4,4,4] gR h039) λk=>?_)
  refine wl_ 6 rfl ?_
  obtain hq41 | ⟨a42,hq41⟩:=opt_or (mget m.kind n.does)
  ·
   have h:=optm_n hq41 h
   refine sV (q_lookup1 (v:=.nilFunc) (MapO.miss ho5_40 .nilFunc hq41) rfl underlying72 zeroValue76 rfl rfl (i:=3) rfl) (k:=?_)
   refine ae (nxV (bo_ [4,4,4] gR h039) λk=>?_)
   refine hV 7 k (q:=q_assign (v:=.nilFunc) rfl (by kernel_rfl)) (k:=?_)
   refine am (by kernel_rfl) ?_
   change WC _ _ _ _ _ _
   refine ab (mU (v:=.nilFunc) (k:=sV (q_nf_neq underlying76 rfl rfl rfl) (k:=aa ?_)))
   refine WC.cfk (b:=false) (by kernel_rfl) rfl ?_
   refine ag ?_
   intro w hw
   have hw:=hw.fold (is:=[0,0,0,0]) rfl hrow_40
   have hw:=hw.pad
   exact⟨[],n,dk0,Γ,none,0,[],rown,rowdk0,h,slK,(hw.on [0,0,0,2]),gR,(Own.nil dapi_MsgT _ 40),hn,hdk0,trivial⟩
  have h:=optm_s hq41 h
  refine(Bool.eq_false_or_eq_true (a42==32)).elim (λhb47=>?_) (λhb47=>?_)
  ·
   have h:=bt hb47 h
   have hq48:(mget m.kind n.does)=some 32:=hq41.trans (congrArg some (eq_of_beq hb47))
   obtain⟨v44,hv45,hat46⟩:=MapO.hit ho5_40 .nilFunc hq48
   obtain rfl:v44 = .func (.func 32) #[(pq gn)] #[]:=hv45
   refine sV (q_lookup1 (v:=.func (.func 32) #[(pq gn)] #[]) hat46 rfl underlying72 zeroValue76 rfl rfl (i:=3) rfl) (k:=?_)
   refine ae (nxV (bo_ [4,4,4] gR h039) λk=>?_)
   refine hV 7 k (q:=q_assign (v:=.func (.func 32) #[(pq gn)] #[]) rfl (by kernel_rfl)) (k:=?_)
   refine am (by kernel_rfl) ?_
   change WC _ _ _ _ _ _
   refine ab (mU (v:=.func (.func 32) #[(pq gn)] #[]) (k:=sV (q_fn_neq underlying76 rfl rfl rfl) (k:=aa ?_)))
   refine WC.ctk (b:=true) (by kernel_rfl) rfl ?_
   refine ah ?_
   refine mU (v:=.func (.func 32) #[(pq gn)] #[]) (k:=sV (ldaV 5 (Dapi_Msg.cs Am10 cm10 Am11 cm11 Am12 cm12 Am13 cm13 Am14 cm14 m) isAgg40 sizeOf40) (k:=sV (q_mkfn (v:=.func (.func 41) #[] #[(pq g1),(pq g2),(pq g24)]) rfl (by kernel_rfl)) (k:=?_)))
   refine foR [0,0,0,0] hrow_40 [_,_,_,_,_] ?_
   refine WR.sub (λw hw=>hw.pad) ?_
   obtain⟨z50,hz51,h⟩:=bnd h
   refine ecV [1,3,2,1,0,0] (call_run_fb (first:=#[(pq gn)]) call32 rfl (by kernel_rfl) (by kernel_rfl)) (λw hp=>t_node_Node_put hn m hm  m (by exact hm) (Own.nil dapi_MsgT Γ 40) hdk0 hp hz51) ?_
   rintro Γ52 _ _ hl53 ⟨row56,A58,c59,row60,row62,rfl,rfl,hr57,hr61,hr63,_⟩
   refine cwV 42 [_,_,_,_,_,_] ?_
   exact ae λw hw=>⟨z50.2.1,z50.1,z50.2.2,Γ52,A58,c59,row60,row56,row62,h,slK,(hw.on [4,0,2,2]),hl53,hr61,hr57,hr63,trivial⟩
  have h:=bf hb47 h
  refine(Bool.eq_false_or_eq_true (a42==33)).elim (λhb64=>?_) (λhb64=>?_)
  ·
   have h:=bt hb64 h
   have hq65:(mget m.kind n.does)=some 33:=hq41.trans (congrArg some (eq_of_beq hb64))
   obtain⟨v44,hv45,hat46⟩:=MapO.hit ho5_40 .nilFunc hq65
   obtain rfl:v44 = .func (.func 33) #[(pq gn)] #[]:=hv45
   refine sV (q_lookup1 (v:=.func (.func 33) #[(pq gn)] #[]) hat46 rfl underlying72 zeroValue76 rfl rfl (i:=3) rfl) (k:=?_)
   refine ae (nxV (bo_ [4,4,4] gR h039) λk=>?_)
   refine hV 7 k (q:=q_assign (v:=.func (.func 33) #[(pq gn)] #[]) rfl (by kernel_rfl)) (k:=?_)
   refine am (by kernel_rfl) ?_
   change WC _ _ _ _ _ _
   refine ab (mU (v:=.func (.func 33) #[(pq gn)] #[]) (k:=sV (q_fn_neq underlying76 rfl rfl rfl) (k:=aa ?_)))
   refine WC.ctk (b:=true) (by kernel_rfl) rfl ?_
   refine ah ?_
   refine mU (v:=.func (.func 33) #[(pq gn)] #[]) (k:=sV (ldaV 5 (Dapi_Msg.cs Am10 cm10 Am11 cm11 Am12 cm12 Am13 cm13 Am14 cm14 m) isAgg40 sizeOf40) (k:=sV (q_mkfn (v:=.func (.func 41) #[] #[(pq g1),(pq g2),(pq g24)]) rfl (by kernel_rfl)) (k:=?_)))
   refine foR [0,0,0,0] hrow_40 [_,_,_,_,_] ?_
   refine WR.sub (λw hw=>hw.pad) ?_
   obtain⟨z67,hz68,h⟩:=bnd h
   refine ecV [1,3,2,1,0,0] (call_run_fb (first:=#[(pq gn)]) call33 rfl (by kernel_rfl) (by kernel_rfl)) (λw hp=>t_node_Node_done hn m hm  m (by exact hm) (Own.nil dapi_MsgT Γ 40) hdk0 hp hz68) ?_
   rintro Γ69 _ _ hl70 ⟨row73,row75,rfl,rfl,hr74,hr76,_⟩
   refine cwV 42 [_,_,_,_,_,_] ?_
   exact ae λw hw=>⟨[],z67.1,z67.2,Γ69,none,0,[],row73,row75,h,slK,(hw.on [4,0,2,2]),hl70,((Own.nil dapi_MsgT Γ 40).mono hl70),hr74,hr76,trivial⟩
  have h:=bf hb64 h
  cases h
 rintro σ w ⟨x28,o33,o36,Γ26,A29,c30,row31,row34,row37,h,hsl,hw,hl27,ho32,ho35,ho38,-⟩
 refine slV hsl hw [_,_,_,_] ?_; clear hw hsl
 refine ab (sV (ldV 2 isAgg34) (k:=aV (k:=aa ?_)))
 exact af λw hw=>re_ r [1,2,0] h hF hw ⟨row34,row37,A29,c30,row31,rfl,rfl,ho35,ho38,ho32,trivial⟩
abbrev r_store_Store_Keys(gs_:Nat)(es_:Nat×Nat)(rows_:Rowb)(r:List ByteArray)(U:List Rowb)(Γ:Gh)(v:Value):Prop := ∃(A0:Option Addr), ∃(c0:Nat), ∃(row0:Rowb),v = .slice A0 r.length c0∧U = [rows_,row0]∧Own strT Γ 9 row0 A0 c0 r∧True
theorem t_store_Store_Keys{gs_:Nat}{es_:Nat×Nat}{rows_:Rowb}{s_:Ostore_Store}(hs_:Ostore_Store.ob es_ Γ gs_ rows_ s_)(hp:Pre [rows_] Γ w0){r:List ByteArray}(h:m_store_Store_Keys s_=some r):Calls Tryz.prog 74 #[(pq gs_)] w0 (Outc Γ [rows_] w0 (r_store_Store_Keys gs_ es_ rows_ r)):=by
 refine goV [2] func74 ntmps74 results74 hp λF hF=>?_
 refine ab (aV (k:=aa (ab (mV (k:=sV nlV (k:=sV (q_fl 1 fld_107_1) (k:=?_)))))))
 obtain⟨g0_1,r0_1,m1_1,r1_1,hrow_1,ho0_1,ho1_1,-⟩:=id hs_
 refine ufR 0 hrow_1 [_,_,_] ?_
 refine sV (ldV 0 isAgg63) (k:=?_)
 refine e_keys (ρ:=keys114_ren) keys114 (mb:=some m1_1) rfl rfl (caV call114) ?_
 intro g2
 refine cwV 7 [_,_,_,_] ?_
 obtain⟨hk3,h⟩:=chk_some h
 refine ecV [0,2] (caV call108) (λw hp=>sk108_114 ho1_1 (of_decide_eq_true hk3) hp) ?_
 rintro Γ4 _ _ hl5 ⟨A8,c9,row10,rfl,rfl,ho11⟩
 refine cwV 8 [_,_,_,_,_] (aV (k:=aa ?_))
 refine af ?_
 intro w hw
 have hw:=hw.fold (is:=[3,3,1]) rfl hrow_1
 exact re_ r [0,1] h hF hw ⟨A8,c9,row10,rfl,rfl,ho11,trivial⟩
abbrev r_store_Store_Get_l1(r:List Ver)(U:List Rowb)(Γ:Gh)(v:Value):Prop := ∃(A0:Option Addr), ∃(c0:Nat),v = .slice A0 r.length c0∧U = []∧r.length≤c0∧Sl verT Γ A0 r∧True
theorem t_store_Store_Get_l1{B:Gh}{gs_:Nat}{es_:Nat×Nat}{rows_:Rowb}{s_:Ostore_Store}(hs_:Ostore_Store.ob es_ B gs_ rows_ s_)(hs_r:∀p∈rows_,B p.1=some p.2)(key:ByteArray)(hkey:key.size≤lim)(hp:Pre [] Γ w0)(hpB:Pre [] B w0){r:List Ver}(h:m_store_Store_Get s_ key=some r):Calls Tryz.prog 58 #[(pq gs_),.string key] w0 (Outc Γ [] w0 (r_store_Store_Get_l1 r)):=by
 refine goV [4] func58 ntmps58 results58 hp λF hF=>?_
 have hB:Lent F B:=hF▸Lent.start hpB
 refine ab (aV (k:=aa (ab (mV (k:=sV nlV (k:=sV (q_fl 1 fld_107_1) (k:=?_)))))))
 obtain⟨g0_1,r0_1,m1_1,r1_1,hrow_1,ho0_1,ho1_1,-⟩:=id hs_
 have hg_2:∀u∈([[(gs_,.cells #[(pq g0_1),.map (some m1_1)] es_.1 (0,0))],r0_1,r1_1]:List Rowb), ∀p∈u,B p.1=some p.2:=λu hu p hp=>(λp hp=>(hs_r p hp)) p (hrow_1▸List.mem_flatten.2 ⟨u,hu,hp⟩)
 have hgc3:=hg_2 _ (List.mem_cons_self ..) (gs_,_) (List.mem_singleton.2 rfl)
 have hgs4:=hg_2 r0_1 (by simp)
 have hgs5:=hg_2 r1_1 (by simp)
 refine sV (q_via (λw hw=>hB.sat hw) λF=>(q_ldg (v:=.map (some m1_1)) hgc3 rfl isAgg63 rfl rfl)) (k:=mV (k:=?_))
 obtain⟨v6,⟨A9,c10,hv7,hc11,hs12⟩,hat8⟩:=MapO.look ho1_1 key (z:=.slice none 0 0) (zx:=[]) ⟨none,0,rfl,Nat.zero_le _,Sl.nil _ _ _⟩
 obtain rfl:v6=_:=List.cons.inj hv7 |>.1
 refine sV (q_via (λw hw=>hB.sat hw) λF=>(q_lookup1g (v:=.slice A9 ((mget key s_.keys).getD []).length c10) (λp hp=>(hgs5 p hp)) hat8 rfl underlying63 zeroValue77 rfl rfl)) (k:=?_)
 obtain⟨z13,hz14,h⟩:=bnd h
 refine e_callB (is:=[]) hB rfl rfl (caV call54) rfl (λw Θ hp hpB hle hleB hR=>t_code_Rec_l0 (hs12.mono hleB) hc11 hp hpB hz14) ?_
 rintro Γ15 _ _ hl16 ⟨A19,c20,rfl,rfl,hr21,hr22,_⟩
 refine cwV 14 [] (mV (k:=sV exV (k:=sV exV (k:=?_))))
 refine alV zeroValue45 λg23=>?_
 refine stV 0 (.agg (Rec.cs A19 c20 z13.1).toArray) (Rec.cs A19 c20 z13.1).toArray sizeOf45 (k:=aV (k:=aa (ab (sV (q_fl 1 fld_45_1) (k:=sV (ldV 0 isAgg43) (k:=aV (k:=aa ?_)))))))
 exact af λw hw=>re_ r [] h hF hw ⟨A19,c20,rfl,rfl,hr21.2.1,hr21.2.2,trivial⟩
abbrev r_store_Store_Recs(gs_:Nat)(es_:Nat×Nat)(rows_:Rowb)(r:List Rec)(U:List Rowb)(Γ:Gh)(v:Value):Prop := ∃(A0:Option Addr), ∃(c0:Nat), ∃(row0:Rowb),v = .slice A0 r.length c0∧U = [rows_,row0]∧Own recT Γ 45 row0 A0 c0 r∧True
theorem t_store_Store_Recs{gs_:Nat}{es_:Nat×Nat}{rows_:Rowb}{s_:Ostore_Store}(hs_:Ostore_Store.ob es_ Γ gs_ rows_ s_)(hp:Pre [rows_] Γ w0){r:List Rec}(h:m_store_Store_Recs s_=some r):Calls Tryz.prog 42 #[(pq gs_)] w0 (Outc Γ [rows_] w0 (r_store_Store_Recs gs_ es_ rows_ r)):=by
 refine goV [2] func42 ntmps42 results42 hp λF hF=>?_
 refine ab (aV (k:=aa (ab (aV (k:=aa (ac (ab ?_)))))))
 refine mV (k:=?_)
 obtain⟨z1,hz2,h⟩:=bnd h
 refine ecV [0] (caV call74) (λw hp=>t_store_Store_Keys hs_ hp hz2) ?_
 rintro Γ3 _ _ hl4 ⟨A7,c8,row9,rfl,rfl,hr10,_⟩
 refine cwV 7 [_,_] (sV (q_len_slice rfl underlying133) (k:=mV (k:=aa (ai ?_))))
 refine al h (λ(i19:Nat) (out_13:List Rec) σ w => ∃(Γ11:Gh), ∃(A14:Option Addr), ∃(c15:Nat), ∃(row16:Rowb),slots σ [(0,(pq gs_)),(3,.slice A14 out_13.length c15),(7,.slice A7 z1.length c8),(8,ii (z1.length:Int)),(9,ii (i19:Int))]∧CC F Γ11 [row16,rows_,row9] w∧Gh.le Γ3 Γ11∧Own recT Γ11 45 row16 A14 c15 out_13∧True) ?_ ?_
 ·
  intro w hw
  have hw:=hw.pad
  exact⟨Γ3,none,0,[],slK,hw,gR,(Own.nil recT _ 45),trivial⟩
 rintro f18 i19 out_13 σ w hi20 hlt21 hge22 ⟨Γ11,A14,c15,row16,hsl,hw,hl12,ho17,-⟩
 refine slV hsl hw [_,_,_] ?_; clear hw hsl
 refine ab (sV q_lss (k:=aa (ac ?_)))
 refine coV (λhb23=>?_) (λhb23=>?_)
 ·
  have hl24:=ilt hb23
  have h:=hlt21 hl24
  refine ag (wc_ (ac (ai (ab (sV (q_ixn (i:=i19) underlying133 sizeOf9 rfl rfl rfl hl24 ((hr10.mono hl12).some_ hl24)) (k:=sV (q_ldo (c:=0) (v:=.string (gt z1 i19)) (i:=2) rfl ((hr10.mono hl12).strT_at hl24).2 rfl isAgg9 rfl rfl) (k:=aV (k:=?_))))))))
  refine aa ?_
  refine ah ?_
  refine mV (k:=mV (k:=mV (k:=mV (k:=?_))))
  obtain⟨z25,hz26,h⟩:=bnd h
  refine e_callB (is:=[]) (Lent.nil F) rfl rfl (caV call58) rfl (λw Θ hp hpB hle hleB hR=>t_store_Store_Get_l1 ((hs_.mono (hl4.trans hl12)).mono hle) (λp hp=>hR _ (List.mem_of_getElem? (i:=1) rfl) p hp) (gt z1 i19) ((hr10.mono hl12).strT_at hl24).1 hp hpB hz26) ?_
  rintro Γ27 _ _ hl28 ⟨A31,c32,rfl,rfl,hc34,hr33,_⟩
  refine cwV 17 [_,_,_] (sV (q_build' (v:=.agg #[.string (gt z1 i19),.slice A31 z25.length c32]) rfl (bargs2 rfl rfl) (λw=>by kernel_rfl)) (k:=?_))
  refine bsV #[.string (gt z1 i19),.slice A31 z25.length c32] 45 λg35=>?_
  obtain⟨hk36,h⟩:=chk_some h
  refine apV 1 [(⟨(gt z1 i19),z25⟩:Rec)] elem_22 (ho17.mono hl28) (of_decide_eq_true hk36) (λw hw=>src_one (i:=0) rfl (by exact⟨A31,c32,rfl,⟨((hr10.mono (hl12.trans hl28)).strT_at hl24).1,⟨hc34,hr33⟩⟩⟩) hw) ?_
  intro row37 A38 c39 ho40
  refine aV (k:=?_)
  refine ae ?_
  change WC _ _ _ _ _ _
  refine ah ?_
  refine sV (q_add_r rfl rfl rfl (ctr_len hl24 (hr10.mono hl12).le)) (k:=mV (k:=?_))
  exact ae λw hw=>⟨hl24,(out_13++[(⟨(gt z1 i19),z25⟩:Rec)]),h,Γ27,A38,c39,row37,slK,(hw.on [1,1,1]),(hl12.trans hl28),ho40,trivial⟩
 have h:=hge22 (ige hb23)
 refine aj ?_
 change WC _ _ _ _ _ _
 refine ab (mV (k:=aV (k:=aa ?_)))
 exact af λw hw=>re_ r [1,0] h hF hw ⟨A14,c15,row16,rfl,rfl,ho17,trivial⟩
abbrev r_node_Node_Hints(gn:Nat)(en:Nat×Nat)(rown:Rowb)(r:List Rec)(U:List Rowb)(Γ:Gh)(v:Value):Prop := ∃(A0:Option Addr), ∃(c0:Nat), ∃(row0:Rowb),v = .slice A0 r.length c0∧U = [rown,row0]∧Own recT Γ 45 row0 A0 c0 r∧True
theorem t_node_Node_Hints{gn:Nat}{en:Nat×Nat}{rown:Rowb}{n:Onode_Node}(hn:Onode_Node.ob en Γ gn rown n)(f_:Int)(hf_:I64 f_)(hp:Pre [rown] Γ w0){r:List Rec}(h:m_node_Node_Hints n f_=some r):Calls Tryz.prog 24 #[(pq gn),ii f_] w0 (Outc Γ [rown] w0 (r_node_Node_Hints gn en rown r)):=by
 refine goV [4] func24 ntmps24 results24 hp λF hF=>?_
 refine ab (aV (k:=aa (ac (ab (mV (k:=sV nlV (k:=sV (q_fl 5 fld_74_4) (k:=?_))))))))
 obtain⟨g4_1,r4_1,m5_1,r5_1,m6_1,r6_1,hrow_1,ho0_1,ho1_1,ho2_1,ho3_1,ho4_1,ho5_1,-⟩:=id hn
 refine ufR 0 hrow_1 [_,_,_,_] ?_
 refine sV (ldV 0 isAgg71) (k:=mV (k:=?_))
 obtain hq3 | ⟨o2,hq3⟩:=opt_or (mget f_ n.hints)
 ·
  have h:=optm_n hq3 h
  obtain⟨rM4,hat5,hsub6⟩:=MapJ.no ho4_1 hq3
  refine sV (q_lookup1r (v:=.pointer none) (λw hw p hp=>hw.at_ (i:=2) rfl (hsub6 p hp)) hat5 rfl underlying71 zeroValue68 rfl rfl) (k:=aV (k:=aa (ab (mV (k:=sV (q_ptr_neq (a:=none) underlying68 rfl rfl rfl) (k:=aa ?_))))))
  refine WC.cfk (b:=false) (by kernel_rfl) rfl ?_
  refine ag (wc_ (ab (aV (k:=aa ?_))))
  refine af ?_
  intro w hw
  have hw:=hw.fold (is:=[0,0,0,0]) rfl hrow_1
  have hw:=hw.pad
  exact re_ r [1,0] h hF hw ⟨none,0,[],rfl,rfl,(Own.nil recT _ 45),trivial⟩
 have h:=optm_s hq3 h
 obtain⟨gs8,rM9,rA10,rS11,rB12,hat13,hsub14,hrow15,hm16,hback17⟩:=MapJ.part ho4_1 hq3
 have hm16:Ostore_Store.ob (107,en.2) Γ gs8 rS11 o2:=hm16
 refine sV (q_lookup1r (v:=(pq gs8)) (λw hw p hp=>hw.at_ (i:=2) rfl (by rw [hrow15]; exact List.mem_append.2 (.inl (hsub14 p hp)))) hat13 rfl underlying71 zeroValue68 rfl rfl) (k:=?_)
 intro w hw; have hw:=hw.unfold (U:=[rA10,rS11,rB12]) (i:=2) rfl (by rw [hrow15]; simp)
 refine WR.here (C:=CC F Γ [_,_,_,_,_,_]) ?_ hw
 clear hw
 refine aV (k:=aa (ab (mV (k:=sV (q_ptr_neq (a:=some ⟨gs8,0,none⟩) underlying68 rfl rfl rfl) (k:=aa ?_)))))
 refine WC.ctk (b:=true) (by kernel_rfl) rfl ?_
 refine ab (mV (k:=?_))
 obtain⟨z18,hz19,h⟩:=bnd h
 refine ecV [1] (caV call42) (λw hp=>t_store_Store_Recs hm16 hp hz19) ?_
 rintro Γ20 _ _ hl21 ⟨A24,c25,row26,rfl,rfl,hr27,_⟩
 refine cwV 15 [_,_,_,_,_,_,_] (aV (k:=aa ?_))
 refine af ?_
 intro w hw
 have hw:=hw.fold (is:=[2,0,1]) rfl (show r5_1=([rA10,rS11,rB12]:List Rowb).flatten from by rw [hrow15]; simp)
 have hw:=hw.fold (is:=[2,2,0,1]) rfl hrow_1
 exact re_ r [0,0] h hF hw ⟨A24,c25,row26,rfl,rfl,hr27,trivial⟩
abbrev r_node_Node_Tick(gn:Nat)(en:Nat×Nat)(rown:Rowb)(r:List Dapi_Msg)(U:List Rowb)(Γ:Gh)(v:Value):Prop := ∃(A0:Option Addr), ∃(c0:Nat), ∃(row0:Rowb),v = .slice A0 r.length c0∧U = [rown,row0]∧Own dapi_MsgT Γ 40 row0 A0 c0 r∧True
theorem t_node_Node_Tick{gn:Nat}{en:Nat×Nat}{rown:Rowb}{n:Onode_Node}(hn:Onode_Node.ob en Γ gn rown n)(hp:Pre [rown] Γ w0){r:List Dapi_Msg}(h:m_node_Node_Tick n=some r):Calls Tryz.prog 21 #[(pq gn)] w0 (Outc Γ [rown] w0 (r_node_Node_Tick gn en rown r)):=by
 refine goV [2] func21 ntmps21 results21 hp λF hF=>?_
 refine ab (aV (k:=aa (ab (aV (k:=aa (ac (ab ?_)))))))
 refine aV (k:=aa (ai ?_))
 refine ay h (λ(s:(List Dapi_Msg)×Int) σ w=>match s with | (out_3,f_8) => ∃(Γ1:Gh), ∃(A4:Option Addr), ∃(c5:Nat), ∃(row6:Rowb),slots σ [(0,(pq gn)),(3,.slice A4 out_3.length c5),(4,ii f_8)]∧CC F Γ1 [row6,rown] w∧Gh.le Γ Γ1∧Own dapi_MsgT Γ1 40 row6 A4 c5 out_3∧I64 f_8∧True) ?_ ?_
 ·
  intro w hw
  have hw:=hw.pad
  exact⟨Γ,none,0,[],slK,hw,gR,(Own.nil dapi_MsgT _ 40),iV,trivial⟩
 rintro f10 ⟨out_3,f_8⟩ σ w h ⟨Γ1,A4,c5,row6,hsl,hw,hl2,ho7,hr9,-⟩
 refine slV hsl hw [_,_] ?_; clear hw hsl
 refine ac (ab (mV (k:=sV q_leq (k:=aa ?_))))
 refine ciV h (λhb14 h=>?_) (λhb14 h=>?_)
 ·
  refine ag (wc_ (ac (ai (ab (mV (k:=mV (k:=?_)))))))
  obtain⟨z15,hz16,h⟩:=bnd h
  refine ecV [1] (caV call24) (λw hp=>t_node_Node_Hints (hn.mono hl2) f_8 hr9 hp hz16) ?_
  rintro Γ17 _ _ hl18 ⟨A21,c22,row23,rfl,rfl,hr24,_⟩
  refine cwV 13 [_,_,_] (sV (q_len_slice rfl underlying22) (k:=mV (k:=aa (ai ?_))))
  refine al h (λ(i33:Nat) (out_27:List Dapi_Msg) σ w => ∃(Γ25:Gh), ∃(A28:Option Addr), ∃(c29:Nat), ∃(row30:Rowb),slots σ [(0,(pq gn)),(3,.slice A28 out_27.length c29),(4,ii f_8),(13,.slice A21 z15.length c22),(14,ii (z15.length:Int)),(15,ii (i33:Int))]∧CC F Γ25 [row30,rown,row23] w∧Gh.le Γ17 Γ25∧Own dapi_MsgT Γ25 40 row30 A28 c29 out_27∧True) ?_ ?_
  ·
   intro w hw
   exact⟨Γ17,A4,c5,row6,slK,(hw.on [2,0,0]),gR,(ho7.mono hl18),trivial⟩
  rintro f32 i33 out_27 σ w hi34 hlt35 hge36 ⟨Γ25,A28,c29,row30,hsl,hw,hl26,ho31,-⟩
  refine slV hsl hw [_,_,_] ?_; clear hw hsl
  refine ab (sV q_lss (k:=aa (ac ?_)))
  refine coV (λhb37=>?_) (λhb37=>?_)
  ·
   have hl38:=ilt hb37
   have h:=hlt35 hl38
   refine ag (wc_ (ac (ai (ab (sV (q_ixn (i:=i33) underlying22 sizeOf45 rfl rfl rfl hl38 ((hr24.mono hl26).some_ hl38)) (k:=?_))))))
   obtain⟨A39,c40,hx41⟩:=(hr24.mono hl26).recT_at i33
   refine sV (q_ldoa (c:=0) (vs:=(Rec.cs A39 c40 (gt z15 i33))) (i:=2) rfl (hx41 hl38).2 rfl isAgg45 sizeOf45 rfl rfl) (k:=?_)
   refine alV zeroValue45 λg42=>?_
   refine stV 0 (.agg (Rec.cs A39 c40 (gt z15 i33)).toArray) (Rec.cs A39 c40 (gt z15 i33)).toArray sizeOf45 (k:=aa ?_)
   obtain⟨g4_43,r4_43,m5_43,r5_43,m6_43,r6_43,hrow_43,ho0_43,ho1_43,ho2_43,ho3_43,ho4_43,ho5_43,-⟩:=(hn.mono ((hl2.trans hl18).trans hl26))
   refine ufC 2 hrow_43 [_,_,_,_,_,_,_] ?_
   refine leV λh044=>?_
   refine held_ (CC F Γ25 [[(gn,.cells #[ii n.life,.pointer (some ⟨en.2,0,none⟩),ii n.self_site,ii n.self_node,(pq g4_43),.map (some m5_43),.map (some m6_43)] en.1 (0,0))],r4_43,r6_43,[(g42,.cells (Rec.cs A39 c40 (gt z15 i33)).toArray 45 (0,0))],row23]) (bo_ [0,0,1,1,2] gR h044) λk=>?_
   change WH _ _ _ _ (CC F Γ25 [_,_,_,_,_,_,_]) _ 18 _ _
   refine hV 0 k (q:=moV) (k:=hV 1 k (q:=moV) (k:=hV 2 k (q:=nlV) (k:=hV 3 k (q:=q_fl 2 fld_74_2) (k:=hV 4 k (q:=ldaV 0 [ii n.self_site,ii n.self_node] isAgg32 sizeOf32) (k:=hV 5 k (q:=moV) (k:=hV 6 k (q:=nlV) (k:=hV 7 k (q:=q_fl 2 fld_74_2) (k:=?_))))))))
   refine hV 8 k (q:=q_fl 2 fld_32_0) (k:=hV 9 k (q:=ldV 0 isAgg3) (k:=hV 10 k (q:=moV) (k:=hV 11 k (q:=q_build' (v:=.agg #[ii n.self_site,ii f_8]) rfl (bargs2 rfl rfl) (λw=>by kernel_rfl)) (k:=hV 12 k (q:=ldaV 3 (Rec.cs A39 c40 (gt z15 i33)) isAgg45 sizeOf45) (k:=wl_ 13 rfl ?_)))))
   refine bsV (Rec.cs A39 c40 (gt z15 i33)).toArray 45 λg45=>?_
   refine ae (nxV (bo_ [1,1,2,2,3] gR h044) λk=>?_)
   refine hV 14 k (q:=q_build' (v:=.agg #[ii 1,ii n.self_site,ii n.self_node,ii n.self_site,ii f_8,ii 0,ii 0,ii 0,ii 0,.string ByteArray.empty,.slice (some ⟨g45,0,none⟩) 1 1,.slice none 0 0,.slice none 0 0,.slice none 0 0,.slice none 0 0]) rfl (bargs4 rfl rfl rfl rfl) (λw=>by kernel_rfl)) (k:=wl_ 15 rfl ?_)
   have ho46:Own recT Γ25 45 [(g45,.cells (Rec.cs A39 c40 (gt z15 i33)).toArray 45 (0,0))] (some ⟨g45,0,none⟩) 1 [(gt z15 i33)]:=au (T:=recT) (ys:=[(gt z15 i33)]) [(Rec.cs A39 c40 (gt z15 i33))] rfl (show 1≤lim by decide) ⟨⟨A39,c40,rfl,(hx41 hl38).1⟩,trivial⟩
   have hc51:=ho46.capz
   refine seR 0 [_,_,_,_,_,_,_,_] λΓ47 hl48 hr49=>?_
   have hs50:=ho46.sl hl48 hr49
   refine bsV #[ii 1,ii n.self_site,ii n.self_node,ii n.self_site,ii f_8,ii 0,ii 0,ii 0,ii 0,.string ByteArray.empty,.slice (some ⟨g45,0,none⟩) [(gt z15 i33)].length 1,.slice none 0 0,.slice none 0 0,.slice none 0 0,.slice none 0 0] 40 λg52=>?_
   refine ae (nxV (bo_ [2,2,3,3,4] hl48 h044) λk=>?_)
   refine wl_ 16 rfl ?_
   obtain⟨hk53,h⟩:=chk_some h
   refine apV 7 [(⟨1,(⟨n.self_site,n.self_node⟩:Adr),(⟨n.self_site,f_8⟩:Adr),0,0,0,0,ByteArray.empty,[(gt z15 i33)],[],[],[],[]⟩:Dapi_Msg)] elem_34 (ho31.mono hl48) (of_decide_eq_true hk53) (λw hw=>src_one (i:=0) rfl (by exact⟨(some ⟨g45,0,none⟩),1,none,0,none,0,none,0,none,0,rfl,⟨iV,ho1_43,ho2_43,ho1_43,hr9,iV,iV,iV,iV,(show (ByteArray.empty:ByteArray).size≤lim by decide),⟨hc51,hs50⟩,nilV,nilV,nilV,nilV⟩⟩) hw) ?_
   intro row54 A55 c56 ho57
   refine ae (nxV (bo_ [2,2,3,3,4] hl48 h044) λk=>?_)
   refine hV 17 k (q:=aoV) (k:=?_)
   refine am (by kernel_rfl) ?_
   change WC _ _ _ _ _ _
   refine ah ?_
   refine sV (q_add_r rfl rfl rfl (ctr_len hl38 (hr24.mono hl26).le)) (k:=mV (k:=?_))
   refine ae ?_
   intro w hw
   have hw:=hw.fold (is:=[2,2,2,2]) rfl hrow_43
   exact⟨hl38,(out_27++[(⟨1,(⟨n.self_site,n.self_node⟩:Adr),(⟨n.self_site,f_8⟩:Adr),0,0,0,0,ByteArray.empty,[(gt z15 i33)],[],[],[],[]⟩:Dapi_Msg)]),h,Γ47,A55,c56,row54,slK,(hw.on [4,0,3]),(hl26.trans hl48),ho57,trivial⟩
  have h:=hge36 (ige hb37)
  refine aj ?_
  change WC _ _ _ _ _ _
  refine ah ?_
  refine mV (k:=sV q_add (k:=aV (k:=?_)))
  exact ae λw hw=>⟨(out_27,(w64 (f_8+1))),h,Γ25,A28,c29,row30,slK,(hw.on [0,0]),((hl2.trans hl18).trans hl26),ho31,(w64_r _),trivial⟩
 refine aj ?_
 change WC _ _ _ _ _ _
 refine ab (mV (k:=aV (k:=aa ?_)))
 exact af λw hw=>re_ r [1,0] h hF hw ⟨A4,c5,row6,rfl,rfl,ho7,trivial⟩
theorem t_num_Hash{Ab:Option Addr}{cb:Nat}{b:List UInt8}(hb:Sl byteT Γ Ab b)(hbc:b.length≤cb)(hs:Sat Γ w0){r:Int}(h:m_num_Hash b=some r):CQ Tryz.prog 75 #[.slice Ab b.length cb] w0 (.int .u64 r):=by
 refine goQ [2] func75 ntmps75 results75 hs λF hF=>?_
 refine ab (aV (k:=aa (ab (aV (k:=aa (ac (ab ?_)))))))
 refine mV (k:=sV (q_len_slice rfl underlying77) (k:=mV (k:=aa (ai ?_))))
 refine al h (λ(i4:Nat) (h_1:Int) σ w=>slots σ [(3,.int .u64 h_1),(6,.slice Ab b.length cb),(7,ii (b.length:Int)),(8,ii (i4:Int))]∧CC F Γ [] w∧U64 h_1∧True) ?_ ?_
 ·
  intro w hw
  exact⟨slK,hw,(show U64 14695981039346656037 by decide),trivial⟩
 rintro f3 i4 h_1 σ w hi5 hlt6 hge7 ⟨hsl,hw,hr2,-⟩
 refine slV hsl hw [] ?_; clear hw hsl
 refine ab (sV q_lss (k:=aa (ac ?_)))
 refine coV (λhb8=>?_) (λhb8=>?_)
 ·
  have hl9:=ilt hb8
  have h:=hlt6 hl9
  refine ag (wc_ (ac (ai (ab (sV (q_ixn (i:=i4) underlying77 sizeOf5 rfl rfl rfl hl9 (hb.some_ hl9)) (k:=sV (q_ld (c:=0) (v:=.int .u8 (((gt b i4).toNat:Nat):Int)) (hb.byteT_at hl9).2 rfl isAgg5 rfl rfl) (k:=aV (k:=?_))))))))
  refine aa ?_
  refine ah ?_
  refine mV (k:=mV (k:=sV (q_conv underlying82 underlying5) (k:=sV q_xor (k:=sV q_mul (k:=aV (k:=?_))))))
  refine ae ?_
  change WC _ _ _ _ _ _
  refine ah ?_
  refine sV (q_add_r rfl rfl rfl (ctr_len hl9 hb.le)) (k:=mV (k:=?_))
  exact ae λw hw=>⟨hl9,(wu64 ((ixor .u64 h_1 (wu64 (((gt b i4).toNat:Nat):Int)))*1099511628211)),h,slK,hw,(wu64_r _),trivial⟩
 have h:=hge7 (ige hb8)
 refine aj ?_
 change WC _ _ _ _ _ _
 refine ab (mV (k:=mV (k:=sV (q_shr rfl rfl rfl (by decide)) (k:=sV q_xor (k:=sV q_mul (k:=aV (k:=aa ?_)))))))
 refine ab (mV (k:=mV (k:=sV (q_shr rfl rfl rfl (by decide)) (k:=sV q_xor (k:=aV (k:=aa ?_))))))
 exact af λw hw=>rq_ r h hF hw
theorem t_ring_Part(key:ByteArray)(hkey:key.size≤lim)(hs:Sat Γ w0){r:Int}(h:m_ring_Part key=some r):CQ Tryz.prog 43 #[.string key] w0 (ii r):=by
 refine goQ [2] func43 ntmps43 results43 hs λF hF=>?_
 refine ab (aV (k:=aa (ab (mV (k:=?_)))))
 refine e_convB (src:=9) (dst:=77) (s:=key) underlying9 underlying77 underlying5 hkey rfl rfl rfl rfl rfl ?_
 intro Γ1 A2 c3 hl4 hs5 hc6
 obtain⟨z7,hz8,h⟩:=bnd h
 refine vqV (caV call75) (λw hw=>t_num_Hash (Γ:=Gh.all w) (hs5.mono hw.sat.le_all) hc6 (Sat.all w) hz8) (k:=sV (q_rem rfl rfl rfl (by decide)) (k:=sV (q_conv underlying3 underlying82) (k:=aV (k:=aa ?_))))
 exact af λw hw=>rq_ r h hF hw
abbrev r_node_Node_Recs(gn:Nat)(en:Nat×Nat)(rown:Rowb)(r:List Rec)(U:List Rowb)(Γ:Gh)(v:Value):Prop := ∃(A0:Option Addr), ∃(c0:Nat), ∃(row0:Rowb),v = .slice A0 r.length c0∧U = [rown,row0]∧Own recT Γ 45 row0 A0 c0 r∧True
theorem t_node_Node_Recs{gn:Nat}{en:Nat×Nat}{rown:Rowb}{n:Onode_Node}(hn:Onode_Node.ob en Γ gn rown n)(p_:Int)(hp_:I64 p_)(hp:Pre [rown] Γ w0){r:List Rec}(h:m_node_Node_Recs n p_=some r):Calls Tryz.prog 15 #[(pq gn),ii p_] w0 (Outc Γ [rown] w0 (r_node_Node_Recs gn en rown r)):=by
 refine goV [4] func15 ntmps15 results15 hp λF hF=>?_
 refine ab (aV (k:=aa (ab (aV (k:=aa (ac (ab ?_)))))))
 refine mV (k:=sV nlV (k:=sV (q_fl 4 fld_74_3) (k:=?_)))
 obtain⟨g4_1,r4_1,m5_1,r5_1,m6_1,r6_1,hrow_1,ho0_1,ho1_1,ho2_1,ho3_1,ho4_1,ho5_1,-⟩:=id hn
 refine ufR 0 hrow_1 [_,_,_,_] ?_
 refine sV (ldV 0 isAgg68) (k:=?_)
 obtain⟨z2,hz3,h⟩:=bnd h
 refine ecV [1] (caV call42) (λw hp=>t_store_Store_Recs ho3_1 hp hz3) ?_
 rintro Γ4 _ _ hl5 ⟨A8,c9,row10,rfl,rfl,hr11,_⟩
 refine cwV 12 [_,_,_,_,_] (sV (q_len_slice rfl underlying22) (k:=mV (k:=aa (ai ?_))))
 refine foC [2,0,1,1] hrow_1 [_,_] ?_
 refine al h (λ(i19:Nat) (out_13:List Rec) σ w => ∃(A14:Option Addr), ∃(c15:Nat), ∃(row16:Rowb),slots σ [(1,ii p_),(5,.slice A14 out_13.length c15),(12,.slice A8 z2.length c9),(13,ii (z2.length:Int)),(14,ii (i19:Int))]∧CC F Γ4 [row16,rown,row10] w∧Own recT Γ4 45 row16 A14 c15 out_13∧True) ?_ ?_
 ·
  intro w hw
  have hw:=hw.pad
  exact⟨none,0,[],slK,hw,(Own.nil recT _ 45),trivial⟩
 rintro f18 i19 out_13 σ w hi20 hlt21 hge22 ⟨A14,c15,row16,hsl,hw,ho17,-⟩
 refine slV hsl hw [_,_,_] ?_; clear hw hsl
 refine ab (sV q_lss (k:=aa (ac ?_)))
 refine coV (λhb23=>?_) (λhb23=>?_)
 ·
  have hl24:=ilt hb23
  have h:=hlt21 hl24
  refine ag (wc_ ?_)
  refine ar (λσ w => ∃(out_25:List Rec), ∃(A26:Option Addr), ∃(c27:Nat), ∃(row28:Rowb),m_node_Node_Recs_j5 f18 out_25=some r∧slots σ [(1,ii p_),(5,.slice A26 out_25.length c27),(12,.slice A8 z2.length c9),(13,ii (z2.length:Int)),(14,ii (i19:Int))]∧CC F Γ4 [row28,rown,row10] w∧Own recT Γ4 45 row28 A26 c27 out_25∧True) ?_ ?_
  ·
   refine ai (ab (sV (q_ixn (i:=i19) underlying22 sizeOf45 rfl rfl rfl hl24 (hr11.some_ hl24)) (k:=?_)))
   obtain⟨A30,c31,hx32⟩:=hr11.recT_at i19
   refine sV (q_ldoa (c:=0) (vs:=(Rec.cs A30 c31 (gt z2 i19))) (i:=2) rfl (hx32 hl24).2 rfl isAgg45 sizeOf45 rfl rfl) (k:=?_)
   refine alV zeroValue45 λg33=>?_
   refine stV 0 (.agg (Rec.cs A30 c31 (gt z2 i19)).toArray) (Rec.cs A30 c31 (gt z2 i19)).toArray sizeOf45 (k:=aa (ab (mV (k:=sV q_lss (k:=mV (k:=vG0 (h:=λhg34=>q_fl 0 fld_45_0) (k:=vG0 (h:=λhg35=>ldV 0 isAgg9 (hx:=grV hg35)) (k:=?_))))))))
   obtain⟨z37,hz38,h⟩:=bnd h
   refine vC0 (h:=λhg36=>q_call (call_run call43 rfl rfl (args1 (grV hg36))) (λw hw=>t_ring_Part (Γ:=Gh.all w) ((gt z2 i19).key) (hx32 hl24).1.1 (Sat.all w) (gc_of hz38 hg36))) (k:=vG0 (h:=λhg39=>moV) (k:=vG0 (h:=λhg40=>q_eql rfl (grV hg40) (grV hg40)) (k:=sV pkO (k:=aa ?_))))
   refine ciV h (λhb41 h=>?_) (λhb41 h=>?_)
   ·
    refine ah ?_
    refine mV (k:=sV (ldaV 0 (Rec.cs A30 c31 (gt z2 i19)) isAgg45 sizeOf45) (k:=?_))
    refine bsV (Rec.cs A30 c31 (gt z2 i19)).toArray 45 λg42=>?_
    obtain⟨hk43,h⟩:=chk_some h
    refine apV 2 [(gt z2 i19)] elem_22 ho17 (of_decide_eq_true hk43) (λw hw=>src_one (i:=0) rfl (by exact⟨A30,c31,rfl,(hx32 hl24).1⟩) hw) ?_
    intro row44 A45 c46 ho47
    refine aV (k:=?_)
    exact ae λw hw=>⟨(out_13++[(gt z2 i19)]),A45,c46,row44,h,slK,(hw.on [2,2,2]),ho47,trivial⟩
   exact ag λw hw=>⟨out_13,A14,c15,row16,h,slK,(hw.on [1,1,1]),ho17,trivial⟩
  rintro σ w ⟨out_25,A26,c27,row28,h,hsl,hw,ho29,-⟩
  refine slV hsl hw [_,_,_] ?_; clear hw hsl
  refine ah ?_
  refine sV (q_add_r rfl rfl rfl (ctr_len hl24 hr11.le)) (k:=mV (k:=?_))
  exact ae λw hw=>⟨hl24,out_25,h,A26,c27,row28,slK,hw,ho29,trivial⟩
 have h:=hge22 (ige hb23)
 refine aj ?_
 change WC _ _ _ _ _ _
 refine ab (mV (k:=aV (k:=aa ?_)))
 exact af λw hw=>re_ r [1,0] h hF hw ⟨A14,c15,row16,rfl,rfl,ho17,trivial⟩
theorem t_firthlaw15_awake(hs:Sat Γ w0){r:Bool}(h:m_firthlaw15_awake=some r):CQ Tryz.prog 7 #[] w0 (.bool r):=by
 refine goQ [0] func7 ntmps7 results7 hs λF hF=>?_
 refine ab (aV (k:=aa (ab ?_)))
 obtain⟨z1,hz2,h⟩:=bnd h
 refine ecV [] (caV call9) (λw hp=>t_disk_New 5000 iV hp hz2) ?_
 rintro Γ3 _ _ hl4 ⟨g7,row8,rfl,rfl,hr9,_⟩
 refine cwV 8 [_] ?_
 obtain⟨z10,hz11,h⟩:=bnd h
 refine vqV (caV call11) (λw hw=>t_firthlaw15_at (Γ:=Gh.all w) 1 iV (Sat.all w) hz11) (k:=?_)
 obtain⟨hk12,h⟩:=chk_some h
 obtain⟨hk13,h⟩:=chk_some h
 obtain⟨z14,hz15,h⟩:=bnd h
 refine ecV [0] (caV call10) (λw hp=>t_node_Open hr9 z10 ⟨(i64b_of hk12),(i64b_of hk13)⟩ 256 iV 3 iV hp hz15) ?_
 rintro Γ16 _ _ hl17 ⟨row20,g22,row23,rfl,rfl,hr21,hr24,hr25,_⟩
 refine cwV 10 [_,_] (mV (k:=sV exV (k:=sV exV (k:=aU (v:=optp z14.2.1 g22) (k:=aV (k:=aa (ac ?_)))))))
 refine ab (mU (v:=optp z14.2.1 g22) (k:=sV (q_opt_eql underlying27 rfl rfl rfl) (k:=mV (k:=vG0 (h:=λhg26=>moV) (k:=vG0 (h:=λhg27=>q_neq rfl (grV hg27)) (k:=sV pkO (k:=aa ?_)))))))
 refine ciV h (λhb28 h=>?_) (λhb28 h=>?_)
 ·
  refine ab (aV (k:=aa ?_))
  exact af λw hw=>rq_ r h hF hw
 obtain⟨z29,hz30,h⟩:=bnd h
 have ho31:=optob_some hr24 hz30
 refine ag (wc_ (ab (sV (q_move (v:=(pq g22)) rfl (optp_some rfl hz30)) (k:=?_))))
 obtain⟨z32,hz33,h⟩:=bnd h
 refine ecV [] (caV call26) (λw hp=>t_firthlaw15_one (⟨#[107]⟩:ByteArray) (show (⟨#[107]⟩:ByteArray).size≤lim by decide) 1 iV 1 iV hp hz33) ?_
 rintro Γ34 _ _ hl35 ⟨A38,c39,rfl,rfl,hr40,_⟩
 refine cwV 20 [_,_] ?_
 refine bsV (Rec.cs A38 c39 z32).toArray 45 λg41=>?_
 have ho42:Own recT Γ34 45 [(g41,.cells (Rec.cs A38 c39 z32).toArray 45 (0,0))] (some ⟨g41,0,none⟩) 1 [z32]:=au (T:=recT) (ys:=[z32]) [(Rec.cs A38 c39 z32)] rfl (show 1≤lim by decide) ⟨⟨A38,c39,rfl,hr40⟩,trivial⟩
 have hc47:=ho42.capz
 refine seR 0 [_,_,_] λΓ43 hl44 hr45=>?_
 have hs46:=ho42.sl hl44 hr45
 obtain⟨z48,hz49,h⟩:=bnd h
 refine ecV [] (caV call14) (λw hp=>t_firthlaw15_put 1 iV hs46 hc47 hp hz49) ?_
 rintro Γ50 _ _ hl51 ⟨A54,c55,A56,c57,A58,c59,A60,c61,A62,c63,rfl,rfl,hr64,_⟩
 refine cwV 22 [_,_,_] ?_
 obtain⟨z65,hz66,h⟩:=bnd h
 refine ecV [2,1] (caV call13) (λw hp=>t_node_Node_Handle (ho31.mono ((hl35.trans hl44).trans hl51)) z48 hr64 (hr21.mono ((hl35.trans hl44).trans hl51)) hp hz66) ?_
 rintro Γ67 _ _ hl68 ⟨row71,row73,A75,c76,row77,rfl,rfl,hr72,hr74,hr78,_⟩
 refine cwV 23 [_,_,_,_] (aV (k:=aa (ab ?_)))
 obtain⟨z79,hz80,h⟩:=bnd h
 refine ecV [] (caV call26) (λw hp=>t_firthlaw15_one (⟨#[107]⟩:ByteArray) (show (⟨#[107]⟩:ByteArray).size≤lim by decide) 2 iV 1 iV hp hz80) ?_
 rintro Γ81 _ _ hl82 ⟨A85,c86,rfl,rfl,hr87,_⟩
 refine cwV 24 [_,_,_,_] ?_
 refine bsV (Rec.cs A85 c86 z79).toArray 45 λg88=>?_
 have ho89:Own recT Γ81 45 [(g88,.cells (Rec.cs A85 c86 z79).toArray 45 (0,0))] (some ⟨g88,0,none⟩) 1 [z79]:=au (T:=recT) (ys:=[z79]) [(Rec.cs A85 c86 z79)] rfl (show 1≤lim by decide) ⟨⟨A85,c86,rfl,hr87⟩,trivial⟩
 have hc94:=ho89.capz
 refine seR 0 [_,_,_,_,_] λΓ90 hl91 hr92=>?_
 have hs93:=ho89.sl hl91 hr92
 obtain⟨z95,hz96,h⟩:=bnd h
 refine ecV [] (caV call14) (λw hp=>t_firthlaw15_put 1 iV hs93 hc94 hp hz96) ?_
 rintro Γ97 _ _ hl98 ⟨A101,c102,A103,c104,A105,c106,A107,c108,A109,c110,rfl,rfl,hr111,_⟩
 refine cwV 26 [_,_,_,_,_] ?_
 refine alV zeroValue40 λg112=>?_
 refine stV 0 (.agg (Dapi_Msg.cs A101 c102 A103 c104 A105 c106 A107 c108 A109 c110 z95).toArray) (Dapi_Msg.cs A101 c102 A103 c104 A105 c106 A107 c108 A109 c110 z95).toArray sizeOf40 (k:=aa (ab (sV (q_fl 7 fld_40_5) (k:=stV 0 (ii 3) #[ii z95.kind,ii z95.from_.site,ii z95.from_.node,ii z95.to_.site,ii z95.to_.node,ii z95.id,ii z95.n,ii 3,ii z95.code,.string z95.key,.slice A101 z95.recs.length c102,.slice A103 z95.vec.length c104,.slice A105 z95.path.length c106,.slice A107 z95.hashes.length c108,.slice A109 z95.route.length c110] sizeOf3 (k:=aa (ab (sV (q_move (v:=(pq g22)) rfl (optp_some rfl hz30)) (k:=?_))))))))
 refine sV (ldaV 0 [ii z95.kind,ii z95.from_.site,ii z95.from_.node,ii z95.to_.site,ii z95.to_.node,ii z95.id,ii z95.n,ii 3,ii z95.code,.string z95.key,.slice A101 z95.recs.length c102,.slice A103 z95.vec.length c104,.slice A105 z95.path.length c106,.slice A107 z95.hashes.length c108,.slice A109 z95.route.length c110] isAgg40 sizeOf40) (k:=?_)
 obtain⟨z113,hz114,h⟩:=bnd h
 refine ecV [2,2] (caV call13) (λw hp=>t_node_Node_Handle (hr72.mono ((hl82.trans hl91).trans hl98)) (⟨z95.kind,(⟨z95.from_.site,z95.from_.node⟩:Adr),(⟨z95.to_.site,z95.to_.node⟩:Adr),z95.id,z95.n,3,z95.code,z95.key,z95.recs,z95.vec,z95.path,z95.hashes,z95.route⟩:Dapi_Msg) ⟨hr111.1,hr111.2.1,hr111.2.2.1,hr111.2.2.2.1,hr111.2.2.2.2.1,hr111.2.2.2.2.2.1,hr111.2.2.2.2.2.2.1,iV,hr111.2.2.2.2.2.2.2.2.1,hr111.2.2.2.2.2.2.2.2.2.1,⟨hr111.2.2.2.2.2.2.2.2.2.2.1.1,hr111.2.2.2.2.2.2.2.2.2.2.1.2⟩,⟨hr111.2.2.2.2.2.2.2.2.2.2.2.1.1,hr111.2.2.2.2.2.2.2.2.2.2.2.1.2⟩,⟨hr111.2.2.2.2.2.2.2.2.2.2.2.2.1.1,hr111.2.2.2.2.2.2.2.2.2.2.2.2.1.2⟩,⟨hr111.2.2.2.2.2.2.2.2.2.2.2.2.2.1.1,hr111.2.2.2.2.2.2.2.2.2.2.2.2.2.1.2⟩,⟨hr111.2.2.2.2.2.2.2.2.2.2.2.2.2.2.1,hr111.2.2.2.2.2.2.2.2.2.2.2.2.2.2.2⟩⟩ (hr74.mono ((hl82.trans hl91).trans hl98)) hp hz114) ?_
 rintro Γ115 _ _ hl116 ⟨row119,row121,A123,c124,row125,rfl,rfl,hr120,hr122,hr126,_⟩
 refine cwV 30 [_,_,_,_,_,_,_] (aV (k:=aa (ab (sV (q_move (v:=(pq g22)) rfl (optp_some rfl hz30)) (k:=?_)))))
 obtain⟨z127,hz128,h⟩:=bnd h
 refine ecV [0] (caV call21) (λw hp=>t_node_Node_Tick hr120 hp hz128) ?_
 rintro Γ129 _ _ hl130 ⟨A133,c134,row135,rfl,rfl,hr136,_⟩
 refine cwV 32 [_,_,_,_,_,_,_,_] (aV (k:=aa (ac (ac ?_))))
 refine leV λh0137=>?_
 refine held_ (CC F Γ129 [row135,row125,[(g112,.cells #[ii z95.kind,ii z95.from_.site,ii z95.from_.node,ii z95.to_.site,ii z95.to_.node,ii z95.id,ii z95.n,ii 3,ii z95.code,.string z95.key,.slice A101 z95.recs.length c102,.slice A103 z95.vec.length c104,.slice A105 z95.path.length c106,.slice A107 z95.hashes.length c108,.slice A109 z95.route.length c110] 40 (0,0))],[],row77,[]]) (bo_ [1,2,2,2,2,2] gR h0137) λk=>?_
 change WH _ _ _ _ (CC F Γ129 [_,_,_,_,_,_,_,_]) _ 40 _ _
 refine hV 0 k (q:=moV) (k:=hV 1 k (q:=q_len_slice rfl underlying34) (k:=hV 2 k (q:=q_neq) (k:=hV 3 k (q:=moV) (k:=hV0 4 k (h:=λhg138=>moV) (k:=?_)))))
 obtain⟨hk140,h⟩:=chk_some h
 refine hV0 5 k (h:=λhg139=>q_ixn (i:=0) underlying34 sizeOf40 rfl (grV hg139) rfl (of_decide_eq_true (imp_of hk140 hg139)) ((hr78.mono ((((hl82.trans hl91).trans hl98).trans hl116).trans hl130)).some_ (of_decide_eq_true (imp_of hk140 hg139)))) (k:=hV0 6 k (h:=λhg141=>q_field_addr (0*15) fld_40_0 rfl (grV hg141) ((hr78.mono ((((hl82.trans hl91).trans hl98).trans hl116).trans hl130)).some_ (of_decide_eq_true (imp_of hk140 hg141))) rfl) (k:=?_))
 obtain⟨A143,c144,A145,c146,A147,c148,A149,c150,A151,c152,hx153⟩:=(hr78.mono ((((hl82.trans hl91).trans hl98).trans hl116).trans hl130)).dapi_MsgT_at 0
 refine hV0 7 k (h:=λhg142=>q_ldo (c:=0) (v:=ii (gt z65.2.2 0).kind) (i:=4) rfl (hx153 (of_decide_eq_true (imp_of hk140 hg142))).2 rfl isAgg3 (grV hg142) rfl) (k:=hV0 8 k (h:=λhg154=>q_neq rfl (grV hg154)) (k:=hV 9 k (q:=pkO) (k:=hV 10 k (q:=moV) (k:=hV0 11 k (h:=λhg155=>moV) (k:=hV0 12 k (h:=λhg156=>q_len_slice rfl underlying34 (grV hg156)) (k:=hV0 13 k (h:=λhg157=>q_neq rfl (grV hg157)) (k:=hV 14 k (q:=pkO) (k:=?_))))))))
 refine hV 15 k (q:=moV) (k:=hV0 16 k (h:=λhg158=>moV) (k:=hV0 17 k (h:=λhg159=>q_len_slice rfl underlying34 (grV hg159)) (k:=hV0 18 k (h:=λhg160=>q_neq rfl (grV hg160)) (k:=hV 19 k (q:=pkO) (k:=hV 20 k (q:=moV) (k:=hV0 21 k (h:=λhg161=>moV) (k:=?_)))))))
 obtain⟨hk163,h⟩:=chk_some h
 refine hV0 22 k (h:=λhg162=>q_ixn (i:=0) underlying34 sizeOf40 rfl (grV hg162) rfl (of_decide_eq_true (imp_of hk163 hg162)) (hr136.some_ (of_decide_eq_true (imp_of hk163 hg162)))) (k:=hV0 23 k (h:=λhg164=>q_field_addr (0*15+3) fld_40_2 rfl (grV hg164) (hr136.some_ (of_decide_eq_true (imp_of hk163 hg164))) rfl) (k:=?_))
 obtain⟨A166,c167,A168,c169,A170,c171,A172,c173,A174,c175,hx176⟩:=hr136.dapi_MsgT_at 0
 refine hV0 24 k (h:=λhg165=>q_ldoa (c:=3) (vs:=[ii (gt z127 0).to_.site,ii (gt z127 0).to_.node]) (i:=0) rfl (hx176 (of_decide_eq_true (imp_of hk163 hg165))).2 rfl isAgg32 sizeOf32 (grV hg165) rfl) (k:=wl_ 25 rfl ?_)
 obtain⟨z178,hz179,h⟩:=bnd h
 refine vC0 (h:=λhg177=>q_call (caV call11) (λw hw=>t_firthlaw15_at (Γ:=Gh.all w) 3 iV (Sat.all w) (gc_of hz179 hg177))) (k:=?_)
 refine ae (nxV (bo_ [1,2,2,2,2,2] gR h0137) λk=>?_)
 refine hV0 26 k (h:=λhg180=>q_neq_Adr (a:=(gt z127 0).to_) (b:=z178) rfl (grV hg180) (grV hg180)) (k:=hV 27 k (q:=pkO) (k:=hV 28 k (q:=moV) (k:=hV0 29 k (h:=λhg181=>q_move (v:=(pq g22)) rfl (optp_some rfl hz30)) (k:=?_))))
 refine(Bool.eq_false_or_eq_true (!((((((z65.2.2.length:Int) != 1)||((gt z65.2.2 0).kind != 2))||((z113.2.2.length:Int) != 0))||((z127.length:Int) != 1))||((gt z127 0).to_ != z178)))).elim (λhb182=>?_) (λhb182=>?_)
 ·
  have h:=bt hb182 h
  refine wl_ 30 rfl ?_
  refine WR.sat (c0:=true) (g:=((((((z65.2.2.length:Int) != 1)||((gt z65.2.2 0).kind != 2))||((z113.2.2.length:Int) != 0))||((z127.length:Int) != 1))||((gt z127 0).to_ != z178))) rfl rfl rfl hb182 ?_
  obtain⟨z183,hz184,h⟩:=bnd h
  refine ecV [0] (call_run call24 rfl rfl (args2 (grV hb182) rfl)) (λw hp=>t_node_Node_Hints (hr120.mono hl130) 3 iV hp hz184) ?_
  rintro Γ185 _ _ hl186 ⟨A189,c190,row191,rfl,rfl,hr192,_⟩
  refine cwV 63 [_,_,_,_,_,_,_,_,_] ?_
  refine ae (nxV (bo_ [2,3,3,3,3,3] hl186 h0137) λk=>?_)
  refine wl_ 31 rfl (vG0 (h:=λhg194=>q_len_slice rfl underlying22) (k:=?_))
  refine ae (nxV (bo_ [2,3,3,3,3,3] hl186 h0137) λk=>?_)
  refine hV0 32 k (h:=λhg195=>q_neq rfl (grV hg195)) (k:=hV 33 k (q:=q_pick_f (v:=.bool ((z183.length:Int) != 1)) rfl rfl (not_t hb182) (grV hb182)) (k:=hV 34 k (q:=moV) (k:=hV0 35 k (h:=λhg196=>q_move (v:=(pq g22)) rfl (optp_some rfl hz30)) (k:=?_))))
  refine(Bool.eq_false_or_eq_true (!((z183.length:Int) != 1))).elim (λhb197=>?_) (λhb197=>?_)
  ·
   have h:=bt hb197 h
   refine wl_ 36 rfl ?_
   refine WR.sat (c0:=true) (g:=((z183.length:Int) != 1)) rfl rfl rfl hb197 ?_
   obtain⟨z198,hz199,h⟩:=bnd h
   refine ecV [0] (call_run call15 rfl rfl (args2 (grV hb197) rfl)) (λw hp=>t_node_Node_Recs (hr120.mono (hl130.trans hl186)) (-1) iV hp hz199) ?_
   rintro Γ200 _ _ hl201 ⟨A204,c205,row206,rfl,rfl,hr207,_⟩
   refine cwV 69 [_,_,_,_,_,_,_,_,_,_] ?_
   refine ae (nxV (bo_ [3,4,4,4,4,4] (hl186.trans hl201) h0137) λk=>?_)
   refine wl_ 37 rfl (vG0 (h:=λhg209=>q_len_slice rfl underlying22) (k:=?_))
   refine ae (nxV (bo_ [3,4,4,4,4,4] (hl186.trans hl201) h0137) λk=>?_)
   refine hV0 38 k (h:=λhg210=>q_neq rfl (grV hg210)) (k:=hV 39 k (q:=q_pick_f (v:=.bool ((z198.length:Int) != 1)) rfl rfl (not_t hb197) (grV hb197)) (k:=?_))
   refine am (by kernel_rfl) ?_
   change WC _ _ _ _ _ _
   refine ciV h (λhb211 h=>?_) (λhb211 h=>?_)
   ·
    refine ab (aV (k:=aa ?_))
    exact af λw hw=>rq_ r h hF hw
   refine ag (wc_ (ac ?_))
   refine leV λh0212=>?_
   refine held_ (CC F Γ200 [row206,row191,row135,row125,[(g112,.cells #[ii z95.kind,ii z95.from_.site,ii z95.from_.node,ii z95.to_.site,ii z95.to_.node,ii z95.id,ii z95.n,ii 3,ii z95.code,.string z95.key,.slice A101 z95.recs.length c102,.slice A103 z95.vec.length c104,.slice A105 z95.path.length c106,.slice A107 z95.hashes.length c108,.slice A109 z95.route.length c110] 40 (0,0))],[],row77,[]]) (bo_ [1,1,1,2,2,2,2,2] gR h0212) λk=>?_
   change WH _ _ _ _ (CC F Γ200 [_,_,_,_,_,_,_,_,_,_]) _ 9 _ _
   refine hV 0 k (q:=q_move (v:=(pq g22)) rfl (optp_some rfl hz30)) (k:=hV 3 k (q:=moV) (k:=?_))
   obtain⟨hk213,h⟩:=chk_some h
   refine hV 4 k (q:=q_ixn (i:=0) underlying34 sizeOf40 rfl rfl rfl (of_decide_eq_true hk213) ((hr136.mono (hl186.trans hl201)).some_ (of_decide_eq_true hk213))) (k:=hV 5 k (q:=q_field_addr (0*15+10) fld_40_8 rfl rfl ((hr136.mono (hl186.trans hl201)).some_ (of_decide_eq_true hk213)) rfl) (k:=hV 6 k (q:=q_ldo (c:=10) (v:=.slice A166 ((gt z127 0).recs).length c167) (i:=2) rfl (hx176 (of_decide_eq_true hk213)).2 rfl isAgg22 rfl rfl) (k:=wl_ 1 rfl ?_)))
   obtain⟨z214,hz215,h⟩:=bnd h
   refine vqV (caV call11) (λw hw=>t_firthlaw15_at (Γ:=Gh.all w) 3 iV (Sat.all w) hz215) (k:=?_)
   refine ae (nxV (bo_ [1,1,1,2,2,2,2,2] gR h0212) λk=>?_)
   refine wl_ 2 rfl ?_
   obtain⟨z216,hz217,h⟩:=bnd h
   refine vqV (caV call11) (λw hw=>t_firthlaw15_at (Γ:=Gh.all w) 1 iV (Sat.all w) hz217) (k:=?_)
   refine ae (nxV (bo_ [1,1,1,2,2,2,2,2] gR h0212) λk=>?_)
   refine hV 7 k (q:=q_build' (v:=.agg #[ii 2,ii z214.site,ii z214.node,ii z216.site,ii z216.node,ii 0,ii 0,ii 0,ii 0,.string ByteArray.empty,.slice A166 ((gt z127 0).recs).length c167,.slice none 0 0,.slice none 0 0,.slice none 0 0,.slice none 0 0]) rfl (bargs4 rfl rfl rfl rfl) (λw=>by kernel_rfl)) (k:=wl_ 8 rfl ?_)
   obtain⟨hk218,h⟩:=chk_some h
   obtain⟨hk219,h⟩:=chk_some h
   obtain⟨hk220,h⟩:=chk_some h
   obtain⟨hk221,h⟩:=chk_some h
   obtain⟨z222,hz223,h⟩:=bnd h
   refine ecV [0,3] (caV call13) (λw hp=>t_node_Node_Handle (hr120.mono ((hl130.trans hl186).trans hl201)) (Am11:=none) (cm11:=0) (Am12:=none) (cm12:=0) (Am13:=none) (cm13:=0) (Am14:=none) (cm14:=0) (⟨2,(⟨z214.site,z214.node⟩:Adr),(⟨z216.site,z216.node⟩:Adr),0,0,0,0,ByteArray.empty,(gt z127 0).recs,[],[],[],[]⟩:Dapi_Msg) ⟨iV,(i64b_of hk218),(i64b_of hk219),(i64b_of hk220),(i64b_of hk221),iV,iV,iV,iV,(show (ByteArray.empty:ByteArray).size≤lim by decide),⟨(hx176 (of_decide_eq_true hk213)).1.2.2.2.2.2.2.2.2.2.2.1.1,((hx176 (of_decide_eq_true hk213)).1.2.2.2.2.2.2.2.2.2.2.1.2.mono (hl186.trans hl201))⟩,nilV,nilV,nilV,nilV⟩ (hr122.mono ((hl130.trans hl186).trans hl201)) hp hz223) ?_
   rintro Γ224 _ _ hl225 ⟨row228,row230,A232,c233,row234,rfl,rfl,hr229,hr231,hr235,_⟩
   refine cwV 81 [_,_,_,_,_,_,_,_,_,_,_] ?_
   refine ae (nxV (bo_ [3,3,3,3,3,3,3,3] hl225 h0212) λk=>?_)
   refine am (by kernel_rfl) ?_
   change WC _ _ _ _ _ _
   refine ab (sV (q_move (v:=(pq g22)) rfl (optp_some rfl hz30)) (k:=?_))
   obtain⟨z236,hz237,h⟩:=bnd h
   refine ecV [0] (caV call24) (λw hp=>t_node_Node_Hints hr229 3 iV hp hz237) ?_
   rintro Γ238 _ _ hl239 ⟨A242,c243,row244,rfl,rfl,hr245,_⟩
   refine cwV 83 [_,_,_,_,_,_,_,_,_,_,_,_] (sV (q_len_slice rfl underlying22) (k:=sV q_eql (k:=aV (k:=aa ?_))))
   exact af λw hw=>rq_ r h hF hw
  have h:=bf hb197 h
  refine hg0 (g:=((z183.length:Int) != 1)) (i:=36) (v:=undef) rfl (by kernel_rfl) rfl rfl rfl rfl rfl (bo_ [2,3,3,3,3,3] hl186 h0137) (no_tf hb197) ?_
  refine aq (v:=undef) (gv_false hb197) ?_
  refine hg0 (g:=((z183.length:Int) != 1)) (i:=37) (v:=undef) rfl (by kernel_rfl) rfl rfl rfl rfl rfl (bo_ [2,3,3,3,3,3] hl186 h0137) (no_tf hb197) ?_
  refine aq (v:=undef) (gv_false hb197) ?_
  refine hg0 (g:=((z183.length:Int) != 1)) (i:=38) (v:=undef) rfl (by kernel_rfl) rfl rfl rfl rfl rfl (bo_ [2,3,3,3,3,3] hl186 h0137) (no_tf hb197) ?_
  refine aq (v:=undef) (gv_false hb197) ?_
  refine hV 39 (bo_ [2,3,3,3,3,3] hl186 h0137) (q:=q_pick_t (v:=.bool true) rfl rfl (not_f hb197) (by kernel_rfl)) (k:=?_)
  refine am (by kernel_rfl) ?_
  change WC _ _ _ _ _ _
  refine WC.ctk (b:=true) (by kernel_rfl) rfl ?_
  refine ab (aV (k:=aa ?_))
  exact af λw hw=>rq_ r h hF hw
 have h:=bf hb182 h
 refine hg0 (g:=((((((z65.2.2.length:Int) != 1)||((gt z65.2.2 0).kind != 2))||((z113.2.2.length:Int) != 0))||((z127.length:Int) != 1))||((gt z127 0).to_ != z178))) (i:=30) (v:=undef) rfl (by kernel_rfl) rfl rfl rfl rfl rfl (bo_ [1,2,2,2,2,2] gR h0137) (no_tf hb182) ?_
 refine aq (v:=undef) (gv_false hb182) ?_
 refine hg0 (g:=((((((z65.2.2.length:Int) != 1)||((gt z65.2.2 0).kind != 2))||((z113.2.2.length:Int) != 0))||((z127.length:Int) != 1))||((gt z127 0).to_ != z178))) (i:=31) (v:=undef) rfl (by kernel_rfl) rfl rfl rfl rfl rfl (bo_ [1,2,2,2,2,2] gR h0137) (no_tf hb182) ?_
 refine aq (v:=undef) (gv_false hb182) ?_
 refine hg0 (g:=((((((z65.2.2.length:Int) != 1)||((gt z65.2.2 0).kind != 2))||((z113.2.2.length:Int) != 0))||((z127.length:Int) != 1))||((gt z127 0).to_ != z178))) (i:=32) (v:=undef) rfl (by kernel_rfl) rfl rfl rfl rfl rfl (bo_ [1,2,2,2,2,2] gR h0137) (no_tf hb182) ?_
 refine aq (v:=undef) (gv_false hb182) ?_
 refine hV 33 (bo_ [1,2,2,2,2,2] gR h0137) (q:=q_pick_t (v:=.bool true) rfl rfl (not_f hb182) (by kernel_rfl)) (k:=hV 34 (bo_ [1,2,2,2,2,2] gR h0137) (q:=moV) (k:=?_))
 refine hg0 (g:=true) (i:=35) (v:=undef) rfl (by kernel_rfl) rfl rfl rfl rfl rfl (bo_ [1,2,2,2,2,2] gR h0137) (no_tf (nott rfl)) ?_
 refine aq (v:=undef) (gv_false (nott rfl)) ?_
 refine hg0 (g:=true) (i:=36) (v:=undef) rfl (by kernel_rfl) rfl rfl rfl rfl rfl (bo_ [1,2,2,2,2,2] gR h0137) (no_tf (nott rfl)) ?_
 refine aq (v:=undef) (gv_false (nott rfl)) ?_
 refine hg0 (g:=true) (i:=37) (v:=undef) rfl (by kernel_rfl) rfl rfl rfl rfl rfl (bo_ [1,2,2,2,2,2] gR h0137) (no_tf (nott rfl)) ?_
 refine aq (v:=undef) (gv_false (nott rfl)) ?_
 refine hg0 (g:=true) (i:=38) (v:=undef) rfl (by kernel_rfl) rfl rfl rfl rfl rfl (bo_ [1,2,2,2,2,2] gR h0137) (no_tf (nott rfl)) ?_
 refine aq (v:=undef) (gv_false (nott rfl)) ?_
 refine hV 39 (bo_ [1,2,2,2,2,2] gR h0137) (q:=q_pickt (v:=.bool true) rfl rfl rfl) (k:=?_)
 refine am (by kernel_rfl) ?_
 change WC _ _ _ _ _ _
 refine WC.ctk (b:=true) (by kernel_rfl) rfl ?_
 refine ab (aV (k:=aa ?_))
 exact af λw hw=>rq_ r h hF hw
theorem t_firthlaw15_heavy{Alist:Option Addr}{clist:Nat}{list:List Rec}(hlist:Sl recT Γ Alist list)(hlistc:list.length≤clist)(hs:Sat Γ w0){r:Int}(h:m_firthlaw15_heavy list=some r):CQ Tryz.prog 27 #[.slice Alist list.length clist] w0 (ii r):=by
 refine goQ [2] func27 ntmps27 results27 hs λF hF=>?_
 refine ab (aV (k:=aa (ab (aV (k:=aa (ac (ab ?_)))))))
 refine aV (k:=aa (ai ?_))
 refine al h (λ(i4:Nat) (n_1:Int) σ w=>slots σ [(0,.slice Alist list.length clist),(3,ii n_1),(4,ii (i4:Int))]∧CC F Γ [] w∧I64 n_1∧True) ?_ ?_
 ·
  intro w hw
  exact⟨slK,hw,iV,trivial⟩
 rintro f3 i4 n_1 σ w hi5 hlt6 hge7 ⟨hsl,hw,hr2,-⟩
 refine slV hsl hw [] ?_; clear hw hsl
 refine ac (ab (mV (k:=mV (k:=sV (q_len_slice rfl underlying22) (k:=sV q_lss (k:=aa ?_))))))
 refine coV (λhb8=>?_) (λhb8=>?_)
 ·
  have hl9:=ilt hb8
  have h:=hlt6 hl9
  refine ag (wc_ (ac (ai (ab (mV (k:=sV q_add (k:=mV (k:=?_))))))))
  refine mV (k:=sV (q_ixn (i:=i4) underlying22 sizeOf45 rfl rfl rfl hl9 (hlist.some_ hl9)) (k:=sV (q_field_addr (i4*2) fld_45_0 rfl rfl (hlist.some_ hl9) rfl) (k:=?_)))
  obtain⟨A10,c11,hx12⟩:=hlist.recT_at i4
  refine sV (q_ld (c:=0) (v:=.string (gt list i4).key) (hx12 hl9).2 rfl isAgg9 rfl rfl) (k:=sV (q_len_str rfl underlying9) (k:=sV q_add (k:=aV (k:=aa (ab (aV (k:=aa ?_)))))))
  refine ai ?_
  refine al h (λ(i16:Nat) (n_13:Int) σ w=>slots σ [(0,.slice Alist list.length clist),(3,ii n_13),(4,ii (i4:Int)),(5,ii (i16:Int))]∧CC F Γ [] w∧I64 n_13∧True) ?_ ?_
  ·
   intro w hw
   exact⟨slK,hw,(w64_r _),trivial⟩
  rintro f15 i16 n_13 σ w hi17 hlt18 hge19 ⟨hsl,hw,hr14,-⟩
  refine slV hsl hw [] ?_; clear hw hsl
  refine ac (ab (mV (k:=mV (k:=mV (k:=sV (q_ixn (i:=i4) underlying22 sizeOf45 rfl rfl rfl hl9 (hlist.some_ hl9)) (k:=sV (q_field_addr (i4*2+1) fld_45_1 rfl rfl (hlist.some_ hl9) rfl) (k:=?_)))))))
  obtain⟨A20,c21,hx22⟩:=hlist.recT_at i4
  refine sV (q_ld (c:=1) (v:=.slice A20 ((gt list i4).vers).length c21) (hx22 hl9).2 rfl isAgg43 rfl rfl) (k:=sV (q_len_slice rfl underlying43) (k:=sV q_lss (k:=aa ?_)))
  refine coV (λhb23=>?_) (λhb23=>?_)
  ·
   have hl24:=ilt hb23
   have h:=hlt18 hl24
   refine ag (wc_ (ac (ai ?_)))
   refine drV ?_
   refine zV moV (k:=zV q_add (k:=zV moV (k:=zV moV (k:=zV (q_ixn (i:=i4) underlying22 sizeOf45 rfl rfl rfl hl9 (hlist.some_ hl9)) (k:=zV (q_field_addr (i4*2+1) fld_45_1 rfl rfl (hlist.some_ hl9) rfl) (k:=zV (q_ld (c:=1) (v:=.slice A20 ((gt list i4).vers).length c21) (hx22 hl9).2 rfl isAgg43 rfl rfl) (k:=zV moV (k:=?_))))))))
   refine zV (q_ixn (i:=i16) underlying43 sizeOf89 rfl rfl rfl hl24 ((hx22 hl9).1.2.2.some_ hl24)) (k:=zV (q_field_addr (i16*5+4) fld_89_3 rfl rfl ((hx22 hl9).1.2.2.some_ hl24) rfl) (k:=?_))
   obtain⟨A25,c26,hx27⟩:=(hx22 hl9).1.2.2.verT_at i16
   refine zV (q_ld (c:=4) (v:=.string (gt ((gt list i4).vers) i16).val) (hx27 hl24).2 rfl isAgg9 rfl rfl) (k:=zV (q_len_str rfl underlying9) (k:=zV q_add (k:=zV moV (k:=zV moV (k:=zV (q_ixn (i:=i4) underlying22 sizeOf45 rfl rfl rfl hl9 (hlist.some_ hl9)) (k:=zV (q_field_addr (i4*2+1) fld_45_1 rfl rfl (hlist.some_ hl9) rfl) (k:=zV (q_ld (c:=1) (v:=.slice A20 ((gt list i4).vers).length c21) (hx22 hl9).2 rfl isAgg43 rfl rfl) (k:=?_))))))))
   refine zV moV (k:=zV (q_ixn (i:=i16) underlying43 sizeOf89 rfl rfl rfl hl24 ((hx22 hl9).1.2.2.some_ hl24)) (k:=zV (q_field_addr (i16*5+2) fld_89_1 rfl rfl ((hx22 hl9).1.2.2.some_ hl24) rfl) (k:=?_)))
   obtain⟨A28,c29,hx30⟩:=(hx22 hl9).1.2.2.verT_at i16
   refine zV (q_ld (c:=2) (v:=.slice A28 ((gt ((gt list i4).vers) i16).past).length c29) (hx30 hl24).2 rfl isAgg87 rfl rfl) (k:=zV (q_len_slice rfl underlying87) (k:=zV q_mul (k:=zV q_add (k:=zV aoV (k:=?_)))))
   refine ao ?_
   change WC _ _ _ _ _ _
   refine ah ?_
   refine mV (k:=sV (q_add_r rfl rfl rfl (ctr_len hl24 (hx22 hl9).1.2.2.le)) (k:=aV (k:=?_)))
   exact ae λw hw=>⟨hl24,(w64 ((w64 ((w64 (n_13+128))+((((gt ((gt list i4).vers) i16).val).size:Nat):Int)))+(w64 (32*((((gt ((gt list i4).vers) i16).past).length:Nat):Int))))),h,slK,hw,(w64_r _),trivial⟩
  have h:=hge19 (ige hb23)
  refine aj ?_
  change WC _ _ _ _ _ _
  refine ah ?_
  refine mV (k:=sV (q_add_r rfl rfl rfl (ctr_len hl9 hlist.le)) (k:=aV (k:=?_)))
  exact ae λw hw=>⟨hl9,n_13,h,slK,hw,hr14,trivial⟩
 have h:=hge7 (ige hb8)
 refine aj ?_
 change WC _ _ _ _ _ _
 refine ab (mV (k:=aV (k:=aa ?_)))
 exact af λw hw=>rq_ r h hF hw
theorem t_firthref03_Dot(d:Dot)(hd:Dot.fits Γ  d)(hs:Sat Γ w0){r:Bool}(h:m_firthref03_Dot d=some r):CQ Tryz.prog 115 #[.agg (Dot.cs d).toArray] w0 (.bool r):=by
 refine goQ [2] func115 ntmps115 results115 hs λF hF=>?_
 refine ab ?_
 refine bxV (v:=.agg (Dot.cs d).toArray) λg1=>?_
 refine aV (k:=aa (ab (sV (q_fl 0 fld_86_0) (k:=sV (ldV 0 isAgg3) (k:=sV q_geq (k:=mV (k:=vG1 (h:=λhg2=>q_fl 0 fld_86_0) (k:=?_))))))))
 refine vG1 (h:=λhg3=>ldV 0 isAgg3 (hx:=grV hg3)) (k:=vG1 (h:=λhg4=>q_leq rfl (grV hg4)) (k:=sV pkA (k:=mV (k:=vG1 (h:=λhg5=>q_fl 1 fld_86_1) (k:=vG1 (h:=λhg6=>ldV 0 isAgg2 (hx:=grV hg6)) (k:=vG1 (h:=λhg7=>q_geq rfl (grV hg7)) (k:=sV pkA (k:=?_))))))))
 refine mV (k:=vG1 (h:=λhg8=>q_fl 1 fld_86_1) (k:=vG1 (h:=λhg9=>ldV 0 isAgg2 (hx:=grV hg9)) (k:=vG1 (h:=λhg10=>q_leq rfl (grV hg10)) (k:=sV pkA (k:=aV (k:=aa ?_))))))
 exact af λw hw=>rq_ r h hF hw
theorem t_firthref03_Right{Al:Option Addr}{cl:Nat}{l:List Span}(hl:Sl spanT Γ Al l)(hlc:l.length≤cl)(hs:Sat Γ w0){r:Bool}(h:m_firthref03_Right l=some r):CQ Tryz.prog 116 #[.slice Al l.length cl] w0 (.bool r):=by
 refine goQ [2] func116 ntmps116 results116 hs λF hF=>?_
 refine ab (aV (k:=aa (ac (ab (mV (k:=sV (q_len_slice rfl underlying87) (k:=sV q_gtr (k:=?_))))))))
 refine aa ?_
 refine ciV h (λhb1 h=>?_) (λhb1 h=>?_)
 ·
  refine ab (aV (k:=aa ?_))
  exact af λw hw=>rq_ r h hF hw
 refine ag (wc_ (ac (ab (aV (k:=aa (ai ?_))))))
 refine al h (λ(i3:Nat) (s:Unit) σ w=>match s with | ()=>slots σ [(0,.slice Al l.length cl),(3,ii (i3:Int))]∧CC F Γ [] w∧True) ?_ ?_
 ·
  intro w hw
  exact⟨slK,hw,trivial⟩
 rintro f2 i3 ⟨⟩ σ w hi4 hlt5 hge6 ⟨hsl,hw,-⟩
 refine slV hsl hw [] ?_; clear hw hsl
 refine ac (ab (mV (k:=mV (k:=sV (q_len_slice rfl underlying87) (k:=sV q_lss (k:=aa ?_))))))
 refine coV (λhb7=>?_) (λhb7=>?_)
 ·
  have hl8:=ilt hb7
  have h:=hlt5 hl8
  refine ag (wc_ (ac (ai (ac (ac ?_)))))
  refine drV ?_
  refine zV moV (k:=zV moV (k:=zV (q_ixn (i:=i3) underlying87 sizeOf93 rfl rfl rfl hl8 (hl.some_ hl8)) (k:=zV (q_field_addr (i3*3) fld_93_0 rfl rfl (hl.some_ hl8) rfl) (k:=zV (q_ld (c:=0) (v:=ii (gt l i3).s) (hl.spanT_at hl8).2 rfl isAgg3 rfl rfl) (k:=zV moV (k:=zV moV (k:=zV (q_ixn (i:=i3) underlying87 sizeOf93 rfl rfl rfl hl8 (hl.some_ hl8)) (k:=?_))))))))
  refine zV (q_field_addr (i3*3+1) fld_93_1 rfl rfl (hl.some_ hl8) rfl) (k:=zV (q_ld (c:=1) (v:=ii (gt l i3).f) (hl.spanT_at hl8).2 rfl isAgg2 rfl rfl) (k:=zV (q_build' (v:=.agg #[ii (gt l i3).s,ii (gt l i3).f]) rfl (bargs2 rfl rfl) (λw=>by kernel_rfl)) (k:=?_)))
  obtain⟨z9,hz10,h⟩:=bnd h
  refine wc rfl rfl rfl (q_call (caV call115) (λw hw=>t_firthref03_Dot (Γ:=Gh.all w) (⟨(gt l i3).s,(gt l i3).f⟩:Dot) ⟨(hl.spanT_at hl8).1.1,(hl.spanT_at hl8).1.2.1⟩ (Sat.all w) hz10)) (zV q_not (k:=zV moV (k:=wG0 (h:=λhg11=>moV) (k:=wG0 (h:=λhg12=>moV) (k:=wG0 (h:=λhg13=>q_ixn (i:=i3) underlying87 sizeOf93 rfl (grV hg13) (grV hg13) hl8 (hl.some_ hl8)) (k:=wG0 (h:=λhg14=>q_field_addr (i3*3) fld_93_0 rfl (grV hg14) (hl.some_ hl8) rfl) (k:=wG0 (h:=λhg15=>q_ld (c:=0) (v:=ii (gt l i3).s) (hl.spanT_at hl8).2 rfl isAgg3 (grV hg15) rfl) (k:=?_))))))))
  refine wG0 (h:=λhg16=>moV) (k:=wG0 (h:=λhg17=>moV) (k:=wG0 (h:=λhg18=>q_ixn (i:=i3) underlying87 sizeOf93 rfl (grV hg18) (grV hg18) hl8 (hl.some_ hl8)) (k:=wG0 (h:=λhg19=>q_field_addr (i3*3+2) fld_93_2 rfl (grV hg19) (hl.some_ hl8) rfl) (k:=wG0 (h:=λhg20=>q_ld (c:=2) (v:=ii (gt l i3).t) (hl.spanT_at hl8).2 rfl isAgg2 (grV hg20) rfl) (k:=wG0 (h:=λhg21=>q_build' (v:=.agg #[ii (gt l i3).s,ii (gt l i3).t]) rfl (bargs2 (grV hg21) (grV hg21)) (λw=>by kernel_rfl)) (k:=?_))))))
  obtain⟨z23,hz24,h⟩:=bnd h
  refine wC0 (h:=λhg22=>q_call (call_run call115 rfl rfl (args1 (grV hg22))) (λw hw=>t_firthref03_Dot (Γ:=Gh.all w) (⟨(gt l i3).s,(gt l i3).t⟩:Dot) ⟨(hl.spanT_at hl8).1.1,(hl.spanT_at hl8).1.2.2⟩ (Sat.all w) (gc_of hz24 hg22))) (k:=wG0 (h:=λhg25=>q_not rfl (grV hg25)) (k:=zV pkO (k:=zV moV (k:=wG0 (h:=λhg26=>moV) (k:=wG0 (h:=λhg27=>moV) (k:=wG0 (h:=λhg28=>q_ixn (i:=i3) underlying87 sizeOf93 rfl (grV hg28) (grV hg28) hl8 (hl.some_ hl8)) (k:=wG0 (h:=λhg29=>q_field_addr (i3*3+1) fld_93_1 rfl (grV hg29) (hl.some_ hl8) rfl) (k:=?_))))))))
  refine wG0 (h:=λhg30=>q_ld (c:=1) (v:=ii (gt l i3).f) (hl.spanT_at hl8).2 rfl isAgg2 (grV hg30) rfl) (k:=wG0 (h:=λhg31=>moV) (k:=wG0 (h:=λhg32=>moV) (k:=wG0 (h:=λhg33=>q_ixn (i:=i3) underlying87 sizeOf93 rfl (grV hg33) (grV hg33) hl8 (hl.some_ hl8)) (k:=wG0 (h:=λhg34=>q_field_addr (i3*3+2) fld_93_2 rfl (grV hg34) (hl.some_ hl8) rfl) (k:=wG0 (h:=λhg35=>q_ld (c:=2) (v:=ii (gt l i3).t) (hl.spanT_at hl8).2 rfl isAgg2 (grV hg35) rfl) (k:=wG0 (h:=λhg36=>q_gtr rfl (grV hg36) (grV hg36)) (k:=zV pkO (k:=?_))))))))
  refine ao ?_
  change WC _ _ _ _ _ _
  refine ciV h (λhb37 h=>?_) (λhb37 h=>?_)
  ·
   refine ab (aV (k:=aa ?_))
   exact af λw hw=>rq_ r h hF hw
  refine ag (wc_ (ac ?_))
  refine drV ?_
  refine zV moV (k:=zV q_gtr (k:=zV moV (k:=wG1 (h:=λhg38=>moV) (k:=wG1 (h:=λhg39=>moV) (k:=wG1 (h:=λhg40=>q_ixn (i:=i3) underlying87 sizeOf93 rfl (grV hg40) (grV hg40) hl8 (hl.some_ hl8)) (k:=wG1 (h:=λhg41=>q_field_addr (i3*3) fld_93_0 rfl (grV hg41) (hl.some_ hl8) rfl) (k:=wG1 (h:=λhg42=>q_ld (c:=0) (v:=ii (gt l i3).s) (hl.spanT_at hl8).2 rfl isAgg3 (grV hg42) rfl) (k:=?_))))))))
  refine wG1 (h:=λhg43=>moV) (k:=wG1 (h:=λhg44=>moV) (k:=wG1 (h:=λhg45=>q_sub rfl (grV hg45)) (k:=?_)))
  obtain⟨hk47,h⟩:=chk_some h
  refine wG1 (h:=λhg46=>q_ix underlying87 sizeOf93 rfl (grV hg46) (grV hg46) (imp_of hk47 hg46) (hl.some_ (inb_lt (imp_of hk47 hg46)))) (k:=wG1 (h:=λhg48=>q_field_addr (((w64 ((i3:Int) - 1)).toNat)*3) fld_93_0 rfl (grV hg48) (hl.some_ (inb_lt (imp_of hk47 hg48))) rfl) (k:=wG1 (h:=λhg49=>q_ld (c:=0) (v:=ii (gt l ((w64 ((i3:Int) - 1)).toNat)).s) (hl.spanT_at (inb_lt (imp_of hk47 hg49))).2 rfl isAgg3 (grV hg49) rfl) (k:=wG1 (h:=λhg50=>q_lss rfl (grV hg50) (grV hg50)) (k:=wG1 (h:=λhg51=>q_move (v:=.bool (decide ((gt l i3).s<(gt l ((w64 ((i3:Int) - 1)).toNat)).s))) rfl (grV hg51)) (k:=wh0 (c0:=(decide (0<(i3:Int)))) (g:=(decide ((gt l i3).s<(gt l ((w64 ((i3:Int) - 1)).toNat)).s))) rfl rfl rfl rfl rfl (λ_=>QV.qo moV) (wh0 (c0:=(decide (0<(i3:Int)))) (g:=(decide ((gt l i3).s<(gt l ((w64 ((i3:Int) - 1)).toNat)).s))) rfl rfl rfl rfl rfl (λ_=>QV.qo moV) (wh0 (c0:=(decide (0<(i3:Int)))) (g:=(decide ((gt l i3).s<(gt l ((w64 ((i3:Int) - 1)).toNat)).s))) rfl rfl rfl rfl rfl (λhg54=>QV.qo (q_ixn (i:=i3) underlying87 sizeOf93 rfl (grV hg54) (grV hg54) hl8 (hl.some_ hl8))) ?_)))))))
  refine wh0 (c0:=(decide (0<(i3:Int)))) (g:=(decide ((gt l i3).s<(gt l ((w64 ((i3:Int) - 1)).toNat)).s))) rfl rfl rfl rfl rfl (λhg55=>QV.qo (q_field_addr (i3*3) fld_93_0 rfl (grV hg55) (hl.some_ hl8) rfl)) (wh0 (c0:=(decide (0<(i3:Int)))) (g:=(decide ((gt l i3).s<(gt l ((w64 ((i3:Int) - 1)).toNat)).s))) rfl rfl rfl rfl rfl (λhg56=>QV.qo (q_ld (c:=0) (v:=ii (gt l i3).s) (hl.spanT_at hl8).2 rfl isAgg3 (grV hg56) rfl)) (wh0 (c0:=(decide (0<(i3:Int)))) (g:=(decide ((gt l i3).s<(gt l ((w64 ((i3:Int) - 1)).toNat)).s))) rfl rfl rfl rfl rfl (λ_=>QV.qo moV) (wh0 (c0:=(decide (0<(i3:Int)))) (g:=(decide ((gt l i3).s<(gt l ((w64 ((i3:Int) - 1)).toNat)).s))) rfl rfl rfl rfl rfl (λ_=>QV.qo moV) (wh0 (c0:=(decide (0<(i3:Int)))) (g:=(decide ((gt l i3).s<(gt l ((w64 ((i3:Int) - 1)).toNat)).s))) rfl rfl rfl rfl rfl (λhg59=>QV.qo (q_sub rfl (grV hg59))) (wh0 (c0:=(decide (0<(i3:Int)))) (g:=(decide ((gt l i3).s<(gt l ((w64 ((i3:Int) - 1)).toNat)).s))) rfl rfl rfl rfl rfl (λhg60=>QV.qo (q_ix underlying87 sizeOf93 rfl (grV hg60) (grV hg60) (imp_of hk47 (and_l hg60)) (hl.some_ (inb_lt (imp_of hk47 (and_l hg60)))))) ?_)))))
  refine wh0 (c0:=(decide (0<(i3:Int)))) (g:=(decide ((gt l i3).s<(gt l ((w64 ((i3:Int) - 1)).toNat)).s))) rfl rfl rfl rfl rfl (λhg61=>QV.qo (q_field_addr (((w64 ((i3:Int) - 1)).toNat)*3) fld_93_0 rfl (grV hg61) (hl.some_ (inb_lt (imp_of hk47 (and_l hg61)))) rfl)) (wh0 (c0:=(decide (0<(i3:Int)))) (g:=(decide ((gt l i3).s<(gt l ((w64 ((i3:Int) - 1)).toNat)).s))) rfl rfl rfl rfl rfl (λhg62=>QV.qo (q_ld (c:=0) (v:=ii (gt l ((w64 ((i3:Int) - 1)).toNat)).s) (hl.spanT_at (inb_lt (imp_of hk47 (and_l hg62)))).2 rfl isAgg3 (grV hg62) rfl)) (wh0 (c0:=(decide (0<(i3:Int)))) (g:=(decide ((gt l i3).s<(gt l ((w64 ((i3:Int) - 1)).toNat)).s))) rfl rfl rfl rfl rfl (λhg63=>QV.qo (q_eql rfl (grV hg63) (grV hg63))) (wh0 (c0:=(decide (0<(i3:Int)))) (g:=(decide ((gt l i3).s<(gt l ((w64 ((i3:Int) - 1)).toNat)).s))) rfl rfl rfl rfl rfl (λhg64=>QV.qo (q_move (v:=.bool ((gt l i3).s==(gt l ((w64 ((i3:Int) - 1)).toNat)).s)) rfl (grV hg64))) (wh1 (c0:=((decide (0<(i3:Int)))&&(!(decide ((gt l i3).s<(gt l ((w64 ((i3:Int) - 1)).toNat)).s))))) (g:=((gt l i3).s==(gt l ((w64 ((i3:Int) - 1)).toNat)).s)) rfl rfl rfl rfl rfl (λ_=>QV.qo moV) ?_))))
  refine wh1 (c0:=((decide (0<(i3:Int)))&&(!(decide ((gt l i3).s<(gt l ((w64 ((i3:Int) - 1)).toNat)).s))))) (g:=((gt l i3).s==(gt l ((w64 ((i3:Int) - 1)).toNat)).s)) rfl rfl rfl rfl rfl (λ_=>QV.qo moV) (wh1 (c0:=((decide (0<(i3:Int)))&&(!(decide ((gt l i3).s<(gt l ((w64 ((i3:Int) - 1)).toNat)).s))))) (g:=((gt l i3).s==(gt l ((w64 ((i3:Int) - 1)).toNat)).s)) rfl rfl rfl rfl rfl (λhg67=>QV.qo (q_ixn (i:=i3) underlying87 sizeOf93 rfl (grV hg67) (grV hg67) hl8 (hl.some_ hl8))) (wh1 (c0:=((decide (0<(i3:Int)))&&(!(decide ((gt l i3).s<(gt l ((w64 ((i3:Int) - 1)).toNat)).s))))) (g:=((gt l i3).s==(gt l ((w64 ((i3:Int) - 1)).toNat)).s)) rfl rfl rfl rfl rfl (λhg68=>QV.qo (q_field_addr (i3*3+1) fld_93_1 rfl (grV hg68) (hl.some_ hl8) rfl)) (wh1 (c0:=((decide (0<(i3:Int)))&&(!(decide ((gt l i3).s<(gt l ((w64 ((i3:Int) - 1)).toNat)).s))))) (g:=((gt l i3).s==(gt l ((w64 ((i3:Int) - 1)).toNat)).s)) rfl rfl rfl rfl rfl (λhg69=>QV.qo (q_ld (c:=1) (v:=ii (gt l i3).f) (hl.spanT_at hl8).2 rfl isAgg2 (grV hg69) rfl)) (wh1 (c0:=((decide (0<(i3:Int)))&&(!(decide ((gt l i3).s<(gt l ((w64 ((i3:Int) - 1)).toNat)).s))))) (g:=((gt l i3).s==(gt l ((w64 ((i3:Int) - 1)).toNat)).s)) rfl rfl rfl rfl rfl (λhg70=>QV.qo (q_sub rfl (grV hg70))) ?_))))
  refine wh1 (c0:=((decide (0<(i3:Int)))&&(!(decide ((gt l i3).s<(gt l ((w64 ((i3:Int) - 1)).toNat)).s))))) (g:=((gt l i3).s==(gt l ((w64 ((i3:Int) - 1)).toNat)).s)) rfl rfl rfl rfl rfl (λ_=>QV.qo moV) (wh1 (c0:=((decide (0<(i3:Int)))&&(!(decide ((gt l i3).s<(gt l ((w64 ((i3:Int) - 1)).toNat)).s))))) (g:=((gt l i3).s==(gt l ((w64 ((i3:Int) - 1)).toNat)).s)) rfl rfl rfl rfl rfl (λ_=>QV.qo moV) (wh1 (c0:=((decide (0<(i3:Int)))&&(!(decide ((gt l i3).s<(gt l ((w64 ((i3:Int) - 1)).toNat)).s))))) (g:=((gt l i3).s==(gt l ((w64 ((i3:Int) - 1)).toNat)).s)) rfl rfl rfl rfl rfl (λhg73=>QV.qo (q_sub rfl (grV hg73))) (wh1 (c0:=((decide (0<(i3:Int)))&&(!(decide ((gt l i3).s<(gt l ((w64 ((i3:Int) - 1)).toNat)).s))))) (g:=((gt l i3).s==(gt l ((w64 ((i3:Int) - 1)).toNat)).s)) rfl rfl rfl rfl rfl (λhg74=>QV.qo (q_ix underlying87 sizeOf93 rfl (grV hg74) (grV hg74) (imp_of hk47 (and_l (and_l hg74))) (hl.some_ (inb_lt (imp_of hk47 (and_l (and_l hg74))))))) (wh1 (c0:=((decide (0<(i3:Int)))&&(!(decide ((gt l i3).s<(gt l ((w64 ((i3:Int) - 1)).toNat)).s))))) (g:=((gt l i3).s==(gt l ((w64 ((i3:Int) - 1)).toNat)).s)) rfl rfl rfl rfl rfl (λhg75=>QV.qo (q_field_addr (((w64 ((i3:Int) - 1)).toNat)*3+2) fld_93_2 rfl (grV hg75) (hl.some_ (inb_lt (imp_of hk47 (and_l (and_l hg75))))) rfl)) ?_))))
  refine wh1 (c0:=((decide (0<(i3:Int)))&&(!(decide ((gt l i3).s<(gt l ((w64 ((i3:Int) - 1)).toNat)).s))))) (g:=((gt l i3).s==(gt l ((w64 ((i3:Int) - 1)).toNat)).s)) rfl rfl rfl rfl rfl (λhg76=>QV.qo (q_ld (c:=2) (v:=ii (gt l ((w64 ((i3:Int) - 1)).toNat)).t) (hl.spanT_at (inb_lt (imp_of hk47 (and_l (and_l hg76))))).2 rfl isAgg2 (grV hg76) rfl)) (wh1 (c0:=((decide (0<(i3:Int)))&&(!(decide ((gt l i3).s<(gt l ((w64 ((i3:Int) - 1)).toNat)).s))))) (g:=((gt l i3).s==(gt l ((w64 ((i3:Int) - 1)).toNat)).s)) rfl rfl rfl rfl rfl (λhg77=>QV.qo (q_leq rfl (grV hg77) (grV hg77))) (wh0 (c0:=(decide (0<(i3:Int)))) (g:=(decide ((gt l i3).s<(gt l ((w64 ((i3:Int) - 1)).toNat)).s))) rfl rfl rfl rfl rfl (λhg78=>QV.qo (q_pick rfl (grV hg78) (pk_and (c:=((decide (0<(i3:Int)))&&(!(decide ((gt l i3).s<(gt l ((w64 ((i3:Int) - 1)).toNat)).s))))) (g:=((gt l i3).s==(gt l ((w64 ((i3:Int) - 1)).toNat)).s)) (y:=(decide ((w64 ((gt l i3).f - 1))≤(gt l ((w64 ((i3:Int) - 1)).toNat)).t))) hg78))) (wG1 (h:=λhg79=>q_pick rfl (grV hg79) (pk_or (c:=(decide (0<(i3:Int)))) (g:=(decide ((gt l i3).s<(gt l ((w64 ((i3:Int) - 1)).toNat)).s))) (y:=(((gt l i3).s==(gt l ((w64 ((i3:Int) - 1)).toNat)).s)&&(decide ((w64 ((gt l i3).f - 1))≤(gt l ((w64 ((i3:Int) - 1)).toNat)).t)))) hg79)) (k:=zV pkA (k:=?_)))))
  refine ao ?_
  change WC _ _ _ _ _ _
  refine ciV h (λhb80 h=>?_) (λhb80 h=>?_)
  ·
   refine ab (aV (k:=aa ?_))
   exact af λw hw=>rq_ r h hF hw
  refine ag (wc_ ?_)
  refine ah ?_
  refine mV (k:=sV (q_add_r rfl rfl rfl (ctr_len hl8 hl.le)) (k:=aV (k:=?_)))
  exact ae λw hw=>⟨hl8,(),h,slK,hw,trivial⟩
 have h:=hge6 (ige hb7)
 refine aj ?_
 change WC _ _ _ _ _ _
 refine ab (aV (k:=aa ?_))
 exact af λw hw=>rq_ r h hF hw
theorem t_firthref03_Top{Al:Option Addr}{cl:Nat}{l:List Span}(hl:Sl spanT Γ Al l)(hlc:l.length≤cl)(s_:Int)(hs_:I64 s_)(hs:Sat Γ w0){r:Int}(h:m_firthref03_Top l s_=some r):CQ Tryz.prog 117 #[.slice Al l.length cl,ii s_] w0 (ii r):=by
 refine goQ [4] func117 ntmps117 results117 hs λF hF=>?_
 refine ab (aV (k:=aa (ab (aV (k:=aa (ac (ab ?_)))))))
 refine aV (k:=aa (ai ?_))
 refine al h (λ(i4:Nat) (n_1:Int) σ w=>slots σ [(0,.slice Al l.length cl),(1,ii s_),(5,ii n_1),(6,ii (i4:Int))]∧CC F Γ [] w∧I64 n_1∧True) ?_ ?_
 ·
  intro w hw
  exact⟨slK,hw,iV,trivial⟩
 rintro f3 i4 n_1 σ w hi5 hlt6 hge7 ⟨hsl,hw,hr2,-⟩
 refine slV hsl hw [] ?_; clear hw hsl
 refine ac (ab (mV (k:=mV (k:=sV (q_len_slice rfl underlying87) (k:=sV q_lss (k:=aa ?_))))))
 refine coV (λhb8=>?_) (λhb8=>?_)
 ·
  have hl9:=ilt hb8
  have h:=hlt6 hl9
  refine ag (wc_ ?_)
  refine ar (λσ w => ∃(n_10:Int),m_firthref03_Top_j6 f3 n_10=some r∧slots σ [(0,.slice Al l.length cl),(1,ii s_),(5,ii n_10),(6,ii (i4:Int))]∧CC F Γ [] w∧I64 n_10∧True) ?_ ?_
  ·
   refine ai (ab (mV (k:=mV (k:=sV (q_ixn (i:=i4) underlying87 sizeOf93 rfl rfl rfl hl9 (hl.some_ hl9)) (k:=sV (q_field_addr (i4*3) fld_93_0 rfl rfl (hl.some_ hl9) rfl) (k:=sV (q_ld (c:=0) (v:=ii (gt l i4).s) (hl.spanT_at hl9).2 rfl isAgg3 rfl rfl) (k:=mV (k:=?_))))))))
   refine sV q_eql (k:=mV (k:=vG1 (h:=λhg12=>moV) (k:=vG1 (h:=λhg13=>moV) (k:=vG1 (h:=λhg14=>q_ixn (i:=i4) underlying87 sizeOf93 rfl (grV hg14) (grV hg14) hl9 (hl.some_ hl9)) (k:=vG1 (h:=λhg15=>q_field_addr (i4*3+2) fld_93_2 rfl (grV hg15) (hl.some_ hl9) rfl) (k:=vG1 (h:=λhg16=>q_ld (c:=2) (v:=ii (gt l i4).t) (hl.spanT_at hl9).2 rfl isAgg2 (grV hg16) rfl) (k:=vG1 (h:=λhg17=>moV) (k:=?_))))))))
   refine vG1 (h:=λhg18=>q_gtr rfl (grV hg18) (grV hg18)) (k:=sV pkA (k:=aa ?_))
   refine ciV h (λhb19 h=>?_) (λhb19 h=>?_)
   ·
    refine ah ?_
    refine mV (k:=mV (k:=sV (q_ixn (i:=i4) underlying87 sizeOf93 rfl rfl rfl hl9 (hl.some_ hl9)) (k:=sV (q_field_addr (i4*3+2) fld_93_2 rfl rfl (hl.some_ hl9) rfl) (k:=sV (q_ld (c:=2) (v:=ii (gt l i4).t) (hl.spanT_at hl9).2 rfl isAgg2 rfl rfl) (k:=aV (k:=?_))))))
    exact ae λw hw=>⟨(gt l i4).t,h,slK,hw,(hl.spanT_at hl9).1.2.2,trivial⟩
   exact ag λw hw=>⟨n_1,h,slK,hw,hr2,trivial⟩
  rintro σ w ⟨n_10,h,hsl,hw,hr11,-⟩
  refine slV hsl hw [] ?_; clear hw hsl
  refine ah ?_
  refine mV (k:=sV (q_add_r rfl rfl rfl (ctr_len hl9 hl.le)) (k:=aV (k:=?_)))
  exact ae λw hw=>⟨hl9,n_10,h,slK,hw,hr11,trivial⟩
 have h:=hge7 (ige hb8)
 refine aj ?_
 change WC _ _ _ _ _ _
 refine ab (mV (k:=aV (k:=aa ?_)))
 exact af λw hw=>rq_ r h hF hw
theorem t_firthref05_RightOne{Av_2:Option Addr}{cv_2:Nat}(v_:Ver)(hv_:Ver.fits Γ Av_2 cv_2 v_)(hs:Sat Γ w0){r:Bool}(h:m_firthref05_RightOne v_=some r):CQ Tryz.prog 80 #[.agg (Ver.cs Av_2 cv_2 v_).toArray] w0 (.bool r):=by
 refine goQ [2] func80 ntmps80 results80 hs λF hF=>?_
 refine ab ?_
 refine bxV (v:=.agg (Ver.cs Av_2 cv_2 v_).toArray) λg1=>?_
 refine aV (k:=aa (ac (ac ?_)))
 refine drV ?_
 refine zV (q_fl 0 fld_89_0) (k:=zV (ldaV 0 (Dot.cs v_.dot) isAgg86 sizeOf86) (k:=?_))
 obtain⟨z2,hz3,h⟩:=bnd h
 refine wc rfl rfl rfl (q_call (caV call115) (λw hw=>t_firthref03_Dot (Γ:=Gh.all w) v_.dot ⟨hv_.1,hv_.2.1⟩ (Sat.all w) hz3)) (zV q_not (k:=zV moV (k:=wG0 (h:=λhg4=>q_fl 2 fld_89_1) (k:=wG0 (h:=λhg5=>ldV 0 isAgg87 (hx:=grV hg5)) (k:=?_)))))
 obtain⟨z7,hz8,h⟩:=bnd h
 refine wC0 (h:=λhg6=>q_call (call_run call116 rfl rfl (args1 (grV hg6))) (λw hw=>t_firthref03_Right (Γ:=Gh.all w) (hv_.2.2.1.2.mono hw.sat.le_all) hv_.2.2.1.1 (Sat.all w) (gc_of hz8 hg6))) (k:=wG0 (h:=λhg9=>q_not rfl (grV hg9)) (k:=zV pkO (k:=zV moV (k:=wG0 (h:=λhg10=>q_fl 2 fld_89_1) (k:=wG0 (h:=λhg11=>ldV 0 isAgg87 (hx:=grV hg11)) (k:=wG0 (h:=λhg12=>q_fl 0 fld_89_0) (k:=wG0 (h:=λhg13=>q_fl 0 fld_86_0 rfl (grV hg13)) (k:=?_))))))))
 refine wG0 (h:=λhg14=>ldV 0 isAgg3 (hx:=grV hg14)) (k:=?_)
 obtain⟨z16,hz17,h⟩:=bnd h
 refine wC0 (h:=λhg15=>q_call (call_run call117 rfl rfl (args2 (grV hg15) (grV hg15))) (λw hw=>t_firthref03_Top (Γ:=Gh.all w) (hv_.2.2.1.2.mono hw.sat.le_all) hv_.2.2.1.1 v_.dot.s hv_.1 (Sat.all w) (gc_of hz17 hg15))) (k:=wG0 (h:=λhg18=>q_fl 0 fld_89_0) (k:=wG0 (h:=λhg19=>q_fl 1 fld_86_1 rfl (grV hg19)) (k:=wG0 (h:=λhg20=>ldV 0 isAgg2 (hx:=grV hg20)) (k:=wG0 (h:=λhg21=>q_geq rfl (grV hg21) (grV hg21)) (k:=zV pkO (k:=?_))))))
 refine ao ?_
 change WC _ _ _ _ _ _
 refine ciV h (λhb22 h=>?_) (λhb22 h=>?_)
 ·
  refine ab (aV (k:=aa ?_))
  exact af λw hw=>rq_ r h hF hw
 refine ag (wc_ (ac (ab (sV (q_fl 3 fld_89_2) (k:=sV (ldV 0 isAgg4) (k:=aa ?_))))))
 refine ciV h (λhb23 h=>?_) (λhb23 h=>?_)
 ·
  refine ab (sV (q_fl 4 fld_89_3) (k:=sV (ldV 0 isAgg9) (k:=sV q_seql (k:=aV (k:=aa ?_)))))
  exact af λw hw=>rq_ r h hF hw
 refine ag (wc_ (ab (sV (q_fl 4 fld_89_3) (k:=sV (ldV 0 isAgg9) (k:=sV (q_len_str rfl underlying9) (k:=sV q_leq (k:=aV (k:=?_))))))))
 refine aa ?_
 exact af λw hw=>rq_ r h hF hw
theorem t_firthref03_Has{Al:Option Addr}{cl:Nat}{l:List Span}(hl:Sl spanT Γ Al l)(hlc:l.length≤cl)(d:Dot)(hd:Dot.fits Γ  d)(hs:Sat Γ w0){r:Bool}(h:m_firthref03_Has l d=some r):CQ Tryz.prog 82 #[.slice Al l.length cl,.agg (Dot.cs d).toArray] w0 (.bool r):=by
 refine goQ [4] func82 ntmps82 results82 hs λF hF=>?_
 refine ab ?_
 refine bxV (v:=.agg (Dot.cs d).toArray) λg1=>?_
 refine aV (k:=aa (ac (ab (aV (k:=aa (ai ?_))))))
 refine al h (λ(i3:Nat) (s:Unit) σ w=>match s with | ()=>slots σ [(0,.slice Al l.length cl),(3,(pq g1)),(5,ii (i3:Int))]∧CC F Γ [[(g1,.cells (Dot.cs d).toArray 86 (0,0))]] w∧True) ?_ ?_
 ·
  intro w hw
  exact⟨slK,hw,trivial⟩
 rintro f2 i3 ⟨⟩ σ w hi4 hlt5 hge6 ⟨hsl,hw,-⟩
 refine slV hsl hw [_] ?_; clear hw hsl
 refine ac (ab (mV (k:=mV (k:=sV (q_len_slice rfl underlying87) (k:=sV q_lss (k:=aa ?_))))))
 refine coV (λhb7=>?_) (λhb7=>?_)
 ·
  have hl8:=ilt hb7
  have h:=hlt5 hl8
  refine ag (wc_ (ac (ai (ac ?_))))
  refine drV ?_
  refine zV moV (k:=zV moV (k:=zV (q_ixn (i:=i3) underlying87 sizeOf93 rfl rfl rfl hl8 (hl.some_ hl8)) (k:=zV (q_field_addr (i3*3) fld_93_0 rfl rfl (hl.some_ hl8) rfl) (k:=zV (q_ld (c:=0) (v:=ii (gt l i3).s) (hl.spanT_at hl8).2 rfl isAgg3 rfl rfl) (k:=zV (q_fl 0 fld_86_0) (k:=zV (ldV 0 isAgg3) (k:=zV q_eql (k:=?_))))))))
  refine zV moV (k:=wG1 (h:=λhg9=>q_fl 1 fld_86_1) (k:=wG1 (h:=λhg10=>ldV 0 isAgg2 (hx:=grV hg10)) (k:=wG1 (h:=λhg11=>moV) (k:=wG1 (h:=λhg12=>moV) (k:=wG1 (h:=λhg13=>q_ixn (i:=i3) underlying87 sizeOf93 rfl (grV hg13) (grV hg13) hl8 (hl.some_ hl8)) (k:=wG1 (h:=λhg14=>q_field_addr (i3*3+1) fld_93_1 rfl (grV hg14) (hl.some_ hl8) rfl) (k:=wG1 (h:=λhg15=>q_ld (c:=1) (v:=ii (gt l i3).f) (hl.spanT_at hl8).2 rfl isAgg2 (grV hg15) rfl) (k:=?_))))))))
  refine wG1 (h:=λhg16=>q_geq rfl (grV hg16) (grV hg16)) (k:=zV pkA (k:=zV moV (k:=wG1 (h:=λhg17=>q_fl 1 fld_86_1) (k:=wG1 (h:=λhg18=>ldV 0 isAgg2 (hx:=grV hg18)) (k:=wG1 (h:=λhg19=>moV) (k:=wG1 (h:=λhg20=>moV) (k:=wG1 (h:=λhg21=>q_ixn (i:=i3) underlying87 sizeOf93 rfl (grV hg21) (grV hg21) hl8 (hl.some_ hl8)) (k:=?_))))))))
  refine wG1 (h:=λhg22=>q_field_addr (i3*3+2) fld_93_2 rfl (grV hg22) (hl.some_ hl8) rfl) (k:=wG1 (h:=λhg23=>q_ld (c:=2) (v:=ii (gt l i3).t) (hl.spanT_at hl8).2 rfl isAgg2 (grV hg23) rfl) (k:=wG1 (h:=λhg24=>q_leq rfl (grV hg24) (grV hg24)) (k:=zV pkA (k:=?_))))
  refine ao ?_
  change WC _ _ _ _ _ _
  refine ciV h (λhb25 h=>?_) (λhb25 h=>?_)
  ·
   refine ab (aV (k:=aa ?_))
   exact af λw hw=>rq_ r h hF hw
  refine ag (wc_ ?_)
  refine ah ?_
  refine mV (k:=sV (q_add_r rfl rfl rfl (ctr_len hl8 hl.le)) (k:=aV (k:=?_)))
  exact ae λw hw=>⟨hl8,(),h,slK,hw,trivial⟩
 have h:=hge6 (ige hb7)
 refine aj ?_
 change WC _ _ _ _ _ _
 refine ab (aV (k:=aa ?_))
 exact af λw hw=>rq_ r h hF hw
theorem t_firthref05_Behind{Al:Option Addr}{cl:Nat}{l:List Ver}(hl:Sl verT Γ Al l)(hlc:l.length≤cl)(d:Dot)(hd:Dot.fits Γ  d)(hs:Sat Γ w0){r:Bool}(h:m_firthref05_Behind l d=some r):CQ Tryz.prog 51 #[.slice Al l.length cl,.agg (Dot.cs d).toArray] w0 (.bool r):=by
 refine goQ [4] func51 ntmps51 results51 hs λF hF=>?_
 refine ab ?_
 refine bxV (v:=.agg (Dot.cs d).toArray) λg1=>?_
 refine aV (k:=aa (ac (ab (aV (k:=aa (ai ?_))))))
 refine al h (λ(i3:Nat) (s:Unit) σ w=>match s with | ()=>slots σ [(0,.slice Al l.length cl),(3,(pq g1)),(5,ii (i3:Int))]∧CC F Γ [[(g1,.cells (Dot.cs d).toArray 86 (0,0))]] w∧True) ?_ ?_
 ·
  intro w hw
  exact⟨slK,hw,trivial⟩
 rintro f2 i3 ⟨⟩ σ w hi4 hlt5 hge6 ⟨hsl,hw,-⟩
 refine slV hsl hw [_] ?_; clear hw hsl
 refine ac (ab (mV (k:=mV (k:=sV (q_len_slice rfl underlying43) (k:=sV q_lss (k:=aa ?_))))))
 refine coV (λhb7=>?_) (λhb7=>?_)
 ·
  have hl8:=ilt hb7
  have h:=hlt5 hl8
  refine ag (wc_ (ac (ai (ac ?_))))
  refine drV ?_
  refine zV moV (k:=zV moV (k:=zV (q_ixn (i:=i3) underlying43 sizeOf89 rfl rfl rfl hl8 (hl.some_ hl8)) (k:=zV (q_field_addr (i3*5+2) fld_89_1 rfl rfl (hl.some_ hl8) rfl) (k:=?_))))
  obtain⟨A9,c10,hx11⟩:=hl.verT_at i3
  refine zV (q_ld (c:=2) (v:=.slice A9 ((gt l i3).past).length c10) (hx11 hl8).2 rfl isAgg87 rfl rfl) (k:=zV (ldaV 0 (Dot.cs d) isAgg86 sizeOf86) (k:=?_))
  obtain⟨z12,hz13,h⟩:=bnd h
  refine wc rfl rfl rfl (q_call (caV call82) (λw hw=>t_firthref03_Has (Γ:=Gh.all w) ((hx11 hl8).1.2.2.1.2.mono hw.sat.le_all) (hx11 hl8).1.2.2.1.1 d hd (Sat.all w) hz13)) ?_
  refine ao ?_
  change WC _ _ _ _ _ _
  refine ciV h (λhb14 h=>?_) (λhb14 h=>?_)
  ·
   refine ab (aV (k:=aa ?_))
   exact af λw hw=>rq_ r h hF hw
  refine ag (wc_ ?_)
  refine ah ?_
  refine mV (k:=sV (q_add_r rfl rfl rfl (ctr_len hl8 hl.le)) (k:=aV (k:=?_)))
  exact ae λw hw=>⟨hl8,(),h,slK,hw,trivial⟩
 have h:=hge6 (ige hb7)
 refine aj ?_
 change WC _ _ _ _ _ _
 refine ab (aV (k:=aa ?_))
 exact af λw hw=>rq_ r h hF hw
theorem t_firthref05_Less(a:Dot)(ha:Dot.fits Γ  a)(b:Dot)(hb:Dot.fits Γ  b)(hs:Sat Γ w0){r:Bool}(h:m_firthref05_Less a b=some r):CQ Tryz.prog 81 #[.agg (Dot.cs a).toArray,.agg (Dot.cs b).toArray] w0 (.bool r):=by
 refine goQ [4] func81 ntmps81 results81 hs λF hF=>?_
 refine ab ?_
 refine bxV (v:=.agg (Dot.cs a).toArray) λg1=>?_
 refine bxV (v:=.agg (Dot.cs b).toArray) λg2=>?_
 refine aV (k:=aa (ac (ab (sV (q_fl 0 fld_86_0) (k:=sV (ldV 1 isAgg3) (k:=sV (q_fl 0 fld_86_0) (k:=sV (ldV 0 isAgg3) (k:=?_))))))))
 refine sV q_neq (k:=aa ?_)
 refine ciV h (λhb3 h=>?_) (λhb3 h=>?_)
 ·
  refine ab (sV (q_fl 0 fld_86_0) (k:=sV (ldV 1 isAgg3) (k:=sV (q_fl 0 fld_86_0) (k:=sV (ldV 0 isAgg3) (k:=sV q_lss (k:=aV (k:=aa ?_)))))))
  exact af λw hw=>rq_ r h hF hw
 refine ag (wc_ (ab (sV (q_fl 1 fld_86_1) (k:=sV (ldV 1 isAgg2) (k:=sV (q_fl 1 fld_86_1) (k:=sV (ldV 0 isAgg2) (k:=sV q_lss (k:=?_))))))))
 refine aV (k:=aa ?_)
 exact af λw hw=>rq_ r h hF hw
theorem t_firthref05_Right{Al:Option Addr}{cl:Nat}{l:List Ver}(hl:Sl verT Γ Al l)(hlc:l.length≤cl)(hs:Sat Γ w0){r:Bool}(h:m_firthref05_Right l=some r):CQ Tryz.prog 50 #[.slice Al l.length cl] w0 (.bool r):=by
 refine goQ [2] func50 ntmps50 results50 hs λF hF=>?_
 refine ab (aV (k:=aa (ac (ab (mV (k:=sV (q_len_slice rfl underlying43) (k:=sV q_gtr (k:=?_))))))))
 refine aa ?_
 refine ciV h (λhb1 h=>?_) (λhb1 h=>?_)
 ·
  refine ab (aV (k:=aa ?_))
  exact af λw hw=>rq_ r h hF hw
 refine ag (wc_ (ac (ab (aV (k:=aa (ai ?_))))))
 refine al h (λ(i3:Nat) (s:Unit) σ w=>match s with | ()=>slots σ [(0,.slice Al l.length cl),(3,ii (i3:Int))]∧CC F Γ [] w∧True) ?_ ?_
 ·
  intro w hw
  exact⟨slK,hw,trivial⟩
 rintro f2 i3 ⟨⟩ σ w hi4 hlt5 hge6 ⟨hsl,hw,-⟩
 refine slV hsl hw [] ?_; clear hw hsl
 refine ac (ab (mV (k:=mV (k:=sV (q_len_slice rfl underlying43) (k:=sV q_lss (k:=aa ?_))))))
 refine coV (λhb7=>?_) (λhb7=>?_)
 ·
  have hl8:=ilt hb7
  have h:=hlt5 hl8
  refine ag (wc_ (ac (ai (ac (ab (mV (k:=mV (k:=?_))))))))
  refine sV (q_ixn (i:=i3) underlying43 sizeOf89 rfl rfl rfl hl8 (hl.some_ hl8)) (k:=?_)
  obtain⟨A9,c10,hx11⟩:=hl.verT_at i3
  refine sV (q_lda (c:=0) (vs:=(Ver.cs A9 c10 (gt l i3))) (hx11 hl8).2 rfl isAgg89 sizeOf89 rfl rfl rfl) (k:=?_)
  obtain⟨z12,hz13,h⟩:=bnd h
  refine vqV (caV call80) (λw hw=>t_firthref05_RightOne (Γ:=Gh.all w) (gt l i3) (Ver.fits_mono (hx11 hl8).1 hw.sat.le_all) (Sat.all w) hz13) (k:=sV q_not (k:=mV (k:=vG0 (h:=λhg14=>moV) (k:=vG0 (h:=λhg15=>moV) (k:=vG0 (h:=λhg16=>moV) (k:=vG0 (h:=λhg17=>q_ixn (i:=i3) underlying43 sizeOf89 rfl (grV hg17) (grV hg17) hl8 (hl.some_ hl8)) (k:=vG0 (h:=λhg18=>q_field_addr (i3*5) fld_89_0 rfl (grV hg18) (hl.some_ hl8) rfl) (k:=?_))))))))
  refine vG0 (h:=λhg19=>q_lda (c:=0) (vs:=[ii (gt l i3).dot.s,ii (gt l i3).dot.n]) (hx11 hl8).2 rfl isAgg86 sizeOf86 (grV hg19) rfl rfl) (k:=?_)
  obtain⟨z21,hz22,h⟩:=bnd h
  refine vC0 (h:=λhg20=>q_call (call_run call51 rfl rfl (args2 (grV hg20) (grV hg20))) (λw hw=>t_firthref05_Behind (Γ:=Gh.all w) (hl.mono hw.sat.le_all) hlc ((gt l i3).dot) ⟨(hx11 hl8).1.1,(hx11 hl8).1.2.1⟩ (Sat.all w) (gc_of hz22 hg20))) (k:=sV pkO (k:=aa ?_))
  refine ciV h (λhb23 h=>?_) (λhb23 h=>?_)
  ·
   refine ab (aV (k:=aa ?_))
   exact af λw hw=>rq_ r h hF hw
  refine ag (wc_ (ac ?_))
  refine drV ?_
  refine zV moV (k:=zV q_gtr (k:=zV moV (k:=wG1 (h:=λhg24=>moV) (k:=wG1 (h:=λhg25=>moV) (k:=wG1 (h:=λhg26=>q_sub rfl (grV hg26)) (k:=?_))))))
  obtain⟨hk28,h⟩:=chk_some h
  refine wG1 (h:=λhg27=>q_ix underlying43 sizeOf89 rfl (grV hg27) (grV hg27) (imp_of hk28 hg27) (hl.some_ (inb_lt (imp_of hk28 hg27)))) (k:=wG1 (h:=λhg29=>q_field_addr (((w64 ((i3:Int) - 1)).toNat)*5) fld_89_0 rfl (grV hg29) (hl.some_ (inb_lt (imp_of hk28 hg29))) rfl) (k:=?_))
  obtain⟨A31,c32,hx33⟩:=hl.verT_at ((w64 ((i3:Int) - 1)).toNat)
  refine wG1 (h:=λhg30=>q_lda (c:=0) (vs:=[ii (gt l ((w64 ((i3:Int) - 1)).toNat)).dot.s,ii (gt l ((w64 ((i3:Int) - 1)).toNat)).dot.n]) (hx33 (inb_lt (imp_of hk28 hg30))).2 rfl isAgg86 sizeOf86 (grV hg30) rfl rfl) (k:=wG1 (h:=λhg34=>moV) (k:=wG1 (h:=λhg35=>moV) (k:=wG1 (h:=λhg36=>q_ixn (i:=i3) underlying43 sizeOf89 rfl (grV hg36) (grV hg36) hl8 (hl.some_ hl8)) (k:=wG1 (h:=λhg37=>q_field_addr (i3*5) fld_89_0 rfl (grV hg37) (hl.some_ hl8) rfl) (k:=wG1 (h:=λhg38=>q_lda (c:=0) (vs:=[ii (gt l i3).dot.s,ii (gt l i3).dot.n]) (hx11 hl8).2 rfl isAgg86 sizeOf86 (grV hg38) rfl rfl) (k:=?_))))))
  obtain⟨z40,hz41,h⟩:=bnd h
  refine wC1 (h:=λhg39=>q_call (call_run call81 rfl rfl (args2 (grV hg39) (grV hg39))) (λw hw=>t_firthref05_Less (Γ:=Gh.all w) ((gt l ((w64 ((i3:Int) - 1)).toNat)).dot) ⟨(hx33 (inb_lt (imp_of hk28 hg39))).1.1,(hx33 (inb_lt (imp_of hk28 hg39))).1.2.1⟩ ((gt l i3).dot) ⟨(hx11 hl8).1.1,(hx11 hl8).1.2.1⟩ (Sat.all w) (gc_of hz41 hg39))) (k:=wG1 (h:=λhg42=>q_not rfl (grV hg42)) (k:=zV pkA (k:=?_)))
  refine ao ?_
  change WC _ _ _ _ _ _
  refine ciV h (λhb43 h=>?_) (λhb43 h=>?_)
  ·
   refine ab (aV (k:=aa ?_))
   exact af λw hw=>rq_ r h hF hw
  refine ag (wc_ ?_)
  refine ah ?_
  refine mV (k:=sV (q_add_r rfl rfl rfl (ctr_len hl8 hl.le)) (k:=aV (k:=?_)))
  exact ae λw hw=>⟨hl8,(),h,slK,hw,trivial⟩
 have h:=hge6 (ige hb7)
 refine aj ?_
 change WC _ _ _ _ _ _
 refine ab (aV (k:=aa ?_))
 exact af λw hw=>rq_ r h hF hw
theorem t_firthref06_RightRec{Ar_1:Option Addr}{cr_1:Nat}(r_:Rec)(hr_:Rec.fits Γ Ar_1 cr_1 r_)(hs:Sat Γ w0){r:Bool}(h:m_firthref06_RightRec r_=some r):CQ Tryz.prog 28 #[.agg (Rec.cs Ar_1 cr_1 r_).toArray] w0 (.bool r):=by
 refine goQ [2] func28 ntmps28 results28 hs λF hF=>?_
 refine ab ?_
 refine bxV (v:=.agg (Rec.cs Ar_1 cr_1 r_).toArray) λg1=>?_
 refine aV (k:=aa (ab (sV (q_fl 0 fld_45_0) (k:=sV (ldV 0 isAgg9) (k:=sV q_sneq (k:=mV (k:=vG1 (h:=λhg2=>q_fl 0 fld_45_0) (k:=?_))))))))
 refine vG1 (h:=λhg3=>ldV 0 isAgg9 (hx:=grV hg3)) (k:=vG1 (h:=λhg4=>q_len_str rfl underlying9 (grV hg4)) (k:=vG1 (h:=λhg5=>q_leq rfl (grV hg5)) (k:=sV pkA (k:=mV (k:=vG1 (h:=λhg6=>q_fl 1 fld_45_1) (k:=vG1 (h:=λhg7=>ldV 0 isAgg43 (hx:=grV hg7)) (k:=?_)))))))
 obtain⟨z9,hz10,h⟩:=bnd h
 refine vC1 (h:=λhg8=>q_call (call_run call50 rfl rfl (args1 (grV hg8))) (λw hw=>t_firthref05_Right (Γ:=Gh.all w) (hr_.2.2.mono hw.sat.le_all) hr_.2.1 (Sat.all w) (gc_of hz10 hg8))) (k:=sV pkA (k:=aV (k:=aa ?_)))
 exact af λw hw=>rq_ r h hF hw
theorem t_firthref03_Same{Aa:Option Addr}{ca:Nat}{a:List Span}(ha:Sl spanT Γ Aa a)(hac:a.length≤ca){Ab:Option Addr}{cb:Nat}{b:List Span}(hb:Sl spanT Γ Ab b)(hbc:b.length≤cb)(hs:Sat Γ w0){r:Bool}(h:m_firthref03_Same a b=some r):CQ Tryz.prog 76 #[.slice Aa a.length ca,.slice Ab b.length cb] w0 (.bool r):=by
 refine goQ [4] func76 ntmps76 results76 hs λF hF=>?_
 refine ab (aV (k:=aa (ac (ab (mV (k:=sV (q_len_slice rfl underlying87) (k:=mV (k:=?_))))))))
 refine sV (q_len_slice rfl underlying87) (k:=sV q_neq (k:=aa ?_))
 refine ciV h (λhb1 h=>?_) (λhb1 h=>?_)
 ·
  refine ab (aV (k:=aa ?_))
  exact af λw hw=>rq_ r h hF hw
 refine ag (wc_ (ac (ab (aV (k:=aa (ai ?_))))))
 refine al h (λ(i3:Nat) (s:Unit) σ w=>match s with | ()=>slots σ [(0,.slice Aa a.length ca),(1,.slice Ab b.length cb),(5,ii (i3:Int))]∧CC F Γ [] w∧True) ?_ ?_
 ·
  intro w hw
  exact⟨slK,hw,trivial⟩
 rintro f2 i3 ⟨⟩ σ w hi4 hlt5 hge6 ⟨hsl,hw,-⟩
 refine slV hsl hw [] ?_; clear hw hsl
 refine ac (ab (mV (k:=mV (k:=sV (q_len_slice rfl underlying87) (k:=sV q_lss (k:=aa ?_))))))
 refine coV (λhb7=>?_) (λhb7=>?_)
 ·
  have hl8:=ilt hb7
  have h:=hlt5 hl8
  refine ag (wc_ (ac (ai (ac ?_))))
  refine drV ?_
  refine zV moV (k:=zV moV (k:=zV (q_ixn (i:=i3) underlying87 sizeOf93 rfl rfl rfl hl8 (ha.some_ hl8)) (k:=zV (q_lda (c:=0) (vs:=(Span.cs (gt a i3))) (ha.spanT_at hl8).2 rfl isAgg93 sizeOf93 rfl rfl rfl) (k:=zV moV (k:=zV moV (k:=?_))))))
  obtain⟨hk9,h⟩:=chk_some h
  refine zV (q_ixn (i:=i3) underlying87 sizeOf93 rfl rfl rfl (of_decide_eq_true hk9) (hb.some_ (of_decide_eq_true hk9))) (k:=zV (q_lda (c:=0) (vs:=(Span.cs (gt b i3))) (hb.spanT_at (of_decide_eq_true hk9)).2 rfl isAgg93 sizeOf93 rfl rfl rfl) (k:=zV (q_neq_Span (a:=(gt a i3)) (b:=(gt b i3)) rfl rfl rfl) (k:=?_)))
  refine ao ?_
  change WC _ _ _ _ _ _
  refine ciV h (λhb10 h=>?_) (λhb10 h=>?_)
  ·
   refine ab (aV (k:=aa ?_))
   exact af λw hw=>rq_ r h hF hw
  refine ag (wc_ ?_)
  refine ah ?_
  refine mV (k:=sV (q_add_r rfl rfl rfl (ctr_len hl8 ha.le)) (k:=aV (k:=?_)))
  exact ae λw hw=>⟨hl8,(),h,slK,hw,trivial⟩
 have h:=hge6 (ige hb7)
 refine aj ?_
 change WC _ _ _ _ _ _
 refine ab (aV (k:=aa ?_))
 exact af λw hw=>rq_ r h hF hw
theorem t_firthref05_SameOne{Aa2:Option Addr}{ca2:Nat}(a:Ver)(ha:Ver.fits Γ Aa2 ca2 a){Ab2:Option Addr}{cb2:Nat}(b:Ver)(hb:Ver.fits Γ Ab2 cb2 b)(hs:Sat Γ w0){r:Bool}(h:m_firthref05_SameOne a b=some r):CQ Tryz.prog 45 #[.agg (Ver.cs Aa2 ca2 a).toArray,.agg (Ver.cs Ab2 cb2 b).toArray] w0 (.bool r):=by
 refine goQ [4] func45 ntmps45 results45 hs λF hF=>?_
 refine ab ?_
 refine bxV (v:=.agg (Ver.cs Aa2 ca2 a).toArray) λg1=>?_
 refine bxV (v:=.agg (Ver.cs Ab2 cb2 b).toArray) λg2=>?_
 refine aV (k:=aa (ab (sV (q_fl 0 fld_89_0) (k:=sV (ldaV 1 (Dot.cs a.dot) isAgg86 sizeOf86) (k:=sV (q_fl 0 fld_89_0) (k:=sV (ldaV 0 (Dot.cs b.dot) isAgg86 sizeOf86) (k:=sV (q_eql_Dot (a:=a.dot) (b:=b.dot) rfl rfl rfl) (k:=?_))))))))
 refine mV (k:=vG1 (h:=λhg3=>q_fl 3 fld_89_2) (k:=vG1 (h:=λhg4=>ldV 1 isAgg4 (hx:=grV hg4)) (k:=vG1 (h:=λhg5=>q_fl 3 fld_89_2) (k:=vG1 (h:=λhg6=>ldV 0 isAgg4 (hx:=grV hg6)) (k:=vG1 (h:=λhg7=>q_beql underlying4 rfl (grV hg7) (grV hg7)) (k:=sV pkA (k:=mV (k:=?_))))))))
 refine vG1 (h:=λhg8=>q_fl 4 fld_89_3) (k:=vG1 (h:=λhg9=>ldV 1 isAgg9 (hx:=grV hg9)) (k:=vG1 (h:=λhg10=>q_fl 4 fld_89_3) (k:=vG1 (h:=λhg11=>ldV 0 isAgg9 (hx:=grV hg11)) (k:=vG1 (h:=λhg12=>q_seql rfl (grV hg12) (grV hg12)) (k:=sV pkA (k:=mV (k:=vG1 (h:=λhg13=>q_fl 2 fld_89_1) (k:=?_))))))))
 refine vG1 (h:=λhg14=>ldV 1 isAgg87 (hx:=grV hg14)) (k:=vG1 (h:=λhg15=>q_fl 2 fld_89_1) (k:=vG1 (h:=λhg16=>ldV 0 isAgg87 (hx:=grV hg16)) (k:=?_)))
 obtain⟨z18,hz19,h⟩:=bnd h
 refine vC1 (h:=λhg17=>q_call (call_run call76 rfl rfl (args2 (grV hg17) (grV hg17))) (λw hw=>t_firthref03_Same (Γ:=Gh.all w) (ha.2.2.1.2.mono hw.sat.le_all) ha.2.2.1.1 (hb.2.2.1.2.mono hw.sat.le_all) hb.2.2.1.1 (Sat.all w) (gc_of hz19 hg17))) (k:=sV pkA (k:=aV (k:=aa ?_)))
 exact af λw hw=>rq_ r h hF hw
theorem t_firthlaw15_under{Aa:Option Addr}{ca:Nat}{a:List Span}(ha:Sl spanT Γ Aa a)(hac:a.length≤ca){Ab:Option Addr}{cb:Nat}{b:List Span}(hb:Sl spanT Γ Ab b)(hbc:b.length≤cb)(hs:Sat Γ w0){r:Bool}(h:m_firthlaw15_under a b=some r):CQ Tryz.prog 52 #[.slice Aa a.length ca,.slice Ab b.length cb] w0 (.bool r):=by
 refine goQ [4] func52 ntmps52 results52 hs λF hF=>?_
 refine ab (aV (k:=aa (ac (ab (aV (k:=aa (ai ?_)))))))
 refine al h (λ(i2:Nat) (s:Unit) σ w=>match s with | ()=>slots σ [(0,.slice Aa a.length ca),(1,.slice Ab b.length cb),(5,ii (i2:Int))]∧CC F Γ [] w∧True) ?_ ?_
 ·
  intro w hw
  exact⟨slK,hw,trivial⟩
 rintro f1 i2 ⟨⟩ σ w hi3 hlt4 hge5 ⟨hsl,hw,-⟩
 refine slV hsl hw [] ?_; clear hw hsl
 refine ac (ab (mV (k:=mV (k:=sV (q_len_slice rfl underlying87) (k:=sV q_lss (k:=aa ?_))))))
 refine coV (λhb6=>?_) (λhb6=>?_)
 ·
  have hl7:=ilt hb6
  have h:=hlt4 hl7
  refine ag (wc_ (ac (ai (ab (aV (k:=aa (ac ?_)))))))
  refine ab (aV (k:=aa (ai ?_)))
  refine al h (λ(i10:Nat) (in_8:Bool) σ w=>slots σ [(0,.slice Aa a.length ca),(1,.slice Ab b.length cb),(5,ii (i2:Int)),(6,.bool in_8),(7,ii (i10:Int))]∧CC F Γ [] w∧True) ?_ ?_
  ·
   intro w hw
   exact⟨slK,hw,trivial⟩
  rintro f9 i10 in_8 σ w hi11 hlt12 hge13 ⟨hsl,hw,-⟩
  refine slV hsl hw [] ?_; clear hw hsl
  refine ac (ab (mV (k:=mV (k:=sV (q_len_slice rfl underlying87) (k:=sV q_lss (k:=aa ?_))))))
  refine coV (λhb14=>?_) (λhb14=>?_)
  ·
   have hl15:=ilt hb14
   have h:=hlt12 hl15
   refine ag (wc_ (ac (ai ?_)))
   refine drV ?_
   refine zV moV (k:=zV moV (k:=wG0 (h:=λhg16=>moV) (k:=wG0 (h:=λhg17=>moV) (k:=wG0 (h:=λhg18=>q_ixn (i:=i2) underlying87 sizeOf93 rfl (grV hg18) (grV hg18) hl7 (ha.some_ hl7)) (k:=wG0 (h:=λhg19=>q_field_addr (i2*3) fld_93_0 rfl (grV hg19) (ha.some_ hl7) rfl) (k:=wG0 (h:=λhg20=>q_ld (c:=0) (v:=ii (gt a i2).s) (ha.spanT_at hl7).2 rfl isAgg3 (grV hg20) rfl) (k:=wG0 (h:=λhg21=>moV) (k:=?_))))))))
   refine wG0 (h:=λhg22=>moV) (k:=wG0 (h:=λhg23=>q_ixn (i:=i10) underlying87 sizeOf93 rfl (grV hg23) (grV hg23) hl15 (hb.some_ hl15)) (k:=wG0 (h:=λhg24=>q_field_addr (i10*3) fld_93_0 rfl (grV hg24) (hb.some_ hl15) rfl) (k:=wG0 (h:=λhg25=>q_ld (c:=0) (v:=ii (gt b i10).s) (hb.spanT_at hl15).2 rfl isAgg3 (grV hg25) rfl) (k:=wG0 (h:=λhg26=>q_eql rfl (grV hg26) (grV hg26)) (k:=wG0 (h:=λhg27=>q_move (v:=.bool ((gt a i2).s==(gt b i10).s)) rfl (grV hg27)) (k:=wh1 (c0:=(!in_8)) (g:=((gt a i2).s==(gt b i10).s)) rfl rfl rfl rfl rfl (λ_=>QV.qo moV) (wh1 (c0:=(!in_8)) (g:=((gt a i2).s==(gt b i10).s)) rfl rfl rfl rfl rfl (λ_=>QV.qo moV) ?_)))))))
   refine wh1 (c0:=(!in_8)) (g:=((gt a i2).s==(gt b i10).s)) rfl rfl rfl rfl rfl (λhg30=>QV.qo (q_ixn (i:=i10) underlying87 sizeOf93 rfl (grV hg30) (grV hg30) hl15 (hb.some_ hl15))) (wh1 (c0:=(!in_8)) (g:=((gt a i2).s==(gt b i10).s)) rfl rfl rfl rfl rfl (λhg31=>QV.qo (q_field_addr (i10*3+1) fld_93_1 rfl (grV hg31) (hb.some_ hl15) rfl)) (wh1 (c0:=(!in_8)) (g:=((gt a i2).s==(gt b i10).s)) rfl rfl rfl rfl rfl (λhg32=>QV.qo (q_ld (c:=1) (v:=ii (gt b i10).f) (hb.spanT_at hl15).2 rfl isAgg2 (grV hg32) rfl)) (wh1 (c0:=(!in_8)) (g:=((gt a i2).s==(gt b i10).s)) rfl rfl rfl rfl rfl (λ_=>QV.qo moV) (wh1 (c0:=(!in_8)) (g:=((gt a i2).s==(gt b i10).s)) rfl rfl rfl rfl rfl (λ_=>QV.qo moV) (wh1 (c0:=(!in_8)) (g:=((gt a i2).s==(gt b i10).s)) rfl rfl rfl rfl rfl (λhg35=>QV.qo (q_ixn (i:=i2) underlying87 sizeOf93 rfl (grV hg35) (grV hg35) hl7 (ha.some_ hl7))) (wh1 (c0:=(!in_8)) (g:=((gt a i2).s==(gt b i10).s)) rfl rfl rfl rfl rfl (λhg36=>QV.qo (q_field_addr (i2*3+1) fld_93_1 rfl (grV hg36) (ha.some_ hl7) rfl)) (wh1 (c0:=(!in_8)) (g:=((gt a i2).s==(gt b i10).s)) rfl rfl rfl rfl rfl (λhg37=>QV.qo (q_ld (c:=1) (v:=ii (gt a i2).f) (ha.spanT_at hl7).2 rfl isAgg2 (grV hg37) rfl)) ?_)))))))
   refine wh1 (c0:=(!in_8)) (g:=((gt a i2).s==(gt b i10).s)) rfl rfl rfl rfl rfl (λhg38=>QV.qo (q_leq rfl (grV hg38) (grV hg38))) (wG0 (h:=λhg39=>q_pick rfl (grV hg39) (pk_and (c:=(!in_8)) (g:=((gt a i2).s==(gt b i10).s)) (y:=(decide ((gt b i10).f≤(gt a i2).f))) hg39)) (k:=wG0 (h:=λhg40=>q_move (v:=.bool (((gt a i2).s==(gt b i10).s)&&(decide ((gt b i10).f≤(gt a i2).f)))) rfl (grV hg40)) (k:=wh1 (c0:=(!in_8)) (g:=(((gt a i2).s==(gt b i10).s)&&(decide ((gt b i10).f≤(gt a i2).f)))) rfl rfl rfl rfl rfl (λ_=>QV.qo moV) (wh1 (c0:=(!in_8)) (g:=(((gt a i2).s==(gt b i10).s)&&(decide ((gt b i10).f≤(gt a i2).f)))) rfl rfl rfl rfl rfl (λ_=>QV.qo moV) (wh1 (c0:=(!in_8)) (g:=(((gt a i2).s==(gt b i10).s)&&(decide ((gt b i10).f≤(gt a i2).f)))) rfl rfl rfl rfl rfl (λhg43=>QV.qo (q_ixn (i:=i2) underlying87 sizeOf93 rfl (grV hg43) (grV hg43) hl7 (ha.some_ hl7))) (wh1 (c0:=(!in_8)) (g:=(((gt a i2).s==(gt b i10).s)&&(decide ((gt b i10).f≤(gt a i2).f)))) rfl rfl rfl rfl rfl (λhg44=>QV.qo (q_field_addr (i2*3+2) fld_93_2 rfl (grV hg44) (ha.some_ hl7) rfl)) (wh1 (c0:=(!in_8)) (g:=(((gt a i2).s==(gt b i10).s)&&(decide ((gt b i10).f≤(gt a i2).f)))) rfl rfl rfl rfl rfl (λhg45=>QV.qo (q_ld (c:=2) (v:=ii (gt a i2).t) (ha.spanT_at hl7).2 rfl isAgg2 (grV hg45) rfl)) ?_)))))))
   refine wh1 (c0:=(!in_8)) (g:=(((gt a i2).s==(gt b i10).s)&&(decide ((gt b i10).f≤(gt a i2).f)))) rfl rfl rfl rfl rfl (λ_=>QV.qo moV) (wh1 (c0:=(!in_8)) (g:=(((gt a i2).s==(gt b i10).s)&&(decide ((gt b i10).f≤(gt a i2).f)))) rfl rfl rfl rfl rfl (λ_=>QV.qo moV) (wh1 (c0:=(!in_8)) (g:=(((gt a i2).s==(gt b i10).s)&&(decide ((gt b i10).f≤(gt a i2).f)))) rfl rfl rfl rfl rfl (λhg48=>QV.qo (q_ixn (i:=i10) underlying87 sizeOf93 rfl (grV hg48) (grV hg48) hl15 (hb.some_ hl15))) (wh1 (c0:=(!in_8)) (g:=(((gt a i2).s==(gt b i10).s)&&(decide ((gt b i10).f≤(gt a i2).f)))) rfl rfl rfl rfl rfl (λhg49=>QV.qo (q_field_addr (i10*3+2) fld_93_2 rfl (grV hg49) (hb.some_ hl15) rfl)) (wh1 (c0:=(!in_8)) (g:=(((gt a i2).s==(gt b i10).s)&&(decide ((gt b i10).f≤(gt a i2).f)))) rfl rfl rfl rfl rfl (λhg50=>QV.qo (q_ld (c:=2) (v:=ii (gt b i10).t) (hb.spanT_at hl15).2 rfl isAgg2 (grV hg50) rfl)) (wh1 (c0:=(!in_8)) (g:=(((gt a i2).s==(gt b i10).s)&&(decide ((gt b i10).f≤(gt a i2).f)))) rfl rfl rfl rfl rfl (λhg51=>QV.qo (q_leq rfl (grV hg51) (grV hg51))) (wG0 (h:=λhg52=>q_pick rfl (grV hg52) (pk_and (c:=(!in_8)) (g:=(((gt a i2).s==(gt b i10).s)&&(decide ((gt b i10).f≤(gt a i2).f)))) (y:=(decide ((gt a i2).t≤(gt b i10).t))) hg52)) (k:=zV pkO (k:=?_))))))))
   refine zV aoV (k:=?_)
   refine ao ?_
   change WC _ _ _ _ _ _
   refine ah ?_
   refine mV (k:=sV (q_add_r rfl rfl rfl (ctr_len hl15 hb.le)) (k:=aV (k:=?_)))
   exact ae λw hw=>⟨hl15,(in_8||((((gt a i2).s==(gt b i10).s)&&(decide ((gt b i10).f≤(gt a i2).f)))&&(decide ((gt a i2).t≤(gt b i10).t)))),h,slK,hw,trivial⟩
  have h:=hge13 (ige hb14)
  refine aj ?_
  change WC _ _ _ _ _ _
  refine ab (mV (k:=sV q_not (k:=aa ?_)))
  refine ciV h (λhb53 h=>?_) (λhb53 h=>?_)
  ·
   refine ab (aV (k:=aa ?_))
   exact af λw hw=>rq_ r h hF hw
  refine ag (wc_ ?_)
  refine ah ?_
  refine mV (k:=sV (q_add_r rfl rfl rfl (ctr_len hl7 ha.le)) (k:=aV (k:=?_)))
  exact ae λw hw=>⟨hl7,(),h,slK,hw,trivial⟩
 have h:=hge5 (ige hb6)
 refine aj ?_
 change WC _ _ _ _ _ _
 refine ab (aV (k:=aa ?_))
 exact af λw hw=>rq_ r h hF hw
theorem t_firthlaw15_written{Aa:Option Addr}{ca:Nat}{a:List Ver}(ha:Sl verT Γ Aa a)(hac:a.length≤ca){Ab:Option Addr}{cb:Nat}{b:List Ver}(hb:Sl verT Γ Ab b)(hbc:b.length≤cb)(hs:Sat Γ w0){r:Bool}(h:m_firthlaw15_written a b=some r):CQ Tryz.prog 29 #[.slice Aa a.length ca,.slice Ab b.length cb] w0 (.bool r):=by
 refine goQ [4] func29 ntmps29 results29 hs λF hF=>?_
 refine ab (aV (k:=aa (ac (ab (aV (k:=aa (ai ?_)))))))
 refine al h (λ(i2:Nat) (s:Unit) σ w=>match s with | ()=>slots σ [(0,.slice Aa a.length ca),(1,.slice Ab b.length cb),(5,ii (i2:Int))]∧CC F Γ [] w∧True) ?_ ?_
 ·
  intro w hw
  exact⟨slK,hw,trivial⟩
 rintro f1 i2 ⟨⟩ σ w hi3 hlt4 hge5 ⟨hsl,hw,-⟩
 refine slV hsl hw [] ?_; clear hw hsl
 refine ac (ab (mV (k:=mV (k:=sV (q_len_slice rfl underlying43) (k:=sV q_lss (k:=aa ?_))))))
 refine coV (λhb6=>?_) (λhb6=>?_)
 ·
  have hl7:=ilt hb6
  have h:=hlt4 hl7
  refine ag (wc_ (ac (ai (ab (aV (k:=aa (ai ?_)))))))
  refine al h (λ(i9:Nat) (s:Unit) σ w=>match s with | ()=>slots σ [(0,.slice Aa a.length ca),(1,.slice Ab b.length cb),(5,ii (i2:Int)),(6,ii (i9:Int))]∧CC F Γ [] w∧True) ?_ ?_
  ·
   intro w hw
   exact⟨slK,hw,trivial⟩
  rintro f8 i9 ⟨⟩ σ w hi10 hlt11 hge12 ⟨hsl,hw,-⟩
  refine slV hsl hw [] ?_; clear hw hsl
  refine ac (ab (mV (k:=mV (k:=sV (q_len_slice rfl underlying43) (k:=sV q_lss (k:=aa ?_))))))
  refine coV (λhb13=>?_) (λhb13=>?_)
  ·
   have hl14:=ilt hb13
   have h:=hlt11 hl14
   refine ag (wc_ (ac (ai (ac (ac ?_)))))
   refine drV ?_
   refine zV moV (k:=zV moV (k:=zV (q_ixn (i:=i2) underlying43 sizeOf89 rfl rfl rfl hl7 (ha.some_ hl7)) (k:=zV (q_field_addr (i2*5) fld_89_0 rfl rfl (ha.some_ hl7) rfl) (k:=?_))))
   obtain⟨A15,c16,hx17⟩:=ha.verT_at i2
   refine zV (q_lda (c:=0) (vs:=[ii (gt a i2).dot.s,ii (gt a i2).dot.n]) (hx17 hl7).2 rfl isAgg86 sizeOf86 rfl rfl rfl) (k:=zV moV (k:=zV moV (k:=zV (q_ixn (i:=i9) underlying43 sizeOf89 rfl rfl rfl hl14 (hb.some_ hl14)) (k:=zV (q_field_addr (i9*5) fld_89_0 rfl rfl (hb.some_ hl14) rfl) (k:=?_)))))
   obtain⟨A18,c19,hx20⟩:=hb.verT_at i9
   refine zV (q_lda (c:=0) (vs:=[ii (gt b i9).dot.s,ii (gt b i9).dot.n]) (hx20 hl14).2 rfl isAgg86 sizeOf86 rfl rfl rfl) (k:=zV (q_eql_Dot (a:=(gt a i2).dot) (b:=(gt b i9).dot) rfl rfl rfl) (k:=zV moV (k:=wG1 (h:=λhg21=>moV) (k:=wG1 (h:=λhg22=>moV) (k:=wG1 (h:=λhg23=>q_ixn (i:=i2) underlying43 sizeOf89 rfl (grV hg23) (grV hg23) hl7 (ha.some_ hl7)) (k:=wG1 (h:=λhg24=>q_lda (c:=0) (vs:=(Ver.cs A15 c16 (gt a i2))) (hx17 hl7).2 rfl isAgg89 sizeOf89 (grV hg24) rfl rfl) (k:=wG1 (h:=λhg25=>moV) (k:=?_))))))))
   refine wG1 (h:=λhg26=>moV) (k:=wG1 (h:=λhg27=>q_ixn (i:=i9) underlying43 sizeOf89 rfl (grV hg27) (grV hg27) hl14 (hb.some_ hl14)) (k:=wG1 (h:=λhg28=>q_lda (c:=0) (vs:=(Ver.cs A18 c19 (gt b i9))) (hx20 hl14).2 rfl isAgg89 sizeOf89 (grV hg28) rfl rfl) (k:=?_)))
   obtain⟨z30,hz31,h⟩:=bnd h
   refine wC1 (h:=λhg29=>q_call (call_run call45 rfl rfl (args2 (grV hg29) (grV hg29))) (λw hw=>t_firthref05_SameOne (Γ:=Gh.all w) (gt a i2) (Ver.fits_mono (hx17 hl7).1 hw.sat.le_all) (gt b i9) (Ver.fits_mono (hx20 hl14).1 hw.sat.le_all) (Sat.all w) (gc_of hz31 hg29))) (k:=wG1 (h:=λhg32=>q_not rfl (grV hg32)) (k:=zV pkA (k:=?_)))
   refine ao ?_
   change WC _ _ _ _ _ _
   refine ciV h (λhb33 h=>?_) (λhb33 h=>?_)
   ·
    refine ab (aV (k:=aa ?_))
    exact af λw hw=>rq_ r h hF hw
   refine ag (wc_ (ac ?_))
   refine drV ?_
   refine zV moV (k:=zV moV (k:=zV moV (k:=zV (q_add_r rfl rfl rfl (ctr_len hl7 ha.le)) (k:=?_))))
   obtain⟨hk34,h⟩:=chk_some h
   refine zV (q_cut (c:=ca) (lo:=i2) (hi:=i2+1) (xs:=a) underlying43 sizeOf89 rfl rfl rfl rfl (Nat.le_succ _) (of_decide_eq_true hk34) hac) (k:=zV moV (k:=zV moV (k:=zV (q_ixn (i:=i9) underlying43 sizeOf89 rfl rfl rfl hl14 (hb.some_ hl14)) (k:=zV (q_field_addr (i9*5) fld_89_0 rfl rfl (hb.some_ hl14) rfl) (k:=zV (q_lda (c:=0) (vs:=[ii (gt b i9).dot.s,ii (gt b i9).dot.n]) (hx20 hl14).2 rfl isAgg86 sizeOf86 rfl rfl rfl) (k:=?_))))))
   obtain⟨z35,hz36,h⟩:=bnd h
   refine wc rfl rfl rfl (q_call (caV call51) (λw hw=>t_firthref05_Behind (Γ:=Gh.all w) ((ha.cut (cap:=ca) (lo:=i2) (hi:=i2+1) (Nat.le_succ _) (of_decide_eq_true hk34) hac).mono hw.sat.le_all) (cut2_cap hac i2 (i2+1)) ((gt b i9).dot) ⟨(hx20 hl14).1.1,(hx20 hl14).1.2.1⟩ (Sat.all w) hz36)) (zV moV (k:=wG1 (h:=λhg37=>moV) (k:=wG1 (h:=λhg38=>moV) (k:=wG1 (h:=λhg39=>moV) (k:=wG1 (h:=λhg40=>q_add_r (r:=((i9+1:Nat):Int)) rfl (grV hg40) rfl (ctr_len hl14 hb.le)) (k:=?_))))))
   obtain⟨hk42,h⟩:=chk_some h
   refine wG1 (h:=λhg41=>q_cut (c:=cb) (lo:=i9) (hi:=i9+1) (xs:=b) underlying43 sizeOf89 rfl (grV hg41) (grV hg41) (grV hg41) (Nat.le_succ _) (of_decide_eq_true (imp_of hk42 hg41)) hbc) (k:=wG1 (h:=λhg43=>moV) (k:=wG1 (h:=λhg44=>moV) (k:=wG1 (h:=λhg45=>q_ixn (i:=i2) underlying43 sizeOf89 rfl (grV hg45) (grV hg45) hl7 (ha.some_ hl7)) (k:=wG1 (h:=λhg46=>q_field_addr (i2*5) fld_89_0 rfl (grV hg46) (ha.some_ hl7) rfl) (k:=wG1 (h:=λhg47=>q_lda (c:=0) (vs:=[ii (gt a i2).dot.s,ii (gt a i2).dot.n]) (hx17 hl7).2 rfl isAgg86 sizeOf86 (grV hg47) rfl rfl) (k:=?_))))))
   obtain⟨z49,hz50,h⟩:=bnd h
   refine wC1 (h:=λhg48=>q_call (call_run call51 rfl rfl (args2 (grV hg48) (grV hg48))) (λw hw=>t_firthref05_Behind (Γ:=Gh.all w) ((hb.cut (cap:=cb) (lo:=i9) (hi:=i9+1) (Nat.le_succ _) (of_decide_eq_true (imp_of hk42 hg48)) hbc).mono hw.sat.le_all) (cut2_cap hbc i9 (i9+1)) ((gt a i2).dot) ⟨(hx17 hl7).1.1,(hx17 hl7).1.2.1⟩ (Sat.all w) (gc_of hz50 hg48))) (k:=wG1 (h:=λhg51=>q_move (v:=.bool z49) rfl (grV hg51)) (k:=wh0 (c0:=z35) (g:=z49) rfl rfl rfl rfl rfl (λ_=>QV.qo moV) (wh0 (c0:=z35) (g:=z49) rfl rfl rfl rfl rfl (λ_=>QV.qo moV) (wh0 (c0:=z35) (g:=z49) rfl rfl rfl rfl rfl (λhg54=>QV.qo (q_ixn (i:=i9) underlying43 sizeOf89 rfl (grV hg54) (grV hg54) hl14 (hb.some_ hl14))) (wh0 (c0:=z35) (g:=z49) rfl rfl rfl rfl rfl (λhg55=>QV.qo (q_field_addr (i9*5+2) fld_89_1 rfl (grV hg55) (hb.some_ hl14) rfl)) (wh0 (c0:=z35) (g:=z49) rfl rfl rfl rfl rfl (λhg56=>QV.qo (q_ld (c:=2) (v:=.slice A18 ((gt b i9).past).length c19) (hx20 hl14).2 rfl isAgg87 (grV hg56) rfl)) (wh0 (c0:=z35) (g:=z49) rfl rfl rfl rfl rfl (λ_=>QV.qo moV) ?_)))))))
   refine wh0 (c0:=z35) (g:=z49) rfl rfl rfl rfl rfl (λ_=>QV.qo moV) (wh0 (c0:=z35) (g:=z49) rfl rfl rfl rfl rfl (λhg59=>QV.qo (q_ixn (i:=i2) underlying43 sizeOf89 rfl (grV hg59) (grV hg59) hl7 (ha.some_ hl7))) (wh0 (c0:=z35) (g:=z49) rfl rfl rfl rfl rfl (λhg60=>QV.qo (q_field_addr (i2*5+2) fld_89_1 rfl (grV hg60) (ha.some_ hl7) rfl)) (wh0 (c0:=z35) (g:=z49) rfl rfl rfl rfl rfl (λhg61=>QV.qo (q_ld (c:=2) (v:=.slice A15 ((gt a i2).past).length c16) (hx17 hl7).2 rfl isAgg87 (grV hg61) rfl)) ?_)))
   obtain⟨z63,hz64,h⟩:=bnd h
   refine wh0 (c0:=z35) (g:=z49) rfl rfl rfl rfl rfl (λhg62=>(q_call (call_run call52 rfl rfl (args2 (grV hg62) (grV hg62))) (λw hw=>t_firthlaw15_under (Γ:=Gh.all w) ((hx20 hl14).1.2.2.1.2.mono hw.sat.le_all) (hx20 hl14).1.2.2.1.1 ((hx17 hl7).1.2.2.1.2.mono hw.sat.le_all) (hx17 hl7).1.2.2.1.1 (Sat.all w) (gc_of hz64 hg62)))) (wh0 (c0:=z35) (g:=z49) rfl rfl rfl rfl rfl (λhg65=>QV.qo (q_not rfl (grV hg65))) (wG1 (h:=λhg66=>q_pick rfl (grV hg66) (pk_or (c:=z35) (g:=z49) (y:=(!z63)) hg66)) (k:=zV pkA (k:=?_))))
   refine ao ?_
   change WC _ _ _ _ _ _
   refine ciV h (λhb67 h=>?_) (λhb67 h=>?_)
   ·
    refine ab (aV (k:=aa ?_))
    exact af λw hw=>rq_ r h hF hw
   refine ag (wc_ ?_)
   refine ah ?_
   refine mV (k:=sV (q_add_r rfl rfl rfl (ctr_len hl14 hb.le)) (k:=aV (k:=?_)))
   exact ae λw hw=>⟨hl14,(),h,slK,hw,trivial⟩
  have h:=hge12 (ige hb13)
  refine aj ?_
  change WC _ _ _ _ _ _
  refine ah ?_
  refine mV (k:=sV (q_add_r rfl rfl rfl (ctr_len hl7 ha.le)) (k:=aV (k:=?_)))
  exact ae λw hw=>⟨hl7,(),h,slK,hw,trivial⟩
 have h:=hge5 (ige hb6)
 refine aj ?_
 change WC _ _ _ _ _ _
 refine ab (aV (k:=aa ?_))
 exact af λw hw=>rq_ r h hF hw
theorem t_firthlaw15_plain{Alist:Option Addr}{clist:Nat}{list:List Rec}(hlist:Sl recT Γ Alist list)(hlistc:list.length≤clist)(hs:Sat Γ w0){r:Bool}(h:m_firthlaw15_plain list=some r):CQ Tryz.prog 8 #[.slice Alist list.length clist] w0 (.bool r):=by
 refine goQ [2] func8 ntmps8 results8 hs λF hF=>?_
 refine ab (aV (k:=aa (ab (aV (k:=aa (ac (ab ?_)))))))
 refine mV (k:=?_)
 obtain⟨z1,hz2,h⟩:=bnd h
 refine vqV (caV call27) (λw hw=>t_firthlaw15_heavy (Γ:=Gh.all w) (hlist.mono hw.sat.le_all) hlistc (Sat.all w) hz2) (k:=sV q_gtr (k:=aa ?_))
 refine ciV h (λhb3 h=>?_) (λhb3 h=>?_)
 ·
  refine ab (aV (k:=aa ?_))
  exact af λw hw=>rq_ r h hF hw
 refine ag (wc_ (ac (ab (aV (k:=aa (ai ?_))))))
 refine al h (λ(i7:Nat) (n_4:Int) σ w=>slots σ [(0,.slice Alist list.length clist),(3,ii n_4),(4,ii (i7:Int))]∧CC F Γ [] w∧I64 n_4∧True) ?_ ?_
 ·
  intro w hw
  exact⟨slK,hw,iV,trivial⟩
 rintro f6 i7 n_4 σ w hi8 hlt9 hge10 ⟨hsl,hw,hr5,-⟩
 refine slV hsl hw [] ?_; clear hw hsl
 refine ac (ab (mV (k:=mV (k:=sV (q_len_slice rfl underlying22) (k:=sV q_lss (k:=aa ?_))))))
 refine coV (λhb11=>?_) (λhb11=>?_)
 ·
  have hl12:=ilt hb11
  have h:=hlt9 hl12
  refine ag (wc_ (ac (ai (ab (mV (k:=mV (k:=mV (k:=?_))))))))
  refine sV (q_ixn (i:=i7) underlying22 sizeOf45 rfl rfl rfl hl12 (hlist.some_ hl12)) (k:=sV (q_field_addr (i7*2+1) fld_45_1 rfl rfl (hlist.some_ hl12) rfl) (k:=?_))
  obtain⟨A13,c14,hx15⟩:=hlist.recT_at i7
  refine sV (q_ld (c:=1) (v:=.slice A13 ((gt list i7).vers).length c14) (hx15 hl12).2 rfl isAgg43 rfl rfl) (k:=sV (q_len_slice rfl underlying43) (k:=sV q_add (k:=aV (k:=aa (ac (ab (mV (k:=?_))))))))
  refine mV (k:=sV (q_ixn (i:=i7) underlying22 sizeOf45 rfl rfl rfl hl12 (hlist.some_ hl12)) (k:=sV (q_lda (c:=0) (vs:=(Rec.cs A13 c14 (gt list i7))) (hx15 hl12).2 rfl isAgg45 sizeOf45 rfl rfl rfl) (k:=?_)))
  obtain⟨z16,hz17,h⟩:=bnd h
  refine vqV (caV call28) (λw hw=>t_firthref06_RightRec (Γ:=Gh.all w) (gt list i7) (Rec.fits_mono (hx15 hl12).1 hw.sat.le_all) (Sat.all w) hz17) (k:=sV q_not (k:=mV (k:=vG0 (h:=λhg18=>moV) (k:=vG0 (h:=λhg19=>q_gtr rfl (grV hg19)) (k:=sV pkO (k:=aa ?_))))))
  refine ciV h (λhb20 h=>?_) (λhb20 h=>?_)
  ·
   refine ab (aV (k:=aa ?_))
   exact af λw hw=>rq_ r h hF hw
  refine ag (wc_ (ab (aV (k:=aa (ai ?_)))))
  refine al h (λ(i22:Nat) (s:Unit) σ w=>match s with | ()=>slots σ [(0,.slice Alist list.length clist),(3,ii (w64 (n_4+((((gt list i7).vers).length:Nat):Int)))),(4,ii (i7:Int)),(5,ii (i22:Int))]∧CC F Γ [] w∧True) ?_ ?_
  ·
   intro w hw
   exact⟨slK,hw,trivial⟩
  rintro f21 i22 ⟨⟩ σ w hi23 hlt24 hge25 ⟨hsl,hw,-⟩
  refine slV hsl hw [] ?_; clear hw hsl
  refine ac (ab (mV (k:=mV (k:=sV (q_len_slice rfl underlying22) (k:=sV q_lss (k:=aa ?_))))))
  refine coV (λhb26=>?_) (λhb26=>?_)
  ·
   have hl27:=ilt hb26
   have h:=hlt24 hl27
   refine ag (wc_ (ac (ai (ac ?_))))
   refine drV ?_
   refine zV moV (k:=zV moV (k:=zV (q_ixn (i:=i7) underlying22 sizeOf45 rfl rfl rfl hl12 (hlist.some_ hl12)) (k:=zV (q_field_addr (i7*2) fld_45_0 rfl rfl (hlist.some_ hl12) rfl) (k:=?_))))
   obtain⟨A28,c29,hx30⟩:=hlist.recT_at i7
   refine zV (q_ld (c:=0) (v:=.string (gt list i7).key) (hx30 hl12).2 rfl isAgg9 rfl rfl) (k:=zV moV (k:=zV moV (k:=zV (q_ixn (i:=i22) underlying22 sizeOf45 rfl rfl rfl hl27 (hlist.some_ hl27)) (k:=zV (q_field_addr (i22*2) fld_45_0 rfl rfl (hlist.some_ hl27) rfl) (k:=?_)))))
   obtain⟨A31,c32,hx33⟩:=hlist.recT_at i22
   refine zV (q_ld (c:=0) (v:=.string (gt list i22).key) (hx33 hl27).2 rfl isAgg9 rfl rfl) (k:=zV q_seql (k:=zV moV (k:=wG1 (h:=λhg34=>moV) (k:=wG1 (h:=λhg35=>moV) (k:=wG1 (h:=λhg36=>q_ixn (i:=i7) underlying22 sizeOf45 rfl (grV hg36) (grV hg36) hl12 (hlist.some_ hl12)) (k:=wG1 (h:=λhg37=>q_field_addr (i7*2+1) fld_45_1 rfl (grV hg37) (hlist.some_ hl12) rfl) (k:=wG1 (h:=λhg38=>q_ld (c:=1) (v:=.slice A28 ((gt list i7).vers).length c29) (hx30 hl12).2 rfl isAgg43 (grV hg38) rfl) (k:=?_))))))))
   refine wG1 (h:=λhg39=>moV) (k:=wG1 (h:=λhg40=>moV) (k:=wG1 (h:=λhg41=>q_ixn (i:=i22) underlying22 sizeOf45 rfl (grV hg41) (grV hg41) hl27 (hlist.some_ hl27)) (k:=wG1 (h:=λhg42=>q_field_addr (i22*2+1) fld_45_1 rfl (grV hg42) (hlist.some_ hl27) rfl) (k:=wG1 (h:=λhg43=>q_ld (c:=1) (v:=.slice A31 ((gt list i22).vers).length c32) (hx33 hl27).2 rfl isAgg43 (grV hg43) rfl) (k:=?_)))))
   obtain⟨z45,hz46,h⟩:=bnd h
   refine wC1 (h:=λhg44=>q_call (call_run call29 rfl rfl (args2 (grV hg44) (grV hg44))) (λw hw=>t_firthlaw15_written (Γ:=Gh.all w) ((hx30 hl12).1.2.2.mono hw.sat.le_all) (hx30 hl12).1.2.1 ((hx33 hl27).1.2.2.mono hw.sat.le_all) (hx33 hl27).1.2.1 (Sat.all w) (gc_of hz46 hg44))) (k:=wG1 (h:=λhg47=>q_not rfl (grV hg47)) (k:=zV pkA (k:=?_)))
   refine ao ?_
   change WC _ _ _ _ _ _
   refine ciV h (λhb48 h=>?_) (λhb48 h=>?_)
   ·
    refine ab (aV (k:=aa ?_))
    exact af λw hw=>rq_ r h hF hw
   refine ag (wc_ ?_)
   refine ah ?_
   refine mV (k:=sV (q_add_r rfl rfl rfl (ctr_len hl27 hlist.le)) (k:=aV (k:=?_)))
   exact ae λw hw=>⟨hl27,(),h,slK,hw,trivial⟩
  have h:=hge25 (ige hb26)
  refine aj ?_
  change WC _ _ _ _ _ _
  refine ah ?_
  refine mV (k:=sV (q_add_r rfl rfl rfl (ctr_len hl12 hlist.le)) (k:=aV (k:=?_)))
  exact ae λw hw=>⟨hl12,(w64 (n_4+((((gt list i7).vers).length:Nat):Int))),h,slK,hw,(w64_r _),trivial⟩
 have h:=hge10 (ige hb11)
 refine aj ?_
 change WC _ _ _ _ _ _
 refine ab (aV (k:=aa ?_))
 exact af λw hw=>rq_ r h hF hw
theorem t_firthref05_Same{Aa:Option Addr}{ca:Nat}{a:List Ver}(ha:Sl verT Γ Aa a)(hac:a.length≤ca){Ab:Option Addr}{cb:Nat}{b:List Ver}(hb:Sl verT Γ Ab b)(hbc:b.length≤cb)(hs:Sat Γ w0){r:Bool}(h:m_firthref05_Same a b=some r):CQ Tryz.prog 17 #[.slice Aa a.length ca,.slice Ab b.length cb] w0 (.bool r):=by
 refine goQ [4] func17 ntmps17 results17 hs λF hF=>?_
 refine ab (aV (k:=aa (ac (ab (mV (k:=sV (q_len_slice rfl underlying43) (k:=mV (k:=?_))))))))
 refine sV (q_len_slice rfl underlying43) (k:=sV q_neq (k:=aa ?_))
 refine ciV h (λhb1 h=>?_) (λhb1 h=>?_)
 ·
  refine ab (aV (k:=aa ?_))
  exact af λw hw=>rq_ r h hF hw
 refine ag (wc_ (ac (ab (aV (k:=aa (ai ?_))))))
 refine al h (λ(i3:Nat) (s:Unit) σ w=>match s with | ()=>slots σ [(0,.slice Aa a.length ca),(1,.slice Ab b.length cb),(5,ii (i3:Int))]∧CC F Γ [] w∧True) ?_ ?_
 ·
  intro w hw
  exact⟨slK,hw,trivial⟩
 rintro f2 i3 ⟨⟩ σ w hi4 hlt5 hge6 ⟨hsl,hw,-⟩
 refine slV hsl hw [] ?_; clear hw hsl
 refine ac (ab (mV (k:=mV (k:=sV (q_len_slice rfl underlying43) (k:=sV q_lss (k:=aa ?_))))))
 refine coV (λhb7=>?_) (λhb7=>?_)
 ·
  have hl8:=ilt hb7
  have h:=hlt5 hl8
  refine ag (wc_ (ac (ai (ac ?_))))
  refine drV ?_
  refine zV moV (k:=zV moV (k:=zV (q_ixn (i:=i3) underlying43 sizeOf89 rfl rfl rfl hl8 (ha.some_ hl8)) (k:=?_)))
  obtain⟨A9,c10,hx11⟩:=ha.verT_at i3
  refine zV (q_lda (c:=0) (vs:=(Ver.cs A9 c10 (gt a i3))) (hx11 hl8).2 rfl isAgg89 sizeOf89 rfl rfl rfl) (k:=zV moV (k:=zV moV (k:=?_)))
  obtain⟨hk12,h⟩:=chk_some h
  refine zV (q_ixn (i:=i3) underlying43 sizeOf89 rfl rfl rfl (of_decide_eq_true hk12) (hb.some_ (of_decide_eq_true hk12))) (k:=?_)
  obtain⟨A13,c14,hx15⟩:=hb.verT_at i3
  refine zV (q_lda (c:=0) (vs:=(Ver.cs A13 c14 (gt b i3))) (hx15 (of_decide_eq_true hk12)).2 rfl isAgg89 sizeOf89 rfl rfl rfl) (k:=?_)
  obtain⟨z16,hz17,h⟩:=bnd h
  refine wc rfl rfl rfl (q_call (caV call45) (λw hw=>t_firthref05_SameOne (Γ:=Gh.all w) (gt a i3) (Ver.fits_mono (hx11 hl8).1 hw.sat.le_all) (gt b i3) (Ver.fits_mono (hx15 (of_decide_eq_true hk12)).1 hw.sat.le_all) (Sat.all w) hz17)) (zV q_not (k:=?_))
  refine ao ?_
  change WC _ _ _ _ _ _
  refine ciV h (λhb18 h=>?_) (λhb18 h=>?_)
  ·
   refine ab (aV (k:=aa ?_))
   exact af λw hw=>rq_ r h hF hw
  refine ag (wc_ ?_)
  refine ah ?_
  refine mV (k:=sV (q_add_r rfl rfl rfl (ctr_len hl8 ha.le)) (k:=aV (k:=?_)))
  exact ae λw hw=>⟨hl8,(),h,slK,hw,trivial⟩
 have h:=hge6 (ige hb7)
 refine aj ?_
 change WC _ _ _ _ _ _
 refine ab (aV (k:=aa ?_))
 exact af λw hw=>rq_ r h hF hw
theorem t_firthref06_SameRecs{Aa:Option Addr}{ca:Nat}{a:List Rec}(ha:Sl recT Γ Aa a)(hac:a.length≤ca){Ab:Option Addr}{cb:Nat}{b:List Rec}(hb:Sl recT Γ Ab b)(hbc:b.length≤cb)(hs:Sat Γ w0){r:Bool}(h:m_firthref06_SameRecs a b=some r):CQ Tryz.prog 19 #[.slice Aa a.length ca,.slice Ab b.length cb] w0 (.bool r):=by
 refine goQ [4] func19 ntmps19 results19 hs λF hF=>?_
 refine ab (aV (k:=aa (ac (ab (mV (k:=sV (q_len_slice rfl underlying22) (k:=mV (k:=?_))))))))
 refine sV (q_len_slice rfl underlying22) (k:=sV q_neq (k:=aa ?_))
 refine ciV h (λhb1 h=>?_) (λhb1 h=>?_)
 ·
  refine ab (aV (k:=aa ?_))
  exact af λw hw=>rq_ r h hF hw
 refine ag (wc_ (ac (ab (aV (k:=aa (ai ?_))))))
 refine al h (λ(i3:Nat) (s:Unit) σ w=>match s with | ()=>slots σ [(0,.slice Aa a.length ca),(1,.slice Ab b.length cb),(5,ii (i3:Int))]∧CC F Γ [] w∧True) ?_ ?_
 ·
  intro w hw
  exact⟨slK,hw,trivial⟩
 rintro f2 i3 ⟨⟩ σ w hi4 hlt5 hge6 ⟨hsl,hw,-⟩
 refine slV hsl hw [] ?_; clear hw hsl
 refine ac (ab (mV (k:=mV (k:=sV (q_len_slice rfl underlying22) (k:=sV q_lss (k:=aa ?_))))))
 refine coV (λhb7=>?_) (λhb7=>?_)
 ·
  have hl8:=ilt hb7
  have h:=hlt5 hl8
  refine ag (wc_ (ac (ai (ac ?_))))
  refine drV ?_
  refine zV moV (k:=zV moV (k:=zV (q_ixn (i:=i3) underlying22 sizeOf45 rfl rfl rfl hl8 (ha.some_ hl8)) (k:=zV (q_field_addr (i3*2) fld_45_0 rfl rfl (ha.some_ hl8) rfl) (k:=?_))))
  obtain⟨A9,c10,hx11⟩:=ha.recT_at i3
  refine zV (q_ld (c:=0) (v:=.string (gt a i3).key) (hx11 hl8).2 rfl isAgg9 rfl rfl) (k:=zV moV (k:=zV moV (k:=?_)))
  obtain⟨hk12,h⟩:=chk_some h
  refine zV (q_ixn (i:=i3) underlying22 sizeOf45 rfl rfl rfl (of_decide_eq_true hk12) (hb.some_ (of_decide_eq_true hk12))) (k:=zV (q_field_addr (i3*2) fld_45_0 rfl rfl (hb.some_ (of_decide_eq_true hk12)) rfl) (k:=?_))
  obtain⟨A13,c14,hx15⟩:=hb.recT_at i3
  refine zV (q_ld (c:=0) (v:=.string (gt b i3).key) (hx15 (of_decide_eq_true hk12)).2 rfl isAgg9 rfl rfl) (k:=zV q_sneq (k:=zV moV (k:=wG0 (h:=λhg16=>moV) (k:=wG0 (h:=λhg17=>moV) (k:=wG0 (h:=λhg18=>q_ixn (i:=i3) underlying22 sizeOf45 rfl (grV hg18) (grV hg18) hl8 (ha.some_ hl8)) (k:=wG0 (h:=λhg19=>q_field_addr (i3*2+1) fld_45_1 rfl (grV hg19) (ha.some_ hl8) rfl) (k:=wG0 (h:=λhg20=>q_ld (c:=1) (v:=.slice A9 ((gt a i3).vers).length c10) (hx11 hl8).2 rfl isAgg43 (grV hg20) rfl) (k:=?_))))))))
  refine wG0 (h:=λhg21=>moV) (k:=wG0 (h:=λhg22=>moV) (k:=wG0 (h:=λhg23=>q_ixn (i:=i3) underlying22 sizeOf45 rfl (grV hg23) (grV hg23) (of_decide_eq_true hk12) (hb.some_ (of_decide_eq_true hk12))) (k:=wG0 (h:=λhg24=>q_field_addr (i3*2+1) fld_45_1 rfl (grV hg24) (hb.some_ (of_decide_eq_true hk12)) rfl) (k:=wG0 (h:=λhg25=>q_ld (c:=1) (v:=.slice A13 ((gt b i3).vers).length c14) (hx15 (of_decide_eq_true hk12)).2 rfl isAgg43 (grV hg25) rfl) (k:=?_)))))
  obtain⟨z27,hz28,h⟩:=bnd h
  refine wC0 (h:=λhg26=>q_call (call_run call17 rfl rfl (args2 (grV hg26) (grV hg26))) (λw hw=>t_firthref05_Same (Γ:=Gh.all w) ((hx11 hl8).1.2.2.mono hw.sat.le_all) (hx11 hl8).1.2.1 ((hx15 (of_decide_eq_true hk12)).1.2.2.mono hw.sat.le_all) (hx15 (of_decide_eq_true hk12)).1.2.1 (Sat.all w) (gc_of hz28 hg26))) (k:=wG0 (h:=λhg29=>q_not rfl (grV hg29)) (k:=zV pkO (k:=?_)))
  refine ao ?_
  change WC _ _ _ _ _ _
  refine ciV h (λhb30 h=>?_) (λhb30 h=>?_)
  ·
   refine ab (aV (k:=aa ?_))
   exact af λw hw=>rq_ r h hF hw
  refine ag (wc_ ?_)
  refine ah ?_
  refine mV (k:=sV (q_add_r rfl rfl rfl (ctr_len hl8 ha.le)) (k:=aV (k:=?_)))
  exact ae λw hw=>⟨hl8,(),h,slK,hw,trivial⟩
 have h:=hge6 (ige hb7)
 refine aj ?_
 change WC _ _ _ _ _ _
 refine ab (aV (k:=aa ?_))
 exact af λw hw=>rq_ r h hF hw
abbrev r_disk_Disk_Crash(gd:Nat)(ed:Nat)(r:Odisk_Disk)(U:List Rowb)(Γ:Gh)(v:Value):Prop := ∃(rowd':Rowb),v = .tuple #[]∧U = [rowd']∧Odisk_Disk.ob ed Γ gd rowd' r∧True
theorem t_disk_Disk_Crash{gd ed:Nat}{rowd:Rowb}{d:Odisk_Disk}(hd:Odisk_Disk.ob ed Γ gd rowd d)(keep:Int)(hkeep:I64 keep)(torn:Int)(htorn:I64 torn)(hp:Pre [rowd] Γ w0){r:Odisk_Disk}(h:m_disk_Disk_Crash d keep torn=some r):Calls Tryz.prog 25 #[(pq gd),ii keep,ii torn] w0 (Outc Γ [rowd] w0 (r_disk_Disk_Crash gd ed r)):=by
 refine goV [] func25 ntmps25 results25 hp λF hF=>?_
 refine ab (mV (k:=sV q_max (k:=mV (k:=sV nlV (k:=sV (q_fl 3 fld_67_3) (k:=?_))))))
 obtain⟨m1_1,r1_1,m2_1,r2_1,A3_1,c3_1,r3_1,hrow_1,ho0_1,ho1_1,ho2_1,ho3_1,-⟩:=id hd
 refine ufR 0 hrow_1 [_,_,_,_] ?_
 refine sV (ldV 0 isAgg65) (k:=sV (q_len_slice rfl underlying65) (k:=sV q_min (k:=aV (k:=aa (ac (ab (mV (k:=?_))))))))
 refine sV nlV (k:=sV (q_fl 3 fld_67_3) (k:=sV (ldV 0 isAgg65) (k:=mV (k:=?_))))
 have hc6:=ho3_1.capz
 refine seR 3 [_,_,_,_] λΓ2 hl3 hr4=>?_
 have hs5:=ho3_1.sl hl3 hr4
 obtain⟨hk7,h⟩:=chk_some h
 refine sV (q_cut_to (c:=c3_1) (hi:=(min (max keep 0) (d.loose.length:Int)).toNat) (xs:=d.loose) underlying65 sizeOf96 rfl rfl (inle_eq rfl hk7) (inle_le hk7) hc6) (k:=sV (q_len_slice rfl underlying65) (k:=mV (k:=aa (ai ?_))))
 refine al h (λ(i14:Nat) (m10:List (ByteArray×(List UInt8))) σ w => ∃(Γ8:Gh), ∃(row11:Rowb),slots σ [(0,(pq gd)),(1,ii (min (max keep 0) (d.loose.length:Int))),(2,ii torn),(23,.slice A3_1 (List.take ((min (max keep 0) (d.loose.length:Int)).toNat) d.loose).length c3_1),(24,ii (((List.take ((min (max keep 0) (d.loose.length:Int)).toNat) d.loose).length:Nat):Int)),(25,ii (i14:Int))]∧CC F Γ8 [[(gd,.cells #[ii d.room,.map (some m1_1),.map (some m2_1),.slice A3_1 d.loose.length c3_1] ed (0,0))],row11,r2_1] w∧Gh.le Γ2 Γ8∧MapO (strK underlying9) (slT byteT).v Γ8 row11 m1_1 m10∧True) ?_ ?_
 ·
  intro w hw
  exact⟨Γ2,r1_1,slK,(hw.on [0,0,0]),gR,(ho1_1.mono hl3),trivial⟩
 rintro f13 i14 m10 σ w hi15 hlt16 hge17 ⟨Γ8,row11,hsl,hw,hl9,ho12,-⟩
 refine slV hsl hw [_,_,_] ?_; clear hw hsl
 refine ab (sV q_lss (k:=aa (ac ?_)))
 refine coV (λhb18=>?_) (λhb18=>?_)
 ·
  have hl19:=ilt hb18
  have h:=hlt16 hl19
  refine ag (wc_ (ac (ai (ab (sV (q_ixn (i:=i14) underlying65 sizeOf96 rfl rfl rfl hl19 (((hs5.mono hl9).cut_to (hi:=(min (max keep 0) (d.loose.length:Int)).toNat) (inle_le hk7)).some_ hl19)) (k:=?_))))))
  obtain⟨A20,c21,A22,c23,hx24⟩:=((hs5.mono hl9).cut_to (hi:=(min (max keep 0) (d.loose.length:Int)).toNat) (inle_le hk7)).ddisk_changeT_at i14
  refine sV (q_lda (c:=0) (vs:=[(Cdisk_change_do.val ((gt (List.take ((min (max keep 0) (d.loose.length:Int)).toNat) d.loose) i14).do_) A20 c21),.string (gt (List.take ((min (max keep 0) (d.loose.length:Int)).toNat) d.loose) i14).name,.slice A22 ((gt (List.take ((min (max keep 0) (d.loose.length:Int)).toNat) d.loose) i14).tail).length c23]) (hx24 hl19).2 rfl isAgg96 sizeOf96 rfl rfl rfl) (k:=?_)
  refine alV zeroValue96 λg25=>?_
  refine stV 0 (.agg #[(Cdisk_change_do.val ((gt (List.take ((min (max keep 0) (d.loose.length:Int)).toNat) d.loose) i14).do_) A20 c21),.string (gt (List.take ((min (max keep 0) (d.loose.length:Int)).toNat) d.loose) i14).name,.slice A22 ((gt (List.take ((min (max keep 0) (d.loose.length:Int)).toNat) d.loose) i14).tail).length c23]) #[(Cdisk_change_do.val ((gt (List.take ((min (max keep 0) (d.loose.length:Int)).toNat) d.loose) i14).do_) A20 c21),.string (gt (List.take ((min (max keep 0) (d.loose.length:Int)).toNat) d.loose) i14).name,.slice A22 ((gt (List.take ((min (max keep 0) (d.loose.length:Int)).toNat) d.loose) i14).tail).length c23] sizeOf96 (k:=aa ?_)
  refine leV λh026=>?_
  refine held_ (CC F Γ8 [[(g25,.cells #[(Cdisk_change_do.val ((gt (List.take ((min (max keep 0) (d.loose.length:Int)).toNat) d.loose) i14).do_) A20 c21),.string (gt (List.take ((min (max keep 0) (d.loose.length:Int)).toNat) d.loose) i14).name,.slice A22 ((gt (List.take ((min (max keep 0) (d.loose.length:Int)).toNat) d.loose) i14).tail).length c23] 96 (0,0))],[(gd,.cells #[ii d.room,.map (some m1_1),.map (some m2_1),.slice A3_1 d.loose.length c3_1] ed (0,0))]]) (bo_ [0,0] gR h026) λk=>?_
  change WH _ _ _ _ (CC F Γ8 [_,_,_,_]) _ 7 _ _
  refine hV 0 k (q:=q_fl 0 fld_96_0) (k:=hV 1 k (q:=ldV 0 isAgg94) (k:=hV 2 k (q:=moV) (k:=hV 3 k (q:=nlV) (k:=hV 4 k (q:=q_fl 1 fld_67_1) (k:=hV 5 k (q:=ldV 1 isAgg64) (k:=wl_ 6 rfl ?_))))))
  obtain⟨z27,hz28,h⟩:=bnd h
  obtain⟨fd29,cp30,hv31,he32,hcl33⟩:=t_call_Cdisk_change_do (x:=(gt (List.take ((min (max keep 0) (d.loose.length:Int)).toNat) d.loose) i14).do_) (hx24 hl19).1.1 ho12 hz28
  refine ecV [2] (call_run_fv (caps:=cp30) (args:=#[.map (some m1_1)]++cp30) he32 rfl (Eq.trans (b:=(Cdisk_change_do.val ((gt (List.take ((min (max keep 0) (d.loose.length:Int)).toNat) d.loose) i14).do_) A20 c21)) (by kernel_rfl) hv31) (by kernel_rfl)) (λw hp=>(by exact hcl33 w hp)) ?_
  rintro Γ34 _ _ hl35 ⟨row38,rfl,rfl,hr39,_⟩
  refine cwV 35 [_,_,_,_] ?_
  refine ae (nxV (bo_ [1,1] hl35 h026) λk=>?_)
  refine am (by kernel_rfl) ?_
  change WC _ _ _ _ _ _
  refine ah ?_
  refine sV (q_add_r rfl rfl rfl (ctr_len hl19 ((hs5.mono hl9).cut_to (hi:=(min (max keep 0) (d.loose.length:Int)).toNat) (inle_le hk7)).le)) (k:=mV (k:=?_))
  exact ae λw hw=>⟨hl19,z27,h,Γ34,row38,slK,(hw.on [2,0,1]),(hl9.trans hl35),hr39,trivial⟩
 have h:=hge17 (ige hb18)
 refine aj ?_
 change WC _ _ _ _ _ _
 refine ar (λσ w => ∃(m42:List (ByteArray×(List UInt8))), ∃(Γ40:Gh), ∃(row43:Rowb),m_disk_Disk_Crash_j2 d m42=some r∧slots σ [(0,(pq gd))]∧CC F Γ40 [[(gd,.cells #[ii d.room,.map (some m1_1),.map (some m2_1),.slice A3_1 d.loose.length c3_1] ed (0,0))],row43,r2_1] w∧Gh.le Γ8 Γ40∧MapO (strK underlying9) (slT byteT).v Γ40 row43 m1_1 m42∧True) ?_ ?_
 ·
  refine ab (mV (k:=mV (k:=sV nlV (k:=sV (q_fl 3 fld_67_3) (k:=sV (ldV 0 isAgg65) (k:=sV (q_len_slice rfl underlying65) (k:=sV q_lss (k:=?_))))))))
  refine aa ?_
  refine ciV h (λhb45 h=>?_) (λhb45 h=>?_)
  ·
   refine ab (mV (k:=sV nlV (k:=sV (q_fl 3 fld_67_3) (k:=sV (ldV 0 isAgg65) (k:=mV (k:=?_))))))
   obtain⟨hk46,h⟩:=chk_some h
   refine sV (q_ix underlying65 sizeOf96 rfl rfl rfl hk46 ((hs5.mono hl9).some_ (inb_lt hk46))) (k:=?_)
   obtain⟨A47,c48,A49,c50,hx51⟩:=(hs5.mono hl9).ddisk_changeT_at ((min (max keep 0) (d.loose.length:Int)).toNat)
   refine sV (q_lda (c:=0) (vs:=[(Cdisk_change_do.val ((gt d.loose ((min (max keep 0) (d.loose.length:Int)).toNat)).do_) A47 c48),.string (gt d.loose ((min (max keep 0) (d.loose.length:Int)).toNat)).name,.slice A49 ((gt d.loose ((min (max keep 0) (d.loose.length:Int)).toNat)).tail).length c50]) (hx51 (inb_lt hk46)).2 rfl isAgg96 sizeOf96 rfl rfl rfl) (k:=?_)
   refine alV zeroValue96 λg52=>?_
   refine stV 0 (.agg #[(Cdisk_change_do.val ((gt d.loose ((min (max keep 0) (d.loose.length:Int)).toNat)).do_) A47 c48),.string (gt d.loose ((min (max keep 0) (d.loose.length:Int)).toNat)).name,.slice A49 ((gt d.loose ((min (max keep 0) (d.loose.length:Int)).toNat)).tail).length c50]) #[(Cdisk_change_do.val ((gt d.loose ((min (max keep 0) (d.loose.length:Int)).toNat)).do_) A47 c48),.string (gt d.loose ((min (max keep 0) (d.loose.length:Int)).toNat)).name,.slice A49 ((gt d.loose ((min (max keep 0) (d.loose.length:Int)).toNat)).tail).length c50] sizeOf96 (k:=aa (ab (mV (k:=sV q_max (k:=sV (q_fl 2 fld_96_2) (k:=sV (ldV 0 isAgg77) (k:=sV (q_len_slice rfl underlying77) (k:=?_))))))))
   refine sV q_min (k:=aV (k:=aa (ab (mV (k:=sV q_gtr (k:=aa ?_))))))
   refine ciV h (λhb53 h=>?_) (λhb53 h=>?_)
   ·
    refine leV λh054=>?_
    refine held_ (CC F Γ8 [[(g52,.cells #[(Cdisk_change_do.val ((gt d.loose ((min (max keep 0) (d.loose.length:Int)).toNat)).do_) A47 c48),.string (gt d.loose ((min (max keep 0) (d.loose.length:Int)).toNat)).name,.slice A49 ((gt d.loose ((min (max keep 0) (d.loose.length:Int)).toNat)).tail).length c50] 96 (0,0))],[(gd,.cells #[ii d.room,.map (some m1_1),.map (some m2_1),.slice A3_1 d.loose.length c3_1] ed (0,0))]]) (bo_ [0,0] gR h054) λk=>?_
    change WH _ _ _ _ (CC F Γ8 [_,_,_,_]) _ 12 _ _
    refine hV 0 k (q:=q_fl 1 fld_96_1) (k:=hV 1 k (q:=ldV 0 isAgg9) (k:=hV 2 k (q:=q_fl 2 fld_96_2) (k:=hV 3 k (q:=ldV 0 isAgg77) (k:=hV 4 k (q:=moV) (k:=?_)))))
    obtain⟨hk55,h⟩:=chk_some h
    refine hV 5 k (q:=q_cut_to (c:=c50) (hi:=(min (max torn 0) ((((gt d.loose ((min (max keep 0) (d.loose.length:Int)).toNat)).tail).length:Nat):Int)).toNat) (xs:=((gt d.loose ((min (max keep 0) (d.loose.length:Int)).toNat)).tail)) underlying77 sizeOf5 rfl rfl (inle_eq rfl hk55) (inle_le hk55) (hx51 (inb_lt hk46)).1.2.2.1) (k:=hV 7 k (q:=moV) (k:=hV 8 k (q:=nlV) (k:=hV 9 k (q:=q_fl 1 fld_67_1) (k:=hV 10 k (q:=ldV 1 isAgg64) (k:=wl_ 6 rfl ?_)))))
    obtain⟨z56,hz57,h⟩:=bnd h
    refine ecV [] (caV call48) (λw hp=>t_disk_add ((gt d.loose ((min (max keep 0) (d.loose.length:Int)).toNat)).name) (hx51 (inb_lt hk46)).1.2.1 ((hx51 (inb_lt hk46)).1.2.2.2.cut_to (hi:=(min (max torn 0) ((((gt d.loose ((min (max keep 0) (d.loose.length:Int)).toNat)).tail).length:Nat):Int)).toNat) (inle_le hk55)) (take_cap (hx51 (inb_lt hk46)).1.2.2.1 ((min (max torn 0) ((((gt d.loose ((min (max keep 0) (d.loose.length:Int)).toNat)).tail).length:Nat):Int)).toNat)) hp hz57) ?_
    rintro Γ58 _ _ hl59 ⟨A62,c63,rfl,rfl,hr64,_⟩
    refine cwV 65 [_,_,_,_] ?_
    refine ae (nxV (bo_ [0,0] hl59 h054) λk=>?_)
    refine wl_ 11 rfl ?_
    obtain⟨z65,hz66,h⟩:=bnd h
    obtain⟨fd67,cp68,hv69,he70,hcl71⟩:=t_call_Cdisk_change_do (x:=z56) hr64 (ho12.mono hl59) hz66
    refine ecV [2] (call_run_fv (caps:=cp68) (args:=#[.map (some m1_1)]++cp68) he70 rfl (Eq.trans (b:=(Cdisk_change_do.val z56 A62 c63)) (by kernel_rfl) hv69) (by kernel_rfl)) (λw hp=>(by exact hcl71 w hp)) ?_
    rintro Γ72 _ _ hl73 ⟨row76,rfl,rfl,hr77,_⟩
    refine cwV 70 [_,_,_,_] ?_
    refine ae (nxV (bo_ [1,1] (hl59.trans hl73) h054) λk=>?_)
    refine am (by kernel_rfl) ?_
    intro w hw
    exact⟨z65,Γ72,row76,h,slK,(hw.on [2,0,1]),(hl59.trans hl73),hr77,trivial⟩
   exact ag λw hw=>⟨m10,Γ8,row11,h,slK,(hw.on [1,1,1]),gR,ho12,trivial⟩
  exact ag λw hw=>⟨m10,Γ8,row11,h,slK,hw,gR,ho12,trivial⟩
 rintro σ w ⟨m42,Γ40,row43,h,hsl,hw,hl41,ho44,-⟩
 refine slV hsl hw [_,_,_] ?_; clear hw hsl
 refine ab (mV (k:=mV (k:=sV nlV (k:=sV (q_fl 1 fld_67_1) (k:=sV (ldV 0 isAgg64) (k:=?_))))))
 refine e_clone clone49 (i:=1) rfl ho44 rfl rfl (caV call49) ?_
 intro g78 row79 hm80
 refine cwV 76 [_,_,_,_] (sV nlV (k:=sV (q_fl 2 fld_67_2) (k:=stV 1 (.map (some g78)) #[ii d.room,.map (some m1_1),.map (some g78),.slice A3_1 d.loose.length c3_1] sizeOf64 (k:=aa ?_))))
 refine ah ?_
 refine mV (k:=sV nlV (k:=sV (q_fl 3 fld_67_3) (k:=stV 1 (.slice none 0 0) #[ii d.room,.map (some m1_1),.map (some g78),.slice none 0 0] sizeOf65 (k:=?_))))
 refine ae ?_
 intro w hw
 have hw:=hw.pad
 obtain⟨row_81,hrow_81,hob_81⟩:∃rw:Rowb,rw=([[(gd,.cells #[ii d.room,.map (some m1_1),.map (some g78),.slice none 0 0] ed (0,0))],row43,row79,[]]:List Rowb).flatten∧Odisk_Disk.ob ed Γ40 gd rw (⟨d.room,m42,m42,[]⟩:Odisk_Disk):=⟨_,rfl,m1_1,row43,g78,row79,none,0,[],rfl,ho0_1,ho44,hm80,(Own.nil ddisk_changeT Γ40 96),trivial⟩
 have hw:=hw.fold (is:=[2,2,1,0]) rfl hrow_81
 cases h
 subst hF
 exact end_e (is:=[0]) (by kernel_rfl) hw rfl ⟨row_81,rfl,rfl,hob_81,trivial⟩
theorem t_firthlaw15_NodeHints{Alist:Option Addr}{clist:Nat}{list:List Rec}(hlist:Sl recT Γ Alist list)(hlistc:list.length≤clist)(lost:Int)(hlost:U8 lost)(fate0:Int)(hfate0:I64 fate0)(fate1:Int)(hfate1:I64 fate1)(hs:Sat Γ w0){r:Bool}(h:m_firthlaw15_NodeHints list lost fate0 fate1=some r):CQ Tryz.prog 6 #[.slice Alist list.length clist,.int .u8 lost,.agg #[ii fate0,ii fate1]] w0 (.bool r):=by
 refine goQ [6] func6 ntmps6 results6 hs λF hF=>?_
 refine ab ?_
 refine bxV (v:=.agg #[ii fate0,ii fate1]) λg1=>?_
 refine aV (k:=aa (ac (ab ?_)))
 obtain⟨z2,hz3,h⟩:=bnd h
 refine vqV (caV call7) (λw hw=>t_firthlaw15_awake (Γ:=Gh.all w)  (Sat.all w) hz3) (k:=sV q_not (k:=mV (k:=vG0 (h:=λhg4=>moV) (k:=?_))))
 obtain⟨z6,hz7,h⟩:=bnd h
 refine vC0 (h:=λhg5=>q_call (call_run call8 rfl rfl (args1 (grV hg5))) (λw hw=>t_firthlaw15_plain (Γ:=Gh.all w) (hlist.mono hw.sat.le_all) hlistc (Sat.all w) (gc_of hz7 hg5))) (k:=vG0 (h:=λhg8=>q_not rfl (grV hg8)) (k:=sV pkO (k:=aa ?_)))
 refine ciV h (λhb9 h=>?_) (λhb9 h=>?_)
 ·
  refine ab ?_
  obtain⟨z10,hz11,h⟩:=bnd h
  refine vqV (caV call7) (λw hw=>t_firthlaw15_awake (Γ:=Gh.all w)  (Sat.all w) hz11) (k:=aV (k:=aa ?_))
  exact af λw hw=>rq_ r h hF hw
 refine ag (wc_ (ab ?_))
 obtain⟨z12,hz13,h⟩:=bnd h
 refine ecV [] (caV call9) (λw hp=>t_disk_New 16777216 iV hp hz13) ?_
 rintro Γ14 _ _ hl15 ⟨g18,row19,rfl,rfl,hr20,_⟩
 refine cwV 27 [_,_] (aV (k:=aa (ab (mV (k:=?_)))))
 obtain⟨z21,hz22,h⟩:=bnd h
 refine vqV (caV call11) (λw hw=>t_firthlaw15_at (Γ:=Gh.all w) 1 iV (Sat.all w) hz22) (k:=?_)
 obtain⟨hk23,h⟩:=chk_some h
 obtain⟨hk24,h⟩:=chk_some h
 obtain⟨z25,hz26,h⟩:=bnd h
 refine ecV [0] (caV call10) (λw hp=>t_node_Open hr20 z21 ⟨(i64b_of hk23),(i64b_of hk24)⟩ 500 iV 3 iV hp hz26) ?_
 rintro Γ27 _ _ hl28 ⟨row31,g33,row34,rfl,rfl,hr32,hr35,hr36,_⟩
 refine cwV 31 [_,_,_] (mV (k:=sV exV (k:=sV exV (k:=aU (v:=optp z25.2.1 g33) (k:=aV (k:=aa (ab ?_)))))))
 obtain⟨z37,hz38,h⟩:=bnd h
 refine ecV [] (caV call9) (λw hp=>t_disk_New 16777216 iV hp hz38) ?_
 rintro Γ39 _ _ hl40 ⟨g43,row44,rfl,rfl,hr45,_⟩
 refine cwV 35 [_,_,_,_] ?_
 obtain⟨z46,hz47,h⟩:=bnd h
 refine vqV (caV call11) (λw hw=>t_firthlaw15_at (Γ:=Gh.all w) 4 iV (Sat.all w) hz47) (k:=?_)
 obtain⟨hk48,h⟩:=chk_some h
 obtain⟨hk49,h⟩:=chk_some h
 obtain⟨z50,hz51,h⟩:=bnd h
 refine ecV [0] (caV call10) (λw hp=>t_node_Open hr45 z46 ⟨(i64b_of hk48),(i64b_of hk49)⟩ 500 iV 3 iV hp hz51) ?_
 rintro Γ52 _ _ hl53 ⟨row56,g58,row59,rfl,rfl,hr57,hr60,hr61,_⟩
 refine cwV 37 [_,_,_,_,_] (mV (k:=sV exV (k:=sV exV (k:=aU (v:=optp z50.2.1 g58) (k:=aV (k:=aa (ac ?_)))))))
 refine ab (mU (v:=optp z25.2.1 g33) (k:=sV (q_opt_eql underlying27 rfl rfl rfl) (k:=mV (k:=vG0 (h:=λhg62=>q_move (v:=optp z50.2.1 g58) rfl (by kernel_rfl)) (k:=vG0 (h:=λhg63=>q_opt_eql underlying27 rfl (grV hg63) rfl) (k:=sV pkO (k:=mV (k:=?_))))))))
 refine vG0 (h:=λhg64=>moV) (k:=vG0 (h:=λhg65=>q_neq rfl (grV hg65)) (k:=sV pkO (k:=mV (k:=vG0 (h:=λhg66=>moV) (k:=vG0 (h:=λhg67=>q_neq rfl (grV hg67)) (k:=sV pkO (k:=aa ?_)))))))
 refine ciV h (λhb68 h=>?_) (λhb68 h=>?_)
 ·
  refine ab (aV (k:=aa ?_))
  exact af λw hw=>rq_ r h hF hw
 obtain⟨z69,hz70,h⟩:=bnd h
 have ho71:=optob_some hr60 hz70
 obtain⟨z72,hz73,h⟩:=bnd h
 have ho74:=optob_some (optob_mono hr35 (λ_ h=>h.mono (hl40.trans hl53))) hz73
 refine ag (wc_ (ab (mV (k:=?_))))
 obtain⟨z75,hz76,h⟩:=bnd h
 refine ecV [] (caV call14) (λw hp=>t_firthlaw15_put 1 iV (hlist.mono (((hl15.trans hl28).trans hl40).trans hl53)) hlistc hp hz76) ?_
 rintro Γ77 _ _ hl78 ⟨A81,c82,A83,c84,A85,c86,A87,c88,A89,c90,rfl,rfl,hr91,_⟩
 refine cwV 55 [_,_,_,_,_] ?_
 refine alV zeroValue40 λg92=>?_
 refine stV 0 (.agg (Dapi_Msg.cs A81 c82 A83 c84 A85 c86 A87 c88 A89 c90 z75).toArray) (Dapi_Msg.cs A81 c82 A83 c84 A85 c86 A87 c88 A89 c90 z75).toArray sizeOf40 (k:=aa (ab (sV (q_fl 7 fld_40_5) (k:=stV 0 (ii 4) #[ii z75.kind,ii z75.from_.site,ii z75.from_.node,ii z75.to_.site,ii z75.to_.node,ii z75.id,ii z75.n,ii 4,ii z75.code,.string z75.key,.slice A81 z75.recs.length c82,.slice A83 z75.vec.length c84,.slice A85 z75.path.length c86,.slice A87 z75.hashes.length c88,.slice A89 z75.route.length c90] sizeOf3 (k:=aa (ac (ab ?_)))))))
 refine sV (q_move (v:=(pq g33)) rfl (optp_some rfl hz73)) (k:=sV (ldaV 0 [ii z75.kind,ii z75.from_.site,ii z75.from_.node,ii z75.to_.site,ii z75.to_.node,ii z75.id,ii z75.n,ii 4,ii z75.code,.string z75.key,.slice A81 z75.recs.length c82,.slice A83 z75.vec.length c84,.slice A85 z75.path.length c86,.slice A87 z75.hashes.length c88,.slice A89 z75.route.length c90] isAgg40 sizeOf40) (k:=?_))
 obtain⟨z93,hz94,h⟩:=bnd h
 refine ecV [4,3] (caV call13) (λw hp=>t_node_Node_Handle (ho74.mono hl78) (⟨z75.kind,(⟨z75.from_.site,z75.from_.node⟩:Adr),(⟨z75.to_.site,z75.to_.node⟩:Adr),z75.id,z75.n,4,z75.code,z75.key,z75.recs,z75.vec,z75.path,z75.hashes,z75.route⟩:Dapi_Msg) ⟨hr91.1,hr91.2.1,hr91.2.2.1,hr91.2.2.2.1,hr91.2.2.2.2.1,hr91.2.2.2.2.2.1,hr91.2.2.2.2.2.2.1,iV,hr91.2.2.2.2.2.2.2.2.1,hr91.2.2.2.2.2.2.2.2.2.1,⟨hr91.2.2.2.2.2.2.2.2.2.2.1.1,hr91.2.2.2.2.2.2.2.2.2.2.1.2⟩,⟨hr91.2.2.2.2.2.2.2.2.2.2.2.1.1,hr91.2.2.2.2.2.2.2.2.2.2.2.1.2⟩,⟨hr91.2.2.2.2.2.2.2.2.2.2.2.2.1.1,hr91.2.2.2.2.2.2.2.2.2.2.2.2.1.2⟩,⟨hr91.2.2.2.2.2.2.2.2.2.2.2.2.2.1.1,hr91.2.2.2.2.2.2.2.2.2.2.2.2.2.1.2⟩,⟨hr91.2.2.2.2.2.2.2.2.2.2.2.2.2.2.1,hr91.2.2.2.2.2.2.2.2.2.2.2.2.2.2.2⟩⟩ (hr32.mono ((hl40.trans hl53).trans hl78)) hp hz94) ?_
 rintro Γ95 _ _ hl96 ⟨row99,row101,A103,c104,row105,rfl,rfl,hr100,hr102,hr106,_⟩
 refine cwV 59 [_,_,_,_,_,_,_] (sV (q_len_slice rfl underlying34) (k:=sV q_neq (k:=mV (k:=vG0 (h:=λhg107=>q_move (v:=(pq g33)) rfl (optp_some rfl hz73)) (k:=?_)))))
 refine(Bool.eq_false_or_eq_true (!((z93.2.2.length:Int) != 0))).elim (λhb108=>?_) (λhb108=>?_)
 ·
  have h:=bt hb108 h
  refine WR.sat (c0:=true) (g:=((z93.2.2.length:Int) != 0)) rfl rfl rfl hb108 ?_
  obtain⟨z109,hz110,h⟩:=bnd h
  refine ecV [0] (call_run call15 rfl rfl (args2 (grV hb108) rfl)) (λw hp=>t_node_Node_Recs hr100 (-1) iV hp hz110) ?_
  rintro Γ111 _ _ hl112 ⟨A115,c116,row117,rfl,rfl,hr118,_⟩
  refine cwV 64 [_,_,_,_,_,_,_,_] ?_
  refine WR.sat (c0:=true) (g:=((z93.2.2.length:Int) != 0)) rfl rfl rfl hb108 ?_
  refine sV (q_len_slice rfl underlying22) (k:=?_)
  refine WR.sat (c0:=true) (g:=((z93.2.2.length:Int) != 0)) rfl rfl rfl hb108 ?_
  refine sV q_neq (k:=sV (q_pick_f (v:=.bool ((z109.length:Int) != 0)) rfl rfl (not_t hb108) (by kernel_rfl)) (k:=aa ?_))
  refine ciV h (λhb119 h=>?_) (λhb119 h=>?_)
  ·
   refine ab (aV (k:=aa ?_))
   exact af λw hw=>rq_ r h hF hw
  refine ag (wc_ (ab (sV (q_move (v:=(pq g33)) rfl (optp_some rfl hz73)) (k:=?_))))
  obtain⟨z120,hz121,h⟩:=bnd h
  refine ecV [0] (caV call24) (λw hp=>t_node_Node_Hints (hr100.mono hl112) 4 iV hp hz121) ?_
  rintro Γ122 _ _ hl123 ⟨A126,c127,row128,rfl,rfl,hr129,_⟩
  refine cwV 69 [_,_,_,_,_,_,_,_,_] (aV (k:=aa (ac (ab (aV (k:=aa (ai ?_)))))))
  refine ax h (λ(i146:Nat) (s:(Option Onode_Node)×Odisk_Disk×Odisk_Disk×Onode_Node) σ w=>match s with | (o132,o136,o139,o142) => ∃(Γ130:Gh), ∃(g133:Nat), ∃(row134:Rowb), ∃(row137:Rowb), ∃(row140:Rowb), ∃(row143:Rowb),slots σ [(1,.int .u8 lost),(5,(pq g1)),(7,(pq g18)),(8,optp o132 g133),(10,optp z50.2.1 g58),(13,.slice A126 z120.length c127),(14,ii (i146:Int))]∧CC F Γ130 [row134,row128,row137,row140,row143,[(g1,.cells #[ii fate0,ii fate1] 56 (0,0))]] w∧Gh.le Γ122 Γ130∧optob (Onode_Node.ob (74,g18) Γ130 g133) row134 o132∧Odisk_Disk.ob 67 Γ130 g18 row137 o136∧Odisk_Disk.ob 67 Γ130 g43 row140 o139∧Onode_Node.ob (74,g43) Γ130 g58 row143 o142∧True) ?_ ?_
  ·
   intro w hw
   have hc147:optp z25.2.1 g33=(pq g33):=optp_some rfl hz73
   rw [hc147]
   have hc148:optp z50.2.1 g58=(pq g58):=optp_some rfl hz70
   rw [hc148]
   exact⟨Γ122,g33,row99,row101,row56,row59,slK,(hw.on [0,0,1,3,3,3]),gR,(hr100.mono (hl112.trans hl123)),(hr102.mono (hl112.trans hl123)),(hr57.mono (((hl78.trans hl96).trans hl112).trans hl123)),(ho71.mono (((hl78.trans hl96).trans hl112).trans hl123)),trivial⟩
  rintro f145 i146 ⟨o132,o136,o139,o142⟩ σ w hi149 hlt150 hge151 ⟨Γ130,g133,row134,row137,row140,row143,hsl,hw,hl131,ho135,ho138,ho141,ho144,-⟩
  refine slV hsl hw [_,_,_,_,_,_] ?_; clear hw hsl
  refine ac (ab (mV (k:=sV q_lss (k:=aa ?_))))
  refine coV (λhb152=>?_) (λhb152=>?_)
  ·
   have hl153:=ilt hb152
   have h:=hlt150 hl153; try unfold m_firthlaw15_NodeHints_b181 at h
   refine ag (wc_ (ac (ai (ab (mV (k:=sV (q_ixa_ (0) underlying56 sizeOf3 rfl rfl rfl rfl rfl) (k:=sV (ldV 5 isAgg3) (k:=?_))))))))
   refine sV (q_ixa_ (1) underlying56 sizeOf3 rfl rfl rfl rfl rfl) (k:=sV (ldV 5 isAgg3) (k:=?_))
   obtain⟨z154,hz155,h⟩:=bnd h
   refine ecV [2] (caV call25) (λw hp=>t_disk_Disk_Crash ho138 fate0 hfate0 fate1 hfate1 hp hz155) ?_
   rintro Γ156 _ _ hl157 ⟨row160,rfl,rfl,hr161,_⟩
   refine cwV 79 [_,_,_,_,_,_] (aa (ab (mV (k:=?_))))
   obtain⟨z162,hz163,h⟩:=bnd h
   refine vqV (caV call11) (λw hw=>t_firthlaw15_at (Γ:=Gh.all w) 1 iV (Sat.all w) hz163) (k:=?_)
   obtain⟨hk164,h⟩:=chk_some h
   obtain⟨hk165,h⟩:=chk_some h
   obtain⟨z166,hz167,h⟩:=bnd h
   refine ecV [0] (caV call10) (λw hp=>t_node_Open hr161 z162 ⟨(i64b_of hk164),(i64b_of hk165)⟩ 500 iV 3 iV hp hz167) ?_
   rintro Γ168 _ _ hl169 ⟨row172,g174,row175,rfl,rfl,hr173,hr176,hr177,_⟩
   refine cwV 83 [_,_,_,_,_,_,_] (mV (k:=sV exV (k:=sV exV (k:=aU (v:=optp z166.2.1 g174) (k:=aV (k:=aa (ac ?_)))))))
   refine ab (mU (v:=optp z166.2.1 g174) (k:=sV (q_opt_eql underlying27 rfl rfl rfl) (k:=mV (k:=vG0 (h:=λhg178=>moV) (k:=vG0 (h:=λhg179=>q_neq rfl (grV hg179)) (k:=sV pkO (k:=aa ?_)))))))
   refine ciV h (λhb180 h=>?_) (λhb180 h=>?_)
   ·
    refine ab (aV (k:=aa ?_))
    exact af λw hw=>rq_ r h hF hw
   obtain⟨z181,hz182,h⟩:=bnd h
   have ho183:=optob_some hr176 hz182
   refine ag (wc_ (ab (sV (q_move (v:=(pq g174)) rfl (optp_some rfl hz182)) (k:=?_))))
   obtain⟨z184,hz185,h⟩:=bnd h
   refine ecV [1] (caV call21) (λw hp=>t_node_Node_Tick ho183 hp hz185) ?_
   rintro Γ186 _ _ hl187 ⟨A190,c191,row192,rfl,rfl,hr193,_⟩
   refine cwV 93 [_,_,_,_,_,_,_,_] (aV (k:=aa (ab (aV (k:=aa (ai ?_))))))
   refine al h (λ(i209:Nat) (s:Onode_Node×Odisk_Disk×Odisk_Disk×Onode_Node) σ w=>match s with | (o196,o199,o202,o205) => ∃(Γ194:Gh), ∃(row197:Rowb), ∃(row200:Rowb), ∃(row203:Rowb), ∃(row206:Rowb),slots σ [(1,.int .u8 lost),(5,(pq g1)),(7,(pq g18)),(8,optp z166.2.1 g174),(10,optp z50.2.1 g58),(13,.slice A126 z120.length c127),(14,ii (i146:Int)),(15,.slice A190 z184.length c191),(16,ii (i209:Int))]∧CC F Γ194 [row197,row192,row200,row128,row203,row206,[(g1,.cells #[ii fate0,ii fate1] 56 (0,0))]] w∧Gh.le Γ186 Γ194∧Onode_Node.ob (74,g18) Γ194 g174 row197 o196∧Odisk_Disk.ob 67 Γ194 g18 row200 o199∧Odisk_Disk.ob 67 Γ194 g43 row203 o202∧Onode_Node.ob (74,g43) Γ194 g58 row206 o205∧True) ?_ ?_
   ·
    intro w hw
    exact⟨Γ186,row175,row172,row140,row143,slK,(hw.on [0,0,0,1,1,1,1]),gR,(ho183.mono hl187),(hr173.mono hl187),(ho141.mono ((hl157.trans hl169).trans hl187)),(ho144.mono ((hl157.trans hl169).trans hl187)),trivial⟩
   rintro f208 i209 ⟨o196,o199,o202,o205⟩ σ w hi210 hlt211 hge212 ⟨Γ194,row197,row200,row203,row206,hsl,hw,hl195,ho198,ho201,ho204,ho207,-⟩
   refine slV hsl hw [_,_,_,_,_,_,_] ?_; clear hw hsl
   refine ac (ab (mV (k:=mV (k:=sV (q_len_slice rfl underlying34) (k:=sV q_lss (k:=aa ?_))))))
   refine coV (λhb213=>?_) (λhb213=>?_)
   ·
    have hl214:=ilt hb213
    have h:=hlt211 hl214; try unfold m_firthlaw15_NodeHints_b215 at h
    refine ag (wc_ ?_)
    refine ar (λσ w => ∃(o217:Onode_Node), ∃(o220:Odisk_Disk), ∃(o223:Odisk_Disk), ∃(o226:Onode_Node), ∃(Γ215:Gh), ∃(row218:Rowb), ∃(row221:Rowb), ∃(row224:Rowb), ∃(row227:Rowb),m_firthlaw15_NodeHints_j216 f208 o217 o220 o223 o226=some r∧slots σ [(1,.int .u8 lost),(5,(pq g1)),(7,(pq g18)),(8,optp z166.2.1 g174),(10,optp z50.2.1 g58),(13,.slice A126 z120.length c127),(14,ii (i146:Int)),(15,.slice A190 z184.length c191),(16,ii (i209:Int))]∧CC F Γ215 [row218,row192,row221,row128,row224,row227,[(g1,.cells #[ii fate0,ii fate1] 56 (0,0))]] w∧Gh.le Γ194 Γ215∧Onode_Node.ob (74,g18) Γ215 g174 row218 o217∧Odisk_Disk.ob 67 Γ215 g18 row221 o220∧Odisk_Disk.ob 67 Γ215 g43 row224 o223∧Onode_Node.ob (74,g43) Γ215 g58 row227 o226∧True) ?_ ?_
    ·
     refine ai (ac (ac ?_))
     refine drV ?_
     refine zV moV (k:=zV moV (k:=zV (q_ixn (i:=i209) underlying34 sizeOf40 rfl rfl rfl hl214 ((hr193.mono hl195).some_ hl214)) (k:=zV (q_field_addr (i209*15+3) fld_40_2 rfl rfl ((hr193.mono hl195).some_ hl214) rfl) (k:=?_))))
     obtain⟨A229,c230,A231,c232,A233,c234,A235,c236,A237,c238,hx239⟩:=(hr193.mono hl195).dapi_MsgT_at i209
     refine zV (q_ldoa (c:=3) (vs:=[ii (gt z184 i209).to_.site,ii (gt z184 i209).to_.node]) (i:=1) rfl (hx239 hl214).2 rfl isAgg32 sizeOf32 rfl rfl) (k:=?_)
     obtain⟨z240,hz241,h⟩:=bnd h
     refine wc rfl rfl rfl (q_call (caV call11) (λw hw=>t_firthlaw15_at (Γ:=Gh.all w) 4 iV (Sat.all w) hz241)) (zV (q_neq_Adr (a:=(gt z184 i209).to_) (b:=z240) rfl rfl rfl) (k:=zV moV (k:=wG0 (h:=λhg242=>moV) (k:=wG0 (h:=λhg243=>q_eql rfl (grV hg243)) (k:=wG0 (h:=λhg244=>q_move (v:=.bool ((i146:Int)==0)) rfl (grV hg244)) (k:=wh1 (c0:=(!((gt z184 i209).to_ != z240))) (g:=((i146:Int)==0)) rfl rfl rfl rfl rfl (λ_=>QV.qo moV) (wh1 (c0:=(!((gt z184 i209).to_ != z240))) (g:=((i146:Int)==0)) rfl rfl rfl rfl rfl (λ_=>QV.qo moV) ?_)))))))
     refine wh1 (c0:=(!((gt z184 i209).to_ != z240))) (g:=((i146:Int)==0)) rfl rfl rfl rfl rfl (λhg247=>QV.qo (q_conv underlying58 underlying3 rfl (grV hg247))) (wh1 (c0:=(!((gt z184 i209).to_ != z240))) (g:=((i146:Int)==0)) rfl rfl rfl rfl rfl (λhg248=>QV.qo (q_rem rfl (grV hg248) rfl (by decide))) ?_)
     obtain⟨hk250,h⟩:=chk_some h
     refine wh1 (c0:=(!((gt z184 i209).to_ != z240))) (g:=((i146:Int)==0)) rfl rfl rfl rfl rfl (λhg249=>QV.qo (q_shr rfl (grV hg249) (grV hg249) (imp_of hk250 hg249))) (wh1 (c0:=(!((gt z184 i209).to_ != z240))) (g:=((i146:Int)==0)) rfl rfl rfl rfl rfl (λhg251=>QV.qo (q_and rfl (grV hg251))) (wh1 (c0:=(!((gt z184 i209).to_ != z240))) (g:=((i146:Int)==0)) rfl rfl rfl rfl rfl (λhg252=>QV.qo (q_eql rfl (grV hg252))) (wG0 (h:=λhg253=>q_pick rfl (grV hg253) (pk_and (c:=(!((gt z184 i209).to_ != z240))) (g:=((i146:Int)==0)) (y:=((iand .u8 (ishr .u8 lost ((wu64 (i209:Int)).tmod 8)) 1)==1)) hg253)) (k:=zV pkO (k:=?_)))))
     refine ao ?_
     change WC _ _ _ _ _ _
     refine ciV h (λhb254 h=>?_) (λhb254 h=>?_)
     ·
      exact aj λw hw=>⟨o196,o199,o202,o205,Γ194,row197,row200,row203,row206,h,slK,hw,gR,ho198,ho201,ho204,ho207,trivial⟩
     refine ag (wc_ (ab (sV (q_move (v:=(pq g58)) rfl (optp_some rfl hz70)) (k:=mV (k:=mV (k:=sV (q_ixn (i:=i209) underlying34 sizeOf40 rfl rfl rfl hl214 ((hr193.mono hl195).some_ hl214)) (k:=sV (q_ldoa (c:=0) (vs:=(Dapi_Msg.cs A229 c230 A231 c232 A233 c234 A235 c236 A237 c238 (gt z184 i209))) (i:=1) rfl (hx239 hl214).2 rfl isAgg40 sizeOf40 rfl rfl) (k:=?_))))))))
     obtain⟨z255,hz256,h⟩:=bnd h
     refine ecV [5,4] (caV call13) (λw hp=>t_node_Node_Handle ho207 (gt z184 i209) (hx239 hl214).1 ho204 hp hz256) ?_
     rintro Γ257 _ _ hl258 ⟨row261,row263,A265,c266,row267,rfl,rfl,hr262,hr264,hr268,_⟩
     refine cwV 125 [_,_,_,_,_,_,_,_] (aV (k:=aa (ab (aV (k:=aa (ai ?_))))))
     refine al h (λ(i278:Nat) (s:Onode_Node×Odisk_Disk) σ w=>match s with | (o271,o274) => ∃(Γ269:Gh), ∃(row272:Rowb), ∃(row275:Rowb),slots σ [(1,.int .u8 lost),(5,(pq g1)),(7,(pq g18)),(8,optp z166.2.1 g174),(10,optp z50.2.1 g58),(13,.slice A126 z120.length c127),(14,ii (i146:Int)),(15,.slice A190 z184.length c191),(16,ii (i209:Int)),(17,.slice A265 z255.2.2.length c266),(18,ii (i278:Int))]∧CC F Γ269 [row261,row263,row267,row272,row192,row275,row128,[(g1,.cells #[ii fate0,ii fate1] 56 (0,0))]] w∧Gh.le Γ257 Γ269∧Onode_Node.ob (74,g18) Γ269 g174 row272 o271∧Odisk_Disk.ob 67 Γ269 g18 row275 o274∧True) ?_ ?_
     ·
      intro w hw
      exact⟨Γ257,row197,row200,slK,hw,gR,(ho198.mono hl258),(ho201.mono hl258),trivial⟩
     rintro f277 i278 ⟨o271,o274⟩ σ w hi279 hlt280 hge281 ⟨Γ269,row272,row275,hsl,hw,hl270,ho273,ho276,-⟩
     refine slV hsl hw [_,_,_,_,_,_,_,_] ?_; clear hw hsl
     refine ac (ab (mV (k:=mV (k:=sV (q_len_slice rfl underlying34) (k:=sV q_lss (k:=aa ?_))))))
     refine coV (λhb282=>?_) (λhb282=>?_)
     ·
      have hl283:=ilt hb282
      have h:=hlt280 hl283; try unfold m_firthlaw15_NodeHints_b225 at h
      refine ag (wc_ ?_)
      refine ar (λσ w => ∃(o286:Onode_Node), ∃(o289:Odisk_Disk), ∃(Γ284:Gh), ∃(row287:Rowb), ∃(row290:Rowb),m_firthlaw15_NodeHints_j226 f277 o286 o289=some r∧slots σ [(1,.int .u8 lost),(5,(pq g1)),(7,(pq g18)),(8,optp z166.2.1 g174),(10,optp z50.2.1 g58),(13,.slice A126 z120.length c127),(14,ii (i146:Int)),(15,.slice A190 z184.length c191),(16,ii (i209:Int)),(17,.slice A265 z255.2.2.length c266),(18,ii (i278:Int))]∧CC F Γ284 [row261,row263,row267,row287,row192,row290,row128,[(g1,.cells #[ii fate0,ii fate1] 56 (0,0))]] w∧Gh.le Γ269 Γ284∧Onode_Node.ob (74,g18) Γ284 g174 row287 o286∧Odisk_Disk.ob 67 Γ284 g18 row290 o289∧True) ?_ ?_
      ·
       refine ai (ab (mV (k:=sV q_gtr (k:=mV (k:=vG0 (h:=λhg292=>moV) (k:=vG0 (h:=λhg293=>moV) (k:=vG0 (h:=λhg294=>q_add_r (r:=((i209+1:Nat):Int)) rfl (grV hg294) rfl (ctr_len hl214 (hr193.mono hl195).le)) (k:=?_))))))))
       refine vG0 (h:=λhg295=>q_conv underlying58 underlying3 rfl (grV hg295)) (k:=vG0 (h:=λhg296=>q_rem rfl (grV hg296) rfl (by decide)) (k:=?_))
       obtain⟨hk298,h⟩:=chk_some h
       refine vG0 (h:=λhg297=>q_shr rfl (grV hg297) (grV hg297) (imp_of hk298 hg297)) (k:=vG0 (h:=λhg299=>q_and rfl (grV hg299)) (k:=vG0 (h:=λhg300=>q_eql rfl (grV hg300)) (k:=sV pkO (k:=aa ?_))))
       refine ciV h (λhb301 h=>?_) (λhb301 h=>?_)
       ·
        refine ah ?_
        refine sV (q_move (v:=(pq g174)) rfl (optp_some rfl hz182)) (k:=mV (k:=mV (k:=sV (q_ixn (i:=i278) underlying34 sizeOf40 rfl rfl rfl hl283 ((hr268.mono hl270).some_ hl283)) (k:=?_))))
        obtain⟨A302,c303,A304,c305,A306,c307,A308,c309,A310,c311,hx312⟩:=(hr268.mono hl270).dapi_MsgT_at i278
        refine sV (q_ldoa (c:=0) (vs:=(Dapi_Msg.cs A302 c303 A304 c305 A306 c307 A308 c309 A310 c311 (gt z255.2.2 i278))) (i:=2) rfl (hx312 hl283).2 rfl isAgg40 sizeOf40 rfl rfl) (k:=?_)
        obtain⟨z313,hz314,h⟩:=bnd h
        refine ecV [3,4] (caV call13) (λw hp=>t_node_Node_Handle ho273 (gt z255.2.2 i278) (hx312 hl283).1 ho276 hp hz314) ?_
        rintro Γ315 _ _ hl316 ⟨row319,row321,A323,c324,row325,rfl,rfl,hr320,hr322,hr326,_⟩
        refine cwV 149 [_,_,_,_,_,_,_,_,_] ?_
        exact ae λw hw=>⟨z313.1,z313.2.1,Γ315,row319,row321,h,slK,(hw.on [3,3,3,0,2,0,1,1]),hl316,hr320,hr322,trivial⟩
       exact ag λw hw=>⟨o271,o274,Γ269,row272,row275,h,slK,hw,gR,ho273,ho276,trivial⟩
      rintro σ w ⟨o286,o289,Γ284,row287,row290,h,hsl,hw,hl285,ho288,ho291,-⟩
      refine slV hsl hw [_,_,_,_,_,_,_,_] ?_; clear hw hsl
      refine ah ?_
      refine mV (k:=sV (q_add_r rfl rfl rfl (ctr_len hl283 (hr268.mono hl270).le)) (k:=aV (k:=?_)))
      exact ae λw hw=>⟨hl283,(o286,o289),h,Γ284,row287,row290,slK,hw,(hl270.trans hl285),ho288,ho291,trivial⟩
     have h:=hge281 (ige hb282)
     exact aj λw hw=>⟨o271,o274,z255.2.1,z255.1,Γ269,row272,row275,row263,row261,h,slK,(hw.on [3,3,3,3,1,0,1]),(hl258.trans hl270),ho273,ho276,(hr264.mono hl270),(hr262.mono hl270),trivial⟩
    rintro σ w ⟨o217,o220,o223,o226,Γ215,row218,row221,row224,row227,h,hsl,hw,hl216,ho219,ho222,ho225,ho228,-⟩
    refine slV hsl hw [_,_,_,_,_,_,_] ?_; clear hw hsl
    refine ah ?_
    refine mV (k:=sV (q_add_r rfl rfl rfl (ctr_len hl214 (hr193.mono hl195).le)) (k:=aV (k:=?_)))
    exact ae λw hw=>⟨hl214,(o217,o220,o223,o226),h,Γ215,row218,row221,row224,row227,slK,hw,(hl195.trans hl216),ho219,ho222,ho225,ho228,trivial⟩
   have h:=hge212 (ige hb213)
   refine aj ?_
   change WC _ _ _ _ _ _
   refine ah ?_
   refine mV (k:=sV (q_add_r rfl rfl rfl (ctr_lit hl153 (by decide))) (k:=aV (k:=?_)))
   refine ae ?_
   intro w hw
   have hc327:optp z166.2.1 g174=(pq g174):=optp_some rfl hz182
   rw [hc327]
   have hc328:optp z50.2.1 g58=(pq g58):=optp_some rfl hz70
   rw [hc328]
   exact⟨hl153,((some o196),o199,o202,o205),h,Γ194,g174,row197,row200,row203,row206,slK,(hw.on [0,2,1,1,1,1]),((((hl131.trans hl157).trans hl169).trans hl187).trans hl195),ho198,ho201,ho204,ho207,trivial⟩
  have h:=hge151 (ige hb152)
  refine aj ?_
  change WC _ _ _ _ _ _
  refine ab (mU (v:=optp o132 g133) (k:=?_))
  obtain⟨z329,hz330,h⟩:=bnd h
  have ho331:=optob_some ho135 hz330
  obtain⟨z332,hz333,h⟩:=bnd h
  refine ecV [0] (call_run call24 rfl rfl (args2 (optp_some rfl hz330) rfl)) (λw hp=>t_node_Node_Hints ho331 4 iV hp hz333) ?_
  rintro Γ334 _ _ hl335 ⟨A338,c339,row340,rfl,rfl,hr341,_⟩
  refine cwV 151 [_,_,_,_,_,_,_] (sV (q_len_slice rfl underlying22) (k:=sV q_eql (k:=mV (k:=vG1 (h:=λhg342=>q_move (v:=(pq g133)) rfl (optp_some rfl hz330)) (k:=?_)))))
  refine(Bool.eq_false_or_eq_true ((z332.length:Int)==0)).elim (λhb343=>?_) (λhb343=>?_)
  ·
   have h:=bt hb343 h
   refine WR.sat (c0:=true) (g:=((z332.length:Int)==0)) rfl rfl rfl hb343 ?_
   obtain⟨z344,hz345,h⟩:=bnd h
   refine ecV [0] (call_run call21 rfl rfl (args1 (grV hb343))) (λw hp=>t_node_Node_Tick (ho331.mono hl335) hp hz345) ?_
   rintro Γ346 _ _ hl347 ⟨A350,c351,row352,rfl,rfl,hr353,_⟩
   refine cwV 156 [_,_,_,_,_,_,_,_] ?_
   refine WR.sat (c0:=true) (g:=((z332.length:Int)==0)) rfl rfl rfl hb343 ?_
   refine sV (q_len_slice rfl underlying34) (k:=?_)
   refine WR.sat (c0:=true) (g:=((z332.length:Int)==0)) rfl rfl rfl hb343 ?_
   refine sV q_eql (k:=sV (q_pick_t (v:=.bool ((z344.length:Int)==0)) rfl rfl hb343 (by kernel_rfl)) (k:=mV (k:=vG1 (h:=λhg354=>q_move (v:=(pq g58)) rfl (optp_some rfl hz70)) (k:=?_))))
   refine(Bool.eq_false_or_eq_true ((z344.length:Int)==0)).elim (λhb355=>?_) (λhb355=>?_)
   ·
    have h:=bt hb355 h
    refine WR.sat (c0:=true) (g:=((z344.length:Int)==0)) rfl rfl rfl hb355 ?_
    obtain⟨z356,hz357,h⟩:=bnd h
    refine ecV [6] (call_run call15 rfl rfl (args2 (grV hb355) rfl)) (λw hp=>t_node_Node_Recs (ho144.mono (hl335.trans hl347)) (-1) iV hp hz357) ?_
    rintro Γ358 _ _ hl359 ⟨A362,c363,row364,rfl,rfl,hr365,_⟩
    refine cwV 162 [_,_,_,_,_,_,_,_,_] ?_
    refine WR.sat (c0:=true) (g:=((z344.length:Int)==0)) rfl rfl rfl hb355 ?_
    refine mV (k:=?_)
    refine WR.sat (c0:=true) (g:=((z344.length:Int)==0)) rfl rfl rfl hb355 ?_
    obtain⟨z366,hz367,h⟩:=bnd h
    refine vqV (caV call19) (λw hw=>t_firthref06_SameRecs (Γ:=Gh.all w) (hr365.sl hw.sat.le_all (hw.ra 1 rfl)) hr365.capz ((hr129.mono (((hl131.trans hl335).trans hl347).trans hl359)).sl hw.sat.le_all (hw.ra 5 rfl)) (hr129.mono (((hl131.trans hl335).trans hl347).trans hl359)).capz (Sat.all w) hz367) (k:=sV (q_pick_t (v:=.bool z366) rfl rfl hb355 (by kernel_rfl)) (k:=aV (k:=aa ?_)))
    exact af λw hw=>rq_ r h hF hw
   have h:=bf hb355 h
   refine av (c0:=true) (g:=((z344.length:Int)==0)) rfl rfl rfl hb355 rfl ?_
   refine av (c0:=true) (g:=((z344.length:Int)==0)) rfl rfl rfl hb355 rfl ?_
   refine av (c0:=true) (g:=((z344.length:Int)==0)) rfl rfl rfl hb355 rfl ?_
   refine sV (q_pick_f (v:=.bool false) rfl rfl hb355 (by kernel_rfl)) (k:=aV (k:=aa ?_))
   exact af λw hw=>rq_ r h hF hw
  have h:=bf hb343 h
  refine av (c0:=true) (g:=((z332.length:Int)==0)) rfl rfl rfl hb343 rfl ?_
  refine av (c0:=true) (g:=((z332.length:Int)==0)) rfl rfl rfl hb343 rfl ?_
  refine av (c0:=true) (g:=((z332.length:Int)==0)) rfl rfl rfl hb343 rfl ?_
  refine sV (q_pick_f (v:=.bool false) rfl rfl hb343 (by kernel_rfl)) (k:=mV (k:=?_))
  refine av (c0:=true) (g:=false) rfl rfl rfl rfl rfl ?_
  refine av (c0:=true) (g:=false) rfl rfl rfl rfl rfl ?_
  refine av (c0:=true) (g:=false) rfl rfl rfl rfl rfl ?_
  refine av (c0:=true) (g:=false) rfl rfl rfl rfl rfl ?_
  refine sV (q_pickf (v:=.bool false) rfl rfl rfl) (k:=aV (k:=aa ?_))
  exact af λw hw=>rq_ r h hF hw
 have h:=bf hb108 h
 refine av (c0:=true) (g:=((z93.2.2.length:Int) != 0)) rfl rfl rfl hb108 rfl ?_
 refine av (c0:=true) (g:=((z93.2.2.length:Int) != 0)) rfl rfl rfl hb108 rfl ?_
 refine av (c0:=true) (g:=((z93.2.2.length:Int) != 0)) rfl rfl rfl hb108 rfl ?_
 refine sV (q_pick_t (v:=.bool true) rfl rfl (not_f hb108) (by kernel_rfl)) (k:=aa ?_)
 refine WC.ctk (b:=true) (by kernel_rfl) rfl ?_
 refine ab (aV (k:=aa ?_))
 exact af λw hw=>rq_ r h hF hw
end Fw
end Go.Proofs.YtckindfllegbgaaGreat
