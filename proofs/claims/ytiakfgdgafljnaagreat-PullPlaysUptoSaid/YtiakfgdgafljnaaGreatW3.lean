/- Walks through the functions that the law reaches (printed by a program). No condition. -/
import Derived.Test.YtiakfgdgafljnaaGreatW2
namespace Go.Proofs.YtiakfgdgafljnaaGreat
namespace Fw
set_option linter.unusedVariables false
set_option linter.unusedSimpArgs false
set_option linter.unusedSectionVars false
set_option maxRecDepth 100000
set_option maxHeartbeats 400000
open Go.RowKit
abbrev r_pull_Pull_Tell(gp_:Nat)(ep_:Nat)(r:Opull_Pull×Bool)(U:List Rowb)(Γ:Gh)(v:Value):Prop := ∃(rowp_':Rowb),v = .bool r.2∧U = [rowp_']∧Opull_Pull.ob ep_ Γ gp_ rowp_' r.1∧True
theorem t_pull_Pull_Tell{Γ:Gh}{w0:World}{gp_ ep_:Nat}{rowp_:Rowb}{p_:Opull_Pull}(hp_:Opull_Pull.ob ep_ Γ gp_ rowp_ p_){Apath:Option Addr}{cpath:Nat}{path:List Int}(hpath:Sl intT Γ Apath path)(hpathc:path.length≤cpath){Ahashes:Option Addr}{chashes:Nat}{hashes:List Int}(hhashes:Sl u64T Γ Ahashes hashes)(hhashesc:hashes.length≤chashes){Alist:Option Addr}{clist:Nat}{list:List Rec}(hlist:Sl recT Γ Alist list)(hlistc:list.length≤clist)(hp:Pre [rowp_] Γ w0){r:Opull_Pull×Bool}(h:m_pull_Pull_Tell p_ path hashes list=some r):Calls Tryz.prog 26 #[(pq gp_),.slice Apath path.length cpath,.slice Ahashes hashes.length chashes,.slice Alist list.length clist] w0 (Outc Γ [rowp_] w0 (r_pull_Pull_Tell gp_ ep_ r)):=by
 refine calls_of (N:=106) (rs:=[8]) (args:=[(pq gp_),.slice Apath path.length cpath,.slice Ahashes hashes.length chashes,.slice Alist list.length clist]) Tryz.func26 rfl Tryz.ntmps26 Tryz.results26 rfl ?_
 obtain⟨F,hF⟩:∃F:Fm,F=⟨ids [rowp_],w0,Γ⟩:=⟨_,rfl⟩
 refine aa (C:=CC F Γ [rowp_]) ?_ (hF▸hp.start)
 refine a7 ?_
 refine as_ (v:=.bool false) ?_
 refine a6 ?_
 refine a7 ?_
 refine vb (q_build' (v:=.agg #[.int .i64 (-1),.int .i64 (-1)]) rfl (bargs2 rfl rfl) (λw=>by kernel_rfl)) ?_
 refine e_alloc Tryz.zeroValue100 rfl rfl rfl rfl ?_
 intro g1
 refine e_st (i:=0) (v:=.agg #[.int .i64 (-1),.int .i64 (-1)]) (new:=#[.int .i64 (-1),.int .i64 (-1)]) rfl Tryz.sizeOf100 rfl rfl rfl rfl (by kernel_rfl) rfl rfl rfl rfl ?_
 refine a6 ?_
 refine a8 ?_
 refine a7 ?_
 refine mv (v:=.slice Apath path.length cpath) ?_
 refine vb (q_len_slice rfl Tryz.underlying24 rfl) ?_
 refine vb (q_gtr rfl rfl rfl) ?_
 refine mv (v:=.bool (decide (2<((path.length:Nat):Int)))) ?_
 refine vg0 rfl rfl rfl rfl rfl (λhg2=>QV.qo (q_move (v:=.slice Apath path.length cpath) rfl (by kernel_rfl))) ?_
 obtain⟨z4,hz5,h⟩:=bnd h
 refine vg0 rfl rfl rfl rfl rfl (λhg3=>(q_call (call_run Tryz.call50 rfl rfl (args2 (gu hg3 rfl) rfl)) (λw hw=>t_slices_ContainsFunc_int_int_s1 (Γ:=Gh.all w) (hpath.mono hw.sat.le_all) hpathc (Sat.all w) (gc_of hz5 hg3)))) ?_
 refine vb (q_pick rfl rfl (pk_or' (g:=(decide (2<((path.length:Nat):Int)))) (y:=z4))) ?_
 refine a6 ?_
 refine aj h (by kernel_rfl) (λhb6 h=>?_) (λhb6 h=>?_)
 ·
  refine a7 ?_
  refine as_ (v:=.bool false) ?_
  refine a6 ?_
  refine ac ?_
  intro w hw
  cases h
  subst hF
  exact end_e (is:=[1]) (by kernel_rfl) hw rfl ⟨rowp_,rfl,rfl,hp_,trivial⟩
 ·
  refine ae ?_
  change WC _ _ _ _ _ _
  refine a7 ?_
  have ho7:Own intT Γ 100 [(g1,.cells #[.int .i64 (-1),.int .i64 (-1)] 100 (0,0))] (some ⟨g1,0,none⟩) 2 [(-1),(-1)]:=aq (T:=intT) (ys:=[(-1),(-1)]) [[.int .i64 (-1)],[.int .i64 (-1)]] rfl (show 2≤lim by decide) (show Ty.rd intT Γ [.int .i64 (-1)] (-1)∧Ty.rd intT Γ [.int .i64 (-1)] (-1)∧True from ⟨⟨rfl,(show I64 (-1) by decide)⟩,⟨rfl,(show I64 (-1) by decide)⟩,trivial⟩)
  refine vb (q_slarr Tryz.underlying100 Tryz.sizeOf3 rfl rfl) ?_
  refine mv (v:=.slice Apath path.length cpath) ?_
  refine e_copy (T:=intT) (xs:=[(-1),(-1)]) (ys:=path) (i:=0) Tryz.underlying24 (by kernel_rfl) rfl rfl rfl rfl rfl rfl rfl ho7 rfl (λw hw=>src_sl hpath hw) ?_
  intro row8 ho9
  refine a6 ?_
  refine a8 ?_
  have hq:=hp_
  obtain⟨g1_10,r1_10,A3_10,c3_10,A4_10,c4_10,r4_10,g5_10,r5_10,hrow_10,ho0_10,ho1_10,ho2_10,ho3_10,ho4_10,ho5_10,-⟩:=hq
  intro w hw; have hw:=hw.unfold (i:=1) rfl hrow_10
  refine aa (C:=CC F Γ [[(gp_,.cells #[.int .i64 p_.id,(pq g1_10),.bool p_.begun,.slice A3_10 p_.vec.length c3_10,.slice A4_10 p_.wants.length c4_10,(pq g5_10)] ep_ (0,0))],r1_10,r4_10,r5_10,row8]) ?_ hw
  clear hw
  refine ay (by kernel_rfl) (by kernel_rfl) (λw hw=>hw.drawn _) ?_
  refine wa rfl rfl rfl (q_move (v:=(pq gp_)) rfl (by kernel_rfl)) ?_
  refine wa rfl rfl rfl (q_nil (A:=some ⟨gp_,0,none⟩) rfl rfl rfl) ?_
  refine wa rfl rfl rfl (q_fl 4 fld_97_4 rfl rfl rfl) ?_
  refine wa rfl rfl rfl (q_ldl (i:=0) (v:=.slice A4_10 p_.wants.length c4_10) rfl rfl Tryz.isAgg95 rfl rfl) ?_
  have hq11:=gts2 (xs:=(List.take [(-1),(-1)].length path++List.drop path.length [(-1),(-1)])) ((copy_len _ _))
  refine wa rfl rfl rfl (q_ldoa (i:=4) (c:=0) (vs:=[.int .i64 (gt (List.take [(-1),(-1)].length path++List.drop path.length [(-1),(-1)]) 0),.int .i64 (gt (List.take [(-1),(-1)].length path++List.drop path.length [(-1),(-1)]) 1)]) rfl (Own.all_ (k:=.i64) intT_cs rfl ho9) rfl Tryz.isAgg100 Tryz.sizeOf100 rfl (by rw [hq11]; rfl)) ?_
  obtain⟨z12,hz13,h⟩:=bnd h
  refine wc rfl rfl rfl (q_call (call_run Tryz.call61 rfl rfl (by kernel_rfl)) (λw hw=>t_slices_Index_pull_way_pull_way (Γ:=Gh.all w) (ho4_10.sl hw.sat.le_all (hw.ra 2 rfl)) ho4_10.capz (⟨(gt (List.take [(-1),(-1)].length path++List.drop path.length [(-1),(-1)]) 0),(gt (List.take [(-1),(-1)].length path++List.drop path.length [(-1),(-1)]) 1)⟩:Dpull_way) ⟨((ho9.intT_at (i:=0) (lt_len ((copy_len _ _)) (by decide))).1),((ho9.intT_at (i:=1) (lt_len ((copy_len _ _)) (by decide))).1)⟩ (Sat.all w) hz13)) ?_
  refine wa rfl rfl rfl (q_assign (v:=.int .i64 z12) rfl (by kernel_rfl)) ?_
  refine aw ?_
  change WC _ _ _ _ _ _
  refine a8 ?_
  refine a7 ?_
  refine mv (v:=.int .i64 z12) ?_
  refine vb (q_lss rfl rfl rfl) ?_
  refine a6 ?_
  refine aj h (by kernel_rfl) (λhb14 h=>?_) (λhb14 h=>?_)
  ·
   refine a7 ?_
   refine as_ (v:=.bool false) ?_
   refine a6 ?_
   refine ac ?_
   intro w hw
   have hw:=hw.fold (is:=[0,0,0,0]) rfl hrow_10
   cases h
   subst hF
   exact end_e (is:=[0]) (by kernel_rfl) hw rfl ⟨rowp_,rfl,rfl,hp_,trivial⟩
  ·
   refine ae ?_
   change WC _ _ _ _ _ _
   refine a8 ?_
   refine a7 ?_
   refine vb (q_ixan (i:=1) Tryz.underlying100 Tryz.sizeOf3 rfl rfl rfl (by decide)) ?_
   refine vb (q_ldo (c:=0) (v:=.int .i64 (gt (List.take [(-1),(-1)].length path++List.drop path.length [(-1),(-1)]) 1)) (i:=4) rfl (ho9.intT_at (ltq (by decide) (copy_len _ _).symm)).2 rfl Tryz.isAgg3 rfl rfl) ?_
   refine vb (q_lss rfl rfl rfl) ?_
   refine a6 ?_
   refine aj h (by kernel_rfl) (λhb16 h=>?_) (λhb16 h=>?_)
   ·
    refine a7 ?_
    refine mv (v:=(pq gp_)) ?_
    refine mv (v:=(pq gp_)) ?_
    refine vb (q_nil (A:=some ⟨gp_,0,none⟩) rfl rfl rfl) ?_
    refine vb (q_fl 4 fld_97_4 rfl rfl rfl) ?_
    refine vb (q_ldl (i:=0) (v:=.slice A4_10 p_.wants.length c4_10) rfl rfl Tryz.isAgg95 rfl rfl) ?_
    refine mv (v:=.int .i64 z12) ?_
    refine mv (v:=.int .i64 z12) ?_
    refine vb (q_add rfl rfl rfl) ?_
    obtain⟨hk17,h⟩:=chk_some h
    obtain⟨z18,hz19,h⟩:=bnd h
    refine e_call (is:=[2]) rfl rfl (call_run Tryz.call62 rfl rfl (by kernel_rfl)) rfl (λw hp=>t_slices_Delete_pull_way_pull_way ho4_10 z12 (i64b_of hk17) (w64 (z12+1)) (w64_r _) hp hz19) ?_
    rintro Γ20 U22 v23 hl21 ⟨A24,c25,row26,rfl,rfl,hr27,_⟩
    change WR _ _ _ (CC F Γ20 [row26,[(gp_,.cells #[.int .i64 p_.id,(pq g1_10),.bool p_.begun,.slice A3_10 p_.vec.length c3_10,.slice A4_10 p_.wants.length c4_10,(pq g5_10)] ep_ (0,0))],r1_10,r5_10,row8]) _ _ (upd _ 46 (.slice A24 z18.length c25))
    refine vb (q_nil (A:=some ⟨gp_,0,none⟩) rfl rfl rfl) ?_
    refine vb (q_fl 4 fld_97_4 rfl rfl rfl) ?_
    refine e_st (i:=1) (v:=.slice A24 z18.length c25) (new:=#[.int .i64 p_.id,(pq g1_10),.bool p_.begun,.slice A3_10 p_.vec.length c3_10,.slice A24 z18.length c25,(pq g5_10)]) rfl Tryz.sizeOf95 rfl rfl rfl rfl (by kernel_rfl) rfl rfl rfl rfl ?_
    refine a6 ?_
    refine a8 ?_
    refine a8 ?_
    intro w hw; have h028:=hw.le
    refine aa (C:=CC F Γ20 [row26,[(gp_,.cells #[.int .i64 p_.id,(pq g1_10),.bool p_.begun,.slice A3_10 p_.vec.length c3_10,.slice A24 z18.length c25,(pq g5_10)] ep_ (0,0))],r1_10,r5_10,row8]) ?_ hw; clear hw
    refine av (CC F Γ20 [[(gp_,.cells #[.int .i64 p_.id,(pq g1_10),.bool p_.begun,.slice A3_10 p_.vec.length c3_10,.slice A24 z18.length c25,(pq g5_10)] ep_ (0,0))],row8]) (by kernel_rfl) (λw hw=>hw.drawn _) ?_
    change WH _ _ _ _ (CC F Γ20 [row26,[(gp_,.cells #[.int .i64 p_.id,(pq g1_10),.bool p_.begun,.slice A3_10 p_.vec.length c3_10,.slice A24 z18.length c25,(pq g5_10)] ep_ (0,0))],r1_10,r5_10,row8]) _ 12 #[false,false,false,false,false,false,false,false,false,false,false,false] _
    refine hu 0 rfl (bk_ (Gh.refl _) h028 (.cons _ (.cons_cons _ (.cons _ (.cons _ (.cons_cons _ .slnil)))))) (q_move (v:=(pq gp_)) rfl (by kernel_rfl)) ?_
    refine hu 1 rfl (bk_ (Gh.refl _) h028 (.cons _ (.cons_cons _ (.cons _ (.cons _ (.cons_cons _ .slnil)))))) (q_nil (A:=some ⟨gp_,0,none⟩) rfl rfl rfl) ?_
    refine hu 2 rfl (bk_ (Gh.refl _) h028 (.cons _ (.cons_cons _ (.cons _ (.cons _ (.cons_cons _ .slnil)))))) (q_fl 1 fld_97_1 rfl rfl rfl) ?_
    refine hu 3 rfl (bk_ (Gh.refl _) h028 (.cons _ (.cons_cons _ (.cons _ (.cons _ (.cons_cons _ .slnil)))))) (q_ldl (i:=0) (v:=(pq g1_10)) rfl rfl Tryz.isAgg79 rfl rfl) ?_
    refine hu 4 rfl (bk_ (Gh.refl _) h028 (.cons _ (.cons_cons _ (.cons _ (.cons _ (.cons_cons _ .slnil)))))) (q_ixan (i:=0) Tryz.underlying100 Tryz.sizeOf3 rfl rfl rfl (by decide)) ?_
    refine hu 5 rfl (bk_ (Gh.refl _) h028 (.cons _ (.cons_cons _ (.cons _ (.cons _ (.cons_cons _ .slnil)))))) (q_ldo (c:=0) (v:=.int .i64 (gt (List.take [(-1),(-1)].length path++List.drop path.length [(-1),(-1)]) 0)) (i:=1) rfl ((ho9.mono hl21).intT_at (ltq (by decide) (copy_len _ _).symm)).2 rfl Tryz.isAgg3 rfl rfl) ?_
    refine hu 8 rfl (bk_ (Gh.refl _) h028 (.cons _ (.cons_cons _ (.cons _ (.cons _ (.cons_cons _ .slnil)))))) (q_move (v:=.slice Ahashes hashes.length chashes) rfl (by kernel_rfl)) ?_
    refine hu 11 rfl (bk_ (Gh.refl _) h028 (.cons _ (.cons_cons _ (.cons _ (.cons _ (.cons_cons _ .slnil)))))) (q_move (v:=.int .i64 0) rfl (by kernel_rfl)) ?_
    refine ai (i:=6) (by kernel_rfl) rfl ?_
    refine e_buildSlice (cs:=#[.int .i64 (gt (List.take [(-1),(-1)].length path++List.drop path.length [(-1),(-1)]) 0)]) (e:=3) rfl rfl rfl rfl (λw=>by kernel_rfl) ?_
    intro g29
    refine ab ?_
    refine WH.next (bk_ (Gh.refl _) h028 (.cons _ (.cons _ (.cons_cons _ (.cons _ (.cons _ (.cons_cons _ .slnil))))))) ?_
    refine ai (i:=7) (by kernel_rfl) rfl ?_
    have ho30:Own intT Γ20 3 [(g29,.cells #[.int .i64 (gt (List.take [(-1),(-1)].length path++List.drop path.length [(-1),(-1)]) 0)] 3 (0,0))] (some ⟨g29,0,none⟩) 1 [(gt (List.take [(-1),(-1)].length path++List.drop path.length [(-1),(-1)]) 0)]:=aq (T:=intT) (ys:=[(gt (List.take [(-1),(-1)].length path++List.drop path.length [(-1),(-1)]) 0)]) [[.int .i64 (gt (List.take [(-1),(-1)].length path++List.drop path.length [(-1),(-1)]) 0)]] rfl (show 1≤lim by decide) (show Ty.rd intT Γ20 [.int .i64 (gt (List.take [(-1),(-1)].length path++List.drop path.length [(-1),(-1)]) 0)] (gt (List.take [(-1),(-1)].length path++List.drop path.length [(-1),(-1)]) 0)∧True from ⟨⟨rfl,((ho9.mono hl21).intT_at (ltq (by decide) (copy_len _ _).symm)).1⟩,trivial⟩)
    have hc35:=ho30.capz
    intro w hw; obtain⟨Γ31,hw,hl32,hr33⟩:=hw.seal (i:=0) rfl; have hs34:=ho30.sl hl32 hr33
    refine ao (C:=CC F Γ31 [[],row26,[(gp_,.cells #[.int .i64 p_.id,(pq g1_10),.bool p_.begun,.slice A3_10 p_.vec.length c3_10,.slice A24 z18.length c25,(pq g5_10)] ep_ (0,0))],r1_10,r5_10,row8]) ?_ hw
    clear hw
    obtain⟨z36,hz37,h⟩:=bnd h
    refine e_call (is:=[3]) rfl rfl (call_run Tryz.call52 rfl rfl (by kernel_rfl)) rfl (λw hp=>t_tree_Tree_Kids t_HashC (ho1_10.mono (hl21.trans hl32)) hs34 hc35 (λp hp=>nomatch hp) hp hz37) ?_
    rintro Γ38 U40 v41 hl39 ⟨row42,A44,c45,row46,rfl,rfl,hr43,hr47,hz48,_⟩
    change WR _ _ _ (CC F Γ38 [row42,row46,[],row26,[(gp_,.cells #[.int .i64 p_.id,(pq g1_10),.bool p_.begun,.slice A3_10 p_.vec.length c3_10,.slice A24 z18.length c25,(pq g5_10)] ep_ (0,0))],r5_10,row8]) _ _ (upd _ 56 (.slice A44 z36.2.length c45))
    refine ab ?_
    refine WH.next (bk_ (hl32.trans hl39) h028 (.cons _ (.cons _ (.cons _ (.cons _ (.cons_cons _ (.cons _ (.cons_cons _ .slnil)))))))) ?_
    refine ai (i:=9) (by kernel_rfl) rfl ?_
    have hc53:=hr47.capz
    intro w hw; obtain⟨Γ49,hw,hl50,hr51⟩:=hw.seal (i:=1) rfl; have hs52:=hr47.sl hl50 hr51
    refine ao (C:=CC F Γ49 [row42,[],[],row26,[(gp_,.cells #[.int .i64 p_.id,(pq g1_10),.bool p_.begun,.slice A3_10 p_.vec.length c3_10,.slice A24 z18.length c25,(pq g5_10)] ep_ (0,0))],r5_10,row8]) ?_ hw
    clear hw
    obtain⟨z54,hz55,h⟩:=bnd h
    refine e_call (is:=[]) rfl rfl (call_run Tryz.call58 rfl rfl (by kernel_rfl)) rfl (λw hp=>t_tree_Differ hs52 hc53 (hhashes.mono (((hl21.trans hl32).trans hl39).trans hl50)) hhashesc hp hz55) ?_
    rintro Γ56 U58 v59 hl57 ⟨A60,c61,row62,rfl,rfl,hr63,_⟩
    change WR _ _ _ (CC F Γ56 [row62,row42,[],[],row26,[(gp_,.cells #[.int .i64 p_.id,(pq g1_10),.bool p_.begun,.slice A3_10 p_.vec.length c3_10,.slice A24 z18.length c25,(pq g5_10)] ep_ (0,0))],r5_10,row8]) _ _ (upd _ 58 (.slice A60 z54.length c61))
    refine ab ?_
    refine WH.next (bk_ (((hl32.trans hl39).trans hl50).trans hl57) h028 (.cons _ (.cons _ (.cons _ (.cons _ (.cons _ (.cons_cons _ (.cons _ (.cons_cons _ .slnil))))))))) ?_
    refine ai (i:=10) (by kernel_rfl) rfl ?_
    refine vb (q_len_slice rfl Tryz.underlying24 rfl) ?_
    refine ab ?_
    refine WH.next (bk_ (((hl32.trans hl39).trans hl50).trans hl57) h028 (.cons _ (.cons _ (.cons _ (.cons _ (.cons _ (.cons_cons _ (.cons _ (.cons_cons _ .slnil))))))))) ?_
    refine au (by kernel_rfl) ?_
    change WC _ _ _ _ _ _
    refine af ?_
    obtain⟨row_64,hrow_64,hob_64⟩:∃rw:Rowb,rw=([[(gp_,.cells #[.int .i64 p_.id,(pq g1_10),.bool p_.begun,.slice A3_10 p_.vec.length c3_10,.slice A24 z18.length c25,(pq g5_10)] ep_ (0,0))],row42,row26,r5_10]:List Rowb).flatten∧Opull_Pull.ob ep_ Γ56 gp_ rw (⟨p_.id,z36.1,p_.begun,p_.vec,z18,p_.staged⟩:Opull_Pull):=⟨_,rfl,g1_10,row42,A3_10,c3_10,A24,c25,row26,g5_10,r5_10,rfl,ho0_10,(hr43.mono (hl50.trans hl57)),ho2_10,(ho3_10.mono ((((hl21.trans hl32).trans hl39).trans hl50).trans hl57)),(hr27.mono (((hl32.trans hl39).trans hl50).trans hl57)),(ho5_10.mono ((((hl21.trans hl32).trans hl39).trans hl50).trans hl57)),trivial⟩
    intro w hw; have hw:=hw.fold (is:=[5,1,3,3]) rfl hrow_64
    refine aa (C:=CC F Γ56 [row_64,row62,[],[],row8]) ?_ hw
    clear hw
    refine ap h (λ(i69:Nat) (o65:Opull_Pull) σ w => ∃(row66:Rowb),slots σ [(0,(pq gp_)),(9,(pq g1)),(58,.slice A60 z54.length c61),(59,.int .i64 ((z54.length:Nat):Int)),(60,.int .i64 ((i69:Nat):Int))]∧CC F Γ56 [row66,row62,row8] w∧Opull_Pull.ob ep_ Γ56 gp_ row66 o65∧True) ?_ ?_
    ·
     intro w hw
     exact⟨row_64,(sl_ (by kernel_rfl)),(hw.only (is:=[0,0,2]) rfl),hob_64,trivial⟩
    rintro f68 i69 o65 σ w hi70 hlt71 hge72 ⟨row66,hsl,hw,ho67,-⟩
    refine Wpt.slots hsl ?_
    refine aa (C:=CC F Γ56 [row66,row62,row8]) ?_ hw
    clear hw hsl
    refine a7 ?_
    refine vb (q_lss rfl rfl rfl) ?_
    refine a6 ?_
    refine a8 ?_
    refine WC.cond (b:=(decide (((i69:Nat):Int)<((z54.length:Nat):Int)))) (by kernel_rfl) (λhb73=>?_) (λhb73=>?_)
    ·
     have hl74:=ilt hb73
     have h:=hlt71 hl74
     refine ae ?_
     change WC _ _ _ _ _ _
     refine a8 ?_
     refine af ?_
     refine a7 ?_
     refine vb (q_ixn (i:=i69) Tryz.underlying24 Tryz.sizeOf3 rfl rfl rfl hl74 (hr63.some_ hl74)) ?_
     refine vb (q_ldo (c:=0) (v:=.int .i64 (gt z54 i69)) (i:=1) rfl (hr63.intT_at hl74).2 rfl Tryz.isAgg3 rfl rfl) ?_
     refine as_ (v:=.int .i64 (gt z54 i69)) ?_
     refine a6 ?_
     intro w hw; have h075:=hw.le
     refine aa (C:=CC F Γ56 [row66,row62,row8]) ?_ hw; clear hw
     refine av (CC F Γ56 [row62,row8]) (by kernel_rfl) (λw hw=>hw.drawn _) ?_
     change WH _ _ _ _ (CC F Γ56 [row66,row62,row8]) _ 14 #[false,false,false,false,false,false,false,false,false,false,false,false,false,false] _
     refine hu 0 rfl (bk_ (Gh.refl _) h075 (.cons _ (.cons_cons _ (.cons_cons _ .slnil)))) (q_move (v:=(pq gp_)) rfl (by kernel_rfl)) ?_
     refine hu 1 rfl (bk_ (Gh.refl _) h075 (.cons _ (.cons_cons _ (.cons_cons _ .slnil)))) (q_move (v:=(pq gp_)) rfl (by kernel_rfl)) ?_
     refine hu 2 rfl (bk_ (Gh.refl _) h075 (.cons _ (.cons_cons _ (.cons_cons _ .slnil)))) (q_nil (A:=some ⟨gp_,0,none⟩) rfl rfl rfl) ?_
     refine hu 3 rfl (bk_ (Gh.refl _) h075 (.cons _ (.cons_cons _ (.cons_cons _ .slnil)))) (q_fl 4 fld_97_4 rfl rfl rfl) ?_
     refine hu 5 rfl (bk_ (Gh.refl _) h075 (.cons _ (.cons_cons _ (.cons_cons _ .slnil)))) (q_ixan (i:=0) Tryz.underlying100 Tryz.sizeOf3 rfl rfl rfl (by decide)) ?_
     refine hu 6 rfl (bk_ (Gh.refl _) h075 (.cons _ (.cons_cons _ (.cons_cons _ .slnil)))) (q_ldo (c:=0) (v:=.int .i64 (gt (List.take [(-1),(-1)].length path++List.drop path.length [(-1),(-1)]) 0)) (i:=1) rfl ((ho9.mono ((((hl21.trans hl32).trans hl39).trans hl50).trans hl57)).intT_at (ltq (by decide) (copy_len _ _).symm)).2 rfl Tryz.isAgg3 rfl rfl) ?_
     refine hu 7 rfl (bk_ (Gh.refl _) h075 (.cons _ (.cons_cons _ (.cons_cons _ .slnil)))) (q_move (v:=.int .i64 (gt z54 i69)) rfl (by kernel_rfl)) ?_
     refine hu 8 rfl (bk_ (Gh.refl _) h075 (.cons _ (.cons_cons _ (.cons_cons _ .slnil)))) (q_build' (v:=.agg #[.int .i64 (gt (List.take [(-1),(-1)].length path++List.drop path.length [(-1),(-1)]) 0),.int .i64 (gt z54 i69)]) rfl (bargs2 rfl rfl) (λw=>by kernel_rfl)) ?_
     refine WH.each (l:=[4,9]) (by kernel_rfl) (by simp) ?_
     intro i hi; simp only [List.mem_cons,List.not_mem_nil,or_false] at hi
     rcases hi with rfl | rfl
     ·
      refine⟨_,rfl,?_⟩
      have hq:=ho67
      obtain⟨g1_76,r1_76,A3_76,c3_76,A4_76,c4_76,r4_76,g5_76,r5_76,hrow_76,ho0_76,ho1_76,ho2_76,ho3_76,ho4_76,ho5_76,-⟩:=hq
      intro w hw; have hw:=hw.unfold (i:=0) rfl hrow_76
      refine ao (C:=CC F Γ56 [[(gp_,.cells #[.int .i64 o65.id,(pq g1_76),.bool o65.begun,.slice A3_76 o65.vec.length c3_76,.slice A4_76 o65.wants.length c4_76,(pq g5_76)] ep_ (0,0))],r1_76,r4_76,r5_76,row62,row8]) ?_ hw
      clear hw
      refine vb (q_ldl (i:=0) (v:=.slice A4_76 o65.wants.length c4_76) rfl rfl Tryz.isAgg95 rfl rfl) ?_
      refine ab ?_
      refine WH.next (bk_ (Gh.refl _) h075 (.cons _ (.cons _ (.cons _ (.cons _ (.cons_cons _ (.cons_cons _ .slnil))))))) ?_
      refine ai (i:=9) (by kernel_rfl) rfl ?_
      refine e_buildSlice (cs:=#[.int .i64 (gt (List.take [(-1),(-1)].length path++List.drop path.length [(-1),(-1)]) 0),.int .i64 (gt z54 i69)]) (e:=100) rfl rfl rfl rfl (λw=>by kernel_rfl) ?_
      intro g77
      refine ab ?_
      refine WH.next (bk_ (Gh.refl _) h075 (.cons _ (.cons _ (.cons _ (.cons _ (.cons _ (.cons_cons _ (.cons_cons _ .slnil)))))))) ?_
      refine ai (i:=10) (by kernel_rfl) rfl ?_
      obtain⟨hk78,h⟩:=chk_some h
      refine e_append (T:=dpull_wayT) (xs:=o65.wants) (ys:=[(⟨(gt (List.take [(-1),(-1)].length path++List.drop path.length [(-1),(-1)]) 0),(gt z54 i69)⟩:Dpull_way)]) elem_95 (i:=3) rfl rfl rfl rfl rfl rfl rfl ho4_76 (of_decide_eq_true hk78) (λw hw=>src_one (T:=dpull_wayT) (y:=(⟨(gt (List.take [(-1),(-1)].length path++List.drop path.length [(-1),(-1)]) 0),(gt z54 i69)⟩:Dpull_way)) (i:=0) rfl (by exact⟨rfl,⟨((ho9.mono ((((hl21.trans hl32).trans hl39).trans hl50).trans hl57)).intT_at (ltq (by decide) (copy_len _ _).symm)).1,(hr63.intT_at hl74).1⟩⟩) hw) ?_
      intro row79 A80 c81 ho82
      refine ab ?_
      refine WH.next (bk_ (Gh.refl _) h075 (.cons _ (.cons _ (.cons _ (.cons _ (.cons _ (.cons_cons _ (.cons_cons _ .slnil)))))))) ?_
      refine hu 11 rfl (bk_ (Gh.refl _) h075 (.cons _ (.cons _ (.cons _ (.cons _ (.cons _ (.cons_cons _ (.cons_cons _ .slnil)))))))) (q_nil (A:=some ⟨gp_,0,none⟩) rfl rfl rfl) ?_
      refine hu 12 rfl (bk_ (Gh.refl _) h075 (.cons _ (.cons _ (.cons _ (.cons _ (.cons _ (.cons_cons _ (.cons_cons _ .slnil)))))))) (q_fl 4 fld_97_4 rfl rfl rfl) ?_
      refine ai (i:=13) (by kernel_rfl) rfl ?_
      refine e_st (i:=1) (v:=.slice A80 (o65.wants++[(⟨(gt (List.take [(-1),(-1)].length path++List.drop path.length [(-1),(-1)]) 0),(gt z54 i69)⟩:Dpull_way)]).length c81) (new:=#[.int .i64 o65.id,(pq g1_76),.bool o65.begun,.slice A3_76 o65.vec.length c3_76,.slice A80 (o65.wants++[(⟨(gt (List.take [(-1),(-1)].length path++List.drop path.length [(-1),(-1)]) 0),(gt z54 i69)⟩:Dpull_way)]).length c81,(pq g5_76)]) rfl Tryz.sizeOf95 rfl rfl rfl rfl (by kernel_rfl) rfl rfl rfl rfl ?_
      refine ab ?_
      refine WH.next (bk_ (Gh.refl _) h075 (.cons _ (.cons _ (.cons _ (.cons _ (.cons _ (.cons_cons _ (.cons_cons _ .slnil)))))))) ?_
      refine au (by kernel_rfl) ?_
      change WC _ _ _ _ _ _
      refine ah ?_
      refine vb (q_add_r (r:=((i69+1:Nat):Int)) rfl rfl rfl (ctr_len hl74 hr63.le)) ?_
      refine mv (v:=.int .i64 ((i69+1:Nat):Int)) ?_
      refine ab ?_
      intro w hw
      obtain⟨row_83,hrow_83,hob_83⟩:∃rw:Rowb,rw=([[(gp_,.cells #[.int .i64 o65.id,(pq g1_76),.bool o65.begun,.slice A3_76 o65.vec.length c3_76,.slice A80 (o65.wants++[(⟨(gt (List.take [(-1),(-1)].length path++List.drop path.length [(-1),(-1)]) 0),(gt z54 i69)⟩:Dpull_way)]).length c81,(pq g5_76)] ep_ (0,0))],r1_76,row79,r5_76]:List Rowb).flatten∧Opull_Pull.ob ep_ Γ56 gp_ rw (⟨o65.id,o65.own,o65.begun,o65.vec,(o65.wants++[(⟨(gt (List.take [(-1),(-1)].length path++List.drop path.length [(-1),(-1)]) 0),(gt z54 i69)⟩:Dpull_way)]),o65.staged⟩:Opull_Pull):=⟨_,rfl,g1_76,r1_76,A3_76,c3_76,A80,c81,row79,g5_76,r5_76,rfl,ho0_76,ho1_76,ho2_76,ho3_76,ho82,ho5_76,trivial⟩
      have hw:=hw.fold (is:=[1,1,1,1]) rfl hrow_83
      exact⟨hl74,(⟨o65.id,o65.own,o65.begun,o65.vec,(o65.wants++[(⟨(gt (List.take [(-1),(-1)].length path++List.drop path.length [(-1),(-1)]) 0),(gt z54 i69)⟩:Dpull_way)]),o65.staged⟩:Opull_Pull),h,row_83,(sl_ (by kernel_rfl)),(hw.only (is:=[0,1,1]) rfl),hob_83,trivial⟩
     ·
      refine⟨_,rfl,?_⟩
      refine e_buildSlice (cs:=#[.int .i64 (gt (List.take [(-1),(-1)].length path++List.drop path.length [(-1),(-1)]) 0),.int .i64 (gt z54 i69)]) (e:=100) rfl rfl rfl rfl (λw=>by kernel_rfl) ?_
      intro g76
      refine ab ?_
      refine WH.next (bk_ (Gh.refl _) h075 (.cons _ (.cons _ (.cons_cons _ (.cons_cons _ .slnil))))) ?_
      refine ai (i:=4) (by kernel_rfl) rfl ?_
      have hq:=ho67
      obtain⟨g1_77,r1_77,A3_77,c3_77,A4_77,c4_77,r4_77,g5_77,r5_77,hrow_77,ho0_77,ho1_77,ho2_77,ho3_77,ho4_77,ho5_77,-⟩:=hq
      intro w hw; have hw:=hw.unfold (i:=1) rfl hrow_77
      refine ao (C:=CC F Γ56 [[(gp_,.cells #[.int .i64 o65.id,(pq g1_77),.bool o65.begun,.slice A3_77 o65.vec.length c3_77,.slice A4_77 o65.wants.length c4_77,(pq g5_77)] ep_ (0,0))],r1_77,r4_77,r5_77,[(g76,.cells #[.int .i64 (gt (List.take [(-1),(-1)].length path++List.drop path.length [(-1),(-1)]) 0),.int .i64 (gt z54 i69)] 100 (0,0))],row62,row8]) ?_ hw
      clear hw
      refine vb (q_ldl (i:=0) (v:=.slice A4_77 o65.wants.length c4_77) rfl rfl Tryz.isAgg95 rfl rfl) ?_
      refine ab ?_
      refine WH.next (bk_ (Gh.refl _) h075 (.cons _ (.cons _ (.cons _ (.cons _ (.cons _ (.cons_cons _ (.cons_cons _ .slnil)))))))) ?_
      refine ai (i:=10) (by kernel_rfl) rfl ?_
      obtain⟨hk78,h⟩:=chk_some h
      refine e_append (T:=dpull_wayT) (xs:=o65.wants) (ys:=[(⟨(gt (List.take [(-1),(-1)].length path++List.drop path.length [(-1),(-1)]) 0),(gt z54 i69)⟩:Dpull_way)]) elem_95 (i:=2) rfl rfl rfl rfl rfl rfl rfl ho4_77 (of_decide_eq_true hk78) (λw hw=>src_one (T:=dpull_wayT) (y:=(⟨(gt (List.take [(-1),(-1)].length path++List.drop path.length [(-1),(-1)]) 0),(gt z54 i69)⟩:Dpull_way)) (i:=4) rfl (by exact⟨rfl,⟨((ho9.mono ((((hl21.trans hl32).trans hl39).trans hl50).trans hl57)).intT_at (ltq (by decide) (copy_len _ _).symm)).1,(hr63.intT_at hl74).1⟩⟩) hw) ?_
      intro row79 A80 c81 ho82
      refine ab ?_
      refine WH.next (bk_ (Gh.refl _) h075 (.cons _ (.cons _ (.cons _ (.cons _ (.cons _ (.cons_cons _ (.cons_cons _ .slnil)))))))) ?_
      refine hu 11 rfl (bk_ (Gh.refl _) h075 (.cons _ (.cons _ (.cons _ (.cons _ (.cons _ (.cons_cons _ (.cons_cons _ .slnil)))))))) (q_nil (A:=some ⟨gp_,0,none⟩) rfl rfl rfl) ?_
      refine hu 12 rfl (bk_ (Gh.refl _) h075 (.cons _ (.cons _ (.cons _ (.cons _ (.cons _ (.cons_cons _ (.cons_cons _ .slnil)))))))) (q_fl 4 fld_97_4 rfl rfl rfl) ?_
      refine ai (i:=13) (by kernel_rfl) rfl ?_
      refine e_st (i:=0) (v:=.slice A80 (o65.wants++[(⟨(gt (List.take [(-1),(-1)].length path++List.drop path.length [(-1),(-1)]) 0),(gt z54 i69)⟩:Dpull_way)]).length c81) (new:=#[.int .i64 o65.id,(pq g1_77),.bool o65.begun,.slice A3_77 o65.vec.length c3_77,.slice A80 (o65.wants++[(⟨(gt (List.take [(-1),(-1)].length path++List.drop path.length [(-1),(-1)]) 0),(gt z54 i69)⟩:Dpull_way)]).length c81,(pq g5_77)]) rfl Tryz.sizeOf95 rfl rfl rfl rfl (by kernel_rfl) rfl rfl rfl rfl ?_
      refine ab ?_
      refine WH.next (bk_ (Gh.refl _) h075 (.cons _ (.cons _ (.cons _ (.cons _ (.cons _ (.cons_cons _ (.cons_cons _ .slnil)))))))) ?_
      refine au (by kernel_rfl) ?_
      change WC _ _ _ _ _ _
      refine ah ?_
      refine vb (q_add_r (r:=((i69+1:Nat):Int)) rfl rfl rfl (ctr_len hl74 hr63.le)) ?_
      refine mv (v:=.int .i64 ((i69+1:Nat):Int)) ?_
      refine ab ?_
      intro w hw
      obtain⟨row_83,hrow_83,hob_83⟩:∃rw:Rowb,rw=([[(gp_,.cells #[.int .i64 o65.id,(pq g1_77),.bool o65.begun,.slice A3_77 o65.vec.length c3_77,.slice A80 (o65.wants++[(⟨(gt (List.take [(-1),(-1)].length path++List.drop path.length [(-1),(-1)]) 0),(gt z54 i69)⟩:Dpull_way)]).length c81,(pq g5_77)] ep_ (0,0))],r1_77,row79,r5_77]:List Rowb).flatten∧Opull_Pull.ob ep_ Γ56 gp_ rw (⟨o65.id,o65.own,o65.begun,o65.vec,(o65.wants++[(⟨(gt (List.take [(-1),(-1)].length path++List.drop path.length [(-1),(-1)]) 0),(gt z54 i69)⟩:Dpull_way)]),o65.staged⟩:Opull_Pull):=⟨_,rfl,g1_77,r1_77,A3_77,c3_77,A80,c81,row79,g5_77,r5_77,rfl,ho0_77,ho1_77,ho2_77,ho3_77,ho82,ho5_77,trivial⟩
      have hw:=hw.fold (is:=[0,0,0,0]) rfl hrow_83
      exact⟨hl74,(⟨o65.id,o65.own,o65.begun,o65.vec,(o65.wants++[(⟨(gt (List.take [(-1),(-1)].length path++List.drop path.length [(-1),(-1)]) 0),(gt z54 i69)⟩:Dpull_way)]),o65.staged⟩:Opull_Pull),h,row_83,(sl_ (by kernel_rfl)),(hw.only (is:=[0,1,1]) rfl),hob_83,trivial⟩
    ·
     have h:=hge72 (ige hb73)
     refine am ?_
     change WC _ _ _ _ _ _
     refine a7 ?_
     refine as_ (v:=.bool true) ?_
     refine a6 ?_
     refine ac ?_
     intro w hw
     cases h
     subst hF
     exact end_e (is:=[0]) (by kernel_rfl) hw rfl ⟨row66,rfl,rfl,ho67,trivial⟩
   ·
    refine ae ?_
    change WC _ _ _ _ _ _
    refine a7 ?_
    refine vb (q_mkfn (v:=.func (.func 63) #[] #[(pq g1)]) rfl (by kernel_rfl)) ?_
    refine as_ (v:=.func (.func 63) #[] #[(pq g1)]) ?_
    refine a6 ?_
    refine a8 ?_
    refine a7 ?_
    refine mv (v:=.slice Alist list.length clist) ?_
    refine mv (v:=.func (.func 63) #[] #[(pq g1)]) ?_
    have hr85:I64 (gt (List.take [(-1),(-1)].length path++List.drop path.length [(-1),(-1)]) 0):=((ho9.intT_at (i:=0) (lt_len ((copy_len _ _)) (by decide))).1)
    have hr86:I64 (gt (List.take [(-1),(-1)].length path++List.drop path.length [(-1),(-1)]) 1):=((ho9.intT_at (i:=1) (lt_len ((copy_len _ _)) (by decide))).1)
    have hq84:=Own.cells2 (k:=.i64) intT_cs rfl ho9 ((copy_len _ _))
    subst hq84
    obtain⟨z87,hz88,h⟩:=bnd h
    refine e_call (is:=[4]) rfl rfl (call_run Tryz.call65 rfl rfl (by kernel_rfl)) rfl (λw hp=>t_slices_ContainsFunc_api_Rec_api_Rec hlist hlistc (gt (List.take [(-1),(-1)].length path++List.drop path.length [(-1),(-1)]) 0) hr85 (gt (List.take [(-1),(-1)].length path++List.drop path.length [(-1),(-1)]) 1) hr86 hp hz88) ?_
    rintro Γ89 U91 v92 hl90 ⟨rfl,rfl,_⟩
    change WR _ _ _ (CC F Γ89 [[(g1,.cells #[.int .i64 (gt (List.take [(-1),(-1)].length path++List.drop path.length [(-1),(-1)]) 0),.int .i64 (gt (List.take [(-1),(-1)].length path++List.drop path.length [(-1),(-1)]) 1)] 100 (0,0))],[(gp_,.cells #[.int .i64 p_.id,(pq g1_10),.bool p_.begun,.slice A3_10 p_.vec.length c3_10,.slice A4_10 p_.wants.length c4_10,(pq g5_10)] ep_ (0,0))],r1_10,r4_10,r5_10]) _ _ (upd _ 81 (.bool z87))
    refine a6 ?_
    refine aj h (by kernel_rfl) (λhb93 h=>?_) (λhb93 h=>?_)
    ·
     refine a7 ?_
     refine as_ (v:=.bool false) ?_
     refine a6 ?_
     refine ac ?_
     intro w hw
     have hw:=hw.fold (is:=[1,1,1,1]) rfl hrow_10
     cases h
     subst hF
     exact end_e (is:=[0]) (by kernel_rfl) hw rfl ⟨rowp_,rfl,rfl,(hp_.mono hl90),trivial⟩
    ·
     refine ae ?_
     change WC _ _ _ _ _ _
     refine a7 ?_
     refine mv (v:=(pq gp_)) ?_
     refine mv (v:=(pq gp_)) ?_
     refine vb (q_nil (A:=some ⟨gp_,0,none⟩) rfl rfl rfl) ?_
     refine vb (q_fl 4 fld_97_4 rfl rfl rfl) ?_
     refine vb (q_ldl (i:=1) (v:=.slice A4_10 p_.wants.length c4_10) rfl rfl Tryz.isAgg95 rfl rfl) ?_
     refine mv (v:=.int .i64 z12) ?_
     refine mv (v:=.int .i64 z12) ?_
     refine vb (q_add rfl rfl rfl) ?_
     obtain⟨hk95,h⟩:=chk_some h
     obtain⟨z96,hz97,h⟩:=bnd h
     refine e_call (is:=[3]) rfl rfl (call_run Tryz.call62 rfl rfl (by kernel_rfl)) rfl (λw hp=>t_slices_Delete_pull_way_pull_way (ho4_10.mono hl90) z12 (i64b_of hk95) (w64 (z12+1)) (w64_r _) hp hz97) ?_
     rintro Γ98 U100 v101 hl99 ⟨A102,c103,row104,rfl,rfl,hr105,_⟩
     change WR _ _ _ (CC F Γ98 [row104,[(g1,.cells #[.int .i64 (gt (List.take [(-1),(-1)].length path++List.drop path.length [(-1),(-1)]) 0),.int .i64 (gt (List.take [(-1),(-1)].length path++List.drop path.length [(-1),(-1)]) 1)] 100 (0,0))],[(gp_,.cells #[.int .i64 p_.id,(pq g1_10),.bool p_.begun,.slice A3_10 p_.vec.length c3_10,.slice A4_10 p_.wants.length c4_10,(pq g5_10)] ep_ (0,0))],r1_10,r5_10]) _ _ (upd _ 90 (.slice A102 z96.length c103))
     refine vb (q_nil (A:=some ⟨gp_,0,none⟩) rfl rfl rfl) ?_
     refine vb (q_fl 4 fld_97_4 rfl rfl rfl) ?_
     refine e_st (i:=2) (v:=.slice A102 z96.length c103) (new:=#[.int .i64 p_.id,(pq g1_10),.bool p_.begun,.slice A3_10 p_.vec.length c3_10,.slice A102 z96.length c103,(pq g5_10)]) rfl Tryz.sizeOf95 rfl rfl rfl rfl (by kernel_rfl) rfl rfl rfl rfl ?_
     refine a6 ?_
     refine a8 ?_
     refine a7 ?_
     refine mv (v:=.slice Alist list.length clist) ?_
     refine vb (q_len_slice rfl Tryz.underlying23 rfl) ?_
     refine mv (v:=.int .i64 0) ?_
     refine a6 ?_
     refine af ?_
     obtain⟨row_106,hrow_106,hob_106⟩:∃rw:Rowb,rw=([[(gp_,.cells #[.int .i64 p_.id,(pq g1_10),.bool p_.begun,.slice A3_10 p_.vec.length c3_10,.slice A102 z96.length c103,(pq g5_10)] ep_ (0,0))],r1_10,row104,r5_10]:List Rowb).flatten∧Opull_Pull.ob ep_ Γ98 gp_ rw (⟨p_.id,p_.own,p_.begun,p_.vec,z96,p_.staged⟩:Opull_Pull):=⟨_,rfl,g1_10,r1_10,A3_10,c3_10,A102,c103,row104,g5_10,r5_10,rfl,ho0_10,(ho1_10.mono (hl90.trans hl99)),ho2_10,(ho3_10.mono (hl90.trans hl99)),hr105,(ho5_10.mono (hl90.trans hl99)),trivial⟩
     intro w hw; have hw:=hw.fold (is:=[2,2,0,1]) rfl hrow_106
     refine aa (C:=CC F Γ98 [row_106,[(g1,.cells #[.int .i64 (gt (List.take [(-1),(-1)].length path++List.drop path.length [(-1),(-1)]) 0),.int .i64 (gt (List.take [(-1),(-1)].length path++List.drop path.length [(-1),(-1)]) 1)] 100 (0,0))]]) ?_ hw
     clear hw
     refine ap h (λ(i113:Nat) (o109:Opull_Pull) σ w => ∃(Γ107:Gh), ∃(row110:Rowb),slots σ [(0,(pq gp_)),(93,.slice Alist list.length clist),(94,.int .i64 ((list.length:Nat):Int)),(95,.int .i64 ((i113:Nat):Int))]∧CC F Γ107 [row110] w∧Gh.le Γ98 Γ107∧Opull_Pull.ob ep_ Γ107 gp_ row110 o109∧True) ?_ ?_
     ·
      intro w hw
      exact⟨Γ98,row_106,(sl_ (by kernel_rfl)),(hw.only (is:=[0]) rfl),(Gh.refl _),hob_106,trivial⟩
     rintro f112 i113 o109 σ w hi114 hlt115 hge116 ⟨Γ107,row110,hsl,hw,hl108,ho111,-⟩
     refine Wpt.slots hsl ?_
     refine aa (C:=CC F Γ107 [row110]) ?_ hw
     clear hw hsl
     refine a7 ?_
     refine vb (q_lss rfl rfl rfl) ?_
     refine a6 ?_
     refine a8 ?_
     refine WC.cond (b:=(decide (((i113:Nat):Int)<((list.length:Nat):Int)))) (by kernel_rfl) (λhb117=>?_) (λhb117=>?_)
     ·
      have hl118:=ilt hb117
      have h:=hlt115 hl118
      refine ae ?_
      change WC _ _ _ _ _ _
      refine a8 ?_
      refine af ?_
      refine a7 ?_
      refine vb (q_ixn (i:=i113) Tryz.underlying23 Tryz.sizeOf70 rfl rfl rfl hl118 ((hlist.mono ((hl90.trans hl99).trans hl108)).some_ hl118)) ?_
      obtain⟨A119,c120,hx121⟩:=(hlist.mono ((hl90.trans hl99).trans hl108)).recT_at i113
      refine vb (q_lda (c:=0) (vs:=[.string (gt list i113).key,.slice A119 ((gt list i113).vers).length c120]) (hx121 hl118).2 rfl Tryz.isAgg70 Tryz.sizeOf70 rfl rfl rfl) ?_
      refine e_alloc Tryz.zeroValue70 rfl rfl rfl rfl ?_
      intro g122
      refine e_st (i:=0) (v:=.agg #[.string (gt list i113).key,.slice A119 ((gt list i113).vers).length c120]) (new:=#[.string (gt list i113).key,.slice A119 ((gt list i113).vers).length c120]) rfl Tryz.sizeOf70 rfl rfl rfl rfl (by kernel_rfl) rfl rfl rfl rfl ?_
      refine a6 ?_
      intro w hw; have h0123:=hw.le
      refine aa (C:=CC F Γ107 [[(g122,.cells #[.string (gt list i113).key,.slice A119 ((gt list i113).vers).length c120] 70 (0,0))],row110]) ?_ hw; clear hw
      refine av (CC F Γ107 [[(g122,.cells #[.string (gt list i113).key,.slice A119 ((gt list i113).vers).length c120] 70 (0,0))]]) (by kernel_rfl) (λw hw=>hw.drawn _) ?_
      change WH _ _ _ _ (CC F Γ107 [[(g122,.cells #[.string (gt list i113).key,.slice A119 ((gt list i113).vers).length c120] 70 (0,0))],row110]) _ 6 #[false,false,false,false,false,false] _
      refine hu 0 rfl (bk_ (Gh.refl _) h0123 (.cons_cons _ (.cons _ .slnil))) (q_move (v:=(pq gp_)) rfl (by kernel_rfl)) ?_
      refine hu 1 rfl (bk_ (Gh.refl _) h0123 (.cons_cons _ (.cons _ .slnil))) (q_nil (A:=some ⟨gp_,0,none⟩) rfl rfl rfl) ?_
      refine hu 2 rfl (bk_ (Gh.refl _) h0123 (.cons_cons _ (.cons _ .slnil))) (q_fl 5 fld_97_5 rfl rfl rfl) ?_
      refine hu 4 rfl (bk_ (Gh.refl _) h0123 (.cons_cons _ (.cons _ .slnil))) (q_ldla (i:=0) (vs:=[.string (gt list i113).key,.slice A119 ((gt list i113).vers).length c120]) rfl rfl Tryz.isAgg70 Tryz.sizeOf70 rfl rfl) ?_
      refine ai (i:=3) (by kernel_rfl) rfl ?_
      have hq:=ho111
      obtain⟨g1_124,r1_124,A3_124,c3_124,A4_124,c4_124,r4_124,g5_124,r5_124,hrow_124,ho0_124,ho1_124,ho2_124,ho3_124,ho4_124,ho5_124,-⟩:=hq
      intro w hw; have hw:=hw.unfold (i:=1) rfl hrow_124
      refine ao (C:=CC F Γ107 [[(gp_,.cells #[.int .i64 o109.id,(pq g1_124),.bool o109.begun,.slice A3_124 o109.vec.length c3_124,.slice A4_124 o109.wants.length c4_124,(pq g5_124)] ep_ (0,0))],r1_124,r4_124,r5_124,[(g122,.cells #[.string (gt list i113).key,.slice A119 ((gt list i113).vers).length c120] 70 (0,0))]]) ?_ hw
      clear hw
      refine vb (q_ldl (i:=0) (v:=(pq g5_124)) rfl rfl Tryz.isAgg79 rfl rfl) ?_
      refine ab ?_
      refine WH.next (bk_ (Gh.refl _) h0123 (.cons _ (.cons _ (.cons _ (.cons _ (.cons_cons _ .slnil)))))) ?_
      refine ai (i:=5) (by kernel_rfl) rfl ?_
      obtain⟨z125,hz126,h⟩:=bnd h
      refine e_call (is:=[3]) rfl rfl (call_run Tryz.call66 rfl rfl (by kernel_rfl)) rfl (λw hp=>t_tree_Tree_Set ho5_124 (gt list i113) (hx121 hl118).1 hp hz126) ?_
      rintro Γ127 U129 v130 hl128 ⟨row131,rfl,rfl,hr132,hr133,_⟩
      change WR _ _ _ (CC F Γ127 [row131,[(gp_,.cells #[.int .i64 o109.id,(pq g1_124),.bool o109.begun,.slice A3_124 o109.vec.length c3_124,.slice A4_124 o109.wants.length c4_124,(pq g5_124)] ep_ (0,0))],r1_124,r4_124,[(g122,.cells #[.string (gt list i113).key,.slice A119 ((gt list i113).vers).length c120] 70 (0,0))]]) _ _ (upd _ 104 (.int .i64 z125.2))
      refine ab ?_
      refine WH.next (bk_ hl128 h0123 (.cons _ (.cons _ (.cons _ (.cons _ (.cons_cons _ .slnil)))))) ?_
      refine au (by kernel_rfl) ?_
      change WC _ _ _ _ _ _
      refine ah ?_
      refine vb (q_add_r (r:=((i113+1:Nat):Int)) rfl rfl rfl (ctr_len hl118 (hlist.mono ((hl90.trans hl99).trans hl108)).le)) ?_
      refine mv (v:=.int .i64 ((i113+1:Nat):Int)) ?_
      refine ab ?_
      intro w hw
      obtain⟨row_134,hrow_134,hob_134⟩:∃rw:Rowb,rw=([[(gp_,.cells #[.int .i64 o109.id,(pq g1_124),.bool o109.begun,.slice A3_124 o109.vec.length c3_124,.slice A4_124 o109.wants.length c4_124,(pq g5_124)] ep_ (0,0))],r1_124,r4_124,row131]:List Rowb).flatten∧Opull_Pull.ob ep_ Γ127 gp_ rw (⟨o109.id,o109.own,o109.begun,o109.vec,o109.wants,z125.1⟩:Opull_Pull):=⟨_,rfl,g1_124,r1_124,A3_124,c3_124,A4_124,c4_124,r4_124,g5_124,row131,rfl,ho0_124,(ho1_124.mono hl128),ho2_124,(ho3_124.mono hl128),(ho4_124.mono hl128),hr132,trivial⟩
      have hw:=hw.fold (is:=[1,1,1,0]) rfl hrow_134
      exact⟨hl118,(⟨o109.id,o109.own,o109.begun,o109.vec,o109.wants,z125.1⟩:Opull_Pull),h,Γ127,row_134,(sl_ (by kernel_rfl)),(hw.only (is:=[0]) rfl),(hl108.trans hl128),hob_134,trivial⟩
     ·
      have h:=hge116 (ige hb117)
      refine am ?_
      change WC _ _ _ _ _ _
      refine a7 ?_
      refine as_ (v:=.bool true) ?_
      refine a6 ?_
      refine ac ?_
      intro w hw
      cases h
      subst hF
      exact end_e (is:=[0]) (by kernel_rfl) hw rfl ⟨row110,rfl,rfl,ho111,trivial⟩
abbrev r_firthlaw19_told(gc_:Nat)(ec_:Nat)(gp_:Nat)(ep_:Nat)(r:Opull_Cut×Opull_Pull×Bool)(U:List Rowb)(Γ:Gh)(v:Value):Prop := ∃(rowc_':Rowb), ∃(rowp_':Rowb),v = .bool r.2.2∧U = [rowc_',rowp_']∧Opull_Cut.ob ec_ Γ gc_ rowc_' r.1∧Opull_Pull.ob ep_ Γ gp_ rowp_' r.2.1∧True
theorem t_firthlaw19_told{Γ:Gh}{w0:World}{gc_ ec_:Nat}{rowc_:Rowb}{c_:Opull_Cut}(hc_:Opull_Cut.ob ec_ Γ gc_ rowc_ c_){gp_ ep_:Nat}{rowp_:Rowb}{p_:Opull_Pull}(hp_:Opull_Pull.ob ep_ Γ gp_ rowp_ p_){Aorder:Option Addr}{corder:Nat}{order:List Int}(horder:Sl intT Γ Aorder order)(horderc:order.length≤corder)(hp:Pre [rowc_,rowp_] Γ w0){r:Opull_Cut×Opull_Pull×Bool}(h:m_firthlaw19_told c_ p_ order=some r):Calls Tryz.prog 37 #[(pq gc_),(pq gp_),.slice Aorder order.length corder] w0 (Outc Γ [rowc_,rowp_] w0 (r_firthlaw19_told gc_ ec_ gp_ ep_ r)):=by
 refine calls_of (N:=59) (rs:=[6]) (args:=[(pq gc_),(pq gp_),.slice Aorder order.length corder]) Tryz.func37 rfl Tryz.ntmps37 Tryz.results37 rfl ?_
 obtain⟨F,hF⟩:∃F:Fm,F=⟨ids [rowc_,rowp_],w0,Γ⟩:=⟨_,rfl⟩
 refine aa (C:=CC F Γ [rowc_,rowp_]) ?_ (hF▸hp.start)
 refine a7 ?_
 refine as_ (v:=.bool false) ?_
 refine a6 ?_
 refine a8 ?_
 refine a7 ?_
 refine as_ (v:=.int .i64 0) ?_
 refine a6 ?_
 refine af ?_
 refine az h (λ(i10:Nat) (s:Opull_Cut×Opull_Pull) σ w=>match s with | (o3,o6) => ∃(Γ1:Gh), ∃(row4:Rowb), ∃(row7:Rowb),slots σ [(0,(pq gc_)),(1,(pq gp_)),(2,.slice Aorder order.length corder),(7,.int .i64 ((i10:Nat):Int))]∧CC F Γ1 [row4,row7] w∧Gh.le Γ Γ1∧Opull_Cut.ob ec_ Γ1 gc_ row4 o3∧Opull_Pull.ob ep_ Γ1 gp_ row7 o6∧True) ?_ ?_
 ·
  intro w hw
  exact⟨Γ,rowc_,rowp_,(sl_ (by kernel_rfl)),hw,(Gh.refl _),hc_,hp_,trivial⟩
 rintro f9 i10 ⟨o3,o6⟩ σ w hi11 hlt12 hge13 ⟨Γ1,row4,row7,hsl,hw,hl2,ho5,ho8,-⟩
 refine Wpt.slots hsl ?_
 refine aa (C:=CC F Γ1 [row4,row7]) ?_ hw
 clear hw hsl
 refine a8 ?_
 refine a7 ?_
 refine mv (v:=.int .i64 ((i10:Nat):Int)) ?_
 refine vb (q_lss rfl rfl rfl) ?_
 refine a6 ?_
 refine WC.cond (b:=(decide (((i10:Nat):Int)<300))) (by kernel_rfl) (λhb14=>?_) (λhb14=>?_)
 ·
  have hl15:=ilt hb14
  have h:=hlt12 hl15
  refine ae ?_
  change WC _ _ _ _ _ _
  refine a8 ?_
  refine af ?_
  refine a7 ?_
  refine mv (v:=(pq gp_)) ?_
  obtain⟨z16,hz17,h⟩:=bnd h
  refine e_call (is:=[1]) rfl rfl (call_run Tryz.call31 rfl rfl (by kernel_rfl)) rfl (λw hp=>t_pull_Pull_Wants ho8 hp hz17) ?_
  rintro Γ18 U20 v21 hl19 ⟨A22,c23,row24,rfl,rfl,hr25,_⟩
  change WR _ _ _ (CC F Γ18 [row7,row24,row4]) _ _ (upd _ 18 (.slice A22 z16.length c23))
  refine as_ (v:=.slice A22 z16.length c23) ?_
  refine a6 ?_
  refine a8 ?_
  refine a7 ?_
  refine mv (v:=.slice A22 z16.length c23) ?_
  refine vb (q_len_slice rfl Tryz.underlying57 rfl) ?_
  refine vb (q_eql rfl rfl rfl) ?_
  refine a6 ?_
  refine aj h (by kernel_rfl) (λhb26 h=>?_) (λhb26 h=>?_)
  ·
   refine a7 ?_
   refine as_ (v:=.bool true) ?_
   refine a6 ?_
   refine ac ?_
   intro w hw
   cases h
   subst hF
   exact end_e (is:=[2,0]) (by kernel_rfl) hw rfl ⟨row4,row7,rfl,rfl,(ho5.mono hl19),(ho8.mono hl19),trivial⟩
  ·
   refine ae ?_
   change WC _ _ _ _ _ _
   refine a7 ?_
   refine as_ (v:=.int .i64 0) ?_
   refine a6 ?_
   refine ax (λσ w => ∃(at_27:Int),m_firthlaw19_told_j5 o3 o6 f9 z16 at_27=some r∧slots σ [(0,(pq gc_)),(1,(pq gp_)),(2,.slice Aorder order.length corder),(7,.int .i64 ((i10:Nat):Int)),(8,.slice A22 z16.length c23),(9,.int .i64 at_27)]∧CC F Γ18 [row7,row24,row4] w∧I64 at_27∧True) ?_ ?_
   ·
    refine a7 ?_
    refine mv (v:=.int .i64 ((i10:Nat):Int)) ?_
    refine mv (v:=.slice Aorder order.length corder) ?_
    refine vb (q_len_slice rfl Tryz.underlying24 rfl) ?_
    refine vb (q_lss rfl rfl rfl) ?_
    refine a6 ?_
    refine aj h (by kernel_rfl) (λhb29 h=>?_) (λhb29 h=>?_)
    ·
     refine ah ?_
     refine mv (v:=.slice Aorder order.length corder) ?_
     refine mv (v:=.int .i64 ((i10:Nat):Int)) ?_
     obtain⟨hk30,h⟩:=chk_some h
     refine vb (q_ixn (i:=i10) Tryz.underlying24 Tryz.sizeOf3 rfl rfl rfl (of_decide_eq_true hk30) ((horder.mono (hl2.trans hl19)).some_ (of_decide_eq_true hk30))) ?_
     refine vb (q_ld (c:=0) (v:=.int .i64 (gt order i10)) ((horder.mono (hl2.trans hl19)).intT_at (of_decide_eq_true hk30)).2 rfl Tryz.isAgg3 rfl rfl) ?_
     refine vb (q_conv Tryz.underlying109 Tryz.underlying3 rfl rfl) ?_
     refine mv (v:=.slice A22 z16.length c23) ?_
     refine vb (q_len_slice rfl Tryz.underlying57 rfl) ?_
     refine vb (q_conv Tryz.underlying109 Tryz.underlying3 rfl rfl) ?_
     obtain⟨hk31,h⟩:=chk_some h
     refine vb (q_rem rfl rfl rfl hk31) ?_
     refine vb (q_conv Tryz.underlying3 Tryz.underlying109 rfl rfl) ?_
     refine as_ (v:=.int .i64 (w64 ((wu64 (gt order i10)).tmod (wu64 ((z16.length:Nat):Int))))) ?_
     exact ab λw hw=>⟨(w64 ((wu64 (gt order i10)).tmod (wu64 ((z16.length:Nat):Int)))),h,(sl_ (by kernel_rfl)),hw,(w64_r _),trivial⟩
    ·
     exact ae λw hw=>⟨0,h,(sl_ (by kernel_rfl)),hw,(show I64 0 by decide),trivial⟩
   ·
    rintro σ w ⟨at_27,h,hsl,hw,hr28,-⟩
    refine Wpt.slots hsl ?_
    refine aa (C:=CC F Γ18 [row7,row24,row4]) ?_ hw
    clear hw hsl
    refine a7 ?_
    refine mv (v:=(pq gc_)) ?_
    refine mv (v:=.slice A22 z16.length c23) ?_
    refine mv (v:=.int .i64 at_27) ?_
    obtain⟨hk32,h⟩:=chk_some h
    refine vb (q_ix Tryz.underlying57 Tryz.sizeOf24 rfl rfl rfl hk32 (hr25.some_ (inb_lt hk32))) ?_
    obtain⟨A33,c34,hx35⟩:=hr25.slT_at at_27.toNat
    refine vb (q_ldo (c:=0) (v:=.slice A33 (gt z16 at_27.toNat).length c34) (i:=1) rfl (hx35 (inb_lt hk32)).2 rfl Tryz.isAgg24 rfl rfl) ?_
    obtain⟨z36,hz37,h⟩:=bnd h
    refine e_call (is:=[2]) rfl rfl (call_run Tryz.call13 rfl rfl (by kernel_rfl)) rfl (λw hp=>t_pull_Cut_Want (ho5.mono hl19) (hx35 (inb_lt hk32)).1.2 (hx35 (inb_lt hk32)).1.1 hp hz37) ?_
    rintro Γ38 U40 v41 hl39 ⟨row42,A44,c45,row46,A48,c49,row50,rfl,rfl,hr43,hr47,hr51,_⟩
    change WR _ _ _ (CC F Γ38 [row42,row46,row50,row7,row24]) _ _ (upd _ 42 (.tuple #[.slice A44 z36.2.1.length c45,.slice A48 z36.2.2.1.length c49,.bool z36.2.2.2]))
    refine mv (v:=.tuple #[.slice A44 z36.2.1.length c45,.slice A48 z36.2.2.1.length c49,.bool z36.2.2.2]) ?_
    refine vb (q_extract (v:=.slice A44 z36.2.1.length c45) rfl rfl rfl) ?_
    refine vb (q_extract (v:=.slice A48 z36.2.2.1.length c49) rfl rfl rfl) ?_
    refine vb (q_extract (v:=.bool z36.2.2.2) rfl rfl rfl) ?_
    refine as_ (v:=.slice A44 z36.2.1.length c45) ?_
    refine as_ (v:=.slice A48 z36.2.2.1.length c49) ?_
    refine as_ (v:=.bool z36.2.2.2) ?_
    refine a6 ?_
    refine a7 ?_
    refine mv (v:=.bool z36.2.2.2) ?_
    refine vb (q_not rfl rfl) ?_
    refine mv (v:=.bool (!z36.2.2.2)) ?_
    refine vg0 rfl rfl rfl rfl rfl (λhg52=>QV.qo (q_move (v:=(pq gp_)) rfl (by kernel_rfl))) ?_
    refine vg0 rfl rfl rfl rfl rfl (λhg53=>QV.qo (q_move (v:=.slice A22 z16.length c23) rfl (by kernel_rfl))) ?_
    refine vg0 rfl rfl rfl rfl rfl (λhg54=>QV.qo (q_move (v:=.int .i64 at_27) rfl (by kernel_rfl))) ?_
    refine vg0 rfl rfl rfl rfl rfl (λhg55=>QV.qo (q_ix Tryz.underlying57 Tryz.sizeOf24 rfl (gu hg55 rfl) (gu hg55 rfl) hk32 ((hr25.mono hl39).some_ (inb_lt hk32)))) ?_
    refine vg0 rfl rfl rfl rfl rfl (λhg56=>QV.qo (q_ldo (c:=0) (v:=.slice A33 (gt z16 at_27.toNat).length c34) (i:=4) rfl (hx35 (inb_lt hk32)).2 rfl Tryz.isAgg24 (gu hg56 rfl) rfl)) ?_
    refine vg0 rfl rfl rfl rfl rfl (λhg57=>QV.qo (q_move (v:=.slice A44 z36.2.1.length c45) rfl (by kernel_rfl))) ?_
    refine vg0 rfl rfl rfl rfl rfl (λhg58=>QV.qo (q_move (v:=.slice A48 z36.2.2.1.length c49) rfl (by kernel_rfl))) ?_
    refine(Bool.eq_false_or_eq_true (!(!z36.2.2.2))).elim (λhb59=>?_) (λhb59=>?_)
    ·
     have h:=bt hb59 h
     refine WR.sat (c0:=true) (g:=(!z36.2.2.2)) rfl rfl rfl hb59 ?_
     have hc64:=hr47.capz
     intro w hw; obtain⟨Γ60,hw,hl61,hr62⟩:=hw.seal (i:=1) rfl; have hs63:=hr47.sl hl61 hr62
     refine ao (C:=CC F Γ60 [row42,[],row50,row7,row24]) ?_ hw
     clear hw
     have hc69:=(hr51.mono hl61).capz
     intro w hw; obtain⟨Γ65,hw,hl66,hr67⟩:=hw.seal (i:=2) rfl; have hs68:=(hr51.mono hl61).sl hl66 hr67
     refine ao (C:=CC F Γ65 [row42,[],[],row7,row24]) ?_ hw
     clear hw
     obtain⟨z70,hz71,h⟩:=bnd h
     refine e_call (is:=[3]) rfl rfl (call_run Tryz.call26 rfl rfl (args4 (gu hb59 rfl) (gu hb59 rfl) (gu hb59 rfl) (gu hb59 rfl))) rfl (λw hp=>t_pull_Pull_Tell (ho8.mono (((hl19.trans hl39).trans hl61).trans hl66)) ((hx35 (inb_lt hk32)).1.2.mono ((hl39.trans hl61).trans hl66)) (hx35 (inb_lt hk32)).1.1 (hs63.mono hl66) hc64 hs68 hc69 hp hz71) ?_
     rintro Γ72 U74 v75 hl73 ⟨row76,rfl,rfl,hr77,_⟩
     change WR _ _ _ (CC F Γ72 [row76,row42,[],[],row24]) _ _ (upd _ 56 (.bool z70.2))
     refine WR.sat (c0:=true) (g:=(!z36.2.2.2)) rfl rfl rfl hb59 ?_
     refine vb (q_not rfl rfl) ?_
     refine vb (q_pick_f (v:=.bool (!z70.2)) rfl rfl (not_t hb59) (by kernel_rfl)) ?_
     refine a6 ?_
     refine aj h (by kernel_rfl) (λhb78 h=>?_) (λhb78 h=>?_)
     ·
      refine a7 ?_
      refine as_ (v:=.bool false) ?_
      refine a6 ?_
      refine ac ?_
      intro w hw
      cases h
      subst hF
      exact end_e (is:=[1,0]) (by kernel_rfl) hw rfl ⟨row42,row76,rfl,rfl,(hr43.mono ((hl61.trans hl66).trans hl73)),hr77,trivial⟩
     ·
      refine ae ?_
      change WC _ _ _ _ _ _
      refine ah ?_
      refine mv (v:=.int .i64 ((i10:Nat):Int)) ?_
      refine vb (q_add_r (r:=((i10+1:Nat):Int)) rfl rfl rfl (ctr_lit hl15 (by decide))) ?_
      refine as_ (v:=.int .i64 ((i10+1:Nat):Int)) ?_
      exact ab λw hw=>⟨hl15,(z36.1,z70.1),h,Γ72,row42,row76,(sl_ (by kernel_rfl)),(hw.only (is:=[1,0]) rfl),(((((hl2.trans hl19).trans hl39).trans hl61).trans hl66).trans hl73),(hr43.mono ((hl61.trans hl66).trans hl73)),hr77,trivial⟩
    ·
     have h:=bf hb59 h
     refine ak (c0:=true) (g:=(!z36.2.2.2)) rfl rfl rfl hb59 rfl ?_
     refine ak (c0:=true) (g:=(!z36.2.2.2)) rfl rfl rfl hb59 rfl ?_
     refine vb (q_pick_t (v:=.bool true) rfl rfl (not_f hb59) (by kernel_rfl)) ?_
     refine a6 ?_
     refine WC.ctk (b:=true) (by kernel_rfl) rfl ?_
     refine a7 ?_
     refine as_ (v:=.bool false) ?_
     refine a6 ?_
     refine ac ?_
     intro w hw
     cases h
     subst hF
     exact end_e (is:=[0,2]) (by kernel_rfl) hw rfl ⟨row42,row7,rfl,rfl,hr43,(ho8.mono (hl19.trans hl39)),trivial⟩
 ·
  have h:=hge13 (ige hb14)
  refine am ?_
  change WC _ _ _ _ _ _
  refine a7 ?_
  refine as_ (v:=.bool false) ?_
  refine a6 ?_
  refine ac ?_
  intro w hw
  cases h
  subst hF
  exact end_e (is:=[0,0]) (by kernel_rfl) hw rfl ⟨row4,row7,rfl,rfl,ho5,ho8,trivial⟩
theorem t_pull_Cut_Id{Γ:Gh}{w0:World}{gc_ ec_:Nat}{rowc_:Rowb}{c_:Opull_Cut}(hc_:Opull_Cut.ob ec_ Γ gc_ rowc_ c_)(hc_r:∀p∈rowc_,Γ p.1=some p.2)(hs:Sat Γ w0){r:Int}(h:m_pull_Cut_Id c_=some r):Calls Tryz.prog 21 #[(pq gc_)] w0 (λe w'=>e = .returned (.int .i64 r)∧Fr no w0 w'):=by
 refine calls_of (N:=7) (rs:=[2]) (args:=[(pq gc_)]) Tryz.func21 rfl Tryz.ntmps21 Tryz.results21 rfl ?_
 obtain⟨F,hF⟩:∃F:Fm,F=⟨no,w0,Γ⟩:=⟨_,rfl⟩
 refine aa (C:=CC F Γ []) ?_ (hF▸Cur.start0 hs)
 refine a7 ?_
 refine as_ (v:=.int .i64 0) ?_
 refine a6 ?_
 refine a7 ?_
 refine mv (v:=(pq gc_)) ?_
 refine vb (q_nil (A:=some ⟨gc_,0,none⟩) rfl rfl rfl) ?_
 refine vb (q_fl 0 fld_85_0 rfl rfl rfl) ?_
 have hq:=hc_
 obtain⟨A1_1,c1_1,g2_1,r2_1,hrow_1,ho0_1,ho1_1,ho2_1,ho3_1,-⟩:=hq
 have hg_2:∀u∈([[(gc_,.cells #[.int .i64 c_.id,.slice A1_1 c_.vec.length c1_1,(pq g2_1)] ec_ (0,0))],r2_1]:List Rowb), ∀p∈u,Γ p.1=some p.2:=λu hu p hp=>(λp hp=>(hc_r p hp)) p (hrow_1▸List.mem_flatten.2 ⟨u,hu,hp⟩)
 have hgc3:=hg_2 _ (List.mem_cons_self ..) (gc_,_) (List.mem_singleton.2 rfl)
 have hgs4:=hg_2 r2_1 (by simp)
 refine vb (q_ldg (v:=.int .i64 c_.id) hgc3 rfl Tryz.isAgg2 rfl rfl) ?_
 refine as_ (v:=.int .i64 c_.id) ?_
 refine a6 ?_
 refine ac ?_
 intro w hw
 cases h
 subst hF
 exact⟨by kernel_rfl,hw.fr⟩
theorem t_pull_Pull_Id{Γ:Gh}{w0:World}{gp_ ep_:Nat}{rowp_:Rowb}{p_:Opull_Pull}(hp_:Opull_Pull.ob ep_ Γ gp_ rowp_ p_)(hp_r:∀p∈rowp_,Γ p.1=some p.2)(hs:Sat Γ w0){r:Int}(h:m_pull_Pull_Id p_=some r):Calls Tryz.prog 34 #[(pq gp_)] w0 (λe w'=>e = .returned (.int .i64 r)∧Fr no w0 w'):=by
 refine calls_of (N:=7) (rs:=[2]) (args:=[(pq gp_)]) Tryz.func34 rfl Tryz.ntmps34 Tryz.results34 rfl ?_
 obtain⟨F,hF⟩:∃F:Fm,F=⟨no,w0,Γ⟩:=⟨_,rfl⟩
 refine aa (C:=CC F Γ []) ?_ (hF▸Cur.start0 hs)
 refine a7 ?_
 refine as_ (v:=.int .i64 0) ?_
 refine a6 ?_
 refine a7 ?_
 refine mv (v:=(pq gp_)) ?_
 refine vb (q_nil (A:=some ⟨gp_,0,none⟩) rfl rfl rfl) ?_
 refine vb (q_fl 0 fld_97_0 rfl rfl rfl) ?_
 have hq:=hp_
 obtain⟨g1_1,r1_1,A3_1,c3_1,A4_1,c4_1,r4_1,g5_1,r5_1,hrow_1,ho0_1,ho1_1,ho2_1,ho3_1,ho4_1,ho5_1,-⟩:=hq
 have hg_2:∀u∈([[(gp_,.cells #[.int .i64 p_.id,(pq g1_1),.bool p_.begun,.slice A3_1 p_.vec.length c3_1,.slice A4_1 p_.wants.length c4_1,(pq g5_1)] ep_ (0,0))],r1_1,r4_1,r5_1]:List Rowb), ∀p∈u,Γ p.1=some p.2:=λu hu p hp=>(λp hp=>(hp_r p hp)) p (hrow_1▸List.mem_flatten.2 ⟨u,hu,hp⟩)
 have hgc3:=hg_2 _ (List.mem_cons_self ..) (gp_,_) (List.mem_singleton.2 rfl)
 have hgs4:=hg_2 r1_1 (by simp)
 have hgs5:=hg_2 r4_1 (by simp)
 have hgs6:=hg_2 r5_1 (by simp)
 have hs7:=ho4_1.sl (Gh.refl _) hgs5
 refine vb (q_ldg (v:=.int .i64 p_.id) hgc3 rfl Tryz.isAgg2 rfl rfl) ?_
 refine as_ (v:=.int .i64 p_.id) ?_
 refine a6 ?_
 refine ac ?_
 intro w hw
 cases h
 subst hF
 exact⟨by kernel_rfl,hw.fr⟩
abbrev r_pull_Pull_Staged(gp_:Nat)(ep_:Nat)(rowp_:Rowb)(r:List Rec)(U:List Rowb)(Γ:Gh)(v:Value):Prop := ∃(A0:Option Addr), ∃(c0:Nat), ∃(row0:Rowb),v = .slice A0 r.length c0∧U = [rowp_,row0]∧Own recT Γ 70 row0 A0 c0 r∧True
theorem t_pull_Pull_Staged{Γ:Gh}{w0:World}{gp_ ep_:Nat}{rowp_:Rowb}{p_:Opull_Pull}(hp_:Opull_Pull.ob ep_ Γ gp_ rowp_ p_)(hp:Pre [rowp_] Γ w0){r:List Rec}(h:m_pull_Pull_Staged p_=some r):Calls Tryz.prog 32 #[(pq gp_)] w0 (Outc Γ [rowp_] w0 (r_pull_Pull_Staged gp_ ep_ rowp_ r)):=by
 refine calls_of (N:=8) (rs:=[2]) (args:=[(pq gp_)]) Tryz.func32 rfl Tryz.ntmps32 Tryz.results32 rfl ?_
 obtain⟨F,hF⟩:∃F:Fm,F=⟨ids [rowp_],w0,Γ⟩:=⟨_,rfl⟩
 refine aa (C:=CC F Γ [rowp_]) ?_ (hF▸hp.start)
 refine a7 ?_
 refine as_ (v:=.slice none 0 0) ?_
 refine a6 ?_
 refine a7 ?_
 refine mv (v:=(pq gp_)) ?_
 refine vb (q_nil (A:=some ⟨gp_,0,none⟩) rfl rfl rfl) ?_
 refine vb (q_fl 5 fld_97_5 rfl rfl rfl) ?_
 have hq:=hp_
 obtain⟨g1_1,r1_1,A3_1,c3_1,A4_1,c4_1,r4_1,g5_1,r5_1,hrow_1,ho0_1,ho1_1,ho2_1,ho3_1,ho4_1,ho5_1,-⟩:=hq
 intro w hw; have hw:=hw.unfold (i:=0) rfl hrow_1
 refine ao (C:=CC F Γ [[(gp_,.cells #[.int .i64 p_.id,(pq g1_1),.bool p_.begun,.slice A3_1 p_.vec.length c3_1,.slice A4_1 p_.wants.length c4_1,(pq g5_1)] ep_ (0,0))],r1_1,r4_1,r5_1]) ?_ hw
 clear hw
 refine vb (q_ldl (i:=0) (v:=(pq g5_1)) rfl rfl Tryz.isAgg79 rfl rfl) ?_
 obtain⟨z2,hz3,h⟩:=bnd h
 refine e_call (is:=[3]) rfl rfl (call_run Tryz.call53 rfl rfl (by kernel_rfl)) rfl (λw hp=>t_tree_Tree_Recs ho5_1 (Sl.nil intT _ none) (Nat.zero_le 0) hp hz3) ?_
 rintro Γ4 U6 v7 hl5 ⟨A8,c9,row10,rfl,rfl,hr11,_⟩
 change WR _ _ _ (CC F Γ4 [r5_1,row10,[(gp_,.cells #[.int .i64 p_.id,(pq g1_1),.bool p_.begun,.slice A3_1 p_.vec.length c3_1,.slice A4_1 p_.wants.length c4_1,(pq g5_1)] ep_ (0,0))],r1_1,r4_1]) _ _ (upd _ 7 (.slice A8 z2.length c9))
 refine as_ (v:=.slice A8 z2.length c9) ?_
 refine a6 ?_
 refine ac ?_
 intro w hw
 have hw:=hw.fold (is:=[2,2,2,0]) rfl hrow_1
 cases h
 subst hF
 exact end_e (is:=[0,0]) (by kernel_rfl) hw rfl ⟨A8,c9,row10,rfl,rfl,hr11,trivial⟩
theorem t_firthref03_Same{Γ:Gh}{w0:World}{Aa:Option Addr}{ca:Nat}{a:List Span}(ha:Sl spanT Γ Aa a)(hac:a.length≤ca){Ab:Option Addr}{cb:Nat}{b:List Span}(hb:Sl spanT Γ Ab b)(hbc:b.length≤cb)(hs:Sat Γ w0){r:Bool}(h:m_firthref03_Same a b=some r):Calls Tryz.prog 88 #[.slice Aa a.length ca,.slice Ab b.length cb] w0 (λe w'=>e = .returned (.bool r)∧Fr no w0 w'):=by
 refine calls_of (N:=26) (rs:=[4]) (args:=[.slice Aa a.length ca,.slice Ab b.length cb]) Tryz.func88 rfl Tryz.ntmps88 Tryz.results88 rfl ?_
 obtain⟨F,hF⟩:∃F:Fm,F=⟨no,w0,Γ⟩:=⟨_,rfl⟩
 refine aa (C:=CC F Γ []) ?_ (hF▸Cur.start0 hs)
 refine a7 ?_
 refine as_ (v:=.bool false) ?_
 refine a6 ?_
 refine a8 ?_
 refine a7 ?_
 refine mv (v:=.slice Aa a.length ca) ?_
 refine vb (q_len_slice rfl Tryz.underlying113 rfl) ?_
 refine mv (v:=.slice Ab b.length cb) ?_
 refine vb (q_len_slice rfl Tryz.underlying113 rfl) ?_
 refine vb (q_neq rfl rfl rfl) ?_
 refine a6 ?_
 refine aj h (by kernel_rfl) (λhb1 h=>?_) (λhb1 h=>?_)
 ·
  refine a7 ?_
  refine as_ (v:=.bool false) ?_
  refine a6 ?_
  refine ac ?_
  intro w hw
  cases h
  subst hF
  exact⟨by kernel_rfl,hw.fr⟩
 ·
  refine ae ?_
  change WC _ _ _ _ _ _
  refine a8 ?_
  refine a7 ?_
  refine as_ (v:=.int .i64 0) ?_
  refine a6 ?_
  refine af ?_
  refine ap h (λ(i3:Nat) (s:Unit) σ w=>match s with | ()=>slots σ [(0,.slice Aa a.length ca),(1,.slice Ab b.length cb),(5,.int .i64 ((i3:Nat):Int))]∧CC F Γ [] w∧True) ?_ ?_
  ·
   intro w hw
   exact⟨(sl_ (by kernel_rfl)),hw,trivial⟩
  rintro f2 i3 ⟨⟩ σ w hi4 hlt5 hge6 ⟨hsl,hw,-⟩
  refine Wpt.slots hsl ?_
  refine aa (C:=CC F Γ []) ?_ hw
  clear hw hsl
  refine a8 ?_
  refine a7 ?_
  refine mv (v:=.int .i64 ((i3:Nat):Int)) ?_
  refine mv (v:=.slice Aa a.length ca) ?_
  refine vb (q_len_slice rfl Tryz.underlying113 rfl) ?_
  refine vb (q_lss rfl rfl rfl) ?_
  refine a6 ?_
  refine WC.cond (b:=(decide (((i3:Nat):Int)<((a.length:Nat):Int)))) (by kernel_rfl) (λhb7=>?_) (λhb7=>?_)
  ·
   have hl8:=ilt hb7
   have h:=hlt5 hl8
   refine ae ?_
   change WC _ _ _ _ _ _
   refine a8 ?_
   refine af ?_
   refine a8 ?_
   refine ay (by kernel_rfl) (by kernel_rfl) (λw hw=>hw.drawn _) ?_
   refine wa rfl rfl rfl (q_move (v:=.slice Aa a.length ca) rfl (by kernel_rfl)) ?_
   refine wa rfl rfl rfl (q_move (v:=.int .i64 ((i3:Nat):Int)) rfl (by kernel_rfl)) ?_
   refine wa rfl rfl rfl (q_ixn (i:=i3) Tryz.underlying113 Tryz.sizeOf117 rfl rfl rfl hl8 (ha.some_ hl8)) ?_
   refine wa rfl rfl rfl (q_lda (c:=0) (vs:=[.int .i64 (gt a i3).s,.int .i64 (gt a i3).f,.int .i64 (gt a i3).t]) (ha.spanT_at hl8).2 rfl Tryz.isAgg117 Tryz.sizeOf117 rfl rfl rfl) ?_
   refine wa rfl rfl rfl (q_move (v:=.slice Ab b.length cb) rfl (by kernel_rfl)) ?_
   refine wa rfl rfl rfl (q_move (v:=.int .i64 ((i3:Nat):Int)) rfl (by kernel_rfl)) ?_
   obtain⟨hk9,h⟩:=chk_some h
   refine wa rfl rfl rfl (q_ixn (i:=i3) Tryz.underlying113 Tryz.sizeOf117 rfl rfl rfl (of_decide_eq_true hk9) (hb.some_ (of_decide_eq_true hk9))) ?_
   refine wa rfl rfl rfl (q_lda (c:=0) (vs:=[.int .i64 (gt b i3).s,.int .i64 (gt b i3).f,.int .i64 (gt b i3).t]) (hb.spanT_at (of_decide_eq_true hk9)).2 rfl Tryz.isAgg117 Tryz.sizeOf117 rfl rfl rfl) ?_
   refine wa rfl rfl rfl (q_neq_Span (a:=(gt a i3)) (b:=(gt b i3)) rfl rfl rfl) ?_
   refine aw ?_
   change WC _ _ _ _ _ _
   refine aj h (by kernel_rfl) (λhb10 h=>?_) (λhb10 h=>?_)
   ·
    refine a7 ?_
    refine as_ (v:=.bool false) ?_
    refine a6 ?_
    refine ac ?_
    intro w hw
    cases h
    subst hF
    exact⟨by kernel_rfl,hw.fr⟩
   ·
    refine ae ?_
    change WC _ _ _ _ _ _
    refine ah ?_
    refine mv (v:=.int .i64 ((i3:Nat):Int)) ?_
    refine vb (q_add_r (r:=((i3+1:Nat):Int)) rfl rfl rfl (ctr_len hl8 ha.le)) ?_
    refine as_ (v:=.int .i64 ((i3+1:Nat):Int)) ?_
    exact ab λw hw=>⟨hl8,(),h,(sl_ (by kernel_rfl)),hw,trivial⟩
  ·
   have h:=hge6 (ige hb7)
   refine am ?_
   change WC _ _ _ _ _ _
   refine a7 ?_
   refine as_ (v:=.bool true) ?_
   refine a6 ?_
   refine ac ?_
   intro w hw
   cases h
   subst hF
   exact⟨by kernel_rfl,hw.fr⟩
theorem t_firthref05_SameOne{Γ:Gh}{w0:World}{Aa2:Option Addr}{ca2:Nat}(a:Ver)(ha:Ver.fits Γ Aa2 ca2 a){Ab2:Option Addr}{cb2:Nat}(b:Ver)(hb:Ver.fits Γ Ab2 cb2 b)(hs:Sat Γ w0){r:Bool}(h:m_firthref05_SameOne a b=some r):Calls Tryz.prog 72 #[.agg #[.int .i64 a.dot.s,.int .i64 a.dot.n,.slice Aa2 a.past.length ca2,.bool a.gone,.string a.val],.agg #[.int .i64 b.dot.s,.int .i64 b.dot.n,.slice Ab2 b.past.length cb2,.bool b.gone,.string b.val]] w0 (λe w'=>e = .returned (.bool r)∧Fr no w0 w'):=by
 refine calls_of (N:=31) (rs:=[4]) (args:=[.agg #[.int .i64 a.dot.s,.int .i64 a.dot.n,.slice Aa2 a.past.length ca2,.bool a.gone,.string a.val],.agg #[.int .i64 b.dot.s,.int .i64 b.dot.n,.slice Ab2 b.past.length cb2,.bool b.gone,.string b.val]]) Tryz.func72 rfl Tryz.ntmps72 Tryz.results72 rfl ?_
 obtain⟨F,hF⟩:∃F:Fm,F=⟨no,w0,Γ⟩:=⟨_,rfl⟩
 refine aa (C:=CC F Γ []) ?_ (hF▸Cur.start0 hs)
 refine a7 ?_
 refine e_box (v:=.agg #[.int .i64 a.dot.s,.int .i64 a.dot.n,.slice Aa2 a.past.length ca2,.bool a.gone,.string a.val]) rfl rfl rfl rfl (by kernel_rfl) ?_
 intro g1
 refine e_box (v:=.agg #[.int .i64 b.dot.s,.int .i64 b.dot.n,.slice Ab2 b.past.length cb2,.bool b.gone,.string b.val]) rfl rfl rfl rfl (by kernel_rfl) ?_
 intro g2
 refine as_ (v:=.bool false) ?_
 refine a6 ?_
 refine a7 ?_
 refine vb (q_fl 0 fld_115_0 rfl rfl rfl) ?_
 refine vb (q_ldla (i:=1) (vs:=[.int .i64 a.dot.s,.int .i64 a.dot.n]) rfl rfl Tryz.isAgg112 Tryz.sizeOf112 rfl rfl) ?_
 refine vb (q_fl 0 fld_115_0 rfl rfl rfl) ?_
 refine vb (q_ldla (i:=0) (vs:=[.int .i64 b.dot.s,.int .i64 b.dot.n]) rfl rfl Tryz.isAgg112 Tryz.sizeOf112 rfl rfl) ?_
 refine vb (q_eql_Dot (a:=a.dot) (b:=b.dot) rfl rfl rfl) ?_
 refine mv (v:=.bool (a.dot==b.dot)) ?_
 refine vg1 rfl rfl rfl rfl rfl (λhg3=>QV.qo (q_fl 3 fld_115_2 rfl rfl rfl)) ?_
 refine vg1 rfl rfl rfl rfl rfl (λhg4=>QV.qo (q_ldl (i:=1) (v:=.bool a.gone) rfl rfl Tryz.isAgg4 (gu hg4 rfl) rfl)) ?_
 refine vg1 rfl rfl rfl rfl rfl (λhg5=>QV.qo (q_fl 3 fld_115_2 rfl rfl rfl)) ?_
 refine vg1 rfl rfl rfl rfl rfl (λhg6=>QV.qo (q_ldl (i:=0) (v:=.bool b.gone) rfl rfl Tryz.isAgg4 (gu hg6 rfl) rfl)) ?_
 refine vg1 rfl rfl rfl rfl rfl (λhg7=>QV.qo (q_beql Tryz.underlying4 rfl (gu hg7 rfl) (gu hg7 rfl))) ?_
 refine vb (q_pick rfl rfl (pk_and' (g:=(a.dot==b.dot)) (y:=(a.gone==b.gone)))) ?_
 refine mv (v:=.bool ((a.dot==b.dot)&&(a.gone==b.gone))) ?_
 refine vg1 rfl rfl rfl rfl rfl (λhg8=>QV.qo (q_fl 4 fld_115_3 rfl rfl rfl)) ?_
 refine vg1 rfl rfl rfl rfl rfl (λhg9=>QV.qo (q_ldl (i:=1) (v:=.string a.val) rfl rfl Tryz.isAgg9 (gu hg9 rfl) rfl)) ?_
 refine vg1 rfl rfl rfl rfl rfl (λhg10=>QV.qo (q_fl 4 fld_115_3 rfl rfl rfl)) ?_
 refine vg1 rfl rfl rfl rfl rfl (λhg11=>QV.qo (q_ldl (i:=0) (v:=.string b.val) rfl rfl Tryz.isAgg9 (gu hg11 rfl) rfl)) ?_
 refine vg1 rfl rfl rfl rfl rfl (λhg12=>QV.qo (q_seql rfl (gu hg12 rfl) (gu hg12 rfl))) ?_
 refine vb (q_pick rfl rfl (pk_and' (g:=((a.dot==b.dot)&&(a.gone==b.gone))) (y:=(a.val==b.val)))) ?_
 refine mv (v:=.bool (((a.dot==b.dot)&&(a.gone==b.gone))&&(a.val==b.val))) ?_
 refine vg1 rfl rfl rfl rfl rfl (λhg13=>QV.qo (q_fl 2 fld_115_1 rfl rfl rfl)) ?_
 refine vg1 rfl rfl rfl rfl rfl (λhg14=>QV.qo (q_ldl (i:=1) (v:=.slice Aa2 a.past.length ca2) rfl rfl Tryz.isAgg113 (gu hg14 rfl) rfl)) ?_
 refine vg1 rfl rfl rfl rfl rfl (λhg15=>QV.qo (q_fl 2 fld_115_1 rfl rfl rfl)) ?_
 refine vg1 rfl rfl rfl rfl rfl (λhg16=>QV.qo (q_ldl (i:=0) (v:=.slice Ab2 b.past.length cb2) rfl rfl Tryz.isAgg113 (gu hg16 rfl) rfl)) ?_
 obtain⟨z18,hz19,h⟩:=bnd h
 refine vg1 rfl rfl rfl rfl rfl (λhg17=>(q_call (call_run Tryz.call88 rfl rfl (args2 (gu hg17 rfl) (gu hg17 rfl))) (λw hw=>t_firthref03_Same (Γ:=Gh.all w) (ha.2.2.1.2.mono hw.sat.le_all) ha.2.2.1.1 (hb.2.2.1.2.mono hw.sat.le_all) hb.2.2.1.1 (Sat.all w) (gc_of hz19 hg17)))) ?_
 refine vb (q_pick rfl rfl (pk_and' (g:=(((a.dot==b.dot)&&(a.gone==b.gone))&&(a.val==b.val))) (y:=z18))) ?_
 refine as_ (v:=.bool ((((a.dot==b.dot)&&(a.gone==b.gone))&&(a.val==b.val))&&z18)) ?_
 refine a6 ?_
 refine ac ?_
 intro w hw
 cases h
 subst hF
 exact⟨by kernel_rfl,hw.fr⟩
theorem t_firthref05_Same{Γ:Gh}{w0:World}{Aa:Option Addr}{ca:Nat}{a:List Ver}(ha:Sl verT Γ Aa a)(hac:a.length≤ca){Ab:Option Addr}{cb:Nat}{b:List Ver}(hb:Sl verT Γ Ab b)(hbc:b.length≤cb)(hs:Sat Γ w0){r:Bool}(h:m_firthref05_Same a b=some r):Calls Tryz.prog 39 #[.slice Aa a.length ca,.slice Ab b.length cb] w0 (λe w'=>e = .returned (.bool r)∧Fr no w0 w'):=by
 refine calls_of (N:=27) (rs:=[4]) (args:=[.slice Aa a.length ca,.slice Ab b.length cb]) Tryz.func39 rfl Tryz.ntmps39 Tryz.results39 rfl ?_
 obtain⟨F,hF⟩:∃F:Fm,F=⟨no,w0,Γ⟩:=⟨_,rfl⟩
 refine aa (C:=CC F Γ []) ?_ (hF▸Cur.start0 hs)
 refine a7 ?_
 refine as_ (v:=.bool false) ?_
 refine a6 ?_
 refine a8 ?_
 refine a7 ?_
 refine mv (v:=.slice Aa a.length ca) ?_
 refine vb (q_len_slice rfl Tryz.underlying67 rfl) ?_
 refine mv (v:=.slice Ab b.length cb) ?_
 refine vb (q_len_slice rfl Tryz.underlying67 rfl) ?_
 refine vb (q_neq rfl rfl rfl) ?_
 refine a6 ?_
 refine aj h (by kernel_rfl) (λhb1 h=>?_) (λhb1 h=>?_)
 ·
  refine a7 ?_
  refine as_ (v:=.bool false) ?_
  refine a6 ?_
  refine ac ?_
  intro w hw
  cases h
  subst hF
  exact⟨by kernel_rfl,hw.fr⟩
 ·
  refine ae ?_
  change WC _ _ _ _ _ _
  refine a8 ?_
  refine a7 ?_
  refine as_ (v:=.int .i64 0) ?_
  refine a6 ?_
  refine af ?_
  refine ap h (λ(i3:Nat) (s:Unit) σ w=>match s with | ()=>slots σ [(0,.slice Aa a.length ca),(1,.slice Ab b.length cb),(5,.int .i64 ((i3:Nat):Int))]∧CC F Γ [] w∧True) ?_ ?_
  ·
   intro w hw
   exact⟨(sl_ (by kernel_rfl)),hw,trivial⟩
  rintro f2 i3 ⟨⟩ σ w hi4 hlt5 hge6 ⟨hsl,hw,-⟩
  refine Wpt.slots hsl ?_
  refine aa (C:=CC F Γ []) ?_ hw
  clear hw hsl
  refine a8 ?_
  refine a7 ?_
  refine mv (v:=.int .i64 ((i3:Nat):Int)) ?_
  refine mv (v:=.slice Aa a.length ca) ?_
  refine vb (q_len_slice rfl Tryz.underlying67 rfl) ?_
  refine vb (q_lss rfl rfl rfl) ?_
  refine a6 ?_
  refine WC.cond (b:=(decide (((i3:Nat):Int)<((a.length:Nat):Int)))) (by kernel_rfl) (λhb7=>?_) (λhb7=>?_)
  ·
   have hl8:=ilt hb7
   have h:=hlt5 hl8
   refine ae ?_
   change WC _ _ _ _ _ _
   refine a8 ?_
   refine af ?_
   refine a8 ?_
   refine ay (by kernel_rfl) (by kernel_rfl) (λw hw=>hw.drawn _) ?_
   refine wa rfl rfl rfl (q_move (v:=.slice Aa a.length ca) rfl (by kernel_rfl)) ?_
   refine wa rfl rfl rfl (q_move (v:=.int .i64 ((i3:Nat):Int)) rfl (by kernel_rfl)) ?_
   refine wa rfl rfl rfl (q_ixn (i:=i3) Tryz.underlying67 Tryz.sizeOf115 rfl rfl rfl hl8 (ha.some_ hl8)) ?_
   obtain⟨A9,c10,hx11⟩:=ha.verT_at i3
   refine wa rfl rfl rfl (q_lda (c:=0) (vs:=[.int .i64 (gt a i3).dot.s,.int .i64 (gt a i3).dot.n,.slice A9 ((gt a i3).past).length c10,.bool (gt a i3).gone,.string (gt a i3).val]) (hx11 hl8).2 rfl Tryz.isAgg115 Tryz.sizeOf115 rfl rfl rfl) ?_
   refine wa rfl rfl rfl (q_move (v:=.slice Ab b.length cb) rfl (by kernel_rfl)) ?_
   refine wa rfl rfl rfl (q_move (v:=.int .i64 ((i3:Nat):Int)) rfl (by kernel_rfl)) ?_
   obtain⟨hk12,h⟩:=chk_some h
   refine wa rfl rfl rfl (q_ixn (i:=i3) Tryz.underlying67 Tryz.sizeOf115 rfl rfl rfl (of_decide_eq_true hk12) (hb.some_ (of_decide_eq_true hk12))) ?_
   obtain⟨A13,c14,hx15⟩:=hb.verT_at i3
   refine wa rfl rfl rfl (q_lda (c:=0) (vs:=[.int .i64 (gt b i3).dot.s,.int .i64 (gt b i3).dot.n,.slice A13 ((gt b i3).past).length c14,.bool (gt b i3).gone,.string (gt b i3).val]) (hx15 (of_decide_eq_true hk12)).2 rfl Tryz.isAgg115 Tryz.sizeOf115 rfl rfl rfl) ?_
   obtain⟨z16,hz17,h⟩:=bnd h
   refine wc rfl rfl rfl (q_call (call_run Tryz.call72 rfl rfl (by kernel_rfl)) (λw hw=>t_firthref05_SameOne (Γ:=Gh.all w) (gt a i3) (Ver.fits_mono (hx11 hl8).1 hw.sat.le_all) (gt b i3) (Ver.fits_mono (hx15 (of_decide_eq_true hk12)).1 hw.sat.le_all) (Sat.all w) hz17)) ?_
   refine wa rfl rfl rfl (q_not rfl rfl) ?_
   refine aw ?_
   change WC _ _ _ _ _ _
   refine aj h (by kernel_rfl) (λhb18 h=>?_) (λhb18 h=>?_)
   ·
    refine a7 ?_
    refine as_ (v:=.bool false) ?_
    refine a6 ?_
    refine ac ?_
    intro w hw
    cases h
    subst hF
    exact⟨by kernel_rfl,hw.fr⟩
   ·
    refine ae ?_
    change WC _ _ _ _ _ _
    refine ah ?_
    refine mv (v:=.int .i64 ((i3:Nat):Int)) ?_
    refine vb (q_add_r (r:=((i3+1:Nat):Int)) rfl rfl rfl (ctr_len hl8 ha.le)) ?_
    refine as_ (v:=.int .i64 ((i3+1:Nat):Int)) ?_
    exact ab λw hw=>⟨hl8,(),h,(sl_ (by kernel_rfl)),hw,trivial⟩
  ·
   have h:=hge6 (ige hb7)
   refine am ?_
   change WC _ _ _ _ _ _
   refine a7 ?_
   refine as_ (v:=.bool true) ?_
   refine a6 ?_
   refine ac ?_
   intro w hw
   cases h
   subst hF
   exact⟨by kernel_rfl,hw.fr⟩
theorem t_firthref06_SameRecs{Γ:Gh}{w0:World}{Aa:Option Addr}{ca:Nat}{a:List Rec}(ha:Sl recT Γ Aa a)(hac:a.length≤ca){Ab:Option Addr}{cb:Nat}{b:List Rec}(hb:Sl recT Γ Ab b)(hbc:b.length≤cb)(hs:Sat Γ w0){r:Bool}(h:m_firthref06_SameRecs a b=some r):Calls Tryz.prog 16 #[.slice Aa a.length ca,.slice Ab b.length cb] w0 (λe w'=>e = .returned (.bool r)∧Fr no w0 w'):=by
 refine calls_of (N:=42) (rs:=[4]) (args:=[.slice Aa a.length ca,.slice Ab b.length cb]) Tryz.func16 rfl Tryz.ntmps16 Tryz.results16 rfl ?_
 obtain⟨F,hF⟩:∃F:Fm,F=⟨no,w0,Γ⟩:=⟨_,rfl⟩
 refine aa (C:=CC F Γ []) ?_ (hF▸Cur.start0 hs)
 refine a7 ?_
 refine as_ (v:=.bool false) ?_
 refine a6 ?_
 refine a8 ?_
 refine a7 ?_
 refine mv (v:=.slice Aa a.length ca) ?_
 refine vb (q_len_slice rfl Tryz.underlying23 rfl) ?_
 refine mv (v:=.slice Ab b.length cb) ?_
 refine vb (q_len_slice rfl Tryz.underlying23 rfl) ?_
 refine vb (q_neq rfl rfl rfl) ?_
 refine a6 ?_
 refine aj h (by kernel_rfl) (λhb1 h=>?_) (λhb1 h=>?_)
 ·
  refine a7 ?_
  refine as_ (v:=.bool false) ?_
  refine a6 ?_
  refine ac ?_
  intro w hw
  cases h
  subst hF
  exact⟨by kernel_rfl,hw.fr⟩
 ·
  refine ae ?_
  change WC _ _ _ _ _ _
  refine a8 ?_
  refine a7 ?_
  refine as_ (v:=.int .i64 0) ?_
  refine a6 ?_
  refine af ?_
  refine ap h (λ(i3:Nat) (s:Unit) σ w=>match s with | ()=>slots σ [(0,.slice Aa a.length ca),(1,.slice Ab b.length cb),(5,.int .i64 ((i3:Nat):Int))]∧CC F Γ [] w∧True) ?_ ?_
  ·
   intro w hw
   exact⟨(sl_ (by kernel_rfl)),hw,trivial⟩
  rintro f2 i3 ⟨⟩ σ w hi4 hlt5 hge6 ⟨hsl,hw,-⟩
  refine Wpt.slots hsl ?_
  refine aa (C:=CC F Γ []) ?_ hw
  clear hw hsl
  refine a8 ?_
  refine a7 ?_
  refine mv (v:=.int .i64 ((i3:Nat):Int)) ?_
  refine mv (v:=.slice Aa a.length ca) ?_
  refine vb (q_len_slice rfl Tryz.underlying23 rfl) ?_
  refine vb (q_lss rfl rfl rfl) ?_
  refine a6 ?_
  refine WC.cond (b:=(decide (((i3:Nat):Int)<((a.length:Nat):Int)))) (by kernel_rfl) (λhb7=>?_) (λhb7=>?_)
  ·
   have hl8:=ilt hb7
   have h:=hlt5 hl8
   refine ae ?_
   change WC _ _ _ _ _ _
   refine a8 ?_
   refine af ?_
   refine a8 ?_
   refine ay (by kernel_rfl) (by kernel_rfl) (λw hw=>hw.drawn _) ?_
   refine wa rfl rfl rfl (q_move (v:=.slice Aa a.length ca) rfl (by kernel_rfl)) ?_
   refine wa rfl rfl rfl (q_move (v:=.int .i64 ((i3:Nat):Int)) rfl (by kernel_rfl)) ?_
   refine wa rfl rfl rfl (q_ixn (i:=i3) Tryz.underlying23 Tryz.sizeOf70 rfl rfl rfl hl8 (ha.some_ hl8)) ?_
   refine wa rfl rfl rfl (q_field_addr (i3*2) fld_70_0 rfl rfl (ha.some_ hl8) rfl) ?_
   obtain⟨A9,c10,hx11⟩:=ha.recT_at i3
   refine wa rfl rfl rfl (q_ld (c:=0) (v:=.string (gt a i3).key) (hx11 hl8).2 rfl Tryz.isAgg9 rfl rfl) ?_
   refine wa rfl rfl rfl (q_move (v:=.slice Ab b.length cb) rfl (by kernel_rfl)) ?_
   refine wa rfl rfl rfl (q_move (v:=.int .i64 ((i3:Nat):Int)) rfl (by kernel_rfl)) ?_
   obtain⟨hk12,h⟩:=chk_some h
   refine wa rfl rfl rfl (q_ixn (i:=i3) Tryz.underlying23 Tryz.sizeOf70 rfl rfl rfl (of_decide_eq_true hk12) (hb.some_ (of_decide_eq_true hk12))) ?_
   refine wa rfl rfl rfl (q_field_addr (i3*2) fld_70_0 rfl rfl (hb.some_ (of_decide_eq_true hk12)) rfl) ?_
   obtain⟨A13,c14,hx15⟩:=hb.recT_at i3
   refine wa rfl rfl rfl (q_ld (c:=0) (v:=.string (gt b i3).key) (hx15 (of_decide_eq_true hk12)).2 rfl Tryz.isAgg9 rfl rfl) ?_
   refine wa rfl rfl rfl (q_sneq rfl rfl rfl) ?_
   refine wa rfl rfl rfl (q_move (v:=.bool ((gt a i3).key != (gt b i3).key)) rfl (by kernel_rfl)) ?_
   refine wg0 rfl rfl rfl rfl rfl (λhg16=>QV.qo (q_move (v:=.slice Aa a.length ca) rfl (by kernel_rfl))) ?_
   refine wg0 rfl rfl rfl rfl rfl (λhg17=>QV.qo (q_move (v:=.int .i64 ((i3:Nat):Int)) rfl (by kernel_rfl))) ?_
   refine wg0 rfl rfl rfl rfl rfl (λhg18=>QV.qo (q_ixn (i:=i3) Tryz.underlying23 Tryz.sizeOf70 rfl (gu hg18 rfl) (gu hg18 rfl) hl8 (ha.some_ hl8))) ?_
   refine wg0 rfl rfl rfl rfl rfl (λhg19=>QV.qo (q_field_addr (i3*2+1) fld_70_1 rfl (gu hg19 rfl) (ha.some_ hl8) rfl)) ?_
   refine wg0 rfl rfl rfl rfl rfl (λhg20=>QV.qo (q_ld (c:=1) (v:=.slice A9 ((gt a i3).vers).length c10) (hx11 hl8).2 rfl Tryz.isAgg67 (gu hg20 rfl) rfl)) ?_
   refine wg0 rfl rfl rfl rfl rfl (λhg21=>QV.qo (q_move (v:=.slice Ab b.length cb) rfl (by kernel_rfl))) ?_
   refine wg0 rfl rfl rfl rfl rfl (λhg22=>QV.qo (q_move (v:=.int .i64 ((i3:Nat):Int)) rfl (by kernel_rfl))) ?_
   refine wg0 rfl rfl rfl rfl rfl (λhg23=>QV.qo (q_ixn (i:=i3) Tryz.underlying23 Tryz.sizeOf70 rfl (gu hg23 rfl) (gu hg23 rfl) (of_decide_eq_true hk12) (hb.some_ (of_decide_eq_true hk12)))) ?_
   refine wg0 rfl rfl rfl rfl rfl (λhg24=>QV.qo (q_field_addr (i3*2+1) fld_70_1 rfl (gu hg24 rfl) (hb.some_ (of_decide_eq_true hk12)) rfl)) ?_
   refine wg0 rfl rfl rfl rfl rfl (λhg25=>QV.qo (q_ld (c:=1) (v:=.slice A13 ((gt b i3).vers).length c14) (hx15 (of_decide_eq_true hk12)).2 rfl Tryz.isAgg67 (gu hg25 rfl) rfl)) ?_
   obtain⟨z27,hz28,h⟩:=bnd h
   refine wg0 rfl rfl rfl rfl rfl (λhg26=>(q_call (call_run Tryz.call39 rfl rfl (args2 (gu hg26 rfl) (gu hg26 rfl))) (λw hw=>t_firthref05_Same (Γ:=Gh.all w) ((hx11 hl8).1.2.2.mono hw.sat.le_all) (hx11 hl8).1.2.1 ((hx15 (of_decide_eq_true hk12)).1.2.2.mono hw.sat.le_all) (hx15 (of_decide_eq_true hk12)).1.2.1 (Sat.all w) (gc_of hz28 hg26)))) ?_
   refine wg0 rfl rfl rfl rfl rfl (λhg29=>QV.qo (q_not rfl (gu hg29 rfl))) ?_
   refine wa rfl rfl rfl (q_pick rfl rfl (pk_or' (g:=((gt a i3).key != (gt b i3).key)) (y:=(!z27)))) ?_
   refine aw ?_
   change WC _ _ _ _ _ _
   refine aj h (by kernel_rfl) (λhb30 h=>?_) (λhb30 h=>?_)
   ·
    refine a7 ?_
    refine as_ (v:=.bool false) ?_
    refine a6 ?_
    refine ac ?_
    intro w hw
    cases h
    subst hF
    exact⟨by kernel_rfl,hw.fr⟩
   ·
    refine ae ?_
    change WC _ _ _ _ _ _
    refine ah ?_
    refine mv (v:=.int .i64 ((i3:Nat):Int)) ?_
    refine vb (q_add_r (r:=((i3+1:Nat):Int)) rfl rfl rfl (ctr_len hl8 ha.le)) ?_
    refine as_ (v:=.int .i64 ((i3+1:Nat):Int)) ?_
    exact ab λw hw=>⟨hl8,(),h,(sl_ (by kernel_rfl)),hw,trivial⟩
  ·
   have h:=hge6 (ige hb7)
   refine am ?_
   change WC _ _ _ _ _ _
   refine a7 ?_
   refine as_ (v:=.bool true) ?_
   refine a6 ?_
   refine ac ?_
   intro w hw
   cases h
   subst hF
   exact⟨by kernel_rfl,hw.fr⟩
abbrev r_pull_Pull_Vec(gp_:Nat)(ep_:Nat)(rowp_:Rowb)(r:List Int)(U:List Rowb)(Γ:Gh)(v:Value):Prop := ∃(A0:Option Addr), ∃(c0:Nat), ∃(row0:Rowb),v = .slice A0 r.length c0∧U = [rowp_,row0]∧Own intT Γ 2 row0 A0 c0 r∧True
theorem t_pull_Pull_Vec{Γ:Gh}{w0:World}{gp_ ep_:Nat}{rowp_:Rowb}{p_:Opull_Pull}(hp_:Opull_Pull.ob ep_ Γ gp_ rowp_ p_)(hp:Pre [rowp_] Γ w0){r:List Int}(h:m_pull_Pull_Vec p_=some r):Calls Tryz.prog 33 #[(pq gp_)] w0 (Outc Γ [rowp_] w0 (r_pull_Pull_Vec gp_ ep_ rowp_ r)):=by
 refine calls_of (N:=8) (rs:=[2]) (args:=[(pq gp_)]) Tryz.func33 rfl Tryz.ntmps33 Tryz.results33 rfl ?_
 obtain⟨F,hF⟩:∃F:Fm,F=⟨ids [rowp_],w0,Γ⟩:=⟨_,rfl⟩
 refine aa (C:=CC F Γ [rowp_]) ?_ (hF▸hp.start)
 refine a7 ?_
 refine as_ (v:=.slice none 0 0) ?_
 refine a6 ?_
 refine a7 ?_
 refine mv (v:=(pq gp_)) ?_
 refine vb (q_nil (A:=some ⟨gp_,0,none⟩) rfl rfl rfl) ?_
 refine vb (q_fl 3 fld_97_3 rfl rfl rfl) ?_
 have hq:=hp_
 obtain⟨g1_1,r1_1,A3_1,c3_1,A4_1,c4_1,r4_1,g5_1,r5_1,hrow_1,ho0_1,ho1_1,ho2_1,ho3_1,ho4_1,ho5_1,-⟩:=hq
 intro w hw; have hw:=hw.unfold (i:=0) rfl hrow_1
 refine ao (C:=CC F Γ [[(gp_,.cells #[.int .i64 p_.id,(pq g1_1),.bool p_.begun,.slice A3_1 p_.vec.length c3_1,.slice A4_1 p_.wants.length c4_1,(pq g5_1)] ep_ (0,0))],r1_1,r4_1,r5_1]) ?_ hw
 clear hw
 refine vb (q_ldl (i:=0) (v:=.slice A3_1 p_.vec.length c3_1) rfl rfl Tryz.isAgg22 rfl rfl) ?_
 obtain⟨z2,hz3,h⟩:=bnd h
 refine e_call (is:=[]) rfl rfl (call_run Tryz.call46 rfl rfl (by kernel_rfl)) rfl (λw hp=>t_slices_Clone_int64_int64 ho3_1 ho2_1 hp hz3) ?_
 rintro Γ4 U6 v7 hl5 ⟨A8,c9,row10,rfl,rfl,hr11,_⟩
 change WR _ _ _ (CC F Γ4 [row10,[(gp_,.cells #[.int .i64 p_.id,(pq g1_1),.bool p_.begun,.slice A3_1 p_.vec.length c3_1,.slice A4_1 p_.wants.length c4_1,(pq g5_1)] ep_ (0,0))],r1_1,r4_1,r5_1]) _ _ (upd _ 7 (.slice A8 z2.length c9))
 refine as_ (v:=.slice A8 z2.length c9) ?_
 refine a6 ?_
 refine ac ?_
 intro w hw
 have hw:=hw.fold (is:=[1,1,1,1]) rfl hrow_1
 cases h
 subst hF
 exact end_e (is:=[0,0]) (by kernel_rfl) hw rfl ⟨A8,c9,row10,rfl,rfl,hr11,trivial⟩
theorem t_firthref04_Same{Γ:Gh}{w0:World}{Aa:Option Addr}{ca:Nat}{a:List Int}(ha:Sl intT Γ Aa a)(hac:a.length≤ca){Ab:Option Addr}{cb:Nat}{b:List Int}(hb:Sl intT Γ Ab b)(hbc:b.length≤cb)(hs:Sat Γ w0){r:Bool}(h:m_firthref04_Same a b=some r):Calls Tryz.prog 17 #[.slice Aa a.length ca,.slice Ab b.length cb] w0 (λe w'=>e = .returned (.bool r)∧Fr no w0 w'):=by
 refine calls_of (N:=26) (rs:=[4]) (args:=[.slice Aa a.length ca,.slice Ab b.length cb]) Tryz.func17 rfl Tryz.ntmps17 Tryz.results17 rfl ?_
 obtain⟨F,hF⟩:∃F:Fm,F=⟨no,w0,Γ⟩:=⟨_,rfl⟩
 refine aa (C:=CC F Γ []) ?_ (hF▸Cur.start0 hs)
 refine a7 ?_
 refine as_ (v:=.bool false) ?_
 refine a6 ?_
 refine a8 ?_
 refine a7 ?_
 refine mv (v:=.slice Aa a.length ca) ?_
 refine vb (q_len_slice rfl Tryz.underlying22 rfl) ?_
 refine mv (v:=.slice Ab b.length cb) ?_
 refine vb (q_len_slice rfl Tryz.underlying22 rfl) ?_
 refine vb (q_neq rfl rfl rfl) ?_
 refine a6 ?_
 refine aj h (by kernel_rfl) (λhb1 h=>?_) (λhb1 h=>?_)
 ·
  refine a7 ?_
  refine as_ (v:=.bool false) ?_
  refine a6 ?_
  refine ac ?_
  intro w hw
  cases h
  subst hF
  exact⟨by kernel_rfl,hw.fr⟩
 ·
  refine ae ?_
  change WC _ _ _ _ _ _
  refine a8 ?_
  refine a7 ?_
  refine as_ (v:=.int .i64 0) ?_
  refine a6 ?_
  refine af ?_
  refine ap h (λ(i3:Nat) (s:Unit) σ w=>match s with | ()=>slots σ [(0,.slice Aa a.length ca),(1,.slice Ab b.length cb),(5,.int .i64 ((i3:Nat):Int))]∧CC F Γ [] w∧True) ?_ ?_
  ·
   intro w hw
   exact⟨(sl_ (by kernel_rfl)),hw,trivial⟩
  rintro f2 i3 ⟨⟩ σ w hi4 hlt5 hge6 ⟨hsl,hw,-⟩
  refine Wpt.slots hsl ?_
  refine aa (C:=CC F Γ []) ?_ hw
  clear hw hsl
  refine a8 ?_
  refine a7 ?_
  refine mv (v:=.int .i64 ((i3:Nat):Int)) ?_
  refine mv (v:=.slice Aa a.length ca) ?_
  refine vb (q_len_slice rfl Tryz.underlying22 rfl) ?_
  refine vb (q_lss rfl rfl rfl) ?_
  refine a6 ?_
  refine WC.cond (b:=(decide (((i3:Nat):Int)<((a.length:Nat):Int)))) (by kernel_rfl) (λhb7=>?_) (λhb7=>?_)
  ·
   have hl8:=ilt hb7
   have h:=hlt5 hl8
   refine ae ?_
   change WC _ _ _ _ _ _
   refine a8 ?_
   refine af ?_
   refine a8 ?_
   refine ay (by kernel_rfl) (by kernel_rfl) (λw hw=>hw.drawn _) ?_
   refine wa rfl rfl rfl (q_move (v:=.slice Aa a.length ca) rfl (by kernel_rfl)) ?_
   refine wa rfl rfl rfl (q_move (v:=.int .i64 ((i3:Nat):Int)) rfl (by kernel_rfl)) ?_
   refine wa rfl rfl rfl (q_ixn (i:=i3) Tryz.underlying22 Tryz.sizeOf2 rfl rfl rfl hl8 (ha.some_ hl8)) ?_
   refine wa rfl rfl rfl (q_ld (c:=0) (v:=.int .i64 (gt a i3)) (ha.intT_at hl8).2 rfl Tryz.isAgg2 rfl rfl) ?_
   refine wa rfl rfl rfl (q_move (v:=.slice Ab b.length cb) rfl (by kernel_rfl)) ?_
   refine wa rfl rfl rfl (q_move (v:=.int .i64 ((i3:Nat):Int)) rfl (by kernel_rfl)) ?_
   obtain⟨hk9,h⟩:=chk_some h
   refine wa rfl rfl rfl (q_ixn (i:=i3) Tryz.underlying22 Tryz.sizeOf2 rfl rfl rfl (of_decide_eq_true hk9) (hb.some_ (of_decide_eq_true hk9))) ?_
   refine wa rfl rfl rfl (q_ld (c:=0) (v:=.int .i64 (gt b i3)) (hb.intT_at (of_decide_eq_true hk9)).2 rfl Tryz.isAgg2 rfl rfl) ?_
   refine wa rfl rfl rfl (q_neq rfl rfl rfl) ?_
   refine aw ?_
   change WC _ _ _ _ _ _
   refine aj h (by kernel_rfl) (λhb10 h=>?_) (λhb10 h=>?_)
   ·
    refine a7 ?_
    refine as_ (v:=.bool false) ?_
    refine a6 ?_
    refine ac ?_
    intro w hw
    cases h
    subst hF
    exact⟨by kernel_rfl,hw.fr⟩
   ·
    refine ae ?_
    change WC _ _ _ _ _ _
    refine ah ?_
    refine mv (v:=.int .i64 ((i3:Nat):Int)) ?_
    refine vb (q_add_r (r:=((i3+1:Nat):Int)) rfl rfl rfl (ctr_len hl8 ha.le)) ?_
    refine as_ (v:=.int .i64 ((i3+1:Nat):Int)) ?_
    exact ab λw hw=>⟨hl8,(),h,(sl_ (by kernel_rfl)),hw,trivial⟩
  ·
   have h:=hge6 (ige hb7)
   refine am ?_
   change WC _ _ _ _ _ _
   refine a7 ?_
   refine as_ (v:=.bool true) ?_
   refine a6 ?_
   refine ac ?_
   intro w hw
   cases h
   subst hF
   exact⟨by kernel_rfl,hw.fr⟩
theorem t_firthlaw19_awake{Γ:Gh}{w0:World}(hs:Sat Γ w0){r:Bool}(h:m_firthlaw19_awake=some r):Calls Tryz.prog 12 #[] w0 (λe w'=>e = .returned (.bool r)∧Fr no w0 w'):=by
 refine calls_of (N:=85) (rs:=[0]) (args:=[]) Tryz.func12 rfl Tryz.ntmps12 Tryz.results12 rfl ?_
 obtain⟨F,hF⟩:∃F:Fm,F=⟨no,w0,Γ⟩:=⟨_,rfl⟩
 refine aa (C:=CC F Γ []) ?_ (hF▸Cur.start0 hs)
 refine a7 ?_
 refine as_ (v:=.bool false) ?_
 refine a6 ?_
 refine a7 ?_
 refine e_buildSlice (cs:=#[.int .i64 1]) (e:=2) rfl rfl rfl rfl (λw=>by kernel_rfl) ?_
 intro g1
 obtain⟨z2,hz3,h⟩:=bnd h
 refine e_call (is:=[]) rfl rfl (call_run Tryz.call49 rfl rfl (by kernel_rfl)) rfl (λw hp=>t_firthlaw19_k  hp hz3) ?_
 rintro Γ4 U6 v7 hl5 ⟨A8,c9,row10,rfl,rfl,hr11,_⟩
 change WR _ _ _ (CC F Γ4 [row10,[(g1,.cells #[.int .i64 1] 2 (0,0))]]) _ _ (upd _ 7 (.slice A8 z2.length c9))
 have ho12:Own intT Γ4 2 [(g1,.cells #[.int .i64 1] 2 (0,0))] (some ⟨g1,0,none⟩) 1 [1]:=aq (T:=intT) (ys:=[1]) [[.int .i64 1]] rfl (show 1≤lim by decide) (show Ty.rd intT Γ4 [.int .i64 1] 1∧True from ⟨⟨rfl,(show I64 1 by decide)⟩,trivial⟩)
 have hc17:=ho12.capz
 intro w hw; obtain⟨Γ13,hw,hl14,hr15⟩:=hw.seal (i:=1) rfl; have hs16:=ho12.sl hl14 hr15
 refine ao (C:=CC F Γ13 [row10,[]]) ?_ hw
 clear hw
 have hc22:=(hr11.mono hl14).capz
 intro w hw; obtain⟨Γ18,hw,hl19,hr20⟩:=hw.seal (i:=0) rfl; have hs21:=(hr11.mono hl14).sl hl19 hr20
 refine ao (C:=CC F Γ18 [[],[]]) ?_ hw
 clear hw
 obtain⟨z23,hz24,h⟩:=bnd h
 refine e_call (is:=[]) rfl rfl (call_run Tryz.call10 rfl rfl (by kernel_rfl)) rfl (λw hp=>t_pull_NewCut 3 (show I64 3 by decide) (hs16.mono hl19) hc17 hs21 hc22 hp hz24) ?_
 rintro Γ25 U27 v28 hl26 ⟨g29,row30,rfl,rfl,hr31,hr32,_⟩
 change WR _ _ _ (CC F Γ25 [row30,[],[]]) _ _ (upd _ 8 (.tuple #[optp z23.1 g29,.int .i64 z23.2]))
 refine mv (v:=.tuple #[optp z23.1 g29,.int .i64 z23.2]) ?_
 refine vb (q_extract (v:=optp z23.1 g29) rfl rfl rfl) ?_
 refine vb (q_extract (v:=.int .i64 z23.2) rfl rfl rfl) ?_
 refine as_ (v:=optp z23.1 g29) ?_
 refine as_ (v:=.int .i64 z23.2) ?_
 refine a6 ?_
 refine a7 ?_
 obtain⟨z33,hz34,h⟩:=bnd h
 refine e_call (is:=[]) rfl rfl (call_run Tryz.call22 rfl rfl (by kernel_rfl)) rfl (λw hp=>t_pull_NewPull 4 (show I64 4 by decide) (Sl.nil recT _ none) (Nat.zero_le 0) hp hz34) ?_
 rintro Γ35 U37 v38 hl36 ⟨g39,row40,rfl,rfl,hr41,hr42,_⟩
 change WR _ _ _ (CC F Γ35 [row40,row30,[],[]]) _ _ (upd _ 12 (.tuple #[optp z33.1 g39,.int .i64 z33.2]))
 refine mv (v:=.tuple #[optp z33.1 g39,.int .i64 z33.2]) ?_
 refine vb (q_extract (v:=optp z33.1 g39) rfl rfl rfl) ?_
 refine vb (q_extract (v:=.int .i64 z33.2) rfl rfl rfl) ?_
 refine as_ (v:=optp z33.1 g39) ?_
 refine as_ (v:=.int .i64 z33.2) ?_
 refine a6 ?_
 refine a8 ?_
 refine a7 ?_
 refine mv (v:=optp z23.1 g29) ?_
 refine vb (q_opt_eql Tryz.underlying25 rfl rfl rfl) ?_
 refine mv (v:=.bool (Option.isNone z23.1)) ?_
 refine vg0 rfl rfl rfl rfl rfl (λhg43=>QV.qo (q_move (v:=optp z33.1 g39) rfl (by kernel_rfl))) ?_
 refine vg0 rfl rfl rfl rfl rfl (λhg44=>QV.qo (q_opt_eql Tryz.underlying47 rfl (gu hg44 rfl) rfl)) ?_
 refine vb (q_pick rfl rfl (pk_or' (g:=(Option.isNone z23.1)) (y:=(Option.isNone z33.1)))) ?_
 refine mv (v:=.bool ((Option.isNone z23.1)||(Option.isNone z33.1))) ?_
 refine vg0 rfl rfl rfl rfl rfl (λhg45=>QV.qo (q_move (v:=.int .i64 z23.2) rfl (by kernel_rfl))) ?_
 refine vg0 rfl rfl rfl rfl rfl (λhg46=>QV.qo (q_neq rfl (gu hg46 rfl) rfl)) ?_
 refine vb (q_pick rfl rfl (pk_or' (g:=((Option.isNone z23.1)||(Option.isNone z33.1))) (y:=(z23.2 != 0)))) ?_
 refine mv (v:=.bool (((Option.isNone z23.1)||(Option.isNone z33.1))||(z23.2 != 0))) ?_
 refine vg0 rfl rfl rfl rfl rfl (λhg47=>QV.qo (q_move (v:=.int .i64 z33.2) rfl (by kernel_rfl))) ?_
 refine vg0 rfl rfl rfl rfl rfl (λhg48=>QV.qo (q_neq rfl (gu hg48 rfl) rfl)) ?_
 refine vb (q_pick rfl rfl (pk_or' (g:=(((Option.isNone z23.1)||(Option.isNone z33.1))||(z23.2 != 0))) (y:=(z33.2 != 0)))) ?_
 refine mv (v:=.bool ((((Option.isNone z23.1)||(Option.isNone z33.1))||(z23.2 != 0))||(z33.2 != 0))) ?_
 refine vg0 rfl rfl rfl rfl rfl (λhg49=>QV.qo (q_move (v:=optp z33.1 g39) rfl (by kernel_rfl))) ?_
 refine(Bool.eq_false_or_eq_true (!((((Option.isNone z23.1)||(Option.isNone z33.1))||(z23.2 != 0))||(z33.2 != 0)))).elim (λhb50=>?_) (λhb50=>?_)
 ·
  have h:=bt hb50 h
  obtain⟨z51,hz52,h⟩:=bnd h
  have ho53:=optob_some hr41 hz52
  obtain⟨z54,hz55,h⟩:=bnd h
  have ho56:=optob_some (optob_mono hr31 (λ_ h=>h.mono hl36)) hz55
  refine WR.sat (c0:=true) (g:=((((Option.isNone z23.1)||(Option.isNone z33.1))||(z23.2 != 0))||(z33.2 != 0))) rfl rfl rfl hb50 ?_
  obtain⟨z57,hz58,h⟩:=bnd h
  refine vc rfl rfl rfl (q_call (call_run Tryz.call28 rfl rfl (args1 (optp_some (gu hb50 rfl) hz52))) (λw hw=>t_pull_Pull_Done (Γ:=Gh.all w) (ho53.mono hw.sat.le_all) (hw.ra 0 rfl) (Sat.all w) hz58)) ?_
  refine vb (q_pick_f (v:=.bool z57) rfl rfl (not_t hb50) (by kernel_rfl)) ?_
  refine mv (v:=.bool z57) ?_
  refine vg0 rfl rfl rfl rfl rfl (λhg59=>QV.qo (q_move (v:=(pq g39)) rfl (optp_some rfl hz52))) ?_
  refine vg0 rfl rfl rfl rfl rfl (λhg60=>QV.qo (q_move (v:=(pq g29)) rfl (optp_some rfl hz55))) ?_
  refine(Bool.eq_false_or_eq_true (!z57)).elim (λhb61=>?_) (λhb61=>?_)
  ·
   have h:=bt hb61 h
   refine WR.sat (c0:=true) (g:=z57) rfl rfl rfl hb61 ?_
   obtain⟨z62,hz63,h⟩:=bnd h
   refine e_call (is:=[1]) rfl rfl (call_run Tryz.call18 rfl rfl (args1 (gu hb61 rfl))) rfl (λw hp=>t_pull_Cut_Vec ho56 hp hz63) ?_
   rintro Γ64 U66 v67 hl65 ⟨A68,c69,row70,rfl,rfl,hr71,_⟩
   change WR _ _ _ (CC F Γ64 [row30,row70,row40,[],[]]) _ _ (upd _ 36 (.slice A68 z62.length c69))
   refine WR.sat (c0:=true) (g:=z57) rfl rfl rfl hb61 ?_
   refine vb (q_move (v:=(pq g29)) rfl (optp_some rfl hz55)) ?_
   refine WR.sat (c0:=true) (g:=z57) rfl rfl rfl hb61 ?_
   obtain⟨z72,hz73,h⟩:=bnd h
   refine e_call (is:=[0]) rfl rfl (call_run Tryz.call19 rfl rfl (by kernel_rfl)) rfl (λw hp=>t_pull_Cut_Open (ho56.mono hl65) hp hz73) ?_
   rintro Γ74 U76 v77 hl75 ⟨row78,A80,c81,row82,rfl,rfl,hr79,hr83,_⟩
   change WR _ _ _ (CC F Γ74 [row78,row82,row70,row40,[],[]]) _ _ (upd _ 38 (.slice A80 z72.2.length c81))
   refine WR.sat (c0:=true) (g:=z57) rfl rfl rfl hb61 ?_
   have hc88:=(hr71.mono hl75).capz
   intro w hw; obtain⟨Γ84,hw,hl85,hr86⟩:=hw.seal (i:=2) rfl; have hs87:=(hr71.mono hl75).sl hl85 hr86
   refine ao (C:=CC F Γ84 [row78,row82,[],row40,[],[]]) ?_ hw
   clear hw
   have hc93:=(hr83.mono hl85).capz
   intro w hw; obtain⟨Γ89,hw,hl90,hr91⟩:=hw.seal (i:=1) rfl; have hs92:=(hr83.mono hl85).sl hl90 hr91
   refine ao (C:=CC F Γ89 [row78,[],[],row40,[],[]]) ?_ hw
   clear hw
   obtain⟨z94,hz95,h⟩:=bnd h
   refine e_call (is:=[3]) rfl rfl (call_run Tryz.call24 rfl rfl (args3 (gu hb61 rfl) rfl rfl)) rfl (λw hp=>t_pull_Pull_Begin (ho53.mono (((hl65.trans hl75).trans hl85).trans hl90)) (hs87.mono hl90) hc88 hs92 hc93 hp hz95) ?_
   rintro Γ96 U98 v99 hl97 ⟨row100,rfl,rfl,hr101,_⟩
   change WR _ _ _ (CC F Γ96 [row100,row78,[],[],[],[]]) _ _ (upd _ 39 (.bool z94.2))
   refine WR.sat (c0:=true) (g:=z57) rfl rfl rfl hb61 ?_
   refine vb (q_not rfl rfl) ?_
   refine vb (q_pick_f (v:=.bool (!z94.2)) rfl rfl (not_t hb61) (by kernel_rfl)) ?_
   refine mv (v:=.bool (!z94.2)) ?_
   refine vg0 rfl rfl rfl rfl rfl (λhg102=>QV.qo (q_move (v:=(pq g39)) rfl (optp_some rfl hz52))) ?_
   refine vg0 rfl rfl rfl rfl rfl (λhg103=>QV.qo (q_move (v:=(pq g29)) rfl (optp_some rfl hz55))) ?_
   refine(Bool.eq_false_or_eq_true (!(!z94.2))).elim (λhb104=>?_) (λhb104=>?_)
   ·
    have h:=bt hb104 h
    refine WR.sat (c0:=true) (g:=(!z94.2)) rfl rfl rfl hb104 ?_
    obtain⟨z105,hz106,h⟩:=bnd h
    refine e_call (is:=[1]) rfl rfl (call_run Tryz.call18 rfl rfl (args1 (gu hb104 rfl))) rfl (λw hp=>t_pull_Cut_Vec (hr79.mono ((hl85.trans hl90).trans hl97)) hp hz106) ?_
    rintro Γ107 U109 v110 hl108 ⟨A111,c112,row113,rfl,rfl,hr114,_⟩
    change WR _ _ _ (CC F Γ107 [row78,row113,row100,[],[],[],[]]) _ _ (upd _ 45 (.slice A111 z105.length c112))
    refine WR.sat (c0:=true) (g:=(!z94.2)) rfl rfl rfl hb104 ?_
    refine vb (q_move (v:=(pq g29)) rfl (optp_some rfl hz55)) ?_
    refine WR.sat (c0:=true) (g:=(!z94.2)) rfl rfl rfl hb104 ?_
    obtain⟨z115,hz116,h⟩:=bnd h
    refine e_call (is:=[0]) rfl rfl (call_run Tryz.call19 rfl rfl (by kernel_rfl)) rfl (λw hp=>t_pull_Cut_Open (hr79.mono (((hl85.trans hl90).trans hl97).trans hl108)) hp hz116) ?_
    rintro Γ117 U119 v120 hl118 ⟨row121,A123,c124,row125,rfl,rfl,hr122,hr126,_⟩
    change WR _ _ _ (CC F Γ117 [row121,row125,row113,row100,[],[],[],[]]) _ _ (upd _ 47 (.slice A123 z115.2.length c124))
    refine WR.sat (c0:=true) (g:=(!z94.2)) rfl rfl rfl hb104 ?_
    have hc131:=(hr114.mono hl118).capz
    intro w hw; obtain⟨Γ127,hw,hl128,hr129⟩:=hw.seal (i:=2) rfl; have hs130:=(hr114.mono hl118).sl hl128 hr129
    refine ao (C:=CC F Γ127 [row121,row125,[],row100,[],[],[],[]]) ?_ hw
    clear hw
    have hc136:=(hr126.mono hl128).capz
    intro w hw; obtain⟨Γ132,hw,hl133,hr134⟩:=hw.seal (i:=1) rfl; have hs135:=(hr126.mono hl128).sl hl133 hr134
    refine ao (C:=CC F Γ132 [row121,[],[],row100,[],[],[],[]]) ?_ hw
    clear hw
    obtain⟨z137,hz138,h⟩:=bnd h
    refine e_call (is:=[3]) rfl rfl (call_run Tryz.call24 rfl rfl (args3 (gu hb104 rfl) rfl rfl)) rfl (λw hp=>t_pull_Pull_Begin (hr101.mono (((hl108.trans hl118).trans hl128).trans hl133)) (hs130.mono hl133) hc131 hs135 hc136 hp hz138) ?_
    rintro Γ139 U141 v142 hl140 ⟨row143,rfl,rfl,hr144,_⟩
    change WR _ _ _ (CC F Γ139 [row143,row121,[],[],[],[],[],[]]) _ _ (upd _ 48 (.bool z137.2))
    refine vb (q_pick_f (v:=.bool z137.2) rfl rfl (not_t hb104) (by kernel_rfl)) ?_
    refine mv (v:=.bool z137.2) ?_
    refine vg0 rfl rfl rfl rfl rfl (λhg145=>QV.qo (q_move (v:=(pq g39)) rfl (optp_some rfl hz52))) ?_
    refine(Bool.eq_false_or_eq_true (!z137.2)).elim (λhb146=>?_) (λhb146=>?_)
    ·
     have h:=bt hb146 h
     refine WR.sat (c0:=true) (g:=z137.2) rfl rfl rfl hb146 ?_
     obtain⟨z147,hz148,h⟩:=bnd h
     refine e_call (is:=[0]) rfl rfl (call_run Tryz.call31 rfl rfl (args1 (gu hb146 rfl))) rfl (λw hp=>t_pull_Pull_Wants hr144 hp hz148) ?_
     rintro Γ149 U151 v152 hl150 ⟨A153,c154,row155,rfl,rfl,hr156,_⟩
     change WR _ _ _ (CC F Γ149 [row143,row155,row121,[],[],[],[],[],[]]) _ _ (upd _ 52 (.slice A153 z147.length c154))
     refine WR.sat (c0:=true) (g:=z137.2) rfl rfl rfl hb146 ?_
     refine vb (q_len_slice rfl Tryz.underlying57 rfl) ?_
     refine WR.sat (c0:=true) (g:=z137.2) rfl rfl rfl hb146 ?_
     refine vb (q_neq rfl rfl rfl) ?_
     refine vb (q_pick_f (v:=.bool (((z147.length:Nat):Int) != 1)) rfl rfl (not_t hb146) (by kernel_rfl)) ?_
     refine a6 ?_
     refine aj h (by kernel_rfl) (λhb157 h=>?_) (λhb157 h=>?_)
     ·
      refine a7 ?_
      refine as_ (v:=.bool false) ?_
      refine a6 ?_
      refine ac ?_
      intro w hw
      cases h
      subst hF
      exact⟨by kernel_rfl,hw.fr⟩
     ·
      refine ae ?_
      change WC _ _ _ _ _ _
      refine a7 ?_
      refine vb (q_move (v:=(pq g29)) rfl (optp_some rfl hz55)) ?_
      refine vb (q_move (v:=(pq g39)) rfl (optp_some rfl hz52)) ?_
      obtain⟨z158,hz159,h⟩:=bnd h
      refine e_call (is:=[2,0]) rfl rfl (call_run Tryz.call37 rfl rfl (by kernel_rfl)) rfl (λw hp=>t_firthlaw19_told (hr122.mono (((hl128.trans hl133).trans hl140).trans hl150)) (hr144.mono hl150) (Sl.nil intT _ none) (Nat.zero_le 0) hp hz159) ?_
      rintro Γ160 U162 v163 hl161 ⟨row164,row166,rfl,rfl,hr165,hr167,_⟩
      change WR _ _ _ (CC F Γ160 [row164,row166,row155,[],[],[],[],[],[]]) _ _ (upd _ 58 (.bool z158.2.2))
      refine mv (v:=.bool z158.2.2) ?_
      refine vg1 rfl rfl rfl rfl rfl (λhg168=>QV.qo (q_move (v:=(pq g39)) rfl (optp_some rfl hz52))) ?_
      obtain⟨z170,hz171,h⟩:=bnd h
      refine vg1 rfl rfl rfl rfl rfl (λhg169=>(q_call (call_run Tryz.call28 rfl rfl (args1 (gu hg169 rfl))) (λw hw=>t_pull_Pull_Done (Γ:=Gh.all w) (hr167.mono hw.sat.le_all) (hw.ra 1 rfl) (Sat.all w) (gc_of hz171 hg169)))) ?_
      refine vb (q_pick rfl rfl (pk_and' (g:=z158.2.2) (y:=z170))) ?_
      refine mv (v:=.bool (z158.2.2&&z170)) ?_
      refine vg1 rfl rfl rfl rfl rfl (λhg172=>QV.qo (q_move (v:=(pq g29)) rfl (optp_some rfl hz55))) ?_
      obtain⟨z174,hz175,h⟩:=bnd h
      refine vg1 rfl rfl rfl rfl rfl (λhg173=>(q_call (call_run Tryz.call21 rfl rfl (args1 (gu hg173 rfl))) (λw hw=>t_pull_Cut_Id (Γ:=Gh.all w) (hr165.mono hw.sat.le_all) (hw.ra 0 rfl) (Sat.all w) (gc_of hz175 hg173)))) ?_
      refine vg1 rfl rfl rfl rfl rfl (λhg176=>QV.qo (q_eql rfl (gu hg176 rfl) rfl)) ?_
      refine vb (q_pick rfl rfl (pk_and' (g:=(z158.2.2&&z170)) (y:=(z174==3)))) ?_
      refine mv (v:=.bool ((z158.2.2&&z170)&&(z174==3))) ?_
      refine vg1 rfl rfl rfl rfl rfl (λhg177=>QV.qo (q_move (v:=(pq g39)) rfl (optp_some rfl hz52))) ?_
      obtain⟨z179,hz180,h⟩:=bnd h
      refine vg1 rfl rfl rfl rfl rfl (λhg178=>(q_call (call_run Tryz.call34 rfl rfl (args1 (gu hg178 rfl))) (λw hw=>t_pull_Pull_Id (Γ:=Gh.all w) (hr167.mono hw.sat.le_all) (hw.ra 1 rfl) (Sat.all w) (gc_of hz180 hg178)))) ?_
      refine vg1 rfl rfl rfl rfl rfl (λhg181=>QV.qo (q_eql rfl (gu hg181 rfl) rfl)) ?_
      refine vb (q_pick rfl rfl (pk_and' (g:=((z158.2.2&&z170)&&(z174==3))) (y:=(z179==4)))) ?_
      refine mv (v:=.bool (((z158.2.2&&z170)&&(z174==3))&&(z179==4))) ?_
      refine vg1 rfl rfl rfl rfl rfl (λhg182=>QV.qo (q_move (v:=(pq g39)) rfl (optp_some rfl hz52))) ?_
      refine(Bool.eq_false_or_eq_true (((z158.2.2&&z170)&&(z174==3))&&(z179==4))).elim (λhb183=>?_) (λhb183=>?_)
      ·
       have h:=bt hb183 h
       refine WR.sat (c0:=true) (g:=(((z158.2.2&&z170)&&(z174==3))&&(z179==4))) rfl rfl rfl hb183 ?_
       obtain⟨z184,hz185,h⟩:=bnd h
       refine e_call (is:=[1]) rfl rfl (call_run Tryz.call32 rfl rfl (args1 (gu hb183 rfl))) rfl (λw hp=>t_pull_Pull_Staged hr167 hp hz185) ?_
       rintro Γ186 U188 v189 hl187 ⟨A190,c191,row192,rfl,rfl,hr193,_⟩
       change WR _ _ _ (CC F Γ186 [row166,row192,row164,row155,[],[],[],[],[],[]]) _ _ (upd _ 75 (.slice A190 z184.length c191))
       refine WR.sat (c0:=true) (g:=(((z158.2.2&&z170)&&(z174==3))&&(z179==4))) rfl rfl rfl hb183 ?_
       obtain⟨z194,hz195,h⟩:=bnd h
       refine e_call (is:=[]) rfl rfl (call_run Tryz.call49 rfl rfl (by kernel_rfl)) rfl (λw hp=>t_firthlaw19_k  hp hz195) ?_
       rintro Γ196 U198 v199 hl197 ⟨A200,c201,row202,rfl,rfl,hr203,_⟩
       change WR _ _ _ (CC F Γ196 [row202,row166,row192,row164,row155,[],[],[],[],[],[]]) _ _ (upd _ 76 (.slice A200 z194.length c201))
       refine WR.sat (c0:=true) (g:=(((z158.2.2&&z170)&&(z174==3))&&(z179==4))) rfl rfl rfl hb183 ?_
       obtain⟨z204,hz205,h⟩:=bnd h
       refine vc rfl rfl rfl (q_call (call_run Tryz.call16 rfl rfl (by kernel_rfl)) (λw hw=>t_firthref06_SameRecs (Γ:=Gh.all w) ((hr193.mono hl197).sl hw.sat.le_all (hw.ra 2 rfl)) (hr193.mono hl197).capz (hr203.sl hw.sat.le_all (hw.ra 0 rfl)) hr203.capz (Sat.all w) hz205)) ?_
       refine vb (q_pick_t (v:=.bool z204) rfl rfl hb183 (by kernel_rfl)) ?_
       refine mv (v:=.bool z204) ?_
       refine vg1 rfl rfl rfl rfl rfl (λhg206=>QV.qo (q_move (v:=(pq g39)) rfl (optp_some rfl hz52))) ?_
       refine(Bool.eq_false_or_eq_true z204).elim (λhb207=>?_) (λhb207=>?_)
       ·
        have h:=bt hb207 h
        refine WR.sat (c0:=true) (g:=z204) rfl rfl rfl hb207 ?_
        obtain⟨z208,hz209,h⟩:=bnd h
        refine e_call (is:=[1]) rfl rfl (call_run Tryz.call33 rfl rfl (args1 (gu hb207 rfl))) rfl (λw hp=>t_pull_Pull_Vec (hr167.mono (hl187.trans hl197)) hp hz209) ?_
        rintro Γ210 U212 v213 hl211 ⟨A214,c215,row216,rfl,rfl,hr217,_⟩
        change WR _ _ _ (CC F Γ210 [row166,row216,row202,row192,row164,row155,[],[],[],[],[],[]]) _ _ (upd _ 81 (.slice A214 z208.length c215))
        refine WR.sat (c0:=true) (g:=z204) rfl rfl rfl hb207 ?_
        refine e_buildSlice (cs:=#[.int .i64 1]) (e:=2) rfl rfl rfl rfl (λw=>by kernel_rfl) ?_
        intro g218
        refine WR.sat (c0:=true) (g:=z204) rfl rfl rfl hb207 ?_
        have ho219:Own intT Γ210 2 [(g218,.cells #[.int .i64 1] 2 (0,0))] (some ⟨g218,0,none⟩) 1 [1]:=aq (T:=intT) (ys:=[1]) [[.int .i64 1]] rfl (show 1≤lim by decide) (show Ty.rd intT Γ210 [.int .i64 1] 1∧True from ⟨⟨rfl,(show I64 1 by decide)⟩,trivial⟩)
        obtain⟨z220,hz221,h⟩:=bnd h
        refine vc rfl rfl rfl (q_call (call_run Tryz.call17 rfl rfl (by kernel_rfl)) (λw hw=>t_firthref04_Same (Γ:=Gh.all w) (hr217.sl hw.sat.le_all (hw.ra 2 rfl)) hr217.capz (ho219.sl hw.sat.le_all (hw.ra 0 rfl)) ho219.capz (Sat.all w) hz221)) ?_
        refine vb (q_pick_t (v:=.bool z220) rfl rfl hb207 (by kernel_rfl)) ?_
        refine as_ (v:=.bool z220) ?_
        refine a6 ?_
        refine ac ?_
        intro w hw
        cases h
        subst hF
        exact⟨by kernel_rfl,hw.fr⟩
       ·
        have h:=bf hb207 h
        refine ak (c0:=true) (g:=z204) rfl rfl rfl hb207 rfl ?_
        refine ak (c0:=true) (g:=z204) rfl rfl rfl hb207 rfl ?_
        refine ak (c0:=true) (g:=z204) rfl rfl rfl hb207 rfl ?_
        refine vb (q_pick_f (v:=.bool false) rfl rfl hb207 (by kernel_rfl)) ?_
        refine as_ (v:=.bool false) ?_
        refine a6 ?_
        refine ac ?_
        intro w hw
        cases h
        subst hF
        exact⟨by kernel_rfl,hw.fr⟩
      ·
       have h:=bf hb183 h
       refine ak (c0:=true) (g:=(((z158.2.2&&z170)&&(z174==3))&&(z179==4))) rfl rfl rfl hb183 rfl ?_
       refine ak (c0:=true) (g:=(((z158.2.2&&z170)&&(z174==3))&&(z179==4))) rfl rfl rfl hb183 rfl ?_
       refine ak (c0:=true) (g:=(((z158.2.2&&z170)&&(z174==3))&&(z179==4))) rfl rfl rfl hb183 rfl ?_
       refine vb (q_pick_f (v:=.bool false) rfl rfl hb183 (by kernel_rfl)) ?_
       refine mv (v:=.bool false) ?_
       refine ak (c0:=true) (g:=false) rfl rfl rfl rfl rfl ?_
       refine ak (c0:=true) (g:=false) rfl rfl rfl rfl rfl ?_
       refine ak (c0:=true) (g:=false) rfl rfl rfl rfl rfl ?_
       refine ak (c0:=true) (g:=false) rfl rfl rfl rfl rfl ?_
       refine vb (q_pickf (v:=.bool false) rfl rfl rfl) ?_
       refine as_ (v:=.bool false) ?_
       refine a6 ?_
       refine ac ?_
       intro w hw
       cases h
       subst hF
       exact⟨by kernel_rfl,hw.fr⟩
    ·
     have h:=bf hb146 h
     refine ak (c0:=true) (g:=z137.2) rfl rfl rfl hb146 rfl ?_
     refine ak (c0:=true) (g:=z137.2) rfl rfl rfl hb146 rfl ?_
     refine ak (c0:=true) (g:=z137.2) rfl rfl rfl hb146 rfl ?_
     refine vb (q_pick_t (v:=.bool true) rfl rfl (not_f hb146) (by kernel_rfl)) ?_
     refine a6 ?_
     refine WC.ctk (b:=true) (by kernel_rfl) rfl ?_
     refine a7 ?_
     refine as_ (v:=.bool false) ?_
     refine a6 ?_
     refine ac ?_
     intro w hw
     cases h
     subst hF
     exact⟨by kernel_rfl,hw.fr⟩
   ·
    have h:=bf hb104 h
    refine ak (c0:=true) (g:=(!z94.2)) rfl rfl rfl hb104 rfl ?_
    refine ak (c0:=true) (g:=(!z94.2)) rfl rfl rfl hb104 rfl ?_
    refine ak (c0:=true) (g:=(!z94.2)) rfl rfl rfl hb104 rfl ?_
    refine ak (c0:=true) (g:=(!z94.2)) rfl rfl rfl hb104 rfl ?_
    refine vb (q_pick_t (v:=.bool true) rfl rfl (not_f hb104) (by kernel_rfl)) ?_
    refine mv (v:=.bool true) ?_
    refine ak (c0:=true) (g:=true) rfl rfl rfl (nott rfl) rfl ?_
    refine ak (c0:=true) (g:=true) rfl rfl rfl (nott rfl) rfl ?_
    refine ak (c0:=true) (g:=true) rfl rfl rfl (nott rfl) rfl ?_
    refine ak (c0:=true) (g:=true) rfl rfl rfl (nott rfl) rfl ?_
    refine vb (q_pickt (v:=.bool true) rfl rfl rfl) ?_
    refine a6 ?_
    refine WC.ctk (b:=true) (by kernel_rfl) rfl ?_
    refine a7 ?_
    refine as_ (v:=.bool false) ?_
    refine a6 ?_
    refine ac ?_
    intro w hw
    cases h
    subst hF
    exact⟨by kernel_rfl,hw.fr⟩
  ·
   have h:=bf hb61 h
   refine ak (c0:=true) (g:=z57) rfl rfl rfl hb61 rfl ?_
   refine ak (c0:=true) (g:=z57) rfl rfl rfl hb61 rfl ?_
   refine ak (c0:=true) (g:=z57) rfl rfl rfl hb61 rfl ?_
   refine ak (c0:=true) (g:=z57) rfl rfl rfl hb61 rfl ?_
   refine ak (c0:=true) (g:=z57) rfl rfl rfl hb61 rfl ?_
   refine vb (q_pick_t (v:=.bool true) rfl rfl (not_f hb61) (by kernel_rfl)) ?_
   refine mv (v:=.bool true) ?_
   refine ak (c0:=true) (g:=true) rfl rfl rfl (nott rfl) rfl ?_
   refine ak (c0:=true) (g:=true) rfl rfl rfl (nott rfl) rfl ?_
   refine ak (c0:=true) (g:=true) rfl rfl rfl (nott rfl) rfl ?_
   refine ak (c0:=true) (g:=true) rfl rfl rfl (nott rfl) rfl ?_
   refine ak (c0:=true) (g:=true) rfl rfl rfl (nott rfl) rfl ?_
   refine ak (c0:=true) (g:=true) rfl rfl rfl (nott rfl) rfl ?_
   refine vb (q_pickt (v:=.bool true) rfl rfl rfl) ?_
   refine mv (v:=.bool true) ?_
   refine ak (c0:=true) (g:=true) rfl rfl rfl (nott rfl) rfl ?_
   refine ak (c0:=true) (g:=true) rfl rfl rfl (nott rfl) rfl ?_
   refine ak (c0:=true) (g:=true) rfl rfl rfl (nott rfl) rfl ?_
   refine ak (c0:=true) (g:=true) rfl rfl rfl (nott rfl) rfl ?_
   refine vb (q_pickt (v:=.bool true) rfl rfl rfl) ?_
   refine a6 ?_
   refine WC.ctk (b:=true) (by kernel_rfl) rfl ?_
   refine a7 ?_
   refine as_ (v:=.bool false) ?_
   refine a6 ?_
   refine ac ?_
   intro w hw
   cases h
   subst hF
   exact⟨by kernel_rfl,hw.fr⟩
 ·
  have h:=bf hb50 h
  refine ak (c0:=true) (g:=((((Option.isNone z23.1)||(Option.isNone z33.1))||(z23.2 != 0))||(z33.2 != 0))) rfl rfl rfl hb50 rfl ?_
  refine vb (q_pick_t (v:=.bool true) rfl rfl (not_f hb50) (by kernel_rfl)) ?_
  refine mv (v:=.bool true) ?_
  refine ak (c0:=true) (g:=true) rfl rfl rfl (nott rfl) rfl ?_
  refine ak (c0:=true) (g:=true) rfl rfl rfl (nott rfl) rfl ?_
  refine ak (c0:=true) (g:=true) rfl rfl rfl (nott rfl) rfl ?_
  refine ak (c0:=true) (g:=true) rfl rfl rfl (nott rfl) rfl ?_
  refine ak (c0:=true) (g:=true) rfl rfl rfl (nott rfl) rfl ?_
  refine ak (c0:=true) (g:=true) rfl rfl rfl (nott rfl) rfl ?_
  refine ak (c0:=true) (g:=true) rfl rfl rfl (nott rfl) rfl ?_
  refine vb (q_pickt (v:=.bool true) rfl rfl rfl) ?_
  refine mv (v:=.bool true) ?_
  refine ak (c0:=true) (g:=true) rfl rfl rfl (nott rfl) rfl ?_
  refine ak (c0:=true) (g:=true) rfl rfl rfl (nott rfl) rfl ?_
  refine ak (c0:=true) (g:=true) rfl rfl rfl (nott rfl) rfl ?_
  refine ak (c0:=true) (g:=true) rfl rfl rfl (nott rfl) rfl ?_
  refine ak (c0:=true) (g:=true) rfl rfl rfl (nott rfl) rfl ?_
  refine ak (c0:=true) (g:=true) rfl rfl rfl (nott rfl) rfl ?_
  refine vb (q_pickt (v:=.bool true) rfl rfl rfl) ?_
  refine mv (v:=.bool true) ?_
  refine ak (c0:=true) (g:=true) rfl rfl rfl (nott rfl) rfl ?_
  refine ak (c0:=true) (g:=true) rfl rfl rfl (nott rfl) rfl ?_
  refine ak (c0:=true) (g:=true) rfl rfl rfl (nott rfl) rfl ?_
  refine ak (c0:=true) (g:=true) rfl rfl rfl (nott rfl) rfl ?_
  refine vb (q_pickt (v:=.bool true) rfl rfl rfl) ?_
  refine a6 ?_
  refine WC.ctk (b:=true) (by kernel_rfl) rfl ?_
  refine a7 ?_
  refine as_ (v:=.bool false) ?_
  refine a6 ?_
  refine ac ?_
  intro w hw
  cases h
  subst hF
  exact⟨by kernel_rfl,hw.fr⟩
theorem t_firthref11_Path{Γ:Gh}{w0:World}{Apath:Option Addr}{cpath:Nat}{path:List Int}(hpath:Sl intT Γ Apath path)(hpathc:path.length≤cpath)(hs:Sat Γ w0){r:Bool}(h:m_firthref11_Path path=some r):Calls Tryz.prog 54 #[.slice Apath path.length cpath] w0 (λe w'=>e = .returned (.bool r)∧Fr no w0 w'):=by
 refine calls_of (N:=25) (rs:=[2]) (args:=[.slice Apath path.length cpath]) Tryz.func54 rfl Tryz.ntmps54 Tryz.results54 rfl ?_
 obtain⟨F,hF⟩:∃F:Fm,F=⟨no,w0,Γ⟩:=⟨_,rfl⟩
 refine aa (C:=CC F Γ []) ?_ (hF▸Cur.start0 hs)
 refine a7 ?_
 refine as_ (v:=.bool false) ?_
 refine a6 ?_
 refine a8 ?_
 refine a7 ?_
 refine as_ (v:=.int .i64 0) ?_
 refine a6 ?_
 refine af ?_
 refine ap h (λ(i2:Nat) (s:Unit) σ w=>match s with | ()=>slots σ [(0,.slice Apath path.length cpath),(3,.int .i64 ((i2:Nat):Int))]∧CC F Γ [] w∧True) ?_ ?_
 ·
  intro w hw
  exact⟨(sl_ (by kernel_rfl)),hw,trivial⟩
 rintro f1 i2 ⟨⟩ σ w hi3 hlt4 hge5 ⟨hsl,hw,-⟩
 refine Wpt.slots hsl ?_
 refine aa (C:=CC F Γ []) ?_ hw
 clear hw hsl
 refine a8 ?_
 refine a7 ?_
 refine mv (v:=.int .i64 ((i2:Nat):Int)) ?_
 refine mv (v:=.slice Apath path.length cpath) ?_
 refine vb (q_len_slice rfl Tryz.underlying24 rfl) ?_
 refine vb (q_lss rfl rfl rfl) ?_
 refine a6 ?_
 refine WC.cond (b:=(decide (((i2:Nat):Int)<((path.length:Nat):Int)))) (by kernel_rfl) (λhb6=>?_) (λhb6=>?_)
 ·
  have hl7:=ilt hb6
  have h:=hlt4 hl7
  refine ae ?_
  change WC _ _ _ _ _ _
  refine a8 ?_
  refine af ?_
  refine a7 ?_
  refine mv (v:=.slice Apath path.length cpath) ?_
  refine mv (v:=.int .i64 ((i2:Nat):Int)) ?_
  refine vb (q_ixn (i:=i2) Tryz.underlying24 Tryz.sizeOf3 rfl rfl rfl hl7 (hpath.some_ hl7)) ?_
  refine vb (q_ld (c:=0) (v:=.int .i64 (gt path i2)) (hpath.intT_at hl7).2 rfl Tryz.isAgg3 rfl rfl) ?_
  refine vb (q_lss rfl rfl rfl) ?_
  refine mv (v:=.bool (decide ((gt path i2)<0))) ?_
  refine vg0 rfl rfl rfl rfl rfl (λhg8=>QV.qo (q_move (v:=.slice Apath path.length cpath) rfl (by kernel_rfl))) ?_
  refine vg0 rfl rfl rfl rfl rfl (λhg9=>QV.qo (q_move (v:=.int .i64 ((i2:Nat):Int)) rfl (by kernel_rfl))) ?_
  refine vg0 rfl rfl rfl rfl rfl (λhg10=>QV.qo (q_ixn (i:=i2) Tryz.underlying24 Tryz.sizeOf3 rfl (gu hg10 rfl) (gu hg10 rfl) hl7 (hpath.some_ hl7))) ?_
  refine vg0 rfl rfl rfl rfl rfl (λhg11=>QV.qo (q_ld (c:=0) (v:=.int .i64 (gt path i2)) (hpath.intT_at hl7).2 rfl Tryz.isAgg3 (gu hg11 rfl) rfl)) ?_
  refine vg0 rfl rfl rfl rfl rfl (λhg12=>QV.qo (q_gtr rfl (gu hg12 rfl) rfl)) ?_
  refine vb (q_pick rfl rfl (pk_or' (g:=(decide ((gt path i2)<0))) (y:=(decide (15<(gt path i2)))))) ?_
  refine a6 ?_
  refine aj h (by kernel_rfl) (λhb13 h=>?_) (λhb13 h=>?_)
  ·
   refine a7 ?_
   refine as_ (v:=.bool false) ?_
   refine a6 ?_
   refine ac ?_
   intro w hw
   cases h
   subst hF
   exact⟨by kernel_rfl,hw.fr⟩
  ·
   refine ae ?_
   change WC _ _ _ _ _ _
   refine ah ?_
   refine mv (v:=.int .i64 ((i2:Nat):Int)) ?_
   refine vb (q_add_r (r:=((i2+1:Nat):Int)) rfl rfl rfl (ctr_len hl7 hpath.le)) ?_
   refine as_ (v:=.int .i64 ((i2+1:Nat):Int)) ?_
   exact ab λw hw=>⟨hl7,(),h,(sl_ (by kernel_rfl)),hw,trivial⟩
 ·
  have h:=hge5 (ige hb6)
  refine am ?_
  change WC _ _ _ _ _ _
  refine a7 ?_
  refine mv (v:=.slice Apath path.length cpath) ?_
  refine vb (q_len_slice rfl Tryz.underlying24 rfl) ?_
  refine vb (q_leq rfl rfl rfl) ?_
  refine as_ (v:=.bool (decide (((path.length:Nat):Int)≤2))) ?_
  refine a6 ?_
  refine ac ?_
  intro w hw
  cases h
  subst hF
  exact⟨by kernel_rfl,hw.fr⟩
abbrev r_firthref11_longer(r:List Int)(U:List Rowb)(Γ:Gh)(v:Value):Prop := ∃(A0:Option Addr), ∃(c0:Nat), ∃(row0:Rowb),v = .slice A0 r.length c0∧U = [row0]∧Own intT Γ 3 row0 A0 c0 r∧True
theorem t_firthref11_longer{Γ:Gh}{w0:World}{Apath:Option Addr}{cpath:Nat}{path:List Int}(hpath:Sl intT Γ Apath path)(hpathc:path.length≤cpath)(d:Int)(hd:I64 d)(hp:Pre [] Γ w0){r:List Int}(h:m_firthref11_longer path d=some r):Calls Tryz.prog 57 #[.slice Apath path.length cpath,.int .i64 d] w0 (Outc Γ [] w0 (r_firthref11_longer r)):=by
 refine calls_of (N:=13) (rs:=[4]) (args:=[.slice Apath path.length cpath,.int .i64 d]) Tryz.func57 rfl Tryz.ntmps57 Tryz.results57 rfl ?_
 obtain⟨F,hF⟩:∃F:Fm,F=⟨ids [],w0,Γ⟩:=⟨_,rfl⟩
 refine aa (C:=CC F Γ []) ?_ (hF▸hp.start)
 refine a7 ?_
 refine as_ (v:=.slice none 0 0) ?_
 refine a6 ?_
 refine a7 ?_
 refine as_ (v:=.slice none 0 0) ?_
 refine a6 ?_
 refine a7 ?_
 refine mv (v:=.slice none 0 0) ?_
 refine mv (v:=.slice Apath path.length cpath) ?_
 refine WR.sub (λw hw=>hw.pad) ?_
 obtain⟨hk1,h⟩:=chk_some h
 refine e_append (T:=intT) (xs:=[]) (ys:=path) elem_24 (i:=0) rfl rfl rfl rfl (by kernel_rfl) rfl rfl (Own.nil intT Γ 3) (of_decide_eq_true hk1) (λw hw=>src_sl hpath hw) ?_
 intro row2 A3 c4 ho5
 refine as_ (v:=.slice A3 path.length c4) ?_
 refine a6 ?_
 refine a7 ?_
 refine mv (v:=.slice A3 path.length c4) ?_
 refine mv (v:=.int .i64 d) ?_
 refine e_buildSlice (cs:=#[.int .i64 d]) (e:=3) rfl rfl rfl rfl (λw=>by kernel_rfl) ?_
 intro g6
 obtain⟨hk7,h⟩:=chk_some h
 refine e_append (T:=intT) (xs:=path) (ys:=[d]) elem_24 (i:=1) rfl rfl rfl rfl rfl rfl rfl ho5 (of_decide_eq_true hk7) (λw hw=>src_one (T:=intT) (y:=d) (i:=0) rfl (by exact⟨rfl,hd⟩) hw) ?_
 intro row8 A9 c10 ho11
 refine as_ (v:=.slice A9 (path++[d]).length c10) ?_
 refine a6 ?_
 refine ac ?_
 intro w hw
 cases h
 subst hF
 exact end_e (is:=[1]) (by kernel_rfl) hw rfl ⟨A9,c10,row8,rfl,rfl,ho11,trivial⟩
theorem t_firthref01_Hash{Γ:Gh}{w0:World}{Ab:Option Addr}{cb:Nat}{b:List UInt8}(hb:Sl byteT Γ Ab b)(hbc:b.length≤cb)(hs:Sat Γ w0){r:Int}(h:m_firthref01_Hash b=some r):Calls Tryz.prog 80 #[.slice Ab b.length cb] w0 (λe w'=>e = .returned (.int .u64 r)∧Fr no w0 w'):=by
 refine calls_of (N:=30) (rs:=[2]) (args:=[.slice Ab b.length cb]) Tryz.func80 rfl Tryz.ntmps80 Tryz.results80 rfl ?_
 obtain⟨F,hF⟩:∃F:Fm,F=⟨no,w0,Γ⟩:=⟨_,rfl⟩
 refine aa (C:=CC F Γ []) ?_ (hF▸Cur.start0 hs)
 refine a7 ?_
 refine as_ (v:=.int .u64 0) ?_
 refine a6 ?_
 refine a7 ?_
 refine as_ (v:=.int .u64 14695981039346656037) ?_
 refine a6 ?_
 refine a8 ?_
 refine a7 ?_
 refine as_ (v:=.int .i64 0) ?_
 refine a6 ?_
 refine af ?_
 refine ap h (λ(i4:Nat) (h_1:Int) σ w=>slots σ [(0,.slice Ab b.length cb),(3,.int .u64 h_1),(4,.int .i64 ((i4:Nat):Int))]∧CC F Γ [] w∧U64 h_1∧True) ?_ ?_
 ·
  intro w hw
  exact⟨(sl_ (by kernel_rfl)),hw,(show U64 14695981039346656037 by decide),trivial⟩
 rintro f3 i4 h_1 σ w hi5 hlt6 hge7 ⟨hsl,hw,hr2,-⟩
 refine Wpt.slots hsl ?_
 refine aa (C:=CC F Γ []) ?_ hw
 clear hw hsl
 refine a8 ?_
 refine a7 ?_
 refine mv (v:=.int .i64 ((i4:Nat):Int)) ?_
 refine mv (v:=.slice Ab b.length cb) ?_
 refine vb (q_len_slice rfl Tryz.underlying136 rfl) ?_
 refine vb (q_lss rfl rfl rfl) ?_
 refine a6 ?_
 refine WC.cond (b:=(decide (((i4:Nat):Int)<((b.length:Nat):Int)))) (by kernel_rfl) (λhb8=>?_) (λhb8=>?_)
 ·
  have hl9:=ilt hb8
  have h:=hlt6 hl9
  refine ae ?_
  change WC _ _ _ _ _ _
  refine a8 ?_
  refine af ?_
  refine a7 ?_
  refine mv (v:=.int .u64 h_1) ?_
  refine mv (v:=.slice Ab b.length cb) ?_
  refine mv (v:=.int .i64 ((i4:Nat):Int)) ?_
  refine vb (q_ixn (i:=i4) Tryz.underlying136 Tryz.sizeOf5 rfl rfl rfl hl9 (hb.some_ hl9)) ?_
  refine vb (q_ld (c:=0) (v:=.int .u8 (((gt b i4).toNat:Nat):Int)) (hb.byteT_at hl9).2 rfl Tryz.isAgg5 rfl rfl) ?_
  refine vb (q_conv Tryz.underlying78 Tryz.underlying5 rfl rfl) ?_
  refine vb (q_xor rfl rfl rfl) ?_
  refine as_ (v:=.int .u64 (ixor .u64 h_1 (wu64 (((gt b i4).toNat:Nat):Int)))) ?_
  refine a6 ?_
  refine ah ?_
  refine mv (v:=.int .u64 (ixor .u64 h_1 (wu64 (((gt b i4).toNat:Nat):Int)))) ?_
  refine vb (q_mul rfl rfl rfl) ?_
  refine as_ (v:=.int .u64 (wu64 ((ixor .u64 h_1 (wu64 (((gt b i4).toNat:Nat):Int)))*1099511628211))) ?_
  refine ab ?_
  change WC _ _ _ _ _ _
  refine ah ?_
  refine mv (v:=.int .i64 ((i4:Nat):Int)) ?_
  refine vb (q_add_r (r:=((i4+1:Nat):Int)) rfl rfl rfl (ctr_len hl9 hb.le)) ?_
  refine as_ (v:=.int .i64 ((i4+1:Nat):Int)) ?_
  exact ab λw hw=>⟨hl9,(wu64 ((ixor .u64 h_1 (wu64 (((gt b i4).toNat:Nat):Int)))*1099511628211)),h,(sl_ (by kernel_rfl)),hw,(wu64_r _),trivial⟩
 ·
  have h:=hge7 (ige hb8)
  refine am ?_
  change WC _ _ _ _ _ _
  refine a7 ?_
  refine mv (v:=.int .u64 h_1) ?_
  refine mv (v:=.int .u64 h_1) ?_
  refine vb (q_quo rfl rfl rfl (by decide)) ?_
  refine vb (q_xor rfl rfl rfl) ?_
  refine as_ (v:=.int .u64 (ixor .u64 h_1 (wu64 (h_1.tdiv 8589934592)))) ?_
  refine a6 ?_
  refine a7 ?_
  refine mv (v:=.int .u64 (ixor .u64 h_1 (wu64 (h_1.tdiv 8589934592)))) ?_
  refine vb (q_mul rfl rfl rfl) ?_
  refine as_ (v:=.int .u64 (wu64 ((ixor .u64 h_1 (wu64 (h_1.tdiv 8589934592)))*18397679294719823053))) ?_
  refine a6 ?_
  refine a7 ?_
  refine mv (v:=.int .u64 (wu64 ((ixor .u64 h_1 (wu64 (h_1.tdiv 8589934592)))*18397679294719823053))) ?_
  refine mv (v:=.int .u64 (wu64 ((ixor .u64 h_1 (wu64 (h_1.tdiv 8589934592)))*18397679294719823053))) ?_
  refine vb (q_quo rfl rfl rfl (by decide)) ?_
  refine vb (q_xor rfl rfl rfl) ?_
  refine as_ (v:=.int .u64 (ixor .u64 (wu64 ((ixor .u64 h_1 (wu64 (h_1.tdiv 8589934592)))*18397679294719823053)) (wu64 ((wu64 ((ixor .u64 h_1 (wu64 (h_1.tdiv 8589934592)))*18397679294719823053)).tdiv 8589934592)))) ?_
  refine a6 ?_
  refine ac ?_
  intro w hw
  cases h
  subst hF
  exact⟨by kernel_rfl,hw.fr⟩
abbrev r_firthref11_Place(r:List Int)(U:List Rowb)(Γ:Gh)(v:Value):Prop := ∃(A0:Option Addr), ∃(c0:Nat), ∃(row0:Rowb),v = .slice A0 r.length c0∧U = [row0]∧Own intT Γ 3 row0 A0 c0 r∧True
theorem t_firthref11_Place{Γ:Gh}{w0:World}(key:ByteArray)(hkey:key.size≤lim)(hp:Pre [] Γ w0){r:List Int}(h:m_firthref11_Place key=some r):Calls Tryz.prog 68 #[.string key] w0 (Outc Γ [] w0 (r_firthref11_Place r)):=by
 refine calls_of (N:=15) (rs:=[2]) (args:=[.string key]) Tryz.func68 rfl Tryz.ntmps68 Tryz.results68 rfl ?_
 obtain⟨F,hF⟩:∃F:Fm,F=⟨ids [],w0,Γ⟩:=⟨_,rfl⟩
 refine aa (C:=CC F Γ []) ?_ (hF▸hp.start)
 refine a7 ?_
 refine as_ (v:=.slice none 0 0) ?_
 refine a6 ?_
 refine a7 ?_
 refine mv (v:=.string key) ?_
 refine e_convB (src:=9) (dst:=136) (s:=key) Tryz.underlying9 Tryz.underlying136 Tryz.underlying5 hkey rfl rfl rfl rfl rfl ?_
 intro Γ1 A2 c3 hl4 hs5 hc6
 obtain⟨z7,hz8,h⟩:=bnd h
 refine vc rfl rfl rfl (q_call (call_run Tryz.call80 rfl rfl (by kernel_rfl)) (λw hw=>t_firthref01_Hash (Γ:=Gh.all w) (hs5.mono hw.sat.le_all) hc6 (Sat.all w) hz8)) ?_
 refine as_ (v:=.int .u64 z7) ?_
 refine a6 ?_
 refine a7 ?_
 refine mv (v:=.int .u64 z7) ?_
 refine vb (q_quo rfl rfl rfl (by decide)) ?_
 refine vb (q_conv Tryz.underlying3 Tryz.underlying78 rfl rfl) ?_
 refine mv (v:=.int .u64 z7) ?_
 refine vb (q_quo rfl rfl rfl (by decide)) ?_
 refine vb (q_rem rfl rfl rfl (by decide)) ?_
 refine vb (q_conv Tryz.underlying3 Tryz.underlying78 rfl rfl) ?_
 refine e_buildSlice (cs:=#[.int .i64 (w64 (wu64 (z7.tdiv 1152921504606846976))),.int .i64 (w64 ((wu64 (z7.tdiv 72057594037927936)).tmod 16))]) (e:=3) rfl rfl rfl rfl (λw=>by kernel_rfl) ?_
 intro g9
 refine as_ (v:=.slice (some ⟨g9,0,none⟩) 2 2) ?_
 refine a6 ?_
 refine ac ?_
 intro w hw
 have ho10:Own intT Γ1 3 [(g9,.cells #[.int .i64 (w64 (wu64 (z7.tdiv 1152921504606846976))),.int .i64 (w64 ((wu64 (z7.tdiv 72057594037927936)).tmod 16))] 3 (0,0))] (some ⟨g9,0,none⟩) 2 [(w64 (wu64 (z7.tdiv 1152921504606846976))),(w64 ((wu64 (z7.tdiv 72057594037927936)).tmod 16))]:=aq (T:=intT) (ys:=[(w64 (wu64 (z7.tdiv 1152921504606846976))),(w64 ((wu64 (z7.tdiv 72057594037927936)).tmod 16))]) [[.int .i64 (w64 (wu64 (z7.tdiv 1152921504606846976)))],[.int .i64 (w64 ((wu64 (z7.tdiv 72057594037927936)).tmod 16))]] rfl (show 2≤lim by decide) (show Ty.rd intT Γ1 [.int .i64 (w64 (wu64 (z7.tdiv 1152921504606846976)))] (w64 (wu64 (z7.tdiv 1152921504606846976)))∧Ty.rd intT Γ1 [.int .i64 (w64 ((wu64 (z7.tdiv 72057594037927936)).tmod 16))] (w64 ((wu64 (z7.tdiv 72057594037927936)).tmod 16))∧True from ⟨⟨rfl,(w64_r _)⟩,⟨rfl,(w64_r _)⟩,trivial⟩)
 cases h
 subst hF
 exact end_e (is:=[0]) (by kernel_rfl) hw rfl ⟨(some ⟨g9,0,none⟩),2,[(g9,.cells #[.int .i64 (w64 (wu64 (z7.tdiv 1152921504606846976))),.int .i64 (w64 ((wu64 (z7.tdiv 72057594037927936)).tmod 16))] 3 (0,0))],rfl,rfl,ho10,trivial⟩
abbrev r_firthref11_Recs(r:List Rec)(U:List Rowb)(Γ:Gh)(v:Value):Prop := ∃(A0:Option Addr), ∃(c0:Nat), ∃(row0:Rowb),v = .slice A0 r.length c0∧U = [row0]∧Own recT Γ 70 row0 A0 c0 r∧True
theorem t_firthref11_Recs{Γ:Gh}{w0:World}{Aall:Option Addr}{call:Nat}{all:List Rec}(hall:Sl recT Γ Aall all)(hallc:all.length≤call){Apath:Option Addr}{cpath:Nat}{path:List Int}(hpath:Sl intT Γ Apath path)(hpathc:path.length≤cpath)(hp:Pre [] Γ w0){r:List Rec}(h:m_firthref11_Recs all path=some r):Calls Tryz.prog 55 #[.slice Aall all.length call,.slice Apath path.length cpath] w0 (Outc Γ [] w0 (r_firthref11_Recs r)):=by
 refine calls_of (N:=53) (rs:=[4]) (args:=[.slice Aall all.length call,.slice Apath path.length cpath]) Tryz.func55 rfl Tryz.ntmps55 Tryz.results55 rfl ?_
 obtain⟨F,hF⟩:∃F:Fm,F=⟨ids [],w0,Γ⟩:=⟨_,rfl⟩
 refine aa (C:=CC F Γ []) ?_ (hF▸hp.start)
 refine a7 ?_
 refine as_ (v:=.slice none 0 0) ?_
 refine a6 ?_
 refine a7 ?_
 refine as_ (v:=.slice none 0 0) ?_
 refine a6 ?_
 refine a8 ?_
 refine a7 ?_
 refine as_ (v:=.int .i64 0) ?_
 refine a6 ?_
 refine af ?_
 refine aA h (λ(s:(List Rec)×Int) σ w=>match s with | (out_3,i_8) => ∃(Γ1:Gh), ∃(A4:Option Addr), ∃(c5:Nat), ∃(row6:Rowb),slots σ [(0,.slice Aall all.length call),(1,.slice Apath path.length cpath),(5,.slice A4 out_3.length c5),(6,.int .i64 i_8)]∧CC F Γ1 [row6] w∧Gh.le Γ Γ1∧Own recT Γ1 70 row6 A4 c5 out_3∧I64 i_8∧True) ?_ ?_
 ·
  intro w hw
  have hw:=hw.pad
  exact⟨Γ,none,0,[],(sl_ (by kernel_rfl)),hw,(Gh.refl _),(Own.nil recT _ 70),(show I64 0 by decide),trivial⟩
 rintro f10 ⟨out_3,i_8⟩ σ w h ⟨Γ1,A4,c5,row6,hsl,hw,hl2,ho7,hr9,-⟩
 refine Wpt.slots hsl ?_
 refine aa (C:=CC F Γ1 [row6]) ?_ hw
 clear hw hsl
 refine a8 ?_
 refine a7 ?_
 refine mv (v:=.int .i64 i_8) ?_
 refine mv (v:=.slice Aall all.length call) ?_
 refine vb (q_len_slice rfl Tryz.underlying23 rfl) ?_
 refine vb (q_lss rfl rfl rfl) ?_
 refine mv (v:=.bool (decide (i_8<((all.length:Nat):Int)))) ?_
 refine vg1 rfl rfl rfl rfl rfl (λhg14=>QV.qo (q_move (v:=.slice Apath path.length cpath) rfl (by kernel_rfl))) ?_
 obtain⟨z16,hz17,h⟩:=bnd h
 refine vg1 rfl rfl rfl rfl rfl (λhg15=>(q_call (call_run Tryz.call54 rfl rfl (args1 (gu hg15 rfl))) (λw hw=>t_firthref11_Path (Γ:=Gh.all w) ((hpath.mono hl2).mono hw.sat.le_all) hpathc (Sat.all w) (gc_of hz17 hg15)))) ?_
 refine vb (q_pick rfl rfl (pk_and' (g:=(decide (i_8<((all.length:Nat):Int)))) (y:=z16))) ?_
 refine a6 ?_
 refine aj h (by kernel_rfl) (λhb18 h=>?_) (λhb18 h=>?_)
 ·
  refine ae ?_
  change WC _ _ _ _ _ _
  refine ax (λσ w => ∃(out_21:List Rec), ∃(Γ19:Gh), ∃(A22:Option Addr), ∃(c23:Nat), ∃(row24:Rowb),m_firthref11_Recs_j11 i_8 f10 out_21=some r∧slots σ [(0,.slice Aall all.length call),(1,.slice Apath path.length cpath),(5,.slice A22 out_21.length c23),(6,.int .i64 i_8)]∧CC F Γ19 [row24] w∧Gh.le Γ1 Γ19∧Own recT Γ19 70 row24 A22 c23 out_21∧True) ?_ ?_
  ·
   refine af ?_
   refine a7 ?_
   refine mv (v:=.slice Aall all.length call) ?_
   refine mv (v:=.int .i64 i_8) ?_
   obtain⟨hk26,h⟩:=chk_some h
   refine vb (q_ix Tryz.underlying23 Tryz.sizeOf70 rfl rfl rfl hk26 ((hall.mono hl2).some_ (inb_lt hk26))) ?_
   refine vb (q_field_addr (i_8.toNat*2) fld_70_0 rfl rfl ((hall.mono hl2).some_ (inb_lt hk26)) rfl) ?_
   obtain⟨A27,c28,hx29⟩:=(hall.mono hl2).recT_at i_8.toNat
   refine vb (q_ld (c:=0) (v:=.string (gt all i_8.toNat).key) (hx29 (inb_lt hk26)).2 rfl Tryz.isAgg9 rfl rfl) ?_
   obtain⟨z30,hz31,h⟩:=bnd h
   refine e_call (is:=[]) rfl rfl (call_run Tryz.call68 rfl rfl (by kernel_rfl)) rfl (λw hp=>t_firthref11_Place ((gt all i_8.toNat).key) (hx29 (inb_lt hk26)).1.1 hp hz31) ?_
   rintro Γ32 U34 v35 hl33 ⟨A36,c37,row38,rfl,rfl,hr39,_⟩
   change WR _ _ _ (CC F Γ32 [row38,row6]) _ _ (upd _ 25 (.slice A36 z30.length c37))
   refine as_ (v:=.slice A36 z30.length c37) ?_
   refine a6 ?_
   refine a7 ?_
   refine as_ (v:=.bool true) ?_
   refine a6 ?_
   refine a8 ?_
   refine a7 ?_
   refine as_ (v:=.int .i64 0) ?_
   refine a6 ?_
   refine af ?_
   refine ap h (λ(i42:Nat) (in_40:Bool) σ w=>slots σ [(0,.slice Aall all.length call),(1,.slice Apath path.length cpath),(5,.slice A4 out_3.length c5),(6,.int .i64 i_8),(7,.slice A36 z30.length c37),(8,.bool in_40),(9,.int .i64 ((i42:Nat):Int))]∧CC F Γ32 [row38,row6] w∧True) ?_ ?_
   ·
    intro w hw
    exact⟨(sl_ (by kernel_rfl)),hw,trivial⟩
   rintro f41 i42 in_40 σ w hi43 hlt44 hge45 ⟨hsl,hw,-⟩
   refine Wpt.slots hsl ?_
   refine aa (C:=CC F Γ32 [row38,row6]) ?_ hw
   clear hw hsl
   refine a8 ?_
   refine a7 ?_
   refine mv (v:=.int .i64 ((i42:Nat):Int)) ?_
   refine mv (v:=.slice Apath path.length cpath) ?_
   refine vb (q_len_slice rfl Tryz.underlying24 rfl) ?_
   refine vb (q_lss rfl rfl rfl) ?_
   refine a6 ?_
   refine WC.cond (b:=(decide (((i42:Nat):Int)<((path.length:Nat):Int)))) (by kernel_rfl) (λhb46=>?_) (λhb46=>?_)
   ·
    have hl47:=ilt hb46
    have h:=hlt44 hl47
    refine ae ?_
    change WC _ _ _ _ _ _
    refine a8 ?_
    refine af ?_
    refine ay (by kernel_rfl) (by kernel_rfl) (λw hw=>hw.drawn _) ?_
    refine wa rfl rfl rfl (q_move (v:=.bool in_40) rfl (by kernel_rfl)) ?_
    refine wa rfl rfl rfl (q_move (v:=.bool in_40) rfl (by kernel_rfl)) ?_
    refine wg1 rfl rfl rfl rfl rfl (λhg48=>QV.qo (q_move (v:=.slice A36 z30.length c37) rfl (by kernel_rfl))) ?_
    refine wg1 rfl rfl rfl rfl rfl (λhg49=>QV.qo (q_move (v:=.int .i64 ((i42:Nat):Int)) rfl (by kernel_rfl))) ?_
    obtain⟨hk51,h⟩:=chk_some h
    refine wg1 rfl rfl rfl rfl rfl (λhg50=>QV.qo (q_ixn (i:=i42) Tryz.underlying24 Tryz.sizeOf3 rfl (gu hg50 rfl) (gu hg50 rfl) (of_decide_eq_true (imp_of hk51 hg50)) (hr39.some_ (of_decide_eq_true (imp_of hk51 hg50))))) ?_
    refine wg1 rfl rfl rfl rfl rfl (λhg52=>QV.qo (q_ldo (c:=0) (v:=.int .i64 (gt z30 i42)) (i:=0) rfl (hr39.intT_at (of_decide_eq_true (imp_of hk51 hg52))).2 rfl Tryz.isAgg3 (gu hg52 rfl) rfl)) ?_
    refine wg1 rfl rfl rfl rfl rfl (λhg53=>QV.qo (q_move (v:=.slice Apath path.length cpath) rfl (by kernel_rfl))) ?_
    refine wg1 rfl rfl rfl rfl rfl (λhg54=>QV.qo (q_move (v:=.int .i64 ((i42:Nat):Int)) rfl (by kernel_rfl))) ?_
    refine wg1 rfl rfl rfl rfl rfl (λhg55=>QV.qo (q_ixn (i:=i42) Tryz.underlying24 Tryz.sizeOf3 rfl (gu hg55 rfl) (gu hg55 rfl) hl47 ((hpath.mono (hl2.trans hl33)).some_ hl47))) ?_
    refine wg1 rfl rfl rfl rfl rfl (λhg56=>QV.qo (q_ld (c:=0) (v:=.int .i64 (gt path i42)) ((hpath.mono (hl2.trans hl33)).intT_at hl47).2 rfl Tryz.isAgg3 (gu hg56 rfl) rfl)) ?_
    refine wg1 rfl rfl rfl rfl rfl (λhg57=>QV.qo (q_eql rfl (gu hg57 rfl) (gu hg57 rfl))) ?_
    refine wa rfl rfl rfl (q_pick rfl rfl (pk_and' (g:=in_40) (y:=((gt z30 i42)==(gt path i42))))) ?_
    refine wa rfl rfl rfl (q_assign (v:=.bool (in_40&&((gt z30 i42)==(gt path i42)))) rfl (by kernel_rfl)) ?_
    refine aw ?_
    change WC _ _ _ _ _ _
    refine ah ?_
    refine mv (v:=.int .i64 ((i42:Nat):Int)) ?_
    refine vb (q_add_r (r:=((i42+1:Nat):Int)) rfl rfl rfl (ctr_len hl47 (hpath.mono (hl2.trans hl33)).le)) ?_
    refine as_ (v:=.int .i64 ((i42+1:Nat):Int)) ?_
    exact ab λw hw=>⟨hl47,(in_40&&((gt z30 i42)==(gt path i42))),h,(sl_ (by kernel_rfl)),hw,trivial⟩
   ·
    have h:=hge45 (ige hb46)
    refine am ?_
    change WC _ _ _ _ _ _
    refine a7 ?_
    refine mv (v:=.bool in_40) ?_
    refine a6 ?_
    refine aj h (by kernel_rfl) (λhb58 h=>?_) (λhb58 h=>?_)
    ·
     refine ah ?_
     refine mv (v:=.slice A4 out_3.length c5) ?_
     refine mv (v:=.slice Aall all.length call) ?_
     refine mv (v:=.int .i64 i_8) ?_
     refine vb (q_ix Tryz.underlying23 Tryz.sizeOf70 rfl rfl rfl hk26 ((hall.mono (hl2.trans hl33)).some_ (inb_lt hk26))) ?_
     obtain⟨A59,c60,hx61⟩:=(hall.mono (hl2.trans hl33)).recT_at i_8.toNat
     refine vb (q_lda (c:=0) (vs:=[.string (gt all i_8.toNat).key,.slice A59 ((gt all i_8.toNat).vers).length c60]) (hx61 (inb_lt hk26)).2 rfl Tryz.isAgg70 Tryz.sizeOf70 rfl rfl rfl) ?_
     refine e_buildSlice (cs:=#[.string (gt all i_8.toNat).key,.slice A59 ((gt all i_8.toNat).vers).length c60]) (e:=70) rfl rfl rfl rfl (λw=>by kernel_rfl) ?_
     intro g62
     obtain⟨hk63,h⟩:=chk_some h
     refine e_append (T:=recT) (xs:=out_3) (ys:=[(gt all i_8.toNat)]) elem_23 (i:=2) rfl rfl rfl rfl rfl rfl rfl (ho7.mono hl33) (of_decide_eq_true hk63) (λw hw=>src_one (T:=recT) (y:=(gt all i_8.toNat)) (i:=0) rfl (by exact⟨A59,c60,rfl,(hx61 (inb_lt hk26)).1⟩) hw) ?_
     intro row64 A65 c66 ho67
     refine as_ (v:=.slice A65 (out_3++[(gt all i_8.toNat)]).length c66) ?_
     exact ab λw hw=>⟨(out_3++[(gt all i_8.toNat)]),Γ32,A65,c66,row64,h,(sl_ (by kernel_rfl)),(hw.only (is:=[2]) rfl),hl33,ho67,trivial⟩
    ·
     exact ae λw hw=>⟨out_3,Γ32,A4,c5,row6,h,(sl_ (by kernel_rfl)),(hw.only (is:=[1]) rfl),hl33,(ho7.mono hl33),trivial⟩
  ·
   rintro σ w ⟨out_21,Γ19,A22,c23,row24,h,hsl,hw,hl20,ho25,-⟩
   refine Wpt.slots hsl ?_
   refine aa (C:=CC F Γ19 [row24]) ?_ hw
   clear hw hsl
   refine ah ?_
   refine mv (v:=.int .i64 i_8) ?_
   refine vb (q_add rfl rfl rfl) ?_
   refine as_ (v:=.int .i64 (w64 (i_8+1))) ?_
   exact ab λw hw=>⟨(out_21,(w64 (i_8+1))),h,Γ19,A22,c23,row24,(sl_ (by kernel_rfl)),hw,(hl2.trans hl20),ho25,(w64_r _),trivial⟩
 ·
  refine am ?_
  change WC _ _ _ _ _ _
  refine a7 ?_
  refine mv (v:=.slice A4 out_3.length c5) ?_
  refine as_ (v:=.slice A4 out_3.length c5) ?_
  refine a6 ?_
  refine ac ?_
  intro w hw
  cases h
  subst hF
  exact end_e (is:=[0]) (by kernel_rfl) hw rfl ⟨A4,c5,row6,rfl,rfl,ho7,trivial⟩
abbrev r_firthref01_PutNum(r:List UInt8)(U:List Rowb)(Γ:Gh)(v:Value):Prop := ∃(A0:Option Addr), ∃(c0:Nat), ∃(row0:Rowb),v = .slice A0 r.length c0∧U = [row0]∧Own byteT Γ 5 row0 A0 c0 r∧True
theorem t_firthref01_PutNum{Γ:Gh}{w0:World}(n:Int)(hn:I64 n)(hp:Pre [] Γ w0){r:List UInt8}(h:m_firthref01_PutNum n=some r):Calls Tryz.prog 111 #[.int .i64 n] w0 (Outc Γ [] w0 (r_firthref01_PutNum r)):=by
 refine calls_of (N:=22) (rs:=[2]) (args:=[.int .i64 n]) Tryz.func111 rfl Tryz.ntmps111 Tryz.results111 rfl ?_
 obtain⟨F,hF⟩:∃F:Fm,F=⟨ids [],w0,Γ⟩:=⟨_,rfl⟩
 refine aa (C:=CC F Γ []) ?_ (hF▸hp.start)
 refine a7 ?_
 refine as_ (v:=.slice none 0 0) ?_
 refine a6 ?_
 refine ax (λσ w => ∃(n_1:Int),m_firthref01_PutNum_j1 n_1=some r∧slots σ [(0,.int .i64 n_1)]∧CC F Γ [] w∧I64 n_1∧True) ?_ ?_
 ·
  refine a7 ?_
  refine mv (v:=.int .i64 n) ?_
  refine vb (q_lss rfl rfl rfl) ?_
  refine a6 ?_
  refine aj h (by kernel_rfl) (λhb3 h=>?_) (λhb3 h=>?_)
  ·
   refine ah ?_
   refine as_ (v:=.int .i64 0) ?_
   exact ab λw hw=>⟨0,h,(sl_ (by kernel_rfl)),hw,(show I64 0 by decide),trivial⟩
  ·
   exact ae λw hw=>⟨n,h,(sl_ (by kernel_rfl)),hw,hn,trivial⟩
 ·
  rintro σ w ⟨n_1,h,hsl,hw,hr2,-⟩
  refine Wpt.slots hsl ?_
  refine aa (C:=CC F Γ []) ?_ hw
  clear hw hsl
  refine a7 ?_
  refine as_ (v:=.slice none 0 0) ?_
  refine a6 ?_
  refine a8 ?_
  refine af ?_
  refine aA h (λ(s:Int×(List UInt8)) σ w=>match s with | (n_4,b_6) => ∃(A7:Option Addr), ∃(c8:Nat), ∃(row9:Rowb),slots σ [(0,.int .i64 n_4),(3,.slice A7 b_6.length c8)]∧CC F Γ [row9] w∧I64 n_4∧Own byteT Γ 5 row9 A7 c8 b_6∧True) ?_ ?_
  ·
   intro w hw
   have hw:=hw.pad
   exact⟨none,0,[],(sl_ (by kernel_rfl)),hw,hr2,(Own.nil byteT _ 5),trivial⟩
  rintro f11 ⟨n_4,b_6⟩ σ w h ⟨A7,c8,row9,hsl,hw,hr5,ho10,-⟩
  refine Wpt.slots hsl ?_
  refine aa (C:=CC F Γ [row9]) ?_ hw
  clear hw hsl
  refine a8 ?_
  refine a7 ?_
  refine mv (v:=.int .i64 n_4) ?_
  refine vb (q_geq rfl rfl rfl) ?_
  refine a6 ?_
  refine aj h (by kernel_rfl) (λhb15 h=>?_) (λhb15 h=>?_)
  ·
   refine ae ?_
   change WC _ _ _ _ _ _
   refine af ?_
   refine a7 ?_
   refine mv (v:=.slice A7 b_6.length c8) ?_
   refine mv (v:=.int .i64 n_4) ?_
   refine vb (q_rem rfl rfl rfl (by decide)) ?_
   refine vb (q_add rfl rfl rfl) ?_
   refine vb (q_conv Tryz.underlying5 Tryz.underlying2 rfl rfl) ?_
   refine e_buildSlice (cs:=#[.int .u8 (wu8 (w64 ((n_4.tmod 128)+128)))]) (e:=5) rfl rfl rfl rfl (λw=>by kernel_rfl) ?_
   intro g16
   obtain⟨hk17,h⟩:=chk_some h
   refine e_append (T:=byteT) (xs:=b_6) (ys:=[(b8 (wu8 (w64 ((n_4.tmod 128)+128))))]) elem_136 (i:=1) rfl rfl rfl rfl rfl rfl rfl ho10 (of_decide_eq_true hk17) (λw hw=>src_one (T:=byteT) (y:=(b8 (wu8 (w64 ((n_4.tmod 128)+128))))) (i:=0) rfl (by exact(by show [Value.int .u8 (wu8 (w64 ((n_4.tmod 128)+128)))] = [Value.int .u8 _]; rw [b8_val (wu8_r _)])) hw) ?_
   intro row18 A19 c20 ho21
   refine as_ (v:=.slice A19 (b_6++[(b8 (wu8 (w64 ((n_4.tmod 128)+128))))]).length c20) ?_
   refine a6 ?_
   refine ah ?_
   refine mv (v:=.int .i64 n_4) ?_
   refine vb (q_quo rfl rfl rfl (by decide)) ?_
   refine as_ (v:=.int .i64 (w64 (n_4.tdiv 128))) ?_
   exact ab λw hw=>⟨((w64 (n_4.tdiv 128)),(b_6++[(b8 (wu8 (w64 ((n_4.tmod 128)+128))))])),h,A19,c20,row18,(sl_ (by kernel_rfl)),(hw.only (is:=[1]) rfl),(w64_r _),ho21,trivial⟩
  ·
   refine am ?_
   change WC _ _ _ _ _ _
   refine a7 ?_
   refine mv (v:=.slice A7 b_6.length c8) ?_
   refine mv (v:=.int .i64 n_4) ?_
   refine vb (q_conv Tryz.underlying5 Tryz.underlying2 rfl rfl) ?_
   refine e_buildSlice (cs:=#[.int .u8 (wu8 n_4)]) (e:=5) rfl rfl rfl rfl (λw=>by kernel_rfl) ?_
   intro g22
   obtain⟨hk23,h⟩:=chk_some h
   refine e_append (T:=byteT) (xs:=b_6) (ys:=[(b8 (wu8 n_4))]) elem_136 (i:=1) rfl rfl rfl rfl rfl rfl rfl ho10 (of_decide_eq_true hk23) (λw hw=>src_one (T:=byteT) (y:=(b8 (wu8 n_4))) (i:=0) rfl (by exact(by show [Value.int .u8 (wu8 n_4)] = [Value.int .u8 _]; rw [b8_val (wu8_r _)])) hw) ?_
   intro row24 A25 c26 ho27
   refine as_ (v:=.slice A25 (b_6++[(b8 (wu8 n_4))]).length c26) ?_
   refine a6 ?_
   refine ac ?_
   intro w hw
   cases h
   subst hF
   exact end_e (is:=[1]) (by kernel_rfl) hw rfl ⟨A25,c26,row24,rfl,rfl,ho27,trivial⟩
abbrev r_firthref01_PutText(r:List UInt8)(U:List Rowb)(Γ:Gh)(v:Value):Prop := ∃(A0:Option Addr), ∃(c0:Nat), ∃(row0:Rowb),v = .slice A0 r.length c0∧U = [row0]∧Own byteT Γ 5 row0 A0 c0 r∧True
theorem t_firthref01_PutText{Γ:Gh}{w0:World}(s_:ByteArray)(hs_:s_.size≤lim)(hp:Pre [] Γ w0){r:List UInt8}(h:m_firthref01_PutText s_=some r):Calls Tryz.prog 112 #[.string s_] w0 (Outc Γ [] w0 (r_firthref01_PutText r)):=by
 refine calls_of (N:=21) (rs:=[2]) (args:=[.string s_]) Tryz.func112 rfl Tryz.ntmps112 Tryz.results112 rfl ?_
 obtain⟨F,hF⟩:∃F:Fm,F=⟨ids [],w0,Γ⟩:=⟨_,rfl⟩
 refine aa (C:=CC F Γ []) ?_ (hF▸hp.start)
 refine a7 ?_
 refine as_ (v:=.slice none 0 0) ?_
 refine a6 ?_
 refine a7 ?_
 refine mv (v:=.string s_) ?_
 refine vb (q_len_str rfl Tryz.underlying9 rfl) ?_
 obtain⟨z1,hz2,h⟩:=bnd h
 refine e_call (is:=[]) rfl rfl (call_run Tryz.call111 rfl rfl (by kernel_rfl)) rfl (λw hp=>t_firthref01_PutNum ((s_.size:Nat):Int) (len_r hs_) hp hz2) ?_
 rintro Γ3 U5 v6 hl4 ⟨A7,c8,row9,rfl,rfl,hr10,_⟩
 change WR _ _ _ (CC F Γ3 [row9]) _ _ (upd _ 7 (.slice A7 z1.length c8))
 refine as_ (v:=.slice A7 z1.length c8) ?_
 refine a6 ?_
 refine a8 ?_
 refine a7 ?_
 refine as_ (v:=.int .i64 0) ?_
 refine a6 ?_
 refine af ?_
 refine az h (λ(i17:Nat) (b_11:List UInt8) σ w => ∃(A12:Option Addr), ∃(c13:Nat), ∃(row14:Rowb),slots σ [(0,.string s_),(3,.slice A12 b_11.length c13),(4,.int .i64 ((i17:Nat):Int))]∧CC F Γ3 [row14] w∧Own byteT Γ3 5 row14 A12 c13 b_11∧True) ?_ ?_
 ·
  intro w hw
  exact⟨A7,c8,row9,(sl_ (by kernel_rfl)),hw,hr10,trivial⟩
 rintro f16 i17 b_11 σ w hi18 hlt19 hge20 ⟨A12,c13,row14,hsl,hw,ho15,-⟩
 refine Wpt.slots hsl ?_
 refine aa (C:=CC F Γ3 [row14]) ?_ hw
 clear hw hsl
 refine a8 ?_
 refine a7 ?_
 refine mv (v:=.int .i64 ((i17:Nat):Int)) ?_
 refine mv (v:=.string s_) ?_
 refine vb (q_len_str rfl Tryz.underlying9 rfl) ?_
 refine vb (q_lss rfl rfl rfl) ?_
 refine a6 ?_
 refine WC.cond (b:=(decide (((i17:Nat):Int)<((s_.size:Nat):Int)))) (by kernel_rfl) (λhb21=>?_) (λhb21=>?_)
 ·
  have hl22:=ilt hb21
  have h:=hlt19 hl22
  refine ae ?_
  change WC _ _ _ _ _ _
  refine a8 ?_
  refine af ?_
  refine ah ?_
  refine mv (v:=.slice A12 b_11.length c13) ?_
  refine mv (v:=.string s_) ?_
  refine mv (v:=.int .i64 ((i17:Nat):Int)) ?_
  refine vb (q_sixn (i:=i17) Tryz.underlying9 rfl rfl rfl hl22) ?_
  refine e_buildSlice (cs:=#[.int .u8 (((gt s_.data.toList i17).toNat:Nat):Int)]) (e:=5) rfl rfl rfl rfl (λw=>by kernel_rfl) ?_
  intro g23
  obtain⟨hk24,h⟩:=chk_some h
  refine e_append (T:=byteT) (xs:=b_11) (ys:=[(gt s_.data.toList i17)]) elem_136 (i:=1) rfl rfl rfl rfl rfl rfl rfl ho15 (of_decide_eq_true hk24) (λw hw=>src_one (T:=byteT) (y:=(gt s_.data.toList i17)) (i:=0) rfl (by exact rfl) hw) ?_
  intro row25 A26 c27 ho28
  refine as_ (v:=.slice A26 (b_11++[(gt s_.data.toList i17)]).length c27) ?_
  refine ab ?_
  change WC _ _ _ _ _ _
  refine ah ?_
  refine mv (v:=.int .i64 ((i17:Nat):Int)) ?_
  refine vb (q_add_r (r:=((i17+1:Nat):Int)) rfl rfl rfl (ctr_len hl22 hs_)) ?_
  refine as_ (v:=.int .i64 ((i17+1:Nat):Int)) ?_
  exact ab λw hw=>⟨hl22,(b_11++[(gt s_.data.toList i17)]),h,A26,c27,row25,(sl_ (by kernel_rfl)),(hw.only (is:=[1]) rfl),ho28,trivial⟩
 ·
  have h:=hge20 (ige hb21)
  refine am ?_
  change WC _ _ _ _ _ _
  refine a7 ?_
  refine mv (v:=.slice A12 b_11.length c13) ?_
  refine as_ (v:=.slice A12 b_11.length c13) ?_
  refine a6 ?_
  refine ac ?_
  intro w hw
  cases h
  subst hF
  exact end_e (is:=[0]) (by kernel_rfl) hw rfl ⟨A12,c13,row14,rfl,rfl,ho15,trivial⟩
theorem t_firthref05_Mark{Γ:Gh}{w0:World}(key:ByteArray)(hkey:key.size≤lim){Al:Option Addr}{cl:Nat}{l:List Ver}(hl:Sl verT Γ Al l)(hlc:l.length≤cl)(hs:Sat Γ w0){r:Int}(h:m_firthref05_Mark key l=some r):Calls Tryz.prog 98 #[.string key,.slice Al l.length cl] w0 (λe w'=>e = .returned (.int .u64 r)∧Fr no w0 w'):=by
 refine calls_of (N:=35) (rs:=[4]) (args:=[.string key,.slice Al l.length cl]) Tryz.func98 rfl Tryz.ntmps98 Tryz.results98 rfl ?_
 obtain⟨F,hF⟩:∃F:Fm,F=⟨no,w0,Γ⟩:=⟨_,rfl⟩
 refine aa (C:=CC F Γ []) ?_ (hF▸Cur.start0 hs)
 refine a7 ?_
 refine as_ (v:=.int .u64 0) ?_
 refine a6 ?_
 refine a7 ?_
 refine mv (v:=.string key) ?_
 obtain⟨z1,hz2,h⟩:=bnd h
 refine e_call (is:=[]) rfl rfl (call_run Tryz.call112 rfl rfl (by kernel_rfl)) rfl (λw hp=>t_firthref01_PutText key hkey hp hz2) ?_
 rintro Γ3 U5 v6 hl4 ⟨A7,c8,row9,rfl,rfl,hr10,_⟩
 change WR _ _ _ (CC F Γ3 [row9]) _ _ (upd _ 8 (.slice A7 z1.length c8))
 refine as_ (v:=.slice A7 z1.length c8) ?_
 refine a6 ?_
 refine a8 ?_
 refine a7 ?_
 refine as_ (v:=.int .i64 0) ?_
 refine a6 ?_
 refine af ?_
 refine ap h (λ(i19:Nat) (b_13:List UInt8) σ w => ∃(Γ11:Gh), ∃(A14:Option Addr), ∃(c15:Nat), ∃(row16:Rowb),slots σ [(1,.slice Al l.length cl),(5,.slice A14 b_13.length c15),(6,.int .i64 ((i19:Nat):Int))]∧CC F Γ11 [row16] w∧Gh.le Γ3 Γ11∧Own byteT Γ11 5 row16 A14 c15 b_13∧True) ?_ ?_
 ·
  intro w hw
  exact⟨Γ3,A7,c8,row9,(sl_ (by kernel_rfl)),hw,(Gh.refl _),hr10,trivial⟩
 rintro f18 i19 b_13 σ w hi20 hlt21 hge22 ⟨Γ11,A14,c15,row16,hsl,hw,hl12,ho17,-⟩
 refine Wpt.slots hsl ?_
 refine aa (C:=CC F Γ11 [row16]) ?_ hw
 clear hw hsl
 refine a8 ?_
 refine a7 ?_
 refine mv (v:=.int .i64 ((i19:Nat):Int)) ?_
 refine mv (v:=.slice Al l.length cl) ?_
 refine vb (q_len_slice rfl Tryz.underlying67 rfl) ?_
 refine vb (q_lss rfl rfl rfl) ?_
 refine a6 ?_
 refine WC.cond (b:=(decide (((i19:Nat):Int)<((l.length:Nat):Int)))) (by kernel_rfl) (λhb23=>?_) (λhb23=>?_)
 ·
  have hl24:=ilt hb23
  have h:=hlt21 hl24
  refine ae ?_
  change WC _ _ _ _ _ _
  refine a8 ?_
  refine af ?_
  refine a7 ?_
  refine mv (v:=.slice A14 b_13.length c15) ?_
  refine mv (v:=.slice Al l.length cl) ?_
  refine mv (v:=.int .i64 ((i19:Nat):Int)) ?_
  refine vb (q_ixn (i:=i19) Tryz.underlying67 Tryz.sizeOf115 rfl rfl rfl hl24 ((hl.mono (hl4.trans hl12)).some_ hl24)) ?_
  refine vb (q_field_addr (i19*5) fld_115_0 rfl rfl ((hl.mono (hl4.trans hl12)).some_ hl24) rfl) ?_
  refine vb (q_field_addr (i19*5) fld_112_0 rfl rfl ((hl.mono (hl4.trans hl12)).some_ hl24) rfl) ?_
  obtain⟨A25,c26,hx27⟩:=(hl.mono (hl4.trans hl12)).verT_at i19
  refine vb (q_ld (c:=0) (v:=.int .i64 (gt l i19).dot.s) (hx27 hl24).2 rfl Tryz.isAgg3 rfl rfl) ?_
  obtain⟨z28,hz29,h⟩:=bnd h
  refine e_call (is:=[]) rfl rfl (call_run Tryz.call111 rfl rfl (by kernel_rfl)) rfl (λw hp=>t_firthref01_PutNum ((gt l i19).dot.s) (hx27 hl24).1.1 hp hz29) ?_
  rintro Γ30 U32 v33 hl31 ⟨A34,c35,row36,rfl,rfl,hr37,_⟩
  change WR _ _ _ (CC F Γ30 [row36,row16]) _ _ (upd _ 22 (.slice A34 z28.length c35))
  obtain⟨hk38,h⟩:=chk_some h
  refine e_append (T:=byteT) (xs:=b_13) (ys:=z28) elem_136 (i:=1) rfl rfl rfl rfl rfl rfl rfl (ho17.mono hl31) (of_decide_eq_true hk38) (λw hw=>src_own (i:=0) rfl hr37 hw) ?_
  intro row39 A40 c41 ho42
  refine as_ (v:=.slice A40 (b_13++z28).length c41) ?_
  refine a6 ?_
  refine ah ?_
  refine mv (v:=.slice A40 (b_13++z28).length c41) ?_
  refine mv (v:=.slice Al l.length cl) ?_
  refine mv (v:=.int .i64 ((i19:Nat):Int)) ?_
  refine vb (q_ixn (i:=i19) Tryz.underlying67 Tryz.sizeOf115 rfl rfl rfl hl24 ((hl.mono ((hl4.trans hl12).trans hl31)).some_ hl24)) ?_
  refine vb (q_field_addr (i19*5) fld_115_0 rfl rfl ((hl.mono ((hl4.trans hl12).trans hl31)).some_ hl24) rfl) ?_
  refine vb (q_field_addr (i19*5+1) fld_112_1 rfl rfl ((hl.mono ((hl4.trans hl12).trans hl31)).some_ hl24) rfl) ?_
  refine vb (q_ld (c:=1) (v:=.int .i64 (gt l i19).dot.n) ((hx27 hl24).2.mono hl31) rfl Tryz.isAgg2 rfl rfl) ?_
  obtain⟨z43,hz44,h⟩:=bnd h
  refine e_call (is:=[]) rfl rfl (call_run Tryz.call111 rfl rfl (by kernel_rfl)) rfl (λw hp=>t_firthref01_PutNum ((gt l i19).dot.n) (hx27 hl24).1.2.1 hp hz44) ?_
  rintro Γ45 U47 v48 hl46 ⟨A49,c50,row51,rfl,rfl,hr52,_⟩
  change WR _ _ _ (CC F Γ45 [row51,row36,row39]) _ _ (upd _ 31 (.slice A49 z43.length c50))
  obtain⟨hk53,h⟩:=chk_some h
  refine e_append (T:=byteT) (xs:=(b_13++z28)) (ys:=z43) elem_136 (i:=2) rfl rfl rfl rfl rfl rfl rfl (ho42.mono hl46) (of_decide_eq_true hk53) (λw hw=>src_own (i:=0) rfl hr52 hw) ?_
  intro row54 A55 c56 ho57
  refine as_ (v:=.slice A55 ((b_13++z28)++z43).length c56) ?_
  refine ab ?_
  change WC _ _ _ _ _ _
  refine ah ?_
  refine mv (v:=.int .i64 ((i19:Nat):Int)) ?_
  refine vb (q_add_r (r:=((i19+1:Nat):Int)) rfl rfl rfl (ctr_len hl24 (hl.mono (hl4.trans hl12)).le)) ?_
  refine as_ (v:=.int .i64 ((i19+1:Nat):Int)) ?_
  exact ab λw hw=>⟨hl24,((b_13++z28)++z43),h,Γ45,A55,c56,row54,(sl_ (by kernel_rfl)),(hw.only (is:=[2]) rfl),((hl12.trans hl31).trans hl46),ho57,trivial⟩
 ·
  have h:=hge22 (ige hb23)
  refine am ?_
  change WC _ _ _ _ _ _
  refine a7 ?_
  refine mv (v:=.slice A14 b_13.length c15) ?_
  obtain⟨z58,hz59,h⟩:=bnd h
  refine vc rfl rfl rfl (q_call (call_run Tryz.call80 rfl rfl (by kernel_rfl)) (λw hw=>t_firthref01_Hash (Γ:=Gh.all w) (ho17.sl hw.sat.le_all (hw.ra 0 rfl)) ho17.capz (Sat.all w) hz59)) ?_
  refine as_ (v:=.int .u64 z58) ?_
  refine a6 ?_
  refine ac ?_
  intro w hw
  cases h
  subst hF
  exact⟨by kernel_rfl,hw.fr⟩
abbrev r_firthref11_halves(r:List UInt8)(U:List Rowb)(Γ:Gh)(v:Value):Prop := ∃(A0:Option Addr), ∃(c0:Nat), ∃(row0:Rowb),v = .slice A0 r.length c0∧U = [row0]∧Own byteT Γ 5 row0 A0 c0 r∧True
theorem t_firthref11_halves{Γ:Gh}{w0:World}{Ab:Option Addr}{cb:Nat}{rowb:Rowb}{b:List UInt8}(hb:Own byteT Γ 5 rowb Ab cb b)(h_:Int)(hh_:U64 h_)(hp:Pre [rowb] Γ w0){r:List UInt8}(h:m_firthref11_halves b h_=some r):Calls Tryz.prog 97 #[.slice Ab b.length cb,.int .u64 h_] w0 (Outc Γ [rowb] w0 (r_firthref11_halves r)):=by
 refine calls_of (N:=17) (rs:=[4]) (args:=[.slice Ab b.length cb,.int .u64 h_]) Tryz.func97 rfl Tryz.ntmps97 Tryz.results97 rfl ?_
 obtain⟨F,hF⟩:∃F:Fm,F=⟨ids [rowb],w0,Γ⟩:=⟨_,rfl⟩
 refine aa (C:=CC F Γ [rowb]) ?_ (hF▸hp.start)
 refine a7 ?_
 refine as_ (v:=.slice none 0 0) ?_
 refine a6 ?_
 refine a7 ?_
 refine mv (v:=.slice Ab b.length cb) ?_
 refine mv (v:=.int .u64 h_) ?_
 refine vb (q_quo rfl rfl rfl (by decide)) ?_
 refine vb (q_conv Tryz.underlying2 Tryz.underlying78 rfl rfl) ?_
 obtain⟨z1,hz2,h⟩:=bnd h
 refine e_call (is:=[]) rfl rfl (call_run Tryz.call111 rfl rfl (by kernel_rfl)) rfl (λw hp=>t_firthref01_PutNum (w64 (wu64 (h_.tdiv 4294967296))) (w64_r _) hp hz2) ?_
 rintro Γ3 U5 v6 hl4 ⟨A7,c8,row9,rfl,rfl,hr10,_⟩
 change WR _ _ _ (CC F Γ3 [row9,rowb]) _ _ (upd _ 9 (.slice A7 z1.length c8))
 obtain⟨hk11,h⟩:=chk_some h
 refine e_append (T:=byteT) (xs:=b) (ys:=z1) elem_136 (i:=1) rfl rfl rfl rfl rfl rfl rfl (hb.mono hl4) (of_decide_eq_true hk11) (λw hw=>src_own (i:=0) rfl hr10 hw) ?_
 intro row12 A13 c14 ho15
 refine as_ (v:=.slice A13 (b++z1).length c14) ?_
 refine a6 ?_
 refine a7 ?_
 refine mv (v:=.slice A13 (b++z1).length c14) ?_
 refine mv (v:=.int .u64 h_) ?_
 refine vb (q_rem rfl rfl rfl (by decide)) ?_
 refine vb (q_conv Tryz.underlying2 Tryz.underlying78 rfl rfl) ?_
 obtain⟨z16,hz17,h⟩:=bnd h
 refine e_call (is:=[]) rfl rfl (call_run Tryz.call111 rfl rfl (by kernel_rfl)) rfl (λw hp=>t_firthref01_PutNum (w64 (h_.tmod 4294967296)) (w64_r _) hp hz17) ?_
 rintro Γ18 U20 v21 hl19 ⟨A22,c23,row24,rfl,rfl,hr25,_⟩
 change WR _ _ _ (CC F Γ18 [row24,row9,row12]) _ _ (upd _ 15 (.slice A22 z16.length c23))
 obtain⟨hk26,h⟩:=chk_some h
 refine e_append (T:=byteT) (xs:=(b++z1)) (ys:=z16) elem_136 (i:=2) rfl rfl rfl rfl rfl rfl rfl (ho15.mono hl19) (of_decide_eq_true hk26) (λw hw=>src_own (i:=0) rfl hr25 hw) ?_
 intro row27 A28 c29 ho30
 refine as_ (v:=.slice A28 ((b++z1)++z16).length c29) ?_
 refine a6 ?_
 refine ac ?_
 intro w hw
 cases h
 subst hF
 exact end_e (is:=[2]) (by kernel_rfl) hw rfl ⟨A28,c29,row27,rfl,rfl,ho30,trivial⟩
abbrev r_firthref11_Text(r:List UInt8)(U:List Rowb)(Γ:Gh)(v:Value):Prop := ∃(A0:Option Addr), ∃(c0:Nat), ∃(row0:Rowb),v = .slice A0 r.length c0∧U = [row0]∧Own byteT Γ 5 row0 A0 c0 r∧True
theorem t_firthref11_Text{Γ:Gh}{w0:World}{H:List Rec→List Int→Option Int}(hH:C_firthref11_Hash H){Aall:Option Addr}{call:Nat}{all:List Rec}(hall:Sl recT Γ Aall all)(hallc:all.length≤call){Apath:Option Addr}{cpath:Nat}{path:List Int}(hpath:Sl intT Γ Apath path)(hpathc:path.length≤cpath)(hp:Pre [] Γ w0){r:List UInt8}(h:m_firthref11_Text H all path=some r):Calls Tryz.prog 81 #[.slice Aall all.length call,.slice Apath path.length cpath] w0 (Outc Γ [] w0 (r_firthref11_Text r)):=by
 refine calls_of (N:=47) (rs:=[4]) (args:=[.slice Aall all.length call,.slice Apath path.length cpath]) Tryz.func81 rfl Tryz.ntmps81 Tryz.results81 rfl ?_
 obtain⟨F,hF⟩:∃F:Fm,F=⟨ids [],w0,Γ⟩:=⟨_,rfl⟩
 refine aa (C:=CC F Γ []) ?_ (hF▸hp.start)
 refine a7 ?_
 refine as_ (v:=.slice none 0 0) ?_
 refine a6 ?_
 refine a7 ?_
 refine as_ (v:=.slice none 0 0) ?_
 refine a6 ?_
 refine a7 ?_
 refine mv (v:=.slice Aall all.length call) ?_
 refine mv (v:=.slice Apath path.length cpath) ?_
 obtain⟨z1,hz2,h⟩:=bnd h
 refine e_call (is:=[]) rfl rfl (call_run Tryz.call55 rfl rfl (by kernel_rfl)) rfl (λw hp=>t_firthref11_Recs hall hallc hpath hpathc hp hz2) ?_
 rintro Γ3 U5 v6 hl4 ⟨A7,c8,row9,rfl,rfl,hr10,_⟩
 change WR _ _ _ (CC F Γ3 [row9]) _ _ (upd _ 11 (.slice A7 z1.length c8))
 refine as_ (v:=.slice A7 z1.length c8) ?_
 refine a6 ?_
 refine a8 ?_
 refine a7 ?_
 refine mv (v:=.slice Apath path.length cpath) ?_
 refine vb (q_len_slice rfl Tryz.underlying24 rfl) ?_
 refine vb (q_eql rfl rfl rfl) ?_
 refine a6 ?_
 refine aj h (by kernel_rfl) (λhb11 h=>?_) (λhb11 h=>?_)
 ·
  refine a8 ?_
  refine a7 ?_
  refine as_ (v:=.int .i64 0) ?_
  refine a6 ?_
  refine af ?_
  refine ap h (λ(i20:Nat) (b_14:List UInt8) σ w => ∃(Γ12:Gh), ∃(A15:Option Addr), ∃(c16:Nat), ∃(row17:Rowb),slots σ [(5,.slice A15 b_14.length c16),(6,.slice A7 z1.length c8),(7,.int .i64 ((i20:Nat):Int))]∧CC F Γ12 [row17,row9] w∧Gh.le Γ3 Γ12∧Own byteT Γ12 5 row17 A15 c16 b_14∧True) ?_ ?_
  ·
   intro w hw
   have hw:=hw.pad
   exact⟨Γ3,none,0,[],(sl_ (by kernel_rfl)),hw,(Gh.refl _),(Own.nil byteT _ 5),trivial⟩
  rintro f19 i20 b_14 σ w hi21 hlt22 hge23 ⟨Γ12,A15,c16,row17,hsl,hw,hl13,ho18,-⟩
  refine Wpt.slots hsl ?_
  refine aa (C:=CC F Γ12 [row17,row9]) ?_ hw
  clear hw hsl
  refine a8 ?_
  refine a7 ?_
  refine mv (v:=.int .i64 ((i20:Nat):Int)) ?_
  refine mv (v:=.slice A7 z1.length c8) ?_
  refine vb (q_len_slice rfl Tryz.underlying23 rfl) ?_
  refine vb (q_lss rfl rfl rfl) ?_
  refine a6 ?_
  refine WC.cond (b:=(decide (((i20:Nat):Int)<((z1.length:Nat):Int)))) (by kernel_rfl) (λhb24=>?_) (λhb24=>?_)
  ·
   have hl25:=ilt hb24
   have h:=hlt22 hl25
   refine ae ?_
   change WC _ _ _ _ _ _
   refine a8 ?_
   refine af ?_
   intro w hw; have h026:=hw.le
   refine aa (C:=CC F Γ12 [row17,row9]) ?_ hw; clear hw
   refine av (CC F Γ12 [row9]) (by kernel_rfl) (λw hw=>hw.drawn _) ?_
   change WH _ _ _ _ (CC F Γ12 [row17,row9]) _ 14 #[false,false,false,false,false,false,false,false,false,false,false,false,false,false] _
   refine hu 0 rfl (bk_ (Gh.refl _) h026 (.cons _ (.cons_cons _ .slnil))) (q_move (v:=.slice A15 b_14.length c16) rfl (by kernel_rfl)) ?_
   refine hu 1 rfl (bk_ (Gh.refl _) h026 (.cons _ (.cons_cons _ .slnil))) (q_move (v:=.slice A7 z1.length c8) rfl (by kernel_rfl)) ?_
   refine hu 2 rfl (bk_ (Gh.refl _) h026 (.cons _ (.cons_cons _ .slnil))) (q_move (v:=.int .i64 ((i20:Nat):Int)) rfl (by kernel_rfl)) ?_
   refine hu 3 rfl (bk_ (Gh.refl _) h026 (.cons _ (.cons_cons _ .slnil))) (q_ixn (i:=i20) Tryz.underlying23 Tryz.sizeOf70 rfl rfl rfl hl25 ((hr10.mono hl13).some_ hl25)) ?_
   refine hu 4 rfl (bk_ (Gh.refl _) h026 (.cons _ (.cons_cons _ .slnil))) (q_field_addr (i20*2) fld_70_0 rfl rfl ((hr10.mono hl13).some_ hl25) rfl) ?_
   obtain⟨A27,c28,hx29⟩:=(hr10.mono hl13).recT_at i20
   refine hu 5 rfl (bk_ (Gh.refl _) h026 (.cons _ (.cons_cons _ .slnil))) (q_ldo (c:=0) (v:=.string (gt z1 i20).key) (i:=0) rfl (hx29 hl25).2 rfl Tryz.isAgg9 rfl rfl) ?_
   refine hu 6 rfl (bk_ (Gh.refl _) h026 (.cons _ (.cons_cons _ .slnil))) (q_move (v:=.slice A7 z1.length c8) rfl (by kernel_rfl)) ?_
   refine hu 7 rfl (bk_ (Gh.refl _) h026 (.cons _ (.cons_cons _ .slnil))) (q_move (v:=.int .i64 ((i20:Nat):Int)) rfl (by kernel_rfl)) ?_
   refine hu 8 rfl (bk_ (Gh.refl _) h026 (.cons _ (.cons_cons _ .slnil))) (q_ixn (i:=i20) Tryz.underlying23 Tryz.sizeOf70 rfl rfl rfl hl25 ((hr10.mono hl13).some_ hl25)) ?_
   refine hu 9 rfl (bk_ (Gh.refl _) h026 (.cons _ (.cons_cons _ .slnil))) (q_field_addr (i20*2+1) fld_70_1 rfl rfl ((hr10.mono hl13).some_ hl25) rfl) ?_
   refine hu 10 rfl (bk_ (Gh.refl _) h026 (.cons _ (.cons_cons _ .slnil))) (q_ldo (c:=1) (v:=.slice A27 ((gt z1 i20).vers).length c28) (i:=0) rfl (hx29 hl25).2 rfl Tryz.isAgg67 rfl rfl) ?_
   refine ai (i:=11) (by kernel_rfl) rfl ?_
   obtain⟨z30,hz31,h⟩:=bnd h
   refine vc rfl rfl rfl (q_call (call_run Tryz.call98 rfl rfl (by kernel_rfl)) (λw hw=>t_firthref05_Mark (Γ:=Gh.all w) ((gt z1 i20).key) (hx29 hl25).1.1 ((hx29 hl25).1.2.2.mono hw.sat.le_all) (hx29 hl25).1.2.1 (Sat.all w) hz31)) ?_
   refine ab ?_
   refine WH.next (bk_ (Gh.refl _) h026 (.cons _ (.cons_cons _ .slnil))) ?_
   refine ai (i:=12) (by kernel_rfl) rfl ?_
   obtain⟨hk32,h⟩:=chk_some h
   obtain⟨z33,hz34,h⟩:=bnd h
   refine e_call (is:=[0]) rfl rfl (call_run Tryz.call97 rfl rfl (by kernel_rfl)) rfl (λw hp=>t_firthref11_halves ho18 z30 (u64b_of hk32) hp hz34) ?_
   rintro Γ35 U37 v38 hl36 ⟨A39,c40,row41,rfl,rfl,hr42,_⟩
   change WR _ _ _ (CC F Γ35 [row41,row9]) _ _ (upd _ 33 (.slice A39 z33.length c40))
   refine ab ?_
   refine WH.next (bk_ hl36 h026 (.cons _ (.cons_cons _ .slnil))) ?_
   refine hu 13 rfl (bk_ hl36 h026 (.cons _ (.cons_cons _ .slnil))) (q_assign (v:=.slice A39 z33.length c40) rfl (by kernel_rfl)) ?_
   refine au (by kernel_rfl) ?_
   change WC _ _ _ _ _ _
   refine ah ?_
   refine mv (v:=.int .i64 ((i20:Nat):Int)) ?_
   refine vb (q_add_r (r:=((i20+1:Nat):Int)) rfl rfl rfl (ctr_len hl25 (hr10.mono hl13).le)) ?_
   refine as_ (v:=.int .i64 ((i20+1:Nat):Int)) ?_
   exact ab λw hw=>⟨hl25,z33,h,Γ35,A39,c40,row41,(sl_ (by kernel_rfl)),hw,(hl13.trans hl36),hr42,trivial⟩
  ·
   have h:=hge23 (ige hb24)
   refine am ?_
   change WC _ _ _ _ _ _
   refine a7 ?_
   refine mv (v:=.slice A15 b_14.length c16) ?_
   refine as_ (v:=.slice A15 b_14.length c16) ?_
   refine a6 ?_
   refine ac ?_
   intro w hw
   cases h
   subst hF
   exact end_e (is:=[0]) (by kernel_rfl) hw rfl ⟨A15,c16,row17,rfl,rfl,ho18,trivial⟩
 ·
  refine ae ?_
  change WC _ _ _ _ _ _
  refine a8 ?_
  refine a7 ?_
  refine as_ (v:=.int .i64 0) ?_
  refine a6 ?_
  refine af ?_
  refine az h (λ(i51:Nat) (b_45:List UInt8) σ w => ∃(Γ43:Gh), ∃(A46:Option Addr), ∃(c47:Nat), ∃(row48:Rowb),slots σ [(1,.slice Apath path.length cpath),(5,.slice A46 b_45.length c47),(6,.slice A7 z1.length c8),(8,.int .i64 ((i51:Nat):Int))]∧CC F Γ43 [row48,row9] w∧Gh.le Γ3 Γ43∧Own byteT Γ43 5 row48 A46 c47 b_45∧True) ?_ ?_
  ·
   intro w hw
   have hw:=hw.pad
   exact⟨Γ3,none,0,[],(sl_ (by kernel_rfl)),hw,(Gh.refl _),(Own.nil byteT _ 5),trivial⟩
  rintro f50 i51 b_45 σ w hi52 hlt53 hge54 ⟨Γ43,A46,c47,row48,hsl,hw,hl44,ho49,-⟩
  refine Wpt.slots hsl ?_
  refine aa (C:=CC F Γ43 [row48,row9]) ?_ hw
  clear hw hsl
  refine a8 ?_
  refine a7 ?_
  refine mv (v:=.int .i64 ((i51:Nat):Int)) ?_
  refine vb (q_lss rfl rfl rfl) ?_
  refine a6 ?_
  refine WC.cond (b:=(decide (((i51:Nat):Int)<16))) (by kernel_rfl) (λhb55=>?_) (λhb55=>?_)
  ·
   have hl56:=ilt hb55
   have h:=hlt53 hl56
   refine ae ?_
   change WC _ _ _ _ _ _
   refine a8 ?_
   refine af ?_
   refine ah ?_
   refine mv (v:=.slice A46 b_45.length c47) ?_
   refine mv (v:=.slice A7 z1.length c8) ?_
   refine mv (v:=.slice Apath path.length cpath) ?_
   refine mv (v:=.int .i64 ((i51:Nat):Int)) ?_
   obtain⟨z57,hz58,h⟩:=bnd h
   refine e_call (is:=[]) rfl rfl (call_run Tryz.call57 rfl rfl (by kernel_rfl)) rfl (λw hp=>t_firthref11_longer (hpath.mono (hl4.trans hl44)) hpathc ((i51:Nat):Int) (ctr_lit0 hl56 (by decide)) hp hz58) ?_
   rintro Γ59 U61 v62 hl60 ⟨A63,c64,row65,rfl,rfl,hr66,_⟩
   change WR _ _ _ (CC F Γ59 [row65,row48,row9]) _ _ (upd _ 43 (.slice A63 z57.length c64))
   obtain⟨z67,hz68,h⟩:=bnd h
   refine vc rfl rfl rfl (q_call (call_run Tryz.call56 rfl rfl (by kernel_rfl)) (λw hw=>hH (Γ:=Gh.all w) ((hr10.mono (hl44.trans hl60)).sl hw.sat.le_all (hw.ra 2 rfl)) (hr10.mono (hl44.trans hl60)).capz (hr66.sl hw.sat.le_all (hw.ra 0 rfl)) hr66.capz (Sat.all w) hz68)) ?_
   obtain⟨hk69,h⟩:=chk_some h
   obtain⟨z70,hz71,h⟩:=bnd h
   refine e_call (is:=[1]) rfl rfl (call_run Tryz.call97 rfl rfl (by kernel_rfl)) rfl (λw hp=>t_firthref11_halves (ho49.mono hl60) z67 (u64b_of hk69) hp hz71) ?_
   rintro Γ72 U74 v75 hl73 ⟨A76,c77,row78,rfl,rfl,hr79,_⟩
   change WR _ _ _ (CC F Γ72 [row78,row65,row9]) _ _ (upd _ 45 (.slice A76 z70.length c77))
   refine as_ (v:=.slice A76 z70.length c77) ?_
   refine ab ?_
   change WC _ _ _ _ _ _
   refine ah ?_
   refine mv (v:=.int .i64 ((i51:Nat):Int)) ?_
   refine vb (q_add_r (r:=((i51+1:Nat):Int)) rfl rfl rfl (ctr_lit hl56 (by decide))) ?_
   refine as_ (v:=.int .i64 ((i51+1:Nat):Int)) ?_
   exact ab λw hw=>⟨hl56,z70,h,Γ72,A76,c77,row78,(sl_ (by kernel_rfl)),(hw.only (is:=[0,1]) rfl),((hl44.trans hl60).trans hl73),hr79,trivial⟩
  ·
   have h:=hge54 (ige hb55)
   refine am ?_
   change WC _ _ _ _ _ _
   refine a7 ?_
   refine mv (v:=.slice A46 b_45.length c47) ?_
   refine as_ (v:=.slice A46 b_45.length c47) ?_
   refine a6 ?_
   refine ac ?_
   intro w hw
   cases h
   subst hF
   exact end_e (is:=[0]) (by kernel_rfl) hw rfl ⟨A46,c47,row48,rfl,rfl,ho49,trivial⟩
theorem t_firthref11_Hash_o{Γ:Gh}{w0:World}{H:List Rec→List Int→Option Int}(hH:C_firthref11_Hash H){Aall:Option Addr}{call:Nat}{all:List Rec}(hall:Sl recT Γ Aall all)(hallc:all.length≤call){Apath:Option Addr}{cpath:Nat}{path:List Int}(hpath:Sl intT Γ Apath path)(hpathc:path.length≤cpath)(hs:Sat Γ w0){r:Int}(h:m_firthref11_Hash_o H all path=some r):Calls Tryz.prog 56 #[.slice Aall all.length call,.slice Apath path.length cpath] w0 (λe w'=>e = .returned (.int .u64 r)∧Fr no w0 w'):=by
 refine calls_of (N:=19) (rs:=[4]) (args:=[.slice Aall all.length call,.slice Apath path.length cpath]) Tryz.func56 rfl Tryz.ntmps56 Tryz.results56 rfl ?_
 obtain⟨F,hF⟩:∃F:Fm,F=⟨no,w0,Γ⟩:=⟨_,rfl⟩
 refine aa (C:=CC F Γ []) ?_ (hF▸Cur.start0 hs)
 refine a7 ?_
 refine as_ (v:=.int .u64 0) ?_
 refine a6 ?_
 refine a8 ?_
 refine a7 ?_
 refine mv (v:=.slice Apath path.length cpath) ?_
 obtain⟨z1,hz2,h⟩:=bnd h
 refine vc rfl rfl rfl (q_call (call_run Tryz.call54 rfl rfl (by kernel_rfl)) (λw hw=>t_firthref11_Path (Γ:=Gh.all w) (hpath.mono hw.sat.le_all) hpathc (Sat.all w) hz2)) ?_
 refine vb (q_not rfl rfl) ?_
 refine mv (v:=.bool (!z1)) ?_
 refine vg0 rfl rfl rfl rfl rfl (λhg3=>QV.qo (q_move (v:=.slice Aall all.length call) rfl (by kernel_rfl))) ?_
 refine vg0 rfl rfl rfl rfl rfl (λhg4=>QV.qo (q_move (v:=.slice Apath path.length cpath) rfl (by kernel_rfl))) ?_
 refine(Bool.eq_false_or_eq_true (!(!z1))).elim (λhb5=>?_) (λhb5=>?_)
 ·
  have h:=bt hb5 h
  refine WR.sat (c0:=true) (g:=(!z1)) rfl rfl rfl hb5 ?_
  obtain⟨z6,hz7,h⟩:=bnd h
  refine e_call (is:=[]) rfl rfl (call_run Tryz.call55 rfl rfl (args2 (gu hb5 rfl) (gu hb5 rfl))) rfl (λw hp=>t_firthref11_Recs hall hallc hpath hpathc hp hz7) ?_
  rintro Γ8 U10 v11 hl9 ⟨A12,c13,row14,rfl,rfl,hr15,_⟩
  change WR _ _ _ (CC F Γ8 [row14]) _ _ (upd _ 11 (.slice A12 z6.length c13))
  refine WR.sat (c0:=true) (g:=(!z1)) rfl rfl rfl hb5 ?_
  refine vb (q_len_slice rfl Tryz.underlying23 rfl) ?_
  refine WR.sat (c0:=true) (g:=(!z1)) rfl rfl rfl hb5 ?_
  refine vb (q_eql rfl rfl rfl) ?_
  refine vb (q_pick_f (v:=.bool (((z6.length:Nat):Int)==0)) rfl rfl (not_t hb5) (by kernel_rfl)) ?_
  refine a6 ?_
  refine aj h (by kernel_rfl) (λhb16 h=>?_) (λhb16 h=>?_)
  ·
   refine a7 ?_
   refine as_ (v:=.int .u64 0) ?_
   refine a6 ?_
   refine ac ?_
   intro w hw
   cases h
   subst hF
   exact⟨by kernel_rfl,hw.fr⟩
  ·
   refine ae ?_
   change WC _ _ _ _ _ _
   refine a7 ?_
   refine mv (v:=.slice Aall all.length call) ?_
   refine mv (v:=.slice Apath path.length cpath) ?_
   obtain⟨z17,hz18,h⟩:=bnd h
   refine e_call (is:=[]) rfl rfl (call_run Tryz.call81 rfl rfl (by kernel_rfl)) rfl (λw hp=>t_firthref11_Text hH (hall.mono hl9) hallc (hpath.mono hl9) hpathc hp hz18) ?_
   rintro Γ19 U21 v22 hl20 ⟨A23,c24,row25,rfl,rfl,hr26,_⟩
   change WR _ _ _ (CC F Γ19 [row25,row14]) _ _ (upd _ 17 (.slice A23 z17.length c24))
   obtain⟨z27,hz28,h⟩:=bnd h
   refine vc rfl rfl rfl (q_call (call_run Tryz.call80 rfl rfl (by kernel_rfl)) (λw hw=>t_firthref01_Hash (Γ:=Gh.all w) (hr26.sl hw.sat.le_all (hw.ra 0 rfl)) hr26.capz (Sat.all w) hz28)) ?_
   refine as_ (v:=.int .u64 z27) ?_
   refine a6 ?_
   refine ac ?_
   intro w hw
   cases h
   subst hF
   exact⟨by kernel_rfl,hw.fr⟩
 ·
  have h:=bf hb5 h
  refine ak (c0:=true) (g:=(!z1)) rfl rfl rfl hb5 rfl ?_
  refine ak (c0:=true) (g:=(!z1)) rfl rfl rfl hb5 rfl ?_
  refine ak (c0:=true) (g:=(!z1)) rfl rfl rfl hb5 rfl ?_
  refine vb (q_pick_t (v:=.bool true) rfl rfl (not_f hb5) (by kernel_rfl)) ?_
  refine a6 ?_
  refine WC.ctk (b:=true) (by kernel_rfl) rfl ?_
  refine a7 ?_
  refine as_ (v:=.int .u64 0) ?_
  refine a6 ?_
  refine ac ?_
  intro w hw
  cases h
  subst hF
  exact⟨by kernel_rfl,hw.fr⟩
theorem t_firthref11_Hash_n(n:Nat):C_firthref11_Hash (m_firthref11_Hash_n n):=by
  induction n with
  | zero=>intro Γ w0 Aall call all hall hallc Apath cpath path hpath hpathc hs r h; exact absurd h (by simp [m_firthref11_Hash_n])
  | succ n ih=>intro Γ w0 Aall call all hall hallc Apath cpath path hpath hpathc hs r h; exact t_firthref11_Hash_o ih hall hallc hpath hpathc hs h
theorem t_firthref11_Hash{Γ:Gh}{w0:World}{Aall:Option Addr}{call:Nat}{all:List Rec}(hall:Sl recT Γ Aall all)(hallc:all.length≤call){Apath:Option Addr}{cpath:Nat}{path:List Int}(hpath:Sl intT Γ Apath path)(hpathc:path.length≤cpath)(hs:Sat Γ w0){r:Int}(h:m_firthref11_Hash all path=some r):Calls Tryz.prog 56 #[.slice Aall all.length call,.slice Apath path.length cpath] w0 (λe w'=>e = .returned (.int .u64 r)∧Fr no w0 w'):=by
  exact t_firthref11_Hash_n 3 hall hallc hpath hpathc hs h
abbrev r_firthref11_Kids(r:List Int)(U:List Rowb)(Γ:Gh)(v:Value):Prop := ∃(A0:Option Addr), ∃(c0:Nat), ∃(row0:Rowb),v = .slice A0 r.length c0∧U = [row0]∧Own u64T Γ 78 row0 A0 c0 r∧True
theorem t_firthref11_Kids{Γ:Gh}{w0:World}{Aall:Option Addr}{call:Nat}{all:List Rec}(hall:Sl recT Γ Aall all)(hallc:all.length≤call){Apath:Option Addr}{cpath:Nat}{path:List Int}(hpath:Sl intT Γ Apath path)(hpathc:path.length≤cpath)(hp:Pre [] Γ w0){r:List Int}(h:m_firthref11_Kids all path=some r):Calls Tryz.prog 20 #[.slice Aall all.length call,.slice Apath path.length cpath] w0 (Outc Γ [] w0 (r_firthref11_Kids r)):=by
 refine calls_of (N:=29) (rs:=[4]) (args:=[.slice Aall all.length call,.slice Apath path.length cpath]) Tryz.func20 rfl Tryz.ntmps20 Tryz.results20 rfl ?_
 obtain⟨F,hF⟩:∃F:Fm,F=⟨ids [],w0,Γ⟩:=⟨_,rfl⟩
 refine aa (C:=CC F Γ []) ?_ (hF▸hp.start)
 refine a7 ?_
 refine as_ (v:=.slice none 0 0) ?_
 refine a6 ?_
 refine a7 ?_
 refine as_ (v:=.slice none 0 0) ?_
 refine a6 ?_
 refine a8 ?_
 refine a7 ?_
 refine as_ (v:=.int .i64 0) ?_
 refine a6 ?_
 refine af ?_
 refine aA h (λ(s:(List Int)×Int) σ w=>match s with | (out_3,d_8) => ∃(Γ1:Gh), ∃(A4:Option Addr), ∃(c5:Nat), ∃(row6:Rowb),slots σ [(0,.slice Aall all.length call),(1,.slice Apath path.length cpath),(5,.slice A4 out_3.length c5),(6,.int .i64 d_8)]∧CC F Γ1 [row6] w∧Gh.le Γ Γ1∧Own u64T Γ1 78 row6 A4 c5 out_3∧I64 d_8∧True) ?_ ?_
 ·
  intro w hw
  have hw:=hw.pad
  exact⟨Γ,none,0,[],(sl_ (by kernel_rfl)),hw,(Gh.refl _),(Own.nil u64T _ 78),(show I64 0 by decide),trivial⟩
 rintro f10 ⟨out_3,d_8⟩ σ w h ⟨Γ1,A4,c5,row6,hsl,hw,hl2,ho7,hr9,-⟩
 refine Wpt.slots hsl ?_
 refine aa (C:=CC F Γ1 [row6]) ?_ hw
 clear hw hsl
 refine a8 ?_
 refine a7 ?_
 refine mv (v:=.int .i64 d_8) ?_
 refine vb (q_lss rfl rfl rfl) ?_
 refine mv (v:=.bool (decide (d_8<16))) ?_
 refine vg1 rfl rfl rfl rfl rfl (λhg14=>QV.qo (q_move (v:=.slice Apath path.length cpath) rfl (by kernel_rfl))) ?_
 obtain⟨z16,hz17,h⟩:=bnd h
 refine vg1 rfl rfl rfl rfl rfl (λhg15=>(q_call (call_run Tryz.call54 rfl rfl (args1 (gu hg15 rfl))) (λw hw=>t_firthref11_Path (Γ:=Gh.all w) ((hpath.mono hl2).mono hw.sat.le_all) hpathc (Sat.all w) (gc_of hz17 hg15)))) ?_
 refine vb (q_pick rfl rfl (pk_and' (g:=(decide (d_8<16))) (y:=z16))) ?_
 refine mv (v:=.bool ((decide (d_8<16))&&z16)) ?_
 refine vg1 rfl rfl rfl rfl rfl (λhg18=>QV.qo (q_move (v:=.slice Apath path.length cpath) rfl (by kernel_rfl))) ?_
 refine vg1 rfl rfl rfl rfl rfl (λhg19=>QV.qo (q_len_slice rfl Tryz.underlying24 (gu hg19 rfl))) ?_
 refine vg1 rfl rfl rfl rfl rfl (λhg20=>QV.qo (q_lss rfl (gu hg20 rfl) rfl)) ?_
 refine vb (q_pick rfl rfl (pk_and' (g:=((decide (d_8<16))&&z16)) (y:=(decide (((path.length:Nat):Int)<2))))) ?_
 refine a6 ?_
 refine aj h (by kernel_rfl) (λhb21 h=>?_) (λhb21 h=>?_)
 ·
  refine ae ?_
  change WC _ _ _ _ _ _
  refine a8 ?_
  refine af ?_
  refine ah ?_
  refine mv (v:=.slice A4 out_3.length c5) ?_
  refine mv (v:=.slice Aall all.length call) ?_
  refine mv (v:=.slice Apath path.length cpath) ?_
  refine mv (v:=.int .i64 d_8) ?_
  obtain⟨z22,hz23,h⟩:=bnd h
  refine e_call (is:=[]) rfl rfl (call_run Tryz.call57 rfl rfl (by kernel_rfl)) rfl (λw hp=>t_firthref11_longer (hpath.mono hl2) hpathc d_8 hr9 hp hz23) ?_
  rintro Γ24 U26 v27 hl25 ⟨A28,c29,row30,rfl,rfl,hr31,_⟩
  change WR _ _ _ (CC F Γ24 [row30,row6]) _ _ (upd _ 24 (.slice A28 z22.length c29))
  obtain⟨z32,hz33,h⟩:=bnd h
  refine vc rfl rfl rfl (q_call (call_run Tryz.call56 rfl rfl (by kernel_rfl)) (λw hw=>t_firthref11_Hash (Γ:=Gh.all w) ((hall.mono (hl2.trans hl25)).mono hw.sat.le_all) hallc (hr31.sl hw.sat.le_all (hw.ra 0 rfl)) hr31.capz (Sat.all w) hz33)) ?_
  refine e_buildSlice (cs:=#[.int .u64 z32]) (e:=78) rfl rfl rfl rfl (λw=>by kernel_rfl) ?_
  intro g34
  obtain⟨hk35,h⟩:=chk_some h
  obtain⟨hk36,h⟩:=chk_some h
  refine e_append (T:=u64T) (xs:=out_3) (ys:=[z32]) elem_33 (i:=2) rfl rfl rfl rfl rfl rfl rfl (ho7.mono hl25) (of_decide_eq_true hk36) (λw hw=>src_one (T:=u64T) (y:=z32) (i:=0) rfl (by exact⟨rfl,(u64b_of hk35)⟩) hw) ?_
  intro row37 A38 c39 ho40
  refine as_ (v:=.slice A38 (out_3++[z32]).length c39) ?_
  refine ab ?_
  change WC _ _ _ _ _ _
  refine ah ?_
  refine mv (v:=.int .i64 d_8) ?_
  refine vb (q_add rfl rfl rfl) ?_
  refine as_ (v:=.int .i64 (w64 (d_8+1))) ?_
  exact ab λw hw=>⟨((out_3++[z32]),(w64 (d_8+1))),h,Γ24,A38,c39,row37,(sl_ (by kernel_rfl)),(hw.only (is:=[2]) rfl),(hl2.trans hl25),ho40,(w64_r _),trivial⟩
 ·
  refine am ?_
  change WC _ _ _ _ _ _
  refine a7 ?_
  refine mv (v:=.slice A4 out_3.length c5) ?_
  refine as_ (v:=.slice A4 out_3.length c5) ?_
  refine a6 ?_
  refine ac ?_
  intro w hw
  cases h
  subst hF
  exact end_e (is:=[0]) (by kernel_rfl) hw rfl ⟨A4,c5,row6,rfl,rfl,ho7,trivial⟩
abbrev r_firthref19_Cut_Want(gc_:Nat)(ec_:Nat)(rowc_:Rowb)(r:(List Int)×(List Rec)×Bool)(U:List Rowb)(Γ:Gh)(v:Value):Prop := ∃(A0:Option Addr), ∃(c0:Nat), ∃(row0:Rowb), ∃(A1:Option Addr), ∃(c1:Nat), ∃(row1:Rowb),v = .tuple #[.slice A0 r.1.length c0,.slice A1 r.2.1.length c1,.bool r.2.2]∧U = [rowc_,row0,row1]∧Own u64T Γ 78 row0 A0 c0 r.1∧Own recT Γ 70 row1 A1 c1 r.2.1∧True
theorem t_firthref19_Cut_Want{Γ:Gh}{w0:World}{gc_ ec_:Nat}{rowc_:Rowb}{c_:Ofirthref19_Cut}(hc_:Ofirthref19_Cut.ob ec_ Γ gc_ rowc_ c_){Apath:Option Addr}{cpath:Nat}{path:List Int}(hpath:Sl intT Γ Apath path)(hpathc:path.length≤cpath)(hp:Pre [rowc_] Γ w0){r:(List Int)×(List Rec)×Bool}(h:m_firthref19_Cut_Want c_ path=some r):Calls Tryz.prog 14 #[(pq gc_),.slice Apath path.length cpath] w0 (Outc Γ [rowc_] w0 (r_firthref19_Cut_Want gc_ ec_ rowc_ r)):=by
 refine calls_of (N:=30) (rs:=[4,5,6]) (args:=[(pq gc_),.slice Apath path.length cpath]) Tryz.func14 rfl Tryz.ntmps14 Tryz.results14 rfl ?_
 obtain⟨F,hF⟩:∃F:Fm,F=⟨ids [rowc_],w0,Γ⟩:=⟨_,rfl⟩
 refine aa (C:=CC F Γ [rowc_]) ?_ (hF▸hp.start)
 refine a7 ?_
 refine as_ (v:=.slice none 0 0) ?_
 refine as_ (v:=.slice none 0 0) ?_
 refine as_ (v:=.bool false) ?_
 refine a6 ?_
 refine a8 ?_
 refine a7 ?_
 refine mv (v:=.slice Apath path.length cpath) ?_
 obtain⟨z1,hz2,h⟩:=bnd h
 refine vc rfl rfl rfl (q_call (call_run Tryz.call54 rfl rfl (by kernel_rfl)) (λw hw=>t_firthref11_Path (Γ:=Gh.all w) (hpath.mono hw.sat.le_all) hpathc (Sat.all w) hz2)) ?_
 refine vb (q_not rfl rfl) ?_
 refine mv (v:=.bool (!z1)) ?_
 refine vg0 rfl rfl rfl rfl rfl (λhg3=>QV.qo (q_move (v:=.slice Apath path.length cpath) rfl (by kernel_rfl))) ?_
 refine vg0 rfl rfl rfl rfl rfl (λhg4=>QV.qo (q_len_slice rfl Tryz.underlying24 (gu hg4 rfl))) ?_
 refine vg0 rfl rfl rfl rfl rfl (λhg5=>QV.qo (q_eql rfl (gu hg5 rfl) rfl)) ?_
 refine vb (q_pick rfl rfl (pk_or' (g:=(!z1)) (y:=(((path.length:Nat):Int)==0)))) ?_
 refine a6 ?_
 refine aj h (by kernel_rfl) (λhb6 h=>?_) (λhb6 h=>?_)
 ·
  refine a7 ?_
  refine as_ (v:=.slice none 0 0) ?_
  refine as_ (v:=.slice none 0 0) ?_
  refine as_ (v:=.bool false) ?_
  refine a6 ?_
  refine ac ?_
  intro w hw
  have hw:=hw.pad
  have hw:=hw.pad
  cases h
  subst hF
  exact end_e (is:=[2,1,0]) (by kernel_rfl) hw rfl ⟨none,0,[],none,0,[],rfl,rfl,(Own.nil u64T _ 78),(Own.nil recT _ 70),trivial⟩
 ·
  refine ae ?_
  change WC _ _ _ _ _ _
  refine a8 ?_
  refine a7 ?_
  refine mv (v:=.slice Apath path.length cpath) ?_
  refine vb (q_len_slice rfl Tryz.underlying24 rfl) ?_
  refine vb (q_eql rfl rfl rfl) ?_
  refine a6 ?_
  refine aj h (by kernel_rfl) (λhb7 h=>?_) (λhb7 h=>?_)
  ·
   refine a7 ?_
   refine mv (v:=(pq gc_)) ?_
   refine vb (q_nil (A:=some ⟨gc_,0,none⟩) rfl rfl rfl) ?_
   refine vb (q_fl 2 fld_41_2 rfl rfl rfl) ?_
   have hq:=hc_
   obtain⟨A1_8,c1_8,A2_8,c2_8,hrow_8,ho0_8,ho1_8,ho2_8,ho3_8,ho4_8,-⟩:=hq
   intro w hw; have hw:=hw.unfold (i:=0) rfl hrow_8
   refine ao (C:=CC F Γ [[(gc_,.cells #[.int .i64 c_.id,.slice A1_8 c_.vec.length c1_8,.slice A2_8 c_.all.length c2_8] ec_ (0,0))]]) ?_ hw
   clear hw
   refine vb (q_ldl (i:=0) (v:=.slice A2_8 c_.all.length c2_8) rfl rfl Tryz.isAgg23 rfl rfl) ?_
   refine mv (v:=.slice Apath path.length cpath) ?_
   obtain⟨z9,hz10,h⟩:=bnd h
   refine e_call (is:=[]) rfl rfl (call_run Tryz.call20 rfl rfl (by kernel_rfl)) rfl (λw hp=>t_firthref11_Kids ho4_8 ho3_8 hpath hpathc hp hz10) ?_
   rintro Γ11 U13 v14 hl12 ⟨A15,c16,row17,rfl,rfl,hr18,_⟩
   change WR _ _ _ (CC F Γ11 [row17,[(gc_,.cells #[.int .i64 c_.id,.slice A1_8 c_.vec.length c1_8,.slice A2_8 c_.all.length c2_8] ec_ (0,0))]]) _ _ (upd _ 23 (.slice A15 z9.length c16))
   refine as_ (v:=.slice A15 z9.length c16) ?_
   refine as_ (v:=.slice none 0 0) ?_
   refine as_ (v:=.bool true) ?_
   refine a6 ?_
   refine ac ?_
   intro w hw
   have hw:=hw.fold (is:=[1]) rfl hrow_8
   have hw:=hw.pad
   cases h
   subst hF
   exact end_e (is:=[1,1,0]) (by kernel_rfl) hw rfl ⟨A15,c16,row17,none,0,[],rfl,rfl,hr18,(Own.nil recT _ 70),trivial⟩
  ·
   refine ae ?_
   change WC _ _ _ _ _ _
   refine a7 ?_
   refine mv (v:=(pq gc_)) ?_
   refine vb (q_nil (A:=some ⟨gc_,0,none⟩) rfl rfl rfl) ?_
   refine vb (q_fl 2 fld_41_2 rfl rfl rfl) ?_
   have hq:=hc_
   obtain⟨A1_20,c1_20,A2_20,c2_20,hrow_20,ho0_20,ho1_20,ho2_20,ho3_20,ho4_20,-⟩:=hq
   intro w hw; have hw:=hw.unfold (i:=0) rfl hrow_20
   refine ao (C:=CC F Γ [[(gc_,.cells #[.int .i64 c_.id,.slice A1_20 c_.vec.length c1_20,.slice A2_20 c_.all.length c2_20] ec_ (0,0))]]) ?_ hw
   clear hw
   refine vb (q_ldl (i:=0) (v:=.slice A2_20 c_.all.length c2_20) rfl rfl Tryz.isAgg23 rfl rfl) ?_
   refine mv (v:=.slice Apath path.length cpath) ?_
   obtain⟨z21,hz22,h⟩:=bnd h
   refine e_call (is:=[]) rfl rfl (call_run Tryz.call55 rfl rfl (by kernel_rfl)) rfl (λw hp=>t_firthref11_Recs ho4_20 ho3_20 hpath hpathc hp hz22) ?_
   rintro Γ23 U25 v26 hl24 ⟨A27,c28,row29,rfl,rfl,hr30,_⟩
   change WR _ _ _ (CC F Γ23 [row29,[(gc_,.cells #[.int .i64 c_.id,.slice A1_20 c_.vec.length c1_20,.slice A2_20 c_.all.length c2_20] ec_ (0,0))]]) _ _ (upd _ 29 (.slice A27 z21.length c28))
   refine as_ (v:=.slice none 0 0) ?_
   refine as_ (v:=.slice A27 z21.length c28) ?_
   refine as_ (v:=.bool true) ?_
   refine a6 ?_
   refine ac ?_
   intro w hw
   have hw:=hw.fold (is:=[1]) rfl hrow_20
   have hw:=hw.pad
   cases h
   subst hF
   exact end_e (is:=[1,0,0]) (by kernel_rfl) hw rfl ⟨none,0,[],A27,c28,row29,rfl,rfl,(Own.nil u64T _ 78),hr30,trivial⟩
abbrev r_firthref19_NewPull(r:(Option Ofirthref19_Pull)×Int)(U:List Rowb)(Γ:Gh)(v:Value):Prop := ∃(g0:Nat), ∃(row0:Rowb),v = .tuple #[optp r.1 g0,.int .i64 r.2]∧U = [row0]∧optob (Ofirthref19_Pull.ob 59 Γ g0) row0 r.1∧I64 r.2∧True
theorem t_firthref19_NewPull{Γ:Gh}{w0:World}(id:Int)(hid:I64 id){Aown:Option Addr}{cown:Nat}{own:List Rec}(hown:Sl recT Γ Aown own)(hownc:own.length≤cown)(hp:Pre [] Γ w0){r:(Option Ofirthref19_Pull)×Int}(h:m_firthref19_NewPull id own=some r):Calls Tryz.prog 23 #[.int .i64 id,.slice Aown own.length cown] w0 (Outc Γ [] w0 (r_firthref19_NewPull r)):=by
 refine calls_of (N:=20) (rs:=[4,5]) (args:=[.int .i64 id,.slice Aown own.length cown]) Tryz.func23 rfl Tryz.ntmps23 Tryz.results23 rfl ?_
 obtain⟨F,hF⟩:∃F:Fm,F=⟨ids [],w0,Γ⟩:=⟨_,rfl⟩
 refine aa (C:=CC F Γ []) ?_ (hF▸hp.start)
 refine a7 ?_
 refine as_ (v:=.pointer none) ?_
 refine as_ (v:=.int .i64 0) ?_
 refine a6 ?_
 refine a7 ?_
 refine mv (v:=.slice Aown own.length cown) ?_
 obtain⟨z1,hz2,h⟩:=bnd h
 refine e_call (is:=[]) rfl rfl (call_run Tryz.call35 rfl rfl (by kernel_rfl)) rfl (λw hp=>t_firthref14_Held hown hownc hp hz2) ?_
 rintro Γ3 U5 v6 hl4 ⟨A7,c8,row9,rfl,rfl,hr10,_⟩
 change WR _ _ _ (CC F Γ3 [row9]) _ _ (upd _ 10 (.tuple #[.slice A7 z1.1.length c8,.bool z1.2]))
 refine mv (v:=.tuple #[.slice A7 z1.1.length c8,.bool z1.2]) ?_
 refine vb (q_extract (v:=.slice A7 z1.1.length c8) rfl rfl rfl) ?_
 refine vb (q_extract (v:=.bool z1.2) rfl rfl rfl) ?_
 refine as_ (v:=.slice A7 z1.1.length c8) ?_
 refine as_ (v:=.bool z1.2) ?_
 refine a6 ?_
 refine a8 ?_
 refine a7 ?_
 refine mv (v:=.bool z1.2) ?_
 refine vb (q_not rfl rfl) ?_
 refine a6 ?_
 refine aj h (by kernel_rfl) (λhb11 h=>?_) (λhb11 h=>?_)
 ·
  refine a7 ?_
  refine as_ (v:=.pointer none) ?_
  refine as_ (v:=.int .i64 1) ?_
  refine a6 ?_
  refine ac ?_
  intro w hw
  have hw:=hw.pad
  cases h
  subst hF
  exact end_e (is:=[0]) (by kernel_rfl) hw rfl ⟨0,[],rfl,rfl,rfl,(show I64 1 by decide),trivial⟩
 ·
  refine ae ?_
  change WC _ _ _ _ _ _
  refine a7 ?_
  refine mv (v:=.int .i64 id) ?_
  refine mv (v:=.slice A7 z1.1.length c8) ?_
  have hc16:=hr10.capz
  intro w hw; obtain⟨Γ12,hw,hl13,hr14⟩:=hw.seal (i:=0) rfl; have hs15:=hr10.sl hl13 hr14
  refine ao (C:=CC F Γ12 [[]]) ?_ hw
  clear hw
  obtain⟨z17,hz18,h⟩:=bnd h
  refine e_call (is:=[]) rfl rfl (call_run Tryz.call48 rfl rfl (by kernel_rfl)) rfl (λw hp=>t_firthref19_recs hs15 hc16 hp hz18) ?_
  rintro Γ19 U21 v22 hl20 ⟨A23,c24,row25,rfl,rfl,hr26,_⟩
  change WR _ _ _ (CC F Γ19 [row25,[]]) _ _ (upd _ 17 (.slice A23 z17.length c24))
  refine vb (q_build' (v:=.agg #[.int .i64 id,.slice A23 z17.length c24,.bool false,.slice none 0 0,.slice none 0 0,.slice none 0 0]) rfl (bargs2 rfl rfl) (λw=>by kernel_rfl)) ?_
  refine e_box (v:=.agg #[.int .i64 id,.slice A23 z17.length c24,.bool false,.slice none 0 0,.slice none 0 0,.slice none 0 0]) rfl rfl rfl rfl (by kernel_rfl) ?_
  intro g27
  refine as_ (v:=(pq g27)) ?_
  refine as_ (v:=.int .i64 0) ?_
  refine a6 ?_
  refine ac ?_
  intro w hw
  have hc32:=hr26.capz
  obtain⟨Γ28,hw,hl29,hr30⟩:=hw.seal (i:=1) rfl; have hs31:=hr26.sl hl29 hr30
  have hw:=hw.pad
  have hw:=hw.pad
  obtain⟨row_33,hrow_33,hob_33⟩:∃rw:Rowb,rw=([[(g27,.cells #[.int .i64 id,.slice A23 z17.length c24,.bool false,.slice none 0 0,.slice none 0 0,.slice none 0 0] 59 (0,0))],[],[]]:List Rowb).flatten∧Ofirthref19_Pull.ob 59 Γ28 g27 rw (⟨id,z17,false,[],[],[]⟩:Ofirthref19_Pull):=⟨_,rfl,A23,c24,none,0,[],none,0,[],none,0,rfl,hid,hc32,hs31,(Own.nil intT Γ28 2),(Own.nil (slT intT) Γ28 24),(Nat.zero_le 0),(Sl.nil _ _ none),trivial⟩
  have hw:=hw.fold (is:=[2,1,0]) rfl hrow_33
  cases h
  subst hF
  exact end_e (is:=[0]) (by kernel_rfl) hw rfl ⟨g27,row_33,rfl,rfl,hob_33,(show I64 0 by decide),trivial⟩
theorem t_firthref11_at{Γ:Gh}{w0:World}{Al:Option Addr}{cl:Nat}{l:List Int}(hl:Sl u64T Γ Al l)(hlc:l.length≤cl)(i_:Int)(hi_:I64 i_)(hs:Sat Γ w0){r:Int}(h:m_firthref11_at l i_=some r):Calls Tryz.prog 82 #[.slice Al l.length cl,.int .i64 i_] w0 (λe w'=>e = .returned (.int .u64 r)∧Fr no w0 w'):=by
 refine calls_of (N:=13) (rs:=[4]) (args:=[.slice Al l.length cl,.int .i64 i_]) Tryz.func82 rfl Tryz.ntmps82 Tryz.results82 rfl ?_
 obtain⟨F,hF⟩:∃F:Fm,F=⟨no,w0,Γ⟩:=⟨_,rfl⟩
 refine aa (C:=CC F Γ []) ?_ (hF▸Cur.start0 hs)
 refine a7 ?_
 refine as_ (v:=.int .u64 0) ?_
 refine a6 ?_
 refine a8 ?_
 refine a7 ?_
 refine mv (v:=.int .i64 i_) ?_
 refine mv (v:=.slice Al l.length cl) ?_
 refine vb (q_len_slice rfl Tryz.underlying33 rfl) ?_
 refine vb (q_lss rfl rfl rfl) ?_
 refine a6 ?_
 refine aj h (by kernel_rfl) (λhb1 h=>?_) (λhb1 h=>?_)
 ·
  refine a7 ?_
  refine mv (v:=.slice Al l.length cl) ?_
  refine mv (v:=.int .i64 i_) ?_
  obtain⟨hk2,h⟩:=chk_some h
  refine vb (q_ix Tryz.underlying33 Tryz.sizeOf78 rfl rfl rfl hk2 (hl.some_ (inb_lt hk2))) ?_
  refine vb (q_ld (c:=0) (v:=.int .u64 (gt l i_.toNat)) (hl.u64T_at (inb_lt hk2)).2 rfl Tryz.isAgg78 rfl rfl) ?_
  refine as_ (v:=.int .u64 (gt l i_.toNat)) ?_
  refine a6 ?_
  refine ac ?_
  intro w hw
  cases h
  subst hF
  exact⟨by kernel_rfl,hw.fr⟩
 ·
  refine ae ?_
  change WC _ _ _ _ _ _
  refine a7 ?_
  refine as_ (v:=.int .u64 0) ?_
  refine a6 ?_
  refine ac ?_
  intro w hw
  cases h
  subst hF
  exact⟨by kernel_rfl,hw.fr⟩
abbrev r_firthref11_Differ(r:List Int)(U:List Rowb)(Γ:Gh)(v:Value):Prop := ∃(A0:Option Addr), ∃(c0:Nat), ∃(row0:Rowb),v = .slice A0 r.length c0∧U = [row0]∧Own intT Γ 3 row0 A0 c0 r∧True
theorem t_firthref11_Differ{Γ:Gh}{w0:World}{Aa:Option Addr}{ca:Nat}{a:List Int}(ha:Sl u64T Γ Aa a)(hac:a.length≤ca){Ab:Option Addr}{cb:Nat}{b:List Int}(hb:Sl u64T Γ Ab b)(hbc:b.length≤cb)(hp:Pre [] Γ w0){r:List Int}(h:m_firthref11_Differ a b=some r):Calls Tryz.prog 59 #[.slice Aa a.length ca,.slice Ab b.length cb] w0 (Outc Γ [] w0 (r_firthref11_Differ r)):=by
 refine calls_of (N:=23) (rs:=[4]) (args:=[.slice Aa a.length ca,.slice Ab b.length cb]) Tryz.func59 rfl Tryz.ntmps59 Tryz.results59 rfl ?_
 obtain⟨F,hF⟩:∃F:Fm,F=⟨ids [],w0,Γ⟩:=⟨_,rfl⟩
 refine aa (C:=CC F Γ []) ?_ (hF▸hp.start)
 refine a7 ?_
 refine as_ (v:=.slice none 0 0) ?_
 refine a6 ?_
 refine a7 ?_
 refine as_ (v:=.slice none 0 0) ?_
 refine a6 ?_
 refine a8 ?_
 refine a7 ?_
 refine as_ (v:=.int .i64 0) ?_
 refine a6 ?_
 refine af ?_
 refine az h (λ(i7:Nat) (out_1:List Int) σ w => ∃(A2:Option Addr), ∃(c3:Nat), ∃(row4:Rowb),slots σ [(0,.slice Aa a.length ca),(1,.slice Ab b.length cb),(5,.slice A2 out_1.length c3),(6,.int .i64 ((i7:Nat):Int))]∧CC F Γ [row4] w∧Own intT Γ 3 row4 A2 c3 out_1∧True) ?_ ?_
 ·
  intro w hw
  have hw:=hw.pad
  exact⟨none,0,[],(sl_ (by kernel_rfl)),hw,(Own.nil intT _ 3),trivial⟩
 rintro f6 i7 out_1 σ w hi8 hlt9 hge10 ⟨A2,c3,row4,hsl,hw,ho5,-⟩
 refine Wpt.slots hsl ?_
 refine aa (C:=CC F Γ [row4]) ?_ hw
 clear hw hsl
 refine a8 ?_
 refine a7 ?_
 refine mv (v:=.int .i64 ((i7:Nat):Int)) ?_
 refine vb (q_lss rfl rfl rfl) ?_
 refine a6 ?_
 refine WC.cond (b:=(decide (((i7:Nat):Int)<16))) (by kernel_rfl) (λhb11=>?_) (λhb11=>?_)
 ·
  have hl12:=ilt hb11
  have h:=hlt9 hl12
  refine ae ?_
  change WC _ _ _ _ _ _
  refine ax (λσ w => ∃(out_13:List Int), ∃(A14:Option Addr), ∃(c15:Nat), ∃(row16:Rowb),m_firthref11_Differ_j5 f6 out_13=some r∧slots σ [(0,.slice Aa a.length ca),(1,.slice Ab b.length cb),(5,.slice A14 out_13.length c15),(6,.int .i64 ((i7:Nat):Int))]∧CC F Γ [row16] w∧Own intT Γ 3 row16 A14 c15 out_13∧True) ?_ ?_
  ·
   refine af ?_
   refine a7 ?_
   refine mv (v:=.slice Aa a.length ca) ?_
   refine mv (v:=.int .i64 ((i7:Nat):Int)) ?_
   obtain⟨z18,hz19,h⟩:=bnd h
   refine vc rfl rfl rfl (q_call (call_run Tryz.call82 rfl rfl (by kernel_rfl)) (λw hw=>t_firthref11_at (Γ:=Gh.all w) (ha.mono hw.sat.le_all) hac ((i7:Nat):Int) (ctr_lit0 hl12 (by decide)) (Sat.all w) hz19)) ?_
   refine mv (v:=.slice Ab b.length cb) ?_
   refine mv (v:=.int .i64 ((i7:Nat):Int)) ?_
   obtain⟨z20,hz21,h⟩:=bnd h
   refine vc rfl rfl rfl (q_call (call_run Tryz.call82 rfl rfl (by kernel_rfl)) (λw hw=>t_firthref11_at (Γ:=Gh.all w) (hb.mono hw.sat.le_all) hbc ((i7:Nat):Int) (ctr_lit0 hl12 (by decide)) (Sat.all w) hz21)) ?_
   refine vb (q_neq rfl rfl rfl) ?_
   refine a6 ?_
   refine aj h (by kernel_rfl) (λhb22 h=>?_) (λhb22 h=>?_)
   ·
    refine ah ?_
    refine mv (v:=.slice A2 out_1.length c3) ?_
    refine mv (v:=.int .i64 ((i7:Nat):Int)) ?_
    refine e_buildSlice (cs:=#[.int .i64 ((i7:Nat):Int)]) (e:=3) rfl rfl rfl rfl (λw=>by kernel_rfl) ?_
    intro g23
    obtain⟨hk24,h⟩:=chk_some h
    refine e_append (T:=intT) (xs:=out_1) (ys:=[((i7:Nat):Int)]) elem_24 (i:=1) rfl rfl rfl rfl rfl rfl rfl ho5 (of_decide_eq_true hk24) (λw hw=>src_one (T:=intT) (y:=((i7:Nat):Int)) (i:=0) rfl (by exact⟨rfl,(ctr_lit0 hl12 (by decide))⟩) hw) ?_
    intro row25 A26 c27 ho28
    refine as_ (v:=.slice A26 (out_1++[((i7:Nat):Int)]).length c27) ?_
    exact ab λw hw=>⟨(out_1++[((i7:Nat):Int)]),A26,c27,row25,h,(sl_ (by kernel_rfl)),(hw.only (is:=[1]) rfl),ho28,trivial⟩
   ·
    exact ae λw hw=>⟨out_1,A2,c3,row4,h,(sl_ (by kernel_rfl)),hw,ho5,trivial⟩
  ·
   rintro σ w ⟨out_13,A14,c15,row16,h,hsl,hw,ho17,-⟩
   refine Wpt.slots hsl ?_
   refine aa (C:=CC F Γ [row16]) ?_ hw
   clear hw hsl
   refine ah ?_
   refine mv (v:=.int .i64 ((i7:Nat):Int)) ?_
   refine vb (q_add_r (r:=((i7+1:Nat):Int)) rfl rfl rfl (ctr_lit hl12 (by decide))) ?_
   refine as_ (v:=.int .i64 ((i7+1:Nat):Int)) ?_
   exact ab λw hw=>⟨hl12,out_13,h,A14,c15,row16,(sl_ (by kernel_rfl)),hw,ho17,trivial⟩
 ·
  have h:=hge10 (ige hb11)
  refine am ?_
  change WC _ _ _ _ _ _
  refine a7 ?_
  refine mv (v:=.slice A2 out_1.length c3) ?_
  refine as_ (v:=.slice A2 out_1.length c3) ?_
  refine a6 ?_
  refine ac ?_
  intro w hw
  cases h
  subst hF
  exact end_e (is:=[0]) (by kernel_rfl) hw rfl ⟨A2,c3,row4,rfl,rfl,ho5,trivial⟩
abbrev r_firthref19_Pull_Begin(gp_:Nat)(ep_:Nat)(r:Ofirthref19_Pull×Bool)(U:List Rowb)(Γ:Gh)(v:Value):Prop := ∃(rowp_':Rowb),v = .bool r.2∧U = [rowp_']∧Ofirthref19_Pull.ob ep_ Γ gp_ rowp_' r.1∧True
theorem t_firthref19_Pull_Begin{Γ:Gh}{w0:World}{gp_ ep_:Nat}{rowp_:Rowb}{p_:Ofirthref19_Pull}(hp_:Ofirthref19_Pull.ob ep_ Γ gp_ rowp_ p_){Avec:Option Addr}{cvec:Nat}{vec:List Int}(hvec:Sl intT Γ Avec vec)(hvecc:vec.length≤cvec){Ahashes:Option Addr}{chashes:Nat}{hashes:List Int}(hhashes:Sl u64T Γ Ahashes hashes)(hhashesc:hashes.length≤chashes)(hp:Pre [rowp_] Γ w0){r:Ofirthref19_Pull×Bool}(h:m_firthref19_Pull_Begin p_ vec hashes=some r):Calls Tryz.prog 25 #[(pq gp_),.slice Avec vec.length cvec,.slice Ahashes hashes.length chashes] w0 (Outc Γ [rowp_] w0 (r_firthref19_Pull_Begin gp_ ep_ r)):=by
 refine calls_of (N:=57) (rs:=[6]) (args:=[(pq gp_),.slice Avec vec.length cvec,.slice Ahashes hashes.length chashes]) Tryz.func25 rfl Tryz.ntmps25 Tryz.results25 rfl ?_
 obtain⟨F,hF⟩:∃F:Fm,F=⟨ids [rowp_],w0,Γ⟩:=⟨_,rfl⟩
 refine aa (C:=CC F Γ [rowp_]) ?_ (hF▸hp.start)
 refine a7 ?_
 refine as_ (v:=.bool false) ?_
 refine a6 ?_
 refine a8 ?_
 refine a7 ?_
 refine mv (v:=(pq gp_)) ?_
 refine vb (q_nil (A:=some ⟨gp_,0,none⟩) rfl rfl rfl) ?_
 refine vb (q_fl 2 fld_59_2 rfl rfl rfl) ?_
 have hq:=hp_
 obtain⟨A1_1,c1_1,A3_1,c3_1,r3_1,A4_1,c4_1,r4_1,A5_1,c5_1,hrow_1,ho0_1,ho1_1,ho2_1,ho3_1,ho4_1,ho5_1,ho6_1,-⟩:=hq
 intro w hw; have hw:=hw.unfold (i:=0) rfl hrow_1
 refine ao (C:=CC F Γ [[(gp_,.cells #[.int .i64 p_.id,.slice A1_1 p_.own.length c1_1,.bool p_.begun,.slice A3_1 p_.vec.length c3_1,.slice A4_1 p_.paths.length c4_1,.slice A5_1 p_.in_.length c5_1] ep_ (0,0))],r3_1,r4_1]) ?_ hw
 clear hw
 refine vb (q_ldl (i:=0) (v:=.bool p_.begun) rfl rfl Tryz.isAgg4 rfl rfl) ?_
 refine mv (v:=.bool p_.begun) ?_
 refine vg0 rfl rfl rfl rfl rfl (λhg2=>QV.qo (q_move (v:=.slice Avec vec.length cvec) rfl (by kernel_rfl))) ?_
 obtain⟨z4,hz5,h⟩:=bnd h
 refine vg0 rfl rfl rfl rfl rfl (λhg3=>(q_call (call_run Tryz.call47 rfl rfl (args1 (gu hg3 rfl))) (λw hw=>t_firthref04_Right (Γ:=Gh.all w) (hvec.mono hw.sat.le_all) hvecc (Sat.all w) (gc_of hz5 hg3)))) ?_
 refine vg0 rfl rfl rfl rfl rfl (λhg6=>QV.qo (q_not rfl (gu hg6 rfl))) ?_
 refine vb (q_pick rfl rfl (pk_or' (g:=p_.begun) (y:=(!z4)))) ?_
 refine a6 ?_
 refine aj h (by kernel_rfl) (λhb7 h=>?_) (λhb7 h=>?_)
 ·
  refine a7 ?_
  refine as_ (v:=.bool false) ?_
  refine a6 ?_
  refine ac ?_
  intro w hw
  have hw:=hw.fold (is:=[0,0,0]) rfl hrow_1
  cases h
  subst hF
  exact end_e (is:=[0]) (by kernel_rfl) hw rfl ⟨rowp_,rfl,rfl,hp_,trivial⟩
 ·
  refine ae ?_
  change WC _ _ _ _ _ _
  refine a7 ?_
  refine mv (v:=(pq gp_)) ?_
  refine vb (q_nil (A:=some ⟨gp_,0,none⟩) rfl rfl rfl) ?_
  refine vb (q_fl 2 fld_59_2 rfl rfl rfl) ?_
  refine e_st (i:=0) (v:=.bool true) (new:=#[.int .i64 p_.id,.slice A1_1 p_.own.length c1_1,.bool true,.slice A3_1 p_.vec.length c3_1,.slice A4_1 p_.paths.length c4_1,.slice A5_1 p_.in_.length c5_1]) rfl Tryz.sizeOf4 rfl rfl rfl rfl (by kernel_rfl) rfl rfl rfl rfl ?_
  refine a6 ?_
  refine a7 ?_
  refine mv (v:=(pq gp_)) ?_
  refine mv (v:=(pq gp_)) ?_
  refine vb (q_nil (A:=some ⟨gp_,0,none⟩) rfl rfl rfl) ?_
  refine vb (q_fl 3 fld_59_3 rfl rfl rfl) ?_
  refine vb (q_ldl (i:=0) (v:=.slice A3_1 p_.vec.length c3_1) rfl rfl Tryz.isAgg22 rfl rfl) ?_
  refine mv (v:=.slice Avec vec.length cvec) ?_
  obtain⟨hk9,h⟩:=chk_some h
  refine e_append (T:=intT) (xs:=p_.vec) (ys:=vec) elem_22 (i:=1) rfl rfl rfl rfl rfl rfl rfl ho3_1 (of_decide_eq_true hk9) (λw hw=>src_sl hvec hw) ?_
  intro row10 A11 c12 ho13
  refine vb (q_nil (A:=some ⟨gp_,0,none⟩) rfl rfl rfl) ?_
  refine vb (q_fl 3 fld_59_3 rfl rfl rfl) ?_
  refine e_st (i:=0) (v:=.slice A11 (p_.vec++vec).length c12) (new:=#[.int .i64 p_.id,.slice A1_1 p_.own.length c1_1,.bool true,.slice A11 (p_.vec++vec).length c12,.slice A4_1 p_.paths.length c4_1,.slice A5_1 p_.in_.length c5_1]) rfl Tryz.sizeOf22 rfl rfl rfl rfl (by kernel_rfl) rfl rfl rfl rfl ?_
  refine a6 ?_
  refine a7 ?_
  refine mv (v:=(pq gp_)) ?_
  refine vb (q_nil (A:=some ⟨gp_,0,none⟩) rfl rfl rfl) ?_
  refine vb (q_fl 1 fld_59_1 rfl rfl rfl) ?_
  refine vb (q_ldl (i:=0) (v:=.slice A1_1 p_.own.length c1_1) rfl rfl Tryz.isAgg23 rfl rfl) ?_
  obtain⟨z14,hz15,h⟩:=bnd h
  refine e_call (is:=[]) rfl rfl (call_run Tryz.call20 rfl rfl (by kernel_rfl)) rfl (λw hp=>t_firthref11_Kids ho2_1 ho1_1 (Sl.nil intT _ none) (Nat.zero_le 0) hp hz15) ?_
  rintro Γ16 U18 v19 hl17 ⟨A20,c21,row22,rfl,rfl,hr23,_⟩
  change WR _ _ _ (CC F Γ16 [row22,[(gp_,.cells #[.int .i64 p_.id,.slice A1_1 p_.own.length c1_1,.bool true,.slice A11 (p_.vec++vec).length c12,.slice A4_1 p_.paths.length c4_1,.slice A5_1 p_.in_.length c5_1] ep_ (0,0))],row10,r4_1]) _ _ (upd _ 34 (.slice A20 z14.length c21))
  refine mv (v:=.slice Ahashes hashes.length chashes) ?_
  have hc28:=hr23.capz
  intro w hw; obtain⟨Γ24,hw,hl25,hr26⟩:=hw.seal (i:=0) rfl; have hs27:=hr23.sl hl25 hr26
  refine ao (C:=CC F Γ24 [[],[(gp_,.cells #[.int .i64 p_.id,.slice A1_1 p_.own.length c1_1,.bool true,.slice A11 (p_.vec++vec).length c12,.slice A4_1 p_.paths.length c4_1,.slice A5_1 p_.in_.length c5_1] ep_ (0,0))],row10,r4_1]) ?_ hw
  clear hw
  obtain⟨z29,hz30,h⟩:=bnd h
  refine e_call (is:=[]) rfl rfl (call_run Tryz.call59 rfl rfl (by kernel_rfl)) rfl (λw hp=>t_firthref11_Differ hs27 hc28 (hhashes.mono (hl17.trans hl25)) hhashesc hp hz30) ?_
  rintro Γ31 U33 v34 hl32 ⟨A35,c36,row37,rfl,rfl,hr38,_⟩
  change WR _ _ _ (CC F Γ31 [row37,[],[(gp_,.cells #[.int .i64 p_.id,.slice A1_1 p_.own.length c1_1,.bool true,.slice A11 (p_.vec++vec).length c12,.slice A4_1 p_.paths.length c4_1,.slice A5_1 p_.in_.length c5_1] ep_ (0,0))],row10,r4_1]) _ _ (upd _ 36 (.slice A35 z29.length c36))
  refine as_ (v:=.slice A35 z29.length c36) ?_
  refine a6 ?_
  refine a8 ?_
  refine a7 ?_
  refine as_ (v:=.int .i64 0) ?_
  refine a6 ?_
  refine af ?_
  obtain⟨row_39,hrow_39,hob_39⟩:∃rw:Rowb,rw=([[(gp_,.cells #[.int .i64 p_.id,.slice A1_1 p_.own.length c1_1,.bool true,.slice A11 (p_.vec++vec).length c12,.slice A4_1 p_.paths.length c4_1,.slice A5_1 p_.in_.length c5_1] ep_ (0,0))],row10,r4_1]:List Rowb).flatten∧Ofirthref19_Pull.ob ep_ Γ31 gp_ rw (⟨p_.id,p_.own,true,(p_.vec++vec),p_.paths,p_.in_⟩:Ofirthref19_Pull):=⟨_,rfl,A1_1,c1_1,A11,c12,row10,A4_1,c4_1,r4_1,A5_1,c5_1,rfl,ho0_1,ho1_1,(ho2_1.mono ((hl17.trans hl25).trans hl32)),(ho13.mono ((hl17.trans hl25).trans hl32)),(ho4_1.mono ((hl17.trans hl25).trans hl32)),ho5_1,(ho6_1.mono ((hl17.trans hl25).trans hl32)),trivial⟩
  intro w hw; have hw:=hw.fold (is:=[2,2,2]) rfl hrow_39
  refine aa (C:=CC F Γ31 [row_39,row37,[]]) ?_ hw
  clear hw
  refine ap h (λ(i46:Nat) (o42:Ofirthref19_Pull) σ w => ∃(Γ40:Gh), ∃(row43:Rowb),slots σ [(0,(pq gp_)),(7,.slice A35 z29.length c36),(8,.int .i64 ((i46:Nat):Int))]∧CC F Γ40 [row43,row37] w∧Gh.le Γ31 Γ40∧Ofirthref19_Pull.ob ep_ Γ40 gp_ row43 o42∧True) ?_ ?_
  ·
   intro w hw
   exact⟨Γ31,row_39,(sl_ (by kernel_rfl)),(hw.only (is:=[0,0]) rfl),(Gh.refl _),hob_39,trivial⟩
  rintro f45 i46 o42 σ w hi47 hlt48 hge49 ⟨Γ40,row43,hsl,hw,hl41,ho44,-⟩
  refine Wpt.slots hsl ?_
  refine aa (C:=CC F Γ40 [row43,row37]) ?_ hw
  clear hw hsl
  refine a8 ?_
  refine a7 ?_
  refine mv (v:=.int .i64 ((i46:Nat):Int)) ?_
  refine mv (v:=.slice A35 z29.length c36) ?_
  refine vb (q_len_slice rfl Tryz.underlying24 rfl) ?_
  refine vb (q_lss rfl rfl rfl) ?_
  refine a6 ?_
  refine WC.cond (b:=(decide (((i46:Nat):Int)<((z29.length:Nat):Int)))) (by kernel_rfl) (λhb50=>?_) (λhb50=>?_)
  ·
   have hl51:=ilt hb50
   have h:=hlt48 hl51
   refine ae ?_
   change WC _ _ _ _ _ _
   refine a8 ?_
   refine af ?_
   intro w hw; have h052:=hw.le
   refine aa (C:=CC F Γ40 [row43,row37]) ?_ hw; clear hw
   refine av (CC F Γ40 []) (by kernel_rfl) (λw hw=>hw.drawn _) ?_
   change WH _ _ _ _ (CC F Γ40 [row43,row37]) _ 15 #[false,false,false,false,false,false,false,false,false,false,false,false,false,false,false] _
   refine hu 0 rfl (bk_ (Gh.refl _) h052 (.cons _ (.cons _ .slnil))) (q_move (v:=(pq gp_)) rfl (by kernel_rfl)) ?_
   refine hu 1 rfl (bk_ (Gh.refl _) h052 (.cons _ (.cons _ .slnil))) (q_move (v:=(pq gp_)) rfl (by kernel_rfl)) ?_
   refine hu 2 rfl (bk_ (Gh.refl _) h052 (.cons _ (.cons _ .slnil))) (q_nil (A:=some ⟨gp_,0,none⟩) rfl rfl rfl) ?_
   refine hu 3 rfl (bk_ (Gh.refl _) h052 (.cons _ (.cons _ .slnil))) (q_fl 4 fld_59_4 rfl rfl rfl) ?_
   refine hu 5 rfl (bk_ (Gh.refl _) h052 (.cons _ (.cons _ .slnil))) (q_move (v:=.slice A35 z29.length c36) rfl (by kernel_rfl)) ?_
   refine hu 6 rfl (bk_ (Gh.refl _) h052 (.cons _ (.cons _ .slnil))) (q_move (v:=.int .i64 ((i46:Nat):Int)) rfl (by kernel_rfl)) ?_
   refine WH.each (l:=[4,7]) (by kernel_rfl) (by simp) ?_
   intro i hi; simp only [List.mem_cons,List.not_mem_nil,or_false] at hi
   rcases hi with rfl | rfl
   ·
    refine⟨_,rfl,?_⟩
    have hq:=ho44
    obtain⟨A1_53,c1_53,A3_53,c3_53,r3_53,A4_53,c4_53,r4_53,A5_53,c5_53,hrow_53,ho0_53,ho1_53,ho2_53,ho3_53,ho4_53,ho5_53,ho6_53,-⟩:=hq
    intro w hw; have hw:=hw.unfold (i:=0) rfl hrow_53
    refine ao (C:=CC F Γ40 [[(gp_,.cells #[.int .i64 o42.id,.slice A1_53 o42.own.length c1_53,.bool o42.begun,.slice A3_53 o42.vec.length c3_53,.slice A4_53 o42.paths.length c4_53,.slice A5_53 o42.in_.length c5_53] ep_ (0,0))],r3_53,r4_53,row37]) ?_ hw
    clear hw
    refine vb (q_ldl (i:=0) (v:=.slice A4_53 o42.paths.length c4_53) rfl rfl Tryz.isAgg57 rfl rfl) ?_
    refine ab ?_
    refine WH.next (bk_ (Gh.refl _) h052 (.cons _ (.cons _ (.cons _ (.cons _ .slnil))))) ?_
    refine ai (i:=7) (by kernel_rfl) rfl ?_
    refine vb (q_ixn (i:=i46) Tryz.underlying24 Tryz.sizeOf3 rfl rfl rfl hl51 ((hr38.mono hl41).some_ hl51)) ?_
    refine ab ?_
    refine WH.next (bk_ (Gh.refl _) h052 (.cons _ (.cons _ (.cons _ (.cons _ .slnil))))) ?_
    refine ai (i:=8) (by kernel_rfl) rfl ?_
    refine vb (q_ldo (c:=0) (v:=.int .i64 (gt z29 i46)) (i:=3) rfl ((hr38.mono hl41).intT_at hl51).2 rfl Tryz.isAgg3 rfl rfl) ?_
    refine ab ?_
    refine WH.next (bk_ (Gh.refl _) h052 (.cons _ (.cons _ (.cons _ (.cons _ .slnil))))) ?_
    refine ai (i:=9) (by kernel_rfl) rfl ?_
    refine e_buildSlice (cs:=#[.int .i64 (gt z29 i46)]) (e:=3) rfl rfl rfl rfl (λw=>by kernel_rfl) ?_
    intro g54
    refine ab ?_
    refine WH.next (bk_ (Gh.refl _) h052 (.cons _ (.cons _ (.cons _ (.cons _ (.cons _ .slnil)))))) ?_
    refine ai (i:=10) (by kernel_rfl) rfl ?_
    have ho55:Own intT Γ40 3 [(g54,.cells #[.int .i64 (gt z29 i46)] 3 (0,0))] (some ⟨g54,0,none⟩) 1 [(gt z29 i46)]:=aq (T:=intT) (ys:=[(gt z29 i46)]) [[.int .i64 (gt z29 i46)]] rfl (show 1≤lim by decide) (show Ty.rd intT Γ40 [.int .i64 (gt z29 i46)] (gt z29 i46)∧True from ⟨⟨rfl,((hr38.mono hl41).intT_at hl51).1⟩,trivial⟩)
    have hc60:=ho55.capz
    intro w hw; obtain⟨Γ56,hw,hl57,hr58⟩:=hw.seal (i:=0) rfl; have hs59:=ho55.sl hl57 hr58
    refine ao (C:=CC F Γ56 [[],[(gp_,.cells #[.int .i64 o42.id,.slice A1_53 o42.own.length c1_53,.bool o42.begun,.slice A3_53 o42.vec.length c3_53,.slice A4_53 o42.paths.length c4_53,.slice A5_53 o42.in_.length c5_53] ep_ (0,0))],r3_53,r4_53,row37]) ?_ hw
    clear hw
    refine e_buildSlice (cs:=#[.slice (some ⟨g54,0,none⟩) [(gt z29 i46)].length 1]) (e:=24) rfl rfl rfl rfl (λw=>by kernel_rfl) ?_
    intro g61
    refine ab ?_
    refine WH.next (bk_ hl57 h052 (.cons _ (.cons _ (.cons _ (.cons _ (.cons _ (.cons _ .slnil))))))) ?_
    refine ai (i:=11) (by kernel_rfl) rfl ?_
    obtain⟨hk62,h⟩:=chk_some h
    refine e_append (T:=(slT intT)) (xs:=o42.paths) (ys:=[[(gt z29 i46)]]) elem_57 (i:=4) rfl rfl rfl rfl rfl rfl rfl (ho4_53.mono hl57) (of_decide_eq_true hk62) (λw hw=>src_one (T:=(slT intT)) (y:=[(gt z29 i46)]) (i:=0) rfl (by exact⟨(some ⟨g54,0,none⟩),1,rfl,hc60,hs59⟩) hw) ?_
    intro row63 A64 c65 ho66
    refine ab ?_
    refine WH.next (bk_ hl57 h052 (.cons _ (.cons _ (.cons _ (.cons _ (.cons _ (.cons _ .slnil))))))) ?_
    refine hu 12 rfl (bk_ hl57 h052 (.cons _ (.cons _ (.cons _ (.cons _ (.cons _ (.cons _ .slnil))))))) (q_nil (A:=some ⟨gp_,0,none⟩) rfl rfl rfl) ?_
    refine hu 13 rfl (bk_ hl57 h052 (.cons _ (.cons _ (.cons _ (.cons _ (.cons _ (.cons _ .slnil))))))) (q_fl 4 fld_59_4 rfl rfl rfl) ?_
    refine ai (i:=14) (by kernel_rfl) rfl ?_
    refine e_st (i:=2) (v:=.slice A64 (o42.paths++[[(gt z29 i46)]]).length c65) (new:=#[.int .i64 o42.id,.slice A1_53 o42.own.length c1_53,.bool o42.begun,.slice A3_53 o42.vec.length c3_53,.slice A64 (o42.paths++[[(gt z29 i46)]]).length c65,.slice A5_53 o42.in_.length c5_53]) rfl Tryz.sizeOf57 rfl rfl rfl rfl (by kernel_rfl) rfl rfl rfl rfl ?_
    refine ab ?_
    refine WH.next (bk_ hl57 h052 (.cons _ (.cons _ (.cons _ (.cons _ (.cons _ (.cons _ .slnil))))))) ?_
    refine au (by kernel_rfl) ?_
    change WC _ _ _ _ _ _
    refine ah ?_
    refine mv (v:=.int .i64 ((i46:Nat):Int)) ?_
    refine vb (q_add_r (r:=((i46+1:Nat):Int)) rfl rfl rfl (ctr_len hl51 (hr38.mono hl41).le)) ?_
    refine as_ (v:=.int .i64 ((i46+1:Nat):Int)) ?_
    refine ab ?_
    intro w hw
    obtain⟨row_67,hrow_67,hob_67⟩:∃rw:Rowb,rw=([[(gp_,.cells #[.int .i64 o42.id,.slice A1_53 o42.own.length c1_53,.bool o42.begun,.slice A3_53 o42.vec.length c3_53,.slice A64 (o42.paths++[[(gt z29 i46)]]).length c65,.slice A5_53 o42.in_.length c5_53] ep_ (0,0))],r3_53,row63]:List Rowb).flatten∧Ofirthref19_Pull.ob ep_ Γ56 gp_ rw (⟨o42.id,o42.own,o42.begun,o42.vec,(o42.paths++[[(gt z29 i46)]]),o42.in_⟩:Ofirthref19_Pull):=⟨_,rfl,A1_53,c1_53,A3_53,c3_53,r3_53,A64,c65,row63,A5_53,c5_53,rfl,ho0_53,ho1_53,(ho2_53.mono hl57),(ho3_53.mono hl57),ho66,ho5_53,(ho6_53.mono hl57),trivial⟩
    have hw:=hw.fold (is:=[2,2,2]) rfl hrow_67
    exact⟨hl51,(⟨o42.id,o42.own,o42.begun,o42.vec,(o42.paths++[[(gt z29 i46)]]),o42.in_⟩:Ofirthref19_Pull),h,Γ56,row_67,(sl_ (by kernel_rfl)),(hw.only (is:=[0,2]) rfl),(hl41.trans hl57),hob_67,trivial⟩
   ·
    refine⟨_,rfl,?_⟩
    refine vb (q_ixn (i:=i46) Tryz.underlying24 Tryz.sizeOf3 rfl rfl rfl hl51 ((hr38.mono hl41).some_ hl51)) ?_
    refine ab ?_
    refine WH.next (bk_ (Gh.refl _) h052 (.cons _ (.cons _ .slnil))) ?_
    refine WH.each (l:=[4,8]) (by kernel_rfl) (by simp) ?_
    intro i hi; simp only [List.mem_cons,List.not_mem_nil,or_false] at hi
    rcases hi with rfl | rfl
    ·
     refine⟨_,rfl,?_⟩
     have hq:=ho44
     obtain⟨A1_53,c1_53,A3_53,c3_53,r3_53,A4_53,c4_53,r4_53,A5_53,c5_53,hrow_53,ho0_53,ho1_53,ho2_53,ho3_53,ho4_53,ho5_53,ho6_53,-⟩:=hq
     intro w hw; have hw:=hw.unfold (i:=0) rfl hrow_53
     refine ao (C:=CC F Γ40 [[(gp_,.cells #[.int .i64 o42.id,.slice A1_53 o42.own.length c1_53,.bool o42.begun,.slice A3_53 o42.vec.length c3_53,.slice A4_53 o42.paths.length c4_53,.slice A5_53 o42.in_.length c5_53] ep_ (0,0))],r3_53,r4_53,row37]) ?_ hw
     clear hw
     refine vb (q_ldl (i:=0) (v:=.slice A4_53 o42.paths.length c4_53) rfl rfl Tryz.isAgg57 rfl rfl) ?_
     refine ab ?_
     refine WH.next (bk_ (Gh.refl _) h052 (.cons _ (.cons _ (.cons _ (.cons _ .slnil))))) ?_
     refine ai (i:=8) (by kernel_rfl) rfl ?_
     refine vb (q_ldo (c:=0) (v:=.int .i64 (gt z29 i46)) (i:=3) rfl ((hr38.mono hl41).intT_at hl51).2 rfl Tryz.isAgg3 rfl rfl) ?_
     refine ab ?_
     refine WH.next (bk_ (Gh.refl _) h052 (.cons _ (.cons _ (.cons _ (.cons _ .slnil))))) ?_
     refine ai (i:=9) (by kernel_rfl) rfl ?_
     refine e_buildSlice (cs:=#[.int .i64 (gt z29 i46)]) (e:=3) rfl rfl rfl rfl (λw=>by kernel_rfl) ?_
     intro g54
     refine ab ?_
     refine WH.next (bk_ (Gh.refl _) h052 (.cons _ (.cons _ (.cons _ (.cons _ (.cons _ .slnil)))))) ?_
     refine ai (i:=10) (by kernel_rfl) rfl ?_
     have ho55:Own intT Γ40 3 [(g54,.cells #[.int .i64 (gt z29 i46)] 3 (0,0))] (some ⟨g54,0,none⟩) 1 [(gt z29 i46)]:=aq (T:=intT) (ys:=[(gt z29 i46)]) [[.int .i64 (gt z29 i46)]] rfl (show 1≤lim by decide) (show Ty.rd intT Γ40 [.int .i64 (gt z29 i46)] (gt z29 i46)∧True from ⟨⟨rfl,((hr38.mono hl41).intT_at hl51).1⟩,trivial⟩)
     have hc60:=ho55.capz
     intro w hw; obtain⟨Γ56,hw,hl57,hr58⟩:=hw.seal (i:=0) rfl; have hs59:=ho55.sl hl57 hr58
     refine ao (C:=CC F Γ56 [[],[(gp_,.cells #[.int .i64 o42.id,.slice A1_53 o42.own.length c1_53,.bool o42.begun,.slice A3_53 o42.vec.length c3_53,.slice A4_53 o42.paths.length c4_53,.slice A5_53 o42.in_.length c5_53] ep_ (0,0))],r3_53,r4_53,row37]) ?_ hw
     clear hw
     refine e_buildSlice (cs:=#[.slice (some ⟨g54,0,none⟩) [(gt z29 i46)].length 1]) (e:=24) rfl rfl rfl rfl (λw=>by kernel_rfl) ?_
     intro g61
     refine ab ?_
     refine WH.next (bk_ hl57 h052 (.cons _ (.cons _ (.cons _ (.cons _ (.cons _ (.cons _ .slnil))))))) ?_
     refine ai (i:=11) (by kernel_rfl) rfl ?_
     obtain⟨hk62,h⟩:=chk_some h
     refine e_append (T:=(slT intT)) (xs:=o42.paths) (ys:=[[(gt z29 i46)]]) elem_57 (i:=4) rfl rfl rfl rfl rfl rfl rfl (ho4_53.mono hl57) (of_decide_eq_true hk62) (λw hw=>src_one (T:=(slT intT)) (y:=[(gt z29 i46)]) (i:=0) rfl (by exact⟨(some ⟨g54,0,none⟩),1,rfl,hc60,hs59⟩) hw) ?_
     intro row63 A64 c65 ho66
     refine ab ?_
     refine WH.next (bk_ hl57 h052 (.cons _ (.cons _ (.cons _ (.cons _ (.cons _ (.cons _ .slnil))))))) ?_
     refine hu 12 rfl (bk_ hl57 h052 (.cons _ (.cons _ (.cons _ (.cons _ (.cons _ (.cons _ .slnil))))))) (q_nil (A:=some ⟨gp_,0,none⟩) rfl rfl rfl) ?_
     refine hu 13 rfl (bk_ hl57 h052 (.cons _ (.cons _ (.cons _ (.cons _ (.cons _ (.cons _ .slnil))))))) (q_fl 4 fld_59_4 rfl rfl rfl) ?_
     refine ai (i:=14) (by kernel_rfl) rfl ?_
     refine e_st (i:=2) (v:=.slice A64 (o42.paths++[[(gt z29 i46)]]).length c65) (new:=#[.int .i64 o42.id,.slice A1_53 o42.own.length c1_53,.bool o42.begun,.slice A3_53 o42.vec.length c3_53,.slice A64 (o42.paths++[[(gt z29 i46)]]).length c65,.slice A5_53 o42.in_.length c5_53]) rfl Tryz.sizeOf57 rfl rfl rfl rfl (by kernel_rfl) rfl rfl rfl rfl ?_
     refine ab ?_
     refine WH.next (bk_ hl57 h052 (.cons _ (.cons _ (.cons _ (.cons _ (.cons _ (.cons _ .slnil))))))) ?_
     refine au (by kernel_rfl) ?_
     change WC _ _ _ _ _ _
     refine ah ?_
     refine mv (v:=.int .i64 ((i46:Nat):Int)) ?_
     refine vb (q_add_r (r:=((i46+1:Nat):Int)) rfl rfl rfl (ctr_len hl51 (hr38.mono hl41).le)) ?_
     refine as_ (v:=.int .i64 ((i46+1:Nat):Int)) ?_
     refine ab ?_
     intro w hw
     obtain⟨row_67,hrow_67,hob_67⟩:∃rw:Rowb,rw=([[(gp_,.cells #[.int .i64 o42.id,.slice A1_53 o42.own.length c1_53,.bool o42.begun,.slice A3_53 o42.vec.length c3_53,.slice A64 (o42.paths++[[(gt z29 i46)]]).length c65,.slice A5_53 o42.in_.length c5_53] ep_ (0,0))],r3_53,row63]:List Rowb).flatten∧Ofirthref19_Pull.ob ep_ Γ56 gp_ rw (⟨o42.id,o42.own,o42.begun,o42.vec,(o42.paths++[[(gt z29 i46)]]),o42.in_⟩:Ofirthref19_Pull):=⟨_,rfl,A1_53,c1_53,A3_53,c3_53,r3_53,A64,c65,row63,A5_53,c5_53,rfl,ho0_53,ho1_53,(ho2_53.mono hl57),(ho3_53.mono hl57),ho66,ho5_53,(ho6_53.mono hl57),trivial⟩
     have hw:=hw.fold (is:=[2,2,2]) rfl hrow_67
     exact⟨hl51,(⟨o42.id,o42.own,o42.begun,o42.vec,(o42.paths++[[(gt z29 i46)]]),o42.in_⟩:Ofirthref19_Pull),h,Γ56,row_67,(sl_ (by kernel_rfl)),(hw.only (is:=[0,2]) rfl),(hl41.trans hl57),hob_67,trivial⟩
    ·
     refine⟨_,rfl,?_⟩
     refine vb (q_ldo (c:=0) (v:=.int .i64 (gt z29 i46)) (i:=1) rfl ((hr38.mono hl41).intT_at hl51).2 rfl Tryz.isAgg3 rfl rfl) ?_
     refine ab ?_
     refine WH.next (bk_ (Gh.refl _) h052 (.cons _ (.cons _ .slnil))) ?_
     refine WH.each (l:=[4,9]) (by kernel_rfl) (by simp) ?_
     intro i hi; simp only [List.mem_cons,List.not_mem_nil,or_false] at hi
     rcases hi with rfl | rfl
     ·
      refine⟨_,rfl,?_⟩
      have hq:=ho44
      obtain⟨A1_53,c1_53,A3_53,c3_53,r3_53,A4_53,c4_53,r4_53,A5_53,c5_53,hrow_53,ho0_53,ho1_53,ho2_53,ho3_53,ho4_53,ho5_53,ho6_53,-⟩:=hq
      intro w hw; have hw:=hw.unfold (i:=0) rfl hrow_53
      refine ao (C:=CC F Γ40 [[(gp_,.cells #[.int .i64 o42.id,.slice A1_53 o42.own.length c1_53,.bool o42.begun,.slice A3_53 o42.vec.length c3_53,.slice A4_53 o42.paths.length c4_53,.slice A5_53 o42.in_.length c5_53] ep_ (0,0))],r3_53,r4_53,row37]) ?_ hw
      clear hw
      refine vb (q_ldl (i:=0) (v:=.slice A4_53 o42.paths.length c4_53) rfl rfl Tryz.isAgg57 rfl rfl) ?_
      refine ab ?_
      refine WH.next (bk_ (Gh.refl _) h052 (.cons _ (.cons _ (.cons _ (.cons _ .slnil))))) ?_
      refine ai (i:=9) (by kernel_rfl) rfl ?_
      refine e_buildSlice (cs:=#[.int .i64 (gt z29 i46)]) (e:=3) rfl rfl rfl rfl (λw=>by kernel_rfl) ?_
      intro g54
      refine ab ?_
      refine WH.next (bk_ (Gh.refl _) h052 (.cons _ (.cons _ (.cons _ (.cons _ (.cons _ .slnil)))))) ?_
      refine ai (i:=10) (by kernel_rfl) rfl ?_
      have ho55:Own intT Γ40 3 [(g54,.cells #[.int .i64 (gt z29 i46)] 3 (0,0))] (some ⟨g54,0,none⟩) 1 [(gt z29 i46)]:=aq (T:=intT) (ys:=[(gt z29 i46)]) [[.int .i64 (gt z29 i46)]] rfl (show 1≤lim by decide) (show Ty.rd intT Γ40 [.int .i64 (gt z29 i46)] (gt z29 i46)∧True from ⟨⟨rfl,((hr38.mono hl41).intT_at hl51).1⟩,trivial⟩)
      have hc60:=ho55.capz
      intro w hw; obtain⟨Γ56,hw,hl57,hr58⟩:=hw.seal (i:=0) rfl; have hs59:=ho55.sl hl57 hr58
      refine ao (C:=CC F Γ56 [[],[(gp_,.cells #[.int .i64 o42.id,.slice A1_53 o42.own.length c1_53,.bool o42.begun,.slice A3_53 o42.vec.length c3_53,.slice A4_53 o42.paths.length c4_53,.slice A5_53 o42.in_.length c5_53] ep_ (0,0))],r3_53,r4_53,row37]) ?_ hw
      clear hw
      refine e_buildSlice (cs:=#[.slice (some ⟨g54,0,none⟩) [(gt z29 i46)].length 1]) (e:=24) rfl rfl rfl rfl (λw=>by kernel_rfl) ?_
      intro g61
      refine ab ?_
      refine WH.next (bk_ hl57 h052 (.cons _ (.cons _ (.cons _ (.cons _ (.cons _ (.cons _ .slnil))))))) ?_
      refine ai (i:=11) (by kernel_rfl) rfl ?_
      obtain⟨hk62,h⟩:=chk_some h
      refine e_append (T:=(slT intT)) (xs:=o42.paths) (ys:=[[(gt z29 i46)]]) elem_57 (i:=4) rfl rfl rfl rfl rfl rfl rfl (ho4_53.mono hl57) (of_decide_eq_true hk62) (λw hw=>src_one (T:=(slT intT)) (y:=[(gt z29 i46)]) (i:=0) rfl (by exact⟨(some ⟨g54,0,none⟩),1,rfl,hc60,hs59⟩) hw) ?_
      intro row63 A64 c65 ho66
      refine ab ?_
      refine WH.next (bk_ hl57 h052 (.cons _ (.cons _ (.cons _ (.cons _ (.cons _ (.cons _ .slnil))))))) ?_
      refine hu 12 rfl (bk_ hl57 h052 (.cons _ (.cons _ (.cons _ (.cons _ (.cons _ (.cons _ .slnil))))))) (q_nil (A:=some ⟨gp_,0,none⟩) rfl rfl rfl) ?_
      refine hu 13 rfl (bk_ hl57 h052 (.cons _ (.cons _ (.cons _ (.cons _ (.cons _ (.cons _ .slnil))))))) (q_fl 4 fld_59_4 rfl rfl rfl) ?_
      refine ai (i:=14) (by kernel_rfl) rfl ?_
      refine e_st (i:=2) (v:=.slice A64 (o42.paths++[[(gt z29 i46)]]).length c65) (new:=#[.int .i64 o42.id,.slice A1_53 o42.own.length c1_53,.bool o42.begun,.slice A3_53 o42.vec.length c3_53,.slice A64 (o42.paths++[[(gt z29 i46)]]).length c65,.slice A5_53 o42.in_.length c5_53]) rfl Tryz.sizeOf57 rfl rfl rfl rfl (by kernel_rfl) rfl rfl rfl rfl ?_
      refine ab ?_
      refine WH.next (bk_ hl57 h052 (.cons _ (.cons _ (.cons _ (.cons _ (.cons _ (.cons _ .slnil))))))) ?_
      refine au (by kernel_rfl) ?_
      change WC _ _ _ _ _ _
      refine ah ?_
      refine mv (v:=.int .i64 ((i46:Nat):Int)) ?_
      refine vb (q_add_r (r:=((i46+1:Nat):Int)) rfl rfl rfl (ctr_len hl51 (hr38.mono hl41).le)) ?_
      refine as_ (v:=.int .i64 ((i46+1:Nat):Int)) ?_
      refine ab ?_
      intro w hw
      obtain⟨row_67,hrow_67,hob_67⟩:∃rw:Rowb,rw=([[(gp_,.cells #[.int .i64 o42.id,.slice A1_53 o42.own.length c1_53,.bool o42.begun,.slice A3_53 o42.vec.length c3_53,.slice A64 (o42.paths++[[(gt z29 i46)]]).length c65,.slice A5_53 o42.in_.length c5_53] ep_ (0,0))],r3_53,row63]:List Rowb).flatten∧Ofirthref19_Pull.ob ep_ Γ56 gp_ rw (⟨o42.id,o42.own,o42.begun,o42.vec,(o42.paths++[[(gt z29 i46)]]),o42.in_⟩:Ofirthref19_Pull):=⟨_,rfl,A1_53,c1_53,A3_53,c3_53,r3_53,A64,c65,row63,A5_53,c5_53,rfl,ho0_53,ho1_53,(ho2_53.mono hl57),(ho3_53.mono hl57),ho66,ho5_53,(ho6_53.mono hl57),trivial⟩
      have hw:=hw.fold (is:=[2,2,2]) rfl hrow_67
      exact⟨hl51,(⟨o42.id,o42.own,o42.begun,o42.vec,(o42.paths++[[(gt z29 i46)]]),o42.in_⟩:Ofirthref19_Pull),h,Γ56,row_67,(sl_ (by kernel_rfl)),(hw.only (is:=[0,2]) rfl),(hl41.trans hl57),hob_67,trivial⟩
     ·
      refine⟨_,rfl,?_⟩
      refine e_buildSlice (cs:=#[.int .i64 (gt z29 i46)]) (e:=3) rfl rfl rfl rfl (λw=>by kernel_rfl) ?_
      intro g53
      refine ab ?_
      refine WH.next (bk_ (Gh.refl _) h052 (.cons _ (.cons _ (.cons _ .slnil)))) ?_
      refine WH.each (l:=[4,10]) (by kernel_rfl) (by simp) ?_
      intro i hi; simp only [List.mem_cons,List.not_mem_nil,or_false] at hi
      rcases hi with rfl | rfl
      ·
       refine⟨_,rfl,?_⟩
       have hq:=ho44
       obtain⟨A1_54,c1_54,A3_54,c3_54,r3_54,A4_54,c4_54,r4_54,A5_54,c5_54,hrow_54,ho0_54,ho1_54,ho2_54,ho3_54,ho4_54,ho5_54,ho6_54,-⟩:=hq
       intro w hw; have hw:=hw.unfold (i:=1) rfl hrow_54
       refine ao (C:=CC F Γ40 [[(gp_,.cells #[.int .i64 o42.id,.slice A1_54 o42.own.length c1_54,.bool o42.begun,.slice A3_54 o42.vec.length c3_54,.slice A4_54 o42.paths.length c4_54,.slice A5_54 o42.in_.length c5_54] ep_ (0,0))],r3_54,r4_54,[(g53,.cells #[.int .i64 (gt z29 i46)] 3 (0,0))],row37]) ?_ hw
       clear hw
       refine vb (q_ldl (i:=0) (v:=.slice A4_54 o42.paths.length c4_54) rfl rfl Tryz.isAgg57 rfl rfl) ?_
       refine ab ?_
       refine WH.next (bk_ (Gh.refl _) h052 (.cons _ (.cons _ (.cons _ (.cons _ (.cons _ .slnil)))))) ?_
       refine ai (i:=10) (by kernel_rfl) rfl ?_
       have ho55:Own intT Γ40 3 [(g53,.cells #[.int .i64 (gt z29 i46)] 3 (0,0))] (some ⟨g53,0,none⟩) 1 [(gt z29 i46)]:=aq (T:=intT) (ys:=[(gt z29 i46)]) [[.int .i64 (gt z29 i46)]] rfl (show 1≤lim by decide) (show Ty.rd intT Γ40 [.int .i64 (gt z29 i46)] (gt z29 i46)∧True from ⟨⟨rfl,((hr38.mono hl41).intT_at hl51).1⟩,trivial⟩)
       have hc60:=ho55.capz
       intro w hw; obtain⟨Γ56,hw,hl57,hr58⟩:=hw.seal (i:=3) rfl; have hs59:=ho55.sl hl57 hr58
       refine ao (C:=CC F Γ56 [[(gp_,.cells #[.int .i64 o42.id,.slice A1_54 o42.own.length c1_54,.bool o42.begun,.slice A3_54 o42.vec.length c3_54,.slice A4_54 o42.paths.length c4_54,.slice A5_54 o42.in_.length c5_54] ep_ (0,0))],r3_54,r4_54,[],row37]) ?_ hw
       clear hw
       refine e_buildSlice (cs:=#[.slice (some ⟨g53,0,none⟩) [(gt z29 i46)].length 1]) (e:=24) rfl rfl rfl rfl (λw=>by kernel_rfl) ?_
       intro g61
       refine ab ?_
       refine WH.next (bk_ hl57 h052 (.cons _ (.cons _ (.cons _ (.cons _ (.cons _ (.cons _ .slnil))))))) ?_
       refine ai (i:=11) (by kernel_rfl) rfl ?_
       obtain⟨hk62,h⟩:=chk_some h
       refine e_append (T:=(slT intT)) (xs:=o42.paths) (ys:=[[(gt z29 i46)]]) elem_57 (i:=3) rfl rfl rfl rfl rfl rfl rfl (ho4_54.mono hl57) (of_decide_eq_true hk62) (λw hw=>src_one (T:=(slT intT)) (y:=[(gt z29 i46)]) (i:=0) rfl (by exact⟨(some ⟨g53,0,none⟩),1,rfl,hc60,hs59⟩) hw) ?_
       intro row63 A64 c65 ho66
       refine ab ?_
       refine WH.next (bk_ hl57 h052 (.cons _ (.cons _ (.cons _ (.cons _ (.cons _ (.cons _ .slnil))))))) ?_
       refine hu 12 rfl (bk_ hl57 h052 (.cons _ (.cons _ (.cons _ (.cons _ (.cons _ (.cons _ .slnil))))))) (q_nil (A:=some ⟨gp_,0,none⟩) rfl rfl rfl) ?_
       refine hu 13 rfl (bk_ hl57 h052 (.cons _ (.cons _ (.cons _ (.cons _ (.cons _ (.cons _ .slnil))))))) (q_fl 4 fld_59_4 rfl rfl rfl) ?_
       refine ai (i:=14) (by kernel_rfl) rfl ?_
       refine e_st (i:=1) (v:=.slice A64 (o42.paths++[[(gt z29 i46)]]).length c65) (new:=#[.int .i64 o42.id,.slice A1_54 o42.own.length c1_54,.bool o42.begun,.slice A3_54 o42.vec.length c3_54,.slice A64 (o42.paths++[[(gt z29 i46)]]).length c65,.slice A5_54 o42.in_.length c5_54]) rfl Tryz.sizeOf57 rfl rfl rfl rfl (by kernel_rfl) rfl rfl rfl rfl ?_
       refine ab ?_
       refine WH.next (bk_ hl57 h052 (.cons _ (.cons _ (.cons _ (.cons _ (.cons _ (.cons _ .slnil))))))) ?_
       refine au (by kernel_rfl) ?_
       change WC _ _ _ _ _ _
       refine ah ?_
       refine mv (v:=.int .i64 ((i46:Nat):Int)) ?_
       refine vb (q_add_r (r:=((i46+1:Nat):Int)) rfl rfl rfl (ctr_len hl51 (hr38.mono hl41).le)) ?_
       refine as_ (v:=.int .i64 ((i46+1:Nat):Int)) ?_
       refine ab ?_
       intro w hw
       obtain⟨row_67,hrow_67,hob_67⟩:∃rw:Rowb,rw=([[(gp_,.cells #[.int .i64 o42.id,.slice A1_54 o42.own.length c1_54,.bool o42.begun,.slice A3_54 o42.vec.length c3_54,.slice A64 (o42.paths++[[(gt z29 i46)]]).length c65,.slice A5_54 o42.in_.length c5_54] ep_ (0,0))],r3_54,row63]:List Rowb).flatten∧Ofirthref19_Pull.ob ep_ Γ56 gp_ rw (⟨o42.id,o42.own,o42.begun,o42.vec,(o42.paths++[[(gt z29 i46)]]),o42.in_⟩:Ofirthref19_Pull):=⟨_,rfl,A1_54,c1_54,A3_54,c3_54,r3_54,A64,c65,row63,A5_54,c5_54,rfl,ho0_54,ho1_54,(ho2_54.mono hl57),(ho3_54.mono hl57),ho66,ho5_54,(ho6_54.mono hl57),trivial⟩
       have hw:=hw.fold (is:=[1,1,1]) rfl hrow_67
       exact⟨hl51,(⟨o42.id,o42.own,o42.begun,o42.vec,(o42.paths++[[(gt z29 i46)]]),o42.in_⟩:Ofirthref19_Pull),h,Γ56,row_67,(sl_ (by kernel_rfl)),(hw.only (is:=[0,2]) rfl),(hl41.trans hl57),hob_67,trivial⟩
      ·
       refine⟨_,rfl,?_⟩
       have ho54:Own intT Γ40 3 [(g53,.cells #[.int .i64 (gt z29 i46)] 3 (0,0))] (some ⟨g53,0,none⟩) 1 [(gt z29 i46)]:=aq (T:=intT) (ys:=[(gt z29 i46)]) [[.int .i64 (gt z29 i46)]] rfl (show 1≤lim by decide) (show Ty.rd intT Γ40 [.int .i64 (gt z29 i46)] (gt z29 i46)∧True from ⟨⟨rfl,((hr38.mono hl41).intT_at hl51).1⟩,trivial⟩)
       have hc59:=ho54.capz
       intro w hw; obtain⟨Γ55,hw,hl56,hr57⟩:=hw.seal (i:=0) rfl; have hs58:=ho54.sl hl56 hr57
       refine ao (C:=CC F Γ55 [[],row43,row37]) ?_ hw
       clear hw
       refine e_buildSlice (cs:=#[.slice (some ⟨g53,0,none⟩) [(gt z29 i46)].length 1]) (e:=24) rfl rfl rfl rfl (λw=>by kernel_rfl) ?_
       intro g60
       refine ab ?_
       refine WH.next (bk_ hl56 h052 (.cons _ (.cons _ (.cons _ (.cons _ .slnil))))) ?_
       refine ai (i:=4) (by kernel_rfl) rfl ?_
       have hq:=(ho44.mono hl56)
       obtain⟨A1_61,c1_61,A3_61,c3_61,r3_61,A4_61,c4_61,r4_61,A5_61,c5_61,hrow_61,ho0_61,ho1_61,ho2_61,ho3_61,ho4_61,ho5_61,ho6_61,-⟩:=hq
       intro w hw; have hw:=hw.unfold (i:=2) rfl hrow_61
       refine ao (C:=CC F Γ55 [[(gp_,.cells #[.int .i64 o42.id,.slice A1_61 o42.own.length c1_61,.bool o42.begun,.slice A3_61 o42.vec.length c3_61,.slice A4_61 o42.paths.length c4_61,.slice A5_61 o42.in_.length c5_61] ep_ (0,0))],r3_61,r4_61,[(g60,.cells #[.slice (some ⟨g53,0,none⟩) [(gt z29 i46)].length 1] 24 (0,0))],[],row37]) ?_ hw
       clear hw
       refine vb (q_ldl (i:=0) (v:=.slice A4_61 o42.paths.length c4_61) rfl rfl Tryz.isAgg57 rfl rfl) ?_
       refine ab ?_
       refine WH.next (bk_ hl56 h052 (.cons _ (.cons _ (.cons _ (.cons _ (.cons _ (.cons _ .slnil))))))) ?_
       refine ai (i:=11) (by kernel_rfl) rfl ?_
       obtain⟨hk62,h⟩:=chk_some h
       refine e_append (T:=(slT intT)) (xs:=o42.paths) (ys:=[[(gt z29 i46)]]) elem_57 (i:=2) rfl rfl rfl rfl rfl rfl rfl ho4_61 (of_decide_eq_true hk62) (λw hw=>src_one (T:=(slT intT)) (y:=[(gt z29 i46)]) (i:=3) rfl (by exact⟨(some ⟨g53,0,none⟩),1,rfl,hc59,hs58⟩) hw) ?_
       intro row63 A64 c65 ho66
       refine ab ?_
       refine WH.next (bk_ hl56 h052 (.cons _ (.cons _ (.cons _ (.cons _ (.cons _ (.cons _ .slnil))))))) ?_
       refine hu 12 rfl (bk_ hl56 h052 (.cons _ (.cons _ (.cons _ (.cons _ (.cons _ (.cons _ .slnil))))))) (q_nil (A:=some ⟨gp_,0,none⟩) rfl rfl rfl) ?_
       refine hu 13 rfl (bk_ hl56 h052 (.cons _ (.cons _ (.cons _ (.cons _ (.cons _ (.cons _ .slnil))))))) (q_fl 4 fld_59_4 rfl rfl rfl) ?_
       refine ai (i:=14) (by kernel_rfl) rfl ?_
       refine e_st (i:=0) (v:=.slice A64 (o42.paths++[[(gt z29 i46)]]).length c65) (new:=#[.int .i64 o42.id,.slice A1_61 o42.own.length c1_61,.bool o42.begun,.slice A3_61 o42.vec.length c3_61,.slice A64 (o42.paths++[[(gt z29 i46)]]).length c65,.slice A5_61 o42.in_.length c5_61]) rfl Tryz.sizeOf57 rfl rfl rfl rfl (by kernel_rfl) rfl rfl rfl rfl ?_
       refine ab ?_
       refine WH.next (bk_ hl56 h052 (.cons _ (.cons _ (.cons _ (.cons _ (.cons _ (.cons _ .slnil))))))) ?_
       refine au (by kernel_rfl) ?_
       change WC _ _ _ _ _ _
       refine ah ?_
       refine mv (v:=.int .i64 ((i46:Nat):Int)) ?_
       refine vb (q_add_r (r:=((i46+1:Nat):Int)) rfl rfl rfl (ctr_len hl51 (hr38.mono hl41).le)) ?_
       refine as_ (v:=.int .i64 ((i46+1:Nat):Int)) ?_
       refine ab ?_
       intro w hw
       obtain⟨row_67,hrow_67,hob_67⟩:∃rw:Rowb,rw=([[(gp_,.cells #[.int .i64 o42.id,.slice A1_61 o42.own.length c1_61,.bool o42.begun,.slice A3_61 o42.vec.length c3_61,.slice A64 (o42.paths++[[(gt z29 i46)]]).length c65,.slice A5_61 o42.in_.length c5_61] ep_ (0,0))],r3_61,row63]:List Rowb).flatten∧Ofirthref19_Pull.ob ep_ Γ55 gp_ rw (⟨o42.id,o42.own,o42.begun,o42.vec,(o42.paths++[[(gt z29 i46)]]),o42.in_⟩:Ofirthref19_Pull):=⟨_,rfl,A1_61,c1_61,A3_61,c3_61,r3_61,A64,c65,row63,A5_61,c5_61,rfl,ho0_61,ho1_61,ho2_61,ho3_61,ho66,ho5_61,ho6_61,trivial⟩
       have hw:=hw.fold (is:=[0,0,0]) rfl hrow_67
       exact⟨hl51,(⟨o42.id,o42.own,o42.begun,o42.vec,(o42.paths++[[(gt z29 i46)]]),o42.in_⟩:Ofirthref19_Pull),h,Γ55,row_67,(sl_ (by kernel_rfl)),(hw.only (is:=[0,2]) rfl),(hl41.trans hl56),hob_67,trivial⟩
  ·
   have h:=hge49 (ige hb50)
   refine am ?_
   change WC _ _ _ _ _ _
   refine a7 ?_
   refine as_ (v:=.bool true) ?_
   refine a6 ?_
   refine ac ?_
   intro w hw
   cases h
   subst hF
   exact end_e (is:=[0]) (by kernel_rfl) hw rfl ⟨row43,rfl,rfl,ho44,trivial⟩
end Fw
end Go.Proofs.YtiakfgdgafljnaaGreat
