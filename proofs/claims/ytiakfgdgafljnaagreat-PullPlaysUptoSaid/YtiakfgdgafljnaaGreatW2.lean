/- Walks through the functions that the law reaches (printed by a program). No condition. -/
import Derived.Test.YtiakfgdgafljnaaGreatW1
namespace Go.Proofs.YtiakfgdgafljnaaGreat
namespace Fw
set_option linter.unusedVariables false
set_option linter.unusedSimpArgs false
set_option linter.unusedSectionVars false
set_option maxRecDepth 100000
set_option maxHeartbeats 400000
open Go.RowKit
abbrev r_pull_NewPull(r:(Option Opull_Pull)×Int)(U:List Rowb)(Γ:Gh)(v:Value):Prop := ∃(g0:Nat), ∃(row0:Rowb),v = .tuple #[optp r.1 g0,.int .i64 r.2]∧U = [row0]∧optob (Opull_Pull.ob 97 Γ g0) row0 r.1∧I64 r.2∧True
theorem t_pull_NewPull{Γ:Gh}{w0:World}(id:Int)(hid:I64 id){Aown:Option Addr}{cown:Nat}{own:List Rec}(hown:Sl recT Γ Aown own)(hownc:own.length≤cown)(hp:Pre [] Γ w0){r:(Option Opull_Pull)×Int}(h:m_pull_NewPull id own=some r):Calls Tryz.prog 22 #[.int .i64 id,.slice Aown own.length cown] w0 (Outc Γ [] w0 (r_pull_NewPull r)):=by
 refine calls_of (N:=27) (rs:=[4,5]) (args:=[.int .i64 id,.slice Aown own.length cown]) Tryz.func22 rfl Tryz.ntmps22 Tryz.results22 rfl ?_
 obtain⟨F,hF⟩:∃F:Fm,F=⟨ids [],w0,Γ⟩:=⟨_,rfl⟩
 refine aa (C:=CC F Γ []) ?_ (hF▸hp.start)
 refine a7 ?_
 refine as_ (v:=.pointer none) ?_
 refine as_ (v:=.int .i64 0) ?_
 refine a6 ?_
 refine a7 ?_
 refine mv (v:=.slice Aown own.length cown) ?_
 obtain⟨z1,hz2,h⟩:=bnd h
 refine e_call (is:=[]) rfl rfl (call_run Tryz.call44 rfl rfl (by kernel_rfl)) rfl (λw hp=>t_tree_New hown hownc hp hz2) ?_
 rintro Γ3 U5 v6 hl4 ⟨g7,row8,rfl,rfl,hr9,hr10,_⟩
 change WR _ _ _ (CC F Γ3 [row8]) _ _ (upd _ 12 (.tuple #[optp z1.1 g7,.int .i64 z1.2]))
 refine mv (v:=.tuple #[optp z1.1 g7,.int .i64 z1.2]) ?_
 refine vb (q_extract (v:=optp z1.1 g7) rfl rfl rfl) ?_
 refine vb (q_extract (v:=.int .i64 z1.2) rfl rfl rfl) ?_
 refine as_ (v:=optp z1.1 g7) ?_
 refine as_ (v:=.int .i64 z1.2) ?_
 refine a6 ?_
 refine a8 ?_
 refine a7 ?_
 refine mv (v:=.int .i64 z1.2) ?_
 refine vb (q_neq rfl rfl rfl) ?_
 refine a6 ?_
 refine aj h (by kernel_rfl) (λhb11 h=>?_) (λhb11 h=>?_)
 ·
  refine a7 ?_
  refine mv (v:=.int .i64 z1.2) ?_
  refine as_ (v:=.pointer none) ?_
  refine as_ (v:=.int .i64 z1.2) ?_
  refine a6 ?_
  refine ac ?_
  intro w hw
  have hw:=hw.pad
  cases h
  subst hF
  exact end_e (is:=[0]) (by kernel_rfl) hw rfl ⟨0,[],rfl,rfl,rfl,hr10,trivial⟩
 ·
  refine ae ?_
  change WC _ _ _ _ _ _
  refine a7 ?_
  obtain⟨z12,hz13,h⟩:=bnd h
  refine e_call (is:=[]) rfl rfl (call_run Tryz.call44 rfl rfl (by kernel_rfl)) rfl (λw hp=>t_tree_New (Sl.nil recT _ none) (Nat.zero_le 0) hp hz13) ?_
  rintro Γ14 U16 v17 hl15 ⟨g18,row19,rfl,rfl,hr20,hr21,_⟩
  change WR _ _ _ (CC F Γ14 [row19,row8]) _ _ (upd _ 19 (.tuple #[optp z12.1 g18,.int .i64 z12.2]))
  refine mv (v:=.tuple #[optp z12.1 g18,.int .i64 z12.2]) ?_
  refine vb (q_extract (v:=optp z12.1 g18) rfl rfl rfl) ?_
  refine vb (q_extract (v:=.int .i64 z12.2) rfl rfl rfl) ?_
  refine as_ (v:=optp z12.1 g18) ?_
  refine as_ (v:=.int .i64 z12.2) ?_
  refine a6 ?_
  refine a7 ?_
  refine mv (v:=.int .i64 id) ?_
  refine mv (v:=optp z1.1 g7) ?_
  refine mv (v:=optp z12.1 g18) ?_
  obtain⟨z22,hz23,h⟩:=bnd h
  have ho24:=optob_some (optob_mono hr9 (λ_ h=>h.mono hl15)) hz23
  obtain⟨z25,hz26,h⟩:=bnd h
  have ho27:=optob_some hr20 hz26
  refine vb (q_build' (v:=.agg #[.int .i64 id,(pq g7),.bool false,.slice none 0 0,.slice none 0 0,(pq g18)]) rfl (bargs3 rfl (optp_some rfl hz23) (optp_some rfl hz26)) (λw=>by kernel_rfl)) ?_
  refine e_box (v:=.agg #[.int .i64 id,(pq g7),.bool false,.slice none 0 0,.slice none 0 0,(pq g18)]) rfl rfl rfl rfl (by kernel_rfl) ?_
  intro g28
  refine as_ (v:=(pq g28)) ?_
  refine as_ (v:=.int .i64 0) ?_
  refine a6 ?_
  refine ac ?_
  intro w hw
  have hw:=hw.pad
  obtain⟨row_29,hrow_29,hob_29⟩:∃rw:Rowb,rw=([[(g28,.cells #[.int .i64 id,(pq g7),.bool false,.slice none 0 0,.slice none 0 0,(pq g18)] 97 (0,0))],row8,[],row19]:List Rowb).flatten∧Opull_Pull.ob 97 Γ14 g28 rw (⟨id,z22,false,[],[],z25⟩:Opull_Pull):=⟨_,rfl,g7,row8,none,0,none,0,[],g18,row19,rfl,hid,ho24,(Nat.zero_le 0),(Sl.nil _ _ none),(Own.nil dpull_wayT Γ14 100),ho27,trivial⟩
  have hw:=hw.fold (is:=[1,2,0,0]) rfl hrow_29
  cases h
  subst hF
  exact end_e (is:=[0]) (by kernel_rfl) hw rfl ⟨g28,row_29,rfl,rfl,hob_29,(show I64 0 by decide),trivial⟩
theorem t_pull_Pull_Done{Γ:Gh}{w0:World}{gp_ ep_:Nat}{rowp_:Rowb}{p_:Opull_Pull}(hp_:Opull_Pull.ob ep_ Γ gp_ rowp_ p_)(hp_r:∀p∈rowp_,Γ p.1=some p.2)(hs:Sat Γ w0){r:Bool}(h:m_pull_Pull_Done p_=some r):Calls Tryz.prog 28 #[(pq gp_)] w0 (λe w'=>e = .returned (.bool r)∧Fr no w0 w'):=by
 refine calls_of (N:=15) (rs:=[2]) (args:=[(pq gp_)]) Tryz.func28 rfl Tryz.ntmps28 Tryz.results28 rfl ?_
 obtain⟨F,hF⟩:∃F:Fm,F=⟨no,w0,Γ⟩:=⟨_,rfl⟩
 refine aa (C:=CC F Γ []) ?_ (hF▸Cur.start0 hs)
 refine a7 ?_
 refine as_ (v:=.bool false) ?_
 refine a6 ?_
 refine a7 ?_
 refine mv (v:=(pq gp_)) ?_
 refine vb (q_nil (A:=some ⟨gp_,0,none⟩) rfl rfl rfl) ?_
 refine vb (q_fl 2 fld_97_2 rfl rfl rfl) ?_
 have hq:=hp_
 obtain⟨g1_1,r1_1,A3_1,c3_1,A4_1,c4_1,r4_1,g5_1,r5_1,hrow_1,ho0_1,ho1_1,ho2_1,ho3_1,ho4_1,ho5_1,-⟩:=hq
 have hg_2:∀u∈([[(gp_,.cells #[.int .i64 p_.id,(pq g1_1),.bool p_.begun,.slice A3_1 p_.vec.length c3_1,.slice A4_1 p_.wants.length c4_1,(pq g5_1)] ep_ (0,0))],r1_1,r4_1,r5_1]:List Rowb), ∀p∈u,Γ p.1=some p.2:=λu hu p hp=>(λp hp=>(hp_r p hp)) p (hrow_1▸List.mem_flatten.2 ⟨u,hu,hp⟩)
 have hgc3:=hg_2 _ (List.mem_cons_self ..) (gp_,_) (List.mem_singleton.2 rfl)
 have hgs4:=hg_2 r1_1 (by simp)
 have hgs5:=hg_2 r4_1 (by simp)
 have hgs6:=hg_2 r5_1 (by simp)
 have hs7:=ho4_1.sl (Gh.refl _) hgs5
 refine vb (q_ldg (v:=.bool p_.begun) hgc3 rfl Tryz.isAgg4 rfl rfl) ?_
 refine mv (v:=.bool p_.begun) ?_
 refine vg1 rfl rfl rfl rfl rfl (λhg8=>QV.qo (q_move (v:=(pq gp_)) rfl (by kernel_rfl))) ?_
 refine vg1 rfl rfl rfl rfl rfl (λhg9=>QV.qo (q_nil (A:=some ⟨gp_,0,none⟩) rfl (gu hg9 rfl) rfl)) ?_
 refine vg1 rfl rfl rfl rfl rfl (λhg10=>QV.qo (q_fl 4 fld_97_4 rfl (gu hg10 rfl) rfl)) ?_
 refine vg1 rfl rfl rfl rfl rfl (λhg11=>QV.qo (q_ldg (v:=.slice A4_1 p_.wants.length c4_1) hgc3 rfl Tryz.isAgg95 (gu hg11 rfl) rfl)) ?_
 refine vg1 rfl rfl rfl rfl rfl (λhg12=>QV.qo (q_len_slice rfl Tryz.underlying95 (gu hg12 rfl))) ?_
 refine vg1 rfl rfl rfl rfl rfl (λhg13=>QV.qo (q_eql rfl (gu hg13 rfl) rfl)) ?_
 refine vb (q_pick rfl rfl (pk_and' (g:=p_.begun) (y:=(((p_.wants.length:Nat):Int)==0)))) ?_
 refine as_ (v:=.bool (p_.begun&&(((p_.wants.length:Nat):Int)==0))) ?_
 refine a6 ?_
 refine ac ?_
 intro w hw
 cases h
 subst hF
 exact⟨by kernel_rfl,hw.fr⟩
abbrev r_pull_Cut_Vec(gc_:Nat)(ec_:Nat)(rowc_:Rowb)(r:List Int)(U:List Rowb)(Γ:Gh)(v:Value):Prop := ∃(A0:Option Addr), ∃(c0:Nat), ∃(row0:Rowb),v = .slice A0 r.length c0∧U = [rowc_,row0]∧Own intT Γ 2 row0 A0 c0 r∧True
theorem t_pull_Cut_Vec{Γ:Gh}{w0:World}{gc_ ec_:Nat}{rowc_:Rowb}{c_:Opull_Cut}(hc_:Opull_Cut.ob ec_ Γ gc_ rowc_ c_)(hp:Pre [rowc_] Γ w0){r:List Int}(h:m_pull_Cut_Vec c_=some r):Calls Tryz.prog 18 #[(pq gc_)] w0 (Outc Γ [rowc_] w0 (r_pull_Cut_Vec gc_ ec_ rowc_ r)):=by
 refine calls_of (N:=8) (rs:=[2]) (args:=[(pq gc_)]) Tryz.func18 rfl Tryz.ntmps18 Tryz.results18 rfl ?_
 obtain⟨F,hF⟩:∃F:Fm,F=⟨ids [rowc_],w0,Γ⟩:=⟨_,rfl⟩
 refine aa (C:=CC F Γ [rowc_]) ?_ (hF▸hp.start)
 refine a7 ?_
 refine as_ (v:=.slice none 0 0) ?_
 refine a6 ?_
 refine a7 ?_
 refine mv (v:=(pq gc_)) ?_
 refine vb (q_nil (A:=some ⟨gc_,0,none⟩) rfl rfl rfl) ?_
 refine vb (q_fl 1 fld_85_1 rfl rfl rfl) ?_
 have hq:=hc_
 obtain⟨A1_1,c1_1,g2_1,r2_1,hrow_1,ho0_1,ho1_1,ho2_1,ho3_1,-⟩:=hq
 intro w hw; have hw:=hw.unfold (i:=0) rfl hrow_1
 refine ao (C:=CC F Γ [[(gc_,.cells #[.int .i64 c_.id,.slice A1_1 c_.vec.length c1_1,(pq g2_1)] ec_ (0,0))],r2_1]) ?_ hw
 clear hw
 refine vb (q_ldl (i:=0) (v:=.slice A1_1 c_.vec.length c1_1) rfl rfl Tryz.isAgg22 rfl rfl) ?_
 obtain⟨z2,hz3,h⟩:=bnd h
 refine e_call (is:=[]) rfl rfl (call_run Tryz.call46 rfl rfl (by kernel_rfl)) rfl (λw hp=>t_slices_Clone_int64_int64 ho2_1 ho1_1 hp hz3) ?_
 rintro Γ4 U6 v7 hl5 ⟨A8,c9,row10,rfl,rfl,hr11,_⟩
 change WR _ _ _ (CC F Γ4 [row10,[(gc_,.cells #[.int .i64 c_.id,.slice A1_1 c_.vec.length c1_1,(pq g2_1)] ec_ (0,0))],r2_1]) _ _ (upd _ 7 (.slice A8 z2.length c9))
 refine as_ (v:=.slice A8 z2.length c9) ?_
 refine a6 ?_
 refine ac ?_
 intro w hw
 have hw:=hw.fold (is:=[1,1]) rfl hrow_1
 cases h
 subst hF
 exact end_e (is:=[0,0]) (by kernel_rfl) hw rfl ⟨A8,c9,row10,rfl,rfl,hr11,trivial⟩
theorem t_tree_at{Γ:Gh}{w0:World}{Apath:Option Addr}{cpath:Nat}{path:List Int}(hpath:Sl intT Γ Apath path)(hpathc:path.length≤cpath)(hs:Sat Γ w0){r:(Int×Int×Int)×Bool}(h:m_tree_at path=some r):Calls Tryz.prog 74 #[.slice Apath path.length cpath] w0 (λe w'=>e = .returned (.tuple #[.agg #[.int .i64 r.1.1,.int .i64 r.1.2.1,.int .i64 r.1.2.2],.bool r.2])∧Fr no w0 w'):=by
 refine calls_of_r (N:=34) (rs:=[.cell 2 125,.tmp 3]) (args:=[.slice Apath path.length cpath]) Tryz.func74 rfl Tryz.ntmps74 Tryz.results74 rfl ?_
 obtain⟨F,hF⟩:∃F:Fm,F=⟨no,w0,Γ⟩:=⟨_,rfl⟩
 refine aa (C:=CC F Γ []) ?_ (hF▸Cur.start0 hs)
 refine a7 ?_
 refine e_alloc Tryz.zeroValue125 rfl rfl rfl rfl ?_
 intro g1
 refine as_ (v:=.bool false) ?_
 refine a6 ?_
 refine a7 ?_
 refine mv (v:=.slice Apath path.length cpath) ?_
 refine vb (q_len_slice rfl Tryz.underlying24 rfl) ?_
 refine vb (q_build' (v:=.agg #[.int .i64 ((path.length:Nat):Int),.int .i64 0,.int .i64 0]) rfl (bargs1 rfl) (λw=>by kernel_rfl)) ?_
 refine e_alloc Tryz.zeroValue125 rfl rfl rfl rfl ?_
 intro g2
 refine e_st (i:=0) (v:=.agg #[.int .i64 ((path.length:Nat):Int),.int .i64 0,.int .i64 0]) (new:=#[.int .i64 ((path.length:Nat):Int),.int .i64 0,.int .i64 0]) rfl Tryz.sizeOf125 rfl rfl rfl rfl (by kernel_rfl) rfl rfl rfl rfl ?_
 refine a6 ?_
 refine a8 ?_
 refine a7 ?_
 refine mv (v:=.slice Apath path.length cpath) ?_
 refine vb (q_len_slice rfl Tryz.underlying24 rfl) ?_
 refine mv (v:=.int .i64 0) ?_
 refine a6 ?_
 refine af ?_
 have ho3:Own intT Γ 125 [(g2,.cells #[.int .i64 ((path.length:Nat):Int),.int .i64 0,.int .i64 0] 125 (0,0))] (some ⟨g2,0,none⟩) 3 [((path.length:Nat):Int),0,0]:=aq (T:=intT) (ys:=[((path.length:Nat):Int),0,0]) [[.int .i64 ((path.length:Nat):Int)],[.int .i64 0],[.int .i64 0]] rfl (show 3≤lim by decide) (show Ty.rd intT Γ [.int .i64 ((path.length:Nat):Int)] ((path.length:Nat):Int)∧Ty.rd intT Γ [.int .i64 0] 0∧Ty.rd intT Γ [.int .i64 0] 0∧True from ⟨⟨rfl,(len_r hpath.le)⟩,⟨rfl,(show I64 0 by decide)⟩,⟨rfl,(show I64 0 by decide)⟩,trivial⟩)
 refine ap h (λ(i9:Nat) (x4:List Int) σ w => ∃(row5:Rowb),slots σ [(2,(pq g1)),(4,(pq g2)),(10,.slice Apath path.length cpath),(11,.int .i64 ((path.length:Nat):Int)),(12,.int .i64 ((i9:Nat):Int))]∧CC F Γ [row5,[(g1,.cells #[.int .i64 0,.int .i64 0,.int .i64 0] 125 (0,0))]] w∧x4.length=3∧Own intT Γ 125 row5 (some ⟨g2,0,none⟩) 3 x4∧True) ?_ ?_
 ·
  intro w hw
  exact⟨[(g2,.cells #[.int .i64 ((path.length:Nat):Int),.int .i64 0,.int .i64 0] 125 (0,0))],(sl_ (by kernel_rfl)),hw,rfl,ho3,trivial⟩
 rintro f8 i9 x4 σ w hi10 hlt11 hge12 ⟨row5,hsl,hw,hn7,ho6,-⟩
 refine Wpt.slots hsl ?_
 refine aa (C:=CC F Γ [row5,[(g1,.cells #[.int .i64 0,.int .i64 0,.int .i64 0] 125 (0,0))]]) ?_ hw
 clear hw hsl
 refine a7 ?_
 refine vb (q_lss rfl rfl rfl) ?_
 refine a6 ?_
 refine a8 ?_
 refine WC.cond (b:=(decide (((i9:Nat):Int)<((path.length:Nat):Int)))) (by kernel_rfl) (λhb13=>?_) (λhb13=>?_)
 ·
  have hl14:=ilt hb13
  have h:=hlt11 hl14
  refine ae ?_
  change WC _ _ _ _ _ _
  refine a8 ?_
  refine af ?_
  refine a7 ?_
  refine mv (v:=.int .i64 ((i9:Nat):Int)) ?_
  refine vb (q_ixn (i:=i9) Tryz.underlying24 Tryz.sizeOf3 rfl rfl rfl hl14 (hpath.some_ hl14)) ?_
  refine vb (q_ld (c:=0) (v:=.int .i64 (gt path i9)) (hpath.intT_at hl14).2 rfl Tryz.isAgg3 rfl rfl) ?_
  refine as_ (v:=.int .i64 ((i9:Nat):Int)) ?_
  refine as_ (v:=.int .i64 (gt path i9)) ?_
  refine a6 ?_
  refine a8 ?_
  refine a7 ?_
  refine mv (v:=.int .i64 ((i9:Nat):Int)) ?_
  refine vb (q_gtr rfl rfl rfl) ?_
  refine mv (v:=.bool (decide (1<((i9:Nat):Int)))) ?_
  refine vg0 rfl rfl rfl rfl rfl (λhg15=>QV.qo (q_move (v:=.int .i64 (gt path i9)) rfl (by kernel_rfl))) ?_
  refine vg0 rfl rfl rfl rfl rfl (λhg16=>QV.qo (q_lss rfl (gu hg16 rfl) rfl)) ?_
  refine vb (q_pick rfl rfl (pk_or' (g:=(decide (1<((i9:Nat):Int)))) (y:=(decide ((gt path i9)<0))))) ?_
  refine mv (v:=.bool ((decide (1<((i9:Nat):Int)))||(decide ((gt path i9)<0)))) ?_
  refine vg0 rfl rfl rfl rfl rfl (λhg17=>QV.qo (q_move (v:=.int .i64 (gt path i9)) rfl (by kernel_rfl))) ?_
  refine vg0 rfl rfl rfl rfl rfl (λhg18=>QV.qo (q_gtr rfl (gu hg18 rfl) rfl)) ?_
  refine vb (q_pick rfl rfl (pk_or' (g:=((decide (1<((i9:Nat):Int)))||(decide ((gt path i9)<0)))) (y:=(decide (15<(gt path i9)))))) ?_
  refine a6 ?_
  refine aj h (by kernel_rfl) (λhb19 h=>?_) (λhb19 h=>?_)
  ·
   refine a7 ?_
   have hq20:=gts3 (xs:=x4) (hn7)
   refine vb (q_ldoa (i:=0) (c:=0) (vs:=[.int .i64 (gt x4 0),.int .i64 (gt x4 1),.int .i64 (gt x4 2)]) rfl (Own.all_ (k:=.i64) intT_cs rfl ho6) rfl Tryz.isAgg125 Tryz.sizeOf125 rfl (by rw [hq20]; rfl)) ?_
   refine e_st (i:=1) (v:=.agg #[.int .i64 (gt x4 0),.int .i64 (gt x4 1),.int .i64 (gt x4 2)]) (new:=#[.int .i64 (gt x4 0),.int .i64 (gt x4 1),.int .i64 (gt x4 2)]) rfl Tryz.sizeOf125 rfl rfl rfl rfl (by kernel_rfl) rfl rfl rfl rfl ?_
   refine as_ (v:=.bool false) ?_
   refine a6 ?_
   refine ac ?_
   intro w hw
   cases h
   subst hF
   exact⟨[.agg #[.int .i64 (gt x4 0),.int .i64 (gt x4 1),.int .i64 (gt x4 2)],.bool false],(rr_agg (i:=1) (us:=[.int .i64 (gt x4 0),.int .i64 (gt x4 1),.int .i64 (gt x4 2)]) hw rfl Tryz.isAgg125 Tryz.sizeOf125 (by kernel_rfl) rfl (rr_tmp (by kernel_rfl) rr_nil)),by kernel_rfl,hw.fr⟩
  ·
   refine ae ?_
   change WC _ _ _ _ _ _
   refine ah ?_
   refine mv (v:=.int .i64 ((i9:Nat):Int)) ?_
   refine vb (q_add_r (r:=((i9+1:Nat):Int)) rfl rfl rfl (ctr_len hl14 hpath.le)) ?_
   refine mv (v:=.int .i64 (gt path i9)) ?_
   obtain⟨hk21,h⟩:=chk_some h
   refine vb (q_ixan (i:=i9+1) Tryz.underlying125 Tryz.sizeOf3 rfl rfl rfl (of_decide_eq_true hk21)) ?_
   refine e_store_own (T:=intT) (q:=i9+1) (v:=.int .i64 (gt path i9)) (y:=(gt path i9)) rfl rfl rfl rfl (by kernel_rfl) Tryz.sizeOf3 (by exact⟨rfl,(hpath.intT_at hl14).1⟩) (i:=0) rfl ho6 (ltq (of_decide_eq_true hk21) hn7.symm) ?_
   intro row22 ho23
   refine ab ?_
   change WC _ _ _ _ _ _
   refine ah ?_
   refine vb (q_add_r (r:=((i9+1:Nat):Int)) rfl rfl rfl (ctr_len hl14 hpath.le)) ?_
   refine mv (v:=.int .i64 ((i9+1:Nat):Int)) ?_
   exact ab λw hw=>⟨hl14,(List.set x4 (i9+1) (gt path i9)),h,row22,(sl_ (by kernel_rfl)),hw,(List.length_set.trans hn7),ho23,trivial⟩
 ·
  have h:=hge12 (ige hb13)
  refine am ?_
  change WC _ _ _ _ _ _
  refine a7 ?_
  have hq24:=gts3 (xs:=x4) (hn7)
  refine vb (q_ldoa (i:=0) (c:=0) (vs:=[.int .i64 (gt x4 0),.int .i64 (gt x4 1),.int .i64 (gt x4 2)]) rfl (Own.all_ (k:=.i64) intT_cs rfl ho6) rfl Tryz.isAgg125 Tryz.sizeOf125 rfl (by rw [hq24]; rfl)) ?_
  refine e_st (i:=1) (v:=.agg #[.int .i64 (gt x4 0),.int .i64 (gt x4 1),.int .i64 (gt x4 2)]) (new:=#[.int .i64 (gt x4 0),.int .i64 (gt x4 1),.int .i64 (gt x4 2)]) rfl Tryz.sizeOf125 rfl rfl rfl rfl (by kernel_rfl) rfl rfl rfl rfl ?_
  refine as_ (v:=.bool true) ?_
  refine a6 ?_
  refine ac ?_
  intro w hw
  cases h
  subst hF
  exact⟨[.agg #[.int .i64 (gt x4 0),.int .i64 (gt x4 1),.int .i64 (gt x4 2)],.bool true],(rr_agg (i:=1) (us:=[.int .i64 (gt x4 0),.int .i64 (gt x4 1),.int .i64 (gt x4 2)]) hw rfl Tryz.isAgg125 Tryz.sizeOf125 (by kernel_rfl) rfl (rr_tmp (by kernel_rfl) rr_nil)),by kernel_rfl,hw.fr⟩
abbrev r_maps_Copy_map_string_api_Rec_map_string_api_Rec_string_api_Rec_nil(mdst:Nat)(rowdst:Rowb)(r:Unit)(U:List Rowb)(Γ:Gh)(v:Value):Prop:=v = .tuple #[]∧U = [rowdst]∧True
theorem t_maps_Copy_map_string_api_Rec_map_string_api_Rec_string_api_Rec_nil{Γ:Gh}{w0:World}{mdst:Nat}{rowdst:Rowb}{dst:List (ByteArray×Rec)}(hdst:MapO (strK Tryz.underlying9) recT.ag Γ rowdst mdst dst)(hp:Pre [rowdst] Γ w0){r:Unit}(h:m_maps_Copy_map_string_api_Rec_map_string_api_Rec_string_api_Rec_nil dst=some r):Calls Tryz.prog 76 #[.map (some mdst),.map none] w0 (Outc Γ [rowdst] w0 (r_maps_Copy_map_string_api_Rec_map_string_api_Rec_string_api_Rec_nil mdst rowdst r)):=by
 refine calls_of (N:=16) (rs:=[]) (args:=[.map (some mdst),.map none]) Tryz.func76 rfl Tryz.ntmps76 Tryz.results76 rfl ?_
 obtain⟨F,hF⟩:∃F:Fm,F=⟨ids [rowdst],w0,Γ⟩:=⟨_,rfl⟩
 refine aa (C:=CC F Γ [rowdst]) ?_ (hF▸hp.start)
 refine a7 ?_
 refine mv (v:=.map none) ?_
 refine e_rangen rfl rfl rfl Tryz.underlying119 rfl ?_
 intro g1
 change WR _ _ _ (CC F Γ [[(g1,.mapIter none 0 #[] 0)],rowdst]) _ _ (upd _ 7 ((pq g1)))
 refine a6 ?_
 refine af ?_
 refine aA h (λ(s:Unit) σ w=>match s with | ()=>slots σ [(0,.map (some mdst)),(7,(pq g1))]∧CC F Γ [[(g1,.mapIter none 0 #[] 0)],rowdst] w∧True) ?_ ?_
 ·
  intro w hw
  exact⟨(sl_ (by kernel_rfl)),hw,trivial⟩
 rintro f2 ⟨⟩ σ w h ⟨hsl,hw,-⟩
 refine Wpt.slots hsl ?_
 refine aa (C:=CC F Γ [[(g1,.mapIter none 0 #[] 0)],rowdst]) ?_ hw
 clear hw hsl
 refine a7 ?_
 refine e_nextn (i:=0) rfl rfl rfl rfl rfl ?_
 change WR _ _ _ (CC F Γ [[(g1,.mapIter none 0 #[] 0)],rowdst]) _ _ (upd _ 8 (.tuple #[.bool false]))
 refine vb (q_extract (v:=.bool false) rfl rfl rfl) ?_
 refine a6 ?_
 refine a8 ?_
 refine WC.cfk (b:=false) (by kernel_rfl) rfl ?_
 refine am ?_
 intro w hw
 cases h
 subst hF
 exact end_e (is:=[1]) (by kernel_rfl) hw rfl ⟨rfl,rfl,trivial⟩
abbrev r_maps_Copy_map_string_api_Rec_map_string_api_Rec_string_api_Rec(mdst:Nat)(msrc:Nat)(rowsrc:Rowb)(r:List (ByteArray×Rec))(U:List Rowb)(Γ:Gh)(v:Value):Prop := ∃(rowdst':Rowb),v = .tuple #[]∧U = [rowdst',rowsrc]∧MapO (strK Tryz.underlying9) recT.ag Γ rowdst' mdst r∧True
theorem t_maps_Copy_map_string_api_Rec_map_string_api_Rec_string_api_Rec{Γ:Gh}{w0:World}{mdst:Nat}{rowdst:Rowb}{dst:List (ByteArray×Rec)}(hdst:MapO (strK Tryz.underlying9) recT.ag Γ rowdst mdst dst){msrc:Nat}{rowsrc:Rowb}{src:List (ByteArray×Rec)}(hsrc:MapO (strK Tryz.underlying9) recT.ag Γ rowsrc msrc src)(hp:Pre [rowdst,rowsrc] Γ w0){r:List (ByteArray×Rec)}(h:m_maps_Copy_map_string_api_Rec_map_string_api_Rec_string_api_Rec dst src=some r):Calls Tryz.prog 76 #[.map (some mdst),.map (some msrc)] w0 (Outc Γ [rowdst,rowsrc] w0 (r_maps_Copy_map_string_api_Rec_map_string_api_Rec_string_api_Rec mdst msrc rowsrc r)):=by
 refine calls_of (N:=16) (rs:=[]) (args:=[.map (some mdst),.map (some msrc)]) Tryz.func76 rfl Tryz.ntmps76 Tryz.results76 rfl ?_
 obtain⟨F,hF⟩:∃F:Fm,F=⟨ids [rowdst,rowsrc],w0,Γ⟩:=⟨_,rfl⟩
 refine aa (C:=CC F Γ [rowdst,rowsrc]) ?_ (hF▸hp.start)
 refine a7 ?_
 refine mv (v:=.map (some msrc)) ?_
 refine e_range hsrc (λw hw p hp=>hw.at_ (i:=1) rfl hp) rfl rfl rfl Tryz.underlying119 rfl ?_
 intro g1 row2 hi3
 change WR _ _ _ (CC F Γ [row2,rowdst,rowsrc]) _ _ (upd _ 7 ((pq g1)))
 refine a6 ?_
 refine af ?_
 refine WC.forEq h eqm_per (inv_put (λ_ _=>rfl)) hsrc.nodup (eqm_refl hdst.nodup) (λ(l4:List (ByteArray×Rec)) (m7:List (ByteArray×Rec)) σ w => ∃(row5:Rowb), ∃(row8:Rowb),slots σ [(0,.map (some mdst)),(7,(pq g1))]∧CC F Γ [row5,row8,rowsrc] w∧ItO (strK Tryz.underlying9) recT.ag Γ row5 g1 msrc rowsrc src l4∧MapO (strK Tryz.underlying9) recT.ag Γ row8 mdst m7∧True) ?_ ?_
 ·
  intro w hw
  exact⟨row2,rowdst,(sl_ (by kernel_rfl)),hw,hi3,hdst,trivial⟩
 rintro G15 l4 m7 σ w hstep10 hK11 ⟨row5,row8,hsl,hw,hi6,ho9,-⟩
 refine Wpt.slots hsl ?_
 refine aa (C:=CC F Γ [row5,row8,rowsrc]) ?_ hw
 clear hw hsl
 refine a7 ?_
 refine e_next (i:=0) rfl hsrc.ks hi6 (λw hw p hp=>hw.at_ (i:=2) rfl hp) rfl rfl rfl rfl (λhl16=>?_) (λen17 l18 v19 row20 hp21 hok22 hv23 hit24 he25=>?_)
 ·
  obtain⟨m26,hp27,h⟩:=hK11 hl16
  change WR _ _ _ (CC F Γ [row5,row8,rowsrc]) _ _ (upd _ 8 (.tuple #[.bool false]))
  refine vb (q_extract (v:=.bool false) rfl rfl rfl) ?_
  refine a6 ?_
  refine a8 ?_
  refine WC.cfk (b:=false) (by kernel_rfl) rfl ?_
  refine am ?_
  intro w hw
  cases h
  subst hF
  exact end_e (is:=[1,1]) (by kernel_rfl) hw rfl ⟨row8,rfl,rfl,(ho9.perm hp27.1),trivial⟩
 ·
  obtain⟨hlen12,s213,h,hgo14⟩:=hstep10 en17 l18 hp21
  obtain⟨cs28,hv23,A29,c30,rfl,hf31⟩:=hv23
  obtain rfl:v19=_:=hv23
  change WR _ _ _ (CC F Γ [row20,row8,rowsrc]) _ _ (upd _ 8 (.tuple #[.bool true,.string en17.1,.agg #[.string en17.2.key,.slice A29 en17.2.vers.length c30]]))
  refine vb (q_extract (v:=.bool true) rfl rfl rfl) ?_
  refine a6 ?_
  refine a8 ?_
  refine WC.ctk (b:=true) (by kernel_rfl) rfl ?_
  refine ae ?_
  change WC _ _ _ _ _ _
  refine af ?_
  refine a7 ?_
  refine vb (q_entry (kv:=.string en17.1) (v:=.agg #[.string en17.2.key,.slice A29 en17.2.vers.length c30]) (i:=0) rfl he25 (λw hw p hp=>hw.at_ (i:=2) rfl hp) rfl rfl) ?_
  refine vb (q_extract (v:=.string en17.1) rfl rfl rfl) ?_
  refine vb (q_extract (v:=.agg #[.string en17.2.key,.slice A29 en17.2.vers.length c30]) rfl rfl rfl) ?_
  refine e_alloc Tryz.zeroValue70 rfl rfl rfl rfl ?_
  intro g32
  refine as_ (v:=.string en17.1) ?_
  refine e_st (i:=0) (v:=.agg #[.string en17.2.key,.slice A29 en17.2.vers.length c30]) (new:=#[.string en17.2.key,.slice A29 en17.2.vers.length c30]) rfl Tryz.sizeOf70 rfl rfl rfl rfl (by kernel_rfl) rfl rfl rfl rfl ?_
  refine a6 ?_
  refine ah ?_
  refine mv (v:=.map (some mdst)) ?_
  refine mv (v:=.string en17.1) ?_
  refine vb (q_ldla (i:=0) (vs:=[.string en17.2.key,.slice A29 en17.2.vers.length c30]) rfl rfl Tryz.isAgg70 Tryz.sizeOf70 rfl rfl) ?_
  refine e_mapUpdate (i:=2) (x:=en17.1) (v:=.agg #[.string en17.2.key,.slice A29 en17.2.vers.length c30]) (a:=en17.2) rfl rfl rfl Tryz.underlying119 rfl rfl (by kernel_rfl) rfl ho9 (by exact⟨_,rfl,⟨A29,c30,rfl,hf31⟩⟩) hok22 ?_
  intro row33 hm34
  refine ab ?_
  intro w hw
  cases h
  exact⟨l18,_,hlen12,hgo14,row20,row33,(sl_ (by kernel_rfl)),(hw.only (is:=[1,1,1]) rfl),hit24,hm34,trivial⟩
abbrev r_tree_Tree_Recs(gt_:Nat)(et_:TG)(rowt_:Rowb)(r:List Rec)(U:List Rowb)(Γ:Gh)(v:Value):Prop := ∃(A0:Option Addr), ∃(c0:Nat), ∃(row0:Rowb),v = .slice A0 r.length c0∧U = [rowt_,row0]∧Own recT Γ 70 row0 A0 c0 r∧True
theorem t_tree_Tree_Recs{Γ:Gh}{w0:World}{gt_:Nat}{et_:TG}{rowt_:Rowb}{t_:OTree}(ht_:OTree.ob et_ Γ gt_ rowt_ t_){Apath:Option Addr}{cpath:Nat}{path:List Int}(hpath:Sl intT Γ Apath path)(hpathc:path.length≤cpath)(hp:Pre [rowt_] Γ w0){r:List Rec}(h:m_tree_Tree_Recs t_ path=some r):Calls Tryz.prog 53 #[(pq gt_),.slice Apath path.length cpath] w0 (Outc Γ [rowt_] w0 (r_tree_Tree_Recs gt_ et_ rowt_ r)):=by
 refine calls_of (N:=79) (rs:=[4]) (args:=[(pq gt_),.slice Apath path.length cpath]) Tryz.func53 rfl Tryz.ntmps53 Tryz.results53 rfl ?_
 obtain⟨F,hF⟩:∃F:Fm,F=⟨ids [rowt_],w0,Γ⟩:=⟨_,rfl⟩
 refine aa (C:=CC F Γ [rowt_]) ?_ (hF▸hp.start)
 refine a7 ?_
 refine as_ (v:=.slice none 0 0) ?_
 refine a6 ?_
 refine a8 ?_
 refine a7 ?_
 refine mv (v:=.slice Apath path.length cpath) ?_
 obtain⟨z1,hz2,h⟩:=bnd h
 refine vc rfl rfl rfl (q_call (call_run Tryz.call74 rfl rfl (by kernel_rfl)) (λw hw=>t_tree_at (Γ:=Gh.all w) (hpath.mono hw.sat.le_all) hpathc (Sat.all w) hz2)) ?_
 refine mv (v:=.tuple #[.agg #[.int .i64 z1.1.1,.int .i64 z1.1.2.1,.int .i64 z1.1.2.2],.bool z1.2]) ?_
 refine vb (q_extract (v:=.agg #[.int .i64 z1.1.1,.int .i64 z1.1.2.1,.int .i64 z1.1.2.2]) rfl rfl rfl) ?_
 refine vb (q_extract (v:=.bool z1.2) rfl rfl rfl) ?_
 refine e_alloc Tryz.zeroValue125 rfl rfl rfl rfl ?_
 intro g3
 refine e_st (i:=0) (v:=.agg #[.int .i64 z1.1.1,.int .i64 z1.1.2.1,.int .i64 z1.1.2.2]) (new:=#[.int .i64 z1.1.1,.int .i64 z1.1.2.1,.int .i64 z1.1.2.2]) rfl Tryz.sizeOf125 rfl rfl rfl rfl (by kernel_rfl) rfl rfl rfl rfl ?_
 refine as_ (v:=.bool z1.2) ?_
 refine a6 ?_
 refine a7 ?_
 refine mv (v:=.bool z1.2) ?_
 refine vb (q_not rfl rfl) ?_
 refine a6 ?_
 refine aj h (by kernel_rfl) (λhb4 h=>?_) (λhb4 h=>?_)
 ·
  refine a7 ?_
  refine as_ (v:=.slice none 0 0) ?_
  refine a6 ?_
  refine ac ?_
  intro w hw
  have hw:=hw.pad
  cases h
  subst hF
  exact end_e (is:=[2,0]) (by kernel_rfl) hw rfl ⟨none,0,[],rfl,rfl,(Own.nil recT _ 70),trivial⟩
 ·
  refine ae ?_
  change WC _ _ _ _ _ _
  refine a7 ?_
  refine e_makeMap (strK Tryz.underlying9) recT.ag rfl rfl rfl rfl ?_
  intro g5 row6 hm7
  refine as_ (v:=.map (some g5)) ?_
  refine a6 ?_
  refine a8 ?_
  refine a7 ?_
  refine mv (v:=.int .i64 0) ?_
  refine a6 ?_
  refine af ?_
  refine az h (λ(i14:Nat) (m10:List (ByteArray×Rec)) σ w => ∃(Γ8:Gh), ∃(row11:Rowb),slots σ [(0,(pq gt_)),(1,.slice Apath path.length cpath),(7,.map (some g5)),(22,.int .i64 ((i14:Nat):Int))]∧CC F Γ8 [row11,rowt_] w∧Gh.le Γ Γ8∧MapO (strK Tryz.underlying9) recT.ag Γ8 row11 g5 m10∧True) ?_ ?_
  ·
   intro w hw
   exact⟨Γ,row6,(sl_ (by kernel_rfl)),(hw.only (is:=[0,1]) rfl),(Gh.refl _),hm7,trivial⟩
  rintro f13 i14 m10 σ w hi15 hlt16 hge17 ⟨Γ8,row11,hsl,hw,hl9,ho12,-⟩
  refine Wpt.slots hsl ?_
  refine aa (C:=CC F Γ8 [row11,rowt_]) ?_ hw
  clear hw hsl
  refine a7 ?_
  refine vb (q_lss rfl rfl rfl) ?_
  refine a6 ?_
  refine a8 ?_
  refine WC.cond (b:=(decide (((i14:Nat):Int)<16))) (by kernel_rfl) (λhb18=>?_) (λhb18=>?_)
  ·
   have hl19:=ilt hb18
   have h:=hlt16 hl19
   refine ae ?_
   change WC _ _ _ _ _ _
   refine a8 ?_
   refine af ?_
   refine a7 ?_
   refine mv (v:=.int .i64 ((i14:Nat):Int)) ?_
   refine as_ (v:=.int .i64 ((i14:Nat):Int)) ?_
   refine a6 ?_
   refine a7 ?_
   refine mv (v:=(pq gt_)) ?_
   refine mv (v:=.int .i64 ((i14:Nat):Int)) ?_
   refine vb (q_nil (A:=some ⟨gt_,0,none⟩) rfl rfl rfl) ?_
   refine vb (q_fl 0 fld_123_0 rfl rfl rfl) ?_
   refine vb (q_ixd (i:=i14) Tryz.underlying121 Tryz.sizeOf120 rfl rfl rfl hl19) ?_
   have hq:=(ht_.mono hl9)
   obtain⟨cs_20,rL_20,sm_20,rS_20,hrow_20,hM_20,hl_20,hS_20,-⟩:=hq
   refine vb (q_ldAs (i:=1) (n:=16) (cs:=cs_20) rfl (hrow_20▸List.mem_flatten.2 ⟨([(gt_,.cells (cs_20++[Value.map (some sm_20)]).toArray et_.1 (0,0))]:Rowb),List.mem_cons_self ..,List.mem_singleton.2 rfl⟩) (by rw [(hM_20.len.trans hl_20)]; exact leaf_le hl19) rfl Tryz.isAgg120 Tryz.sizeOf120 rfl) ?_
   refine mv (v:=.int .i64 0) ?_
   refine a6 ?_
   refine af ?_
   refine az h (λ(i27:Nat) (m23:List (ByteArray×Rec)) σ w => ∃(Γ21:Gh), ∃(row24:Rowb),slots σ [(0,(pq gt_)),(1,.slice Apath path.length cpath),(7,.map (some g5)),(8,.int .i64 ((i14:Nat):Int)),(22,.int .i64 ((i14:Nat):Int)),(30,.agg (((cs_20).drop (0+i14*16)).take 16).toArray),(31,.int .i64 ((i27:Nat):Int))]∧CC F Γ21 [row24,rowt_] w∧Gh.le Γ8 Γ21∧MapO (strK Tryz.underlying9) recT.ag Γ21 row24 g5 m23∧True) ?_ ?_
   ·
    intro w hw
    exact⟨Γ8,row11,(sl_ (by kernel_rfl)),hw,(Gh.refl _),ho12,trivial⟩
   rintro f26 i27 m23 σ w hi28 hlt29 hge30 ⟨Γ21,row24,hsl,hw,hl22,ho25,-⟩
   refine Wpt.slots hsl ?_
   refine aa (C:=CC F Γ21 [row24,rowt_]) ?_ hw
   clear hw hsl
   refine a7 ?_
   refine vb (q_lss rfl rfl rfl) ?_
   refine a6 ?_
   refine a8 ?_
   refine WC.cond (b:=(decide (((i27:Nat):Int)<16))) (by kernel_rfl) (λhb31=>?_) (λhb31=>?_)
   ·
    have hl32:=ilt hb31
    have h:=hlt29 hl32
    refine ae ?_
    change WC _ _ _ _ _ _
    refine ax (λσ w => ∃(m35:List (ByteArray×Rec)), ∃(Γ33:Gh), ∃(row36:Rowb),m_tree_Tree_Recs_j21 f26 m35=some r∧slots σ [(0,(pq gt_)),(1,.slice Apath path.length cpath),(7,.map (some g5)),(8,.int .i64 ((i14:Nat):Int)),(22,.int .i64 ((i14:Nat):Int)),(30,.agg (((cs_20).drop (0+i14*16)).take 16).toArray),(31,.int .i64 ((i27:Nat):Int))]∧CC F Γ33 [row36,rowt_] w∧Gh.le Γ21 Γ33∧MapO (strK Tryz.underlying9) recT.ag Γ33 row36 g5 m35∧True) ?_ ?_
    ·
     refine af ?_
     refine a7 ?_
     refine mv (v:=.int .i64 ((i27:Nat):Int)) ?_
     refine vb (q_ixv (i:=i27) Tryz.underlying120 Tryz.isAgg119 Tryz.sizeOf119 (by rw [(hM_20.len.trans hl_20)]; exact leaf_le hl19) rfl rfl rfl hl32) ?_
     refine as_ (v:=.int .i64 ((i27:Nat):Int)) ?_
     refine as_ (v:=cgt cs_20 (0+i14*16+i27*1)) ?_
     refine a6 ?_
     refine a8 ?_
     refine a7 ?_
     refine mv (v:=.slice Apath path.length cpath) ?_
     refine vb (q_len_slice rfl Tryz.underlying24 rfl) ?_
     refine vb (q_gtr rfl rfl rfl) ?_
     refine mv (v:=.bool (decide (0<((path.length:Nat):Int)))) ?_
     refine vg1 rfl rfl rfl rfl rfl (λhg38=>QV.qo (q_move (v:=.slice Apath path.length cpath) rfl (by kernel_rfl))) ?_
     obtain⟨hk40,h⟩:=chk_some h
     refine vg1 rfl rfl rfl rfl rfl (λhg39=>QV.qo (q_ixn (i:=0) Tryz.underlying24 Tryz.sizeOf3 rfl (gu hg39 rfl) rfl (of_decide_eq_true (imp_of hk40 hg39)) ((hpath.mono (hl9.trans hl22)).some_ (of_decide_eq_true (imp_of hk40 hg39))))) ?_
     refine vg1 rfl rfl rfl rfl rfl (λhg41=>QV.qo (q_ld (c:=0) (v:=.int .i64 (gt path 0)) ((hpath.mono (hl9.trans hl22)).intT_at (of_decide_eq_true (imp_of hk40 hg41))).2 rfl Tryz.isAgg3 (gu hg41 rfl) rfl)) ?_
     refine vg1 rfl rfl rfl rfl rfl (λhg42=>QV.qo (q_move (v:=.int .i64 ((i14:Nat):Int)) rfl (by kernel_rfl))) ?_
     refine vg1 rfl rfl rfl rfl rfl (λhg43=>QV.qo (q_neq rfl (gu hg43 rfl) (gu hg43 rfl))) ?_
     refine vb (q_pick rfl rfl (pk_and' (g:=(decide (0<((path.length:Nat):Int)))) (y:=((gt path 0) != ((i14:Nat):Int))))) ?_
     refine mv (v:=.bool ((decide (0<((path.length:Nat):Int)))&&((gt path 0) != ((i14:Nat):Int)))) ?_
     refine vg0 rfl rfl rfl rfl rfl (λhg44=>QV.qo (q_move (v:=.slice Apath path.length cpath) rfl (by kernel_rfl))) ?_
     refine vg0 rfl rfl rfl rfl rfl (λhg45=>QV.qo (q_len_slice rfl Tryz.underlying24 (gu hg45 rfl))) ?_
     refine vg0 rfl rfl rfl rfl rfl (λhg46=>QV.qo (q_gtr rfl (gu hg46 rfl) rfl)) ?_
     refine vg0 rfl rfl rfl rfl rfl (λhg47=>QV.qo (q_move (v:=.bool (decide (1<((path.length:Nat):Int)))) rfl (gu hg47 rfl))) ?_
     refine vh1 (c0:=(!((decide (0<((path.length:Nat):Int)))&&((gt path 0) != ((i14:Nat):Int))))) (g:=(decide (1<((path.length:Nat):Int)))) rfl rfl rfl rfl rfl (λhg48=>QV.qo (q_move (v:=.slice Apath path.length cpath) rfl (by kernel_rfl))) ?_
     obtain⟨hk50,h⟩:=chk_some h
     refine vh1 (c0:=(!((decide (0<((path.length:Nat):Int)))&&((gt path 0) != ((i14:Nat):Int))))) (g:=(decide (1<((path.length:Nat):Int)))) rfl rfl rfl rfl rfl (λhg49=>QV.qo (q_ixn (i:=1) Tryz.underlying24 Tryz.sizeOf3 rfl (gu hg49 rfl) rfl (of_decide_eq_true (imp_of hk50 hg49)) ((hpath.mono (hl9.trans hl22)).some_ (of_decide_eq_true (imp_of hk50 hg49))))) ?_
     refine vh1 (c0:=(!((decide (0<((path.length:Nat):Int)))&&((gt path 0) != ((i14:Nat):Int))))) (g:=(decide (1<((path.length:Nat):Int)))) rfl rfl rfl rfl rfl (λhg51=>QV.qo (q_ld (c:=0) (v:=.int .i64 (gt path 1)) ((hpath.mono (hl9.trans hl22)).intT_at (of_decide_eq_true (imp_of hk50 hg51))).2 rfl Tryz.isAgg3 (gu hg51 rfl) rfl)) ?_
     refine vh1 (c0:=(!((decide (0<((path.length:Nat):Int)))&&((gt path 0) != ((i14:Nat):Int))))) (g:=(decide (1<((path.length:Nat):Int)))) rfl rfl rfl rfl rfl (λhg52=>QV.qo (q_move (v:=.int .i64 ((i27:Nat):Int)) rfl (by kernel_rfl))) ?_
     refine vh1 (c0:=(!((decide (0<((path.length:Nat):Int)))&&((gt path 0) != ((i14:Nat):Int))))) (g:=(decide (1<((path.length:Nat):Int)))) rfl rfl rfl rfl rfl (λhg53=>QV.qo (q_neq rfl (gu hg53 rfl) (gu hg53 rfl))) ?_
     refine vg0 rfl rfl rfl rfl rfl (λhg54=>QV.qo (q_pick rfl (gu hg54 rfl) (pk_and (c:=(!((decide (0<((path.length:Nat):Int)))&&((gt path 0) != ((i14:Nat):Int))))) (g:=(decide (1<((path.length:Nat):Int)))) (y:=((gt path 1) != ((i27:Nat):Int))) hg54))) ?_
     refine vb (q_pick rfl rfl (pk_or' (g:=((decide (0<((path.length:Nat):Int)))&&((gt path 0) != ((i14:Nat):Int)))) (y:=((decide (1<((path.length:Nat):Int)))&&((gt path 1) != ((i27:Nat):Int)))))) ?_
     refine a6 ?_
     refine aj h (by kernel_rfl) (λhb55 h=>?_) (λhb55 h=>?_)
     ·
      exact am λw hw=>⟨m23,Γ21,row24,h,(sl_ (by kernel_rfl)),hw,(Gh.refl _),ho25,trivial⟩
     ·
      refine ae ?_
      change WC _ _ _ _ _ _
      refine ah ?_
      refine mv (v:=.map (some g5)) ?_
      refine mv (v:=cgt cs_20 (0+i14*16+i27*1)) ?_
      obtain⟨rA_56,r_56,rB_56,hrl_56,hO_56,hcl_56⟩:=hM_20.at_ (i:=0+i14*16+i27*1) (by rw [hl_20]; exact(leaf_lt hl19 hl32))
      have hrw_56:rowt_=([[(gt_,.cells (cs_20++[Value.map (some sm_20)]).toArray et_.1 (0,0))],rA_56,r_56,rB_56,rS_20]:List Rowb).flatten:=by rw [hrow_20,hrl_56]; simp only [List.flatten_cons,List.flatten_nil,List.append_nil,List.append_assoc]
      refine(Option.eq_none_or_eq_some (gt t_.leaves (0+i14*16+i27*1))).elim (λho57=>?_) (λho57=>?_)
      ·
       have h:=optm_n ho57 h
       obtain⟨hc60,-⟩:cgt cs_20 (0+i14*16+i27*1)=Value.map none∧r_56 = []:=(by have h9:=hO_56; rw [ho57] at h9; exact h9)
       obtain⟨z62,hz63,h⟩:=bnd h
       refine e_call (is:=[0]) rfl rfl (call_run Tryz.call76 rfl rfl (args2 rfl (Eq.trans (b:=cgt cs_20 (0+i14*16+i27*1)) rfl hc60))) rfl (λw hp=>t_maps_Copy_map_string_api_Rec_map_string_api_Rec_string_api_Rec_nil ho25 hp hz63) ?_
       rintro Γ64 U66 v67 hl65 ⟨rfl,rfl,_⟩
       change WR _ _ _ (CC F Γ64 [row24,rowt_]) _ _ (upd _ 59 (.tuple #[]))
       exact ab λw hw=>⟨m23,Γ64,row24,h,(sl_ (by kernel_rfl)),hw,hl65,(ho25.mono hl65),trivial⟩
      ·
       obtain⟨es58,ho57⟩:=ho57
       have h:=optm_s ho57 h
       intro w hw; have hw:=hw.unfold (i:=1) rfl hrw_56
       refine ao (C:=CC F Γ21 [[(gt_,.cells (cs_20++[Value.map (some sm_20)]).toArray et_.1 (0,0))],rA_56,r_56,rB_56,rS_20,row24]) ?_ hw
       clear hw
       obtain⟨m59,hc60,hm61⟩:∃m,cgt cs_20 (0+i14*16+i27*1)=Value.map (some m)∧MapO (strK Tryz.underlying9) recT.ag Γ8 r_56 m es58:=(by have h9:=hO_56; rw [ho57] at h9; exact h9)
       obtain⟨z68,hz69,h⟩:=bnd h
       refine e_call (is:=[5,2]) rfl rfl (call_run Tryz.call76 rfl rfl (args2 rfl (Eq.trans (b:=cgt cs_20 (0+i14*16+i27*1)) rfl hc60))) rfl (λw hp=>t_maps_Copy_map_string_api_Rec_map_string_api_Rec_string_api_Rec ho25 (hm61.mono hl22) hp hz69) ?_
       rintro Γ70 U72 v73 hl71 ⟨row74,rfl,rfl,hr75,_⟩
       change WR _ _ _ (CC F Γ70 [row74,r_56,[(gt_,.cells (cs_20++[Value.map (some sm_20)]).toArray et_.1 (0,0))],rA_56,rB_56,rS_20]) _ _ (upd _ 59 (.tuple #[]))
       refine ab ?_
       intro w hw
       have hw:=hw.fold (is:=[2,2,1,1,1]) rfl hrw_56
       exact⟨z68,Γ70,row74,h,(sl_ (by kernel_rfl)),(hw.only (is:=[1,0]) rfl),hl71,hr75,trivial⟩
    ·
     rintro σ w ⟨m35,Γ33,row36,h,hsl,hw,hl34,ho37,-⟩
     refine Wpt.slots hsl ?_
     refine aa (C:=CC F Γ33 [row36,rowt_]) ?_ hw
     clear hw hsl
     refine ah ?_
     refine vb (q_add_r (r:=((i27+1:Nat):Int)) rfl rfl rfl (ctr_lit hl32 (by decide))) ?_
     refine mv (v:=.int .i64 ((i27+1:Nat):Int)) ?_
     exact ab λw hw=>⟨hl32,m35,h,Γ33,row36,(sl_ (by kernel_rfl)),hw,(hl22.trans hl34),ho37,trivial⟩
   ·
    have h:=hge30 (ige hb31)
    refine am ?_
    change WC _ _ _ _ _ _
    refine ah ?_
    refine vb (q_add_r (r:=((i14+1:Nat):Int)) rfl rfl rfl (ctr_lit hl19 (by decide))) ?_
    refine mv (v:=.int .i64 ((i14+1:Nat):Int)) ?_
    exact ab λw hw=>⟨hl19,m23,h,Γ21,row24,(sl_ (by kernel_rfl)),hw,(hl9.trans hl22),ho25,trivial⟩
  ·
   have h:=hge17 (ige hb18)
   refine am ?_
   change WC _ _ _ _ _ _
   refine a7 ?_
   refine as_ (v:=.slice none 0 0) ?_
   refine a6 ?_
   refine a8 ?_
   refine a7 ?_
   refine mv (v:=.map (some g5)) ?_
   refine e_keys (ρ:=keys78_ren) keys78 (mb:=some g5) rfl rfl (call_run Tryz.call78 rfl rfl (by kernel_rfl)) ?_
   intro g77
   change WR _ _ _ (CC F Γ8 [[(g77,.cells #[.map (some g5)] 119 (0,0))],row11,rowt_]) _ _ (upd _ 63 (.func (.func 94) #[] #[(pq g77)]))
   obtain⟨hk78,h⟩:=chk_some h
   refine e_call (is:=[0,0]) rfl rfl (call_run Tryz.call77 rfl rfl (by kernel_rfl)) rfl (λw hp=>sk77_78 ho12 (of_decide_eq_true hk78) hp) ?_
   rintro Γ79 U81 v82 hl80 ⟨A83,c84,row85,rfl,rfl,ho86⟩
   change WR _ _ _ (CC F Γ79 [[(g77,.cells #[.map (some g5)] 119 (0,0))],row11,row85,rowt_]) _ _ (upd _ 64 (.slice A83 (skeys m10).length c84))
   refine vb (q_len_slice rfl Tryz.underlying130 rfl) ?_
   refine mv (v:=.int .i64 0) ?_
   refine a6 ?_
   refine af ?_
   refine ap h (λ(i95:Nat) (out_89:List Rec) σ w => ∃(Γ87:Gh), ∃(A90:Option Addr), ∃(c91:Nat), ∃(row92:Rowb),slots σ [(7,.map (some g5)),(11,.slice A90 out_89.length c91),(64,.slice A83 (skeys m10).length c84),(65,.int .i64 (((skeys m10).length:Nat):Int)),(66,.int .i64 ((i95:Nat):Int))]∧CC F Γ87 [row92,row11,row85,rowt_] w∧Gh.le Γ79 Γ87∧Own recT Γ87 70 row92 A90 c91 out_89∧True) ?_ ?_
   ·
    intro w hw
    have hw:=hw.pad
    exact⟨Γ79,none,0,[],(sl_ (by kernel_rfl)),(hw.only (is:=[0,1,1,1]) rfl),(Gh.refl _),(Own.nil recT _ 70),trivial⟩
   rintro f94 i95 out_89 σ w hi96 hlt97 hge98 ⟨Γ87,A90,c91,row92,hsl,hw,hl88,ho93,-⟩
   refine Wpt.slots hsl ?_
   refine aa (C:=CC F Γ87 [row92,row11,row85,rowt_]) ?_ hw
   clear hw hsl
   refine a7 ?_
   refine vb (q_lss rfl rfl rfl) ?_
   refine a6 ?_
   refine a8 ?_
   refine WC.cond (b:=(decide (((i95:Nat):Int)<(((skeys m10).length:Nat):Int)))) (by kernel_rfl) (λhb99=>?_) (λhb99=>?_)
   ·
    have hl100:=ilt hb99
    have h:=hlt97 hl100
    refine ae ?_
    change WC _ _ _ _ _ _
    refine a8 ?_
    refine af ?_
    refine a7 ?_
    refine vb (q_ixn (i:=i95) Tryz.underlying130 Tryz.sizeOf9 rfl rfl rfl hl100 ((ho86.mono hl88).some_ hl100)) ?_
    refine vb (q_ldo (c:=0) (v:=.string (gt (skeys m10) i95)) (i:=2) rfl ((ho86.mono hl88).strT_at hl100).2 rfl Tryz.isAgg9 rfl rfl) ?_
    refine as_ (v:=.string (gt (skeys m10) i95)) ?_
    refine a6 ?_
    refine ah ?_
    refine mv (v:=.slice A90 out_89.length c91) ?_
    refine mv (v:=.map (some g5)) ?_
    refine mv (v:=.string (gt (skeys m10) i95)) ?_
    obtain⟨v101,hv102,hat103⟩:=MapO.look (ho12.mono (hl80.trans hl88)) (gt (skeys m10) i95) (z:=.agg #[.string ByteArray.empty,.slice none 0 0]) (zx:=(⟨ByteArray.empty,[]⟩:Rec)) ⟨_,rfl,none,0,rfl,⟨(show (ByteArray.empty:ByteArray).size≤lim by decide),⟨Nat.zero_le _,Sl.nil _ _ _⟩⟩⟩
    obtain⟨cs104,hv102,A105,c106,rfl,hf107⟩:=hv102
    obtain rfl:v101=_:=hv102
    refine vb (q_lookup1 (v:=.agg #[.string ((mget (gt (skeys m10) i95) m10).getD (⟨ByteArray.empty,[]⟩:Rec)).key,.slice A105 (((mget (gt (skeys m10) i95) m10).getD (⟨ByteArray.empty,[]⟩:Rec)).vers).length c106]) hat103 rfl Tryz.underlying119 Tryz.zeroValue70 rfl rfl (i:=1) rfl) ?_
    obtain⟨z108,hz109,h⟩:=bnd h
    refine e_call (is:=[]) rfl rfl (call_run Tryz.call79 rfl rfl (by kernel_rfl)) rfl (λw hp=>t_tree_own ((mget (gt (skeys m10) i95) m10).getD (⟨ByteArray.empty,[]⟩:Rec)) hf107 hp hz109) ?_
    rintro Γ110 U112 v113 hl111 ⟨A114,c115,rfl,rfl,hr116,_⟩
    change WR _ _ _ (CC F Γ110 [row92,row11,row85,rowt_]) _ _ (upd _ 74 (.agg #[.string z108.key,.slice A114 z108.vers.length c115]))
    refine e_buildSlice (cs:=#[.string z108.key,.slice A114 z108.vers.length c115]) (e:=70) rfl rfl rfl rfl (λw=>by kernel_rfl) ?_
    intro g117
    obtain⟨hk118,h⟩:=chk_some h
    refine e_append (T:=recT) (xs:=out_89) (ys:=[z108]) elem_23 (i:=1) rfl rfl rfl rfl rfl rfl rfl (ho93.mono hl111) (of_decide_eq_true hk118) (λw hw=>src_one (T:=recT) (y:=z108) (i:=0) rfl (by exact⟨A114,c115,rfl,hr116⟩) hw) ?_
    intro row119 A120 c121 ho122
    refine as_ (v:=.slice A120 (out_89++[z108]).length c121) ?_
    refine ab ?_
    change WC _ _ _ _ _ _
    refine ah ?_
    refine vb (q_add_r (r:=((i95+1:Nat):Int)) rfl rfl rfl (ctr_len hl100 (ho86.mono hl88).le)) ?_
    refine mv (v:=.int .i64 ((i95+1:Nat):Int)) ?_
    exact ab λw hw=>⟨hl100,(out_89++[z108]),h,Γ110,A120,c121,row119,(sl_ (by kernel_rfl)),(hw.only (is:=[1,1,1,1]) rfl),(hl88.trans hl111),ho122,trivial⟩
   ·
    have h:=hge98 (ige hb99)
    refine am ?_
    change WC _ _ _ _ _ _
    refine a7 ?_
    refine mv (v:=.slice A90 out_89.length c91) ?_
    refine as_ (v:=.slice A90 out_89.length c91) ?_
    refine a6 ?_
    refine ac ?_
    intro w hw
    cases h
    subst hF
    exact end_e (is:=[3,0]) (by kernel_rfl) hw rfl ⟨A90,c91,row92,rfl,rfl,ho93,trivial⟩
abbrev r_slices_Clone_int_int(r:List Int)(U:List Rowb)(Γ:Gh)(v:Value):Prop := ∃(A0:Option Addr), ∃(c0:Nat), ∃(row0:Rowb),v = .slice A0 r.length c0∧U = [row0]∧Own intT Γ 3 row0 A0 c0 r∧True
theorem t_slices_Clone_int_int{Γ:Gh}{w0:World}{As_:Option Addr}{cs_:Nat}{s_:List Int}(hs_:Sl intT Γ As_ s_)(hs_c:s_.length≤cs_)(hp:Pre [] Γ w0){r:List Int}(h:m_slices_Clone_int_int s_=some r):Calls Tryz.prog 69 #[.slice As_ s_.length cs_] w0 (Outc Γ [] w0 (r_slices_Clone_int_int r)):=by
 refine calls_of (N:=8) (rs:=[2]) (args:=[.slice As_ s_.length cs_]) Tryz.func69 rfl Tryz.ntmps69 Tryz.results69 rfl ?_
 obtain⟨F,hF⟩:∃F:Fm,F=⟨ids [],w0,Γ⟩:=⟨_,rfl⟩
 refine aa (C:=CC F Γ []) ?_ (hF▸hp.start)
 refine a7 ?_
 refine as_ (v:=.slice none 0 0) ?_
 refine a6 ?_
 refine a8 ?_
 refine a7 ?_
 refine mv (v:=.slice As_ s_.length cs_) ?_
 refine vb (q_nil_slice Tryz.underlying24 rfl rfl rfl) ?_
 refine a6 ?_
 refine WC.cnil h (by kernel_rfl) (λhb=>hs_.none_nil hb) (λhb1 h=>?_) (λhb1 h=>?_)
 ·
  refine a7 ?_
  refine as_ (v:=.slice none 0 0) ?_
  refine a6 ?_
  refine ac ?_
  intro w hw
  have hw:=hw.pad
  cases h
  subst hF
  exact end_e (is:=[0]) (by kernel_rfl) hw rfl ⟨none,0,[],rfl,rfl,(Own.nil intT _ 3),trivial⟩
 ·
  refine ae ?_
  change WC _ _ _ _ _ _
  refine a7 ?_
  refine e_buildSlice (cs:=#[]) (e:=3) rfl rfl rfl rfl (λw=>by kernel_rfl) ?_
  intro g2
  refine mv (v:=.slice As_ s_.length cs_) ?_
  have ho3:Own intT Γ 3 [(g2,.cells #[] 3 (0,0))] (some ⟨g2,0,none⟩) 0 ([]:List Int):=aq (T:=intT) (ys:=([]:List Int)) [] rfl (show 0≤lim by decide) (show True from trivial)
  obtain⟨hk4,h⟩:=chk_some h
  refine e_append (T:=intT) (xs:=([]:List Int)) (ys:=s_) elem_24 (i:=0) rfl rfl rfl rfl rfl rfl rfl ho3 (of_decide_eq_true hk4) (λw hw=>src_sl hs_ hw) ?_
  intro row5 A6 c7 ho8
  refine as_ (v:=.slice A6 (([]:List Int)++s_).length c7) ?_
  refine a6 ?_
  refine ac ?_
  intro w hw
  cases h
  subst hF
  exact end_e (is:=[0]) (by kernel_rfl) hw rfl ⟨A6,c7,row5,rfl,rfl,ho8,trivial⟩
abbrev r_tree_Tree_Kids(gt_:Nat)(et_:TG)(r:OTree×(List Int))(U:List Rowb)(Γ:Gh)(v:Value):Prop := ∃(rowt_':Rowb), ∃(A0:Option Addr), ∃(c0:Nat), ∃(row0:Rowb),v = .slice A0 r.2.length c0∧U = [rowt_',row0]∧OTree.ob et_ Γ gt_ rowt_' r.1∧Own u64T Γ 78 row0 A0 c0 r.2∧A0.isNone=r.2.isEmpty∧True
theorem t_tree_Tree_Kids{Γ:Gh}{w0:World}{H:OTree→List Int→Option (OTree×Int)}(hH:HashC H){gt_:Nat}{et_:TG}{rowt_:Rowb}{t_:OTree}(ht_:OTree.ob et_ Γ gt_ rowt_ t_){Apath:Option Addr}{cpath:Nat}{path:List Int}(hpath:Sl intT Γ Apath path)(hpathc:path.length≤cpath)(hlen:∀p∈et_.2,p.1.1≤path.length)(hp:Pre [rowt_] Γ w0){r:OTree×(List Int)}(h:m_tree_Tree_Kids H t_ path=some r):Calls Tryz.prog 52 #[(pq gt_),.slice Apath path.length cpath] w0 (Outc Γ [rowt_] w0 (r_tree_Tree_Kids gt_ et_ r)):=by
 refine calls_of (N:=36) (rs:=[4]) (args:=[(pq gt_),.slice Apath path.length cpath]) Tryz.func52 rfl Tryz.ntmps52 Tryz.results52 rfl ?_
 obtain⟨F,hF⟩:∃F:Fm,F=⟨ids [rowt_],w0,Γ⟩:=⟨_,rfl⟩
 refine aa (C:=CC F Γ [rowt_]) ?_ (hF▸hp.start)
 refine a7 ?_
 refine as_ (v:=.slice none 0 0) ?_
 refine a6 ?_
 refine a8 ?_
 refine a7 ?_
 refine mv (v:=.slice Apath path.length cpath) ?_
 obtain⟨z1,hz2,h⟩:=bnd h
 refine vc rfl rfl rfl (q_call (call_run Tryz.call74 rfl rfl (by kernel_rfl)) (λw hw=>t_tree_at (Γ:=Gh.all w) (hpath.mono hw.sat.le_all) hpathc (Sat.all w) hz2)) ?_
 refine mv (v:=.tuple #[.agg #[.int .i64 z1.1.1,.int .i64 z1.1.2.1,.int .i64 z1.1.2.2],.bool z1.2]) ?_
 refine vb (q_extract (v:=.agg #[.int .i64 z1.1.1,.int .i64 z1.1.2.1,.int .i64 z1.1.2.2]) rfl rfl rfl) ?_
 refine vb (q_extract (v:=.bool z1.2) rfl rfl rfl) ?_
 refine e_alloc Tryz.zeroValue125 rfl rfl rfl rfl ?_
 intro g3
 refine e_st (i:=0) (v:=.agg #[.int .i64 z1.1.1,.int .i64 z1.1.2.1,.int .i64 z1.1.2.2]) (new:=#[.int .i64 z1.1.1,.int .i64 z1.1.2.1,.int .i64 z1.1.2.2]) rfl Tryz.sizeOf125 rfl rfl rfl rfl (by kernel_rfl) rfl rfl rfl rfl ?_
 refine as_ (v:=.bool z1.2) ?_
 refine a6 ?_
 refine a7 ?_
 refine mv (v:=.bool z1.2) ?_
 refine vb (q_not rfl rfl) ?_
 refine mv (v:=.bool (!z1.2)) ?_
 refine vg0 rfl rfl rfl rfl rfl (λhg4=>QV.qo (q_move (v:=.slice Apath path.length cpath) rfl (by kernel_rfl))) ?_
 refine vg0 rfl rfl rfl rfl rfl (λhg5=>QV.qo (q_len_slice rfl Tryz.underlying24 (gu hg5 rfl))) ?_
 refine vg0 rfl rfl rfl rfl rfl (λhg6=>QV.qo (q_gtr rfl (gu hg6 rfl) rfl)) ?_
 refine vb (q_pick rfl rfl (pk_or' (g:=(!z1.2)) (y:=(decide (1<((path.length:Nat):Int)))))) ?_
 refine a6 ?_
 refine aj h (by kernel_rfl) (λhb7 h=>?_) (λhb7 h=>?_)
 ·
  refine a7 ?_
  refine as_ (v:=.slice none 0 0) ?_
  refine a6 ?_
  refine ac ?_
  intro w hw
  have hw:=hw.pad
  cases h
  subst hF
  exact end_e (is:=[2,0]) (by kernel_rfl) hw rfl ⟨rowt_,none,0,[],rfl,rfl,ht_,(Own.nil u64T _ 78),rfl,trivial⟩
 ·
  refine ae ?_
  change WC _ _ _ _ _ _
  refine a7 ?_
  refine as_ (v:=.slice none 0 0) ?_
  refine a6 ?_
  refine a8 ?_
  refine a7 ?_
  refine mv (v:=.int .i64 0) ?_
  refine a6 ?_
  refine af ?_
  refine az h (λ(i19:Nat) (s:(List Int)×OTree) σ w=>match s with | (out_10,o15) => ∃(Γ8:Gh), ∃(A11:Option Addr), ∃(c12:Nat), ∃(row13:Rowb), ∃(row16:Rowb),slots σ [(0,(pq gt_)),(1,.slice Apath path.length cpath),(7,.slice A11 out_10.length c12),(21,.int .i64 ((i19:Nat):Int))]∧CC F Γ8 [row13,row16] w∧Gh.le Γ Γ8∧Own u64T Γ8 78 row13 A11 c12 out_10∧OTree.ob et_ Γ8 gt_ row16 o15∧True) ?_ ?_
  ·
   intro w hw
   have hw:=hw.pad
   exact⟨Γ,none,0,[],rowt_,(sl_ (by kernel_rfl)),(hw.only (is:=[0,1]) rfl),(Gh.refl _),(Own.nil u64T _ 78),ht_,trivial⟩
  rintro f18 i19 ⟨out_10,o15⟩ σ w hi20 hlt21 hge22 ⟨Γ8,A11,c12,row13,row16,hsl,hw,hl9,ho14,ho17,-⟩
  refine Wpt.slots hsl ?_
  refine aa (C:=CC F Γ8 [row13,row16]) ?_ hw
  clear hw hsl
  refine a7 ?_
  refine vb (q_lss rfl rfl rfl) ?_
  refine a6 ?_
  refine a8 ?_
  refine WC.cond (b:=(decide (((i19:Nat):Int)<16))) (by kernel_rfl) (λhb23=>?_) (λhb23=>?_)
  ·
   have hl24:=ilt hb23
   have h:=hlt21 hl24
   refine ae ?_
   change WC _ _ _ _ _ _
   refine a8 ?_
   refine af ?_
   refine a7 ?_
   refine mv (v:=.int .i64 ((i19:Nat):Int)) ?_
   refine as_ (v:=.int .i64 ((i19:Nat):Int)) ?_
   refine a6 ?_
   refine ah ?_
   refine mv (v:=.slice A11 out_10.length c12) ?_
   refine mv (v:=(pq gt_)) ?_
   refine mv (v:=.slice Apath path.length cpath) ?_
   obtain⟨z25,hz26,h⟩:=bnd h
   refine e_call (is:=[]) rfl rfl (call_run Tryz.call69 rfl rfl (by kernel_rfl)) rfl (λw hp=>t_slices_Clone_int_int (hpath.mono hl9) hpathc hp hz26) ?_
   rintro Γ27 U29 v30 hl28 ⟨A31,c32,row33,rfl,rfl,hr34,_⟩
   change WR _ _ _ (CC F Γ27 [row33,row13,row16]) _ _ (upd _ 27 (.slice A31 z25.length c32))
   refine mv (v:=.int .i64 ((i19:Nat):Int)) ?_
   refine e_buildSlice (cs:=#[.int .i64 ((i19:Nat):Int)]) (e:=3) rfl rfl rfl rfl (λw=>by kernel_rfl) ?_
   intro g35
   obtain⟨hk36,h⟩:=chk_some h
   refine e_append (T:=intT) (xs:=z25) (ys:=[((i19:Nat):Int)]) elem_24 (i:=1) rfl rfl rfl rfl rfl rfl rfl hr34 (of_decide_eq_true hk36) (λw hw=>src_one (T:=intT) (y:=((i19:Nat):Int)) (i:=0) rfl (by exact⟨rfl,(ctr_lit0 hl24 (by decide))⟩) hw) ?_
   intro row37 A38 c39 ho40
   have hc45:=ho40.capz
   intro w hw; obtain⟨Γ41,hw,hl42,hr43⟩:=hw.seal (i:=1) rfl; have hs44:=ho40.sl hl42 hr43
   refine ao (C:=CC F Γ41 [[(g35,.cells #[.int .i64 ((i19:Nat):Int)] 3 (0,0))],[],row13,row16]) ?_ hw
   clear hw
   obtain⟨hk46,h⟩:=chk_some h
   obtain⟨z47,hz48,h⟩:=bnd h
   refine e_call (is:=[3]) rfl rfl (call_run Tryz.call75 rfl rfl (by kernel_rfl)) rfl (λw hp=>hH (ho17.mono (hl28.trans hl42)) hs44 hc45 (lent_lt hlen (of_decide_eq_true hk46)) hp hz48) ?_
   rintro Γ49 U51 v52 hl50 ⟨row53,rfl,rfl,hr54,hr55,_⟩
   change WR _ _ _ (CC F Γ49 [row53,[(g35,.cells #[.int .i64 ((i19:Nat):Int)] 3 (0,0))],[],row13]) _ _ (upd _ 31 (.int .u64 z47.2))
   refine e_buildSlice (cs:=#[.int .u64 z47.2]) (e:=78) rfl rfl rfl rfl (λw=>by kernel_rfl) ?_
   intro g56
   obtain⟨hk57,h⟩:=chk_some h
   refine e_append (T:=u64T) (xs:=out_10) (ys:=[z47.2]) elem_33 (i:=4) rfl rfl rfl rfl rfl rfl rfl (ho14.mono ((hl28.trans hl42).trans hl50)) (of_decide_eq_true hk57) (λw hw=>src_one (T:=u64T) (y:=z47.2) (i:=0) rfl (by exact⟨rfl,hr55⟩) hw) ?_
   intro row58 A59 c60 ho61
   refine as_ (v:=.slice A59 (out_10++[z47.2]).length c60) ?_
   refine ab ?_
   change WC _ _ _ _ _ _
   refine ah ?_
   refine vb (q_add_r (r:=((i19+1:Nat):Int)) rfl rfl rfl (ctr_lit hl24 (by decide))) ?_
   refine mv (v:=.int .i64 ((i19+1:Nat):Int)) ?_
   exact ab λw hw=>⟨hl24,((out_10++[z47.2]),z47.1),h,Γ49,A59,c60,row58,row53,(sl_ (by kernel_rfl)),(hw.only (is:=[4,1]) rfl),(((hl9.trans hl28).trans hl42).trans hl50),ho61,hr54,trivial⟩
  ·
   have h:=hge22 (ige hb23)
   refine am ?_
   change WC _ _ _ _ _ _
   refine a7 ?_
   refine mv (v:=.slice A11 out_10.length c12) ?_
   refine as_ (v:=.slice A11 out_10.length c12) ?_
   refine a6 ?_
   refine ac ?_
   intro w hw
   obtain⟨hk62,h⟩:=chk_some h
   cases h
   subst hF
   exact end_e (is:=[1,0]) (by kernel_rfl) hw rfl ⟨row16,A11,c12,row13,rfl,rfl,ho17,ho14,(ho14.nz (of_decide_eq_true hk62)),trivial⟩
abbrev r_num_PutNum(r:List UInt8)(U:List Rowb)(Γ:Gh)(v:Value):Prop := ∃(A0:Option Addr), ∃(c0:Nat), ∃(row0:Rowb),v = .slice A0 r.length c0∧U = [row0]∧Own byteT Γ 5 row0 A0 c0 r∧True
theorem t_num_PutNum{Γ:Gh}{w0:World}(n:Int)(hn:I64 n)(hp:Pre [] Γ w0){r:List UInt8}(h:m_num_PutNum n=some r):Calls Tryz.prog 124 #[.int .i64 n] w0 (Outc Γ [] w0 (r_num_PutNum r)):=by
 refine calls_of (N:=23) (rs:=[2]) (args:=[.int .i64 n]) Tryz.func124 rfl Tryz.ntmps124 Tryz.results124 rfl ?_
 obtain⟨F,hF⟩:∃F:Fm,F=⟨ids [],w0,Γ⟩:=⟨_,rfl⟩
 refine aa (C:=CC F Γ []) ?_ (hF▸hp.start)
 refine a7 ?_
 refine as_ (v:=.slice none 0 0) ?_
 refine a6 ?_
 refine a7 ?_
 refine as_ (v:=.slice none 0 0) ?_
 refine a6 ?_
 refine a7 ?_
 refine mv (v:=.int .i64 n) ?_
 refine vb (q_max rfl rfl rfl) ?_
 refine vb (q_conv Tryz.underlying78 Tryz.underlying2 rfl rfl) ?_
 refine as_ (v:=.int .u64 (wu64 (max n 0))) ?_
 refine a6 ?_
 refine a8 ?_
 refine af ?_
 refine aA h (λ(s:(List UInt8)×Int) σ w=>match s with | (b_1,u_6) => ∃(A2:Option Addr), ∃(c3:Nat), ∃(row4:Rowb),slots σ [(3,.slice A2 b_1.length c3),(4,.int .u64 u_6)]∧CC F Γ [row4] w∧Own byteT Γ 5 row4 A2 c3 b_1∧True) ?_ ?_
 ·
  intro w hw
  have hw:=hw.pad
  exact⟨none,0,[],(sl_ (by kernel_rfl)),hw,(Own.nil byteT _ 5),trivial⟩
 rintro f7 ⟨b_1,u_6⟩ σ w h ⟨A2,c3,row4,hsl,hw,ho5,-⟩
 refine Wpt.slots hsl ?_
 refine aa (C:=CC F Γ [row4]) ?_ hw
 clear hw hsl
 refine a8 ?_
 refine a7 ?_
 refine mv (v:=.int .u64 u_6) ?_
 refine vb (q_gtr rfl rfl rfl) ?_
 refine a6 ?_
 refine aj h (by kernel_rfl) (λhb11 h=>?_) (λhb11 h=>?_)
 ·
  refine ae ?_
  change WC _ _ _ _ _ _
  refine a8 ?_
  refine af ?_
  refine ah ?_
  refine mv (v:=.slice A2 b_1.length c3) ?_
  refine mv (v:=.int .u64 u_6) ?_
  refine vb (q_conv Tryz.underlying5 Tryz.underlying78 rfl rfl) ?_
  refine vb (q_or rfl rfl rfl) ?_
  refine e_buildSlice (cs:=#[.int .u8 (ior .u8 (wu8 u_6) 128)]) (e:=5) rfl rfl rfl rfl (λw=>by kernel_rfl) ?_
  intro g12
  obtain⟨hk13,h⟩:=chk_some h
  obtain⟨hk14,h⟩:=chk_some h
  refine e_append (T:=byteT) (xs:=b_1) (ys:=[(b8 (ior .u8 (wu8 u_6) 128))]) elem_136 (i:=1) rfl rfl rfl rfl rfl rfl rfl ho5 (of_decide_eq_true hk14) (λw hw=>src_one (T:=byteT) (y:=(b8 (ior .u8 (wu8 u_6) 128))) (i:=0) rfl (by exact(by show [Value.int .u8 (ior .u8 (wu8 u_6) 128)] = [Value.int .u8 _]; rw [b8_val (u8b_of hk13)])) hw) ?_
  intro row15 A16 c17 ho18
  refine as_ (v:=.slice A16 (b_1++[(b8 (ior .u8 (wu8 u_6) 128))]).length c17) ?_
  refine ab ?_
  change WC _ _ _ _ _ _
  refine ah ?_
  refine mv (v:=.int .u64 u_6) ?_
  refine vb (q_shr rfl rfl rfl (by decide)) ?_
  refine as_ (v:=.int .u64 (ishr .u64 u_6 7)) ?_
  exact ab λw hw=>⟨((b_1++[(b8 (ior .u8 (wu8 u_6) 128))]),(ishr .u64 u_6 7)),h,A16,c17,row15,(sl_ (by kernel_rfl)),(hw.only (is:=[1]) rfl),ho18,trivial⟩
 ·
  refine am ?_
  change WC _ _ _ _ _ _
  refine a7 ?_
  refine mv (v:=.slice A2 b_1.length c3) ?_
  refine mv (v:=.int .u64 u_6) ?_
  refine vb (q_conv Tryz.underlying5 Tryz.underlying78 rfl rfl) ?_
  refine e_buildSlice (cs:=#[.int .u8 (wu8 u_6)]) (e:=5) rfl rfl rfl rfl (λw=>by kernel_rfl) ?_
  intro g19
  obtain⟨hk20,h⟩:=chk_some h
  refine e_append (T:=byteT) (xs:=b_1) (ys:=[(b8 (wu8 u_6))]) elem_136 (i:=1) rfl rfl rfl rfl rfl rfl rfl ho5 (of_decide_eq_true hk20) (λw hw=>src_one (T:=byteT) (y:=(b8 (wu8 u_6))) (i:=0) rfl (by exact(by show [Value.int .u8 (wu8 u_6)] = [Value.int .u8 _]; rw [b8_val (wu8_r _)])) hw) ?_
  intro row21 A22 c23 ho24
  refine as_ (v:=.slice A22 (b_1++[(b8 (wu8 u_6))]).length c23) ?_
  refine a6 ?_
  refine ac ?_
  intro w hw
  cases h
  subst hF
  exact end_e (is:=[1]) (by kernel_rfl) hw rfl ⟨A22,c23,row21,rfl,rfl,ho24,trivial⟩
abbrev r_num_PutText(r:List UInt8)(U:List Rowb)(Γ:Gh)(v:Value):Prop := ∃(A0:Option Addr), ∃(c0:Nat), ∃(row0:Rowb),v = .slice A0 r.length c0∧U = [row0]∧Own byteT Γ 5 row0 A0 c0 r∧True
theorem t_num_PutText{Γ:Gh}{w0:World}(s_:ByteArray)(hs_:s_.size≤lim)(hp:Pre [] Γ w0){r:List UInt8}(h:m_num_PutText s_=some r):Calls Tryz.prog 125 #[.string s_] w0 (Outc Γ [] w0 (r_num_PutText r)):=by
 refine calls_of (N:=8) (rs:=[2]) (args:=[.string s_]) Tryz.func125 rfl Tryz.ntmps125 Tryz.results125 rfl ?_
 obtain⟨F,hF⟩:∃F:Fm,F=⟨ids [],w0,Γ⟩:=⟨_,rfl⟩
 refine aa (C:=CC F Γ []) ?_ (hF▸hp.start)
 refine a7 ?_
 refine as_ (v:=.slice none 0 0) ?_
 refine a6 ?_
 refine a7 ?_
 refine mv (v:=.string s_) ?_
 refine vb (q_len_str rfl Tryz.underlying9 rfl) ?_
 obtain⟨z1,hz2,h⟩:=bnd h
 refine e_call (is:=[]) rfl rfl (call_run Tryz.call124 rfl rfl (by kernel_rfl)) rfl (λw hp=>t_num_PutNum ((s_.size:Nat):Int) (len_r hs_) hp hz2) ?_
 rintro Γ3 U5 v6 hl4 ⟨A7,c8,row9,rfl,rfl,hr10,_⟩
 change WR _ _ _ (CC F Γ3 [row9]) _ _ (upd _ 5 (.slice A7 z1.length c8))
 refine mv (v:=.string s_) ?_
 obtain⟨hk11,h⟩:=chk_some h
 refine e_append_str (xs:=z1) (s:=s_) (ti:=Tryz.t5) Tryz.underlying136 Tryz.underlying9 (by kernel_rfl) (by kernel_rfl) (by kernel_rfl) (by kernel_rfl) (i:=0) rfl rfl rfl rfl rfl rfl rfl hr10 (of_decide_eq_true hk11) ?_
 intro row12 A13 c14 ho15
 refine as_ (v:=.slice A13 (z1++s_.data.toList).length c14) ?_
 refine a6 ?_
 refine ac ?_
 intro w hw
 cases h
 subst hF
 exact end_e (is:=[0]) (by kernel_rfl) hw rfl ⟨A13,c14,row12,rfl,rfl,ho15,trivial⟩
theorem t_vers_Mark{Γ:Gh}{w0:World}(key:ByteArray)(hkey:key.size≤lim){Al:Option Addr}{cl:Nat}{l:List Ver}(hl:Sl verT Γ Al l)(hlc:l.length≤cl)(hs:Sat Γ w0){r:Int}(h:m_vers_Mark key l=some r):Calls Tryz.prog 107 #[.string key,.slice Al l.length cl] w0 (λe w'=>e = .returned (.int .u64 r)∧Fr no w0 w'):=by
 refine calls_of (N:=30) (rs:=[4]) (args:=[.string key,.slice Al l.length cl]) Tryz.func107 rfl Tryz.ntmps107 Tryz.results107 rfl ?_
 obtain⟨F,hF⟩:∃F:Fm,F=⟨no,w0,Γ⟩:=⟨_,rfl⟩
 refine aa (C:=CC F Γ []) ?_ (hF▸Cur.start0 hs)
 refine a7 ?_
 refine as_ (v:=.int .u64 0) ?_
 refine a6 ?_
 refine a7 ?_
 refine mv (v:=.string key) ?_
 obtain⟨z1,hz2,h⟩:=bnd h
 refine e_call (is:=[]) rfl rfl (call_run Tryz.call125 rfl rfl (by kernel_rfl)) rfl (λw hp=>t_num_PutText key hkey hp hz2) ?_
 rintro Γ3 U5 v6 hl4 ⟨A7,c8,row9,rfl,rfl,hr10,_⟩
 change WR _ _ _ (CC F Γ3 [row9]) _ _ (upd _ 9 (.slice A7 z1.length c8))
 refine as_ (v:=.slice A7 z1.length c8) ?_
 refine a6 ?_
 refine a8 ?_
 refine a7 ?_
 refine mv (v:=.slice Al l.length cl) ?_
 refine vb (q_len_slice rfl Tryz.underlying67 rfl) ?_
 refine mv (v:=.int .i64 0) ?_
 refine a6 ?_
 refine af ?_
 refine ap h (λ(i19:Nat) (b_13:List UInt8) σ w => ∃(Γ11:Gh), ∃(A14:Option Addr), ∃(c15:Nat), ∃(row16:Rowb),slots σ [(5,.slice A14 b_13.length c15),(10,.slice Al l.length cl),(11,.int .i64 ((l.length:Nat):Int)),(12,.int .i64 ((i19:Nat):Int))]∧CC F Γ11 [row16] w∧Gh.le Γ3 Γ11∧Own byteT Γ11 5 row16 A14 c15 b_13∧True) ?_ ?_
 ·
  intro w hw
  exact⟨Γ3,A7,c8,row9,(sl_ (by kernel_rfl)),hw,(Gh.refl _),hr10,trivial⟩
 rintro f18 i19 b_13 σ w hi20 hlt21 hge22 ⟨Γ11,A14,c15,row16,hsl,hw,hl12,ho17,-⟩
 refine Wpt.slots hsl ?_
 refine aa (C:=CC F Γ11 [row16]) ?_ hw
 clear hw hsl
 refine a7 ?_
 refine vb (q_lss rfl rfl rfl) ?_
 refine a6 ?_
 refine a8 ?_
 refine WC.cond (b:=(decide (((i19:Nat):Int)<((l.length:Nat):Int)))) (by kernel_rfl) (λhb23=>?_) (λhb23=>?_)
 ·
  have hl24:=ilt hb23
  have h:=hlt21 hl24
  refine ae ?_
  change WC _ _ _ _ _ _
  refine a8 ?_
  refine af ?_
  refine a7 ?_
  refine vb (q_ixn (i:=i19) Tryz.underlying67 Tryz.sizeOf115 rfl rfl rfl hl24 ((hl.mono (hl4.trans hl12)).some_ hl24)) ?_
  obtain⟨A25,c26,hx27⟩:=(hl.mono (hl4.trans hl12)).verT_at i19
  refine vb (q_lda (c:=0) (vs:=[.int .i64 (gt l i19).dot.s,.int .i64 (gt l i19).dot.n,.slice A25 ((gt l i19).past).length c26,.bool (gt l i19).gone,.string (gt l i19).val]) (hx27 hl24).2 rfl Tryz.isAgg115 Tryz.sizeOf115 rfl rfl rfl) ?_
  refine e_alloc Tryz.zeroValue115 rfl rfl rfl rfl ?_
  intro g28
  refine e_st (i:=0) (v:=.agg #[.int .i64 (gt l i19).dot.s,.int .i64 (gt l i19).dot.n,.slice A25 ((gt l i19).past).length c26,.bool (gt l i19).gone,.string (gt l i19).val]) (new:=#[.int .i64 (gt l i19).dot.s,.int .i64 (gt l i19).dot.n,.slice A25 ((gt l i19).past).length c26,.bool (gt l i19).gone,.string (gt l i19).val]) rfl Tryz.sizeOf115 rfl rfl rfl rfl (by kernel_rfl) rfl rfl rfl rfl ?_
  refine a6 ?_
  intro w hw; have h029:=hw.le
  refine aa (C:=CC F Γ11 [[(g28,.cells #[.int .i64 (gt l i19).dot.s,.int .i64 (gt l i19).dot.n,.slice A25 ((gt l i19).past).length c26,.bool (gt l i19).gone,.string (gt l i19).val] 115 (0,0))],row16]) ?_ hw; clear hw
  refine av (CC F Γ11 [[(g28,.cells #[.int .i64 (gt l i19).dot.s,.int .i64 (gt l i19).dot.n,.slice A25 ((gt l i19).past).length c26,.bool (gt l i19).gone,.string (gt l i19).val] 115 (0,0))]]) (by kernel_rfl) (λw hw=>hw.drawn _) ?_
  change WH _ _ _ _ (CC F Γ11 [[(g28,.cells #[.int .i64 (gt l i19).dot.s,.int .i64 (gt l i19).dot.n,.slice A25 ((gt l i19).past).length c26,.bool (gt l i19).gone,.string (gt l i19).val] 115 (0,0))],row16]) _ 12 #[false,false,false,false,false,false,false,false,false,false,false,false] _
  refine hu 0 rfl (bk_ (Gh.refl _) h029 (.cons_cons _ (.cons _ .slnil))) (q_move (v:=.slice A14 b_13.length c15) rfl (by kernel_rfl)) ?_
  refine hu 1 rfl (bk_ (Gh.refl _) h029 (.cons_cons _ (.cons _ .slnil))) (q_fl 0 fld_115_0 rfl rfl rfl) ?_
  refine hu 2 rfl (bk_ (Gh.refl _) h029 (.cons_cons _ (.cons _ .slnil))) (q_fl 0 fld_112_0 rfl rfl rfl) ?_
  refine hu 3 rfl (bk_ (Gh.refl _) h029 (.cons_cons _ (.cons _ .slnil))) (q_ldl (i:=0) (v:=.int .i64 (gt l i19).dot.s) rfl rfl Tryz.isAgg3 rfl rfl) ?_
  refine hu 6 rfl (bk_ (Gh.refl _) h029 (.cons_cons _ (.cons _ .slnil))) (q_fl 0 fld_115_0 rfl rfl rfl) ?_
  refine hu 7 rfl (bk_ (Gh.refl _) h029 (.cons_cons _ (.cons _ .slnil))) (q_fl 1 fld_112_1 rfl rfl rfl) ?_
  refine hu 8 rfl (bk_ (Gh.refl _) h029 (.cons_cons _ (.cons _ .slnil))) (q_ldl (i:=0) (v:=.int .i64 (gt l i19).dot.n) rfl rfl Tryz.isAgg2 rfl rfl) ?_
  refine ai (i:=4) (by kernel_rfl) rfl ?_
  obtain⟨z30,hz31,h⟩:=bnd h
  refine e_call (is:=[]) rfl rfl (call_run Tryz.call124 rfl rfl (by kernel_rfl)) rfl (λw hp=>t_num_PutNum ((gt l i19).dot.s) (hx27 hl24).1.1 hp hz31) ?_
  rintro Γ32 U34 v35 hl33 ⟨A36,c37,row38,rfl,rfl,hr39,_⟩
  change WR _ _ _ (CC F Γ32 [row38,[(g28,.cells #[.int .i64 (gt l i19).dot.s,.int .i64 (gt l i19).dot.n,.slice A25 ((gt l i19).past).length c26,.bool (gt l i19).gone,.string (gt l i19).val] 115 (0,0))],row16]) _ _ (upd _ 20 (.slice A36 z30.length c37))
  refine ab ?_
  refine WH.next (bk_ hl33 h029 (.cons _ (.cons_cons _ (.cons _ .slnil)))) ?_
  refine ai (i:=5) (by kernel_rfl) rfl ?_
  obtain⟨hk40,h⟩:=chk_some h
  refine e_append (T:=byteT) (xs:=b_13) (ys:=z30) elem_136 (i:=2) rfl rfl rfl rfl rfl rfl rfl (ho17.mono hl33) (of_decide_eq_true hk40) (λw hw=>src_own (i:=0) rfl hr39 hw) ?_
  intro row41 A42 c43 ho44
  refine ab ?_
  refine WH.next (bk_ hl33 h029 (.cons _ (.cons_cons _ (.cons _ .slnil)))) ?_
  refine ai (i:=9) (by kernel_rfl) rfl ?_
  obtain⟨z45,hz46,h⟩:=bnd h
  refine e_call (is:=[]) rfl rfl (call_run Tryz.call124 rfl rfl (by kernel_rfl)) rfl (λw hp=>t_num_PutNum ((gt l i19).dot.n) (hx27 hl24).1.2.1 hp hz46) ?_
  rintro Γ47 U49 v50 hl48 ⟨A51,c52,row53,rfl,rfl,hr54,_⟩
  change WR _ _ _ (CC F Γ47 [row53,row38,[(g28,.cells #[.int .i64 (gt l i19).dot.s,.int .i64 (gt l i19).dot.n,.slice A25 ((gt l i19).past).length c26,.bool (gt l i19).gone,.string (gt l i19).val] 115 (0,0))],row41]) _ _ (upd _ 25 (.slice A51 z45.length c52))
  refine ab ?_
  refine WH.next (bk_ (hl33.trans hl48) h029 (.cons _ (.cons _ (.cons_cons _ (.cons _ .slnil))))) ?_
  refine ai (i:=10) (by kernel_rfl) rfl ?_
  obtain⟨hk55,h⟩:=chk_some h
  refine e_append (T:=byteT) (xs:=(b_13++z30)) (ys:=z45) elem_136 (i:=3) rfl rfl rfl rfl rfl rfl rfl (ho44.mono hl48) (of_decide_eq_true hk55) (λw hw=>src_own (i:=0) rfl hr54 hw) ?_
  intro row56 A57 c58 ho59
  refine ab ?_
  refine WH.next (bk_ (hl33.trans hl48) h029 (.cons _ (.cons _ (.cons_cons _ (.cons _ .slnil))))) ?_
  refine hu 11 rfl (bk_ (hl33.trans hl48) h029 (.cons _ (.cons _ (.cons_cons _ (.cons _ .slnil))))) (q_assign (v:=.slice A57 ((b_13++z30)++z45).length c58) rfl (by kernel_rfl)) ?_
  refine au (by kernel_rfl) ?_
  change WC _ _ _ _ _ _
  refine ah ?_
  refine vb (q_add_r (r:=((i19+1:Nat):Int)) rfl rfl rfl (ctr_len hl24 (hl.mono (hl4.trans hl12)).le)) ?_
  refine mv (v:=.int .i64 ((i19+1:Nat):Int)) ?_
  exact ab λw hw=>⟨hl24,((b_13++z30)++z45),h,Γ47,A57,c58,row56,(sl_ (by kernel_rfl)),(hw.only (is:=[3]) rfl),((hl12.trans hl33).trans hl48),ho59,trivial⟩
 ·
  have h:=hge22 (ige hb23)
  refine am ?_
  change WC _ _ _ _ _ _
  refine a7 ?_
  refine mv (v:=.slice A14 b_13.length c15) ?_
  obtain⟨z60,hz61,h⟩:=bnd h
  refine vc rfl rfl rfl (q_call (call_run Tryz.call100 rfl rfl (by kernel_rfl)) (λw hw=>t_num_Hash (Γ:=Gh.all w) (ho17.sl hw.sat.le_all (hw.ra 0 rfl)) ho17.capz (Sat.all w) hz61)) ?_
  refine as_ (v:=.int .u64 z60) ?_
  refine a6 ?_
  refine ac ?_
  intro w hw
  cases h
  subst hF
  exact⟨by kernel_rfl,hw.fr⟩
abbrev r_tree_halves(r:List UInt8)(U:List Rowb)(Γ:Gh)(v:Value):Prop := ∃(A0:Option Addr), ∃(c0:Nat), ∃(row0:Rowb),v = .slice A0 r.length c0∧U = [row0]∧Own byteT Γ 5 row0 A0 c0 r∧True
theorem t_tree_halves{Γ:Gh}{w0:World}{Ab:Option Addr}{cb:Nat}{rowb:Rowb}{b:List UInt8}(hb:Own byteT Γ 5 rowb Ab cb b)(h_:Int)(hh_:U64 h_)(hp:Pre [rowb] Γ w0){r:List UInt8}(h:m_tree_halves b h_=some r):Calls Tryz.prog 106 #[.slice Ab b.length cb,.int .u64 h_] w0 (Outc Γ [rowb] w0 (r_tree_halves r)):=by
 refine calls_of (N:=16) (rs:=[4]) (args:=[.slice Ab b.length cb,.int .u64 h_]) Tryz.func106 rfl Tryz.ntmps106 Tryz.results106 rfl ?_
 obtain⟨F,hF⟩:∃F:Fm,F=⟨ids [rowb],w0,Γ⟩:=⟨_,rfl⟩
 refine aa (C:=CC F Γ [rowb]) ?_ (hF▸hp.start)
 refine a7 ?_
 refine as_ (v:=.slice none 0 0) ?_
 refine a6 ?_
 refine a7 ?_
 refine mv (v:=.slice Ab b.length cb) ?_
 refine mv (v:=.int .u64 h_) ?_
 refine vb (q_shr rfl rfl rfl (by decide)) ?_
 refine vb (q_conv Tryz.underlying2 Tryz.underlying78 rfl rfl) ?_
 obtain⟨z1,hz2,h⟩:=bnd h
 refine e_call (is:=[]) rfl rfl (call_run Tryz.call124 rfl rfl (by kernel_rfl)) rfl (λw hp=>t_num_PutNum (w64 (ishr .u64 h_ 32)) (w64_r _) hp hz2) ?_
 rintro Γ3 U5 v6 hl4 ⟨A7,c8,row9,rfl,rfl,hr10,_⟩
 change WR _ _ _ (CC F Γ3 [row9,rowb]) _ _ (upd _ 9 (.slice A7 z1.length c8))
 obtain⟨hk11,h⟩:=chk_some h
 refine e_append (T:=byteT) (xs:=b) (ys:=z1) elem_136 (i:=1) rfl rfl rfl rfl rfl rfl rfl (hb.mono hl4) (of_decide_eq_true hk11) (λw hw=>src_own (i:=0) rfl hr10 hw) ?_
 intro row12 A13 c14 ho15
 refine mv (v:=.int .u64 h_) ?_
 refine vb (q_and rfl rfl rfl) ?_
 refine vb (q_conv Tryz.underlying2 Tryz.underlying78 rfl rfl) ?_
 obtain⟨z16,hz17,h⟩:=bnd h
 refine e_call (is:=[]) rfl rfl (call_run Tryz.call124 rfl rfl (by kernel_rfl)) rfl (λw hp=>t_num_PutNum (w64 (iand .u64 h_ 4294967295)) (w64_r _) hp hz17) ?_
 rintro Γ18 U20 v21 hl19 ⟨A22,c23,row24,rfl,rfl,hr25,_⟩
 change WR _ _ _ (CC F Γ18 [row24,row9,row12]) _ _ (upd _ 14 (.slice A22 z16.length c23))
 obtain⟨hk26,h⟩:=chk_some h
 refine e_append (T:=byteT) (xs:=(b++z1)) (ys:=z16) elem_136 (i:=2) rfl rfl rfl rfl rfl rfl rfl (ho15.mono hl19) (of_decide_eq_true hk26) (λw hw=>src_own (i:=0) rfl hr25 hw) ?_
 intro row27 A28 c29 ho30
 refine as_ (v:=.slice A28 ((b++z1)++z16).length c29) ?_
 refine a6 ?_
 refine ac ?_
 intro w hw
 cases h
 subst hF
 exact end_e (is:=[2]) (by kernel_rfl) hw rfl ⟨A28,c29,row27,rfl,rfl,ho30,trivial⟩
abbrev r_tree_Tree_reckon(gt_:Nat)(et_:TG)(r:OTree×Int)(U:List Rowb)(Γ:Gh)(v:Value):Prop := ∃(rowt_':Rowb),v = .int .u64 r.2∧U = [rowt_']∧OTree.ob et_ Γ gt_ rowt_' r.1∧U64 r.2∧True
theorem t_tree_Tree_reckon{Γ:Gh}{w0:World}{H:OTree→List Int→Option (OTree×Int)}(hH:HashC H){gt_:Nat}{et_:TG}{rowt_:Rowb}{t_:OTree}(ht_:OTree.ob et_ Γ gt_ rowt_ t_){Apath:Option Addr}{cpath:Nat}{path:List Int}(hpath:Sl intT Γ Apath path)(hpathc:path.length≤cpath)(hlen:∀p∈et_.2,p.1.1≤path.length)(hp:Pre [rowt_] Γ w0){r:OTree×Int}(h:m_tree_Tree_reckon H t_ path=some r):Calls Tryz.prog 91 #[(pq gt_),.slice Apath path.length cpath] w0 (Outc Γ [rowt_] w0 (r_tree_Tree_reckon gt_ et_ r)):=by
 refine calls_of (N:=51) (rs:=[4]) (args:=[(pq gt_),.slice Apath path.length cpath]) Tryz.func91 rfl Tryz.ntmps91 Tryz.results91 rfl ?_
 obtain⟨F,hF⟩:∃F:Fm,F=⟨ids [rowt_],w0,Γ⟩:=⟨_,rfl⟩
 refine aa (C:=CC F Γ [rowt_]) ?_ (hF▸hp.start)
 refine a7 ?_
 refine as_ (v:=.int .u64 0) ?_
 refine a6 ?_
 refine a7 ?_
 refine as_ (v:=.slice none 0 0) ?_
 refine a6 ?_
 refine a7 ?_
 refine as_ (v:=.bool false) ?_
 refine a6 ?_
 refine ax (λσ w => ∃(b_3:List UInt8), ∃(some_8:Bool), ∃(o9:OTree), ∃(Γ1:Gh), ∃(A4:Option Addr), ∃(c5:Nat), ∃(row6:Rowb), ∃(row10:Rowb),m_tree_Tree_reckon_j1 b_3 some_8 o9=some r∧slots σ [(5,.slice A4 b_3.length c5),(6,.bool some_8)]∧CC F Γ1 [row6,row10] w∧Gh.le Γ Γ1∧Own byteT Γ1 5 row6 A4 c5 b_3∧OTree.ob et_ Γ1 gt_ row10 o9∧True) ?_ ?_
 ·
  refine a7 ?_
  refine mv (v:=.slice Apath path.length cpath) ?_
  refine vb (q_len_slice rfl Tryz.underlying24 rfl) ?_
  refine vb (q_eql rfl rfl rfl) ?_
  refine a6 ?_
  refine aj h (by kernel_rfl) (λhb12 h=>?_) (λhb12 h=>?_)
  ·
   refine a7 ?_
   refine mv (v:=(pq gt_)) ?_
   refine mv (v:=.slice Apath path.length cpath) ?_
   obtain⟨z13,hz14,h⟩:=bnd h
   refine e_call (is:=[0]) rfl rfl (call_run Tryz.call53 rfl rfl (by kernel_rfl)) rfl (λw hp=>t_tree_Tree_Recs ht_ hpath hpathc hp hz14) ?_
   rintro Γ15 U17 v18 hl16 ⟨A19,c20,row21,rfl,rfl,hr22,_⟩
   change WR _ _ _ (CC F Γ15 [rowt_,row21]) _ _ (upd _ 16 (.slice A19 z13.length c20))
   refine vb (q_len_slice rfl Tryz.underlying23 rfl) ?_
   refine mv (v:=.int .i64 0) ?_
   refine a6 ?_
   refine af ?_
   refine ap h (λ(i32:Nat) (s:(List UInt8)×Bool) σ w=>match s with | (b_25,some_30) => ∃(Γ23:Gh), ∃(A26:Option Addr), ∃(c27:Nat), ∃(row28:Rowb),slots σ [(5,.slice A26 b_25.length c27),(6,.bool some_30),(16,.slice A19 z13.length c20),(17,.int .i64 ((z13.length:Nat):Int)),(18,.int .i64 ((i32:Nat):Int))]∧CC F Γ23 [row28,rowt_,row21] w∧Gh.le Γ15 Γ23∧Own byteT Γ23 5 row28 A26 c27 b_25∧True) ?_ ?_
   ·
    intro w hw
    have hw:=hw.pad
    exact⟨Γ15,none,0,[],(sl_ (by kernel_rfl)),hw,(Gh.refl _),(Own.nil byteT _ 5),trivial⟩
   rintro f31 i32 ⟨b_25,some_30⟩ σ w hi33 hlt34 hge35 ⟨Γ23,A26,c27,row28,hsl,hw,hl24,ho29,-⟩
   refine Wpt.slots hsl ?_
   refine aa (C:=CC F Γ23 [row28,rowt_,row21]) ?_ hw
   clear hw hsl
   refine a7 ?_
   refine vb (q_lss rfl rfl rfl) ?_
   refine a6 ?_
   refine a8 ?_
   refine WC.cond (b:=(decide (((i32:Nat):Int)<((z13.length:Nat):Int)))) (by kernel_rfl) (λhb36=>?_) (λhb36=>?_)
   ·
    have hl37:=ilt hb36
    have h:=hlt34 hl37
    refine ae ?_
    change WC _ _ _ _ _ _
    refine a8 ?_
    refine af ?_
    refine a7 ?_
    refine vb (q_ixn (i:=i32) Tryz.underlying23 Tryz.sizeOf70 rfl rfl rfl hl37 ((hr22.mono hl24).some_ hl37)) ?_
    obtain⟨A38,c39,hx40⟩:=(hr22.mono hl24).recT_at i32
    refine vb (q_ldoa (c:=0) (vs:=[.string (gt z13 i32).key,.slice A38 ((gt z13 i32).vers).length c39]) (i:=2) rfl (hx40 hl37).2 rfl Tryz.isAgg70 Tryz.sizeOf70 rfl rfl) ?_
    refine e_alloc Tryz.zeroValue70 rfl rfl rfl rfl ?_
    intro g41
    refine e_st (i:=0) (v:=.agg #[.string (gt z13 i32).key,.slice A38 ((gt z13 i32).vers).length c39]) (new:=#[.string (gt z13 i32).key,.slice A38 ((gt z13 i32).vers).length c39]) rfl Tryz.sizeOf70 rfl rfl rfl rfl (by kernel_rfl) rfl rfl rfl rfl ?_
    refine a6 ?_
    refine a7 ?_
    refine mv (v:=.slice A26 b_25.length c27) ?_
    refine vb (q_fl 0 fld_70_0 rfl rfl rfl) ?_
    refine vb (q_ldl (i:=0) (v:=.string (gt z13 i32).key) rfl rfl Tryz.isAgg9 rfl rfl) ?_
    refine vb (q_fl 1 fld_70_1 rfl rfl rfl) ?_
    refine vb (q_ldl (i:=0) (v:=.slice A38 ((gt z13 i32).vers).length c39) rfl rfl Tryz.isAgg67 rfl rfl) ?_
    obtain⟨z42,hz43,h⟩:=bnd h
    refine vc rfl rfl rfl (q_call (call_run Tryz.call107 rfl rfl (by kernel_rfl)) (λw hw=>t_vers_Mark (Γ:=Gh.all w) ((gt z13 i32).key) (hx40 hl37).1.1 ((hx40 hl37).1.2.2.mono hw.sat.le_all) (hx40 hl37).1.2.1 (Sat.all w) hz43)) ?_
    obtain⟨hk44,h⟩:=chk_some h
    obtain⟨z45,hz46,h⟩:=bnd h
    refine e_call (is:=[1]) rfl rfl (call_run Tryz.call106 rfl rfl (by kernel_rfl)) rfl (λw hp=>t_tree_halves ho29 z42 (u64b_of hk44) hp hz46) ?_
    rintro Γ47 U49 v50 hl48 ⟨A51,c52,row53,rfl,rfl,hr54,_⟩
    change WR _ _ _ (CC F Γ47 [row53,[(g41,.cells #[.string (gt z13 i32).key,.slice A38 ((gt z13 i32).vers).length c39] 70 (0,0))],rowt_,row21]) _ _ (upd _ 28 (.slice A51 z45.length c52))
    refine as_ (v:=.slice A51 z45.length c52) ?_
    refine a6 ?_
    refine ah ?_
    refine as_ (v:=.bool true) ?_
    refine ab ?_
    change WC _ _ _ _ _ _
    refine ah ?_
    refine vb (q_add_r (r:=((i32+1:Nat):Int)) rfl rfl rfl (ctr_len hl37 (hr22.mono hl24).le)) ?_
    refine mv (v:=.int .i64 ((i32+1:Nat):Int)) ?_
    exact ab λw hw=>⟨hl37,(z45,true),h,Γ47,A51,c52,row53,(sl_ (by kernel_rfl)),(hw.only (is:=[0,1,1]) rfl),(hl24.trans hl48),hr54,trivial⟩
   ·
    have h:=hge35 (ige hb36)
    exact am λw hw=>⟨b_25,some_30,t_,Γ23,A26,c27,row28,rowt_,h,(sl_ (by kernel_rfl)),(hw.only (is:=[0,0]) rfl),(hl16.trans hl24),ho29,(ht_.mono (hl16.trans hl24)),trivial⟩
  ·
   refine a7 ?_
   refine mv (v:=(pq gt_)) ?_
   refine mv (v:=.slice Apath path.length cpath) ?_
   obtain⟨z55,hz56,h⟩:=bnd h
   refine e_call (is:=[0]) rfl rfl (call_run Tryz.call53 rfl rfl (by kernel_rfl)) rfl (λw hp=>t_tree_Tree_Recs ht_ hpath hpathc hp hz56) ?_
   rintro Γ57 U59 v60 hl58 ⟨A61,c62,row63,rfl,rfl,hr64,_⟩
   change WR _ _ _ (CC F Γ57 [rowt_,row63]) _ _ (upd _ 32 (.slice A61 z55.length c62))
   refine vb (q_len_slice rfl Tryz.underlying23 rfl) ?_
   refine vb (q_gtr rfl rfl rfl) ?_
   refine as_ (v:=.bool (decide (0<((z55.length:Nat):Int)))) ?_
   refine a6 ?_
   refine a7 ?_
   refine mv (v:=(pq gt_)) ?_
   refine mv (v:=.slice Apath path.length cpath) ?_
   obtain⟨z65,hz66,h⟩:=bnd h
   refine e_call (is:=[0]) rfl rfl (call_run Tryz.call52 rfl rfl (by kernel_rfl)) rfl (λw hp=>t_tree_Tree_Kids hH (ht_.mono hl58) (hpath.mono hl58) hpathc hlen hp hz66) ?_
   rintro Γ67 U69 v70 hl68 ⟨row71,A73,c74,row75,rfl,rfl,hr72,hr76,hz77,_⟩
   change WR _ _ _ (CC F Γ67 [row71,row75,row63]) _ _ (upd _ 37 (.slice A73 z65.2.length c74))
   refine vb (q_len_slice rfl Tryz.underlying33 rfl) ?_
   refine mv (v:=.int .i64 0) ?_
   refine a6 ?_
   refine af ?_
   refine ap h (λ(i86:Nat) (b_80:List UInt8) σ w => ∃(Γ78:Gh), ∃(A81:Option Addr), ∃(c82:Nat), ∃(row83:Rowb),slots σ [(5,.slice A81 b_80.length c82),(6,.bool (decide (0<((z55.length:Nat):Int)))),(37,.slice A73 z65.2.length c74),(38,.int .i64 ((z65.2.length:Nat):Int)),(39,.int .i64 ((i86:Nat):Int))]∧CC F Γ78 [row83,row71,row75] w∧Gh.le Γ67 Γ78∧Own byteT Γ78 5 row83 A81 c82 b_80∧True) ?_ ?_
   ·
    intro w hw
    have hw:=hw.pad
    exact⟨Γ67,none,0,[],(sl_ (by kernel_rfl)),(hw.only (is:=[0,0,0]) rfl),(Gh.refl _),(Own.nil byteT _ 5),trivial⟩
   rintro f85 i86 b_80 σ w hi87 hlt88 hge89 ⟨Γ78,A81,c82,row83,hsl,hw,hl79,ho84,-⟩
   refine Wpt.slots hsl ?_
   refine aa (C:=CC F Γ78 [row83,row71,row75]) ?_ hw
   clear hw hsl
   refine a7 ?_
   refine vb (q_lss rfl rfl rfl) ?_
   refine a6 ?_
   refine a8 ?_
   refine WC.cond (b:=(decide (((i86:Nat):Int)<((z65.2.length:Nat):Int)))) (by kernel_rfl) (λhb90=>?_) (λhb90=>?_)
   ·
    have hl91:=ilt hb90
    have h:=hlt88 hl91
    refine ae ?_
    change WC _ _ _ _ _ _
    refine a8 ?_
    refine af ?_
    refine a7 ?_
    refine vb (q_ixn (i:=i86) Tryz.underlying33 Tryz.sizeOf78 rfl rfl rfl hl91 ((hr76.mono hl79).some_ hl91)) ?_
    refine vb (q_ldo (c:=0) (v:=.int .u64 (gt z65.2 i86)) (i:=2) rfl ((hr76.mono hl79).u64T_at hl91).2 rfl Tryz.isAgg78 rfl rfl) ?_
    refine as_ (v:=.int .u64 (gt z65.2 i86)) ?_
    refine a6 ?_
    refine ah ?_
    refine mv (v:=.slice A81 b_80.length c82) ?_
    refine mv (v:=.int .u64 (gt z65.2 i86)) ?_
    obtain⟨z92,hz93,h⟩:=bnd h
    refine e_call (is:=[0]) rfl rfl (call_run Tryz.call106 rfl rfl (by kernel_rfl)) rfl (λw hp=>t_tree_halves ho84 (gt z65.2 i86) ((hr76.mono hl79).u64T_at hl91).1 hp hz93) ?_
    rintro Γ94 U96 v97 hl95 ⟨A98,c99,row100,rfl,rfl,hr101,_⟩
    change WR _ _ _ (CC F Γ94 [row100,row71,row75]) _ _ (upd _ 45 (.slice A98 z92.length c99))
    refine as_ (v:=.slice A98 z92.length c99) ?_
    refine ab ?_
    change WC _ _ _ _ _ _
    refine ah ?_
    refine vb (q_add_r (r:=((i86+1:Nat):Int)) rfl rfl rfl (ctr_len hl91 (hr76.mono hl79).le)) ?_
    refine mv (v:=.int .i64 ((i86+1:Nat):Int)) ?_
    exact ab λw hw=>⟨hl91,z92,h,Γ94,A98,c99,row100,(sl_ (by kernel_rfl)),hw,(hl79.trans hl95),hr101,trivial⟩
   ·
    have h:=hge89 (ige hb90)
    exact am λw hw=>⟨b_80,(decide (0<((z55.length:Nat):Int))),z65.1,Γ78,A81,c82,row83,row71,h,(sl_ (by kernel_rfl)),(hw.only (is:=[0,0]) rfl),((hl58.trans hl68).trans hl79),ho84,(hr72.mono hl79),trivial⟩
 ·
  rintro σ w ⟨b_3,some_8,o9,Γ1,A4,c5,row6,row10,h,hsl,hw,hl2,ho7,ho11,-⟩
  refine Wpt.slots hsl ?_
  refine aa (C:=CC F Γ1 [row6,row10]) ?_ hw
  clear hw hsl
  refine a8 ?_
  refine a7 ?_
  refine mv (v:=.bool some_8) ?_
  refine vb (q_not rfl rfl) ?_
  refine a6 ?_
  refine aj h (by kernel_rfl) (λhb102 h=>?_) (λhb102 h=>?_)
  ·
   refine a7 ?_
   refine as_ (v:=.int .u64 0) ?_
   refine a6 ?_
   refine ac ?_
   intro w hw
   cases h
   subst hF
   exact end_e (is:=[1]) (by kernel_rfl) hw rfl ⟨row10,rfl,rfl,ho11,(show U64 0 by decide),trivial⟩
  ·
   refine ae ?_
   change WC _ _ _ _ _ _
   refine a7 ?_
   refine mv (v:=.slice A4 b_3.length c5) ?_
   obtain⟨z103,hz104,h⟩:=bnd h
   refine vc rfl rfl rfl (q_call (call_run Tryz.call100 rfl rfl (by kernel_rfl)) (λw hw=>t_num_Hash (Γ:=Gh.all w) (ho7.sl hw.sat.le_all (hw.ra 0 rfl)) ho7.capz (Sat.all w) hz104)) ?_
   refine as_ (v:=.int .u64 z103) ?_
   refine a6 ?_
   refine ac ?_
   intro w hw
   obtain⟨hk105,h⟩:=chk_some h
   cases h
   subst hF
   exact end_e (is:=[1]) (by kernel_rfl) hw rfl ⟨row10,rfl,rfl,ho11,(u64b_of hk105),trivial⟩
theorem OTree.back{e:TypeId}{k:Int×Int×Int}{gs:Nat}{l:List ((Int×Int×Int)×Nat)}{Γ:Gh}{g:Nat}{row:Rowb}{x:OTree}{hv:Int}(h:OTree.ob (e,(k,gs)::l) Γ g row x)(hu:U64 hv):OTree.ob (e,l) Γ g (row++[sumO 158 gs hv]) ⟨x.leaves,x.sums++[(k,hv)]⟩:=by
  obtain⟨cs,rowL,sm,rowS,h1,h2,h3,h4,-⟩:=h
  exact⟨cs,rowL,sm,rowS++[sumO 158 gs hv],by rw [h1]; simp only [List.flatten_cons,List.flatten_nil,List.append_nil,List.append_assoc],h2,h3,h4.back hu,trivial⟩
set_option maxRecDepth 100000 in
set_option maxHeartbeats 400000 in
theorem t_hash1{H:OTree→List Int→Option (OTree×Int)}(hH:HashC H){Γ:Gh}{w0:World}{gt_:Nat}{et:TG}{rowt:Rowb}{t:OTree}(ht_:OTree.ob et Γ gt_ rowt t){A:Option Addr}{c:Nat}{path:List Int}(hpath:Sl intT Γ A path)(hc:path.length≤c)(hlen:∀p∈et.2,p.1.1≤(path.length:Int)){b2 b3 b7 gs:Nat}{h0:Int}
    (hp:Pre [[(b2,.cells #[.pointer (some ⟨gt_,0,none⟩)] 79 (0,0))],[(b3,.cells #[.slice A path.length c] 24 (0,0))],[(b7,.cells #[.pointer (some ⟨gs,0,none⟩)] 144 (0,0))],rowt,[(gs,.cells #[.int .u32 0,.int .i32 1,.int .u32 0,.int .u64 h0] 158 (0,0))]] Γ w0) {r:OTree×Int} (h:m_tree_Tree_reckon H t path=some r) :
    Calls Tryz.prog 90 #[.pointer (some ⟨b2,0,none⟩),.pointer (some ⟨b3,0,none⟩),.pointer (some ⟨b7,0,none⟩)] w0 (Outc Γ [[(b2,.cells #[.pointer (some ⟨gt_,0,none⟩)] 79 (0,0))],[(b3,.cells #[.slice A path.length c] 24 (0,0))],[(b7,.cells #[.pointer (some ⟨gs,0,none⟩)] 144 (0,0))],rowt,[(gs,.cells #[.int .u32 0,.int .i32 1,.int .u32 0,.int .u64 h0] 158 (0,0))]] w0
      λU Δ v => ∃rowt':Rowb,v = .tuple #[]∧U = [[(b2,.cells #[.pointer (some ⟨gt_,0,none⟩)] 79 (0,0))],[(b3,.cells #[.slice A path.length c] 24 (0,0))],[(b7,.cells #[.pointer (some ⟨gs,0,none⟩)] 144 (0,0))],rowt',[(gs,.cells #[.int .u32 0,.int .i32 1,.int .u32 0,.int .u64 r.2] 158 (0,0))]]∧OTree.ob et Δ gt_ rowt' r.1∧U64 r.2∧True):=by
  refine calls_of (N:=9) (rs:=[]) (args:=[.pointer (some ⟨b2,0,none⟩),.pointer (some ⟨b3,0,none⟩),.pointer (some ⟨b7,0,none⟩)]) Tryz.func90 rfl Tryz.ntmps90 Tryz.results90 rfl ?_
  obtain⟨F,hF⟩:∃F:Fm,F=⟨ids [[(b2,.cells #[.pointer (some ⟨gt_,0,none⟩)] 79 (0,0))],[(b3,.cells #[.slice A path.length c] 24 (0,0))],[(b7,.cells #[.pointer (some ⟨gs,0,none⟩)] 144 (0,0))],rowt,[(gs,.cells #[.int .u32 0,.int .i32 1,.int .u32 0,.int .u64 h0] 158 (0,0))]],w0,Γ⟩:=⟨_,rfl⟩
  refine aa (C:=CC F Γ [[(b2,.cells #[.pointer (some ⟨gt_,0,none⟩)] 79 (0,0))],[(b3,.cells #[.slice A path.length c] 24 (0,0))],[(b7,.cells #[.pointer (some ⟨gs,0,none⟩)] 144 (0,0))],rowt,[(gs,.cells #[.int .u32 0,.int .i32 1,.int .u32 0,.int .u64 h0] 158 (0,0))]]) ?_ (hF▸hp.start)
  intro w hw; have h00:=hw.le
  refine aa (C:=CC F Γ [[(b2,.cells #[.pointer (some ⟨gt_,0,none⟩)] 79 (0,0))],[(b3,.cells #[.slice A path.length c] 24 (0,0))],[(b7,.cells #[.pointer (some ⟨gs,0,none⟩)] 144 (0,0))],rowt,[(gs,.cells #[.int .u32 0,.int .i32 1,.int .u32 0,.int .u64 h0] 158 (0,0))]]) ?_ hw; clear hw
  refine av (CC F Γ [[(b2,.cells #[.pointer (some ⟨gt_,0,none⟩)] 79 (0,0))],[(b3,.cells #[.slice A path.length c] 24 (0,0))],[(b7,.cells #[.pointer (some ⟨gs,0,none⟩)] 144 (0,0))]]) (by kernel_rfl) (λw hw=>hw.drawn _) ?_
  change WH _ _ _ _ (CC F Γ [[(b2,.cells #[.pointer (some ⟨gt_,0,none⟩)] 79 (0,0))],[(b3,.cells #[.slice A path.length c] 24 (0,0))],[(b7,.cells #[.pointer (some ⟨gs,0,none⟩)] 144 (0,0))],rowt,[(gs,.cells #[.int .u32 0,.int .i32 1,.int .u32 0,.int .u64 h0] 158 (0,0))]]) _ 7 #[false,false,false,false,false,false,false] _
  refine ht (i:=0) rfl (by kernel_rfl) rfl rfl rfl (λw hw=>hw.back (Gh.refl _) h00 (.cons_cons _ (.cons_cons _ (.cons_cons _ (.cons _ (.cons _ .slnil)))))) (q_ldl (i:=2) (v:=.pointer (some ⟨gs,0,none⟩)) rfl rfl Tryz.isAgg144 rfl rfl) ?_
  refine ht (i:=1) rfl (by kernel_rfl) rfl rfl rfl (λw hw=>hw.back (Gh.refl _) h00 (.cons_cons _ (.cons_cons _ (.cons_cons _ (.cons _ (.cons _ .slnil)))))) (q_ldl (i:=0) (v:=.pointer (some ⟨gt_,0,none⟩)) rfl rfl Tryz.isAgg79 rfl rfl) ?_
  refine ht (i:=2) rfl (by kernel_rfl) rfl rfl rfl (λw hw=>hw.back (Gh.refl _) h00 (.cons_cons _ (.cons_cons _ (.cons_cons _ (.cons _ (.cons _ .slnil)))))) (q_ldl (i:=1) (v:=.slice A path.length c) rfl rfl Tryz.isAgg24 rfl rfl) ?_
  refine ai (i:=3) (by kernel_rfl) rfl ?_
  refine e_call (is:=[3]) rfl rfl (call_run Tryz.call91 rfl rfl (by kernel_rfl)) rfl (λw hp=>t_tree_Tree_reckon hH ht_ hpath hc hlen hp h) ?_
  rintro Γ1 U1 v1 hl1 ⟨rowt',rfl,rfl,hob,hu,-⟩
  change WR _ _ _ (CC F Γ1 [rowt',[(b2,.cells #[.pointer (some ⟨gt_,0,none⟩)] 79 (0,0))],[(b3,.cells #[.slice A path.length c] 24 (0,0))],[(b7,.cells #[.pointer (some ⟨gs,0,none⟩)] 144 (0,0))],[(gs,.cells #[.int .u32 0,.int .i32 1,.int .u32 0,.int .u64 h0] 158 (0,0))]]) _ _ (upd _ 6 (.int .u64 r.2))
  refine ab ?_
  refine WH.next (λw hw=>hw.back hl1 h00 (.cons _ (.cons_cons _ (.cons_cons _ (.cons_cons _ (.cons _ .slnil)))))) ?_
  refine ht (i:=4) rfl (by kernel_rfl) rfl rfl rfl (λw hw=>hw.back hl1 h00 (.cons _ (.cons_cons _ (.cons_cons _ (.cons_cons _ (.cons _ .slnil)))))) (q_nil (A:=some ⟨gs,0,none⟩) rfl rfl rfl) ?_
  refine ht (i:=5) rfl (by kernel_rfl) rfl rfl rfl (λw hw=>hw.back hl1 h00 (.cons _ (.cons_cons _ (.cons_cons _ (.cons_cons _ (.cons _ .slnil)))))) (q_fl 3 fld_158_1 rfl rfl rfl) ?_
  refine ai (i:=6) (by kernel_rfl) rfl ?_
  refine e_st (i:=4) (v:=.int .u64 r.2) (new:=#[.int .u32 0,.int .i32 1,.int .u32 0,.int .u64 r.2]) rfl Tryz.sizeOf78 rfl rfl rfl rfl (by kernel_rfl) rfl rfl rfl rfl ?_
  refine ab ?_
  refine WH.next (λw hw=>hw.back hl1 h00 (.cons _ (.cons_cons _ (.cons_cons _ (.cons_cons _ (.cons _ .slnil)))))) ?_
  refine au (by kernel_rfl) ?_
  intro w hw
  subst hF
  exact end_e (is:=[1,1,1,0,0]) (by kernel_rfl) hw rfl ⟨rowt',rfl,rfl,hob,hu,trivial⟩
set_option maxRecDepth 100000 in
set_option maxHeartbeats 400000 in
theorem t_once{H:OTree→List Int→Option (OTree×Int)}(hH:HashC H){Γ:Gh}{w0:World}{gt_:Nat}{et:TG}{rowt:Rowb}{t:OTree}(ht_:OTree.ob et Γ gt_ rowt t){A:Option Addr}{c:Nat}{path:List Int}(hpath:Sl intT Γ A path)(hc:path.length≤c)(hlen:∀p∈et.2,p.1.1≤(path.length:Int)){b2 b3 b7 gs:Nat}{h0:Int}
    (hp:Pre [[(b2,.cells #[.pointer (some ⟨gt_,0,none⟩)] 79 (0,0))],[(b3,.cells #[.slice A path.length c] 24 (0,0))],[(b7,.cells #[.pointer (some ⟨gs,0,none⟩)] 144 (0,0))],rowt,[(gs,.cells #[.int .u32 0,.int .i32 0,.int .u32 0,.int .u64 h0] 158 (0,0))]] Γ w0) {r:OTree×Int} (h:m_tree_Tree_reckon H t path=some r) :
    Calls Tryz.prog 89 #[.pointer (some ⟨gs,0,none⟩),.func (.func 90) #[] #[.pointer (some ⟨b2,0,none⟩),.pointer (some ⟨b3,0,none⟩),.pointer (some ⟨b7,0,none⟩)]] w0 (Outc Γ [[(b2,.cells #[.pointer (some ⟨gt_,0,none⟩)] 79 (0,0))],[(b3,.cells #[.slice A path.length c] 24 (0,0))],[(b7,.cells #[.pointer (some ⟨gs,0,none⟩)] 144 (0,0))],rowt,[(gs,.cells #[.int .u32 0,.int .i32 0,.int .u32 0,.int .u64 h0] 158 (0,0))]] w0
      λU Δ v => ∃rowt':Rowb,v = .tuple #[]∧U = [[(b2,.cells #[.pointer (some ⟨gt_,0,none⟩)] 79 (0,0))],[(b3,.cells #[.slice A path.length c] 24 (0,0))],[(b7,.cells #[.pointer (some ⟨gs,0,none⟩)] 144 (0,0))],rowt',[(gs,.cells #[.int .u32 1,.int .i32 0,.int .u32 0,.int .u64 r.2] 158 (0,0))]]∧OTree.ob et Δ gt_ rowt' r.1∧U64 r.2∧True):=by
  have hs:w0.heap[gs]? = some (.cells #[.int .u32 0,.int .i32 0,.int .u32 0,.int .u64 h0] 158 (0,0)):=hp.loc [(gs,.cells #[.int .u32 0,.int .i32 0,.int .u32 0,.int .u64 h0] 158 (0,0))] (by simp) (gs,.cells #[.int .u32 0,.int .i32 0,.int .u32 0,.int .u64 h0] 158 (0,0)) (by simp)
  have c1:=hp.start.setCell (i:=4) (j:=1) (v:=.int .i32 1) (g:=gs) (cs:=#[.int .u32 0,.int .i32 0,.int .u32 0,.int .u64 h0]) (new:=#[.int .u32 0,.int .i32 1,.int .u32 0,.int .u64 h0]) (t:=158) rfl rfl
  have hcl:=t_hash1 hH ht_ hpath hc hlen (b2:=b2) (b3:=b3) (b7:=b7) (gs:=gs) (h0:=h0) c1.pre h
  refine(Once.do_first gs 90 #[.pointer (some ⟨b2,0,none⟩),.pointer (some ⟨b3,0,none⟩),.pointer (some ⟨b7,0,none⟩)] (λw2 => ∃(Δ:Gh) (rowt':Rowb),Eff Γ Δ [[(b2,.cells #[.pointer (some ⟨gt_,0,none⟩)] 79 (0,0))],[(b3,.cells #[.slice A path.length c] 24 (0,0))],[(b7,.cells #[.pointer (some ⟨gs,0,none⟩)] 144 (0,0))],rowt,[(gs,.cells #[.int .u32 0,.int .i32 1,.int .u32 0,.int .u64 h0] 158 (0,0))]]
    [[(b2,.cells #[.pointer (some ⟨gt_,0,none⟩)] 79 (0,0))],[(b3,.cells #[.slice A path.length c] 24 (0,0))],[(b7,.cells #[.pointer (some ⟨gs,0,none⟩)] 144 (0,0))],rowt',[(gs,.cells #[.int .u32 0,.int .i32 1,.int .u32 0,.int .u64 r.2] 158 (0,0))]] (w0.setCell ⟨gs,1,none⟩ (.int .i32 1)) w2∧OTree.ob et Δ gt_ rowt' r.1∧U64 r.2) w0 ?_ ?_ ?_ Tryz.call90 (hcl.mono ?_) ?_).mono ?_
  · rw [cell_of_row _ _ _ _ _ _ hs]; rfl
  · rw [cell_of_row _ _ _ _ _ _ hs]; rfl
  · simp [World.frozen?,hs]
  · rintro e w2 ⟨v,rfl,Δ,U',he,rowt',rfl,rfl,hob,hu,-⟩
    exact⟨rfl,Δ,rowt',he,hob,hu⟩
  · rintro w2 ⟨Δ,rowt',he,hob,hu⟩
    have hb:w2.heap[gs]? = some (.cells #[.int .u32 0,.int .i32 1,.int .u32 0,.int .u64 r.2] 158 (0,0)):=he.loc [(gs,.cells #[.int .u32 0,.int .i32 1,.int .u32 0,.int .u64 r.2] 158 (0,0))] (by simp) (gs,.cells #[.int .u32 0,.int .i32 1,.int .u32 0,.int .u64 r.2] 158 (0,0)) (by simp)
    exact⟨by rw [cell_of_row _ _ _ _ _ _ hb]; rfl,by rw [cell_of_row _ _ _ _ _ _ hb]; rfl,by simp [World.frozen?,hb],by simp [World.frozen?,hb]⟩
  · rintro e w' ⟨rfl,w2,⟨Δ,rowt',he,hob,hu⟩,rfl⟩
    have c2:=Cur.eff (R:=[]) c1 he
    have c3:=c2.drew.setCell (i:=4) (j:=0) (v:=.int .u32 1) (g:=gs) (cs:=#[.int .u32 0,.int .i32 1,.int .u32 0,.int .u64 r.2]) (new:=#[.int .u32 1,.int .i32 1,.int .u32 0,.int .u64 r.2]) (t:=158) rfl rfl
    have c4:=c3.setCell (i:=4) (j:=1) (v:=.int .i32 0) (g:=gs) (cs:=#[.int .u32 1,.int .i32 1,.int .u32 0,.int .u64 r.2]) (new:=#[.int .u32 1,.int .i32 0,.int .u32 0,.int .u64 r.2]) (t:=158) rfl rfl
    exact⟨_,rfl,Δ,_,c4.toEff,rowt',rfl,rfl,hob,hu,trivial⟩
set_option maxRecDepth 100000 in
set_option maxHeartbeats 400000 in
theorem t_hash_step{H:OTree→List Int→Option (OTree×Int)}(hH:HashC H):HashC (m_hashB H):=by
  intro Γ w0 gt_ et rowt t ht_ A c path hpath hc hlen hp r h
  refine calls_of (N:=40) (rs:=[4]) (args:=[.pointer (some ⟨gt_,0,none⟩),.slice A path.length c]) Tryz.func75 rfl Tryz.ntmps75 Tryz.results75 rfl ?_
  obtain⟨F,hF⟩:∃F:Fm,F=⟨ids [rowt],w0,Γ⟩:=⟨_,rfl⟩
  refine aa (C:=CC F Γ [rowt]) ?_ (hF▸hp.start)
  refine a7 ?_
  refine e_box (v:=.pointer (some ⟨gt_,0,none⟩)) rfl rfl rfl rfl (by kernel_rfl) ?_
  intro b2
  refine e_box (v:=.slice A path.length c) rfl rfl rfl rfl (by kernel_rfl) ?_
  intro b3
  refine va rfl rfl rfl (q_assign (v:=.int .u64 0) rfl (by kernel_rfl)) ?_
  refine ab ?_
  change WC _ _ _ _ _ _
  refine a7 ?_
  refine va rfl rfl rfl (q_ldl (i:=0) (v:=.slice A path.length c) rfl rfl Tryz.isAgg24 rfl rfl) ?_
  obtain⟨z1,hz2,h⟩:=bnd h
  refine vc rfl rfl rfl (q_call (call_run Tryz.call74 rfl rfl (by kernel_rfl)) (λw hw=>t_tree_at (Γ:=Gh.all w) (hpath.mono hw.sat.le_all) hc (Sat.all w) hz2)) ?_
  refine va rfl rfl rfl (q_move (v:=.tuple #[.agg #[.int .i64 z1.1.1,.int .i64 z1.1.2.1,.int .i64 z1.1.2.2],.bool z1.2]) rfl (by kernel_rfl)) ?_
  refine va rfl rfl rfl (q_extract (v:=.agg #[.int .i64 z1.1.1,.int .i64 z1.1.2.1,.int .i64 z1.1.2.2]) rfl rfl rfl) ?_
  refine va rfl rfl rfl (q_extract (v:=.bool z1.2) rfl rfl rfl) ?_
  refine e_alloc Tryz.zeroValue125 rfl rfl rfl rfl ?_
  intro g5
  refine e_st (i:=0) (v:=.agg #[.int .i64 z1.1.1,.int .i64 z1.1.2.1,.int .i64 z1.1.2.2]) (new:=#[.int .i64 z1.1.1,.int .i64 z1.1.2.1,.int .i64 z1.1.2.2]) rfl Tryz.sizeOf125 rfl rfl rfl rfl (by kernel_rfl) rfl rfl rfl rfl ?_
  refine va rfl rfl rfl (q_assign (v:=.bool z1.2) rfl (by kernel_rfl)) ?_
  refine ab ?_
  change WC _ _ _ _ _ _
  refine a8 ?_
  refine a7 ?_
  refine va rfl rfl rfl (q_move (v:=.bool z1.2) rfl (by kernel_rfl)) ?_
  refine va rfl rfl rfl (q_not rfl rfl) ?_
  refine ab ?_
  change WC _ _ _ _ _ _
  refine aj h (by kernel_rfl) (λhb7 h=>?_) (λhb7 h=>?_)
  · skip
    refine a7 ?_
    refine va rfl rfl rfl (q_assign (v:=.int .u64 0) rfl (by kernel_rfl)) ?_
    refine ab ?_
    change WC _ _ _ _ _ _
    refine ac ?_
    intro w hw
    cases h
    subst hF
    exact end_e (is:=[3]) (by kernel_rfl) hw rfl ⟨rowt,rfl,rfl,ht_,(show U64 0 by decide),trivial⟩
  skip
  refine ae ?_
  change WC _ _ _ _ _ _
  obtain⟨hk1,h⟩:=chk_some h
  obtain⟨hk2,h⟩:=chk_some h
  obtain⟨hk3,h⟩:=chk_some h
  have hq:=ht_
  obtain⟨cs,rowL,sm,rowS,hrow,hM,hl,hS,-⟩:=hq
  have hx:∀p∈et.2,p.1≠z1.1:=λp hp e=>by
    have h9:=hlen p hp
    rw [e,of_decide_eq_true hk1] at h9
    omega
  have hblk:(gt_,Obj.cells (cs++[Value.map (some sm)]).toArray et.1 (0,0))∈rowt:=hrow▸List.mem_flatten.2 ⟨([(gt_,.cells (cs++[Value.map (some sm)]).toArray et.1 (0,0))]:Rowb),List.mem_cons_self ..,List.mem_singleton.2 rfl⟩
  rcases hS.look hx (.pointer none) with ⟨hv,gs,rowM,B,hm,hu,hrS,hsum,hat⟩ | ⟨hm,own,rowM,ho1,ho2,hon,hrS,hat⟩
  · simp only [hm] at h
    have hmM:∀p∈rowM,p∈rowt:=λp hp=>hrow▸List.mem_flatten.2 ⟨rowS,by simp,by rw [hrS]; exact List.mem_append_left _ hp⟩
    have hsum':(gs,Obj.cells #[.int .u32 1,.int .i32 0,.int .u32 0,.int .u64 hv] 158 (0,0))∈rowt:=hrow▸List.mem_flatten.2 ⟨rowS,by simp,hsum⟩
    refine a8 ?_
    intro w hw; have h00:=hw.le
    refine aa (C:=CC F Γ [[(g5,.cells #[.int .i64 z1.1.1,.int .i64 z1.1.2.1,.int .i64 z1.1.2.2] 125 (0,0))],[(b3,.cells #[.slice A path.length c] 24 (0,0))],[(b2,.cells #[.pointer (some ⟨gt_,0,none⟩)] 79 (0,0))],rowt]) ?_ hw; clear hw
    refine av (CC F Γ [[(g5,.cells #[.int .i64 z1.1.1,.int .i64 z1.1.2.1,.int .i64 z1.1.2.2] 125 (0,0))],[(b3,.cells #[.slice A path.length c] 24 (0,0))],[(b2,.cells #[.pointer (some ⟨gt_,0,none⟩)] 79 (0,0))],rowt]) (by kernel_rfl) (λw hw=>hw.drawn _) ?_
    change WH _ _ _ _ (CC F Γ [[(g5,.cells #[.int .i64 z1.1.1,.int .i64 z1.1.2.1,.int .i64 z1.1.2.2] 125 (0,0))],[(b3,.cells #[.slice A path.length c] 24 (0,0))],[(b2,.cells #[.pointer (some ⟨gt_,0,none⟩)] 79 (0,0))],rowt]) _ 8 #[false,false,false,false,false,false,false,false] _
    refine ht (i:=0) rfl (by kernel_rfl) rfl rfl rfl (λw hw=>hw) (q_ldl (i:=2) (v:=.pointer (some ⟨gt_,0,none⟩)) rfl rfl Tryz.isAgg79 rfl rfl) ?_
    refine ht (i:=1) rfl (by kernel_rfl) rfl rfl rfl (λw hw=>hw) (q_nil (A:=some ⟨gt_,0,none⟩) rfl rfl rfl) ?_
    refine ht (i:=2) rfl (by kernel_rfl) rfl rfl rfl (λw hw=>hw) (q_fl 256 fld_123_1 rfl rfl rfl) ?_
    refine ht (i:=3) rfl (by kernel_rfl) rfl rfl rfl (λw hw=>hw) (q_ldr (i:=3) (v:=.map (some sm)) rfl hblk rfl Tryz.isAgg118 rfl (blk_end (hM.len.trans hl))) ?_
    refine ht (i:=4) rfl (by kernel_rfl) rfl rfl rfl (λw hw=>hw) (q_ldla (i:=0) (vs:=[.int .i64 z1.1.1,.int .i64 z1.1.2.1,.int .i64 z1.1.2.2]) rfl rfl Tryz.isAgg125 Tryz.sizeOf125 rfl rfl) ?_
    refine ht (i:=5) rfl (by kernel_rfl) rfl rfl rfl (λw hw=>hw) (q_lookup1r (row:=rowM) (x:=z1.1) (v:=.pointer (some ⟨gs,0,none⟩)) (λw hw p hp=>hw.at_ (i:=3) rfl (hmM p hp)) hat rfl Tryz.underlying118 Tryz.zeroValue144 rfl rfl) ?_
    refine ai (i:=6) (by kernel_rfl) rfl ?_
    refine e_alloc Tryz.zeroValue144 rfl rfl rfl rfl ?_
    intro b7
    refine ab ?_
    refine WH.next (λw hw=>hw.back (Gh.refl _) h00 (.cons _ (.cons_cons _ (.cons_cons _ (.cons_cons _ (.cons_cons _ .slnil)))))) ?_
    refine ai (i:=7) (by kernel_rfl) rfl ?_
    refine e_st (i:=0) (v:=.pointer (some ⟨gs,0,none⟩)) (new:=#[.pointer (some ⟨gs,0,none⟩)]) rfl Tryz.sizeOf144 rfl rfl rfl rfl (by kernel_rfl) rfl rfl rfl rfl ?_
    refine ab ?_
    refine WH.next (λw hw=>hw.back (Gh.refl _) h00 (.cons _ (.cons_cons _ (.cons_cons _ (.cons_cons _ (.cons_cons _ .slnil)))))) ?_
    refine au (by kernel_rfl) ?_
    change WC _ _ _ _ _ _
    refine a8 ?_
    refine a7 ?_
    refine va rfl rfl rfl (q_ldl (i:=0) (v:=.pointer (some ⟨gs,0,none⟩)) rfl rfl Tryz.isAgg144 rfl rfl) ?_
    refine va rfl rfl rfl (q_ptr_eql (a:=some ⟨gs,0,none⟩) Tryz.underlying144 rfl rfl rfl) ?_
    refine ab ?_
    change WC _ _ _ _ _ _
    refine WC.cfk (b:=false) (by kernel_rfl) rfl ?_
    refine ae ?_
    change WC _ _ _ _ _ _
    refine a7 ?_
    refine va rfl rfl rfl (q_ldl (i:=0) (v:=.pointer (some ⟨gs,0,none⟩)) rfl rfl Tryz.isAgg144 rfl rfl) ?_
    refine va rfl rfl rfl (q_nil (A:=some ⟨gs,0,none⟩) rfl rfl rfl) ?_
    refine va rfl rfl rfl (q_fl 0 fld_158_0 rfl rfl rfl) ?_
    refine va rfl rfl rfl (q_mkfn (v:=.func (.func 90) #[] #[.pointer (some ⟨b2,0,none⟩),.pointer (some ⟨b3,0,none⟩),.pointer (some ⟨b7,0,none⟩)]) rfl (by kernel_rfl)) ?_
    refine vc rfl rfl rfl (q_call (v:=.tuple #[]) (call_run (args:=#[.pointer (some ⟨gs,0,none⟩),.func (.func 90) #[] #[.pointer (some ⟨b2,0,none⟩),.pointer (some ⟨b3,0,none⟩),.pointer (some ⟨b7,0,none⟩)]]) Tryz.call89 rfl rfl (by kernel_rfl)) (λw hw=>(Once.do_done ⟨gs,0,none⟩ _ w ((cell_of_row w gs 0 _ _ _ (hw.at_ (i:=4) rfl hsum')).trans rfl)).mono λe w' ⟨he,hw'⟩=>⟨he,hw'▸Fr.refl _ _⟩)) ?_
    refine ab ?_
    change WC _ _ _ _ _ _
    refine a7 ?_
    refine va rfl rfl rfl (q_ldl (i:=0) (v:=.pointer (some ⟨gs,0,none⟩)) rfl rfl Tryz.isAgg144 rfl rfl) ?_
    refine va rfl rfl rfl (q_nil (A:=some ⟨gs,0,none⟩) rfl rfl rfl) ?_
    refine va rfl rfl rfl (q_fl 3 fld_158_1 rfl rfl rfl) ?_
    refine va rfl rfl rfl (q_ldr (i:=4) (v:=.int .u64 hv) rfl hsum' rfl Tryz.isAgg78 rfl rfl) ?_
    refine va rfl rfl rfl (q_assign (v:=.int .u64 hv) rfl (by kernel_rfl)) ?_
    refine ab ?_
    change WC _ _ _ _ _ _
    refine ac ?_
    intro w hw
    cases h
    subst hF
    exact end_e (is:=[4]) (by kernel_rfl) hw rfl ⟨rowt,rfl,rfl,ht_,hu,trivial⟩
  · simp only [hm] at h
    obtain⟨z,hz,h⟩:=bnd h
    have hmM:∀p∈rowM,p∈rowt:=λp hp=>hrow▸List.mem_flatten.2 ⟨rowS,by simp,by rw [hrS]; exact List.mem_append_left _ hp⟩
    obtain⟨B,hB⟩:∃B,B=List.zipWith (λa b=>sumO 158 a.2 b.2) own t.sums:=⟨_,rfl⟩
    have hrow4:rowt=([[(gt_,.cells (cs++[Value.map (some sm)]).toArray et.1 (0,0))],rowL,rowM,B]:List Rowb).flatten:=by rw [hrow,hrS,hB]; simp only [List.flatten_cons,List.flatten_nil,List.append_nil,List.append_assoc]
    refine a8 ?_
    intro w hw; have h00:=hw.le
    refine aa (C:=CC F Γ [[(g5,.cells #[.int .i64 z1.1.1,.int .i64 z1.1.2.1,.int .i64 z1.1.2.2] 125 (0,0))],[(b3,.cells #[.slice A path.length c] 24 (0,0))],[(b2,.cells #[.pointer (some ⟨gt_,0,none⟩)] 79 (0,0))],rowt]) ?_ hw; clear hw
    refine av (CC F Γ [[(g5,.cells #[.int .i64 z1.1.1,.int .i64 z1.1.2.1,.int .i64 z1.1.2.2] 125 (0,0))],[(b3,.cells #[.slice A path.length c] 24 (0,0))],[(b2,.cells #[.pointer (some ⟨gt_,0,none⟩)] 79 (0,0))],rowt]) (by kernel_rfl) (λw hw=>hw.drawn _) ?_
    change WH _ _ _ _ (CC F Γ [[(g5,.cells #[.int .i64 z1.1.1,.int .i64 z1.1.2.1,.int .i64 z1.1.2.2] 125 (0,0))],[(b3,.cells #[.slice A path.length c] 24 (0,0))],[(b2,.cells #[.pointer (some ⟨gt_,0,none⟩)] 79 (0,0))],rowt]) _ 8 #[false,false,false,false,false,false,false,false] _
    refine ht (i:=0) rfl (by kernel_rfl) rfl rfl rfl (λw hw=>hw) (q_ldl (i:=2) (v:=.pointer (some ⟨gt_,0,none⟩)) rfl rfl Tryz.isAgg79 rfl rfl) ?_
    refine ht (i:=1) rfl (by kernel_rfl) rfl rfl rfl (λw hw=>hw) (q_nil (A:=some ⟨gt_,0,none⟩) rfl rfl rfl) ?_
    refine ht (i:=2) rfl (by kernel_rfl) rfl rfl rfl (λw hw=>hw) (q_fl 256 fld_123_1 rfl rfl rfl) ?_
    refine ht (i:=3) rfl (by kernel_rfl) rfl rfl rfl (λw hw=>hw) (q_ldr (i:=3) (v:=.map (some sm)) rfl hblk rfl Tryz.isAgg118 rfl (blk_end (hM.len.trans hl))) ?_
    refine ht (i:=4) rfl (by kernel_rfl) rfl rfl rfl (λw hw=>hw) (q_ldla (i:=0) (vs:=[.int .i64 z1.1.1,.int .i64 z1.1.2.1,.int .i64 z1.1.2.2]) rfl rfl Tryz.isAgg125 Tryz.sizeOf125 rfl rfl) ?_
    refine ht (i:=5) rfl (by kernel_rfl) rfl rfl rfl (λw hw=>hw) (q_lookup1r (row:=rowM) (x:=z1.1) (v:=.pointer none) (λw hw p hp=>hw.at_ (i:=3) rfl (hmM p hp)) hat rfl Tryz.underlying118 Tryz.zeroValue144 rfl rfl) ?_
    refine ai (i:=6) (by kernel_rfl) rfl ?_
    refine e_alloc Tryz.zeroValue144 rfl rfl rfl rfl ?_
    intro b7
    refine ab ?_
    refine WH.next (λw hw=>hw.back (Gh.refl _) h00 (.cons _ (.cons_cons _ (.cons_cons _ (.cons_cons _ (.cons_cons _ .slnil)))))) ?_
    refine ai (i:=7) (by kernel_rfl) rfl ?_
    refine e_st (i:=0) (v:=.pointer none) (new:=#[.pointer none]) rfl Tryz.sizeOf144 rfl rfl rfl rfl (by kernel_rfl) rfl rfl rfl rfl ?_
    refine ab ?_
    refine WH.next (λw hw=>hw.back (Gh.refl _) h00 (.cons _ (.cons_cons _ (.cons_cons _ (.cons_cons _ (.cons_cons _ .slnil)))))) ?_
    refine au (by kernel_rfl) ?_
    change WC _ _ _ _ _ _
    refine a8 ?_
    refine a7 ?_
    refine va rfl rfl rfl (q_ldl (i:=0) (v:=.pointer none) rfl rfl Tryz.isAgg144 rfl rfl) ?_
    refine va rfl rfl rfl (q_ptr_eql (a:=none) Tryz.underlying144 rfl rfl rfl) ?_
    refine ab ?_
    change WC _ _ _ _ _ _
    refine WC.ctk (b:=true) (by kernel_rfl) rfl ?_
    refine a7 ?_
    refine va rfl rfl rfl (q_build (v:=.agg #[.int .u32 0,.int .i32 0,.int .u32 0,.int .u64 0]) rfl (λw=>by kernel_rfl)) ?_
    refine e_box (v:=.agg #[.int .u32 0,.int .i32 0,.int .u32 0,.int .u64 0]) rfl rfl rfl rfl (by kernel_rfl) ?_
    intro gs
    refine e_st (i:=1) (v:=.pointer (some ⟨gs,0,none⟩)) (new:=#[.pointer (some ⟨gs,0,none⟩)]) rfl Tryz.sizeOf144 rfl rfl rfl rfl (by kernel_rfl) rfl rfl rfl rfl ?_
    refine ab ?_
    change WC _ _ _ _ _ _
    intro w hw; have hw:=hw.unfold (i:=5) rfl hrow4; have h01:=hw.le
    refine aa (C:=CC F Γ [[(gt_,.cells (cs++[Value.map (some sm)]).toArray et.1 (0,0))],rowL,rowM,B,[(gs,.cells #[.int .u32 0,.int .i32 0,.int .u32 0,.int .u64 0] 158 (0,0))],[(b7,.cells #[.pointer (some ⟨gs,0,none⟩)] 144 (0,0))],[(g5,.cells #[.int .i64 z1.1.1,.int .i64 z1.1.2.1,.int .i64 z1.1.2.2] 125 (0,0))],[(b3,.cells #[.slice A path.length c] 24 (0,0))],[(b2,.cells #[.pointer (some ⟨gt_,0,none⟩)] 79 (0,0))]]) ?_ hw; clear hw
    refine av (CC F Γ [[(gt_,.cells (cs++[Value.map (some sm)]).toArray et.1 (0,0))],[(b7,.cells #[.pointer (some ⟨gs,0,none⟩)] 144 (0,0))],[(g5,.cells #[.int .i64 z1.1.1,.int .i64 z1.1.2.1,.int .i64 z1.1.2.2] 125 (0,0))],[(b2,.cells #[.pointer (some ⟨gt_,0,none⟩)] 79 (0,0))]]) (by kernel_rfl) (λw hw=>hw.drawn _) ?_
    change WH _ _ _ _ (CC F Γ [[(gt_,.cells (cs++[Value.map (some sm)]).toArray et.1 (0,0))],rowL,rowM,B,[(gs,.cells #[.int .u32 0,.int .i32 0,.int .u32 0,.int .u64 0] 158 (0,0))],[(b7,.cells #[.pointer (some ⟨gs,0,none⟩)] 144 (0,0))],[(g5,.cells #[.int .i64 z1.1.1,.int .i64 z1.1.2.1,.int .i64 z1.1.2.2] 125 (0,0))],[(b3,.cells #[.slice A path.length c] 24 (0,0))],[(b2,.cells #[.pointer (some ⟨gt_,0,none⟩)] 79 (0,0))]]) _ 7 #[false,false,false,false,false,false,false] _
    refine ht (i:=0) rfl (by kernel_rfl) rfl rfl rfl (λw hw=>hw.back (Gh.refl _) h01 (.cons_cons _ (.cons _ (.cons _ (.cons _ (.cons _ (.cons_cons _ (.cons_cons _ (.cons _ (.cons_cons _ .slnil)))))))))) (q_ldl (i:=3) (v:=.pointer (some ⟨gt_,0,none⟩)) rfl rfl Tryz.isAgg79 rfl rfl) ?_
    refine ht (i:=1) rfl (by kernel_rfl) rfl rfl rfl (λw hw=>hw.back (Gh.refl _) h01 (.cons_cons _ (.cons _ (.cons _ (.cons _ (.cons _ (.cons_cons _ (.cons_cons _ (.cons _ (.cons_cons _ .slnil)))))))))) (q_nil (A:=some ⟨gt_,0,none⟩) rfl rfl rfl) ?_
    refine ht (i:=2) rfl (by kernel_rfl) rfl rfl rfl (λw hw=>hw.back (Gh.refl _) h01 (.cons_cons _ (.cons _ (.cons _ (.cons _ (.cons _ (.cons_cons _ (.cons_cons _ (.cons _ (.cons_cons _ .slnil)))))))))) (q_fl 256 fld_123_1 rfl rfl rfl) ?_
    refine ht (i:=3) rfl (by kernel_rfl) rfl rfl rfl (λw hw=>hw.back (Gh.refl _) h01 (.cons_cons _ (.cons _ (.cons _ (.cons _ (.cons _ (.cons_cons _ (.cons_cons _ (.cons _ (.cons_cons _ .slnil)))))))))) (q_ldAe (i:=0) (cs:=cs) rfl (hM.len.trans hl) rfl Tryz.isAgg118 rfl) ?_
    refine ht (i:=4) rfl (by kernel_rfl) rfl rfl rfl (λw hw=>hw.back (Gh.refl _) h01 (.cons_cons _ (.cons _ (.cons _ (.cons _ (.cons _ (.cons_cons _ (.cons_cons _ (.cons _ (.cons_cons _ .slnil)))))))))) (q_ldla (i:=2) (vs:=[.int .i64 z1.1.1,.int .i64 z1.1.2.1,.int .i64 z1.1.2.2]) rfl rfl Tryz.isAgg125 Tryz.sizeOf125 rfl rfl) ?_
    refine ht (i:=5) rfl (by kernel_rfl) rfl rfl rfl (λw hw=>hw.back (Gh.refl _) h01 (.cons_cons _ (.cons _ (.cons _ (.cons _ (.cons _ (.cons_cons _ (.cons_cons _ (.cons _ (.cons_cons _ .slnil)))))))))) (q_ldl (i:=1) (v:=.pointer (some ⟨gs,0,none⟩)) rfl rfl Tryz.isAgg144 rfl rfl) ?_
    refine ai (i:=6) (by kernel_rfl) rfl ?_
    refine e_mapUpdate (i:=2) (x:=z1.1) (v:=.pointer (some ⟨gs,0,none⟩)) (a:=gs) rfl rfl rfl Tryz.underlying118 rfl rfl (by kernel_rfl) rfl ho2 rfl ⟨by rw [of_decide_eq_true hk1]; exact len_r hpath.le,i64b_of hk2,i64b_of hk3⟩ ?_
    intro rowM' hM'
    refine ab ?_
    refine WH.next (λw hw=>hw.back (Gh.refl _) h01 (.cons_cons _ (.cons _ (.cons _ (.cons _ (.cons _ (.cons_cons _ (.cons_cons _ (.cons _ (.cons_cons _ .slnil)))))))))) ?_
    refine au (by kernel_rfl) ?_
    change WC _ _ _ _ _ _
    have hob1:OTree.ob (et.1,(z1.1,gs)::et.2) Γ gt_ ([[(gt_,.cells (cs++[Value.map (some sm)]).toArray et.1 (0,0))],rowL,rowM',B]:List Rowb).flatten t:=by
      refine⟨cs,rowL,sm,rowM'++B,by simp only [List.flatten_cons,List.flatten_nil,List.append_nil,List.append_assoc],hM,hl,?_,trivial⟩
      rw [hB]; exact Sums.lend ho1 hM' hon hS.ok
    obtain⟨rowt1,hr1⟩:∃rw:Rowb,rw=([[(gt_,.cells (cs++[Value.map (some sm)]).toArray et.1 (0,0))],rowL,rowM',B]:List Rowb).flatten:=⟨_,rfl⟩
    rw [← hr1] at hob1
    intro w hw; have hw:=hw.fold (is:=[0,0,0,0]) (row:=rowt1) rfl hr1
    refine aa (C:=CC F Γ [rowt1,[(gs,.cells #[.int .u32 0,.int .i32 0,.int .u32 0,.int .u64 0] 158 (0,0))],[(b7,.cells #[.pointer (some ⟨gs,0,none⟩)] 144 (0,0))],[(g5,.cells #[.int .i64 z1.1.1,.int .i64 z1.1.2.1,.int .i64 z1.1.2.2] 125 (0,0))],[(b3,.cells #[.slice A path.length c] 24 (0,0))],[(b2,.cells #[.pointer (some ⟨gt_,0,none⟩)] 79 (0,0))]]) ?_ hw; clear hw
    have hlen1:∀p∈(et.1,(z1.1,gs)::et.2).2,p.1.1≤(path.length:Int):=λp hp=>by
      rcases List.mem_cons.1 hp with h9 | h9
      · rw [h9,of_decide_eq_true hk1]; exact Int.le_refl _
      · exact Int.le_of_lt (hlen p h9)
    refine a7 ?_
    refine va rfl rfl rfl (q_ldl (i:=2) (v:=.pointer (some ⟨gs,0,none⟩)) rfl rfl Tryz.isAgg144 rfl rfl) ?_
    refine va rfl rfl rfl (q_nil (A:=some ⟨gs,0,none⟩) rfl rfl rfl) ?_
    refine va rfl rfl rfl (q_fl 0 fld_158_0 rfl rfl rfl) ?_
    refine va rfl rfl rfl (q_mkfn (v:=.func (.func 90) #[] #[.pointer (some ⟨b2,0,none⟩),.pointer (some ⟨b3,0,none⟩),.pointer (some ⟨b7,0,none⟩)]) rfl (by kernel_rfl)) ?_
    refine e_call (is:=[5,4,2,0,0]) rfl rfl (call_run (args:=#[.pointer (some ⟨gs,0,none⟩),.func (.func 90) #[] #[.pointer (some ⟨b2,0,none⟩),.pointer (some ⟨b3,0,none⟩),.pointer (some ⟨b7,0,none⟩)]]) Tryz.call89 rfl rfl (by kernel_rfl)) rfl (λw hp=>t_once hH hob1 hpath hc hlen1 hp hz) ?_
    rintro Γ1 U1 v1 hl1 ⟨rowt2,rfl,rfl,hob2,hu2,-⟩
    change WR _ _ _ (CC F Γ1 [[(b2,.cells #[.pointer (some ⟨gt_,0,none⟩)] 79 (0,0))],[(b3,.cells #[.slice A path.length c] 24 (0,0))],[(b7,.cells #[.pointer (some ⟨gs,0,none⟩)] 144 (0,0))],rowt2,[(gs,.cells #[.int .u32 1,.int .i32 0,.int .u32 0,.int .u64 z.2] 158 (0,0))],[(g5,.cells #[.int .i64 z1.1.1,.int .i64 z1.1.2.1,.int .i64 z1.1.2.2] 125 (0,0))]]) _ _ (upd _ 35 (.tuple #[]))
    refine ab ?_
    change WC _ _ _ _ _ _
    refine a7 ?_
    refine va rfl rfl rfl (q_ldl (i:=2) (v:=.pointer (some ⟨gs,0,none⟩)) rfl rfl Tryz.isAgg144 rfl rfl) ?_
    refine va rfl rfl rfl (q_nil (A:=some ⟨gs,0,none⟩) rfl rfl rfl) ?_
    refine va rfl rfl rfl (q_fl 3 fld_158_1 rfl rfl rfl) ?_
    refine va rfl rfl rfl (q_ldl (i:=4) (v:=.int .u64 z.2) rfl rfl Tryz.isAgg78 rfl rfl) ?_
    refine va rfl rfl rfl (q_assign (v:=.int .u64 z.2) rfl (by kernel_rfl)) ?_
    refine ab ?_
    change WC _ _ _ _ _ _
    refine ac ?_
    intro w hw
    have hw:=hw.fold (is:=[3,3]) (row:=rowt2++[sumO 158 gs z.2]) rfl (by simp [pkU]; rfl)
    cases h
    subst hF
    exact end_e (is:=[0]) (by kernel_rfl) hw rfl ⟨rowt2++[sumO 158 gs z.2],rfl,rfl,OTree.back hob2 hu2,hu2,trivial⟩
theorem t_hashN(n:Nat):HashC (m_hashN n):=by
  induction n with
  | zero=>intro Γ w0 gt_ et rowt t ht_ A c path hpath hc hlen hp r h; exact absurd h (by simp [m_hashN])
  | succ n ih=>exact t_hash_step ih
theorem t_HashC:HashC m_tree_Tree_Hash:=by
  exact t_hashN 3
abbrev r_pull_Cut_Open(gc_:Nat)(ec_:Nat)(r:Opull_Cut×(List Int))(U:List Rowb)(Γ:Gh)(v:Value):Prop := ∃(rowc_':Rowb), ∃(A0:Option Addr), ∃(c0:Nat), ∃(row0:Rowb),v = .slice A0 r.2.length c0∧U = [rowc_',row0]∧Opull_Cut.ob ec_ Γ gc_ rowc_' r.1∧Own u64T Γ 78 row0 A0 c0 r.2∧True
theorem t_pull_Cut_Open{Γ:Gh}{w0:World}{gc_ ec_:Nat}{rowc_:Rowb}{c_:Opull_Cut}(hc_:Opull_Cut.ob ec_ Γ gc_ rowc_ c_)(hp:Pre [rowc_] Γ w0){r:Opull_Cut×(List Int)}(h:m_pull_Cut_Open c_=some r):Calls Tryz.prog 19 #[(pq gc_)] w0 (Outc Γ [rowc_] w0 (r_pull_Cut_Open gc_ ec_ r)):=by
 refine calls_of (N:=8) (rs:=[2]) (args:=[(pq gc_)]) Tryz.func19 rfl Tryz.ntmps19 Tryz.results19 rfl ?_
 obtain⟨F,hF⟩:∃F:Fm,F=⟨ids [rowc_],w0,Γ⟩:=⟨_,rfl⟩
 refine aa (C:=CC F Γ [rowc_]) ?_ (hF▸hp.start)
 refine a7 ?_
 refine as_ (v:=.slice none 0 0) ?_
 refine a6 ?_
 refine a7 ?_
 refine mv (v:=(pq gc_)) ?_
 refine vb (q_nil (A:=some ⟨gc_,0,none⟩) rfl rfl rfl) ?_
 refine vb (q_fl 2 fld_85_2 rfl rfl rfl) ?_
 have hq:=hc_
 obtain⟨A1_1,c1_1,g2_1,r2_1,hrow_1,ho0_1,ho1_1,ho2_1,ho3_1,-⟩:=hq
 intro w hw; have hw:=hw.unfold (i:=0) rfl hrow_1
 refine ao (C:=CC F Γ [[(gc_,.cells #[.int .i64 c_.id,.slice A1_1 c_.vec.length c1_1,(pq g2_1)] ec_ (0,0))],r2_1]) ?_ hw
 clear hw
 refine vb (q_ldl (i:=0) (v:=(pq g2_1)) rfl rfl Tryz.isAgg79 rfl rfl) ?_
 obtain⟨z2,hz3,h⟩:=bnd h
 refine e_call (is:=[1]) rfl rfl (call_run Tryz.call52 rfl rfl (by kernel_rfl)) rfl (λw hp=>t_tree_Tree_Kids t_HashC ho3_1 (Sl.nil intT _ none) (Nat.zero_le 0) (λp hp=>nomatch hp) hp hz3) ?_
 rintro Γ4 U6 v7 hl5 ⟨row8,A10,c11,row12,rfl,rfl,hr9,hr13,hz14,_⟩
 change WR _ _ _ (CC F Γ4 [row8,row12,[(gc_,.cells #[.int .i64 c_.id,.slice A1_1 c_.vec.length c1_1,(pq g2_1)] ec_ (0,0))]]) _ _ (upd _ 7 (.slice A10 z2.2.length c11))
 refine as_ (v:=.slice A10 z2.2.length c11) ?_
 refine a6 ?_
 refine ac ?_
 intro w hw
 obtain⟨row_15,hrow_15,hob_15⟩:∃rw:Rowb,rw=([[(gc_,.cells #[.int .i64 c_.id,.slice A1_1 c_.vec.length c1_1,(pq g2_1)] ec_ (0,0))],row8]:List Rowb).flatten∧Opull_Cut.ob ec_ Γ4 gc_ rw (⟨c_.id,c_.vec,z2.1⟩:Opull_Cut):=⟨_,rfl,A1_1,c1_1,g2_1,row8,rfl,ho0_1,ho1_1,(ho2_1.mono hl5),hr9,trivial⟩
 have hw:=hw.fold (is:=[2,0]) rfl hrow_15
 cases h
 subst hF
 exact end_e (is:=[0,0]) (by kernel_rfl) hw rfl ⟨row_15,A10,c11,row12,rfl,rfl,hob_15,hr13,trivial⟩
abbrev r_tree_Differ(r:List Int)(U:List Rowb)(Γ:Gh)(v:Value):Prop := ∃(A0:Option Addr), ∃(c0:Nat), ∃(row0:Rowb),v = .slice A0 r.length c0∧U = [row0]∧Own intT Γ 3 row0 A0 c0 r∧True
theorem t_tree_Differ{Γ:Gh}{w0:World}{Aa:Option Addr}{ca:Nat}{a:List Int}(ha:Sl u64T Γ Aa a)(hac:a.length≤ca){Ab:Option Addr}{cb:Nat}{b:List Int}(hb:Sl u64T Γ Ab b)(hbc:b.length≤cb)(hp:Pre [] Γ w0){r:List Int}(h:m_tree_Differ a b=some r):Calls Tryz.prog 58 #[.slice Aa a.length ca,.slice Ab b.length cb] w0 (Outc Γ [] w0 (r_tree_Differ r)):=by
 refine calls_of (N:=31) (rs:=[4]) (args:=[.slice Aa a.length ca,.slice Ab b.length cb]) Tryz.func58 rfl Tryz.ntmps58 Tryz.results58 rfl ?_
 obtain⟨F,hF⟩:∃F:Fm,F=⟨ids [],w0,Γ⟩:=⟨_,rfl⟩
 refine aa (C:=CC F Γ []) ?_ (hF▸hp.start)
 refine a7 ?_
 refine as_ (v:=.slice none 0 0) ?_
 refine a6 ?_
 refine a7 ?_
 refine e_alloc Tryz.zeroValue138 rfl rfl rfl rfl ?_
 intro g1
 have ho2:Own u64T Γ 138 [(g1,.cells #[.int .u64 0,.int .u64 0,.int .u64 0,.int .u64 0,.int .u64 0,.int .u64 0,.int .u64 0,.int .u64 0,.int .u64 0,.int .u64 0,.int .u64 0,.int .u64 0,.int .u64 0,.int .u64 0,.int .u64 0,.int .u64 0] 138 (0,0))] (some ⟨g1,0,none⟩) 16 (List.replicate 16 0):=own_zero (T:=u64T) 16 [.int .u64 0] 0 rfl ⟨rfl,(show U64 0 by decide)⟩ (by decide)
 refine e_alloc Tryz.zeroValue138 rfl rfl rfl rfl ?_
 intro g3
 have ho4:Own u64T Γ 138 [(g3,.cells #[.int .u64 0,.int .u64 0,.int .u64 0,.int .u64 0,.int .u64 0,.int .u64 0,.int .u64 0,.int .u64 0,.int .u64 0,.int .u64 0,.int .u64 0,.int .u64 0,.int .u64 0,.int .u64 0,.int .u64 0,.int .u64 0] 138 (0,0))] (some ⟨g3,0,none⟩) 16 (List.replicate 16 0):=own_zero (T:=u64T) 16 [.int .u64 0] 0 rfl ⟨rfl,(show U64 0 by decide)⟩ (by decide)
 refine a6 ?_
 refine a7 ?_
 refine vb (q_slarr Tryz.underlying138 Tryz.sizeOf78 rfl rfl) ?_
 refine mv (v:=.slice Aa a.length ca) ?_
 refine e_copy (T:=u64T) (xs:=(List.replicate 16 0)) (ys:=a) (i:=1) Tryz.underlying33 (by kernel_rfl) rfl rfl rfl rfl rfl rfl rfl ho2 List.length_replicate (λw hw=>src_sl ha hw) ?_
 intro row5 ho6
 refine a6 ?_
 refine a7 ?_
 refine vb (q_slarr Tryz.underlying138 Tryz.sizeOf78 rfl rfl) ?_
 refine mv (v:=.slice Ab b.length cb) ?_
 refine e_copy (T:=u64T) (xs:=(List.replicate 16 0)) (ys:=b) (i:=0) Tryz.underlying33 (by kernel_rfl) rfl rfl rfl rfl rfl rfl rfl ho4 List.length_replicate (λw hw=>src_sl hb hw) ?_
 intro row7 ho8
 refine a6 ?_
 refine a7 ?_
 refine as_ (v:=.slice none 0 0) ?_
 refine a6 ?_
 refine a8 ?_
 refine a7 ?_
 refine mv (v:=.int .i64 0) ?_
 refine a6 ?_
 refine af ?_
 refine az h (λ(i15:Nat) (out_9:List Int) σ w => ∃(A10:Option Addr), ∃(c11:Nat), ∃(row12:Rowb),slots σ [(5,(pq g1)),(6,(pq g3)),(7,.slice A10 out_9.length c11),(15,.int .i64 ((i15:Nat):Int))]∧CC F Γ [row12,row7,row5] w∧Own intT Γ 3 row12 A10 c11 out_9∧True) ?_ ?_
 ·
  intro w hw
  have hw:=hw.pad
  exact⟨none,0,[],(sl_ (by kernel_rfl)),hw,(Own.nil intT _ 3),trivial⟩
 rintro f14 i15 out_9 σ w hi16 hlt17 hge18 ⟨A10,c11,row12,hsl,hw,ho13,-⟩
 refine Wpt.slots hsl ?_
 refine aa (C:=CC F Γ [row12,row7,row5]) ?_ hw
 clear hw hsl
 refine a7 ?_
 refine vb (q_lss rfl rfl rfl) ?_
 refine a6 ?_
 refine a8 ?_
 refine WC.cond (b:=(decide (((i15:Nat):Int)<16))) (by kernel_rfl) (λhb19=>?_) (λhb19=>?_)
 ·
  have hl20:=ilt hb19
  have h:=hlt17 hl20
  refine ae ?_
  change WC _ _ _ _ _ _
  refine ax (λσ w => ∃(out_21:List Int), ∃(A22:Option Addr), ∃(c23:Nat), ∃(row24:Rowb),m_tree_Differ_j5 f14 out_21=some r∧slots σ [(5,(pq g1)),(6,(pq g3)),(7,.slice A22 out_21.length c23),(15,.int .i64 ((i15:Nat):Int))]∧CC F Γ [row24,row7,row5] w∧Own intT Γ 3 row24 A22 c23 out_21∧True) ?_ ?_
  ·
   refine af ?_
   refine a7 ?_
   refine mv (v:=.int .i64 ((i15:Nat):Int)) ?_
   refine as_ (v:=.int .i64 ((i15:Nat):Int)) ?_
   refine a6 ?_
   refine a8 ?_
   refine ay (by kernel_rfl) (by kernel_rfl) (λw hw=>hw.drawn _) ?_
   refine wa rfl rfl rfl (q_move (v:=.int .i64 ((i15:Nat):Int)) rfl (by kernel_rfl)) ?_
   refine wa rfl rfl rfl (q_ixan (i:=i15) Tryz.underlying138 Tryz.sizeOf78 rfl rfl rfl hl20) ?_
   refine wa rfl rfl rfl (q_ldo (c:=0) (v:=.int .u64 (gt (List.take (List.replicate 16 0).length a++List.drop a.length (List.replicate 16 0)) i15)) (i:=2) rfl (ho6.u64T_at (ltq hl20 ((copy_len _ _).trans List.length_replicate).symm)).2 rfl Tryz.isAgg78 rfl rfl) ?_
   refine wa rfl rfl rfl (q_move (v:=.int .i64 ((i15:Nat):Int)) rfl (by kernel_rfl)) ?_
   refine wa rfl rfl rfl (q_ixan (i:=i15) Tryz.underlying138 Tryz.sizeOf78 rfl rfl rfl hl20) ?_
   refine wa rfl rfl rfl (q_ldo (c:=0) (v:=.int .u64 (gt (List.take (List.replicate 16 0).length b++List.drop b.length (List.replicate 16 0)) i15)) (i:=1) rfl (ho8.u64T_at (ltq hl20 ((copy_len _ _).trans List.length_replicate).symm)).2 rfl Tryz.isAgg78 rfl rfl) ?_
   refine wa rfl rfl rfl (q_neq rfl rfl rfl) ?_
   refine aw ?_
   change WC _ _ _ _ _ _
   refine aj h (by kernel_rfl) (λhb26 h=>?_) (λhb26 h=>?_)
   ·
    refine ah ?_
    refine mv (v:=.slice A10 out_9.length c11) ?_
    refine mv (v:=.int .i64 ((i15:Nat):Int)) ?_
    refine e_buildSlice (cs:=#[.int .i64 ((i15:Nat):Int)]) (e:=3) rfl rfl rfl rfl (λw=>by kernel_rfl) ?_
    intro g27
    obtain⟨hk28,h⟩:=chk_some h
    refine e_append (T:=intT) (xs:=out_9) (ys:=[((i15:Nat):Int)]) elem_24 (i:=1) rfl rfl rfl rfl rfl rfl rfl ho13 (of_decide_eq_true hk28) (λw hw=>src_one (T:=intT) (y:=((i15:Nat):Int)) (i:=0) rfl (by exact⟨rfl,(ctr_lit0 hl20 (by decide))⟩) hw) ?_
    intro row29 A30 c31 ho32
    refine as_ (v:=.slice A30 (out_9++[((i15:Nat):Int)]).length c31) ?_
    exact ab λw hw=>⟨(out_9++[((i15:Nat):Int)]),A30,c31,row29,h,(sl_ (by kernel_rfl)),(hw.only (is:=[1,1,1]) rfl),ho32,trivial⟩
   ·
    exact ae λw hw=>⟨out_9,A10,c11,row12,h,(sl_ (by kernel_rfl)),hw,ho13,trivial⟩
  ·
   rintro σ w ⟨out_21,A22,c23,row24,h,hsl,hw,ho25,-⟩
   refine Wpt.slots hsl ?_
   refine aa (C:=CC F Γ [row24,row7,row5]) ?_ hw
   clear hw hsl
   refine ah ?_
   refine vb (q_add_r (r:=((i15+1:Nat):Int)) rfl rfl rfl (ctr_lit hl20 (by decide))) ?_
   refine mv (v:=.int .i64 ((i15+1:Nat):Int)) ?_
   exact ab λw hw=>⟨hl20,out_21,h,A22,c23,row24,(sl_ (by kernel_rfl)),hw,ho25,trivial⟩
 ·
  have h:=hge18 (ige hb19)
  refine am ?_
  change WC _ _ _ _ _ _
  refine a7 ?_
  refine mv (v:=.slice A10 out_9.length c11) ?_
  refine as_ (v:=.slice A10 out_9.length c11) ?_
  refine a6 ?_
  refine ac ?_
  intro w hw
  cases h
  subst hF
  exact end_e (is:=[0]) (by kernel_rfl) hw rfl ⟨A10,c11,row12,rfl,rfl,ho13,trivial⟩
abbrev r_pull_Pull_Begin(gp_:Nat)(ep_:Nat)(r:Opull_Pull×Bool)(U:List Rowb)(Γ:Gh)(v:Value):Prop := ∃(rowp_':Rowb),v = .bool r.2∧U = [rowp_']∧Opull_Pull.ob ep_ Γ gp_ rowp_' r.1∧True
theorem t_pull_Pull_Begin{Γ:Gh}{w0:World}{gp_ ep_:Nat}{rowp_:Rowb}{p_:Opull_Pull}(hp_:Opull_Pull.ob ep_ Γ gp_ rowp_ p_){Avec:Option Addr}{cvec:Nat}{vec:List Int}(hvec:Sl intT Γ Avec vec)(hvecc:vec.length≤cvec){Ahashes:Option Addr}{chashes:Nat}{hashes:List Int}(hhashes:Sl u64T Γ Ahashes hashes)(hhashesc:hashes.length≤chashes)(hp:Pre [rowp_] Γ w0){r:Opull_Pull×Bool}(h:m_pull_Pull_Begin p_ vec hashes=some r):Calls Tryz.prog 24 #[(pq gp_),.slice Avec vec.length cvec,.slice Ahashes hashes.length chashes] w0 (Outc Γ [rowp_] w0 (r_pull_Pull_Begin gp_ ep_ r)):=by
 refine calls_of (N:=50) (rs:=[6]) (args:=[(pq gp_),.slice Avec vec.length cvec,.slice Ahashes hashes.length chashes]) Tryz.func24 rfl Tryz.ntmps24 Tryz.results24 rfl ?_
 obtain⟨F,hF⟩:∃F:Fm,F=⟨ids [rowp_],w0,Γ⟩:=⟨_,rfl⟩
 refine aa (C:=CC F Γ [rowp_]) ?_ (hF▸hp.start)
 refine a7 ?_
 refine as_ (v:=.bool false) ?_
 refine a6 ?_
 refine a8 ?_
 refine a7 ?_
 refine mv (v:=(pq gp_)) ?_
 refine vb (q_nil (A:=some ⟨gp_,0,none⟩) rfl rfl rfl) ?_
 refine vb (q_fl 2 fld_97_2 rfl rfl rfl) ?_
 have hq:=hp_
 obtain⟨g1_1,r1_1,A3_1,c3_1,A4_1,c4_1,r4_1,g5_1,r5_1,hrow_1,ho0_1,ho1_1,ho2_1,ho3_1,ho4_1,ho5_1,-⟩:=hq
 intro w hw; have hw:=hw.unfold (i:=0) rfl hrow_1
 refine ao (C:=CC F Γ [[(gp_,.cells #[.int .i64 p_.id,(pq g1_1),.bool p_.begun,.slice A3_1 p_.vec.length c3_1,.slice A4_1 p_.wants.length c4_1,(pq g5_1)] ep_ (0,0))],r1_1,r4_1,r5_1]) ?_ hw
 clear hw
 refine vb (q_ldl (i:=0) (v:=.bool p_.begun) rfl rfl Tryz.isAgg4 rfl rfl) ?_
 refine mv (v:=.bool p_.begun) ?_
 refine vg0 rfl rfl rfl rfl rfl (λhg2=>QV.qo (q_move (v:=.slice Avec vec.length cvec) rfl (by kernel_rfl))) ?_
 obtain⟨z4,hz5,h⟩:=bnd h
 refine vg0 rfl rfl rfl rfl rfl (λhg3=>(q_call (call_run Tryz.call45 rfl rfl (args1 (gu hg3 rfl))) (λw hw=>t_vect_Right (Γ:=Gh.all w) (hvec.mono hw.sat.le_all) hvecc (Sat.all w) (gc_of hz5 hg3)))) ?_
 refine vg0 rfl rfl rfl rfl rfl (λhg6=>QV.qo (q_not rfl (gu hg6 rfl))) ?_
 refine vb (q_pick rfl rfl (pk_or' (g:=p_.begun) (y:=(!z4)))) ?_
 refine a6 ?_
 refine aj h (by kernel_rfl) (λhb7 h=>?_) (λhb7 h=>?_)
 ·
  refine a7 ?_
  refine as_ (v:=.bool false) ?_
  refine a6 ?_
  refine ac ?_
  intro w hw
  have hw:=hw.fold (is:=[0,0,0,0]) rfl hrow_1
  cases h
  subst hF
  exact end_e (is:=[0]) (by kernel_rfl) hw rfl ⟨rowp_,rfl,rfl,hp_,trivial⟩
 ·
  refine ae ?_
  change WC _ _ _ _ _ _
  refine a7 ?_
  refine mv (v:=(pq gp_)) ?_
  refine mv (v:=(pq gp_)) ?_
  refine mv (v:=.slice Avec vec.length cvec) ?_
  obtain⟨z9,hz10,h⟩:=bnd h
  refine e_call (is:=[]) rfl rfl (call_run Tryz.call46 rfl rfl (by kernel_rfl)) rfl (λw hp=>t_slices_Clone_int64_int64 hvec hvecc hp hz10) ?_
  rintro Γ11 U13 v14 hl12 ⟨A15,c16,row17,rfl,rfl,hr18,_⟩
  change WR _ _ _ (CC F Γ11 [row17,[(gp_,.cells #[.int .i64 p_.id,(pq g1_1),.bool p_.begun,.slice A3_1 p_.vec.length c3_1,.slice A4_1 p_.wants.length c4_1,(pq g5_1)] ep_ (0,0))],r1_1,r4_1,r5_1]) _ _ (upd _ 21 (.slice A15 z9.length c16))
  refine vb (q_nil (A:=some ⟨gp_,0,none⟩) rfl rfl rfl) ?_
  refine vb (q_fl 2 fld_97_2 rfl rfl rfl) ?_
  refine e_st (i:=1) (v:=.bool true) (new:=#[.int .i64 p_.id,(pq g1_1),.bool true,.slice A3_1 p_.vec.length c3_1,.slice A4_1 p_.wants.length c4_1,(pq g5_1)]) rfl Tryz.sizeOf4 rfl rfl rfl rfl (by kernel_rfl) rfl rfl rfl rfl ?_
  refine vb (q_nil (A:=some ⟨gp_,0,none⟩) rfl rfl rfl) ?_
  refine vb (q_fl 3 fld_97_3 rfl rfl rfl) ?_
  refine e_st (i:=1) (v:=.slice A15 z9.length c16) (new:=#[.int .i64 p_.id,(pq g1_1),.bool true,.slice A15 z9.length c16,.slice A4_1 p_.wants.length c4_1,(pq g5_1)]) rfl Tryz.sizeOf22 rfl rfl rfl rfl (by kernel_rfl) rfl rfl rfl rfl ?_
  refine a6 ?_
  refine a8 ?_
  refine a7 ?_
  refine mv (v:=(pq gp_)) ?_
  refine vb (q_nil (A:=some ⟨gp_,0,none⟩) rfl rfl rfl) ?_
  refine vb (q_fl 1 fld_97_1 rfl rfl rfl) ?_
  refine vb (q_ldl (i:=1) (v:=(pq g1_1)) rfl rfl Tryz.isAgg79 rfl rfl) ?_
  obtain⟨z19,hz20,h⟩:=bnd h
  refine e_call (is:=[2]) rfl rfl (call_run Tryz.call52 rfl rfl (by kernel_rfl)) rfl (λw hp=>t_tree_Tree_Kids t_HashC (ho1_1.mono hl12) (Sl.nil intT _ none) (Nat.zero_le 0) (λp hp=>nomatch hp) hp hz20) ?_
  rintro Γ21 U23 v24 hl22 ⟨row25,A27,c28,row29,rfl,rfl,hr26,hr30,hz31,_⟩
  change WR _ _ _ (CC F Γ21 [row25,row29,row17,[(gp_,.cells #[.int .i64 p_.id,(pq g1_1),.bool true,.slice A15 z9.length c16,.slice A4_1 p_.wants.length c4_1,(pq g5_1)] ep_ (0,0))],r4_1,r5_1]) _ _ (upd _ 30 (.slice A27 z19.2.length c28))
  refine mv (v:=.slice Ahashes hashes.length chashes) ?_
  have hc36:=hr30.capz
  intro w hw; obtain⟨Γ32,hw,hl33,hr34⟩:=hw.seal (i:=1) rfl; have hs35:=hr30.sl hl33 hr34
  refine ao (C:=CC F Γ32 [row25,[],row17,[(gp_,.cells #[.int .i64 p_.id,(pq g1_1),.bool true,.slice A15 z9.length c16,.slice A4_1 p_.wants.length c4_1,(pq g5_1)] ep_ (0,0))],r4_1,r5_1]) ?_ hw
  clear hw
  obtain⟨z37,hz38,h⟩:=bnd h
  refine e_call (is:=[]) rfl rfl (call_run Tryz.call58 rfl rfl (by kernel_rfl)) rfl (λw hp=>t_tree_Differ hs35 hc36 (hhashes.mono ((hl12.trans hl22).trans hl33)) hhashesc hp hz38) ?_
  rintro Γ39 U41 v42 hl40 ⟨A43,c44,row45,rfl,rfl,hr46,_⟩
  change WR _ _ _ (CC F Γ39 [row45,row25,[],row17,[(gp_,.cells #[.int .i64 p_.id,(pq g1_1),.bool true,.slice A15 z9.length c16,.slice A4_1 p_.wants.length c4_1,(pq g5_1)] ep_ (0,0))],r4_1,r5_1]) _ _ (upd _ 32 (.slice A43 z37.length c44))
  refine vb (q_len_slice rfl Tryz.underlying24 rfl) ?_
  refine mv (v:=.int .i64 0) ?_
  refine a6 ?_
  refine af ?_
  have hc51:=(hr18.mono ((hl22.trans hl33).trans hl40)).capz
  intro w hw; obtain⟨Γ47,hw,hl48,hr49⟩:=hw.seal (i:=3) rfl; have hs50:=(hr18.mono ((hl22.trans hl33).trans hl40)).sl hl48 hr49
  refine aa (C:=CC F Γ47 [row45,row25,[],[],[(gp_,.cells #[.int .i64 p_.id,(pq g1_1),.bool true,.slice A15 z9.length c16,.slice A4_1 p_.wants.length c4_1,(pq g5_1)] ep_ (0,0))],r4_1,r5_1]) ?_ hw
  clear hw
  obtain⟨row_52,hrow_52,hob_52⟩:∃rw:Rowb,rw=([[(gp_,.cells #[.int .i64 p_.id,(pq g1_1),.bool true,.slice A15 z9.length c16,.slice A4_1 p_.wants.length c4_1,(pq g5_1)] ep_ (0,0))],row25,r4_1,r5_1]:List Rowb).flatten∧Opull_Pull.ob ep_ Γ47 gp_ rw (⟨p_.id,z19.1,true,z9,p_.wants,p_.staged⟩:Opull_Pull):=⟨_,rfl,g1_1,row25,A15,c16,A4_1,c4_1,r4_1,g5_1,r5_1,rfl,ho0_1,(hr26.mono ((hl33.trans hl40).trans hl48)),hc51,hs50,(ho4_1.mono ((((hl12.trans hl22).trans hl33).trans hl40).trans hl48)),(ho5_1.mono ((((hl12.trans hl22).trans hl33).trans hl40).trans hl48)),trivial⟩
  intro w hw; have hw:=hw.fold (is:=[4,1,3,3]) rfl hrow_52
  refine aa (C:=CC F Γ47 [row_52,row45,[],[]]) ?_ hw
  clear hw
  refine ap h (λ(i57:Nat) (o53:Opull_Pull) σ w => ∃(row54:Rowb),slots σ [(0,(pq gp_)),(32,.slice A43 z37.length c44),(33,.int .i64 ((z37.length:Nat):Int)),(34,.int .i64 ((i57:Nat):Int))]∧CC F Γ47 [row54,row45] w∧Opull_Pull.ob ep_ Γ47 gp_ row54 o53∧True) ?_ ?_
  ·
   intro w hw
   exact⟨row_52,(sl_ (by kernel_rfl)),(hw.only (is:=[0,0]) rfl),hob_52,trivial⟩
  rintro f56 i57 o53 σ w hi58 hlt59 hge60 ⟨row54,hsl,hw,ho55,-⟩
  refine Wpt.slots hsl ?_
  refine aa (C:=CC F Γ47 [row54,row45]) ?_ hw
  clear hw hsl
  refine a7 ?_
  refine vb (q_lss rfl rfl rfl) ?_
  refine a6 ?_
  refine a8 ?_
  refine WC.cond (b:=(decide (((i57:Nat):Int)<((z37.length:Nat):Int)))) (by kernel_rfl) (λhb61=>?_) (λhb61=>?_)
  ·
   have hl62:=ilt hb61
   have h:=hlt59 hl62
   refine ae ?_
   change WC _ _ _ _ _ _
   refine a8 ?_
   refine af ?_
   refine a7 ?_
   refine vb (q_ixn (i:=i57) Tryz.underlying24 Tryz.sizeOf3 rfl rfl rfl hl62 ((hr46.mono hl48).some_ hl62)) ?_
   refine vb (q_ldo (c:=0) (v:=.int .i64 (gt z37 i57)) (i:=1) rfl ((hr46.mono hl48).intT_at hl62).2 rfl Tryz.isAgg3 rfl rfl) ?_
   refine as_ (v:=.int .i64 (gt z37 i57)) ?_
   refine a6 ?_
   refine ah ?_
   refine mv (v:=(pq gp_)) ?_
   refine mv (v:=(pq gp_)) ?_
   refine vb (q_nil (A:=some ⟨gp_,0,none⟩) rfl rfl rfl) ?_
   refine vb (q_fl 4 fld_97_4 rfl rfl rfl) ?_
   have hq:=ho55
   obtain⟨g1_63,r1_63,A3_63,c3_63,A4_63,c4_63,r4_63,g5_63,r5_63,hrow_63,ho0_63,ho1_63,ho2_63,ho3_63,ho4_63,ho5_63,-⟩:=hq
   intro w hw; have hw:=hw.unfold (i:=0) rfl hrow_63
   refine ao (C:=CC F Γ47 [[(gp_,.cells #[.int .i64 o53.id,(pq g1_63),.bool o53.begun,.slice A3_63 o53.vec.length c3_63,.slice A4_63 o53.wants.length c4_63,(pq g5_63)] ep_ (0,0))],r1_63,r4_63,r5_63,row45]) ?_ hw
   clear hw
   refine vb (q_ldl (i:=0) (v:=.slice A4_63 o53.wants.length c4_63) rfl rfl Tryz.isAgg95 rfl rfl) ?_
   refine mv (v:=.int .i64 (gt z37 i57)) ?_
   refine vb (q_build' (v:=.agg #[.int .i64 (gt z37 i57),.int .i64 (-1)]) rfl (bargs2 rfl rfl) (λw=>by kernel_rfl)) ?_
   refine e_buildSlice (cs:=#[.int .i64 (gt z37 i57),.int .i64 (-1)]) (e:=100) rfl rfl rfl rfl (λw=>by kernel_rfl) ?_
   intro g64
   obtain⟨hk65,h⟩:=chk_some h
   refine e_append (T:=dpull_wayT) (xs:=o53.wants) (ys:=[(⟨(gt z37 i57),(-1)⟩:Dpull_way)]) elem_95 (i:=3) rfl rfl rfl rfl rfl rfl rfl ho4_63 (of_decide_eq_true hk65) (λw hw=>src_one (T:=dpull_wayT) (y:=(⟨(gt z37 i57),(-1)⟩:Dpull_way)) (i:=0) rfl (by exact⟨rfl,⟨((hr46.mono hl48).intT_at hl62).1,(show I64 (-1) by decide)⟩⟩) hw) ?_
   intro row66 A67 c68 ho69
   refine vb (q_nil (A:=some ⟨gp_,0,none⟩) rfl rfl rfl) ?_
   refine vb (q_fl 4 fld_97_4 rfl rfl rfl) ?_
   refine e_st (i:=1) (v:=.slice A67 (o53.wants++[(⟨(gt z37 i57),(-1)⟩:Dpull_way)]).length c68) (new:=#[.int .i64 o53.id,(pq g1_63),.bool o53.begun,.slice A3_63 o53.vec.length c3_63,.slice A67 (o53.wants++[(⟨(gt z37 i57),(-1)⟩:Dpull_way)]).length c68,(pq g5_63)]) rfl Tryz.sizeOf95 rfl rfl rfl rfl (by kernel_rfl) rfl rfl rfl rfl ?_
   refine ab ?_
   change WC _ _ _ _ _ _
   refine ah ?_
   refine vb (q_add_r (r:=((i57+1:Nat):Int)) rfl rfl rfl (ctr_len hl62 (hr46.mono hl48).le)) ?_
   refine mv (v:=.int .i64 ((i57+1:Nat):Int)) ?_
   refine ab ?_
   intro w hw
   obtain⟨row_70,hrow_70,hob_70⟩:∃rw:Rowb,rw=([[(gp_,.cells #[.int .i64 o53.id,(pq g1_63),.bool o53.begun,.slice A3_63 o53.vec.length c3_63,.slice A67 (o53.wants++[(⟨(gt z37 i57),(-1)⟩:Dpull_way)]).length c68,(pq g5_63)] ep_ (0,0))],r1_63,row66,r5_63]:List Rowb).flatten∧Opull_Pull.ob ep_ Γ47 gp_ rw (⟨o53.id,o53.own,o53.begun,o53.vec,(o53.wants++[(⟨(gt z37 i57),(-1)⟩:Dpull_way)]),o53.staged⟩:Opull_Pull):=⟨_,rfl,g1_63,r1_63,A3_63,c3_63,A67,c68,row66,g5_63,r5_63,rfl,ho0_63,ho1_63,ho2_63,ho3_63,ho69,ho5_63,trivial⟩
   have hw:=hw.fold (is:=[1,1,1,1]) rfl hrow_70
   exact⟨hl62,(⟨o53.id,o53.own,o53.begun,o53.vec,(o53.wants++[(⟨(gt z37 i57),(-1)⟩:Dpull_way)]),o53.staged⟩:Opull_Pull),h,row_70,(sl_ (by kernel_rfl)),(hw.only (is:=[0,1]) rfl),hob_70,trivial⟩
  ·
   have h:=hge60 (ige hb61)
   refine am ?_
   change WC _ _ _ _ _ _
   refine a7 ?_
   refine as_ (v:=.bool true) ?_
   refine a6 ?_
   refine ac ?_
   intro w hw
   cases h
   subst hF
   exact end_e (is:=[0]) (by kernel_rfl) hw rfl ⟨row54,rfl,rfl,ho55,trivial⟩
abbrev r_pull_way_path(r:List Int)(U:List Rowb)(Γ:Gh)(v:Value):Prop := ∃(A0:Option Addr), ∃(c0:Nat),v = .slice A0 r.length c0∧U = []∧r.length≤c0∧Sl intT Γ A0 r∧True
theorem t_pull_way_path{Γ:Gh}{w0:World}(w_:Dpull_way)(hw_:Dpull_way.fits Γ  w_)(hp:Pre [] Γ w0){r:List Int}(h:m_pull_way_path w_=some r):Calls Tryz.prog 70 #[.agg #[.int .i64 w_.a0,.int .i64 w_.a1]] w0 (Outc Γ [] w0 (r_pull_way_path r)):=by
 refine calls_of (N:=10) (rs:=[2]) (args:=[.agg #[.int .i64 w_.a0,.int .i64 w_.a1]]) Tryz.func70 rfl Tryz.ntmps70 Tryz.results70 rfl ?_
 obtain⟨F,hF⟩:∃F:Fm,F=⟨ids [],w0,Γ⟩:=⟨_,rfl⟩
 refine aa (C:=CC F Γ []) ?_ (hF▸hp.start)
 refine a7 ?_
 refine e_box (v:=.agg #[.int .i64 w_.a0,.int .i64 w_.a1]) rfl rfl rfl rfl (by kernel_rfl) ?_
 intro g1
 refine as_ (v:=.slice none 0 0) ?_
 refine a6 ?_
 refine a8 ?_
 refine a7 ?_
 refine vb (q_ixa_ (1) Tryz.underlying100 Tryz.sizeOf3 rfl rfl rfl rfl rfl) ?_
 refine vb (q_ldl (i:=0) (v:=.int .i64 w_.a1) rfl rfl Tryz.isAgg3 rfl rfl) ?_
 refine vb (q_lss rfl rfl rfl) ?_
 refine a6 ?_
 refine aj h (by kernel_rfl) (λhb2 h=>?_) (λhb2 h=>?_)
 ·
  refine a7 ?_
  refine vb (q_ixa_ (0) Tryz.underlying100 Tryz.sizeOf3 rfl rfl rfl rfl rfl) ?_
  refine vb (q_ldl (i:=0) (v:=.int .i64 w_.a0) rfl rfl Tryz.isAgg3 rfl rfl) ?_
  refine e_buildSlice (cs:=#[.int .i64 w_.a0]) (e:=3) rfl rfl rfl rfl (λw=>by kernel_rfl) ?_
  intro g3
  refine as_ (v:=.slice (some ⟨g3,0,none⟩) 1 1) ?_
  refine a6 ?_
  refine ac ?_
  intro w hw
  have ho4:Own intT Γ 3 [(g3,.cells #[.int .i64 w_.a0] 3 (0,0))] (some ⟨g3,0,none⟩) 1 [w_.a0]:=aq (T:=intT) (ys:=[w_.a0]) [[.int .i64 w_.a0]] rfl (show 1≤lim by decide) (show Ty.rd intT Γ [.int .i64 w_.a0] w_.a0∧True from ⟨⟨rfl,hw_.1⟩,trivial⟩)
  have hc9:=ho4.capz
  obtain⟨Γ5,hw,hl6,hr7⟩:=hw.seal (i:=0) rfl; have hs8:=ho4.sl hl6 hr7
  cases h
  subst hF
  exact end_e (is:=[]) (by kernel_rfl) hw rfl ⟨(some ⟨g3,0,none⟩),1,rfl,rfl,hc9,hs8,trivial⟩
 ·
  refine ae ?_
  change WC _ _ _ _ _ _
  refine a7 ?_
  have ho10:Own intT Γ 100 [(g1,.cells #[.int .i64 w_.a0,.int .i64 w_.a1] 100 (0,0))] (some ⟨g1,0,none⟩) 2 [w_.a0,w_.a1]:=aq (T:=intT) (ys:=[w_.a0,w_.a1]) [[.int .i64 w_.a0],[.int .i64 w_.a1]] rfl (show 2≤lim by decide) (show Ty.rd intT Γ [.int .i64 w_.a0] w_.a0∧Ty.rd intT Γ [.int .i64 w_.a1] w_.a1∧True from ⟨⟨rfl,hw_.1⟩,⟨rfl,hw_.2⟩,trivial⟩)
  refine vb (q_slarr Tryz.underlying100 Tryz.sizeOf3 rfl rfl) ?_
  refine as_ (v:=.slice (some ⟨g1,0,none⟩) 2 2) ?_
  refine a6 ?_
  refine ac ?_
  intro w hw
  have hc15:=ho10.capz
  obtain⟨Γ11,hw,hl12,hr13⟩:=hw.seal (i:=0) rfl; have hs14:=ho10.sl hl12 hr13
  cases h
  subst hF
  exact end_e (is:=[]) (by kernel_rfl) hw rfl ⟨(some ⟨g1,0,none⟩),2,rfl,rfl,hc15,hs14,trivial⟩
abbrev r_pull_Pull_Wants(gp_:Nat)(ep_:Nat)(rowp_:Rowb)(r:List (List Int))(U:List Rowb)(Γ:Gh)(v:Value):Prop := ∃(A0:Option Addr), ∃(c0:Nat), ∃(row0:Rowb),v = .slice A0 r.length c0∧U = [rowp_,row0]∧Own (slT intT) Γ 24 row0 A0 c0 r∧True
theorem t_pull_Pull_Wants{Γ:Gh}{w0:World}{gp_ ep_:Nat}{rowp_:Rowb}{p_:Opull_Pull}(hp_:Opull_Pull.ob ep_ Γ gp_ rowp_ p_)(hp:Pre [rowp_] Γ w0){r:List (List Int)}(h:m_pull_Pull_Wants p_=some r):Calls Tryz.prog 31 #[(pq gp_)] w0 (Outc Γ [rowp_] w0 (r_pull_Pull_Wants gp_ ep_ rowp_ r)):=by
 refine calls_of (N:=23) (rs:=[2]) (args:=[(pq gp_)]) Tryz.func31 rfl Tryz.ntmps31 Tryz.results31 rfl ?_
 obtain⟨F,hF⟩:∃F:Fm,F=⟨ids [rowp_],w0,Γ⟩:=⟨_,rfl⟩
 refine aa (C:=CC F Γ [rowp_]) ?_ (hF▸hp.start)
 refine a7 ?_
 refine as_ (v:=.slice none 0 0) ?_
 refine a6 ?_
 refine a7 ?_
 refine as_ (v:=.slice none 0 0) ?_
 refine a6 ?_
 refine a8 ?_
 refine a7 ?_
 refine mv (v:=(pq gp_)) ?_
 refine vb (q_nil (A:=some ⟨gp_,0,none⟩) rfl rfl rfl) ?_
 refine vb (q_fl 4 fld_97_4 rfl rfl rfl) ?_
 have hq:=hp_
 obtain⟨g1_1,r1_1,A3_1,c3_1,A4_1,c4_1,r4_1,g5_1,r5_1,hrow_1,ho0_1,ho1_1,ho2_1,ho3_1,ho4_1,ho5_1,-⟩:=hq
 intro w hw; have hw:=hw.unfold (i:=0) rfl hrow_1
 refine ao (C:=CC F Γ [[(gp_,.cells #[.int .i64 p_.id,(pq g1_1),.bool p_.begun,.slice A3_1 p_.vec.length c3_1,.slice A4_1 p_.wants.length c4_1,(pq g5_1)] ep_ (0,0))],r1_1,r4_1,r5_1]) ?_ hw
 clear hw
 refine vb (q_ldl (i:=0) (v:=.slice A4_1 p_.wants.length c4_1) rfl rfl Tryz.isAgg95 rfl rfl) ?_
 refine vb (q_len_slice rfl Tryz.underlying95 rfl) ?_
 refine mv (v:=.int .i64 0) ?_
 refine a6 ?_
 refine af ?_
 refine ap h (λ(i10:Nat) (out_4:List (List Int)) σ w => ∃(Γ2:Gh), ∃(A5:Option Addr), ∃(c6:Nat), ∃(row7:Rowb),slots σ [(3,.slice A5 out_4.length c6),(9,.slice A4_1 p_.wants.length c4_1),(10,.int .i64 ((p_.wants.length:Nat):Int)),(11,.int .i64 ((i10:Nat):Int))]∧CC F Γ2 [row7,[(gp_,.cells #[.int .i64 p_.id,(pq g1_1),.bool p_.begun,.slice A3_1 p_.vec.length c3_1,.slice A4_1 p_.wants.length c4_1,(pq g5_1)] ep_ (0,0))],r1_1,r4_1,r5_1] w∧Gh.le Γ Γ2∧Own (slT intT) Γ2 24 row7 A5 c6 out_4∧True) ?_ ?_
 ·
  intro w hw
  have hw:=hw.pad
  exact⟨Γ,none,0,[],(sl_ (by kernel_rfl)),hw,(Gh.refl _),(Own.nil (slT intT) _ 24),trivial⟩
 rintro f9 i10 out_4 σ w hi11 hlt12 hge13 ⟨Γ2,A5,c6,row7,hsl,hw,hl3,ho8,-⟩
 refine Wpt.slots hsl ?_
 refine aa (C:=CC F Γ2 [row7,[(gp_,.cells #[.int .i64 p_.id,(pq g1_1),.bool p_.begun,.slice A3_1 p_.vec.length c3_1,.slice A4_1 p_.wants.length c4_1,(pq g5_1)] ep_ (0,0))],r1_1,r4_1,r5_1]) ?_ hw
 clear hw hsl
 refine a7 ?_
 refine vb (q_lss rfl rfl rfl) ?_
 refine a6 ?_
 refine a8 ?_
 refine WC.cond (b:=(decide (((i10:Nat):Int)<((p_.wants.length:Nat):Int)))) (by kernel_rfl) (λhb14=>?_) (λhb14=>?_)
 ·
  have hl15:=ilt hb14
  have h:=hlt12 hl15
  refine ae ?_
  change WC _ _ _ _ _ _
  refine a8 ?_
  refine af ?_
  refine a7 ?_
  refine vb (q_ixn (i:=i10) Tryz.underlying95 Tryz.sizeOf100 rfl rfl rfl hl15 ((ho4_1.mono hl3).some_ hl15)) ?_
  refine vb (q_ldoa (c:=0) (vs:=[.int .i64 (gt p_.wants i10).a0,.int .i64 (gt p_.wants i10).a1]) (i:=3) rfl ((ho4_1.mono hl3).dpull_wayT_at hl15).2 rfl Tryz.isAgg100 Tryz.sizeOf100 rfl rfl) ?_
  refine e_alloc Tryz.zeroValue100 rfl rfl rfl rfl ?_
  intro g16
  refine e_st (i:=0) (v:=.agg #[.int .i64 (gt p_.wants i10).a0,.int .i64 (gt p_.wants i10).a1]) (new:=#[.int .i64 (gt p_.wants i10).a0,.int .i64 (gt p_.wants i10).a1]) rfl Tryz.sizeOf100 rfl rfl rfl rfl (by kernel_rfl) rfl rfl rfl rfl ?_
  refine a6 ?_
  refine ah ?_
  refine mv (v:=.slice A5 out_4.length c6) ?_
  refine vb (q_ldla (i:=0) (vs:=[.int .i64 (gt p_.wants i10).a0,.int .i64 (gt p_.wants i10).a1]) rfl rfl Tryz.isAgg100 Tryz.sizeOf100 rfl rfl) ?_
  obtain⟨z17,hz18,h⟩:=bnd h
  refine e_call (is:=[]) rfl rfl (call_run Tryz.call70 rfl rfl (by kernel_rfl)) rfl (λw hp=>t_pull_way_path (gt p_.wants i10) ((ho4_1.mono hl3).dpull_wayT_at hl15).1 hp hz18) ?_
  rintro Γ19 U21 v22 hl20 ⟨A23,c24,rfl,rfl,hc26,hr25,_⟩
  change WR _ _ _ (CC F Γ19 [[(g16,.cells #[.int .i64 (gt p_.wants i10).a0,.int .i64 (gt p_.wants i10).a1] 100 (0,0))],row7,[(gp_,.cells #[.int .i64 p_.id,(pq g1_1),.bool p_.begun,.slice A3_1 p_.vec.length c3_1,.slice A4_1 p_.wants.length c4_1,(pq g5_1)] ep_ (0,0))],r1_1,r4_1,r5_1]) _ _ (upd _ 17 (.slice A23 z17.length c24))
  obtain⟨z27,hz28,h⟩:=bnd h
  refine e_call (is:=[]) rfl rfl (call_run Tryz.call69 rfl rfl (by kernel_rfl)) rfl (λw hp=>t_slices_Clone_int_int hr25 hc26 hp hz28) ?_
  rintro Γ29 U31 v32 hl30 ⟨A33,c34,row35,rfl,rfl,hr36,_⟩
  change WR _ _ _ (CC F Γ29 [row35,[(g16,.cells #[.int .i64 (gt p_.wants i10).a0,.int .i64 (gt p_.wants i10).a1] 100 (0,0))],row7,[(gp_,.cells #[.int .i64 p_.id,(pq g1_1),.bool p_.begun,.slice A3_1 p_.vec.length c3_1,.slice A4_1 p_.wants.length c4_1,(pq g5_1)] ep_ (0,0))],r1_1,r4_1,r5_1]) _ _ (upd _ 18 (.slice A33 z27.length c34))
  have hc41:=hr36.capz
  intro w hw; obtain⟨Γ37,hw,hl38,hr39⟩:=hw.seal (i:=0) rfl; have hs40:=hr36.sl hl38 hr39
  refine ao (C:=CC F Γ37 [[],[(g16,.cells #[.int .i64 (gt p_.wants i10).a0,.int .i64 (gt p_.wants i10).a1] 100 (0,0))],row7,[(gp_,.cells #[.int .i64 p_.id,(pq g1_1),.bool p_.begun,.slice A3_1 p_.vec.length c3_1,.slice A4_1 p_.wants.length c4_1,(pq g5_1)] ep_ (0,0))],r1_1,r4_1,r5_1]) ?_ hw
  clear hw
  refine e_buildSlice (cs:=#[.slice A33 z27.length c34]) (e:=24) rfl rfl rfl rfl (λw=>by kernel_rfl) ?_
  intro g42
  obtain⟨hk43,h⟩:=chk_some h
  refine e_append (T:=(slT intT)) (xs:=out_4) (ys:=[z27]) elem_57 (i:=3) rfl rfl rfl rfl rfl rfl rfl (ho8.mono ((hl20.trans hl30).trans hl38)) (of_decide_eq_true hk43) (λw hw=>src_one (T:=(slT intT)) (y:=z27) (i:=0) rfl (by exact⟨A33,c34,rfl,hc41,hs40⟩) hw) ?_
  intro row44 A45 c46 ho47
  refine as_ (v:=.slice A45 (out_4++[z27]).length c46) ?_
  refine ab ?_
  change WC _ _ _ _ _ _
  refine ah ?_
  refine vb (q_add_r (r:=((i10+1:Nat):Int)) rfl rfl rfl (ctr_len hl15 (ho4_1.mono hl3).le)) ?_
  refine mv (v:=.int .i64 ((i10+1:Nat):Int)) ?_
  exact ab λw hw=>⟨hl15,(out_4++[z27]),h,Γ37,A45,c46,row44,(sl_ (by kernel_rfl)),(hw.only (is:=[3,3,3,3,3]) rfl),(((hl3.trans hl20).trans hl30).trans hl38),ho47,trivial⟩
 ·
  have h:=hge13 (ige hb14)
  refine am ?_
  change WC _ _ _ _ _ _
  refine a7 ?_
  refine mv (v:=.slice A5 out_4.length c6) ?_
  refine as_ (v:=.slice A5 out_4.length c6) ?_
  refine a6 ?_
  refine ac ?_
  intro w hw
  have hw:=hw.fold (is:=[1,1,1,1]) rfl hrow_1
  cases h
  subst hF
  exact end_e (is:=[0,0]) (by kernel_rfl) hw rfl ⟨A5,c6,row7,rfl,rfl,ho8,trivial⟩
theorem t_pull_Cut_Want_1{Γ:Gh}{w0:World}(d:Int)(hd:I64 d)(hs:Sat Γ w0){r:Bool}(h:m_pull_Cut_Want_1 d=some r):Calls Tryz.prog 51 #[.int .i64 d] w0 (λe w'=>e = .returned (.bool r)∧Fr no w0 w'):=by
 refine calls_of (N:=9) (rs:=[2]) (args:=[.int .i64 d]) Tryz.func51 rfl Tryz.ntmps51 Tryz.results51 rfl ?_
 obtain⟨F,hF⟩:∃F:Fm,F=⟨no,w0,Γ⟩:=⟨_,rfl⟩
 refine aa (C:=CC F Γ []) ?_ (hF▸Cur.start0 hs)
 refine a7 ?_
 refine as_ (v:=.bool false) ?_
 refine a6 ?_
 refine a7 ?_
 refine mv (v:=.int .i64 d) ?_
 refine vb (q_lss rfl rfl rfl) ?_
 refine mv (v:=.bool (decide (d<0))) ?_
 refine vg0 rfl rfl rfl rfl rfl (λhg1=>QV.qo (q_move (v:=.int .i64 d) rfl (by kernel_rfl))) ?_
 refine vg0 rfl rfl rfl rfl rfl (λhg2=>QV.qo (q_gtr rfl (gu hg2 rfl) rfl)) ?_
 refine vb (q_pick rfl rfl (pk_or' (g:=(decide (d<0))) (y:=(decide (15<d))))) ?_
 refine as_ (v:=.bool ((decide (d<0))||(decide (15<d)))) ?_
 refine a6 ?_
 refine ac ?_
 intro w hw
 cases h
 subst hF
 exact⟨by kernel_rfl,hw.fr⟩
theorem t_slices_IndexFunc_int_int{Γ:Gh}{w0:World}{As_:Option Addr}{cs_:Nat}{s_:List Int}(hs_:Sl intT Γ As_ s_)(hs_c:s_.length≤cs_)(hs:Sat Γ w0){r:Int}(h:m_slices_IndexFunc_int_int s_=some r):Calls Tryz.prog 73 #[.slice As_ s_.length cs_,.func (.func 51) #[] #[]] w0 (λe w'=>e = .returned (.int .i64 r)∧Fr no w0 w'):=by
 refine calls_of (N:=19) (rs:=[4]) (args:=[.slice As_ s_.length cs_,.func (.func 51) #[] #[]]) Tryz.func73 rfl Tryz.ntmps73 Tryz.results73 rfl ?_
 obtain⟨F,hF⟩:∃F:Fm,F=⟨no,w0,Γ⟩:=⟨_,rfl⟩
 refine aa (C:=CC F Γ []) ?_ (hF▸Cur.start0 hs)
 refine a7 ?_
 refine as_ (v:=.int .i64 0) ?_
 refine a6 ?_
 refine a8 ?_
 refine a7 ?_
 refine mv (v:=.slice As_ s_.length cs_) ?_
 refine vb (q_len_slice rfl Tryz.underlying24 rfl) ?_
 refine mv (v:=.int .i64 0) ?_
 refine a6 ?_
 refine af ?_
 refine ap h (λ(i2:Nat) (s:Unit) σ w=>match s with | ()=>slots σ [(0,.slice As_ s_.length cs_),(1,.func (.func 51) #[] #[]),(7,.int .i64 ((s_.length:Nat):Int)),(8,.int .i64 ((i2:Nat):Int))]∧CC F Γ [] w∧True) ?_ ?_
 ·
  intro w hw
  exact⟨(sl_ (by kernel_rfl)),hw,trivial⟩
 rintro f1 i2 ⟨⟩ σ w hi3 hlt4 hge5 ⟨hsl,hw,-⟩
 refine Wpt.slots hsl ?_
 refine aa (C:=CC F Γ []) ?_ hw
 clear hw hsl
 refine a7 ?_
 refine vb (q_lss rfl rfl rfl) ?_
 refine a6 ?_
 refine a8 ?_
 refine WC.cond (b:=(decide (((i2:Nat):Int)<((s_.length:Nat):Int)))) (by kernel_rfl) (λhb6=>?_) (λhb6=>?_)
 ·
  have hl7:=ilt hb6
  have h:=hlt4 hl7
  refine ae ?_
  change WC _ _ _ _ _ _
  refine a8 ?_
  refine af ?_
  refine a7 ?_
  refine mv (v:=.int .i64 ((i2:Nat):Int)) ?_
  refine as_ (v:=.int .i64 ((i2:Nat):Int)) ?_
  refine a6 ?_
  refine a7 ?_
  refine mv (v:=.func (.func 51) #[] #[]) ?_
  refine mv (v:=.slice As_ s_.length cs_) ?_
  refine mv (v:=.int .i64 ((i2:Nat):Int)) ?_
  refine vb (q_ixn (i:=i2) Tryz.underlying24 Tryz.sizeOf3 rfl rfl rfl hl7 (hs_.some_ hl7)) ?_
  refine vb (q_ld (c:=0) (v:=.int .i64 (gt s_ i2)) (hs_.intT_at hl7).2 rfl Tryz.isAgg3 rfl rfl) ?_
  obtain⟨z8,hz9,h⟩:=bnd h
  refine vc rfl rfl rfl (q_call (call_run_fv (caps:=#[]) Tryz.call51 rfl (by kernel_rfl) (by kernel_rfl)) (λw hw=>t_pull_Cut_Want_1 (Γ:=Gh.all w) (gt s_ i2) (hs_.intT_at hl7).1 (Sat.all w) hz9)) ?_
  refine a6 ?_
  refine aj h (by kernel_rfl) (λhb10 h=>?_) (λhb10 h=>?_)
  ·
   refine a7 ?_
   refine mv (v:=.int .i64 ((i2:Nat):Int)) ?_
   refine as_ (v:=.int .i64 ((i2:Nat):Int)) ?_
   refine a6 ?_
   refine ac ?_
   intro w hw
   cases h
   subst hF
   exact⟨by kernel_rfl,hw.fr⟩
  ·
   refine ae ?_
   change WC _ _ _ _ _ _
   refine ah ?_
   refine vb (q_add_r (r:=((i2+1:Nat):Int)) rfl rfl rfl (ctr_len hl7 hs_.le)) ?_
   refine mv (v:=.int .i64 ((i2+1:Nat):Int)) ?_
   exact ab λw hw=>⟨hl7,(),h,(sl_ (by kernel_rfl)),hw,trivial⟩
 ·
  have h:=hge5 (ige hb6)
  refine am ?_
  change WC _ _ _ _ _ _
  refine a7 ?_
  refine as_ (v:=.int .i64 (-1)) ?_
  refine a6 ?_
  refine ac ?_
  intro w hw
  cases h
  subst hF
  exact⟨by kernel_rfl,hw.fr⟩
theorem t_slices_ContainsFunc_int_int{Γ:Gh}{w0:World}{As_:Option Addr}{cs_:Nat}{s_:List Int}(hs_:Sl intT Γ As_ s_)(hs_c:s_.length≤cs_)(hs:Sat Γ w0){r:Bool}(h:m_slices_ContainsFunc_int_int s_=some r):Calls Tryz.prog 50 #[.slice As_ s_.length cs_,.func (.func 51) #[] #[]] w0 (λe w'=>e = .returned (.bool r)∧Fr no w0 w'):=by
 refine calls_of (N:=9) (rs:=[4]) (args:=[.slice As_ s_.length cs_,.func (.func 51) #[] #[]]) Tryz.func50 rfl Tryz.ntmps50 Tryz.results50 rfl ?_
 obtain⟨F,hF⟩:∃F:Fm,F=⟨no,w0,Γ⟩:=⟨_,rfl⟩
 refine aa (C:=CC F Γ []) ?_ (hF▸Cur.start0 hs)
 refine a7 ?_
 refine as_ (v:=.bool false) ?_
 refine a6 ?_
 refine a7 ?_
 refine mv (v:=.slice As_ s_.length cs_) ?_
 refine mv (v:=.func (.func 51) #[] #[]) ?_
 obtain⟨z1,hz2,h⟩:=bnd h
 refine vc rfl rfl rfl (q_call (call_run Tryz.call73 rfl rfl (by kernel_rfl)) (λw hw=>t_slices_IndexFunc_int_int (Γ:=Gh.all w) (hs_.mono hw.sat.le_all) hs_c (Sat.all w) hz2)) ?_
 refine vb (q_geq rfl rfl rfl) ?_
 refine as_ (v:=.bool (decide (0≤z1))) ?_
 refine a6 ?_
 refine ac ?_
 intro w hw
 cases h
 subst hF
 exact⟨by kernel_rfl,hw.fr⟩
abbrev r_pull_Cut_Want(gc_:Nat)(ec_:Nat)(r:Opull_Cut×(List Int)×(List Rec)×Bool)(U:List Rowb)(Γ:Gh)(v:Value):Prop := ∃(rowc_':Rowb), ∃(A0:Option Addr), ∃(c0:Nat), ∃(row0:Rowb), ∃(A1:Option Addr), ∃(c1:Nat), ∃(row1:Rowb),v = .tuple #[.slice A0 r.2.1.length c0,.slice A1 r.2.2.1.length c1,.bool r.2.2.2]∧U = [rowc_',row0,row1]∧Opull_Cut.ob ec_ Γ gc_ rowc_' r.1∧Own u64T Γ 78 row0 A0 c0 r.2.1∧Own recT Γ 70 row1 A1 c1 r.2.2.1∧True
theorem t_pull_Cut_Want{Γ:Gh}{w0:World}{gc_ ec_:Nat}{rowc_:Rowb}{c_:Opull_Cut}(hc_:Opull_Cut.ob ec_ Γ gc_ rowc_ c_){Apath:Option Addr}{cpath:Nat}{path:List Int}(hpath:Sl intT Γ Apath path)(hpathc:path.length≤cpath)(hp:Pre [rowc_] Γ w0){r:Opull_Cut×(List Int)×(List Rec)×Bool}(h:m_pull_Cut_Want c_ path=some r):Calls Tryz.prog 13 #[(pq gc_),.slice Apath path.length cpath] w0 (Outc Γ [rowc_] w0 (r_pull_Cut_Want gc_ ec_ r)):=by
 refine calls_of (N:=27) (rs:=[4,5,6]) (args:=[(pq gc_),.slice Apath path.length cpath]) Tryz.func13 rfl Tryz.ntmps13 Tryz.results13 rfl ?_
 obtain⟨F,hF⟩:∃F:Fm,F=⟨ids [rowc_],w0,Γ⟩:=⟨_,rfl⟩
 refine aa (C:=CC F Γ [rowc_]) ?_ (hF▸hp.start)
 refine a7 ?_
 refine as_ (v:=.slice none 0 0) ?_
 refine as_ (v:=.slice none 0 0) ?_
 refine as_ (v:=.bool false) ?_
 refine a6 ?_
 refine a8 ?_
 refine a7 ?_
 refine mv (v:=.slice Apath path.length cpath) ?_
 obtain⟨z1,hz2,h⟩:=bnd h
 refine vc rfl rfl rfl (q_call (call_run Tryz.call50 rfl rfl (by kernel_rfl)) (λw hw=>t_slices_ContainsFunc_int_int (Γ:=Gh.all w) (hpath.mono hw.sat.le_all) hpathc (Sat.all w) hz2)) ?_
 refine a6 ?_
 refine aj h (by kernel_rfl) (λhb3 h=>?_) (λhb3 h=>?_)
 ·
  refine a7 ?_
  refine as_ (v:=.slice none 0 0) ?_
  refine as_ (v:=.slice none 0 0) ?_
  refine as_ (v:=.bool false) ?_
  refine a6 ?_
  refine ac ?_
  intro w hw
  have hw:=hw.pad
  have hw:=hw.pad
  cases h
  subst hF
  exact end_e (is:=[2,1,0]) (by kernel_rfl) hw rfl ⟨rowc_,none,0,[],none,0,[],rfl,rfl,hc_,(Own.nil u64T _ 78),(Own.nil recT _ 70),trivial⟩
 ·
  refine ae ?_
  change WC _ _ _ _ _ _
  refine a8 ?_
  refine a7 ?_
  refine mv (v:=.slice Apath path.length cpath) ?_
  refine vb (q_len_slice rfl Tryz.underlying24 rfl) ?_
  refine a6 ?_
  refine af ?_
  refine a7 ?_
  refine vb (q_eql rfl rfl rfl) ?_
  refine as_ (v:=.bool (((path.length:Nat):Int)==1)) ?_
  refine a6 ?_
  refine aj h (by kernel_rfl) (λhb4 h=>?_) (λhb4 h=>?_)
  ·
   refine a7 ?_
   refine mv (v:=(pq gc_)) ?_
   refine vb (q_nil (A:=some ⟨gc_,0,none⟩) rfl rfl rfl) ?_
   refine vb (q_fl 2 fld_85_2 rfl rfl rfl) ?_
   have hq:=hc_
   obtain⟨A1_5,c1_5,g2_5,r2_5,hrow_5,ho0_5,ho1_5,ho2_5,ho3_5,-⟩:=hq
   intro w hw; have hw:=hw.unfold (i:=0) rfl hrow_5
   refine ao (C:=CC F Γ [[(gc_,.cells #[.int .i64 c_.id,.slice A1_5 c_.vec.length c1_5,(pq g2_5)] ec_ (0,0))],r2_5]) ?_ hw
   clear hw
   refine vb (q_ldl (i:=0) (v:=(pq g2_5)) rfl rfl Tryz.isAgg79 rfl rfl) ?_
   refine mv (v:=.slice Apath path.length cpath) ?_
   obtain⟨z6,hz7,h⟩:=bnd h
   refine e_call (is:=[1]) rfl rfl (call_run Tryz.call52 rfl rfl (by kernel_rfl)) rfl (λw hp=>t_tree_Tree_Kids t_HashC ho3_5 hpath hpathc (λp hp=>nomatch hp) hp hz7) ?_
   rintro Γ8 U10 v11 hl9 ⟨row12,A14,c15,row16,rfl,rfl,hr13,hr17,hz18,_⟩
   change WR _ _ _ (CC F Γ8 [row12,row16,[(gc_,.cells #[.int .i64 c_.id,.slice A1_5 c_.vec.length c1_5,(pq g2_5)] ec_ (0,0))]]) _ _ (upd _ 18 (.slice A14 z6.2.length c15))
   refine as_ (v:=.slice A14 z6.2.length c15) ?_
   refine as_ (v:=.slice none 0 0) ?_
   refine as_ (v:=.bool true) ?_
   refine a6 ?_
   refine ac ?_
   intro w hw
   obtain⟨row_19,hrow_19,hob_19⟩:∃rw:Rowb,rw=([[(gc_,.cells #[.int .i64 c_.id,.slice A1_5 c_.vec.length c1_5,(pq g2_5)] ec_ (0,0))],row12]:List Rowb).flatten∧Opull_Cut.ob ec_ Γ8 gc_ rw (⟨c_.id,c_.vec,z6.1⟩:Opull_Cut):=⟨_,rfl,A1_5,c1_5,g2_5,row12,rfl,ho0_5,ho1_5,(ho2_5.mono hl9),hr13,trivial⟩
   have hw:=hw.fold (is:=[2,0]) rfl hrow_19
   have hw:=hw.pad
   cases h
   subst hF
   exact end_e (is:=[1,1,0]) (by kernel_rfl) hw rfl ⟨row_19,A14,c15,row16,none,0,[],rfl,rfl,hob_19,hr17,(Own.nil recT _ 70),trivial⟩
  ·
   refine a7 ?_
   refine vb (q_eql rfl rfl rfl) ?_
   refine as_ (v:=.bool (((path.length:Nat):Int)==2)) ?_
   refine a6 ?_
   refine aj h (by kernel_rfl) (λhb20 h=>?_) (λhb20 h=>?_)
   ·
    refine a7 ?_
    refine mv (v:=(pq gc_)) ?_
    refine vb (q_nil (A:=some ⟨gc_,0,none⟩) rfl rfl rfl) ?_
    refine vb (q_fl 2 fld_85_2 rfl rfl rfl) ?_
    have hq:=hc_
    obtain⟨A1_21,c1_21,g2_21,r2_21,hrow_21,ho0_21,ho1_21,ho2_21,ho3_21,-⟩:=hq
    intro w hw; have hw:=hw.unfold (i:=0) rfl hrow_21
    refine ao (C:=CC F Γ [[(gc_,.cells #[.int .i64 c_.id,.slice A1_21 c_.vec.length c1_21,(pq g2_21)] ec_ (0,0))],r2_21]) ?_ hw
    clear hw
    refine vb (q_ldl (i:=0) (v:=(pq g2_21)) rfl rfl Tryz.isAgg79 rfl rfl) ?_
    refine mv (v:=.slice Apath path.length cpath) ?_
    obtain⟨z22,hz23,h⟩:=bnd h
    refine e_call (is:=[1]) rfl rfl (call_run Tryz.call53 rfl rfl (by kernel_rfl)) rfl (λw hp=>t_tree_Tree_Recs ho3_21 hpath hpathc hp hz23) ?_
    rintro Γ24 U26 v27 hl25 ⟨A28,c29,row30,rfl,rfl,hr31,_⟩
    change WR _ _ _ (CC F Γ24 [r2_21,row30,[(gc_,.cells #[.int .i64 c_.id,.slice A1_21 c_.vec.length c1_21,(pq g2_21)] ec_ (0,0))]]) _ _ (upd _ 26 (.slice A28 z22.length c29))
    refine as_ (v:=.slice none 0 0) ?_
    refine as_ (v:=.slice A28 z22.length c29) ?_
    refine as_ (v:=.bool true) ?_
    refine a6 ?_
    refine ac ?_
    intro w hw
    have hw:=hw.fold (is:=[2,0]) rfl hrow_21
    have hw:=hw.pad
    cases h
    subst hF
    exact end_e (is:=[1,0,0]) (by kernel_rfl) hw rfl ⟨rowc_,none,0,[],A28,c29,row30,rfl,rfl,(hc_.mono hl25),(Own.nil u64T _ 78),hr31,trivial⟩
   ·
    refine ae ?_
    change WC _ _ _ _ _ _
    refine a7 ?_
    refine as_ (v:=.slice none 0 0) ?_
    refine as_ (v:=.slice none 0 0) ?_
    refine as_ (v:=.bool false) ?_
    refine a6 ?_
    refine ac ?_
    intro w hw
    have hw:=hw.pad
    have hw:=hw.pad
    cases h
    subst hF
    exact end_e (is:=[2,1,0]) (by kernel_rfl) hw rfl ⟨rowc_,none,0,[],none,0,[],rfl,rfl,hc_,(Own.nil u64T _ 78),(Own.nil recT _ 70),trivial⟩
theorem t_pull_Pull_Tell_1{Γ:Gh}{w0:World}(d:Int)(hd:I64 d)(hs:Sat Γ w0){r:Bool}(h:m_pull_Pull_Tell_1 d=some r):Calls Tryz.prog 60 #[.int .i64 d] w0 (λe w'=>e = .returned (.bool r)∧Fr no w0 w'):=by
 refine calls_of (N:=5) (rs:=[2]) (args:=[.int .i64 d]) Tryz.func60 rfl Tryz.ntmps60 Tryz.results60 rfl ?_
 obtain⟨F,hF⟩:∃F:Fm,F=⟨no,w0,Γ⟩:=⟨_,rfl⟩
 refine aa (C:=CC F Γ []) ?_ (hF▸Cur.start0 hs)
 refine a7 ?_
 refine as_ (v:=.bool false) ?_
 refine a6 ?_
 refine a7 ?_
 refine mv (v:=.int .i64 d) ?_
 refine vb (q_lss rfl rfl rfl) ?_
 refine as_ (v:=.bool (decide (d<0))) ?_
 refine a6 ?_
 refine ac ?_
 intro w hw
 cases h
 subst hF
 exact⟨by kernel_rfl,hw.fr⟩
theorem t_slices_IndexFunc_int_int_s1{Γ:Gh}{w0:World}{As_:Option Addr}{cs_:Nat}{s_:List Int}(hs_:Sl intT Γ As_ s_)(hs_c:s_.length≤cs_)(hs:Sat Γ w0){r:Int}(h:m_slices_IndexFunc_int_int_s1 s_=some r):Calls Tryz.prog 73 #[.slice As_ s_.length cs_,.func (.func 60) #[] #[]] w0 (λe w'=>e = .returned (.int .i64 r)∧Fr no w0 w'):=by
 refine calls_of (N:=19) (rs:=[4]) (args:=[.slice As_ s_.length cs_,.func (.func 60) #[] #[]]) Tryz.func73 rfl Tryz.ntmps73 Tryz.results73 rfl ?_
 obtain⟨F,hF⟩:∃F:Fm,F=⟨no,w0,Γ⟩:=⟨_,rfl⟩
 refine aa (C:=CC F Γ []) ?_ (hF▸Cur.start0 hs)
 refine a7 ?_
 refine as_ (v:=.int .i64 0) ?_
 refine a6 ?_
 refine a8 ?_
 refine a7 ?_
 refine mv (v:=.slice As_ s_.length cs_) ?_
 refine vb (q_len_slice rfl Tryz.underlying24 rfl) ?_
 refine mv (v:=.int .i64 0) ?_
 refine a6 ?_
 refine af ?_
 refine ap h (λ(i2:Nat) (s:Unit) σ w=>match s with | ()=>slots σ [(0,.slice As_ s_.length cs_),(1,.func (.func 60) #[] #[]),(7,.int .i64 ((s_.length:Nat):Int)),(8,.int .i64 ((i2:Nat):Int))]∧CC F Γ [] w∧True) ?_ ?_
 ·
  intro w hw
  exact⟨(sl_ (by kernel_rfl)),hw,trivial⟩
 rintro f1 i2 ⟨⟩ σ w hi3 hlt4 hge5 ⟨hsl,hw,-⟩
 refine Wpt.slots hsl ?_
 refine aa (C:=CC F Γ []) ?_ hw
 clear hw hsl
 refine a7 ?_
 refine vb (q_lss rfl rfl rfl) ?_
 refine a6 ?_
 refine a8 ?_
 refine WC.cond (b:=(decide (((i2:Nat):Int)<((s_.length:Nat):Int)))) (by kernel_rfl) (λhb6=>?_) (λhb6=>?_)
 ·
  have hl7:=ilt hb6
  have h:=hlt4 hl7
  refine ae ?_
  change WC _ _ _ _ _ _
  refine a8 ?_
  refine af ?_
  refine a7 ?_
  refine mv (v:=.int .i64 ((i2:Nat):Int)) ?_
  refine as_ (v:=.int .i64 ((i2:Nat):Int)) ?_
  refine a6 ?_
  refine a7 ?_
  refine mv (v:=.func (.func 60) #[] #[]) ?_
  refine mv (v:=.slice As_ s_.length cs_) ?_
  refine mv (v:=.int .i64 ((i2:Nat):Int)) ?_
  refine vb (q_ixn (i:=i2) Tryz.underlying24 Tryz.sizeOf3 rfl rfl rfl hl7 (hs_.some_ hl7)) ?_
  refine vb (q_ld (c:=0) (v:=.int .i64 (gt s_ i2)) (hs_.intT_at hl7).2 rfl Tryz.isAgg3 rfl rfl) ?_
  obtain⟨z8,hz9,h⟩:=bnd h
  refine vc rfl rfl rfl (q_call (call_run_fv (caps:=#[]) Tryz.call60 rfl (by kernel_rfl) (by kernel_rfl)) (λw hw=>t_pull_Pull_Tell_1 (Γ:=Gh.all w) (gt s_ i2) (hs_.intT_at hl7).1 (Sat.all w) hz9)) ?_
  refine a6 ?_
  refine aj h (by kernel_rfl) (λhb10 h=>?_) (λhb10 h=>?_)
  ·
   refine a7 ?_
   refine mv (v:=.int .i64 ((i2:Nat):Int)) ?_
   refine as_ (v:=.int .i64 ((i2:Nat):Int)) ?_
   refine a6 ?_
   refine ac ?_
   intro w hw
   cases h
   subst hF
   exact⟨by kernel_rfl,hw.fr⟩
  ·
   refine ae ?_
   change WC _ _ _ _ _ _
   refine ah ?_
   refine vb (q_add_r (r:=((i2+1:Nat):Int)) rfl rfl rfl (ctr_len hl7 hs_.le)) ?_
   refine mv (v:=.int .i64 ((i2+1:Nat):Int)) ?_
   exact ab λw hw=>⟨hl7,(),h,(sl_ (by kernel_rfl)),hw,trivial⟩
 ·
  have h:=hge5 (ige hb6)
  refine am ?_
  change WC _ _ _ _ _ _
  refine a7 ?_
  refine as_ (v:=.int .i64 (-1)) ?_
  refine a6 ?_
  refine ac ?_
  intro w hw
  cases h
  subst hF
  exact⟨by kernel_rfl,hw.fr⟩
theorem t_slices_ContainsFunc_int_int_s1{Γ:Gh}{w0:World}{As_:Option Addr}{cs_:Nat}{s_:List Int}(hs_:Sl intT Γ As_ s_)(hs_c:s_.length≤cs_)(hs:Sat Γ w0){r:Bool}(h:m_slices_ContainsFunc_int_int_s1 s_=some r):Calls Tryz.prog 50 #[.slice As_ s_.length cs_,.func (.func 60) #[] #[]] w0 (λe w'=>e = .returned (.bool r)∧Fr no w0 w'):=by
 refine calls_of (N:=9) (rs:=[4]) (args:=[.slice As_ s_.length cs_,.func (.func 60) #[] #[]]) Tryz.func50 rfl Tryz.ntmps50 Tryz.results50 rfl ?_
 obtain⟨F,hF⟩:∃F:Fm,F=⟨no,w0,Γ⟩:=⟨_,rfl⟩
 refine aa (C:=CC F Γ []) ?_ (hF▸Cur.start0 hs)
 refine a7 ?_
 refine as_ (v:=.bool false) ?_
 refine a6 ?_
 refine a7 ?_
 refine mv (v:=.slice As_ s_.length cs_) ?_
 refine mv (v:=.func (.func 60) #[] #[]) ?_
 obtain⟨z1,hz2,h⟩:=bnd h
 refine vc rfl rfl rfl (q_call (call_run Tryz.call73 rfl rfl (by kernel_rfl)) (λw hw=>t_slices_IndexFunc_int_int_s1 (Γ:=Gh.all w) (hs_.mono hw.sat.le_all) hs_c (Sat.all w) hz2)) ?_
 refine vb (q_geq rfl rfl rfl) ?_
 refine as_ (v:=.bool (decide (0≤z1))) ?_
 refine a6 ?_
 refine ac ?_
 intro w hw
 cases h
 subst hF
 exact⟨by kernel_rfl,hw.fr⟩
theorem t_slices_Index_pull_way_pull_way{Γ:Gh}{w0:World}{As_:Option Addr}{cs_:Nat}{s_:List Dpull_way}(hs_:Sl dpull_wayT Γ As_ s_)(hs_c:s_.length≤cs_)(v_:Dpull_way)(hv_:Dpull_way.fits Γ  v_)(hs:Sat Γ w0){r:Int}(h:m_slices_Index_pull_way_pull_way s_ v_=some r):Calls Tryz.prog 61 #[.slice As_ s_.length cs_,.agg #[.int .i64 v_.a0,.int .i64 v_.a1]] w0 (λe w'=>e = .returned (.int .i64 r)∧Fr no w0 w'):=by
 refine calls_of (N:=19) (rs:=[4]) (args:=[.slice As_ s_.length cs_,.agg #[.int .i64 v_.a0,.int .i64 v_.a1]]) Tryz.func61 rfl Tryz.ntmps61 Tryz.results61 rfl ?_
 obtain⟨F,hF⟩:∃F:Fm,F=⟨no,w0,Γ⟩:=⟨_,rfl⟩
 refine aa (C:=CC F Γ []) ?_ (hF▸Cur.start0 hs)
 refine a7 ?_
 refine e_box (v:=.agg #[.int .i64 v_.a0,.int .i64 v_.a1]) rfl rfl rfl rfl (by kernel_rfl) ?_
 intro g1
 refine as_ (v:=.int .i64 0) ?_
 refine a6 ?_
 refine a8 ?_
 refine a7 ?_
 refine mv (v:=.slice As_ s_.length cs_) ?_
 refine vb (q_len_slice rfl Tryz.underlying95 rfl) ?_
 refine mv (v:=.int .i64 0) ?_
 refine a6 ?_
 refine af ?_
 refine ap h (λ(i3:Nat) (s:Unit) σ w=>match s with | ()=>slots σ [(0,.slice As_ s_.length cs_),(3,(pq g1)),(7,.int .i64 ((s_.length:Nat):Int)),(8,.int .i64 ((i3:Nat):Int))]∧CC F Γ [[(g1,.cells #[.int .i64 v_.a0,.int .i64 v_.a1] 100 (0,0))]] w∧True) ?_ ?_
 ·
  intro w hw
  exact⟨(sl_ (by kernel_rfl)),hw,trivial⟩
 rintro f2 i3 ⟨⟩ σ w hi4 hlt5 hge6 ⟨hsl,hw,-⟩
 refine Wpt.slots hsl ?_
 refine aa (C:=CC F Γ [[(g1,.cells #[.int .i64 v_.a0,.int .i64 v_.a1] 100 (0,0))]]) ?_ hw
 clear hw hsl
 refine a7 ?_
 refine vb (q_lss rfl rfl rfl) ?_
 refine a6 ?_
 refine a8 ?_
 refine WC.cond (b:=(decide (((i3:Nat):Int)<((s_.length:Nat):Int)))) (by kernel_rfl) (λhb7=>?_) (λhb7=>?_)
 ·
  have hl8:=ilt hb7
  have h:=hlt5 hl8
  refine ae ?_
  change WC _ _ _ _ _ _
  refine a8 ?_
  refine af ?_
  refine a7 ?_
  refine mv (v:=.int .i64 ((i3:Nat):Int)) ?_
  refine as_ (v:=.int .i64 ((i3:Nat):Int)) ?_
  refine a6 ?_
  refine a8 ?_
  refine ay (by kernel_rfl) (by kernel_rfl) (λw hw=>hw.drawn _) ?_
  refine wa rfl rfl rfl (q_ldla (i:=0) (vs:=[.int .i64 v_.a0,.int .i64 v_.a1]) rfl rfl Tryz.isAgg100 Tryz.sizeOf100 rfl rfl) ?_
  refine wa rfl rfl rfl (q_move (v:=.slice As_ s_.length cs_) rfl (by kernel_rfl)) ?_
  refine wa rfl rfl rfl (q_move (v:=.int .i64 ((i3:Nat):Int)) rfl (by kernel_rfl)) ?_
  refine wa rfl rfl rfl (q_ixn (i:=i3) Tryz.underlying95 Tryz.sizeOf100 rfl rfl rfl hl8 (hs_.some_ hl8)) ?_
  refine wa rfl rfl rfl (q_lda (c:=0) (vs:=[.int .i64 (gt s_ i3).a0,.int .i64 (gt s_ i3).a1]) (hs_.dpull_wayT_at hl8).2 rfl Tryz.isAgg100 Tryz.sizeOf100 rfl rfl rfl) ?_
  refine wa rfl rfl rfl (q_eql_Dpull_way (a:=v_) (b:=(gt s_ i3)) rfl rfl rfl) ?_
  refine aw ?_
  change WC _ _ _ _ _ _
  refine aj h (by kernel_rfl) (λhb9 h=>?_) (λhb9 h=>?_)
  ·
   refine a7 ?_
   refine mv (v:=.int .i64 ((i3:Nat):Int)) ?_
   refine as_ (v:=.int .i64 ((i3:Nat):Int)) ?_
   refine a6 ?_
   refine ac ?_
   intro w hw
   cases h
   subst hF
   exact⟨by kernel_rfl,hw.fr⟩
  ·
   refine ae ?_
   change WC _ _ _ _ _ _
   refine ah ?_
   refine vb (q_add_r (r:=((i3+1:Nat):Int)) rfl rfl rfl (ctr_len hl8 hs_.le)) ?_
   refine mv (v:=.int .i64 ((i3+1:Nat):Int)) ?_
   exact ab λw hw=>⟨hl8,(),h,(sl_ (by kernel_rfl)),hw,trivial⟩
 ·
  have h:=hge6 (ige hb7)
  refine am ?_
  change WC _ _ _ _ _ _
  refine a7 ?_
  refine as_ (v:=.int .i64 (-1)) ?_
  refine a6 ?_
  refine ac ?_
  intro w hw
  cases h
  subst hF
  exact⟨by kernel_rfl,hw.fr⟩
abbrev r_slices_Delete_pull_way_pull_way(r:List Dpull_way)(U:List Rowb)(Γ:Gh)(v:Value):Prop := ∃(A0:Option Addr), ∃(c0:Nat), ∃(row0:Rowb),v = .slice A0 r.length c0∧U = [row0]∧Own dpull_wayT Γ 100 row0 A0 c0 r∧True
theorem t_slices_Delete_pull_way_pull_way{Γ:Gh}{w0:World}{As_:Option Addr}{cs_:Nat}{rows_:Rowb}{s_:List Dpull_way}(hs_:Own dpull_wayT Γ 100 rows_ As_ cs_ s_)(i_:Int)(hi_:I64 i_)(j:Int)(hj:I64 j)(hp:Pre [rows_] Γ w0){r:List Dpull_way}(h:m_slices_Delete_pull_way_pull_way s_ i_ j=some r):Calls Tryz.prog 62 #[.slice As_ s_.length cs_,.int .i64 i_,.int .i64 j] w0 (Outc Γ [rows_] w0 (r_slices_Delete_pull_way_pull_way r)):=by
 refine calls_of (N:=33) (rs:=[6]) (args:=[.slice As_ s_.length cs_,.int .i64 i_,.int .i64 j]) Tryz.func62 rfl Tryz.ntmps62 Tryz.results62 rfl ?_
 obtain⟨F,hF⟩:∃F:Fm,F=⟨ids [rows_],w0,Γ⟩:=⟨_,rfl⟩
 refine aa (C:=CC F Γ [rows_]) ?_ (hF▸hp.start)
 refine a7 ?_
 refine as_ (v:=.slice none 0 0) ?_
 refine a6 ?_
 refine a7 ?_
 refine mv (v:=.slice As_ s_.length cs_) ?_
 refine mv (v:=.int .i64 i_) ?_
 refine mv (v:=.int .i64 j) ?_
 refine mv (v:=.slice As_ s_.length cs_) ?_
 refine vb (q_len_slice rfl Tryz.underlying95 rfl) ?_
 obtain⟨hk1,h⟩:=chk_some h
 obtain⟨hk2,h⟩:=chk_some h
 obtain⟨hk3,h⟩:=chk_some h
 refine vb (q_cut3 (lo:=i_.toNat) (hi:=j.toNat) Tryz.underlying95 Tryz.sizeOf100 rfl rfl (inle_eq rfl hk1) (inle_eq rfl hk2) rfl (of_decide_eq_true hk3) (inle_le hk2) hs_.capz) ?_
 refine a6 ?_
 refine a8 ?_
 refine a7 ?_
 refine mv (v:=.int .i64 i_) ?_
 refine mv (v:=.int .i64 j) ?_
 refine vb (q_eql rfl rfl rfl) ?_
 refine a6 ?_
 refine aj h (by kernel_rfl) (λhb4 h=>?_) (λhb4 h=>?_)
 ·
  refine a7 ?_
  refine mv (v:=.slice As_ s_.length cs_) ?_
  refine as_ (v:=.slice As_ s_.length cs_) ?_
  refine a6 ?_
  refine ac ?_
  intro w hw
  cases h
  subst hF
  exact end_e (is:=[0]) (by kernel_rfl) hw rfl ⟨As_,cs_,rows_,rfl,rfl,hs_,trivial⟩
 ·
  refine ae ?_
  change WC _ _ _ _ _ _
  refine a7 ?_
  refine mv (v:=.slice As_ s_.length cs_) ?_
  refine vb (q_len_slice rfl Tryz.underlying95 rfl) ?_
  refine as_ (v:=.int .i64 ((s_.length:Nat):Int)) ?_
  refine a6 ?_
  refine a8 ?_
  intro w hw; have h05:=hw.le
  refine aa (C:=CC F Γ [rows_]) ?_ hw; clear hw
  refine av (CC F Γ []) (by kernel_rfl) (λw hw=>hw.drawn _) ?_
  change WH _ _ _ _ (CC F Γ [rows_]) _ 8 #[false,false,false,false,false,false,false,false] _
  refine hu 0 rfl (bk_ (Gh.refl _) h05 (.cons _ .slnil)) (q_move (v:=.slice As_ s_.length cs_) rfl (by kernel_rfl)) ?_
  refine hu 1 rfl (bk_ (Gh.refl _) h05 (.cons _ .slnil)) (q_move (v:=.int .i64 i_) rfl (by kernel_rfl)) ?_
  refine hu 2 rfl (bk_ (Gh.refl _) h05 (.cons _ .slnil)) (q_cut_to (c:=cs_) (hi:=i_.toNat) (xs:=s_) Tryz.underlying95 Tryz.sizeOf100 rfl rfl (inle_eq rfl hk1) (inle_le hk1) hs_.capz) ?_
  refine hu 3 rfl (bk_ (Gh.refl _) h05 (.cons _ .slnil)) (q_move (v:=.slice As_ s_.length cs_) rfl (by kernel_rfl)) ?_
  refine hu 4 rfl (bk_ (Gh.refl _) h05 (.cons _ .slnil)) (q_move (v:=.int .i64 j) rfl (by kernel_rfl)) ?_
  refine hu 5 rfl (bk_ (Gh.refl _) h05 (.cons _ .slnil)) (q_cut_from (c:=cs_) (lo:=j.toNat) (xs:=s_) Tryz.underlying95 Tryz.sizeOf100 rfl rfl (inle_eq rfl hk2) (inle_le hk2)) ?_
  refine ai (i:=6) (by kernel_rfl) rfl ?_
  refine e_append_in (T:=dpull_wayT) (i:=0) (xs:=s_) (hi:=i_.toNat) (lo:=j.toNat) elem_95 rfl rfl rfl rfl rfl rfl rfl hs_ (of_decide_eq_true hk3) (inle_le hk2) ?_
  intro row6 ho7
  refine ab ?_
  refine WH.next (bk_ (Gh.refl _) h05 (.cons _ .slnil)) ?_
  refine hu 7 rfl (bk_ (Gh.refl _) h05 (.cons _ .slnil)) (q_assign (v:=.slice As_ (List.take i_.toNat s_++List.drop j.toNat s_).length cs_) rfl (by kernel_rfl)) ?_
  refine au (by kernel_rfl) ?_
  change WC _ _ _ _ _ _
  refine a7 ?_
  refine mv (v:=.slice As_ (List.take i_.toNat s_++List.drop j.toNat s_).length cs_) ?_
  refine mv (v:=.slice As_ (List.take i_.toNat s_++List.drop j.toNat s_).length cs_) ?_
  refine vb (q_len_slice rfl Tryz.underlying95 rfl) ?_
  refine mv (v:=.int .i64 ((s_.length:Nat):Int)) ?_
  obtain⟨hk8,h⟩:=chk_some h
  refine vb (q_cut_cap (c:=cs_) (lo:=(List.take i_.toNat s_++List.drop j.toNat s_).length) (hi:=s_.length) Tryz.underlying95 Tryz.sizeOf100 rfl rfl rfl rfl (of_decide_eq_true hk8) hs_.capz) ?_
  refine e_clear_tail (T:=dpull_wayT) (i:=0) (xs:=(List.take i_.toNat s_++List.drop j.toNat s_)) (m:=s_.length) Tryz.underlying95 Tryz.zeroValue100 rfl (λu hu=>dpull_wayT.one (show dpull_wayT.rd Γ [.int .i64 0,.int .i64 0] (⟨0,0⟩:Dpull_way) from ⟨rfl,⟨(show I64 0 by decide),(show I64 0 by decide)⟩⟩) u hu) rfl rfl rfl rfl (of_decide_eq_true hk8) hs_.capz rfl ho7 ?_
  intro row9 ho10
  refine a6 ?_
  refine a7 ?_
  refine mv (v:=.slice As_ (List.take i_.toNat s_++List.drop j.toNat s_).length cs_) ?_
  refine as_ (v:=.slice As_ (List.take i_.toNat s_++List.drop j.toNat s_).length cs_) ?_
  refine a6 ?_
  refine ac ?_
  intro w hw
  cases h
  subst hF
  exact end_e (is:=[0]) (by kernel_rfl) hw rfl ⟨As_,cs_,row9,rfl,rfl,ho10,trivial⟩
theorem t_slices_Equal_int_int{Γ:Gh}{w0:World}{As1:Option Addr}{cs1:Nat}{s1:List Int}(hs1:Sl intT Γ As1 s1)(hs1c:s1.length≤cs1){As2:Option Addr}{cs2:Nat}{s2:List Int}(hs2:Sl intT Γ As2 s2)(hs2c:s2.length≤cs2)(hs:Sat Γ w0){r:Bool}(h:m_slices_Equal_int_int s1 s2=some r):Calls Tryz.prog 84 #[.slice As1 s1.length cs1,.slice As2 s2.length cs2] w0 (λe w'=>e = .returned (.bool r)∧Fr no w0 w'):=by
 refine calls_of (N:=26) (rs:=[4]) (args:=[.slice As1 s1.length cs1,.slice As2 s2.length cs2]) Tryz.func84 rfl Tryz.ntmps84 Tryz.results84 rfl ?_
 obtain⟨F,hF⟩:∃F:Fm,F=⟨no,w0,Γ⟩:=⟨_,rfl⟩
 refine aa (C:=CC F Γ []) ?_ (hF▸Cur.start0 hs)
 refine a7 ?_
 refine as_ (v:=.bool false) ?_
 refine a6 ?_
 refine a8 ?_
 refine a7 ?_
 refine mv (v:=.slice As1 s1.length cs1) ?_
 refine vb (q_len_slice rfl Tryz.underlying24 rfl) ?_
 refine mv (v:=.slice As2 s2.length cs2) ?_
 refine vb (q_len_slice rfl Tryz.underlying24 rfl) ?_
 refine vb (q_neq rfl rfl rfl) ?_
 refine a6 ?_
 refine aj h (by kernel_rfl) (λhb1 h=>?_) (λhb1 h=>?_)
 ·
  refine a7 ?_
  refine as_ (v:=.bool false) ?_
  refine a6 ?_
  refine ac ?_
  intro w hw
  cases h
  subst hF
  exact⟨by kernel_rfl,hw.fr⟩
 ·
  refine ae ?_
  change WC _ _ _ _ _ _
  refine a8 ?_
  refine a7 ?_
  refine mv (v:=.slice As1 s1.length cs1) ?_
  refine vb (q_len_slice rfl Tryz.underlying24 rfl) ?_
  refine mv (v:=.int .i64 0) ?_
  refine a6 ?_
  refine af ?_
  refine ap h (λ(i3:Nat) (s:Unit) σ w=>match s with | ()=>slots σ [(0,.slice As1 s1.length cs1),(1,.slice As2 s2.length cs2),(12,.int .i64 ((s1.length:Nat):Int)),(13,.int .i64 ((i3:Nat):Int))]∧CC F Γ [] w∧True) ?_ ?_
  ·
   intro w hw
   exact⟨(sl_ (by kernel_rfl)),hw,trivial⟩
  rintro f2 i3 ⟨⟩ σ w hi4 hlt5 hge6 ⟨hsl,hw,-⟩
  refine Wpt.slots hsl ?_
  refine aa (C:=CC F Γ []) ?_ hw
  clear hw hsl
  refine a7 ?_
  refine vb (q_lss rfl rfl rfl) ?_
  refine a6 ?_
  refine a8 ?_
  refine WC.cond (b:=(decide (((i3:Nat):Int)<((s1.length:Nat):Int)))) (by kernel_rfl) (λhb7=>?_) (λhb7=>?_)
  ·
   have hl8:=ilt hb7
   have h:=hlt5 hl8
   refine ae ?_
   change WC _ _ _ _ _ _
   refine a8 ?_
   refine af ?_
   refine a7 ?_
   refine mv (v:=.int .i64 ((i3:Nat):Int)) ?_
   refine as_ (v:=.int .i64 ((i3:Nat):Int)) ?_
   refine a6 ?_
   refine a8 ?_
   refine ay (by kernel_rfl) (by kernel_rfl) (λw hw=>hw.drawn _) ?_
   refine wa rfl rfl rfl (q_move (v:=.slice As1 s1.length cs1) rfl (by kernel_rfl)) ?_
   refine wa rfl rfl rfl (q_move (v:=.int .i64 ((i3:Nat):Int)) rfl (by kernel_rfl)) ?_
   refine wa rfl rfl rfl (q_ixn (i:=i3) Tryz.underlying24 Tryz.sizeOf3 rfl rfl rfl hl8 (hs1.some_ hl8)) ?_
   refine wa rfl rfl rfl (q_ld (c:=0) (v:=.int .i64 (gt s1 i3)) (hs1.intT_at hl8).2 rfl Tryz.isAgg3 rfl rfl) ?_
   refine wa rfl rfl rfl (q_move (v:=.slice As2 s2.length cs2) rfl (by kernel_rfl)) ?_
   refine wa rfl rfl rfl (q_move (v:=.int .i64 ((i3:Nat):Int)) rfl (by kernel_rfl)) ?_
   obtain⟨hk9,h⟩:=chk_some h
   refine wa rfl rfl rfl (q_ixn (i:=i3) Tryz.underlying24 Tryz.sizeOf3 rfl rfl rfl (of_decide_eq_true hk9) (hs2.some_ (of_decide_eq_true hk9))) ?_
   refine wa rfl rfl rfl (q_ld (c:=0) (v:=.int .i64 (gt s2 i3)) (hs2.intT_at (of_decide_eq_true hk9)).2 rfl Tryz.isAgg3 rfl rfl) ?_
   refine wa rfl rfl rfl (q_neq rfl rfl rfl) ?_
   refine aw ?_
   change WC _ _ _ _ _ _
   refine aj h (by kernel_rfl) (λhb10 h=>?_) (λhb10 h=>?_)
   ·
    refine a7 ?_
    refine as_ (v:=.bool false) ?_
    refine a6 ?_
    refine ac ?_
    intro w hw
    cases h
    subst hF
    exact⟨by kernel_rfl,hw.fr⟩
   ·
    refine ae ?_
    change WC _ _ _ _ _ _
    refine ah ?_
    refine vb (q_add_r (r:=((i3+1:Nat):Int)) rfl rfl rfl (ctr_len hl8 hs1.le)) ?_
    refine mv (v:=.int .i64 ((i3+1:Nat):Int)) ?_
    exact ab λw hw=>⟨hl8,(),h,(sl_ (by kernel_rfl)),hw,trivial⟩
  ·
   have h:=hge6 (ige hb7)
   refine am ?_
   change WC _ _ _ _ _ _
   refine a7 ?_
   refine as_ (v:=.bool true) ?_
   refine a6 ?_
   refine ac ?_
   intro w hw
   cases h
   subst hF
   exact⟨by kernel_rfl,hw.fr⟩
theorem t_pull_way_beneath{Γ:Gh}{w0:World}(w_:Dpull_way)(hw_:Dpull_way.fits Γ  w_){Ar_1:Option Addr}{cr_1:Nat}(r_:Rec)(hr_:Rec.fits Γ Ar_1 cr_1 r_)(hs:Sat Γ w0){r:Bool}(h:m_pull_way_beneath w_ r_=some r):Calls Tryz.prog 64 #[.agg #[.int .i64 w_.a0,.int .i64 w_.a1],.agg #[.string r_.key,.slice Ar_1 r_.vers.length cr_1]] w0 (λe w'=>e = .returned (.bool r)∧Fr no w0 w'):=by
 refine calls_of (N:=15) (rs:=[4]) (args:=[.agg #[.int .i64 w_.a0,.int .i64 w_.a1],.agg #[.string r_.key,.slice Ar_1 r_.vers.length cr_1]]) Tryz.func64 rfl Tryz.ntmps64 Tryz.results64 rfl ?_
 obtain⟨F,hF⟩:∃F:Fm,F=⟨no,w0,Γ⟩:=⟨_,rfl⟩
 refine aa (C:=CC F Γ []) ?_ (hF▸Cur.start0 hs)
 refine a7 ?_
 refine e_box (v:=.agg #[.int .i64 w_.a0,.int .i64 w_.a1]) rfl rfl rfl rfl (by kernel_rfl) ?_
 intro g1
 refine e_box (v:=.agg #[.string r_.key,.slice Ar_1 r_.vers.length cr_1]) rfl rfl rfl rfl (by kernel_rfl) ?_
 intro g2
 refine as_ (v:=.bool false) ?_
 refine a6 ?_
 refine a8 ?_
 intro w hw; have h03:=hw.le
 refine aa (C:=CC F Γ [[(g2,.cells #[.string r_.key,.slice Ar_1 r_.vers.length cr_1] 70 (0,0))],[(g1,.cells #[.int .i64 w_.a0,.int .i64 w_.a1] 100 (0,0))]]) ?_ hw; clear hw
 refine av (CC F Γ [[(g2,.cells #[.string r_.key,.slice Ar_1 r_.vers.length cr_1] 70 (0,0))],[(g1,.cells #[.int .i64 w_.a0,.int .i64 w_.a1] 100 (0,0))]]) (by kernel_rfl) (λw hw=>hw.drawn _) ?_
 change WH _ _ _ _ (CC F Γ [[(g2,.cells #[.string r_.key,.slice Ar_1 r_.vers.length cr_1] 70 (0,0))],[(g1,.cells #[.int .i64 w_.a0,.int .i64 w_.a1] 100 (0,0))]]) _ 11 #[false,false,false,false,false,false,false,false,false,false,false] _
 refine hu 0 rfl (bk_ (Gh.refl _) h03 (.cons_cons _ (.cons_cons _ .slnil))) (q_ldla (i:=0) (vs:=[.string r_.key,.slice Ar_1 r_.vers.length cr_1]) rfl rfl Tryz.isAgg70 Tryz.sizeOf70 rfl rfl) ?_
 refine ai (i:=1) (by kernel_rfl) rfl ?_
 obtain⟨z4,hz5,h⟩:=bnd h
 refine vc rfl rfl rfl (q_call (call_run Tryz.call83 rfl rfl (by kernel_rfl)) (λw hw=>t_code_RightRec (Γ:=Gh.all w) r_ (Rec.fits_mono hr_ hw.sat.le_all) (Sat.all w) hz5)) ?_
 refine ab ?_
 refine WH.next (bk_ (Gh.refl _) h03 (.cons_cons _ (.cons_cons _ .slnil))) ?_
 refine hu 2 rfl (bk_ (Gh.refl _) h03 (.cons_cons _ (.cons_cons _ .slnil))) (q_move (v:=.bool z4) rfl (by kernel_rfl)) ?_
 refine hg1 (i:=3) rfl (by kernel_rfl) rfl rfl rfl rfl rfl (bk_ (Gh.refl _) h03 (.cons_cons _ (.cons_cons _ .slnil))) (λhg6=>(q_fl 0 fld_70_0 rfl rfl rfl)) ?_
 refine hg1 (i:=4) rfl (by kernel_rfl) rfl rfl rfl rfl rfl (bk_ (Gh.refl _) h03 (.cons_cons _ (.cons_cons _ .slnil))) (λhg7=>(q_ldl (i:=0) (v:=.string r_.key) rfl rfl Tryz.isAgg9 (gu hg7 rfl) rfl)) ?_
 refine hg1 (i:=6) rfl (by kernel_rfl) rfl rfl rfl rfl rfl (bk_ (Gh.refl _) h03 (.cons_cons _ (.cons_cons _ .slnil))) (λhg8=>(q_ldla (i:=1) (vs:=[.int .i64 w_.a0,.int .i64 w_.a1]) rfl rfl Tryz.isAgg100 Tryz.sizeOf100 rfl rfl)) ?_
 refine(Bool.eq_false_or_eq_true z4).elim (λhb9=>?_) (λhb9=>?_)
 ·
  have h:=bt hb9 h
  refine ai (i:=5) (by kernel_rfl) rfl ?_
  refine WR.sat (c0:=true) (g:=z4) rfl rfl rfl hb9 ?_
  obtain⟨z10,hz11,h⟩:=bnd h
  refine e_call (is:=[]) rfl rfl (call_run Tryz.call85 rfl rfl (args1 (gu hb9 rfl))) rfl (λw hp=>t_tree_Place r_.key hr_.1 hp hz11) ?_
  rintro Γ12 U14 v15 hl13 ⟨A16,c17,row18,rfl,rfl,hr19,_⟩
  change WR _ _ _ (CC F Γ12 [row18,[(g2,.cells #[.string r_.key,.slice Ar_1 r_.vers.length cr_1] 70 (0,0))],[(g1,.cells #[.int .i64 w_.a0,.int .i64 w_.a1] 100 (0,0))]]) _ _ (upd _ 10 (.slice A16 z10.length c17))
  refine ab ?_
  refine WH.next (bk_ hl13 h03 (.cons _ (.cons_cons _ (.cons_cons _ .slnil)))) ?_
  refine ai (i:=7) (by kernel_rfl) rfl ?_
  refine WR.sat (c0:=true) (g:=z4) rfl rfl rfl hb9 ?_
  obtain⟨z20,hz21,h⟩:=bnd h
  refine e_call (is:=[]) rfl rfl (call_run Tryz.call70 rfl rfl (args1 (gu hb9 rfl))) rfl (λw hp=>t_pull_way_path w_ (Dpull_way.fits_mono hw_ hl13) hp hz21) ?_
  rintro Γ22 U24 v25 hl23 ⟨A26,c27,rfl,rfl,hc29,hr28,_⟩
  change WR _ _ _ (CC F Γ22 [row18,[(g2,.cells #[.string r_.key,.slice Ar_1 r_.vers.length cr_1] 70 (0,0))],[(g1,.cells #[.int .i64 w_.a0,.int .i64 w_.a1] 100 (0,0))]]) _ _ (upd _ 12 (.slice A26 z20.length c27))
  refine ab ?_
  refine WH.next (bk_ (hl13.trans hl23) h03 (.cons _ (.cons_cons _ (.cons_cons _ .slnil)))) ?_
  refine ai (i:=8) (by kernel_rfl) rfl ?_
  obtain⟨z31,hz32,h⟩:=bnd h
  refine vg1 rfl rfl rfl rfl rfl (λhg30=>(q_call (call_run Tryz.call84 rfl rfl (by kernel_rfl)) (λw hw=>t_slices_Equal_int_int (Γ:=Gh.all w) ((hr19.mono hl23).sl hw.sat.le_all (hw.ra 0 rfl)) (hr19.mono hl23).capz (hr28.mono hw.sat.le_all) hc29 (Sat.all w) (gc_of hz32 hg30)))) ?_
  refine ab ?_
  refine WH.next (bk_ (hl13.trans hl23) h03 (.cons _ (.cons_cons _ (.cons_cons _ .slnil)))) ?_
  refine hu 9 rfl (bk_ (hl13.trans hl23) h03 (.cons _ (.cons_cons _ (.cons_cons _ .slnil)))) (q_pick_t (v:=.bool z31) rfl rfl hb9 (gu hb9 rfl)) ?_
  refine hu 10 rfl (bk_ (hl13.trans hl23) h03 (.cons _ (.cons_cons _ (.cons_cons _ .slnil)))) (q_assign (v:=.bool z31) rfl (by kernel_rfl)) ?_
  refine au (by kernel_rfl) ?_
  change WC _ _ _ _ _ _
  refine ac ?_
  intro w hw
  cases h
  subst hF
  exact⟨by kernel_rfl,hw.fr⟩
 ·
  have h:=bf hb9 h
  refine hg1 (g:=z4) (i:=5) (v:=undef) rfl (by kernel_rfl) rfl rfl rfl rfl rfl (bk_ (Gh.refl _) h03 (.cons_cons _ (.cons_cons _ .slnil))) (no_tf hb9) ?_
  refine ar (v:=undef) (gv_false hb9) ?_
  refine hg1 (g:=z4) (i:=7) (v:=undef) rfl (by kernel_rfl) rfl rfl rfl rfl rfl (bk_ (Gh.refl _) h03 (.cons_cons _ (.cons_cons _ .slnil))) (no_tf hb9) ?_
  refine ar (v:=undef) (gv_false hb9) ?_
  refine hg1 (g:=z4) (i:=8) (v:=undef) rfl (by kernel_rfl) rfl rfl rfl rfl rfl (bk_ (Gh.refl _) h03 (.cons_cons _ (.cons_cons _ .slnil))) (no_tf hb9) ?_
  refine ar (v:=undef) (gv_false hb9) ?_
  refine hu 9 rfl (bk_ (Gh.refl _) h03 (.cons_cons _ (.cons_cons _ .slnil))) (q_pick_f (v:=.bool false) rfl rfl hb9 (by kernel_rfl)) ?_
  refine hu 10 rfl (bk_ (Gh.refl _) h03 (.cons_cons _ (.cons_cons _ .slnil))) (q_assign (v:=.bool false) rfl (by kernel_rfl)) ?_
  refine au (by kernel_rfl) ?_
  change WC _ _ _ _ _ _
  refine ac ?_
  intro w hw
  cases h
  subst hF
  exact⟨by kernel_rfl,hw.fr⟩
abbrev r_pull_Pull_Tell_2(gb0:Nat)(b0v0:Int)(b0v1:Int)(r:Bool)(U:List Rowb)(Γ:Gh)(v:Value):Prop:=v = .bool r∧U = [[(gb0,.cells #[.int .i64 b0v0,.int .i64 b0v1] 100 (0,0))]]∧True
theorem t_pull_Pull_Tell_2{Γ:Gh}{w0:World}{Ar_1:Option Addr}{cr_1:Nat}(r_:Rec)(hr_:Rec.fits Γ Ar_1 cr_1 r_){gb0:Nat}(b0v0:Int)(hb0v0:I64 b0v0)(b0v1:Int)(hb0v1:I64 b0v1)(hp:Pre [[(gb0,.cells #[.int .i64 b0v0,.int .i64 b0v1] 100 (0,0))]] Γ w0){r:Bool}(h:m_pull_Pull_Tell_2 r_ b0v0 b0v1=some r):Calls Tryz.prog 63 #[.agg #[.string r_.key,.slice Ar_1 r_.vers.length cr_1],(pq gb0)] w0 (Outc Γ [[(gb0,.cells #[.int .i64 b0v0,.int .i64 b0v1] 100 (0,0))]] w0 (r_pull_Pull_Tell_2 gb0 b0v0 b0v1 r)):=by
 refine calls_of (N:=8) (rs:=[3]) (args:=[.agg #[.string r_.key,.slice Ar_1 r_.vers.length cr_1],(pq gb0)]) Tryz.func63 rfl Tryz.ntmps63 Tryz.results63 rfl ?_
 obtain⟨F,hF⟩:∃F:Fm,F=⟨ids [[(gb0,.cells #[.int .i64 b0v0,.int .i64 b0v1] 100 (0,0))]],w0,Γ⟩:=⟨_,rfl⟩
 refine aa (C:=CC F Γ [[(gb0,.cells #[.int .i64 b0v0,.int .i64 b0v1] 100 (0,0))]]) ?_ (hF▸hp.start)
 refine a7 ?_
 refine e_box (v:=.agg #[.string r_.key,.slice Ar_1 r_.vers.length cr_1]) rfl rfl rfl rfl (by kernel_rfl) ?_
 intro g1
 refine as_ (v:=.bool false) ?_
 refine a6 ?_
 refine a7 ?_
 refine vb (q_ldla (i:=1) (vs:=[.int .i64 b0v0,.int .i64 b0v1]) rfl rfl Tryz.isAgg100 Tryz.sizeOf100 rfl rfl) ?_
 refine vb (q_ldla (i:=0) (vs:=[.string r_.key,.slice Ar_1 r_.vers.length cr_1]) rfl rfl Tryz.isAgg70 Tryz.sizeOf70 rfl rfl) ?_
 obtain⟨z2,hz3,h⟩:=bnd h
 refine vc rfl rfl rfl (q_call (call_run Tryz.call64 rfl rfl (by kernel_rfl)) (λw hw=>t_pull_way_beneath (Γ:=Gh.all w) (⟨b0v0,b0v1⟩:Dpull_way) ⟨hb0v0,hb0v1⟩ r_ (Rec.fits_mono hr_ hw.sat.le_all) (Sat.all w) hz3)) ?_
 refine vb (q_not rfl rfl) ?_
 refine as_ (v:=.bool (!z2)) ?_
 refine a6 ?_
 refine ac ?_
 intro w hw
 cases h
 subst hF
 exact end_e (is:=[1]) (by kernel_rfl) hw rfl ⟨rfl,rfl,trivial⟩
abbrev r_slices_IndexFunc_api_Rec_api_Rec(gf_0:Nat)(f_0v0:Int)(f_0v1:Int)(r:Int)(U:List Rowb)(Γ:Gh)(v:Value):Prop:=v = .int .i64 r∧U = [[(gf_0,.cells #[.int .i64 f_0v0,.int .i64 f_0v1] 100 (0,0))]]∧I64 r∧True
theorem t_slices_IndexFunc_api_Rec_api_Rec{Γ:Gh}{w0:World}{As_:Option Addr}{cs_:Nat}{s_:List Rec}(hs_:Sl recT Γ As_ s_)(hs_c:s_.length≤cs_){gf_0:Nat}(f_0v0:Int)(hf_0v0:I64 f_0v0)(f_0v1:Int)(hf_0v1:I64 f_0v1)(hp:Pre [[(gf_0,.cells #[.int .i64 f_0v0,.int .i64 f_0v1] 100 (0,0))]] Γ w0){r:Int}(h:m_slices_IndexFunc_api_Rec_api_Rec s_ f_0v0 f_0v1=some r):Calls Tryz.prog 86 #[.slice As_ s_.length cs_,.func (.func 63) #[] #[(pq gf_0)]] w0 (Outc Γ [[(gf_0,.cells #[.int .i64 f_0v0,.int .i64 f_0v1] 100 (0,0))]] w0 (r_slices_IndexFunc_api_Rec_api_Rec gf_0 f_0v0 f_0v1 r)):=by
 refine calls_of (N:=19) (rs:=[4]) (args:=[.slice As_ s_.length cs_,.func (.func 63) #[] #[(pq gf_0)]]) Tryz.func86 rfl Tryz.ntmps86 Tryz.results86 rfl ?_
 obtain⟨F,hF⟩:∃F:Fm,F=⟨ids [[(gf_0,.cells #[.int .i64 f_0v0,.int .i64 f_0v1] 100 (0,0))]],w0,Γ⟩:=⟨_,rfl⟩
 refine aa (C:=CC F Γ [[(gf_0,.cells #[.int .i64 f_0v0,.int .i64 f_0v1] 100 (0,0))]]) ?_ (hF▸hp.start)
 refine a7 ?_
 refine as_ (v:=.int .i64 0) ?_
 refine a6 ?_
 refine a8 ?_
 refine a7 ?_
 refine mv (v:=.slice As_ s_.length cs_) ?_
 refine vb (q_len_slice rfl Tryz.underlying23 rfl) ?_
 refine mv (v:=.int .i64 0) ?_
 refine a6 ?_
 refine af ?_
 refine ap h (λ(i4:Nat) (s:Unit) σ w=>match s with | () => ∃(Γ1:Gh),slots σ [(0,.slice As_ s_.length cs_),(1,.func (.func 63) #[] #[(pq gf_0)]),(7,.int .i64 ((s_.length:Nat):Int)),(8,.int .i64 ((i4:Nat):Int))]∧CC F Γ1 [[(gf_0,.cells #[.int .i64 f_0v0,.int .i64 f_0v1] 100 (0,0))]] w∧Gh.le Γ Γ1∧True) ?_ ?_
 ·
  intro w hw
  exact⟨Γ,(sl_ (by kernel_rfl)),hw,(Gh.refl _),trivial⟩
 rintro f3 i4 ⟨⟩ σ w hi5 hlt6 hge7 ⟨Γ1,hsl,hw,hl2,-⟩
 refine Wpt.slots hsl ?_
 refine aa (C:=CC F Γ1 [[(gf_0,.cells #[.int .i64 f_0v0,.int .i64 f_0v1] 100 (0,0))]]) ?_ hw
 clear hw hsl
 refine a7 ?_
 refine vb (q_lss rfl rfl rfl) ?_
 refine a6 ?_
 refine a8 ?_
 refine WC.cond (b:=(decide (((i4:Nat):Int)<((s_.length:Nat):Int)))) (by kernel_rfl) (λhb8=>?_) (λhb8=>?_)
 ·
  have hl9:=ilt hb8
  have h:=hlt6 hl9
  refine ae ?_
  change WC _ _ _ _ _ _
  refine a8 ?_
  refine af ?_
  refine a7 ?_
  refine mv (v:=.int .i64 ((i4:Nat):Int)) ?_
  refine as_ (v:=.int .i64 ((i4:Nat):Int)) ?_
  refine a6 ?_
  refine a7 ?_
  refine mv (v:=.func (.func 63) #[] #[(pq gf_0)]) ?_
  refine mv (v:=.slice As_ s_.length cs_) ?_
  refine mv (v:=.int .i64 ((i4:Nat):Int)) ?_
  refine vb (q_ixn (i:=i4) Tryz.underlying23 Tryz.sizeOf70 rfl rfl rfl hl9 ((hs_.mono hl2).some_ hl9)) ?_
  obtain⟨A10,c11,hx12⟩:=(hs_.mono hl2).recT_at i4
  refine vb (q_lda (c:=0) (vs:=[.string (gt s_ i4).key,.slice A10 ((gt s_ i4).vers).length c11]) (hx12 hl9).2 rfl Tryz.isAgg70 Tryz.sizeOf70 rfl rfl rfl) ?_
  obtain⟨z13,hz14,h⟩:=bnd h
  refine e_call (is:=[0]) rfl rfl (call_run_fv (caps:=#[(pq gf_0)]) Tryz.call63 rfl (by kernel_rfl) (by kernel_rfl)) rfl (λw hp=>t_pull_Pull_Tell_2 (gt s_ i4) (hx12 hl9).1 f_0v0 hf_0v0 f_0v1 hf_0v1 hp hz14) ?_
  rintro Γ15 U17 v18 hl16 ⟨rfl,rfl,_⟩
  change WR _ _ _ (CC F Γ15 [[(gf_0,.cells #[.int .i64 f_0v0,.int .i64 f_0v1] 100 (0,0))]]) _ _ (upd _ 16 (.bool z13))
  refine a6 ?_
  refine aj h (by kernel_rfl) (λhb19 h=>?_) (λhb19 h=>?_)
  ·
   refine a7 ?_
   refine mv (v:=.int .i64 ((i4:Nat):Int)) ?_
   refine as_ (v:=.int .i64 ((i4:Nat):Int)) ?_
   refine a6 ?_
   refine ac ?_
   intro w hw
   cases h
   subst hF
   exact end_e (is:=[0]) (by kernel_rfl) hw rfl ⟨rfl,rfl,(ctr_r0 hl9 (hs_.mono hl2).le),trivial⟩
  ·
   refine ae ?_
   change WC _ _ _ _ _ _
   refine ah ?_
   refine vb (q_add_r (r:=((i4+1:Nat):Int)) rfl rfl rfl (ctr_len hl9 (hs_.mono hl2).le)) ?_
   refine mv (v:=.int .i64 ((i4+1:Nat):Int)) ?_
   exact ab λw hw=>⟨hl9,(),h,Γ15,(sl_ (by kernel_rfl)),hw,(hl2.trans hl16),trivial⟩
 ·
  have h:=hge7 (ige hb8)
  refine am ?_
  change WC _ _ _ _ _ _
  refine a7 ?_
  refine as_ (v:=.int .i64 (-1)) ?_
  refine a6 ?_
  refine ac ?_
  intro w hw
  cases h
  subst hF
  exact end_e (is:=[0]) (by kernel_rfl) hw rfl ⟨rfl,rfl,(show I64 (-1) by decide),trivial⟩
abbrev r_slices_ContainsFunc_api_Rec_api_Rec(gf_0:Nat)(f_0v0:Int)(f_0v1:Int)(r:Bool)(U:List Rowb)(Γ:Gh)(v:Value):Prop:=v = .bool r∧U = [[(gf_0,.cells #[.int .i64 f_0v0,.int .i64 f_0v1] 100 (0,0))]]∧True
theorem t_slices_ContainsFunc_api_Rec_api_Rec{Γ:Gh}{w0:World}{As_:Option Addr}{cs_:Nat}{s_:List Rec}(hs_:Sl recT Γ As_ s_)(hs_c:s_.length≤cs_){gf_0:Nat}(f_0v0:Int)(hf_0v0:I64 f_0v0)(f_0v1:Int)(hf_0v1:I64 f_0v1)(hp:Pre [[(gf_0,.cells #[.int .i64 f_0v0,.int .i64 f_0v1] 100 (0,0))]] Γ w0){r:Bool}(h:m_slices_ContainsFunc_api_Rec_api_Rec s_ f_0v0 f_0v1=some r):Calls Tryz.prog 65 #[.slice As_ s_.length cs_,.func (.func 63) #[] #[(pq gf_0)]] w0 (Outc Γ [[(gf_0,.cells #[.int .i64 f_0v0,.int .i64 f_0v1] 100 (0,0))]] w0 (r_slices_ContainsFunc_api_Rec_api_Rec gf_0 f_0v0 f_0v1 r)):=by
 refine calls_of (N:=9) (rs:=[4]) (args:=[.slice As_ s_.length cs_,.func (.func 63) #[] #[(pq gf_0)]]) Tryz.func65 rfl Tryz.ntmps65 Tryz.results65 rfl ?_
 obtain⟨F,hF⟩:∃F:Fm,F=⟨ids [[(gf_0,.cells #[.int .i64 f_0v0,.int .i64 f_0v1] 100 (0,0))]],w0,Γ⟩:=⟨_,rfl⟩
 refine aa (C:=CC F Γ [[(gf_0,.cells #[.int .i64 f_0v0,.int .i64 f_0v1] 100 (0,0))]]) ?_ (hF▸hp.start)
 refine a7 ?_
 refine as_ (v:=.bool false) ?_
 refine a6 ?_
 refine a7 ?_
 refine mv (v:=.slice As_ s_.length cs_) ?_
 refine mv (v:=.func (.func 63) #[] #[(pq gf_0)]) ?_
 obtain⟨z1,hz2,h⟩:=bnd h
 refine e_call (is:=[0]) rfl rfl (call_run Tryz.call86 rfl rfl (by kernel_rfl)) rfl (λw hp=>t_slices_IndexFunc_api_Rec_api_Rec hs_ hs_c f_0v0 hf_0v0 f_0v1 hf_0v1 hp hz2) ?_
 rintro Γ3 U5 v6 hl4 ⟨rfl,rfl,hr7,_⟩
 change WR _ _ _ (CC F Γ3 [[(gf_0,.cells #[.int .i64 f_0v0,.int .i64 f_0v1] 100 (0,0))]]) _ _ (upd _ 7 (.int .i64 z1))
 refine vb (q_geq rfl rfl rfl) ?_
 refine as_ (v:=.bool (decide (0≤z1))) ?_
 refine a6 ?_
 refine ac ?_
 intro w hw
 cases h
 subst hF
 exact end_e (is:=[0]) (by kernel_rfl) hw rfl ⟨rfl,rfl,trivial⟩
end Fw
end Go.Proofs.YtiakfgdgafljnaaGreat
