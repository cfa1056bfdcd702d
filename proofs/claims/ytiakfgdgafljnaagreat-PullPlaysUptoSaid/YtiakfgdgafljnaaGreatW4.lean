/- Walks through the functions that the law reaches (printed by a program). No condition. -/
import Derived.Test.YtiakfgdgafljnaaGreatW3
namespace Go.Proofs.YtiakfgdgafljnaaGreat
namespace Fw
set_option linter.unusedVariables false
set_option linter.unusedSimpArgs false
set_option linter.unusedSectionVars false
set_option maxRecDepth 100000
set_option maxHeartbeats 400000
open Go.RowKit
theorem t_firthref06_Ints{Γ:Gh}{w0:World}{Aa:Option Addr}{ca:Nat}{a:List Int}(ha:Sl intT Γ Aa a)(hac:a.length≤ca){Ab:Option Addr}{cb:Nat}{b:List Int}(hb:Sl intT Γ Ab b)(hbc:b.length≤cb)(hs:Sat Γ w0){r:Bool}(h:m_firthref06_Ints a b=some r):Calls Tryz.prog 41 #[.slice Aa a.length ca,.slice Ab b.length cb] w0 (λe w'=>e = .returned (.bool r)∧Fr no w0 w'):=by
 refine calls_of (N:=26) (rs:=[4]) (args:=[.slice Aa a.length ca,.slice Ab b.length cb]) Tryz.func41 rfl Tryz.ntmps41 Tryz.results41 rfl ?_
 obtain⟨F,hF⟩:∃F:Fm,F=⟨no,w0,Γ⟩:=⟨_,rfl⟩
 refine aa (C:=CC F Γ []) ?_ (hF▸Cur.start0 hs)
 refine a7 ?_
 refine as_ (v:=.bool false) ?_
 refine a6 ?_
 refine a8 ?_
 refine a7 ?_
 refine mv (v:=.slice Aa a.length ca) ?_
 refine vb (q_len_slice rfl Tryz.underlying24 rfl) ?_
 refine mv (v:=.slice Ab b.length cb) ?_
 refine vb (q_len_slice rfl Tryz.underlying24 rfl) ?_
 refine vb (q_neq rfl rfl rfl) ?_
 refine a6 ?_
 refine aj h (by kernel_rfl) (λhb1 h=>?_) (λhb1 h=>?_)
 ·
  refine a7 ?_
  refine as_ (v:=.bool false) ?_
  refine a6 ?_
  refine ac ?_
  intro w hw
  cases h
  subst hF
  exact⟨by kernel_rfl,hw.fr⟩
 ·
  refine ae ?_
  change WC _ _ _ _ _ _
  refine a8 ?_
  refine a7 ?_
  refine as_ (v:=.int .i64 0) ?_
  refine a6 ?_
  refine af ?_
  refine ap h (λ(i3:Nat) (s:Unit) σ w=>match s with | ()=>slots σ [(0,.slice Aa a.length ca),(1,.slice Ab b.length cb),(5,.int .i64 ((i3:Nat):Int))]∧CC F Γ [] w∧True) ?_ ?_
  ·
   intro w hw
   exact⟨(sl_ (by kernel_rfl)),hw,trivial⟩
  rintro f2 i3 ⟨⟩ σ w hi4 hlt5 hge6 ⟨hsl,hw,-⟩
  refine Wpt.slots hsl ?_
  refine aa (C:=CC F Γ []) ?_ hw
  clear hw hsl
  refine a8 ?_
  refine a7 ?_
  refine mv (v:=.int .i64 ((i3:Nat):Int)) ?_
  refine mv (v:=.slice Aa a.length ca) ?_
  refine vb (q_len_slice rfl Tryz.underlying24 rfl) ?_
  refine vb (q_lss rfl rfl rfl) ?_
  refine a6 ?_
  refine WC.cond (b:=(decide (((i3:Nat):Int)<((a.length:Nat):Int)))) (by kernel_rfl) (λhb7=>?_) (λhb7=>?_)
  ·
   have hl8:=ilt hb7
   have h:=hlt5 hl8
   refine ae ?_
   change WC _ _ _ _ _ _
   refine a8 ?_
   refine af ?_
   refine a8 ?_
   refine ay (by kernel_rfl) (by kernel_rfl) (λw hw=>hw.drawn _) ?_
   refine wa rfl rfl rfl (q_move (v:=.slice Aa a.length ca) rfl (by kernel_rfl)) ?_
   refine wa rfl rfl rfl (q_move (v:=.int .i64 ((i3:Nat):Int)) rfl (by kernel_rfl)) ?_
   refine wa rfl rfl rfl (q_ixn (i:=i3) Tryz.underlying24 Tryz.sizeOf3 rfl rfl rfl hl8 (ha.some_ hl8)) ?_
   refine wa rfl rfl rfl (q_ld (c:=0) (v:=.int .i64 (gt a i3)) (ha.intT_at hl8).2 rfl Tryz.isAgg3 rfl rfl) ?_
   refine wa rfl rfl rfl (q_move (v:=.slice Ab b.length cb) rfl (by kernel_rfl)) ?_
   refine wa rfl rfl rfl (q_move (v:=.int .i64 ((i3:Nat):Int)) rfl (by kernel_rfl)) ?_
   obtain⟨hk9,h⟩:=chk_some h
   refine wa rfl rfl rfl (q_ixn (i:=i3) Tryz.underlying24 Tryz.sizeOf3 rfl rfl rfl (of_decide_eq_true hk9) (hb.some_ (of_decide_eq_true hk9))) ?_
   refine wa rfl rfl rfl (q_ld (c:=0) (v:=.int .i64 (gt b i3)) (hb.intT_at (of_decide_eq_true hk9)).2 rfl Tryz.isAgg3 rfl rfl) ?_
   refine wa rfl rfl rfl (q_neq rfl rfl rfl) ?_
   refine aw ?_
   change WC _ _ _ _ _ _
   refine aj h (by kernel_rfl) (λhb10 h=>?_) (λhb10 h=>?_)
   ·
    refine a7 ?_
    refine as_ (v:=.bool false) ?_
    refine a6 ?_
    refine ac ?_
    intro w hw
    cases h
    subst hF
    exact⟨by kernel_rfl,hw.fr⟩
   ·
    refine ae ?_
    change WC _ _ _ _ _ _
    refine ah ?_
    refine mv (v:=.int .i64 ((i3:Nat):Int)) ?_
    refine vb (q_add_r (r:=((i3+1:Nat):Int)) rfl rfl rfl (ctr_len hl8 ha.le)) ?_
    refine as_ (v:=.int .i64 ((i3+1:Nat):Int)) ?_
    exact ab λw hw=>⟨hl8,(),h,(sl_ (by kernel_rfl)),hw,trivial⟩
  ·
   have h:=hge6 (ige hb7)
   refine am ?_
   change WC _ _ _ _ _ _
   refine a7 ?_
   refine as_ (v:=.bool true) ?_
   refine a6 ?_
   refine ac ?_
   intro w hw
   cases h
   subst hF
   exact⟨by kernel_rfl,hw.fr⟩
abbrev r_firthref19_Pull_Tell(gp_:Nat)(ep_:Nat)(r:Ofirthref19_Pull×Bool)(U:List Rowb)(Γ:Gh)(v:Value):Prop := ∃(rowp_':Rowb),v = .bool r.2∧U = [rowp_']∧Ofirthref19_Pull.ob ep_ Γ gp_ rowp_' r.1∧True
theorem t_firthref19_Pull_Tell{Γ:Gh}{w0:World}{gp_ ep_:Nat}{rowp_:Rowb}{p_:Ofirthref19_Pull}(hp_:Ofirthref19_Pull.ob ep_ Γ gp_ rowp_ p_){Apath:Option Addr}{cpath:Nat}{path:List Int}(hpath:Sl intT Γ Apath path)(hpathc:path.length≤cpath){Ahashes:Option Addr}{chashes:Nat}{hashes:List Int}(hhashes:Sl u64T Γ Ahashes hashes)(hhashesc:hashes.length≤chashes){Alist:Option Addr}{clist:Nat}{list:List Rec}(hlist:Sl recT Γ Alist list)(hlistc:list.length≤clist)(hp:Pre [rowp_] Γ w0){r:Ofirthref19_Pull×Bool}(h:m_firthref19_Pull_Tell p_ path hashes list=some r):Calls Tryz.prog 27 #[(pq gp_),.slice Apath path.length cpath,.slice Ahashes hashes.length chashes,.slice Alist list.length clist] w0 (Outc Γ [rowp_] w0 (r_firthref19_Pull_Tell gp_ ep_ r)):=by
 refine calls_of (N:=138) (rs:=[8]) (args:=[(pq gp_),.slice Apath path.length cpath,.slice Ahashes hashes.length chashes,.slice Alist list.length clist]) Tryz.func27 rfl Tryz.ntmps27 Tryz.results27 rfl ?_
 obtain⟨F,hF⟩:∃F:Fm,F=⟨ids [rowp_],w0,Γ⟩:=⟨_,rfl⟩
 refine aa (C:=CC F Γ [rowp_]) ?_ (hF▸hp.start)
 refine a7 ?_
 refine as_ (v:=.bool false) ?_
 refine a6 ?_
 refine a7 ?_
 refine as_ (v:=.int .i64 (-1)) ?_
 refine a6 ?_
 refine a8 ?_
 refine a7 ?_
 refine as_ (v:=.int .i64 0) ?_
 refine a6 ?_
 refine af ?_
 refine ap h (λ(i4:Nat) (at_1:Int) σ w=>slots σ [(0,(pq gp_)),(1,.slice Apath path.length cpath),(2,.slice Ahashes hashes.length chashes),(3,.slice Alist list.length clist),(9,.int .i64 at_1),(10,.int .i64 ((i4:Nat):Int))]∧CC F Γ [rowp_] w∧I64 at_1∧True) ?_ ?_
 ·
  intro w hw
  exact⟨(sl_ (by kernel_rfl)),hw,(show I64 (-1) by decide),trivial⟩
 rintro f3 i4 at_1 σ w hi5 hlt6 hge7 ⟨hsl,hw,hr2,-⟩
 refine Wpt.slots hsl ?_
 refine aa (C:=CC F Γ [rowp_]) ?_ hw
 clear hw hsl
 refine a8 ?_
 refine a7 ?_
 refine mv (v:=.int .i64 ((i4:Nat):Int)) ?_
 refine mv (v:=(pq gp_)) ?_
 refine vb (q_nil (A:=some ⟨gp_,0,none⟩) rfl rfl rfl) ?_
 refine vb (q_fl 4 fld_59_4 rfl rfl rfl) ?_
 have hq:=hp_
 obtain⟨A1_8,c1_8,A3_8,c3_8,r3_8,A4_8,c4_8,r4_8,A5_8,c5_8,hrow_8,ho0_8,ho1_8,ho2_8,ho3_8,ho4_8,ho5_8,ho6_8,-⟩:=hq
 intro w hw; have hw:=hw.unfold (i:=0) rfl hrow_8
 refine ao (C:=CC F Γ [[(gp_,.cells #[.int .i64 p_.id,.slice A1_8 p_.own.length c1_8,.bool p_.begun,.slice A3_8 p_.vec.length c3_8,.slice A4_8 p_.paths.length c4_8,.slice A5_8 p_.in_.length c5_8] ep_ (0,0))],r3_8,r4_8]) ?_ hw
 clear hw
 refine vb (q_ldl (i:=0) (v:=.slice A4_8 p_.paths.length c4_8) rfl rfl Tryz.isAgg57 rfl rfl) ?_
 refine vb (q_len_slice rfl Tryz.underlying57 rfl) ?_
 refine vb (q_lss rfl rfl rfl) ?_
 refine a6 ?_
 refine WC.cond (b:=(decide (((i4:Nat):Int)<((p_.paths.length:Nat):Int)))) (by kernel_rfl) (λhb9=>?_) (λhb9=>?_)
 ·
  have hl10:=ilt hb9
  have h:=hlt6 hl10
  refine ae ?_
  change WC _ _ _ _ _ _
  intro w hw; have hw:=hw.fold (is:=[0,0,0]) rfl hrow_8
  refine aa (C:=CC F Γ [rowp_]) ?_ hw
  clear hw
  refine ax (λσ w => ∃(at_12:Int),m_firthref19_Pull_Tell_j5 f3 at_12=some r∧slots σ [(0,(pq gp_)),(1,.slice Apath path.length cpath),(2,.slice Ahashes hashes.length chashes),(3,.slice Alist list.length clist),(9,.int .i64 at_12),(10,.int .i64 ((i4:Nat):Int))]∧CC F Γ [rowp_] w∧I64 at_12∧True) ?_ ?_
  ·
   refine af ?_
   refine a7 ?_
   refine mv (v:=(pq gp_)) ?_
   refine vb (q_nil (A:=some ⟨gp_,0,none⟩) rfl rfl rfl) ?_
   refine vb (q_fl 4 fld_59_4 rfl rfl rfl) ?_
   have hq:=hp_
   obtain⟨A1_14,c1_14,A3_14,c3_14,r3_14,A4_14,c4_14,r4_14,A5_14,c5_14,hrow_14,ho0_14,ho1_14,ho2_14,ho3_14,ho4_14,ho5_14,ho6_14,-⟩:=hq
   intro w hw; have hw:=hw.unfold (i:=0) rfl hrow_14
   refine ao (C:=CC F Γ [[(gp_,.cells #[.int .i64 p_.id,.slice A1_14 p_.own.length c1_14,.bool p_.begun,.slice A3_14 p_.vec.length c3_14,.slice A4_14 p_.paths.length c4_14,.slice A5_14 p_.in_.length c5_14] ep_ (0,0))],r3_14,r4_14]) ?_ hw
   clear hw
   refine vb (q_ldl (i:=0) (v:=.slice A4_14 p_.paths.length c4_14) rfl rfl Tryz.isAgg57 rfl rfl) ?_
   refine mv (v:=.int .i64 ((i4:Nat):Int)) ?_
   refine vb (q_ixn (i:=i4) Tryz.underlying57 Tryz.sizeOf24 rfl rfl rfl hl10 (ho4_14.some_ hl10)) ?_
   obtain⟨A15,c16,hx17⟩:=ho4_14.slT_at i4
   refine vb (q_ldo (c:=0) (v:=.slice A15 (gt p_.paths i4).length c16) (i:=2) rfl (hx17 hl10).2 rfl Tryz.isAgg24 rfl rfl) ?_
   refine mv (v:=.slice Apath path.length cpath) ?_
   obtain⟨z18,hz19,h⟩:=bnd h
   refine vc rfl rfl rfl (q_call (call_run Tryz.call41 rfl rfl (by kernel_rfl)) (λw hw=>t_firthref06_Ints (Γ:=Gh.all w) ((hx17 hl10).1.2.mono hw.sat.le_all) (hx17 hl10).1.1 (hpath.mono hw.sat.le_all) hpathc (Sat.all w) hz19)) ?_
   refine a6 ?_
   refine aj h (by kernel_rfl) (λhb20 h=>?_) (λhb20 h=>?_)
   ·
    refine ah ?_
    refine mv (v:=.int .i64 ((i4:Nat):Int)) ?_
    refine as_ (v:=.int .i64 ((i4:Nat):Int)) ?_
    refine ab ?_
    intro w hw
    have hw:=hw.fold (is:=[0,0,0]) rfl hrow_14
    exact⟨((i4:Nat):Int),h,(sl_ (by kernel_rfl)),hw,(ctr_r0 hl10 ho4_8.le),trivial⟩
   ·
    refine ae ?_
    intro w hw
    have hw:=hw.fold (is:=[0,0,0]) rfl hrow_14
    exact⟨at_1,h,(sl_ (by kernel_rfl)),hw,hr2,trivial⟩
  ·
   rintro σ w ⟨at_12,h,hsl,hw,hr13,-⟩
   refine Wpt.slots hsl ?_
   refine aa (C:=CC F Γ [rowp_]) ?_ hw
   clear hw hsl
   refine ah ?_
   refine mv (v:=.int .i64 ((i4:Nat):Int)) ?_
   refine vb (q_add_r (r:=((i4+1:Nat):Int)) rfl rfl rfl (ctr_len hl10 ho4_8.le)) ?_
   refine as_ (v:=.int .i64 ((i4+1:Nat):Int)) ?_
   exact ab λw hw=>⟨hl10,at_12,h,(sl_ (by kernel_rfl)),hw,hr13,trivial⟩
 ·
  have h:=hge7 (ige hb9)
  refine am ?_
  change WC _ _ _ _ _ _
  refine a8 ?_
  refine a7 ?_
  refine mv (v:=.int .i64 at_1) ?_
  refine vb (q_lss rfl rfl rfl) ?_
  refine a6 ?_
  refine aj h (by kernel_rfl) (λhb23 h=>?_) (λhb23 h=>?_)
  ·
   refine a7 ?_
   refine as_ (v:=.bool false) ?_
   refine a6 ?_
   refine ac ?_
   intro w hw
   have hw:=hw.fold (is:=[0,0,0]) rfl hrow_8
   cases h
   subst hF
   exact end_e (is:=[0]) (by kernel_rfl) hw rfl ⟨rowp_,rfl,rfl,hp_,trivial⟩
  ·
   refine ae ?_
   change WC _ _ _ _ _ _
   refine a8 ?_
   refine a7 ?_
   refine as_ (v:=.int .i64 0) ?_
   refine a6 ?_
   refine af ?_
   intro w hw; have hw:=hw.fold (is:=[0,0,0]) rfl hrow_8
   refine aa (C:=CC F Γ [rowp_]) ?_ hw
   clear hw
   refine aA h (λ(i_28:Int) σ w => ∃(Γ26:Gh),slots σ [(0,(pq gp_)),(1,.slice Apath path.length cpath),(2,.slice Ahashes hashes.length chashes),(3,.slice Alist list.length clist),(9,.int .i64 at_1),(11,.int .i64 i_28)]∧CC F Γ26 [rowp_] w∧Gh.le Γ Γ26∧I64 i_28∧True) ?_ ?_
   ·
    intro w hw
    exact⟨Γ,(sl_ (by kernel_rfl)),hw,(Gh.refl _),(show I64 0 by decide),trivial⟩
   rintro f30 i_28 σ w h ⟨Γ26,hsl,hw,hl27,hr29,-⟩
   refine Wpt.slots hsl ?_
   refine aa (C:=CC F Γ26 [rowp_]) ?_ hw
   clear hw hsl
   refine a8 ?_
   refine a7 ?_
   refine mv (v:=.int .i64 i_28) ?_
   refine mv (v:=.slice Alist list.length clist) ?_
   refine vb (q_len_slice rfl Tryz.underlying23 rfl) ?_
   refine vb (q_lss rfl rfl rfl) ?_
   refine mv (v:=.bool (decide (i_28<((list.length:Nat):Int)))) ?_
   refine vg1 rfl rfl rfl rfl rfl (λhg34=>QV.qo (q_move (v:=.slice Apath path.length cpath) rfl (by kernel_rfl))) ?_
   refine vg1 rfl rfl rfl rfl rfl (λhg35=>QV.qo (q_len_slice rfl Tryz.underlying24 (gu hg35 rfl))) ?_
   refine vg1 rfl rfl rfl rfl rfl (λhg36=>QV.qo (q_eql rfl (gu hg36 rfl) rfl)) ?_
   refine vb (q_pick rfl rfl (pk_and' (g:=(decide (i_28<((list.length:Nat):Int)))) (y:=(((path.length:Nat):Int)==2)))) ?_
   refine a6 ?_
   refine aj h (by kernel_rfl) (λhb37 h=>?_) (λhb37 h=>?_)
   ·
    refine ae ?_
    change WC _ _ _ _ _ _
    refine a8 ?_
    refine af ?_
    refine a7 ?_
    refine mv (v:=.slice Alist list.length clist) ?_
    refine mv (v:=.int .i64 i_28) ?_
    obtain⟨hk38,h⟩:=chk_some h
    refine vb (q_ix Tryz.underlying23 Tryz.sizeOf70 rfl rfl rfl hk38 ((hlist.mono hl27).some_ (inb_lt hk38))) ?_
    obtain⟨A39,c40,hx41⟩:=(hlist.mono hl27).recT_at i_28.toNat
    refine vb (q_lda (c:=0) (vs:=[.string (gt list i_28.toNat).key,.slice A39 ((gt list i_28.toNat).vers).length c40]) (hx41 (inb_lt hk38)).2 rfl Tryz.isAgg70 Tryz.sizeOf70 rfl rfl rfl) ?_
    obtain⟨z42,hz43,h⟩:=bnd h
    refine vc rfl rfl rfl (q_call (call_run Tryz.call67 rfl rfl (by kernel_rfl)) (λw hw=>t_firthref06_RightRec (Γ:=Gh.all w) (gt list i_28.toNat) (Rec.fits_mono (hx41 (inb_lt hk38)).1 hw.sat.le_all) (Sat.all w) hz43)) ?_
    refine vb (q_not rfl rfl) ?_
    refine mv (v:=.bool (!z42)) ?_
    refine vg0 rfl rfl rfl rfl rfl (λhg44=>QV.qo (q_move (v:=.slice Alist list.length clist) rfl (by kernel_rfl))) ?_
    refine vg0 rfl rfl rfl rfl rfl (λhg45=>QV.qo (q_move (v:=.int .i64 i_28) rfl (by kernel_rfl))) ?_
    refine vg0 rfl rfl rfl rfl rfl (λhg46=>QV.qo (q_ix Tryz.underlying23 Tryz.sizeOf70 rfl (gu hg46 rfl) (gu hg46 rfl) hk38 ((hlist.mono hl27).some_ (inb_lt hk38)))) ?_
    refine vg0 rfl rfl rfl rfl rfl (λhg47=>QV.qo (q_field_addr (i_28.toNat*2) fld_70_0 rfl (gu hg47 rfl) ((hlist.mono hl27).some_ (inb_lt hk38)) rfl)) ?_
    refine vg0 rfl rfl rfl rfl rfl (λhg48=>QV.qo (q_ld (c:=0) (v:=.string (gt list i_28.toNat).key) (hx41 (inb_lt hk38)).2 rfl Tryz.isAgg9 (gu hg48 rfl) rfl)) ?_
    refine(Bool.eq_false_or_eq_true (!(!z42))).elim (λhb49=>?_) (λhb49=>?_)
    ·
     have h:=bt hb49 h
     refine WR.sat (c0:=true) (g:=(!z42)) rfl rfl rfl hb49 ?_
     obtain⟨z50,hz51,h⟩:=bnd h
     refine e_call (is:=[]) rfl rfl (call_run Tryz.call68 rfl rfl (args1 (gu hb49 rfl))) rfl (λw hp=>t_firthref11_Place ((gt list i_28.toNat).key) (hx41 (inb_lt hk38)).1.1 hp hz51) ?_
     rintro Γ52 U54 v55 hl53 ⟨A56,c57,row58,rfl,rfl,hr59,_⟩
     change WR _ _ _ (CC F Γ52 [row58,rowp_]) _ _ (upd _ 60 (.slice A56 z50.length c57))
     refine WR.sat (c0:=true) (g:=(!z42)) rfl rfl rfl hb49 ?_
     refine mv (v:=.slice Apath path.length cpath) ?_
     refine WR.sat (c0:=true) (g:=(!z42)) rfl rfl rfl hb49 ?_
     obtain⟨z60,hz61,h⟩:=bnd h
     refine vc rfl rfl rfl (q_call (call_run Tryz.call41 rfl rfl (by kernel_rfl)) (λw hw=>t_firthref06_Ints (Γ:=Gh.all w) (hr59.sl hw.sat.le_all (hw.ra 0 rfl)) hr59.capz ((hpath.mono (hl27.trans hl53)).mono hw.sat.le_all) hpathc (Sat.all w) hz61)) ?_
     refine WR.sat (c0:=true) (g:=(!z42)) rfl rfl rfl hb49 ?_
     refine vb (q_not rfl rfl) ?_
     refine vb (q_pick_f (v:=.bool (!z60)) rfl rfl (not_t hb49) (by kernel_rfl)) ?_
     refine a6 ?_
     refine aj h (by kernel_rfl) (λhb62 h=>?_) (λhb62 h=>?_)
     ·
      refine a7 ?_
      refine as_ (v:=.bool false) ?_
      refine a6 ?_
      refine ac ?_
      intro w hw
      cases h
      subst hF
      exact end_e (is:=[1]) (by kernel_rfl) hw rfl ⟨rowp_,rfl,rfl,(hp_.mono (hl27.trans hl53)),trivial⟩
     ·
      refine ae ?_
      change WC _ _ _ _ _ _
      refine ah ?_
      refine mv (v:=.int .i64 i_28) ?_
      refine vb (q_add rfl rfl rfl) ?_
      refine as_ (v:=.int .i64 (w64 (i_28+1))) ?_
      exact ab λw hw=>⟨(w64 (i_28+1)),h,Γ52,(sl_ (by kernel_rfl)),(hw.only (is:=[1]) rfl),(hl27.trans hl53),(w64_r _),trivial⟩
    ·
     have h:=bf hb49 h
     refine ak (c0:=true) (g:=(!z42)) rfl rfl rfl hb49 rfl ?_
     refine ak (c0:=true) (g:=(!z42)) rfl rfl rfl hb49 rfl ?_
     refine ak (c0:=true) (g:=(!z42)) rfl rfl rfl hb49 rfl ?_
     refine ak (c0:=true) (g:=(!z42)) rfl rfl rfl hb49 rfl ?_
     refine vb (q_pick_t (v:=.bool true) rfl rfl (not_f hb49) (by kernel_rfl)) ?_
     refine a6 ?_
     refine WC.ctk (b:=true) (by kernel_rfl) rfl ?_
     refine a7 ?_
     refine as_ (v:=.bool false) ?_
     refine a6 ?_
     refine ac ?_
     intro w hw
     cases h
     subst hF
     exact end_e (is:=[0]) (by kernel_rfl) hw rfl ⟨rowp_,rfl,rfl,(hp_.mono hl27),trivial⟩
   ·
    refine am ?_
    change WC _ _ _ _ _ _
    refine a7 ?_
    refine as_ (v:=.slice none 0 0) ?_
    refine a6 ?_
    refine a7 ?_
    refine mv (v:=.slice none 0 0) ?_
    refine mv (v:=(pq gp_)) ?_
    refine vb (q_nil (A:=some ⟨gp_,0,none⟩) rfl rfl rfl) ?_
    refine vb (q_fl 4 fld_59_4 rfl rfl rfl) ?_
    have hq:=(hp_.mono hl27)
    obtain⟨A1_63,c1_63,A3_63,c3_63,r3_63,A4_63,c4_63,r4_63,A5_63,c5_63,hrow_63,ho0_63,ho1_63,ho2_63,ho3_63,ho4_63,ho5_63,ho6_63,-⟩:=hq
    intro w hw; have hw:=hw.unfold (i:=0) rfl hrow_63
    refine ao (C:=CC F Γ26 [[(gp_,.cells #[.int .i64 p_.id,.slice A1_63 p_.own.length c1_63,.bool p_.begun,.slice A3_63 p_.vec.length c3_63,.slice A4_63 p_.paths.length c4_63,.slice A5_63 p_.in_.length c5_63] ep_ (0,0))],r3_63,r4_63]) ?_ hw
    clear hw
    refine vb (q_ldl (i:=0) (v:=.slice A4_63 p_.paths.length c4_63) rfl rfl Tryz.isAgg57 rfl rfl) ?_
    refine mv (v:=.int .i64 at_1) ?_
    have hc68:=ho4_63.capz
    intro w hw; obtain⟨Γ64,hw,hl65,hr66⟩:=hw.seal (i:=2) rfl; have hs67:=ho4_63.sl hl65 hr66
    refine ao (C:=CC F Γ64 [[(gp_,.cells #[.int .i64 p_.id,.slice A1_63 p_.own.length c1_63,.bool p_.begun,.slice A3_63 p_.vec.length c3_63,.slice A4_63 p_.paths.length c4_63,.slice A5_63 p_.in_.length c5_63] ep_ (0,0))],r3_63,[]]) ?_ hw
    clear hw
    obtain⟨hk69,h⟩:=chk_some h
    refine vb (q_cut_to (c:=c4_63) (hi:=at_1.toNat) (xs:=p_.paths) Tryz.underlying57 Tryz.sizeOf24 rfl rfl (inle_eq rfl hk69) (inle_le hk69) hc68) ?_
    refine WR.sub (λw hw=>hw.pad) ?_
    obtain⟨hk70,h⟩:=chk_some h
    refine e_append (T:=(slT intT)) (xs:=[]) (ys:=(List.take at_1.toNat p_.paths)) elem_57 (i:=0) rfl rfl rfl rfl (by kernel_rfl) rfl rfl (Own.nil (slT intT) Γ64 24) (of_decide_eq_true hk70) (λw hw=>src_sl (hs67.cut_to (hi:=at_1.toNat) (inle_le hk69)) hw) ?_
    intro row71 A72 c73 ho74
    refine as_ (v:=.slice A72 (List.take at_1.toNat p_.paths).length c73) ?_
    refine a6 ?_
    refine a7 ?_
    refine mv (v:=.slice A72 (List.take at_1.toNat p_.paths).length c73) ?_
    refine mv (v:=(pq gp_)) ?_
    refine vb (q_nil (A:=some ⟨gp_,0,none⟩) rfl rfl rfl) ?_
    refine vb (q_fl 4 fld_59_4 rfl rfl rfl) ?_
    refine vb (q_ldl (i:=1) (v:=.slice A4_63 p_.paths.length c4_63) rfl rfl Tryz.isAgg57 rfl rfl) ?_
    refine mv (v:=.int .i64 at_1) ?_
    refine vb (q_add rfl rfl rfl) ?_
    obtain⟨hk75,h⟩:=chk_some h
    refine vb (q_cut_from (c:=c4_63) (lo:=(w64 (at_1+1)).toNat) (xs:=p_.paths) Tryz.underlying57 Tryz.sizeOf24 rfl rfl (inle_eq rfl hk75) (inle_le hk75)) ?_
    obtain⟨hk76,h⟩:=chk_some h
    refine e_append (T:=(slT intT)) (xs:=(List.take at_1.toNat p_.paths)) (ys:=(List.drop ((w64 (at_1+1)).toNat) p_.paths)) elem_57 (i:=0) rfl rfl rfl rfl rfl rfl rfl ho74 (of_decide_eq_true hk76) (λw hw=>src_sl (hs67.cut_from (c:=c4_63) (lo:=(w64 (at_1+1)).toNat) (inle_le hk75) hc68) hw) ?_
    intro row77 A78 c79 ho80
    refine as_ (v:=.slice A78 ((List.take at_1.toNat p_.paths)++(List.drop ((w64 (at_1+1)).toNat) p_.paths)).length c79) ?_
    refine a6 ?_
    refine ax (λσ w => ∃(left_83:List (List Int)), ∃(Γ81:Gh), ∃(A84:Option Addr), ∃(c85:Nat), ∃(row86:Rowb),m_firthref19_Pull_Tell_j7 p_ path list left_83=some r∧slots σ [(0,(pq gp_)),(1,.slice Apath path.length cpath),(3,.slice Alist list.length clist),(12,.slice A84 left_83.length c85)]∧CC F Γ81 [row86,[(gp_,.cells #[.int .i64 p_.id,.slice A1_63 p_.own.length c1_63,.bool p_.begun,.slice A3_63 p_.vec.length c3_63,.slice A4_63 p_.paths.length c4_63,.slice A5_63 p_.in_.length c5_63] ep_ (0,0))],r3_63] w∧Gh.le Γ64 Γ81∧Own (slT intT) Γ81 24 row86 A84 c85 left_83∧True) ?_ ?_
    ·
     refine a7 ?_
     refine mv (v:=.slice Apath path.length cpath) ?_
     refine vb (q_len_slice rfl Tryz.underlying24 rfl) ?_
     refine vb (q_eql rfl rfl rfl) ?_
     refine a6 ?_
     refine aj h (by kernel_rfl) (λhb88 h=>?_) (λhb88 h=>?_)
     ·
      refine a7 ?_
      refine mv (v:=(pq gp_)) ?_
      refine vb (q_nil (A:=some ⟨gp_,0,none⟩) rfl rfl rfl) ?_
      refine vb (q_fl 1 fld_59_1 rfl rfl rfl) ?_
      refine vb (q_ldl (i:=1) (v:=.slice A1_63 p_.own.length c1_63) rfl rfl Tryz.isAgg23 rfl rfl) ?_
      refine mv (v:=.slice Apath path.length cpath) ?_
      obtain⟨z89,hz90,h⟩:=bnd h
      refine e_call (is:=[]) rfl rfl (call_run Tryz.call20 rfl rfl (by kernel_rfl)) rfl (λw hp=>t_firthref11_Kids (ho2_63.mono hl65) ho1_63 (hpath.mono (hl27.trans hl65)) hpathc hp hz90) ?_
      rintro Γ91 U93 v94 hl92 ⟨A95,c96,row97,rfl,rfl,hr98,_⟩
      change WR _ _ _ (CC F Γ91 [row97,row77,[(gp_,.cells #[.int .i64 p_.id,.slice A1_63 p_.own.length c1_63,.bool p_.begun,.slice A3_63 p_.vec.length c3_63,.slice A4_63 p_.paths.length c4_63,.slice A5_63 p_.in_.length c5_63] ep_ (0,0))],r3_63,[]]) _ _ (upd _ 90 (.slice A95 z89.length c96))
      refine mv (v:=.slice Ahashes hashes.length chashes) ?_
      have hc103:=hr98.capz
      intro w hw; obtain⟨Γ99,hw,hl100,hr101⟩:=hw.seal (i:=0) rfl; have hs102:=hr98.sl hl100 hr101
      refine ao (C:=CC F Γ99 [[],row77,[(gp_,.cells #[.int .i64 p_.id,.slice A1_63 p_.own.length c1_63,.bool p_.begun,.slice A3_63 p_.vec.length c3_63,.slice A4_63 p_.paths.length c4_63,.slice A5_63 p_.in_.length c5_63] ep_ (0,0))],r3_63,[]]) ?_ hw
      clear hw
      obtain⟨z104,hz105,h⟩:=bnd h
      refine e_call (is:=[]) rfl rfl (call_run Tryz.call59 rfl rfl (by kernel_rfl)) rfl (λw hp=>t_firthref11_Differ hs102 hc103 (hhashes.mono (((hl27.trans hl65).trans hl92).trans hl100)) hhashesc hp hz105) ?_
      rintro Γ106 U108 v109 hl107 ⟨A110,c111,row112,rfl,rfl,hr113,_⟩
      change WR _ _ _ (CC F Γ106 [row112,[],row77,[(gp_,.cells #[.int .i64 p_.id,.slice A1_63 p_.own.length c1_63,.bool p_.begun,.slice A3_63 p_.vec.length c3_63,.slice A4_63 p_.paths.length c4_63,.slice A5_63 p_.in_.length c5_63] ep_ (0,0))],r3_63,[]]) _ _ (upd _ 92 (.slice A110 z104.length c111))
      refine as_ (v:=.slice A110 z104.length c111) ?_
      refine a6 ?_
      refine a7 ?_
      refine as_ (v:=.int .i64 0) ?_
      refine a6 ?_
      refine af ?_
      refine ap h (λ(i122:Nat) (left_116:List (List Int)) σ w => ∃(Γ114:Gh), ∃(A117:Option Addr), ∃(c118:Nat), ∃(row119:Rowb),slots σ [(0,(pq gp_)),(1,.slice Apath path.length cpath),(3,.slice Alist list.length clist),(12,.slice A117 left_116.length c118),(13,.slice A110 z104.length c111),(14,.int .i64 ((i122:Nat):Int))]∧CC F Γ114 [row119,row112,[(gp_,.cells #[.int .i64 p_.id,.slice A1_63 p_.own.length c1_63,.bool p_.begun,.slice A3_63 p_.vec.length c3_63,.slice A4_63 p_.paths.length c4_63,.slice A5_63 p_.in_.length c5_63] ep_ (0,0))],r3_63] w∧Gh.le Γ106 Γ114∧Own (slT intT) Γ114 24 row119 A117 c118 left_116∧True) ?_ ?_
      ·
       intro w hw
       exact⟨Γ106,A78,c79,row77,(sl_ (by kernel_rfl)),(hw.only (is:=[2,0,1,1]) rfl),(Gh.refl _),(ho80.mono ((hl92.trans hl100).trans hl107)),trivial⟩
      rintro f121 i122 left_116 σ w hi123 hlt124 hge125 ⟨Γ114,A117,c118,row119,hsl,hw,hl115,ho120,-⟩
      refine Wpt.slots hsl ?_
      refine aa (C:=CC F Γ114 [row119,row112,[(gp_,.cells #[.int .i64 p_.id,.slice A1_63 p_.own.length c1_63,.bool p_.begun,.slice A3_63 p_.vec.length c3_63,.slice A4_63 p_.paths.length c4_63,.slice A5_63 p_.in_.length c5_63] ep_ (0,0))],r3_63]) ?_ hw
      clear hw hsl
      refine a8 ?_
      refine a7 ?_
      refine mv (v:=.int .i64 ((i122:Nat):Int)) ?_
      refine mv (v:=.slice A110 z104.length c111) ?_
      refine vb (q_len_slice rfl Tryz.underlying24 rfl) ?_
      refine vb (q_lss rfl rfl rfl) ?_
      refine a6 ?_
      refine WC.cond (b:=(decide (((i122:Nat):Int)<((z104.length:Nat):Int)))) (by kernel_rfl) (λhb126=>?_) (λhb126=>?_)
      ·
       have hl127:=ilt hb126
       have h:=hlt124 hl127
       refine ae ?_
       change WC _ _ _ _ _ _
       refine a8 ?_
       refine af ?_
       intro w hw; have h0128:=hw.le
       refine aa (C:=CC F Γ114 [row119,row112,[(gp_,.cells #[.int .i64 p_.id,.slice A1_63 p_.own.length c1_63,.bool p_.begun,.slice A3_63 p_.vec.length c3_63,.slice A4_63 p_.paths.length c4_63,.slice A5_63 p_.in_.length c5_63] ep_ (0,0))],r3_63]) ?_ hw; clear hw
       refine av (CC F Γ114 [row112,[(gp_,.cells #[.int .i64 p_.id,.slice A1_63 p_.own.length c1_63,.bool p_.begun,.slice A3_63 p_.vec.length c3_63,.slice A4_63 p_.paths.length c4_63,.slice A5_63 p_.in_.length c5_63] ep_ (0,0))]]) (by kernel_rfl) (λw hw=>hw.drawn _) ?_
       change WH _ _ _ _ (CC F Γ114 [row119,row112,[(gp_,.cells #[.int .i64 p_.id,.slice A1_63 p_.own.length c1_63,.bool p_.begun,.slice A3_63 p_.vec.length c3_63,.slice A4_63 p_.paths.length c4_63,.slice A5_63 p_.in_.length c5_63] ep_ (0,0))],r3_63]) _ 12 #[false,false,false,false,false,false,false,false,false,false,false,false] _
       refine hu 0 rfl (bk_ (Gh.refl _) h0128 (.cons _ (.cons_cons _ (.cons_cons _ (.cons _ .slnil))))) (q_move (v:=.slice A117 left_116.length c118) rfl (by kernel_rfl)) ?_
       refine hu 1 rfl (bk_ (Gh.refl _) h0128 (.cons _ (.cons_cons _ (.cons_cons _ (.cons _ .slnil))))) (q_move (v:=.slice Apath path.length cpath) rfl (by kernel_rfl)) ?_
       obtain⟨hk129,h⟩:=chk_some h
       refine hu 2 rfl (bk_ (Gh.refl _) h0128 (.cons _ (.cons_cons _ (.cons_cons _ (.cons _ .slnil))))) (q_ixn (i:=0) Tryz.underlying24 Tryz.sizeOf3 rfl rfl rfl (of_decide_eq_true hk129) ((hpath.mono (((((hl27.trans hl65).trans hl92).trans hl100).trans hl107).trans hl115)).some_ (of_decide_eq_true hk129))) ?_
       refine hu 3 rfl (bk_ (Gh.refl _) h0128 (.cons _ (.cons_cons _ (.cons_cons _ (.cons _ .slnil))))) (q_ld (c:=0) (v:=.int .i64 (gt path 0)) ((hpath.mono (((((hl27.trans hl65).trans hl92).trans hl100).trans hl107).trans hl115)).intT_at (of_decide_eq_true hk129)).2 rfl Tryz.isAgg3 rfl rfl) ?_
       refine hu 4 rfl (bk_ (Gh.refl _) h0128 (.cons _ (.cons_cons _ (.cons_cons _ (.cons _ .slnil))))) (q_move (v:=.slice A110 z104.length c111) rfl (by kernel_rfl)) ?_
       refine hu 5 rfl (bk_ (Gh.refl _) h0128 (.cons _ (.cons_cons _ (.cons_cons _ (.cons _ .slnil))))) (q_move (v:=.int .i64 ((i122:Nat):Int)) rfl (by kernel_rfl)) ?_
       refine hu 6 rfl (bk_ (Gh.refl _) h0128 (.cons _ (.cons_cons _ (.cons_cons _ (.cons _ .slnil))))) (q_ixn (i:=i122) Tryz.underlying24 Tryz.sizeOf3 rfl rfl rfl hl127 ((hr113.mono hl115).some_ hl127)) ?_
       refine hu 7 rfl (bk_ (Gh.refl _) h0128 (.cons _ (.cons_cons _ (.cons_cons _ (.cons _ .slnil))))) (q_ldo (c:=0) (v:=.int .i64 (gt z104 i122)) (i:=0) rfl ((hr113.mono hl115).intT_at hl127).2 rfl Tryz.isAgg3 rfl rfl) ?_
       refine ai (i:=8) (by kernel_rfl) rfl ?_
       refine e_buildSlice (cs:=#[.int .i64 (gt path 0),.int .i64 (gt z104 i122)]) (e:=3) rfl rfl rfl rfl (λw=>by kernel_rfl) ?_
       intro g130
       refine ab ?_
       refine WH.next (bk_ (Gh.refl _) h0128 (.cons _ (.cons _ (.cons_cons _ (.cons_cons _ (.cons _ .slnil)))))) ?_
       refine ai (i:=9) (by kernel_rfl) rfl ?_
       have ho131:Own intT Γ114 3 [(g130,.cells #[.int .i64 (gt path 0),.int .i64 (gt z104 i122)] 3 (0,0))] (some ⟨g130,0,none⟩) 2 [(gt path 0),(gt z104 i122)]:=aq (T:=intT) (ys:=[(gt path 0),(gt z104 i122)]) [[.int .i64 (gt path 0)],[.int .i64 (gt z104 i122)]] rfl (show 2≤lim by decide) (show Ty.rd intT Γ114 [.int .i64 (gt path 0)] (gt path 0)∧Ty.rd intT Γ114 [.int .i64 (gt z104 i122)] (gt z104 i122)∧True from ⟨⟨rfl,((hpath.mono (((((hl27.trans hl65).trans hl92).trans hl100).trans hl107).trans hl115)).intT_at (of_decide_eq_true hk129)).1⟩,⟨rfl,((hr113.mono hl115).intT_at hl127).1⟩,trivial⟩)
       have hc136:=ho131.capz
       intro w hw; obtain⟨Γ132,hw,hl133,hr134⟩:=hw.seal (i:=0) rfl; have hs135:=ho131.sl hl133 hr134
       refine ao (C:=CC F Γ132 [[],row119,row112,[(gp_,.cells #[.int .i64 p_.id,.slice A1_63 p_.own.length c1_63,.bool p_.begun,.slice A3_63 p_.vec.length c3_63,.slice A4_63 p_.paths.length c4_63,.slice A5_63 p_.in_.length c5_63] ep_ (0,0))],r3_63]) ?_ hw
       clear hw
       refine e_buildSlice (cs:=#[.slice (some ⟨g130,0,none⟩) [(gt path 0),(gt z104 i122)].length 2]) (e:=24) rfl rfl rfl rfl (λw=>by kernel_rfl) ?_
       intro g137
       refine ab ?_
       refine WH.next (bk_ hl133 h0128 (.cons _ (.cons _ (.cons _ (.cons_cons _ (.cons_cons _ (.cons _ .slnil))))))) ?_
       refine ai (i:=10) (by kernel_rfl) rfl ?_
       obtain⟨hk138,h⟩:=chk_some h
       refine e_append (T:=(slT intT)) (xs:=left_116) (ys:=[[(gt path 0),(gt z104 i122)]]) elem_57 (i:=2) rfl rfl rfl rfl rfl rfl rfl (ho120.mono hl133) (of_decide_eq_true hk138) (λw hw=>src_one (T:=(slT intT)) (y:=[(gt path 0),(gt z104 i122)]) (i:=0) rfl (by exact⟨(some ⟨g130,0,none⟩),2,rfl,hc136,hs135⟩) hw) ?_
       intro row139 A140 c141 ho142
       refine ab ?_
       refine WH.next (bk_ hl133 h0128 (.cons _ (.cons _ (.cons _ (.cons_cons _ (.cons_cons _ (.cons _ .slnil))))))) ?_
       refine hu 11 rfl (bk_ hl133 h0128 (.cons _ (.cons _ (.cons _ (.cons_cons _ (.cons_cons _ (.cons _ .slnil))))))) (q_assign (v:=.slice A140 (left_116++[[(gt path 0),(gt z104 i122)]]).length c141) rfl (by kernel_rfl)) ?_
       refine au (by kernel_rfl) ?_
       change WC _ _ _ _ _ _
       refine ah ?_
       refine mv (v:=.int .i64 ((i122:Nat):Int)) ?_
       refine vb (q_add_r (r:=((i122+1:Nat):Int)) rfl rfl rfl (ctr_len hl127 (hr113.mono hl115).le)) ?_
       refine as_ (v:=.int .i64 ((i122+1:Nat):Int)) ?_
       exact ab λw hw=>⟨hl127,(left_116++[[(gt path 0),(gt z104 i122)]]),h,Γ132,A140,c141,row139,(sl_ (by kernel_rfl)),(hw.only (is:=[2,2,2,2]) rfl),(hl115.trans hl133),ho142,trivial⟩
      ·
       have h:=hge125 (ige hb126)
       exact am λw hw=>⟨left_116,Γ114,A117,c118,row119,h,(sl_ (by kernel_rfl)),(hw.only (is:=[0,1,1]) rfl),(((hl92.trans hl100).trans hl107).trans hl115),ho120,trivial⟩
     ·
      exact ae λw hw=>⟨((List.take at_1.toNat p_.paths)++(List.drop ((w64 (at_1+1)).toNat) p_.paths)),Γ64,A78,c79,row77,h,(sl_ (by kernel_rfl)),(hw.only (is:=[0,0,0]) rfl),(Gh.refl _),ho80,trivial⟩
    ·
     rintro σ w ⟨left_83,Γ81,A84,c85,row86,h,hsl,hw,hl82,ho87,-⟩
     refine Wpt.slots hsl ?_
     refine aa (C:=CC F Γ81 [row86,[(gp_,.cells #[.int .i64 p_.id,.slice A1_63 p_.own.length c1_63,.bool p_.begun,.slice A3_63 p_.vec.length c3_63,.slice A4_63 p_.paths.length c4_63,.slice A5_63 p_.in_.length c5_63] ep_ (0,0))],r3_63]) ?_ hw
     clear hw hsl
     refine a7 ?_
     refine mv (v:=(pq gp_)) ?_
     refine mv (v:=.slice A84 left_83.length c85) ?_
     refine vb (q_nil (A:=some ⟨gp_,0,none⟩) rfl rfl rfl) ?_
     refine vb (q_fl 4 fld_59_4 rfl rfl rfl) ?_
     refine e_st (i:=1) (v:=.slice A84 left_83.length c85) (new:=#[.int .i64 p_.id,.slice A1_63 p_.own.length c1_63,.bool p_.begun,.slice A3_63 p_.vec.length c3_63,.slice A84 left_83.length c85,.slice A5_63 p_.in_.length c5_63]) rfl Tryz.sizeOf57 rfl rfl rfl rfl (by kernel_rfl) rfl rfl rfl rfl ?_
     refine a6 ?_
     refine a8 ?_
     refine a7 ?_
     refine as_ (v:=.int .i64 0) ?_
     refine a6 ?_
     refine af ?_
     obtain⟨row_143,hrow_143,hob_143⟩:∃rw:Rowb,rw=([[(gp_,.cells #[.int .i64 p_.id,.slice A1_63 p_.own.length c1_63,.bool p_.begun,.slice A3_63 p_.vec.length c3_63,.slice A84 left_83.length c85,.slice A5_63 p_.in_.length c5_63] ep_ (0,0))],r3_63,row86]:List Rowb).flatten∧Ofirthref19_Pull.ob ep_ Γ81 gp_ rw (⟨p_.id,p_.own,p_.begun,p_.vec,left_83,p_.in_⟩:Ofirthref19_Pull):=⟨_,rfl,A1_63,c1_63,A3_63,c3_63,r3_63,A84,c85,row86,A5_63,c5_63,rfl,ho0_63,ho1_63,(ho2_63.mono (hl65.trans hl82)),(ho3_63.mono (hl65.trans hl82)),ho87,ho5_63,(ho6_63.mono (hl65.trans hl82)),trivial⟩
     intro w hw; have hw:=hw.fold (is:=[1,1,0]) rfl hrow_143
     refine aa (C:=CC F Γ81 [row_143]) ?_ hw
     clear hw
     refine aA h (λ(s:Int×Ofirthref19_Pull) σ w=>match s with | (i_146,o148) => ∃(Γ144:Gh), ∃(row149:Rowb),slots σ [(0,(pq gp_)),(1,.slice Apath path.length cpath),(3,.slice Alist list.length clist),(15,.int .i64 i_146)]∧CC F Γ144 [row149] w∧Gh.le Γ81 Γ144∧I64 i_146∧Ofirthref19_Pull.ob ep_ Γ144 gp_ row149 o148∧True) ?_ ?_
     ·
      intro w hw
      exact⟨Γ81,row_143,(sl_ (by kernel_rfl)),hw,(Gh.refl _),(show I64 0 by decide),hob_143,trivial⟩
     rintro f151 ⟨i_146,o148⟩ σ w h ⟨Γ144,row149,hsl,hw,hl145,hr147,ho150,-⟩
     refine Wpt.slots hsl ?_
     refine aa (C:=CC F Γ144 [row149]) ?_ hw
     clear hw hsl
     refine a8 ?_
     refine a7 ?_
     refine mv (v:=.int .i64 i_146) ?_
     refine mv (v:=.slice Alist list.length clist) ?_
     refine vb (q_len_slice rfl Tryz.underlying23 rfl) ?_
     refine vb (q_lss rfl rfl rfl) ?_
     refine mv (v:=.bool (decide (i_146<((list.length:Nat):Int)))) ?_
     refine vg1 rfl rfl rfl rfl rfl (λhg155=>QV.qo (q_move (v:=.slice Apath path.length cpath) rfl (by kernel_rfl))) ?_
     refine vg1 rfl rfl rfl rfl rfl (λhg156=>QV.qo (q_len_slice rfl Tryz.underlying24 (gu hg156 rfl))) ?_
     refine vg1 rfl rfl rfl rfl rfl (λhg157=>QV.qo (q_eql rfl (gu hg157 rfl) rfl)) ?_
     refine vb (q_pick rfl rfl (pk_and' (g:=(decide (i_146<((list.length:Nat):Int)))) (y:=(((path.length:Nat):Int)==2)))) ?_
     refine a6 ?_
     refine aj h (by kernel_rfl) (λhb158 h=>?_) (λhb158 h=>?_)
     ·
      refine ae ?_
      change WC _ _ _ _ _ _
      refine a8 ?_
      refine af ?_
      intro w hw; have h0159:=hw.le
      refine aa (C:=CC F Γ144 [row149]) ?_ hw; clear hw
      refine av (CC F Γ144 []) (by kernel_rfl) (λw hw=>hw.drawn _) ?_
      change WH _ _ _ _ (CC F Γ144 [row149]) _ 14 #[false,false,false,false,false,false,false,false,false,false,false,false,false,false] _
      refine hu 0 rfl (bk_ (Gh.refl _) h0159 (.cons _ .slnil)) (q_move (v:=(pq gp_)) rfl (by kernel_rfl)) ?_
      refine hu 1 rfl (bk_ (Gh.refl _) h0159 (.cons _ .slnil)) (q_move (v:=(pq gp_)) rfl (by kernel_rfl)) ?_
      refine hu 2 rfl (bk_ (Gh.refl _) h0159 (.cons _ .slnil)) (q_nil (A:=some ⟨gp_,0,none⟩) rfl rfl rfl) ?_
      refine hu 3 rfl (bk_ (Gh.refl _) h0159 (.cons _ .slnil)) (q_fl 5 fld_59_5 rfl rfl rfl) ?_
      refine hu 5 rfl (bk_ (Gh.refl _) h0159 (.cons _ .slnil)) (q_move (v:=.slice Alist list.length clist) rfl (by kernel_rfl)) ?_
      refine hu 6 rfl (bk_ (Gh.refl _) h0159 (.cons _ .slnil)) (q_move (v:=.int .i64 i_146) rfl (by kernel_rfl)) ?_
      obtain⟨hk160,h⟩:=chk_some h
      refine hu 7 rfl (bk_ (Gh.refl _) h0159 (.cons _ .slnil)) (q_ix Tryz.underlying23 Tryz.sizeOf70 rfl rfl rfl hk160 ((hlist.mono (((hl27.trans hl65).trans hl82).trans hl145)).some_ (inb_lt hk160))) ?_
      obtain⟨A161,c162,hx163⟩:=(hlist.mono (((hl27.trans hl65).trans hl82).trans hl145)).recT_at i_146.toNat
      refine hu 8 rfl (bk_ (Gh.refl _) h0159 (.cons _ .slnil)) (q_lda (c:=0) (vs:=[.string (gt list i_146.toNat).key,.slice A161 ((gt list i_146.toNat).vers).length c162]) (hx163 (inb_lt hk160)).2 rfl Tryz.isAgg70 Tryz.sizeOf70 rfl rfl rfl) ?_
      obtain⟨z164,hz165,h⟩:=bnd h
      refine WH.each (l:=[4,9]) (by kernel_rfl) (by simp) ?_
      intro i hi; simp only [List.mem_cons,List.not_mem_nil,or_false] at hi
      rcases hi with rfl | rfl
      ·
       refine⟨_,rfl,?_⟩
       have hq:=ho150
       obtain⟨A1_166,c1_166,A3_166,c3_166,r3_166,A4_166,c4_166,r4_166,A5_166,c5_166,hrow_166,ho0_166,ho1_166,ho2_166,ho3_166,ho4_166,ho5_166,ho6_166,-⟩:=hq
       intro w hw; have hw:=hw.unfold (i:=0) rfl hrow_166
       refine ao (C:=CC F Γ144 [[(gp_,.cells #[.int .i64 o148.id,.slice A1_166 o148.own.length c1_166,.bool o148.begun,.slice A3_166 o148.vec.length c3_166,.slice A4_166 o148.paths.length c4_166,.slice A5_166 o148.in_.length c5_166] ep_ (0,0))],r3_166,r4_166]) ?_ hw
       clear hw
       refine vb (q_ldl (i:=0) (v:=.slice A5_166 o148.in_.length c5_166) rfl rfl Tryz.isAgg23 rfl rfl) ?_
       refine ab ?_
       refine WH.next (bk_ (Gh.refl _) h0159 (.cons _ (.cons _ (.cons _ .slnil)))) ?_
       refine ai (i:=9) (by kernel_rfl) rfl ?_
       refine e_call (is:=[]) rfl rfl (call_run Tryz.call42 rfl rfl (by kernel_rfl)) rfl (λw hp=>t_firthref10_Own (gt list i_146.toNat) (hx163 (inb_lt hk160)).1 hp hz165) ?_
       rintro Γ167 U169 v170 hl168 ⟨A171,c172,rfl,rfl,hr173,_⟩
       change WR _ _ _ (CC F Γ167 [[(gp_,.cells #[.int .i64 o148.id,.slice A1_166 o148.own.length c1_166,.bool o148.begun,.slice A3_166 o148.vec.length c3_166,.slice A4_166 o148.paths.length c4_166,.slice A5_166 o148.in_.length c5_166] ep_ (0,0))],r3_166,r4_166]) _ _ (upd _ 134 (.agg #[.string z164.key,.slice A171 z164.vers.length c172]))
       refine ab ?_
       refine WH.next (bk_ hl168 h0159 (.cons _ (.cons _ (.cons _ .slnil)))) ?_
       refine ai (i:=10) (by kernel_rfl) rfl ?_
       obtain⟨z174,hz175,h⟩:=bnd h
       refine e_call (is:=[]) rfl rfl (call_run Tryz.call40 rfl rfl (by kernel_rfl)) rfl (λw hp=>t_firthref10_With (ho6_166.mono hl168) ho5_166 z164 hr173 hp hz175) ?_
       rintro Γ176 U178 v179 hl177 ⟨A180,c181,row182,rfl,rfl,hr183,_⟩
       change WR _ _ _ (CC F Γ176 [row182,[(gp_,.cells #[.int .i64 o148.id,.slice A1_166 o148.own.length c1_166,.bool o148.begun,.slice A3_166 o148.vec.length c3_166,.slice A4_166 o148.paths.length c4_166,.slice A5_166 o148.in_.length c5_166] ep_ (0,0))],r3_166,r4_166]) _ _ (upd _ 135 (.slice A180 z174.length c181))
       refine ab ?_
       refine WH.next (bk_ (hl168.trans hl177) h0159 (.cons _ (.cons _ (.cons _ (.cons _ .slnil))))) ?_
       refine hu 11 rfl (bk_ (hl168.trans hl177) h0159 (.cons _ (.cons _ (.cons _ (.cons _ .slnil))))) (q_nil (A:=some ⟨gp_,0,none⟩) rfl rfl rfl) ?_
       refine hu 12 rfl (bk_ (hl168.trans hl177) h0159 (.cons _ (.cons _ (.cons _ (.cons _ .slnil))))) (q_fl 5 fld_59_5 rfl rfl rfl) ?_
       refine ai (i:=13) (by kernel_rfl) rfl ?_
       refine e_st (i:=1) (v:=.slice A180 z174.length c181) (new:=#[.int .i64 o148.id,.slice A1_166 o148.own.length c1_166,.bool o148.begun,.slice A3_166 o148.vec.length c3_166,.slice A4_166 o148.paths.length c4_166,.slice A180 z174.length c181]) rfl Tryz.sizeOf23 rfl rfl rfl rfl (by kernel_rfl) rfl rfl rfl rfl ?_
       refine ab ?_
       refine WH.next (bk_ (hl168.trans hl177) h0159 (.cons _ (.cons _ (.cons _ (.cons _ .slnil))))) ?_
       refine au (by kernel_rfl) ?_
       change WC _ _ _ _ _ _
       refine ah ?_
       refine mv (v:=.int .i64 i_146) ?_
       refine vb (q_add rfl rfl rfl) ?_
       refine as_ (v:=.int .i64 (w64 (i_146+1))) ?_
       refine ab ?_
       intro w hw
       have hc188:=hr183.capz
       obtain⟨Γ184,hw,hl185,hr186⟩:=hw.seal (i:=0) rfl; have hs187:=hr183.sl hl185 hr186
       obtain⟨row_189,hrow_189,hob_189⟩:∃rw:Rowb,rw=([[(gp_,.cells #[.int .i64 o148.id,.slice A1_166 o148.own.length c1_166,.bool o148.begun,.slice A3_166 o148.vec.length c3_166,.slice A4_166 o148.paths.length c4_166,.slice A180 z174.length c181] ep_ (0,0))],r3_166,r4_166]:List Rowb).flatten∧Ofirthref19_Pull.ob ep_ Γ184 gp_ rw (⟨o148.id,o148.own,o148.begun,o148.vec,o148.paths,z174⟩:Ofirthref19_Pull):=⟨_,rfl,A1_166,c1_166,A3_166,c3_166,r3_166,A4_166,c4_166,r4_166,A180,c181,rfl,ho0_166,ho1_166,(ho2_166.mono ((hl168.trans hl177).trans hl185)),(ho3_166.mono ((hl168.trans hl177).trans hl185)),(ho4_166.mono ((hl168.trans hl177).trans hl185)),hc188,hs187,trivial⟩
       have hw:=hw.fold (is:=[1,1,1]) rfl hrow_189
       exact⟨((w64 (i_146+1)),(⟨o148.id,o148.own,o148.begun,o148.vec,o148.paths,z174⟩:Ofirthref19_Pull)),h,Γ184,row_189,(sl_ (by kernel_rfl)),(hw.only (is:=[0]) rfl),(((hl145.trans hl168).trans hl177).trans hl185),(w64_r _),hob_189,trivial⟩
      ·
       refine⟨_,rfl,?_⟩
       refine e_call (is:=[]) rfl rfl (call_run Tryz.call42 rfl rfl (by kernel_rfl)) rfl (λw hp=>t_firthref10_Own (gt list i_146.toNat) (hx163 (inb_lt hk160)).1 hp hz165) ?_
       rintro Γ166 U168 v169 hl167 ⟨A170,c171,rfl,rfl,hr172,_⟩
       change WR _ _ _ (CC F Γ166 [row149]) _ _ (upd _ 134 (.agg #[.string z164.key,.slice A170 z164.vers.length c171]))
       refine ab ?_
       refine WH.next (bk_ hl167 h0159 (.cons _ .slnil)) ?_
       refine ai (i:=4) (by kernel_rfl) rfl ?_
       have hq:=(ho150.mono hl167)
       obtain⟨A1_173,c1_173,A3_173,c3_173,r3_173,A4_173,c4_173,r4_173,A5_173,c5_173,hrow_173,ho0_173,ho1_173,ho2_173,ho3_173,ho4_173,ho5_173,ho6_173,-⟩:=hq
       intro w hw; have hw:=hw.unfold (i:=0) rfl hrow_173
       refine ao (C:=CC F Γ166 [[(gp_,.cells #[.int .i64 o148.id,.slice A1_173 o148.own.length c1_173,.bool o148.begun,.slice A3_173 o148.vec.length c3_173,.slice A4_173 o148.paths.length c4_173,.slice A5_173 o148.in_.length c5_173] ep_ (0,0))],r3_173,r4_173]) ?_ hw
       clear hw
       refine vb (q_ldl (i:=0) (v:=.slice A5_173 o148.in_.length c5_173) rfl rfl Tryz.isAgg23 rfl rfl) ?_
       refine ab ?_
       refine WH.next (bk_ hl167 h0159 (.cons _ (.cons _ (.cons _ .slnil)))) ?_
       refine ai (i:=10) (by kernel_rfl) rfl ?_
       obtain⟨z174,hz175,h⟩:=bnd h
       refine e_call (is:=[]) rfl rfl (call_run Tryz.call40 rfl rfl (by kernel_rfl)) rfl (λw hp=>t_firthref10_With ho6_173 ho5_173 z164 hr172 hp hz175) ?_
       rintro Γ176 U178 v179 hl177 ⟨A180,c181,row182,rfl,rfl,hr183,_⟩
       change WR _ _ _ (CC F Γ176 [row182,[(gp_,.cells #[.int .i64 o148.id,.slice A1_173 o148.own.length c1_173,.bool o148.begun,.slice A3_173 o148.vec.length c3_173,.slice A4_173 o148.paths.length c4_173,.slice A5_173 o148.in_.length c5_173] ep_ (0,0))],r3_173,r4_173]) _ _ (upd _ 135 (.slice A180 z174.length c181))
       refine ab ?_
       refine WH.next (bk_ (hl167.trans hl177) h0159 (.cons _ (.cons _ (.cons _ (.cons _ .slnil))))) ?_
       refine hu 11 rfl (bk_ (hl167.trans hl177) h0159 (.cons _ (.cons _ (.cons _ (.cons _ .slnil))))) (q_nil (A:=some ⟨gp_,0,none⟩) rfl rfl rfl) ?_
       refine hu 12 rfl (bk_ (hl167.trans hl177) h0159 (.cons _ (.cons _ (.cons _ (.cons _ .slnil))))) (q_fl 5 fld_59_5 rfl rfl rfl) ?_
       refine ai (i:=13) (by kernel_rfl) rfl ?_
       refine e_st (i:=1) (v:=.slice A180 z174.length c181) (new:=#[.int .i64 o148.id,.slice A1_173 o148.own.length c1_173,.bool o148.begun,.slice A3_173 o148.vec.length c3_173,.slice A4_173 o148.paths.length c4_173,.slice A180 z174.length c181]) rfl Tryz.sizeOf23 rfl rfl rfl rfl (by kernel_rfl) rfl rfl rfl rfl ?_
       refine ab ?_
       refine WH.next (bk_ (hl167.trans hl177) h0159 (.cons _ (.cons _ (.cons _ (.cons _ .slnil))))) ?_
       refine au (by kernel_rfl) ?_
       change WC _ _ _ _ _ _
       refine ah ?_
       refine mv (v:=.int .i64 i_146) ?_
       refine vb (q_add rfl rfl rfl) ?_
       refine as_ (v:=.int .i64 (w64 (i_146+1))) ?_
       refine ab ?_
       intro w hw
       have hc188:=hr183.capz
       obtain⟨Γ184,hw,hl185,hr186⟩:=hw.seal (i:=0) rfl; have hs187:=hr183.sl hl185 hr186
       obtain⟨row_189,hrow_189,hob_189⟩:∃rw:Rowb,rw=([[(gp_,.cells #[.int .i64 o148.id,.slice A1_173 o148.own.length c1_173,.bool o148.begun,.slice A3_173 o148.vec.length c3_173,.slice A4_173 o148.paths.length c4_173,.slice A180 z174.length c181] ep_ (0,0))],r3_173,r4_173]:List Rowb).flatten∧Ofirthref19_Pull.ob ep_ Γ184 gp_ rw (⟨o148.id,o148.own,o148.begun,o148.vec,o148.paths,z174⟩:Ofirthref19_Pull):=⟨_,rfl,A1_173,c1_173,A3_173,c3_173,r3_173,A4_173,c4_173,r4_173,A180,c181,rfl,ho0_173,ho1_173,(ho2_173.mono (hl177.trans hl185)),(ho3_173.mono (hl177.trans hl185)),(ho4_173.mono (hl177.trans hl185)),hc188,hs187,trivial⟩
       have hw:=hw.fold (is:=[1,1,1]) rfl hrow_189
       exact⟨((w64 (i_146+1)),(⟨o148.id,o148.own,o148.begun,o148.vec,o148.paths,z174⟩:Ofirthref19_Pull)),h,Γ184,row_189,(sl_ (by kernel_rfl)),(hw.only (is:=[0]) rfl),(((hl145.trans hl167).trans hl177).trans hl185),(w64_r _),hob_189,trivial⟩
     ·
      refine am ?_
      change WC _ _ _ _ _ _
      refine a7 ?_
      refine as_ (v:=.bool true) ?_
      refine a6 ?_
      refine ac ?_
      intro w hw
      cases h
      subst hF
      exact end_e (is:=[0]) (by kernel_rfl) hw rfl ⟨row149,rfl,rfl,ho150,trivial⟩
theorem t_firthref19_Pull_Done{Γ:Gh}{w0:World}{gp_ ep_:Nat}{rowp_:Rowb}{p_:Ofirthref19_Pull}(hp_:Ofirthref19_Pull.ob ep_ Γ gp_ rowp_ p_)(hp_r:∀p∈rowp_,Γ p.1=some p.2)(hs:Sat Γ w0){r:Bool}(h:m_firthref19_Pull_Done p_=some r):Calls Tryz.prog 29 #[(pq gp_)] w0 (λe w'=>e = .returned (.bool r)∧Fr no w0 w'):=by
 refine calls_of (N:=15) (rs:=[2]) (args:=[(pq gp_)]) Tryz.func29 rfl Tryz.ntmps29 Tryz.results29 rfl ?_
 obtain⟨F,hF⟩:∃F:Fm,F=⟨no,w0,Γ⟩:=⟨_,rfl⟩
 refine aa (C:=CC F Γ []) ?_ (hF▸Cur.start0 hs)
 refine a7 ?_
 refine as_ (v:=.bool false) ?_
 refine a6 ?_
 refine a7 ?_
 refine mv (v:=(pq gp_)) ?_
 refine vb (q_nil (A:=some ⟨gp_,0,none⟩) rfl rfl rfl) ?_
 refine vb (q_fl 2 fld_59_2 rfl rfl rfl) ?_
 have hq:=hp_
 obtain⟨A1_1,c1_1,A3_1,c3_1,r3_1,A4_1,c4_1,r4_1,A5_1,c5_1,hrow_1,ho0_1,ho1_1,ho2_1,ho3_1,ho4_1,ho5_1,ho6_1,-⟩:=hq
 have hg_2:∀u∈([[(gp_,.cells #[.int .i64 p_.id,.slice A1_1 p_.own.length c1_1,.bool p_.begun,.slice A3_1 p_.vec.length c3_1,.slice A4_1 p_.paths.length c4_1,.slice A5_1 p_.in_.length c5_1] ep_ (0,0))],r3_1,r4_1]:List Rowb), ∀p∈u,Γ p.1=some p.2:=λu hu p hp=>(λp hp=>(hp_r p hp)) p (hrow_1▸List.mem_flatten.2 ⟨u,hu,hp⟩)
 have hgc3:=hg_2 _ (List.mem_cons_self ..) (gp_,_) (List.mem_singleton.2 rfl)
 have hgs4:=hg_2 r3_1 (by simp)
 have hgs5:=hg_2 r4_1 (by simp)
 have hs6:=ho3_1.sl (Gh.refl _) hgs4
 have hs7:=ho4_1.sl (Gh.refl _) hgs5
 refine vb (q_ldg (v:=.bool p_.begun) hgc3 rfl Tryz.isAgg4 rfl rfl) ?_
 refine mv (v:=.bool p_.begun) ?_
 refine vg1 rfl rfl rfl rfl rfl (λhg8=>QV.qo (q_move (v:=(pq gp_)) rfl (by kernel_rfl))) ?_
 refine vg1 rfl rfl rfl rfl rfl (λhg9=>QV.qo (q_nil (A:=some ⟨gp_,0,none⟩) rfl (gu hg9 rfl) rfl)) ?_
 refine vg1 rfl rfl rfl rfl rfl (λhg10=>QV.qo (q_fl 4 fld_59_4 rfl (gu hg10 rfl) rfl)) ?_
 refine vg1 rfl rfl rfl rfl rfl (λhg11=>QV.qo (q_ldg (v:=.slice A4_1 p_.paths.length c4_1) hgc3 rfl Tryz.isAgg57 (gu hg11 rfl) rfl)) ?_
 refine vg1 rfl rfl rfl rfl rfl (λhg12=>QV.qo (q_len_slice rfl Tryz.underlying57 (gu hg12 rfl))) ?_
 refine vg1 rfl rfl rfl rfl rfl (λhg13=>QV.qo (q_eql rfl (gu hg13 rfl) rfl)) ?_
 refine vb (q_pick rfl rfl (pk_and' (g:=p_.begun) (y:=(((p_.paths.length:Nat):Int)==0)))) ?_
 refine as_ (v:=.bool (p_.begun&&(((p_.paths.length:Nat):Int)==0))) ?_
 refine a6 ?_
 refine ac ?_
 intro w hw
 cases h
 subst hF
 exact⟨by kernel_rfl,hw.fr⟩
theorem t_firthlaw19_paths{Γ:Gh}{w0:World}{Aa:Option Addr}{ca:Nat}{a:List (List Int)}(ha:Sl (slT intT) Γ Aa a)(hac:a.length≤ca){Ab:Option Addr}{cb:Nat}{b:List (List Int)}(hb:Sl (slT intT) Γ Ab b)(hbc:b.length≤cb)(hs:Sat Γ w0){r:Bool}(h:m_firthlaw19_paths a b=some r):Calls Tryz.prog 30 #[.slice Aa a.length ca,.slice Ab b.length cb] w0 (λe w'=>e = .returned (.bool r)∧Fr no w0 w'):=by
 refine calls_of (N:=27) (rs:=[4]) (args:=[.slice Aa a.length ca,.slice Ab b.length cb]) Tryz.func30 rfl Tryz.ntmps30 Tryz.results30 rfl ?_
 obtain⟨F,hF⟩:∃F:Fm,F=⟨no,w0,Γ⟩:=⟨_,rfl⟩
 refine aa (C:=CC F Γ []) ?_ (hF▸Cur.start0 hs)
 refine a7 ?_
 refine as_ (v:=.bool false) ?_
 refine a6 ?_
 refine a8 ?_
 refine a7 ?_
 refine mv (v:=.slice Aa a.length ca) ?_
 refine vb (q_len_slice rfl Tryz.underlying57 rfl) ?_
 refine mv (v:=.slice Ab b.length cb) ?_
 refine vb (q_len_slice rfl Tryz.underlying57 rfl) ?_
 refine vb (q_neq rfl rfl rfl) ?_
 refine a6 ?_
 refine aj h (by kernel_rfl) (λhb1 h=>?_) (λhb1 h=>?_)
 ·
  refine a7 ?_
  refine as_ (v:=.bool false) ?_
  refine a6 ?_
  refine ac ?_
  intro w hw
  cases h
  subst hF
  exact⟨by kernel_rfl,hw.fr⟩
 ·
  refine ae ?_
  change WC _ _ _ _ _ _
  refine a8 ?_
  refine a7 ?_
  refine as_ (v:=.int .i64 0) ?_
  refine a6 ?_
  refine af ?_
  refine ap h (λ(i3:Nat) (s:Unit) σ w=>match s with | ()=>slots σ [(0,.slice Aa a.length ca),(1,.slice Ab b.length cb),(5,.int .i64 ((i3:Nat):Int))]∧CC F Γ [] w∧True) ?_ ?_
  ·
   intro w hw
   exact⟨(sl_ (by kernel_rfl)),hw,trivial⟩
  rintro f2 i3 ⟨⟩ σ w hi4 hlt5 hge6 ⟨hsl,hw,-⟩
  refine Wpt.slots hsl ?_
  refine aa (C:=CC F Γ []) ?_ hw
  clear hw hsl
  refine a8 ?_
  refine a7 ?_
  refine mv (v:=.int .i64 ((i3:Nat):Int)) ?_
  refine mv (v:=.slice Aa a.length ca) ?_
  refine vb (q_len_slice rfl Tryz.underlying57 rfl) ?_
  refine vb (q_lss rfl rfl rfl) ?_
  refine a6 ?_
  refine WC.cond (b:=(decide (((i3:Nat):Int)<((a.length:Nat):Int)))) (by kernel_rfl) (λhb7=>?_) (λhb7=>?_)
  ·
   have hl8:=ilt hb7
   have h:=hlt5 hl8
   refine ae ?_
   change WC _ _ _ _ _ _
   refine a8 ?_
   refine af ?_
   refine a8 ?_
   refine ay (by kernel_rfl) (by kernel_rfl) (λw hw=>hw.drawn _) ?_
   refine wa rfl rfl rfl (q_move (v:=.slice Aa a.length ca) rfl (by kernel_rfl)) ?_
   refine wa rfl rfl rfl (q_move (v:=.int .i64 ((i3:Nat):Int)) rfl (by kernel_rfl)) ?_
   refine wa rfl rfl rfl (q_ixn (i:=i3) Tryz.underlying57 Tryz.sizeOf24 rfl rfl rfl hl8 (ha.some_ hl8)) ?_
   obtain⟨A9,c10,hx11⟩:=ha.slT_at i3
   refine wa rfl rfl rfl (q_ld (c:=0) (v:=.slice A9 (gt a i3).length c10) (hx11 hl8).2 rfl Tryz.isAgg24 rfl rfl) ?_
   refine wa rfl rfl rfl (q_move (v:=.slice Ab b.length cb) rfl (by kernel_rfl)) ?_
   refine wa rfl rfl rfl (q_move (v:=.int .i64 ((i3:Nat):Int)) rfl (by kernel_rfl)) ?_
   obtain⟨hk12,h⟩:=chk_some h
   refine wa rfl rfl rfl (q_ixn (i:=i3) Tryz.underlying57 Tryz.sizeOf24 rfl rfl rfl (of_decide_eq_true hk12) (hb.some_ (of_decide_eq_true hk12))) ?_
   obtain⟨A13,c14,hx15⟩:=hb.slT_at i3
   refine wa rfl rfl rfl (q_ld (c:=0) (v:=.slice A13 (gt b i3).length c14) (hx15 (of_decide_eq_true hk12)).2 rfl Tryz.isAgg24 rfl rfl) ?_
   obtain⟨z16,hz17,h⟩:=bnd h
   refine wc rfl rfl rfl (q_call (call_run Tryz.call41 rfl rfl (by kernel_rfl)) (λw hw=>t_firthref06_Ints (Γ:=Gh.all w) ((hx11 hl8).1.2.mono hw.sat.le_all) (hx11 hl8).1.1 ((hx15 (of_decide_eq_true hk12)).1.2.mono hw.sat.le_all) (hx15 (of_decide_eq_true hk12)).1.1 (Sat.all w) hz17)) ?_
   refine wa rfl rfl rfl (q_not rfl rfl) ?_
   refine aw ?_
   change WC _ _ _ _ _ _
   refine aj h (by kernel_rfl) (λhb18 h=>?_) (λhb18 h=>?_)
   ·
    refine a7 ?_
    refine as_ (v:=.bool false) ?_
    refine a6 ?_
    refine ac ?_
    intro w hw
    cases h
    subst hF
    exact⟨by kernel_rfl,hw.fr⟩
   ·
    refine ae ?_
    change WC _ _ _ _ _ _
    refine ah ?_
    refine mv (v:=.int .i64 ((i3:Nat):Int)) ?_
    refine vb (q_add_r (r:=((i3+1:Nat):Int)) rfl rfl rfl (ctr_len hl8 ha.le)) ?_
    refine as_ (v:=.int .i64 ((i3+1:Nat):Int)) ?_
    exact ab λw hw=>⟨hl8,(),h,(sl_ (by kernel_rfl)),hw,trivial⟩
  ·
   have h:=hge6 (ige hb7)
   refine am ?_
   change WC _ _ _ _ _ _
   refine a7 ?_
   refine as_ (v:=.bool true) ?_
   refine a6 ?_
   refine ac ?_
   intro w hw
   cases h
   subst hF
   exact⟨by kernel_rfl,hw.fr⟩
theorem t_firthlaw19_PullPlays{Γ:Gh}{w0:World}{Aown:Option Addr}{cown:Nat}{own:List Rec}(hown:Sl recT Γ Aown own)(hownc:own.length≤cown){Acut:Option Addr}{ccut:Nat}{cut:List Rec}(hcut:Sl recT Γ Acut cut)(hcutc:cut.length≤ccut){Ascript:Option Addr}{cscript:Nat}{script:List Dfirthlaw19_Op}(hscript:Sl dfirthlaw19_OpT Γ Ascript script)(hscriptc:script.length≤cscript)(hs:Sat Γ w0){r:Bool}(h:m_firthlaw19_PullPlays own cut script=some r):Calls Tryz.prog 4 #[.slice Aown own.length cown,.slice Acut cut.length ccut,.slice Ascript script.length cscript] w0 (λe w'=>e = .returned (.bool r)∧Fr no w0 w'):=by
 refine calls_of (N:=206) (rs:=[6]) (args:=[.slice Aown own.length cown,.slice Acut cut.length ccut,.slice Ascript script.length cscript]) Tryz.func4 rfl Tryz.ntmps4 Tryz.results4 rfl ?_
 obtain⟨F,hF⟩:∃F:Fm,F=⟨no,w0,Γ⟩:=⟨_,rfl⟩
 refine aa (C:=CC F Γ []) ?_ (hF▸Cur.start0 hs)
 refine a7 ?_
 refine as_ (v:=.bool false) ?_
 refine a6 ?_
 refine a7 ?_
 refine mv (v:=.slice Aown own.length cown) ?_
 obtain⟨z1,hz2,h⟩:=bnd h
 refine e_call (is:=[]) rfl rfl (call_run Tryz.call22 rfl rfl (by kernel_rfl)) rfl (λw hp=>t_pull_NewPull 5 (show I64 5 by decide) hown hownc hp hz2) ?_
 rintro Γ3 U5 v6 hl4 ⟨g7,row8,rfl,rfl,hr9,hr10,_⟩
 change WR _ _ _ (CC F Γ3 [row8]) _ _ (upd _ 22 (.tuple #[optp z1.1 g7,.int .i64 z1.2]))
 refine mv (v:=.tuple #[optp z1.1 g7,.int .i64 z1.2]) ?_
 refine vb (q_extract (v:=optp z1.1 g7) rfl rfl rfl) ?_
 refine vb (q_extract (v:=.int .i64 z1.2) rfl rfl rfl) ?_
 refine as_ (v:=optp z1.1 g7) ?_
 refine as_ (v:=.int .i64 z1.2) ?_
 refine a6 ?_
 refine a7 ?_
 refine mv (v:=.slice Aown own.length cown) ?_
 obtain⟨z11,hz12,h⟩:=bnd h
 refine e_call (is:=[]) rfl rfl (call_run Tryz.call23 rfl rfl (by kernel_rfl)) rfl (λw hp=>t_firthref19_NewPull 5 (show I64 5 by decide) (hown.mono hl4) hownc hp hz12) ?_
 rintro Γ13 U15 v16 hl14 ⟨g17,row18,rfl,rfl,hr19,hr20,_⟩
 change WR _ _ _ (CC F Γ13 [row18,row8]) _ _ (upd _ 27 (.tuple #[optp z11.1 g17,.int .i64 z11.2]))
 refine mv (v:=.tuple #[optp z11.1 g17,.int .i64 z11.2]) ?_
 refine vb (q_extract (v:=optp z11.1 g17) rfl rfl rfl) ?_
 refine vb (q_extract (v:=.int .i64 z11.2) rfl rfl rfl) ?_
 refine as_ (v:=optp z11.1 g17) ?_
 refine as_ (v:=.int .i64 z11.2) ?_
 refine a6 ?_
 refine a8 ?_
 refine a7 ?_
 obtain⟨z21,hz22,h⟩:=bnd h
 refine vc rfl rfl rfl (q_call (call_run Tryz.call12 rfl rfl (by kernel_rfl)) (λw hw=>t_firthlaw19_awake (Γ:=Gh.all w)  (Sat.all w) hz22)) ?_
 refine vb (q_not rfl rfl) ?_
 refine mv (v:=.bool (!z21)) ?_
 refine vg0 rfl rfl rfl rfl rfl (λhg23=>QV.qo (q_move (v:=.int .i64 z1.2) rfl (by kernel_rfl))) ?_
 refine vg0 rfl rfl rfl rfl rfl (λhg24=>QV.qo (q_move (v:=.int .i64 z11.2) rfl (by kernel_rfl))) ?_
 refine vg0 rfl rfl rfl rfl rfl (λhg25=>QV.qo (q_neq rfl (gu hg25 rfl) (gu hg25 rfl))) ?_
 refine vb (q_pick rfl rfl (pk_or' (g:=(!z21)) (y:=(z1.2 != z11.2)))) ?_
 refine mv (v:=.bool ((!z21)||(z1.2 != z11.2))) ?_
 refine vg0 rfl rfl rfl rfl rfl (λhg26=>QV.qo (q_move (v:=optp z1.1 g7) rfl (by kernel_rfl))) ?_
 refine vg0 rfl rfl rfl rfl rfl (λhg27=>QV.qo (q_opt_eql Tryz.underlying47 rfl (gu hg27 rfl) rfl)) ?_
 refine vg0 rfl rfl rfl rfl rfl (λhg28=>QV.qo (q_move (v:=optp z11.1 g17) rfl (by kernel_rfl))) ?_
 refine vg0 rfl rfl rfl rfl rfl (λhg29=>QV.qo (q_opt_eql Tryz.underlying50 rfl (gu hg29 rfl) rfl)) ?_
 refine vg0 rfl rfl rfl rfl rfl (λhg30=>QV.qo (q_bneq Tryz.underlying4 rfl (gu hg30 rfl) (gu hg30 rfl))) ?_
 refine vb (q_pick rfl rfl (pk_or' (g:=((!z21)||(z1.2 != z11.2))) (y:=((Option.isNone z1.1) != (Option.isNone z11.1))))) ?_
 refine a6 ?_
 refine aj h (by kernel_rfl) (λhb31 h=>?_) (λhb31 h=>?_)
 ·
  refine a7 ?_
  refine as_ (v:=.bool false) ?_
  refine a6 ?_
  refine ac ?_
  intro w hw
  cases h
  subst hF
  exact⟨by kernel_rfl,hw.fr⟩
 ·
  refine ae ?_
  change WC _ _ _ _ _ _
  refine a7 ?_
  refine e_buildSlice (cs:=#[.int .i64 1]) (e:=2) rfl rfl rfl rfl (λw=>by kernel_rfl) ?_
  intro g32
  refine mv (v:=.slice Acut cut.length ccut) ?_
  have ho33:Own intT Γ13 2 [(g32,.cells #[.int .i64 1] 2 (0,0))] (some ⟨g32,0,none⟩) 1 [1]:=aq (T:=intT) (ys:=[1]) [[.int .i64 1]] rfl (show 1≤lim by decide) (show Ty.rd intT Γ13 [.int .i64 1] 1∧True from ⟨⟨rfl,(show I64 1 by decide)⟩,trivial⟩)
  have hc38:=ho33.capz
  intro w hw; obtain⟨Γ34,hw,hl35,hr36⟩:=hw.seal (i:=0) rfl; have hs37:=ho33.sl hl35 hr36
  refine ao (C:=CC F Γ34 [[],row18,row8]) ?_ hw
  clear hw
  obtain⟨z39,hz40,h⟩:=bnd h
  refine e_call (is:=[]) rfl rfl (call_run Tryz.call11 rfl rfl (by kernel_rfl)) rfl (λw hp=>t_firthref19_NewCut 5 (show I64 5 by decide) hs37 hc38 (hcut.mono ((hl4.trans hl14).trans hl35)) hcutc hp hz40) ?_
  rintro Γ41 U43 v44 hl42 ⟨g45,row46,rfl,rfl,hr47,hr48,_⟩
  change WR _ _ _ (CC F Γ41 [row46,[],row18,row8]) _ _ (upd _ 47 (.tuple #[optp z39.1 g45,.int .i64 z39.2]))
  refine mv (v:=.tuple #[optp z39.1 g45,.int .i64 z39.2]) ?_
  refine vb (q_extract (v:=optp z39.1 g45) rfl rfl rfl) ?_
  refine vb (q_extract (v:=.int .i64 z39.2) rfl rfl rfl) ?_
  refine as_ (v:=optp z39.1 g45) ?_
  refine as_ (v:=.int .i64 z39.2) ?_
  refine a6 ?_
  refine a8 ?_
  refine a7 ?_
  refine mv (v:=optp z1.1 g7) ?_
  refine vb (q_opt_eql Tryz.underlying47 rfl rfl rfl) ?_
  refine mv (v:=.bool (Option.isNone z1.1)) ?_
  refine vg0 rfl rfl rfl rfl rfl (λhg49=>QV.qo (q_move (v:=optp z11.1 g17) rfl (by kernel_rfl))) ?_
  refine vg0 rfl rfl rfl rfl rfl (λhg50=>QV.qo (q_opt_eql Tryz.underlying50 rfl (gu hg50 rfl) rfl)) ?_
  refine vb (q_pick rfl rfl (pk_or' (g:=(Option.isNone z1.1)) (y:=(Option.isNone z11.1)))) ?_
  refine mv (v:=.bool ((Option.isNone z1.1)||(Option.isNone z11.1))) ?_
  refine vg0 rfl rfl rfl rfl rfl (λhg51=>QV.qo (q_move (v:=optp z39.1 g45) rfl (by kernel_rfl))) ?_
  refine vg0 rfl rfl rfl rfl rfl (λhg52=>QV.qo (q_opt_eql Tryz.underlying29 rfl (gu hg52 rfl) rfl)) ?_
  refine vb (q_pick rfl rfl (pk_or' (g:=((Option.isNone z1.1)||(Option.isNone z11.1))) (y:=(Option.isNone z39.1)))) ?_
  refine a6 ?_
  refine aj h (by kernel_rfl) (λhb53 h=>?_) (λhb53 h=>?_)
  ·
   refine a7 ?_
   refine as_ (v:=.bool true) ?_
   refine a6 ?_
   refine ac ?_
   intro w hw
   cases h
   subst hF
   exact⟨by kernel_rfl,hw.fr⟩
  ·
   obtain⟨z54,hz55,h⟩:=bnd h
   have ho56:=optob_some hr47 hz55
   obtain⟨z57,hz58,h⟩:=bnd h
   have ho59:=optob_some (optob_mono hr19 (λ_ h=>h.mono (hl35.trans hl42))) hz58
   obtain⟨z60,hz61,h⟩:=bnd h
   have ho62:=optob_some (optob_mono hr9 (λ_ h=>h.mono ((hl14.trans hl35).trans hl42))) hz61
   refine ae ?_
   change WC _ _ _ _ _ _
   refine a8 ?_
   refine a7 ?_
   refine as_ (v:=.int .i64 0) ?_
   refine a6 ?_
   refine af ?_
   refine ap h (λ(i72:Nat) (s:Ofirthref19_Pull×Opull_Pull) σ w=>match s with | (o65,o68) => ∃(Γ63:Gh), ∃(row66:Rowb), ∃(row69:Rowb),slots σ [(2,.slice Ascript script.length cscript),(7,optp z1.1 g7),(9,optp z11.1 g17),(11,optp z39.1 g45),(13,.int .i64 ((i72:Nat):Int))]∧CC F Γ63 [row46,row66,row69] w∧Gh.le Γ41 Γ63∧Ofirthref19_Pull.ob 59 Γ63 g17 row66 o65∧Opull_Pull.ob 97 Γ63 g7 row69 o68∧True) ?_ ?_
   ·
    intro w hw
    exact⟨Γ41,row18,row8,(sl_ (by kernel_rfl)),(hw.only (is:=[0,1,1]) rfl),(Gh.refl _),ho59,ho62,trivial⟩
   rintro f71 i72 ⟨o65,o68⟩ σ w hi73 hlt74 hge75 ⟨Γ63,row66,row69,hsl,hw,hl64,ho67,ho70,-⟩
   refine Wpt.slots hsl ?_
   refine aa (C:=CC F Γ63 [row46,row66,row69]) ?_ hw
   clear hw hsl
   refine a8 ?_
   refine a7 ?_
   refine mv (v:=.int .i64 ((i72:Nat):Int)) ?_
   refine mv (v:=.slice Ascript script.length cscript) ?_
   refine vb (q_len_slice rfl Tryz.underlying46 rfl) ?_
   refine vb (q_lss rfl rfl rfl) ?_
   refine a6 ?_
   refine WC.cond (b:=(decide (((i72:Nat):Int)<((script.length:Nat):Int)))) (by kernel_rfl) (λhb76=>?_) (λhb76=>?_)
   ·
    have hl77:=ilt hb76
    have h:=hlt74 hl77
    refine ae ?_
    change WC _ _ _ _ _ _
    refine a8 ?_
    refine af ?_
    refine a7 ?_
    refine mv (v:=.slice Ascript script.length cscript) ?_
    refine mv (v:=.int .i64 ((i72:Nat):Int)) ?_
    refine vb (q_ixn (i:=i72) Tryz.underlying46 Tryz.sizeOf54 rfl rfl rfl hl77 ((hscript.mono ((((hl4.trans hl14).trans hl35).trans hl42).trans hl64)).some_ hl77)) ?_
    obtain⟨A78,c79,A80,c81,A82,c83,A84,c85,hx86⟩:=(hscript.mono ((((hl4.trans hl14).trans hl35).trans hl42).trans hl64)).dfirthlaw19_OpT_at i72
    refine vb (q_lda (c:=0) (vs:=[.int .i64 (gt script i72).kind,.slice A78 ((gt script i72).vec).length c79,.slice A80 ((gt script i72).path).length c81,.slice A82 ((gt script i72).hashes).length c83,.slice A84 ((gt script i72).list).length c85]) (hx86 hl77).2 rfl Tryz.isAgg54 Tryz.sizeOf54 rfl rfl rfl) ?_
    refine e_alloc Tryz.zeroValue54 rfl rfl rfl rfl ?_
    intro g87
    refine e_st (i:=0) (v:=.agg #[.int .i64 (gt script i72).kind,.slice A78 ((gt script i72).vec).length c79,.slice A80 ((gt script i72).path).length c81,.slice A82 ((gt script i72).hashes).length c83,.slice A84 ((gt script i72).list).length c85]) (new:=#[.int .i64 (gt script i72).kind,.slice A78 ((gt script i72).vec).length c79,.slice A80 ((gt script i72).path).length c81,.slice A82 ((gt script i72).hashes).length c83,.slice A84 ((gt script i72).list).length c85]) rfl Tryz.sizeOf54 rfl rfl rfl rfl (by kernel_rfl) rfl rfl rfl rfl ?_
    refine a6 ?_
    refine a8 ?_
    refine ax (λσ w => ∃(x_90:Bool), ∃(o91:Ofirthref19_Pull), ∃(o94:Opull_Pull), ∃(Γ88:Gh), ∃(row92:Rowb), ∃(row95:Rowb),m_firthlaw19_PullPlays_j20 script z54 f71 i72 x_90 o91 o94=some r∧slots σ [(2,.slice Ascript script.length cscript),(7,optp z1.1 g7),(9,optp z11.1 g17),(11,optp z39.1 g45),(13,.int .i64 ((i72:Nat):Int)),(14,(pq g87)),(87,.bool x_90)]∧CC F Γ88 [[(g87,.cells #[.int .i64 (gt script i72).kind,.slice A78 ((gt script i72).vec).length c79,.slice A80 ((gt script i72).path).length c81,.slice A82 ((gt script i72).hashes).length c83,.slice A84 ((gt script i72).list).length c85] 54 (0,0))],row46,row92,row95] w∧Gh.le Γ63 Γ88∧Ofirthref19_Pull.ob 59 Γ88 g17 row92 o91∧Opull_Pull.ob 97 Γ88 g7 row95 o94∧True) ?_ ?_
    ·
     intro w hw; have h097:=hw.le
     refine aa (C:=CC F Γ63 [[(g87,.cells #[.int .i64 (gt script i72).kind,.slice A78 ((gt script i72).vec).length c79,.slice A80 ((gt script i72).path).length c81,.slice A82 ((gt script i72).hashes).length c83,.slice A84 ((gt script i72).list).length c85] 54 (0,0))],row46,row66,row69]) ?_ hw; clear hw
     refine av (CC F Γ63 [[(g87,.cells #[.int .i64 (gt script i72).kind,.slice A78 ((gt script i72).vec).length c79,.slice A80 ((gt script i72).path).length c81,.slice A82 ((gt script i72).hashes).length c83,.slice A84 ((gt script i72).list).length c85] 54 (0,0))]]) (by kernel_rfl) (λw hw=>hw.drawn _) ?_
     change WH _ _ _ _ (CC F Γ63 [[(g87,.cells #[.int .i64 (gt script i72).kind,.slice A78 ((gt script i72).vec).length c79,.slice A80 ((gt script i72).path).length c81,.slice A82 ((gt script i72).hashes).length c83,.slice A84 ((gt script i72).list).length c85] 54 (0,0))],row46,row66,row69]) _ 18 #[false,false,false,false,false,false,false,false,false,false,false,false,false,false,false,false,false,false] _
     refine hu 0 rfl (bk_ (Gh.refl _) h097 (.cons_cons _ (.cons _ (.cons _ (.cons _ .slnil))))) (q_fl 0 fld_54_0 rfl rfl rfl) ?_
     refine hu 1 rfl (bk_ (Gh.refl _) h097 (.cons_cons _ (.cons _ (.cons _ (.cons _ .slnil))))) (q_ldl (i:=0) (v:=.int .i64 (gt script i72).kind) rfl rfl Tryz.isAgg3 rfl rfl) ?_
     refine hu 2 rfl (bk_ (Gh.refl _) h097 (.cons_cons _ (.cons _ (.cons _ (.cons _ .slnil))))) (q_eql rfl rfl rfl) ?_
     refine hu 3 rfl (bk_ (Gh.refl _) h097 (.cons_cons _ (.cons _ (.cons _ (.cons _ .slnil))))) (q_move (v:=.bool ((gt script i72).kind==1)) rfl (by kernel_rfl)) ?_
     refine hg1 (i:=4) rfl (by kernel_rfl) rfl rfl rfl rfl rfl (bk_ (Gh.refl _) h097 (.cons_cons _ (.cons _ (.cons _ (.cons _ .slnil))))) (λhg98=>(q_move (v:=(pq g7)) rfl (optp_some rfl hz61))) ?_
     refine hg1 (i:=5) rfl (by kernel_rfl) rfl rfl rfl rfl rfl (bk_ (Gh.refl _) h097 (.cons_cons _ (.cons _ (.cons _ (.cons _ .slnil))))) (λhg99=>(q_fl 1 fld_54_1 rfl rfl rfl)) ?_
     refine hg1 (i:=6) rfl (by kernel_rfl) rfl rfl rfl rfl rfl (bk_ (Gh.refl _) h097 (.cons_cons _ (.cons _ (.cons _ (.cons _ .slnil))))) (λhg100=>(q_ldl (i:=0) (v:=.slice A78 ((gt script i72).vec).length c79) rfl rfl Tryz.isAgg22 (gu hg100 rfl) rfl)) ?_
     refine hg1 (i:=7) rfl (by kernel_rfl) rfl rfl rfl rfl rfl (bk_ (Gh.refl _) h097 (.cons_cons _ (.cons _ (.cons _ (.cons _ .slnil))))) (λhg101=>(q_fl 3 fld_54_3 rfl rfl rfl)) ?_
     refine hg1 (i:=8) rfl (by kernel_rfl) rfl rfl rfl rfl rfl (bk_ (Gh.refl _) h097 (.cons_cons _ (.cons _ (.cons _ (.cons _ .slnil))))) (λhg102=>(q_ldl (i:=0) (v:=.slice A82 ((gt script i72).hashes).length c83) rfl rfl Tryz.isAgg33 (gu hg102 rfl) rfl)) ?_
     refine hg1 (i:=10) rfl (by kernel_rfl) rfl rfl rfl rfl rfl (bk_ (Gh.refl _) h097 (.cons_cons _ (.cons _ (.cons _ (.cons _ .slnil))))) (λhg103=>(q_move (v:=(pq g17)) rfl (optp_some rfl hz58))) ?_
     refine hg1 (i:=11) rfl (by kernel_rfl) rfl rfl rfl rfl rfl (bk_ (Gh.refl _) h097 (.cons_cons _ (.cons _ (.cons _ (.cons _ .slnil))))) (λhg104=>(q_fl 1 fld_54_1 rfl rfl rfl)) ?_
     refine hg1 (i:=12) rfl (by kernel_rfl) rfl rfl rfl rfl rfl (bk_ (Gh.refl _) h097 (.cons_cons _ (.cons _ (.cons _ (.cons _ .slnil))))) (λhg105=>(q_ldl (i:=0) (v:=.slice A78 ((gt script i72).vec).length c79) rfl rfl Tryz.isAgg22 (gu hg105 rfl) rfl)) ?_
     refine hg1 (i:=13) rfl (by kernel_rfl) rfl rfl rfl rfl rfl (bk_ (Gh.refl _) h097 (.cons_cons _ (.cons _ (.cons _ (.cons _ .slnil))))) (λhg106=>(q_fl 3 fld_54_3 rfl rfl rfl)) ?_
     refine hg1 (i:=14) rfl (by kernel_rfl) rfl rfl rfl rfl rfl (bk_ (Gh.refl _) h097 (.cons_cons _ (.cons _ (.cons _ (.cons _ .slnil))))) (λhg107=>(q_ldl (i:=0) (v:=.slice A82 ((gt script i72).hashes).length c83) rfl rfl Tryz.isAgg33 (gu hg107 rfl) rfl)) ?_
     refine(Bool.eq_false_or_eq_true ((gt script i72).kind==1)).elim (λhb108=>?_) (λhb108=>?_)
     ·
      have h:=bt hb108 h
      refine ai (i:=9) (by kernel_rfl) rfl ?_
      refine WR.sat (c0:=true) (g:=((gt script i72).kind==1)) rfl rfl rfl hb108 ?_
      obtain⟨z109,hz110,h⟩:=bnd h
      refine e_call (is:=[3]) rfl rfl (call_run Tryz.call24 rfl rfl (args3 (gu hb108 rfl) (gu hb108 rfl) (gu hb108 rfl))) rfl (λw hp=>t_pull_Pull_Begin ho70 (hx86 hl77).1.2.1.2 (hx86 hl77).1.2.1.1 (hx86 hl77).1.2.2.2.1.2 (hx86 hl77).1.2.2.2.1.1 hp hz110) ?_
      rintro Γ111 U113 v114 hl112 ⟨row115,rfl,rfl,hr116,_⟩
      change WR _ _ _ (CC F Γ111 [row115,[(g87,.cells #[.int .i64 (gt script i72).kind,.slice A78 ((gt script i72).vec).length c79,.slice A80 ((gt script i72).path).length c81,.slice A82 ((gt script i72).hashes).length c83,.slice A84 ((gt script i72).list).length c85] 54 (0,0))],row46,row66]) _ _ (upd _ 79 (.bool z109.2))
      refine ab ?_
      refine WH.next (bk_ hl112 h097 (.cons _ (.cons_cons _ (.cons _ (.cons _ .slnil))))) ?_
      refine ai (i:=15) (by kernel_rfl) rfl ?_
      refine WR.sat (c0:=true) (g:=((gt script i72).kind==1)) rfl rfl rfl hb108 ?_
      obtain⟨z117,hz118,h⟩:=bnd h
      refine e_call (is:=[3]) rfl rfl (call_run Tryz.call25 rfl rfl (args3 (gu hb108 rfl) (gu hb108 rfl) (gu hb108 rfl))) rfl (λw hp=>t_firthref19_Pull_Begin (ho67.mono hl112) ((hx86 hl77).1.2.1.2.mono hl112) (hx86 hl77).1.2.1.1 ((hx86 hl77).1.2.2.2.1.2.mono hl112) (hx86 hl77).1.2.2.2.1.1 hp hz118) ?_
      rintro Γ119 U121 v122 hl120 ⟨row123,rfl,rfl,hr124,_⟩
      change WR _ _ _ (CC F Γ119 [row123,row115,[(g87,.cells #[.int .i64 (gt script i72).kind,.slice A78 ((gt script i72).vec).length c79,.slice A80 ((gt script i72).path).length c81,.slice A82 ((gt script i72).hashes).length c83,.slice A84 ((gt script i72).list).length c85] 54 (0,0))],row46]) _ _ (upd _ 85 (.bool z117.2))
      refine ab ?_
      refine WH.next (bk_ (hl112.trans hl120) h097 (.cons _ (.cons _ (.cons_cons _ (.cons _ .slnil))))) ?_
      refine hg1 (i:=16) rfl (by kernel_rfl) rfl rfl rfl rfl rfl (bk_ (hl112.trans hl120) h097 (.cons _ (.cons _ (.cons_cons _ (.cons _ .slnil))))) (λhg125=>(q_bneq Tryz.underlying4 rfl rfl rfl)) ?_
      refine hu 17 rfl (bk_ (hl112.trans hl120) h097 (.cons _ (.cons _ (.cons_cons _ (.cons _ .slnil))))) (q_pick_t (v:=.bool (z109.2 != z117.2)) rfl rfl hb108 (gu hb108 rfl)) ?_
      refine au (by kernel_rfl) ?_
      intro w hw
      exact⟨(z109.2 != z117.2),z117.1,z109.1,Γ119,row123,row115,h,(sl_ (by kernel_rfl)),(hw.only (is:=[2,2,0,0]) rfl),(hl112.trans hl120),hr124,(hr116.mono hl120),trivial⟩
     ·
      have h:=bf hb108 h
      refine hg1 (g:=((gt script i72).kind==1)) (i:=9) (v:=undef) rfl (by kernel_rfl) rfl rfl rfl rfl rfl (bk_ (Gh.refl _) h097 (.cons_cons _ (.cons _ (.cons _ (.cons _ .slnil))))) (no_tf hb108) ?_
      refine ar (v:=undef) (gv_false hb108) ?_
      refine hg1 (g:=((gt script i72).kind==1)) (i:=15) (v:=undef) rfl (by kernel_rfl) rfl rfl rfl rfl rfl (bk_ (Gh.refl _) h097 (.cons_cons _ (.cons _ (.cons _ (.cons _ .slnil))))) (no_tf hb108) ?_
      refine ar (v:=undef) (gv_false hb108) ?_
      refine hg1 (g:=((gt script i72).kind==1)) (i:=16) (v:=undef) rfl (by kernel_rfl) rfl rfl rfl rfl rfl (bk_ (Gh.refl _) h097 (.cons_cons _ (.cons _ (.cons _ (.cons _ .slnil))))) (no_tf hb108) ?_
      refine ar (v:=undef) (gv_false hb108) ?_
      refine hu 17 rfl (bk_ (Gh.refl _) h097 (.cons_cons _ (.cons _ (.cons _ (.cons _ .slnil))))) (q_pick_f (v:=.bool false) rfl rfl hb108 (by kernel_rfl)) ?_
      refine au (by kernel_rfl) ?_
      intro w hw
      exact⟨false,o65,o68,Γ63,row66,row69,h,(sl_ (by kernel_rfl)),hw,(Gh.refl _),ho67,ho70,trivial⟩
    ·
     rintro σ w ⟨x_90,o91,o94,Γ88,row92,row95,h,hsl,hw,hl89,ho93,ho96,-⟩
     refine Wpt.slots hsl ?_
     refine aa (C:=CC F Γ88 [[(g87,.cells #[.int .i64 (gt script i72).kind,.slice A78 ((gt script i72).vec).length c79,.slice A80 ((gt script i72).path).length c81,.slice A82 ((gt script i72).hashes).length c83,.slice A84 ((gt script i72).list).length c85] 54 (0,0))],row46,row92,row95]) ?_ hw
     clear hw hsl
     refine aj h (by kernel_rfl) (λhb126 h=>?_) (λhb126 h=>?_)
     ·
      refine a7 ?_
      refine as_ (v:=.bool false) ?_
      refine a6 ?_
      refine ac ?_
      intro w hw
      cases h
      subst hF
      exact⟨by kernel_rfl,hw.fr⟩
     ·
      refine ae ?_
      change WC _ _ _ _ _ _
      refine a8 ?_
      refine ax (λσ w => ∃(x_129:Bool), ∃(o130:Ofirthref19_Pull), ∃(o133:Opull_Pull), ∃(Γ127:Gh), ∃(row131:Rowb), ∃(row134:Rowb),m_firthlaw19_PullPlays_j21 script z54 f71 i72 x_129 o130 o133=some r∧slots σ [(2,.slice Ascript script.length cscript),(7,optp z1.1 g7),(9,optp z11.1 g17),(11,optp z39.1 g45),(13,.int .i64 ((i72:Nat):Int)),(14,(pq g87)),(109,.bool x_129)]∧CC F Γ127 [[(g87,.cells #[.int .i64 (gt script i72).kind,.slice A78 ((gt script i72).vec).length c79,.slice A80 ((gt script i72).path).length c81,.slice A82 ((gt script i72).hashes).length c83,.slice A84 ((gt script i72).list).length c85] 54 (0,0))],row46,row131,row134] w∧Gh.le Γ88 Γ127∧Ofirthref19_Pull.ob 59 Γ127 g17 row131 o130∧Opull_Pull.ob 97 Γ127 g7 row134 o133∧True) ?_ ?_
      ·
       intro w hw; have h0136:=hw.le
       refine aa (C:=CC F Γ88 [[(g87,.cells #[.int .i64 (gt script i72).kind,.slice A78 ((gt script i72).vec).length c79,.slice A80 ((gt script i72).path).length c81,.slice A82 ((gt script i72).hashes).length c83,.slice A84 ((gt script i72).list).length c85] 54 (0,0))],row46,row92,row95]) ?_ hw; clear hw
       refine av (CC F Γ88 [[(g87,.cells #[.int .i64 (gt script i72).kind,.slice A78 ((gt script i72).vec).length c79,.slice A80 ((gt script i72).path).length c81,.slice A82 ((gt script i72).hashes).length c83,.slice A84 ((gt script i72).list).length c85] 54 (0,0))]]) (by kernel_rfl) (λw hw=>hw.drawn _) ?_
       change WH _ _ _ _ (CC F Γ88 [[(g87,.cells #[.int .i64 (gt script i72).kind,.slice A78 ((gt script i72).vec).length c79,.slice A80 ((gt script i72).path).length c81,.slice A82 ((gt script i72).hashes).length c83,.slice A84 ((gt script i72).list).length c85] 54 (0,0))],row46,row92,row95]) _ 22 #[false,false,false,false,false,false,false,false,false,false,false,false,false,false,false,false,false,false,false,false,false,false] _
       refine hu 0 rfl (bk_ (Gh.refl _) h0136 (.cons_cons _ (.cons _ (.cons _ (.cons _ .slnil))))) (q_fl 0 fld_54_0 rfl rfl rfl) ?_
       refine hu 1 rfl (bk_ (Gh.refl _) h0136 (.cons_cons _ (.cons _ (.cons _ (.cons _ .slnil))))) (q_ldl (i:=0) (v:=.int .i64 (gt script i72).kind) rfl rfl Tryz.isAgg3 rfl rfl) ?_
       refine hu 2 rfl (bk_ (Gh.refl _) h0136 (.cons_cons _ (.cons _ (.cons _ (.cons _ .slnil))))) (q_eql rfl rfl rfl) ?_
       refine hu 3 rfl (bk_ (Gh.refl _) h0136 (.cons_cons _ (.cons _ (.cons _ (.cons _ .slnil))))) (q_move (v:=.bool ((gt script i72).kind==2)) rfl (by kernel_rfl)) ?_
       refine hg1 (i:=4) rfl (by kernel_rfl) rfl rfl rfl rfl rfl (bk_ (Gh.refl _) h0136 (.cons_cons _ (.cons _ (.cons _ (.cons _ .slnil))))) (λhg137=>(q_move (v:=(pq g7)) rfl (optp_some rfl hz61))) ?_
       refine hg1 (i:=5) rfl (by kernel_rfl) rfl rfl rfl rfl rfl (bk_ (Gh.refl _) h0136 (.cons_cons _ (.cons _ (.cons _ (.cons _ .slnil))))) (λhg138=>(q_fl 2 fld_54_2 rfl rfl rfl)) ?_
       refine hg1 (i:=6) rfl (by kernel_rfl) rfl rfl rfl rfl rfl (bk_ (Gh.refl _) h0136 (.cons_cons _ (.cons _ (.cons _ (.cons _ .slnil))))) (λhg139=>(q_ldl (i:=0) (v:=.slice A80 ((gt script i72).path).length c81) rfl rfl Tryz.isAgg24 (gu hg139 rfl) rfl)) ?_
       refine hg1 (i:=7) rfl (by kernel_rfl) rfl rfl rfl rfl rfl (bk_ (Gh.refl _) h0136 (.cons_cons _ (.cons _ (.cons _ (.cons _ .slnil))))) (λhg140=>(q_fl 3 fld_54_3 rfl rfl rfl)) ?_
       refine hg1 (i:=8) rfl (by kernel_rfl) rfl rfl rfl rfl rfl (bk_ (Gh.refl _) h0136 (.cons_cons _ (.cons _ (.cons _ (.cons _ .slnil))))) (λhg141=>(q_ldl (i:=0) (v:=.slice A82 ((gt script i72).hashes).length c83) rfl rfl Tryz.isAgg33 (gu hg141 rfl) rfl)) ?_
       refine hg1 (i:=9) rfl (by kernel_rfl) rfl rfl rfl rfl rfl (bk_ (Gh.refl _) h0136 (.cons_cons _ (.cons _ (.cons _ (.cons _ .slnil))))) (λhg142=>(q_fl 4 fld_54_4 rfl rfl rfl)) ?_
       refine hg1 (i:=10) rfl (by kernel_rfl) rfl rfl rfl rfl rfl (bk_ (Gh.refl _) h0136 (.cons_cons _ (.cons _ (.cons _ (.cons _ .slnil))))) (λhg143=>(q_ldl (i:=0) (v:=.slice A84 ((gt script i72).list).length c85) rfl rfl Tryz.isAgg23 (gu hg143 rfl) rfl)) ?_
       refine hg1 (i:=12) rfl (by kernel_rfl) rfl rfl rfl rfl rfl (bk_ (Gh.refl _) h0136 (.cons_cons _ (.cons _ (.cons _ (.cons _ .slnil))))) (λhg144=>(q_move (v:=(pq g17)) rfl (optp_some rfl hz58))) ?_
       refine hg1 (i:=13) rfl (by kernel_rfl) rfl rfl rfl rfl rfl (bk_ (Gh.refl _) h0136 (.cons_cons _ (.cons _ (.cons _ (.cons _ .slnil))))) (λhg145=>(q_fl 2 fld_54_2 rfl rfl rfl)) ?_
       refine hg1 (i:=14) rfl (by kernel_rfl) rfl rfl rfl rfl rfl (bk_ (Gh.refl _) h0136 (.cons_cons _ (.cons _ (.cons _ (.cons _ .slnil))))) (λhg146=>(q_ldl (i:=0) (v:=.slice A80 ((gt script i72).path).length c81) rfl rfl Tryz.isAgg24 (gu hg146 rfl) rfl)) ?_
       refine hg1 (i:=15) rfl (by kernel_rfl) rfl rfl rfl rfl rfl (bk_ (Gh.refl _) h0136 (.cons_cons _ (.cons _ (.cons _ (.cons _ .slnil))))) (λhg147=>(q_fl 3 fld_54_3 rfl rfl rfl)) ?_
       refine hg1 (i:=16) rfl (by kernel_rfl) rfl rfl rfl rfl rfl (bk_ (Gh.refl _) h0136 (.cons_cons _ (.cons _ (.cons _ (.cons _ .slnil))))) (λhg148=>(q_ldl (i:=0) (v:=.slice A82 ((gt script i72).hashes).length c83) rfl rfl Tryz.isAgg33 (gu hg148 rfl) rfl)) ?_
       refine hg1 (i:=17) rfl (by kernel_rfl) rfl rfl rfl rfl rfl (bk_ (Gh.refl _) h0136 (.cons_cons _ (.cons _ (.cons _ (.cons _ .slnil))))) (λhg149=>(q_fl 4 fld_54_4 rfl rfl rfl)) ?_
       refine hg1 (i:=18) rfl (by kernel_rfl) rfl rfl rfl rfl rfl (bk_ (Gh.refl _) h0136 (.cons_cons _ (.cons _ (.cons _ (.cons _ .slnil))))) (λhg150=>(q_ldl (i:=0) (v:=.slice A84 ((gt script i72).list).length c85) rfl rfl Tryz.isAgg23 (gu hg150 rfl) rfl)) ?_
       refine(Bool.eq_false_or_eq_true ((gt script i72).kind==2)).elim (λhb151=>?_) (λhb151=>?_)
       ·
        have h:=bt hb151 h
        refine ai (i:=11) (by kernel_rfl) rfl ?_
        refine WR.sat (c0:=true) (g:=((gt script i72).kind==2)) rfl rfl rfl hb151 ?_
        obtain⟨z152,hz153,h⟩:=bnd h
        refine e_call (is:=[3]) rfl rfl (call_run Tryz.call26 rfl rfl (args4 (gu hb151 rfl) (gu hb151 rfl) (gu hb151 rfl) (gu hb151 rfl))) rfl (λw hp=>t_pull_Pull_Tell ho96 ((hx86 hl77).1.2.2.1.2.mono hl89) (hx86 hl77).1.2.2.1.1 ((hx86 hl77).1.2.2.2.1.2.mono hl89) (hx86 hl77).1.2.2.2.1.1 ((hx86 hl77).1.2.2.2.2.2.mono hl89) (hx86 hl77).1.2.2.2.2.1 hp hz153) ?_
        rintro Γ154 U156 v157 hl155 ⟨row158,rfl,rfl,hr159,_⟩
        change WR _ _ _ (CC F Γ154 [row158,[(g87,.cells #[.int .i64 (gt script i72).kind,.slice A78 ((gt script i72).vec).length c79,.slice A80 ((gt script i72).path).length c81,.slice A82 ((gt script i72).hashes).length c83,.slice A84 ((gt script i72).list).length c85] 54 (0,0))],row46,row92]) _ _ (upd _ 99 (.bool z152.2))
        refine ab ?_
        refine WH.next (bk_ hl155 h0136 (.cons _ (.cons_cons _ (.cons _ (.cons _ .slnil))))) ?_
        refine ai (i:=19) (by kernel_rfl) rfl ?_
        refine WR.sat (c0:=true) (g:=((gt script i72).kind==2)) rfl rfl rfl hb151 ?_
        obtain⟨z160,hz161,h⟩:=bnd h
        refine e_call (is:=[3]) rfl rfl (call_run Tryz.call27 rfl rfl (args4 (gu hb151 rfl) (gu hb151 rfl) (gu hb151 rfl) (gu hb151 rfl))) rfl (λw hp=>t_firthref19_Pull_Tell (ho93.mono hl155) ((hx86 hl77).1.2.2.1.2.mono (hl89.trans hl155)) (hx86 hl77).1.2.2.1.1 ((hx86 hl77).1.2.2.2.1.2.mono (hl89.trans hl155)) (hx86 hl77).1.2.2.2.1.1 ((hx86 hl77).1.2.2.2.2.2.mono (hl89.trans hl155)) (hx86 hl77).1.2.2.2.2.1 hp hz161) ?_
        rintro Γ162 U164 v165 hl163 ⟨row166,rfl,rfl,hr167,_⟩
        change WR _ _ _ (CC F Γ162 [row166,row158,[(g87,.cells #[.int .i64 (gt script i72).kind,.slice A78 ((gt script i72).vec).length c79,.slice A80 ((gt script i72).path).length c81,.slice A82 ((gt script i72).hashes).length c83,.slice A84 ((gt script i72).list).length c85] 54 (0,0))],row46]) _ _ (upd _ 107 (.bool z160.2))
        refine ab ?_
        refine WH.next (bk_ (hl155.trans hl163) h0136 (.cons _ (.cons _ (.cons_cons _ (.cons _ .slnil))))) ?_
        refine hg1 (i:=20) rfl (by kernel_rfl) rfl rfl rfl rfl rfl (bk_ (hl155.trans hl163) h0136 (.cons _ (.cons _ (.cons_cons _ (.cons _ .slnil))))) (λhg168=>(q_bneq Tryz.underlying4 rfl rfl rfl)) ?_
        refine hu 21 rfl (bk_ (hl155.trans hl163) h0136 (.cons _ (.cons _ (.cons_cons _ (.cons _ .slnil))))) (q_pick_t (v:=.bool (z152.2 != z160.2)) rfl rfl hb151 (gu hb151 rfl)) ?_
        refine au (by kernel_rfl) ?_
        intro w hw
        exact⟨(z152.2 != z160.2),z160.1,z152.1,Γ162,row166,row158,h,(sl_ (by kernel_rfl)),(hw.only (is:=[2,2,0,0]) rfl),(hl155.trans hl163),hr167,(hr159.mono hl163),trivial⟩
       ·
        have h:=bf hb151 h
        refine hg1 (g:=((gt script i72).kind==2)) (i:=11) (v:=undef) rfl (by kernel_rfl) rfl rfl rfl rfl rfl (bk_ (Gh.refl _) h0136 (.cons_cons _ (.cons _ (.cons _ (.cons _ .slnil))))) (no_tf hb151) ?_
        refine ar (v:=undef) (gv_false hb151) ?_
        refine hg1 (g:=((gt script i72).kind==2)) (i:=19) (v:=undef) rfl (by kernel_rfl) rfl rfl rfl rfl rfl (bk_ (Gh.refl _) h0136 (.cons_cons _ (.cons _ (.cons _ (.cons _ .slnil))))) (no_tf hb151) ?_
        refine ar (v:=undef) (gv_false hb151) ?_
        refine hg1 (g:=((gt script i72).kind==2)) (i:=20) (v:=undef) rfl (by kernel_rfl) rfl rfl rfl rfl rfl (bk_ (Gh.refl _) h0136 (.cons_cons _ (.cons _ (.cons _ (.cons _ .slnil))))) (no_tf hb151) ?_
        refine ar (v:=undef) (gv_false hb151) ?_
        refine hu 21 rfl (bk_ (Gh.refl _) h0136 (.cons_cons _ (.cons _ (.cons _ (.cons _ .slnil))))) (q_pick_f (v:=.bool false) rfl rfl hb151 (by kernel_rfl)) ?_
        refine au (by kernel_rfl) ?_
        intro w hw
        exact⟨false,o91,o94,Γ88,row92,row95,h,(sl_ (by kernel_rfl)),hw,(Gh.refl _),ho93,ho96,trivial⟩
      ·
       rintro σ w ⟨x_129,o130,o133,Γ127,row131,row134,h,hsl,hw,hl128,ho132,ho135,-⟩
       refine Wpt.slots hsl ?_
       refine aa (C:=CC F Γ127 [[(g87,.cells #[.int .i64 (gt script i72).kind,.slice A78 ((gt script i72).vec).length c79,.slice A80 ((gt script i72).path).length c81,.slice A82 ((gt script i72).hashes).length c83,.slice A84 ((gt script i72).list).length c85] 54 (0,0))],row46,row131,row134]) ?_ hw
       clear hw hsl
       refine aj h (by kernel_rfl) (λhb169 h=>?_) (λhb169 h=>?_)
       ·
        refine a7 ?_
        refine as_ (v:=.bool false) ?_
        refine a6 ?_
        refine ac ?_
        intro w hw
        cases h
        subst hF
        exact⟨by kernel_rfl,hw.fr⟩
       ·
        refine ae ?_
        change WC _ _ _ _ _ _
        refine ax (λσ w => ∃(o172:Ofirthref19_Pull), ∃(o175:Opull_Pull), ∃(Γ170:Gh), ∃(row173:Rowb), ∃(row176:Rowb),m_firthlaw19_PullPlays_j22 f71 o172 o175=some r∧slots σ [(2,.slice Ascript script.length cscript),(7,optp z1.1 g7),(9,optp z11.1 g17),(11,optp z39.1 g45),(13,.int .i64 ((i72:Nat):Int))]∧CC F Γ170 [row46,row173,row176] w∧Gh.le Γ127 Γ170∧Ofirthref19_Pull.ob 59 Γ170 g17 row173 o172∧Opull_Pull.ob 97 Γ170 g7 row176 o175∧True) ?_ ?_
        ·
         refine a7 ?_
         refine vb (q_fl 0 fld_54_0 rfl rfl rfl) ?_
         refine vb (q_ldl (i:=0) (v:=.int .i64 (gt script i72).kind) rfl rfl Tryz.isAgg3 rfl rfl) ?_
         refine vb (q_eql rfl rfl rfl) ?_
         refine mv (v:=.bool ((gt script i72).kind==3)) ?_
         refine vg0 rfl rfl rfl rfl rfl (λhg178=>QV.qo (q_fl 0 fld_54_0 rfl rfl rfl)) ?_
         refine vg0 rfl rfl rfl rfl rfl (λhg179=>QV.qo (q_ldl (i:=0) (v:=.int .i64 (gt script i72).kind) rfl rfl Tryz.isAgg3 (gu hg179 rfl) rfl)) ?_
         refine vg0 rfl rfl rfl rfl rfl (λhg180=>QV.qo (q_eql rfl (gu hg180 rfl) rfl)) ?_
         refine vb (q_pick rfl rfl (pk_or' (g:=((gt script i72).kind==3)) (y:=((gt script i72).kind==4)))) ?_
         refine mv (v:=.bool (((gt script i72).kind==3)||((gt script i72).kind==4))) ?_
         refine vg1 rfl rfl rfl rfl rfl (λhg181=>QV.qo (q_move (v:=(pq g17)) rfl (optp_some rfl hz58))) ?_
         refine vg1 rfl rfl rfl rfl rfl (λhg182=>QV.qo (q_nil (A:=some ⟨g17,0,none⟩) rfl (gu hg182 rfl) rfl)) ?_
         refine vg1 rfl rfl rfl rfl rfl (λhg183=>QV.qo (q_fl 4 fld_59_4 rfl (gu hg183 rfl) rfl)) ?_
         have hq:=ho132
         obtain⟨A1_185,c1_185,A3_185,c3_185,r3_185,A4_185,c4_185,r4_185,A5_185,c5_185,hrow_185,ho0_185,ho1_185,ho2_185,ho3_185,ho4_185,ho5_185,ho6_185,-⟩:=hq
         intro w hw; have hw:=hw.unfold (i:=2) rfl hrow_185
         refine ao (C:=CC F Γ127 [[(g17,.cells #[.int .i64 o130.id,.slice A1_185 o130.own.length c1_185,.bool o130.begun,.slice A3_185 o130.vec.length c3_185,.slice A4_185 o130.paths.length c4_185,.slice A5_185 o130.in_.length c5_185] 59 (0,0))],r3_185,r4_185,[(g87,.cells #[.int .i64 (gt script i72).kind,.slice A78 ((gt script i72).vec).length c79,.slice A80 ((gt script i72).path).length c81,.slice A82 ((gt script i72).hashes).length c83,.slice A84 ((gt script i72).list).length c85] 54 (0,0))],row46,row134]) ?_ hw
         clear hw
         refine vg1 rfl rfl rfl rfl rfl (λhg186=>QV.qo (q_ldl (i:=0) (v:=.slice A4_185 o130.paths.length c4_185) rfl rfl Tryz.isAgg57 (gu hg186 rfl) rfl)) ?_
         refine vg1 rfl rfl rfl rfl rfl (λhg187=>QV.qo (q_len_slice rfl Tryz.underlying57 (gu hg187 rfl))) ?_
         refine vg1 rfl rfl rfl rfl rfl (λhg188=>QV.qo (q_gtr rfl (gu hg188 rfl) rfl)) ?_
         refine vb (q_pick rfl rfl (pk_and' (g:=(((gt script i72).kind==3)||((gt script i72).kind==4))) (y:=(decide (0<((o130.paths.length:Nat):Int)))))) ?_
         refine a6 ?_
         refine aj h (by kernel_rfl) (λhb189 h=>?_) (λhb189 h=>?_)
         ·
          refine a7 ?_
          refine as_ (v:=.int .i64 0) ?_
          refine a6 ?_
          intro w hw; have hw:=hw.fold (is:=[0,0,0]) rfl hrow_185
          refine aa (C:=CC F Γ127 [row131,[(g87,.cells #[.int .i64 (gt script i72).kind,.slice A78 ((gt script i72).vec).length c79,.slice A80 ((gt script i72).path).length c81,.slice A82 ((gt script i72).hashes).length c83,.slice A84 ((gt script i72).list).length c85] 54 (0,0))],row46,row134]) ?_ hw
          clear hw
          refine ax (λσ w => ∃(at_191:Int),m_firthlaw19_PullPlays_j24 z54 f71 o130 o133 at_191=some r∧slots σ [(2,.slice Ascript script.length cscript),(7,optp z1.1 g7),(9,optp z11.1 g17),(11,optp z39.1 g45),(13,.int .i64 ((i72:Nat):Int)),(15,.int .i64 at_191)]∧CC F Γ127 [row131,row46,row134] w∧I64 at_191∧True) ?_ ?_
          ·
           refine a7 ?_
           refine vb (q_fl 0 fld_54_0 rfl rfl rfl) ?_
           refine vb (q_ldl (i:=1) (v:=.int .i64 (gt script i72).kind) rfl rfl Tryz.isAgg3 rfl rfl) ?_
           refine vb (q_eql rfl rfl rfl) ?_
           refine a6 ?_
           refine aj h (by kernel_rfl) (λhb193 h=>?_) (λhb193 h=>?_)
           ·
            refine ah ?_
            refine vb (q_move (v:=(pq g17)) rfl (optp_some rfl hz58)) ?_
            refine vb (q_nil (A:=some ⟨g17,0,none⟩) rfl rfl rfl) ?_
            refine vb (q_fl 4 fld_59_4 rfl rfl rfl) ?_
            have hq:=ho132
            obtain⟨A1_194,c1_194,A3_194,c3_194,r3_194,A4_194,c4_194,r4_194,A5_194,c5_194,hrow_194,ho0_194,ho1_194,ho2_194,ho3_194,ho4_194,ho5_194,ho6_194,-⟩:=hq
            intro w hw; have hw:=hw.unfold (i:=0) rfl hrow_194
            refine ao (C:=CC F Γ127 [[(g17,.cells #[.int .i64 o130.id,.slice A1_194 o130.own.length c1_194,.bool o130.begun,.slice A3_194 o130.vec.length c3_194,.slice A4_194 o130.paths.length c4_194,.slice A5_194 o130.in_.length c5_194] 59 (0,0))],r3_194,r4_194,[(g87,.cells #[.int .i64 (gt script i72).kind,.slice A78 ((gt script i72).vec).length c79,.slice A80 ((gt script i72).path).length c81,.slice A82 ((gt script i72).hashes).length c83,.slice A84 ((gt script i72).list).length c85] 54 (0,0))],row46,row134]) ?_ hw
            clear hw
            refine vb (q_ldl (i:=0) (v:=.slice A4_194 o130.paths.length c4_194) rfl rfl Tryz.isAgg57 rfl rfl) ?_
            refine vb (q_len_slice rfl Tryz.underlying57 rfl) ?_
            refine vb (q_sub rfl rfl rfl) ?_
            refine as_ (v:=.int .i64 (w64 (((o130.paths.length:Nat):Int) - 1))) ?_
            refine ab ?_
            intro w hw
            have hw:=hw.fold (is:=[0,0,0]) rfl hrow_194
            exact⟨(w64 (((o130.paths.length:Nat):Int) - 1)),h,(sl_ (by kernel_rfl)),(hw.only (is:=[0,1,1]) rfl),(w64_r _),trivial⟩
           ·
            exact ae λw hw=>⟨0,h,(sl_ (by kernel_rfl)),(hw.only (is:=[0,1,1]) rfl),(show I64 0 by decide),trivial⟩
          ·
           rintro σ w ⟨at_191,h,hsl,hw,hr192,-⟩
           refine Wpt.slots hsl ?_
           refine aa (C:=CC F Γ127 [row131,row46,row134]) ?_ hw
           clear hw hsl
           refine a7 ?_
           refine vb (q_move (v:=(pq g45)) rfl (optp_some rfl hz55)) ?_
           refine vb (q_move (v:=(pq g17)) rfl (optp_some rfl hz58)) ?_
           refine vb (q_nil (A:=some ⟨g17,0,none⟩) rfl rfl rfl) ?_
           refine vb (q_fl 4 fld_59_4 rfl rfl rfl) ?_
           have hq:=ho132
           obtain⟨A1_196,c1_196,A3_196,c3_196,r3_196,A4_196,c4_196,r4_196,A5_196,c5_196,hrow_196,ho0_196,ho1_196,ho2_196,ho3_196,ho4_196,ho5_196,ho6_196,-⟩:=hq
           intro w hw; have hw:=hw.unfold (i:=0) rfl hrow_196
           refine ao (C:=CC F Γ127 [[(g17,.cells #[.int .i64 o130.id,.slice A1_196 o130.own.length c1_196,.bool o130.begun,.slice A3_196 o130.vec.length c3_196,.slice A4_196 o130.paths.length c4_196,.slice A5_196 o130.in_.length c5_196] 59 (0,0))],r3_196,r4_196,row46,row134]) ?_ hw
           clear hw
           refine vb (q_ldl (i:=0) (v:=.slice A4_196 o130.paths.length c4_196) rfl rfl Tryz.isAgg57 rfl rfl) ?_
           refine mv (v:=.int .i64 at_191) ?_
           obtain⟨hk197,h⟩:=chk_some h
           refine vb (q_ix Tryz.underlying57 Tryz.sizeOf24 rfl rfl rfl hk197 (ho4_196.some_ (inb_lt hk197))) ?_
           obtain⟨A198,c199,hx200⟩:=ho4_196.slT_at at_191.toNat
           refine vb (q_ldo (c:=0) (v:=.slice A198 (gt o130.paths at_191.toNat).length c199) (i:=2) rfl (hx200 (inb_lt hk197)).2 rfl Tryz.isAgg24 rfl rfl) ?_
           obtain⟨z201,hz202,h⟩:=bnd h
           refine e_call (is:=[3]) rfl rfl (call_run Tryz.call14 rfl rfl (by kernel_rfl)) rfl (λw hp=>t_firthref19_Cut_Want (ho56.mono ((hl64.trans hl89).trans hl128)) (hx200 (inb_lt hk197)).1.2 (hx200 (inb_lt hk197)).1.1 hp hz202) ?_
           rintro Γ203 U205 v206 hl204 ⟨A207,c208,row209,A211,c212,row213,rfl,rfl,hr210,hr214,_⟩
           change WR _ _ _ (CC F Γ203 [row46,row209,row213,[(g17,.cells #[.int .i64 o130.id,.slice A1_196 o130.own.length c1_196,.bool o130.begun,.slice A3_196 o130.vec.length c3_196,.slice A4_196 o130.paths.length c4_196,.slice A5_196 o130.in_.length c5_196] 59 (0,0))],r3_196,r4_196,row134]) _ _ (upd _ 144 (.tuple #[.slice A207 z201.1.length c208,.slice A211 z201.2.1.length c212,.bool z201.2.2]))
           refine mv (v:=.tuple #[.slice A207 z201.1.length c208,.slice A211 z201.2.1.length c212,.bool z201.2.2]) ?_
           refine vb (q_extract (v:=.slice A207 z201.1.length c208) rfl rfl rfl) ?_
           refine vb (q_extract (v:=.slice A211 z201.2.1.length c212) rfl rfl rfl) ?_
           refine vb (q_extract (v:=.bool z201.2.2) rfl rfl rfl) ?_
           refine as_ (v:=.slice A207 z201.1.length c208) ?_
           refine as_ (v:=.slice A211 z201.2.1.length c212) ?_
           refine as_ (v:=.bool z201.2.2) ?_
           refine a6 ?_
           refine a7 ?_
           refine as_ (v:=.slice none 0 0) ?_
           refine a6 ?_
           refine a7 ?_
           refine mv (v:=.slice none 0 0) ?_
           refine vb (q_move (v:=(pq g17)) rfl (optp_some rfl hz58)) ?_
           refine vb (q_nil (A:=some ⟨g17,0,none⟩) rfl rfl rfl) ?_
           refine vb (q_fl 4 fld_59_4 rfl rfl rfl) ?_
           refine vb (q_ldl (i:=3) (v:=.slice A4_196 o130.paths.length c4_196) rfl rfl Tryz.isAgg57 rfl rfl) ?_
           refine mv (v:=.int .i64 at_191) ?_
           refine vb (q_ix Tryz.underlying57 Tryz.sizeOf24 rfl rfl rfl hk197 ((ho4_196.mono hl204).some_ (inb_lt hk197))) ?_
           refine vb (q_ldo (c:=0) (v:=.slice A198 (gt o130.paths at_191.toNat).length c199) (i:=5) rfl (hx200 (inb_lt hk197)).2 rfl Tryz.isAgg24 rfl rfl) ?_
           refine WR.sub (λw hw=>hw.pad) ?_
           obtain⟨hk215,h⟩:=chk_some h
           refine e_append (T:=intT) (xs:=[]) (ys:=(gt o130.paths at_191.toNat)) elem_24 (i:=0) rfl rfl rfl rfl (by kernel_rfl) rfl rfl (Own.nil intT Γ203 3) (of_decide_eq_true hk215) (λw hw=>src_sl ((hx200 (inb_lt hk197)).1.2.mono hl204) hw) ?_
           intro row216 A217 c218 ho219
           refine as_ (v:=.slice A217 (gt o130.paths at_191.toNat).length c218) ?_
           refine a6 ?_
           refine a7 ?_
           refine vb (q_move (v:=(pq g7)) rfl (optp_some rfl hz61)) ?_
           refine mv (v:=.slice A217 (gt o130.paths at_191.toNat).length c218) ?_
           refine mv (v:=.slice A207 z201.1.length c208) ?_
           refine mv (v:=.slice A211 z201.2.1.length c212) ?_
           have hc224:=ho219.capz
           intro w hw; obtain⟨Γ220,hw,hl221,hr222⟩:=hw.seal (i:=0) rfl; have hs223:=ho219.sl hl221 hr222
           refine ao (C:=CC F Γ220 [[],row46,row209,row213,[(g17,.cells #[.int .i64 o130.id,.slice A1_196 o130.own.length c1_196,.bool o130.begun,.slice A3_196 o130.vec.length c3_196,.slice A4_196 o130.paths.length c4_196,.slice A5_196 o130.in_.length c5_196] 59 (0,0))],r3_196,r4_196,row134]) ?_ hw
           clear hw
           have hc229:=(hr210.mono hl221).capz
           intro w hw; obtain⟨Γ225,hw,hl226,hr227⟩:=hw.seal (i:=2) rfl; have hs228:=(hr210.mono hl221).sl hl226 hr227
           refine ao (C:=CC F Γ225 [[],row46,[],row213,[(g17,.cells #[.int .i64 o130.id,.slice A1_196 o130.own.length c1_196,.bool o130.begun,.slice A3_196 o130.vec.length c3_196,.slice A4_196 o130.paths.length c4_196,.slice A5_196 o130.in_.length c5_196] 59 (0,0))],r3_196,r4_196,row134]) ?_ hw
           clear hw
           have hc234:=(hr214.mono (hl221.trans hl226)).capz
           intro w hw; obtain⟨Γ230,hw,hl231,hr232⟩:=hw.seal (i:=3) rfl; have hs233:=(hr214.mono (hl221.trans hl226)).sl hl231 hr232
           refine ao (C:=CC F Γ230 [[],row46,[],[],[(g17,.cells #[.int .i64 o130.id,.slice A1_196 o130.own.length c1_196,.bool o130.begun,.slice A3_196 o130.vec.length c3_196,.slice A4_196 o130.paths.length c4_196,.slice A5_196 o130.in_.length c5_196] 59 (0,0))],r3_196,r4_196,row134]) ?_ hw
           clear hw
           obtain⟨z235,hz236,h⟩:=bnd h
           refine e_call (is:=[7]) rfl rfl (call_run Tryz.call26 rfl rfl (by kernel_rfl)) rfl (λw hp=>t_pull_Pull_Tell (ho135.mono (((hl204.trans hl221).trans hl226).trans hl231)) (hs223.mono (hl226.trans hl231)) hc224 (hs228.mono hl231) hc229 hs233 hc234 hp hz236) ?_
           rintro Γ237 U239 v240 hl238 ⟨row241,rfl,rfl,hr242,_⟩
           change WR _ _ _ (CC F Γ237 [row241,[],row46,[],[],[(g17,.cells #[.int .i64 o130.id,.slice A1_196 o130.own.length c1_196,.bool o130.begun,.slice A3_196 o130.vec.length c3_196,.slice A4_196 o130.paths.length c4_196,.slice A5_196 o130.in_.length c5_196] 59 (0,0))],r3_196,r4_196]) _ _ (upd _ 161 (.bool z235.2))
           refine vb (q_move (v:=(pq g17)) rfl (optp_some rfl hz58)) ?_
           refine mv (v:=.slice A217 (gt o130.paths at_191.toNat).length c218) ?_
           refine mv (v:=.slice A207 z201.1.length c208) ?_
           refine mv (v:=.slice A211 z201.2.1.length c212) ?_
           intro w hw; have hw:=hw.fold (is:=[5,5,5]) rfl hrow_196
           refine ao (C:=CC F Γ237 [row131,row241,[],row46,[],[]]) ?_ hw
           clear hw
           obtain⟨z244,hz245,h⟩:=bnd h
           refine e_call (is:=[0]) rfl rfl (call_run Tryz.call27 rfl rfl (by kernel_rfl)) rfl (λw hp=>t_firthref19_Pull_Tell (ho132.mono ((((hl204.trans hl221).trans hl226).trans hl231).trans hl238)) (hs223.mono ((hl226.trans hl231).trans hl238)) hc224 (hs228.mono (hl231.trans hl238)) hc229 (hs233.mono hl238) hc234 hp hz245) ?_
           rintro Γ246 U248 v249 hl247 ⟨row250,rfl,rfl,hr251,_⟩
           change WR _ _ _ (CC F Γ246 [row250,row241,[],row46,[],[]]) _ _ (upd _ 166 (.bool z244.2))
           refine vb (q_bneq Tryz.underlying4 rfl rfl rfl) ?_
           refine a6 ?_
           refine aj h (by kernel_rfl) (λhb252 h=>?_) (λhb252 h=>?_)
           ·
            refine a7 ?_
            refine as_ (v:=.bool false) ?_
            refine a6 ?_
            refine ac ?_
            intro w hw
            cases h
            subst hF
            exact⟨by kernel_rfl,hw.fr⟩
           ·
            exact ae λw hw=>⟨z244.1,z235.1,Γ246,row250,row241,h,(sl_ (by kernel_rfl)),(hw.only (is:=[3,0,0]) rfl),(((((hl204.trans hl221).trans hl226).trans hl231).trans hl238).trans hl247),hr251,(hr242.mono hl247),trivial⟩
         ·
          refine ae ?_
          intro w hw
          have hw:=hw.fold (is:=[0,0,0]) rfl hrow_185
          exact⟨o130,o133,Γ127,row131,row134,h,(sl_ (by kernel_rfl)),(hw.only (is:=[2,0,1]) rfl),(Gh.refl _),ho132,ho135,trivial⟩
        ·
         rintro σ w ⟨o172,o175,Γ170,row173,row176,h,hsl,hw,hl171,ho174,ho177,-⟩
         refine Wpt.slots hsl ?_
         refine aa (C:=CC F Γ170 [row46,row173,row176]) ?_ hw
         clear hw hsl
         refine ax (λσ w => ∃(x_256:Bool), ∃(Γ254:Gh),m_firthlaw19_PullPlays_j25 f71 o172 o175 x_256=some r∧slots σ [(2,.slice Ascript script.length cscript),(7,optp z1.1 g7),(9,optp z11.1 g17),(11,optp z39.1 g45),(13,.int .i64 ((i72:Nat):Int)),(202,.bool x_256)]∧CC F Γ254 [row46,row173,row176] w∧Gh.le Γ170 Γ254∧True) ?_ ?_
         ·
          have hq:=ho174
          obtain⟨A1_257,c1_257,A3_257,c3_257,r3_257,A4_257,c4_257,r4_257,A5_257,c5_257,hrow_257,ho0_257,ho1_257,ho2_257,ho3_257,ho4_257,ho5_257,ho6_257,-⟩:=hq
          intro w hw; have hw:=hw.unfold (i:=1) rfl hrow_257
          refine aa (C:=CC F Γ170 [[(g17,.cells #[.int .i64 o172.id,.slice A1_257 o172.own.length c1_257,.bool o172.begun,.slice A3_257 o172.vec.length c3_257,.slice A4_257 o172.paths.length c4_257,.slice A5_257 o172.in_.length c5_257] 59 (0,0))],r3_257,r4_257,row46,row176]) ?_ hw
          clear hw
          intro w hw; have h0258:=hw.le
          refine aa (C:=CC F Γ170 [[(g17,.cells #[.int .i64 o172.id,.slice A1_257 o172.own.length c1_257,.bool o172.begun,.slice A3_257 o172.vec.length c3_257,.slice A4_257 o172.paths.length c4_257,.slice A5_257 o172.in_.length c5_257] 59 (0,0))],r3_257,r4_257,row46,row176]) ?_ hw; clear hw
          refine av (CC F Γ170 [[(g17,.cells #[.int .i64 o172.id,.slice A1_257 o172.own.length c1_257,.bool o172.begun,.slice A3_257 o172.vec.length c3_257,.slice A4_257 o172.paths.length c4_257,.slice A5_257 o172.in_.length c5_257] 59 (0,0))],r3_257,r4_257]) (by kernel_rfl) (λw hw=>hw.drawn _) ?_
          change WH _ _ _ _ (CC F Γ170 [[(g17,.cells #[.int .i64 o172.id,.slice A1_257 o172.own.length c1_257,.bool o172.begun,.slice A3_257 o172.vec.length c3_257,.slice A4_257 o172.paths.length c4_257,.slice A5_257 o172.in_.length c5_257] 59 (0,0))],r3_257,r4_257,row46,row176]) _ 35 #[false,false,false,false,false,false,false,false,false,false,false,false,false,false,false,false,false,false,false,false,false,false,false,false,false,false,false,false,false,false,false,false,false,false,false] _
          refine hu 0 rfl (bk_ (Gh.refl _) h0258 (.cons_cons _ (.cons_cons _ (.cons_cons _ (.cons _ (.cons _ .slnil)))))) (q_move (v:=(pq g7)) rfl (optp_some rfl hz61)) ?_
          refine hu 2 rfl (bk_ (Gh.refl _) h0258 (.cons_cons _ (.cons_cons _ (.cons_cons _ (.cons _ (.cons _ .slnil)))))) (q_move (v:=(pq g17)) rfl (optp_some rfl hz58)) ?_
          refine ai (i:=1) (by kernel_rfl) rfl ?_
          obtain⟨z259,hz260,h⟩:=bnd h
          refine vc rfl rfl rfl (q_call (call_run Tryz.call28 rfl rfl (by kernel_rfl)) (λw hw=>t_pull_Pull_Done (Γ:=Gh.all w) (ho177.mono hw.sat.le_all) (hw.ra 4 rfl) (Sat.all w) hz260)) ?_
          refine ab ?_
          refine WH.next (bk_ (Gh.refl _) h0258 (.cons_cons _ (.cons_cons _ (.cons_cons _ (.cons _ (.cons _ .slnil)))))) ?_
          refine ai (i:=3) (by kernel_rfl) rfl ?_
          obtain⟨z261,hz262,h⟩:=bnd h
          refine vc rfl rfl rfl (q_call (call_run Tryz.call29 rfl rfl (by kernel_rfl)) (λw hw=>t_firthref19_Pull_Done (Γ:=Gh.all w) (ho174.mono hw.sat.le_all) (hw.raU [0,0,0] rfl hrow_257) (Sat.all w) hz262)) ?_
          refine ab ?_
          refine WH.next (bk_ (Gh.refl _) h0258 (.cons_cons _ (.cons_cons _ (.cons_cons _ (.cons _ (.cons _ .slnil)))))) ?_
          refine hu 4 rfl (bk_ (Gh.refl _) h0258 (.cons_cons _ (.cons_cons _ (.cons_cons _ (.cons _ (.cons _ .slnil)))))) (q_bneq Tryz.underlying4 rfl rfl rfl) ?_
          refine hu 5 rfl (bk_ (Gh.refl _) h0258 (.cons_cons _ (.cons_cons _ (.cons_cons _ (.cons _ (.cons _ .slnil)))))) (q_move (v:=.bool (z259 != z261)) rfl (by kernel_rfl)) ?_
          refine hg0 (i:=6) rfl (by kernel_rfl) rfl rfl rfl rfl rfl (bk_ (Gh.refl _) h0258 (.cons_cons _ (.cons_cons _ (.cons_cons _ (.cons _ (.cons _ .slnil)))))) (λhg263=>(q_move (v:=(pq g7)) rfl (optp_some rfl hz61))) ?_
          refine hg0 (i:=8) rfl (by kernel_rfl) rfl rfl rfl rfl rfl (bk_ (Gh.refl _) h0258 (.cons_cons _ (.cons_cons _ (.cons_cons _ (.cons _ (.cons _ .slnil)))))) (λhg264=>(q_move (v:=(pq g17)) rfl (optp_some rfl hz58))) ?_
          refine hg0 (i:=9) rfl (by kernel_rfl) rfl rfl rfl rfl rfl (bk_ (Gh.refl _) h0258 (.cons_cons _ (.cons_cons _ (.cons_cons _ (.cons _ (.cons _ .slnil)))))) (λhg265=>(q_nil (A:=some ⟨g17,0,none⟩) rfl (gu hg265 rfl) rfl)) ?_
          refine hg0 (i:=10) rfl (by kernel_rfl) rfl rfl rfl rfl rfl (bk_ (Gh.refl _) h0258 (.cons_cons _ (.cons_cons _ (.cons_cons _ (.cons _ (.cons _ .slnil)))))) (λhg266=>(q_fl 4 fld_59_4 rfl (gu hg266 rfl) rfl)) ?_
          refine hg0 (i:=11) rfl (by kernel_rfl) rfl rfl rfl rfl rfl (bk_ (Gh.refl _) h0258 (.cons_cons _ (.cons_cons _ (.cons_cons _ (.cons _ (.cons _ .slnil)))))) (λhg267=>(q_ldl (i:=0) (v:=.slice A4_257 o172.paths.length c4_257) rfl rfl Tryz.isAgg57 (gu hg267 rfl) rfl)) ?_
          refine(Bool.eq_false_or_eq_true (!(z259 != z261))).elim (λhb268=>?_) (λhb268=>?_)
          ·
           have h:=bt hb268 h
           refine ai (i:=7) (by kernel_rfl) rfl ?_
           refine WR.sat (c0:=true) (g:=(z259 != z261)) rfl rfl rfl hb268 ?_
           obtain⟨z269,hz270,h⟩:=bnd h
           refine e_call (is:=[4]) rfl rfl (call_run Tryz.call31 rfl rfl (args1 (gu hb268 rfl))) rfl (λw hp=>t_pull_Pull_Wants ho177 hp hz270) ?_
           rintro Γ271 U273 v274 hl272 ⟨A275,c276,row277,rfl,rfl,hr278,_⟩
           change WR _ _ _ (CC F Γ271 [row176,row277,[(g17,.cells #[.int .i64 o172.id,.slice A1_257 o172.own.length c1_257,.bool o172.begun,.slice A3_257 o172.vec.length c3_257,.slice A4_257 o172.paths.length c4_257,.slice A5_257 o172.in_.length c5_257] 59 (0,0))],r3_257,r4_257,row46]) _ _ (upd _ 175 (.slice A275 z269.length c276))
           refine ab ?_
           refine WH.next (bk_ hl272 h0258 (.cons _ (.cons _ (.cons_cons _ (.cons_cons _ (.cons_cons _ (.cons _ .slnil))))))) ?_
           refine ai (i:=12) (by kernel_rfl) rfl ?_
           obtain⟨z280,hz281,h⟩:=bnd h
           refine vg0 rfl rfl rfl rfl rfl (λhg279=>(q_call (call_run Tryz.call30 rfl rfl (args2 rfl (gu hg279 rfl))) (λw hw=>t_firthlaw19_paths (Γ:=Gh.all w) (hr278.sl hw.sat.le_all (hw.ra 1 rfl)) hr278.capz ((ho4_257.mono hl272).sl hw.sat.le_all (hw.ra 4 rfl)) (ho4_257.mono hl272).capz (Sat.all w) (gc_of hz281 hg279)))) ?_
           refine ab ?_
           refine WH.next (bk_ hl272 h0258 (.cons _ (.cons _ (.cons_cons _ (.cons_cons _ (.cons_cons _ (.cons _ .slnil))))))) ?_
           refine hg0 (i:=13) rfl (by kernel_rfl) rfl rfl rfl rfl rfl (bk_ hl272 h0258 (.cons _ (.cons _ (.cons_cons _ (.cons_cons _ (.cons_cons _ (.cons _ .slnil))))))) (λhg282=>(q_not rfl (gu hg282 rfl))) ?_
           refine hu 14 rfl (bk_ hl272 h0258 (.cons _ (.cons _ (.cons_cons _ (.cons_cons _ (.cons_cons _ (.cons _ .slnil))))))) (q_pick_f (v:=.bool (!z280)) rfl rfl (not_t hb268) (gu hb268 rfl)) ?_
           refine hu 15 rfl (bk_ hl272 h0258 (.cons _ (.cons _ (.cons_cons _ (.cons_cons _ (.cons_cons _ (.cons _ .slnil))))))) (q_move (v:=.bool (!z280)) rfl (by kernel_rfl)) ?_
           refine hg0 (i:=16) rfl (by kernel_rfl) rfl rfl rfl rfl rfl (bk_ hl272 h0258 (.cons _ (.cons _ (.cons_cons _ (.cons_cons _ (.cons_cons _ (.cons _ .slnil))))))) (λhg283=>(q_move (v:=(pq g7)) rfl (optp_some rfl hz61))) ?_
           refine hg0 (i:=18) rfl (by kernel_rfl) rfl rfl rfl rfl rfl (bk_ hl272 h0258 (.cons _ (.cons _ (.cons_cons _ (.cons_cons _ (.cons_cons _ (.cons _ .slnil))))))) (λhg284=>(q_move (v:=(pq g17)) rfl (optp_some rfl hz58))) ?_
           refine hg0 (i:=19) rfl (by kernel_rfl) rfl rfl rfl rfl rfl (bk_ hl272 h0258 (.cons _ (.cons _ (.cons_cons _ (.cons_cons _ (.cons_cons _ (.cons _ .slnil))))))) (λhg285=>(q_nil (A:=some ⟨g17,0,none⟩) rfl (gu hg285 rfl) rfl)) ?_
           refine hg0 (i:=20) rfl (by kernel_rfl) rfl rfl rfl rfl rfl (bk_ hl272 h0258 (.cons _ (.cons _ (.cons_cons _ (.cons_cons _ (.cons_cons _ (.cons _ .slnil))))))) (λhg286=>(q_fl 5 fld_59_5 rfl (gu hg286 rfl) rfl)) ?_
           refine hg0 (i:=21) rfl (by kernel_rfl) rfl rfl rfl rfl rfl (bk_ hl272 h0258 (.cons _ (.cons _ (.cons_cons _ (.cons_cons _ (.cons_cons _ (.cons _ .slnil))))))) (λhg287=>(q_ldl (i:=0) (v:=.slice A5_257 o172.in_.length c5_257) rfl rfl Tryz.isAgg23 (gu hg287 rfl) rfl)) ?_
           refine(Bool.eq_false_or_eq_true (!(!z280))).elim (λhb288=>?_) (λhb288=>?_)
           ·
            have h:=bt hb288 h
            refine ai (i:=17) (by kernel_rfl) rfl ?_
            refine WR.sat (c0:=true) (g:=(!z280)) rfl rfl rfl hb288 ?_
            obtain⟨z289,hz290,h⟩:=bnd h
            refine e_call (is:=[0]) rfl rfl (call_run Tryz.call32 rfl rfl (args1 (gu hb288 rfl))) rfl (λw hp=>t_pull_Pull_Staged (ho177.mono hl272) hp hz290) ?_
            rintro Γ291 U293 v294 hl292 ⟨A295,c296,row297,rfl,rfl,hr298,_⟩
            change WR _ _ _ (CC F Γ291 [row176,row297,row277,[(g17,.cells #[.int .i64 o172.id,.slice A1_257 o172.own.length c1_257,.bool o172.begun,.slice A3_257 o172.vec.length c3_257,.slice A4_257 o172.paths.length c4_257,.slice A5_257 o172.in_.length c5_257] 59 (0,0))],r3_257,r4_257,row46]) _ _ (upd _ 185 (.slice A295 z289.length c296))
            refine ab ?_
            refine WH.next (bk_ (hl272.trans hl292) h0258 (.cons _ (.cons _ (.cons _ (.cons_cons _ (.cons_cons _ (.cons_cons _ (.cons _ .slnil)))))))) ?_
            refine ai (i:=22) (by kernel_rfl) rfl ?_
            obtain⟨z300,hz301,h⟩:=bnd h
            refine vg0 rfl rfl rfl rfl rfl (λhg299=>(q_call (call_run Tryz.call16 rfl rfl (args2 rfl (gu hg299 rfl))) (λw hw=>t_firthref06_SameRecs (Γ:=Gh.all w) (hr298.sl hw.sat.le_all (hw.ra 1 rfl)) hr298.capz ((ho6_257.mono (hl272.trans hl292)).mono hw.sat.le_all) ho5_257 (Sat.all w) (gc_of hz301 hg299)))) ?_
            refine ab ?_
            refine WH.next (bk_ (hl272.trans hl292) h0258 (.cons _ (.cons _ (.cons _ (.cons_cons _ (.cons_cons _ (.cons_cons _ (.cons _ .slnil)))))))) ?_
            refine hg0 (i:=23) rfl (by kernel_rfl) rfl rfl rfl rfl rfl (bk_ (hl272.trans hl292) h0258 (.cons _ (.cons _ (.cons _ (.cons_cons _ (.cons_cons _ (.cons_cons _ (.cons _ .slnil)))))))) (λhg302=>(q_not rfl (gu hg302 rfl))) ?_
            refine hu 24 rfl (bk_ (hl272.trans hl292) h0258 (.cons _ (.cons _ (.cons _ (.cons_cons _ (.cons_cons _ (.cons_cons _ (.cons _ .slnil)))))))) (q_pick_f (v:=.bool (!z300)) rfl rfl (not_t hb288) (gu hb288 rfl)) ?_
            refine hu 25 rfl (bk_ (hl272.trans hl292) h0258 (.cons _ (.cons _ (.cons _ (.cons_cons _ (.cons_cons _ (.cons_cons _ (.cons _ .slnil)))))))) (q_move (v:=.bool (!z300)) rfl (by kernel_rfl)) ?_
            refine hg0 (i:=26) rfl (by kernel_rfl) rfl rfl rfl rfl rfl (bk_ (hl272.trans hl292) h0258 (.cons _ (.cons _ (.cons _ (.cons_cons _ (.cons_cons _ (.cons_cons _ (.cons _ .slnil)))))))) (λhg303=>(q_move (v:=(pq g7)) rfl (optp_some rfl hz61))) ?_
            refine hg0 (i:=28) rfl (by kernel_rfl) rfl rfl rfl rfl rfl (bk_ (hl272.trans hl292) h0258 (.cons _ (.cons _ (.cons _ (.cons_cons _ (.cons_cons _ (.cons_cons _ (.cons _ .slnil)))))))) (λhg304=>(q_move (v:=(pq g17)) rfl (optp_some rfl hz58))) ?_
            refine hg0 (i:=29) rfl (by kernel_rfl) rfl rfl rfl rfl rfl (bk_ (hl272.trans hl292) h0258 (.cons _ (.cons _ (.cons _ (.cons_cons _ (.cons_cons _ (.cons_cons _ (.cons _ .slnil)))))))) (λhg305=>(q_nil (A:=some ⟨g17,0,none⟩) rfl (gu hg305 rfl) rfl)) ?_
            refine hg0 (i:=30) rfl (by kernel_rfl) rfl rfl rfl rfl rfl (bk_ (hl272.trans hl292) h0258 (.cons _ (.cons _ (.cons _ (.cons_cons _ (.cons_cons _ (.cons_cons _ (.cons _ .slnil)))))))) (λhg306=>(q_fl 3 fld_59_3 rfl (gu hg306 rfl) rfl)) ?_
            refine hg0 (i:=31) rfl (by kernel_rfl) rfl rfl rfl rfl rfl (bk_ (hl272.trans hl292) h0258 (.cons _ (.cons _ (.cons _ (.cons_cons _ (.cons_cons _ (.cons_cons _ (.cons _ .slnil)))))))) (λhg307=>(q_ldl (i:=0) (v:=.slice A3_257 o172.vec.length c3_257) rfl rfl Tryz.isAgg22 (gu hg307 rfl) rfl)) ?_
            refine(Bool.eq_false_or_eq_true (!(!z300))).elim (λhb308=>?_) (λhb308=>?_)
            ·
             have h:=bt hb308 h
             refine ai (i:=27) (by kernel_rfl) rfl ?_
             refine WR.sat (c0:=true) (g:=(!z300)) rfl rfl rfl hb308 ?_
             obtain⟨z309,hz310,h⟩:=bnd h
             refine e_call (is:=[0]) rfl rfl (call_run Tryz.call33 rfl rfl (args1 (gu hb308 rfl))) rfl (λw hp=>t_pull_Pull_Vec (ho177.mono (hl272.trans hl292)) hp hz310) ?_
             rintro Γ311 U313 v314 hl312 ⟨A315,c316,row317,rfl,rfl,hr318,_⟩
             change WR _ _ _ (CC F Γ311 [row176,row317,row297,row277,[(g17,.cells #[.int .i64 o172.id,.slice A1_257 o172.own.length c1_257,.bool o172.begun,.slice A3_257 o172.vec.length c3_257,.slice A4_257 o172.paths.length c4_257,.slice A5_257 o172.in_.length c5_257] 59 (0,0))],r3_257,r4_257,row46]) _ _ (upd _ 195 (.slice A315 z309.length c316))
             refine ab ?_
             refine WH.next (bk_ ((hl272.trans hl292).trans hl312) h0258 (.cons _ (.cons _ (.cons _ (.cons _ (.cons_cons _ (.cons_cons _ (.cons_cons _ (.cons _ .slnil))))))))) ?_
             refine ai (i:=32) (by kernel_rfl) rfl ?_
             obtain⟨z320,hz321,h⟩:=bnd h
             refine vg0 rfl rfl rfl rfl rfl (λhg319=>(q_call (call_run Tryz.call17 rfl rfl (args2 rfl (gu hg319 rfl))) (λw hw=>t_firthref04_Same (Γ:=Gh.all w) (hr318.sl hw.sat.le_all (hw.ra 1 rfl)) hr318.capz ((ho3_257.mono ((hl272.trans hl292).trans hl312)).sl hw.sat.le_all (hw.ra 5 rfl)) (ho3_257.mono ((hl272.trans hl292).trans hl312)).capz (Sat.all w) (gc_of hz321 hg319)))) ?_
             refine ab ?_
             refine WH.next (bk_ ((hl272.trans hl292).trans hl312) h0258 (.cons _ (.cons _ (.cons _ (.cons _ (.cons_cons _ (.cons_cons _ (.cons_cons _ (.cons _ .slnil))))))))) ?_
             refine hg0 (i:=33) rfl (by kernel_rfl) rfl rfl rfl rfl rfl (bk_ ((hl272.trans hl292).trans hl312) h0258 (.cons _ (.cons _ (.cons _ (.cons _ (.cons_cons _ (.cons_cons _ (.cons_cons _ (.cons _ .slnil))))))))) (λhg322=>(q_not rfl (gu hg322 rfl))) ?_
             refine hu 34 rfl (bk_ ((hl272.trans hl292).trans hl312) h0258 (.cons _ (.cons _ (.cons _ (.cons _ (.cons_cons _ (.cons_cons _ (.cons_cons _ (.cons _ .slnil))))))))) (q_pick_f (v:=.bool (!z320)) rfl rfl (not_t hb308) (gu hb308 rfl)) ?_
             refine au (by kernel_rfl) ?_
             intro w hw
             have hw:=hw.fold (is:=[4,4,4]) rfl hrow_257
             exact⟨(!z320),Γ311,h,(sl_ (by kernel_rfl)),(hw.only (is:=[5,0,0]) rfl),((hl272.trans hl292).trans hl312),trivial⟩
            ·
             have h:=bf hb308 h
             refine hg0 (g:=(!z300)) (i:=27) (v:=undef) rfl (by kernel_rfl) rfl rfl rfl rfl rfl (bk_ (hl272.trans hl292) h0258 (.cons _ (.cons _ (.cons _ (.cons_cons _ (.cons_cons _ (.cons_cons _ (.cons _ .slnil)))))))) (no_tf hb308) ?_
             refine ar (v:=undef) (gv_false hb308) ?_
             refine hg0 (g:=(!z300)) (i:=32) (v:=undef) rfl (by kernel_rfl) rfl rfl rfl rfl rfl (bk_ (hl272.trans hl292) h0258 (.cons _ (.cons _ (.cons _ (.cons_cons _ (.cons_cons _ (.cons_cons _ (.cons _ .slnil)))))))) (no_tf hb308) ?_
             refine ar (v:=undef) (gv_false hb308) ?_
             refine hg0 (g:=(!z300)) (i:=33) (v:=undef) rfl (by kernel_rfl) rfl rfl rfl rfl rfl (bk_ (hl272.trans hl292) h0258 (.cons _ (.cons _ (.cons _ (.cons_cons _ (.cons_cons _ (.cons_cons _ (.cons _ .slnil)))))))) (no_tf hb308) ?_
             refine ar (v:=undef) (gv_false hb308) ?_
             refine hu 34 rfl (bk_ (hl272.trans hl292) h0258 (.cons _ (.cons _ (.cons _ (.cons_cons _ (.cons_cons _ (.cons_cons _ (.cons _ .slnil)))))))) (q_pick_t (v:=.bool true) rfl rfl (not_f hb308) (by kernel_rfl)) ?_
             refine au (by kernel_rfl) ?_
             intro w hw
             have hw:=hw.fold (is:=[3,3,3]) rfl hrow_257
             exact⟨true,Γ291,h,(sl_ (by kernel_rfl)),(hw.only (is:=[4,0,0]) rfl),(hl272.trans hl292),trivial⟩
           ·
            have h:=bf hb288 h
            refine hg0 (g:=(!z280)) (i:=17) (v:=undef) rfl (by kernel_rfl) rfl rfl rfl rfl rfl (bk_ hl272 h0258 (.cons _ (.cons _ (.cons_cons _ (.cons_cons _ (.cons_cons _ (.cons _ .slnil))))))) (no_tf hb288) ?_
            refine ar (v:=undef) (gv_false hb288) ?_
            refine hg0 (g:=(!z280)) (i:=22) (v:=undef) rfl (by kernel_rfl) rfl rfl rfl rfl rfl (bk_ hl272 h0258 (.cons _ (.cons _ (.cons_cons _ (.cons_cons _ (.cons_cons _ (.cons _ .slnil))))))) (no_tf hb288) ?_
            refine ar (v:=undef) (gv_false hb288) ?_
            refine hg0 (g:=(!z280)) (i:=23) (v:=undef) rfl (by kernel_rfl) rfl rfl rfl rfl rfl (bk_ hl272 h0258 (.cons _ (.cons _ (.cons_cons _ (.cons_cons _ (.cons_cons _ (.cons _ .slnil))))))) (no_tf hb288) ?_
            refine ar (v:=undef) (gv_false hb288) ?_
            refine hu 24 rfl (bk_ hl272 h0258 (.cons _ (.cons _ (.cons_cons _ (.cons_cons _ (.cons_cons _ (.cons _ .slnil))))))) (q_pick_t (v:=.bool true) rfl rfl (not_f hb288) (by kernel_rfl)) ?_
            refine hu 25 rfl (bk_ hl272 h0258 (.cons _ (.cons _ (.cons_cons _ (.cons_cons _ (.cons_cons _ (.cons _ .slnil))))))) (q_move (v:=.bool true) rfl (by kernel_rfl)) ?_
            refine hg0 (g:=true) (i:=26) (v:=undef) rfl (by kernel_rfl) rfl rfl rfl rfl rfl (bk_ hl272 h0258 (.cons _ (.cons _ (.cons_cons _ (.cons_cons _ (.cons_cons _ (.cons _ .slnil))))))) (no_tf (nott rfl)) ?_
            refine ar (v:=undef) (gv_false (nott rfl)) ?_
            refine hg0 (g:=true) (i:=27) (v:=undef) rfl (by kernel_rfl) rfl rfl rfl rfl rfl (bk_ hl272 h0258 (.cons _ (.cons _ (.cons_cons _ (.cons_cons _ (.cons_cons _ (.cons _ .slnil))))))) (no_tf (nott rfl)) ?_
            refine ar (v:=undef) (gv_false (nott rfl)) ?_
            refine hg0 (g:=true) (i:=28) (v:=undef) rfl (by kernel_rfl) rfl rfl rfl rfl rfl (bk_ hl272 h0258 (.cons _ (.cons _ (.cons_cons _ (.cons_cons _ (.cons_cons _ (.cons _ .slnil))))))) (no_tf (nott rfl)) ?_
            refine ar (v:=undef) (gv_false (nott rfl)) ?_
            refine hg0 (g:=true) (i:=29) (v:=undef) rfl (by kernel_rfl) rfl rfl rfl rfl rfl (bk_ hl272 h0258 (.cons _ (.cons _ (.cons_cons _ (.cons_cons _ (.cons_cons _ (.cons _ .slnil))))))) (no_tf (nott rfl)) ?_
            refine ar (v:=undef) (gv_false (nott rfl)) ?_
            refine hg0 (g:=true) (i:=30) (v:=undef) rfl (by kernel_rfl) rfl rfl rfl rfl rfl (bk_ hl272 h0258 (.cons _ (.cons _ (.cons_cons _ (.cons_cons _ (.cons_cons _ (.cons _ .slnil))))))) (no_tf (nott rfl)) ?_
            refine ar (v:=undef) (gv_false (nott rfl)) ?_
            refine hg0 (g:=true) (i:=31) (v:=undef) rfl (by kernel_rfl) rfl rfl rfl rfl rfl (bk_ hl272 h0258 (.cons _ (.cons _ (.cons_cons _ (.cons_cons _ (.cons_cons _ (.cons _ .slnil))))))) (no_tf (nott rfl)) ?_
            refine ar (v:=undef) (gv_false (nott rfl)) ?_
            refine hg0 (g:=true) (i:=32) (v:=undef) rfl (by kernel_rfl) rfl rfl rfl rfl rfl (bk_ hl272 h0258 (.cons _ (.cons _ (.cons_cons _ (.cons_cons _ (.cons_cons _ (.cons _ .slnil))))))) (no_tf (nott rfl)) ?_
            refine ar (v:=undef) (gv_false (nott rfl)) ?_
            refine hg0 (g:=true) (i:=33) (v:=undef) rfl (by kernel_rfl) rfl rfl rfl rfl rfl (bk_ hl272 h0258 (.cons _ (.cons _ (.cons_cons _ (.cons_cons _ (.cons_cons _ (.cons _ .slnil))))))) (no_tf (nott rfl)) ?_
            refine ar (v:=undef) (gv_false (nott rfl)) ?_
            refine hu 34 rfl (bk_ hl272 h0258 (.cons _ (.cons _ (.cons_cons _ (.cons_cons _ (.cons_cons _ (.cons _ .slnil))))))) (q_pickt (v:=.bool true) rfl rfl rfl) ?_
            refine au (by kernel_rfl) ?_
            intro w hw
            have hw:=hw.fold (is:=[2,2,2]) rfl hrow_257
            exact⟨true,Γ271,h,(sl_ (by kernel_rfl)),(hw.only (is:=[3,0,0]) rfl),hl272,trivial⟩
          ·
           have h:=bf hb268 h
           refine hg0 (g:=(z259 != z261)) (i:=7) (v:=undef) rfl (by kernel_rfl) rfl rfl rfl rfl rfl (bk_ (Gh.refl _) h0258 (.cons_cons _ (.cons_cons _ (.cons_cons _ (.cons _ (.cons _ .slnil)))))) (no_tf hb268) ?_
           refine ar (v:=undef) (gv_false hb268) ?_
           refine hg0 (g:=(z259 != z261)) (i:=12) (v:=undef) rfl (by kernel_rfl) rfl rfl rfl rfl rfl (bk_ (Gh.refl _) h0258 (.cons_cons _ (.cons_cons _ (.cons_cons _ (.cons _ (.cons _ .slnil)))))) (no_tf hb268) ?_
           refine ar (v:=undef) (gv_false hb268) ?_
           refine hg0 (g:=(z259 != z261)) (i:=13) (v:=undef) rfl (by kernel_rfl) rfl rfl rfl rfl rfl (bk_ (Gh.refl _) h0258 (.cons_cons _ (.cons_cons _ (.cons_cons _ (.cons _ (.cons _ .slnil)))))) (no_tf hb268) ?_
           refine ar (v:=undef) (gv_false hb268) ?_
           refine hu 14 rfl (bk_ (Gh.refl _) h0258 (.cons_cons _ (.cons_cons _ (.cons_cons _ (.cons _ (.cons _ .slnil)))))) (q_pick_t (v:=.bool true) rfl rfl (not_f hb268) (by kernel_rfl)) ?_
           refine hu 15 rfl (bk_ (Gh.refl _) h0258 (.cons_cons _ (.cons_cons _ (.cons_cons _ (.cons _ (.cons _ .slnil)))))) (q_move (v:=.bool true) rfl (by kernel_rfl)) ?_
           refine hg0 (g:=true) (i:=16) (v:=undef) rfl (by kernel_rfl) rfl rfl rfl rfl rfl (bk_ (Gh.refl _) h0258 (.cons_cons _ (.cons_cons _ (.cons_cons _ (.cons _ (.cons _ .slnil)))))) (no_tf (nott rfl)) ?_
           refine ar (v:=undef) (gv_false (nott rfl)) ?_
           refine hg0 (g:=true) (i:=17) (v:=undef) rfl (by kernel_rfl) rfl rfl rfl rfl rfl (bk_ (Gh.refl _) h0258 (.cons_cons _ (.cons_cons _ (.cons_cons _ (.cons _ (.cons _ .slnil)))))) (no_tf (nott rfl)) ?_
           refine ar (v:=undef) (gv_false (nott rfl)) ?_
           refine hg0 (g:=true) (i:=18) (v:=undef) rfl (by kernel_rfl) rfl rfl rfl rfl rfl (bk_ (Gh.refl _) h0258 (.cons_cons _ (.cons_cons _ (.cons_cons _ (.cons _ (.cons _ .slnil)))))) (no_tf (nott rfl)) ?_
           refine ar (v:=undef) (gv_false (nott rfl)) ?_
           refine hg0 (g:=true) (i:=19) (v:=undef) rfl (by kernel_rfl) rfl rfl rfl rfl rfl (bk_ (Gh.refl _) h0258 (.cons_cons _ (.cons_cons _ (.cons_cons _ (.cons _ (.cons _ .slnil)))))) (no_tf (nott rfl)) ?_
           refine ar (v:=undef) (gv_false (nott rfl)) ?_
           refine hg0 (g:=true) (i:=20) (v:=undef) rfl (by kernel_rfl) rfl rfl rfl rfl rfl (bk_ (Gh.refl _) h0258 (.cons_cons _ (.cons_cons _ (.cons_cons _ (.cons _ (.cons _ .slnil)))))) (no_tf (nott rfl)) ?_
           refine ar (v:=undef) (gv_false (nott rfl)) ?_
           refine hg0 (g:=true) (i:=21) (v:=undef) rfl (by kernel_rfl) rfl rfl rfl rfl rfl (bk_ (Gh.refl _) h0258 (.cons_cons _ (.cons_cons _ (.cons_cons _ (.cons _ (.cons _ .slnil)))))) (no_tf (nott rfl)) ?_
           refine ar (v:=undef) (gv_false (nott rfl)) ?_
           refine hg0 (g:=true) (i:=22) (v:=undef) rfl (by kernel_rfl) rfl rfl rfl rfl rfl (bk_ (Gh.refl _) h0258 (.cons_cons _ (.cons_cons _ (.cons_cons _ (.cons _ (.cons _ .slnil)))))) (no_tf (nott rfl)) ?_
           refine ar (v:=undef) (gv_false (nott rfl)) ?_
           refine hg0 (g:=true) (i:=23) (v:=undef) rfl (by kernel_rfl) rfl rfl rfl rfl rfl (bk_ (Gh.refl _) h0258 (.cons_cons _ (.cons_cons _ (.cons_cons _ (.cons _ (.cons _ .slnil)))))) (no_tf (nott rfl)) ?_
           refine ar (v:=undef) (gv_false (nott rfl)) ?_
           refine hu 24 rfl (bk_ (Gh.refl _) h0258 (.cons_cons _ (.cons_cons _ (.cons_cons _ (.cons _ (.cons _ .slnil)))))) (q_pickt (v:=.bool true) rfl rfl rfl) ?_
           refine hu 25 rfl (bk_ (Gh.refl _) h0258 (.cons_cons _ (.cons_cons _ (.cons_cons _ (.cons _ (.cons _ .slnil)))))) (q_move (v:=.bool true) rfl (by kernel_rfl)) ?_
           refine hg0 (g:=true) (i:=26) (v:=undef) rfl (by kernel_rfl) rfl rfl rfl rfl rfl (bk_ (Gh.refl _) h0258 (.cons_cons _ (.cons_cons _ (.cons_cons _ (.cons _ (.cons _ .slnil)))))) (no_tf (nott rfl)) ?_
           refine ar (v:=undef) (gv_false (nott rfl)) ?_
           refine hg0 (g:=true) (i:=27) (v:=undef) rfl (by kernel_rfl) rfl rfl rfl rfl rfl (bk_ (Gh.refl _) h0258 (.cons_cons _ (.cons_cons _ (.cons_cons _ (.cons _ (.cons _ .slnil)))))) (no_tf (nott rfl)) ?_
           refine ar (v:=undef) (gv_false (nott rfl)) ?_
           refine hg0 (g:=true) (i:=28) (v:=undef) rfl (by kernel_rfl) rfl rfl rfl rfl rfl (bk_ (Gh.refl _) h0258 (.cons_cons _ (.cons_cons _ (.cons_cons _ (.cons _ (.cons _ .slnil)))))) (no_tf (nott rfl)) ?_
           refine ar (v:=undef) (gv_false (nott rfl)) ?_
           refine hg0 (g:=true) (i:=29) (v:=undef) rfl (by kernel_rfl) rfl rfl rfl rfl rfl (bk_ (Gh.refl _) h0258 (.cons_cons _ (.cons_cons _ (.cons_cons _ (.cons _ (.cons _ .slnil)))))) (no_tf (nott rfl)) ?_
           refine ar (v:=undef) (gv_false (nott rfl)) ?_
           refine hg0 (g:=true) (i:=30) (v:=undef) rfl (by kernel_rfl) rfl rfl rfl rfl rfl (bk_ (Gh.refl _) h0258 (.cons_cons _ (.cons_cons _ (.cons_cons _ (.cons _ (.cons _ .slnil)))))) (no_tf (nott rfl)) ?_
           refine ar (v:=undef) (gv_false (nott rfl)) ?_
           refine hg0 (g:=true) (i:=31) (v:=undef) rfl (by kernel_rfl) rfl rfl rfl rfl rfl (bk_ (Gh.refl _) h0258 (.cons_cons _ (.cons_cons _ (.cons_cons _ (.cons _ (.cons _ .slnil)))))) (no_tf (nott rfl)) ?_
           refine ar (v:=undef) (gv_false (nott rfl)) ?_
           refine hg0 (g:=true) (i:=32) (v:=undef) rfl (by kernel_rfl) rfl rfl rfl rfl rfl (bk_ (Gh.refl _) h0258 (.cons_cons _ (.cons_cons _ (.cons_cons _ (.cons _ (.cons _ .slnil)))))) (no_tf (nott rfl)) ?_
           refine ar (v:=undef) (gv_false (nott rfl)) ?_
           refine hg0 (g:=true) (i:=33) (v:=undef) rfl (by kernel_rfl) rfl rfl rfl rfl rfl (bk_ (Gh.refl _) h0258 (.cons_cons _ (.cons_cons _ (.cons_cons _ (.cons _ (.cons _ .slnil)))))) (no_tf (nott rfl)) ?_
           refine ar (v:=undef) (gv_false (nott rfl)) ?_
           refine hu 34 rfl (bk_ (Gh.refl _) h0258 (.cons_cons _ (.cons_cons _ (.cons_cons _ (.cons _ (.cons _ .slnil)))))) (q_pickt (v:=.bool true) rfl rfl rfl) ?_
           refine au (by kernel_rfl) ?_
           intro w hw
           have hw:=hw.fold (is:=[0,0,0]) rfl hrow_257
           exact⟨true,Γ170,h,(sl_ (by kernel_rfl)),(hw.only (is:=[1,0,0]) rfl),(Gh.refl _),trivial⟩
         ·
          rintro σ w ⟨x_256,Γ254,h,hsl,hw,hl255,-⟩
          refine Wpt.slots hsl ?_
          refine aa (C:=CC F Γ254 [row46,row173,row176]) ?_ hw
          clear hw hsl
          refine aj h (by kernel_rfl) (λhb327 h=>?_) (λhb327 h=>?_)
          ·
           refine a7 ?_
           refine as_ (v:=.bool false) ?_
           refine a6 ?_
           refine ac ?_
           intro w hw
           cases h
           subst hF
           exact⟨by kernel_rfl,hw.fr⟩
          ·
           refine ae ?_
           change WC _ _ _ _ _ _
           refine ah ?_
           refine mv (v:=.int .i64 ((i72:Nat):Int)) ?_
           refine vb (q_add_r (r:=((i72+1:Nat):Int)) rfl rfl rfl (ctr_len hl77 (hscript.mono ((((hl4.trans hl14).trans hl35).trans hl42).trans hl64)).le)) ?_
           refine as_ (v:=.int .i64 ((i72+1:Nat):Int)) ?_
           exact ab λw hw=>⟨hl77,(o172,o175),h,Γ254,row173,row176,(sl_ (by kernel_rfl)),hw,((((hl64.trans hl89).trans hl128).trans hl171).trans hl255),(ho174.mono hl255),(ho177.mono hl255),trivial⟩
   ·
    have h:=hge75 (ige hb76)
    refine am ?_
    change WC _ _ _ _ _ _
    refine a7 ?_
    refine vb (q_move (v:=(pq g7)) rfl (optp_some rfl hz61)) ?_
    obtain⟨z328,hz329,h⟩:=bnd h
    refine vc rfl rfl rfl (q_call (call_run Tryz.call34 rfl rfl (by kernel_rfl)) (λw hw=>t_pull_Pull_Id (Γ:=Gh.all w) (ho70.mono hw.sat.le_all) (hw.ra 2 rfl) (Sat.all w) hz329)) ?_
    refine vb (q_eql rfl rfl rfl) ?_
    refine as_ (v:=.bool (z328==5)) ?_
    refine a6 ?_
    refine ac ?_
    intro w hw
    cases h
    subst hF
    exact⟨by kernel_rfl,hw.fr⟩
end Fw
end Go.Proofs.YtiakfgdgafljnaaGreat
