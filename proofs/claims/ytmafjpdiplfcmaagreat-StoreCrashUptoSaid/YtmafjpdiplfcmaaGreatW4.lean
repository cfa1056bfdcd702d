/- Walks through the functions that the law reaches (printed by a program). No condition. -/
import Derived.Test.YtmafjpdiplfcmaaGreatW3
namespace Go.Proofs.YtmafjpdiplfcmaaGreat
namespace Fw
set_option linter.unusedVariables false
set_option linter.unusedSimpArgs false
set_option linter.unusedSectionVars false
set_option maxRecDepth 100000
set_option maxHeartbeats 400000
open Go.RowKit
theorem t_firthref06_SameRecs {Γ : Gh} {w0 : World} {Aa : Option Addr} {ca : Nat} {a : List Rec} (ha : Sl recT Γ Aa a) (hac : a.length ≤ ca) {Ab : Option Addr} {cb : Nat} {b : List Rec} (hb : Sl recT Γ Ab b) (hbc : b.length ≤ cb) (hs : Sat Γ w0) {r : Bool} (h : m_firthref06_SameRecs a b = some r) : Calls Tryz.prog 28 #[.slice Aa a.length ca, .slice Ab b.length cb] w0 (fun e w' => e = .returned (.bool r) ∧ Fr no w0 w') := by
 refine calls_of (N := 42) (rs := [4]) (args := [.slice Aa a.length ca, .slice Ab b.length cb]) Tryz.func28 rfl Tryz.ntmps28 Tryz.results28 rfl ?_
 obtain ⟨F, hF⟩ : ∃ F : Fm, F = ⟨no, w0, Γ⟩ := ⟨_, rfl⟩
 refine WC.here (C := CC F Γ []) ?_ (hF ▸ Cur.start0 hs)
 refine WC.rs ?_
 refine as_ (v := .bool false) ?_
 refine WR.done ?_
 refine WC.seq ?_
 refine WC.rs ?_
 refine mv (v := .slice Aa a.length ca) ?_
 refine vb (q_len_slice rfl Tryz.underlying66 rfl) ?_
 refine mv (v := .slice Ab b.length cb) ?_
 refine vb (q_len_slice rfl Tryz.underlying66 rfl) ?_
 refine vb (q_neq rfl rfl rfl) ?_
 refine WR.done ?_
 refine WC.cif h (by kernel_rfl) (fun hb1 h => ?_) (fun hb1 h => ?_)
 ·
  refine WC.rs ?_
  refine as_ (v := .bool false) ?_
  refine WR.done ?_
  refine WC.ret ?_
  intro w hw
  obtain rfl := Option.some.inj h
  subst hF
  exact ⟨by kernel_rfl, hw.fr⟩
 ·
  refine WC.skip ?_
  change WC _ _ _ _ _ _
  refine WC.seq ?_
  refine WC.rs ?_
  refine as_ (v := .int .i64 0) ?_
  refine WR.done ?_
  refine WC.block ?_
  refine WC.forI h (fun (i3 : Nat) (s : Unit) σ w => match s with | () => slots σ [(0, .slice Aa a.length ca), (1, .slice Ab b.length cb), (5, .int .i64 ((i3 : Nat) : Int))] ∧ CC F Γ [] w ∧ True) ?_ ?_
  ·
   intro w hw
   exact ⟨(sl_ (by kernel_rfl)), hw, trivial⟩
  rintro f2 i3 ⟨⟩ σ w hi4 hlt5 hge6 ⟨hsl, hw, -⟩
  refine Wpt.slots hsl ?_
  refine WC.here (C := CC F Γ []) ?_ hw
  clear hw hsl
  refine WC.seq ?_
  refine WC.rs ?_
  refine mv (v := .int .i64 ((i3 : Nat) : Int)) ?_
  refine mv (v := .slice Aa a.length ca) ?_
  refine vb (q_len_slice rfl Tryz.underlying66 rfl) ?_
  refine vb (q_lss rfl rfl rfl) ?_
  refine WR.done ?_
  refine WC.cond (b := (decide (((i3 : Nat) : Int) < ((a.length : Nat) : Int)))) (by kernel_rfl) (fun hb7 => ?_) (fun hb7 => ?_)
  ·
   have hl8 := ilt hb7
   have h := hlt5 hl8
   refine WC.skip ?_
   change WC _ _ _ _ _ _
   refine WC.seq ?_
   refine WC.block ?_
   refine WC.seq ?_
   refine WC.dr (by kernel_rfl) (by kernel_rfl) (fun w hw => hw.drawn _) ?_
   refine wa rfl rfl rfl (q_move (v := .slice Aa a.length ca) rfl (by kernel_rfl)) ?_
   refine wa rfl rfl rfl (q_move (v := .int .i64 ((i3 : Nat) : Int)) rfl (by kernel_rfl)) ?_
   refine wa rfl rfl rfl (q_ixn (i := i3) Tryz.underlying66 Tryz.sizeOf24 rfl rfl rfl hl8 (ha.some_ hl8)) ?_
   refine wa rfl rfl rfl (q_field_addr (i3 * 2) fld_24_0 rfl rfl (ha.some_ hl8) rfl) ?_
   obtain ⟨A9, c10, hx11⟩ := ha.recT_at i3
   refine wa rfl rfl rfl (q_ld (c := 0) (v := .string (gt a i3).key) (hx11 hl8).2 rfl Tryz.isAgg9 rfl rfl) ?_
   refine wa rfl rfl rfl (q_move (v := .slice Ab b.length cb) rfl (by kernel_rfl)) ?_
   refine wa rfl rfl rfl (q_move (v := .int .i64 ((i3 : Nat) : Int)) rfl (by kernel_rfl)) ?_
   obtain ⟨hk12, h⟩ := chk_some h
   refine wa rfl rfl rfl (q_ixn (i := i3) Tryz.underlying66 Tryz.sizeOf24 rfl rfl rfl (of_decide_eq_true hk12) (hb.some_ (of_decide_eq_true hk12))) ?_
   refine wa rfl rfl rfl (q_field_addr (i3 * 2) fld_24_0 rfl rfl (hb.some_ (of_decide_eq_true hk12)) rfl) ?_
   obtain ⟨A13, c14, hx15⟩ := hb.recT_at i3
   refine wa rfl rfl rfl (q_ld (c := 0) (v := .string (gt b i3).key) (hx15 (of_decide_eq_true hk12)).2 rfl Tryz.isAgg9 rfl rfl) ?_
   refine wa rfl rfl rfl (q_sneq rfl rfl rfl) ?_
   refine wa rfl rfl rfl (q_move (v := .bool ((gt a i3).key != (gt b i3).key)) rfl (by kernel_rfl)) ?_
   refine wg0 rfl rfl rfl rfl rfl (fun hg16 => QV.qo (q_move (v := .slice Aa a.length ca) rfl (by kernel_rfl))) ?_
   refine wg0 rfl rfl rfl rfl rfl (fun hg17 => QV.qo (q_move (v := .int .i64 ((i3 : Nat) : Int)) rfl (by kernel_rfl))) ?_
   refine wg0 rfl rfl rfl rfl rfl (fun hg18 => QV.qo (q_ixn (i := i3) Tryz.underlying66 Tryz.sizeOf24 rfl (gu hg18 rfl) (gu hg18 rfl) hl8 (ha.some_ hl8))) ?_
   refine wg0 rfl rfl rfl rfl rfl (fun hg19 => QV.qo (q_field_addr (i3 * 2 + 1) fld_24_1 rfl (gu hg19 rfl) (ha.some_ hl8) rfl)) ?_
   refine wg0 rfl rfl rfl rfl rfl (fun hg20 => QV.qo (q_ld (c := 1) (v := .slice A9 ((gt a i3).vers).length c10) (hx11 hl8).2 rfl Tryz.isAgg22 (gu hg20 rfl) rfl)) ?_
   refine wg0 rfl rfl rfl rfl rfl (fun hg21 => QV.qo (q_move (v := .slice Ab b.length cb) rfl (by kernel_rfl))) ?_
   refine wg0 rfl rfl rfl rfl rfl (fun hg22 => QV.qo (q_move (v := .int .i64 ((i3 : Nat) : Int)) rfl (by kernel_rfl))) ?_
   refine wg0 rfl rfl rfl rfl rfl (fun hg23 => QV.qo (q_ixn (i := i3) Tryz.underlying66 Tryz.sizeOf24 rfl (gu hg23 rfl) (gu hg23 rfl) (of_decide_eq_true hk12) (hb.some_ (of_decide_eq_true hk12)))) ?_
   refine wg0 rfl rfl rfl rfl rfl (fun hg24 => QV.qo (q_field_addr (i3 * 2 + 1) fld_24_1 rfl (gu hg24 rfl) (hb.some_ (of_decide_eq_true hk12)) rfl)) ?_
   refine wg0 rfl rfl rfl rfl rfl (fun hg25 => QV.qo (q_ld (c := 1) (v := .slice A13 ((gt b i3).vers).length c14) (hx15 (of_decide_eq_true hk12)).2 rfl Tryz.isAgg22 (gu hg25 rfl) rfl)) ?_
   obtain ⟨z27, hz28, h⟩ := bnd h
   refine wg0 rfl rfl rfl rfl rfl (fun hg26 => (q_call (call_run Tryz.call13 rfl rfl (args2 (gu hg26 rfl) (gu hg26 rfl))) (fun w hw => t_firthref05_Same (Γ := Gh.all w) ((hx11 hl8).1.2.2.mono hw.sat.le_all) (hx11 hl8).1.2.1 ((hx15 (of_decide_eq_true hk12)).1.2.2.mono hw.sat.le_all) (hx15 (of_decide_eq_true hk12)).1.2.1 (Sat.all w) (gc_of hz28 hg26)))) ?_
   refine wg0 rfl rfl rfl rfl rfl (fun hg29 => QV.qo (q_not rfl (gu hg29 rfl))) ?_
   refine wa rfl rfl rfl (q_pick rfl rfl (pk_or' (g := ((gt a i3).key != (gt b i3).key)) (y := (!z27)))) ?_
   refine WQ.nil ?_
   change WC _ _ _ _ _ _
   refine WC.cif h (by kernel_rfl) (fun hb30 h => ?_) (fun hb30 h => ?_)
   ·
    refine WC.rs ?_
    refine as_ (v := .bool false) ?_
    refine WR.done ?_
    refine WC.ret ?_
    intro w hw
    obtain rfl := Option.some.inj h
    subst hF
    exact ⟨by kernel_rfl, hw.fr⟩
   ·
    refine WC.skip ?_
    change WC _ _ _ _ _ _
    refine WC.region ?_
    refine mv (v := .int .i64 ((i3 : Nat) : Int)) ?_
    refine vb (q_add_r (r := ((i3 + 1 : Nat) : Int)) rfl rfl rfl (ctr_len hl8 ha.le)) ?_
    refine as_ (v := .int .i64 ((i3 + 1 : Nat) : Int)) ?_
    refine WR.nil ?_
    intro w hw
    exact ⟨hl8, (), h, (sl_ (by kernel_rfl)), hw, trivial⟩
  ·
   have h := hge6 (ige hb7)
   refine WC.exit ?_
   change WC _ _ _ _ _ _
   refine WC.rs ?_
   refine as_ (v := .bool true) ?_
   refine WR.done ?_
   refine WC.ret ?_
   intro w hw
   obtain rfl := Option.some.inj h
   subst hF
   exact ⟨by kernel_rfl, hw.fr⟩
theorem t_firthlaw10_StoreCrash {Γ : Gh} {w0 : World} {Alist : Option Addr} {clist : Nat} {list : List Rec} (hlist : Sl recT Γ Alist list) (hlistc : list.length ≤ clist) {Afloor : Option Addr} {cfloor : Nat} {floor : List Int} (hfloor : Sl intT Γ Afloor floor) (hfloorc : floor.length ≤ cfloor) (fate0 : Int) (hfate0 : I64 fate0) (fate1 : Int) (hfate1 : I64 fate1) (hs : Sat Γ w0) {r : Bool} (h : m_firthlaw10_StoreCrash list floor fate0 fate1 = some r) : Calls Tryz.prog 5 #[.slice Alist list.length clist, .slice Afloor floor.length cfloor, .agg #[.int .i64 fate0, .int .i64 fate1]] w0 (fun e w' => e = .returned (.bool r) ∧ Fr no w0 w') := by
 refine calls_of (N := 105) (rs := [6]) (args := [.slice Alist list.length clist, .slice Afloor floor.length cfloor, .agg #[.int .i64 fate0, .int .i64 fate1]]) Tryz.func5 rfl Tryz.ntmps5 Tryz.results5 rfl ?_
 obtain ⟨F, hF⟩ : ∃ F : Fm, F = ⟨no, w0, Γ⟩ := ⟨_, rfl⟩
 refine WC.here (C := CC F Γ []) ?_ (hF ▸ Cur.start0 hs)
 refine WC.rs ?_
 refine e_box (v := .agg #[.int .i64 fate0, .int .i64 fate1]) rfl rfl rfl rfl (by kernel_rfl) ?_
 intro g1
 refine as_ (v := .bool false) ?_
 refine WR.done ?_
 refine WC.seq ?_
 refine WC.rs ?_
 obtain ⟨z2, hz3, h⟩ := bnd h
 refine vc rfl rfl rfl (q_call (call_run Tryz.call6 rfl rfl (by kernel_rfl)) (fun w hw => t_firthlaw10_awake (Γ := Gh.all w)  (Sat.all w) hz3)) ?_
 refine vb (q_not rfl rfl) ?_
 refine WR.done ?_
 refine WC.cif h (by kernel_rfl) (fun hb4 h => ?_) (fun hb4 h => ?_)
 ·
  refine WC.rs ?_
  refine as_ (v := .bool false) ?_
  refine WR.done ?_
  refine WC.ret ?_
  intro w hw
  obtain rfl := Option.some.inj h
  subst hF
  exact ⟨by kernel_rfl, hw.fr⟩
 ·
  refine WC.skip ?_
  change WC _ _ _ _ _ _
  refine WC.rs ?_
  obtain ⟨z5, hz6, h⟩ := bnd h
  refine e_call (is := []) rfl rfl (call_run Tryz.call8 rfl rfl (by kernel_rfl)) rfl (fun w hp => t_disk_New 1048576 (show I64 1048576 by decide) hp hz6) ?_
  rintro Γ7 U9 v10 hl8 ⟨g11, row12, rfl, rfl, hr13, _⟩
  change WR _ _ _ (CC F Γ7 [row12, [(g1, .cells #[.int .i64 fate0, .int .i64 fate1] 67 (0, 0))]]) _ _ (upd _ 18 ((pq g11)))
  refine as_ (v := (pq g11)) ?_
  refine WR.done ?_
  refine WC.rs ?_
  refine mv (v := (pq g11)) ?_
  obtain ⟨z14, hz15, h⟩ := bnd h
  refine e_call (is := [0]) rfl rfl (call_run Tryz.call9 rfl rfl (by kernel_rfl)) rfl (fun w hp => t_store_Open hr13 (⟨#[115]⟩ : ByteArray) (show (⟨#[115]⟩ : ByteArray).size ≤ lim by decide) 200 (show I64 200 by decide) hp hz15) ?_
  rintro Γ16 U18 v19 hl17 ⟨row20, g22, row23, rfl, rfl, hr21, hr24, hr25, _⟩
  change WR _ _ _ (CC F Γ16 [row20, row23, [(g1, .cells #[.int .i64 fate0, .int .i64 fate1] 67 (0, 0))]]) _ _ (upd _ 21 (.tuple #[optp z14.2.1 g22, .int .i64 z14.2.2]))
  refine mv (v := .tuple #[optp z14.2.1 g22, .int .i64 z14.2.2]) ?_
  refine vb (q_extract (v := optp z14.2.1 g22) rfl rfl rfl) ?_
  refine vb (q_extract (v := .int .i64 z14.2.2) rfl rfl rfl) ?_
  refine as_ (v := optp z14.2.1 g22) ?_
  refine as_ (v := .int .i64 z14.2.2) ?_
  refine WR.done ?_
  refine WC.seq ?_
  refine WC.rs ?_
  refine mv (v := optp z14.2.1 g22) ?_
  refine vb (q_opt_eql Tryz.underlying29 rfl rfl rfl) ?_
  refine mv (v := .bool (Option.isNone z14.2.1)) ?_
  refine vg0 rfl rfl rfl rfl rfl (fun hg26 => QV.qo (q_move (v := .int .i64 z14.2.2) rfl (by kernel_rfl))) ?_
  refine vg0 rfl rfl rfl rfl rfl (fun hg27 => QV.qo (q_neq rfl (gu hg27 rfl) rfl)) ?_
  refine vb (q_pick rfl rfl (pk_or' (g := (Option.isNone z14.2.1)) (y := (z14.2.2 != 0)))) ?_
  refine WR.done ?_
  refine WC.cif h (by kernel_rfl) (fun hb28 h => ?_) (fun hb28 h => ?_)
  ·
   refine WC.rs ?_
   refine as_ (v := .bool false) ?_
   refine WR.done ?_
   refine WC.ret ?_
   intro w hw
   obtain rfl := Option.some.inj h
   subst hF
   exact ⟨by kernel_rfl, hw.fr⟩
  ·
   obtain ⟨z29, hz30, h⟩ := bnd h
   have ho31 := optob_some hr24 hz30
   refine WC.skip ?_
   change WC _ _ _ _ _ _
   refine WC.seq ?_
   refine WC.rs ?_
   refine as_ (v := .int .i64 0) ?_
   refine WR.done ?_
   refine WC.block ?_
   refine WC.forI h (fun (i41 : Nat) (s : Odisk_Disk × Ostore_Store) σ w => match s with | (o34, o37) => ∃ (Γ32 : Gh), ∃ (row35 : Rowb), ∃ (row38 : Rowb), slots σ [(0, .slice Alist list.length clist), (1, .slice Afloor floor.length cfloor), (5, (pq g1)), (7, (pq g11)), (8, optp z14.2.1 g22), (10, .int .i64 ((i41 : Nat) : Int))] ∧ CC F Γ32 [row35, row38, [(g1, .cells #[.int .i64 fate0, .int .i64 fate1] 67 (0, 0))]] w ∧ Gh.le Γ16 Γ32 ∧ Odisk_Disk.ob 80 Γ32 g11 row35 o34 ∧ Ostore_Store.ob (86, g11) Γ32 g22 row38 o37 ∧ True) ?_ ?_
   ·
    intro w hw
    exact ⟨Γ16, row20, row23, (sl_ (by kernel_rfl)), hw, (Gh.refl _), hr21, ho31, trivial⟩
   rintro f40 i41 ⟨o34, o37⟩ σ w hi42 hlt43 hge44 ⟨Γ32, row35, row38, hsl, hw, hl33, ho36, ho39, -⟩
   refine Wpt.slots hsl ?_
   refine WC.here (C := CC F Γ32 [row35, row38, [(g1, .cells #[.int .i64 fate0, .int .i64 fate1] 67 (0, 0))]]) ?_ hw
   clear hw hsl
   refine WC.seq ?_
   refine WC.rs ?_
   refine mv (v := .int .i64 ((i41 : Nat) : Int)) ?_
   refine mv (v := .slice Alist list.length clist) ?_
   refine vb (q_len_slice rfl Tryz.underlying66 rfl) ?_
   refine vb (q_lss rfl rfl rfl) ?_
   refine WR.done ?_
   refine WC.cond (b := (decide (((i41 : Nat) : Int) < ((list.length : Nat) : Int)))) (by kernel_rfl) (fun hb45 => ?_) (fun hb45 => ?_)
   ·
    have hl46 := ilt hb45
    have h := hlt43 hl46
    refine WC.skip ?_
    change WC _ _ _ _ _ _
    refine WC.seq ?_
    refine WC.block ?_
    refine WC.region ?_
    refine vb (q_move (v := (pq g22)) rfl (optp_some rfl hz30)) ?_
    refine mv (v := .slice Alist list.length clist) ?_
    refine mv (v := .int .i64 ((i41 : Nat) : Int)) ?_
    refine vb (q_ixn (i := i41) Tryz.underlying66 Tryz.sizeOf24 rfl rfl rfl hl46 ((hlist.mono ((hl8.trans hl17).trans hl33)).some_ hl46)) ?_
    obtain ⟨A47, c48, hx49⟩ := (hlist.mono ((hl8.trans hl17).trans hl33)).recT_at i41
    refine vb (q_lda (c := 0) (vs := [.string (gt list i41).key, .slice A47 ((gt list i41).vers).length c48]) (hx49 hl46).2 rfl Tryz.isAgg24 Tryz.sizeOf24 rfl rfl rfl) ?_
    obtain ⟨z50, hz51, h⟩ := bnd h
    refine e_call (is := [1, 0]) rfl rfl (call_run Tryz.call11 rfl rfl (by kernel_rfl)) rfl (fun w hp => t_store_Store_Put ho39 (gt list i41) (hx49 hl46).1 ho36 hp hz51) ?_
    rintro Γ52 U54 v55 hl53 ⟨row56, row58, rfl, rfl, hr57, hr59, hr60, _⟩
    change WR _ _ _ (CC F Γ52 [row56, row58, [(g1, .cells #[.int .i64 fate0, .int .i64 fate1] 67 (0, 0))]]) _ _ (upd _ 41 (.int .i64 z50.2.2))
    refine WR.nil ?_
    change WC _ _ _ _ _ _
    refine WC.region ?_
    refine mv (v := .int .i64 ((i41 : Nat) : Int)) ?_
    refine vb (q_add_r (r := ((i41 + 1 : Nat) : Int)) rfl rfl rfl (ctr_len hl46 (hlist.mono ((hl8.trans hl17).trans hl33)).le)) ?_
    refine as_ (v := .int .i64 ((i41 + 1 : Nat) : Int)) ?_
    refine WR.nil ?_
    intro w hw
    exact ⟨hl46, (z50.2.1, z50.1), h, Γ52, row58, row56, (sl_ (by kernel_rfl)), (hw.only (is := [1, 0, 0]) rfl), (hl33.trans hl53), hr59, hr57, trivial⟩
   ·
    have h := hge44 (ige hb45)
    refine WC.exit ?_
    change WC _ _ _ _ _ _
    refine WC.rs ?_
    refine vb (q_move (v := (pq g22)) rfl (optp_some rfl hz30)) ?_
    obtain ⟨z61, hz62, h⟩ := bnd h
    refine e_call (is := [1]) rfl rfl (call_run Tryz.call27 rfl rfl (by kernel_rfl)) rfl (fun w hp => t_store_Store_Recs ho39 hp hz62) ?_
    rintro Γ63 U65 v66 hl64 ⟨A67, c68, row69, rfl, rfl, hr70, _⟩
    change WR _ _ _ (CC F Γ63 [row38, row69, row35, [(g1, .cells #[.int .i64 fate0, .int .i64 fate1] 67 (0, 0))]]) _ _ (upd _ 43 (.slice A67 z61.length c68))
    refine as_ (v := .slice A67 z61.length c68) ?_
    refine WR.done ?_
    refine WC.rs ?_
    refine mv (v := (pq g11)) ?_
    refine vb (q_ixa_ (0) Tryz.underlying67 Tryz.sizeOf3 rfl rfl rfl rfl rfl) ?_
    refine vb (q_ldl (i := 3) (v := .int .i64 fate0) rfl rfl Tryz.isAgg3 rfl rfl) ?_
    refine vb (q_ixa_ (1) Tryz.underlying67 Tryz.sizeOf3 rfl rfl rfl rfl rfl) ?_
    refine vb (q_ldl (i := 3) (v := .int .i64 fate1) rfl rfl Tryz.isAgg3 rfl rfl) ?_
    obtain ⟨z71, hz72, h⟩ := bnd h
    refine e_call (is := [2]) rfl rfl (call_run Tryz.call19 rfl rfl (by kernel_rfl)) rfl (fun w hp => t_disk_Disk_Crash (ho36.mono hl64) fate0 hfate0 fate1 hfate1 hp hz72) ?_
    rintro Γ73 U75 v76 hl74 ⟨row77, rfl, rfl, hr78, _⟩
    change WR _ _ _ (CC F Γ73 [row77, row38, row69, [(g1, .cells #[.int .i64 fate0, .int .i64 fate1] 67 (0, 0))]]) _ _ (upd _ 49 (.tuple #[]))
    refine WR.done ?_
    refine WC.rs ?_
    refine mv (v := (pq g11)) ?_
    obtain ⟨z79, hz80, h⟩ := bnd h
    refine e_call (is := [0]) rfl rfl (call_run Tryz.call9 rfl rfl (by kernel_rfl)) rfl (fun w hp => t_store_Open hr78 (⟨#[115]⟩ : ByteArray) (show (⟨#[115]⟩ : ByteArray).size ≤ lim by decide) 200 (show I64 200 by decide) hp hz80) ?_
    rintro Γ81 U83 v84 hl82 ⟨row85, g87, row88, rfl, rfl, hr86, hr89, hr90, _⟩
    change WR _ _ _ (CC F Γ81 [row85, row88, row38, row69, [(g1, .cells #[.int .i64 fate0, .int .i64 fate1] 67 (0, 0))]]) _ _ (upd _ 52 (.tuple #[optp z79.2.1 g87, .int .i64 z79.2.2]))
    refine mv (v := .tuple #[optp z79.2.1 g87, .int .i64 z79.2.2]) ?_
    refine vb (q_extract (v := optp z79.2.1 g87) rfl rfl rfl) ?_
    refine vb (q_extract (v := .int .i64 z79.2.2) rfl rfl rfl) ?_
    refine as_ (v := optp z79.2.1 g87) ?_
    refine as_ (v := .int .i64 z79.2.2) ?_
    refine WR.done ?_
    refine WC.seq ?_
    refine WC.rs ?_
    refine mv (v := optp z79.2.1 g87) ?_
    refine vb (q_opt_eql Tryz.underlying29 rfl rfl rfl) ?_
    refine mv (v := .bool (Option.isNone z79.2.1)) ?_
    refine vg0 rfl rfl rfl rfl rfl (fun hg91 => QV.qo (q_move (v := .int .i64 z79.2.2) rfl (by kernel_rfl))) ?_
    refine vg0 rfl rfl rfl rfl rfl (fun hg92 => QV.qo (q_neq rfl (gu hg92 rfl) rfl)) ?_
    refine vb (q_pick rfl rfl (pk_or' (g := (Option.isNone z79.2.1)) (y := (z79.2.2 != 0)))) ?_
    refine mv (v := .bool ((Option.isNone z79.2.1) || (z79.2.2 != 0))) ?_
    refine vg0 rfl rfl rfl rfl rfl (fun hg93 => QV.qo (q_move (v := optp z79.2.1 g87) rfl (by kernel_rfl))) ?_
    refine (Bool.eq_false_or_eq_true (!((Option.isNone z79.2.1) || (z79.2.2 != 0)))).elim (fun hb94 => ?_) (fun hb94 => ?_)
    ·
     have h := bt hb94 h
     obtain ⟨z95, hz96, h⟩ := bnd h
     have ho97 := optob_some hr89 hz96
     refine WR.sat (c0 := true) (g := ((Option.isNone z79.2.1) || (z79.2.2 != 0))) rfl rfl rfl hb94 ?_
     obtain ⟨z98, hz99, h⟩ := bnd h
     refine e_call (is := [1]) rfl rfl (call_run Tryz.call27 rfl rfl (args1 (optp_some (gu hb94 rfl) hz96))) rfl (fun w hp => t_store_Store_Recs ho97 hp hz99) ?_
     rintro Γ100 U102 v103 hl101 ⟨A104, c105, row106, rfl, rfl, hr107, _⟩
     change WR _ _ _ (CC F Γ100 [row88, row106, row85, row38, row69, [(g1, .cells #[.int .i64 fate0, .int .i64 fate1] 67 (0, 0))]]) _ _ (upd _ 63 (.slice A104 z98.length c105))
     refine WR.sat (c0 := true) (g := ((Option.isNone z79.2.1) || (z79.2.2 != 0))) rfl rfl rfl hb94 ?_
     refine mv (v := .slice A67 z61.length c68) ?_
     refine WR.sat (c0 := true) (g := ((Option.isNone z79.2.1) || (z79.2.2 != 0))) rfl rfl rfl hb94 ?_
     obtain ⟨z108, hz109, h⟩ := bnd h
     refine vc rfl rfl rfl (q_call (call_run Tryz.call28 rfl rfl (by kernel_rfl)) (fun w hw => t_firthref06_SameRecs (Γ := Gh.all w) (hr107.sl hw.sat.le_all (hw.ra 1 rfl)) hr107.capz ((hr70.mono ((hl74.trans hl82).trans hl101)).sl hw.sat.le_all (hw.ra 4 rfl)) (hr70.mono ((hl74.trans hl82).trans hl101)).capz (Sat.all w) hz109)) ?_
     refine WR.sat (c0 := true) (g := ((Option.isNone z79.2.1) || (z79.2.2 != 0))) rfl rfl rfl hb94 ?_
     refine vb (q_not rfl rfl) ?_
     refine vb (q_pick_f (v := .bool (!z108)) rfl rfl (not_t hb94) (by kernel_rfl)) ?_
     refine WR.done ?_
     refine WC.cif h (by kernel_rfl) (fun hb110 h => ?_) (fun hb110 h => ?_)
     ·
      refine WC.rs ?_
      refine as_ (v := .bool false) ?_
      refine WR.done ?_
      refine WC.ret ?_
      intro w hw
      obtain rfl := Option.some.inj h
      subst hF
      exact ⟨by kernel_rfl, hw.fr⟩
     ·
      refine WC.skip ?_
      change WC _ _ _ _ _ _
      refine WC.rs ?_
      refine vb (q_move (v := (pq g87)) rfl (optp_some rfl hz96)) ?_
      refine mv (v := .slice Afloor floor.length cfloor) ?_
      obtain ⟨z111, hz112, h⟩ := bnd h
      refine e_call (is := [0, 1]) rfl rfl (call_run Tryz.call17 rfl rfl (by kernel_rfl)) rfl (fun w hp => t_store_Store_Trim (ho97.mono hl101) (hfloor.mono ((((((hl8.trans hl17).trans hl33).trans hl64).trans hl74).trans hl82).trans hl101)) hfloorc (hr86.mono hl101) hp hz112) ?_
      rintro Γ113 U115 v116 hl114 ⟨row117, row119, rfl, rfl, hr118, hr120, hr121, _⟩
      change WR _ _ _ (CC F Γ113 [row117, row119, row106, row38, row69, [(g1, .cells #[.int .i64 fate0, .int .i64 fate1] 67 (0, 0))]]) _ _ (upd _ 70 (.int .i64 z111.2.2))
      refine as_ (v := .int .i64 z111.2.2) ?_
      refine WR.done ?_
      refine WC.rs ?_
      refine vb (q_move (v := (pq g87)) rfl (optp_some rfl hz96)) ?_
      obtain ⟨z122, hz123, h⟩ := bnd h
      refine e_call (is := [0]) rfl rfl (call_run Tryz.call27 rfl rfl (by kernel_rfl)) rfl (fun w hp => t_store_Store_Recs hr118 hp hz123) ?_
      rintro Γ124 U126 v127 hl125 ⟨A128, c129, row130, rfl, rfl, hr131, _⟩
      change WR _ _ _ (CC F Γ124 [row117, row130, row119, row106, row38, row69, [(g1, .cells #[.int .i64 fate0, .int .i64 fate1] 67 (0, 0))]]) _ _ (upd _ 72 (.slice A128 z122.length c129))
      refine as_ (v := .slice A128 z122.length c129) ?_
      refine WR.done ?_
      refine WC.rs ?_
      refine mv (v := (pq g11)) ?_
      refine vb (q_ixa_ (0) Tryz.underlying67 Tryz.sizeOf3 rfl rfl rfl rfl rfl) ?_
      refine vb (q_ldl (i := 6) (v := .int .i64 fate0) rfl rfl Tryz.isAgg3 rfl rfl) ?_
      refine vb (q_ixa_ (1) Tryz.underlying67 Tryz.sizeOf3 rfl rfl rfl rfl rfl) ?_
      refine vb (q_ldl (i := 6) (v := .int .i64 fate1) rfl rfl Tryz.isAgg3 rfl rfl) ?_
      obtain ⟨z132, hz133, h⟩ := bnd h
      refine e_call (is := [2]) rfl rfl (call_run Tryz.call19 rfl rfl (by kernel_rfl)) rfl (fun w hp => t_disk_Disk_Crash (hr120.mono hl125) fate0 hfate0 fate1 hfate1 hp hz133) ?_
      rintro Γ134 U136 v137 hl135 ⟨row138, rfl, rfl, hr139, _⟩
      change WR _ _ _ (CC F Γ134 [row138, row117, row130, row106, row38, row69, [(g1, .cells #[.int .i64 fate0, .int .i64 fate1] 67 (0, 0))]]) _ _ (upd _ 78 (.tuple #[]))
      refine WR.done ?_
      refine WC.rs ?_
      refine mv (v := (pq g11)) ?_
      obtain ⟨z140, hz141, h⟩ := bnd h
      refine e_call (is := [0]) rfl rfl (call_run Tryz.call9 rfl rfl (by kernel_rfl)) rfl (fun w hp => t_store_Open hr139 (⟨#[115]⟩ : ByteArray) (show (⟨#[115]⟩ : ByteArray).size ≤ lim by decide) 200 (show I64 200 by decide) hp hz141) ?_
      rintro Γ142 U144 v145 hl143 ⟨row146, g148, row149, rfl, rfl, hr147, hr150, hr151, _⟩
      change WR _ _ _ (CC F Γ142 [row146, row149, row117, row130, row106, row38, row69, [(g1, .cells #[.int .i64 fate0, .int .i64 fate1] 67 (0, 0))]]) _ _ (upd _ 81 (.tuple #[optp z140.2.1 g148, .int .i64 z140.2.2]))
      refine mv (v := .tuple #[optp z140.2.1 g148, .int .i64 z140.2.2]) ?_
      refine vb (q_extract (v := optp z140.2.1 g148) rfl rfl rfl) ?_
      refine vb (q_extract (v := .int .i64 z140.2.2) rfl rfl rfl) ?_
      refine as_ (v := optp z140.2.1 g148) ?_
      refine as_ (v := .int .i64 z140.2.2) ?_
      refine WR.done ?_
      refine WC.rs ?_
      refine mv (v := .int .i64 z140.2.2) ?_
      refine vb (q_eql rfl rfl rfl) ?_
      refine mv (v := .bool (z140.2.2 == 0)) ?_
      refine vg1 rfl rfl rfl rfl rfl (fun hg152 => QV.qo (q_move (v := optp z140.2.1 g148) rfl (by kernel_rfl))) ?_
      refine vg1 rfl rfl rfl rfl rfl (fun hg153 => QV.qo (q_opt_neq Tryz.underlying29 rfl (gu hg153 rfl) rfl)) ?_
      refine vb (q_pick rfl rfl (pk_and' (g := (z140.2.2 == 0)) (y := (!(Option.isNone z140.2.1))))) ?_
      refine mv (v := .bool ((z140.2.2 == 0) && (!(Option.isNone z140.2.1)))) ?_
      refine vg1 rfl rfl rfl rfl rfl (fun hg154 => QV.qo (q_move (v := optp z140.2.1 g148) rfl (by kernel_rfl))) ?_
      refine (Bool.eq_false_or_eq_true ((z140.2.2 == 0) && (!(Option.isNone z140.2.1)))).elim (fun hb155 => ?_) (fun hb155 => ?_)
      ·
       have h := bt hb155 h
       obtain ⟨z156, hz157, h⟩ := bnd h
       have ho158 := optob_some hr150 hz157
       refine WR.sat (c0 := true) (g := ((z140.2.2 == 0) && (!(Option.isNone z140.2.1)))) rfl rfl rfl hb155 ?_
       obtain ⟨z159, hz160, h⟩ := bnd h
       refine e_call (is := [1]) rfl rfl (call_run Tryz.call27 rfl rfl (args1 (optp_some (gu hb155 rfl) hz157))) rfl (fun w hp => t_store_Store_Recs ho158 hp hz160) ?_
       rintro Γ161 U163 v164 hl162 ⟨A165, c166, row167, rfl, rfl, hr168, _⟩
       change WR _ _ _ (CC F Γ161 [row149, row167, row146, row117, row130, row106, row38, row69, [(g1, .cells #[.int .i64 fate0, .int .i64 fate1] 67 (0, 0))]]) _ _ (upd _ 92 (.slice A165 z159.length c166))
       refine WR.sat (c0 := true) (g := ((z140.2.2 == 0) && (!(Option.isNone z140.2.1)))) rfl rfl rfl hb155 ?_
       refine mv (v := .slice A128 z122.length c129) ?_
       refine WR.sat (c0 := true) (g := ((z140.2.2 == 0) && (!(Option.isNone z140.2.1)))) rfl rfl rfl hb155 ?_
       obtain ⟨z169, hz170, h⟩ := bnd h
       refine vc rfl rfl rfl (q_call (call_run Tryz.call28 rfl rfl (by kernel_rfl)) (fun w hw => t_firthref06_SameRecs (Γ := Gh.all w) (hr168.sl hw.sat.le_all (hw.ra 1 rfl)) hr168.capz ((hr131.mono ((hl135.trans hl143).trans hl162)).sl hw.sat.le_all (hw.ra 4 rfl)) (hr131.mono ((hl135.trans hl143).trans hl162)).capz (Sat.all w) hz170)) ?_
       refine vb (q_pick_t (v := .bool z169) rfl rfl hb155 (by kernel_rfl)) ?_
       refine mv (v := .bool z169) ?_
       refine vg1 rfl rfl rfl rfl rfl (fun hg171 => QV.qo (q_move (v := .int .i64 z111.2.2) rfl (by kernel_rfl))) ?_
       refine vg1 rfl rfl rfl rfl rfl (fun hg172 => QV.qo (q_eql rfl (gu hg172 rfl) rfl)) ?_
       refine vg1 rfl rfl rfl rfl rfl (fun hg173 => QV.qo (q_move (v := .bool (z111.2.2 == 0)) rfl (gu hg173 rfl))) ?_
       refine vh0 (c0 := z169) (g := (z111.2.2 == 0)) rfl rfl rfl rfl rfl (fun hg174 => QV.qo (q_move (v := .slice A128 z122.length c129) rfl (by kernel_rfl))) ?_
       refine vh0 (c0 := z169) (g := (z111.2.2 == 0)) rfl rfl rfl rfl rfl (fun hg175 => QV.qo (q_move (v := .slice A67 z61.length c68) rfl (by kernel_rfl))) ?_
       obtain ⟨z177, hz178, h⟩ := bnd h
       refine vh0 (c0 := z169) (g := (z111.2.2 == 0)) rfl rfl rfl rfl rfl (fun hg176 => (q_call (call_run Tryz.call28 rfl rfl (args2 (gu hg176 rfl) (gu hg176 rfl))) (fun w hw => t_firthref06_SameRecs (Γ := Gh.all w) ((hr131.mono ((hl135.trans hl143).trans hl162)).sl hw.sat.le_all (hw.ra 4 rfl)) (hr131.mono ((hl135.trans hl143).trans hl162)).capz ((hr70.mono (((((((hl74.trans hl82).trans hl101).trans hl114).trans hl125).trans hl135).trans hl143).trans hl162)).sl hw.sat.le_all (hw.ra 7 rfl)) (hr70.mono (((((((hl74.trans hl82).trans hl101).trans hl114).trans hl125).trans hl135).trans hl143).trans hl162)).capz (Sat.all w) (gc_of hz178 hg176)))) ?_
       refine vg1 rfl rfl rfl rfl rfl (fun hg179 => QV.qo (q_pick rfl (gu hg179 rfl) (pk_or (c := z169) (g := (z111.2.2 == 0)) (y := z177) hg179))) ?_
       refine vb (q_pick rfl rfl (pk_and' (g := z169) (y := ((z111.2.2 == 0) || z177)))) ?_
       refine as_ (v := .bool (z169 && ((z111.2.2 == 0) || z177))) ?_
       refine WR.done ?_
       refine WC.ret ?_
       intro w hw
       obtain rfl := Option.some.inj h
       subst hF
       exact ⟨by kernel_rfl, hw.fr⟩
      ·
       have h := bf hb155 h
       refine WR.unsat (c0 := true) (g := ((z140.2.2 == 0) && (!(Option.isNone z140.2.1)))) rfl rfl rfl hb155 rfl ?_
       refine WR.unsat (c0 := true) (g := ((z140.2.2 == 0) && (!(Option.isNone z140.2.1)))) rfl rfl rfl hb155 rfl ?_
       refine WR.unsat (c0 := true) (g := ((z140.2.2 == 0) && (!(Option.isNone z140.2.1)))) rfl rfl rfl hb155 rfl ?_
       refine vb (q_pick_f (v := .bool false) rfl rfl hb155 (by kernel_rfl)) ?_
       refine mv (v := .bool false) ?_
       refine WR.unsat (c0 := true) (g := false) rfl rfl rfl rfl rfl ?_
       refine WR.unsat (c0 := true) (g := false) rfl rfl rfl rfl rfl ?_
       refine WR.unsat (c0 := true) (g := false) rfl rfl rfl rfl rfl ?_
       refine WR.unsat (c0 := false) (g := true) rfl rfl rfl rfl rfl ?_
       refine WR.unsat (c0 := false) (g := true) rfl rfl rfl rfl rfl ?_
       refine WR.unsat (c0 := false) (g := true) rfl rfl rfl rfl rfl ?_
       refine WR.unsat (c0 := true) (g := false) rfl rfl rfl rfl rfl ?_
       refine vb (q_pickf (v := .bool false) rfl rfl rfl) ?_
       refine as_ (v := .bool false) ?_
       refine WR.done ?_
       refine WC.ret ?_
       intro w hw
       obtain rfl := Option.some.inj h
       subst hF
       exact ⟨by kernel_rfl, hw.fr⟩
    ·
     have h := bf hb94 h
     refine WR.unsat (c0 := true) (g := ((Option.isNone z79.2.1) || (z79.2.2 != 0))) rfl rfl rfl hb94 rfl ?_
     refine WR.unsat (c0 := true) (g := ((Option.isNone z79.2.1) || (z79.2.2 != 0))) rfl rfl rfl hb94 rfl ?_
     refine WR.unsat (c0 := true) (g := ((Option.isNone z79.2.1) || (z79.2.2 != 0))) rfl rfl rfl hb94 rfl ?_
     refine WR.unsat (c0 := true) (g := ((Option.isNone z79.2.1) || (z79.2.2 != 0))) rfl rfl rfl hb94 rfl ?_
     refine vb (q_pick_t (v := .bool true) rfl rfl (not_f hb94) (by kernel_rfl)) ?_
     refine WR.done ?_
     refine WC.ctk (b := true) (by kernel_rfl) rfl ?_
     refine WC.rs ?_
     refine as_ (v := .bool false) ?_
     refine WR.done ?_
     refine WC.ret ?_
     intro w hw
     obtain rfl := Option.some.inj h
     subst hF
     exact ⟨by kernel_rfl, hw.fr⟩
end Fw
end Go.Proofs.YtmafjpdiplfcmaaGreat
