/- Walks through the functions that the law reaches (printed by a program). No condition. -/
import Derived.Test.YtiakfgdgafljnaaGreatW2
namespace Go.Proofs.YtiakfgdgafljnaaGreat
namespace Fw
set_option linter.unusedVariables false
set_option linter.unusedSimpArgs false
set_option linter.unusedSectionVars false
set_option maxRecDepth 100000
set_option maxHeartbeats 400000
open Go.RowKit
theorem t_firthref03_Same {Γ : Gh} {w0 : World} {Aa : Option Addr} {ca : Nat} {a : List Span} (ha : Sl spanT Γ Aa a) (hac : a.length ≤ ca) {Ab : Option Addr} {cb : Nat} {b : List Span} (hb : Sl spanT Γ Ab b) (hbc : b.length ≤ cb) (hs : Sat Γ w0) {r : Bool} (h : m_firthref03_Same a b = some r) : Calls Tryz.prog 88 #[.slice Aa a.length ca, .slice Ab b.length cb] w0 (fun e w' => e = .returned (.bool r) ∧ Fr no w0 w') := by
 refine calls_of (N := 26) (rs := [4]) (args := [.slice Aa a.length ca, .slice Ab b.length cb]) Tryz.func88 rfl Tryz.ntmps88 Tryz.results88 rfl ?_
 obtain ⟨F, hF⟩ : ∃ F : Fm, F = ⟨no, w0, Γ⟩ := ⟨_, rfl⟩
 refine WC.here (C := CC F Γ []) ?_ (hF ▸ Cur.start0 hs)
 refine WC.rs ?_
 refine as_ (v := .bool false) ?_
 refine WR.done ?_
 refine WC.seq ?_
 refine WC.rs ?_
 refine mv (v := .slice Aa a.length ca) ?_
 refine vb (q_len_slice rfl Tryz.underlying113 rfl) ?_
 refine mv (v := .slice Ab b.length cb) ?_
 refine vb (q_len_slice rfl Tryz.underlying113 rfl) ?_
 refine vb (q_neq rfl rfl rfl) ?_
 refine WR.done ?_
 refine WC.cif h (by kernel_rfl) (fun hb1 h => ?_) (fun hb1 h => ?_)
 ·
  refine WC.rs ?_
  refine as_ (v := .bool false) ?_
  refine WR.done ?_
  refine WC.ret ?_
  intro w hw
  obtain rfl := Option.some.inj h
  subst hF
  exact ⟨by kernel_rfl, hw.fr⟩
 ·
  refine WC.skip ?_
  change WC _ _ _ _ _ _
  refine WC.seq ?_
  refine WC.rs ?_
  refine as_ (v := .int .i64 0) ?_
  refine WR.done ?_
  refine WC.block ?_
  refine WC.forI h (fun (i3 : Nat) (s : Unit) σ w => match s with | () => slots σ [(0, .slice Aa a.length ca), (1, .slice Ab b.length cb), (5, .int .i64 ((i3 : Nat) : Int))] ∧ CC F Γ [] w ∧ True) ?_ ?_
  ·
   intro w hw
   exact ⟨(sl_ (by kernel_rfl)), hw, trivial⟩
  rintro f2 i3 ⟨⟩ σ w hi4 hlt5 hge6 ⟨hsl, hw, -⟩
  refine Wpt.slots hsl ?_
  refine WC.here (C := CC F Γ []) ?_ hw
  clear hw hsl
  refine WC.seq ?_
  refine WC.rs ?_
  refine mv (v := .int .i64 ((i3 : Nat) : Int)) ?_
  refine mv (v := .slice Aa a.length ca) ?_
  refine vb (q_len_slice rfl Tryz.underlying113 rfl) ?_
  refine vb (q_lss rfl rfl rfl) ?_
  refine WR.done ?_
  refine WC.cond (b := (decide (((i3 : Nat) : Int) < ((a.length : Nat) : Int)))) (by kernel_rfl) (fun hb7 => ?_) (fun hb7 => ?_)
  ·
   have hl8 := ilt hb7
   have h := hlt5 hl8
   refine WC.skip ?_
   change WC _ _ _ _ _ _
   refine WC.seq ?_
   refine WC.block ?_
   refine WC.seq ?_
   refine WC.dr (by kernel_rfl) (by kernel_rfl) (fun w hw => hw.drawn _) ?_
   refine wa rfl rfl rfl (q_move (v := .slice Aa a.length ca) rfl (by kernel_rfl)) ?_
   refine wa rfl rfl rfl (q_move (v := .int .i64 ((i3 : Nat) : Int)) rfl (by kernel_rfl)) ?_
   refine wa rfl rfl rfl (q_ixn (i := i3) Tryz.underlying113 Tryz.sizeOf117 rfl rfl rfl hl8 (ha.some_ hl8)) ?_
   refine wa rfl rfl rfl (q_lda (c := 0) (vs := [.int .i64 (gt a i3).s, .int .i64 (gt a i3).f, .int .i64 (gt a i3).t]) (ha.spanT_at hl8).2 rfl Tryz.isAgg117 Tryz.sizeOf117 rfl rfl rfl) ?_
   refine wa rfl rfl rfl (q_move (v := .slice Ab b.length cb) rfl (by kernel_rfl)) ?_
   refine wa rfl rfl rfl (q_move (v := .int .i64 ((i3 : Nat) : Int)) rfl (by kernel_rfl)) ?_
   obtain ⟨hk9, h⟩ := chk_some h
   refine wa rfl rfl rfl (q_ixn (i := i3) Tryz.underlying113 Tryz.sizeOf117 rfl rfl rfl (of_decide_eq_true hk9) (hb.some_ (of_decide_eq_true hk9))) ?_
   refine wa rfl rfl rfl (q_lda (c := 0) (vs := [.int .i64 (gt b i3).s, .int .i64 (gt b i3).f, .int .i64 (gt b i3).t]) (hb.spanT_at (of_decide_eq_true hk9)).2 rfl Tryz.isAgg117 Tryz.sizeOf117 rfl rfl rfl) ?_
   refine wa rfl rfl rfl (q_neq_Span (a := (gt a i3)) (b := (gt b i3)) rfl rfl rfl) ?_
   refine WQ.nil ?_
   change WC _ _ _ _ _ _
   refine WC.cif h (by kernel_rfl) (fun hb10 h => ?_) (fun hb10 h => ?_)
   ·
    refine WC.rs ?_
    refine as_ (v := .bool false) ?_
    refine WR.done ?_
    refine WC.ret ?_
    intro w hw
    obtain rfl := Option.some.inj h
    subst hF
    exact ⟨by kernel_rfl, hw.fr⟩
   ·
    refine WC.skip ?_
    change WC _ _ _ _ _ _
    refine WC.region ?_
    refine mv (v := .int .i64 ((i3 : Nat) : Int)) ?_
    refine vb (q_add_r (r := ((i3 + 1 : Nat) : Int)) rfl rfl rfl (ctr_len hl8 ha.le)) ?_
    refine as_ (v := .int .i64 ((i3 + 1 : Nat) : Int)) ?_
    refine WR.nil ?_
    intro w hw
    exact ⟨hl8, (), h, (sl_ (by kernel_rfl)), hw, trivial⟩
  ·
   have h := hge6 (ige hb7)
   refine WC.exit ?_
   change WC _ _ _ _ _ _
   refine WC.rs ?_
   refine as_ (v := .bool true) ?_
   refine WR.done ?_
   refine WC.ret ?_
   intro w hw
   obtain rfl := Option.some.inj h
   subst hF
   exact ⟨by kernel_rfl, hw.fr⟩
theorem t_firthref05_SameOne {Γ : Gh} {w0 : World} {Aa2 : Option Addr} {ca2 : Nat} (a : Ver) (ha : Ver.fits Γ Aa2 ca2 a) {Ab2 : Option Addr} {cb2 : Nat} (b : Ver) (hb : Ver.fits Γ Ab2 cb2 b) (hs : Sat Γ w0) {r : Bool} (h : m_firthref05_SameOne a b = some r) : Calls Tryz.prog 72 #[.agg #[.int .i64 a.dot.s, .int .i64 a.dot.n, .slice Aa2 a.past.length ca2, .bool a.gone, .string a.val], .agg #[.int .i64 b.dot.s, .int .i64 b.dot.n, .slice Ab2 b.past.length cb2, .bool b.gone, .string b.val]] w0 (fun e w' => e = .returned (.bool r) ∧ Fr no w0 w') := by
 refine calls_of (N := 31) (rs := [4]) (args := [.agg #[.int .i64 a.dot.s, .int .i64 a.dot.n, .slice Aa2 a.past.length ca2, .bool a.gone, .string a.val], .agg #[.int .i64 b.dot.s, .int .i64 b.dot.n, .slice Ab2 b.past.length cb2, .bool b.gone, .string b.val]]) Tryz.func72 rfl Tryz.ntmps72 Tryz.results72 rfl ?_
 obtain ⟨F, hF⟩ : ∃ F : Fm, F = ⟨no, w0, Γ⟩ := ⟨_, rfl⟩
 refine WC.here (C := CC F Γ []) ?_ (hF ▸ Cur.start0 hs)
 refine WC.rs ?_
 refine e_box (v := .agg #[.int .i64 a.dot.s, .int .i64 a.dot.n, .slice Aa2 a.past.length ca2, .bool a.gone, .string a.val]) rfl rfl rfl rfl (by kernel_rfl) ?_
 intro g1
 refine e_box (v := .agg #[.int .i64 b.dot.s, .int .i64 b.dot.n, .slice Ab2 b.past.length cb2, .bool b.gone, .string b.val]) rfl rfl rfl rfl (by kernel_rfl) ?_
 intro g2
 refine as_ (v := .bool false) ?_
 refine WR.done ?_
 refine WC.rs ?_
 refine vb (q_fl 0 fld_115_0 rfl rfl rfl) ?_
 refine vb (q_ldla (i := 1) (vs := [.int .i64 a.dot.s, .int .i64 a.dot.n]) rfl rfl Tryz.isAgg112 Tryz.sizeOf112 rfl rfl) ?_
 refine vb (q_fl 0 fld_115_0 rfl rfl rfl) ?_
 refine vb (q_ldla (i := 0) (vs := [.int .i64 b.dot.s, .int .i64 b.dot.n]) rfl rfl Tryz.isAgg112 Tryz.sizeOf112 rfl rfl) ?_
 refine vb (q_eql_Dot (a := a.dot) (b := b.dot) rfl rfl rfl) ?_
 refine mv (v := .bool (a.dot == b.dot)) ?_
 refine vg1 rfl rfl rfl rfl rfl (fun hg3 => QV.qo (q_fl 3 fld_115_2 rfl rfl rfl)) ?_
 refine vg1 rfl rfl rfl rfl rfl (fun hg4 => QV.qo (q_ldl (i := 1) (v := .bool a.gone) rfl rfl Tryz.isAgg4 (gu hg4 rfl) rfl)) ?_
 refine vg1 rfl rfl rfl rfl rfl (fun hg5 => QV.qo (q_fl 3 fld_115_2 rfl rfl rfl)) ?_
 refine vg1 rfl rfl rfl rfl rfl (fun hg6 => QV.qo (q_ldl (i := 0) (v := .bool b.gone) rfl rfl Tryz.isAgg4 (gu hg6 rfl) rfl)) ?_
 refine vg1 rfl rfl rfl rfl rfl (fun hg7 => QV.qo (q_beql Tryz.underlying4 rfl (gu hg7 rfl) (gu hg7 rfl))) ?_
 refine vb (q_pick rfl rfl (pk_and' (g := (a.dot == b.dot)) (y := (a.gone == b.gone)))) ?_
 refine mv (v := .bool ((a.dot == b.dot) && (a.gone == b.gone))) ?_
 refine vg1 rfl rfl rfl rfl rfl (fun hg8 => QV.qo (q_fl 4 fld_115_3 rfl rfl rfl)) ?_
 refine vg1 rfl rfl rfl rfl rfl (fun hg9 => QV.qo (q_ldl (i := 1) (v := .string a.val) rfl rfl Tryz.isAgg9 (gu hg9 rfl) rfl)) ?_
 refine vg1 rfl rfl rfl rfl rfl (fun hg10 => QV.qo (q_fl 4 fld_115_3 rfl rfl rfl)) ?_
 refine vg1 rfl rfl rfl rfl rfl (fun hg11 => QV.qo (q_ldl (i := 0) (v := .string b.val) rfl rfl Tryz.isAgg9 (gu hg11 rfl) rfl)) ?_
 refine vg1 rfl rfl rfl rfl rfl (fun hg12 => QV.qo (q_seql rfl (gu hg12 rfl) (gu hg12 rfl))) ?_
 refine vb (q_pick rfl rfl (pk_and' (g := ((a.dot == b.dot) && (a.gone == b.gone))) (y := (a.val == b.val)))) ?_
 refine mv (v := .bool (((a.dot == b.dot) && (a.gone == b.gone)) && (a.val == b.val))) ?_
 refine vg1 rfl rfl rfl rfl rfl (fun hg13 => QV.qo (q_fl 2 fld_115_1 rfl rfl rfl)) ?_
 refine vg1 rfl rfl rfl rfl rfl (fun hg14 => QV.qo (q_ldl (i := 1) (v := .slice Aa2 a.past.length ca2) rfl rfl Tryz.isAgg113 (gu hg14 rfl) rfl)) ?_
 refine vg1 rfl rfl rfl rfl rfl (fun hg15 => QV.qo (q_fl 2 fld_115_1 rfl rfl rfl)) ?_
 refine vg1 rfl rfl rfl rfl rfl (fun hg16 => QV.qo (q_ldl (i := 0) (v := .slice Ab2 b.past.length cb2) rfl rfl Tryz.isAgg113 (gu hg16 rfl) rfl)) ?_
 obtain ⟨z18, hz19, h⟩ := bnd h
 refine vg1 rfl rfl rfl rfl rfl (fun hg17 => (q_call (call_run Tryz.call88 rfl rfl (args2 (gu hg17 rfl) (gu hg17 rfl))) (fun w hw => t_firthref03_Same (Γ := Gh.all w) (ha.2.2.1.2.mono hw.sat.le_all) ha.2.2.1.1 (hb.2.2.1.2.mono hw.sat.le_all) hb.2.2.1.1 (Sat.all w) (gc_of hz19 hg17)))) ?_
 refine vb (q_pick rfl rfl (pk_and' (g := (((a.dot == b.dot) && (a.gone == b.gone)) && (a.val == b.val))) (y := z18))) ?_
 refine as_ (v := .bool ((((a.dot == b.dot) && (a.gone == b.gone)) && (a.val == b.val)) && z18)) ?_
 refine WR.done ?_
 refine WC.ret ?_
 intro w hw
 obtain rfl := Option.some.inj h
 subst hF
 exact ⟨by kernel_rfl, hw.fr⟩
theorem t_firthref05_Same {Γ : Gh} {w0 : World} {Aa : Option Addr} {ca : Nat} {a : List Ver} (ha : Sl verT Γ Aa a) (hac : a.length ≤ ca) {Ab : Option Addr} {cb : Nat} {b : List Ver} (hb : Sl verT Γ Ab b) (hbc : b.length ≤ cb) (hs : Sat Γ w0) {r : Bool} (h : m_firthref05_Same a b = some r) : Calls Tryz.prog 39 #[.slice Aa a.length ca, .slice Ab b.length cb] w0 (fun e w' => e = .returned (.bool r) ∧ Fr no w0 w') := by
 refine calls_of (N := 27) (rs := [4]) (args := [.slice Aa a.length ca, .slice Ab b.length cb]) Tryz.func39 rfl Tryz.ntmps39 Tryz.results39 rfl ?_
 obtain ⟨F, hF⟩ : ∃ F : Fm, F = ⟨no, w0, Γ⟩ := ⟨_, rfl⟩
 refine WC.here (C := CC F Γ []) ?_ (hF ▸ Cur.start0 hs)
 refine WC.rs ?_
 refine as_ (v := .bool false) ?_
 refine WR.done ?_
 refine WC.seq ?_
 refine WC.rs ?_
 refine mv (v := .slice Aa a.length ca) ?_
 refine vb (q_len_slice rfl Tryz.underlying67 rfl) ?_
 refine mv (v := .slice Ab b.length cb) ?_
 refine vb (q_len_slice rfl Tryz.underlying67 rfl) ?_
 refine vb (q_neq rfl rfl rfl) ?_
 refine WR.done ?_
 refine WC.cif h (by kernel_rfl) (fun hb1 h => ?_) (fun hb1 h => ?_)
 ·
  refine WC.rs ?_
  refine as_ (v := .bool false) ?_
  refine WR.done ?_
  refine WC.ret ?_
  intro w hw
  obtain rfl := Option.some.inj h
  subst hF
  exact ⟨by kernel_rfl, hw.fr⟩
 ·
  refine WC.skip ?_
  change WC _ _ _ _ _ _
  refine WC.seq ?_
  refine WC.rs ?_
  refine as_ (v := .int .i64 0) ?_
  refine WR.done ?_
  refine WC.block ?_
  refine WC.forI h (fun (i3 : Nat) (s : Unit) σ w => match s with | () => slots σ [(0, .slice Aa a.length ca), (1, .slice Ab b.length cb), (5, .int .i64 ((i3 : Nat) : Int))] ∧ CC F Γ [] w ∧ True) ?_ ?_
  ·
   intro w hw
   exact ⟨(sl_ (by kernel_rfl)), hw, trivial⟩
  rintro f2 i3 ⟨⟩ σ w hi4 hlt5 hge6 ⟨hsl, hw, -⟩
  refine Wpt.slots hsl ?_
  refine WC.here (C := CC F Γ []) ?_ hw
  clear hw hsl
  refine WC.seq ?_
  refine WC.rs ?_
  refine mv (v := .int .i64 ((i3 : Nat) : Int)) ?_
  refine mv (v := .slice Aa a.length ca) ?_
  refine vb (q_len_slice rfl Tryz.underlying67 rfl) ?_
  refine vb (q_lss rfl rfl rfl) ?_
  refine WR.done ?_
  refine WC.cond (b := (decide (((i3 : Nat) : Int) < ((a.length : Nat) : Int)))) (by kernel_rfl) (fun hb7 => ?_) (fun hb7 => ?_)
  ·
   have hl8 := ilt hb7
   have h := hlt5 hl8
   refine WC.skip ?_
   change WC _ _ _ _ _ _
   refine WC.seq ?_
   refine WC.block ?_
   refine WC.seq ?_
   refine WC.dr (by kernel_rfl) (by kernel_rfl) (fun w hw => hw.drawn _) ?_
   refine wa rfl rfl rfl (q_move (v := .slice Aa a.length ca) rfl (by kernel_rfl)) ?_
   refine wa rfl rfl rfl (q_move (v := .int .i64 ((i3 : Nat) : Int)) rfl (by kernel_rfl)) ?_
   refine wa rfl rfl rfl (q_ixn (i := i3) Tryz.underlying67 Tryz.sizeOf115 rfl rfl rfl hl8 (ha.some_ hl8)) ?_
   obtain ⟨A9, c10, hx11⟩ := ha.verT_at i3
   refine wa rfl rfl rfl (q_lda (c := 0) (vs := [.int .i64 (gt a i3).dot.s, .int .i64 (gt a i3).dot.n, .slice A9 ((gt a i3).past).length c10, .bool (gt a i3).gone, .string (gt a i3).val]) (hx11 hl8).2 rfl Tryz.isAgg115 Tryz.sizeOf115 rfl rfl rfl) ?_
   refine wa rfl rfl rfl (q_move (v := .slice Ab b.length cb) rfl (by kernel_rfl)) ?_
   refine wa rfl rfl rfl (q_move (v := .int .i64 ((i3 : Nat) : Int)) rfl (by kernel_rfl)) ?_
   obtain ⟨hk12, h⟩ := chk_some h
   refine wa rfl rfl rfl (q_ixn (i := i3) Tryz.underlying67 Tryz.sizeOf115 rfl rfl rfl (of_decide_eq_true hk12) (hb.some_ (of_decide_eq_true hk12))) ?_
   obtain ⟨A13, c14, hx15⟩ := hb.verT_at i3
   refine wa rfl rfl rfl (q_lda (c := 0) (vs := [.int .i64 (gt b i3).dot.s, .int .i64 (gt b i3).dot.n, .slice A13 ((gt b i3).past).length c14, .bool (gt b i3).gone, .string (gt b i3).val]) (hx15 (of_decide_eq_true hk12)).2 rfl Tryz.isAgg115 Tryz.sizeOf115 rfl rfl rfl) ?_
   obtain ⟨z16, hz17, h⟩ := bnd h
   refine wc rfl rfl rfl (q_call (call_run Tryz.call72 rfl rfl (by kernel_rfl)) (fun w hw => t_firthref05_SameOne (Γ := Gh.all w) (gt a i3) (Ver.fits_mono (hx11 hl8).1 hw.sat.le_all) (gt b i3) (Ver.fits_mono (hx15 (of_decide_eq_true hk12)).1 hw.sat.le_all) (Sat.all w) hz17)) ?_
   refine wa rfl rfl rfl (q_not rfl rfl) ?_
   refine WQ.nil ?_
   change WC _ _ _ _ _ _
   refine WC.cif h (by kernel_rfl) (fun hb18 h => ?_) (fun hb18 h => ?_)
   ·
    refine WC.rs ?_
    refine as_ (v := .bool false) ?_
    refine WR.done ?_
    refine WC.ret ?_
    intro w hw
    obtain rfl := Option.some.inj h
    subst hF
    exact ⟨by kernel_rfl, hw.fr⟩
   ·
    refine WC.skip ?_
    change WC _ _ _ _ _ _
    refine WC.region ?_
    refine mv (v := .int .i64 ((i3 : Nat) : Int)) ?_
    refine vb (q_add_r (r := ((i3 + 1 : Nat) : Int)) rfl rfl rfl (ctr_len hl8 ha.le)) ?_
    refine as_ (v := .int .i64 ((i3 + 1 : Nat) : Int)) ?_
    refine WR.nil ?_
    intro w hw
    exact ⟨hl8, (), h, (sl_ (by kernel_rfl)), hw, trivial⟩
  ·
   have h := hge6 (ige hb7)
   refine WC.exit ?_
   change WC _ _ _ _ _ _
   refine WC.rs ?_
   refine as_ (v := .bool true) ?_
   refine WR.done ?_
   refine WC.ret ?_
   intro w hw
   obtain rfl := Option.some.inj h
   subst hF
   exact ⟨by kernel_rfl, hw.fr⟩
theorem t_firthref06_SameRecs {Γ : Gh} {w0 : World} {Aa : Option Addr} {ca : Nat} {a : List Rec} (ha : Sl recT Γ Aa a) (hac : a.length ≤ ca) {Ab : Option Addr} {cb : Nat} {b : List Rec} (hb : Sl recT Γ Ab b) (hbc : b.length ≤ cb) (hs : Sat Γ w0) {r : Bool} (h : m_firthref06_SameRecs a b = some r) : Calls Tryz.prog 16 #[.slice Aa a.length ca, .slice Ab b.length cb] w0 (fun e w' => e = .returned (.bool r) ∧ Fr no w0 w') := by
 refine calls_of (N := 42) (rs := [4]) (args := [.slice Aa a.length ca, .slice Ab b.length cb]) Tryz.func16 rfl Tryz.ntmps16 Tryz.results16 rfl ?_
 obtain ⟨F, hF⟩ : ∃ F : Fm, F = ⟨no, w0, Γ⟩ := ⟨_, rfl⟩
 refine WC.here (C := CC F Γ []) ?_ (hF ▸ Cur.start0 hs)
 refine WC.rs ?_
 refine as_ (v := .bool false) ?_
 refine WR.done ?_
 refine WC.seq ?_
 refine WC.rs ?_
 refine mv (v := .slice Aa a.length ca) ?_
 refine vb (q_len_slice rfl Tryz.underlying23 rfl) ?_
 refine mv (v := .slice Ab b.length cb) ?_
 refine vb (q_len_slice rfl Tryz.underlying23 rfl) ?_
 refine vb (q_neq rfl rfl rfl) ?_
 refine WR.done ?_
 refine WC.cif h (by kernel_rfl) (fun hb1 h => ?_) (fun hb1 h => ?_)
 ·
  refine WC.rs ?_
  refine as_ (v := .bool false) ?_
  refine WR.done ?_
  refine WC.ret ?_
  intro w hw
  obtain rfl := Option.some.inj h
  subst hF
  exact ⟨by kernel_rfl, hw.fr⟩
 ·
  refine WC.skip ?_
  change WC _ _ _ _ _ _
  refine WC.seq ?_
  refine WC.rs ?_
  refine as_ (v := .int .i64 0) ?_
  refine WR.done ?_
  refine WC.block ?_
  refine WC.forI h (fun (i3 : Nat) (s : Unit) σ w => match s with | () => slots σ [(0, .slice Aa a.length ca), (1, .slice Ab b.length cb), (5, .int .i64 ((i3 : Nat) : Int))] ∧ CC F Γ [] w ∧ True) ?_ ?_
  ·
   intro w hw
   exact ⟨(sl_ (by kernel_rfl)), hw, trivial⟩
  rintro f2 i3 ⟨⟩ σ w hi4 hlt5 hge6 ⟨hsl, hw, -⟩
  refine Wpt.slots hsl ?_
  refine WC.here (C := CC F Γ []) ?_ hw
  clear hw hsl
  refine WC.seq ?_
  refine WC.rs ?_
  refine mv (v := .int .i64 ((i3 : Nat) : Int)) ?_
  refine mv (v := .slice Aa a.length ca) ?_
  refine vb (q_len_slice rfl Tryz.underlying23 rfl) ?_
  refine vb (q_lss rfl rfl rfl) ?_
  refine WR.done ?_
  refine WC.cond (b := (decide (((i3 : Nat) : Int) < ((a.length : Nat) : Int)))) (by kernel_rfl) (fun hb7 => ?_) (fun hb7 => ?_)
  ·
   have hl8 := ilt hb7
   have h := hlt5 hl8
   refine WC.skip ?_
   change WC _ _ _ _ _ _
   refine WC.seq ?_
   refine WC.block ?_
   refine WC.seq ?_
   refine WC.dr (by kernel_rfl) (by kernel_rfl) (fun w hw => hw.drawn _) ?_
   refine wa rfl rfl rfl (q_move (v := .slice Aa a.length ca) rfl (by kernel_rfl)) ?_
   refine wa rfl rfl rfl (q_move (v := .int .i64 ((i3 : Nat) : Int)) rfl (by kernel_rfl)) ?_
   refine wa rfl rfl rfl (q_ixn (i := i3) Tryz.underlying23 Tryz.sizeOf70 rfl rfl rfl hl8 (ha.some_ hl8)) ?_
   refine wa rfl rfl rfl (q_field_addr (i3 * 2) fld_70_0 rfl rfl (ha.some_ hl8) rfl) ?_
   obtain ⟨A9, c10, hx11⟩ := ha.recT_at i3
   refine wa rfl rfl rfl (q_ld (c := 0) (v := .string (gt a i3).key) (hx11 hl8).2 rfl Tryz.isAgg9 rfl rfl) ?_
   refine wa rfl rfl rfl (q_move (v := .slice Ab b.length cb) rfl (by kernel_rfl)) ?_
   refine wa rfl rfl rfl (q_move (v := .int .i64 ((i3 : Nat) : Int)) rfl (by kernel_rfl)) ?_
   obtain ⟨hk12, h⟩ := chk_some h
   refine wa rfl rfl rfl (q_ixn (i := i3) Tryz.underlying23 Tryz.sizeOf70 rfl rfl rfl (of_decide_eq_true hk12) (hb.some_ (of_decide_eq_true hk12))) ?_
   refine wa rfl rfl rfl (q_field_addr (i3 * 2) fld_70_0 rfl rfl (hb.some_ (of_decide_eq_true hk12)) rfl) ?_
   obtain ⟨A13, c14, hx15⟩ := hb.recT_at i3
   refine wa rfl rfl rfl (q_ld (c := 0) (v := .string (gt b i3).key) (hx15 (of_decide_eq_true hk12)).2 rfl Tryz.isAgg9 rfl rfl) ?_
   refine wa rfl rfl rfl (q_sneq rfl rfl rfl) ?_
   refine wa rfl rfl rfl (q_move (v := .bool ((gt a i3).key != (gt b i3).key)) rfl (by kernel_rfl)) ?_
   refine wg0 rfl rfl rfl rfl rfl (fun hg16 => QV.qo (q_move (v := .slice Aa a.length ca) rfl (by kernel_rfl))) ?_
   refine wg0 rfl rfl rfl rfl rfl (fun hg17 => QV.qo (q_move (v := .int .i64 ((i3 : Nat) : Int)) rfl (by kernel_rfl))) ?_
   refine wg0 rfl rfl rfl rfl rfl (fun hg18 => QV.qo (q_ixn (i := i3) Tryz.underlying23 Tryz.sizeOf70 rfl (gu hg18 rfl) (gu hg18 rfl) hl8 (ha.some_ hl8))) ?_
   refine wg0 rfl rfl rfl rfl rfl (fun hg19 => QV.qo (q_field_addr (i3 * 2 + 1) fld_70_1 rfl (gu hg19 rfl) (ha.some_ hl8) rfl)) ?_
   refine wg0 rfl rfl rfl rfl rfl (fun hg20 => QV.qo (q_ld (c := 1) (v := .slice A9 ((gt a i3).vers).length c10) (hx11 hl8).2 rfl Tryz.isAgg67 (gu hg20 rfl) rfl)) ?_
   refine wg0 rfl rfl rfl rfl rfl (fun hg21 => QV.qo (q_move (v := .slice Ab b.length cb) rfl (by kernel_rfl))) ?_
   refine wg0 rfl rfl rfl rfl rfl (fun hg22 => QV.qo (q_move (v := .int .i64 ((i3 : Nat) : Int)) rfl (by kernel_rfl))) ?_
   refine wg0 rfl rfl rfl rfl rfl (fun hg23 => QV.qo (q_ixn (i := i3) Tryz.underlying23 Tryz.sizeOf70 rfl (gu hg23 rfl) (gu hg23 rfl) (of_decide_eq_true hk12) (hb.some_ (of_decide_eq_true hk12)))) ?_
   refine wg0 rfl rfl rfl rfl rfl (fun hg24 => QV.qo (q_field_addr (i3 * 2 + 1) fld_70_1 rfl (gu hg24 rfl) (hb.some_ (of_decide_eq_true hk12)) rfl)) ?_
   refine wg0 rfl rfl rfl rfl rfl (fun hg25 => QV.qo (q_ld (c := 1) (v := .slice A13 ((gt b i3).vers).length c14) (hx15 (of_decide_eq_true hk12)).2 rfl Tryz.isAgg67 (gu hg25 rfl) rfl)) ?_
   obtain ⟨z27, hz28, h⟩ := bnd h
   refine wg0 rfl rfl rfl rfl rfl (fun hg26 => (q_call (call_run Tryz.call39 rfl rfl (args2 (gu hg26 rfl) (gu hg26 rfl))) (fun w hw => t_firthref05_Same (Γ := Gh.all w) ((hx11 hl8).1.2.2.mono hw.sat.le_all) (hx11 hl8).1.2.1 ((hx15 (of_decide_eq_true hk12)).1.2.2.mono hw.sat.le_all) (hx15 (of_decide_eq_true hk12)).1.2.1 (Sat.all w) (gc_of hz28 hg26)))) ?_
   refine wg0 rfl rfl rfl rfl rfl (fun hg29 => QV.qo (q_not rfl (gu hg29 rfl))) ?_
   refine wa rfl rfl rfl (q_pick rfl rfl (pk_or' (g := ((gt a i3).key != (gt b i3).key)) (y := (!z27)))) ?_
   refine WQ.nil ?_
   change WC _ _ _ _ _ _
   refine WC.cif h (by kernel_rfl) (fun hb30 h => ?_) (fun hb30 h => ?_)
   ·
    refine WC.rs ?_
    refine as_ (v := .bool false) ?_
    refine WR.done ?_
    refine WC.ret ?_
    intro w hw
    obtain rfl := Option.some.inj h
    subst hF
    exact ⟨by kernel_rfl, hw.fr⟩
   ·
    refine WC.skip ?_
    change WC _ _ _ _ _ _
    refine WC.region ?_
    refine mv (v := .int .i64 ((i3 : Nat) : Int)) ?_
    refine vb (q_add_r (r := ((i3 + 1 : Nat) : Int)) rfl rfl rfl (ctr_len hl8 ha.le)) ?_
    refine as_ (v := .int .i64 ((i3 + 1 : Nat) : Int)) ?_
    refine WR.nil ?_
    intro w hw
    exact ⟨hl8, (), h, (sl_ (by kernel_rfl)), hw, trivial⟩
  ·
   have h := hge6 (ige hb7)
   refine WC.exit ?_
   change WC _ _ _ _ _ _
   refine WC.rs ?_
   refine as_ (v := .bool true) ?_
   refine WR.done ?_
   refine WC.ret ?_
   intro w hw
   obtain rfl := Option.some.inj h
   subst hF
   exact ⟨by kernel_rfl, hw.fr⟩
abbrev r_pull_Pull_Vec (gp_ : Nat) (ep_ : Nat) (rowp_ : Rowb) (r : List Int) (U : List Rowb) (Γ : Gh) (v : Value) : Prop := ∃ (A0 : Option Addr), ∃ (c0 : Nat), ∃ (row0 : Rowb), v = .slice A0 r.length c0 ∧ U = [rowp_, row0] ∧ Own intT Γ 2 row0 A0 c0 r ∧ True
theorem t_pull_Pull_Vec {Γ : Gh} {w0 : World} {gp_ ep_ : Nat} {rowp_ : Rowb} {p_ : Opull_Pull} (hp_ : Opull_Pull.ob ep_ Γ gp_ rowp_ p_) (hp : Pre [rowp_] Γ w0) {r : List Int} (h : m_pull_Pull_Vec p_ = some r) : Calls Tryz.prog 33 #[(pq gp_)] w0 (Outc Γ [rowp_] w0 (r_pull_Pull_Vec gp_ ep_ rowp_ r)) := by
 refine calls_of (N := 8) (rs := [2]) (args := [(pq gp_)]) Tryz.func33 rfl Tryz.ntmps33 Tryz.results33 rfl ?_
 obtain ⟨F, hF⟩ : ∃ F : Fm, F = ⟨ids [rowp_], w0, Γ⟩ := ⟨_, rfl⟩
 refine WC.here (C := CC F Γ [rowp_]) ?_ (hF ▸ hp.start)
 refine WC.rs ?_
 refine as_ (v := .slice none 0 0) ?_
 refine WR.done ?_
 refine WC.rs ?_
 refine mv (v := (pq gp_)) ?_
 refine vb (q_nil (A := some ⟨gp_, 0, none⟩) rfl rfl rfl) ?_
 refine vb (q_fl 3 fld_97_3 rfl rfl rfl) ?_
 have hq := hp_
 obtain ⟨g1_1, r1_1, A3_1, c3_1, A4_1, c4_1, r4_1, g5_1, r5_1, hrow_1, ho0_1, ho1_1, ho2_1, ho3_1, ho4_1, ho5_1, -⟩ := hq
 intro w hw; have hw := hw.unfold (i := 0) rfl hrow_1
 refine WR.here (C := CC F Γ [[(gp_, .cells #[.int .i64 p_.id, (pq g1_1), .bool p_.begun, .slice A3_1 p_.vec.length c3_1, .slice A4_1 p_.wants.length c4_1, (pq g5_1)] ep_ (0, 0))], r1_1, r4_1, r5_1]) ?_ hw
 clear hw
 refine vb (q_ldl (i := 0) (v := .slice A3_1 p_.vec.length c3_1) rfl rfl Tryz.isAgg22 rfl rfl) ?_
 obtain ⟨z2, hz3, h⟩ := bnd h
 refine e_call (is := []) rfl rfl (call_run Tryz.call46 rfl rfl (by kernel_rfl)) rfl (fun w hp => t_slices_Clone_int64_int64 ho3_1 ho2_1 hp hz3) ?_
 rintro Γ4 U6 v7 hl5 ⟨A8, c9, row10, rfl, rfl, hr11, _⟩
 change WR _ _ _ (CC F Γ4 [row10, [(gp_, .cells #[.int .i64 p_.id, (pq g1_1), .bool p_.begun, .slice A3_1 p_.vec.length c3_1, .slice A4_1 p_.wants.length c4_1, (pq g5_1)] ep_ (0, 0))], r1_1, r4_1, r5_1]) _ _ (upd _ 7 (.slice A8 z2.length c9))
 refine as_ (v := .slice A8 z2.length c9) ?_
 refine WR.done ?_
 refine WC.ret ?_
 intro w hw
 have hw := hw.fold (is := [1, 1, 1, 1]) rfl hrow_1
 obtain rfl := Option.some.inj h
 subst hF
 exact end_e (is := [0, 0]) (by kernel_rfl) hw rfl ⟨A8, c9, row10, rfl, rfl, hr11, trivial⟩
theorem t_firthref04_Same {Γ : Gh} {w0 : World} {Aa : Option Addr} {ca : Nat} {a : List Int} (ha : Sl intT Γ Aa a) (hac : a.length ≤ ca) {Ab : Option Addr} {cb : Nat} {b : List Int} (hb : Sl intT Γ Ab b) (hbc : b.length ≤ cb) (hs : Sat Γ w0) {r : Bool} (h : m_firthref04_Same a b = some r) : Calls Tryz.prog 17 #[.slice Aa a.length ca, .slice Ab b.length cb] w0 (fun e w' => e = .returned (.bool r) ∧ Fr no w0 w') := by
 refine calls_of (N := 26) (rs := [4]) (args := [.slice Aa a.length ca, .slice Ab b.length cb]) Tryz.func17 rfl Tryz.ntmps17 Tryz.results17 rfl ?_
 obtain ⟨F, hF⟩ : ∃ F : Fm, F = ⟨no, w0, Γ⟩ := ⟨_, rfl⟩
 refine WC.here (C := CC F Γ []) ?_ (hF ▸ Cur.start0 hs)
 refine WC.rs ?_
 refine as_ (v := .bool false) ?_
 refine WR.done ?_
 refine WC.seq ?_
 refine WC.rs ?_
 refine mv (v := .slice Aa a.length ca) ?_
 refine vb (q_len_slice rfl Tryz.underlying22 rfl) ?_
 refine mv (v := .slice Ab b.length cb) ?_
 refine vb (q_len_slice rfl Tryz.underlying22 rfl) ?_
 refine vb (q_neq rfl rfl rfl) ?_
 refine WR.done ?_
 refine WC.cif h (by kernel_rfl) (fun hb1 h => ?_) (fun hb1 h => ?_)
 ·
  refine WC.rs ?_
  refine as_ (v := .bool false) ?_
  refine WR.done ?_
  refine WC.ret ?_
  intro w hw
  obtain rfl := Option.some.inj h
  subst hF
  exact ⟨by kernel_rfl, hw.fr⟩
 ·
  refine WC.skip ?_
  change WC _ _ _ _ _ _
  refine WC.seq ?_
  refine WC.rs ?_
  refine as_ (v := .int .i64 0) ?_
  refine WR.done ?_
  refine WC.block ?_
  refine WC.forI h (fun (i3 : Nat) (s : Unit) σ w => match s with | () => slots σ [(0, .slice Aa a.length ca), (1, .slice Ab b.length cb), (5, .int .i64 ((i3 : Nat) : Int))] ∧ CC F Γ [] w ∧ True) ?_ ?_
  ·
   intro w hw
   exact ⟨(sl_ (by kernel_rfl)), hw, trivial⟩
  rintro f2 i3 ⟨⟩ σ w hi4 hlt5 hge6 ⟨hsl, hw, -⟩
  refine Wpt.slots hsl ?_
  refine WC.here (C := CC F Γ []) ?_ hw
  clear hw hsl
  refine WC.seq ?_
  refine WC.rs ?_
  refine mv (v := .int .i64 ((i3 : Nat) : Int)) ?_
  refine mv (v := .slice Aa a.length ca) ?_
  refine vb (q_len_slice rfl Tryz.underlying22 rfl) ?_
  refine vb (q_lss rfl rfl rfl) ?_
  refine WR.done ?_
  refine WC.cond (b := (decide (((i3 : Nat) : Int) < ((a.length : Nat) : Int)))) (by kernel_rfl) (fun hb7 => ?_) (fun hb7 => ?_)
  ·
   have hl8 := ilt hb7
   have h := hlt5 hl8
   refine WC.skip ?_
   change WC _ _ _ _ _ _
   refine WC.seq ?_
   refine WC.block ?_
   refine WC.seq ?_
   refine WC.dr (by kernel_rfl) (by kernel_rfl) (fun w hw => hw.drawn _) ?_
   refine wa rfl rfl rfl (q_move (v := .slice Aa a.length ca) rfl (by kernel_rfl)) ?_
   refine wa rfl rfl rfl (q_move (v := .int .i64 ((i3 : Nat) : Int)) rfl (by kernel_rfl)) ?_
   refine wa rfl rfl rfl (q_ixn (i := i3) Tryz.underlying22 Tryz.sizeOf2 rfl rfl rfl hl8 (ha.some_ hl8)) ?_
   refine wa rfl rfl rfl (q_ld (c := 0) (v := .int .i64 (gt a i3)) (ha.intT_at hl8).2 rfl Tryz.isAgg2 rfl rfl) ?_
   refine wa rfl rfl rfl (q_move (v := .slice Ab b.length cb) rfl (by kernel_rfl)) ?_
   refine wa rfl rfl rfl (q_move (v := .int .i64 ((i3 : Nat) : Int)) rfl (by kernel_rfl)) ?_
   obtain ⟨hk9, h⟩ := chk_some h
   refine wa rfl rfl rfl (q_ixn (i := i3) Tryz.underlying22 Tryz.sizeOf2 rfl rfl rfl (of_decide_eq_true hk9) (hb.some_ (of_decide_eq_true hk9))) ?_
   refine wa rfl rfl rfl (q_ld (c := 0) (v := .int .i64 (gt b i3)) (hb.intT_at (of_decide_eq_true hk9)).2 rfl Tryz.isAgg2 rfl rfl) ?_
   refine wa rfl rfl rfl (q_neq rfl rfl rfl) ?_
   refine WQ.nil ?_
   change WC _ _ _ _ _ _
   refine WC.cif h (by kernel_rfl) (fun hb10 h => ?_) (fun hb10 h => ?_)
   ·
    refine WC.rs ?_
    refine as_ (v := .bool false) ?_
    refine WR.done ?_
    refine WC.ret ?_
    intro w hw
    obtain rfl := Option.some.inj h
    subst hF
    exact ⟨by kernel_rfl, hw.fr⟩
   ·
    refine WC.skip ?_
    change WC _ _ _ _ _ _
    refine WC.region ?_
    refine mv (v := .int .i64 ((i3 : Nat) : Int)) ?_
    refine vb (q_add_r (r := ((i3 + 1 : Nat) : Int)) rfl rfl rfl (ctr_len hl8 ha.le)) ?_
    refine as_ (v := .int .i64 ((i3 + 1 : Nat) : Int)) ?_
    refine WR.nil ?_
    intro w hw
    exact ⟨hl8, (), h, (sl_ (by kernel_rfl)), hw, trivial⟩
  ·
   have h := hge6 (ige hb7)
   refine WC.exit ?_
   change WC _ _ _ _ _ _
   refine WC.rs ?_
   refine as_ (v := .bool true) ?_
   refine WR.done ?_
   refine WC.ret ?_
   intro w hw
   obtain rfl := Option.some.inj h
   subst hF
   exact ⟨by kernel_rfl, hw.fr⟩
theorem t_firthlaw19_awake {Γ : Gh} {w0 : World}  (hs : Sat Γ w0) {r : Bool} (h : m_firthlaw19_awake = some r) : Calls Tryz.prog 12 #[] w0 (fun e w' => e = .returned (.bool r) ∧ Fr no w0 w') := by
 refine calls_of (N := 85) (rs := [0]) (args := []) Tryz.func12 rfl Tryz.ntmps12 Tryz.results12 rfl ?_
 obtain ⟨F, hF⟩ : ∃ F : Fm, F = ⟨no, w0, Γ⟩ := ⟨_, rfl⟩
 refine WC.here (C := CC F Γ []) ?_ (hF ▸ Cur.start0 hs)
 refine WC.rs ?_
 refine as_ (v := .bool false) ?_
 refine WR.done ?_
 refine WC.rs ?_
 refine e_buildSlice (cs := #[.int .i64 1]) (e := 2) rfl rfl rfl rfl (fun w => by kernel_rfl) ?_
 intro g1
 obtain ⟨z2, hz3, h⟩ := bnd h
 refine e_call (is := []) rfl rfl (call_run Tryz.call49 rfl rfl (by kernel_rfl)) rfl (fun w hp => t_firthlaw19_k  hp hz3) ?_
 rintro Γ4 U6 v7 hl5 ⟨A8, c9, row10, rfl, rfl, hr11, _⟩
 change WR _ _ _ (CC F Γ4 [row10, [(g1, .cells #[.int .i64 1] 2 (0, 0))]]) _ _ (upd _ 7 (.slice A8 z2.length c9))
 have ho12 : Own intT Γ4 2 [(g1, .cells #[.int .i64 1] 2 (0, 0))] (some ⟨g1, 0, none⟩) 1 [1] := Own.of_blockL (T := intT) (ys := [1]) [[.int .i64 1]] rfl (show 1 ≤ lim by decide) (show Ty.rd intT Γ4 [.int .i64 1] 1 ∧ True from ⟨⟨rfl, (show I64 1 by decide)⟩, trivial⟩)
 have hc17 := ho12.capz
 intro w hw; obtain ⟨Γ13, hw, hl14, hr15⟩ := hw.seal (i := 1) rfl; have hs16 := ho12.sl hl14 hr15
 refine WR.here (C := CC F Γ13 [row10, []]) ?_ hw
 clear hw
 have hc22 := (hr11.mono hl14).capz
 intro w hw; obtain ⟨Γ18, hw, hl19, hr20⟩ := hw.seal (i := 0) rfl; have hs21 := (hr11.mono hl14).sl hl19 hr20
 refine WR.here (C := CC F Γ18 [[], []]) ?_ hw
 clear hw
 obtain ⟨z23, hz24, h⟩ := bnd h
 refine e_call (is := []) rfl rfl (call_run Tryz.call10 rfl rfl (by kernel_rfl)) rfl (fun w hp => t_pull_NewCut 3 (show I64 3 by decide) (hs16.mono hl19) hc17 hs21 hc22 hp hz24) ?_
 rintro Γ25 U27 v28 hl26 ⟨g29, row30, rfl, rfl, hr31, hr32, _⟩
 change WR _ _ _ (CC F Γ25 [row30, [], []]) _ _ (upd _ 8 (.tuple #[optp z23.1 g29, .int .i64 z23.2]))
 refine mv (v := .tuple #[optp z23.1 g29, .int .i64 z23.2]) ?_
 refine vb (q_extract (v := optp z23.1 g29) rfl rfl rfl) ?_
 refine vb (q_extract (v := .int .i64 z23.2) rfl rfl rfl) ?_
 refine as_ (v := optp z23.1 g29) ?_
 refine as_ (v := .int .i64 z23.2) ?_
 refine WR.done ?_
 refine WC.rs ?_
 obtain ⟨z33, hz34, h⟩ := bnd h
 refine e_call (is := []) rfl rfl (call_run Tryz.call22 rfl rfl (by kernel_rfl)) rfl (fun w hp => t_pull_NewPull 4 (show I64 4 by decide) (Sl.nil recT _ none) (Nat.zero_le 0) hp hz34) ?_
 rintro Γ35 U37 v38 hl36 ⟨g39, row40, rfl, rfl, hr41, hr42, _⟩
 change WR _ _ _ (CC F Γ35 [row40, row30, [], []]) _ _ (upd _ 12 (.tuple #[optp z33.1 g39, .int .i64 z33.2]))
 refine mv (v := .tuple #[optp z33.1 g39, .int .i64 z33.2]) ?_
 refine vb (q_extract (v := optp z33.1 g39) rfl rfl rfl) ?_
 refine vb (q_extract (v := .int .i64 z33.2) rfl rfl rfl) ?_
 refine as_ (v := optp z33.1 g39) ?_
 refine as_ (v := .int .i64 z33.2) ?_
 refine WR.done ?_
 refine WC.seq ?_
 refine WC.rs ?_
 refine mv (v := optp z23.1 g29) ?_
 refine vb (q_opt_eql Tryz.underlying25 rfl rfl rfl) ?_
 refine mv (v := .bool (Option.isNone z23.1)) ?_
 refine vg0 rfl rfl rfl rfl rfl (fun hg43 => QV.qo (q_move (v := optp z33.1 g39) rfl (by kernel_rfl))) ?_
 refine vg0 rfl rfl rfl rfl rfl (fun hg44 => QV.qo (q_opt_eql Tryz.underlying47 rfl (gu hg44 rfl) rfl)) ?_
 refine vb (q_pick rfl rfl (pk_or' (g := (Option.isNone z23.1)) (y := (Option.isNone z33.1)))) ?_
 refine mv (v := .bool ((Option.isNone z23.1) || (Option.isNone z33.1))) ?_
 refine vg0 rfl rfl rfl rfl rfl (fun hg45 => QV.qo (q_move (v := .int .i64 z23.2) rfl (by kernel_rfl))) ?_
 refine vg0 rfl rfl rfl rfl rfl (fun hg46 => QV.qo (q_neq rfl (gu hg46 rfl) rfl)) ?_
 refine vb (q_pick rfl rfl (pk_or' (g := ((Option.isNone z23.1) || (Option.isNone z33.1))) (y := (z23.2 != 0)))) ?_
 refine mv (v := .bool (((Option.isNone z23.1) || (Option.isNone z33.1)) || (z23.2 != 0))) ?_
 refine vg0 rfl rfl rfl rfl rfl (fun hg47 => QV.qo (q_move (v := .int .i64 z33.2) rfl (by kernel_rfl))) ?_
 refine vg0 rfl rfl rfl rfl rfl (fun hg48 => QV.qo (q_neq rfl (gu hg48 rfl) rfl)) ?_
 refine vb (q_pick rfl rfl (pk_or' (g := (((Option.isNone z23.1) || (Option.isNone z33.1)) || (z23.2 != 0))) (y := (z33.2 != 0)))) ?_
 refine mv (v := .bool ((((Option.isNone z23.1) || (Option.isNone z33.1)) || (z23.2 != 0)) || (z33.2 != 0))) ?_
 refine vg0 rfl rfl rfl rfl rfl (fun hg49 => QV.qo (q_move (v := optp z33.1 g39) rfl (by kernel_rfl))) ?_
 refine (Bool.eq_false_or_eq_true (!((((Option.isNone z23.1) || (Option.isNone z33.1)) || (z23.2 != 0)) || (z33.2 != 0)))).elim (fun hb50 => ?_) (fun hb50 => ?_)
 ·
  have h := bt hb50 h
  obtain ⟨z51, hz52, h⟩ := bnd h
  have ho53 := optob_some hr41 hz52
  obtain ⟨z54, hz55, h⟩ := bnd h
  have ho56 := optob_some (optob_mono hr31 (fun _ h => h.mono hl36)) hz55
  refine WR.sat (c0 := true) (g := ((((Option.isNone z23.1) || (Option.isNone z33.1)) || (z23.2 != 0)) || (z33.2 != 0))) rfl rfl rfl hb50 ?_
  obtain ⟨z57, hz58, h⟩ := bnd h
  refine vc rfl rfl rfl (q_call (call_run Tryz.call28 rfl rfl (args1 (optp_some (gu hb50 rfl) hz52))) (fun w hw => t_pull_Pull_Done (Γ := Gh.all w) (ho53.mono hw.sat.le_all) (hw.ra 0 rfl) (Sat.all w) hz58)) ?_
  refine vb (q_pick_f (v := .bool z57) rfl rfl (not_t hb50) (by kernel_rfl)) ?_
  refine mv (v := .bool z57) ?_
  refine vg0 rfl rfl rfl rfl rfl (fun hg59 => QV.qo (q_move (v := (pq g39)) rfl (optp_some rfl hz52))) ?_
  refine vg0 rfl rfl rfl rfl rfl (fun hg60 => QV.qo (q_move (v := (pq g29)) rfl (optp_some rfl hz55))) ?_
  refine (Bool.eq_false_or_eq_true (!z57)).elim (fun hb61 => ?_) (fun hb61 => ?_)
  ·
   have h := bt hb61 h
   refine WR.sat (c0 := true) (g := z57) rfl rfl rfl hb61 ?_
   obtain ⟨z62, hz63, h⟩ := bnd h
   refine e_call (is := [1]) rfl rfl (call_run Tryz.call18 rfl rfl (args1 (gu hb61 rfl))) rfl (fun w hp => t_pull_Cut_Vec ho56 hp hz63) ?_
   rintro Γ64 U66 v67 hl65 ⟨A68, c69, row70, rfl, rfl, hr71, _⟩
   change WR _ _ _ (CC F Γ64 [row30, row70, row40, [], []]) _ _ (upd _ 36 (.slice A68 z62.length c69))
   refine WR.sat (c0 := true) (g := z57) rfl rfl rfl hb61 ?_
   refine vb (q_move (v := (pq g29)) rfl (optp_some rfl hz55)) ?_
   refine WR.sat (c0 := true) (g := z57) rfl rfl rfl hb61 ?_
   obtain ⟨z72, hz73, h⟩ := bnd h
   refine e_call (is := [0]) rfl rfl (call_run Tryz.call19 rfl rfl (by kernel_rfl)) rfl (fun w hp => t_pull_Cut_Open (ho56.mono hl65) hp hz73) ?_
   rintro Γ74 U76 v77 hl75 ⟨row78, A80, c81, row82, rfl, rfl, hr79, hr83, _⟩
   change WR _ _ _ (CC F Γ74 [row78, row82, row70, row40, [], []]) _ _ (upd _ 38 (.slice A80 z72.2.length c81))
   refine WR.sat (c0 := true) (g := z57) rfl rfl rfl hb61 ?_
   have hc88 := (hr71.mono hl75).capz
   intro w hw; obtain ⟨Γ84, hw, hl85, hr86⟩ := hw.seal (i := 2) rfl; have hs87 := (hr71.mono hl75).sl hl85 hr86
   refine WR.here (C := CC F Γ84 [row78, row82, [], row40, [], []]) ?_ hw
   clear hw
   have hc93 := (hr83.mono hl85).capz
   intro w hw; obtain ⟨Γ89, hw, hl90, hr91⟩ := hw.seal (i := 1) rfl; have hs92 := (hr83.mono hl85).sl hl90 hr91
   refine WR.here (C := CC F Γ89 [row78, [], [], row40, [], []]) ?_ hw
   clear hw
   obtain ⟨z94, hz95, h⟩ := bnd h
   refine e_call (is := [3]) rfl rfl (call_run Tryz.call24 rfl rfl (args3 (gu hb61 rfl) rfl rfl)) rfl (fun w hp => t_pull_Pull_Begin (ho53.mono (((hl65.trans hl75).trans hl85).trans hl90)) (hs87.mono hl90) hc88 hs92 hc93 hp hz95) ?_
   rintro Γ96 U98 v99 hl97 ⟨row100, rfl, rfl, hr101, _⟩
   change WR _ _ _ (CC F Γ96 [row100, row78, [], [], [], []]) _ _ (upd _ 39 (.bool z94.2))
   refine WR.sat (c0 := true) (g := z57) rfl rfl rfl hb61 ?_
   refine vb (q_not rfl rfl) ?_
   refine vb (q_pick_f (v := .bool (!z94.2)) rfl rfl (not_t hb61) (by kernel_rfl)) ?_
   refine mv (v := .bool (!z94.2)) ?_
   refine vg0 rfl rfl rfl rfl rfl (fun hg102 => QV.qo (q_move (v := (pq g39)) rfl (optp_some rfl hz52))) ?_
   refine vg0 rfl rfl rfl rfl rfl (fun hg103 => QV.qo (q_move (v := (pq g29)) rfl (optp_some rfl hz55))) ?_
   refine (Bool.eq_false_or_eq_true (!(!z94.2))).elim (fun hb104 => ?_) (fun hb104 => ?_)
   ·
    have h := bt hb104 h
    refine WR.sat (c0 := true) (g := (!z94.2)) rfl rfl rfl hb104 ?_
    obtain ⟨z105, hz106, h⟩ := bnd h
    refine e_call (is := [1]) rfl rfl (call_run Tryz.call18 rfl rfl (args1 (gu hb104 rfl))) rfl (fun w hp => t_pull_Cut_Vec (hr79.mono ((hl85.trans hl90).trans hl97)) hp hz106) ?_
    rintro Γ107 U109 v110 hl108 ⟨A111, c112, row113, rfl, rfl, hr114, _⟩
    change WR _ _ _ (CC F Γ107 [row78, row113, row100, [], [], [], []]) _ _ (upd _ 45 (.slice A111 z105.length c112))
    refine WR.sat (c0 := true) (g := (!z94.2)) rfl rfl rfl hb104 ?_
    refine vb (q_move (v := (pq g29)) rfl (optp_some rfl hz55)) ?_
    refine WR.sat (c0 := true) (g := (!z94.2)) rfl rfl rfl hb104 ?_
    obtain ⟨z115, hz116, h⟩ := bnd h
    refine e_call (is := [0]) rfl rfl (call_run Tryz.call19 rfl rfl (by kernel_rfl)) rfl (fun w hp => t_pull_Cut_Open (hr79.mono (((hl85.trans hl90).trans hl97).trans hl108)) hp hz116) ?_
    rintro Γ117 U119 v120 hl118 ⟨row121, A123, c124, row125, rfl, rfl, hr122, hr126, _⟩
    change WR _ _ _ (CC F Γ117 [row121, row125, row113, row100, [], [], [], []]) _ _ (upd _ 47 (.slice A123 z115.2.length c124))
    refine WR.sat (c0 := true) (g := (!z94.2)) rfl rfl rfl hb104 ?_
    have hc131 := (hr114.mono hl118).capz
    intro w hw; obtain ⟨Γ127, hw, hl128, hr129⟩ := hw.seal (i := 2) rfl; have hs130 := (hr114.mono hl118).sl hl128 hr129
    refine WR.here (C := CC F Γ127 [row121, row125, [], row100, [], [], [], []]) ?_ hw
    clear hw
    have hc136 := (hr126.mono hl128).capz
    intro w hw; obtain ⟨Γ132, hw, hl133, hr134⟩ := hw.seal (i := 1) rfl; have hs135 := (hr126.mono hl128).sl hl133 hr134
    refine WR.here (C := CC F Γ132 [row121, [], [], row100, [], [], [], []]) ?_ hw
    clear hw
    obtain ⟨z137, hz138, h⟩ := bnd h
    refine e_call (is := [3]) rfl rfl (call_run Tryz.call24 rfl rfl (args3 (gu hb104 rfl) rfl rfl)) rfl (fun w hp => t_pull_Pull_Begin (hr101.mono (((hl108.trans hl118).trans hl128).trans hl133)) (hs130.mono hl133) hc131 hs135 hc136 hp hz138) ?_
    rintro Γ139 U141 v142 hl140 ⟨row143, rfl, rfl, hr144, _⟩
    change WR _ _ _ (CC F Γ139 [row143, row121, [], [], [], [], [], []]) _ _ (upd _ 48 (.bool z137.2))
    refine vb (q_pick_f (v := .bool z137.2) rfl rfl (not_t hb104) (by kernel_rfl)) ?_
    refine mv (v := .bool z137.2) ?_
    refine vg0 rfl rfl rfl rfl rfl (fun hg145 => QV.qo (q_move (v := (pq g39)) rfl (optp_some rfl hz52))) ?_
    refine (Bool.eq_false_or_eq_true (!z137.2)).elim (fun hb146 => ?_) (fun hb146 => ?_)
    ·
     have h := bt hb146 h
     refine WR.sat (c0 := true) (g := z137.2) rfl rfl rfl hb146 ?_
     obtain ⟨z147, hz148, h⟩ := bnd h
     refine e_call (is := [0]) rfl rfl (call_run Tryz.call31 rfl rfl (args1 (gu hb146 rfl))) rfl (fun w hp => t_pull_Pull_Wants hr144 hp hz148) ?_
     rintro Γ149 U151 v152 hl150 ⟨A153, c154, row155, rfl, rfl, hr156, _⟩
     change WR _ _ _ (CC F Γ149 [row143, row155, row121, [], [], [], [], [], []]) _ _ (upd _ 52 (.slice A153 z147.length c154))
     refine WR.sat (c0 := true) (g := z137.2) rfl rfl rfl hb146 ?_
     refine vb (q_len_slice rfl Tryz.underlying57 rfl) ?_
     refine WR.sat (c0 := true) (g := z137.2) rfl rfl rfl hb146 ?_
     refine vb (q_neq rfl rfl rfl) ?_
     refine vb (q_pick_f (v := .bool (((z147.length : Nat) : Int) != 1)) rfl rfl (not_t hb146) (by kernel_rfl)) ?_
     refine WR.done ?_
     refine WC.cif h (by kernel_rfl) (fun hb157 h => ?_) (fun hb157 h => ?_)
     ·
      refine WC.rs ?_
      refine as_ (v := .bool false) ?_
      refine WR.done ?_
      refine WC.ret ?_
      intro w hw
      obtain rfl := Option.some.inj h
      subst hF
      exact ⟨by kernel_rfl, hw.fr⟩
     ·
      refine WC.skip ?_
      change WC _ _ _ _ _ _
      refine WC.rs ?_
      refine vb (q_move (v := (pq g29)) rfl (optp_some rfl hz55)) ?_
      refine vb (q_move (v := (pq g39)) rfl (optp_some rfl hz52)) ?_
      obtain ⟨z158, hz159, h⟩ := bnd h
      refine e_call (is := [2, 0]) rfl rfl (call_run Tryz.call37 rfl rfl (by kernel_rfl)) rfl (fun w hp => t_firthlaw19_told (hr122.mono (((hl128.trans hl133).trans hl140).trans hl150)) (hr144.mono hl150) (Sl.nil intT _ none) (Nat.zero_le 0) hp hz159) ?_
      rintro Γ160 U162 v163 hl161 ⟨row164, row166, rfl, rfl, hr165, hr167, _⟩
      change WR _ _ _ (CC F Γ160 [row164, row166, row155, [], [], [], [], [], []]) _ _ (upd _ 58 (.bool z158.2.2))
      refine mv (v := .bool z158.2.2) ?_
      refine vg1 rfl rfl rfl rfl rfl (fun hg168 => QV.qo (q_move (v := (pq g39)) rfl (optp_some rfl hz52))) ?_
      obtain ⟨z170, hz171, h⟩ := bnd h
      refine vg1 rfl rfl rfl rfl rfl (fun hg169 => (q_call (call_run Tryz.call28 rfl rfl (args1 (gu hg169 rfl))) (fun w hw => t_pull_Pull_Done (Γ := Gh.all w) (hr167.mono hw.sat.le_all) (hw.ra 1 rfl) (Sat.all w) (gc_of hz171 hg169)))) ?_
      refine vb (q_pick rfl rfl (pk_and' (g := z158.2.2) (y := z170))) ?_
      refine mv (v := .bool (z158.2.2 && z170)) ?_
      refine vg1 rfl rfl rfl rfl rfl (fun hg172 => QV.qo (q_move (v := (pq g29)) rfl (optp_some rfl hz55))) ?_
      obtain ⟨z174, hz175, h⟩ := bnd h
      refine vg1 rfl rfl rfl rfl rfl (fun hg173 => (q_call (call_run Tryz.call21 rfl rfl (args1 (gu hg173 rfl))) (fun w hw => t_pull_Cut_Id (Γ := Gh.all w) (hr165.mono hw.sat.le_all) (hw.ra 0 rfl) (Sat.all w) (gc_of hz175 hg173)))) ?_
      refine vg1 rfl rfl rfl rfl rfl (fun hg176 => QV.qo (q_eql rfl (gu hg176 rfl) rfl)) ?_
      refine vb (q_pick rfl rfl (pk_and' (g := (z158.2.2 && z170)) (y := (z174 == 3)))) ?_
      refine mv (v := .bool ((z158.2.2 && z170) && (z174 == 3))) ?_
      refine vg1 rfl rfl rfl rfl rfl (fun hg177 => QV.qo (q_move (v := (pq g39)) rfl (optp_some rfl hz52))) ?_
      obtain ⟨z179, hz180, h⟩ := bnd h
      refine vg1 rfl rfl rfl rfl rfl (fun hg178 => (q_call (call_run Tryz.call34 rfl rfl (args1 (gu hg178 rfl))) (fun w hw => t_pull_Pull_Id (Γ := Gh.all w) (hr167.mono hw.sat.le_all) (hw.ra 1 rfl) (Sat.all w) (gc_of hz180 hg178)))) ?_
      refine vg1 rfl rfl rfl rfl rfl (fun hg181 => QV.qo (q_eql rfl (gu hg181 rfl) rfl)) ?_
      refine vb (q_pick rfl rfl (pk_and' (g := ((z158.2.2 && z170) && (z174 == 3))) (y := (z179 == 4)))) ?_
      refine mv (v := .bool (((z158.2.2 && z170) && (z174 == 3)) && (z179 == 4))) ?_
      refine vg1 rfl rfl rfl rfl rfl (fun hg182 => QV.qo (q_move (v := (pq g39)) rfl (optp_some rfl hz52))) ?_
      refine (Bool.eq_false_or_eq_true (((z158.2.2 && z170) && (z174 == 3)) && (z179 == 4))).elim (fun hb183 => ?_) (fun hb183 => ?_)
      ·
       have h := bt hb183 h
       refine WR.sat (c0 := true) (g := (((z158.2.2 && z170) && (z174 == 3)) && (z179 == 4))) rfl rfl rfl hb183 ?_
       obtain ⟨z184, hz185, h⟩ := bnd h
       refine e_call (is := [1]) rfl rfl (call_run Tryz.call32 rfl rfl (args1 (gu hb183 rfl))) rfl (fun w hp => t_pull_Pull_Staged hr167 hp hz185) ?_
       rintro Γ186 U188 v189 hl187 ⟨A190, c191, row192, rfl, rfl, hr193, _⟩
       change WR _ _ _ (CC F Γ186 [row166, row192, row164, row155, [], [], [], [], [], []]) _ _ (upd _ 75 (.slice A190 z184.length c191))
       refine WR.sat (c0 := true) (g := (((z158.2.2 && z170) && (z174 == 3)) && (z179 == 4))) rfl rfl rfl hb183 ?_
       obtain ⟨z194, hz195, h⟩ := bnd h
       refine e_call (is := []) rfl rfl (call_run Tryz.call49 rfl rfl (by kernel_rfl)) rfl (fun w hp => t_firthlaw19_k  hp hz195) ?_
       rintro Γ196 U198 v199 hl197 ⟨A200, c201, row202, rfl, rfl, hr203, _⟩
       change WR _ _ _ (CC F Γ196 [row202, row166, row192, row164, row155, [], [], [], [], [], []]) _ _ (upd _ 76 (.slice A200 z194.length c201))
       refine WR.sat (c0 := true) (g := (((z158.2.2 && z170) && (z174 == 3)) && (z179 == 4))) rfl rfl rfl hb183 ?_
       obtain ⟨z204, hz205, h⟩ := bnd h
       refine vc rfl rfl rfl (q_call (call_run Tryz.call16 rfl rfl (by kernel_rfl)) (fun w hw => t_firthref06_SameRecs (Γ := Gh.all w) ((hr193.mono hl197).sl hw.sat.le_all (hw.ra 2 rfl)) (hr193.mono hl197).capz (hr203.sl hw.sat.le_all (hw.ra 0 rfl)) hr203.capz (Sat.all w) hz205)) ?_
       refine vb (q_pick_t (v := .bool z204) rfl rfl hb183 (by kernel_rfl)) ?_
       refine mv (v := .bool z204) ?_
       refine vg1 rfl rfl rfl rfl rfl (fun hg206 => QV.qo (q_move (v := (pq g39)) rfl (optp_some rfl hz52))) ?_
       refine (Bool.eq_false_or_eq_true z204).elim (fun hb207 => ?_) (fun hb207 => ?_)
       ·
        have h := bt hb207 h
        refine WR.sat (c0 := true) (g := z204) rfl rfl rfl hb207 ?_
        obtain ⟨z208, hz209, h⟩ := bnd h
        refine e_call (is := [1]) rfl rfl (call_run Tryz.call33 rfl rfl (args1 (gu hb207 rfl))) rfl (fun w hp => t_pull_Pull_Vec (hr167.mono (hl187.trans hl197)) hp hz209) ?_
        rintro Γ210 U212 v213 hl211 ⟨A214, c215, row216, rfl, rfl, hr217, _⟩
        change WR _ _ _ (CC F Γ210 [row166, row216, row202, row192, row164, row155, [], [], [], [], [], []]) _ _ (upd _ 81 (.slice A214 z208.length c215))
        refine WR.sat (c0 := true) (g := z204) rfl rfl rfl hb207 ?_
        refine e_buildSlice (cs := #[.int .i64 1]) (e := 2) rfl rfl rfl rfl (fun w => by kernel_rfl) ?_
        intro g218
        refine WR.sat (c0 := true) (g := z204) rfl rfl rfl hb207 ?_
        have ho219 : Own intT Γ210 2 [(g218, .cells #[.int .i64 1] 2 (0, 0))] (some ⟨g218, 0, none⟩) 1 [1] := Own.of_blockL (T := intT) (ys := [1]) [[.int .i64 1]] rfl (show 1 ≤ lim by decide) (show Ty.rd intT Γ210 [.int .i64 1] 1 ∧ True from ⟨⟨rfl, (show I64 1 by decide)⟩, trivial⟩)
        obtain ⟨z220, hz221, h⟩ := bnd h
        refine vc rfl rfl rfl (q_call (call_run Tryz.call17 rfl rfl (by kernel_rfl)) (fun w hw => t_firthref04_Same (Γ := Gh.all w) (hr217.sl hw.sat.le_all (hw.ra 2 rfl)) hr217.capz (ho219.sl hw.sat.le_all (hw.ra 0 rfl)) ho219.capz (Sat.all w) hz221)) ?_
        refine vb (q_pick_t (v := .bool z220) rfl rfl hb207 (by kernel_rfl)) ?_
        refine as_ (v := .bool z220) ?_
        refine WR.done ?_
        refine WC.ret ?_
        intro w hw
        obtain rfl := Option.some.inj h
        subst hF
        exact ⟨by kernel_rfl, hw.fr⟩
       ·
        have h := bf hb207 h
        refine WR.unsat (c0 := true) (g := z204) rfl rfl rfl hb207 rfl ?_
        refine WR.unsat (c0 := true) (g := z204) rfl rfl rfl hb207 rfl ?_
        refine WR.unsat (c0 := true) (g := z204) rfl rfl rfl hb207 rfl ?_
        refine vb (q_pick_f (v := .bool false) rfl rfl hb207 (by kernel_rfl)) ?_
        refine as_ (v := .bool false) ?_
        refine WR.done ?_
        refine WC.ret ?_
        intro w hw
        obtain rfl := Option.some.inj h
        subst hF
        exact ⟨by kernel_rfl, hw.fr⟩
      ·
       have h := bf hb183 h
       refine WR.unsat (c0 := true) (g := (((z158.2.2 && z170) && (z174 == 3)) && (z179 == 4))) rfl rfl rfl hb183 rfl ?_
       refine WR.unsat (c0 := true) (g := (((z158.2.2 && z170) && (z174 == 3)) && (z179 == 4))) rfl rfl rfl hb183 rfl ?_
       refine WR.unsat (c0 := true) (g := (((z158.2.2 && z170) && (z174 == 3)) && (z179 == 4))) rfl rfl rfl hb183 rfl ?_
       refine vb (q_pick_f (v := .bool false) rfl rfl hb183 (by kernel_rfl)) ?_
       refine mv (v := .bool false) ?_
       refine WR.unsat (c0 := true) (g := false) rfl rfl rfl rfl rfl ?_
       refine WR.unsat (c0 := true) (g := false) rfl rfl rfl rfl rfl ?_
       refine WR.unsat (c0 := true) (g := false) rfl rfl rfl rfl rfl ?_
       refine WR.unsat (c0 := true) (g := false) rfl rfl rfl rfl rfl ?_
       refine vb (q_pickf (v := .bool false) rfl rfl rfl) ?_
       refine as_ (v := .bool false) ?_
       refine WR.done ?_
       refine WC.ret ?_
       intro w hw
       obtain rfl := Option.some.inj h
       subst hF
       exact ⟨by kernel_rfl, hw.fr⟩
    ·
     have h := bf hb146 h
     refine WR.unsat (c0 := true) (g := z137.2) rfl rfl rfl hb146 rfl ?_
     refine WR.unsat (c0 := true) (g := z137.2) rfl rfl rfl hb146 rfl ?_
     refine WR.unsat (c0 := true) (g := z137.2) rfl rfl rfl hb146 rfl ?_
     refine vb (q_pick_t (v := .bool true) rfl rfl (not_f hb146) (by kernel_rfl)) ?_
     refine WR.done ?_
     refine WC.ctk (b := true) (by kernel_rfl) rfl ?_
     refine WC.rs ?_
     refine as_ (v := .bool false) ?_
     refine WR.done ?_
     refine WC.ret ?_
     intro w hw
     obtain rfl := Option.some.inj h
     subst hF
     exact ⟨by kernel_rfl, hw.fr⟩
   ·
    have h := bf hb104 h
    refine WR.unsat (c0 := true) (g := (!z94.2)) rfl rfl rfl hb104 rfl ?_
    refine WR.unsat (c0 := true) (g := (!z94.2)) rfl rfl rfl hb104 rfl ?_
    refine WR.unsat (c0 := true) (g := (!z94.2)) rfl rfl rfl hb104 rfl ?_
    refine WR.unsat (c0 := true) (g := (!z94.2)) rfl rfl rfl hb104 rfl ?_
    refine vb (q_pick_t (v := .bool true) rfl rfl (not_f hb104) (by kernel_rfl)) ?_
    refine mv (v := .bool true) ?_
    refine WR.unsat (c0 := true) (g := true) rfl rfl rfl (nott rfl) rfl ?_
    refine WR.unsat (c0 := true) (g := true) rfl rfl rfl (nott rfl) rfl ?_
    refine WR.unsat (c0 := true) (g := true) rfl rfl rfl (nott rfl) rfl ?_
    refine WR.unsat (c0 := true) (g := true) rfl rfl rfl (nott rfl) rfl ?_
    refine vb (q_pickt (v := .bool true) rfl rfl rfl) ?_
    refine WR.done ?_
    refine WC.ctk (b := true) (by kernel_rfl) rfl ?_
    refine WC.rs ?_
    refine as_ (v := .bool false) ?_
    refine WR.done ?_
    refine WC.ret ?_
    intro w hw
    obtain rfl := Option.some.inj h
    subst hF
    exact ⟨by kernel_rfl, hw.fr⟩
  ·
   have h := bf hb61 h
   refine WR.unsat (c0 := true) (g := z57) rfl rfl rfl hb61 rfl ?_
   refine WR.unsat (c0 := true) (g := z57) rfl rfl rfl hb61 rfl ?_
   refine WR.unsat (c0 := true) (g := z57) rfl rfl rfl hb61 rfl ?_
   refine WR.unsat (c0 := true) (g := z57) rfl rfl rfl hb61 rfl ?_
   refine WR.unsat (c0 := true) (g := z57) rfl rfl rfl hb61 rfl ?_
   refine vb (q_pick_t (v := .bool true) rfl rfl (not_f hb61) (by kernel_rfl)) ?_
   refine mv (v := .bool true) ?_
   refine WR.unsat (c0 := true) (g := true) rfl rfl rfl (nott rfl) rfl ?_
   refine WR.unsat (c0 := true) (g := true) rfl rfl rfl (nott rfl) rfl ?_
   refine WR.unsat (c0 := true) (g := true) rfl rfl rfl (nott rfl) rfl ?_
   refine WR.unsat (c0 := true) (g := true) rfl rfl rfl (nott rfl) rfl ?_
   refine WR.unsat (c0 := true) (g := true) rfl rfl rfl (nott rfl) rfl ?_
   refine WR.unsat (c0 := true) (g := true) rfl rfl rfl (nott rfl) rfl ?_
   refine vb (q_pickt (v := .bool true) rfl rfl rfl) ?_
   refine mv (v := .bool true) ?_
   refine WR.unsat (c0 := true) (g := true) rfl rfl rfl (nott rfl) rfl ?_
   refine WR.unsat (c0 := true) (g := true) rfl rfl rfl (nott rfl) rfl ?_
   refine WR.unsat (c0 := true) (g := true) rfl rfl rfl (nott rfl) rfl ?_
   refine WR.unsat (c0 := true) (g := true) rfl rfl rfl (nott rfl) rfl ?_
   refine vb (q_pickt (v := .bool true) rfl rfl rfl) ?_
   refine WR.done ?_
   refine WC.ctk (b := true) (by kernel_rfl) rfl ?_
   refine WC.rs ?_
   refine as_ (v := .bool false) ?_
   refine WR.done ?_
   refine WC.ret ?_
   intro w hw
   obtain rfl := Option.some.inj h
   subst hF
   exact ⟨by kernel_rfl, hw.fr⟩
 ·
  have h := bf hb50 h
  refine WR.unsat (c0 := true) (g := ((((Option.isNone z23.1) || (Option.isNone z33.1)) || (z23.2 != 0)) || (z33.2 != 0))) rfl rfl rfl hb50 rfl ?_
  refine vb (q_pick_t (v := .bool true) rfl rfl (not_f hb50) (by kernel_rfl)) ?_
  refine mv (v := .bool true) ?_
  refine WR.unsat (c0 := true) (g := true) rfl rfl rfl (nott rfl) rfl ?_
  refine WR.unsat (c0 := true) (g := true) rfl rfl rfl (nott rfl) rfl ?_
  refine WR.unsat (c0 := true) (g := true) rfl rfl rfl (nott rfl) rfl ?_
  refine WR.unsat (c0 := true) (g := true) rfl rfl rfl (nott rfl) rfl ?_
  refine WR.unsat (c0 := true) (g := true) rfl rfl rfl (nott rfl) rfl ?_
  refine WR.unsat (c0 := true) (g := true) rfl rfl rfl (nott rfl) rfl ?_
  refine WR.unsat (c0 := true) (g := true) rfl rfl rfl (nott rfl) rfl ?_
  refine vb (q_pickt (v := .bool true) rfl rfl rfl) ?_
  refine mv (v := .bool true) ?_
  refine WR.unsat (c0 := true) (g := true) rfl rfl rfl (nott rfl) rfl ?_
  refine WR.unsat (c0 := true) (g := true) rfl rfl rfl (nott rfl) rfl ?_
  refine WR.unsat (c0 := true) (g := true) rfl rfl rfl (nott rfl) rfl ?_
  refine WR.unsat (c0 := true) (g := true) rfl rfl rfl (nott rfl) rfl ?_
  refine WR.unsat (c0 := true) (g := true) rfl rfl rfl (nott rfl) rfl ?_
  refine WR.unsat (c0 := true) (g := true) rfl rfl rfl (nott rfl) rfl ?_
  refine vb (q_pickt (v := .bool true) rfl rfl rfl) ?_
  refine mv (v := .bool true) ?_
  refine WR.unsat (c0 := true) (g := true) rfl rfl rfl (nott rfl) rfl ?_
  refine WR.unsat (c0 := true) (g := true) rfl rfl rfl (nott rfl) rfl ?_
  refine WR.unsat (c0 := true) (g := true) rfl rfl rfl (nott rfl) rfl ?_
  refine WR.unsat (c0 := true) (g := true) rfl rfl rfl (nott rfl) rfl ?_
  refine vb (q_pickt (v := .bool true) rfl rfl rfl) ?_
  refine WR.done ?_
  refine WC.ctk (b := true) (by kernel_rfl) rfl ?_
  refine WC.rs ?_
  refine as_ (v := .bool false) ?_
  refine WR.done ?_
  refine WC.ret ?_
  intro w hw
  obtain rfl := Option.some.inj h
  subst hF
  exact ⟨by kernel_rfl, hw.fr⟩
theorem t_firthref11_Path {Γ : Gh} {w0 : World} {Apath : Option Addr} {cpath : Nat} {path : List Int} (hpath : Sl intT Γ Apath path) (hpathc : path.length ≤ cpath) (hs : Sat Γ w0) {r : Bool} (h : m_firthref11_Path path = some r) : Calls Tryz.prog 54 #[.slice Apath path.length cpath] w0 (fun e w' => e = .returned (.bool r) ∧ Fr no w0 w') := by
 refine calls_of (N := 25) (rs := [2]) (args := [.slice Apath path.length cpath]) Tryz.func54 rfl Tryz.ntmps54 Tryz.results54 rfl ?_
 obtain ⟨F, hF⟩ : ∃ F : Fm, F = ⟨no, w0, Γ⟩ := ⟨_, rfl⟩
 refine WC.here (C := CC F Γ []) ?_ (hF ▸ Cur.start0 hs)
 refine WC.rs ?_
 refine as_ (v := .bool false) ?_
 refine WR.done ?_
 refine WC.seq ?_
 refine WC.rs ?_
 refine as_ (v := .int .i64 0) ?_
 refine WR.done ?_
 refine WC.block ?_
 refine WC.forI h (fun (i2 : Nat) (s : Unit) σ w => match s with | () => slots σ [(0, .slice Apath path.length cpath), (3, .int .i64 ((i2 : Nat) : Int))] ∧ CC F Γ [] w ∧ True) ?_ ?_
 ·
  intro w hw
  exact ⟨(sl_ (by kernel_rfl)), hw, trivial⟩
 rintro f1 i2 ⟨⟩ σ w hi3 hlt4 hge5 ⟨hsl, hw, -⟩
 refine Wpt.slots hsl ?_
 refine WC.here (C := CC F Γ []) ?_ hw
 clear hw hsl
 refine WC.seq ?_
 refine WC.rs ?_
 refine mv (v := .int .i64 ((i2 : Nat) : Int)) ?_
 refine mv (v := .slice Apath path.length cpath) ?_
 refine vb (q_len_slice rfl Tryz.underlying24 rfl) ?_
 refine vb (q_lss rfl rfl rfl) ?_
 refine WR.done ?_
 refine WC.cond (b := (decide (((i2 : Nat) : Int) < ((path.length : Nat) : Int)))) (by kernel_rfl) (fun hb6 => ?_) (fun hb6 => ?_)
 ·
  have hl7 := ilt hb6
  have h := hlt4 hl7
  refine WC.skip ?_
  change WC _ _ _ _ _ _
  refine WC.seq ?_
  refine WC.block ?_
  refine WC.rs ?_
  refine mv (v := .slice Apath path.length cpath) ?_
  refine mv (v := .int .i64 ((i2 : Nat) : Int)) ?_
  refine vb (q_ixn (i := i2) Tryz.underlying24 Tryz.sizeOf3 rfl rfl rfl hl7 (hpath.some_ hl7)) ?_
  refine vb (q_ld (c := 0) (v := .int .i64 (gt path i2)) (hpath.intT_at hl7).2 rfl Tryz.isAgg3 rfl rfl) ?_
  refine vb (q_lss rfl rfl rfl) ?_
  refine mv (v := .bool (decide ((gt path i2) < 0))) ?_
  refine vg0 rfl rfl rfl rfl rfl (fun hg8 => QV.qo (q_move (v := .slice Apath path.length cpath) rfl (by kernel_rfl))) ?_
  refine vg0 rfl rfl rfl rfl rfl (fun hg9 => QV.qo (q_move (v := .int .i64 ((i2 : Nat) : Int)) rfl (by kernel_rfl))) ?_
  refine vg0 rfl rfl rfl rfl rfl (fun hg10 => QV.qo (q_ixn (i := i2) Tryz.underlying24 Tryz.sizeOf3 rfl (gu hg10 rfl) (gu hg10 rfl) hl7 (hpath.some_ hl7))) ?_
  refine vg0 rfl rfl rfl rfl rfl (fun hg11 => QV.qo (q_ld (c := 0) (v := .int .i64 (gt path i2)) (hpath.intT_at hl7).2 rfl Tryz.isAgg3 (gu hg11 rfl) rfl)) ?_
  refine vg0 rfl rfl rfl rfl rfl (fun hg12 => QV.qo (q_gtr rfl (gu hg12 rfl) rfl)) ?_
  refine vb (q_pick rfl rfl (pk_or' (g := (decide ((gt path i2) < 0))) (y := (decide (15 < (gt path i2)))))) ?_
  refine WR.done ?_
  refine WC.cif h (by kernel_rfl) (fun hb13 h => ?_) (fun hb13 h => ?_)
  ·
   refine WC.rs ?_
   refine as_ (v := .bool false) ?_
   refine WR.done ?_
   refine WC.ret ?_
   intro w hw
   obtain rfl := Option.some.inj h
   subst hF
   exact ⟨by kernel_rfl, hw.fr⟩
  ·
   refine WC.skip ?_
   change WC _ _ _ _ _ _
   refine WC.region ?_
   refine mv (v := .int .i64 ((i2 : Nat) : Int)) ?_
   refine vb (q_add_r (r := ((i2 + 1 : Nat) : Int)) rfl rfl rfl (ctr_len hl7 hpath.le)) ?_
   refine as_ (v := .int .i64 ((i2 + 1 : Nat) : Int)) ?_
   refine WR.nil ?_
   intro w hw
   exact ⟨hl7, (), h, (sl_ (by kernel_rfl)), hw, trivial⟩
 ·
  have h := hge5 (ige hb6)
  refine WC.exit ?_
  change WC _ _ _ _ _ _
  refine WC.rs ?_
  refine mv (v := .slice Apath path.length cpath) ?_
  refine vb (q_len_slice rfl Tryz.underlying24 rfl) ?_
  refine vb (q_leq rfl rfl rfl) ?_
  refine as_ (v := .bool (decide (((path.length : Nat) : Int) ≤ 2))) ?_
  refine WR.done ?_
  refine WC.ret ?_
  intro w hw
  obtain rfl := Option.some.inj h
  subst hF
  exact ⟨by kernel_rfl, hw.fr⟩
abbrev r_firthref11_longer (r : List Int) (U : List Rowb) (Γ : Gh) (v : Value) : Prop := ∃ (A0 : Option Addr), ∃ (c0 : Nat), ∃ (row0 : Rowb), v = .slice A0 r.length c0 ∧ U = [row0] ∧ Own intT Γ 3 row0 A0 c0 r ∧ True
theorem t_firthref11_longer {Γ : Gh} {w0 : World} {Apath : Option Addr} {cpath : Nat} {path : List Int} (hpath : Sl intT Γ Apath path) (hpathc : path.length ≤ cpath) (d : Int) (hd : I64 d) (hp : Pre [] Γ w0) {r : List Int} (h : m_firthref11_longer path d = some r) : Calls Tryz.prog 57 #[.slice Apath path.length cpath, .int .i64 d] w0 (Outc Γ [] w0 (r_firthref11_longer r)) := by
 refine calls_of (N := 13) (rs := [4]) (args := [.slice Apath path.length cpath, .int .i64 d]) Tryz.func57 rfl Tryz.ntmps57 Tryz.results57 rfl ?_
 obtain ⟨F, hF⟩ : ∃ F : Fm, F = ⟨ids [], w0, Γ⟩ := ⟨_, rfl⟩
 refine WC.here (C := CC F Γ []) ?_ (hF ▸ hp.start)
 refine WC.rs ?_
 refine as_ (v := .slice none 0 0) ?_
 refine WR.done ?_
 refine WC.rs ?_
 refine as_ (v := .slice none 0 0) ?_
 refine WR.done ?_
 refine WC.rs ?_
 refine mv (v := .slice none 0 0) ?_
 refine mv (v := .slice Apath path.length cpath) ?_
 refine WR.sub (fun w hw => hw.pad) ?_
 obtain ⟨hk1, h⟩ := chk_some h
 refine e_append (T := intT) (xs := []) (ys := path) elem_24 (i := 0) rfl rfl rfl rfl (by kernel_rfl) rfl rfl (Own.nil intT Γ 3) (of_decide_eq_true hk1) (fun w hw => src_sl hpath hw) ?_
 intro row2 A3 c4 ho5
 refine as_ (v := .slice A3 path.length c4) ?_
 refine WR.done ?_
 refine WC.rs ?_
 refine mv (v := .slice A3 path.length c4) ?_
 refine mv (v := .int .i64 d) ?_
 refine e_buildSlice (cs := #[.int .i64 d]) (e := 3) rfl rfl rfl rfl (fun w => by kernel_rfl) ?_
 intro g6
 obtain ⟨hk7, h⟩ := chk_some h
 refine e_append (T := intT) (xs := path) (ys := [d]) elem_24 (i := 1) rfl rfl rfl rfl rfl rfl rfl ho5 (of_decide_eq_true hk7) (fun w hw => src_one (T := intT) (y := d) (i := 0) rfl (by exact ⟨rfl, hd⟩) hw) ?_
 intro row8 A9 c10 ho11
 refine as_ (v := .slice A9 (path ++ [d]).length c10) ?_
 refine WR.done ?_
 refine WC.ret ?_
 intro w hw
 obtain rfl := Option.some.inj h
 subst hF
 exact end_e (is := [1]) (by kernel_rfl) hw rfl ⟨A9, c10, row8, rfl, rfl, ho11, trivial⟩
theorem t_firthref01_Hash {Γ : Gh} {w0 : World} {Ab : Option Addr} {cb : Nat} {b : List UInt8} (hb : Sl byteT Γ Ab b) (hbc : b.length ≤ cb) (hs : Sat Γ w0) {r : Int} (h : m_firthref01_Hash b = some r) : Calls Tryz.prog 80 #[.slice Ab b.length cb] w0 (fun e w' => e = .returned (.int .u64 r) ∧ Fr no w0 w') := by
 refine calls_of (N := 30) (rs := [2]) (args := [.slice Ab b.length cb]) Tryz.func80 rfl Tryz.ntmps80 Tryz.results80 rfl ?_
 obtain ⟨F, hF⟩ : ∃ F : Fm, F = ⟨no, w0, Γ⟩ := ⟨_, rfl⟩
 refine WC.here (C := CC F Γ []) ?_ (hF ▸ Cur.start0 hs)
 refine WC.rs ?_
 refine as_ (v := .int .u64 0) ?_
 refine WR.done ?_
 refine WC.rs ?_
 refine as_ (v := .int .u64 14695981039346656037) ?_
 refine WR.done ?_
 refine WC.seq ?_
 refine WC.rs ?_
 refine as_ (v := .int .i64 0) ?_
 refine WR.done ?_
 refine WC.block ?_
 refine WC.forI h (fun (i4 : Nat) (h_1 : Int) σ w => slots σ [(0, .slice Ab b.length cb), (3, .int .u64 h_1), (4, .int .i64 ((i4 : Nat) : Int))] ∧ CC F Γ [] w ∧ U64 h_1 ∧ True) ?_ ?_
 ·
  intro w hw
  exact ⟨(sl_ (by kernel_rfl)), hw, (show U64 14695981039346656037 by decide), trivial⟩
 rintro f3 i4 h_1 σ w hi5 hlt6 hge7 ⟨hsl, hw, hr2, -⟩
 refine Wpt.slots hsl ?_
 refine WC.here (C := CC F Γ []) ?_ hw
 clear hw hsl
 refine WC.seq ?_
 refine WC.rs ?_
 refine mv (v := .int .i64 ((i4 : Nat) : Int)) ?_
 refine mv (v := .slice Ab b.length cb) ?_
 refine vb (q_len_slice rfl Tryz.underlying136 rfl) ?_
 refine vb (q_lss rfl rfl rfl) ?_
 refine WR.done ?_
 refine WC.cond (b := (decide (((i4 : Nat) : Int) < ((b.length : Nat) : Int)))) (by kernel_rfl) (fun hb8 => ?_) (fun hb8 => ?_)
 ·
  have hl9 := ilt hb8
  have h := hlt6 hl9
  refine WC.skip ?_
  change WC _ _ _ _ _ _
  refine WC.seq ?_
  refine WC.block ?_
  refine WC.rs ?_
  refine mv (v := .int .u64 h_1) ?_
  refine mv (v := .slice Ab b.length cb) ?_
  refine mv (v := .int .i64 ((i4 : Nat) : Int)) ?_
  refine vb (q_ixn (i := i4) Tryz.underlying136 Tryz.sizeOf5 rfl rfl rfl hl9 (hb.some_ hl9)) ?_
  refine vb (q_ld (c := 0) (v := .int .u8 (((gt b i4).toNat : Nat) : Int)) (hb.byteT_at hl9).2 rfl Tryz.isAgg5 rfl rfl) ?_
  refine vb (q_conv Tryz.underlying78 Tryz.underlying5 rfl rfl) ?_
  refine vb (q_xor rfl rfl rfl) ?_
  refine as_ (v := .int .u64 (ixor .u64 h_1 (wu64 (((gt b i4).toNat : Nat) : Int)))) ?_
  refine WR.done ?_
  refine WC.region ?_
  refine mv (v := .int .u64 (ixor .u64 h_1 (wu64 (((gt b i4).toNat : Nat) : Int)))) ?_
  refine vb (q_mul rfl rfl rfl) ?_
  refine as_ (v := .int .u64 (wu64 ((ixor .u64 h_1 (wu64 (((gt b i4).toNat : Nat) : Int))) * 1099511628211))) ?_
  refine WR.nil ?_
  change WC _ _ _ _ _ _
  refine WC.region ?_
  refine mv (v := .int .i64 ((i4 : Nat) : Int)) ?_
  refine vb (q_add_r (r := ((i4 + 1 : Nat) : Int)) rfl rfl rfl (ctr_len hl9 hb.le)) ?_
  refine as_ (v := .int .i64 ((i4 + 1 : Nat) : Int)) ?_
  refine WR.nil ?_
  intro w hw
  exact ⟨hl9, (wu64 ((ixor .u64 h_1 (wu64 (((gt b i4).toNat : Nat) : Int))) * 1099511628211)), h, (sl_ (by kernel_rfl)), hw, (wu64_r _), trivial⟩
 ·
  have h := hge7 (ige hb8)
  refine WC.exit ?_
  change WC _ _ _ _ _ _
  refine WC.rs ?_
  refine mv (v := .int .u64 h_1) ?_
  refine mv (v := .int .u64 h_1) ?_
  refine vb (q_quo rfl rfl rfl (by decide)) ?_
  refine vb (q_xor rfl rfl rfl) ?_
  refine as_ (v := .int .u64 (ixor .u64 h_1 (wu64 (h_1.tdiv 8589934592)))) ?_
  refine WR.done ?_
  refine WC.rs ?_
  refine mv (v := .int .u64 (ixor .u64 h_1 (wu64 (h_1.tdiv 8589934592)))) ?_
  refine vb (q_mul rfl rfl rfl) ?_
  refine as_ (v := .int .u64 (wu64 ((ixor .u64 h_1 (wu64 (h_1.tdiv 8589934592))) * 18397679294719823053))) ?_
  refine WR.done ?_
  refine WC.rs ?_
  refine mv (v := .int .u64 (wu64 ((ixor .u64 h_1 (wu64 (h_1.tdiv 8589934592))) * 18397679294719823053))) ?_
  refine mv (v := .int .u64 (wu64 ((ixor .u64 h_1 (wu64 (h_1.tdiv 8589934592))) * 18397679294719823053))) ?_
  refine vb (q_quo rfl rfl rfl (by decide)) ?_
  refine vb (q_xor rfl rfl rfl) ?_
  refine as_ (v := .int .u64 (ixor .u64 (wu64 ((ixor .u64 h_1 (wu64 (h_1.tdiv 8589934592))) * 18397679294719823053)) (wu64 ((wu64 ((ixor .u64 h_1 (wu64 (h_1.tdiv 8589934592))) * 18397679294719823053)).tdiv 8589934592)))) ?_
  refine WR.done ?_
  refine WC.ret ?_
  intro w hw
  obtain rfl := Option.some.inj h
  subst hF
  exact ⟨by kernel_rfl, hw.fr⟩
abbrev r_firthref11_Place (r : List Int) (U : List Rowb) (Γ : Gh) (v : Value) : Prop := ∃ (A0 : Option Addr), ∃ (c0 : Nat), ∃ (row0 : Rowb), v = .slice A0 r.length c0 ∧ U = [row0] ∧ Own intT Γ 3 row0 A0 c0 r ∧ True
theorem t_firthref11_Place {Γ : Gh} {w0 : World} (key : ByteArray) (hkey : key.size ≤ lim) (hp : Pre [] Γ w0) {r : List Int} (h : m_firthref11_Place key = some r) : Calls Tryz.prog 68 #[.string key] w0 (Outc Γ [] w0 (r_firthref11_Place r)) := by
 refine calls_of (N := 15) (rs := [2]) (args := [.string key]) Tryz.func68 rfl Tryz.ntmps68 Tryz.results68 rfl ?_
 obtain ⟨F, hF⟩ : ∃ F : Fm, F = ⟨ids [], w0, Γ⟩ := ⟨_, rfl⟩
 refine WC.here (C := CC F Γ []) ?_ (hF ▸ hp.start)
 refine WC.rs ?_
 refine as_ (v := .slice none 0 0) ?_
 refine WR.done ?_
 refine WC.rs ?_
 refine mv (v := .string key) ?_
 refine e_convB (src := 9) (dst := 136) (s := key) Tryz.underlying9 Tryz.underlying136 Tryz.underlying5 hkey rfl rfl rfl rfl rfl ?_
 intro Γ1 A2 c3 hl4 hs5 hc6
 obtain ⟨z7, hz8, h⟩ := bnd h
 refine vc rfl rfl rfl (q_call (call_run Tryz.call80 rfl rfl (by kernel_rfl)) (fun w hw => t_firthref01_Hash (Γ := Gh.all w) (hs5.mono hw.sat.le_all) hc6 (Sat.all w) hz8)) ?_
 refine as_ (v := .int .u64 z7) ?_
 refine WR.done ?_
 refine WC.rs ?_
 refine mv (v := .int .u64 z7) ?_
 refine vb (q_quo rfl rfl rfl (by decide)) ?_
 refine vb (q_conv Tryz.underlying3 Tryz.underlying78 rfl rfl) ?_
 refine mv (v := .int .u64 z7) ?_
 refine vb (q_quo rfl rfl rfl (by decide)) ?_
 refine vb (q_rem rfl rfl rfl (by decide)) ?_
 refine vb (q_conv Tryz.underlying3 Tryz.underlying78 rfl rfl) ?_
 refine e_buildSlice (cs := #[.int .i64 (w64 (wu64 (z7.tdiv 1152921504606846976))), .int .i64 (w64 ((wu64 (z7.tdiv 72057594037927936)).tmod 16))]) (e := 3) rfl rfl rfl rfl (fun w => by kernel_rfl) ?_
 intro g9
 refine as_ (v := .slice (some ⟨g9, 0, none⟩) 2 2) ?_
 refine WR.done ?_
 refine WC.ret ?_
 intro w hw
 have ho10 : Own intT Γ1 3 [(g9, .cells #[.int .i64 (w64 (wu64 (z7.tdiv 1152921504606846976))), .int .i64 (w64 ((wu64 (z7.tdiv 72057594037927936)).tmod 16))] 3 (0, 0))] (some ⟨g9, 0, none⟩) 2 [(w64 (wu64 (z7.tdiv 1152921504606846976))), (w64 ((wu64 (z7.tdiv 72057594037927936)).tmod 16))] := Own.of_blockL (T := intT) (ys := [(w64 (wu64 (z7.tdiv 1152921504606846976))), (w64 ((wu64 (z7.tdiv 72057594037927936)).tmod 16))]) [[.int .i64 (w64 (wu64 (z7.tdiv 1152921504606846976)))], [.int .i64 (w64 ((wu64 (z7.tdiv 72057594037927936)).tmod 16))]] rfl (show 2 ≤ lim by decide) (show Ty.rd intT Γ1 [.int .i64 (w64 (wu64 (z7.tdiv 1152921504606846976)))] (w64 (wu64 (z7.tdiv 1152921504606846976))) ∧ Ty.rd intT Γ1 [.int .i64 (w64 ((wu64 (z7.tdiv 72057594037927936)).tmod 16))] (w64 ((wu64 (z7.tdiv 72057594037927936)).tmod 16)) ∧ True from ⟨⟨rfl, (w64_r _)⟩, ⟨rfl, (w64_r _)⟩, trivial⟩)
 obtain rfl := Option.some.inj h
 subst hF
 exact end_e (is := [0]) (by kernel_rfl) hw rfl ⟨(some ⟨g9, 0, none⟩), 2, [(g9, .cells #[.int .i64 (w64 (wu64 (z7.tdiv 1152921504606846976))), .int .i64 (w64 ((wu64 (z7.tdiv 72057594037927936)).tmod 16))] 3 (0, 0))], rfl, rfl, ho10, trivial⟩
abbrev r_firthref11_Recs (r : List Rec) (U : List Rowb) (Γ : Gh) (v : Value) : Prop := ∃ (A0 : Option Addr), ∃ (c0 : Nat), ∃ (row0 : Rowb), v = .slice A0 r.length c0 ∧ U = [row0] ∧ Own recT Γ 70 row0 A0 c0 r ∧ True
theorem t_firthref11_Recs {Γ : Gh} {w0 : World} {Aall : Option Addr} {call : Nat} {all : List Rec} (hall : Sl recT Γ Aall all) (hallc : all.length ≤ call) {Apath : Option Addr} {cpath : Nat} {path : List Int} (hpath : Sl intT Γ Apath path) (hpathc : path.length ≤ cpath) (hp : Pre [] Γ w0) {r : List Rec} (h : m_firthref11_Recs all path = some r) : Calls Tryz.prog 55 #[.slice Aall all.length call, .slice Apath path.length cpath] w0 (Outc Γ [] w0 (r_firthref11_Recs r)) := by
 refine calls_of (N := 53) (rs := [4]) (args := [.slice Aall all.length call, .slice Apath path.length cpath]) Tryz.func55 rfl Tryz.ntmps55 Tryz.results55 rfl ?_
 obtain ⟨F, hF⟩ : ∃ F : Fm, F = ⟨ids [], w0, Γ⟩ := ⟨_, rfl⟩
 refine WC.here (C := CC F Γ []) ?_ (hF ▸ hp.start)
 refine WC.rs ?_
 refine as_ (v := .slice none 0 0) ?_
 refine WR.done ?_
 refine WC.rs ?_
 refine as_ (v := .slice none 0 0) ?_
 refine WR.done ?_
 refine WC.seq ?_
 refine WC.rs ?_
 refine as_ (v := .int .i64 0) ?_
 refine WR.done ?_
 refine WC.block ?_
 refine WC.loopN h (fun (s : (List Rec) × Int) σ w => match s with | (out_3, i_8) => ∃ (Γ1 : Gh), ∃ (A4 : Option Addr), ∃ (c5 : Nat), ∃ (row6 : Rowb), slots σ [(0, .slice Aall all.length call), (1, .slice Apath path.length cpath), (5, .slice A4 out_3.length c5), (6, .int .i64 i_8)] ∧ CC F Γ1 [row6] w ∧ Gh.le Γ Γ1 ∧ Own recT Γ1 70 row6 A4 c5 out_3 ∧ I64 i_8 ∧ True) ?_ ?_
 ·
  intro w hw
  have hw := hw.pad
  exact ⟨Γ, none, 0, [], (sl_ (by kernel_rfl)), hw, (Gh.refl _), (Own.nil recT _ 70), (show I64 0 by decide), trivial⟩
 rintro f10 ⟨out_3, i_8⟩ σ w h ⟨Γ1, A4, c5, row6, hsl, hw, hl2, ho7, hr9, -⟩
 refine Wpt.slots hsl ?_
 refine WC.here (C := CC F Γ1 [row6]) ?_ hw
 clear hw hsl
 refine WC.seq ?_
 refine WC.rs ?_
 refine mv (v := .int .i64 i_8) ?_
 refine mv (v := .slice Aall all.length call) ?_
 refine vb (q_len_slice rfl Tryz.underlying23 rfl) ?_
 refine vb (q_lss rfl rfl rfl) ?_
 refine mv (v := .bool (decide (i_8 < ((all.length : Nat) : Int)))) ?_
 refine vg1 rfl rfl rfl rfl rfl (fun hg14 => QV.qo (q_move (v := .slice Apath path.length cpath) rfl (by kernel_rfl))) ?_
 obtain ⟨z16, hz17, h⟩ := bnd h
 refine vg1 rfl rfl rfl rfl rfl (fun hg15 => (q_call (call_run Tryz.call54 rfl rfl (args1 (gu hg15 rfl))) (fun w hw => t_firthref11_Path (Γ := Gh.all w) ((hpath.mono hl2).mono hw.sat.le_all) hpathc (Sat.all w) (gc_of hz17 hg15)))) ?_
 refine vb (q_pick rfl rfl (pk_and' (g := (decide (i_8 < ((all.length : Nat) : Int)))) (y := z16))) ?_
 refine WR.done ?_
 refine WC.cif h (by kernel_rfl) (fun hb18 h => ?_) (fun hb18 h => ?_)
 ·
  refine WC.skip ?_
  change WC _ _ _ _ _ _
  refine WC.cut (fun σ w => ∃ (out_21 : List Rec), ∃ (Γ19 : Gh), ∃ (A22 : Option Addr), ∃ (c23 : Nat), ∃ (row24 : Rowb), m_firthref11_Recs_j11 i_8 f10 out_21 = some r ∧ slots σ [(0, .slice Aall all.length call), (1, .slice Apath path.length cpath), (5, .slice A22 out_21.length c23), (6, .int .i64 i_8)] ∧ CC F Γ19 [row24] w ∧ Gh.le Γ1 Γ19 ∧ Own recT Γ19 70 row24 A22 c23 out_21 ∧ True) ?_ ?_
  ·
   refine WC.block ?_
   refine WC.rs ?_
   refine mv (v := .slice Aall all.length call) ?_
   refine mv (v := .int .i64 i_8) ?_
   obtain ⟨hk26, h⟩ := chk_some h
   refine vb (q_ix Tryz.underlying23 Tryz.sizeOf70 rfl rfl rfl hk26 ((hall.mono hl2).some_ (inb_lt hk26))) ?_
   refine vb (q_field_addr (i_8.toNat * 2) fld_70_0 rfl rfl ((hall.mono hl2).some_ (inb_lt hk26)) rfl) ?_
   obtain ⟨A27, c28, hx29⟩ := (hall.mono hl2).recT_at i_8.toNat
   refine vb (q_ld (c := 0) (v := .string (gt all i_8.toNat).key) (hx29 (inb_lt hk26)).2 rfl Tryz.isAgg9 rfl rfl) ?_
   obtain ⟨z30, hz31, h⟩ := bnd h
   refine e_call (is := []) rfl rfl (call_run Tryz.call68 rfl rfl (by kernel_rfl)) rfl (fun w hp => t_firthref11_Place ((gt all i_8.toNat).key) (hx29 (inb_lt hk26)).1.1 hp hz31) ?_
   rintro Γ32 U34 v35 hl33 ⟨A36, c37, row38, rfl, rfl, hr39, _⟩
   change WR _ _ _ (CC F Γ32 [row38, row6]) _ _ (upd _ 25 (.slice A36 z30.length c37))
   refine as_ (v := .slice A36 z30.length c37) ?_
   refine WR.done ?_
   refine WC.rs ?_
   refine as_ (v := .bool true) ?_
   refine WR.done ?_
   refine WC.seq ?_
   refine WC.rs ?_
   refine as_ (v := .int .i64 0) ?_
   refine WR.done ?_
   refine WC.block ?_
   refine WC.forI h (fun (i42 : Nat) (in_40 : Bool) σ w => slots σ [(0, .slice Aall all.length call), (1, .slice Apath path.length cpath), (5, .slice A4 out_3.length c5), (6, .int .i64 i_8), (7, .slice A36 z30.length c37), (8, .bool in_40), (9, .int .i64 ((i42 : Nat) : Int))] ∧ CC F Γ32 [row38, row6] w ∧ True) ?_ ?_
   ·
    intro w hw
    exact ⟨(sl_ (by kernel_rfl)), hw, trivial⟩
   rintro f41 i42 in_40 σ w hi43 hlt44 hge45 ⟨hsl, hw, -⟩
   refine Wpt.slots hsl ?_
   refine WC.here (C := CC F Γ32 [row38, row6]) ?_ hw
   clear hw hsl
   refine WC.seq ?_
   refine WC.rs ?_
   refine mv (v := .int .i64 ((i42 : Nat) : Int)) ?_
   refine mv (v := .slice Apath path.length cpath) ?_
   refine vb (q_len_slice rfl Tryz.underlying24 rfl) ?_
   refine vb (q_lss rfl rfl rfl) ?_
   refine WR.done ?_
   refine WC.cond (b := (decide (((i42 : Nat) : Int) < ((path.length : Nat) : Int)))) (by kernel_rfl) (fun hb46 => ?_) (fun hb46 => ?_)
   ·
    have hl47 := ilt hb46
    have h := hlt44 hl47
    refine WC.skip ?_
    change WC _ _ _ _ _ _
    refine WC.seq ?_
    refine WC.block ?_
    refine WC.dr (by kernel_rfl) (by kernel_rfl) (fun w hw => hw.drawn _) ?_
    refine wa rfl rfl rfl (q_move (v := .bool in_40) rfl (by kernel_rfl)) ?_
    refine wa rfl rfl rfl (q_move (v := .bool in_40) rfl (by kernel_rfl)) ?_
    refine wg1 rfl rfl rfl rfl rfl (fun hg48 => QV.qo (q_move (v := .slice A36 z30.length c37) rfl (by kernel_rfl))) ?_
    refine wg1 rfl rfl rfl rfl rfl (fun hg49 => QV.qo (q_move (v := .int .i64 ((i42 : Nat) : Int)) rfl (by kernel_rfl))) ?_
    obtain ⟨hk51, h⟩ := chk_some h
    refine wg1 rfl rfl rfl rfl rfl (fun hg50 => QV.qo (q_ixn (i := i42) Tryz.underlying24 Tryz.sizeOf3 rfl (gu hg50 rfl) (gu hg50 rfl) (of_decide_eq_true (imp_of hk51 hg50)) (hr39.some_ (of_decide_eq_true (imp_of hk51 hg50))))) ?_
    refine wg1 rfl rfl rfl rfl rfl (fun hg52 => QV.qo (q_ldo (c := 0) (v := .int .i64 (gt z30 i42)) (i := 0) rfl (hr39.intT_at (of_decide_eq_true (imp_of hk51 hg52))).2 rfl Tryz.isAgg3 (gu hg52 rfl) rfl)) ?_
    refine wg1 rfl rfl rfl rfl rfl (fun hg53 => QV.qo (q_move (v := .slice Apath path.length cpath) rfl (by kernel_rfl))) ?_
    refine wg1 rfl rfl rfl rfl rfl (fun hg54 => QV.qo (q_move (v := .int .i64 ((i42 : Nat) : Int)) rfl (by kernel_rfl))) ?_
    refine wg1 rfl rfl rfl rfl rfl (fun hg55 => QV.qo (q_ixn (i := i42) Tryz.underlying24 Tryz.sizeOf3 rfl (gu hg55 rfl) (gu hg55 rfl) hl47 ((hpath.mono (hl2.trans hl33)).some_ hl47))) ?_
    refine wg1 rfl rfl rfl rfl rfl (fun hg56 => QV.qo (q_ld (c := 0) (v := .int .i64 (gt path i42)) ((hpath.mono (hl2.trans hl33)).intT_at hl47).2 rfl Tryz.isAgg3 (gu hg56 rfl) rfl)) ?_
    refine wg1 rfl rfl rfl rfl rfl (fun hg57 => QV.qo (q_eql rfl (gu hg57 rfl) (gu hg57 rfl))) ?_
    refine wa rfl rfl rfl (q_pick rfl rfl (pk_and' (g := in_40) (y := ((gt z30 i42) == (gt path i42))))) ?_
    refine wa rfl rfl rfl (q_assign (v := .bool (in_40 && ((gt z30 i42) == (gt path i42)))) rfl (by kernel_rfl)) ?_
    refine WQ.nil ?_
    change WC _ _ _ _ _ _
    refine WC.region ?_
    refine mv (v := .int .i64 ((i42 : Nat) : Int)) ?_
    refine vb (q_add_r (r := ((i42 + 1 : Nat) : Int)) rfl rfl rfl (ctr_len hl47 (hpath.mono (hl2.trans hl33)).le)) ?_
    refine as_ (v := .int .i64 ((i42 + 1 : Nat) : Int)) ?_
    refine WR.nil ?_
    intro w hw
    exact ⟨hl47, (in_40 && ((gt z30 i42) == (gt path i42))), h, (sl_ (by kernel_rfl)), hw, trivial⟩
   ·
    have h := hge45 (ige hb46)
    refine WC.exit ?_
    change WC _ _ _ _ _ _
    refine WC.rs ?_
    refine mv (v := .bool in_40) ?_
    refine WR.done ?_
    refine WC.cif h (by kernel_rfl) (fun hb58 h => ?_) (fun hb58 h => ?_)
    ·
     refine WC.region ?_
     refine mv (v := .slice A4 out_3.length c5) ?_
     refine mv (v := .slice Aall all.length call) ?_
     refine mv (v := .int .i64 i_8) ?_
     refine vb (q_ix Tryz.underlying23 Tryz.sizeOf70 rfl rfl rfl hk26 ((hall.mono (hl2.trans hl33)).some_ (inb_lt hk26))) ?_
     obtain ⟨A59, c60, hx61⟩ := (hall.mono (hl2.trans hl33)).recT_at i_8.toNat
     refine vb (q_lda (c := 0) (vs := [.string (gt all i_8.toNat).key, .slice A59 ((gt all i_8.toNat).vers).length c60]) (hx61 (inb_lt hk26)).2 rfl Tryz.isAgg70 Tryz.sizeOf70 rfl rfl rfl) ?_
     refine e_buildSlice (cs := #[.string (gt all i_8.toNat).key, .slice A59 ((gt all i_8.toNat).vers).length c60]) (e := 70) rfl rfl rfl rfl (fun w => by kernel_rfl) ?_
     intro g62
     obtain ⟨hk63, h⟩ := chk_some h
     refine e_append (T := recT) (xs := out_3) (ys := [(gt all i_8.toNat)]) elem_23 (i := 2) rfl rfl rfl rfl rfl rfl rfl (ho7.mono hl33) (of_decide_eq_true hk63) (fun w hw => src_one (T := recT) (y := (gt all i_8.toNat)) (i := 0) rfl (by exact ⟨A59, c60, rfl, (hx61 (inb_lt hk26)).1⟩) hw) ?_
     intro row64 A65 c66 ho67
     refine as_ (v := .slice A65 (out_3 ++ [(gt all i_8.toNat)]).length c66) ?_
     refine WR.nil ?_
     intro w hw
     exact ⟨(out_3 ++ [(gt all i_8.toNat)]), Γ32, A65, c66, row64, h, (sl_ (by kernel_rfl)), (hw.only (is := [2]) rfl), hl33, ho67, trivial⟩
    ·
     refine WC.skip ?_
     intro w hw
     exact ⟨out_3, Γ32, A4, c5, row6, h, (sl_ (by kernel_rfl)), (hw.only (is := [1]) rfl), hl33, (ho7.mono hl33), trivial⟩
  ·
   rintro σ w ⟨out_21, Γ19, A22, c23, row24, h, hsl, hw, hl20, ho25, -⟩
   refine Wpt.slots hsl ?_
   refine WC.here (C := CC F Γ19 [row24]) ?_ hw
   clear hw hsl
   refine WC.region ?_
   refine mv (v := .int .i64 i_8) ?_
   refine vb (q_add rfl rfl rfl) ?_
   refine as_ (v := .int .i64 (w64 (i_8 + 1))) ?_
   refine WR.nil ?_
   intro w hw
   exact ⟨(out_21, (w64 (i_8 + 1))), h, Γ19, A22, c23, row24, (sl_ (by kernel_rfl)), hw, (hl2.trans hl20), ho25, (w64_r _), trivial⟩
 ·
  refine WC.exit ?_
  change WC _ _ _ _ _ _
  refine WC.rs ?_
  refine mv (v := .slice A4 out_3.length c5) ?_
  refine as_ (v := .slice A4 out_3.length c5) ?_
  refine WR.done ?_
  refine WC.ret ?_
  intro w hw
  obtain rfl := Option.some.inj h
  subst hF
  exact end_e (is := [0]) (by kernel_rfl) hw rfl ⟨A4, c5, row6, rfl, rfl, ho7, trivial⟩
abbrev r_firthref01_PutNum (r : List UInt8) (U : List Rowb) (Γ : Gh) (v : Value) : Prop := ∃ (A0 : Option Addr), ∃ (c0 : Nat), ∃ (row0 : Rowb), v = .slice A0 r.length c0 ∧ U = [row0] ∧ Own byteT Γ 5 row0 A0 c0 r ∧ True
theorem t_firthref01_PutNum {Γ : Gh} {w0 : World} (n : Int) (hn : I64 n) (hp : Pre [] Γ w0) {r : List UInt8} (h : m_firthref01_PutNum n = some r) : Calls Tryz.prog 111 #[.int .i64 n] w0 (Outc Γ [] w0 (r_firthref01_PutNum r)) := by
 refine calls_of (N := 22) (rs := [2]) (args := [.int .i64 n]) Tryz.func111 rfl Tryz.ntmps111 Tryz.results111 rfl ?_
 obtain ⟨F, hF⟩ : ∃ F : Fm, F = ⟨ids [], w0, Γ⟩ := ⟨_, rfl⟩
 refine WC.here (C := CC F Γ []) ?_ (hF ▸ hp.start)
 refine WC.rs ?_
 refine as_ (v := .slice none 0 0) ?_
 refine WR.done ?_
 refine WC.cut (fun σ w => ∃ (n_1 : Int), m_firthref01_PutNum_j1 n_1 = some r ∧ slots σ [(0, .int .i64 n_1)] ∧ CC F Γ [] w ∧ I64 n_1 ∧ True) ?_ ?_
 ·
  refine WC.rs ?_
  refine mv (v := .int .i64 n) ?_
  refine vb (q_lss rfl rfl rfl) ?_
  refine WR.done ?_
  refine WC.cif h (by kernel_rfl) (fun hb3 h => ?_) (fun hb3 h => ?_)
  ·
   refine WC.region ?_
   refine as_ (v := .int .i64 0) ?_
   refine WR.nil ?_
   intro w hw
   exact ⟨0, h, (sl_ (by kernel_rfl)), hw, (show I64 0 by decide), trivial⟩
  ·
   refine WC.skip ?_
   intro w hw
   exact ⟨n, h, (sl_ (by kernel_rfl)), hw, hn, trivial⟩
 ·
  rintro σ w ⟨n_1, h, hsl, hw, hr2, -⟩
  refine Wpt.slots hsl ?_
  refine WC.here (C := CC F Γ []) ?_ hw
  clear hw hsl
  refine WC.rs ?_
  refine as_ (v := .slice none 0 0) ?_
  refine WR.done ?_
  refine WC.seq ?_
  refine WC.block ?_
  refine WC.loopN h (fun (s : Int × (List UInt8)) σ w => match s with | (n_4, b_6) => ∃ (A7 : Option Addr), ∃ (c8 : Nat), ∃ (row9 : Rowb), slots σ [(0, .int .i64 n_4), (3, .slice A7 b_6.length c8)] ∧ CC F Γ [row9] w ∧ I64 n_4 ∧ Own byteT Γ 5 row9 A7 c8 b_6 ∧ True) ?_ ?_
  ·
   intro w hw
   have hw := hw.pad
   exact ⟨none, 0, [], (sl_ (by kernel_rfl)), hw, hr2, (Own.nil byteT _ 5), trivial⟩
  rintro f11 ⟨n_4, b_6⟩ σ w h ⟨A7, c8, row9, hsl, hw, hr5, ho10, -⟩
  refine Wpt.slots hsl ?_
  refine WC.here (C := CC F Γ [row9]) ?_ hw
  clear hw hsl
  refine WC.seq ?_
  refine WC.rs ?_
  refine mv (v := .int .i64 n_4) ?_
  refine vb (q_geq rfl rfl rfl) ?_
  refine WR.done ?_
  refine WC.cif h (by kernel_rfl) (fun hb15 h => ?_) (fun hb15 h => ?_)
  ·
   refine WC.skip ?_
   change WC _ _ _ _ _ _
   refine WC.block ?_
   refine WC.rs ?_
   refine mv (v := .slice A7 b_6.length c8) ?_
   refine mv (v := .int .i64 n_4) ?_
   refine vb (q_rem rfl rfl rfl (by decide)) ?_
   refine vb (q_add rfl rfl rfl) ?_
   refine vb (q_conv Tryz.underlying5 Tryz.underlying2 rfl rfl) ?_
   refine e_buildSlice (cs := #[.int .u8 (wu8 (w64 ((n_4.tmod 128) + 128)))]) (e := 5) rfl rfl rfl rfl (fun w => by kernel_rfl) ?_
   intro g16
   obtain ⟨hk17, h⟩ := chk_some h
   refine e_append (T := byteT) (xs := b_6) (ys := [(b8 (wu8 (w64 ((n_4.tmod 128) + 128))))]) elem_136 (i := 1) rfl rfl rfl rfl rfl rfl rfl ho10 (of_decide_eq_true hk17) (fun w hw => src_one (T := byteT) (y := (b8 (wu8 (w64 ((n_4.tmod 128) + 128))))) (i := 0) rfl (by exact (by show [Value.int .u8 (wu8 (w64 ((n_4.tmod 128) + 128)))] = [Value.int .u8 _]; rw [b8_val (wu8_r _)])) hw) ?_
   intro row18 A19 c20 ho21
   refine as_ (v := .slice A19 (b_6 ++ [(b8 (wu8 (w64 ((n_4.tmod 128) + 128))))]).length c20) ?_
   refine WR.done ?_
   refine WC.region ?_
   refine mv (v := .int .i64 n_4) ?_
   refine vb (q_quo rfl rfl rfl (by decide)) ?_
   refine as_ (v := .int .i64 (w64 (n_4.tdiv 128))) ?_
   refine WR.nil ?_
   intro w hw
   exact ⟨((w64 (n_4.tdiv 128)), (b_6 ++ [(b8 (wu8 (w64 ((n_4.tmod 128) + 128))))])), h, A19, c20, row18, (sl_ (by kernel_rfl)), (hw.only (is := [1]) rfl), (w64_r _), ho21, trivial⟩
  ·
   refine WC.exit ?_
   change WC _ _ _ _ _ _
   refine WC.rs ?_
   refine mv (v := .slice A7 b_6.length c8) ?_
   refine mv (v := .int .i64 n_4) ?_
   refine vb (q_conv Tryz.underlying5 Tryz.underlying2 rfl rfl) ?_
   refine e_buildSlice (cs := #[.int .u8 (wu8 n_4)]) (e := 5) rfl rfl rfl rfl (fun w => by kernel_rfl) ?_
   intro g22
   obtain ⟨hk23, h⟩ := chk_some h
   refine e_append (T := byteT) (xs := b_6) (ys := [(b8 (wu8 n_4))]) elem_136 (i := 1) rfl rfl rfl rfl rfl rfl rfl ho10 (of_decide_eq_true hk23) (fun w hw => src_one (T := byteT) (y := (b8 (wu8 n_4))) (i := 0) rfl (by exact (by show [Value.int .u8 (wu8 n_4)] = [Value.int .u8 _]; rw [b8_val (wu8_r _)])) hw) ?_
   intro row24 A25 c26 ho27
   refine as_ (v := .slice A25 (b_6 ++ [(b8 (wu8 n_4))]).length c26) ?_
   refine WR.done ?_
   refine WC.ret ?_
   intro w hw
   obtain rfl := Option.some.inj h
   subst hF
   exact end_e (is := [1]) (by kernel_rfl) hw rfl ⟨A25, c26, row24, rfl, rfl, ho27, trivial⟩
abbrev r_firthref01_PutText (r : List UInt8) (U : List Rowb) (Γ : Gh) (v : Value) : Prop := ∃ (A0 : Option Addr), ∃ (c0 : Nat), ∃ (row0 : Rowb), v = .slice A0 r.length c0 ∧ U = [row0] ∧ Own byteT Γ 5 row0 A0 c0 r ∧ True
theorem t_firthref01_PutText {Γ : Gh} {w0 : World} (s_ : ByteArray) (hs_ : s_.size ≤ lim) (hp : Pre [] Γ w0) {r : List UInt8} (h : m_firthref01_PutText s_ = some r) : Calls Tryz.prog 112 #[.string s_] w0 (Outc Γ [] w0 (r_firthref01_PutText r)) := by
 refine calls_of (N := 21) (rs := [2]) (args := [.string s_]) Tryz.func112 rfl Tryz.ntmps112 Tryz.results112 rfl ?_
 obtain ⟨F, hF⟩ : ∃ F : Fm, F = ⟨ids [], w0, Γ⟩ := ⟨_, rfl⟩
 refine WC.here (C := CC F Γ []) ?_ (hF ▸ hp.start)
 refine WC.rs ?_
 refine as_ (v := .slice none 0 0) ?_
 refine WR.done ?_
 refine WC.rs ?_
 refine mv (v := .string s_) ?_
 refine vb (q_len_str rfl Tryz.underlying9 rfl) ?_
 obtain ⟨z1, hz2, h⟩ := bnd h
 refine e_call (is := []) rfl rfl (call_run Tryz.call111 rfl rfl (by kernel_rfl)) rfl (fun w hp => t_firthref01_PutNum ((s_.size : Nat) : Int) (len_r hs_) hp hz2) ?_
 rintro Γ3 U5 v6 hl4 ⟨A7, c8, row9, rfl, rfl, hr10, _⟩
 change WR _ _ _ (CC F Γ3 [row9]) _ _ (upd _ 7 (.slice A7 z1.length c8))
 refine as_ (v := .slice A7 z1.length c8) ?_
 refine WR.done ?_
 refine WC.seq ?_
 refine WC.rs ?_
 refine as_ (v := .int .i64 0) ?_
 refine WR.done ?_
 refine WC.block ?_
 refine WC.forU h (fun (i17 : Nat) (b_11 : List UInt8) σ w => ∃ (A12 : Option Addr), ∃ (c13 : Nat), ∃ (row14 : Rowb), slots σ [(0, .string s_), (3, .slice A12 b_11.length c13), (4, .int .i64 ((i17 : Nat) : Int))] ∧ CC F Γ3 [row14] w ∧ Own byteT Γ3 5 row14 A12 c13 b_11 ∧ True) ?_ ?_
 ·
  intro w hw
  exact ⟨A7, c8, row9, (sl_ (by kernel_rfl)), hw, hr10, trivial⟩
 rintro f16 i17 b_11 σ w hi18 hlt19 hge20 ⟨A12, c13, row14, hsl, hw, ho15, -⟩
 refine Wpt.slots hsl ?_
 refine WC.here (C := CC F Γ3 [row14]) ?_ hw
 clear hw hsl
 refine WC.seq ?_
 refine WC.rs ?_
 refine mv (v := .int .i64 ((i17 : Nat) : Int)) ?_
 refine mv (v := .string s_) ?_
 refine vb (q_len_str rfl Tryz.underlying9 rfl) ?_
 refine vb (q_lss rfl rfl rfl) ?_
 refine WR.done ?_
 refine WC.cond (b := (decide (((i17 : Nat) : Int) < ((s_.size : Nat) : Int)))) (by kernel_rfl) (fun hb21 => ?_) (fun hb21 => ?_)
 ·
  have hl22 := ilt hb21
  have h := hlt19 hl22
  refine WC.skip ?_
  change WC _ _ _ _ _ _
  refine WC.seq ?_
  refine WC.block ?_
  refine WC.region ?_
  refine mv (v := .slice A12 b_11.length c13) ?_
  refine mv (v := .string s_) ?_
  refine mv (v := .int .i64 ((i17 : Nat) : Int)) ?_
  refine vb (q_sixn (i := i17) Tryz.underlying9 rfl rfl rfl hl22) ?_
  refine e_buildSlice (cs := #[.int .u8 (((gt s_.data.toList i17).toNat : Nat) : Int)]) (e := 5) rfl rfl rfl rfl (fun w => by kernel_rfl) ?_
  intro g23
  obtain ⟨hk24, h⟩ := chk_some h
  refine e_append (T := byteT) (xs := b_11) (ys := [(gt s_.data.toList i17)]) elem_136 (i := 1) rfl rfl rfl rfl rfl rfl rfl ho15 (of_decide_eq_true hk24) (fun w hw => src_one (T := byteT) (y := (gt s_.data.toList i17)) (i := 0) rfl (by exact rfl) hw) ?_
  intro row25 A26 c27 ho28
  refine as_ (v := .slice A26 (b_11 ++ [(gt s_.data.toList i17)]).length c27) ?_
  refine WR.nil ?_
  change WC _ _ _ _ _ _
  refine WC.region ?_
  refine mv (v := .int .i64 ((i17 : Nat) : Int)) ?_
  refine vb (q_add_r (r := ((i17 + 1 : Nat) : Int)) rfl rfl rfl (ctr_len hl22 hs_)) ?_
  refine as_ (v := .int .i64 ((i17 + 1 : Nat) : Int)) ?_
  refine WR.nil ?_
  intro w hw
  exact ⟨hl22, (b_11 ++ [(gt s_.data.toList i17)]), h, A26, c27, row25, (sl_ (by kernel_rfl)), (hw.only (is := [1]) rfl), ho28, trivial⟩
 ·
  have h := hge20 (ige hb21)
  refine WC.exit ?_
  change WC _ _ _ _ _ _
  refine WC.rs ?_
  refine mv (v := .slice A12 b_11.length c13) ?_
  refine as_ (v := .slice A12 b_11.length c13) ?_
  refine WR.done ?_
  refine WC.ret ?_
  intro w hw
  obtain rfl := Option.some.inj h
  subst hF
  exact end_e (is := [0]) (by kernel_rfl) hw rfl ⟨A12, c13, row14, rfl, rfl, ho15, trivial⟩
theorem t_firthref05_Mark {Γ : Gh} {w0 : World} (key : ByteArray) (hkey : key.size ≤ lim) {Al : Option Addr} {cl : Nat} {l : List Ver} (hl : Sl verT Γ Al l) (hlc : l.length ≤ cl) (hs : Sat Γ w0) {r : Int} (h : m_firthref05_Mark key l = some r) : Calls Tryz.prog 98 #[.string key, .slice Al l.length cl] w0 (fun e w' => e = .returned (.int .u64 r) ∧ Fr no w0 w') := by
 refine calls_of (N := 35) (rs := [4]) (args := [.string key, .slice Al l.length cl]) Tryz.func98 rfl Tryz.ntmps98 Tryz.results98 rfl ?_
 obtain ⟨F, hF⟩ : ∃ F : Fm, F = ⟨no, w0, Γ⟩ := ⟨_, rfl⟩
 refine WC.here (C := CC F Γ []) ?_ (hF ▸ Cur.start0 hs)
 refine WC.rs ?_
 refine as_ (v := .int .u64 0) ?_
 refine WR.done ?_
 refine WC.rs ?_
 refine mv (v := .string key) ?_
 obtain ⟨z1, hz2, h⟩ := bnd h
 refine e_call (is := []) rfl rfl (call_run Tryz.call112 rfl rfl (by kernel_rfl)) rfl (fun w hp => t_firthref01_PutText key hkey hp hz2) ?_
 rintro Γ3 U5 v6 hl4 ⟨A7, c8, row9, rfl, rfl, hr10, _⟩
 change WR _ _ _ (CC F Γ3 [row9]) _ _ (upd _ 8 (.slice A7 z1.length c8))
 refine as_ (v := .slice A7 z1.length c8) ?_
 refine WR.done ?_
 refine WC.seq ?_
 refine WC.rs ?_
 refine as_ (v := .int .i64 0) ?_
 refine WR.done ?_
 refine WC.block ?_
 refine WC.forI h (fun (i19 : Nat) (b_13 : List UInt8) σ w => ∃ (Γ11 : Gh), ∃ (A14 : Option Addr), ∃ (c15 : Nat), ∃ (row16 : Rowb), slots σ [(1, .slice Al l.length cl), (5, .slice A14 b_13.length c15), (6, .int .i64 ((i19 : Nat) : Int))] ∧ CC F Γ11 [row16] w ∧ Gh.le Γ3 Γ11 ∧ Own byteT Γ11 5 row16 A14 c15 b_13 ∧ True) ?_ ?_
 ·
  intro w hw
  exact ⟨Γ3, A7, c8, row9, (sl_ (by kernel_rfl)), hw, (Gh.refl _), hr10, trivial⟩
 rintro f18 i19 b_13 σ w hi20 hlt21 hge22 ⟨Γ11, A14, c15, row16, hsl, hw, hl12, ho17, -⟩
 refine Wpt.slots hsl ?_
 refine WC.here (C := CC F Γ11 [row16]) ?_ hw
 clear hw hsl
 refine WC.seq ?_
 refine WC.rs ?_
 refine mv (v := .int .i64 ((i19 : Nat) : Int)) ?_
 refine mv (v := .slice Al l.length cl) ?_
 refine vb (q_len_slice rfl Tryz.underlying67 rfl) ?_
 refine vb (q_lss rfl rfl rfl) ?_
 refine WR.done ?_
 refine WC.cond (b := (decide (((i19 : Nat) : Int) < ((l.length : Nat) : Int)))) (by kernel_rfl) (fun hb23 => ?_) (fun hb23 => ?_)
 ·
  have hl24 := ilt hb23
  have h := hlt21 hl24
  refine WC.skip ?_
  change WC _ _ _ _ _ _
  refine WC.seq ?_
  refine WC.block ?_
  refine WC.rs ?_
  refine mv (v := .slice A14 b_13.length c15) ?_
  refine mv (v := .slice Al l.length cl) ?_
  refine mv (v := .int .i64 ((i19 : Nat) : Int)) ?_
  refine vb (q_ixn (i := i19) Tryz.underlying67 Tryz.sizeOf115 rfl rfl rfl hl24 ((hl.mono (hl4.trans hl12)).some_ hl24)) ?_
  refine vb (q_field_addr (i19 * 5) fld_115_0 rfl rfl ((hl.mono (hl4.trans hl12)).some_ hl24) rfl) ?_
  refine vb (q_field_addr (i19 * 5) fld_112_0 rfl rfl ((hl.mono (hl4.trans hl12)).some_ hl24) rfl) ?_
  obtain ⟨A25, c26, hx27⟩ := (hl.mono (hl4.trans hl12)).verT_at i19
  refine vb (q_ld (c := 0) (v := .int .i64 (gt l i19).dot.s) (hx27 hl24).2 rfl Tryz.isAgg3 rfl rfl) ?_
  obtain ⟨z28, hz29, h⟩ := bnd h
  refine e_call (is := []) rfl rfl (call_run Tryz.call111 rfl rfl (by kernel_rfl)) rfl (fun w hp => t_firthref01_PutNum ((gt l i19).dot.s) (hx27 hl24).1.1 hp hz29) ?_
  rintro Γ30 U32 v33 hl31 ⟨A34, c35, row36, rfl, rfl, hr37, _⟩
  change WR _ _ _ (CC F Γ30 [row36, row16]) _ _ (upd _ 22 (.slice A34 z28.length c35))
  obtain ⟨hk38, h⟩ := chk_some h
  refine e_append (T := byteT) (xs := b_13) (ys := z28) elem_136 (i := 1) rfl rfl rfl rfl rfl rfl rfl (ho17.mono hl31) (of_decide_eq_true hk38) (fun w hw => src_own (i := 0) rfl hr37 hw) ?_
  intro row39 A40 c41 ho42
  refine as_ (v := .slice A40 (b_13 ++ z28).length c41) ?_
  refine WR.done ?_
  refine WC.region ?_
  refine mv (v := .slice A40 (b_13 ++ z28).length c41) ?_
  refine mv (v := .slice Al l.length cl) ?_
  refine mv (v := .int .i64 ((i19 : Nat) : Int)) ?_
  refine vb (q_ixn (i := i19) Tryz.underlying67 Tryz.sizeOf115 rfl rfl rfl hl24 ((hl.mono ((hl4.trans hl12).trans hl31)).some_ hl24)) ?_
  refine vb (q_field_addr (i19 * 5) fld_115_0 rfl rfl ((hl.mono ((hl4.trans hl12).trans hl31)).some_ hl24) rfl) ?_
  refine vb (q_field_addr (i19 * 5 + 1) fld_112_1 rfl rfl ((hl.mono ((hl4.trans hl12).trans hl31)).some_ hl24) rfl) ?_
  refine vb (q_ld (c := 1) (v := .int .i64 (gt l i19).dot.n) ((hx27 hl24).2.mono hl31) rfl Tryz.isAgg2 rfl rfl) ?_
  obtain ⟨z43, hz44, h⟩ := bnd h
  refine e_call (is := []) rfl rfl (call_run Tryz.call111 rfl rfl (by kernel_rfl)) rfl (fun w hp => t_firthref01_PutNum ((gt l i19).dot.n) (hx27 hl24).1.2.1 hp hz44) ?_
  rintro Γ45 U47 v48 hl46 ⟨A49, c50, row51, rfl, rfl, hr52, _⟩
  change WR _ _ _ (CC F Γ45 [row51, row36, row39]) _ _ (upd _ 31 (.slice A49 z43.length c50))
  obtain ⟨hk53, h⟩ := chk_some h
  refine e_append (T := byteT) (xs := (b_13 ++ z28)) (ys := z43) elem_136 (i := 2) rfl rfl rfl rfl rfl rfl rfl (ho42.mono hl46) (of_decide_eq_true hk53) (fun w hw => src_own (i := 0) rfl hr52 hw) ?_
  intro row54 A55 c56 ho57
  refine as_ (v := .slice A55 ((b_13 ++ z28) ++ z43).length c56) ?_
  refine WR.nil ?_
  change WC _ _ _ _ _ _
  refine WC.region ?_
  refine mv (v := .int .i64 ((i19 : Nat) : Int)) ?_
  refine vb (q_add_r (r := ((i19 + 1 : Nat) : Int)) rfl rfl rfl (ctr_len hl24 (hl.mono (hl4.trans hl12)).le)) ?_
  refine as_ (v := .int .i64 ((i19 + 1 : Nat) : Int)) ?_
  refine WR.nil ?_
  intro w hw
  exact ⟨hl24, ((b_13 ++ z28) ++ z43), h, Γ45, A55, c56, row54, (sl_ (by kernel_rfl)), (hw.only (is := [2]) rfl), ((hl12.trans hl31).trans hl46), ho57, trivial⟩
 ·
  have h := hge22 (ige hb23)
  refine WC.exit ?_
  change WC _ _ _ _ _ _
  refine WC.rs ?_
  refine mv (v := .slice A14 b_13.length c15) ?_
  obtain ⟨z58, hz59, h⟩ := bnd h
  refine vc rfl rfl rfl (q_call (call_run Tryz.call80 rfl rfl (by kernel_rfl)) (fun w hw => t_firthref01_Hash (Γ := Gh.all w) (ho17.sl hw.sat.le_all (hw.ra 0 rfl)) ho17.capz (Sat.all w) hz59)) ?_
  refine as_ (v := .int .u64 z58) ?_
  refine WR.done ?_
  refine WC.ret ?_
  intro w hw
  obtain rfl := Option.some.inj h
  subst hF
  exact ⟨by kernel_rfl, hw.fr⟩
abbrev r_firthref11_halves (r : List UInt8) (U : List Rowb) (Γ : Gh) (v : Value) : Prop := ∃ (A0 : Option Addr), ∃ (c0 : Nat), ∃ (row0 : Rowb), v = .slice A0 r.length c0 ∧ U = [row0] ∧ Own byteT Γ 5 row0 A0 c0 r ∧ True
theorem t_firthref11_halves {Γ : Gh} {w0 : World} {Ab : Option Addr} {cb : Nat} {rowb : Rowb} {b : List UInt8} (hb : Own byteT Γ 5 rowb Ab cb b) (h_ : Int) (hh_ : U64 h_) (hp : Pre [rowb] Γ w0) {r : List UInt8} (h : m_firthref11_halves b h_ = some r) : Calls Tryz.prog 97 #[.slice Ab b.length cb, .int .u64 h_] w0 (Outc Γ [rowb] w0 (r_firthref11_halves r)) := by
 refine calls_of (N := 17) (rs := [4]) (args := [.slice Ab b.length cb, .int .u64 h_]) Tryz.func97 rfl Tryz.ntmps97 Tryz.results97 rfl ?_
 obtain ⟨F, hF⟩ : ∃ F : Fm, F = ⟨ids [rowb], w0, Γ⟩ := ⟨_, rfl⟩
 refine WC.here (C := CC F Γ [rowb]) ?_ (hF ▸ hp.start)
 refine WC.rs ?_
 refine as_ (v := .slice none 0 0) ?_
 refine WR.done ?_
 refine WC.rs ?_
 refine mv (v := .slice Ab b.length cb) ?_
 refine mv (v := .int .u64 h_) ?_
 refine vb (q_quo rfl rfl rfl (by decide)) ?_
 refine vb (q_conv Tryz.underlying2 Tryz.underlying78 rfl rfl) ?_
 obtain ⟨z1, hz2, h⟩ := bnd h
 refine e_call (is := []) rfl rfl (call_run Tryz.call111 rfl rfl (by kernel_rfl)) rfl (fun w hp => t_firthref01_PutNum (w64 (wu64 (h_.tdiv 4294967296))) (w64_r _) hp hz2) ?_
 rintro Γ3 U5 v6 hl4 ⟨A7, c8, row9, rfl, rfl, hr10, _⟩
 change WR _ _ _ (CC F Γ3 [row9, rowb]) _ _ (upd _ 9 (.slice A7 z1.length c8))
 obtain ⟨hk11, h⟩ := chk_some h
 refine e_append (T := byteT) (xs := b) (ys := z1) elem_136 (i := 1) rfl rfl rfl rfl rfl rfl rfl (hb.mono hl4) (of_decide_eq_true hk11) (fun w hw => src_own (i := 0) rfl hr10 hw) ?_
 intro row12 A13 c14 ho15
 refine as_ (v := .slice A13 (b ++ z1).length c14) ?_
 refine WR.done ?_
 refine WC.rs ?_
 refine mv (v := .slice A13 (b ++ z1).length c14) ?_
 refine mv (v := .int .u64 h_) ?_
 refine vb (q_rem rfl rfl rfl (by decide)) ?_
 refine vb (q_conv Tryz.underlying2 Tryz.underlying78 rfl rfl) ?_
 obtain ⟨z16, hz17, h⟩ := bnd h
 refine e_call (is := []) rfl rfl (call_run Tryz.call111 rfl rfl (by kernel_rfl)) rfl (fun w hp => t_firthref01_PutNum (w64 (h_.tmod 4294967296)) (w64_r _) hp hz17) ?_
 rintro Γ18 U20 v21 hl19 ⟨A22, c23, row24, rfl, rfl, hr25, _⟩
 change WR _ _ _ (CC F Γ18 [row24, row9, row12]) _ _ (upd _ 15 (.slice A22 z16.length c23))
 obtain ⟨hk26, h⟩ := chk_some h
 refine e_append (T := byteT) (xs := (b ++ z1)) (ys := z16) elem_136 (i := 2) rfl rfl rfl rfl rfl rfl rfl (ho15.mono hl19) (of_decide_eq_true hk26) (fun w hw => src_own (i := 0) rfl hr25 hw) ?_
 intro row27 A28 c29 ho30
 refine as_ (v := .slice A28 ((b ++ z1) ++ z16).length c29) ?_
 refine WR.done ?_
 refine WC.ret ?_
 intro w hw
 obtain rfl := Option.some.inj h
 subst hF
 exact end_e (is := [2]) (by kernel_rfl) hw rfl ⟨A28, c29, row27, rfl, rfl, ho30, trivial⟩
abbrev r_firthref11_Text (r : List UInt8) (U : List Rowb) (Γ : Gh) (v : Value) : Prop := ∃ (A0 : Option Addr), ∃ (c0 : Nat), ∃ (row0 : Rowb), v = .slice A0 r.length c0 ∧ U = [row0] ∧ Own byteT Γ 5 row0 A0 c0 r ∧ True
theorem t_firthref11_Text {Γ : Gh} {w0 : World} {H : List Rec → List Int → Option Int} (hH : C_firthref11_Hash H) {Aall : Option Addr} {call : Nat} {all : List Rec} (hall : Sl recT Γ Aall all) (hallc : all.length ≤ call) {Apath : Option Addr} {cpath : Nat} {path : List Int} (hpath : Sl intT Γ Apath path) (hpathc : path.length ≤ cpath) (hp : Pre [] Γ w0) {r : List UInt8} (h : m_firthref11_Text H all path = some r) : Calls Tryz.prog 81 #[.slice Aall all.length call, .slice Apath path.length cpath] w0 (Outc Γ [] w0 (r_firthref11_Text r)) := by
 refine calls_of (N := 47) (rs := [4]) (args := [.slice Aall all.length call, .slice Apath path.length cpath]) Tryz.func81 rfl Tryz.ntmps81 Tryz.results81 rfl ?_
 obtain ⟨F, hF⟩ : ∃ F : Fm, F = ⟨ids [], w0, Γ⟩ := ⟨_, rfl⟩
 refine WC.here (C := CC F Γ []) ?_ (hF ▸ hp.start)
 refine WC.rs ?_
 refine as_ (v := .slice none 0 0) ?_
 refine WR.done ?_
 refine WC.rs ?_
 refine as_ (v := .slice none 0 0) ?_
 refine WR.done ?_
 refine WC.rs ?_
 refine mv (v := .slice Aall all.length call) ?_
 refine mv (v := .slice Apath path.length cpath) ?_
 obtain ⟨z1, hz2, h⟩ := bnd h
 refine e_call (is := []) rfl rfl (call_run Tryz.call55 rfl rfl (by kernel_rfl)) rfl (fun w hp => t_firthref11_Recs hall hallc hpath hpathc hp hz2) ?_
 rintro Γ3 U5 v6 hl4 ⟨A7, c8, row9, rfl, rfl, hr10, _⟩
 change WR _ _ _ (CC F Γ3 [row9]) _ _ (upd _ 11 (.slice A7 z1.length c8))
 refine as_ (v := .slice A7 z1.length c8) ?_
 refine WR.done ?_
 refine WC.seq ?_
 refine WC.rs ?_
 refine mv (v := .slice Apath path.length cpath) ?_
 refine vb (q_len_slice rfl Tryz.underlying24 rfl) ?_
 refine vb (q_eql rfl rfl rfl) ?_
 refine WR.done ?_
 refine WC.cif h (by kernel_rfl) (fun hb11 h => ?_) (fun hb11 h => ?_)
 ·
  refine WC.seq ?_
  refine WC.rs ?_
  refine as_ (v := .int .i64 0) ?_
  refine WR.done ?_
  refine WC.block ?_
  refine WC.forI h (fun (i20 : Nat) (b_14 : List UInt8) σ w => ∃ (Γ12 : Gh), ∃ (A15 : Option Addr), ∃ (c16 : Nat), ∃ (row17 : Rowb), slots σ [(5, .slice A15 b_14.length c16), (6, .slice A7 z1.length c8), (7, .int .i64 ((i20 : Nat) : Int))] ∧ CC F Γ12 [row17, row9] w ∧ Gh.le Γ3 Γ12 ∧ Own byteT Γ12 5 row17 A15 c16 b_14 ∧ True) ?_ ?_
  ·
   intro w hw
   have hw := hw.pad
   exact ⟨Γ3, none, 0, [], (sl_ (by kernel_rfl)), hw, (Gh.refl _), (Own.nil byteT _ 5), trivial⟩
  rintro f19 i20 b_14 σ w hi21 hlt22 hge23 ⟨Γ12, A15, c16, row17, hsl, hw, hl13, ho18, -⟩
  refine Wpt.slots hsl ?_
  refine WC.here (C := CC F Γ12 [row17, row9]) ?_ hw
  clear hw hsl
  refine WC.seq ?_
  refine WC.rs ?_
  refine mv (v := .int .i64 ((i20 : Nat) : Int)) ?_
  refine mv (v := .slice A7 z1.length c8) ?_
  refine vb (q_len_slice rfl Tryz.underlying23 rfl) ?_
  refine vb (q_lss rfl rfl rfl) ?_
  refine WR.done ?_
  refine WC.cond (b := (decide (((i20 : Nat) : Int) < ((z1.length : Nat) : Int)))) (by kernel_rfl) (fun hb24 => ?_) (fun hb24 => ?_)
  ·
   have hl25 := ilt hb24
   have h := hlt22 hl25
   refine WC.skip ?_
   change WC _ _ _ _ _ _
   refine WC.seq ?_
   refine WC.block ?_
   intro w hw; have h026 := hw.le
   refine WC.here (C := CC F Γ12 [row17, row9]) ?_ hw; clear hw
   refine WC.held (CC F Γ12 [row9]) (by kernel_rfl) (fun w hw => hw.drawn _) ?_
   change WH _ _ _ _ (CC F Γ12 [row17, row9]) _ 14 #[false, false, false, false, false, false, false, false, false, false, false, false, false, false] _
   refine hu 0 rfl (bk_ (Gh.refl _) h026 (.cons _ (.cons_cons _ .slnil))) (q_move (v := .slice A15 b_14.length c16) rfl (by kernel_rfl)) ?_
   refine hu 1 rfl (bk_ (Gh.refl _) h026 (.cons _ (.cons_cons _ .slnil))) (q_move (v := .slice A7 z1.length c8) rfl (by kernel_rfl)) ?_
   refine hu 2 rfl (bk_ (Gh.refl _) h026 (.cons _ (.cons_cons _ .slnil))) (q_move (v := .int .i64 ((i20 : Nat) : Int)) rfl (by kernel_rfl)) ?_
   refine hu 3 rfl (bk_ (Gh.refl _) h026 (.cons _ (.cons_cons _ .slnil))) (q_ixn (i := i20) Tryz.underlying23 Tryz.sizeOf70 rfl rfl rfl hl25 ((hr10.mono hl13).some_ hl25)) ?_
   refine hu 4 rfl (bk_ (Gh.refl _) h026 (.cons _ (.cons_cons _ .slnil))) (q_field_addr (i20 * 2) fld_70_0 rfl rfl ((hr10.mono hl13).some_ hl25) rfl) ?_
   obtain ⟨A27, c28, hx29⟩ := (hr10.mono hl13).recT_at i20
   refine hu 5 rfl (bk_ (Gh.refl _) h026 (.cons _ (.cons_cons _ .slnil))) (q_ldo (c := 0) (v := .string (gt z1 i20).key) (i := 0) rfl (hx29 hl25).2 rfl Tryz.isAgg9 rfl rfl) ?_
   refine hu 6 rfl (bk_ (Gh.refl _) h026 (.cons _ (.cons_cons _ .slnil))) (q_move (v := .slice A7 z1.length c8) rfl (by kernel_rfl)) ?_
   refine hu 7 rfl (bk_ (Gh.refl _) h026 (.cons _ (.cons_cons _ .slnil))) (q_move (v := .int .i64 ((i20 : Nat) : Int)) rfl (by kernel_rfl)) ?_
   refine hu 8 rfl (bk_ (Gh.refl _) h026 (.cons _ (.cons_cons _ .slnil))) (q_ixn (i := i20) Tryz.underlying23 Tryz.sizeOf70 rfl rfl rfl hl25 ((hr10.mono hl13).some_ hl25)) ?_
   refine hu 9 rfl (bk_ (Gh.refl _) h026 (.cons _ (.cons_cons _ .slnil))) (q_field_addr (i20 * 2 + 1) fld_70_1 rfl rfl ((hr10.mono hl13).some_ hl25) rfl) ?_
   refine hu 10 rfl (bk_ (Gh.refl _) h026 (.cons _ (.cons_cons _ .slnil))) (q_ldo (c := 1) (v := .slice A27 ((gt z1 i20).vers).length c28) (i := 0) rfl (hx29 hl25).2 rfl Tryz.isAgg67 rfl rfl) ?_
   refine WH.lone (i := 11) (by kernel_rfl) rfl ?_
   obtain ⟨z30, hz31, h⟩ := bnd h
   refine vc rfl rfl rfl (q_call (call_run Tryz.call98 rfl rfl (by kernel_rfl)) (fun w hw => t_firthref05_Mark (Γ := Gh.all w) ((gt z1 i20).key) (hx29 hl25).1.1 ((hx29 hl25).1.2.2.mono hw.sat.le_all) (hx29 hl25).1.2.1 (Sat.all w) hz31)) ?_
   refine WR.nil ?_
   refine WH.next (bk_ (Gh.refl _) h026 (.cons _ (.cons_cons _ .slnil))) ?_
   refine WH.lone (i := 12) (by kernel_rfl) rfl ?_
   obtain ⟨hk32, h⟩ := chk_some h
   obtain ⟨z33, hz34, h⟩ := bnd h
   refine e_call (is := [0]) rfl rfl (call_run Tryz.call97 rfl rfl (by kernel_rfl)) rfl (fun w hp => t_firthref11_halves ho18 z30 (u64b_of hk32) hp hz34) ?_
   rintro Γ35 U37 v38 hl36 ⟨A39, c40, row41, rfl, rfl, hr42, _⟩
   change WR _ _ _ (CC F Γ35 [row41, row9]) _ _ (upd _ 33 (.slice A39 z33.length c40))
   refine WR.nil ?_
   refine WH.next (bk_ hl36 h026 (.cons _ (.cons_cons _ .slnil))) ?_
   refine hu 13 rfl (bk_ hl36 h026 (.cons _ (.cons_cons _ .slnil))) (q_assign (v := .slice A39 z33.length c40) rfl (by kernel_rfl)) ?_
   refine WH.done (by kernel_rfl) ?_
   change WC _ _ _ _ _ _
   refine WC.region ?_
   refine mv (v := .int .i64 ((i20 : Nat) : Int)) ?_
   refine vb (q_add_r (r := ((i20 + 1 : Nat) : Int)) rfl rfl rfl (ctr_len hl25 (hr10.mono hl13).le)) ?_
   refine as_ (v := .int .i64 ((i20 + 1 : Nat) : Int)) ?_
   refine WR.nil ?_
   intro w hw
   exact ⟨hl25, z33, h, Γ35, A39, c40, row41, (sl_ (by kernel_rfl)), hw, (hl13.trans hl36), hr42, trivial⟩
  ·
   have h := hge23 (ige hb24)
   refine WC.exit ?_
   change WC _ _ _ _ _ _
   refine WC.rs ?_
   refine mv (v := .slice A15 b_14.length c16) ?_
   refine as_ (v := .slice A15 b_14.length c16) ?_
   refine WR.done ?_
   refine WC.ret ?_
   intro w hw
   obtain rfl := Option.some.inj h
   subst hF
   exact end_e (is := [0]) (by kernel_rfl) hw rfl ⟨A15, c16, row17, rfl, rfl, ho18, trivial⟩
 ·
  refine WC.skip ?_
  change WC _ _ _ _ _ _
  refine WC.seq ?_
  refine WC.rs ?_
  refine as_ (v := .int .i64 0) ?_
  refine WR.done ?_
  refine WC.block ?_
  refine WC.forU h (fun (i51 : Nat) (b_45 : List UInt8) σ w => ∃ (Γ43 : Gh), ∃ (A46 : Option Addr), ∃ (c47 : Nat), ∃ (row48 : Rowb), slots σ [(1, .slice Apath path.length cpath), (5, .slice A46 b_45.length c47), (6, .slice A7 z1.length c8), (8, .int .i64 ((i51 : Nat) : Int))] ∧ CC F Γ43 [row48, row9] w ∧ Gh.le Γ3 Γ43 ∧ Own byteT Γ43 5 row48 A46 c47 b_45 ∧ True) ?_ ?_
  ·
   intro w hw
   have hw := hw.pad
   exact ⟨Γ3, none, 0, [], (sl_ (by kernel_rfl)), hw, (Gh.refl _), (Own.nil byteT _ 5), trivial⟩
  rintro f50 i51 b_45 σ w hi52 hlt53 hge54 ⟨Γ43, A46, c47, row48, hsl, hw, hl44, ho49, -⟩
  refine Wpt.slots hsl ?_
  refine WC.here (C := CC F Γ43 [row48, row9]) ?_ hw
  clear hw hsl
  refine WC.seq ?_
  refine WC.rs ?_
  refine mv (v := .int .i64 ((i51 : Nat) : Int)) ?_
  refine vb (q_lss rfl rfl rfl) ?_
  refine WR.done ?_
  refine WC.cond (b := (decide (((i51 : Nat) : Int) < 16))) (by kernel_rfl) (fun hb55 => ?_) (fun hb55 => ?_)
  ·
   have hl56 := ilt hb55
   have h := hlt53 hl56
   refine WC.skip ?_
   change WC _ _ _ _ _ _
   refine WC.seq ?_
   refine WC.block ?_
   refine WC.region ?_
   refine mv (v := .slice A46 b_45.length c47) ?_
   refine mv (v := .slice A7 z1.length c8) ?_
   refine mv (v := .slice Apath path.length cpath) ?_
   refine mv (v := .int .i64 ((i51 : Nat) : Int)) ?_
   obtain ⟨z57, hz58, h⟩ := bnd h
   refine e_call (is := []) rfl rfl (call_run Tryz.call57 rfl rfl (by kernel_rfl)) rfl (fun w hp => t_firthref11_longer (hpath.mono (hl4.trans hl44)) hpathc ((i51 : Nat) : Int) (ctr_lit0 hl56 (by decide)) hp hz58) ?_
   rintro Γ59 U61 v62 hl60 ⟨A63, c64, row65, rfl, rfl, hr66, _⟩
   change WR _ _ _ (CC F Γ59 [row65, row48, row9]) _ _ (upd _ 43 (.slice A63 z57.length c64))
   obtain ⟨z67, hz68, h⟩ := bnd h
   refine vc rfl rfl rfl (q_call (call_run Tryz.call56 rfl rfl (by kernel_rfl)) (fun w hw => hH (Γ := Gh.all w) ((hr10.mono (hl44.trans hl60)).sl hw.sat.le_all (hw.ra 2 rfl)) (hr10.mono (hl44.trans hl60)).capz (hr66.sl hw.sat.le_all (hw.ra 0 rfl)) hr66.capz (Sat.all w) hz68)) ?_
   obtain ⟨hk69, h⟩ := chk_some h
   obtain ⟨z70, hz71, h⟩ := bnd h
   refine e_call (is := [1]) rfl rfl (call_run Tryz.call97 rfl rfl (by kernel_rfl)) rfl (fun w hp => t_firthref11_halves (ho49.mono hl60) z67 (u64b_of hk69) hp hz71) ?_
   rintro Γ72 U74 v75 hl73 ⟨A76, c77, row78, rfl, rfl, hr79, _⟩
   change WR _ _ _ (CC F Γ72 [row78, row65, row9]) _ _ (upd _ 45 (.slice A76 z70.length c77))
   refine as_ (v := .slice A76 z70.length c77) ?_
   refine WR.nil ?_
   change WC _ _ _ _ _ _
   refine WC.region ?_
   refine mv (v := .int .i64 ((i51 : Nat) : Int)) ?_
   refine vb (q_add_r (r := ((i51 + 1 : Nat) : Int)) rfl rfl rfl (ctr_lit hl56 (by decide))) ?_
   refine as_ (v := .int .i64 ((i51 + 1 : Nat) : Int)) ?_
   refine WR.nil ?_
   intro w hw
   exact ⟨hl56, z70, h, Γ72, A76, c77, row78, (sl_ (by kernel_rfl)), (hw.only (is := [0, 1]) rfl), ((hl44.trans hl60).trans hl73), hr79, trivial⟩
  ·
   have h := hge54 (ige hb55)
   refine WC.exit ?_
   change WC _ _ _ _ _ _
   refine WC.rs ?_
   refine mv (v := .slice A46 b_45.length c47) ?_
   refine as_ (v := .slice A46 b_45.length c47) ?_
   refine WR.done ?_
   refine WC.ret ?_
   intro w hw
   obtain rfl := Option.some.inj h
   subst hF
   exact end_e (is := [0]) (by kernel_rfl) hw rfl ⟨A46, c47, row48, rfl, rfl, ho49, trivial⟩
theorem t_firthref11_Hash_o {Γ : Gh} {w0 : World} {H : List Rec → List Int → Option Int} (hH : C_firthref11_Hash H) {Aall : Option Addr} {call : Nat} {all : List Rec} (hall : Sl recT Γ Aall all) (hallc : all.length ≤ call) {Apath : Option Addr} {cpath : Nat} {path : List Int} (hpath : Sl intT Γ Apath path) (hpathc : path.length ≤ cpath) (hs : Sat Γ w0) {r : Int} (h : m_firthref11_Hash_o H all path = some r) : Calls Tryz.prog 56 #[.slice Aall all.length call, .slice Apath path.length cpath] w0 (fun e w' => e = .returned (.int .u64 r) ∧ Fr no w0 w') := by
 refine calls_of (N := 19) (rs := [4]) (args := [.slice Aall all.length call, .slice Apath path.length cpath]) Tryz.func56 rfl Tryz.ntmps56 Tryz.results56 rfl ?_
 obtain ⟨F, hF⟩ : ∃ F : Fm, F = ⟨no, w0, Γ⟩ := ⟨_, rfl⟩
 refine WC.here (C := CC F Γ []) ?_ (hF ▸ Cur.start0 hs)
 refine WC.rs ?_
 refine as_ (v := .int .u64 0) ?_
 refine WR.done ?_
 refine WC.seq ?_
 refine WC.rs ?_
 refine mv (v := .slice Apath path.length cpath) ?_
 obtain ⟨z1, hz2, h⟩ := bnd h
 refine vc rfl rfl rfl (q_call (call_run Tryz.call54 rfl rfl (by kernel_rfl)) (fun w hw => t_firthref11_Path (Γ := Gh.all w) (hpath.mono hw.sat.le_all) hpathc (Sat.all w) hz2)) ?_
 refine vb (q_not rfl rfl) ?_
 refine mv (v := .bool (!z1)) ?_
 refine vg0 rfl rfl rfl rfl rfl (fun hg3 => QV.qo (q_move (v := .slice Aall all.length call) rfl (by kernel_rfl))) ?_
 refine vg0 rfl rfl rfl rfl rfl (fun hg4 => QV.qo (q_move (v := .slice Apath path.length cpath) rfl (by kernel_rfl))) ?_
 refine (Bool.eq_false_or_eq_true (!(!z1))).elim (fun hb5 => ?_) (fun hb5 => ?_)
 ·
  have h := bt hb5 h
  refine WR.sat (c0 := true) (g := (!z1)) rfl rfl rfl hb5 ?_
  obtain ⟨z6, hz7, h⟩ := bnd h
  refine e_call (is := []) rfl rfl (call_run Tryz.call55 rfl rfl (args2 (gu hb5 rfl) (gu hb5 rfl))) rfl (fun w hp => t_firthref11_Recs hall hallc hpath hpathc hp hz7) ?_
  rintro Γ8 U10 v11 hl9 ⟨A12, c13, row14, rfl, rfl, hr15, _⟩
  change WR _ _ _ (CC F Γ8 [row14]) _ _ (upd _ 11 (.slice A12 z6.length c13))
  refine WR.sat (c0 := true) (g := (!z1)) rfl rfl rfl hb5 ?_
  refine vb (q_len_slice rfl Tryz.underlying23 rfl) ?_
  refine WR.sat (c0 := true) (g := (!z1)) rfl rfl rfl hb5 ?_
  refine vb (q_eql rfl rfl rfl) ?_
  refine vb (q_pick_f (v := .bool (((z6.length : Nat) : Int) == 0)) rfl rfl (not_t hb5) (by kernel_rfl)) ?_
  refine WR.done ?_
  refine WC.cif h (by kernel_rfl) (fun hb16 h => ?_) (fun hb16 h => ?_)
  ·
   refine WC.rs ?_
   refine as_ (v := .int .u64 0) ?_
   refine WR.done ?_
   refine WC.ret ?_
   intro w hw
   obtain rfl := Option.some.inj h
   subst hF
   exact ⟨by kernel_rfl, hw.fr⟩
  ·
   refine WC.skip ?_
   change WC _ _ _ _ _ _
   refine WC.rs ?_
   refine mv (v := .slice Aall all.length call) ?_
   refine mv (v := .slice Apath path.length cpath) ?_
   obtain ⟨z17, hz18, h⟩ := bnd h
   refine e_call (is := []) rfl rfl (call_run Tryz.call81 rfl rfl (by kernel_rfl)) rfl (fun w hp => t_firthref11_Text hH (hall.mono hl9) hallc (hpath.mono hl9) hpathc hp hz18) ?_
   rintro Γ19 U21 v22 hl20 ⟨A23, c24, row25, rfl, rfl, hr26, _⟩
   change WR _ _ _ (CC F Γ19 [row25, row14]) _ _ (upd _ 17 (.slice A23 z17.length c24))
   obtain ⟨z27, hz28, h⟩ := bnd h
   refine vc rfl rfl rfl (q_call (call_run Tryz.call80 rfl rfl (by kernel_rfl)) (fun w hw => t_firthref01_Hash (Γ := Gh.all w) (hr26.sl hw.sat.le_all (hw.ra 0 rfl)) hr26.capz (Sat.all w) hz28)) ?_
   refine as_ (v := .int .u64 z27) ?_
   refine WR.done ?_
   refine WC.ret ?_
   intro w hw
   obtain rfl := Option.some.inj h
   subst hF
   exact ⟨by kernel_rfl, hw.fr⟩
 ·
  have h := bf hb5 h
  refine WR.unsat (c0 := true) (g := (!z1)) rfl rfl rfl hb5 rfl ?_
  refine WR.unsat (c0 := true) (g := (!z1)) rfl rfl rfl hb5 rfl ?_
  refine WR.unsat (c0 := true) (g := (!z1)) rfl rfl rfl hb5 rfl ?_
  refine vb (q_pick_t (v := .bool true) rfl rfl (not_f hb5) (by kernel_rfl)) ?_
  refine WR.done ?_
  refine WC.ctk (b := true) (by kernel_rfl) rfl ?_
  refine WC.rs ?_
  refine as_ (v := .int .u64 0) ?_
  refine WR.done ?_
  refine WC.ret ?_
  intro w hw
  obtain rfl := Option.some.inj h
  subst hF
  exact ⟨by kernel_rfl, hw.fr⟩
theorem t_firthref11_Hash_n (n : Nat) : C_firthref11_Hash (m_firthref11_Hash_n n) := by
  induction n with
  | zero => intro Γ w0 Aall call all hall hallc Apath cpath path hpath hpathc hs r h; exact absurd h (by simp [m_firthref11_Hash_n])
  | succ n ih => intro Γ w0 Aall call all hall hallc Apath cpath path hpath hpathc hs r h; exact t_firthref11_Hash_o ih hall hallc hpath hpathc hs h

theorem t_firthref11_Hash {Γ : Gh} {w0 : World} {Aall : Option Addr} {call : Nat} {all : List Rec} (hall : Sl recT Γ Aall all) (hallc : all.length ≤ call) {Apath : Option Addr} {cpath : Nat} {path : List Int} (hpath : Sl intT Γ Apath path) (hpathc : path.length ≤ cpath) (hs : Sat Γ w0) {r : Int} (h : m_firthref11_Hash all path = some r) : Calls Tryz.prog 56 #[.slice Aall all.length call, .slice Apath path.length cpath] w0 (fun e w' => e = .returned (.int .u64 r) ∧ Fr no w0 w') := by
  exact t_firthref11_Hash_n 3 hall hallc hpath hpathc hs h

theorem t_firthref14_doubt {Γ : Gh} {w0 : World} {Ax_ : Option Addr} {cx_ : Nat} {x_ : List Rec} (hx_ : Sl recT Γ Ax_ x_) (hx_c : x_.length ≤ cx_) {Ay : Option Addr} {cy : Nat} {y : List Rec} (hy : Sl recT Γ Ay y) (hyc : y.length ≤ cy) {Apath : Option Addr} {cpath : Nat} {path : List Int} (hpath : Sl intT Γ Apath path) (hpathc : path.length ≤ cpath) (hs : Sat Γ w0) {r : Bool} (h : m_firthref14_doubt x_ y path = some r) : Calls Tryz.prog 71 #[.slice Ax_ x_.length cx_, .slice Ay y.length cy, .slice Apath path.length cpath] w0 (fun e w' => e = .returned (.bool r) ∧ Fr no w0 w') := by
 refine calls_of (N := 24) (rs := [6]) (args := [.slice Ax_ x_.length cx_, .slice Ay y.length cy, .slice Apath path.length cpath]) Tryz.func71 rfl Tryz.ntmps71 Tryz.results71 rfl ?_
 obtain ⟨F, hF⟩ : ∃ F : Fm, F = ⟨no, w0, Γ⟩ := ⟨_, rfl⟩
 refine WC.here (C := CC F Γ []) ?_ (hF ▸ Cur.start0 hs)
 refine WC.rs ?_
 refine as_ (v := .bool false) ?_
 refine WR.done ?_
 refine WC.rs ?_
 refine mv (v := .slice Ax_ x_.length cx_) ?_
 refine mv (v := .slice Apath path.length cpath) ?_
 obtain ⟨z1, hz2, h⟩ := bnd h
 refine vc rfl rfl rfl (q_call (call_run Tryz.call56 rfl rfl (by kernel_rfl)) (fun w hw => t_firthref11_Hash (Γ := Gh.all w) (hx_.mono hw.sat.le_all) hx_c (hpath.mono hw.sat.le_all) hpathc (Sat.all w) hz2)) ?_
 refine mv (v := .slice Ay y.length cy) ?_
 refine mv (v := .slice Apath path.length cpath) ?_
 obtain ⟨z3, hz4, h⟩ := bnd h
 refine vc rfl rfl rfl (q_call (call_run Tryz.call56 rfl rfl (by kernel_rfl)) (fun w hw => t_firthref11_Hash (Γ := Gh.all w) (hy.mono hw.sat.le_all) hyc (hpath.mono hw.sat.le_all) hpathc (Sat.all w) hz4)) ?_
 refine vb (q_eql rfl rfl rfl) ?_
 refine mv (v := .bool (z1 == z3)) ?_
 refine vg1 rfl rfl rfl rfl rfl (fun hg5 => QV.qo (q_move (v := .slice Ax_ x_.length cx_) rfl (by kernel_rfl))) ?_
 refine vg1 rfl rfl rfl rfl rfl (fun hg6 => QV.qo (q_move (v := .slice Apath path.length cpath) rfl (by kernel_rfl))) ?_
 refine (Bool.eq_false_or_eq_true (z1 == z3)).elim (fun hb7 => ?_) (fun hb7 => ?_)
 ·
  have h := bt hb7 h
  refine WR.sat (c0 := true) (g := (z1 == z3)) rfl rfl rfl hb7 ?_
  obtain ⟨z8, hz9, h⟩ := bnd h
  refine e_call (is := []) rfl rfl (call_run Tryz.call55 rfl rfl (args2 (gu hb7 rfl) (gu hb7 rfl))) rfl (fun w hp => t_firthref11_Recs hx_ hx_c hpath hpathc hp hz9) ?_
  rintro Γ10 U12 v13 hl11 ⟨A14, c15, row16, rfl, rfl, hr17, _⟩
  change WR _ _ _ (CC F Γ10 [row16]) _ _ (upd _ 17 (.slice A14 z8.length c15))
  refine WR.sat (c0 := true) (g := (z1 == z3)) rfl rfl rfl hb7 ?_
  refine mv (v := .slice Ay y.length cy) ?_
  refine WR.sat (c0 := true) (g := (z1 == z3)) rfl rfl rfl hb7 ?_
  refine mv (v := .slice Apath path.length cpath) ?_
  refine WR.sat (c0 := true) (g := (z1 == z3)) rfl rfl rfl hb7 ?_
  obtain ⟨z18, hz19, h⟩ := bnd h
  refine e_call (is := []) rfl rfl (call_run Tryz.call55 rfl rfl (by kernel_rfl)) rfl (fun w hp => t_firthref11_Recs (hy.mono hl11) hyc (hpath.mono hl11) hpathc hp hz19) ?_
  rintro Γ20 U22 v23 hl21 ⟨A24, c25, row26, rfl, rfl, hr27, _⟩
  change WR _ _ _ (CC F Γ20 [row26, row16]) _ _ (upd _ 20 (.slice A24 z18.length c25))
  refine WR.sat (c0 := true) (g := (z1 == z3)) rfl rfl rfl hb7 ?_
  obtain ⟨z28, hz29, h⟩ := bnd h
  refine vc rfl rfl rfl (q_call (call_run Tryz.call16 rfl rfl (by kernel_rfl)) (fun w hw => t_firthref06_SameRecs (Γ := Gh.all w) ((hr17.mono hl21).sl hw.sat.le_all (hw.ra 1 rfl)) (hr17.mono hl21).capz (hr27.sl hw.sat.le_all (hw.ra 0 rfl)) hr27.capz (Sat.all w) hz29)) ?_
  refine WR.sat (c0 := true) (g := (z1 == z3)) rfl rfl rfl hb7 ?_
  refine vb (q_not rfl rfl) ?_
  refine vb (q_pick_t (v := .bool (!z28)) rfl rfl hb7 (by kernel_rfl)) ?_
  refine as_ (v := .bool (!z28)) ?_
  refine WR.done ?_
  refine WC.ret ?_
  intro w hw
  obtain rfl := Option.some.inj h
  subst hF
  exact ⟨by kernel_rfl, hw.fr⟩
 ·
  have h := bf hb7 h
  refine WR.unsat (c0 := true) (g := (z1 == z3)) rfl rfl rfl hb7 rfl ?_
  refine WR.unsat (c0 := true) (g := (z1 == z3)) rfl rfl rfl hb7 rfl ?_
  refine WR.unsat (c0 := true) (g := (z1 == z3)) rfl rfl rfl hb7 rfl ?_
  refine WR.unsat (c0 := true) (g := (z1 == z3)) rfl rfl rfl hb7 rfl ?_
  refine WR.unsat (c0 := true) (g := (z1 == z3)) rfl rfl rfl hb7 rfl ?_
  refine WR.unsat (c0 := true) (g := (z1 == z3)) rfl rfl rfl hb7 rfl ?_
  refine vb (q_pick_f (v := .bool false) rfl rfl hb7 (by kernel_rfl)) ?_
  refine as_ (v := .bool false) ?_
  refine WR.done ?_
  refine WC.ret ?_
  intro w hw
  obtain rfl := Option.some.inj h
  subst hF
  exact ⟨by kernel_rfl, hw.fr⟩
theorem t_firthref14_Doubt {Γ : Gh} {w0 : World} {Aa : Option Addr} {ca : Nat} {a : List Rec} (ha : Sl recT Γ Aa a) (hac : a.length ≤ ca) {Ab : Option Addr} {cb : Nat} {b : List Rec} (hb : Sl recT Γ Ab b) (hbc : b.length ≤ cb) (hs : Sat Γ w0) {r : Bool} (h : m_firthref14_Doubt a b = some r) : Calls Tryz.prog 36 #[.slice Aa a.length ca, .slice Ab b.length cb] w0 (fun e w' => e = .returned (.bool r) ∧ Fr no w0 w') := by
 refine calls_of (N := 43) (rs := [4]) (args := [.slice Aa a.length ca, .slice Ab b.length cb]) Tryz.func36 rfl Tryz.ntmps36 Tryz.results36 rfl ?_
 obtain ⟨F, hF⟩ : ∃ F : Fm, F = ⟨no, w0, Γ⟩ := ⟨_, rfl⟩
 refine WC.here (C := CC F Γ []) ?_ (hF ▸ Cur.start0 hs)
 refine WC.rs ?_
 refine as_ (v := .bool false) ?_
 refine WR.done ?_
 refine WC.rs ?_
 refine mv (v := .slice Aa a.length ca) ?_
 obtain ⟨z1, hz2, h⟩ := bnd h
 refine e_call (is := []) rfl rfl (call_run Tryz.call35 rfl rfl (by kernel_rfl)) rfl (fun w hp => t_firthref14_Held ha hac hp hz2) ?_
 rintro Γ3 U5 v6 hl4 ⟨A7, c8, row9, rfl, rfl, hr10, _⟩
 change WR _ _ _ (CC F Γ3 [row9]) _ _ (upd _ 13 (.tuple #[.slice A7 z1.1.length c8, .bool z1.2]))
 refine mv (v := .tuple #[.slice A7 z1.1.length c8, .bool z1.2]) ?_
 refine vb (q_extract (v := .slice A7 z1.1.length c8) rfl rfl rfl) ?_
 refine vb (q_extract (v := .bool z1.2) rfl rfl rfl) ?_
 refine as_ (v := .slice A7 z1.1.length c8) ?_
 refine as_ (v := .bool z1.2) ?_
 refine WR.done ?_
 refine WC.rs ?_
 refine mv (v := .slice Ab b.length cb) ?_
 obtain ⟨z11, hz12, h⟩ := bnd h
 refine e_call (is := []) rfl rfl (call_run Tryz.call35 rfl rfl (by kernel_rfl)) rfl (fun w hp => t_firthref14_Held (hb.mono hl4) hbc hp hz12) ?_
 rintro Γ13 U15 v16 hl14 ⟨A17, c18, row19, rfl, rfl, hr20, _⟩
 change WR _ _ _ (CC F Γ13 [row19, row9]) _ _ (upd _ 18 (.tuple #[.slice A17 z11.1.length c18, .bool z11.2]))
 refine mv (v := .tuple #[.slice A17 z11.1.length c18, .bool z11.2]) ?_
 refine vb (q_extract (v := .slice A17 z11.1.length c18) rfl rfl rfl) ?_
 refine vb (q_extract (v := .bool z11.2) rfl rfl rfl) ?_
 refine as_ (v := .slice A17 z11.1.length c18) ?_
 refine as_ (v := .bool z11.2) ?_
 refine WR.done ?_
 refine WC.seq ?_
 refine WC.rs ?_
 refine mv (v := .slice A7 z1.1.length c8) ?_
 refine mv (v := .slice A17 z11.1.length c18) ?_
 obtain ⟨z21, hz22, h⟩ := bnd h
 refine vc rfl rfl rfl (q_call (call_run Tryz.call71 rfl rfl (by kernel_rfl)) (fun w hw => t_firthref14_doubt (Γ := Gh.all w) ((hr10.mono hl14).sl hw.sat.le_all (hw.ra 1 rfl)) (hr10.mono hl14).capz (hr20.sl hw.sat.le_all (hw.ra 0 rfl)) hr20.capz (Sl.nil intT _ none) (Nat.zero_le 0) (Sat.all w) hz22)) ?_
 refine WR.done ?_
 refine WC.cif h (by kernel_rfl) (fun hb23 h => ?_) (fun hb23 h => ?_)
 ·
  refine WC.rs ?_
  refine as_ (v := .bool true) ?_
  refine WR.done ?_
  refine WC.ret ?_
  intro w hw
  obtain rfl := Option.some.inj h
  subst hF
  exact ⟨by kernel_rfl, hw.fr⟩
 ·
  refine WC.skip ?_
  change WC _ _ _ _ _ _
  refine WC.seq ?_
  refine WC.rs ?_
  refine as_ (v := .int .i64 0) ?_
  refine WR.done ?_
  refine WC.block ?_
  refine WC.forU h (fun (i25 : Nat) (s : Unit) σ w => match s with | () => slots σ [(5, .slice A7 z1.1.length c8), (7, .slice A17 z11.1.length c18), (9, .int .i64 ((i25 : Nat) : Int))] ∧ CC F Γ13 [row19, row9] w ∧ True) ?_ ?_
  ·
   intro w hw
   exact ⟨(sl_ (by kernel_rfl)), hw, trivial⟩
  rintro f24 i25 ⟨⟩ σ w hi26 hlt27 hge28 ⟨hsl, hw, -⟩
  refine Wpt.slots hsl ?_
  refine WC.here (C := CC F Γ13 [row19, row9]) ?_ hw
  clear hw hsl
  refine WC.seq ?_
  refine WC.rs ?_
  refine mv (v := .int .i64 ((i25 : Nat) : Int)) ?_
  refine vb (q_lss rfl rfl rfl) ?_
  refine WR.done ?_
  refine WC.cond (b := (decide (((i25 : Nat) : Int) < 16))) (by kernel_rfl) (fun hb29 => ?_) (fun hb29 => ?_)
  ·
   have hl30 := ilt hb29
   have h := hlt27 hl30
   refine WC.skip ?_
   change WC _ _ _ _ _ _
   refine WC.seq ?_
   refine WC.block ?_
   refine WC.seq ?_
   refine WC.rs ?_
   refine mv (v := .slice A7 z1.1.length c8) ?_
   refine mv (v := .slice A17 z11.1.length c18) ?_
   refine mv (v := .int .i64 ((i25 : Nat) : Int)) ?_
   refine e_buildSlice (cs := #[.int .i64 ((i25 : Nat) : Int)]) (e := 3) rfl rfl rfl rfl (fun w => by kernel_rfl) ?_
   intro g31
   have ho32 : Own intT Γ13 3 [(g31, .cells #[.int .i64 ((i25 : Nat) : Int)] 3 (0, 0))] (some ⟨g31, 0, none⟩) 1 [((i25 : Nat) : Int)] := Own.of_blockL (T := intT) (ys := [((i25 : Nat) : Int)]) [[.int .i64 ((i25 : Nat) : Int)]] rfl (show 1 ≤ lim by decide) (show Ty.rd intT Γ13 [.int .i64 ((i25 : Nat) : Int)] ((i25 : Nat) : Int) ∧ True from ⟨⟨rfl, (ctr_lit0 hl30 (by decide))⟩, trivial⟩)
   obtain ⟨z33, hz34, h⟩ := bnd h
   refine vc rfl rfl rfl (q_call (call_run Tryz.call71 rfl rfl (by kernel_rfl)) (fun w hw => t_firthref14_doubt (Γ := Gh.all w) ((hr10.mono hl14).sl hw.sat.le_all (hw.ra 2 rfl)) (hr10.mono hl14).capz (hr20.sl hw.sat.le_all (hw.ra 1 rfl)) hr20.capz (ho32.sl hw.sat.le_all (hw.ra 0 rfl)) ho32.capz (Sat.all w) hz34)) ?_
   refine WR.done ?_
   refine WC.cif h (by kernel_rfl) (fun hb35 h => ?_) (fun hb35 h => ?_)
   ·
    refine WC.rs ?_
    refine as_ (v := .bool true) ?_
    refine WR.done ?_
    refine WC.ret ?_
    intro w hw
    obtain rfl := Option.some.inj h
    subst hF
    exact ⟨by kernel_rfl, hw.fr⟩
   ·
    refine WC.skip ?_
    change WC _ _ _ _ _ _
    refine WC.rs ?_
    refine as_ (v := .int .i64 0) ?_
    refine WR.done ?_
    refine WC.block ?_
    refine WC.forU h (fun (i37 : Nat) (s : Unit) σ w => match s with | () => slots σ [(5, .slice A7 z1.1.length c8), (7, .slice A17 z11.1.length c18), (9, .int .i64 ((i25 : Nat) : Int)), (10, .int .i64 ((i37 : Nat) : Int))] ∧ CC F Γ13 [row19, row9] w ∧ True) ?_ ?_
    ·
     intro w hw
     exact ⟨(sl_ (by kernel_rfl)), (hw.only (is := [1, 1]) rfl), trivial⟩
    rintro f36 i37 ⟨⟩ σ w hi38 hlt39 hge40 ⟨hsl, hw, -⟩
    refine Wpt.slots hsl ?_
    refine WC.here (C := CC F Γ13 [row19, row9]) ?_ hw
    clear hw hsl
    refine WC.seq ?_
    refine WC.rs ?_
    refine mv (v := .int .i64 ((i37 : Nat) : Int)) ?_
    refine vb (q_lss rfl rfl rfl) ?_
    refine WR.done ?_
    refine WC.cond (b := (decide (((i37 : Nat) : Int) < 16))) (by kernel_rfl) (fun hb41 => ?_) (fun hb41 => ?_)
    ·
     have hl42 := ilt hb41
     have h := hlt39 hl42
     refine WC.skip ?_
     change WC _ _ _ _ _ _
     refine WC.seq ?_
     refine WC.block ?_
     refine WC.rs ?_
     refine mv (v := .slice A7 z1.1.length c8) ?_
     refine mv (v := .slice A17 z11.1.length c18) ?_
     refine mv (v := .int .i64 ((i25 : Nat) : Int)) ?_
     refine mv (v := .int .i64 ((i37 : Nat) : Int)) ?_
     refine e_buildSlice (cs := #[.int .i64 ((i25 : Nat) : Int), .int .i64 ((i37 : Nat) : Int)]) (e := 3) rfl rfl rfl rfl (fun w => by kernel_rfl) ?_
     intro g43
     have ho44 : Own intT Γ13 3 [(g43, .cells #[.int .i64 ((i25 : Nat) : Int), .int .i64 ((i37 : Nat) : Int)] 3 (0, 0))] (some ⟨g43, 0, none⟩) 2 [((i25 : Nat) : Int), ((i37 : Nat) : Int)] := Own.of_blockL (T := intT) (ys := [((i25 : Nat) : Int), ((i37 : Nat) : Int)]) [[.int .i64 ((i25 : Nat) : Int)], [.int .i64 ((i37 : Nat) : Int)]] rfl (show 2 ≤ lim by decide) (show Ty.rd intT Γ13 [.int .i64 ((i25 : Nat) : Int)] ((i25 : Nat) : Int) ∧ Ty.rd intT Γ13 [.int .i64 ((i37 : Nat) : Int)] ((i37 : Nat) : Int) ∧ True from ⟨⟨rfl, (ctr_lit0 hl30 (by decide))⟩, ⟨rfl, (ctr_lit0 hl42 (by decide))⟩, trivial⟩)
     obtain ⟨z45, hz46, h⟩ := bnd h
     refine vc rfl rfl rfl (q_call (call_run Tryz.call71 rfl rfl (by kernel_rfl)) (fun w hw => t_firthref14_doubt (Γ := Gh.all w) ((hr10.mono hl14).sl hw.sat.le_all (hw.ra 2 rfl)) (hr10.mono hl14).capz (hr20.sl hw.sat.le_all (hw.ra 1 rfl)) hr20.capz (ho44.sl hw.sat.le_all (hw.ra 0 rfl)) ho44.capz (Sat.all w) hz46)) ?_
     refine WR.done ?_
     refine WC.cif h (by kernel_rfl) (fun hb47 h => ?_) (fun hb47 h => ?_)
     ·
      refine WC.rs ?_
      refine as_ (v := .bool true) ?_
      refine WR.done ?_
      refine WC.ret ?_
      intro w hw
      obtain rfl := Option.some.inj h
      subst hF
      exact ⟨by kernel_rfl, hw.fr⟩
     ·
      refine WC.skip ?_
      change WC _ _ _ _ _ _
      refine WC.region ?_
      refine mv (v := .int .i64 ((i37 : Nat) : Int)) ?_
      refine vb (q_add_r (r := ((i37 + 1 : Nat) : Int)) rfl rfl rfl (ctr_lit hl42 (by decide))) ?_
      refine as_ (v := .int .i64 ((i37 + 1 : Nat) : Int)) ?_
      refine WR.nil ?_
      intro w hw
      exact ⟨hl42, (), h, (sl_ (by kernel_rfl)), (hw.only (is := [1, 1]) rfl), trivial⟩
    ·
     have h := hge40 (ige hb41)
     refine WC.exit ?_
     change WC _ _ _ _ _ _
     refine WC.region ?_
     refine mv (v := .int .i64 ((i25 : Nat) : Int)) ?_
     refine vb (q_add_r (r := ((i25 + 1 : Nat) : Int)) rfl rfl rfl (ctr_lit hl30 (by decide))) ?_
     refine as_ (v := .int .i64 ((i25 + 1 : Nat) : Int)) ?_
     refine WR.nil ?_
     intro w hw
     exact ⟨hl30, (), h, (sl_ (by kernel_rfl)), hw, trivial⟩
  ·
   have h := hge28 (ige hb29)
   refine WC.exit ?_
   change WC _ _ _ _ _ _
   refine WC.rs ?_
   refine as_ (v := .bool false) ?_
   refine WR.done ?_
   refine WC.ret ?_
   intro w hw
   obtain rfl := Option.some.inj h
   subst hF
   exact ⟨by kernel_rfl, hw.fr⟩
abbrev r_firthref14_Get (r : List Ver) (U : List Rowb) (Γ : Gh) (v : Value) : Prop := ∃ (A0 : Option Addr), ∃ (c0 : Nat), v = .slice A0 r.length c0 ∧ U = [] ∧ r.length ≤ c0 ∧ Sl verT Γ A0 r ∧ True
theorem t_firthref14_Get {Γ : Gh} {w0 : World} {Al : Option Addr} {cl : Nat} {l : List Rec} (hl : Sl recT Γ Al l) (hlc : l.length ≤ cl) (key : ByteArray) (hkey : key.size ≤ lim) (hp : Pre [] Γ w0) {r : List Ver} (h : m_firthref14_Get l key = some r) : Calls Tryz.prog 38 #[.slice Al l.length cl, .string key] w0 (Outc Γ [] w0 (r_firthref14_Get r)) := by
 refine calls_of (N := 24) (rs := [4]) (args := [.slice Al l.length cl, .string key]) Tryz.func38 rfl Tryz.ntmps38 Tryz.results38 rfl ?_
 obtain ⟨F, hF⟩ : ∃ F : Fm, F = ⟨ids [], w0, Γ⟩ := ⟨_, rfl⟩
 refine WC.here (C := CC F Γ []) ?_ (hF ▸ hp.start)
 refine WC.rs ?_
 refine as_ (v := .slice none 0 0) ?_
 refine WR.done ?_
 refine WC.seq ?_
 refine WC.rs ?_
 refine as_ (v := .int .i64 0) ?_
 refine WR.done ?_
 refine WC.block ?_
 refine WC.forI h (fun (i2 : Nat) (s : Unit) σ w => match s with | () => slots σ [(0, .slice Al l.length cl), (1, .string key), (5, .int .i64 ((i2 : Nat) : Int))] ∧ CC F Γ [] w ∧ True) ?_ ?_
 ·
  intro w hw
  exact ⟨(sl_ (by kernel_rfl)), hw, trivial⟩
 rintro f1 i2 ⟨⟩ σ w hi3 hlt4 hge5 ⟨hsl, hw, -⟩
 refine Wpt.slots hsl ?_
 refine WC.here (C := CC F Γ []) ?_ hw
 clear hw hsl
 refine WC.seq ?_
 refine WC.rs ?_
 refine mv (v := .int .i64 ((i2 : Nat) : Int)) ?_
 refine mv (v := .slice Al l.length cl) ?_
 refine vb (q_len_slice rfl Tryz.underlying23 rfl) ?_
 refine vb (q_lss rfl rfl rfl) ?_
 refine WR.done ?_
 refine WC.cond (b := (decide (((i2 : Nat) : Int) < ((l.length : Nat) : Int)))) (by kernel_rfl) (fun hb6 => ?_) (fun hb6 => ?_)
 ·
  have hl7 := ilt hb6
  have h := hlt4 hl7
  refine WC.skip ?_
  change WC _ _ _ _ _ _
  refine WC.seq ?_
  refine WC.block ?_
  refine WC.rs ?_
  refine mv (v := .slice Al l.length cl) ?_
  refine mv (v := .int .i64 ((i2 : Nat) : Int)) ?_
  refine vb (q_ixn (i := i2) Tryz.underlying23 Tryz.sizeOf70 rfl rfl rfl hl7 (hl.some_ hl7)) ?_
  refine vb (q_field_addr (i2 * 2) fld_70_0 rfl rfl (hl.some_ hl7) rfl) ?_
  obtain ⟨A8, c9, hx10⟩ := hl.recT_at i2
  refine vb (q_ld (c := 0) (v := .string (gt l i2).key) (hx10 hl7).2 rfl Tryz.isAgg9 rfl rfl) ?_
  refine mv (v := .string key) ?_
  refine vb (q_seql rfl rfl rfl) ?_
  refine WR.done ?_
  refine WC.cif h (by kernel_rfl) (fun hb11 h => ?_) (fun hb11 h => ?_)
  ·
   refine WC.rs ?_
   refine mv (v := .slice Al l.length cl) ?_
   refine mv (v := .int .i64 ((i2 : Nat) : Int)) ?_
   refine vb (q_ixn (i := i2) Tryz.underlying23 Tryz.sizeOf70 rfl rfl rfl hl7 (hl.some_ hl7)) ?_
   refine vb (q_field_addr (i2 * 2 + 1) fld_70_1 rfl rfl (hl.some_ hl7) rfl) ?_
   refine vb (q_ld (c := 1) (v := .slice A8 ((gt l i2).vers).length c9) (hx10 hl7).2 rfl Tryz.isAgg67 rfl rfl) ?_
   refine as_ (v := .slice A8 ((gt l i2).vers).length c9) ?_
   refine WR.done ?_
   refine WC.ret ?_
   intro w hw
   obtain rfl := Option.some.inj h
   subst hF
   exact end_e (is := []) (by kernel_rfl) hw rfl ⟨A8, c9, rfl, rfl, (hx10 hl7).1.2.1, (hx10 hl7).1.2.2, trivial⟩
  ·
   refine WC.skip ?_
   change WC _ _ _ _ _ _
   refine WC.region ?_
   refine mv (v := .int .i64 ((i2 : Nat) : Int)) ?_
   refine vb (q_add_r (r := ((i2 + 1 : Nat) : Int)) rfl rfl rfl (ctr_len hl7 hl.le)) ?_
   refine as_ (v := .int .i64 ((i2 + 1 : Nat) : Int)) ?_
   refine WR.nil ?_
   intro w hw
   exact ⟨hl7, (), h, (sl_ (by kernel_rfl)), hw, trivial⟩
 ·
  have h := hge5 (ige hb6)
  refine WC.exit ?_
  change WC _ _ _ _ _ _
  refine WC.rs ?_
  refine as_ (v := .slice none 0 0) ?_
  refine WR.done ?_
  refine WC.ret ?_
  intro w hw
  obtain rfl := Option.some.inj h
  subst hF
  exact end_e (is := []) (by kernel_rfl) hw rfl ⟨none, 0, rfl, rfl, (Nat.zero_le 0), (Sl.nil verT _ none), trivial⟩
theorem t_firthlaw19_PullAll {Γ : Gh} {w0 : World} {Aown : Option Addr} {cown : Nat} {own : List Rec} (hown : Sl recT Γ Aown own) (hownc : own.length ≤ cown) {Acut : Option Addr} {ccut : Nat} {cut : List Rec} (hcut : Sl recT Γ Acut cut) (hcutc : cut.length ≤ ccut) {Aorder : Option Addr} {corder : Nat} {order : List Int} (horder : Sl intT Γ Aorder order) (horderc : order.length ≤ corder) (hs : Sat Γ w0) {r : Bool} (h : m_firthlaw19_PullAll own cut order = some r) : Calls Tryz.prog 5 #[.slice Aown own.length cown, .slice Acut cut.length ccut, .slice Aorder order.length corder] w0 (fun e w' => e = .returned (.bool r) ∧ Fr no w0 w') := by
 refine calls_of (N := 154) (rs := [6]) (args := [.slice Aown own.length cown, .slice Acut cut.length ccut, .slice Aorder order.length corder]) Tryz.func5 rfl Tryz.ntmps5 Tryz.results5 rfl ?_
 obtain ⟨F, hF⟩ : ∃ F : Fm, F = ⟨no, w0, Γ⟩ := ⟨_, rfl⟩
 refine WC.here (C := CC F Γ []) ?_ (hF ▸ Cur.start0 hs)
 refine WC.rs ?_
 refine as_ (v := .bool false) ?_
 refine WR.done ?_
 refine WC.seq ?_
 refine WC.rs ?_
 obtain ⟨z1, hz2, h⟩ := bnd h
 refine vc rfl rfl rfl (q_call (call_run Tryz.call12 rfl rfl (by kernel_rfl)) (fun w hw => t_firthlaw19_awake (Γ := Gh.all w)  (Sat.all w) hz2)) ?_
 refine vb (q_not rfl rfl) ?_
 refine WR.done ?_
 refine WC.cif h (by kernel_rfl) (fun hb3 h => ?_) (fun hb3 h => ?_)
 ·
  refine WC.rs ?_
  refine as_ (v := .bool false) ?_
  refine WR.done ?_
  refine WC.ret ?_
  intro w hw
  obtain rfl := Option.some.inj h
  subst hF
  exact ⟨by kernel_rfl, hw.fr⟩
 ·
  refine WC.skip ?_
  change WC _ _ _ _ _ _
  refine WC.rs ?_
  refine mv (v := .slice Aown own.length cown) ?_
  obtain ⟨z4, hz5, h⟩ := bnd h
  refine e_call (is := []) rfl rfl (call_run Tryz.call35 rfl rfl (by kernel_rfl)) rfl (fun w hp => t_firthref14_Held hown hownc hp hz5) ?_
  rintro Γ6 U8 v9 hl7 ⟨A10, c11, row12, rfl, rfl, hr13, _⟩
  change WR _ _ _ (CC F Γ6 [row12]) _ _ (upd _ 24 (.tuple #[.slice A10 z4.1.length c11, .bool z4.2]))
  refine mv (v := .tuple #[.slice A10 z4.1.length c11, .bool z4.2]) ?_
  refine vb (q_extract (v := .slice A10 z4.1.length c11) rfl rfl rfl) ?_
  refine vb (q_extract (v := .bool z4.2) rfl rfl rfl) ?_
  refine as_ (v := .slice A10 z4.1.length c11) ?_
  refine as_ (v := .bool z4.2) ?_
  refine WR.done ?_
  refine WC.rs ?_
  refine mv (v := .slice Acut cut.length ccut) ?_
  obtain ⟨z14, hz15, h⟩ := bnd h
  refine e_call (is := []) rfl rfl (call_run Tryz.call35 rfl rfl (by kernel_rfl)) rfl (fun w hp => t_firthref14_Held (hcut.mono hl7) hcutc hp hz15) ?_
  rintro Γ16 U18 v19 hl17 ⟨A20, c21, row22, rfl, rfl, hr23, _⟩
  change WR _ _ _ (CC F Γ16 [row22, row12]) _ _ (upd _ 29 (.tuple #[.slice A20 z14.1.length c21, .bool z14.2]))
  refine mv (v := .tuple #[.slice A20 z14.1.length c21, .bool z14.2]) ?_
  refine vb (q_extract (v := .slice A20 z14.1.length c21) rfl rfl rfl) ?_
  refine vb (q_extract (v := .bool z14.2) rfl rfl rfl) ?_
  refine as_ (v := .slice A20 z14.1.length c21) ?_
  refine as_ (v := .bool z14.2) ?_
  refine WR.done ?_
  refine WC.seq ?_
  refine WC.rs ?_
  refine mv (v := .bool z4.2) ?_
  refine vb (q_not rfl rfl) ?_
  refine mv (v := .bool (!z4.2)) ?_
  refine vg0 rfl rfl rfl rfl rfl (fun hg24 => QV.qo (q_move (v := .bool z14.2) rfl (by kernel_rfl))) ?_
  refine vg0 rfl rfl rfl rfl rfl (fun hg25 => QV.qo (q_not rfl (gu hg25 rfl))) ?_
  refine vb (q_pick rfl rfl (pk_or' (g := (!z4.2)) (y := (!z14.2)))) ?_
  refine mv (v := .bool ((!z4.2) || (!z14.2))) ?_
  refine vg0 rfl rfl rfl rfl rfl (fun hg26 => QV.qo (q_move (v := .slice A10 z4.1.length c11) rfl (by kernel_rfl))) ?_
  refine vg0 rfl rfl rfl rfl rfl (fun hg27 => QV.qo (q_move (v := .slice A20 z14.1.length c21) rfl (by kernel_rfl))) ?_
  obtain ⟨z29, hz30, h⟩ := bnd h
  refine vg0 rfl rfl rfl rfl rfl (fun hg28 => (q_call (call_run Tryz.call36 rfl rfl (args2 (gu hg28 rfl) (gu hg28 rfl))) (fun w hw => t_firthref14_Doubt (Γ := Gh.all w) ((hr13.mono hl17).sl hw.sat.le_all (hw.ra 1 rfl)) (hr13.mono hl17).capz (hr23.sl hw.sat.le_all (hw.ra 0 rfl)) hr23.capz (Sat.all w) (gc_of hz30 hg28)))) ?_
  refine vb (q_pick rfl rfl (pk_or' (g := ((!z4.2) || (!z14.2))) (y := z29))) ?_
  refine WR.done ?_
  refine WC.cif h (by kernel_rfl) (fun hb31 h => ?_) (fun hb31 h => ?_)
  ·
   refine WC.rs ?_
   refine as_ (v := .bool true) ?_
   refine WR.done ?_
   refine WC.ret ?_
   intro w hw
   obtain rfl := Option.some.inj h
   subst hF
   exact ⟨by kernel_rfl, hw.fr⟩
  ·
   refine WC.skip ?_
   change WC _ _ _ _ _ _
   refine WC.rs ?_
   refine e_buildSlice (cs := #[.int .i64 5]) (e := 2) rfl rfl rfl rfl (fun w => by kernel_rfl) ?_
   intro g32
   refine mv (v := .slice Acut cut.length ccut) ?_
   have ho33 : Own intT Γ16 2 [(g32, .cells #[.int .i64 5] 2 (0, 0))] (some ⟨g32, 0, none⟩) 1 [5] := Own.of_blockL (T := intT) (ys := [5]) [[.int .i64 5]] rfl (show 1 ≤ lim by decide) (show Ty.rd intT Γ16 [.int .i64 5] 5 ∧ True from ⟨⟨rfl, (show I64 5 by decide)⟩, trivial⟩)
   have hc38 := ho33.capz
   intro w hw; obtain ⟨Γ34, hw, hl35, hr36⟩ := hw.seal (i := 0) rfl; have hs37 := ho33.sl hl35 hr36
   refine WR.here (C := CC F Γ34 [[], row22, row12]) ?_ hw
   clear hw
   obtain ⟨z39, hz40, h⟩ := bnd h
   refine e_call (is := []) rfl rfl (call_run Tryz.call10 rfl rfl (by kernel_rfl)) rfl (fun w hp => t_pull_NewCut 1 (show I64 1 by decide) hs37 hc38 (hcut.mono ((hl7.trans hl17).trans hl35)) hcutc hp hz40) ?_
   rintro Γ41 U43 v44 hl42 ⟨g45, row46, rfl, rfl, hr47, hr48, _⟩
   change WR _ _ _ (CC F Γ41 [row46, [], row22, row12]) _ _ (upd _ 46 (.tuple #[optp z39.1 g45, .int .i64 z39.2]))
   refine mv (v := .tuple #[optp z39.1 g45, .int .i64 z39.2]) ?_
   refine vb (q_extract (v := optp z39.1 g45) rfl rfl rfl) ?_
   refine vb (q_extract (v := .int .i64 z39.2) rfl rfl rfl) ?_
   refine as_ (v := optp z39.1 g45) ?_
   refine as_ (v := .int .i64 z39.2) ?_
   refine WR.done ?_
   refine WC.rs ?_
   refine mv (v := .slice Aown own.length cown) ?_
   obtain ⟨z49, hz50, h⟩ := bnd h
   refine e_call (is := []) rfl rfl (call_run Tryz.call22 rfl rfl (by kernel_rfl)) rfl (fun w hp => t_pull_NewPull 1 (show I64 1 by decide) (hown.mono (((hl7.trans hl17).trans hl35).trans hl42)) hownc hp hz50) ?_
   rintro Γ51 U53 v54 hl52 ⟨g55, row56, rfl, rfl, hr57, hr58, _⟩
   change WR _ _ _ (CC F Γ51 [row56, row46, [], row22, row12]) _ _ (upd _ 51 (.tuple #[optp z49.1 g55, .int .i64 z49.2]))
   refine mv (v := .tuple #[optp z49.1 g55, .int .i64 z49.2]) ?_
   refine vb (q_extract (v := optp z49.1 g55) rfl rfl rfl) ?_
   refine vb (q_extract (v := .int .i64 z49.2) rfl rfl rfl) ?_
   refine as_ (v := optp z49.1 g55) ?_
   refine as_ (v := .int .i64 z49.2) ?_
   refine WR.done ?_
   refine WC.seq ?_
   refine WC.rs ?_
   refine mv (v := optp z39.1 g45) ?_
   refine vb (q_opt_eql Tryz.underlying25 rfl rfl rfl) ?_
   refine mv (v := .bool (Option.isNone z39.1)) ?_
   refine vg0 rfl rfl rfl rfl rfl (fun hg59 => QV.qo (q_move (v := optp z49.1 g55) rfl (by kernel_rfl))) ?_
   refine vg0 rfl rfl rfl rfl rfl (fun hg60 => QV.qo (q_opt_eql Tryz.underlying47 rfl (gu hg60 rfl) rfl)) ?_
   refine vb (q_pick rfl rfl (pk_or' (g := (Option.isNone z39.1)) (y := (Option.isNone z49.1)))) ?_
   refine mv (v := .bool ((Option.isNone z39.1) || (Option.isNone z49.1))) ?_
   refine vg0 rfl rfl rfl rfl rfl (fun hg61 => QV.qo (q_move (v := .int .i64 z39.2) rfl (by kernel_rfl))) ?_
   refine vg0 rfl rfl rfl rfl rfl (fun hg62 => QV.qo (q_neq rfl (gu hg62 rfl) rfl)) ?_
   refine vb (q_pick rfl rfl (pk_or' (g := ((Option.isNone z39.1) || (Option.isNone z49.1))) (y := (z39.2 != 0)))) ?_
   refine mv (v := .bool (((Option.isNone z39.1) || (Option.isNone z49.1)) || (z39.2 != 0))) ?_
   refine vg0 rfl rfl rfl rfl rfl (fun hg63 => QV.qo (q_move (v := .int .i64 z49.2) rfl (by kernel_rfl))) ?_
   refine vg0 rfl rfl rfl rfl rfl (fun hg64 => QV.qo (q_neq rfl (gu hg64 rfl) rfl)) ?_
   refine vb (q_pick rfl rfl (pk_or' (g := (((Option.isNone z39.1) || (Option.isNone z49.1)) || (z39.2 != 0))) (y := (z49.2 != 0)))) ?_
   refine mv (v := .bool ((((Option.isNone z39.1) || (Option.isNone z49.1)) || (z39.2 != 0)) || (z49.2 != 0))) ?_
   refine vg0 rfl rfl rfl rfl rfl (fun hg65 => QV.qo (q_move (v := optp z49.1 g55) rfl (by kernel_rfl))) ?_
   refine vg0 rfl rfl rfl rfl rfl (fun hg66 => QV.qo (q_move (v := optp z39.1 g45) rfl (by kernel_rfl))) ?_
   refine (Bool.eq_false_or_eq_true (!((((Option.isNone z39.1) || (Option.isNone z49.1)) || (z39.2 != 0)) || (z49.2 != 0)))).elim (fun hb67 => ?_) (fun hb67 => ?_)
   ·
    have h := bt hb67 h
    obtain ⟨z68, hz69, h⟩ := bnd h
    have ho70 := optob_some hr57 hz69
    obtain ⟨z71, hz72, h⟩ := bnd h
    have ho73 := optob_some (optob_mono hr47 (fun _ h => h.mono hl52)) hz72
    refine WR.sat (c0 := true) (g := ((((Option.isNone z39.1) || (Option.isNone z49.1)) || (z39.2 != 0)) || (z49.2 != 0))) rfl rfl rfl hb67 ?_
    obtain ⟨z74, hz75, h⟩ := bnd h
    refine e_call (is := [1]) rfl rfl (call_run Tryz.call18 rfl rfl (args1 (optp_some (gu hb67 rfl) hz72))) rfl (fun w hp => t_pull_Cut_Vec ho73 hp hz75) ?_
    rintro Γ76 U78 v79 hl77 ⟨A80, c81, row82, rfl, rfl, hr83, _⟩
    change WR _ _ _ (CC F Γ76 [row46, row82, row56, [], row22, row12]) _ _ (upd _ 71 (.slice A80 z74.length c81))
    refine WR.sat (c0 := true) (g := ((((Option.isNone z39.1) || (Option.isNone z49.1)) || (z39.2 != 0)) || (z49.2 != 0))) rfl rfl rfl hb67 ?_
    refine vb (q_move (v := (pq g45)) rfl (optp_some rfl hz72)) ?_
    refine WR.sat (c0 := true) (g := ((((Option.isNone z39.1) || (Option.isNone z49.1)) || (z39.2 != 0)) || (z49.2 != 0))) rfl rfl rfl hb67 ?_
    obtain ⟨z84, hz85, h⟩ := bnd h
    refine e_call (is := [0]) rfl rfl (call_run Tryz.call19 rfl rfl (by kernel_rfl)) rfl (fun w hp => t_pull_Cut_Open (ho73.mono hl77) hp hz85) ?_
    rintro Γ86 U88 v89 hl87 ⟨row90, A92, c93, row94, rfl, rfl, hr91, hr95, _⟩
    change WR _ _ _ (CC F Γ86 [row90, row94, row82, row56, [], row22, row12]) _ _ (upd _ 73 (.slice A92 z84.2.length c93))
    refine WR.sat (c0 := true) (g := ((((Option.isNone z39.1) || (Option.isNone z49.1)) || (z39.2 != 0)) || (z49.2 != 0))) rfl rfl rfl hb67 ?_
    have hc100 := (hr83.mono hl87).capz
    intro w hw; obtain ⟨Γ96, hw, hl97, hr98⟩ := hw.seal (i := 2) rfl; have hs99 := (hr83.mono hl87).sl hl97 hr98
    refine WR.here (C := CC F Γ96 [row90, row94, [], row56, [], row22, row12]) ?_ hw
    clear hw
    have hc105 := (hr95.mono hl97).capz
    intro w hw; obtain ⟨Γ101, hw, hl102, hr103⟩ := hw.seal (i := 1) rfl; have hs104 := (hr95.mono hl97).sl hl102 hr103
    refine WR.here (C := CC F Γ101 [row90, [], [], row56, [], row22, row12]) ?_ hw
    clear hw
    obtain ⟨z106, hz107, h⟩ := bnd h
    refine e_call (is := [3]) rfl rfl (call_run Tryz.call24 rfl rfl (args3 (optp_some (gu hb67 rfl) hz69) rfl rfl)) rfl (fun w hp => t_pull_Pull_Begin (ho70.mono (((hl77.trans hl87).trans hl97).trans hl102)) (hs99.mono hl102) hc100 hs104 hc105 hp hz107) ?_
    rintro Γ108 U110 v111 hl109 ⟨row112, rfl, rfl, hr113, _⟩
    change WR _ _ _ (CC F Γ108 [row112, row90, [], [], [], row22, row12]) _ _ (upd _ 74 (.bool z106.2))
    refine WR.sat (c0 := true) (g := ((((Option.isNone z39.1) || (Option.isNone z49.1)) || (z39.2 != 0)) || (z49.2 != 0))) rfl rfl rfl hb67 ?_
    refine vb (q_not rfl rfl) ?_
    refine vb (q_pick_f (v := .bool (!z106.2)) rfl rfl (not_t hb67) (by kernel_rfl)) ?_
    refine mv (v := .bool (!z106.2)) ?_
    refine vg0 rfl rfl rfl rfl rfl (fun hg114 => QV.qo (q_move (v := (pq g45)) rfl (optp_some rfl hz72))) ?_
    refine vg0 rfl rfl rfl rfl rfl (fun hg115 => QV.qo (q_move (v := (pq g55)) rfl (optp_some rfl hz69))) ?_
    refine vg0 rfl rfl rfl rfl rfl (fun hg116 => QV.qo (q_move (v := .slice Aorder order.length corder) rfl (by kernel_rfl))) ?_
    refine (Bool.eq_false_or_eq_true (!(!z106.2))).elim (fun hb117 => ?_) (fun hb117 => ?_)
    ·
     have h := bt hb117 h
     refine WR.sat (c0 := true) (g := (!z106.2)) rfl rfl rfl hb117 ?_
     obtain ⟨z118, hz119, h⟩ := bnd h
     refine e_call (is := [1, 0]) rfl rfl (call_run Tryz.call37 rfl rfl (args3 (gu hb117 rfl) (gu hb117 rfl) (gu hb117 rfl))) rfl (fun w hp => t_firthlaw19_told (hr91.mono ((hl97.trans hl102).trans hl109)) hr113 (horder.mono (((((((((hl7.trans hl17).trans hl35).trans hl42).trans hl52).trans hl77).trans hl87).trans hl97).trans hl102).trans hl109)) horderc hp hz119) ?_
     rintro Γ120 U122 v123 hl121 ⟨row124, row126, rfl, rfl, hr125, hr127, _⟩
     change WR _ _ _ (CC F Γ120 [row124, row126, [], [], [], row22, row12]) _ _ (upd _ 81 (.bool z118.2.2))
     refine WR.sat (c0 := true) (g := (!z106.2)) rfl rfl rfl hb117 ?_
     refine vb (q_not rfl rfl) ?_
     refine vb (q_pick_f (v := .bool (!z118.2.2)) rfl rfl (not_t hb117) (by kernel_rfl)) ?_
     refine mv (v := .bool (!z118.2.2)) ?_
     refine vg0 rfl rfl rfl rfl rfl (fun hg128 => QV.qo (q_move (v := (pq g55)) rfl (optp_some rfl hz69))) ?_
     obtain ⟨z130, hz131, h⟩ := bnd h
     refine vg0 rfl rfl rfl rfl rfl (fun hg129 => (q_call (call_run Tryz.call28 rfl rfl (args1 (gu hg129 rfl))) (fun w hw => t_pull_Pull_Done (Γ := Gh.all w) (hr127.mono hw.sat.le_all) (hw.ra 1 rfl) (Sat.all w) (gc_of hz131 hg129)))) ?_
     refine vg0 rfl rfl rfl rfl rfl (fun hg132 => QV.qo (q_not rfl (gu hg132 rfl))) ?_
     refine vb (q_pick rfl rfl (pk_or' (g := (!z118.2.2)) (y := (!z130)))) ?_
     refine WR.done ?_
     refine WC.cif h (by kernel_rfl) (fun hb133 h => ?_) (fun hb133 h => ?_)
     ·
      refine WC.rs ?_
      refine as_ (v := .bool false) ?_
      refine WR.done ?_
      refine WC.ret ?_
      intro w hw
      obtain rfl := Option.some.inj h
      subst hF
      exact ⟨by kernel_rfl, hw.fr⟩
     ·
      refine WC.skip ?_
      change WC _ _ _ _ _ _
      refine WC.rs ?_
      refine vb (q_move (v := (pq g55)) rfl (optp_some rfl hz69)) ?_
      obtain ⟨z134, hz135, h⟩ := bnd h
      refine e_call (is := [1]) rfl rfl (call_run Tryz.call32 rfl rfl (by kernel_rfl)) rfl (fun w hp => t_pull_Pull_Staged hr127 hp hz135) ?_
      rintro Γ136 U138 v139 hl137 ⟨A140, c141, row142, rfl, rfl, hr143, _⟩
      change WR _ _ _ (CC F Γ136 [row126, row142, row124, [], [], [], row22, row12]) _ _ (upd _ 90 (.slice A140 z134.length c141))
      refine as_ (v := .slice A140 z134.length c141) ?_
      refine WR.done ?_
      refine WC.seq ?_
      refine WC.rs ?_
      refine as_ (v := .int .i64 0) ?_
      refine WR.done ?_
      refine WC.block ?_
      have hc148 := hr143.capz
      intro w hw; obtain ⟨Γ144, hw, hl145, hr146⟩ := hw.seal (i := 1) rfl; have hs147 := hr143.sl hl145 hr146
      refine WC.here (C := CC F Γ144 [row126, [], row124, [], [], [], row22, row12]) ?_ hw
      clear hw
      have hc153 := (hr13.mono (((((((((((hl17.trans hl35).trans hl42).trans hl52).trans hl77).trans hl87).trans hl97).trans hl102).trans hl109).trans hl121).trans hl137).trans hl145)).capz
      intro w hw; obtain ⟨Γ149, hw, hl150, hr151⟩ := hw.seal (i := 7) rfl; have hs152 := (hr13.mono (((((((((((hl17.trans hl35).trans hl42).trans hl52).trans hl77).trans hl87).trans hl97).trans hl102).trans hl109).trans hl121).trans hl137).trans hl145)).sl hl150 hr151
      refine WC.here (C := CC F Γ149 [row126, [], row124, [], [], [], row22, []]) ?_ hw
      clear hw
      refine WC.forI h (fun (i157 : Nat) (s : Unit) σ w => match s with | () => ∃ (Γ154 : Gh), slots σ [(7, .slice A10 z4.1.length c11), (9, .slice A20 z14.1.length c21), (15, .slice A140 z134.length c141), (16, .int .i64 ((i157 : Nat) : Int))] ∧ CC F Γ154 [row126, row124, row22] w ∧ Gh.le Γ149 Γ154 ∧ True) ?_ ?_
      ·
       intro w hw
       exact ⟨Γ149, (sl_ (by kernel_rfl)), (hw.only (is := [0, 1, 4]) rfl), (Gh.refl _), trivial⟩
      rintro f156 i157 ⟨⟩ σ w hi158 hlt159 hge160 ⟨Γ154, hsl, hw, hl155, -⟩
      refine Wpt.slots hsl ?_
      refine WC.here (C := CC F Γ154 [row126, row124, row22]) ?_ hw
      clear hw hsl
      refine WC.seq ?_
      refine WC.rs ?_
      refine mv (v := .int .i64 ((i157 : Nat) : Int)) ?_
      refine mv (v := .slice A20 z14.1.length c21) ?_
      refine vb (q_len_slice rfl Tryz.underlying23 rfl) ?_
      refine vb (q_lss rfl rfl rfl) ?_
      refine WR.done ?_
      refine WC.cond (b := (decide (((i157 : Nat) : Int) < ((z14.1.length : Nat) : Int)))) (by kernel_rfl) (fun hb161 => ?_) (fun hb161 => ?_)
      ·
       have hl162 := ilt hb161
       have h := hlt159 hl162
       refine WC.skip ?_
       change WC _ _ _ _ _ _
       refine WC.seq ?_
       refine WC.block ?_
       refine WC.rs ?_
       refine mv (v := .slice A10 z4.1.length c11) ?_
       refine mv (v := .slice A20 z14.1.length c21) ?_
       refine mv (v := .int .i64 ((i157 : Nat) : Int)) ?_
       refine vb (q_ixn (i := i157) Tryz.underlying23 Tryz.sizeOf70 rfl rfl rfl hl162 ((hr23.mono ((((((((((((hl35.trans hl42).trans hl52).trans hl77).trans hl87).trans hl97).trans hl102).trans hl109).trans hl121).trans hl137).trans hl145).trans hl150).trans hl155)).some_ hl162)) ?_
       refine vb (q_field_addr (i157 * 2) fld_70_0 rfl rfl ((hr23.mono ((((((((((((hl35.trans hl42).trans hl52).trans hl77).trans hl87).trans hl97).trans hl102).trans hl109).trans hl121).trans hl137).trans hl145).trans hl150).trans hl155)).some_ hl162) rfl) ?_
       obtain ⟨A163, c164, hx165⟩ := (hr23.mono ((((((((((((hl35.trans hl42).trans hl52).trans hl77).trans hl87).trans hl97).trans hl102).trans hl109).trans hl121).trans hl137).trans hl145).trans hl150).trans hl155)).recT_at i157
       refine vb (q_ldo (c := 0) (v := .string (gt z14.1 i157).key) (i := 2) rfl (hx165 hl162).2 rfl Tryz.isAgg9 rfl rfl) ?_
       obtain ⟨z166, hz167, h⟩ := bnd h
       refine e_call (is := []) rfl rfl (call_run Tryz.call38 rfl rfl (by kernel_rfl)) rfl (fun w hp => t_firthref14_Get (hs152.mono hl155) hc153 ((gt z14.1 i157).key) (hx165 hl162).1.1 hp hz167) ?_
       rintro Γ168 U170 v171 hl169 ⟨A172, c173, rfl, rfl, hc175, hr174, _⟩
       change WR _ _ _ (CC F Γ168 [row126, row124, row22]) _ _ (upd _ 103 (.slice A172 z166.length c173))
       refine as_ (v := .slice A172 z166.length c173) ?_
       refine WR.done ?_
       refine WC.rs ?_
       refine mv (v := .slice A140 z134.length c141) ?_
       refine mv (v := .slice A20 z14.1.length c21) ?_
       refine mv (v := .int .i64 ((i157 : Nat) : Int)) ?_
       refine vb (q_ixn (i := i157) Tryz.underlying23 Tryz.sizeOf70 rfl rfl rfl hl162 ((hr23.mono (((((((((((((hl35.trans hl42).trans hl52).trans hl77).trans hl87).trans hl97).trans hl102).trans hl109).trans hl121).trans hl137).trans hl145).trans hl150).trans hl155).trans hl169)).some_ hl162)) ?_
       refine vb (q_field_addr (i157 * 2) fld_70_0 rfl rfl ((hr23.mono (((((((((((((hl35.trans hl42).trans hl52).trans hl77).trans hl87).trans hl97).trans hl102).trans hl109).trans hl121).trans hl137).trans hl145).trans hl150).trans hl155).trans hl169)).some_ hl162) rfl) ?_
       refine vb (q_ldo (c := 0) (v := .string (gt z14.1 i157).key) (i := 2) rfl (hx165 hl162).2 rfl Tryz.isAgg9 rfl rfl) ?_
       obtain ⟨z176, hz177, h⟩ := bnd h
       refine e_call (is := []) rfl rfl (call_run Tryz.call38 rfl rfl (by kernel_rfl)) rfl (fun w hp => t_firthref14_Get (hs147.mono ((hl150.trans hl155).trans hl169)) hc148 ((gt z14.1 i157).key) (hx165 hl162).1.1 hp hz177) ?_
       rintro Γ178 U180 v181 hl179 ⟨A182, c183, rfl, rfl, hc185, hr184, _⟩
       change WR _ _ _ (CC F Γ178 [row126, row124, row22]) _ _ (upd _ 110 (.slice A182 z176.length c183))
       refine as_ (v := .slice A182 z176.length c183) ?_
       refine WR.done ?_
       refine WC.rs ?_
       refine mv (v := .slice A182 z176.length c183) ?_
       refine mv (v := .slice A20 z14.1.length c21) ?_
       refine mv (v := .int .i64 ((i157 : Nat) : Int)) ?_
       refine vb (q_ixn (i := i157) Tryz.underlying23 Tryz.sizeOf70 rfl rfl rfl hl162 ((hr23.mono ((((((((((((((hl35.trans hl42).trans hl52).trans hl77).trans hl87).trans hl97).trans hl102).trans hl109).trans hl121).trans hl137).trans hl145).trans hl150).trans hl155).trans hl169).trans hl179)).some_ hl162)) ?_
       refine vb (q_field_addr (i157 * 2 + 1) fld_70_1 rfl rfl ((hr23.mono ((((((((((((((hl35.trans hl42).trans hl52).trans hl77).trans hl87).trans hl97).trans hl102).trans hl109).trans hl121).trans hl137).trans hl145).trans hl150).trans hl155).trans hl169).trans hl179)).some_ hl162) rfl) ?_
       refine vb (q_ldo (c := 1) (v := .slice A163 ((gt z14.1 i157).vers).length c164) (i := 2) rfl (hx165 hl162).2 rfl Tryz.isAgg67 rfl rfl) ?_
       obtain ⟨z186, hz187, h⟩ := bnd h
       refine vc rfl rfl rfl (q_call (call_run Tryz.call39 rfl rfl (by kernel_rfl)) (fun w hw => t_firthref05_Same (Γ := Gh.all w) (hr184.mono hw.sat.le_all) hc185 (((hx165 hl162).1.2.2.mono (hl169.trans hl179)).mono hw.sat.le_all) (hx165 hl162).1.2.1 (Sat.all w) hz187)) ?_
       refine vb (q_not rfl rfl) ?_
       refine mv (v := .bool (!z186)) ?_
       refine vg1 rfl rfl rfl rfl rfl (fun hg188 => QV.qo (q_move (v := .slice A182 z176.length c183) rfl (by kernel_rfl))) ?_
       refine vg1 rfl rfl rfl rfl rfl (fun hg189 => QV.qo (q_len_slice rfl Tryz.underlying67 (gu hg189 rfl))) ?_
       refine vg1 rfl rfl rfl rfl rfl (fun hg190 => QV.qo (q_gtr rfl (gu hg190 rfl) rfl)) ?_
       refine vg1 rfl rfl rfl rfl rfl (fun hg191 => QV.qo (q_move (v := .bool (decide (0 < ((z176.length : Nat) : Int)))) rfl (gu hg191 rfl))) ?_
       refine vh0 (c0 := (!z186)) (g := (decide (0 < ((z176.length : Nat) : Int)))) rfl rfl rfl rfl rfl (fun hg192 => QV.qo (q_move (v := .slice A172 z166.length c173) rfl (by kernel_rfl))) ?_
       refine vh0 (c0 := (!z186)) (g := (decide (0 < ((z176.length : Nat) : Int)))) rfl rfl rfl rfl rfl (fun hg193 => QV.qo (q_move (v := .slice A20 z14.1.length c21) rfl (by kernel_rfl))) ?_
       refine vh0 (c0 := (!z186)) (g := (decide (0 < ((z176.length : Nat) : Int)))) rfl rfl rfl rfl rfl (fun hg194 => QV.qo (q_move (v := .int .i64 ((i157 : Nat) : Int)) rfl (by kernel_rfl))) ?_
       refine vh0 (c0 := (!z186)) (g := (decide (0 < ((z176.length : Nat) : Int)))) rfl rfl rfl rfl rfl (fun hg195 => QV.qo (q_ixn (i := i157) Tryz.underlying23 Tryz.sizeOf70 rfl (gu hg195 rfl) (gu hg195 rfl) hl162 ((hr23.mono ((((((((((((((hl35.trans hl42).trans hl52).trans hl77).trans hl87).trans hl97).trans hl102).trans hl109).trans hl121).trans hl137).trans hl145).trans hl150).trans hl155).trans hl169).trans hl179)).some_ hl162))) ?_
       refine vh0 (c0 := (!z186)) (g := (decide (0 < ((z176.length : Nat) : Int)))) rfl rfl rfl rfl rfl (fun hg196 => QV.qo (q_field_addr (i157 * 2 + 1) fld_70_1 rfl (gu hg196 rfl) ((hr23.mono ((((((((((((((hl35.trans hl42).trans hl52).trans hl77).trans hl87).trans hl97).trans hl102).trans hl109).trans hl121).trans hl137).trans hl145).trans hl150).trans hl155).trans hl169).trans hl179)).some_ hl162) rfl)) ?_
       refine vh0 (c0 := (!z186)) (g := (decide (0 < ((z176.length : Nat) : Int)))) rfl rfl rfl rfl rfl (fun hg197 => QV.qo (q_ldo (c := 1) (v := .slice A163 ((gt z14.1 i157).vers).length c164) (i := 2) rfl (hx165 hl162).2 rfl Tryz.isAgg67 (gu hg197 rfl) rfl)) ?_
       obtain ⟨z199, hz200, h⟩ := bnd h
       refine vh0 (c0 := (!z186)) (g := (decide (0 < ((z176.length : Nat) : Int)))) rfl rfl rfl rfl rfl (fun hg198 => (q_call (call_run Tryz.call39 rfl rfl (args2 (gu hg198 rfl) (gu hg198 rfl))) (fun w hw => t_firthref05_Same (Γ := Gh.all w) ((hr174.mono hl179).mono hw.sat.le_all) hc175 (((hx165 hl162).1.2.2.mono (hl169.trans hl179)).mono hw.sat.le_all) (hx165 hl162).1.2.1 (Sat.all w) (gc_of hz200 hg198)))) ?_
       refine vh0 (c0 := (!z186)) (g := (decide (0 < ((z176.length : Nat) : Int)))) rfl rfl rfl rfl rfl (fun hg201 => QV.qo (q_not rfl (gu hg201 rfl))) ?_
       refine vg1 rfl rfl rfl rfl rfl (fun hg202 => QV.qo (q_pick rfl (gu hg202 rfl) (pk_or (c := (!z186)) (g := (decide (0 < ((z176.length : Nat) : Int)))) (y := (!z199)) hg202))) ?_
       refine vb (q_pick rfl rfl (pk_and' (g := (!z186)) (y := ((decide (0 < ((z176.length : Nat) : Int))) || (!z199))))) ?_
       refine WR.done ?_
       refine WC.cif h (by kernel_rfl) (fun hb203 h => ?_) (fun hb203 h => ?_)
       ·
        refine WC.rs ?_
        refine as_ (v := .bool false) ?_
        refine WR.done ?_
        refine WC.ret ?_
        intro w hw
        obtain rfl := Option.some.inj h
        subst hF
        exact ⟨by kernel_rfl, hw.fr⟩
       ·
        refine WC.skip ?_
        change WC _ _ _ _ _ _
        refine WC.region ?_
        refine mv (v := .int .i64 ((i157 : Nat) : Int)) ?_
        refine vb (q_add_r (r := ((i157 + 1 : Nat) : Int)) rfl rfl rfl (ctr_len hl162 (hr23.mono ((((((((((((hl35.trans hl42).trans hl52).trans hl77).trans hl87).trans hl97).trans hl102).trans hl109).trans hl121).trans hl137).trans hl145).trans hl150).trans hl155)).le)) ?_
        refine as_ (v := .int .i64 ((i157 + 1 : Nat) : Int)) ?_
        refine WR.nil ?_
        intro w hw
        exact ⟨hl162, (), h, Γ178, (sl_ (by kernel_rfl)), hw, ((hl155.trans hl169).trans hl179), trivial⟩
      ·
       have h := hge160 (ige hb161)
       refine WC.exit ?_
       change WC _ _ _ _ _ _
       refine WC.seq ?_
       refine WC.rs ?_
       refine as_ (v := .int .i64 0) ?_
       refine WR.done ?_
       refine WC.block ?_
       have hc208 := (hr23.mono ((((((((((((hl35.trans hl42).trans hl52).trans hl77).trans hl87).trans hl97).trans hl102).trans hl109).trans hl121).trans hl137).trans hl145).trans hl150).trans hl155)).capz
       intro w hw; obtain ⟨Γ204, hw, hl205, hr206⟩ := hw.seal (i := 2) rfl; have hs207 := (hr23.mono ((((((((((((hl35.trans hl42).trans hl52).trans hl77).trans hl87).trans hl97).trans hl102).trans hl109).trans hl121).trans hl137).trans hl145).trans hl150).trans hl155)).sl hl205 hr206
       refine WC.here (C := CC F Γ204 [row126, row124, []]) ?_ hw
       clear hw
       refine WC.forI h (fun (i212 : Nat) (s : Unit) σ w => match s with | () => ∃ (Γ209 : Gh), slots σ [(9, .slice A20 z14.1.length c21), (15, .slice A140 z134.length c141), (19, .int .i64 ((i212 : Nat) : Int))] ∧ CC F Γ209 [row126, row124] w ∧ Gh.le Γ204 Γ209 ∧ True) ?_ ?_
       ·
        intro w hw
        exact ⟨Γ204, (sl_ (by kernel_rfl)), (hw.only (is := [0, 0]) rfl), (Gh.refl _), trivial⟩
       rintro f211 i212 ⟨⟩ σ w hi213 hlt214 hge215 ⟨Γ209, hsl, hw, hl210, -⟩
       refine Wpt.slots hsl ?_
       refine WC.here (C := CC F Γ209 [row126, row124]) ?_ hw
       clear hw hsl
       refine WC.seq ?_
       refine WC.rs ?_
       refine mv (v := .int .i64 ((i212 : Nat) : Int)) ?_
       refine mv (v := .slice A140 z134.length c141) ?_
       refine vb (q_len_slice rfl Tryz.underlying23 rfl) ?_
       refine vb (q_lss rfl rfl rfl) ?_
       refine WR.done ?_
       refine WC.cond (b := (decide (((i212 : Nat) : Int) < ((z134.length : Nat) : Int)))) (by kernel_rfl) (fun hb216 => ?_) (fun hb216 => ?_)
       ·
        have hl217 := ilt hb216
        have h := hlt214 hl217
        refine WC.skip ?_
        change WC _ _ _ _ _ _
        refine WC.seq ?_
        refine WC.block ?_
        refine WC.seq ?_
        intro w hw; have h0218 := hw.le
        refine WC.here (C := CC F Γ209 [row126, row124]) ?_ hw; clear hw
        refine WC.held (CC F Γ209 []) (by kernel_rfl) (fun w hw => hw.drawn _) ?_
        change WH _ _ _ _ (CC F Γ209 [row126, row124]) _ 14 #[false, false, false, false, false, false, false, false, false, false, false, false, false, false] _
        refine hu 0 rfl (bk_ (Gh.refl _) h0218 (.cons _ (.cons _ .slnil))) (q_move (v := .slice A20 z14.1.length c21) rfl (by kernel_rfl)) ?_
        refine hu 1 rfl (bk_ (Gh.refl _) h0218 (.cons _ (.cons _ .slnil))) (q_move (v := .slice A140 z134.length c141) rfl (by kernel_rfl)) ?_
        refine hu 2 rfl (bk_ (Gh.refl _) h0218 (.cons _ (.cons _ .slnil))) (q_move (v := .int .i64 ((i212 : Nat) : Int)) rfl (by kernel_rfl)) ?_
        refine hu 3 rfl (bk_ (Gh.refl _) h0218 (.cons _ (.cons _ .slnil))) (q_ixn (i := i212) Tryz.underlying23 Tryz.sizeOf70 rfl rfl rfl hl217 ((hs147.mono (((hl150.trans hl155).trans hl205).trans hl210)).some_ hl217)) ?_
        refine hu 4 rfl (bk_ (Gh.refl _) h0218 (.cons _ (.cons _ .slnil))) (q_field_addr (i212 * 2) fld_70_0 rfl rfl ((hs147.mono (((hl150.trans hl155).trans hl205).trans hl210)).some_ hl217) rfl) ?_
        obtain ⟨A219, c220, hx221⟩ := (hs147.mono (((hl150.trans hl155).trans hl205).trans hl210)).recT_at i212
        refine hu 5 rfl (bk_ (Gh.refl _) h0218 (.cons _ (.cons _ .slnil))) (q_ld (c := 0) (v := .string (gt z134 i212).key) (hx221 hl217).2 rfl Tryz.isAgg9 rfl rfl) ?_
        refine hu 7 rfl (bk_ (Gh.refl _) h0218 (.cons _ (.cons _ .slnil))) (q_move (v := .slice A140 z134.length c141) rfl (by kernel_rfl)) ?_
        refine hu 8 rfl (bk_ (Gh.refl _) h0218 (.cons _ (.cons _ .slnil))) (q_move (v := .int .i64 ((i212 : Nat) : Int)) rfl (by kernel_rfl)) ?_
        refine hu 9 rfl (bk_ (Gh.refl _) h0218 (.cons _ (.cons _ .slnil))) (q_ixn (i := i212) Tryz.underlying23 Tryz.sizeOf70 rfl rfl rfl hl217 ((hs147.mono (((hl150.trans hl155).trans hl205).trans hl210)).some_ hl217)) ?_
        refine hu 10 rfl (bk_ (Gh.refl _) h0218 (.cons _ (.cons _ .slnil))) (q_field_addr (i212 * 2 + 1) fld_70_1 rfl rfl ((hs147.mono (((hl150.trans hl155).trans hl205).trans hl210)).some_ hl217) rfl) ?_
        refine hu 11 rfl (bk_ (Gh.refl _) h0218 (.cons _ (.cons _ .slnil))) (q_ld (c := 1) (v := .slice A219 ((gt z134 i212).vers).length c220) (hx221 hl217).2 rfl Tryz.isAgg67 rfl rfl) ?_
        refine WH.lone (i := 6) (by kernel_rfl) rfl ?_
        obtain ⟨z222, hz223, h⟩ := bnd h
        refine e_call (is := []) rfl rfl (call_run Tryz.call38 rfl rfl (by kernel_rfl)) rfl (fun w hp => t_firthref14_Get (hs207.mono hl210) hc208 ((gt z134 i212).key) (hx221 hl217).1.1 hp hz223) ?_
        rintro Γ224 U226 v227 hl225 ⟨A228, c229, rfl, rfl, hc231, hr230, _⟩
        change WR _ _ _ (CC F Γ224 [row126, row124]) _ _ (upd _ 146 (.slice A228 z222.length c229))
        refine WR.nil ?_
        refine WH.next (bk_ hl225 h0218 (.cons _ (.cons _ .slnil))) ?_
        refine WH.lone (i := 12) (by kernel_rfl) rfl ?_
        obtain ⟨z232, hz233, h⟩ := bnd h
        refine vc rfl rfl rfl (q_call (call_run Tryz.call39 rfl rfl (by kernel_rfl)) (fun w hw => t_firthref05_Same (Γ := Gh.all w) (hr230.mono hw.sat.le_all) hc231 (((hx221 hl217).1.2.2.mono hl225).mono hw.sat.le_all) (hx221 hl217).1.2.1 (Sat.all w) hz233)) ?_
        refine WR.nil ?_
        refine WH.next (bk_ hl225 h0218 (.cons _ (.cons _ .slnil))) ?_
        refine hu 13 rfl (bk_ hl225 h0218 (.cons _ (.cons _ .slnil))) (q_not rfl rfl) ?_
        refine WH.done (by kernel_rfl) ?_
        change WC _ _ _ _ _ _
        refine WC.cif h (by kernel_rfl) (fun hb234 h => ?_) (fun hb234 h => ?_)
        ·
         refine WC.rs ?_
         refine as_ (v := .bool false) ?_
         refine WR.done ?_
         refine WC.ret ?_
         intro w hw
         obtain rfl := Option.some.inj h
         subst hF
         exact ⟨by kernel_rfl, hw.fr⟩
        ·
         refine WC.skip ?_
         change WC _ _ _ _ _ _
         refine WC.region ?_
         refine mv (v := .int .i64 ((i212 : Nat) : Int)) ?_
         refine vb (q_add_r (r := ((i212 + 1 : Nat) : Int)) rfl rfl rfl (ctr_len hl217 (hs147.mono (((hl150.trans hl155).trans hl205).trans hl210)).le)) ?_
         refine as_ (v := .int .i64 ((i212 + 1 : Nat) : Int)) ?_
         refine WR.nil ?_
         intro w hw
         exact ⟨hl217, (), h, Γ224, (sl_ (by kernel_rfl)), hw, (hl210.trans hl225), trivial⟩
       ·
        have h := hge215 (ige hb216)
        refine WC.exit ?_
        change WC _ _ _ _ _ _
        refine WC.rs ?_
        refine as_ (v := .bool true) ?_
        refine WR.done ?_
        refine WC.ret ?_
        intro w hw
        obtain rfl := Option.some.inj h
        subst hF
        exact ⟨by kernel_rfl, hw.fr⟩
    ·
     have h := bf hb117 h
     refine WR.unsat (c0 := true) (g := (!z106.2)) rfl rfl rfl hb117 rfl ?_
     refine WR.unsat (c0 := true) (g := (!z106.2)) rfl rfl rfl hb117 rfl ?_
     refine vb (q_pick_t (v := .bool true) rfl rfl (not_f hb117) (by kernel_rfl)) ?_
     refine mv (v := .bool true) ?_
     refine WR.unsat (c0 := true) (g := true) rfl rfl rfl (nott rfl) rfl ?_
     refine WR.unsat (c0 := true) (g := true) rfl rfl rfl (nott rfl) rfl ?_
     refine WR.unsat (c0 := true) (g := true) rfl rfl rfl (nott rfl) rfl ?_
     refine vb (q_pickt (v := .bool true) rfl rfl rfl) ?_
     refine WR.done ?_
     refine WC.ctk (b := true) (by kernel_rfl) rfl ?_
     refine WC.rs ?_
     refine as_ (v := .bool false) ?_
     refine WR.done ?_
     refine WC.ret ?_
     intro w hw
     obtain rfl := Option.some.inj h
     subst hF
     exact ⟨by kernel_rfl, hw.fr⟩
   ·
    have h := bf hb67 h
    refine WR.unsat (c0 := true) (g := ((((Option.isNone z39.1) || (Option.isNone z49.1)) || (z39.2 != 0)) || (z49.2 != 0))) rfl rfl rfl hb67 rfl ?_
    refine WR.unsat (c0 := true) (g := ((((Option.isNone z39.1) || (Option.isNone z49.1)) || (z39.2 != 0)) || (z49.2 != 0))) rfl rfl rfl hb67 rfl ?_
    refine WR.unsat (c0 := true) (g := ((((Option.isNone z39.1) || (Option.isNone z49.1)) || (z39.2 != 0)) || (z49.2 != 0))) rfl rfl rfl hb67 rfl ?_
    refine WR.unsat (c0 := true) (g := ((((Option.isNone z39.1) || (Option.isNone z49.1)) || (z39.2 != 0)) || (z49.2 != 0))) rfl rfl rfl hb67 rfl ?_
    refine WR.unsat (c0 := true) (g := ((((Option.isNone z39.1) || (Option.isNone z49.1)) || (z39.2 != 0)) || (z49.2 != 0))) rfl rfl rfl hb67 rfl ?_
    refine vb (q_pick_t (v := .bool true) rfl rfl (not_f hb67) (by kernel_rfl)) ?_
    refine mv (v := .bool true) ?_
    refine WR.unsat (c0 := true) (g := true) rfl rfl rfl (nott rfl) rfl ?_
    refine WR.unsat (c0 := true) (g := true) rfl rfl rfl (nott rfl) rfl ?_
    refine WR.unsat (c0 := true) (g := true) rfl rfl rfl (nott rfl) rfl ?_
    refine WR.unsat (c0 := true) (g := true) rfl rfl rfl (nott rfl) rfl ?_
    refine WR.unsat (c0 := true) (g := true) rfl rfl rfl (nott rfl) rfl ?_
    refine vb (q_pickt (v := .bool true) rfl rfl rfl) ?_
    refine mv (v := .bool true) ?_
    refine WR.unsat (c0 := true) (g := true) rfl rfl rfl (nott rfl) rfl ?_
    refine WR.unsat (c0 := true) (g := true) rfl rfl rfl (nott rfl) rfl ?_
    refine WR.unsat (c0 := true) (g := true) rfl rfl rfl (nott rfl) rfl ?_
    refine vb (q_pickt (v := .bool true) rfl rfl rfl) ?_
    refine WR.done ?_
    refine WC.ctk (b := true) (by kernel_rfl) rfl ?_
    refine WC.rs ?_
    refine as_ (v := .bool false) ?_
    refine WR.done ?_
    refine WC.ret ?_
    intro w hw
    obtain rfl := Option.some.inj h
    subst hF
    exact ⟨by kernel_rfl, hw.fr⟩
end Fw
end Go.Proofs.YtiakfgdgafljnaaGreat
