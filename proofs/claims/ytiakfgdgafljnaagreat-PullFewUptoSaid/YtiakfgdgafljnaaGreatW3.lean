/- Walks through the functions that the law reaches (printed by a program). No condition. -/
import Derived.Test.YtiakfgdgafljnaaGreatW2
namespace Go.Proofs.YtiakfgdgafljnaaGreat
namespace Fw
set_option linter.unusedVariables false
set_option linter.unusedSimpArgs false
set_option linter.unusedSectionVars false
set_option maxRecDepth 100000
set_option maxHeartbeats 400000
open Go.RowKit
theorem t_firthref03_Same {Γ : Gh} {w0 : World} {Aa : Option Addr} {ca : Nat} {a : List Span} (ha : Sl spanT Γ Aa a) (hac : a.length ≤ ca) {Ab : Option Addr} {cb : Nat} {b : List Span} (hb : Sl spanT Γ Ab b) (hbc : b.length ≤ cb) (hs : Sat Γ w0) {r : Bool} (h : m_firthref03_Same a b = some r) : Calls Tryz.prog 88 #[.slice Aa a.length ca, .slice Ab b.length cb] w0 (fun e w' => e = .returned (.bool r) ∧ Fr no w0 w') := by
 refine calls_of (N := 26) (rs := [4]) (args := [.slice Aa a.length ca, .slice Ab b.length cb]) Tryz.func88 rfl Tryz.ntmps88 Tryz.results88 rfl ?_
 obtain ⟨F, hF⟩ : ∃ F : Fm, F = ⟨no, w0, Γ⟩ := ⟨_, rfl⟩
 refine WC.here (C := CC F Γ []) ?_ (hF ▸ Cur.start0 hs)
 refine WC.rs ?_
 refine as_ (v := .bool false) ?_
 refine WR.done ?_
 refine WC.seq ?_
 refine WC.rs ?_
 refine mv (v := .slice Aa a.length ca) ?_
 refine vb (q_len_slice rfl Tryz.underlying113 rfl) ?_
 refine mv (v := .slice Ab b.length cb) ?_
 refine vb (q_len_slice rfl Tryz.underlying113 rfl) ?_
 refine vb (q_neq rfl rfl rfl) ?_
 refine WR.done ?_
 refine WC.cif h (by kernel_rfl) (fun hb1 h => ?_) (fun hb1 h => ?_)
 ·
  refine WC.rs ?_
  refine as_ (v := .bool false) ?_
  refine WR.done ?_
  refine WC.ret ?_
  intro w hw
  obtain rfl := Option.some.inj h
  subst hF
  exact ⟨by kernel_rfl, hw.fr⟩
 ·
  refine WC.skip ?_
  change WC _ _ _ _ _ _
  refine WC.seq ?_
  refine WC.rs ?_
  refine as_ (v := .int .i64 0) ?_
  refine WR.done ?_
  refine WC.block ?_
  refine WC.forI h (fun (i3 : Nat) (s : Unit) σ w => match s with | () => slots σ [(0, .slice Aa a.length ca), (1, .slice Ab b.length cb), (5, .int .i64 ((i3 : Nat) : Int))] ∧ CC F Γ [] w ∧ True) ?_ ?_
  ·
   intro w hw
   exact ⟨(sl_ (by kernel_rfl)), hw, trivial⟩
  rintro f2 i3 ⟨⟩ σ w hi4 hlt5 hge6 ⟨hsl, hw, -⟩
  refine Wpt.slots hsl ?_
  refine WC.here (C := CC F Γ []) ?_ hw
  clear hw hsl
  refine WC.seq ?_
  refine WC.rs ?_
  refine mv (v := .int .i64 ((i3 : Nat) : Int)) ?_
  refine mv (v := .slice Aa a.length ca) ?_
  refine vb (q_len_slice rfl Tryz.underlying113 rfl) ?_
  refine vb (q_lss rfl rfl rfl) ?_
  refine WR.done ?_
  refine WC.cond (b := (decide (((i3 : Nat) : Int) < ((a.length : Nat) : Int)))) (by kernel_rfl) (fun hb7 => ?_) (fun hb7 => ?_)
  ·
   have hl8 := ilt hb7
   have h := hlt5 hl8
   refine WC.skip ?_
   change WC _ _ _ _ _ _
   refine WC.seq ?_
   refine WC.block ?_
   refine WC.seq ?_
   refine WC.dr (by kernel_rfl) (by kernel_rfl) (fun w hw => hw.drawn _) ?_
   refine wa rfl rfl rfl (q_move (v := .slice Aa a.length ca) rfl (by kernel_rfl)) ?_
   refine wa rfl rfl rfl (q_move (v := .int .i64 ((i3 : Nat) : Int)) rfl (by kernel_rfl)) ?_
   refine wa rfl rfl rfl (q_ixn (i := i3) Tryz.underlying113 Tryz.sizeOf117 rfl rfl rfl hl8 (ha.some_ hl8)) ?_
   refine wa rfl rfl rfl (q_lda (c := 0) (vs := [.int .i64 (gt a i3).s, .int .i64 (gt a i3).f, .int .i64 (gt a i3).t]) (ha.spanT_at hl8).2 rfl Tryz.isAgg117 Tryz.sizeOf117 rfl rfl rfl) ?_
   refine wa rfl rfl rfl (q_move (v := .slice Ab b.length cb) rfl (by kernel_rfl)) ?_
   refine wa rfl rfl rfl (q_move (v := .int .i64 ((i3 : Nat) : Int)) rfl (by kernel_rfl)) ?_
   obtain ⟨hk9, h⟩ := chk_some h
   refine wa rfl rfl rfl (q_ixn (i := i3) Tryz.underlying113 Tryz.sizeOf117 rfl rfl rfl (of_decide_eq_true hk9) (hb.some_ (of_decide_eq_true hk9))) ?_
   refine wa rfl rfl rfl (q_lda (c := 0) (vs := [.int .i64 (gt b i3).s, .int .i64 (gt b i3).f, .int .i64 (gt b i3).t]) (hb.spanT_at (of_decide_eq_true hk9)).2 rfl Tryz.isAgg117 Tryz.sizeOf117 rfl rfl rfl) ?_
   refine wa rfl rfl rfl (q_neq_Span (a := (gt a i3)) (b := (gt b i3)) rfl rfl rfl) ?_
   refine WQ.nil ?_
   change WC _ _ _ _ _ _
   refine WC.cif h (by kernel_rfl) (fun hb10 h => ?_) (fun hb10 h => ?_)
   ·
    refine WC.rs ?_
    refine as_ (v := .bool false) ?_
    refine WR.done ?_
    refine WC.ret ?_
    intro w hw
    obtain rfl := Option.some.inj h
    subst hF
    exact ⟨by kernel_rfl, hw.fr⟩
   ·
    refine WC.skip ?_
    change WC _ _ _ _ _ _
    refine WC.region ?_
    refine mv (v := .int .i64 ((i3 : Nat) : Int)) ?_
    refine vb (q_add_r (r := ((i3 + 1 : Nat) : Int)) rfl rfl rfl (ctr_len hl8 ha.le)) ?_
    refine as_ (v := .int .i64 ((i3 + 1 : Nat) : Int)) ?_
    refine WR.nil ?_
    intro w hw
    exact ⟨hl8, (), h, (sl_ (by kernel_rfl)), hw, trivial⟩
  ·
   have h := hge6 (ige hb7)
   refine WC.exit ?_
   change WC _ _ _ _ _ _
   refine WC.rs ?_
   refine as_ (v := .bool true) ?_
   refine WR.done ?_
   refine WC.ret ?_
   intro w hw
   obtain rfl := Option.some.inj h
   subst hF
   exact ⟨by kernel_rfl, hw.fr⟩
theorem t_firthref05_SameOne {Γ : Gh} {w0 : World} {Aa2 : Option Addr} {ca2 : Nat} (a : Ver) (ha : Ver.fits Γ Aa2 ca2 a) {Ab2 : Option Addr} {cb2 : Nat} (b : Ver) (hb : Ver.fits Γ Ab2 cb2 b) (hs : Sat Γ w0) {r : Bool} (h : m_firthref05_SameOne a b = some r) : Calls Tryz.prog 72 #[.agg #[.int .i64 a.dot.s, .int .i64 a.dot.n, .slice Aa2 a.past.length ca2, .bool a.gone, .string a.val], .agg #[.int .i64 b.dot.s, .int .i64 b.dot.n, .slice Ab2 b.past.length cb2, .bool b.gone, .string b.val]] w0 (fun e w' => e = .returned (.bool r) ∧ Fr no w0 w') := by
 refine calls_of (N := 31) (rs := [4]) (args := [.agg #[.int .i64 a.dot.s, .int .i64 a.dot.n, .slice Aa2 a.past.length ca2, .bool a.gone, .string a.val], .agg #[.int .i64 b.dot.s, .int .i64 b.dot.n, .slice Ab2 b.past.length cb2, .bool b.gone, .string b.val]]) Tryz.func72 rfl Tryz.ntmps72 Tryz.results72 rfl ?_
 obtain ⟨F, hF⟩ : ∃ F : Fm, F = ⟨no, w0, Γ⟩ := ⟨_, rfl⟩
 refine WC.here (C := CC F Γ []) ?_ (hF ▸ Cur.start0 hs)
 refine WC.rs ?_
 refine e_box (v := .agg #[.int .i64 a.dot.s, .int .i64 a.dot.n, .slice Aa2 a.past.length ca2, .bool a.gone, .string a.val]) rfl rfl rfl rfl (by kernel_rfl) ?_
 intro g1
 refine e_box (v := .agg #[.int .i64 b.dot.s, .int .i64 b.dot.n, .slice Ab2 b.past.length cb2, .bool b.gone, .string b.val]) rfl rfl rfl rfl (by kernel_rfl) ?_
 intro g2
 refine as_ (v := .bool false) ?_
 refine WR.done ?_
 refine WC.rs ?_
 refine vb (q_fl 0 fld_115_0 rfl rfl rfl) ?_
 refine vb (q_ldla (i := 1) (vs := [.int .i64 a.dot.s, .int .i64 a.dot.n]) rfl rfl Tryz.isAgg112 Tryz.sizeOf112 rfl rfl) ?_
 refine vb (q_fl 0 fld_115_0 rfl rfl rfl) ?_
 refine vb (q_ldla (i := 0) (vs := [.int .i64 b.dot.s, .int .i64 b.dot.n]) rfl rfl Tryz.isAgg112 Tryz.sizeOf112 rfl rfl) ?_
 refine vb (q_eql_Dot (a := a.dot) (b := b.dot) rfl rfl rfl) ?_
 refine mv (v := .bool (a.dot == b.dot)) ?_
 refine vg1 rfl rfl rfl rfl rfl (fun hg3 => QV.qo (q_fl 3 fld_115_2 rfl rfl rfl)) ?_
 refine vg1 rfl rfl rfl rfl rfl (fun hg4 => QV.qo (q_ldl (i := 1) (v := .bool a.gone) rfl rfl Tryz.isAgg4 (gu hg4 rfl) rfl)) ?_
 refine vg1 rfl rfl rfl rfl rfl (fun hg5 => QV.qo (q_fl 3 fld_115_2 rfl rfl rfl)) ?_
 refine vg1 rfl rfl rfl rfl rfl (fun hg6 => QV.qo (q_ldl (i := 0) (v := .bool b.gone) rfl rfl Tryz.isAgg4 (gu hg6 rfl) rfl)) ?_
 refine vg1 rfl rfl rfl rfl rfl (fun hg7 => QV.qo (q_beql Tryz.underlying4 rfl (gu hg7 rfl) (gu hg7 rfl))) ?_
 refine vb (q_pick rfl rfl (pk_and' (g := (a.dot == b.dot)) (y := (a.gone == b.gone)))) ?_
 refine mv (v := .bool ((a.dot == b.dot) && (a.gone == b.gone))) ?_
 refine vg1 rfl rfl rfl rfl rfl (fun hg8 => QV.qo (q_fl 4 fld_115_3 rfl rfl rfl)) ?_
 refine vg1 rfl rfl rfl rfl rfl (fun hg9 => QV.qo (q_ldl (i := 1) (v := .string a.val) rfl rfl Tryz.isAgg9 (gu hg9 rfl) rfl)) ?_
 refine vg1 rfl rfl rfl rfl rfl (fun hg10 => QV.qo (q_fl 4 fld_115_3 rfl rfl rfl)) ?_
 refine vg1 rfl rfl rfl rfl rfl (fun hg11 => QV.qo (q_ldl (i := 0) (v := .string b.val) rfl rfl Tryz.isAgg9 (gu hg11 rfl) rfl)) ?_
 refine vg1 rfl rfl rfl rfl rfl (fun hg12 => QV.qo (q_seql rfl (gu hg12 rfl) (gu hg12 rfl))) ?_
 refine vb (q_pick rfl rfl (pk_and' (g := ((a.dot == b.dot) && (a.gone == b.gone))) (y := (a.val == b.val)))) ?_
 refine mv (v := .bool (((a.dot == b.dot) && (a.gone == b.gone)) && (a.val == b.val))) ?_
 refine vg1 rfl rfl rfl rfl rfl (fun hg13 => QV.qo (q_fl 2 fld_115_1 rfl rfl rfl)) ?_
 refine vg1 rfl rfl rfl rfl rfl (fun hg14 => QV.qo (q_ldl (i := 1) (v := .slice Aa2 a.past.length ca2) rfl rfl Tryz.isAgg113 (gu hg14 rfl) rfl)) ?_
 refine vg1 rfl rfl rfl rfl rfl (fun hg15 => QV.qo (q_fl 2 fld_115_1 rfl rfl rfl)) ?_
 refine vg1 rfl rfl rfl rfl rfl (fun hg16 => QV.qo (q_ldl (i := 0) (v := .slice Ab2 b.past.length cb2) rfl rfl Tryz.isAgg113 (gu hg16 rfl) rfl)) ?_
 obtain ⟨z18, hz19, h⟩ := bnd h
 refine vg1 rfl rfl rfl rfl rfl (fun hg17 => (q_call (call_run Tryz.call88 rfl rfl (args2 (gu hg17 rfl) (gu hg17 rfl))) (fun w hw => t_firthref03_Same (Γ := Gh.all w) (ha.2.2.1.2.mono hw.sat.le_all) ha.2.2.1.1 (hb.2.2.1.2.mono hw.sat.le_all) hb.2.2.1.1 (Sat.all w) (gc_of hz19 hg17)))) ?_
 refine vb (q_pick rfl rfl (pk_and' (g := (((a.dot == b.dot) && (a.gone == b.gone)) && (a.val == b.val))) (y := z18))) ?_
 refine as_ (v := .bool ((((a.dot == b.dot) && (a.gone == b.gone)) && (a.val == b.val)) && z18)) ?_
 refine WR.done ?_
 refine WC.ret ?_
 intro w hw
 obtain rfl := Option.some.inj h
 subst hF
 exact ⟨by kernel_rfl, hw.fr⟩
theorem t_firthref05_Same {Γ : Gh} {w0 : World} {Aa : Option Addr} {ca : Nat} {a : List Ver} (ha : Sl verT Γ Aa a) (hac : a.length ≤ ca) {Ab : Option Addr} {cb : Nat} {b : List Ver} (hb : Sl verT Γ Ab b) (hbc : b.length ≤ cb) (hs : Sat Γ w0) {r : Bool} (h : m_firthref05_Same a b = some r) : Calls Tryz.prog 39 #[.slice Aa a.length ca, .slice Ab b.length cb] w0 (fun e w' => e = .returned (.bool r) ∧ Fr no w0 w') := by
 refine calls_of (N := 27) (rs := [4]) (args := [.slice Aa a.length ca, .slice Ab b.length cb]) Tryz.func39 rfl Tryz.ntmps39 Tryz.results39 rfl ?_
 obtain ⟨F, hF⟩ : ∃ F : Fm, F = ⟨no, w0, Γ⟩ := ⟨_, rfl⟩
 refine WC.here (C := CC F Γ []) ?_ (hF ▸ Cur.start0 hs)
 refine WC.rs ?_
 refine as_ (v := .bool false) ?_
 refine WR.done ?_
 refine WC.seq ?_
 refine WC.rs ?_
 refine mv (v := .slice Aa a.length ca) ?_
 refine vb (q_len_slice rfl Tryz.underlying67 rfl) ?_
 refine mv (v := .slice Ab b.length cb) ?_
 refine vb (q_len_slice rfl Tryz.underlying67 rfl) ?_
 refine vb (q_neq rfl rfl rfl) ?_
 refine WR.done ?_
 refine WC.cif h (by kernel_rfl) (fun hb1 h => ?_) (fun hb1 h => ?_)
 ·
  refine WC.rs ?_
  refine as_ (v := .bool false) ?_
  refine WR.done ?_
  refine WC.ret ?_
  intro w hw
  obtain rfl := Option.some.inj h
  subst hF
  exact ⟨by kernel_rfl, hw.fr⟩
 ·
  refine WC.skip ?_
  change WC _ _ _ _ _ _
  refine WC.seq ?_
  refine WC.rs ?_
  refine as_ (v := .int .i64 0) ?_
  refine WR.done ?_
  refine WC.block ?_
  refine WC.forI h (fun (i3 : Nat) (s : Unit) σ w => match s with | () => slots σ [(0, .slice Aa a.length ca), (1, .slice Ab b.length cb), (5, .int .i64 ((i3 : Nat) : Int))] ∧ CC F Γ [] w ∧ True) ?_ ?_
  ·
   intro w hw
   exact ⟨(sl_ (by kernel_rfl)), hw, trivial⟩
  rintro f2 i3 ⟨⟩ σ w hi4 hlt5 hge6 ⟨hsl, hw, -⟩
  refine Wpt.slots hsl ?_
  refine WC.here (C := CC F Γ []) ?_ hw
  clear hw hsl
  refine WC.seq ?_
  refine WC.rs ?_
  refine mv (v := .int .i64 ((i3 : Nat) : Int)) ?_
  refine mv (v := .slice Aa a.length ca) ?_
  refine vb (q_len_slice rfl Tryz.underlying67 rfl) ?_
  refine vb (q_lss rfl rfl rfl) ?_
  refine WR.done ?_
  refine WC.cond (b := (decide (((i3 : Nat) : Int) < ((a.length : Nat) : Int)))) (by kernel_rfl) (fun hb7 => ?_) (fun hb7 => ?_)
  ·
   have hl8 := ilt hb7
   have h := hlt5 hl8
   refine WC.skip ?_
   change WC _ _ _ _ _ _
   refine WC.seq ?_
   refine WC.block ?_
   refine WC.seq ?_
   refine WC.dr (by kernel_rfl) (by kernel_rfl) (fun w hw => hw.drawn _) ?_
   refine wa rfl rfl rfl (q_move (v := .slice Aa a.length ca) rfl (by kernel_rfl)) ?_
   refine wa rfl rfl rfl (q_move (v := .int .i64 ((i3 : Nat) : Int)) rfl (by kernel_rfl)) ?_
   refine wa rfl rfl rfl (q_ixn (i := i3) Tryz.underlying67 Tryz.sizeOf115 rfl rfl rfl hl8 (ha.some_ hl8)) ?_
   obtain ⟨A9, c10, hx11⟩ := ha.verT_at i3
   refine wa rfl rfl rfl (q_lda (c := 0) (vs := [.int .i64 (gt a i3).dot.s, .int .i64 (gt a i3).dot.n, .slice A9 ((gt a i3).past).length c10, .bool (gt a i3).gone, .string (gt a i3).val]) (hx11 hl8).2 rfl Tryz.isAgg115 Tryz.sizeOf115 rfl rfl rfl) ?_
   refine wa rfl rfl rfl (q_move (v := .slice Ab b.length cb) rfl (by kernel_rfl)) ?_
   refine wa rfl rfl rfl (q_move (v := .int .i64 ((i3 : Nat) : Int)) rfl (by kernel_rfl)) ?_
   obtain ⟨hk12, h⟩ := chk_some h
   refine wa rfl rfl rfl (q_ixn (i := i3) Tryz.underlying67 Tryz.sizeOf115 rfl rfl rfl (of_decide_eq_true hk12) (hb.some_ (of_decide_eq_true hk12))) ?_
   obtain ⟨A13, c14, hx15⟩ := hb.verT_at i3
   refine wa rfl rfl rfl (q_lda (c := 0) (vs := [.int .i64 (gt b i3).dot.s, .int .i64 (gt b i3).dot.n, .slice A13 ((gt b i3).past).length c14, .bool (gt b i3).gone, .string (gt b i3).val]) (hx15 (of_decide_eq_true hk12)).2 rfl Tryz.isAgg115 Tryz.sizeOf115 rfl rfl rfl) ?_
   obtain ⟨z16, hz17, h⟩ := bnd h
   refine wc rfl rfl rfl (q_call (call_run Tryz.call72 rfl rfl (by kernel_rfl)) (fun w hw => t_firthref05_SameOne (Γ := Gh.all w) (gt a i3) (Ver.fits_mono (hx11 hl8).1 hw.sat.le_all) (gt b i3) (Ver.fits_mono (hx15 (of_decide_eq_true hk12)).1 hw.sat.le_all) (Sat.all w) hz17)) ?_
   refine wa rfl rfl rfl (q_not rfl rfl) ?_
   refine WQ.nil ?_
   change WC _ _ _ _ _ _
   refine WC.cif h (by kernel_rfl) (fun hb18 h => ?_) (fun hb18 h => ?_)
   ·
    refine WC.rs ?_
    refine as_ (v := .bool false) ?_
    refine WR.done ?_
    refine WC.ret ?_
    intro w hw
    obtain rfl := Option.some.inj h
    subst hF
    exact ⟨by kernel_rfl, hw.fr⟩
   ·
    refine WC.skip ?_
    change WC _ _ _ _ _ _
    refine WC.region ?_
    refine mv (v := .int .i64 ((i3 : Nat) : Int)) ?_
    refine vb (q_add_r (r := ((i3 + 1 : Nat) : Int)) rfl rfl rfl (ctr_len hl8 ha.le)) ?_
    refine as_ (v := .int .i64 ((i3 + 1 : Nat) : Int)) ?_
    refine WR.nil ?_
    intro w hw
    exact ⟨hl8, (), h, (sl_ (by kernel_rfl)), hw, trivial⟩
  ·
   have h := hge6 (ige hb7)
   refine WC.exit ?_
   change WC _ _ _ _ _ _
   refine WC.rs ?_
   refine as_ (v := .bool true) ?_
   refine WR.done ?_
   refine WC.ret ?_
   intro w hw
   obtain rfl := Option.some.inj h
   subst hF
   exact ⟨by kernel_rfl, hw.fr⟩
theorem t_firthref06_SameRecs {Γ : Gh} {w0 : World} {Aa : Option Addr} {ca : Nat} {a : List Rec} (ha : Sl recT Γ Aa a) (hac : a.length ≤ ca) {Ab : Option Addr} {cb : Nat} {b : List Rec} (hb : Sl recT Γ Ab b) (hbc : b.length ≤ cb) (hs : Sat Γ w0) {r : Bool} (h : m_firthref06_SameRecs a b = some r) : Calls Tryz.prog 16 #[.slice Aa a.length ca, .slice Ab b.length cb] w0 (fun e w' => e = .returned (.bool r) ∧ Fr no w0 w') := by
 refine calls_of (N := 42) (rs := [4]) (args := [.slice Aa a.length ca, .slice Ab b.length cb]) Tryz.func16 rfl Tryz.ntmps16 Tryz.results16 rfl ?_
 obtain ⟨F, hF⟩ : ∃ F : Fm, F = ⟨no, w0, Γ⟩ := ⟨_, rfl⟩
 refine WC.here (C := CC F Γ []) ?_ (hF ▸ Cur.start0 hs)
 refine WC.rs ?_
 refine as_ (v := .bool false) ?_
 refine WR.done ?_
 refine WC.seq ?_
 refine WC.rs ?_
 refine mv (v := .slice Aa a.length ca) ?_
 refine vb (q_len_slice rfl Tryz.underlying23 rfl) ?_
 refine mv (v := .slice Ab b.length cb) ?_
 refine vb (q_len_slice rfl Tryz.underlying23 rfl) ?_
 refine vb (q_neq rfl rfl rfl) ?_
 refine WR.done ?_
 refine WC.cif h (by kernel_rfl) (fun hb1 h => ?_) (fun hb1 h => ?_)
 ·
  refine WC.rs ?_
  refine as_ (v := .bool false) ?_
  refine WR.done ?_
  refine WC.ret ?_
  intro w hw
  obtain rfl := Option.some.inj h
  subst hF
  exact ⟨by kernel_rfl, hw.fr⟩
 ·
  refine WC.skip ?_
  change WC _ _ _ _ _ _
  refine WC.seq ?_
  refine WC.rs ?_
  refine as_ (v := .int .i64 0) ?_
  refine WR.done ?_
  refine WC.block ?_
  refine WC.forI h (fun (i3 : Nat) (s : Unit) σ w => match s with | () => slots σ [(0, .slice Aa a.length ca), (1, .slice Ab b.length cb), (5, .int .i64 ((i3 : Nat) : Int))] ∧ CC F Γ [] w ∧ True) ?_ ?_
  ·
   intro w hw
   exact ⟨(sl_ (by kernel_rfl)), hw, trivial⟩
  rintro f2 i3 ⟨⟩ σ w hi4 hlt5 hge6 ⟨hsl, hw, -⟩
  refine Wpt.slots hsl ?_
  refine WC.here (C := CC F Γ []) ?_ hw
  clear hw hsl
  refine WC.seq ?_
  refine WC.rs ?_
  refine mv (v := .int .i64 ((i3 : Nat) : Int)) ?_
  refine mv (v := .slice Aa a.length ca) ?_
  refine vb (q_len_slice rfl Tryz.underlying23 rfl) ?_
  refine vb (q_lss rfl rfl rfl) ?_
  refine WR.done ?_
  refine WC.cond (b := (decide (((i3 : Nat) : Int) < ((a.length : Nat) : Int)))) (by kernel_rfl) (fun hb7 => ?_) (fun hb7 => ?_)
  ·
   have hl8 := ilt hb7
   have h := hlt5 hl8
   refine WC.skip ?_
   change WC _ _ _ _ _ _
   refine WC.seq ?_
   refine WC.block ?_
   refine WC.seq ?_
   refine WC.dr (by kernel_rfl) (by kernel_rfl) (fun w hw => hw.drawn _) ?_
   refine wa rfl rfl rfl (q_move (v := .slice Aa a.length ca) rfl (by kernel_rfl)) ?_
   refine wa rfl rfl rfl (q_move (v := .int .i64 ((i3 : Nat) : Int)) rfl (by kernel_rfl)) ?_
   refine wa rfl rfl rfl (q_ixn (i := i3) Tryz.underlying23 Tryz.sizeOf70 rfl rfl rfl hl8 (ha.some_ hl8)) ?_
   refine wa rfl rfl rfl (q_field_addr (i3 * 2) fld_70_0 rfl rfl (ha.some_ hl8) rfl) ?_
   obtain ⟨A9, c10, hx11⟩ := ha.recT_at i3
   refine wa rfl rfl rfl (q_ld (c := 0) (v := .string (gt a i3).key) (hx11 hl8).2 rfl Tryz.isAgg9 rfl rfl) ?_
   refine wa rfl rfl rfl (q_move (v := .slice Ab b.length cb) rfl (by kernel_rfl)) ?_
   refine wa rfl rfl rfl (q_move (v := .int .i64 ((i3 : Nat) : Int)) rfl (by kernel_rfl)) ?_
   obtain ⟨hk12, h⟩ := chk_some h
   refine wa rfl rfl rfl (q_ixn (i := i3) Tryz.underlying23 Tryz.sizeOf70 rfl rfl rfl (of_decide_eq_true hk12) (hb.some_ (of_decide_eq_true hk12))) ?_
   refine wa rfl rfl rfl (q_field_addr (i3 * 2) fld_70_0 rfl rfl (hb.some_ (of_decide_eq_true hk12)) rfl) ?_
   obtain ⟨A13, c14, hx15⟩ := hb.recT_at i3
   refine wa rfl rfl rfl (q_ld (c := 0) (v := .string (gt b i3).key) (hx15 (of_decide_eq_true hk12)).2 rfl Tryz.isAgg9 rfl rfl) ?_
   refine wa rfl rfl rfl (q_sneq rfl rfl rfl) ?_
   refine wa rfl rfl rfl (q_move (v := .bool ((gt a i3).key != (gt b i3).key)) rfl (by kernel_rfl)) ?_
   refine wg0 rfl rfl rfl rfl rfl (fun hg16 => QV.qo (q_move (v := .slice Aa a.length ca) rfl (by kernel_rfl))) ?_
   refine wg0 rfl rfl rfl rfl rfl (fun hg17 => QV.qo (q_move (v := .int .i64 ((i3 : Nat) : Int)) rfl (by kernel_rfl))) ?_
   refine wg0 rfl rfl rfl rfl rfl (fun hg18 => QV.qo (q_ixn (i := i3) Tryz.underlying23 Tryz.sizeOf70 rfl (gu hg18 rfl) (gu hg18 rfl) hl8 (ha.some_ hl8))) ?_
   refine wg0 rfl rfl rfl rfl rfl (fun hg19 => QV.qo (q_field_addr (i3 * 2 + 1) fld_70_1 rfl (gu hg19 rfl) (ha.some_ hl8) rfl)) ?_
   refine wg0 rfl rfl rfl rfl rfl (fun hg20 => QV.qo (q_ld (c := 1) (v := .slice A9 ((gt a i3).vers).length c10) (hx11 hl8).2 rfl Tryz.isAgg67 (gu hg20 rfl) rfl)) ?_
   refine wg0 rfl rfl rfl rfl rfl (fun hg21 => QV.qo (q_move (v := .slice Ab b.length cb) rfl (by kernel_rfl))) ?_
   refine wg0 rfl rfl rfl rfl rfl (fun hg22 => QV.qo (q_move (v := .int .i64 ((i3 : Nat) : Int)) rfl (by kernel_rfl))) ?_
   refine wg0 rfl rfl rfl rfl rfl (fun hg23 => QV.qo (q_ixn (i := i3) Tryz.underlying23 Tryz.sizeOf70 rfl (gu hg23 rfl) (gu hg23 rfl) (of_decide_eq_true hk12) (hb.some_ (of_decide_eq_true hk12)))) ?_
   refine wg0 rfl rfl rfl rfl rfl (fun hg24 => QV.qo (q_field_addr (i3 * 2 + 1) fld_70_1 rfl (gu hg24 rfl) (hb.some_ (of_decide_eq_true hk12)) rfl)) ?_
   refine wg0 rfl rfl rfl rfl rfl (fun hg25 => QV.qo (q_ld (c := 1) (v := .slice A13 ((gt b i3).vers).length c14) (hx15 (of_decide_eq_true hk12)).2 rfl Tryz.isAgg67 (gu hg25 rfl) rfl)) ?_
   obtain ⟨z27, hz28, h⟩ := bnd h
   refine wg0 rfl rfl rfl rfl rfl (fun hg26 => (q_call (call_run Tryz.call39 rfl rfl (args2 (gu hg26 rfl) (gu hg26 rfl))) (fun w hw => t_firthref05_Same (Γ := Gh.all w) ((hx11 hl8).1.2.2.mono hw.sat.le_all) (hx11 hl8).1.2.1 ((hx15 (of_decide_eq_true hk12)).1.2.2.mono hw.sat.le_all) (hx15 (of_decide_eq_true hk12)).1.2.1 (Sat.all w) (gc_of hz28 hg26)))) ?_
   refine wg0 rfl rfl rfl rfl rfl (fun hg29 => QV.qo (q_not rfl (gu hg29 rfl))) ?_
   refine wa rfl rfl rfl (q_pick rfl rfl (pk_or' (g := ((gt a i3).key != (gt b i3).key)) (y := (!z27)))) ?_
   refine WQ.nil ?_
   change WC _ _ _ _ _ _
   refine WC.cif h (by kernel_rfl) (fun hb30 h => ?_) (fun hb30 h => ?_)
   ·
    refine WC.rs ?_
    refine as_ (v := .bool false) ?_
    refine WR.done ?_
    refine WC.ret ?_
    intro w hw
    obtain rfl := Option.some.inj h
    subst hF
    exact ⟨by kernel_rfl, hw.fr⟩
   ·
    refine WC.skip ?_
    change WC _ _ _ _ _ _
    refine WC.region ?_
    refine mv (v := .int .i64 ((i3 : Nat) : Int)) ?_
    refine vb (q_add_r (r := ((i3 + 1 : Nat) : Int)) rfl rfl rfl (ctr_len hl8 ha.le)) ?_
    refine as_ (v := .int .i64 ((i3 + 1 : Nat) : Int)) ?_
    refine WR.nil ?_
    intro w hw
    exact ⟨hl8, (), h, (sl_ (by kernel_rfl)), hw, trivial⟩
  ·
   have h := hge6 (ige hb7)
   refine WC.exit ?_
   change WC _ _ _ _ _ _
   refine WC.rs ?_
   refine as_ (v := .bool true) ?_
   refine WR.done ?_
   refine WC.ret ?_
   intro w hw
   obtain rfl := Option.some.inj h
   subst hF
   exact ⟨by kernel_rfl, hw.fr⟩
abbrev r_pull_Pull_Vec (gp_ : Nat) (ep_ : Nat) (rowp_ : Rowb) (r : List Int) (U : List Rowb) (Γ : Gh) (v : Value) : Prop := ∃ (A0 : Option Addr), ∃ (c0 : Nat), ∃ (row0 : Rowb), v = .slice A0 r.length c0 ∧ U = [rowp_, row0] ∧ Own intT Γ 2 row0 A0 c0 r ∧ True
theorem t_pull_Pull_Vec {Γ : Gh} {w0 : World} {gp_ ep_ : Nat} {rowp_ : Rowb} {p_ : Opull_Pull} (hp_ : Opull_Pull.ob ep_ Γ gp_ rowp_ p_) (hp : Pre [rowp_] Γ w0) {r : List Int} (h : m_pull_Pull_Vec p_ = some r) : Calls Tryz.prog 33 #[(pq gp_)] w0 (Outc Γ [rowp_] w0 (r_pull_Pull_Vec gp_ ep_ rowp_ r)) := by
 refine calls_of (N := 8) (rs := [2]) (args := [(pq gp_)]) Tryz.func33 rfl Tryz.ntmps33 Tryz.results33 rfl ?_
 obtain ⟨F, hF⟩ : ∃ F : Fm, F = ⟨ids [rowp_], w0, Γ⟩ := ⟨_, rfl⟩
 refine WC.here (C := CC F Γ [rowp_]) ?_ (hF ▸ hp.start)
 refine WC.rs ?_
 refine as_ (v := .slice none 0 0) ?_
 refine WR.done ?_
 refine WC.rs ?_
 refine mv (v := (pq gp_)) ?_
 refine vb (q_nil (A := some ⟨gp_, 0, none⟩) rfl rfl rfl) ?_
 refine vb (q_fl 3 fld_97_3 rfl rfl rfl) ?_
 have hq := hp_
 obtain ⟨g1_1, r1_1, A3_1, c3_1, A4_1, c4_1, r4_1, g5_1, r5_1, hrow_1, ho0_1, ho1_1, ho2_1, ho3_1, ho4_1, ho5_1, -⟩ := hq
 intro w hw; have hw := hw.unfold (i := 0) rfl hrow_1
 refine WR.here (C := CC F Γ [[(gp_, .cells #[.int .i64 p_.id, (pq g1_1), .bool p_.begun, .slice A3_1 p_.vec.length c3_1, .slice A4_1 p_.wants.length c4_1, (pq g5_1)] ep_ (0, 0))], r1_1, r4_1, r5_1]) ?_ hw
 clear hw
 refine vb (q_ldl (i := 0) (v := .slice A3_1 p_.vec.length c3_1) rfl rfl Tryz.isAgg22 rfl rfl) ?_
 obtain ⟨z2, hz3, h⟩ := bnd h
 refine e_call (is := []) rfl rfl (call_run Tryz.call46 rfl rfl (by kernel_rfl)) rfl (fun w hp => t_slices_Clone_int64_int64 ho3_1 ho2_1 hp hz3) ?_
 rintro Γ4 U6 v7 hl5 ⟨A8, c9, row10, rfl, rfl, hr11, _⟩
 change WR _ _ _ (CC F Γ4 [row10, [(gp_, .cells #[.int .i64 p_.id, (pq g1_1), .bool p_.begun, .slice A3_1 p_.vec.length c3_1, .slice A4_1 p_.wants.length c4_1, (pq g5_1)] ep_ (0, 0))], r1_1, r4_1, r5_1]) _ _ (upd _ 7 (.slice A8 z2.length c9))
 refine as_ (v := .slice A8 z2.length c9) ?_
 refine WR.done ?_
 refine WC.ret ?_
 intro w hw
 have hw := hw.fold (is := [1, 1, 1, 1]) rfl hrow_1
 obtain rfl := Option.some.inj h
 subst hF
 exact end_e (is := [0, 0]) (by kernel_rfl) hw rfl ⟨A8, c9, row10, rfl, rfl, hr11, trivial⟩
theorem t_firthref04_Same {Γ : Gh} {w0 : World} {Aa : Option Addr} {ca : Nat} {a : List Int} (ha : Sl intT Γ Aa a) (hac : a.length ≤ ca) {Ab : Option Addr} {cb : Nat} {b : List Int} (hb : Sl intT Γ Ab b) (hbc : b.length ≤ cb) (hs : Sat Γ w0) {r : Bool} (h : m_firthref04_Same a b = some r) : Calls Tryz.prog 17 #[.slice Aa a.length ca, .slice Ab b.length cb] w0 (fun e w' => e = .returned (.bool r) ∧ Fr no w0 w') := by
 refine calls_of (N := 26) (rs := [4]) (args := [.slice Aa a.length ca, .slice Ab b.length cb]) Tryz.func17 rfl Tryz.ntmps17 Tryz.results17 rfl ?_
 obtain ⟨F, hF⟩ : ∃ F : Fm, F = ⟨no, w0, Γ⟩ := ⟨_, rfl⟩
 refine WC.here (C := CC F Γ []) ?_ (hF ▸ Cur.start0 hs)
 refine WC.rs ?_
 refine as_ (v := .bool false) ?_
 refine WR.done ?_
 refine WC.seq ?_
 refine WC.rs ?_
 refine mv (v := .slice Aa a.length ca) ?_
 refine vb (q_len_slice rfl Tryz.underlying22 rfl) ?_
 refine mv (v := .slice Ab b.length cb) ?_
 refine vb (q_len_slice rfl Tryz.underlying22 rfl) ?_
 refine vb (q_neq rfl rfl rfl) ?_
 refine WR.done ?_
 refine WC.cif h (by kernel_rfl) (fun hb1 h => ?_) (fun hb1 h => ?_)
 ·
  refine WC.rs ?_
  refine as_ (v := .bool false) ?_
  refine WR.done ?_
  refine WC.ret ?_
  intro w hw
  obtain rfl := Option.some.inj h
  subst hF
  exact ⟨by kernel_rfl, hw.fr⟩
 ·
  refine WC.skip ?_
  change WC _ _ _ _ _ _
  refine WC.seq ?_
  refine WC.rs ?_
  refine as_ (v := .int .i64 0) ?_
  refine WR.done ?_
  refine WC.block ?_
  refine WC.forI h (fun (i3 : Nat) (s : Unit) σ w => match s with | () => slots σ [(0, .slice Aa a.length ca), (1, .slice Ab b.length cb), (5, .int .i64 ((i3 : Nat) : Int))] ∧ CC F Γ [] w ∧ True) ?_ ?_
  ·
   intro w hw
   exact ⟨(sl_ (by kernel_rfl)), hw, trivial⟩
  rintro f2 i3 ⟨⟩ σ w hi4 hlt5 hge6 ⟨hsl, hw, -⟩
  refine Wpt.slots hsl ?_
  refine WC.here (C := CC F Γ []) ?_ hw
  clear hw hsl
  refine WC.seq ?_
  refine WC.rs ?_
  refine mv (v := .int .i64 ((i3 : Nat) : Int)) ?_
  refine mv (v := .slice Aa a.length ca) ?_
  refine vb (q_len_slice rfl Tryz.underlying22 rfl) ?_
  refine vb (q_lss rfl rfl rfl) ?_
  refine WR.done ?_
  refine WC.cond (b := (decide (((i3 : Nat) : Int) < ((a.length : Nat) : Int)))) (by kernel_rfl) (fun hb7 => ?_) (fun hb7 => ?_)
  ·
   have hl8 := ilt hb7
   have h := hlt5 hl8
   refine WC.skip ?_
   change WC _ _ _ _ _ _
   refine WC.seq ?_
   refine WC.block ?_
   refine WC.seq ?_
   refine WC.dr (by kernel_rfl) (by kernel_rfl) (fun w hw => hw.drawn _) ?_
   refine wa rfl rfl rfl (q_move (v := .slice Aa a.length ca) rfl (by kernel_rfl)) ?_
   refine wa rfl rfl rfl (q_move (v := .int .i64 ((i3 : Nat) : Int)) rfl (by kernel_rfl)) ?_
   refine wa rfl rfl rfl (q_ixn (i := i3) Tryz.underlying22 Tryz.sizeOf2 rfl rfl rfl hl8 (ha.some_ hl8)) ?_
   refine wa rfl rfl rfl (q_ld (c := 0) (v := .int .i64 (gt a i3)) (ha.intT_at hl8).2 rfl Tryz.isAgg2 rfl rfl) ?_
   refine wa rfl rfl rfl (q_move (v := .slice Ab b.length cb) rfl (by kernel_rfl)) ?_
   refine wa rfl rfl rfl (q_move (v := .int .i64 ((i3 : Nat) : Int)) rfl (by kernel_rfl)) ?_
   obtain ⟨hk9, h⟩ := chk_some h
   refine wa rfl rfl rfl (q_ixn (i := i3) Tryz.underlying22 Tryz.sizeOf2 rfl rfl rfl (of_decide_eq_true hk9) (hb.some_ (of_decide_eq_true hk9))) ?_
   refine wa rfl rfl rfl (q_ld (c := 0) (v := .int .i64 (gt b i3)) (hb.intT_at (of_decide_eq_true hk9)).2 rfl Tryz.isAgg2 rfl rfl) ?_
   refine wa rfl rfl rfl (q_neq rfl rfl rfl) ?_
   refine WQ.nil ?_
   change WC _ _ _ _ _ _
   refine WC.cif h (by kernel_rfl) (fun hb10 h => ?_) (fun hb10 h => ?_)
   ·
    refine WC.rs ?_
    refine as_ (v := .bool false) ?_
    refine WR.done ?_
    refine WC.ret ?_
    intro w hw
    obtain rfl := Option.some.inj h
    subst hF
    exact ⟨by kernel_rfl, hw.fr⟩
   ·
    refine WC.skip ?_
    change WC _ _ _ _ _ _
    refine WC.region ?_
    refine mv (v := .int .i64 ((i3 : Nat) : Int)) ?_
    refine vb (q_add_r (r := ((i3 + 1 : Nat) : Int)) rfl rfl rfl (ctr_len hl8 ha.le)) ?_
    refine as_ (v := .int .i64 ((i3 + 1 : Nat) : Int)) ?_
    refine WR.nil ?_
    intro w hw
    exact ⟨hl8, (), h, (sl_ (by kernel_rfl)), hw, trivial⟩
  ·
   have h := hge6 (ige hb7)
   refine WC.exit ?_
   change WC _ _ _ _ _ _
   refine WC.rs ?_
   refine as_ (v := .bool true) ?_
   refine WR.done ?_
   refine WC.ret ?_
   intro w hw
   obtain rfl := Option.some.inj h
   subst hF
   exact ⟨by kernel_rfl, hw.fr⟩
theorem t_firthlaw19_awake {Γ : Gh} {w0 : World}  (hs : Sat Γ w0) {r : Bool} (h : m_firthlaw19_awake = some r) : Calls Tryz.prog 12 #[] w0 (fun e w' => e = .returned (.bool r) ∧ Fr no w0 w') := by
 refine calls_of (N := 85) (rs := [0]) (args := []) Tryz.func12 rfl Tryz.ntmps12 Tryz.results12 rfl ?_
 obtain ⟨F, hF⟩ : ∃ F : Fm, F = ⟨no, w0, Γ⟩ := ⟨_, rfl⟩
 refine WC.here (C := CC F Γ []) ?_ (hF ▸ Cur.start0 hs)
 refine WC.rs ?_
 refine as_ (v := .bool false) ?_
 refine WR.done ?_
 refine WC.rs ?_
 refine e_buildSlice (cs := #[.int .i64 1]) (e := 2) rfl rfl rfl rfl (fun w => by kernel_rfl) ?_
 intro g1
 obtain ⟨z2, hz3, h⟩ := bnd h
 refine e_call (is := []) rfl rfl (call_run Tryz.call49 rfl rfl (by kernel_rfl)) rfl (fun w hp => t_firthlaw19_k  hp hz3) ?_
 rintro Γ4 U6 v7 hl5 ⟨A8, c9, row10, rfl, rfl, hr11, _⟩
 change WR _ _ _ (CC F Γ4 [row10, [(g1, .cells #[.int .i64 1] 2 (0, 0))]]) _ _ (upd _ 7 (.slice A8 z2.length c9))
 have ho12 : Own intT Γ4 2 [(g1, .cells #[.int .i64 1] 2 (0, 0))] (some ⟨g1, 0, none⟩) 1 [1] := Own.of_blockL (T := intT) (ys := [1]) [[.int .i64 1]] rfl (show 1 ≤ lim by decide) (show Ty.rd intT Γ4 [.int .i64 1] 1 ∧ True from ⟨⟨rfl, (show I64 1 by decide)⟩, trivial⟩)
 have hc17 := ho12.capz
 intro w hw; obtain ⟨Γ13, hw, hl14, hr15⟩ := hw.seal (i := 1) rfl; have hs16 := ho12.sl hl14 hr15
 refine WR.here (C := CC F Γ13 [row10, []]) ?_ hw
 clear hw
 have hc22 := (hr11.mono hl14).capz
 intro w hw; obtain ⟨Γ18, hw, hl19, hr20⟩ := hw.seal (i := 0) rfl; have hs21 := (hr11.mono hl14).sl hl19 hr20
 refine WR.here (C := CC F Γ18 [[], []]) ?_ hw
 clear hw
 obtain ⟨z23, hz24, h⟩ := bnd h
 refine e_call (is := []) rfl rfl (call_run Tryz.call10 rfl rfl (by kernel_rfl)) rfl (fun w hp => t_pull_NewCut 3 (show I64 3 by decide) (hs16.mono hl19) hc17 hs21 hc22 hp hz24) ?_
 rintro Γ25 U27 v28 hl26 ⟨g29, row30, rfl, rfl, hr31, hr32, _⟩
 change WR _ _ _ (CC F Γ25 [row30, [], []]) _ _ (upd _ 8 (.tuple #[optp z23.1 g29, .int .i64 z23.2]))
 refine mv (v := .tuple #[optp z23.1 g29, .int .i64 z23.2]) ?_
 refine vb (q_extract (v := optp z23.1 g29) rfl rfl rfl) ?_
 refine vb (q_extract (v := .int .i64 z23.2) rfl rfl rfl) ?_
 refine as_ (v := optp z23.1 g29) ?_
 refine as_ (v := .int .i64 z23.2) ?_
 refine WR.done ?_
 refine WC.rs ?_
 obtain ⟨z33, hz34, h⟩ := bnd h
 refine e_call (is := []) rfl rfl (call_run Tryz.call22 rfl rfl (by kernel_rfl)) rfl (fun w hp => t_pull_NewPull 4 (show I64 4 by decide) (Sl.nil recT _ none) (Nat.zero_le 0) hp hz34) ?_
 rintro Γ35 U37 v38 hl36 ⟨g39, row40, rfl, rfl, hr41, hr42, _⟩
 change WR _ _ _ (CC F Γ35 [row40, row30, [], []]) _ _ (upd _ 12 (.tuple #[optp z33.1 g39, .int .i64 z33.2]))
 refine mv (v := .tuple #[optp z33.1 g39, .int .i64 z33.2]) ?_
 refine vb (q_extract (v := optp z33.1 g39) rfl rfl rfl) ?_
 refine vb (q_extract (v := .int .i64 z33.2) rfl rfl rfl) ?_
 refine as_ (v := optp z33.1 g39) ?_
 refine as_ (v := .int .i64 z33.2) ?_
 refine WR.done ?_
 refine WC.seq ?_
 refine WC.rs ?_
 refine mv (v := optp z23.1 g29) ?_
 refine vb (q_opt_eql Tryz.underlying25 rfl rfl rfl) ?_
 refine mv (v := .bool (Option.isNone z23.1)) ?_
 refine vg0 rfl rfl rfl rfl rfl (fun hg43 => QV.qo (q_move (v := optp z33.1 g39) rfl (by kernel_rfl))) ?_
 refine vg0 rfl rfl rfl rfl rfl (fun hg44 => QV.qo (q_opt_eql Tryz.underlying47 rfl (gu hg44 rfl) rfl)) ?_
 refine vb (q_pick rfl rfl (pk_or' (g := (Option.isNone z23.1)) (y := (Option.isNone z33.1)))) ?_
 refine mv (v := .bool ((Option.isNone z23.1) || (Option.isNone z33.1))) ?_
 refine vg0 rfl rfl rfl rfl rfl (fun hg45 => QV.qo (q_move (v := .int .i64 z23.2) rfl (by kernel_rfl))) ?_
 refine vg0 rfl rfl rfl rfl rfl (fun hg46 => QV.qo (q_neq rfl (gu hg46 rfl) rfl)) ?_
 refine vb (q_pick rfl rfl (pk_or' (g := ((Option.isNone z23.1) || (Option.isNone z33.1))) (y := (z23.2 != 0)))) ?_
 refine mv (v := .bool (((Option.isNone z23.1) || (Option.isNone z33.1)) || (z23.2 != 0))) ?_
 refine vg0 rfl rfl rfl rfl rfl (fun hg47 => QV.qo (q_move (v := .int .i64 z33.2) rfl (by kernel_rfl))) ?_
 refine vg0 rfl rfl rfl rfl rfl (fun hg48 => QV.qo (q_neq rfl (gu hg48 rfl) rfl)) ?_
 refine vb (q_pick rfl rfl (pk_or' (g := (((Option.isNone z23.1) || (Option.isNone z33.1)) || (z23.2 != 0))) (y := (z33.2 != 0)))) ?_
 refine mv (v := .bool ((((Option.isNone z23.1) || (Option.isNone z33.1)) || (z23.2 != 0)) || (z33.2 != 0))) ?_
 refine vg0 rfl rfl rfl rfl rfl (fun hg49 => QV.qo (q_move (v := optp z33.1 g39) rfl (by kernel_rfl))) ?_
 refine (Bool.eq_false_or_eq_true (!((((Option.isNone z23.1) || (Option.isNone z33.1)) || (z23.2 != 0)) || (z33.2 != 0)))).elim (fun hb50 => ?_) (fun hb50 => ?_)
 ·
  have h := bt hb50 h
  obtain ⟨z51, hz52, h⟩ := bnd h
  have ho53 := optob_some hr41 hz52
  obtain ⟨z54, hz55, h⟩ := bnd h
  have ho56 := optob_some (optob_mono hr31 (fun _ h => h.mono hl36)) hz55
  refine WR.sat (c0 := true) (g := ((((Option.isNone z23.1) || (Option.isNone z33.1)) || (z23.2 != 0)) || (z33.2 != 0))) rfl rfl rfl hb50 ?_
  obtain ⟨z57, hz58, h⟩ := bnd h
  refine vc rfl rfl rfl (q_call (call_run Tryz.call28 rfl rfl (args1 (optp_some (gu hb50 rfl) hz52))) (fun w hw => t_pull_Pull_Done (Γ := Gh.all w) (ho53.mono hw.sat.le_all) (hw.ra 0 rfl) (Sat.all w) hz58)) ?_
  refine vb (q_pick_f (v := .bool z57) rfl rfl (not_t hb50) (by kernel_rfl)) ?_
  refine mv (v := .bool z57) ?_
  refine vg0 rfl rfl rfl rfl rfl (fun hg59 => QV.qo (q_move (v := (pq g39)) rfl (optp_some rfl hz52))) ?_
  refine vg0 rfl rfl rfl rfl rfl (fun hg60 => QV.qo (q_move (v := (pq g29)) rfl (optp_some rfl hz55))) ?_
  refine (Bool.eq_false_or_eq_true (!z57)).elim (fun hb61 => ?_) (fun hb61 => ?_)
  ·
   have h := bt hb61 h
   refine WR.sat (c0 := true) (g := z57) rfl rfl rfl hb61 ?_
   obtain ⟨z62, hz63, h⟩ := bnd h
   refine e_call (is := [1]) rfl rfl (call_run Tryz.call18 rfl rfl (args1 (gu hb61 rfl))) rfl (fun w hp => t_pull_Cut_Vec ho56 hp hz63) ?_
   rintro Γ64 U66 v67 hl65 ⟨A68, c69, row70, rfl, rfl, hr71, _⟩
   change WR _ _ _ (CC F Γ64 [row30, row70, row40, [], []]) _ _ (upd _ 36 (.slice A68 z62.length c69))
   refine WR.sat (c0 := true) (g := z57) rfl rfl rfl hb61 ?_
   refine vb (q_move (v := (pq g29)) rfl (optp_some rfl hz55)) ?_
   refine WR.sat (c0 := true) (g := z57) rfl rfl rfl hb61 ?_
   obtain ⟨z72, hz73, h⟩ := bnd h
   refine e_call (is := [0]) rfl rfl (call_run Tryz.call19 rfl rfl (by kernel_rfl)) rfl (fun w hp => t_pull_Cut_Open (ho56.mono hl65) hp hz73) ?_
   rintro Γ74 U76 v77 hl75 ⟨row78, A80, c81, row82, rfl, rfl, hr79, hr83, _⟩
   change WR _ _ _ (CC F Γ74 [row78, row82, row70, row40, [], []]) _ _ (upd _ 38 (.slice A80 z72.2.length c81))
   refine WR.sat (c0 := true) (g := z57) rfl rfl rfl hb61 ?_
   have hc88 := (hr71.mono hl75).capz
   intro w hw; obtain ⟨Γ84, hw, hl85, hr86⟩ := hw.seal (i := 2) rfl; have hs87 := (hr71.mono hl75).sl hl85 hr86
   refine WR.here (C := CC F Γ84 [row78, row82, [], row40, [], []]) ?_ hw
   clear hw
   have hc93 := (hr83.mono hl85).capz
   intro w hw; obtain ⟨Γ89, hw, hl90, hr91⟩ := hw.seal (i := 1) rfl; have hs92 := (hr83.mono hl85).sl hl90 hr91
   refine WR.here (C := CC F Γ89 [row78, [], [], row40, [], []]) ?_ hw
   clear hw
   obtain ⟨z94, hz95, h⟩ := bnd h
   refine e_call (is := [3]) rfl rfl (call_run Tryz.call24 rfl rfl (args3 (gu hb61 rfl) rfl rfl)) rfl (fun w hp => t_pull_Pull_Begin (ho53.mono (((hl65.trans hl75).trans hl85).trans hl90)) (hs87.mono hl90) hc88 hs92 hc93 hp hz95) ?_
   rintro Γ96 U98 v99 hl97 ⟨row100, rfl, rfl, hr101, _⟩
   change WR _ _ _ (CC F Γ96 [row100, row78, [], [], [], []]) _ _ (upd _ 39 (.bool z94.2))
   refine WR.sat (c0 := true) (g := z57) rfl rfl rfl hb61 ?_
   refine vb (q_not rfl rfl) ?_
   refine vb (q_pick_f (v := .bool (!z94.2)) rfl rfl (not_t hb61) (by kernel_rfl)) ?_
   refine mv (v := .bool (!z94.2)) ?_
   refine vg0 rfl rfl rfl rfl rfl (fun hg102 => QV.qo (q_move (v := (pq g39)) rfl (optp_some rfl hz52))) ?_
   refine vg0 rfl rfl rfl rfl rfl (fun hg103 => QV.qo (q_move (v := (pq g29)) rfl (optp_some rfl hz55))) ?_
   refine (Bool.eq_false_or_eq_true (!(!z94.2))).elim (fun hb104 => ?_) (fun hb104 => ?_)
   ·
    have h := bt hb104 h
    refine WR.sat (c0 := true) (g := (!z94.2)) rfl rfl rfl hb104 ?_
    obtain ⟨z105, hz106, h⟩ := bnd h
    refine e_call (is := [1]) rfl rfl (call_run Tryz.call18 rfl rfl (args1 (gu hb104 rfl))) rfl (fun w hp => t_pull_Cut_Vec (hr79.mono ((hl85.trans hl90).trans hl97)) hp hz106) ?_
    rintro Γ107 U109 v110 hl108 ⟨A111, c112, row113, rfl, rfl, hr114, _⟩
    change WR _ _ _ (CC F Γ107 [row78, row113, row100, [], [], [], []]) _ _ (upd _ 45 (.slice A111 z105.length c112))
    refine WR.sat (c0 := true) (g := (!z94.2)) rfl rfl rfl hb104 ?_
    refine vb (q_move (v := (pq g29)) rfl (optp_some rfl hz55)) ?_
    refine WR.sat (c0 := true) (g := (!z94.2)) rfl rfl rfl hb104 ?_
    obtain ⟨z115, hz116, h⟩ := bnd h
    refine e_call (is := [0]) rfl rfl (call_run Tryz.call19 rfl rfl (by kernel_rfl)) rfl (fun w hp => t_pull_Cut_Open (hr79.mono (((hl85.trans hl90).trans hl97).trans hl108)) hp hz116) ?_
    rintro Γ117 U119 v120 hl118 ⟨row121, A123, c124, row125, rfl, rfl, hr122, hr126, _⟩
    change WR _ _ _ (CC F Γ117 [row121, row125, row113, row100, [], [], [], []]) _ _ (upd _ 47 (.slice A123 z115.2.length c124))
    refine WR.sat (c0 := true) (g := (!z94.2)) rfl rfl rfl hb104 ?_
    have hc131 := (hr114.mono hl118).capz
    intro w hw; obtain ⟨Γ127, hw, hl128, hr129⟩ := hw.seal (i := 2) rfl; have hs130 := (hr114.mono hl118).sl hl128 hr129
    refine WR.here (C := CC F Γ127 [row121, row125, [], row100, [], [], [], []]) ?_ hw
    clear hw
    have hc136 := (hr126.mono hl128).capz
    intro w hw; obtain ⟨Γ132, hw, hl133, hr134⟩ := hw.seal (i := 1) rfl; have hs135 := (hr126.mono hl128).sl hl133 hr134
    refine WR.here (C := CC F Γ132 [row121, [], [], row100, [], [], [], []]) ?_ hw
    clear hw
    obtain ⟨z137, hz138, h⟩ := bnd h
    refine e_call (is := [3]) rfl rfl (call_run Tryz.call24 rfl rfl (args3 (gu hb104 rfl) rfl rfl)) rfl (fun w hp => t_pull_Pull_Begin (hr101.mono (((hl108.trans hl118).trans hl128).trans hl133)) (hs130.mono hl133) hc131 hs135 hc136 hp hz138) ?_
    rintro Γ139 U141 v142 hl140 ⟨row143, rfl, rfl, hr144, _⟩
    change WR _ _ _ (CC F Γ139 [row143, row121, [], [], [], [], [], []]) _ _ (upd _ 48 (.bool z137.2))
    refine vb (q_pick_f (v := .bool z137.2) rfl rfl (not_t hb104) (by kernel_rfl)) ?_
    refine mv (v := .bool z137.2) ?_
    refine vg0 rfl rfl rfl rfl rfl (fun hg145 => QV.qo (q_move (v := (pq g39)) rfl (optp_some rfl hz52))) ?_
    refine (Bool.eq_false_or_eq_true (!z137.2)).elim (fun hb146 => ?_) (fun hb146 => ?_)
    ·
     have h := bt hb146 h
     refine WR.sat (c0 := true) (g := z137.2) rfl rfl rfl hb146 ?_
     obtain ⟨z147, hz148, h⟩ := bnd h
     refine e_call (is := [0]) rfl rfl (call_run Tryz.call31 rfl rfl (args1 (gu hb146 rfl))) rfl (fun w hp => t_pull_Pull_Wants hr144 hp hz148) ?_
     rintro Γ149 U151 v152 hl150 ⟨A153, c154, row155, rfl, rfl, hr156, _⟩
     change WR _ _ _ (CC F Γ149 [row143, row155, row121, [], [], [], [], [], []]) _ _ (upd _ 52 (.slice A153 z147.length c154))
     refine WR.sat (c0 := true) (g := z137.2) rfl rfl rfl hb146 ?_
     refine vb (q_len_slice rfl Tryz.underlying57 rfl) ?_
     refine WR.sat (c0 := true) (g := z137.2) rfl rfl rfl hb146 ?_
     refine vb (q_neq rfl rfl rfl) ?_
     refine vb (q_pick_f (v := .bool (((z147.length : Nat) : Int) != 1)) rfl rfl (not_t hb146) (by kernel_rfl)) ?_
     refine WR.done ?_
     refine WC.cif h (by kernel_rfl) (fun hb157 h => ?_) (fun hb157 h => ?_)
     ·
      refine WC.rs ?_
      refine as_ (v := .bool false) ?_
      refine WR.done ?_
      refine WC.ret ?_
      intro w hw
      obtain rfl := Option.some.inj h
      subst hF
      exact ⟨by kernel_rfl, hw.fr⟩
     ·
      refine WC.skip ?_
      change WC _ _ _ _ _ _
      refine WC.rs ?_
      refine vb (q_move (v := (pq g29)) rfl (optp_some rfl hz55)) ?_
      refine vb (q_move (v := (pq g39)) rfl (optp_some rfl hz52)) ?_
      obtain ⟨z158, hz159, h⟩ := bnd h
      refine e_call (is := [2, 0]) rfl rfl (call_run Tryz.call37 rfl rfl (by kernel_rfl)) rfl (fun w hp => t_firthlaw19_told (hr122.mono (((hl128.trans hl133).trans hl140).trans hl150)) (hr144.mono hl150) (Sl.nil intT _ none) (Nat.zero_le 0) hp hz159) ?_
      rintro Γ160 U162 v163 hl161 ⟨row164, row166, rfl, rfl, hr165, hr167, _⟩
      change WR _ _ _ (CC F Γ160 [row164, row166, row155, [], [], [], [], [], []]) _ _ (upd _ 58 (.bool z158.2.2))
      refine mv (v := .bool z158.2.2) ?_
      refine vg1 rfl rfl rfl rfl rfl (fun hg168 => QV.qo (q_move (v := (pq g39)) rfl (optp_some rfl hz52))) ?_
      obtain ⟨z170, hz171, h⟩ := bnd h
      refine vg1 rfl rfl rfl rfl rfl (fun hg169 => (q_call (call_run Tryz.call28 rfl rfl (args1 (gu hg169 rfl))) (fun w hw => t_pull_Pull_Done (Γ := Gh.all w) (hr167.mono hw.sat.le_all) (hw.ra 1 rfl) (Sat.all w) (gc_of hz171 hg169)))) ?_
      refine vb (q_pick rfl rfl (pk_and' (g := z158.2.2) (y := z170))) ?_
      refine mv (v := .bool (z158.2.2 && z170)) ?_
      refine vg1 rfl rfl rfl rfl rfl (fun hg172 => QV.qo (q_move (v := (pq g29)) rfl (optp_some rfl hz55))) ?_
      obtain ⟨z174, hz175, h⟩ := bnd h
      refine vg1 rfl rfl rfl rfl rfl (fun hg173 => (q_call (call_run Tryz.call21 rfl rfl (args1 (gu hg173 rfl))) (fun w hw => t_pull_Cut_Id (Γ := Gh.all w) (hr165.mono hw.sat.le_all) (hw.ra 0 rfl) (Sat.all w) (gc_of hz175 hg173)))) ?_
      refine vg1 rfl rfl rfl rfl rfl (fun hg176 => QV.qo (q_eql rfl (gu hg176 rfl) rfl)) ?_
      refine vb (q_pick rfl rfl (pk_and' (g := (z158.2.2 && z170)) (y := (z174 == 3)))) ?_
      refine mv (v := .bool ((z158.2.2 && z170) && (z174 == 3))) ?_
      refine vg1 rfl rfl rfl rfl rfl (fun hg177 => QV.qo (q_move (v := (pq g39)) rfl (optp_some rfl hz52))) ?_
      obtain ⟨z179, hz180, h⟩ := bnd h
      refine vg1 rfl rfl rfl rfl rfl (fun hg178 => (q_call (call_run Tryz.call34 rfl rfl (args1 (gu hg178 rfl))) (fun w hw => t_pull_Pull_Id (Γ := Gh.all w) (hr167.mono hw.sat.le_all) (hw.ra 1 rfl) (Sat.all w) (gc_of hz180 hg178)))) ?_
      refine vg1 rfl rfl rfl rfl rfl (fun hg181 => QV.qo (q_eql rfl (gu hg181 rfl) rfl)) ?_
      refine vb (q_pick rfl rfl (pk_and' (g := ((z158.2.2 && z170) && (z174 == 3))) (y := (z179 == 4)))) ?_
      refine mv (v := .bool (((z158.2.2 && z170) && (z174 == 3)) && (z179 == 4))) ?_
      refine vg1 rfl rfl rfl rfl rfl (fun hg182 => QV.qo (q_move (v := (pq g39)) rfl (optp_some rfl hz52))) ?_
      refine (Bool.eq_false_or_eq_true (((z158.2.2 && z170) && (z174 == 3)) && (z179 == 4))).elim (fun hb183 => ?_) (fun hb183 => ?_)
      ·
       have h := bt hb183 h
       refine WR.sat (c0 := true) (g := (((z158.2.2 && z170) && (z174 == 3)) && (z179 == 4))) rfl rfl rfl hb183 ?_
       obtain ⟨z184, hz185, h⟩ := bnd h
       refine e_call (is := [1]) rfl rfl (call_run Tryz.call32 rfl rfl (args1 (gu hb183 rfl))) rfl (fun w hp => t_pull_Pull_Staged hr167 hp hz185) ?_
       rintro Γ186 U188 v189 hl187 ⟨A190, c191, row192, rfl, rfl, hr193, _⟩
       change WR _ _ _ (CC F Γ186 [row166, row192, row164, row155, [], [], [], [], [], []]) _ _ (upd _ 75 (.slice A190 z184.length c191))
       refine WR.sat (c0 := true) (g := (((z158.2.2 && z170) && (z174 == 3)) && (z179 == 4))) rfl rfl rfl hb183 ?_
       obtain ⟨z194, hz195, h⟩ := bnd h
       refine e_call (is := []) rfl rfl (call_run Tryz.call49 rfl rfl (by kernel_rfl)) rfl (fun w hp => t_firthlaw19_k  hp hz195) ?_
       rintro Γ196 U198 v199 hl197 ⟨A200, c201, row202, rfl, rfl, hr203, _⟩
       change WR _ _ _ (CC F Γ196 [row202, row166, row192, row164, row155, [], [], [], [], [], []]) _ _ (upd _ 76 (.slice A200 z194.length c201))
       refine WR.sat (c0 := true) (g := (((z158.2.2 && z170) && (z174 == 3)) && (z179 == 4))) rfl rfl rfl hb183 ?_
       obtain ⟨z204, hz205, h⟩ := bnd h
       refine vc rfl rfl rfl (q_call (call_run Tryz.call16 rfl rfl (by kernel_rfl)) (fun w hw => t_firthref06_SameRecs (Γ := Gh.all w) ((hr193.mono hl197).sl hw.sat.le_all (hw.ra 2 rfl)) (hr193.mono hl197).capz (hr203.sl hw.sat.le_all (hw.ra 0 rfl)) hr203.capz (Sat.all w) hz205)) ?_
       refine vb (q_pick_t (v := .bool z204) rfl rfl hb183 (by kernel_rfl)) ?_
       refine mv (v := .bool z204) ?_
       refine vg1 rfl rfl rfl rfl rfl (fun hg206 => QV.qo (q_move (v := (pq g39)) rfl (optp_some rfl hz52))) ?_
       refine (Bool.eq_false_or_eq_true z204).elim (fun hb207 => ?_) (fun hb207 => ?_)
       ·
        have h := bt hb207 h
        refine WR.sat (c0 := true) (g := z204) rfl rfl rfl hb207 ?_
        obtain ⟨z208, hz209, h⟩ := bnd h
        refine e_call (is := [1]) rfl rfl (call_run Tryz.call33 rfl rfl (args1 (gu hb207 rfl))) rfl (fun w hp => t_pull_Pull_Vec (hr167.mono (hl187.trans hl197)) hp hz209) ?_
        rintro Γ210 U212 v213 hl211 ⟨A214, c215, row216, rfl, rfl, hr217, _⟩
        change WR _ _ _ (CC F Γ210 [row166, row216, row202, row192, row164, row155, [], [], [], [], [], []]) _ _ (upd _ 81 (.slice A214 z208.length c215))
        refine WR.sat (c0 := true) (g := z204) rfl rfl rfl hb207 ?_
        refine e_buildSlice (cs := #[.int .i64 1]) (e := 2) rfl rfl rfl rfl (fun w => by kernel_rfl) ?_
        intro g218
        refine WR.sat (c0 := true) (g := z204) rfl rfl rfl hb207 ?_
        have ho219 : Own intT Γ210 2 [(g218, .cells #[.int .i64 1] 2 (0, 0))] (some ⟨g218, 0, none⟩) 1 [1] := Own.of_blockL (T := intT) (ys := [1]) [[.int .i64 1]] rfl (show 1 ≤ lim by decide) (show Ty.rd intT Γ210 [.int .i64 1] 1 ∧ True from ⟨⟨rfl, (show I64 1 by decide)⟩, trivial⟩)
        obtain ⟨z220, hz221, h⟩ := bnd h
        refine vc rfl rfl rfl (q_call (call_run Tryz.call17 rfl rfl (by kernel_rfl)) (fun w hw => t_firthref04_Same (Γ := Gh.all w) (hr217.sl hw.sat.le_all (hw.ra 2 rfl)) hr217.capz (ho219.sl hw.sat.le_all (hw.ra 0 rfl)) ho219.capz (Sat.all w) hz221)) ?_
        refine vb (q_pick_t (v := .bool z220) rfl rfl hb207 (by kernel_rfl)) ?_
        refine as_ (v := .bool z220) ?_
        refine WR.done ?_
        refine WC.ret ?_
        intro w hw
        obtain rfl := Option.some.inj h
        subst hF
        exact ⟨by kernel_rfl, hw.fr⟩
       ·
        have h := bf hb207 h
        refine WR.unsat (c0 := true) (g := z204) rfl rfl rfl hb207 rfl ?_
        refine WR.unsat (c0 := true) (g := z204) rfl rfl rfl hb207 rfl ?_
        refine WR.unsat (c0 := true) (g := z204) rfl rfl rfl hb207 rfl ?_
        refine vb (q_pick_f (v := .bool false) rfl rfl hb207 (by kernel_rfl)) ?_
        refine as_ (v := .bool false) ?_
        refine WR.done ?_
        refine WC.ret ?_
        intro w hw
        obtain rfl := Option.some.inj h
        subst hF
        exact ⟨by kernel_rfl, hw.fr⟩
      ·
       have h := bf hb183 h
       refine WR.unsat (c0 := true) (g := (((z158.2.2 && z170) && (z174 == 3)) && (z179 == 4))) rfl rfl rfl hb183 rfl ?_
       refine WR.unsat (c0 := true) (g := (((z158.2.2 && z170) && (z174 == 3)) && (z179 == 4))) rfl rfl rfl hb183 rfl ?_
       refine WR.unsat (c0 := true) (g := (((z158.2.2 && z170) && (z174 == 3)) && (z179 == 4))) rfl rfl rfl hb183 rfl ?_
       refine vb (q_pick_f (v := .bool false) rfl rfl hb183 (by kernel_rfl)) ?_
       refine mv (v := .bool false) ?_
       refine WR.unsat (c0 := true) (g := false) rfl rfl rfl rfl rfl ?_
       refine WR.unsat (c0 := true) (g := false) rfl rfl rfl rfl rfl ?_
       refine WR.unsat (c0 := true) (g := false) rfl rfl rfl rfl rfl ?_
       refine WR.unsat (c0 := true) (g := false) rfl rfl rfl rfl rfl ?_
       refine vb (q_pickf (v := .bool false) rfl rfl rfl) ?_
       refine as_ (v := .bool false) ?_
       refine WR.done ?_
       refine WC.ret ?_
       intro w hw
       obtain rfl := Option.some.inj h
       subst hF
       exact ⟨by kernel_rfl, hw.fr⟩
    ·
     have h := bf hb146 h
     refine WR.unsat (c0 := true) (g := z137.2) rfl rfl rfl hb146 rfl ?_
     refine WR.unsat (c0 := true) (g := z137.2) rfl rfl rfl hb146 rfl ?_
     refine WR.unsat (c0 := true) (g := z137.2) rfl rfl rfl hb146 rfl ?_
     refine vb (q_pick_t (v := .bool true) rfl rfl (not_f hb146) (by kernel_rfl)) ?_
     refine WR.done ?_
     refine WC.ctk (b := true) (by kernel_rfl) rfl ?_
     refine WC.rs ?_
     refine as_ (v := .bool false) ?_
     refine WR.done ?_
     refine WC.ret ?_
     intro w hw
     obtain rfl := Option.some.inj h
     subst hF
     exact ⟨by kernel_rfl, hw.fr⟩
   ·
    have h := bf hb104 h
    refine WR.unsat (c0 := true) (g := (!z94.2)) rfl rfl rfl hb104 rfl ?_
    refine WR.unsat (c0 := true) (g := (!z94.2)) rfl rfl rfl hb104 rfl ?_
    refine WR.unsat (c0 := true) (g := (!z94.2)) rfl rfl rfl hb104 rfl ?_
    refine WR.unsat (c0 := true) (g := (!z94.2)) rfl rfl rfl hb104 rfl ?_
    refine vb (q_pick_t (v := .bool true) rfl rfl (not_f hb104) (by kernel_rfl)) ?_
    refine mv (v := .bool true) ?_
    refine WR.unsat (c0 := true) (g := true) rfl rfl rfl (nott rfl) rfl ?_
    refine WR.unsat (c0 := true) (g := true) rfl rfl rfl (nott rfl) rfl ?_
    refine WR.unsat (c0 := true) (g := true) rfl rfl rfl (nott rfl) rfl ?_
    refine WR.unsat (c0 := true) (g := true) rfl rfl rfl (nott rfl) rfl ?_
    refine vb (q_pickt (v := .bool true) rfl rfl rfl) ?_
    refine WR.done ?_
    refine WC.ctk (b := true) (by kernel_rfl) rfl ?_
    refine WC.rs ?_
    refine as_ (v := .bool false) ?_
    refine WR.done ?_
    refine WC.ret ?_
    intro w hw
    obtain rfl := Option.some.inj h
    subst hF
    exact ⟨by kernel_rfl, hw.fr⟩
  ·
   have h := bf hb61 h
   refine WR.unsat (c0 := true) (g := z57) rfl rfl rfl hb61 rfl ?_
   refine WR.unsat (c0 := true) (g := z57) rfl rfl rfl hb61 rfl ?_
   refine WR.unsat (c0 := true) (g := z57) rfl rfl rfl hb61 rfl ?_
   refine WR.unsat (c0 := true) (g := z57) rfl rfl rfl hb61 rfl ?_
   refine WR.unsat (c0 := true) (g := z57) rfl rfl rfl hb61 rfl ?_
   refine vb (q_pick_t (v := .bool true) rfl rfl (not_f hb61) (by kernel_rfl)) ?_
   refine mv (v := .bool true) ?_
   refine WR.unsat (c0 := true) (g := true) rfl rfl rfl (nott rfl) rfl ?_
   refine WR.unsat (c0 := true) (g := true) rfl rfl rfl (nott rfl) rfl ?_
   refine WR.unsat (c0 := true) (g := true) rfl rfl rfl (nott rfl) rfl ?_
   refine WR.unsat (c0 := true) (g := true) rfl rfl rfl (nott rfl) rfl ?_
   refine WR.unsat (c0 := true) (g := true) rfl rfl rfl (nott rfl) rfl ?_
   refine WR.unsat (c0 := true) (g := true) rfl rfl rfl (nott rfl) rfl ?_
   refine vb (q_pickt (v := .bool true) rfl rfl rfl) ?_
   refine mv (v := .bool true) ?_
   refine WR.unsat (c0 := true) (g := true) rfl rfl rfl (nott rfl) rfl ?_
   refine WR.unsat (c0 := true) (g := true) rfl rfl rfl (nott rfl) rfl ?_
   refine WR.unsat (c0 := true) (g := true) rfl rfl rfl (nott rfl) rfl ?_
   refine WR.unsat (c0 := true) (g := true) rfl rfl rfl (nott rfl) rfl ?_
   refine vb (q_pickt (v := .bool true) rfl rfl rfl) ?_
   refine WR.done ?_
   refine WC.ctk (b := true) (by kernel_rfl) rfl ?_
   refine WC.rs ?_
   refine as_ (v := .bool false) ?_
   refine WR.done ?_
   refine WC.ret ?_
   intro w hw
   obtain rfl := Option.some.inj h
   subst hF
   exact ⟨by kernel_rfl, hw.fr⟩
 ·
  have h := bf hb50 h
  refine WR.unsat (c0 := true) (g := ((((Option.isNone z23.1) || (Option.isNone z33.1)) || (z23.2 != 0)) || (z33.2 != 0))) rfl rfl rfl hb50 rfl ?_
  refine vb (q_pick_t (v := .bool true) rfl rfl (not_f hb50) (by kernel_rfl)) ?_
  refine mv (v := .bool true) ?_
  refine WR.unsat (c0 := true) (g := true) rfl rfl rfl (nott rfl) rfl ?_
  refine WR.unsat (c0 := true) (g := true) rfl rfl rfl (nott rfl) rfl ?_
  refine WR.unsat (c0 := true) (g := true) rfl rfl rfl (nott rfl) rfl ?_
  refine WR.unsat (c0 := true) (g := true) rfl rfl rfl (nott rfl) rfl ?_
  refine WR.unsat (c0 := true) (g := true) rfl rfl rfl (nott rfl) rfl ?_
  refine WR.unsat (c0 := true) (g := true) rfl rfl rfl (nott rfl) rfl ?_
  refine WR.unsat (c0 := true) (g := true) rfl rfl rfl (nott rfl) rfl ?_
  refine vb (q_pickt (v := .bool true) rfl rfl rfl) ?_
  refine mv (v := .bool true) ?_
  refine WR.unsat (c0 := true) (g := true) rfl rfl rfl (nott rfl) rfl ?_
  refine WR.unsat (c0 := true) (g := true) rfl rfl rfl (nott rfl) rfl ?_
  refine WR.unsat (c0 := true) (g := true) rfl rfl rfl (nott rfl) rfl ?_
  refine WR.unsat (c0 := true) (g := true) rfl rfl rfl (nott rfl) rfl ?_
  refine WR.unsat (c0 := true) (g := true) rfl rfl rfl (nott rfl) rfl ?_
  refine WR.unsat (c0 := true) (g := true) rfl rfl rfl (nott rfl) rfl ?_
  refine vb (q_pickt (v := .bool true) rfl rfl rfl) ?_
  refine mv (v := .bool true) ?_
  refine WR.unsat (c0 := true) (g := true) rfl rfl rfl (nott rfl) rfl ?_
  refine WR.unsat (c0 := true) (g := true) rfl rfl rfl (nott rfl) rfl ?_
  refine WR.unsat (c0 := true) (g := true) rfl rfl rfl (nott rfl) rfl ?_
  refine WR.unsat (c0 := true) (g := true) rfl rfl rfl (nott rfl) rfl ?_
  refine vb (q_pickt (v := .bool true) rfl rfl rfl) ?_
  refine WR.done ?_
  refine WC.ctk (b := true) (by kernel_rfl) rfl ?_
  refine WC.rs ?_
  refine as_ (v := .bool false) ?_
  refine WR.done ?_
  refine WC.ret ?_
  intro w hw
  obtain rfl := Option.some.inj h
  subst hF
  exact ⟨by kernel_rfl, hw.fr⟩
theorem t_firthlaw19_PullFew {Γ : Gh} {w0 : World} {Alist : Option Addr} {clist : Nat} {list : List Rec} (hlist : Sl recT Γ Alist list) (hlistc : list.length ≤ clist) {Amore : Option Addr} {cmore : Nat} {more : List Rec} (hmore : Sl recT Γ Amore more) (hmorec : more.length ≤ cmore) (hs : Sat Γ w0) {r : Bool} (h : m_firthlaw19_PullFew list more = some r) : Calls Tryz.prog 7 #[.slice Alist list.length clist, .slice Amore more.length cmore] w0 (fun e w' => e = .returned (.bool r) ∧ Fr no w0 w') := by
 refine calls_of (N := 158) (rs := [4]) (args := [.slice Alist list.length clist, .slice Amore more.length cmore]) Tryz.func7 rfl Tryz.ntmps7 Tryz.results7 rfl ?_
 obtain ⟨F, hF⟩ : ∃ F : Fm, F = ⟨no, w0, Γ⟩ := ⟨_, rfl⟩
 refine WC.here (C := CC F Γ []) ?_ (hF ▸ Cur.start0 hs)
 refine WC.rs ?_
 refine as_ (v := .bool false) ?_
 refine WR.done ?_
 refine WC.seq ?_
 refine WC.rs ?_
 obtain ⟨z1, hz2, h⟩ := bnd h
 refine vc rfl rfl rfl (q_call (call_run Tryz.call12 rfl rfl (by kernel_rfl)) (fun w hw => t_firthlaw19_awake (Γ := Gh.all w)  (Sat.all w) hz2)) ?_
 refine vb (q_not rfl rfl) ?_
 refine WR.done ?_
 refine WC.cif h (by kernel_rfl) (fun hb3 h => ?_) (fun hb3 h => ?_)
 ·
  refine WC.rs ?_
  refine as_ (v := .bool false) ?_
  refine WR.done ?_
  refine WC.ret ?_
  intro w hw
  obtain rfl := Option.some.inj h
  subst hF
  exact ⟨by kernel_rfl, hw.fr⟩
 ·
  refine WC.skip ?_
  change WC _ _ _ _ _ _
  refine WC.rs ?_
  refine mv (v := .slice Alist list.length clist) ?_
  obtain ⟨z4, hz5, h⟩ := bnd h
  refine e_call (is := []) rfl rfl (call_run Tryz.call35 rfl rfl (by kernel_rfl)) rfl (fun w hp => t_firthref14_Held hlist hlistc hp hz5) ?_
  rintro Γ6 U8 v9 hl7 ⟨A10, c11, row12, rfl, rfl, hr13, _⟩
  change WR _ _ _ (CC F Γ6 [row12]) _ _ (upd _ 27 (.tuple #[.slice A10 z4.1.length c11, .bool z4.2]))
  refine mv (v := .tuple #[.slice A10 z4.1.length c11, .bool z4.2]) ?_
  refine vb (q_extract (v := .slice A10 z4.1.length c11) rfl rfl rfl) ?_
  refine vb (q_extract (v := .bool z4.2) rfl rfl rfl) ?_
  refine as_ (v := .slice A10 z4.1.length c11) ?_
  refine as_ (v := .bool z4.2) ?_
  refine WR.done ?_
  refine WC.rs ?_
  refine mv (v := .slice Amore more.length cmore) ?_
  obtain ⟨z14, hz15, h⟩ := bnd h
  refine e_call (is := []) rfl rfl (call_run Tryz.call35 rfl rfl (by kernel_rfl)) rfl (fun w hp => t_firthref14_Held (hmore.mono hl7) hmorec hp hz15) ?_
  rintro Γ16 U18 v19 hl17 ⟨A20, c21, row22, rfl, rfl, hr23, _⟩
  change WR _ _ _ (CC F Γ16 [row22, row12]) _ _ (upd _ 32 (.tuple #[.slice A20 z14.1.length c21, .bool z14.2]))
  refine mv (v := .tuple #[.slice A20 z14.1.length c21, .bool z14.2]) ?_
  refine vb (q_extract (v := .slice A20 z14.1.length c21) rfl rfl rfl) ?_
  refine vb (q_extract (v := .bool z14.2) rfl rfl rfl) ?_
  refine as_ (v := .slice A20 z14.1.length c21) ?_
  refine as_ (v := .bool z14.2) ?_
  refine WR.done ?_
  refine WC.seq ?_
  refine WC.rs ?_
  refine mv (v := .bool z4.2) ?_
  refine vb (q_not rfl rfl) ?_
  refine mv (v := .bool (!z4.2)) ?_
  refine vg0 rfl rfl rfl rfl rfl (fun hg24 => QV.qo (q_move (v := .bool z14.2) rfl (by kernel_rfl))) ?_
  refine vg0 rfl rfl rfl rfl rfl (fun hg25 => QV.qo (q_not rfl (gu hg25 rfl))) ?_
  refine vb (q_pick rfl rfl (pk_or' (g := (!z4.2)) (y := (!z14.2)))) ?_
  refine WR.done ?_
  refine WC.cif h (by kernel_rfl) (fun hb26 h => ?_) (fun hb26 h => ?_)
  ·
   refine WC.rs ?_
   refine as_ (v := .bool true) ?_
   refine WR.done ?_
   refine WC.ret ?_
   intro w hw
   obtain rfl := Option.some.inj h
   subst hF
   exact ⟨by kernel_rfl, hw.fr⟩
  ·
   refine WC.skip ?_
   change WC _ _ _ _ _ _
   refine WC.rs ?_
   refine mv (v := .slice A10 z4.1.length c11) ?_
   refine as_ (v := .slice A10 z4.1.length c11) ?_
   refine WR.done ?_
   refine WC.seq ?_
   refine WC.rs ?_
   refine as_ (v := .int .i64 0) ?_
   refine WR.done ?_
   refine WC.block ?_
   have hc31 := (hr13.mono hl17).capz
   intro w hw; obtain ⟨Γ27, hw, hl28, hr29⟩ := hw.seal (i := 1) rfl; have hs30 := (hr13.mono hl17).sl hl28 hr29
   refine WC.here (C := CC F Γ27 [row22, []]) ?_ hw
   clear hw
   refine WC.forI h (fun (i40 : Nat) (b_34 : List Rec) σ w => ∃ (Γ32 : Gh), ∃ (A35 : Option Addr), ∃ (c36 : Nat), slots σ [(5, .slice A10 z4.1.length c11), (7, .slice A20 z14.1.length c21), (9, .slice A35 b_34.length c36), (10, .int .i64 ((i40 : Nat) : Int))] ∧ CC F Γ32 [row22] w ∧ Gh.le Γ27 Γ32 ∧ b_34.length ≤ c36 ∧ Sl recT Γ32 A35 b_34 ∧ True) ?_ ?_
   ·
    intro w hw
    exact ⟨Γ27, A10, c11, (sl_ (by kernel_rfl)), (hw.only (is := [0]) rfl), (Gh.refl _), hc31, hs30, trivial⟩
   rintro f39 i40 b_34 σ w hi41 hlt42 hge43 ⟨Γ32, A35, c36, hsl, hw, hl33, hc38, hs37, -⟩
   refine Wpt.slots hsl ?_
   refine WC.here (C := CC F Γ32 [row22]) ?_ hw
   clear hw hsl
   refine WC.seq ?_
   refine WC.rs ?_
   refine mv (v := .int .i64 ((i40 : Nat) : Int)) ?_
   refine mv (v := .slice A20 z14.1.length c21) ?_
   refine vb (q_len_slice rfl Tryz.underlying23 rfl) ?_
   refine vb (q_lss rfl rfl rfl) ?_
   refine WR.done ?_
   refine WC.cond (b := (decide (((i40 : Nat) : Int) < ((z14.1.length : Nat) : Int)))) (by kernel_rfl) (fun hb44 => ?_) (fun hb44 => ?_)
   ·
    have hl45 := ilt hb44
    have h := hlt42 hl45
    refine WC.skip ?_
    change WC _ _ _ _ _ _
    refine WC.seq ?_
    refine WC.block ?_
    refine WC.region ?_
    refine mv (v := .slice A35 b_34.length c36) ?_
    refine mv (v := .slice A20 z14.1.length c21) ?_
    refine mv (v := .int .i64 ((i40 : Nat) : Int)) ?_
    refine vb (q_ixn (i := i40) Tryz.underlying23 Tryz.sizeOf70 rfl rfl rfl hl45 ((hr23.mono (hl28.trans hl33)).some_ hl45)) ?_
    obtain ⟨A46, c47, hx48⟩ := (hr23.mono (hl28.trans hl33)).recT_at i40
    refine vb (q_ldoa (c := 0) (vs := [.string (gt z14.1 i40).key, .slice A46 ((gt z14.1 i40).vers).length c47]) (i := 0) rfl (hx48 hl45).2 rfl Tryz.isAgg70 Tryz.sizeOf70 rfl rfl) ?_
    obtain ⟨z49, hz50, h⟩ := bnd h
    refine e_call (is := []) rfl rfl (call_run Tryz.call40 rfl rfl (by kernel_rfl)) rfl (fun w hp => t_firthref10_With hs37 hc38 (gt z14.1 i40) (hx48 hl45).1 hp hz50) ?_
    rintro Γ51 U53 v54 hl52 ⟨A55, c56, row57, rfl, rfl, hr58, _⟩
    change WR _ _ _ (CC F Γ51 [row57, row22]) _ _ (upd _ 53 (.slice A55 z49.length c56))
    refine as_ (v := .slice A55 z49.length c56) ?_
    refine WR.nil ?_
    change WC _ _ _ _ _ _
    refine WC.region ?_
    refine mv (v := .int .i64 ((i40 : Nat) : Int)) ?_
    refine vb (q_add_r (r := ((i40 + 1 : Nat) : Int)) rfl rfl rfl (ctr_len hl45 (hr23.mono (hl28.trans hl33)).le)) ?_
    refine as_ (v := .int .i64 ((i40 + 1 : Nat) : Int)) ?_
    refine WR.nil ?_
    intro w hw
    have hc63 := hr58.capz
    obtain ⟨Γ59, hw, hl60, hr61⟩ := hw.seal (i := 0) rfl; have hs62 := hr58.sl hl60 hr61
    exact ⟨hl45, z49, h, Γ59, A55, c56, (sl_ (by kernel_rfl)), (hw.only (is := [1]) rfl), ((hl33.trans hl52).trans hl60), hc63, hs62, trivial⟩
   ·
    have h := hge43 (ige hb44)
    refine WC.exit ?_
    change WC _ _ _ _ _ _
    refine WC.rs ?_
    refine e_buildSlice (cs := #[.int .i64 5]) (e := 2) rfl rfl rfl rfl (fun w => by kernel_rfl) ?_
    intro g64
    refine mv (v := .slice A35 b_34.length c36) ?_
    have ho65 : Own intT Γ32 2 [(g64, .cells #[.int .i64 5] 2 (0, 0))] (some ⟨g64, 0, none⟩) 1 [5] := Own.of_blockL (T := intT) (ys := [5]) [[.int .i64 5]] rfl (show 1 ≤ lim by decide) (show Ty.rd intT Γ32 [.int .i64 5] 5 ∧ True from ⟨⟨rfl, (show I64 5 by decide)⟩, trivial⟩)
    have hc70 := ho65.capz
    intro w hw; obtain ⟨Γ66, hw, hl67, hr68⟩ := hw.seal (i := 0) rfl; have hs69 := ho65.sl hl67 hr68
    refine WR.here (C := CC F Γ66 [[], row22]) ?_ hw
    clear hw
    obtain ⟨z71, hz72, h⟩ := bnd h
    refine e_call (is := []) rfl rfl (call_run Tryz.call10 rfl rfl (by kernel_rfl)) rfl (fun w hp => t_pull_NewCut 1 (show I64 1 by decide) hs69 hc70 (hs37.mono hl67) hc38 hp hz72) ?_
    rintro Γ73 U75 v76 hl74 ⟨g77, row78, rfl, rfl, hr79, hr80, _⟩
    change WR _ _ _ (CC F Γ73 [row78, [], row22]) _ _ (upd _ 57 (.tuple #[optp z71.1 g77, .int .i64 z71.2]))
    refine mv (v := .tuple #[optp z71.1 g77, .int .i64 z71.2]) ?_
    refine vb (q_extract (v := optp z71.1 g77) rfl rfl rfl) ?_
    refine vb (q_extract (v := .int .i64 z71.2) rfl rfl rfl) ?_
    refine as_ (v := optp z71.1 g77) ?_
    refine as_ (v := .int .i64 z71.2) ?_
    refine WR.done ?_
    refine WC.rs ?_
    refine mv (v := .slice A35 b_34.length c36) ?_
    obtain ⟨z81, hz82, h⟩ := bnd h
    refine e_call (is := []) rfl rfl (call_run Tryz.call22 rfl rfl (by kernel_rfl)) rfl (fun w hp => t_pull_NewPull 1 (show I64 1 by decide) (hs37.mono (hl67.trans hl74)) hc38 hp hz82) ?_
    rintro Γ83 U85 v86 hl84 ⟨g87, row88, rfl, rfl, hr89, hr90, _⟩
    change WR _ _ _ (CC F Γ83 [row88, row78, [], row22]) _ _ (upd _ 62 (.tuple #[optp z81.1 g87, .int .i64 z81.2]))
    refine mv (v := .tuple #[optp z81.1 g87, .int .i64 z81.2]) ?_
    refine vb (q_extract (v := optp z81.1 g87) rfl rfl rfl) ?_
    refine vb (q_extract (v := .int .i64 z81.2) rfl rfl rfl) ?_
    refine as_ (v := optp z81.1 g87) ?_
    refine as_ (v := .int .i64 z81.2) ?_
    refine WR.done ?_
    refine WC.rs ?_
    refine mv (v := .slice A10 z4.1.length c11) ?_
    obtain ⟨z91, hz92, h⟩ := bnd h
    refine e_call (is := []) rfl rfl (call_run Tryz.call22 rfl rfl (by kernel_rfl)) rfl (fun w hp => t_pull_NewPull 1 (show I64 1 by decide) (hs30.mono (((hl33.trans hl67).trans hl74).trans hl84)) hc31 hp hz92) ?_
    rintro Γ93 U95 v96 hl94 ⟨g97, row98, rfl, rfl, hr99, hr100, _⟩
    change WR _ _ _ (CC F Γ93 [row98, row88, row78, [], row22]) _ _ (upd _ 67 (.tuple #[optp z91.1 g97, .int .i64 z91.2]))
    refine mv (v := .tuple #[optp z91.1 g97, .int .i64 z91.2]) ?_
    refine vb (q_extract (v := optp z91.1 g97) rfl rfl rfl) ?_
    refine vb (q_extract (v := .int .i64 z91.2) rfl rfl rfl) ?_
    refine as_ (v := optp z91.1 g97) ?_
    refine as_ (v := .int .i64 z91.2) ?_
    refine WR.done ?_
    refine WC.seq ?_
    refine WC.rs ?_
    refine mv (v := optp z71.1 g77) ?_
    refine vb (q_opt_eql Tryz.underlying25 rfl rfl rfl) ?_
    refine mv (v := .bool (Option.isNone z71.1)) ?_
    refine vg0 rfl rfl rfl rfl rfl (fun hg101 => QV.qo (q_move (v := optp z81.1 g87) rfl (by kernel_rfl))) ?_
    refine vg0 rfl rfl rfl rfl rfl (fun hg102 => QV.qo (q_opt_eql Tryz.underlying47 rfl (gu hg102 rfl) rfl)) ?_
    refine vb (q_pick rfl rfl (pk_or' (g := (Option.isNone z71.1)) (y := (Option.isNone z81.1)))) ?_
    refine mv (v := .bool ((Option.isNone z71.1) || (Option.isNone z81.1))) ?_
    refine vg0 rfl rfl rfl rfl rfl (fun hg103 => QV.qo (q_move (v := optp z91.1 g97) rfl (by kernel_rfl))) ?_
    refine vg0 rfl rfl rfl rfl rfl (fun hg104 => QV.qo (q_opt_eql Tryz.underlying47 rfl (gu hg104 rfl) rfl)) ?_
    refine vb (q_pick rfl rfl (pk_or' (g := ((Option.isNone z71.1) || (Option.isNone z81.1))) (y := (Option.isNone z91.1)))) ?_
    refine mv (v := .bool (((Option.isNone z71.1) || (Option.isNone z81.1)) || (Option.isNone z91.1))) ?_
    refine vg0 rfl rfl rfl rfl rfl (fun hg105 => QV.qo (q_move (v := .int .i64 z71.2) rfl (by kernel_rfl))) ?_
    refine vg0 rfl rfl rfl rfl rfl (fun hg106 => QV.qo (q_neq rfl (gu hg106 rfl) rfl)) ?_
    refine vb (q_pick rfl rfl (pk_or' (g := (((Option.isNone z71.1) || (Option.isNone z81.1)) || (Option.isNone z91.1))) (y := (z71.2 != 0)))) ?_
    refine mv (v := .bool ((((Option.isNone z71.1) || (Option.isNone z81.1)) || (Option.isNone z91.1)) || (z71.2 != 0))) ?_
    refine vg0 rfl rfl rfl rfl rfl (fun hg107 => QV.qo (q_move (v := .int .i64 z81.2) rfl (by kernel_rfl))) ?_
    refine vg0 rfl rfl rfl rfl rfl (fun hg108 => QV.qo (q_neq rfl (gu hg108 rfl) rfl)) ?_
    refine vb (q_pick rfl rfl (pk_or' (g := ((((Option.isNone z71.1) || (Option.isNone z81.1)) || (Option.isNone z91.1)) || (z71.2 != 0))) (y := (z81.2 != 0)))) ?_
    refine mv (v := .bool (((((Option.isNone z71.1) || (Option.isNone z81.1)) || (Option.isNone z91.1)) || (z71.2 != 0)) || (z81.2 != 0))) ?_
    refine vg0 rfl rfl rfl rfl rfl (fun hg109 => QV.qo (q_move (v := .int .i64 z91.2) rfl (by kernel_rfl))) ?_
    refine vg0 rfl rfl rfl rfl rfl (fun hg110 => QV.qo (q_neq rfl (gu hg110 rfl) rfl)) ?_
    refine vb (q_pick rfl rfl (pk_or' (g := (((((Option.isNone z71.1) || (Option.isNone z81.1)) || (Option.isNone z91.1)) || (z71.2 != 0)) || (z81.2 != 0))) (y := (z91.2 != 0)))) ?_
    refine WR.done ?_
    refine WC.cif h (by kernel_rfl) (fun hb111 h => ?_) (fun hb111 h => ?_)
    ·
     refine WC.rs ?_
     refine as_ (v := .bool false) ?_
     refine WR.done ?_
     refine WC.ret ?_
     intro w hw
     obtain rfl := Option.some.inj h
     subst hF
     exact ⟨by kernel_rfl, hw.fr⟩
    ·
     obtain ⟨z112, hz113, h⟩ := bnd h
     have ho114 := optob_some hr99 hz113
     obtain ⟨z115, hz116, h⟩ := bnd h
     have ho117 := optob_some (optob_mono hr89 (fun _ h => h.mono hl94)) hz116
     obtain ⟨z118, hz119, h⟩ := bnd h
     have ho120 := optob_some (optob_mono hr79 (fun _ h => h.mono (hl84.trans hl94))) hz119
     refine WC.skip ?_
     change WC _ _ _ _ _ _
     refine WC.rs ?_
     refine vb (q_move (v := (pq g87)) rfl (optp_some rfl hz116)) ?_
     refine vb (q_move (v := (pq g77)) rfl (optp_some rfl hz119)) ?_
     obtain ⟨z121, hz122, h⟩ := bnd h
     refine e_call (is := [2]) rfl rfl (call_run Tryz.call18 rfl rfl (by kernel_rfl)) rfl (fun w hp => t_pull_Cut_Vec ho120 hp hz122) ?_
     rintro Γ123 U125 v126 hl124 ⟨A127, c128, row129, rfl, rfl, hr130, _⟩
     change WR _ _ _ (CC F Γ123 [row78, row129, row98, row88, [], row22]) _ _ (upd _ 94 (.slice A127 z121.length c128))
     refine vb (q_move (v := (pq g77)) rfl (optp_some rfl hz119)) ?_
     obtain ⟨z131, hz132, h⟩ := bnd h
     refine e_call (is := [0]) rfl rfl (call_run Tryz.call19 rfl rfl (by kernel_rfl)) rfl (fun w hp => t_pull_Cut_Open (ho120.mono hl124) hp hz132) ?_
     rintro Γ133 U135 v136 hl134 ⟨row137, A139, c140, row141, rfl, rfl, hr138, hr142, _⟩
     change WR _ _ _ (CC F Γ133 [row137, row141, row129, row98, row88, [], row22]) _ _ (upd _ 96 (.slice A139 z131.2.length c140))
     have hc147 := (hr130.mono hl134).capz
     intro w hw; obtain ⟨Γ143, hw, hl144, hr145⟩ := hw.seal (i := 2) rfl; have hs146 := (hr130.mono hl134).sl hl144 hr145
     refine WR.here (C := CC F Γ143 [row137, row141, [], row98, row88, [], row22]) ?_ hw
     clear hw
     have hc152 := (hr142.mono hl144).capz
     intro w hw; obtain ⟨Γ148, hw, hl149, hr150⟩ := hw.seal (i := 1) rfl; have hs151 := (hr142.mono hl144).sl hl149 hr150
     refine WR.here (C := CC F Γ148 [row137, [], [], row98, row88, [], row22]) ?_ hw
     clear hw
     obtain ⟨z153, hz154, h⟩ := bnd h
     refine e_call (is := [4]) rfl rfl (call_run Tryz.call24 rfl rfl (by kernel_rfl)) rfl (fun w hp => t_pull_Pull_Begin (ho117.mono (((hl124.trans hl134).trans hl144).trans hl149)) (hs146.mono hl149) hc147 hs151 hc152 hp hz154) ?_
     rintro Γ155 U157 v158 hl156 ⟨row159, rfl, rfl, hr160, _⟩
     change WR _ _ _ (CC F Γ155 [row159, row137, [], [], row98, [], row22]) _ _ (upd _ 97 (.bool z153.2))
     refine WR.done ?_
     refine WC.rs ?_
     refine vb (q_move (v := (pq g97)) rfl (optp_some rfl hz113)) ?_
     refine vb (q_move (v := (pq g77)) rfl (optp_some rfl hz119)) ?_
     obtain ⟨z161, hz162, h⟩ := bnd h
     refine e_call (is := [1]) rfl rfl (call_run Tryz.call18 rfl rfl (by kernel_rfl)) rfl (fun w hp => t_pull_Cut_Vec (hr138.mono ((hl144.trans hl149).trans hl156)) hp hz162) ?_
     rintro Γ163 U165 v166 hl164 ⟨A167, c168, row169, rfl, rfl, hr170, _⟩
     change WR _ _ _ (CC F Γ163 [row137, row169, row159, [], [], row98, [], row22]) _ _ (upd _ 100 (.slice A167 z161.length c168))
     refine vb (q_move (v := (pq g77)) rfl (optp_some rfl hz119)) ?_
     obtain ⟨z171, hz172, h⟩ := bnd h
     refine e_call (is := [0]) rfl rfl (call_run Tryz.call19 rfl rfl (by kernel_rfl)) rfl (fun w hp => t_pull_Cut_Open (hr138.mono (((hl144.trans hl149).trans hl156).trans hl164)) hp hz172) ?_
     rintro Γ173 U175 v176 hl174 ⟨row177, A179, c180, row181, rfl, rfl, hr178, hr182, _⟩
     change WR _ _ _ (CC F Γ173 [row177, row181, row169, row159, [], [], row98, [], row22]) _ _ (upd _ 102 (.slice A179 z171.2.length c180))
     have hc187 := (hr170.mono hl174).capz
     intro w hw; obtain ⟨Γ183, hw, hl184, hr185⟩ := hw.seal (i := 2) rfl; have hs186 := (hr170.mono hl174).sl hl184 hr185
     refine WR.here (C := CC F Γ183 [row177, row181, [], row159, [], [], row98, [], row22]) ?_ hw
     clear hw
     have hc192 := (hr182.mono hl184).capz
     intro w hw; obtain ⟨Γ188, hw, hl189, hr190⟩ := hw.seal (i := 1) rfl; have hs191 := (hr182.mono hl184).sl hl189 hr190
     refine WR.here (C := CC F Γ188 [row177, [], [], row159, [], [], row98, [], row22]) ?_ hw
     clear hw
     obtain ⟨z193, hz194, h⟩ := bnd h
     refine e_call (is := [6]) rfl rfl (call_run Tryz.call24 rfl rfl (by kernel_rfl)) rfl (fun w hp => t_pull_Pull_Begin (ho114.mono ((((((((hl124.trans hl134).trans hl144).trans hl149).trans hl156).trans hl164).trans hl174).trans hl184).trans hl189)) (hs186.mono hl189) hc187 hs191 hc192 hp hz194) ?_
     rintro Γ195 U197 v198 hl196 ⟨row199, rfl, rfl, hr200, _⟩
     change WR _ _ _ (CC F Γ195 [row199, row177, [], [], row159, [], [], [], row22]) _ _ (upd _ 103 (.bool z193.2))
     refine WR.done ?_
     refine WC.seq ?_
     refine WC.rs ?_
     refine vb (q_move (v := (pq g87)) rfl (optp_some rfl hz116)) ?_
     obtain ⟨z201, hz202, h⟩ := bnd h
     refine vc rfl rfl rfl (q_call (call_run Tryz.call28 rfl rfl (by kernel_rfl)) (fun w hw => t_pull_Pull_Done (Γ := Gh.all w) ((hr160.mono ((((hl164.trans hl174).trans hl184).trans hl189).trans hl196)).mono hw.sat.le_all) (hw.ra 4 rfl) (Sat.all w) hz202)) ?_
     refine vb (q_not rfl rfl) ?_
     refine mv (v := .bool (!z201)) ?_
     refine vg0 rfl rfl rfl rfl rfl (fun hg203 => QV.qo (q_move (v := (pq g97)) rfl (optp_some rfl hz113))) ?_
     refine (Bool.eq_false_or_eq_true (!(!z201))).elim (fun hb204 => ?_) (fun hb204 => ?_)
     ·
      have h := bt hb204 h
      refine WR.sat (c0 := true) (g := (!z201)) rfl rfl rfl hb204 ?_
      obtain ⟨z205, hz206, h⟩ := bnd h
      refine e_call (is := [0]) rfl rfl (call_run Tryz.call31 rfl rfl (args1 (gu hb204 rfl))) rfl (fun w hp => t_pull_Pull_Wants hr200 hp hz206) ?_
      rintro Γ207 U209 v210 hl208 ⟨A211, c212, row213, rfl, rfl, hr214, _⟩
      change WR _ _ _ (CC F Γ207 [row199, row213, row177, [], [], row159, [], [], [], row22]) _ _ (upd _ 109 (.slice A211 z205.length c212))
      refine WR.sat (c0 := true) (g := (!z201)) rfl rfl rfl hb204 ?_
      refine vb (q_len_slice rfl Tryz.underlying57 rfl) ?_
      refine WR.sat (c0 := true) (g := (!z201)) rfl rfl rfl hb204 ?_
      refine mv (v := .slice A20 z14.1.length c21) ?_
      refine WR.sat (c0 := true) (g := (!z201)) rfl rfl rfl hb204 ?_
      refine vb (q_len_slice rfl Tryz.underlying23 rfl) ?_
      refine WR.sat (c0 := true) (g := (!z201)) rfl rfl rfl hb204 ?_
      refine vb (q_gtr rfl rfl rfl) ?_
      refine vb (q_pick_f (v := .bool (decide (((z14.1.length : Nat) : Int) < ((z205.length : Nat) : Int)))) rfl rfl (not_t hb204) (by kernel_rfl)) ?_
      refine WR.done ?_
      refine WC.cif h (by kernel_rfl) (fun hb215 h => ?_) (fun hb215 h => ?_)
      ·
       refine WC.rs ?_
       refine as_ (v := .bool false) ?_
       refine WR.done ?_
       refine WC.ret ?_
       intro w hw
       obtain rfl := Option.some.inj h
       subst hF
       exact ⟨by kernel_rfl, hw.fr⟩
      ·
       refine WC.skip ?_
       change WC _ _ _ _ _ _
       refine WC.rs ?_
       refine as_ (v := .int .i64 0) ?_
       refine WR.done ?_
       refine WC.seq ?_
       refine WC.rs ?_
       refine as_ (v := .int .i64 0) ?_
       refine WR.done ?_
       refine WC.block ?_
       refine WC.loopN h (fun (s : Int × Int × Opull_Pull × Opull_Cut) σ w => match s with | (leaves_218, i_220, o222, o225) => ∃ (Γ216 : Gh), ∃ (row223 : Rowb), ∃ (row226 : Rowb), slots σ [(7, .slice A20 z14.1.length c21), (11, optp z71.1 g77), (15, optp z91.1 g97), (17, .int .i64 leaves_218), (18, .int .i64 i_220)] ∧ CC F Γ216 [row223, row226, row159, row22] w ∧ Gh.le Γ207 Γ216 ∧ I64 leaves_218 ∧ I64 i_220 ∧ Opull_Pull.ob 97 Γ216 g97 row223 o222 ∧ Opull_Cut.ob 85 Γ216 g77 row226 o225 ∧ True) ?_ ?_
       ·
        intro w hw
        exact ⟨Γ207, row199, row177, (sl_ (by kernel_rfl)), (hw.only (is := [0, 1, 3, 6]) rfl), (Gh.refl _), (show I64 0 by decide), (show I64 0 by decide), (hr200.mono hl208), (hr178.mono (((hl184.trans hl189).trans hl196).trans hl208)), trivial⟩
       rintro f228 ⟨leaves_218, i_220, o222, o225⟩ σ w h ⟨Γ216, row223, row226, hsl, hw, hl217, hr219, hr221, ho224, ho227, -⟩
       refine Wpt.slots hsl ?_
       refine WC.here (C := CC F Γ216 [row223, row226, row159, row22]) ?_ hw
       clear hw hsl
       refine WC.seq ?_
       refine WC.rs ?_
       refine mv (v := .int .i64 i_220) ?_
       refine vb (q_lss rfl rfl rfl) ?_
       refine mv (v := .bool (decide (i_220 < 300))) ?_
       refine vg1 rfl rfl rfl rfl rfl (fun hg232 => QV.qo (q_move (v := (pq g97)) rfl (optp_some rfl hz113))) ?_
       obtain ⟨z234, hz235, h⟩ := bnd h
       refine vg1 rfl rfl rfl rfl rfl (fun hg233 => (q_call (call_run Tryz.call28 rfl rfl (args1 (gu hg233 rfl))) (fun w hw => t_pull_Pull_Done (Γ := Gh.all w) (ho224.mono hw.sat.le_all) (hw.ra 0 rfl) (Sat.all w) (gc_of hz235 hg233)))) ?_
       refine vg1 rfl rfl rfl rfl rfl (fun hg236 => QV.qo (q_not rfl (gu hg236 rfl))) ?_
       refine vb (q_pick rfl rfl (pk_and' (g := (decide (i_220 < 300))) (y := (!z234)))) ?_
       refine WR.done ?_
       refine WC.cif h (by kernel_rfl) (fun hb237 h => ?_) (fun hb237 h => ?_)
       ·
        refine WC.skip ?_
        change WC _ _ _ _ _ _
        refine WC.seq ?_
        refine WC.block ?_
        refine WC.rs ?_
        refine vb (q_move (v := (pq g97)) rfl (optp_some rfl hz113)) ?_
        obtain ⟨z238, hz239, h⟩ := bnd h
        refine e_call (is := [0]) rfl rfl (call_run Tryz.call31 rfl rfl (by kernel_rfl)) rfl (fun w hp => t_pull_Pull_Wants ho224 hp hz239) ?_
        rintro Γ240 U242 v243 hl241 ⟨A244, c245, row246, rfl, rfl, hr247, _⟩
        change WR _ _ _ (CC F Γ240 [row223, row246, row226, row159, row22]) _ _ (upd _ 125 (.slice A244 z238.length c245))
        obtain ⟨hk248, h⟩ := chk_some h
        refine vb (q_ixn (i := 0) Tryz.underlying57 Tryz.sizeOf24 rfl rfl rfl (of_decide_eq_true hk248) (hr247.some_ (of_decide_eq_true hk248))) ?_
        obtain ⟨A249, c250, hx251⟩ := hr247.slT_at 0
        refine vb (q_ldo (c := 0) (v := .slice A249 (gt z238 0).length c250) (i := 1) rfl (hx251 (of_decide_eq_true hk248)).2 rfl Tryz.isAgg24 rfl rfl) ?_
        refine as_ (v := .slice A249 (gt z238 0).length c250) ?_
        refine WR.done ?_
        refine WC.cut (fun σ w => ∃ (leaves_252 : Int), m_firthlaw19_PullFew_j7 i_220 o222 o225 f228 z238 leaves_252 = some r ∧ slots σ [(7, .slice A20 z14.1.length c21), (11, optp z71.1 g77), (15, optp z91.1 g97), (17, .int .i64 leaves_252), (18, .int .i64 i_220), (19, .slice A249 (gt z238 0).length c250)] ∧ CC F Γ240 [row223, row226, row159, row22] w ∧ I64 leaves_252 ∧ True) ?_ ?_
        ·
         refine WC.rs ?_
         refine mv (v := .slice A249 (gt z238 0).length c250) ?_
         refine vb (q_len_slice rfl Tryz.underlying24 rfl) ?_
         refine vb (q_eql rfl rfl rfl) ?_
         refine WR.done ?_
         refine WC.cif h (by kernel_rfl) (fun hb254 h => ?_) (fun hb254 h => ?_)
         ·
          refine WC.region ?_
          refine mv (v := .int .i64 leaves_218) ?_
          refine vb (q_add rfl rfl rfl) ?_
          refine as_ (v := .int .i64 (w64 (leaves_218 + 1))) ?_
          refine WR.nil ?_
          intro w hw
          exact ⟨(w64 (leaves_218 + 1)), h, (sl_ (by kernel_rfl)), (hw.only (is := [0, 1, 1, 1]) rfl), (w64_r _), trivial⟩
         ·
          refine WC.skip ?_
          intro w hw
          exact ⟨leaves_218, h, (sl_ (by kernel_rfl)), (hw.only (is := [0, 1, 1, 1]) rfl), hr219, trivial⟩
        ·
         rintro σ w ⟨leaves_252, h, hsl, hw, hr253, -⟩
         refine Wpt.slots hsl ?_
         refine WC.here (C := CC F Γ240 [row223, row226, row159, row22]) ?_ hw
         clear hw hsl
         refine WC.rs ?_
         refine vb (q_move (v := (pq g77)) rfl (optp_some rfl hz119)) ?_
         refine mv (v := .slice A249 (gt z238 0).length c250) ?_
         obtain ⟨z255, hz256, h⟩ := bnd h
         refine e_call (is := [1]) rfl rfl (call_run Tryz.call13 rfl rfl (by kernel_rfl)) rfl (fun w hp => t_pull_Cut_Want (ho227.mono hl241) (hx251 (of_decide_eq_true hk248)).1.2 (hx251 (of_decide_eq_true hk248)).1.1 hp hz256) ?_
         rintro Γ257 U259 v260 hl258 ⟨row261, A263, c264, row265, A267, c268, row269, rfl, rfl, hr262, hr266, hr270, _⟩
         change WR _ _ _ (CC F Γ257 [row261, row265, row269, row223, row159, row22]) _ _ (upd _ 136 (.tuple #[.slice A263 z255.2.1.length c264, .slice A267 z255.2.2.1.length c268, .bool z255.2.2.2]))
         refine mv (v := .tuple #[.slice A263 z255.2.1.length c264, .slice A267 z255.2.2.1.length c268, .bool z255.2.2.2]) ?_
         refine vb (q_extract (v := .slice A263 z255.2.1.length c264) rfl rfl rfl) ?_
         refine vb (q_extract (v := .slice A267 z255.2.2.1.length c268) rfl rfl rfl) ?_
         refine vb (q_extract (v := .bool z255.2.2.2) rfl rfl rfl) ?_
         refine as_ (v := .slice A263 z255.2.1.length c264) ?_
         refine as_ (v := .slice A267 z255.2.2.1.length c268) ?_
         refine as_ (v := .bool z255.2.2.2) ?_
         refine WR.done ?_
         refine WC.rs ?_
         refine mv (v := .bool z255.2.2.2) ?_
         refine vb (q_not rfl rfl) ?_
         refine mv (v := .bool (!z255.2.2.2)) ?_
         refine vg0 rfl rfl rfl rfl rfl (fun hg271 => QV.qo (q_move (v := (pq g97)) rfl (optp_some rfl hz113))) ?_
         refine vg0 rfl rfl rfl rfl rfl (fun hg272 => QV.qo (q_move (v := .slice A249 (gt z238 0).length c250) rfl (by kernel_rfl))) ?_
         refine vg0 rfl rfl rfl rfl rfl (fun hg273 => QV.qo (q_move (v := .slice A263 z255.2.1.length c264) rfl (by kernel_rfl))) ?_
         refine vg0 rfl rfl rfl rfl rfl (fun hg274 => QV.qo (q_move (v := .slice A267 z255.2.2.1.length c268) rfl (by kernel_rfl))) ?_
         refine (Bool.eq_false_or_eq_true (!(!z255.2.2.2))).elim (fun hb275 => ?_) (fun hb275 => ?_)
         ·
          have h := bt hb275 h
          refine WR.sat (c0 := true) (g := (!z255.2.2.2)) rfl rfl rfl hb275 ?_
          have hc280 := hr266.capz
          intro w hw; obtain ⟨Γ276, hw, hl277, hr278⟩ := hw.seal (i := 1) rfl; have hs279 := hr266.sl hl277 hr278
          refine WR.here (C := CC F Γ276 [row261, [], row269, row223, row159, row22]) ?_ hw
          clear hw
          have hc285 := (hr270.mono hl277).capz
          intro w hw; obtain ⟨Γ281, hw, hl282, hr283⟩ := hw.seal (i := 2) rfl; have hs284 := (hr270.mono hl277).sl hl282 hr283
          refine WR.here (C := CC F Γ281 [row261, [], [], row223, row159, row22]) ?_ hw
          clear hw
          obtain ⟨z286, hz287, h⟩ := bnd h
          refine e_call (is := [3]) rfl rfl (call_run Tryz.call26 rfl rfl (args4 (gu hb275 rfl) (gu hb275 rfl) (gu hb275 rfl) (gu hb275 rfl))) rfl (fun w hp => t_pull_Pull_Tell (ho224.mono (((hl241.trans hl258).trans hl277).trans hl282)) ((hx251 (of_decide_eq_true hk248)).1.2.mono ((hl258.trans hl277).trans hl282)) (hx251 (of_decide_eq_true hk248)).1.1 (hs279.mono hl282) hc280 hs284 hc285 hp hz287) ?_
          rintro Γ288 U290 v291 hl289 ⟨row292, rfl, rfl, hr293, _⟩
          change WR _ _ _ (CC F Γ288 [row292, row261, [], [], row159, row22]) _ _ (upd _ 147 (.bool z286.2))
          refine WR.sat (c0 := true) (g := (!z255.2.2.2)) rfl rfl rfl hb275 ?_
          refine vb (q_not rfl rfl) ?_
          refine vb (q_pick_f (v := .bool (!z286.2)) rfl rfl (not_t hb275) (by kernel_rfl)) ?_
          refine WR.done ?_
          refine WC.cif h (by kernel_rfl) (fun hb294 h => ?_) (fun hb294 h => ?_)
          ·
           refine WC.rs ?_
           refine as_ (v := .bool false) ?_
           refine WR.done ?_
           refine WC.ret ?_
           intro w hw
           obtain rfl := Option.some.inj h
           subst hF
           exact ⟨by kernel_rfl, hw.fr⟩
          ·
           refine WC.skip ?_
           change WC _ _ _ _ _ _
           refine WC.region ?_
           refine mv (v := .int .i64 i_220) ?_
           refine vb (q_add rfl rfl rfl) ?_
           refine as_ (v := .int .i64 (w64 (i_220 + 1))) ?_
           refine WR.nil ?_
           intro w hw
           exact ⟨(leaves_252, (w64 (i_220 + 1)), z286.1, z255.1), h, Γ288, row292, row261, (sl_ (by kernel_rfl)), (hw.only (is := [0, 0, 2, 2]) rfl), (((((hl217.trans hl241).trans hl258).trans hl277).trans hl282).trans hl289), hr253, (w64_r _), hr293, (hr262.mono ((hl277.trans hl282).trans hl289)), trivial⟩
         ·
          have h := bf hb275 h
          refine WR.unsat (c0 := true) (g := (!z255.2.2.2)) rfl rfl rfl hb275 rfl ?_
          refine WR.unsat (c0 := true) (g := (!z255.2.2.2)) rfl rfl rfl hb275 rfl ?_
          refine vb (q_pick_t (v := .bool true) rfl rfl (not_f hb275) (by kernel_rfl)) ?_
          refine WR.done ?_
          refine WC.ctk (b := true) (by kernel_rfl) rfl ?_
          refine WC.rs ?_
          refine as_ (v := .bool false) ?_
          refine WR.done ?_
          refine WC.ret ?_
          intro w hw
          obtain rfl := Option.some.inj h
          subst hF
          exact ⟨by kernel_rfl, hw.fr⟩
       ·
        refine WC.exit ?_
        change WC _ _ _ _ _ _
        refine WC.rs ?_
        refine vb (q_move (v := (pq g97)) rfl (optp_some rfl hz113)) ?_
        obtain ⟨z295, hz296, h⟩ := bnd h
        refine vc rfl rfl rfl (q_call (call_run Tryz.call28 rfl rfl (by kernel_rfl)) (fun w hw => t_pull_Pull_Done (Γ := Gh.all w) (ho224.mono hw.sat.le_all) (hw.ra 0 rfl) (Sat.all w) hz296)) ?_
        refine mv (v := .bool z295) ?_
        refine vg1 rfl rfl rfl rfl rfl (fun hg297 => QV.qo (q_move (v := .int .i64 leaves_218) rfl (by kernel_rfl))) ?_
        refine vg1 rfl rfl rfl rfl rfl (fun hg298 => QV.qo (q_move (v := .slice A20 z14.1.length c21) rfl (by kernel_rfl))) ?_
        refine vg1 rfl rfl rfl rfl rfl (fun hg299 => QV.qo (q_len_slice rfl Tryz.underlying23 (gu hg299 rfl))) ?_
        refine vg1 rfl rfl rfl rfl rfl (fun hg300 => QV.qo (q_leq rfl (gu hg300 rfl) (gu hg300 rfl))) ?_
        refine vb (q_pick rfl rfl (pk_and' (g := z295) (y := (decide (leaves_218 ≤ ((z14.1.length : Nat) : Int)))))) ?_
        refine as_ (v := .bool (z295 && (decide (leaves_218 ≤ ((z14.1.length : Nat) : Int))))) ?_
        refine WR.done ?_
        refine WC.ret ?_
        intro w hw
        obtain rfl := Option.some.inj h
        subst hF
        exact ⟨by kernel_rfl, hw.fr⟩
     ·
      have h := bf hb204 h
      refine WR.unsat (c0 := true) (g := (!z201)) rfl rfl rfl hb204 rfl ?_
      refine WR.unsat (c0 := true) (g := (!z201)) rfl rfl rfl hb204 rfl ?_
      refine WR.unsat (c0 := true) (g := (!z201)) rfl rfl rfl hb204 rfl ?_
      refine WR.unsat (c0 := true) (g := (!z201)) rfl rfl rfl hb204 rfl ?_
      refine WR.unsat (c0 := true) (g := (!z201)) rfl rfl rfl hb204 rfl ?_
      refine vb (q_pick_t (v := .bool true) rfl rfl (not_f hb204) (by kernel_rfl)) ?_
      refine WR.done ?_
      refine WC.ctk (b := true) (by kernel_rfl) rfl ?_
      refine WC.rs ?_
      refine as_ (v := .bool false) ?_
      refine WR.done ?_
      refine WC.ret ?_
      intro w hw
      obtain rfl := Option.some.inj h
      subst hF
      exact ⟨by kernel_rfl, hw.fr⟩
end Fw
end Go.Proofs.YtiakfgdgafljnaaGreat
