/- Walks through the functions that the law reaches (printed by a program). No condition. -/
import Derived.Test.YtmmnpinpcgidnaaGreatW2
namespace Go.Proofs.YtmmnpinpcgidnaaGreat
namespace Fw
set_option linter.unusedVariables false
set_option linter.unusedSimpArgs false
set_option linter.unusedSectionVars false
open Go.RowKit
set_option maxRecDepth 100000 in
set_option maxHeartbeats 400000 in
theorem t_firthref05_Same {Γ : Gh} {w0 : World} {Aa : Option Addr} {ca : Nat} {a : List Ver} (ha : Sl verT Γ Aa a) (hac : a.length ≤ ca) {Ab : Option Addr} {cb : Nat} {b : List Ver} (hb : Sl verT Γ Ab b) (hbc : b.length ≤ cb) (hs : Sat Γ w0) {r : Bool} (h : m_firthref05_Same a b = some r) : Calls Tryz.prog 31 #[.slice Aa a.length ca, .slice Ab b.length cb] w0 (fun e w' => e = .returned (.bool r) ∧ Fr no w0 w') := by
  refine calls_of (N := 27) (rs := [4]) (args := [.slice Aa a.length ca, .slice Ab b.length cb]) Tryz.func31 rfl Tryz.ntmps31 Tryz.results31 rfl ?_
  obtain ⟨F, hF⟩ : ∃ F : Fm, F = ⟨no, w0, Γ⟩ := ⟨_, rfl⟩
  refine WC.here (C := CC F Γ []) ?_ (hF ▸ Cur.start0 hs)
  refine WC.rs ?_
  refine va rfl rfl rfl (q_assign (v := .bool false) rfl (by kernel_rfl)) ?_
  refine WR.nil ?_
  change WC _ _ _ _ _ _
  refine WC.seq ?_
  refine WC.rs ?_
  refine va rfl rfl rfl (q_move (v := .slice Aa a.length ca) rfl (by kernel_rfl)) ?_
  refine va rfl rfl rfl (q_len_slice rfl Tryz.underlying39 rfl) ?_
  refine va rfl rfl rfl (q_move (v := .slice Ab b.length cb) rfl (by kernel_rfl)) ?_
  refine va rfl rfl rfl (q_len_slice rfl Tryz.underlying39 rfl) ?_
  refine va rfl rfl rfl (q_neq rfl rfl rfl) ?_
  refine WR.nil ?_
  change WC _ _ _ _ _ _
  refine WC.cif h (by kernel_rfl) (fun hb1 h => ?_) (fun hb1 h => ?_)
  · skip
    refine WC.rs ?_
    refine va rfl rfl rfl (q_assign (v := .bool false) rfl (by kernel_rfl)) ?_
    refine WR.nil ?_
    change WC _ _ _ _ _ _
    refine WC.ret ?_
    intro w hw
    obtain rfl := Option.some.inj h
    subst hF
    exact ⟨by kernel_rfl, hw.fr⟩
  · skip
    refine WC.skip ?_
    change WC _ _ _ _ _ _
    refine WC.seq ?_
    refine WC.rs ?_
    refine va rfl rfl rfl (q_assign (v := .int .i64 0) rfl (by kernel_rfl)) ?_
    refine WR.nil ?_
    change WC _ _ _ _ _ _
    refine WC.block ?_
    refine WC.forI h (fun (i3 : Nat) (s : Unit) σ w => match s with | () => slots σ [(0, .slice Aa a.length ca), (1, .slice Ab b.length cb), (5, .int .i64 ((i3 : Nat) : Int))] ∧ CC F Γ [] w ∧ True) ?_ ?_
    · skip
      intro w hw
      exact ⟨(sl_ (by kernel_rfl)), hw, trivial⟩
    rintro f2 i3 ⟨⟩ σ w hi4 hlt5 hge6 ⟨hsl, hw, -⟩
    refine Wpt.slots hsl ?_
    refine WC.here (C := CC F Γ []) ?_ hw
    clear hw hsl
    refine WC.seq ?_
    refine WC.rs ?_
    refine va rfl rfl rfl (q_move (v := .int .i64 ((i3 : Nat) : Int)) rfl (by kernel_rfl)) ?_
    refine va rfl rfl rfl (q_move (v := .slice Aa a.length ca) rfl (by kernel_rfl)) ?_
    refine va rfl rfl rfl (q_len_slice rfl Tryz.underlying39 rfl) ?_
    refine va rfl rfl rfl (q_lss rfl rfl rfl) ?_
    refine WR.nil ?_
    change WC _ _ _ _ _ _
    refine WC.cond (b := (decide (((i3 : Nat) : Int) < ((a.length : Nat) : Int)))) (by kernel_rfl) (fun hb7 => ?_) (fun hb7 => ?_)
    · skip
      have hl8 := ilt hb7
      have h := hlt5 hl8
      refine WC.skip ?_
      change WC _ _ _ _ _ _
      refine WC.seq ?_
      refine WC.block ?_
      refine WC.seq ?_
      refine WC.dr (by kernel_rfl) (by kernel_rfl) (fun w hw => hw.drawn _) ?_
      refine wa rfl rfl rfl (q_move (v := .slice Aa a.length ca) rfl (by kernel_rfl)) ?_
      refine wa rfl rfl rfl (q_move (v := .int .i64 ((i3 : Nat) : Int)) rfl (by kernel_rfl)) ?_
      refine wa rfl rfl rfl (q_ixn (i := i3) Tryz.underlying39 Tryz.sizeOf51 rfl rfl rfl hl8 (ha.some_ hl8)) ?_
      obtain ⟨A9, c10, hx11⟩ := ha.verT_at i3
      refine wa rfl rfl rfl (q_lda (c := 0) (vs := [.int .i64 (gt a i3).dot.s, .int .i64 (gt a i3).dot.n, .slice A9 ((gt a i3).past).length c10, .bool (gt a i3).gone, .string (gt a i3).val]) (hx11 hl8).2 rfl Tryz.isAgg51 Tryz.sizeOf51 rfl rfl rfl) ?_
      refine wa rfl rfl rfl (q_move (v := .slice Ab b.length cb) rfl (by kernel_rfl)) ?_
      refine wa rfl rfl rfl (q_move (v := .int .i64 ((i3 : Nat) : Int)) rfl (by kernel_rfl)) ?_
      obtain ⟨hk12, h⟩ := chk_some h
      refine wa rfl rfl rfl (q_ixn (i := i3) Tryz.underlying39 Tryz.sizeOf51 rfl rfl rfl (of_decide_eq_true hk12) (hb.some_ (of_decide_eq_true hk12))) ?_
      obtain ⟨A13, c14, hx15⟩ := hb.verT_at i3
      refine wa rfl rfl rfl (q_lda (c := 0) (vs := [.int .i64 (gt b i3).dot.s, .int .i64 (gt b i3).dot.n, .slice A13 ((gt b i3).past).length c14, .bool (gt b i3).gone, .string (gt b i3).val]) (hx15 (of_decide_eq_true hk12)).2 rfl Tryz.isAgg51 Tryz.sizeOf51 rfl rfl rfl) ?_
      obtain ⟨z16, hz17, h⟩ := bnd h
      refine wc rfl rfl rfl (q_call (call_run Tryz.call46 rfl rfl (by kernel_rfl)) (fun w hw => t_firthref05_SameOne (Γ := Gh.all w) (gt a i3) (Ver.fits_mono (hx11 hl8).1 hw.sat.le_all) (gt b i3) (Ver.fits_mono (hx15 (of_decide_eq_true hk12)).1 hw.sat.le_all) (Sat.all w) hz17)) ?_
      refine wa rfl rfl rfl (q_not rfl rfl) ?_
      refine WQ.nil ?_
      change WC _ _ _ _ _ _
      refine WC.cif h (by kernel_rfl) (fun hb18 h => ?_) (fun hb18 h => ?_)
      · skip
        refine WC.rs ?_
        refine va rfl rfl rfl (q_assign (v := .bool false) rfl (by kernel_rfl)) ?_
        refine WR.nil ?_
        change WC _ _ _ _ _ _
        refine WC.ret ?_
        intro w hw
        obtain rfl := Option.some.inj h
        subst hF
        exact ⟨by kernel_rfl, hw.fr⟩
      · skip
        refine WC.skip ?_
        change WC _ _ _ _ _ _
        refine WC.region ?_
        refine va rfl rfl rfl (q_move (v := .int .i64 ((i3 : Nat) : Int)) rfl (by kernel_rfl)) ?_
        refine va rfl rfl rfl (q_add_r (r := ((i3 + 1 : Nat) : Int)) rfl rfl rfl (ctr_len hl8 ha.le)) ?_
        refine va rfl rfl rfl (q_assign (v := .int .i64 ((i3 + 1 : Nat) : Int)) rfl (by kernel_rfl)) ?_
        refine WR.nil ?_
        intro w hw
        exact ⟨hl8, (), h, (sl_ (by kernel_rfl)), hw, trivial⟩
    · skip
      have h := hge6 (ige hb7)
      refine WC.exit ?_
      change WC _ _ _ _ _ _
      refine WC.rs ?_
      refine va rfl rfl rfl (q_assign (v := .bool true) rfl (by kernel_rfl)) ?_
      refine WR.nil ?_
      change WC _ _ _ _ _ _
      refine WC.ret ?_
      intro w hw
      obtain rfl := Option.some.inj h
      subst hF
      exact ⟨by kernel_rfl, hw.fr⟩
set_option maxRecDepth 100000 in
set_option maxHeartbeats 400000 in
theorem t_firthref06_SameRecs {Γ : Gh} {w0 : World} {Aa : Option Addr} {ca : Nat} {a : List Rec} (ha : Sl recT Γ Aa a) (hac : a.length ≤ ca) {Ab : Option Addr} {cb : Nat} {b : List Rec} (hb : Sl recT Γ Ab b) (hbc : b.length ≤ cb) (hs : Sat Γ w0) {r : Bool} (h : m_firthref06_SameRecs a b = some r) : Calls Tryz.prog 12 #[.slice Aa a.length ca, .slice Ab b.length cb] w0 (fun e w' => e = .returned (.bool r) ∧ Fr no w0 w') := by
  refine calls_of (N := 42) (rs := [4]) (args := [.slice Aa a.length ca, .slice Ab b.length cb]) Tryz.func12 rfl Tryz.ntmps12 Tryz.results12 rfl ?_
  obtain ⟨F, hF⟩ : ∃ F : Fm, F = ⟨no, w0, Γ⟩ := ⟨_, rfl⟩
  refine WC.here (C := CC F Γ []) ?_ (hF ▸ Cur.start0 hs)
  refine WC.rs ?_
  refine va rfl rfl rfl (q_assign (v := .bool false) rfl (by kernel_rfl)) ?_
  refine WR.nil ?_
  change WC _ _ _ _ _ _
  refine WC.seq ?_
  refine WC.rs ?_
  refine va rfl rfl rfl (q_move (v := .slice Aa a.length ca) rfl (by kernel_rfl)) ?_
  refine va rfl rfl rfl (q_len_slice rfl Tryz.underlying22 rfl) ?_
  refine va rfl rfl rfl (q_move (v := .slice Ab b.length cb) rfl (by kernel_rfl)) ?_
  refine va rfl rfl rfl (q_len_slice rfl Tryz.underlying22 rfl) ?_
  refine va rfl rfl rfl (q_neq rfl rfl rfl) ?_
  refine WR.nil ?_
  change WC _ _ _ _ _ _
  refine WC.cif h (by kernel_rfl) (fun hb1 h => ?_) (fun hb1 h => ?_)
  · skip
    refine WC.rs ?_
    refine va rfl rfl rfl (q_assign (v := .bool false) rfl (by kernel_rfl)) ?_
    refine WR.nil ?_
    change WC _ _ _ _ _ _
    refine WC.ret ?_
    intro w hw
    obtain rfl := Option.some.inj h
    subst hF
    exact ⟨by kernel_rfl, hw.fr⟩
  · skip
    refine WC.skip ?_
    change WC _ _ _ _ _ _
    refine WC.seq ?_
    refine WC.rs ?_
    refine va rfl rfl rfl (q_assign (v := .int .i64 0) rfl (by kernel_rfl)) ?_
    refine WR.nil ?_
    change WC _ _ _ _ _ _
    refine WC.block ?_
    refine WC.forI h (fun (i3 : Nat) (s : Unit) σ w => match s with | () => slots σ [(0, .slice Aa a.length ca), (1, .slice Ab b.length cb), (5, .int .i64 ((i3 : Nat) : Int))] ∧ CC F Γ [] w ∧ True) ?_ ?_
    · skip
      intro w hw
      exact ⟨(sl_ (by kernel_rfl)), hw, trivial⟩
    rintro f2 i3 ⟨⟩ σ w hi4 hlt5 hge6 ⟨hsl, hw, -⟩
    refine Wpt.slots hsl ?_
    refine WC.here (C := CC F Γ []) ?_ hw
    clear hw hsl
    refine WC.seq ?_
    refine WC.rs ?_
    refine va rfl rfl rfl (q_move (v := .int .i64 ((i3 : Nat) : Int)) rfl (by kernel_rfl)) ?_
    refine va rfl rfl rfl (q_move (v := .slice Aa a.length ca) rfl (by kernel_rfl)) ?_
    refine va rfl rfl rfl (q_len_slice rfl Tryz.underlying22 rfl) ?_
    refine va rfl rfl rfl (q_lss rfl rfl rfl) ?_
    refine WR.nil ?_
    change WC _ _ _ _ _ _
    refine WC.cond (b := (decide (((i3 : Nat) : Int) < ((a.length : Nat) : Int)))) (by kernel_rfl) (fun hb7 => ?_) (fun hb7 => ?_)
    · skip
      have hl8 := ilt hb7
      have h := hlt5 hl8
      refine WC.skip ?_
      change WC _ _ _ _ _ _
      refine WC.seq ?_
      refine WC.block ?_
      refine WC.seq ?_
      refine WC.dr (by kernel_rfl) (by kernel_rfl) (fun w hw => hw.drawn _) ?_
      refine wa rfl rfl rfl (q_move (v := .slice Aa a.length ca) rfl (by kernel_rfl)) ?_
      refine wa rfl rfl rfl (q_move (v := .int .i64 ((i3 : Nat) : Int)) rfl (by kernel_rfl)) ?_
      refine wa rfl rfl rfl (q_ixn (i := i3) Tryz.underlying22 Tryz.sizeOf41 rfl rfl rfl hl8 (ha.some_ hl8)) ?_
      refine wa rfl rfl rfl (q_field_addr (i3 * 2) fld_41_0 rfl rfl (ha.some_ hl8) rfl) ?_
      obtain ⟨A9, c10, hx11⟩ := ha.recT_at i3
      refine wa rfl rfl rfl (q_ld (c := 0) (v := .string (gt a i3).key) (hx11 hl8).2 rfl Tryz.isAgg9 rfl rfl) ?_
      refine wa rfl rfl rfl (q_move (v := .slice Ab b.length cb) rfl (by kernel_rfl)) ?_
      refine wa rfl rfl rfl (q_move (v := .int .i64 ((i3 : Nat) : Int)) rfl (by kernel_rfl)) ?_
      obtain ⟨hk12, h⟩ := chk_some h
      refine wa rfl rfl rfl (q_ixn (i := i3) Tryz.underlying22 Tryz.sizeOf41 rfl rfl rfl (of_decide_eq_true hk12) (hb.some_ (of_decide_eq_true hk12))) ?_
      refine wa rfl rfl rfl (q_field_addr (i3 * 2) fld_41_0 rfl rfl (hb.some_ (of_decide_eq_true hk12)) rfl) ?_
      obtain ⟨A13, c14, hx15⟩ := hb.recT_at i3
      refine wa rfl rfl rfl (q_ld (c := 0) (v := .string (gt b i3).key) (hx15 (of_decide_eq_true hk12)).2 rfl Tryz.isAgg9 rfl rfl) ?_
      refine wa rfl rfl rfl (q_sneq rfl rfl rfl) ?_
      refine wa rfl rfl rfl (q_move (v := .bool ((gt a i3).key != (gt b i3).key)) rfl (by kernel_rfl)) ?_
      refine wg0 rfl rfl rfl rfl rfl (fun hg16 => QV.qo (q_move (v := .slice Aa a.length ca) rfl (by kernel_rfl))) ?_
      refine wg0 rfl rfl rfl rfl rfl (fun hg17 => QV.qo (q_move (v := .int .i64 ((i3 : Nat) : Int)) rfl (by kernel_rfl))) ?_
      refine wg0 rfl rfl rfl rfl rfl (fun hg18 => QV.qo (q_ixn (i := i3) Tryz.underlying22 Tryz.sizeOf41 rfl (gu hg18 rfl) (gu hg18 rfl) hl8 (ha.some_ hl8))) ?_
      refine wg0 rfl rfl rfl rfl rfl (fun hg19 => QV.qo (q_field_addr (i3 * 2 + 1) fld_41_1 rfl (gu hg19 rfl) (ha.some_ hl8) rfl)) ?_
      refine wg0 rfl rfl rfl rfl rfl (fun hg20 => QV.qo (q_ld (c := 1) (v := .slice A9 ((gt a i3).vers).length c10) (hx11 hl8).2 rfl Tryz.isAgg39 (gu hg20 rfl) rfl)) ?_
      refine wg0 rfl rfl rfl rfl rfl (fun hg21 => QV.qo (q_move (v := .slice Ab b.length cb) rfl (by kernel_rfl))) ?_
      refine wg0 rfl rfl rfl rfl rfl (fun hg22 => QV.qo (q_move (v := .int .i64 ((i3 : Nat) : Int)) rfl (by kernel_rfl))) ?_
      refine wg0 rfl rfl rfl rfl rfl (fun hg23 => QV.qo (q_ixn (i := i3) Tryz.underlying22 Tryz.sizeOf41 rfl (gu hg23 rfl) (gu hg23 rfl) (of_decide_eq_true hk12) (hb.some_ (of_decide_eq_true hk12)))) ?_
      refine wg0 rfl rfl rfl rfl rfl (fun hg24 => QV.qo (q_field_addr (i3 * 2 + 1) fld_41_1 rfl (gu hg24 rfl) (hb.some_ (of_decide_eq_true hk12)) rfl)) ?_
      refine wg0 rfl rfl rfl rfl rfl (fun hg25 => QV.qo (q_ld (c := 1) (v := .slice A13 ((gt b i3).vers).length c14) (hx15 (of_decide_eq_true hk12)).2 rfl Tryz.isAgg39 (gu hg25 rfl) rfl)) ?_
      obtain ⟨z27, hz28, h⟩ := bnd h
      refine wg0 rfl rfl rfl rfl rfl (fun hg26 => (q_call (call_run Tryz.call31 rfl rfl (args2 (gu hg26 rfl) (gu hg26 rfl))) (fun w hw => t_firthref05_Same (Γ := Gh.all w) ((hx11 hl8).1.2.2.mono hw.sat.le_all) (hx11 hl8).1.2.1 ((hx15 (of_decide_eq_true hk12)).1.2.2.mono hw.sat.le_all) (hx15 (of_decide_eq_true hk12)).1.2.1 (Sat.all w) (gc_of hz28 hg26)))) ?_
      refine wg0 rfl rfl rfl rfl rfl (fun hg29 => QV.qo (q_not rfl (gu hg29 rfl))) ?_
      refine wa rfl rfl rfl (q_pick rfl rfl (pk_or' (g := ((gt a i3).key != (gt b i3).key)) (y := (!z27)))) ?_
      refine WQ.nil ?_
      change WC _ _ _ _ _ _
      refine WC.cif h (by kernel_rfl) (fun hb30 h => ?_) (fun hb30 h => ?_)
      · skip
        refine WC.rs ?_
        refine va rfl rfl rfl (q_assign (v := .bool false) rfl (by kernel_rfl)) ?_
        refine WR.nil ?_
        change WC _ _ _ _ _ _
        refine WC.ret ?_
        intro w hw
        obtain rfl := Option.some.inj h
        subst hF
        exact ⟨by kernel_rfl, hw.fr⟩
      · skip
        refine WC.skip ?_
        change WC _ _ _ _ _ _
        refine WC.region ?_
        refine va rfl rfl rfl (q_move (v := .int .i64 ((i3 : Nat) : Int)) rfl (by kernel_rfl)) ?_
        refine va rfl rfl rfl (q_add_r (r := ((i3 + 1 : Nat) : Int)) rfl rfl rfl (ctr_len hl8 ha.le)) ?_
        refine va rfl rfl rfl (q_assign (v := .int .i64 ((i3 + 1 : Nat) : Int)) rfl (by kernel_rfl)) ?_
        refine WR.nil ?_
        intro w hw
        exact ⟨hl8, (), h, (sl_ (by kernel_rfl)), hw, trivial⟩
    · skip
      have h := hge6 (ige hb7)
      refine WC.exit ?_
      change WC _ _ _ _ _ _
      refine WC.rs ?_
      refine va rfl rfl rfl (q_assign (v := .bool true) rfl (by kernel_rfl)) ?_
      refine WR.nil ?_
      change WC _ _ _ _ _ _
      refine WC.ret ?_
      intro w hw
      obtain rfl := Option.some.inj h
      subst hF
      exact ⟨by kernel_rfl, hw.fr⟩
abbrev r_firthref10_Own_l0 (r : Rec) (U : List Rowb) (Γ : Gh) (v : Value) : Prop := ∃ (A0_1 : Option Addr), ∃ (c0_1 : Nat), v = .agg #[.string r.key, .slice A0_1 r.vers.length c0_1] ∧ U = [] ∧ Rec.fits Γ A0_1 c0_1 r ∧ True
set_option maxRecDepth 100000 in
set_option maxHeartbeats 400000 in
theorem t_firthref10_Own_l0 {Γ : Gh} {w0 : World} {B : Gh} {Ar_1 : Option Addr} {cr_1 : Nat} (r_ : Rec) (hr_ : Rec.fits B Ar_1 cr_1 r_) (hp : Pre [] Γ w0) (hpB : Pre [] B w0) {r : Rec} (h : m_firthref10_Own r_ = some r) : Calls Tryz.prog 16 #[.agg #[.string r_.key, .slice Ar_1 r_.vers.length cr_1]] w0 (Outc Γ [] w0 (r_firthref10_Own_l0 r)) := by
  refine calls_of_r (N := 35) (rs := [.cell 2 41]) (args := [.agg #[.string r_.key, .slice Ar_1 r_.vers.length cr_1]]) Tryz.func16 rfl Tryz.ntmps16 Tryz.results16 rfl ?_
  obtain ⟨F, hF⟩ : ∃ F : Fm, F = ⟨ids [], w0, Γ⟩ := ⟨_, rfl⟩
  refine WC.here (C := CC F Γ []) ?_ (hF ▸ hp.start)
  have hB : Lent F B := hF ▸ Lent.start hpB
  refine WC.rs ?_
  refine e_box (v := .agg #[.string r_.key, .slice Ar_1 r_.vers.length cr_1]) rfl rfl rfl rfl (by kernel_rfl) ?_
  intro g1
  refine e_alloc Tryz.zeroValue41 rfl rfl rfl rfl ?_
  intro g2
  refine WR.nil ?_
  change WC _ _ _ _ _ _
  refine WC.rs ?_
  refine va rfl rfl rfl (q_fl 0 fld_41_0 rfl rfl rfl) ?_
  refine va rfl rfl rfl (q_ldl (i := 1) (v := .string r_.key) rfl rfl Tryz.isAgg9 rfl rfl) ?_
  refine va rfl rfl rfl (q_build' (v := .agg #[.string r_.key, .slice none 0 0]) rfl (bargs1 rfl) (fun w => by kernel_rfl)) ?_
  refine e_alloc Tryz.zeroValue41 rfl rfl rfl rfl ?_
  intro g3
  refine e_st (i := 0) (v := .agg #[.string r_.key, .slice none 0 0]) (new := #[.string r_.key, .slice none 0 0]) rfl Tryz.sizeOf41 rfl rfl rfl rfl (by kernel_rfl) rfl rfl rfl rfl ?_
  refine WR.nil ?_
  change WC _ _ _ _ _ _
  refine WC.seq ?_
  refine WC.rs ?_
  refine va rfl rfl rfl (q_assign (v := .int .i64 0) rfl (by kernel_rfl)) ?_
  refine WR.nil ?_
  change WC _ _ _ _ _ _
  refine WC.block ?_
  refine WC.forI h (fun (i12 : Nat) (x6 : List Ver) σ w => ∃ (Γ4 : Gh), ∃ (A7 : Option Addr), ∃ (c8 : Nat), ∃ (row9 : Rowb), slots σ [(1, .pointer (some ⟨g1, 0, none⟩)), (2, .pointer (some ⟨g2, 0, none⟩)), (3, .pointer (some ⟨g3, 0, none⟩)), (4, .int .i64 ((i12 : Nat) : Int))] ∧ CC F Γ4 [row9, [(g3, .cells #[.string r_.key, .slice A7 x6.length c8] 41 (0, 0))], [(g2, .cells #[.string ByteArray.empty, .slice none 0 0] 41 (0, 0))], [(g1, .cells #[.string r_.key, .slice Ar_1 r_.vers.length cr_1] 41 (0, 0))]] w ∧ Gh.le Γ Γ4 ∧ Own verT Γ4 51 row9 A7 c8 x6 ∧ True) ?_ ?_
  · skip
    intro w hw
    have hw := hw.pad
    exact ⟨Γ, none, 0, [], (sl_ (by kernel_rfl)), hw, (Gh.refl _), (Own.nil verT _ 51), trivial⟩
  rintro f11 i12 x6 σ w hi13 hlt14 hge15 ⟨Γ4, A7, c8, row9, hsl, hw, hl5, ho10, -⟩
  refine Wpt.slots hsl ?_
  refine WC.here (C := CC F Γ4 [row9, [(g3, .cells #[.string r_.key, .slice A7 x6.length c8] 41 (0, 0))], [(g2, .cells #[.string ByteArray.empty, .slice none 0 0] 41 (0, 0))], [(g1, .cells #[.string r_.key, .slice Ar_1 r_.vers.length cr_1] 41 (0, 0))]]) ?_ hw
  clear hw hsl
  refine WC.seq ?_
  refine WC.rs ?_
  refine va rfl rfl rfl (q_move (v := .int .i64 ((i12 : Nat) : Int)) rfl (by kernel_rfl)) ?_
  refine va rfl rfl rfl (q_fl 1 fld_41_1 rfl rfl rfl) ?_
  refine va rfl rfl rfl (q_ldl (i := 3) (v := .slice Ar_1 r_.vers.length cr_1) rfl rfl Tryz.isAgg39 rfl rfl) ?_
  refine va rfl rfl rfl (q_len_slice rfl Tryz.underlying39 rfl) ?_
  refine va rfl rfl rfl (q_lss rfl rfl rfl) ?_
  refine WR.nil ?_
  change WC _ _ _ _ _ _
  refine WC.cond (b := (decide (((i12 : Nat) : Int) < ((r_.vers.length : Nat) : Int)))) (by kernel_rfl) (fun hb16 => ?_) (fun hb16 => ?_)
  · skip
    have hl17 := ilt hb16
    have h := hlt14 hl17
    refine WC.skip ?_
    change WC _ _ _ _ _ _
    refine WC.seq ?_
    refine WC.block ?_
    refine WC.rs ?_
    refine va rfl rfl rfl (q_fl 1 fld_41_1 rfl rfl rfl) ?_
    refine va rfl rfl rfl (q_ldl (i := 3) (v := .slice Ar_1 r_.vers.length cr_1) rfl rfl Tryz.isAgg39 rfl rfl) ?_
    refine va rfl rfl rfl (q_move (v := .int .i64 ((i12 : Nat) : Int)) rfl (by kernel_rfl)) ?_
    refine va rfl rfl rfl (q_ixn (i := i12) Tryz.underlying39 Tryz.sizeOf51 rfl rfl rfl hl17 (hr_.2.2.some_ hl17)) ?_
    obtain ⟨A18, c19, hx20⟩ := hr_.2.2.verT_at i12
    refine va rfl rfl rfl (q_ldaS (c := 0) (vs := [.int .i64 (gt r_.vers i12).dot.s, .int .i64 (gt r_.vers i12).dot.n, .slice A18 ((gt r_.vers i12).past).length c19, .bool (gt r_.vers i12).gone, .string (gt r_.vers i12).val]) (fun w hw => hB.sat hw) (hx20 hl17).2 rfl Tryz.isAgg51 Tryz.sizeOf51 rfl rfl rfl) ?_
    refine e_alloc Tryz.zeroValue51 rfl rfl rfl rfl ?_
    intro g21
    refine e_st (i := 0) (v := .agg #[.int .i64 (gt r_.vers i12).dot.s, .int .i64 (gt r_.vers i12).dot.n, .slice A18 ((gt r_.vers i12).past).length c19, .bool (gt r_.vers i12).gone, .string (gt r_.vers i12).val]) (new := #[.int .i64 (gt r_.vers i12).dot.s, .int .i64 (gt r_.vers i12).dot.n, .slice A18 ((gt r_.vers i12).past).length c19, .bool (gt r_.vers i12).gone, .string (gt r_.vers i12).val]) rfl Tryz.sizeOf51 rfl rfl rfl rfl (by kernel_rfl) rfl rfl rfl rfl ?_
    refine WR.nil ?_
    change WC _ _ _ _ _ _
    refine WC.rs ?_
    refine va rfl rfl rfl (q_assign (v := .slice none 0 0) rfl (by kernel_rfl)) ?_
    refine WR.nil ?_
    change WC _ _ _ _ _ _
    refine WC.rs ?_
    refine va rfl rfl rfl (q_move (v := .slice none 0 0) rfl (by kernel_rfl)) ?_
    refine va rfl rfl rfl (q_fl 2 fld_51_1 rfl rfl rfl) ?_
    refine va rfl rfl rfl (q_ldl (i := 0) (v := .slice A18 ((gt r_.vers i12).past).length c19) rfl rfl Tryz.isAgg49 rfl rfl) ?_
    refine WR.sub (fun w hw => hw.pad) ?_
    obtain ⟨hk22, h⟩ := chk_some h
    refine e_append (T := spanT) (xs := []) (ys := (gt r_.vers i12).past) elem_49 (i := 0) rfl rfl rfl rfl (by kernel_rfl) rfl rfl (Own.nil spanT Γ4 53) (of_decide_eq_true hk22) (fun w hw => src_slS (Γ := Γ4) (fun w hw => hB.sat hw) (fun _ _ h => h) (hx20 hl17).1.2.2.1.2 hw) ?_
    intro row23 A24 c25 ho26
    refine va rfl rfl rfl (q_assign (v := .slice A24 (gt r_.vers i12).past.length c25) rfl (by kernel_rfl)) ?_
    refine WR.nil ?_
    change WC _ _ _ _ _ _
    refine WC.rs ?_
    refine va rfl rfl rfl (q_move (v := .slice A24 (gt r_.vers i12).past.length c25) rfl (by kernel_rfl)) ?_
    refine va rfl rfl rfl (q_fl 2 fld_51_1 rfl rfl rfl) ?_
    refine e_st (i := 1) (v := .slice A24 (gt r_.vers i12).past.length c25) (new := #[.int .i64 (gt r_.vers i12).dot.s, .int .i64 (gt r_.vers i12).dot.n, .slice A24 (gt r_.vers i12).past.length c25, .bool (gt r_.vers i12).gone, .string (gt r_.vers i12).val]) rfl Tryz.sizeOf49 rfl rfl rfl rfl (by kernel_rfl) rfl rfl rfl rfl ?_
    refine WR.nil ?_
    change WC _ _ _ _ _ _
    refine WC.region ?_
    refine va rfl rfl rfl (q_fl 1 fld_41_1 rfl rfl rfl) ?_
    refine va rfl rfl rfl (q_ldl (i := 3) (v := .slice A7 x6.length c8) rfl rfl Tryz.isAgg39 rfl rfl) ?_
    refine va rfl rfl rfl (q_ldla (i := 1) (vs := [.int .i64 (gt r_.vers i12).dot.s, .int .i64 (gt r_.vers i12).dot.n, .slice A24 (gt r_.vers i12).past.length c25, .bool (gt r_.vers i12).gone, .string (gt r_.vers i12).val]) rfl rfl Tryz.isAgg51 Tryz.sizeOf51 rfl rfl) ?_
    have hc31 := ho26.capz
    intro w hw; obtain ⟨Γ27, hw, hl28, hr29⟩ := hw.seal (i := 0) rfl; have hs30 := ho26.sl hl28 hr29
    refine WR.here (C := CC F Γ27 [[], [(g21, .cells #[.int .i64 (gt r_.vers i12).dot.s, .int .i64 (gt r_.vers i12).dot.n, .slice A24 ((gt r_.vers i12).past).length c25, .bool (gt r_.vers i12).gone, .string (gt r_.vers i12).val] 51 (0, 0))], row9, [(g3, .cells #[.string r_.key, .slice A7 x6.length c8] 41 (0, 0))], [(g2, .cells #[.string ByteArray.empty, .slice none 0 0] 41 (0, 0))], [(g1, .cells #[.string r_.key, .slice Ar_1 r_.vers.length cr_1] 41 (0, 0))]]) ?_ hw
    clear hw
    refine e_buildSlice (cs := #[.int .i64 (gt r_.vers i12).dot.s, .int .i64 (gt r_.vers i12).dot.n, .slice A24 ((gt r_.vers i12).past).length c25, .bool (gt r_.vers i12).gone, .string (gt r_.vers i12).val]) (e := 51) rfl rfl rfl rfl (fun w => by kernel_rfl) ?_
    intro g32
    obtain ⟨hk33, h⟩ := chk_some h
    refine e_append (T := verT) (xs := x6) (ys := [(gt r_.vers i12)]) elem_39 (i := 3) rfl rfl rfl rfl rfl rfl rfl (ho10.mono hl28) (of_decide_eq_true hk33) (fun w hw => src_one (T := verT) (y := (gt r_.vers i12)) (i := 0) rfl (by exact ⟨A24, c25, rfl, ⟨(hx20 hl17).1.1, (hx20 hl17).1.2.1, ⟨hc31, hs30⟩, (hx20 hl17).1.2.2.2⟩⟩) hw) ?_
    intro row34 A35 c36 ho37
    refine va rfl rfl rfl (q_fl 1 fld_41_1 rfl rfl rfl) ?_
    refine e_st (i := 4) (v := .slice A35 (x6 ++ [(gt r_.vers i12)]).length c36) (new := #[.string r_.key, .slice A35 (x6 ++ [(gt r_.vers i12)]).length c36]) rfl Tryz.sizeOf39 rfl rfl rfl rfl (by kernel_rfl) rfl rfl rfl rfl ?_
    refine WR.nil ?_
    change WC _ _ _ _ _ _
    refine WC.region ?_
    refine va rfl rfl rfl (q_move (v := .int .i64 ((i12 : Nat) : Int)) rfl (by kernel_rfl)) ?_
    refine va rfl rfl rfl (q_add_r (r := ((i12 + 1 : Nat) : Int)) rfl rfl rfl (ctr_len hl17 hr_.2.2.le)) ?_
    refine va rfl rfl rfl (q_assign (v := .int .i64 ((i12 + 1 : Nat) : Int)) rfl (by kernel_rfl)) ?_
    refine WR.nil ?_
    intro w hw
    exact ⟨hl17, (x6 ++ [(gt r_.vers i12)]), h, Γ27, A35, c36, row34, (sl_ (by kernel_rfl)), (hw.only (is := [3, 3, 3, 3]) rfl), (hl5.trans hl28), ho37, trivial⟩
  · skip
    have h := hge15 (ige hb16)
    refine WC.exit ?_
    change WC _ _ _ _ _ _
    refine WC.rs ?_
    refine va rfl rfl rfl (q_ldla (i := 1) (vs := [.string r_.key, .slice A7 x6.length c8]) rfl rfl Tryz.isAgg41 Tryz.sizeOf41 rfl rfl) ?_
    refine e_st (i := 2) (v := .agg #[.string r_.key, .slice A7 x6.length c8]) (new := #[.string r_.key, .slice A7 x6.length c8]) rfl Tryz.sizeOf41 rfl rfl rfl rfl (by kernel_rfl) rfl rfl rfl rfl ?_
    refine WR.nil ?_
    change WC _ _ _ _ _ _
    refine WC.ret ?_
    intro w hw
    have hc42 := ho10.capz
    obtain ⟨Γ38, hw, hl39, hr40⟩ := hw.seal (i := 0) rfl; have hs41 := ho10.sl hl39 hr40
    obtain rfl := Option.some.inj h
    subst hF
    exact ⟨[.agg #[.string r_.key, .slice A7 x6.length c8]], (rr_agg (i := 2) (us := [.string r_.key, .slice A7 x6.length c8]) hw rfl Tryz.isAgg41 Tryz.sizeOf41 (by kernel_rfl) rfl rr_nil), end_e (is := []) (by kernel_rfl) hw rfl ⟨A7, c8, rfl, rfl, ⟨hr_.1, ⟨hc42, hs41⟩⟩, trivial⟩⟩
abbrev r_slices_Clone_api_Span_api_Span_l1 (r : List Span) (U : List Rowb) (Γ : Gh) (v : Value) : Prop := ∃ (A0 : Option Addr), ∃ (c0 : Nat), ∃ (row0 : Rowb), v = .slice A0 r.length c0 ∧ U = [row0] ∧ Own spanT Γ 53 row0 A0 c0 r ∧ True
set_option maxRecDepth 100000 in
set_option maxHeartbeats 400000 in
theorem t_slices_Clone_api_Span_api_Span_l1 {Γ : Gh} {w0 : World} {B : Gh} {As_ : Option Addr} {cs_ : Nat} {s_ : List Span} (hs_ : Sl spanT B As_ s_) (hs_c : s_.length ≤ cs_) (hp : Pre [] Γ w0) (hpB : Pre [] B w0) {r : List Span} (h : m_slices_Clone_api_Span_api_Span s_ = some r) : Calls Tryz.prog 51 #[.slice As_ s_.length cs_] w0 (Outc Γ [] w0 (r_slices_Clone_api_Span_api_Span_l1 r)) := by
  refine calls_of (N := 8) (rs := [2]) (args := [.slice As_ s_.length cs_]) Tryz.func51 rfl Tryz.ntmps51 Tryz.results51 rfl ?_
  obtain ⟨F, hF⟩ : ∃ F : Fm, F = ⟨ids [], w0, Γ⟩ := ⟨_, rfl⟩
  refine WC.here (C := CC F Γ []) ?_ (hF ▸ hp.start)
  have hB : Lent F B := hF ▸ Lent.start hpB
  refine WC.rs ?_
  refine va rfl rfl rfl (q_assign (v := .slice none 0 0) rfl (by kernel_rfl)) ?_
  refine WR.nil ?_
  change WC _ _ _ _ _ _
  refine WC.seq ?_
  refine WC.rs ?_
  refine va rfl rfl rfl (q_move (v := .slice As_ s_.length cs_) rfl (by kernel_rfl)) ?_
  refine va rfl rfl rfl (q_nil_slice Tryz.underlying49 rfl rfl rfl) ?_
  refine WR.nil ?_
  change WC _ _ _ _ _ _
  refine WC.cnil h (by kernel_rfl) (fun hb => hs_.none_nil hb) (fun hb1 h => ?_) (fun hb1 h => ?_)
  · skip
    refine WC.rs ?_
    refine va rfl rfl rfl (q_assign (v := .slice none 0 0) rfl (by kernel_rfl)) ?_
    refine WR.nil ?_
    change WC _ _ _ _ _ _
    refine WC.ret ?_
    intro w hw
    have hw := hw.pad
    obtain rfl := Option.some.inj h
    subst hF
    exact end_e (is := [0]) (by kernel_rfl) hw rfl ⟨none, 0, [], rfl, rfl, (Own.nil spanT _ 53), trivial⟩
  · skip
    refine WC.skip ?_
    change WC _ _ _ _ _ _
    refine WC.rs ?_
    refine e_buildSlice (cs := #[]) (e := 53) rfl rfl rfl rfl (fun w => by kernel_rfl) ?_
    intro g2
    refine va rfl rfl rfl (q_move (v := .slice As_ s_.length cs_) rfl (by kernel_rfl)) ?_
    have ho3 : Own spanT Γ 53 [(g2, .cells #[] 53 (0, 0))] (some ⟨g2, 0, none⟩) 0 ([] : List Span) := Own.of_blockL (T := spanT) (ys := ([] : List Span)) [] rfl (show 0 ≤ lim by decide) (show True from trivial)
    obtain ⟨hk4, h⟩ := chk_some h
    refine e_append (T := spanT) (xs := ([] : List Span)) (ys := s_) elem_49 (i := 0) rfl rfl rfl rfl rfl rfl rfl ho3 (of_decide_eq_true hk4) (fun w hw => src_slS (Γ := Γ) (fun w hw => hB.sat hw) (fun _ _ h => h) hs_ hw) ?_
    intro row5 A6 c7 ho8
    refine va rfl rfl rfl (q_assign (v := .slice A6 (([] : List Span) ++ s_).length c7) rfl (by kernel_rfl)) ?_
    refine WR.nil ?_
    change WC _ _ _ _ _ _
    refine WC.ret ?_
    intro w hw
    obtain rfl := Option.some.inj h
    subst hF
    exact end_e (is := [0]) (by kernel_rfl) hw rfl ⟨A6, c7, row5, rfl, rfl, ho8, trivial⟩
abbrev r_slices_Clone_api_Ver_api_Ver_x (B : Gh) (r : List Ver) (U : List Rowb) (Γ : Gh) (v : Value) : Prop := ∃ (A0 : Option Addr), ∃ (c0 : Nat), ∃ (row0 : Rowb), v = .slice A0 r.length c0 ∧ U = [row0] ∧ Own (atT verT B) Γ 51 row0 A0 c0 r ∧ True
set_option maxRecDepth 100000 in
set_option maxHeartbeats 400000 in
theorem t_slices_Clone_api_Ver_api_Ver_x {Γ : Gh} {w0 : World} {B : Gh} {As_ : Option Addr} {cs_ : Nat} {s_ : List Ver} (hs_ : Sl verT B As_ s_) (hs_c : s_.length ≤ cs_) (hp : Pre [] Γ w0) (hpB : Pre [] B w0) {r : List Ver} (h : m_slices_Clone_api_Ver_api_Ver s_ = some r) : Calls Tryz.prog 50 #[.slice As_ s_.length cs_] w0 (Outc Γ [] w0 (r_slices_Clone_api_Ver_api_Ver_x B r)) := by
  refine calls_of (N := 8) (rs := [2]) (args := [.slice As_ s_.length cs_]) Tryz.func50 rfl Tryz.ntmps50 Tryz.results50 rfl ?_
  obtain ⟨F, hF⟩ : ∃ F : Fm, F = ⟨ids [], w0, Γ⟩ := ⟨_, rfl⟩
  refine WC.here (C := CC F Γ []) ?_ (hF ▸ hp.start)
  have hB : Lent F B := hF ▸ Lent.start hpB
  refine WC.rs ?_
  refine va rfl rfl rfl (q_assign (v := .slice none 0 0) rfl (by kernel_rfl)) ?_
  refine WR.nil ?_
  change WC _ _ _ _ _ _
  refine WC.seq ?_
  refine WC.rs ?_
  refine va rfl rfl rfl (q_move (v := .slice As_ s_.length cs_) rfl (by kernel_rfl)) ?_
  refine va rfl rfl rfl (q_nil_slice Tryz.underlying39 rfl rfl rfl) ?_
  refine WR.nil ?_
  change WC _ _ _ _ _ _
  refine WC.cnil h (by kernel_rfl) (fun hb => hs_.none_nil hb) (fun hb1 h => ?_) (fun hb1 h => ?_)
  · skip
    refine WC.rs ?_
    refine va rfl rfl rfl (q_assign (v := .slice none 0 0) rfl (by kernel_rfl)) ?_
    refine WR.nil ?_
    change WC _ _ _ _ _ _
    refine WC.ret ?_
    intro w hw
    have hw := hw.pad
    obtain rfl := Option.some.inj h
    subst hF
    exact end_e (is := [0]) (by kernel_rfl) hw rfl ⟨none, 0, [], rfl, rfl, (Own.nil (atT verT B) _ 51), trivial⟩
  · skip
    refine WC.skip ?_
    change WC _ _ _ _ _ _
    refine WC.rs ?_
    refine e_buildSlice (cs := #[]) (e := 51) rfl rfl rfl rfl (fun w => by kernel_rfl) ?_
    intro g2
    refine va rfl rfl rfl (q_move (v := .slice As_ s_.length cs_) rfl (by kernel_rfl)) ?_
    have ho3 : Own (atT verT B) Γ 51 [(g2, .cells #[] 51 (0, 0))] (some ⟨g2, 0, none⟩) 0 ([] : List Ver) := Own.of_blockL (T := (atT verT B)) (ys := ([] : List Ver)) [] rfl (show 0 ≤ lim by decide) (show True from trivial)
    obtain ⟨hk4, h⟩ := chk_some h
    refine e_append (T := (atT verT B)) (xs := ([] : List Ver)) (ys := s_) (elem_39.at B) (i := 0) rfl rfl rfl rfl rfl rfl rfl ho3 (of_decide_eq_true hk4) (fun w hw => src_slS (Γ := Γ) (T := atT verT B) (fun w hw => hB.sat hw) (fun _ _ h => h) hs_.atB hw) ?_
    intro row5 A6 c7 ho8
    refine va rfl rfl rfl (q_assign (v := .slice A6 (([] : List Ver) ++ s_).length c7) rfl (by kernel_rfl)) ?_
    refine WR.nil ?_
    change WC _ _ _ _ _ _
    refine WC.ret ?_
    intro w hw
    obtain rfl := Option.some.inj h
    subst hF
    exact end_e (is := [0]) (by kernel_rfl) hw rfl ⟨A6, c7, row5, rfl, rfl, ho8, trivial⟩
set_option maxRecDepth 100000 in
set_option maxHeartbeats 400000 in
theorem t_tree_own_x {Γ : Gh} {w0 : World} {B : Gh} {Ar_1 : Option Addr} {cr_1 : Nat} (r_ : Rec) (hr_ : Rec.fits B Ar_1 cr_1 r_) (hp : Pre [] Γ w0) (hpB : Pre [] B w0) {r : Rec} (h : m_tree_own r_ = some r) : Calls Tryz.prog 35 #[.agg #[.string r_.key, .slice Ar_1 r_.vers.length cr_1]] w0 (Outc Γ [] w0 (r_tree_own r)) := by
  refine calls_of_r (N := 28) (rs := [.cell 2 41]) (args := [.agg #[.string r_.key, .slice Ar_1 r_.vers.length cr_1]]) Tryz.func35 rfl Tryz.ntmps35 Tryz.results35 rfl ?_
  obtain ⟨F, hF⟩ : ∃ F : Fm, F = ⟨ids [], w0, Γ⟩ := ⟨_, rfl⟩
  refine WC.here (C := CC F Γ []) ?_ (hF ▸ hp.start)
  have hB : Lent F B := hF ▸ Lent.start hpB
  refine WC.rs ?_
  refine e_box (v := .agg #[.string r_.key, .slice Ar_1 r_.vers.length cr_1]) rfl rfl rfl rfl (by kernel_rfl) ?_
  intro g1
  refine e_alloc Tryz.zeroValue41 rfl rfl rfl rfl ?_
  intro g2
  refine WR.nil ?_
  change WC _ _ _ _ _ _
  refine WC.rs ?_
  refine va rfl rfl rfl (q_fl 1 fld_41_1 rfl rfl rfl) ?_
  refine va rfl rfl rfl (q_ldl (i := 1) (v := .slice Ar_1 r_.vers.length cr_1) rfl rfl Tryz.isAgg39 rfl rfl) ?_
  obtain ⟨z3, hz4, h⟩ := bnd h
  refine e_callW (is := []) rfl rfl (call_run Tryz.call50 rfl rfl (by kernel_rfl)) rfl (fun w hw hp => t_slices_Clone_api_Ver_api_Ver_x (B := B) hr_.2.2 hr_.2.1 hp (hB.pre (is := []) hw rfl) hz4) ?_
  rintro Γ5 U7 v8 hl6 ⟨A9, c10, row11, rfl, rfl, hr12, _⟩
  change WR _ _ _ (CC F Γ5 [row11, [(g2, .cells #[.string ByteArray.empty, .slice none 0 0] 41 (0, 0))], [(g1, .cells #[.string r_.key, .slice Ar_1 r_.vers.length cr_1] 41 (0, 0))]]) _ _ (upd _ 6 (.slice A9 z3.length c10))
  refine va rfl rfl rfl (q_fl 1 fld_41_1 rfl rfl rfl) ?_
  refine e_st (i := 2) (v := .slice A9 z3.length c10) (new := #[.string r_.key, .slice A9 z3.length c10]) rfl Tryz.sizeOf39 rfl rfl rfl rfl (by kernel_rfl) rfl rfl rfl rfl ?_
  refine WR.nil ?_
  change WC _ _ _ _ _ _
  refine WC.seq ?_
  refine WC.rs ?_
  refine va rfl rfl rfl (q_fl 1 fld_41_1 rfl rfl rfl) ?_
  refine va rfl rfl rfl (q_ldl (i := 2) (v := .slice A9 z3.length c10) rfl rfl Tryz.isAgg39 rfl rfl) ?_
  refine va rfl rfl rfl (q_len_slice rfl Tryz.underlying39 rfl) ?_
  refine va rfl rfl rfl (q_move (v := .int .i64 0) rfl (by kernel_rfl)) ?_
  refine WR.nil ?_
  change WC _ _ _ _ _ _
  refine WC.block ?_
  refine WC.forU h (fun (i20 : Nat) (x15 : List Ver) σ w => ∃ (Γ13 : Gh), ∃ (row16 : Rowb), slots σ [(1, .pointer (some ⟨g1, 0, none⟩)), (2, .pointer (some ⟨g2, 0, none⟩)), (10, .int .i64 ((z3.length : Nat) : Int)), (11, .int .i64 ((i20 : Nat) : Int))] ∧ CC F Γ13 [row16, [(g2, .cells #[.string ByteArray.empty, .slice none 0 0] 41 (0, 0))], [(g1, .cells #[.string r_.key, .slice A9 z3.length c10] 41 (0, 0))]] w ∧ Gh.le Γ5 Γ13 ∧ x15.length = z3.length ∧ Own (mixT verT B) Γ13 51 row16 A9 c10 (tg i20 x15) ∧ True) ?_ ?_
  · skip
    intro w hw
    exact ⟨Γ5, row11, (sl_ (by kernel_rfl)), hw, (Gh.refl _), rfl, hr12.mix0, trivial⟩
  rintro f19 i20 x15 σ w hi21 hlt22 hge23 ⟨Γ13, row16, hsl, hw, hl14, hn18, ho17, -⟩
  refine Wpt.slots hsl ?_
  refine WC.here (C := CC F Γ13 [row16, [(g2, .cells #[.string ByteArray.empty, .slice none 0 0] 41 (0, 0))], [(g1, .cells #[.string r_.key, .slice A9 z3.length c10] 41 (0, 0))]]) ?_ hw
  clear hw hsl
  refine WC.rs ?_
  refine va rfl rfl rfl (q_lss rfl rfl rfl) ?_
  refine WR.nil ?_
  change WC _ _ _ _ _ _
  refine WC.seq ?_
  refine WC.cond (b := (decide (((i20 : Nat) : Int) < ((z3.length : Nat) : Int)))) (by kernel_rfl) (fun hb24 => ?_) (fun hb24 => ?_)
  · skip
    have hl25 := ilt hb24
    have h := hlt22 hl25
    refine WC.skip ?_
    change WC _ _ _ _ _ _
    refine WC.seq ?_
    refine WC.block ?_
    refine WC.rs ?_
    refine va rfl rfl rfl (q_move (v := .int .i64 ((i20 : Nat) : Int)) rfl (by kernel_rfl)) ?_
    refine va rfl rfl rfl (q_assign (v := .int .i64 ((i20 : Nat) : Int)) rfl (by kernel_rfl)) ?_
    refine WR.nil ?_
    change WC _ _ _ _ _ _
    intro w hw; have h026 := hw.le
    refine WC.here (C := CC F Γ13 [row16, [(g2, .cells #[.string ByteArray.empty, .slice none 0 0] 41 (0, 0))], [(g1, .cells #[.string r_.key, .slice A9 z3.length c10] 41 (0, 0))]]) ?_ hw; clear hw
    refine WC.held (CC F Γ13 [[(g2, .cells #[.string ByteArray.empty, .slice none 0 0] 41 (0, 0))], [(g1, .cells #[.string r_.key, .slice A9 z3.length c10] 41 (0, 0))]]) (by kernel_rfl) (fun w hw => hw.drawn _) ?_
    change WH _ _ _ _ (CC F Γ13 [row16, [(g2, .cells #[.string ByteArray.empty, .slice none 0 0] 41 (0, 0))], [(g1, .cells #[.string r_.key, .slice A9 z3.length c10] 41 (0, 0))]]) _ 13 #[false, false, false, false, false, false, false, false, false, false, false, false, false] _
    refine ht (i := 0) rfl (by kernel_rfl) rfl rfl rfl (fun w hw => hw.back (Gh.refl _) h026 (.cons _ (.cons_cons _ (.cons_cons _ .slnil)))) (q_fl 1 fld_41_1 rfl rfl rfl) ?_
    refine ht (i := 1) rfl (by kernel_rfl) rfl rfl rfl (fun w hw => hw.back (Gh.refl _) h026 (.cons _ (.cons_cons _ (.cons_cons _ .slnil)))) (q_ldl (i := 1) (v := .slice A9 z3.length c10) rfl rfl Tryz.isAgg39 rfl rfl) ?_
    refine ht (i := 2) rfl (by kernel_rfl) rfl rfl rfl (fun w hw => hw.back (Gh.refl _) h026 (.cons _ (.cons_cons _ (.cons_cons _ .slnil)))) (q_move (v := .int .i64 ((i20 : Nat) : Int)) rfl (by kernel_rfl)) ?_
    refine ht (i := 3) rfl (by kernel_rfl) rfl rfl rfl (fun w hw => hw.back (Gh.refl _) h026 (.cons _ (.cons_cons _ (.cons_cons _ .slnil)))) (q_fl 1 fld_41_1 rfl rfl rfl) ?_
    refine ht (i := 4) rfl (by kernel_rfl) rfl rfl rfl (fun w hw => hw.back (Gh.refl _) h026 (.cons _ (.cons_cons _ (.cons_cons _ .slnil)))) (q_ldl (i := 1) (v := .slice A9 z3.length c10) rfl rfl Tryz.isAgg39 rfl rfl) ?_
    refine ht (i := 5) rfl (by kernel_rfl) rfl rfl rfl (fun w hw => hw.back (Gh.refl _) h026 (.cons _ (.cons_cons _ (.cons_cons _ .slnil)))) (q_move (v := .int .i64 ((i20 : Nat) : Int)) rfl (by kernel_rfl)) ?_
    refine WH.lone (i := 6) (by kernel_rfl) rfl ?_
    refine va rfl rfl rfl (q_ixn (i := i20) Tryz.underlying39 Tryz.sizeOf51 rfl rfl rfl hl25 (ho17.mix_some (ltq hl25 hn18.symm))) ?_
    refine WR.nil ?_
    refine WH.next (fun w hw => hw.back (Gh.refl _) h026 (.cons _ (.cons_cons _ (.cons_cons _ .slnil)))) ?_
    refine WH.lone (i := 7) (by kernel_rfl) rfl ?_
    refine va rfl rfl rfl (q_field_addr (i20 * 5 + 2) fld_51_1 rfl rfl (ho17.mix_some (ltq hl25 hn18.symm)) rfl) ?_
    refine WR.nil ?_
    refine WH.next (fun w hw => hw.back (Gh.refl _) h026 (.cons _ (.cons_cons _ (.cons_cons _ .slnil)))) ?_
    refine WH.lone (i := 8) (by kernel_rfl) rfl ?_
    obtain ⟨_, ⟨A27, c28, rfl, hx29⟩, hx29o⟩ := ho17.mix_at (ltq hl25 hn18.symm)
    refine va rfl rfl rfl (q_ldo (c := 2) (v := .slice A27 ((gt x15 i20).past).length c28) (i := 0) rfl hx29o rfl Tryz.isAgg49 rfl rfl) ?_
    refine WR.nil ?_
    refine WH.next (fun w hw => hw.back (Gh.refl _) h026 (.cons _ (.cons_cons _ (.cons_cons _ .slnil)))) ?_
    refine WH.lone (i := 9) (by kernel_rfl) rfl ?_
    obtain ⟨z30, hz31, h⟩ := bnd h
    refine e_callW (is := []) rfl rfl (call_run Tryz.call51 rfl rfl (by kernel_rfl)) rfl (fun w hw hp => t_slices_Clone_api_Span_api_Span_l1 (B := B) hx29.2.2.1.2 hx29.2.2.1.1 hp (hB.pre (is := []) hw rfl) hz31) ?_
    rintro Γ32 U34 v35 hl33 ⟨A36, c37, row38, rfl, rfl, hr39, _⟩
    change WR _ _ _ (CC F Γ32 [row38, row16, [(g2, .cells #[.string ByteArray.empty, .slice none 0 0] 41 (0, 0))], [(g1, .cells #[.string r_.key, .slice A9 z3.length c10] 41 (0, 0))]]) _ _ (upd _ 23 (.slice A36 z30.length c37))
    refine WR.nil ?_
    refine WH.next (fun w hw => hw.back hl33 h026 (.cons _ (.cons _ (.cons_cons _ (.cons_cons _ .slnil))))) ?_
    refine WH.lone (i := 10) (by kernel_rfl) rfl ?_
    refine va rfl rfl rfl (q_ixn (i := i20) Tryz.underlying39 Tryz.sizeOf51 rfl rfl rfl hl25 ((ho17.mono hl33).mix_some (ltq hl25 hn18.symm))) ?_
    refine WR.nil ?_
    refine WH.next (fun w hw => hw.back hl33 h026 (.cons _ (.cons _ (.cons_cons _ (.cons_cons _ .slnil))))) ?_
    refine WH.lone (i := 11) (by kernel_rfl) rfl ?_
    refine va rfl rfl rfl (q_field_addr (i20 * 5 + 2) fld_51_1 rfl rfl ((ho17.mono hl33).mix_some (ltq hl25 hn18.symm)) rfl) ?_
    refine WR.nil ?_
    refine WH.next (fun w hw => hw.back hl33 h026 (.cons _ (.cons _ (.cons_cons _ (.cons_cons _ .slnil))))) ?_
    refine WH.lone (i := 12) (by kernel_rfl) rfl ?_
    have hc44 := hr39.capz
    intro w hw; obtain ⟨Γ40, hw, hl41, hr42⟩ := hw.seal (i := 0) rfl; have hs43 := hr39.sl hl41 hr42
    refine WR.here (C := CC F Γ40 [[], row16, [(g2, .cells #[.string ByteArray.empty, .slice none 0 0] 41 (0, 0))], [(g1, .cells #[.string r_.key, .slice A9 z3.length c10] 41 (0, 0))]]) ?_ hw
    clear hw
    refine e_store_part (T := mixT verT B) (q := i20) (f := 2) (v := .slice A36 z30.length c37) (vs := [.slice A36 z30.length c37]) (cs := [.int .i64 (gt x15 i20).dot.s, .int .i64 (gt x15 i20).dot.n, .slice A27 ((gt x15 i20).past).length c28, .bool (gt x15 i20).gone, .string (gt x15 i20).val]) (new := [.int .i64 (gt x15 i20).dot.s, .int .i64 (gt x15 i20).dot.n, .slice A36 z30.length c37, .bool (gt x15 i20).gone, .string (gt x15 i20).val]) (y := (true, (⟨(⟨(gt x15 i20).dot.s, (gt x15 i20).dot.n⟩ : Dot), z30, (gt x15 i20).gone, (gt x15 i20).val⟩ : Ver))) rfl rfl rfl rfl (by kernel_rfl) Tryz.sizeOf49 rfl hx29o rfl (Nat.le_of_ble_eq_true rfl) rfl (by exact ⟨A36, c37, rfl, ⟨hx29.1, hx29.2.1, ⟨hc44, hs43⟩, hx29.2.2.2⟩⟩) (i := 1) rfl (ho17.mono (hl33.trans hl41)) (by rw [tg_len]; exact (ltq hl25 hn18.symm)) ?_
    intro row45 ho46
    have ho46 := ho46.mix_set (ltq hl25 hn18.symm)
    refine WR.nil ?_
    refine WH.next (fun w hw => hw.back (hl33.trans hl41) h026 (.cons _ (.cons _ (.cons_cons _ (.cons_cons _ .slnil))))) ?_
    refine WH.done (by kernel_rfl) ?_
    change WC _ _ _ _ _ _
    refine WC.region ?_
    refine va rfl rfl rfl (q_add_r (r := ((i20 + 1 : Nat) : Int)) rfl rfl rfl (ctr_len hl25 (hn18 ▸ ho17.mix_le))) ?_
    refine va rfl rfl rfl (q_move (v := .int .i64 ((i20 + 1 : Nat) : Int)) rfl (by kernel_rfl)) ?_
    refine WR.nil ?_
    intro w hw
    exact ⟨hl25, (List.set x15 i20 (⟨(⟨(gt x15 i20).dot.s, (gt x15 i20).dot.n⟩ : Dot), z30, (gt x15 i20).gone, (gt x15 i20).val⟩ : Ver)), h, Γ40, row45, (sl_ (by kernel_rfl)), (hw.only (is := [1, 1, 1]) rfl), ((hl14.trans hl33).trans hl41), (List.length_set.trans hn18), ho46, trivial⟩
  · skip
    have ho17 := ho17.mix_end (by have := ige hb24; omega)
    have h := hge23 (ige hb24)
    refine WC.exit ?_
    change WC _ _ _ _ _ _
    refine WC.rs ?_
    refine va rfl rfl rfl (q_ldla (i := 2) (vs := [.string r_.key, .slice A9 z3.length c10]) rfl rfl Tryz.isAgg41 Tryz.sizeOf41 rfl rfl) ?_
    refine e_st (i := 1) (v := .agg #[.string r_.key, .slice A9 z3.length c10]) (new := #[.string r_.key, .slice A9 z3.length c10]) rfl Tryz.sizeOf41 rfl rfl rfl rfl (by kernel_rfl) rfl rfl rfl rfl ?_
    refine WR.nil ?_
    change WC _ _ _ _ _ _
    refine WC.ret ?_
    rw [show Value.slice A9 (z3.length) c10 = Value.slice A9 (x15.length) c10 from by rw [hn18]]
    intro w hw
    have hc51 := ho17.capz
    obtain ⟨Γ47, hw, hl48, hr49⟩ := hw.seal (i := 0) rfl; have hs50 := ho17.sl hl48 hr49
    obtain rfl := Option.some.inj h
    subst hF
    exact ⟨[.agg #[.string r_.key, .slice A9 x15.length c10]], (rr_agg (i := 1) (us := [.string r_.key, .slice A9 x15.length c10]) hw rfl Tryz.isAgg41 Tryz.sizeOf41 (by kernel_rfl) rfl rr_nil), end_e (is := []) (by kernel_rfl) hw rfl ⟨A9, c10, rfl, rfl, ⟨hr_.1, ⟨hc51, hs50⟩⟩, trivial⟩⟩
abbrev r_tree_Tree_Set_l1 (gt_ : Nat) (r : OTree × Int) (U : List Rowb) (Γ : Gh) (v : Value) : Prop := ∃ (rowt_' : Rowb), v = .int .i64 r.2 ∧ U = [rowt_'] ∧ OTree.ob (tg0 67) Γ gt_ rowt_' r.1 ∧ I64 r.2 ∧ True
set_option maxRecDepth 100000 in
set_option maxHeartbeats 400000 in
theorem t_tree_Tree_Set_l1 {Γ : Gh} {w0 : World} {B : Gh} {gt_ : Nat} {rowt_ : Rowb} {t_ : OTree} (ht_ : OTree.ob (tg0 67) Γ gt_ rowt_ t_) {Ar_1 : Option Addr} {cr_1 : Nat} (r_ : Rec) (hr_ : Rec.fits B Ar_1 cr_1 r_) (hp : Pre [rowt_] Γ w0) (hpB : Pre [rowt_] B w0) {r : OTree × Int} (h : m_tree_Tree_Set t_ r_ = some r) : Calls Tryz.prog 19 #[.pointer (some ⟨gt_, 0, none⟩), .agg #[.string r_.key, .slice Ar_1 r_.vers.length cr_1]] w0 (Outc Γ [rowt_] w0 (r_tree_Tree_Set_l1 gt_ r)) := by
  refine calls_of (N := 71) (rs := [4]) (args := [.pointer (some ⟨gt_, 0, none⟩), .agg #[.string r_.key, .slice Ar_1 r_.vers.length cr_1]]) Tryz.func19 rfl Tryz.ntmps19 Tryz.results19 rfl ?_
  obtain ⟨F, hF⟩ : ∃ F : Fm, F = ⟨ids [rowt_], w0, Γ⟩ := ⟨_, rfl⟩
  refine WC.here (C := CC F Γ [rowt_]) ?_ (hF ▸ hp.start)
  have hB : Lent F B := hF ▸ Lent.start hpB
  refine WC.rs ?_
  refine e_box (v := .agg #[.string r_.key, .slice Ar_1 r_.vers.length cr_1]) rfl rfl rfl rfl (by kernel_rfl) ?_
  intro g1
  refine va rfl rfl rfl (q_assign (v := .int .i64 0) rfl (by kernel_rfl)) ?_
  refine WR.nil ?_
  change WC _ _ _ _ _ _
  refine WC.seq ?_
  refine WC.rs ?_
  refine va rfl rfl rfl (q_ldla (i := 0) (vs := [.string r_.key, .slice Ar_1 r_.vers.length cr_1]) rfl rfl Tryz.isAgg41 Tryz.sizeOf41 rfl rfl) ?_
  obtain ⟨z2, hz3, h⟩ := bnd h
  refine vc rfl rfl rfl (q_call (call_run Tryz.call38 rfl rfl (by kernel_rfl)) (fun w hw => t_code_RightRec (Γ := Gh.all w) r_ (Rec.fits_mono hr_ ((fun w hw => hB.sat hw) w hw).le_all) (Sat.all w) hz3)) ?_
  refine va rfl rfl rfl (q_not rfl rfl) ?_
  refine WR.nil ?_
  change WC _ _ _ _ _ _
  refine WC.cif h (by kernel_rfl) (fun hb4 h => ?_) (fun hb4 h => ?_)
  · skip
    refine WC.rs ?_
    refine va rfl rfl rfl (q_assign (v := .int .i64 1) rfl (by kernel_rfl)) ?_
    refine WR.nil ?_
    change WC _ _ _ _ _ _
    refine WC.ret ?_
    intro w hw
    obtain rfl := Option.some.inj h
    subst hF
    exact end_e (is := [1]) (by kernel_rfl) hw rfl ⟨rowt_, rfl, rfl, ht_, (show I64 1 by decide), trivial⟩
  · skip
    refine WC.skip ?_
    change WC _ _ _ _ _ _
    refine WC.rs ?_
    refine va rfl rfl rfl (q_fl 0 fld_41_0 rfl rfl rfl) ?_
    refine va rfl rfl rfl (q_ldl (i := 0) (v := .string r_.key) rfl rfl Tryz.isAgg9 rfl rfl) ?_
    obtain ⟨z5, hz6, h⟩ := bnd h
    refine e_call (is := []) rfl rfl (call_run Tryz.call21 rfl rfl (by kernel_rfl)) rfl (fun w hp => t_tree_Place r_.key hr_.1 hp hz6) ?_
    rintro Γ7 U9 v10 hl8 ⟨A11, c12, row13, rfl, rfl, hr14, _⟩
    change WR _ _ _ (CC F Γ7 [row13, [(g1, .cells #[.string r_.key, .slice Ar_1 r_.vers.length cr_1] 41 (0, 0))], rowt_]) _ _ (upd _ 12 (.slice A11 z5.length c12))
    refine va rfl rfl rfl (q_assign (v := .slice A11 z5.length c12) rfl (by kernel_rfl)) ?_
    refine WR.nil ?_
    change WC _ _ _ _ _ _
    refine WC.seq ?_
    refine WC.dr (by kernel_rfl) (by kernel_rfl) (fun w hw => hw.drawn _) ?_
    refine wa rfl rfl rfl (q_move (v := .pointer (some ⟨gt_, 0, none⟩)) rfl (by kernel_rfl)) ?_
    refine wa rfl rfl rfl (q_move (v := .slice A11 z5.length c12) rfl (by kernel_rfl)) ?_
    obtain ⟨hk15, h⟩ := chk_some h
    refine wa rfl rfl rfl (q_ixn (i := 0) Tryz.underlying23 Tryz.sizeOf3 rfl rfl rfl (of_decide_eq_true hk15) (hr14.some_ (of_decide_eq_true hk15))) ?_
    refine wa rfl rfl rfl (q_ldo (c := 0) (v := .int .i64 (gt z5 0)) (i := 0) rfl (hr14.intT_at (of_decide_eq_true hk15)).2 rfl Tryz.isAgg3 rfl rfl) ?_
    refine wa rfl rfl rfl (q_move (v := .slice A11 z5.length c12) rfl (by kernel_rfl)) ?_
    obtain ⟨hk16, h⟩ := chk_some h
    refine wa rfl rfl rfl (q_ixn (i := 1) Tryz.underlying23 Tryz.sizeOf3 rfl rfl rfl (of_decide_eq_true hk16) (hr14.some_ (of_decide_eq_true hk16))) ?_
    refine wa rfl rfl rfl (q_ldo (c := 0) (v := .int .i64 (gt z5 1)) (i := 0) rfl (hr14.intT_at (of_decide_eq_true hk16)).2 rfl Tryz.isAgg3 rfl rfl) ?_
    refine wa rfl rfl rfl (q_nil (A := some ⟨gt_, 0, none⟩) rfl rfl rfl) ?_
    refine wa rfl rfl rfl (q_fl 0 fld_67_0 rfl rfl rfl) ?_
    obtain ⟨hk17, h⟩ := chk_some h
    refine wa rfl rfl rfl (q_ixd (i := (gt z5 0).toNat) Tryz.underlying64 Tryz.sizeOf63 rfl rfl (inle_eq rfl (inb_le hk17)) (inb_lt hk17)) ?_
    obtain ⟨hk18, h⟩ := chk_some h
    refine wa rfl rfl rfl (q_ixd (i := (gt z5 1).toNat) Tryz.underlying63 Tryz.sizeOf62 rfl rfl (inle_eq rfl (inb_le hk18)) (inb_lt hk18)) ?_
    refine wa rfl rfl rfl (q_assign (v := .pointer (some ⟨gt_, 0 + ((gt z5 0).toNat) * 16 + ((gt z5 1).toNat) * 1, none⟩)) rfl (by kernel_rfl)) ?_
    refine WQ.nil ?_
    change WC _ _ _ _ _ _
    refine WC.cut (fun σ w => ∃ (o19 : OTree), ∃ (row20 : Rowb), m_tree_Tree_Set_j1 r_ z5 o19 = some r ∧ slots σ [(0, .pointer (some ⟨gt_, 0, none⟩)), (3, .pointer (some ⟨g1, 0, none⟩)), (5, .slice A11 z5.length c12), (6, .pointer (some ⟨gt_, 0 + ((gt z5 0).toNat) * 16 + ((gt z5 1).toNat) * 1, none⟩))] ∧ CC F Γ7 [row13, [(g1, .cells #[.string r_.key, .slice Ar_1 r_.vers.length cr_1] 41 (0, 0))], row20] w ∧ OTree.ob (tg0 67) Γ7 gt_ row20 o19 ∧ True) ?_ ?_
    · skip
      refine WC.rs ?_
      refine va rfl rfl rfl (q_move (v := .pointer (some ⟨gt_, 0 + ((gt z5 0).toNat) * 16 + ((gt z5 1).toNat) * 1, none⟩)) rfl (by kernel_rfl)) ?_
      refine va rfl rfl rfl (q_nil (A := some ⟨gt_, 0 + ((gt z5 0).toNat) * 16 + ((gt z5 1).toNat) * 1, none⟩) rfl rfl rfl) ?_
      have hq := (ht_.mono hl8)
      obtain ⟨cs_22, rL_22, sm_22, rS_22, hrow_22, hM_22, hl_22, hS_22, -⟩ := hq
      obtain ⟨rA_23, r_23, rB_23, hrl_23, hO_23, hcl_23⟩ := hM_22.at_ (i := 0 + ((gt z5 0).toNat) * 16 + ((gt z5 1).toNat) * 1) (by rw [hl_22]; exact (leaf_lt (inb_lt hk17) (inb_lt hk18)))
      have hrw_23 : rowt_ = ([[(gt_, .cells (cs_22 ++ [Value.map (some sm_22)]).toArray (tg0 67).1 (0, 0))], rA_23, r_23, rB_23, rS_22] : List Rowb).flatten := by rw [hrow_22, hrl_23]; simp only [List.flatten_cons, List.flatten_nil, List.append_nil, List.append_assoc]
      intro w hw; have hw := hw.unfold (i := 2) rfl hrw_23
      refine WR.here (C := CC F Γ7 [[(gt_, .cells (cs_22 ++ [Value.map (some sm_22)]).toArray (tg0 67).1 (0, 0))], rA_23, r_23, rB_23, rS_22, row13, [(g1, .cells #[.string r_.key, .slice Ar_1 r_.vers.length cr_1] 41 (0, 0))]]) ?_ hw
      clear hw
      refine va rfl rfl rfl (q_ldA (i := 0) (cs := cs_22) rfl (by rw [(hM_22.len.trans hl_22)]; exact (leaf_lt (inb_lt hk17) (inb_lt hk18))) rfl Tryz.isAgg62 rfl) ?_
      refine va rfl rfl rfl (q_omap_nil hO_23 Tryz.underlying62 rfl rfl rfl) ?_
      refine WR.nil ?_
      change WC _ _ _ _ _ _
      refine WC.cif h (by kernel_rfl) (fun hb24 h => ?_) (fun hb24 h => ?_)
      · skip
        refine WC.region ?_
        refine va rfl rfl rfl (q_move (v := .pointer (some ⟨gt_, 0 + ((gt z5 0).toNat) * 16 + ((gt z5 1).toNat) * 1, none⟩)) rfl (by kernel_rfl)) ?_
        refine e_makeMap (strK Tryz.underlying9) recT.ag rfl rfl rfl rfl ?_
        intro g25 row26 hm27
        refine va rfl rfl rfl (q_nil (A := some ⟨gt_, 0 + ((gt z5 0).toNat) * 16 + ((gt z5 1).toNat) * 1, none⟩) rfl rfl rfl) ?_
        refine e_stA (i := 1) (cs := cs_22) (j := 0 + ((gt z5 0).toNat) * 16 + ((gt z5 1).toNat) * 1) (v := .map (some g25)) rfl (by rw [(hM_22.len.trans hl_22)]; exact (leaf_lt (inb_lt hk17) (inb_lt hk18))) Tryz.sizeOf62 rfl rfl rfl rfl (by kernel_rfl) rfl rfl ?_
        refine WR.nil ?_
        intro w hw
        obtain ⟨row_28, hrow_28, hob_28⟩ : ∃ rw : Rowb, rw = ([[(gt_, .cells ((List.set cs_22 (0 + ((gt z5 0).toNat) * 16 + ((gt z5 1).toNat) * 1) (.map (some g25))) ++ [Value.map (some sm_22)]).toArray (tg0 67).1 (0, 0))], rA_23, row26, rB_23, rS_22] : List Rowb).flatten ∧ OTree.ob (tg0 67) Γ7 gt_ rw (⟨(List.set t_.leaves (0 + ((gt z5 0).toNat) * 16 + ((gt z5 1).toNat) * 1) (some ([] : List (ByteArray × Rec)))), t_.sums⟩ : OTree) := ⟨_, rfl, (List.set cs_22 (0 + ((gt z5 0).toNat) * 16 + ((gt z5 1).toNat) * 1) (.map (some g25))), (rA_23 ++ (row26 ++ rB_23)), sm_22, rS_22, (by simp only [List.flatten_cons, List.flatten_nil, List.append_nil, List.append_assoc]), (hcl_23 _ (.map (some g25)) row26 (some ([] : List (ByteArray × Rec))) (Gh.refl _) ⟨g25, rfl, hm27⟩), (List.length_set.trans hl_22), hS_22, trivial⟩
        have hw := hw.fold (is := [1, 1, 0, 1, 1]) rfl hrow_28
        exact ⟨(⟨(List.set t_.leaves (0 + ((gt z5 0).toNat) * 16 + ((gt z5 1).toNat) * 1) (some ([] : List (ByteArray × Rec)))), t_.sums⟩ : OTree), row_28, h, (sl_ (by kernel_rfl)), (hw.only (is := [2, 2, 0]) rfl), hob_28, trivial⟩
      · skip
        refine WC.skip ?_
        intro w hw
        have hw := hw.fold (is := [0, 0, 0, 0, 0]) rfl hrw_23
        exact ⟨t_, rowt_, h, (sl_ (by kernel_rfl)), (hw.only (is := [1, 1, 0]) rfl), (ht_.mono hl8), trivial⟩
    · skip
      rintro σ w ⟨o19, row20, h, hsl, hw, ho21, -⟩
      refine Wpt.slots hsl ?_
      refine WC.here (C := CC F Γ7 [row13, [(g1, .cells #[.string r_.key, .slice Ar_1 r_.vers.length cr_1] 41 (0, 0))], row20]) ?_ hw
      clear hw hsl
      refine WC.seq ?_
      have hq := ho21
      obtain ⟨cs_30, rL_30, sm_30, rS_30, hrow_30, hM_30, hl_30, hS_30, -⟩ := hq
      obtain ⟨rA_31, r_31, rB_31, hrl_31, hO_31, hcl_31⟩ := hM_30.at_ (i := 0 + ((gt z5 0).toNat) * 16 + ((gt z5 1).toNat) * 1) (by rw [hl_30]; exact (leaf_lt (inb_lt hk17) (inb_lt hk18)))
      have hrw_31 : row20 = ([[(gt_, .cells (cs_30 ++ [Value.map (some sm_30)]).toArray (tg0 67).1 (0, 0))], rA_31, r_31, rB_31, rS_30] : List Rowb).flatten := by rw [hrow_30, hrl_31]; simp only [List.flatten_cons, List.flatten_nil, List.append_nil, List.append_assoc]
      intro w hw; have hw := hw.unfold (i := 2) rfl hrw_31
      refine WC.here (C := CC F Γ7 [[(gt_, .cells (cs_30 ++ [Value.map (some sm_30)]).toArray (tg0 67).1 (0, 0))], rA_31, r_31, rB_31, rS_30, row13, [(g1, .cells #[.string r_.key, .slice Ar_1 r_.vers.length cr_1] 41 (0, 0))]]) ?_ hw
      clear hw
      obtain ⟨es32, hes33, h⟩ := bnd h
      obtain ⟨m34, hc35, hm36⟩ : ∃ m, cgt cs_30 (0 + ((gt z5 0).toNat) * 16 + ((gt z5 1).toNat) * 1) = Value.map (some m) ∧ MapO (strK Tryz.underlying9) recT.ag Γ7 r_31 m es32 := (by have h9 := hO_31; rw [hes33] at h9; exact h9)
      intro w hw; have h037 := hw.le
      refine WC.here (C := CC F Γ7 [[(gt_, .cells (cs_30 ++ [Value.map (some sm_30)]).toArray (tg0 67).1 (0, 0))], rA_31, r_31, rB_31, rS_30, row13, [(g1, .cells #[.string r_.key, .slice Ar_1 r_.vers.length cr_1] 41 (0, 0))]]) ?_ hw; clear hw
      refine WC.held (CC F Γ7 [[(gt_, .cells (cs_30 ++ [Value.map (some sm_30)]).toArray (tg0 67).1 (0, 0))], rA_31, rB_31, row13, [(g1, .cells #[.string r_.key, .slice Ar_1 r_.vers.length cr_1] 41 (0, 0))]]) (by kernel_rfl) (fun w hw => hw.drawn _) ?_
      change WH _ _ _ _ (CC F Γ7 [[(gt_, .cells (cs_30 ++ [Value.map (some sm_30)]).toArray (tg0 67).1 (0, 0))], rA_31, r_31, rB_31, rS_30, row13, [(g1, .cells #[.string r_.key, .slice Ar_1 r_.vers.length cr_1] 41 (0, 0))]]) _ 6 #[false, false, false, false, false, false] _
      refine ht (i := 0) rfl (by kernel_rfl) rfl rfl rfl (fun w hw => hw.back (Gh.refl _) h037 (.cons_cons _ (.cons_cons _ (.cons _ (.cons_cons _ (.cons _ (.cons_cons _ (.cons_cons _ .slnil)))))))) (q_move (v := .pointer (some ⟨gt_, 0 + ((gt z5 0).toNat) * 16 + ((gt z5 1).toNat) * 1, none⟩)) rfl (by kernel_rfl)) ?_
      refine ht (i := 1) rfl (by kernel_rfl) rfl rfl rfl (fun w hw => hw.back (Gh.refl _) h037 (.cons_cons _ (.cons_cons _ (.cons _ (.cons_cons _ (.cons _ (.cons_cons _ (.cons_cons _ .slnil)))))))) (q_nil (A := some ⟨gt_, 0 + ((gt z5 0).toNat) * 16 + ((gt z5 1).toNat) * 1, none⟩) rfl rfl rfl) ?_
      refine ht (i := 2) rfl (by kernel_rfl) rfl rfl rfl (fun w hw => hw.back (Gh.refl _) h037 (.cons_cons _ (.cons_cons _ (.cons _ (.cons_cons _ (.cons _ (.cons_cons _ (.cons_cons _ .slnil)))))))) (q_ldA (i := 0) (cs := cs_30) rfl (by rw [(hM_30.len.trans hl_30)]; exact (leaf_lt (inb_lt hk17) (inb_lt hk18))) rfl Tryz.isAgg62 rfl) ?_
      refine ht (i := 3) rfl (by kernel_rfl) rfl rfl rfl (fun w hw => hw.back (Gh.refl _) h037 (.cons_cons _ (.cons_cons _ (.cons _ (.cons_cons _ (.cons _ (.cons_cons _ (.cons_cons _ .slnil)))))))) (q_fl 0 fld_41_0 rfl rfl rfl) ?_
      refine ht (i := 4) rfl (by kernel_rfl) rfl rfl rfl (fun w hw => hw.back (Gh.refl _) h037 (.cons_cons _ (.cons_cons _ (.cons _ (.cons_cons _ (.cons _ (.cons_cons _ (.cons_cons _ .slnil)))))))) (q_ldl (i := 4) (v := .string r_.key) rfl rfl Tryz.isAgg9 rfl rfl) ?_
      refine WH.lone (i := 5) (by kernel_rfl) rfl ?_
      refine e_delete (i := 2) (x := r_.key) rfl hm36 rfl rfl rfl Tryz.underlying62 (Eq.trans (b := cgt cs_30 (0 + ((gt z5 0).toNat) * 16 + ((gt z5 1).toNat) * 1)) rfl hc35) rfl ?_
      intro row38 hm39
      refine WR.nil ?_
      refine WH.next (fun w hw => hw.back (Gh.refl _) h037 (.cons_cons _ (.cons_cons _ (.cons _ (.cons_cons _ (.cons _ (.cons_cons _ (.cons_cons _ .slnil)))))))) ?_
      refine WH.done (by kernel_rfl) ?_
      change WC _ _ _ _ _ _
      obtain ⟨row_40, hrow_40, hob_40⟩ : ∃ rw : Rowb, rw = ([[(gt_, .cells (cs_30 ++ [Value.map (some sm_30)]).toArray (tg0 67).1 (0, 0))], rA_31, row38, rB_31, rS_30] : List Rowb).flatten ∧ OTree.ob (tg0 67) Γ7 gt_ rw (⟨(List.set o19.leaves (0 + ((gt z5 0).toNat) * 16 + ((gt z5 1).toNat) * 1) (some (mdel r_.key es32))), o19.sums⟩ : OTree) := ⟨_, rfl, cs_30, (rA_31 ++ (row38 ++ rB_31)), sm_30, rS_30, (by simp only [List.flatten_cons, List.flatten_nil, List.append_nil, List.append_assoc]), (by have h9 := hcl_31 _ (.map (some m34)) row38 (some (mdel r_.key es32)) (Gh.refl _) ⟨m34, rfl, hm39⟩; rw [set_cgt hc35] at h9; exact h9), (List.length_set.trans hl_30), hS_30, trivial⟩
      intro w hw; have hw := hw.fold (is := [0, 0, 0, 0, 0]) rfl hrow_40
      refine WC.here (C := CC F Γ7 [row_40, row13, [(g1, .cells #[.string r_.key, .slice Ar_1 r_.vers.length cr_1] 41 (0, 0))]]) ?_ hw
      clear hw
      refine WC.cut (fun σ w => ∃ (o43 : OTree), ∃ (Γ41 : Gh), ∃ (row44 : Rowb), m_tree_Tree_Set_j2 z5 o43 = some r ∧ slots σ [(0, .pointer (some ⟨gt_, 0, none⟩)), (5, .slice A11 z5.length c12)] ∧ CC F Γ41 [row44, row13] w ∧ Gh.le Γ7 Γ41 ∧ OTree.ob (tg0 67) Γ41 gt_ row44 o43 ∧ True) ?_ ?_
      · skip
        refine WC.rs ?_
        refine va rfl rfl rfl (q_fl 1 fld_41_1 rfl rfl rfl) ?_
        refine va rfl rfl rfl (q_ldl (i := 2) (v := .slice Ar_1 r_.vers.length cr_1) rfl rfl Tryz.isAgg39 rfl rfl) ?_
        refine va rfl rfl rfl (q_len_slice rfl Tryz.underlying39 rfl) ?_
        refine va rfl rfl rfl (q_gtr rfl rfl rfl) ?_
        refine WR.nil ?_
        change WC _ _ _ _ _ _
        refine WC.cif h (by kernel_rfl) (fun hb46 h => ?_) (fun hb46 h => ?_)
        · skip
          have hq := hob_40
          obtain ⟨cs_47, rL_47, sm_47, rS_47, hrow_47, hM_47, hl_47, hS_47, -⟩ := hq
          obtain ⟨rA_48, r_48, rB_48, hrl_48, hO_48, hcl_48⟩ := hM_47.at_ (i := 0 + ((gt z5 0).toNat) * 16 + ((gt z5 1).toNat) * 1) (by rw [hl_47]; exact (leaf_lt (inb_lt hk17) (inb_lt hk18)))
          have hrw_48 : row_40 = ([[(gt_, .cells (cs_47 ++ [Value.map (some sm_47)]).toArray (tg0 67).1 (0, 0))], rA_48, r_48, rB_48, rS_47] : List Rowb).flatten := by rw [hrow_47, hrl_48]; simp only [List.flatten_cons, List.flatten_nil, List.append_nil, List.append_assoc]
          intro w hw; have hw := hw.unfold (i := 0) rfl hrw_48
          refine WC.here (C := CC F Γ7 [[(gt_, .cells (cs_47 ++ [Value.map (some sm_47)]).toArray (tg0 67).1 (0, 0))], rA_48, r_48, rB_48, rS_47, row13, [(g1, .cells #[.string r_.key, .slice Ar_1 r_.vers.length cr_1] 41 (0, 0))]]) ?_ hw
          clear hw
          obtain ⟨es49, hes50, h⟩ := bnd h
          obtain ⟨m51, hc52, hm53⟩ : ∃ m, cgt cs_47 (0 + ((gt z5 0).toNat) * 16 + ((gt z5 1).toNat) * 1) = Value.map (some m) ∧ MapO (strK Tryz.underlying9) recT.ag Γ7 r_48 m es49 := (by have h9 := hO_48; rw [hes50] at h9; exact h9)
          intro w hw; have h054 := hw.le
          refine WC.here (C := CC F Γ7 [[(gt_, .cells (cs_47 ++ [Value.map (some sm_47)]).toArray (tg0 67).1 (0, 0))], rA_48, r_48, rB_48, rS_47, row13, [(g1, .cells #[.string r_.key, .slice Ar_1 r_.vers.length cr_1] 41 (0, 0))]]) ?_ hw; clear hw
          refine WC.held (CC F Γ7 [[(gt_, .cells (cs_47 ++ [Value.map (some sm_47)]).toArray (tg0 67).1 (0, 0))], rA_48, rB_48, row13, [(g1, .cells #[.string r_.key, .slice Ar_1 r_.vers.length cr_1] 41 (0, 0))]]) (by kernel_rfl) (fun w hw => hw.drawn _) ?_
          change WH _ _ _ _ (CC F Γ7 [[(gt_, .cells (cs_47 ++ [Value.map (some sm_47)]).toArray (tg0 67).1 (0, 0))], rA_48, r_48, rB_48, rS_47, row13, [(g1, .cells #[.string r_.key, .slice Ar_1 r_.vers.length cr_1] 41 (0, 0))]]) _ 8 #[false, false, false, false, false, false, false, false] _
          refine ht (i := 0) rfl (by kernel_rfl) rfl rfl rfl (fun w hw => hw.back (Gh.refl _) h054 (.cons_cons _ (.cons_cons _ (.cons _ (.cons_cons _ (.cons _ (.cons_cons _ (.cons_cons _ .slnil)))))))) (q_move (v := .pointer (some ⟨gt_, 0 + ((gt z5 0).toNat) * 16 + ((gt z5 1).toNat) * 1, none⟩)) rfl (by kernel_rfl)) ?_
          refine ht (i := 1) rfl (by kernel_rfl) rfl rfl rfl (fun w hw => hw.back (Gh.refl _) h054 (.cons_cons _ (.cons_cons _ (.cons _ (.cons_cons _ (.cons _ (.cons_cons _ (.cons_cons _ .slnil)))))))) (q_nil (A := some ⟨gt_, 0 + ((gt z5 0).toNat) * 16 + ((gt z5 1).toNat) * 1, none⟩) rfl rfl rfl) ?_
          refine ht (i := 2) rfl (by kernel_rfl) rfl rfl rfl (fun w hw => hw.back (Gh.refl _) h054 (.cons_cons _ (.cons_cons _ (.cons _ (.cons_cons _ (.cons _ (.cons_cons _ (.cons_cons _ .slnil)))))))) (q_ldA (i := 0) (cs := cs_47) rfl (by rw [(hM_47.len.trans hl_47)]; exact (leaf_lt (inb_lt hk17) (inb_lt hk18))) rfl Tryz.isAgg62 rfl) ?_
          refine ht (i := 3) rfl (by kernel_rfl) rfl rfl rfl (fun w hw => hw.back (Gh.refl _) h054 (.cons_cons _ (.cons_cons _ (.cons _ (.cons_cons _ (.cons _ (.cons_cons _ (.cons_cons _ .slnil)))))))) (q_fl 0 fld_41_0 rfl rfl rfl) ?_
          refine ht (i := 4) rfl (by kernel_rfl) rfl rfl rfl (fun w hw => hw.back (Gh.refl _) h054 (.cons_cons _ (.cons_cons _ (.cons _ (.cons_cons _ (.cons _ (.cons_cons _ (.cons_cons _ .slnil)))))))) (q_ldl (i := 4) (v := .string r_.key) rfl rfl Tryz.isAgg9 rfl rfl) ?_
          refine ht (i := 5) rfl (by kernel_rfl) rfl rfl rfl (fun w hw => hw.back (Gh.refl _) h054 (.cons_cons _ (.cons_cons _ (.cons _ (.cons_cons _ (.cons _ (.cons_cons _ (.cons_cons _ .slnil)))))))) (q_ldla (i := 4) (vs := [.string r_.key, .slice Ar_1 r_.vers.length cr_1]) rfl rfl Tryz.isAgg41 Tryz.sizeOf41 rfl rfl) ?_
          refine WH.lone (i := 6) (by kernel_rfl) rfl ?_
          obtain ⟨z55, hz56, h⟩ := bnd h
          refine e_callB (is := []) hB rfl rfl (call_run Tryz.call35 rfl rfl (by kernel_rfl)) rfl (fun w Θ hp hpB hle hleB hR => t_tree_own_x r_ (Rec.fits_mono hr_ hleB) hp hpB hz56) ?_
          rintro Γ57 U59 v60 hl58 ⟨A61, c62, rfl, rfl, hr63, _⟩
          change WR _ _ _ (CC F Γ57 [[(gt_, .cells (cs_47 ++ [Value.map (some sm_47)]).toArray (tg0 67).1 (0, 0))], rA_48, r_48, rB_48, rS_47, row13, [(g1, .cells #[.string r_.key, .slice Ar_1 r_.vers.length cr_1] 41 (0, 0))]]) _ _ (upd _ 46 (.agg #[.string z55.key, .slice A61 z55.vers.length c62]))
          refine WR.nil ?_
          refine WH.next (fun w hw => hw.back hl58 h054 (.cons_cons _ (.cons_cons _ (.cons _ (.cons_cons _ (.cons _ (.cons_cons _ (.cons_cons _ .slnil)))))))) ?_
          refine WH.lone (i := 7) (by kernel_rfl) rfl ?_
          refine e_mapUpdate (i := 2) (x := r_.key) (v := .agg #[.string z55.key, .slice A61 z55.vers.length c62]) (a := z55) rfl rfl rfl Tryz.underlying62 (Eq.trans (b := cgt cs_47 (0 + ((gt z5 0).toNat) * 16 + ((gt z5 1).toNat) * 1)) rfl hc52) rfl (by kernel_rfl) rfl (hm53.mono hl58) (by exact ⟨_, rfl, ⟨A61, c62, rfl, hr63⟩⟩) hr_.1 ?_
          intro row64 hm65
          refine WR.nil ?_
          refine WH.next (fun w hw => hw.back hl58 h054 (.cons_cons _ (.cons_cons _ (.cons _ (.cons_cons _ (.cons _ (.cons_cons _ (.cons_cons _ .slnil)))))))) ?_
          refine WH.done (by kernel_rfl) ?_
          intro w hw
          obtain ⟨row_66, hrow_66, hob_66⟩ : ∃ rw : Rowb, rw = ([[(gt_, .cells (cs_47 ++ [Value.map (some sm_47)]).toArray (tg0 67).1 (0, 0))], rA_48, row64, rB_48, rS_47] : List Rowb).flatten ∧ OTree.ob (tg0 67) Γ57 gt_ rw (⟨(List.set (⟨(List.set o19.leaves (0 + ((gt z5 0).toNat) * 16 + ((gt z5 1).toNat) * 1) (some (mdel r_.key es32))), o19.sums⟩ : OTree).leaves (0 + ((gt z5 0).toNat) * 16 + ((gt z5 1).toNat) * 1) (some (mput r_.key z55 es49))), (⟨(List.set o19.leaves (0 + ((gt z5 0).toNat) * 16 + ((gt z5 1).toNat) * 1) (some (mdel r_.key es32))), o19.sums⟩ : OTree).sums⟩ : OTree) := ⟨_, rfl, cs_47, (rA_48 ++ (row64 ++ rB_48)), sm_47, rS_47, (by simp only [List.flatten_cons, List.flatten_nil, List.append_nil, List.append_assoc]), (by have h9 := hcl_48 _ (.map (some m51)) row64 (some (mput r_.key z55 es49)) hl58 ⟨m51, rfl, hm65⟩; rw [set_cgt hc52] at h9; exact h9), (List.length_set.trans hl_47), (hS_47.mono hl58), trivial⟩
          have hw := hw.fold (is := [0, 0, 0, 0, 0]) rfl hrow_66
          exact ⟨(⟨(List.set (⟨(List.set o19.leaves (0 + ((gt z5 0).toNat) * 16 + ((gt z5 1).toNat) * 1) (some (mdel r_.key es32))), o19.sums⟩ : OTree).leaves (0 + ((gt z5 0).toNat) * 16 + ((gt z5 1).toNat) * 1) (some (mput r_.key z55 es49))), (⟨(List.set o19.leaves (0 + ((gt z5 0).toNat) * 16 + ((gt z5 1).toNat) * 1) (some (mdel r_.key es32))), o19.sums⟩ : OTree).sums⟩ : OTree), Γ57, row_66, h, (sl_ (by kernel_rfl)), (hw.only (is := [0, 0]) rfl), hl58, hob_66, trivial⟩
        · skip
          refine WC.skip ?_
          intro w hw
          exact ⟨(⟨(List.set o19.leaves (0 + ((gt z5 0).toNat) * 16 + ((gt z5 1).toNat) * 1) (some (mdel r_.key es32))), o19.sums⟩ : OTree), Γ7, row_40, h, (sl_ (by kernel_rfl)), (hw.only (is := [0, 0]) rfl), (Gh.refl _), hob_40, trivial⟩
      · skip
        rintro σ w ⟨o43, Γ41, row44, h, hsl, hw, hl42, ho45, -⟩
        refine Wpt.slots hsl ?_
        refine WC.here (C := CC F Γ41 [row44, row13]) ?_ hw
        clear hw hsl
        refine WC.rs ?_
        refine va rfl rfl rfl (q_move (v := .pointer (some ⟨gt_, 0, none⟩)) rfl (by kernel_rfl)) ?_
        refine va rfl rfl rfl (q_nil (A := some ⟨gt_, 0, none⟩) rfl rfl rfl) ?_
        refine va rfl rfl rfl (q_fl 256 fld_67_1 rfl rfl rfl) ?_
        have hq := ho45
        obtain ⟨cs_67, rL_67, sm_67, rS_67, hrow_67, hM_67, hl_67, hS_67, -⟩ := hq
        intro w hw; have hw := hw.unfold (i := 0) rfl hrow_67
        refine WR.here (C := CC F Γ41 [[(gt_, .cells (cs_67 ++ [Value.map (some sm_67)]).toArray (tg0 67).1 (0, 0))], rL_67, rS_67, row13]) ?_ hw
        clear hw
        refine va rfl rfl rfl (q_ldAe (i := 0) (cs := cs_67) rfl (hM_67.len.trans hl_67) rfl Tryz.isAgg65 rfl) ?_
        refine va rfl rfl rfl (q_build' (v := .agg #[.int .i64 0, .int .i64 0, .int .i64 0]) rfl (bargs3 rfl rfl rfl) (fun w => by kernel_rfl)) ?_
        refine e_sdelete (i := 2) (x := (0, 0, 0)) rfl hS_67 rfl rfl rfl Tryz.underlying65 rfl rfl ?_
        intro row68 hm69
        refine WR.nil ?_
        change WC _ _ _ _ _ _
        refine WC.seq ?_
        intro w hw; have h070 := hw.le
        refine WC.here (C := CC F Γ41 [[(gt_, .cells (cs_67 ++ [Value.map (some sm_67)]).toArray (tg0 67).1 (0, 0))], rL_67, row68, row13]) ?_ hw; clear hw
        refine WC.held (CC F Γ41 [[(gt_, .cells (cs_67 ++ [Value.map (some sm_67)]).toArray (tg0 67).1 (0, 0))], rL_67, row13]) (by kernel_rfl) (fun w hw => hw.drawn _) ?_
        change WH _ _ _ _ (CC F Γ41 [[(gt_, .cells (cs_67 ++ [Value.map (some sm_67)]).toArray (tg0 67).1 (0, 0))], rL_67, row68, row13]) _ 9 #[false, false, false, false, false, false, false, false, false] _
        refine ht (i := 0) rfl (by kernel_rfl) rfl rfl rfl (fun w hw => hw.back (Gh.refl _) h070 (.cons_cons _ (.cons_cons _ (.cons _ (.cons_cons _ .slnil))))) (q_move (v := .pointer (some ⟨gt_, 0, none⟩)) rfl (by kernel_rfl)) ?_
        refine ht (i := 1) rfl (by kernel_rfl) rfl rfl rfl (fun w hw => hw.back (Gh.refl _) h070 (.cons_cons _ (.cons_cons _ (.cons _ (.cons_cons _ .slnil))))) (q_nil (A := some ⟨gt_, 0, none⟩) rfl rfl rfl) ?_
        refine ht (i := 2) rfl (by kernel_rfl) rfl rfl rfl (fun w hw => hw.back (Gh.refl _) h070 (.cons_cons _ (.cons_cons _ (.cons _ (.cons_cons _ .slnil))))) (q_fl 256 fld_67_1 rfl rfl rfl) ?_
        refine ht (i := 3) rfl (by kernel_rfl) rfl rfl rfl (fun w hw => hw.back (Gh.refl _) h070 (.cons_cons _ (.cons_cons _ (.cons _ (.cons_cons _ .slnil))))) (q_ldAe (i := 0) (cs := cs_67) rfl (hM_67.len.trans hl_67) rfl Tryz.isAgg65 rfl) ?_
        refine ht (i := 4) rfl (by kernel_rfl) rfl rfl rfl (fun w hw => hw.back (Gh.refl _) h070 (.cons_cons _ (.cons_cons _ (.cons _ (.cons_cons _ .slnil))))) (q_move (v := .slice A11 z5.length c12) rfl (by kernel_rfl)) ?_
        refine ht (i := 5) rfl (by kernel_rfl) rfl rfl rfl (fun w hw => hw.back (Gh.refl _) h070 (.cons_cons _ (.cons_cons _ (.cons _ (.cons_cons _ .slnil))))) (q_ixn (i := 0) Tryz.underlying23 Tryz.sizeOf3 rfl rfl rfl (of_decide_eq_true hk15) ((hr14.mono hl42).some_ (of_decide_eq_true hk15))) ?_
        refine ht (i := 6) rfl (by kernel_rfl) rfl rfl rfl (fun w hw => hw.back (Gh.refl _) h070 (.cons_cons _ (.cons_cons _ (.cons _ (.cons_cons _ .slnil))))) (q_ldo (c := 0) (v := .int .i64 (gt z5 0)) (i := 2) rfl ((hr14.mono hl42).intT_at (of_decide_eq_true hk15)).2 rfl Tryz.isAgg3 rfl rfl) ?_
        refine ht (i := 7) rfl (by kernel_rfl) rfl rfl rfl (fun w hw => hw.back (Gh.refl _) h070 (.cons_cons _ (.cons_cons _ (.cons _ (.cons_cons _ .slnil))))) (q_build' (v := .agg #[.int .i64 1, .int .i64 (gt z5 0), .int .i64 0]) rfl (bargs3 rfl rfl rfl) (fun w => by kernel_rfl)) ?_
        refine WH.lone (i := 8) (by kernel_rfl) rfl ?_
        refine e_sdelete (i := 2) (x := (1, (gt z5 0), 0)) rfl hm69 rfl rfl rfl Tryz.underlying65 rfl rfl ?_
        intro row71 hm72
        refine WR.nil ?_
        refine WH.next (fun w hw => hw.back (Gh.refl _) h070 (.cons_cons _ (.cons_cons _ (.cons _ (.cons_cons _ .slnil))))) ?_
        refine WH.done (by kernel_rfl) ?_
        change WC _ _ _ _ _ _
        refine WC.seq ?_
        intro w hw; have h073 := hw.le
        refine WC.here (C := CC F Γ41 [[(gt_, .cells (cs_67 ++ [Value.map (some sm_67)]).toArray (tg0 67).1 (0, 0))], rL_67, row71, row13]) ?_ hw; clear hw
        refine WC.held (CC F Γ41 [[(gt_, .cells (cs_67 ++ [Value.map (some sm_67)]).toArray (tg0 67).1 (0, 0))], rL_67, row13]) (by kernel_rfl) (fun w hw => hw.drawn _) ?_
        change WH _ _ _ _ (CC F Γ41 [[(gt_, .cells (cs_67 ++ [Value.map (some sm_67)]).toArray (tg0 67).1 (0, 0))], rL_67, row71, row13]) _ 12 #[false, false, false, false, false, false, false, false, false, false, false, false] _
        refine ht (i := 0) rfl (by kernel_rfl) rfl rfl rfl (fun w hw => hw.back (Gh.refl _) h073 (.cons_cons _ (.cons_cons _ (.cons _ (.cons_cons _ .slnil))))) (q_move (v := .pointer (some ⟨gt_, 0, none⟩)) rfl (by kernel_rfl)) ?_
        refine ht (i := 1) rfl (by kernel_rfl) rfl rfl rfl (fun w hw => hw.back (Gh.refl _) h073 (.cons_cons _ (.cons_cons _ (.cons _ (.cons_cons _ .slnil))))) (q_nil (A := some ⟨gt_, 0, none⟩) rfl rfl rfl) ?_
        refine ht (i := 2) rfl (by kernel_rfl) rfl rfl rfl (fun w hw => hw.back (Gh.refl _) h073 (.cons_cons _ (.cons_cons _ (.cons _ (.cons_cons _ .slnil))))) (q_fl 256 fld_67_1 rfl rfl rfl) ?_
        refine ht (i := 3) rfl (by kernel_rfl) rfl rfl rfl (fun w hw => hw.back (Gh.refl _) h073 (.cons_cons _ (.cons_cons _ (.cons _ (.cons_cons _ .slnil))))) (q_ldAe (i := 0) (cs := cs_67) rfl (hM_67.len.trans hl_67) rfl Tryz.isAgg65 rfl) ?_
        refine ht (i := 4) rfl (by kernel_rfl) rfl rfl rfl (fun w hw => hw.back (Gh.refl _) h073 (.cons_cons _ (.cons_cons _ (.cons _ (.cons_cons _ .slnil))))) (q_move (v := .slice A11 z5.length c12) rfl (by kernel_rfl)) ?_
        refine ht (i := 5) rfl (by kernel_rfl) rfl rfl rfl (fun w hw => hw.back (Gh.refl _) h073 (.cons_cons _ (.cons_cons _ (.cons _ (.cons_cons _ .slnil))))) (q_ixn (i := 0) Tryz.underlying23 Tryz.sizeOf3 rfl rfl rfl (of_decide_eq_true hk15) ((hr14.mono hl42).some_ (of_decide_eq_true hk15))) ?_
        refine ht (i := 6) rfl (by kernel_rfl) rfl rfl rfl (fun w hw => hw.back (Gh.refl _) h073 (.cons_cons _ (.cons_cons _ (.cons _ (.cons_cons _ .slnil))))) (q_ldo (c := 0) (v := .int .i64 (gt z5 0)) (i := 2) rfl ((hr14.mono hl42).intT_at (of_decide_eq_true hk15)).2 rfl Tryz.isAgg3 rfl rfl) ?_
        refine ht (i := 7) rfl (by kernel_rfl) rfl rfl rfl (fun w hw => hw.back (Gh.refl _) h073 (.cons_cons _ (.cons_cons _ (.cons _ (.cons_cons _ .slnil))))) (q_move (v := .slice A11 z5.length c12) rfl (by kernel_rfl)) ?_
        refine ht (i := 8) rfl (by kernel_rfl) rfl rfl rfl (fun w hw => hw.back (Gh.refl _) h073 (.cons_cons _ (.cons_cons _ (.cons _ (.cons_cons _ .slnil))))) (q_ixn (i := 1) Tryz.underlying23 Tryz.sizeOf3 rfl rfl rfl (of_decide_eq_true hk16) ((hr14.mono hl42).some_ (of_decide_eq_true hk16))) ?_
        refine ht (i := 9) rfl (by kernel_rfl) rfl rfl rfl (fun w hw => hw.back (Gh.refl _) h073 (.cons_cons _ (.cons_cons _ (.cons _ (.cons_cons _ .slnil))))) (q_ldo (c := 0) (v := .int .i64 (gt z5 1)) (i := 2) rfl ((hr14.mono hl42).intT_at (of_decide_eq_true hk16)).2 rfl Tryz.isAgg3 rfl rfl) ?_
        refine ht (i := 10) rfl (by kernel_rfl) rfl rfl rfl (fun w hw => hw.back (Gh.refl _) h073 (.cons_cons _ (.cons_cons _ (.cons _ (.cons_cons _ .slnil))))) (q_build' (v := .agg #[.int .i64 2, .int .i64 (gt z5 0), .int .i64 (gt z5 1)]) rfl (bargs3 rfl rfl rfl) (fun w => by kernel_rfl)) ?_
        refine WH.lone (i := 11) (by kernel_rfl) rfl ?_
        refine e_sdelete (i := 2) (x := (2, (gt z5 0), (gt z5 1))) rfl hm72 rfl rfl rfl Tryz.underlying65 rfl rfl ?_
        intro row74 hm75
        refine WR.nil ?_
        refine WH.next (fun w hw => hw.back (Gh.refl _) h073 (.cons_cons _ (.cons_cons _ (.cons _ (.cons_cons _ .slnil))))) ?_
        refine WH.done (by kernel_rfl) ?_
        change WC _ _ _ _ _ _
        refine WC.rs ?_
        refine va rfl rfl rfl (q_assign (v := .int .i64 0) rfl (by kernel_rfl)) ?_
        refine WR.nil ?_
        change WC _ _ _ _ _ _
        refine WC.ret ?_
        intro w hw
        obtain ⟨row_76, hrow_76, hob_76⟩ : ∃ rw : Rowb, rw = ([[(gt_, .cells (cs_67 ++ [Value.map (some sm_67)]).toArray (tg0 67).1 (0, 0))], rL_67, row74] : List Rowb).flatten ∧ OTree.ob (tg0 67) Γ41 gt_ rw (⟨o43.leaves, (mdel (2, (gt z5 0), (gt z5 1)) (mdel (1, (gt z5 0), 0) (mdel (0, 0, 0) o43.sums)))⟩ : OTree) := ⟨_, rfl, cs_67, rL_67, sm_67, row74, (by simp only [List.flatten_cons, List.flatten_nil, List.append_nil, List.append_assoc]), hM_67, hl_67, hm75, trivial⟩
        have hw := hw.fold (is := [0, 0, 0]) rfl hrow_76
        obtain rfl := Option.some.inj h
        subst hF
        exact end_e (is := [0]) (by kernel_rfl) hw rfl ⟨row_76, rfl, rfl, hob_76, (show I64 0 by decide), trivial⟩
abbrev r_tree_New_l1 (r : (Option OTree) × Int) (U : List Rowb) (Γ : Gh) (v : Value) : Prop := ∃ (g0 : Nat), ∃ (row0 : Rowb), v = .tuple #[optp r.1 g0, .int .i64 r.2] ∧ U = [row0] ∧ optob (OTree.ob (tg0 67) Γ g0) row0 r.1 ∧ I64 r.2 ∧ True
set_option maxRecDepth 100000 in
set_option maxHeartbeats 400000 in
theorem t_tree_New_l1 {Γ : Gh} {w0 : World} {B : Gh} {Alist : Option Addr} {clist : Nat} {list : List Rec} (hlist : Sl recT B Alist list) (hlistc : list.length ≤ clist) (hp : Pre [] Γ w0) (hpB : Pre [] B w0) {r : (Option OTree) × Int} (h : m_tree_New list = some r) : Calls Tryz.prog 17 #[.slice Alist list.length clist] w0 (Outc Γ [] w0 (r_tree_New_l1 r)) := by
  refine calls_of (N := 25) (rs := [2, 3]) (args := [.slice Alist list.length clist]) Tryz.func17 rfl Tryz.ntmps17 Tryz.results17 rfl ?_
  obtain ⟨F, hF⟩ : ∃ F : Fm, F = ⟨ids [], w0, Γ⟩ := ⟨_, rfl⟩
  refine WC.here (C := CC F Γ []) ?_ (hF ▸ hp.start)
  have hB : Lent F B := hF ▸ Lent.start hpB
  refine WC.rs ?_
  refine va rfl rfl rfl (q_assign (v := .pointer none) rfl (by kernel_rfl)) ?_
  refine va rfl rfl rfl (q_assign (v := .int .i64 0) rfl (by kernel_rfl)) ?_
  refine WR.nil ?_
  change WC _ _ _ _ _ _
  refine WC.rs ?_
  refine e_makeMap kk58 refV rfl rfl rfl rfl ?_
  intro g1 row2 hm3
  refine va rfl rfl rfl (q_build' (v := .agg (List.replicate 256 (Value.map none) ++ [Value.map (some g1)]).toArray) rfl (bargs1 rfl) (fun w => by kernel_rfl)) ?_
  refine e_box (v := .agg (List.replicate 256 (Value.map none) ++ [Value.map (some g1)]).toArray) rfl rfl rfl rfl (by kernel_rfl) ?_
  intro g4
  obtain ⟨row_5, hrow_5, hob_5⟩ : ∃ rw : Rowb, rw = ([[(g4, .cells (List.replicate 256 (Value.map none) ++ [Value.map (some g1)]).toArray (tg0 67).1 (0, 0))], row2] : List Rowb).flatten ∧ OTree.ob (tg0 67) Γ g4 rw (⟨List.replicate 256 none, []⟩ : OTree) := ⟨_, rfl, List.replicate 256 (Value.map none), [], g1, row2, (by simp only [List.flatten_cons, List.flatten_nil, List.append_nil, List.nil_append]), MapsA.nils (strK Tryz.underlying9) recT.ag _ 256, List.length_replicate, Sums.new hm3, trivial⟩
  refine WR.sub (fun w hw => Cur.fold (is := [0, 0]) (row := row_5) hw rfl hrow_5) ?_
  change WR _ _ _ (CC F Γ [row_5]) _ _ (upd _ 10 (.pointer (some ⟨g4, 0, none⟩)))
  refine va rfl rfl rfl (q_assign (v := .pointer (some ⟨g4, 0, none⟩)) rfl (by kernel_rfl)) ?_
  refine WR.nil ?_
  change WC _ _ _ _ _ _
  refine WC.seq ?_
  refine WC.rs ?_
  refine va rfl rfl rfl (q_move (v := .slice Alist list.length clist) rfl (by kernel_rfl)) ?_
  refine va rfl rfl rfl (q_len_slice rfl Tryz.underlying22 rfl) ?_
  refine va rfl rfl rfl (q_move (v := .int .i64 0) rfl (by kernel_rfl)) ?_
  refine WR.nil ?_
  change WC _ _ _ _ _ _
  refine WC.block ?_
  refine WC.forI h (fun (i12 : Nat) (o8 : OTree) σ w => ∃ (Γ6 : Gh), ∃ (row9 : Rowb), slots σ [(4, .pointer (some ⟨g4, 0, none⟩)), (11, .slice Alist list.length clist), (12, .int .i64 ((list.length : Nat) : Int)), (13, .int .i64 ((i12 : Nat) : Int))] ∧ CC F Γ6 [row9] w ∧ Gh.le Γ Γ6 ∧ OTree.ob (tg0 67) Γ6 g4 row9 o8 ∧ True) ?_ ?_
  · skip
    intro w hw
    exact ⟨Γ, row_5, (sl_ (by kernel_rfl)), hw, (Gh.refl _), hob_5, trivial⟩
  rintro f11 i12 o8 σ w hi13 hlt14 hge15 ⟨Γ6, row9, hsl, hw, hl7, ho10, -⟩
  refine Wpt.slots hsl ?_
  refine WC.here (C := CC F Γ6 [row9]) ?_ hw
  clear hw hsl
  refine WC.rs ?_
  refine va rfl rfl rfl (q_lss rfl rfl rfl) ?_
  refine WR.nil ?_
  change WC _ _ _ _ _ _
  refine WC.seq ?_
  refine WC.cond (b := (decide (((i12 : Nat) : Int) < ((list.length : Nat) : Int)))) (by kernel_rfl) (fun hb16 => ?_) (fun hb16 => ?_)
  · skip
    have hl17 := ilt hb16
    have h := hlt14 hl17
    refine WC.skip ?_
    change WC _ _ _ _ _ _
    refine WC.seq ?_
    refine WC.block ?_
    refine WC.rs ?_
    refine va rfl rfl rfl (q_ixn (i := i12) Tryz.underlying22 Tryz.sizeOf41 rfl rfl rfl hl17 (hlist.some_ hl17)) ?_
    obtain ⟨A18, c19, hx20⟩ := hlist.recT_at i12
    refine va rfl rfl rfl (q_ldaS (c := 0) (vs := [.string (gt list i12).key, .slice A18 ((gt list i12).vers).length c19]) (fun w hw => hB.sat hw) (hx20 hl17).2 rfl Tryz.isAgg41 Tryz.sizeOf41 rfl rfl rfl) ?_
    refine e_alloc Tryz.zeroValue41 rfl rfl rfl rfl ?_
    intro g21
    refine e_st (i := 0) (v := .agg #[.string (gt list i12).key, .slice A18 ((gt list i12).vers).length c19]) (new := #[.string (gt list i12).key, .slice A18 ((gt list i12).vers).length c19]) rfl Tryz.sizeOf41 rfl rfl rfl rfl (by kernel_rfl) rfl rfl rfl rfl ?_
    refine WR.nil ?_
    change WC _ _ _ _ _ _
    refine WC.rs ?_
    refine va rfl rfl rfl (q_move (v := .pointer (some ⟨g4, 0, none⟩)) rfl (by kernel_rfl)) ?_
    refine va rfl rfl rfl (q_ldla (i := 0) (vs := [.string (gt list i12).key, .slice A18 ((gt list i12).vers).length c19]) rfl rfl Tryz.isAgg41 Tryz.sizeOf41 rfl rfl) ?_
    obtain ⟨z22, hz23, h⟩ := bnd h
    refine e_callB (is := [1]) hB rfl rfl (call_run Tryz.call19 rfl rfl (by kernel_rfl)) rfl (fun w Θ hp hpB hle hleB hR => t_tree_Tree_Set_l1 ho10 (gt list i12) (Rec.fits_mono (hx20 hl17).1 hleB) hp hpB hz23) ?_
    rintro Γ24 U26 v27 hl25 ⟨row28, rfl, rfl, hr29, hr30, _⟩
    change WR _ _ _ (CC F Γ24 [row28, [(g21, .cells #[.string (gt list i12).key, .slice A18 ((gt list i12).vers).length c19] 41 (0, 0))]]) _ _ (upd _ 19 (.int .i64 z22.2))
    refine va rfl rfl rfl (q_assign (v := .int .i64 z22.2) rfl (by kernel_rfl)) ?_
    refine WR.nil ?_
    change WC _ _ _ _ _ _
    refine WC.rs ?_
    refine va rfl rfl rfl (q_move (v := .int .i64 z22.2) rfl (by kernel_rfl)) ?_
    refine va rfl rfl rfl (q_neq rfl rfl rfl) ?_
    refine WR.nil ?_
    change WC _ _ _ _ _ _
    refine WC.cif h (by kernel_rfl) (fun hb31 h => ?_) (fun hb31 h => ?_)
    · skip
      refine WC.rs ?_
      refine va rfl rfl rfl (q_move (v := .int .i64 z22.2) rfl (by kernel_rfl)) ?_
      refine va rfl rfl rfl (q_assign (v := .pointer none) rfl (by kernel_rfl)) ?_
      refine va rfl rfl rfl (q_assign (v := .int .i64 z22.2) rfl (by kernel_rfl)) ?_
      refine WR.nil ?_
      change WC _ _ _ _ _ _
      refine WC.ret ?_
      intro w hw
      have hw := hw.pad
      obtain rfl := Option.some.inj h
      subst hF
      exact end_e (is := [0]) (by kernel_rfl) hw rfl ⟨0, [], rfl, rfl, rfl, hr30, trivial⟩
    · skip
      refine WC.skip ?_
      change WC _ _ _ _ _ _
      refine WC.region ?_
      refine va rfl rfl rfl (q_add_r (r := ((i12 + 1 : Nat) : Int)) rfl rfl rfl (ctr_len hl17 hlist.le)) ?_
      refine va rfl rfl rfl (q_move (v := .int .i64 ((i12 + 1 : Nat) : Int)) rfl (by kernel_rfl)) ?_
      refine WR.nil ?_
      intro w hw
      exact ⟨hl17, z22.1, h, Γ24, row28, (sl_ (by kernel_rfl)), (hw.only (is := [0]) rfl), (hl7.trans hl25), hr29, trivial⟩
  · skip
    have h := hge15 (ige hb16)
    refine WC.exit ?_
    change WC _ _ _ _ _ _
    refine WC.rs ?_
    refine va rfl rfl rfl (q_move (v := .pointer (some ⟨g4, 0, none⟩)) rfl (by kernel_rfl)) ?_
    refine va rfl rfl rfl (q_assign (v := .pointer (some ⟨g4, 0, none⟩)) rfl (by kernel_rfl)) ?_
    refine va rfl rfl rfl (q_assign (v := .int .i64 0) rfl (by kernel_rfl)) ?_
    refine WR.nil ?_
    change WC _ _ _ _ _ _
    refine WC.ret ?_
    intro w hw
    obtain rfl := Option.some.inj h
    subst hF
    exact end_e (is := [0]) (by kernel_rfl) hw rfl ⟨g4, row9, rfl, rfl, ho10, (show I64 0 by decide), trivial⟩
abbrev r_maps_Copy_map_string_api_Rec_map_string_api_Rec_string_api_Rec_x (Bo : Gh) (mdst : Nat) (msrc : Nat) (rowsrc : Rowb) (r : List (ByteArray × Rec)) (U : List Rowb) (Γ : Gh) (v : Value) : Prop := ∃ (rowdst' : Rowb), v = .tuple #[] ∧ U = [rowdst', rowsrc] ∧ MapO (strK Tryz.underlying9) (atV recT.ag Bo) Γ rowdst' mdst r ∧ True
set_option maxRecDepth 100000 in
set_option maxHeartbeats 400000 in
theorem t_maps_Copy_map_string_api_Rec_map_string_api_Rec_string_api_Rec_x {Γ : Gh} {w0 : World} {Bo : Gh} {mdst : Nat} {rowdst : Rowb} {dst : List (ByteArray × Rec)} (hdst : MapO (strK Tryz.underlying9) (atV recT.ag Bo) Γ rowdst mdst dst) {msrc : Nat} {rowsrc : Rowb} {src : List (ByteArray × Rec)} (hsrc : MapO (strK Tryz.underlying9) (atV recT.ag Bo) Γ rowsrc msrc src) (hp : Pre [rowdst, rowsrc] Γ w0) {r : List (ByteArray × Rec)} (h : m_maps_Copy_map_string_api_Rec_map_string_api_Rec_string_api_Rec dst src = some r) : Calls Tryz.prog 32 #[.map (some mdst), .map (some msrc)] w0 (Outc Γ [rowdst, rowsrc] w0 (r_maps_Copy_map_string_api_Rec_map_string_api_Rec_string_api_Rec_x Bo mdst msrc rowsrc r)) := by
  refine calls_of (N := 16) (rs := []) (args := [.map (some mdst), .map (some msrc)]) Tryz.func32 rfl Tryz.ntmps32 Tryz.results32 rfl ?_
  obtain ⟨F, hF⟩ : ∃ F : Fm, F = ⟨ids [rowdst, rowsrc], w0, Γ⟩ := ⟨_, rfl⟩
  refine WC.here (C := CC F Γ [rowdst, rowsrc]) ?_ (hF ▸ hp.start)
  refine WC.rs ?_
  refine va rfl rfl rfl (q_move (v := .map (some msrc)) rfl (by kernel_rfl)) ?_
  refine e_range hsrc (fun w hw p hp => hw.at_ (i := 1) rfl hp) rfl rfl rfl Tryz.underlying62 rfl ?_
  intro g1 row2 hi3
  change WR _ _ _ (CC F Γ [row2, rowdst, rowsrc]) _ _ (upd _ 7 (.pointer (some ⟨g1, 0, none⟩)))
  refine WR.nil ?_
  change WC _ _ _ _ _ _
  refine WC.block ?_
  refine WC.forEq h eqm_per (inv_put (fun _ _ => rfl)) hsrc.nodup (eqm_refl hdst.nodup) (fun (l4 : List (ByteArray × Rec)) (m7 : List (ByteArray × Rec)) σ w => ∃ (row5 : Rowb), ∃ (row8 : Rowb), slots σ [(0, .map (some mdst)), (7, .pointer (some ⟨g1, 0, none⟩))] ∧ CC F Γ [row5, row8, rowsrc] w ∧ ItO (strK Tryz.underlying9) (atV recT.ag Bo) Γ row5 g1 msrc rowsrc src l4 ∧ MapO (strK Tryz.underlying9) (atV recT.ag Bo) Γ row8 mdst m7 ∧ True) ?_ ?_
  · skip
    intro w hw
    exact ⟨row2, rowdst, (sl_ (by kernel_rfl)), hw, hi3, hdst, trivial⟩
  rintro G15 l4 m7 σ w hstep10 hK11 ⟨row5, row8, hsl, hw, hi6, ho9, -⟩
  refine Wpt.slots hsl ?_
  refine WC.here (C := CC F Γ [row5, row8, rowsrc]) ?_ hw
  clear hw hsl
  refine WC.rs ?_
  refine e_next (i := 0) rfl hsrc.ks hi6 (fun w hw p hp => hw.at_ (i := 2) rfl hp) rfl rfl rfl rfl (fun hl16 => ?_) (fun en17 l18 v19 row20 hp21 hok22 hv23 hit24 he25 => ?_)
  · skip
    obtain ⟨m26, hp27, h⟩ := hK11 hl16
    change WR _ _ _ (CC F Γ [row5, row8, rowsrc]) _ _ (upd _ 8 (.tuple #[.bool false]))
    refine va rfl rfl rfl (q_extract (v := .bool false) rfl rfl rfl) ?_
    refine WR.nil ?_
    change WC _ _ _ _ _ _
    refine WC.seq ?_
    refine WC.cfk (b := false) (by kernel_rfl) rfl ?_
    refine WC.exit ?_
    intro w hw
    obtain rfl := Option.some.inj h
    subst hF
    exact end_e (is := [1, 1]) (by kernel_rfl) hw rfl ⟨row8, rfl, rfl, (ho9.perm hp27.1), trivial⟩
  · skip
    obtain ⟨hlen12, s213, h, hgo14⟩ := hstep10 en17 l18 hp21
    obtain ⟨cs28, hv23, A29, c30, rfl, hf31⟩ := hv23
    obtain rfl : v19 = _ := hv23
    change WR _ _ _ (CC F Γ [row20, row8, rowsrc]) _ _ (upd _ 8 (.tuple #[.bool true, .string en17.1, .agg #[.string en17.2.key, .slice A29 en17.2.vers.length c30]]))
    refine va rfl rfl rfl (q_extract (v := .bool true) rfl rfl rfl) ?_
    refine WR.nil ?_
    change WC _ _ _ _ _ _
    refine WC.seq ?_
    refine WC.ctk (b := true) (by kernel_rfl) rfl ?_
    refine WC.skip ?_
    change WC _ _ _ _ _ _
    refine WC.block ?_
    refine WC.rs ?_
    refine va rfl rfl rfl (q_entry (kv := .string en17.1) (v := .agg #[.string en17.2.key, .slice A29 en17.2.vers.length c30]) (i := 0) rfl he25 (fun w hw p hp => hw.at_ (i := 2) rfl hp) rfl rfl) ?_
    refine va rfl rfl rfl (q_extract (v := .string en17.1) rfl rfl rfl) ?_
    refine va rfl rfl rfl (q_extract (v := .agg #[.string en17.2.key, .slice A29 en17.2.vers.length c30]) rfl rfl rfl) ?_
    refine e_alloc Tryz.zeroValue41 rfl rfl rfl rfl ?_
    intro g32
    refine va rfl rfl rfl (q_assign (v := .string en17.1) rfl (by kernel_rfl)) ?_
    refine e_st (i := 0) (v := .agg #[.string en17.2.key, .slice A29 en17.2.vers.length c30]) (new := #[.string en17.2.key, .slice A29 en17.2.vers.length c30]) rfl Tryz.sizeOf41 rfl rfl rfl rfl (by kernel_rfl) rfl rfl rfl rfl ?_
    refine WR.nil ?_
    change WC _ _ _ _ _ _
    refine WC.region ?_
    refine va rfl rfl rfl (q_move (v := .map (some mdst)) rfl (by kernel_rfl)) ?_
    refine va rfl rfl rfl (q_move (v := .string en17.1) rfl (by kernel_rfl)) ?_
    refine va rfl rfl rfl (q_ldla (i := 0) (vs := [.string en17.2.key, .slice A29 en17.2.vers.length c30]) rfl rfl Tryz.isAgg41 Tryz.sizeOf41 rfl rfl) ?_
    refine e_mapUpdate (i := 2) (x := en17.1) (v := .agg #[.string en17.2.key, .slice A29 en17.2.vers.length c30]) (a := en17.2) rfl rfl rfl Tryz.underlying62 rfl rfl (by kernel_rfl) rfl ho9 (by exact ⟨_, rfl, ⟨A29, c30, rfl, hf31⟩⟩) hok22 ?_
    intro row33 hm34
    refine WR.nil ?_
    intro w hw
    obtain rfl := Option.some.inj h
    exact ⟨l18, _, hlen12, hgo14, row20, row33, (sl_ (by kernel_rfl)), (hw.only (is := [1, 1, 1]) rfl), hit24, hm34, trivial⟩
abbrev r_maps_Copy_map_string_api_Rec_map_string_api_Rec_string_api_Rec_nil_x (Bo : Gh) (mdst : Nat) (rowdst : Rowb) (r : Unit) (U : List Rowb) (Γ : Gh) (v : Value) : Prop := v = .tuple #[] ∧ U = [rowdst] ∧ True
set_option maxRecDepth 100000 in
set_option maxHeartbeats 400000 in
theorem t_maps_Copy_map_string_api_Rec_map_string_api_Rec_string_api_Rec_nil_x {Γ : Gh} {w0 : World} {Bo : Gh} {mdst : Nat} {rowdst : Rowb} {dst : List (ByteArray × Rec)} (hdst : MapO (strK Tryz.underlying9) (atV recT.ag Bo) Γ rowdst mdst dst) (hp : Pre [rowdst] Γ w0) {r : Unit} (h : m_maps_Copy_map_string_api_Rec_map_string_api_Rec_string_api_Rec_nil dst = some r) : Calls Tryz.prog 32 #[.map (some mdst), .map none] w0 (Outc Γ [rowdst] w0 (r_maps_Copy_map_string_api_Rec_map_string_api_Rec_string_api_Rec_nil_x Bo mdst rowdst r)) := by
  refine calls_of (N := 16) (rs := []) (args := [.map (some mdst), .map none]) Tryz.func32 rfl Tryz.ntmps32 Tryz.results32 rfl ?_
  obtain ⟨F, hF⟩ : ∃ F : Fm, F = ⟨ids [rowdst], w0, Γ⟩ := ⟨_, rfl⟩
  refine WC.here (C := CC F Γ [rowdst]) ?_ (hF ▸ hp.start)
  refine WC.rs ?_
  refine va rfl rfl rfl (q_move (v := .map none) rfl (by kernel_rfl)) ?_
  refine e_rangen rfl rfl rfl Tryz.underlying62 rfl ?_
  intro g1
  change WR _ _ _ (CC F Γ [[(g1, .mapIter none 0 #[] 0)], rowdst]) _ _ (upd _ 7 (.pointer (some ⟨g1, 0, none⟩)))
  refine WR.nil ?_
  change WC _ _ _ _ _ _
  refine WC.block ?_
  refine WC.loopN h (fun (s : Unit) σ w => match s with | () => slots σ [(0, .map (some mdst)), (7, .pointer (some ⟨g1, 0, none⟩))] ∧ CC F Γ [[(g1, .mapIter none 0 #[] 0)], rowdst] w ∧ True) ?_ ?_
  · skip
    intro w hw
    exact ⟨(sl_ (by kernel_rfl)), hw, trivial⟩
  rintro f2 ⟨⟩ σ w h ⟨hsl, hw, -⟩
  refine Wpt.slots hsl ?_
  refine WC.here (C := CC F Γ [[(g1, .mapIter none 0 #[] 0)], rowdst]) ?_ hw
  clear hw hsl
  refine WC.rs ?_
  refine e_nextn (i := 0) rfl rfl rfl rfl rfl ?_
  change WR _ _ _ (CC F Γ [[(g1, .mapIter none 0 #[] 0)], rowdst]) _ _ (upd _ 8 (.tuple #[.bool false]))
  refine va rfl rfl rfl (q_extract (v := .bool false) rfl rfl rfl) ?_
  refine WR.nil ?_
  change WC _ _ _ _ _ _
  refine WC.seq ?_
  refine WC.cfk (b := false) (by kernel_rfl) rfl ?_
  refine WC.exit ?_
  intro w hw
  obtain rfl := Option.some.inj h
  subst hF
  exact end_e (is := [1]) (by kernel_rfl) hw rfl ⟨rfl, rfl, trivial⟩
set_option maxRecDepth 100000 in
set_option maxHeartbeats 400000 in
theorem t_tree_Tree_Recs_x {Γ : Gh} {w0 : World} {Bo : Gh} {gt_ : Nat} {et_ : TG} {rowt_ : Rowb} {t_ : OTree} (ht_ : OTree.ob et_ Bo gt_ rowt_ t_) {Apath : Option Addr} {cpath : Nat} {path : List Int} (hpath : Sl intT Γ Apath path) (hpathc : path.length ≤ cpath) (hp : Pre [rowt_] Γ w0) (hpO : Pre [rowt_] Bo w0) {r : List Rec} (h : m_tree_Tree_Recs t_ path = some r) : Calls Tryz.prog 13 #[.pointer (some ⟨gt_, 0, none⟩), .slice Apath path.length cpath] w0 (Outc Γ [rowt_] w0 (r_tree_Tree_Recs gt_ et_ rowt_ r)) := by
  refine calls_of (N := 79) (rs := [4]) (args := [.pointer (some ⟨gt_, 0, none⟩), .slice Apath path.length cpath]) Tryz.func13 rfl Tryz.ntmps13 Tryz.results13 rfl ?_
  obtain ⟨F, hF⟩ : ∃ F : Fm, F = ⟨ids [rowt_], w0, Γ⟩ := ⟨_, rfl⟩
  refine WC.here (C := CC F Γ [rowt_]) ?_ (hF ▸ hp.start)
  have hO : Lent F Bo := hF ▸ Lent.start hpO
  refine WC.rs ?_
  refine va rfl rfl rfl (q_assign (v := .slice none 0 0) rfl (by kernel_rfl)) ?_
  refine WR.nil ?_
  change WC _ _ _ _ _ _
  refine WC.seq ?_
  refine WC.rs ?_
  refine va rfl rfl rfl (q_move (v := .slice Apath path.length cpath) rfl (by kernel_rfl)) ?_
  obtain ⟨z1, hz2, h⟩ := bnd h
  refine vc rfl rfl rfl (q_call (call_run Tryz.call22 rfl rfl (by kernel_rfl)) (fun w hw => t_tree_at (Γ := Gh.all w) (hpath.mono hw.sat.le_all) hpathc (Sat.all w) hz2)) ?_
  refine va rfl rfl rfl (q_move (v := .tuple #[.agg #[.int .i64 z1.1.1, .int .i64 z1.1.2.1, .int .i64 z1.1.2.2], .bool z1.2]) rfl (by kernel_rfl)) ?_
  refine va rfl rfl rfl (q_extract (v := .agg #[.int .i64 z1.1.1, .int .i64 z1.1.2.1, .int .i64 z1.1.2.2]) rfl rfl rfl) ?_
  refine va rfl rfl rfl (q_extract (v := .bool z1.2) rfl rfl rfl) ?_
  refine e_alloc Tryz.zeroValue58 rfl rfl rfl rfl ?_
  intro g3
  refine e_st (i := 0) (v := .agg #[.int .i64 z1.1.1, .int .i64 z1.1.2.1, .int .i64 z1.1.2.2]) (new := #[.int .i64 z1.1.1, .int .i64 z1.1.2.1, .int .i64 z1.1.2.2]) rfl Tryz.sizeOf58 rfl rfl rfl rfl (by kernel_rfl) rfl rfl rfl rfl ?_
  refine va rfl rfl rfl (q_assign (v := .bool z1.2) rfl (by kernel_rfl)) ?_
  refine WR.nil ?_
  change WC _ _ _ _ _ _
  refine WC.rs ?_
  refine va rfl rfl rfl (q_move (v := .bool z1.2) rfl (by kernel_rfl)) ?_
  refine va rfl rfl rfl (q_not rfl rfl) ?_
  refine WR.nil ?_
  change WC _ _ _ _ _ _
  refine WC.cif h (by kernel_rfl) (fun hb4 h => ?_) (fun hb4 h => ?_)
  · skip
    refine WC.rs ?_
    refine va rfl rfl rfl (q_assign (v := .slice none 0 0) rfl (by kernel_rfl)) ?_
    refine WR.nil ?_
    change WC _ _ _ _ _ _
    refine WC.ret ?_
    intro w hw
    have hw := hw.pad
    obtain rfl := Option.some.inj h
    subst hF
    exact end_e (is := [2, 0]) (by kernel_rfl) hw rfl ⟨none, 0, [], rfl, rfl, (Own.nil recT _ 41), trivial⟩
  · skip
    refine WC.skip ?_
    change WC _ _ _ _ _ _
    refine WC.rs ?_
    refine e_makeMap (strK Tryz.underlying9) (atV recT.ag Bo) rfl rfl rfl rfl ?_
    intro g5 row6 hm7
    refine va rfl rfl rfl (q_assign (v := .map (some g5)) rfl (by kernel_rfl)) ?_
    refine WR.nil ?_
    change WC _ _ _ _ _ _
    refine WC.seq ?_
    refine WC.rs ?_
    refine va rfl rfl rfl (q_move (v := .int .i64 0) rfl (by kernel_rfl)) ?_
    refine WR.nil ?_
    change WC _ _ _ _ _ _
    refine WC.block ?_
    refine WC.forU h (fun (i14 : Nat) (m10 : List (ByteArray × Rec)) σ w => ∃ (Γ8 : Gh), ∃ (row11 : Rowb), slots σ [(0, .pointer (some ⟨gt_, 0, none⟩)), (1, .slice Apath path.length cpath), (7, .map (some g5)), (22, .int .i64 ((i14 : Nat) : Int))] ∧ CC F Γ8 [row11, rowt_] w ∧ Gh.le Γ Γ8 ∧ MapO (strK Tryz.underlying9) (atV recT.ag Bo) Γ8 row11 g5 m10 ∧ True) ?_ ?_
    · skip
      intro w hw
      exact ⟨Γ, row6, (sl_ (by kernel_rfl)), (hw.only (is := [0, 1]) rfl), (Gh.refl _), hm7, trivial⟩
    rintro f13 i14 m10 σ w hi15 hlt16 hge17 ⟨Γ8, row11, hsl, hw, hl9, ho12, -⟩
    refine Wpt.slots hsl ?_
    refine WC.here (C := CC F Γ8 [row11, rowt_]) ?_ hw
    clear hw hsl
    refine WC.rs ?_
    refine va rfl rfl rfl (q_lss rfl rfl rfl) ?_
    refine WR.nil ?_
    change WC _ _ _ _ _ _
    refine WC.seq ?_
    refine WC.cond (b := (decide (((i14 : Nat) : Int) < 16))) (by kernel_rfl) (fun hb18 => ?_) (fun hb18 => ?_)
    · skip
      have hl19 := ilt hb18
      have h := hlt16 hl19
      refine WC.skip ?_
      change WC _ _ _ _ _ _
      refine WC.seq ?_
      refine WC.block ?_
      refine WC.rs ?_
      refine va rfl rfl rfl (q_move (v := .int .i64 ((i14 : Nat) : Int)) rfl (by kernel_rfl)) ?_
      refine va rfl rfl rfl (q_assign (v := .int .i64 ((i14 : Nat) : Int)) rfl (by kernel_rfl)) ?_
      refine WR.nil ?_
      change WC _ _ _ _ _ _
      refine WC.rs ?_
      refine va rfl rfl rfl (q_move (v := .pointer (some ⟨gt_, 0, none⟩)) rfl (by kernel_rfl)) ?_
      refine va rfl rfl rfl (q_move (v := .int .i64 ((i14 : Nat) : Int)) rfl (by kernel_rfl)) ?_
      refine va rfl rfl rfl (q_nil (A := some ⟨gt_, 0, none⟩) rfl rfl rfl) ?_
      refine va rfl rfl rfl (q_fl 0 fld_67_0 rfl rfl rfl) ?_
      refine va rfl rfl rfl (q_ixd (i := i14) Tryz.underlying64 Tryz.sizeOf63 rfl rfl rfl hl19) ?_
      have hq := ht_
      obtain ⟨cs_20, rL_20, sm_20, rS_20, hrow_20, hM_20, hl_20, hS_20, -⟩ := hq
      refine va rfl rfl rfl (q_ldAs (i := 1) (n := 16) (cs := cs_20) rfl (hrow_20 ▸ List.mem_flatten.2 ⟨([(gt_, .cells (cs_20 ++ [Value.map (some sm_20)]).toArray et_.1 (0, 0))] : Rowb), List.mem_cons_self .., List.mem_singleton.2 rfl⟩) (by rw [(hM_20.len.trans hl_20)]; exact leaf_le hl19) rfl Tryz.isAgg63 Tryz.sizeOf63 rfl) ?_
      refine va rfl rfl rfl (q_move (v := .int .i64 0) rfl (by kernel_rfl)) ?_
      refine WR.nil ?_
      change WC _ _ _ _ _ _
      refine WC.block ?_
      refine WC.forU h (fun (i27 : Nat) (m23 : List (ByteArray × Rec)) σ w => ∃ (Γ21 : Gh), ∃ (row24 : Rowb), slots σ [(0, .pointer (some ⟨gt_, 0, none⟩)), (1, .slice Apath path.length cpath), (7, .map (some g5)), (8, .int .i64 ((i14 : Nat) : Int)), (22, .int .i64 ((i14 : Nat) : Int)), (30, .agg (((cs_20).drop (0 + i14 * 16)).take 16).toArray), (31, .int .i64 ((i27 : Nat) : Int))] ∧ CC F Γ21 [row24, rowt_] w ∧ Gh.le Γ8 Γ21 ∧ MapO (strK Tryz.underlying9) (atV recT.ag Bo) Γ21 row24 g5 m23 ∧ True) ?_ ?_
      · skip
        intro w hw
        exact ⟨Γ8, row11, (sl_ (by kernel_rfl)), hw, (Gh.refl _), ho12, trivial⟩
      rintro f26 i27 m23 σ w hi28 hlt29 hge30 ⟨Γ21, row24, hsl, hw, hl22, ho25, -⟩
      refine Wpt.slots hsl ?_
      refine WC.here (C := CC F Γ21 [row24, rowt_]) ?_ hw
      clear hw hsl
      refine WC.rs ?_
      refine va rfl rfl rfl (q_lss rfl rfl rfl) ?_
      refine WR.nil ?_
      change WC _ _ _ _ _ _
      refine WC.seq ?_
      refine WC.cond (b := (decide (((i27 : Nat) : Int) < 16))) (by kernel_rfl) (fun hb31 => ?_) (fun hb31 => ?_)
      · skip
        have hl32 := ilt hb31
        have h := hlt29 hl32
        refine WC.skip ?_
        change WC _ _ _ _ _ _
        refine WC.cut (fun σ w => ∃ (m35 : List (ByteArray × Rec)), ∃ (Γ33 : Gh), ∃ (row36 : Rowb), m_tree_Tree_Recs_j21 f26 m35 = some r ∧ slots σ [(0, .pointer (some ⟨gt_, 0, none⟩)), (1, .slice Apath path.length cpath), (7, .map (some g5)), (8, .int .i64 ((i14 : Nat) : Int)), (22, .int .i64 ((i14 : Nat) : Int)), (30, .agg (((cs_20).drop (0 + i14 * 16)).take 16).toArray), (31, .int .i64 ((i27 : Nat) : Int))] ∧ CC F Γ33 [row36, rowt_] w ∧ Gh.le Γ21 Γ33 ∧ MapO (strK Tryz.underlying9) (atV recT.ag Bo) Γ33 row36 g5 m35 ∧ True) ?_ ?_
        · skip
          refine WC.block ?_
          refine WC.rs ?_
          refine va rfl rfl rfl (q_move (v := .int .i64 ((i27 : Nat) : Int)) rfl (by kernel_rfl)) ?_
          refine va rfl rfl rfl (q_ixv (i := i27) Tryz.underlying63 Tryz.isAgg62 Tryz.sizeOf62 (by rw [(hM_20.len.trans hl_20)]; exact leaf_le hl19) rfl rfl rfl hl32) ?_
          refine va rfl rfl rfl (q_assign (v := .int .i64 ((i27 : Nat) : Int)) rfl (by kernel_rfl)) ?_
          refine va rfl rfl rfl (q_assign (v := cgt cs_20 (0 + i14 * 16 + i27 * 1)) rfl (by kernel_rfl)) ?_
          refine WR.nil ?_
          change WC _ _ _ _ _ _
          refine WC.seq ?_
          refine WC.rs ?_
          refine va rfl rfl rfl (q_move (v := .slice Apath path.length cpath) rfl (by kernel_rfl)) ?_
          refine va rfl rfl rfl (q_len_slice rfl Tryz.underlying23 rfl) ?_
          refine va rfl rfl rfl (q_gtr rfl rfl rfl) ?_
          refine va rfl rfl rfl (q_move (v := .bool (decide (0 < ((path.length : Nat) : Int)))) rfl (by kernel_rfl)) ?_
          refine vg1 rfl rfl rfl rfl rfl (fun hg38 => QV.qo (q_move (v := .slice Apath path.length cpath) rfl (by kernel_rfl))) ?_
          obtain ⟨hk40, h⟩ := chk_some h
          refine vg1 rfl rfl rfl rfl rfl (fun hg39 => QV.qo (q_ixn (i := 0) Tryz.underlying23 Tryz.sizeOf3 rfl (gu hg39 rfl) rfl (of_decide_eq_true (imp_of hk40 hg39)) ((hpath.mono (hl9.trans hl22)).some_ (of_decide_eq_true (imp_of hk40 hg39))))) ?_
          refine vg1 rfl rfl rfl rfl rfl (fun hg41 => QV.qo (q_ld (c := 0) (v := .int .i64 (gt path 0)) ((hpath.mono (hl9.trans hl22)).intT_at (of_decide_eq_true (imp_of hk40 hg41))).2 rfl Tryz.isAgg3 (gu hg41 rfl) rfl)) ?_
          refine vg1 rfl rfl rfl rfl rfl (fun hg42 => QV.qo (q_move (v := .int .i64 ((i14 : Nat) : Int)) rfl (by kernel_rfl))) ?_
          refine vg1 rfl rfl rfl rfl rfl (fun hg43 => QV.qo (q_neq rfl (gu hg43 rfl) (gu hg43 rfl))) ?_
          refine va rfl rfl rfl (q_pick rfl rfl (pk_and' (g := (decide (0 < ((path.length : Nat) : Int)))) (y := ((gt path 0) != ((i14 : Nat) : Int))))) ?_
          refine va rfl rfl rfl (q_move (v := .bool ((decide (0 < ((path.length : Nat) : Int))) && ((gt path 0) != ((i14 : Nat) : Int)))) rfl (by kernel_rfl)) ?_
          refine vg0 rfl rfl rfl rfl rfl (fun hg44 => QV.qo (q_move (v := .slice Apath path.length cpath) rfl (by kernel_rfl))) ?_
          refine vg0 rfl rfl rfl rfl rfl (fun hg45 => QV.qo (q_len_slice rfl Tryz.underlying23 (gu hg45 rfl))) ?_
          refine vg0 rfl rfl rfl rfl rfl (fun hg46 => QV.qo (q_gtr rfl (gu hg46 rfl) rfl)) ?_
          refine vg0 rfl rfl rfl rfl rfl (fun hg47 => QV.qo (q_move (v := .bool (decide (1 < ((path.length : Nat) : Int)))) rfl (gu hg47 rfl))) ?_
          refine vh1 (c0 := (!((decide (0 < ((path.length : Nat) : Int))) && ((gt path 0) != ((i14 : Nat) : Int))))) (g := (decide (1 < ((path.length : Nat) : Int)))) rfl rfl rfl rfl rfl (fun hg48 => QV.qo (q_move (v := .slice Apath path.length cpath) rfl (by kernel_rfl))) ?_
          obtain ⟨hk50, h⟩ := chk_some h
          refine vh1 (c0 := (!((decide (0 < ((path.length : Nat) : Int))) && ((gt path 0) != ((i14 : Nat) : Int))))) (g := (decide (1 < ((path.length : Nat) : Int)))) rfl rfl rfl rfl rfl (fun hg49 => QV.qo (q_ixn (i := 1) Tryz.underlying23 Tryz.sizeOf3 rfl (gu hg49 rfl) rfl (of_decide_eq_true (imp_of hk50 hg49)) ((hpath.mono (hl9.trans hl22)).some_ (of_decide_eq_true (imp_of hk50 hg49))))) ?_
          refine vh1 (c0 := (!((decide (0 < ((path.length : Nat) : Int))) && ((gt path 0) != ((i14 : Nat) : Int))))) (g := (decide (1 < ((path.length : Nat) : Int)))) rfl rfl rfl rfl rfl (fun hg51 => QV.qo (q_ld (c := 0) (v := .int .i64 (gt path 1)) ((hpath.mono (hl9.trans hl22)).intT_at (of_decide_eq_true (imp_of hk50 hg51))).2 rfl Tryz.isAgg3 (gu hg51 rfl) rfl)) ?_
          refine vh1 (c0 := (!((decide (0 < ((path.length : Nat) : Int))) && ((gt path 0) != ((i14 : Nat) : Int))))) (g := (decide (1 < ((path.length : Nat) : Int)))) rfl rfl rfl rfl rfl (fun hg52 => QV.qo (q_move (v := .int .i64 ((i27 : Nat) : Int)) rfl (by kernel_rfl))) ?_
          refine vh1 (c0 := (!((decide (0 < ((path.length : Nat) : Int))) && ((gt path 0) != ((i14 : Nat) : Int))))) (g := (decide (1 < ((path.length : Nat) : Int)))) rfl rfl rfl rfl rfl (fun hg53 => QV.qo (q_neq rfl (gu hg53 rfl) (gu hg53 rfl))) ?_
          refine vg0 rfl rfl rfl rfl rfl (fun hg54 => QV.qo (q_pick rfl (gu hg54 rfl) (pk_and (c := (!((decide (0 < ((path.length : Nat) : Int))) && ((gt path 0) != ((i14 : Nat) : Int))))) (g := (decide (1 < ((path.length : Nat) : Int)))) (y := ((gt path 1) != ((i27 : Nat) : Int))) hg54))) ?_
          refine va rfl rfl rfl (q_pick rfl rfl (pk_or' (g := ((decide (0 < ((path.length : Nat) : Int))) && ((gt path 0) != ((i14 : Nat) : Int)))) (y := ((decide (1 < ((path.length : Nat) : Int))) && ((gt path 1) != ((i27 : Nat) : Int)))))) ?_
          refine WR.nil ?_
          change WC _ _ _ _ _ _
          refine WC.cif h (by kernel_rfl) (fun hb55 h => ?_) (fun hb55 h => ?_)
          · skip
            refine WC.exit ?_
            intro w hw
            exact ⟨m23, Γ21, row24, h, (sl_ (by kernel_rfl)), hw, (Gh.refl _), ho25, trivial⟩
          · skip
            refine WC.skip ?_
            change WC _ _ _ _ _ _
            refine WC.region ?_
            refine va rfl rfl rfl (q_move (v := .map (some g5)) rfl (by kernel_rfl)) ?_
            refine va rfl rfl rfl (q_move (v := cgt cs_20 (0 + i14 * 16 + i27 * 1)) rfl (by kernel_rfl)) ?_
            obtain ⟨rA_56, r_56, rB_56, hrl_56, hO_56, hcl_56⟩ := hM_20.at_ (i := 0 + i14 * 16 + i27 * 1) (by rw [hl_20]; exact (leaf_lt hl19 hl32))
            have hrw_56 : rowt_ = ([[(gt_, .cells (cs_20 ++ [Value.map (some sm_20)]).toArray et_.1 (0, 0))], rA_56, r_56, rB_56, rS_20] : List Rowb).flatten := by rw [hrow_20, hrl_56]; simp only [List.flatten_cons, List.flatten_nil, List.append_nil, List.append_assoc]
            refine (Option.eq_none_or_eq_some (gt t_.leaves (0 + i14 * 16 + i27 * 1))).elim (fun ho57 => ?_) (fun ho57 => ?_)
            · skip
              have h := optm_n ho57 h
              obtain ⟨hc60, -⟩ : cgt cs_20 (0 + i14 * 16 + i27 * 1) = Value.map none ∧ r_56 = [] := (by have h9 := hO_56; rw [ho57] at h9; exact h9)
              obtain ⟨z62, hz63, h⟩ := bnd h
              refine e_call (is := [0]) rfl rfl (call_run Tryz.call32 rfl rfl (args2 rfl (Eq.trans (b := cgt cs_20 (0 + i14 * 16 + i27 * 1)) rfl hc60))) rfl (fun w hp => t_maps_Copy_map_string_api_Rec_map_string_api_Rec_string_api_Rec_nil_x ho25 hp hz63) ?_
              rintro Γ64 U66 v67 hl65 ⟨rfl, rfl, _⟩
              change WR _ _ _ (CC F Γ64 [row24, rowt_]) _ _ (upd _ 59 (.tuple #[]))
              refine WR.nil ?_
              intro w hw
              exact ⟨m23, Γ64, row24, h, (sl_ (by kernel_rfl)), hw, hl65, (ho25.mono hl65), trivial⟩
            · skip
              obtain ⟨es58, ho57⟩ := ho57
              have h := optm_s ho57 h
              intro w hw; have hw := hw.unfold (i := 1) rfl hrw_56
              refine WR.here (C := CC F Γ21 [[(gt_, .cells (cs_20 ++ [Value.map (some sm_20)]).toArray et_.1 (0, 0))], rA_56, r_56, rB_56, rS_20, row24]) ?_ hw
              clear hw
              obtain ⟨m59, hc60, hm61⟩ : ∃ m, cgt cs_20 (0 + i14 * 16 + i27 * 1) = Value.map (some m) ∧ MapO (strK Tryz.underlying9) recT.ag Bo r_56 m es58 := (by have h9 := hO_56; rw [ho57] at h9; exact h9)
              obtain ⟨z68, hz69, h⟩ := bnd h
              refine e_call (is := [5, 2]) rfl rfl (call_run Tryz.call32 rfl rfl (args2 rfl (Eq.trans (b := cgt cs_20 (0 + i14 * 16 + i27 * 1)) rfl hc60))) rfl (fun w hp => t_maps_Copy_map_string_api_Rec_map_string_api_Rec_string_api_Rec_x ho25 hm61.atV hp hz69) ?_
              rintro Γ70 U72 v73 hl71 ⟨row74, rfl, rfl, hr75, _⟩
              change WR _ _ _ (CC F Γ70 [row74, r_56, [(gt_, .cells (cs_20 ++ [Value.map (some sm_20)]).toArray et_.1 (0, 0))], rA_56, rB_56, rS_20]) _ _ (upd _ 59 (.tuple #[]))
              refine WR.nil ?_
              intro w hw
              have hw := hw.fold (is := [2, 2, 1, 1, 1]) rfl hrw_56
              exact ⟨z68, Γ70, row74, h, (sl_ (by kernel_rfl)), (hw.only (is := [1, 0]) rfl), hl71, hr75, trivial⟩
        · skip
          rintro σ w ⟨m35, Γ33, row36, h, hsl, hw, hl34, ho37, -⟩
          refine Wpt.slots hsl ?_
          refine WC.here (C := CC F Γ33 [row36, rowt_]) ?_ hw
          clear hw hsl
          refine WC.region ?_
          refine va rfl rfl rfl (q_add_r (r := ((i27 + 1 : Nat) : Int)) rfl rfl rfl (ctr_lit hl32 (by decide))) ?_
          refine va rfl rfl rfl (q_move (v := .int .i64 ((i27 + 1 : Nat) : Int)) rfl (by kernel_rfl)) ?_
          refine WR.nil ?_
          intro w hw
          exact ⟨hl32, m35, h, Γ33, row36, (sl_ (by kernel_rfl)), hw, (hl22.trans hl34), ho37, trivial⟩
      · skip
        have h := hge30 (ige hb31)
        refine WC.exit ?_
        change WC _ _ _ _ _ _
        refine WC.region ?_
        refine va rfl rfl rfl (q_add_r (r := ((i14 + 1 : Nat) : Int)) rfl rfl rfl (ctr_lit hl19 (by decide))) ?_
        refine va rfl rfl rfl (q_move (v := .int .i64 ((i14 + 1 : Nat) : Int)) rfl (by kernel_rfl)) ?_
        refine WR.nil ?_
        intro w hw
        exact ⟨hl19, m23, h, Γ21, row24, (sl_ (by kernel_rfl)), hw, (hl9.trans hl22), ho25, trivial⟩
    · skip
      have h := hge17 (ige hb18)
      refine WC.exit ?_
      change WC _ _ _ _ _ _
      refine WC.rs ?_
      refine va rfl rfl rfl (q_assign (v := .slice none 0 0) rfl (by kernel_rfl)) ?_
      refine WR.nil ?_
      change WC _ _ _ _ _ _
      refine WC.seq ?_
      refine WC.rs ?_
      refine va rfl rfl rfl (q_move (v := .map (some g5)) rfl (by kernel_rfl)) ?_
      refine e_keys (ρ := keys34_ren) keys34 (mb := some g5) rfl rfl (call_run Tryz.call34 rfl rfl (by kernel_rfl)) ?_
      intro g77
      change WR _ _ _ (CC F Γ8 [[(g77, .cells #[.map (some g5)] 62 (0, 0))], row11, rowt_]) _ _ (upd _ 63 (.func (.func 49) #[] #[.pointer (some ⟨g77, 0, none⟩)]))
      obtain ⟨hk78, h⟩ := chk_some h
      refine e_call (is := [0, 0]) rfl rfl (call_run Tryz.call33 rfl rfl (by kernel_rfl)) rfl (fun w hp => sk33_34 ho12 (of_decide_eq_true hk78) hp) ?_
      rintro Γ79 U81 v82 hl80 ⟨A83, c84, row85, rfl, rfl, ho86⟩
      change WR _ _ _ (CC F Γ79 [[(g77, .cells #[.map (some g5)] 62 (0, 0))], row11, row85, rowt_]) _ _ (upd _ 64 (.slice A83 (skeys m10).length c84))
      refine va rfl rfl rfl (q_len_slice rfl Tryz.underlying92 rfl) ?_
      refine va rfl rfl rfl (q_move (v := .int .i64 0) rfl (by kernel_rfl)) ?_
      refine WR.nil ?_
      change WC _ _ _ _ _ _
      refine WC.block ?_
      refine WC.forI h (fun (i95 : Nat) (out_89 : List Rec) σ w => ∃ (Γ87 : Gh), ∃ (A90 : Option Addr), ∃ (c91 : Nat), ∃ (row92 : Rowb), slots σ [(7, .map (some g5)), (11, .slice A90 out_89.length c91), (64, .slice A83 (skeys m10).length c84), (65, .int .i64 (((skeys m10).length : Nat) : Int)), (66, .int .i64 ((i95 : Nat) : Int))] ∧ CC F Γ87 [row92, row11, row85, rowt_] w ∧ Gh.le Γ79 Γ87 ∧ Own recT Γ87 41 row92 A90 c91 out_89 ∧ True) ?_ ?_
      · skip
        intro w hw
        have hw := hw.pad
        exact ⟨Γ79, none, 0, [], (sl_ (by kernel_rfl)), (hw.only (is := [0, 1, 1, 1]) rfl), (Gh.refl _), (Own.nil recT _ 41), trivial⟩
      rintro f94 i95 out_89 σ w hi96 hlt97 hge98 ⟨Γ87, A90, c91, row92, hsl, hw, hl88, ho93, -⟩
      refine Wpt.slots hsl ?_
      refine WC.here (C := CC F Γ87 [row92, row11, row85, rowt_]) ?_ hw
      clear hw hsl
      refine WC.rs ?_
      refine va rfl rfl rfl (q_lss rfl rfl rfl) ?_
      refine WR.nil ?_
      change WC _ _ _ _ _ _
      refine WC.seq ?_
      refine WC.cond (b := (decide (((i95 : Nat) : Int) < (((skeys m10).length : Nat) : Int)))) (by kernel_rfl) (fun hb99 => ?_) (fun hb99 => ?_)
      · skip
        have hl100 := ilt hb99
        have h := hlt97 hl100
        refine WC.skip ?_
        change WC _ _ _ _ _ _
        refine WC.seq ?_
        refine WC.block ?_
        refine WC.rs ?_
        refine va rfl rfl rfl (q_ixn (i := i95) Tryz.underlying92 Tryz.sizeOf9 rfl rfl rfl hl100 ((ho86.mono hl88).some_ hl100)) ?_
        refine va rfl rfl rfl (q_ldo (c := 0) (v := .string (gt (skeys m10) i95)) (i := 2) rfl ((ho86.mono hl88).strT_at hl100).2 rfl Tryz.isAgg9 rfl rfl) ?_
        refine va rfl rfl rfl (q_assign (v := .string (gt (skeys m10) i95)) rfl (by kernel_rfl)) ?_
        refine WR.nil ?_
        change WC _ _ _ _ _ _
        refine WC.region ?_
        refine va rfl rfl rfl (q_move (v := .slice A90 out_89.length c91) rfl (by kernel_rfl)) ?_
        refine va rfl rfl rfl (q_move (v := .map (some g5)) rfl (by kernel_rfl)) ?_
        refine va rfl rfl rfl (q_move (v := .string (gt (skeys m10) i95)) rfl (by kernel_rfl)) ?_
        obtain ⟨v101, hv102, hat103⟩ := MapO.look (ho12.mono (hl80.trans hl88)) (gt (skeys m10) i95) (z := .agg #[.string ByteArray.empty, .slice none 0 0]) (zx := (⟨ByteArray.empty, []⟩ : Rec)) ⟨_, rfl, none, 0, rfl, ⟨(show (ByteArray.empty : ByteArray).size ≤ lim by decide), ⟨Nat.zero_le _, Sl.nil _ _ _⟩⟩⟩
        obtain ⟨cs104, hv102, A105, c106, rfl, hf107⟩ := hv102
        obtain rfl : v101 = _ := hv102
        refine va rfl rfl rfl (q_lookup1 (v := .agg #[.string ((mget (gt (skeys m10) i95) m10).getD (⟨ByteArray.empty, []⟩ : Rec)).key, .slice A105 (((mget (gt (skeys m10) i95) m10).getD (⟨ByteArray.empty, []⟩ : Rec)).vers).length c106]) hat103 rfl Tryz.underlying62 Tryz.zeroValue41 rfl rfl (i := 1) rfl) ?_
        obtain ⟨z108, hz109, h⟩ := bnd h
        refine e_callW (is := []) rfl rfl (call_run Tryz.call35 rfl rfl (by kernel_rfl)) rfl (fun w hw hp => t_tree_own_x (B := Bo) ((mget (gt (skeys m10) i95) m10).getD (⟨ByteArray.empty, []⟩ : Rec)) hf107 hp (hO.pre (is := []) hw rfl) hz109) ?_
        rintro Γ110 U112 v113 hl111 ⟨A114, c115, rfl, rfl, hr116, _⟩
        change WR _ _ _ (CC F Γ110 [row92, row11, row85, rowt_]) _ _ (upd _ 74 (.agg #[.string z108.key, .slice A114 z108.vers.length c115]))
        refine e_buildSlice (cs := #[.string z108.key, .slice A114 z108.vers.length c115]) (e := 41) rfl rfl rfl rfl (fun w => by kernel_rfl) ?_
        intro g117
        obtain ⟨hk118, h⟩ := chk_some h
        refine e_append (T := recT) (xs := out_89) (ys := [z108]) elem_22 (i := 1) rfl rfl rfl rfl rfl rfl rfl (ho93.mono hl111) (of_decide_eq_true hk118) (fun w hw => src_one (T := recT) (y := z108) (i := 0) rfl (by exact ⟨A114, c115, rfl, hr116⟩) hw) ?_
        intro row119 A120 c121 ho122
        refine va rfl rfl rfl (q_assign (v := .slice A120 (out_89 ++ [z108]).length c121) rfl (by kernel_rfl)) ?_
        refine WR.nil ?_
        change WC _ _ _ _ _ _
        refine WC.region ?_
        refine va rfl rfl rfl (q_add_r (r := ((i95 + 1 : Nat) : Int)) rfl rfl rfl (ctr_len hl100 (ho86.mono hl88).le)) ?_
        refine va rfl rfl rfl (q_move (v := .int .i64 ((i95 + 1 : Nat) : Int)) rfl (by kernel_rfl)) ?_
        refine WR.nil ?_
        intro w hw
        exact ⟨hl100, (out_89 ++ [z108]), h, Γ110, A120, c121, row119, (sl_ (by kernel_rfl)), (hw.only (is := [1, 1, 1, 1]) rfl), (hl88.trans hl111), ho122, trivial⟩
      · skip
        have h := hge98 (ige hb99)
        refine WC.exit ?_
        change WC _ _ _ _ _ _
        refine WC.rs ?_
        refine va rfl rfl rfl (q_move (v := .slice A90 out_89.length c91) rfl (by kernel_rfl)) ?_
        refine va rfl rfl rfl (q_assign (v := .slice A90 out_89.length c91) rfl (by kernel_rfl)) ?_
        refine WR.nil ?_
        change WC _ _ _ _ _ _
        refine WC.ret ?_
        intro w hw
        obtain rfl := Option.some.inj h
        subst hF
        exact end_e (is := [3, 0]) (by kernel_rfl) hw rfl ⟨A90, c91, row92, rfl, rfl, ho93, trivial⟩
set_option maxRecDepth 100000 in
set_option maxHeartbeats 400000 in
theorem t_firthlaw11_TreeKeeps {Γ : Gh} {w0 : World} {Ar_1 : Option Addr} {cr_1 : Nat} (r_ : Rec) (hr_ : Rec.fits Γ Ar_1 cr_1 r_) (hs : Sat Γ w0) {r : Bool} (h : m_firthlaw11_TreeKeeps r_ = some r) : Calls Tryz.prog 4 #[.agg #[.string r_.key, .slice Ar_1 r_.vers.length cr_1]] w0 (fun e w' => e = .returned (.bool r) ∧ Fr no w0 w') := by
  refine calls_of (N := 134) (rs := [2]) (args := [.agg #[.string r_.key, .slice Ar_1 r_.vers.length cr_1]]) Tryz.func4 rfl Tryz.ntmps4 Tryz.results4 rfl ?_
  obtain ⟨F, hF⟩ : ∃ F : Fm, F = ⟨no, w0, Γ⟩ := ⟨_, rfl⟩
  refine WC.here (C := CC F Γ []) ?_ (hF ▸ Cur.start0 hs)
  refine WC.rs ?_
  refine e_box (v := .agg #[.string r_.key, .slice Ar_1 r_.vers.length cr_1]) rfl rfl rfl rfl (by kernel_rfl) ?_
  intro g1
  refine va rfl rfl rfl (q_assign (v := .bool false) rfl (by kernel_rfl)) ?_
  refine WR.nil ?_
  change WC _ _ _ _ _ _
  refine WC.seq ?_
  refine WC.rs ?_
  obtain ⟨z2, hz3, h⟩ := bnd h
  refine vc rfl rfl rfl (q_call (call_run Tryz.call5 rfl rfl (by kernel_rfl)) (fun w hw => t_firthlaw11_awake (Γ := Gh.all w)  (Sat.all w) hz3)) ?_
  refine va rfl rfl rfl (q_not rfl rfl) ?_
  refine va rfl rfl rfl (q_move (v := .bool (!z2)) rfl (by kernel_rfl)) ?_
  refine vg0 rfl rfl rfl rfl rfl (fun hg4 => QV.qo (q_ldla (i := 0) (vs := [.string r_.key, .slice Ar_1 r_.vers.length cr_1]) rfl rfl Tryz.isAgg41 Tryz.sizeOf41 rfl rfl)) ?_
  obtain ⟨z6, hz7, h⟩ := bnd h
  refine vg0 rfl rfl rfl rfl rfl (fun hg5 => (q_call (call_run Tryz.call15 rfl rfl (args1 (gu hg5 rfl))) (fun w hw => t_firthref06_RightRec (Γ := Gh.all w) r_ (Rec.fits_mono hr_ hw.sat.le_all) (Sat.all w) (gc_of hz7 hg5)))) ?_
  refine vg0 rfl rfl rfl rfl rfl (fun hg8 => QV.qo (q_not rfl (gu hg8 rfl))) ?_
  refine va rfl rfl rfl (q_pick rfl rfl (pk_or' (g := (!z2)) (y := (!z6)))) ?_
  refine WR.nil ?_
  change WC _ _ _ _ _ _
  refine WC.cif h (by kernel_rfl) (fun hb9 h => ?_) (fun hb9 h => ?_)
  · skip
    refine WC.rs ?_
    obtain ⟨z10, hz11, h⟩ := bnd h
    refine vc rfl rfl rfl (q_call (call_run Tryz.call5 rfl rfl (by kernel_rfl)) (fun w hw => t_firthlaw11_awake (Γ := Gh.all w)  (Sat.all w) hz11)) ?_
    refine va rfl rfl rfl (q_assign (v := .bool z10) rfl (by kernel_rfl)) ?_
    refine WR.nil ?_
    change WC _ _ _ _ _ _
    refine WC.ret ?_
    intro w hw
    obtain rfl := Option.some.inj h
    subst hF
    exact ⟨by kernel_rfl, hw.fr⟩
  · skip
    refine WC.skip ?_
    change WC _ _ _ _ _ _
    refine WC.rs ?_
    refine va rfl rfl rfl (q_ldla (i := 0) (vs := [.string r_.key, .slice Ar_1 r_.vers.length cr_1]) rfl rfl Tryz.isAgg41 Tryz.sizeOf41 rfl rfl) ?_
    obtain ⟨z12, hz13, h⟩ := bnd h
    refine e_callF (is := []) (Lent.nil F) rfl rfl (call_run Tryz.call16 rfl rfl (by kernel_rfl)) rfl (fun w Θ hp hpB hle hleB hR => t_firthref10_Own_l0 r_ (Rec.fits_mono hr_ hle) hp hpB hz13) ?_
    rintro J14 U16 v17 hn15 ⟨A18, c19, rfl, rfl, hr20, _⟩
    change WR _ _ _ (CC F Γ [J14, [(g1, .cells #[.string r_.key, .slice Ar_1 r_.vers.length cr_1] 41 (0, 0))]]) _ _ (upd _ 22 (.agg #[.string z12.key, .slice A18 z12.vers.length c19]))
    refine e_alloc Tryz.zeroValue41 rfl rfl rfl rfl ?_
    intro g21
    refine e_st (i := 0) (v := .agg #[.string z12.key, .slice A18 z12.vers.length c19]) (new := #[.string z12.key, .slice A18 z12.vers.length c19]) rfl Tryz.sizeOf41 rfl rfl rfl rfl (by kernel_rfl) rfl rfl rfl rfl ?_
    refine WR.nil ?_
    change WC _ _ _ _ _ _
    refine WC.rs ?_
    refine va rfl rfl rfl (q_ldla (i := 0) (vs := [.string z12.key, .slice A18 z12.vers.length c19]) rfl rfl Tryz.isAgg41 Tryz.sizeOf41 rfl rfl) ?_
    refine e_buildSlice (cs := #[.string z12.key, .slice A18 z12.vers.length c19]) (e := 41) rfl rfl rfl rfl (fun w => by kernel_rfl) ?_
    intro g22
    have ho23 : Own recT (ghr J14) 41 [(g22, .cells #[.string z12.key, .slice A18 z12.vers.length c19] 41 (0, 0))] (some ⟨g22, 0, none⟩) 1 [z12] := Own.of_blockL (T := recT) (ys := [z12]) [[.string z12.key, .slice A18 z12.vers.length c19]] rfl (show 1 ≤ lim by decide) (show Ty.rd recT (ghr J14) [.string z12.key, .slice A18 z12.vers.length c19] z12 ∧ True from ⟨⟨A18, c19, rfl, hr20⟩, trivial⟩)
    obtain ⟨z24, hz25, h⟩ := bnd h
    refine e_callB (is := []) (Lent.nil F) rfl rfl (call_run Tryz.call17 rfl rfl (by kernel_rfl)) rfl (fun w Θ hp hpB hle hleB hR => t_tree_New_l1 (own_lent ho23 hR (List.mem_of_getElem? (i := 0) rfl) (ghr_le hR hn15 (List.mem_of_getElem? (i := 2) rfl))) ho23.capz hp hpB hz25) ?_
    rintro Γ26 U28 v29 hl27 ⟨g30, row31, rfl, rfl, hr32, hr33, _⟩
    change WR _ _ _ (CC F Γ26 [row31, [(g22, .cells #[.string z12.key, .slice A18 z12.vers.length c19] 41 (0, 0))], [(g21, .cells #[.string z12.key, .slice A18 z12.vers.length c19] 41 (0, 0))], J14, [(g1, .cells #[.string r_.key, .slice Ar_1 r_.vers.length cr_1] 41 (0, 0))]]) _ _ (upd _ 26 (.tuple #[optp z24.1 g30, .int .i64 z24.2]))
    refine va rfl rfl rfl (q_move (v := .tuple #[optp z24.1 g30, .int .i64 z24.2]) rfl (by kernel_rfl)) ?_
    refine va rfl rfl rfl (q_extract (v := optp z24.1 g30) rfl rfl rfl) ?_
    refine va rfl rfl rfl (q_extract (v := .int .i64 z24.2) rfl rfl rfl) ?_
    refine va rfl rfl rfl (q_assign (v := optp z24.1 g30) rfl (by kernel_rfl)) ?_
    refine va rfl rfl rfl (q_assign (v := .int .i64 z24.2) rfl (by kernel_rfl)) ?_
    refine WR.nil ?_
    change WC _ _ _ _ _ _
    refine WC.seq ?_
    refine WC.rs ?_
    refine va rfl rfl rfl (q_move (v := optp z24.1 g30) rfl (by kernel_rfl)) ?_
    refine va rfl rfl rfl (q_opt_eql Tryz.underlying25 rfl rfl rfl) ?_
    refine va rfl rfl rfl (q_move (v := .bool (Option.isNone z24.1)) rfl (by kernel_rfl)) ?_
    refine vg0 rfl rfl rfl rfl rfl (fun hg34 => QV.qo (q_move (v := .int .i64 z24.2) rfl (by kernel_rfl))) ?_
    refine vg0 rfl rfl rfl rfl rfl (fun hg35 => QV.qo (q_neq rfl (gu hg35 rfl) rfl)) ?_
    refine va rfl rfl rfl (q_pick rfl rfl (pk_or' (g := (Option.isNone z24.1)) (y := (z24.2 != 0)))) ?_
    refine WR.nil ?_
    change WC _ _ _ _ _ _
    refine WC.cif h (by kernel_rfl) (fun hb36 h => ?_) (fun hb36 h => ?_)
    · skip
      refine WC.rs ?_
      refine va rfl rfl rfl (q_assign (v := .bool false) rfl (by kernel_rfl)) ?_
      refine WR.nil ?_
      change WC _ _ _ _ _ _
      refine WC.ret ?_
      intro w hw
      obtain rfl := Option.some.inj h
      subst hF
      exact ⟨by kernel_rfl, hw.fr⟩
    · skip
      obtain ⟨z37, hz38, h⟩ := bnd h
      have ho39 := optob_some hr32 hz38
      refine WC.skip ?_
      change WC _ _ _ _ _ _
      refine WC.seq ?_
      refine WC.rs ?_
      refine va rfl rfl rfl (q_assign (v := .int .i64 0) rfl (by kernel_rfl)) ?_
      refine WR.nil ?_
      change WC _ _ _ _ _ _
      refine WC.block ?_
      have hj40 := hr20.2.2
      refine WC.loopJ (z12.vers.length) (fun (i41 : Nat) σ w => ∃ (J42 : Rowb) (ys44 : List Ver), (J42.map (·.1)).Nodup ∧ Sl verT (ghr J42) A18 ys44 ∧ shL Ver.sh ys44 = shL Ver.sh z12.vers ∧ slots σ [(1, .pointer (some ⟨g1, 0, none⟩)), (3, .pointer (some ⟨g21, 0, none⟩)), (4, optp z24.1 g30), (6, .int .i64 ((i41 : Nat) : Int))] ∧ CC F Γ26 [row31, [(g22, .cells #[.string z12.key, .slice A18 z12.vers.length c19] 41 (0, 0))], [(g21, .cells #[.string z12.key, .slice A18 z12.vers.length c19] 41 (0, 0))], J42, [(g1, .cells #[.string r_.key, .slice Ar_1 r_.vers.length cr_1] 41 (0, 0))]] w) ?_ ?_
      · skip
        intro w hw; exact ⟨J14, z12.vers, hn15, hj40, rfl, (sl_ (by kernel_rfl)), hw⟩
      rintro i41 σ w ⟨J42, ys44, hn43, hj45, hs46, hsl, hw⟩
      have hq47 := shL_eq_len hs46
      refine Wpt.slots hsl ?_
      refine WC.here (C := CC F Γ26 [row31, [(g22, .cells #[.string z12.key, .slice A18 z12.vers.length c19] 41 (0, 0))], [(g21, .cells #[.string z12.key, .slice A18 z12.vers.length c19] 41 (0, 0))], J42, [(g1, .cells #[.string r_.key, .slice Ar_1 r_.vers.length cr_1] 41 (0, 0))]]) ?_ hw
      clear hw hsl
      refine WC.seq ?_
      refine WC.rs ?_
      refine va rfl rfl rfl (q_move (v := .int .i64 ((i41 : Nat) : Int)) rfl (by kernel_rfl)) ?_
      refine va rfl rfl rfl (q_fl 1 fld_41_1 rfl rfl rfl) ?_
      refine va rfl rfl rfl (q_ldl (i := 2) (v := .slice A18 z12.vers.length c19) rfl rfl Tryz.isAgg39 rfl rfl) ?_
      refine va rfl rfl rfl (q_len_slice rfl Tryz.underlying39 rfl) ?_
      refine va rfl rfl rfl (q_lss rfl rfl rfl) ?_
      refine WR.nil ?_
      change WC _ _ _ _ _ _
      refine WC.cond (b := (decide (((i41 : Nat) : Int) < ((z12.vers.length : Nat) : Int)))) (by kernel_rfl) (fun hb48 => ?_) (fun hb48 => ?_)
      · skip
        have hl49 := ilt hb48
        have hq50 := jlt hs46 (ltq hl49 hq47.symm)
        refine WC.skip ?_
        change WC _ _ _ _ _ _
        refine WC.seq ?_
        refine WC.block ?_
        refine WC.rs ?_
        refine va rfl rfl rfl (q_fl 1 fld_41_1 rfl rfl rfl) ?_
        refine va rfl rfl rfl (q_ldl (i := 2) (v := .slice A18 z12.vers.length c19) rfl rfl Tryz.isAgg39 rfl rfl) ?_
        refine va rfl rfl rfl (q_move (v := .int .i64 ((i41 : Nat) : Int)) rfl (by kernel_rfl)) ?_
        refine va rfl rfl rfl (q_ixn (i := i41) Tryz.underlying39 Tryz.sizeOf51 rfl rfl rfl hl49 (hj45.some_ (ltq hl49 hq47.symm))) ?_
        refine va rfl rfl rfl (q_field_addr (i41 * 5) fld_51_0 rfl rfl (hj45.some_ (ltq hl49 hq47.symm)) rfl) ?_
        refine va rfl rfl rfl (q_field_addr (i41 * 5 + 1) fld_48_1 rfl rfl (hj45.some_ (ltq hl49 hq47.symm)) rfl) ?_
        obtain ⟨A51, c52, hx53⟩ := hj45.verT_at i41
        refine e_store_J (c := 1) (u := .int .i64 (gt ys44 i41).dot.n) (v := .int .i64 99) rfl rfl rfl rfl (by kernel_rfl) Tryz.sizeOf2 rfl rfl (hx53 (ltq hl49 hq47.symm)).2 rfl (.int _ _ (show I64 99 by decide)) (i := 3) rfl hn43 ?_
        intro J54 hn55 hl56
        obtain ⟨ys57, hj58, hs59⟩ := hj45.like like_Ver hl56
        have hs59 := hs59.trans hs46
        have hq60 := shL_eq_len hs59
        refine WR.nil ?_
        change WC _ _ _ _ _ _
        refine WC.rs ?_
        refine va rfl rfl rfl (q_assign (v := .int .i64 0) rfl (by kernel_rfl)) ?_
        refine WR.nil ?_
        change WC _ _ _ _ _ _
        refine WC.block ?_
        refine WC.loopJ (((gt ys57 i41).past).length) (fun (i61 : Nat) σ w => ∃ (J62 : Rowb) (ys64 : List Ver), (J62.map (·.1)).Nodup ∧ Sl verT (ghr J62) A18 ys64 ∧ shL Ver.sh ys64 = shL Ver.sh z12.vers ∧ slots σ [(1, .pointer (some ⟨g1, 0, none⟩)), (3, .pointer (some ⟨g21, 0, none⟩)), (4, optp z24.1 g30), (6, .int .i64 ((i41 : Nat) : Int)), (7, .int .i64 ((i61 : Nat) : Int))] ∧ CC F Γ26 [row31, [(g22, .cells #[.string z12.key, .slice A18 z12.vers.length c19] 41 (0, 0))], [(g21, .cells #[.string z12.key, .slice A18 z12.vers.length c19] 41 (0, 0))], J62, [(g1, .cells #[.string r_.key, .slice Ar_1 r_.vers.length cr_1] 41 (0, 0))]] w) ?_ ?_
        · skip
          intro w hw; exact ⟨J54, ys57, hn55, hj58, hs59, (sl_ (by kernel_rfl)), hw⟩
        rintro i61 σ w ⟨J62, ys64, hn63, hj65, hs66, hsl, hw⟩
        have hq67 := shL_eq_len hs66
        refine Wpt.slots hsl ?_
        refine WC.here (C := CC F Γ26 [row31, [(g22, .cells #[.string z12.key, .slice A18 z12.vers.length c19] 41 (0, 0))], [(g21, .cells #[.string z12.key, .slice A18 z12.vers.length c19] 41 (0, 0))], J62, [(g1, .cells #[.string r_.key, .slice Ar_1 r_.vers.length cr_1] 41 (0, 0))]]) ?_ hw
        clear hw hsl
        refine WC.seq ?_
        refine WC.rs ?_
        refine va rfl rfl rfl (q_move (v := .int .i64 ((i61 : Nat) : Int)) rfl (by kernel_rfl)) ?_
        refine va rfl rfl rfl (q_fl 1 fld_41_1 rfl rfl rfl) ?_
        refine va rfl rfl rfl (q_ldl (i := 2) (v := .slice A18 z12.vers.length c19) rfl rfl Tryz.isAgg39 rfl rfl) ?_
        refine va rfl rfl rfl (q_move (v := .int .i64 ((i41 : Nat) : Int)) rfl (by kernel_rfl)) ?_
        refine va rfl rfl rfl (q_ixn (i := i41) Tryz.underlying39 Tryz.sizeOf51 rfl rfl rfl hl49 (hj65.some_ (ltq hl49 hq67.symm))) ?_
        refine va rfl rfl rfl (q_field_addr (i41 * 5 + 2) fld_51_1 rfl rfl (hj65.some_ (ltq hl49 hq67.symm)) rfl) ?_
        obtain ⟨A68, c69, hx70⟩ := hj65.verT_at i41
        refine va rfl rfl rfl (q_ldS (c := 2) (v := .slice A68 ((gt ys64 i41).past).length c69) (satJ (i := 3) rfl hn63) (hx70 (ltq hl49 hq67.symm)).2 rfl Tryz.isAgg49 rfl rfl) ?_
        refine va rfl rfl rfl (q_len_slice rfl Tryz.underlying49 rfl) ?_
        refine va rfl rfl rfl (q_lss rfl rfl rfl) ?_
        refine WR.nil ?_
        change WC _ _ _ _ _ _
        refine WC.cond (b := (decide (((i61 : Nat) : Int) < ((((gt ys64 i41).past).length : Nat) : Int)))) (by kernel_rfl) (fun hb71 => ?_) (fun hb71 => ?_)
        · skip
          have hl72 := ilt hb71
          have hq73 := jlt (shL_kid hs66 hq50) hl72
          refine WC.skip ?_
          change WC _ _ _ _ _ _
          refine WC.seq ?_
          refine WC.block ?_
          refine WC.region ?_
          refine va rfl rfl rfl (q_fl 1 fld_41_1 rfl rfl rfl) ?_
          refine va rfl rfl rfl (q_ldl (i := 2) (v := .slice A18 z12.vers.length c19) rfl rfl Tryz.isAgg39 rfl rfl) ?_
          refine va rfl rfl rfl (q_move (v := .int .i64 ((i41 : Nat) : Int)) rfl (by kernel_rfl)) ?_
          refine va rfl rfl rfl (q_ixn (i := i41) Tryz.underlying39 Tryz.sizeOf51 rfl rfl rfl hl49 (hj65.some_ (ltq hl49 hq67.symm))) ?_
          refine va rfl rfl rfl (q_field_addr (i41 * 5 + 2) fld_51_1 rfl rfl (hj65.some_ (ltq hl49 hq67.symm)) rfl) ?_
          refine va rfl rfl rfl (q_ldS (c := 2) (v := .slice A68 ((gt ys64 i41).past).length c69) (satJ (i := 3) rfl hn63) (hx70 (ltq hl49 hq67.symm)).2 rfl Tryz.isAgg49 rfl rfl) ?_
          refine va rfl rfl rfl (q_move (v := .int .i64 ((i61 : Nat) : Int)) rfl (by kernel_rfl)) ?_
          refine va rfl rfl rfl (q_ixn (i := i61) Tryz.underlying49 Tryz.sizeOf53 rfl rfl rfl hl72 ((hx70 (ltq hl49 hq67.symm)).1.2.2.1.2.some_ hl72)) ?_
          refine va rfl rfl rfl (q_field_addr (i61 * 3 + 2) fld_53_2 rfl rfl ((hx70 (ltq hl49 hq67.symm)).1.2.2.1.2.some_ hl72) rfl) ?_
          refine e_store_J (c := 2) (u := .int .i64 (gt ((gt ys64 i41).past) i61).t) (v := .int .i64 (-3)) rfl rfl rfl rfl (by kernel_rfl) Tryz.sizeOf2 rfl rfl ((hx70 (ltq hl49 hq67.symm)).1.2.2.1.2.spanT_at hl72).2 rfl (.int _ _ (show I64 (-3) by decide)) (i := 3) rfl hn63 ?_
          intro J74 hn75 hl76
          obtain ⟨ys77, hj78, hs79⟩ := hj65.like like_Ver hl76
          have hs79 := hs79.trans hs66
          have hq80 := shL_eq_len hs79
          have hlt81 := jtl (shL_kid hs79 hq50) hq73
          refine WR.nil ?_
          change WC _ _ _ _ _ _
          refine WC.region ?_
          refine va rfl rfl rfl (q_move (v := .int .i64 ((i61 : Nat) : Int)) rfl (by kernel_rfl)) ?_
          refine va rfl rfl rfl (q_add_r (r := ((i61 + 1 : Nat) : Int)) rfl rfl rfl (ctr_len hl72 (hx70 (ltq hl49 hq67.symm)).1.2.2.1.2.le)) ?_
          refine va rfl rfl rfl (q_assign (v := .int .i64 ((i61 + 1 : Nat) : Int)) rfl (by kernel_rfl)) ?_
          refine WR.nil ?_
          intro w hw; exact ⟨(jtl (shL_kid hs59 hq50) hq73), J74, ys77, hn75, hj78, hs79, (sl_ (by kernel_rfl)), hw⟩
        · skip
          refine WC.exit ?_
          change WC _ _ _ _ _ _
          refine WC.region ?_
          refine va rfl rfl rfl (q_move (v := .int .i64 ((i41 : Nat) : Int)) rfl (by kernel_rfl)) ?_
          refine va rfl rfl rfl (q_add_r (r := ((i41 + 1 : Nat) : Int)) rfl rfl rfl (ctr_len hl49 (hq47 ▸ hj45.le))) ?_
          refine va rfl rfl rfl (q_assign (v := .int .i64 ((i41 + 1 : Nat) : Int)) rfl (by kernel_rfl)) ?_
          refine WR.nil ?_
          intro w hw; exact ⟨hl49, J62, ys64, hn63, hj65, hs66, (sl_ (by kernel_rfl)), hw⟩
      · skip
        refine WC.exit ?_
        change WC _ _ _ _ _ _
        refine WC.rs ?_
        refine va rfl rfl rfl (q_move (v := .pointer (some ⟨g30, 0, none⟩)) rfl (optp_some rfl hz38)) ?_
        obtain ⟨z82, hz83, h⟩ := bnd h
        refine e_callF (is := [0]) (Lent.nil F) rfl rfl (call_run Tryz.call13 rfl rfl (by kernel_rfl)) rfl (fun w Θ hp hpB hle hleB hR => t_tree_Tree_Recs_x (ho39.mono hle) (Sl.nil intT _ none) (Nat.zero_le 0) hp hpB hz83) ?_
        rintro J84 U86 v87 hn85 ⟨A88, c89, row90, rfl, rfl, hr91, _⟩
        refine WR.sub (fun w hw => hw.only (is := [0, 1, 0, 0, 0, 0, 0]) rfl) ?_
        change WR _ _ _ (CC F Γ26 [J84, row90, row31, [(g22, .cells #[.string z12.key, .slice A18 z12.vers.length c19] 41 (0, 0))], [(g21, .cells #[.string z12.key, .slice A18 z12.vers.length c19] 41 (0, 0))], J42, [(g1, .cells #[.string r_.key, .slice Ar_1 r_.vers.length cr_1] 41 (0, 0))]]) _ _ _
        refine WR.join2 fun hn92 => ?_
        have hr93 := hr91.sl (ghr_left hn92) (ghr_right hn92)
        have hc94 := hr91.capz
        change WR _ _ _ (CC F Γ26 [(J84 ++ row90), row31, [(g22, .cells #[.string z12.key, .slice A18 z12.vers.length c19] 41 (0, 0))], [(g21, .cells #[.string z12.key, .slice A18 z12.vers.length c19] 41 (0, 0))], J42, [(g1, .cells #[.string r_.key, .slice Ar_1 r_.vers.length cr_1] 41 (0, 0))]]) _ _ (upd _ 69 (.slice A88 z82.length c89))
        refine va rfl rfl rfl (q_assign (v := .slice A88 z82.length c89) rfl (by kernel_rfl)) ?_
        refine WR.nil ?_
        change WC _ _ _ _ _ _
        refine WC.seq ?_
        refine WC.rs ?_
        refine va rfl rfl rfl (q_assign (v := .int .i64 0) rfl (by kernel_rfl)) ?_
        refine WR.nil ?_
        change WC _ _ _ _ _ _
        refine WC.block ?_
        refine WC.loopJ (z82.length) (fun (i95 : Nat) σ w => ∃ (J96 : Rowb) (ys98 : List Rec), (J96.map (·.1)).Nodup ∧ Sl recT (ghr J96) A88 ys98 ∧ shL Rec.sh ys98 = shL Rec.sh z82 ∧ slots σ [(1, .pointer (some ⟨g1, 0, none⟩)), (4, optp z24.1 g30), (8, .slice A88 z82.length c89), (9, .int .i64 ((i95 : Nat) : Int))] ∧ CC F Γ26 [J96, row31, [(g22, .cells #[.string z12.key, .slice A18 z12.vers.length c19] 41 (0, 0))], [(g21, .cells #[.string z12.key, .slice A18 z12.vers.length c19] 41 (0, 0))], J42, [(g1, .cells #[.string r_.key, .slice Ar_1 r_.vers.length cr_1] 41 (0, 0))]] w) ?_ ?_
        · skip
          intro w hw; exact ⟨(J84 ++ row90), z82, hn92, hr93, rfl, (sl_ (by kernel_rfl)), hw⟩
        rintro i95 σ w ⟨J96, ys98, hn97, hj99, hs100, hsl, hw⟩
        have hq101 := shL_eq_len hs100
        refine Wpt.slots hsl ?_
        refine WC.here (C := CC F Γ26 [J96, row31, [(g22, .cells #[.string z12.key, .slice A18 z12.vers.length c19] 41 (0, 0))], [(g21, .cells #[.string z12.key, .slice A18 z12.vers.length c19] 41 (0, 0))], J42, [(g1, .cells #[.string r_.key, .slice Ar_1 r_.vers.length cr_1] 41 (0, 0))]]) ?_ hw
        clear hw hsl
        refine WC.seq ?_
        refine WC.rs ?_
        refine va rfl rfl rfl (q_move (v := .int .i64 ((i95 : Nat) : Int)) rfl (by kernel_rfl)) ?_
        refine va rfl rfl rfl (q_move (v := .slice A88 z82.length c89) rfl (by kernel_rfl)) ?_
        refine va rfl rfl rfl (q_len_slice rfl Tryz.underlying22 rfl) ?_
        refine va rfl rfl rfl (q_lss rfl rfl rfl) ?_
        refine WR.nil ?_
        change WC _ _ _ _ _ _
        refine WC.cond (b := (decide (((i95 : Nat) : Int) < ((z82.length : Nat) : Int)))) (by kernel_rfl) (fun hb102 => ?_) (fun hb102 => ?_)
        · skip
          have hl103 := ilt hb102
          have hq104 := jlt hs100 (ltq hl103 hq101.symm)
          refine WC.skip ?_
          change WC _ _ _ _ _ _
          refine WC.seq ?_
          refine WC.block ?_
          refine WC.rs ?_
          refine va rfl rfl rfl (q_assign (v := .int .i64 0) rfl (by kernel_rfl)) ?_
          refine WR.nil ?_
          change WC _ _ _ _ _ _
          refine WC.block ?_
          refine WC.loopJ (((gt ys98 i95).vers).length) (fun (i105 : Nat) σ w => ∃ (J106 : Rowb) (ys108 : List Rec), (J106.map (·.1)).Nodup ∧ Sl recT (ghr J106) A88 ys108 ∧ shL Rec.sh ys108 = shL Rec.sh z82 ∧ slots σ [(1, .pointer (some ⟨g1, 0, none⟩)), (4, optp z24.1 g30), (8, .slice A88 z82.length c89), (9, .int .i64 ((i95 : Nat) : Int)), (10, .int .i64 ((i105 : Nat) : Int))] ∧ CC F Γ26 [J106, row31, [(g22, .cells #[.string z12.key, .slice A18 z12.vers.length c19] 41 (0, 0))], [(g21, .cells #[.string z12.key, .slice A18 z12.vers.length c19] 41 (0, 0))], J42, [(g1, .cells #[.string r_.key, .slice Ar_1 r_.vers.length cr_1] 41 (0, 0))]] w) ?_ ?_
          · skip
            intro w hw; exact ⟨J96, ys98, hn97, hj99, hs100, (sl_ (by kernel_rfl)), hw⟩
          rintro i105 σ w ⟨J106, ys108, hn107, hj109, hs110, hsl, hw⟩
          have hq111 := shL_eq_len hs110
          refine Wpt.slots hsl ?_
          refine WC.here (C := CC F Γ26 [J106, row31, [(g22, .cells #[.string z12.key, .slice A18 z12.vers.length c19] 41 (0, 0))], [(g21, .cells #[.string z12.key, .slice A18 z12.vers.length c19] 41 (0, 0))], J42, [(g1, .cells #[.string r_.key, .slice Ar_1 r_.vers.length cr_1] 41 (0, 0))]]) ?_ hw
          clear hw hsl
          refine WC.seq ?_
          refine WC.rs ?_
          refine va rfl rfl rfl (q_move (v := .int .i64 ((i105 : Nat) : Int)) rfl (by kernel_rfl)) ?_
          refine va rfl rfl rfl (q_move (v := .slice A88 z82.length c89) rfl (by kernel_rfl)) ?_
          refine va rfl rfl rfl (q_move (v := .int .i64 ((i95 : Nat) : Int)) rfl (by kernel_rfl)) ?_
          refine va rfl rfl rfl (q_ixn (i := i95) Tryz.underlying22 Tryz.sizeOf41 rfl rfl rfl hl103 (hj109.some_ (ltq hl103 hq111.symm))) ?_
          refine va rfl rfl rfl (q_field_addr (i95 * 2 + 1) fld_41_1 rfl rfl (hj109.some_ (ltq hl103 hq111.symm)) rfl) ?_
          obtain ⟨A112, c113, hx114⟩ := hj109.recT_at i95
          refine va rfl rfl rfl (q_ldS (c := 1) (v := .slice A112 ((gt ys108 i95).vers).length c113) (satJ (i := 0) rfl hn107) (hx114 (ltq hl103 hq111.symm)).2 rfl Tryz.isAgg39 rfl rfl) ?_
          refine va rfl rfl rfl (q_len_slice rfl Tryz.underlying39 rfl) ?_
          refine va rfl rfl rfl (q_lss rfl rfl rfl) ?_
          refine WR.nil ?_
          change WC _ _ _ _ _ _
          refine WC.cond (b := (decide (((i105 : Nat) : Int) < ((((gt ys108 i95).vers).length : Nat) : Int)))) (by kernel_rfl) (fun hb115 => ?_) (fun hb115 => ?_)
          · skip
            have hl116 := ilt hb115
            have hq117 := jlt (shL_kid hs110 hq104) hl116
            refine WC.skip ?_
            change WC _ _ _ _ _ _
            refine WC.seq ?_
            refine WC.block ?_
            refine WC.rs ?_
            refine va rfl rfl rfl (q_move (v := .slice A88 z82.length c89) rfl (by kernel_rfl)) ?_
            refine va rfl rfl rfl (q_move (v := .int .i64 ((i95 : Nat) : Int)) rfl (by kernel_rfl)) ?_
            refine va rfl rfl rfl (q_ixn (i := i95) Tryz.underlying22 Tryz.sizeOf41 rfl rfl rfl hl103 (hj109.some_ (ltq hl103 hq111.symm))) ?_
            refine va rfl rfl rfl (q_field_addr (i95 * 2 + 1) fld_41_1 rfl rfl (hj109.some_ (ltq hl103 hq111.symm)) rfl) ?_
            refine va rfl rfl rfl (q_ldS (c := 1) (v := .slice A112 ((gt ys108 i95).vers).length c113) (satJ (i := 0) rfl hn107) (hx114 (ltq hl103 hq111.symm)).2 rfl Tryz.isAgg39 rfl rfl) ?_
            refine va rfl rfl rfl (q_move (v := .int .i64 ((i105 : Nat) : Int)) rfl (by kernel_rfl)) ?_
            refine va rfl rfl rfl (q_ixn (i := i105) Tryz.underlying39 Tryz.sizeOf51 rfl rfl rfl hl116 ((hx114 (ltq hl103 hq111.symm)).1.2.2.some_ hl116)) ?_
            refine va rfl rfl rfl (q_field_addr (i105 * 5 + 4) fld_51_3 rfl rfl ((hx114 (ltq hl103 hq111.symm)).1.2.2.some_ hl116) rfl) ?_
            obtain ⟨A118, c119, hx120⟩ := (hx114 (ltq hl103 hq111.symm)).1.2.2.verT_at i105
            refine e_store_J (c := 4) (u := .string (gt ((gt ys108 i95).vers) i105).val) (v := .string (⟨#[115, 112, 111, 105, 108, 116]⟩ : ByteArray)) rfl rfl rfl rfl (by kernel_rfl) Tryz.sizeOf9 rfl rfl (hx120 hl116).2 rfl (.str _ _ (show (⟨#[115, 112, 111, 105, 108, 116]⟩ : ByteArray).size ≤ lim by decide)) (i := 0) rfl hn107 ?_
            intro J121 hn122 hl123
            obtain ⟨ys124, hj125, hs126⟩ := hj109.like like_Rec hl123
            have hs126 := hs126.trans hs110
            have hq127 := shL_eq_len hs126
            have hlt128 := jtl (shL_kid hs126 hq104) hq117
            refine WR.nil ?_
            change WC _ _ _ _ _ _
            refine WC.rs ?_
            refine va rfl rfl rfl (q_assign (v := .int .i64 0) rfl (by kernel_rfl)) ?_
            refine WR.nil ?_
            change WC _ _ _ _ _ _
            refine WC.block ?_
            refine WC.loopJ (((gt ((gt ys124 i95).vers) i105).past).length) (fun (i129 : Nat) σ w => ∃ (J130 : Rowb) (ys132 : List Rec), (J130.map (·.1)).Nodup ∧ Sl recT (ghr J130) A88 ys132 ∧ shL Rec.sh ys132 = shL Rec.sh z82 ∧ slots σ [(1, .pointer (some ⟨g1, 0, none⟩)), (4, optp z24.1 g30), (8, .slice A88 z82.length c89), (9, .int .i64 ((i95 : Nat) : Int)), (10, .int .i64 ((i105 : Nat) : Int)), (11, .int .i64 ((i129 : Nat) : Int))] ∧ CC F Γ26 [J130, row31, [(g22, .cells #[.string z12.key, .slice A18 z12.vers.length c19] 41 (0, 0))], [(g21, .cells #[.string z12.key, .slice A18 z12.vers.length c19] 41 (0, 0))], J42, [(g1, .cells #[.string r_.key, .slice Ar_1 r_.vers.length cr_1] 41 (0, 0))]] w) ?_ ?_
            · skip
              intro w hw; exact ⟨J121, ys124, hn122, hj125, hs126, (sl_ (by kernel_rfl)), hw⟩
            rintro i129 σ w ⟨J130, ys132, hn131, hj133, hs134, hsl, hw⟩
            have hq135 := shL_eq_len hs134
            refine Wpt.slots hsl ?_
            refine WC.here (C := CC F Γ26 [J130, row31, [(g22, .cells #[.string z12.key, .slice A18 z12.vers.length c19] 41 (0, 0))], [(g21, .cells #[.string z12.key, .slice A18 z12.vers.length c19] 41 (0, 0))], J42, [(g1, .cells #[.string r_.key, .slice Ar_1 r_.vers.length cr_1] 41 (0, 0))]]) ?_ hw
            clear hw hsl
            have hlt136 := jtl (shL_kid hs134 hq104) hq117
            refine WC.seq ?_
            refine WC.rs ?_
            refine va rfl rfl rfl (q_move (v := .int .i64 ((i129 : Nat) : Int)) rfl (by kernel_rfl)) ?_
            refine va rfl rfl rfl (q_move (v := .slice A88 z82.length c89) rfl (by kernel_rfl)) ?_
            refine va rfl rfl rfl (q_move (v := .int .i64 ((i95 : Nat) : Int)) rfl (by kernel_rfl)) ?_
            refine va rfl rfl rfl (q_ixn (i := i95) Tryz.underlying22 Tryz.sizeOf41 rfl rfl rfl hl103 (hj133.some_ (ltq hl103 hq135.symm))) ?_
            refine va rfl rfl rfl (q_field_addr (i95 * 2 + 1) fld_41_1 rfl rfl (hj133.some_ (ltq hl103 hq135.symm)) rfl) ?_
            obtain ⟨A137, c138, hx139⟩ := hj133.recT_at i95
            refine va rfl rfl rfl (q_ldS (c := 1) (v := .slice A137 ((gt ys132 i95).vers).length c138) (satJ (i := 0) rfl hn131) (hx139 (ltq hl103 hq135.symm)).2 rfl Tryz.isAgg39 rfl rfl) ?_
            refine va rfl rfl rfl (q_move (v := .int .i64 ((i105 : Nat) : Int)) rfl (by kernel_rfl)) ?_
            refine va rfl rfl rfl (q_ixn (i := i105) Tryz.underlying39 Tryz.sizeOf51 rfl rfl rfl hlt136 ((hx139 (ltq hl103 hq135.symm)).1.2.2.some_ hlt136)) ?_
            refine va rfl rfl rfl (q_field_addr (i105 * 5 + 2) fld_51_1 rfl rfl ((hx139 (ltq hl103 hq135.symm)).1.2.2.some_ hlt136) rfl) ?_
            obtain ⟨A140, c141, hx142⟩ := (hx139 (ltq hl103 hq135.symm)).1.2.2.verT_at i105
            refine va rfl rfl rfl (q_ldS (c := 2) (v := .slice A140 ((gt ((gt ys132 i95).vers) i105).past).length c141) (satJ (i := 0) rfl hn131) (hx142 hlt136).2 rfl Tryz.isAgg49 rfl rfl) ?_
            refine va rfl rfl rfl (q_len_slice rfl Tryz.underlying49 rfl) ?_
            refine va rfl rfl rfl (q_lss rfl rfl rfl) ?_
            refine WR.nil ?_
            change WC _ _ _ _ _ _
            refine WC.cond (b := (decide (((i129 : Nat) : Int) < ((((gt ((gt ys132 i95).vers) i105).past).length : Nat) : Int)))) (by kernel_rfl) (fun hb143 => ?_) (fun hb143 => ?_)
            · skip
              have hl144 := ilt hb143
              have hq145 := jlt (shL_kid (shL_kid hs134 hq104) hq117) hl144
              refine WC.skip ?_
              change WC _ _ _ _ _ _
              refine WC.seq ?_
              refine WC.block ?_
              refine WC.region ?_
              refine va rfl rfl rfl (q_move (v := .slice A88 z82.length c89) rfl (by kernel_rfl)) ?_
              refine va rfl rfl rfl (q_move (v := .int .i64 ((i95 : Nat) : Int)) rfl (by kernel_rfl)) ?_
              refine va rfl rfl rfl (q_ixn (i := i95) Tryz.underlying22 Tryz.sizeOf41 rfl rfl rfl hl103 (hj133.some_ (ltq hl103 hq135.symm))) ?_
              refine va rfl rfl rfl (q_field_addr (i95 * 2 + 1) fld_41_1 rfl rfl (hj133.some_ (ltq hl103 hq135.symm)) rfl) ?_
              refine va rfl rfl rfl (q_ldS (c := 1) (v := .slice A137 ((gt ys132 i95).vers).length c138) (satJ (i := 0) rfl hn131) (hx139 (ltq hl103 hq135.symm)).2 rfl Tryz.isAgg39 rfl rfl) ?_
              refine va rfl rfl rfl (q_move (v := .int .i64 ((i105 : Nat) : Int)) rfl (by kernel_rfl)) ?_
              refine va rfl rfl rfl (q_ixn (i := i105) Tryz.underlying39 Tryz.sizeOf51 rfl rfl rfl hlt136 ((hx139 (ltq hl103 hq135.symm)).1.2.2.some_ hlt136)) ?_
              refine va rfl rfl rfl (q_field_addr (i105 * 5 + 2) fld_51_1 rfl rfl ((hx139 (ltq hl103 hq135.symm)).1.2.2.some_ hlt136) rfl) ?_
              obtain ⟨A146, c147, hx148⟩ := (hx139 (ltq hl103 hq135.symm)).1.2.2.verT_at i105
              refine va rfl rfl rfl (q_ldS (c := 2) (v := .slice A146 ((gt ((gt ys132 i95).vers) i105).past).length c147) (satJ (i := 0) rfl hn131) (hx148 hlt136).2 rfl Tryz.isAgg49 rfl rfl) ?_
              refine va rfl rfl rfl (q_move (v := .int .i64 ((i129 : Nat) : Int)) rfl (by kernel_rfl)) ?_
              refine va rfl rfl rfl (q_ixn (i := i129) Tryz.underlying49 Tryz.sizeOf53 rfl rfl rfl hl144 ((hx148 hlt136).1.2.2.1.2.some_ hl144)) ?_
              refine va rfl rfl rfl (q_field_addr (i129 * 3 + 2) fld_53_2 rfl rfl ((hx148 hlt136).1.2.2.1.2.some_ hl144) rfl) ?_
              refine e_store_J (c := 2) (u := .int .i64 (gt ((gt ((gt ys132 i95).vers) i105).past) i129).t) (v := .int .i64 (-4)) rfl rfl rfl rfl (by kernel_rfl) Tryz.sizeOf2 rfl rfl ((hx148 hlt136).1.2.2.1.2.spanT_at hl144).2 rfl (.int _ _ (show I64 (-4) by decide)) (i := 0) rfl hn131 ?_
              intro J149 hn150 hl151
              obtain ⟨ys152, hj153, hs154⟩ := hj133.like like_Rec hl151
              have hs154 := hs154.trans hs134
              have hq155 := shL_eq_len hs154
              have hlt156 := jtl (shL_kid hs154 hq104) hq117
              have hlt157 := jtl (shL_kid (shL_kid hs154 hq104) hq117) hq145
              refine WR.nil ?_
              change WC _ _ _ _ _ _
              refine WC.region ?_
              refine va rfl rfl rfl (q_move (v := .int .i64 ((i129 : Nat) : Int)) rfl (by kernel_rfl)) ?_
              refine va rfl rfl rfl (q_add_r (r := ((i129 + 1 : Nat) : Int)) rfl rfl rfl (ctr_len hl144 (hx142 hlt136).1.2.2.1.2.le)) ?_
              refine va rfl rfl rfl (q_assign (v := .int .i64 ((i129 + 1 : Nat) : Int)) rfl (by kernel_rfl)) ?_
              refine WR.nil ?_
              intro w hw; exact ⟨(jtl (shL_kid (shL_kid hs126 hq104) hq117) hq145), J149, ys152, hn150, hj153, hs154, (sl_ (by kernel_rfl)), hw⟩
            · skip
              refine WC.exit ?_
              change WC _ _ _ _ _ _
              refine WC.region ?_
              refine va rfl rfl rfl (q_move (v := .int .i64 ((i105 : Nat) : Int)) rfl (by kernel_rfl)) ?_
              refine va rfl rfl rfl (q_add_r (r := ((i105 + 1 : Nat) : Int)) rfl rfl rfl (ctr_len hl116 (hx114 (ltq hl103 hq111.symm)).1.2.2.le)) ?_
              refine va rfl rfl rfl (q_assign (v := .int .i64 ((i105 + 1 : Nat) : Int)) rfl (by kernel_rfl)) ?_
              refine WR.nil ?_
              intro w hw; exact ⟨(jtl (shL_kid hs100 hq104) hq117), J130, ys132, hn131, hj133, hs134, (sl_ (by kernel_rfl)), hw⟩
          · skip
            refine WC.exit ?_
            change WC _ _ _ _ _ _
            refine WC.region ?_
            refine va rfl rfl rfl (q_move (v := .int .i64 ((i95 : Nat) : Int)) rfl (by kernel_rfl)) ?_
            refine va rfl rfl rfl (q_add_r (r := ((i95 + 1 : Nat) : Int)) rfl rfl rfl (ctr_len hl103 (hq101 ▸ hj99.le))) ?_
            refine va rfl rfl rfl (q_assign (v := .int .i64 ((i95 + 1 : Nat) : Int)) rfl (by kernel_rfl)) ?_
            refine WR.nil ?_
            intro w hw; exact ⟨hl103, J106, ys108, hn107, hj109, hs110, (sl_ (by kernel_rfl)), hw⟩
        · skip
          refine WC.exit ?_
          change WC _ _ _ _ _ _
          refine WC.rs ?_
          refine va rfl rfl rfl (q_assign (v := .slice none 0 0) rfl (by kernel_rfl)) ?_
          refine WR.nil ?_
          change WC _ _ _ _ _ _
          refine WC.rs ?_
          refine va rfl rfl rfl (q_move (v := .slice none 0 0) rfl (by kernel_rfl)) ?_
          refine va rfl rfl rfl (q_ldla (i := 5) (vs := [.string r_.key, .slice Ar_1 r_.vers.length cr_1]) rfl rfl Tryz.isAgg41 Tryz.sizeOf41 rfl rfl) ?_
          obtain ⟨z158, hz159, h⟩ := bnd h
          refine e_call (is := []) rfl rfl (call_run Tryz.call18 rfl rfl (by kernel_rfl)) rfl (fun w hp => t_firthref10_With (Sl.nil recT _ none) (Nat.zero_le 0) r_ (Rec.fits_mono hr_ hl27) hp hz159) ?_
          rintro Γ160 U162 v163 hl161 ⟨A164, c165, row166, rfl, rfl, hr167, _⟩
          change WR _ _ _ (CC F Γ160 [row166, J96, row31, [(g22, .cells #[.string z12.key, .slice A18 z12.vers.length c19] 41 (0, 0))], [(g21, .cells #[.string z12.key, .slice A18 z12.vers.length c19] 41 (0, 0))], J42, [(g1, .cells #[.string r_.key, .slice Ar_1 r_.vers.length cr_1] 41 (0, 0))]]) _ _ (upd _ 122 (.slice A164 z158.length c165))
          refine va rfl rfl rfl (q_assign (v := .slice A164 z158.length c165) rfl (by kernel_rfl)) ?_
          refine WR.nil ?_
          change WC _ _ _ _ _ _
          refine WC.rs ?_
          refine va rfl rfl rfl (q_move (v := .pointer (some ⟨g30, 0, none⟩)) rfl (optp_some rfl hz38)) ?_
          obtain ⟨z168, hz169, h⟩ := bnd h
          refine e_callF (is := [2]) (Lent.nil F) rfl rfl (call_run Tryz.call13 rfl rfl (by kernel_rfl)) rfl (fun w Θ hp hpB hle hleB hR => t_tree_Tree_Recs_x ((ho39.mono hl161).mono hle) (Sl.nil intT _ none) (Nat.zero_le 0) hp hpB hz169) ?_
          rintro J170 U172 v173 hn171 ⟨A174, c175, row176, rfl, rfl, hr177, _⟩
          refine WR.sub (fun w hw => hw.only (is := [0, 1, 0, 0, 0, 0, 0, 0, 0]) rfl) ?_
          change WR _ _ _ (CC F Γ160 [J170, row176, row31, row166, J96, [(g22, .cells #[.string z12.key, .slice A18 z12.vers.length c19] 41 (0, 0))], [(g21, .cells #[.string z12.key, .slice A18 z12.vers.length c19] 41 (0, 0))], J42, [(g1, .cells #[.string r_.key, .slice Ar_1 r_.vers.length cr_1] 41 (0, 0))]]) _ _ _
          refine WR.join2 fun hn178 => ?_
          have hr179 := hr177.sl (ghr_left hn178) (ghr_right hn178)
          have hc180 := hr177.capz
          change WR _ _ _ (CC F Γ160 [(J170 ++ row176), row31, row166, J96, [(g22, .cells #[.string z12.key, .slice A18 z12.vers.length c19] 41 (0, 0))], [(g21, .cells #[.string z12.key, .slice A18 z12.vers.length c19] 41 (0, 0))], J42, [(g1, .cells #[.string r_.key, .slice Ar_1 r_.vers.length cr_1] 41 (0, 0))]]) _ _ (upd _ 124 (.slice A174 z168.length c175))
          refine va rfl rfl rfl (q_move (v := .slice A164 z158.length c165) rfl (by kernel_rfl)) ?_
          obtain ⟨z181, hz182, h⟩ := bnd h
          refine vc rfl rfl rfl (q_call (call_run Tryz.call12 rfl rfl (by kernel_rfl)) (fun w hw => t_firthref06_SameRecs (Γ := Gh.all w) (hr179.mono ((satJ (i := 0) rfl hn178) w hw).le_all) hc180 (hr167.sl hw.sat.le_all (hw.ra 2 rfl)) hr167.capz (Sat.all w) hz182)) ?_
          refine va rfl rfl rfl (q_move (v := .bool z181) rfl (by kernel_rfl)) ?_
          refine vg1 rfl rfl rfl rfl rfl (fun hg183 => QV.qo (q_move (v := .pointer (some ⟨g30, 0, none⟩)) rfl (optp_some rfl hz38))) ?_
          refine (Bool.eq_false_or_eq_true z181).elim (fun hb184 => ?_) (fun hb184 => ?_)
          · skip
            have h := bt hb184 h
            refine WR.sat (c0 := true) (g := z181) rfl rfl rfl hb184 ?_
            obtain ⟨z185, hz186, h⟩ := bnd h
            refine e_call (is := [1]) rfl rfl (call_run Tryz.call7 rfl rfl (args2 (gu hb184 rfl) rfl)) rfl (fun w hp => t_HashC (ho39.mono hl161) (Sl.nil intT _ none) (Nat.zero_le 0) (fun p hp => nomatch hp) hp hz186) ?_
            rintro Γ187 U189 v190 hl188 ⟨row191, rfl, rfl, hr192, hr193, _⟩
            change WR _ _ _ (CC F Γ187 [row191, (J170 ++ row176), row166, J96, [(g22, .cells #[.string z12.key, .slice A18 z12.vers.length c19] 41 (0, 0))], [(g21, .cells #[.string z12.key, .slice A18 z12.vers.length c19] 41 (0, 0))], J42, [(g1, .cells #[.string r_.key, .slice Ar_1 r_.vers.length cr_1] 41 (0, 0))]]) _ _ (upd _ 129 (.int .u64 z185.2))
            refine WR.sat (c0 := true) (g := z181) rfl rfl rfl hb184 ?_
            refine va rfl rfl rfl (q_move (v := .slice A164 z158.length c165) rfl (by kernel_rfl)) ?_
            refine WR.sat (c0 := true) (g := z181) rfl rfl rfl hb184 ?_
            obtain ⟨z194, hz195, h⟩ := bnd h
            refine vc rfl rfl rfl (q_call (call_run Tryz.call8 rfl rfl (by kernel_rfl)) (fun w hw => t_firthref11_Hash (Γ := Gh.all w) ((hr167.mono hl188).sl hw.sat.le_all (hw.ra 2 rfl)) (hr167.mono hl188).capz (Sl.nil intT _ none) (Nat.zero_le 0) (Sat.all w) hz195)) ?_
            refine WR.sat (c0 := true) (g := z181) rfl rfl rfl hb184 ?_
            refine va rfl rfl rfl (q_eql rfl rfl rfl) ?_
            refine va rfl rfl rfl (q_pick_t (v := .bool (z185.2 == z194)) rfl rfl hb184 (by kernel_rfl)) ?_
            refine va rfl rfl rfl (q_assign (v := .bool (z185.2 == z194)) rfl (by kernel_rfl)) ?_
            refine WR.nil ?_
            change WC _ _ _ _ _ _
            refine WC.ret ?_
            intro w hw
            obtain rfl := Option.some.inj h
            subst hF
            exact ⟨by kernel_rfl, hw.fr⟩
          · skip
            have h := bf hb184 h
            refine WR.unsat (c0 := true) (g := z181) rfl rfl rfl hb184 rfl ?_
            refine WR.unsat (c0 := true) (g := z181) rfl rfl rfl hb184 rfl ?_
            refine WR.unsat (c0 := true) (g := z181) rfl rfl rfl hb184 rfl ?_
            refine WR.unsat (c0 := true) (g := z181) rfl rfl rfl hb184 rfl ?_
            refine va rfl rfl rfl (q_pick_f (v := .bool false) rfl rfl hb184 (by kernel_rfl)) ?_
            refine va rfl rfl rfl (q_assign (v := .bool false) rfl (by kernel_rfl)) ?_
            refine WR.nil ?_
            change WC _ _ _ _ _ _
            refine WC.ret ?_
            intro w hw
            obtain rfl := Option.some.inj h
            subst hF
            exact ⟨by kernel_rfl, hw.fr⟩
end Fw
end Go.Proofs.YtmmnpinpcgidnaaGreat
