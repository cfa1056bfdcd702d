/- Walks through the functions that the law reaches (printed by a program). No condition. -/
import Derived.Test.YtiakfgdgafljnaaGreatW2
namespace Go.Proofs.YtiakfgdgafljnaaGreat
namespace Fw
set_option linter.unusedVariables false
set_option linter.unusedSimpArgs false
set_option linter.unusedSectionVars false
open Go.RowKit
set_option maxRecDepth 100000 in
set_option maxHeartbeats 400000 in
theorem t_slices_Equal_int_int {Γ : Gh} {w0 : World} {As1 : Option Addr} {cs1 : Nat} {s1 : List Int} (hs1 : Sl intT Γ As1 s1) (hs1c : s1.length ≤ cs1) {As2 : Option Addr} {cs2 : Nat} {s2 : List Int} (hs2 : Sl intT Γ As2 s2) (hs2c : s2.length ≤ cs2) (hs : Sat Γ w0) {r : Bool} (h : m_slices_Equal_int_int s1 s2 = some r) : Calls Tryz.prog 84 #[.slice As1 s1.length cs1, .slice As2 s2.length cs2] w0 (fun e w' => e = .returned (.bool r) ∧ Fr no w0 w') := by
  refine calls_of (N := 26) (rs := [4]) (args := [.slice As1 s1.length cs1, .slice As2 s2.length cs2]) Tryz.func84 rfl Tryz.ntmps84 Tryz.results84 rfl ?_
  obtain ⟨F, hF⟩ : ∃ F : Fm, F = ⟨no, w0, Γ⟩ := ⟨_, rfl⟩
  refine WC.here (C := CC F Γ []) ?_ (hF ▸ Cur.start0 hs)
  refine WC.rs ?_
  refine va rfl rfl rfl (q_assign (v := .bool false) rfl (by kernel_rfl)) ?_
  refine WR.nil ?_
  change WC _ _ _ _ _ _
  refine WC.seq ?_
  refine WC.rs ?_
  refine va rfl rfl rfl (q_move (v := .slice As1 s1.length cs1) rfl (by kernel_rfl)) ?_
  refine va rfl rfl rfl (q_len_slice rfl Tryz.underlying24 rfl) ?_
  refine va rfl rfl rfl (q_move (v := .slice As2 s2.length cs2) rfl (by kernel_rfl)) ?_
  refine va rfl rfl rfl (q_len_slice rfl Tryz.underlying24 rfl) ?_
  refine va rfl rfl rfl (q_neq rfl rfl rfl) ?_
  refine WR.nil ?_
  change WC _ _ _ _ _ _
  refine WC.cif h (by kernel_rfl) (fun hb1 h => ?_) (fun hb1 h => ?_)
  · skip
    refine WC.rs ?_
    refine va rfl rfl rfl (q_assign (v := .bool false) rfl (by kernel_rfl)) ?_
    refine WR.nil ?_
    change WC _ _ _ _ _ _
    refine WC.ret ?_
    intro w hw
    obtain rfl := Option.some.inj h
    subst hF
    exact ⟨by kernel_rfl, hw.fr⟩
  · skip
    refine WC.skip ?_
    change WC _ _ _ _ _ _
    refine WC.seq ?_
    refine WC.rs ?_
    refine va rfl rfl rfl (q_move (v := .slice As1 s1.length cs1) rfl (by kernel_rfl)) ?_
    refine va rfl rfl rfl (q_len_slice rfl Tryz.underlying24 rfl) ?_
    refine va rfl rfl rfl (q_move (v := .int .i64 0) rfl (by kernel_rfl)) ?_
    refine WR.nil ?_
    change WC _ _ _ _ _ _
    refine WC.block ?_
    refine WC.forI h (fun (i3 : Nat) (s : Unit) σ w => match s with | () => slots σ [(0, .slice As1 s1.length cs1), (1, .slice As2 s2.length cs2), (12, .int .i64 ((s1.length : Nat) : Int)), (13, .int .i64 ((i3 : Nat) : Int))] ∧ CC F Γ [] w ∧ True) ?_ ?_
    · skip
      intro w hw
      exact ⟨(sl_ (by kernel_rfl)), hw, trivial⟩
    rintro f2 i3 ⟨⟩ σ w hi4 hlt5 hge6 ⟨hsl, hw, -⟩
    refine Wpt.slots hsl ?_
    refine WC.here (C := CC F Γ []) ?_ hw
    clear hw hsl
    refine WC.rs ?_
    refine va rfl rfl rfl (q_lss rfl rfl rfl) ?_
    refine WR.nil ?_
    change WC _ _ _ _ _ _
    refine WC.seq ?_
    refine WC.cond (b := (decide (((i3 : Nat) : Int) < ((s1.length : Nat) : Int)))) (by kernel_rfl) (fun hb7 => ?_) (fun hb7 => ?_)
    · skip
      have hl8 := ilt hb7
      have h := hlt5 hl8
      refine WC.skip ?_
      change WC _ _ _ _ _ _
      refine WC.seq ?_
      refine WC.block ?_
      refine WC.rs ?_
      refine va rfl rfl rfl (q_move (v := .int .i64 ((i3 : Nat) : Int)) rfl (by kernel_rfl)) ?_
      refine va rfl rfl rfl (q_assign (v := .int .i64 ((i3 : Nat) : Int)) rfl (by kernel_rfl)) ?_
      refine WR.nil ?_
      change WC _ _ _ _ _ _
      refine WC.seq ?_
      refine WC.dr (by kernel_rfl) (by kernel_rfl) (fun w hw => hw.drawn _) ?_
      refine wa rfl rfl rfl (q_move (v := .slice As1 s1.length cs1) rfl (by kernel_rfl)) ?_
      refine wa rfl rfl rfl (q_move (v := .int .i64 ((i3 : Nat) : Int)) rfl (by kernel_rfl)) ?_
      refine wa rfl rfl rfl (q_ixn (i := i3) Tryz.underlying24 Tryz.sizeOf3 rfl rfl rfl hl8 (hs1.some_ hl8)) ?_
      refine wa rfl rfl rfl (q_ld (c := 0) (v := .int .i64 (gt s1 i3)) (hs1.intT_at hl8).2 rfl Tryz.isAgg3 rfl rfl) ?_
      refine wa rfl rfl rfl (q_move (v := .slice As2 s2.length cs2) rfl (by kernel_rfl)) ?_
      refine wa rfl rfl rfl (q_move (v := .int .i64 ((i3 : Nat) : Int)) rfl (by kernel_rfl)) ?_
      obtain ⟨hk9, h⟩ := chk_some h
      refine wa rfl rfl rfl (q_ixn (i := i3) Tryz.underlying24 Tryz.sizeOf3 rfl rfl rfl (of_decide_eq_true hk9) (hs2.some_ (of_decide_eq_true hk9))) ?_
      refine wa rfl rfl rfl (q_ld (c := 0) (v := .int .i64 (gt s2 i3)) (hs2.intT_at (of_decide_eq_true hk9)).2 rfl Tryz.isAgg3 rfl rfl) ?_
      refine wa rfl rfl rfl (q_neq rfl rfl rfl) ?_
      refine WQ.nil ?_
      change WC _ _ _ _ _ _
      refine WC.cif h (by kernel_rfl) (fun hb10 h => ?_) (fun hb10 h => ?_)
      · skip
        refine WC.rs ?_
        refine va rfl rfl rfl (q_assign (v := .bool false) rfl (by kernel_rfl)) ?_
        refine WR.nil ?_
        change WC _ _ _ _ _ _
        refine WC.ret ?_
        intro w hw
        obtain rfl := Option.some.inj h
        subst hF
        exact ⟨by kernel_rfl, hw.fr⟩
      · skip
        refine WC.skip ?_
        change WC _ _ _ _ _ _
        refine WC.region ?_
        refine va rfl rfl rfl (q_add_r (r := ((i3 + 1 : Nat) : Int)) rfl rfl rfl (ctr_len hl8 hs1.le)) ?_
        refine va rfl rfl rfl (q_move (v := .int .i64 ((i3 + 1 : Nat) : Int)) rfl (by kernel_rfl)) ?_
        refine WR.nil ?_
        intro w hw
        exact ⟨hl8, (), h, (sl_ (by kernel_rfl)), hw, trivial⟩
    · skip
      have h := hge6 (ige hb7)
      refine WC.exit ?_
      change WC _ _ _ _ _ _
      refine WC.rs ?_
      refine va rfl rfl rfl (q_assign (v := .bool true) rfl (by kernel_rfl)) ?_
      refine WR.nil ?_
      change WC _ _ _ _ _ _
      refine WC.ret ?_
      intro w hw
      obtain rfl := Option.some.inj h
      subst hF
      exact ⟨by kernel_rfl, hw.fr⟩
set_option maxRecDepth 100000 in
set_option maxHeartbeats 400000 in
theorem t_pull_way_beneath {Γ : Gh} {w0 : World} (w_ : Dpull_way) (hw_ : Dpull_way.fits Γ  w_) {Ar_1 : Option Addr} {cr_1 : Nat} (r_ : Rec) (hr_ : Rec.fits Γ Ar_1 cr_1 r_) (hs : Sat Γ w0) {r : Bool} (h : m_pull_way_beneath w_ r_ = some r) : Calls Tryz.prog 64 #[.agg #[.int .i64 w_.a0, .int .i64 w_.a1], .agg #[.string r_.key, .slice Ar_1 r_.vers.length cr_1]] w0 (fun e w' => e = .returned (.bool r) ∧ Fr no w0 w') := by
  refine calls_of (N := 15) (rs := [4]) (args := [.agg #[.int .i64 w_.a0, .int .i64 w_.a1], .agg #[.string r_.key, .slice Ar_1 r_.vers.length cr_1]]) Tryz.func64 rfl Tryz.ntmps64 Tryz.results64 rfl ?_
  obtain ⟨F, hF⟩ : ∃ F : Fm, F = ⟨no, w0, Γ⟩ := ⟨_, rfl⟩
  refine WC.here (C := CC F Γ []) ?_ (hF ▸ Cur.start0 hs)
  refine WC.rs ?_
  refine e_box (v := .agg #[.int .i64 w_.a0, .int .i64 w_.a1]) rfl rfl rfl rfl (by kernel_rfl) ?_
  intro g1
  refine e_box (v := .agg #[.string r_.key, .slice Ar_1 r_.vers.length cr_1]) rfl rfl rfl rfl (by kernel_rfl) ?_
  intro g2
  refine va rfl rfl rfl (q_assign (v := .bool false) rfl (by kernel_rfl)) ?_
  refine WR.nil ?_
  change WC _ _ _ _ _ _
  refine WC.seq ?_
  intro w hw; have h03 := hw.le
  refine WC.here (C := CC F Γ [[(g2, .cells #[.string r_.key, .slice Ar_1 r_.vers.length cr_1] 70 (0, 0))], [(g1, .cells #[.int .i64 w_.a0, .int .i64 w_.a1] 100 (0, 0))]]) ?_ hw; clear hw
  refine WC.held (CC F Γ [[(g2, .cells #[.string r_.key, .slice Ar_1 r_.vers.length cr_1] 70 (0, 0))], [(g1, .cells #[.int .i64 w_.a0, .int .i64 w_.a1] 100 (0, 0))]]) (by kernel_rfl) (fun w hw => hw.drawn _) ?_
  change WH _ _ _ _ (CC F Γ [[(g2, .cells #[.string r_.key, .slice Ar_1 r_.vers.length cr_1] 70 (0, 0))], [(g1, .cells #[.int .i64 w_.a0, .int .i64 w_.a1] 100 (0, 0))]]) _ 11 #[false, false, false, false, false, false, false, false, false, false, false] _
  refine ht (i := 0) rfl (by kernel_rfl) rfl rfl rfl (fun w hw => hw.back (Gh.refl _) h03 (.cons_cons _ (.cons_cons _ .slnil))) (q_ldla (i := 0) (vs := [.string r_.key, .slice Ar_1 r_.vers.length cr_1]) rfl rfl Tryz.isAgg70 Tryz.sizeOf70 rfl rfl) ?_
  refine WH.lone (i := 1) (by kernel_rfl) rfl ?_
  obtain ⟨z4, hz5, h⟩ := bnd h
  refine vc rfl rfl rfl (q_call (call_run Tryz.call83 rfl rfl (by kernel_rfl)) (fun w hw => t_code_RightRec (Γ := Gh.all w) r_ (Rec.fits_mono hr_ hw.sat.le_all) (Sat.all w) hz5)) ?_
  refine WR.nil ?_
  refine WH.next (fun w hw => hw.back (Gh.refl _) h03 (.cons_cons _ (.cons_cons _ .slnil))) ?_
  refine ht (i := 2) rfl (by kernel_rfl) rfl rfl rfl (fun w hw => hw.back (Gh.refl _) h03 (.cons_cons _ (.cons_cons _ .slnil))) (q_move (v := .bool z4) rfl (by kernel_rfl)) ?_
  refine hg1 (i := 3) rfl (by kernel_rfl) rfl rfl rfl rfl rfl (fun w hw => hw.back (Gh.refl _) h03 (.cons_cons _ (.cons_cons _ .slnil))) (fun hg6 => (q_fl 0 fld_70_0 rfl rfl rfl)) ?_
  refine hg1 (i := 4) rfl (by kernel_rfl) rfl rfl rfl rfl rfl (fun w hw => hw.back (Gh.refl _) h03 (.cons_cons _ (.cons_cons _ .slnil))) (fun hg7 => (q_ldl (i := 0) (v := .string r_.key) rfl rfl Tryz.isAgg9 (gu hg7 rfl) rfl)) ?_
  refine hg1 (i := 6) rfl (by kernel_rfl) rfl rfl rfl rfl rfl (fun w hw => hw.back (Gh.refl _) h03 (.cons_cons _ (.cons_cons _ .slnil))) (fun hg8 => (q_ldla (i := 1) (vs := [.int .i64 w_.a0, .int .i64 w_.a1]) rfl rfl Tryz.isAgg100 Tryz.sizeOf100 rfl rfl)) ?_
  refine (Bool.eq_false_or_eq_true z4).elim (fun hb9 => ?_) (fun hb9 => ?_)
  · skip
    have h := bt hb9 h
    refine WH.lone (i := 5) (by kernel_rfl) rfl ?_
    refine WR.sat (c0 := true) (g := z4) rfl rfl rfl hb9 ?_
    obtain ⟨z10, hz11, h⟩ := bnd h
    refine e_call (is := []) rfl rfl (call_run Tryz.call85 rfl rfl (args1 (gu hb9 rfl))) rfl (fun w hp => t_tree_Place r_.key hr_.1 hp hz11) ?_
    rintro Γ12 U14 v15 hl13 ⟨A16, c17, row18, rfl, rfl, hr19, _⟩
    change WR _ _ _ (CC F Γ12 [row18, [(g2, .cells #[.string r_.key, .slice Ar_1 r_.vers.length cr_1] 70 (0, 0))], [(g1, .cells #[.int .i64 w_.a0, .int .i64 w_.a1] 100 (0, 0))]]) _ _ (upd _ 10 (.slice A16 z10.length c17))
    refine WR.nil ?_
    refine WH.next (fun w hw => hw.back hl13 h03 (.cons _ (.cons_cons _ (.cons_cons _ .slnil)))) ?_
    refine WH.lone (i := 7) (by kernel_rfl) rfl ?_
    refine WR.sat (c0 := true) (g := z4) rfl rfl rfl hb9 ?_
    obtain ⟨z20, hz21, h⟩ := bnd h
    refine e_call (is := []) rfl rfl (call_run Tryz.call70 rfl rfl (args1 (gu hb9 rfl))) rfl (fun w hp => t_pull_way_path w_ (Dpull_way.fits_mono hw_ hl13) hp hz21) ?_
    rintro Γ22 U24 v25 hl23 ⟨A26, c27, rfl, rfl, hc29, hr28, _⟩
    change WR _ _ _ (CC F Γ22 [row18, [(g2, .cells #[.string r_.key, .slice Ar_1 r_.vers.length cr_1] 70 (0, 0))], [(g1, .cells #[.int .i64 w_.a0, .int .i64 w_.a1] 100 (0, 0))]]) _ _ (upd _ 12 (.slice A26 z20.length c27))
    refine WR.nil ?_
    refine WH.next (fun w hw => hw.back (hl13.trans hl23) h03 (.cons _ (.cons_cons _ (.cons_cons _ .slnil)))) ?_
    refine WH.lone (i := 8) (by kernel_rfl) rfl ?_
    obtain ⟨z31, hz32, h⟩ := bnd h
    refine vg1 rfl rfl rfl rfl rfl (fun hg30 => (q_call (call_run Tryz.call84 rfl rfl (by kernel_rfl)) (fun w hw => t_slices_Equal_int_int (Γ := Gh.all w) ((hr19.mono hl23).sl hw.sat.le_all (hw.ra 0 rfl)) (hr19.mono hl23).capz (hr28.mono hw.sat.le_all) hc29 (Sat.all w) (gc_of hz32 hg30)))) ?_
    refine WR.nil ?_
    refine WH.next (fun w hw => hw.back (hl13.trans hl23) h03 (.cons _ (.cons_cons _ (.cons_cons _ .slnil)))) ?_
    refine ht (i := 9) rfl (by kernel_rfl) rfl rfl rfl (fun w hw => hw.back (hl13.trans hl23) h03 (.cons _ (.cons_cons _ (.cons_cons _ .slnil)))) (q_pick_t (v := .bool z31) rfl rfl hb9 (gu hb9 rfl)) ?_
    refine ht (i := 10) rfl (by kernel_rfl) rfl rfl rfl (fun w hw => hw.back (hl13.trans hl23) h03 (.cons _ (.cons_cons _ (.cons_cons _ .slnil)))) (q_assign (v := .bool z31) rfl (by kernel_rfl)) ?_
    refine WH.done (by kernel_rfl) ?_
    change WC _ _ _ _ _ _
    refine WC.ret ?_
    intro w hw
    obtain rfl := Option.some.inj h
    subst hF
    exact ⟨by kernel_rfl, hw.fr⟩
  · skip
    have h := bf hb9 h
    refine hg1 (g := z4) (i := 5) (v := undef) rfl (by kernel_rfl) rfl rfl rfl rfl rfl (fun w hw => hw.back (Gh.refl _) h03 (.cons_cons _ (.cons_cons _ .slnil))) (no_tf hb9) ?_
    refine WH.env (v := undef) (gv_false hb9) ?_
    refine hg1 (g := z4) (i := 7) (v := undef) rfl (by kernel_rfl) rfl rfl rfl rfl rfl (fun w hw => hw.back (Gh.refl _) h03 (.cons_cons _ (.cons_cons _ .slnil))) (no_tf hb9) ?_
    refine WH.env (v := undef) (gv_false hb9) ?_
    refine hg1 (g := z4) (i := 8) (v := undef) rfl (by kernel_rfl) rfl rfl rfl rfl rfl (fun w hw => hw.back (Gh.refl _) h03 (.cons_cons _ (.cons_cons _ .slnil))) (no_tf hb9) ?_
    refine WH.env (v := undef) (gv_false hb9) ?_
    refine ht (i := 9) rfl (by kernel_rfl) rfl rfl rfl (fun w hw => hw.back (Gh.refl _) h03 (.cons_cons _ (.cons_cons _ .slnil))) (q_pick_f (v := .bool false) rfl rfl hb9 (by kernel_rfl)) ?_
    refine ht (i := 10) rfl (by kernel_rfl) rfl rfl rfl (fun w hw => hw.back (Gh.refl _) h03 (.cons_cons _ (.cons_cons _ .slnil))) (q_assign (v := .bool false) rfl (by kernel_rfl)) ?_
    refine WH.done (by kernel_rfl) ?_
    change WC _ _ _ _ _ _
    refine WC.ret ?_
    intro w hw
    obtain rfl := Option.some.inj h
    subst hF
    exact ⟨by kernel_rfl, hw.fr⟩
abbrev r_pull_Pull_Tell_2_l1 (gb0 : Nat) (b0v0 : Int) (b0v1 : Int) (r : Bool) (U : List Rowb) (Γ : Gh) (v : Value) : Prop := v = .bool r ∧ U = [[(gb0, .cells #[.int .i64 b0v0, .int .i64 b0v1] 100 (0, 0))]] ∧ True
set_option maxRecDepth 100000 in
set_option maxHeartbeats 400000 in
theorem t_pull_Pull_Tell_2_l1 {Γ : Gh} {w0 : World} {B : Gh} {Ar_1 : Option Addr} {cr_1 : Nat} (r_ : Rec) (hr_ : Rec.fits B Ar_1 cr_1 r_) {gb0 : Nat} (b0v0 : Int) (hb0v0 : I64 b0v0) (b0v1 : Int) (hb0v1 : I64 b0v1) (hp : Pre [[(gb0, .cells #[.int .i64 b0v0, .int .i64 b0v1] 100 (0, 0))]] Γ w0) (hpB : Pre [[(gb0, .cells #[.int .i64 b0v0, .int .i64 b0v1] 100 (0, 0))]] B w0) {r : Bool} (h : m_pull_Pull_Tell_2_l1 r_ b0v0 b0v1 = some r) : Calls Tryz.prog 63 #[.agg #[.string r_.key, .slice Ar_1 r_.vers.length cr_1], .pointer (some ⟨gb0, 0, none⟩)] w0 (Outc Γ [[(gb0, .cells #[.int .i64 b0v0, .int .i64 b0v1] 100 (0, 0))]] w0 (r_pull_Pull_Tell_2_l1 gb0 b0v0 b0v1 r)) := by
  refine calls_of (N := 8) (rs := [3]) (args := [.agg #[.string r_.key, .slice Ar_1 r_.vers.length cr_1], .pointer (some ⟨gb0, 0, none⟩)]) Tryz.func63 rfl Tryz.ntmps63 Tryz.results63 rfl ?_
  obtain ⟨F, hF⟩ : ∃ F : Fm, F = ⟨ids [[(gb0, .cells #[.int .i64 b0v0, .int .i64 b0v1] 100 (0, 0))]], w0, Γ⟩ := ⟨_, rfl⟩
  refine WC.here (C := CC F Γ [[(gb0, .cells #[.int .i64 b0v0, .int .i64 b0v1] 100 (0, 0))]]) ?_ (hF ▸ hp.start)
  have hB : Lent F B := hF ▸ Lent.start hpB
  refine WC.rs ?_
  refine e_box (v := .agg #[.string r_.key, .slice Ar_1 r_.vers.length cr_1]) rfl rfl rfl rfl (by kernel_rfl) ?_
  intro g1
  refine va rfl rfl rfl (q_assign (v := .bool false) rfl (by kernel_rfl)) ?_
  refine WR.nil ?_
  change WC _ _ _ _ _ _
  refine WC.rs ?_
  refine va rfl rfl rfl (q_ldla (i := 1) (vs := [.int .i64 b0v0, .int .i64 b0v1]) rfl rfl Tryz.isAgg100 Tryz.sizeOf100 rfl rfl) ?_
  refine va rfl rfl rfl (q_ldla (i := 0) (vs := [.string r_.key, .slice Ar_1 r_.vers.length cr_1]) rfl rfl Tryz.isAgg70 Tryz.sizeOf70 rfl rfl) ?_
  obtain ⟨z2, hz3, h⟩ := bnd h
  refine vc rfl rfl rfl (q_call (call_run Tryz.call64 rfl rfl (by kernel_rfl)) (fun w hw => t_pull_way_beneath (Γ := Gh.all w) (⟨b0v0, b0v1⟩ : Dpull_way) ⟨hb0v0, hb0v1⟩ r_ (Rec.fits_mono hr_ ((fun w hw => hB.sat hw) w hw).le_all) (Sat.all w) hz3)) ?_
  refine va rfl rfl rfl (q_not rfl rfl) ?_
  refine va rfl rfl rfl (q_assign (v := .bool (!z2)) rfl (by kernel_rfl)) ?_
  refine WR.nil ?_
  change WC _ _ _ _ _ _
  refine WC.ret ?_
  intro w hw
  obtain rfl := Option.some.inj h
  subst hF
  exact end_e (is := [1]) (by kernel_rfl) hw rfl ⟨rfl, rfl, trivial⟩
abbrev r_slices_IndexFunc_api_Rec_api_Rec_l1 (gf_0 : Nat) (f_0v0 : Int) (f_0v1 : Int) (r : Int) (U : List Rowb) (Γ : Gh) (v : Value) : Prop := v = .int .i64 r ∧ U = [[(gf_0, .cells #[.int .i64 f_0v0, .int .i64 f_0v1] 100 (0, 0))]] ∧ I64 r ∧ True
set_option maxRecDepth 100000 in
set_option maxHeartbeats 400000 in
theorem t_slices_IndexFunc_api_Rec_api_Rec_l1 {Γ : Gh} {w0 : World} {B : Gh} {As_ : Option Addr} {cs_ : Nat} {s_ : List Rec} (hs_ : Sl recT B As_ s_) (hs_c : s_.length ≤ cs_) {gf_0 : Nat} (f_0v0 : Int) (hf_0v0 : I64 f_0v0) (f_0v1 : Int) (hf_0v1 : I64 f_0v1) (hp : Pre [[(gf_0, .cells #[.int .i64 f_0v0, .int .i64 f_0v1] 100 (0, 0))]] Γ w0) (hpB : Pre [[(gf_0, .cells #[.int .i64 f_0v0, .int .i64 f_0v1] 100 (0, 0))]] B w0) {r : Int} (h : m_slices_IndexFunc_api_Rec_api_Rec_l1 s_ f_0v0 f_0v1 = some r) : Calls Tryz.prog 86 #[.slice As_ s_.length cs_, .func (.func 63) #[] #[.pointer (some ⟨gf_0, 0, none⟩)]] w0 (Outc Γ [[(gf_0, .cells #[.int .i64 f_0v0, .int .i64 f_0v1] 100 (0, 0))]] w0 (r_slices_IndexFunc_api_Rec_api_Rec_l1 gf_0 f_0v0 f_0v1 r)) := by
  refine calls_of (N := 19) (rs := [4]) (args := [.slice As_ s_.length cs_, .func (.func 63) #[] #[.pointer (some ⟨gf_0, 0, none⟩)]]) Tryz.func86 rfl Tryz.ntmps86 Tryz.results86 rfl ?_
  obtain ⟨F, hF⟩ : ∃ F : Fm, F = ⟨ids [[(gf_0, .cells #[.int .i64 f_0v0, .int .i64 f_0v1] 100 (0, 0))]], w0, Γ⟩ := ⟨_, rfl⟩
  refine WC.here (C := CC F Γ [[(gf_0, .cells #[.int .i64 f_0v0, .int .i64 f_0v1] 100 (0, 0))]]) ?_ (hF ▸ hp.start)
  have hB : Lent F B := hF ▸ Lent.start hpB
  refine WC.rs ?_
  refine va rfl rfl rfl (q_assign (v := .int .i64 0) rfl (by kernel_rfl)) ?_
  refine WR.nil ?_
  change WC _ _ _ _ _ _
  refine WC.seq ?_
  refine WC.rs ?_
  refine va rfl rfl rfl (q_move (v := .slice As_ s_.length cs_) rfl (by kernel_rfl)) ?_
  refine va rfl rfl rfl (q_len_slice rfl Tryz.underlying23 rfl) ?_
  refine va rfl rfl rfl (q_move (v := .int .i64 0) rfl (by kernel_rfl)) ?_
  refine WR.nil ?_
  change WC _ _ _ _ _ _
  refine WC.block ?_
  refine WC.forI h (fun (i4 : Nat) (s : Unit) σ w => match s with | () => ∃ (Γ1 : Gh), slots σ [(0, .slice As_ s_.length cs_), (1, .func (.func 63) #[] #[.pointer (some ⟨gf_0, 0, none⟩)]), (7, .int .i64 ((s_.length : Nat) : Int)), (8, .int .i64 ((i4 : Nat) : Int))] ∧ CC F Γ1 [[(gf_0, .cells #[.int .i64 f_0v0, .int .i64 f_0v1] 100 (0, 0))]] w ∧ Gh.le Γ Γ1 ∧ True) ?_ ?_
  · skip
    intro w hw
    exact ⟨Γ, (sl_ (by kernel_rfl)), hw, (Gh.refl _), trivial⟩
  rintro f3 i4 ⟨⟩ σ w hi5 hlt6 hge7 ⟨Γ1, hsl, hw, hl2, -⟩
  refine Wpt.slots hsl ?_
  refine WC.here (C := CC F Γ1 [[(gf_0, .cells #[.int .i64 f_0v0, .int .i64 f_0v1] 100 (0, 0))]]) ?_ hw
  clear hw hsl
  refine WC.rs ?_
  refine va rfl rfl rfl (q_lss rfl rfl rfl) ?_
  refine WR.nil ?_
  change WC _ _ _ _ _ _
  refine WC.seq ?_
  refine WC.cond (b := (decide (((i4 : Nat) : Int) < ((s_.length : Nat) : Int)))) (by kernel_rfl) (fun hb8 => ?_) (fun hb8 => ?_)
  · skip
    have hl9 := ilt hb8
    have h := hlt6 hl9
    refine WC.skip ?_
    change WC _ _ _ _ _ _
    refine WC.seq ?_
    refine WC.block ?_
    refine WC.rs ?_
    refine va rfl rfl rfl (q_move (v := .int .i64 ((i4 : Nat) : Int)) rfl (by kernel_rfl)) ?_
    refine va rfl rfl rfl (q_assign (v := .int .i64 ((i4 : Nat) : Int)) rfl (by kernel_rfl)) ?_
    refine WR.nil ?_
    change WC _ _ _ _ _ _
    refine WC.rs ?_
    refine va rfl rfl rfl (q_move (v := .func (.func 63) #[] #[.pointer (some ⟨gf_0, 0, none⟩)]) rfl (by kernel_rfl)) ?_
    refine va rfl rfl rfl (q_move (v := .slice As_ s_.length cs_) rfl (by kernel_rfl)) ?_
    refine va rfl rfl rfl (q_move (v := .int .i64 ((i4 : Nat) : Int)) rfl (by kernel_rfl)) ?_
    refine va rfl rfl rfl (q_ixn (i := i4) Tryz.underlying23 Tryz.sizeOf70 rfl rfl rfl hl9 (hs_.some_ hl9)) ?_
    obtain ⟨A10, c11, hx12⟩ := hs_.recT_at i4
    refine va rfl rfl rfl (q_ldaS (c := 0) (vs := [.string (gt s_ i4).key, .slice A10 ((gt s_ i4).vers).length c11]) (fun w hw => hB.sat hw) (hx12 hl9).2 rfl Tryz.isAgg70 Tryz.sizeOf70 rfl rfl rfl) ?_
    obtain ⟨z13, hz14, h⟩ := bnd h
    refine e_callB (is := [0]) hB rfl rfl (call_run_fv (caps := #[.pointer (some ⟨gf_0, 0, none⟩)]) Tryz.call63 rfl (by kernel_rfl) (by kernel_rfl)) rfl (fun w Θ hp hpB hle hleB hR => t_pull_Pull_Tell_2_l1 (gt s_ i4) (Rec.fits_mono (hx12 hl9).1 hleB) f_0v0 hf_0v0 f_0v1 hf_0v1 hp hpB hz14) ?_
    rintro Γ15 U17 v18 hl16 ⟨rfl, rfl, _⟩
    change WR _ _ _ (CC F Γ15 [[(gf_0, .cells #[.int .i64 f_0v0, .int .i64 f_0v1] 100 (0, 0))]]) _ _ (upd _ 16 (.bool z13))
    refine WR.nil ?_
    change WC _ _ _ _ _ _
    refine WC.cif h (by kernel_rfl) (fun hb19 h => ?_) (fun hb19 h => ?_)
    · skip
      refine WC.rs ?_
      refine va rfl rfl rfl (q_move (v := .int .i64 ((i4 : Nat) : Int)) rfl (by kernel_rfl)) ?_
      refine va rfl rfl rfl (q_assign (v := .int .i64 ((i4 : Nat) : Int)) rfl (by kernel_rfl)) ?_
      refine WR.nil ?_
      change WC _ _ _ _ _ _
      refine WC.ret ?_
      intro w hw
      obtain rfl := Option.some.inj h
      subst hF
      exact end_e (is := [0]) (by kernel_rfl) hw rfl ⟨rfl, rfl, (ctr_r0 hl9 hs_.le), trivial⟩
    · skip
      refine WC.skip ?_
      change WC _ _ _ _ _ _
      refine WC.region ?_
      refine va rfl rfl rfl (q_add_r (r := ((i4 + 1 : Nat) : Int)) rfl rfl rfl (ctr_len hl9 hs_.le)) ?_
      refine va rfl rfl rfl (q_move (v := .int .i64 ((i4 + 1 : Nat) : Int)) rfl (by kernel_rfl)) ?_
      refine WR.nil ?_
      intro w hw
      exact ⟨hl9, (), h, Γ15, (sl_ (by kernel_rfl)), hw, (hl2.trans hl16), trivial⟩
  · skip
    have h := hge7 (ige hb8)
    refine WC.exit ?_
    change WC _ _ _ _ _ _
    refine WC.rs ?_
    refine va rfl rfl rfl (q_assign (v := .int .i64 (-1)) rfl (by kernel_rfl)) ?_
    refine WR.nil ?_
    change WC _ _ _ _ _ _
    refine WC.ret ?_
    intro w hw
    obtain rfl := Option.some.inj h
    subst hF
    exact end_e (is := [0]) (by kernel_rfl) hw rfl ⟨rfl, rfl, (show I64 (-1) by decide), trivial⟩
abbrev r_slices_ContainsFunc_api_Rec_api_Rec_l1 (gf_0 : Nat) (f_0v0 : Int) (f_0v1 : Int) (r : Bool) (U : List Rowb) (Γ : Gh) (v : Value) : Prop := v = .bool r ∧ U = [[(gf_0, .cells #[.int .i64 f_0v0, .int .i64 f_0v1] 100 (0, 0))]] ∧ True
set_option maxRecDepth 100000 in
set_option maxHeartbeats 400000 in
theorem t_slices_ContainsFunc_api_Rec_api_Rec_l1 {Γ : Gh} {w0 : World} {B : Gh} {As_ : Option Addr} {cs_ : Nat} {s_ : List Rec} (hs_ : Sl recT B As_ s_) (hs_c : s_.length ≤ cs_) {gf_0 : Nat} (f_0v0 : Int) (hf_0v0 : I64 f_0v0) (f_0v1 : Int) (hf_0v1 : I64 f_0v1) (hp : Pre [[(gf_0, .cells #[.int .i64 f_0v0, .int .i64 f_0v1] 100 (0, 0))]] Γ w0) (hpB : Pre [[(gf_0, .cells #[.int .i64 f_0v0, .int .i64 f_0v1] 100 (0, 0))]] B w0) {r : Bool} (h : m_slices_ContainsFunc_api_Rec_api_Rec_l1 s_ f_0v0 f_0v1 = some r) : Calls Tryz.prog 65 #[.slice As_ s_.length cs_, .func (.func 63) #[] #[.pointer (some ⟨gf_0, 0, none⟩)]] w0 (Outc Γ [[(gf_0, .cells #[.int .i64 f_0v0, .int .i64 f_0v1] 100 (0, 0))]] w0 (r_slices_ContainsFunc_api_Rec_api_Rec_l1 gf_0 f_0v0 f_0v1 r)) := by
  refine calls_of (N := 9) (rs := [4]) (args := [.slice As_ s_.length cs_, .func (.func 63) #[] #[.pointer (some ⟨gf_0, 0, none⟩)]]) Tryz.func65 rfl Tryz.ntmps65 Tryz.results65 rfl ?_
  obtain ⟨F, hF⟩ : ∃ F : Fm, F = ⟨ids [[(gf_0, .cells #[.int .i64 f_0v0, .int .i64 f_0v1] 100 (0, 0))]], w0, Γ⟩ := ⟨_, rfl⟩
  refine WC.here (C := CC F Γ [[(gf_0, .cells #[.int .i64 f_0v0, .int .i64 f_0v1] 100 (0, 0))]]) ?_ (hF ▸ hp.start)
  have hB : Lent F B := hF ▸ Lent.start hpB
  refine WC.rs ?_
  refine va rfl rfl rfl (q_assign (v := .bool false) rfl (by kernel_rfl)) ?_
  refine WR.nil ?_
  change WC _ _ _ _ _ _
  refine WC.rs ?_
  refine va rfl rfl rfl (q_move (v := .slice As_ s_.length cs_) rfl (by kernel_rfl)) ?_
  refine va rfl rfl rfl (q_move (v := .func (.func 63) #[] #[.pointer (some ⟨gf_0, 0, none⟩)]) rfl (by kernel_rfl)) ?_
  obtain ⟨z1, hz2, h⟩ := bnd h
  refine e_callB (is := [0]) hB rfl rfl (call_run Tryz.call86 rfl rfl (by kernel_rfl)) rfl (fun w Θ hp hpB hle hleB hR => t_slices_IndexFunc_api_Rec_api_Rec_l1 (hs_.mono hleB) hs_c f_0v0 hf_0v0 f_0v1 hf_0v1 hp hpB hz2) ?_
  rintro Γ3 U5 v6 hl4 ⟨rfl, rfl, hr7, _⟩
  change WR _ _ _ (CC F Γ3 [[(gf_0, .cells #[.int .i64 f_0v0, .int .i64 f_0v1] 100 (0, 0))]]) _ _ (upd _ 7 (.int .i64 z1))
  refine va rfl rfl rfl (q_geq rfl rfl rfl) ?_
  refine va rfl rfl rfl (q_assign (v := .bool (decide (0 ≤ z1))) rfl (by kernel_rfl)) ?_
  refine WR.nil ?_
  change WC _ _ _ _ _ _
  refine WC.ret ?_
  intro w hw
  obtain rfl := Option.some.inj h
  subst hF
  exact end_e (is := [0]) (by kernel_rfl) hw rfl ⟨rfl, rfl, trivial⟩
abbrev r_pull_Pull_Tell_l1 (gp_ : Nat) (ep_ : Nat) (r : Opull_Pull × Bool) (U : List Rowb) (Γ : Gh) (v : Value) : Prop := ∃ (rowp_' : Rowb), v = .bool r.2 ∧ U = [rowp_'] ∧ Opull_Pull.ob ep_ Γ gp_ rowp_' r.1 ∧ True
set_option maxRecDepth 100000 in
set_option maxHeartbeats 400000 in
theorem t_pull_Pull_Tell_l1 {Γ : Gh} {w0 : World} {B : Gh} {gp_ ep_ : Nat} {rowp_ : Rowb} {p_ : Opull_Pull} (hp_ : Opull_Pull.ob ep_ Γ gp_ rowp_ p_) {Apath : Option Addr} {cpath : Nat} {path : List Int} (hpath : Sl intT B Apath path) (hpathc : path.length ≤ cpath) {Ahashes : Option Addr} {chashes : Nat} {hashes : List Int} (hhashes : Sl u64T B Ahashes hashes) (hhashesc : hashes.length ≤ chashes) {Alist : Option Addr} {clist : Nat} {list : List Rec} (hlist : Sl recT B Alist list) (hlistc : list.length ≤ clist) (hp : Pre [rowp_] Γ w0) (hpB : Pre [rowp_] B w0) {r : Opull_Pull × Bool} (h : m_pull_Pull_Tell_l1 p_ path hashes list = some r) : Calls Tryz.prog 26 #[.pointer (some ⟨gp_, 0, none⟩), .slice Apath path.length cpath, .slice Ahashes hashes.length chashes, .slice Alist list.length clist] w0 (Outc Γ [rowp_] w0 (r_pull_Pull_Tell_l1 gp_ ep_ r)) := by
  refine calls_of (N := 106) (rs := [8]) (args := [.pointer (some ⟨gp_, 0, none⟩), .slice Apath path.length cpath, .slice Ahashes hashes.length chashes, .slice Alist list.length clist]) Tryz.func26 rfl Tryz.ntmps26 Tryz.results26 rfl ?_
  obtain ⟨F, hF⟩ : ∃ F : Fm, F = ⟨ids [rowp_], w0, Γ⟩ := ⟨_, rfl⟩
  refine WC.here (C := CC F Γ [rowp_]) ?_ (hF ▸ hp.start)
  have hB : Lent F B := hF ▸ Lent.start hpB
  refine WC.rs ?_
  refine va rfl rfl rfl (q_assign (v := .bool false) rfl (by kernel_rfl)) ?_
  refine WR.nil ?_
  change WC _ _ _ _ _ _
  refine WC.rs ?_
  refine va rfl rfl rfl (q_build' (v := .agg #[.int .i64 (-1), .int .i64 (-1)]) rfl (bargs2 rfl rfl) (fun w => by kernel_rfl)) ?_
  refine e_alloc Tryz.zeroValue100 rfl rfl rfl rfl ?_
  intro g1
  refine e_st (i := 0) (v := .agg #[.int .i64 (-1), .int .i64 (-1)]) (new := #[.int .i64 (-1), .int .i64 (-1)]) rfl Tryz.sizeOf100 rfl rfl rfl rfl (by kernel_rfl) rfl rfl rfl rfl ?_
  refine WR.nil ?_
  change WC _ _ _ _ _ _
  refine WC.seq ?_
  refine WC.rs ?_
  refine va rfl rfl rfl (q_move (v := .slice Apath path.length cpath) rfl (by kernel_rfl)) ?_
  refine va rfl rfl rfl (q_len_slice rfl Tryz.underlying24 rfl) ?_
  refine va rfl rfl rfl (q_gtr rfl rfl rfl) ?_
  refine va rfl rfl rfl (q_move (v := .bool (decide (2 < ((path.length : Nat) : Int)))) rfl (by kernel_rfl)) ?_
  refine vg0 rfl rfl rfl rfl rfl (fun hg2 => QV.qo (q_move (v := .slice Apath path.length cpath) rfl (by kernel_rfl))) ?_
  obtain ⟨z4, hz5, h⟩ := bnd h
  refine vg0 rfl rfl rfl rfl rfl (fun hg3 => (q_call (call_run Tryz.call50 rfl rfl (args2 (gu hg3 rfl) rfl)) (fun w hw => t_slices_ContainsFunc_int_int_s1 (Γ := Gh.all w) (hpath.mono ((fun w hw => hB.sat hw) w hw).le_all) hpathc (Sat.all w) (gc_of hz5 hg3)))) ?_
  refine va rfl rfl rfl (q_pick rfl rfl (pk_or' (g := (decide (2 < ((path.length : Nat) : Int)))) (y := z4))) ?_
  refine WR.nil ?_
  change WC _ _ _ _ _ _
  refine WC.cif h (by kernel_rfl) (fun hb6 h => ?_) (fun hb6 h => ?_)
  · skip
    refine WC.rs ?_
    refine va rfl rfl rfl (q_assign (v := .bool false) rfl (by kernel_rfl)) ?_
    refine WR.nil ?_
    change WC _ _ _ _ _ _
    refine WC.ret ?_
    intro w hw
    obtain rfl := Option.some.inj h
    subst hF
    exact end_e (is := [1]) (by kernel_rfl) hw rfl ⟨rowp_, rfl, rfl, hp_, trivial⟩
  · skip
    refine WC.skip ?_
    change WC _ _ _ _ _ _
    refine WC.rs ?_
    have ho7 : Own intT Γ 100 [(g1, .cells #[.int .i64 (-1), .int .i64 (-1)] 100 (0, 0))] (some ⟨g1, 0, none⟩) 2 [(-1), (-1)] := Own.of_blockL (T := intT) (ys := [(-1), (-1)]) [[.int .i64 (-1)], [.int .i64 (-1)]] rfl (show 2 ≤ lim by decide) (show Ty.rd intT Γ [.int .i64 (-1)] (-1) ∧ Ty.rd intT Γ [.int .i64 (-1)] (-1) ∧ True from ⟨⟨rfl, (show I64 (-1) by decide)⟩, ⟨rfl, (show I64 (-1) by decide)⟩, trivial⟩)
    refine va rfl rfl rfl (q_slarr Tryz.underlying100 Tryz.sizeOf3 rfl rfl) ?_
    refine va rfl rfl rfl (q_move (v := .slice Apath path.length cpath) rfl (by kernel_rfl)) ?_
    refine e_copy (T := intT) (xs := [(-1), (-1)]) (ys := path) (i := 0) Tryz.underlying24 (by kernel_rfl) rfl rfl rfl rfl rfl rfl rfl ho7 rfl (fun w hw => src_slS (Γ := Γ) (fun w hw => hB.sat hw) (fun _ _ h => h) hpath hw) ?_
    intro row8 ho9
    refine WR.nil ?_
    change WC _ _ _ _ _ _
    refine WC.seq ?_
    have hq := hp_
    obtain ⟨g1_10, r1_10, A3_10, c3_10, A4_10, c4_10, r4_10, g5_10, r5_10, hrow_10, ho0_10, ho1_10, ho2_10, ho3_10, ho4_10, ho5_10, -⟩ := hq
    intro w hw; have hw := hw.unfold (i := 1) rfl hrow_10
    refine WC.here (C := CC F Γ [[(gp_, .cells #[.int .i64 p_.id, .pointer (some ⟨g1_10, 0, none⟩), .bool p_.begun, .slice A3_10 p_.vec.length c3_10, .slice A4_10 p_.wants.length c4_10, .pointer (some ⟨g5_10, 0, none⟩)] ep_ (0, 0))], r1_10, r4_10, r5_10, row8]) ?_ hw
    clear hw
    refine WC.dr (by kernel_rfl) (by kernel_rfl) (fun w hw => hw.drawn _) ?_
    refine wa rfl rfl rfl (q_move (v := .pointer (some ⟨gp_, 0, none⟩)) rfl (by kernel_rfl)) ?_
    refine wa rfl rfl rfl (q_nil (A := some ⟨gp_, 0, none⟩) rfl rfl rfl) ?_
    refine wa rfl rfl rfl (q_fl 4 fld_97_4 rfl rfl rfl) ?_
    refine wa rfl rfl rfl (q_ldl (i := 0) (v := .slice A4_10 p_.wants.length c4_10) rfl rfl Tryz.isAgg95 rfl rfl) ?_
    have hq11 := gts2 (xs := (List.take [(-1), (-1)].length path ++ List.drop path.length [(-1), (-1)])) ((copy_len _ _))
    refine wa rfl rfl rfl (q_ldoa (i := 4) (c := 0) (vs := [.int .i64 (gt (List.take [(-1), (-1)].length path ++ List.drop path.length [(-1), (-1)]) 0), .int .i64 (gt (List.take [(-1), (-1)].length path ++ List.drop path.length [(-1), (-1)]) 1)]) rfl (Own.all_ (k := .i64) intT_cs rfl ho9) rfl Tryz.isAgg100 Tryz.sizeOf100 rfl (by rw [hq11]; rfl)) ?_
    obtain ⟨z12, hz13, h⟩ := bnd h
    refine wc rfl rfl rfl (q_call (call_run Tryz.call61 rfl rfl (by kernel_rfl)) (fun w hw => t_slices_Index_pull_way_pull_way (Γ := Gh.all w) (ho4_10.sl hw.sat.le_all (hw.ra 2 rfl)) ho4_10.capz (⟨(gt (List.take [(-1), (-1)].length path ++ List.drop path.length [(-1), (-1)]) 0), (gt (List.take [(-1), (-1)].length path ++ List.drop path.length [(-1), (-1)]) 1)⟩ : Dpull_way) ⟨((ho9.intT_at (i := 0) (lt_len ((copy_len _ _)) (by decide))).1), ((ho9.intT_at (i := 1) (lt_len ((copy_len _ _)) (by decide))).1)⟩ (Sat.all w) hz13)) ?_
    refine wa rfl rfl rfl (q_assign (v := .int .i64 z12) rfl (by kernel_rfl)) ?_
    refine WQ.nil ?_
    change WC _ _ _ _ _ _
    refine WC.seq ?_
    refine WC.rs ?_
    refine va rfl rfl rfl (q_move (v := .int .i64 z12) rfl (by kernel_rfl)) ?_
    refine va rfl rfl rfl (q_lss rfl rfl rfl) ?_
    refine WR.nil ?_
    change WC _ _ _ _ _ _
    refine WC.cif h (by kernel_rfl) (fun hb14 h => ?_) (fun hb14 h => ?_)
    · skip
      refine WC.rs ?_
      refine va rfl rfl rfl (q_assign (v := .bool false) rfl (by kernel_rfl)) ?_
      refine WR.nil ?_
      change WC _ _ _ _ _ _
      refine WC.ret ?_
      intro w hw
      have hw := hw.fold (is := [0, 0, 0, 0]) rfl hrow_10
      obtain rfl := Option.some.inj h
      subst hF
      exact end_e (is := [0]) (by kernel_rfl) hw rfl ⟨rowp_, rfl, rfl, hp_, trivial⟩
    · skip
      refine WC.skip ?_
      change WC _ _ _ _ _ _
      refine WC.seq ?_
      refine WC.rs ?_
      refine va rfl rfl rfl (q_ixan (i := 1) Tryz.underlying100 Tryz.sizeOf3 rfl rfl rfl (by decide)) ?_
      refine va rfl rfl rfl (q_ldo (c := 0) (v := .int .i64 (gt (List.take [(-1), (-1)].length path ++ List.drop path.length [(-1), (-1)]) 1)) (i := 4) rfl (ho9.intT_at (ltq (by decide) (copy_len _ _).symm)).2 rfl Tryz.isAgg3 rfl rfl) ?_
      refine va rfl rfl rfl (q_lss rfl rfl rfl) ?_
      refine WR.nil ?_
      change WC _ _ _ _ _ _
      refine WC.cif h (by kernel_rfl) (fun hb16 h => ?_) (fun hb16 h => ?_)
      · skip
        refine WC.rs ?_
        refine va rfl rfl rfl (q_move (v := .pointer (some ⟨gp_, 0, none⟩)) rfl (by kernel_rfl)) ?_
        refine va rfl rfl rfl (q_move (v := .pointer (some ⟨gp_, 0, none⟩)) rfl (by kernel_rfl)) ?_
        refine va rfl rfl rfl (q_nil (A := some ⟨gp_, 0, none⟩) rfl rfl rfl) ?_
        refine va rfl rfl rfl (q_fl 4 fld_97_4 rfl rfl rfl) ?_
        refine va rfl rfl rfl (q_ldl (i := 0) (v := .slice A4_10 p_.wants.length c4_10) rfl rfl Tryz.isAgg95 rfl rfl) ?_
        refine va rfl rfl rfl (q_move (v := .int .i64 z12) rfl (by kernel_rfl)) ?_
        refine va rfl rfl rfl (q_move (v := .int .i64 z12) rfl (by kernel_rfl)) ?_
        refine va rfl rfl rfl (q_add rfl rfl rfl) ?_
        obtain ⟨hk17, h⟩ := chk_some h
        obtain ⟨z18, hz19, h⟩ := bnd h
        refine e_call (is := [2]) rfl rfl (call_run Tryz.call62 rfl rfl (by kernel_rfl)) rfl (fun w hp => t_slices_Delete_pull_way_pull_way ho4_10 z12 (i64b_of hk17) (w64 (z12 + 1)) (w64_r _) hp hz19) ?_
        rintro Γ20 U22 v23 hl21 ⟨A24, c25, row26, rfl, rfl, hr27, _⟩
        change WR _ _ _ (CC F Γ20 [row26, [(gp_, .cells #[.int .i64 p_.id, .pointer (some ⟨g1_10, 0, none⟩), .bool p_.begun, .slice A3_10 p_.vec.length c3_10, .slice A4_10 p_.wants.length c4_10, .pointer (some ⟨g5_10, 0, none⟩)] ep_ (0, 0))], r1_10, r5_10, row8]) _ _ (upd _ 46 (.slice A24 z18.length c25))
        refine va rfl rfl rfl (q_nil (A := some ⟨gp_, 0, none⟩) rfl rfl rfl) ?_
        refine va rfl rfl rfl (q_fl 4 fld_97_4 rfl rfl rfl) ?_
        refine e_st (i := 1) (v := .slice A24 z18.length c25) (new := #[.int .i64 p_.id, .pointer (some ⟨g1_10, 0, none⟩), .bool p_.begun, .slice A3_10 p_.vec.length c3_10, .slice A24 z18.length c25, .pointer (some ⟨g5_10, 0, none⟩)]) rfl Tryz.sizeOf95 rfl rfl rfl rfl (by kernel_rfl) rfl rfl rfl rfl ?_
        refine WR.nil ?_
        change WC _ _ _ _ _ _
        refine WC.seq ?_
        refine WC.seq ?_
        intro w hw; have h028 := hw.le
        refine WC.here (C := CC F Γ20 [row26, [(gp_, .cells #[.int .i64 p_.id, .pointer (some ⟨g1_10, 0, none⟩), .bool p_.begun, .slice A3_10 p_.vec.length c3_10, .slice A24 z18.length c25, .pointer (some ⟨g5_10, 0, none⟩)] ep_ (0, 0))], r1_10, r5_10, row8]) ?_ hw; clear hw
        refine WC.held (CC F Γ20 [[(gp_, .cells #[.int .i64 p_.id, .pointer (some ⟨g1_10, 0, none⟩), .bool p_.begun, .slice A3_10 p_.vec.length c3_10, .slice A24 z18.length c25, .pointer (some ⟨g5_10, 0, none⟩)] ep_ (0, 0))], row8]) (by kernel_rfl) (fun w hw => hw.drawn _) ?_
        change WH _ _ _ _ (CC F Γ20 [row26, [(gp_, .cells #[.int .i64 p_.id, .pointer (some ⟨g1_10, 0, none⟩), .bool p_.begun, .slice A3_10 p_.vec.length c3_10, .slice A24 z18.length c25, .pointer (some ⟨g5_10, 0, none⟩)] ep_ (0, 0))], r1_10, r5_10, row8]) _ 12 #[false, false, false, false, false, false, false, false, false, false, false, false] _
        refine ht (i := 0) rfl (by kernel_rfl) rfl rfl rfl (fun w hw => hw.back (Gh.refl _) h028 (.cons _ (.cons_cons _ (.cons _ (.cons _ (.cons_cons _ .slnil)))))) (q_move (v := .pointer (some ⟨gp_, 0, none⟩)) rfl (by kernel_rfl)) ?_
        refine ht (i := 1) rfl (by kernel_rfl) rfl rfl rfl (fun w hw => hw.back (Gh.refl _) h028 (.cons _ (.cons_cons _ (.cons _ (.cons _ (.cons_cons _ .slnil)))))) (q_nil (A := some ⟨gp_, 0, none⟩) rfl rfl rfl) ?_
        refine ht (i := 2) rfl (by kernel_rfl) rfl rfl rfl (fun w hw => hw.back (Gh.refl _) h028 (.cons _ (.cons_cons _ (.cons _ (.cons _ (.cons_cons _ .slnil)))))) (q_fl 1 fld_97_1 rfl rfl rfl) ?_
        refine ht (i := 3) rfl (by kernel_rfl) rfl rfl rfl (fun w hw => hw.back (Gh.refl _) h028 (.cons _ (.cons_cons _ (.cons _ (.cons _ (.cons_cons _ .slnil)))))) (q_ldl (i := 0) (v := .pointer (some ⟨g1_10, 0, none⟩)) rfl rfl Tryz.isAgg79 rfl rfl) ?_
        refine ht (i := 4) rfl (by kernel_rfl) rfl rfl rfl (fun w hw => hw.back (Gh.refl _) h028 (.cons _ (.cons_cons _ (.cons _ (.cons _ (.cons_cons _ .slnil)))))) (q_ixan (i := 0) Tryz.underlying100 Tryz.sizeOf3 rfl rfl rfl (by decide)) ?_
        refine ht (i := 5) rfl (by kernel_rfl) rfl rfl rfl (fun w hw => hw.back (Gh.refl _) h028 (.cons _ (.cons_cons _ (.cons _ (.cons _ (.cons_cons _ .slnil)))))) (q_ldo (c := 0) (v := .int .i64 (gt (List.take [(-1), (-1)].length path ++ List.drop path.length [(-1), (-1)]) 0)) (i := 1) rfl ((ho9.mono hl21).intT_at (ltq (by decide) (copy_len _ _).symm)).2 rfl Tryz.isAgg3 rfl rfl) ?_
        refine ht (i := 8) rfl (by kernel_rfl) rfl rfl rfl (fun w hw => hw.back (Gh.refl _) h028 (.cons _ (.cons_cons _ (.cons _ (.cons _ (.cons_cons _ .slnil)))))) (q_move (v := .slice Ahashes hashes.length chashes) rfl (by kernel_rfl)) ?_
        refine ht (i := 11) rfl (by kernel_rfl) rfl rfl rfl (fun w hw => hw.back (Gh.refl _) h028 (.cons _ (.cons_cons _ (.cons _ (.cons _ (.cons_cons _ .slnil)))))) (q_move (v := .int .i64 0) rfl (by kernel_rfl)) ?_
        refine WH.lone (i := 6) (by kernel_rfl) rfl ?_
        refine e_buildSlice (cs := #[.int .i64 (gt (List.take [(-1), (-1)].length path ++ List.drop path.length [(-1), (-1)]) 0)]) (e := 3) rfl rfl rfl rfl (fun w => by kernel_rfl) ?_
        intro g29
        refine WR.nil ?_
        refine WH.next (fun w hw => hw.back (Gh.refl _) h028 (.cons _ (.cons _ (.cons_cons _ (.cons _ (.cons _ (.cons_cons _ .slnil))))))) ?_
        refine WH.lone (i := 7) (by kernel_rfl) rfl ?_
        have ho30 : Own intT Γ20 3 [(g29, .cells #[.int .i64 (gt (List.take [(-1), (-1)].length path ++ List.drop path.length [(-1), (-1)]) 0)] 3 (0, 0))] (some ⟨g29, 0, none⟩) 1 [(gt (List.take [(-1), (-1)].length path ++ List.drop path.length [(-1), (-1)]) 0)] := Own.of_blockL (T := intT) (ys := [(gt (List.take [(-1), (-1)].length path ++ List.drop path.length [(-1), (-1)]) 0)]) [[.int .i64 (gt (List.take [(-1), (-1)].length path ++ List.drop path.length [(-1), (-1)]) 0)]] rfl (show 1 ≤ lim by decide) (show Ty.rd intT Γ20 [.int .i64 (gt (List.take [(-1), (-1)].length path ++ List.drop path.length [(-1), (-1)]) 0)] (gt (List.take [(-1), (-1)].length path ++ List.drop path.length [(-1), (-1)]) 0) ∧ True from ⟨⟨rfl, ((ho9.mono hl21).intT_at (ltq (by decide) (copy_len _ _).symm)).1⟩, trivial⟩)
        have hc35 := ho30.capz
        intro w hw; obtain ⟨Γ31, hw, hl32, hr33⟩ := hw.seal (i := 0) rfl; have hs34 := ho30.sl hl32 hr33
        refine WR.here (C := CC F Γ31 [[], row26, [(gp_, .cells #[.int .i64 p_.id, .pointer (some ⟨g1_10, 0, none⟩), .bool p_.begun, .slice A3_10 p_.vec.length c3_10, .slice A24 z18.length c25, .pointer (some ⟨g5_10, 0, none⟩)] ep_ (0, 0))], r1_10, r5_10, row8]) ?_ hw
        clear hw
        obtain ⟨z36, hz37, h⟩ := bnd h
        refine e_call (is := [3]) rfl rfl (call_run Tryz.call52 rfl rfl (by kernel_rfl)) rfl (fun w hp => t_tree_Tree_Kids t_HashC (ho1_10.mono (hl21.trans hl32)) hs34 hc35 (fun p hp => nomatch hp) hp hz37) ?_
        rintro Γ38 U40 v41 hl39 ⟨row42, A44, c45, row46, rfl, rfl, hr43, hr47, hz48, _⟩
        change WR _ _ _ (CC F Γ38 [row42, row46, [], row26, [(gp_, .cells #[.int .i64 p_.id, .pointer (some ⟨g1_10, 0, none⟩), .bool p_.begun, .slice A3_10 p_.vec.length c3_10, .slice A24 z18.length c25, .pointer (some ⟨g5_10, 0, none⟩)] ep_ (0, 0))], r5_10, row8]) _ _ (upd _ 56 (.slice A44 z36.2.length c45))
        refine WR.nil ?_
        refine WH.next (fun w hw => hw.back (hl32.trans hl39) h028 (.cons _ (.cons _ (.cons _ (.cons _ (.cons_cons _ (.cons _ (.cons_cons _ .slnil)))))))) ?_
        refine WH.lone (i := 9) (by kernel_rfl) rfl ?_
        have hc53 := hr47.capz
        intro w hw; obtain ⟨Γ49, hw, hl50, hr51⟩ := hw.seal (i := 1) rfl; have hs52 := hr47.sl hl50 hr51
        refine WR.here (C := CC F Γ49 [row42, [], [], row26, [(gp_, .cells #[.int .i64 p_.id, .pointer (some ⟨g1_10, 0, none⟩), .bool p_.begun, .slice A3_10 p_.vec.length c3_10, .slice A24 z18.length c25, .pointer (some ⟨g5_10, 0, none⟩)] ep_ (0, 0))], r5_10, row8]) ?_ hw
        clear hw
        obtain ⟨z54, hz55, h⟩ := bnd h
        refine e_callB (is := []) hB rfl rfl (call_run Tryz.call58 rfl rfl (by kernel_rfl)) rfl (fun w Θ hp hpB hle hleB hR => t_tree_Differ_l1 hs52 hc53 (hhashes.mono hleB) hhashesc hp hpB hz55) ?_
        rintro Γ56 U58 v59 hl57 ⟨A60, c61, row62, rfl, rfl, hr63, _⟩
        change WR _ _ _ (CC F Γ56 [row62, row42, [], [], row26, [(gp_, .cells #[.int .i64 p_.id, .pointer (some ⟨g1_10, 0, none⟩), .bool p_.begun, .slice A3_10 p_.vec.length c3_10, .slice A24 z18.length c25, .pointer (some ⟨g5_10, 0, none⟩)] ep_ (0, 0))], r5_10, row8]) _ _ (upd _ 58 (.slice A60 z54.length c61))
        refine WR.nil ?_
        refine WH.next (fun w hw => hw.back (((hl32.trans hl39).trans hl50).trans hl57) h028 (.cons _ (.cons _ (.cons _ (.cons _ (.cons _ (.cons_cons _ (.cons _ (.cons_cons _ .slnil))))))))) ?_
        refine WH.lone (i := 10) (by kernel_rfl) rfl ?_
        refine va rfl rfl rfl (q_len_slice rfl Tryz.underlying24 rfl) ?_
        refine WR.nil ?_
        refine WH.next (fun w hw => hw.back (((hl32.trans hl39).trans hl50).trans hl57) h028 (.cons _ (.cons _ (.cons _ (.cons _ (.cons _ (.cons_cons _ (.cons _ (.cons_cons _ .slnil))))))))) ?_
        refine WH.done (by kernel_rfl) ?_
        change WC _ _ _ _ _ _
        refine WC.block ?_
        obtain ⟨row_64, hrow_64, hob_64⟩ : ∃ rw : Rowb, rw = ([[(gp_, .cells #[.int .i64 p_.id, .pointer (some ⟨g1_10, 0, none⟩), .bool p_.begun, .slice A3_10 p_.vec.length c3_10, .slice A24 z18.length c25, .pointer (some ⟨g5_10, 0, none⟩)] ep_ (0, 0))], row42, row26, r5_10] : List Rowb).flatten ∧ Opull_Pull.ob ep_ Γ56 gp_ rw (⟨p_.id, z36.1, p_.begun, p_.vec, z18, p_.staged⟩ : Opull_Pull) := ⟨_, rfl, g1_10, row42, A3_10, c3_10, A24, c25, row26, g5_10, r5_10, rfl, ho0_10, (hr43.mono (hl50.trans hl57)), ho2_10, (ho3_10.mono ((((hl21.trans hl32).trans hl39).trans hl50).trans hl57)), (hr27.mono (((hl32.trans hl39).trans hl50).trans hl57)), (ho5_10.mono ((((hl21.trans hl32).trans hl39).trans hl50).trans hl57)), trivial⟩
        intro w hw; have hw := hw.fold (is := [5, 1, 3, 3]) rfl hrow_64
        refine WC.here (C := CC F Γ56 [row_64, row62, [], [], row8]) ?_ hw
        clear hw
        refine WC.forI h (fun (i69 : Nat) (o65 : Opull_Pull) σ w => ∃ (row66 : Rowb), slots σ [(0, .pointer (some ⟨gp_, 0, none⟩)), (9, .pointer (some ⟨g1, 0, none⟩)), (58, .slice A60 z54.length c61), (59, .int .i64 ((z54.length : Nat) : Int)), (60, .int .i64 ((i69 : Nat) : Int))] ∧ CC F Γ56 [row66, row62, row8] w ∧ Opull_Pull.ob ep_ Γ56 gp_ row66 o65 ∧ True) ?_ ?_
        · skip
          intro w hw
          exact ⟨row_64, (sl_ (by kernel_rfl)), (hw.only (is := [0, 0, 2]) rfl), hob_64, trivial⟩
        rintro f68 i69 o65 σ w hi70 hlt71 hge72 ⟨row66, hsl, hw, ho67, -⟩
        refine Wpt.slots hsl ?_
        refine WC.here (C := CC F Γ56 [row66, row62, row8]) ?_ hw
        clear hw hsl
        refine WC.rs ?_
        refine va rfl rfl rfl (q_lss rfl rfl rfl) ?_
        refine WR.nil ?_
        change WC _ _ _ _ _ _
        refine WC.seq ?_
        refine WC.cond (b := (decide (((i69 : Nat) : Int) < ((z54.length : Nat) : Int)))) (by kernel_rfl) (fun hb73 => ?_) (fun hb73 => ?_)
        · skip
          have hl74 := ilt hb73
          have h := hlt71 hl74
          refine WC.skip ?_
          change WC _ _ _ _ _ _
          refine WC.seq ?_
          refine WC.block ?_
          refine WC.rs ?_
          refine va rfl rfl rfl (q_ixn (i := i69) Tryz.underlying24 Tryz.sizeOf3 rfl rfl rfl hl74 (hr63.some_ hl74)) ?_
          refine va rfl rfl rfl (q_ldo (c := 0) (v := .int .i64 (gt z54 i69)) (i := 1) rfl (hr63.intT_at hl74).2 rfl Tryz.isAgg3 rfl rfl) ?_
          refine va rfl rfl rfl (q_assign (v := .int .i64 (gt z54 i69)) rfl (by kernel_rfl)) ?_
          refine WR.nil ?_
          change WC _ _ _ _ _ _
          intro w hw; have h075 := hw.le
          refine WC.here (C := CC F Γ56 [row66, row62, row8]) ?_ hw; clear hw
          refine WC.held (CC F Γ56 [row62, row8]) (by kernel_rfl) (fun w hw => hw.drawn _) ?_
          change WH _ _ _ _ (CC F Γ56 [row66, row62, row8]) _ 14 #[false, false, false, false, false, false, false, false, false, false, false, false, false, false] _
          refine ht (i := 0) rfl (by kernel_rfl) rfl rfl rfl (fun w hw => hw.back (Gh.refl _) h075 (.cons _ (.cons_cons _ (.cons_cons _ .slnil)))) (q_move (v := .pointer (some ⟨gp_, 0, none⟩)) rfl (by kernel_rfl)) ?_
          refine ht (i := 1) rfl (by kernel_rfl) rfl rfl rfl (fun w hw => hw.back (Gh.refl _) h075 (.cons _ (.cons_cons _ (.cons_cons _ .slnil)))) (q_move (v := .pointer (some ⟨gp_, 0, none⟩)) rfl (by kernel_rfl)) ?_
          refine ht (i := 2) rfl (by kernel_rfl) rfl rfl rfl (fun w hw => hw.back (Gh.refl _) h075 (.cons _ (.cons_cons _ (.cons_cons _ .slnil)))) (q_nil (A := some ⟨gp_, 0, none⟩) rfl rfl rfl) ?_
          refine ht (i := 3) rfl (by kernel_rfl) rfl rfl rfl (fun w hw => hw.back (Gh.refl _) h075 (.cons _ (.cons_cons _ (.cons_cons _ .slnil)))) (q_fl 4 fld_97_4 rfl rfl rfl) ?_
          refine ht (i := 5) rfl (by kernel_rfl) rfl rfl rfl (fun w hw => hw.back (Gh.refl _) h075 (.cons _ (.cons_cons _ (.cons_cons _ .slnil)))) (q_ixan (i := 0) Tryz.underlying100 Tryz.sizeOf3 rfl rfl rfl (by decide)) ?_
          refine ht (i := 6) rfl (by kernel_rfl) rfl rfl rfl (fun w hw => hw.back (Gh.refl _) h075 (.cons _ (.cons_cons _ (.cons_cons _ .slnil)))) (q_ldo (c := 0) (v := .int .i64 (gt (List.take [(-1), (-1)].length path ++ List.drop path.length [(-1), (-1)]) 0)) (i := 1) rfl ((ho9.mono ((((hl21.trans hl32).trans hl39).trans hl50).trans hl57)).intT_at (ltq (by decide) (copy_len _ _).symm)).2 rfl Tryz.isAgg3 rfl rfl) ?_
          refine ht (i := 7) rfl (by kernel_rfl) rfl rfl rfl (fun w hw => hw.back (Gh.refl _) h075 (.cons _ (.cons_cons _ (.cons_cons _ .slnil)))) (q_move (v := .int .i64 (gt z54 i69)) rfl (by kernel_rfl)) ?_
          refine ht (i := 8) rfl (by kernel_rfl) rfl rfl rfl (fun w hw => hw.back (Gh.refl _) h075 (.cons _ (.cons_cons _ (.cons_cons _ .slnil)))) (q_build' (v := .agg #[.int .i64 (gt (List.take [(-1), (-1)].length path ++ List.drop path.length [(-1), (-1)]) 0), .int .i64 (gt z54 i69)]) rfl (bargs2 rfl rfl) (fun w => by kernel_rfl)) ?_
          refine WH.each (l := [4, 9]) (by kernel_rfl) (by simp) ?_
          intro i hi; simp only [List.mem_cons, List.not_mem_nil, or_false] at hi
          rcases hi with rfl | rfl
          · refine ⟨_, rfl, ?_⟩
            have hq := ho67
            obtain ⟨g1_76, r1_76, A3_76, c3_76, A4_76, c4_76, r4_76, g5_76, r5_76, hrow_76, ho0_76, ho1_76, ho2_76, ho3_76, ho4_76, ho5_76, -⟩ := hq
            intro w hw; have hw := hw.unfold (i := 0) rfl hrow_76
            refine WR.here (C := CC F Γ56 [[(gp_, .cells #[.int .i64 o65.id, .pointer (some ⟨g1_76, 0, none⟩), .bool o65.begun, .slice A3_76 o65.vec.length c3_76, .slice A4_76 o65.wants.length c4_76, .pointer (some ⟨g5_76, 0, none⟩)] ep_ (0, 0))], r1_76, r4_76, r5_76, row62, row8]) ?_ hw
            clear hw
            refine va rfl rfl rfl (q_ldl (i := 0) (v := .slice A4_76 o65.wants.length c4_76) rfl rfl Tryz.isAgg95 rfl rfl) ?_
            refine WR.nil ?_
            refine WH.next (fun w hw => hw.back (Gh.refl _) h075 (.cons _ (.cons _ (.cons _ (.cons _ (.cons_cons _ (.cons_cons _ .slnil))))))) ?_
            refine WH.lone (i := 9) (by kernel_rfl) rfl ?_
            refine e_buildSlice (cs := #[.int .i64 (gt (List.take [(-1), (-1)].length path ++ List.drop path.length [(-1), (-1)]) 0), .int .i64 (gt z54 i69)]) (e := 100) rfl rfl rfl rfl (fun w => by kernel_rfl) ?_
            intro g77
            refine WR.nil ?_
            refine WH.next (fun w hw => hw.back (Gh.refl _) h075 (.cons _ (.cons _ (.cons _ (.cons _ (.cons _ (.cons_cons _ (.cons_cons _ .slnil)))))))) ?_
            refine WH.lone (i := 10) (by kernel_rfl) rfl ?_
            obtain ⟨hk78, h⟩ := chk_some h
            refine e_append (T := dpull_wayT) (xs := o65.wants) (ys := [(⟨(gt (List.take [(-1), (-1)].length path ++ List.drop path.length [(-1), (-1)]) 0), (gt z54 i69)⟩ : Dpull_way)]) elem_95 (i := 3) rfl rfl rfl rfl rfl rfl rfl ho4_76 (of_decide_eq_true hk78) (fun w hw => src_one (T := dpull_wayT) (y := (⟨(gt (List.take [(-1), (-1)].length path ++ List.drop path.length [(-1), (-1)]) 0), (gt z54 i69)⟩ : Dpull_way)) (i := 0) rfl (by exact ⟨rfl, ⟨((ho9.mono ((((hl21.trans hl32).trans hl39).trans hl50).trans hl57)).intT_at (ltq (by decide) (copy_len _ _).symm)).1, (hr63.intT_at hl74).1⟩⟩) hw) ?_
            intro row79 A80 c81 ho82
            refine WR.nil ?_
            refine WH.next (fun w hw => hw.back (Gh.refl _) h075 (.cons _ (.cons _ (.cons _ (.cons _ (.cons _ (.cons_cons _ (.cons_cons _ .slnil)))))))) ?_
            refine ht (i := 11) rfl (by kernel_rfl) rfl rfl rfl (fun w hw => hw.back (Gh.refl _) h075 (.cons _ (.cons _ (.cons _ (.cons _ (.cons _ (.cons_cons _ (.cons_cons _ .slnil)))))))) (q_nil (A := some ⟨gp_, 0, none⟩) rfl rfl rfl) ?_
            refine ht (i := 12) rfl (by kernel_rfl) rfl rfl rfl (fun w hw => hw.back (Gh.refl _) h075 (.cons _ (.cons _ (.cons _ (.cons _ (.cons _ (.cons_cons _ (.cons_cons _ .slnil)))))))) (q_fl 4 fld_97_4 rfl rfl rfl) ?_
            refine WH.lone (i := 13) (by kernel_rfl) rfl ?_
            refine e_st (i := 1) (v := .slice A80 (o65.wants ++ [(⟨(gt (List.take [(-1), (-1)].length path ++ List.drop path.length [(-1), (-1)]) 0), (gt z54 i69)⟩ : Dpull_way)]).length c81) (new := #[.int .i64 o65.id, .pointer (some ⟨g1_76, 0, none⟩), .bool o65.begun, .slice A3_76 o65.vec.length c3_76, .slice A80 (o65.wants ++ [(⟨(gt (List.take [(-1), (-1)].length path ++ List.drop path.length [(-1), (-1)]) 0), (gt z54 i69)⟩ : Dpull_way)]).length c81, .pointer (some ⟨g5_76, 0, none⟩)]) rfl Tryz.sizeOf95 rfl rfl rfl rfl (by kernel_rfl) rfl rfl rfl rfl ?_
            refine WR.nil ?_
            refine WH.next (fun w hw => hw.back (Gh.refl _) h075 (.cons _ (.cons _ (.cons _ (.cons _ (.cons _ (.cons_cons _ (.cons_cons _ .slnil)))))))) ?_
            refine WH.done (by kernel_rfl) ?_
            change WC _ _ _ _ _ _
            refine WC.region ?_
            refine va rfl rfl rfl (q_add_r (r := ((i69 + 1 : Nat) : Int)) rfl rfl rfl (ctr_len hl74 hr63.le)) ?_
            refine va rfl rfl rfl (q_move (v := .int .i64 ((i69 + 1 : Nat) : Int)) rfl (by kernel_rfl)) ?_
            refine WR.nil ?_
            intro w hw
            obtain ⟨row_83, hrow_83, hob_83⟩ : ∃ rw : Rowb, rw = ([[(gp_, .cells #[.int .i64 o65.id, .pointer (some ⟨g1_76, 0, none⟩), .bool o65.begun, .slice A3_76 o65.vec.length c3_76, .slice A80 (o65.wants ++ [(⟨(gt (List.take [(-1), (-1)].length path ++ List.drop path.length [(-1), (-1)]) 0), (gt z54 i69)⟩ : Dpull_way)]).length c81, .pointer (some ⟨g5_76, 0, none⟩)] ep_ (0, 0))], r1_76, row79, r5_76] : List Rowb).flatten ∧ Opull_Pull.ob ep_ Γ56 gp_ rw (⟨o65.id, o65.own, o65.begun, o65.vec, (o65.wants ++ [(⟨(gt (List.take [(-1), (-1)].length path ++ List.drop path.length [(-1), (-1)]) 0), (gt z54 i69)⟩ : Dpull_way)]), o65.staged⟩ : Opull_Pull) := ⟨_, rfl, g1_76, r1_76, A3_76, c3_76, A80, c81, row79, g5_76, r5_76, rfl, ho0_76, ho1_76, ho2_76, ho3_76, ho82, ho5_76, trivial⟩
            have hw := hw.fold (is := [1, 1, 1, 1]) rfl hrow_83
            exact ⟨hl74, (⟨o65.id, o65.own, o65.begun, o65.vec, (o65.wants ++ [(⟨(gt (List.take [(-1), (-1)].length path ++ List.drop path.length [(-1), (-1)]) 0), (gt z54 i69)⟩ : Dpull_way)]), o65.staged⟩ : Opull_Pull), h, row_83, (sl_ (by kernel_rfl)), (hw.only (is := [0, 1, 1]) rfl), hob_83, trivial⟩
          · refine ⟨_, rfl, ?_⟩
            refine e_buildSlice (cs := #[.int .i64 (gt (List.take [(-1), (-1)].length path ++ List.drop path.length [(-1), (-1)]) 0), .int .i64 (gt z54 i69)]) (e := 100) rfl rfl rfl rfl (fun w => by kernel_rfl) ?_
            intro g76
            refine WR.nil ?_
            refine WH.next (fun w hw => hw.back (Gh.refl _) h075 (.cons _ (.cons _ (.cons_cons _ (.cons_cons _ .slnil))))) ?_
            refine WH.lone (i := 4) (by kernel_rfl) rfl ?_
            have hq := ho67
            obtain ⟨g1_77, r1_77, A3_77, c3_77, A4_77, c4_77, r4_77, g5_77, r5_77, hrow_77, ho0_77, ho1_77, ho2_77, ho3_77, ho4_77, ho5_77, -⟩ := hq
            intro w hw; have hw := hw.unfold (i := 1) rfl hrow_77
            refine WR.here (C := CC F Γ56 [[(gp_, .cells #[.int .i64 o65.id, .pointer (some ⟨g1_77, 0, none⟩), .bool o65.begun, .slice A3_77 o65.vec.length c3_77, .slice A4_77 o65.wants.length c4_77, .pointer (some ⟨g5_77, 0, none⟩)] ep_ (0, 0))], r1_77, r4_77, r5_77, [(g76, .cells #[.int .i64 (gt (List.take [(-1), (-1)].length path ++ List.drop path.length [(-1), (-1)]) 0), .int .i64 (gt z54 i69)] 100 (0, 0))], row62, row8]) ?_ hw
            clear hw
            refine va rfl rfl rfl (q_ldl (i := 0) (v := .slice A4_77 o65.wants.length c4_77) rfl rfl Tryz.isAgg95 rfl rfl) ?_
            refine WR.nil ?_
            refine WH.next (fun w hw => hw.back (Gh.refl _) h075 (.cons _ (.cons _ (.cons _ (.cons _ (.cons _ (.cons_cons _ (.cons_cons _ .slnil)))))))) ?_
            refine WH.lone (i := 10) (by kernel_rfl) rfl ?_
            obtain ⟨hk78, h⟩ := chk_some h
            refine e_append (T := dpull_wayT) (xs := o65.wants) (ys := [(⟨(gt (List.take [(-1), (-1)].length path ++ List.drop path.length [(-1), (-1)]) 0), (gt z54 i69)⟩ : Dpull_way)]) elem_95 (i := 2) rfl rfl rfl rfl rfl rfl rfl ho4_77 (of_decide_eq_true hk78) (fun w hw => src_one (T := dpull_wayT) (y := (⟨(gt (List.take [(-1), (-1)].length path ++ List.drop path.length [(-1), (-1)]) 0), (gt z54 i69)⟩ : Dpull_way)) (i := 4) rfl (by exact ⟨rfl, ⟨((ho9.mono ((((hl21.trans hl32).trans hl39).trans hl50).trans hl57)).intT_at (ltq (by decide) (copy_len _ _).symm)).1, (hr63.intT_at hl74).1⟩⟩) hw) ?_
            intro row79 A80 c81 ho82
            refine WR.nil ?_
            refine WH.next (fun w hw => hw.back (Gh.refl _) h075 (.cons _ (.cons _ (.cons _ (.cons _ (.cons _ (.cons_cons _ (.cons_cons _ .slnil)))))))) ?_
            refine ht (i := 11) rfl (by kernel_rfl) rfl rfl rfl (fun w hw => hw.back (Gh.refl _) h075 (.cons _ (.cons _ (.cons _ (.cons _ (.cons _ (.cons_cons _ (.cons_cons _ .slnil)))))))) (q_nil (A := some ⟨gp_, 0, none⟩) rfl rfl rfl) ?_
            refine ht (i := 12) rfl (by kernel_rfl) rfl rfl rfl (fun w hw => hw.back (Gh.refl _) h075 (.cons _ (.cons _ (.cons _ (.cons _ (.cons _ (.cons_cons _ (.cons_cons _ .slnil)))))))) (q_fl 4 fld_97_4 rfl rfl rfl) ?_
            refine WH.lone (i := 13) (by kernel_rfl) rfl ?_
            refine e_st (i := 0) (v := .slice A80 (o65.wants ++ [(⟨(gt (List.take [(-1), (-1)].length path ++ List.drop path.length [(-1), (-1)]) 0), (gt z54 i69)⟩ : Dpull_way)]).length c81) (new := #[.int .i64 o65.id, .pointer (some ⟨g1_77, 0, none⟩), .bool o65.begun, .slice A3_77 o65.vec.length c3_77, .slice A80 (o65.wants ++ [(⟨(gt (List.take [(-1), (-1)].length path ++ List.drop path.length [(-1), (-1)]) 0), (gt z54 i69)⟩ : Dpull_way)]).length c81, .pointer (some ⟨g5_77, 0, none⟩)]) rfl Tryz.sizeOf95 rfl rfl rfl rfl (by kernel_rfl) rfl rfl rfl rfl ?_
            refine WR.nil ?_
            refine WH.next (fun w hw => hw.back (Gh.refl _) h075 (.cons _ (.cons _ (.cons _ (.cons _ (.cons _ (.cons_cons _ (.cons_cons _ .slnil)))))))) ?_
            refine WH.done (by kernel_rfl) ?_
            change WC _ _ _ _ _ _
            refine WC.region ?_
            refine va rfl rfl rfl (q_add_r (r := ((i69 + 1 : Nat) : Int)) rfl rfl rfl (ctr_len hl74 hr63.le)) ?_
            refine va rfl rfl rfl (q_move (v := .int .i64 ((i69 + 1 : Nat) : Int)) rfl (by kernel_rfl)) ?_
            refine WR.nil ?_
            intro w hw
            obtain ⟨row_83, hrow_83, hob_83⟩ : ∃ rw : Rowb, rw = ([[(gp_, .cells #[.int .i64 o65.id, .pointer (some ⟨g1_77, 0, none⟩), .bool o65.begun, .slice A3_77 o65.vec.length c3_77, .slice A80 (o65.wants ++ [(⟨(gt (List.take [(-1), (-1)].length path ++ List.drop path.length [(-1), (-1)]) 0), (gt z54 i69)⟩ : Dpull_way)]).length c81, .pointer (some ⟨g5_77, 0, none⟩)] ep_ (0, 0))], r1_77, row79, r5_77] : List Rowb).flatten ∧ Opull_Pull.ob ep_ Γ56 gp_ rw (⟨o65.id, o65.own, o65.begun, o65.vec, (o65.wants ++ [(⟨(gt (List.take [(-1), (-1)].length path ++ List.drop path.length [(-1), (-1)]) 0), (gt z54 i69)⟩ : Dpull_way)]), o65.staged⟩ : Opull_Pull) := ⟨_, rfl, g1_77, r1_77, A3_77, c3_77, A80, c81, row79, g5_77, r5_77, rfl, ho0_77, ho1_77, ho2_77, ho3_77, ho82, ho5_77, trivial⟩
            have hw := hw.fold (is := [0, 0, 0, 0]) rfl hrow_83
            exact ⟨hl74, (⟨o65.id, o65.own, o65.begun, o65.vec, (o65.wants ++ [(⟨(gt (List.take [(-1), (-1)].length path ++ List.drop path.length [(-1), (-1)]) 0), (gt z54 i69)⟩ : Dpull_way)]), o65.staged⟩ : Opull_Pull), h, row_83, (sl_ (by kernel_rfl)), (hw.only (is := [0, 1, 1]) rfl), hob_83, trivial⟩
        · skip
          have h := hge72 (ige hb73)
          refine WC.exit ?_
          change WC _ _ _ _ _ _
          refine WC.rs ?_
          refine va rfl rfl rfl (q_assign (v := .bool true) rfl (by kernel_rfl)) ?_
          refine WR.nil ?_
          change WC _ _ _ _ _ _
          refine WC.ret ?_
          intro w hw
          obtain rfl := Option.some.inj h
          subst hF
          exact end_e (is := [0]) (by kernel_rfl) hw rfl ⟨row66, rfl, rfl, ho67, trivial⟩
      · skip
        refine WC.skip ?_
        change WC _ _ _ _ _ _
        refine WC.rs ?_
        refine va rfl rfl rfl (q_mkfn (v := .func (.func 63) #[] #[.pointer (some ⟨g1, 0, none⟩)]) rfl (by kernel_rfl)) ?_
        refine va rfl rfl rfl (q_assign (v := .func (.func 63) #[] #[.pointer (some ⟨g1, 0, none⟩)]) rfl (by kernel_rfl)) ?_
        refine WR.nil ?_
        change WC _ _ _ _ _ _
        refine WC.seq ?_
        refine WC.rs ?_
        refine va rfl rfl rfl (q_move (v := .slice Alist list.length clist) rfl (by kernel_rfl)) ?_
        refine va rfl rfl rfl (q_move (v := .func (.func 63) #[] #[.pointer (some ⟨g1, 0, none⟩)]) rfl (by kernel_rfl)) ?_
        have hr85 : I64 (gt (List.take [(-1), (-1)].length path ++ List.drop path.length [(-1), (-1)]) 0) := ((ho9.intT_at (i := 0) (lt_len ((copy_len _ _)) (by decide))).1)
        have hr86 : I64 (gt (List.take [(-1), (-1)].length path ++ List.drop path.length [(-1), (-1)]) 1) := ((ho9.intT_at (i := 1) (lt_len ((copy_len _ _)) (by decide))).1)
        have hq84 := Own.cells2 (k := .i64) intT_cs rfl ho9 ((copy_len _ _))
        subst hq84
        obtain ⟨z87, hz88, h⟩ := bnd h
        refine e_callB (is := [4]) hB rfl rfl (call_run Tryz.call65 rfl rfl (by kernel_rfl)) rfl (fun w Θ hp hpB hle hleB hR => t_slices_ContainsFunc_api_Rec_api_Rec_l1 (hlist.mono hleB) hlistc (gt (List.take [(-1), (-1)].length path ++ List.drop path.length [(-1), (-1)]) 0) hr85 (gt (List.take [(-1), (-1)].length path ++ List.drop path.length [(-1), (-1)]) 1) hr86 hp hpB hz88) ?_
        rintro Γ89 U91 v92 hl90 ⟨rfl, rfl, _⟩
        change WR _ _ _ (CC F Γ89 [[(g1, .cells #[.int .i64 (gt (List.take [(-1), (-1)].length path ++ List.drop path.length [(-1), (-1)]) 0), .int .i64 (gt (List.take [(-1), (-1)].length path ++ List.drop path.length [(-1), (-1)]) 1)] 100 (0, 0))], [(gp_, .cells #[.int .i64 p_.id, .pointer (some ⟨g1_10, 0, none⟩), .bool p_.begun, .slice A3_10 p_.vec.length c3_10, .slice A4_10 p_.wants.length c4_10, .pointer (some ⟨g5_10, 0, none⟩)] ep_ (0, 0))], r1_10, r4_10, r5_10]) _ _ (upd _ 81 (.bool z87))
        refine WR.nil ?_
        change WC _ _ _ _ _ _
        refine WC.cif h (by kernel_rfl) (fun hb93 h => ?_) (fun hb93 h => ?_)
        · skip
          refine WC.rs ?_
          refine va rfl rfl rfl (q_assign (v := .bool false) rfl (by kernel_rfl)) ?_
          refine WR.nil ?_
          change WC _ _ _ _ _ _
          refine WC.ret ?_
          intro w hw
          have hw := hw.fold (is := [1, 1, 1, 1]) rfl hrow_10
          obtain rfl := Option.some.inj h
          subst hF
          exact end_e (is := [0]) (by kernel_rfl) hw rfl ⟨rowp_, rfl, rfl, (hp_.mono hl90), trivial⟩
        · skip
          refine WC.skip ?_
          change WC _ _ _ _ _ _
          refine WC.rs ?_
          refine va rfl rfl rfl (q_move (v := .pointer (some ⟨gp_, 0, none⟩)) rfl (by kernel_rfl)) ?_
          refine va rfl rfl rfl (q_move (v := .pointer (some ⟨gp_, 0, none⟩)) rfl (by kernel_rfl)) ?_
          refine va rfl rfl rfl (q_nil (A := some ⟨gp_, 0, none⟩) rfl rfl rfl) ?_
          refine va rfl rfl rfl (q_fl 4 fld_97_4 rfl rfl rfl) ?_
          refine va rfl rfl rfl (q_ldl (i := 1) (v := .slice A4_10 p_.wants.length c4_10) rfl rfl Tryz.isAgg95 rfl rfl) ?_
          refine va rfl rfl rfl (q_move (v := .int .i64 z12) rfl (by kernel_rfl)) ?_
          refine va rfl rfl rfl (q_move (v := .int .i64 z12) rfl (by kernel_rfl)) ?_
          refine va rfl rfl rfl (q_add rfl rfl rfl) ?_
          obtain ⟨hk95, h⟩ := chk_some h
          obtain ⟨z96, hz97, h⟩ := bnd h
          refine e_call (is := [3]) rfl rfl (call_run Tryz.call62 rfl rfl (by kernel_rfl)) rfl (fun w hp => t_slices_Delete_pull_way_pull_way (ho4_10.mono hl90) z12 (i64b_of hk95) (w64 (z12 + 1)) (w64_r _) hp hz97) ?_
          rintro Γ98 U100 v101 hl99 ⟨A102, c103, row104, rfl, rfl, hr105, _⟩
          change WR _ _ _ (CC F Γ98 [row104, [(g1, .cells #[.int .i64 (gt (List.take [(-1), (-1)].length path ++ List.drop path.length [(-1), (-1)]) 0), .int .i64 (gt (List.take [(-1), (-1)].length path ++ List.drop path.length [(-1), (-1)]) 1)] 100 (0, 0))], [(gp_, .cells #[.int .i64 p_.id, .pointer (some ⟨g1_10, 0, none⟩), .bool p_.begun, .slice A3_10 p_.vec.length c3_10, .slice A4_10 p_.wants.length c4_10, .pointer (some ⟨g5_10, 0, none⟩)] ep_ (0, 0))], r1_10, r5_10]) _ _ (upd _ 90 (.slice A102 z96.length c103))
          refine va rfl rfl rfl (q_nil (A := some ⟨gp_, 0, none⟩) rfl rfl rfl) ?_
          refine va rfl rfl rfl (q_fl 4 fld_97_4 rfl rfl rfl) ?_
          refine e_st (i := 2) (v := .slice A102 z96.length c103) (new := #[.int .i64 p_.id, .pointer (some ⟨g1_10, 0, none⟩), .bool p_.begun, .slice A3_10 p_.vec.length c3_10, .slice A102 z96.length c103, .pointer (some ⟨g5_10, 0, none⟩)]) rfl Tryz.sizeOf95 rfl rfl rfl rfl (by kernel_rfl) rfl rfl rfl rfl ?_
          refine WR.nil ?_
          change WC _ _ _ _ _ _
          refine WC.seq ?_
          refine WC.rs ?_
          refine va rfl rfl rfl (q_move (v := .slice Alist list.length clist) rfl (by kernel_rfl)) ?_
          refine va rfl rfl rfl (q_len_slice rfl Tryz.underlying23 rfl) ?_
          refine va rfl rfl rfl (q_move (v := .int .i64 0) rfl (by kernel_rfl)) ?_
          refine WR.nil ?_
          change WC _ _ _ _ _ _
          refine WC.block ?_
          obtain ⟨row_106, hrow_106, hob_106⟩ : ∃ rw : Rowb, rw = ([[(gp_, .cells #[.int .i64 p_.id, .pointer (some ⟨g1_10, 0, none⟩), .bool p_.begun, .slice A3_10 p_.vec.length c3_10, .slice A102 z96.length c103, .pointer (some ⟨g5_10, 0, none⟩)] ep_ (0, 0))], r1_10, row104, r5_10] : List Rowb).flatten ∧ Opull_Pull.ob ep_ Γ98 gp_ rw (⟨p_.id, p_.own, p_.begun, p_.vec, z96, p_.staged⟩ : Opull_Pull) := ⟨_, rfl, g1_10, r1_10, A3_10, c3_10, A102, c103, row104, g5_10, r5_10, rfl, ho0_10, (ho1_10.mono (hl90.trans hl99)), ho2_10, (ho3_10.mono (hl90.trans hl99)), hr105, (ho5_10.mono (hl90.trans hl99)), trivial⟩
          intro w hw; have hw := hw.fold (is := [2, 2, 0, 1]) rfl hrow_106
          refine WC.here (C := CC F Γ98 [row_106, [(g1, .cells #[.int .i64 (gt (List.take [(-1), (-1)].length path ++ List.drop path.length [(-1), (-1)]) 0), .int .i64 (gt (List.take [(-1), (-1)].length path ++ List.drop path.length [(-1), (-1)]) 1)] 100 (0, 0))]]) ?_ hw
          clear hw
          refine WC.forI h (fun (i113 : Nat) (o109 : Opull_Pull) σ w => ∃ (Γ107 : Gh), ∃ (row110 : Rowb), slots σ [(0, .pointer (some ⟨gp_, 0, none⟩)), (93, .slice Alist list.length clist), (94, .int .i64 ((list.length : Nat) : Int)), (95, .int .i64 ((i113 : Nat) : Int))] ∧ CC F Γ107 [row110] w ∧ Gh.le Γ98 Γ107 ∧ Opull_Pull.ob ep_ Γ107 gp_ row110 o109 ∧ True) ?_ ?_
          · skip
            intro w hw
            exact ⟨Γ98, row_106, (sl_ (by kernel_rfl)), (hw.only (is := [0]) rfl), (Gh.refl _), hob_106, trivial⟩
          rintro f112 i113 o109 σ w hi114 hlt115 hge116 ⟨Γ107, row110, hsl, hw, hl108, ho111, -⟩
          refine Wpt.slots hsl ?_
          refine WC.here (C := CC F Γ107 [row110]) ?_ hw
          clear hw hsl
          refine WC.rs ?_
          refine va rfl rfl rfl (q_lss rfl rfl rfl) ?_
          refine WR.nil ?_
          change WC _ _ _ _ _ _
          refine WC.seq ?_
          refine WC.cond (b := (decide (((i113 : Nat) : Int) < ((list.length : Nat) : Int)))) (by kernel_rfl) (fun hb117 => ?_) (fun hb117 => ?_)
          · skip
            have hl118 := ilt hb117
            have h := hlt115 hl118
            refine WC.skip ?_
            change WC _ _ _ _ _ _
            refine WC.seq ?_
            refine WC.block ?_
            refine WC.rs ?_
            refine va rfl rfl rfl (q_ixn (i := i113) Tryz.underlying23 Tryz.sizeOf70 rfl rfl rfl hl118 (hlist.some_ hl118)) ?_
            obtain ⟨A119, c120, hx121⟩ := hlist.recT_at i113
            refine va rfl rfl rfl (q_ldaS (c := 0) (vs := [.string (gt list i113).key, .slice A119 ((gt list i113).vers).length c120]) (fun w hw => hB.sat hw) (hx121 hl118).2 rfl Tryz.isAgg70 Tryz.sizeOf70 rfl rfl rfl) ?_
            refine e_alloc Tryz.zeroValue70 rfl rfl rfl rfl ?_
            intro g122
            refine e_st (i := 0) (v := .agg #[.string (gt list i113).key, .slice A119 ((gt list i113).vers).length c120]) (new := #[.string (gt list i113).key, .slice A119 ((gt list i113).vers).length c120]) rfl Tryz.sizeOf70 rfl rfl rfl rfl (by kernel_rfl) rfl rfl rfl rfl ?_
            refine WR.nil ?_
            change WC _ _ _ _ _ _
            intro w hw; have h0123 := hw.le
            refine WC.here (C := CC F Γ107 [[(g122, .cells #[.string (gt list i113).key, .slice A119 ((gt list i113).vers).length c120] 70 (0, 0))], row110]) ?_ hw; clear hw
            refine WC.held (CC F Γ107 [[(g122, .cells #[.string (gt list i113).key, .slice A119 ((gt list i113).vers).length c120] 70 (0, 0))]]) (by kernel_rfl) (fun w hw => hw.drawn _) ?_
            change WH _ _ _ _ (CC F Γ107 [[(g122, .cells #[.string (gt list i113).key, .slice A119 ((gt list i113).vers).length c120] 70 (0, 0))], row110]) _ 6 #[false, false, false, false, false, false] _
            refine ht (i := 0) rfl (by kernel_rfl) rfl rfl rfl (fun w hw => hw.back (Gh.refl _) h0123 (.cons_cons _ (.cons _ .slnil))) (q_move (v := .pointer (some ⟨gp_, 0, none⟩)) rfl (by kernel_rfl)) ?_
            refine ht (i := 1) rfl (by kernel_rfl) rfl rfl rfl (fun w hw => hw.back (Gh.refl _) h0123 (.cons_cons _ (.cons _ .slnil))) (q_nil (A := some ⟨gp_, 0, none⟩) rfl rfl rfl) ?_
            refine ht (i := 2) rfl (by kernel_rfl) rfl rfl rfl (fun w hw => hw.back (Gh.refl _) h0123 (.cons_cons _ (.cons _ .slnil))) (q_fl 5 fld_97_5 rfl rfl rfl) ?_
            refine ht (i := 4) rfl (by kernel_rfl) rfl rfl rfl (fun w hw => hw.back (Gh.refl _) h0123 (.cons_cons _ (.cons _ .slnil))) (q_ldla (i := 0) (vs := [.string (gt list i113).key, .slice A119 ((gt list i113).vers).length c120]) rfl rfl Tryz.isAgg70 Tryz.sizeOf70 rfl rfl) ?_
            refine WH.lone (i := 3) (by kernel_rfl) rfl ?_
            have hq := ho111
            obtain ⟨g1_124, r1_124, A3_124, c3_124, A4_124, c4_124, r4_124, g5_124, r5_124, hrow_124, ho0_124, ho1_124, ho2_124, ho3_124, ho4_124, ho5_124, -⟩ := hq
            intro w hw; have hw := hw.unfold (i := 1) rfl hrow_124
            refine WR.here (C := CC F Γ107 [[(gp_, .cells #[.int .i64 o109.id, .pointer (some ⟨g1_124, 0, none⟩), .bool o109.begun, .slice A3_124 o109.vec.length c3_124, .slice A4_124 o109.wants.length c4_124, .pointer (some ⟨g5_124, 0, none⟩)] ep_ (0, 0))], r1_124, r4_124, r5_124, [(g122, .cells #[.string (gt list i113).key, .slice A119 ((gt list i113).vers).length c120] 70 (0, 0))]]) ?_ hw
            clear hw
            refine va rfl rfl rfl (q_ldl (i := 0) (v := .pointer (some ⟨g5_124, 0, none⟩)) rfl rfl Tryz.isAgg79 rfl rfl) ?_
            refine WR.nil ?_
            refine WH.next (fun w hw => hw.back (Gh.refl _) h0123 (.cons _ (.cons _ (.cons _ (.cons _ (.cons_cons _ .slnil)))))) ?_
            refine WH.lone (i := 5) (by kernel_rfl) rfl ?_
            obtain ⟨z125, hz126, h⟩ := bnd h
            refine e_callB (is := [3]) hB rfl rfl (call_run Tryz.call66 rfl rfl (by kernel_rfl)) rfl (fun w Θ hp hpB hle hleB hR => t_tree_Tree_Set_l1 ho5_124 (gt list i113) (Rec.fits_mono (hx121 hl118).1 hleB) hp hpB hz126) ?_
            rintro Γ127 U129 v130 hl128 ⟨row131, rfl, rfl, hr132, hr133, _⟩
            change WR _ _ _ (CC F Γ127 [row131, [(gp_, .cells #[.int .i64 o109.id, .pointer (some ⟨g1_124, 0, none⟩), .bool o109.begun, .slice A3_124 o109.vec.length c3_124, .slice A4_124 o109.wants.length c4_124, .pointer (some ⟨g5_124, 0, none⟩)] ep_ (0, 0))], r1_124, r4_124, [(g122, .cells #[.string (gt list i113).key, .slice A119 ((gt list i113).vers).length c120] 70 (0, 0))]]) _ _ (upd _ 104 (.int .i64 z125.2))
            refine WR.nil ?_
            refine WH.next (fun w hw => hw.back hl128 h0123 (.cons _ (.cons _ (.cons _ (.cons _ (.cons_cons _ .slnil)))))) ?_
            refine WH.done (by kernel_rfl) ?_
            change WC _ _ _ _ _ _
            refine WC.region ?_
            refine va rfl rfl rfl (q_add_r (r := ((i113 + 1 : Nat) : Int)) rfl rfl rfl (ctr_len hl118 hlist.le)) ?_
            refine va rfl rfl rfl (q_move (v := .int .i64 ((i113 + 1 : Nat) : Int)) rfl (by kernel_rfl)) ?_
            refine WR.nil ?_
            intro w hw
            obtain ⟨row_134, hrow_134, hob_134⟩ : ∃ rw : Rowb, rw = ([[(gp_, .cells #[.int .i64 o109.id, .pointer (some ⟨g1_124, 0, none⟩), .bool o109.begun, .slice A3_124 o109.vec.length c3_124, .slice A4_124 o109.wants.length c4_124, .pointer (some ⟨g5_124, 0, none⟩)] ep_ (0, 0))], r1_124, r4_124, row131] : List Rowb).flatten ∧ Opull_Pull.ob ep_ Γ127 gp_ rw (⟨o109.id, o109.own, o109.begun, o109.vec, o109.wants, z125.1⟩ : Opull_Pull) := ⟨_, rfl, g1_124, r1_124, A3_124, c3_124, A4_124, c4_124, r4_124, g5_124, row131, rfl, ho0_124, (ho1_124.mono hl128), ho2_124, (ho3_124.mono hl128), (ho4_124.mono hl128), hr132, trivial⟩
            have hw := hw.fold (is := [1, 1, 1, 0]) rfl hrow_134
            exact ⟨hl118, (⟨o109.id, o109.own, o109.begun, o109.vec, o109.wants, z125.1⟩ : Opull_Pull), h, Γ127, row_134, (sl_ (by kernel_rfl)), (hw.only (is := [0]) rfl), (hl108.trans hl128), hob_134, trivial⟩
          · skip
            have h := hge116 (ige hb117)
            refine WC.exit ?_
            change WC _ _ _ _ _ _
            refine WC.rs ?_
            refine va rfl rfl rfl (q_assign (v := .bool true) rfl (by kernel_rfl)) ?_
            refine WR.nil ?_
            change WC _ _ _ _ _ _
            refine WC.ret ?_
            intro w hw
            obtain rfl := Option.some.inj h
            subst hF
            exact end_e (is := [0]) (by kernel_rfl) hw rfl ⟨row110, rfl, rfl, ho111, trivial⟩
abbrev r_firthlaw19_told (gc_ : Nat) (ec_ : Nat) (gp_ : Nat) (ep_ : Nat) (r : Opull_Cut × Opull_Pull × Bool) (U : List Rowb) (Γ : Gh) (v : Value) : Prop := ∃ (rowc_' : Rowb), ∃ (rowp_' : Rowb), v = .bool r.2.2 ∧ U = [rowc_', rowp_'] ∧ Opull_Cut.ob ec_ Γ gc_ rowc_' r.1 ∧ Opull_Pull.ob ep_ Γ gp_ rowp_' r.2.1 ∧ True
set_option maxRecDepth 100000 in
set_option maxHeartbeats 400000 in
theorem t_firthlaw19_told {Γ : Gh} {w0 : World} {gc_ ec_ : Nat} {rowc_ : Rowb} {c_ : Opull_Cut} (hc_ : Opull_Cut.ob ec_ Γ gc_ rowc_ c_) {gp_ ep_ : Nat} {rowp_ : Rowb} {p_ : Opull_Pull} (hp_ : Opull_Pull.ob ep_ Γ gp_ rowp_ p_) {Aorder : Option Addr} {corder : Nat} {order : List Int} (horder : Sl intT Γ Aorder order) (horderc : order.length ≤ corder) (hp : Pre [rowc_, rowp_] Γ w0) {r : Opull_Cut × Opull_Pull × Bool} (h : m_firthlaw19_told c_ p_ order = some r) : Calls Tryz.prog 37 #[.pointer (some ⟨gc_, 0, none⟩), .pointer (some ⟨gp_, 0, none⟩), .slice Aorder order.length corder] w0 (Outc Γ [rowc_, rowp_] w0 (r_firthlaw19_told gc_ ec_ gp_ ep_ r)) := by
  refine calls_of (N := 59) (rs := [6]) (args := [.pointer (some ⟨gc_, 0, none⟩), .pointer (some ⟨gp_, 0, none⟩), .slice Aorder order.length corder]) Tryz.func37 rfl Tryz.ntmps37 Tryz.results37 rfl ?_
  obtain ⟨F, hF⟩ : ∃ F : Fm, F = ⟨ids [rowc_, rowp_], w0, Γ⟩ := ⟨_, rfl⟩
  refine WC.here (C := CC F Γ [rowc_, rowp_]) ?_ (hF ▸ hp.start)
  refine WC.rs ?_
  refine va rfl rfl rfl (q_assign (v := .bool false) rfl (by kernel_rfl)) ?_
  refine WR.nil ?_
  change WC _ _ _ _ _ _
  refine WC.seq ?_
  refine WC.rs ?_
  refine va rfl rfl rfl (q_assign (v := .int .i64 0) rfl (by kernel_rfl)) ?_
  refine WR.nil ?_
  change WC _ _ _ _ _ _
  refine WC.block ?_
  refine WC.forU h (fun (i10 : Nat) (s : Opull_Cut × Opull_Pull) σ w => match s with | (o3, o6) => ∃ (Γ1 : Gh), ∃ (row4 : Rowb), ∃ (row7 : Rowb), slots σ [(0, .pointer (some ⟨gc_, 0, none⟩)), (1, .pointer (some ⟨gp_, 0, none⟩)), (2, .slice Aorder order.length corder), (7, .int .i64 ((i10 : Nat) : Int))] ∧ CC F Γ1 [row4, row7] w ∧ Gh.le Γ Γ1 ∧ Opull_Cut.ob ec_ Γ1 gc_ row4 o3 ∧ Opull_Pull.ob ep_ Γ1 gp_ row7 o6 ∧ True) ?_ ?_
  · skip
    intro w hw
    exact ⟨Γ, rowc_, rowp_, (sl_ (by kernel_rfl)), hw, (Gh.refl _), hc_, hp_, trivial⟩
  rintro f9 i10 ⟨o3, o6⟩ σ w hi11 hlt12 hge13 ⟨Γ1, row4, row7, hsl, hw, hl2, ho5, ho8, -⟩
  refine Wpt.slots hsl ?_
  refine WC.here (C := CC F Γ1 [row4, row7]) ?_ hw
  clear hw hsl
  refine WC.seq ?_
  refine WC.rs ?_
  refine va rfl rfl rfl (q_move (v := .int .i64 ((i10 : Nat) : Int)) rfl (by kernel_rfl)) ?_
  refine va rfl rfl rfl (q_lss rfl rfl rfl) ?_
  refine WR.nil ?_
  change WC _ _ _ _ _ _
  refine WC.cond (b := (decide (((i10 : Nat) : Int) < 300))) (by kernel_rfl) (fun hb14 => ?_) (fun hb14 => ?_)
  · skip
    have hl15 := ilt hb14
    have h := hlt12 hl15
    refine WC.skip ?_
    change WC _ _ _ _ _ _
    refine WC.seq ?_
    refine WC.block ?_
    refine WC.rs ?_
    refine va rfl rfl rfl (q_move (v := .pointer (some ⟨gp_, 0, none⟩)) rfl (by kernel_rfl)) ?_
    obtain ⟨z16, hz17, h⟩ := bnd h
    refine e_call (is := [1]) rfl rfl (call_run Tryz.call31 rfl rfl (by kernel_rfl)) rfl (fun w hp => t_pull_Pull_Wants ho8 hp hz17) ?_
    rintro Γ18 U20 v21 hl19 ⟨A22, c23, row24, rfl, rfl, hr25, _⟩
    change WR _ _ _ (CC F Γ18 [row7, row24, row4]) _ _ (upd _ 18 (.slice A22 z16.length c23))
    refine va rfl rfl rfl (q_assign (v := .slice A22 z16.length c23) rfl (by kernel_rfl)) ?_
    refine WR.nil ?_
    change WC _ _ _ _ _ _
    refine WC.seq ?_
    refine WC.rs ?_
    refine va rfl rfl rfl (q_move (v := .slice A22 z16.length c23) rfl (by kernel_rfl)) ?_
    refine va rfl rfl rfl (q_len_slice rfl Tryz.underlying57 rfl) ?_
    refine va rfl rfl rfl (q_eql rfl rfl rfl) ?_
    refine WR.nil ?_
    change WC _ _ _ _ _ _
    refine WC.cif h (by kernel_rfl) (fun hb26 h => ?_) (fun hb26 h => ?_)
    · skip
      refine WC.rs ?_
      refine va rfl rfl rfl (q_assign (v := .bool true) rfl (by kernel_rfl)) ?_
      refine WR.nil ?_
      change WC _ _ _ _ _ _
      refine WC.ret ?_
      intro w hw
      obtain rfl := Option.some.inj h
      subst hF
      exact end_e (is := [2, 0]) (by kernel_rfl) hw rfl ⟨row4, row7, rfl, rfl, (ho5.mono hl19), (ho8.mono hl19), trivial⟩
    · skip
      refine WC.skip ?_
      change WC _ _ _ _ _ _
      refine WC.rs ?_
      refine va rfl rfl rfl (q_assign (v := .int .i64 0) rfl (by kernel_rfl)) ?_
      refine WR.nil ?_
      change WC _ _ _ _ _ _
      refine WC.cut (fun σ w => ∃ (at_27 : Int), m_firthlaw19_told_j5 o3 o6 f9 z16 at_27 = some r ∧ slots σ [(0, .pointer (some ⟨gc_, 0, none⟩)), (1, .pointer (some ⟨gp_, 0, none⟩)), (2, .slice Aorder order.length corder), (7, .int .i64 ((i10 : Nat) : Int)), (8, .slice A22 z16.length c23), (9, .int .i64 at_27)] ∧ CC F Γ18 [row7, row24, row4] w ∧ I64 at_27 ∧ True) ?_ ?_
      · skip
        refine WC.rs ?_
        refine va rfl rfl rfl (q_move (v := .int .i64 ((i10 : Nat) : Int)) rfl (by kernel_rfl)) ?_
        refine va rfl rfl rfl (q_move (v := .slice Aorder order.length corder) rfl (by kernel_rfl)) ?_
        refine va rfl rfl rfl (q_len_slice rfl Tryz.underlying24 rfl) ?_
        refine va rfl rfl rfl (q_lss rfl rfl rfl) ?_
        refine WR.nil ?_
        change WC _ _ _ _ _ _
        refine WC.cif h (by kernel_rfl) (fun hb29 h => ?_) (fun hb29 h => ?_)
        · skip
          refine WC.region ?_
          refine va rfl rfl rfl (q_move (v := .slice Aorder order.length corder) rfl (by kernel_rfl)) ?_
          refine va rfl rfl rfl (q_move (v := .int .i64 ((i10 : Nat) : Int)) rfl (by kernel_rfl)) ?_
          obtain ⟨hk30, h⟩ := chk_some h
          refine va rfl rfl rfl (q_ixn (i := i10) Tryz.underlying24 Tryz.sizeOf3 rfl rfl rfl (of_decide_eq_true hk30) ((horder.mono (hl2.trans hl19)).some_ (of_decide_eq_true hk30))) ?_
          refine va rfl rfl rfl (q_ld (c := 0) (v := .int .i64 (gt order i10)) ((horder.mono (hl2.trans hl19)).intT_at (of_decide_eq_true hk30)).2 rfl Tryz.isAgg3 rfl rfl) ?_
          refine va rfl rfl rfl (q_conv Tryz.underlying109 Tryz.underlying3 rfl rfl) ?_
          refine va rfl rfl rfl (q_move (v := .slice A22 z16.length c23) rfl (by kernel_rfl)) ?_
          refine va rfl rfl rfl (q_len_slice rfl Tryz.underlying57 rfl) ?_
          refine va rfl rfl rfl (q_conv Tryz.underlying109 Tryz.underlying3 rfl rfl) ?_
          obtain ⟨hk31, h⟩ := chk_some h
          refine va rfl rfl rfl (q_rem rfl rfl rfl hk31) ?_
          refine va rfl rfl rfl (q_conv Tryz.underlying3 Tryz.underlying109 rfl rfl) ?_
          refine va rfl rfl rfl (q_assign (v := .int .i64 (w64 ((wu64 (gt order i10)).tmod (wu64 ((z16.length : Nat) : Int))))) rfl (by kernel_rfl)) ?_
          refine WR.nil ?_
          intro w hw
          exact ⟨(w64 ((wu64 (gt order i10)).tmod (wu64 ((z16.length : Nat) : Int)))), h, (sl_ (by kernel_rfl)), hw, (w64_r _), trivial⟩
        · skip
          refine WC.skip ?_
          intro w hw
          exact ⟨0, h, (sl_ (by kernel_rfl)), hw, (show I64 0 by decide), trivial⟩
      · skip
        rintro σ w ⟨at_27, h, hsl, hw, hr28, -⟩
        refine Wpt.slots hsl ?_
        refine WC.here (C := CC F Γ18 [row7, row24, row4]) ?_ hw
        clear hw hsl
        refine WC.rs ?_
        refine va rfl rfl rfl (q_move (v := .pointer (some ⟨gc_, 0, none⟩)) rfl (by kernel_rfl)) ?_
        refine va rfl rfl rfl (q_move (v := .slice A22 z16.length c23) rfl (by kernel_rfl)) ?_
        refine va rfl rfl rfl (q_move (v := .int .i64 at_27) rfl (by kernel_rfl)) ?_
        obtain ⟨hk32, h⟩ := chk_some h
        refine va rfl rfl rfl (q_ix Tryz.underlying57 Tryz.sizeOf24 rfl rfl rfl hk32 (hr25.some_ (inb_lt hk32))) ?_
        obtain ⟨A33, c34, hx35⟩ := hr25.slT_at at_27.toNat
        refine va rfl rfl rfl (q_ldo (c := 0) (v := .slice A33 (gt z16 at_27.toNat).length c34) (i := 1) rfl (hx35 (inb_lt hk32)).2 rfl Tryz.isAgg24 rfl rfl) ?_
        obtain ⟨z36, hz37, h⟩ := bnd h
        refine e_callB (is := [2]) (Lent.nil F) rfl rfl (call_run Tryz.call13 rfl rfl (by kernel_rfl)) rfl (fun w Θ hp hpB hle hleB hR => t_pull_Cut_Want_l0 (ho5.mono hl19) ((hx35 (inb_lt hk32)).1.2.mono hle) (hx35 (inb_lt hk32)).1.1 hp hpB hz37) ?_
        rintro Γ38 U40 v41 hl39 ⟨row42, A44, c45, row46, A48, c49, J50, rfl, rfl, hr43, hr47, hn51, hc52, hr53, _⟩
        change WR _ _ _ (CC F Γ38 [row42, row46, J50, row7, row24]) _ _ (upd _ 42 (.tuple #[.slice A44 z36.2.1.length c45, .slice A48 z36.2.2.1.length c49, .bool z36.2.2.2]))
        refine va rfl rfl rfl (q_move (v := .tuple #[.slice A44 z36.2.1.length c45, .slice A48 z36.2.2.1.length c49, .bool z36.2.2.2]) rfl (by kernel_rfl)) ?_
        refine va rfl rfl rfl (q_extract (v := .slice A44 z36.2.1.length c45) rfl rfl rfl) ?_
        refine va rfl rfl rfl (q_extract (v := .slice A48 z36.2.2.1.length c49) rfl rfl rfl) ?_
        refine va rfl rfl rfl (q_extract (v := .bool z36.2.2.2) rfl rfl rfl) ?_
        refine va rfl rfl rfl (q_assign (v := .slice A44 z36.2.1.length c45) rfl (by kernel_rfl)) ?_
        refine va rfl rfl rfl (q_assign (v := .slice A48 z36.2.2.1.length c49) rfl (by kernel_rfl)) ?_
        refine va rfl rfl rfl (q_assign (v := .bool z36.2.2.2) rfl (by kernel_rfl)) ?_
        refine WR.nil ?_
        change WC _ _ _ _ _ _
        refine WC.rs ?_
        refine va rfl rfl rfl (q_move (v := .bool z36.2.2.2) rfl (by kernel_rfl)) ?_
        refine va rfl rfl rfl (q_not rfl rfl) ?_
        refine va rfl rfl rfl (q_move (v := .bool (!z36.2.2.2)) rfl (by kernel_rfl)) ?_
        refine vg0 rfl rfl rfl rfl rfl (fun hg54 => QV.qo (q_move (v := .pointer (some ⟨gp_, 0, none⟩)) rfl (by kernel_rfl))) ?_
        refine vg0 rfl rfl rfl rfl rfl (fun hg55 => QV.qo (q_move (v := .slice A22 z16.length c23) rfl (by kernel_rfl))) ?_
        refine vg0 rfl rfl rfl rfl rfl (fun hg56 => QV.qo (q_move (v := .int .i64 at_27) rfl (by kernel_rfl))) ?_
        refine vg0 rfl rfl rfl rfl rfl (fun hg57 => QV.qo (q_ix Tryz.underlying57 Tryz.sizeOf24 rfl (gu hg57 rfl) (gu hg57 rfl) hk32 ((hr25.mono hl39).some_ (inb_lt hk32)))) ?_
        refine vg0 rfl rfl rfl rfl rfl (fun hg58 => QV.qo (q_ldo (c := 0) (v := .slice A33 (gt z16 at_27.toNat).length c34) (i := 4) rfl (hx35 (inb_lt hk32)).2 rfl Tryz.isAgg24 (gu hg58 rfl) rfl)) ?_
        refine vg0 rfl rfl rfl rfl rfl (fun hg59 => QV.qo (q_move (v := .slice A44 z36.2.1.length c45) rfl (by kernel_rfl))) ?_
        refine vg0 rfl rfl rfl rfl rfl (fun hg60 => QV.qo (q_move (v := .slice A48 z36.2.2.1.length c49) rfl (by kernel_rfl))) ?_
        refine (Bool.eq_false_or_eq_true (!(!z36.2.2.2))).elim (fun hb61 => ?_) (fun hb61 => ?_)
        · skip
          have h := bt hb61 h
          refine WR.sat (c0 := true) (g := (!z36.2.2.2)) rfl rfl rfl hb61 ?_
          obtain ⟨z62, hz63, h⟩ := bnd h
          refine e_callB (is := [3]) (Lent.nil F) rfl rfl (call_run Tryz.call26 rfl rfl (args4 (gu hb61 rfl) (gu hb61 rfl) (gu hb61 rfl) (gu hb61 rfl))) rfl (fun w Θ hp hpB hle hleB hR => t_pull_Pull_Tell_l1 (ho8.mono (hl19.trans hl39)) (((hx35 (inb_lt hk32)).1.2.mono hl39).mono hle) (hx35 (inb_lt hk32)).1.1 (own_lent hr47 hR (List.mem_of_getElem? (i := 1) rfl) hle) hr47.capz (hr53.mono (ghr_le hR hn51 (List.mem_of_getElem? (i := 2) rfl))) hc52 hp hpB hz63) ?_
          rintro Γ64 U66 v67 hl65 ⟨row68, rfl, rfl, hr69, _⟩
          change WR _ _ _ (CC F Γ64 [row68, row42, row46, J50, row24]) _ _ (upd _ 56 (.bool z62.2))
          refine WR.sat (c0 := true) (g := (!z36.2.2.2)) rfl rfl rfl hb61 ?_
          refine va rfl rfl rfl (q_not rfl rfl) ?_
          refine va rfl rfl rfl (q_pick_f (v := .bool (!z62.2)) rfl rfl (not_t hb61) (by kernel_rfl)) ?_
          refine WR.nil ?_
          change WC _ _ _ _ _ _
          refine WC.cif h (by kernel_rfl) (fun hb70 h => ?_) (fun hb70 h => ?_)
          · skip
            refine WC.rs ?_
            refine va rfl rfl rfl (q_assign (v := .bool false) rfl (by kernel_rfl)) ?_
            refine WR.nil ?_
            change WC _ _ _ _ _ _
            refine WC.ret ?_
            intro w hw
            obtain rfl := Option.some.inj h
            subst hF
            exact end_e (is := [1, 0]) (by kernel_rfl) hw rfl ⟨row42, row68, rfl, rfl, (hr43.mono hl65), hr69, trivial⟩
          · skip
            refine WC.skip ?_
            change WC _ _ _ _ _ _
            refine WC.region ?_
            refine va rfl rfl rfl (q_move (v := .int .i64 ((i10 : Nat) : Int)) rfl (by kernel_rfl)) ?_
            refine va rfl rfl rfl (q_add_r (r := ((i10 + 1 : Nat) : Int)) rfl rfl rfl (ctr_lit hl15 (by decide))) ?_
            refine va rfl rfl rfl (q_assign (v := .int .i64 ((i10 + 1 : Nat) : Int)) rfl (by kernel_rfl)) ?_
            refine WR.nil ?_
            intro w hw
            exact ⟨hl15, (z36.1, z62.1), h, Γ64, row42, row68, (sl_ (by kernel_rfl)), (hw.only (is := [1, 0]) rfl), (((hl2.trans hl19).trans hl39).trans hl65), (hr43.mono hl65), hr69, trivial⟩
        · skip
          have h := bf hb61 h
          refine WR.unsat (c0 := true) (g := (!z36.2.2.2)) rfl rfl rfl hb61 rfl ?_
          refine WR.unsat (c0 := true) (g := (!z36.2.2.2)) rfl rfl rfl hb61 rfl ?_
          refine va rfl rfl rfl (q_pick_t (v := .bool true) rfl rfl (not_f hb61) (by kernel_rfl)) ?_
          refine WR.nil ?_
          change WC _ _ _ _ _ _
          refine WC.ctk (b := true) (by kernel_rfl) rfl ?_
          refine WC.rs ?_
          refine va rfl rfl rfl (q_assign (v := .bool false) rfl (by kernel_rfl)) ?_
          refine WR.nil ?_
          change WC _ _ _ _ _ _
          refine WC.ret ?_
          intro w hw
          obtain rfl := Option.some.inj h
          subst hF
          exact end_e (is := [0, 2]) (by kernel_rfl) hw rfl ⟨row42, row7, rfl, rfl, hr43, (ho8.mono (hl19.trans hl39)), trivial⟩
  · skip
    have h := hge13 (ige hb14)
    refine WC.exit ?_
    change WC _ _ _ _ _ _
    refine WC.rs ?_
    refine va rfl rfl rfl (q_assign (v := .bool false) rfl (by kernel_rfl)) ?_
    refine WR.nil ?_
    change WC _ _ _ _ _ _
    refine WC.ret ?_
    intro w hw
    obtain rfl := Option.some.inj h
    subst hF
    exact end_e (is := [0, 0]) (by kernel_rfl) hw rfl ⟨row4, row7, rfl, rfl, ho5, ho8, trivial⟩
set_option maxRecDepth 100000 in
set_option maxHeartbeats 400000 in
theorem t_pull_Cut_Id {Γ : Gh} {w0 : World} {gc_ ec_ : Nat} {rowc_ : Rowb} {c_ : Opull_Cut} (hc_ : Opull_Cut.ob ec_ Γ gc_ rowc_ c_) (hc_r : ∀ p ∈ rowc_, Γ p.1 = some p.2) (hs : Sat Γ w0) {r : Int} (h : m_pull_Cut_Id c_ = some r) : Calls Tryz.prog 21 #[.pointer (some ⟨gc_, 0, none⟩)] w0 (fun e w' => e = .returned (.int .i64 r) ∧ Fr no w0 w') := by
  refine calls_of (N := 7) (rs := [2]) (args := [.pointer (some ⟨gc_, 0, none⟩)]) Tryz.func21 rfl Tryz.ntmps21 Tryz.results21 rfl ?_
  obtain ⟨F, hF⟩ : ∃ F : Fm, F = ⟨no, w0, Γ⟩ := ⟨_, rfl⟩
  refine WC.here (C := CC F Γ []) ?_ (hF ▸ Cur.start0 hs)
  refine WC.rs ?_
  refine va rfl rfl rfl (q_assign (v := .int .i64 0) rfl (by kernel_rfl)) ?_
  refine WR.nil ?_
  change WC _ _ _ _ _ _
  refine WC.rs ?_
  refine va rfl rfl rfl (q_move (v := .pointer (some ⟨gc_, 0, none⟩)) rfl (by kernel_rfl)) ?_
  refine va rfl rfl rfl (q_nil (A := some ⟨gc_, 0, none⟩) rfl rfl rfl) ?_
  refine va rfl rfl rfl (q_fl 0 fld_85_0 rfl rfl rfl) ?_
  have hq := hc_
  obtain ⟨A1_1, c1_1, g2_1, r2_1, hrow_1, ho0_1, ho1_1, ho2_1, ho3_1, -⟩ := hq
  have hg_2 : ∀ u ∈ ([[(gc_, .cells #[.int .i64 c_.id, .slice A1_1 c_.vec.length c1_1, .pointer (some ⟨g2_1, 0, none⟩)] ec_ (0, 0))], r2_1] : List Rowb), ∀ p ∈ u, Γ p.1 = some p.2 := fun u hu p hp => (fun p hp => (hc_r p hp)) p (hrow_1 ▸ List.mem_flatten.2 ⟨u, hu, hp⟩)
  have hgc3 := hg_2 _ (List.mem_cons_self ..) (gc_, _) (List.mem_singleton.2 rfl)
  have hgs4 := hg_2 r2_1 (by simp)
  refine va rfl rfl rfl (q_ldg (v := .int .i64 c_.id) hgc3 rfl Tryz.isAgg2 rfl rfl) ?_
  refine va rfl rfl rfl (q_assign (v := .int .i64 c_.id) rfl (by kernel_rfl)) ?_
  refine WR.nil ?_
  change WC _ _ _ _ _ _
  refine WC.ret ?_
  intro w hw
  obtain rfl := Option.some.inj h
  subst hF
  exact ⟨by kernel_rfl, hw.fr⟩
set_option maxRecDepth 100000 in
set_option maxHeartbeats 400000 in
theorem t_pull_Pull_Id {Γ : Gh} {w0 : World} {gp_ ep_ : Nat} {rowp_ : Rowb} {p_ : Opull_Pull} (hp_ : Opull_Pull.ob ep_ Γ gp_ rowp_ p_) (hp_r : ∀ p ∈ rowp_, Γ p.1 = some p.2) (hs : Sat Γ w0) {r : Int} (h : m_pull_Pull_Id p_ = some r) : Calls Tryz.prog 34 #[.pointer (some ⟨gp_, 0, none⟩)] w0 (fun e w' => e = .returned (.int .i64 r) ∧ Fr no w0 w') := by
  refine calls_of (N := 7) (rs := [2]) (args := [.pointer (some ⟨gp_, 0, none⟩)]) Tryz.func34 rfl Tryz.ntmps34 Tryz.results34 rfl ?_
  obtain ⟨F, hF⟩ : ∃ F : Fm, F = ⟨no, w0, Γ⟩ := ⟨_, rfl⟩
  refine WC.here (C := CC F Γ []) ?_ (hF ▸ Cur.start0 hs)
  refine WC.rs ?_
  refine va rfl rfl rfl (q_assign (v := .int .i64 0) rfl (by kernel_rfl)) ?_
  refine WR.nil ?_
  change WC _ _ _ _ _ _
  refine WC.rs ?_
  refine va rfl rfl rfl (q_move (v := .pointer (some ⟨gp_, 0, none⟩)) rfl (by kernel_rfl)) ?_
  refine va rfl rfl rfl (q_nil (A := some ⟨gp_, 0, none⟩) rfl rfl rfl) ?_
  refine va rfl rfl rfl (q_fl 0 fld_97_0 rfl rfl rfl) ?_
  have hq := hp_
  obtain ⟨g1_1, r1_1, A3_1, c3_1, A4_1, c4_1, r4_1, g5_1, r5_1, hrow_1, ho0_1, ho1_1, ho2_1, ho3_1, ho4_1, ho5_1, -⟩ := hq
  have hg_2 : ∀ u ∈ ([[(gp_, .cells #[.int .i64 p_.id, .pointer (some ⟨g1_1, 0, none⟩), .bool p_.begun, .slice A3_1 p_.vec.length c3_1, .slice A4_1 p_.wants.length c4_1, .pointer (some ⟨g5_1, 0, none⟩)] ep_ (0, 0))], r1_1, r4_1, r5_1] : List Rowb), ∀ p ∈ u, Γ p.1 = some p.2 := fun u hu p hp => (fun p hp => (hp_r p hp)) p (hrow_1 ▸ List.mem_flatten.2 ⟨u, hu, hp⟩)
  have hgc3 := hg_2 _ (List.mem_cons_self ..) (gp_, _) (List.mem_singleton.2 rfl)
  have hgs4 := hg_2 r1_1 (by simp)
  have hgs5 := hg_2 r4_1 (by simp)
  have hgs6 := hg_2 r5_1 (by simp)
  have hs7 := ho4_1.sl (Gh.refl _) hgs5
  refine va rfl rfl rfl (q_ldg (v := .int .i64 p_.id) hgc3 rfl Tryz.isAgg2 rfl rfl) ?_
  refine va rfl rfl rfl (q_assign (v := .int .i64 p_.id) rfl (by kernel_rfl)) ?_
  refine WR.nil ?_
  change WC _ _ _ _ _ _
  refine WC.ret ?_
  intro w hw
  obtain rfl := Option.some.inj h
  subst hF
  exact ⟨by kernel_rfl, hw.fr⟩
abbrev r_pull_Pull_Staged (gp_ : Nat) (ep_ : Nat) (rowp_ : Rowb) (r : List Rec) (U : List Rowb) (Γ : Gh) (v : Value) : Prop := ∃ (A0 : Option Addr), ∃ (c0 : Nat), ∃ (J0 : Rowb), v = .slice A0 r.length c0 ∧ U = [rowp_, J0] ∧ (J0.map (·.1)).Nodup ∧ r.length ≤ c0 ∧ Sl recT (ghr J0) A0 r ∧ True
set_option maxRecDepth 100000 in
set_option maxHeartbeats 400000 in
theorem t_pull_Pull_Staged {Γ : Gh} {w0 : World} {gp_ ep_ : Nat} {rowp_ : Rowb} {p_ : Opull_Pull} (hp_ : Opull_Pull.ob ep_ Γ gp_ rowp_ p_) (hp : Pre [rowp_] Γ w0) {r : List Rec} (h : m_pull_Pull_Staged p_ = some r) : Calls Tryz.prog 32 #[.pointer (some ⟨gp_, 0, none⟩)] w0 (Outc Γ [rowp_] w0 (r_pull_Pull_Staged gp_ ep_ rowp_ r)) := by
  refine calls_of (N := 8) (rs := [2]) (args := [.pointer (some ⟨gp_, 0, none⟩)]) Tryz.func32 rfl Tryz.ntmps32 Tryz.results32 rfl ?_
  obtain ⟨F, hF⟩ : ∃ F : Fm, F = ⟨ids [rowp_], w0, Γ⟩ := ⟨_, rfl⟩
  refine WC.here (C := CC F Γ [rowp_]) ?_ (hF ▸ hp.start)
  refine WC.rs ?_
  refine va rfl rfl rfl (q_assign (v := .slice none 0 0) rfl (by kernel_rfl)) ?_
  refine WR.nil ?_
  change WC _ _ _ _ _ _
  refine WC.rs ?_
  refine va rfl rfl rfl (q_move (v := .pointer (some ⟨gp_, 0, none⟩)) rfl (by kernel_rfl)) ?_
  refine va rfl rfl rfl (q_nil (A := some ⟨gp_, 0, none⟩) rfl rfl rfl) ?_
  refine va rfl rfl rfl (q_fl 5 fld_97_5 rfl rfl rfl) ?_
  have hq := hp_
  obtain ⟨g1_1, r1_1, A3_1, c3_1, A4_1, c4_1, r4_1, g5_1, r5_1, hrow_1, ho0_1, ho1_1, ho2_1, ho3_1, ho4_1, ho5_1, -⟩ := hq
  intro w hw; have hw := hw.unfold (i := 0) rfl hrow_1
  refine WR.here (C := CC F Γ [[(gp_, .cells #[.int .i64 p_.id, .pointer (some ⟨g1_1, 0, none⟩), .bool p_.begun, .slice A3_1 p_.vec.length c3_1, .slice A4_1 p_.wants.length c4_1, .pointer (some ⟨g5_1, 0, none⟩)] ep_ (0, 0))], r1_1, r4_1, r5_1]) ?_ hw
  clear hw
  refine va rfl rfl rfl (q_ldl (i := 0) (v := .pointer (some ⟨g5_1, 0, none⟩)) rfl rfl Tryz.isAgg79 rfl rfl) ?_
  obtain ⟨z2, hz3, h⟩ := bnd h
  refine e_callF (is := [3]) (Lent.nil F) rfl rfl (call_run Tryz.call53 rfl rfl (by kernel_rfl)) rfl (fun w Θ hp hpB hle hleB hR => t_tree_Tree_Recs_x (ho5_1.mono hle) (Sl.nil intT _ none) (Nat.zero_le 0) hp hpB hz3) ?_
  rintro J4 U6 v7 hn5 ⟨A8, c9, row10, rfl, rfl, hr11, _⟩
  refine WR.sub (fun w hw => hw.only (is := [0, 1, 0, 0, 0, 0]) rfl) ?_
  change WR _ _ _ (CC F Γ [J4, row10, r5_1, [(gp_, .cells #[.int .i64 p_.id, .pointer (some ⟨g1_1, 0, none⟩), .bool p_.begun, .slice A3_1 p_.vec.length c3_1, .slice A4_1 p_.wants.length c4_1, .pointer (some ⟨g5_1, 0, none⟩)] ep_ (0, 0))], r1_1, r4_1]) _ _ _
  refine WR.join2 fun hn12 => ?_
  have hr13 := hr11.sl (ghr_left hn12) (ghr_right hn12)
  have hc14 := hr11.capz
  change WR _ _ _ (CC F Γ [(J4 ++ row10), r5_1, [(gp_, .cells #[.int .i64 p_.id, .pointer (some ⟨g1_1, 0, none⟩), .bool p_.begun, .slice A3_1 p_.vec.length c3_1, .slice A4_1 p_.wants.length c4_1, .pointer (some ⟨g5_1, 0, none⟩)] ep_ (0, 0))], r1_1, r4_1]) _ _ (upd _ 7 (.slice A8 z2.length c9))
  refine va rfl rfl rfl (q_assign (v := .slice A8 z2.length c9) rfl (by kernel_rfl)) ?_
  refine WR.nil ?_
  change WC _ _ _ _ _ _
  refine WC.ret ?_
  intro w hw
  have hw := hw.fold (is := [2, 2, 2, 1]) rfl hrow_1
  obtain rfl := Option.some.inj h
  subst hF
  exact end_e (is := [0, 0]) (by kernel_rfl) hw rfl ⟨A8, c9, (J4 ++ row10), rfl, rfl, hn12, hc14, hr13, trivial⟩
set_option maxRecDepth 100000 in
set_option maxHeartbeats 400000 in
theorem t_firthref03_Same {Γ : Gh} {w0 : World} {Aa : Option Addr} {ca : Nat} {a : List Span} (ha : Sl spanT Γ Aa a) (hac : a.length ≤ ca) {Ab : Option Addr} {cb : Nat} {b : List Span} (hb : Sl spanT Γ Ab b) (hbc : b.length ≤ cb) (hs : Sat Γ w0) {r : Bool} (h : m_firthref03_Same a b = some r) : Calls Tryz.prog 88 #[.slice Aa a.length ca, .slice Ab b.length cb] w0 (fun e w' => e = .returned (.bool r) ∧ Fr no w0 w') := by
  refine calls_of (N := 26) (rs := [4]) (args := [.slice Aa a.length ca, .slice Ab b.length cb]) Tryz.func88 rfl Tryz.ntmps88 Tryz.results88 rfl ?_
  obtain ⟨F, hF⟩ : ∃ F : Fm, F = ⟨no, w0, Γ⟩ := ⟨_, rfl⟩
  refine WC.here (C := CC F Γ []) ?_ (hF ▸ Cur.start0 hs)
  refine WC.rs ?_
  refine va rfl rfl rfl (q_assign (v := .bool false) rfl (by kernel_rfl)) ?_
  refine WR.nil ?_
  change WC _ _ _ _ _ _
  refine WC.seq ?_
  refine WC.rs ?_
  refine va rfl rfl rfl (q_move (v := .slice Aa a.length ca) rfl (by kernel_rfl)) ?_
  refine va rfl rfl rfl (q_len_slice rfl Tryz.underlying113 rfl) ?_
  refine va rfl rfl rfl (q_move (v := .slice Ab b.length cb) rfl (by kernel_rfl)) ?_
  refine va rfl rfl rfl (q_len_slice rfl Tryz.underlying113 rfl) ?_
  refine va rfl rfl rfl (q_neq rfl rfl rfl) ?_
  refine WR.nil ?_
  change WC _ _ _ _ _ _
  refine WC.cif h (by kernel_rfl) (fun hb1 h => ?_) (fun hb1 h => ?_)
  · skip
    refine WC.rs ?_
    refine va rfl rfl rfl (q_assign (v := .bool false) rfl (by kernel_rfl)) ?_
    refine WR.nil ?_
    change WC _ _ _ _ _ _
    refine WC.ret ?_
    intro w hw
    obtain rfl := Option.some.inj h
    subst hF
    exact ⟨by kernel_rfl, hw.fr⟩
  · skip
    refine WC.skip ?_
    change WC _ _ _ _ _ _
    refine WC.seq ?_
    refine WC.rs ?_
    refine va rfl rfl rfl (q_assign (v := .int .i64 0) rfl (by kernel_rfl)) ?_
    refine WR.nil ?_
    change WC _ _ _ _ _ _
    refine WC.block ?_
    refine WC.forI h (fun (i3 : Nat) (s : Unit) σ w => match s with | () => slots σ [(0, .slice Aa a.length ca), (1, .slice Ab b.length cb), (5, .int .i64 ((i3 : Nat) : Int))] ∧ CC F Γ [] w ∧ True) ?_ ?_
    · skip
      intro w hw
      exact ⟨(sl_ (by kernel_rfl)), hw, trivial⟩
    rintro f2 i3 ⟨⟩ σ w hi4 hlt5 hge6 ⟨hsl, hw, -⟩
    refine Wpt.slots hsl ?_
    refine WC.here (C := CC F Γ []) ?_ hw
    clear hw hsl
    refine WC.seq ?_
    refine WC.rs ?_
    refine va rfl rfl rfl (q_move (v := .int .i64 ((i3 : Nat) : Int)) rfl (by kernel_rfl)) ?_
    refine va rfl rfl rfl (q_move (v := .slice Aa a.length ca) rfl (by kernel_rfl)) ?_
    refine va rfl rfl rfl (q_len_slice rfl Tryz.underlying113 rfl) ?_
    refine va rfl rfl rfl (q_lss rfl rfl rfl) ?_
    refine WR.nil ?_
    change WC _ _ _ _ _ _
    refine WC.cond (b := (decide (((i3 : Nat) : Int) < ((a.length : Nat) : Int)))) (by kernel_rfl) (fun hb7 => ?_) (fun hb7 => ?_)
    · skip
      have hl8 := ilt hb7
      have h := hlt5 hl8
      refine WC.skip ?_
      change WC _ _ _ _ _ _
      refine WC.seq ?_
      refine WC.block ?_
      refine WC.seq ?_
      refine WC.dr (by kernel_rfl) (by kernel_rfl) (fun w hw => hw.drawn _) ?_
      refine wa rfl rfl rfl (q_move (v := .slice Aa a.length ca) rfl (by kernel_rfl)) ?_
      refine wa rfl rfl rfl (q_move (v := .int .i64 ((i3 : Nat) : Int)) rfl (by kernel_rfl)) ?_
      refine wa rfl rfl rfl (q_ixn (i := i3) Tryz.underlying113 Tryz.sizeOf117 rfl rfl rfl hl8 (ha.some_ hl8)) ?_
      refine wa rfl rfl rfl (q_lda (c := 0) (vs := [.int .i64 (gt a i3).s, .int .i64 (gt a i3).f, .int .i64 (gt a i3).t]) (ha.spanT_at hl8).2 rfl Tryz.isAgg117 Tryz.sizeOf117 rfl rfl rfl) ?_
      refine wa rfl rfl rfl (q_move (v := .slice Ab b.length cb) rfl (by kernel_rfl)) ?_
      refine wa rfl rfl rfl (q_move (v := .int .i64 ((i3 : Nat) : Int)) rfl (by kernel_rfl)) ?_
      obtain ⟨hk9, h⟩ := chk_some h
      refine wa rfl rfl rfl (q_ixn (i := i3) Tryz.underlying113 Tryz.sizeOf117 rfl rfl rfl (of_decide_eq_true hk9) (hb.some_ (of_decide_eq_true hk9))) ?_
      refine wa rfl rfl rfl (q_lda (c := 0) (vs := [.int .i64 (gt b i3).s, .int .i64 (gt b i3).f, .int .i64 (gt b i3).t]) (hb.spanT_at (of_decide_eq_true hk9)).2 rfl Tryz.isAgg117 Tryz.sizeOf117 rfl rfl rfl) ?_
      refine wa rfl rfl rfl (q_neq_Span (a := (gt a i3)) (b := (gt b i3)) rfl rfl rfl) ?_
      refine WQ.nil ?_
      change WC _ _ _ _ _ _
      refine WC.cif h (by kernel_rfl) (fun hb10 h => ?_) (fun hb10 h => ?_)
      · skip
        refine WC.rs ?_
        refine va rfl rfl rfl (q_assign (v := .bool false) rfl (by kernel_rfl)) ?_
        refine WR.nil ?_
        change WC _ _ _ _ _ _
        refine WC.ret ?_
        intro w hw
        obtain rfl := Option.some.inj h
        subst hF
        exact ⟨by kernel_rfl, hw.fr⟩
      · skip
        refine WC.skip ?_
        change WC _ _ _ _ _ _
        refine WC.region ?_
        refine va rfl rfl rfl (q_move (v := .int .i64 ((i3 : Nat) : Int)) rfl (by kernel_rfl)) ?_
        refine va rfl rfl rfl (q_add_r (r := ((i3 + 1 : Nat) : Int)) rfl rfl rfl (ctr_len hl8 ha.le)) ?_
        refine va rfl rfl rfl (q_assign (v := .int .i64 ((i3 + 1 : Nat) : Int)) rfl (by kernel_rfl)) ?_
        refine WR.nil ?_
        intro w hw
        exact ⟨hl8, (), h, (sl_ (by kernel_rfl)), hw, trivial⟩
    · skip
      have h := hge6 (ige hb7)
      refine WC.exit ?_
      change WC _ _ _ _ _ _
      refine WC.rs ?_
      refine va rfl rfl rfl (q_assign (v := .bool true) rfl (by kernel_rfl)) ?_
      refine WR.nil ?_
      change WC _ _ _ _ _ _
      refine WC.ret ?_
      intro w hw
      obtain rfl := Option.some.inj h
      subst hF
      exact ⟨by kernel_rfl, hw.fr⟩
set_option maxRecDepth 100000 in
set_option maxHeartbeats 400000 in
theorem t_firthref05_SameOne {Γ : Gh} {w0 : World} {Aa2 : Option Addr} {ca2 : Nat} (a : Ver) (ha : Ver.fits Γ Aa2 ca2 a) {Ab2 : Option Addr} {cb2 : Nat} (b : Ver) (hb : Ver.fits Γ Ab2 cb2 b) (hs : Sat Γ w0) {r : Bool} (h : m_firthref05_SameOne a b = some r) : Calls Tryz.prog 72 #[.agg #[.int .i64 a.dot.s, .int .i64 a.dot.n, .slice Aa2 a.past.length ca2, .bool a.gone, .string a.val], .agg #[.int .i64 b.dot.s, .int .i64 b.dot.n, .slice Ab2 b.past.length cb2, .bool b.gone, .string b.val]] w0 (fun e w' => e = .returned (.bool r) ∧ Fr no w0 w') := by
  refine calls_of (N := 31) (rs := [4]) (args := [.agg #[.int .i64 a.dot.s, .int .i64 a.dot.n, .slice Aa2 a.past.length ca2, .bool a.gone, .string a.val], .agg #[.int .i64 b.dot.s, .int .i64 b.dot.n, .slice Ab2 b.past.length cb2, .bool b.gone, .string b.val]]) Tryz.func72 rfl Tryz.ntmps72 Tryz.results72 rfl ?_
  obtain ⟨F, hF⟩ : ∃ F : Fm, F = ⟨no, w0, Γ⟩ := ⟨_, rfl⟩
  refine WC.here (C := CC F Γ []) ?_ (hF ▸ Cur.start0 hs)
  refine WC.rs ?_
  refine e_box (v := .agg #[.int .i64 a.dot.s, .int .i64 a.dot.n, .slice Aa2 a.past.length ca2, .bool a.gone, .string a.val]) rfl rfl rfl rfl (by kernel_rfl) ?_
  intro g1
  refine e_box (v := .agg #[.int .i64 b.dot.s, .int .i64 b.dot.n, .slice Ab2 b.past.length cb2, .bool b.gone, .string b.val]) rfl rfl rfl rfl (by kernel_rfl) ?_
  intro g2
  refine va rfl rfl rfl (q_assign (v := .bool false) rfl (by kernel_rfl)) ?_
  refine WR.nil ?_
  change WC _ _ _ _ _ _
  refine WC.rs ?_
  refine va rfl rfl rfl (q_fl 0 fld_115_0 rfl rfl rfl) ?_
  refine va rfl rfl rfl (q_ldla (i := 1) (vs := [.int .i64 a.dot.s, .int .i64 a.dot.n]) rfl rfl Tryz.isAgg112 Tryz.sizeOf112 rfl rfl) ?_
  refine va rfl rfl rfl (q_fl 0 fld_115_0 rfl rfl rfl) ?_
  refine va rfl rfl rfl (q_ldla (i := 0) (vs := [.int .i64 b.dot.s, .int .i64 b.dot.n]) rfl rfl Tryz.isAgg112 Tryz.sizeOf112 rfl rfl) ?_
  refine va rfl rfl rfl (q_eql_Dot (a := a.dot) (b := b.dot) rfl rfl rfl) ?_
  refine va rfl rfl rfl (q_move (v := .bool (a.dot == b.dot)) rfl (by kernel_rfl)) ?_
  refine vg1 rfl rfl rfl rfl rfl (fun hg3 => QV.qo (q_fl 3 fld_115_2 rfl rfl rfl)) ?_
  refine vg1 rfl rfl rfl rfl rfl (fun hg4 => QV.qo (q_ldl (i := 1) (v := .bool a.gone) rfl rfl Tryz.isAgg4 (gu hg4 rfl) rfl)) ?_
  refine vg1 rfl rfl rfl rfl rfl (fun hg5 => QV.qo (q_fl 3 fld_115_2 rfl rfl rfl)) ?_
  refine vg1 rfl rfl rfl rfl rfl (fun hg6 => QV.qo (q_ldl (i := 0) (v := .bool b.gone) rfl rfl Tryz.isAgg4 (gu hg6 rfl) rfl)) ?_
  refine vg1 rfl rfl rfl rfl rfl (fun hg7 => QV.qo (q_beql Tryz.underlying4 rfl (gu hg7 rfl) (gu hg7 rfl))) ?_
  refine va rfl rfl rfl (q_pick rfl rfl (pk_and' (g := (a.dot == b.dot)) (y := (a.gone == b.gone)))) ?_
  refine va rfl rfl rfl (q_move (v := .bool ((a.dot == b.dot) && (a.gone == b.gone))) rfl (by kernel_rfl)) ?_
  refine vg1 rfl rfl rfl rfl rfl (fun hg8 => QV.qo (q_fl 4 fld_115_3 rfl rfl rfl)) ?_
  refine vg1 rfl rfl rfl rfl rfl (fun hg9 => QV.qo (q_ldl (i := 1) (v := .string a.val) rfl rfl Tryz.isAgg9 (gu hg9 rfl) rfl)) ?_
  refine vg1 rfl rfl rfl rfl rfl (fun hg10 => QV.qo (q_fl 4 fld_115_3 rfl rfl rfl)) ?_
  refine vg1 rfl rfl rfl rfl rfl (fun hg11 => QV.qo (q_ldl (i := 0) (v := .string b.val) rfl rfl Tryz.isAgg9 (gu hg11 rfl) rfl)) ?_
  refine vg1 rfl rfl rfl rfl rfl (fun hg12 => QV.qo (q_seql rfl (gu hg12 rfl) (gu hg12 rfl))) ?_
  refine va rfl rfl rfl (q_pick rfl rfl (pk_and' (g := ((a.dot == b.dot) && (a.gone == b.gone))) (y := (a.val == b.val)))) ?_
  refine va rfl rfl rfl (q_move (v := .bool (((a.dot == b.dot) && (a.gone == b.gone)) && (a.val == b.val))) rfl (by kernel_rfl)) ?_
  refine vg1 rfl rfl rfl rfl rfl (fun hg13 => QV.qo (q_fl 2 fld_115_1 rfl rfl rfl)) ?_
  refine vg1 rfl rfl rfl rfl rfl (fun hg14 => QV.qo (q_ldl (i := 1) (v := .slice Aa2 a.past.length ca2) rfl rfl Tryz.isAgg113 (gu hg14 rfl) rfl)) ?_
  refine vg1 rfl rfl rfl rfl rfl (fun hg15 => QV.qo (q_fl 2 fld_115_1 rfl rfl rfl)) ?_
  refine vg1 rfl rfl rfl rfl rfl (fun hg16 => QV.qo (q_ldl (i := 0) (v := .slice Ab2 b.past.length cb2) rfl rfl Tryz.isAgg113 (gu hg16 rfl) rfl)) ?_
  obtain ⟨z18, hz19, h⟩ := bnd h
  refine vg1 rfl rfl rfl rfl rfl (fun hg17 => (q_call (call_run Tryz.call88 rfl rfl (args2 (gu hg17 rfl) (gu hg17 rfl))) (fun w hw => t_firthref03_Same (Γ := Gh.all w) (ha.2.2.1.2.mono hw.sat.le_all) ha.2.2.1.1 (hb.2.2.1.2.mono hw.sat.le_all) hb.2.2.1.1 (Sat.all w) (gc_of hz19 hg17)))) ?_
  refine va rfl rfl rfl (q_pick rfl rfl (pk_and' (g := (((a.dot == b.dot) && (a.gone == b.gone)) && (a.val == b.val))) (y := z18))) ?_
  refine va rfl rfl rfl (q_assign (v := .bool ((((a.dot == b.dot) && (a.gone == b.gone)) && (a.val == b.val)) && z18)) rfl (by kernel_rfl)) ?_
  refine WR.nil ?_
  change WC _ _ _ _ _ _
  refine WC.ret ?_
  intro w hw
  obtain rfl := Option.some.inj h
  subst hF
  exact ⟨by kernel_rfl, hw.fr⟩
set_option maxRecDepth 100000 in
set_option maxHeartbeats 400000 in
theorem t_firthref05_Same {Γ : Gh} {w0 : World} {Aa : Option Addr} {ca : Nat} {a : List Ver} (ha : Sl verT Γ Aa a) (hac : a.length ≤ ca) {Ab : Option Addr} {cb : Nat} {b : List Ver} (hb : Sl verT Γ Ab b) (hbc : b.length ≤ cb) (hs : Sat Γ w0) {r : Bool} (h : m_firthref05_Same a b = some r) : Calls Tryz.prog 39 #[.slice Aa a.length ca, .slice Ab b.length cb] w0 (fun e w' => e = .returned (.bool r) ∧ Fr no w0 w') := by
  refine calls_of (N := 27) (rs := [4]) (args := [.slice Aa a.length ca, .slice Ab b.length cb]) Tryz.func39 rfl Tryz.ntmps39 Tryz.results39 rfl ?_
  obtain ⟨F, hF⟩ : ∃ F : Fm, F = ⟨no, w0, Γ⟩ := ⟨_, rfl⟩
  refine WC.here (C := CC F Γ []) ?_ (hF ▸ Cur.start0 hs)
  refine WC.rs ?_
  refine va rfl rfl rfl (q_assign (v := .bool false) rfl (by kernel_rfl)) ?_
  refine WR.nil ?_
  change WC _ _ _ _ _ _
  refine WC.seq ?_
  refine WC.rs ?_
  refine va rfl rfl rfl (q_move (v := .slice Aa a.length ca) rfl (by kernel_rfl)) ?_
  refine va rfl rfl rfl (q_len_slice rfl Tryz.underlying67 rfl) ?_
  refine va rfl rfl rfl (q_move (v := .slice Ab b.length cb) rfl (by kernel_rfl)) ?_
  refine va rfl rfl rfl (q_len_slice rfl Tryz.underlying67 rfl) ?_
  refine va rfl rfl rfl (q_neq rfl rfl rfl) ?_
  refine WR.nil ?_
  change WC _ _ _ _ _ _
  refine WC.cif h (by kernel_rfl) (fun hb1 h => ?_) (fun hb1 h => ?_)
  · skip
    refine WC.rs ?_
    refine va rfl rfl rfl (q_assign (v := .bool false) rfl (by kernel_rfl)) ?_
    refine WR.nil ?_
    change WC _ _ _ _ _ _
    refine WC.ret ?_
    intro w hw
    obtain rfl := Option.some.inj h
    subst hF
    exact ⟨by kernel_rfl, hw.fr⟩
  · skip
    refine WC.skip ?_
    change WC _ _ _ _ _ _
    refine WC.seq ?_
    refine WC.rs ?_
    refine va rfl rfl rfl (q_assign (v := .int .i64 0) rfl (by kernel_rfl)) ?_
    refine WR.nil ?_
    change WC _ _ _ _ _ _
    refine WC.block ?_
    refine WC.forI h (fun (i3 : Nat) (s : Unit) σ w => match s with | () => slots σ [(0, .slice Aa a.length ca), (1, .slice Ab b.length cb), (5, .int .i64 ((i3 : Nat) : Int))] ∧ CC F Γ [] w ∧ True) ?_ ?_
    · skip
      intro w hw
      exact ⟨(sl_ (by kernel_rfl)), hw, trivial⟩
    rintro f2 i3 ⟨⟩ σ w hi4 hlt5 hge6 ⟨hsl, hw, -⟩
    refine Wpt.slots hsl ?_
    refine WC.here (C := CC F Γ []) ?_ hw
    clear hw hsl
    refine WC.seq ?_
    refine WC.rs ?_
    refine va rfl rfl rfl (q_move (v := .int .i64 ((i3 : Nat) : Int)) rfl (by kernel_rfl)) ?_
    refine va rfl rfl rfl (q_move (v := .slice Aa a.length ca) rfl (by kernel_rfl)) ?_
    refine va rfl rfl rfl (q_len_slice rfl Tryz.underlying67 rfl) ?_
    refine va rfl rfl rfl (q_lss rfl rfl rfl) ?_
    refine WR.nil ?_
    change WC _ _ _ _ _ _
    refine WC.cond (b := (decide (((i3 : Nat) : Int) < ((a.length : Nat) : Int)))) (by kernel_rfl) (fun hb7 => ?_) (fun hb7 => ?_)
    · skip
      have hl8 := ilt hb7
      have h := hlt5 hl8
      refine WC.skip ?_
      change WC _ _ _ _ _ _
      refine WC.seq ?_
      refine WC.block ?_
      refine WC.seq ?_
      refine WC.dr (by kernel_rfl) (by kernel_rfl) (fun w hw => hw.drawn _) ?_
      refine wa rfl rfl rfl (q_move (v := .slice Aa a.length ca) rfl (by kernel_rfl)) ?_
      refine wa rfl rfl rfl (q_move (v := .int .i64 ((i3 : Nat) : Int)) rfl (by kernel_rfl)) ?_
      refine wa rfl rfl rfl (q_ixn (i := i3) Tryz.underlying67 Tryz.sizeOf115 rfl rfl rfl hl8 (ha.some_ hl8)) ?_
      obtain ⟨A9, c10, hx11⟩ := ha.verT_at i3
      refine wa rfl rfl rfl (q_lda (c := 0) (vs := [.int .i64 (gt a i3).dot.s, .int .i64 (gt a i3).dot.n, .slice A9 ((gt a i3).past).length c10, .bool (gt a i3).gone, .string (gt a i3).val]) (hx11 hl8).2 rfl Tryz.isAgg115 Tryz.sizeOf115 rfl rfl rfl) ?_
      refine wa rfl rfl rfl (q_move (v := .slice Ab b.length cb) rfl (by kernel_rfl)) ?_
      refine wa rfl rfl rfl (q_move (v := .int .i64 ((i3 : Nat) : Int)) rfl (by kernel_rfl)) ?_
      obtain ⟨hk12, h⟩ := chk_some h
      refine wa rfl rfl rfl (q_ixn (i := i3) Tryz.underlying67 Tryz.sizeOf115 rfl rfl rfl (of_decide_eq_true hk12) (hb.some_ (of_decide_eq_true hk12))) ?_
      obtain ⟨A13, c14, hx15⟩ := hb.verT_at i3
      refine wa rfl rfl rfl (q_lda (c := 0) (vs := [.int .i64 (gt b i3).dot.s, .int .i64 (gt b i3).dot.n, .slice A13 ((gt b i3).past).length c14, .bool (gt b i3).gone, .string (gt b i3).val]) (hx15 (of_decide_eq_true hk12)).2 rfl Tryz.isAgg115 Tryz.sizeOf115 rfl rfl rfl) ?_
      obtain ⟨z16, hz17, h⟩ := bnd h
      refine wc rfl rfl rfl (q_call (call_run Tryz.call72 rfl rfl (by kernel_rfl)) (fun w hw => t_firthref05_SameOne (Γ := Gh.all w) (gt a i3) (Ver.fits_mono (hx11 hl8).1 hw.sat.le_all) (gt b i3) (Ver.fits_mono (hx15 (of_decide_eq_true hk12)).1 hw.sat.le_all) (Sat.all w) hz17)) ?_
      refine wa rfl rfl rfl (q_not rfl rfl) ?_
      refine WQ.nil ?_
      change WC _ _ _ _ _ _
      refine WC.cif h (by kernel_rfl) (fun hb18 h => ?_) (fun hb18 h => ?_)
      · skip
        refine WC.rs ?_
        refine va rfl rfl rfl (q_assign (v := .bool false) rfl (by kernel_rfl)) ?_
        refine WR.nil ?_
        change WC _ _ _ _ _ _
        refine WC.ret ?_
        intro w hw
        obtain rfl := Option.some.inj h
        subst hF
        exact ⟨by kernel_rfl, hw.fr⟩
      · skip
        refine WC.skip ?_
        change WC _ _ _ _ _ _
        refine WC.region ?_
        refine va rfl rfl rfl (q_move (v := .int .i64 ((i3 : Nat) : Int)) rfl (by kernel_rfl)) ?_
        refine va rfl rfl rfl (q_add_r (r := ((i3 + 1 : Nat) : Int)) rfl rfl rfl (ctr_len hl8 ha.le)) ?_
        refine va rfl rfl rfl (q_assign (v := .int .i64 ((i3 + 1 : Nat) : Int)) rfl (by kernel_rfl)) ?_
        refine WR.nil ?_
        intro w hw
        exact ⟨hl8, (), h, (sl_ (by kernel_rfl)), hw, trivial⟩
    · skip
      have h := hge6 (ige hb7)
      refine WC.exit ?_
      change WC _ _ _ _ _ _
      refine WC.rs ?_
      refine va rfl rfl rfl (q_assign (v := .bool true) rfl (by kernel_rfl)) ?_
      refine WR.nil ?_
      change WC _ _ _ _ _ _
      refine WC.ret ?_
      intro w hw
      obtain rfl := Option.some.inj h
      subst hF
      exact ⟨by kernel_rfl, hw.fr⟩
set_option maxRecDepth 100000 in
set_option maxHeartbeats 400000 in
theorem t_firthref06_SameRecs {Γ : Gh} {w0 : World} {Aa : Option Addr} {ca : Nat} {a : List Rec} (ha : Sl recT Γ Aa a) (hac : a.length ≤ ca) {Ab : Option Addr} {cb : Nat} {b : List Rec} (hb : Sl recT Γ Ab b) (hbc : b.length ≤ cb) (hs : Sat Γ w0) {r : Bool} (h : m_firthref06_SameRecs a b = some r) : Calls Tryz.prog 16 #[.slice Aa a.length ca, .slice Ab b.length cb] w0 (fun e w' => e = .returned (.bool r) ∧ Fr no w0 w') := by
  refine calls_of (N := 42) (rs := [4]) (args := [.slice Aa a.length ca, .slice Ab b.length cb]) Tryz.func16 rfl Tryz.ntmps16 Tryz.results16 rfl ?_
  obtain ⟨F, hF⟩ : ∃ F : Fm, F = ⟨no, w0, Γ⟩ := ⟨_, rfl⟩
  refine WC.here (C := CC F Γ []) ?_ (hF ▸ Cur.start0 hs)
  refine WC.rs ?_
  refine va rfl rfl rfl (q_assign (v := .bool false) rfl (by kernel_rfl)) ?_
  refine WR.nil ?_
  change WC _ _ _ _ _ _
  refine WC.seq ?_
  refine WC.rs ?_
  refine va rfl rfl rfl (q_move (v := .slice Aa a.length ca) rfl (by kernel_rfl)) ?_
  refine va rfl rfl rfl (q_len_slice rfl Tryz.underlying23 rfl) ?_
  refine va rfl rfl rfl (q_move (v := .slice Ab b.length cb) rfl (by kernel_rfl)) ?_
  refine va rfl rfl rfl (q_len_slice rfl Tryz.underlying23 rfl) ?_
  refine va rfl rfl rfl (q_neq rfl rfl rfl) ?_
  refine WR.nil ?_
  change WC _ _ _ _ _ _
  refine WC.cif h (by kernel_rfl) (fun hb1 h => ?_) (fun hb1 h => ?_)
  · skip
    refine WC.rs ?_
    refine va rfl rfl rfl (q_assign (v := .bool false) rfl (by kernel_rfl)) ?_
    refine WR.nil ?_
    change WC _ _ _ _ _ _
    refine WC.ret ?_
    intro w hw
    obtain rfl := Option.some.inj h
    subst hF
    exact ⟨by kernel_rfl, hw.fr⟩
  · skip
    refine WC.skip ?_
    change WC _ _ _ _ _ _
    refine WC.seq ?_
    refine WC.rs ?_
    refine va rfl rfl rfl (q_assign (v := .int .i64 0) rfl (by kernel_rfl)) ?_
    refine WR.nil ?_
    change WC _ _ _ _ _ _
    refine WC.block ?_
    refine WC.forI h (fun (i3 : Nat) (s : Unit) σ w => match s with | () => slots σ [(0, .slice Aa a.length ca), (1, .slice Ab b.length cb), (5, .int .i64 ((i3 : Nat) : Int))] ∧ CC F Γ [] w ∧ True) ?_ ?_
    · skip
      intro w hw
      exact ⟨(sl_ (by kernel_rfl)), hw, trivial⟩
    rintro f2 i3 ⟨⟩ σ w hi4 hlt5 hge6 ⟨hsl, hw, -⟩
    refine Wpt.slots hsl ?_
    refine WC.here (C := CC F Γ []) ?_ hw
    clear hw hsl
    refine WC.seq ?_
    refine WC.rs ?_
    refine va rfl rfl rfl (q_move (v := .int .i64 ((i3 : Nat) : Int)) rfl (by kernel_rfl)) ?_
    refine va rfl rfl rfl (q_move (v := .slice Aa a.length ca) rfl (by kernel_rfl)) ?_
    refine va rfl rfl rfl (q_len_slice rfl Tryz.underlying23 rfl) ?_
    refine va rfl rfl rfl (q_lss rfl rfl rfl) ?_
    refine WR.nil ?_
    change WC _ _ _ _ _ _
    refine WC.cond (b := (decide (((i3 : Nat) : Int) < ((a.length : Nat) : Int)))) (by kernel_rfl) (fun hb7 => ?_) (fun hb7 => ?_)
    · skip
      have hl8 := ilt hb7
      have h := hlt5 hl8
      refine WC.skip ?_
      change WC _ _ _ _ _ _
      refine WC.seq ?_
      refine WC.block ?_
      refine WC.seq ?_
      refine WC.dr (by kernel_rfl) (by kernel_rfl) (fun w hw => hw.drawn _) ?_
      refine wa rfl rfl rfl (q_move (v := .slice Aa a.length ca) rfl (by kernel_rfl)) ?_
      refine wa rfl rfl rfl (q_move (v := .int .i64 ((i3 : Nat) : Int)) rfl (by kernel_rfl)) ?_
      refine wa rfl rfl rfl (q_ixn (i := i3) Tryz.underlying23 Tryz.sizeOf70 rfl rfl rfl hl8 (ha.some_ hl8)) ?_
      refine wa rfl rfl rfl (q_field_addr (i3 * 2) fld_70_0 rfl rfl (ha.some_ hl8) rfl) ?_
      obtain ⟨A9, c10, hx11⟩ := ha.recT_at i3
      refine wa rfl rfl rfl (q_ld (c := 0) (v := .string (gt a i3).key) (hx11 hl8).2 rfl Tryz.isAgg9 rfl rfl) ?_
      refine wa rfl rfl rfl (q_move (v := .slice Ab b.length cb) rfl (by kernel_rfl)) ?_
      refine wa rfl rfl rfl (q_move (v := .int .i64 ((i3 : Nat) : Int)) rfl (by kernel_rfl)) ?_
      obtain ⟨hk12, h⟩ := chk_some h
      refine wa rfl rfl rfl (q_ixn (i := i3) Tryz.underlying23 Tryz.sizeOf70 rfl rfl rfl (of_decide_eq_true hk12) (hb.some_ (of_decide_eq_true hk12))) ?_
      refine wa rfl rfl rfl (q_field_addr (i3 * 2) fld_70_0 rfl rfl (hb.some_ (of_decide_eq_true hk12)) rfl) ?_
      obtain ⟨A13, c14, hx15⟩ := hb.recT_at i3
      refine wa rfl rfl rfl (q_ld (c := 0) (v := .string (gt b i3).key) (hx15 (of_decide_eq_true hk12)).2 rfl Tryz.isAgg9 rfl rfl) ?_
      refine wa rfl rfl rfl (q_sneq rfl rfl rfl) ?_
      refine wa rfl rfl rfl (q_move (v := .bool ((gt a i3).key != (gt b i3).key)) rfl (by kernel_rfl)) ?_
      refine wg0 rfl rfl rfl rfl rfl (fun hg16 => QV.qo (q_move (v := .slice Aa a.length ca) rfl (by kernel_rfl))) ?_
      refine wg0 rfl rfl rfl rfl rfl (fun hg17 => QV.qo (q_move (v := .int .i64 ((i3 : Nat) : Int)) rfl (by kernel_rfl))) ?_
      refine wg0 rfl rfl rfl rfl rfl (fun hg18 => QV.qo (q_ixn (i := i3) Tryz.underlying23 Tryz.sizeOf70 rfl (gu hg18 rfl) (gu hg18 rfl) hl8 (ha.some_ hl8))) ?_
      refine wg0 rfl rfl rfl rfl rfl (fun hg19 => QV.qo (q_field_addr (i3 * 2 + 1) fld_70_1 rfl (gu hg19 rfl) (ha.some_ hl8) rfl)) ?_
      refine wg0 rfl rfl rfl rfl rfl (fun hg20 => QV.qo (q_ld (c := 1) (v := .slice A9 ((gt a i3).vers).length c10) (hx11 hl8).2 rfl Tryz.isAgg67 (gu hg20 rfl) rfl)) ?_
      refine wg0 rfl rfl rfl rfl rfl (fun hg21 => QV.qo (q_move (v := .slice Ab b.length cb) rfl (by kernel_rfl))) ?_
      refine wg0 rfl rfl rfl rfl rfl (fun hg22 => QV.qo (q_move (v := .int .i64 ((i3 : Nat) : Int)) rfl (by kernel_rfl))) ?_
      refine wg0 rfl rfl rfl rfl rfl (fun hg23 => QV.qo (q_ixn (i := i3) Tryz.underlying23 Tryz.sizeOf70 rfl (gu hg23 rfl) (gu hg23 rfl) (of_decide_eq_true hk12) (hb.some_ (of_decide_eq_true hk12)))) ?_
      refine wg0 rfl rfl rfl rfl rfl (fun hg24 => QV.qo (q_field_addr (i3 * 2 + 1) fld_70_1 rfl (gu hg24 rfl) (hb.some_ (of_decide_eq_true hk12)) rfl)) ?_
      refine wg0 rfl rfl rfl rfl rfl (fun hg25 => QV.qo (q_ld (c := 1) (v := .slice A13 ((gt b i3).vers).length c14) (hx15 (of_decide_eq_true hk12)).2 rfl Tryz.isAgg67 (gu hg25 rfl) rfl)) ?_
      obtain ⟨z27, hz28, h⟩ := bnd h
      refine wg0 rfl rfl rfl rfl rfl (fun hg26 => (q_call (call_run Tryz.call39 rfl rfl (args2 (gu hg26 rfl) (gu hg26 rfl))) (fun w hw => t_firthref05_Same (Γ := Gh.all w) ((hx11 hl8).1.2.2.mono hw.sat.le_all) (hx11 hl8).1.2.1 ((hx15 (of_decide_eq_true hk12)).1.2.2.mono hw.sat.le_all) (hx15 (of_decide_eq_true hk12)).1.2.1 (Sat.all w) (gc_of hz28 hg26)))) ?_
      refine wg0 rfl rfl rfl rfl rfl (fun hg29 => QV.qo (q_not rfl (gu hg29 rfl))) ?_
      refine wa rfl rfl rfl (q_pick rfl rfl (pk_or' (g := ((gt a i3).key != (gt b i3).key)) (y := (!z27)))) ?_
      refine WQ.nil ?_
      change WC _ _ _ _ _ _
      refine WC.cif h (by kernel_rfl) (fun hb30 h => ?_) (fun hb30 h => ?_)
      · skip
        refine WC.rs ?_
        refine va rfl rfl rfl (q_assign (v := .bool false) rfl (by kernel_rfl)) ?_
        refine WR.nil ?_
        change WC _ _ _ _ _ _
        refine WC.ret ?_
        intro w hw
        obtain rfl := Option.some.inj h
        subst hF
        exact ⟨by kernel_rfl, hw.fr⟩
      · skip
        refine WC.skip ?_
        change WC _ _ _ _ _ _
        refine WC.region ?_
        refine va rfl rfl rfl (q_move (v := .int .i64 ((i3 : Nat) : Int)) rfl (by kernel_rfl)) ?_
        refine va rfl rfl rfl (q_add_r (r := ((i3 + 1 : Nat) : Int)) rfl rfl rfl (ctr_len hl8 ha.le)) ?_
        refine va rfl rfl rfl (q_assign (v := .int .i64 ((i3 + 1 : Nat) : Int)) rfl (by kernel_rfl)) ?_
        refine WR.nil ?_
        intro w hw
        exact ⟨hl8, (), h, (sl_ (by kernel_rfl)), hw, trivial⟩
    · skip
      have h := hge6 (ige hb7)
      refine WC.exit ?_
      change WC _ _ _ _ _ _
      refine WC.rs ?_
      refine va rfl rfl rfl (q_assign (v := .bool true) rfl (by kernel_rfl)) ?_
      refine WR.nil ?_
      change WC _ _ _ _ _ _
      refine WC.ret ?_
      intro w hw
      obtain rfl := Option.some.inj h
      subst hF
      exact ⟨by kernel_rfl, hw.fr⟩
abbrev r_pull_Pull_Vec (gp_ : Nat) (ep_ : Nat) (rowp_ : Rowb) (r : List Int) (U : List Rowb) (Γ : Gh) (v : Value) : Prop := ∃ (A0 : Option Addr), ∃ (c0 : Nat), ∃ (row0 : Rowb), v = .slice A0 r.length c0 ∧ U = [rowp_, row0] ∧ Own intT Γ 2 row0 A0 c0 r ∧ True
set_option maxRecDepth 100000 in
set_option maxHeartbeats 400000 in
theorem t_pull_Pull_Vec {Γ : Gh} {w0 : World} {gp_ ep_ : Nat} {rowp_ : Rowb} {p_ : Opull_Pull} (hp_ : Opull_Pull.ob ep_ Γ gp_ rowp_ p_) (hp : Pre [rowp_] Γ w0) {r : List Int} (h : m_pull_Pull_Vec p_ = some r) : Calls Tryz.prog 33 #[.pointer (some ⟨gp_, 0, none⟩)] w0 (Outc Γ [rowp_] w0 (r_pull_Pull_Vec gp_ ep_ rowp_ r)) := by
  refine calls_of (N := 8) (rs := [2]) (args := [.pointer (some ⟨gp_, 0, none⟩)]) Tryz.func33 rfl Tryz.ntmps33 Tryz.results33 rfl ?_
  obtain ⟨F, hF⟩ : ∃ F : Fm, F = ⟨ids [rowp_], w0, Γ⟩ := ⟨_, rfl⟩
  refine WC.here (C := CC F Γ [rowp_]) ?_ (hF ▸ hp.start)
  refine WC.rs ?_
  refine va rfl rfl rfl (q_assign (v := .slice none 0 0) rfl (by kernel_rfl)) ?_
  refine WR.nil ?_
  change WC _ _ _ _ _ _
  refine WC.rs ?_
  refine va rfl rfl rfl (q_move (v := .pointer (some ⟨gp_, 0, none⟩)) rfl (by kernel_rfl)) ?_
  refine va rfl rfl rfl (q_nil (A := some ⟨gp_, 0, none⟩) rfl rfl rfl) ?_
  refine va rfl rfl rfl (q_fl 3 fld_97_3 rfl rfl rfl) ?_
  have hq := hp_
  obtain ⟨g1_1, r1_1, A3_1, c3_1, A4_1, c4_1, r4_1, g5_1, r5_1, hrow_1, ho0_1, ho1_1, ho2_1, ho3_1, ho4_1, ho5_1, -⟩ := hq
  intro w hw; have hw := hw.unfold (i := 0) rfl hrow_1
  refine WR.here (C := CC F Γ [[(gp_, .cells #[.int .i64 p_.id, .pointer (some ⟨g1_1, 0, none⟩), .bool p_.begun, .slice A3_1 p_.vec.length c3_1, .slice A4_1 p_.wants.length c4_1, .pointer (some ⟨g5_1, 0, none⟩)] ep_ (0, 0))], r1_1, r4_1, r5_1]) ?_ hw
  clear hw
  refine va rfl rfl rfl (q_ldl (i := 0) (v := .slice A3_1 p_.vec.length c3_1) rfl rfl Tryz.isAgg22 rfl rfl) ?_
  obtain ⟨z2, hz3, h⟩ := bnd h
  refine e_call (is := []) rfl rfl (call_run Tryz.call46 rfl rfl (by kernel_rfl)) rfl (fun w hp => t_slices_Clone_int64_int64 ho3_1 ho2_1 hp hz3) ?_
  rintro Γ4 U6 v7 hl5 ⟨A8, c9, row10, rfl, rfl, hr11, _⟩
  change WR _ _ _ (CC F Γ4 [row10, [(gp_, .cells #[.int .i64 p_.id, .pointer (some ⟨g1_1, 0, none⟩), .bool p_.begun, .slice A3_1 p_.vec.length c3_1, .slice A4_1 p_.wants.length c4_1, .pointer (some ⟨g5_1, 0, none⟩)] ep_ (0, 0))], r1_1, r4_1, r5_1]) _ _ (upd _ 7 (.slice A8 z2.length c9))
  refine va rfl rfl rfl (q_assign (v := .slice A8 z2.length c9) rfl (by kernel_rfl)) ?_
  refine WR.nil ?_
  change WC _ _ _ _ _ _
  refine WC.ret ?_
  intro w hw
  have hw := hw.fold (is := [1, 1, 1, 1]) rfl hrow_1
  obtain rfl := Option.some.inj h
  subst hF
  exact end_e (is := [0, 0]) (by kernel_rfl) hw rfl ⟨A8, c9, row10, rfl, rfl, hr11, trivial⟩
set_option maxRecDepth 100000 in
set_option maxHeartbeats 400000 in
theorem t_firthref04_Same {Γ : Gh} {w0 : World} {Aa : Option Addr} {ca : Nat} {a : List Int} (ha : Sl intT Γ Aa a) (hac : a.length ≤ ca) {Ab : Option Addr} {cb : Nat} {b : List Int} (hb : Sl intT Γ Ab b) (hbc : b.length ≤ cb) (hs : Sat Γ w0) {r : Bool} (h : m_firthref04_Same a b = some r) : Calls Tryz.prog 17 #[.slice Aa a.length ca, .slice Ab b.length cb] w0 (fun e w' => e = .returned (.bool r) ∧ Fr no w0 w') := by
  refine calls_of (N := 26) (rs := [4]) (args := [.slice Aa a.length ca, .slice Ab b.length cb]) Tryz.func17 rfl Tryz.ntmps17 Tryz.results17 rfl ?_
  obtain ⟨F, hF⟩ : ∃ F : Fm, F = ⟨no, w0, Γ⟩ := ⟨_, rfl⟩
  refine WC.here (C := CC F Γ []) ?_ (hF ▸ Cur.start0 hs)
  refine WC.rs ?_
  refine va rfl rfl rfl (q_assign (v := .bool false) rfl (by kernel_rfl)) ?_
  refine WR.nil ?_
  change WC _ _ _ _ _ _
  refine WC.seq ?_
  refine WC.rs ?_
  refine va rfl rfl rfl (q_move (v := .slice Aa a.length ca) rfl (by kernel_rfl)) ?_
  refine va rfl rfl rfl (q_len_slice rfl Tryz.underlying22 rfl) ?_
  refine va rfl rfl rfl (q_move (v := .slice Ab b.length cb) rfl (by kernel_rfl)) ?_
  refine va rfl rfl rfl (q_len_slice rfl Tryz.underlying22 rfl) ?_
  refine va rfl rfl rfl (q_neq rfl rfl rfl) ?_
  refine WR.nil ?_
  change WC _ _ _ _ _ _
  refine WC.cif h (by kernel_rfl) (fun hb1 h => ?_) (fun hb1 h => ?_)
  · skip
    refine WC.rs ?_
    refine va rfl rfl rfl (q_assign (v := .bool false) rfl (by kernel_rfl)) ?_
    refine WR.nil ?_
    change WC _ _ _ _ _ _
    refine WC.ret ?_
    intro w hw
    obtain rfl := Option.some.inj h
    subst hF
    exact ⟨by kernel_rfl, hw.fr⟩
  · skip
    refine WC.skip ?_
    change WC _ _ _ _ _ _
    refine WC.seq ?_
    refine WC.rs ?_
    refine va rfl rfl rfl (q_assign (v := .int .i64 0) rfl (by kernel_rfl)) ?_
    refine WR.nil ?_
    change WC _ _ _ _ _ _
    refine WC.block ?_
    refine WC.forI h (fun (i3 : Nat) (s : Unit) σ w => match s with | () => slots σ [(0, .slice Aa a.length ca), (1, .slice Ab b.length cb), (5, .int .i64 ((i3 : Nat) : Int))] ∧ CC F Γ [] w ∧ True) ?_ ?_
    · skip
      intro w hw
      exact ⟨(sl_ (by kernel_rfl)), hw, trivial⟩
    rintro f2 i3 ⟨⟩ σ w hi4 hlt5 hge6 ⟨hsl, hw, -⟩
    refine Wpt.slots hsl ?_
    refine WC.here (C := CC F Γ []) ?_ hw
    clear hw hsl
    refine WC.seq ?_
    refine WC.rs ?_
    refine va rfl rfl rfl (q_move (v := .int .i64 ((i3 : Nat) : Int)) rfl (by kernel_rfl)) ?_
    refine va rfl rfl rfl (q_move (v := .slice Aa a.length ca) rfl (by kernel_rfl)) ?_
    refine va rfl rfl rfl (q_len_slice rfl Tryz.underlying22 rfl) ?_
    refine va rfl rfl rfl (q_lss rfl rfl rfl) ?_
    refine WR.nil ?_
    change WC _ _ _ _ _ _
    refine WC.cond (b := (decide (((i3 : Nat) : Int) < ((a.length : Nat) : Int)))) (by kernel_rfl) (fun hb7 => ?_) (fun hb7 => ?_)
    · skip
      have hl8 := ilt hb7
      have h := hlt5 hl8
      refine WC.skip ?_
      change WC _ _ _ _ _ _
      refine WC.seq ?_
      refine WC.block ?_
      refine WC.seq ?_
      refine WC.dr (by kernel_rfl) (by kernel_rfl) (fun w hw => hw.drawn _) ?_
      refine wa rfl rfl rfl (q_move (v := .slice Aa a.length ca) rfl (by kernel_rfl)) ?_
      refine wa rfl rfl rfl (q_move (v := .int .i64 ((i3 : Nat) : Int)) rfl (by kernel_rfl)) ?_
      refine wa rfl rfl rfl (q_ixn (i := i3) Tryz.underlying22 Tryz.sizeOf2 rfl rfl rfl hl8 (ha.some_ hl8)) ?_
      refine wa rfl rfl rfl (q_ld (c := 0) (v := .int .i64 (gt a i3)) (ha.intT_at hl8).2 rfl Tryz.isAgg2 rfl rfl) ?_
      refine wa rfl rfl rfl (q_move (v := .slice Ab b.length cb) rfl (by kernel_rfl)) ?_
      refine wa rfl rfl rfl (q_move (v := .int .i64 ((i3 : Nat) : Int)) rfl (by kernel_rfl)) ?_
      obtain ⟨hk9, h⟩ := chk_some h
      refine wa rfl rfl rfl (q_ixn (i := i3) Tryz.underlying22 Tryz.sizeOf2 rfl rfl rfl (of_decide_eq_true hk9) (hb.some_ (of_decide_eq_true hk9))) ?_
      refine wa rfl rfl rfl (q_ld (c := 0) (v := .int .i64 (gt b i3)) (hb.intT_at (of_decide_eq_true hk9)).2 rfl Tryz.isAgg2 rfl rfl) ?_
      refine wa rfl rfl rfl (q_neq rfl rfl rfl) ?_
      refine WQ.nil ?_
      change WC _ _ _ _ _ _
      refine WC.cif h (by kernel_rfl) (fun hb10 h => ?_) (fun hb10 h => ?_)
      · skip
        refine WC.rs ?_
        refine va rfl rfl rfl (q_assign (v := .bool false) rfl (by kernel_rfl)) ?_
        refine WR.nil ?_
        change WC _ _ _ _ _ _
        refine WC.ret ?_
        intro w hw
        obtain rfl := Option.some.inj h
        subst hF
        exact ⟨by kernel_rfl, hw.fr⟩
      · skip
        refine WC.skip ?_
        change WC _ _ _ _ _ _
        refine WC.region ?_
        refine va rfl rfl rfl (q_move (v := .int .i64 ((i3 : Nat) : Int)) rfl (by kernel_rfl)) ?_
        refine va rfl rfl rfl (q_add_r (r := ((i3 + 1 : Nat) : Int)) rfl rfl rfl (ctr_len hl8 ha.le)) ?_
        refine va rfl rfl rfl (q_assign (v := .int .i64 ((i3 + 1 : Nat) : Int)) rfl (by kernel_rfl)) ?_
        refine WR.nil ?_
        intro w hw
        exact ⟨hl8, (), h, (sl_ (by kernel_rfl)), hw, trivial⟩
    · skip
      have h := hge6 (ige hb7)
      refine WC.exit ?_
      change WC _ _ _ _ _ _
      refine WC.rs ?_
      refine va rfl rfl rfl (q_assign (v := .bool true) rfl (by kernel_rfl)) ?_
      refine WR.nil ?_
      change WC _ _ _ _ _ _
      refine WC.ret ?_
      intro w hw
      obtain rfl := Option.some.inj h
      subst hF
      exact ⟨by kernel_rfl, hw.fr⟩
set_option maxRecDepth 100000 in
set_option maxHeartbeats 400000 in
theorem t_firthlaw19_awake {Γ : Gh} {w0 : World}  (hs : Sat Γ w0) {r : Bool} (h : m_firthlaw19_awake = some r) : Calls Tryz.prog 12 #[] w0 (fun e w' => e = .returned (.bool r) ∧ Fr no w0 w') := by
  refine calls_of (N := 85) (rs := [0]) (args := []) Tryz.func12 rfl Tryz.ntmps12 Tryz.results12 rfl ?_
  obtain ⟨F, hF⟩ : ∃ F : Fm, F = ⟨no, w0, Γ⟩ := ⟨_, rfl⟩
  refine WC.here (C := CC F Γ []) ?_ (hF ▸ Cur.start0 hs)
  refine WC.rs ?_
  refine va rfl rfl rfl (q_assign (v := .bool false) rfl (by kernel_rfl)) ?_
  refine WR.nil ?_
  change WC _ _ _ _ _ _
  refine WC.rs ?_
  refine e_buildSlice (cs := #[.int .i64 1]) (e := 2) rfl rfl rfl rfl (fun w => by kernel_rfl) ?_
  intro g1
  obtain ⟨z2, hz3, h⟩ := bnd h
  refine e_call (is := []) rfl rfl (call_run Tryz.call49 rfl rfl (by kernel_rfl)) rfl (fun w hp => t_firthlaw19_k  hp hz3) ?_
  rintro Γ4 U6 v7 hl5 ⟨A8, c9, row10, rfl, rfl, hr11, _⟩
  change WR _ _ _ (CC F Γ4 [row10, [(g1, .cells #[.int .i64 1] 2 (0, 0))]]) _ _ (upd _ 7 (.slice A8 z2.length c9))
  have ho12 : Own intT Γ4 2 [(g1, .cells #[.int .i64 1] 2 (0, 0))] (some ⟨g1, 0, none⟩) 1 [1] := Own.of_blockL (T := intT) (ys := [1]) [[.int .i64 1]] rfl (show 1 ≤ lim by decide) (show Ty.rd intT Γ4 [.int .i64 1] 1 ∧ True from ⟨⟨rfl, (show I64 1 by decide)⟩, trivial⟩)
  obtain ⟨z13, hz14, h⟩ := bnd h
  refine e_callB (is := []) (Lent.nil F) rfl rfl (call_run Tryz.call10 rfl rfl (by kernel_rfl)) rfl (fun w Θ hp hpB hle hleB hR => t_pull_NewCut_l0 3 (show I64 3 by decide) (own_lent ho12 hR (List.mem_of_getElem? (i := 1) rfl) hle) ho12.capz (own_lent hr11 hR (List.mem_of_getElem? (i := 0) rfl) hle) hr11.capz hp hpB hz14) ?_
  rintro Γ15 U17 v18 hl16 ⟨g19, row20, rfl, rfl, hr21, hr22, _⟩
  change WR _ _ _ (CC F Γ15 [row20, row10, [(g1, .cells #[.int .i64 1] 2 (0, 0))]]) _ _ (upd _ 8 (.tuple #[optp z13.1 g19, .int .i64 z13.2]))
  refine va rfl rfl rfl (q_move (v := .tuple #[optp z13.1 g19, .int .i64 z13.2]) rfl (by kernel_rfl)) ?_
  refine va rfl rfl rfl (q_extract (v := optp z13.1 g19) rfl rfl rfl) ?_
  refine va rfl rfl rfl (q_extract (v := .int .i64 z13.2) rfl rfl rfl) ?_
  refine va rfl rfl rfl (q_assign (v := optp z13.1 g19) rfl (by kernel_rfl)) ?_
  refine va rfl rfl rfl (q_assign (v := .int .i64 z13.2) rfl (by kernel_rfl)) ?_
  refine WR.nil ?_
  change WC _ _ _ _ _ _
  refine WC.rs ?_
  obtain ⟨z23, hz24, h⟩ := bnd h
  refine e_call (is := []) rfl rfl (call_run Tryz.call22 rfl rfl (by kernel_rfl)) rfl (fun w hp => t_pull_NewPull 4 (show I64 4 by decide) (Sl.nil recT _ none) (Nat.zero_le 0) hp hz24) ?_
  rintro Γ25 U27 v28 hl26 ⟨g29, row30, rfl, rfl, hr31, hr32, _⟩
  change WR _ _ _ (CC F Γ25 [row30, row20, row10, [(g1, .cells #[.int .i64 1] 2 (0, 0))]]) _ _ (upd _ 12 (.tuple #[optp z23.1 g29, .int .i64 z23.2]))
  refine va rfl rfl rfl (q_move (v := .tuple #[optp z23.1 g29, .int .i64 z23.2]) rfl (by kernel_rfl)) ?_
  refine va rfl rfl rfl (q_extract (v := optp z23.1 g29) rfl rfl rfl) ?_
  refine va rfl rfl rfl (q_extract (v := .int .i64 z23.2) rfl rfl rfl) ?_
  refine va rfl rfl rfl (q_assign (v := optp z23.1 g29) rfl (by kernel_rfl)) ?_
  refine va rfl rfl rfl (q_assign (v := .int .i64 z23.2) rfl (by kernel_rfl)) ?_
  refine WR.nil ?_
  change WC _ _ _ _ _ _
  refine WC.seq ?_
  refine WC.rs ?_
  refine va rfl rfl rfl (q_move (v := optp z13.1 g19) rfl (by kernel_rfl)) ?_
  refine va rfl rfl rfl (q_opt_eql Tryz.underlying25 rfl rfl rfl) ?_
  refine va rfl rfl rfl (q_move (v := .bool (Option.isNone z13.1)) rfl (by kernel_rfl)) ?_
  refine vg0 rfl rfl rfl rfl rfl (fun hg33 => QV.qo (q_move (v := optp z23.1 g29) rfl (by kernel_rfl))) ?_
  refine vg0 rfl rfl rfl rfl rfl (fun hg34 => QV.qo (q_opt_eql Tryz.underlying47 rfl (gu hg34 rfl) rfl)) ?_
  refine va rfl rfl rfl (q_pick rfl rfl (pk_or' (g := (Option.isNone z13.1)) (y := (Option.isNone z23.1)))) ?_
  refine va rfl rfl rfl (q_move (v := .bool ((Option.isNone z13.1) || (Option.isNone z23.1))) rfl (by kernel_rfl)) ?_
  refine vg0 rfl rfl rfl rfl rfl (fun hg35 => QV.qo (q_move (v := .int .i64 z13.2) rfl (by kernel_rfl))) ?_
  refine vg0 rfl rfl rfl rfl rfl (fun hg36 => QV.qo (q_neq rfl (gu hg36 rfl) rfl)) ?_
  refine va rfl rfl rfl (q_pick rfl rfl (pk_or' (g := ((Option.isNone z13.1) || (Option.isNone z23.1))) (y := (z13.2 != 0)))) ?_
  refine va rfl rfl rfl (q_move (v := .bool (((Option.isNone z13.1) || (Option.isNone z23.1)) || (z13.2 != 0))) rfl (by kernel_rfl)) ?_
  refine vg0 rfl rfl rfl rfl rfl (fun hg37 => QV.qo (q_move (v := .int .i64 z23.2) rfl (by kernel_rfl))) ?_
  refine vg0 rfl rfl rfl rfl rfl (fun hg38 => QV.qo (q_neq rfl (gu hg38 rfl) rfl)) ?_
  refine va rfl rfl rfl (q_pick rfl rfl (pk_or' (g := (((Option.isNone z13.1) || (Option.isNone z23.1)) || (z13.2 != 0))) (y := (z23.2 != 0)))) ?_
  refine va rfl rfl rfl (q_move (v := .bool ((((Option.isNone z13.1) || (Option.isNone z23.1)) || (z13.2 != 0)) || (z23.2 != 0))) rfl (by kernel_rfl)) ?_
  refine vg0 rfl rfl rfl rfl rfl (fun hg39 => QV.qo (q_move (v := optp z23.1 g29) rfl (by kernel_rfl))) ?_
  refine (Bool.eq_false_or_eq_true (!((((Option.isNone z13.1) || (Option.isNone z23.1)) || (z13.2 != 0)) || (z23.2 != 0)))).elim (fun hb40 => ?_) (fun hb40 => ?_)
  · skip
    have h := bt hb40 h
    obtain ⟨z41, hz42, h⟩ := bnd h
    have ho43 := optob_some hr31 hz42
    obtain ⟨z44, hz45, h⟩ := bnd h
    have ho46 := optob_some (optob_mono hr21 (fun _ h => h.mono hl26)) hz45
    refine WR.sat (c0 := true) (g := ((((Option.isNone z13.1) || (Option.isNone z23.1)) || (z13.2 != 0)) || (z23.2 != 0))) rfl rfl rfl hb40 ?_
    obtain ⟨z47, hz48, h⟩ := bnd h
    refine vc rfl rfl rfl (q_call (call_run Tryz.call28 rfl rfl (args1 (optp_some (gu hb40 rfl) hz42))) (fun w hw => t_pull_Pull_Done (Γ := Gh.all w) (ho43.mono hw.sat.le_all) (hw.ra 0 rfl) (Sat.all w) hz48)) ?_
    refine va rfl rfl rfl (q_pick_f (v := .bool z47) rfl rfl (not_t hb40) (by kernel_rfl)) ?_
    refine va rfl rfl rfl (q_move (v := .bool z47) rfl (by kernel_rfl)) ?_
    refine vg0 rfl rfl rfl rfl rfl (fun hg49 => QV.qo (q_move (v := .pointer (some ⟨g29, 0, none⟩)) rfl (optp_some rfl hz42))) ?_
    refine vg0 rfl rfl rfl rfl rfl (fun hg50 => QV.qo (q_move (v := .pointer (some ⟨g19, 0, none⟩)) rfl (optp_some rfl hz45))) ?_
    refine (Bool.eq_false_or_eq_true (!z47)).elim (fun hb51 => ?_) (fun hb51 => ?_)
    · skip
      have h := bt hb51 h
      refine WR.sat (c0 := true) (g := z47) rfl rfl rfl hb51 ?_
      obtain ⟨z52, hz53, h⟩ := bnd h
      refine e_call (is := [1]) rfl rfl (call_run Tryz.call18 rfl rfl (args1 (gu hb51 rfl))) rfl (fun w hp => t_pull_Cut_Vec ho46 hp hz53) ?_
      rintro Γ54 U56 v57 hl55 ⟨A58, c59, row60, rfl, rfl, hr61, _⟩
      change WR _ _ _ (CC F Γ54 [row20, row60, row30, row10, [(g1, .cells #[.int .i64 1] 2 (0, 0))]]) _ _ (upd _ 36 (.slice A58 z52.length c59))
      refine WR.sat (c0 := true) (g := z47) rfl rfl rfl hb51 ?_
      refine va rfl rfl rfl (q_move (v := .pointer (some ⟨g19, 0, none⟩)) rfl (optp_some rfl hz45)) ?_
      refine WR.sat (c0 := true) (g := z47) rfl rfl rfl hb51 ?_
      obtain ⟨z62, hz63, h⟩ := bnd h
      refine e_call (is := [0]) rfl rfl (call_run Tryz.call19 rfl rfl (by kernel_rfl)) rfl (fun w hp => t_pull_Cut_Open (ho46.mono hl55) hp hz63) ?_
      rintro Γ64 U66 v67 hl65 ⟨row68, A70, c71, row72, rfl, rfl, hr69, hr73, _⟩
      change WR _ _ _ (CC F Γ64 [row68, row72, row60, row30, row10, [(g1, .cells #[.int .i64 1] 2 (0, 0))]]) _ _ (upd _ 38 (.slice A70 z62.2.length c71))
      refine WR.sat (c0 := true) (g := z47) rfl rfl rfl hb51 ?_
      obtain ⟨z74, hz75, h⟩ := bnd h
      refine e_callB (is := [3]) (Lent.nil F) rfl rfl (call_run Tryz.call24 rfl rfl (args3 (gu hb51 rfl) rfl rfl)) rfl (fun w Θ hp hpB hle hleB hR => t_pull_Pull_Begin_l0 (ho43.mono (hl55.trans hl65)) (own_lent (hr61.mono hl65) hR (List.mem_of_getElem? (i := 2) rfl) hle) (hr61.mono hl65).capz (own_lent hr73 hR (List.mem_of_getElem? (i := 1) rfl) hle) hr73.capz hp hpB hz75) ?_
      rintro Γ76 U78 v79 hl77 ⟨row80, rfl, rfl, hr81, _⟩
      change WR _ _ _ (CC F Γ76 [row80, row68, row72, row60, row10, [(g1, .cells #[.int .i64 1] 2 (0, 0))]]) _ _ (upd _ 39 (.bool z74.2))
      refine WR.sat (c0 := true) (g := z47) rfl rfl rfl hb51 ?_
      refine va rfl rfl rfl (q_not rfl rfl) ?_
      refine va rfl rfl rfl (q_pick_f (v := .bool (!z74.2)) rfl rfl (not_t hb51) (by kernel_rfl)) ?_
      refine va rfl rfl rfl (q_move (v := .bool (!z74.2)) rfl (by kernel_rfl)) ?_
      refine vg0 rfl rfl rfl rfl rfl (fun hg82 => QV.qo (q_move (v := .pointer (some ⟨g29, 0, none⟩)) rfl (optp_some rfl hz42))) ?_
      refine vg0 rfl rfl rfl rfl rfl (fun hg83 => QV.qo (q_move (v := .pointer (some ⟨g19, 0, none⟩)) rfl (optp_some rfl hz45))) ?_
      refine (Bool.eq_false_or_eq_true (!(!z74.2))).elim (fun hb84 => ?_) (fun hb84 => ?_)
      · skip
        have h := bt hb84 h
        refine WR.sat (c0 := true) (g := (!z74.2)) rfl rfl rfl hb84 ?_
        obtain ⟨z85, hz86, h⟩ := bnd h
        refine e_call (is := [1]) rfl rfl (call_run Tryz.call18 rfl rfl (args1 (gu hb84 rfl))) rfl (fun w hp => t_pull_Cut_Vec (hr69.mono hl77) hp hz86) ?_
        rintro Γ87 U89 v90 hl88 ⟨A91, c92, row93, rfl, rfl, hr94, _⟩
        change WR _ _ _ (CC F Γ87 [row68, row93, row80, row72, row60, row10, [(g1, .cells #[.int .i64 1] 2 (0, 0))]]) _ _ (upd _ 45 (.slice A91 z85.length c92))
        refine WR.sat (c0 := true) (g := (!z74.2)) rfl rfl rfl hb84 ?_
        refine va rfl rfl rfl (q_move (v := .pointer (some ⟨g19, 0, none⟩)) rfl (optp_some rfl hz45)) ?_
        refine WR.sat (c0 := true) (g := (!z74.2)) rfl rfl rfl hb84 ?_
        obtain ⟨z95, hz96, h⟩ := bnd h
        refine e_call (is := [0]) rfl rfl (call_run Tryz.call19 rfl rfl (by kernel_rfl)) rfl (fun w hp => t_pull_Cut_Open (hr69.mono (hl77.trans hl88)) hp hz96) ?_
        rintro Γ97 U99 v100 hl98 ⟨row101, A103, c104, row105, rfl, rfl, hr102, hr106, _⟩
        change WR _ _ _ (CC F Γ97 [row101, row105, row93, row80, row72, row60, row10, [(g1, .cells #[.int .i64 1] 2 (0, 0))]]) _ _ (upd _ 47 (.slice A103 z95.2.length c104))
        refine WR.sat (c0 := true) (g := (!z74.2)) rfl rfl rfl hb84 ?_
        obtain ⟨z107, hz108, h⟩ := bnd h
        refine e_callB (is := [3]) (Lent.nil F) rfl rfl (call_run Tryz.call24 rfl rfl (args3 (gu hb84 rfl) rfl rfl)) rfl (fun w Θ hp hpB hle hleB hR => t_pull_Pull_Begin_l0 (hr81.mono (hl88.trans hl98)) (own_lent (hr94.mono hl98) hR (List.mem_of_getElem? (i := 2) rfl) hle) (hr94.mono hl98).capz (own_lent hr106 hR (List.mem_of_getElem? (i := 1) rfl) hle) hr106.capz hp hpB hz108) ?_
        rintro Γ109 U111 v112 hl110 ⟨row113, rfl, rfl, hr114, _⟩
        change WR _ _ _ (CC F Γ109 [row113, row101, row105, row93, row72, row60, row10, [(g1, .cells #[.int .i64 1] 2 (0, 0))]]) _ _ (upd _ 48 (.bool z107.2))
        refine va rfl rfl rfl (q_pick_f (v := .bool z107.2) rfl rfl (not_t hb84) (by kernel_rfl)) ?_
        refine va rfl rfl rfl (q_move (v := .bool z107.2) rfl (by kernel_rfl)) ?_
        refine vg0 rfl rfl rfl rfl rfl (fun hg115 => QV.qo (q_move (v := .pointer (some ⟨g29, 0, none⟩)) rfl (optp_some rfl hz42))) ?_
        refine (Bool.eq_false_or_eq_true (!z107.2)).elim (fun hb116 => ?_) (fun hb116 => ?_)
        · skip
          have h := bt hb116 h
          refine WR.sat (c0 := true) (g := z107.2) rfl rfl rfl hb116 ?_
          obtain ⟨z117, hz118, h⟩ := bnd h
          refine e_call (is := [0]) rfl rfl (call_run Tryz.call31 rfl rfl (args1 (gu hb116 rfl))) rfl (fun w hp => t_pull_Pull_Wants hr114 hp hz118) ?_
          rintro Γ119 U121 v122 hl120 ⟨A123, c124, row125, rfl, rfl, hr126, _⟩
          change WR _ _ _ (CC F Γ119 [row113, row125, row101, row105, row93, row72, row60, row10, [(g1, .cells #[.int .i64 1] 2 (0, 0))]]) _ _ (upd _ 52 (.slice A123 z117.length c124))
          refine WR.sat (c0 := true) (g := z107.2) rfl rfl rfl hb116 ?_
          refine va rfl rfl rfl (q_len_slice rfl Tryz.underlying57 rfl) ?_
          refine WR.sat (c0 := true) (g := z107.2) rfl rfl rfl hb116 ?_
          refine va rfl rfl rfl (q_neq rfl rfl rfl) ?_
          refine va rfl rfl rfl (q_pick_f (v := .bool (((z117.length : Nat) : Int) != 1)) rfl rfl (not_t hb116) (by kernel_rfl)) ?_
          refine WR.nil ?_
          change WC _ _ _ _ _ _
          refine WC.cif h (by kernel_rfl) (fun hb127 h => ?_) (fun hb127 h => ?_)
          · skip
            refine WC.rs ?_
            refine va rfl rfl rfl (q_assign (v := .bool false) rfl (by kernel_rfl)) ?_
            refine WR.nil ?_
            change WC _ _ _ _ _ _
            refine WC.ret ?_
            intro w hw
            obtain rfl := Option.some.inj h
            subst hF
            exact ⟨by kernel_rfl, hw.fr⟩
          · skip
            refine WC.skip ?_
            change WC _ _ _ _ _ _
            refine WC.rs ?_
            refine va rfl rfl rfl (q_move (v := .pointer (some ⟨g19, 0, none⟩)) rfl (optp_some rfl hz45)) ?_
            refine va rfl rfl rfl (q_move (v := .pointer (some ⟨g29, 0, none⟩)) rfl (optp_some rfl hz42)) ?_
            obtain ⟨z128, hz129, h⟩ := bnd h
            refine e_call (is := [2, 0]) rfl rfl (call_run Tryz.call37 rfl rfl (by kernel_rfl)) rfl (fun w hp => t_firthlaw19_told (hr102.mono (hl110.trans hl120)) (hr114.mono hl120) (Sl.nil intT _ none) (Nat.zero_le 0) hp hz129) ?_
            rintro Γ130 U132 v133 hl131 ⟨row134, row136, rfl, rfl, hr135, hr137, _⟩
            change WR _ _ _ (CC F Γ130 [row134, row136, row125, row105, row93, row72, row60, row10, [(g1, .cells #[.int .i64 1] 2 (0, 0))]]) _ _ (upd _ 58 (.bool z128.2.2))
            refine va rfl rfl rfl (q_move (v := .bool z128.2.2) rfl (by kernel_rfl)) ?_
            refine vg1 rfl rfl rfl rfl rfl (fun hg138 => QV.qo (q_move (v := .pointer (some ⟨g29, 0, none⟩)) rfl (optp_some rfl hz42))) ?_
            obtain ⟨z140, hz141, h⟩ := bnd h
            refine vg1 rfl rfl rfl rfl rfl (fun hg139 => (q_call (call_run Tryz.call28 rfl rfl (args1 (gu hg139 rfl))) (fun w hw => t_pull_Pull_Done (Γ := Gh.all w) (hr137.mono hw.sat.le_all) (hw.ra 1 rfl) (Sat.all w) (gc_of hz141 hg139)))) ?_
            refine va rfl rfl rfl (q_pick rfl rfl (pk_and' (g := z128.2.2) (y := z140))) ?_
            refine va rfl rfl rfl (q_move (v := .bool (z128.2.2 && z140)) rfl (by kernel_rfl)) ?_
            refine vg1 rfl rfl rfl rfl rfl (fun hg142 => QV.qo (q_move (v := .pointer (some ⟨g19, 0, none⟩)) rfl (optp_some rfl hz45))) ?_
            obtain ⟨z144, hz145, h⟩ := bnd h
            refine vg1 rfl rfl rfl rfl rfl (fun hg143 => (q_call (call_run Tryz.call21 rfl rfl (args1 (gu hg143 rfl))) (fun w hw => t_pull_Cut_Id (Γ := Gh.all w) (hr135.mono hw.sat.le_all) (hw.ra 0 rfl) (Sat.all w) (gc_of hz145 hg143)))) ?_
            refine vg1 rfl rfl rfl rfl rfl (fun hg146 => QV.qo (q_eql rfl (gu hg146 rfl) rfl)) ?_
            refine va rfl rfl rfl (q_pick rfl rfl (pk_and' (g := (z128.2.2 && z140)) (y := (z144 == 3)))) ?_
            refine va rfl rfl rfl (q_move (v := .bool ((z128.2.2 && z140) && (z144 == 3))) rfl (by kernel_rfl)) ?_
            refine vg1 rfl rfl rfl rfl rfl (fun hg147 => QV.qo (q_move (v := .pointer (some ⟨g29, 0, none⟩)) rfl (optp_some rfl hz42))) ?_
            obtain ⟨z149, hz150, h⟩ := bnd h
            refine vg1 rfl rfl rfl rfl rfl (fun hg148 => (q_call (call_run Tryz.call34 rfl rfl (args1 (gu hg148 rfl))) (fun w hw => t_pull_Pull_Id (Γ := Gh.all w) (hr137.mono hw.sat.le_all) (hw.ra 1 rfl) (Sat.all w) (gc_of hz150 hg148)))) ?_
            refine vg1 rfl rfl rfl rfl rfl (fun hg151 => QV.qo (q_eql rfl (gu hg151 rfl) rfl)) ?_
            refine va rfl rfl rfl (q_pick rfl rfl (pk_and' (g := ((z128.2.2 && z140) && (z144 == 3))) (y := (z149 == 4)))) ?_
            refine va rfl rfl rfl (q_move (v := .bool (((z128.2.2 && z140) && (z144 == 3)) && (z149 == 4))) rfl (by kernel_rfl)) ?_
            refine vg1 rfl rfl rfl rfl rfl (fun hg152 => QV.qo (q_move (v := .pointer (some ⟨g29, 0, none⟩)) rfl (optp_some rfl hz42))) ?_
            refine (Bool.eq_false_or_eq_true (((z128.2.2 && z140) && (z144 == 3)) && (z149 == 4))).elim (fun hb153 => ?_) (fun hb153 => ?_)
            · skip
              have h := bt hb153 h
              refine WR.sat (c0 := true) (g := (((z128.2.2 && z140) && (z144 == 3)) && (z149 == 4))) rfl rfl rfl hb153 ?_
              obtain ⟨z154, hz155, h⟩ := bnd h
              refine e_call (is := [1]) rfl rfl (call_run Tryz.call32 rfl rfl (args1 (gu hb153 rfl))) rfl (fun w hp => t_pull_Pull_Staged hr137 hp hz155) ?_
              rintro Γ156 U158 v159 hl157 ⟨A160, c161, J162, rfl, rfl, hn163, hc164, hr165, _⟩
              change WR _ _ _ (CC F Γ156 [row136, J162, row134, row125, row105, row93, row72, row60, row10, [(g1, .cells #[.int .i64 1] 2 (0, 0))]]) _ _ (upd _ 75 (.slice A160 z154.length c161))
              refine WR.sat (c0 := true) (g := (((z128.2.2 && z140) && (z144 == 3)) && (z149 == 4))) rfl rfl rfl hb153 ?_
              obtain ⟨z166, hz167, h⟩ := bnd h
              refine e_call (is := []) rfl rfl (call_run Tryz.call49 rfl rfl (by kernel_rfl)) rfl (fun w hp => t_firthlaw19_k  hp hz167) ?_
              rintro Γ168 U170 v171 hl169 ⟨A172, c173, row174, rfl, rfl, hr175, _⟩
              change WR _ _ _ (CC F Γ168 [row174, row136, J162, row134, row125, row105, row93, row72, row60, row10, [(g1, .cells #[.int .i64 1] 2 (0, 0))]]) _ _ (upd _ 76 (.slice A172 z166.length c173))
              refine WR.sat (c0 := true) (g := (((z128.2.2 && z140) && (z144 == 3)) && (z149 == 4))) rfl rfl rfl hb153 ?_
              obtain ⟨z176, hz177, h⟩ := bnd h
              refine vc rfl rfl rfl (q_call (call_run Tryz.call16 rfl rfl (by kernel_rfl)) (fun w hw => t_firthref06_SameRecs (Γ := Gh.all w) (hr165.mono ((satJ (i := 2) rfl hn163) w hw).le_all) hc164 (hr175.sl hw.sat.le_all (hw.ra 0 rfl)) hr175.capz (Sat.all w) hz177)) ?_
              refine va rfl rfl rfl (q_pick_t (v := .bool z176) rfl rfl hb153 (by kernel_rfl)) ?_
              refine va rfl rfl rfl (q_move (v := .bool z176) rfl (by kernel_rfl)) ?_
              refine vg1 rfl rfl rfl rfl rfl (fun hg178 => QV.qo (q_move (v := .pointer (some ⟨g29, 0, none⟩)) rfl (optp_some rfl hz42))) ?_
              refine (Bool.eq_false_or_eq_true z176).elim (fun hb179 => ?_) (fun hb179 => ?_)
              · skip
                have h := bt hb179 h
                refine WR.sat (c0 := true) (g := z176) rfl rfl rfl hb179 ?_
                obtain ⟨z180, hz181, h⟩ := bnd h
                refine e_call (is := [1]) rfl rfl (call_run Tryz.call33 rfl rfl (args1 (gu hb179 rfl))) rfl (fun w hp => t_pull_Pull_Vec (hr137.mono (hl157.trans hl169)) hp hz181) ?_
                rintro Γ182 U184 v185 hl183 ⟨A186, c187, row188, rfl, rfl, hr189, _⟩
                change WR _ _ _ (CC F Γ182 [row136, row188, row174, J162, row134, row125, row105, row93, row72, row60, row10, [(g1, .cells #[.int .i64 1] 2 (0, 0))]]) _ _ (upd _ 81 (.slice A186 z180.length c187))
                refine WR.sat (c0 := true) (g := z176) rfl rfl rfl hb179 ?_
                refine e_buildSlice (cs := #[.int .i64 1]) (e := 2) rfl rfl rfl rfl (fun w => by kernel_rfl) ?_
                intro g190
                refine WR.sat (c0 := true) (g := z176) rfl rfl rfl hb179 ?_
                have ho191 : Own intT Γ182 2 [(g190, .cells #[.int .i64 1] 2 (0, 0))] (some ⟨g190, 0, none⟩) 1 [1] := Own.of_blockL (T := intT) (ys := [1]) [[.int .i64 1]] rfl (show 1 ≤ lim by decide) (show Ty.rd intT Γ182 [.int .i64 1] 1 ∧ True from ⟨⟨rfl, (show I64 1 by decide)⟩, trivial⟩)
                obtain ⟨z192, hz193, h⟩ := bnd h
                refine vc rfl rfl rfl (q_call (call_run Tryz.call17 rfl rfl (by kernel_rfl)) (fun w hw => t_firthref04_Same (Γ := Gh.all w) (hr189.sl hw.sat.le_all (hw.ra 2 rfl)) hr189.capz (ho191.sl hw.sat.le_all (hw.ra 0 rfl)) ho191.capz (Sat.all w) hz193)) ?_
                refine va rfl rfl rfl (q_pick_t (v := .bool z192) rfl rfl hb179 (by kernel_rfl)) ?_
                refine va rfl rfl rfl (q_assign (v := .bool z192) rfl (by kernel_rfl)) ?_
                refine WR.nil ?_
                change WC _ _ _ _ _ _
                refine WC.ret ?_
                intro w hw
                obtain rfl := Option.some.inj h
                subst hF
                exact ⟨by kernel_rfl, hw.fr⟩
              · skip
                have h := bf hb179 h
                refine WR.unsat (c0 := true) (g := z176) rfl rfl rfl hb179 rfl ?_
                refine WR.unsat (c0 := true) (g := z176) rfl rfl rfl hb179 rfl ?_
                refine WR.unsat (c0 := true) (g := z176) rfl rfl rfl hb179 rfl ?_
                refine va rfl rfl rfl (q_pick_f (v := .bool false) rfl rfl hb179 (by kernel_rfl)) ?_
                refine va rfl rfl rfl (q_assign (v := .bool false) rfl (by kernel_rfl)) ?_
                refine WR.nil ?_
                change WC _ _ _ _ _ _
                refine WC.ret ?_
                intro w hw
                obtain rfl := Option.some.inj h
                subst hF
                exact ⟨by kernel_rfl, hw.fr⟩
            · skip
              have h := bf hb153 h
              refine WR.unsat (c0 := true) (g := (((z128.2.2 && z140) && (z144 == 3)) && (z149 == 4))) rfl rfl rfl hb153 rfl ?_
              refine WR.unsat (c0 := true) (g := (((z128.2.2 && z140) && (z144 == 3)) && (z149 == 4))) rfl rfl rfl hb153 rfl ?_
              refine WR.unsat (c0 := true) (g := (((z128.2.2 && z140) && (z144 == 3)) && (z149 == 4))) rfl rfl rfl hb153 rfl ?_
              refine va rfl rfl rfl (q_pick_f (v := .bool false) rfl rfl hb153 (by kernel_rfl)) ?_
              refine va rfl rfl rfl (q_move (v := .bool false) rfl (by kernel_rfl)) ?_
              refine WR.unsat (c0 := true) (g := false) rfl rfl rfl rfl rfl ?_
              refine WR.unsat (c0 := true) (g := false) rfl rfl rfl rfl rfl ?_
              refine WR.unsat (c0 := true) (g := false) rfl rfl rfl rfl rfl ?_
              refine WR.unsat (c0 := true) (g := false) rfl rfl rfl rfl rfl ?_
              refine va rfl rfl rfl (q_pickf (v := .bool false) rfl rfl rfl) ?_
              refine va rfl rfl rfl (q_assign (v := .bool false) rfl (by kernel_rfl)) ?_
              refine WR.nil ?_
              change WC _ _ _ _ _ _
              refine WC.ret ?_
              intro w hw
              obtain rfl := Option.some.inj h
              subst hF
              exact ⟨by kernel_rfl, hw.fr⟩
        · skip
          have h := bf hb116 h
          refine WR.unsat (c0 := true) (g := z107.2) rfl rfl rfl hb116 rfl ?_
          refine WR.unsat (c0 := true) (g := z107.2) rfl rfl rfl hb116 rfl ?_
          refine WR.unsat (c0 := true) (g := z107.2) rfl rfl rfl hb116 rfl ?_
          refine va rfl rfl rfl (q_pick_t (v := .bool true) rfl rfl (not_f hb116) (by kernel_rfl)) ?_
          refine WR.nil ?_
          change WC _ _ _ _ _ _
          refine WC.ctk (b := true) (by kernel_rfl) rfl ?_
          refine WC.rs ?_
          refine va rfl rfl rfl (q_assign (v := .bool false) rfl (by kernel_rfl)) ?_
          refine WR.nil ?_
          change WC _ _ _ _ _ _
          refine WC.ret ?_
          intro w hw
          obtain rfl := Option.some.inj h
          subst hF
          exact ⟨by kernel_rfl, hw.fr⟩
      · skip
        have h := bf hb84 h
        refine WR.unsat (c0 := true) (g := (!z74.2)) rfl rfl rfl hb84 rfl ?_
        refine WR.unsat (c0 := true) (g := (!z74.2)) rfl rfl rfl hb84 rfl ?_
        refine WR.unsat (c0 := true) (g := (!z74.2)) rfl rfl rfl hb84 rfl ?_
        refine WR.unsat (c0 := true) (g := (!z74.2)) rfl rfl rfl hb84 rfl ?_
        refine va rfl rfl rfl (q_pick_t (v := .bool true) rfl rfl (not_f hb84) (by kernel_rfl)) ?_
        refine va rfl rfl rfl (q_move (v := .bool true) rfl (by kernel_rfl)) ?_
        refine WR.unsat (c0 := true) (g := true) rfl rfl rfl (nott rfl) rfl ?_
        refine WR.unsat (c0 := true) (g := true) rfl rfl rfl (nott rfl) rfl ?_
        refine WR.unsat (c0 := true) (g := true) rfl rfl rfl (nott rfl) rfl ?_
        refine WR.unsat (c0 := true) (g := true) rfl rfl rfl (nott rfl) rfl ?_
        refine va rfl rfl rfl (q_pickt (v := .bool true) rfl rfl rfl) ?_
        refine WR.nil ?_
        change WC _ _ _ _ _ _
        refine WC.ctk (b := true) (by kernel_rfl) rfl ?_
        refine WC.rs ?_
        refine va rfl rfl rfl (q_assign (v := .bool false) rfl (by kernel_rfl)) ?_
        refine WR.nil ?_
        change WC _ _ _ _ _ _
        refine WC.ret ?_
        intro w hw
        obtain rfl := Option.some.inj h
        subst hF
        exact ⟨by kernel_rfl, hw.fr⟩
    · skip
      have h := bf hb51 h
      refine WR.unsat (c0 := true) (g := z47) rfl rfl rfl hb51 rfl ?_
      refine WR.unsat (c0 := true) (g := z47) rfl rfl rfl hb51 rfl ?_
      refine WR.unsat (c0 := true) (g := z47) rfl rfl rfl hb51 rfl ?_
      refine WR.unsat (c0 := true) (g := z47) rfl rfl rfl hb51 rfl ?_
      refine WR.unsat (c0 := true) (g := z47) rfl rfl rfl hb51 rfl ?_
      refine va rfl rfl rfl (q_pick_t (v := .bool true) rfl rfl (not_f hb51) (by kernel_rfl)) ?_
      refine va rfl rfl rfl (q_move (v := .bool true) rfl (by kernel_rfl)) ?_
      refine WR.unsat (c0 := true) (g := true) rfl rfl rfl (nott rfl) rfl ?_
      refine WR.unsat (c0 := true) (g := true) rfl rfl rfl (nott rfl) rfl ?_
      refine WR.unsat (c0 := true) (g := true) rfl rfl rfl (nott rfl) rfl ?_
      refine WR.unsat (c0 := true) (g := true) rfl rfl rfl (nott rfl) rfl ?_
      refine WR.unsat (c0 := true) (g := true) rfl rfl rfl (nott rfl) rfl ?_
      refine WR.unsat (c0 := true) (g := true) rfl rfl rfl (nott rfl) rfl ?_
      refine va rfl rfl rfl (q_pickt (v := .bool true) rfl rfl rfl) ?_
      refine va rfl rfl rfl (q_move (v := .bool true) rfl (by kernel_rfl)) ?_
      refine WR.unsat (c0 := true) (g := true) rfl rfl rfl (nott rfl) rfl ?_
      refine WR.unsat (c0 := true) (g := true) rfl rfl rfl (nott rfl) rfl ?_
      refine WR.unsat (c0 := true) (g := true) rfl rfl rfl (nott rfl) rfl ?_
      refine WR.unsat (c0 := true) (g := true) rfl rfl rfl (nott rfl) rfl ?_
      refine va rfl rfl rfl (q_pickt (v := .bool true) rfl rfl rfl) ?_
      refine WR.nil ?_
      change WC _ _ _ _ _ _
      refine WC.ctk (b := true) (by kernel_rfl) rfl ?_
      refine WC.rs ?_
      refine va rfl rfl rfl (q_assign (v := .bool false) rfl (by kernel_rfl)) ?_
      refine WR.nil ?_
      change WC _ _ _ _ _ _
      refine WC.ret ?_
      intro w hw
      obtain rfl := Option.some.inj h
      subst hF
      exact ⟨by kernel_rfl, hw.fr⟩
  · skip
    have h := bf hb40 h
    refine WR.unsat (c0 := true) (g := ((((Option.isNone z13.1) || (Option.isNone z23.1)) || (z13.2 != 0)) || (z23.2 != 0))) rfl rfl rfl hb40 rfl ?_
    refine va rfl rfl rfl (q_pick_t (v := .bool true) rfl rfl (not_f hb40) (by kernel_rfl)) ?_
    refine va rfl rfl rfl (q_move (v := .bool true) rfl (by kernel_rfl)) ?_
    refine WR.unsat (c0 := true) (g := true) rfl rfl rfl (nott rfl) rfl ?_
    refine WR.unsat (c0 := true) (g := true) rfl rfl rfl (nott rfl) rfl ?_
    refine WR.unsat (c0 := true) (g := true) rfl rfl rfl (nott rfl) rfl ?_
    refine WR.unsat (c0 := true) (g := true) rfl rfl rfl (nott rfl) rfl ?_
    refine WR.unsat (c0 := true) (g := true) rfl rfl rfl (nott rfl) rfl ?_
    refine WR.unsat (c0 := true) (g := true) rfl rfl rfl (nott rfl) rfl ?_
    refine WR.unsat (c0 := true) (g := true) rfl rfl rfl (nott rfl) rfl ?_
    refine va rfl rfl rfl (q_pickt (v := .bool true) rfl rfl rfl) ?_
    refine va rfl rfl rfl (q_move (v := .bool true) rfl (by kernel_rfl)) ?_
    refine WR.unsat (c0 := true) (g := true) rfl rfl rfl (nott rfl) rfl ?_
    refine WR.unsat (c0 := true) (g := true) rfl rfl rfl (nott rfl) rfl ?_
    refine WR.unsat (c0 := true) (g := true) rfl rfl rfl (nott rfl) rfl ?_
    refine WR.unsat (c0 := true) (g := true) rfl rfl rfl (nott rfl) rfl ?_
    refine WR.unsat (c0 := true) (g := true) rfl rfl rfl (nott rfl) rfl ?_
    refine WR.unsat (c0 := true) (g := true) rfl rfl rfl (nott rfl) rfl ?_
    refine va rfl rfl rfl (q_pickt (v := .bool true) rfl rfl rfl) ?_
    refine va rfl rfl rfl (q_move (v := .bool true) rfl (by kernel_rfl)) ?_
    refine WR.unsat (c0 := true) (g := true) rfl rfl rfl (nott rfl) rfl ?_
    refine WR.unsat (c0 := true) (g := true) rfl rfl rfl (nott rfl) rfl ?_
    refine WR.unsat (c0 := true) (g := true) rfl rfl rfl (nott rfl) rfl ?_
    refine WR.unsat (c0 := true) (g := true) rfl rfl rfl (nott rfl) rfl ?_
    refine va rfl rfl rfl (q_pickt (v := .bool true) rfl rfl rfl) ?_
    refine WR.nil ?_
    change WC _ _ _ _ _ _
    refine WC.ctk (b := true) (by kernel_rfl) rfl ?_
    refine WC.rs ?_
    refine va rfl rfl rfl (q_assign (v := .bool false) rfl (by kernel_rfl)) ?_
    refine WR.nil ?_
    change WC _ _ _ _ _ _
    refine WC.ret ?_
    intro w hw
    obtain rfl := Option.some.inj h
    subst hF
    exact ⟨by kernel_rfl, hw.fr⟩
abbrev r_firthref10_Own_l0 (r : Rec) (U : List Rowb) (Γ : Gh) (v : Value) : Prop := ∃ (A0_1 : Option Addr), ∃ (c0_1 : Nat), v = .agg #[.string r.key, .slice A0_1 r.vers.length c0_1] ∧ U = [] ∧ Rec.fits Γ A0_1 c0_1 r ∧ True
set_option maxRecDepth 100000 in
set_option maxHeartbeats 400000 in
theorem t_firthref10_Own_l0 {Γ : Gh} {w0 : World} {B : Gh} {Ar_1 : Option Addr} {cr_1 : Nat} (r_ : Rec) (hr_ : Rec.fits B Ar_1 cr_1 r_) (hp : Pre [] Γ w0) (hpB : Pre [] B w0) {r : Rec} (h : m_firthref10_Own r_ = some r) : Calls Tryz.prog 42 #[.agg #[.string r_.key, .slice Ar_1 r_.vers.length cr_1]] w0 (Outc Γ [] w0 (r_firthref10_Own_l0 r)) := by
  refine calls_of_r (N := 35) (rs := [.cell 2 70]) (args := [.agg #[.string r_.key, .slice Ar_1 r_.vers.length cr_1]]) Tryz.func42 rfl Tryz.ntmps42 Tryz.results42 rfl ?_
  obtain ⟨F, hF⟩ : ∃ F : Fm, F = ⟨ids [], w0, Γ⟩ := ⟨_, rfl⟩
  refine WC.here (C := CC F Γ []) ?_ (hF ▸ hp.start)
  have hB : Lent F B := hF ▸ Lent.start hpB
  refine WC.rs ?_
  refine e_box (v := .agg #[.string r_.key, .slice Ar_1 r_.vers.length cr_1]) rfl rfl rfl rfl (by kernel_rfl) ?_
  intro g1
  refine e_alloc Tryz.zeroValue70 rfl rfl rfl rfl ?_
  intro g2
  refine WR.nil ?_
  change WC _ _ _ _ _ _
  refine WC.rs ?_
  refine va rfl rfl rfl (q_fl 0 fld_70_0 rfl rfl rfl) ?_
  refine va rfl rfl rfl (q_ldl (i := 1) (v := .string r_.key) rfl rfl Tryz.isAgg9 rfl rfl) ?_
  refine va rfl rfl rfl (q_build' (v := .agg #[.string r_.key, .slice none 0 0]) rfl (bargs1 rfl) (fun w => by kernel_rfl)) ?_
  refine e_alloc Tryz.zeroValue70 rfl rfl rfl rfl ?_
  intro g3
  refine e_st (i := 0) (v := .agg #[.string r_.key, .slice none 0 0]) (new := #[.string r_.key, .slice none 0 0]) rfl Tryz.sizeOf70 rfl rfl rfl rfl (by kernel_rfl) rfl rfl rfl rfl ?_
  refine WR.nil ?_
  change WC _ _ _ _ _ _
  refine WC.seq ?_
  refine WC.rs ?_
  refine va rfl rfl rfl (q_assign (v := .int .i64 0) rfl (by kernel_rfl)) ?_
  refine WR.nil ?_
  change WC _ _ _ _ _ _
  refine WC.block ?_
  refine WC.forI h (fun (i12 : Nat) (x6 : List Ver) σ w => ∃ (Γ4 : Gh), ∃ (A7 : Option Addr), ∃ (c8 : Nat), ∃ (row9 : Rowb), slots σ [(1, .pointer (some ⟨g1, 0, none⟩)), (2, .pointer (some ⟨g2, 0, none⟩)), (3, .pointer (some ⟨g3, 0, none⟩)), (4, .int .i64 ((i12 : Nat) : Int))] ∧ CC F Γ4 [row9, [(g3, .cells #[.string r_.key, .slice A7 x6.length c8] 70 (0, 0))], [(g2, .cells #[.string ByteArray.empty, .slice none 0 0] 70 (0, 0))], [(g1, .cells #[.string r_.key, .slice Ar_1 r_.vers.length cr_1] 70 (0, 0))]] w ∧ Gh.le Γ Γ4 ∧ Own verT Γ4 115 row9 A7 c8 x6 ∧ True) ?_ ?_
  · skip
    intro w hw
    have hw := hw.pad
    exact ⟨Γ, none, 0, [], (sl_ (by kernel_rfl)), hw, (Gh.refl _), (Own.nil verT _ 115), trivial⟩
  rintro f11 i12 x6 σ w hi13 hlt14 hge15 ⟨Γ4, A7, c8, row9, hsl, hw, hl5, ho10, -⟩
  refine Wpt.slots hsl ?_
  refine WC.here (C := CC F Γ4 [row9, [(g3, .cells #[.string r_.key, .slice A7 x6.length c8] 70 (0, 0))], [(g2, .cells #[.string ByteArray.empty, .slice none 0 0] 70 (0, 0))], [(g1, .cells #[.string r_.key, .slice Ar_1 r_.vers.length cr_1] 70 (0, 0))]]) ?_ hw
  clear hw hsl
  refine WC.seq ?_
  refine WC.rs ?_
  refine va rfl rfl rfl (q_move (v := .int .i64 ((i12 : Nat) : Int)) rfl (by kernel_rfl)) ?_
  refine va rfl rfl rfl (q_fl 1 fld_70_1 rfl rfl rfl) ?_
  refine va rfl rfl rfl (q_ldl (i := 3) (v := .slice Ar_1 r_.vers.length cr_1) rfl rfl Tryz.isAgg67 rfl rfl) ?_
  refine va rfl rfl rfl (q_len_slice rfl Tryz.underlying67 rfl) ?_
  refine va rfl rfl rfl (q_lss rfl rfl rfl) ?_
  refine WR.nil ?_
  change WC _ _ _ _ _ _
  refine WC.cond (b := (decide (((i12 : Nat) : Int) < ((r_.vers.length : Nat) : Int)))) (by kernel_rfl) (fun hb16 => ?_) (fun hb16 => ?_)
  · skip
    have hl17 := ilt hb16
    have h := hlt14 hl17
    refine WC.skip ?_
    change WC _ _ _ _ _ _
    refine WC.seq ?_
    refine WC.block ?_
    refine WC.rs ?_
    refine va rfl rfl rfl (q_fl 1 fld_70_1 rfl rfl rfl) ?_
    refine va rfl rfl rfl (q_ldl (i := 3) (v := .slice Ar_1 r_.vers.length cr_1) rfl rfl Tryz.isAgg67 rfl rfl) ?_
    refine va rfl rfl rfl (q_move (v := .int .i64 ((i12 : Nat) : Int)) rfl (by kernel_rfl)) ?_
    refine va rfl rfl rfl (q_ixn (i := i12) Tryz.underlying67 Tryz.sizeOf115 rfl rfl rfl hl17 (hr_.2.2.some_ hl17)) ?_
    obtain ⟨A18, c19, hx20⟩ := hr_.2.2.verT_at i12
    refine va rfl rfl rfl (q_ldaS (c := 0) (vs := [.int .i64 (gt r_.vers i12).dot.s, .int .i64 (gt r_.vers i12).dot.n, .slice A18 ((gt r_.vers i12).past).length c19, .bool (gt r_.vers i12).gone, .string (gt r_.vers i12).val]) (fun w hw => hB.sat hw) (hx20 hl17).2 rfl Tryz.isAgg115 Tryz.sizeOf115 rfl rfl rfl) ?_
    refine e_alloc Tryz.zeroValue115 rfl rfl rfl rfl ?_
    intro g21
    refine e_st (i := 0) (v := .agg #[.int .i64 (gt r_.vers i12).dot.s, .int .i64 (gt r_.vers i12).dot.n, .slice A18 ((gt r_.vers i12).past).length c19, .bool (gt r_.vers i12).gone, .string (gt r_.vers i12).val]) (new := #[.int .i64 (gt r_.vers i12).dot.s, .int .i64 (gt r_.vers i12).dot.n, .slice A18 ((gt r_.vers i12).past).length c19, .bool (gt r_.vers i12).gone, .string (gt r_.vers i12).val]) rfl Tryz.sizeOf115 rfl rfl rfl rfl (by kernel_rfl) rfl rfl rfl rfl ?_
    refine WR.nil ?_
    change WC _ _ _ _ _ _
    refine WC.rs ?_
    refine va rfl rfl rfl (q_assign (v := .slice none 0 0) rfl (by kernel_rfl)) ?_
    refine WR.nil ?_
    change WC _ _ _ _ _ _
    refine WC.rs ?_
    refine va rfl rfl rfl (q_move (v := .slice none 0 0) rfl (by kernel_rfl)) ?_
    refine va rfl rfl rfl (q_fl 2 fld_115_1 rfl rfl rfl) ?_
    refine va rfl rfl rfl (q_ldl (i := 0) (v := .slice A18 ((gt r_.vers i12).past).length c19) rfl rfl Tryz.isAgg113 rfl rfl) ?_
    refine WR.sub (fun w hw => hw.pad) ?_
    obtain ⟨hk22, h⟩ := chk_some h
    refine e_append (T := spanT) (xs := []) (ys := (gt r_.vers i12).past) elem_113 (i := 0) rfl rfl rfl rfl (by kernel_rfl) rfl rfl (Own.nil spanT Γ4 117) (of_decide_eq_true hk22) (fun w hw => src_slS (Γ := Γ4) (fun w hw => hB.sat hw) (fun _ _ h => h) (hx20 hl17).1.2.2.1.2 hw) ?_
    intro row23 A24 c25 ho26
    refine va rfl rfl rfl (q_assign (v := .slice A24 (gt r_.vers i12).past.length c25) rfl (by kernel_rfl)) ?_
    refine WR.nil ?_
    change WC _ _ _ _ _ _
    refine WC.rs ?_
    refine va rfl rfl rfl (q_move (v := .slice A24 (gt r_.vers i12).past.length c25) rfl (by kernel_rfl)) ?_
    refine va rfl rfl rfl (q_fl 2 fld_115_1 rfl rfl rfl) ?_
    refine e_st (i := 1) (v := .slice A24 (gt r_.vers i12).past.length c25) (new := #[.int .i64 (gt r_.vers i12).dot.s, .int .i64 (gt r_.vers i12).dot.n, .slice A24 (gt r_.vers i12).past.length c25, .bool (gt r_.vers i12).gone, .string (gt r_.vers i12).val]) rfl Tryz.sizeOf113 rfl rfl rfl rfl (by kernel_rfl) rfl rfl rfl rfl ?_
    refine WR.nil ?_
    change WC _ _ _ _ _ _
    refine WC.region ?_
    refine va rfl rfl rfl (q_fl 1 fld_70_1 rfl rfl rfl) ?_
    refine va rfl rfl rfl (q_ldl (i := 3) (v := .slice A7 x6.length c8) rfl rfl Tryz.isAgg67 rfl rfl) ?_
    refine va rfl rfl rfl (q_ldla (i := 1) (vs := [.int .i64 (gt r_.vers i12).dot.s, .int .i64 (gt r_.vers i12).dot.n, .slice A24 (gt r_.vers i12).past.length c25, .bool (gt r_.vers i12).gone, .string (gt r_.vers i12).val]) rfl rfl Tryz.isAgg115 Tryz.sizeOf115 rfl rfl) ?_
    have hc31 := ho26.capz
    intro w hw; obtain ⟨Γ27, hw, hl28, hr29⟩ := hw.seal (i := 0) rfl; have hs30 := ho26.sl hl28 hr29
    refine WR.here (C := CC F Γ27 [[], [(g21, .cells #[.int .i64 (gt r_.vers i12).dot.s, .int .i64 (gt r_.vers i12).dot.n, .slice A24 ((gt r_.vers i12).past).length c25, .bool (gt r_.vers i12).gone, .string (gt r_.vers i12).val] 115 (0, 0))], row9, [(g3, .cells #[.string r_.key, .slice A7 x6.length c8] 70 (0, 0))], [(g2, .cells #[.string ByteArray.empty, .slice none 0 0] 70 (0, 0))], [(g1, .cells #[.string r_.key, .slice Ar_1 r_.vers.length cr_1] 70 (0, 0))]]) ?_ hw
    clear hw
    refine e_buildSlice (cs := #[.int .i64 (gt r_.vers i12).dot.s, .int .i64 (gt r_.vers i12).dot.n, .slice A24 ((gt r_.vers i12).past).length c25, .bool (gt r_.vers i12).gone, .string (gt r_.vers i12).val]) (e := 115) rfl rfl rfl rfl (fun w => by kernel_rfl) ?_
    intro g32
    obtain ⟨hk33, h⟩ := chk_some h
    refine e_append (T := verT) (xs := x6) (ys := [(gt r_.vers i12)]) elem_67 (i := 3) rfl rfl rfl rfl rfl rfl rfl (ho10.mono hl28) (of_decide_eq_true hk33) (fun w hw => src_one (T := verT) (y := (gt r_.vers i12)) (i := 0) rfl (by exact ⟨A24, c25, rfl, ⟨(hx20 hl17).1.1, (hx20 hl17).1.2.1, ⟨hc31, hs30⟩, (hx20 hl17).1.2.2.2⟩⟩) hw) ?_
    intro row34 A35 c36 ho37
    refine va rfl rfl rfl (q_fl 1 fld_70_1 rfl rfl rfl) ?_
    refine e_st (i := 4) (v := .slice A35 (x6 ++ [(gt r_.vers i12)]).length c36) (new := #[.string r_.key, .slice A35 (x6 ++ [(gt r_.vers i12)]).length c36]) rfl Tryz.sizeOf67 rfl rfl rfl rfl (by kernel_rfl) rfl rfl rfl rfl ?_
    refine WR.nil ?_
    change WC _ _ _ _ _ _
    refine WC.region ?_
    refine va rfl rfl rfl (q_move (v := .int .i64 ((i12 : Nat) : Int)) rfl (by kernel_rfl)) ?_
    refine va rfl rfl rfl (q_add_r (r := ((i12 + 1 : Nat) : Int)) rfl rfl rfl (ctr_len hl17 hr_.2.2.le)) ?_
    refine va rfl rfl rfl (q_assign (v := .int .i64 ((i12 + 1 : Nat) : Int)) rfl (by kernel_rfl)) ?_
    refine WR.nil ?_
    intro w hw
    exact ⟨hl17, (x6 ++ [(gt r_.vers i12)]), h, Γ27, A35, c36, row34, (sl_ (by kernel_rfl)), (hw.only (is := [3, 3, 3, 3]) rfl), (hl5.trans hl28), ho37, trivial⟩
  · skip
    have h := hge15 (ige hb16)
    refine WC.exit ?_
    change WC _ _ _ _ _ _
    refine WC.rs ?_
    refine va rfl rfl rfl (q_ldla (i := 1) (vs := [.string r_.key, .slice A7 x6.length c8]) rfl rfl Tryz.isAgg70 Tryz.sizeOf70 rfl rfl) ?_
    refine e_st (i := 2) (v := .agg #[.string r_.key, .slice A7 x6.length c8]) (new := #[.string r_.key, .slice A7 x6.length c8]) rfl Tryz.sizeOf70 rfl rfl rfl rfl (by kernel_rfl) rfl rfl rfl rfl ?_
    refine WR.nil ?_
    change WC _ _ _ _ _ _
    refine WC.ret ?_
    intro w hw
    have hc42 := ho10.capz
    obtain ⟨Γ38, hw, hl39, hr40⟩ := hw.seal (i := 0) rfl; have hs41 := ho10.sl hl39 hr40
    obtain rfl := Option.some.inj h
    subst hF
    exact ⟨[.agg #[.string r_.key, .slice A7 x6.length c8]], (rr_agg (i := 2) (us := [.string r_.key, .slice A7 x6.length c8]) hw rfl Tryz.isAgg70 Tryz.sizeOf70 (by kernel_rfl) rfl rr_nil), end_e (is := []) (by kernel_rfl) hw rfl ⟨A7, c8, rfl, rfl, ⟨hr_.1, ⟨hc42, hs41⟩⟩, trivial⟩⟩
abbrev r_firthlaw19_spoil (r : Unit) (U : List Rowb) (Γ : Gh) (v : Value) : Prop := ∃ (Jl' : Rowb), v = .tuple #[] ∧ U = [Jl'] ∧ True
set_option maxRecDepth 100000 in
set_option maxHeartbeats 400000 in
theorem t_firthlaw19_spoil {Γ : Gh} {w0 : World} {Al : Option Addr} {cl : Nat} {Jl : Rowb} {l : List Rec} (hln : (Jl.map (·.1)).Nodup) (hl : Sl recT (ghr Jl) Al l) (hlc : l.length ≤ cl) (hp : Pre [Jl] Γ w0) {r : Unit} (h : m_firthlaw19_spoil l = some r) : Calls Tryz.prog 43 #[.slice Al l.length cl] w0 (Outc Γ [Jl] w0 (r_firthlaw19_spoil r)) := by
  refine calls_of (N := 55) (rs := []) (args := [.slice Al l.length cl]) Tryz.func43 rfl Tryz.ntmps43 Tryz.results43 rfl ?_
  obtain ⟨F, hF⟩ : ∃ F : Fm, F = ⟨ids [Jl], w0, Γ⟩ := ⟨_, rfl⟩
  refine WC.here (C := CC F Γ [Jl]) ?_ (hF ▸ hp.start)
  refine WC.rs ?_
  refine va rfl rfl rfl (q_assign (v := .int .i64 0) rfl (by kernel_rfl)) ?_
  refine WR.nil ?_
  change WC _ _ _ _ _ _
  refine WC.block ?_
  refine WC.loopJ (l.length) (fun (i1 : Nat) σ w => ∃ (J2 : Rowb) (ys4 : List Rec), (J2.map (·.1)).Nodup ∧ Sl recT (ghr J2) Al ys4 ∧ shL Rec.sh ys4 = shL Rec.sh l ∧ slots σ [(0, .slice Al l.length cl), (2, .int .i64 ((i1 : Nat) : Int))] ∧ CC F Γ [J2] w) ?_ ?_
  · skip
    intro w hw; exact ⟨Jl, l, hln, hl, rfl, (sl_ (by kernel_rfl)), hw⟩
  rintro i1 σ w ⟨J2, ys4, hn3, hj5, hs6, hsl, hw⟩
  have hq7 := shL_eq_len hs6
  refine Wpt.slots hsl ?_
  refine WC.here (C := CC F Γ [J2]) ?_ hw
  clear hw hsl
  refine WC.seq ?_
  refine WC.rs ?_
  refine va rfl rfl rfl (q_move (v := .int .i64 ((i1 : Nat) : Int)) rfl (by kernel_rfl)) ?_
  refine va rfl rfl rfl (q_move (v := .slice Al l.length cl) rfl (by kernel_rfl)) ?_
  refine va rfl rfl rfl (q_len_slice rfl Tryz.underlying23 rfl) ?_
  refine va rfl rfl rfl (q_lss rfl rfl rfl) ?_
  refine WR.nil ?_
  change WC _ _ _ _ _ _
  refine WC.cond (b := (decide (((i1 : Nat) : Int) < ((l.length : Nat) : Int)))) (by kernel_rfl) (fun hb8 => ?_) (fun hb8 => ?_)
  · skip
    have hl9 := ilt hb8
    have hq10 := jlt hs6 (ltq hl9 hq7.symm)
    refine WC.skip ?_
    change WC _ _ _ _ _ _
    refine WC.seq ?_
    refine WC.block ?_
    refine WC.rs ?_
    refine va rfl rfl rfl (q_assign (v := .int .i64 0) rfl (by kernel_rfl)) ?_
    refine WR.nil ?_
    change WC _ _ _ _ _ _
    refine WC.block ?_
    refine WC.loopJ (((gt ys4 i1).vers).length) (fun (i11 : Nat) σ w => ∃ (J12 : Rowb) (ys14 : List Rec), (J12.map (·.1)).Nodup ∧ Sl recT (ghr J12) Al ys14 ∧ shL Rec.sh ys14 = shL Rec.sh l ∧ slots σ [(0, .slice Al l.length cl), (2, .int .i64 ((i1 : Nat) : Int)), (3, .int .i64 ((i11 : Nat) : Int))] ∧ CC F Γ [J12] w) ?_ ?_
    · skip
      intro w hw; exact ⟨J2, ys4, hn3, hj5, hs6, (sl_ (by kernel_rfl)), hw⟩
    rintro i11 σ w ⟨J12, ys14, hn13, hj15, hs16, hsl, hw⟩
    have hq17 := shL_eq_len hs16
    refine Wpt.slots hsl ?_
    refine WC.here (C := CC F Γ [J12]) ?_ hw
    clear hw hsl
    refine WC.seq ?_
    refine WC.rs ?_
    refine va rfl rfl rfl (q_move (v := .int .i64 ((i11 : Nat) : Int)) rfl (by kernel_rfl)) ?_
    refine va rfl rfl rfl (q_move (v := .slice Al l.length cl) rfl (by kernel_rfl)) ?_
    refine va rfl rfl rfl (q_move (v := .int .i64 ((i1 : Nat) : Int)) rfl (by kernel_rfl)) ?_
    refine va rfl rfl rfl (q_ixn (i := i1) Tryz.underlying23 Tryz.sizeOf70 rfl rfl rfl hl9 (hj15.some_ (ltq hl9 hq17.symm))) ?_
    refine va rfl rfl rfl (q_field_addr (i1 * 2 + 1) fld_70_1 rfl rfl (hj15.some_ (ltq hl9 hq17.symm)) rfl) ?_
    obtain ⟨A18, c19, hx20⟩ := hj15.recT_at i1
    refine va rfl rfl rfl (q_ldS (c := 1) (v := .slice A18 ((gt ys14 i1).vers).length c19) (satJ (i := 0) rfl hn13) (hx20 (ltq hl9 hq17.symm)).2 rfl Tryz.isAgg67 rfl rfl) ?_
    refine va rfl rfl rfl (q_len_slice rfl Tryz.underlying67 rfl) ?_
    refine va rfl rfl rfl (q_lss rfl rfl rfl) ?_
    refine WR.nil ?_
    change WC _ _ _ _ _ _
    refine WC.cond (b := (decide (((i11 : Nat) : Int) < ((((gt ys14 i1).vers).length : Nat) : Int)))) (by kernel_rfl) (fun hb21 => ?_) (fun hb21 => ?_)
    · skip
      have hl22 := ilt hb21
      have hq23 := jlt (shL_kid hs16 hq10) hl22
      refine WC.skip ?_
      change WC _ _ _ _ _ _
      refine WC.seq ?_
      refine WC.block ?_
      refine WC.seq ?_
      refine WC.rs ?_
      refine va rfl rfl rfl (q_assign (v := .int .i64 0) rfl (by kernel_rfl)) ?_
      refine WR.nil ?_
      change WC _ _ _ _ _ _
      refine WC.block ?_
      refine WC.loopJ (((gt ((gt ys14 i1).vers) i11).past).length) (fun (i24 : Nat) σ w => ∃ (J25 : Rowb) (ys27 : List Rec), (J25.map (·.1)).Nodup ∧ Sl recT (ghr J25) Al ys27 ∧ shL Rec.sh ys27 = shL Rec.sh l ∧ slots σ [(0, .slice Al l.length cl), (2, .int .i64 ((i1 : Nat) : Int)), (3, .int .i64 ((i11 : Nat) : Int)), (4, .int .i64 ((i24 : Nat) : Int))] ∧ CC F Γ [J25] w) ?_ ?_
      · skip
        intro w hw; exact ⟨J12, ys14, hn13, hj15, hs16, (sl_ (by kernel_rfl)), hw⟩
      rintro i24 σ w ⟨J25, ys27, hn26, hj28, hs29, hsl, hw⟩
      have hq30 := shL_eq_len hs29
      refine Wpt.slots hsl ?_
      refine WC.here (C := CC F Γ [J25]) ?_ hw
      clear hw hsl
      have hlt31 := jtl (shL_kid hs29 hq10) hq23
      refine WC.seq ?_
      refine WC.rs ?_
      refine va rfl rfl rfl (q_move (v := .int .i64 ((i24 : Nat) : Int)) rfl (by kernel_rfl)) ?_
      refine va rfl rfl rfl (q_move (v := .slice Al l.length cl) rfl (by kernel_rfl)) ?_
      refine va rfl rfl rfl (q_move (v := .int .i64 ((i1 : Nat) : Int)) rfl (by kernel_rfl)) ?_
      refine va rfl rfl rfl (q_ixn (i := i1) Tryz.underlying23 Tryz.sizeOf70 rfl rfl rfl hl9 (hj28.some_ (ltq hl9 hq30.symm))) ?_
      refine va rfl rfl rfl (q_field_addr (i1 * 2 + 1) fld_70_1 rfl rfl (hj28.some_ (ltq hl9 hq30.symm)) rfl) ?_
      obtain ⟨A32, c33, hx34⟩ := hj28.recT_at i1
      refine va rfl rfl rfl (q_ldS (c := 1) (v := .slice A32 ((gt ys27 i1).vers).length c33) (satJ (i := 0) rfl hn26) (hx34 (ltq hl9 hq30.symm)).2 rfl Tryz.isAgg67 rfl rfl) ?_
      refine va rfl rfl rfl (q_move (v := .int .i64 ((i11 : Nat) : Int)) rfl (by kernel_rfl)) ?_
      refine va rfl rfl rfl (q_ixn (i := i11) Tryz.underlying67 Tryz.sizeOf115 rfl rfl rfl hlt31 ((hx34 (ltq hl9 hq30.symm)).1.2.2.some_ hlt31)) ?_
      refine va rfl rfl rfl (q_field_addr (i11 * 5 + 2) fld_115_1 rfl rfl ((hx34 (ltq hl9 hq30.symm)).1.2.2.some_ hlt31) rfl) ?_
      obtain ⟨A35, c36, hx37⟩ := (hx34 (ltq hl9 hq30.symm)).1.2.2.verT_at i11
      refine va rfl rfl rfl (q_ldS (c := 2) (v := .slice A35 ((gt ((gt ys27 i1).vers) i11).past).length c36) (satJ (i := 0) rfl hn26) (hx37 hlt31).2 rfl Tryz.isAgg113 rfl rfl) ?_
      refine va rfl rfl rfl (q_len_slice rfl Tryz.underlying113 rfl) ?_
      refine va rfl rfl rfl (q_lss rfl rfl rfl) ?_
      refine WR.nil ?_
      change WC _ _ _ _ _ _
      refine WC.cond (b := (decide (((i24 : Nat) : Int) < ((((gt ((gt ys27 i1).vers) i11).past).length : Nat) : Int)))) (by kernel_rfl) (fun hb38 => ?_) (fun hb38 => ?_)
      · skip
        have hl39 := ilt hb38
        have hq40 := jlt (shL_kid (shL_kid hs29 hq10) hq23) hl39
        refine WC.skip ?_
        change WC _ _ _ _ _ _
        refine WC.seq ?_
        refine WC.block ?_
        refine WC.region ?_
        refine va rfl rfl rfl (q_move (v := .slice Al l.length cl) rfl (by kernel_rfl)) ?_
        refine va rfl rfl rfl (q_move (v := .int .i64 ((i1 : Nat) : Int)) rfl (by kernel_rfl)) ?_
        refine va rfl rfl rfl (q_ixn (i := i1) Tryz.underlying23 Tryz.sizeOf70 rfl rfl rfl hl9 (hj28.some_ (ltq hl9 hq30.symm))) ?_
        refine va rfl rfl rfl (q_field_addr (i1 * 2 + 1) fld_70_1 rfl rfl (hj28.some_ (ltq hl9 hq30.symm)) rfl) ?_
        refine va rfl rfl rfl (q_ldS (c := 1) (v := .slice A32 ((gt ys27 i1).vers).length c33) (satJ (i := 0) rfl hn26) (hx34 (ltq hl9 hq30.symm)).2 rfl Tryz.isAgg67 rfl rfl) ?_
        refine va rfl rfl rfl (q_move (v := .int .i64 ((i11 : Nat) : Int)) rfl (by kernel_rfl)) ?_
        refine va rfl rfl rfl (q_ixn (i := i11) Tryz.underlying67 Tryz.sizeOf115 rfl rfl rfl hlt31 ((hx34 (ltq hl9 hq30.symm)).1.2.2.some_ hlt31)) ?_
        refine va rfl rfl rfl (q_field_addr (i11 * 5 + 2) fld_115_1 rfl rfl ((hx34 (ltq hl9 hq30.symm)).1.2.2.some_ hlt31) rfl) ?_
        obtain ⟨A41, c42, hx43⟩ := (hx34 (ltq hl9 hq30.symm)).1.2.2.verT_at i11
        refine va rfl rfl rfl (q_ldS (c := 2) (v := .slice A41 ((gt ((gt ys27 i1).vers) i11).past).length c42) (satJ (i := 0) rfl hn26) (hx43 hlt31).2 rfl Tryz.isAgg113 rfl rfl) ?_
        refine va rfl rfl rfl (q_move (v := .int .i64 ((i24 : Nat) : Int)) rfl (by kernel_rfl)) ?_
        refine va rfl rfl rfl (q_ixn (i := i24) Tryz.underlying113 Tryz.sizeOf117 rfl rfl rfl hl39 ((hx43 hlt31).1.2.2.1.2.some_ hl39)) ?_
        refine va rfl rfl rfl (q_field_addr (i24 * 3 + 2) fld_117_2 rfl rfl ((hx43 hlt31).1.2.2.1.2.some_ hl39) rfl) ?_
        refine e_store_J (c := 2) (u := .int .i64 (gt ((gt ((gt ys27 i1).vers) i11).past) i24).t) (v := .int .i64 (-4)) rfl rfl rfl rfl (by kernel_rfl) Tryz.sizeOf2 rfl rfl ((hx43 hlt31).1.2.2.1.2.spanT_at hl39).2 rfl (.int _ _ (show I64 (-4) by decide)) (i := 0) rfl hn26 ?_
        intro J44 hn45 hl46
        obtain ⟨ys47, hj48, hs49⟩ := hj28.like like_Rec hl46
        have hs49 := hs49.trans hs29
        have hq50 := shL_eq_len hs49
        have hlt51 := jtl (shL_kid hs49 hq10) hq23
        have hlt52 := jtl (shL_kid (shL_kid hs49 hq10) hq23) hq40
        refine WR.nil ?_
        change WC _ _ _ _ _ _
        refine WC.region ?_
        refine va rfl rfl rfl (q_move (v := .int .i64 ((i24 : Nat) : Int)) rfl (by kernel_rfl)) ?_
        refine va rfl rfl rfl (q_add_r (r := ((i24 + 1 : Nat) : Int)) rfl rfl rfl (ctr_len hl39 (hx37 hlt31).1.2.2.1.2.le)) ?_
        refine va rfl rfl rfl (q_assign (v := .int .i64 ((i24 + 1 : Nat) : Int)) rfl (by kernel_rfl)) ?_
        refine WR.nil ?_
        intro w hw; exact ⟨(jtl (shL_kid (shL_kid hs16 hq10) hq23) hq40), J44, ys47, hn45, hj48, hs49, (sl_ (by kernel_rfl)), hw⟩
      · skip
        refine WC.exit ?_
        change WC _ _ _ _ _ _
        refine WC.region ?_
        refine va rfl rfl rfl (q_move (v := .slice Al l.length cl) rfl (by kernel_rfl)) ?_
        refine va rfl rfl rfl (q_move (v := .int .i64 ((i1 : Nat) : Int)) rfl (by kernel_rfl)) ?_
        refine va rfl rfl rfl (q_ixn (i := i1) Tryz.underlying23 Tryz.sizeOf70 rfl rfl rfl hl9 (hj28.some_ (ltq hl9 hq30.symm))) ?_
        refine va rfl rfl rfl (q_field_addr (i1 * 2 + 1) fld_70_1 rfl rfl (hj28.some_ (ltq hl9 hq30.symm)) rfl) ?_
        refine va rfl rfl rfl (q_ldS (c := 1) (v := .slice A32 ((gt ys27 i1).vers).length c33) (satJ (i := 0) rfl hn26) (hx34 (ltq hl9 hq30.symm)).2 rfl Tryz.isAgg67 rfl rfl) ?_
        refine va rfl rfl rfl (q_move (v := .int .i64 ((i11 : Nat) : Int)) rfl (by kernel_rfl)) ?_
        refine va rfl rfl rfl (q_ixn (i := i11) Tryz.underlying67 Tryz.sizeOf115 rfl rfl rfl hlt31 ((hx34 (ltq hl9 hq30.symm)).1.2.2.some_ hlt31)) ?_
        refine va rfl rfl rfl (q_field_addr (i11 * 5 + 4) fld_115_3 rfl rfl ((hx34 (ltq hl9 hq30.symm)).1.2.2.some_ hlt31) rfl) ?_
        obtain ⟨A53, c54, hx55⟩ := (hx34 (ltq hl9 hq30.symm)).1.2.2.verT_at i11
        refine e_store_J (c := 4) (u := .string (gt ((gt ys27 i1).vers) i11).val) (v := .string (⟨#[115, 112, 111, 105, 108, 116]⟩ : ByteArray)) rfl rfl rfl rfl (by kernel_rfl) Tryz.sizeOf9 rfl rfl (hx55 hlt31).2 rfl (.str _ _ (show (⟨#[115, 112, 111, 105, 108, 116]⟩ : ByteArray).size ≤ lim by decide)) (i := 0) rfl hn26 ?_
        intro J56 hn57 hl58
        obtain ⟨ys59, hj60, hs61⟩ := hj28.like like_Rec hl58
        have hs61 := hs61.trans hs29
        have hq62 := shL_eq_len hs61
        have hlt63 := jtl (shL_kid hs61 hq10) hq23
        refine WR.nil ?_
        change WC _ _ _ _ _ _
        refine WC.region ?_
        refine va rfl rfl rfl (q_move (v := .int .i64 ((i11 : Nat) : Int)) rfl (by kernel_rfl)) ?_
        refine va rfl rfl rfl (q_add_r (r := ((i11 + 1 : Nat) : Int)) rfl rfl rfl (ctr_len hl22 (hx20 (ltq hl9 hq17.symm)).1.2.2.le)) ?_
        refine va rfl rfl rfl (q_assign (v := .int .i64 ((i11 + 1 : Nat) : Int)) rfl (by kernel_rfl)) ?_
        refine WR.nil ?_
        intro w hw; exact ⟨(jtl (shL_kid hs6 hq10) hq23), J56, ys59, hn57, hj60, hs61, (sl_ (by kernel_rfl)), hw⟩
    · skip
      refine WC.exit ?_
      change WC _ _ _ _ _ _
      refine WC.region ?_
      refine va rfl rfl rfl (q_move (v := .int .i64 ((i1 : Nat) : Int)) rfl (by kernel_rfl)) ?_
      refine va rfl rfl rfl (q_add_r (r := ((i1 + 1 : Nat) : Int)) rfl rfl rfl (ctr_len hl9 (hq7 ▸ hj5.le))) ?_
      refine va rfl rfl rfl (q_assign (v := .int .i64 ((i1 + 1 : Nat) : Int)) rfl (by kernel_rfl)) ?_
      refine WR.nil ?_
      intro w hw; exact ⟨hl9, J12, ys14, hn13, hj15, hs16, (sl_ (by kernel_rfl)), hw⟩
  · skip
    refine WC.exit ?_
    intro w hw
    obtain rfl := Option.some.inj h
    subst hF
    exact end_e (is := [0]) (by kernel_rfl) hw rfl ⟨J2, rfl, rfl, trivial⟩
abbrev r_pull_Pull_Wants_l1 (r : List (List Int)) (U : List Rowb) (Γ : Gh) (v : Value) : Prop := ∃ (A0 : Option Addr), ∃ (c0 : Nat), ∃ (row0 : Rowb), v = .slice A0 r.length c0 ∧ U = [row0] ∧ Own (slT intT) Γ 24 row0 A0 c0 r ∧ True
set_option maxRecDepth 100000 in
set_option maxHeartbeats 400000 in
theorem t_pull_Pull_Wants_l1 {Γ : Gh} {w0 : World} {B : Gh} {gp_ ep_ : Nat} {rowp_ : Rowb} {p_ : Opull_Pull} (hp_ : Opull_Pull.ob ep_ B gp_ rowp_ p_) (hp_r : ∀ p ∈ rowp_, B p.1 = some p.2) (hp : Pre [] Γ w0) (hpB : Pre [] B w0) {r : List (List Int)} (h : m_pull_Pull_Wants_l1 p_ = some r) : Calls Tryz.prog 31 #[.pointer (some ⟨gp_, 0, none⟩)] w0 (Outc Γ [] w0 (r_pull_Pull_Wants_l1 r)) := by
  refine calls_of (N := 23) (rs := [2]) (args := [.pointer (some ⟨gp_, 0, none⟩)]) Tryz.func31 rfl Tryz.ntmps31 Tryz.results31 rfl ?_
  obtain ⟨F, hF⟩ : ∃ F : Fm, F = ⟨ids [], w0, Γ⟩ := ⟨_, rfl⟩
  refine WC.here (C := CC F Γ []) ?_ (hF ▸ hp.start)
  have hB : Lent F B := hF ▸ Lent.start hpB
  refine WC.rs ?_
  refine va rfl rfl rfl (q_assign (v := .slice none 0 0) rfl (by kernel_rfl)) ?_
  refine WR.nil ?_
  change WC _ _ _ _ _ _
  refine WC.rs ?_
  refine va rfl rfl rfl (q_assign (v := .slice none 0 0) rfl (by kernel_rfl)) ?_
  refine WR.nil ?_
  change WC _ _ _ _ _ _
  refine WC.seq ?_
  refine WC.rs ?_
  refine va rfl rfl rfl (q_move (v := .pointer (some ⟨gp_, 0, none⟩)) rfl (by kernel_rfl)) ?_
  refine va rfl rfl rfl (q_nil (A := some ⟨gp_, 0, none⟩) rfl rfl rfl) ?_
  refine va rfl rfl rfl (q_fl 4 fld_97_4 rfl rfl rfl) ?_
  have hq := hp_
  obtain ⟨g1_1, r1_1, A3_1, c3_1, A4_1, c4_1, r4_1, g5_1, r5_1, hrow_1, ho0_1, ho1_1, ho2_1, ho3_1, ho4_1, ho5_1, -⟩ := hq
  have hg_2 : ∀ u ∈ ([[(gp_, .cells #[.int .i64 p_.id, .pointer (some ⟨g1_1, 0, none⟩), .bool p_.begun, .slice A3_1 p_.vec.length c3_1, .slice A4_1 p_.wants.length c4_1, .pointer (some ⟨g5_1, 0, none⟩)] ep_ (0, 0))], r1_1, r4_1, r5_1] : List Rowb), ∀ p ∈ u, B p.1 = some p.2 := fun u hu p hp => (fun p hp => (hp_r p hp)) p (hrow_1 ▸ List.mem_flatten.2 ⟨u, hu, hp⟩)
  have hgc3 := hg_2 _ (List.mem_cons_self ..) (gp_, _) (List.mem_singleton.2 rfl)
  have hgs4 := hg_2 r1_1 (by simp)
  have hgs5 := hg_2 r4_1 (by simp)
  have hgs6 := hg_2 r5_1 (by simp)
  have hs7 := ho4_1.sl (Gh.refl _) hgs5
  refine va rfl rfl rfl (q_via (fun w hw => hB.sat hw) fun F => (q_ldg (v := .slice A4_1 p_.wants.length c4_1) hgc3 rfl Tryz.isAgg95 rfl rfl)) ?_
  refine va rfl rfl rfl (q_len_slice rfl Tryz.underlying95 rfl) ?_
  refine va rfl rfl rfl (q_move (v := .int .i64 0) rfl (by kernel_rfl)) ?_
  refine WR.nil ?_
  change WC _ _ _ _ _ _
  refine WC.block ?_
  refine WC.forI h (fun (i16 : Nat) (out_10 : List (List Int)) σ w => ∃ (Γ8 : Gh), ∃ (A11 : Option Addr), ∃ (c12 : Nat), ∃ (row13 : Rowb), slots σ [(3, .slice A11 out_10.length c12), (9, .slice A4_1 p_.wants.length c4_1), (10, .int .i64 ((p_.wants.length : Nat) : Int)), (11, .int .i64 ((i16 : Nat) : Int))] ∧ CC F Γ8 [row13] w ∧ Gh.le Γ Γ8 ∧ Own (slT intT) Γ8 24 row13 A11 c12 out_10 ∧ True) ?_ ?_
  · skip
    intro w hw
    have hw := hw.pad
    exact ⟨Γ, none, 0, [], (sl_ (by kernel_rfl)), hw, (Gh.refl _), (Own.nil (slT intT) _ 24), trivial⟩
  rintro f15 i16 out_10 σ w hi17 hlt18 hge19 ⟨Γ8, A11, c12, row13, hsl, hw, hl9, ho14, -⟩
  refine Wpt.slots hsl ?_
  refine WC.here (C := CC F Γ8 [row13]) ?_ hw
  clear hw hsl
  refine WC.rs ?_
  refine va rfl rfl rfl (q_lss rfl rfl rfl) ?_
  refine WR.nil ?_
  change WC _ _ _ _ _ _
  refine WC.seq ?_
  refine WC.cond (b := (decide (((i16 : Nat) : Int) < ((p_.wants.length : Nat) : Int)))) (by kernel_rfl) (fun hb20 => ?_) (fun hb20 => ?_)
  · skip
    have hl21 := ilt hb20
    have h := hlt18 hl21
    refine WC.skip ?_
    change WC _ _ _ _ _ _
    refine WC.seq ?_
    refine WC.block ?_
    refine WC.rs ?_
    refine va rfl rfl rfl (q_ixn (i := i16) Tryz.underlying95 Tryz.sizeOf100 rfl rfl rfl hl21 (hs7.some_ hl21)) ?_
    refine va rfl rfl rfl (q_ldaS (c := 0) (vs := [.int .i64 (gt p_.wants i16).a0, .int .i64 (gt p_.wants i16).a1]) (fun w hw => hB.sat hw) (hs7.dpull_wayT_at hl21).2 rfl Tryz.isAgg100 Tryz.sizeOf100 rfl rfl rfl) ?_
    refine e_alloc Tryz.zeroValue100 rfl rfl rfl rfl ?_
    intro g22
    refine e_st (i := 0) (v := .agg #[.int .i64 (gt p_.wants i16).a0, .int .i64 (gt p_.wants i16).a1]) (new := #[.int .i64 (gt p_.wants i16).a0, .int .i64 (gt p_.wants i16).a1]) rfl Tryz.sizeOf100 rfl rfl rfl rfl (by kernel_rfl) rfl rfl rfl rfl ?_
    refine WR.nil ?_
    change WC _ _ _ _ _ _
    refine WC.region ?_
    refine va rfl rfl rfl (q_move (v := .slice A11 out_10.length c12) rfl (by kernel_rfl)) ?_
    refine va rfl rfl rfl (q_ldla (i := 0) (vs := [.int .i64 (gt p_.wants i16).a0, .int .i64 (gt p_.wants i16).a1]) rfl rfl Tryz.isAgg100 Tryz.sizeOf100 rfl rfl) ?_
    obtain ⟨z23, hz24, h⟩ := bnd h
    refine e_call (is := []) rfl rfl (call_run Tryz.call70 rfl rfl (by kernel_rfl)) rfl (fun w hp => t_pull_way_path (gt p_.wants i16) (by exact (hs7.dpull_wayT_at hl21).1) hp hz24) ?_
    rintro Γ25 U27 v28 hl26 ⟨A29, c30, rfl, rfl, hc32, hr31, _⟩
    change WR _ _ _ (CC F Γ25 [[(g22, .cells #[.int .i64 (gt p_.wants i16).a0, .int .i64 (gt p_.wants i16).a1] 100 (0, 0))], row13]) _ _ (upd _ 17 (.slice A29 z23.length c30))
    obtain ⟨z33, hz34, h⟩ := bnd h
    refine e_call (is := []) rfl rfl (call_run Tryz.call69 rfl rfl (by kernel_rfl)) rfl (fun w hp => t_slices_Clone_int_int hr31 hc32 hp hz34) ?_
    rintro Γ35 U37 v38 hl36 ⟨A39, c40, row41, rfl, rfl, hr42, _⟩
    change WR _ _ _ (CC F Γ35 [row41, [(g22, .cells #[.int .i64 (gt p_.wants i16).a0, .int .i64 (gt p_.wants i16).a1] 100 (0, 0))], row13]) _ _ (upd _ 18 (.slice A39 z33.length c40))
    have hc47 := hr42.capz
    intro w hw; obtain ⟨Γ43, hw, hl44, hr45⟩ := hw.seal (i := 0) rfl; have hs46 := hr42.sl hl44 hr45
    refine WR.here (C := CC F Γ43 [[], [(g22, .cells #[.int .i64 (gt p_.wants i16).a0, .int .i64 (gt p_.wants i16).a1] 100 (0, 0))], row13]) ?_ hw
    clear hw
    refine e_buildSlice (cs := #[.slice A39 z33.length c40]) (e := 24) rfl rfl rfl rfl (fun w => by kernel_rfl) ?_
    intro g48
    obtain ⟨hk49, h⟩ := chk_some h
    refine e_append (T := (slT intT)) (xs := out_10) (ys := [z33]) elem_57 (i := 3) rfl rfl rfl rfl rfl rfl rfl (ho14.mono ((hl26.trans hl36).trans hl44)) (of_decide_eq_true hk49) (fun w hw => src_one (T := (slT intT)) (y := z33) (i := 0) rfl (by exact ⟨A39, c40, rfl, hc47, hs46⟩) hw) ?_
    intro row50 A51 c52 ho53
    refine va rfl rfl rfl (q_assign (v := .slice A51 (out_10 ++ [z33]).length c52) rfl (by kernel_rfl)) ?_
    refine WR.nil ?_
    change WC _ _ _ _ _ _
    refine WC.region ?_
    refine va rfl rfl rfl (q_add_r (r := ((i16 + 1 : Nat) : Int)) rfl rfl rfl (ctr_len hl21 hs7.le)) ?_
    refine va rfl rfl rfl (q_move (v := .int .i64 ((i16 + 1 : Nat) : Int)) rfl (by kernel_rfl)) ?_
    refine WR.nil ?_
    intro w hw
    exact ⟨hl21, (out_10 ++ [z33]), h, Γ43, A51, c52, row50, (sl_ (by kernel_rfl)), (hw.only (is := [3]) rfl), (((hl9.trans hl26).trans hl36).trans hl44), ho53, trivial⟩
  · skip
    have h := hge19 (ige hb20)
    refine WC.exit ?_
    change WC _ _ _ _ _ _
    refine WC.rs ?_
    refine va rfl rfl rfl (q_move (v := .slice A11 out_10.length c12) rfl (by kernel_rfl)) ?_
    refine va rfl rfl rfl (q_assign (v := .slice A11 out_10.length c12) rfl (by kernel_rfl)) ?_
    refine WR.nil ?_
    change WC _ _ _ _ _ _
    refine WC.ret ?_
    intro w hw
    obtain rfl := Option.some.inj h
    subst hF
    exact end_e (is := [0]) (by kernel_rfl) hw rfl ⟨A11, c12, row13, rfl, rfl, ho14, trivial⟩
set_option maxRecDepth 100000 in
set_option maxHeartbeats 400000 in
theorem t_firthref03_Dot {Γ : Gh} {w0 : World} (d : Dot) (hd : Dot.fits Γ  d) (hs : Sat Γ w0) {r : Bool} (h : m_firthref03_Dot d = some r) : Calls Tryz.prog 116 #[.agg #[.int .i64 d.s, .int .i64 d.n]] w0 (fun e w' => e = .returned (.bool r) ∧ Fr no w0 w') := by
  refine calls_of (N := 21) (rs := [2]) (args := [.agg #[.int .i64 d.s, .int .i64 d.n]]) Tryz.func116 rfl Tryz.ntmps116 Tryz.results116 rfl ?_
  obtain ⟨F, hF⟩ : ∃ F : Fm, F = ⟨no, w0, Γ⟩ := ⟨_, rfl⟩
  refine WC.here (C := CC F Γ []) ?_ (hF ▸ Cur.start0 hs)
  refine WC.rs ?_
  refine e_box (v := .agg #[.int .i64 d.s, .int .i64 d.n]) rfl rfl rfl rfl (by kernel_rfl) ?_
  intro g1
  refine va rfl rfl rfl (q_assign (v := .bool false) rfl (by kernel_rfl)) ?_
  refine WR.nil ?_
  change WC _ _ _ _ _ _
  refine WC.rs ?_
  refine va rfl rfl rfl (q_fl 0 fld_112_0 rfl rfl rfl) ?_
  refine va rfl rfl rfl (q_ldl (i := 0) (v := .int .i64 d.s) rfl rfl Tryz.isAgg3 rfl rfl) ?_
  refine va rfl rfl rfl (q_geq rfl rfl rfl) ?_
  refine va rfl rfl rfl (q_move (v := .bool (decide (1 ≤ d.s))) rfl (by kernel_rfl)) ?_
  refine vg1 rfl rfl rfl rfl rfl (fun hg2 => QV.qo (q_fl 0 fld_112_0 rfl rfl rfl)) ?_
  refine vg1 rfl rfl rfl rfl rfl (fun hg3 => QV.qo (q_ldl (i := 0) (v := .int .i64 d.s) rfl rfl Tryz.isAgg3 (gu hg3 rfl) rfl)) ?_
  refine vg1 rfl rfl rfl rfl rfl (fun hg4 => QV.qo (q_leq rfl (gu hg4 rfl) rfl)) ?_
  refine va rfl rfl rfl (q_pick rfl rfl (pk_and' (g := (decide (1 ≤ d.s))) (y := (decide (d.s ≤ 16))))) ?_
  refine va rfl rfl rfl (q_move (v := .bool ((decide (1 ≤ d.s)) && (decide (d.s ≤ 16)))) rfl (by kernel_rfl)) ?_
  refine vg1 rfl rfl rfl rfl rfl (fun hg5 => QV.qo (q_fl 1 fld_112_1 rfl rfl rfl)) ?_
  refine vg1 rfl rfl rfl rfl rfl (fun hg6 => QV.qo (q_ldl (i := 0) (v := .int .i64 d.n) rfl rfl Tryz.isAgg2 (gu hg6 rfl) rfl)) ?_
  refine vg1 rfl rfl rfl rfl rfl (fun hg7 => QV.qo (q_geq rfl (gu hg7 rfl) rfl)) ?_
  refine va rfl rfl rfl (q_pick rfl rfl (pk_and' (g := ((decide (1 ≤ d.s)) && (decide (d.s ≤ 16)))) (y := (decide (1 ≤ d.n))))) ?_
  refine va rfl rfl rfl (q_move (v := .bool (((decide (1 ≤ d.s)) && (decide (d.s ≤ 16))) && (decide (1 ≤ d.n)))) rfl (by kernel_rfl)) ?_
  refine vg1 rfl rfl rfl rfl rfl (fun hg8 => QV.qo (q_fl 1 fld_112_1 rfl rfl rfl)) ?_
  refine vg1 rfl rfl rfl rfl rfl (fun hg9 => QV.qo (q_ldl (i := 0) (v := .int .i64 d.n) rfl rfl Tryz.isAgg2 (gu hg9 rfl) rfl)) ?_
  refine vg1 rfl rfl rfl rfl rfl (fun hg10 => QV.qo (q_leq rfl (gu hg10 rfl) rfl)) ?_
  refine va rfl rfl rfl (q_pick rfl rfl (pk_and' (g := (((decide (1 ≤ d.s)) && (decide (d.s ≤ 16))) && (decide (1 ≤ d.n)))) (y := (decide (d.n ≤ 4611686018427387904))))) ?_
  refine va rfl rfl rfl (q_assign (v := .bool ((((decide (1 ≤ d.s)) && (decide (d.s ≤ 16))) && (decide (1 ≤ d.n))) && (decide (d.n ≤ 4611686018427387904)))) rfl (by kernel_rfl)) ?_
  refine WR.nil ?_
  change WC _ _ _ _ _ _
  refine WC.ret ?_
  intro w hw
  obtain rfl := Option.some.inj h
  subst hF
  exact ⟨by kernel_rfl, hw.fr⟩
set_option maxRecDepth 100000 in
set_option maxHeartbeats 400000 in
theorem t_firthref03_Right {Γ : Gh} {w0 : World} {Al : Option Addr} {cl : Nat} {l : List Span} (hl : Sl spanT Γ Al l) (hlc : l.length ≤ cl) (hs : Sat Γ w0) {r : Bool} (h : m_firthref03_Right l = some r) : Calls Tryz.prog 117 #[.slice Al l.length cl] w0 (fun e w' => e = .returned (.bool r) ∧ Fr no w0 w') := by
  refine calls_of (N := 99) (rs := [2]) (args := [.slice Al l.length cl]) Tryz.func117 rfl Tryz.ntmps117 Tryz.results117 rfl ?_
  obtain ⟨F, hF⟩ : ∃ F : Fm, F = ⟨no, w0, Γ⟩ := ⟨_, rfl⟩
  refine WC.here (C := CC F Γ []) ?_ (hF ▸ Cur.start0 hs)
  refine WC.rs ?_
  refine va rfl rfl rfl (q_assign (v := .bool false) rfl (by kernel_rfl)) ?_
  refine WR.nil ?_
  change WC _ _ _ _ _ _
  refine WC.seq ?_
  refine WC.rs ?_
  refine va rfl rfl rfl (q_move (v := .slice Al l.length cl) rfl (by kernel_rfl)) ?_
  refine va rfl rfl rfl (q_len_slice rfl Tryz.underlying113 rfl) ?_
  refine va rfl rfl rfl (q_gtr rfl rfl rfl) ?_
  refine WR.nil ?_
  change WC _ _ _ _ _ _
  refine WC.cif h (by kernel_rfl) (fun hb1 h => ?_) (fun hb1 h => ?_)
  · skip
    refine WC.rs ?_
    refine va rfl rfl rfl (q_assign (v := .bool false) rfl (by kernel_rfl)) ?_
    refine WR.nil ?_
    change WC _ _ _ _ _ _
    refine WC.ret ?_
    intro w hw
    obtain rfl := Option.some.inj h
    subst hF
    exact ⟨by kernel_rfl, hw.fr⟩
  · skip
    refine WC.skip ?_
    change WC _ _ _ _ _ _
    refine WC.seq ?_
    refine WC.rs ?_
    refine va rfl rfl rfl (q_assign (v := .int .i64 0) rfl (by kernel_rfl)) ?_
    refine WR.nil ?_
    change WC _ _ _ _ _ _
    refine WC.block ?_
    refine WC.forI h (fun (i3 : Nat) (s : Unit) σ w => match s with | () => slots σ [(0, .slice Al l.length cl), (3, .int .i64 ((i3 : Nat) : Int))] ∧ CC F Γ [] w ∧ True) ?_ ?_
    · skip
      intro w hw
      exact ⟨(sl_ (by kernel_rfl)), hw, trivial⟩
    rintro f2 i3 ⟨⟩ σ w hi4 hlt5 hge6 ⟨hsl, hw, -⟩
    refine Wpt.slots hsl ?_
    refine WC.here (C := CC F Γ []) ?_ hw
    clear hw hsl
    refine WC.seq ?_
    refine WC.rs ?_
    refine va rfl rfl rfl (q_move (v := .int .i64 ((i3 : Nat) : Int)) rfl (by kernel_rfl)) ?_
    refine va rfl rfl rfl (q_move (v := .slice Al l.length cl) rfl (by kernel_rfl)) ?_
    refine va rfl rfl rfl (q_len_slice rfl Tryz.underlying113 rfl) ?_
    refine va rfl rfl rfl (q_lss rfl rfl rfl) ?_
    refine WR.nil ?_
    change WC _ _ _ _ _ _
    refine WC.cond (b := (decide (((i3 : Nat) : Int) < ((l.length : Nat) : Int)))) (by kernel_rfl) (fun hb7 => ?_) (fun hb7 => ?_)
    · skip
      have hl8 := ilt hb7
      have h := hlt5 hl8
      refine WC.skip ?_
      change WC _ _ _ _ _ _
      refine WC.seq ?_
      refine WC.block ?_
      refine WC.seq ?_
      refine WC.seq ?_
      refine WC.dr (by kernel_rfl) (by kernel_rfl) (fun w hw => hw.drawn _) ?_
      refine wa rfl rfl rfl (q_move (v := .slice Al l.length cl) rfl (by kernel_rfl)) ?_
      refine wa rfl rfl rfl (q_move (v := .int .i64 ((i3 : Nat) : Int)) rfl (by kernel_rfl)) ?_
      refine wa rfl rfl rfl (q_ixn (i := i3) Tryz.underlying113 Tryz.sizeOf117 rfl rfl rfl hl8 (hl.some_ hl8)) ?_
      refine wa rfl rfl rfl (q_field_addr (i3 * 3) fld_117_0 rfl rfl (hl.some_ hl8) rfl) ?_
      refine wa rfl rfl rfl (q_ld (c := 0) (v := .int .i64 (gt l i3).s) (hl.spanT_at hl8).2 rfl Tryz.isAgg3 rfl rfl) ?_
      refine wa rfl rfl rfl (q_move (v := .slice Al l.length cl) rfl (by kernel_rfl)) ?_
      refine wa rfl rfl rfl (q_move (v := .int .i64 ((i3 : Nat) : Int)) rfl (by kernel_rfl)) ?_
      refine wa rfl rfl rfl (q_ixn (i := i3) Tryz.underlying113 Tryz.sizeOf117 rfl rfl rfl hl8 (hl.some_ hl8)) ?_
      refine wa rfl rfl rfl (q_field_addr (i3 * 3 + 1) fld_117_1 rfl rfl (hl.some_ hl8) rfl) ?_
      refine wa rfl rfl rfl (q_ld (c := 1) (v := .int .i64 (gt l i3).f) (hl.spanT_at hl8).2 rfl Tryz.isAgg2 rfl rfl) ?_
      refine wa rfl rfl rfl (q_build' (v := .agg #[.int .i64 (gt l i3).s, .int .i64 (gt l i3).f]) rfl (bargs2 rfl rfl) (fun w => by kernel_rfl)) ?_
      obtain ⟨z9, hz10, h⟩ := bnd h
      refine wc rfl rfl rfl (q_call (call_run Tryz.call116 rfl rfl (by kernel_rfl)) (fun w hw => t_firthref03_Dot (Γ := Gh.all w) (⟨(gt l i3).s, (gt l i3).f⟩ : Dot) ⟨(hl.spanT_at hl8).1.1, (hl.spanT_at hl8).1.2.1⟩ (Sat.all w) hz10)) ?_
      refine wa rfl rfl rfl (q_not rfl rfl) ?_
      refine wa rfl rfl rfl (q_move (v := .bool (!z9)) rfl (by kernel_rfl)) ?_
      refine wg0 rfl rfl rfl rfl rfl (fun hg11 => QV.qo (q_move (v := .slice Al l.length cl) rfl (by kernel_rfl))) ?_
      refine wg0 rfl rfl rfl rfl rfl (fun hg12 => QV.qo (q_move (v := .int .i64 ((i3 : Nat) : Int)) rfl (by kernel_rfl))) ?_
      refine wg0 rfl rfl rfl rfl rfl (fun hg13 => QV.qo (q_ixn (i := i3) Tryz.underlying113 Tryz.sizeOf117 rfl (gu hg13 rfl) (gu hg13 rfl) hl8 (hl.some_ hl8))) ?_
      refine wg0 rfl rfl rfl rfl rfl (fun hg14 => QV.qo (q_field_addr (i3 * 3) fld_117_0 rfl (gu hg14 rfl) (hl.some_ hl8) rfl)) ?_
      refine wg0 rfl rfl rfl rfl rfl (fun hg15 => QV.qo (q_ld (c := 0) (v := .int .i64 (gt l i3).s) (hl.spanT_at hl8).2 rfl Tryz.isAgg3 (gu hg15 rfl) rfl)) ?_
      refine wg0 rfl rfl rfl rfl rfl (fun hg16 => QV.qo (q_move (v := .slice Al l.length cl) rfl (by kernel_rfl))) ?_
      refine wg0 rfl rfl rfl rfl rfl (fun hg17 => QV.qo (q_move (v := .int .i64 ((i3 : Nat) : Int)) rfl (by kernel_rfl))) ?_
      refine wg0 rfl rfl rfl rfl rfl (fun hg18 => QV.qo (q_ixn (i := i3) Tryz.underlying113 Tryz.sizeOf117 rfl (gu hg18 rfl) (gu hg18 rfl) hl8 (hl.some_ hl8))) ?_
      refine wg0 rfl rfl rfl rfl rfl (fun hg19 => QV.qo (q_field_addr (i3 * 3 + 2) fld_117_2 rfl (gu hg19 rfl) (hl.some_ hl8) rfl)) ?_
      refine wg0 rfl rfl rfl rfl rfl (fun hg20 => QV.qo (q_ld (c := 2) (v := .int .i64 (gt l i3).t) (hl.spanT_at hl8).2 rfl Tryz.isAgg2 (gu hg20 rfl) rfl)) ?_
      refine wg0 rfl rfl rfl rfl rfl (fun hg21 => QV.qo (q_build' (v := .agg #[.int .i64 (gt l i3).s, .int .i64 (gt l i3).t]) rfl (bargs2 (gu hg21 rfl) (gu hg21 rfl)) (fun w => by kernel_rfl))) ?_
      obtain ⟨z23, hz24, h⟩ := bnd h
      refine wg0 rfl rfl rfl rfl rfl (fun hg22 => (q_call (call_run Tryz.call116 rfl rfl (args1 (gu hg22 rfl))) (fun w hw => t_firthref03_Dot (Γ := Gh.all w) (⟨(gt l i3).s, (gt l i3).t⟩ : Dot) ⟨(hl.spanT_at hl8).1.1, (hl.spanT_at hl8).1.2.2⟩ (Sat.all w) (gc_of hz24 hg22)))) ?_
      refine wg0 rfl rfl rfl rfl rfl (fun hg25 => QV.qo (q_not rfl (gu hg25 rfl))) ?_
      refine wa rfl rfl rfl (q_pick rfl rfl (pk_or' (g := (!z9)) (y := (!z23)))) ?_
      refine wa rfl rfl rfl (q_move (v := .bool ((!z9) || (!z23))) rfl (by kernel_rfl)) ?_
      refine wg0 rfl rfl rfl rfl rfl (fun hg26 => QV.qo (q_move (v := .slice Al l.length cl) rfl (by kernel_rfl))) ?_
      refine wg0 rfl rfl rfl rfl rfl (fun hg27 => QV.qo (q_move (v := .int .i64 ((i3 : Nat) : Int)) rfl (by kernel_rfl))) ?_
      refine wg0 rfl rfl rfl rfl rfl (fun hg28 => QV.qo (q_ixn (i := i3) Tryz.underlying113 Tryz.sizeOf117 rfl (gu hg28 rfl) (gu hg28 rfl) hl8 (hl.some_ hl8))) ?_
      refine wg0 rfl rfl rfl rfl rfl (fun hg29 => QV.qo (q_field_addr (i3 * 3 + 1) fld_117_1 rfl (gu hg29 rfl) (hl.some_ hl8) rfl)) ?_
      refine wg0 rfl rfl rfl rfl rfl (fun hg30 => QV.qo (q_ld (c := 1) (v := .int .i64 (gt l i3).f) (hl.spanT_at hl8).2 rfl Tryz.isAgg2 (gu hg30 rfl) rfl)) ?_
      refine wg0 rfl rfl rfl rfl rfl (fun hg31 => QV.qo (q_move (v := .slice Al l.length cl) rfl (by kernel_rfl))) ?_
      refine wg0 rfl rfl rfl rfl rfl (fun hg32 => QV.qo (q_move (v := .int .i64 ((i3 : Nat) : Int)) rfl (by kernel_rfl))) ?_
      refine wg0 rfl rfl rfl rfl rfl (fun hg33 => QV.qo (q_ixn (i := i3) Tryz.underlying113 Tryz.sizeOf117 rfl (gu hg33 rfl) (gu hg33 rfl) hl8 (hl.some_ hl8))) ?_
      refine wg0 rfl rfl rfl rfl rfl (fun hg34 => QV.qo (q_field_addr (i3 * 3 + 2) fld_117_2 rfl (gu hg34 rfl) (hl.some_ hl8) rfl)) ?_
      refine wg0 rfl rfl rfl rfl rfl (fun hg35 => QV.qo (q_ld (c := 2) (v := .int .i64 (gt l i3).t) (hl.spanT_at hl8).2 rfl Tryz.isAgg2 (gu hg35 rfl) rfl)) ?_
      refine wg0 rfl rfl rfl rfl rfl (fun hg36 => QV.qo (q_gtr rfl (gu hg36 rfl) (gu hg36 rfl))) ?_
      refine wa rfl rfl rfl (q_pick rfl rfl (pk_or' (g := ((!z9) || (!z23))) (y := (decide ((gt l i3).t < (gt l i3).f))))) ?_
      refine WQ.nil ?_
      change WC _ _ _ _ _ _
      refine WC.cif h (by kernel_rfl) (fun hb37 h => ?_) (fun hb37 h => ?_)
      · skip
        refine WC.rs ?_
        refine va rfl rfl rfl (q_assign (v := .bool false) rfl (by kernel_rfl)) ?_
        refine WR.nil ?_
        change WC _ _ _ _ _ _
        refine WC.ret ?_
        intro w hw
        obtain rfl := Option.some.inj h
        subst hF
        exact ⟨by kernel_rfl, hw.fr⟩
      · skip
        refine WC.skip ?_
        change WC _ _ _ _ _ _
        refine WC.seq ?_
        refine WC.dr (by kernel_rfl) (by kernel_rfl) (fun w hw => hw.drawn _) ?_
        refine wa rfl rfl rfl (q_move (v := .int .i64 ((i3 : Nat) : Int)) rfl (by kernel_rfl)) ?_
        refine wa rfl rfl rfl (q_gtr rfl rfl rfl) ?_
        refine wa rfl rfl rfl (q_move (v := .bool (decide (0 < ((i3 : Nat) : Int)))) rfl (by kernel_rfl)) ?_
        refine wg1 rfl rfl rfl rfl rfl (fun hg38 => QV.qo (q_move (v := .slice Al l.length cl) rfl (by kernel_rfl))) ?_
        refine wg1 rfl rfl rfl rfl rfl (fun hg39 => QV.qo (q_move (v := .int .i64 ((i3 : Nat) : Int)) rfl (by kernel_rfl))) ?_
        refine wg1 rfl rfl rfl rfl rfl (fun hg40 => QV.qo (q_ixn (i := i3) Tryz.underlying113 Tryz.sizeOf117 rfl (gu hg40 rfl) (gu hg40 rfl) hl8 (hl.some_ hl8))) ?_
        refine wg1 rfl rfl rfl rfl rfl (fun hg41 => QV.qo (q_field_addr (i3 * 3) fld_117_0 rfl (gu hg41 rfl) (hl.some_ hl8) rfl)) ?_
        refine wg1 rfl rfl rfl rfl rfl (fun hg42 => QV.qo (q_ld (c := 0) (v := .int .i64 (gt l i3).s) (hl.spanT_at hl8).2 rfl Tryz.isAgg3 (gu hg42 rfl) rfl)) ?_
        refine wg1 rfl rfl rfl rfl rfl (fun hg43 => QV.qo (q_move (v := .slice Al l.length cl) rfl (by kernel_rfl))) ?_
        refine wg1 rfl rfl rfl rfl rfl (fun hg44 => QV.qo (q_move (v := .int .i64 ((i3 : Nat) : Int)) rfl (by kernel_rfl))) ?_
        refine wg1 rfl rfl rfl rfl rfl (fun hg45 => QV.qo (q_sub rfl (gu hg45 rfl) rfl)) ?_
        obtain ⟨hk47, h⟩ := chk_some h
        refine wg1 rfl rfl rfl rfl rfl (fun hg46 => QV.qo (q_ix Tryz.underlying113 Tryz.sizeOf117 rfl (gu hg46 rfl) (gu hg46 rfl) (imp_of hk47 hg46) (hl.some_ (inb_lt (imp_of hk47 hg46))))) ?_
        refine wg1 rfl rfl rfl rfl rfl (fun hg48 => QV.qo (q_field_addr (((w64 (((i3 : Nat) : Int) - 1)).toNat) * 3) fld_117_0 rfl (gu hg48 rfl) (hl.some_ (inb_lt (imp_of hk47 hg48))) rfl)) ?_
        refine wg1 rfl rfl rfl rfl rfl (fun hg49 => QV.qo (q_ld (c := 0) (v := .int .i64 (gt l ((w64 (((i3 : Nat) : Int) - 1)).toNat)).s) (hl.spanT_at (inb_lt (imp_of hk47 hg49))).2 rfl Tryz.isAgg3 (gu hg49 rfl) rfl)) ?_
        refine wg1 rfl rfl rfl rfl rfl (fun hg50 => QV.qo (q_lss rfl (gu hg50 rfl) (gu hg50 rfl))) ?_
        refine wg1 rfl rfl rfl rfl rfl (fun hg51 => QV.qo (q_move (v := .bool (decide ((gt l i3).s < (gt l ((w64 (((i3 : Nat) : Int) - 1)).toNat)).s))) rfl (gu hg51 rfl))) ?_
        refine wh0 (c0 := (decide (0 < ((i3 : Nat) : Int)))) (g := (decide ((gt l i3).s < (gt l ((w64 (((i3 : Nat) : Int) - 1)).toNat)).s))) rfl rfl rfl rfl rfl (fun hg52 => QV.qo (q_move (v := .slice Al l.length cl) rfl (by kernel_rfl))) ?_
        refine wh0 (c0 := (decide (0 < ((i3 : Nat) : Int)))) (g := (decide ((gt l i3).s < (gt l ((w64 (((i3 : Nat) : Int) - 1)).toNat)).s))) rfl rfl rfl rfl rfl (fun hg53 => QV.qo (q_move (v := .int .i64 ((i3 : Nat) : Int)) rfl (by kernel_rfl))) ?_
        refine wh0 (c0 := (decide (0 < ((i3 : Nat) : Int)))) (g := (decide ((gt l i3).s < (gt l ((w64 (((i3 : Nat) : Int) - 1)).toNat)).s))) rfl rfl rfl rfl rfl (fun hg54 => QV.qo (q_ixn (i := i3) Tryz.underlying113 Tryz.sizeOf117 rfl (gu hg54 rfl) (gu hg54 rfl) hl8 (hl.some_ hl8))) ?_
        refine wh0 (c0 := (decide (0 < ((i3 : Nat) : Int)))) (g := (decide ((gt l i3).s < (gt l ((w64 (((i3 : Nat) : Int) - 1)).toNat)).s))) rfl rfl rfl rfl rfl (fun hg55 => QV.qo (q_field_addr (i3 * 3) fld_117_0 rfl (gu hg55 rfl) (hl.some_ hl8) rfl)) ?_
        refine wh0 (c0 := (decide (0 < ((i3 : Nat) : Int)))) (g := (decide ((gt l i3).s < (gt l ((w64 (((i3 : Nat) : Int) - 1)).toNat)).s))) rfl rfl rfl rfl rfl (fun hg56 => QV.qo (q_ld (c := 0) (v := .int .i64 (gt l i3).s) (hl.spanT_at hl8).2 rfl Tryz.isAgg3 (gu hg56 rfl) rfl)) ?_
        refine wh0 (c0 := (decide (0 < ((i3 : Nat) : Int)))) (g := (decide ((gt l i3).s < (gt l ((w64 (((i3 : Nat) : Int) - 1)).toNat)).s))) rfl rfl rfl rfl rfl (fun hg57 => QV.qo (q_move (v := .slice Al l.length cl) rfl (by kernel_rfl))) ?_
        refine wh0 (c0 := (decide (0 < ((i3 : Nat) : Int)))) (g := (decide ((gt l i3).s < (gt l ((w64 (((i3 : Nat) : Int) - 1)).toNat)).s))) rfl rfl rfl rfl rfl (fun hg58 => QV.qo (q_move (v := .int .i64 ((i3 : Nat) : Int)) rfl (by kernel_rfl))) ?_
        refine wh0 (c0 := (decide (0 < ((i3 : Nat) : Int)))) (g := (decide ((gt l i3).s < (gt l ((w64 (((i3 : Nat) : Int) - 1)).toNat)).s))) rfl rfl rfl rfl rfl (fun hg59 => QV.qo (q_sub rfl (gu hg59 rfl) rfl)) ?_
        refine wh0 (c0 := (decide (0 < ((i3 : Nat) : Int)))) (g := (decide ((gt l i3).s < (gt l ((w64 (((i3 : Nat) : Int) - 1)).toNat)).s))) rfl rfl rfl rfl rfl (fun hg60 => QV.qo (q_ix Tryz.underlying113 Tryz.sizeOf117 rfl (gu hg60 rfl) (gu hg60 rfl) (imp_of hk47 (and_l hg60)) (hl.some_ (inb_lt (imp_of hk47 (and_l hg60)))))) ?_
        refine wh0 (c0 := (decide (0 < ((i3 : Nat) : Int)))) (g := (decide ((gt l i3).s < (gt l ((w64 (((i3 : Nat) : Int) - 1)).toNat)).s))) rfl rfl rfl rfl rfl (fun hg61 => QV.qo (q_field_addr (((w64 (((i3 : Nat) : Int) - 1)).toNat) * 3) fld_117_0 rfl (gu hg61 rfl) (hl.some_ (inb_lt (imp_of hk47 (and_l hg61)))) rfl)) ?_
        refine wh0 (c0 := (decide (0 < ((i3 : Nat) : Int)))) (g := (decide ((gt l i3).s < (gt l ((w64 (((i3 : Nat) : Int) - 1)).toNat)).s))) rfl rfl rfl rfl rfl (fun hg62 => QV.qo (q_ld (c := 0) (v := .int .i64 (gt l ((w64 (((i3 : Nat) : Int) - 1)).toNat)).s) (hl.spanT_at (inb_lt (imp_of hk47 (and_l hg62)))).2 rfl Tryz.isAgg3 (gu hg62 rfl) rfl)) ?_
        refine wh0 (c0 := (decide (0 < ((i3 : Nat) : Int)))) (g := (decide ((gt l i3).s < (gt l ((w64 (((i3 : Nat) : Int) - 1)).toNat)).s))) rfl rfl rfl rfl rfl (fun hg63 => QV.qo (q_eql rfl (gu hg63 rfl) (gu hg63 rfl))) ?_
        refine wh0 (c0 := (decide (0 < ((i3 : Nat) : Int)))) (g := (decide ((gt l i3).s < (gt l ((w64 (((i3 : Nat) : Int) - 1)).toNat)).s))) rfl rfl rfl rfl rfl (fun hg64 => QV.qo (q_move (v := .bool ((gt l i3).s == (gt l ((w64 (((i3 : Nat) : Int) - 1)).toNat)).s)) rfl (gu hg64 rfl))) ?_
        refine wh1 (c0 := ((decide (0 < ((i3 : Nat) : Int))) && (!(decide ((gt l i3).s < (gt l ((w64 (((i3 : Nat) : Int) - 1)).toNat)).s))))) (g := ((gt l i3).s == (gt l ((w64 (((i3 : Nat) : Int) - 1)).toNat)).s)) rfl rfl rfl rfl rfl (fun hg65 => QV.qo (q_move (v := .slice Al l.length cl) rfl (by kernel_rfl))) ?_
        refine wh1 (c0 := ((decide (0 < ((i3 : Nat) : Int))) && (!(decide ((gt l i3).s < (gt l ((w64 (((i3 : Nat) : Int) - 1)).toNat)).s))))) (g := ((gt l i3).s == (gt l ((w64 (((i3 : Nat) : Int) - 1)).toNat)).s)) rfl rfl rfl rfl rfl (fun hg66 => QV.qo (q_move (v := .int .i64 ((i3 : Nat) : Int)) rfl (by kernel_rfl))) ?_
        refine wh1 (c0 := ((decide (0 < ((i3 : Nat) : Int))) && (!(decide ((gt l i3).s < (gt l ((w64 (((i3 : Nat) : Int) - 1)).toNat)).s))))) (g := ((gt l i3).s == (gt l ((w64 (((i3 : Nat) : Int) - 1)).toNat)).s)) rfl rfl rfl rfl rfl (fun hg67 => QV.qo (q_ixn (i := i3) Tryz.underlying113 Tryz.sizeOf117 rfl (gu hg67 rfl) (gu hg67 rfl) hl8 (hl.some_ hl8))) ?_
        refine wh1 (c0 := ((decide (0 < ((i3 : Nat) : Int))) && (!(decide ((gt l i3).s < (gt l ((w64 (((i3 : Nat) : Int) - 1)).toNat)).s))))) (g := ((gt l i3).s == (gt l ((w64 (((i3 : Nat) : Int) - 1)).toNat)).s)) rfl rfl rfl rfl rfl (fun hg68 => QV.qo (q_field_addr (i3 * 3 + 1) fld_117_1 rfl (gu hg68 rfl) (hl.some_ hl8) rfl)) ?_
        refine wh1 (c0 := ((decide (0 < ((i3 : Nat) : Int))) && (!(decide ((gt l i3).s < (gt l ((w64 (((i3 : Nat) : Int) - 1)).toNat)).s))))) (g := ((gt l i3).s == (gt l ((w64 (((i3 : Nat) : Int) - 1)).toNat)).s)) rfl rfl rfl rfl rfl (fun hg69 => QV.qo (q_ld (c := 1) (v := .int .i64 (gt l i3).f) (hl.spanT_at hl8).2 rfl Tryz.isAgg2 (gu hg69 rfl) rfl)) ?_
        refine wh1 (c0 := ((decide (0 < ((i3 : Nat) : Int))) && (!(decide ((gt l i3).s < (gt l ((w64 (((i3 : Nat) : Int) - 1)).toNat)).s))))) (g := ((gt l i3).s == (gt l ((w64 (((i3 : Nat) : Int) - 1)).toNat)).s)) rfl rfl rfl rfl rfl (fun hg70 => QV.qo (q_sub rfl (gu hg70 rfl) rfl)) ?_
        refine wh1 (c0 := ((decide (0 < ((i3 : Nat) : Int))) && (!(decide ((gt l i3).s < (gt l ((w64 (((i3 : Nat) : Int) - 1)).toNat)).s))))) (g := ((gt l i3).s == (gt l ((w64 (((i3 : Nat) : Int) - 1)).toNat)).s)) rfl rfl rfl rfl rfl (fun hg71 => QV.qo (q_move (v := .slice Al l.length cl) rfl (by kernel_rfl))) ?_
        refine wh1 (c0 := ((decide (0 < ((i3 : Nat) : Int))) && (!(decide ((gt l i3).s < (gt l ((w64 (((i3 : Nat) : Int) - 1)).toNat)).s))))) (g := ((gt l i3).s == (gt l ((w64 (((i3 : Nat) : Int) - 1)).toNat)).s)) rfl rfl rfl rfl rfl (fun hg72 => QV.qo (q_move (v := .int .i64 ((i3 : Nat) : Int)) rfl (by kernel_rfl))) ?_
        refine wh1 (c0 := ((decide (0 < ((i3 : Nat) : Int))) && (!(decide ((gt l i3).s < (gt l ((w64 (((i3 : Nat) : Int) - 1)).toNat)).s))))) (g := ((gt l i3).s == (gt l ((w64 (((i3 : Nat) : Int) - 1)).toNat)).s)) rfl rfl rfl rfl rfl (fun hg73 => QV.qo (q_sub rfl (gu hg73 rfl) rfl)) ?_
        refine wh1 (c0 := ((decide (0 < ((i3 : Nat) : Int))) && (!(decide ((gt l i3).s < (gt l ((w64 (((i3 : Nat) : Int) - 1)).toNat)).s))))) (g := ((gt l i3).s == (gt l ((w64 (((i3 : Nat) : Int) - 1)).toNat)).s)) rfl rfl rfl rfl rfl (fun hg74 => QV.qo (q_ix Tryz.underlying113 Tryz.sizeOf117 rfl (gu hg74 rfl) (gu hg74 rfl) (imp_of hk47 (and_l (and_l hg74))) (hl.some_ (inb_lt (imp_of hk47 (and_l (and_l hg74))))))) ?_
        refine wh1 (c0 := ((decide (0 < ((i3 : Nat) : Int))) && (!(decide ((gt l i3).s < (gt l ((w64 (((i3 : Nat) : Int) - 1)).toNat)).s))))) (g := ((gt l i3).s == (gt l ((w64 (((i3 : Nat) : Int) - 1)).toNat)).s)) rfl rfl rfl rfl rfl (fun hg75 => QV.qo (q_field_addr (((w64 (((i3 : Nat) : Int) - 1)).toNat) * 3 + 2) fld_117_2 rfl (gu hg75 rfl) (hl.some_ (inb_lt (imp_of hk47 (and_l (and_l hg75))))) rfl)) ?_
        refine wh1 (c0 := ((decide (0 < ((i3 : Nat) : Int))) && (!(decide ((gt l i3).s < (gt l ((w64 (((i3 : Nat) : Int) - 1)).toNat)).s))))) (g := ((gt l i3).s == (gt l ((w64 (((i3 : Nat) : Int) - 1)).toNat)).s)) rfl rfl rfl rfl rfl (fun hg76 => QV.qo (q_ld (c := 2) (v := .int .i64 (gt l ((w64 (((i3 : Nat) : Int) - 1)).toNat)).t) (hl.spanT_at (inb_lt (imp_of hk47 (and_l (and_l hg76))))).2 rfl Tryz.isAgg2 (gu hg76 rfl) rfl)) ?_
        refine wh1 (c0 := ((decide (0 < ((i3 : Nat) : Int))) && (!(decide ((gt l i3).s < (gt l ((w64 (((i3 : Nat) : Int) - 1)).toNat)).s))))) (g := ((gt l i3).s == (gt l ((w64 (((i3 : Nat) : Int) - 1)).toNat)).s)) rfl rfl rfl rfl rfl (fun hg77 => QV.qo (q_leq rfl (gu hg77 rfl) (gu hg77 rfl))) ?_
        refine wh0 (c0 := (decide (0 < ((i3 : Nat) : Int)))) (g := (decide ((gt l i3).s < (gt l ((w64 (((i3 : Nat) : Int) - 1)).toNat)).s))) rfl rfl rfl rfl rfl (fun hg78 => QV.qo (q_pick rfl (gu hg78 rfl) (pk_and (c := ((decide (0 < ((i3 : Nat) : Int))) && (!(decide ((gt l i3).s < (gt l ((w64 (((i3 : Nat) : Int) - 1)).toNat)).s))))) (g := ((gt l i3).s == (gt l ((w64 (((i3 : Nat) : Int) - 1)).toNat)).s)) (y := (decide ((w64 ((gt l i3).f - 1)) ≤ (gt l ((w64 (((i3 : Nat) : Int) - 1)).toNat)).t))) hg78))) ?_
        refine wg1 rfl rfl rfl rfl rfl (fun hg79 => QV.qo (q_pick rfl (gu hg79 rfl) (pk_or (c := (decide (0 < ((i3 : Nat) : Int)))) (g := (decide ((gt l i3).s < (gt l ((w64 (((i3 : Nat) : Int) - 1)).toNat)).s))) (y := (((gt l i3).s == (gt l ((w64 (((i3 : Nat) : Int) - 1)).toNat)).s) && (decide ((w64 ((gt l i3).f - 1)) ≤ (gt l ((w64 (((i3 : Nat) : Int) - 1)).toNat)).t)))) hg79))) ?_
        refine wa rfl rfl rfl (q_pick rfl rfl (pk_and' (g := (decide (0 < ((i3 : Nat) : Int)))) (y := ((decide ((gt l i3).s < (gt l ((w64 (((i3 : Nat) : Int) - 1)).toNat)).s)) || (((gt l i3).s == (gt l ((w64 (((i3 : Nat) : Int) - 1)).toNat)).s) && (decide ((w64 ((gt l i3).f - 1)) ≤ (gt l ((w64 (((i3 : Nat) : Int) - 1)).toNat)).t))))))) ?_
        refine WQ.nil ?_
        change WC _ _ _ _ _ _
        refine WC.cif h (by kernel_rfl) (fun hb80 h => ?_) (fun hb80 h => ?_)
        · skip
          refine WC.rs ?_
          refine va rfl rfl rfl (q_assign (v := .bool false) rfl (by kernel_rfl)) ?_
          refine WR.nil ?_
          change WC _ _ _ _ _ _
          refine WC.ret ?_
          intro w hw
          obtain rfl := Option.some.inj h
          subst hF
          exact ⟨by kernel_rfl, hw.fr⟩
        · skip
          refine WC.skip ?_
          change WC _ _ _ _ _ _
          refine WC.region ?_
          refine va rfl rfl rfl (q_move (v := .int .i64 ((i3 : Nat) : Int)) rfl (by kernel_rfl)) ?_
          refine va rfl rfl rfl (q_add_r (r := ((i3 + 1 : Nat) : Int)) rfl rfl rfl (ctr_len hl8 hl.le)) ?_
          refine va rfl rfl rfl (q_assign (v := .int .i64 ((i3 + 1 : Nat) : Int)) rfl (by kernel_rfl)) ?_
          refine WR.nil ?_
          intro w hw
          exact ⟨hl8, (), h, (sl_ (by kernel_rfl)), hw, trivial⟩
    · skip
      have h := hge6 (ige hb7)
      refine WC.exit ?_
      change WC _ _ _ _ _ _
      refine WC.rs ?_
      refine va rfl rfl rfl (q_assign (v := .bool true) rfl (by kernel_rfl)) ?_
      refine WR.nil ?_
      change WC _ _ _ _ _ _
      refine WC.ret ?_
      intro w hw
      obtain rfl := Option.some.inj h
      subst hF
      exact ⟨by kernel_rfl, hw.fr⟩
set_option maxRecDepth 100000 in
set_option maxHeartbeats 400000 in
theorem t_firthref03_Top {Γ : Gh} {w0 : World} {Al : Option Addr} {cl : Nat} {l : List Span} (hl : Sl spanT Γ Al l) (hlc : l.length ≤ cl) (s_ : Int) (hs_ : I64 s_) (hs : Sat Γ w0) {r : Int} (h : m_firthref03_Top l s_ = some r) : Calls Tryz.prog 118 #[.slice Al l.length cl, .int .i64 s_] w0 (fun e w' => e = .returned (.int .i64 r) ∧ Fr no w0 w') := by
  refine calls_of (N := 35) (rs := [4]) (args := [.slice Al l.length cl, .int .i64 s_]) Tryz.func118 rfl Tryz.ntmps118 Tryz.results118 rfl ?_
  obtain ⟨F, hF⟩ : ∃ F : Fm, F = ⟨no, w0, Γ⟩ := ⟨_, rfl⟩
  refine WC.here (C := CC F Γ []) ?_ (hF ▸ Cur.start0 hs)
  refine WC.rs ?_
  refine va rfl rfl rfl (q_assign (v := .int .i64 0) rfl (by kernel_rfl)) ?_
  refine WR.nil ?_
  change WC _ _ _ _ _ _
  refine WC.rs ?_
  refine va rfl rfl rfl (q_assign (v := .int .i64 0) rfl (by kernel_rfl)) ?_
  refine WR.nil ?_
  change WC _ _ _ _ _ _
  refine WC.seq ?_
  refine WC.rs ?_
  refine va rfl rfl rfl (q_assign (v := .int .i64 0) rfl (by kernel_rfl)) ?_
  refine WR.nil ?_
  change WC _ _ _ _ _ _
  refine WC.block ?_
  refine WC.forI h (fun (i4 : Nat) (n_1 : Int) σ w => slots σ [(0, .slice Al l.length cl), (1, .int .i64 s_), (5, .int .i64 n_1), (6, .int .i64 ((i4 : Nat) : Int))] ∧ CC F Γ [] w ∧ I64 n_1 ∧ True) ?_ ?_
  · skip
    intro w hw
    exact ⟨(sl_ (by kernel_rfl)), hw, (show I64 0 by decide), trivial⟩
  rintro f3 i4 n_1 σ w hi5 hlt6 hge7 ⟨hsl, hw, hr2, -⟩
  refine Wpt.slots hsl ?_
  refine WC.here (C := CC F Γ []) ?_ hw
  clear hw hsl
  refine WC.seq ?_
  refine WC.rs ?_
  refine va rfl rfl rfl (q_move (v := .int .i64 ((i4 : Nat) : Int)) rfl (by kernel_rfl)) ?_
  refine va rfl rfl rfl (q_move (v := .slice Al l.length cl) rfl (by kernel_rfl)) ?_
  refine va rfl rfl rfl (q_len_slice rfl Tryz.underlying113 rfl) ?_
  refine va rfl rfl rfl (q_lss rfl rfl rfl) ?_
  refine WR.nil ?_
  change WC _ _ _ _ _ _
  refine WC.cond (b := (decide (((i4 : Nat) : Int) < ((l.length : Nat) : Int)))) (by kernel_rfl) (fun hb8 => ?_) (fun hb8 => ?_)
  · skip
    have hl9 := ilt hb8
    have h := hlt6 hl9
    refine WC.skip ?_
    change WC _ _ _ _ _ _
    refine WC.cut (fun σ w => ∃ (n_10 : Int), m_firthref03_Top_j6 f3 n_10 = some r ∧ slots σ [(0, .slice Al l.length cl), (1, .int .i64 s_), (5, .int .i64 n_10), (6, .int .i64 ((i4 : Nat) : Int))] ∧ CC F Γ [] w ∧ I64 n_10 ∧ True) ?_ ?_
    · skip
      refine WC.block ?_
      refine WC.rs ?_
      refine va rfl rfl rfl (q_move (v := .slice Al l.length cl) rfl (by kernel_rfl)) ?_
      refine va rfl rfl rfl (q_move (v := .int .i64 ((i4 : Nat) : Int)) rfl (by kernel_rfl)) ?_
      refine va rfl rfl rfl (q_ixn (i := i4) Tryz.underlying113 Tryz.sizeOf117 rfl rfl rfl hl9 (hl.some_ hl9)) ?_
      refine va rfl rfl rfl (q_field_addr (i4 * 3) fld_117_0 rfl rfl (hl.some_ hl9) rfl) ?_
      refine va rfl rfl rfl (q_ld (c := 0) (v := .int .i64 (gt l i4).s) (hl.spanT_at hl9).2 rfl Tryz.isAgg3 rfl rfl) ?_
      refine va rfl rfl rfl (q_move (v := .int .i64 s_) rfl (by kernel_rfl)) ?_
      refine va rfl rfl rfl (q_eql rfl rfl rfl) ?_
      refine va rfl rfl rfl (q_move (v := .bool ((gt l i4).s == s_)) rfl (by kernel_rfl)) ?_
      refine vg1 rfl rfl rfl rfl rfl (fun hg12 => QV.qo (q_move (v := .slice Al l.length cl) rfl (by kernel_rfl))) ?_
      refine vg1 rfl rfl rfl rfl rfl (fun hg13 => QV.qo (q_move (v := .int .i64 ((i4 : Nat) : Int)) rfl (by kernel_rfl))) ?_
      refine vg1 rfl rfl rfl rfl rfl (fun hg14 => QV.qo (q_ixn (i := i4) Tryz.underlying113 Tryz.sizeOf117 rfl (gu hg14 rfl) (gu hg14 rfl) hl9 (hl.some_ hl9))) ?_
      refine vg1 rfl rfl rfl rfl rfl (fun hg15 => QV.qo (q_field_addr (i4 * 3 + 2) fld_117_2 rfl (gu hg15 rfl) (hl.some_ hl9) rfl)) ?_
      refine vg1 rfl rfl rfl rfl rfl (fun hg16 => QV.qo (q_ld (c := 2) (v := .int .i64 (gt l i4).t) (hl.spanT_at hl9).2 rfl Tryz.isAgg2 (gu hg16 rfl) rfl)) ?_
      refine vg1 rfl rfl rfl rfl rfl (fun hg17 => QV.qo (q_move (v := .int .i64 n_1) rfl (by kernel_rfl))) ?_
      refine vg1 rfl rfl rfl rfl rfl (fun hg18 => QV.qo (q_gtr rfl (gu hg18 rfl) (gu hg18 rfl))) ?_
      refine va rfl rfl rfl (q_pick rfl rfl (pk_and' (g := ((gt l i4).s == s_)) (y := (decide (n_1 < (gt l i4).t))))) ?_
      refine WR.nil ?_
      change WC _ _ _ _ _ _
      refine WC.cif h (by kernel_rfl) (fun hb19 h => ?_) (fun hb19 h => ?_)
      · skip
        refine WC.region ?_
        refine va rfl rfl rfl (q_move (v := .slice Al l.length cl) rfl (by kernel_rfl)) ?_
        refine va rfl rfl rfl (q_move (v := .int .i64 ((i4 : Nat) : Int)) rfl (by kernel_rfl)) ?_
        refine va rfl rfl rfl (q_ixn (i := i4) Tryz.underlying113 Tryz.sizeOf117 rfl rfl rfl hl9 (hl.some_ hl9)) ?_
        refine va rfl rfl rfl (q_field_addr (i4 * 3 + 2) fld_117_2 rfl rfl (hl.some_ hl9) rfl) ?_
        refine va rfl rfl rfl (q_ld (c := 2) (v := .int .i64 (gt l i4).t) (hl.spanT_at hl9).2 rfl Tryz.isAgg2 rfl rfl) ?_
        refine va rfl rfl rfl (q_assign (v := .int .i64 (gt l i4).t) rfl (by kernel_rfl)) ?_
        refine WR.nil ?_
        intro w hw
        exact ⟨(gt l i4).t, h, (sl_ (by kernel_rfl)), hw, (hl.spanT_at hl9).1.2.2, trivial⟩
      · skip
        refine WC.skip ?_
        intro w hw
        exact ⟨n_1, h, (sl_ (by kernel_rfl)), hw, hr2, trivial⟩
    · skip
      rintro σ w ⟨n_10, h, hsl, hw, hr11, -⟩
      refine Wpt.slots hsl ?_
      refine WC.here (C := CC F Γ []) ?_ hw
      clear hw hsl
      refine WC.region ?_
      refine va rfl rfl rfl (q_move (v := .int .i64 ((i4 : Nat) : Int)) rfl (by kernel_rfl)) ?_
      refine va rfl rfl rfl (q_add_r (r := ((i4 + 1 : Nat) : Int)) rfl rfl rfl (ctr_len hl9 hl.le)) ?_
      refine va rfl rfl rfl (q_assign (v := .int .i64 ((i4 + 1 : Nat) : Int)) rfl (by kernel_rfl)) ?_
      refine WR.nil ?_
      intro w hw
      exact ⟨hl9, n_10, h, (sl_ (by kernel_rfl)), hw, hr11, trivial⟩
  · skip
    have h := hge7 (ige hb8)
    refine WC.exit ?_
    change WC _ _ _ _ _ _
    refine WC.rs ?_
    refine va rfl rfl rfl (q_move (v := .int .i64 n_1) rfl (by kernel_rfl)) ?_
    refine va rfl rfl rfl (q_assign (v := .int .i64 n_1) rfl (by kernel_rfl)) ?_
    refine WR.nil ?_
    change WC _ _ _ _ _ _
    refine WC.ret ?_
    intro w hw
    obtain rfl := Option.some.inj h
    subst hF
    exact ⟨by kernel_rfl, hw.fr⟩
set_option maxRecDepth 100000 in
set_option maxHeartbeats 400000 in
theorem t_firthref05_RightOne {Γ : Gh} {w0 : World} {Av_2 : Option Addr} {cv_2 : Nat} (v_ : Ver) (hv_ : Ver.fits Γ Av_2 cv_2 v_) (hs : Sat Γ w0) {r : Bool} (h : m_firthref05_RightOne v_ = some r) : Calls Tryz.prog 101 #[.agg #[.int .i64 v_.dot.s, .int .i64 v_.dot.n, .slice Av_2 v_.past.length cv_2, .bool v_.gone, .string v_.val]] w0 (fun e w' => e = .returned (.bool r) ∧ Fr no w0 w') := by
  refine calls_of (N := 34) (rs := [2]) (args := [.agg #[.int .i64 v_.dot.s, .int .i64 v_.dot.n, .slice Av_2 v_.past.length cv_2, .bool v_.gone, .string v_.val]]) Tryz.func101 rfl Tryz.ntmps101 Tryz.results101 rfl ?_
  obtain ⟨F, hF⟩ : ∃ F : Fm, F = ⟨no, w0, Γ⟩ := ⟨_, rfl⟩
  refine WC.here (C := CC F Γ []) ?_ (hF ▸ Cur.start0 hs)
  refine WC.rs ?_
  refine e_box (v := .agg #[.int .i64 v_.dot.s, .int .i64 v_.dot.n, .slice Av_2 v_.past.length cv_2, .bool v_.gone, .string v_.val]) rfl rfl rfl rfl (by kernel_rfl) ?_
  intro g1
  refine va rfl rfl rfl (q_assign (v := .bool false) rfl (by kernel_rfl)) ?_
  refine WR.nil ?_
  change WC _ _ _ _ _ _
  refine WC.seq ?_
  refine WC.seq ?_
  refine WC.dr (by kernel_rfl) (by kernel_rfl) (fun w hw => hw.drawn _) ?_
  refine wa rfl rfl rfl (q_fl 0 fld_115_0 rfl rfl rfl) ?_
  refine wa rfl rfl rfl (q_ldla (i := 0) (vs := [.int .i64 v_.dot.s, .int .i64 v_.dot.n]) rfl rfl Tryz.isAgg112 Tryz.sizeOf112 rfl rfl) ?_
  obtain ⟨z2, hz3, h⟩ := bnd h
  refine wc rfl rfl rfl (q_call (call_run Tryz.call116 rfl rfl (by kernel_rfl)) (fun w hw => t_firthref03_Dot (Γ := Gh.all w) v_.dot ⟨hv_.1, hv_.2.1⟩ (Sat.all w) hz3)) ?_
  refine wa rfl rfl rfl (q_not rfl rfl) ?_
  refine wa rfl rfl rfl (q_move (v := .bool (!z2)) rfl (by kernel_rfl)) ?_
  refine wg0 rfl rfl rfl rfl rfl (fun hg4 => QV.qo (q_fl 2 fld_115_1 rfl rfl rfl)) ?_
  refine wg0 rfl rfl rfl rfl rfl (fun hg5 => QV.qo (q_ldl (i := 0) (v := .slice Av_2 v_.past.length cv_2) rfl rfl Tryz.isAgg113 (gu hg5 rfl) rfl)) ?_
  obtain ⟨z7, hz8, h⟩ := bnd h
  refine wg0 rfl rfl rfl rfl rfl (fun hg6 => (q_call (call_run Tryz.call117 rfl rfl (args1 (gu hg6 rfl))) (fun w hw => t_firthref03_Right (Γ := Gh.all w) (hv_.2.2.1.2.mono hw.sat.le_all) hv_.2.2.1.1 (Sat.all w) (gc_of hz8 hg6)))) ?_
  refine wg0 rfl rfl rfl rfl rfl (fun hg9 => QV.qo (q_not rfl (gu hg9 rfl))) ?_
  refine wa rfl rfl rfl (q_pick rfl rfl (pk_or' (g := (!z2)) (y := (!z7)))) ?_
  refine wa rfl rfl rfl (q_move (v := .bool ((!z2) || (!z7))) rfl (by kernel_rfl)) ?_
  refine wg0 rfl rfl rfl rfl rfl (fun hg10 => QV.qo (q_fl 2 fld_115_1 rfl rfl rfl)) ?_
  refine wg0 rfl rfl rfl rfl rfl (fun hg11 => QV.qo (q_ldl (i := 0) (v := .slice Av_2 v_.past.length cv_2) rfl rfl Tryz.isAgg113 (gu hg11 rfl) rfl)) ?_
  refine wg0 rfl rfl rfl rfl rfl (fun hg12 => QV.qo (q_fl 0 fld_115_0 rfl rfl rfl)) ?_
  refine wg0 rfl rfl rfl rfl rfl (fun hg13 => QV.qo (q_fl 0 fld_112_0 rfl (gu hg13 rfl) rfl)) ?_
  refine wg0 rfl rfl rfl rfl rfl (fun hg14 => QV.qo (q_ldl (i := 0) (v := .int .i64 v_.dot.s) rfl rfl Tryz.isAgg3 (gu hg14 rfl) rfl)) ?_
  obtain ⟨z16, hz17, h⟩ := bnd h
  refine wg0 rfl rfl rfl rfl rfl (fun hg15 => (q_call (call_run Tryz.call118 rfl rfl (args2 (gu hg15 rfl) (gu hg15 rfl))) (fun w hw => t_firthref03_Top (Γ := Gh.all w) (hv_.2.2.1.2.mono hw.sat.le_all) hv_.2.2.1.1 v_.dot.s hv_.1 (Sat.all w) (gc_of hz17 hg15)))) ?_
  refine wg0 rfl rfl rfl rfl rfl (fun hg18 => QV.qo (q_fl 0 fld_115_0 rfl rfl rfl)) ?_
  refine wg0 rfl rfl rfl rfl rfl (fun hg19 => QV.qo (q_fl 1 fld_112_1 rfl (gu hg19 rfl) rfl)) ?_
  refine wg0 rfl rfl rfl rfl rfl (fun hg20 => QV.qo (q_ldl (i := 0) (v := .int .i64 v_.dot.n) rfl rfl Tryz.isAgg2 (gu hg20 rfl) rfl)) ?_
  refine wg0 rfl rfl rfl rfl rfl (fun hg21 => QV.qo (q_geq rfl (gu hg21 rfl) (gu hg21 rfl))) ?_
  refine wa rfl rfl rfl (q_pick rfl rfl (pk_or' (g := ((!z2) || (!z7))) (y := (decide (v_.dot.n ≤ z16))))) ?_
  refine WQ.nil ?_
  change WC _ _ _ _ _ _
  refine WC.cif h (by kernel_rfl) (fun hb22 h => ?_) (fun hb22 h => ?_)
  · skip
    refine WC.rs ?_
    refine va rfl rfl rfl (q_assign (v := .bool false) rfl (by kernel_rfl)) ?_
    refine WR.nil ?_
    change WC _ _ _ _ _ _
    refine WC.ret ?_
    intro w hw
    obtain rfl := Option.some.inj h
    subst hF
    exact ⟨by kernel_rfl, hw.fr⟩
  · skip
    refine WC.skip ?_
    change WC _ _ _ _ _ _
    refine WC.seq ?_
    refine WC.rs ?_
    refine va rfl rfl rfl (q_fl 3 fld_115_2 rfl rfl rfl) ?_
    refine va rfl rfl rfl (q_ldl (i := 0) (v := .bool v_.gone) rfl rfl Tryz.isAgg4 rfl rfl) ?_
    refine WR.nil ?_
    change WC _ _ _ _ _ _
    refine WC.cif h (by kernel_rfl) (fun hb23 h => ?_) (fun hb23 h => ?_)
    · skip
      refine WC.rs ?_
      refine va rfl rfl rfl (q_fl 4 fld_115_3 rfl rfl rfl) ?_
      refine va rfl rfl rfl (q_ldl (i := 0) (v := .string v_.val) rfl rfl Tryz.isAgg9 rfl rfl) ?_
      refine va rfl rfl rfl (q_seql rfl rfl rfl) ?_
      refine va rfl rfl rfl (q_assign (v := .bool (v_.val == ByteArray.empty)) rfl (by kernel_rfl)) ?_
      refine WR.nil ?_
      change WC _ _ _ _ _ _
      refine WC.ret ?_
      intro w hw
      obtain rfl := Option.some.inj h
      subst hF
      exact ⟨by kernel_rfl, hw.fr⟩
    · skip
      refine WC.skip ?_
      change WC _ _ _ _ _ _
      refine WC.rs ?_
      refine va rfl rfl rfl (q_fl 4 fld_115_3 rfl rfl rfl) ?_
      refine va rfl rfl rfl (q_ldl (i := 0) (v := .string v_.val) rfl rfl Tryz.isAgg9 rfl rfl) ?_
      refine va rfl rfl rfl (q_len_str rfl Tryz.underlying9 rfl) ?_
      refine va rfl rfl rfl (q_leq rfl rfl rfl) ?_
      refine va rfl rfl rfl (q_assign (v := .bool (decide (((v_.val.size : Nat) : Int) ≤ 256))) rfl (by kernel_rfl)) ?_
      refine WR.nil ?_
      change WC _ _ _ _ _ _
      refine WC.ret ?_
      intro w hw
      obtain rfl := Option.some.inj h
      subst hF
      exact ⟨by kernel_rfl, hw.fr⟩
end Fw
end Go.Proofs.YtiakfgdgafljnaaGreat
