/- Walks through the functions that the law reaches (printed by a program). No condition. -/
import Derived.Test.YtlbdlkgboliikaaW1
namespace Go.Proofs.Ytlbdlkgboliikaa
namespace Fw
set_option linter.unusedVariables false
set_option linter.unusedSimpArgs false
set_option linter.unusedSectionVars false
open Go.RowKit
set_option maxRecDepth 100000 in
set_option maxHeartbeats 400000 in
theorem t_firthref05_SameOne {Γ : Gh} {w0 : World} {Aa2 : Option Addr} {ca2 : Nat} (a : Ver) (ha : Ver.fits Γ Aa2 ca2 a) {Ab2 : Option Addr} {cb2 : Nat} (b : Ver) (hb : Ver.fits Γ Ab2 cb2 b) (hs : Sat Γ w0) {r : Bool} (h : m_firthref05_SameOne a b = some r) : Calls Try.prog 46 #[.agg #[.int .i64 a.dot.s, .int .i64 a.dot.n, .slice Aa2 a.past.length ca2, .bool a.gone, .string a.val], .agg #[.int .i64 b.dot.s, .int .i64 b.dot.n, .slice Ab2 b.past.length cb2, .bool b.gone, .string b.val]] w0 (fun e w' => e = .returned (.bool r) ∧ Fr no w0 w') := by
  refine calls_of (N := 31) (rs := [4]) (args := [.agg #[.int .i64 a.dot.s, .int .i64 a.dot.n, .slice Aa2 a.past.length ca2, .bool a.gone, .string a.val], .agg #[.int .i64 b.dot.s, .int .i64 b.dot.n, .slice Ab2 b.past.length cb2, .bool b.gone, .string b.val]]) Try.func46 rfl Try.ntmps46 Try.results46 rfl ?_
  obtain ⟨F, hF⟩ : ∃ F : Fm, F = ⟨no, w0, Γ⟩ := ⟨_, rfl⟩
  refine WC.here (C := CC F Γ []) ?_ (hF ▸ Cur.start0 hs)
  refine WC.rs ?_
  refine e_box (v := .agg #[.int .i64 a.dot.s, .int .i64 a.dot.n, .slice Aa2 a.past.length ca2, .bool a.gone, .string a.val]) rfl rfl rfl rfl (by kernel_rfl) ?_
  intro g1
  refine e_box (v := .agg #[.int .i64 b.dot.s, .int .i64 b.dot.n, .slice Ab2 b.past.length cb2, .bool b.gone, .string b.val]) rfl rfl rfl rfl (by kernel_rfl) ?_
  intro g2
  refine va rfl rfl rfl (q_assign (v := .bool false) rfl (by kernel_rfl)) ?_
  refine WR.nil ?_
  change WC _ _ _ _ _ _
  refine WC.rs ?_
  refine va rfl rfl rfl (q_fl 0 fld_58_0 rfl rfl rfl) ?_
  refine va rfl rfl rfl (q_ldla (i := 1) (vs := [.int .i64 a.dot.s, .int .i64 a.dot.n]) rfl rfl Try.isAgg55 Try.sizeOf55 rfl rfl) ?_
  refine va rfl rfl rfl (q_fl 0 fld_58_0 rfl rfl rfl) ?_
  refine va rfl rfl rfl (q_ldla (i := 0) (vs := [.int .i64 b.dot.s, .int .i64 b.dot.n]) rfl rfl Try.isAgg55 Try.sizeOf55 rfl rfl) ?_
  refine va rfl rfl rfl (q_eql_Dot (a := a.dot) (b := b.dot) rfl rfl rfl) ?_
  refine va rfl rfl rfl (q_move (v := .bool (a.dot == b.dot)) rfl (by kernel_rfl)) ?_
  refine vg1 rfl rfl rfl rfl rfl (fun hg3 => QV.qo (q_fl 3 fld_58_2 rfl rfl rfl)) ?_
  refine vg1 rfl rfl rfl rfl rfl (fun hg4 => QV.qo (q_ldl (i := 1) (v := .bool a.gone) rfl rfl Try.isAgg4 (gu hg4 rfl) rfl)) ?_
  refine vg1 rfl rfl rfl rfl rfl (fun hg5 => QV.qo (q_fl 3 fld_58_2 rfl rfl rfl)) ?_
  refine vg1 rfl rfl rfl rfl rfl (fun hg6 => QV.qo (q_ldl (i := 0) (v := .bool b.gone) rfl rfl Try.isAgg4 (gu hg6 rfl) rfl)) ?_
  refine vg1 rfl rfl rfl rfl rfl (fun hg7 => QV.qo (q_beql Try.underlying4 rfl (gu hg7 rfl) (gu hg7 rfl))) ?_
  refine va rfl rfl rfl (q_pick rfl rfl (pk_and' (g := (a.dot == b.dot)) (y := (a.gone == b.gone)))) ?_
  refine va rfl rfl rfl (q_move (v := .bool ((a.dot == b.dot) && (a.gone == b.gone))) rfl (by kernel_rfl)) ?_
  refine vg1 rfl rfl rfl rfl rfl (fun hg8 => QV.qo (q_fl 4 fld_58_3 rfl rfl rfl)) ?_
  refine vg1 rfl rfl rfl rfl rfl (fun hg9 => QV.qo (q_ldl (i := 1) (v := .string a.val) rfl rfl Try.isAgg9 (gu hg9 rfl) rfl)) ?_
  refine vg1 rfl rfl rfl rfl rfl (fun hg10 => QV.qo (q_fl 4 fld_58_3 rfl rfl rfl)) ?_
  refine vg1 rfl rfl rfl rfl rfl (fun hg11 => QV.qo (q_ldl (i := 0) (v := .string b.val) rfl rfl Try.isAgg9 (gu hg11 rfl) rfl)) ?_
  refine vg1 rfl rfl rfl rfl rfl (fun hg12 => QV.qo (q_seql rfl (gu hg12 rfl) (gu hg12 rfl))) ?_
  refine va rfl rfl rfl (q_pick rfl rfl (pk_and' (g := ((a.dot == b.dot) && (a.gone == b.gone))) (y := (a.val == b.val)))) ?_
  refine va rfl rfl rfl (q_move (v := .bool (((a.dot == b.dot) && (a.gone == b.gone)) && (a.val == b.val))) rfl (by kernel_rfl)) ?_
  refine vg1 rfl rfl rfl rfl rfl (fun hg13 => QV.qo (q_fl 2 fld_58_1 rfl rfl rfl)) ?_
  refine vg1 rfl rfl rfl rfl rfl (fun hg14 => QV.qo (q_ldl (i := 1) (v := .slice Aa2 a.past.length ca2) rfl rfl Try.isAgg56 (gu hg14 rfl) rfl)) ?_
  refine vg1 rfl rfl rfl rfl rfl (fun hg15 => QV.qo (q_fl 2 fld_58_1 rfl rfl rfl)) ?_
  refine vg1 rfl rfl rfl rfl rfl (fun hg16 => QV.qo (q_ldl (i := 0) (v := .slice Ab2 b.past.length cb2) rfl rfl Try.isAgg56 (gu hg16 rfl) rfl)) ?_
  obtain ⟨z18, hz19, h⟩ := bnd h
  refine vg1 rfl rfl rfl rfl rfl (fun hg17 => (q_call (call_run Try.call64 rfl rfl (args2 (gu hg17 rfl) (gu hg17 rfl))) (fun w hw => t_firthref03_Same (ha.2.2.1.2.mono hw.sat.le_all) ha.2.2.1.1 (hb.2.2.1.2.mono hw.sat.le_all) hb.2.2.1.1 (Sat.all w) (gc_of hz19 hg17)))) ?_
  refine va rfl rfl rfl (q_pick rfl rfl (pk_and' (g := (((a.dot == b.dot) && (a.gone == b.gone)) && (a.val == b.val))) (y := z18))) ?_
  refine va rfl rfl rfl (q_assign (v := .bool ((((a.dot == b.dot) && (a.gone == b.gone)) && (a.val == b.val)) && z18)) rfl (by kernel_rfl)) ?_
  refine WR.nil ?_
  change WC _ _ _ _ _ _
  refine WC.ret ?_
  intro w hw
  obtain rfl := Option.some.inj h
  subst hF
  exact ⟨by kernel_rfl, hw.fr⟩
set_option maxRecDepth 100000 in
set_option maxHeartbeats 400000 in
theorem t_firthref05_Same {Γ : Gh} {w0 : World} {Aa : Option Addr} {ca : Nat} {a : List Ver} (ha : Sl verT Γ Aa a) (hac : a.length ≤ ca) {Ab : Option Addr} {cb : Nat} {b : List Ver} (hb : Sl verT Γ Ab b) (hbc : b.length ≤ cb) (hs : Sat Γ w0) {r : Bool} (h : m_firthref05_Same a b = some r) : Calls Try.prog 23 #[.slice Aa a.length ca, .slice Ab b.length cb] w0 (fun e w' => e = .returned (.bool r) ∧ Fr no w0 w') := by
  refine calls_of (N := 27) (rs := [4]) (args := [.slice Aa a.length ca, .slice Ab b.length cb]) Try.func23 rfl Try.ntmps23 Try.results23 rfl ?_
  obtain ⟨F, hF⟩ : ∃ F : Fm, F = ⟨no, w0, Γ⟩ := ⟨_, rfl⟩
  refine WC.here (C := CC F Γ []) ?_ (hF ▸ Cur.start0 hs)
  refine WC.rs ?_
  refine va rfl rfl rfl (q_assign (v := .bool false) rfl (by kernel_rfl)) ?_
  refine WR.nil ?_
  change WC _ _ _ _ _ _
  refine WC.seq ?_
  refine WC.rs ?_
  refine va rfl rfl rfl (q_move (v := .slice Aa a.length ca) rfl (by kernel_rfl)) ?_
  refine va rfl rfl rfl (q_len_slice rfl Try.underlying40 rfl) ?_
  refine va rfl rfl rfl (q_move (v := .slice Ab b.length cb) rfl (by kernel_rfl)) ?_
  refine va rfl rfl rfl (q_len_slice rfl Try.underlying40 rfl) ?_
  refine va rfl rfl rfl (q_neq rfl rfl rfl) ?_
  refine WR.nil ?_
  change WC _ _ _ _ _ _
  refine WC.cif h (by kernel_rfl) (fun hb1 h => ?_) (fun hb1 h => ?_)
  · skip
    refine WC.rs ?_
    refine va rfl rfl rfl (q_assign (v := .bool false) rfl (by kernel_rfl)) ?_
    refine WR.nil ?_
    change WC _ _ _ _ _ _
    refine WC.ret ?_
    intro w hw
    obtain rfl := Option.some.inj h
    subst hF
    exact ⟨by kernel_rfl, hw.fr⟩
  · skip
    refine WC.skip ?_
    change WC _ _ _ _ _ _
    refine WC.seq ?_
    refine WC.rs ?_
    refine va rfl rfl rfl (q_assign (v := .int .i64 0) rfl (by kernel_rfl)) ?_
    refine WR.nil ?_
    change WC _ _ _ _ _ _
    refine WC.block ?_
    refine WC.forI h (fun (i3 : Nat) (s : Unit) σ w => match s with | () => slots σ [(0, .slice Aa a.length ca), (1, .slice Ab b.length cb), (5, .int .i64 ((i3 : Nat) : Int))] ∧ CC F Γ [] w ∧ True) ?_ ?_
    · skip
      intro w hw
      exact ⟨(sl_ (by kernel_rfl)), hw, trivial⟩
    rintro f2 i3 ⟨⟩ σ w hi4 hlt5 hge6 ⟨hsl, hw, -⟩
    refine Wpt.slots hsl ?_
    refine WC.here (C := CC F Γ []) ?_ hw
    clear hw hsl
    refine WC.seq ?_
    refine WC.rs ?_
    refine va rfl rfl rfl (q_move (v := .int .i64 ((i3 : Nat) : Int)) rfl (by kernel_rfl)) ?_
    refine va rfl rfl rfl (q_move (v := .slice Aa a.length ca) rfl (by kernel_rfl)) ?_
    refine va rfl rfl rfl (q_len_slice rfl Try.underlying40 rfl) ?_
    refine va rfl rfl rfl (q_lss rfl rfl rfl) ?_
    refine WR.nil ?_
    change WC _ _ _ _ _ _
    refine WC.cond (b := (decide (((i3 : Nat) : Int) < ((a.length : Nat) : Int)))) (by kernel_rfl) (fun hb7 => ?_) (fun hb7 => ?_)
    · skip
      have hl8 := ilt hb7
      have h := hlt5 hl8
      refine WC.skip ?_
      change WC _ _ _ _ _ _
      refine WC.seq ?_
      refine WC.block ?_
      refine WC.seq ?_
      refine WC.dr (by kernel_rfl) (by kernel_rfl) (fun w hw => hw.drawn _) ?_
      refine wa rfl rfl rfl (q_move (v := .slice Aa a.length ca) rfl (by kernel_rfl)) ?_
      refine wa rfl rfl rfl (q_move (v := .int .i64 ((i3 : Nat) : Int)) rfl (by kernel_rfl)) ?_
      refine wa rfl rfl rfl (q_ixn (i := i3) Try.underlying40 Try.sizeOf58 rfl rfl rfl hl8 (ha.some_ hl8)) ?_
      obtain ⟨A9, c10, hx11⟩ := ha.verT_at i3
      refine wa rfl rfl rfl (q_lda (c := 0) (vs := [.int .i64 (gt a i3).dot.s, .int .i64 (gt a i3).dot.n, .slice A9 ((gt a i3).past).length c10, .bool (gt a i3).gone, .string (gt a i3).val]) (hx11 hl8).2 rfl Try.isAgg58 Try.sizeOf58 rfl rfl rfl) ?_
      refine wa rfl rfl rfl (q_move (v := .slice Ab b.length cb) rfl (by kernel_rfl)) ?_
      refine wa rfl rfl rfl (q_move (v := .int .i64 ((i3 : Nat) : Int)) rfl (by kernel_rfl)) ?_
      obtain ⟨hk12, h⟩ := chk_some h
      refine wa rfl rfl rfl (q_ixn (i := i3) Try.underlying40 Try.sizeOf58 rfl rfl rfl (of_decide_eq_true hk12) (hb.some_ (of_decide_eq_true hk12))) ?_
      obtain ⟨A13, c14, hx15⟩ := hb.verT_at i3
      refine wa rfl rfl rfl (q_lda (c := 0) (vs := [.int .i64 (gt b i3).dot.s, .int .i64 (gt b i3).dot.n, .slice A13 ((gt b i3).past).length c14, .bool (gt b i3).gone, .string (gt b i3).val]) (hx15 (of_decide_eq_true hk12)).2 rfl Try.isAgg58 Try.sizeOf58 rfl rfl rfl) ?_
      obtain ⟨z16, hz17, h⟩ := bnd h
      refine wc rfl rfl rfl (q_call (call_run Try.call46 rfl rfl (by kernel_rfl)) (fun w hw => t_firthref05_SameOne (gt a i3) (Ver.fits_mono (hx11 hl8).1 hw.sat.le_all) (gt b i3) (Ver.fits_mono (hx15 (of_decide_eq_true hk12)).1 hw.sat.le_all) (Sat.all w) hz17)) ?_
      refine wa rfl rfl rfl (q_not rfl rfl) ?_
      refine WQ.nil ?_
      change WC _ _ _ _ _ _
      refine WC.cif h (by kernel_rfl) (fun hb18 h => ?_) (fun hb18 h => ?_)
      · skip
        refine WC.rs ?_
        refine va rfl rfl rfl (q_assign (v := .bool false) rfl (by kernel_rfl)) ?_
        refine WR.nil ?_
        change WC _ _ _ _ _ _
        refine WC.ret ?_
        intro w hw
        obtain rfl := Option.some.inj h
        subst hF
        exact ⟨by kernel_rfl, hw.fr⟩
      · skip
        refine WC.skip ?_
        change WC _ _ _ _ _ _
        refine WC.region ?_
        refine va rfl rfl rfl (q_move (v := .int .i64 ((i3 : Nat) : Int)) rfl (by kernel_rfl)) ?_
        refine va rfl rfl rfl (q_add_r (r := ((i3 + 1 : Nat) : Int)) rfl rfl rfl (ctr_len hl8 ha.le)) ?_
        refine va rfl rfl rfl (q_assign (v := .int .i64 ((i3 + 1 : Nat) : Int)) rfl (by kernel_rfl)) ?_
        refine WR.nil ?_
        intro w hw
        exact ⟨hl8, (), h, (sl_ (by kernel_rfl)), hw, trivial⟩
    · skip
      have h := hge6 (ige hb7)
      refine WC.exit ?_
      change WC _ _ _ _ _ _
      refine WC.rs ?_
      refine va rfl rfl rfl (q_assign (v := .bool true) rfl (by kernel_rfl)) ?_
      refine WR.nil ?_
      change WC _ _ _ _ _ _
      refine WC.ret ?_
      intro w hw
      obtain rfl := Option.some.inj h
      subst hF
      exact ⟨by kernel_rfl, hw.fr⟩
set_option maxRecDepth 100000 in
set_option maxHeartbeats 400000 in
theorem t_firthlaw16_awake {Γ : Gh} {w0 : World}  (hs : Sat Γ w0) {r : Bool} (h : m_firthlaw16_awake = some r) : Calls Try.prog 8 #[] w0 (fun e w' => e = .returned (.bool r) ∧ Fr no w0 w') := by
  refine calls_of (N := 98) (rs := [0]) (args := []) Try.func8 rfl Try.ntmps8 Try.results8 rfl ?_
  obtain ⟨F, hF⟩ : ∃ F : Fm, F = ⟨no, w0, Γ⟩ := ⟨_, rfl⟩
  refine WC.here (C := CC F Γ []) ?_ (hF ▸ Cur.start0 hs)
  refine WC.rs ?_
  refine va rfl rfl rfl (q_assign (v := .bool false) rfl (by kernel_rfl)) ?_
  refine WR.nil ?_
  change WC _ _ _ _ _ _
  refine WC.rs ?_
  refine e_buildSlice (cs := #[.int .i64 3, .int .i64 1, .int .i64 2]) (e := 3) rfl rfl rfl rfl (fun w => by kernel_rfl) ?_
  intro g1
  have ho2 : Own intT Γ 3 [(g1, .cells #[.int .i64 3, .int .i64 1, .int .i64 2] 3 (0, 0))] (some ⟨g1, 0, none⟩) 3 [3, 1, 2] := Own.of_block (T := intT) (ys := [3, 1, 2]) [[.int .i64 3], [.int .i64 1], [.int .i64 2]] rfl rfl (show 3 ≤ lim by decide) (fun i h => match i, h with | 0, _ => (show Ty.rd intT Γ [.int .i64 3] 3 from ⟨rfl, (show I64 3 by decide)⟩) | 1, _ => (show Ty.rd intT Γ [.int .i64 1] 1 from ⟨rfl, (show I64 1 by decide)⟩) | 2, _ => (show Ty.rd intT Γ [.int .i64 2] 2 from ⟨rfl, (show I64 2 by decide)⟩))
  have hc7 := ho2.capz
  intro w hw; obtain ⟨Γ3, hw, hl4, hr5⟩ := hw.seal (i := 0) rfl; have hs6 := ho2.sl hl4 hr5
  refine WR.here (C := CC F Γ3 [[]]) ?_ hw
  clear hw
  obtain ⟨z8, hz9, h⟩ := bnd h
  refine e_call (is := []) rfl rfl (call_run Try.call7 rfl rfl (by kernel_rfl)) rfl (fun w hp => t_quorum_NewWrite hs6 hc7 2 (show I64 2 by decide) hp hz9) ?_
  rintro Γ10 U12 v13 hl11 ⟨g14, row15, rfl, rfl, hr16, hr17, _⟩
  change WR _ _ _ (CC F Γ10 [row15, []]) _ _ (upd _ 10 (.tuple #[optp z8.1 g14, .int .i64 z8.2]))
  refine va rfl rfl rfl (q_move (v := .tuple #[optp z8.1 g14, .int .i64 z8.2]) rfl (by kernel_rfl)) ?_
  refine va rfl rfl rfl (q_extract (v := optp z8.1 g14) rfl rfl rfl) ?_
  refine va rfl rfl rfl (q_extract (v := .int .i64 z8.2) rfl rfl rfl) ?_
  refine va rfl rfl rfl (q_assign (v := optp z8.1 g14) rfl (by kernel_rfl)) ?_
  refine va rfl rfl rfl (q_assign (v := .int .i64 z8.2) rfl (by kernel_rfl)) ?_
  refine WR.nil ?_
  change WC _ _ _ _ _ _
  refine WC.seq ?_
  refine WC.rs ?_
  refine va rfl rfl rfl (q_move (v := optp z8.1 g14) rfl (by kernel_rfl)) ?_
  refine va rfl rfl rfl (q_opt_eql Try.underlying23 rfl rfl rfl) ?_
  refine va rfl rfl rfl (q_move (v := .bool (Option.isNone z8.1)) rfl (by kernel_rfl)) ?_
  refine vg0 rfl rfl rfl rfl rfl (fun hg18 => QV.qo (q_move (v := .int .i64 z8.2) rfl (by kernel_rfl))) ?_
  refine vg0 rfl rfl rfl rfl rfl (fun hg19 => QV.qo (q_neq rfl (gu hg19 rfl) rfl)) ?_
  refine va rfl rfl rfl (q_pick rfl rfl (pk_or' (g := (Option.isNone z8.1)) (y := (z8.2 != 0)))) ?_
  refine va rfl rfl rfl (q_move (v := .bool ((Option.isNone z8.1) || (z8.2 != 0))) rfl (by kernel_rfl)) ?_
  refine vg0 rfl rfl rfl rfl rfl (fun hg20 => QV.qo (q_move (v := optp z8.1 g14) rfl (by kernel_rfl))) ?_
  refine (Bool.eq_false_or_eq_true (!((Option.isNone z8.1) || (z8.2 != 0)))).elim (fun hb21 => ?_) (fun hb21 => ?_)
  · skip
    have h := bt hb21 h
    refine WR.sat (c0 := true) (g := ((Option.isNone z8.1) || (z8.2 != 0))) rfl rfl rfl hb21 ?_
    obtain ⟨z22, hz23, h⟩ := bnd h
    have ho24 := optob_some hr16 hz23
    obtain ⟨z25, hz26, h⟩ := bnd h
    refine e_call (is := [0]) rfl rfl (call_run Try.call11 rfl rfl (args2 (optp_some (gu hb21 rfl) hz23) rfl)) rfl (fun w hp => t_quorum_Write_Ack ho24 1 (show I64 1 by decide) hp hz26) ?_
    rintro Γ27 U29 v30 hl28 ⟨row31, rfl, rfl, hr32, _⟩
    change WR _ _ _ (CC F Γ27 [row31, []]) _ _ (upd _ 21 (.bool z25.2))
    refine WR.sat (c0 := true) (g := ((Option.isNone z8.1) || (z8.2 != 0))) rfl rfl rfl hb21 ?_
    refine va rfl rfl rfl (q_not rfl rfl) ?_
    refine va rfl rfl rfl (q_pick_f (v := .bool (!z25.2)) rfl rfl (not_t hb21) (by kernel_rfl)) ?_
    refine va rfl rfl rfl (q_move (v := .bool (!z25.2)) rfl (by kernel_rfl)) ?_
    refine vg0 rfl rfl rfl rfl rfl (fun hg33 => QV.qo (q_move (v := .pointer (some ⟨g14, 0, none⟩)) rfl (optp_some rfl hz23))) ?_
    refine (Bool.eq_false_or_eq_true (!(!z25.2))).elim (fun hb34 => ?_) (fun hb34 => ?_)
    · skip
      have h := bt hb34 h
      refine WR.sat (c0 := true) (g := (!z25.2)) rfl rfl rfl hb34 ?_
      obtain ⟨z35, hz36, h⟩ := bnd h
      refine e_call (is := [0]) rfl rfl (call_run Try.call11 rfl rfl (args2 (gu hb34 rfl) rfl)) rfl (fun w hp => t_quorum_Write_Ack hr32 1 (show I64 1 by decide) hp hz36) ?_
      rintro Γ37 U39 v40 hl38 ⟨row41, rfl, rfl, hr42, _⟩
      change WR _ _ _ (CC F Γ37 [row41, []]) _ _ (upd _ 26 (.bool z35.2))
      refine va rfl rfl rfl (q_pick_f (v := .bool z35.2) rfl rfl (not_t hb34) (by kernel_rfl)) ?_
      refine va rfl rfl rfl (q_move (v := .bool z35.2) rfl (by kernel_rfl)) ?_
      refine vg0 rfl rfl rfl rfl rfl (fun hg43 => QV.qo (q_move (v := .pointer (some ⟨g14, 0, none⟩)) rfl (optp_some rfl hz23))) ?_
      refine (Bool.eq_false_or_eq_true (!z35.2)).elim (fun hb44 => ?_) (fun hb44 => ?_)
      · skip
        have h := bt hb44 h
        refine WR.sat (c0 := true) (g := z35.2) rfl rfl rfl hb44 ?_
        obtain ⟨z45, hz46, h⟩ := bnd h
        refine e_call (is := [0]) rfl rfl (call_run Try.call11 rfl rfl (args2 (gu hb44 rfl) rfl)) rfl (fun w hp => t_quorum_Write_Ack hr42 4 (show I64 4 by decide) hp hz46) ?_
        rintro Γ47 U49 v50 hl48 ⟨row51, rfl, rfl, hr52, _⟩
        change WR _ _ _ (CC F Γ47 [row51, []]) _ _ (upd _ 30 (.bool z45.2))
        refine va rfl rfl rfl (q_pick_f (v := .bool z45.2) rfl rfl (not_t hb44) (by kernel_rfl)) ?_
        refine va rfl rfl rfl (q_move (v := .bool z45.2) rfl (by kernel_rfl)) ?_
        refine vg0 rfl rfl rfl rfl rfl (fun hg53 => QV.qo (q_move (v := .pointer (some ⟨g14, 0, none⟩)) rfl (optp_some rfl hz23))) ?_
        obtain ⟨z55, hz56, h⟩ := bnd h
        refine vg0 rfl rfl rfl rfl rfl (fun hg54 => (q_call (call_run Try.call13 rfl rfl (args1 (gu hg54 rfl))) (fun w hw => t_quorum_Write_Done (hr52.mono hw.sat.le_all) (hw.ra 0 rfl) (Sat.all w) (gc_of hz56 hg54)))) ?_
        refine va rfl rfl rfl (q_pick rfl rfl (pk_or' (g := z45.2) (y := z55))) ?_
        refine va rfl rfl rfl (q_move (v := .bool (z45.2 || z55)) rfl (by kernel_rfl)) ?_
        refine vg0 rfl rfl rfl rfl rfl (fun hg57 => QV.qo (q_move (v := .pointer (some ⟨g14, 0, none⟩)) rfl (optp_some rfl hz23))) ?_
        refine (Bool.eq_false_or_eq_true (!(z45.2 || z55))).elim (fun hb58 => ?_) (fun hb58 => ?_)
        · skip
          have h := bt hb58 h
          refine WR.sat (c0 := true) (g := (z45.2 || z55)) rfl rfl rfl hb58 ?_
          obtain ⟨z59, hz60, h⟩ := bnd h
          refine e_call (is := [0]) rfl rfl (call_run Try.call11 rfl rfl (args2 (gu hb58 rfl) rfl)) rfl (fun w hp => t_quorum_Write_Ack hr52 3 (show I64 3 by decide) hp hz60) ?_
          rintro Γ61 U63 v64 hl62 ⟨row65, rfl, rfl, hr66, _⟩
          change WR _ _ _ (CC F Γ61 [row65, []]) _ _ (upd _ 38 (.bool z59.2))
          refine WR.sat (c0 := true) (g := (z45.2 || z55)) rfl rfl rfl hb58 ?_
          refine va rfl rfl rfl (q_not rfl rfl) ?_
          refine va rfl rfl rfl (q_pick_f (v := .bool (!z59.2)) rfl rfl (not_t hb58) (by kernel_rfl)) ?_
          refine WR.nil ?_
          change WC _ _ _ _ _ _
          refine WC.cif h (by kernel_rfl) (fun hb67 h => ?_) (fun hb67 h => ?_)
          · skip
            refine WC.rs ?_
            refine va rfl rfl rfl (q_assign (v := .bool false) rfl (by kernel_rfl)) ?_
            refine WR.nil ?_
            change WC _ _ _ _ _ _
            refine WC.ret ?_
            intro w hw
            obtain rfl := Option.some.inj h
            subst hF
            exact ⟨by kernel_rfl, hw.fr⟩
          · skip
            refine WC.skip ?_
            change WC _ _ _ _ _ _
            refine WC.rs ?_
            refine va rfl rfl rfl (q_move (v := .pointer (some ⟨g14, 0, none⟩)) rfl (optp_some rfl hz23)) ?_
            obtain ⟨z68, hz69, h⟩ := bnd h
            refine e_call (is := [0]) rfl rfl (call_run Try.call16 rfl rfl (by kernel_rfl)) rfl (fun w hp => t_quorum_Write_Waits hr66 hp hz69) ?_
            rintro Γ70 U72 v73 hl71 ⟨A74, c75, row76, rfl, rfl, hr77, _⟩
            change WR _ _ _ (CC F Γ70 [row65, row76, []]) _ _ (upd _ 42 (.slice A74 z68.length c75))
            refine va rfl rfl rfl (q_assign (v := .slice A74 z68.length c75) rfl (by kernel_rfl)) ?_
            refine WR.nil ?_
            change WC _ _ _ _ _ _
            refine WC.rs ?_
            refine e_buildSlice (cs := #[.int .i64 1, .int .i64 2]) (e := 3) rfl rfl rfl rfl (fun w => by kernel_rfl) ?_
            intro g78
            have ho79 : Own intT Γ70 3 [(g78, .cells #[.int .i64 1, .int .i64 2] 3 (0, 0))] (some ⟨g78, 0, none⟩) 2 [1, 2] := Own.of_block (T := intT) (ys := [1, 2]) [[.int .i64 1], [.int .i64 2]] rfl rfl (show 2 ≤ lim by decide) (fun i h => match i, h with | 0, _ => (show Ty.rd intT Γ70 [.int .i64 1] 1 from ⟨rfl, (show I64 1 by decide)⟩) | 1, _ => (show Ty.rd intT Γ70 [.int .i64 2] 2 from ⟨rfl, (show I64 2 by decide)⟩))
            have hc84 := ho79.capz
            intro w hw; obtain ⟨Γ80, hw, hl81, hr82⟩ := hw.seal (i := 0) rfl; have hs83 := ho79.sl hl81 hr82
            refine WR.here (C := CC F Γ80 [[], row65, row76, []]) ?_ hw
            clear hw
            obtain ⟨z85, hz86, h⟩ := bnd h
            refine e_call (is := []) rfl rfl (call_run Try.call18 rfl rfl (by kernel_rfl)) rfl (fun w hp => t_quorum_NewRead hs83 hc84 2 (show I64 2 by decide) hp hz86) ?_
            rintro Γ87 U89 v90 hl88 ⟨g91, row92, rfl, rfl, hr93, hr94, _⟩
            change WR _ _ _ (CC F Γ87 [row92, [], row65, row76, []]) _ _ (upd _ 45 (.tuple #[optp z85.1 g91, .int .i64 z85.2]))
            refine va rfl rfl rfl (q_move (v := .tuple #[optp z85.1 g91, .int .i64 z85.2]) rfl (by kernel_rfl)) ?_
            refine va rfl rfl rfl (q_extract (v := optp z85.1 g91) rfl rfl rfl) ?_
            refine va rfl rfl rfl (q_extract (v := .int .i64 z85.2) rfl rfl rfl) ?_
            refine va rfl rfl rfl (q_assign (v := optp z85.1 g91) rfl (by kernel_rfl)) ?_
            refine va rfl rfl rfl (q_assign (v := .int .i64 z85.2) rfl (by kernel_rfl)) ?_
            refine WR.nil ?_
            change WC _ _ _ _ _ _
            refine WC.seq ?_
            refine WC.rs ?_
            refine va rfl rfl rfl (q_move (v := optp z85.1 g91) rfl (by kernel_rfl)) ?_
            refine va rfl rfl rfl (q_opt_eql Try.underlying36 rfl rfl rfl) ?_
            refine va rfl rfl rfl (q_move (v := .bool (Option.isNone z85.1)) rfl (by kernel_rfl)) ?_
            refine vg0 rfl rfl rfl rfl rfl (fun hg95 => QV.qo (q_move (v := .int .i64 z85.2) rfl (by kernel_rfl))) ?_
            refine vg0 rfl rfl rfl rfl rfl (fun hg96 => QV.qo (q_neq rfl (gu hg96 rfl) rfl)) ?_
            refine va rfl rfl rfl (q_pick rfl rfl (pk_or' (g := (Option.isNone z85.1)) (y := (z85.2 != 0)))) ?_
            refine WR.nil ?_
            change WC _ _ _ _ _ _
            refine WC.cif h (by kernel_rfl) (fun hb97 h => ?_) (fun hb97 h => ?_)
            · skip
              refine WC.rs ?_
              refine va rfl rfl rfl (q_assign (v := .bool false) rfl (by kernel_rfl)) ?_
              refine WR.nil ?_
              change WC _ _ _ _ _ _
              refine WC.ret ?_
              intro w hw
              obtain rfl := Option.some.inj h
              subst hF
              exact ⟨by kernel_rfl, hw.fr⟩
            · skip
              obtain ⟨z98, hz99, h⟩ := bnd h
              have ho100 := optob_some hr93 hz99
              refine WC.skip ?_
              change WC _ _ _ _ _ _
              refine WC.rs ?_
              refine va rfl rfl rfl (q_build' (v := .agg #[.int .i64 1, .int .i64 1]) rfl (bargs2 rfl rfl) (fun w => by kernel_rfl)) ?_
              refine va rfl rfl rfl (q_build' (v := .agg #[.int .i64 1, .int .i64 1, .slice none 0 0, .bool false, .string ByteArray.empty]) rfl (bargs1 rfl) (fun w => by kernel_rfl)) ?_
              refine e_buildSlice (cs := #[.int .i64 1, .int .i64 1, .slice none 0 0, .bool false, .string ByteArray.empty]) (e := 58) rfl rfl rfl rfl (fun w => by kernel_rfl) ?_
              intro g101
              refine va rfl rfl rfl (q_assign (v := .slice (some ⟨g101, 0, none⟩) 1 1) rfl (by kernel_rfl)) ?_
              refine WR.nil ?_
              change WC _ _ _ _ _ _
              refine WC.rs ?_
              refine va rfl rfl rfl (q_move (v := .pointer (some ⟨g91, 0, none⟩)) rfl (optp_some rfl hz99)) ?_
              refine va rfl rfl rfl (q_move (v := .slice (some ⟨g101, 0, none⟩) 1 1) rfl (by kernel_rfl)) ?_
              have ho102 : Own verT Γ87 58 [(g101, .cells #[.int .i64 1, .int .i64 1, .slice none 0 0, .bool false, .string ByteArray.empty] 58 (0, 0))] (some ⟨g101, 0, none⟩) 1 [(⟨(⟨1, 1⟩ : Dot), [], false, ByteArray.empty⟩ : Ver)] := Own.of_block (T := verT) (ys := [(⟨(⟨1, 1⟩ : Dot), [], false, ByteArray.empty⟩ : Ver)]) [[.int .i64 1, .int .i64 1, .slice none 0 0, .bool false, .string ByteArray.empty]] rfl rfl (show 1 ≤ lim by decide) (fun i h => match i, h with | 0, _ => (show Ty.rd verT Γ87 [.int .i64 1, .int .i64 1, .slice none 0 0, .bool false, .string ByteArray.empty] (⟨(⟨1, 1⟩ : Dot), [], false, ByteArray.empty⟩ : Ver) from ⟨none, 0, rfl, ⟨(show I64 1 by decide), (show I64 1 by decide), ⟨Nat.zero_le _, Sl.nil _ _ _⟩, (show (ByteArray.empty : ByteArray).size ≤ lim by decide)⟩⟩))
              have hc107 := ho102.capz
              intro w hw; obtain ⟨Γ103, hw, hl104, hr105⟩ := hw.seal (i := 0) rfl; have hs106 := ho102.sl hl104 hr105
              refine WR.here (C := CC F Γ103 [[], row92, [], row65, row76, []]) ?_ hw
              clear hw
              obtain ⟨z108, hz109, h⟩ := bnd h
              refine e_call (is := [1]) rfl rfl (call_run Try.call19 rfl rfl (by kernel_rfl)) rfl (fun w hp => t_quorum_Read_Got (ho100.mono hl104) 1 (show I64 1 by decide) hs106 hc107 hp hz109) ?_
              rintro Γ110 U112 v113 hl111 ⟨row114, rfl, rfl, hr115, _⟩
              change WR _ _ _ (CC F Γ110 [row114, [], [], row65, row76, []]) _ _ (upd _ 59 (.bool z108.2))
              refine WR.nil ?_
              change WC _ _ _ _ _ _
              refine WC.rs ?_
              refine va rfl rfl rfl (q_move (v := .pointer (some ⟨g91, 0, none⟩)) rfl (optp_some rfl hz99)) ?_
              obtain ⟨z116, hz117, h⟩ := bnd h
              refine e_call (is := [0]) rfl rfl (call_run Try.call19 rfl rfl (by kernel_rfl)) rfl (fun w hp => t_quorum_Read_Got hr115 2 (show I64 2 by decide) (Sl.nil verT _ none) (Nat.zero_le 0) hp hz117) ?_
              rintro Γ118 U120 v121 hl119 ⟨row122, rfl, rfl, hr123, _⟩
              change WR _ _ _ (CC F Γ118 [row122, [], [], row65, row76, []]) _ _ (upd _ 61 (.bool z116.2))
              refine WR.nil ?_
              change WC _ _ _ _ _ _
              refine WC.rs ?_
              refine va rfl rfl rfl (q_move (v := .pointer (some ⟨g91, 0, none⟩)) rfl (optp_some rfl hz99)) ?_
              obtain ⟨z124, hz125, h⟩ := bnd h
              refine e_call (is := [0]) rfl rfl (call_run Try.call26 rfl rfl (by kernel_rfl)) rfl (fun w hp => t_quorum_Read_Behind hr123 hp hz125) ?_
              rintro Γ126 U128 v129 hl127 ⟨A130, c131, row132, rfl, rfl, hr133, _⟩
              change WR _ _ _ (CC F Γ126 [row122, row132, [], [], row65, row76, []]) _ _ (upd _ 63 (.slice A130 z124.length c131))
              refine va rfl rfl rfl (q_assign (v := .slice A130 z124.length c131) rfl (by kernel_rfl)) ?_
              refine WR.nil ?_
              change WC _ _ _ _ _ _
              refine WC.rs ?_
              refine va rfl rfl rfl (q_move (v := .pointer (some ⟨g14, 0, none⟩)) rfl (optp_some rfl hz23)) ?_
              obtain ⟨z134, hz135, h⟩ := bnd h
              refine vc rfl rfl rfl (q_call (call_run Try.call13 rfl rfl (by kernel_rfl)) (fun w hw => t_quorum_Write_Done ((hr66.mono ((((((hl71.trans hl81).trans hl88).trans hl104).trans hl111).trans hl119).trans hl127)).mono hw.sat.le_all) (hw.ra 4 rfl) (Sat.all w) hz135)) ?_
              refine va rfl rfl rfl (q_move (v := .bool z134) rfl (by kernel_rfl)) ?_
              refine vg1 rfl rfl rfl rfl rfl (fun hg136 => QV.qo (q_move (v := .slice A74 z68.length c75) rfl (by kernel_rfl))) ?_
              refine vg1 rfl rfl rfl rfl rfl (fun hg137 => QV.qo (q_len_slice rfl Try.underlying22 (gu hg137 rfl))) ?_
              refine vg1 rfl rfl rfl rfl rfl (fun hg138 => QV.qo (q_eql rfl (gu hg138 rfl) rfl)) ?_
              refine va rfl rfl rfl (q_pick rfl rfl (pk_and' (g := z134) (y := (((z68.length : Nat) : Int) == 1)))) ?_
              refine va rfl rfl rfl (q_move (v := .bool (z134 && (((z68.length : Nat) : Int) == 1))) rfl (by kernel_rfl)) ?_
              refine vg1 rfl rfl rfl rfl rfl (fun hg139 => QV.qo (q_move (v := .slice A74 z68.length c75) rfl (by kernel_rfl))) ?_
              obtain ⟨hk141, h⟩ := chk_some h
              refine vg1 rfl rfl rfl rfl rfl (fun hg140 => QV.qo (q_ixn (i := 0) Try.underlying22 Try.sizeOf3 rfl (gu hg140 rfl) rfl (of_decide_eq_true (imp_of hk141 hg140)) ((hr77.mono (((((hl81.trans hl88).trans hl104).trans hl111).trans hl119).trans hl127)).some_ (of_decide_eq_true (imp_of hk141 hg140))))) ?_
              refine vg1 rfl rfl rfl rfl rfl (fun hg142 => QV.qo (q_ldo (c := 0) (v := .int .i64 (gt z68 0)) (i := 5) rfl ((hr77.mono (((((hl81.trans hl88).trans hl104).trans hl111).trans hl119).trans hl127)).intT_at (of_decide_eq_true (imp_of hk141 hg142))).2 rfl Try.isAgg3 (gu hg142 rfl) rfl)) ?_
              refine vg1 rfl rfl rfl rfl rfl (fun hg143 => QV.qo (q_eql rfl (gu hg143 rfl) rfl)) ?_
              refine va rfl rfl rfl (q_pick rfl rfl (pk_and' (g := (z134 && (((z68.length : Nat) : Int) == 1))) (y := ((gt z68 0) == 2)))) ?_
              refine va rfl rfl rfl (q_move (v := .bool ((z134 && (((z68.length : Nat) : Int) == 1)) && ((gt z68 0) == 2))) rfl (by kernel_rfl)) ?_
              refine vg1 rfl rfl rfl rfl rfl (fun hg144 => QV.qo (q_move (v := .pointer (some ⟨g91, 0, none⟩)) rfl (optp_some rfl hz99))) ?_
              obtain ⟨z146, hz147, h⟩ := bnd h
              refine vg1 rfl rfl rfl rfl rfl (fun hg145 => (q_call (call_run Try.call21 rfl rfl (args1 (gu hg145 rfl))) (fun w hw => t_quorum_Read_Done ((hr123.mono hl127).mono hw.sat.le_all) (hw.ra 0 rfl) (Sat.all w) (gc_of hz147 hg145)))) ?_
              refine va rfl rfl rfl (q_pick rfl rfl (pk_and' (g := ((z134 && (((z68.length : Nat) : Int) == 1)) && ((gt z68 0) == 2))) (y := z146))) ?_
              refine va rfl rfl rfl (q_move (v := .bool (((z134 && (((z68.length : Nat) : Int) == 1)) && ((gt z68 0) == 2)) && z146)) rfl (by kernel_rfl)) ?_
              refine vg1 rfl rfl rfl rfl rfl (fun hg148 => QV.qo (q_move (v := .pointer (some ⟨g91, 0, none⟩)) rfl (optp_some rfl hz99))) ?_
              refine (Bool.eq_false_or_eq_true (((z134 && (((z68.length : Nat) : Int) == 1)) && ((gt z68 0) == 2)) && z146)).elim (fun hb149 => ?_) (fun hb149 => ?_)
              · skip
                have h := bt hb149 h
                refine WR.sat (c0 := true) (g := (((z134 && (((z68.length : Nat) : Int) == 1)) && ((gt z68 0) == 2)) && z146)) rfl rfl rfl hb149 ?_
                obtain ⟨z150, hz151, h⟩ := bnd h
                refine e_call (is := [0]) rfl rfl (call_run Try.call24 rfl rfl (args1 (gu hb149 rfl))) rfl (fun w hp => t_quorum_Read_Vers (hr123.mono hl127) hp hz151) ?_
                rintro Γ152 U154 v155 hl153 ⟨A156, c157, rfl, rfl, hc159, hr158, _⟩
                change WR _ _ _ (CC F Γ152 [row122, row132, [], [], row65, row76, []]) _ _ (upd _ 83 (.slice A156 z150.length c157))
                refine WR.sat (c0 := true) (g := (((z134 && (((z68.length : Nat) : Int) == 1)) && ((gt z68 0) == 2)) && z146)) rfl rfl rfl hb149 ?_
                refine va rfl rfl rfl (q_move (v := .slice (some ⟨g101, 0, none⟩) [(⟨(⟨1, 1⟩ : Dot), [], false, ByteArray.empty⟩ : Ver)].length 1) rfl (by kernel_rfl)) ?_
                refine WR.sat (c0 := true) (g := (((z134 && (((z68.length : Nat) : Int) == 1)) && ((gt z68 0) == 2)) && z146)) rfl rfl rfl hb149 ?_
                obtain ⟨z160, hz161, h⟩ := bnd h
                refine vc rfl rfl rfl (q_call (call_run Try.call23 rfl rfl (by kernel_rfl)) (fun w hw => t_firthref05_Same (hr158.mono hw.sat.le_all) hc159 ((hs106.mono (((hl111.trans hl119).trans hl127).trans hl153)).mono hw.sat.le_all) hc107 (Sat.all w) hz161)) ?_
                refine va rfl rfl rfl (q_pick_t (v := .bool z160) rfl rfl hb149 (by kernel_rfl)) ?_
                refine va rfl rfl rfl (q_move (v := .bool z160) rfl (by kernel_rfl)) ?_
                refine vg1 rfl rfl rfl rfl rfl (fun hg162 => QV.qo (q_move (v := .slice A130 z124.length c131) rfl (by kernel_rfl))) ?_
                refine vg1 rfl rfl rfl rfl rfl (fun hg163 => QV.qo (q_len_slice rfl Try.underlying22 (gu hg163 rfl))) ?_
                refine vg1 rfl rfl rfl rfl rfl (fun hg164 => QV.qo (q_eql rfl (gu hg164 rfl) rfl)) ?_
                refine va rfl rfl rfl (q_pick rfl rfl (pk_and' (g := z160) (y := (((z124.length : Nat) : Int) == 1)))) ?_
                refine va rfl rfl rfl (q_move (v := .bool (z160 && (((z124.length : Nat) : Int) == 1))) rfl (by kernel_rfl)) ?_
                refine vg1 rfl rfl rfl rfl rfl (fun hg165 => QV.qo (q_move (v := .slice A130 z124.length c131) rfl (by kernel_rfl))) ?_
                obtain ⟨hk167, h⟩ := chk_some h
                refine vg1 rfl rfl rfl rfl rfl (fun hg166 => QV.qo (q_ixn (i := 0) Try.underlying22 Try.sizeOf3 rfl (gu hg166 rfl) rfl (of_decide_eq_true (imp_of hk167 hg166)) ((hr133.mono hl153).some_ (of_decide_eq_true (imp_of hk167 hg166))))) ?_
                refine vg1 rfl rfl rfl rfl rfl (fun hg168 => QV.qo (q_ldo (c := 0) (v := .int .i64 (gt z124 0)) (i := 1) rfl ((hr133.mono hl153).intT_at (of_decide_eq_true (imp_of hk167 hg168))).2 rfl Try.isAgg3 (gu hg168 rfl) rfl)) ?_
                refine vg1 rfl rfl rfl rfl rfl (fun hg169 => QV.qo (q_eql rfl (gu hg169 rfl) rfl)) ?_
                refine va rfl rfl rfl (q_pick rfl rfl (pk_and' (g := (z160 && (((z124.length : Nat) : Int) == 1))) (y := ((gt z124 0) == 2)))) ?_
                refine va rfl rfl rfl (q_assign (v := .bool ((z160 && (((z124.length : Nat) : Int) == 1)) && ((gt z124 0) == 2))) rfl (by kernel_rfl)) ?_
                refine WR.nil ?_
                change WC _ _ _ _ _ _
                refine WC.ret ?_
                intro w hw
                obtain rfl := Option.some.inj h
                subst hF
                exact ⟨by kernel_rfl, hw.fr⟩
              · skip
                have h := bf hb149 h
                refine WR.unsat (c0 := true) (g := (((z134 && (((z68.length : Nat) : Int) == 1)) && ((gt z68 0) == 2)) && z146)) rfl rfl rfl hb149 rfl ?_
                refine WR.unsat (c0 := true) (g := (((z134 && (((z68.length : Nat) : Int) == 1)) && ((gt z68 0) == 2)) && z146)) rfl rfl rfl hb149 rfl ?_
                refine WR.unsat (c0 := true) (g := (((z134 && (((z68.length : Nat) : Int) == 1)) && ((gt z68 0) == 2)) && z146)) rfl rfl rfl hb149 rfl ?_
                refine va rfl rfl rfl (q_pick_f (v := .bool false) rfl rfl hb149 (by kernel_rfl)) ?_
                refine va rfl rfl rfl (q_move (v := .bool false) rfl (by kernel_rfl)) ?_
                refine WR.unsat (c0 := true) (g := false) rfl rfl rfl rfl rfl ?_
                refine WR.unsat (c0 := true) (g := false) rfl rfl rfl rfl rfl ?_
                refine WR.unsat (c0 := true) (g := false) rfl rfl rfl rfl rfl ?_
                refine va rfl rfl rfl (q_pickf (v := .bool false) rfl rfl rfl) ?_
                refine va rfl rfl rfl (q_move (v := .bool false) rfl (by kernel_rfl)) ?_
                refine WR.unsat (c0 := true) (g := false) rfl rfl rfl rfl rfl ?_
                refine WR.unsat (c0 := true) (g := false) rfl rfl rfl rfl rfl ?_
                refine WR.unsat (c0 := true) (g := false) rfl rfl rfl rfl rfl ?_
                refine WR.unsat (c0 := true) (g := false) rfl rfl rfl rfl rfl ?_
                refine va rfl rfl rfl (q_pickf (v := .bool false) rfl rfl rfl) ?_
                refine va rfl rfl rfl (q_assign (v := .bool false) rfl (by kernel_rfl)) ?_
                refine WR.nil ?_
                change WC _ _ _ _ _ _
                refine WC.ret ?_
                intro w hw
                obtain rfl := Option.some.inj h
                subst hF
                exact ⟨by kernel_rfl, hw.fr⟩
        · skip
          have h := bf hb58 h
          refine WR.unsat (c0 := true) (g := (z45.2 || z55)) rfl rfl rfl hb58 rfl ?_
          refine WR.unsat (c0 := true) (g := (z45.2 || z55)) rfl rfl rfl hb58 rfl ?_
          refine va rfl rfl rfl (q_pick_t (v := .bool true) rfl rfl (not_f hb58) (by kernel_rfl)) ?_
          refine WR.nil ?_
          change WC _ _ _ _ _ _
          refine WC.ctk (b := true) (by kernel_rfl) rfl ?_
          refine WC.rs ?_
          refine va rfl rfl rfl (q_assign (v := .bool false) rfl (by kernel_rfl)) ?_
          refine WR.nil ?_
          change WC _ _ _ _ _ _
          refine WC.ret ?_
          intro w hw
          obtain rfl := Option.some.inj h
          subst hF
          exact ⟨by kernel_rfl, hw.fr⟩
      · skip
        have h := bf hb44 h
        refine WR.unsat (c0 := true) (g := z35.2) rfl rfl rfl hb44 rfl ?_
        refine va rfl rfl rfl (q_pick_t (v := .bool true) rfl rfl (not_f hb44) (by kernel_rfl)) ?_
        refine va rfl rfl rfl (q_move (v := .bool true) rfl (by kernel_rfl)) ?_
        refine WR.unsat (c0 := true) (g := true) rfl rfl rfl (nott rfl) rfl ?_
        refine WR.unsat (c0 := true) (g := true) rfl rfl rfl (nott rfl) rfl ?_
        refine va rfl rfl rfl (q_pickt (v := .bool true) rfl rfl rfl) ?_
        refine va rfl rfl rfl (q_move (v := .bool true) rfl (by kernel_rfl)) ?_
        refine WR.unsat (c0 := true) (g := true) rfl rfl rfl (nott rfl) rfl ?_
        refine WR.unsat (c0 := true) (g := true) rfl rfl rfl (nott rfl) rfl ?_
        refine WR.unsat (c0 := true) (g := true) rfl rfl rfl (nott rfl) rfl ?_
        refine va rfl rfl rfl (q_pickt (v := .bool true) rfl rfl rfl) ?_
        refine WR.nil ?_
        change WC _ _ _ _ _ _
        refine WC.ctk (b := true) (by kernel_rfl) rfl ?_
        refine WC.rs ?_
        refine va rfl rfl rfl (q_assign (v := .bool false) rfl (by kernel_rfl)) ?_
        refine WR.nil ?_
        change WC _ _ _ _ _ _
        refine WC.ret ?_
        intro w hw
        obtain rfl := Option.some.inj h
        subst hF
        exact ⟨by kernel_rfl, hw.fr⟩
    · skip
      have h := bf hb34 h
      refine WR.unsat (c0 := true) (g := (!z25.2)) rfl rfl rfl hb34 rfl ?_
      refine va rfl rfl rfl (q_pick_t (v := .bool true) rfl rfl (not_f hb34) (by kernel_rfl)) ?_
      refine va rfl rfl rfl (q_move (v := .bool true) rfl (by kernel_rfl)) ?_
      refine WR.unsat (c0 := true) (g := true) rfl rfl rfl (nott rfl) rfl ?_
      refine WR.unsat (c0 := true) (g := true) rfl rfl rfl (nott rfl) rfl ?_
      refine va rfl rfl rfl (q_pickt (v := .bool true) rfl rfl rfl) ?_
      refine va rfl rfl rfl (q_move (v := .bool true) rfl (by kernel_rfl)) ?_
      refine WR.unsat (c0 := true) (g := true) rfl rfl rfl (nott rfl) rfl ?_
      refine WR.unsat (c0 := true) (g := true) rfl rfl rfl (nott rfl) rfl ?_
      refine va rfl rfl rfl (q_pickt (v := .bool true) rfl rfl rfl) ?_
      refine va rfl rfl rfl (q_move (v := .bool true) rfl (by kernel_rfl)) ?_
      refine WR.unsat (c0 := true) (g := true) rfl rfl rfl (nott rfl) rfl ?_
      refine WR.unsat (c0 := true) (g := true) rfl rfl rfl (nott rfl) rfl ?_
      refine WR.unsat (c0 := true) (g := true) rfl rfl rfl (nott rfl) rfl ?_
      refine va rfl rfl rfl (q_pickt (v := .bool true) rfl rfl rfl) ?_
      refine WR.nil ?_
      change WC _ _ _ _ _ _
      refine WC.ctk (b := true) (by kernel_rfl) rfl ?_
      refine WC.rs ?_
      refine va rfl rfl rfl (q_assign (v := .bool false) rfl (by kernel_rfl)) ?_
      refine WR.nil ?_
      change WC _ _ _ _ _ _
      refine WC.ret ?_
      intro w hw
      obtain rfl := Option.some.inj h
      subst hF
      exact ⟨by kernel_rfl, hw.fr⟩
  · skip
    have h := bf hb21 h
    refine WR.unsat (c0 := true) (g := ((Option.isNone z8.1) || (z8.2 != 0))) rfl rfl rfl hb21 rfl ?_
    refine WR.unsat (c0 := true) (g := ((Option.isNone z8.1) || (z8.2 != 0))) rfl rfl rfl hb21 rfl ?_
    refine va rfl rfl rfl (q_pick_t (v := .bool true) rfl rfl (not_f hb21) (by kernel_rfl)) ?_
    refine va rfl rfl rfl (q_move (v := .bool true) rfl (by kernel_rfl)) ?_
    refine WR.unsat (c0 := true) (g := true) rfl rfl rfl (nott rfl) rfl ?_
    refine WR.unsat (c0 := true) (g := true) rfl rfl rfl (nott rfl) rfl ?_
    refine va rfl rfl rfl (q_pickt (v := .bool true) rfl rfl rfl) ?_
    refine va rfl rfl rfl (q_move (v := .bool true) rfl (by kernel_rfl)) ?_
    refine WR.unsat (c0 := true) (g := true) rfl rfl rfl (nott rfl) rfl ?_
    refine WR.unsat (c0 := true) (g := true) rfl rfl rfl (nott rfl) rfl ?_
    refine va rfl rfl rfl (q_pickt (v := .bool true) rfl rfl rfl) ?_
    refine va rfl rfl rfl (q_move (v := .bool true) rfl (by kernel_rfl)) ?_
    refine WR.unsat (c0 := true) (g := true) rfl rfl rfl (nott rfl) rfl ?_
    refine WR.unsat (c0 := true) (g := true) rfl rfl rfl (nott rfl) rfl ?_
    refine va rfl rfl rfl (q_pickt (v := .bool true) rfl rfl rfl) ?_
    refine va rfl rfl rfl (q_move (v := .bool true) rfl (by kernel_rfl)) ?_
    refine WR.unsat (c0 := true) (g := true) rfl rfl rfl (nott rfl) rfl ?_
    refine WR.unsat (c0 := true) (g := true) rfl rfl rfl (nott rfl) rfl ?_
    refine WR.unsat (c0 := true) (g := true) rfl rfl rfl (nott rfl) rfl ?_
    refine va rfl rfl rfl (q_pickt (v := .bool true) rfl rfl rfl) ?_
    refine WR.nil ?_
    change WC _ _ _ _ _ _
    refine WC.ctk (b := true) (by kernel_rfl) rfl ?_
    refine WC.rs ?_
    refine va rfl rfl rfl (q_assign (v := .bool false) rfl (by kernel_rfl)) ?_
    refine WR.nil ?_
    change WC _ _ _ _ _ _
    refine WC.ret ?_
    intro w hw
    obtain rfl := Option.some.inj h
    subst hF
    exact ⟨by kernel_rfl, hw.fr⟩
set_option maxRecDepth 100000 in
set_option maxHeartbeats 400000 in
theorem t_firthref12_In {Γ : Gh} {w0 : World} {Al : Option Addr} {cl : Nat} {l : List Int} (hl : Sl intT Γ Al l) (hlc : l.length ≤ cl) (n : Int) (hn : I64 n) (hs : Sat Γ w0) {r : Bool} (h : m_firthref12_In l n = some r) : Calls Try.prog 34 #[.slice Al l.length cl, .int .i64 n] w0 (fun e w' => e = .returned (.bool r) ∧ Fr no w0 w') := by
  refine calls_of (N := 18) (rs := [4]) (args := [.slice Al l.length cl, .int .i64 n]) Try.func34 rfl Try.ntmps34 Try.results34 rfl ?_
  obtain ⟨F, hF⟩ : ∃ F : Fm, F = ⟨no, w0, Γ⟩ := ⟨_, rfl⟩
  refine WC.here (C := CC F Γ []) ?_ (hF ▸ Cur.start0 hs)
  refine WC.rs ?_
  refine va rfl rfl rfl (q_assign (v := .bool false) rfl (by kernel_rfl)) ?_
  refine WR.nil ?_
  change WC _ _ _ _ _ _
  refine WC.seq ?_
  refine WC.rs ?_
  refine va rfl rfl rfl (q_assign (v := .int .i64 0) rfl (by kernel_rfl)) ?_
  refine WR.nil ?_
  change WC _ _ _ _ _ _
  refine WC.block ?_
  refine WC.forI h (fun (i2 : Nat) (s : Unit) σ w => match s with | () => slots σ [(0, .slice Al l.length cl), (1, .int .i64 n), (5, .int .i64 ((i2 : Nat) : Int))] ∧ CC F Γ [] w ∧ True) ?_ ?_
  · skip
    intro w hw
    exact ⟨(sl_ (by kernel_rfl)), hw, trivial⟩
  rintro f1 i2 ⟨⟩ σ w hi3 hlt4 hge5 ⟨hsl, hw, -⟩
  refine Wpt.slots hsl ?_
  refine WC.here (C := CC F Γ []) ?_ hw
  clear hw hsl
  refine WC.seq ?_
  refine WC.rs ?_
  refine va rfl rfl rfl (q_move (v := .int .i64 ((i2 : Nat) : Int)) rfl (by kernel_rfl)) ?_
  refine va rfl rfl rfl (q_move (v := .slice Al l.length cl) rfl (by kernel_rfl)) ?_
  refine va rfl rfl rfl (q_len_slice rfl Try.underlying22 rfl) ?_
  refine va rfl rfl rfl (q_lss rfl rfl rfl) ?_
  refine WR.nil ?_
  change WC _ _ _ _ _ _
  refine WC.cond (b := (decide (((i2 : Nat) : Int) < ((l.length : Nat) : Int)))) (by kernel_rfl) (fun hb6 => ?_) (fun hb6 => ?_)
  · skip
    have hl7 := ilt hb6
    have h := hlt4 hl7
    refine WC.skip ?_
    change WC _ _ _ _ _ _
    refine WC.seq ?_
    refine WC.block ?_
    refine WC.rs ?_
    refine va rfl rfl rfl (q_move (v := .slice Al l.length cl) rfl (by kernel_rfl)) ?_
    refine va rfl rfl rfl (q_move (v := .int .i64 ((i2 : Nat) : Int)) rfl (by kernel_rfl)) ?_
    refine va rfl rfl rfl (q_ixn (i := i2) Try.underlying22 Try.sizeOf3 rfl rfl rfl hl7 (hl.some_ hl7)) ?_
    refine va rfl rfl rfl (q_ld (c := 0) (v := .int .i64 (gt l i2)) (hl.intT_at hl7).2 rfl Try.isAgg3 rfl rfl) ?_
    refine va rfl rfl rfl (q_move (v := .int .i64 n) rfl (by kernel_rfl)) ?_
    refine va rfl rfl rfl (q_eql rfl rfl rfl) ?_
    refine WR.nil ?_
    change WC _ _ _ _ _ _
    refine WC.cif h (by kernel_rfl) (fun hb8 h => ?_) (fun hb8 h => ?_)
    · skip
      refine WC.rs ?_
      refine va rfl rfl rfl (q_assign (v := .bool true) rfl (by kernel_rfl)) ?_
      refine WR.nil ?_
      change WC _ _ _ _ _ _
      refine WC.ret ?_
      intro w hw
      obtain rfl := Option.some.inj h
      subst hF
      exact ⟨by kernel_rfl, hw.fr⟩
    · skip
      refine WC.skip ?_
      change WC _ _ _ _ _ _
      refine WC.region ?_
      refine va rfl rfl rfl (q_move (v := .int .i64 ((i2 : Nat) : Int)) rfl (by kernel_rfl)) ?_
      refine va rfl rfl rfl (q_add_r (r := ((i2 + 1 : Nat) : Int)) rfl rfl rfl (ctr_len hl7 hl.le)) ?_
      refine va rfl rfl rfl (q_assign (v := .int .i64 ((i2 + 1 : Nat) : Int)) rfl (by kernel_rfl)) ?_
      refine WR.nil ?_
      intro w hw
      exact ⟨hl7, (), h, (sl_ (by kernel_rfl)), hw, trivial⟩
  · skip
    have h := hge5 (ige hb6)
    refine WC.exit ?_
    change WC _ _ _ _ _ _
    refine WC.rs ?_
    refine va rfl rfl rfl (q_assign (v := .bool false) rfl (by kernel_rfl)) ?_
    refine WR.nil ?_
    change WC _ _ _ _ _ _
    refine WC.ret ?_
    intro w hw
    obtain rfl := Option.some.inj h
    subst hF
    exact ⟨by kernel_rfl, hw.fr⟩
set_option maxRecDepth 100000 in
set_option maxHeartbeats 400000 in
theorem t_firthref16_Right {Γ : Gh} {w0 : World} {Alist : Option Addr} {clist : Nat} {list : List Int} (hlist : Sl intT Γ Alist list) (hlistc : list.length ≤ clist) (need : Int) (hneed : I64 need) (hs : Sat Γ w0) {r : Bool} (h : m_firthref16_Right list need = some r) : Calls Try.prog 9 #[.slice Alist list.length clist, .int .i64 need] w0 (fun e w' => e = .returned (.bool r) ∧ Fr no w0 w') := by
  refine calls_of (N := 52) (rs := [4]) (args := [.slice Alist list.length clist, .int .i64 need]) Try.func9 rfl Try.ntmps9 Try.results9 rfl ?_
  obtain ⟨F, hF⟩ : ∃ F : Fm, F = ⟨no, w0, Γ⟩ := ⟨_, rfl⟩
  refine WC.here (C := CC F Γ []) ?_ (hF ▸ Cur.start0 hs)
  refine WC.rs ?_
  refine va rfl rfl rfl (q_assign (v := .bool false) rfl (by kernel_rfl)) ?_
  refine WR.nil ?_
  change WC _ _ _ _ _ _
  refine WC.seq ?_
  refine WC.rs ?_
  refine va rfl rfl rfl (q_move (v := .slice Alist list.length clist) rfl (by kernel_rfl)) ?_
  refine va rfl rfl rfl (q_len_slice rfl Try.underlying22 rfl) ?_
  refine va rfl rfl rfl (q_eql rfl rfl rfl) ?_
  refine va rfl rfl rfl (q_move (v := .bool (((list.length : Nat) : Int) == 0)) rfl (by kernel_rfl)) ?_
  refine vg0 rfl rfl rfl rfl rfl (fun hg1 => QV.qo (q_move (v := .slice Alist list.length clist) rfl (by kernel_rfl))) ?_
  refine vg0 rfl rfl rfl rfl rfl (fun hg2 => QV.qo (q_len_slice rfl Try.underlying22 (gu hg2 rfl))) ?_
  refine vg0 rfl rfl rfl rfl rfl (fun hg3 => QV.qo (q_gtr rfl (gu hg3 rfl) rfl)) ?_
  refine va rfl rfl rfl (q_pick rfl rfl (pk_or' (g := (((list.length : Nat) : Int) == 0)) (y := (decide (8 < ((list.length : Nat) : Int)))))) ?_
  refine va rfl rfl rfl (q_move (v := .bool ((((list.length : Nat) : Int) == 0) || (decide (8 < ((list.length : Nat) : Int))))) rfl (by kernel_rfl)) ?_
  refine vg0 rfl rfl rfl rfl rfl (fun hg4 => QV.qo (q_move (v := .int .i64 need) rfl (by kernel_rfl))) ?_
  refine vg0 rfl rfl rfl rfl rfl (fun hg5 => QV.qo (q_lss rfl (gu hg5 rfl) rfl)) ?_
  refine va rfl rfl rfl (q_pick rfl rfl (pk_or' (g := ((((list.length : Nat) : Int) == 0) || (decide (8 < ((list.length : Nat) : Int))))) (y := (decide (need < 1))))) ?_
  refine va rfl rfl rfl (q_move (v := .bool (((((list.length : Nat) : Int) == 0) || (decide (8 < ((list.length : Nat) : Int)))) || (decide (need < 1)))) rfl (by kernel_rfl)) ?_
  refine vg0 rfl rfl rfl rfl rfl (fun hg6 => QV.qo (q_move (v := .int .i64 need) rfl (by kernel_rfl))) ?_
  refine vg0 rfl rfl rfl rfl rfl (fun hg7 => QV.qo (q_move (v := .slice Alist list.length clist) rfl (by kernel_rfl))) ?_
  refine vg0 rfl rfl rfl rfl rfl (fun hg8 => QV.qo (q_len_slice rfl Try.underlying22 (gu hg8 rfl))) ?_
  refine vg0 rfl rfl rfl rfl rfl (fun hg9 => QV.qo (q_gtr rfl (gu hg9 rfl) (gu hg9 rfl))) ?_
  refine va rfl rfl rfl (q_pick rfl rfl (pk_or' (g := (((((list.length : Nat) : Int) == 0) || (decide (8 < ((list.length : Nat) : Int)))) || (decide (need < 1)))) (y := (decide (((list.length : Nat) : Int) < need))))) ?_
  refine WR.nil ?_
  change WC _ _ _ _ _ _
  refine WC.cif h (by kernel_rfl) (fun hb10 h => ?_) (fun hb10 h => ?_)
  · skip
    refine WC.rs ?_
    refine va rfl rfl rfl (q_assign (v := .bool false) rfl (by kernel_rfl)) ?_
    refine WR.nil ?_
    change WC _ _ _ _ _ _
    refine WC.ret ?_
    intro w hw
    obtain rfl := Option.some.inj h
    subst hF
    exact ⟨by kernel_rfl, hw.fr⟩
  · skip
    refine WC.skip ?_
    change WC _ _ _ _ _ _
    refine WC.seq ?_
    refine WC.rs ?_
    refine va rfl rfl rfl (q_assign (v := .int .i64 0) rfl (by kernel_rfl)) ?_
    refine WR.nil ?_
    change WC _ _ _ _ _ _
    refine WC.block ?_
    refine WC.forI h (fun (i12 : Nat) (s : Unit) σ w => match s with | () => slots σ [(0, .slice Alist list.length clist), (5, .int .i64 ((i12 : Nat) : Int))] ∧ CC F Γ [] w ∧ True) ?_ ?_
    · skip
      intro w hw
      exact ⟨(sl_ (by kernel_rfl)), hw, trivial⟩
    rintro f11 i12 ⟨⟩ σ w hi13 hlt14 hge15 ⟨hsl, hw, -⟩
    refine Wpt.slots hsl ?_
    refine WC.here (C := CC F Γ []) ?_ hw
    clear hw hsl
    refine WC.seq ?_
    refine WC.rs ?_
    refine va rfl rfl rfl (q_move (v := .int .i64 ((i12 : Nat) : Int)) rfl (by kernel_rfl)) ?_
    refine va rfl rfl rfl (q_move (v := .slice Alist list.length clist) rfl (by kernel_rfl)) ?_
    refine va rfl rfl rfl (q_len_slice rfl Try.underlying22 rfl) ?_
    refine va rfl rfl rfl (q_lss rfl rfl rfl) ?_
    refine WR.nil ?_
    change WC _ _ _ _ _ _
    refine WC.cond (b := (decide (((i12 : Nat) : Int) < ((list.length : Nat) : Int)))) (by kernel_rfl) (fun hb16 => ?_) (fun hb16 => ?_)
    · skip
      have hl17 := ilt hb16
      have h := hlt14 hl17
      refine WC.skip ?_
      change WC _ _ _ _ _ _
      refine WC.seq ?_
      refine WC.block ?_
      refine WC.seq ?_
      refine WC.dr (by kernel_rfl) (by kernel_rfl) (fun w hw => hw.drawn _) ?_
      refine wa rfl rfl rfl (q_move (v := .slice Alist list.length clist) rfl (by kernel_rfl)) ?_
      refine wa rfl rfl rfl (q_move (v := .int .i64 ((i12 : Nat) : Int)) rfl (by kernel_rfl)) ?_
      refine wa rfl rfl rfl (q_ixn (i := i12) Try.underlying22 Try.sizeOf3 rfl rfl rfl hl17 (hlist.some_ hl17)) ?_
      refine wa rfl rfl rfl (q_ld (c := 0) (v := .int .i64 (gt list i12)) (hlist.intT_at hl17).2 rfl Try.isAgg3 rfl rfl) ?_
      refine wa rfl rfl rfl (q_lss rfl rfl rfl) ?_
      refine wa rfl rfl rfl (q_move (v := .bool (decide ((gt list i12) < 1))) rfl (by kernel_rfl)) ?_
      refine wg0 rfl rfl rfl rfl rfl (fun hg18 => QV.qo (q_move (v := .slice Alist list.length clist) rfl (by kernel_rfl))) ?_
      refine wg0 rfl rfl rfl rfl rfl (fun hg19 => QV.qo (q_move (v := .int .i64 ((i12 : Nat) : Int)) rfl (by kernel_rfl))) ?_
      refine wg0 rfl rfl rfl rfl rfl (fun hg20 => QV.qo (q_ixn (i := i12) Try.underlying22 Try.sizeOf3 rfl (gu hg20 rfl) (gu hg20 rfl) hl17 (hlist.some_ hl17))) ?_
      refine wg0 rfl rfl rfl rfl rfl (fun hg21 => QV.qo (q_ld (c := 0) (v := .int .i64 (gt list i12)) (hlist.intT_at hl17).2 rfl Try.isAgg3 (gu hg21 rfl) rfl)) ?_
      refine wg0 rfl rfl rfl rfl rfl (fun hg22 => QV.qo (q_gtr rfl (gu hg22 rfl) rfl)) ?_
      refine wa rfl rfl rfl (q_pick rfl rfl (pk_or' (g := (decide ((gt list i12) < 1))) (y := (decide (8 < (gt list i12)))))) ?_
      refine wa rfl rfl rfl (q_move (v := .bool ((decide ((gt list i12) < 1)) || (decide (8 < (gt list i12))))) rfl (by kernel_rfl)) ?_
      refine wg0 rfl rfl rfl rfl rfl (fun hg23 => QV.qo (q_move (v := .slice Alist list.length clist) rfl (by kernel_rfl))) ?_
      refine wg0 rfl rfl rfl rfl rfl (fun hg24 => QV.qo (q_move (v := .int .i64 ((i12 : Nat) : Int)) rfl (by kernel_rfl))) ?_
      refine wg0 rfl rfl rfl rfl rfl (fun hg25 => QV.qo (q_cut_to (c := clist) (hi := i12) (xs := list) Try.underlying22 Try.sizeOf3 rfl (gu hg25 rfl) (gu hg25 rfl) (Nat.le_of_lt hl17) hlistc)) ?_
      refine wg0 rfl rfl rfl rfl rfl (fun hg26 => QV.qo (q_move (v := .slice Alist list.length clist) rfl (by kernel_rfl))) ?_
      refine wg0 rfl rfl rfl rfl rfl (fun hg27 => QV.qo (q_move (v := .int .i64 ((i12 : Nat) : Int)) rfl (by kernel_rfl))) ?_
      refine wg0 rfl rfl rfl rfl rfl (fun hg28 => QV.qo (q_ixn (i := i12) Try.underlying22 Try.sizeOf3 rfl (gu hg28 rfl) (gu hg28 rfl) hl17 (hlist.some_ hl17))) ?_
      refine wg0 rfl rfl rfl rfl rfl (fun hg29 => QV.qo (q_ld (c := 0) (v := .int .i64 (gt list i12)) (hlist.intT_at hl17).2 rfl Try.isAgg3 (gu hg29 rfl) rfl)) ?_
      obtain ⟨z31, hz32, h⟩ := bnd h
      refine wg0 rfl rfl rfl rfl rfl (fun hg30 => (q_call (call_run Try.call34 rfl rfl (args2 (gu hg30 rfl) (gu hg30 rfl))) (fun w hw => t_firthref12_In ((hlist.cut_to (hi := i12) (Nat.le_of_lt hl17)).mono hw.sat.le_all) (take_cap hlistc i12) (gt list i12) (hlist.intT_at hl17).1 (Sat.all w) (gc_of hz32 hg30)))) ?_
      refine wa rfl rfl rfl (q_pick rfl rfl (pk_or' (g := ((decide ((gt list i12) < 1)) || (decide (8 < (gt list i12))))) (y := z31))) ?_
      refine WQ.nil ?_
      change WC _ _ _ _ _ _
      refine WC.cif h (by kernel_rfl) (fun hb33 h => ?_) (fun hb33 h => ?_)
      · skip
        refine WC.rs ?_
        refine va rfl rfl rfl (q_assign (v := .bool false) rfl (by kernel_rfl)) ?_
        refine WR.nil ?_
        change WC _ _ _ _ _ _
        refine WC.ret ?_
        intro w hw
        obtain rfl := Option.some.inj h
        subst hF
        exact ⟨by kernel_rfl, hw.fr⟩
      · skip
        refine WC.skip ?_
        change WC _ _ _ _ _ _
        refine WC.region ?_
        refine va rfl rfl rfl (q_move (v := .int .i64 ((i12 : Nat) : Int)) rfl (by kernel_rfl)) ?_
        refine va rfl rfl rfl (q_add_r (r := ((i12 + 1 : Nat) : Int)) rfl rfl rfl (ctr_len hl17 hlist.le)) ?_
        refine va rfl rfl rfl (q_assign (v := .int .i64 ((i12 + 1 : Nat) : Int)) rfl (by kernel_rfl)) ?_
        refine WR.nil ?_
        intro w hw
        exact ⟨hl17, (), h, (sl_ (by kernel_rfl)), hw, trivial⟩
    · skip
      have h := hge15 (ige hb16)
      refine WC.exit ?_
      change WC _ _ _ _ _ _
      refine WC.rs ?_
      refine va rfl rfl rfl (q_assign (v := .bool true) rfl (by kernel_rfl)) ?_
      refine WR.nil ?_
      change WC _ _ _ _ _ _
      refine WC.ret ?_
      intro w hw
      obtain rfl := Option.some.inj h
      subst hF
      exact ⟨by kernel_rfl, hw.fr⟩
abbrev r_firthref16_New (r : Ofirthref16_Ask) (U : List Rowb) (Γ : Gh) (v : Value) : Prop := ∃ (g0 : Nat), ∃ (row0 : Rowb), v = .pointer (some ⟨g0, 0, none⟩) ∧ U = [row0] ∧ Ofirthref16_Ask.ob 76 Γ g0 row0 r ∧ True
set_option maxRecDepth 100000 in
set_option maxHeartbeats 400000 in
theorem t_firthref16_New {Γ : Gh} {w0 : World} {Alist : Option Addr} {clist : Nat} {list : List Int} (hlist : Sl intT Γ Alist list) (hlistc : list.length ≤ clist) (need : Int) (hneed : I64 need) (hp : Pre [] Γ w0) {r : Ofirthref16_Ask} (h : m_firthref16_New list need = some r) : Calls Try.prog 10 #[.slice Alist list.length clist, .int .i64 need] w0 (Outc Γ [] w0 (r_firthref16_New r)) := by
  refine calls_of (N := 28) (rs := [4]) (args := [.slice Alist list.length clist, .int .i64 need]) Try.func10 rfl Try.ntmps10 Try.results10 rfl ?_
  obtain ⟨F, hF⟩ : ∃ F : Fm, F = ⟨ids [], w0, Γ⟩ := ⟨_, rfl⟩
  refine WC.here (C := CC F Γ []) ?_ (hF ▸ hp.start)
  refine WC.rs ?_
  refine va rfl rfl rfl (q_assign (v := .pointer none) rfl (by kernel_rfl)) ?_
  refine WR.nil ?_
  change WC _ _ _ _ _ _
  refine WC.rs ?_
  refine va rfl rfl rfl (q_move (v := .slice Alist list.length clist) rfl (by kernel_rfl)) ?_
  refine va rfl rfl rfl (q_len_slice rfl Try.underlying22 rfl) ?_
  refine va rfl rfl rfl (q_assign (v := .int .i64 ((list.length : Nat) : Int)) rfl (by kernel_rfl)) ?_
  refine WR.nil ?_
  change WC _ _ _ _ _ _
  refine WC.seq ?_
  intro w hw; have h01 := hw.le
  refine WC.here (C := CC F Γ []) ?_ hw; clear hw
  refine WC.held (CC F Γ []) (by kernel_rfl) (fun w hw => hw.drawn _) ?_
  change WH _ _ _ _ (CC F Γ []) _ 10 #[false, false, false, false, false, false, false, false, false, false] _
  refine ht (i := 0) rfl (by kernel_rfl) rfl rfl rfl (fun w hw => hw.back (Gh.refl _) h01 .slnil) (q_move (v := .int .i64 need) rfl (by kernel_rfl)) ?_
  refine ht (i := 1) rfl (by kernel_rfl) rfl rfl rfl (fun w hw => hw.back (Gh.refl _) h01 .slnil) (q_move (v := .int .i64 ((list.length : Nat) : Int)) rfl (by kernel_rfl)) ?_
  refine ht (i := 3) rfl (by kernel_rfl) rfl rfl rfl (fun w hw => hw.back (Gh.refl _) h01 .slnil) (q_move (v := .int .i64 ((list.length : Nat) : Int)) rfl (by kernel_rfl)) ?_
  refine ht (i := 5) rfl (by kernel_rfl) rfl rfl rfl (fun w hw => hw.back (Gh.refl _) h01 .slnil) (q_move (v := .int .i64 ((list.length : Nat) : Int)) rfl (by kernel_rfl)) ?_
  obtain ⟨hk2, h⟩ := chk_some h
  refine WH.each (l := [2, 4, 6]) (by kernel_rfl) (by simp) ?_
  intro i hi; simp only [List.mem_cons, List.not_mem_nil, or_false] at hi
  rcases hi with rfl | rfl | rfl
  · refine ⟨_, rfl, ?_⟩
    refine e_makeSlice (T := boolT) (n := list.length) (zx := false) (ti := Try.t4) (z := .bool false) Try.underlying73 (by kernel_rfl) (by kernel_rfl) (by kernel_rfl) (by exact rfl) (by decide) (of_decide_eq_true hk2) rfl rfl rfl rfl rfl rfl ?_
    intro g3 row4 ho5
    refine WR.nil ?_
    refine WH.next (fun w hw => hw.back (Gh.refl _) h01 (.cons _ .slnil)) ?_
    refine WH.each (l := [4, 6]) (by kernel_rfl) (by simp) ?_
    intro i hi; simp only [List.mem_cons, List.not_mem_nil, or_false] at hi
    rcases hi with rfl | rfl
    · refine ⟨_, rfl, ?_⟩
      refine e_makeSlice (T := (slT verT)) (n := list.length) (zx := []) (ti := Try.t40) (z := .slice none 0 0) Try.underlying53 (by kernel_rfl) (by kernel_rfl) (by kernel_rfl) (by exact ⟨none, 0, rfl, Nat.zero_le _, Sl.nil _ _ _⟩) (by decide) (of_decide_eq_true hk2) rfl rfl rfl rfl rfl rfl ?_
      intro g6 row7 ho8
      refine WR.nil ?_
      refine WH.next (fun w hw => hw.back (Gh.refl _) h01 (.cons _ (.cons _ .slnil))) ?_
      refine WH.lone (i := 6) (by kernel_rfl) rfl ?_
      refine e_makeSlice (T := (slT recT)) (n := list.length) (zx := []) (ti := Try.t41) (z := .slice none 0 0) Try.underlying74 (by kernel_rfl) (by kernel_rfl) (by kernel_rfl) (by exact ⟨none, 0, rfl, Nat.zero_le _, Sl.nil _ _ _⟩) (by decide) (of_decide_eq_true hk2) rfl rfl rfl rfl rfl rfl ?_
      intro g9 row10 ho11
      refine WR.nil ?_
      refine WH.next (fun w hw => hw.back (Gh.refl _) h01 (.cons _ (.cons _ (.cons _ .slnil)))) ?_
      refine ht (i := 7) rfl (by kernel_rfl) rfl rfl rfl (fun w hw => hw.back (Gh.refl _) h01 (.cons _ (.cons _ (.cons _ .slnil)))) (q_build' (v := .agg #[.slice none 0 0, .int .i64 need, .slice (some ⟨g3, 0, none⟩) list.length list.length, .slice (some ⟨g6, 0, none⟩) list.length list.length, .slice (some ⟨g9, 0, none⟩) list.length list.length]) rfl (bargs4 rfl rfl rfl rfl) (fun w => by kernel_rfl)) ?_
      refine WH.lone (i := 8) (by kernel_rfl) rfl ?_
      refine e_box (v := .agg #[.slice none 0 0, .int .i64 need, .slice (some ⟨g3, 0, none⟩) list.length list.length, .slice (some ⟨g6, 0, none⟩) list.length list.length, .slice (some ⟨g9, 0, none⟩) list.length list.length]) rfl rfl rfl rfl (by kernel_rfl) ?_
      intro g12
      refine WR.nil ?_
      refine WH.next (fun w hw => hw.back (Gh.refl _) h01 (.cons _ (.cons _ (.cons _ (.cons _ .slnil))))) ?_
      refine ht (i := 9) rfl (by kernel_rfl) rfl rfl rfl (fun w hw => hw.back (Gh.refl _) h01 (.cons _ (.cons _ (.cons _ (.cons _ .slnil))))) (q_assign (v := .pointer (some ⟨g12, 0, none⟩)) rfl (by kernel_rfl)) ?_
      refine WH.done (by kernel_rfl) ?_
      change WC _ _ _ _ _ _
      refine WC.rs ?_
      refine va rfl rfl rfl (q_move (v := .pointer (some ⟨g12, 0, none⟩)) rfl (by kernel_rfl)) ?_
      refine va rfl rfl rfl (q_move (v := .pointer (some ⟨g12, 0, none⟩)) rfl (by kernel_rfl)) ?_
      refine va rfl rfl rfl (q_nil (A := some ⟨g12, 0, none⟩) rfl rfl rfl) ?_
      refine va rfl rfl rfl (q_fl 0 fld_76_0 rfl rfl rfl) ?_
      refine va rfl rfl rfl (q_ldl (i := 0) (v := .slice none 0 0) rfl rfl Try.isAgg22 rfl rfl) ?_
      refine va rfl rfl rfl (q_move (v := .slice Alist list.length clist) rfl (by kernel_rfl)) ?_
      refine WR.sub (fun w hw => hw.pad) ?_
      obtain ⟨hk13, h⟩ := chk_some h
      refine e_append (T := intT) (xs := []) (ys := list) elem_22 (i := 0) rfl rfl rfl rfl (by kernel_rfl) rfl rfl (Own.nil intT Γ 3) (of_decide_eq_true hk13) (fun w hw => src_sl hlist hw) ?_
      intro row14 A15 c16 ho17
      refine va rfl rfl rfl (q_nil (A := some ⟨g12, 0, none⟩) rfl rfl rfl) ?_
      refine va rfl rfl rfl (q_fl 0 fld_76_0 rfl rfl rfl) ?_
      refine e_st (i := 1) (v := .slice A15 list.length c16) (new := #[.slice A15 list.length c16, .int .i64 need, .slice (some ⟨g3, 0, none⟩) list.length list.length, .slice (some ⟨g6, 0, none⟩) list.length list.length, .slice (some ⟨g9, 0, none⟩) list.length list.length]) rfl Try.sizeOf22 rfl rfl rfl rfl (by kernel_rfl) rfl rfl rfl rfl ?_
      refine WR.nil ?_
      change WC _ _ _ _ _ _
      refine WC.rs ?_
      refine va rfl rfl rfl (q_move (v := .pointer (some ⟨g12, 0, none⟩)) rfl (by kernel_rfl)) ?_
      refine va rfl rfl rfl (q_assign (v := .pointer (some ⟨g12, 0, none⟩)) rfl (by kernel_rfl)) ?_
      refine WR.nil ?_
      change WC _ _ _ _ _ _
      refine WC.ret ?_
      intro w hw
      obtain ⟨row_18, hrow_18, hob_18⟩ : ∃ rw : Rowb, rw = ([[(g12, .cells #[.slice A15 list.length c16, .int .i64 need, .slice (some ⟨g3, 0, none⟩) list.length list.length, .slice (some ⟨g6, 0, none⟩) list.length list.length, .slice (some ⟨g9, 0, none⟩) list.length list.length] 76 (0, 0))], row14, row4, row7, row10] : List Rowb).flatten ∧ Ofirthref16_Ask.ob 76 Γ g12 rw (⟨list, need, (List.replicate list.length false), (List.replicate list.length []), (List.replicate list.length [])⟩ : Ofirthref16_Ask) := ⟨_, rfl, A15, c16, row14, (some ⟨g3, 0, none⟩), list.length, row4, (some ⟨g6, 0, none⟩), list.length, row7, (some ⟨g9, 0, none⟩), list.length, row10, (by simp only [show _ = _ from List.length_replicate, show _ = _ from List.length_replicate, show _ = _ from List.length_replicate]), ho17, hneed, ho5, ho8, ho11, trivial⟩
      have hw := hw.fold (is := [1, 0, 2, 1, 0]) rfl hrow_18
      obtain rfl := Option.some.inj h
      subst hF
      exact end_e (is := [0]) (by kernel_rfl) hw rfl ⟨g12, row_18, rfl, rfl, hob_18, trivial⟩
    · refine ⟨_, rfl, ?_⟩
      refine e_makeSlice (T := (slT recT)) (n := list.length) (zx := []) (ti := Try.t41) (z := .slice none 0 0) Try.underlying74 (by kernel_rfl) (by kernel_rfl) (by kernel_rfl) (by exact ⟨none, 0, rfl, Nat.zero_le _, Sl.nil _ _ _⟩) (by decide) (of_decide_eq_true hk2) rfl rfl rfl rfl rfl rfl ?_
      intro g6 row7 ho8
      refine WR.nil ?_
      refine WH.next (fun w hw => hw.back (Gh.refl _) h01 (.cons _ (.cons _ .slnil))) ?_
      refine WH.lone (i := 4) (by kernel_rfl) rfl ?_
      refine e_makeSlice (T := (slT verT)) (n := list.length) (zx := []) (ti := Try.t40) (z := .slice none 0 0) Try.underlying53 (by kernel_rfl) (by kernel_rfl) (by kernel_rfl) (by exact ⟨none, 0, rfl, Nat.zero_le _, Sl.nil _ _ _⟩) (by decide) (of_decide_eq_true hk2) rfl rfl rfl rfl rfl rfl ?_
      intro g9 row10 ho11
      refine WR.nil ?_
      refine WH.next (fun w hw => hw.back (Gh.refl _) h01 (.cons _ (.cons _ (.cons _ .slnil)))) ?_
      refine ht (i := 7) rfl (by kernel_rfl) rfl rfl rfl (fun w hw => hw.back (Gh.refl _) h01 (.cons _ (.cons _ (.cons _ .slnil)))) (q_build' (v := .agg #[.slice none 0 0, .int .i64 need, .slice (some ⟨g3, 0, none⟩) list.length list.length, .slice (some ⟨g9, 0, none⟩) list.length list.length, .slice (some ⟨g6, 0, none⟩) list.length list.length]) rfl (bargs4 rfl rfl rfl rfl) (fun w => by kernel_rfl)) ?_
      refine WH.lone (i := 8) (by kernel_rfl) rfl ?_
      refine e_box (v := .agg #[.slice none 0 0, .int .i64 need, .slice (some ⟨g3, 0, none⟩) list.length list.length, .slice (some ⟨g9, 0, none⟩) list.length list.length, .slice (some ⟨g6, 0, none⟩) list.length list.length]) rfl rfl rfl rfl (by kernel_rfl) ?_
      intro g12
      refine WR.nil ?_
      refine WH.next (fun w hw => hw.back (Gh.refl _) h01 (.cons _ (.cons _ (.cons _ (.cons _ .slnil))))) ?_
      refine ht (i := 9) rfl (by kernel_rfl) rfl rfl rfl (fun w hw => hw.back (Gh.refl _) h01 (.cons _ (.cons _ (.cons _ (.cons _ .slnil))))) (q_assign (v := .pointer (some ⟨g12, 0, none⟩)) rfl (by kernel_rfl)) ?_
      refine WH.done (by kernel_rfl) ?_
      change WC _ _ _ _ _ _
      refine WC.rs ?_
      refine va rfl rfl rfl (q_move (v := .pointer (some ⟨g12, 0, none⟩)) rfl (by kernel_rfl)) ?_
      refine va rfl rfl rfl (q_move (v := .pointer (some ⟨g12, 0, none⟩)) rfl (by kernel_rfl)) ?_
      refine va rfl rfl rfl (q_nil (A := some ⟨g12, 0, none⟩) rfl rfl rfl) ?_
      refine va rfl rfl rfl (q_fl 0 fld_76_0 rfl rfl rfl) ?_
      refine va rfl rfl rfl (q_ldl (i := 0) (v := .slice none 0 0) rfl rfl Try.isAgg22 rfl rfl) ?_
      refine va rfl rfl rfl (q_move (v := .slice Alist list.length clist) rfl (by kernel_rfl)) ?_
      refine WR.sub (fun w hw => hw.pad) ?_
      obtain ⟨hk13, h⟩ := chk_some h
      refine e_append (T := intT) (xs := []) (ys := list) elem_22 (i := 0) rfl rfl rfl rfl (by kernel_rfl) rfl rfl (Own.nil intT Γ 3) (of_decide_eq_true hk13) (fun w hw => src_sl hlist hw) ?_
      intro row14 A15 c16 ho17
      refine va rfl rfl rfl (q_nil (A := some ⟨g12, 0, none⟩) rfl rfl rfl) ?_
      refine va rfl rfl rfl (q_fl 0 fld_76_0 rfl rfl rfl) ?_
      refine e_st (i := 1) (v := .slice A15 list.length c16) (new := #[.slice A15 list.length c16, .int .i64 need, .slice (some ⟨g3, 0, none⟩) list.length list.length, .slice (some ⟨g9, 0, none⟩) list.length list.length, .slice (some ⟨g6, 0, none⟩) list.length list.length]) rfl Try.sizeOf22 rfl rfl rfl rfl (by kernel_rfl) rfl rfl rfl rfl ?_
      refine WR.nil ?_
      change WC _ _ _ _ _ _
      refine WC.rs ?_
      refine va rfl rfl rfl (q_move (v := .pointer (some ⟨g12, 0, none⟩)) rfl (by kernel_rfl)) ?_
      refine va rfl rfl rfl (q_assign (v := .pointer (some ⟨g12, 0, none⟩)) rfl (by kernel_rfl)) ?_
      refine WR.nil ?_
      change WC _ _ _ _ _ _
      refine WC.ret ?_
      intro w hw
      obtain ⟨row_18, hrow_18, hob_18⟩ : ∃ rw : Rowb, rw = ([[(g12, .cells #[.slice A15 list.length c16, .int .i64 need, .slice (some ⟨g3, 0, none⟩) list.length list.length, .slice (some ⟨g9, 0, none⟩) list.length list.length, .slice (some ⟨g6, 0, none⟩) list.length list.length] 76 (0, 0))], row14, row4, row10, row7] : List Rowb).flatten ∧ Ofirthref16_Ask.ob 76 Γ g12 rw (⟨list, need, (List.replicate list.length false), (List.replicate list.length []), (List.replicate list.length [])⟩ : Ofirthref16_Ask) := ⟨_, rfl, A15, c16, row14, (some ⟨g3, 0, none⟩), list.length, row4, (some ⟨g9, 0, none⟩), list.length, row10, (some ⟨g6, 0, none⟩), list.length, row7, (by simp only [show _ = _ from List.length_replicate, show _ = _ from List.length_replicate, show _ = _ from List.length_replicate]), ho17, hneed, ho5, ho11, ho8, trivial⟩
      have hw := hw.fold (is := [1, 0, 2, 0, 0]) rfl hrow_18
      obtain rfl := Option.some.inj h
      subst hF
      exact end_e (is := [0]) (by kernel_rfl) hw rfl ⟨g12, row_18, rfl, rfl, hob_18, trivial⟩
  · refine ⟨_, rfl, ?_⟩
    refine e_makeSlice (T := (slT verT)) (n := list.length) (zx := []) (ti := Try.t40) (z := .slice none 0 0) Try.underlying53 (by kernel_rfl) (by kernel_rfl) (by kernel_rfl) (by exact ⟨none, 0, rfl, Nat.zero_le _, Sl.nil _ _ _⟩) (by decide) (of_decide_eq_true hk2) rfl rfl rfl rfl rfl rfl ?_
    intro g3 row4 ho5
    refine WR.nil ?_
    refine WH.next (fun w hw => hw.back (Gh.refl _) h01 (.cons _ .slnil)) ?_
    refine WH.each (l := [2, 6]) (by kernel_rfl) (by simp) ?_
    intro i hi; simp only [List.mem_cons, List.not_mem_nil, or_false] at hi
    rcases hi with rfl | rfl
    · refine ⟨_, rfl, ?_⟩
      refine e_makeSlice (T := boolT) (n := list.length) (zx := false) (ti := Try.t4) (z := .bool false) Try.underlying73 (by kernel_rfl) (by kernel_rfl) (by kernel_rfl) (by exact rfl) (by decide) (of_decide_eq_true hk2) rfl rfl rfl rfl rfl rfl ?_
      intro g6 row7 ho8
      refine WR.nil ?_
      refine WH.next (fun w hw => hw.back (Gh.refl _) h01 (.cons _ (.cons _ .slnil))) ?_
      refine WH.lone (i := 6) (by kernel_rfl) rfl ?_
      refine e_makeSlice (T := (slT recT)) (n := list.length) (zx := []) (ti := Try.t41) (z := .slice none 0 0) Try.underlying74 (by kernel_rfl) (by kernel_rfl) (by kernel_rfl) (by exact ⟨none, 0, rfl, Nat.zero_le _, Sl.nil _ _ _⟩) (by decide) (of_decide_eq_true hk2) rfl rfl rfl rfl rfl rfl ?_
      intro g9 row10 ho11
      refine WR.nil ?_
      refine WH.next (fun w hw => hw.back (Gh.refl _) h01 (.cons _ (.cons _ (.cons _ .slnil)))) ?_
      refine ht (i := 7) rfl (by kernel_rfl) rfl rfl rfl (fun w hw => hw.back (Gh.refl _) h01 (.cons _ (.cons _ (.cons _ .slnil)))) (q_build' (v := .agg #[.slice none 0 0, .int .i64 need, .slice (some ⟨g6, 0, none⟩) list.length list.length, .slice (some ⟨g3, 0, none⟩) list.length list.length, .slice (some ⟨g9, 0, none⟩) list.length list.length]) rfl (bargs4 rfl rfl rfl rfl) (fun w => by kernel_rfl)) ?_
      refine WH.lone (i := 8) (by kernel_rfl) rfl ?_
      refine e_box (v := .agg #[.slice none 0 0, .int .i64 need, .slice (some ⟨g6, 0, none⟩) list.length list.length, .slice (some ⟨g3, 0, none⟩) list.length list.length, .slice (some ⟨g9, 0, none⟩) list.length list.length]) rfl rfl rfl rfl (by kernel_rfl) ?_
      intro g12
      refine WR.nil ?_
      refine WH.next (fun w hw => hw.back (Gh.refl _) h01 (.cons _ (.cons _ (.cons _ (.cons _ .slnil))))) ?_
      refine ht (i := 9) rfl (by kernel_rfl) rfl rfl rfl (fun w hw => hw.back (Gh.refl _) h01 (.cons _ (.cons _ (.cons _ (.cons _ .slnil))))) (q_assign (v := .pointer (some ⟨g12, 0, none⟩)) rfl (by kernel_rfl)) ?_
      refine WH.done (by kernel_rfl) ?_
      change WC _ _ _ _ _ _
      refine WC.rs ?_
      refine va rfl rfl rfl (q_move (v := .pointer (some ⟨g12, 0, none⟩)) rfl (by kernel_rfl)) ?_
      refine va rfl rfl rfl (q_move (v := .pointer (some ⟨g12, 0, none⟩)) rfl (by kernel_rfl)) ?_
      refine va rfl rfl rfl (q_nil (A := some ⟨g12, 0, none⟩) rfl rfl rfl) ?_
      refine va rfl rfl rfl (q_fl 0 fld_76_0 rfl rfl rfl) ?_
      refine va rfl rfl rfl (q_ldl (i := 0) (v := .slice none 0 0) rfl rfl Try.isAgg22 rfl rfl) ?_
      refine va rfl rfl rfl (q_move (v := .slice Alist list.length clist) rfl (by kernel_rfl)) ?_
      refine WR.sub (fun w hw => hw.pad) ?_
      obtain ⟨hk13, h⟩ := chk_some h
      refine e_append (T := intT) (xs := []) (ys := list) elem_22 (i := 0) rfl rfl rfl rfl (by kernel_rfl) rfl rfl (Own.nil intT Γ 3) (of_decide_eq_true hk13) (fun w hw => src_sl hlist hw) ?_
      intro row14 A15 c16 ho17
      refine va rfl rfl rfl (q_nil (A := some ⟨g12, 0, none⟩) rfl rfl rfl) ?_
      refine va rfl rfl rfl (q_fl 0 fld_76_0 rfl rfl rfl) ?_
      refine e_st (i := 1) (v := .slice A15 list.length c16) (new := #[.slice A15 list.length c16, .int .i64 need, .slice (some ⟨g6, 0, none⟩) list.length list.length, .slice (some ⟨g3, 0, none⟩) list.length list.length, .slice (some ⟨g9, 0, none⟩) list.length list.length]) rfl Try.sizeOf22 rfl rfl rfl rfl (by kernel_rfl) rfl rfl rfl rfl ?_
      refine WR.nil ?_
      change WC _ _ _ _ _ _
      refine WC.rs ?_
      refine va rfl rfl rfl (q_move (v := .pointer (some ⟨g12, 0, none⟩)) rfl (by kernel_rfl)) ?_
      refine va rfl rfl rfl (q_assign (v := .pointer (some ⟨g12, 0, none⟩)) rfl (by kernel_rfl)) ?_
      refine WR.nil ?_
      change WC _ _ _ _ _ _
      refine WC.ret ?_
      intro w hw
      obtain ⟨row_18, hrow_18, hob_18⟩ : ∃ rw : Rowb, rw = ([[(g12, .cells #[.slice A15 list.length c16, .int .i64 need, .slice (some ⟨g6, 0, none⟩) list.length list.length, .slice (some ⟨g3, 0, none⟩) list.length list.length, .slice (some ⟨g9, 0, none⟩) list.length list.length] 76 (0, 0))], row14, row7, row4, row10] : List Rowb).flatten ∧ Ofirthref16_Ask.ob 76 Γ g12 rw (⟨list, need, (List.replicate list.length false), (List.replicate list.length []), (List.replicate list.length [])⟩ : Ofirthref16_Ask) := ⟨_, rfl, A15, c16, row14, (some ⟨g6, 0, none⟩), list.length, row7, (some ⟨g3, 0, none⟩), list.length, row4, (some ⟨g9, 0, none⟩), list.length, row10, (by simp only [show _ = _ from List.length_replicate, show _ = _ from List.length_replicate, show _ = _ from List.length_replicate]), ho17, hneed, ho8, ho5, ho11, trivial⟩
      have hw := hw.fold (is := [1, 0, 1, 1, 0]) rfl hrow_18
      obtain rfl := Option.some.inj h
      subst hF
      exact end_e (is := [0]) (by kernel_rfl) hw rfl ⟨g12, row_18, rfl, rfl, hob_18, trivial⟩
    · refine ⟨_, rfl, ?_⟩
      refine e_makeSlice (T := (slT recT)) (n := list.length) (zx := []) (ti := Try.t41) (z := .slice none 0 0) Try.underlying74 (by kernel_rfl) (by kernel_rfl) (by kernel_rfl) (by exact ⟨none, 0, rfl, Nat.zero_le _, Sl.nil _ _ _⟩) (by decide) (of_decide_eq_true hk2) rfl rfl rfl rfl rfl rfl ?_
      intro g6 row7 ho8
      refine WR.nil ?_
      refine WH.next (fun w hw => hw.back (Gh.refl _) h01 (.cons _ (.cons _ .slnil))) ?_
      refine WH.lone (i := 2) (by kernel_rfl) rfl ?_
      refine e_makeSlice (T := boolT) (n := list.length) (zx := false) (ti := Try.t4) (z := .bool false) Try.underlying73 (by kernel_rfl) (by kernel_rfl) (by kernel_rfl) (by exact rfl) (by decide) (of_decide_eq_true hk2) rfl rfl rfl rfl rfl rfl ?_
      intro g9 row10 ho11
      refine WR.nil ?_
      refine WH.next (fun w hw => hw.back (Gh.refl _) h01 (.cons _ (.cons _ (.cons _ .slnil)))) ?_
      refine ht (i := 7) rfl (by kernel_rfl) rfl rfl rfl (fun w hw => hw.back (Gh.refl _) h01 (.cons _ (.cons _ (.cons _ .slnil)))) (q_build' (v := .agg #[.slice none 0 0, .int .i64 need, .slice (some ⟨g9, 0, none⟩) list.length list.length, .slice (some ⟨g3, 0, none⟩) list.length list.length, .slice (some ⟨g6, 0, none⟩) list.length list.length]) rfl (bargs4 rfl rfl rfl rfl) (fun w => by kernel_rfl)) ?_
      refine WH.lone (i := 8) (by kernel_rfl) rfl ?_
      refine e_box (v := .agg #[.slice none 0 0, .int .i64 need, .slice (some ⟨g9, 0, none⟩) list.length list.length, .slice (some ⟨g3, 0, none⟩) list.length list.length, .slice (some ⟨g6, 0, none⟩) list.length list.length]) rfl rfl rfl rfl (by kernel_rfl) ?_
      intro g12
      refine WR.nil ?_
      refine WH.next (fun w hw => hw.back (Gh.refl _) h01 (.cons _ (.cons _ (.cons _ (.cons _ .slnil))))) ?_
      refine ht (i := 9) rfl (by kernel_rfl) rfl rfl rfl (fun w hw => hw.back (Gh.refl _) h01 (.cons _ (.cons _ (.cons _ (.cons _ .slnil))))) (q_assign (v := .pointer (some ⟨g12, 0, none⟩)) rfl (by kernel_rfl)) ?_
      refine WH.done (by kernel_rfl) ?_
      change WC _ _ _ _ _ _
      refine WC.rs ?_
      refine va rfl rfl rfl (q_move (v := .pointer (some ⟨g12, 0, none⟩)) rfl (by kernel_rfl)) ?_
      refine va rfl rfl rfl (q_move (v := .pointer (some ⟨g12, 0, none⟩)) rfl (by kernel_rfl)) ?_
      refine va rfl rfl rfl (q_nil (A := some ⟨g12, 0, none⟩) rfl rfl rfl) ?_
      refine va rfl rfl rfl (q_fl 0 fld_76_0 rfl rfl rfl) ?_
      refine va rfl rfl rfl (q_ldl (i := 0) (v := .slice none 0 0) rfl rfl Try.isAgg22 rfl rfl) ?_
      refine va rfl rfl rfl (q_move (v := .slice Alist list.length clist) rfl (by kernel_rfl)) ?_
      refine WR.sub (fun w hw => hw.pad) ?_
      obtain ⟨hk13, h⟩ := chk_some h
      refine e_append (T := intT) (xs := []) (ys := list) elem_22 (i := 0) rfl rfl rfl rfl (by kernel_rfl) rfl rfl (Own.nil intT Γ 3) (of_decide_eq_true hk13) (fun w hw => src_sl hlist hw) ?_
      intro row14 A15 c16 ho17
      refine va rfl rfl rfl (q_nil (A := some ⟨g12, 0, none⟩) rfl rfl rfl) ?_
      refine va rfl rfl rfl (q_fl 0 fld_76_0 rfl rfl rfl) ?_
      refine e_st (i := 1) (v := .slice A15 list.length c16) (new := #[.slice A15 list.length c16, .int .i64 need, .slice (some ⟨g9, 0, none⟩) list.length list.length, .slice (some ⟨g3, 0, none⟩) list.length list.length, .slice (some ⟨g6, 0, none⟩) list.length list.length]) rfl Try.sizeOf22 rfl rfl rfl rfl (by kernel_rfl) rfl rfl rfl rfl ?_
      refine WR.nil ?_
      change WC _ _ _ _ _ _
      refine WC.rs ?_
      refine va rfl rfl rfl (q_move (v := .pointer (some ⟨g12, 0, none⟩)) rfl (by kernel_rfl)) ?_
      refine va rfl rfl rfl (q_assign (v := .pointer (some ⟨g12, 0, none⟩)) rfl (by kernel_rfl)) ?_
      refine WR.nil ?_
      change WC _ _ _ _ _ _
      refine WC.ret ?_
      intro w hw
      obtain ⟨row_18, hrow_18, hob_18⟩ : ∃ rw : Rowb, rw = ([[(g12, .cells #[.slice A15 list.length c16, .int .i64 need, .slice (some ⟨g9, 0, none⟩) list.length list.length, .slice (some ⟨g3, 0, none⟩) list.length list.length, .slice (some ⟨g6, 0, none⟩) list.length list.length] 76 (0, 0))], row14, row10, row4, row7] : List Rowb).flatten ∧ Ofirthref16_Ask.ob 76 Γ g12 rw (⟨list, need, (List.replicate list.length false), (List.replicate list.length []), (List.replicate list.length [])⟩ : Ofirthref16_Ask) := ⟨_, rfl, A15, c16, row14, (some ⟨g9, 0, none⟩), list.length, row10, (some ⟨g3, 0, none⟩), list.length, row4, (some ⟨g6, 0, none⟩), list.length, row7, (by simp only [show _ = _ from List.length_replicate, show _ = _ from List.length_replicate, show _ = _ from List.length_replicate]), ho17, hneed, ho11, ho5, ho8, trivial⟩
      have hw := hw.fold (is := [1, 0, 0, 1, 0]) rfl hrow_18
      obtain rfl := Option.some.inj h
      subst hF
      exact end_e (is := [0]) (by kernel_rfl) hw rfl ⟨g12, row_18, rfl, rfl, hob_18, trivial⟩
  · refine ⟨_, rfl, ?_⟩
    refine e_makeSlice (T := (slT recT)) (n := list.length) (zx := []) (ti := Try.t41) (z := .slice none 0 0) Try.underlying74 (by kernel_rfl) (by kernel_rfl) (by kernel_rfl) (by exact ⟨none, 0, rfl, Nat.zero_le _, Sl.nil _ _ _⟩) (by decide) (of_decide_eq_true hk2) rfl rfl rfl rfl rfl rfl ?_
    intro g3 row4 ho5
    refine WR.nil ?_
    refine WH.next (fun w hw => hw.back (Gh.refl _) h01 (.cons _ .slnil)) ?_
    refine WH.each (l := [2, 4]) (by kernel_rfl) (by simp) ?_
    intro i hi; simp only [List.mem_cons, List.not_mem_nil, or_false] at hi
    rcases hi with rfl | rfl
    · refine ⟨_, rfl, ?_⟩
      refine e_makeSlice (T := boolT) (n := list.length) (zx := false) (ti := Try.t4) (z := .bool false) Try.underlying73 (by kernel_rfl) (by kernel_rfl) (by kernel_rfl) (by exact rfl) (by decide) (of_decide_eq_true hk2) rfl rfl rfl rfl rfl rfl ?_
      intro g6 row7 ho8
      refine WR.nil ?_
      refine WH.next (fun w hw => hw.back (Gh.refl _) h01 (.cons _ (.cons _ .slnil))) ?_
      refine WH.lone (i := 4) (by kernel_rfl) rfl ?_
      refine e_makeSlice (T := (slT verT)) (n := list.length) (zx := []) (ti := Try.t40) (z := .slice none 0 0) Try.underlying53 (by kernel_rfl) (by kernel_rfl) (by kernel_rfl) (by exact ⟨none, 0, rfl, Nat.zero_le _, Sl.nil _ _ _⟩) (by decide) (of_decide_eq_true hk2) rfl rfl rfl rfl rfl rfl ?_
      intro g9 row10 ho11
      refine WR.nil ?_
      refine WH.next (fun w hw => hw.back (Gh.refl _) h01 (.cons _ (.cons _ (.cons _ .slnil)))) ?_
      refine ht (i := 7) rfl (by kernel_rfl) rfl rfl rfl (fun w hw => hw.back (Gh.refl _) h01 (.cons _ (.cons _ (.cons _ .slnil)))) (q_build' (v := .agg #[.slice none 0 0, .int .i64 need, .slice (some ⟨g6, 0, none⟩) list.length list.length, .slice (some ⟨g9, 0, none⟩) list.length list.length, .slice (some ⟨g3, 0, none⟩) list.length list.length]) rfl (bargs4 rfl rfl rfl rfl) (fun w => by kernel_rfl)) ?_
      refine WH.lone (i := 8) (by kernel_rfl) rfl ?_
      refine e_box (v := .agg #[.slice none 0 0, .int .i64 need, .slice (some ⟨g6, 0, none⟩) list.length list.length, .slice (some ⟨g9, 0, none⟩) list.length list.length, .slice (some ⟨g3, 0, none⟩) list.length list.length]) rfl rfl rfl rfl (by kernel_rfl) ?_
      intro g12
      refine WR.nil ?_
      refine WH.next (fun w hw => hw.back (Gh.refl _) h01 (.cons _ (.cons _ (.cons _ (.cons _ .slnil))))) ?_
      refine ht (i := 9) rfl (by kernel_rfl) rfl rfl rfl (fun w hw => hw.back (Gh.refl _) h01 (.cons _ (.cons _ (.cons _ (.cons _ .slnil))))) (q_assign (v := .pointer (some ⟨g12, 0, none⟩)) rfl (by kernel_rfl)) ?_
      refine WH.done (by kernel_rfl) ?_
      change WC _ _ _ _ _ _
      refine WC.rs ?_
      refine va rfl rfl rfl (q_move (v := .pointer (some ⟨g12, 0, none⟩)) rfl (by kernel_rfl)) ?_
      refine va rfl rfl rfl (q_move (v := .pointer (some ⟨g12, 0, none⟩)) rfl (by kernel_rfl)) ?_
      refine va rfl rfl rfl (q_nil (A := some ⟨g12, 0, none⟩) rfl rfl rfl) ?_
      refine va rfl rfl rfl (q_fl 0 fld_76_0 rfl rfl rfl) ?_
      refine va rfl rfl rfl (q_ldl (i := 0) (v := .slice none 0 0) rfl rfl Try.isAgg22 rfl rfl) ?_
      refine va rfl rfl rfl (q_move (v := .slice Alist list.length clist) rfl (by kernel_rfl)) ?_
      refine WR.sub (fun w hw => hw.pad) ?_
      obtain ⟨hk13, h⟩ := chk_some h
      refine e_append (T := intT) (xs := []) (ys := list) elem_22 (i := 0) rfl rfl rfl rfl (by kernel_rfl) rfl rfl (Own.nil intT Γ 3) (of_decide_eq_true hk13) (fun w hw => src_sl hlist hw) ?_
      intro row14 A15 c16 ho17
      refine va rfl rfl rfl (q_nil (A := some ⟨g12, 0, none⟩) rfl rfl rfl) ?_
      refine va rfl rfl rfl (q_fl 0 fld_76_0 rfl rfl rfl) ?_
      refine e_st (i := 1) (v := .slice A15 list.length c16) (new := #[.slice A15 list.length c16, .int .i64 need, .slice (some ⟨g6, 0, none⟩) list.length list.length, .slice (some ⟨g9, 0, none⟩) list.length list.length, .slice (some ⟨g3, 0, none⟩) list.length list.length]) rfl Try.sizeOf22 rfl rfl rfl rfl (by kernel_rfl) rfl rfl rfl rfl ?_
      refine WR.nil ?_
      change WC _ _ _ _ _ _
      refine WC.rs ?_
      refine va rfl rfl rfl (q_move (v := .pointer (some ⟨g12, 0, none⟩)) rfl (by kernel_rfl)) ?_
      refine va rfl rfl rfl (q_assign (v := .pointer (some ⟨g12, 0, none⟩)) rfl (by kernel_rfl)) ?_
      refine WR.nil ?_
      change WC _ _ _ _ _ _
      refine WC.ret ?_
      intro w hw
      obtain ⟨row_18, hrow_18, hob_18⟩ : ∃ rw : Rowb, rw = ([[(g12, .cells #[.slice A15 list.length c16, .int .i64 need, .slice (some ⟨g6, 0, none⟩) list.length list.length, .slice (some ⟨g9, 0, none⟩) list.length list.length, .slice (some ⟨g3, 0, none⟩) list.length list.length] 76 (0, 0))], row14, row7, row10, row4] : List Rowb).flatten ∧ Ofirthref16_Ask.ob 76 Γ g12 rw (⟨list, need, (List.replicate list.length false), (List.replicate list.length []), (List.replicate list.length [])⟩ : Ofirthref16_Ask) := ⟨_, rfl, A15, c16, row14, (some ⟨g6, 0, none⟩), list.length, row7, (some ⟨g9, 0, none⟩), list.length, row10, (some ⟨g3, 0, none⟩), list.length, row4, (by simp only [show _ = _ from List.length_replicate, show _ = _ from List.length_replicate, show _ = _ from List.length_replicate]), ho17, hneed, ho8, ho11, ho5, trivial⟩
      have hw := hw.fold (is := [1, 0, 1, 0, 0]) rfl hrow_18
      obtain rfl := Option.some.inj h
      subst hF
      exact end_e (is := [0]) (by kernel_rfl) hw rfl ⟨g12, row_18, rfl, rfl, hob_18, trivial⟩
    · refine ⟨_, rfl, ?_⟩
      refine e_makeSlice (T := (slT verT)) (n := list.length) (zx := []) (ti := Try.t40) (z := .slice none 0 0) Try.underlying53 (by kernel_rfl) (by kernel_rfl) (by kernel_rfl) (by exact ⟨none, 0, rfl, Nat.zero_le _, Sl.nil _ _ _⟩) (by decide) (of_decide_eq_true hk2) rfl rfl rfl rfl rfl rfl ?_
      intro g6 row7 ho8
      refine WR.nil ?_
      refine WH.next (fun w hw => hw.back (Gh.refl _) h01 (.cons _ (.cons _ .slnil))) ?_
      refine WH.lone (i := 2) (by kernel_rfl) rfl ?_
      refine e_makeSlice (T := boolT) (n := list.length) (zx := false) (ti := Try.t4) (z := .bool false) Try.underlying73 (by kernel_rfl) (by kernel_rfl) (by kernel_rfl) (by exact rfl) (by decide) (of_decide_eq_true hk2) rfl rfl rfl rfl rfl rfl ?_
      intro g9 row10 ho11
      refine WR.nil ?_
      refine WH.next (fun w hw => hw.back (Gh.refl _) h01 (.cons _ (.cons _ (.cons _ .slnil)))) ?_
      refine ht (i := 7) rfl (by kernel_rfl) rfl rfl rfl (fun w hw => hw.back (Gh.refl _) h01 (.cons _ (.cons _ (.cons _ .slnil)))) (q_build' (v := .agg #[.slice none 0 0, .int .i64 need, .slice (some ⟨g9, 0, none⟩) list.length list.length, .slice (some ⟨g6, 0, none⟩) list.length list.length, .slice (some ⟨g3, 0, none⟩) list.length list.length]) rfl (bargs4 rfl rfl rfl rfl) (fun w => by kernel_rfl)) ?_
      refine WH.lone (i := 8) (by kernel_rfl) rfl ?_
      refine e_box (v := .agg #[.slice none 0 0, .int .i64 need, .slice (some ⟨g9, 0, none⟩) list.length list.length, .slice (some ⟨g6, 0, none⟩) list.length list.length, .slice (some ⟨g3, 0, none⟩) list.length list.length]) rfl rfl rfl rfl (by kernel_rfl) ?_
      intro g12
      refine WR.nil ?_
      refine WH.next (fun w hw => hw.back (Gh.refl _) h01 (.cons _ (.cons _ (.cons _ (.cons _ .slnil))))) ?_
      refine ht (i := 9) rfl (by kernel_rfl) rfl rfl rfl (fun w hw => hw.back (Gh.refl _) h01 (.cons _ (.cons _ (.cons _ (.cons _ .slnil))))) (q_assign (v := .pointer (some ⟨g12, 0, none⟩)) rfl (by kernel_rfl)) ?_
      refine WH.done (by kernel_rfl) ?_
      change WC _ _ _ _ _ _
      refine WC.rs ?_
      refine va rfl rfl rfl (q_move (v := .pointer (some ⟨g12, 0, none⟩)) rfl (by kernel_rfl)) ?_
      refine va rfl rfl rfl (q_move (v := .pointer (some ⟨g12, 0, none⟩)) rfl (by kernel_rfl)) ?_
      refine va rfl rfl rfl (q_nil (A := some ⟨g12, 0, none⟩) rfl rfl rfl) ?_
      refine va rfl rfl rfl (q_fl 0 fld_76_0 rfl rfl rfl) ?_
      refine va rfl rfl rfl (q_ldl (i := 0) (v := .slice none 0 0) rfl rfl Try.isAgg22 rfl rfl) ?_
      refine va rfl rfl rfl (q_move (v := .slice Alist list.length clist) rfl (by kernel_rfl)) ?_
      refine WR.sub (fun w hw => hw.pad) ?_
      obtain ⟨hk13, h⟩ := chk_some h
      refine e_append (T := intT) (xs := []) (ys := list) elem_22 (i := 0) rfl rfl rfl rfl (by kernel_rfl) rfl rfl (Own.nil intT Γ 3) (of_decide_eq_true hk13) (fun w hw => src_sl hlist hw) ?_
      intro row14 A15 c16 ho17
      refine va rfl rfl rfl (q_nil (A := some ⟨g12, 0, none⟩) rfl rfl rfl) ?_
      refine va rfl rfl rfl (q_fl 0 fld_76_0 rfl rfl rfl) ?_
      refine e_st (i := 1) (v := .slice A15 list.length c16) (new := #[.slice A15 list.length c16, .int .i64 need, .slice (some ⟨g9, 0, none⟩) list.length list.length, .slice (some ⟨g6, 0, none⟩) list.length list.length, .slice (some ⟨g3, 0, none⟩) list.length list.length]) rfl Try.sizeOf22 rfl rfl rfl rfl (by kernel_rfl) rfl rfl rfl rfl ?_
      refine WR.nil ?_
      change WC _ _ _ _ _ _
      refine WC.rs ?_
      refine va rfl rfl rfl (q_move (v := .pointer (some ⟨g12, 0, none⟩)) rfl (by kernel_rfl)) ?_
      refine va rfl rfl rfl (q_assign (v := .pointer (some ⟨g12, 0, none⟩)) rfl (by kernel_rfl)) ?_
      refine WR.nil ?_
      change WC _ _ _ _ _ _
      refine WC.ret ?_
      intro w hw
      obtain ⟨row_18, hrow_18, hob_18⟩ : ∃ rw : Rowb, rw = ([[(g12, .cells #[.slice A15 list.length c16, .int .i64 need, .slice (some ⟨g9, 0, none⟩) list.length list.length, .slice (some ⟨g6, 0, none⟩) list.length list.length, .slice (some ⟨g3, 0, none⟩) list.length list.length] 76 (0, 0))], row14, row10, row7, row4] : List Rowb).flatten ∧ Ofirthref16_Ask.ob 76 Γ g12 rw (⟨list, need, (List.replicate list.length false), (List.replicate list.length []), (List.replicate list.length [])⟩ : Ofirthref16_Ask) := ⟨_, rfl, A15, c16, row14, (some ⟨g9, 0, none⟩), list.length, row10, (some ⟨g6, 0, none⟩), list.length, row7, (some ⟨g3, 0, none⟩), list.length, row4, (by simp only [show _ = _ from List.length_replicate, show _ = _ from List.length_replicate, show _ = _ from List.length_replicate]), ho17, hneed, ho11, ho8, ho5, trivial⟩
      have hw := hw.fold (is := [1, 0, 0, 0, 0]) rfl hrow_18
      obtain rfl := Option.some.inj h
      subst hF
      exact end_e (is := [0]) (by kernel_rfl) hw rfl ⟨g12, row_18, rfl, rfl, hob_18, trivial⟩
set_option maxRecDepth 100000 in
set_option maxHeartbeats 400000 in
theorem t_firthref16_Ask_place {Γ : Gh} {w0 : World} {ga ea : Nat} {rowa : Rowb} {a : Ofirthref16_Ask} (ha : Ofirthref16_Ask.ob ea Γ ga rowa a) (har : ∀ p ∈ rowa, Γ p.1 = some p.2) (node : Int) (hnode : I64 node) (hs : Sat Γ w0) {r : Int} (h : m_firthref16_Ask_place a node = some r) : Calls Try.prog 37 #[.pointer (some ⟨ga, 0, none⟩), .int .i64 node] w0 (fun e w' => e = .returned (.int .i64 r) ∧ Fr no w0 w') := by
  refine calls_of (N := 35) (rs := [4]) (args := [.pointer (some ⟨ga, 0, none⟩), .int .i64 node]) Try.func37 rfl Try.ntmps37 Try.results37 rfl ?_
  obtain ⟨F, hF⟩ : ∃ F : Fm, F = ⟨no, w0, Γ⟩ := ⟨_, rfl⟩
  refine WC.here (C := CC F Γ []) ?_ (hF ▸ Cur.start0 hs)
  refine WC.rs ?_
  refine va rfl rfl rfl (q_assign (v := .int .i64 0) rfl (by kernel_rfl)) ?_
  refine WR.nil ?_
  change WC _ _ _ _ _ _
  refine WC.seq ?_
  refine WC.rs ?_
  refine va rfl rfl rfl (q_assign (v := .int .i64 0) rfl (by kernel_rfl)) ?_
  refine WR.nil ?_
  change WC _ _ _ _ _ _
  refine WC.block ?_
  refine WC.forI h (fun (i2 : Nat) (s : Unit) σ w => match s with | () => slots σ [(0, .pointer (some ⟨ga, 0, none⟩)), (1, .int .i64 node), (5, .int .i64 ((i2 : Nat) : Int))] ∧ CC F Γ [] w ∧ True) ?_ ?_
  · skip
    intro w hw
    exact ⟨(sl_ (by kernel_rfl)), hw, trivial⟩
  rintro f1 i2 ⟨⟩ σ w hi3 hlt4 hge5 ⟨hsl, hw, -⟩
  refine Wpt.slots hsl ?_
  refine WC.here (C := CC F Γ []) ?_ hw
  clear hw hsl
  refine WC.seq ?_
  refine WC.rs ?_
  refine va rfl rfl rfl (q_move (v := .int .i64 ((i2 : Nat) : Int)) rfl (by kernel_rfl)) ?_
  refine va rfl rfl rfl (q_move (v := .pointer (some ⟨ga, 0, none⟩)) rfl (by kernel_rfl)) ?_
  refine va rfl rfl rfl (q_nil (A := some ⟨ga, 0, none⟩) rfl rfl rfl) ?_
  refine va rfl rfl rfl (q_fl 0 fld_76_0 rfl rfl rfl) ?_
  have hq := ha
  obtain ⟨A0_6, c0_6, r0_6, A2_6, c2_6, r2_6, A3_6, c3_6, r3_6, A4_6, c4_6, r4_6, hrow_6, ho0_6, ho1_6, ho2_6, ho3_6, ho4_6, -⟩ := hq
  have hg_7 : ∀ u ∈ ([[(ga, .cells #[.slice A0_6 a.list.length c0_6, .int .i64 a.need, .slice A2_6 a.in_.length c2_6, .slice A3_6 a.vers.length c3_6, .slice A4_6 a.recs.length c4_6] ea (0, 0))], r0_6, r2_6, r3_6, r4_6] : List Rowb), ∀ p ∈ u, Γ p.1 = some p.2 := fun u hu p hp => (fun p hp => (har p hp)) p (hrow_6 ▸ List.mem_flatten.2 ⟨u, hu, hp⟩)
  have hgc8 := hg_7 _ (List.mem_cons_self ..) (ga, _) (List.mem_singleton.2 rfl)
  have hgs9 := hg_7 r0_6 (by simp)
  have hgs10 := hg_7 r2_6 (by simp)
  have hgs11 := hg_7 r3_6 (by simp)
  have hgs12 := hg_7 r4_6 (by simp)
  have hs13 := ho0_6.sl (Gh.refl _) hgs9
  have hs14 := ho2_6.sl (Gh.refl _) hgs10
  have hs15 := ho3_6.sl (Gh.refl _) hgs11
  have hs16 := ho4_6.sl (Gh.refl _) hgs12
  refine va rfl rfl rfl (q_ldg (v := .slice A0_6 a.list.length c0_6) hgc8 rfl Try.isAgg22 rfl rfl) ?_
  refine va rfl rfl rfl (q_len_slice rfl Try.underlying22 rfl) ?_
  refine va rfl rfl rfl (q_lss rfl rfl rfl) ?_
  refine WR.nil ?_
  change WC _ _ _ _ _ _
  refine WC.cond (b := (decide (((i2 : Nat) : Int) < ((a.list.length : Nat) : Int)))) (by kernel_rfl) (fun hb17 => ?_) (fun hb17 => ?_)
  · skip
    have hl18 := ilt hb17
    have h := hlt4 hl18
    refine WC.skip ?_
    change WC _ _ _ _ _ _
    refine WC.seq ?_
    refine WC.block ?_
    refine WC.rs ?_
    refine va rfl rfl rfl (q_move (v := .pointer (some ⟨ga, 0, none⟩)) rfl (by kernel_rfl)) ?_
    refine va rfl rfl rfl (q_nil (A := some ⟨ga, 0, none⟩) rfl rfl rfl) ?_
    refine va rfl rfl rfl (q_fl 0 fld_76_0 rfl rfl rfl) ?_
    refine va rfl rfl rfl (q_ldg (v := .slice A0_6 a.list.length c0_6) hgc8 rfl Try.isAgg22 rfl rfl) ?_
    refine va rfl rfl rfl (q_move (v := .int .i64 ((i2 : Nat) : Int)) rfl (by kernel_rfl)) ?_
    refine va rfl rfl rfl (q_ixn (i := i2) Try.underlying22 Try.sizeOf3 rfl rfl rfl hl18 (hs13.some_ hl18)) ?_
    refine va rfl rfl rfl (q_ld (c := 0) (v := .int .i64 (gt a.list i2)) (hs13.intT_at hl18).2 rfl Try.isAgg3 rfl rfl) ?_
    refine va rfl rfl rfl (q_move (v := .int .i64 node) rfl (by kernel_rfl)) ?_
    refine va rfl rfl rfl (q_eql rfl rfl rfl) ?_
    refine va rfl rfl rfl (q_move (v := .bool ((gt a.list i2) == node)) rfl (by kernel_rfl)) ?_
    refine vg1 rfl rfl rfl rfl rfl (fun hg19 => QV.qo (q_move (v := .pointer (some ⟨ga, 0, none⟩)) rfl (by kernel_rfl))) ?_
    refine vg1 rfl rfl rfl rfl rfl (fun hg20 => QV.qo (q_nil (A := some ⟨ga, 0, none⟩) rfl (gu hg20 rfl) rfl)) ?_
    refine vg1 rfl rfl rfl rfl rfl (fun hg21 => QV.qo (q_fl 2 fld_76_2 rfl (gu hg21 rfl) rfl)) ?_
    refine vg1 rfl rfl rfl rfl rfl (fun hg22 => QV.qo (q_ldg (v := .slice A2_6 a.in_.length c2_6) hgc8 rfl Try.isAgg73 (gu hg22 rfl) rfl)) ?_
    refine vg1 rfl rfl rfl rfl rfl (fun hg23 => QV.qo (q_move (v := .int .i64 ((i2 : Nat) : Int)) rfl (by kernel_rfl))) ?_
    obtain ⟨hk25, h⟩ := chk_some h
    refine vg1 rfl rfl rfl rfl rfl (fun hg24 => QV.qo (q_ixn (i := i2) Try.underlying73 Try.sizeOf4 rfl (gu hg24 rfl) (gu hg24 rfl) (of_decide_eq_true (imp_of hk25 hg24)) (hs14.some_ (of_decide_eq_true (imp_of hk25 hg24))))) ?_
    refine vg1 rfl rfl rfl rfl rfl (fun hg26 => QV.qo (q_ld (c := 0) (v := .bool (gt a.in_ i2)) (hs14.boolT_at (of_decide_eq_true (imp_of hk25 hg26))).2 rfl Try.isAgg4 (gu hg26 rfl) rfl)) ?_
    refine vg1 rfl rfl rfl rfl rfl (fun hg27 => QV.qo (q_not rfl (gu hg27 rfl))) ?_
    refine va rfl rfl rfl (q_pick rfl rfl (pk_and' (g := ((gt a.list i2) == node)) (y := (!(gt a.in_ i2))))) ?_
    refine WR.nil ?_
    change WC _ _ _ _ _ _
    refine WC.cif h (by kernel_rfl) (fun hb28 h => ?_) (fun hb28 h => ?_)
    · skip
      refine WC.rs ?_
      refine va rfl rfl rfl (q_move (v := .int .i64 ((i2 : Nat) : Int)) rfl (by kernel_rfl)) ?_
      refine va rfl rfl rfl (q_assign (v := .int .i64 ((i2 : Nat) : Int)) rfl (by kernel_rfl)) ?_
      refine WR.nil ?_
      change WC _ _ _ _ _ _
      refine WC.ret ?_
      intro w hw
      obtain rfl := Option.some.inj h
      subst hF
      exact ⟨by kernel_rfl, hw.fr⟩
    · skip
      refine WC.skip ?_
      change WC _ _ _ _ _ _
      refine WC.region ?_
      refine va rfl rfl rfl (q_move (v := .int .i64 ((i2 : Nat) : Int)) rfl (by kernel_rfl)) ?_
      refine va rfl rfl rfl (q_add_r (r := ((i2 + 1 : Nat) : Int)) rfl rfl rfl (ctr_len hl18 hs13.le)) ?_
      refine va rfl rfl rfl (q_assign (v := .int .i64 ((i2 + 1 : Nat) : Int)) rfl (by kernel_rfl)) ?_
      refine WR.nil ?_
      intro w hw
      exact ⟨hl18, (), h, (sl_ (by kernel_rfl)), hw, trivial⟩
  · skip
    have h := hge5 (ige hb17)
    refine WC.exit ?_
    change WC _ _ _ _ _ _
    refine WC.rs ?_
    refine va rfl rfl rfl (q_assign (v := .int .i64 (-1)) rfl (by kernel_rfl)) ?_
    refine WR.nil ?_
    change WC _ _ _ _ _ _
    refine WC.ret ?_
    intro w hw
    obtain rfl := Option.some.inj h
    subst hF
    exact ⟨by kernel_rfl, hw.fr⟩
abbrev r_firthref16_Ask_Waits (ga ea : Nat) (rowa : Rowb) (r : List Int) (U : List Rowb) (Γ : Gh) (v : Value) : Prop := ∃ (A0 : Option Addr), ∃ (c0 : Nat), ∃ (row0 : Rowb), v = .slice A0 r.length c0 ∧ U = [rowa, row0] ∧ Own intT Γ 3 row0 A0 c0 r ∧ True
set_option maxRecDepth 100000 in
set_option maxHeartbeats 400000 in
theorem t_firthref16_Ask_Waits {Γ : Gh} {w0 : World} {ga ea : Nat} {rowa : Rowb} {a : Ofirthref16_Ask} (ha : Ofirthref16_Ask.ob ea Γ ga rowa a) (hp : Pre [rowa] Γ w0) {r : List Int} (h : m_firthref16_Ask_Waits a = some r) : Calls Try.prog 17 #[.pointer (some ⟨ga, 0, none⟩)] w0 (Outc Γ [rowa] w0 (r_firthref16_Ask_Waits ga ea rowa r)) := by
  refine calls_of (N := 33) (rs := [2]) (args := [.pointer (some ⟨ga, 0, none⟩)]) Try.func17 rfl Try.ntmps17 Try.results17 rfl ?_
  obtain ⟨F, hF⟩ : ∃ F : Fm, F = ⟨ids [rowa], w0, Γ⟩ := ⟨_, rfl⟩
  refine WC.here (C := CC F Γ [rowa]) ?_ (hF ▸ hp.start)
  refine WC.rs ?_
  refine va rfl rfl rfl (q_assign (v := .slice none 0 0) rfl (by kernel_rfl)) ?_
  refine WR.nil ?_
  change WC _ _ _ _ _ _
  refine WC.rs ?_
  refine va rfl rfl rfl (q_assign (v := .slice none 0 0) rfl (by kernel_rfl)) ?_
  refine WR.nil ?_
  change WC _ _ _ _ _ _
  refine WC.seq ?_
  refine WC.rs ?_
  refine va rfl rfl rfl (q_assign (v := .int .i64 0) rfl (by kernel_rfl)) ?_
  refine WR.nil ?_
  change WC _ _ _ _ _ _
  refine WC.block ?_
  refine WC.forI h (fun (i7 : Nat) (out_1 : List Int) σ w => ∃ (A2 : Option Addr), ∃ (c3 : Nat), ∃ (row4 : Rowb), slots σ [(0, .pointer (some ⟨ga, 0, none⟩)), (3, .slice A2 out_1.length c3), (4, .int .i64 ((i7 : Nat) : Int))] ∧ CC F Γ [row4, rowa] w ∧ Own intT Γ 3 row4 A2 c3 out_1 ∧ True) ?_ ?_
  · skip
    intro w hw
    have hw := hw.pad
    exact ⟨none, 0, [], (sl_ (by kernel_rfl)), hw, (Own.nil intT _ 3), trivial⟩
  rintro f6 i7 out_1 σ w hi8 hlt9 hge10 ⟨A2, c3, row4, hsl, hw, ho5, -⟩
  refine Wpt.slots hsl ?_
  refine WC.here (C := CC F Γ [row4, rowa]) ?_ hw
  clear hw hsl
  refine WC.seq ?_
  refine WC.rs ?_
  refine va rfl rfl rfl (q_move (v := .int .i64 ((i7 : Nat) : Int)) rfl (by kernel_rfl)) ?_
  refine va rfl rfl rfl (q_move (v := .pointer (some ⟨ga, 0, none⟩)) rfl (by kernel_rfl)) ?_
  refine va rfl rfl rfl (q_nil (A := some ⟨ga, 0, none⟩) rfl rfl rfl) ?_
  refine va rfl rfl rfl (q_fl 0 fld_76_0 rfl rfl rfl) ?_
  have hq := ha
  obtain ⟨A0_11, c0_11, r0_11, A2_11, c2_11, r2_11, A3_11, c3_11, r3_11, A4_11, c4_11, r4_11, hrow_11, ho0_11, ho1_11, ho2_11, ho3_11, ho4_11, -⟩ := hq
  intro w hw; have hw := hw.unfold (i := 1) rfl hrow_11
  refine WR.here (C := CC F Γ [[(ga, .cells #[.slice A0_11 a.list.length c0_11, .int .i64 a.need, .slice A2_11 a.in_.length c2_11, .slice A3_11 a.vers.length c3_11, .slice A4_11 a.recs.length c4_11] ea (0, 0))], r0_11, r2_11, r3_11, r4_11, row4]) ?_ hw
  clear hw
  refine va rfl rfl rfl (q_ldl (i := 0) (v := .slice A0_11 a.list.length c0_11) rfl rfl Try.isAgg22 rfl rfl) ?_
  refine va rfl rfl rfl (q_len_slice rfl Try.underlying22 rfl) ?_
  refine va rfl rfl rfl (q_lss rfl rfl rfl) ?_
  refine WR.nil ?_
  change WC _ _ _ _ _ _
  refine WC.cond (b := (decide (((i7 : Nat) : Int) < ((a.list.length : Nat) : Int)))) (by kernel_rfl) (fun hb12 => ?_) (fun hb12 => ?_)
  · skip
    have hl13 := ilt hb12
    have h := hlt9 hl13
    refine WC.skip ?_
    change WC _ _ _ _ _ _
    intro w hw; have hw := hw.fold (is := [0, 0, 0, 0, 0]) rfl hrow_11
    refine WC.here (C := CC F Γ [rowa, row4]) ?_ hw
    clear hw
    refine WC.cut (fun σ w => ∃ (out_15 : List Int), ∃ (A16 : Option Addr), ∃ (c17 : Nat), ∃ (row18 : Rowb), m_firthref16_Ask_Waits_j5 f6 out_15 = some r ∧ slots σ [(0, .pointer (some ⟨ga, 0, none⟩)), (3, .slice A16 out_15.length c17), (4, .int .i64 ((i7 : Nat) : Int))] ∧ CC F Γ [row18, rowa] w ∧ Own intT Γ 3 row18 A16 c17 out_15 ∧ True) ?_ ?_
    · skip
      refine WC.block ?_
      refine WC.rs ?_
      refine va rfl rfl rfl (q_move (v := .pointer (some ⟨ga, 0, none⟩)) rfl (by kernel_rfl)) ?_
      refine va rfl rfl rfl (q_nil (A := some ⟨ga, 0, none⟩) rfl rfl rfl) ?_
      refine va rfl rfl rfl (q_fl 2 fld_76_2 rfl rfl rfl) ?_
      have hq := ha
      obtain ⟨A0_20, c0_20, r0_20, A2_20, c2_20, r2_20, A3_20, c3_20, r3_20, A4_20, c4_20, r4_20, hrow_20, ho0_20, ho1_20, ho2_20, ho3_20, ho4_20, -⟩ := hq
      intro w hw; have hw := hw.unfold (i := 0) rfl hrow_20
      refine WR.here (C := CC F Γ [[(ga, .cells #[.slice A0_20 a.list.length c0_20, .int .i64 a.need, .slice A2_20 a.in_.length c2_20, .slice A3_20 a.vers.length c3_20, .slice A4_20 a.recs.length c4_20] ea (0, 0))], r0_20, r2_20, r3_20, r4_20, row4]) ?_ hw
      clear hw
      refine va rfl rfl rfl (q_ldl (i := 0) (v := .slice A2_20 a.in_.length c2_20) rfl rfl Try.isAgg73 rfl rfl) ?_
      refine va rfl rfl rfl (q_move (v := .int .i64 ((i7 : Nat) : Int)) rfl (by kernel_rfl)) ?_
      obtain ⟨hk21, h⟩ := chk_some h
      refine va rfl rfl rfl (q_ixn (i := i7) Try.underlying73 Try.sizeOf4 rfl rfl rfl (of_decide_eq_true hk21) (ho2_20.some_ (of_decide_eq_true hk21))) ?_
      refine va rfl rfl rfl (q_ldo (c := 0) (v := .bool (gt a.in_ i7)) (i := 2) rfl (ho2_20.boolT_at (of_decide_eq_true hk21)).2 rfl Try.isAgg4 rfl rfl) ?_
      refine va rfl rfl rfl (q_not rfl rfl) ?_
      refine WR.nil ?_
      change WC _ _ _ _ _ _
      refine WC.cif h (by kernel_rfl) (fun hb22 h => ?_) (fun hb22 h => ?_)
      · skip
        refine WC.region ?_
        refine va rfl rfl rfl (q_move (v := .slice A2 out_1.length c3) rfl (by kernel_rfl)) ?_
        refine va rfl rfl rfl (q_move (v := .pointer (some ⟨ga, 0, none⟩)) rfl (by kernel_rfl)) ?_
        refine va rfl rfl rfl (q_nil (A := some ⟨ga, 0, none⟩) rfl rfl rfl) ?_
        refine va rfl rfl rfl (q_fl 0 fld_76_0 rfl rfl rfl) ?_
        refine va rfl rfl rfl (q_ldl (i := 0) (v := .slice A0_20 a.list.length c0_20) rfl rfl Try.isAgg22 rfl rfl) ?_
        refine va rfl rfl rfl (q_move (v := .int .i64 ((i7 : Nat) : Int)) rfl (by kernel_rfl)) ?_
        refine va rfl rfl rfl (q_ixn (i := i7) Try.underlying22 Try.sizeOf3 rfl rfl rfl hl13 (ho0_20.some_ hl13)) ?_
        refine va rfl rfl rfl (q_ldo (c := 0) (v := .int .i64 (gt a.list i7)) (i := 1) rfl (ho0_20.intT_at hl13).2 rfl Try.isAgg3 rfl rfl) ?_
        refine e_buildSlice (cs := #[.int .i64 (gt a.list i7)]) (e := 3) rfl rfl rfl rfl (fun w => by kernel_rfl) ?_
        intro g23
        obtain ⟨hk24, h⟩ := chk_some h
        refine e_append (T := intT) (xs := out_1) (ys := [(gt a.list i7)]) elem_22 (i := 6) rfl rfl rfl rfl rfl rfl rfl ho5 (of_decide_eq_true hk24) (fun w hw => src_one (T := intT) (y := (gt a.list i7)) (i := 0) rfl (by exact ⟨rfl, (ho0_20.intT_at hl13).1⟩) hw) ?_
        intro row25 A26 c27 ho28
        refine va rfl rfl rfl (q_assign (v := .slice A26 (out_1 ++ [(gt a.list i7)]).length c27) rfl (by kernel_rfl)) ?_
        refine WR.nil ?_
        intro w hw
        have hw := hw.fold (is := [1, 1, 1, 1, 1]) rfl hrow_20
        exact ⟨(out_1 ++ [(gt a.list i7)]), A26, c27, row25, h, (sl_ (by kernel_rfl)), (hw.only (is := [2, 0]) rfl), ho28, trivial⟩
      · skip
        refine WC.skip ?_
        intro w hw
        have hw := hw.fold (is := [0, 0, 0, 0, 0]) rfl hrow_20
        exact ⟨out_1, A2, c3, row4, h, (sl_ (by kernel_rfl)), (hw.only (is := [1, 0]) rfl), ho5, trivial⟩
    · skip
      rintro σ w ⟨out_15, A16, c17, row18, h, hsl, hw, ho19, -⟩
      refine Wpt.slots hsl ?_
      refine WC.here (C := CC F Γ [row18, rowa]) ?_ hw
      clear hw hsl
      refine WC.region ?_
      refine va rfl rfl rfl (q_move (v := .int .i64 ((i7 : Nat) : Int)) rfl (by kernel_rfl)) ?_
      refine va rfl rfl rfl (q_add_r (r := ((i7 + 1 : Nat) : Int)) rfl rfl rfl (ctr_len hl13 ho0_11.le)) ?_
      refine va rfl rfl rfl (q_assign (v := .int .i64 ((i7 + 1 : Nat) : Int)) rfl (by kernel_rfl)) ?_
      refine WR.nil ?_
      intro w hw
      exact ⟨hl13, out_15, h, A16, c17, row18, (sl_ (by kernel_rfl)), hw, ho19, trivial⟩
  · skip
    have h := hge10 (ige hb12)
    refine WC.exit ?_
    change WC _ _ _ _ _ _
    refine WC.rs ?_
    refine va rfl rfl rfl (q_move (v := .slice A2 out_1.length c3) rfl (by kernel_rfl)) ?_
    refine va rfl rfl rfl (q_assign (v := .slice A2 out_1.length c3) rfl (by kernel_rfl)) ?_
    refine WR.nil ?_
    change WC _ _ _ _ _ _
    refine WC.ret ?_
    intro w hw
    have hw := hw.fold (is := [0, 0, 0, 0, 0]) rfl hrow_11
    obtain rfl := Option.some.inj h
    subst hF
    exact end_e (is := [0, 0]) (by kernel_rfl) hw rfl ⟨A2, c3, row4, rfl, rfl, ho5, trivial⟩
abbrev r_firthref16_Ask_Done (ga ea : Nat) (rowa : Rowb) (r : Bool) (U : List Rowb) (Γ : Gh) (v : Value) : Prop := v = .bool r ∧ U = [rowa] ∧ True
set_option maxRecDepth 100000 in
set_option maxHeartbeats 400000 in
theorem t_firthref16_Ask_Done {Γ : Gh} {w0 : World} {ga ea : Nat} {rowa : Rowb} {a : Ofirthref16_Ask} (ha : Ofirthref16_Ask.ob ea Γ ga rowa a) (hp : Pre [rowa] Γ w0) {r : Bool} (h : m_firthref16_Ask_Done a = some r) : Calls Try.prog 14 #[.pointer (some ⟨ga, 0, none⟩)] w0 (Outc Γ [rowa] w0 (r_firthref16_Ask_Done ga ea rowa r)) := by
  refine calls_of (N := 17) (rs := [2]) (args := [.pointer (some ⟨ga, 0, none⟩)]) Try.func14 rfl Try.ntmps14 Try.results14 rfl ?_
  obtain ⟨F, hF⟩ : ∃ F : Fm, F = ⟨ids [rowa], w0, Γ⟩ := ⟨_, rfl⟩
  refine WC.here (C := CC F Γ [rowa]) ?_ (hF ▸ hp.start)
  refine WC.rs ?_
  refine va rfl rfl rfl (q_assign (v := .bool false) rfl (by kernel_rfl)) ?_
  refine WR.nil ?_
  change WC _ _ _ _ _ _
  refine WC.seq ?_
  have hq := ha
  obtain ⟨A0_1, c0_1, r0_1, A2_1, c2_1, r2_1, A3_1, c3_1, r3_1, A4_1, c4_1, r4_1, hrow_1, ho0_1, ho1_1, ho2_1, ho3_1, ho4_1, -⟩ := hq
  intro w hw; have hw := hw.unfold (i := 0) rfl hrow_1
  refine WC.here (C := CC F Γ [[(ga, .cells #[.slice A0_1 a.list.length c0_1, .int .i64 a.need, .slice A2_1 a.in_.length c2_1, .slice A3_1 a.vers.length c3_1, .slice A4_1 a.recs.length c4_1] ea (0, 0))], r0_1, r2_1, r3_1, r4_1]) ?_ hw
  clear hw
  intro w hw; have h02 := hw.le
  refine WC.here (C := CC F Γ [[(ga, .cells #[.slice A0_1 a.list.length c0_1, .int .i64 a.need, .slice A2_1 a.in_.length c2_1, .slice A3_1 a.vers.length c3_1, .slice A4_1 a.recs.length c4_1] ea (0, 0))], r0_1, r2_1, r3_1, r4_1]) ?_ hw; clear hw
  refine WC.held (CC F Γ [[(ga, .cells #[.slice A0_1 a.list.length c0_1, .int .i64 a.need, .slice A2_1 a.in_.length c2_1, .slice A3_1 a.vers.length c3_1, .slice A4_1 a.recs.length c4_1] ea (0, 0))], r0_1, r2_1, r3_1, r4_1]) (by kernel_rfl) (fun w hw => hw.drawn _) ?_
  change WH _ _ _ _ (CC F Γ [[(ga, .cells #[.slice A0_1 a.list.length c0_1, .int .i64 a.need, .slice A2_1 a.in_.length c2_1, .slice A3_1 a.vers.length c3_1, .slice A4_1 a.recs.length c4_1] ea (0, 0))], r0_1, r2_1, r3_1, r4_1]) _ 15 #[false, false, false, false, false, false, false, false, false, false, false, false, false, false, false] _
  refine ht (i := 0) rfl (by kernel_rfl) rfl rfl rfl (fun w hw => hw.back (Gh.refl _) h02 (.cons_cons _ (.cons_cons _ (.cons_cons _ (.cons_cons _ (.cons_cons _ .slnil)))))) (q_move (v := .pointer (some ⟨ga, 0, none⟩)) rfl (by kernel_rfl)) ?_
  refine ht (i := 1) rfl (by kernel_rfl) rfl rfl rfl (fun w hw => hw.back (Gh.refl _) h02 (.cons_cons _ (.cons_cons _ (.cons_cons _ (.cons_cons _ (.cons_cons _ .slnil)))))) (q_nil (A := some ⟨ga, 0, none⟩) rfl rfl rfl) ?_
  refine ht (i := 2) rfl (by kernel_rfl) rfl rfl rfl (fun w hw => hw.back (Gh.refl _) h02 (.cons_cons _ (.cons_cons _ (.cons_cons _ (.cons_cons _ (.cons_cons _ .slnil)))))) (q_fl 0 fld_76_0 rfl rfl rfl) ?_
  refine ht (i := 3) rfl (by kernel_rfl) rfl rfl rfl (fun w hw => hw.back (Gh.refl _) h02 (.cons_cons _ (.cons_cons _ (.cons_cons _ (.cons_cons _ (.cons_cons _ .slnil)))))) (q_ldl (i := 0) (v := .slice A0_1 a.list.length c0_1) rfl rfl Try.isAgg22 rfl rfl) ?_
  refine ht (i := 4) rfl (by kernel_rfl) rfl rfl rfl (fun w hw => hw.back (Gh.refl _) h02 (.cons_cons _ (.cons_cons _ (.cons_cons _ (.cons_cons _ (.cons_cons _ .slnil)))))) (q_len_slice rfl Try.underlying22 rfl) ?_
  refine ht (i := 5) rfl (by kernel_rfl) rfl rfl rfl (fun w hw => hw.back (Gh.refl _) h02 (.cons_cons _ (.cons_cons _ (.cons_cons _ (.cons_cons _ (.cons_cons _ .slnil)))))) (q_move (v := .pointer (some ⟨ga, 0, none⟩)) rfl (by kernel_rfl)) ?_
  refine ht (i := 9) rfl (by kernel_rfl) rfl rfl rfl (fun w hw => hw.back (Gh.refl _) h02 (.cons_cons _ (.cons_cons _ (.cons_cons _ (.cons_cons _ (.cons_cons _ .slnil)))))) (q_move (v := .pointer (some ⟨ga, 0, none⟩)) rfl (by kernel_rfl)) ?_
  refine ht (i := 10) rfl (by kernel_rfl) rfl rfl rfl (fun w hw => hw.back (Gh.refl _) h02 (.cons_cons _ (.cons_cons _ (.cons_cons _ (.cons_cons _ (.cons_cons _ .slnil)))))) (q_nil (A := some ⟨ga, 0, none⟩) rfl rfl rfl) ?_
  refine ht (i := 11) rfl (by kernel_rfl) rfl rfl rfl (fun w hw => hw.back (Gh.refl _) h02 (.cons_cons _ (.cons_cons _ (.cons_cons _ (.cons_cons _ (.cons_cons _ .slnil)))))) (q_fl 1 fld_76_1 rfl rfl rfl) ?_
  refine ht (i := 12) rfl (by kernel_rfl) rfl rfl rfl (fun w hw => hw.back (Gh.refl _) h02 (.cons_cons _ (.cons_cons _ (.cons_cons _ (.cons_cons _ (.cons_cons _ .slnil)))))) (q_ldl (i := 0) (v := .int .i64 a.need) rfl rfl Try.isAgg3 rfl rfl) ?_
  refine WH.lone (i := 6) (by kernel_rfl) rfl ?_
  intro w hw; have hw := hw.fold (is := [0, 0, 0, 0, 0]) rfl hrow_1
  refine WR.here (C := CC F Γ [rowa]) ?_ hw
  clear hw
  obtain ⟨z4, hz5, h⟩ := bnd h
  refine e_call (is := [0]) rfl rfl (call_run Try.call17 rfl rfl (by kernel_rfl)) rfl (fun w hp => t_firthref16_Ask_Waits ha hp hz5) ?_
  rintro Γ6 U8 v9 hl7 ⟨A10, c11, row12, rfl, rfl, hr13, _⟩
  change WR _ _ _ (CC F Γ6 [rowa, row12]) _ _ (upd _ 9 (.slice A10 z4.length c11))
  refine WR.nil ?_
  refine WH.next (fun w hw => (hw.unfold (i := 0) rfl hrow_1).back hl7 h02 (.cons_cons _ (.cons_cons _ (.cons_cons _ (.cons_cons _ (.cons_cons _ (.cons _ .slnil))))))) ?_
  refine WH.lone (i := 7) (by kernel_rfl) rfl ?_
  refine va rfl rfl rfl (q_len_slice rfl Try.underlying22 rfl) ?_
  refine WR.nil ?_
  refine WH.next (fun w hw => (hw.unfold (i := 0) rfl hrow_1).back hl7 h02 (.cons_cons _ (.cons_cons _ (.cons_cons _ (.cons_cons _ (.cons_cons _ (.cons _ .slnil))))))) ?_
  refine ht (i := 8) rfl (by kernel_rfl) rfl rfl rfl (fun w hw => (hw.unfold (i := 0) rfl hrow_1).back hl7 h02 (.cons_cons _ (.cons_cons _ (.cons_cons _ (.cons_cons _ (.cons_cons _ (.cons _ .slnil))))))) (q_sub rfl rfl rfl) ?_
  refine ht (i := 13) rfl (by kernel_rfl) rfl rfl rfl (fun w hw => (hw.unfold (i := 0) rfl hrow_1).back hl7 h02 (.cons_cons _ (.cons_cons _ (.cons_cons _ (.cons_cons _ (.cons_cons _ (.cons _ .slnil))))))) (q_geq rfl rfl rfl) ?_
  refine ht (i := 14) rfl (by kernel_rfl) rfl rfl rfl (fun w hw => (hw.unfold (i := 0) rfl hrow_1).back hl7 h02 (.cons_cons _ (.cons_cons _ (.cons_cons _ (.cons_cons _ (.cons_cons _ (.cons _ .slnil))))))) (q_assign (v := .bool (decide (a.need ≤ (w64 (((a.list.length : Nat) : Int) - ((z4.length : Nat) : Int)))))) rfl (by kernel_rfl)) ?_
  refine WH.done (by kernel_rfl) ?_
  change WC _ _ _ _ _ _
  refine WC.ret ?_
  intro w hw
  obtain rfl := Option.some.inj h
  subst hF
  exact end_e (is := [0]) (by kernel_rfl) hw rfl ⟨rfl, rfl, trivial⟩
set_option maxRecDepth 100000 in
set_option maxHeartbeats 400000 in
theorem t_firthref06_Ints {Γ : Gh} {w0 : World} {Aa : Option Addr} {ca : Nat} {a : List Int} (ha : Sl intT Γ Aa a) (hac : a.length ≤ ca) {Ab : Option Addr} {cb : Nat} {b : List Int} (hb : Sl intT Γ Ab b) (hbc : b.length ≤ cb) (hs : Sat Γ w0) {r : Bool} (h : m_firthref06_Ints a b = some r) : Calls Try.prog 15 #[.slice Aa a.length ca, .slice Ab b.length cb] w0 (fun e w' => e = .returned (.bool r) ∧ Fr no w0 w') := by
  refine calls_of (N := 26) (rs := [4]) (args := [.slice Aa a.length ca, .slice Ab b.length cb]) Try.func15 rfl Try.ntmps15 Try.results15 rfl ?_
  obtain ⟨F, hF⟩ : ∃ F : Fm, F = ⟨no, w0, Γ⟩ := ⟨_, rfl⟩
  refine WC.here (C := CC F Γ []) ?_ (hF ▸ Cur.start0 hs)
  refine WC.rs ?_
  refine va rfl rfl rfl (q_assign (v := .bool false) rfl (by kernel_rfl)) ?_
  refine WR.nil ?_
  change WC _ _ _ _ _ _
  refine WC.seq ?_
  refine WC.rs ?_
  refine va rfl rfl rfl (q_move (v := .slice Aa a.length ca) rfl (by kernel_rfl)) ?_
  refine va rfl rfl rfl (q_len_slice rfl Try.underlying22 rfl) ?_
  refine va rfl rfl rfl (q_move (v := .slice Ab b.length cb) rfl (by kernel_rfl)) ?_
  refine va rfl rfl rfl (q_len_slice rfl Try.underlying22 rfl) ?_
  refine va rfl rfl rfl (q_neq rfl rfl rfl) ?_
  refine WR.nil ?_
  change WC _ _ _ _ _ _
  refine WC.cif h (by kernel_rfl) (fun hb1 h => ?_) (fun hb1 h => ?_)
  · skip
    refine WC.rs ?_
    refine va rfl rfl rfl (q_assign (v := .bool false) rfl (by kernel_rfl)) ?_
    refine WR.nil ?_
    change WC _ _ _ _ _ _
    refine WC.ret ?_
    intro w hw
    obtain rfl := Option.some.inj h
    subst hF
    exact ⟨by kernel_rfl, hw.fr⟩
  · skip
    refine WC.skip ?_
    change WC _ _ _ _ _ _
    refine WC.seq ?_
    refine WC.rs ?_
    refine va rfl rfl rfl (q_assign (v := .int .i64 0) rfl (by kernel_rfl)) ?_
    refine WR.nil ?_
    change WC _ _ _ _ _ _
    refine WC.block ?_
    refine WC.forI h (fun (i3 : Nat) (s : Unit) σ w => match s with | () => slots σ [(0, .slice Aa a.length ca), (1, .slice Ab b.length cb), (5, .int .i64 ((i3 : Nat) : Int))] ∧ CC F Γ [] w ∧ True) ?_ ?_
    · skip
      intro w hw
      exact ⟨(sl_ (by kernel_rfl)), hw, trivial⟩
    rintro f2 i3 ⟨⟩ σ w hi4 hlt5 hge6 ⟨hsl, hw, -⟩
    refine Wpt.slots hsl ?_
    refine WC.here (C := CC F Γ []) ?_ hw
    clear hw hsl
    refine WC.seq ?_
    refine WC.rs ?_
    refine va rfl rfl rfl (q_move (v := .int .i64 ((i3 : Nat) : Int)) rfl (by kernel_rfl)) ?_
    refine va rfl rfl rfl (q_move (v := .slice Aa a.length ca) rfl (by kernel_rfl)) ?_
    refine va rfl rfl rfl (q_len_slice rfl Try.underlying22 rfl) ?_
    refine va rfl rfl rfl (q_lss rfl rfl rfl) ?_
    refine WR.nil ?_
    change WC _ _ _ _ _ _
    refine WC.cond (b := (decide (((i3 : Nat) : Int) < ((a.length : Nat) : Int)))) (by kernel_rfl) (fun hb7 => ?_) (fun hb7 => ?_)
    · skip
      have hl8 := ilt hb7
      have h := hlt5 hl8
      refine WC.skip ?_
      change WC _ _ _ _ _ _
      refine WC.seq ?_
      refine WC.block ?_
      refine WC.seq ?_
      refine WC.dr (by kernel_rfl) (by kernel_rfl) (fun w hw => hw.drawn _) ?_
      refine wa rfl rfl rfl (q_move (v := .slice Aa a.length ca) rfl (by kernel_rfl)) ?_
      refine wa rfl rfl rfl (q_move (v := .int .i64 ((i3 : Nat) : Int)) rfl (by kernel_rfl)) ?_
      refine wa rfl rfl rfl (q_ixn (i := i3) Try.underlying22 Try.sizeOf3 rfl rfl rfl hl8 (ha.some_ hl8)) ?_
      refine wa rfl rfl rfl (q_ld (c := 0) (v := .int .i64 (gt a i3)) (ha.intT_at hl8).2 rfl Try.isAgg3 rfl rfl) ?_
      refine wa rfl rfl rfl (q_move (v := .slice Ab b.length cb) rfl (by kernel_rfl)) ?_
      refine wa rfl rfl rfl (q_move (v := .int .i64 ((i3 : Nat) : Int)) rfl (by kernel_rfl)) ?_
      obtain ⟨hk9, h⟩ := chk_some h
      refine wa rfl rfl rfl (q_ixn (i := i3) Try.underlying22 Try.sizeOf3 rfl rfl rfl (of_decide_eq_true hk9) (hb.some_ (of_decide_eq_true hk9))) ?_
      refine wa rfl rfl rfl (q_ld (c := 0) (v := .int .i64 (gt b i3)) (hb.intT_at (of_decide_eq_true hk9)).2 rfl Try.isAgg3 rfl rfl) ?_
      refine wa rfl rfl rfl (q_neq rfl rfl rfl) ?_
      refine WQ.nil ?_
      change WC _ _ _ _ _ _
      refine WC.cif h (by kernel_rfl) (fun hb10 h => ?_) (fun hb10 h => ?_)
      · skip
        refine WC.rs ?_
        refine va rfl rfl rfl (q_assign (v := .bool false) rfl (by kernel_rfl)) ?_
        refine WR.nil ?_
        change WC _ _ _ _ _ _
        refine WC.ret ?_
        intro w hw
        obtain rfl := Option.some.inj h
        subst hF
        exact ⟨by kernel_rfl, hw.fr⟩
      · skip
        refine WC.skip ?_
        change WC _ _ _ _ _ _
        refine WC.region ?_
        refine va rfl rfl rfl (q_move (v := .int .i64 ((i3 : Nat) : Int)) rfl (by kernel_rfl)) ?_
        refine va rfl rfl rfl (q_add_r (r := ((i3 + 1 : Nat) : Int)) rfl rfl rfl (ctr_len hl8 ha.le)) ?_
        refine va rfl rfl rfl (q_assign (v := .int .i64 ((i3 + 1 : Nat) : Int)) rfl (by kernel_rfl)) ?_
        refine WR.nil ?_
        intro w hw
        exact ⟨hl8, (), h, (sl_ (by kernel_rfl)), hw, trivial⟩
    · skip
      have h := hge6 (ige hb7)
      refine WC.exit ?_
      change WC _ _ _ _ _ _
      refine WC.rs ?_
      refine va rfl rfl rfl (q_assign (v := .bool true) rfl (by kernel_rfl)) ?_
      refine WR.nil ?_
      change WC _ _ _ _ _ _
      refine WC.ret ?_
      intro w hw
      obtain rfl := Option.some.inj h
      subst hF
      exact ⟨by kernel_rfl, hw.fr⟩
set_option maxRecDepth 100000 in
set_option maxHeartbeats 400000 in
theorem t_firthref03_Dot {Γ : Gh} {w0 : World} (d : Dot) (hd : Dot.fits Γ  d) (hs : Sat Γ w0) {r : Bool} (h : m_firthref03_Dot d = some r) : Calls Try.prog 51 #[.agg #[.int .i64 d.s, .int .i64 d.n]] w0 (fun e w' => e = .returned (.bool r) ∧ Fr no w0 w') := by
  refine calls_of (N := 21) (rs := [2]) (args := [.agg #[.int .i64 d.s, .int .i64 d.n]]) Try.func51 rfl Try.ntmps51 Try.results51 rfl ?_
  obtain ⟨F, hF⟩ : ∃ F : Fm, F = ⟨no, w0, Γ⟩ := ⟨_, rfl⟩
  refine WC.here (C := CC F Γ []) ?_ (hF ▸ Cur.start0 hs)
  refine WC.rs ?_
  refine e_box (v := .agg #[.int .i64 d.s, .int .i64 d.n]) rfl rfl rfl rfl (by kernel_rfl) ?_
  intro g1
  refine va rfl rfl rfl (q_assign (v := .bool false) rfl (by kernel_rfl)) ?_
  refine WR.nil ?_
  change WC _ _ _ _ _ _
  refine WC.rs ?_
  refine va rfl rfl rfl (q_fl 0 fld_55_0 rfl rfl rfl) ?_
  refine va rfl rfl rfl (q_ldl (i := 0) (v := .int .i64 d.s) rfl rfl Try.isAgg3 rfl rfl) ?_
  refine va rfl rfl rfl (q_geq rfl rfl rfl) ?_
  refine va rfl rfl rfl (q_move (v := .bool (decide (1 ≤ d.s))) rfl (by kernel_rfl)) ?_
  refine vg1 rfl rfl rfl rfl rfl (fun hg2 => QV.qo (q_fl 0 fld_55_0 rfl rfl rfl)) ?_
  refine vg1 rfl rfl rfl rfl rfl (fun hg3 => QV.qo (q_ldl (i := 0) (v := .int .i64 d.s) rfl rfl Try.isAgg3 (gu hg3 rfl) rfl)) ?_
  refine vg1 rfl rfl rfl rfl rfl (fun hg4 => QV.qo (q_leq rfl (gu hg4 rfl) rfl)) ?_
  refine va rfl rfl rfl (q_pick rfl rfl (pk_and' (g := (decide (1 ≤ d.s))) (y := (decide (d.s ≤ 16))))) ?_
  refine va rfl rfl rfl (q_move (v := .bool ((decide (1 ≤ d.s)) && (decide (d.s ≤ 16)))) rfl (by kernel_rfl)) ?_
  refine vg1 rfl rfl rfl rfl rfl (fun hg5 => QV.qo (q_fl 1 fld_55_1 rfl rfl rfl)) ?_
  refine vg1 rfl rfl rfl rfl rfl (fun hg6 => QV.qo (q_ldl (i := 0) (v := .int .i64 d.n) rfl rfl Try.isAgg2 (gu hg6 rfl) rfl)) ?_
  refine vg1 rfl rfl rfl rfl rfl (fun hg7 => QV.qo (q_geq rfl (gu hg7 rfl) rfl)) ?_
  refine va rfl rfl rfl (q_pick rfl rfl (pk_and' (g := ((decide (1 ≤ d.s)) && (decide (d.s ≤ 16)))) (y := (decide (1 ≤ d.n))))) ?_
  refine va rfl rfl rfl (q_move (v := .bool (((decide (1 ≤ d.s)) && (decide (d.s ≤ 16))) && (decide (1 ≤ d.n)))) rfl (by kernel_rfl)) ?_
  refine vg1 rfl rfl rfl rfl rfl (fun hg8 => QV.qo (q_fl 1 fld_55_1 rfl rfl rfl)) ?_
  refine vg1 rfl rfl rfl rfl rfl (fun hg9 => QV.qo (q_ldl (i := 0) (v := .int .i64 d.n) rfl rfl Try.isAgg2 (gu hg9 rfl) rfl)) ?_
  refine vg1 rfl rfl rfl rfl rfl (fun hg10 => QV.qo (q_leq rfl (gu hg10 rfl) rfl)) ?_
  refine va rfl rfl rfl (q_pick rfl rfl (pk_and' (g := (((decide (1 ≤ d.s)) && (decide (d.s ≤ 16))) && (decide (1 ≤ d.n)))) (y := (decide (d.n ≤ 4611686018427387904))))) ?_
  refine va rfl rfl rfl (q_assign (v := .bool ((((decide (1 ≤ d.s)) && (decide (d.s ≤ 16))) && (decide (1 ≤ d.n))) && (decide (d.n ≤ 4611686018427387904)))) rfl (by kernel_rfl)) ?_
  refine WR.nil ?_
  change WC _ _ _ _ _ _
  refine WC.ret ?_
  intro w hw
  obtain rfl := Option.some.inj h
  subst hF
  exact ⟨by kernel_rfl, hw.fr⟩
set_option maxRecDepth 100000 in
set_option maxHeartbeats 400000 in
theorem t_firthref03_Right {Γ : Gh} {w0 : World} {Al : Option Addr} {cl : Nat} {l : List Span} (hl : Sl spanT Γ Al l) (hlc : l.length ≤ cl) (hs : Sat Γ w0) {r : Bool} (h : m_firthref03_Right l = some r) : Calls Try.prog 52 #[.slice Al l.length cl] w0 (fun e w' => e = .returned (.bool r) ∧ Fr no w0 w') := by
  refine calls_of (N := 99) (rs := [2]) (args := [.slice Al l.length cl]) Try.func52 rfl Try.ntmps52 Try.results52 rfl ?_
  obtain ⟨F, hF⟩ : ∃ F : Fm, F = ⟨no, w0, Γ⟩ := ⟨_, rfl⟩
  refine WC.here (C := CC F Γ []) ?_ (hF ▸ Cur.start0 hs)
  refine WC.rs ?_
  refine va rfl rfl rfl (q_assign (v := .bool false) rfl (by kernel_rfl)) ?_
  refine WR.nil ?_
  change WC _ _ _ _ _ _
  refine WC.seq ?_
  refine WC.rs ?_
  refine va rfl rfl rfl (q_move (v := .slice Al l.length cl) rfl (by kernel_rfl)) ?_
  refine va rfl rfl rfl (q_len_slice rfl Try.underlying56 rfl) ?_
  refine va rfl rfl rfl (q_gtr rfl rfl rfl) ?_
  refine WR.nil ?_
  change WC _ _ _ _ _ _
  refine WC.cif h (by kernel_rfl) (fun hb1 h => ?_) (fun hb1 h => ?_)
  · skip
    refine WC.rs ?_
    refine va rfl rfl rfl (q_assign (v := .bool false) rfl (by kernel_rfl)) ?_
    refine WR.nil ?_
    change WC _ _ _ _ _ _
    refine WC.ret ?_
    intro w hw
    obtain rfl := Option.some.inj h
    subst hF
    exact ⟨by kernel_rfl, hw.fr⟩
  · skip
    refine WC.skip ?_
    change WC _ _ _ _ _ _
    refine WC.seq ?_
    refine WC.rs ?_
    refine va rfl rfl rfl (q_assign (v := .int .i64 0) rfl (by kernel_rfl)) ?_
    refine WR.nil ?_
    change WC _ _ _ _ _ _
    refine WC.block ?_
    refine WC.forI h (fun (i3 : Nat) (s : Unit) σ w => match s with | () => slots σ [(0, .slice Al l.length cl), (3, .int .i64 ((i3 : Nat) : Int))] ∧ CC F Γ [] w ∧ True) ?_ ?_
    · skip
      intro w hw
      exact ⟨(sl_ (by kernel_rfl)), hw, trivial⟩
    rintro f2 i3 ⟨⟩ σ w hi4 hlt5 hge6 ⟨hsl, hw, -⟩
    refine Wpt.slots hsl ?_
    refine WC.here (C := CC F Γ []) ?_ hw
    clear hw hsl
    refine WC.seq ?_
    refine WC.rs ?_
    refine va rfl rfl rfl (q_move (v := .int .i64 ((i3 : Nat) : Int)) rfl (by kernel_rfl)) ?_
    refine va rfl rfl rfl (q_move (v := .slice Al l.length cl) rfl (by kernel_rfl)) ?_
    refine va rfl rfl rfl (q_len_slice rfl Try.underlying56 rfl) ?_
    refine va rfl rfl rfl (q_lss rfl rfl rfl) ?_
    refine WR.nil ?_
    change WC _ _ _ _ _ _
    refine WC.cond (b := (decide (((i3 : Nat) : Int) < ((l.length : Nat) : Int)))) (by kernel_rfl) (fun hb7 => ?_) (fun hb7 => ?_)
    · skip
      have hl8 := ilt hb7
      have h := hlt5 hl8
      refine WC.skip ?_
      change WC _ _ _ _ _ _
      refine WC.seq ?_
      refine WC.block ?_
      refine WC.seq ?_
      refine WC.seq ?_
      refine WC.dr (by kernel_rfl) (by kernel_rfl) (fun w hw => hw.drawn _) ?_
      refine wa rfl rfl rfl (q_move (v := .slice Al l.length cl) rfl (by kernel_rfl)) ?_
      refine wa rfl rfl rfl (q_move (v := .int .i64 ((i3 : Nat) : Int)) rfl (by kernel_rfl)) ?_
      refine wa rfl rfl rfl (q_ixn (i := i3) Try.underlying56 Try.sizeOf106 rfl rfl rfl hl8 (hl.some_ hl8)) ?_
      refine wa rfl rfl rfl (q_field_addr (i3 * 3) fld_106_0 rfl rfl (hl.some_ hl8) rfl) ?_
      refine wa rfl rfl rfl (q_ld (c := 0) (v := .int .i64 (gt l i3).s) (hl.spanT_at hl8).2 rfl Try.isAgg3 rfl rfl) ?_
      refine wa rfl rfl rfl (q_move (v := .slice Al l.length cl) rfl (by kernel_rfl)) ?_
      refine wa rfl rfl rfl (q_move (v := .int .i64 ((i3 : Nat) : Int)) rfl (by kernel_rfl)) ?_
      refine wa rfl rfl rfl (q_ixn (i := i3) Try.underlying56 Try.sizeOf106 rfl rfl rfl hl8 (hl.some_ hl8)) ?_
      refine wa rfl rfl rfl (q_field_addr (i3 * 3 + 1) fld_106_1 rfl rfl (hl.some_ hl8) rfl) ?_
      refine wa rfl rfl rfl (q_ld (c := 1) (v := .int .i64 (gt l i3).f) (hl.spanT_at hl8).2 rfl Try.isAgg2 rfl rfl) ?_
      refine wa rfl rfl rfl (q_build' (v := .agg #[.int .i64 (gt l i3).s, .int .i64 (gt l i3).f]) rfl (bargs2 rfl rfl) (fun w => by kernel_rfl)) ?_
      obtain ⟨z9, hz10, h⟩ := bnd h
      refine wc rfl rfl rfl (q_call (call_run Try.call51 rfl rfl (by kernel_rfl)) (fun w hw => t_firthref03_Dot (⟨(gt l i3).s, (gt l i3).f⟩ : Dot) ⟨(hl.spanT_at hl8).1.1, (hl.spanT_at hl8).1.2.1⟩ (Sat.all w) hz10)) ?_
      refine wa rfl rfl rfl (q_not rfl rfl) ?_
      refine wa rfl rfl rfl (q_move (v := .bool (!z9)) rfl (by kernel_rfl)) ?_
      refine wg0 rfl rfl rfl rfl rfl (fun hg11 => QV.qo (q_move (v := .slice Al l.length cl) rfl (by kernel_rfl))) ?_
      refine wg0 rfl rfl rfl rfl rfl (fun hg12 => QV.qo (q_move (v := .int .i64 ((i3 : Nat) : Int)) rfl (by kernel_rfl))) ?_
      refine wg0 rfl rfl rfl rfl rfl (fun hg13 => QV.qo (q_ixn (i := i3) Try.underlying56 Try.sizeOf106 rfl (gu hg13 rfl) (gu hg13 rfl) hl8 (hl.some_ hl8))) ?_
      refine wg0 rfl rfl rfl rfl rfl (fun hg14 => QV.qo (q_field_addr (i3 * 3) fld_106_0 rfl (gu hg14 rfl) (hl.some_ hl8) rfl)) ?_
      refine wg0 rfl rfl rfl rfl rfl (fun hg15 => QV.qo (q_ld (c := 0) (v := .int .i64 (gt l i3).s) (hl.spanT_at hl8).2 rfl Try.isAgg3 (gu hg15 rfl) rfl)) ?_
      refine wg0 rfl rfl rfl rfl rfl (fun hg16 => QV.qo (q_move (v := .slice Al l.length cl) rfl (by kernel_rfl))) ?_
      refine wg0 rfl rfl rfl rfl rfl (fun hg17 => QV.qo (q_move (v := .int .i64 ((i3 : Nat) : Int)) rfl (by kernel_rfl))) ?_
      refine wg0 rfl rfl rfl rfl rfl (fun hg18 => QV.qo (q_ixn (i := i3) Try.underlying56 Try.sizeOf106 rfl (gu hg18 rfl) (gu hg18 rfl) hl8 (hl.some_ hl8))) ?_
      refine wg0 rfl rfl rfl rfl rfl (fun hg19 => QV.qo (q_field_addr (i3 * 3 + 2) fld_106_2 rfl (gu hg19 rfl) (hl.some_ hl8) rfl)) ?_
      refine wg0 rfl rfl rfl rfl rfl (fun hg20 => QV.qo (q_ld (c := 2) (v := .int .i64 (gt l i3).t) (hl.spanT_at hl8).2 rfl Try.isAgg2 (gu hg20 rfl) rfl)) ?_
      refine wg0 rfl rfl rfl rfl rfl (fun hg21 => QV.qo (q_build' (v := .agg #[.int .i64 (gt l i3).s, .int .i64 (gt l i3).t]) rfl (bargs2 (gu hg21 rfl) (gu hg21 rfl)) (fun w => by kernel_rfl))) ?_
      obtain ⟨z23, hz24, h⟩ := bnd h
      refine wg0 rfl rfl rfl rfl rfl (fun hg22 => (q_call (call_run Try.call51 rfl rfl (args1 (gu hg22 rfl))) (fun w hw => t_firthref03_Dot (⟨(gt l i3).s, (gt l i3).t⟩ : Dot) ⟨(hl.spanT_at hl8).1.1, (hl.spanT_at hl8).1.2.2⟩ (Sat.all w) (gc_of hz24 hg22)))) ?_
      refine wg0 rfl rfl rfl rfl rfl (fun hg25 => QV.qo (q_not rfl (gu hg25 rfl))) ?_
      refine wa rfl rfl rfl (q_pick rfl rfl (pk_or' (g := (!z9)) (y := (!z23)))) ?_
      refine wa rfl rfl rfl (q_move (v := .bool ((!z9) || (!z23))) rfl (by kernel_rfl)) ?_
      refine wg0 rfl rfl rfl rfl rfl (fun hg26 => QV.qo (q_move (v := .slice Al l.length cl) rfl (by kernel_rfl))) ?_
      refine wg0 rfl rfl rfl rfl rfl (fun hg27 => QV.qo (q_move (v := .int .i64 ((i3 : Nat) : Int)) rfl (by kernel_rfl))) ?_
      refine wg0 rfl rfl rfl rfl rfl (fun hg28 => QV.qo (q_ixn (i := i3) Try.underlying56 Try.sizeOf106 rfl (gu hg28 rfl) (gu hg28 rfl) hl8 (hl.some_ hl8))) ?_
      refine wg0 rfl rfl rfl rfl rfl (fun hg29 => QV.qo (q_field_addr (i3 * 3 + 1) fld_106_1 rfl (gu hg29 rfl) (hl.some_ hl8) rfl)) ?_
      refine wg0 rfl rfl rfl rfl rfl (fun hg30 => QV.qo (q_ld (c := 1) (v := .int .i64 (gt l i3).f) (hl.spanT_at hl8).2 rfl Try.isAgg2 (gu hg30 rfl) rfl)) ?_
      refine wg0 rfl rfl rfl rfl rfl (fun hg31 => QV.qo (q_move (v := .slice Al l.length cl) rfl (by kernel_rfl))) ?_
      refine wg0 rfl rfl rfl rfl rfl (fun hg32 => QV.qo (q_move (v := .int .i64 ((i3 : Nat) : Int)) rfl (by kernel_rfl))) ?_
      refine wg0 rfl rfl rfl rfl rfl (fun hg33 => QV.qo (q_ixn (i := i3) Try.underlying56 Try.sizeOf106 rfl (gu hg33 rfl) (gu hg33 rfl) hl8 (hl.some_ hl8))) ?_
      refine wg0 rfl rfl rfl rfl rfl (fun hg34 => QV.qo (q_field_addr (i3 * 3 + 2) fld_106_2 rfl (gu hg34 rfl) (hl.some_ hl8) rfl)) ?_
      refine wg0 rfl rfl rfl rfl rfl (fun hg35 => QV.qo (q_ld (c := 2) (v := .int .i64 (gt l i3).t) (hl.spanT_at hl8).2 rfl Try.isAgg2 (gu hg35 rfl) rfl)) ?_
      refine wg0 rfl rfl rfl rfl rfl (fun hg36 => QV.qo (q_gtr rfl (gu hg36 rfl) (gu hg36 rfl))) ?_
      refine wa rfl rfl rfl (q_pick rfl rfl (pk_or' (g := ((!z9) || (!z23))) (y := (decide ((gt l i3).t < (gt l i3).f))))) ?_
      refine WQ.nil ?_
      change WC _ _ _ _ _ _
      refine WC.cif h (by kernel_rfl) (fun hb37 h => ?_) (fun hb37 h => ?_)
      · skip
        refine WC.rs ?_
        refine va rfl rfl rfl (q_assign (v := .bool false) rfl (by kernel_rfl)) ?_
        refine WR.nil ?_
        change WC _ _ _ _ _ _
        refine WC.ret ?_
        intro w hw
        obtain rfl := Option.some.inj h
        subst hF
        exact ⟨by kernel_rfl, hw.fr⟩
      · skip
        refine WC.skip ?_
        change WC _ _ _ _ _ _
        refine WC.seq ?_
        refine WC.dr (by kernel_rfl) (by kernel_rfl) (fun w hw => hw.drawn _) ?_
        refine wa rfl rfl rfl (q_move (v := .int .i64 ((i3 : Nat) : Int)) rfl (by kernel_rfl)) ?_
        refine wa rfl rfl rfl (q_gtr rfl rfl rfl) ?_
        refine wa rfl rfl rfl (q_move (v := .bool (decide (0 < ((i3 : Nat) : Int)))) rfl (by kernel_rfl)) ?_
        refine wg1 rfl rfl rfl rfl rfl (fun hg38 => QV.qo (q_move (v := .slice Al l.length cl) rfl (by kernel_rfl))) ?_
        refine wg1 rfl rfl rfl rfl rfl (fun hg39 => QV.qo (q_move (v := .int .i64 ((i3 : Nat) : Int)) rfl (by kernel_rfl))) ?_
        refine wg1 rfl rfl rfl rfl rfl (fun hg40 => QV.qo (q_ixn (i := i3) Try.underlying56 Try.sizeOf106 rfl (gu hg40 rfl) (gu hg40 rfl) hl8 (hl.some_ hl8))) ?_
        refine wg1 rfl rfl rfl rfl rfl (fun hg41 => QV.qo (q_field_addr (i3 * 3) fld_106_0 rfl (gu hg41 rfl) (hl.some_ hl8) rfl)) ?_
        refine wg1 rfl rfl rfl rfl rfl (fun hg42 => QV.qo (q_ld (c := 0) (v := .int .i64 (gt l i3).s) (hl.spanT_at hl8).2 rfl Try.isAgg3 (gu hg42 rfl) rfl)) ?_
        refine wg1 rfl rfl rfl rfl rfl (fun hg43 => QV.qo (q_move (v := .slice Al l.length cl) rfl (by kernel_rfl))) ?_
        refine wg1 rfl rfl rfl rfl rfl (fun hg44 => QV.qo (q_move (v := .int .i64 ((i3 : Nat) : Int)) rfl (by kernel_rfl))) ?_
        refine wg1 rfl rfl rfl rfl rfl (fun hg45 => QV.qo (q_sub rfl (gu hg45 rfl) rfl)) ?_
        obtain ⟨hk47, h⟩ := chk_some h
        refine wg1 rfl rfl rfl rfl rfl (fun hg46 => QV.qo (q_ix Try.underlying56 Try.sizeOf106 rfl (gu hg46 rfl) (gu hg46 rfl) (imp_of hk47 hg46) (hl.some_ (inb_lt (imp_of hk47 hg46))))) ?_
        refine wg1 rfl rfl rfl rfl rfl (fun hg48 => QV.qo (q_field_addr (((w64 (((i3 : Nat) : Int) - 1)).toNat) * 3) fld_106_0 rfl (gu hg48 rfl) (hl.some_ (inb_lt (imp_of hk47 hg48))) rfl)) ?_
        refine wg1 rfl rfl rfl rfl rfl (fun hg49 => QV.qo (q_ld (c := 0) (v := .int .i64 (gt l ((w64 (((i3 : Nat) : Int) - 1)).toNat)).s) (hl.spanT_at (inb_lt (imp_of hk47 hg49))).2 rfl Try.isAgg3 (gu hg49 rfl) rfl)) ?_
        refine wg1 rfl rfl rfl rfl rfl (fun hg50 => QV.qo (q_lss rfl (gu hg50 rfl) (gu hg50 rfl))) ?_
        refine wg1 rfl rfl rfl rfl rfl (fun hg51 => QV.qo (q_move (v := .bool (decide ((gt l i3).s < (gt l ((w64 (((i3 : Nat) : Int) - 1)).toNat)).s))) rfl (gu hg51 rfl))) ?_
        refine wh0 (c0 := (decide (0 < ((i3 : Nat) : Int)))) (g := (decide ((gt l i3).s < (gt l ((w64 (((i3 : Nat) : Int) - 1)).toNat)).s))) rfl rfl rfl rfl rfl (fun hg52 => QV.qo (q_move (v := .slice Al l.length cl) rfl (by kernel_rfl))) ?_
        refine wh0 (c0 := (decide (0 < ((i3 : Nat) : Int)))) (g := (decide ((gt l i3).s < (gt l ((w64 (((i3 : Nat) : Int) - 1)).toNat)).s))) rfl rfl rfl rfl rfl (fun hg53 => QV.qo (q_move (v := .int .i64 ((i3 : Nat) : Int)) rfl (by kernel_rfl))) ?_
        refine wh0 (c0 := (decide (0 < ((i3 : Nat) : Int)))) (g := (decide ((gt l i3).s < (gt l ((w64 (((i3 : Nat) : Int) - 1)).toNat)).s))) rfl rfl rfl rfl rfl (fun hg54 => QV.qo (q_ixn (i := i3) Try.underlying56 Try.sizeOf106 rfl (gu hg54 rfl) (gu hg54 rfl) hl8 (hl.some_ hl8))) ?_
        refine wh0 (c0 := (decide (0 < ((i3 : Nat) : Int)))) (g := (decide ((gt l i3).s < (gt l ((w64 (((i3 : Nat) : Int) - 1)).toNat)).s))) rfl rfl rfl rfl rfl (fun hg55 => QV.qo (q_field_addr (i3 * 3) fld_106_0 rfl (gu hg55 rfl) (hl.some_ hl8) rfl)) ?_
        refine wh0 (c0 := (decide (0 < ((i3 : Nat) : Int)))) (g := (decide ((gt l i3).s < (gt l ((w64 (((i3 : Nat) : Int) - 1)).toNat)).s))) rfl rfl rfl rfl rfl (fun hg56 => QV.qo (q_ld (c := 0) (v := .int .i64 (gt l i3).s) (hl.spanT_at hl8).2 rfl Try.isAgg3 (gu hg56 rfl) rfl)) ?_
        refine wh0 (c0 := (decide (0 < ((i3 : Nat) : Int)))) (g := (decide ((gt l i3).s < (gt l ((w64 (((i3 : Nat) : Int) - 1)).toNat)).s))) rfl rfl rfl rfl rfl (fun hg57 => QV.qo (q_move (v := .slice Al l.length cl) rfl (by kernel_rfl))) ?_
        refine wh0 (c0 := (decide (0 < ((i3 : Nat) : Int)))) (g := (decide ((gt l i3).s < (gt l ((w64 (((i3 : Nat) : Int) - 1)).toNat)).s))) rfl rfl rfl rfl rfl (fun hg58 => QV.qo (q_move (v := .int .i64 ((i3 : Nat) : Int)) rfl (by kernel_rfl))) ?_
        refine wh0 (c0 := (decide (0 < ((i3 : Nat) : Int)))) (g := (decide ((gt l i3).s < (gt l ((w64 (((i3 : Nat) : Int) - 1)).toNat)).s))) rfl rfl rfl rfl rfl (fun hg59 => QV.qo (q_sub rfl (gu hg59 rfl) rfl)) ?_
        refine wh0 (c0 := (decide (0 < ((i3 : Nat) : Int)))) (g := (decide ((gt l i3).s < (gt l ((w64 (((i3 : Nat) : Int) - 1)).toNat)).s))) rfl rfl rfl rfl rfl (fun hg60 => QV.qo (q_ix Try.underlying56 Try.sizeOf106 rfl (gu hg60 rfl) (gu hg60 rfl) (imp_of hk47 (and_l hg60)) (hl.some_ (inb_lt (imp_of hk47 (and_l hg60)))))) ?_
        refine wh0 (c0 := (decide (0 < ((i3 : Nat) : Int)))) (g := (decide ((gt l i3).s < (gt l ((w64 (((i3 : Nat) : Int) - 1)).toNat)).s))) rfl rfl rfl rfl rfl (fun hg61 => QV.qo (q_field_addr (((w64 (((i3 : Nat) : Int) - 1)).toNat) * 3) fld_106_0 rfl (gu hg61 rfl) (hl.some_ (inb_lt (imp_of hk47 (and_l hg61)))) rfl)) ?_
        refine wh0 (c0 := (decide (0 < ((i3 : Nat) : Int)))) (g := (decide ((gt l i3).s < (gt l ((w64 (((i3 : Nat) : Int) - 1)).toNat)).s))) rfl rfl rfl rfl rfl (fun hg62 => QV.qo (q_ld (c := 0) (v := .int .i64 (gt l ((w64 (((i3 : Nat) : Int) - 1)).toNat)).s) (hl.spanT_at (inb_lt (imp_of hk47 (and_l hg62)))).2 rfl Try.isAgg3 (gu hg62 rfl) rfl)) ?_
        refine wh0 (c0 := (decide (0 < ((i3 : Nat) : Int)))) (g := (decide ((gt l i3).s < (gt l ((w64 (((i3 : Nat) : Int) - 1)).toNat)).s))) rfl rfl rfl rfl rfl (fun hg63 => QV.qo (q_eql rfl (gu hg63 rfl) (gu hg63 rfl))) ?_
        refine wh0 (c0 := (decide (0 < ((i3 : Nat) : Int)))) (g := (decide ((gt l i3).s < (gt l ((w64 (((i3 : Nat) : Int) - 1)).toNat)).s))) rfl rfl rfl rfl rfl (fun hg64 => QV.qo (q_move (v := .bool ((gt l i3).s == (gt l ((w64 (((i3 : Nat) : Int) - 1)).toNat)).s)) rfl (gu hg64 rfl))) ?_
        refine wh1 (c0 := ((decide (0 < ((i3 : Nat) : Int))) && (!(decide ((gt l i3).s < (gt l ((w64 (((i3 : Nat) : Int) - 1)).toNat)).s))))) (g := ((gt l i3).s == (gt l ((w64 (((i3 : Nat) : Int) - 1)).toNat)).s)) rfl rfl rfl rfl rfl (fun hg65 => QV.qo (q_move (v := .slice Al l.length cl) rfl (by kernel_rfl))) ?_
        refine wh1 (c0 := ((decide (0 < ((i3 : Nat) : Int))) && (!(decide ((gt l i3).s < (gt l ((w64 (((i3 : Nat) : Int) - 1)).toNat)).s))))) (g := ((gt l i3).s == (gt l ((w64 (((i3 : Nat) : Int) - 1)).toNat)).s)) rfl rfl rfl rfl rfl (fun hg66 => QV.qo (q_move (v := .int .i64 ((i3 : Nat) : Int)) rfl (by kernel_rfl))) ?_
        refine wh1 (c0 := ((decide (0 < ((i3 : Nat) : Int))) && (!(decide ((gt l i3).s < (gt l ((w64 (((i3 : Nat) : Int) - 1)).toNat)).s))))) (g := ((gt l i3).s == (gt l ((w64 (((i3 : Nat) : Int) - 1)).toNat)).s)) rfl rfl rfl rfl rfl (fun hg67 => QV.qo (q_ixn (i := i3) Try.underlying56 Try.sizeOf106 rfl (gu hg67 rfl) (gu hg67 rfl) hl8 (hl.some_ hl8))) ?_
        refine wh1 (c0 := ((decide (0 < ((i3 : Nat) : Int))) && (!(decide ((gt l i3).s < (gt l ((w64 (((i3 : Nat) : Int) - 1)).toNat)).s))))) (g := ((gt l i3).s == (gt l ((w64 (((i3 : Nat) : Int) - 1)).toNat)).s)) rfl rfl rfl rfl rfl (fun hg68 => QV.qo (q_field_addr (i3 * 3 + 1) fld_106_1 rfl (gu hg68 rfl) (hl.some_ hl8) rfl)) ?_
        refine wh1 (c0 := ((decide (0 < ((i3 : Nat) : Int))) && (!(decide ((gt l i3).s < (gt l ((w64 (((i3 : Nat) : Int) - 1)).toNat)).s))))) (g := ((gt l i3).s == (gt l ((w64 (((i3 : Nat) : Int) - 1)).toNat)).s)) rfl rfl rfl rfl rfl (fun hg69 => QV.qo (q_ld (c := 1) (v := .int .i64 (gt l i3).f) (hl.spanT_at hl8).2 rfl Try.isAgg2 (gu hg69 rfl) rfl)) ?_
        refine wh1 (c0 := ((decide (0 < ((i3 : Nat) : Int))) && (!(decide ((gt l i3).s < (gt l ((w64 (((i3 : Nat) : Int) - 1)).toNat)).s))))) (g := ((gt l i3).s == (gt l ((w64 (((i3 : Nat) : Int) - 1)).toNat)).s)) rfl rfl rfl rfl rfl (fun hg70 => QV.qo (q_sub rfl (gu hg70 rfl) rfl)) ?_
        refine wh1 (c0 := ((decide (0 < ((i3 : Nat) : Int))) && (!(decide ((gt l i3).s < (gt l ((w64 (((i3 : Nat) : Int) - 1)).toNat)).s))))) (g := ((gt l i3).s == (gt l ((w64 (((i3 : Nat) : Int) - 1)).toNat)).s)) rfl rfl rfl rfl rfl (fun hg71 => QV.qo (q_move (v := .slice Al l.length cl) rfl (by kernel_rfl))) ?_
        refine wh1 (c0 := ((decide (0 < ((i3 : Nat) : Int))) && (!(decide ((gt l i3).s < (gt l ((w64 (((i3 : Nat) : Int) - 1)).toNat)).s))))) (g := ((gt l i3).s == (gt l ((w64 (((i3 : Nat) : Int) - 1)).toNat)).s)) rfl rfl rfl rfl rfl (fun hg72 => QV.qo (q_move (v := .int .i64 ((i3 : Nat) : Int)) rfl (by kernel_rfl))) ?_
        refine wh1 (c0 := ((decide (0 < ((i3 : Nat) : Int))) && (!(decide ((gt l i3).s < (gt l ((w64 (((i3 : Nat) : Int) - 1)).toNat)).s))))) (g := ((gt l i3).s == (gt l ((w64 (((i3 : Nat) : Int) - 1)).toNat)).s)) rfl rfl rfl rfl rfl (fun hg73 => QV.qo (q_sub rfl (gu hg73 rfl) rfl)) ?_
        refine wh1 (c0 := ((decide (0 < ((i3 : Nat) : Int))) && (!(decide ((gt l i3).s < (gt l ((w64 (((i3 : Nat) : Int) - 1)).toNat)).s))))) (g := ((gt l i3).s == (gt l ((w64 (((i3 : Nat) : Int) - 1)).toNat)).s)) rfl rfl rfl rfl rfl (fun hg74 => QV.qo (q_ix Try.underlying56 Try.sizeOf106 rfl (gu hg74 rfl) (gu hg74 rfl) (imp_of hk47 (and_l (and_l hg74))) (hl.some_ (inb_lt (imp_of hk47 (and_l (and_l hg74))))))) ?_
        refine wh1 (c0 := ((decide (0 < ((i3 : Nat) : Int))) && (!(decide ((gt l i3).s < (gt l ((w64 (((i3 : Nat) : Int) - 1)).toNat)).s))))) (g := ((gt l i3).s == (gt l ((w64 (((i3 : Nat) : Int) - 1)).toNat)).s)) rfl rfl rfl rfl rfl (fun hg75 => QV.qo (q_field_addr (((w64 (((i3 : Nat) : Int) - 1)).toNat) * 3 + 2) fld_106_2 rfl (gu hg75 rfl) (hl.some_ (inb_lt (imp_of hk47 (and_l (and_l hg75))))) rfl)) ?_
        refine wh1 (c0 := ((decide (0 < ((i3 : Nat) : Int))) && (!(decide ((gt l i3).s < (gt l ((w64 (((i3 : Nat) : Int) - 1)).toNat)).s))))) (g := ((gt l i3).s == (gt l ((w64 (((i3 : Nat) : Int) - 1)).toNat)).s)) rfl rfl rfl rfl rfl (fun hg76 => QV.qo (q_ld (c := 2) (v := .int .i64 (gt l ((w64 (((i3 : Nat) : Int) - 1)).toNat)).t) (hl.spanT_at (inb_lt (imp_of hk47 (and_l (and_l hg76))))).2 rfl Try.isAgg2 (gu hg76 rfl) rfl)) ?_
        refine wh1 (c0 := ((decide (0 < ((i3 : Nat) : Int))) && (!(decide ((gt l i3).s < (gt l ((w64 (((i3 : Nat) : Int) - 1)).toNat)).s))))) (g := ((gt l i3).s == (gt l ((w64 (((i3 : Nat) : Int) - 1)).toNat)).s)) rfl rfl rfl rfl rfl (fun hg77 => QV.qo (q_leq rfl (gu hg77 rfl) (gu hg77 rfl))) ?_
        refine wh0 (c0 := (decide (0 < ((i3 : Nat) : Int)))) (g := (decide ((gt l i3).s < (gt l ((w64 (((i3 : Nat) : Int) - 1)).toNat)).s))) rfl rfl rfl rfl rfl (fun hg78 => QV.qo (q_pick rfl (gu hg78 rfl) (pk_and (c := ((decide (0 < ((i3 : Nat) : Int))) && (!(decide ((gt l i3).s < (gt l ((w64 (((i3 : Nat) : Int) - 1)).toNat)).s))))) (g := ((gt l i3).s == (gt l ((w64 (((i3 : Nat) : Int) - 1)).toNat)).s)) (y := (decide ((w64 ((gt l i3).f - 1)) ≤ (gt l ((w64 (((i3 : Nat) : Int) - 1)).toNat)).t))) hg78))) ?_
        refine wg1 rfl rfl rfl rfl rfl (fun hg79 => QV.qo (q_pick rfl (gu hg79 rfl) (pk_or (c := (decide (0 < ((i3 : Nat) : Int)))) (g := (decide ((gt l i3).s < (gt l ((w64 (((i3 : Nat) : Int) - 1)).toNat)).s))) (y := (((gt l i3).s == (gt l ((w64 (((i3 : Nat) : Int) - 1)).toNat)).s) && (decide ((w64 ((gt l i3).f - 1)) ≤ (gt l ((w64 (((i3 : Nat) : Int) - 1)).toNat)).t)))) hg79))) ?_
        refine wa rfl rfl rfl (q_pick rfl rfl (pk_and' (g := (decide (0 < ((i3 : Nat) : Int)))) (y := ((decide ((gt l i3).s < (gt l ((w64 (((i3 : Nat) : Int) - 1)).toNat)).s)) || (((gt l i3).s == (gt l ((w64 (((i3 : Nat) : Int) - 1)).toNat)).s) && (decide ((w64 ((gt l i3).f - 1)) ≤ (gt l ((w64 (((i3 : Nat) : Int) - 1)).toNat)).t))))))) ?_
        refine WQ.nil ?_
        change WC _ _ _ _ _ _
        refine WC.cif h (by kernel_rfl) (fun hb80 h => ?_) (fun hb80 h => ?_)
        · skip
          refine WC.rs ?_
          refine va rfl rfl rfl (q_assign (v := .bool false) rfl (by kernel_rfl)) ?_
          refine WR.nil ?_
          change WC _ _ _ _ _ _
          refine WC.ret ?_
          intro w hw
          obtain rfl := Option.some.inj h
          subst hF
          exact ⟨by kernel_rfl, hw.fr⟩
        · skip
          refine WC.skip ?_
          change WC _ _ _ _ _ _
          refine WC.region ?_
          refine va rfl rfl rfl (q_move (v := .int .i64 ((i3 : Nat) : Int)) rfl (by kernel_rfl)) ?_
          refine va rfl rfl rfl (q_add_r (r := ((i3 + 1 : Nat) : Int)) rfl rfl rfl (ctr_len hl8 hl.le)) ?_
          refine va rfl rfl rfl (q_assign (v := .int .i64 ((i3 + 1 : Nat) : Int)) rfl (by kernel_rfl)) ?_
          refine WR.nil ?_
          intro w hw
          exact ⟨hl8, (), h, (sl_ (by kernel_rfl)), hw, trivial⟩
    · skip
      have h := hge6 (ige hb7)
      refine WC.exit ?_
      change WC _ _ _ _ _ _
      refine WC.rs ?_
      refine va rfl rfl rfl (q_assign (v := .bool true) rfl (by kernel_rfl)) ?_
      refine WR.nil ?_
      change WC _ _ _ _ _ _
      refine WC.ret ?_
      intro w hw
      obtain rfl := Option.some.inj h
      subst hF
      exact ⟨by kernel_rfl, hw.fr⟩
set_option maxRecDepth 100000 in
set_option maxHeartbeats 400000 in
theorem t_firthref03_Top {Γ : Gh} {w0 : World} {Al : Option Addr} {cl : Nat} {l : List Span} (hl : Sl spanT Γ Al l) (hlc : l.length ≤ cl) (s_ : Int) (hs_ : I64 s_) (hs : Sat Γ w0) {r : Int} (h : m_firthref03_Top l s_ = some r) : Calls Try.prog 53 #[.slice Al l.length cl, .int .i64 s_] w0 (fun e w' => e = .returned (.int .i64 r) ∧ Fr no w0 w') := by
  refine calls_of (N := 35) (rs := [4]) (args := [.slice Al l.length cl, .int .i64 s_]) Try.func53 rfl Try.ntmps53 Try.results53 rfl ?_
  obtain ⟨F, hF⟩ : ∃ F : Fm, F = ⟨no, w0, Γ⟩ := ⟨_, rfl⟩
  refine WC.here (C := CC F Γ []) ?_ (hF ▸ Cur.start0 hs)
  refine WC.rs ?_
  refine va rfl rfl rfl (q_assign (v := .int .i64 0) rfl (by kernel_rfl)) ?_
  refine WR.nil ?_
  change WC _ _ _ _ _ _
  refine WC.rs ?_
  refine va rfl rfl rfl (q_assign (v := .int .i64 0) rfl (by kernel_rfl)) ?_
  refine WR.nil ?_
  change WC _ _ _ _ _ _
  refine WC.seq ?_
  refine WC.rs ?_
  refine va rfl rfl rfl (q_assign (v := .int .i64 0) rfl (by kernel_rfl)) ?_
  refine WR.nil ?_
  change WC _ _ _ _ _ _
  refine WC.block ?_
  refine WC.forI h (fun (i4 : Nat) (n_1 : Int) σ w => slots σ [(0, .slice Al l.length cl), (1, .int .i64 s_), (5, .int .i64 n_1), (6, .int .i64 ((i4 : Nat) : Int))] ∧ CC F Γ [] w ∧ I64 n_1 ∧ True) ?_ ?_
  · skip
    intro w hw
    exact ⟨(sl_ (by kernel_rfl)), hw, (show I64 0 by decide), trivial⟩
  rintro f3 i4 n_1 σ w hi5 hlt6 hge7 ⟨hsl, hw, hr2, -⟩
  refine Wpt.slots hsl ?_
  refine WC.here (C := CC F Γ []) ?_ hw
  clear hw hsl
  refine WC.seq ?_
  refine WC.rs ?_
  refine va rfl rfl rfl (q_move (v := .int .i64 ((i4 : Nat) : Int)) rfl (by kernel_rfl)) ?_
  refine va rfl rfl rfl (q_move (v := .slice Al l.length cl) rfl (by kernel_rfl)) ?_
  refine va rfl rfl rfl (q_len_slice rfl Try.underlying56 rfl) ?_
  refine va rfl rfl rfl (q_lss rfl rfl rfl) ?_
  refine WR.nil ?_
  change WC _ _ _ _ _ _
  refine WC.cond (b := (decide (((i4 : Nat) : Int) < ((l.length : Nat) : Int)))) (by kernel_rfl) (fun hb8 => ?_) (fun hb8 => ?_)
  · skip
    have hl9 := ilt hb8
    have h := hlt6 hl9
    refine WC.skip ?_
    change WC _ _ _ _ _ _
    refine WC.cut (fun σ w => ∃ (n_10 : Int), m_firthref03_Top_j6 f3 n_10 = some r ∧ slots σ [(0, .slice Al l.length cl), (1, .int .i64 s_), (5, .int .i64 n_10), (6, .int .i64 ((i4 : Nat) : Int))] ∧ CC F Γ [] w ∧ I64 n_10 ∧ True) ?_ ?_
    · skip
      refine WC.block ?_
      refine WC.rs ?_
      refine va rfl rfl rfl (q_move (v := .slice Al l.length cl) rfl (by kernel_rfl)) ?_
      refine va rfl rfl rfl (q_move (v := .int .i64 ((i4 : Nat) : Int)) rfl (by kernel_rfl)) ?_
      refine va rfl rfl rfl (q_ixn (i := i4) Try.underlying56 Try.sizeOf106 rfl rfl rfl hl9 (hl.some_ hl9)) ?_
      refine va rfl rfl rfl (q_field_addr (i4 * 3) fld_106_0 rfl rfl (hl.some_ hl9) rfl) ?_
      refine va rfl rfl rfl (q_ld (c := 0) (v := .int .i64 (gt l i4).s) (hl.spanT_at hl9).2 rfl Try.isAgg3 rfl rfl) ?_
      refine va rfl rfl rfl (q_move (v := .int .i64 s_) rfl (by kernel_rfl)) ?_
      refine va rfl rfl rfl (q_eql rfl rfl rfl) ?_
      refine va rfl rfl rfl (q_move (v := .bool ((gt l i4).s == s_)) rfl (by kernel_rfl)) ?_
      refine vg1 rfl rfl rfl rfl rfl (fun hg12 => QV.qo (q_move (v := .slice Al l.length cl) rfl (by kernel_rfl))) ?_
      refine vg1 rfl rfl rfl rfl rfl (fun hg13 => QV.qo (q_move (v := .int .i64 ((i4 : Nat) : Int)) rfl (by kernel_rfl))) ?_
      refine vg1 rfl rfl rfl rfl rfl (fun hg14 => QV.qo (q_ixn (i := i4) Try.underlying56 Try.sizeOf106 rfl (gu hg14 rfl) (gu hg14 rfl) hl9 (hl.some_ hl9))) ?_
      refine vg1 rfl rfl rfl rfl rfl (fun hg15 => QV.qo (q_field_addr (i4 * 3 + 2) fld_106_2 rfl (gu hg15 rfl) (hl.some_ hl9) rfl)) ?_
      refine vg1 rfl rfl rfl rfl rfl (fun hg16 => QV.qo (q_ld (c := 2) (v := .int .i64 (gt l i4).t) (hl.spanT_at hl9).2 rfl Try.isAgg2 (gu hg16 rfl) rfl)) ?_
      refine vg1 rfl rfl rfl rfl rfl (fun hg17 => QV.qo (q_move (v := .int .i64 n_1) rfl (by kernel_rfl))) ?_
      refine vg1 rfl rfl rfl rfl rfl (fun hg18 => QV.qo (q_gtr rfl (gu hg18 rfl) (gu hg18 rfl))) ?_
      refine va rfl rfl rfl (q_pick rfl rfl (pk_and' (g := ((gt l i4).s == s_)) (y := (decide (n_1 < (gt l i4).t))))) ?_
      refine WR.nil ?_
      change WC _ _ _ _ _ _
      refine WC.cif h (by kernel_rfl) (fun hb19 h => ?_) (fun hb19 h => ?_)
      · skip
        refine WC.region ?_
        refine va rfl rfl rfl (q_move (v := .slice Al l.length cl) rfl (by kernel_rfl)) ?_
        refine va rfl rfl rfl (q_move (v := .int .i64 ((i4 : Nat) : Int)) rfl (by kernel_rfl)) ?_
        refine va rfl rfl rfl (q_ixn (i := i4) Try.underlying56 Try.sizeOf106 rfl rfl rfl hl9 (hl.some_ hl9)) ?_
        refine va rfl rfl rfl (q_field_addr (i4 * 3 + 2) fld_106_2 rfl rfl (hl.some_ hl9) rfl) ?_
        refine va rfl rfl rfl (q_ld (c := 2) (v := .int .i64 (gt l i4).t) (hl.spanT_at hl9).2 rfl Try.isAgg2 rfl rfl) ?_
        refine va rfl rfl rfl (q_assign (v := .int .i64 (gt l i4).t) rfl (by kernel_rfl)) ?_
        refine WR.nil ?_
        intro w hw
        exact ⟨(gt l i4).t, h, (sl_ (by kernel_rfl)), hw, (hl.spanT_at hl9).1.2.2, trivial⟩
      · skip
        refine WC.skip ?_
        intro w hw
        exact ⟨n_1, h, (sl_ (by kernel_rfl)), hw, hr2, trivial⟩
    · skip
      rintro σ w ⟨n_10, h, hsl, hw, hr11, -⟩
      refine Wpt.slots hsl ?_
      refine WC.here (C := CC F Γ []) ?_ hw
      clear hw hsl
      refine WC.region ?_
      refine va rfl rfl rfl (q_move (v := .int .i64 ((i4 : Nat) : Int)) rfl (by kernel_rfl)) ?_
      refine va rfl rfl rfl (q_add_r (r := ((i4 + 1 : Nat) : Int)) rfl rfl rfl (ctr_len hl9 hl.le)) ?_
      refine va rfl rfl rfl (q_assign (v := .int .i64 ((i4 + 1 : Nat) : Int)) rfl (by kernel_rfl)) ?_
      refine WR.nil ?_
      intro w hw
      exact ⟨hl9, n_10, h, (sl_ (by kernel_rfl)), hw, hr11, trivial⟩
  · skip
    have h := hge7 (ige hb8)
    refine WC.exit ?_
    change WC _ _ _ _ _ _
    refine WC.rs ?_
    refine va rfl rfl rfl (q_move (v := .int .i64 n_1) rfl (by kernel_rfl)) ?_
    refine va rfl rfl rfl (q_assign (v := .int .i64 n_1) rfl (by kernel_rfl)) ?_
    refine WR.nil ?_
    change WC _ _ _ _ _ _
    refine WC.ret ?_
    intro w hw
    obtain rfl := Option.some.inj h
    subst hF
    exact ⟨by kernel_rfl, hw.fr⟩
set_option maxRecDepth 100000 in
set_option maxHeartbeats 400000 in
theorem t_firthref05_RightOne {Γ : Gh} {w0 : World} {Av_2 : Option Addr} {cv_2 : Nat} (v_ : Ver) (hv_ : Ver.fits Γ Av_2 cv_2 v_) (hs : Sat Γ w0) {r : Bool} (h : m_firthref05_RightOne v_ = some r) : Calls Try.prog 30 #[.agg #[.int .i64 v_.dot.s, .int .i64 v_.dot.n, .slice Av_2 v_.past.length cv_2, .bool v_.gone, .string v_.val]] w0 (fun e w' => e = .returned (.bool r) ∧ Fr no w0 w') := by
  refine calls_of (N := 34) (rs := [2]) (args := [.agg #[.int .i64 v_.dot.s, .int .i64 v_.dot.n, .slice Av_2 v_.past.length cv_2, .bool v_.gone, .string v_.val]]) Try.func30 rfl Try.ntmps30 Try.results30 rfl ?_
  obtain ⟨F, hF⟩ : ∃ F : Fm, F = ⟨no, w0, Γ⟩ := ⟨_, rfl⟩
  refine WC.here (C := CC F Γ []) ?_ (hF ▸ Cur.start0 hs)
  refine WC.rs ?_
  refine e_box (v := .agg #[.int .i64 v_.dot.s, .int .i64 v_.dot.n, .slice Av_2 v_.past.length cv_2, .bool v_.gone, .string v_.val]) rfl rfl rfl rfl (by kernel_rfl) ?_
  intro g1
  refine va rfl rfl rfl (q_assign (v := .bool false) rfl (by kernel_rfl)) ?_
  refine WR.nil ?_
  change WC _ _ _ _ _ _
  refine WC.seq ?_
  refine WC.seq ?_
  refine WC.dr (by kernel_rfl) (by kernel_rfl) (fun w hw => hw.drawn _) ?_
  refine wa rfl rfl rfl (q_fl 0 fld_58_0 rfl rfl rfl) ?_
  refine wa rfl rfl rfl (q_ldla (i := 0) (vs := [.int .i64 v_.dot.s, .int .i64 v_.dot.n]) rfl rfl Try.isAgg55 Try.sizeOf55 rfl rfl) ?_
  obtain ⟨z2, hz3, h⟩ := bnd h
  refine wc rfl rfl rfl (q_call (call_run Try.call51 rfl rfl (by kernel_rfl)) (fun w hw => t_firthref03_Dot v_.dot ⟨hv_.1, hv_.2.1⟩ (Sat.all w) hz3)) ?_
  refine wa rfl rfl rfl (q_not rfl rfl) ?_
  refine wa rfl rfl rfl (q_move (v := .bool (!z2)) rfl (by kernel_rfl)) ?_
  refine wg0 rfl rfl rfl rfl rfl (fun hg4 => QV.qo (q_fl 2 fld_58_1 rfl rfl rfl)) ?_
  refine wg0 rfl rfl rfl rfl rfl (fun hg5 => QV.qo (q_ldl (i := 0) (v := .slice Av_2 v_.past.length cv_2) rfl rfl Try.isAgg56 (gu hg5 rfl) rfl)) ?_
  obtain ⟨z7, hz8, h⟩ := bnd h
  refine wg0 rfl rfl rfl rfl rfl (fun hg6 => (q_call (call_run Try.call52 rfl rfl (args1 (gu hg6 rfl))) (fun w hw => t_firthref03_Right (hv_.2.2.1.2.mono hw.sat.le_all) hv_.2.2.1.1 (Sat.all w) (gc_of hz8 hg6)))) ?_
  refine wg0 rfl rfl rfl rfl rfl (fun hg9 => QV.qo (q_not rfl (gu hg9 rfl))) ?_
  refine wa rfl rfl rfl (q_pick rfl rfl (pk_or' (g := (!z2)) (y := (!z7)))) ?_
  refine wa rfl rfl rfl (q_move (v := .bool ((!z2) || (!z7))) rfl (by kernel_rfl)) ?_
  refine wg0 rfl rfl rfl rfl rfl (fun hg10 => QV.qo (q_fl 2 fld_58_1 rfl rfl rfl)) ?_
  refine wg0 rfl rfl rfl rfl rfl (fun hg11 => QV.qo (q_ldl (i := 0) (v := .slice Av_2 v_.past.length cv_2) rfl rfl Try.isAgg56 (gu hg11 rfl) rfl)) ?_
  refine wg0 rfl rfl rfl rfl rfl (fun hg12 => QV.qo (q_fl 0 fld_58_0 rfl rfl rfl)) ?_
  refine wg0 rfl rfl rfl rfl rfl (fun hg13 => QV.qo (q_fl 0 fld_55_0 rfl (gu hg13 rfl) rfl)) ?_
  refine wg0 rfl rfl rfl rfl rfl (fun hg14 => QV.qo (q_ldl (i := 0) (v := .int .i64 v_.dot.s) rfl rfl Try.isAgg3 (gu hg14 rfl) rfl)) ?_
  obtain ⟨z16, hz17, h⟩ := bnd h
  refine wg0 rfl rfl rfl rfl rfl (fun hg15 => (q_call (call_run Try.call53 rfl rfl (args2 (gu hg15 rfl) (gu hg15 rfl))) (fun w hw => t_firthref03_Top (hv_.2.2.1.2.mono hw.sat.le_all) hv_.2.2.1.1 v_.dot.s hv_.1 (Sat.all w) (gc_of hz17 hg15)))) ?_
  refine wg0 rfl rfl rfl rfl rfl (fun hg18 => QV.qo (q_fl 0 fld_58_0 rfl rfl rfl)) ?_
  refine wg0 rfl rfl rfl rfl rfl (fun hg19 => QV.qo (q_fl 1 fld_55_1 rfl (gu hg19 rfl) rfl)) ?_
  refine wg0 rfl rfl rfl rfl rfl (fun hg20 => QV.qo (q_ldl (i := 0) (v := .int .i64 v_.dot.n) rfl rfl Try.isAgg2 (gu hg20 rfl) rfl)) ?_
  refine wg0 rfl rfl rfl rfl rfl (fun hg21 => QV.qo (q_geq rfl (gu hg21 rfl) (gu hg21 rfl))) ?_
  refine wa rfl rfl rfl (q_pick rfl rfl (pk_or' (g := ((!z2) || (!z7))) (y := (decide (v_.dot.n ≤ z16))))) ?_
  refine WQ.nil ?_
  change WC _ _ _ _ _ _
  refine WC.cif h (by kernel_rfl) (fun hb22 h => ?_) (fun hb22 h => ?_)
  · skip
    refine WC.rs ?_
    refine va rfl rfl rfl (q_assign (v := .bool false) rfl (by kernel_rfl)) ?_
    refine WR.nil ?_
    change WC _ _ _ _ _ _
    refine WC.ret ?_
    intro w hw
    obtain rfl := Option.some.inj h
    subst hF
    exact ⟨by kernel_rfl, hw.fr⟩
  · skip
    refine WC.skip ?_
    change WC _ _ _ _ _ _
    refine WC.seq ?_
    refine WC.rs ?_
    refine va rfl rfl rfl (q_fl 3 fld_58_2 rfl rfl rfl) ?_
    refine va rfl rfl rfl (q_ldl (i := 0) (v := .bool v_.gone) rfl rfl Try.isAgg4 rfl rfl) ?_
    refine WR.nil ?_
    change WC _ _ _ _ _ _
    refine WC.cif h (by kernel_rfl) (fun hb23 h => ?_) (fun hb23 h => ?_)
    · skip
      refine WC.rs ?_
      refine va rfl rfl rfl (q_fl 4 fld_58_3 rfl rfl rfl) ?_
      refine va rfl rfl rfl (q_ldl (i := 0) (v := .string v_.val) rfl rfl Try.isAgg9 rfl rfl) ?_
      refine va rfl rfl rfl (q_seql rfl rfl rfl) ?_
      refine va rfl rfl rfl (q_assign (v := .bool (v_.val == ByteArray.empty)) rfl (by kernel_rfl)) ?_
      refine WR.nil ?_
      change WC _ _ _ _ _ _
      refine WC.ret ?_
      intro w hw
      obtain rfl := Option.some.inj h
      subst hF
      exact ⟨by kernel_rfl, hw.fr⟩
    · skip
      refine WC.skip ?_
      change WC _ _ _ _ _ _
      refine WC.rs ?_
      refine va rfl rfl rfl (q_fl 4 fld_58_3 rfl rfl rfl) ?_
      refine va rfl rfl rfl (q_ldl (i := 0) (v := .string v_.val) rfl rfl Try.isAgg9 rfl rfl) ?_
      refine va rfl rfl rfl (q_len_str rfl Try.underlying9 rfl) ?_
      refine va rfl rfl rfl (q_leq rfl rfl rfl) ?_
      refine va rfl rfl rfl (q_assign (v := .bool (decide (((v_.val.size : Nat) : Int) ≤ 256))) rfl (by kernel_rfl)) ?_
      refine WR.nil ?_
      change WC _ _ _ _ _ _
      refine WC.ret ?_
      intro w hw
      obtain rfl := Option.some.inj h
      subst hF
      exact ⟨by kernel_rfl, hw.fr⟩
set_option maxRecDepth 100000 in
set_option maxHeartbeats 400000 in
theorem t_firthref03_Has {Γ : Gh} {w0 : World} {Al : Option Addr} {cl : Nat} {l : List Span} (hl : Sl spanT Γ Al l) (hlc : l.length ≤ cl) (d : Dot) (hd : Dot.fits Γ  d) (hs : Sat Γ w0) {r : Bool} (h : m_firthref03_Has l d = some r) : Calls Try.prog 55 #[.slice Al l.length cl, .agg #[.int .i64 d.s, .int .i64 d.n]] w0 (fun e w' => e = .returned (.bool r) ∧ Fr no w0 w') := by
  refine calls_of (N := 40) (rs := [4]) (args := [.slice Al l.length cl, .agg #[.int .i64 d.s, .int .i64 d.n]]) Try.func55 rfl Try.ntmps55 Try.results55 rfl ?_
  obtain ⟨F, hF⟩ : ∃ F : Fm, F = ⟨no, w0, Γ⟩ := ⟨_, rfl⟩
  refine WC.here (C := CC F Γ []) ?_ (hF ▸ Cur.start0 hs)
  refine WC.rs ?_
  refine e_box (v := .agg #[.int .i64 d.s, .int .i64 d.n]) rfl rfl rfl rfl (by kernel_rfl) ?_
  intro g1
  refine va rfl rfl rfl (q_assign (v := .bool false) rfl (by kernel_rfl)) ?_
  refine WR.nil ?_
  change WC _ _ _ _ _ _
  refine WC.seq ?_
  refine WC.rs ?_
  refine va rfl rfl rfl (q_assign (v := .int .i64 0) rfl (by kernel_rfl)) ?_
  refine WR.nil ?_
  change WC _ _ _ _ _ _
  refine WC.block ?_
  refine WC.forI h (fun (i3 : Nat) (s : Unit) σ w => match s with | () => slots σ [(0, .slice Al l.length cl), (3, .pointer (some ⟨g1, 0, none⟩)), (5, .int .i64 ((i3 : Nat) : Int))] ∧ CC F Γ [[(g1, .cells #[.int .i64 d.s, .int .i64 d.n] 55 (0, 0))]] w ∧ True) ?_ ?_
  · skip
    intro w hw
    exact ⟨(sl_ (by kernel_rfl)), hw, trivial⟩
  rintro f2 i3 ⟨⟩ σ w hi4 hlt5 hge6 ⟨hsl, hw, -⟩
  refine Wpt.slots hsl ?_
  refine WC.here (C := CC F Γ [[(g1, .cells #[.int .i64 d.s, .int .i64 d.n] 55 (0, 0))]]) ?_ hw
  clear hw hsl
  refine WC.seq ?_
  refine WC.rs ?_
  refine va rfl rfl rfl (q_move (v := .int .i64 ((i3 : Nat) : Int)) rfl (by kernel_rfl)) ?_
  refine va rfl rfl rfl (q_move (v := .slice Al l.length cl) rfl (by kernel_rfl)) ?_
  refine va rfl rfl rfl (q_len_slice rfl Try.underlying56 rfl) ?_
  refine va rfl rfl rfl (q_lss rfl rfl rfl) ?_
  refine WR.nil ?_
  change WC _ _ _ _ _ _
  refine WC.cond (b := (decide (((i3 : Nat) : Int) < ((l.length : Nat) : Int)))) (by kernel_rfl) (fun hb7 => ?_) (fun hb7 => ?_)
  · skip
    have hl8 := ilt hb7
    have h := hlt5 hl8
    refine WC.skip ?_
    change WC _ _ _ _ _ _
    refine WC.seq ?_
    refine WC.block ?_
    refine WC.seq ?_
    refine WC.dr (by kernel_rfl) (by kernel_rfl) (fun w hw => hw.drawn _) ?_
    refine wa rfl rfl rfl (q_move (v := .slice Al l.length cl) rfl (by kernel_rfl)) ?_
    refine wa rfl rfl rfl (q_move (v := .int .i64 ((i3 : Nat) : Int)) rfl (by kernel_rfl)) ?_
    refine wa rfl rfl rfl (q_ixn (i := i3) Try.underlying56 Try.sizeOf106 rfl rfl rfl hl8 (hl.some_ hl8)) ?_
    refine wa rfl rfl rfl (q_field_addr (i3 * 3) fld_106_0 rfl rfl (hl.some_ hl8) rfl) ?_
    refine wa rfl rfl rfl (q_ld (c := 0) (v := .int .i64 (gt l i3).s) (hl.spanT_at hl8).2 rfl Try.isAgg3 rfl rfl) ?_
    refine wa rfl rfl rfl (q_fl 0 fld_55_0 rfl rfl rfl) ?_
    refine wa rfl rfl rfl (q_ldl (i := 0) (v := .int .i64 d.s) rfl rfl Try.isAgg3 rfl rfl) ?_
    refine wa rfl rfl rfl (q_eql rfl rfl rfl) ?_
    refine wa rfl rfl rfl (q_move (v := .bool ((gt l i3).s == d.s)) rfl (by kernel_rfl)) ?_
    refine wg1 rfl rfl rfl rfl rfl (fun hg9 => QV.qo (q_fl 1 fld_55_1 rfl rfl rfl)) ?_
    refine wg1 rfl rfl rfl rfl rfl (fun hg10 => QV.qo (q_ldl (i := 0) (v := .int .i64 d.n) rfl rfl Try.isAgg2 (gu hg10 rfl) rfl)) ?_
    refine wg1 rfl rfl rfl rfl rfl (fun hg11 => QV.qo (q_move (v := .slice Al l.length cl) rfl (by kernel_rfl))) ?_
    refine wg1 rfl rfl rfl rfl rfl (fun hg12 => QV.qo (q_move (v := .int .i64 ((i3 : Nat) : Int)) rfl (by kernel_rfl))) ?_
    refine wg1 rfl rfl rfl rfl rfl (fun hg13 => QV.qo (q_ixn (i := i3) Try.underlying56 Try.sizeOf106 rfl (gu hg13 rfl) (gu hg13 rfl) hl8 (hl.some_ hl8))) ?_
    refine wg1 rfl rfl rfl rfl rfl (fun hg14 => QV.qo (q_field_addr (i3 * 3 + 1) fld_106_1 rfl (gu hg14 rfl) (hl.some_ hl8) rfl)) ?_
    refine wg1 rfl rfl rfl rfl rfl (fun hg15 => QV.qo (q_ld (c := 1) (v := .int .i64 (gt l i3).f) (hl.spanT_at hl8).2 rfl Try.isAgg2 (gu hg15 rfl) rfl)) ?_
    refine wg1 rfl rfl rfl rfl rfl (fun hg16 => QV.qo (q_geq rfl (gu hg16 rfl) (gu hg16 rfl))) ?_
    refine wa rfl rfl rfl (q_pick rfl rfl (pk_and' (g := ((gt l i3).s == d.s)) (y := (decide ((gt l i3).f ≤ d.n))))) ?_
    refine wa rfl rfl rfl (q_move (v := .bool (((gt l i3).s == d.s) && (decide ((gt l i3).f ≤ d.n)))) rfl (by kernel_rfl)) ?_
    refine wg1 rfl rfl rfl rfl rfl (fun hg17 => QV.qo (q_fl 1 fld_55_1 rfl rfl rfl)) ?_
    refine wg1 rfl rfl rfl rfl rfl (fun hg18 => QV.qo (q_ldl (i := 0) (v := .int .i64 d.n) rfl rfl Try.isAgg2 (gu hg18 rfl) rfl)) ?_
    refine wg1 rfl rfl rfl rfl rfl (fun hg19 => QV.qo (q_move (v := .slice Al l.length cl) rfl (by kernel_rfl))) ?_
    refine wg1 rfl rfl rfl rfl rfl (fun hg20 => QV.qo (q_move (v := .int .i64 ((i3 : Nat) : Int)) rfl (by kernel_rfl))) ?_
    refine wg1 rfl rfl rfl rfl rfl (fun hg21 => QV.qo (q_ixn (i := i3) Try.underlying56 Try.sizeOf106 rfl (gu hg21 rfl) (gu hg21 rfl) hl8 (hl.some_ hl8))) ?_
    refine wg1 rfl rfl rfl rfl rfl (fun hg22 => QV.qo (q_field_addr (i3 * 3 + 2) fld_106_2 rfl (gu hg22 rfl) (hl.some_ hl8) rfl)) ?_
    refine wg1 rfl rfl rfl rfl rfl (fun hg23 => QV.qo (q_ld (c := 2) (v := .int .i64 (gt l i3).t) (hl.spanT_at hl8).2 rfl Try.isAgg2 (gu hg23 rfl) rfl)) ?_
    refine wg1 rfl rfl rfl rfl rfl (fun hg24 => QV.qo (q_leq rfl (gu hg24 rfl) (gu hg24 rfl))) ?_
    refine wa rfl rfl rfl (q_pick rfl rfl (pk_and' (g := (((gt l i3).s == d.s) && (decide ((gt l i3).f ≤ d.n)))) (y := (decide (d.n ≤ (gt l i3).t))))) ?_
    refine WQ.nil ?_
    change WC _ _ _ _ _ _
    refine WC.cif h (by kernel_rfl) (fun hb25 h => ?_) (fun hb25 h => ?_)
    · skip
      refine WC.rs ?_
      refine va rfl rfl rfl (q_assign (v := .bool true) rfl (by kernel_rfl)) ?_
      refine WR.nil ?_
      change WC _ _ _ _ _ _
      refine WC.ret ?_
      intro w hw
      obtain rfl := Option.some.inj h
      subst hF
      exact ⟨by kernel_rfl, hw.fr⟩
    · skip
      refine WC.skip ?_
      change WC _ _ _ _ _ _
      refine WC.region ?_
      refine va rfl rfl rfl (q_move (v := .int .i64 ((i3 : Nat) : Int)) rfl (by kernel_rfl)) ?_
      refine va rfl rfl rfl (q_add_r (r := ((i3 + 1 : Nat) : Int)) rfl rfl rfl (ctr_len hl8 hl.le)) ?_
      refine va rfl rfl rfl (q_assign (v := .int .i64 ((i3 + 1 : Nat) : Int)) rfl (by kernel_rfl)) ?_
      refine WR.nil ?_
      intro w hw
      exact ⟨hl8, (), h, (sl_ (by kernel_rfl)), hw, trivial⟩
  · skip
    have h := hge6 (ige hb7)
    refine WC.exit ?_
    change WC _ _ _ _ _ _
    refine WC.rs ?_
    refine va rfl rfl rfl (q_assign (v := .bool false) rfl (by kernel_rfl)) ?_
    refine WR.nil ?_
    change WC _ _ _ _ _ _
    refine WC.ret ?_
    intro w hw
    obtain rfl := Option.some.inj h
    subst hF
    exact ⟨by kernel_rfl, hw.fr⟩
set_option maxRecDepth 100000 in
set_option maxHeartbeats 400000 in
theorem t_firthref05_Behind {Γ : Gh} {w0 : World} {Al : Option Addr} {cl : Nat} {l : List Ver} (hl : Sl verT Γ Al l) (hlc : l.length ≤ cl) (d : Dot) (hd : Dot.fits Γ  d) (hs : Sat Γ w0) {r : Bool} (h : m_firthref05_Behind l d = some r) : Calls Try.prog 32 #[.slice Al l.length cl, .agg #[.int .i64 d.s, .int .i64 d.n]] w0 (fun e w' => e = .returned (.bool r) ∧ Fr no w0 w') := by
  refine calls_of (N := 19) (rs := [4]) (args := [.slice Al l.length cl, .agg #[.int .i64 d.s, .int .i64 d.n]]) Try.func32 rfl Try.ntmps32 Try.results32 rfl ?_
  obtain ⟨F, hF⟩ : ∃ F : Fm, F = ⟨no, w0, Γ⟩ := ⟨_, rfl⟩
  refine WC.here (C := CC F Γ []) ?_ (hF ▸ Cur.start0 hs)
  refine WC.rs ?_
  refine e_box (v := .agg #[.int .i64 d.s, .int .i64 d.n]) rfl rfl rfl rfl (by kernel_rfl) ?_
  intro g1
  refine va rfl rfl rfl (q_assign (v := .bool false) rfl (by kernel_rfl)) ?_
  refine WR.nil ?_
  change WC _ _ _ _ _ _
  refine WC.seq ?_
  refine WC.rs ?_
  refine va rfl rfl rfl (q_assign (v := .int .i64 0) rfl (by kernel_rfl)) ?_
  refine WR.nil ?_
  change WC _ _ _ _ _ _
  refine WC.block ?_
  refine WC.forI h (fun (i3 : Nat) (s : Unit) σ w => match s with | () => slots σ [(0, .slice Al l.length cl), (3, .pointer (some ⟨g1, 0, none⟩)), (5, .int .i64 ((i3 : Nat) : Int))] ∧ CC F Γ [[(g1, .cells #[.int .i64 d.s, .int .i64 d.n] 55 (0, 0))]] w ∧ True) ?_ ?_
  · skip
    intro w hw
    exact ⟨(sl_ (by kernel_rfl)), hw, trivial⟩
  rintro f2 i3 ⟨⟩ σ w hi4 hlt5 hge6 ⟨hsl, hw, -⟩
  refine Wpt.slots hsl ?_
  refine WC.here (C := CC F Γ [[(g1, .cells #[.int .i64 d.s, .int .i64 d.n] 55 (0, 0))]]) ?_ hw
  clear hw hsl
  refine WC.seq ?_
  refine WC.rs ?_
  refine va rfl rfl rfl (q_move (v := .int .i64 ((i3 : Nat) : Int)) rfl (by kernel_rfl)) ?_
  refine va rfl rfl rfl (q_move (v := .slice Al l.length cl) rfl (by kernel_rfl)) ?_
  refine va rfl rfl rfl (q_len_slice rfl Try.underlying40 rfl) ?_
  refine va rfl rfl rfl (q_lss rfl rfl rfl) ?_
  refine WR.nil ?_
  change WC _ _ _ _ _ _
  refine WC.cond (b := (decide (((i3 : Nat) : Int) < ((l.length : Nat) : Int)))) (by kernel_rfl) (fun hb7 => ?_) (fun hb7 => ?_)
  · skip
    have hl8 := ilt hb7
    have h := hlt5 hl8
    refine WC.skip ?_
    change WC _ _ _ _ _ _
    refine WC.seq ?_
    refine WC.block ?_
    refine WC.seq ?_
    refine WC.dr (by kernel_rfl) (by kernel_rfl) (fun w hw => hw.drawn _) ?_
    refine wa rfl rfl rfl (q_move (v := .slice Al l.length cl) rfl (by kernel_rfl)) ?_
    refine wa rfl rfl rfl (q_move (v := .int .i64 ((i3 : Nat) : Int)) rfl (by kernel_rfl)) ?_
    refine wa rfl rfl rfl (q_ixn (i := i3) Try.underlying40 Try.sizeOf58 rfl rfl rfl hl8 (hl.some_ hl8)) ?_
    refine wa rfl rfl rfl (q_field_addr (i3 * 5 + 2) fld_58_1 rfl rfl (hl.some_ hl8) rfl) ?_
    obtain ⟨A9, c10, hx11⟩ := hl.verT_at i3
    refine wa rfl rfl rfl (q_ld (c := 2) (v := .slice A9 ((gt l i3).past).length c10) (hx11 hl8).2 rfl Try.isAgg56 rfl rfl) ?_
    refine wa rfl rfl rfl (q_ldla (i := 0) (vs := [.int .i64 d.s, .int .i64 d.n]) rfl rfl Try.isAgg55 Try.sizeOf55 rfl rfl) ?_
    obtain ⟨z12, hz13, h⟩ := bnd h
    refine wc rfl rfl rfl (q_call (call_run Try.call55 rfl rfl (by kernel_rfl)) (fun w hw => t_firthref03_Has ((hx11 hl8).1.2.2.1.2.mono hw.sat.le_all) (hx11 hl8).1.2.2.1.1 d hd (Sat.all w) hz13)) ?_
    refine WQ.nil ?_
    change WC _ _ _ _ _ _
    refine WC.cif h (by kernel_rfl) (fun hb14 h => ?_) (fun hb14 h => ?_)
    · skip
      refine WC.rs ?_
      refine va rfl rfl rfl (q_assign (v := .bool true) rfl (by kernel_rfl)) ?_
      refine WR.nil ?_
      change WC _ _ _ _ _ _
      refine WC.ret ?_
      intro w hw
      obtain rfl := Option.some.inj h
      subst hF
      exact ⟨by kernel_rfl, hw.fr⟩
    · skip
      refine WC.skip ?_
      change WC _ _ _ _ _ _
      refine WC.region ?_
      refine va rfl rfl rfl (q_move (v := .int .i64 ((i3 : Nat) : Int)) rfl (by kernel_rfl)) ?_
      refine va rfl rfl rfl (q_add_r (r := ((i3 + 1 : Nat) : Int)) rfl rfl rfl (ctr_len hl8 hl.le)) ?_
      refine va rfl rfl rfl (q_assign (v := .int .i64 ((i3 + 1 : Nat) : Int)) rfl (by kernel_rfl)) ?_
      refine WR.nil ?_
      intro w hw
      exact ⟨hl8, (), h, (sl_ (by kernel_rfl)), hw, trivial⟩
  · skip
    have h := hge6 (ige hb7)
    refine WC.exit ?_
    change WC _ _ _ _ _ _
    refine WC.rs ?_
    refine va rfl rfl rfl (q_assign (v := .bool false) rfl (by kernel_rfl)) ?_
    refine WR.nil ?_
    change WC _ _ _ _ _ _
    refine WC.ret ?_
    intro w hw
    obtain rfl := Option.some.inj h
    subst hF
    exact ⟨by kernel_rfl, hw.fr⟩
set_option maxRecDepth 100000 in
set_option maxHeartbeats 400000 in
theorem t_firthref05_Less {Γ : Gh} {w0 : World} (a : Dot) (ha : Dot.fits Γ  a) (b : Dot) (hb : Dot.fits Γ  b) (hs : Sat Γ w0) {r : Bool} (h : m_firthref05_Less a b = some r) : Calls Try.prog 50 #[.agg #[.int .i64 a.s, .int .i64 a.n], .agg #[.int .i64 b.s, .int .i64 b.n]] w0 (fun e w' => e = .returned (.bool r) ∧ Fr no w0 w') := by
  refine calls_of (N := 20) (rs := [4]) (args := [.agg #[.int .i64 a.s, .int .i64 a.n], .agg #[.int .i64 b.s, .int .i64 b.n]]) Try.func50 rfl Try.ntmps50 Try.results50 rfl ?_
  obtain ⟨F, hF⟩ : ∃ F : Fm, F = ⟨no, w0, Γ⟩ := ⟨_, rfl⟩
  refine WC.here (C := CC F Γ []) ?_ (hF ▸ Cur.start0 hs)
  refine WC.rs ?_
  refine e_box (v := .agg #[.int .i64 a.s, .int .i64 a.n]) rfl rfl rfl rfl (by kernel_rfl) ?_
  intro g1
  refine e_box (v := .agg #[.int .i64 b.s, .int .i64 b.n]) rfl rfl rfl rfl (by kernel_rfl) ?_
  intro g2
  refine va rfl rfl rfl (q_assign (v := .bool false) rfl (by kernel_rfl)) ?_
  refine WR.nil ?_
  change WC _ _ _ _ _ _
  refine WC.seq ?_
  refine WC.rs ?_
  refine va rfl rfl rfl (q_fl 0 fld_55_0 rfl rfl rfl) ?_
  refine va rfl rfl rfl (q_ldl (i := 1) (v := .int .i64 a.s) rfl rfl Try.isAgg3 rfl rfl) ?_
  refine va rfl rfl rfl (q_fl 0 fld_55_0 rfl rfl rfl) ?_
  refine va rfl rfl rfl (q_ldl (i := 0) (v := .int .i64 b.s) rfl rfl Try.isAgg3 rfl rfl) ?_
  refine va rfl rfl rfl (q_neq rfl rfl rfl) ?_
  refine WR.nil ?_
  change WC _ _ _ _ _ _
  refine WC.cif h (by kernel_rfl) (fun hb3 h => ?_) (fun hb3 h => ?_)
  · skip
    refine WC.rs ?_
    refine va rfl rfl rfl (q_fl 0 fld_55_0 rfl rfl rfl) ?_
    refine va rfl rfl rfl (q_ldl (i := 1) (v := .int .i64 a.s) rfl rfl Try.isAgg3 rfl rfl) ?_
    refine va rfl rfl rfl (q_fl 0 fld_55_0 rfl rfl rfl) ?_
    refine va rfl rfl rfl (q_ldl (i := 0) (v := .int .i64 b.s) rfl rfl Try.isAgg3 rfl rfl) ?_
    refine va rfl rfl rfl (q_lss rfl rfl rfl) ?_
    refine va rfl rfl rfl (q_assign (v := .bool (decide (a.s < b.s))) rfl (by kernel_rfl)) ?_
    refine WR.nil ?_
    change WC _ _ _ _ _ _
    refine WC.ret ?_
    intro w hw
    obtain rfl := Option.some.inj h
    subst hF
    exact ⟨by kernel_rfl, hw.fr⟩
  · skip
    refine WC.skip ?_
    change WC _ _ _ _ _ _
    refine WC.rs ?_
    refine va rfl rfl rfl (q_fl 1 fld_55_1 rfl rfl rfl) ?_
    refine va rfl rfl rfl (q_ldl (i := 1) (v := .int .i64 a.n) rfl rfl Try.isAgg2 rfl rfl) ?_
    refine va rfl rfl rfl (q_fl 1 fld_55_1 rfl rfl rfl) ?_
    refine va rfl rfl rfl (q_ldl (i := 0) (v := .int .i64 b.n) rfl rfl Try.isAgg2 rfl rfl) ?_
    refine va rfl rfl rfl (q_lss rfl rfl rfl) ?_
    refine va rfl rfl rfl (q_assign (v := .bool (decide (a.n < b.n))) rfl (by kernel_rfl)) ?_
    refine WR.nil ?_
    change WC _ _ _ _ _ _
    refine WC.ret ?_
    intro w hw
    obtain rfl := Option.some.inj h
    subst hF
    exact ⟨by kernel_rfl, hw.fr⟩
set_option maxRecDepth 100000 in
set_option maxHeartbeats 400000 in
theorem t_firthref05_Right {Γ : Gh} {w0 : World} {Al : Option Addr} {cl : Nat} {l : List Ver} (hl : Sl verT Γ Al l) (hlc : l.length ≤ cl) (hs : Sat Γ w0) {r : Bool} (h : m_firthref05_Right l = some r) : Calls Try.prog 29 #[.slice Al l.length cl] w0 (fun e w' => e = .returned (.bool r) ∧ Fr no w0 w') := by
  refine calls_of (N := 45) (rs := [2]) (args := [.slice Al l.length cl]) Try.func29 rfl Try.ntmps29 Try.results29 rfl ?_
  obtain ⟨F, hF⟩ : ∃ F : Fm, F = ⟨no, w0, Γ⟩ := ⟨_, rfl⟩
  refine WC.here (C := CC F Γ []) ?_ (hF ▸ Cur.start0 hs)
  refine WC.rs ?_
  refine va rfl rfl rfl (q_assign (v := .bool false) rfl (by kernel_rfl)) ?_
  refine WR.nil ?_
  change WC _ _ _ _ _ _
  refine WC.seq ?_
  refine WC.rs ?_
  refine va rfl rfl rfl (q_move (v := .slice Al l.length cl) rfl (by kernel_rfl)) ?_
  refine va rfl rfl rfl (q_len_slice rfl Try.underlying40 rfl) ?_
  refine va rfl rfl rfl (q_gtr rfl rfl rfl) ?_
  refine WR.nil ?_
  change WC _ _ _ _ _ _
  refine WC.cif h (by kernel_rfl) (fun hb1 h => ?_) (fun hb1 h => ?_)
  · skip
    refine WC.rs ?_
    refine va rfl rfl rfl (q_assign (v := .bool false) rfl (by kernel_rfl)) ?_
    refine WR.nil ?_
    change WC _ _ _ _ _ _
    refine WC.ret ?_
    intro w hw
    obtain rfl := Option.some.inj h
    subst hF
    exact ⟨by kernel_rfl, hw.fr⟩
  · skip
    refine WC.skip ?_
    change WC _ _ _ _ _ _
    refine WC.seq ?_
    refine WC.rs ?_
    refine va rfl rfl rfl (q_assign (v := .int .i64 0) rfl (by kernel_rfl)) ?_
    refine WR.nil ?_
    change WC _ _ _ _ _ _
    refine WC.block ?_
    refine WC.forI h (fun (i3 : Nat) (s : Unit) σ w => match s with | () => slots σ [(0, .slice Al l.length cl), (3, .int .i64 ((i3 : Nat) : Int))] ∧ CC F Γ [] w ∧ True) ?_ ?_
    · skip
      intro w hw
      exact ⟨(sl_ (by kernel_rfl)), hw, trivial⟩
    rintro f2 i3 ⟨⟩ σ w hi4 hlt5 hge6 ⟨hsl, hw, -⟩
    refine Wpt.slots hsl ?_
    refine WC.here (C := CC F Γ []) ?_ hw
    clear hw hsl
    refine WC.seq ?_
    refine WC.rs ?_
    refine va rfl rfl rfl (q_move (v := .int .i64 ((i3 : Nat) : Int)) rfl (by kernel_rfl)) ?_
    refine va rfl rfl rfl (q_move (v := .slice Al l.length cl) rfl (by kernel_rfl)) ?_
    refine va rfl rfl rfl (q_len_slice rfl Try.underlying40 rfl) ?_
    refine va rfl rfl rfl (q_lss rfl rfl rfl) ?_
    refine WR.nil ?_
    change WC _ _ _ _ _ _
    refine WC.cond (b := (decide (((i3 : Nat) : Int) < ((l.length : Nat) : Int)))) (by kernel_rfl) (fun hb7 => ?_) (fun hb7 => ?_)
    · skip
      have hl8 := ilt hb7
      have h := hlt5 hl8
      refine WC.skip ?_
      change WC _ _ _ _ _ _
      refine WC.seq ?_
      refine WC.block ?_
      refine WC.seq ?_
      refine WC.rs ?_
      refine va rfl rfl rfl (q_move (v := .slice Al l.length cl) rfl (by kernel_rfl)) ?_
      refine va rfl rfl rfl (q_move (v := .int .i64 ((i3 : Nat) : Int)) rfl (by kernel_rfl)) ?_
      refine va rfl rfl rfl (q_ixn (i := i3) Try.underlying40 Try.sizeOf58 rfl rfl rfl hl8 (hl.some_ hl8)) ?_
      obtain ⟨A9, c10, hx11⟩ := hl.verT_at i3
      refine va rfl rfl rfl (q_lda (c := 0) (vs := [.int .i64 (gt l i3).dot.s, .int .i64 (gt l i3).dot.n, .slice A9 ((gt l i3).past).length c10, .bool (gt l i3).gone, .string (gt l i3).val]) (hx11 hl8).2 rfl Try.isAgg58 Try.sizeOf58 rfl rfl rfl) ?_
      obtain ⟨z12, hz13, h⟩ := bnd h
      refine vc rfl rfl rfl (q_call (call_run Try.call30 rfl rfl (by kernel_rfl)) (fun w hw => t_firthref05_RightOne (gt l i3) (Ver.fits_mono (hx11 hl8).1 hw.sat.le_all) (Sat.all w) hz13)) ?_
      refine va rfl rfl rfl (q_not rfl rfl) ?_
      refine va rfl rfl rfl (q_move (v := .bool (!z12)) rfl (by kernel_rfl)) ?_
      refine vg0 rfl rfl rfl rfl rfl (fun hg14 => QV.qo (q_move (v := .slice Al l.length cl) rfl (by kernel_rfl))) ?_
      refine vg0 rfl rfl rfl rfl rfl (fun hg15 => QV.qo (q_move (v := .slice Al l.length cl) rfl (by kernel_rfl))) ?_
      refine vg0 rfl rfl rfl rfl rfl (fun hg16 => QV.qo (q_move (v := .int .i64 ((i3 : Nat) : Int)) rfl (by kernel_rfl))) ?_
      refine vg0 rfl rfl rfl rfl rfl (fun hg17 => QV.qo (q_ixn (i := i3) Try.underlying40 Try.sizeOf58 rfl (gu hg17 rfl) (gu hg17 rfl) hl8 (hl.some_ hl8))) ?_
      refine vg0 rfl rfl rfl rfl rfl (fun hg18 => QV.qo (q_field_addr (i3 * 5) fld_58_0 rfl (gu hg18 rfl) (hl.some_ hl8) rfl)) ?_
      refine vg0 rfl rfl rfl rfl rfl (fun hg19 => QV.qo (q_lda (c := 0) (vs := [.int .i64 (gt l i3).dot.s, .int .i64 (gt l i3).dot.n]) (hx11 hl8).2 rfl Try.isAgg55 Try.sizeOf55 (gu hg19 rfl) rfl rfl)) ?_
      obtain ⟨z21, hz22, h⟩ := bnd h
      refine vg0 rfl rfl rfl rfl rfl (fun hg20 => (q_call (call_run Try.call32 rfl rfl (args2 (gu hg20 rfl) (gu hg20 rfl))) (fun w hw => t_firthref05_Behind (hl.mono hw.sat.le_all) hlc ((gt l i3).dot) ⟨(hx11 hl8).1.1, (hx11 hl8).1.2.1⟩ (Sat.all w) (gc_of hz22 hg20)))) ?_
      refine va rfl rfl rfl (q_pick rfl rfl (pk_or' (g := (!z12)) (y := z21))) ?_
      refine WR.nil ?_
      change WC _ _ _ _ _ _
      refine WC.cif h (by kernel_rfl) (fun hb23 h => ?_) (fun hb23 h => ?_)
      · skip
        refine WC.rs ?_
        refine va rfl rfl rfl (q_assign (v := .bool false) rfl (by kernel_rfl)) ?_
        refine WR.nil ?_
        change WC _ _ _ _ _ _
        refine WC.ret ?_
        intro w hw
        obtain rfl := Option.some.inj h
        subst hF
        exact ⟨by kernel_rfl, hw.fr⟩
      · skip
        refine WC.skip ?_
        change WC _ _ _ _ _ _
        refine WC.seq ?_
        refine WC.dr (by kernel_rfl) (by kernel_rfl) (fun w hw => hw.drawn _) ?_
        refine wa rfl rfl rfl (q_move (v := .int .i64 ((i3 : Nat) : Int)) rfl (by kernel_rfl)) ?_
        refine wa rfl rfl rfl (q_gtr rfl rfl rfl) ?_
        refine wa rfl rfl rfl (q_move (v := .bool (decide (0 < ((i3 : Nat) : Int)))) rfl (by kernel_rfl)) ?_
        refine wg1 rfl rfl rfl rfl rfl (fun hg24 => QV.qo (q_move (v := .slice Al l.length cl) rfl (by kernel_rfl))) ?_
        refine wg1 rfl rfl rfl rfl rfl (fun hg25 => QV.qo (q_move (v := .int .i64 ((i3 : Nat) : Int)) rfl (by kernel_rfl))) ?_
        refine wg1 rfl rfl rfl rfl rfl (fun hg26 => QV.qo (q_sub rfl (gu hg26 rfl) rfl)) ?_
        obtain ⟨hk28, h⟩ := chk_some h
        refine wg1 rfl rfl rfl rfl rfl (fun hg27 => QV.qo (q_ix Try.underlying40 Try.sizeOf58 rfl (gu hg27 rfl) (gu hg27 rfl) (imp_of hk28 hg27) (hl.some_ (inb_lt (imp_of hk28 hg27))))) ?_
        refine wg1 rfl rfl rfl rfl rfl (fun hg29 => QV.qo (q_field_addr (((w64 (((i3 : Nat) : Int) - 1)).toNat) * 5) fld_58_0 rfl (gu hg29 rfl) (hl.some_ (inb_lt (imp_of hk28 hg29))) rfl)) ?_
        obtain ⟨A31, c32, hx33⟩ := hl.verT_at ((w64 (((i3 : Nat) : Int) - 1)).toNat)
        refine wg1 rfl rfl rfl rfl rfl (fun hg30 => QV.qo (q_lda (c := 0) (vs := [.int .i64 (gt l ((w64 (((i3 : Nat) : Int) - 1)).toNat)).dot.s, .int .i64 (gt l ((w64 (((i3 : Nat) : Int) - 1)).toNat)).dot.n]) (hx33 (inb_lt (imp_of hk28 hg30))).2 rfl Try.isAgg55 Try.sizeOf55 (gu hg30 rfl) rfl rfl)) ?_
        refine wg1 rfl rfl rfl rfl rfl (fun hg34 => QV.qo (q_move (v := .slice Al l.length cl) rfl (by kernel_rfl))) ?_
        refine wg1 rfl rfl rfl rfl rfl (fun hg35 => QV.qo (q_move (v := .int .i64 ((i3 : Nat) : Int)) rfl (by kernel_rfl))) ?_
        refine wg1 rfl rfl rfl rfl rfl (fun hg36 => QV.qo (q_ixn (i := i3) Try.underlying40 Try.sizeOf58 rfl (gu hg36 rfl) (gu hg36 rfl) hl8 (hl.some_ hl8))) ?_
        refine wg1 rfl rfl rfl rfl rfl (fun hg37 => QV.qo (q_field_addr (i3 * 5) fld_58_0 rfl (gu hg37 rfl) (hl.some_ hl8) rfl)) ?_
        refine wg1 rfl rfl rfl rfl rfl (fun hg38 => QV.qo (q_lda (c := 0) (vs := [.int .i64 (gt l i3).dot.s, .int .i64 (gt l i3).dot.n]) (hx11 hl8).2 rfl Try.isAgg55 Try.sizeOf55 (gu hg38 rfl) rfl rfl)) ?_
        obtain ⟨z40, hz41, h⟩ := bnd h
        refine wg1 rfl rfl rfl rfl rfl (fun hg39 => (q_call (call_run Try.call50 rfl rfl (args2 (gu hg39 rfl) (gu hg39 rfl))) (fun w hw => t_firthref05_Less ((gt l ((w64 (((i3 : Nat) : Int) - 1)).toNat)).dot) ⟨(hx33 (inb_lt (imp_of hk28 hg39))).1.1, (hx33 (inb_lt (imp_of hk28 hg39))).1.2.1⟩ ((gt l i3).dot) ⟨(hx11 hl8).1.1, (hx11 hl8).1.2.1⟩ (Sat.all w) (gc_of hz41 hg39)))) ?_
        refine wg1 rfl rfl rfl rfl rfl (fun hg42 => QV.qo (q_not rfl (gu hg42 rfl))) ?_
        refine wa rfl rfl rfl (q_pick rfl rfl (pk_and' (g := (decide (0 < ((i3 : Nat) : Int)))) (y := (!z40)))) ?_
        refine WQ.nil ?_
        change WC _ _ _ _ _ _
        refine WC.cif h (by kernel_rfl) (fun hb43 h => ?_) (fun hb43 h => ?_)
        · skip
          refine WC.rs ?_
          refine va rfl rfl rfl (q_assign (v := .bool false) rfl (by kernel_rfl)) ?_
          refine WR.nil ?_
          change WC _ _ _ _ _ _
          refine WC.ret ?_
          intro w hw
          obtain rfl := Option.some.inj h
          subst hF
          exact ⟨by kernel_rfl, hw.fr⟩
        · skip
          refine WC.skip ?_
          change WC _ _ _ _ _ _
          refine WC.region ?_
          refine va rfl rfl rfl (q_move (v := .int .i64 ((i3 : Nat) : Int)) rfl (by kernel_rfl)) ?_
          refine va rfl rfl rfl (q_add_r (r := ((i3 + 1 : Nat) : Int)) rfl rfl rfl (ctr_len hl8 hl.le)) ?_
          refine va rfl rfl rfl (q_assign (v := .int .i64 ((i3 + 1 : Nat) : Int)) rfl (by kernel_rfl)) ?_
          refine WR.nil ?_
          intro w hw
          exact ⟨hl8, (), h, (sl_ (by kernel_rfl)), hw, trivial⟩
    · skip
      have h := hge6 (ige hb7)
      refine WC.exit ?_
      change WC _ _ _ _ _ _
      refine WC.rs ?_
      refine va rfl rfl rfl (q_assign (v := .bool true) rfl (by kernel_rfl)) ?_
      refine WR.nil ?_
      change WC _ _ _ _ _ _
      refine WC.ret ?_
      intro w hw
      obtain rfl := Option.some.inj h
      subst hF
      exact ⟨by kernel_rfl, hw.fr⟩
abbrev r_firthref10_Own (r : Rec) (U : List Rowb) (Γ : Gh) (v : Value) : Prop := ∃ (A0_1 : Option Addr), ∃ (c0_1 : Nat), v = .agg #[.string r.key, .slice A0_1 r.vers.length c0_1] ∧ U = [] ∧ Rec.fits Γ A0_1 c0_1 r ∧ True
set_option maxRecDepth 100000 in
set_option maxHeartbeats 400000 in
theorem t_firthref10_Own {Γ : Gh} {w0 : World} {Ar_1 : Option Addr} {cr_1 : Nat} (r_ : Rec) (hr_ : Rec.fits Γ Ar_1 cr_1 r_) (hp : Pre [] Γ w0) {r : Rec} (h : m_firthref10_Own r_ = some r) : Calls Try.prog 43 #[.agg #[.string r_.key, .slice Ar_1 r_.vers.length cr_1]] w0 (Outc Γ [] w0 (r_firthref10_Own r)) := by
  refine calls_of_r (N := 35) (rs := [.cell 2 89]) (args := [.agg #[.string r_.key, .slice Ar_1 r_.vers.length cr_1]]) Try.func43 rfl Try.ntmps43 Try.results43 rfl ?_
  obtain ⟨F, hF⟩ : ∃ F : Fm, F = ⟨ids [], w0, Γ⟩ := ⟨_, rfl⟩
  refine WC.here (C := CC F Γ []) ?_ (hF ▸ hp.start)
  refine WC.rs ?_
  refine e_box (v := .agg #[.string r_.key, .slice Ar_1 r_.vers.length cr_1]) rfl rfl rfl rfl (by kernel_rfl) ?_
  intro g1
  refine e_alloc Try.zeroValue89 rfl rfl rfl rfl ?_
  intro g2
  refine WR.nil ?_
  change WC _ _ _ _ _ _
  refine WC.rs ?_
  refine va rfl rfl rfl (q_fl 0 fld_89_0 rfl rfl rfl) ?_
  refine va rfl rfl rfl (q_ldl (i := 1) (v := .string r_.key) rfl rfl Try.isAgg9 rfl rfl) ?_
  refine va rfl rfl rfl (q_build' (v := .agg #[.string r_.key, .slice none 0 0]) rfl (bargs1 rfl) (fun w => by kernel_rfl)) ?_
  refine e_alloc Try.zeroValue89 rfl rfl rfl rfl ?_
  intro g3
  refine e_st (i := 0) (v := .agg #[.string r_.key, .slice none 0 0]) (new := #[.string r_.key, .slice none 0 0]) rfl Try.sizeOf89 rfl rfl rfl rfl (by kernel_rfl) rfl rfl rfl rfl ?_
  refine WR.nil ?_
  change WC _ _ _ _ _ _
  refine WC.seq ?_
  refine WC.rs ?_
  refine va rfl rfl rfl (q_assign (v := .int .i64 0) rfl (by kernel_rfl)) ?_
  refine WR.nil ?_
  change WC _ _ _ _ _ _
  refine WC.block ?_
  refine WC.forI h (fun (i12 : Nat) (x6 : List Ver) σ w => ∃ (Γ4 : Gh), ∃ (A7 : Option Addr), ∃ (c8 : Nat), ∃ (row9 : Rowb), slots σ [(1, .pointer (some ⟨g1, 0, none⟩)), (2, .pointer (some ⟨g2, 0, none⟩)), (3, .pointer (some ⟨g3, 0, none⟩)), (4, .int .i64 ((i12 : Nat) : Int))] ∧ CC F Γ4 [row9, [(g3, .cells #[.string r_.key, .slice A7 x6.length c8] 89 (0, 0))], [(g2, .cells #[.string ByteArray.empty, .slice none 0 0] 89 (0, 0))], [(g1, .cells #[.string r_.key, .slice Ar_1 r_.vers.length cr_1] 89 (0, 0))]] w ∧ Gh.le Γ Γ4 ∧ Own verT Γ4 58 row9 A7 c8 x6 ∧ True) ?_ ?_
  · skip
    intro w hw
    have hw := hw.pad
    exact ⟨Γ, none, 0, [], (sl_ (by kernel_rfl)), hw, (Gh.refl _), (Own.nil verT _ 58), trivial⟩
  rintro f11 i12 x6 σ w hi13 hlt14 hge15 ⟨Γ4, A7, c8, row9, hsl, hw, hl5, ho10, -⟩
  refine Wpt.slots hsl ?_
  refine WC.here (C := CC F Γ4 [row9, [(g3, .cells #[.string r_.key, .slice A7 x6.length c8] 89 (0, 0))], [(g2, .cells #[.string ByteArray.empty, .slice none 0 0] 89 (0, 0))], [(g1, .cells #[.string r_.key, .slice Ar_1 r_.vers.length cr_1] 89 (0, 0))]]) ?_ hw
  clear hw hsl
  refine WC.seq ?_
  refine WC.rs ?_
  refine va rfl rfl rfl (q_move (v := .int .i64 ((i12 : Nat) : Int)) rfl (by kernel_rfl)) ?_
  refine va rfl rfl rfl (q_fl 1 fld_89_1 rfl rfl rfl) ?_
  refine va rfl rfl rfl (q_ldl (i := 3) (v := .slice Ar_1 r_.vers.length cr_1) rfl rfl Try.isAgg40 rfl rfl) ?_
  refine va rfl rfl rfl (q_len_slice rfl Try.underlying40 rfl) ?_
  refine va rfl rfl rfl (q_lss rfl rfl rfl) ?_
  refine WR.nil ?_
  change WC _ _ _ _ _ _
  refine WC.cond (b := (decide (((i12 : Nat) : Int) < ((r_.vers.length : Nat) : Int)))) (by kernel_rfl) (fun hb16 => ?_) (fun hb16 => ?_)
  · skip
    have hl17 := ilt hb16
    have h := hlt14 hl17
    refine WC.skip ?_
    change WC _ _ _ _ _ _
    refine WC.seq ?_
    refine WC.block ?_
    refine WC.rs ?_
    refine va rfl rfl rfl (q_fl 1 fld_89_1 rfl rfl rfl) ?_
    refine va rfl rfl rfl (q_ldl (i := 3) (v := .slice Ar_1 r_.vers.length cr_1) rfl rfl Try.isAgg40 rfl rfl) ?_
    refine va rfl rfl rfl (q_move (v := .int .i64 ((i12 : Nat) : Int)) rfl (by kernel_rfl)) ?_
    refine va rfl rfl rfl (q_ixn (i := i12) Try.underlying40 Try.sizeOf58 rfl rfl rfl hl17 ((hr_.2.2.mono hl5).some_ hl17)) ?_
    obtain ⟨A18, c19, hx20⟩ := (hr_.2.2.mono hl5).verT_at i12
    refine va rfl rfl rfl (q_lda (c := 0) (vs := [.int .i64 (gt r_.vers i12).dot.s, .int .i64 (gt r_.vers i12).dot.n, .slice A18 ((gt r_.vers i12).past).length c19, .bool (gt r_.vers i12).gone, .string (gt r_.vers i12).val]) (hx20 hl17).2 rfl Try.isAgg58 Try.sizeOf58 rfl rfl rfl) ?_
    refine e_alloc Try.zeroValue58 rfl rfl rfl rfl ?_
    intro g21
    refine e_st (i := 0) (v := .agg #[.int .i64 (gt r_.vers i12).dot.s, .int .i64 (gt r_.vers i12).dot.n, .slice A18 ((gt r_.vers i12).past).length c19, .bool (gt r_.vers i12).gone, .string (gt r_.vers i12).val]) (new := #[.int .i64 (gt r_.vers i12).dot.s, .int .i64 (gt r_.vers i12).dot.n, .slice A18 ((gt r_.vers i12).past).length c19, .bool (gt r_.vers i12).gone, .string (gt r_.vers i12).val]) rfl Try.sizeOf58 rfl rfl rfl rfl (by kernel_rfl) rfl rfl rfl rfl ?_
    refine WR.nil ?_
    change WC _ _ _ _ _ _
    refine WC.rs ?_
    refine va rfl rfl rfl (q_assign (v := .slice none 0 0) rfl (by kernel_rfl)) ?_
    refine WR.nil ?_
    change WC _ _ _ _ _ _
    refine WC.rs ?_
    refine va rfl rfl rfl (q_move (v := .slice none 0 0) rfl (by kernel_rfl)) ?_
    refine va rfl rfl rfl (q_fl 2 fld_58_1 rfl rfl rfl) ?_
    refine va rfl rfl rfl (q_ldl (i := 0) (v := .slice A18 ((gt r_.vers i12).past).length c19) rfl rfl Try.isAgg56 rfl rfl) ?_
    refine WR.sub (fun w hw => hw.pad) ?_
    obtain ⟨hk22, h⟩ := chk_some h
    refine e_append (T := spanT) (xs := []) (ys := (gt r_.vers i12).past) elem_56 (i := 0) rfl rfl rfl rfl (by kernel_rfl) rfl rfl (Own.nil spanT Γ4 106) (of_decide_eq_true hk22) (fun w hw => src_sl (hx20 hl17).1.2.2.1.2 hw) ?_
    intro row23 A24 c25 ho26
    refine va rfl rfl rfl (q_assign (v := .slice A24 (gt r_.vers i12).past.length c25) rfl (by kernel_rfl)) ?_
    refine WR.nil ?_
    change WC _ _ _ _ _ _
    refine WC.rs ?_
    refine va rfl rfl rfl (q_move (v := .slice A24 (gt r_.vers i12).past.length c25) rfl (by kernel_rfl)) ?_
    refine va rfl rfl rfl (q_fl 2 fld_58_1 rfl rfl rfl) ?_
    refine e_st (i := 1) (v := .slice A24 (gt r_.vers i12).past.length c25) (new := #[.int .i64 (gt r_.vers i12).dot.s, .int .i64 (gt r_.vers i12).dot.n, .slice A24 (gt r_.vers i12).past.length c25, .bool (gt r_.vers i12).gone, .string (gt r_.vers i12).val]) rfl Try.sizeOf56 rfl rfl rfl rfl (by kernel_rfl) rfl rfl rfl rfl ?_
    refine WR.nil ?_
    change WC _ _ _ _ _ _
    refine WC.region ?_
    refine va rfl rfl rfl (q_fl 1 fld_89_1 rfl rfl rfl) ?_
    refine va rfl rfl rfl (q_ldl (i := 3) (v := .slice A7 x6.length c8) rfl rfl Try.isAgg40 rfl rfl) ?_
    refine va rfl rfl rfl (q_ldla (i := 1) (vs := [.int .i64 (gt r_.vers i12).dot.s, .int .i64 (gt r_.vers i12).dot.n, .slice A24 (gt r_.vers i12).past.length c25, .bool (gt r_.vers i12).gone, .string (gt r_.vers i12).val]) rfl rfl Try.isAgg58 Try.sizeOf58 rfl rfl) ?_
    have hc31 := ho26.capz
    intro w hw; obtain ⟨Γ27, hw, hl28, hr29⟩ := hw.seal (i := 0) rfl; have hs30 := ho26.sl hl28 hr29
    refine WR.here (C := CC F Γ27 [[], [(g21, .cells #[.int .i64 (gt r_.vers i12).dot.s, .int .i64 (gt r_.vers i12).dot.n, .slice A24 ((gt r_.vers i12).past).length c25, .bool (gt r_.vers i12).gone, .string (gt r_.vers i12).val] 58 (0, 0))], row9, [(g3, .cells #[.string r_.key, .slice A7 x6.length c8] 89 (0, 0))], [(g2, .cells #[.string ByteArray.empty, .slice none 0 0] 89 (0, 0))], [(g1, .cells #[.string r_.key, .slice Ar_1 r_.vers.length cr_1] 89 (0, 0))]]) ?_ hw
    clear hw
    refine e_buildSlice (cs := #[.int .i64 (gt r_.vers i12).dot.s, .int .i64 (gt r_.vers i12).dot.n, .slice A24 ((gt r_.vers i12).past).length c25, .bool (gt r_.vers i12).gone, .string (gt r_.vers i12).val]) (e := 58) rfl rfl rfl rfl (fun w => by kernel_rfl) ?_
    intro g32
    obtain ⟨hk33, h⟩ := chk_some h
    refine e_append (T := verT) (xs := x6) (ys := [(gt r_.vers i12)]) elem_40 (i := 3) rfl rfl rfl rfl rfl rfl rfl (ho10.mono hl28) (of_decide_eq_true hk33) (fun w hw => src_one (T := verT) (y := (gt r_.vers i12)) (i := 0) rfl (by exact ⟨A24, c25, rfl, ⟨(hx20 hl17).1.1, (hx20 hl17).1.2.1, ⟨hc31, hs30⟩, (hx20 hl17).1.2.2.2⟩⟩) hw) ?_
    intro row34 A35 c36 ho37
    refine va rfl rfl rfl (q_fl 1 fld_89_1 rfl rfl rfl) ?_
    refine e_st (i := 4) (v := .slice A35 (x6 ++ [(gt r_.vers i12)]).length c36) (new := #[.string r_.key, .slice A35 (x6 ++ [(gt r_.vers i12)]).length c36]) rfl Try.sizeOf40 rfl rfl rfl rfl (by kernel_rfl) rfl rfl rfl rfl ?_
    refine WR.nil ?_
    change WC _ _ _ _ _ _
    refine WC.region ?_
    refine va rfl rfl rfl (q_move (v := .int .i64 ((i12 : Nat) : Int)) rfl (by kernel_rfl)) ?_
    refine va rfl rfl rfl (q_add_r (r := ((i12 + 1 : Nat) : Int)) rfl rfl rfl (ctr_len hl17 (hr_.2.2.mono hl5).le)) ?_
    refine va rfl rfl rfl (q_assign (v := .int .i64 ((i12 + 1 : Nat) : Int)) rfl (by kernel_rfl)) ?_
    refine WR.nil ?_
    intro w hw
    exact ⟨hl17, (x6 ++ [(gt r_.vers i12)]), h, Γ27, A35, c36, row34, (sl_ (by kernel_rfl)), (hw.only (is := [3, 3, 3, 3]) rfl), (hl5.trans hl28), ho37, trivial⟩
  · skip
    have h := hge15 (ige hb16)
    refine WC.exit ?_
    change WC _ _ _ _ _ _
    refine WC.rs ?_
    refine va rfl rfl rfl (q_ldla (i := 1) (vs := [.string r_.key, .slice A7 x6.length c8]) rfl rfl Try.isAgg89 Try.sizeOf89 rfl rfl) ?_
    refine e_st (i := 2) (v := .agg #[.string r_.key, .slice A7 x6.length c8]) (new := #[.string r_.key, .slice A7 x6.length c8]) rfl Try.sizeOf89 rfl rfl rfl rfl (by kernel_rfl) rfl rfl rfl rfl ?_
    refine WR.nil ?_
    change WC _ _ _ _ _ _
    refine WC.ret ?_
    intro w hw
    have hc42 := ho10.capz
    obtain ⟨Γ38, hw, hl39, hr40⟩ := hw.seal (i := 0) rfl; have hs41 := ho10.sl hl39 hr40
    obtain rfl := Option.some.inj h
    subst hF
    exact ⟨[.agg #[.string r_.key, .slice A7 x6.length c8]], (rr_agg (i := 2) (us := [.string r_.key, .slice A7 x6.length c8]) hw rfl Try.isAgg89 Try.sizeOf89 (by kernel_rfl) rfl rr_nil), end_e (is := []) (by kernel_rfl) hw rfl ⟨A7, c8, rfl, rfl, ⟨hr_.1, ⟨hc42, hs41⟩⟩, trivial⟩⟩
abbrev r_firthref16_Ask_GotVers (ga ea : Nat) (r : Ofirthref16_Ask × Bool) (U : List Rowb) (Γ : Gh) (v : Value) : Prop := ∃ (rowa' : Rowb), v = .bool r.2 ∧ U = [rowa'] ∧ Ofirthref16_Ask.ob ea Γ ga rowa' r.1 ∧ True
set_option maxRecDepth 100000 in
set_option maxHeartbeats 400000 in
theorem t_firthref16_Ask_GotVers {Γ : Gh} {w0 : World} {ga ea : Nat} {rowa : Rowb} {a : Ofirthref16_Ask} (ha : Ofirthref16_Ask.ob ea Γ ga rowa a) (node : Int) (hnode : I64 node) {Al : Option Addr} {cl : Nat} {l : List Ver} (hl : Sl verT Γ Al l) (hlc : l.length ≤ cl) (hp : Pre [rowa] Γ w0) {r : Ofirthref16_Ask × Bool} (h : m_firthref16_Ask_GotVers a node l = some r) : Calls Try.prog 20 #[.pointer (some ⟨ga, 0, none⟩), .int .i64 node, .slice Al l.length cl] w0 (Outc Γ [rowa] w0 (r_firthref16_Ask_GotVers ga ea r)) := by
  refine calls_of (N := 34) (rs := [6]) (args := [.pointer (some ⟨ga, 0, none⟩), .int .i64 node, .slice Al l.length cl]) Try.func20 rfl Try.ntmps20 Try.results20 rfl ?_
  obtain ⟨F, hF⟩ : ∃ F : Fm, F = ⟨ids [rowa], w0, Γ⟩ := ⟨_, rfl⟩
  refine WC.here (C := CC F Γ [rowa]) ?_ (hF ▸ hp.start)
  refine WC.rs ?_
  refine va rfl rfl rfl (q_assign (v := .bool false) rfl (by kernel_rfl)) ?_
  refine WR.nil ?_
  change WC _ _ _ _ _ _
  refine WC.rs ?_
  refine va rfl rfl rfl (q_move (v := .pointer (some ⟨ga, 0, none⟩)) rfl (by kernel_rfl)) ?_
  refine va rfl rfl rfl (q_move (v := .int .i64 node) rfl (by kernel_rfl)) ?_
  obtain ⟨z1, hz2, h⟩ := bnd h
  refine vc rfl rfl rfl (q_call (call_run Try.call37 rfl rfl (by kernel_rfl)) (fun w hw => t_firthref16_Ask_place (ha.mono hw.sat.le_all) (hw.ra 0 rfl) node hnode (Sat.all w) hz2)) ?_
  refine va rfl rfl rfl (q_assign (v := .int .i64 z1) rfl (by kernel_rfl)) ?_
  refine WR.nil ?_
  change WC _ _ _ _ _ _
  refine WC.seq ?_
  refine WC.rs ?_
  refine va rfl rfl rfl (q_move (v := .int .i64 z1) rfl (by kernel_rfl)) ?_
  refine va rfl rfl rfl (q_lss rfl rfl rfl) ?_
  refine va rfl rfl rfl (q_move (v := .bool (decide (z1 < 0))) rfl (by kernel_rfl)) ?_
  refine vg0 rfl rfl rfl rfl rfl (fun hg3 => QV.qo (q_move (v := .slice Al l.length cl) rfl (by kernel_rfl))) ?_
  obtain ⟨z5, hz6, h⟩ := bnd h
  refine vg0 rfl rfl rfl rfl rfl (fun hg4 => (q_call (call_run Try.call29 rfl rfl (args1 (gu hg4 rfl))) (fun w hw => t_firthref05_Right (hl.mono hw.sat.le_all) hlc (Sat.all w) (gc_of hz6 hg4)))) ?_
  refine vg0 rfl rfl rfl rfl rfl (fun hg7 => QV.qo (q_not rfl (gu hg7 rfl))) ?_
  refine va rfl rfl rfl (q_pick rfl rfl (pk_or' (g := (decide (z1 < 0))) (y := (!z5)))) ?_
  refine WR.nil ?_
  change WC _ _ _ _ _ _
  refine WC.cif h (by kernel_rfl) (fun hb8 h => ?_) (fun hb8 h => ?_)
  · skip
    refine WC.rs ?_
    refine va rfl rfl rfl (q_assign (v := .bool false) rfl (by kernel_rfl)) ?_
    refine WR.nil ?_
    change WC _ _ _ _ _ _
    refine WC.ret ?_
    intro w hw
    obtain rfl := Option.some.inj h
    subst hF
    exact end_e (is := [0]) (by kernel_rfl) hw rfl ⟨rowa, rfl, rfl, ha, trivial⟩
  · skip
    refine WC.skip ?_
    change WC _ _ _ _ _ _
    refine WC.rs ?_
    refine va rfl rfl rfl (q_move (v := .pointer (some ⟨ga, 0, none⟩)) rfl (by kernel_rfl)) ?_
    refine va rfl rfl rfl (q_nil (A := some ⟨ga, 0, none⟩) rfl rfl rfl) ?_
    refine va rfl rfl rfl (q_fl 2 fld_76_2 rfl rfl rfl) ?_
    have hq := ha
    obtain ⟨A0_9, c0_9, r0_9, A2_9, c2_9, r2_9, A3_9, c3_9, r3_9, A4_9, c4_9, r4_9, hrow_9, ho0_9, ho1_9, ho2_9, ho3_9, ho4_9, -⟩ := hq
    intro w hw; have hw := hw.unfold (i := 0) rfl hrow_9
    refine WR.here (C := CC F Γ [[(ga, .cells #[.slice A0_9 a.list.length c0_9, .int .i64 a.need, .slice A2_9 a.in_.length c2_9, .slice A3_9 a.vers.length c3_9, .slice A4_9 a.recs.length c4_9] ea (0, 0))], r0_9, r2_9, r3_9, r4_9]) ?_ hw
    clear hw
    refine va rfl rfl rfl (q_ldl (i := 0) (v := .slice A2_9 a.in_.length c2_9) rfl rfl Try.isAgg73 rfl rfl) ?_
    refine va rfl rfl rfl (q_move (v := .int .i64 z1) rfl (by kernel_rfl)) ?_
    obtain ⟨hk10, h⟩ := chk_some h
    refine va rfl rfl rfl (q_ix Try.underlying73 Try.sizeOf4 rfl rfl rfl hk10 (ho2_9.some_ (inb_lt hk10))) ?_
    refine e_store_own (T := boolT) (q := z1.toNat) (v := .bool true) (y := true) rfl rfl rfl rfl (by kernel_rfl) Try.sizeOf4 (by exact rfl) (i := 2) rfl ho2_9 (inb_lt hk10) ?_
    intro row11 ho12
    refine WR.nil ?_
    change WC _ _ _ _ _ _
    refine WC.seq ?_
    intro w hw; have h013 := hw.le
    refine WC.here (C := CC F Γ [[(ga, .cells #[.slice A0_9 a.list.length c0_9, .int .i64 a.need, .slice A2_9 a.in_.length c2_9, .slice A3_9 a.vers.length c3_9, .slice A4_9 a.recs.length c4_9] ea (0, 0))], r0_9, row11, r3_9, r4_9]) ?_ hw; clear hw
    refine WC.held (CC F Γ [[(ga, .cells #[.slice A0_9 a.list.length c0_9, .int .i64 a.need, .slice A2_9 a.in_.length c2_9, .slice A3_9 a.vers.length c3_9, .slice A4_9 a.recs.length c4_9] ea (0, 0))]]) (by kernel_rfl) (fun w hw => hw.drawn _) ?_
    change WH _ _ _ _ (CC F Γ [[(ga, .cells #[.slice A0_9 a.list.length c0_9, .int .i64 a.need, .slice A2_9 a.in_.length c2_9, .slice A3_9 a.vers.length c3_9, .slice A4_9 a.recs.length c4_9] ea (0, 0))], r0_9, row11, r3_9, r4_9]) _ 11 #[false, false, false, false, false, false, false, false, false, false, false] _
    refine ht (i := 0) rfl (by kernel_rfl) rfl rfl rfl (fun w hw => hw.back (Gh.refl _) h013 (.cons_cons _ (.cons _ (.cons _ (.cons _ (.cons _ .slnil)))))) (q_move (v := .pointer (some ⟨ga, 0, none⟩)) rfl (by kernel_rfl)) ?_
    refine ht (i := 1) rfl (by kernel_rfl) rfl rfl rfl (fun w hw => hw.back (Gh.refl _) h013 (.cons_cons _ (.cons _ (.cons _ (.cons _ (.cons _ .slnil)))))) (q_nil (A := some ⟨ga, 0, none⟩) rfl rfl rfl) ?_
    refine ht (i := 2) rfl (by kernel_rfl) rfl rfl rfl (fun w hw => hw.back (Gh.refl _) h013 (.cons_cons _ (.cons _ (.cons _ (.cons _ (.cons _ .slnil)))))) (q_fl 3 fld_76_3 rfl rfl rfl) ?_
    refine ht (i := 3) rfl (by kernel_rfl) rfl rfl rfl (fun w hw => hw.back (Gh.refl _) h013 (.cons_cons _ (.cons _ (.cons _ (.cons _ (.cons _ .slnil)))))) (q_ldl (i := 0) (v := .slice A3_9 a.vers.length c3_9) rfl rfl Try.isAgg53 rfl rfl) ?_
    refine ht (i := 4) rfl (by kernel_rfl) rfl rfl rfl (fun w hw => hw.back (Gh.refl _) h013 (.cons_cons _ (.cons _ (.cons _ (.cons _ (.cons _ .slnil)))))) (q_move (v := .int .i64 z1) rfl (by kernel_rfl)) ?_
    refine ht (i := 5) rfl (by kernel_rfl) rfl rfl rfl (fun w hw => hw.back (Gh.refl _) h013 (.cons_cons _ (.cons _ (.cons _ (.cons _ (.cons _ .slnil)))))) (q_move (v := .slice Al l.length cl) rfl (by kernel_rfl)) ?_
    refine ht (i := 6) rfl (by kernel_rfl) rfl rfl rfl (fun w hw => hw.back (Gh.refl _) h013 (.cons_cons _ (.cons _ (.cons _ (.cons _ (.cons _ .slnil)))))) (q_build' (v := .agg #[.string ByteArray.empty, .slice Al l.length cl]) rfl (bargs1 rfl) (fun w => by kernel_rfl)) ?_
    refine WH.lone (i := 7) (by kernel_rfl) rfl ?_
    obtain ⟨z14, hz15, h⟩ := bnd h
    refine e_call (is := []) rfl rfl (call_run Try.call43 rfl rfl (by kernel_rfl)) rfl (fun w hp => t_firthref10_Own (⟨ByteArray.empty, l⟩ : Rec) ⟨(show (ByteArray.empty : ByteArray).size ≤ lim by decide), ⟨hlc, hl⟩⟩ hp hz15) ?_
    rintro Γ16 U18 v19 hl17 ⟨A20, c21, rfl, rfl, hr22, _⟩
    change WR _ _ _ (CC F Γ16 [[(ga, .cells #[.slice A0_9 a.list.length c0_9, .int .i64 a.need, .slice A2_9 a.in_.length c2_9, .slice A3_9 a.vers.length c3_9, .slice A4_9 a.recs.length c4_9] ea (0, 0))], r0_9, row11, r3_9, r4_9]) _ _ (upd _ 31 (.agg #[.string z14.key, .slice A20 z14.vers.length c21]))
    refine WR.nil ?_
    refine WH.next (fun w hw => hw.back hl17 h013 (.cons_cons _ (.cons _ (.cons _ (.cons _ (.cons _ .slnil)))))) ?_
    refine ht (i := 8) rfl (by kernel_rfl) rfl rfl rfl (fun w hw => hw.back hl17 h013 (.cons_cons _ (.cons _ (.cons _ (.cons _ (.cons _ .slnil)))))) (q_field (v := .slice A20 z14.vers.length c21) rfl rfl (fun w => by kernel_rfl)) ?_
    refine WH.lone (i := 9) (by kernel_rfl) rfl ?_
    obtain ⟨hk24, h⟩ := chk_some h
    refine va rfl rfl rfl (q_ix Try.underlying53 Try.sizeOf40 rfl rfl rfl hk24 ((ho3_9.mono hl17).some_ (inb_lt hk24))) ?_
    refine WR.nil ?_
    refine WH.next (fun w hw => hw.back hl17 h013 (.cons_cons _ (.cons _ (.cons _ (.cons _ (.cons _ .slnil)))))) ?_
    refine WH.lone (i := 10) (by kernel_rfl) rfl ?_
    refine e_store_own (T := (slT verT)) (q := z1.toNat) (v := .slice A20 z14.vers.length c21) (y := z14.vers) rfl rfl rfl rfl (by kernel_rfl) Try.sizeOf40 (by exact ⟨A20, c21, rfl, hr22.2.1, hr22.2.2⟩) (i := 3) rfl (ho3_9.mono hl17) (inb_lt hk24) ?_
    intro row25 ho26
    refine WR.nil ?_
    refine WH.next (fun w hw => hw.back hl17 h013 (.cons_cons _ (.cons _ (.cons _ (.cons _ (.cons _ .slnil)))))) ?_
    refine WH.done (by kernel_rfl) ?_
    change WC _ _ _ _ _ _
    refine WC.rs ?_
    refine va rfl rfl rfl (q_assign (v := .bool true) rfl (by kernel_rfl)) ?_
    refine WR.nil ?_
    change WC _ _ _ _ _ _
    refine WC.ret ?_
    intro w hw
    obtain ⟨row_27, hrow_27, hob_27⟩ : ∃ rw : Rowb, rw = ([[(ga, .cells #[.slice A0_9 a.list.length c0_9, .int .i64 a.need, .slice A2_9 a.in_.length c2_9, .slice A3_9 a.vers.length c3_9, .slice A4_9 a.recs.length c4_9] ea (0, 0))], r0_9, row11, row25, r4_9] : List Rowb).flatten ∧ Ofirthref16_Ask.ob ea Γ16 ga rw (⟨a.list, a.need, (List.set a.in_ z1.toNat true), (List.set a.vers z1.toNat z14.vers), a.recs⟩ : Ofirthref16_Ask) := ⟨_, rfl, A0_9, c0_9, r0_9, A2_9, c2_9, row11, A3_9, c3_9, row25, A4_9, c4_9, r4_9, (by simp only [show _ = _ from List.length_set, show _ = _ from List.length_set]), (ho0_9.mono hl17), ho1_9, (ho12.mono hl17), ho26, (ho4_9.mono hl17), trivial⟩
    have hw := hw.fold (is := [0, 0, 0, 0, 0]) rfl hrow_27
    obtain rfl := Option.some.inj h
    subst hF
    exact end_e (is := [0]) (by kernel_rfl) hw rfl ⟨row_27, rfl, rfl, hob_27, trivial⟩
abbrev r_quorum_asking_api_Ver_Waits (ga ea : Nat) (rowa : Rowb) (r : List Int) (U : List Rowb) (Γ : Gh) (v : Value) : Prop := ∃ (A0 : Option Addr), ∃ (c0 : Nat), ∃ (row0 : Rowb), v = .slice A0 r.length c0 ∧ U = [rowa, row0] ∧ Own intT Γ 3 row0 A0 c0 r ∧ True
set_option maxRecDepth 100000 in
set_option maxHeartbeats 400000 in
theorem t_quorum_asking_api_Ver_Waits {Γ : Gh} {w0 : World} {ga ea : Nat} {rowa : Rowb} {a : Oquorum_asking_api_Ver} (ha : Oquorum_asking_api_Ver.ob ea Γ ga rowa a) (hp : Pre [rowa] Γ w0) {r : List Int} (h : m_quorum_asking_api_Ver_Waits a = some r) : Calls Try.prog 45 #[.pointer (some ⟨ga, 0, none⟩)] w0 (Outc Γ [rowa] w0 (r_quorum_asking_api_Ver_Waits ga ea rowa r)) := by
  refine calls_of (N := 34) (rs := [2]) (args := [.pointer (some ⟨ga, 0, none⟩)]) Try.func45 rfl Try.ntmps45 Try.results45 rfl ?_
  obtain ⟨F, hF⟩ : ∃ F : Fm, F = ⟨ids [rowa], w0, Γ⟩ := ⟨_, rfl⟩
  refine WC.here (C := CC F Γ [rowa]) ?_ (hF ▸ hp.start)
  refine WC.rs ?_
  refine va rfl rfl rfl (q_assign (v := .slice none 0 0) rfl (by kernel_rfl)) ?_
  refine WR.nil ?_
  change WC _ _ _ _ _ _
  refine WC.rs ?_
  refine va rfl rfl rfl (q_assign (v := .slice none 0 0) rfl (by kernel_rfl)) ?_
  refine WR.nil ?_
  change WC _ _ _ _ _ _
  refine WC.seq ?_
  refine WC.rs ?_
  refine va rfl rfl rfl (q_move (v := .pointer (some ⟨ga, 0, none⟩)) rfl (by kernel_rfl)) ?_
  refine va rfl rfl rfl (q_nil (A := some ⟨ga, 0, none⟩) rfl rfl rfl) ?_
  refine va rfl rfl rfl (q_fl 0 fld_81_0 rfl rfl rfl) ?_
  have hq := ha
  obtain ⟨A0_1, c0_1, m2_1, r2_1, hrow_1, ho0_1, ho1_1, ho2_1, ho3_1, -⟩ := hq
  intro w hw; have hw := hw.unfold (i := 0) rfl hrow_1
  refine WR.here (C := CC F Γ [[(ga, .cells #[.slice A0_1 a.list.length c0_1, .int .i64 a.need, .map (some m2_1)] ea (0, 0))], r2_1]) ?_ hw
  clear hw
  refine va rfl rfl rfl (q_ldl (i := 0) (v := .slice A0_1 a.list.length c0_1) rfl rfl Try.isAgg22 rfl rfl) ?_
  refine va rfl rfl rfl (q_len_slice rfl Try.underlying22 rfl) ?_
  refine va rfl rfl rfl (q_move (v := .int .i64 0) rfl (by kernel_rfl)) ?_
  refine WR.nil ?_
  change WC _ _ _ _ _ _
  refine WC.block ?_
  intro w hw; have hw := hw.fold (is := [0, 0]) rfl hrow_1
  refine WC.here (C := CC F Γ [rowa]) ?_ hw
  clear hw
  refine WC.forI h (fun (i9 : Nat) (out_3 : List Int) σ w => ∃ (A4 : Option Addr), ∃ (c5 : Nat), ∃ (row6 : Rowb), slots σ [(0, .pointer (some ⟨ga, 0, none⟩)), (3, .slice A4 out_3.length c5), (11, .slice A0_1 a.list.length c0_1), (12, .int .i64 ((a.list.length : Nat) : Int)), (13, .int .i64 ((i9 : Nat) : Int))] ∧ CC F Γ [row6, rowa] w ∧ Own intT Γ 3 row6 A4 c5 out_3 ∧ True) ?_ ?_
  · skip
    intro w hw
    have hw := hw.pad
    exact ⟨none, 0, [], (sl_ (by kernel_rfl)), hw, (Own.nil intT _ 3), trivial⟩
  rintro f8 i9 out_3 σ w hi10 hlt11 hge12 ⟨A4, c5, row6, hsl, hw, ho7, -⟩
  refine Wpt.slots hsl ?_
  refine WC.here (C := CC F Γ [row6, rowa]) ?_ hw
  clear hw hsl
  refine WC.rs ?_
  refine va rfl rfl rfl (q_lss rfl rfl rfl) ?_
  refine WR.nil ?_
  change WC _ _ _ _ _ _
  refine WC.seq ?_
  refine WC.cond (b := (decide (((i9 : Nat) : Int) < ((a.list.length : Nat) : Int)))) (by kernel_rfl) (fun hb13 => ?_) (fun hb13 => ?_)
  · skip
    have hl14 := ilt hb13
    have h := hlt11 hl14
    refine WC.skip ?_
    change WC _ _ _ _ _ _
    refine WC.cut (fun σ w => ∃ (out_15 : List Int), ∃ (A16 : Option Addr), ∃ (c17 : Nat), ∃ (row18 : Rowb), m_quorum_asking_api_Ver_Waits_j5 f8 out_15 = some r ∧ slots σ [(0, .pointer (some ⟨ga, 0, none⟩)), (3, .slice A16 out_15.length c17), (11, .slice A0_1 a.list.length c0_1), (12, .int .i64 ((a.list.length : Nat) : Int)), (13, .int .i64 ((i9 : Nat) : Int))] ∧ CC F Γ [row18, rowa] w ∧ Own intT Γ 3 row18 A16 c17 out_15 ∧ True) ?_ ?_
    · skip
      refine WC.block ?_
      refine WC.rs ?_
      refine va rfl rfl rfl (q_ixn (i := i9) Try.underlying22 Try.sizeOf3 rfl rfl rfl hl14 (ho1_1.some_ hl14)) ?_
      refine va rfl rfl rfl (q_ld (c := 0) (v := .int .i64 (gt a.list i9)) (ho1_1.intT_at hl14).2 rfl Try.isAgg3 rfl rfl) ?_
      refine va rfl rfl rfl (q_assign (v := .int .i64 (gt a.list i9)) rfl (by kernel_rfl)) ?_
      refine WR.nil ?_
      change WC _ _ _ _ _ _
      refine WC.rs ?_
      refine va rfl rfl rfl (q_move (v := .pointer (some ⟨ga, 0, none⟩)) rfl (by kernel_rfl)) ?_
      refine va rfl rfl rfl (q_nil (A := some ⟨ga, 0, none⟩) rfl rfl rfl) ?_
      refine va rfl rfl rfl (q_fl 2 fld_81_2 rfl rfl rfl) ?_
      have hq := ha
      obtain ⟨A0_20, c0_20, m2_20, r2_20, hrow_20, ho0_20, ho1_20, ho2_20, ho3_20, -⟩ := hq
      intro w hw; have hw := hw.unfold (i := 1) rfl hrow_20
      refine WR.here (C := CC F Γ [[(ga, .cells #[.slice A0_20 a.list.length c0_20, .int .i64 a.need, .map (some m2_20)] ea (0, 0))], r2_20, row6]) ?_ hw
      clear hw
      refine va rfl rfl rfl (q_ldl (i := 0) (v := .map (some m2_20)) rfl rfl Try.isAgg79 rfl rfl) ?_
      refine va rfl rfl rfl (q_move (v := .int .i64 (gt a.list i9)) rfl (by kernel_rfl)) ?_
      obtain ⟨v21, ⟨A24, c25, hv22, hc26, hs27⟩, hat23⟩ := MapO.look ho3_20 (gt a.list i9) (z := .slice none 0 0) (zx := []) ⟨none, 0, rfl, Nat.zero_le _, Sl.nil _ _ _⟩
      obtain rfl : v21 = _ := List.cons.inj hv22 |>.1
      refine va rfl rfl rfl (q_lookup2 (v := .slice A24 ((mget (gt a.list i9) a.got).getD []).length c25) hat23 rfl Try.underlying79 Try.zeroValue40 rfl rfl (i := 1) rfl) ?_
      refine va rfl rfl rfl (q_move (v := .tuple #[.slice A24 ((mget (gt a.list i9) a.got).getD []).length c25, .bool ((mget (gt a.list i9) a.got).isSome)]) rfl (by kernel_rfl)) ?_
      refine va rfl rfl rfl (q_extract (v := .slice A24 ((mget (gt a.list i9) a.got).getD []).length c25) rfl rfl rfl) ?_
      refine va rfl rfl rfl (q_extract (v := .bool ((mget (gt a.list i9) a.got).isSome)) rfl rfl rfl) ?_
      refine va rfl rfl rfl (q_assign (v := .slice A24 ((mget (gt a.list i9) a.got).getD []).length c25) rfl (by kernel_rfl)) ?_
      refine va rfl rfl rfl (q_assign (v := .bool ((mget (gt a.list i9) a.got).isSome)) rfl (by kernel_rfl)) ?_
      refine WR.nil ?_
      change WC _ _ _ _ _ _
      refine WC.rs ?_
      refine va rfl rfl rfl (q_move (v := .bool ((mget (gt a.list i9) a.got).isSome)) rfl (by kernel_rfl)) ?_
      refine va rfl rfl rfl (q_not rfl rfl) ?_
      refine WR.nil ?_
      change WC _ _ _ _ _ _
      refine WC.cif h (by kernel_rfl) (fun hb28 h => ?_) (fun hb28 h => ?_)
      · skip
        refine WC.region ?_
        refine va rfl rfl rfl (q_move (v := .slice A4 out_3.length c5) rfl (by kernel_rfl)) ?_
        refine va rfl rfl rfl (q_move (v := .int .i64 (gt a.list i9)) rfl (by kernel_rfl)) ?_
        refine e_buildSlice (cs := #[.int .i64 (gt a.list i9)]) (e := 3) rfl rfl rfl rfl (fun w => by kernel_rfl) ?_
        intro g29
        obtain ⟨hk30, h⟩ := chk_some h
        refine e_append (T := intT) (xs := out_3) (ys := [(gt a.list i9)]) elem_22 (i := 3) rfl rfl rfl rfl rfl rfl rfl ho7 (of_decide_eq_true hk30) (fun w hw => src_one (T := intT) (y := (gt a.list i9)) (i := 0) rfl (by exact ⟨rfl, (ho1_1.intT_at hl14).1⟩) hw) ?_
        intro row31 A32 c33 ho34
        refine va rfl rfl rfl (q_assign (v := .slice A32 (out_3 ++ [(gt a.list i9)]).length c33) rfl (by kernel_rfl)) ?_
        refine WR.nil ?_
        intro w hw
        have hw := hw.fold (is := [1, 1]) rfl hrow_20
        exact ⟨(out_3 ++ [(gt a.list i9)]), A32, c33, row31, h, (sl_ (by kernel_rfl)), (hw.only (is := [2, 0]) rfl), ho34, trivial⟩
      · skip
        refine WC.skip ?_
        intro w hw
        have hw := hw.fold (is := [0, 0]) rfl hrow_20
        exact ⟨out_3, A4, c5, row6, h, (sl_ (by kernel_rfl)), (hw.only (is := [1, 0]) rfl), ho7, trivial⟩
    · skip
      rintro σ w ⟨out_15, A16, c17, row18, h, hsl, hw, ho19, -⟩
      refine Wpt.slots hsl ?_
      refine WC.here (C := CC F Γ [row18, rowa]) ?_ hw
      clear hw hsl
      refine WC.region ?_
      refine va rfl rfl rfl (q_add_r (r := ((i9 + 1 : Nat) : Int)) rfl rfl rfl (ctr_len hl14 ho1_1.le)) ?_
      refine va rfl rfl rfl (q_move (v := .int .i64 ((i9 + 1 : Nat) : Int)) rfl (by kernel_rfl)) ?_
      refine WR.nil ?_
      intro w hw
      exact ⟨hl14, out_15, h, A16, c17, row18, (sl_ (by kernel_rfl)), hw, ho19, trivial⟩
  · skip
    have h := hge12 (ige hb13)
    refine WC.exit ?_
    change WC _ _ _ _ _ _
    refine WC.rs ?_
    refine va rfl rfl rfl (q_move (v := .slice A4 out_3.length c5) rfl (by kernel_rfl)) ?_
    refine va rfl rfl rfl (q_assign (v := .slice A4 out_3.length c5) rfl (by kernel_rfl)) ?_
    refine WR.nil ?_
    change WC _ _ _ _ _ _
    refine WC.ret ?_
    intro w hw
    obtain rfl := Option.some.inj h
    subst hF
    exact end_e (is := [1, 0]) (by kernel_rfl) hw rfl ⟨A4, c5, row6, rfl, rfl, ho7, trivial⟩
abbrev r_quorum_Read_Waits (gr_ er_ : Nat) (rowr_ : Rowb) (r : List Int) (U : List Rowb) (Γ : Gh) (v : Value) : Prop := ∃ (A0 : Option Addr), ∃ (c0 : Nat), ∃ (row0 : Rowb), v = .slice A0 r.length c0 ∧ U = [rowr_, row0] ∧ Own intT Γ 3 row0 A0 c0 r ∧ True
set_option maxRecDepth 100000 in
set_option maxHeartbeats 400000 in
theorem t_quorum_Read_Waits {Γ : Gh} {w0 : World} {gr_ er_ : Nat} {rowr_ : Rowb} {r_ : Oquorum_asking_api_Ver} (hr_ : Oquorum_asking_api_Ver.ob er_ Γ gr_ rowr_ r_) (hp : Pre [rowr_] Γ w0) {r : List Int} (h : m_quorum_Read_Waits r_ = some r) : Calls Try.prog 22 #[.pointer (some ⟨gr_, 0, none⟩)] w0 (Outc Γ [rowr_] w0 (r_quorum_Read_Waits gr_ er_ rowr_ r)) := by
  refine calls_of (N := 7) (rs := [2]) (args := [.pointer (some ⟨gr_, 0, none⟩)]) Try.func22 rfl Try.ntmps22 Try.results22 rfl ?_
  obtain ⟨F, hF⟩ : ∃ F : Fm, F = ⟨ids [rowr_], w0, Γ⟩ := ⟨_, rfl⟩
  refine WC.here (C := CC F Γ [rowr_]) ?_ (hF ▸ hp.start)
  refine WC.rs ?_
  refine va rfl rfl rfl (q_assign (v := .slice none 0 0) rfl (by kernel_rfl)) ?_
  refine WR.nil ?_
  change WC _ _ _ _ _ _
  refine WC.rs ?_
  refine va rfl rfl rfl (q_move (v := .pointer (some ⟨gr_, 0, none⟩)) rfl (by kernel_rfl)) ?_
  refine va rfl rfl rfl (q_nil (A := some ⟨gr_, 0, none⟩) rfl rfl rfl) ?_
  refine va rfl rfl rfl (q_fl 0 fld_85_0 rfl rfl rfl) ?_
  obtain ⟨z1, hz2, h⟩ := bnd h
  refine e_call (is := [0]) rfl rfl (call_run Try.call45 rfl rfl (by kernel_rfl)) rfl (fun w hp => t_quorum_asking_api_Ver_Waits hr_ hp hz2) ?_
  rintro Γ3 U5 v6 hl4 ⟨A7, c8, row9, rfl, rfl, hr10, _⟩
  change WR _ _ _ (CC F Γ3 [rowr_, row9]) _ _ (upd _ 6 (.slice A7 z1.length c8))
  refine va rfl rfl rfl (q_assign (v := .slice A7 z1.length c8) rfl (by kernel_rfl)) ?_
  refine WR.nil ?_
  change WC _ _ _ _ _ _
  refine WC.ret ?_
  intro w hw
  obtain rfl := Option.some.inj h
  subst hF
  exact end_e (is := [0, 0]) (by kernel_rfl) hw rfl ⟨A7, c8, row9, rfl, rfl, hr10, trivial⟩
abbrev r_firthref05_put (r : List Ver) (U : List Rowb) (Γ : Gh) (v : Value) : Prop := ∃ (A0 : Option Addr), ∃ (c0 : Nat), v = .slice A0 r.length c0 ∧ U = [] ∧ r.length ≤ c0 ∧ Sl verT Γ A0 r ∧ True
set_option maxRecDepth 100000 in
set_option maxHeartbeats 400000 in
theorem t_firthref05_put {Γ : Gh} {w0 : World} {Al : Option Addr} {cl : Nat} {l : List Ver} (hl : Sl verT Γ Al l) (hlc : l.length ≤ cl) {Av_2 : Option Addr} {cv_2 : Nat} (v_ : Ver) (hv_ : Ver.fits Γ Av_2 cv_2 v_) (hp : Pre [] Γ w0) {r : List Ver} (h : m_firthref05_put l v_ = some r) : Calls Try.prog 54 #[.slice Al l.length cl, .agg #[.int .i64 v_.dot.s, .int .i64 v_.dot.n, .slice Av_2 v_.past.length cv_2, .bool v_.gone, .string v_.val]] w0 (Outc Γ [] w0 (r_firthref05_put r)) := by
  refine calls_of (N := 52) (rs := [4]) (args := [.slice Al l.length cl, .agg #[.int .i64 v_.dot.s, .int .i64 v_.dot.n, .slice Av_2 v_.past.length cv_2, .bool v_.gone, .string v_.val]]) Try.func54 rfl Try.ntmps54 Try.results54 rfl ?_
  obtain ⟨F, hF⟩ : ∃ F : Fm, F = ⟨ids [], w0, Γ⟩ := ⟨_, rfl⟩
  refine WC.here (C := CC F Γ []) ?_ (hF ▸ hp.start)
  refine WC.rs ?_
  refine e_box (v := .agg #[.int .i64 v_.dot.s, .int .i64 v_.dot.n, .slice Av_2 v_.past.length cv_2, .bool v_.gone, .string v_.val]) rfl rfl rfl rfl (by kernel_rfl) ?_
  intro g1
  refine va rfl rfl rfl (q_assign (v := .slice none 0 0) rfl (by kernel_rfl)) ?_
  refine WR.nil ?_
  change WC _ _ _ _ _ _
  refine WC.rs ?_
  refine va rfl rfl rfl (q_assign (v := .int .i64 0) rfl (by kernel_rfl)) ?_
  refine WR.nil ?_
  change WC _ _ _ _ _ _
  refine WC.seq ?_
  refine WC.block ?_
  refine WC.loopN h (fun (at_2 : Int) σ w => slots σ [(0, .slice Al l.length cl), (3, .pointer (some ⟨g1, 0, none⟩)), (5, .int .i64 at_2)] ∧ CC F Γ [[(g1, .cells #[.int .i64 v_.dot.s, .int .i64 v_.dot.n, .slice Av_2 v_.past.length cv_2, .bool v_.gone, .string v_.val] 58 (0, 0))]] w ∧ I64 at_2 ∧ True) ?_ ?_
  · skip
    intro w hw
    exact ⟨(sl_ (by kernel_rfl)), hw, (show I64 0 by decide), trivial⟩
  rintro f4 at_2 σ w h ⟨hsl, hw, hr3, -⟩
  refine Wpt.slots hsl ?_
  refine WC.here (C := CC F Γ [[(g1, .cells #[.int .i64 v_.dot.s, .int .i64 v_.dot.n, .slice Av_2 v_.past.length cv_2, .bool v_.gone, .string v_.val] 58 (0, 0))]]) ?_ hw
  clear hw hsl
  refine WC.seq ?_
  refine WC.seq ?_
  refine WC.dr (by kernel_rfl) (by kernel_rfl) (fun w hw => hw.drawn _) ?_
  refine wa rfl rfl rfl (q_move (v := .int .i64 at_2) rfl (by kernel_rfl)) ?_
  refine wa rfl rfl rfl (q_move (v := .slice Al l.length cl) rfl (by kernel_rfl)) ?_
  refine wa rfl rfl rfl (q_len_slice rfl Try.underlying40 rfl) ?_
  refine wa rfl rfl rfl (q_lss rfl rfl rfl) ?_
  refine wa rfl rfl rfl (q_move (v := .bool (decide (at_2 < ((l.length : Nat) : Int)))) rfl (by kernel_rfl)) ?_
  refine wg1 rfl rfl rfl rfl rfl (fun hg8 => QV.qo (q_move (v := .slice Al l.length cl) rfl (by kernel_rfl))) ?_
  refine wg1 rfl rfl rfl rfl rfl (fun hg9 => QV.qo (q_move (v := .int .i64 at_2) rfl (by kernel_rfl))) ?_
  obtain ⟨hk11, h⟩ := chk_some h
  refine wg1 rfl rfl rfl rfl rfl (fun hg10 => QV.qo (q_ix Try.underlying40 Try.sizeOf58 rfl (gu hg10 rfl) (gu hg10 rfl) (imp_of hk11 hg10) (hl.some_ (inb_lt (imp_of hk11 hg10))))) ?_
  refine wg1 rfl rfl rfl rfl rfl (fun hg12 => QV.qo (q_field_addr (at_2.toNat * 5) fld_58_0 rfl (gu hg12 rfl) (hl.some_ (inb_lt (imp_of hk11 hg12))) rfl)) ?_
  obtain ⟨A14, c15, hx16⟩ := hl.verT_at at_2.toNat
  refine wg1 rfl rfl rfl rfl rfl (fun hg13 => QV.qo (q_lda (c := 0) (vs := [.int .i64 (gt l at_2.toNat).dot.s, .int .i64 (gt l at_2.toNat).dot.n]) (hx16 (inb_lt (imp_of hk11 hg13))).2 rfl Try.isAgg55 Try.sizeOf55 (gu hg13 rfl) rfl rfl)) ?_
  refine wg1 rfl rfl rfl rfl rfl (fun hg17 => QV.qo (q_fl 0 fld_58_0 rfl rfl rfl)) ?_
  refine wg1 rfl rfl rfl rfl rfl (fun hg18 => QV.qo (q_ldla (i := 0) (vs := [.int .i64 v_.dot.s, .int .i64 v_.dot.n]) rfl rfl Try.isAgg55 Try.sizeOf55 (gu hg18 rfl) rfl)) ?_
  obtain ⟨z20, hz21, h⟩ := bnd h
  refine wg1 rfl rfl rfl rfl rfl (fun hg19 => (q_call (call_run Try.call50 rfl rfl (args2 (gu hg19 rfl) (gu hg19 rfl))) (fun w hw => t_firthref05_Less ((gt l at_2.toNat).dot) ⟨(hx16 (inb_lt (imp_of hk11 hg19))).1.1, (hx16 (inb_lt (imp_of hk11 hg19))).1.2.1⟩ v_.dot ⟨hv_.1, hv_.2.1⟩ (Sat.all w) (gc_of hz21 hg19)))) ?_
  refine wa rfl rfl rfl (q_pick rfl rfl (pk_and' (g := (decide (at_2 < ((l.length : Nat) : Int)))) (y := z20))) ?_
  refine WQ.nil ?_
  change WC _ _ _ _ _ _
  refine WC.cif h (by kernel_rfl) (fun hb22 h => ?_) (fun hb22 h => ?_)
  · skip
    refine WC.skip ?_
    change WC _ _ _ _ _ _
    refine WC.block ?_
    refine WC.region ?_
    refine va rfl rfl rfl (q_move (v := .int .i64 at_2) rfl (by kernel_rfl)) ?_
    refine va rfl rfl rfl (q_add rfl rfl rfl) ?_
    refine va rfl rfl rfl (q_assign (v := .int .i64 (w64 (at_2 + 1))) rfl (by kernel_rfl)) ?_
    refine WR.nil ?_
    intro w hw
    exact ⟨(w64 (at_2 + 1)), h, (sl_ (by kernel_rfl)), hw, (w64_r _), trivial⟩
  · skip
    refine WC.exit ?_
    change WC _ _ _ _ _ _
    refine WC.seq ?_
    refine WC.seq ?_
    refine WC.dr (by kernel_rfl) (by kernel_rfl) (fun w hw => hw.drawn _) ?_
    refine wa rfl rfl rfl (q_move (v := .int .i64 at_2) rfl (by kernel_rfl)) ?_
    refine wa rfl rfl rfl (q_move (v := .slice Al l.length cl) rfl (by kernel_rfl)) ?_
    refine wa rfl rfl rfl (q_len_slice rfl Try.underlying40 rfl) ?_
    refine wa rfl rfl rfl (q_lss rfl rfl rfl) ?_
    refine wa rfl rfl rfl (q_move (v := .bool (decide (at_2 < ((l.length : Nat) : Int)))) rfl (by kernel_rfl)) ?_
    refine wg1 rfl rfl rfl rfl rfl (fun hg23 => QV.qo (q_move (v := .slice Al l.length cl) rfl (by kernel_rfl))) ?_
    refine wg1 rfl rfl rfl rfl rfl (fun hg24 => QV.qo (q_move (v := .int .i64 at_2) rfl (by kernel_rfl))) ?_
    refine wg1 rfl rfl rfl rfl rfl (fun hg25 => QV.qo (q_ix Try.underlying40 Try.sizeOf58 rfl (gu hg25 rfl) (gu hg25 rfl) (imp_of hk11 hg25) (hl.some_ (inb_lt (imp_of hk11 hg25))))) ?_
    refine wg1 rfl rfl rfl rfl rfl (fun hg26 => QV.qo (q_field_addr (at_2.toNat * 5) fld_58_0 rfl (gu hg26 rfl) (hl.some_ (inb_lt (imp_of hk11 hg26))) rfl)) ?_
    refine wg1 rfl rfl rfl rfl rfl (fun hg27 => QV.qo (q_lda (c := 0) (vs := [.int .i64 (gt l at_2.toNat).dot.s, .int .i64 (gt l at_2.toNat).dot.n]) (hx16 (inb_lt (imp_of hk11 hg27))).2 rfl Try.isAgg55 Try.sizeOf55 (gu hg27 rfl) rfl rfl)) ?_
    refine wg1 rfl rfl rfl rfl rfl (fun hg28 => QV.qo (q_fl 0 fld_58_0 rfl rfl rfl)) ?_
    refine wg1 rfl rfl rfl rfl rfl (fun hg29 => QV.qo (q_ldla (i := 0) (vs := [.int .i64 v_.dot.s, .int .i64 v_.dot.n]) rfl rfl Try.isAgg55 Try.sizeOf55 (gu hg29 rfl) rfl)) ?_
    refine wg1 rfl rfl rfl rfl rfl (fun hg30 => QV.qo (q_eql_Dot (a := (gt l at_2.toNat).dot) (b := v_.dot) rfl (gu hg30 rfl) (gu hg30 rfl))) ?_
    refine wa rfl rfl rfl (q_pick rfl rfl (pk_and' (g := (decide (at_2 < ((l.length : Nat) : Int)))) (y := ((gt l at_2.toNat).dot == v_.dot)))) ?_
    refine WQ.nil ?_
    change WC _ _ _ _ _ _
    refine WC.cif h (by kernel_rfl) (fun hb31 h => ?_) (fun hb31 h => ?_)
    · skip
      refine WC.rs ?_
      refine va rfl rfl rfl (q_move (v := .slice Al l.length cl) rfl (by kernel_rfl)) ?_
      refine va rfl rfl rfl (q_assign (v := .slice Al l.length cl) rfl (by kernel_rfl)) ?_
      refine WR.nil ?_
      change WC _ _ _ _ _ _
      refine WC.ret ?_
      intro w hw
      obtain rfl := Option.some.inj h
      subst hF
      exact end_e (is := []) (by kernel_rfl) hw rfl ⟨Al, cl, rfl, rfl, hlc, hl, trivial⟩
    · skip
      refine WC.skip ?_
      change WC _ _ _ _ _ _
      refine WC.rs ?_
      refine va rfl rfl rfl (q_assign (v := .slice none 0 0) rfl (by kernel_rfl)) ?_
      refine WR.nil ?_
      change WC _ _ _ _ _ _
      refine WC.rs ?_
      refine va rfl rfl rfl (q_move (v := .slice none 0 0) rfl (by kernel_rfl)) ?_
      refine va rfl rfl rfl (q_move (v := .slice Al l.length cl) rfl (by kernel_rfl)) ?_
      refine va rfl rfl rfl (q_move (v := .int .i64 at_2) rfl (by kernel_rfl)) ?_
      obtain ⟨hk32, h⟩ := chk_some h
      refine va rfl rfl rfl (q_cut_to (c := cl) (hi := at_2.toNat) (xs := l) Try.underlying40 Try.sizeOf58 rfl rfl (inle_eq rfl hk32) (inle_le hk32) hlc) ?_
      refine WR.sub (fun w hw => hw.pad) ?_
      obtain ⟨hk33, h⟩ := chk_some h
      refine e_append (T := verT) (xs := []) (ys := (List.take at_2.toNat l)) elem_40 (i := 0) rfl rfl rfl rfl (by kernel_rfl) rfl rfl (Own.nil verT Γ 58) (of_decide_eq_true hk33) (fun w hw => src_sl (hl.cut_to (hi := at_2.toNat) (inle_le hk32)) hw) ?_
      intro row34 A35 c36 ho37
      refine va rfl rfl rfl (q_assign (v := .slice A35 (List.take at_2.toNat l).length c36) rfl (by kernel_rfl)) ?_
      refine WR.nil ?_
      change WC _ _ _ _ _ _
      refine WC.rs ?_
      refine va rfl rfl rfl (q_move (v := .slice A35 (List.take at_2.toNat l).length c36) rfl (by kernel_rfl)) ?_
      refine va rfl rfl rfl (q_ldla (i := 1) (vs := [.int .i64 v_.dot.s, .int .i64 v_.dot.n, .slice Av_2 v_.past.length cv_2, .bool v_.gone, .string v_.val]) rfl rfl Try.isAgg58 Try.sizeOf58 rfl rfl) ?_
      refine e_buildSlice (cs := #[.int .i64 v_.dot.s, .int .i64 v_.dot.n, .slice Av_2 v_.past.length cv_2, .bool v_.gone, .string v_.val]) (e := 58) rfl rfl rfl rfl (fun w => by kernel_rfl) ?_
      intro g38
      obtain ⟨hk39, h⟩ := chk_some h
      refine e_append (T := verT) (xs := (List.take at_2.toNat l)) (ys := [v_]) elem_40 (i := 1) rfl rfl rfl rfl rfl rfl rfl ho37 (of_decide_eq_true hk39) (fun w hw => src_one (T := verT) (y := v_) (i := 0) rfl (by exact ⟨Av_2, cv_2, rfl, hv_⟩) hw) ?_
      intro row40 A41 c42 ho43
      refine va rfl rfl rfl (q_assign (v := .slice A41 ((List.take at_2.toNat l) ++ [v_]).length c42) rfl (by kernel_rfl)) ?_
      refine WR.nil ?_
      change WC _ _ _ _ _ _
      refine WC.rs ?_
      refine va rfl rfl rfl (q_move (v := .slice A41 ((List.take at_2.toNat l) ++ [v_]).length c42) rfl (by kernel_rfl)) ?_
      refine va rfl rfl rfl (q_move (v := .slice Al l.length cl) rfl (by kernel_rfl)) ?_
      refine va rfl rfl rfl (q_move (v := .int .i64 at_2) rfl (by kernel_rfl)) ?_
      refine va rfl rfl rfl (q_cut_from (c := cl) (lo := at_2.toNat) (xs := l) Try.underlying40 Try.sizeOf58 rfl rfl (inle_eq rfl hk32) (inle_le hk32)) ?_
      obtain ⟨hk44, h⟩ := chk_some h
      refine e_append (T := verT) (xs := ((List.take at_2.toNat l) ++ [v_])) (ys := (List.drop at_2.toNat l)) elem_40 (i := 1) rfl rfl rfl rfl rfl rfl rfl ho43 (of_decide_eq_true hk44) (fun w hw => src_sl (hl.cut_from (c := cl) (lo := at_2.toNat) (inle_le hk32) hlc) hw) ?_
      intro row45 A46 c47 ho48
      refine va rfl rfl rfl (q_assign (v := .slice A46 (((List.take at_2.toNat l) ++ [v_]) ++ (List.drop at_2.toNat l)).length c47) rfl (by kernel_rfl)) ?_
      refine WR.nil ?_
      change WC _ _ _ _ _ _
      refine WC.ret ?_
      intro w hw
      have hc53 := ho48.capz
      obtain ⟨Γ49, hw, hl50, hr51⟩ := hw.seal (i := 1) rfl; have hs52 := ho48.sl hl50 hr51
      obtain rfl := Option.some.inj h
      subst hF
      exact end_e (is := []) (by kernel_rfl) hw rfl ⟨A46, c47, rfl, rfl, hc53, hs52, trivial⟩
end Fw
end Go.Proofs.Ytlbdlkgboliikaa
