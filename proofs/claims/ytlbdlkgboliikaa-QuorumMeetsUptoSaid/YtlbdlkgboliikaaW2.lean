/- Walks through the functions that the law reaches (printed by a program). No condition. -/
import Derived.Test.YtlbdlkgboliikaaW1
namespace Go.Proofs.Ytlbdlkgboliikaa
namespace Fw
set_option linter.unusedVariables false
set_option linter.unusedSimpArgs false
set_option linter.unusedSectionVars false
open Go.RowKit
set_option maxRecDepth 100000 in
set_option maxHeartbeats 400000 in
theorem t_firthref05_SameOne {Γ : Gh} {w0 : World} {Aa2 : Option Addr} {ca2 : Nat} (a : Ver) (ha : Ver.fits Γ Aa2 ca2 a) {Ab2 : Option Addr} {cb2 : Nat} (b : Ver) (hb : Ver.fits Γ Ab2 cb2 b) (hs : Sat Γ w0) {r : Bool} (h : m_firthref05_SameOne a b = some r) : Calls Try.prog 46 #[.agg #[.int .i64 a.dot.s, .int .i64 a.dot.n, .slice Aa2 a.past.length ca2, .bool a.gone, .string a.val], .agg #[.int .i64 b.dot.s, .int .i64 b.dot.n, .slice Ab2 b.past.length cb2, .bool b.gone, .string b.val]] w0 (fun e w' => e = .returned (.bool r) ∧ Fr no w0 w') := by
  refine calls_of (N := 31) (rs := [4]) (args := [.agg #[.int .i64 a.dot.s, .int .i64 a.dot.n, .slice Aa2 a.past.length ca2, .bool a.gone, .string a.val], .agg #[.int .i64 b.dot.s, .int .i64 b.dot.n, .slice Ab2 b.past.length cb2, .bool b.gone, .string b.val]]) Try.func46 rfl Try.ntmps46 Try.results46 rfl ?_
  obtain ⟨F, hF⟩ : ∃ F : Fm, F = ⟨no, w0, Γ⟩ := ⟨_, rfl⟩
  refine WC.here (C := CC F Γ []) ?_ (hF ▸ Cur.start0 hs)
  refine WC.rs ?_
  refine e_box (v := .agg #[.int .i64 a.dot.s, .int .i64 a.dot.n, .slice Aa2 a.past.length ca2, .bool a.gone, .string a.val]) rfl rfl rfl rfl (by kernel_rfl) ?_
  intro g1
  refine e_box (v := .agg #[.int .i64 b.dot.s, .int .i64 b.dot.n, .slice Ab2 b.past.length cb2, .bool b.gone, .string b.val]) rfl rfl rfl rfl (by kernel_rfl) ?_
  intro g2
  refine va rfl rfl rfl (q_assign (v := .bool false) rfl (by kernel_rfl)) ?_
  refine WR.nil ?_
  change WC _ _ _ _ _ _
  refine WC.rs ?_
  refine va rfl rfl rfl (q_fl 0 fld_58_0 rfl rfl rfl) ?_
  refine va rfl rfl rfl (q_ldla (i := 1) (vs := [.int .i64 a.dot.s, .int .i64 a.dot.n]) rfl rfl Try.isAgg55 Try.sizeOf55 rfl rfl) ?_
  refine va rfl rfl rfl (q_fl 0 fld_58_0 rfl rfl rfl) ?_
  refine va rfl rfl rfl (q_ldla (i := 0) (vs := [.int .i64 b.dot.s, .int .i64 b.dot.n]) rfl rfl Try.isAgg55 Try.sizeOf55 rfl rfl) ?_
  refine va rfl rfl rfl (q_eql_Dot (a := a.dot) (b := b.dot) rfl rfl rfl) ?_
  refine va rfl rfl rfl (q_move (v := .bool (a.dot == b.dot)) rfl (by kernel_rfl)) ?_
  refine vg1 rfl rfl rfl rfl rfl (fun hg3 => QV.qo (q_fl 3 fld_58_2 rfl rfl rfl)) ?_
  refine vg1 rfl rfl rfl rfl rfl (fun hg4 => QV.qo (q_ldl (i := 1) (v := .bool a.gone) rfl rfl Try.isAgg4 (gu hg4 rfl) rfl)) ?_
  refine vg1 rfl rfl rfl rfl rfl (fun hg5 => QV.qo (q_fl 3 fld_58_2 rfl rfl rfl)) ?_
  refine vg1 rfl rfl rfl rfl rfl (fun hg6 => QV.qo (q_ldl (i := 0) (v := .bool b.gone) rfl rfl Try.isAgg4 (gu hg6 rfl) rfl)) ?_
  refine vg1 rfl rfl rfl rfl rfl (fun hg7 => QV.qo (q_beql Try.underlying4 rfl (gu hg7 rfl) (gu hg7 rfl))) ?_
  refine va rfl rfl rfl (q_pick rfl rfl (pk_and' (g := (a.dot == b.dot)) (y := (a.gone == b.gone)))) ?_
  refine va rfl rfl rfl (q_move (v := .bool ((a.dot == b.dot) && (a.gone == b.gone))) rfl (by kernel_rfl)) ?_
  refine vg1 rfl rfl rfl rfl rfl (fun hg8 => QV.qo (q_fl 4 fld_58_3 rfl rfl rfl)) ?_
  refine vg1 rfl rfl rfl rfl rfl (fun hg9 => QV.qo (q_ldl (i := 1) (v := .string a.val) rfl rfl Try.isAgg9 (gu hg9 rfl) rfl)) ?_
  refine vg1 rfl rfl rfl rfl rfl (fun hg10 => QV.qo (q_fl 4 fld_58_3 rfl rfl rfl)) ?_
  refine vg1 rfl rfl rfl rfl rfl (fun hg11 => QV.qo (q_ldl (i := 0) (v := .string b.val) rfl rfl Try.isAgg9 (gu hg11 rfl) rfl)) ?_
  refine vg1 rfl rfl rfl rfl rfl (fun hg12 => QV.qo (q_seql rfl (gu hg12 rfl) (gu hg12 rfl))) ?_
  refine va rfl rfl rfl (q_pick rfl rfl (pk_and' (g := ((a.dot == b.dot) && (a.gone == b.gone))) (y := (a.val == b.val)))) ?_
  refine va rfl rfl rfl (q_move (v := .bool (((a.dot == b.dot) && (a.gone == b.gone)) && (a.val == b.val))) rfl (by kernel_rfl)) ?_
  refine vg1 rfl rfl rfl rfl rfl (fun hg13 => QV.qo (q_fl 2 fld_58_1 rfl rfl rfl)) ?_
  refine vg1 rfl rfl rfl rfl rfl (fun hg14 => QV.qo (q_ldl (i := 1) (v := .slice Aa2 a.past.length ca2) rfl rfl Try.isAgg56 (gu hg14 rfl) rfl)) ?_
  refine vg1 rfl rfl rfl rfl rfl (fun hg15 => QV.qo (q_fl 2 fld_58_1 rfl rfl rfl)) ?_
  refine vg1 rfl rfl rfl rfl rfl (fun hg16 => QV.qo (q_ldl (i := 0) (v := .slice Ab2 b.past.length cb2) rfl rfl Try.isAgg56 (gu hg16 rfl) rfl)) ?_
  obtain ⟨z18, hz19, h⟩ := bnd h
  refine vg1 rfl rfl rfl rfl rfl (fun hg17 => (q_call (call_run Try.call64 rfl rfl (args2 (gu hg17 rfl) (gu hg17 rfl))) (fun w hw => t_firthref03_Same (Γ := Gh.all w) (ha.2.2.1.2.mono hw.sat.le_all) ha.2.2.1.1 (hb.2.2.1.2.mono hw.sat.le_all) hb.2.2.1.1 (Sat.all w) (gc_of hz19 hg17)))) ?_
  refine va rfl rfl rfl (q_pick rfl rfl (pk_and' (g := (((a.dot == b.dot) && (a.gone == b.gone)) && (a.val == b.val))) (y := z18))) ?_
  refine va rfl rfl rfl (q_assign (v := .bool ((((a.dot == b.dot) && (a.gone == b.gone)) && (a.val == b.val)) && z18)) rfl (by kernel_rfl)) ?_
  refine WR.nil ?_
  change WC _ _ _ _ _ _
  refine WC.ret ?_
  intro w hw
  obtain rfl := Option.some.inj h
  subst hF
  exact ⟨by kernel_rfl, hw.fr⟩
set_option maxRecDepth 100000 in
set_option maxHeartbeats 400000 in
theorem t_firthref05_Same {Γ : Gh} {w0 : World} {Aa : Option Addr} {ca : Nat} {a : List Ver} (ha : Sl verT Γ Aa a) (hac : a.length ≤ ca) {Ab : Option Addr} {cb : Nat} {b : List Ver} (hb : Sl verT Γ Ab b) (hbc : b.length ≤ cb) (hs : Sat Γ w0) {r : Bool} (h : m_firthref05_Same a b = some r) : Calls Try.prog 23 #[.slice Aa a.length ca, .slice Ab b.length cb] w0 (fun e w' => e = .returned (.bool r) ∧ Fr no w0 w') := by
  refine calls_of (N := 27) (rs := [4]) (args := [.slice Aa a.length ca, .slice Ab b.length cb]) Try.func23 rfl Try.ntmps23 Try.results23 rfl ?_
  obtain ⟨F, hF⟩ : ∃ F : Fm, F = ⟨no, w0, Γ⟩ := ⟨_, rfl⟩
  refine WC.here (C := CC F Γ []) ?_ (hF ▸ Cur.start0 hs)
  refine WC.rs ?_
  refine va rfl rfl rfl (q_assign (v := .bool false) rfl (by kernel_rfl)) ?_
  refine WR.nil ?_
  change WC _ _ _ _ _ _
  refine WC.seq ?_
  refine WC.rs ?_
  refine va rfl rfl rfl (q_move (v := .slice Aa a.length ca) rfl (by kernel_rfl)) ?_
  refine va rfl rfl rfl (q_len_slice rfl Try.underlying40 rfl) ?_
  refine va rfl rfl rfl (q_move (v := .slice Ab b.length cb) rfl (by kernel_rfl)) ?_
  refine va rfl rfl rfl (q_len_slice rfl Try.underlying40 rfl) ?_
  refine va rfl rfl rfl (q_neq rfl rfl rfl) ?_
  refine WR.nil ?_
  change WC _ _ _ _ _ _
  refine WC.cif h (by kernel_rfl) (fun hb1 h => ?_) (fun hb1 h => ?_)
  · skip
    refine WC.rs ?_
    refine va rfl rfl rfl (q_assign (v := .bool false) rfl (by kernel_rfl)) ?_
    refine WR.nil ?_
    change WC _ _ _ _ _ _
    refine WC.ret ?_
    intro w hw
    obtain rfl := Option.some.inj h
    subst hF
    exact ⟨by kernel_rfl, hw.fr⟩
  · skip
    refine WC.skip ?_
    change WC _ _ _ _ _ _
    refine WC.seq ?_
    refine WC.rs ?_
    refine va rfl rfl rfl (q_assign (v := .int .i64 0) rfl (by kernel_rfl)) ?_
    refine WR.nil ?_
    change WC _ _ _ _ _ _
    refine WC.block ?_
    refine WC.forI h (fun (i3 : Nat) (s : Unit) σ w => match s with | () => slots σ [(0, .slice Aa a.length ca), (1, .slice Ab b.length cb), (5, .int .i64 ((i3 : Nat) : Int))] ∧ CC F Γ [] w ∧ True) ?_ ?_
    · skip
      intro w hw
      exact ⟨(sl_ (by kernel_rfl)), hw, trivial⟩
    rintro f2 i3 ⟨⟩ σ w hi4 hlt5 hge6 ⟨hsl, hw, -⟩
    refine Wpt.slots hsl ?_
    refine WC.here (C := CC F Γ []) ?_ hw
    clear hw hsl
    refine WC.seq ?_
    refine WC.rs ?_
    refine va rfl rfl rfl (q_move (v := .int .i64 ((i3 : Nat) : Int)) rfl (by kernel_rfl)) ?_
    refine va rfl rfl rfl (q_move (v := .slice Aa a.length ca) rfl (by kernel_rfl)) ?_
    refine va rfl rfl rfl (q_len_slice rfl Try.underlying40 rfl) ?_
    refine va rfl rfl rfl (q_lss rfl rfl rfl) ?_
    refine WR.nil ?_
    change WC _ _ _ _ _ _
    refine WC.cond (b := (decide (((i3 : Nat) : Int) < ((a.length : Nat) : Int)))) (by kernel_rfl) (fun hb7 => ?_) (fun hb7 => ?_)
    · skip
      have hl8 := ilt hb7
      have h := hlt5 hl8
      refine WC.skip ?_
      change WC _ _ _ _ _ _
      refine WC.seq ?_
      refine WC.block ?_
      refine WC.seq ?_
      refine WC.dr (by kernel_rfl) (by kernel_rfl) (fun w hw => hw.drawn _) ?_
      refine wa rfl rfl rfl (q_move (v := .slice Aa a.length ca) rfl (by kernel_rfl)) ?_
      refine wa rfl rfl rfl (q_move (v := .int .i64 ((i3 : Nat) : Int)) rfl (by kernel_rfl)) ?_
      refine wa rfl rfl rfl (q_ixn (i := i3) Try.underlying40 Try.sizeOf58 rfl rfl rfl hl8 (ha.some_ hl8)) ?_
      obtain ⟨A9, c10, hx11⟩ := ha.verT_at i3
      refine wa rfl rfl rfl (q_lda (c := 0) (vs := [.int .i64 (gt a i3).dot.s, .int .i64 (gt a i3).dot.n, .slice A9 ((gt a i3).past).length c10, .bool (gt a i3).gone, .string (gt a i3).val]) (hx11 hl8).2 rfl Try.isAgg58 Try.sizeOf58 rfl rfl rfl) ?_
      refine wa rfl rfl rfl (q_move (v := .slice Ab b.length cb) rfl (by kernel_rfl)) ?_
      refine wa rfl rfl rfl (q_move (v := .int .i64 ((i3 : Nat) : Int)) rfl (by kernel_rfl)) ?_
      obtain ⟨hk12, h⟩ := chk_some h
      refine wa rfl rfl rfl (q_ixn (i := i3) Try.underlying40 Try.sizeOf58 rfl rfl rfl (of_decide_eq_true hk12) (hb.some_ (of_decide_eq_true hk12))) ?_
      obtain ⟨A13, c14, hx15⟩ := hb.verT_at i3
      refine wa rfl rfl rfl (q_lda (c := 0) (vs := [.int .i64 (gt b i3).dot.s, .int .i64 (gt b i3).dot.n, .slice A13 ((gt b i3).past).length c14, .bool (gt b i3).gone, .string (gt b i3).val]) (hx15 (of_decide_eq_true hk12)).2 rfl Try.isAgg58 Try.sizeOf58 rfl rfl rfl) ?_
      obtain ⟨z16, hz17, h⟩ := bnd h
      refine wc rfl rfl rfl (q_call (call_run Try.call46 rfl rfl (by kernel_rfl)) (fun w hw => t_firthref05_SameOne (Γ := Gh.all w) (gt a i3) (Ver.fits_mono (hx11 hl8).1 hw.sat.le_all) (gt b i3) (Ver.fits_mono (hx15 (of_decide_eq_true hk12)).1 hw.sat.le_all) (Sat.all w) hz17)) ?_
      refine wa rfl rfl rfl (q_not rfl rfl) ?_
      refine WQ.nil ?_
      change WC _ _ _ _ _ _
      refine WC.cif h (by kernel_rfl) (fun hb18 h => ?_) (fun hb18 h => ?_)
      · skip
        refine WC.rs ?_
        refine va rfl rfl rfl (q_assign (v := .bool false) rfl (by kernel_rfl)) ?_
        refine WR.nil ?_
        change WC _ _ _ _ _ _
        refine WC.ret ?_
        intro w hw
        obtain rfl := Option.some.inj h
        subst hF
        exact ⟨by kernel_rfl, hw.fr⟩
      · skip
        refine WC.skip ?_
        change WC _ _ _ _ _ _
        refine WC.region ?_
        refine va rfl rfl rfl (q_move (v := .int .i64 ((i3 : Nat) : Int)) rfl (by kernel_rfl)) ?_
        refine va rfl rfl rfl (q_add_r (r := ((i3 + 1 : Nat) : Int)) rfl rfl rfl (ctr_len hl8 ha.le)) ?_
        refine va rfl rfl rfl (q_assign (v := .int .i64 ((i3 + 1 : Nat) : Int)) rfl (by kernel_rfl)) ?_
        refine WR.nil ?_
        intro w hw
        exact ⟨hl8, (), h, (sl_ (by kernel_rfl)), hw, trivial⟩
    · skip
      have h := hge6 (ige hb7)
      refine WC.exit ?_
      change WC _ _ _ _ _ _
      refine WC.rs ?_
      refine va rfl rfl rfl (q_assign (v := .bool true) rfl (by kernel_rfl)) ?_
      refine WR.nil ?_
      change WC _ _ _ _ _ _
      refine WC.ret ?_
      intro w hw
      obtain rfl := Option.some.inj h
      subst hF
      exact ⟨by kernel_rfl, hw.fr⟩
set_option maxRecDepth 100000 in
set_option maxHeartbeats 400000 in
theorem t_firthlaw16_awake {Γ : Gh} {w0 : World}  (hs : Sat Γ w0) {r : Bool} (h : m_firthlaw16_awake = some r) : Calls Try.prog 8 #[] w0 (fun e w' => e = .returned (.bool r) ∧ Fr no w0 w') := by
  refine calls_of (N := 98) (rs := [0]) (args := []) Try.func8 rfl Try.ntmps8 Try.results8 rfl ?_
  obtain ⟨F, hF⟩ : ∃ F : Fm, F = ⟨no, w0, Γ⟩ := ⟨_, rfl⟩
  refine WC.here (C := CC F Γ []) ?_ (hF ▸ Cur.start0 hs)
  refine WC.rs ?_
  refine va rfl rfl rfl (q_assign (v := .bool false) rfl (by kernel_rfl)) ?_
  refine WR.nil ?_
  change WC _ _ _ _ _ _
  refine WC.rs ?_
  refine e_buildSlice (cs := #[.int .i64 3, .int .i64 1, .int .i64 2]) (e := 3) rfl rfl rfl rfl (fun w => by kernel_rfl) ?_
  intro g1
  have ho2 : Own intT Γ 3 [(g1, .cells #[.int .i64 3, .int .i64 1, .int .i64 2] 3 (0, 0))] (some ⟨g1, 0, none⟩) 3 [3, 1, 2] := Own.of_block (T := intT) (ys := [3, 1, 2]) [[.int .i64 3], [.int .i64 1], [.int .i64 2]] rfl rfl (show 3 ≤ lim by decide) (fun i h => match i, h with | 0, _ => (show Ty.rd intT Γ [.int .i64 3] 3 from ⟨rfl, (show I64 3 by decide)⟩) | 1, _ => (show Ty.rd intT Γ [.int .i64 1] 1 from ⟨rfl, (show I64 1 by decide)⟩) | 2, _ => (show Ty.rd intT Γ [.int .i64 2] 2 from ⟨rfl, (show I64 2 by decide)⟩))
  have hc7 := ho2.capz
  intro w hw; obtain ⟨Γ3, hw, hl4, hr5⟩ := hw.seal (i := 0) rfl; have hs6 := ho2.sl hl4 hr5
  refine WR.here (C := CC F Γ3 [[]]) ?_ hw
  clear hw
  obtain ⟨z8, hz9, h⟩ := bnd h
  refine e_call (is := []) rfl rfl (call_run Try.call7 rfl rfl (by kernel_rfl)) rfl (fun w hp => t_quorum_NewWrite hs6 hc7 2 (show I64 2 by decide) hp hz9) ?_
  rintro Γ10 U12 v13 hl11 ⟨g14, row15, rfl, rfl, hr16, hr17, _⟩
  change WR _ _ _ (CC F Γ10 [row15, []]) _ _ (upd _ 10 (.tuple #[optp z8.1 g14, .int .i64 z8.2]))
  refine va rfl rfl rfl (q_move (v := .tuple #[optp z8.1 g14, .int .i64 z8.2]) rfl (by kernel_rfl)) ?_
  refine va rfl rfl rfl (q_extract (v := optp z8.1 g14) rfl rfl rfl) ?_
  refine va rfl rfl rfl (q_extract (v := .int .i64 z8.2) rfl rfl rfl) ?_
  refine va rfl rfl rfl (q_assign (v := optp z8.1 g14) rfl (by kernel_rfl)) ?_
  refine va rfl rfl rfl (q_assign (v := .int .i64 z8.2) rfl (by kernel_rfl)) ?_
  refine WR.nil ?_
  change WC _ _ _ _ _ _
  refine WC.seq ?_
  refine WC.rs ?_
  refine va rfl rfl rfl (q_move (v := optp z8.1 g14) rfl (by kernel_rfl)) ?_
  refine va rfl rfl rfl (q_opt_eql Try.underlying23 rfl rfl rfl) ?_
  refine va rfl rfl rfl (q_move (v := .bool (Option.isNone z8.1)) rfl (by kernel_rfl)) ?_
  refine vg0 rfl rfl rfl rfl rfl (fun hg18 => QV.qo (q_move (v := .int .i64 z8.2) rfl (by kernel_rfl))) ?_
  refine vg0 rfl rfl rfl rfl rfl (fun hg19 => QV.qo (q_neq rfl (gu hg19 rfl) rfl)) ?_
  refine va rfl rfl rfl (q_pick rfl rfl (pk_or' (g := (Option.isNone z8.1)) (y := (z8.2 != 0)))) ?_
  refine va rfl rfl rfl (q_move (v := .bool ((Option.isNone z8.1) || (z8.2 != 0))) rfl (by kernel_rfl)) ?_
  refine vg0 rfl rfl rfl rfl rfl (fun hg20 => QV.qo (q_move (v := optp z8.1 g14) rfl (by kernel_rfl))) ?_
  refine (Bool.eq_false_or_eq_true (!((Option.isNone z8.1) || (z8.2 != 0)))).elim (fun hb21 => ?_) (fun hb21 => ?_)
  · skip
    have h := bt hb21 h
    refine WR.sat (c0 := true) (g := ((Option.isNone z8.1) || (z8.2 != 0))) rfl rfl rfl hb21 ?_
    obtain ⟨z22, hz23, h⟩ := bnd h
    have ho24 := optob_some hr16 hz23
    obtain ⟨z25, hz26, h⟩ := bnd h
    refine e_call (is := [0]) rfl rfl (call_run Try.call11 rfl rfl (args2 (optp_some (gu hb21 rfl) hz23) rfl)) rfl (fun w hp => t_quorum_Write_Ack ho24 1 (show I64 1 by decide) hp hz26) ?_
    rintro Γ27 U29 v30 hl28 ⟨row31, rfl, rfl, hr32, _⟩
    change WR _ _ _ (CC F Γ27 [row31, []]) _ _ (upd _ 21 (.bool z25.2))
    refine WR.sat (c0 := true) (g := ((Option.isNone z8.1) || (z8.2 != 0))) rfl rfl rfl hb21 ?_
    refine va rfl rfl rfl (q_not rfl rfl) ?_
    refine va rfl rfl rfl (q_pick_f (v := .bool (!z25.2)) rfl rfl (not_t hb21) (by kernel_rfl)) ?_
    refine va rfl rfl rfl (q_move (v := .bool (!z25.2)) rfl (by kernel_rfl)) ?_
    refine vg0 rfl rfl rfl rfl rfl (fun hg33 => QV.qo (q_move (v := .pointer (some ⟨g14, 0, none⟩)) rfl (optp_some rfl hz23))) ?_
    refine (Bool.eq_false_or_eq_true (!(!z25.2))).elim (fun hb34 => ?_) (fun hb34 => ?_)
    · skip
      have h := bt hb34 h
      refine WR.sat (c0 := true) (g := (!z25.2)) rfl rfl rfl hb34 ?_
      obtain ⟨z35, hz36, h⟩ := bnd h
      refine e_call (is := [0]) rfl rfl (call_run Try.call11 rfl rfl (args2 (gu hb34 rfl) rfl)) rfl (fun w hp => t_quorum_Write_Ack hr32 1 (show I64 1 by decide) hp hz36) ?_
      rintro Γ37 U39 v40 hl38 ⟨row41, rfl, rfl, hr42, _⟩
      change WR _ _ _ (CC F Γ37 [row41, []]) _ _ (upd _ 26 (.bool z35.2))
      refine va rfl rfl rfl (q_pick_f (v := .bool z35.2) rfl rfl (not_t hb34) (by kernel_rfl)) ?_
      refine va rfl rfl rfl (q_move (v := .bool z35.2) rfl (by kernel_rfl)) ?_
      refine vg0 rfl rfl rfl rfl rfl (fun hg43 => QV.qo (q_move (v := .pointer (some ⟨g14, 0, none⟩)) rfl (optp_some rfl hz23))) ?_
      refine (Bool.eq_false_or_eq_true (!z35.2)).elim (fun hb44 => ?_) (fun hb44 => ?_)
      · skip
        have h := bt hb44 h
        refine WR.sat (c0 := true) (g := z35.2) rfl rfl rfl hb44 ?_
        obtain ⟨z45, hz46, h⟩ := bnd h
        refine e_call (is := [0]) rfl rfl (call_run Try.call11 rfl rfl (args2 (gu hb44 rfl) rfl)) rfl (fun w hp => t_quorum_Write_Ack hr42 4 (show I64 4 by decide) hp hz46) ?_
        rintro Γ47 U49 v50 hl48 ⟨row51, rfl, rfl, hr52, _⟩
        change WR _ _ _ (CC F Γ47 [row51, []]) _ _ (upd _ 30 (.bool z45.2))
        refine va rfl rfl rfl (q_pick_f (v := .bool z45.2) rfl rfl (not_t hb44) (by kernel_rfl)) ?_
        refine va rfl rfl rfl (q_move (v := .bool z45.2) rfl (by kernel_rfl)) ?_
        refine vg0 rfl rfl rfl rfl rfl (fun hg53 => QV.qo (q_move (v := .pointer (some ⟨g14, 0, none⟩)) rfl (optp_some rfl hz23))) ?_
        obtain ⟨z55, hz56, h⟩ := bnd h
        refine vg0 rfl rfl rfl rfl rfl (fun hg54 => (q_call (call_run Try.call13 rfl rfl (args1 (gu hg54 rfl))) (fun w hw => t_quorum_Write_Done (Γ := Gh.all w) (hr52.mono hw.sat.le_all) (hw.ra 0 rfl) (Sat.all w) (gc_of hz56 hg54)))) ?_
        refine va rfl rfl rfl (q_pick rfl rfl (pk_or' (g := z45.2) (y := z55))) ?_
        refine va rfl rfl rfl (q_move (v := .bool (z45.2 || z55)) rfl (by kernel_rfl)) ?_
        refine vg0 rfl rfl rfl rfl rfl (fun hg57 => QV.qo (q_move (v := .pointer (some ⟨g14, 0, none⟩)) rfl (optp_some rfl hz23))) ?_
        refine (Bool.eq_false_or_eq_true (!(z45.2 || z55))).elim (fun hb58 => ?_) (fun hb58 => ?_)
        · skip
          have h := bt hb58 h
          refine WR.sat (c0 := true) (g := (z45.2 || z55)) rfl rfl rfl hb58 ?_
          obtain ⟨z59, hz60, h⟩ := bnd h
          refine e_call (is := [0]) rfl rfl (call_run Try.call11 rfl rfl (args2 (gu hb58 rfl) rfl)) rfl (fun w hp => t_quorum_Write_Ack hr52 3 (show I64 3 by decide) hp hz60) ?_
          rintro Γ61 U63 v64 hl62 ⟨row65, rfl, rfl, hr66, _⟩
          change WR _ _ _ (CC F Γ61 [row65, []]) _ _ (upd _ 38 (.bool z59.2))
          refine WR.sat (c0 := true) (g := (z45.2 || z55)) rfl rfl rfl hb58 ?_
          refine va rfl rfl rfl (q_not rfl rfl) ?_
          refine va rfl rfl rfl (q_pick_f (v := .bool (!z59.2)) rfl rfl (not_t hb58) (by kernel_rfl)) ?_
          refine WR.nil ?_
          change WC _ _ _ _ _ _
          refine WC.cif h (by kernel_rfl) (fun hb67 h => ?_) (fun hb67 h => ?_)
          · skip
            refine WC.rs ?_
            refine va rfl rfl rfl (q_assign (v := .bool false) rfl (by kernel_rfl)) ?_
            refine WR.nil ?_
            change WC _ _ _ _ _ _
            refine WC.ret ?_
            intro w hw
            obtain rfl := Option.some.inj h
            subst hF
            exact ⟨by kernel_rfl, hw.fr⟩
          · skip
            refine WC.skip ?_
            change WC _ _ _ _ _ _
            refine WC.rs ?_
            refine va rfl rfl rfl (q_move (v := .pointer (some ⟨g14, 0, none⟩)) rfl (optp_some rfl hz23)) ?_
            obtain ⟨z68, hz69, h⟩ := bnd h
            refine e_call (is := [0]) rfl rfl (call_run Try.call16 rfl rfl (by kernel_rfl)) rfl (fun w hp => t_quorum_Write_Waits hr66 hp hz69) ?_
            rintro Γ70 U72 v73 hl71 ⟨A74, c75, row76, rfl, rfl, hr77, _⟩
            change WR _ _ _ (CC F Γ70 [row65, row76, []]) _ _ (upd _ 42 (.slice A74 z68.length c75))
            refine va rfl rfl rfl (q_assign (v := .slice A74 z68.length c75) rfl (by kernel_rfl)) ?_
            refine WR.nil ?_
            change WC _ _ _ _ _ _
            refine WC.rs ?_
            refine e_buildSlice (cs := #[.int .i64 1, .int .i64 2]) (e := 3) rfl rfl rfl rfl (fun w => by kernel_rfl) ?_
            intro g78
            have ho79 : Own intT Γ70 3 [(g78, .cells #[.int .i64 1, .int .i64 2] 3 (0, 0))] (some ⟨g78, 0, none⟩) 2 [1, 2] := Own.of_block (T := intT) (ys := [1, 2]) [[.int .i64 1], [.int .i64 2]] rfl rfl (show 2 ≤ lim by decide) (fun i h => match i, h with | 0, _ => (show Ty.rd intT Γ70 [.int .i64 1] 1 from ⟨rfl, (show I64 1 by decide)⟩) | 1, _ => (show Ty.rd intT Γ70 [.int .i64 2] 2 from ⟨rfl, (show I64 2 by decide)⟩))
            have hc84 := ho79.capz
            intro w hw; obtain ⟨Γ80, hw, hl81, hr82⟩ := hw.seal (i := 0) rfl; have hs83 := ho79.sl hl81 hr82
            refine WR.here (C := CC F Γ80 [[], row65, row76, []]) ?_ hw
            clear hw
            obtain ⟨z85, hz86, h⟩ := bnd h
            refine e_call (is := []) rfl rfl (call_run Try.call18 rfl rfl (by kernel_rfl)) rfl (fun w hp => t_quorum_NewRead hs83 hc84 2 (show I64 2 by decide) hp hz86) ?_
            rintro Γ87 U89 v90 hl88 ⟨g91, row92, rfl, rfl, hr93, hr94, _⟩
            change WR _ _ _ (CC F Γ87 [row92, [], row65, row76, []]) _ _ (upd _ 45 (.tuple #[optp z85.1 g91, .int .i64 z85.2]))
            refine va rfl rfl rfl (q_move (v := .tuple #[optp z85.1 g91, .int .i64 z85.2]) rfl (by kernel_rfl)) ?_
            refine va rfl rfl rfl (q_extract (v := optp z85.1 g91) rfl rfl rfl) ?_
            refine va rfl rfl rfl (q_extract (v := .int .i64 z85.2) rfl rfl rfl) ?_
            refine va rfl rfl rfl (q_assign (v := optp z85.1 g91) rfl (by kernel_rfl)) ?_
            refine va rfl rfl rfl (q_assign (v := .int .i64 z85.2) rfl (by kernel_rfl)) ?_
            refine WR.nil ?_
            change WC _ _ _ _ _ _
            refine WC.seq ?_
            refine WC.rs ?_
            refine va rfl rfl rfl (q_move (v := optp z85.1 g91) rfl (by kernel_rfl)) ?_
            refine va rfl rfl rfl (q_opt_eql Try.underlying36 rfl rfl rfl) ?_
            refine va rfl rfl rfl (q_move (v := .bool (Option.isNone z85.1)) rfl (by kernel_rfl)) ?_
            refine vg0 rfl rfl rfl rfl rfl (fun hg95 => QV.qo (q_move (v := .int .i64 z85.2) rfl (by kernel_rfl))) ?_
            refine vg0 rfl rfl rfl rfl rfl (fun hg96 => QV.qo (q_neq rfl (gu hg96 rfl) rfl)) ?_
            refine va rfl rfl rfl (q_pick rfl rfl (pk_or' (g := (Option.isNone z85.1)) (y := (z85.2 != 0)))) ?_
            refine WR.nil ?_
            change WC _ _ _ _ _ _
            refine WC.cif h (by kernel_rfl) (fun hb97 h => ?_) (fun hb97 h => ?_)
            · skip
              refine WC.rs ?_
              refine va rfl rfl rfl (q_assign (v := .bool false) rfl (by kernel_rfl)) ?_
              refine WR.nil ?_
              change WC _ _ _ _ _ _
              refine WC.ret ?_
              intro w hw
              obtain rfl := Option.some.inj h
              subst hF
              exact ⟨by kernel_rfl, hw.fr⟩
            · skip
              obtain ⟨z98, hz99, h⟩ := bnd h
              have ho100 := optob_some hr93 hz99
              refine WC.skip ?_
              change WC _ _ _ _ _ _
              refine WC.rs ?_
              refine va rfl rfl rfl (q_build' (v := .agg #[.int .i64 1, .int .i64 1]) rfl (bargs2 rfl rfl) (fun w => by kernel_rfl)) ?_
              refine va rfl rfl rfl (q_build' (v := .agg #[.int .i64 1, .int .i64 1, .slice none 0 0, .bool false, .string ByteArray.empty]) rfl (bargs1 rfl) (fun w => by kernel_rfl)) ?_
              refine e_buildSlice (cs := #[.int .i64 1, .int .i64 1, .slice none 0 0, .bool false, .string ByteArray.empty]) (e := 58) rfl rfl rfl rfl (fun w => by kernel_rfl) ?_
              intro g101
              refine va rfl rfl rfl (q_assign (v := .slice (some ⟨g101, 0, none⟩) 1 1) rfl (by kernel_rfl)) ?_
              refine WR.nil ?_
              change WC _ _ _ _ _ _
              refine WC.rs ?_
              refine va rfl rfl rfl (q_move (v := .pointer (some ⟨g91, 0, none⟩)) rfl (optp_some rfl hz99)) ?_
              refine va rfl rfl rfl (q_move (v := .slice (some ⟨g101, 0, none⟩) 1 1) rfl (by kernel_rfl)) ?_
              have ho102 : Own verT Γ87 58 [(g101, .cells #[.int .i64 1, .int .i64 1, .slice none 0 0, .bool false, .string ByteArray.empty] 58 (0, 0))] (some ⟨g101, 0, none⟩) 1 [(⟨(⟨1, 1⟩ : Dot), [], false, ByteArray.empty⟩ : Ver)] := Own.of_block (T := verT) (ys := [(⟨(⟨1, 1⟩ : Dot), [], false, ByteArray.empty⟩ : Ver)]) [[.int .i64 1, .int .i64 1, .slice none 0 0, .bool false, .string ByteArray.empty]] rfl rfl (show 1 ≤ lim by decide) (fun i h => match i, h with | 0, _ => (show Ty.rd verT Γ87 [.int .i64 1, .int .i64 1, .slice none 0 0, .bool false, .string ByteArray.empty] (⟨(⟨1, 1⟩ : Dot), [], false, ByteArray.empty⟩ : Ver) from ⟨none, 0, rfl, ⟨(show I64 1 by decide), (show I64 1 by decide), ⟨Nat.zero_le _, Sl.nil _ _ _⟩, (show (ByteArray.empty : ByteArray).size ≤ lim by decide)⟩⟩))
              have hc107 := ho102.capz
              intro w hw; obtain ⟨Γ103, hw, hl104, hr105⟩ := hw.seal (i := 0) rfl; have hs106 := ho102.sl hl104 hr105
              refine WR.here (C := CC F Γ103 [[], row92, [], row65, row76, []]) ?_ hw
              clear hw
              obtain ⟨z108, hz109, h⟩ := bnd h
              refine e_call (is := [1]) rfl rfl (call_run Try.call19 rfl rfl (by kernel_rfl)) rfl (fun w hp => t_quorum_Read_Got (ho100.mono hl104) 1 (show I64 1 by decide) hs106 hc107 hp hz109) ?_
              rintro Γ110 U112 v113 hl111 ⟨row114, rfl, rfl, hr115, _⟩
              change WR _ _ _ (CC F Γ110 [row114, [], [], row65, row76, []]) _ _ (upd _ 59 (.bool z108.2))
              refine WR.nil ?_
              change WC _ _ _ _ _ _
              refine WC.rs ?_
              refine va rfl rfl rfl (q_move (v := .pointer (some ⟨g91, 0, none⟩)) rfl (optp_some rfl hz99)) ?_
              obtain ⟨z116, hz117, h⟩ := bnd h
              refine e_call (is := [0]) rfl rfl (call_run Try.call19 rfl rfl (by kernel_rfl)) rfl (fun w hp => t_quorum_Read_Got hr115 2 (show I64 2 by decide) (Sl.nil verT _ none) (Nat.zero_le 0) hp hz117) ?_
              rintro Γ118 U120 v121 hl119 ⟨row122, rfl, rfl, hr123, _⟩
              change WR _ _ _ (CC F Γ118 [row122, [], [], row65, row76, []]) _ _ (upd _ 61 (.bool z116.2))
              refine WR.nil ?_
              change WC _ _ _ _ _ _
              refine WC.rs ?_
              refine va rfl rfl rfl (q_move (v := .pointer (some ⟨g91, 0, none⟩)) rfl (optp_some rfl hz99)) ?_
              obtain ⟨z124, hz125, h⟩ := bnd h
              refine e_call (is := [0]) rfl rfl (call_run Try.call26 rfl rfl (by kernel_rfl)) rfl (fun w hp => t_quorum_Read_Behind hr123 hp hz125) ?_
              rintro Γ126 U128 v129 hl127 ⟨A130, c131, row132, rfl, rfl, hr133, _⟩
              change WR _ _ _ (CC F Γ126 [row122, row132, [], [], row65, row76, []]) _ _ (upd _ 63 (.slice A130 z124.length c131))
              refine va rfl rfl rfl (q_assign (v := .slice A130 z124.length c131) rfl (by kernel_rfl)) ?_
              refine WR.nil ?_
              change WC _ _ _ _ _ _
              refine WC.rs ?_
              refine va rfl rfl rfl (q_move (v := .pointer (some ⟨g14, 0, none⟩)) rfl (optp_some rfl hz23)) ?_
              obtain ⟨z134, hz135, h⟩ := bnd h
              refine vc rfl rfl rfl (q_call (call_run Try.call13 rfl rfl (by kernel_rfl)) (fun w hw => t_quorum_Write_Done (Γ := Gh.all w) ((hr66.mono ((((((hl71.trans hl81).trans hl88).trans hl104).trans hl111).trans hl119).trans hl127)).mono hw.sat.le_all) (hw.ra 4 rfl) (Sat.all w) hz135)) ?_
              refine va rfl rfl rfl (q_move (v := .bool z134) rfl (by kernel_rfl)) ?_
              refine vg1 rfl rfl rfl rfl rfl (fun hg136 => QV.qo (q_move (v := .slice A74 z68.length c75) rfl (by kernel_rfl))) ?_
              refine vg1 rfl rfl rfl rfl rfl (fun hg137 => QV.qo (q_len_slice rfl Try.underlying22 (gu hg137 rfl))) ?_
              refine vg1 rfl rfl rfl rfl rfl (fun hg138 => QV.qo (q_eql rfl (gu hg138 rfl) rfl)) ?_
              refine va rfl rfl rfl (q_pick rfl rfl (pk_and' (g := z134) (y := (((z68.length : Nat) : Int) == 1)))) ?_
              refine va rfl rfl rfl (q_move (v := .bool (z134 && (((z68.length : Nat) : Int) == 1))) rfl (by kernel_rfl)) ?_
              refine vg1 rfl rfl rfl rfl rfl (fun hg139 => QV.qo (q_move (v := .slice A74 z68.length c75) rfl (by kernel_rfl))) ?_
              obtain ⟨hk141, h⟩ := chk_some h
              refine vg1 rfl rfl rfl rfl rfl (fun hg140 => QV.qo (q_ixn (i := 0) Try.underlying22 Try.sizeOf3 rfl (gu hg140 rfl) rfl (of_decide_eq_true (imp_of hk141 hg140)) ((hr77.mono (((((hl81.trans hl88).trans hl104).trans hl111).trans hl119).trans hl127)).some_ (of_decide_eq_true (imp_of hk141 hg140))))) ?_
              refine vg1 rfl rfl rfl rfl rfl (fun hg142 => QV.qo (q_ldo (c := 0) (v := .int .i64 (gt z68 0)) (i := 5) rfl ((hr77.mono (((((hl81.trans hl88).trans hl104).trans hl111).trans hl119).trans hl127)).intT_at (of_decide_eq_true (imp_of hk141 hg142))).2 rfl Try.isAgg3 (gu hg142 rfl) rfl)) ?_
              refine vg1 rfl rfl rfl rfl rfl (fun hg143 => QV.qo (q_eql rfl (gu hg143 rfl) rfl)) ?_
              refine va rfl rfl rfl (q_pick rfl rfl (pk_and' (g := (z134 && (((z68.length : Nat) : Int) == 1))) (y := ((gt z68 0) == 2)))) ?_
              refine va rfl rfl rfl (q_move (v := .bool ((z134 && (((z68.length : Nat) : Int) == 1)) && ((gt z68 0) == 2))) rfl (by kernel_rfl)) ?_
              refine vg1 rfl rfl rfl rfl rfl (fun hg144 => QV.qo (q_move (v := .pointer (some ⟨g91, 0, none⟩)) rfl (optp_some rfl hz99))) ?_
              obtain ⟨z146, hz147, h⟩ := bnd h
              refine vg1 rfl rfl rfl rfl rfl (fun hg145 => (q_call (call_run Try.call21 rfl rfl (args1 (gu hg145 rfl))) (fun w hw => t_quorum_Read_Done (Γ := Gh.all w) ((hr123.mono hl127).mono hw.sat.le_all) (hw.ra 0 rfl) (Sat.all w) (gc_of hz147 hg145)))) ?_
              refine va rfl rfl rfl (q_pick rfl rfl (pk_and' (g := ((z134 && (((z68.length : Nat) : Int) == 1)) && ((gt z68 0) == 2))) (y := z146))) ?_
              refine va rfl rfl rfl (q_move (v := .bool (((z134 && (((z68.length : Nat) : Int) == 1)) && ((gt z68 0) == 2)) && z146)) rfl (by kernel_rfl)) ?_
              refine vg1 rfl rfl rfl rfl rfl (fun hg148 => QV.qo (q_move (v := .pointer (some ⟨g91, 0, none⟩)) rfl (optp_some rfl hz99))) ?_
              refine (Bool.eq_false_or_eq_true (((z134 && (((z68.length : Nat) : Int) == 1)) && ((gt z68 0) == 2)) && z146)).elim (fun hb149 => ?_) (fun hb149 => ?_)
              · skip
                have h := bt hb149 h
                refine WR.sat (c0 := true) (g := (((z134 && (((z68.length : Nat) : Int) == 1)) && ((gt z68 0) == 2)) && z146)) rfl rfl rfl hb149 ?_
                obtain ⟨z150, hz151, h⟩ := bnd h
                refine e_call (is := [0]) rfl rfl (call_run Try.call24 rfl rfl (args1 (gu hb149 rfl))) rfl (fun w hp => t_quorum_Read_Vers (hr123.mono hl127) hp hz151) ?_
                rintro Γ152 U154 v155 hl153 ⟨A156, c157, rfl, rfl, hc159, hr158, _⟩
                change WR _ _ _ (CC F Γ152 [row122, row132, [], [], row65, row76, []]) _ _ (upd _ 83 (.slice A156 z150.length c157))
                refine WR.sat (c0 := true) (g := (((z134 && (((z68.length : Nat) : Int) == 1)) && ((gt z68 0) == 2)) && z146)) rfl rfl rfl hb149 ?_
                refine va rfl rfl rfl (q_move (v := .slice (some ⟨g101, 0, none⟩) [(⟨(⟨1, 1⟩ : Dot), [], false, ByteArray.empty⟩ : Ver)].length 1) rfl (by kernel_rfl)) ?_
                refine WR.sat (c0 := true) (g := (((z134 && (((z68.length : Nat) : Int) == 1)) && ((gt z68 0) == 2)) && z146)) rfl rfl rfl hb149 ?_
                obtain ⟨z160, hz161, h⟩ := bnd h
                refine vc rfl rfl rfl (q_call (call_run Try.call23 rfl rfl (by kernel_rfl)) (fun w hw => t_firthref05_Same (Γ := Gh.all w) (hr158.mono hw.sat.le_all) hc159 ((hs106.mono (((hl111.trans hl119).trans hl127).trans hl153)).mono hw.sat.le_all) hc107 (Sat.all w) hz161)) ?_
                refine va rfl rfl rfl (q_pick_t (v := .bool z160) rfl rfl hb149 (by kernel_rfl)) ?_
                refine va rfl rfl rfl (q_move (v := .bool z160) rfl (by kernel_rfl)) ?_
                refine vg1 rfl rfl rfl rfl rfl (fun hg162 => QV.qo (q_move (v := .slice A130 z124.length c131) rfl (by kernel_rfl))) ?_
                refine vg1 rfl rfl rfl rfl rfl (fun hg163 => QV.qo (q_len_slice rfl Try.underlying22 (gu hg163 rfl))) ?_
                refine vg1 rfl rfl rfl rfl rfl (fun hg164 => QV.qo (q_eql rfl (gu hg164 rfl) rfl)) ?_
                refine va rfl rfl rfl (q_pick rfl rfl (pk_and' (g := z160) (y := (((z124.length : Nat) : Int) == 1)))) ?_
                refine va rfl rfl rfl (q_move (v := .bool (z160 && (((z124.length : Nat) : Int) == 1))) rfl (by kernel_rfl)) ?_
                refine vg1 rfl rfl rfl rfl rfl (fun hg165 => QV.qo (q_move (v := .slice A130 z124.length c131) rfl (by kernel_rfl))) ?_
                obtain ⟨hk167, h⟩ := chk_some h
                refine vg1 rfl rfl rfl rfl rfl (fun hg166 => QV.qo (q_ixn (i := 0) Try.underlying22 Try.sizeOf3 rfl (gu hg166 rfl) rfl (of_decide_eq_true (imp_of hk167 hg166)) ((hr133.mono hl153).some_ (of_decide_eq_true (imp_of hk167 hg166))))) ?_
                refine vg1 rfl rfl rfl rfl rfl (fun hg168 => QV.qo (q_ldo (c := 0) (v := .int .i64 (gt z124 0)) (i := 1) rfl ((hr133.mono hl153).intT_at (of_decide_eq_true (imp_of hk167 hg168))).2 rfl Try.isAgg3 (gu hg168 rfl) rfl)) ?_
                refine vg1 rfl rfl rfl rfl rfl (fun hg169 => QV.qo (q_eql rfl (gu hg169 rfl) rfl)) ?_
                refine va rfl rfl rfl (q_pick rfl rfl (pk_and' (g := (z160 && (((z124.length : Nat) : Int) == 1))) (y := ((gt z124 0) == 2)))) ?_
                refine va rfl rfl rfl (q_assign (v := .bool ((z160 && (((z124.length : Nat) : Int) == 1)) && ((gt z124 0) == 2))) rfl (by kernel_rfl)) ?_
                refine WR.nil ?_
                change WC _ _ _ _ _ _
                refine WC.ret ?_
                intro w hw
                obtain rfl := Option.some.inj h
                subst hF
                exact ⟨by kernel_rfl, hw.fr⟩
              · skip
                have h := bf hb149 h
                refine WR.unsat (c0 := true) (g := (((z134 && (((z68.length : Nat) : Int) == 1)) && ((gt z68 0) == 2)) && z146)) rfl rfl rfl hb149 rfl ?_
                refine WR.unsat (c0 := true) (g := (((z134 && (((z68.length : Nat) : Int) == 1)) && ((gt z68 0) == 2)) && z146)) rfl rfl rfl hb149 rfl ?_
                refine WR.unsat (c0 := true) (g := (((z134 && (((z68.length : Nat) : Int) == 1)) && ((gt z68 0) == 2)) && z146)) rfl rfl rfl hb149 rfl ?_
                refine va rfl rfl rfl (q_pick_f (v := .bool false) rfl rfl hb149 (by kernel_rfl)) ?_
                refine va rfl rfl rfl (q_move (v := .bool false) rfl (by kernel_rfl)) ?_
                refine WR.unsat (c0 := true) (g := false) rfl rfl rfl rfl rfl ?_
                refine WR.unsat (c0 := true) (g := false) rfl rfl rfl rfl rfl ?_
                refine WR.unsat (c0 := true) (g := false) rfl rfl rfl rfl rfl ?_
                refine va rfl rfl rfl (q_pickf (v := .bool false) rfl rfl rfl) ?_
                refine va rfl rfl rfl (q_move (v := .bool false) rfl (by kernel_rfl)) ?_
                refine WR.unsat (c0 := true) (g := false) rfl rfl rfl rfl rfl ?_
                refine WR.unsat (c0 := true) (g := false) rfl rfl rfl rfl rfl ?_
                refine WR.unsat (c0 := true) (g := false) rfl rfl rfl rfl rfl ?_
                refine WR.unsat (c0 := true) (g := false) rfl rfl rfl rfl rfl ?_
                refine va rfl rfl rfl (q_pickf (v := .bool false) rfl rfl rfl) ?_
                refine va rfl rfl rfl (q_assign (v := .bool false) rfl (by kernel_rfl)) ?_
                refine WR.nil ?_
                change WC _ _ _ _ _ _
                refine WC.ret ?_
                intro w hw
                obtain rfl := Option.some.inj h
                subst hF
                exact ⟨by kernel_rfl, hw.fr⟩
        · skip
          have h := bf hb58 h
          refine WR.unsat (c0 := true) (g := (z45.2 || z55)) rfl rfl rfl hb58 rfl ?_
          refine WR.unsat (c0 := true) (g := (z45.2 || z55)) rfl rfl rfl hb58 rfl ?_
          refine va rfl rfl rfl (q_pick_t (v := .bool true) rfl rfl (not_f hb58) (by kernel_rfl)) ?_
          refine WR.nil ?_
          change WC _ _ _ _ _ _
          refine WC.ctk (b := true) (by kernel_rfl) rfl ?_
          refine WC.rs ?_
          refine va rfl rfl rfl (q_assign (v := .bool false) rfl (by kernel_rfl)) ?_
          refine WR.nil ?_
          change WC _ _ _ _ _ _
          refine WC.ret ?_
          intro w hw
          obtain rfl := Option.some.inj h
          subst hF
          exact ⟨by kernel_rfl, hw.fr⟩
      · skip
        have h := bf hb44 h
        refine WR.unsat (c0 := true) (g := z35.2) rfl rfl rfl hb44 rfl ?_
        refine va rfl rfl rfl (q_pick_t (v := .bool true) rfl rfl (not_f hb44) (by kernel_rfl)) ?_
        refine va rfl rfl rfl (q_move (v := .bool true) rfl (by kernel_rfl)) ?_
        refine WR.unsat (c0 := true) (g := true) rfl rfl rfl (nott rfl) rfl ?_
        refine WR.unsat (c0 := true) (g := true) rfl rfl rfl (nott rfl) rfl ?_
        refine va rfl rfl rfl (q_pickt (v := .bool true) rfl rfl rfl) ?_
        refine va rfl rfl rfl (q_move (v := .bool true) rfl (by kernel_rfl)) ?_
        refine WR.unsat (c0 := true) (g := true) rfl rfl rfl (nott rfl) rfl ?_
        refine WR.unsat (c0 := true) (g := true) rfl rfl rfl (nott rfl) rfl ?_
        refine WR.unsat (c0 := true) (g := true) rfl rfl rfl (nott rfl) rfl ?_
        refine va rfl rfl rfl (q_pickt (v := .bool true) rfl rfl rfl) ?_
        refine WR.nil ?_
        change WC _ _ _ _ _ _
        refine WC.ctk (b := true) (by kernel_rfl) rfl ?_
        refine WC.rs ?_
        refine va rfl rfl rfl (q_assign (v := .bool false) rfl (by kernel_rfl)) ?_
        refine WR.nil ?_
        change WC _ _ _ _ _ _
        refine WC.ret ?_
        intro w hw
        obtain rfl := Option.some.inj h
        subst hF
        exact ⟨by kernel_rfl, hw.fr⟩
    · skip
      have h := bf hb34 h
      refine WR.unsat (c0 := true) (g := (!z25.2)) rfl rfl rfl hb34 rfl ?_
      refine va rfl rfl rfl (q_pick_t (v := .bool true) rfl rfl (not_f hb34) (by kernel_rfl)) ?_
      refine va rfl rfl rfl (q_move (v := .bool true) rfl (by kernel_rfl)) ?_
      refine WR.unsat (c0 := true) (g := true) rfl rfl rfl (nott rfl) rfl ?_
      refine WR.unsat (c0 := true) (g := true) rfl rfl rfl (nott rfl) rfl ?_
      refine va rfl rfl rfl (q_pickt (v := .bool true) rfl rfl rfl) ?_
      refine va rfl rfl rfl (q_move (v := .bool true) rfl (by kernel_rfl)) ?_
      refine WR.unsat (c0 := true) (g := true) rfl rfl rfl (nott rfl) rfl ?_
      refine WR.unsat (c0 := true) (g := true) rfl rfl rfl (nott rfl) rfl ?_
      refine va rfl rfl rfl (q_pickt (v := .bool true) rfl rfl rfl) ?_
      refine va rfl rfl rfl (q_move (v := .bool true) rfl (by kernel_rfl)) ?_
      refine WR.unsat (c0 := true) (g := true) rfl rfl rfl (nott rfl) rfl ?_
      refine WR.unsat (c0 := true) (g := true) rfl rfl rfl (nott rfl) rfl ?_
      refine WR.unsat (c0 := true) (g := true) rfl rfl rfl (nott rfl) rfl ?_
      refine va rfl rfl rfl (q_pickt (v := .bool true) rfl rfl rfl) ?_
      refine WR.nil ?_
      change WC _ _ _ _ _ _
      refine WC.ctk (b := true) (by kernel_rfl) rfl ?_
      refine WC.rs ?_
      refine va rfl rfl rfl (q_assign (v := .bool false) rfl (by kernel_rfl)) ?_
      refine WR.nil ?_
      change WC _ _ _ _ _ _
      refine WC.ret ?_
      intro w hw
      obtain rfl := Option.some.inj h
      subst hF
      exact ⟨by kernel_rfl, hw.fr⟩
  · skip
    have h := bf hb21 h
    refine WR.unsat (c0 := true) (g := ((Option.isNone z8.1) || (z8.2 != 0))) rfl rfl rfl hb21 rfl ?_
    refine WR.unsat (c0 := true) (g := ((Option.isNone z8.1) || (z8.2 != 0))) rfl rfl rfl hb21 rfl ?_
    refine va rfl rfl rfl (q_pick_t (v := .bool true) rfl rfl (not_f hb21) (by kernel_rfl)) ?_
    refine va rfl rfl rfl (q_move (v := .bool true) rfl (by kernel_rfl)) ?_
    refine WR.unsat (c0 := true) (g := true) rfl rfl rfl (nott rfl) rfl ?_
    refine WR.unsat (c0 := true) (g := true) rfl rfl rfl (nott rfl) rfl ?_
    refine va rfl rfl rfl (q_pickt (v := .bool true) rfl rfl rfl) ?_
    refine va rfl rfl rfl (q_move (v := .bool true) rfl (by kernel_rfl)) ?_
    refine WR.unsat (c0 := true) (g := true) rfl rfl rfl (nott rfl) rfl ?_
    refine WR.unsat (c0 := true) (g := true) rfl rfl rfl (nott rfl) rfl ?_
    refine va rfl rfl rfl (q_pickt (v := .bool true) rfl rfl rfl) ?_
    refine va rfl rfl rfl (q_move (v := .bool true) rfl (by kernel_rfl)) ?_
    refine WR.unsat (c0 := true) (g := true) rfl rfl rfl (nott rfl) rfl ?_
    refine WR.unsat (c0 := true) (g := true) rfl rfl rfl (nott rfl) rfl ?_
    refine va rfl rfl rfl (q_pickt (v := .bool true) rfl rfl rfl) ?_
    refine va rfl rfl rfl (q_move (v := .bool true) rfl (by kernel_rfl)) ?_
    refine WR.unsat (c0 := true) (g := true) rfl rfl rfl (nott rfl) rfl ?_
    refine WR.unsat (c0 := true) (g := true) rfl rfl rfl (nott rfl) rfl ?_
    refine WR.unsat (c0 := true) (g := true) rfl rfl rfl (nott rfl) rfl ?_
    refine va rfl rfl rfl (q_pickt (v := .bool true) rfl rfl rfl) ?_
    refine WR.nil ?_
    change WC _ _ _ _ _ _
    refine WC.ctk (b := true) (by kernel_rfl) rfl ?_
    refine WC.rs ?_
    refine va rfl rfl rfl (q_assign (v := .bool false) rfl (by kernel_rfl)) ?_
    refine WR.nil ?_
    change WC _ _ _ _ _ _
    refine WC.ret ?_
    intro w hw
    obtain rfl := Option.some.inj h
    subst hF
    exact ⟨by kernel_rfl, hw.fr⟩
set_option maxRecDepth 100000 in
set_option maxHeartbeats 400000 in
theorem t_firthref12_In {Γ : Gh} {w0 : World} {Al : Option Addr} {cl : Nat} {l : List Int} (hl : Sl intT Γ Al l) (hlc : l.length ≤ cl) (n : Int) (hn : I64 n) (hs : Sat Γ w0) {r : Bool} (h : m_firthref12_In l n = some r) : Calls Try.prog 34 #[.slice Al l.length cl, .int .i64 n] w0 (fun e w' => e = .returned (.bool r) ∧ Fr no w0 w') := by
  refine calls_of (N := 18) (rs := [4]) (args := [.slice Al l.length cl, .int .i64 n]) Try.func34 rfl Try.ntmps34 Try.results34 rfl ?_
  obtain ⟨F, hF⟩ : ∃ F : Fm, F = ⟨no, w0, Γ⟩ := ⟨_, rfl⟩
  refine WC.here (C := CC F Γ []) ?_ (hF ▸ Cur.start0 hs)
  refine WC.rs ?_
  refine va rfl rfl rfl (q_assign (v := .bool false) rfl (by kernel_rfl)) ?_
  refine WR.nil ?_
  change WC _ _ _ _ _ _
  refine WC.seq ?_
  refine WC.rs ?_
  refine va rfl rfl rfl (q_assign (v := .int .i64 0) rfl (by kernel_rfl)) ?_
  refine WR.nil ?_
  change WC _ _ _ _ _ _
  refine WC.block ?_
  refine WC.forI h (fun (i2 : Nat) (s : Unit) σ w => match s with | () => slots σ [(0, .slice Al l.length cl), (1, .int .i64 n), (5, .int .i64 ((i2 : Nat) : Int))] ∧ CC F Γ [] w ∧ True) ?_ ?_
  · skip
    intro w hw
    exact ⟨(sl_ (by kernel_rfl)), hw, trivial⟩
  rintro f1 i2 ⟨⟩ σ w hi3 hlt4 hge5 ⟨hsl, hw, -⟩
  refine Wpt.slots hsl ?_
  refine WC.here (C := CC F Γ []) ?_ hw
  clear hw hsl
  refine WC.seq ?_
  refine WC.rs ?_
  refine va rfl rfl rfl (q_move (v := .int .i64 ((i2 : Nat) : Int)) rfl (by kernel_rfl)) ?_
  refine va rfl rfl rfl (q_move (v := .slice Al l.length cl) rfl (by kernel_rfl)) ?_
  refine va rfl rfl rfl (q_len_slice rfl Try.underlying22 rfl) ?_
  refine va rfl rfl rfl (q_lss rfl rfl rfl) ?_
  refine WR.nil ?_
  change WC _ _ _ _ _ _
  refine WC.cond (b := (decide (((i2 : Nat) : Int) < ((l.length : Nat) : Int)))) (by kernel_rfl) (fun hb6 => ?_) (fun hb6 => ?_)
  · skip
    have hl7 := ilt hb6
    have h := hlt4 hl7
    refine WC.skip ?_
    change WC _ _ _ _ _ _
    refine WC.seq ?_
    refine WC.block ?_
    refine WC.rs ?_
    refine va rfl rfl rfl (q_move (v := .slice Al l.length cl) rfl (by kernel_rfl)) ?_
    refine va rfl rfl rfl (q_move (v := .int .i64 ((i2 : Nat) : Int)) rfl (by kernel_rfl)) ?_
    refine va rfl rfl rfl (q_ixn (i := i2) Try.underlying22 Try.sizeOf3 rfl rfl rfl hl7 (hl.some_ hl7)) ?_
    refine va rfl rfl rfl (q_ld (c := 0) (v := .int .i64 (gt l i2)) (hl.intT_at hl7).2 rfl Try.isAgg3 rfl rfl) ?_
    refine va rfl rfl rfl (q_move (v := .int .i64 n) rfl (by kernel_rfl)) ?_
    refine va rfl rfl rfl (q_eql rfl rfl rfl) ?_
    refine WR.nil ?_
    change WC _ _ _ _ _ _
    refine WC.cif h (by kernel_rfl) (fun hb8 h => ?_) (fun hb8 h => ?_)
    · skip
      refine WC.rs ?_
      refine va rfl rfl rfl (q_assign (v := .bool true) rfl (by kernel_rfl)) ?_
      refine WR.nil ?_
      change WC _ _ _ _ _ _
      refine WC.ret ?_
      intro w hw
      obtain rfl := Option.some.inj h
      subst hF
      exact ⟨by kernel_rfl, hw.fr⟩
    · skip
      refine WC.skip ?_
      change WC _ _ _ _ _ _
      refine WC.region ?_
      refine va rfl rfl rfl (q_move (v := .int .i64 ((i2 : Nat) : Int)) rfl (by kernel_rfl)) ?_
      refine va rfl rfl rfl (q_add_r (r := ((i2 + 1 : Nat) : Int)) rfl rfl rfl (ctr_len hl7 hl.le)) ?_
      refine va rfl rfl rfl (q_assign (v := .int .i64 ((i2 + 1 : Nat) : Int)) rfl (by kernel_rfl)) ?_
      refine WR.nil ?_
      intro w hw
      exact ⟨hl7, (), h, (sl_ (by kernel_rfl)), hw, trivial⟩
  · skip
    have h := hge5 (ige hb6)
    refine WC.exit ?_
    change WC _ _ _ _ _ _
    refine WC.rs ?_
    refine va rfl rfl rfl (q_assign (v := .bool false) rfl (by kernel_rfl)) ?_
    refine WR.nil ?_
    change WC _ _ _ _ _ _
    refine WC.ret ?_
    intro w hw
    obtain rfl := Option.some.inj h
    subst hF
    exact ⟨by kernel_rfl, hw.fr⟩
set_option maxRecDepth 100000 in
set_option maxHeartbeats 400000 in
theorem t_firthref03_Dot {Γ : Gh} {w0 : World} (d : Dot) (hd : Dot.fits Γ  d) (hs : Sat Γ w0) {r : Bool} (h : m_firthref03_Dot d = some r) : Calls Try.prog 51 #[.agg #[.int .i64 d.s, .int .i64 d.n]] w0 (fun e w' => e = .returned (.bool r) ∧ Fr no w0 w') := by
  refine calls_of (N := 21) (rs := [2]) (args := [.agg #[.int .i64 d.s, .int .i64 d.n]]) Try.func51 rfl Try.ntmps51 Try.results51 rfl ?_
  obtain ⟨F, hF⟩ : ∃ F : Fm, F = ⟨no, w0, Γ⟩ := ⟨_, rfl⟩
  refine WC.here (C := CC F Γ []) ?_ (hF ▸ Cur.start0 hs)
  refine WC.rs ?_
  refine e_box (v := .agg #[.int .i64 d.s, .int .i64 d.n]) rfl rfl rfl rfl (by kernel_rfl) ?_
  intro g1
  refine va rfl rfl rfl (q_assign (v := .bool false) rfl (by kernel_rfl)) ?_
  refine WR.nil ?_
  change WC _ _ _ _ _ _
  refine WC.rs ?_
  refine va rfl rfl rfl (q_fl 0 fld_55_0 rfl rfl rfl) ?_
  refine va rfl rfl rfl (q_ldl (i := 0) (v := .int .i64 d.s) rfl rfl Try.isAgg3 rfl rfl) ?_
  refine va rfl rfl rfl (q_geq rfl rfl rfl) ?_
  refine va rfl rfl rfl (q_move (v := .bool (decide (1 ≤ d.s))) rfl (by kernel_rfl)) ?_
  refine vg1 rfl rfl rfl rfl rfl (fun hg2 => QV.qo (q_fl 0 fld_55_0 rfl rfl rfl)) ?_
  refine vg1 rfl rfl rfl rfl rfl (fun hg3 => QV.qo (q_ldl (i := 0) (v := .int .i64 d.s) rfl rfl Try.isAgg3 (gu hg3 rfl) rfl)) ?_
  refine vg1 rfl rfl rfl rfl rfl (fun hg4 => QV.qo (q_leq rfl (gu hg4 rfl) rfl)) ?_
  refine va rfl rfl rfl (q_pick rfl rfl (pk_and' (g := (decide (1 ≤ d.s))) (y := (decide (d.s ≤ 16))))) ?_
  refine va rfl rfl rfl (q_move (v := .bool ((decide (1 ≤ d.s)) && (decide (d.s ≤ 16)))) rfl (by kernel_rfl)) ?_
  refine vg1 rfl rfl rfl rfl rfl (fun hg5 => QV.qo (q_fl 1 fld_55_1 rfl rfl rfl)) ?_
  refine vg1 rfl rfl rfl rfl rfl (fun hg6 => QV.qo (q_ldl (i := 0) (v := .int .i64 d.n) rfl rfl Try.isAgg2 (gu hg6 rfl) rfl)) ?_
  refine vg1 rfl rfl rfl rfl rfl (fun hg7 => QV.qo (q_geq rfl (gu hg7 rfl) rfl)) ?_
  refine va rfl rfl rfl (q_pick rfl rfl (pk_and' (g := ((decide (1 ≤ d.s)) && (decide (d.s ≤ 16)))) (y := (decide (1 ≤ d.n))))) ?_
  refine va rfl rfl rfl (q_move (v := .bool (((decide (1 ≤ d.s)) && (decide (d.s ≤ 16))) && (decide (1 ≤ d.n)))) rfl (by kernel_rfl)) ?_
  refine vg1 rfl rfl rfl rfl rfl (fun hg8 => QV.qo (q_fl 1 fld_55_1 rfl rfl rfl)) ?_
  refine vg1 rfl rfl rfl rfl rfl (fun hg9 => QV.qo (q_ldl (i := 0) (v := .int .i64 d.n) rfl rfl Try.isAgg2 (gu hg9 rfl) rfl)) ?_
  refine vg1 rfl rfl rfl rfl rfl (fun hg10 => QV.qo (q_leq rfl (gu hg10 rfl) rfl)) ?_
  refine va rfl rfl rfl (q_pick rfl rfl (pk_and' (g := (((decide (1 ≤ d.s)) && (decide (d.s ≤ 16))) && (decide (1 ≤ d.n)))) (y := (decide (d.n ≤ 4611686018427387904))))) ?_
  refine va rfl rfl rfl (q_assign (v := .bool ((((decide (1 ≤ d.s)) && (decide (d.s ≤ 16))) && (decide (1 ≤ d.n))) && (decide (d.n ≤ 4611686018427387904)))) rfl (by kernel_rfl)) ?_
  refine WR.nil ?_
  change WC _ _ _ _ _ _
  refine WC.ret ?_
  intro w hw
  obtain rfl := Option.some.inj h
  subst hF
  exact ⟨by kernel_rfl, hw.fr⟩
set_option maxRecDepth 100000 in
set_option maxHeartbeats 400000 in
theorem t_firthref03_Right {Γ : Gh} {w0 : World} {Al : Option Addr} {cl : Nat} {l : List Span} (hl : Sl spanT Γ Al l) (hlc : l.length ≤ cl) (hs : Sat Γ w0) {r : Bool} (h : m_firthref03_Right l = some r) : Calls Try.prog 52 #[.slice Al l.length cl] w0 (fun e w' => e = .returned (.bool r) ∧ Fr no w0 w') := by
  refine calls_of (N := 99) (rs := [2]) (args := [.slice Al l.length cl]) Try.func52 rfl Try.ntmps52 Try.results52 rfl ?_
  obtain ⟨F, hF⟩ : ∃ F : Fm, F = ⟨no, w0, Γ⟩ := ⟨_, rfl⟩
  refine WC.here (C := CC F Γ []) ?_ (hF ▸ Cur.start0 hs)
  refine WC.rs ?_
  refine va rfl rfl rfl (q_assign (v := .bool false) rfl (by kernel_rfl)) ?_
  refine WR.nil ?_
  change WC _ _ _ _ _ _
  refine WC.seq ?_
  refine WC.rs ?_
  refine va rfl rfl rfl (q_move (v := .slice Al l.length cl) rfl (by kernel_rfl)) ?_
  refine va rfl rfl rfl (q_len_slice rfl Try.underlying56 rfl) ?_
  refine va rfl rfl rfl (q_gtr rfl rfl rfl) ?_
  refine WR.nil ?_
  change WC _ _ _ _ _ _
  refine WC.cif h (by kernel_rfl) (fun hb1 h => ?_) (fun hb1 h => ?_)
  · skip
    refine WC.rs ?_
    refine va rfl rfl rfl (q_assign (v := .bool false) rfl (by kernel_rfl)) ?_
    refine WR.nil ?_
    change WC _ _ _ _ _ _
    refine WC.ret ?_
    intro w hw
    obtain rfl := Option.some.inj h
    subst hF
    exact ⟨by kernel_rfl, hw.fr⟩
  · skip
    refine WC.skip ?_
    change WC _ _ _ _ _ _
    refine WC.seq ?_
    refine WC.rs ?_
    refine va rfl rfl rfl (q_assign (v := .int .i64 0) rfl (by kernel_rfl)) ?_
    refine WR.nil ?_
    change WC _ _ _ _ _ _
    refine WC.block ?_
    refine WC.forI h (fun (i3 : Nat) (s : Unit) σ w => match s with | () => slots σ [(0, .slice Al l.length cl), (3, .int .i64 ((i3 : Nat) : Int))] ∧ CC F Γ [] w ∧ True) ?_ ?_
    · skip
      intro w hw
      exact ⟨(sl_ (by kernel_rfl)), hw, trivial⟩
    rintro f2 i3 ⟨⟩ σ w hi4 hlt5 hge6 ⟨hsl, hw, -⟩
    refine Wpt.slots hsl ?_
    refine WC.here (C := CC F Γ []) ?_ hw
    clear hw hsl
    refine WC.seq ?_
    refine WC.rs ?_
    refine va rfl rfl rfl (q_move (v := .int .i64 ((i3 : Nat) : Int)) rfl (by kernel_rfl)) ?_
    refine va rfl rfl rfl (q_move (v := .slice Al l.length cl) rfl (by kernel_rfl)) ?_
    refine va rfl rfl rfl (q_len_slice rfl Try.underlying56 rfl) ?_
    refine va rfl rfl rfl (q_lss rfl rfl rfl) ?_
    refine WR.nil ?_
    change WC _ _ _ _ _ _
    refine WC.cond (b := (decide (((i3 : Nat) : Int) < ((l.length : Nat) : Int)))) (by kernel_rfl) (fun hb7 => ?_) (fun hb7 => ?_)
    · skip
      have hl8 := ilt hb7
      have h := hlt5 hl8
      refine WC.skip ?_
      change WC _ _ _ _ _ _
      refine WC.seq ?_
      refine WC.block ?_
      refine WC.seq ?_
      refine WC.seq ?_
      refine WC.dr (by kernel_rfl) (by kernel_rfl) (fun w hw => hw.drawn _) ?_
      refine wa rfl rfl rfl (q_move (v := .slice Al l.length cl) rfl (by kernel_rfl)) ?_
      refine wa rfl rfl rfl (q_move (v := .int .i64 ((i3 : Nat) : Int)) rfl (by kernel_rfl)) ?_
      refine wa rfl rfl rfl (q_ixn (i := i3) Try.underlying56 Try.sizeOf106 rfl rfl rfl hl8 (hl.some_ hl8)) ?_
      refine wa rfl rfl rfl (q_field_addr (i3 * 3) fld_106_0 rfl rfl (hl.some_ hl8) rfl) ?_
      refine wa rfl rfl rfl (q_ld (c := 0) (v := .int .i64 (gt l i3).s) (hl.spanT_at hl8).2 rfl Try.isAgg3 rfl rfl) ?_
      refine wa rfl rfl rfl (q_move (v := .slice Al l.length cl) rfl (by kernel_rfl)) ?_
      refine wa rfl rfl rfl (q_move (v := .int .i64 ((i3 : Nat) : Int)) rfl (by kernel_rfl)) ?_
      refine wa rfl rfl rfl (q_ixn (i := i3) Try.underlying56 Try.sizeOf106 rfl rfl rfl hl8 (hl.some_ hl8)) ?_
      refine wa rfl rfl rfl (q_field_addr (i3 * 3 + 1) fld_106_1 rfl rfl (hl.some_ hl8) rfl) ?_
      refine wa rfl rfl rfl (q_ld (c := 1) (v := .int .i64 (gt l i3).f) (hl.spanT_at hl8).2 rfl Try.isAgg2 rfl rfl) ?_
      refine wa rfl rfl rfl (q_build' (v := .agg #[.int .i64 (gt l i3).s, .int .i64 (gt l i3).f]) rfl (bargs2 rfl rfl) (fun w => by kernel_rfl)) ?_
      obtain ⟨z9, hz10, h⟩ := bnd h
      refine wc rfl rfl rfl (q_call (call_run Try.call51 rfl rfl (by kernel_rfl)) (fun w hw => t_firthref03_Dot (Γ := Gh.all w) (⟨(gt l i3).s, (gt l i3).f⟩ : Dot) ⟨(hl.spanT_at hl8).1.1, (hl.spanT_at hl8).1.2.1⟩ (Sat.all w) hz10)) ?_
      refine wa rfl rfl rfl (q_not rfl rfl) ?_
      refine wa rfl rfl rfl (q_move (v := .bool (!z9)) rfl (by kernel_rfl)) ?_
      refine wg0 rfl rfl rfl rfl rfl (fun hg11 => QV.qo (q_move (v := .slice Al l.length cl) rfl (by kernel_rfl))) ?_
      refine wg0 rfl rfl rfl rfl rfl (fun hg12 => QV.qo (q_move (v := .int .i64 ((i3 : Nat) : Int)) rfl (by kernel_rfl))) ?_
      refine wg0 rfl rfl rfl rfl rfl (fun hg13 => QV.qo (q_ixn (i := i3) Try.underlying56 Try.sizeOf106 rfl (gu hg13 rfl) (gu hg13 rfl) hl8 (hl.some_ hl8))) ?_
      refine wg0 rfl rfl rfl rfl rfl (fun hg14 => QV.qo (q_field_addr (i3 * 3) fld_106_0 rfl (gu hg14 rfl) (hl.some_ hl8) rfl)) ?_
      refine wg0 rfl rfl rfl rfl rfl (fun hg15 => QV.qo (q_ld (c := 0) (v := .int .i64 (gt l i3).s) (hl.spanT_at hl8).2 rfl Try.isAgg3 (gu hg15 rfl) rfl)) ?_
      refine wg0 rfl rfl rfl rfl rfl (fun hg16 => QV.qo (q_move (v := .slice Al l.length cl) rfl (by kernel_rfl))) ?_
      refine wg0 rfl rfl rfl rfl rfl (fun hg17 => QV.qo (q_move (v := .int .i64 ((i3 : Nat) : Int)) rfl (by kernel_rfl))) ?_
      refine wg0 rfl rfl rfl rfl rfl (fun hg18 => QV.qo (q_ixn (i := i3) Try.underlying56 Try.sizeOf106 rfl (gu hg18 rfl) (gu hg18 rfl) hl8 (hl.some_ hl8))) ?_
      refine wg0 rfl rfl rfl rfl rfl (fun hg19 => QV.qo (q_field_addr (i3 * 3 + 2) fld_106_2 rfl (gu hg19 rfl) (hl.some_ hl8) rfl)) ?_
      refine wg0 rfl rfl rfl rfl rfl (fun hg20 => QV.qo (q_ld (c := 2) (v := .int .i64 (gt l i3).t) (hl.spanT_at hl8).2 rfl Try.isAgg2 (gu hg20 rfl) rfl)) ?_
      refine wg0 rfl rfl rfl rfl rfl (fun hg21 => QV.qo (q_build' (v := .agg #[.int .i64 (gt l i3).s, .int .i64 (gt l i3).t]) rfl (bargs2 (gu hg21 rfl) (gu hg21 rfl)) (fun w => by kernel_rfl))) ?_
      obtain ⟨z23, hz24, h⟩ := bnd h
      refine wg0 rfl rfl rfl rfl rfl (fun hg22 => (q_call (call_run Try.call51 rfl rfl (args1 (gu hg22 rfl))) (fun w hw => t_firthref03_Dot (Γ := Gh.all w) (⟨(gt l i3).s, (gt l i3).t⟩ : Dot) ⟨(hl.spanT_at hl8).1.1, (hl.spanT_at hl8).1.2.2⟩ (Sat.all w) (gc_of hz24 hg22)))) ?_
      refine wg0 rfl rfl rfl rfl rfl (fun hg25 => QV.qo (q_not rfl (gu hg25 rfl))) ?_
      refine wa rfl rfl rfl (q_pick rfl rfl (pk_or' (g := (!z9)) (y := (!z23)))) ?_
      refine wa rfl rfl rfl (q_move (v := .bool ((!z9) || (!z23))) rfl (by kernel_rfl)) ?_
      refine wg0 rfl rfl rfl rfl rfl (fun hg26 => QV.qo (q_move (v := .slice Al l.length cl) rfl (by kernel_rfl))) ?_
      refine wg0 rfl rfl rfl rfl rfl (fun hg27 => QV.qo (q_move (v := .int .i64 ((i3 : Nat) : Int)) rfl (by kernel_rfl))) ?_
      refine wg0 rfl rfl rfl rfl rfl (fun hg28 => QV.qo (q_ixn (i := i3) Try.underlying56 Try.sizeOf106 rfl (gu hg28 rfl) (gu hg28 rfl) hl8 (hl.some_ hl8))) ?_
      refine wg0 rfl rfl rfl rfl rfl (fun hg29 => QV.qo (q_field_addr (i3 * 3 + 1) fld_106_1 rfl (gu hg29 rfl) (hl.some_ hl8) rfl)) ?_
      refine wg0 rfl rfl rfl rfl rfl (fun hg30 => QV.qo (q_ld (c := 1) (v := .int .i64 (gt l i3).f) (hl.spanT_at hl8).2 rfl Try.isAgg2 (gu hg30 rfl) rfl)) ?_
      refine wg0 rfl rfl rfl rfl rfl (fun hg31 => QV.qo (q_move (v := .slice Al l.length cl) rfl (by kernel_rfl))) ?_
      refine wg0 rfl rfl rfl rfl rfl (fun hg32 => QV.qo (q_move (v := .int .i64 ((i3 : Nat) : Int)) rfl (by kernel_rfl))) ?_
      refine wg0 rfl rfl rfl rfl rfl (fun hg33 => QV.qo (q_ixn (i := i3) Try.underlying56 Try.sizeOf106 rfl (gu hg33 rfl) (gu hg33 rfl) hl8 (hl.some_ hl8))) ?_
      refine wg0 rfl rfl rfl rfl rfl (fun hg34 => QV.qo (q_field_addr (i3 * 3 + 2) fld_106_2 rfl (gu hg34 rfl) (hl.some_ hl8) rfl)) ?_
      refine wg0 rfl rfl rfl rfl rfl (fun hg35 => QV.qo (q_ld (c := 2) (v := .int .i64 (gt l i3).t) (hl.spanT_at hl8).2 rfl Try.isAgg2 (gu hg35 rfl) rfl)) ?_
      refine wg0 rfl rfl rfl rfl rfl (fun hg36 => QV.qo (q_gtr rfl (gu hg36 rfl) (gu hg36 rfl))) ?_
      refine wa rfl rfl rfl (q_pick rfl rfl (pk_or' (g := ((!z9) || (!z23))) (y := (decide ((gt l i3).t < (gt l i3).f))))) ?_
      refine WQ.nil ?_
      change WC _ _ _ _ _ _
      refine WC.cif h (by kernel_rfl) (fun hb37 h => ?_) (fun hb37 h => ?_)
      · skip
        refine WC.rs ?_
        refine va rfl rfl rfl (q_assign (v := .bool false) rfl (by kernel_rfl)) ?_
        refine WR.nil ?_
        change WC _ _ _ _ _ _
        refine WC.ret ?_
        intro w hw
        obtain rfl := Option.some.inj h
        subst hF
        exact ⟨by kernel_rfl, hw.fr⟩
      · skip
        refine WC.skip ?_
        change WC _ _ _ _ _ _
        refine WC.seq ?_
        refine WC.dr (by kernel_rfl) (by kernel_rfl) (fun w hw => hw.drawn _) ?_
        refine wa rfl rfl rfl (q_move (v := .int .i64 ((i3 : Nat) : Int)) rfl (by kernel_rfl)) ?_
        refine wa rfl rfl rfl (q_gtr rfl rfl rfl) ?_
        refine wa rfl rfl rfl (q_move (v := .bool (decide (0 < ((i3 : Nat) : Int)))) rfl (by kernel_rfl)) ?_
        refine wg1 rfl rfl rfl rfl rfl (fun hg38 => QV.qo (q_move (v := .slice Al l.length cl) rfl (by kernel_rfl))) ?_
        refine wg1 rfl rfl rfl rfl rfl (fun hg39 => QV.qo (q_move (v := .int .i64 ((i3 : Nat) : Int)) rfl (by kernel_rfl))) ?_
        refine wg1 rfl rfl rfl rfl rfl (fun hg40 => QV.qo (q_ixn (i := i3) Try.underlying56 Try.sizeOf106 rfl (gu hg40 rfl) (gu hg40 rfl) hl8 (hl.some_ hl8))) ?_
        refine wg1 rfl rfl rfl rfl rfl (fun hg41 => QV.qo (q_field_addr (i3 * 3) fld_106_0 rfl (gu hg41 rfl) (hl.some_ hl8) rfl)) ?_
        refine wg1 rfl rfl rfl rfl rfl (fun hg42 => QV.qo (q_ld (c := 0) (v := .int .i64 (gt l i3).s) (hl.spanT_at hl8).2 rfl Try.isAgg3 (gu hg42 rfl) rfl)) ?_
        refine wg1 rfl rfl rfl rfl rfl (fun hg43 => QV.qo (q_move (v := .slice Al l.length cl) rfl (by kernel_rfl))) ?_
        refine wg1 rfl rfl rfl rfl rfl (fun hg44 => QV.qo (q_move (v := .int .i64 ((i3 : Nat) : Int)) rfl (by kernel_rfl))) ?_
        refine wg1 rfl rfl rfl rfl rfl (fun hg45 => QV.qo (q_sub rfl (gu hg45 rfl) rfl)) ?_
        obtain ⟨hk47, h⟩ := chk_some h
        refine wg1 rfl rfl rfl rfl rfl (fun hg46 => QV.qo (q_ix Try.underlying56 Try.sizeOf106 rfl (gu hg46 rfl) (gu hg46 rfl) (imp_of hk47 hg46) (hl.some_ (inb_lt (imp_of hk47 hg46))))) ?_
        refine wg1 rfl rfl rfl rfl rfl (fun hg48 => QV.qo (q_field_addr (((w64 (((i3 : Nat) : Int) - 1)).toNat) * 3) fld_106_0 rfl (gu hg48 rfl) (hl.some_ (inb_lt (imp_of hk47 hg48))) rfl)) ?_
        refine wg1 rfl rfl rfl rfl rfl (fun hg49 => QV.qo (q_ld (c := 0) (v := .int .i64 (gt l ((w64 (((i3 : Nat) : Int) - 1)).toNat)).s) (hl.spanT_at (inb_lt (imp_of hk47 hg49))).2 rfl Try.isAgg3 (gu hg49 rfl) rfl)) ?_
        refine wg1 rfl rfl rfl rfl rfl (fun hg50 => QV.qo (q_lss rfl (gu hg50 rfl) (gu hg50 rfl))) ?_
        refine wg1 rfl rfl rfl rfl rfl (fun hg51 => QV.qo (q_move (v := .bool (decide ((gt l i3).s < (gt l ((w64 (((i3 : Nat) : Int) - 1)).toNat)).s))) rfl (gu hg51 rfl))) ?_
        refine wh0 (c0 := (decide (0 < ((i3 : Nat) : Int)))) (g := (decide ((gt l i3).s < (gt l ((w64 (((i3 : Nat) : Int) - 1)).toNat)).s))) rfl rfl rfl rfl rfl (fun hg52 => QV.qo (q_move (v := .slice Al l.length cl) rfl (by kernel_rfl))) ?_
        refine wh0 (c0 := (decide (0 < ((i3 : Nat) : Int)))) (g := (decide ((gt l i3).s < (gt l ((w64 (((i3 : Nat) : Int) - 1)).toNat)).s))) rfl rfl rfl rfl rfl (fun hg53 => QV.qo (q_move (v := .int .i64 ((i3 : Nat) : Int)) rfl (by kernel_rfl))) ?_
        refine wh0 (c0 := (decide (0 < ((i3 : Nat) : Int)))) (g := (decide ((gt l i3).s < (gt l ((w64 (((i3 : Nat) : Int) - 1)).toNat)).s))) rfl rfl rfl rfl rfl (fun hg54 => QV.qo (q_ixn (i := i3) Try.underlying56 Try.sizeOf106 rfl (gu hg54 rfl) (gu hg54 rfl) hl8 (hl.some_ hl8))) ?_
        refine wh0 (c0 := (decide (0 < ((i3 : Nat) : Int)))) (g := (decide ((gt l i3).s < (gt l ((w64 (((i3 : Nat) : Int) - 1)).toNat)).s))) rfl rfl rfl rfl rfl (fun hg55 => QV.qo (q_field_addr (i3 * 3) fld_106_0 rfl (gu hg55 rfl) (hl.some_ hl8) rfl)) ?_
        refine wh0 (c0 := (decide (0 < ((i3 : Nat) : Int)))) (g := (decide ((gt l i3).s < (gt l ((w64 (((i3 : Nat) : Int) - 1)).toNat)).s))) rfl rfl rfl rfl rfl (fun hg56 => QV.qo (q_ld (c := 0) (v := .int .i64 (gt l i3).s) (hl.spanT_at hl8).2 rfl Try.isAgg3 (gu hg56 rfl) rfl)) ?_
        refine wh0 (c0 := (decide (0 < ((i3 : Nat) : Int)))) (g := (decide ((gt l i3).s < (gt l ((w64 (((i3 : Nat) : Int) - 1)).toNat)).s))) rfl rfl rfl rfl rfl (fun hg57 => QV.qo (q_move (v := .slice Al l.length cl) rfl (by kernel_rfl))) ?_
        refine wh0 (c0 := (decide (0 < ((i3 : Nat) : Int)))) (g := (decide ((gt l i3).s < (gt l ((w64 (((i3 : Nat) : Int) - 1)).toNat)).s))) rfl rfl rfl rfl rfl (fun hg58 => QV.qo (q_move (v := .int .i64 ((i3 : Nat) : Int)) rfl (by kernel_rfl))) ?_
        refine wh0 (c0 := (decide (0 < ((i3 : Nat) : Int)))) (g := (decide ((gt l i3).s < (gt l ((w64 (((i3 : Nat) : Int) - 1)).toNat)).s))) rfl rfl rfl rfl rfl (fun hg59 => QV.qo (q_sub rfl (gu hg59 rfl) rfl)) ?_
        refine wh0 (c0 := (decide (0 < ((i3 : Nat) : Int)))) (g := (decide ((gt l i3).s < (gt l ((w64 (((i3 : Nat) : Int) - 1)).toNat)).s))) rfl rfl rfl rfl rfl (fun hg60 => QV.qo (q_ix Try.underlying56 Try.sizeOf106 rfl (gu hg60 rfl) (gu hg60 rfl) (imp_of hk47 (and_l hg60)) (hl.some_ (inb_lt (imp_of hk47 (and_l hg60)))))) ?_
        refine wh0 (c0 := (decide (0 < ((i3 : Nat) : Int)))) (g := (decide ((gt l i3).s < (gt l ((w64 (((i3 : Nat) : Int) - 1)).toNat)).s))) rfl rfl rfl rfl rfl (fun hg61 => QV.qo (q_field_addr (((w64 (((i3 : Nat) : Int) - 1)).toNat) * 3) fld_106_0 rfl (gu hg61 rfl) (hl.some_ (inb_lt (imp_of hk47 (and_l hg61)))) rfl)) ?_
        refine wh0 (c0 := (decide (0 < ((i3 : Nat) : Int)))) (g := (decide ((gt l i3).s < (gt l ((w64 (((i3 : Nat) : Int) - 1)).toNat)).s))) rfl rfl rfl rfl rfl (fun hg62 => QV.qo (q_ld (c := 0) (v := .int .i64 (gt l ((w64 (((i3 : Nat) : Int) - 1)).toNat)).s) (hl.spanT_at (inb_lt (imp_of hk47 (and_l hg62)))).2 rfl Try.isAgg3 (gu hg62 rfl) rfl)) ?_
        refine wh0 (c0 := (decide (0 < ((i3 : Nat) : Int)))) (g := (decide ((gt l i3).s < (gt l ((w64 (((i3 : Nat) : Int) - 1)).toNat)).s))) rfl rfl rfl rfl rfl (fun hg63 => QV.qo (q_eql rfl (gu hg63 rfl) (gu hg63 rfl))) ?_
        refine wh0 (c0 := (decide (0 < ((i3 : Nat) : Int)))) (g := (decide ((gt l i3).s < (gt l ((w64 (((i3 : Nat) : Int) - 1)).toNat)).s))) rfl rfl rfl rfl rfl (fun hg64 => QV.qo (q_move (v := .bool ((gt l i3).s == (gt l ((w64 (((i3 : Nat) : Int) - 1)).toNat)).s)) rfl (gu hg64 rfl))) ?_
        refine wh1 (c0 := ((decide (0 < ((i3 : Nat) : Int))) && (!(decide ((gt l i3).s < (gt l ((w64 (((i3 : Nat) : Int) - 1)).toNat)).s))))) (g := ((gt l i3).s == (gt l ((w64 (((i3 : Nat) : Int) - 1)).toNat)).s)) rfl rfl rfl rfl rfl (fun hg65 => QV.qo (q_move (v := .slice Al l.length cl) rfl (by kernel_rfl))) ?_
        refine wh1 (c0 := ((decide (0 < ((i3 : Nat) : Int))) && (!(decide ((gt l i3).s < (gt l ((w64 (((i3 : Nat) : Int) - 1)).toNat)).s))))) (g := ((gt l i3).s == (gt l ((w64 (((i3 : Nat) : Int) - 1)).toNat)).s)) rfl rfl rfl rfl rfl (fun hg66 => QV.qo (q_move (v := .int .i64 ((i3 : Nat) : Int)) rfl (by kernel_rfl))) ?_
        refine wh1 (c0 := ((decide (0 < ((i3 : Nat) : Int))) && (!(decide ((gt l i3).s < (gt l ((w64 (((i3 : Nat) : Int) - 1)).toNat)).s))))) (g := ((gt l i3).s == (gt l ((w64 (((i3 : Nat) : Int) - 1)).toNat)).s)) rfl rfl rfl rfl rfl (fun hg67 => QV.qo (q_ixn (i := i3) Try.underlying56 Try.sizeOf106 rfl (gu hg67 rfl) (gu hg67 rfl) hl8 (hl.some_ hl8))) ?_
        refine wh1 (c0 := ((decide (0 < ((i3 : Nat) : Int))) && (!(decide ((gt l i3).s < (gt l ((w64 (((i3 : Nat) : Int) - 1)).toNat)).s))))) (g := ((gt l i3).s == (gt l ((w64 (((i3 : Nat) : Int) - 1)).toNat)).s)) rfl rfl rfl rfl rfl (fun hg68 => QV.qo (q_field_addr (i3 * 3 + 1) fld_106_1 rfl (gu hg68 rfl) (hl.some_ hl8) rfl)) ?_
        refine wh1 (c0 := ((decide (0 < ((i3 : Nat) : Int))) && (!(decide ((gt l i3).s < (gt l ((w64 (((i3 : Nat) : Int) - 1)).toNat)).s))))) (g := ((gt l i3).s == (gt l ((w64 (((i3 : Nat) : Int) - 1)).toNat)).s)) rfl rfl rfl rfl rfl (fun hg69 => QV.qo (q_ld (c := 1) (v := .int .i64 (gt l i3).f) (hl.spanT_at hl8).2 rfl Try.isAgg2 (gu hg69 rfl) rfl)) ?_
        refine wh1 (c0 := ((decide (0 < ((i3 : Nat) : Int))) && (!(decide ((gt l i3).s < (gt l ((w64 (((i3 : Nat) : Int) - 1)).toNat)).s))))) (g := ((gt l i3).s == (gt l ((w64 (((i3 : Nat) : Int) - 1)).toNat)).s)) rfl rfl rfl rfl rfl (fun hg70 => QV.qo (q_sub rfl (gu hg70 rfl) rfl)) ?_
        refine wh1 (c0 := ((decide (0 < ((i3 : Nat) : Int))) && (!(decide ((gt l i3).s < (gt l ((w64 (((i3 : Nat) : Int) - 1)).toNat)).s))))) (g := ((gt l i3).s == (gt l ((w64 (((i3 : Nat) : Int) - 1)).toNat)).s)) rfl rfl rfl rfl rfl (fun hg71 => QV.qo (q_move (v := .slice Al l.length cl) rfl (by kernel_rfl))) ?_
        refine wh1 (c0 := ((decide (0 < ((i3 : Nat) : Int))) && (!(decide ((gt l i3).s < (gt l ((w64 (((i3 : Nat) : Int) - 1)).toNat)).s))))) (g := ((gt l i3).s == (gt l ((w64 (((i3 : Nat) : Int) - 1)).toNat)).s)) rfl rfl rfl rfl rfl (fun hg72 => QV.qo (q_move (v := .int .i64 ((i3 : Nat) : Int)) rfl (by kernel_rfl))) ?_
        refine wh1 (c0 := ((decide (0 < ((i3 : Nat) : Int))) && (!(decide ((gt l i3).s < (gt l ((w64 (((i3 : Nat) : Int) - 1)).toNat)).s))))) (g := ((gt l i3).s == (gt l ((w64 (((i3 : Nat) : Int) - 1)).toNat)).s)) rfl rfl rfl rfl rfl (fun hg73 => QV.qo (q_sub rfl (gu hg73 rfl) rfl)) ?_
        refine wh1 (c0 := ((decide (0 < ((i3 : Nat) : Int))) && (!(decide ((gt l i3).s < (gt l ((w64 (((i3 : Nat) : Int) - 1)).toNat)).s))))) (g := ((gt l i3).s == (gt l ((w64 (((i3 : Nat) : Int) - 1)).toNat)).s)) rfl rfl rfl rfl rfl (fun hg74 => QV.qo (q_ix Try.underlying56 Try.sizeOf106 rfl (gu hg74 rfl) (gu hg74 rfl) (imp_of hk47 (and_l (and_l hg74))) (hl.some_ (inb_lt (imp_of hk47 (and_l (and_l hg74))))))) ?_
        refine wh1 (c0 := ((decide (0 < ((i3 : Nat) : Int))) && (!(decide ((gt l i3).s < (gt l ((w64 (((i3 : Nat) : Int) - 1)).toNat)).s))))) (g := ((gt l i3).s == (gt l ((w64 (((i3 : Nat) : Int) - 1)).toNat)).s)) rfl rfl rfl rfl rfl (fun hg75 => QV.qo (q_field_addr (((w64 (((i3 : Nat) : Int) - 1)).toNat) * 3 + 2) fld_106_2 rfl (gu hg75 rfl) (hl.some_ (inb_lt (imp_of hk47 (and_l (and_l hg75))))) rfl)) ?_
        refine wh1 (c0 := ((decide (0 < ((i3 : Nat) : Int))) && (!(decide ((gt l i3).s < (gt l ((w64 (((i3 : Nat) : Int) - 1)).toNat)).s))))) (g := ((gt l i3).s == (gt l ((w64 (((i3 : Nat) : Int) - 1)).toNat)).s)) rfl rfl rfl rfl rfl (fun hg76 => QV.qo (q_ld (c := 2) (v := .int .i64 (gt l ((w64 (((i3 : Nat) : Int) - 1)).toNat)).t) (hl.spanT_at (inb_lt (imp_of hk47 (and_l (and_l hg76))))).2 rfl Try.isAgg2 (gu hg76 rfl) rfl)) ?_
        refine wh1 (c0 := ((decide (0 < ((i3 : Nat) : Int))) && (!(decide ((gt l i3).s < (gt l ((w64 (((i3 : Nat) : Int) - 1)).toNat)).s))))) (g := ((gt l i3).s == (gt l ((w64 (((i3 : Nat) : Int) - 1)).toNat)).s)) rfl rfl rfl rfl rfl (fun hg77 => QV.qo (q_leq rfl (gu hg77 rfl) (gu hg77 rfl))) ?_
        refine wh0 (c0 := (decide (0 < ((i3 : Nat) : Int)))) (g := (decide ((gt l i3).s < (gt l ((w64 (((i3 : Nat) : Int) - 1)).toNat)).s))) rfl rfl rfl rfl rfl (fun hg78 => QV.qo (q_pick rfl (gu hg78 rfl) (pk_and (c := ((decide (0 < ((i3 : Nat) : Int))) && (!(decide ((gt l i3).s < (gt l ((w64 (((i3 : Nat) : Int) - 1)).toNat)).s))))) (g := ((gt l i3).s == (gt l ((w64 (((i3 : Nat) : Int) - 1)).toNat)).s)) (y := (decide ((w64 ((gt l i3).f - 1)) ≤ (gt l ((w64 (((i3 : Nat) : Int) - 1)).toNat)).t))) hg78))) ?_
        refine wg1 rfl rfl rfl rfl rfl (fun hg79 => QV.qo (q_pick rfl (gu hg79 rfl) (pk_or (c := (decide (0 < ((i3 : Nat) : Int)))) (g := (decide ((gt l i3).s < (gt l ((w64 (((i3 : Nat) : Int) - 1)).toNat)).s))) (y := (((gt l i3).s == (gt l ((w64 (((i3 : Nat) : Int) - 1)).toNat)).s) && (decide ((w64 ((gt l i3).f - 1)) ≤ (gt l ((w64 (((i3 : Nat) : Int) - 1)).toNat)).t)))) hg79))) ?_
        refine wa rfl rfl rfl (q_pick rfl rfl (pk_and' (g := (decide (0 < ((i3 : Nat) : Int)))) (y := ((decide ((gt l i3).s < (gt l ((w64 (((i3 : Nat) : Int) - 1)).toNat)).s)) || (((gt l i3).s == (gt l ((w64 (((i3 : Nat) : Int) - 1)).toNat)).s) && (decide ((w64 ((gt l i3).f - 1)) ≤ (gt l ((w64 (((i3 : Nat) : Int) - 1)).toNat)).t))))))) ?_
        refine WQ.nil ?_
        change WC _ _ _ _ _ _
        refine WC.cif h (by kernel_rfl) (fun hb80 h => ?_) (fun hb80 h => ?_)
        · skip
          refine WC.rs ?_
          refine va rfl rfl rfl (q_assign (v := .bool false) rfl (by kernel_rfl)) ?_
          refine WR.nil ?_
          change WC _ _ _ _ _ _
          refine WC.ret ?_
          intro w hw
          obtain rfl := Option.some.inj h
          subst hF
          exact ⟨by kernel_rfl, hw.fr⟩
        · skip
          refine WC.skip ?_
          change WC _ _ _ _ _ _
          refine WC.region ?_
          refine va rfl rfl rfl (q_move (v := .int .i64 ((i3 : Nat) : Int)) rfl (by kernel_rfl)) ?_
          refine va rfl rfl rfl (q_add_r (r := ((i3 + 1 : Nat) : Int)) rfl rfl rfl (ctr_len hl8 hl.le)) ?_
          refine va rfl rfl rfl (q_assign (v := .int .i64 ((i3 + 1 : Nat) : Int)) rfl (by kernel_rfl)) ?_
          refine WR.nil ?_
          intro w hw
          exact ⟨hl8, (), h, (sl_ (by kernel_rfl)), hw, trivial⟩
    · skip
      have h := hge6 (ige hb7)
      refine WC.exit ?_
      change WC _ _ _ _ _ _
      refine WC.rs ?_
      refine va rfl rfl rfl (q_assign (v := .bool true) rfl (by kernel_rfl)) ?_
      refine WR.nil ?_
      change WC _ _ _ _ _ _
      refine WC.ret ?_
      intro w hw
      obtain rfl := Option.some.inj h
      subst hF
      exact ⟨by kernel_rfl, hw.fr⟩
set_option maxRecDepth 100000 in
set_option maxHeartbeats 400000 in
theorem t_firthref03_Top {Γ : Gh} {w0 : World} {Al : Option Addr} {cl : Nat} {l : List Span} (hl : Sl spanT Γ Al l) (hlc : l.length ≤ cl) (s_ : Int) (hs_ : I64 s_) (hs : Sat Γ w0) {r : Int} (h : m_firthref03_Top l s_ = some r) : Calls Try.prog 53 #[.slice Al l.length cl, .int .i64 s_] w0 (fun e w' => e = .returned (.int .i64 r) ∧ Fr no w0 w') := by
  refine calls_of (N := 35) (rs := [4]) (args := [.slice Al l.length cl, .int .i64 s_]) Try.func53 rfl Try.ntmps53 Try.results53 rfl ?_
  obtain ⟨F, hF⟩ : ∃ F : Fm, F = ⟨no, w0, Γ⟩ := ⟨_, rfl⟩
  refine WC.here (C := CC F Γ []) ?_ (hF ▸ Cur.start0 hs)
  refine WC.rs ?_
  refine va rfl rfl rfl (q_assign (v := .int .i64 0) rfl (by kernel_rfl)) ?_
  refine WR.nil ?_
  change WC _ _ _ _ _ _
  refine WC.rs ?_
  refine va rfl rfl rfl (q_assign (v := .int .i64 0) rfl (by kernel_rfl)) ?_
  refine WR.nil ?_
  change WC _ _ _ _ _ _
  refine WC.seq ?_
  refine WC.rs ?_
  refine va rfl rfl rfl (q_assign (v := .int .i64 0) rfl (by kernel_rfl)) ?_
  refine WR.nil ?_
  change WC _ _ _ _ _ _
  refine WC.block ?_
  refine WC.forI h (fun (i4 : Nat) (n_1 : Int) σ w => slots σ [(0, .slice Al l.length cl), (1, .int .i64 s_), (5, .int .i64 n_1), (6, .int .i64 ((i4 : Nat) : Int))] ∧ CC F Γ [] w ∧ I64 n_1 ∧ True) ?_ ?_
  · skip
    intro w hw
    exact ⟨(sl_ (by kernel_rfl)), hw, (show I64 0 by decide), trivial⟩
  rintro f3 i4 n_1 σ w hi5 hlt6 hge7 ⟨hsl, hw, hr2, -⟩
  refine Wpt.slots hsl ?_
  refine WC.here (C := CC F Γ []) ?_ hw
  clear hw hsl
  refine WC.seq ?_
  refine WC.rs ?_
  refine va rfl rfl rfl (q_move (v := .int .i64 ((i4 : Nat) : Int)) rfl (by kernel_rfl)) ?_
  refine va rfl rfl rfl (q_move (v := .slice Al l.length cl) rfl (by kernel_rfl)) ?_
  refine va rfl rfl rfl (q_len_slice rfl Try.underlying56 rfl) ?_
  refine va rfl rfl rfl (q_lss rfl rfl rfl) ?_
  refine WR.nil ?_
  change WC _ _ _ _ _ _
  refine WC.cond (b := (decide (((i4 : Nat) : Int) < ((l.length : Nat) : Int)))) (by kernel_rfl) (fun hb8 => ?_) (fun hb8 => ?_)
  · skip
    have hl9 := ilt hb8
    have h := hlt6 hl9
    refine WC.skip ?_
    change WC _ _ _ _ _ _
    refine WC.cut (fun σ w => ∃ (n_10 : Int), m_firthref03_Top_j6 f3 n_10 = some r ∧ slots σ [(0, .slice Al l.length cl), (1, .int .i64 s_), (5, .int .i64 n_10), (6, .int .i64 ((i4 : Nat) : Int))] ∧ CC F Γ [] w ∧ I64 n_10 ∧ True) ?_ ?_
    · skip
      refine WC.block ?_
      refine WC.rs ?_
      refine va rfl rfl rfl (q_move (v := .slice Al l.length cl) rfl (by kernel_rfl)) ?_
      refine va rfl rfl rfl (q_move (v := .int .i64 ((i4 : Nat) : Int)) rfl (by kernel_rfl)) ?_
      refine va rfl rfl rfl (q_ixn (i := i4) Try.underlying56 Try.sizeOf106 rfl rfl rfl hl9 (hl.some_ hl9)) ?_
      refine va rfl rfl rfl (q_field_addr (i4 * 3) fld_106_0 rfl rfl (hl.some_ hl9) rfl) ?_
      refine va rfl rfl rfl (q_ld (c := 0) (v := .int .i64 (gt l i4).s) (hl.spanT_at hl9).2 rfl Try.isAgg3 rfl rfl) ?_
      refine va rfl rfl rfl (q_move (v := .int .i64 s_) rfl (by kernel_rfl)) ?_
      refine va rfl rfl rfl (q_eql rfl rfl rfl) ?_
      refine va rfl rfl rfl (q_move (v := .bool ((gt l i4).s == s_)) rfl (by kernel_rfl)) ?_
      refine vg1 rfl rfl rfl rfl rfl (fun hg12 => QV.qo (q_move (v := .slice Al l.length cl) rfl (by kernel_rfl))) ?_
      refine vg1 rfl rfl rfl rfl rfl (fun hg13 => QV.qo (q_move (v := .int .i64 ((i4 : Nat) : Int)) rfl (by kernel_rfl))) ?_
      refine vg1 rfl rfl rfl rfl rfl (fun hg14 => QV.qo (q_ixn (i := i4) Try.underlying56 Try.sizeOf106 rfl (gu hg14 rfl) (gu hg14 rfl) hl9 (hl.some_ hl9))) ?_
      refine vg1 rfl rfl rfl rfl rfl (fun hg15 => QV.qo (q_field_addr (i4 * 3 + 2) fld_106_2 rfl (gu hg15 rfl) (hl.some_ hl9) rfl)) ?_
      refine vg1 rfl rfl rfl rfl rfl (fun hg16 => QV.qo (q_ld (c := 2) (v := .int .i64 (gt l i4).t) (hl.spanT_at hl9).2 rfl Try.isAgg2 (gu hg16 rfl) rfl)) ?_
      refine vg1 rfl rfl rfl rfl rfl (fun hg17 => QV.qo (q_move (v := .int .i64 n_1) rfl (by kernel_rfl))) ?_
      refine vg1 rfl rfl rfl rfl rfl (fun hg18 => QV.qo (q_gtr rfl (gu hg18 rfl) (gu hg18 rfl))) ?_
      refine va rfl rfl rfl (q_pick rfl rfl (pk_and' (g := ((gt l i4).s == s_)) (y := (decide (n_1 < (gt l i4).t))))) ?_
      refine WR.nil ?_
      change WC _ _ _ _ _ _
      refine WC.cif h (by kernel_rfl) (fun hb19 h => ?_) (fun hb19 h => ?_)
      · skip
        refine WC.region ?_
        refine va rfl rfl rfl (q_move (v := .slice Al l.length cl) rfl (by kernel_rfl)) ?_
        refine va rfl rfl rfl (q_move (v := .int .i64 ((i4 : Nat) : Int)) rfl (by kernel_rfl)) ?_
        refine va rfl rfl rfl (q_ixn (i := i4) Try.underlying56 Try.sizeOf106 rfl rfl rfl hl9 (hl.some_ hl9)) ?_
        refine va rfl rfl rfl (q_field_addr (i4 * 3 + 2) fld_106_2 rfl rfl (hl.some_ hl9) rfl) ?_
        refine va rfl rfl rfl (q_ld (c := 2) (v := .int .i64 (gt l i4).t) (hl.spanT_at hl9).2 rfl Try.isAgg2 rfl rfl) ?_
        refine va rfl rfl rfl (q_assign (v := .int .i64 (gt l i4).t) rfl (by kernel_rfl)) ?_
        refine WR.nil ?_
        intro w hw
        exact ⟨(gt l i4).t, h, (sl_ (by kernel_rfl)), hw, (hl.spanT_at hl9).1.2.2, trivial⟩
      · skip
        refine WC.skip ?_
        intro w hw
        exact ⟨n_1, h, (sl_ (by kernel_rfl)), hw, hr2, trivial⟩
    · skip
      rintro σ w ⟨n_10, h, hsl, hw, hr11, -⟩
      refine Wpt.slots hsl ?_
      refine WC.here (C := CC F Γ []) ?_ hw
      clear hw hsl
      refine WC.region ?_
      refine va rfl rfl rfl (q_move (v := .int .i64 ((i4 : Nat) : Int)) rfl (by kernel_rfl)) ?_
      refine va rfl rfl rfl (q_add_r (r := ((i4 + 1 : Nat) : Int)) rfl rfl rfl (ctr_len hl9 hl.le)) ?_
      refine va rfl rfl rfl (q_assign (v := .int .i64 ((i4 + 1 : Nat) : Int)) rfl (by kernel_rfl)) ?_
      refine WR.nil ?_
      intro w hw
      exact ⟨hl9, n_10, h, (sl_ (by kernel_rfl)), hw, hr11, trivial⟩
  · skip
    have h := hge7 (ige hb8)
    refine WC.exit ?_
    change WC _ _ _ _ _ _
    refine WC.rs ?_
    refine va rfl rfl rfl (q_move (v := .int .i64 n_1) rfl (by kernel_rfl)) ?_
    refine va rfl rfl rfl (q_assign (v := .int .i64 n_1) rfl (by kernel_rfl)) ?_
    refine WR.nil ?_
    change WC _ _ _ _ _ _
    refine WC.ret ?_
    intro w hw
    obtain rfl := Option.some.inj h
    subst hF
    exact ⟨by kernel_rfl, hw.fr⟩
set_option maxRecDepth 100000 in
set_option maxHeartbeats 400000 in
theorem t_firthref05_RightOne {Γ : Gh} {w0 : World} {Av_2 : Option Addr} {cv_2 : Nat} (v_ : Ver) (hv_ : Ver.fits Γ Av_2 cv_2 v_) (hs : Sat Γ w0) {r : Bool} (h : m_firthref05_RightOne v_ = some r) : Calls Try.prog 30 #[.agg #[.int .i64 v_.dot.s, .int .i64 v_.dot.n, .slice Av_2 v_.past.length cv_2, .bool v_.gone, .string v_.val]] w0 (fun e w' => e = .returned (.bool r) ∧ Fr no w0 w') := by
  refine calls_of (N := 34) (rs := [2]) (args := [.agg #[.int .i64 v_.dot.s, .int .i64 v_.dot.n, .slice Av_2 v_.past.length cv_2, .bool v_.gone, .string v_.val]]) Try.func30 rfl Try.ntmps30 Try.results30 rfl ?_
  obtain ⟨F, hF⟩ : ∃ F : Fm, F = ⟨no, w0, Γ⟩ := ⟨_, rfl⟩
  refine WC.here (C := CC F Γ []) ?_ (hF ▸ Cur.start0 hs)
  refine WC.rs ?_
  refine e_box (v := .agg #[.int .i64 v_.dot.s, .int .i64 v_.dot.n, .slice Av_2 v_.past.length cv_2, .bool v_.gone, .string v_.val]) rfl rfl rfl rfl (by kernel_rfl) ?_
  intro g1
  refine va rfl rfl rfl (q_assign (v := .bool false) rfl (by kernel_rfl)) ?_
  refine WR.nil ?_
  change WC _ _ _ _ _ _
  refine WC.seq ?_
  refine WC.seq ?_
  refine WC.dr (by kernel_rfl) (by kernel_rfl) (fun w hw => hw.drawn _) ?_
  refine wa rfl rfl rfl (q_fl 0 fld_58_0 rfl rfl rfl) ?_
  refine wa rfl rfl rfl (q_ldla (i := 0) (vs := [.int .i64 v_.dot.s, .int .i64 v_.dot.n]) rfl rfl Try.isAgg55 Try.sizeOf55 rfl rfl) ?_
  obtain ⟨z2, hz3, h⟩ := bnd h
  refine wc rfl rfl rfl (q_call (call_run Try.call51 rfl rfl (by kernel_rfl)) (fun w hw => t_firthref03_Dot (Γ := Gh.all w) v_.dot ⟨hv_.1, hv_.2.1⟩ (Sat.all w) hz3)) ?_
  refine wa rfl rfl rfl (q_not rfl rfl) ?_
  refine wa rfl rfl rfl (q_move (v := .bool (!z2)) rfl (by kernel_rfl)) ?_
  refine wg0 rfl rfl rfl rfl rfl (fun hg4 => QV.qo (q_fl 2 fld_58_1 rfl rfl rfl)) ?_
  refine wg0 rfl rfl rfl rfl rfl (fun hg5 => QV.qo (q_ldl (i := 0) (v := .slice Av_2 v_.past.length cv_2) rfl rfl Try.isAgg56 (gu hg5 rfl) rfl)) ?_
  obtain ⟨z7, hz8, h⟩ := bnd h
  refine wg0 rfl rfl rfl rfl rfl (fun hg6 => (q_call (call_run Try.call52 rfl rfl (args1 (gu hg6 rfl))) (fun w hw => t_firthref03_Right (Γ := Gh.all w) (hv_.2.2.1.2.mono hw.sat.le_all) hv_.2.2.1.1 (Sat.all w) (gc_of hz8 hg6)))) ?_
  refine wg0 rfl rfl rfl rfl rfl (fun hg9 => QV.qo (q_not rfl (gu hg9 rfl))) ?_
  refine wa rfl rfl rfl (q_pick rfl rfl (pk_or' (g := (!z2)) (y := (!z7)))) ?_
  refine wa rfl rfl rfl (q_move (v := .bool ((!z2) || (!z7))) rfl (by kernel_rfl)) ?_
  refine wg0 rfl rfl rfl rfl rfl (fun hg10 => QV.qo (q_fl 2 fld_58_1 rfl rfl rfl)) ?_
  refine wg0 rfl rfl rfl rfl rfl (fun hg11 => QV.qo (q_ldl (i := 0) (v := .slice Av_2 v_.past.length cv_2) rfl rfl Try.isAgg56 (gu hg11 rfl) rfl)) ?_
  refine wg0 rfl rfl rfl rfl rfl (fun hg12 => QV.qo (q_fl 0 fld_58_0 rfl rfl rfl)) ?_
  refine wg0 rfl rfl rfl rfl rfl (fun hg13 => QV.qo (q_fl 0 fld_55_0 rfl (gu hg13 rfl) rfl)) ?_
  refine wg0 rfl rfl rfl rfl rfl (fun hg14 => QV.qo (q_ldl (i := 0) (v := .int .i64 v_.dot.s) rfl rfl Try.isAgg3 (gu hg14 rfl) rfl)) ?_
  obtain ⟨z16, hz17, h⟩ := bnd h
  refine wg0 rfl rfl rfl rfl rfl (fun hg15 => (q_call (call_run Try.call53 rfl rfl (args2 (gu hg15 rfl) (gu hg15 rfl))) (fun w hw => t_firthref03_Top (Γ := Gh.all w) (hv_.2.2.1.2.mono hw.sat.le_all) hv_.2.2.1.1 v_.dot.s hv_.1 (Sat.all w) (gc_of hz17 hg15)))) ?_
  refine wg0 rfl rfl rfl rfl rfl (fun hg18 => QV.qo (q_fl 0 fld_58_0 rfl rfl rfl)) ?_
  refine wg0 rfl rfl rfl rfl rfl (fun hg19 => QV.qo (q_fl 1 fld_55_1 rfl (gu hg19 rfl) rfl)) ?_
  refine wg0 rfl rfl rfl rfl rfl (fun hg20 => QV.qo (q_ldl (i := 0) (v := .int .i64 v_.dot.n) rfl rfl Try.isAgg2 (gu hg20 rfl) rfl)) ?_
  refine wg0 rfl rfl rfl rfl rfl (fun hg21 => QV.qo (q_geq rfl (gu hg21 rfl) (gu hg21 rfl))) ?_
  refine wa rfl rfl rfl (q_pick rfl rfl (pk_or' (g := ((!z2) || (!z7))) (y := (decide (v_.dot.n ≤ z16))))) ?_
  refine WQ.nil ?_
  change WC _ _ _ _ _ _
  refine WC.cif h (by kernel_rfl) (fun hb22 h => ?_) (fun hb22 h => ?_)
  · skip
    refine WC.rs ?_
    refine va rfl rfl rfl (q_assign (v := .bool false) rfl (by kernel_rfl)) ?_
    refine WR.nil ?_
    change WC _ _ _ _ _ _
    refine WC.ret ?_
    intro w hw
    obtain rfl := Option.some.inj h
    subst hF
    exact ⟨by kernel_rfl, hw.fr⟩
  · skip
    refine WC.skip ?_
    change WC _ _ _ _ _ _
    refine WC.seq ?_
    refine WC.rs ?_
    refine va rfl rfl rfl (q_fl 3 fld_58_2 rfl rfl rfl) ?_
    refine va rfl rfl rfl (q_ldl (i := 0) (v := .bool v_.gone) rfl rfl Try.isAgg4 rfl rfl) ?_
    refine WR.nil ?_
    change WC _ _ _ _ _ _
    refine WC.cif h (by kernel_rfl) (fun hb23 h => ?_) (fun hb23 h => ?_)
    · skip
      refine WC.rs ?_
      refine va rfl rfl rfl (q_fl 4 fld_58_3 rfl rfl rfl) ?_
      refine va rfl rfl rfl (q_ldl (i := 0) (v := .string v_.val) rfl rfl Try.isAgg9 rfl rfl) ?_
      refine va rfl rfl rfl (q_seql rfl rfl rfl) ?_
      refine va rfl rfl rfl (q_assign (v := .bool (v_.val == ByteArray.empty)) rfl (by kernel_rfl)) ?_
      refine WR.nil ?_
      change WC _ _ _ _ _ _
      refine WC.ret ?_
      intro w hw
      obtain rfl := Option.some.inj h
      subst hF
      exact ⟨by kernel_rfl, hw.fr⟩
    · skip
      refine WC.skip ?_
      change WC _ _ _ _ _ _
      refine WC.rs ?_
      refine va rfl rfl rfl (q_fl 4 fld_58_3 rfl rfl rfl) ?_
      refine va rfl rfl rfl (q_ldl (i := 0) (v := .string v_.val) rfl rfl Try.isAgg9 rfl rfl) ?_
      refine va rfl rfl rfl (q_len_str rfl Try.underlying9 rfl) ?_
      refine va rfl rfl rfl (q_leq rfl rfl rfl) ?_
      refine va rfl rfl rfl (q_assign (v := .bool (decide (((v_.val.size : Nat) : Int) ≤ 256))) rfl (by kernel_rfl)) ?_
      refine WR.nil ?_
      change WC _ _ _ _ _ _
      refine WC.ret ?_
      intro w hw
      obtain rfl := Option.some.inj h
      subst hF
      exact ⟨by kernel_rfl, hw.fr⟩
set_option maxRecDepth 100000 in
set_option maxHeartbeats 400000 in
theorem t_firthref03_Has {Γ : Gh} {w0 : World} {Al : Option Addr} {cl : Nat} {l : List Span} (hl : Sl spanT Γ Al l) (hlc : l.length ≤ cl) (d : Dot) (hd : Dot.fits Γ  d) (hs : Sat Γ w0) {r : Bool} (h : m_firthref03_Has l d = some r) : Calls Try.prog 55 #[.slice Al l.length cl, .agg #[.int .i64 d.s, .int .i64 d.n]] w0 (fun e w' => e = .returned (.bool r) ∧ Fr no w0 w') := by
  refine calls_of (N := 40) (rs := [4]) (args := [.slice Al l.length cl, .agg #[.int .i64 d.s, .int .i64 d.n]]) Try.func55 rfl Try.ntmps55 Try.results55 rfl ?_
  obtain ⟨F, hF⟩ : ∃ F : Fm, F = ⟨no, w0, Γ⟩ := ⟨_, rfl⟩
  refine WC.here (C := CC F Γ []) ?_ (hF ▸ Cur.start0 hs)
  refine WC.rs ?_
  refine e_box (v := .agg #[.int .i64 d.s, .int .i64 d.n]) rfl rfl rfl rfl (by kernel_rfl) ?_
  intro g1
  refine va rfl rfl rfl (q_assign (v := .bool false) rfl (by kernel_rfl)) ?_
  refine WR.nil ?_
  change WC _ _ _ _ _ _
  refine WC.seq ?_
  refine WC.rs ?_
  refine va rfl rfl rfl (q_assign (v := .int .i64 0) rfl (by kernel_rfl)) ?_
  refine WR.nil ?_
  change WC _ _ _ _ _ _
  refine WC.block ?_
  refine WC.forI h (fun (i3 : Nat) (s : Unit) σ w => match s with | () => slots σ [(0, .slice Al l.length cl), (3, .pointer (some ⟨g1, 0, none⟩)), (5, .int .i64 ((i3 : Nat) : Int))] ∧ CC F Γ [[(g1, .cells #[.int .i64 d.s, .int .i64 d.n] 55 (0, 0))]] w ∧ True) ?_ ?_
  · skip
    intro w hw
    exact ⟨(sl_ (by kernel_rfl)), hw, trivial⟩
  rintro f2 i3 ⟨⟩ σ w hi4 hlt5 hge6 ⟨hsl, hw, -⟩
  refine Wpt.slots hsl ?_
  refine WC.here (C := CC F Γ [[(g1, .cells #[.int .i64 d.s, .int .i64 d.n] 55 (0, 0))]]) ?_ hw
  clear hw hsl
  refine WC.seq ?_
  refine WC.rs ?_
  refine va rfl rfl rfl (q_move (v := .int .i64 ((i3 : Nat) : Int)) rfl (by kernel_rfl)) ?_
  refine va rfl rfl rfl (q_move (v := .slice Al l.length cl) rfl (by kernel_rfl)) ?_
  refine va rfl rfl rfl (q_len_slice rfl Try.underlying56 rfl) ?_
  refine va rfl rfl rfl (q_lss rfl rfl rfl) ?_
  refine WR.nil ?_
  change WC _ _ _ _ _ _
  refine WC.cond (b := (decide (((i3 : Nat) : Int) < ((l.length : Nat) : Int)))) (by kernel_rfl) (fun hb7 => ?_) (fun hb7 => ?_)
  · skip
    have hl8 := ilt hb7
    have h := hlt5 hl8
    refine WC.skip ?_
    change WC _ _ _ _ _ _
    refine WC.seq ?_
    refine WC.block ?_
    refine WC.seq ?_
    refine WC.dr (by kernel_rfl) (by kernel_rfl) (fun w hw => hw.drawn _) ?_
    refine wa rfl rfl rfl (q_move (v := .slice Al l.length cl) rfl (by kernel_rfl)) ?_
    refine wa rfl rfl rfl (q_move (v := .int .i64 ((i3 : Nat) : Int)) rfl (by kernel_rfl)) ?_
    refine wa rfl rfl rfl (q_ixn (i := i3) Try.underlying56 Try.sizeOf106 rfl rfl rfl hl8 (hl.some_ hl8)) ?_
    refine wa rfl rfl rfl (q_field_addr (i3 * 3) fld_106_0 rfl rfl (hl.some_ hl8) rfl) ?_
    refine wa rfl rfl rfl (q_ld (c := 0) (v := .int .i64 (gt l i3).s) (hl.spanT_at hl8).2 rfl Try.isAgg3 rfl rfl) ?_
    refine wa rfl rfl rfl (q_fl 0 fld_55_0 rfl rfl rfl) ?_
    refine wa rfl rfl rfl (q_ldl (i := 0) (v := .int .i64 d.s) rfl rfl Try.isAgg3 rfl rfl) ?_
    refine wa rfl rfl rfl (q_eql rfl rfl rfl) ?_
    refine wa rfl rfl rfl (q_move (v := .bool ((gt l i3).s == d.s)) rfl (by kernel_rfl)) ?_
    refine wg1 rfl rfl rfl rfl rfl (fun hg9 => QV.qo (q_fl 1 fld_55_1 rfl rfl rfl)) ?_
    refine wg1 rfl rfl rfl rfl rfl (fun hg10 => QV.qo (q_ldl (i := 0) (v := .int .i64 d.n) rfl rfl Try.isAgg2 (gu hg10 rfl) rfl)) ?_
    refine wg1 rfl rfl rfl rfl rfl (fun hg11 => QV.qo (q_move (v := .slice Al l.length cl) rfl (by kernel_rfl))) ?_
    refine wg1 rfl rfl rfl rfl rfl (fun hg12 => QV.qo (q_move (v := .int .i64 ((i3 : Nat) : Int)) rfl (by kernel_rfl))) ?_
    refine wg1 rfl rfl rfl rfl rfl (fun hg13 => QV.qo (q_ixn (i := i3) Try.underlying56 Try.sizeOf106 rfl (gu hg13 rfl) (gu hg13 rfl) hl8 (hl.some_ hl8))) ?_
    refine wg1 rfl rfl rfl rfl rfl (fun hg14 => QV.qo (q_field_addr (i3 * 3 + 1) fld_106_1 rfl (gu hg14 rfl) (hl.some_ hl8) rfl)) ?_
    refine wg1 rfl rfl rfl rfl rfl (fun hg15 => QV.qo (q_ld (c := 1) (v := .int .i64 (gt l i3).f) (hl.spanT_at hl8).2 rfl Try.isAgg2 (gu hg15 rfl) rfl)) ?_
    refine wg1 rfl rfl rfl rfl rfl (fun hg16 => QV.qo (q_geq rfl (gu hg16 rfl) (gu hg16 rfl))) ?_
    refine wa rfl rfl rfl (q_pick rfl rfl (pk_and' (g := ((gt l i3).s == d.s)) (y := (decide ((gt l i3).f ≤ d.n))))) ?_
    refine wa rfl rfl rfl (q_move (v := .bool (((gt l i3).s == d.s) && (decide ((gt l i3).f ≤ d.n)))) rfl (by kernel_rfl)) ?_
    refine wg1 rfl rfl rfl rfl rfl (fun hg17 => QV.qo (q_fl 1 fld_55_1 rfl rfl rfl)) ?_
    refine wg1 rfl rfl rfl rfl rfl (fun hg18 => QV.qo (q_ldl (i := 0) (v := .int .i64 d.n) rfl rfl Try.isAgg2 (gu hg18 rfl) rfl)) ?_
    refine wg1 rfl rfl rfl rfl rfl (fun hg19 => QV.qo (q_move (v := .slice Al l.length cl) rfl (by kernel_rfl))) ?_
    refine wg1 rfl rfl rfl rfl rfl (fun hg20 => QV.qo (q_move (v := .int .i64 ((i3 : Nat) : Int)) rfl (by kernel_rfl))) ?_
    refine wg1 rfl rfl rfl rfl rfl (fun hg21 => QV.qo (q_ixn (i := i3) Try.underlying56 Try.sizeOf106 rfl (gu hg21 rfl) (gu hg21 rfl) hl8 (hl.some_ hl8))) ?_
    refine wg1 rfl rfl rfl rfl rfl (fun hg22 => QV.qo (q_field_addr (i3 * 3 + 2) fld_106_2 rfl (gu hg22 rfl) (hl.some_ hl8) rfl)) ?_
    refine wg1 rfl rfl rfl rfl rfl (fun hg23 => QV.qo (q_ld (c := 2) (v := .int .i64 (gt l i3).t) (hl.spanT_at hl8).2 rfl Try.isAgg2 (gu hg23 rfl) rfl)) ?_
    refine wg1 rfl rfl rfl rfl rfl (fun hg24 => QV.qo (q_leq rfl (gu hg24 rfl) (gu hg24 rfl))) ?_
    refine wa rfl rfl rfl (q_pick rfl rfl (pk_and' (g := (((gt l i3).s == d.s) && (decide ((gt l i3).f ≤ d.n)))) (y := (decide (d.n ≤ (gt l i3).t))))) ?_
    refine WQ.nil ?_
    change WC _ _ _ _ _ _
    refine WC.cif h (by kernel_rfl) (fun hb25 h => ?_) (fun hb25 h => ?_)
    · skip
      refine WC.rs ?_
      refine va rfl rfl rfl (q_assign (v := .bool true) rfl (by kernel_rfl)) ?_
      refine WR.nil ?_
      change WC _ _ _ _ _ _
      refine WC.ret ?_
      intro w hw
      obtain rfl := Option.some.inj h
      subst hF
      exact ⟨by kernel_rfl, hw.fr⟩
    · skip
      refine WC.skip ?_
      change WC _ _ _ _ _ _
      refine WC.region ?_
      refine va rfl rfl rfl (q_move (v := .int .i64 ((i3 : Nat) : Int)) rfl (by kernel_rfl)) ?_
      refine va rfl rfl rfl (q_add_r (r := ((i3 + 1 : Nat) : Int)) rfl rfl rfl (ctr_len hl8 hl.le)) ?_
      refine va rfl rfl rfl (q_assign (v := .int .i64 ((i3 + 1 : Nat) : Int)) rfl (by kernel_rfl)) ?_
      refine WR.nil ?_
      intro w hw
      exact ⟨hl8, (), h, (sl_ (by kernel_rfl)), hw, trivial⟩
  · skip
    have h := hge6 (ige hb7)
    refine WC.exit ?_
    change WC _ _ _ _ _ _
    refine WC.rs ?_
    refine va rfl rfl rfl (q_assign (v := .bool false) rfl (by kernel_rfl)) ?_
    refine WR.nil ?_
    change WC _ _ _ _ _ _
    refine WC.ret ?_
    intro w hw
    obtain rfl := Option.some.inj h
    subst hF
    exact ⟨by kernel_rfl, hw.fr⟩
set_option maxRecDepth 100000 in
set_option maxHeartbeats 400000 in
theorem t_firthref05_Behind {Γ : Gh} {w0 : World} {Al : Option Addr} {cl : Nat} {l : List Ver} (hl : Sl verT Γ Al l) (hlc : l.length ≤ cl) (d : Dot) (hd : Dot.fits Γ  d) (hs : Sat Γ w0) {r : Bool} (h : m_firthref05_Behind l d = some r) : Calls Try.prog 32 #[.slice Al l.length cl, .agg #[.int .i64 d.s, .int .i64 d.n]] w0 (fun e w' => e = .returned (.bool r) ∧ Fr no w0 w') := by
  refine calls_of (N := 19) (rs := [4]) (args := [.slice Al l.length cl, .agg #[.int .i64 d.s, .int .i64 d.n]]) Try.func32 rfl Try.ntmps32 Try.results32 rfl ?_
  obtain ⟨F, hF⟩ : ∃ F : Fm, F = ⟨no, w0, Γ⟩ := ⟨_, rfl⟩
  refine WC.here (C := CC F Γ []) ?_ (hF ▸ Cur.start0 hs)
  refine WC.rs ?_
  refine e_box (v := .agg #[.int .i64 d.s, .int .i64 d.n]) rfl rfl rfl rfl (by kernel_rfl) ?_
  intro g1
  refine va rfl rfl rfl (q_assign (v := .bool false) rfl (by kernel_rfl)) ?_
  refine WR.nil ?_
  change WC _ _ _ _ _ _
  refine WC.seq ?_
  refine WC.rs ?_
  refine va rfl rfl rfl (q_assign (v := .int .i64 0) rfl (by kernel_rfl)) ?_
  refine WR.nil ?_
  change WC _ _ _ _ _ _
  refine WC.block ?_
  refine WC.forI h (fun (i3 : Nat) (s : Unit) σ w => match s with | () => slots σ [(0, .slice Al l.length cl), (3, .pointer (some ⟨g1, 0, none⟩)), (5, .int .i64 ((i3 : Nat) : Int))] ∧ CC F Γ [[(g1, .cells #[.int .i64 d.s, .int .i64 d.n] 55 (0, 0))]] w ∧ True) ?_ ?_
  · skip
    intro w hw
    exact ⟨(sl_ (by kernel_rfl)), hw, trivial⟩
  rintro f2 i3 ⟨⟩ σ w hi4 hlt5 hge6 ⟨hsl, hw, -⟩
  refine Wpt.slots hsl ?_
  refine WC.here (C := CC F Γ [[(g1, .cells #[.int .i64 d.s, .int .i64 d.n] 55 (0, 0))]]) ?_ hw
  clear hw hsl
  refine WC.seq ?_
  refine WC.rs ?_
  refine va rfl rfl rfl (q_move (v := .int .i64 ((i3 : Nat) : Int)) rfl (by kernel_rfl)) ?_
  refine va rfl rfl rfl (q_move (v := .slice Al l.length cl) rfl (by kernel_rfl)) ?_
  refine va rfl rfl rfl (q_len_slice rfl Try.underlying40 rfl) ?_
  refine va rfl rfl rfl (q_lss rfl rfl rfl) ?_
  refine WR.nil ?_
  change WC _ _ _ _ _ _
  refine WC.cond (b := (decide (((i3 : Nat) : Int) < ((l.length : Nat) : Int)))) (by kernel_rfl) (fun hb7 => ?_) (fun hb7 => ?_)
  · skip
    have hl8 := ilt hb7
    have h := hlt5 hl8
    refine WC.skip ?_
    change WC _ _ _ _ _ _
    refine WC.seq ?_
    refine WC.block ?_
    refine WC.seq ?_
    refine WC.dr (by kernel_rfl) (by kernel_rfl) (fun w hw => hw.drawn _) ?_
    refine wa rfl rfl rfl (q_move (v := .slice Al l.length cl) rfl (by kernel_rfl)) ?_
    refine wa rfl rfl rfl (q_move (v := .int .i64 ((i3 : Nat) : Int)) rfl (by kernel_rfl)) ?_
    refine wa rfl rfl rfl (q_ixn (i := i3) Try.underlying40 Try.sizeOf58 rfl rfl rfl hl8 (hl.some_ hl8)) ?_
    refine wa rfl rfl rfl (q_field_addr (i3 * 5 + 2) fld_58_1 rfl rfl (hl.some_ hl8) rfl) ?_
    obtain ⟨A9, c10, hx11⟩ := hl.verT_at i3
    refine wa rfl rfl rfl (q_ld (c := 2) (v := .slice A9 ((gt l i3).past).length c10) (hx11 hl8).2 rfl Try.isAgg56 rfl rfl) ?_
    refine wa rfl rfl rfl (q_ldla (i := 0) (vs := [.int .i64 d.s, .int .i64 d.n]) rfl rfl Try.isAgg55 Try.sizeOf55 rfl rfl) ?_
    obtain ⟨z12, hz13, h⟩ := bnd h
    refine wc rfl rfl rfl (q_call (call_run Try.call55 rfl rfl (by kernel_rfl)) (fun w hw => t_firthref03_Has (Γ := Gh.all w) ((hx11 hl8).1.2.2.1.2.mono hw.sat.le_all) (hx11 hl8).1.2.2.1.1 d hd (Sat.all w) hz13)) ?_
    refine WQ.nil ?_
    change WC _ _ _ _ _ _
    refine WC.cif h (by kernel_rfl) (fun hb14 h => ?_) (fun hb14 h => ?_)
    · skip
      refine WC.rs ?_
      refine va rfl rfl rfl (q_assign (v := .bool true) rfl (by kernel_rfl)) ?_
      refine WR.nil ?_
      change WC _ _ _ _ _ _
      refine WC.ret ?_
      intro w hw
      obtain rfl := Option.some.inj h
      subst hF
      exact ⟨by kernel_rfl, hw.fr⟩
    · skip
      refine WC.skip ?_
      change WC _ _ _ _ _ _
      refine WC.region ?_
      refine va rfl rfl rfl (q_move (v := .int .i64 ((i3 : Nat) : Int)) rfl (by kernel_rfl)) ?_
      refine va rfl rfl rfl (q_add_r (r := ((i3 + 1 : Nat) : Int)) rfl rfl rfl (ctr_len hl8 hl.le)) ?_
      refine va rfl rfl rfl (q_assign (v := .int .i64 ((i3 + 1 : Nat) : Int)) rfl (by kernel_rfl)) ?_
      refine WR.nil ?_
      intro w hw
      exact ⟨hl8, (), h, (sl_ (by kernel_rfl)), hw, trivial⟩
  · skip
    have h := hge6 (ige hb7)
    refine WC.exit ?_
    change WC _ _ _ _ _ _
    refine WC.rs ?_
    refine va rfl rfl rfl (q_assign (v := .bool false) rfl (by kernel_rfl)) ?_
    refine WR.nil ?_
    change WC _ _ _ _ _ _
    refine WC.ret ?_
    intro w hw
    obtain rfl := Option.some.inj h
    subst hF
    exact ⟨by kernel_rfl, hw.fr⟩
set_option maxRecDepth 100000 in
set_option maxHeartbeats 400000 in
theorem t_firthref05_Less {Γ : Gh} {w0 : World} (a : Dot) (ha : Dot.fits Γ  a) (b : Dot) (hb : Dot.fits Γ  b) (hs : Sat Γ w0) {r : Bool} (h : m_firthref05_Less a b = some r) : Calls Try.prog 50 #[.agg #[.int .i64 a.s, .int .i64 a.n], .agg #[.int .i64 b.s, .int .i64 b.n]] w0 (fun e w' => e = .returned (.bool r) ∧ Fr no w0 w') := by
  refine calls_of (N := 20) (rs := [4]) (args := [.agg #[.int .i64 a.s, .int .i64 a.n], .agg #[.int .i64 b.s, .int .i64 b.n]]) Try.func50 rfl Try.ntmps50 Try.results50 rfl ?_
  obtain ⟨F, hF⟩ : ∃ F : Fm, F = ⟨no, w0, Γ⟩ := ⟨_, rfl⟩
  refine WC.here (C := CC F Γ []) ?_ (hF ▸ Cur.start0 hs)
  refine WC.rs ?_
  refine e_box (v := .agg #[.int .i64 a.s, .int .i64 a.n]) rfl rfl rfl rfl (by kernel_rfl) ?_
  intro g1
  refine e_box (v := .agg #[.int .i64 b.s, .int .i64 b.n]) rfl rfl rfl rfl (by kernel_rfl) ?_
  intro g2
  refine va rfl rfl rfl (q_assign (v := .bool false) rfl (by kernel_rfl)) ?_
  refine WR.nil ?_
  change WC _ _ _ _ _ _
  refine WC.seq ?_
  refine WC.rs ?_
  refine va rfl rfl rfl (q_fl 0 fld_55_0 rfl rfl rfl) ?_
  refine va rfl rfl rfl (q_ldl (i := 1) (v := .int .i64 a.s) rfl rfl Try.isAgg3 rfl rfl) ?_
  refine va rfl rfl rfl (q_fl 0 fld_55_0 rfl rfl rfl) ?_
  refine va rfl rfl rfl (q_ldl (i := 0) (v := .int .i64 b.s) rfl rfl Try.isAgg3 rfl rfl) ?_
  refine va rfl rfl rfl (q_neq rfl rfl rfl) ?_
  refine WR.nil ?_
  change WC _ _ _ _ _ _
  refine WC.cif h (by kernel_rfl) (fun hb3 h => ?_) (fun hb3 h => ?_)
  · skip
    refine WC.rs ?_
    refine va rfl rfl rfl (q_fl 0 fld_55_0 rfl rfl rfl) ?_
    refine va rfl rfl rfl (q_ldl (i := 1) (v := .int .i64 a.s) rfl rfl Try.isAgg3 rfl rfl) ?_
    refine va rfl rfl rfl (q_fl 0 fld_55_0 rfl rfl rfl) ?_
    refine va rfl rfl rfl (q_ldl (i := 0) (v := .int .i64 b.s) rfl rfl Try.isAgg3 rfl rfl) ?_
    refine va rfl rfl rfl (q_lss rfl rfl rfl) ?_
    refine va rfl rfl rfl (q_assign (v := .bool (decide (a.s < b.s))) rfl (by kernel_rfl)) ?_
    refine WR.nil ?_
    change WC _ _ _ _ _ _
    refine WC.ret ?_
    intro w hw
    obtain rfl := Option.some.inj h
    subst hF
    exact ⟨by kernel_rfl, hw.fr⟩
  · skip
    refine WC.skip ?_
    change WC _ _ _ _ _ _
    refine WC.rs ?_
    refine va rfl rfl rfl (q_fl 1 fld_55_1 rfl rfl rfl) ?_
    refine va rfl rfl rfl (q_ldl (i := 1) (v := .int .i64 a.n) rfl rfl Try.isAgg2 rfl rfl) ?_
    refine va rfl rfl rfl (q_fl 1 fld_55_1 rfl rfl rfl) ?_
    refine va rfl rfl rfl (q_ldl (i := 0) (v := .int .i64 b.n) rfl rfl Try.isAgg2 rfl rfl) ?_
    refine va rfl rfl rfl (q_lss rfl rfl rfl) ?_
    refine va rfl rfl rfl (q_assign (v := .bool (decide (a.n < b.n))) rfl (by kernel_rfl)) ?_
    refine WR.nil ?_
    change WC _ _ _ _ _ _
    refine WC.ret ?_
    intro w hw
    obtain rfl := Option.some.inj h
    subst hF
    exact ⟨by kernel_rfl, hw.fr⟩
set_option maxRecDepth 100000 in
set_option maxHeartbeats 400000 in
theorem t_firthref05_Right {Γ : Gh} {w0 : World} {Al : Option Addr} {cl : Nat} {l : List Ver} (hl : Sl verT Γ Al l) (hlc : l.length ≤ cl) (hs : Sat Γ w0) {r : Bool} (h : m_firthref05_Right l = some r) : Calls Try.prog 29 #[.slice Al l.length cl] w0 (fun e w' => e = .returned (.bool r) ∧ Fr no w0 w') := by
  refine calls_of (N := 45) (rs := [2]) (args := [.slice Al l.length cl]) Try.func29 rfl Try.ntmps29 Try.results29 rfl ?_
  obtain ⟨F, hF⟩ : ∃ F : Fm, F = ⟨no, w0, Γ⟩ := ⟨_, rfl⟩
  refine WC.here (C := CC F Γ []) ?_ (hF ▸ Cur.start0 hs)
  refine WC.rs ?_
  refine va rfl rfl rfl (q_assign (v := .bool false) rfl (by kernel_rfl)) ?_
  refine WR.nil ?_
  change WC _ _ _ _ _ _
  refine WC.seq ?_
  refine WC.rs ?_
  refine va rfl rfl rfl (q_move (v := .slice Al l.length cl) rfl (by kernel_rfl)) ?_
  refine va rfl rfl rfl (q_len_slice rfl Try.underlying40 rfl) ?_
  refine va rfl rfl rfl (q_gtr rfl rfl rfl) ?_
  refine WR.nil ?_
  change WC _ _ _ _ _ _
  refine WC.cif h (by kernel_rfl) (fun hb1 h => ?_) (fun hb1 h => ?_)
  · skip
    refine WC.rs ?_
    refine va rfl rfl rfl (q_assign (v := .bool false) rfl (by kernel_rfl)) ?_
    refine WR.nil ?_
    change WC _ _ _ _ _ _
    refine WC.ret ?_
    intro w hw
    obtain rfl := Option.some.inj h
    subst hF
    exact ⟨by kernel_rfl, hw.fr⟩
  · skip
    refine WC.skip ?_
    change WC _ _ _ _ _ _
    refine WC.seq ?_
    refine WC.rs ?_
    refine va rfl rfl rfl (q_assign (v := .int .i64 0) rfl (by kernel_rfl)) ?_
    refine WR.nil ?_
    change WC _ _ _ _ _ _
    refine WC.block ?_
    refine WC.forI h (fun (i3 : Nat) (s : Unit) σ w => match s with | () => slots σ [(0, .slice Al l.length cl), (3, .int .i64 ((i3 : Nat) : Int))] ∧ CC F Γ [] w ∧ True) ?_ ?_
    · skip
      intro w hw
      exact ⟨(sl_ (by kernel_rfl)), hw, trivial⟩
    rintro f2 i3 ⟨⟩ σ w hi4 hlt5 hge6 ⟨hsl, hw, -⟩
    refine Wpt.slots hsl ?_
    refine WC.here (C := CC F Γ []) ?_ hw
    clear hw hsl
    refine WC.seq ?_
    refine WC.rs ?_
    refine va rfl rfl rfl (q_move (v := .int .i64 ((i3 : Nat) : Int)) rfl (by kernel_rfl)) ?_
    refine va rfl rfl rfl (q_move (v := .slice Al l.length cl) rfl (by kernel_rfl)) ?_
    refine va rfl rfl rfl (q_len_slice rfl Try.underlying40 rfl) ?_
    refine va rfl rfl rfl (q_lss rfl rfl rfl) ?_
    refine WR.nil ?_
    change WC _ _ _ _ _ _
    refine WC.cond (b := (decide (((i3 : Nat) : Int) < ((l.length : Nat) : Int)))) (by kernel_rfl) (fun hb7 => ?_) (fun hb7 => ?_)
    · skip
      have hl8 := ilt hb7
      have h := hlt5 hl8
      refine WC.skip ?_
      change WC _ _ _ _ _ _
      refine WC.seq ?_
      refine WC.block ?_
      refine WC.seq ?_
      refine WC.rs ?_
      refine va rfl rfl rfl (q_move (v := .slice Al l.length cl) rfl (by kernel_rfl)) ?_
      refine va rfl rfl rfl (q_move (v := .int .i64 ((i3 : Nat) : Int)) rfl (by kernel_rfl)) ?_
      refine va rfl rfl rfl (q_ixn (i := i3) Try.underlying40 Try.sizeOf58 rfl rfl rfl hl8 (hl.some_ hl8)) ?_
      obtain ⟨A9, c10, hx11⟩ := hl.verT_at i3
      refine va rfl rfl rfl (q_lda (c := 0) (vs := [.int .i64 (gt l i3).dot.s, .int .i64 (gt l i3).dot.n, .slice A9 ((gt l i3).past).length c10, .bool (gt l i3).gone, .string (gt l i3).val]) (hx11 hl8).2 rfl Try.isAgg58 Try.sizeOf58 rfl rfl rfl) ?_
      obtain ⟨z12, hz13, h⟩ := bnd h
      refine vc rfl rfl rfl (q_call (call_run Try.call30 rfl rfl (by kernel_rfl)) (fun w hw => t_firthref05_RightOne (Γ := Gh.all w) (gt l i3) (Ver.fits_mono (hx11 hl8).1 hw.sat.le_all) (Sat.all w) hz13)) ?_
      refine va rfl rfl rfl (q_not rfl rfl) ?_
      refine va rfl rfl rfl (q_move (v := .bool (!z12)) rfl (by kernel_rfl)) ?_
      refine vg0 rfl rfl rfl rfl rfl (fun hg14 => QV.qo (q_move (v := .slice Al l.length cl) rfl (by kernel_rfl))) ?_
      refine vg0 rfl rfl rfl rfl rfl (fun hg15 => QV.qo (q_move (v := .slice Al l.length cl) rfl (by kernel_rfl))) ?_
      refine vg0 rfl rfl rfl rfl rfl (fun hg16 => QV.qo (q_move (v := .int .i64 ((i3 : Nat) : Int)) rfl (by kernel_rfl))) ?_
      refine vg0 rfl rfl rfl rfl rfl (fun hg17 => QV.qo (q_ixn (i := i3) Try.underlying40 Try.sizeOf58 rfl (gu hg17 rfl) (gu hg17 rfl) hl8 (hl.some_ hl8))) ?_
      refine vg0 rfl rfl rfl rfl rfl (fun hg18 => QV.qo (q_field_addr (i3 * 5) fld_58_0 rfl (gu hg18 rfl) (hl.some_ hl8) rfl)) ?_
      refine vg0 rfl rfl rfl rfl rfl (fun hg19 => QV.qo (q_lda (c := 0) (vs := [.int .i64 (gt l i3).dot.s, .int .i64 (gt l i3).dot.n]) (hx11 hl8).2 rfl Try.isAgg55 Try.sizeOf55 (gu hg19 rfl) rfl rfl)) ?_
      obtain ⟨z21, hz22, h⟩ := bnd h
      refine vg0 rfl rfl rfl rfl rfl (fun hg20 => (q_call (call_run Try.call32 rfl rfl (args2 (gu hg20 rfl) (gu hg20 rfl))) (fun w hw => t_firthref05_Behind (Γ := Gh.all w) (hl.mono hw.sat.le_all) hlc ((gt l i3).dot) ⟨(hx11 hl8).1.1, (hx11 hl8).1.2.1⟩ (Sat.all w) (gc_of hz22 hg20)))) ?_
      refine va rfl rfl rfl (q_pick rfl rfl (pk_or' (g := (!z12)) (y := z21))) ?_
      refine WR.nil ?_
      change WC _ _ _ _ _ _
      refine WC.cif h (by kernel_rfl) (fun hb23 h => ?_) (fun hb23 h => ?_)
      · skip
        refine WC.rs ?_
        refine va rfl rfl rfl (q_assign (v := .bool false) rfl (by kernel_rfl)) ?_
        refine WR.nil ?_
        change WC _ _ _ _ _ _
        refine WC.ret ?_
        intro w hw
        obtain rfl := Option.some.inj h
        subst hF
        exact ⟨by kernel_rfl, hw.fr⟩
      · skip
        refine WC.skip ?_
        change WC _ _ _ _ _ _
        refine WC.seq ?_
        refine WC.dr (by kernel_rfl) (by kernel_rfl) (fun w hw => hw.drawn _) ?_
        refine wa rfl rfl rfl (q_move (v := .int .i64 ((i3 : Nat) : Int)) rfl (by kernel_rfl)) ?_
        refine wa rfl rfl rfl (q_gtr rfl rfl rfl) ?_
        refine wa rfl rfl rfl (q_move (v := .bool (decide (0 < ((i3 : Nat) : Int)))) rfl (by kernel_rfl)) ?_
        refine wg1 rfl rfl rfl rfl rfl (fun hg24 => QV.qo (q_move (v := .slice Al l.length cl) rfl (by kernel_rfl))) ?_
        refine wg1 rfl rfl rfl rfl rfl (fun hg25 => QV.qo (q_move (v := .int .i64 ((i3 : Nat) : Int)) rfl (by kernel_rfl))) ?_
        refine wg1 rfl rfl rfl rfl rfl (fun hg26 => QV.qo (q_sub rfl (gu hg26 rfl) rfl)) ?_
        obtain ⟨hk28, h⟩ := chk_some h
        refine wg1 rfl rfl rfl rfl rfl (fun hg27 => QV.qo (q_ix Try.underlying40 Try.sizeOf58 rfl (gu hg27 rfl) (gu hg27 rfl) (imp_of hk28 hg27) (hl.some_ (inb_lt (imp_of hk28 hg27))))) ?_
        refine wg1 rfl rfl rfl rfl rfl (fun hg29 => QV.qo (q_field_addr (((w64 (((i3 : Nat) : Int) - 1)).toNat) * 5) fld_58_0 rfl (gu hg29 rfl) (hl.some_ (inb_lt (imp_of hk28 hg29))) rfl)) ?_
        obtain ⟨A31, c32, hx33⟩ := hl.verT_at ((w64 (((i3 : Nat) : Int) - 1)).toNat)
        refine wg1 rfl rfl rfl rfl rfl (fun hg30 => QV.qo (q_lda (c := 0) (vs := [.int .i64 (gt l ((w64 (((i3 : Nat) : Int) - 1)).toNat)).dot.s, .int .i64 (gt l ((w64 (((i3 : Nat) : Int) - 1)).toNat)).dot.n]) (hx33 (inb_lt (imp_of hk28 hg30))).2 rfl Try.isAgg55 Try.sizeOf55 (gu hg30 rfl) rfl rfl)) ?_
        refine wg1 rfl rfl rfl rfl rfl (fun hg34 => QV.qo (q_move (v := .slice Al l.length cl) rfl (by kernel_rfl))) ?_
        refine wg1 rfl rfl rfl rfl rfl (fun hg35 => QV.qo (q_move (v := .int .i64 ((i3 : Nat) : Int)) rfl (by kernel_rfl))) ?_
        refine wg1 rfl rfl rfl rfl rfl (fun hg36 => QV.qo (q_ixn (i := i3) Try.underlying40 Try.sizeOf58 rfl (gu hg36 rfl) (gu hg36 rfl) hl8 (hl.some_ hl8))) ?_
        refine wg1 rfl rfl rfl rfl rfl (fun hg37 => QV.qo (q_field_addr (i3 * 5) fld_58_0 rfl (gu hg37 rfl) (hl.some_ hl8) rfl)) ?_
        refine wg1 rfl rfl rfl rfl rfl (fun hg38 => QV.qo (q_lda (c := 0) (vs := [.int .i64 (gt l i3).dot.s, .int .i64 (gt l i3).dot.n]) (hx11 hl8).2 rfl Try.isAgg55 Try.sizeOf55 (gu hg38 rfl) rfl rfl)) ?_
        obtain ⟨z40, hz41, h⟩ := bnd h
        refine wg1 rfl rfl rfl rfl rfl (fun hg39 => (q_call (call_run Try.call50 rfl rfl (args2 (gu hg39 rfl) (gu hg39 rfl))) (fun w hw => t_firthref05_Less (Γ := Gh.all w) ((gt l ((w64 (((i3 : Nat) : Int) - 1)).toNat)).dot) ⟨(hx33 (inb_lt (imp_of hk28 hg39))).1.1, (hx33 (inb_lt (imp_of hk28 hg39))).1.2.1⟩ ((gt l i3).dot) ⟨(hx11 hl8).1.1, (hx11 hl8).1.2.1⟩ (Sat.all w) (gc_of hz41 hg39)))) ?_
        refine wg1 rfl rfl rfl rfl rfl (fun hg42 => QV.qo (q_not rfl (gu hg42 rfl))) ?_
        refine wa rfl rfl rfl (q_pick rfl rfl (pk_and' (g := (decide (0 < ((i3 : Nat) : Int)))) (y := (!z40)))) ?_
        refine WQ.nil ?_
        change WC _ _ _ _ _ _
        refine WC.cif h (by kernel_rfl) (fun hb43 h => ?_) (fun hb43 h => ?_)
        · skip
          refine WC.rs ?_
          refine va rfl rfl rfl (q_assign (v := .bool false) rfl (by kernel_rfl)) ?_
          refine WR.nil ?_
          change WC _ _ _ _ _ _
          refine WC.ret ?_
          intro w hw
          obtain rfl := Option.some.inj h
          subst hF
          exact ⟨by kernel_rfl, hw.fr⟩
        · skip
          refine WC.skip ?_
          change WC _ _ _ _ _ _
          refine WC.region ?_
          refine va rfl rfl rfl (q_move (v := .int .i64 ((i3 : Nat) : Int)) rfl (by kernel_rfl)) ?_
          refine va rfl rfl rfl (q_add_r (r := ((i3 + 1 : Nat) : Int)) rfl rfl rfl (ctr_len hl8 hl.le)) ?_
          refine va rfl rfl rfl (q_assign (v := .int .i64 ((i3 + 1 : Nat) : Int)) rfl (by kernel_rfl)) ?_
          refine WR.nil ?_
          intro w hw
          exact ⟨hl8, (), h, (sl_ (by kernel_rfl)), hw, trivial⟩
    · skip
      have h := hge6 (ige hb7)
      refine WC.exit ?_
      change WC _ _ _ _ _ _
      refine WC.rs ?_
      refine va rfl rfl rfl (q_assign (v := .bool true) rfl (by kernel_rfl)) ?_
      refine WR.nil ?_
      change WC _ _ _ _ _ _
      refine WC.ret ?_
      intro w hw
      obtain rfl := Option.some.inj h
      subst hF
      exact ⟨by kernel_rfl, hw.fr⟩
abbrev r_quorum_asking_api_Ver_Waits (ga ea : Nat) (rowa : Rowb) (r : List Int) (U : List Rowb) (Γ : Gh) (v : Value) : Prop := ∃ (A0 : Option Addr), ∃ (c0 : Nat), ∃ (row0 : Rowb), v = .slice A0 r.length c0 ∧ U = [rowa, row0] ∧ Own intT Γ 3 row0 A0 c0 r ∧ True
set_option maxRecDepth 100000 in
set_option maxHeartbeats 400000 in
theorem t_quorum_asking_api_Ver_Waits {Γ : Gh} {w0 : World} {ga ea : Nat} {rowa : Rowb} {a : Oquorum_asking_api_Ver} (ha : Oquorum_asking_api_Ver.ob ea Γ ga rowa a) (hp : Pre [rowa] Γ w0) {r : List Int} (h : m_quorum_asking_api_Ver_Waits a = some r) : Calls Try.prog 45 #[.pointer (some ⟨ga, 0, none⟩)] w0 (Outc Γ [rowa] w0 (r_quorum_asking_api_Ver_Waits ga ea rowa r)) := by
  refine calls_of (N := 34) (rs := [2]) (args := [.pointer (some ⟨ga, 0, none⟩)]) Try.func45 rfl Try.ntmps45 Try.results45 rfl ?_
  obtain ⟨F, hF⟩ : ∃ F : Fm, F = ⟨ids [rowa], w0, Γ⟩ := ⟨_, rfl⟩
  refine WC.here (C := CC F Γ [rowa]) ?_ (hF ▸ hp.start)
  refine WC.rs ?_
  refine va rfl rfl rfl (q_assign (v := .slice none 0 0) rfl (by kernel_rfl)) ?_
  refine WR.nil ?_
  change WC _ _ _ _ _ _
  refine WC.rs ?_
  refine va rfl rfl rfl (q_assign (v := .slice none 0 0) rfl (by kernel_rfl)) ?_
  refine WR.nil ?_
  change WC _ _ _ _ _ _
  refine WC.seq ?_
  refine WC.rs ?_
  refine va rfl rfl rfl (q_move (v := .pointer (some ⟨ga, 0, none⟩)) rfl (by kernel_rfl)) ?_
  refine va rfl rfl rfl (q_nil (A := some ⟨ga, 0, none⟩) rfl rfl rfl) ?_
  refine va rfl rfl rfl (q_fl 0 fld_81_0 rfl rfl rfl) ?_
  have hq := ha
  obtain ⟨A0_1, c0_1, m2_1, r2_1, hrow_1, ho0_1, ho1_1, ho2_1, ho3_1, -⟩ := hq
  intro w hw; have hw := hw.unfold (i := 0) rfl hrow_1
  refine WR.here (C := CC F Γ [[(ga, .cells #[.slice A0_1 a.list.length c0_1, .int .i64 a.need, .map (some m2_1)] ea (0, 0))], r2_1]) ?_ hw
  clear hw
  refine va rfl rfl rfl (q_ldl (i := 0) (v := .slice A0_1 a.list.length c0_1) rfl rfl Try.isAgg22 rfl rfl) ?_
  refine va rfl rfl rfl (q_len_slice rfl Try.underlying22 rfl) ?_
  refine va rfl rfl rfl (q_move (v := .int .i64 0) rfl (by kernel_rfl)) ?_
  refine WR.nil ?_
  change WC _ _ _ _ _ _
  refine WC.block ?_
  intro w hw; have hw := hw.fold (is := [0, 0]) rfl hrow_1
  refine WC.here (C := CC F Γ [rowa]) ?_ hw
  clear hw
  refine WC.forI h (fun (i9 : Nat) (out_3 : List Int) σ w => ∃ (A4 : Option Addr), ∃ (c5 : Nat), ∃ (row6 : Rowb), slots σ [(0, .pointer (some ⟨ga, 0, none⟩)), (3, .slice A4 out_3.length c5), (11, .slice A0_1 a.list.length c0_1), (12, .int .i64 ((a.list.length : Nat) : Int)), (13, .int .i64 ((i9 : Nat) : Int))] ∧ CC F Γ [row6, rowa] w ∧ Own intT Γ 3 row6 A4 c5 out_3 ∧ True) ?_ ?_
  · skip
    intro w hw
    have hw := hw.pad
    exact ⟨none, 0, [], (sl_ (by kernel_rfl)), hw, (Own.nil intT _ 3), trivial⟩
  rintro f8 i9 out_3 σ w hi10 hlt11 hge12 ⟨A4, c5, row6, hsl, hw, ho7, -⟩
  refine Wpt.slots hsl ?_
  refine WC.here (C := CC F Γ [row6, rowa]) ?_ hw
  clear hw hsl
  refine WC.rs ?_
  refine va rfl rfl rfl (q_lss rfl rfl rfl) ?_
  refine WR.nil ?_
  change WC _ _ _ _ _ _
  refine WC.seq ?_
  refine WC.cond (b := (decide (((i9 : Nat) : Int) < ((a.list.length : Nat) : Int)))) (by kernel_rfl) (fun hb13 => ?_) (fun hb13 => ?_)
  · skip
    have hl14 := ilt hb13
    have h := hlt11 hl14
    refine WC.skip ?_
    change WC _ _ _ _ _ _
    refine WC.cut (fun σ w => ∃ (out_15 : List Int), ∃ (A16 : Option Addr), ∃ (c17 : Nat), ∃ (row18 : Rowb), m_quorum_asking_api_Ver_Waits_j5 f8 out_15 = some r ∧ slots σ [(0, .pointer (some ⟨ga, 0, none⟩)), (3, .slice A16 out_15.length c17), (11, .slice A0_1 a.list.length c0_1), (12, .int .i64 ((a.list.length : Nat) : Int)), (13, .int .i64 ((i9 : Nat) : Int))] ∧ CC F Γ [row18, rowa] w ∧ Own intT Γ 3 row18 A16 c17 out_15 ∧ True) ?_ ?_
    · skip
      refine WC.block ?_
      refine WC.rs ?_
      refine va rfl rfl rfl (q_ixn (i := i9) Try.underlying22 Try.sizeOf3 rfl rfl rfl hl14 (ho1_1.some_ hl14)) ?_
      refine va rfl rfl rfl (q_ld (c := 0) (v := .int .i64 (gt a.list i9)) (ho1_1.intT_at hl14).2 rfl Try.isAgg3 rfl rfl) ?_
      refine va rfl rfl rfl (q_assign (v := .int .i64 (gt a.list i9)) rfl (by kernel_rfl)) ?_
      refine WR.nil ?_
      change WC _ _ _ _ _ _
      refine WC.rs ?_
      refine va rfl rfl rfl (q_move (v := .pointer (some ⟨ga, 0, none⟩)) rfl (by kernel_rfl)) ?_
      refine va rfl rfl rfl (q_nil (A := some ⟨ga, 0, none⟩) rfl rfl rfl) ?_
      refine va rfl rfl rfl (q_fl 2 fld_81_2 rfl rfl rfl) ?_
      have hq := ha
      obtain ⟨A0_20, c0_20, m2_20, r2_20, hrow_20, ho0_20, ho1_20, ho2_20, ho3_20, -⟩ := hq
      intro w hw; have hw := hw.unfold (i := 1) rfl hrow_20
      refine WR.here (C := CC F Γ [[(ga, .cells #[.slice A0_20 a.list.length c0_20, .int .i64 a.need, .map (some m2_20)] ea (0, 0))], r2_20, row6]) ?_ hw
      clear hw
      refine va rfl rfl rfl (q_ldl (i := 0) (v := .map (some m2_20)) rfl rfl Try.isAgg79 rfl rfl) ?_
      refine va rfl rfl rfl (q_move (v := .int .i64 (gt a.list i9)) rfl (by kernel_rfl)) ?_
      obtain ⟨v21, ⟨A24, c25, hv22, hc26, hs27⟩, hat23⟩ := MapO.look ho3_20 (gt a.list i9) (z := .slice none 0 0) (zx := []) ⟨none, 0, rfl, Nat.zero_le _, Sl.nil _ _ _⟩
      obtain rfl : v21 = _ := List.cons.inj hv22 |>.1
      refine va rfl rfl rfl (q_lookup2 (v := .slice A24 ((mget (gt a.list i9) a.got).getD []).length c25) hat23 rfl Try.underlying79 Try.zeroValue40 rfl rfl (i := 1) rfl) ?_
      refine va rfl rfl rfl (q_move (v := .tuple #[.slice A24 ((mget (gt a.list i9) a.got).getD []).length c25, .bool ((mget (gt a.list i9) a.got).isSome)]) rfl (by kernel_rfl)) ?_
      refine va rfl rfl rfl (q_extract (v := .slice A24 ((mget (gt a.list i9) a.got).getD []).length c25) rfl rfl rfl) ?_
      refine va rfl rfl rfl (q_extract (v := .bool ((mget (gt a.list i9) a.got).isSome)) rfl rfl rfl) ?_
      refine va rfl rfl rfl (q_assign (v := .slice A24 ((mget (gt a.list i9) a.got).getD []).length c25) rfl (by kernel_rfl)) ?_
      refine va rfl rfl rfl (q_assign (v := .bool ((mget (gt a.list i9) a.got).isSome)) rfl (by kernel_rfl)) ?_
      refine WR.nil ?_
      change WC _ _ _ _ _ _
      refine WC.rs ?_
      refine va rfl rfl rfl (q_move (v := .bool ((mget (gt a.list i9) a.got).isSome)) rfl (by kernel_rfl)) ?_
      refine va rfl rfl rfl (q_not rfl rfl) ?_
      refine WR.nil ?_
      change WC _ _ _ _ _ _
      refine WC.cif h (by kernel_rfl) (fun hb28 h => ?_) (fun hb28 h => ?_)
      · skip
        refine WC.region ?_
        refine va rfl rfl rfl (q_move (v := .slice A4 out_3.length c5) rfl (by kernel_rfl)) ?_
        refine va rfl rfl rfl (q_move (v := .int .i64 (gt a.list i9)) rfl (by kernel_rfl)) ?_
        refine e_buildSlice (cs := #[.int .i64 (gt a.list i9)]) (e := 3) rfl rfl rfl rfl (fun w => by kernel_rfl) ?_
        intro g29
        obtain ⟨hk30, h⟩ := chk_some h
        refine e_append (T := intT) (xs := out_3) (ys := [(gt a.list i9)]) elem_22 (i := 3) rfl rfl rfl rfl rfl rfl rfl ho7 (of_decide_eq_true hk30) (fun w hw => src_one (T := intT) (y := (gt a.list i9)) (i := 0) rfl (by exact ⟨rfl, (ho1_1.intT_at hl14).1⟩) hw) ?_
        intro row31 A32 c33 ho34
        refine va rfl rfl rfl (q_assign (v := .slice A32 (out_3 ++ [(gt a.list i9)]).length c33) rfl (by kernel_rfl)) ?_
        refine WR.nil ?_
        intro w hw
        have hw := hw.fold (is := [1, 1]) rfl hrow_20
        exact ⟨(out_3 ++ [(gt a.list i9)]), A32, c33, row31, h, (sl_ (by kernel_rfl)), (hw.only (is := [2, 0]) rfl), ho34, trivial⟩
      · skip
        refine WC.skip ?_
        intro w hw
        have hw := hw.fold (is := [0, 0]) rfl hrow_20
        exact ⟨out_3, A4, c5, row6, h, (sl_ (by kernel_rfl)), (hw.only (is := [1, 0]) rfl), ho7, trivial⟩
    · skip
      rintro σ w ⟨out_15, A16, c17, row18, h, hsl, hw, ho19, -⟩
      refine Wpt.slots hsl ?_
      refine WC.here (C := CC F Γ [row18, rowa]) ?_ hw
      clear hw hsl
      refine WC.region ?_
      refine va rfl rfl rfl (q_add_r (r := ((i9 + 1 : Nat) : Int)) rfl rfl rfl (ctr_len hl14 ho1_1.le)) ?_
      refine va rfl rfl rfl (q_move (v := .int .i64 ((i9 + 1 : Nat) : Int)) rfl (by kernel_rfl)) ?_
      refine WR.nil ?_
      intro w hw
      exact ⟨hl14, out_15, h, A16, c17, row18, (sl_ (by kernel_rfl)), hw, ho19, trivial⟩
  · skip
    have h := hge12 (ige hb13)
    refine WC.exit ?_
    change WC _ _ _ _ _ _
    refine WC.rs ?_
    refine va rfl rfl rfl (q_move (v := .slice A4 out_3.length c5) rfl (by kernel_rfl)) ?_
    refine va rfl rfl rfl (q_assign (v := .slice A4 out_3.length c5) rfl (by kernel_rfl)) ?_
    refine WR.nil ?_
    change WC _ _ _ _ _ _
    refine WC.ret ?_
    intro w hw
    obtain rfl := Option.some.inj h
    subst hF
    exact end_e (is := [1, 0]) (by kernel_rfl) hw rfl ⟨A4, c5, row6, rfl, rfl, ho7, trivial⟩
abbrev r_quorum_Read_Waits (gr_ er_ : Nat) (rowr_ : Rowb) (r : List Int) (U : List Rowb) (Γ : Gh) (v : Value) : Prop := ∃ (A0 : Option Addr), ∃ (c0 : Nat), ∃ (row0 : Rowb), v = .slice A0 r.length c0 ∧ U = [rowr_, row0] ∧ Own intT Γ 3 row0 A0 c0 r ∧ True
set_option maxRecDepth 100000 in
set_option maxHeartbeats 400000 in
theorem t_quorum_Read_Waits {Γ : Gh} {w0 : World} {gr_ er_ : Nat} {rowr_ : Rowb} {r_ : Oquorum_asking_api_Ver} (hr_ : Oquorum_asking_api_Ver.ob er_ Γ gr_ rowr_ r_) (hp : Pre [rowr_] Γ w0) {r : List Int} (h : m_quorum_Read_Waits r_ = some r) : Calls Try.prog 22 #[.pointer (some ⟨gr_, 0, none⟩)] w0 (Outc Γ [rowr_] w0 (r_quorum_Read_Waits gr_ er_ rowr_ r)) := by
  refine calls_of (N := 7) (rs := [2]) (args := [.pointer (some ⟨gr_, 0, none⟩)]) Try.func22 rfl Try.ntmps22 Try.results22 rfl ?_
  obtain ⟨F, hF⟩ : ∃ F : Fm, F = ⟨ids [rowr_], w0, Γ⟩ := ⟨_, rfl⟩
  refine WC.here (C := CC F Γ [rowr_]) ?_ (hF ▸ hp.start)
  refine WC.rs ?_
  refine va rfl rfl rfl (q_assign (v := .slice none 0 0) rfl (by kernel_rfl)) ?_
  refine WR.nil ?_
  change WC _ _ _ _ _ _
  refine WC.rs ?_
  refine va rfl rfl rfl (q_move (v := .pointer (some ⟨gr_, 0, none⟩)) rfl (by kernel_rfl)) ?_
  refine va rfl rfl rfl (q_nil (A := some ⟨gr_, 0, none⟩) rfl rfl rfl) ?_
  refine va rfl rfl rfl (q_fl 0 fld_85_0 rfl rfl rfl) ?_
  obtain ⟨z1, hz2, h⟩ := bnd h
  refine e_call (is := [0]) rfl rfl (call_run Try.call45 rfl rfl (by kernel_rfl)) rfl (fun w hp => t_quorum_asking_api_Ver_Waits hr_ hp hz2) ?_
  rintro Γ3 U5 v6 hl4 ⟨A7, c8, row9, rfl, rfl, hr10, _⟩
  change WR _ _ _ (CC F Γ3 [rowr_, row9]) _ _ (upd _ 6 (.slice A7 z1.length c8))
  refine va rfl rfl rfl (q_assign (v := .slice A7 z1.length c8) rfl (by kernel_rfl)) ?_
  refine WR.nil ?_
  change WC _ _ _ _ _ _
  refine WC.ret ?_
  intro w hw
  obtain rfl := Option.some.inj h
  subst hF
  exact end_e (is := [0, 0]) (by kernel_rfl) hw rfl ⟨A7, c8, row9, rfl, rfl, hr10, trivial⟩
abbrev r_firthref05_put (r : List Ver) (U : List Rowb) (Γ : Gh) (v : Value) : Prop := ∃ (A0 : Option Addr), ∃ (c0 : Nat), v = .slice A0 r.length c0 ∧ U = [] ∧ r.length ≤ c0 ∧ Sl verT Γ A0 r ∧ True
set_option maxRecDepth 100000 in
set_option maxHeartbeats 400000 in
theorem t_firthref05_put {Γ : Gh} {w0 : World} {Al : Option Addr} {cl : Nat} {l : List Ver} (hl : Sl verT Γ Al l) (hlc : l.length ≤ cl) {Av_2 : Option Addr} {cv_2 : Nat} (v_ : Ver) (hv_ : Ver.fits Γ Av_2 cv_2 v_) (hp : Pre [] Γ w0) {r : List Ver} (h : m_firthref05_put l v_ = some r) : Calls Try.prog 54 #[.slice Al l.length cl, .agg #[.int .i64 v_.dot.s, .int .i64 v_.dot.n, .slice Av_2 v_.past.length cv_2, .bool v_.gone, .string v_.val]] w0 (Outc Γ [] w0 (r_firthref05_put r)) := by
  refine calls_of (N := 52) (rs := [4]) (args := [.slice Al l.length cl, .agg #[.int .i64 v_.dot.s, .int .i64 v_.dot.n, .slice Av_2 v_.past.length cv_2, .bool v_.gone, .string v_.val]]) Try.func54 rfl Try.ntmps54 Try.results54 rfl ?_
  obtain ⟨F, hF⟩ : ∃ F : Fm, F = ⟨ids [], w0, Γ⟩ := ⟨_, rfl⟩
  refine WC.here (C := CC F Γ []) ?_ (hF ▸ hp.start)
  refine WC.rs ?_
  refine e_box (v := .agg #[.int .i64 v_.dot.s, .int .i64 v_.dot.n, .slice Av_2 v_.past.length cv_2, .bool v_.gone, .string v_.val]) rfl rfl rfl rfl (by kernel_rfl) ?_
  intro g1
  refine va rfl rfl rfl (q_assign (v := .slice none 0 0) rfl (by kernel_rfl)) ?_
  refine WR.nil ?_
  change WC _ _ _ _ _ _
  refine WC.rs ?_
  refine va rfl rfl rfl (q_assign (v := .int .i64 0) rfl (by kernel_rfl)) ?_
  refine WR.nil ?_
  change WC _ _ _ _ _ _
  refine WC.seq ?_
  refine WC.block ?_
  refine WC.loopN h (fun (at_2 : Int) σ w => slots σ [(0, .slice Al l.length cl), (3, .pointer (some ⟨g1, 0, none⟩)), (5, .int .i64 at_2)] ∧ CC F Γ [[(g1, .cells #[.int .i64 v_.dot.s, .int .i64 v_.dot.n, .slice Av_2 v_.past.length cv_2, .bool v_.gone, .string v_.val] 58 (0, 0))]] w ∧ I64 at_2 ∧ True) ?_ ?_
  · skip
    intro w hw
    exact ⟨(sl_ (by kernel_rfl)), hw, (show I64 0 by decide), trivial⟩
  rintro f4 at_2 σ w h ⟨hsl, hw, hr3, -⟩
  refine Wpt.slots hsl ?_
  refine WC.here (C := CC F Γ [[(g1, .cells #[.int .i64 v_.dot.s, .int .i64 v_.dot.n, .slice Av_2 v_.past.length cv_2, .bool v_.gone, .string v_.val] 58 (0, 0))]]) ?_ hw
  clear hw hsl
  refine WC.seq ?_
  refine WC.seq ?_
  refine WC.dr (by kernel_rfl) (by kernel_rfl) (fun w hw => hw.drawn _) ?_
  refine wa rfl rfl rfl (q_move (v := .int .i64 at_2) rfl (by kernel_rfl)) ?_
  refine wa rfl rfl rfl (q_move (v := .slice Al l.length cl) rfl (by kernel_rfl)) ?_
  refine wa rfl rfl rfl (q_len_slice rfl Try.underlying40 rfl) ?_
  refine wa rfl rfl rfl (q_lss rfl rfl rfl) ?_
  refine wa rfl rfl rfl (q_move (v := .bool (decide (at_2 < ((l.length : Nat) : Int)))) rfl (by kernel_rfl)) ?_
  refine wg1 rfl rfl rfl rfl rfl (fun hg8 => QV.qo (q_move (v := .slice Al l.length cl) rfl (by kernel_rfl))) ?_
  refine wg1 rfl rfl rfl rfl rfl (fun hg9 => QV.qo (q_move (v := .int .i64 at_2) rfl (by kernel_rfl))) ?_
  obtain ⟨hk11, h⟩ := chk_some h
  refine wg1 rfl rfl rfl rfl rfl (fun hg10 => QV.qo (q_ix Try.underlying40 Try.sizeOf58 rfl (gu hg10 rfl) (gu hg10 rfl) (imp_of hk11 hg10) (hl.some_ (inb_lt (imp_of hk11 hg10))))) ?_
  refine wg1 rfl rfl rfl rfl rfl (fun hg12 => QV.qo (q_field_addr (at_2.toNat * 5) fld_58_0 rfl (gu hg12 rfl) (hl.some_ (inb_lt (imp_of hk11 hg12))) rfl)) ?_
  obtain ⟨A14, c15, hx16⟩ := hl.verT_at at_2.toNat
  refine wg1 rfl rfl rfl rfl rfl (fun hg13 => QV.qo (q_lda (c := 0) (vs := [.int .i64 (gt l at_2.toNat).dot.s, .int .i64 (gt l at_2.toNat).dot.n]) (hx16 (inb_lt (imp_of hk11 hg13))).2 rfl Try.isAgg55 Try.sizeOf55 (gu hg13 rfl) rfl rfl)) ?_
  refine wg1 rfl rfl rfl rfl rfl (fun hg17 => QV.qo (q_fl 0 fld_58_0 rfl rfl rfl)) ?_
  refine wg1 rfl rfl rfl rfl rfl (fun hg18 => QV.qo (q_ldla (i := 0) (vs := [.int .i64 v_.dot.s, .int .i64 v_.dot.n]) rfl rfl Try.isAgg55 Try.sizeOf55 (gu hg18 rfl) rfl)) ?_
  obtain ⟨z20, hz21, h⟩ := bnd h
  refine wg1 rfl rfl rfl rfl rfl (fun hg19 => (q_call (call_run Try.call50 rfl rfl (args2 (gu hg19 rfl) (gu hg19 rfl))) (fun w hw => t_firthref05_Less (Γ := Gh.all w) ((gt l at_2.toNat).dot) ⟨(hx16 (inb_lt (imp_of hk11 hg19))).1.1, (hx16 (inb_lt (imp_of hk11 hg19))).1.2.1⟩ v_.dot ⟨hv_.1, hv_.2.1⟩ (Sat.all w) (gc_of hz21 hg19)))) ?_
  refine wa rfl rfl rfl (q_pick rfl rfl (pk_and' (g := (decide (at_2 < ((l.length : Nat) : Int)))) (y := z20))) ?_
  refine WQ.nil ?_
  change WC _ _ _ _ _ _
  refine WC.cif h (by kernel_rfl) (fun hb22 h => ?_) (fun hb22 h => ?_)
  · skip
    refine WC.skip ?_
    change WC _ _ _ _ _ _
    refine WC.block ?_
    refine WC.region ?_
    refine va rfl rfl rfl (q_move (v := .int .i64 at_2) rfl (by kernel_rfl)) ?_
    refine va rfl rfl rfl (q_add rfl rfl rfl) ?_
    refine va rfl rfl rfl (q_assign (v := .int .i64 (w64 (at_2 + 1))) rfl (by kernel_rfl)) ?_
    refine WR.nil ?_
    intro w hw
    exact ⟨(w64 (at_2 + 1)), h, (sl_ (by kernel_rfl)), hw, (w64_r _), trivial⟩
  · skip
    refine WC.exit ?_
    change WC _ _ _ _ _ _
    refine WC.seq ?_
    refine WC.seq ?_
    refine WC.dr (by kernel_rfl) (by kernel_rfl) (fun w hw => hw.drawn _) ?_
    refine wa rfl rfl rfl (q_move (v := .int .i64 at_2) rfl (by kernel_rfl)) ?_
    refine wa rfl rfl rfl (q_move (v := .slice Al l.length cl) rfl (by kernel_rfl)) ?_
    refine wa rfl rfl rfl (q_len_slice rfl Try.underlying40 rfl) ?_
    refine wa rfl rfl rfl (q_lss rfl rfl rfl) ?_
    refine wa rfl rfl rfl (q_move (v := .bool (decide (at_2 < ((l.length : Nat) : Int)))) rfl (by kernel_rfl)) ?_
    refine wg1 rfl rfl rfl rfl rfl (fun hg23 => QV.qo (q_move (v := .slice Al l.length cl) rfl (by kernel_rfl))) ?_
    refine wg1 rfl rfl rfl rfl rfl (fun hg24 => QV.qo (q_move (v := .int .i64 at_2) rfl (by kernel_rfl))) ?_
    refine wg1 rfl rfl rfl rfl rfl (fun hg25 => QV.qo (q_ix Try.underlying40 Try.sizeOf58 rfl (gu hg25 rfl) (gu hg25 rfl) (imp_of hk11 hg25) (hl.some_ (inb_lt (imp_of hk11 hg25))))) ?_
    refine wg1 rfl rfl rfl rfl rfl (fun hg26 => QV.qo (q_field_addr (at_2.toNat * 5) fld_58_0 rfl (gu hg26 rfl) (hl.some_ (inb_lt (imp_of hk11 hg26))) rfl)) ?_
    refine wg1 rfl rfl rfl rfl rfl (fun hg27 => QV.qo (q_lda (c := 0) (vs := [.int .i64 (gt l at_2.toNat).dot.s, .int .i64 (gt l at_2.toNat).dot.n]) (hx16 (inb_lt (imp_of hk11 hg27))).2 rfl Try.isAgg55 Try.sizeOf55 (gu hg27 rfl) rfl rfl)) ?_
    refine wg1 rfl rfl rfl rfl rfl (fun hg28 => QV.qo (q_fl 0 fld_58_0 rfl rfl rfl)) ?_
    refine wg1 rfl rfl rfl rfl rfl (fun hg29 => QV.qo (q_ldla (i := 0) (vs := [.int .i64 v_.dot.s, .int .i64 v_.dot.n]) rfl rfl Try.isAgg55 Try.sizeOf55 (gu hg29 rfl) rfl)) ?_
    refine wg1 rfl rfl rfl rfl rfl (fun hg30 => QV.qo (q_eql_Dot (a := (gt l at_2.toNat).dot) (b := v_.dot) rfl (gu hg30 rfl) (gu hg30 rfl))) ?_
    refine wa rfl rfl rfl (q_pick rfl rfl (pk_and' (g := (decide (at_2 < ((l.length : Nat) : Int)))) (y := ((gt l at_2.toNat).dot == v_.dot)))) ?_
    refine WQ.nil ?_
    change WC _ _ _ _ _ _
    refine WC.cif h (by kernel_rfl) (fun hb31 h => ?_) (fun hb31 h => ?_)
    · skip
      refine WC.rs ?_
      refine va rfl rfl rfl (q_move (v := .slice Al l.length cl) rfl (by kernel_rfl)) ?_
      refine va rfl rfl rfl (q_assign (v := .slice Al l.length cl) rfl (by kernel_rfl)) ?_
      refine WR.nil ?_
      change WC _ _ _ _ _ _
      refine WC.ret ?_
      intro w hw
      obtain rfl := Option.some.inj h
      subst hF
      exact end_e (is := []) (by kernel_rfl) hw rfl ⟨Al, cl, rfl, rfl, hlc, hl, trivial⟩
    · skip
      refine WC.skip ?_
      change WC _ _ _ _ _ _
      refine WC.rs ?_
      refine va rfl rfl rfl (q_assign (v := .slice none 0 0) rfl (by kernel_rfl)) ?_
      refine WR.nil ?_
      change WC _ _ _ _ _ _
      refine WC.rs ?_
      refine va rfl rfl rfl (q_move (v := .slice none 0 0) rfl (by kernel_rfl)) ?_
      refine va rfl rfl rfl (q_move (v := .slice Al l.length cl) rfl (by kernel_rfl)) ?_
      refine va rfl rfl rfl (q_move (v := .int .i64 at_2) rfl (by kernel_rfl)) ?_
      obtain ⟨hk32, h⟩ := chk_some h
      refine va rfl rfl rfl (q_cut_to (c := cl) (hi := at_2.toNat) (xs := l) Try.underlying40 Try.sizeOf58 rfl rfl (inle_eq rfl hk32) (inle_le hk32) hlc) ?_
      refine WR.sub (fun w hw => hw.pad) ?_
      obtain ⟨hk33, h⟩ := chk_some h
      refine e_append (T := verT) (xs := []) (ys := (List.take at_2.toNat l)) elem_40 (i := 0) rfl rfl rfl rfl (by kernel_rfl) rfl rfl (Own.nil verT Γ 58) (of_decide_eq_true hk33) (fun w hw => src_sl (hl.cut_to (hi := at_2.toNat) (inle_le hk32)) hw) ?_
      intro row34 A35 c36 ho37
      refine va rfl rfl rfl (q_assign (v := .slice A35 (List.take at_2.toNat l).length c36) rfl (by kernel_rfl)) ?_
      refine WR.nil ?_
      change WC _ _ _ _ _ _
      refine WC.rs ?_
      refine va rfl rfl rfl (q_move (v := .slice A35 (List.take at_2.toNat l).length c36) rfl (by kernel_rfl)) ?_
      refine va rfl rfl rfl (q_ldla (i := 1) (vs := [.int .i64 v_.dot.s, .int .i64 v_.dot.n, .slice Av_2 v_.past.length cv_2, .bool v_.gone, .string v_.val]) rfl rfl Try.isAgg58 Try.sizeOf58 rfl rfl) ?_
      refine e_buildSlice (cs := #[.int .i64 v_.dot.s, .int .i64 v_.dot.n, .slice Av_2 v_.past.length cv_2, .bool v_.gone, .string v_.val]) (e := 58) rfl rfl rfl rfl (fun w => by kernel_rfl) ?_
      intro g38
      obtain ⟨hk39, h⟩ := chk_some h
      refine e_append (T := verT) (xs := (List.take at_2.toNat l)) (ys := [v_]) elem_40 (i := 1) rfl rfl rfl rfl rfl rfl rfl ho37 (of_decide_eq_true hk39) (fun w hw => src_one (T := verT) (y := v_) (i := 0) rfl (by exact ⟨Av_2, cv_2, rfl, hv_⟩) hw) ?_
      intro row40 A41 c42 ho43
      refine va rfl rfl rfl (q_assign (v := .slice A41 ((List.take at_2.toNat l) ++ [v_]).length c42) rfl (by kernel_rfl)) ?_
      refine WR.nil ?_
      change WC _ _ _ _ _ _
      refine WC.rs ?_
      refine va rfl rfl rfl (q_move (v := .slice A41 ((List.take at_2.toNat l) ++ [v_]).length c42) rfl (by kernel_rfl)) ?_
      refine va rfl rfl rfl (q_move (v := .slice Al l.length cl) rfl (by kernel_rfl)) ?_
      refine va rfl rfl rfl (q_move (v := .int .i64 at_2) rfl (by kernel_rfl)) ?_
      refine va rfl rfl rfl (q_cut_from (c := cl) (lo := at_2.toNat) (xs := l) Try.underlying40 Try.sizeOf58 rfl rfl (inle_eq rfl hk32) (inle_le hk32)) ?_
      obtain ⟨hk44, h⟩ := chk_some h
      refine e_append (T := verT) (xs := ((List.take at_2.toNat l) ++ [v_])) (ys := (List.drop at_2.toNat l)) elem_40 (i := 1) rfl rfl rfl rfl rfl rfl rfl ho43 (of_decide_eq_true hk44) (fun w hw => src_sl (hl.cut_from (c := cl) (lo := at_2.toNat) (inle_le hk32) hlc) hw) ?_
      intro row45 A46 c47 ho48
      refine va rfl rfl rfl (q_assign (v := .slice A46 (((List.take at_2.toNat l) ++ [v_]) ++ (List.drop at_2.toNat l)).length c47) rfl (by kernel_rfl)) ?_
      refine WR.nil ?_
      change WC _ _ _ _ _ _
      refine WC.ret ?_
      intro w hw
      have hc53 := ho48.capz
      obtain ⟨Γ49, hw, hl50, hr51⟩ := hw.seal (i := 1) rfl; have hs52 := ho48.sl hl50 hr51
      obtain rfl := Option.some.inj h
      subst hF
      exact end_e (is := []) (by kernel_rfl) hw rfl ⟨A46, c47, rfl, rfl, hc53, hs52, trivial⟩
abbrev r_firthref05_Merge (r : (List Ver) × Int) (U : List Rowb) (Γ : Gh) (v : Value) : Prop := ∃ (A0 : Option Addr), ∃ (c0 : Nat), v = .tuple #[.slice A0 r.1.length c0, .int .i64 r.2] ∧ U = [] ∧ r.1.length ≤ c0 ∧ Sl verT Γ A0 r.1 ∧ I64 r.2 ∧ True
set_option maxRecDepth 100000 in
set_option maxHeartbeats 400000 in
theorem t_firthref05_Merge {Γ : Gh} {w0 : World} {Aa : Option Addr} {ca : Nat} {a : List Ver} (ha : Sl verT Γ Aa a) (hac : a.length ≤ ca) {Ab : Option Addr} {cb : Nat} {b : List Ver} (hb : Sl verT Γ Ab b) (hbc : b.length ≤ cb) (hp : Pre [] Γ w0) {r : (List Ver) × Int} (h : m_firthref05_Merge a b = some r) : Calls Try.prog 31 #[.slice Aa a.length ca, .slice Ab b.length cb] w0 (Outc Γ [] w0 (r_firthref05_Merge r)) := by
  refine calls_of (N := 98) (rs := [4, 5]) (args := [.slice Aa a.length ca, .slice Ab b.length cb]) Try.func31 rfl Try.ntmps31 Try.results31 rfl ?_
  obtain ⟨F, hF⟩ : ∃ F : Fm, F = ⟨ids [], w0, Γ⟩ := ⟨_, rfl⟩
  refine WC.here (C := CC F Γ []) ?_ (hF ▸ hp.start)
  refine WC.rs ?_
  refine va rfl rfl rfl (q_assign (v := .slice none 0 0) rfl (by kernel_rfl)) ?_
  refine va rfl rfl rfl (q_assign (v := .int .i64 0) rfl (by kernel_rfl)) ?_
  refine WR.nil ?_
  change WC _ _ _ _ _ _
  refine WC.seq ?_
  refine WC.rs ?_
  refine va rfl rfl rfl (q_move (v := .slice Aa a.length ca) rfl (by kernel_rfl)) ?_
  obtain ⟨z1, hz2, h⟩ := bnd h
  refine vc rfl rfl rfl (q_call (call_run Try.call29 rfl rfl (by kernel_rfl)) (fun w hw => t_firthref05_Right (Γ := Gh.all w) (ha.mono hw.sat.le_all) hac (Sat.all w) hz2)) ?_
  refine va rfl rfl rfl (q_not rfl rfl) ?_
  refine va rfl rfl rfl (q_move (v := .bool (!z1)) rfl (by kernel_rfl)) ?_
  refine vg0 rfl rfl rfl rfl rfl (fun hg3 => QV.qo (q_move (v := .slice Ab b.length cb) rfl (by kernel_rfl))) ?_
  obtain ⟨z5, hz6, h⟩ := bnd h
  refine vg0 rfl rfl rfl rfl rfl (fun hg4 => (q_call (call_run Try.call29 rfl rfl (args1 (gu hg4 rfl))) (fun w hw => t_firthref05_Right (Γ := Gh.all w) (hb.mono hw.sat.le_all) hbc (Sat.all w) (gc_of hz6 hg4)))) ?_
  refine vg0 rfl rfl rfl rfl rfl (fun hg7 => QV.qo (q_not rfl (gu hg7 rfl))) ?_
  refine va rfl rfl rfl (q_pick rfl rfl (pk_or' (g := (!z1)) (y := (!z5)))) ?_
  refine WR.nil ?_
  change WC _ _ _ _ _ _
  refine WC.cif h (by kernel_rfl) (fun hb8 h => ?_) (fun hb8 h => ?_)
  · skip
    refine WC.rs ?_
    refine va rfl rfl rfl (q_assign (v := .slice none 0 0) rfl (by kernel_rfl)) ?_
    refine va rfl rfl rfl (q_assign (v := .int .i64 1) rfl (by kernel_rfl)) ?_
    refine WR.nil ?_
    change WC _ _ _ _ _ _
    refine WC.ret ?_
    intro w hw
    obtain rfl := Option.some.inj h
    subst hF
    exact end_e (is := []) (by kernel_rfl) hw rfl ⟨none, 0, rfl, rfl, (Nat.zero_le 0), (Sl.nil verT _ none), (show I64 1 by decide), trivial⟩
  · skip
    refine WC.skip ?_
    change WC _ _ _ _ _ _
    refine WC.seq ?_
    refine WC.rs ?_
    refine va rfl rfl rfl (q_assign (v := .int .i64 0) rfl (by kernel_rfl)) ?_
    refine WR.nil ?_
    change WC _ _ _ _ _ _
    refine WC.block ?_
    refine WC.forI h (fun (i10 : Nat) (s : Unit) σ w => match s with | () => slots σ [(0, .slice Aa a.length ca), (1, .slice Ab b.length cb), (6, .int .i64 ((i10 : Nat) : Int))] ∧ CC F Γ [] w ∧ True) ?_ ?_
    · skip
      intro w hw
      exact ⟨(sl_ (by kernel_rfl)), hw, trivial⟩
    rintro f9 i10 ⟨⟩ σ w hi11 hlt12 hge13 ⟨hsl, hw, -⟩
    refine Wpt.slots hsl ?_
    refine WC.here (C := CC F Γ []) ?_ hw
    clear hw hsl
    refine WC.seq ?_
    refine WC.rs ?_
    refine va rfl rfl rfl (q_move (v := .int .i64 ((i10 : Nat) : Int)) rfl (by kernel_rfl)) ?_
    refine va rfl rfl rfl (q_move (v := .slice Aa a.length ca) rfl (by kernel_rfl)) ?_
    refine va rfl rfl rfl (q_len_slice rfl Try.underlying40 rfl) ?_
    refine va rfl rfl rfl (q_lss rfl rfl rfl) ?_
    refine WR.nil ?_
    change WC _ _ _ _ _ _
    refine WC.cond (b := (decide (((i10 : Nat) : Int) < ((a.length : Nat) : Int)))) (by kernel_rfl) (fun hb14 => ?_) (fun hb14 => ?_)
    · skip
      have hl15 := ilt hb14
      have h := hlt12 hl15
      refine WC.skip ?_
      change WC _ _ _ _ _ _
      refine WC.seq ?_
      refine WC.block ?_
      refine WC.rs ?_
      refine va rfl rfl rfl (q_assign (v := .int .i64 0) rfl (by kernel_rfl)) ?_
      refine WR.nil ?_
      change WC _ _ _ _ _ _
      refine WC.block ?_
      refine WC.forI h (fun (i17 : Nat) (s : Unit) σ w => match s with | () => slots σ [(0, .slice Aa a.length ca), (1, .slice Ab b.length cb), (6, .int .i64 ((i10 : Nat) : Int)), (7, .int .i64 ((i17 : Nat) : Int))] ∧ CC F Γ [] w ∧ True) ?_ ?_
      · skip
        intro w hw
        exact ⟨(sl_ (by kernel_rfl)), hw, trivial⟩
      rintro f16 i17 ⟨⟩ σ w hi18 hlt19 hge20 ⟨hsl, hw, -⟩
      refine Wpt.slots hsl ?_
      refine WC.here (C := CC F Γ []) ?_ hw
      clear hw hsl
      refine WC.seq ?_
      refine WC.rs ?_
      refine va rfl rfl rfl (q_move (v := .int .i64 ((i17 : Nat) : Int)) rfl (by kernel_rfl)) ?_
      refine va rfl rfl rfl (q_move (v := .slice Ab b.length cb) rfl (by kernel_rfl)) ?_
      refine va rfl rfl rfl (q_len_slice rfl Try.underlying40 rfl) ?_
      refine va rfl rfl rfl (q_lss rfl rfl rfl) ?_
      refine WR.nil ?_
      change WC _ _ _ _ _ _
      refine WC.cond (b := (decide (((i17 : Nat) : Int) < ((b.length : Nat) : Int)))) (by kernel_rfl) (fun hb21 => ?_) (fun hb21 => ?_)
      · skip
        have hl22 := ilt hb21
        have h := hlt19 hl22
        refine WC.skip ?_
        change WC _ _ _ _ _ _
        refine WC.seq ?_
        refine WC.block ?_
        refine WC.seq ?_
        refine WC.dr (by kernel_rfl) (by kernel_rfl) (fun w hw => hw.drawn _) ?_
        refine wa rfl rfl rfl (q_move (v := .slice Aa a.length ca) rfl (by kernel_rfl)) ?_
        refine wa rfl rfl rfl (q_move (v := .int .i64 ((i10 : Nat) : Int)) rfl (by kernel_rfl)) ?_
        refine wa rfl rfl rfl (q_ixn (i := i10) Try.underlying40 Try.sizeOf58 rfl rfl rfl hl15 (ha.some_ hl15)) ?_
        refine wa rfl rfl rfl (q_field_addr (i10 * 5) fld_58_0 rfl rfl (ha.some_ hl15) rfl) ?_
        obtain ⟨A23, c24, hx25⟩ := ha.verT_at i10
        refine wa rfl rfl rfl (q_lda (c := 0) (vs := [.int .i64 (gt a i10).dot.s, .int .i64 (gt a i10).dot.n]) (hx25 hl15).2 rfl Try.isAgg55 Try.sizeOf55 rfl rfl rfl) ?_
        refine wa rfl rfl rfl (q_move (v := .slice Ab b.length cb) rfl (by kernel_rfl)) ?_
        refine wa rfl rfl rfl (q_move (v := .int .i64 ((i17 : Nat) : Int)) rfl (by kernel_rfl)) ?_
        refine wa rfl rfl rfl (q_ixn (i := i17) Try.underlying40 Try.sizeOf58 rfl rfl rfl hl22 (hb.some_ hl22)) ?_
        refine wa rfl rfl rfl (q_field_addr (i17 * 5) fld_58_0 rfl rfl (hb.some_ hl22) rfl) ?_
        obtain ⟨A26, c27, hx28⟩ := hb.verT_at i17
        refine wa rfl rfl rfl (q_lda (c := 0) (vs := [.int .i64 (gt b i17).dot.s, .int .i64 (gt b i17).dot.n]) (hx28 hl22).2 rfl Try.isAgg55 Try.sizeOf55 rfl rfl rfl) ?_
        refine wa rfl rfl rfl (q_eql_Dot (a := (gt a i10).dot) (b := (gt b i17).dot) rfl rfl rfl) ?_
        refine wa rfl rfl rfl (q_move (v := .bool ((gt a i10).dot == (gt b i17).dot)) rfl (by kernel_rfl)) ?_
        refine wg1 rfl rfl rfl rfl rfl (fun hg29 => QV.qo (q_move (v := .slice Aa a.length ca) rfl (by kernel_rfl))) ?_
        refine wg1 rfl rfl rfl rfl rfl (fun hg30 => QV.qo (q_move (v := .int .i64 ((i10 : Nat) : Int)) rfl (by kernel_rfl))) ?_
        refine wg1 rfl rfl rfl rfl rfl (fun hg31 => QV.qo (q_ixn (i := i10) Try.underlying40 Try.sizeOf58 rfl (gu hg31 rfl) (gu hg31 rfl) hl15 (ha.some_ hl15))) ?_
        refine wg1 rfl rfl rfl rfl rfl (fun hg32 => QV.qo (q_lda (c := 0) (vs := [.int .i64 (gt a i10).dot.s, .int .i64 (gt a i10).dot.n, .slice A23 ((gt a i10).past).length c24, .bool (gt a i10).gone, .string (gt a i10).val]) (hx25 hl15).2 rfl Try.isAgg58 Try.sizeOf58 (gu hg32 rfl) rfl rfl)) ?_
        refine wg1 rfl rfl rfl rfl rfl (fun hg33 => QV.qo (q_move (v := .slice Ab b.length cb) rfl (by kernel_rfl))) ?_
        refine wg1 rfl rfl rfl rfl rfl (fun hg34 => QV.qo (q_move (v := .int .i64 ((i17 : Nat) : Int)) rfl (by kernel_rfl))) ?_
        refine wg1 rfl rfl rfl rfl rfl (fun hg35 => QV.qo (q_ixn (i := i17) Try.underlying40 Try.sizeOf58 rfl (gu hg35 rfl) (gu hg35 rfl) hl22 (hb.some_ hl22))) ?_
        refine wg1 rfl rfl rfl rfl rfl (fun hg36 => QV.qo (q_lda (c := 0) (vs := [.int .i64 (gt b i17).dot.s, .int .i64 (gt b i17).dot.n, .slice A26 ((gt b i17).past).length c27, .bool (gt b i17).gone, .string (gt b i17).val]) (hx28 hl22).2 rfl Try.isAgg58 Try.sizeOf58 (gu hg36 rfl) rfl rfl)) ?_
        obtain ⟨z38, hz39, h⟩ := bnd h
        refine wg1 rfl rfl rfl rfl rfl (fun hg37 => (q_call (call_run Try.call46 rfl rfl (args2 (gu hg37 rfl) (gu hg37 rfl))) (fun w hw => t_firthref05_SameOne (Γ := Gh.all w) (gt a i10) (Ver.fits_mono (hx25 hl15).1 hw.sat.le_all) (gt b i17) (Ver.fits_mono (hx28 hl22).1 hw.sat.le_all) (Sat.all w) (gc_of hz39 hg37)))) ?_
        refine wg1 rfl rfl rfl rfl rfl (fun hg40 => QV.qo (q_not rfl (gu hg40 rfl))) ?_
        refine wa rfl rfl rfl (q_pick rfl rfl (pk_and' (g := ((gt a i10).dot == (gt b i17).dot)) (y := (!z38)))) ?_
        refine WQ.nil ?_
        change WC _ _ _ _ _ _
        refine WC.cif h (by kernel_rfl) (fun hb41 h => ?_) (fun hb41 h => ?_)
        · skip
          refine WC.rs ?_
          refine va rfl rfl rfl (q_assign (v := .slice none 0 0) rfl (by kernel_rfl)) ?_
          refine va rfl rfl rfl (q_assign (v := .int .i64 50) rfl (by kernel_rfl)) ?_
          refine WR.nil ?_
          change WC _ _ _ _ _ _
          refine WC.ret ?_
          intro w hw
          obtain rfl := Option.some.inj h
          subst hF
          exact end_e (is := []) (by kernel_rfl) hw rfl ⟨none, 0, rfl, rfl, (Nat.zero_le 0), (Sl.nil verT _ none), (show I64 50 by decide), trivial⟩
        · skip
          refine WC.skip ?_
          change WC _ _ _ _ _ _
          refine WC.region ?_
          refine va rfl rfl rfl (q_move (v := .int .i64 ((i17 : Nat) : Int)) rfl (by kernel_rfl)) ?_
          refine va rfl rfl rfl (q_add_r (r := ((i17 + 1 : Nat) : Int)) rfl rfl rfl (ctr_len hl22 hb.le)) ?_
          refine va rfl rfl rfl (q_assign (v := .int .i64 ((i17 + 1 : Nat) : Int)) rfl (by kernel_rfl)) ?_
          refine WR.nil ?_
          intro w hw
          exact ⟨hl22, (), h, (sl_ (by kernel_rfl)), hw, trivial⟩
      · skip
        have h := hge20 (ige hb21)
        refine WC.exit ?_
        change WC _ _ _ _ _ _
        refine WC.region ?_
        refine va rfl rfl rfl (q_move (v := .int .i64 ((i10 : Nat) : Int)) rfl (by kernel_rfl)) ?_
        refine va rfl rfl rfl (q_add_r (r := ((i10 + 1 : Nat) : Int)) rfl rfl rfl (ctr_len hl15 ha.le)) ?_
        refine va rfl rfl rfl (q_assign (v := .int .i64 ((i10 + 1 : Nat) : Int)) rfl (by kernel_rfl)) ?_
        refine WR.nil ?_
        intro w hw
        exact ⟨hl15, (), h, (sl_ (by kernel_rfl)), hw, trivial⟩
    · skip
      have h := hge13 (ige hb14)
      refine WC.exit ?_
      change WC _ _ _ _ _ _
      refine WC.rs ?_
      refine va rfl rfl rfl (q_assign (v := .slice none 0 0) rfl (by kernel_rfl)) ?_
      refine WR.nil ?_
      change WC _ _ _ _ _ _
      refine WC.seq ?_
      refine WC.rs ?_
      refine va rfl rfl rfl (q_assign (v := .int .i64 0) rfl (by kernel_rfl)) ?_
      refine WR.nil ?_
      change WC _ _ _ _ _ _
      refine WC.block ?_
      refine WC.forI h (fun (i50 : Nat) (out_44 : List Ver) σ w => ∃ (Γ42 : Gh), ∃ (A45 : Option Addr), ∃ (c46 : Nat), slots σ [(0, .slice Aa a.length ca), (1, .slice Ab b.length cb), (8, .slice A45 out_44.length c46), (9, .int .i64 ((i50 : Nat) : Int))] ∧ CC F Γ42 [] w ∧ Gh.le Γ Γ42 ∧ out_44.length ≤ c46 ∧ Sl verT Γ42 A45 out_44 ∧ True) ?_ ?_
      · skip
        intro w hw
        exact ⟨Γ, none, 0, (sl_ (by kernel_rfl)), hw, (Gh.refl _), (Nat.zero_le 0), (Sl.nil verT _ none), trivial⟩
      rintro f49 i50 out_44 σ w hi51 hlt52 hge53 ⟨Γ42, A45, c46, hsl, hw, hl43, hc48, hs47, -⟩
      refine Wpt.slots hsl ?_
      refine WC.here (C := CC F Γ42 []) ?_ hw
      clear hw hsl
      refine WC.seq ?_
      refine WC.rs ?_
      refine va rfl rfl rfl (q_move (v := .int .i64 ((i50 : Nat) : Int)) rfl (by kernel_rfl)) ?_
      refine va rfl rfl rfl (q_move (v := .slice Aa a.length ca) rfl (by kernel_rfl)) ?_
      refine va rfl rfl rfl (q_len_slice rfl Try.underlying40 rfl) ?_
      refine va rfl rfl rfl (q_lss rfl rfl rfl) ?_
      refine WR.nil ?_
      change WC _ _ _ _ _ _
      refine WC.cond (b := (decide (((i50 : Nat) : Int) < ((a.length : Nat) : Int)))) (by kernel_rfl) (fun hb54 => ?_) (fun hb54 => ?_)
      · skip
        have hl55 := ilt hb54
        have h := hlt52 hl55
        refine WC.skip ?_
        change WC _ _ _ _ _ _
        refine WC.cut (fun σ w => ∃ (out_58 : List Ver), ∃ (Γ56 : Gh), ∃ (A59 : Option Addr), ∃ (c60 : Nat), m_firthref05_Merge_j10 f49 out_58 = some r ∧ slots σ [(0, .slice Aa a.length ca), (1, .slice Ab b.length cb), (8, .slice A59 out_58.length c60), (9, .int .i64 ((i50 : Nat) : Int))] ∧ CC F Γ56 [] w ∧ Gh.le Γ42 Γ56 ∧ out_58.length ≤ c60 ∧ Sl verT Γ56 A59 out_58 ∧ True) ?_ ?_
        · skip
          refine WC.block ?_
          refine WC.rs ?_
          refine va rfl rfl rfl (q_move (v := .slice Ab b.length cb) rfl (by kernel_rfl)) ?_
          refine va rfl rfl rfl (q_move (v := .slice Aa a.length ca) rfl (by kernel_rfl)) ?_
          refine va rfl rfl rfl (q_move (v := .int .i64 ((i50 : Nat) : Int)) rfl (by kernel_rfl)) ?_
          refine va rfl rfl rfl (q_ixn (i := i50) Try.underlying40 Try.sizeOf58 rfl rfl rfl hl55 ((ha.mono hl43).some_ hl55)) ?_
          refine va rfl rfl rfl (q_field_addr (i50 * 5) fld_58_0 rfl rfl ((ha.mono hl43).some_ hl55) rfl) ?_
          obtain ⟨A63, c64, hx65⟩ := (ha.mono hl43).verT_at i50
          refine va rfl rfl rfl (q_lda (c := 0) (vs := [.int .i64 (gt a i50).dot.s, .int .i64 (gt a i50).dot.n]) (hx65 hl55).2 rfl Try.isAgg55 Try.sizeOf55 rfl rfl rfl) ?_
          obtain ⟨z66, hz67, h⟩ := bnd h
          refine vc rfl rfl rfl (q_call (call_run Try.call32 rfl rfl (by kernel_rfl)) (fun w hw => t_firthref05_Behind (Γ := Gh.all w) ((hb.mono hl43).mono hw.sat.le_all) hbc ((gt a i50).dot) ⟨(hx65 hl55).1.1, (hx65 hl55).1.2.1⟩ (Sat.all w) hz67)) ?_
          refine va rfl rfl rfl (q_not rfl rfl) ?_
          refine WR.nil ?_
          change WC _ _ _ _ _ _
          refine WC.cif h (by kernel_rfl) (fun hb68 h => ?_) (fun hb68 h => ?_)
          · skip
            refine WC.region ?_
            refine va rfl rfl rfl (q_move (v := .slice A45 out_44.length c46) rfl (by kernel_rfl)) ?_
            refine va rfl rfl rfl (q_move (v := .slice Aa a.length ca) rfl (by kernel_rfl)) ?_
            refine va rfl rfl rfl (q_move (v := .int .i64 ((i50 : Nat) : Int)) rfl (by kernel_rfl)) ?_
            refine va rfl rfl rfl (q_ixn (i := i50) Try.underlying40 Try.sizeOf58 rfl rfl rfl hl55 ((ha.mono hl43).some_ hl55)) ?_
            refine va rfl rfl rfl (q_lda (c := 0) (vs := [.int .i64 (gt a i50).dot.s, .int .i64 (gt a i50).dot.n, .slice A63 ((gt a i50).past).length c64, .bool (gt a i50).gone, .string (gt a i50).val]) (hx65 hl55).2 rfl Try.isAgg58 Try.sizeOf58 rfl rfl rfl) ?_
            obtain ⟨z69, hz70, h⟩ := bnd h
            refine e_call (is := []) rfl rfl (call_run Try.call54 rfl rfl (by kernel_rfl)) rfl (fun w hp => t_firthref05_put hs47 hc48 (gt a i50) (hx65 hl55).1 hp hz70) ?_
            rintro Γ71 U73 v74 hl72 ⟨A75, c76, rfl, rfl, hc78, hr77, _⟩
            change WR _ _ _ (CC F Γ71 []) _ _ (upd _ 73 (.slice A75 z69.length c76))
            refine va rfl rfl rfl (q_assign (v := .slice A75 z69.length c76) rfl (by kernel_rfl)) ?_
            refine WR.nil ?_
            intro w hw
            exact ⟨z69, Γ71, A75, c76, h, (sl_ (by kernel_rfl)), hw, hl72, hc78, hr77, trivial⟩
          · skip
            refine WC.skip ?_
            intro w hw
            exact ⟨out_44, Γ42, A45, c46, h, (sl_ (by kernel_rfl)), hw, (Gh.refl _), hc48, hs47, trivial⟩
        · skip
          rintro σ w ⟨out_58, Γ56, A59, c60, h, hsl, hw, hl57, hc62, hs61, -⟩
          refine Wpt.slots hsl ?_
          refine WC.here (C := CC F Γ56 []) ?_ hw
          clear hw hsl
          refine WC.region ?_
          refine va rfl rfl rfl (q_move (v := .int .i64 ((i50 : Nat) : Int)) rfl (by kernel_rfl)) ?_
          refine va rfl rfl rfl (q_add_r (r := ((i50 + 1 : Nat) : Int)) rfl rfl rfl (ctr_len hl55 (ha.mono hl43).le)) ?_
          refine va rfl rfl rfl (q_assign (v := .int .i64 ((i50 + 1 : Nat) : Int)) rfl (by kernel_rfl)) ?_
          refine WR.nil ?_
          intro w hw
          exact ⟨hl55, out_58, h, Γ56, A59, c60, (sl_ (by kernel_rfl)), hw, (hl43.trans hl57), hc62, hs61, trivial⟩
      · skip
        have h := hge53 (ige hb54)
        refine WC.exit ?_
        change WC _ _ _ _ _ _
        refine WC.seq ?_
        refine WC.rs ?_
        refine va rfl rfl rfl (q_assign (v := .int .i64 0) rfl (by kernel_rfl)) ?_
        refine WR.nil ?_
        change WC _ _ _ _ _ _
        refine WC.block ?_
        refine WC.forI h (fun (i87 : Nat) (out_81 : List Ver) σ w => ∃ (Γ79 : Gh), ∃ (A82 : Option Addr), ∃ (c83 : Nat), slots σ [(0, .slice Aa a.length ca), (1, .slice Ab b.length cb), (8, .slice A82 out_81.length c83), (10, .int .i64 ((i87 : Nat) : Int))] ∧ CC F Γ79 [] w ∧ Gh.le Γ42 Γ79 ∧ out_81.length ≤ c83 ∧ Sl verT Γ79 A82 out_81 ∧ True) ?_ ?_
        · skip
          intro w hw
          exact ⟨Γ42, A45, c46, (sl_ (by kernel_rfl)), hw, (Gh.refl _), hc48, hs47, trivial⟩
        rintro f86 i87 out_81 σ w hi88 hlt89 hge90 ⟨Γ79, A82, c83, hsl, hw, hl80, hc85, hs84, -⟩
        refine Wpt.slots hsl ?_
        refine WC.here (C := CC F Γ79 []) ?_ hw
        clear hw hsl
        refine WC.seq ?_
        refine WC.rs ?_
        refine va rfl rfl rfl (q_move (v := .int .i64 ((i87 : Nat) : Int)) rfl (by kernel_rfl)) ?_
        refine va rfl rfl rfl (q_move (v := .slice Ab b.length cb) rfl (by kernel_rfl)) ?_
        refine va rfl rfl rfl (q_len_slice rfl Try.underlying40 rfl) ?_
        refine va rfl rfl rfl (q_lss rfl rfl rfl) ?_
        refine WR.nil ?_
        change WC _ _ _ _ _ _
        refine WC.cond (b := (decide (((i87 : Nat) : Int) < ((b.length : Nat) : Int)))) (by kernel_rfl) (fun hb91 => ?_) (fun hb91 => ?_)
        · skip
          have hl92 := ilt hb91
          have h := hlt89 hl92
          refine WC.skip ?_
          change WC _ _ _ _ _ _
          refine WC.cut (fun σ w => ∃ (out_95 : List Ver), ∃ (Γ93 : Gh), ∃ (A96 : Option Addr), ∃ (c97 : Nat), m_firthref05_Merge_j15 f86 out_95 = some r ∧ slots σ [(0, .slice Aa a.length ca), (1, .slice Ab b.length cb), (8, .slice A96 out_95.length c97), (10, .int .i64 ((i87 : Nat) : Int))] ∧ CC F Γ93 [] w ∧ Gh.le Γ79 Γ93 ∧ out_95.length ≤ c97 ∧ Sl verT Γ93 A96 out_95 ∧ True) ?_ ?_
          · skip
            refine WC.block ?_
            refine WC.rs ?_
            refine va rfl rfl rfl (q_move (v := .slice Aa a.length ca) rfl (by kernel_rfl)) ?_
            refine va rfl rfl rfl (q_move (v := .slice Ab b.length cb) rfl (by kernel_rfl)) ?_
            refine va rfl rfl rfl (q_move (v := .int .i64 ((i87 : Nat) : Int)) rfl (by kernel_rfl)) ?_
            refine va rfl rfl rfl (q_ixn (i := i87) Try.underlying40 Try.sizeOf58 rfl rfl rfl hl92 ((hb.mono (hl43.trans hl80)).some_ hl92)) ?_
            refine va rfl rfl rfl (q_field_addr (i87 * 5) fld_58_0 rfl rfl ((hb.mono (hl43.trans hl80)).some_ hl92) rfl) ?_
            obtain ⟨A100, c101, hx102⟩ := (hb.mono (hl43.trans hl80)).verT_at i87
            refine va rfl rfl rfl (q_lda (c := 0) (vs := [.int .i64 (gt b i87).dot.s, .int .i64 (gt b i87).dot.n]) (hx102 hl92).2 rfl Try.isAgg55 Try.sizeOf55 rfl rfl rfl) ?_
            obtain ⟨z103, hz104, h⟩ := bnd h
            refine vc rfl rfl rfl (q_call (call_run Try.call32 rfl rfl (by kernel_rfl)) (fun w hw => t_firthref05_Behind (Γ := Gh.all w) ((ha.mono (hl43.trans hl80)).mono hw.sat.le_all) hac ((gt b i87).dot) ⟨(hx102 hl92).1.1, (hx102 hl92).1.2.1⟩ (Sat.all w) hz104)) ?_
            refine va rfl rfl rfl (q_not rfl rfl) ?_
            refine WR.nil ?_
            change WC _ _ _ _ _ _
            refine WC.cif h (by kernel_rfl) (fun hb105 h => ?_) (fun hb105 h => ?_)
            · skip
              refine WC.region ?_
              refine va rfl rfl rfl (q_move (v := .slice A82 out_81.length c83) rfl (by kernel_rfl)) ?_
              refine va rfl rfl rfl (q_move (v := .slice Ab b.length cb) rfl (by kernel_rfl)) ?_
              refine va rfl rfl rfl (q_move (v := .int .i64 ((i87 : Nat) : Int)) rfl (by kernel_rfl)) ?_
              refine va rfl rfl rfl (q_ixn (i := i87) Try.underlying40 Try.sizeOf58 rfl rfl rfl hl92 ((hb.mono (hl43.trans hl80)).some_ hl92)) ?_
              refine va rfl rfl rfl (q_lda (c := 0) (vs := [.int .i64 (gt b i87).dot.s, .int .i64 (gt b i87).dot.n, .slice A100 ((gt b i87).past).length c101, .bool (gt b i87).gone, .string (gt b i87).val]) (hx102 hl92).2 rfl Try.isAgg58 Try.sizeOf58 rfl rfl rfl) ?_
              obtain ⟨z106, hz107, h⟩ := bnd h
              refine e_call (is := []) rfl rfl (call_run Try.call54 rfl rfl (by kernel_rfl)) rfl (fun w hp => t_firthref05_put hs84 hc85 (gt b i87) (hx102 hl92).1 hp hz107) ?_
              rintro Γ108 U110 v111 hl109 ⟨A112, c113, rfl, rfl, hc115, hr114, _⟩
              change WR _ _ _ (CC F Γ108 []) _ _ (upd _ 93 (.slice A112 z106.length c113))
              refine va rfl rfl rfl (q_assign (v := .slice A112 z106.length c113) rfl (by kernel_rfl)) ?_
              refine WR.nil ?_
              intro w hw
              exact ⟨z106, Γ108, A112, c113, h, (sl_ (by kernel_rfl)), hw, hl109, hc115, hr114, trivial⟩
            · skip
              refine WC.skip ?_
              intro w hw
              exact ⟨out_81, Γ79, A82, c83, h, (sl_ (by kernel_rfl)), hw, (Gh.refl _), hc85, hs84, trivial⟩
          · skip
            rintro σ w ⟨out_95, Γ93, A96, c97, h, hsl, hw, hl94, hc99, hs98, -⟩
            refine Wpt.slots hsl ?_
            refine WC.here (C := CC F Γ93 []) ?_ hw
            clear hw hsl
            refine WC.region ?_
            refine va rfl rfl rfl (q_move (v := .int .i64 ((i87 : Nat) : Int)) rfl (by kernel_rfl)) ?_
            refine va rfl rfl rfl (q_add_r (r := ((i87 + 1 : Nat) : Int)) rfl rfl rfl (ctr_len hl92 (hb.mono (hl43.trans hl80)).le)) ?_
            refine va rfl rfl rfl (q_assign (v := .int .i64 ((i87 + 1 : Nat) : Int)) rfl (by kernel_rfl)) ?_
            refine WR.nil ?_
            intro w hw
            exact ⟨hl92, out_95, h, Γ93, A96, c97, (sl_ (by kernel_rfl)), hw, (hl80.trans hl94), hc99, hs98, trivial⟩
        · skip
          have h := hge90 (ige hb91)
          refine WC.exit ?_
          change WC _ _ _ _ _ _
          refine WC.seq ?_
          refine WC.rs ?_
          refine va rfl rfl rfl (q_move (v := .slice A82 out_81.length c83) rfl (by kernel_rfl)) ?_
          refine va rfl rfl rfl (q_len_slice rfl Try.underlying40 rfl) ?_
          refine va rfl rfl rfl (q_gtr rfl rfl rfl) ?_
          refine WR.nil ?_
          change WC _ _ _ _ _ _
          refine WC.cif h (by kernel_rfl) (fun hb116 h => ?_) (fun hb116 h => ?_)
          · skip
            refine WC.rs ?_
            refine va rfl rfl rfl (q_assign (v := .slice none 0 0) rfl (by kernel_rfl)) ?_
            refine va rfl rfl rfl (q_assign (v := .int .i64 3) rfl (by kernel_rfl)) ?_
            refine WR.nil ?_
            change WC _ _ _ _ _ _
            refine WC.ret ?_
            intro w hw
            obtain rfl := Option.some.inj h
            subst hF
            exact end_e (is := []) (by kernel_rfl) hw rfl ⟨none, 0, rfl, rfl, (Nat.zero_le 0), (Sl.nil verT _ none), (show I64 3 by decide), trivial⟩
          · skip
            refine WC.skip ?_
            change WC _ _ _ _ _ _
            refine WC.rs ?_
            refine va rfl rfl rfl (q_move (v := .slice A82 out_81.length c83) rfl (by kernel_rfl)) ?_
            refine va rfl rfl rfl (q_assign (v := .slice A82 out_81.length c83) rfl (by kernel_rfl)) ?_
            refine va rfl rfl rfl (q_assign (v := .int .i64 0) rfl (by kernel_rfl)) ?_
            refine WR.nil ?_
            change WC _ _ _ _ _ _
            refine WC.ret ?_
            intro w hw
            obtain rfl := Option.some.inj h
            subst hF
            exact end_e (is := []) (by kernel_rfl) hw rfl ⟨A82, c83, rfl, rfl, hc85, hs84, (show I64 0 by decide), trivial⟩
set_option maxRecDepth 100000 in
set_option maxHeartbeats 400000 in
theorem t_firthlaw16_under {Γ : Gh} {w0 : World} {Aa : Option Addr} {ca : Nat} {a : List Span} (ha : Sl spanT Γ Aa a) (hac : a.length ≤ ca) {Ab : Option Addr} {cb : Nat} {b : List Span} (hb : Sl spanT Γ Ab b) (hbc : b.length ≤ cb) (hs : Sat Γ w0) {r : Bool} (h : m_firthlaw16_under a b = some r) : Calls Try.prog 49 #[.slice Aa a.length ca, .slice Ab b.length cb] w0 (fun e w' => e = .returned (.bool r) ∧ Fr no w0 w') := by
  refine calls_of (N := 62) (rs := [4]) (args := [.slice Aa a.length ca, .slice Ab b.length cb]) Try.func49 rfl Try.ntmps49 Try.results49 rfl ?_
  obtain ⟨F, hF⟩ : ∃ F : Fm, F = ⟨no, w0, Γ⟩ := ⟨_, rfl⟩
  refine WC.here (C := CC F Γ []) ?_ (hF ▸ Cur.start0 hs)
  refine WC.rs ?_
  refine va rfl rfl rfl (q_assign (v := .bool false) rfl (by kernel_rfl)) ?_
  refine WR.nil ?_
  change WC _ _ _ _ _ _
  refine WC.seq ?_
  refine WC.rs ?_
  refine va rfl rfl rfl (q_assign (v := .int .i64 0) rfl (by kernel_rfl)) ?_
  refine WR.nil ?_
  change WC _ _ _ _ _ _
  refine WC.block ?_
  refine WC.forI h (fun (i2 : Nat) (s : Unit) σ w => match s with | () => slots σ [(0, .slice Aa a.length ca), (1, .slice Ab b.length cb), (5, .int .i64 ((i2 : Nat) : Int))] ∧ CC F Γ [] w ∧ True) ?_ ?_
  · skip
    intro w hw
    exact ⟨(sl_ (by kernel_rfl)), hw, trivial⟩
  rintro f1 i2 ⟨⟩ σ w hi3 hlt4 hge5 ⟨hsl, hw, -⟩
  refine Wpt.slots hsl ?_
  refine WC.here (C := CC F Γ []) ?_ hw
  clear hw hsl
  refine WC.seq ?_
  refine WC.rs ?_
  refine va rfl rfl rfl (q_move (v := .int .i64 ((i2 : Nat) : Int)) rfl (by kernel_rfl)) ?_
  refine va rfl rfl rfl (q_move (v := .slice Aa a.length ca) rfl (by kernel_rfl)) ?_
  refine va rfl rfl rfl (q_len_slice rfl Try.underlying56 rfl) ?_
  refine va rfl rfl rfl (q_lss rfl rfl rfl) ?_
  refine WR.nil ?_
  change WC _ _ _ _ _ _
  refine WC.cond (b := (decide (((i2 : Nat) : Int) < ((a.length : Nat) : Int)))) (by kernel_rfl) (fun hb6 => ?_) (fun hb6 => ?_)
  · skip
    have hl7 := ilt hb6
    have h := hlt4 hl7
    refine WC.skip ?_
    change WC _ _ _ _ _ _
    refine WC.seq ?_
    refine WC.block ?_
    refine WC.rs ?_
    refine va rfl rfl rfl (q_assign (v := .bool false) rfl (by kernel_rfl)) ?_
    refine WR.nil ?_
    change WC _ _ _ _ _ _
    refine WC.seq ?_
    refine WC.rs ?_
    refine va rfl rfl rfl (q_assign (v := .int .i64 0) rfl (by kernel_rfl)) ?_
    refine WR.nil ?_
    change WC _ _ _ _ _ _
    refine WC.block ?_
    refine WC.forI h (fun (i10 : Nat) (in_8 : Bool) σ w => slots σ [(0, .slice Aa a.length ca), (1, .slice Ab b.length cb), (5, .int .i64 ((i2 : Nat) : Int)), (6, .bool in_8), (7, .int .i64 ((i10 : Nat) : Int))] ∧ CC F Γ [] w ∧ True) ?_ ?_
    · skip
      intro w hw
      exact ⟨(sl_ (by kernel_rfl)), hw, trivial⟩
    rintro f9 i10 in_8 σ w hi11 hlt12 hge13 ⟨hsl, hw, -⟩
    refine Wpt.slots hsl ?_
    refine WC.here (C := CC F Γ []) ?_ hw
    clear hw hsl
    refine WC.seq ?_
    refine WC.rs ?_
    refine va rfl rfl rfl (q_move (v := .int .i64 ((i10 : Nat) : Int)) rfl (by kernel_rfl)) ?_
    refine va rfl rfl rfl (q_move (v := .slice Ab b.length cb) rfl (by kernel_rfl)) ?_
    refine va rfl rfl rfl (q_len_slice rfl Try.underlying56 rfl) ?_
    refine va rfl rfl rfl (q_lss rfl rfl rfl) ?_
    refine WR.nil ?_
    change WC _ _ _ _ _ _
    refine WC.cond (b := (decide (((i10 : Nat) : Int) < ((b.length : Nat) : Int)))) (by kernel_rfl) (fun hb14 => ?_) (fun hb14 => ?_)
    · skip
      have hl15 := ilt hb14
      have h := hlt12 hl15
      refine WC.skip ?_
      change WC _ _ _ _ _ _
      refine WC.seq ?_
      refine WC.block ?_
      refine WC.dr (by kernel_rfl) (by kernel_rfl) (fun w hw => hw.drawn _) ?_
      refine wa rfl rfl rfl (q_move (v := .bool in_8) rfl (by kernel_rfl)) ?_
      refine wa rfl rfl rfl (q_move (v := .bool in_8) rfl (by kernel_rfl)) ?_
      refine wg0 rfl rfl rfl rfl rfl (fun hg16 => QV.qo (q_move (v := .slice Aa a.length ca) rfl (by kernel_rfl))) ?_
      refine wg0 rfl rfl rfl rfl rfl (fun hg17 => QV.qo (q_move (v := .int .i64 ((i2 : Nat) : Int)) rfl (by kernel_rfl))) ?_
      refine wg0 rfl rfl rfl rfl rfl (fun hg18 => QV.qo (q_ixn (i := i2) Try.underlying56 Try.sizeOf106 rfl (gu hg18 rfl) (gu hg18 rfl) hl7 (ha.some_ hl7))) ?_
      refine wg0 rfl rfl rfl rfl rfl (fun hg19 => QV.qo (q_field_addr (i2 * 3) fld_106_0 rfl (gu hg19 rfl) (ha.some_ hl7) rfl)) ?_
      refine wg0 rfl rfl rfl rfl rfl (fun hg20 => QV.qo (q_ld (c := 0) (v := .int .i64 (gt a i2).s) (ha.spanT_at hl7).2 rfl Try.isAgg3 (gu hg20 rfl) rfl)) ?_
      refine wg0 rfl rfl rfl rfl rfl (fun hg21 => QV.qo (q_move (v := .slice Ab b.length cb) rfl (by kernel_rfl))) ?_
      refine wg0 rfl rfl rfl rfl rfl (fun hg22 => QV.qo (q_move (v := .int .i64 ((i10 : Nat) : Int)) rfl (by kernel_rfl))) ?_
      refine wg0 rfl rfl rfl rfl rfl (fun hg23 => QV.qo (q_ixn (i := i10) Try.underlying56 Try.sizeOf106 rfl (gu hg23 rfl) (gu hg23 rfl) hl15 (hb.some_ hl15))) ?_
      refine wg0 rfl rfl rfl rfl rfl (fun hg24 => QV.qo (q_field_addr (i10 * 3) fld_106_0 rfl (gu hg24 rfl) (hb.some_ hl15) rfl)) ?_
      refine wg0 rfl rfl rfl rfl rfl (fun hg25 => QV.qo (q_ld (c := 0) (v := .int .i64 (gt b i10).s) (hb.spanT_at hl15).2 rfl Try.isAgg3 (gu hg25 rfl) rfl)) ?_
      refine wg0 rfl rfl rfl rfl rfl (fun hg26 => QV.qo (q_eql rfl (gu hg26 rfl) (gu hg26 rfl))) ?_
      refine wg0 rfl rfl rfl rfl rfl (fun hg27 => QV.qo (q_move (v := .bool ((gt a i2).s == (gt b i10).s)) rfl (gu hg27 rfl))) ?_
      refine wh1 (c0 := (!in_8)) (g := ((gt a i2).s == (gt b i10).s)) rfl rfl rfl rfl rfl (fun hg28 => QV.qo (q_move (v := .slice Ab b.length cb) rfl (by kernel_rfl))) ?_
      refine wh1 (c0 := (!in_8)) (g := ((gt a i2).s == (gt b i10).s)) rfl rfl rfl rfl rfl (fun hg29 => QV.qo (q_move (v := .int .i64 ((i10 : Nat) : Int)) rfl (by kernel_rfl))) ?_
      refine wh1 (c0 := (!in_8)) (g := ((gt a i2).s == (gt b i10).s)) rfl rfl rfl rfl rfl (fun hg30 => QV.qo (q_ixn (i := i10) Try.underlying56 Try.sizeOf106 rfl (gu hg30 rfl) (gu hg30 rfl) hl15 (hb.some_ hl15))) ?_
      refine wh1 (c0 := (!in_8)) (g := ((gt a i2).s == (gt b i10).s)) rfl rfl rfl rfl rfl (fun hg31 => QV.qo (q_field_addr (i10 * 3 + 1) fld_106_1 rfl (gu hg31 rfl) (hb.some_ hl15) rfl)) ?_
      refine wh1 (c0 := (!in_8)) (g := ((gt a i2).s == (gt b i10).s)) rfl rfl rfl rfl rfl (fun hg32 => QV.qo (q_ld (c := 1) (v := .int .i64 (gt b i10).f) (hb.spanT_at hl15).2 rfl Try.isAgg2 (gu hg32 rfl) rfl)) ?_
      refine wh1 (c0 := (!in_8)) (g := ((gt a i2).s == (gt b i10).s)) rfl rfl rfl rfl rfl (fun hg33 => QV.qo (q_move (v := .slice Aa a.length ca) rfl (by kernel_rfl))) ?_
      refine wh1 (c0 := (!in_8)) (g := ((gt a i2).s == (gt b i10).s)) rfl rfl rfl rfl rfl (fun hg34 => QV.qo (q_move (v := .int .i64 ((i2 : Nat) : Int)) rfl (by kernel_rfl))) ?_
      refine wh1 (c0 := (!in_8)) (g := ((gt a i2).s == (gt b i10).s)) rfl rfl rfl rfl rfl (fun hg35 => QV.qo (q_ixn (i := i2) Try.underlying56 Try.sizeOf106 rfl (gu hg35 rfl) (gu hg35 rfl) hl7 (ha.some_ hl7))) ?_
      refine wh1 (c0 := (!in_8)) (g := ((gt a i2).s == (gt b i10).s)) rfl rfl rfl rfl rfl (fun hg36 => QV.qo (q_field_addr (i2 * 3 + 1) fld_106_1 rfl (gu hg36 rfl) (ha.some_ hl7) rfl)) ?_
      refine wh1 (c0 := (!in_8)) (g := ((gt a i2).s == (gt b i10).s)) rfl rfl rfl rfl rfl (fun hg37 => QV.qo (q_ld (c := 1) (v := .int .i64 (gt a i2).f) (ha.spanT_at hl7).2 rfl Try.isAgg2 (gu hg37 rfl) rfl)) ?_
      refine wh1 (c0 := (!in_8)) (g := ((gt a i2).s == (gt b i10).s)) rfl rfl rfl rfl rfl (fun hg38 => QV.qo (q_leq rfl (gu hg38 rfl) (gu hg38 rfl))) ?_
      refine wg0 rfl rfl rfl rfl rfl (fun hg39 => QV.qo (q_pick rfl (gu hg39 rfl) (pk_and (c := (!in_8)) (g := ((gt a i2).s == (gt b i10).s)) (y := (decide ((gt b i10).f ≤ (gt a i2).f))) hg39))) ?_
      refine wg0 rfl rfl rfl rfl rfl (fun hg40 => QV.qo (q_move (v := .bool (((gt a i2).s == (gt b i10).s) && (decide ((gt b i10).f ≤ (gt a i2).f)))) rfl (gu hg40 rfl))) ?_
      refine wh1 (c0 := (!in_8)) (g := (((gt a i2).s == (gt b i10).s) && (decide ((gt b i10).f ≤ (gt a i2).f)))) rfl rfl rfl rfl rfl (fun hg41 => QV.qo (q_move (v := .slice Aa a.length ca) rfl (by kernel_rfl))) ?_
      refine wh1 (c0 := (!in_8)) (g := (((gt a i2).s == (gt b i10).s) && (decide ((gt b i10).f ≤ (gt a i2).f)))) rfl rfl rfl rfl rfl (fun hg42 => QV.qo (q_move (v := .int .i64 ((i2 : Nat) : Int)) rfl (by kernel_rfl))) ?_
      refine wh1 (c0 := (!in_8)) (g := (((gt a i2).s == (gt b i10).s) && (decide ((gt b i10).f ≤ (gt a i2).f)))) rfl rfl rfl rfl rfl (fun hg43 => QV.qo (q_ixn (i := i2) Try.underlying56 Try.sizeOf106 rfl (gu hg43 rfl) (gu hg43 rfl) hl7 (ha.some_ hl7))) ?_
      refine wh1 (c0 := (!in_8)) (g := (((gt a i2).s == (gt b i10).s) && (decide ((gt b i10).f ≤ (gt a i2).f)))) rfl rfl rfl rfl rfl (fun hg44 => QV.qo (q_field_addr (i2 * 3 + 2) fld_106_2 rfl (gu hg44 rfl) (ha.some_ hl7) rfl)) ?_
      refine wh1 (c0 := (!in_8)) (g := (((gt a i2).s == (gt b i10).s) && (decide ((gt b i10).f ≤ (gt a i2).f)))) rfl rfl rfl rfl rfl (fun hg45 => QV.qo (q_ld (c := 2) (v := .int .i64 (gt a i2).t) (ha.spanT_at hl7).2 rfl Try.isAgg2 (gu hg45 rfl) rfl)) ?_
      refine wh1 (c0 := (!in_8)) (g := (((gt a i2).s == (gt b i10).s) && (decide ((gt b i10).f ≤ (gt a i2).f)))) rfl rfl rfl rfl rfl (fun hg46 => QV.qo (q_move (v := .slice Ab b.length cb) rfl (by kernel_rfl))) ?_
      refine wh1 (c0 := (!in_8)) (g := (((gt a i2).s == (gt b i10).s) && (decide ((gt b i10).f ≤ (gt a i2).f)))) rfl rfl rfl rfl rfl (fun hg47 => QV.qo (q_move (v := .int .i64 ((i10 : Nat) : Int)) rfl (by kernel_rfl))) ?_
      refine wh1 (c0 := (!in_8)) (g := (((gt a i2).s == (gt b i10).s) && (decide ((gt b i10).f ≤ (gt a i2).f)))) rfl rfl rfl rfl rfl (fun hg48 => QV.qo (q_ixn (i := i10) Try.underlying56 Try.sizeOf106 rfl (gu hg48 rfl) (gu hg48 rfl) hl15 (hb.some_ hl15))) ?_
      refine wh1 (c0 := (!in_8)) (g := (((gt a i2).s == (gt b i10).s) && (decide ((gt b i10).f ≤ (gt a i2).f)))) rfl rfl rfl rfl rfl (fun hg49 => QV.qo (q_field_addr (i10 * 3 + 2) fld_106_2 rfl (gu hg49 rfl) (hb.some_ hl15) rfl)) ?_
      refine wh1 (c0 := (!in_8)) (g := (((gt a i2).s == (gt b i10).s) && (decide ((gt b i10).f ≤ (gt a i2).f)))) rfl rfl rfl rfl rfl (fun hg50 => QV.qo (q_ld (c := 2) (v := .int .i64 (gt b i10).t) (hb.spanT_at hl15).2 rfl Try.isAgg2 (gu hg50 rfl) rfl)) ?_
      refine wh1 (c0 := (!in_8)) (g := (((gt a i2).s == (gt b i10).s) && (decide ((gt b i10).f ≤ (gt a i2).f)))) rfl rfl rfl rfl rfl (fun hg51 => QV.qo (q_leq rfl (gu hg51 rfl) (gu hg51 rfl))) ?_
      refine wg0 rfl rfl rfl rfl rfl (fun hg52 => QV.qo (q_pick rfl (gu hg52 rfl) (pk_and (c := (!in_8)) (g := (((gt a i2).s == (gt b i10).s) && (decide ((gt b i10).f ≤ (gt a i2).f)))) (y := (decide ((gt a i2).t ≤ (gt b i10).t))) hg52))) ?_
      refine wa rfl rfl rfl (q_pick rfl rfl (pk_or' (g := in_8) (y := ((((gt a i2).s == (gt b i10).s) && (decide ((gt b i10).f ≤ (gt a i2).f))) && (decide ((gt a i2).t ≤ (gt b i10).t)))))) ?_
      refine wa rfl rfl rfl (q_assign (v := .bool (in_8 || ((((gt a i2).s == (gt b i10).s) && (decide ((gt b i10).f ≤ (gt a i2).f))) && (decide ((gt a i2).t ≤ (gt b i10).t))))) rfl (by kernel_rfl)) ?_
      refine WQ.nil ?_
      change WC _ _ _ _ _ _
      refine WC.region ?_
      refine va rfl rfl rfl (q_move (v := .int .i64 ((i10 : Nat) : Int)) rfl (by kernel_rfl)) ?_
      refine va rfl rfl rfl (q_add_r (r := ((i10 + 1 : Nat) : Int)) rfl rfl rfl (ctr_len hl15 hb.le)) ?_
      refine va rfl rfl rfl (q_assign (v := .int .i64 ((i10 + 1 : Nat) : Int)) rfl (by kernel_rfl)) ?_
      refine WR.nil ?_
      intro w hw
      exact ⟨hl15, (in_8 || ((((gt a i2).s == (gt b i10).s) && (decide ((gt b i10).f ≤ (gt a i2).f))) && (decide ((gt a i2).t ≤ (gt b i10).t)))), h, (sl_ (by kernel_rfl)), hw, trivial⟩
    · skip
      have h := hge13 (ige hb14)
      refine WC.exit ?_
      change WC _ _ _ _ _ _
      refine WC.rs ?_
      refine va rfl rfl rfl (q_move (v := .bool in_8) rfl (by kernel_rfl)) ?_
      refine va rfl rfl rfl (q_not rfl rfl) ?_
      refine WR.nil ?_
      change WC _ _ _ _ _ _
      refine WC.cif h (by kernel_rfl) (fun hb53 h => ?_) (fun hb53 h => ?_)
      · skip
        refine WC.rs ?_
        refine va rfl rfl rfl (q_assign (v := .bool false) rfl (by kernel_rfl)) ?_
        refine WR.nil ?_
        change WC _ _ _ _ _ _
        refine WC.ret ?_
        intro w hw
        obtain rfl := Option.some.inj h
        subst hF
        exact ⟨by kernel_rfl, hw.fr⟩
      · skip
        refine WC.skip ?_
        change WC _ _ _ _ _ _
        refine WC.region ?_
        refine va rfl rfl rfl (q_move (v := .int .i64 ((i2 : Nat) : Int)) rfl (by kernel_rfl)) ?_
        refine va rfl rfl rfl (q_add_r (r := ((i2 + 1 : Nat) : Int)) rfl rfl rfl (ctr_len hl7 ha.le)) ?_
        refine va rfl rfl rfl (q_assign (v := .int .i64 ((i2 + 1 : Nat) : Int)) rfl (by kernel_rfl)) ?_
        refine WR.nil ?_
        intro w hw
        exact ⟨hl7, (), h, (sl_ (by kernel_rfl)), hw, trivial⟩
  · skip
    have h := hge5 (ige hb6)
    refine WC.exit ?_
    change WC _ _ _ _ _ _
    refine WC.rs ?_
    refine va rfl rfl rfl (q_assign (v := .bool true) rfl (by kernel_rfl)) ?_
    refine WR.nil ?_
    change WC _ _ _ _ _ _
    refine WC.ret ?_
    intro w hw
    obtain rfl := Option.some.inj h
    subst hF
    exact ⟨by kernel_rfl, hw.fr⟩
set_option maxRecDepth 100000 in
set_option maxHeartbeats 400000 in
theorem t_firthlaw16_written {Γ : Gh} {w0 : World} {Al : Option Addr} {cl : Nat} {l : List Dfirthlaw16_Reply} (hl : Sl dfirthlaw16_ReplyT Γ Al l) (hlc : l.length ≤ cl) (hs : Sat Γ w0) {r : Bool} (h : m_firthlaw16_written l = some r) : Calls Try.prog 28 #[.slice Al l.length cl] w0 (fun e w' => e = .returned (.bool r) ∧ Fr no w0 w') := by
  refine calls_of (N := 93) (rs := [2]) (args := [.slice Al l.length cl]) Try.func28 rfl Try.ntmps28 Try.results28 rfl ?_
  obtain ⟨F, hF⟩ : ∃ F : Fm, F = ⟨no, w0, Γ⟩ := ⟨_, rfl⟩
  refine WC.here (C := CC F Γ []) ?_ (hF ▸ Cur.start0 hs)
  refine WC.rs ?_
  refine va rfl rfl rfl (q_assign (v := .bool false) rfl (by kernel_rfl)) ?_
  refine WR.nil ?_
  change WC _ _ _ _ _ _
  refine WC.rs ?_
  refine va rfl rfl rfl (q_assign (v := .slice none 0 0) rfl (by kernel_rfl)) ?_
  refine WR.nil ?_
  change WC _ _ _ _ _ _
  refine WC.seq ?_
  refine WC.rs ?_
  refine va rfl rfl rfl (q_assign (v := .int .i64 0) rfl (by kernel_rfl)) ?_
  refine WR.nil ?_
  change WC _ _ _ _ _ _
  refine WC.block ?_
  refine WC.forI h (fun (i7 : Nat) (all_1 : List Ver) σ w => ∃ (A2 : Option Addr), ∃ (c3 : Nat), ∃ (row4 : Rowb), slots σ [(0, .slice Al l.length cl), (3, .slice A2 all_1.length c3), (4, .int .i64 ((i7 : Nat) : Int))] ∧ CC F Γ [row4] w ∧ Own verT Γ 58 row4 A2 c3 all_1 ∧ True) ?_ ?_
  · skip
    intro w hw
    have hw := hw.pad
    exact ⟨none, 0, [], (sl_ (by kernel_rfl)), hw, (Own.nil verT _ 58), trivial⟩
  rintro f6 i7 all_1 σ w hi8 hlt9 hge10 ⟨A2, c3, row4, hsl, hw, ho5, -⟩
  refine Wpt.slots hsl ?_
  refine WC.here (C := CC F Γ [row4]) ?_ hw
  clear hw hsl
  refine WC.seq ?_
  refine WC.rs ?_
  refine va rfl rfl rfl (q_move (v := .int .i64 ((i7 : Nat) : Int)) rfl (by kernel_rfl)) ?_
  refine va rfl rfl rfl (q_move (v := .slice Al l.length cl) rfl (by kernel_rfl)) ?_
  refine va rfl rfl rfl (q_len_slice rfl Try.underlying35 rfl) ?_
  refine va rfl rfl rfl (q_lss rfl rfl rfl) ?_
  refine WR.nil ?_
  change WC _ _ _ _ _ _
  refine WC.cond (b := (decide (((i7 : Nat) : Int) < ((l.length : Nat) : Int)))) (by kernel_rfl) (fun hb11 => ?_) (fun hb11 => ?_)
  · skip
    have hl12 := ilt hb11
    have h := hlt9 hl12
    refine WC.skip ?_
    change WC _ _ _ _ _ _
    refine WC.seq ?_
    refine WC.block ?_
    refine WC.region ?_
    refine va rfl rfl rfl (q_move (v := .slice A2 all_1.length c3) rfl (by kernel_rfl)) ?_
    refine va rfl rfl rfl (q_move (v := .slice Al l.length cl) rfl (by kernel_rfl)) ?_
    refine va rfl rfl rfl (q_move (v := .int .i64 ((i7 : Nat) : Int)) rfl (by kernel_rfl)) ?_
    refine va rfl rfl rfl (q_ixn (i := i7) Try.underlying35 Try.sizeOf43 rfl rfl rfl hl12 (hl.some_ hl12)) ?_
    refine va rfl rfl rfl (q_field_addr (i7 * 3 + 1) fld_43_1 rfl rfl (hl.some_ hl12) rfl) ?_
    obtain ⟨A13, c14, A15, c16, hx17⟩ := hl.dfirthlaw16_ReplyT_at i7
    refine va rfl rfl rfl (q_ld (c := 1) (v := .slice A13 ((gt l i7).vers).length c14) (hx17 hl12).2 rfl Try.isAgg40 rfl rfl) ?_
    obtain ⟨hk18, h⟩ := chk_some h
    refine e_append (T := verT) (xs := all_1) (ys := (gt l i7).vers) elem_40 (i := 0) rfl rfl rfl rfl rfl rfl rfl ho5 (of_decide_eq_true hk18) (fun w hw => src_sl (hx17 hl12).1.2.1.2 hw) ?_
    intro row19 A20 c21 ho22
    refine va rfl rfl rfl (q_assign (v := .slice A20 (all_1 ++ (gt l i7).vers).length c21) rfl (by kernel_rfl)) ?_
    refine WR.nil ?_
    change WC _ _ _ _ _ _
    refine WC.region ?_
    refine va rfl rfl rfl (q_move (v := .int .i64 ((i7 : Nat) : Int)) rfl (by kernel_rfl)) ?_
    refine va rfl rfl rfl (q_add_r (r := ((i7 + 1 : Nat) : Int)) rfl rfl rfl (ctr_len hl12 hl.le)) ?_
    refine va rfl rfl rfl (q_assign (v := .int .i64 ((i7 + 1 : Nat) : Int)) rfl (by kernel_rfl)) ?_
    refine WR.nil ?_
    intro w hw
    exact ⟨hl12, (all_1 ++ (gt l i7).vers), h, A20, c21, row19, (sl_ (by kernel_rfl)), hw, ho22, trivial⟩
  · skip
    have h := hge10 (ige hb11)
    refine WC.exit ?_
    change WC _ _ _ _ _ _
    refine WC.seq ?_
    refine WC.rs ?_
    refine va rfl rfl rfl (q_assign (v := .int .i64 0) rfl (by kernel_rfl)) ?_
    refine WR.nil ?_
    change WC _ _ _ _ _ _
    refine WC.block ?_
    have hc27 := ho5.capz
    intro w hw; obtain ⟨Γ23, hw, hl24, hr25⟩ := hw.seal (i := 0) rfl; have hs26 := ho5.sl hl24 hr25
    refine WC.here (C := CC F Γ23 [[]]) ?_ hw
    clear hw
    refine WC.forI h (fun (i29 : Nat) (s : Unit) σ w => match s with | () => slots σ [(3, .slice A2 all_1.length c3), (5, .int .i64 ((i29 : Nat) : Int))] ∧ CC F Γ23 [] w ∧ True) ?_ ?_
    · skip
      intro w hw
      exact ⟨(sl_ (by kernel_rfl)), (hw.only (is := []) rfl), trivial⟩
    rintro f28 i29 ⟨⟩ σ w hi30 hlt31 hge32 ⟨hsl, hw, -⟩
    refine Wpt.slots hsl ?_
    refine WC.here (C := CC F Γ23 []) ?_ hw
    clear hw hsl
    refine WC.seq ?_
    refine WC.rs ?_
    refine va rfl rfl rfl (q_move (v := .int .i64 ((i29 : Nat) : Int)) rfl (by kernel_rfl)) ?_
    refine va rfl rfl rfl (q_move (v := .slice A2 all_1.length c3) rfl (by kernel_rfl)) ?_
    refine va rfl rfl rfl (q_len_slice rfl Try.underlying40 rfl) ?_
    refine va rfl rfl rfl (q_lss rfl rfl rfl) ?_
    refine WR.nil ?_
    change WC _ _ _ _ _ _
    refine WC.cond (b := (decide (((i29 : Nat) : Int) < ((all_1.length : Nat) : Int)))) (by kernel_rfl) (fun hb33 => ?_) (fun hb33 => ?_)
    · skip
      have hl34 := ilt hb33
      have h := hlt31 hl34
      refine WC.skip ?_
      change WC _ _ _ _ _ _
      refine WC.seq ?_
      refine WC.block ?_
      refine WC.rs ?_
      refine va rfl rfl rfl (q_assign (v := .int .i64 0) rfl (by kernel_rfl)) ?_
      refine WR.nil ?_
      change WC _ _ _ _ _ _
      refine WC.block ?_
      refine WC.forI h (fun (i36 : Nat) (s : Unit) σ w => match s with | () => slots σ [(3, .slice A2 all_1.length c3), (5, .int .i64 ((i29 : Nat) : Int)), (6, .int .i64 ((i36 : Nat) : Int))] ∧ CC F Γ23 [] w ∧ True) ?_ ?_
      · skip
        intro w hw
        exact ⟨(sl_ (by kernel_rfl)), hw, trivial⟩
      rintro f35 i36 ⟨⟩ σ w hi37 hlt38 hge39 ⟨hsl, hw, -⟩
      refine Wpt.slots hsl ?_
      refine WC.here (C := CC F Γ23 []) ?_ hw
      clear hw hsl
      refine WC.seq ?_
      refine WC.rs ?_
      refine va rfl rfl rfl (q_move (v := .int .i64 ((i36 : Nat) : Int)) rfl (by kernel_rfl)) ?_
      refine va rfl rfl rfl (q_move (v := .slice A2 all_1.length c3) rfl (by kernel_rfl)) ?_
      refine va rfl rfl rfl (q_len_slice rfl Try.underlying40 rfl) ?_
      refine va rfl rfl rfl (q_lss rfl rfl rfl) ?_
      refine WR.nil ?_
      change WC _ _ _ _ _ _
      refine WC.cond (b := (decide (((i36 : Nat) : Int) < ((all_1.length : Nat) : Int)))) (by kernel_rfl) (fun hb40 => ?_) (fun hb40 => ?_)
      · skip
        have hl41 := ilt hb40
        have h := hlt38 hl41
        refine WC.skip ?_
        change WC _ _ _ _ _ _
        refine WC.seq ?_
        refine WC.block ?_
        refine WC.seq ?_
        refine WC.seq ?_
        refine WC.dr (by kernel_rfl) (by kernel_rfl) (fun w hw => hw.drawn _) ?_
        refine wa rfl rfl rfl (q_move (v := .slice A2 all_1.length c3) rfl (by kernel_rfl)) ?_
        refine wa rfl rfl rfl (q_move (v := .int .i64 ((i29 : Nat) : Int)) rfl (by kernel_rfl)) ?_
        refine wa rfl rfl rfl (q_ixn (i := i29) Try.underlying40 Try.sizeOf58 rfl rfl rfl hl34 (hs26.some_ hl34)) ?_
        refine wa rfl rfl rfl (q_field_addr (i29 * 5) fld_58_0 rfl rfl (hs26.some_ hl34) rfl) ?_
        obtain ⟨A42, c43, hx44⟩ := hs26.verT_at i29
        refine wa rfl rfl rfl (q_lda (c := 0) (vs := [.int .i64 (gt all_1 i29).dot.s, .int .i64 (gt all_1 i29).dot.n]) (hx44 hl34).2 rfl Try.isAgg55 Try.sizeOf55 rfl rfl rfl) ?_
        refine wa rfl rfl rfl (q_move (v := .slice A2 all_1.length c3) rfl (by kernel_rfl)) ?_
        refine wa rfl rfl rfl (q_move (v := .int .i64 ((i36 : Nat) : Int)) rfl (by kernel_rfl)) ?_
        refine wa rfl rfl rfl (q_ixn (i := i36) Try.underlying40 Try.sizeOf58 rfl rfl rfl hl41 (hs26.some_ hl41)) ?_
        refine wa rfl rfl rfl (q_field_addr (i36 * 5) fld_58_0 rfl rfl (hs26.some_ hl41) rfl) ?_
        obtain ⟨A45, c46, hx47⟩ := hs26.verT_at i36
        refine wa rfl rfl rfl (q_lda (c := 0) (vs := [.int .i64 (gt all_1 i36).dot.s, .int .i64 (gt all_1 i36).dot.n]) (hx47 hl41).2 rfl Try.isAgg55 Try.sizeOf55 rfl rfl rfl) ?_
        refine wa rfl rfl rfl (q_eql_Dot (a := (gt all_1 i29).dot) (b := (gt all_1 i36).dot) rfl rfl rfl) ?_
        refine wa rfl rfl rfl (q_move (v := .bool ((gt all_1 i29).dot == (gt all_1 i36).dot)) rfl (by kernel_rfl)) ?_
        refine wg1 rfl rfl rfl rfl rfl (fun hg48 => QV.qo (q_move (v := .slice A2 all_1.length c3) rfl (by kernel_rfl))) ?_
        refine wg1 rfl rfl rfl rfl rfl (fun hg49 => QV.qo (q_move (v := .int .i64 ((i29 : Nat) : Int)) rfl (by kernel_rfl))) ?_
        refine wg1 rfl rfl rfl rfl rfl (fun hg50 => QV.qo (q_ixn (i := i29) Try.underlying40 Try.sizeOf58 rfl (gu hg50 rfl) (gu hg50 rfl) hl34 (hs26.some_ hl34))) ?_
        refine wg1 rfl rfl rfl rfl rfl (fun hg51 => QV.qo (q_lda (c := 0) (vs := [.int .i64 (gt all_1 i29).dot.s, .int .i64 (gt all_1 i29).dot.n, .slice A42 ((gt all_1 i29).past).length c43, .bool (gt all_1 i29).gone, .string (gt all_1 i29).val]) (hx44 hl34).2 rfl Try.isAgg58 Try.sizeOf58 (gu hg51 rfl) rfl rfl)) ?_
        refine wg1 rfl rfl rfl rfl rfl (fun hg52 => QV.qo (q_move (v := .slice A2 all_1.length c3) rfl (by kernel_rfl))) ?_
        refine wg1 rfl rfl rfl rfl rfl (fun hg53 => QV.qo (q_move (v := .int .i64 ((i36 : Nat) : Int)) rfl (by kernel_rfl))) ?_
        refine wg1 rfl rfl rfl rfl rfl (fun hg54 => QV.qo (q_ixn (i := i36) Try.underlying40 Try.sizeOf58 rfl (gu hg54 rfl) (gu hg54 rfl) hl41 (hs26.some_ hl41))) ?_
        refine wg1 rfl rfl rfl rfl rfl (fun hg55 => QV.qo (q_lda (c := 0) (vs := [.int .i64 (gt all_1 i36).dot.s, .int .i64 (gt all_1 i36).dot.n, .slice A45 ((gt all_1 i36).past).length c46, .bool (gt all_1 i36).gone, .string (gt all_1 i36).val]) (hx47 hl41).2 rfl Try.isAgg58 Try.sizeOf58 (gu hg55 rfl) rfl rfl)) ?_
        obtain ⟨z57, hz58, h⟩ := bnd h
        refine wg1 rfl rfl rfl rfl rfl (fun hg56 => (q_call (call_run Try.call46 rfl rfl (args2 (gu hg56 rfl) (gu hg56 rfl))) (fun w hw => t_firthref05_SameOne (Γ := Gh.all w) (gt all_1 i29) (Ver.fits_mono (hx44 hl34).1 hw.sat.le_all) (gt all_1 i36) (Ver.fits_mono (hx47 hl41).1 hw.sat.le_all) (Sat.all w) (gc_of hz58 hg56)))) ?_
        refine wg1 rfl rfl rfl rfl rfl (fun hg59 => QV.qo (q_not rfl (gu hg59 rfl))) ?_
        refine wa rfl rfl rfl (q_pick rfl rfl (pk_and' (g := ((gt all_1 i29).dot == (gt all_1 i36).dot)) (y := (!z57)))) ?_
        refine WQ.nil ?_
        change WC _ _ _ _ _ _
        refine WC.cif h (by kernel_rfl) (fun hb60 h => ?_) (fun hb60 h => ?_)
        · skip
          refine WC.rs ?_
          refine va rfl rfl rfl (q_assign (v := .bool false) rfl (by kernel_rfl)) ?_
          refine WR.nil ?_
          change WC _ _ _ _ _ _
          refine WC.ret ?_
          intro w hw
          obtain rfl := Option.some.inj h
          subst hF
          exact ⟨by kernel_rfl, hw.fr⟩
        · skip
          refine WC.skip ?_
          change WC _ _ _ _ _ _
          refine WC.seq ?_
          refine WC.dr (by kernel_rfl) (by kernel_rfl) (fun w hw => hw.drawn _) ?_
          refine wa rfl rfl rfl (q_move (v := .slice A2 all_1.length c3) rfl (by kernel_rfl)) ?_
          refine wa rfl rfl rfl (q_move (v := .int .i64 ((i29 : Nat) : Int)) rfl (by kernel_rfl)) ?_
          refine wa rfl rfl rfl (q_move (v := .int .i64 ((i29 : Nat) : Int)) rfl (by kernel_rfl)) ?_
          refine wa rfl rfl rfl (q_add_r (r := ((i29 + 1 : Nat) : Int)) rfl rfl rfl (ctr_len hl34 hs26.le)) ?_
          obtain ⟨hk61, h⟩ := chk_some h
          refine wa rfl rfl rfl (q_cut (c := c3) (lo := i29) (hi := i29 + 1) (xs := all_1) Try.underlying40 Try.sizeOf58 rfl rfl rfl rfl (Nat.le_succ _) (of_decide_eq_true hk61) hc27) ?_
          refine wa rfl rfl rfl (q_move (v := .slice A2 all_1.length c3) rfl (by kernel_rfl)) ?_
          refine wa rfl rfl rfl (q_move (v := .int .i64 ((i36 : Nat) : Int)) rfl (by kernel_rfl)) ?_
          refine wa rfl rfl rfl (q_ixn (i := i36) Try.underlying40 Try.sizeOf58 rfl rfl rfl hl41 (hs26.some_ hl41)) ?_
          refine wa rfl rfl rfl (q_field_addr (i36 * 5) fld_58_0 rfl rfl (hs26.some_ hl41) rfl) ?_
          refine wa rfl rfl rfl (q_lda (c := 0) (vs := [.int .i64 (gt all_1 i36).dot.s, .int .i64 (gt all_1 i36).dot.n]) (hx47 hl41).2 rfl Try.isAgg55 Try.sizeOf55 rfl rfl rfl) ?_
          obtain ⟨z62, hz63, h⟩ := bnd h
          refine wc rfl rfl rfl (q_call (call_run Try.call32 rfl rfl (by kernel_rfl)) (fun w hw => t_firthref05_Behind (Γ := Gh.all w) ((hs26.cut (cap := c3) (lo := i29) (hi := i29 + 1) (Nat.le_succ _) (of_decide_eq_true hk61) hc27).mono hw.sat.le_all) (cut2_cap hc27 i29 (i29 + 1)) ((gt all_1 i36).dot) ⟨(hx47 hl41).1.1, (hx47 hl41).1.2.1⟩ (Sat.all w) hz63)) ?_
          refine wa rfl rfl rfl (q_move (v := .bool z62) rfl (by kernel_rfl)) ?_
          refine wg1 rfl rfl rfl rfl rfl (fun hg64 => QV.qo (q_move (v := .slice A2 all_1.length c3) rfl (by kernel_rfl))) ?_
          refine wg1 rfl rfl rfl rfl rfl (fun hg65 => QV.qo (q_move (v := .int .i64 ((i36 : Nat) : Int)) rfl (by kernel_rfl))) ?_
          refine wg1 rfl rfl rfl rfl rfl (fun hg66 => QV.qo (q_move (v := .int .i64 ((i36 : Nat) : Int)) rfl (by kernel_rfl))) ?_
          refine wg1 rfl rfl rfl rfl rfl (fun hg67 => QV.qo (q_add_r (r := ((i36 + 1 : Nat) : Int)) rfl (gu hg67 rfl) rfl (ctr_len hl41 hs26.le))) ?_
          obtain ⟨hk69, h⟩ := chk_some h
          refine wg1 rfl rfl rfl rfl rfl (fun hg68 => QV.qo (q_cut (c := c3) (lo := i36) (hi := i36 + 1) (xs := all_1) Try.underlying40 Try.sizeOf58 rfl (gu hg68 rfl) (gu hg68 rfl) (gu hg68 rfl) (Nat.le_succ _) (of_decide_eq_true (imp_of hk69 hg68)) hc27)) ?_
          refine wg1 rfl rfl rfl rfl rfl (fun hg70 => QV.qo (q_move (v := .slice A2 all_1.length c3) rfl (by kernel_rfl))) ?_
          refine wg1 rfl rfl rfl rfl rfl (fun hg71 => QV.qo (q_move (v := .int .i64 ((i29 : Nat) : Int)) rfl (by kernel_rfl))) ?_
          refine wg1 rfl rfl rfl rfl rfl (fun hg72 => QV.qo (q_ixn (i := i29) Try.underlying40 Try.sizeOf58 rfl (gu hg72 rfl) (gu hg72 rfl) hl34 (hs26.some_ hl34))) ?_
          refine wg1 rfl rfl rfl rfl rfl (fun hg73 => QV.qo (q_field_addr (i29 * 5) fld_58_0 rfl (gu hg73 rfl) (hs26.some_ hl34) rfl)) ?_
          refine wg1 rfl rfl rfl rfl rfl (fun hg74 => QV.qo (q_lda (c := 0) (vs := [.int .i64 (gt all_1 i29).dot.s, .int .i64 (gt all_1 i29).dot.n]) (hx44 hl34).2 rfl Try.isAgg55 Try.sizeOf55 (gu hg74 rfl) rfl rfl)) ?_
          obtain ⟨z76, hz77, h⟩ := bnd h
          refine wg1 rfl rfl rfl rfl rfl (fun hg75 => (q_call (call_run Try.call32 rfl rfl (args2 (gu hg75 rfl) (gu hg75 rfl))) (fun w hw => t_firthref05_Behind (Γ := Gh.all w) ((hs26.cut (cap := c3) (lo := i36) (hi := i36 + 1) (Nat.le_succ _) (of_decide_eq_true (imp_of hk69 hg75)) hc27).mono hw.sat.le_all) (cut2_cap hc27 i36 (i36 + 1)) ((gt all_1 i29).dot) ⟨(hx44 hl34).1.1, (hx44 hl34).1.2.1⟩ (Sat.all w) (gc_of hz77 hg75)))) ?_
          refine wg1 rfl rfl rfl rfl rfl (fun hg78 => QV.qo (q_move (v := .bool z76) rfl (gu hg78 rfl))) ?_
          refine wh0 (c0 := z62) (g := z76) rfl rfl rfl rfl rfl (fun hg79 => QV.qo (q_move (v := .slice A2 all_1.length c3) rfl (by kernel_rfl))) ?_
          refine wh0 (c0 := z62) (g := z76) rfl rfl rfl rfl rfl (fun hg80 => QV.qo (q_move (v := .int .i64 ((i36 : Nat) : Int)) rfl (by kernel_rfl))) ?_
          refine wh0 (c0 := z62) (g := z76) rfl rfl rfl rfl rfl (fun hg81 => QV.qo (q_ixn (i := i36) Try.underlying40 Try.sizeOf58 rfl (gu hg81 rfl) (gu hg81 rfl) hl41 (hs26.some_ hl41))) ?_
          refine wh0 (c0 := z62) (g := z76) rfl rfl rfl rfl rfl (fun hg82 => QV.qo (q_field_addr (i36 * 5 + 2) fld_58_1 rfl (gu hg82 rfl) (hs26.some_ hl41) rfl)) ?_
          refine wh0 (c0 := z62) (g := z76) rfl rfl rfl rfl rfl (fun hg83 => QV.qo (q_ld (c := 2) (v := .slice A45 ((gt all_1 i36).past).length c46) (hx47 hl41).2 rfl Try.isAgg56 (gu hg83 rfl) rfl)) ?_
          refine wh0 (c0 := z62) (g := z76) rfl rfl rfl rfl rfl (fun hg84 => QV.qo (q_move (v := .slice A2 all_1.length c3) rfl (by kernel_rfl))) ?_
          refine wh0 (c0 := z62) (g := z76) rfl rfl rfl rfl rfl (fun hg85 => QV.qo (q_move (v := .int .i64 ((i29 : Nat) : Int)) rfl (by kernel_rfl))) ?_
          refine wh0 (c0 := z62) (g := z76) rfl rfl rfl rfl rfl (fun hg86 => QV.qo (q_ixn (i := i29) Try.underlying40 Try.sizeOf58 rfl (gu hg86 rfl) (gu hg86 rfl) hl34 (hs26.some_ hl34))) ?_
          refine wh0 (c0 := z62) (g := z76) rfl rfl rfl rfl rfl (fun hg87 => QV.qo (q_field_addr (i29 * 5 + 2) fld_58_1 rfl (gu hg87 rfl) (hs26.some_ hl34) rfl)) ?_
          refine wh0 (c0 := z62) (g := z76) rfl rfl rfl rfl rfl (fun hg88 => QV.qo (q_ld (c := 2) (v := .slice A42 ((gt all_1 i29).past).length c43) (hx44 hl34).2 rfl Try.isAgg56 (gu hg88 rfl) rfl)) ?_
          obtain ⟨z90, hz91, h⟩ := bnd h
          refine wh0 (c0 := z62) (g := z76) rfl rfl rfl rfl rfl (fun hg89 => (q_call (call_run Try.call49 rfl rfl (args2 (gu hg89 rfl) (gu hg89 rfl))) (fun w hw => t_firthlaw16_under (Γ := Gh.all w) ((hx47 hl41).1.2.2.1.2.mono hw.sat.le_all) (hx47 hl41).1.2.2.1.1 ((hx44 hl34).1.2.2.1.2.mono hw.sat.le_all) (hx44 hl34).1.2.2.1.1 (Sat.all w) (gc_of hz91 hg89)))) ?_
          refine wh0 (c0 := z62) (g := z76) rfl rfl rfl rfl rfl (fun hg92 => QV.qo (q_not rfl (gu hg92 rfl))) ?_
          refine wg1 rfl rfl rfl rfl rfl (fun hg93 => QV.qo (q_pick rfl (gu hg93 rfl) (pk_or (c := z62) (g := z76) (y := (!z90)) hg93))) ?_
          refine wa rfl rfl rfl (q_pick rfl rfl (pk_and' (g := z62) (y := (z76 || (!z90))))) ?_
          refine WQ.nil ?_
          change WC _ _ _ _ _ _
          refine WC.cif h (by kernel_rfl) (fun hb94 h => ?_) (fun hb94 h => ?_)
          · skip
            refine WC.rs ?_
            refine va rfl rfl rfl (q_assign (v := .bool false) rfl (by kernel_rfl)) ?_
            refine WR.nil ?_
            change WC _ _ _ _ _ _
            refine WC.ret ?_
            intro w hw
            obtain rfl := Option.some.inj h
            subst hF
            exact ⟨by kernel_rfl, hw.fr⟩
          · skip
            refine WC.skip ?_
            change WC _ _ _ _ _ _
            refine WC.region ?_
            refine va rfl rfl rfl (q_move (v := .int .i64 ((i36 : Nat) : Int)) rfl (by kernel_rfl)) ?_
            refine va rfl rfl rfl (q_add_r (r := ((i36 + 1 : Nat) : Int)) rfl rfl rfl (ctr_len hl41 hs26.le)) ?_
            refine va rfl rfl rfl (q_assign (v := .int .i64 ((i36 + 1 : Nat) : Int)) rfl (by kernel_rfl)) ?_
            refine WR.nil ?_
            intro w hw
            exact ⟨hl41, (), h, (sl_ (by kernel_rfl)), hw, trivial⟩
      · skip
        have h := hge39 (ige hb40)
        refine WC.exit ?_
        change WC _ _ _ _ _ _
        refine WC.region ?_
        refine va rfl rfl rfl (q_move (v := .int .i64 ((i29 : Nat) : Int)) rfl (by kernel_rfl)) ?_
        refine va rfl rfl rfl (q_add_r (r := ((i29 + 1 : Nat) : Int)) rfl rfl rfl (ctr_len hl34 hs26.le)) ?_
        refine va rfl rfl rfl (q_assign (v := .int .i64 ((i29 + 1 : Nat) : Int)) rfl (by kernel_rfl)) ?_
        refine WR.nil ?_
        intro w hw
        exact ⟨hl34, (), h, (sl_ (by kernel_rfl)), hw, trivial⟩
    · skip
      have h := hge32 (ige hb33)
      refine WC.exit ?_
      change WC _ _ _ _ _ _
      refine WC.rs ?_
      refine va rfl rfl rfl (q_assign (v := .bool true) rfl (by kernel_rfl)) ?_
      refine WR.nil ?_
      change WC _ _ _ _ _ _
      refine WC.ret ?_
      intro w hw
      obtain rfl := Option.some.inj h
      subst hF
      exact ⟨by kernel_rfl, hw.fr⟩
set_option maxRecDepth 100000 in
set_option maxHeartbeats 400000 in
theorem t_firthlaw16_has {Γ : Gh} {w0 : World} {Al : Option Addr} {cl : Nat} {l : List Ver} (hl : Sl verT Γ Al l) (hlc : l.length ≤ cl) {Av_2 : Option Addr} {cv_2 : Nat} (v_ : Ver) (hv_ : Ver.fits Γ Av_2 cv_2 v_) (hs : Sat Γ w0) {r : Bool} (h : m_firthlaw16_has l v_ = some r) : Calls Try.prog 33 #[.slice Al l.length cl, .agg #[.int .i64 v_.dot.s, .int .i64 v_.dot.n, .slice Av_2 v_.past.length cv_2, .bool v_.gone, .string v_.val]] w0 (fun e w' => e = .returned (.bool r) ∧ Fr no w0 w') := by
  refine calls_of (N := 18) (rs := [4]) (args := [.slice Al l.length cl, .agg #[.int .i64 v_.dot.s, .int .i64 v_.dot.n, .slice Av_2 v_.past.length cv_2, .bool v_.gone, .string v_.val]]) Try.func33 rfl Try.ntmps33 Try.results33 rfl ?_
  obtain ⟨F, hF⟩ : ∃ F : Fm, F = ⟨no, w0, Γ⟩ := ⟨_, rfl⟩
  refine WC.here (C := CC F Γ []) ?_ (hF ▸ Cur.start0 hs)
  refine WC.rs ?_
  refine e_box (v := .agg #[.int .i64 v_.dot.s, .int .i64 v_.dot.n, .slice Av_2 v_.past.length cv_2, .bool v_.gone, .string v_.val]) rfl rfl rfl rfl (by kernel_rfl) ?_
  intro g1
  refine va rfl rfl rfl (q_assign (v := .bool false) rfl (by kernel_rfl)) ?_
  refine WR.nil ?_
  change WC _ _ _ _ _ _
  refine WC.seq ?_
  refine WC.rs ?_
  refine va rfl rfl rfl (q_assign (v := .int .i64 0) rfl (by kernel_rfl)) ?_
  refine WR.nil ?_
  change WC _ _ _ _ _ _
  refine WC.block ?_
  refine WC.forI h (fun (i3 : Nat) (s : Unit) σ w => match s with | () => slots σ [(0, .slice Al l.length cl), (3, .pointer (some ⟨g1, 0, none⟩)), (5, .int .i64 ((i3 : Nat) : Int))] ∧ CC F Γ [[(g1, .cells #[.int .i64 v_.dot.s, .int .i64 v_.dot.n, .slice Av_2 v_.past.length cv_2, .bool v_.gone, .string v_.val] 58 (0, 0))]] w ∧ True) ?_ ?_
  · skip
    intro w hw
    exact ⟨(sl_ (by kernel_rfl)), hw, trivial⟩
  rintro f2 i3 ⟨⟩ σ w hi4 hlt5 hge6 ⟨hsl, hw, -⟩
  refine Wpt.slots hsl ?_
  refine WC.here (C := CC F Γ [[(g1, .cells #[.int .i64 v_.dot.s, .int .i64 v_.dot.n, .slice Av_2 v_.past.length cv_2, .bool v_.gone, .string v_.val] 58 (0, 0))]]) ?_ hw
  clear hw hsl
  refine WC.seq ?_
  refine WC.rs ?_
  refine va rfl rfl rfl (q_move (v := .int .i64 ((i3 : Nat) : Int)) rfl (by kernel_rfl)) ?_
  refine va rfl rfl rfl (q_move (v := .slice Al l.length cl) rfl (by kernel_rfl)) ?_
  refine va rfl rfl rfl (q_len_slice rfl Try.underlying40 rfl) ?_
  refine va rfl rfl rfl (q_lss rfl rfl rfl) ?_
  refine WR.nil ?_
  change WC _ _ _ _ _ _
  refine WC.cond (b := (decide (((i3 : Nat) : Int) < ((l.length : Nat) : Int)))) (by kernel_rfl) (fun hb7 => ?_) (fun hb7 => ?_)
  · skip
    have hl8 := ilt hb7
    have h := hlt5 hl8
    refine WC.skip ?_
    change WC _ _ _ _ _ _
    refine WC.seq ?_
    refine WC.block ?_
    refine WC.seq ?_
    refine WC.dr (by kernel_rfl) (by kernel_rfl) (fun w hw => hw.drawn _) ?_
    refine wa rfl rfl rfl (q_move (v := .slice Al l.length cl) rfl (by kernel_rfl)) ?_
    refine wa rfl rfl rfl (q_move (v := .int .i64 ((i3 : Nat) : Int)) rfl (by kernel_rfl)) ?_
    refine wa rfl rfl rfl (q_ixn (i := i3) Try.underlying40 Try.sizeOf58 rfl rfl rfl hl8 (hl.some_ hl8)) ?_
    obtain ⟨A9, c10, hx11⟩ := hl.verT_at i3
    refine wa rfl rfl rfl (q_lda (c := 0) (vs := [.int .i64 (gt l i3).dot.s, .int .i64 (gt l i3).dot.n, .slice A9 ((gt l i3).past).length c10, .bool (gt l i3).gone, .string (gt l i3).val]) (hx11 hl8).2 rfl Try.isAgg58 Try.sizeOf58 rfl rfl rfl) ?_
    refine wa rfl rfl rfl (q_ldla (i := 0) (vs := [.int .i64 v_.dot.s, .int .i64 v_.dot.n, .slice Av_2 v_.past.length cv_2, .bool v_.gone, .string v_.val]) rfl rfl Try.isAgg58 Try.sizeOf58 rfl rfl) ?_
    obtain ⟨z12, hz13, h⟩ := bnd h
    refine wc rfl rfl rfl (q_call (call_run Try.call46 rfl rfl (by kernel_rfl)) (fun w hw => t_firthref05_SameOne (Γ := Gh.all w) (gt l i3) (Ver.fits_mono (hx11 hl8).1 hw.sat.le_all) v_ (Ver.fits_mono hv_ hw.sat.le_all) (Sat.all w) hz13)) ?_
    refine WQ.nil ?_
    change WC _ _ _ _ _ _
    refine WC.cif h (by kernel_rfl) (fun hb14 h => ?_) (fun hb14 h => ?_)
    · skip
      refine WC.rs ?_
      refine va rfl rfl rfl (q_assign (v := .bool true) rfl (by kernel_rfl)) ?_
      refine WR.nil ?_
      change WC _ _ _ _ _ _
      refine WC.ret ?_
      intro w hw
      obtain rfl := Option.some.inj h
      subst hF
      exact ⟨by kernel_rfl, hw.fr⟩
    · skip
      refine WC.skip ?_
      change WC _ _ _ _ _ _
      refine WC.region ?_
      refine va rfl rfl rfl (q_move (v := .int .i64 ((i3 : Nat) : Int)) rfl (by kernel_rfl)) ?_
      refine va rfl rfl rfl (q_add_r (r := ((i3 + 1 : Nat) : Int)) rfl rfl rfl (ctr_len hl8 hl.le)) ?_
      refine va rfl rfl rfl (q_assign (v := .int .i64 ((i3 + 1 : Nat) : Int)) rfl (by kernel_rfl)) ?_
      refine WR.nil ?_
      intro w hw
      exact ⟨hl8, (), h, (sl_ (by kernel_rfl)), hw, trivial⟩
  · skip
    have h := hge6 (ige hb7)
    refine WC.exit ?_
    change WC _ _ _ _ _ _
    refine WC.rs ?_
    refine va rfl rfl rfl (q_assign (v := .bool false) rfl (by kernel_rfl)) ?_
    refine WR.nil ?_
    change WC _ _ _ _ _ _
    refine WC.ret ?_
    intro w hw
    obtain rfl := Option.some.inj h
    subst hF
    exact ⟨by kernel_rfl, hw.fr⟩
end Fw
end Go.Proofs.Ytlbdlkgboliikaa
