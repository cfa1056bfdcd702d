/- Walks through the functions that the law reaches (printed by a program). No condition. -/
import Derived.Test.YtlgahohnbkkoiaaW1
namespace Go.Proofs.Ytlgahohnbkkoiaa
namespace Fw
set_option linter.unusedVariables false
set_option linter.unusedSimpArgs false
set_option linter.unusedSectionVars false
open Go.RowKit
set_option maxRecDepth 100000 in
set_option maxHeartbeats 400000 in
theorem t_firthref05_SameOne {Γ : Gh} {w0 : World} {Aa2 : Option Addr} {ca2 : Nat} (a : Ver) (ha : Ver.fits Γ Aa2 ca2 a) {Ab2 : Option Addr} {cb2 : Nat} (b : Ver) (hb : Ver.fits Γ Ab2 cb2 b) (hs : Sat Γ w0) {r : Bool} (h : m_firthref05_SameOne a b = some r) : Calls Try.prog 52 #[.agg #[.int .i64 a.dot.s, .int .i64 a.dot.n, .slice Aa2 a.past.length ca2, .bool a.gone, .string a.val], .agg #[.int .i64 b.dot.s, .int .i64 b.dot.n, .slice Ab2 b.past.length cb2, .bool b.gone, .string b.val]] w0 (fun e w' => e = .returned (.bool r) ∧ Fr no w0 w') := by
  refine calls_of (N := 31) (rs := [4]) (args := [.agg #[.int .i64 a.dot.s, .int .i64 a.dot.n, .slice Aa2 a.past.length ca2, .bool a.gone, .string a.val], .agg #[.int .i64 b.dot.s, .int .i64 b.dot.n, .slice Ab2 b.past.length cb2, .bool b.gone, .string b.val]]) Try.func52 rfl Try.ntmps52 Try.results52 rfl ?_
  obtain ⟨F, hF⟩ : ∃ F : Fm, F = ⟨no, w0, Γ⟩ := ⟨_, rfl⟩
  refine WC.here (C := CC F Γ []) ?_ (hF ▸ Cur.start0 hs)
  refine WC.rs ?_
  refine e_box (v := .agg #[.int .i64 a.dot.s, .int .i64 a.dot.n, .slice Aa2 a.past.length ca2, .bool a.gone, .string a.val]) rfl rfl rfl rfl (by kernel_rfl) ?_
  intro g1
  refine e_box (v := .agg #[.int .i64 b.dot.s, .int .i64 b.dot.n, .slice Ab2 b.past.length cb2, .bool b.gone, .string b.val]) rfl rfl rfl rfl (by kernel_rfl) ?_
  intro g2
  refine va rfl rfl rfl (q_assign (v := .bool false) rfl (by kernel_rfl)) ?_
  refine WR.nil ?_
  change WC _ _ _ _ _ _
  refine WC.rs ?_
  refine va rfl rfl rfl (q_fl 0 fld_58_0 rfl rfl rfl) ?_
  refine va rfl rfl rfl (q_ldla (i := 1) (vs := [.int .i64 a.dot.s, .int .i64 a.dot.n]) rfl rfl Try.isAgg55 Try.sizeOf55 rfl rfl) ?_
  refine va rfl rfl rfl (q_fl 0 fld_58_0 rfl rfl rfl) ?_
  refine va rfl rfl rfl (q_ldla (i := 0) (vs := [.int .i64 b.dot.s, .int .i64 b.dot.n]) rfl rfl Try.isAgg55 Try.sizeOf55 rfl rfl) ?_
  refine va rfl rfl rfl (q_eql_Dot (a := a.dot) (b := b.dot) rfl rfl rfl) ?_
  refine va rfl rfl rfl (q_move (v := .bool (a.dot == b.dot)) rfl (by kernel_rfl)) ?_
  refine vg1 rfl rfl rfl rfl rfl (fun hg3 => QV.qo (q_fl 3 fld_58_2 rfl rfl rfl)) ?_
  refine vg1 rfl rfl rfl rfl rfl (fun hg4 => QV.qo (q_ldl (i := 1) (v := .bool a.gone) rfl rfl Try.isAgg4 (gu hg4 rfl) rfl)) ?_
  refine vg1 rfl rfl rfl rfl rfl (fun hg5 => QV.qo (q_fl 3 fld_58_2 rfl rfl rfl)) ?_
  refine vg1 rfl rfl rfl rfl rfl (fun hg6 => QV.qo (q_ldl (i := 0) (v := .bool b.gone) rfl rfl Try.isAgg4 (gu hg6 rfl) rfl)) ?_
  refine vg1 rfl rfl rfl rfl rfl (fun hg7 => QV.qo (q_beql Try.underlying4 rfl (gu hg7 rfl) (gu hg7 rfl))) ?_
  refine va rfl rfl rfl (q_pick rfl rfl (pk_and' (g := (a.dot == b.dot)) (y := (a.gone == b.gone)))) ?_
  refine va rfl rfl rfl (q_move (v := .bool ((a.dot == b.dot) && (a.gone == b.gone))) rfl (by kernel_rfl)) ?_
  refine vg1 rfl rfl rfl rfl rfl (fun hg8 => QV.qo (q_fl 4 fld_58_3 rfl rfl rfl)) ?_
  refine vg1 rfl rfl rfl rfl rfl (fun hg9 => QV.qo (q_ldl (i := 1) (v := .string a.val) rfl rfl Try.isAgg9 (gu hg9 rfl) rfl)) ?_
  refine vg1 rfl rfl rfl rfl rfl (fun hg10 => QV.qo (q_fl 4 fld_58_3 rfl rfl rfl)) ?_
  refine vg1 rfl rfl rfl rfl rfl (fun hg11 => QV.qo (q_ldl (i := 0) (v := .string b.val) rfl rfl Try.isAgg9 (gu hg11 rfl) rfl)) ?_
  refine vg1 rfl rfl rfl rfl rfl (fun hg12 => QV.qo (q_seql rfl (gu hg12 rfl) (gu hg12 rfl))) ?_
  refine va rfl rfl rfl (q_pick rfl rfl (pk_and' (g := ((a.dot == b.dot) && (a.gone == b.gone))) (y := (a.val == b.val)))) ?_
  refine va rfl rfl rfl (q_move (v := .bool (((a.dot == b.dot) && (a.gone == b.gone)) && (a.val == b.val))) rfl (by kernel_rfl)) ?_
  refine vg1 rfl rfl rfl rfl rfl (fun hg13 => QV.qo (q_fl 2 fld_58_1 rfl rfl rfl)) ?_
  refine vg1 rfl rfl rfl rfl rfl (fun hg14 => QV.qo (q_ldl (i := 1) (v := .slice Aa2 a.past.length ca2) rfl rfl Try.isAgg56 (gu hg14 rfl) rfl)) ?_
  refine vg1 rfl rfl rfl rfl rfl (fun hg15 => QV.qo (q_fl 2 fld_58_1 rfl rfl rfl)) ?_
  refine vg1 rfl rfl rfl rfl rfl (fun hg16 => QV.qo (q_ldl (i := 0) (v := .slice Ab2 b.past.length cb2) rfl rfl Try.isAgg56 (gu hg16 rfl) rfl)) ?_
  obtain ⟨z18, hz19, h⟩ := bnd h
  refine vg1 rfl rfl rfl rfl rfl (fun hg17 => (q_call (call_run Try.call78 rfl rfl (args2 (gu hg17 rfl) (gu hg17 rfl))) (fun w hw => t_firthref03_Same (Γ := Gh.all w) (ha.2.2.1.2.mono hw.sat.le_all) ha.2.2.1.1 (hb.2.2.1.2.mono hw.sat.le_all) hb.2.2.1.1 (Sat.all w) (gc_of hz19 hg17)))) ?_
  refine va rfl rfl rfl (q_pick rfl rfl (pk_and' (g := (((a.dot == b.dot) && (a.gone == b.gone)) && (a.val == b.val))) (y := z18))) ?_
  refine va rfl rfl rfl (q_assign (v := .bool ((((a.dot == b.dot) && (a.gone == b.gone)) && (a.val == b.val)) && z18)) rfl (by kernel_rfl)) ?_
  refine WR.nil ?_
  change WC _ _ _ _ _ _
  refine WC.ret ?_
  intro w hw
  obtain rfl := Option.some.inj h
  subst hF
  exact ⟨by kernel_rfl, hw.fr⟩
set_option maxRecDepth 100000 in
set_option maxHeartbeats 400000 in
theorem t_firthref05_Same {Γ : Gh} {w0 : World} {Aa : Option Addr} {ca : Nat} {a : List Ver} (ha : Sl verT Γ Aa a) (hac : a.length ≤ ca) {Ab : Option Addr} {cb : Nat} {b : List Ver} (hb : Sl verT Γ Ab b) (hbc : b.length ≤ cb) (hs : Sat Γ w0) {r : Bool} (h : m_firthref05_Same a b = some r) : Calls Try.prog 24 #[.slice Aa a.length ca, .slice Ab b.length cb] w0 (fun e w' => e = .returned (.bool r) ∧ Fr no w0 w') := by
  refine calls_of (N := 27) (rs := [4]) (args := [.slice Aa a.length ca, .slice Ab b.length cb]) Try.func24 rfl Try.ntmps24 Try.results24 rfl ?_
  obtain ⟨F, hF⟩ : ∃ F : Fm, F = ⟨no, w0, Γ⟩ := ⟨_, rfl⟩
  refine WC.here (C := CC F Γ []) ?_ (hF ▸ Cur.start0 hs)
  refine WC.rs ?_
  refine va rfl rfl rfl (q_assign (v := .bool false) rfl (by kernel_rfl)) ?_
  refine WR.nil ?_
  change WC _ _ _ _ _ _
  refine WC.seq ?_
  refine WC.rs ?_
  refine va rfl rfl rfl (q_move (v := .slice Aa a.length ca) rfl (by kernel_rfl)) ?_
  refine va rfl rfl rfl (q_len_slice rfl Try.underlying40 rfl) ?_
  refine va rfl rfl rfl (q_move (v := .slice Ab b.length cb) rfl (by kernel_rfl)) ?_
  refine va rfl rfl rfl (q_len_slice rfl Try.underlying40 rfl) ?_
  refine va rfl rfl rfl (q_neq rfl rfl rfl) ?_
  refine WR.nil ?_
  change WC _ _ _ _ _ _
  refine WC.cif h (by kernel_rfl) (fun hb1 h => ?_) (fun hb1 h => ?_)
  · skip
    refine WC.rs ?_
    refine va rfl rfl rfl (q_assign (v := .bool false) rfl (by kernel_rfl)) ?_
    refine WR.nil ?_
    change WC _ _ _ _ _ _
    refine WC.ret ?_
    intro w hw
    obtain rfl := Option.some.inj h
    subst hF
    exact ⟨by kernel_rfl, hw.fr⟩
  · skip
    refine WC.skip ?_
    change WC _ _ _ _ _ _
    refine WC.seq ?_
    refine WC.rs ?_
    refine va rfl rfl rfl (q_assign (v := .int .i64 0) rfl (by kernel_rfl)) ?_
    refine WR.nil ?_
    change WC _ _ _ _ _ _
    refine WC.block ?_
    refine WC.forI h (fun (i3 : Nat) (s : Unit) σ w => match s with | () => slots σ [(0, .slice Aa a.length ca), (1, .slice Ab b.length cb), (5, .int .i64 ((i3 : Nat) : Int))] ∧ CC F Γ [] w ∧ True) ?_ ?_
    · skip
      intro w hw
      exact ⟨(sl_ (by kernel_rfl)), hw, trivial⟩
    rintro f2 i3 ⟨⟩ σ w hi4 hlt5 hge6 ⟨hsl, hw, -⟩
    refine Wpt.slots hsl ?_
    refine WC.here (C := CC F Γ []) ?_ hw
    clear hw hsl
    refine WC.seq ?_
    refine WC.rs ?_
    refine va rfl rfl rfl (q_move (v := .int .i64 ((i3 : Nat) : Int)) rfl (by kernel_rfl)) ?_
    refine va rfl rfl rfl (q_move (v := .slice Aa a.length ca) rfl (by kernel_rfl)) ?_
    refine va rfl rfl rfl (q_len_slice rfl Try.underlying40 rfl) ?_
    refine va rfl rfl rfl (q_lss rfl rfl rfl) ?_
    refine WR.nil ?_
    change WC _ _ _ _ _ _
    refine WC.cond (b := (decide (((i3 : Nat) : Int) < ((a.length : Nat) : Int)))) (by kernel_rfl) (fun hb7 => ?_) (fun hb7 => ?_)
    · skip
      have hl8 := ilt hb7
      have h := hlt5 hl8
      refine WC.skip ?_
      change WC _ _ _ _ _ _
      refine WC.seq ?_
      refine WC.block ?_
      refine WC.seq ?_
      refine WC.dr (by kernel_rfl) (by kernel_rfl) (fun w hw => hw.drawn _) ?_
      refine wa rfl rfl rfl (q_move (v := .slice Aa a.length ca) rfl (by kernel_rfl)) ?_
      refine wa rfl rfl rfl (q_move (v := .int .i64 ((i3 : Nat) : Int)) rfl (by kernel_rfl)) ?_
      refine wa rfl rfl rfl (q_ixn (i := i3) Try.underlying40 Try.sizeOf58 rfl rfl rfl hl8 (ha.some_ hl8)) ?_
      obtain ⟨A9, c10, hx11⟩ := ha.verT_at i3
      refine wa rfl rfl rfl (q_lda (c := 0) (vs := [.int .i64 (gt a i3).dot.s, .int .i64 (gt a i3).dot.n, .slice A9 ((gt a i3).past).length c10, .bool (gt a i3).gone, .string (gt a i3).val]) (hx11 hl8).2 rfl Try.isAgg58 Try.sizeOf58 rfl rfl rfl) ?_
      refine wa rfl rfl rfl (q_move (v := .slice Ab b.length cb) rfl (by kernel_rfl)) ?_
      refine wa rfl rfl rfl (q_move (v := .int .i64 ((i3 : Nat) : Int)) rfl (by kernel_rfl)) ?_
      obtain ⟨hk12, h⟩ := chk_some h
      refine wa rfl rfl rfl (q_ixn (i := i3) Try.underlying40 Try.sizeOf58 rfl rfl rfl (of_decide_eq_true hk12) (hb.some_ (of_decide_eq_true hk12))) ?_
      obtain ⟨A13, c14, hx15⟩ := hb.verT_at i3
      refine wa rfl rfl rfl (q_lda (c := 0) (vs := [.int .i64 (gt b i3).dot.s, .int .i64 (gt b i3).dot.n, .slice A13 ((gt b i3).past).length c14, .bool (gt b i3).gone, .string (gt b i3).val]) (hx15 (of_decide_eq_true hk12)).2 rfl Try.isAgg58 Try.sizeOf58 rfl rfl rfl) ?_
      obtain ⟨z16, hz17, h⟩ := bnd h
      refine wc rfl rfl rfl (q_call (call_run Try.call52 rfl rfl (by kernel_rfl)) (fun w hw => t_firthref05_SameOne (Γ := Gh.all w) (gt a i3) (Ver.fits_mono (hx11 hl8).1 hw.sat.le_all) (gt b i3) (Ver.fits_mono (hx15 (of_decide_eq_true hk12)).1 hw.sat.le_all) (Sat.all w) hz17)) ?_
      refine wa rfl rfl rfl (q_not rfl rfl) ?_
      refine WQ.nil ?_
      change WC _ _ _ _ _ _
      refine WC.cif h (by kernel_rfl) (fun hb18 h => ?_) (fun hb18 h => ?_)
      · skip
        refine WC.rs ?_
        refine va rfl rfl rfl (q_assign (v := .bool false) rfl (by kernel_rfl)) ?_
        refine WR.nil ?_
        change WC _ _ _ _ _ _
        refine WC.ret ?_
        intro w hw
        obtain rfl := Option.some.inj h
        subst hF
        exact ⟨by kernel_rfl, hw.fr⟩
      · skip
        refine WC.skip ?_
        change WC _ _ _ _ _ _
        refine WC.region ?_
        refine va rfl rfl rfl (q_move (v := .int .i64 ((i3 : Nat) : Int)) rfl (by kernel_rfl)) ?_
        refine va rfl rfl rfl (q_add_r (r := ((i3 + 1 : Nat) : Int)) rfl rfl rfl (ctr_len hl8 ha.le)) ?_
        refine va rfl rfl rfl (q_assign (v := .int .i64 ((i3 + 1 : Nat) : Int)) rfl (by kernel_rfl)) ?_
        refine WR.nil ?_
        intro w hw
        exact ⟨hl8, (), h, (sl_ (by kernel_rfl)), hw, trivial⟩
    · skip
      have h := hge6 (ige hb7)
      refine WC.exit ?_
      change WC _ _ _ _ _ _
      refine WC.rs ?_
      refine va rfl rfl rfl (q_assign (v := .bool true) rfl (by kernel_rfl)) ?_
      refine WR.nil ?_
      change WC _ _ _ _ _ _
      refine WC.ret ?_
      intro w hw
      obtain rfl := Option.some.inj h
      subst hF
      exact ⟨by kernel_rfl, hw.fr⟩
set_option maxRecDepth 100000 in
set_option maxHeartbeats 400000 in
theorem t_firthlaw16_awake {Γ : Gh} {w0 : World}  (hs : Sat Γ w0) {r : Bool} (h : m_firthlaw16_awake = some r) : Calls Try.prog 9 #[] w0 (fun e w' => e = .returned (.bool r) ∧ Fr no w0 w') := by
  refine calls_of (N := 98) (rs := [0]) (args := []) Try.func9 rfl Try.ntmps9 Try.results9 rfl ?_
  obtain ⟨F, hF⟩ : ∃ F : Fm, F = ⟨no, w0, Γ⟩ := ⟨_, rfl⟩
  refine WC.here (C := CC F Γ []) ?_ (hF ▸ Cur.start0 hs)
  refine WC.rs ?_
  refine va rfl rfl rfl (q_assign (v := .bool false) rfl (by kernel_rfl)) ?_
  refine WR.nil ?_
  change WC _ _ _ _ _ _
  refine WC.rs ?_
  refine e_buildSlice (cs := #[.int .i64 3, .int .i64 1, .int .i64 2]) (e := 3) rfl rfl rfl rfl (fun w => by kernel_rfl) ?_
  intro g1
  have ho2 : Own intT Γ 3 [(g1, .cells #[.int .i64 3, .int .i64 1, .int .i64 2] 3 (0, 0))] (some ⟨g1, 0, none⟩) 3 [3, 1, 2] := Own.of_blockL (T := intT) (ys := [3, 1, 2]) [[.int .i64 3], [.int .i64 1], [.int .i64 2]] rfl (show 3 ≤ lim by decide) (show Ty.rd intT Γ [.int .i64 3] 3 ∧ Ty.rd intT Γ [.int .i64 1] 1 ∧ Ty.rd intT Γ [.int .i64 2] 2 ∧ True from ⟨⟨rfl, (show I64 3 by decide)⟩, ⟨rfl, (show I64 1 by decide)⟩, ⟨rfl, (show I64 2 by decide)⟩, trivial⟩)
  have hc7 := ho2.capz
  intro w hw; obtain ⟨Γ3, hw, hl4, hr5⟩ := hw.seal (i := 0) rfl; have hs6 := ho2.sl hl4 hr5
  refine WR.here (C := CC F Γ3 [[]]) ?_ hw
  clear hw
  obtain ⟨z8, hz9, h⟩ := bnd h
  refine e_call (is := []) rfl rfl (call_run Try.call8 rfl rfl (by kernel_rfl)) rfl (fun w hp => t_quorum_NewWrite hs6 hc7 2 (show I64 2 by decide) hp hz9) ?_
  rintro Γ10 U12 v13 hl11 ⟨g14, row15, rfl, rfl, hr16, hr17, _⟩
  change WR _ _ _ (CC F Γ10 [row15, []]) _ _ (upd _ 10 (.tuple #[optp z8.1 g14, .int .i64 z8.2]))
  refine va rfl rfl rfl (q_move (v := .tuple #[optp z8.1 g14, .int .i64 z8.2]) rfl (by kernel_rfl)) ?_
  refine va rfl rfl rfl (q_extract (v := optp z8.1 g14) rfl rfl rfl) ?_
  refine va rfl rfl rfl (q_extract (v := .int .i64 z8.2) rfl rfl rfl) ?_
  refine va rfl rfl rfl (q_assign (v := optp z8.1 g14) rfl (by kernel_rfl)) ?_
  refine va rfl rfl rfl (q_assign (v := .int .i64 z8.2) rfl (by kernel_rfl)) ?_
  refine WR.nil ?_
  change WC _ _ _ _ _ _
  refine WC.seq ?_
  refine WC.rs ?_
  refine va rfl rfl rfl (q_move (v := optp z8.1 g14) rfl (by kernel_rfl)) ?_
  refine va rfl rfl rfl (q_opt_eql Try.underlying23 rfl rfl rfl) ?_
  refine va rfl rfl rfl (q_move (v := .bool (Option.isNone z8.1)) rfl (by kernel_rfl)) ?_
  refine vg0 rfl rfl rfl rfl rfl (fun hg18 => QV.qo (q_move (v := .int .i64 z8.2) rfl (by kernel_rfl))) ?_
  refine vg0 rfl rfl rfl rfl rfl (fun hg19 => QV.qo (q_neq rfl (gu hg19 rfl) rfl)) ?_
  refine va rfl rfl rfl (q_pick rfl rfl (pk_or' (g := (Option.isNone z8.1)) (y := (z8.2 != 0)))) ?_
  refine va rfl rfl rfl (q_move (v := .bool ((Option.isNone z8.1) || (z8.2 != 0))) rfl (by kernel_rfl)) ?_
  refine vg0 rfl rfl rfl rfl rfl (fun hg20 => QV.qo (q_move (v := optp z8.1 g14) rfl (by kernel_rfl))) ?_
  refine (Bool.eq_false_or_eq_true (!((Option.isNone z8.1) || (z8.2 != 0)))).elim (fun hb21 => ?_) (fun hb21 => ?_)
  · skip
    have h := bt hb21 h
    obtain ⟨z22, hz23, h⟩ := bnd h
    have ho24 := optob_some hr16 hz23
    refine WR.sat (c0 := true) (g := ((Option.isNone z8.1) || (z8.2 != 0))) rfl rfl rfl hb21 ?_
    obtain ⟨z25, hz26, h⟩ := bnd h
    refine e_call (is := [0]) rfl rfl (call_run Try.call12 rfl rfl (args2 (optp_some (gu hb21 rfl) hz23) rfl)) rfl (fun w hp => t_quorum_Write_Ack ho24 1 (show I64 1 by decide) hp hz26) ?_
    rintro Γ27 U29 v30 hl28 ⟨row31, rfl, rfl, hr32, _⟩
    change WR _ _ _ (CC F Γ27 [row31, []]) _ _ (upd _ 21 (.bool z25.2))
    refine WR.sat (c0 := true) (g := ((Option.isNone z8.1) || (z8.2 != 0))) rfl rfl rfl hb21 ?_
    refine va rfl rfl rfl (q_not rfl rfl) ?_
    refine va rfl rfl rfl (q_pick_f (v := .bool (!z25.2)) rfl rfl (not_t hb21) (by kernel_rfl)) ?_
    refine va rfl rfl rfl (q_move (v := .bool (!z25.2)) rfl (by kernel_rfl)) ?_
    refine vg0 rfl rfl rfl rfl rfl (fun hg33 => QV.qo (q_move (v := .pointer (some ⟨g14, 0, none⟩)) rfl (optp_some rfl hz23))) ?_
    refine (Bool.eq_false_or_eq_true (!(!z25.2))).elim (fun hb34 => ?_) (fun hb34 => ?_)
    · skip
      have h := bt hb34 h
      refine WR.sat (c0 := true) (g := (!z25.2)) rfl rfl rfl hb34 ?_
      obtain ⟨z35, hz36, h⟩ := bnd h
      refine e_call (is := [0]) rfl rfl (call_run Try.call12 rfl rfl (args2 (gu hb34 rfl) rfl)) rfl (fun w hp => t_quorum_Write_Ack hr32 1 (show I64 1 by decide) hp hz36) ?_
      rintro Γ37 U39 v40 hl38 ⟨row41, rfl, rfl, hr42, _⟩
      change WR _ _ _ (CC F Γ37 [row41, []]) _ _ (upd _ 26 (.bool z35.2))
      refine va rfl rfl rfl (q_pick_f (v := .bool z35.2) rfl rfl (not_t hb34) (by kernel_rfl)) ?_
      refine va rfl rfl rfl (q_move (v := .bool z35.2) rfl (by kernel_rfl)) ?_
      refine vg0 rfl rfl rfl rfl rfl (fun hg43 => QV.qo (q_move (v := .pointer (some ⟨g14, 0, none⟩)) rfl (optp_some rfl hz23))) ?_
      refine (Bool.eq_false_or_eq_true (!z35.2)).elim (fun hb44 => ?_) (fun hb44 => ?_)
      · skip
        have h := bt hb44 h
        refine WR.sat (c0 := true) (g := z35.2) rfl rfl rfl hb44 ?_
        obtain ⟨z45, hz46, h⟩ := bnd h
        refine e_call (is := [0]) rfl rfl (call_run Try.call12 rfl rfl (args2 (gu hb44 rfl) rfl)) rfl (fun w hp => t_quorum_Write_Ack hr42 4 (show I64 4 by decide) hp hz46) ?_
        rintro Γ47 U49 v50 hl48 ⟨row51, rfl, rfl, hr52, _⟩
        change WR _ _ _ (CC F Γ47 [row51, []]) _ _ (upd _ 30 (.bool z45.2))
        refine va rfl rfl rfl (q_pick_f (v := .bool z45.2) rfl rfl (not_t hb44) (by kernel_rfl)) ?_
        refine va rfl rfl rfl (q_move (v := .bool z45.2) rfl (by kernel_rfl)) ?_
        refine vg0 rfl rfl rfl rfl rfl (fun hg53 => QV.qo (q_move (v := .pointer (some ⟨g14, 0, none⟩)) rfl (optp_some rfl hz23))) ?_
        obtain ⟨z55, hz56, h⟩ := bnd h
        refine vg0 rfl rfl rfl rfl rfl (fun hg54 => (q_call (call_run Try.call14 rfl rfl (args1 (gu hg54 rfl))) (fun w hw => t_quorum_Write_Done (Γ := Gh.all w) (hr52.mono hw.sat.le_all) (hw.ra 0 rfl) (Sat.all w) (gc_of hz56 hg54)))) ?_
        refine va rfl rfl rfl (q_pick rfl rfl (pk_or' (g := z45.2) (y := z55))) ?_
        refine va rfl rfl rfl (q_move (v := .bool (z45.2 || z55)) rfl (by kernel_rfl)) ?_
        refine vg0 rfl rfl rfl rfl rfl (fun hg57 => QV.qo (q_move (v := .pointer (some ⟨g14, 0, none⟩)) rfl (optp_some rfl hz23))) ?_
        refine (Bool.eq_false_or_eq_true (!(z45.2 || z55))).elim (fun hb58 => ?_) (fun hb58 => ?_)
        · skip
          have h := bt hb58 h
          refine WR.sat (c0 := true) (g := (z45.2 || z55)) rfl rfl rfl hb58 ?_
          obtain ⟨z59, hz60, h⟩ := bnd h
          refine e_call (is := [0]) rfl rfl (call_run Try.call12 rfl rfl (args2 (gu hb58 rfl) rfl)) rfl (fun w hp => t_quorum_Write_Ack hr52 3 (show I64 3 by decide) hp hz60) ?_
          rintro Γ61 U63 v64 hl62 ⟨row65, rfl, rfl, hr66, _⟩
          change WR _ _ _ (CC F Γ61 [row65, []]) _ _ (upd _ 38 (.bool z59.2))
          refine WR.sat (c0 := true) (g := (z45.2 || z55)) rfl rfl rfl hb58 ?_
          refine va rfl rfl rfl (q_not rfl rfl) ?_
          refine va rfl rfl rfl (q_pick_f (v := .bool (!z59.2)) rfl rfl (not_t hb58) (by kernel_rfl)) ?_
          refine WR.nil ?_
          change WC _ _ _ _ _ _
          refine WC.cif h (by kernel_rfl) (fun hb67 h => ?_) (fun hb67 h => ?_)
          · skip
            refine WC.rs ?_
            refine va rfl rfl rfl (q_assign (v := .bool false) rfl (by kernel_rfl)) ?_
            refine WR.nil ?_
            change WC _ _ _ _ _ _
            refine WC.ret ?_
            intro w hw
            obtain rfl := Option.some.inj h
            subst hF
            exact ⟨by kernel_rfl, hw.fr⟩
          · skip
            refine WC.skip ?_
            change WC _ _ _ _ _ _
            refine WC.rs ?_
            refine va rfl rfl rfl (q_move (v := .pointer (some ⟨g14, 0, none⟩)) rfl (optp_some rfl hz23)) ?_
            obtain ⟨z68, hz69, h⟩ := bnd h
            refine e_call (is := [0]) rfl rfl (call_run Try.call17 rfl rfl (by kernel_rfl)) rfl (fun w hp => t_quorum_Write_Waits hr66 hp hz69) ?_
            rintro Γ70 U72 v73 hl71 ⟨A74, c75, row76, rfl, rfl, hr77, _⟩
            change WR _ _ _ (CC F Γ70 [row65, row76, []]) _ _ (upd _ 42 (.slice A74 z68.length c75))
            refine va rfl rfl rfl (q_assign (v := .slice A74 z68.length c75) rfl (by kernel_rfl)) ?_
            refine WR.nil ?_
            change WC _ _ _ _ _ _
            refine WC.rs ?_
            refine e_buildSlice (cs := #[.int .i64 1, .int .i64 2]) (e := 3) rfl rfl rfl rfl (fun w => by kernel_rfl) ?_
            intro g78
            have ho79 : Own intT Γ70 3 [(g78, .cells #[.int .i64 1, .int .i64 2] 3 (0, 0))] (some ⟨g78, 0, none⟩) 2 [1, 2] := Own.of_blockL (T := intT) (ys := [1, 2]) [[.int .i64 1], [.int .i64 2]] rfl (show 2 ≤ lim by decide) (show Ty.rd intT Γ70 [.int .i64 1] 1 ∧ Ty.rd intT Γ70 [.int .i64 2] 2 ∧ True from ⟨⟨rfl, (show I64 1 by decide)⟩, ⟨rfl, (show I64 2 by decide)⟩, trivial⟩)
            have hc84 := ho79.capz
            intro w hw; obtain ⟨Γ80, hw, hl81, hr82⟩ := hw.seal (i := 0) rfl; have hs83 := ho79.sl hl81 hr82
            refine WR.here (C := CC F Γ80 [[], row65, row76, []]) ?_ hw
            clear hw
            obtain ⟨z85, hz86, h⟩ := bnd h
            refine e_call (is := []) rfl rfl (call_run Try.call19 rfl rfl (by kernel_rfl)) rfl (fun w hp => t_quorum_NewRead hs83 hc84 2 (show I64 2 by decide) hp hz86) ?_
            rintro Γ87 U89 v90 hl88 ⟨g91, row92, rfl, rfl, hr93, hr94, _⟩
            change WR _ _ _ (CC F Γ87 [row92, [], row65, row76, []]) _ _ (upd _ 45 (.tuple #[optp z85.1 g91, .int .i64 z85.2]))
            refine va rfl rfl rfl (q_move (v := .tuple #[optp z85.1 g91, .int .i64 z85.2]) rfl (by kernel_rfl)) ?_
            refine va rfl rfl rfl (q_extract (v := optp z85.1 g91) rfl rfl rfl) ?_
            refine va rfl rfl rfl (q_extract (v := .int .i64 z85.2) rfl rfl rfl) ?_
            refine va rfl rfl rfl (q_assign (v := optp z85.1 g91) rfl (by kernel_rfl)) ?_
            refine va rfl rfl rfl (q_assign (v := .int .i64 z85.2) rfl (by kernel_rfl)) ?_
            refine WR.nil ?_
            change WC _ _ _ _ _ _
            refine WC.seq ?_
            refine WC.rs ?_
            refine va rfl rfl rfl (q_move (v := optp z85.1 g91) rfl (by kernel_rfl)) ?_
            refine va rfl rfl rfl (q_opt_eql Try.underlying36 rfl rfl rfl) ?_
            refine va rfl rfl rfl (q_move (v := .bool (Option.isNone z85.1)) rfl (by kernel_rfl)) ?_
            refine vg0 rfl rfl rfl rfl rfl (fun hg95 => QV.qo (q_move (v := .int .i64 z85.2) rfl (by kernel_rfl))) ?_
            refine vg0 rfl rfl rfl rfl rfl (fun hg96 => QV.qo (q_neq rfl (gu hg96 rfl) rfl)) ?_
            refine va rfl rfl rfl (q_pick rfl rfl (pk_or' (g := (Option.isNone z85.1)) (y := (z85.2 != 0)))) ?_
            refine WR.nil ?_
            change WC _ _ _ _ _ _
            refine WC.cif h (by kernel_rfl) (fun hb97 h => ?_) (fun hb97 h => ?_)
            · skip
              refine WC.rs ?_
              refine va rfl rfl rfl (q_assign (v := .bool false) rfl (by kernel_rfl)) ?_
              refine WR.nil ?_
              change WC _ _ _ _ _ _
              refine WC.ret ?_
              intro w hw
              obtain rfl := Option.some.inj h
              subst hF
              exact ⟨by kernel_rfl, hw.fr⟩
            · skip
              obtain ⟨z98, hz99, h⟩ := bnd h
              have ho100 := optob_some hr93 hz99
              refine WC.skip ?_
              change WC _ _ _ _ _ _
              refine WC.rs ?_
              refine va rfl rfl rfl (q_build' (v := .agg #[.int .i64 1, .int .i64 1]) rfl (bargs2 rfl rfl) (fun w => by kernel_rfl)) ?_
              refine va rfl rfl rfl (q_build' (v := .agg #[.int .i64 1, .int .i64 1, .slice none 0 0, .bool false, .string ByteArray.empty]) rfl (bargs1 rfl) (fun w => by kernel_rfl)) ?_
              refine e_buildSlice (cs := #[.int .i64 1, .int .i64 1, .slice none 0 0, .bool false, .string ByteArray.empty]) (e := 58) rfl rfl rfl rfl (fun w => by kernel_rfl) ?_
              intro g101
              refine va rfl rfl rfl (q_assign (v := .slice (some ⟨g101, 0, none⟩) 1 1) rfl (by kernel_rfl)) ?_
              refine WR.nil ?_
              change WC _ _ _ _ _ _
              refine WC.rs ?_
              refine va rfl rfl rfl (q_move (v := .pointer (some ⟨g91, 0, none⟩)) rfl (optp_some rfl hz99)) ?_
              refine va rfl rfl rfl (q_move (v := .slice (some ⟨g101, 0, none⟩) 1 1) rfl (by kernel_rfl)) ?_
              have ho102 : Own verT Γ87 58 [(g101, .cells #[.int .i64 1, .int .i64 1, .slice none 0 0, .bool false, .string ByteArray.empty] 58 (0, 0))] (some ⟨g101, 0, none⟩) 1 [(⟨(⟨1, 1⟩ : Dot), [], false, ByteArray.empty⟩ : Ver)] := Own.of_blockL (T := verT) (ys := [(⟨(⟨1, 1⟩ : Dot), [], false, ByteArray.empty⟩ : Ver)]) [[.int .i64 1, .int .i64 1, .slice none 0 0, .bool false, .string ByteArray.empty]] rfl (show 1 ≤ lim by decide) (show Ty.rd verT Γ87 [.int .i64 1, .int .i64 1, .slice none 0 0, .bool false, .string ByteArray.empty] (⟨(⟨1, 1⟩ : Dot), [], false, ByteArray.empty⟩ : Ver) ∧ True from ⟨⟨none, 0, rfl, ⟨(show I64 1 by decide), (show I64 1 by decide), ⟨Nat.zero_le _, Sl.nil _ _ _⟩, (show (ByteArray.empty : ByteArray).size ≤ lim by decide)⟩⟩, trivial⟩)
              have hc107 := ho102.capz
              intro w hw; obtain ⟨Γ103, hw, hl104, hr105⟩ := hw.seal (i := 0) rfl; have hs106 := ho102.sl hl104 hr105
              refine WR.here (C := CC F Γ103 [[], row92, [], row65, row76, []]) ?_ hw
              clear hw
              obtain ⟨z108, hz109, h⟩ := bnd h
              refine e_call (is := [1]) rfl rfl (call_run Try.call20 rfl rfl (by kernel_rfl)) rfl (fun w hp => t_quorum_Read_Got (ho100.mono hl104) 1 (show I64 1 by decide) hs106 hc107 hp hz109) ?_
              rintro Γ110 U112 v113 hl111 ⟨row114, rfl, rfl, hr115, _⟩
              change WR _ _ _ (CC F Γ110 [row114, [], [], row65, row76, []]) _ _ (upd _ 59 (.bool z108.2))
              refine WR.nil ?_
              change WC _ _ _ _ _ _
              refine WC.rs ?_
              refine va rfl rfl rfl (q_move (v := .pointer (some ⟨g91, 0, none⟩)) rfl (optp_some rfl hz99)) ?_
              obtain ⟨z116, hz117, h⟩ := bnd h
              refine e_call (is := [0]) rfl rfl (call_run Try.call20 rfl rfl (by kernel_rfl)) rfl (fun w hp => t_quorum_Read_Got hr115 2 (show I64 2 by decide) (Sl.nil verT _ none) (Nat.zero_le 0) hp hz117) ?_
              rintro Γ118 U120 v121 hl119 ⟨row122, rfl, rfl, hr123, _⟩
              change WR _ _ _ (CC F Γ118 [row122, [], [], row65, row76, []]) _ _ (upd _ 61 (.bool z116.2))
              refine WR.nil ?_
              change WC _ _ _ _ _ _
              refine WC.rs ?_
              refine va rfl rfl rfl (q_move (v := .pointer (some ⟨g91, 0, none⟩)) rfl (optp_some rfl hz99)) ?_
              obtain ⟨z124, hz125, h⟩ := bnd h
              refine e_call (is := [0]) rfl rfl (call_run Try.call27 rfl rfl (by kernel_rfl)) rfl (fun w hp => t_quorum_Read_Behind hr123 hp hz125) ?_
              rintro Γ126 U128 v129 hl127 ⟨A130, c131, row132, rfl, rfl, hr133, _⟩
              change WR _ _ _ (CC F Γ126 [row122, row132, [], [], row65, row76, []]) _ _ (upd _ 63 (.slice A130 z124.length c131))
              refine va rfl rfl rfl (q_assign (v := .slice A130 z124.length c131) rfl (by kernel_rfl)) ?_
              refine WR.nil ?_
              change WC _ _ _ _ _ _
              refine WC.rs ?_
              refine va rfl rfl rfl (q_move (v := .pointer (some ⟨g14, 0, none⟩)) rfl (optp_some rfl hz23)) ?_
              obtain ⟨z134, hz135, h⟩ := bnd h
              refine vc rfl rfl rfl (q_call (call_run Try.call14 rfl rfl (by kernel_rfl)) (fun w hw => t_quorum_Write_Done (Γ := Gh.all w) ((hr66.mono ((((((hl71.trans hl81).trans hl88).trans hl104).trans hl111).trans hl119).trans hl127)).mono hw.sat.le_all) (hw.ra 4 rfl) (Sat.all w) hz135)) ?_
              refine va rfl rfl rfl (q_move (v := .bool z134) rfl (by kernel_rfl)) ?_
              refine vg1 rfl rfl rfl rfl rfl (fun hg136 => QV.qo (q_move (v := .slice A74 z68.length c75) rfl (by kernel_rfl))) ?_
              refine vg1 rfl rfl rfl rfl rfl (fun hg137 => QV.qo (q_len_slice rfl Try.underlying22 (gu hg137 rfl))) ?_
              refine vg1 rfl rfl rfl rfl rfl (fun hg138 => QV.qo (q_eql rfl (gu hg138 rfl) rfl)) ?_
              refine va rfl rfl rfl (q_pick rfl rfl (pk_and' (g := z134) (y := (((z68.length : Nat) : Int) == 1)))) ?_
              refine va rfl rfl rfl (q_move (v := .bool (z134 && (((z68.length : Nat) : Int) == 1))) rfl (by kernel_rfl)) ?_
              refine vg1 rfl rfl rfl rfl rfl (fun hg139 => QV.qo (q_move (v := .slice A74 z68.length c75) rfl (by kernel_rfl))) ?_
              obtain ⟨hk141, h⟩ := chk_some h
              refine vg1 rfl rfl rfl rfl rfl (fun hg140 => QV.qo (q_ixn (i := 0) Try.underlying22 Try.sizeOf3 rfl (gu hg140 rfl) rfl (of_decide_eq_true (imp_of hk141 hg140)) ((hr77.mono (((((hl81.trans hl88).trans hl104).trans hl111).trans hl119).trans hl127)).some_ (of_decide_eq_true (imp_of hk141 hg140))))) ?_
              refine vg1 rfl rfl rfl rfl rfl (fun hg142 => QV.qo (q_ldo (c := 0) (v := .int .i64 (gt z68 0)) (i := 5) rfl ((hr77.mono (((((hl81.trans hl88).trans hl104).trans hl111).trans hl119).trans hl127)).intT_at (of_decide_eq_true (imp_of hk141 hg142))).2 rfl Try.isAgg3 (gu hg142 rfl) rfl)) ?_
              refine vg1 rfl rfl rfl rfl rfl (fun hg143 => QV.qo (q_eql rfl (gu hg143 rfl) rfl)) ?_
              refine va rfl rfl rfl (q_pick rfl rfl (pk_and' (g := (z134 && (((z68.length : Nat) : Int) == 1))) (y := ((gt z68 0) == 2)))) ?_
              refine va rfl rfl rfl (q_move (v := .bool ((z134 && (((z68.length : Nat) : Int) == 1)) && ((gt z68 0) == 2))) rfl (by kernel_rfl)) ?_
              refine vg1 rfl rfl rfl rfl rfl (fun hg144 => QV.qo (q_move (v := .pointer (some ⟨g91, 0, none⟩)) rfl (optp_some rfl hz99))) ?_
              obtain ⟨z146, hz147, h⟩ := bnd h
              refine vg1 rfl rfl rfl rfl rfl (fun hg145 => (q_call (call_run Try.call22 rfl rfl (args1 (gu hg145 rfl))) (fun w hw => t_quorum_Read_Done (Γ := Gh.all w) ((hr123.mono hl127).mono hw.sat.le_all) (hw.ra 0 rfl) (Sat.all w) (gc_of hz147 hg145)))) ?_
              refine va rfl rfl rfl (q_pick rfl rfl (pk_and' (g := ((z134 && (((z68.length : Nat) : Int) == 1)) && ((gt z68 0) == 2))) (y := z146))) ?_
              refine va rfl rfl rfl (q_move (v := .bool (((z134 && (((z68.length : Nat) : Int) == 1)) && ((gt z68 0) == 2)) && z146)) rfl (by kernel_rfl)) ?_
              refine vg1 rfl rfl rfl rfl rfl (fun hg148 => QV.qo (q_move (v := .pointer (some ⟨g91, 0, none⟩)) rfl (optp_some rfl hz99))) ?_
              refine (Bool.eq_false_or_eq_true (((z134 && (((z68.length : Nat) : Int) == 1)) && ((gt z68 0) == 2)) && z146)).elim (fun hb149 => ?_) (fun hb149 => ?_)
              · skip
                have h := bt hb149 h
                refine WR.sat (c0 := true) (g := (((z134 && (((z68.length : Nat) : Int) == 1)) && ((gt z68 0) == 2)) && z146)) rfl rfl rfl hb149 ?_
                obtain ⟨z150, hz151, h⟩ := bnd h
                refine e_call (is := [0]) rfl rfl (call_run Try.call25 rfl rfl (args1 (gu hb149 rfl))) rfl (fun w hp => t_quorum_Read_Vers (hr123.mono hl127) hp hz151) ?_
                rintro Γ152 U154 v155 hl153 ⟨A156, c157, rfl, rfl, hc159, hr158, _⟩
                change WR _ _ _ (CC F Γ152 [row122, row132, [], [], row65, row76, []]) _ _ (upd _ 83 (.slice A156 z150.length c157))
                refine WR.sat (c0 := true) (g := (((z134 && (((z68.length : Nat) : Int) == 1)) && ((gt z68 0) == 2)) && z146)) rfl rfl rfl hb149 ?_
                refine va rfl rfl rfl (q_move (v := .slice (some ⟨g101, 0, none⟩) [(⟨(⟨1, 1⟩ : Dot), [], false, ByteArray.empty⟩ : Ver)].length 1) rfl (by kernel_rfl)) ?_
                refine WR.sat (c0 := true) (g := (((z134 && (((z68.length : Nat) : Int) == 1)) && ((gt z68 0) == 2)) && z146)) rfl rfl rfl hb149 ?_
                obtain ⟨z160, hz161, h⟩ := bnd h
                refine vc rfl rfl rfl (q_call (call_run Try.call24 rfl rfl (by kernel_rfl)) (fun w hw => t_firthref05_Same (Γ := Gh.all w) (hr158.mono hw.sat.le_all) hc159 ((hs106.mono (((hl111.trans hl119).trans hl127).trans hl153)).mono hw.sat.le_all) hc107 (Sat.all w) hz161)) ?_
                refine va rfl rfl rfl (q_pick_t (v := .bool z160) rfl rfl hb149 (by kernel_rfl)) ?_
                refine va rfl rfl rfl (q_move (v := .bool z160) rfl (by kernel_rfl)) ?_
                refine vg1 rfl rfl rfl rfl rfl (fun hg162 => QV.qo (q_move (v := .slice A130 z124.length c131) rfl (by kernel_rfl))) ?_
                refine vg1 rfl rfl rfl rfl rfl (fun hg163 => QV.qo (q_len_slice rfl Try.underlying22 (gu hg163 rfl))) ?_
                refine vg1 rfl rfl rfl rfl rfl (fun hg164 => QV.qo (q_eql rfl (gu hg164 rfl) rfl)) ?_
                refine va rfl rfl rfl (q_pick rfl rfl (pk_and' (g := z160) (y := (((z124.length : Nat) : Int) == 1)))) ?_
                refine va rfl rfl rfl (q_move (v := .bool (z160 && (((z124.length : Nat) : Int) == 1))) rfl (by kernel_rfl)) ?_
                refine vg1 rfl rfl rfl rfl rfl (fun hg165 => QV.qo (q_move (v := .slice A130 z124.length c131) rfl (by kernel_rfl))) ?_
                obtain ⟨hk167, h⟩ := chk_some h
                refine vg1 rfl rfl rfl rfl rfl (fun hg166 => QV.qo (q_ixn (i := 0) Try.underlying22 Try.sizeOf3 rfl (gu hg166 rfl) rfl (of_decide_eq_true (imp_of hk167 hg166)) ((hr133.mono hl153).some_ (of_decide_eq_true (imp_of hk167 hg166))))) ?_
                refine vg1 rfl rfl rfl rfl rfl (fun hg168 => QV.qo (q_ldo (c := 0) (v := .int .i64 (gt z124 0)) (i := 1) rfl ((hr133.mono hl153).intT_at (of_decide_eq_true (imp_of hk167 hg168))).2 rfl Try.isAgg3 (gu hg168 rfl) rfl)) ?_
                refine vg1 rfl rfl rfl rfl rfl (fun hg169 => QV.qo (q_eql rfl (gu hg169 rfl) rfl)) ?_
                refine va rfl rfl rfl (q_pick rfl rfl (pk_and' (g := (z160 && (((z124.length : Nat) : Int) == 1))) (y := ((gt z124 0) == 2)))) ?_
                refine va rfl rfl rfl (q_assign (v := .bool ((z160 && (((z124.length : Nat) : Int) == 1)) && ((gt z124 0) == 2))) rfl (by kernel_rfl)) ?_
                refine WR.nil ?_
                change WC _ _ _ _ _ _
                refine WC.ret ?_
                intro w hw
                obtain rfl := Option.some.inj h
                subst hF
                exact ⟨by kernel_rfl, hw.fr⟩
              · skip
                have h := bf hb149 h
                refine WR.unsat (c0 := true) (g := (((z134 && (((z68.length : Nat) : Int) == 1)) && ((gt z68 0) == 2)) && z146)) rfl rfl rfl hb149 rfl ?_
                refine WR.unsat (c0 := true) (g := (((z134 && (((z68.length : Nat) : Int) == 1)) && ((gt z68 0) == 2)) && z146)) rfl rfl rfl hb149 rfl ?_
                refine WR.unsat (c0 := true) (g := (((z134 && (((z68.length : Nat) : Int) == 1)) && ((gt z68 0) == 2)) && z146)) rfl rfl rfl hb149 rfl ?_
                refine va rfl rfl rfl (q_pick_f (v := .bool false) rfl rfl hb149 (by kernel_rfl)) ?_
                refine va rfl rfl rfl (q_move (v := .bool false) rfl (by kernel_rfl)) ?_
                refine WR.unsat (c0 := true) (g := false) rfl rfl rfl rfl rfl ?_
                refine WR.unsat (c0 := true) (g := false) rfl rfl rfl rfl rfl ?_
                refine WR.unsat (c0 := true) (g := false) rfl rfl rfl rfl rfl ?_
                refine va rfl rfl rfl (q_pickf (v := .bool false) rfl rfl rfl) ?_
                refine va rfl rfl rfl (q_move (v := .bool false) rfl (by kernel_rfl)) ?_
                refine WR.unsat (c0 := true) (g := false) rfl rfl rfl rfl rfl ?_
                refine WR.unsat (c0 := true) (g := false) rfl rfl rfl rfl rfl ?_
                refine WR.unsat (c0 := true) (g := false) rfl rfl rfl rfl rfl ?_
                refine WR.unsat (c0 := true) (g := false) rfl rfl rfl rfl rfl ?_
                refine va rfl rfl rfl (q_pickf (v := .bool false) rfl rfl rfl) ?_
                refine va rfl rfl rfl (q_assign (v := .bool false) rfl (by kernel_rfl)) ?_
                refine WR.nil ?_
                change WC _ _ _ _ _ _
                refine WC.ret ?_
                intro w hw
                obtain rfl := Option.some.inj h
                subst hF
                exact ⟨by kernel_rfl, hw.fr⟩
        · skip
          have h := bf hb58 h
          refine WR.unsat (c0 := true) (g := (z45.2 || z55)) rfl rfl rfl hb58 rfl ?_
          refine WR.unsat (c0 := true) (g := (z45.2 || z55)) rfl rfl rfl hb58 rfl ?_
          refine va rfl rfl rfl (q_pick_t (v := .bool true) rfl rfl (not_f hb58) (by kernel_rfl)) ?_
          refine WR.nil ?_
          change WC _ _ _ _ _ _
          refine WC.ctk (b := true) (by kernel_rfl) rfl ?_
          refine WC.rs ?_
          refine va rfl rfl rfl (q_assign (v := .bool false) rfl (by kernel_rfl)) ?_
          refine WR.nil ?_
          change WC _ _ _ _ _ _
          refine WC.ret ?_
          intro w hw
          obtain rfl := Option.some.inj h
          subst hF
          exact ⟨by kernel_rfl, hw.fr⟩
      · skip
        have h := bf hb44 h
        refine WR.unsat (c0 := true) (g := z35.2) rfl rfl rfl hb44 rfl ?_
        refine va rfl rfl rfl (q_pick_t (v := .bool true) rfl rfl (not_f hb44) (by kernel_rfl)) ?_
        refine va rfl rfl rfl (q_move (v := .bool true) rfl (by kernel_rfl)) ?_
        refine WR.unsat (c0 := true) (g := true) rfl rfl rfl (nott rfl) rfl ?_
        refine WR.unsat (c0 := true) (g := true) rfl rfl rfl (nott rfl) rfl ?_
        refine va rfl rfl rfl (q_pickt (v := .bool true) rfl rfl rfl) ?_
        refine va rfl rfl rfl (q_move (v := .bool true) rfl (by kernel_rfl)) ?_
        refine WR.unsat (c0 := true) (g := true) rfl rfl rfl (nott rfl) rfl ?_
        refine WR.unsat (c0 := true) (g := true) rfl rfl rfl (nott rfl) rfl ?_
        refine WR.unsat (c0 := true) (g := true) rfl rfl rfl (nott rfl) rfl ?_
        refine va rfl rfl rfl (q_pickt (v := .bool true) rfl rfl rfl) ?_
        refine WR.nil ?_
        change WC _ _ _ _ _ _
        refine WC.ctk (b := true) (by kernel_rfl) rfl ?_
        refine WC.rs ?_
        refine va rfl rfl rfl (q_assign (v := .bool false) rfl (by kernel_rfl)) ?_
        refine WR.nil ?_
        change WC _ _ _ _ _ _
        refine WC.ret ?_
        intro w hw
        obtain rfl := Option.some.inj h
        subst hF
        exact ⟨by kernel_rfl, hw.fr⟩
    · skip
      have h := bf hb34 h
      refine WR.unsat (c0 := true) (g := (!z25.2)) rfl rfl rfl hb34 rfl ?_
      refine va rfl rfl rfl (q_pick_t (v := .bool true) rfl rfl (not_f hb34) (by kernel_rfl)) ?_
      refine va rfl rfl rfl (q_move (v := .bool true) rfl (by kernel_rfl)) ?_
      refine WR.unsat (c0 := true) (g := true) rfl rfl rfl (nott rfl) rfl ?_
      refine WR.unsat (c0 := true) (g := true) rfl rfl rfl (nott rfl) rfl ?_
      refine va rfl rfl rfl (q_pickt (v := .bool true) rfl rfl rfl) ?_
      refine va rfl rfl rfl (q_move (v := .bool true) rfl (by kernel_rfl)) ?_
      refine WR.unsat (c0 := true) (g := true) rfl rfl rfl (nott rfl) rfl ?_
      refine WR.unsat (c0 := true) (g := true) rfl rfl rfl (nott rfl) rfl ?_
      refine va rfl rfl rfl (q_pickt (v := .bool true) rfl rfl rfl) ?_
      refine va rfl rfl rfl (q_move (v := .bool true) rfl (by kernel_rfl)) ?_
      refine WR.unsat (c0 := true) (g := true) rfl rfl rfl (nott rfl) rfl ?_
      refine WR.unsat (c0 := true) (g := true) rfl rfl rfl (nott rfl) rfl ?_
      refine WR.unsat (c0 := true) (g := true) rfl rfl rfl (nott rfl) rfl ?_
      refine va rfl rfl rfl (q_pickt (v := .bool true) rfl rfl rfl) ?_
      refine WR.nil ?_
      change WC _ _ _ _ _ _
      refine WC.ctk (b := true) (by kernel_rfl) rfl ?_
      refine WC.rs ?_
      refine va rfl rfl rfl (q_assign (v := .bool false) rfl (by kernel_rfl)) ?_
      refine WR.nil ?_
      change WC _ _ _ _ _ _
      refine WC.ret ?_
      intro w hw
      obtain rfl := Option.some.inj h
      subst hF
      exact ⟨by kernel_rfl, hw.fr⟩
  · skip
    have h := bf hb21 h
    refine WR.unsat (c0 := true) (g := ((Option.isNone z8.1) || (z8.2 != 0))) rfl rfl rfl hb21 rfl ?_
    refine WR.unsat (c0 := true) (g := ((Option.isNone z8.1) || (z8.2 != 0))) rfl rfl rfl hb21 rfl ?_
    refine va rfl rfl rfl (q_pick_t (v := .bool true) rfl rfl (not_f hb21) (by kernel_rfl)) ?_
    refine va rfl rfl rfl (q_move (v := .bool true) rfl (by kernel_rfl)) ?_
    refine WR.unsat (c0 := true) (g := true) rfl rfl rfl (nott rfl) rfl ?_
    refine WR.unsat (c0 := true) (g := true) rfl rfl rfl (nott rfl) rfl ?_
    refine va rfl rfl rfl (q_pickt (v := .bool true) rfl rfl rfl) ?_
    refine va rfl rfl rfl (q_move (v := .bool true) rfl (by kernel_rfl)) ?_
    refine WR.unsat (c0 := true) (g := true) rfl rfl rfl (nott rfl) rfl ?_
    refine WR.unsat (c0 := true) (g := true) rfl rfl rfl (nott rfl) rfl ?_
    refine va rfl rfl rfl (q_pickt (v := .bool true) rfl rfl rfl) ?_
    refine va rfl rfl rfl (q_move (v := .bool true) rfl (by kernel_rfl)) ?_
    refine WR.unsat (c0 := true) (g := true) rfl rfl rfl (nott rfl) rfl ?_
    refine WR.unsat (c0 := true) (g := true) rfl rfl rfl (nott rfl) rfl ?_
    refine va rfl rfl rfl (q_pickt (v := .bool true) rfl rfl rfl) ?_
    refine va rfl rfl rfl (q_move (v := .bool true) rfl (by kernel_rfl)) ?_
    refine WR.unsat (c0 := true) (g := true) rfl rfl rfl (nott rfl) rfl ?_
    refine WR.unsat (c0 := true) (g := true) rfl rfl rfl (nott rfl) rfl ?_
    refine WR.unsat (c0 := true) (g := true) rfl rfl rfl (nott rfl) rfl ?_
    refine va rfl rfl rfl (q_pickt (v := .bool true) rfl rfl rfl) ?_
    refine WR.nil ?_
    change WC _ _ _ _ _ _
    refine WC.ctk (b := true) (by kernel_rfl) rfl ?_
    refine WC.rs ?_
    refine va rfl rfl rfl (q_assign (v := .bool false) rfl (by kernel_rfl)) ?_
    refine WR.nil ?_
    change WC _ _ _ _ _ _
    refine WC.ret ?_
    intro w hw
    obtain rfl := Option.some.inj h
    subst hF
    exact ⟨by kernel_rfl, hw.fr⟩
set_option maxRecDepth 100000 in
set_option maxHeartbeats 400000 in
theorem t_firthref03_Dot {Γ : Gh} {w0 : World} (d : Dot) (hd : Dot.fits Γ  d) (hs : Sat Γ w0) {r : Bool} (h : m_firthref03_Dot d = some r) : Calls Try.prog 57 #[.agg #[.int .i64 d.s, .int .i64 d.n]] w0 (fun e w' => e = .returned (.bool r) ∧ Fr no w0 w') := by
  refine calls_of (N := 21) (rs := [2]) (args := [.agg #[.int .i64 d.s, .int .i64 d.n]]) Try.func57 rfl Try.ntmps57 Try.results57 rfl ?_
  obtain ⟨F, hF⟩ : ∃ F : Fm, F = ⟨no, w0, Γ⟩ := ⟨_, rfl⟩
  refine WC.here (C := CC F Γ []) ?_ (hF ▸ Cur.start0 hs)
  refine WC.rs ?_
  refine e_box (v := .agg #[.int .i64 d.s, .int .i64 d.n]) rfl rfl rfl rfl (by kernel_rfl) ?_
  intro g1
  refine va rfl rfl rfl (q_assign (v := .bool false) rfl (by kernel_rfl)) ?_
  refine WR.nil ?_
  change WC _ _ _ _ _ _
  refine WC.rs ?_
  refine va rfl rfl rfl (q_fl 0 fld_55_0 rfl rfl rfl) ?_
  refine va rfl rfl rfl (q_ldl (i := 0) (v := .int .i64 d.s) rfl rfl Try.isAgg3 rfl rfl) ?_
  refine va rfl rfl rfl (q_geq rfl rfl rfl) ?_
  refine va rfl rfl rfl (q_move (v := .bool (decide (1 ≤ d.s))) rfl (by kernel_rfl)) ?_
  refine vg1 rfl rfl rfl rfl rfl (fun hg2 => QV.qo (q_fl 0 fld_55_0 rfl rfl rfl)) ?_
  refine vg1 rfl rfl rfl rfl rfl (fun hg3 => QV.qo (q_ldl (i := 0) (v := .int .i64 d.s) rfl rfl Try.isAgg3 (gu hg3 rfl) rfl)) ?_
  refine vg1 rfl rfl rfl rfl rfl (fun hg4 => QV.qo (q_leq rfl (gu hg4 rfl) rfl)) ?_
  refine va rfl rfl rfl (q_pick rfl rfl (pk_and' (g := (decide (1 ≤ d.s))) (y := (decide (d.s ≤ 16))))) ?_
  refine va rfl rfl rfl (q_move (v := .bool ((decide (1 ≤ d.s)) && (decide (d.s ≤ 16)))) rfl (by kernel_rfl)) ?_
  refine vg1 rfl rfl rfl rfl rfl (fun hg5 => QV.qo (q_fl 1 fld_55_1 rfl rfl rfl)) ?_
  refine vg1 rfl rfl rfl rfl rfl (fun hg6 => QV.qo (q_ldl (i := 0) (v := .int .i64 d.n) rfl rfl Try.isAgg2 (gu hg6 rfl) rfl)) ?_
  refine vg1 rfl rfl rfl rfl rfl (fun hg7 => QV.qo (q_geq rfl (gu hg7 rfl) rfl)) ?_
  refine va rfl rfl rfl (q_pick rfl rfl (pk_and' (g := ((decide (1 ≤ d.s)) && (decide (d.s ≤ 16)))) (y := (decide (1 ≤ d.n))))) ?_
  refine va rfl rfl rfl (q_move (v := .bool (((decide (1 ≤ d.s)) && (decide (d.s ≤ 16))) && (decide (1 ≤ d.n)))) rfl (by kernel_rfl)) ?_
  refine vg1 rfl rfl rfl rfl rfl (fun hg8 => QV.qo (q_fl 1 fld_55_1 rfl rfl rfl)) ?_
  refine vg1 rfl rfl rfl rfl rfl (fun hg9 => QV.qo (q_ldl (i := 0) (v := .int .i64 d.n) rfl rfl Try.isAgg2 (gu hg9 rfl) rfl)) ?_
  refine vg1 rfl rfl rfl rfl rfl (fun hg10 => QV.qo (q_leq rfl (gu hg10 rfl) rfl)) ?_
  refine va rfl rfl rfl (q_pick rfl rfl (pk_and' (g := (((decide (1 ≤ d.s)) && (decide (d.s ≤ 16))) && (decide (1 ≤ d.n)))) (y := (decide (d.n ≤ 4611686018427387904))))) ?_
  refine va rfl rfl rfl (q_assign (v := .bool ((((decide (1 ≤ d.s)) && (decide (d.s ≤ 16))) && (decide (1 ≤ d.n))) && (decide (d.n ≤ 4611686018427387904)))) rfl (by kernel_rfl)) ?_
  refine WR.nil ?_
  change WC _ _ _ _ _ _
  refine WC.ret ?_
  intro w hw
  obtain rfl := Option.some.inj h
  subst hF
  exact ⟨by kernel_rfl, hw.fr⟩
set_option maxRecDepth 100000 in
set_option maxHeartbeats 400000 in
theorem t_firthref03_Right {Γ : Gh} {w0 : World} {Al : Option Addr} {cl : Nat} {l : List Span} (hl : Sl spanT Γ Al l) (hlc : l.length ≤ cl) (hs : Sat Γ w0) {r : Bool} (h : m_firthref03_Right l = some r) : Calls Try.prog 58 #[.slice Al l.length cl] w0 (fun e w' => e = .returned (.bool r) ∧ Fr no w0 w') := by
  refine calls_of (N := 99) (rs := [2]) (args := [.slice Al l.length cl]) Try.func58 rfl Try.ntmps58 Try.results58 rfl ?_
  obtain ⟨F, hF⟩ : ∃ F : Fm, F = ⟨no, w0, Γ⟩ := ⟨_, rfl⟩
  refine WC.here (C := CC F Γ []) ?_ (hF ▸ Cur.start0 hs)
  refine WC.rs ?_
  refine va rfl rfl rfl (q_assign (v := .bool false) rfl (by kernel_rfl)) ?_
  refine WR.nil ?_
  change WC _ _ _ _ _ _
  refine WC.seq ?_
  refine WC.rs ?_
  refine va rfl rfl rfl (q_move (v := .slice Al l.length cl) rfl (by kernel_rfl)) ?_
  refine va rfl rfl rfl (q_len_slice rfl Try.underlying56 rfl) ?_
  refine va rfl rfl rfl (q_gtr rfl rfl rfl) ?_
  refine WR.nil ?_
  change WC _ _ _ _ _ _
  refine WC.cif h (by kernel_rfl) (fun hb1 h => ?_) (fun hb1 h => ?_)
  · skip
    refine WC.rs ?_
    refine va rfl rfl rfl (q_assign (v := .bool false) rfl (by kernel_rfl)) ?_
    refine WR.nil ?_
    change WC _ _ _ _ _ _
    refine WC.ret ?_
    intro w hw
    obtain rfl := Option.some.inj h
    subst hF
    exact ⟨by kernel_rfl, hw.fr⟩
  · skip
    refine WC.skip ?_
    change WC _ _ _ _ _ _
    refine WC.seq ?_
    refine WC.rs ?_
    refine va rfl rfl rfl (q_assign (v := .int .i64 0) rfl (by kernel_rfl)) ?_
    refine WR.nil ?_
    change WC _ _ _ _ _ _
    refine WC.block ?_
    refine WC.forI h (fun (i3 : Nat) (s : Unit) σ w => match s with | () => slots σ [(0, .slice Al l.length cl), (3, .int .i64 ((i3 : Nat) : Int))] ∧ CC F Γ [] w ∧ True) ?_ ?_
    · skip
      intro w hw
      exact ⟨(sl_ (by kernel_rfl)), hw, trivial⟩
    rintro f2 i3 ⟨⟩ σ w hi4 hlt5 hge6 ⟨hsl, hw, -⟩
    refine Wpt.slots hsl ?_
    refine WC.here (C := CC F Γ []) ?_ hw
    clear hw hsl
    refine WC.seq ?_
    refine WC.rs ?_
    refine va rfl rfl rfl (q_move (v := .int .i64 ((i3 : Nat) : Int)) rfl (by kernel_rfl)) ?_
    refine va rfl rfl rfl (q_move (v := .slice Al l.length cl) rfl (by kernel_rfl)) ?_
    refine va rfl rfl rfl (q_len_slice rfl Try.underlying56 rfl) ?_
    refine va rfl rfl rfl (q_lss rfl rfl rfl) ?_
    refine WR.nil ?_
    change WC _ _ _ _ _ _
    refine WC.cond (b := (decide (((i3 : Nat) : Int) < ((l.length : Nat) : Int)))) (by kernel_rfl) (fun hb7 => ?_) (fun hb7 => ?_)
    · skip
      have hl8 := ilt hb7
      have h := hlt5 hl8
      refine WC.skip ?_
      change WC _ _ _ _ _ _
      refine WC.seq ?_
      refine WC.block ?_
      refine WC.seq ?_
      refine WC.seq ?_
      refine WC.dr (by kernel_rfl) (by kernel_rfl) (fun w hw => hw.drawn _) ?_
      refine wa rfl rfl rfl (q_move (v := .slice Al l.length cl) rfl (by kernel_rfl)) ?_
      refine wa rfl rfl rfl (q_move (v := .int .i64 ((i3 : Nat) : Int)) rfl (by kernel_rfl)) ?_
      refine wa rfl rfl rfl (q_ixn (i := i3) Try.underlying56 Try.sizeOf71 rfl rfl rfl hl8 (hl.some_ hl8)) ?_
      refine wa rfl rfl rfl (q_field_addr (i3 * 3) fld_71_0 rfl rfl (hl.some_ hl8) rfl) ?_
      refine wa rfl rfl rfl (q_ld (c := 0) (v := .int .i64 (gt l i3).s) (hl.spanT_at hl8).2 rfl Try.isAgg3 rfl rfl) ?_
      refine wa rfl rfl rfl (q_move (v := .slice Al l.length cl) rfl (by kernel_rfl)) ?_
      refine wa rfl rfl rfl (q_move (v := .int .i64 ((i3 : Nat) : Int)) rfl (by kernel_rfl)) ?_
      refine wa rfl rfl rfl (q_ixn (i := i3) Try.underlying56 Try.sizeOf71 rfl rfl rfl hl8 (hl.some_ hl8)) ?_
      refine wa rfl rfl rfl (q_field_addr (i3 * 3 + 1) fld_71_1 rfl rfl (hl.some_ hl8) rfl) ?_
      refine wa rfl rfl rfl (q_ld (c := 1) (v := .int .i64 (gt l i3).f) (hl.spanT_at hl8).2 rfl Try.isAgg2 rfl rfl) ?_
      refine wa rfl rfl rfl (q_build' (v := .agg #[.int .i64 (gt l i3).s, .int .i64 (gt l i3).f]) rfl (bargs2 rfl rfl) (fun w => by kernel_rfl)) ?_
      obtain ⟨z9, hz10, h⟩ := bnd h
      refine wc rfl rfl rfl (q_call (call_run Try.call57 rfl rfl (by kernel_rfl)) (fun w hw => t_firthref03_Dot (Γ := Gh.all w) (⟨(gt l i3).s, (gt l i3).f⟩ : Dot) ⟨(hl.spanT_at hl8).1.1, (hl.spanT_at hl8).1.2.1⟩ (Sat.all w) hz10)) ?_
      refine wa rfl rfl rfl (q_not rfl rfl) ?_
      refine wa rfl rfl rfl (q_move (v := .bool (!z9)) rfl (by kernel_rfl)) ?_
      refine wg0 rfl rfl rfl rfl rfl (fun hg11 => QV.qo (q_move (v := .slice Al l.length cl) rfl (by kernel_rfl))) ?_
      refine wg0 rfl rfl rfl rfl rfl (fun hg12 => QV.qo (q_move (v := .int .i64 ((i3 : Nat) : Int)) rfl (by kernel_rfl))) ?_
      refine wg0 rfl rfl rfl rfl rfl (fun hg13 => QV.qo (q_ixn (i := i3) Try.underlying56 Try.sizeOf71 rfl (gu hg13 rfl) (gu hg13 rfl) hl8 (hl.some_ hl8))) ?_
      refine wg0 rfl rfl rfl rfl rfl (fun hg14 => QV.qo (q_field_addr (i3 * 3) fld_71_0 rfl (gu hg14 rfl) (hl.some_ hl8) rfl)) ?_
      refine wg0 rfl rfl rfl rfl rfl (fun hg15 => QV.qo (q_ld (c := 0) (v := .int .i64 (gt l i3).s) (hl.spanT_at hl8).2 rfl Try.isAgg3 (gu hg15 rfl) rfl)) ?_
      refine wg0 rfl rfl rfl rfl rfl (fun hg16 => QV.qo (q_move (v := .slice Al l.length cl) rfl (by kernel_rfl))) ?_
      refine wg0 rfl rfl rfl rfl rfl (fun hg17 => QV.qo (q_move (v := .int .i64 ((i3 : Nat) : Int)) rfl (by kernel_rfl))) ?_
      refine wg0 rfl rfl rfl rfl rfl (fun hg18 => QV.qo (q_ixn (i := i3) Try.underlying56 Try.sizeOf71 rfl (gu hg18 rfl) (gu hg18 rfl) hl8 (hl.some_ hl8))) ?_
      refine wg0 rfl rfl rfl rfl rfl (fun hg19 => QV.qo (q_field_addr (i3 * 3 + 2) fld_71_2 rfl (gu hg19 rfl) (hl.some_ hl8) rfl)) ?_
      refine wg0 rfl rfl rfl rfl rfl (fun hg20 => QV.qo (q_ld (c := 2) (v := .int .i64 (gt l i3).t) (hl.spanT_at hl8).2 rfl Try.isAgg2 (gu hg20 rfl) rfl)) ?_
      refine wg0 rfl rfl rfl rfl rfl (fun hg21 => QV.qo (q_build' (v := .agg #[.int .i64 (gt l i3).s, .int .i64 (gt l i3).t]) rfl (bargs2 (gu hg21 rfl) (gu hg21 rfl)) (fun w => by kernel_rfl))) ?_
      obtain ⟨z23, hz24, h⟩ := bnd h
      refine wg0 rfl rfl rfl rfl rfl (fun hg22 => (q_call (call_run Try.call57 rfl rfl (args1 (gu hg22 rfl))) (fun w hw => t_firthref03_Dot (Γ := Gh.all w) (⟨(gt l i3).s, (gt l i3).t⟩ : Dot) ⟨(hl.spanT_at hl8).1.1, (hl.spanT_at hl8).1.2.2⟩ (Sat.all w) (gc_of hz24 hg22)))) ?_
      refine wg0 rfl rfl rfl rfl rfl (fun hg25 => QV.qo (q_not rfl (gu hg25 rfl))) ?_
      refine wa rfl rfl rfl (q_pick rfl rfl (pk_or' (g := (!z9)) (y := (!z23)))) ?_
      refine wa rfl rfl rfl (q_move (v := .bool ((!z9) || (!z23))) rfl (by kernel_rfl)) ?_
      refine wg0 rfl rfl rfl rfl rfl (fun hg26 => QV.qo (q_move (v := .slice Al l.length cl) rfl (by kernel_rfl))) ?_
      refine wg0 rfl rfl rfl rfl rfl (fun hg27 => QV.qo (q_move (v := .int .i64 ((i3 : Nat) : Int)) rfl (by kernel_rfl))) ?_
      refine wg0 rfl rfl rfl rfl rfl (fun hg28 => QV.qo (q_ixn (i := i3) Try.underlying56 Try.sizeOf71 rfl (gu hg28 rfl) (gu hg28 rfl) hl8 (hl.some_ hl8))) ?_
      refine wg0 rfl rfl rfl rfl rfl (fun hg29 => QV.qo (q_field_addr (i3 * 3 + 1) fld_71_1 rfl (gu hg29 rfl) (hl.some_ hl8) rfl)) ?_
      refine wg0 rfl rfl rfl rfl rfl (fun hg30 => QV.qo (q_ld (c := 1) (v := .int .i64 (gt l i3).f) (hl.spanT_at hl8).2 rfl Try.isAgg2 (gu hg30 rfl) rfl)) ?_
      refine wg0 rfl rfl rfl rfl rfl (fun hg31 => QV.qo (q_move (v := .slice Al l.length cl) rfl (by kernel_rfl))) ?_
      refine wg0 rfl rfl rfl rfl rfl (fun hg32 => QV.qo (q_move (v := .int .i64 ((i3 : Nat) : Int)) rfl (by kernel_rfl))) ?_
      refine wg0 rfl rfl rfl rfl rfl (fun hg33 => QV.qo (q_ixn (i := i3) Try.underlying56 Try.sizeOf71 rfl (gu hg33 rfl) (gu hg33 rfl) hl8 (hl.some_ hl8))) ?_
      refine wg0 rfl rfl rfl rfl rfl (fun hg34 => QV.qo (q_field_addr (i3 * 3 + 2) fld_71_2 rfl (gu hg34 rfl) (hl.some_ hl8) rfl)) ?_
      refine wg0 rfl rfl rfl rfl rfl (fun hg35 => QV.qo (q_ld (c := 2) (v := .int .i64 (gt l i3).t) (hl.spanT_at hl8).2 rfl Try.isAgg2 (gu hg35 rfl) rfl)) ?_
      refine wg0 rfl rfl rfl rfl rfl (fun hg36 => QV.qo (q_gtr rfl (gu hg36 rfl) (gu hg36 rfl))) ?_
      refine wa rfl rfl rfl (q_pick rfl rfl (pk_or' (g := ((!z9) || (!z23))) (y := (decide ((gt l i3).t < (gt l i3).f))))) ?_
      refine WQ.nil ?_
      change WC _ _ _ _ _ _
      refine WC.cif h (by kernel_rfl) (fun hb37 h => ?_) (fun hb37 h => ?_)
      · skip
        refine WC.rs ?_
        refine va rfl rfl rfl (q_assign (v := .bool false) rfl (by kernel_rfl)) ?_
        refine WR.nil ?_
        change WC _ _ _ _ _ _
        refine WC.ret ?_
        intro w hw
        obtain rfl := Option.some.inj h
        subst hF
        exact ⟨by kernel_rfl, hw.fr⟩
      · skip
        refine WC.skip ?_
        change WC _ _ _ _ _ _
        refine WC.seq ?_
        refine WC.dr (by kernel_rfl) (by kernel_rfl) (fun w hw => hw.drawn _) ?_
        refine wa rfl rfl rfl (q_move (v := .int .i64 ((i3 : Nat) : Int)) rfl (by kernel_rfl)) ?_
        refine wa rfl rfl rfl (q_gtr rfl rfl rfl) ?_
        refine wa rfl rfl rfl (q_move (v := .bool (decide (0 < ((i3 : Nat) : Int)))) rfl (by kernel_rfl)) ?_
        refine wg1 rfl rfl rfl rfl rfl (fun hg38 => QV.qo (q_move (v := .slice Al l.length cl) rfl (by kernel_rfl))) ?_
        refine wg1 rfl rfl rfl rfl rfl (fun hg39 => QV.qo (q_move (v := .int .i64 ((i3 : Nat) : Int)) rfl (by kernel_rfl))) ?_
        refine wg1 rfl rfl rfl rfl rfl (fun hg40 => QV.qo (q_ixn (i := i3) Try.underlying56 Try.sizeOf71 rfl (gu hg40 rfl) (gu hg40 rfl) hl8 (hl.some_ hl8))) ?_
        refine wg1 rfl rfl rfl rfl rfl (fun hg41 => QV.qo (q_field_addr (i3 * 3) fld_71_0 rfl (gu hg41 rfl) (hl.some_ hl8) rfl)) ?_
        refine wg1 rfl rfl rfl rfl rfl (fun hg42 => QV.qo (q_ld (c := 0) (v := .int .i64 (gt l i3).s) (hl.spanT_at hl8).2 rfl Try.isAgg3 (gu hg42 rfl) rfl)) ?_
        refine wg1 rfl rfl rfl rfl rfl (fun hg43 => QV.qo (q_move (v := .slice Al l.length cl) rfl (by kernel_rfl))) ?_
        refine wg1 rfl rfl rfl rfl rfl (fun hg44 => QV.qo (q_move (v := .int .i64 ((i3 : Nat) : Int)) rfl (by kernel_rfl))) ?_
        refine wg1 rfl rfl rfl rfl rfl (fun hg45 => QV.qo (q_sub rfl (gu hg45 rfl) rfl)) ?_
        obtain ⟨hk47, h⟩ := chk_some h
        refine wg1 rfl rfl rfl rfl rfl (fun hg46 => QV.qo (q_ix Try.underlying56 Try.sizeOf71 rfl (gu hg46 rfl) (gu hg46 rfl) (imp_of hk47 hg46) (hl.some_ (inb_lt (imp_of hk47 hg46))))) ?_
        refine wg1 rfl rfl rfl rfl rfl (fun hg48 => QV.qo (q_field_addr (((w64 (((i3 : Nat) : Int) - 1)).toNat) * 3) fld_71_0 rfl (gu hg48 rfl) (hl.some_ (inb_lt (imp_of hk47 hg48))) rfl)) ?_
        refine wg1 rfl rfl rfl rfl rfl (fun hg49 => QV.qo (q_ld (c := 0) (v := .int .i64 (gt l ((w64 (((i3 : Nat) : Int) - 1)).toNat)).s) (hl.spanT_at (inb_lt (imp_of hk47 hg49))).2 rfl Try.isAgg3 (gu hg49 rfl) rfl)) ?_
        refine wg1 rfl rfl rfl rfl rfl (fun hg50 => QV.qo (q_lss rfl (gu hg50 rfl) (gu hg50 rfl))) ?_
        refine wg1 rfl rfl rfl rfl rfl (fun hg51 => QV.qo (q_move (v := .bool (decide ((gt l i3).s < (gt l ((w64 (((i3 : Nat) : Int) - 1)).toNat)).s))) rfl (gu hg51 rfl))) ?_
        refine wh0 (c0 := (decide (0 < ((i3 : Nat) : Int)))) (g := (decide ((gt l i3).s < (gt l ((w64 (((i3 : Nat) : Int) - 1)).toNat)).s))) rfl rfl rfl rfl rfl (fun hg52 => QV.qo (q_move (v := .slice Al l.length cl) rfl (by kernel_rfl))) ?_
        refine wh0 (c0 := (decide (0 < ((i3 : Nat) : Int)))) (g := (decide ((gt l i3).s < (gt l ((w64 (((i3 : Nat) : Int) - 1)).toNat)).s))) rfl rfl rfl rfl rfl (fun hg53 => QV.qo (q_move (v := .int .i64 ((i3 : Nat) : Int)) rfl (by kernel_rfl))) ?_
        refine wh0 (c0 := (decide (0 < ((i3 : Nat) : Int)))) (g := (decide ((gt l i3).s < (gt l ((w64 (((i3 : Nat) : Int) - 1)).toNat)).s))) rfl rfl rfl rfl rfl (fun hg54 => QV.qo (q_ixn (i := i3) Try.underlying56 Try.sizeOf71 rfl (gu hg54 rfl) (gu hg54 rfl) hl8 (hl.some_ hl8))) ?_
        refine wh0 (c0 := (decide (0 < ((i3 : Nat) : Int)))) (g := (decide ((gt l i3).s < (gt l ((w64 (((i3 : Nat) : Int) - 1)).toNat)).s))) rfl rfl rfl rfl rfl (fun hg55 => QV.qo (q_field_addr (i3 * 3) fld_71_0 rfl (gu hg55 rfl) (hl.some_ hl8) rfl)) ?_
        refine wh0 (c0 := (decide (0 < ((i3 : Nat) : Int)))) (g := (decide ((gt l i3).s < (gt l ((w64 (((i3 : Nat) : Int) - 1)).toNat)).s))) rfl rfl rfl rfl rfl (fun hg56 => QV.qo (q_ld (c := 0) (v := .int .i64 (gt l i3).s) (hl.spanT_at hl8).2 rfl Try.isAgg3 (gu hg56 rfl) rfl)) ?_
        refine wh0 (c0 := (decide (0 < ((i3 : Nat) : Int)))) (g := (decide ((gt l i3).s < (gt l ((w64 (((i3 : Nat) : Int) - 1)).toNat)).s))) rfl rfl rfl rfl rfl (fun hg57 => QV.qo (q_move (v := .slice Al l.length cl) rfl (by kernel_rfl))) ?_
        refine wh0 (c0 := (decide (0 < ((i3 : Nat) : Int)))) (g := (decide ((gt l i3).s < (gt l ((w64 (((i3 : Nat) : Int) - 1)).toNat)).s))) rfl rfl rfl rfl rfl (fun hg58 => QV.qo (q_move (v := .int .i64 ((i3 : Nat) : Int)) rfl (by kernel_rfl))) ?_
        refine wh0 (c0 := (decide (0 < ((i3 : Nat) : Int)))) (g := (decide ((gt l i3).s < (gt l ((w64 (((i3 : Nat) : Int) - 1)).toNat)).s))) rfl rfl rfl rfl rfl (fun hg59 => QV.qo (q_sub rfl (gu hg59 rfl) rfl)) ?_
        refine wh0 (c0 := (decide (0 < ((i3 : Nat) : Int)))) (g := (decide ((gt l i3).s < (gt l ((w64 (((i3 : Nat) : Int) - 1)).toNat)).s))) rfl rfl rfl rfl rfl (fun hg60 => QV.qo (q_ix Try.underlying56 Try.sizeOf71 rfl (gu hg60 rfl) (gu hg60 rfl) (imp_of hk47 (and_l hg60)) (hl.some_ (inb_lt (imp_of hk47 (and_l hg60)))))) ?_
        refine wh0 (c0 := (decide (0 < ((i3 : Nat) : Int)))) (g := (decide ((gt l i3).s < (gt l ((w64 (((i3 : Nat) : Int) - 1)).toNat)).s))) rfl rfl rfl rfl rfl (fun hg61 => QV.qo (q_field_addr (((w64 (((i3 : Nat) : Int) - 1)).toNat) * 3) fld_71_0 rfl (gu hg61 rfl) (hl.some_ (inb_lt (imp_of hk47 (and_l hg61)))) rfl)) ?_
        refine wh0 (c0 := (decide (0 < ((i3 : Nat) : Int)))) (g := (decide ((gt l i3).s < (gt l ((w64 (((i3 : Nat) : Int) - 1)).toNat)).s))) rfl rfl rfl rfl rfl (fun hg62 => QV.qo (q_ld (c := 0) (v := .int .i64 (gt l ((w64 (((i3 : Nat) : Int) - 1)).toNat)).s) (hl.spanT_at (inb_lt (imp_of hk47 (and_l hg62)))).2 rfl Try.isAgg3 (gu hg62 rfl) rfl)) ?_
        refine wh0 (c0 := (decide (0 < ((i3 : Nat) : Int)))) (g := (decide ((gt l i3).s < (gt l ((w64 (((i3 : Nat) : Int) - 1)).toNat)).s))) rfl rfl rfl rfl rfl (fun hg63 => QV.qo (q_eql rfl (gu hg63 rfl) (gu hg63 rfl))) ?_
        refine wh0 (c0 := (decide (0 < ((i3 : Nat) : Int)))) (g := (decide ((gt l i3).s < (gt l ((w64 (((i3 : Nat) : Int) - 1)).toNat)).s))) rfl rfl rfl rfl rfl (fun hg64 => QV.qo (q_move (v := .bool ((gt l i3).s == (gt l ((w64 (((i3 : Nat) : Int) - 1)).toNat)).s)) rfl (gu hg64 rfl))) ?_
        refine wh1 (c0 := ((decide (0 < ((i3 : Nat) : Int))) && (!(decide ((gt l i3).s < (gt l ((w64 (((i3 : Nat) : Int) - 1)).toNat)).s))))) (g := ((gt l i3).s == (gt l ((w64 (((i3 : Nat) : Int) - 1)).toNat)).s)) rfl rfl rfl rfl rfl (fun hg65 => QV.qo (q_move (v := .slice Al l.length cl) rfl (by kernel_rfl))) ?_
        refine wh1 (c0 := ((decide (0 < ((i3 : Nat) : Int))) && (!(decide ((gt l i3).s < (gt l ((w64 (((i3 : Nat) : Int) - 1)).toNat)).s))))) (g := ((gt l i3).s == (gt l ((w64 (((i3 : Nat) : Int) - 1)).toNat)).s)) rfl rfl rfl rfl rfl (fun hg66 => QV.qo (q_move (v := .int .i64 ((i3 : Nat) : Int)) rfl (by kernel_rfl))) ?_
        refine wh1 (c0 := ((decide (0 < ((i3 : Nat) : Int))) && (!(decide ((gt l i3).s < (gt l ((w64 (((i3 : Nat) : Int) - 1)).toNat)).s))))) (g := ((gt l i3).s == (gt l ((w64 (((i3 : Nat) : Int) - 1)).toNat)).s)) rfl rfl rfl rfl rfl (fun hg67 => QV.qo (q_ixn (i := i3) Try.underlying56 Try.sizeOf71 rfl (gu hg67 rfl) (gu hg67 rfl) hl8 (hl.some_ hl8))) ?_
        refine wh1 (c0 := ((decide (0 < ((i3 : Nat) : Int))) && (!(decide ((gt l i3).s < (gt l ((w64 (((i3 : Nat) : Int) - 1)).toNat)).s))))) (g := ((gt l i3).s == (gt l ((w64 (((i3 : Nat) : Int) - 1)).toNat)).s)) rfl rfl rfl rfl rfl (fun hg68 => QV.qo (q_field_addr (i3 * 3 + 1) fld_71_1 rfl (gu hg68 rfl) (hl.some_ hl8) rfl)) ?_
        refine wh1 (c0 := ((decide (0 < ((i3 : Nat) : Int))) && (!(decide ((gt l i3).s < (gt l ((w64 (((i3 : Nat) : Int) - 1)).toNat)).s))))) (g := ((gt l i3).s == (gt l ((w64 (((i3 : Nat) : Int) - 1)).toNat)).s)) rfl rfl rfl rfl rfl (fun hg69 => QV.qo (q_ld (c := 1) (v := .int .i64 (gt l i3).f) (hl.spanT_at hl8).2 rfl Try.isAgg2 (gu hg69 rfl) rfl)) ?_
        refine wh1 (c0 := ((decide (0 < ((i3 : Nat) : Int))) && (!(decide ((gt l i3).s < (gt l ((w64 (((i3 : Nat) : Int) - 1)).toNat)).s))))) (g := ((gt l i3).s == (gt l ((w64 (((i3 : Nat) : Int) - 1)).toNat)).s)) rfl rfl rfl rfl rfl (fun hg70 => QV.qo (q_sub rfl (gu hg70 rfl) rfl)) ?_
        refine wh1 (c0 := ((decide (0 < ((i3 : Nat) : Int))) && (!(decide ((gt l i3).s < (gt l ((w64 (((i3 : Nat) : Int) - 1)).toNat)).s))))) (g := ((gt l i3).s == (gt l ((w64 (((i3 : Nat) : Int) - 1)).toNat)).s)) rfl rfl rfl rfl rfl (fun hg71 => QV.qo (q_move (v := .slice Al l.length cl) rfl (by kernel_rfl))) ?_
        refine wh1 (c0 := ((decide (0 < ((i3 : Nat) : Int))) && (!(decide ((gt l i3).s < (gt l ((w64 (((i3 : Nat) : Int) - 1)).toNat)).s))))) (g := ((gt l i3).s == (gt l ((w64 (((i3 : Nat) : Int) - 1)).toNat)).s)) rfl rfl rfl rfl rfl (fun hg72 => QV.qo (q_move (v := .int .i64 ((i3 : Nat) : Int)) rfl (by kernel_rfl))) ?_
        refine wh1 (c0 := ((decide (0 < ((i3 : Nat) : Int))) && (!(decide ((gt l i3).s < (gt l ((w64 (((i3 : Nat) : Int) - 1)).toNat)).s))))) (g := ((gt l i3).s == (gt l ((w64 (((i3 : Nat) : Int) - 1)).toNat)).s)) rfl rfl rfl rfl rfl (fun hg73 => QV.qo (q_sub rfl (gu hg73 rfl) rfl)) ?_
        refine wh1 (c0 := ((decide (0 < ((i3 : Nat) : Int))) && (!(decide ((gt l i3).s < (gt l ((w64 (((i3 : Nat) : Int) - 1)).toNat)).s))))) (g := ((gt l i3).s == (gt l ((w64 (((i3 : Nat) : Int) - 1)).toNat)).s)) rfl rfl rfl rfl rfl (fun hg74 => QV.qo (q_ix Try.underlying56 Try.sizeOf71 rfl (gu hg74 rfl) (gu hg74 rfl) (imp_of hk47 (and_l (and_l hg74))) (hl.some_ (inb_lt (imp_of hk47 (and_l (and_l hg74))))))) ?_
        refine wh1 (c0 := ((decide (0 < ((i3 : Nat) : Int))) && (!(decide ((gt l i3).s < (gt l ((w64 (((i3 : Nat) : Int) - 1)).toNat)).s))))) (g := ((gt l i3).s == (gt l ((w64 (((i3 : Nat) : Int) - 1)).toNat)).s)) rfl rfl rfl rfl rfl (fun hg75 => QV.qo (q_field_addr (((w64 (((i3 : Nat) : Int) - 1)).toNat) * 3 + 2) fld_71_2 rfl (gu hg75 rfl) (hl.some_ (inb_lt (imp_of hk47 (and_l (and_l hg75))))) rfl)) ?_
        refine wh1 (c0 := ((decide (0 < ((i3 : Nat) : Int))) && (!(decide ((gt l i3).s < (gt l ((w64 (((i3 : Nat) : Int) - 1)).toNat)).s))))) (g := ((gt l i3).s == (gt l ((w64 (((i3 : Nat) : Int) - 1)).toNat)).s)) rfl rfl rfl rfl rfl (fun hg76 => QV.qo (q_ld (c := 2) (v := .int .i64 (gt l ((w64 (((i3 : Nat) : Int) - 1)).toNat)).t) (hl.spanT_at (inb_lt (imp_of hk47 (and_l (and_l hg76))))).2 rfl Try.isAgg2 (gu hg76 rfl) rfl)) ?_
        refine wh1 (c0 := ((decide (0 < ((i3 : Nat) : Int))) && (!(decide ((gt l i3).s < (gt l ((w64 (((i3 : Nat) : Int) - 1)).toNat)).s))))) (g := ((gt l i3).s == (gt l ((w64 (((i3 : Nat) : Int) - 1)).toNat)).s)) rfl rfl rfl rfl rfl (fun hg77 => QV.qo (q_leq rfl (gu hg77 rfl) (gu hg77 rfl))) ?_
        refine wh0 (c0 := (decide (0 < ((i3 : Nat) : Int)))) (g := (decide ((gt l i3).s < (gt l ((w64 (((i3 : Nat) : Int) - 1)).toNat)).s))) rfl rfl rfl rfl rfl (fun hg78 => QV.qo (q_pick rfl (gu hg78 rfl) (pk_and (c := ((decide (0 < ((i3 : Nat) : Int))) && (!(decide ((gt l i3).s < (gt l ((w64 (((i3 : Nat) : Int) - 1)).toNat)).s))))) (g := ((gt l i3).s == (gt l ((w64 (((i3 : Nat) : Int) - 1)).toNat)).s)) (y := (decide ((w64 ((gt l i3).f - 1)) ≤ (gt l ((w64 (((i3 : Nat) : Int) - 1)).toNat)).t))) hg78))) ?_
        refine wg1 rfl rfl rfl rfl rfl (fun hg79 => QV.qo (q_pick rfl (gu hg79 rfl) (pk_or (c := (decide (0 < ((i3 : Nat) : Int)))) (g := (decide ((gt l i3).s < (gt l ((w64 (((i3 : Nat) : Int) - 1)).toNat)).s))) (y := (((gt l i3).s == (gt l ((w64 (((i3 : Nat) : Int) - 1)).toNat)).s) && (decide ((w64 ((gt l i3).f - 1)) ≤ (gt l ((w64 (((i3 : Nat) : Int) - 1)).toNat)).t)))) hg79))) ?_
        refine wa rfl rfl rfl (q_pick rfl rfl (pk_and' (g := (decide (0 < ((i3 : Nat) : Int)))) (y := ((decide ((gt l i3).s < (gt l ((w64 (((i3 : Nat) : Int) - 1)).toNat)).s)) || (((gt l i3).s == (gt l ((w64 (((i3 : Nat) : Int) - 1)).toNat)).s) && (decide ((w64 ((gt l i3).f - 1)) ≤ (gt l ((w64 (((i3 : Nat) : Int) - 1)).toNat)).t))))))) ?_
        refine WQ.nil ?_
        change WC _ _ _ _ _ _
        refine WC.cif h (by kernel_rfl) (fun hb80 h => ?_) (fun hb80 h => ?_)
        · skip
          refine WC.rs ?_
          refine va rfl rfl rfl (q_assign (v := .bool false) rfl (by kernel_rfl)) ?_
          refine WR.nil ?_
          change WC _ _ _ _ _ _
          refine WC.ret ?_
          intro w hw
          obtain rfl := Option.some.inj h
          subst hF
          exact ⟨by kernel_rfl, hw.fr⟩
        · skip
          refine WC.skip ?_
          change WC _ _ _ _ _ _
          refine WC.region ?_
          refine va rfl rfl rfl (q_move (v := .int .i64 ((i3 : Nat) : Int)) rfl (by kernel_rfl)) ?_
          refine va rfl rfl rfl (q_add_r (r := ((i3 + 1 : Nat) : Int)) rfl rfl rfl (ctr_len hl8 hl.le)) ?_
          refine va rfl rfl rfl (q_assign (v := .int .i64 ((i3 + 1 : Nat) : Int)) rfl (by kernel_rfl)) ?_
          refine WR.nil ?_
          intro w hw
          exact ⟨hl8, (), h, (sl_ (by kernel_rfl)), hw, trivial⟩
    · skip
      have h := hge6 (ige hb7)
      refine WC.exit ?_
      change WC _ _ _ _ _ _
      refine WC.rs ?_
      refine va rfl rfl rfl (q_assign (v := .bool true) rfl (by kernel_rfl)) ?_
      refine WR.nil ?_
      change WC _ _ _ _ _ _
      refine WC.ret ?_
      intro w hw
      obtain rfl := Option.some.inj h
      subst hF
      exact ⟨by kernel_rfl, hw.fr⟩
set_option maxRecDepth 100000 in
set_option maxHeartbeats 400000 in
theorem t_firthref03_Top {Γ : Gh} {w0 : World} {Al : Option Addr} {cl : Nat} {l : List Span} (hl : Sl spanT Γ Al l) (hlc : l.length ≤ cl) (s_ : Int) (hs_ : I64 s_) (hs : Sat Γ w0) {r : Int} (h : m_firthref03_Top l s_ = some r) : Calls Try.prog 59 #[.slice Al l.length cl, .int .i64 s_] w0 (fun e w' => e = .returned (.int .i64 r) ∧ Fr no w0 w') := by
  refine calls_of (N := 35) (rs := [4]) (args := [.slice Al l.length cl, .int .i64 s_]) Try.func59 rfl Try.ntmps59 Try.results59 rfl ?_
  obtain ⟨F, hF⟩ : ∃ F : Fm, F = ⟨no, w0, Γ⟩ := ⟨_, rfl⟩
  refine WC.here (C := CC F Γ []) ?_ (hF ▸ Cur.start0 hs)
  refine WC.rs ?_
  refine va rfl rfl rfl (q_assign (v := .int .i64 0) rfl (by kernel_rfl)) ?_
  refine WR.nil ?_
  change WC _ _ _ _ _ _
  refine WC.rs ?_
  refine va rfl rfl rfl (q_assign (v := .int .i64 0) rfl (by kernel_rfl)) ?_
  refine WR.nil ?_
  change WC _ _ _ _ _ _
  refine WC.seq ?_
  refine WC.rs ?_
  refine va rfl rfl rfl (q_assign (v := .int .i64 0) rfl (by kernel_rfl)) ?_
  refine WR.nil ?_
  change WC _ _ _ _ _ _
  refine WC.block ?_
  refine WC.forI h (fun (i4 : Nat) (n_1 : Int) σ w => slots σ [(0, .slice Al l.length cl), (1, .int .i64 s_), (5, .int .i64 n_1), (6, .int .i64 ((i4 : Nat) : Int))] ∧ CC F Γ [] w ∧ I64 n_1 ∧ True) ?_ ?_
  · skip
    intro w hw
    exact ⟨(sl_ (by kernel_rfl)), hw, (show I64 0 by decide), trivial⟩
  rintro f3 i4 n_1 σ w hi5 hlt6 hge7 ⟨hsl, hw, hr2, -⟩
  refine Wpt.slots hsl ?_
  refine WC.here (C := CC F Γ []) ?_ hw
  clear hw hsl
  refine WC.seq ?_
  refine WC.rs ?_
  refine va rfl rfl rfl (q_move (v := .int .i64 ((i4 : Nat) : Int)) rfl (by kernel_rfl)) ?_
  refine va rfl rfl rfl (q_move (v := .slice Al l.length cl) rfl (by kernel_rfl)) ?_
  refine va rfl rfl rfl (q_len_slice rfl Try.underlying56 rfl) ?_
  refine va rfl rfl rfl (q_lss rfl rfl rfl) ?_
  refine WR.nil ?_
  change WC _ _ _ _ _ _
  refine WC.cond (b := (decide (((i4 : Nat) : Int) < ((l.length : Nat) : Int)))) (by kernel_rfl) (fun hb8 => ?_) (fun hb8 => ?_)
  · skip
    have hl9 := ilt hb8
    have h := hlt6 hl9
    refine WC.skip ?_
    change WC _ _ _ _ _ _
    refine WC.cut (fun σ w => ∃ (n_10 : Int), m_firthref03_Top_j6 f3 n_10 = some r ∧ slots σ [(0, .slice Al l.length cl), (1, .int .i64 s_), (5, .int .i64 n_10), (6, .int .i64 ((i4 : Nat) : Int))] ∧ CC F Γ [] w ∧ I64 n_10 ∧ True) ?_ ?_
    · skip
      refine WC.block ?_
      refine WC.rs ?_
      refine va rfl rfl rfl (q_move (v := .slice Al l.length cl) rfl (by kernel_rfl)) ?_
      refine va rfl rfl rfl (q_move (v := .int .i64 ((i4 : Nat) : Int)) rfl (by kernel_rfl)) ?_
      refine va rfl rfl rfl (q_ixn (i := i4) Try.underlying56 Try.sizeOf71 rfl rfl rfl hl9 (hl.some_ hl9)) ?_
      refine va rfl rfl rfl (q_field_addr (i4 * 3) fld_71_0 rfl rfl (hl.some_ hl9) rfl) ?_
      refine va rfl rfl rfl (q_ld (c := 0) (v := .int .i64 (gt l i4).s) (hl.spanT_at hl9).2 rfl Try.isAgg3 rfl rfl) ?_
      refine va rfl rfl rfl (q_move (v := .int .i64 s_) rfl (by kernel_rfl)) ?_
      refine va rfl rfl rfl (q_eql rfl rfl rfl) ?_
      refine va rfl rfl rfl (q_move (v := .bool ((gt l i4).s == s_)) rfl (by kernel_rfl)) ?_
      refine vg1 rfl rfl rfl rfl rfl (fun hg12 => QV.qo (q_move (v := .slice Al l.length cl) rfl (by kernel_rfl))) ?_
      refine vg1 rfl rfl rfl rfl rfl (fun hg13 => QV.qo (q_move (v := .int .i64 ((i4 : Nat) : Int)) rfl (by kernel_rfl))) ?_
      refine vg1 rfl rfl rfl rfl rfl (fun hg14 => QV.qo (q_ixn (i := i4) Try.underlying56 Try.sizeOf71 rfl (gu hg14 rfl) (gu hg14 rfl) hl9 (hl.some_ hl9))) ?_
      refine vg1 rfl rfl rfl rfl rfl (fun hg15 => QV.qo (q_field_addr (i4 * 3 + 2) fld_71_2 rfl (gu hg15 rfl) (hl.some_ hl9) rfl)) ?_
      refine vg1 rfl rfl rfl rfl rfl (fun hg16 => QV.qo (q_ld (c := 2) (v := .int .i64 (gt l i4).t) (hl.spanT_at hl9).2 rfl Try.isAgg2 (gu hg16 rfl) rfl)) ?_
      refine vg1 rfl rfl rfl rfl rfl (fun hg17 => QV.qo (q_move (v := .int .i64 n_1) rfl (by kernel_rfl))) ?_
      refine vg1 rfl rfl rfl rfl rfl (fun hg18 => QV.qo (q_gtr rfl (gu hg18 rfl) (gu hg18 rfl))) ?_
      refine va rfl rfl rfl (q_pick rfl rfl (pk_and' (g := ((gt l i4).s == s_)) (y := (decide (n_1 < (gt l i4).t))))) ?_
      refine WR.nil ?_
      change WC _ _ _ _ _ _
      refine WC.cif h (by kernel_rfl) (fun hb19 h => ?_) (fun hb19 h => ?_)
      · skip
        refine WC.region ?_
        refine va rfl rfl rfl (q_move (v := .slice Al l.length cl) rfl (by kernel_rfl)) ?_
        refine va rfl rfl rfl (q_move (v := .int .i64 ((i4 : Nat) : Int)) rfl (by kernel_rfl)) ?_
        refine va rfl rfl rfl (q_ixn (i := i4) Try.underlying56 Try.sizeOf71 rfl rfl rfl hl9 (hl.some_ hl9)) ?_
        refine va rfl rfl rfl (q_field_addr (i4 * 3 + 2) fld_71_2 rfl rfl (hl.some_ hl9) rfl) ?_
        refine va rfl rfl rfl (q_ld (c := 2) (v := .int .i64 (gt l i4).t) (hl.spanT_at hl9).2 rfl Try.isAgg2 rfl rfl) ?_
        refine va rfl rfl rfl (q_assign (v := .int .i64 (gt l i4).t) rfl (by kernel_rfl)) ?_
        refine WR.nil ?_
        intro w hw
        exact ⟨(gt l i4).t, h, (sl_ (by kernel_rfl)), hw, (hl.spanT_at hl9).1.2.2, trivial⟩
      · skip
        refine WC.skip ?_
        intro w hw
        exact ⟨n_1, h, (sl_ (by kernel_rfl)), hw, hr2, trivial⟩
    · skip
      rintro σ w ⟨n_10, h, hsl, hw, hr11, -⟩
      refine Wpt.slots hsl ?_
      refine WC.here (C := CC F Γ []) ?_ hw
      clear hw hsl
      refine WC.region ?_
      refine va rfl rfl rfl (q_move (v := .int .i64 ((i4 : Nat) : Int)) rfl (by kernel_rfl)) ?_
      refine va rfl rfl rfl (q_add_r (r := ((i4 + 1 : Nat) : Int)) rfl rfl rfl (ctr_len hl9 hl.le)) ?_
      refine va rfl rfl rfl (q_assign (v := .int .i64 ((i4 + 1 : Nat) : Int)) rfl (by kernel_rfl)) ?_
      refine WR.nil ?_
      intro w hw
      exact ⟨hl9, n_10, h, (sl_ (by kernel_rfl)), hw, hr11, trivial⟩
  · skip
    have h := hge7 (ige hb8)
    refine WC.exit ?_
    change WC _ _ _ _ _ _
    refine WC.rs ?_
    refine va rfl rfl rfl (q_move (v := .int .i64 n_1) rfl (by kernel_rfl)) ?_
    refine va rfl rfl rfl (q_assign (v := .int .i64 n_1) rfl (by kernel_rfl)) ?_
    refine WR.nil ?_
    change WC _ _ _ _ _ _
    refine WC.ret ?_
    intro w hw
    obtain rfl := Option.some.inj h
    subst hF
    exact ⟨by kernel_rfl, hw.fr⟩
set_option maxRecDepth 100000 in
set_option maxHeartbeats 400000 in
theorem t_firthref05_RightOne {Γ : Gh} {w0 : World} {Av_2 : Option Addr} {cv_2 : Nat} (v_ : Ver) (hv_ : Ver.fits Γ Av_2 cv_2 v_) (hs : Sat Γ w0) {r : Bool} (h : m_firthref05_RightOne v_ = some r) : Calls Try.prog 31 #[.agg #[.int .i64 v_.dot.s, .int .i64 v_.dot.n, .slice Av_2 v_.past.length cv_2, .bool v_.gone, .string v_.val]] w0 (fun e w' => e = .returned (.bool r) ∧ Fr no w0 w') := by
  refine calls_of (N := 34) (rs := [2]) (args := [.agg #[.int .i64 v_.dot.s, .int .i64 v_.dot.n, .slice Av_2 v_.past.length cv_2, .bool v_.gone, .string v_.val]]) Try.func31 rfl Try.ntmps31 Try.results31 rfl ?_
  obtain ⟨F, hF⟩ : ∃ F : Fm, F = ⟨no, w0, Γ⟩ := ⟨_, rfl⟩
  refine WC.here (C := CC F Γ []) ?_ (hF ▸ Cur.start0 hs)
  refine WC.rs ?_
  refine e_box (v := .agg #[.int .i64 v_.dot.s, .int .i64 v_.dot.n, .slice Av_2 v_.past.length cv_2, .bool v_.gone, .string v_.val]) rfl rfl rfl rfl (by kernel_rfl) ?_
  intro g1
  refine va rfl rfl rfl (q_assign (v := .bool false) rfl (by kernel_rfl)) ?_
  refine WR.nil ?_
  change WC _ _ _ _ _ _
  refine WC.seq ?_
  refine WC.seq ?_
  refine WC.dr (by kernel_rfl) (by kernel_rfl) (fun w hw => hw.drawn _) ?_
  refine wa rfl rfl rfl (q_fl 0 fld_58_0 rfl rfl rfl) ?_
  refine wa rfl rfl rfl (q_ldla (i := 0) (vs := [.int .i64 v_.dot.s, .int .i64 v_.dot.n]) rfl rfl Try.isAgg55 Try.sizeOf55 rfl rfl) ?_
  obtain ⟨z2, hz3, h⟩ := bnd h
  refine wc rfl rfl rfl (q_call (call_run Try.call57 rfl rfl (by kernel_rfl)) (fun w hw => t_firthref03_Dot (Γ := Gh.all w) v_.dot ⟨hv_.1, hv_.2.1⟩ (Sat.all w) hz3)) ?_
  refine wa rfl rfl rfl (q_not rfl rfl) ?_
  refine wa rfl rfl rfl (q_move (v := .bool (!z2)) rfl (by kernel_rfl)) ?_
  refine wg0 rfl rfl rfl rfl rfl (fun hg4 => QV.qo (q_fl 2 fld_58_1 rfl rfl rfl)) ?_
  refine wg0 rfl rfl rfl rfl rfl (fun hg5 => QV.qo (q_ldl (i := 0) (v := .slice Av_2 v_.past.length cv_2) rfl rfl Try.isAgg56 (gu hg5 rfl) rfl)) ?_
  obtain ⟨z7, hz8, h⟩ := bnd h
  refine wg0 rfl rfl rfl rfl rfl (fun hg6 => (q_call (call_run Try.call58 rfl rfl (args1 (gu hg6 rfl))) (fun w hw => t_firthref03_Right (Γ := Gh.all w) (hv_.2.2.1.2.mono hw.sat.le_all) hv_.2.2.1.1 (Sat.all w) (gc_of hz8 hg6)))) ?_
  refine wg0 rfl rfl rfl rfl rfl (fun hg9 => QV.qo (q_not rfl (gu hg9 rfl))) ?_
  refine wa rfl rfl rfl (q_pick rfl rfl (pk_or' (g := (!z2)) (y := (!z7)))) ?_
  refine wa rfl rfl rfl (q_move (v := .bool ((!z2) || (!z7))) rfl (by kernel_rfl)) ?_
  refine wg0 rfl rfl rfl rfl rfl (fun hg10 => QV.qo (q_fl 2 fld_58_1 rfl rfl rfl)) ?_
  refine wg0 rfl rfl rfl rfl rfl (fun hg11 => QV.qo (q_ldl (i := 0) (v := .slice Av_2 v_.past.length cv_2) rfl rfl Try.isAgg56 (gu hg11 rfl) rfl)) ?_
  refine wg0 rfl rfl rfl rfl rfl (fun hg12 => QV.qo (q_fl 0 fld_58_0 rfl rfl rfl)) ?_
  refine wg0 rfl rfl rfl rfl rfl (fun hg13 => QV.qo (q_fl 0 fld_55_0 rfl (gu hg13 rfl) rfl)) ?_
  refine wg0 rfl rfl rfl rfl rfl (fun hg14 => QV.qo (q_ldl (i := 0) (v := .int .i64 v_.dot.s) rfl rfl Try.isAgg3 (gu hg14 rfl) rfl)) ?_
  obtain ⟨z16, hz17, h⟩ := bnd h
  refine wg0 rfl rfl rfl rfl rfl (fun hg15 => (q_call (call_run Try.call59 rfl rfl (args2 (gu hg15 rfl) (gu hg15 rfl))) (fun w hw => t_firthref03_Top (Γ := Gh.all w) (hv_.2.2.1.2.mono hw.sat.le_all) hv_.2.2.1.1 v_.dot.s hv_.1 (Sat.all w) (gc_of hz17 hg15)))) ?_
  refine wg0 rfl rfl rfl rfl rfl (fun hg18 => QV.qo (q_fl 0 fld_58_0 rfl rfl rfl)) ?_
  refine wg0 rfl rfl rfl rfl rfl (fun hg19 => QV.qo (q_fl 1 fld_55_1 rfl (gu hg19 rfl) rfl)) ?_
  refine wg0 rfl rfl rfl rfl rfl (fun hg20 => QV.qo (q_ldl (i := 0) (v := .int .i64 v_.dot.n) rfl rfl Try.isAgg2 (gu hg20 rfl) rfl)) ?_
  refine wg0 rfl rfl rfl rfl rfl (fun hg21 => QV.qo (q_geq rfl (gu hg21 rfl) (gu hg21 rfl))) ?_
  refine wa rfl rfl rfl (q_pick rfl rfl (pk_or' (g := ((!z2) || (!z7))) (y := (decide (v_.dot.n ≤ z16))))) ?_
  refine WQ.nil ?_
  change WC _ _ _ _ _ _
  refine WC.cif h (by kernel_rfl) (fun hb22 h => ?_) (fun hb22 h => ?_)
  · skip
    refine WC.rs ?_
    refine va rfl rfl rfl (q_assign (v := .bool false) rfl (by kernel_rfl)) ?_
    refine WR.nil ?_
    change WC _ _ _ _ _ _
    refine WC.ret ?_
    intro w hw
    obtain rfl := Option.some.inj h
    subst hF
    exact ⟨by kernel_rfl, hw.fr⟩
  · skip
    refine WC.skip ?_
    change WC _ _ _ _ _ _
    refine WC.seq ?_
    refine WC.rs ?_
    refine va rfl rfl rfl (q_fl 3 fld_58_2 rfl rfl rfl) ?_
    refine va rfl rfl rfl (q_ldl (i := 0) (v := .bool v_.gone) rfl rfl Try.isAgg4 rfl rfl) ?_
    refine WR.nil ?_
    change WC _ _ _ _ _ _
    refine WC.cif h (by kernel_rfl) (fun hb23 h => ?_) (fun hb23 h => ?_)
    · skip
      refine WC.rs ?_
      refine va rfl rfl rfl (q_fl 4 fld_58_3 rfl rfl rfl) ?_
      refine va rfl rfl rfl (q_ldl (i := 0) (v := .string v_.val) rfl rfl Try.isAgg9 rfl rfl) ?_
      refine va rfl rfl rfl (q_seql rfl rfl rfl) ?_
      refine va rfl rfl rfl (q_assign (v := .bool (v_.val == ByteArray.empty)) rfl (by kernel_rfl)) ?_
      refine WR.nil ?_
      change WC _ _ _ _ _ _
      refine WC.ret ?_
      intro w hw
      obtain rfl := Option.some.inj h
      subst hF
      exact ⟨by kernel_rfl, hw.fr⟩
    · skip
      refine WC.skip ?_
      change WC _ _ _ _ _ _
      refine WC.rs ?_
      refine va rfl rfl rfl (q_fl 4 fld_58_3 rfl rfl rfl) ?_
      refine va rfl rfl rfl (q_ldl (i := 0) (v := .string v_.val) rfl rfl Try.isAgg9 rfl rfl) ?_
      refine va rfl rfl rfl (q_len_str rfl Try.underlying9 rfl) ?_
      refine va rfl rfl rfl (q_leq rfl rfl rfl) ?_
      refine va rfl rfl rfl (q_assign (v := .bool (decide (((v_.val.size : Nat) : Int) ≤ 256))) rfl (by kernel_rfl)) ?_
      refine WR.nil ?_
      change WC _ _ _ _ _ _
      refine WC.ret ?_
      intro w hw
      obtain rfl := Option.some.inj h
      subst hF
      exact ⟨by kernel_rfl, hw.fr⟩
set_option maxRecDepth 100000 in
set_option maxHeartbeats 400000 in
theorem t_firthref03_Has {Γ : Gh} {w0 : World} {Al : Option Addr} {cl : Nat} {l : List Span} (hl : Sl spanT Γ Al l) (hlc : l.length ≤ cl) (d : Dot) (hd : Dot.fits Γ  d) (hs : Sat Γ w0) {r : Bool} (h : m_firthref03_Has l d = some r) : Calls Try.prog 61 #[.slice Al l.length cl, .agg #[.int .i64 d.s, .int .i64 d.n]] w0 (fun e w' => e = .returned (.bool r) ∧ Fr no w0 w') := by
  refine calls_of (N := 40) (rs := [4]) (args := [.slice Al l.length cl, .agg #[.int .i64 d.s, .int .i64 d.n]]) Try.func61 rfl Try.ntmps61 Try.results61 rfl ?_
  obtain ⟨F, hF⟩ : ∃ F : Fm, F = ⟨no, w0, Γ⟩ := ⟨_, rfl⟩
  refine WC.here (C := CC F Γ []) ?_ (hF ▸ Cur.start0 hs)
  refine WC.rs ?_
  refine e_box (v := .agg #[.int .i64 d.s, .int .i64 d.n]) rfl rfl rfl rfl (by kernel_rfl) ?_
  intro g1
  refine va rfl rfl rfl (q_assign (v := .bool false) rfl (by kernel_rfl)) ?_
  refine WR.nil ?_
  change WC _ _ _ _ _ _
  refine WC.seq ?_
  refine WC.rs ?_
  refine va rfl rfl rfl (q_assign (v := .int .i64 0) rfl (by kernel_rfl)) ?_
  refine WR.nil ?_
  change WC _ _ _ _ _ _
  refine WC.block ?_
  refine WC.forI h (fun (i3 : Nat) (s : Unit) σ w => match s with | () => slots σ [(0, .slice Al l.length cl), (3, .pointer (some ⟨g1, 0, none⟩)), (5, .int .i64 ((i3 : Nat) : Int))] ∧ CC F Γ [[(g1, .cells #[.int .i64 d.s, .int .i64 d.n] 55 (0, 0))]] w ∧ True) ?_ ?_
  · skip
    intro w hw
    exact ⟨(sl_ (by kernel_rfl)), hw, trivial⟩
  rintro f2 i3 ⟨⟩ σ w hi4 hlt5 hge6 ⟨hsl, hw, -⟩
  refine Wpt.slots hsl ?_
  refine WC.here (C := CC F Γ [[(g1, .cells #[.int .i64 d.s, .int .i64 d.n] 55 (0, 0))]]) ?_ hw
  clear hw hsl
  refine WC.seq ?_
  refine WC.rs ?_
  refine va rfl rfl rfl (q_move (v := .int .i64 ((i3 : Nat) : Int)) rfl (by kernel_rfl)) ?_
  refine va rfl rfl rfl (q_move (v := .slice Al l.length cl) rfl (by kernel_rfl)) ?_
  refine va rfl rfl rfl (q_len_slice rfl Try.underlying56 rfl) ?_
  refine va rfl rfl rfl (q_lss rfl rfl rfl) ?_
  refine WR.nil ?_
  change WC _ _ _ _ _ _
  refine WC.cond (b := (decide (((i3 : Nat) : Int) < ((l.length : Nat) : Int)))) (by kernel_rfl) (fun hb7 => ?_) (fun hb7 => ?_)
  · skip
    have hl8 := ilt hb7
    have h := hlt5 hl8
    refine WC.skip ?_
    change WC _ _ _ _ _ _
    refine WC.seq ?_
    refine WC.block ?_
    refine WC.seq ?_
    refine WC.dr (by kernel_rfl) (by kernel_rfl) (fun w hw => hw.drawn _) ?_
    refine wa rfl rfl rfl (q_move (v := .slice Al l.length cl) rfl (by kernel_rfl)) ?_
    refine wa rfl rfl rfl (q_move (v := .int .i64 ((i3 : Nat) : Int)) rfl (by kernel_rfl)) ?_
    refine wa rfl rfl rfl (q_ixn (i := i3) Try.underlying56 Try.sizeOf71 rfl rfl rfl hl8 (hl.some_ hl8)) ?_
    refine wa rfl rfl rfl (q_field_addr (i3 * 3) fld_71_0 rfl rfl (hl.some_ hl8) rfl) ?_
    refine wa rfl rfl rfl (q_ld (c := 0) (v := .int .i64 (gt l i3).s) (hl.spanT_at hl8).2 rfl Try.isAgg3 rfl rfl) ?_
    refine wa rfl rfl rfl (q_fl 0 fld_55_0 rfl rfl rfl) ?_
    refine wa rfl rfl rfl (q_ldl (i := 0) (v := .int .i64 d.s) rfl rfl Try.isAgg3 rfl rfl) ?_
    refine wa rfl rfl rfl (q_eql rfl rfl rfl) ?_
    refine wa rfl rfl rfl (q_move (v := .bool ((gt l i3).s == d.s)) rfl (by kernel_rfl)) ?_
    refine wg1 rfl rfl rfl rfl rfl (fun hg9 => QV.qo (q_fl 1 fld_55_1 rfl rfl rfl)) ?_
    refine wg1 rfl rfl rfl rfl rfl (fun hg10 => QV.qo (q_ldl (i := 0) (v := .int .i64 d.n) rfl rfl Try.isAgg2 (gu hg10 rfl) rfl)) ?_
    refine wg1 rfl rfl rfl rfl rfl (fun hg11 => QV.qo (q_move (v := .slice Al l.length cl) rfl (by kernel_rfl))) ?_
    refine wg1 rfl rfl rfl rfl rfl (fun hg12 => QV.qo (q_move (v := .int .i64 ((i3 : Nat) : Int)) rfl (by kernel_rfl))) ?_
    refine wg1 rfl rfl rfl rfl rfl (fun hg13 => QV.qo (q_ixn (i := i3) Try.underlying56 Try.sizeOf71 rfl (gu hg13 rfl) (gu hg13 rfl) hl8 (hl.some_ hl8))) ?_
    refine wg1 rfl rfl rfl rfl rfl (fun hg14 => QV.qo (q_field_addr (i3 * 3 + 1) fld_71_1 rfl (gu hg14 rfl) (hl.some_ hl8) rfl)) ?_
    refine wg1 rfl rfl rfl rfl rfl (fun hg15 => QV.qo (q_ld (c := 1) (v := .int .i64 (gt l i3).f) (hl.spanT_at hl8).2 rfl Try.isAgg2 (gu hg15 rfl) rfl)) ?_
    refine wg1 rfl rfl rfl rfl rfl (fun hg16 => QV.qo (q_geq rfl (gu hg16 rfl) (gu hg16 rfl))) ?_
    refine wa rfl rfl rfl (q_pick rfl rfl (pk_and' (g := ((gt l i3).s == d.s)) (y := (decide ((gt l i3).f ≤ d.n))))) ?_
    refine wa rfl rfl rfl (q_move (v := .bool (((gt l i3).s == d.s) && (decide ((gt l i3).f ≤ d.n)))) rfl (by kernel_rfl)) ?_
    refine wg1 rfl rfl rfl rfl rfl (fun hg17 => QV.qo (q_fl 1 fld_55_1 rfl rfl rfl)) ?_
    refine wg1 rfl rfl rfl rfl rfl (fun hg18 => QV.qo (q_ldl (i := 0) (v := .int .i64 d.n) rfl rfl Try.isAgg2 (gu hg18 rfl) rfl)) ?_
    refine wg1 rfl rfl rfl rfl rfl (fun hg19 => QV.qo (q_move (v := .slice Al l.length cl) rfl (by kernel_rfl))) ?_
    refine wg1 rfl rfl rfl rfl rfl (fun hg20 => QV.qo (q_move (v := .int .i64 ((i3 : Nat) : Int)) rfl (by kernel_rfl))) ?_
    refine wg1 rfl rfl rfl rfl rfl (fun hg21 => QV.qo (q_ixn (i := i3) Try.underlying56 Try.sizeOf71 rfl (gu hg21 rfl) (gu hg21 rfl) hl8 (hl.some_ hl8))) ?_
    refine wg1 rfl rfl rfl rfl rfl (fun hg22 => QV.qo (q_field_addr (i3 * 3 + 2) fld_71_2 rfl (gu hg22 rfl) (hl.some_ hl8) rfl)) ?_
    refine wg1 rfl rfl rfl rfl rfl (fun hg23 => QV.qo (q_ld (c := 2) (v := .int .i64 (gt l i3).t) (hl.spanT_at hl8).2 rfl Try.isAgg2 (gu hg23 rfl) rfl)) ?_
    refine wg1 rfl rfl rfl rfl rfl (fun hg24 => QV.qo (q_leq rfl (gu hg24 rfl) (gu hg24 rfl))) ?_
    refine wa rfl rfl rfl (q_pick rfl rfl (pk_and' (g := (((gt l i3).s == d.s) && (decide ((gt l i3).f ≤ d.n)))) (y := (decide (d.n ≤ (gt l i3).t))))) ?_
    refine WQ.nil ?_
    change WC _ _ _ _ _ _
    refine WC.cif h (by kernel_rfl) (fun hb25 h => ?_) (fun hb25 h => ?_)
    · skip
      refine WC.rs ?_
      refine va rfl rfl rfl (q_assign (v := .bool true) rfl (by kernel_rfl)) ?_
      refine WR.nil ?_
      change WC _ _ _ _ _ _
      refine WC.ret ?_
      intro w hw
      obtain rfl := Option.some.inj h
      subst hF
      exact ⟨by kernel_rfl, hw.fr⟩
    · skip
      refine WC.skip ?_
      change WC _ _ _ _ _ _
      refine WC.region ?_
      refine va rfl rfl rfl (q_move (v := .int .i64 ((i3 : Nat) : Int)) rfl (by kernel_rfl)) ?_
      refine va rfl rfl rfl (q_add_r (r := ((i3 + 1 : Nat) : Int)) rfl rfl rfl (ctr_len hl8 hl.le)) ?_
      refine va rfl rfl rfl (q_assign (v := .int .i64 ((i3 + 1 : Nat) : Int)) rfl (by kernel_rfl)) ?_
      refine WR.nil ?_
      intro w hw
      exact ⟨hl8, (), h, (sl_ (by kernel_rfl)), hw, trivial⟩
  · skip
    have h := hge6 (ige hb7)
    refine WC.exit ?_
    change WC _ _ _ _ _ _
    refine WC.rs ?_
    refine va rfl rfl rfl (q_assign (v := .bool false) rfl (by kernel_rfl)) ?_
    refine WR.nil ?_
    change WC _ _ _ _ _ _
    refine WC.ret ?_
    intro w hw
    obtain rfl := Option.some.inj h
    subst hF
    exact ⟨by kernel_rfl, hw.fr⟩
set_option maxRecDepth 100000 in
set_option maxHeartbeats 400000 in
theorem t_firthref05_Behind {Γ : Gh} {w0 : World} {Al : Option Addr} {cl : Nat} {l : List Ver} (hl : Sl verT Γ Al l) (hlc : l.length ≤ cl) (d : Dot) (hd : Dot.fits Γ  d) (hs : Sat Γ w0) {r : Bool} (h : m_firthref05_Behind l d = some r) : Calls Try.prog 33 #[.slice Al l.length cl, .agg #[.int .i64 d.s, .int .i64 d.n]] w0 (fun e w' => e = .returned (.bool r) ∧ Fr no w0 w') := by
  refine calls_of (N := 19) (rs := [4]) (args := [.slice Al l.length cl, .agg #[.int .i64 d.s, .int .i64 d.n]]) Try.func33 rfl Try.ntmps33 Try.results33 rfl ?_
  obtain ⟨F, hF⟩ : ∃ F : Fm, F = ⟨no, w0, Γ⟩ := ⟨_, rfl⟩
  refine WC.here (C := CC F Γ []) ?_ (hF ▸ Cur.start0 hs)
  refine WC.rs ?_
  refine e_box (v := .agg #[.int .i64 d.s, .int .i64 d.n]) rfl rfl rfl rfl (by kernel_rfl) ?_
  intro g1
  refine va rfl rfl rfl (q_assign (v := .bool false) rfl (by kernel_rfl)) ?_
  refine WR.nil ?_
  change WC _ _ _ _ _ _
  refine WC.seq ?_
  refine WC.rs ?_
  refine va rfl rfl rfl (q_assign (v := .int .i64 0) rfl (by kernel_rfl)) ?_
  refine WR.nil ?_
  change WC _ _ _ _ _ _
  refine WC.block ?_
  refine WC.forI h (fun (i3 : Nat) (s : Unit) σ w => match s with | () => slots σ [(0, .slice Al l.length cl), (3, .pointer (some ⟨g1, 0, none⟩)), (5, .int .i64 ((i3 : Nat) : Int))] ∧ CC F Γ [[(g1, .cells #[.int .i64 d.s, .int .i64 d.n] 55 (0, 0))]] w ∧ True) ?_ ?_
  · skip
    intro w hw
    exact ⟨(sl_ (by kernel_rfl)), hw, trivial⟩
  rintro f2 i3 ⟨⟩ σ w hi4 hlt5 hge6 ⟨hsl, hw, -⟩
  refine Wpt.slots hsl ?_
  refine WC.here (C := CC F Γ [[(g1, .cells #[.int .i64 d.s, .int .i64 d.n] 55 (0, 0))]]) ?_ hw
  clear hw hsl
  refine WC.seq ?_
  refine WC.rs ?_
  refine va rfl rfl rfl (q_move (v := .int .i64 ((i3 : Nat) : Int)) rfl (by kernel_rfl)) ?_
  refine va rfl rfl rfl (q_move (v := .slice Al l.length cl) rfl (by kernel_rfl)) ?_
  refine va rfl rfl rfl (q_len_slice rfl Try.underlying40 rfl) ?_
  refine va rfl rfl rfl (q_lss rfl rfl rfl) ?_
  refine WR.nil ?_
  change WC _ _ _ _ _ _
  refine WC.cond (b := (decide (((i3 : Nat) : Int) < ((l.length : Nat) : Int)))) (by kernel_rfl) (fun hb7 => ?_) (fun hb7 => ?_)
  · skip
    have hl8 := ilt hb7
    have h := hlt5 hl8
    refine WC.skip ?_
    change WC _ _ _ _ _ _
    refine WC.seq ?_
    refine WC.block ?_
    refine WC.seq ?_
    refine WC.dr (by kernel_rfl) (by kernel_rfl) (fun w hw => hw.drawn _) ?_
    refine wa rfl rfl rfl (q_move (v := .slice Al l.length cl) rfl (by kernel_rfl)) ?_
    refine wa rfl rfl rfl (q_move (v := .int .i64 ((i3 : Nat) : Int)) rfl (by kernel_rfl)) ?_
    refine wa rfl rfl rfl (q_ixn (i := i3) Try.underlying40 Try.sizeOf58 rfl rfl rfl hl8 (hl.some_ hl8)) ?_
    refine wa rfl rfl rfl (q_field_addr (i3 * 5 + 2) fld_58_1 rfl rfl (hl.some_ hl8) rfl) ?_
    obtain ⟨A9, c10, hx11⟩ := hl.verT_at i3
    refine wa rfl rfl rfl (q_ld (c := 2) (v := .slice A9 ((gt l i3).past).length c10) (hx11 hl8).2 rfl Try.isAgg56 rfl rfl) ?_
    refine wa rfl rfl rfl (q_ldla (i := 0) (vs := [.int .i64 d.s, .int .i64 d.n]) rfl rfl Try.isAgg55 Try.sizeOf55 rfl rfl) ?_
    obtain ⟨z12, hz13, h⟩ := bnd h
    refine wc rfl rfl rfl (q_call (call_run Try.call61 rfl rfl (by kernel_rfl)) (fun w hw => t_firthref03_Has (Γ := Gh.all w) ((hx11 hl8).1.2.2.1.2.mono hw.sat.le_all) (hx11 hl8).1.2.2.1.1 d hd (Sat.all w) hz13)) ?_
    refine WQ.nil ?_
    change WC _ _ _ _ _ _
    refine WC.cif h (by kernel_rfl) (fun hb14 h => ?_) (fun hb14 h => ?_)
    · skip
      refine WC.rs ?_
      refine va rfl rfl rfl (q_assign (v := .bool true) rfl (by kernel_rfl)) ?_
      refine WR.nil ?_
      change WC _ _ _ _ _ _
      refine WC.ret ?_
      intro w hw
      obtain rfl := Option.some.inj h
      subst hF
      exact ⟨by kernel_rfl, hw.fr⟩
    · skip
      refine WC.skip ?_
      change WC _ _ _ _ _ _
      refine WC.region ?_
      refine va rfl rfl rfl (q_move (v := .int .i64 ((i3 : Nat) : Int)) rfl (by kernel_rfl)) ?_
      refine va rfl rfl rfl (q_add_r (r := ((i3 + 1 : Nat) : Int)) rfl rfl rfl (ctr_len hl8 hl.le)) ?_
      refine va rfl rfl rfl (q_assign (v := .int .i64 ((i3 + 1 : Nat) : Int)) rfl (by kernel_rfl)) ?_
      refine WR.nil ?_
      intro w hw
      exact ⟨hl8, (), h, (sl_ (by kernel_rfl)), hw, trivial⟩
  · skip
    have h := hge6 (ige hb7)
    refine WC.exit ?_
    change WC _ _ _ _ _ _
    refine WC.rs ?_
    refine va rfl rfl rfl (q_assign (v := .bool false) rfl (by kernel_rfl)) ?_
    refine WR.nil ?_
    change WC _ _ _ _ _ _
    refine WC.ret ?_
    intro w hw
    obtain rfl := Option.some.inj h
    subst hF
    exact ⟨by kernel_rfl, hw.fr⟩
set_option maxRecDepth 100000 in
set_option maxHeartbeats 400000 in
theorem t_firthref05_Less {Γ : Gh} {w0 : World} (a : Dot) (ha : Dot.fits Γ  a) (b : Dot) (hb : Dot.fits Γ  b) (hs : Sat Γ w0) {r : Bool} (h : m_firthref05_Less a b = some r) : Calls Try.prog 56 #[.agg #[.int .i64 a.s, .int .i64 a.n], .agg #[.int .i64 b.s, .int .i64 b.n]] w0 (fun e w' => e = .returned (.bool r) ∧ Fr no w0 w') := by
  refine calls_of (N := 20) (rs := [4]) (args := [.agg #[.int .i64 a.s, .int .i64 a.n], .agg #[.int .i64 b.s, .int .i64 b.n]]) Try.func56 rfl Try.ntmps56 Try.results56 rfl ?_
  obtain ⟨F, hF⟩ : ∃ F : Fm, F = ⟨no, w0, Γ⟩ := ⟨_, rfl⟩
  refine WC.here (C := CC F Γ []) ?_ (hF ▸ Cur.start0 hs)
  refine WC.rs ?_
  refine e_box (v := .agg #[.int .i64 a.s, .int .i64 a.n]) rfl rfl rfl rfl (by kernel_rfl) ?_
  intro g1
  refine e_box (v := .agg #[.int .i64 b.s, .int .i64 b.n]) rfl rfl rfl rfl (by kernel_rfl) ?_
  intro g2
  refine va rfl rfl rfl (q_assign (v := .bool false) rfl (by kernel_rfl)) ?_
  refine WR.nil ?_
  change WC _ _ _ _ _ _
  refine WC.seq ?_
  refine WC.rs ?_
  refine va rfl rfl rfl (q_fl 0 fld_55_0 rfl rfl rfl) ?_
  refine va rfl rfl rfl (q_ldl (i := 1) (v := .int .i64 a.s) rfl rfl Try.isAgg3 rfl rfl) ?_
  refine va rfl rfl rfl (q_fl 0 fld_55_0 rfl rfl rfl) ?_
  refine va rfl rfl rfl (q_ldl (i := 0) (v := .int .i64 b.s) rfl rfl Try.isAgg3 rfl rfl) ?_
  refine va rfl rfl rfl (q_neq rfl rfl rfl) ?_
  refine WR.nil ?_
  change WC _ _ _ _ _ _
  refine WC.cif h (by kernel_rfl) (fun hb3 h => ?_) (fun hb3 h => ?_)
  · skip
    refine WC.rs ?_
    refine va rfl rfl rfl (q_fl 0 fld_55_0 rfl rfl rfl) ?_
    refine va rfl rfl rfl (q_ldl (i := 1) (v := .int .i64 a.s) rfl rfl Try.isAgg3 rfl rfl) ?_
    refine va rfl rfl rfl (q_fl 0 fld_55_0 rfl rfl rfl) ?_
    refine va rfl rfl rfl (q_ldl (i := 0) (v := .int .i64 b.s) rfl rfl Try.isAgg3 rfl rfl) ?_
    refine va rfl rfl rfl (q_lss rfl rfl rfl) ?_
    refine va rfl rfl rfl (q_assign (v := .bool (decide (a.s < b.s))) rfl (by kernel_rfl)) ?_
    refine WR.nil ?_
    change WC _ _ _ _ _ _
    refine WC.ret ?_
    intro w hw
    obtain rfl := Option.some.inj h
    subst hF
    exact ⟨by kernel_rfl, hw.fr⟩
  · skip
    refine WC.skip ?_
    change WC _ _ _ _ _ _
    refine WC.rs ?_
    refine va rfl rfl rfl (q_fl 1 fld_55_1 rfl rfl rfl) ?_
    refine va rfl rfl rfl (q_ldl (i := 1) (v := .int .i64 a.n) rfl rfl Try.isAgg2 rfl rfl) ?_
    refine va rfl rfl rfl (q_fl 1 fld_55_1 rfl rfl rfl) ?_
    refine va rfl rfl rfl (q_ldl (i := 0) (v := .int .i64 b.n) rfl rfl Try.isAgg2 rfl rfl) ?_
    refine va rfl rfl rfl (q_lss rfl rfl rfl) ?_
    refine va rfl rfl rfl (q_assign (v := .bool (decide (a.n < b.n))) rfl (by kernel_rfl)) ?_
    refine WR.nil ?_
    change WC _ _ _ _ _ _
    refine WC.ret ?_
    intro w hw
    obtain rfl := Option.some.inj h
    subst hF
    exact ⟨by kernel_rfl, hw.fr⟩
set_option maxRecDepth 100000 in
set_option maxHeartbeats 400000 in
theorem t_firthref05_Right {Γ : Gh} {w0 : World} {Al : Option Addr} {cl : Nat} {l : List Ver} (hl : Sl verT Γ Al l) (hlc : l.length ≤ cl) (hs : Sat Γ w0) {r : Bool} (h : m_firthref05_Right l = some r) : Calls Try.prog 30 #[.slice Al l.length cl] w0 (fun e w' => e = .returned (.bool r) ∧ Fr no w0 w') := by
  refine calls_of (N := 45) (rs := [2]) (args := [.slice Al l.length cl]) Try.func30 rfl Try.ntmps30 Try.results30 rfl ?_
  obtain ⟨F, hF⟩ : ∃ F : Fm, F = ⟨no, w0, Γ⟩ := ⟨_, rfl⟩
  refine WC.here (C := CC F Γ []) ?_ (hF ▸ Cur.start0 hs)
  refine WC.rs ?_
  refine va rfl rfl rfl (q_assign (v := .bool false) rfl (by kernel_rfl)) ?_
  refine WR.nil ?_
  change WC _ _ _ _ _ _
  refine WC.seq ?_
  refine WC.rs ?_
  refine va rfl rfl rfl (q_move (v := .slice Al l.length cl) rfl (by kernel_rfl)) ?_
  refine va rfl rfl rfl (q_len_slice rfl Try.underlying40 rfl) ?_
  refine va rfl rfl rfl (q_gtr rfl rfl rfl) ?_
  refine WR.nil ?_
  change WC _ _ _ _ _ _
  refine WC.cif h (by kernel_rfl) (fun hb1 h => ?_) (fun hb1 h => ?_)
  · skip
    refine WC.rs ?_
    refine va rfl rfl rfl (q_assign (v := .bool false) rfl (by kernel_rfl)) ?_
    refine WR.nil ?_
    change WC _ _ _ _ _ _
    refine WC.ret ?_
    intro w hw
    obtain rfl := Option.some.inj h
    subst hF
    exact ⟨by kernel_rfl, hw.fr⟩
  · skip
    refine WC.skip ?_
    change WC _ _ _ _ _ _
    refine WC.seq ?_
    refine WC.rs ?_
    refine va rfl rfl rfl (q_assign (v := .int .i64 0) rfl (by kernel_rfl)) ?_
    refine WR.nil ?_
    change WC _ _ _ _ _ _
    refine WC.block ?_
    refine WC.forI h (fun (i3 : Nat) (s : Unit) σ w => match s with | () => slots σ [(0, .slice Al l.length cl), (3, .int .i64 ((i3 : Nat) : Int))] ∧ CC F Γ [] w ∧ True) ?_ ?_
    · skip
      intro w hw
      exact ⟨(sl_ (by kernel_rfl)), hw, trivial⟩
    rintro f2 i3 ⟨⟩ σ w hi4 hlt5 hge6 ⟨hsl, hw, -⟩
    refine Wpt.slots hsl ?_
    refine WC.here (C := CC F Γ []) ?_ hw
    clear hw hsl
    refine WC.seq ?_
    refine WC.rs ?_
    refine va rfl rfl rfl (q_move (v := .int .i64 ((i3 : Nat) : Int)) rfl (by kernel_rfl)) ?_
    refine va rfl rfl rfl (q_move (v := .slice Al l.length cl) rfl (by kernel_rfl)) ?_
    refine va rfl rfl rfl (q_len_slice rfl Try.underlying40 rfl) ?_
    refine va rfl rfl rfl (q_lss rfl rfl rfl) ?_
    refine WR.nil ?_
    change WC _ _ _ _ _ _
    refine WC.cond (b := (decide (((i3 : Nat) : Int) < ((l.length : Nat) : Int)))) (by kernel_rfl) (fun hb7 => ?_) (fun hb7 => ?_)
    · skip
      have hl8 := ilt hb7
      have h := hlt5 hl8
      refine WC.skip ?_
      change WC _ _ _ _ _ _
      refine WC.seq ?_
      refine WC.block ?_
      refine WC.seq ?_
      refine WC.rs ?_
      refine va rfl rfl rfl (q_move (v := .slice Al l.length cl) rfl (by kernel_rfl)) ?_
      refine va rfl rfl rfl (q_move (v := .int .i64 ((i3 : Nat) : Int)) rfl (by kernel_rfl)) ?_
      refine va rfl rfl rfl (q_ixn (i := i3) Try.underlying40 Try.sizeOf58 rfl rfl rfl hl8 (hl.some_ hl8)) ?_
      obtain ⟨A9, c10, hx11⟩ := hl.verT_at i3
      refine va rfl rfl rfl (q_lda (c := 0) (vs := [.int .i64 (gt l i3).dot.s, .int .i64 (gt l i3).dot.n, .slice A9 ((gt l i3).past).length c10, .bool (gt l i3).gone, .string (gt l i3).val]) (hx11 hl8).2 rfl Try.isAgg58 Try.sizeOf58 rfl rfl rfl) ?_
      obtain ⟨z12, hz13, h⟩ := bnd h
      refine vc rfl rfl rfl (q_call (call_run Try.call31 rfl rfl (by kernel_rfl)) (fun w hw => t_firthref05_RightOne (Γ := Gh.all w) (gt l i3) (Ver.fits_mono (hx11 hl8).1 hw.sat.le_all) (Sat.all w) hz13)) ?_
      refine va rfl rfl rfl (q_not rfl rfl) ?_
      refine va rfl rfl rfl (q_move (v := .bool (!z12)) rfl (by kernel_rfl)) ?_
      refine vg0 rfl rfl rfl rfl rfl (fun hg14 => QV.qo (q_move (v := .slice Al l.length cl) rfl (by kernel_rfl))) ?_
      refine vg0 rfl rfl rfl rfl rfl (fun hg15 => QV.qo (q_move (v := .slice Al l.length cl) rfl (by kernel_rfl))) ?_
      refine vg0 rfl rfl rfl rfl rfl (fun hg16 => QV.qo (q_move (v := .int .i64 ((i3 : Nat) : Int)) rfl (by kernel_rfl))) ?_
      refine vg0 rfl rfl rfl rfl rfl (fun hg17 => QV.qo (q_ixn (i := i3) Try.underlying40 Try.sizeOf58 rfl (gu hg17 rfl) (gu hg17 rfl) hl8 (hl.some_ hl8))) ?_
      refine vg0 rfl rfl rfl rfl rfl (fun hg18 => QV.qo (q_field_addr (i3 * 5) fld_58_0 rfl (gu hg18 rfl) (hl.some_ hl8) rfl)) ?_
      refine vg0 rfl rfl rfl rfl rfl (fun hg19 => QV.qo (q_lda (c := 0) (vs := [.int .i64 (gt l i3).dot.s, .int .i64 (gt l i3).dot.n]) (hx11 hl8).2 rfl Try.isAgg55 Try.sizeOf55 (gu hg19 rfl) rfl rfl)) ?_
      obtain ⟨z21, hz22, h⟩ := bnd h
      refine vg0 rfl rfl rfl rfl rfl (fun hg20 => (q_call (call_run Try.call33 rfl rfl (args2 (gu hg20 rfl) (gu hg20 rfl))) (fun w hw => t_firthref05_Behind (Γ := Gh.all w) (hl.mono hw.sat.le_all) hlc ((gt l i3).dot) ⟨(hx11 hl8).1.1, (hx11 hl8).1.2.1⟩ (Sat.all w) (gc_of hz22 hg20)))) ?_
      refine va rfl rfl rfl (q_pick rfl rfl (pk_or' (g := (!z12)) (y := z21))) ?_
      refine WR.nil ?_
      change WC _ _ _ _ _ _
      refine WC.cif h (by kernel_rfl) (fun hb23 h => ?_) (fun hb23 h => ?_)
      · skip
        refine WC.rs ?_
        refine va rfl rfl rfl (q_assign (v := .bool false) rfl (by kernel_rfl)) ?_
        refine WR.nil ?_
        change WC _ _ _ _ _ _
        refine WC.ret ?_
        intro w hw
        obtain rfl := Option.some.inj h
        subst hF
        exact ⟨by kernel_rfl, hw.fr⟩
      · skip
        refine WC.skip ?_
        change WC _ _ _ _ _ _
        refine WC.seq ?_
        refine WC.dr (by kernel_rfl) (by kernel_rfl) (fun w hw => hw.drawn _) ?_
        refine wa rfl rfl rfl (q_move (v := .int .i64 ((i3 : Nat) : Int)) rfl (by kernel_rfl)) ?_
        refine wa rfl rfl rfl (q_gtr rfl rfl rfl) ?_
        refine wa rfl rfl rfl (q_move (v := .bool (decide (0 < ((i3 : Nat) : Int)))) rfl (by kernel_rfl)) ?_
        refine wg1 rfl rfl rfl rfl rfl (fun hg24 => QV.qo (q_move (v := .slice Al l.length cl) rfl (by kernel_rfl))) ?_
        refine wg1 rfl rfl rfl rfl rfl (fun hg25 => QV.qo (q_move (v := .int .i64 ((i3 : Nat) : Int)) rfl (by kernel_rfl))) ?_
        refine wg1 rfl rfl rfl rfl rfl (fun hg26 => QV.qo (q_sub rfl (gu hg26 rfl) rfl)) ?_
        obtain ⟨hk28, h⟩ := chk_some h
        refine wg1 rfl rfl rfl rfl rfl (fun hg27 => QV.qo (q_ix Try.underlying40 Try.sizeOf58 rfl (gu hg27 rfl) (gu hg27 rfl) (imp_of hk28 hg27) (hl.some_ (inb_lt (imp_of hk28 hg27))))) ?_
        refine wg1 rfl rfl rfl rfl rfl (fun hg29 => QV.qo (q_field_addr (((w64 (((i3 : Nat) : Int) - 1)).toNat) * 5) fld_58_0 rfl (gu hg29 rfl) (hl.some_ (inb_lt (imp_of hk28 hg29))) rfl)) ?_
        obtain ⟨A31, c32, hx33⟩ := hl.verT_at ((w64 (((i3 : Nat) : Int) - 1)).toNat)
        refine wg1 rfl rfl rfl rfl rfl (fun hg30 => QV.qo (q_lda (c := 0) (vs := [.int .i64 (gt l ((w64 (((i3 : Nat) : Int) - 1)).toNat)).dot.s, .int .i64 (gt l ((w64 (((i3 : Nat) : Int) - 1)).toNat)).dot.n]) (hx33 (inb_lt (imp_of hk28 hg30))).2 rfl Try.isAgg55 Try.sizeOf55 (gu hg30 rfl) rfl rfl)) ?_
        refine wg1 rfl rfl rfl rfl rfl (fun hg34 => QV.qo (q_move (v := .slice Al l.length cl) rfl (by kernel_rfl))) ?_
        refine wg1 rfl rfl rfl rfl rfl (fun hg35 => QV.qo (q_move (v := .int .i64 ((i3 : Nat) : Int)) rfl (by kernel_rfl))) ?_
        refine wg1 rfl rfl rfl rfl rfl (fun hg36 => QV.qo (q_ixn (i := i3) Try.underlying40 Try.sizeOf58 rfl (gu hg36 rfl) (gu hg36 rfl) hl8 (hl.some_ hl8))) ?_
        refine wg1 rfl rfl rfl rfl rfl (fun hg37 => QV.qo (q_field_addr (i3 * 5) fld_58_0 rfl (gu hg37 rfl) (hl.some_ hl8) rfl)) ?_
        refine wg1 rfl rfl rfl rfl rfl (fun hg38 => QV.qo (q_lda (c := 0) (vs := [.int .i64 (gt l i3).dot.s, .int .i64 (gt l i3).dot.n]) (hx11 hl8).2 rfl Try.isAgg55 Try.sizeOf55 (gu hg38 rfl) rfl rfl)) ?_
        obtain ⟨z40, hz41, h⟩ := bnd h
        refine wg1 rfl rfl rfl rfl rfl (fun hg39 => (q_call (call_run Try.call56 rfl rfl (args2 (gu hg39 rfl) (gu hg39 rfl))) (fun w hw => t_firthref05_Less (Γ := Gh.all w) ((gt l ((w64 (((i3 : Nat) : Int) - 1)).toNat)).dot) ⟨(hx33 (inb_lt (imp_of hk28 hg39))).1.1, (hx33 (inb_lt (imp_of hk28 hg39))).1.2.1⟩ ((gt l i3).dot) ⟨(hx11 hl8).1.1, (hx11 hl8).1.2.1⟩ (Sat.all w) (gc_of hz41 hg39)))) ?_
        refine wg1 rfl rfl rfl rfl rfl (fun hg42 => QV.qo (q_not rfl (gu hg42 rfl))) ?_
        refine wa rfl rfl rfl (q_pick rfl rfl (pk_and' (g := (decide (0 < ((i3 : Nat) : Int)))) (y := (!z40)))) ?_
        refine WQ.nil ?_
        change WC _ _ _ _ _ _
        refine WC.cif h (by kernel_rfl) (fun hb43 h => ?_) (fun hb43 h => ?_)
        · skip
          refine WC.rs ?_
          refine va rfl rfl rfl (q_assign (v := .bool false) rfl (by kernel_rfl)) ?_
          refine WR.nil ?_
          change WC _ _ _ _ _ _
          refine WC.ret ?_
          intro w hw
          obtain rfl := Option.some.inj h
          subst hF
          exact ⟨by kernel_rfl, hw.fr⟩
        · skip
          refine WC.skip ?_
          change WC _ _ _ _ _ _
          refine WC.region ?_
          refine va rfl rfl rfl (q_move (v := .int .i64 ((i3 : Nat) : Int)) rfl (by kernel_rfl)) ?_
          refine va rfl rfl rfl (q_add_r (r := ((i3 + 1 : Nat) : Int)) rfl rfl rfl (ctr_len hl8 hl.le)) ?_
          refine va rfl rfl rfl (q_assign (v := .int .i64 ((i3 + 1 : Nat) : Int)) rfl (by kernel_rfl)) ?_
          refine WR.nil ?_
          intro w hw
          exact ⟨hl8, (), h, (sl_ (by kernel_rfl)), hw, trivial⟩
    · skip
      have h := hge6 (ige hb7)
      refine WC.exit ?_
      change WC _ _ _ _ _ _
      refine WC.rs ?_
      refine va rfl rfl rfl (q_assign (v := .bool true) rfl (by kernel_rfl)) ?_
      refine WR.nil ?_
      change WC _ _ _ _ _ _
      refine WC.ret ?_
      intro w hw
      obtain rfl := Option.some.inj h
      subst hF
      exact ⟨by kernel_rfl, hw.fr⟩
abbrev r_slices_Clone_int_int_l1 (r : List Int) (U : List Rowb) (Γ : Gh) (v : Value) : Prop := ∃ (A0 : Option Addr), ∃ (c0 : Nat), ∃ (row0 : Rowb), v = .slice A0 r.length c0 ∧ U = [row0] ∧ Own intT Γ 3 row0 A0 c0 r ∧ True
set_option maxRecDepth 100000 in
set_option maxHeartbeats 400000 in
theorem t_slices_Clone_int_int_l1 {Γ : Gh} {w0 : World} {B : Gh} {As_ : Option Addr} {cs_ : Nat} {s_ : List Int} (hs_ : Sl intT B As_ s_) (hs_c : s_.length ≤ cs_) (hp : Pre [] Γ w0) (hpB : Pre [] B w0) {r : List Int} (h : m_slices_Clone_int_int s_ = some r) : Calls Try.prog 71 #[.slice As_ s_.length cs_] w0 (Outc Γ [] w0 (r_slices_Clone_int_int_l1 r)) := by
  refine calls_of (N := 8) (rs := [2]) (args := [.slice As_ s_.length cs_]) Try.func71 rfl Try.ntmps71 Try.results71 rfl ?_
  obtain ⟨F, hF⟩ : ∃ F : Fm, F = ⟨ids [], w0, Γ⟩ := ⟨_, rfl⟩
  refine WC.here (C := CC F Γ []) ?_ (hF ▸ hp.start)
  have hB : Lent F B := hF ▸ Lent.start hpB
  refine WC.rs ?_
  refine va rfl rfl rfl (q_assign (v := .slice none 0 0) rfl (by kernel_rfl)) ?_
  refine WR.nil ?_
  change WC _ _ _ _ _ _
  refine WC.seq ?_
  refine WC.rs ?_
  refine va rfl rfl rfl (q_move (v := .slice As_ s_.length cs_) rfl (by kernel_rfl)) ?_
  refine va rfl rfl rfl (q_nil_slice Try.underlying22 rfl rfl rfl) ?_
  refine WR.nil ?_
  change WC _ _ _ _ _ _
  refine WC.cnil h (by kernel_rfl) (fun hb => hs_.none_nil hb) (fun hb1 h => ?_) (fun hb1 h => ?_)
  · skip
    refine WC.rs ?_
    refine va rfl rfl rfl (q_assign (v := .slice none 0 0) rfl (by kernel_rfl)) ?_
    refine WR.nil ?_
    change WC _ _ _ _ _ _
    refine WC.ret ?_
    intro w hw
    have hw := hw.pad
    obtain rfl := Option.some.inj h
    subst hF
    exact end_e (is := [0]) (by kernel_rfl) hw rfl ⟨none, 0, [], rfl, rfl, (Own.nil intT _ 3), trivial⟩
  · skip
    refine WC.skip ?_
    change WC _ _ _ _ _ _
    refine WC.rs ?_
    refine e_buildSlice (cs := #[]) (e := 3) rfl rfl rfl rfl (fun w => by kernel_rfl) ?_
    intro g2
    refine va rfl rfl rfl (q_move (v := .slice As_ s_.length cs_) rfl (by kernel_rfl)) ?_
    have ho3 : Own intT Γ 3 [(g2, .cells #[] 3 (0, 0))] (some ⟨g2, 0, none⟩) 0 ([] : List Int) := Own.of_blockL (T := intT) (ys := ([] : List Int)) [] rfl (show 0 ≤ lim by decide) (show True from trivial)
    obtain ⟨hk4, h⟩ := chk_some h
    refine e_append (T := intT) (xs := ([] : List Int)) (ys := s_) elem_22 (i := 0) rfl rfl rfl rfl rfl rfl rfl ho3 (of_decide_eq_true hk4) (fun w hw => src_slS (Γ := Γ) (fun w hw => hB.sat hw) (fun _ _ h => h) hs_ hw) ?_
    intro row5 A6 c7 ho8
    refine va rfl rfl rfl (q_assign (v := .slice A6 (([] : List Int) ++ s_).length c7) rfl (by kernel_rfl)) ?_
    refine WR.nil ?_
    change WC _ _ _ _ _ _
    refine WC.ret ?_
    intro w hw
    obtain rfl := Option.some.inj h
    subst hF
    exact end_e (is := [0]) (by kernel_rfl) hw rfl ⟨A6, c7, row5, rfl, rfl, ho8, trivial⟩
abbrev r_quorum_ask_api_Ver_l1 (r : (Option Oquorum_asking_api_Ver) × Int) (U : List Rowb) (Γ : Gh) (v : Value) : Prop := (r.1 = none ∧ (v = .tuple #[.agg #[.slice none 0 0, .int .i64 0, .map none], .int .i64 r.2] ∧ U = [] ∧ I64 r.2 ∧ True)) ∨ (∃ x_ : Oquorum_asking_api_Ver, r.1 = some x_ ∧ (∃ (A0_0 : Option Addr), ∃ (c0_0 : Nat), ∃ (m0_2 : Nat), ∃ (r0_2 : Rowb), v = .tuple #[.agg #[.slice A0_0 x_.list.length c0_0, .int .i64 x_.need, .map (some m0_2)], .int .i64 r.2] ∧ U = [r0_2] ∧ x_.list.length ≤ c0_0 ∧ Sl intT Γ A0_0 x_.list ∧ I64 x_.need ∧ MapO (intK Try.underlying3) (slT verT).v Γ r0_2 m0_2 x_.got ∧ I64 r.2 ∧ True))
set_option maxRecDepth 100000 in
set_option maxHeartbeats 400000 in
theorem t_quorum_ask_api_Ver_l1 {Γ : Gh} {w0 : World} {B : Gh} {Alist : Option Addr} {clist : Nat} {list : List Int} (hlist : Sl intT B Alist list) (hlistc : list.length ≤ clist) (need : Int) (hneed : I64 need) (hp : Pre [] Γ w0) (hpB : Pre [] B w0) {r : (Option Oquorum_asking_api_Ver) × Int} (h : m_quorum_ask_api_Ver list need = some r) : Calls Try.prog 46 #[.slice Alist list.length clist, .int .i64 need] w0 (Outc Γ [] w0 (r_quorum_ask_api_Ver_l1 r)) := by
  refine calls_of_r (N := 54) (rs := [.cell 4 94, .tmp 5]) (args := [.slice Alist list.length clist, .int .i64 need]) Try.func46 rfl Try.ntmps46 Try.results46 rfl ?_
  obtain ⟨F, hF⟩ : ∃ F : Fm, F = ⟨ids [], w0, Γ⟩ := ⟨_, rfl⟩
  refine WC.here (C := CC F Γ []) ?_ (hF ▸ hp.start)
  have hB : Lent F B := hF ▸ Lent.start hpB
  refine WC.rs ?_
  refine e_alloc Try.zeroValue94 rfl rfl rfl rfl ?_
  intro g1
  refine va rfl rfl rfl (q_assign (v := .int .i64 0) rfl (by kernel_rfl)) ?_
  refine WR.nil ?_
  change WC _ _ _ _ _ _
  refine WC.seq ?_
  refine WC.rs ?_
  refine va rfl rfl rfl (q_move (v := .slice Alist list.length clist) rfl (by kernel_rfl)) ?_
  refine va rfl rfl rfl (q_len_slice rfl Try.underlying22 rfl) ?_
  refine va rfl rfl rfl (q_lss rfl rfl rfl) ?_
  refine va rfl rfl rfl (q_move (v := .bool (decide (((list.length : Nat) : Int) < 1))) rfl (by kernel_rfl)) ?_
  refine vg0 rfl rfl rfl rfl rfl (fun hg2 => QV.qo (q_move (v := .slice Alist list.length clist) rfl (by kernel_rfl))) ?_
  refine vg0 rfl rfl rfl rfl rfl (fun hg3 => QV.qo (q_len_slice rfl Try.underlying22 (gu hg3 rfl))) ?_
  refine vg0 rfl rfl rfl rfl rfl (fun hg4 => QV.qo (q_gtr rfl (gu hg4 rfl) rfl)) ?_
  refine va rfl rfl rfl (q_pick rfl rfl (pk_or' (g := (decide (((list.length : Nat) : Int) < 1))) (y := (decide (8 < ((list.length : Nat) : Int)))))) ?_
  refine va rfl rfl rfl (q_move (v := .bool ((decide (((list.length : Nat) : Int) < 1)) || (decide (8 < ((list.length : Nat) : Int))))) rfl (by kernel_rfl)) ?_
  refine vg0 rfl rfl rfl rfl rfl (fun hg5 => QV.qo (q_move (v := .int .i64 need) rfl (by kernel_rfl))) ?_
  refine vg0 rfl rfl rfl rfl rfl (fun hg6 => QV.qo (q_lss rfl (gu hg6 rfl) rfl)) ?_
  refine va rfl rfl rfl (q_pick rfl rfl (pk_or' (g := ((decide (((list.length : Nat) : Int) < 1)) || (decide (8 < ((list.length : Nat) : Int))))) (y := (decide (need < 1))))) ?_
  refine va rfl rfl rfl (q_move (v := .bool (((decide (((list.length : Nat) : Int) < 1)) || (decide (8 < ((list.length : Nat) : Int)))) || (decide (need < 1)))) rfl (by kernel_rfl)) ?_
  refine vg0 rfl rfl rfl rfl rfl (fun hg7 => QV.qo (q_move (v := .int .i64 need) rfl (by kernel_rfl))) ?_
  refine vg0 rfl rfl rfl rfl rfl (fun hg8 => QV.qo (q_move (v := .slice Alist list.length clist) rfl (by kernel_rfl))) ?_
  refine vg0 rfl rfl rfl rfl rfl (fun hg9 => QV.qo (q_len_slice rfl Try.underlying22 (gu hg9 rfl))) ?_
  refine vg0 rfl rfl rfl rfl rfl (fun hg10 => QV.qo (q_gtr rfl (gu hg10 rfl) (gu hg10 rfl))) ?_
  refine va rfl rfl rfl (q_pick rfl rfl (pk_or' (g := (((decide (((list.length : Nat) : Int) < 1)) || (decide (8 < ((list.length : Nat) : Int)))) || (decide (need < 1)))) (y := (decide (((list.length : Nat) : Int) < need))))) ?_
  refine WR.nil ?_
  change WC _ _ _ _ _ _
  refine WC.cif h (by kernel_rfl) (fun hb11 h => ?_) (fun hb11 h => ?_)
  · skip
    refine WC.rs ?_
    refine va rfl rfl rfl (q_build (v := .agg #[.slice none 0 0, .int .i64 0, .map none]) rfl (fun w => by kernel_rfl)) ?_
    refine e_st (i := 0) (v := .agg #[.slice none 0 0, .int .i64 0, .map none]) (new := #[.slice none 0 0, .int .i64 0, .map none]) rfl Try.sizeOf94 rfl rfl rfl rfl (by kernel_rfl) rfl rfl rfl rfl ?_
    refine va rfl rfl rfl (q_assign (v := .int .i64 1) rfl (by kernel_rfl)) ?_
    refine WR.nil ?_
    change WC _ _ _ _ _ _
    refine WC.ret ?_
    intro w hw
    obtain rfl := Option.some.inj h
    subst hF
    exact ⟨[.agg #[.slice none 0 0, .int .i64 0, .map none], .int .i64 1], (rr_agg (i := 0) (us := [.slice none 0 0, .int .i64 0, .map none]) hw rfl Try.isAgg94 Try.sizeOf94 (by kernel_rfl) rfl (rr_tmp (by kernel_rfl) rr_nil)), end_e (is := []) (by kernel_rfl) hw rfl (.inl ⟨rfl, rfl, rfl, (show I64 1 by decide), trivial⟩)⟩
  · skip
    refine WC.skip ?_
    change WC _ _ _ _ _ _
    refine WC.seq ?_
    refine WC.rs ?_
    refine va rfl rfl rfl (q_move (v := .slice Alist list.length clist) rfl (by kernel_rfl)) ?_
    refine va rfl rfl rfl (q_len_slice rfl Try.underlying22 rfl) ?_
    refine va rfl rfl rfl (q_move (v := .int .i64 0) rfl (by kernel_rfl)) ?_
    refine WR.nil ?_
    change WC _ _ _ _ _ _
    refine WC.block ?_
    refine WC.forI h (fun (i13 : Nat) (s : Unit) σ w => match s with | () => slots σ [(0, .slice Alist list.length clist), (1, .int .i64 need), (4, .pointer (some ⟨g1, 0, none⟩)), (27, .slice Alist list.length clist), (28, .int .i64 ((list.length : Nat) : Int)), (29, .int .i64 ((i13 : Nat) : Int))] ∧ CC F Γ [[(g1, .cells #[.slice none 0 0, .int .i64 0, .map none] 94 (0, 0))]] w ∧ True) ?_ ?_
    · skip
      intro w hw
      exact ⟨(sl_ (by kernel_rfl)), hw, trivial⟩
    rintro f12 i13 ⟨⟩ σ w hi14 hlt15 hge16 ⟨hsl, hw, -⟩
    refine Wpt.slots hsl ?_
    refine WC.here (C := CC F Γ [[(g1, .cells #[.slice none 0 0, .int .i64 0, .map none] 94 (0, 0))]]) ?_ hw
    clear hw hsl
    refine WC.rs ?_
    refine va rfl rfl rfl (q_lss rfl rfl rfl) ?_
    refine WR.nil ?_
    change WC _ _ _ _ _ _
    refine WC.seq ?_
    refine WC.cond (b := (decide (((i13 : Nat) : Int) < ((list.length : Nat) : Int)))) (by kernel_rfl) (fun hb17 => ?_) (fun hb17 => ?_)
    · skip
      have hl18 := ilt hb17
      have h := hlt15 hl18
      refine WC.skip ?_
      change WC _ _ _ _ _ _
      refine WC.seq ?_
      refine WC.block ?_
      refine WC.rs ?_
      refine va rfl rfl rfl (q_move (v := .int .i64 ((i13 : Nat) : Int)) rfl (by kernel_rfl)) ?_
      refine va rfl rfl rfl (q_ixn (i := i13) Try.underlying22 Try.sizeOf3 rfl rfl rfl hl18 (hlist.some_ hl18)) ?_
      refine va rfl rfl rfl (q_ldS (c := 0) (v := .int .i64 (gt list i13)) (fun w hw => hB.sat hw) (hlist.intT_at hl18).2 rfl Try.isAgg3 rfl rfl) ?_
      refine va rfl rfl rfl (q_assign (v := .int .i64 ((i13 : Nat) : Int)) rfl (by kernel_rfl)) ?_
      refine va rfl rfl rfl (q_assign (v := .int .i64 (gt list i13)) rfl (by kernel_rfl)) ?_
      refine WR.nil ?_
      change WC _ _ _ _ _ _
      refine WC.rs ?_
      refine va rfl rfl rfl (q_move (v := .int .i64 (gt list i13)) rfl (by kernel_rfl)) ?_
      refine va rfl rfl rfl (q_lss rfl rfl rfl) ?_
      refine va rfl rfl rfl (q_move (v := .bool (decide ((gt list i13) < 1))) rfl (by kernel_rfl)) ?_
      refine vg0 rfl rfl rfl rfl rfl (fun hg19 => QV.qo (q_move (v := .int .i64 (gt list i13)) rfl (by kernel_rfl))) ?_
      refine vg0 rfl rfl rfl rfl rfl (fun hg20 => QV.qo (q_gtr rfl (gu hg20 rfl) rfl)) ?_
      refine va rfl rfl rfl (q_pick rfl rfl (pk_or' (g := (decide ((gt list i13) < 1))) (y := (decide (8 < (gt list i13)))))) ?_
      refine va rfl rfl rfl (q_move (v := .bool ((decide ((gt list i13) < 1)) || (decide (8 < (gt list i13))))) rfl (by kernel_rfl)) ?_
      refine vg0 rfl rfl rfl rfl rfl (fun hg21 => QV.qo (q_move (v := .slice Alist list.length clist) rfl (by kernel_rfl))) ?_
      refine vg0 rfl rfl rfl rfl rfl (fun hg22 => QV.qo (q_move (v := .int .i64 ((i13 : Nat) : Int)) rfl (by kernel_rfl))) ?_
      refine vg0 rfl rfl rfl rfl rfl (fun hg23 => QV.qo (q_cut_to (c := clist) (hi := i13) (xs := list) Try.underlying22 Try.sizeOf3 rfl (gu hg23 rfl) (gu hg23 rfl) (Nat.le_of_lt hl18) hlistc)) ?_
      refine vg0 rfl rfl rfl rfl rfl (fun hg24 => QV.qo (q_move (v := .int .i64 (gt list i13)) rfl (by kernel_rfl))) ?_
      obtain ⟨z26, hz27, h⟩ := bnd h
      refine vg0 rfl rfl rfl rfl rfl (fun hg25 => (q_call (call_run Try.call70 rfl rfl (args2 (gu hg25 rfl) (gu hg25 rfl))) (fun w hw => t_slices_Contains_int_int (Γ := Gh.all w) ((hlist.cut_to (hi := i13) (Nat.le_of_lt hl18)).mono ((fun w hw => hB.sat hw) w hw).le_all) (take_cap hlistc i13) (gt list i13) (hlist.intT_at hl18).1 (Sat.all w) (gc_of hz27 hg25)))) ?_
      refine va rfl rfl rfl (q_pick rfl rfl (pk_or' (g := ((decide ((gt list i13) < 1)) || (decide (8 < (gt list i13))))) (y := z26))) ?_
      refine WR.nil ?_
      change WC _ _ _ _ _ _
      refine WC.cif h (by kernel_rfl) (fun hb28 h => ?_) (fun hb28 h => ?_)
      · skip
        refine WC.rs ?_
        refine va rfl rfl rfl (q_build (v := .agg #[.slice none 0 0, .int .i64 0, .map none]) rfl (fun w => by kernel_rfl)) ?_
        refine e_st (i := 0) (v := .agg #[.slice none 0 0, .int .i64 0, .map none]) (new := #[.slice none 0 0, .int .i64 0, .map none]) rfl Try.sizeOf94 rfl rfl rfl rfl (by kernel_rfl) rfl rfl rfl rfl ?_
        refine va rfl rfl rfl (q_assign (v := .int .i64 1) rfl (by kernel_rfl)) ?_
        refine WR.nil ?_
        change WC _ _ _ _ _ _
        refine WC.ret ?_
        intro w hw
        obtain rfl := Option.some.inj h
        subst hF
        exact ⟨[.agg #[.slice none 0 0, .int .i64 0, .map none], .int .i64 1], (rr_agg (i := 0) (us := [.slice none 0 0, .int .i64 0, .map none]) hw rfl Try.isAgg94 Try.sizeOf94 (by kernel_rfl) rfl (rr_tmp (by kernel_rfl) rr_nil)), end_e (is := []) (by kernel_rfl) hw rfl (.inl ⟨rfl, rfl, rfl, (show I64 1 by decide), trivial⟩)⟩
      · skip
        refine WC.skip ?_
        change WC _ _ _ _ _ _
        refine WC.region ?_
        refine va rfl rfl rfl (q_add_r (r := ((i13 + 1 : Nat) : Int)) rfl rfl rfl (ctr_len hl18 hlist.le)) ?_
        refine va rfl rfl rfl (q_move (v := .int .i64 ((i13 + 1 : Nat) : Int)) rfl (by kernel_rfl)) ?_
        refine WR.nil ?_
        intro w hw
        exact ⟨hl18, (), h, (sl_ (by kernel_rfl)), hw, trivial⟩
    · skip
      have h := hge16 (ige hb17)
      refine WC.exit ?_
      change WC _ _ _ _ _ _
      refine WC.rs ?_
      refine va rfl rfl rfl (q_move (v := .slice Alist list.length clist) rfl (by kernel_rfl)) ?_
      obtain ⟨z29, hz30, h⟩ := bnd h
      refine e_callB (is := []) hB rfl rfl (call_run Try.call71 rfl rfl (by kernel_rfl)) rfl (fun w Θ hp hpB hle hleB hR => t_slices_Clone_int_int_l1 (hlist.mono hleB) hlistc hp hpB hz30) ?_
      rintro Γ31 U33 v34 hl32 ⟨A35, c36, row37, rfl, rfl, hr38, _⟩
      change WR _ _ _ (CC F Γ31 [row37, [(g1, .cells #[.slice none 0 0, .int .i64 0, .map none] 94 (0, 0))]]) _ _ (upd _ 50 (.slice A35 z29.length c36))
      refine va rfl rfl rfl (q_move (v := .int .i64 need) rfl (by kernel_rfl)) ?_
      refine e_makeMap (intK Try.underlying3) (slT verT).v rfl rfl rfl rfl ?_
      intro g39 row40 hm41
      refine va rfl rfl rfl (q_build' (v := .agg #[.slice A35 z29.length c36, .int .i64 need, .map (some g39)]) rfl (bargs3 rfl rfl rfl) (fun w => by kernel_rfl)) ?_
      refine e_st (i := 2) (v := .agg #[.slice A35 z29.length c36, .int .i64 need, .map (some g39)]) (new := #[.slice A35 z29.length c36, .int .i64 need, .map (some g39)]) rfl Try.sizeOf94 rfl rfl rfl rfl (by kernel_rfl) rfl rfl rfl rfl ?_
      refine va rfl rfl rfl (q_assign (v := .int .i64 0) rfl (by kernel_rfl)) ?_
      refine WR.nil ?_
      change WC _ _ _ _ _ _
      refine WC.ret ?_
      intro w hw
      have hc46 := hr38.capz
      obtain ⟨Γ42, hw, hl43, hr44⟩ := hw.seal (i := 1) rfl; have hs45 := hr38.sl hl43 hr44
      obtain rfl := Option.some.inj h
      subst hF
      exact ⟨[.agg #[.slice A35 z29.length c36, .int .i64 need, .map (some g39)], .int .i64 0], (rr_agg (i := 2) (us := [.slice A35 z29.length c36, .int .i64 need, .map (some g39)]) hw rfl Try.isAgg94 Try.sizeOf94 (by kernel_rfl) rfl (rr_tmp (by kernel_rfl) rr_nil)), end_e (is := [0]) (by kernel_rfl) hw rfl (.inr ⟨_, rfl, A35, c36, g39, row40, rfl, rfl, hc46, hs45, hneed, (hm41.mono hl43), (show I64 0 by decide), trivial⟩)⟩
abbrev r_quorum_NewRead_l1 (r : (Option Oquorum_asking_api_Ver) × Int) (U : List Rowb) (Γ : Gh) (v : Value) : Prop := ∃ (g0 : Nat), ∃ (row0 : Rowb), v = .tuple #[optp r.1 g0, .int .i64 r.2] ∧ U = [row0] ∧ optob (Oquorum_asking_api_Ver.ob 98 Γ g0) row0 r.1 ∧ I64 r.2 ∧ True
set_option maxRecDepth 100000 in
set_option maxHeartbeats 400000 in
theorem t_quorum_NewRead_l1 {Γ : Gh} {w0 : World} {B : Gh} {Alist : Option Addr} {clist : Nat} {list : List Int} (hlist : Sl intT B Alist list) (hlistc : list.length ≤ clist) (need : Int) (hneed : I64 need) (hp : Pre [] Γ w0) (hpB : Pre [] B w0) {r : (Option Oquorum_asking_api_Ver) × Int} (h : m_quorum_NewRead list need = some r) : Calls Try.prog 19 #[.slice Alist list.length clist, .int .i64 need] w0 (Outc Γ [] w0 (r_quorum_NewRead_l1 r)) := by
  refine calls_of (N := 21) (rs := [4, 5]) (args := [.slice Alist list.length clist, .int .i64 need]) Try.func19 rfl Try.ntmps19 Try.results19 rfl ?_
  obtain ⟨F, hF⟩ : ∃ F : Fm, F = ⟨ids [], w0, Γ⟩ := ⟨_, rfl⟩
  refine WC.here (C := CC F Γ []) ?_ (hF ▸ hp.start)
  have hB : Lent F B := hF ▸ Lent.start hpB
  refine WC.rs ?_
  refine va rfl rfl rfl (q_assign (v := .pointer none) rfl (by kernel_rfl)) ?_
  refine va rfl rfl rfl (q_assign (v := .int .i64 0) rfl (by kernel_rfl)) ?_
  refine WR.nil ?_
  change WC _ _ _ _ _ _
  refine WC.rs ?_
  refine va rfl rfl rfl (q_move (v := .slice Alist list.length clist) rfl (by kernel_rfl)) ?_
  refine va rfl rfl rfl (q_move (v := .int .i64 need) rfl (by kernel_rfl)) ?_
  obtain ⟨z1, hz2, h⟩ := bnd h
  refine e_callB (is := []) hB rfl rfl (call_run Try.call46 rfl rfl (by kernel_rfl)) rfl (fun w Θ hp hpB hle hleB hR => t_quorum_ask_api_Ver_l1 (hlist.mono hleB) hlistc need hneed hp hpB hz2) ?_
  rintro Γ3 U5 v6 hl4 (⟨ho7, rfl, rfl, hr9, _⟩ | ⟨o8, ho7, A0_10, c0_10, m2_10, r2_10, rfl, rfl, hr11, hr12, hr13, hr14, hr15, _⟩)
  · skip
    have h := optm_n ho7 h
    change WR _ _ _ (CC F Γ3 []) _ _ (upd _ 11 (.tuple #[.agg #[.slice none 0 0, .int .i64 0, .map none], .int .i64 z1.2]))
    refine va rfl rfl rfl (q_move (v := .tuple #[.agg #[.slice none 0 0, .int .i64 0, .map none], .int .i64 z1.2]) rfl (by kernel_rfl)) ?_
    refine va rfl rfl rfl (q_extract (v := .agg #[.slice none 0 0, .int .i64 0, .map none]) rfl rfl rfl) ?_
    refine va rfl rfl rfl (q_extract (v := .int .i64 z1.2) rfl rfl rfl) ?_
    refine e_alloc Try.zeroValue94 rfl rfl rfl rfl ?_
    intro g16
    refine e_st (i := 0) (v := .agg #[.slice none 0 0, .int .i64 0, .map none]) (new := #[.slice none 0 0, .int .i64 0, .map none]) rfl Try.sizeOf94 rfl rfl rfl rfl (by kernel_rfl) rfl rfl rfl rfl ?_
    refine va rfl rfl rfl (q_assign (v := .int .i64 z1.2) rfl (by kernel_rfl)) ?_
    refine WR.nil ?_
    change WC _ _ _ _ _ _
    refine WC.seq ?_
    refine WC.rs ?_
    refine va rfl rfl rfl (q_move (v := .int .i64 z1.2) rfl (by kernel_rfl)) ?_
    refine va rfl rfl rfl (q_neq rfl rfl rfl) ?_
    refine WR.nil ?_
    change WC _ _ _ _ _ _
    refine WC.cif h (by kernel_rfl) (fun hb17 h => ?_) (fun hb17 h => ?_)
    · skip
      refine WC.rs ?_
      refine va rfl rfl rfl (q_move (v := .int .i64 z1.2) rfl (by kernel_rfl)) ?_
      refine va rfl rfl rfl (q_assign (v := .pointer none) rfl (by kernel_rfl)) ?_
      refine va rfl rfl rfl (q_assign (v := .int .i64 z1.2) rfl (by kernel_rfl)) ?_
      refine WR.nil ?_
      change WC _ _ _ _ _ _
      refine WC.ret ?_
      intro w hw
      have hw := hw.pad
      obtain rfl := Option.some.inj h
      subst hF
      exact end_e (is := [0]) (by kernel_rfl) hw rfl ⟨0, [], rfl, rfl, rfl, hr9, trivial⟩
    · skip
      refine WC.skip ?_
      change WC _ _ _ _ _ _
      refine WC.rs ?_
      refine va rfl rfl rfl (q_ldla (i := 0) (vs := [.slice none 0 0, .int .i64 0, .map none]) rfl rfl Try.isAgg94 Try.sizeOf94 rfl rfl) ?_
      refine va rfl rfl rfl (q_build' (v := .agg #[.slice none 0 0, .int .i64 0, .map none]) rfl (bargs1 rfl) (fun w => by kernel_rfl)) ?_
      refine e_box (v := .agg #[.slice none 0 0, .int .i64 0, .map none]) rfl rfl rfl rfl (by kernel_rfl) ?_
      intro g18
      refine va rfl rfl rfl (q_move (v := .int .i64 z1.2) rfl (by kernel_rfl)) ?_
      refine va rfl rfl rfl (q_assign (v := .pointer (some ⟨g18, 0, none⟩)) rfl (by kernel_rfl)) ?_
      refine va rfl rfl rfl (q_assign (v := .int .i64 z1.2) rfl (by kernel_rfl)) ?_
      refine WR.nil ?_
      change WC _ _ _ _ _ _
      refine WC.ret ?_
      cases h
  · skip
    have h := optm_s ho7 h
    change WR _ _ _ (CC F Γ3 [r2_10]) _ _ (upd _ 11 (.tuple #[.agg #[.slice A0_10 o8.list.length c0_10, .int .i64 o8.need, .map (some m2_10)], .int .i64 z1.2]))
    refine va rfl rfl rfl (q_move (v := .tuple #[.agg #[.slice A0_10 o8.list.length c0_10, .int .i64 o8.need, .map (some m2_10)], .int .i64 z1.2]) rfl (by kernel_rfl)) ?_
    refine va rfl rfl rfl (q_extract (v := .agg #[.slice A0_10 o8.list.length c0_10, .int .i64 o8.need, .map (some m2_10)]) rfl rfl rfl) ?_
    refine va rfl rfl rfl (q_extract (v := .int .i64 z1.2) rfl rfl rfl) ?_
    refine e_alloc Try.zeroValue94 rfl rfl rfl rfl ?_
    intro g19
    refine e_st (i := 0) (v := .agg #[.slice A0_10 o8.list.length c0_10, .int .i64 o8.need, .map (some m2_10)]) (new := #[.slice A0_10 o8.list.length c0_10, .int .i64 o8.need, .map (some m2_10)]) rfl Try.sizeOf94 rfl rfl rfl rfl (by kernel_rfl) rfl rfl rfl rfl ?_
    refine va rfl rfl rfl (q_assign (v := .int .i64 z1.2) rfl (by kernel_rfl)) ?_
    refine WR.nil ?_
    change WC _ _ _ _ _ _
    refine WC.seq ?_
    refine WC.rs ?_
    refine va rfl rfl rfl (q_move (v := .int .i64 z1.2) rfl (by kernel_rfl)) ?_
    refine va rfl rfl rfl (q_neq rfl rfl rfl) ?_
    refine WR.nil ?_
    change WC _ _ _ _ _ _
    refine WC.cif h (by kernel_rfl) (fun hb20 h => ?_) (fun hb20 h => ?_)
    · skip
      refine WC.rs ?_
      refine va rfl rfl rfl (q_move (v := .int .i64 z1.2) rfl (by kernel_rfl)) ?_
      refine va rfl rfl rfl (q_assign (v := .pointer none) rfl (by kernel_rfl)) ?_
      refine va rfl rfl rfl (q_assign (v := .int .i64 z1.2) rfl (by kernel_rfl)) ?_
      refine WR.nil ?_
      change WC _ _ _ _ _ _
      refine WC.ret ?_
      intro w hw
      have hw := hw.pad
      obtain rfl := Option.some.inj h
      subst hF
      exact end_e (is := [0]) (by kernel_rfl) hw rfl ⟨0, [], rfl, rfl, rfl, hr15, trivial⟩
    · skip
      refine WC.skip ?_
      change WC _ _ _ _ _ _
      refine WC.rs ?_
      refine va rfl rfl rfl (q_ldla (i := 0) (vs := [.slice A0_10 o8.list.length c0_10, .int .i64 o8.need, .map (some m2_10)]) rfl rfl Try.isAgg94 Try.sizeOf94 rfl rfl) ?_
      refine va rfl rfl rfl (q_build' (v := .agg #[.slice A0_10 o8.list.length c0_10, .int .i64 o8.need, .map (some m2_10)]) rfl (bargs1 rfl) (fun w => by kernel_rfl)) ?_
      refine e_box (v := .agg #[.slice A0_10 o8.list.length c0_10, .int .i64 o8.need, .map (some m2_10)]) rfl rfl rfl rfl (by kernel_rfl) ?_
      intro g21
      refine va rfl rfl rfl (q_move (v := .int .i64 z1.2) rfl (by kernel_rfl)) ?_
      refine va rfl rfl rfl (q_assign (v := .pointer (some ⟨g21, 0, none⟩)) rfl (by kernel_rfl)) ?_
      refine va rfl rfl rfl (q_assign (v := .int .i64 z1.2) rfl (by kernel_rfl)) ?_
      refine WR.nil ?_
      change WC _ _ _ _ _ _
      refine WC.ret ?_
      intro w hw
      obtain ⟨row_22, hrow_22, hob_22⟩ : ∃ rw : Rowb, rw = ([[(g21, .cells #[.slice A0_10 o8.list.length c0_10, .int .i64 o8.need, .map (some m2_10)] 98 (0, 0))], r2_10] : List Rowb).flatten ∧ Oquorum_asking_api_Ver.ob 98 Γ3 g21 rw (⟨o8.list, o8.need, o8.got⟩ : Oquorum_asking_api_Ver) := ⟨_, rfl, A0_10, c0_10, m2_10, r2_10, rfl, hr11, hr12, hr13, hr14, trivial⟩
      have hw := hw.fold (is := [0, 1]) rfl hrow_22
      obtain rfl := Option.some.inj h
      subst hF
      exact end_e (is := [0]) (by kernel_rfl) hw rfl ⟨g21, row_22, rfl, rfl, hob_22, hr15, trivial⟩
abbrev r_quorum_ask_api_Rec_l1 (r : (Option Oquorum_asking_api_Rec) × Int) (U : List Rowb) (Γ : Gh) (v : Value) : Prop := (r.1 = none ∧ (v = .tuple #[.agg #[.slice none 0 0, .int .i64 0, .map none], .int .i64 r.2] ∧ U = [] ∧ I64 r.2 ∧ True)) ∨ (∃ x_ : Oquorum_asking_api_Rec, r.1 = some x_ ∧ (∃ (A0_0 : Option Addr), ∃ (c0_0 : Nat), ∃ (m0_2 : Nat), ∃ (r0_2 : Rowb), v = .tuple #[.agg #[.slice A0_0 x_.list.length c0_0, .int .i64 x_.need, .map (some m0_2)], .int .i64 r.2] ∧ U = [r0_2] ∧ x_.list.length ≤ c0_0 ∧ Sl intT Γ A0_0 x_.list ∧ I64 x_.need ∧ MapO (intK Try.underlying3) (slT recT).v Γ r0_2 m0_2 x_.got ∧ I64 r.2 ∧ True))
set_option maxRecDepth 100000 in
set_option maxHeartbeats 400000 in
theorem t_quorum_ask_api_Rec_l1 {Γ : Gh} {w0 : World} {B : Gh} {Alist : Option Addr} {clist : Nat} {list : List Int} (hlist : Sl intT B Alist list) (hlistc : list.length ≤ clist) (need : Int) (hneed : I64 need) (hp : Pre [] Γ w0) (hpB : Pre [] B w0) {r : (Option Oquorum_asking_api_Rec) × Int} (h : m_quorum_ask_api_Rec list need = some r) : Calls Try.prog 62 #[.slice Alist list.length clist, .int .i64 need] w0 (Outc Γ [] w0 (r_quorum_ask_api_Rec_l1 r)) := by
  refine calls_of_r (N := 54) (rs := [.cell 4 113, .tmp 5]) (args := [.slice Alist list.length clist, .int .i64 need]) Try.func62 rfl Try.ntmps62 Try.results62 rfl ?_
  obtain ⟨F, hF⟩ : ∃ F : Fm, F = ⟨ids [], w0, Γ⟩ := ⟨_, rfl⟩
  refine WC.here (C := CC F Γ []) ?_ (hF ▸ hp.start)
  have hB : Lent F B := hF ▸ Lent.start hpB
  refine WC.rs ?_
  refine e_alloc Try.zeroValue113 rfl rfl rfl rfl ?_
  intro g1
  refine va rfl rfl rfl (q_assign (v := .int .i64 0) rfl (by kernel_rfl)) ?_
  refine WR.nil ?_
  change WC _ _ _ _ _ _
  refine WC.seq ?_
  refine WC.rs ?_
  refine va rfl rfl rfl (q_move (v := .slice Alist list.length clist) rfl (by kernel_rfl)) ?_
  refine va rfl rfl rfl (q_len_slice rfl Try.underlying22 rfl) ?_
  refine va rfl rfl rfl (q_lss rfl rfl rfl) ?_
  refine va rfl rfl rfl (q_move (v := .bool (decide (((list.length : Nat) : Int) < 1))) rfl (by kernel_rfl)) ?_
  refine vg0 rfl rfl rfl rfl rfl (fun hg2 => QV.qo (q_move (v := .slice Alist list.length clist) rfl (by kernel_rfl))) ?_
  refine vg0 rfl rfl rfl rfl rfl (fun hg3 => QV.qo (q_len_slice rfl Try.underlying22 (gu hg3 rfl))) ?_
  refine vg0 rfl rfl rfl rfl rfl (fun hg4 => QV.qo (q_gtr rfl (gu hg4 rfl) rfl)) ?_
  refine va rfl rfl rfl (q_pick rfl rfl (pk_or' (g := (decide (((list.length : Nat) : Int) < 1))) (y := (decide (8 < ((list.length : Nat) : Int)))))) ?_
  refine va rfl rfl rfl (q_move (v := .bool ((decide (((list.length : Nat) : Int) < 1)) || (decide (8 < ((list.length : Nat) : Int))))) rfl (by kernel_rfl)) ?_
  refine vg0 rfl rfl rfl rfl rfl (fun hg5 => QV.qo (q_move (v := .int .i64 need) rfl (by kernel_rfl))) ?_
  refine vg0 rfl rfl rfl rfl rfl (fun hg6 => QV.qo (q_lss rfl (gu hg6 rfl) rfl)) ?_
  refine va rfl rfl rfl (q_pick rfl rfl (pk_or' (g := ((decide (((list.length : Nat) : Int) < 1)) || (decide (8 < ((list.length : Nat) : Int))))) (y := (decide (need < 1))))) ?_
  refine va rfl rfl rfl (q_move (v := .bool (((decide (((list.length : Nat) : Int) < 1)) || (decide (8 < ((list.length : Nat) : Int)))) || (decide (need < 1)))) rfl (by kernel_rfl)) ?_
  refine vg0 rfl rfl rfl rfl rfl (fun hg7 => QV.qo (q_move (v := .int .i64 need) rfl (by kernel_rfl))) ?_
  refine vg0 rfl rfl rfl rfl rfl (fun hg8 => QV.qo (q_move (v := .slice Alist list.length clist) rfl (by kernel_rfl))) ?_
  refine vg0 rfl rfl rfl rfl rfl (fun hg9 => QV.qo (q_len_slice rfl Try.underlying22 (gu hg9 rfl))) ?_
  refine vg0 rfl rfl rfl rfl rfl (fun hg10 => QV.qo (q_gtr rfl (gu hg10 rfl) (gu hg10 rfl))) ?_
  refine va rfl rfl rfl (q_pick rfl rfl (pk_or' (g := (((decide (((list.length : Nat) : Int) < 1)) || (decide (8 < ((list.length : Nat) : Int)))) || (decide (need < 1)))) (y := (decide (((list.length : Nat) : Int) < need))))) ?_
  refine WR.nil ?_
  change WC _ _ _ _ _ _
  refine WC.cif h (by kernel_rfl) (fun hb11 h => ?_) (fun hb11 h => ?_)
  · skip
    refine WC.rs ?_
    refine va rfl rfl rfl (q_build (v := .agg #[.slice none 0 0, .int .i64 0, .map none]) rfl (fun w => by kernel_rfl)) ?_
    refine e_st (i := 0) (v := .agg #[.slice none 0 0, .int .i64 0, .map none]) (new := #[.slice none 0 0, .int .i64 0, .map none]) rfl Try.sizeOf113 rfl rfl rfl rfl (by kernel_rfl) rfl rfl rfl rfl ?_
    refine va rfl rfl rfl (q_assign (v := .int .i64 1) rfl (by kernel_rfl)) ?_
    refine WR.nil ?_
    change WC _ _ _ _ _ _
    refine WC.ret ?_
    intro w hw
    obtain rfl := Option.some.inj h
    subst hF
    exact ⟨[.agg #[.slice none 0 0, .int .i64 0, .map none], .int .i64 1], (rr_agg (i := 0) (us := [.slice none 0 0, .int .i64 0, .map none]) hw rfl Try.isAgg113 Try.sizeOf113 (by kernel_rfl) rfl (rr_tmp (by kernel_rfl) rr_nil)), end_e (is := []) (by kernel_rfl) hw rfl (.inl ⟨rfl, rfl, rfl, (show I64 1 by decide), trivial⟩)⟩
  · skip
    refine WC.skip ?_
    change WC _ _ _ _ _ _
    refine WC.seq ?_
    refine WC.rs ?_
    refine va rfl rfl rfl (q_move (v := .slice Alist list.length clist) rfl (by kernel_rfl)) ?_
    refine va rfl rfl rfl (q_len_slice rfl Try.underlying22 rfl) ?_
    refine va rfl rfl rfl (q_move (v := .int .i64 0) rfl (by kernel_rfl)) ?_
    refine WR.nil ?_
    change WC _ _ _ _ _ _
    refine WC.block ?_
    refine WC.forI h (fun (i13 : Nat) (s : Unit) σ w => match s with | () => slots σ [(0, .slice Alist list.length clist), (1, .int .i64 need), (4, .pointer (some ⟨g1, 0, none⟩)), (27, .slice Alist list.length clist), (28, .int .i64 ((list.length : Nat) : Int)), (29, .int .i64 ((i13 : Nat) : Int))] ∧ CC F Γ [[(g1, .cells #[.slice none 0 0, .int .i64 0, .map none] 113 (0, 0))]] w ∧ True) ?_ ?_
    · skip
      intro w hw
      exact ⟨(sl_ (by kernel_rfl)), hw, trivial⟩
    rintro f12 i13 ⟨⟩ σ w hi14 hlt15 hge16 ⟨hsl, hw, -⟩
    refine Wpt.slots hsl ?_
    refine WC.here (C := CC F Γ [[(g1, .cells #[.slice none 0 0, .int .i64 0, .map none] 113 (0, 0))]]) ?_ hw
    clear hw hsl
    refine WC.rs ?_
    refine va rfl rfl rfl (q_lss rfl rfl rfl) ?_
    refine WR.nil ?_
    change WC _ _ _ _ _ _
    refine WC.seq ?_
    refine WC.cond (b := (decide (((i13 : Nat) : Int) < ((list.length : Nat) : Int)))) (by kernel_rfl) (fun hb17 => ?_) (fun hb17 => ?_)
    · skip
      have hl18 := ilt hb17
      have h := hlt15 hl18
      refine WC.skip ?_
      change WC _ _ _ _ _ _
      refine WC.seq ?_
      refine WC.block ?_
      refine WC.rs ?_
      refine va rfl rfl rfl (q_move (v := .int .i64 ((i13 : Nat) : Int)) rfl (by kernel_rfl)) ?_
      refine va rfl rfl rfl (q_ixn (i := i13) Try.underlying22 Try.sizeOf3 rfl rfl rfl hl18 (hlist.some_ hl18)) ?_
      refine va rfl rfl rfl (q_ldS (c := 0) (v := .int .i64 (gt list i13)) (fun w hw => hB.sat hw) (hlist.intT_at hl18).2 rfl Try.isAgg3 rfl rfl) ?_
      refine va rfl rfl rfl (q_assign (v := .int .i64 ((i13 : Nat) : Int)) rfl (by kernel_rfl)) ?_
      refine va rfl rfl rfl (q_assign (v := .int .i64 (gt list i13)) rfl (by kernel_rfl)) ?_
      refine WR.nil ?_
      change WC _ _ _ _ _ _
      refine WC.rs ?_
      refine va rfl rfl rfl (q_move (v := .int .i64 (gt list i13)) rfl (by kernel_rfl)) ?_
      refine va rfl rfl rfl (q_lss rfl rfl rfl) ?_
      refine va rfl rfl rfl (q_move (v := .bool (decide ((gt list i13) < 1))) rfl (by kernel_rfl)) ?_
      refine vg0 rfl rfl rfl rfl rfl (fun hg19 => QV.qo (q_move (v := .int .i64 (gt list i13)) rfl (by kernel_rfl))) ?_
      refine vg0 rfl rfl rfl rfl rfl (fun hg20 => QV.qo (q_gtr rfl (gu hg20 rfl) rfl)) ?_
      refine va rfl rfl rfl (q_pick rfl rfl (pk_or' (g := (decide ((gt list i13) < 1))) (y := (decide (8 < (gt list i13)))))) ?_
      refine va rfl rfl rfl (q_move (v := .bool ((decide ((gt list i13) < 1)) || (decide (8 < (gt list i13))))) rfl (by kernel_rfl)) ?_
      refine vg0 rfl rfl rfl rfl rfl (fun hg21 => QV.qo (q_move (v := .slice Alist list.length clist) rfl (by kernel_rfl))) ?_
      refine vg0 rfl rfl rfl rfl rfl (fun hg22 => QV.qo (q_move (v := .int .i64 ((i13 : Nat) : Int)) rfl (by kernel_rfl))) ?_
      refine vg0 rfl rfl rfl rfl rfl (fun hg23 => QV.qo (q_cut_to (c := clist) (hi := i13) (xs := list) Try.underlying22 Try.sizeOf3 rfl (gu hg23 rfl) (gu hg23 rfl) (Nat.le_of_lt hl18) hlistc)) ?_
      refine vg0 rfl rfl rfl rfl rfl (fun hg24 => QV.qo (q_move (v := .int .i64 (gt list i13)) rfl (by kernel_rfl))) ?_
      obtain ⟨z26, hz27, h⟩ := bnd h
      refine vg0 rfl rfl rfl rfl rfl (fun hg25 => (q_call (call_run Try.call70 rfl rfl (args2 (gu hg25 rfl) (gu hg25 rfl))) (fun w hw => t_slices_Contains_int_int (Γ := Gh.all w) ((hlist.cut_to (hi := i13) (Nat.le_of_lt hl18)).mono ((fun w hw => hB.sat hw) w hw).le_all) (take_cap hlistc i13) (gt list i13) (hlist.intT_at hl18).1 (Sat.all w) (gc_of hz27 hg25)))) ?_
      refine va rfl rfl rfl (q_pick rfl rfl (pk_or' (g := ((decide ((gt list i13) < 1)) || (decide (8 < (gt list i13))))) (y := z26))) ?_
      refine WR.nil ?_
      change WC _ _ _ _ _ _
      refine WC.cif h (by kernel_rfl) (fun hb28 h => ?_) (fun hb28 h => ?_)
      · skip
        refine WC.rs ?_
        refine va rfl rfl rfl (q_build (v := .agg #[.slice none 0 0, .int .i64 0, .map none]) rfl (fun w => by kernel_rfl)) ?_
        refine e_st (i := 0) (v := .agg #[.slice none 0 0, .int .i64 0, .map none]) (new := #[.slice none 0 0, .int .i64 0, .map none]) rfl Try.sizeOf113 rfl rfl rfl rfl (by kernel_rfl) rfl rfl rfl rfl ?_
        refine va rfl rfl rfl (q_assign (v := .int .i64 1) rfl (by kernel_rfl)) ?_
        refine WR.nil ?_
        change WC _ _ _ _ _ _
        refine WC.ret ?_
        intro w hw
        obtain rfl := Option.some.inj h
        subst hF
        exact ⟨[.agg #[.slice none 0 0, .int .i64 0, .map none], .int .i64 1], (rr_agg (i := 0) (us := [.slice none 0 0, .int .i64 0, .map none]) hw rfl Try.isAgg113 Try.sizeOf113 (by kernel_rfl) rfl (rr_tmp (by kernel_rfl) rr_nil)), end_e (is := []) (by kernel_rfl) hw rfl (.inl ⟨rfl, rfl, rfl, (show I64 1 by decide), trivial⟩)⟩
      · skip
        refine WC.skip ?_
        change WC _ _ _ _ _ _
        refine WC.region ?_
        refine va rfl rfl rfl (q_add_r (r := ((i13 + 1 : Nat) : Int)) rfl rfl rfl (ctr_len hl18 hlist.le)) ?_
        refine va rfl rfl rfl (q_move (v := .int .i64 ((i13 + 1 : Nat) : Int)) rfl (by kernel_rfl)) ?_
        refine WR.nil ?_
        intro w hw
        exact ⟨hl18, (), h, (sl_ (by kernel_rfl)), hw, trivial⟩
    · skip
      have h := hge16 (ige hb17)
      refine WC.exit ?_
      change WC _ _ _ _ _ _
      refine WC.rs ?_
      refine va rfl rfl rfl (q_move (v := .slice Alist list.length clist) rfl (by kernel_rfl)) ?_
      obtain ⟨z29, hz30, h⟩ := bnd h
      refine e_callB (is := []) hB rfl rfl (call_run Try.call71 rfl rfl (by kernel_rfl)) rfl (fun w Θ hp hpB hle hleB hR => t_slices_Clone_int_int_l1 (hlist.mono hleB) hlistc hp hpB hz30) ?_
      rintro Γ31 U33 v34 hl32 ⟨A35, c36, row37, rfl, rfl, hr38, _⟩
      change WR _ _ _ (CC F Γ31 [row37, [(g1, .cells #[.slice none 0 0, .int .i64 0, .map none] 113 (0, 0))]]) _ _ (upd _ 50 (.slice A35 z29.length c36))
      refine va rfl rfl rfl (q_move (v := .int .i64 need) rfl (by kernel_rfl)) ?_
      refine e_makeMap (intK Try.underlying3) (slT recT).v rfl rfl rfl rfl ?_
      intro g39 row40 hm41
      refine va rfl rfl rfl (q_build' (v := .agg #[.slice A35 z29.length c36, .int .i64 need, .map (some g39)]) rfl (bargs3 rfl rfl rfl) (fun w => by kernel_rfl)) ?_
      refine e_st (i := 2) (v := .agg #[.slice A35 z29.length c36, .int .i64 need, .map (some g39)]) (new := #[.slice A35 z29.length c36, .int .i64 need, .map (some g39)]) rfl Try.sizeOf113 rfl rfl rfl rfl (by kernel_rfl) rfl rfl rfl rfl ?_
      refine va rfl rfl rfl (q_assign (v := .int .i64 0) rfl (by kernel_rfl)) ?_
      refine WR.nil ?_
      change WC _ _ _ _ _ _
      refine WC.ret ?_
      intro w hw
      have hc46 := hr38.capz
      obtain ⟨Γ42, hw, hl43, hr44⟩ := hw.seal (i := 1) rfl; have hs45 := hr38.sl hl43 hr44
      obtain rfl := Option.some.inj h
      subst hF
      exact ⟨[.agg #[.slice A35 z29.length c36, .int .i64 need, .map (some g39)], .int .i64 0], (rr_agg (i := 2) (us := [.slice A35 z29.length c36, .int .i64 need, .map (some g39)]) hw rfl Try.isAgg113 Try.sizeOf113 (by kernel_rfl) rfl (rr_tmp (by kernel_rfl) rr_nil)), end_e (is := [0]) (by kernel_rfl) hw rfl (.inr ⟨_, rfl, A35, c36, g39, row40, rfl, rfl, hc46, hs45, hneed, (hm41.mono hl43), (show I64 0 by decide), trivial⟩)⟩
abbrev r_quorum_NewScan_l0 (r : (Option Oquorum_asking_api_Rec) × Int) (U : List Rowb) (Γ : Gh) (v : Value) : Prop := ∃ (g0 : Nat), ∃ (row0 : Rowb), v = .tuple #[optp r.1 g0, .int .i64 r.2] ∧ U = [row0] ∧ optob (Oquorum_asking_api_Rec.ob 117 Γ g0) row0 r.1 ∧ I64 r.2 ∧ True
set_option maxRecDepth 100000 in
set_option maxHeartbeats 400000 in
theorem t_quorum_NewScan_l0 {Γ : Gh} {w0 : World} {B : Gh} {Alist : Option Addr} {clist : Nat} {list : List Int} (hlist : Sl intT B Alist list) (hlistc : list.length ≤ clist) (need : Int) (hneed : I64 need) (hp : Pre [] Γ w0) (hpB : Pre [] B w0) {r : (Option Oquorum_asking_api_Rec) × Int} (h : m_quorum_NewScan list need = some r) : Calls Try.prog 36 #[.slice Alist list.length clist, .int .i64 need] w0 (Outc Γ [] w0 (r_quorum_NewScan_l0 r)) := by
  refine calls_of (N := 21) (rs := [4, 5]) (args := [.slice Alist list.length clist, .int .i64 need]) Try.func36 rfl Try.ntmps36 Try.results36 rfl ?_
  obtain ⟨F, hF⟩ : ∃ F : Fm, F = ⟨ids [], w0, Γ⟩ := ⟨_, rfl⟩
  refine WC.here (C := CC F Γ []) ?_ (hF ▸ hp.start)
  have hB : Lent F B := hF ▸ Lent.start hpB
  refine WC.rs ?_
  refine va rfl rfl rfl (q_assign (v := .pointer none) rfl (by kernel_rfl)) ?_
  refine va rfl rfl rfl (q_assign (v := .int .i64 0) rfl (by kernel_rfl)) ?_
  refine WR.nil ?_
  change WC _ _ _ _ _ _
  refine WC.rs ?_
  refine va rfl rfl rfl (q_move (v := .slice Alist list.length clist) rfl (by kernel_rfl)) ?_
  refine va rfl rfl rfl (q_move (v := .int .i64 need) rfl (by kernel_rfl)) ?_
  obtain ⟨z1, hz2, h⟩ := bnd h
  refine e_callB (is := []) hB rfl rfl (call_run Try.call62 rfl rfl (by kernel_rfl)) rfl (fun w Θ hp hpB hle hleB hR => t_quorum_ask_api_Rec_l1 (hlist.mono hleB) hlistc need hneed hp hpB hz2) ?_
  rintro Γ3 U5 v6 hl4 (⟨ho7, rfl, rfl, hr9, _⟩ | ⟨o8, ho7, A0_10, c0_10, m2_10, r2_10, rfl, rfl, hr11, hr12, hr13, hr14, hr15, _⟩)
  · skip
    have h := optm_n ho7 h
    change WR _ _ _ (CC F Γ3 []) _ _ (upd _ 11 (.tuple #[.agg #[.slice none 0 0, .int .i64 0, .map none], .int .i64 z1.2]))
    refine va rfl rfl rfl (q_move (v := .tuple #[.agg #[.slice none 0 0, .int .i64 0, .map none], .int .i64 z1.2]) rfl (by kernel_rfl)) ?_
    refine va rfl rfl rfl (q_extract (v := .agg #[.slice none 0 0, .int .i64 0, .map none]) rfl rfl rfl) ?_
    refine va rfl rfl rfl (q_extract (v := .int .i64 z1.2) rfl rfl rfl) ?_
    refine e_alloc Try.zeroValue113 rfl rfl rfl rfl ?_
    intro g16
    refine e_st (i := 0) (v := .agg #[.slice none 0 0, .int .i64 0, .map none]) (new := #[.slice none 0 0, .int .i64 0, .map none]) rfl Try.sizeOf113 rfl rfl rfl rfl (by kernel_rfl) rfl rfl rfl rfl ?_
    refine va rfl rfl rfl (q_assign (v := .int .i64 z1.2) rfl (by kernel_rfl)) ?_
    refine WR.nil ?_
    change WC _ _ _ _ _ _
    refine WC.seq ?_
    refine WC.rs ?_
    refine va rfl rfl rfl (q_move (v := .int .i64 z1.2) rfl (by kernel_rfl)) ?_
    refine va rfl rfl rfl (q_neq rfl rfl rfl) ?_
    refine WR.nil ?_
    change WC _ _ _ _ _ _
    refine WC.cif h (by kernel_rfl) (fun hb17 h => ?_) (fun hb17 h => ?_)
    · skip
      refine WC.rs ?_
      refine va rfl rfl rfl (q_move (v := .int .i64 z1.2) rfl (by kernel_rfl)) ?_
      refine va rfl rfl rfl (q_assign (v := .pointer none) rfl (by kernel_rfl)) ?_
      refine va rfl rfl rfl (q_assign (v := .int .i64 z1.2) rfl (by kernel_rfl)) ?_
      refine WR.nil ?_
      change WC _ _ _ _ _ _
      refine WC.ret ?_
      intro w hw
      have hw := hw.pad
      obtain rfl := Option.some.inj h
      subst hF
      exact end_e (is := [0]) (by kernel_rfl) hw rfl ⟨0, [], rfl, rfl, rfl, hr9, trivial⟩
    · skip
      refine WC.skip ?_
      change WC _ _ _ _ _ _
      refine WC.rs ?_
      refine va rfl rfl rfl (q_ldla (i := 0) (vs := [.slice none 0 0, .int .i64 0, .map none]) rfl rfl Try.isAgg113 Try.sizeOf113 rfl rfl) ?_
      refine va rfl rfl rfl (q_build' (v := .agg #[.slice none 0 0, .int .i64 0, .map none]) rfl (bargs1 rfl) (fun w => by kernel_rfl)) ?_
      refine e_box (v := .agg #[.slice none 0 0, .int .i64 0, .map none]) rfl rfl rfl rfl (by kernel_rfl) ?_
      intro g18
      refine va rfl rfl rfl (q_move (v := .int .i64 z1.2) rfl (by kernel_rfl)) ?_
      refine va rfl rfl rfl (q_assign (v := .pointer (some ⟨g18, 0, none⟩)) rfl (by kernel_rfl)) ?_
      refine va rfl rfl rfl (q_assign (v := .int .i64 z1.2) rfl (by kernel_rfl)) ?_
      refine WR.nil ?_
      change WC _ _ _ _ _ _
      refine WC.ret ?_
      cases h
  · skip
    have h := optm_s ho7 h
    change WR _ _ _ (CC F Γ3 [r2_10]) _ _ (upd _ 11 (.tuple #[.agg #[.slice A0_10 o8.list.length c0_10, .int .i64 o8.need, .map (some m2_10)], .int .i64 z1.2]))
    refine va rfl rfl rfl (q_move (v := .tuple #[.agg #[.slice A0_10 o8.list.length c0_10, .int .i64 o8.need, .map (some m2_10)], .int .i64 z1.2]) rfl (by kernel_rfl)) ?_
    refine va rfl rfl rfl (q_extract (v := .agg #[.slice A0_10 o8.list.length c0_10, .int .i64 o8.need, .map (some m2_10)]) rfl rfl rfl) ?_
    refine va rfl rfl rfl (q_extract (v := .int .i64 z1.2) rfl rfl rfl) ?_
    refine e_alloc Try.zeroValue113 rfl rfl rfl rfl ?_
    intro g19
    refine e_st (i := 0) (v := .agg #[.slice A0_10 o8.list.length c0_10, .int .i64 o8.need, .map (some m2_10)]) (new := #[.slice A0_10 o8.list.length c0_10, .int .i64 o8.need, .map (some m2_10)]) rfl Try.sizeOf113 rfl rfl rfl rfl (by kernel_rfl) rfl rfl rfl rfl ?_
    refine va rfl rfl rfl (q_assign (v := .int .i64 z1.2) rfl (by kernel_rfl)) ?_
    refine WR.nil ?_
    change WC _ _ _ _ _ _
    refine WC.seq ?_
    refine WC.rs ?_
    refine va rfl rfl rfl (q_move (v := .int .i64 z1.2) rfl (by kernel_rfl)) ?_
    refine va rfl rfl rfl (q_neq rfl rfl rfl) ?_
    refine WR.nil ?_
    change WC _ _ _ _ _ _
    refine WC.cif h (by kernel_rfl) (fun hb20 h => ?_) (fun hb20 h => ?_)
    · skip
      refine WC.rs ?_
      refine va rfl rfl rfl (q_move (v := .int .i64 z1.2) rfl (by kernel_rfl)) ?_
      refine va rfl rfl rfl (q_assign (v := .pointer none) rfl (by kernel_rfl)) ?_
      refine va rfl rfl rfl (q_assign (v := .int .i64 z1.2) rfl (by kernel_rfl)) ?_
      refine WR.nil ?_
      change WC _ _ _ _ _ _
      refine WC.ret ?_
      intro w hw
      have hw := hw.pad
      obtain rfl := Option.some.inj h
      subst hF
      exact end_e (is := [0]) (by kernel_rfl) hw rfl ⟨0, [], rfl, rfl, rfl, hr15, trivial⟩
    · skip
      refine WC.skip ?_
      change WC _ _ _ _ _ _
      refine WC.rs ?_
      refine va rfl rfl rfl (q_ldla (i := 0) (vs := [.slice A0_10 o8.list.length c0_10, .int .i64 o8.need, .map (some m2_10)]) rfl rfl Try.isAgg113 Try.sizeOf113 rfl rfl) ?_
      refine va rfl rfl rfl (q_build' (v := .agg #[.slice A0_10 o8.list.length c0_10, .int .i64 o8.need, .map (some m2_10)]) rfl (bargs1 rfl) (fun w => by kernel_rfl)) ?_
      refine e_box (v := .agg #[.slice A0_10 o8.list.length c0_10, .int .i64 o8.need, .map (some m2_10)]) rfl rfl rfl rfl (by kernel_rfl) ?_
      intro g21
      refine va rfl rfl rfl (q_move (v := .int .i64 z1.2) rfl (by kernel_rfl)) ?_
      refine va rfl rfl rfl (q_assign (v := .pointer (some ⟨g21, 0, none⟩)) rfl (by kernel_rfl)) ?_
      refine va rfl rfl rfl (q_assign (v := .int .i64 z1.2) rfl (by kernel_rfl)) ?_
      refine WR.nil ?_
      change WC _ _ _ _ _ _
      refine WC.ret ?_
      intro w hw
      obtain ⟨row_22, hrow_22, hob_22⟩ : ∃ rw : Rowb, rw = ([[(g21, .cells #[.slice A0_10 o8.list.length c0_10, .int .i64 o8.need, .map (some m2_10)] 117 (0, 0))], r2_10] : List Rowb).flatten ∧ Oquorum_asking_api_Rec.ob 117 Γ3 g21 rw (⟨o8.list, o8.need, o8.got⟩ : Oquorum_asking_api_Rec) := ⟨_, rfl, A0_10, c0_10, m2_10, r2_10, rfl, hr11, hr12, hr13, hr14, trivial⟩
      have hw := hw.fold (is := [0, 1]) rfl hrow_22
      obtain rfl := Option.some.inj h
      subst hF
      exact end_e (is := [0]) (by kernel_rfl) hw rfl ⟨g21, row_22, rfl, rfl, hob_22, hr15, trivial⟩
abbrev r_vers_clone_api_Span_l1 (r : List Span) (U : List Rowb) (Γ : Gh) (v : Value) : Prop := ∃ (A0 : Option Addr), ∃ (c0 : Nat), ∃ (row0 : Rowb), v = .slice A0 r.length c0 ∧ U = [row0] ∧ Own spanT Γ 71 row0 A0 c0 r ∧ True
set_option maxRecDepth 100000 in
set_option maxHeartbeats 400000 in
theorem t_vers_clone_api_Span_l1 {Γ : Gh} {w0 : World} {B : Gh} {Al : Option Addr} {cl : Nat} {l : List Span} (hl : Sl spanT B Al l) (hlc : l.length ≤ cl) (hp : Pre [] Γ w0) (hpB : Pre [] B w0) {r : List Span} (h : m_vers_clone_api_Span l = some r) : Calls Try.prog 75 #[.slice Al l.length cl] w0 (Outc Γ [] w0 (r_vers_clone_api_Span_l1 r)) := by
  refine calls_of (N := 5) (rs := [2]) (args := [.slice Al l.length cl]) Try.func75 rfl Try.ntmps75 Try.results75 rfl ?_
  obtain ⟨F, hF⟩ : ∃ F : Fm, F = ⟨ids [], w0, Γ⟩ := ⟨_, rfl⟩
  refine WC.here (C := CC F Γ []) ?_ (hF ▸ hp.start)
  have hB : Lent F B := hF ▸ Lent.start hpB
  refine WC.rs ?_
  refine va rfl rfl rfl (q_assign (v := .slice none 0 0) rfl (by kernel_rfl)) ?_
  refine WR.nil ?_
  change WC _ _ _ _ _ _
  refine WC.rs ?_
  refine va rfl rfl rfl (q_move (v := .slice Al l.length cl) rfl (by kernel_rfl)) ?_
  refine WR.sub (fun w hw => hw.pad) ?_
  obtain ⟨hk1, h⟩ := chk_some h
  refine e_append (T := spanT) (xs := []) (ys := l) elem_56 (i := 0) rfl rfl rfl rfl (by kernel_rfl) rfl rfl (Own.nil spanT Γ 71) (of_decide_eq_true hk1) (fun w hw => src_slS (Γ := Γ) (fun w hw => hB.sat hw) (fun _ _ h => h) hl hw) ?_
  intro row2 A3 c4 ho5
  refine va rfl rfl rfl (q_assign (v := .slice A3 l.length c4) rfl (by kernel_rfl)) ?_
  refine WR.nil ?_
  change WC _ _ _ _ _ _
  refine WC.ret ?_
  intro w hw
  obtain rfl := Option.some.inj h
  subst hF
  exact end_e (is := [0]) (by kernel_rfl) hw rfl ⟨A3, c4, row2, rfl, rfl, ho5, trivial⟩
set_option maxRecDepth 100000 in
set_option maxHeartbeats 400000 in
theorem t_vers_Merge_1_x {Γ : Gh} {w0 : World} {B : Gh} {Av_2 : Option Addr} {cv_2 : Nat} (v_ : Ver) (hv_ : Ver.fits B Av_2 cv_2 v_) {gb0 : Nat} {Ab0v : Option Addr} {cb0v : Nat} {b0v : List Ver} (hb0v : Sl verT B Ab0v b0v) (hb0vc : b0v.length ≤ cb0v) {gb1 : Nat} {Ab1v : Option Addr} {cb1v : Nat} {b1v : List Ver} (hb1v : Sl verT B Ab1v b1v) (hb1vc : b1v.length ≤ cb1v) {gb2 : Nat} {Ab2v : Option Addr} {cb2v : Nat} {rowb2v : Rowb} {b2v : List Ver} (hb2v : Own verT Γ 58 rowb2v Ab2v cb2v b2v) (hp : Pre [[(gb0, .cells #[.slice Ab0v b0v.length cb0v] 40 (0, 0))], [(gb1, .cells #[.slice Ab1v b1v.length cb1v] 40 (0, 0))], [(gb2, .cells #[.slice Ab2v b2v.length cb2v] 40 (0, 0))], rowb2v] Γ w0) (hpB : Pre [[(gb0, .cells #[.slice Ab0v b0v.length cb0v] 40 (0, 0))], [(gb1, .cells #[.slice Ab1v b1v.length cb1v] 40 (0, 0))], [(gb2, .cells #[.slice Ab2v b2v.length cb2v] 40 (0, 0))], rowb2v] B w0) {r : List Ver} (h : m_vers_Merge_1 v_ b0v b1v b2v = some r) : Calls Try.prog 73 #[.agg #[.int .i64 v_.dot.s, .int .i64 v_.dot.n, .slice Av_2 v_.past.length cv_2, .bool v_.gone, .string v_.val], .pointer (some ⟨gb0, 0, none⟩), .pointer (some ⟨gb1, 0, none⟩), .pointer (some ⟨gb2, 0, none⟩)] w0 (Outc Γ [[(gb0, .cells #[.slice Ab0v b0v.length cb0v] 40 (0, 0))], [(gb1, .cells #[.slice Ab1v b1v.length cb1v] 40 (0, 0))], [(gb2, .cells #[.slice Ab2v b2v.length cb2v] 40 (0, 0))], rowb2v] w0 (r_vers_Merge_1 gb0 Ab0v cb0v b0v gb1 Ab1v cb1v b1v gb2 Ab2v cb2v b2v rowb2v r)) := by
  refine calls_of (N := 25) (rs := []) (args := [.agg #[.int .i64 v_.dot.s, .int .i64 v_.dot.n, .slice Av_2 v_.past.length cv_2, .bool v_.gone, .string v_.val], .pointer (some ⟨gb0, 0, none⟩), .pointer (some ⟨gb1, 0, none⟩), .pointer (some ⟨gb2, 0, none⟩)]) Try.func73 rfl Try.ntmps73 Try.results73 rfl ?_
  obtain ⟨F, hF⟩ : ∃ F : Fm, F = ⟨ids [[(gb0, .cells #[.slice Ab0v b0v.length cb0v] 40 (0, 0))], [(gb1, .cells #[.slice Ab1v b1v.length cb1v] 40 (0, 0))], [(gb2, .cells #[.slice Ab2v b2v.length cb2v] 40 (0, 0))], rowb2v], w0, Γ⟩ := ⟨_, rfl⟩
  refine WC.here (C := CC F Γ [[(gb0, .cells #[.slice Ab0v b0v.length cb0v] 40 (0, 0))], [(gb1, .cells #[.slice Ab1v b1v.length cb1v] 40 (0, 0))], [(gb2, .cells #[.slice Ab2v b2v.length cb2v] 40 (0, 0))], rowb2v]) ?_ (hF ▸ hp.start)
  have hB : Lent F B := hF ▸ Lent.start hpB
  refine WC.rs ?_
  refine e_box (v := .agg #[.int .i64 v_.dot.s, .int .i64 v_.dot.n, .slice Av_2 v_.past.length cv_2, .bool v_.gone, .string v_.val]) rfl rfl rfl rfl (by kernel_rfl) ?_
  intro g1
  refine WR.nil ?_
  change WC _ _ _ _ _ _
  refine WC.rs ?_
  refine va rfl rfl rfl (q_fl 0 fld_58_0 rfl rfl rfl) ?_
  refine va rfl rfl rfl (q_ldla (i := 0) (vs := [.int .i64 v_.dot.s, .int .i64 v_.dot.n]) rfl rfl Try.isAgg55 Try.sizeOf55 rfl rfl) ?_
  refine va rfl rfl rfl (q_ldl (i := 1) (v := .slice Ab0v b0v.length cb0v) rfl rfl Try.isAgg40 rfl rfl) ?_
  obtain ⟨z2, hz3, h⟩ := bnd h
  refine vc rfl rfl rfl (q_call (call_run Try.call74 rfl rfl (by kernel_rfl)) (fun w hw => t_vers_behind (Γ := Gh.all w) v_.dot ⟨hv_.1, hv_.2.1⟩ (hb0v.mono (hB.sat hw).le_all) hb0vc (Sat.all w) hz3)) ?_
  refine va rfl rfl rfl (q_not rfl rfl) ?_
  refine va rfl rfl rfl (q_move (v := .bool (!z2)) rfl (by kernel_rfl)) ?_
  refine vg1 rfl rfl rfl rfl rfl (fun hg4 => QV.qo (q_fl 0 fld_58_0 rfl rfl rfl)) ?_
  refine vg1 rfl rfl rfl rfl rfl (fun hg5 => QV.qo (q_ldla (i := 0) (vs := [.int .i64 v_.dot.s, .int .i64 v_.dot.n]) rfl rfl Try.isAgg55 Try.sizeOf55 (gu hg5 rfl) rfl)) ?_
  refine vg1 rfl rfl rfl rfl rfl (fun hg6 => QV.qo (q_ldl (i := 2) (v := .slice Ab1v b1v.length cb1v) rfl rfl Try.isAgg40 rfl rfl)) ?_
  obtain ⟨z8, hz9, h⟩ := bnd h
  refine vg1 rfl rfl rfl rfl rfl (fun hg7 => (q_call (call_run Try.call74 rfl rfl (args2 (gu hg7 rfl) (gu hg7 rfl))) (fun w hw => t_vers_behind (Γ := Gh.all w) v_.dot ⟨hv_.1, hv_.2.1⟩ (hb1v.mono (hB.sat hw).le_all) hb1vc (Sat.all w) (gc_of hz9 hg7)))) ?_
  refine vg1 rfl rfl rfl rfl rfl (fun hg10 => QV.qo (q_not rfl (gu hg10 rfl))) ?_
  refine va rfl rfl rfl (q_pick rfl rfl (pk_and' (g := (!z2)) (y := (!z8)))) ?_
  refine WR.nil ?_
  change WC _ _ _ _ _ _
  refine WC.cif h (by kernel_rfl) (fun hb11 h => ?_) (fun hb11 h => ?_)
  · skip
    refine WC.rs ?_
    refine va rfl rfl rfl (q_fl 2 fld_58_1 rfl rfl rfl) ?_
    refine va rfl rfl rfl (q_ldl (i := 0) (v := .slice Av_2 v_.past.length cv_2) rfl rfl Try.isAgg56 rfl rfl) ?_
    obtain ⟨z12, hz13, h⟩ := bnd h
    refine e_callW (is := []) rfl rfl (call_run Try.call75 rfl rfl (by kernel_rfl)) rfl (fun w hw hp => t_vers_clone_api_Span_l1 (B := B) hv_.2.2.1.2 hv_.2.2.1.1 hp (hB.pre (is := []) hw rfl) hz13) ?_
    rintro Γ14 U16 v17 hl15 ⟨A18, c19, row20, rfl, rfl, hr21, _⟩
    change WR _ _ _ (CC F Γ14 [row20, [(g1, .cells #[.int .i64 v_.dot.s, .int .i64 v_.dot.n, .slice Av_2 v_.past.length cv_2, .bool v_.gone, .string v_.val] 58 (0, 0))], [(gb0, .cells #[.slice Ab0v b0v.length cb0v] 40 (0, 0))], [(gb1, .cells #[.slice Ab1v b1v.length cb1v] 40 (0, 0))], [(gb2, .cells #[.slice Ab2v b2v.length cb2v] 40 (0, 0))], rowb2v]) _ _ (upd _ 19 (.slice A18 z12.length c19))
    refine va rfl rfl rfl (q_fl 2 fld_58_1 rfl rfl rfl) ?_
    refine e_st (i := 1) (v := .slice A18 z12.length c19) (new := #[.int .i64 v_.dot.s, .int .i64 v_.dot.n, .slice A18 z12.length c19, .bool v_.gone, .string v_.val]) rfl Try.sizeOf56 rfl rfl rfl rfl (by kernel_rfl) rfl rfl rfl rfl ?_
    refine WR.nil ?_
    change WC _ _ _ _ _ _
    refine WC.region ?_
    refine va rfl rfl rfl (q_ldl (i := 4) (v := .slice Ab2v b2v.length cb2v) rfl rfl Try.isAgg40 rfl rfl) ?_
    refine va rfl rfl rfl (q_ldla (i := 1) (vs := [.int .i64 v_.dot.s, .int .i64 v_.dot.n, .slice A18 z12.length c19, .bool v_.gone, .string v_.val]) rfl rfl Try.isAgg58 Try.sizeOf58 rfl rfl) ?_
    have hc26 := hr21.capz
    intro w hw; obtain ⟨Γ22, hw, hl23, hr24⟩ := hw.seal (i := 0) rfl; have hs25 := hr21.sl hl23 hr24
    refine WR.here (C := CC F Γ22 [[], [(g1, .cells #[.int .i64 v_.dot.s, .int .i64 v_.dot.n, .slice A18 z12.length c19, .bool v_.gone, .string v_.val] 58 (0, 0))], [(gb0, .cells #[.slice Ab0v b0v.length cb0v] 40 (0, 0))], [(gb1, .cells #[.slice Ab1v b1v.length cb1v] 40 (0, 0))], [(gb2, .cells #[.slice Ab2v b2v.length cb2v] 40 (0, 0))], rowb2v]) ?_ hw
    clear hw
    refine e_buildSlice (cs := #[.int .i64 v_.dot.s, .int .i64 v_.dot.n, .slice A18 z12.length c19, .bool v_.gone, .string v_.val]) (e := 58) rfl rfl rfl rfl (fun w => by kernel_rfl) ?_
    intro g27
    obtain ⟨hk28, h⟩ := chk_some h
    refine e_append (T := verT) (xs := b2v) (ys := [(⟨(⟨v_.dot.s, v_.dot.n⟩ : Dot), z12, v_.gone, v_.val⟩ : Ver)]) elem_40 (i := 6) rfl rfl rfl rfl rfl rfl rfl (hb2v.mono (hl15.trans hl23)) (of_decide_eq_true hk28) (fun w hw => src_one (T := verT) (y := (⟨(⟨v_.dot.s, v_.dot.n⟩ : Dot), z12, v_.gone, v_.val⟩ : Ver)) (i := 0) rfl (by exact ⟨A18, c19, rfl, ⟨hv_.1, hv_.2.1, ⟨hc26, hs25⟩, hv_.2.2.2⟩⟩) hw) ?_
    intro row29 A30 c31 ho32
    refine e_st (i := 5) (v := .slice A30 (b2v ++ [(⟨(⟨v_.dot.s, v_.dot.n⟩ : Dot), z12, v_.gone, v_.val⟩ : Ver)]).length c31) (new := #[.slice A30 (b2v ++ [(⟨(⟨v_.dot.s, v_.dot.n⟩ : Dot), z12, v_.gone, v_.val⟩ : Ver)]).length c31]) rfl Try.sizeOf40 rfl rfl rfl rfl (by kernel_rfl) rfl rfl rfl rfl ?_
    refine WR.nil ?_
    intro w hw
    obtain rfl := Option.some.inj h
    subst hF
    exact end_e (is := [3, 3, 3, 3]) (by kernel_rfl) hw rfl ⟨A30, c31, row29, rfl, rfl, ho32, trivial⟩
  · skip
    refine WC.skip ?_
    intro w hw
    obtain rfl := Option.some.inj h
    subst hF
    exact end_e (is := [1, 1, 1, 1]) (by kernel_rfl) hw rfl ⟨Ab2v, cb2v, rowb2v, rfl, rfl, hb2v, trivial⟩
set_option maxRecDepth 100000 in
set_option maxHeartbeats 400000 in
theorem t_vers_Merge_x {Γ : Gh} {w0 : World} {B : Gh} {Aa : Option Addr} {ca : Nat} {a : List Ver} (ha : Sl verT B Aa a) (hac : a.length ≤ ca) {Ab : Option Addr} {cb : Nat} {b : List Ver} (hb : Sl verT B Ab b) (hbc : b.length ≤ cb) (hp : Pre [] Γ w0) (hpB : Pre [] B w0) {r : (List Ver) × Int} (h : m_vers_Merge a b = some r) : Calls Try.prog 47 #[.slice Aa a.length ca, .slice Ab b.length cb] w0 (Outc Γ [] w0 (r_vers_Merge r)) := by
  refine calls_of (N := 110) (rs := [4, 5]) (args := [.slice Aa a.length ca, .slice Ab b.length cb]) Try.func47 rfl Try.ntmps47 Try.results47 rfl ?_
  obtain ⟨F, hF⟩ : ∃ F : Fm, F = ⟨ids [], w0, Γ⟩ := ⟨_, rfl⟩
  refine WC.here (C := CC F Γ []) ?_ (hF ▸ hp.start)
  have hB : Lent F B := hF ▸ Lent.start hpB
  refine WC.rs ?_
  refine e_box (v := .slice Aa a.length ca) rfl rfl rfl rfl (by kernel_rfl) ?_
  intro g1
  refine e_box (v := .slice Ab b.length cb) rfl rfl rfl rfl (by kernel_rfl) ?_
  intro g2
  refine va rfl rfl rfl (q_assign (v := .slice none 0 0) rfl (by kernel_rfl)) ?_
  refine va rfl rfl rfl (q_assign (v := .int .i64 0) rfl (by kernel_rfl)) ?_
  refine WR.nil ?_
  change WC _ _ _ _ _ _
  refine WC.seq ?_
  refine WC.rs ?_
  refine va rfl rfl rfl (q_ldl (i := 1) (v := .slice Aa a.length ca) rfl rfl Try.isAgg40 rfl rfl) ?_
  obtain ⟨z3, hz4, h⟩ := bnd h
  refine vc rfl rfl rfl (q_call (call_run Try.call72 rfl rfl (by kernel_rfl)) (fun w hw => t_vers_Right (Γ := Gh.all w) (ha.mono (hB.sat hw).le_all) hac (Sat.all w) hz4)) ?_
  refine va rfl rfl rfl (q_not rfl rfl) ?_
  refine va rfl rfl rfl (q_move (v := .bool (!z3)) rfl (by kernel_rfl)) ?_
  refine vg0 rfl rfl rfl rfl rfl (fun hg5 => QV.qo (q_ldl (i := 0) (v := .slice Ab b.length cb) rfl rfl Try.isAgg40 rfl rfl)) ?_
  obtain ⟨z7, hz8, h⟩ := bnd h
  refine vg0 rfl rfl rfl rfl rfl (fun hg6 => (q_call (call_run Try.call72 rfl rfl (args1 (gu hg6 rfl))) (fun w hw => t_vers_Right (Γ := Gh.all w) (hb.mono (hB.sat hw).le_all) hbc (Sat.all w) (gc_of hz8 hg6)))) ?_
  refine vg0 rfl rfl rfl rfl rfl (fun hg9 => QV.qo (q_not rfl (gu hg9 rfl))) ?_
  refine va rfl rfl rfl (q_pick rfl rfl (pk_or' (g := (!z3)) (y := (!z7)))) ?_
  refine WR.nil ?_
  change WC _ _ _ _ _ _
  refine WC.cif h (by kernel_rfl) (fun hb10 h => ?_) (fun hb10 h => ?_)
  · skip
    refine WC.rs ?_
    refine va rfl rfl rfl (q_assign (v := .slice none 0 0) rfl (by kernel_rfl)) ?_
    refine va rfl rfl rfl (q_assign (v := .int .i64 1) rfl (by kernel_rfl)) ?_
    refine WR.nil ?_
    change WC _ _ _ _ _ _
    refine WC.ret ?_
    intro w hw
    have hw := hw.pad
    obtain rfl := Option.some.inj h
    subst hF
    exact end_e (is := [0]) (by kernel_rfl) hw rfl ⟨none, 0, [], rfl, rfl, (Own.nil verT _ 58), (show I64 1 by decide), trivial⟩
  · skip
    refine WC.skip ?_
    change WC _ _ _ _ _ _
    refine WC.rs ?_
    refine e_alloc Try.zeroValue40 rfl rfl rfl rfl ?_
    intro g11
    refine WR.nil ?_
    change WC _ _ _ _ _ _
    refine WC.rs ?_
    refine va rfl rfl rfl (q_mkfn (v := .func (.func 73) #[] #[.pointer (some ⟨g1, 0, none⟩), .pointer (some ⟨g2, 0, none⟩), .pointer (some ⟨g11, 0, none⟩)]) rfl (by kernel_rfl)) ?_
    refine va rfl rfl rfl (q_assign (v := .func (.func 73) #[] #[.pointer (some ⟨g1, 0, none⟩), .pointer (some ⟨g2, 0, none⟩), .pointer (some ⟨g11, 0, none⟩)]) rfl (by kernel_rfl)) ?_
    refine WR.nil ?_
    change WC _ _ _ _ _ _
    refine WC.rs ?_
    refine va rfl rfl rfl (q_assign (v := .bool false) rfl (by kernel_rfl)) ?_
    refine WR.nil ?_
    change WC _ _ _ _ _ _
    refine WC.seq ?_
    refine WC.rs ?_
    refine va rfl rfl rfl (q_assign (v := .int .i64 0) rfl (by kernel_rfl)) ?_
    refine va rfl rfl rfl (q_assign (v := .int .i64 0) rfl (by kernel_rfl)) ?_
    refine WR.nil ?_
    change WC _ _ _ _ _ _
    refine WC.block ?_
    refine WC.loopN h (fun (s : Bool × Int × Int × (List Ver)) σ w => match s with | (twin_14, i_15, k_17, x19) => ∃ (Γ12 : Gh), ∃ (A20 : Option Addr), ∃ (c21 : Nat), ∃ (row22 : Rowb), slots σ [(2, .pointer (some ⟨g1, 0, none⟩)), (3, .pointer (some ⟨g2, 0, none⟩)), (6, .pointer (some ⟨g11, 0, none⟩)), (7, .func (.func 73) #[] #[.pointer (some ⟨g1, 0, none⟩), .pointer (some ⟨g2, 0, none⟩), .pointer (some ⟨g11, 0, none⟩)]), (8, .bool twin_14), (9, .int .i64 i_15), (10, .int .i64 k_17)] ∧ CC F Γ12 [row22, [(g11, .cells #[.slice A20 x19.length c21] 40 (0, 0))], [(g2, .cells #[.slice Ab b.length cb] 40 (0, 0))], [(g1, .cells #[.slice Aa a.length ca] 40 (0, 0))]] w ∧ Gh.le Γ Γ12 ∧ I64 i_15 ∧ I64 k_17 ∧ Own verT Γ12 58 row22 A20 c21 x19 ∧ True) ?_ ?_
    · skip
      intro w hw
      have hw := hw.pad
      exact ⟨Γ, none, 0, [], (sl_ (by kernel_rfl)), hw, (Gh.refl _), (show I64 0 by decide), (show I64 0 by decide), (Own.nil verT _ 58), trivial⟩
    rintro f24 ⟨twin_14, i_15, k_17, x19⟩ σ w h ⟨Γ12, A20, c21, row22, hsl, hw, hl13, hr16, hr18, ho23, -⟩
    refine Wpt.slots hsl ?_
    refine WC.here (C := CC F Γ12 [row22, [(g11, .cells #[.slice A20 x19.length c21] 40 (0, 0))], [(g2, .cells #[.slice Ab b.length cb] 40 (0, 0))], [(g1, .cells #[.slice Aa a.length ca] 40 (0, 0))]]) ?_ hw
    clear hw hsl
    refine WC.seq ?_
    refine WC.rs ?_
    refine va rfl rfl rfl (q_move (v := .int .i64 i_15) rfl (by kernel_rfl)) ?_
    refine va rfl rfl rfl (q_ldl (i := 3) (v := .slice Aa a.length ca) rfl rfl Try.isAgg40 rfl rfl) ?_
    refine va rfl rfl rfl (q_len_slice rfl Try.underlying40 rfl) ?_
    refine va rfl rfl rfl (q_lss rfl rfl rfl) ?_
    refine va rfl rfl rfl (q_move (v := .bool (decide (i_15 < ((a.length : Nat) : Int)))) rfl (by kernel_rfl)) ?_
    refine vg0 rfl rfl rfl rfl rfl (fun hg28 => QV.qo (q_move (v := .int .i64 k_17) rfl (by kernel_rfl))) ?_
    refine vg0 rfl rfl rfl rfl rfl (fun hg29 => QV.qo (q_ldl (i := 2) (v := .slice Ab b.length cb) rfl rfl Try.isAgg40 rfl rfl)) ?_
    refine vg0 rfl rfl rfl rfl rfl (fun hg30 => QV.qo (q_len_slice rfl Try.underlying40 (gu hg30 rfl))) ?_
    refine vg0 rfl rfl rfl rfl rfl (fun hg31 => QV.qo (q_lss rfl (gu hg31 rfl) (gu hg31 rfl))) ?_
    refine va rfl rfl rfl (q_pick rfl rfl (pk_or' (g := (decide (i_15 < ((a.length : Nat) : Int)))) (y := (decide (k_17 < ((b.length : Nat) : Int)))))) ?_
    refine WR.nil ?_
    change WC _ _ _ _ _ _
    refine WC.cif h (by kernel_rfl) (fun hb32 h => ?_) (fun hb32 h => ?_)
    · skip
      refine WC.skip ?_
      change WC _ _ _ _ _ _
      refine WC.block ?_
      refine WC.block ?_
      refine WC.seq ?_
      refine WC.dr (by kernel_rfl) (by kernel_rfl) (fun w hw => hw.drawn _) ?_
      refine wa rfl rfl rfl (q_move (v := .int .i64 k_17) rfl (by kernel_rfl)) ?_
      refine wa rfl rfl rfl (q_ldl (i := 2) (v := .slice Ab b.length cb) rfl rfl Try.isAgg40 rfl rfl) ?_
      refine wa rfl rfl rfl (q_len_slice rfl Try.underlying40 rfl) ?_
      refine wa rfl rfl rfl (q_eql rfl rfl rfl) ?_
      refine wa rfl rfl rfl (q_move (v := .bool (k_17 == ((b.length : Nat) : Int))) rfl (by kernel_rfl)) ?_
      refine wg0 rfl rfl rfl rfl rfl (fun hg33 => QV.qo (q_move (v := .int .i64 i_15) rfl (by kernel_rfl))) ?_
      refine wg0 rfl rfl rfl rfl rfl (fun hg34 => QV.qo (q_ldl (i := 3) (v := .slice Aa a.length ca) rfl rfl Try.isAgg40 rfl rfl)) ?_
      refine wg0 rfl rfl rfl rfl rfl (fun hg35 => QV.qo (q_len_slice rfl Try.underlying40 (gu hg35 rfl))) ?_
      refine wg0 rfl rfl rfl rfl rfl (fun hg36 => QV.qo (q_lss rfl (gu hg36 rfl) (gu hg36 rfl))) ?_
      refine wg0 rfl rfl rfl rfl rfl (fun hg37 => QV.qo (q_move (v := .bool (decide (i_15 < ((a.length : Nat) : Int)))) rfl (gu hg37 rfl))) ?_
      refine wh1 (c0 := (!(k_17 == ((b.length : Nat) : Int)))) (g := (decide (i_15 < ((a.length : Nat) : Int)))) rfl rfl rfl rfl rfl (fun hg38 => QV.qo (q_ldl (i := 3) (v := .slice Aa a.length ca) rfl rfl Try.isAgg40 rfl rfl)) ?_
      refine wh1 (c0 := (!(k_17 == ((b.length : Nat) : Int)))) (g := (decide (i_15 < ((a.length : Nat) : Int)))) rfl rfl rfl rfl rfl (fun hg39 => QV.qo (q_move (v := .int .i64 i_15) rfl (by kernel_rfl))) ?_
      obtain ⟨hk41, h⟩ := chk_some h
      refine wh1 (c0 := (!(k_17 == ((b.length : Nat) : Int)))) (g := (decide (i_15 < ((a.length : Nat) : Int)))) rfl rfl rfl rfl rfl (fun hg40 => QV.qo (q_ix Try.underlying40 Try.sizeOf58 rfl (gu hg40 rfl) (gu hg40 rfl) (imp_of hk41 hg40) (ha.some_ (inb_lt (imp_of hk41 hg40))))) ?_
      refine wh1 (c0 := (!(k_17 == ((b.length : Nat) : Int)))) (g := (decide (i_15 < ((a.length : Nat) : Int)))) rfl rfl rfl rfl rfl (fun hg42 => QV.qo (q_field_addr (i_15.toNat * 5) fld_58_0 rfl (gu hg42 rfl) (ha.some_ (inb_lt (imp_of hk41 hg42))) rfl)) ?_
      obtain ⟨A44, c45, hx46⟩ := ha.verT_at i_15.toNat
      refine wh1 (c0 := (!(k_17 == ((b.length : Nat) : Int)))) (g := (decide (i_15 < ((a.length : Nat) : Int)))) rfl rfl rfl rfl rfl (fun hg43 => QV.qo (q_ldaS (c := 0) (vs := [.int .i64 (gt a i_15.toNat).dot.s, .int .i64 (gt a i_15.toNat).dot.n]) (fun w hw => hB.sat hw) (hx46 (inb_lt (imp_of hk41 hg43))).2 rfl Try.isAgg55 Try.sizeOf55 (gu hg43 rfl) rfl rfl)) ?_
      refine wh1 (c0 := (!(k_17 == ((b.length : Nat) : Int)))) (g := (decide (i_15 < ((a.length : Nat) : Int)))) rfl rfl rfl rfl rfl (fun hg47 => QV.qo (q_ldl (i := 2) (v := .slice Ab b.length cb) rfl rfl Try.isAgg40 rfl rfl)) ?_
      refine wh1 (c0 := (!(k_17 == ((b.length : Nat) : Int)))) (g := (decide (i_15 < ((a.length : Nat) : Int)))) rfl rfl rfl rfl rfl (fun hg48 => QV.qo (q_move (v := .int .i64 k_17) rfl (by kernel_rfl))) ?_
      obtain ⟨hk50, h⟩ := chk_some h
      refine wh1 (c0 := (!(k_17 == ((b.length : Nat) : Int)))) (g := (decide (i_15 < ((a.length : Nat) : Int)))) rfl rfl rfl rfl rfl (fun hg49 => QV.qo (q_ix Try.underlying40 Try.sizeOf58 rfl (gu hg49 rfl) (gu hg49 rfl) (imp_of hk50 hg49) (hb.some_ (inb_lt (imp_of hk50 hg49))))) ?_
      refine wh1 (c0 := (!(k_17 == ((b.length : Nat) : Int)))) (g := (decide (i_15 < ((a.length : Nat) : Int)))) rfl rfl rfl rfl rfl (fun hg51 => QV.qo (q_field_addr (k_17.toNat * 5) fld_58_0 rfl (gu hg51 rfl) (hb.some_ (inb_lt (imp_of hk50 hg51))) rfl)) ?_
      obtain ⟨A53, c54, hx55⟩ := hb.verT_at k_17.toNat
      refine wh1 (c0 := (!(k_17 == ((b.length : Nat) : Int)))) (g := (decide (i_15 < ((a.length : Nat) : Int)))) rfl rfl rfl rfl rfl (fun hg52 => QV.qo (q_ldaS (c := 0) (vs := [.int .i64 (gt b k_17.toNat).dot.s, .int .i64 (gt b k_17.toNat).dot.n]) (fun w hw => hB.sat hw) (hx55 (inb_lt (imp_of hk50 hg52))).2 rfl Try.isAgg55 Try.sizeOf55 (gu hg52 rfl) rfl rfl)) ?_
      obtain ⟨z57, hz58, h⟩ := bnd h
      refine wh1 (c0 := (!(k_17 == ((b.length : Nat) : Int)))) (g := (decide (i_15 < ((a.length : Nat) : Int)))) rfl rfl rfl rfl rfl (fun hg56 => (q_call (call_run Try.call76 rfl rfl (args2 (gu hg56 rfl) (gu hg56 rfl))) (fun w hw => t_vers_before (Γ := Gh.all w) ((gt a i_15.toNat).dot) ⟨(hx46 (inb_lt (imp_of hk41 hg56))).1.1, (hx46 (inb_lt (imp_of hk41 hg56))).1.2.1⟩ ((gt b k_17.toNat).dot) ⟨(hx55 (inb_lt (imp_of hk50 hg56))).1.1, (hx55 (inb_lt (imp_of hk50 hg56))).1.2.1⟩ (Sat.all w) (gc_of hz58 hg56)))) ?_
      refine wg0 rfl rfl rfl rfl rfl (fun hg59 => QV.qo (q_pick rfl (gu hg59 rfl) (pk_and (c := (!(k_17 == ((b.length : Nat) : Int)))) (g := (decide (i_15 < ((a.length : Nat) : Int)))) (y := z57) hg59))) ?_
      refine wa rfl rfl rfl (q_pick rfl rfl (pk_or' (g := (k_17 == ((b.length : Nat) : Int))) (y := ((decide (i_15 < ((a.length : Nat) : Int))) && z57)))) ?_
      refine wa rfl rfl rfl (q_assign (v := .bool ((k_17 == ((b.length : Nat) : Int)) || ((decide (i_15 < ((a.length : Nat) : Int))) && z57))) rfl (by kernel_rfl)) ?_
      refine WQ.nil ?_
      change WC _ _ _ _ _ _
      refine WC.cif h (by kernel_rfl) (fun hb60 h => ?_) (fun hb60 h => ?_)
      · skip
        refine WC.rs ?_
        refine va rfl rfl rfl (q_move (v := .func (.func 73) #[] #[.pointer (some ⟨g1, 0, none⟩), .pointer (some ⟨g2, 0, none⟩), .pointer (some ⟨g11, 0, none⟩)]) rfl (by kernel_rfl)) ?_
        refine va rfl rfl rfl (q_ldl (i := 3) (v := .slice Aa a.length ca) rfl rfl Try.isAgg40 rfl rfl) ?_
        refine va rfl rfl rfl (q_move (v := .int .i64 i_15) rfl (by kernel_rfl)) ?_
        obtain ⟨hk61, h⟩ := chk_some h
        refine va rfl rfl rfl (q_ix Try.underlying40 Try.sizeOf58 rfl rfl rfl hk61 (ha.some_ (inb_lt hk61))) ?_
        refine va rfl rfl rfl (q_ldaS (c := 0) (vs := [.int .i64 (gt a i_15.toNat).dot.s, .int .i64 (gt a i_15.toNat).dot.n, .slice A44 ((gt a i_15.toNat).past).length c45, .bool (gt a i_15.toNat).gone, .string (gt a i_15.toNat).val]) (fun w hw => hB.sat hw) (hx46 (inb_lt hk61)).2 rfl Try.isAgg58 Try.sizeOf58 rfl rfl rfl) ?_
        obtain ⟨z62, hz63, h⟩ := bnd h
        refine e_callW (is := [3, 2, 1, 0]) rfl rfl (call_run_fv (caps := #[.pointer (some ⟨g1, 0, none⟩), .pointer (some ⟨g2, 0, none⟩), .pointer (some ⟨g11, 0, none⟩)]) Try.call73 rfl (by kernel_rfl) (by kernel_rfl)) rfl (fun w hw hp => t_vers_Merge_1_x (B := B) (gt a i_15.toNat) (hx46 (inb_lt hk61)).1 ha hac hb hbc ho23 hp (hB.pre (is := [3, 2, 1, 0]) hw rfl) hz63) ?_
        rintro Γ64 U66 v67 hl65 ⟨A68, c69, row70, rfl, rfl, hr71, _⟩
        change WR _ _ _ (CC F Γ64 [[(g1, .cells #[.slice Aa a.length ca] 40 (0, 0))], [(g2, .cells #[.slice Ab b.length cb] 40 (0, 0))], [(g11, .cells #[.slice A68 z62.length c69] 40 (0, 0))], row70]) _ _ (upd _ 67 (.tuple #[]))
        refine WR.nil ?_
        change WC _ _ _ _ _ _
        refine WC.region ?_
        refine va rfl rfl rfl (q_move (v := .int .i64 i_15) rfl (by kernel_rfl)) ?_
        refine va rfl rfl rfl (q_add rfl rfl rfl) ?_
        refine va rfl rfl rfl (q_assign (v := .int .i64 (w64 (i_15 + 1))) rfl (by kernel_rfl)) ?_
        refine WR.nil ?_
        intro w hw
        exact ⟨(twin_14, (w64 (i_15 + 1)), k_17, z62), h, Γ64, A68, c69, row70, (sl_ (by kernel_rfl)), (hw.only (is := [3, 2, 1, 0]) rfl), (hl13.trans hl65), (w64_r _), hr18, hr71, trivial⟩
      · skip
        refine WC.seq ?_
        refine WC.dr (by kernel_rfl) (by kernel_rfl) (fun w hw => hw.drawn _) ?_
        refine wa rfl rfl rfl (q_move (v := .int .i64 i_15) rfl (by kernel_rfl)) ?_
        refine wa rfl rfl rfl (q_ldl (i := 3) (v := .slice Aa a.length ca) rfl rfl Try.isAgg40 rfl rfl) ?_
        refine wa rfl rfl rfl (q_len_slice rfl Try.underlying40 rfl) ?_
        refine wa rfl rfl rfl (q_lss rfl rfl rfl) ?_
        refine wa rfl rfl rfl (q_move (v := .bool (decide (i_15 < ((a.length : Nat) : Int)))) rfl (by kernel_rfl)) ?_
        refine wg1 rfl rfl rfl rfl rfl (fun hg72 => QV.qo (q_ldl (i := 3) (v := .slice Aa a.length ca) rfl rfl Try.isAgg40 rfl rfl)) ?_
        refine wg1 rfl rfl rfl rfl rfl (fun hg73 => QV.qo (q_move (v := .int .i64 i_15) rfl (by kernel_rfl))) ?_
        obtain ⟨hk75, h⟩ := chk_some h
        refine wg1 rfl rfl rfl rfl rfl (fun hg74 => QV.qo (q_ix Try.underlying40 Try.sizeOf58 rfl (gu hg74 rfl) (gu hg74 rfl) (imp_of hk75 hg74) (ha.some_ (inb_lt (imp_of hk75 hg74))))) ?_
        refine wg1 rfl rfl rfl rfl rfl (fun hg76 => QV.qo (q_field_addr (i_15.toNat * 5) fld_58_0 rfl (gu hg76 rfl) (ha.some_ (inb_lt (imp_of hk75 hg76))) rfl)) ?_
        refine wg1 rfl rfl rfl rfl rfl (fun hg77 => QV.qo (q_ldaS (c := 0) (vs := [.int .i64 (gt a i_15.toNat).dot.s, .int .i64 (gt a i_15.toNat).dot.n]) (fun w hw => hB.sat hw) (hx46 (inb_lt (imp_of hk75 hg77))).2 rfl Try.isAgg55 Try.sizeOf55 (gu hg77 rfl) rfl rfl)) ?_
        refine wg1 rfl rfl rfl rfl rfl (fun hg78 => QV.qo (q_ldl (i := 2) (v := .slice Ab b.length cb) rfl rfl Try.isAgg40 rfl rfl)) ?_
        refine wg1 rfl rfl rfl rfl rfl (fun hg79 => QV.qo (q_move (v := .int .i64 k_17) rfl (by kernel_rfl))) ?_
        obtain ⟨hk81, h⟩ := chk_some h
        refine wg1 rfl rfl rfl rfl rfl (fun hg80 => QV.qo (q_ix Try.underlying40 Try.sizeOf58 rfl (gu hg80 rfl) (gu hg80 rfl) (imp_of hk81 hg80) (hb.some_ (inb_lt (imp_of hk81 hg80))))) ?_
        refine wg1 rfl rfl rfl rfl rfl (fun hg82 => QV.qo (q_field_addr (k_17.toNat * 5) fld_58_0 rfl (gu hg82 rfl) (hb.some_ (inb_lt (imp_of hk81 hg82))) rfl)) ?_
        refine wg1 rfl rfl rfl rfl rfl (fun hg83 => QV.qo (q_ldaS (c := 0) (vs := [.int .i64 (gt b k_17.toNat).dot.s, .int .i64 (gt b k_17.toNat).dot.n]) (fun w hw => hB.sat hw) (hx55 (inb_lt (imp_of hk81 hg83))).2 rfl Try.isAgg55 Try.sizeOf55 (gu hg83 rfl) rfl rfl)) ?_
        refine wg1 rfl rfl rfl rfl rfl (fun hg84 => QV.qo (q_eql_Dot (a := (gt a i_15.toNat).dot) (b := (gt b k_17.toNat).dot) rfl (gu hg84 rfl) (gu hg84 rfl))) ?_
        refine wa rfl rfl rfl (q_pick rfl rfl (pk_and' (g := (decide (i_15 < ((a.length : Nat) : Int)))) (y := ((gt a i_15.toNat).dot == (gt b k_17.toNat).dot)))) ?_
        refine wa rfl rfl rfl (q_assign (v := .bool ((decide (i_15 < ((a.length : Nat) : Int))) && ((gt a i_15.toNat).dot == (gt b k_17.toNat).dot))) rfl (by kernel_rfl)) ?_
        refine WQ.nil ?_
        change WC _ _ _ _ _ _
        refine WC.cif h (by kernel_rfl) (fun hb85 h => ?_) (fun hb85 h => ?_)
        · skip
          refine WC.seq ?_
          refine WC.dr (by kernel_rfl) (by kernel_rfl) (fun w hw => hw.drawn _) ?_
          refine wa rfl rfl rfl (q_move (v := .bool twin_14) rfl (by kernel_rfl)) ?_
          refine wa rfl rfl rfl (q_move (v := .bool twin_14) rfl (by kernel_rfl)) ?_
          refine wg0 rfl rfl rfl rfl rfl (fun hg86 => QV.qo (q_ldl (i := 3) (v := .slice Aa a.length ca) rfl rfl Try.isAgg40 rfl rfl)) ?_
          refine wg0 rfl rfl rfl rfl rfl (fun hg87 => QV.qo (q_move (v := .int .i64 i_15) rfl (by kernel_rfl))) ?_
          obtain ⟨hk89, h⟩ := chk_some h
          refine wg0 rfl rfl rfl rfl rfl (fun hg88 => QV.qo (q_ix Try.underlying40 Try.sizeOf58 rfl (gu hg88 rfl) (gu hg88 rfl) (imp_of hk89 hg88) (ha.some_ (inb_lt (imp_of hk89 hg88))))) ?_
          refine wg0 rfl rfl rfl rfl rfl (fun hg90 => QV.qo (q_ldaS (c := 0) (vs := [.int .i64 (gt a i_15.toNat).dot.s, .int .i64 (gt a i_15.toNat).dot.n, .slice A44 ((gt a i_15.toNat).past).length c45, .bool (gt a i_15.toNat).gone, .string (gt a i_15.toNat).val]) (fun w hw => hB.sat hw) (hx46 (inb_lt (imp_of hk89 hg90))).2 rfl Try.isAgg58 Try.sizeOf58 (gu hg90 rfl) rfl rfl)) ?_
          refine wg0 rfl rfl rfl rfl rfl (fun hg91 => QV.qo (q_ldl (i := 2) (v := .slice Ab b.length cb) rfl rfl Try.isAgg40 rfl rfl)) ?_
          refine wg0 rfl rfl rfl rfl rfl (fun hg92 => QV.qo (q_move (v := .int .i64 k_17) rfl (by kernel_rfl))) ?_
          obtain ⟨hk94, h⟩ := chk_some h
          refine wg0 rfl rfl rfl rfl rfl (fun hg93 => QV.qo (q_ix Try.underlying40 Try.sizeOf58 rfl (gu hg93 rfl) (gu hg93 rfl) (imp_of hk94 hg93) (hb.some_ (inb_lt (imp_of hk94 hg93))))) ?_
          refine wg0 rfl rfl rfl rfl rfl (fun hg95 => QV.qo (q_ldaS (c := 0) (vs := [.int .i64 (gt b k_17.toNat).dot.s, .int .i64 (gt b k_17.toNat).dot.n, .slice A53 ((gt b k_17.toNat).past).length c54, .bool (gt b k_17.toNat).gone, .string (gt b k_17.toNat).val]) (fun w hw => hB.sat hw) (hx55 (inb_lt (imp_of hk94 hg95))).2 rfl Try.isAgg58 Try.sizeOf58 (gu hg95 rfl) rfl rfl)) ?_
          obtain ⟨z97, hz98, h⟩ := bnd h
          refine wg0 rfl rfl rfl rfl rfl (fun hg96 => (q_call (call_run Try.call77 rfl rfl (args2 (gu hg96 rfl) (gu hg96 rfl))) (fun w hw => t_vers_same (Γ := Gh.all w) (gt a i_15.toNat) (Ver.fits_mono (hx46 (inb_lt (imp_of hk89 hg96))).1 (hB.sat hw).le_all) (gt b k_17.toNat) (Ver.fits_mono (hx55 (inb_lt (imp_of hk94 hg96))).1 (hB.sat hw).le_all) (Sat.all w) (gc_of hz98 hg96)))) ?_
          refine wg0 rfl rfl rfl rfl rfl (fun hg99 => QV.qo (q_not rfl (gu hg99 rfl))) ?_
          refine wa rfl rfl rfl (q_pick rfl rfl (pk_or' (g := twin_14) (y := (!z97)))) ?_
          refine wa rfl rfl rfl (q_assign (v := .bool (twin_14 || (!z97))) rfl (by kernel_rfl)) ?_
          refine WQ.nil ?_
          change WC _ _ _ _ _ _
          refine WC.region ?_
          refine va rfl rfl rfl (q_move (v := .int .i64 i_15) rfl (by kernel_rfl)) ?_
          refine va rfl rfl rfl (q_add rfl rfl rfl) ?_
          refine va rfl rfl rfl (q_assign (v := .int .i64 (w64 (i_15 + 1))) rfl (by kernel_rfl)) ?_
          refine WR.nil ?_
          intro w hw
          exact ⟨((twin_14 || (!z97)), (w64 (i_15 + 1)), k_17, x19), h, Γ12, A20, c21, row22, (sl_ (by kernel_rfl)), hw, hl13, (w64_r _), hr18, ho23, trivial⟩
        · skip
          refine WC.rs ?_
          refine va rfl rfl rfl (q_move (v := .func (.func 73) #[] #[.pointer (some ⟨g1, 0, none⟩), .pointer (some ⟨g2, 0, none⟩), .pointer (some ⟨g11, 0, none⟩)]) rfl (by kernel_rfl)) ?_
          refine va rfl rfl rfl (q_ldl (i := 2) (v := .slice Ab b.length cb) rfl rfl Try.isAgg40 rfl rfl) ?_
          refine va rfl rfl rfl (q_move (v := .int .i64 k_17) rfl (by kernel_rfl)) ?_
          obtain ⟨hk100, h⟩ := chk_some h
          refine va rfl rfl rfl (q_ix Try.underlying40 Try.sizeOf58 rfl rfl rfl hk100 (hb.some_ (inb_lt hk100))) ?_
          refine va rfl rfl rfl (q_ldaS (c := 0) (vs := [.int .i64 (gt b k_17.toNat).dot.s, .int .i64 (gt b k_17.toNat).dot.n, .slice A53 ((gt b k_17.toNat).past).length c54, .bool (gt b k_17.toNat).gone, .string (gt b k_17.toNat).val]) (fun w hw => hB.sat hw) (hx55 (inb_lt hk100)).2 rfl Try.isAgg58 Try.sizeOf58 rfl rfl rfl) ?_
          obtain ⟨z101, hz102, h⟩ := bnd h
          refine e_callW (is := [3, 2, 1, 0]) rfl rfl (call_run_fv (caps := #[.pointer (some ⟨g1, 0, none⟩), .pointer (some ⟨g2, 0, none⟩), .pointer (some ⟨g11, 0, none⟩)]) Try.call73 rfl (by kernel_rfl) (by kernel_rfl)) rfl (fun w hw hp => t_vers_Merge_1_x (B := B) (gt b k_17.toNat) (hx55 (inb_lt hk100)).1 ha hac hb hbc ho23 hp (hB.pre (is := [3, 2, 1, 0]) hw rfl) hz102) ?_
          rintro Γ103 U105 v106 hl104 ⟨A107, c108, row109, rfl, rfl, hr110, _⟩
          change WR _ _ _ (CC F Γ103 [[(g1, .cells #[.slice Aa a.length ca] 40 (0, 0))], [(g2, .cells #[.slice Ab b.length cb] 40 (0, 0))], [(g11, .cells #[.slice A107 z101.length c108] 40 (0, 0))], row109]) _ _ (upd _ 35 (.tuple #[]))
          refine WR.nil ?_
          change WC _ _ _ _ _ _
          refine WC.region ?_
          refine va rfl rfl rfl (q_move (v := .int .i64 k_17) rfl (by kernel_rfl)) ?_
          refine va rfl rfl rfl (q_add rfl rfl rfl) ?_
          refine va rfl rfl rfl (q_assign (v := .int .i64 (w64 (k_17 + 1))) rfl (by kernel_rfl)) ?_
          refine WR.nil ?_
          intro w hw
          exact ⟨(twin_14, i_15, (w64 (k_17 + 1)), z101), h, Γ103, A107, c108, row109, (sl_ (by kernel_rfl)), (hw.only (is := [3, 2, 1, 0]) rfl), (hl13.trans hl104), hr16, (w64_r _), hr110, trivial⟩
    · skip
      refine WC.exit ?_
      change WC _ _ _ _ _ _
      refine WC.seq ?_
      refine WC.block ?_
      refine WC.rs ?_
      refine va rfl rfl rfl (q_move (v := .bool twin_14) rfl (by kernel_rfl)) ?_
      refine va rfl rfl rfl (q_assign (v := .bool twin_14) rfl (by kernel_rfl)) ?_
      refine WR.nil ?_
      change WC _ _ _ _ _ _
      refine WC.cif h (by kernel_rfl) (fun hb111 h => ?_) (fun hb111 h => ?_)
      · skip
        refine WC.rs ?_
        refine va rfl rfl rfl (q_assign (v := .slice none 0 0) rfl (by kernel_rfl)) ?_
        refine va rfl rfl rfl (q_assign (v := .int .i64 50) rfl (by kernel_rfl)) ?_
        refine WR.nil ?_
        change WC _ _ _ _ _ _
        refine WC.ret ?_
        intro w hw
        have hw := hw.pad
        obtain rfl := Option.some.inj h
        subst hF
        exact end_e (is := [0]) (by kernel_rfl) hw rfl ⟨none, 0, [], rfl, rfl, (Own.nil verT _ 58), (show I64 50 by decide), trivial⟩
      · skip
        refine WC.rs ?_
        refine va rfl rfl rfl (q_ldl (i := 1) (v := .slice A20 x19.length c21) rfl rfl Try.isAgg40 rfl rfl) ?_
        refine va rfl rfl rfl (q_len_slice rfl Try.underlying40 rfl) ?_
        refine va rfl rfl rfl (q_gtr rfl rfl rfl) ?_
        refine va rfl rfl rfl (q_assign (v := .bool (decide (512 < ((x19.length : Nat) : Int)))) rfl (by kernel_rfl)) ?_
        refine WR.nil ?_
        change WC _ _ _ _ _ _
        refine WC.cif h (by kernel_rfl) (fun hb112 h => ?_) (fun hb112 h => ?_)
        · skip
          refine WC.rs ?_
          refine va rfl rfl rfl (q_assign (v := .slice none 0 0) rfl (by kernel_rfl)) ?_
          refine va rfl rfl rfl (q_assign (v := .int .i64 3) rfl (by kernel_rfl)) ?_
          refine WR.nil ?_
          change WC _ _ _ _ _ _
          refine WC.ret ?_
          intro w hw
          have hw := hw.pad
          obtain rfl := Option.some.inj h
          subst hF
          exact end_e (is := [0]) (by kernel_rfl) hw rfl ⟨none, 0, [], rfl, rfl, (Own.nil verT _ 58), (show I64 3 by decide), trivial⟩
        · skip
          refine WC.skip ?_
          change WC _ _ _ _ _ _
          refine WC.rs ?_
          refine va rfl rfl rfl (q_ldl (i := 1) (v := .slice A20 x19.length c21) rfl rfl Try.isAgg40 rfl rfl) ?_
          refine va rfl rfl rfl (q_assign (v := .slice A20 x19.length c21) rfl (by kernel_rfl)) ?_
          refine va rfl rfl rfl (q_assign (v := .int .i64 0) rfl (by kernel_rfl)) ?_
          refine WR.nil ?_
          change WC _ _ _ _ _ _
          refine WC.ret ?_
          intro w hw
          obtain rfl := Option.some.inj h
          subst hF
          exact end_e (is := [0]) (by kernel_rfl) hw rfl ⟨A20, c21, row22, rfl, rfl, ho23, (show I64 0 by decide), trivial⟩
abbrev r_quorum_Read_Got_l1 (gr_ : Nat) (er_ : Nat) (r : Oquorum_asking_api_Ver × Bool) (U : List Rowb) (Γ : Gh) (v : Value) : Prop := ∃ (rowr_' : Rowb), v = .bool r.2 ∧ U = [rowr_'] ∧ Oquorum_asking_api_Ver.ob er_ Γ gr_ rowr_' r.1 ∧ True
set_option maxRecDepth 100000 in
set_option maxHeartbeats 400000 in
theorem t_quorum_Read_Got_l1 {Γ : Gh} {w0 : World} {B : Gh} {gr_ er_ : Nat} {rowr_ : Rowb} {r_ : Oquorum_asking_api_Ver} (hr_ : Oquorum_asking_api_Ver.ob er_ Γ gr_ rowr_ r_) (node : Int) (hnode : I64 node) {Al : Option Addr} {cl : Nat} {l : List Ver} (hl : Sl verT B Al l) (hlc : l.length ≤ cl) (hp : Pre [rowr_] Γ w0) (hpB : Pre [rowr_] B w0) {r : Oquorum_asking_api_Ver × Bool} (h : m_quorum_Read_Got r_ node l = some r) : Calls Try.prog 20 #[.pointer (some ⟨gr_, 0, none⟩), .int .i64 node, .slice Al l.length cl] w0 (Outc Γ [rowr_] w0 (r_quorum_Read_Got_l1 gr_ er_ r)) := by
  refine calls_of (N := 24) (rs := [6]) (args := [.pointer (some ⟨gr_, 0, none⟩), .int .i64 node, .slice Al l.length cl]) Try.func20 rfl Try.ntmps20 Try.results20 rfl ?_
  obtain ⟨F, hF⟩ : ∃ F : Fm, F = ⟨ids [rowr_], w0, Γ⟩ := ⟨_, rfl⟩
  refine WC.here (C := CC F Γ [rowr_]) ?_ (hF ▸ hp.start)
  have hB : Lent F B := hF ▸ Lent.start hpB
  refine WC.rs ?_
  refine va rfl rfl rfl (q_assign (v := .bool false) rfl (by kernel_rfl)) ?_
  refine WR.nil ?_
  change WC _ _ _ _ _ _
  refine WC.rs ?_
  refine va rfl rfl rfl (q_move (v := .slice Al l.length cl) rfl (by kernel_rfl)) ?_
  obtain ⟨z1, hz2, h⟩ := bnd h
  refine e_callB (is := []) hB rfl rfl (call_run Try.call47 rfl rfl (by kernel_rfl)) rfl (fun w Θ hp hpB hle hleB hR => t_vers_Merge_x (hl.mono hleB) hlc (Sl.nil verT _ none) (Nat.zero_le 0) hp hpB hz2) ?_
  rintro Γ3 U5 v6 hl4 ⟨A7, c8, row9, rfl, rfl, hr10, hr11, _⟩
  change WR _ _ _ (CC F Γ3 [row9, rowr_]) _ _ (upd _ 11 (.tuple #[.slice A7 z1.1.length c8, .int .i64 z1.2]))
  refine va rfl rfl rfl (q_move (v := .tuple #[.slice A7 z1.1.length c8, .int .i64 z1.2]) rfl (by kernel_rfl)) ?_
  refine va rfl rfl rfl (q_extract (v := .slice A7 z1.1.length c8) rfl rfl rfl) ?_
  refine va rfl rfl rfl (q_extract (v := .int .i64 z1.2) rfl rfl rfl) ?_
  refine va rfl rfl rfl (q_assign (v := .slice A7 z1.1.length c8) rfl (by kernel_rfl)) ?_
  refine va rfl rfl rfl (q_assign (v := .int .i64 z1.2) rfl (by kernel_rfl)) ?_
  refine WR.nil ?_
  change WC _ _ _ _ _ _
  refine WC.rs ?_
  refine va rfl rfl rfl (q_move (v := .int .i64 z1.2) rfl (by kernel_rfl)) ?_
  refine va rfl rfl rfl (q_eql rfl rfl rfl) ?_
  refine va rfl rfl rfl (q_move (v := .bool (z1.2 == 0)) rfl (by kernel_rfl)) ?_
  refine vg1 rfl rfl rfl rfl rfl (fun hg12 => QV.qo (q_move (v := .pointer (some ⟨gr_, 0, none⟩)) rfl (by kernel_rfl))) ?_
  refine vg1 rfl rfl rfl rfl rfl (fun hg13 => QV.qo (q_nil (A := some ⟨gr_, 0, none⟩) rfl (gu hg13 rfl) rfl)) ?_
  refine vg1 rfl rfl rfl rfl rfl (fun hg14 => QV.qo (q_fl 0 fld_98_0 rfl (gu hg14 rfl) rfl)) ?_
  refine vg1 rfl rfl rfl rfl rfl (fun hg15 => QV.qo (q_move (v := .int .i64 node) rfl (by kernel_rfl))) ?_
  refine vg1 rfl rfl rfl rfl rfl (fun hg16 => QV.qo (q_move (v := .slice A7 z1.1.length c8) rfl (by kernel_rfl))) ?_
  refine (Bool.eq_false_or_eq_true (z1.2 == 0)).elim (fun hb17 => ?_) (fun hb17 => ?_)
  · skip
    have h := bt hb17 h
    refine WR.sat (c0 := true) (g := (z1.2 == 0)) rfl rfl rfl hb17 ?_
    have hc22 := hr10.capz
    intro w hw; obtain ⟨Γ18, hw, hl19, hr20⟩ := hw.seal (i := 0) rfl; have hs21 := hr10.sl hl19 hr20
    refine WR.here (C := CC F Γ18 [[], rowr_]) ?_ hw
    clear hw
    obtain ⟨z23, hz24, h⟩ := bnd h
    refine e_call (is := [1]) rfl rfl (call_run Try.call48 rfl rfl (args3 (gu hb17 rfl) (gu hb17 rfl) (gu hb17 rfl))) rfl (fun w hp => t_quorum_asking_api_Ver_count (hr_.mono (hl4.trans hl19)) node hnode hs21 hc22 hp hz24) ?_
    rintro Γ25 U27 v28 hl26 ⟨row29, rfl, rfl, hr30, _⟩
    change WR _ _ _ (CC F Γ25 [row29, []]) _ _ (upd _ 22 (.bool z23.2))
    refine va rfl rfl rfl (q_pick_t (v := .bool z23.2) rfl rfl hb17 (by kernel_rfl)) ?_
    refine va rfl rfl rfl (q_assign (v := .bool z23.2) rfl (by kernel_rfl)) ?_
    refine WR.nil ?_
    change WC _ _ _ _ _ _
    refine WC.ret ?_
    intro w hw
    obtain rfl := Option.some.inj h
    subst hF
    exact end_e (is := [0]) (by kernel_rfl) hw rfl ⟨row29, rfl, rfl, hr30, trivial⟩
  · skip
    have h := bf hb17 h
    refine WR.unsat (c0 := true) (g := (z1.2 == 0)) rfl rfl rfl hb17 rfl ?_
    refine va rfl rfl rfl (q_pick_f (v := .bool false) rfl rfl hb17 (by kernel_rfl)) ?_
    refine va rfl rfl rfl (q_assign (v := .bool false) rfl (by kernel_rfl)) ?_
    refine WR.nil ?_
    change WC _ _ _ _ _ _
    refine WC.ret ?_
    intro w hw
    obtain rfl := Option.some.inj h
    subst hF
    exact end_e (is := [1]) (by kernel_rfl) hw rfl ⟨rowr_, rfl, rfl, (hr_.mono hl4), trivial⟩
set_option maxRecDepth 100000 in
set_option maxHeartbeats 400000 in
theorem t_code_RightRec {Γ : Gh} {w0 : World} {Ar_1 : Option Addr} {cr_1 : Nat} (r_ : Rec) (hr_ : Rec.fits Γ Ar_1 cr_1 r_) (hs : Sat Γ w0) {r : Bool} (h : m_code_RightRec r_ = some r) : Calls Try.prog 63 #[.agg #[.string r_.key, .slice Ar_1 r_.vers.length cr_1]] w0 (fun e w' => e = .returned (.bool r) ∧ Fr no w0 w') := by
  refine calls_of (N := 18) (rs := [2]) (args := [.agg #[.string r_.key, .slice Ar_1 r_.vers.length cr_1]]) Try.func63 rfl Try.ntmps63 Try.results63 rfl ?_
  obtain ⟨F, hF⟩ : ∃ F : Fm, F = ⟨no, w0, Γ⟩ := ⟨_, rfl⟩
  refine WC.here (C := CC F Γ []) ?_ (hF ▸ Cur.start0 hs)
  refine WC.rs ?_
  refine e_box (v := .agg #[.string r_.key, .slice Ar_1 r_.vers.length cr_1]) rfl rfl rfl rfl (by kernel_rfl) ?_
  intro g1
  refine va rfl rfl rfl (q_assign (v := .bool false) rfl (by kernel_rfl)) ?_
  refine WR.nil ?_
  change WC _ _ _ _ _ _
  refine WC.rs ?_
  refine va rfl rfl rfl (q_fl 0 fld_74_0 rfl rfl rfl) ?_
  refine va rfl rfl rfl (q_ldl (i := 0) (v := .string r_.key) rfl rfl Try.isAgg9 rfl rfl) ?_
  refine va rfl rfl rfl (q_len_str rfl Try.underlying9 rfl) ?_
  refine va rfl rfl rfl (q_geq rfl rfl rfl) ?_
  refine va rfl rfl rfl (q_move (v := .bool (decide (1 ≤ ((r_.key.size : Nat) : Int)))) rfl (by kernel_rfl)) ?_
  refine vg1 rfl rfl rfl rfl rfl (fun hg2 => QV.qo (q_fl 0 fld_74_0 rfl rfl rfl)) ?_
  refine vg1 rfl rfl rfl rfl rfl (fun hg3 => QV.qo (q_ldl (i := 0) (v := .string r_.key) rfl rfl Try.isAgg9 (gu hg3 rfl) rfl)) ?_
  refine vg1 rfl rfl rfl rfl rfl (fun hg4 => QV.qo (q_len_str rfl Try.underlying9 (gu hg4 rfl))) ?_
  refine vg1 rfl rfl rfl rfl rfl (fun hg5 => QV.qo (q_leq rfl (gu hg5 rfl) rfl)) ?_
  refine va rfl rfl rfl (q_pick rfl rfl (pk_and' (g := (decide (1 ≤ ((r_.key.size : Nat) : Int)))) (y := (decide (((r_.key.size : Nat) : Int) ≤ 32))))) ?_
  refine va rfl rfl rfl (q_move (v := .bool ((decide (1 ≤ ((r_.key.size : Nat) : Int))) && (decide (((r_.key.size : Nat) : Int) ≤ 32)))) rfl (by kernel_rfl)) ?_
  refine vg1 rfl rfl rfl rfl rfl (fun hg6 => QV.qo (q_fl 1 fld_74_1 rfl rfl rfl)) ?_
  refine vg1 rfl rfl rfl rfl rfl (fun hg7 => QV.qo (q_ldl (i := 0) (v := .slice Ar_1 r_.vers.length cr_1) rfl rfl Try.isAgg40 (gu hg7 rfl) rfl)) ?_
  obtain ⟨z9, hz10, h⟩ := bnd h
  refine vg1 rfl rfl rfl rfl rfl (fun hg8 => (q_call (call_run Try.call72 rfl rfl (args1 (gu hg8 rfl))) (fun w hw => t_vers_Right (Γ := Gh.all w) (hr_.2.2.mono hw.sat.le_all) hr_.2.1 (Sat.all w) (gc_of hz10 hg8)))) ?_
  refine va rfl rfl rfl (q_pick rfl rfl (pk_and' (g := ((decide (1 ≤ ((r_.key.size : Nat) : Int))) && (decide (((r_.key.size : Nat) : Int) ≤ 32)))) (y := z9))) ?_
  refine va rfl rfl rfl (q_assign (v := .bool (((decide (1 ≤ ((r_.key.size : Nat) : Int))) && (decide (((r_.key.size : Nat) : Int) ≤ 32))) && z9)) rfl (by kernel_rfl)) ?_
  refine WR.nil ?_
  change WC _ _ _ _ _ _
  refine WC.ret ?_
  intro w hw
  obtain rfl := Option.some.inj h
  subst hF
  exact ⟨by kernel_rfl, hw.fr⟩
abbrev r_quorum_asking_api_Rec_count (ga : Nat) (ea : Nat) (r : Oquorum_asking_api_Rec × Bool) (U : List Rowb) (Γ : Gh) (v : Value) : Prop := ∃ (rowa' : Rowb), v = .bool r.2 ∧ U = [rowa'] ∧ Oquorum_asking_api_Rec.ob ea Γ ga rowa' r.1 ∧ True
set_option maxRecDepth 100000 in
set_option maxHeartbeats 400000 in
theorem t_quorum_asking_api_Rec_count {Γ : Gh} {w0 : World} {ga ea : Nat} {rowa : Rowb} {a : Oquorum_asking_api_Rec} (ha : Oquorum_asking_api_Rec.ob ea Γ ga rowa a) (node : Int) (hnode : I64 node) {Ax_ : Option Addr} {cx_ : Nat} {x_ : List Rec} (hx_ : Sl recT Γ Ax_ x_) (hx_c : x_.length ≤ cx_) (hp : Pre [rowa] Γ w0) {r : Oquorum_asking_api_Rec × Bool} (h : m_quorum_asking_api_Rec_count a node x_ = some r) : Calls Try.prog 64 #[.pointer (some ⟨ga, 0, none⟩), .int .i64 node, .slice Ax_ x_.length cx_] w0 (Outc Γ [rowa] w0 (r_quorum_asking_api_Rec_count ga ea r)) := by
  refine calls_of (N := 34) (rs := [6]) (args := [.pointer (some ⟨ga, 0, none⟩), .int .i64 node, .slice Ax_ x_.length cx_]) Try.func64 rfl Try.ntmps64 Try.results64 rfl ?_
  obtain ⟨F, hF⟩ : ∃ F : Fm, F = ⟨ids [rowa], w0, Γ⟩ := ⟨_, rfl⟩
  refine WC.here (C := CC F Γ [rowa]) ?_ (hF ▸ hp.start)
  refine WC.rs ?_
  refine va rfl rfl rfl (q_assign (v := .bool false) rfl (by kernel_rfl)) ?_
  refine WR.nil ?_
  change WC _ _ _ _ _ _
  refine WC.rs ?_
  refine va rfl rfl rfl (q_move (v := .pointer (some ⟨ga, 0, none⟩)) rfl (by kernel_rfl)) ?_
  refine va rfl rfl rfl (q_nil (A := some ⟨ga, 0, none⟩) rfl rfl rfl) ?_
  refine va rfl rfl rfl (q_fl 2 fld_113_2 rfl rfl rfl) ?_
  have hq := ha
  obtain ⟨A0_1, c0_1, m2_1, r2_1, hrow_1, ho0_1, ho1_1, ho2_1, ho3_1, -⟩ := hq
  intro w hw; have hw := hw.unfold (i := 0) rfl hrow_1
  refine WR.here (C := CC F Γ [[(ga, .cells #[.slice A0_1 a.list.length c0_1, .int .i64 a.need, .map (some m2_1)] ea (0, 0))], r2_1]) ?_ hw
  clear hw
  refine va rfl rfl rfl (q_ldl (i := 0) (v := .map (some m2_1)) rfl rfl Try.isAgg111 rfl rfl) ?_
  refine va rfl rfl rfl (q_move (v := .int .i64 node) rfl (by kernel_rfl)) ?_
  obtain ⟨v2, ⟨A5, c6, hv3, hc7, hs8⟩, hat4⟩ := MapO.look ho3_1 node (z := .slice none 0 0) (zx := []) ⟨none, 0, rfl, Nat.zero_le _, Sl.nil _ _ _⟩
  obtain rfl : v2 = _ := List.cons.inj hv3 |>.1
  refine va rfl rfl rfl (q_lookup2 (v := .slice A5 ((mget node a.got).getD []).length c6) hat4 rfl Try.underlying111 Try.zeroValue41 rfl rfl (i := 1) rfl) ?_
  refine va rfl rfl rfl (q_move (v := .tuple #[.slice A5 ((mget node a.got).getD []).length c6, .bool ((mget node a.got).isSome)]) rfl (by kernel_rfl)) ?_
  refine va rfl rfl rfl (q_extract (v := .slice A5 ((mget node a.got).getD []).length c6) rfl rfl rfl) ?_
  refine va rfl rfl rfl (q_extract (v := .bool ((mget node a.got).isSome)) rfl rfl rfl) ?_
  refine va rfl rfl rfl (q_assign (v := .slice A5 ((mget node a.got).getD []).length c6) rfl (by kernel_rfl)) ?_
  refine va rfl rfl rfl (q_assign (v := .bool ((mget node a.got).isSome)) rfl (by kernel_rfl)) ?_
  refine WR.nil ?_
  change WC _ _ _ _ _ _
  refine WC.seq ?_
  refine WC.rs ?_
  refine va rfl rfl rfl (q_move (v := .bool ((mget node a.got).isSome)) rfl (by kernel_rfl)) ?_
  refine va rfl rfl rfl (q_move (v := .bool ((mget node a.got).isSome)) rfl (by kernel_rfl)) ?_
  refine vg0 rfl rfl rfl rfl rfl (fun hg9 => QV.qo (q_move (v := .pointer (some ⟨ga, 0, none⟩)) rfl (by kernel_rfl))) ?_
  refine vg0 rfl rfl rfl rfl rfl (fun hg10 => QV.qo (q_nil (A := some ⟨ga, 0, none⟩) rfl (gu hg10 rfl) rfl)) ?_
  refine vg0 rfl rfl rfl rfl rfl (fun hg11 => QV.qo (q_fl 0 fld_113_0 rfl (gu hg11 rfl) rfl)) ?_
  refine vg0 rfl rfl rfl rfl rfl (fun hg12 => QV.qo (q_ldl (i := 0) (v := .slice A0_1 a.list.length c0_1) rfl rfl Try.isAgg22 (gu hg12 rfl) rfl)) ?_
  refine vg0 rfl rfl rfl rfl rfl (fun hg13 => QV.qo (q_move (v := .int .i64 node) rfl (by kernel_rfl))) ?_
  obtain ⟨z15, hz16, h⟩ := bnd h
  refine vg0 rfl rfl rfl rfl rfl (fun hg14 => (q_call (call_run Try.call70 rfl rfl (args2 (gu hg14 rfl) (gu hg14 rfl))) (fun w hw => t_slices_Contains_int_int (Γ := Gh.all w) (ho1_1.mono hw.sat.le_all) ho0_1 node hnode (Sat.all w) (gc_of hz16 hg14)))) ?_
  refine vg0 rfl rfl rfl rfl rfl (fun hg17 => QV.qo (q_not rfl (gu hg17 rfl))) ?_
  refine va rfl rfl rfl (q_pick rfl rfl (pk_or' (g := ((mget node a.got).isSome)) (y := (!z15)))) ?_
  refine WR.nil ?_
  change WC _ _ _ _ _ _
  refine WC.cif h (by kernel_rfl) (fun hb18 h => ?_) (fun hb18 h => ?_)
  · skip
    refine WC.rs ?_
    refine va rfl rfl rfl (q_assign (v := .bool false) rfl (by kernel_rfl)) ?_
    refine WR.nil ?_
    change WC _ _ _ _ _ _
    refine WC.ret ?_
    intro w hw
    have hw := hw.fold (is := [0, 0]) rfl hrow_1
    obtain rfl := Option.some.inj h
    subst hF
    exact end_e (is := [0]) (by kernel_rfl) hw rfl ⟨rowa, rfl, rfl, ha, trivial⟩
  · skip
    refine WC.skip ?_
    change WC _ _ _ _ _ _
    refine WC.rs ?_
    refine va rfl rfl rfl (q_move (v := .pointer (some ⟨ga, 0, none⟩)) rfl (by kernel_rfl)) ?_
    refine va rfl rfl rfl (q_nil (A := some ⟨ga, 0, none⟩) rfl rfl rfl) ?_
    refine va rfl rfl rfl (q_fl 2 fld_113_2 rfl rfl rfl) ?_
    refine va rfl rfl rfl (q_ldl (i := 0) (v := .map (some m2_1)) rfl rfl Try.isAgg111 rfl rfl) ?_
    refine va rfl rfl rfl (q_move (v := .int .i64 node) rfl (by kernel_rfl)) ?_
    refine va rfl rfl rfl (q_move (v := .slice Ax_ x_.length cx_) rfl (by kernel_rfl)) ?_
    refine e_mapUpdate (i := 1) (x := node) (v := .slice Ax_ x_.length cx_) (a := x_) rfl rfl rfl Try.underlying111 rfl rfl (by kernel_rfl) rfl ho3_1 (by exact ⟨Ax_, cx_, rfl, hx_c, hx_⟩) hnode ?_
    intro row20 hm21
    refine WR.nil ?_
    change WC _ _ _ _ _ _
    refine WC.rs ?_
    refine va rfl rfl rfl (q_assign (v := .bool true) rfl (by kernel_rfl)) ?_
    refine WR.nil ?_
    change WC _ _ _ _ _ _
    refine WC.ret ?_
    intro w hw
    obtain ⟨row_22, hrow_22, hob_22⟩ : ∃ rw : Rowb, rw = ([[(ga, .cells #[.slice A0_1 a.list.length c0_1, .int .i64 a.need, .map (some m2_1)] ea (0, 0))], row20] : List Rowb).flatten ∧ Oquorum_asking_api_Rec.ob ea Γ ga rw (⟨a.list, a.need, (mput node x_ a.got)⟩ : Oquorum_asking_api_Rec) := ⟨_, rfl, A0_1, c0_1, m2_1, row20, rfl, ho0_1, ho1_1, ho2_1, hm21, trivial⟩
    have hw := hw.fold (is := [0, 0]) rfl hrow_22
    obtain rfl := Option.some.inj h
    subst hF
    exact end_e (is := [0]) (by kernel_rfl) hw rfl ⟨row_22, rfl, rfl, hob_22, trivial⟩
abbrev r_quorum_Scan_Got (gs_ : Nat) (es_ : Nat) (r : Oquorum_asking_api_Rec × Bool) (U : List Rowb) (Γ : Gh) (v : Value) : Prop := ∃ (rows_' : Rowb), v = .bool r.2 ∧ U = [rows_'] ∧ Oquorum_asking_api_Rec.ob es_ Γ gs_ rows_' r.1 ∧ True
set_option maxRecDepth 100000 in
set_option maxHeartbeats 400000 in
theorem t_quorum_Scan_Got {Γ : Gh} {w0 : World} {gs_ es_ : Nat} {rows_ : Rowb} {s_ : Oquorum_asking_api_Rec} (hs_ : Oquorum_asking_api_Rec.ob es_ Γ gs_ rows_ s_) (node : Int) (hnode : I64 node) {Al : Option Addr} {cl : Nat} {l : List Rec} (hl : Sl recT Γ Al l) (hlc : l.length ≤ cl) (hp : Pre [rows_] Γ w0) {r : Oquorum_asking_api_Rec × Bool} (h : m_quorum_Scan_Got s_ node l = some r) : Calls Try.prog 37 #[.pointer (some ⟨gs_, 0, none⟩), .int .i64 node, .slice Al l.length cl] w0 (Outc Γ [rows_] w0 (r_quorum_Scan_Got gs_ es_ r)) := by
  refine calls_of (N := 41) (rs := [6]) (args := [.pointer (some ⟨gs_, 0, none⟩), .int .i64 node, .slice Al l.length cl]) Try.func37 rfl Try.ntmps37 Try.results37 rfl ?_
  obtain ⟨F, hF⟩ : ∃ F : Fm, F = ⟨ids [rows_], w0, Γ⟩ := ⟨_, rfl⟩
  refine WC.here (C := CC F Γ [rows_]) ?_ (hF ▸ hp.start)
  refine WC.rs ?_
  refine va rfl rfl rfl (q_assign (v := .bool false) rfl (by kernel_rfl)) ?_
  refine WR.nil ?_
  change WC _ _ _ _ _ _
  refine WC.rs ?_
  refine va rfl rfl rfl (q_assign (v := .slice none 0 0) rfl (by kernel_rfl)) ?_
  refine WR.nil ?_
  change WC _ _ _ _ _ _
  refine WC.seq ?_
  refine WC.rs ?_
  refine va rfl rfl rfl (q_move (v := .slice Al l.length cl) rfl (by kernel_rfl)) ?_
  refine va rfl rfl rfl (q_len_slice rfl Try.underlying41 rfl) ?_
  refine va rfl rfl rfl (q_move (v := .int .i64 0) rfl (by kernel_rfl)) ?_
  refine WR.nil ?_
  change WC _ _ _ _ _ _
  refine WC.block ?_
  refine WC.forI h (fun (i9 : Nat) (own_3 : List Rec) σ w => ∃ (Γ1 : Gh), ∃ (A4 : Option Addr), ∃ (c5 : Nat), ∃ (row6 : Rowb), slots σ [(0, .pointer (some ⟨gs_, 0, none⟩)), (1, .int .i64 node), (7, .slice A4 own_3.length c5), (12, .slice Al l.length cl), (13, .int .i64 ((l.length : Nat) : Int)), (14, .int .i64 ((i9 : Nat) : Int))] ∧ CC F Γ1 [row6, rows_] w ∧ Gh.le Γ Γ1 ∧ Own recT Γ1 74 row6 A4 c5 own_3 ∧ True) ?_ ?_
  · skip
    intro w hw
    have hw := hw.pad
    exact ⟨Γ, none, 0, [], (sl_ (by kernel_rfl)), hw, (Gh.refl _), (Own.nil recT _ 74), trivial⟩
  rintro f8 i9 own_3 σ w hi10 hlt11 hge12 ⟨Γ1, A4, c5, row6, hsl, hw, hl2, ho7, -⟩
  refine Wpt.slots hsl ?_
  refine WC.here (C := CC F Γ1 [row6, rows_]) ?_ hw
  clear hw hsl
  refine WC.rs ?_
  refine va rfl rfl rfl (q_lss rfl rfl rfl) ?_
  refine WR.nil ?_
  change WC _ _ _ _ _ _
  refine WC.seq ?_
  refine WC.cond (b := (decide (((i9 : Nat) : Int) < ((l.length : Nat) : Int)))) (by kernel_rfl) (fun hb13 => ?_) (fun hb13 => ?_)
  · skip
    have hl14 := ilt hb13
    have h := hlt11 hl14
    refine WC.skip ?_
    change WC _ _ _ _ _ _
    refine WC.seq ?_
    refine WC.block ?_
    refine WC.rs ?_
    refine va rfl rfl rfl (q_ixn (i := i9) Try.underlying41 Try.sizeOf74 rfl rfl rfl hl14 ((hl.mono hl2).some_ hl14)) ?_
    obtain ⟨A15, c16, hx17⟩ := (hl.mono hl2).recT_at i9
    refine va rfl rfl rfl (q_lda (c := 0) (vs := [.string (gt l i9).key, .slice A15 ((gt l i9).vers).length c16]) (hx17 hl14).2 rfl Try.isAgg74 Try.sizeOf74 rfl rfl rfl) ?_
    refine e_alloc Try.zeroValue74 rfl rfl rfl rfl ?_
    intro g18
    refine e_st (i := 0) (v := .agg #[.string (gt l i9).key, .slice A15 ((gt l i9).vers).length c16]) (new := #[.string (gt l i9).key, .slice A15 ((gt l i9).vers).length c16]) rfl Try.sizeOf74 rfl rfl rfl rfl (by kernel_rfl) rfl rfl rfl rfl ?_
    refine WR.nil ?_
    change WC _ _ _ _ _ _
    refine WC.seq ?_
    refine WC.rs ?_
    refine va rfl rfl rfl (q_ldla (i := 0) (vs := [.string (gt l i9).key, .slice A15 ((gt l i9).vers).length c16]) rfl rfl Try.isAgg74 Try.sizeOf74 rfl rfl) ?_
    obtain ⟨z19, hz20, h⟩ := bnd h
    refine vc rfl rfl rfl (q_call (call_run Try.call63 rfl rfl (by kernel_rfl)) (fun w hw => t_code_RightRec (Γ := Gh.all w) (gt l i9) (Rec.fits_mono (hx17 hl14).1 hw.sat.le_all) (Sat.all w) hz20)) ?_
    refine va rfl rfl rfl (q_not rfl rfl) ?_
    refine WR.nil ?_
    change WC _ _ _ _ _ _
    refine WC.cif h (by kernel_rfl) (fun hb21 h => ?_) (fun hb21 h => ?_)
    · skip
      refine WC.rs ?_
      refine va rfl rfl rfl (q_assign (v := .bool false) rfl (by kernel_rfl)) ?_
      refine WR.nil ?_
      change WC _ _ _ _ _ _
      refine WC.ret ?_
      intro w hw
      obtain rfl := Option.some.inj h
      subst hF
      exact end_e (is := [2]) (by kernel_rfl) hw rfl ⟨rows_, rfl, rfl, (hs_.mono hl2), trivial⟩
    · skip
      refine WC.skip ?_
      change WC _ _ _ _ _ _
      refine WC.rs ?_
      refine va rfl rfl rfl (q_fl 1 fld_74_1 rfl rfl rfl) ?_
      refine va rfl rfl rfl (q_ldl (i := 0) (v := .slice A15 ((gt l i9).vers).length c16) rfl rfl Try.isAgg40 rfl rfl) ?_
      obtain ⟨z22, hz23, h⟩ := bnd h
      refine e_call (is := []) rfl rfl (call_run Try.call47 rfl rfl (by kernel_rfl)) rfl (fun w hp => t_vers_Merge (hx17 hl14).1.2.2 (hx17 hl14).1.2.1 (Sl.nil verT _ none) (Nat.zero_le 0) hp hz23) ?_
      rintro Γ24 U26 v27 hl25 ⟨A28, c29, row30, rfl, rfl, hr31, hr32, _⟩
      change WR _ _ _ (CC F Γ24 [row30, [(g18, .cells #[.string (gt l i9).key, .slice A15 ((gt l i9).vers).length c16] 74 (0, 0))], row6, rows_]) _ _ (upd _ 24 (.tuple #[.slice A28 z22.1.length c29, .int .i64 z22.2]))
      refine va rfl rfl rfl (q_move (v := .tuple #[.slice A28 z22.1.length c29, .int .i64 z22.2]) rfl (by kernel_rfl)) ?_
      refine va rfl rfl rfl (q_extract (v := .slice A28 z22.1.length c29) rfl rfl rfl) ?_
      refine va rfl rfl rfl (q_extract (v := .int .i64 z22.2) rfl rfl rfl) ?_
      refine va rfl rfl rfl (q_assign (v := .slice A28 z22.1.length c29) rfl (by kernel_rfl)) ?_
      refine va rfl rfl rfl (q_assign (v := .int .i64 z22.2) rfl (by kernel_rfl)) ?_
      refine WR.nil ?_
      change WC _ _ _ _ _ _
      refine WC.region ?_
      refine va rfl rfl rfl (q_move (v := .slice A4 own_3.length c5) rfl (by kernel_rfl)) ?_
      refine va rfl rfl rfl (q_fl 0 fld_74_0 rfl rfl rfl) ?_
      refine va rfl rfl rfl (q_ldl (i := 1) (v := .string (gt l i9).key) rfl rfl Try.isAgg9 rfl rfl) ?_
      refine va rfl rfl rfl (q_move (v := .slice A28 z22.1.length c29) rfl (by kernel_rfl)) ?_
      refine va rfl rfl rfl (q_build' (v := .agg #[.string (gt l i9).key, .slice A28 z22.1.length c29]) rfl (bargs2 rfl rfl) (fun w => by kernel_rfl)) ?_
      have hc37 := hr31.capz
      intro w hw; obtain ⟨Γ33, hw, hl34, hr35⟩ := hw.seal (i := 0) rfl; have hs36 := hr31.sl hl34 hr35
      refine WR.here (C := CC F Γ33 [[], [(g18, .cells #[.string (gt l i9).key, .slice A15 ((gt l i9).vers).length c16] 74 (0, 0))], row6, rows_]) ?_ hw
      clear hw
      refine e_buildSlice (cs := #[.string (gt l i9).key, .slice A28 z22.1.length c29]) (e := 74) rfl rfl rfl rfl (fun w => by kernel_rfl) ?_
      intro g38
      obtain ⟨hk39, h⟩ := chk_some h
      refine e_append (T := recT) (xs := own_3) (ys := [(⟨(gt l i9).key, z22.1⟩ : Rec)]) elem_41 (i := 3) rfl rfl rfl rfl rfl rfl rfl (ho7.mono (hl25.trans hl34)) (of_decide_eq_true hk39) (fun w hw => src_one (T := recT) (y := (⟨(gt l i9).key, z22.1⟩ : Rec)) (i := 0) rfl (by exact ⟨A28, c29, rfl, ⟨(hx17 hl14).1.1, ⟨hc37, hs36⟩⟩⟩) hw) ?_
      intro row40 A41 c42 ho43
      refine va rfl rfl rfl (q_assign (v := .slice A41 (own_3 ++ [(⟨(gt l i9).key, z22.1⟩ : Rec)]).length c42) rfl (by kernel_rfl)) ?_
      refine WR.nil ?_
      change WC _ _ _ _ _ _
      refine WC.region ?_
      refine va rfl rfl rfl (q_add_r (r := ((i9 + 1 : Nat) : Int)) rfl rfl rfl (ctr_len hl14 (hl.mono hl2).le)) ?_
      refine va rfl rfl rfl (q_move (v := .int .i64 ((i9 + 1 : Nat) : Int)) rfl (by kernel_rfl)) ?_
      refine WR.nil ?_
      intro w hw
      exact ⟨hl14, (own_3 ++ [(⟨(gt l i9).key, z22.1⟩ : Rec)]), h, Γ33, A41, c42, row40, (sl_ (by kernel_rfl)), (hw.only (is := [3, 3]) rfl), ((hl2.trans hl25).trans hl34), ho43, trivial⟩
  · skip
    have h := hge12 (ige hb13)
    refine WC.exit ?_
    change WC _ _ _ _ _ _
    refine WC.rs ?_
    refine va rfl rfl rfl (q_move (v := .pointer (some ⟨gs_, 0, none⟩)) rfl (by kernel_rfl)) ?_
    refine va rfl rfl rfl (q_nil (A := some ⟨gs_, 0, none⟩) rfl rfl rfl) ?_
    refine va rfl rfl rfl (q_fl 0 fld_117_0 rfl rfl rfl) ?_
    refine va rfl rfl rfl (q_move (v := .int .i64 node) rfl (by kernel_rfl)) ?_
    refine va rfl rfl rfl (q_move (v := .slice A4 own_3.length c5) rfl (by kernel_rfl)) ?_
    have hc48 := ho7.capz
    intro w hw; obtain ⟨Γ44, hw, hl45, hr46⟩ := hw.seal (i := 0) rfl; have hs47 := ho7.sl hl45 hr46
    refine WR.here (C := CC F Γ44 [[], rows_]) ?_ hw
    clear hw
    obtain ⟨z49, hz50, h⟩ := bnd h
    refine e_call (is := [1]) rfl rfl (call_run Try.call64 rfl rfl (by kernel_rfl)) rfl (fun w hp => t_quorum_asking_api_Rec_count (hs_.mono (hl2.trans hl45)) node hnode hs47 hc48 hp hz50) ?_
    rintro Γ51 U53 v54 hl52 ⟨row55, rfl, rfl, hr56, _⟩
    change WR _ _ _ (CC F Γ51 [row55, []]) _ _ (upd _ 40 (.bool z49.2))
    refine va rfl rfl rfl (q_assign (v := .bool z49.2) rfl (by kernel_rfl)) ?_
    refine WR.nil ?_
    change WC _ _ _ _ _ _
    refine WC.ret ?_
    intro w hw
    obtain rfl := Option.some.inj h
    subst hF
    exact end_e (is := [0]) (by kernel_rfl) hw rfl ⟨row55, rfl, rfl, hr56, trivial⟩
abbrev r_quorum_Read_Vers_l1 (r : List Ver) (U : List Rowb) (Γ : Gh) (v : Value) : Prop := ∃ (A0 : Option Addr), ∃ (c0 : Nat), ∃ (row0 : Rowb), v = .slice A0 r.length c0 ∧ U = [row0] ∧ Own verT Γ 58 row0 A0 c0 r ∧ True
set_option maxRecDepth 100000 in
set_option maxHeartbeats 400000 in
theorem t_quorum_Read_Vers_l1 {Γ : Gh} {w0 : World} {B : Gh} {gr_ er_ : Nat} {rowr_ : Rowb} {r_ : Oquorum_asking_api_Ver} (hr_ : Oquorum_asking_api_Ver.ob er_ B gr_ rowr_ r_) (hr_r : ∀ p ∈ rowr_, B p.1 = some p.2) (hp : Pre [] Γ w0) (hpB : Pre [] B w0) {r : List Ver} (h : m_quorum_Read_Vers_l1 r_ = some r) : Calls Try.prog 25 #[.pointer (some ⟨gr_, 0, none⟩)] w0 (Outc Γ [] w0 (r_quorum_Read_Vers_l1 r)) := by
  refine calls_of (N := 35) (rs := [2]) (args := [.pointer (some ⟨gr_, 0, none⟩)]) Try.func25 rfl Try.ntmps25 Try.results25 rfl ?_
  obtain ⟨F, hF⟩ : ∃ F : Fm, F = ⟨ids [], w0, Γ⟩ := ⟨_, rfl⟩
  refine WC.here (C := CC F Γ []) ?_ (hF ▸ hp.start)
  have hB : Lent F B := hF ▸ Lent.start hpB
  refine WC.rs ?_
  refine va rfl rfl rfl (q_assign (v := .slice none 0 0) rfl (by kernel_rfl)) ?_
  refine WR.nil ?_
  change WC _ _ _ _ _ _
  refine WC.rs ?_
  refine va rfl rfl rfl (q_assign (v := .slice none 0 0) rfl (by kernel_rfl)) ?_
  refine WR.nil ?_
  change WC _ _ _ _ _ _
  refine WC.seq ?_
  refine WC.rs ?_
  refine va rfl rfl rfl (q_move (v := .pointer (some ⟨gr_, 0, none⟩)) rfl (by kernel_rfl)) ?_
  refine va rfl rfl rfl (q_nil (A := some ⟨gr_, 0, none⟩) rfl rfl rfl) ?_
  refine va rfl rfl rfl (q_fl 0 fld_98_0 rfl rfl rfl) ?_
  refine va rfl rfl rfl (q_fl 0 fld_94_0 rfl rfl rfl) ?_
  have hq := hr_
  obtain ⟨A0_1, c0_1, m2_1, r2_1, hrow_1, ho0_1, ho1_1, ho2_1, ho3_1, -⟩ := hq
  have hg_2 : ∀ u ∈ ([[(gr_, .cells #[.slice A0_1 r_.list.length c0_1, .int .i64 r_.need, .map (some m2_1)] er_ (0, 0))], r2_1] : List Rowb), ∀ p ∈ u, B p.1 = some p.2 := fun u hu p hp => (fun p hp => (hr_r p hp)) p (hrow_1 ▸ List.mem_flatten.2 ⟨u, hu, hp⟩)
  have hgc3 := hg_2 _ (List.mem_cons_self ..) (gr_, _) (List.mem_singleton.2 rfl)
  have hgs4 := hg_2 r2_1 (by simp)
  refine va rfl rfl rfl (q_via (fun w hw => hB.sat hw) fun F => (q_ldg (v := .slice A0_1 r_.list.length c0_1) hgc3 rfl Try.isAgg22 rfl rfl)) ?_
  refine va rfl rfl rfl (q_len_slice rfl Try.underlying22 rfl) ?_
  refine va rfl rfl rfl (q_move (v := .int .i64 0) rfl (by kernel_rfl)) ?_
  refine WR.nil ?_
  change WC _ _ _ _ _ _
  refine WC.block ?_
  refine WC.forI h (fun (i13 : Nat) (out_7 : List Ver) σ w => ∃ (Γ5 : Gh), ∃ (A8 : Option Addr), ∃ (c9 : Nat), ∃ (row10 : Rowb), slots σ [(0, .pointer (some ⟨gr_, 0, none⟩)), (3, .slice A8 out_7.length c9), (12, .slice A0_1 r_.list.length c0_1), (13, .int .i64 ((r_.list.length : Nat) : Int)), (14, .int .i64 ((i13 : Nat) : Int))] ∧ CC F Γ5 [row10] w ∧ Gh.le Γ Γ5 ∧ Own verT Γ5 58 row10 A8 c9 out_7 ∧ True) ?_ ?_
  · skip
    intro w hw
    have hw := hw.pad
    exact ⟨Γ, none, 0, [], (sl_ (by kernel_rfl)), hw, (Gh.refl _), (Own.nil verT _ 58), trivial⟩
  rintro f12 i13 out_7 σ w hi14 hlt15 hge16 ⟨Γ5, A8, c9, row10, hsl, hw, hl6, ho11, -⟩
  refine Wpt.slots hsl ?_
  refine WC.here (C := CC F Γ5 [row10]) ?_ hw
  clear hw hsl
  refine WC.rs ?_
  refine va rfl rfl rfl (q_lss rfl rfl rfl) ?_
  refine WR.nil ?_
  change WC _ _ _ _ _ _
  refine WC.seq ?_
  refine WC.cond (b := (decide (((i13 : Nat) : Int) < ((r_.list.length : Nat) : Int)))) (by kernel_rfl) (fun hb17 => ?_) (fun hb17 => ?_)
  · skip
    have hl18 := ilt hb17
    have h := hlt15 hl18
    refine WC.skip ?_
    change WC _ _ _ _ _ _
    refine WC.cut (fun σ w => ∃ (out_21 : List Ver), ∃ (Γ19 : Gh), ∃ (A22 : Option Addr), ∃ (c23 : Nat), ∃ (row24 : Rowb), m_quorum_Read_Vers_l1_j5 f12 out_21 = some r ∧ slots σ [(0, .pointer (some ⟨gr_, 0, none⟩)), (3, .slice A22 out_21.length c23), (12, .slice A0_1 r_.list.length c0_1), (13, .int .i64 ((r_.list.length : Nat) : Int)), (14, .int .i64 ((i13 : Nat) : Int))] ∧ CC F Γ19 [row24] w ∧ Gh.le Γ5 Γ19 ∧ Own verT Γ19 58 row24 A22 c23 out_21 ∧ True) ?_ ?_
    · skip
      refine WC.block ?_
      refine WC.rs ?_
      refine va rfl rfl rfl (q_ixn (i := i13) Try.underlying22 Try.sizeOf3 rfl rfl rfl hl18 (ho1_1.some_ hl18)) ?_
      refine va rfl rfl rfl (q_ldS (c := 0) (v := .int .i64 (gt r_.list i13)) (fun w hw => hB.sat hw) (ho1_1.intT_at hl18).2 rfl Try.isAgg3 rfl rfl) ?_
      refine va rfl rfl rfl (q_assign (v := .int .i64 (gt r_.list i13)) rfl (by kernel_rfl)) ?_
      refine WR.nil ?_
      change WC _ _ _ _ _ _
      refine WC.rs ?_
      refine va rfl rfl rfl (q_move (v := .slice A8 out_7.length c9) rfl (by kernel_rfl)) ?_
      refine va rfl rfl rfl (q_move (v := .pointer (some ⟨gr_, 0, none⟩)) rfl (by kernel_rfl)) ?_
      refine va rfl rfl rfl (q_nil (A := some ⟨gr_, 0, none⟩) rfl rfl rfl) ?_
      refine va rfl rfl rfl (q_fl 0 fld_98_0 rfl rfl rfl) ?_
      refine va rfl rfl rfl (q_fl 2 fld_94_2 rfl rfl rfl) ?_
      refine va rfl rfl rfl (q_via (fun w hw => hB.sat hw) fun F => (q_ldg (v := .map (some m2_1)) hgc3 rfl Try.isAgg92 rfl rfl)) ?_
      refine va rfl rfl rfl (q_move (v := .int .i64 (gt r_.list i13)) rfl (by kernel_rfl)) ?_
      obtain ⟨v26, ⟨A29, c30, hv27, hc31, hs32⟩, hat28⟩ := MapO.look ho3_1 (gt r_.list i13) (z := .slice none 0 0) (zx := []) ⟨none, 0, rfl, Nat.zero_le _, Sl.nil _ _ _⟩
      obtain rfl : v26 = _ := List.cons.inj hv27 |>.1
      refine va rfl rfl rfl (q_via (fun w hw => hB.sat hw) fun F => (q_lookup1g (v := .slice A29 ((mget (gt r_.list i13) r_.got).getD []).length c30) (fun p hp => (hgs4 p hp)) hat28 rfl Try.underlying92 Try.zeroValue40 rfl rfl)) ?_
      obtain ⟨z33, hz34, h⟩ := bnd h
      refine e_callB (is := []) hB rfl rfl (call_run Try.call47 rfl rfl (by kernel_rfl)) rfl (fun w Θ hp hpB hle hleB hR => t_vers_Merge_x (own_lent ho11 hR (List.mem_of_getElem? (i := 0) rfl) hle) ho11.capz (hs32.mono hleB) hc31 hp hpB hz34) ?_
      rintro Γ35 U37 v38 hl36 ⟨A39, c40, row41, rfl, rfl, hr42, hr43, _⟩
      change WR _ _ _ (CC F Γ35 [row41, row10]) _ _ (upd _ 27 (.tuple #[.slice A39 z33.1.length c40, .int .i64 z33.2]))
      refine va rfl rfl rfl (q_move (v := .tuple #[.slice A39 z33.1.length c40, .int .i64 z33.2]) rfl (by kernel_rfl)) ?_
      refine va rfl rfl rfl (q_extract (v := .slice A39 z33.1.length c40) rfl rfl rfl) ?_
      refine va rfl rfl rfl (q_extract (v := .int .i64 z33.2) rfl rfl rfl) ?_
      refine va rfl rfl rfl (q_assign (v := .slice A39 z33.1.length c40) rfl (by kernel_rfl)) ?_
      refine va rfl rfl rfl (q_assign (v := .int .i64 z33.2) rfl (by kernel_rfl)) ?_
      refine WR.nil ?_
      change WC _ _ _ _ _ _
      refine WC.rs ?_
      refine va rfl rfl rfl (q_move (v := .int .i64 z33.2) rfl (by kernel_rfl)) ?_
      refine va rfl rfl rfl (q_eql rfl rfl rfl) ?_
      refine WR.nil ?_
      change WC _ _ _ _ _ _
      refine WC.cif h (by kernel_rfl) (fun hb44 h => ?_) (fun hb44 h => ?_)
      · skip
        refine WC.region ?_
        refine va rfl rfl rfl (q_move (v := .slice A39 z33.1.length c40) rfl (by kernel_rfl)) ?_
        refine va rfl rfl rfl (q_assign (v := .slice A39 z33.1.length c40) rfl (by kernel_rfl)) ?_
        refine WR.nil ?_
        intro w hw
        exact ⟨z33.1, Γ35, A39, c40, row41, h, (sl_ (by kernel_rfl)), (hw.only (is := [0]) rfl), hl36, hr42, trivial⟩
      · skip
        refine WC.skip ?_
        intro w hw
        exact ⟨out_7, Γ35, A8, c9, row10, h, (sl_ (by kernel_rfl)), (hw.only (is := [1]) rfl), hl36, (ho11.mono hl36), trivial⟩
    · skip
      rintro σ w ⟨out_21, Γ19, A22, c23, row24, h, hsl, hw, hl20, ho25, -⟩
      refine Wpt.slots hsl ?_
      refine WC.here (C := CC F Γ19 [row24]) ?_ hw
      clear hw hsl
      refine WC.region ?_
      refine va rfl rfl rfl (q_add_r (r := ((i13 + 1 : Nat) : Int)) rfl rfl rfl (ctr_len hl18 ho1_1.le)) ?_
      refine va rfl rfl rfl (q_move (v := .int .i64 ((i13 + 1 : Nat) : Int)) rfl (by kernel_rfl)) ?_
      refine WR.nil ?_
      intro w hw
      exact ⟨hl18, out_21, h, Γ19, A22, c23, row24, (sl_ (by kernel_rfl)), hw, (hl6.trans hl20), ho25, trivial⟩
  · skip
    have h := hge16 (ige hb17)
    refine WC.exit ?_
    change WC _ _ _ _ _ _
    refine WC.rs ?_
    refine va rfl rfl rfl (q_move (v := .slice A8 out_7.length c9) rfl (by kernel_rfl)) ?_
    refine va rfl rfl rfl (q_assign (v := .slice A8 out_7.length c9) rfl (by kernel_rfl)) ?_
    refine WR.nil ?_
    change WC _ _ _ _ _ _
    refine WC.ret ?_
    intro w hw
    obtain rfl := Option.some.inj h
    subst hF
    exact end_e (is := [0]) (by kernel_rfl) hw rfl ⟨A8, c9, row10, rfl, rfl, ho11, trivial⟩
set_option maxRecDepth 100000 in
set_option maxHeartbeats 400000 in
theorem t_mend_right_1 {Γ : Gh} {w0 : World} {Ar_1 : Option Addr} {cr_1 : Nat} (r_ : Rec) (hr_ : Rec.fits Γ Ar_1 cr_1 r_) (hs : Sat Γ w0) {r : Bool} (h : m_mend_right_1 r_ = some r) : Calls Try.prog 90 #[.agg #[.string r_.key, .slice Ar_1 r_.vers.length cr_1]] w0 (fun e w' => e = .returned (.bool r) ∧ Fr no w0 w') := by
  refine calls_of (N := 6) (rs := [2]) (args := [.agg #[.string r_.key, .slice Ar_1 r_.vers.length cr_1]]) Try.func90 rfl Try.ntmps90 Try.results90 rfl ?_
  obtain ⟨F, hF⟩ : ∃ F : Fm, F = ⟨no, w0, Γ⟩ := ⟨_, rfl⟩
  refine WC.here (C := CC F Γ []) ?_ (hF ▸ Cur.start0 hs)
  refine WC.rs ?_
  refine e_box (v := .agg #[.string r_.key, .slice Ar_1 r_.vers.length cr_1]) rfl rfl rfl rfl (by kernel_rfl) ?_
  intro g1
  refine va rfl rfl rfl (q_assign (v := .bool false) rfl (by kernel_rfl)) ?_
  refine WR.nil ?_
  change WC _ _ _ _ _ _
  refine WC.rs ?_
  refine va rfl rfl rfl (q_ldla (i := 0) (vs := [.string r_.key, .slice Ar_1 r_.vers.length cr_1]) rfl rfl Try.isAgg74 Try.sizeOf74 rfl rfl) ?_
  obtain ⟨z2, hz3, h⟩ := bnd h
  refine vc rfl rfl rfl (q_call (call_run Try.call63 rfl rfl (by kernel_rfl)) (fun w hw => t_code_RightRec (Γ := Gh.all w) r_ (Rec.fits_mono hr_ hw.sat.le_all) (Sat.all w) hz3)) ?_
  refine va rfl rfl rfl (q_not rfl rfl) ?_
  refine va rfl rfl rfl (q_assign (v := .bool (!z2)) rfl (by kernel_rfl)) ?_
  refine WR.nil ?_
  change WC _ _ _ _ _ _
  refine WC.ret ?_
  intro w hw
  obtain rfl := Option.some.inj h
  subst hF
  exact ⟨by kernel_rfl, hw.fr⟩
set_option maxRecDepth 100000 in
set_option maxHeartbeats 400000 in
theorem t_slices_IndexFunc_api_Rec_api_Rec {Γ : Gh} {w0 : World} {As_ : Option Addr} {cs_ : Nat} {s_ : List Rec} (hs_ : Sl recT Γ As_ s_) (hs_c : s_.length ≤ cs_) (hs : Sat Γ w0) {r : Int} (h : m_slices_IndexFunc_api_Rec_api_Rec s_ = some r) : Calls Try.prog 94 #[.slice As_ s_.length cs_, .func (.func 90) #[] #[]] w0 (fun e w' => e = .returned (.int .i64 r) ∧ Fr no w0 w') := by
  refine calls_of (N := 19) (rs := [4]) (args := [.slice As_ s_.length cs_, .func (.func 90) #[] #[]]) Try.func94 rfl Try.ntmps94 Try.results94 rfl ?_
  obtain ⟨F, hF⟩ : ∃ F : Fm, F = ⟨no, w0, Γ⟩ := ⟨_, rfl⟩
  refine WC.here (C := CC F Γ []) ?_ (hF ▸ Cur.start0 hs)
  refine WC.rs ?_
  refine va rfl rfl rfl (q_assign (v := .int .i64 0) rfl (by kernel_rfl)) ?_
  refine WR.nil ?_
  change WC _ _ _ _ _ _
  refine WC.seq ?_
  refine WC.rs ?_
  refine va rfl rfl rfl (q_move (v := .slice As_ s_.length cs_) rfl (by kernel_rfl)) ?_
  refine va rfl rfl rfl (q_len_slice rfl Try.underlying41 rfl) ?_
  refine va rfl rfl rfl (q_move (v := .int .i64 0) rfl (by kernel_rfl)) ?_
  refine WR.nil ?_
  change WC _ _ _ _ _ _
  refine WC.block ?_
  refine WC.forI h (fun (i2 : Nat) (s : Unit) σ w => match s with | () => slots σ [(0, .slice As_ s_.length cs_), (1, .func (.func 90) #[] #[]), (7, .int .i64 ((s_.length : Nat) : Int)), (8, .int .i64 ((i2 : Nat) : Int))] ∧ CC F Γ [] w ∧ True) ?_ ?_
  · skip
    intro w hw
    exact ⟨(sl_ (by kernel_rfl)), hw, trivial⟩
  rintro f1 i2 ⟨⟩ σ w hi3 hlt4 hge5 ⟨hsl, hw, -⟩
  refine Wpt.slots hsl ?_
  refine WC.here (C := CC F Γ []) ?_ hw
  clear hw hsl
  refine WC.rs ?_
  refine va rfl rfl rfl (q_lss rfl rfl rfl) ?_
  refine WR.nil ?_
  change WC _ _ _ _ _ _
  refine WC.seq ?_
  refine WC.cond (b := (decide (((i2 : Nat) : Int) < ((s_.length : Nat) : Int)))) (by kernel_rfl) (fun hb6 => ?_) (fun hb6 => ?_)
  · skip
    have hl7 := ilt hb6
    have h := hlt4 hl7
    refine WC.skip ?_
    change WC _ _ _ _ _ _
    refine WC.seq ?_
    refine WC.block ?_
    refine WC.rs ?_
    refine va rfl rfl rfl (q_move (v := .int .i64 ((i2 : Nat) : Int)) rfl (by kernel_rfl)) ?_
    refine va rfl rfl rfl (q_assign (v := .int .i64 ((i2 : Nat) : Int)) rfl (by kernel_rfl)) ?_
    refine WR.nil ?_
    change WC _ _ _ _ _ _
    refine WC.rs ?_
    refine va rfl rfl rfl (q_move (v := .func (.func 90) #[] #[]) rfl (by kernel_rfl)) ?_
    refine va rfl rfl rfl (q_move (v := .slice As_ s_.length cs_) rfl (by kernel_rfl)) ?_
    refine va rfl rfl rfl (q_move (v := .int .i64 ((i2 : Nat) : Int)) rfl (by kernel_rfl)) ?_
    refine va rfl rfl rfl (q_ixn (i := i2) Try.underlying41 Try.sizeOf74 rfl rfl rfl hl7 (hs_.some_ hl7)) ?_
    obtain ⟨A8, c9, hx10⟩ := hs_.recT_at i2
    refine va rfl rfl rfl (q_lda (c := 0) (vs := [.string (gt s_ i2).key, .slice A8 ((gt s_ i2).vers).length c9]) (hx10 hl7).2 rfl Try.isAgg74 Try.sizeOf74 rfl rfl rfl) ?_
    obtain ⟨z11, hz12, h⟩ := bnd h
    refine vc rfl rfl rfl (q_call (call_run_fv (caps := #[]) Try.call90 rfl (by kernel_rfl) (by kernel_rfl)) (fun w hw => t_mend_right_1 (Γ := Gh.all w) (gt s_ i2) (Rec.fits_mono (hx10 hl7).1 hw.sat.le_all) (Sat.all w) hz12)) ?_
    refine WR.nil ?_
    change WC _ _ _ _ _ _
    refine WC.cif h (by kernel_rfl) (fun hb13 h => ?_) (fun hb13 h => ?_)
    · skip
      refine WC.rs ?_
      refine va rfl rfl rfl (q_move (v := .int .i64 ((i2 : Nat) : Int)) rfl (by kernel_rfl)) ?_
      refine va rfl rfl rfl (q_assign (v := .int .i64 ((i2 : Nat) : Int)) rfl (by kernel_rfl)) ?_
      refine WR.nil ?_
      change WC _ _ _ _ _ _
      refine WC.ret ?_
      intro w hw
      obtain rfl := Option.some.inj h
      subst hF
      exact ⟨by kernel_rfl, hw.fr⟩
    · skip
      refine WC.skip ?_
      change WC _ _ _ _ _ _
      refine WC.region ?_
      refine va rfl rfl rfl (q_add_r (r := ((i2 + 1 : Nat) : Int)) rfl rfl rfl (ctr_len hl7 hs_.le)) ?_
      refine va rfl rfl rfl (q_move (v := .int .i64 ((i2 + 1 : Nat) : Int)) rfl (by kernel_rfl)) ?_
      refine WR.nil ?_
      intro w hw
      exact ⟨hl7, (), h, (sl_ (by kernel_rfl)), hw, trivial⟩
  · skip
    have h := hge5 (ige hb6)
    refine WC.exit ?_
    change WC _ _ _ _ _ _
    refine WC.rs ?_
    refine va rfl rfl rfl (q_assign (v := .int .i64 (-1)) rfl (by kernel_rfl)) ?_
    refine WR.nil ?_
    change WC _ _ _ _ _ _
    refine WC.ret ?_
    intro w hw
    obtain rfl := Option.some.inj h
    subst hF
    exact ⟨by kernel_rfl, hw.fr⟩
set_option maxRecDepth 100000 in
set_option maxHeartbeats 400000 in
theorem t_slices_ContainsFunc_api_Rec_api_Rec {Γ : Gh} {w0 : World} {As_ : Option Addr} {cs_ : Nat} {s_ : List Rec} (hs_ : Sl recT Γ As_ s_) (hs_c : s_.length ≤ cs_) (hs : Sat Γ w0) {r : Bool} (h : m_slices_ContainsFunc_api_Rec_api_Rec s_ = some r) : Calls Try.prog 84 #[.slice As_ s_.length cs_, .func (.func 90) #[] #[]] w0 (fun e w' => e = .returned (.bool r) ∧ Fr no w0 w') := by
  refine calls_of (N := 9) (rs := [4]) (args := [.slice As_ s_.length cs_, .func (.func 90) #[] #[]]) Try.func84 rfl Try.ntmps84 Try.results84 rfl ?_
  obtain ⟨F, hF⟩ : ∃ F : Fm, F = ⟨no, w0, Γ⟩ := ⟨_, rfl⟩
  refine WC.here (C := CC F Γ []) ?_ (hF ▸ Cur.start0 hs)
  refine WC.rs ?_
  refine va rfl rfl rfl (q_assign (v := .bool false) rfl (by kernel_rfl)) ?_
  refine WR.nil ?_
  change WC _ _ _ _ _ _
  refine WC.rs ?_
  refine va rfl rfl rfl (q_move (v := .slice As_ s_.length cs_) rfl (by kernel_rfl)) ?_
  refine va rfl rfl rfl (q_move (v := .func (.func 90) #[] #[]) rfl (by kernel_rfl)) ?_
  obtain ⟨z1, hz2, h⟩ := bnd h
  refine vc rfl rfl rfl (q_call (call_run Try.call94 rfl rfl (by kernel_rfl)) (fun w hw => t_slices_IndexFunc_api_Rec_api_Rec (Γ := Gh.all w) (hs_.mono hw.sat.le_all) hs_c (Sat.all w) hz2)) ?_
  refine va rfl rfl rfl (q_geq rfl rfl rfl) ?_
  refine va rfl rfl rfl (q_assign (v := .bool (decide (0 ≤ z1))) rfl (by kernel_rfl)) ?_
  refine WR.nil ?_
  change WC _ _ _ _ _ _
  refine WC.ret ?_
  intro w hw
  obtain rfl := Option.some.inj h
  subst hF
  exact ⟨by kernel_rfl, hw.fr⟩
set_option maxRecDepth 100000 in
set_option maxHeartbeats 400000 in
theorem t_mend_right {Γ : Gh} {w0 : World} {Al : Option Addr} {cl : Nat} {l : List Rec} (hl : Sl recT Γ Al l) (hlc : l.length ≤ cl) (hs : Sat Γ w0) {r : Bool} (h : m_mend_right l = some r) : Calls Try.prog 80 #[.slice Al l.length cl] w0 (fun e w' => e = .returned (.bool r) ∧ Fr no w0 w') := by
  refine calls_of (N := 6) (rs := [2]) (args := [.slice Al l.length cl]) Try.func80 rfl Try.ntmps80 Try.results80 rfl ?_
  obtain ⟨F, hF⟩ : ∃ F : Fm, F = ⟨no, w0, Γ⟩ := ⟨_, rfl⟩
  refine WC.here (C := CC F Γ []) ?_ (hF ▸ Cur.start0 hs)
  refine WC.rs ?_
  refine va rfl rfl rfl (q_assign (v := .bool false) rfl (by kernel_rfl)) ?_
  refine WR.nil ?_
  change WC _ _ _ _ _ _
  refine WC.rs ?_
  refine va rfl rfl rfl (q_move (v := .slice Al l.length cl) rfl (by kernel_rfl)) ?_
  obtain ⟨z1, hz2, h⟩ := bnd h
  refine vc rfl rfl rfl (q_call (call_run Try.call84 rfl rfl (by kernel_rfl)) (fun w hw => t_slices_ContainsFunc_api_Rec_api_Rec (Γ := Gh.all w) (hl.mono hw.sat.le_all) hlc (Sat.all w) hz2)) ?_
  refine va rfl rfl rfl (q_not rfl rfl) ?_
  refine va rfl rfl rfl (q_assign (v := .bool (!z1)) rfl (by kernel_rfl)) ?_
  refine WR.nil ?_
  change WC _ _ _ _ _ _
  refine WC.ret ?_
  intro w hw
  obtain rfl := Option.some.inj h
  subst hF
  exact ⟨by kernel_rfl, hw.fr⟩
abbrev r_mend_Take (r : (List Rec) × Int) (U : List Rowb) (Γ : Gh) (v : Value) : Prop := ∃ (A0 : Option Addr), ∃ (c0 : Nat), ∃ (row0 : Rowb), v = .tuple #[.slice A0 r.1.length c0, .int .i64 r.2] ∧ U = [row0] ∧ Own recT Γ 74 row0 A0 c0 r.1 ∧ I64 r.2 ∧ True

abbrev r_mend_held_x (B : Gh) (r : List (ByteArray × (List Ver))) (U : List Rowb) (Γ : Gh) (v : Value) : Prop := ∃ (g0 : Nat), ∃ (row0 : Rowb), v = .map (some g0) ∧ U = [row0] ∧ MapO (strK Try.underlying9) (atV (slT verT).v B) Γ row0 g0 r ∧ True
set_option maxRecDepth 100000 in
set_option maxHeartbeats 400000 in
theorem t_mend_held_x {Γ : Gh} {w0 : World} {B : Gh} {Al : Option Addr} {cl : Nat} {l : List Rec} (hl : Sl recT B Al l) (hlc : l.length ≤ cl) (hp : Pre [] Γ w0) (hpB : Pre [] B w0) {r : List (ByteArray × (List Ver))} (h : m_mend_held l = some r) : Calls Try.prog 81 #[.slice Al l.length cl] w0 (Outc Γ [] w0 (r_mend_held_x B r)) := by
  refine calls_of (N := 20) (rs := [2]) (args := [.slice Al l.length cl]) Try.func81 rfl Try.ntmps81 Try.results81 rfl ?_
  obtain ⟨F, hF⟩ : ∃ F : Fm, F = ⟨ids [], w0, Γ⟩ := ⟨_, rfl⟩
  refine WC.here (C := CC F Γ []) ?_ (hF ▸ hp.start)
  have hB : Lent F B := hF ▸ Lent.start hpB
  refine WC.rs ?_
  refine va rfl rfl rfl (q_assign (v := .map none) rfl (by kernel_rfl)) ?_
  refine WR.nil ?_
  change WC _ _ _ _ _ _
  refine WC.rs ?_
  refine e_makeMap (strK Try.underlying9) (atV (slT verT).v B) rfl rfl rfl rfl ?_
  intro g1 row2 hm3
  refine va rfl rfl rfl (q_assign (v := .map (some g1)) rfl (by kernel_rfl)) ?_
  refine WR.nil ?_
  change WC _ _ _ _ _ _
  refine WC.seq ?_
  refine WC.rs ?_
  refine va rfl rfl rfl (q_move (v := .slice Al l.length cl) rfl (by kernel_rfl)) ?_
  refine va rfl rfl rfl (q_len_slice rfl Try.underlying41 rfl) ?_
  refine va rfl rfl rfl (q_move (v := .int .i64 0) rfl (by kernel_rfl)) ?_
  refine WR.nil ?_
  change WC _ _ _ _ _ _
  refine WC.block ?_
  refine WC.forI h (fun (i8 : Nat) (m4 : List (ByteArray × (List Ver))) σ w => ∃ (row5 : Rowb), slots σ [(3, .map (some g1)), (7, .slice Al l.length cl), (8, .int .i64 ((l.length : Nat) : Int)), (9, .int .i64 ((i8 : Nat) : Int))] ∧ CC F Γ [row5] w ∧ MapO (strK Try.underlying9) (atV (slT verT).v B) Γ row5 g1 m4 ∧ True) ?_ ?_
  · skip
    intro w hw
    exact ⟨row2, (sl_ (by kernel_rfl)), hw, hm3, trivial⟩
  rintro f7 i8 m4 σ w hi9 hlt10 hge11 ⟨row5, hsl, hw, ho6, -⟩
  refine Wpt.slots hsl ?_
  refine WC.here (C := CC F Γ [row5]) ?_ hw
  clear hw hsl
  refine WC.rs ?_
  refine va rfl rfl rfl (q_lss rfl rfl rfl) ?_
  refine WR.nil ?_
  change WC _ _ _ _ _ _
  refine WC.seq ?_
  refine WC.cond (b := (decide (((i8 : Nat) : Int) < ((l.length : Nat) : Int)))) (by kernel_rfl) (fun hb12 => ?_) (fun hb12 => ?_)
  · skip
    have hl13 := ilt hb12
    have h := hlt10 hl13
    refine WC.skip ?_
    change WC _ _ _ _ _ _
    refine WC.seq ?_
    refine WC.block ?_
    refine WC.rs ?_
    refine va rfl rfl rfl (q_ixn (i := i8) Try.underlying41 Try.sizeOf74 rfl rfl rfl hl13 (hl.some_ hl13)) ?_
    obtain ⟨A14, c15, hx16⟩ := hl.recT_at i8
    refine va rfl rfl rfl (q_ldaS (c := 0) (vs := [.string (gt l i8).key, .slice A14 ((gt l i8).vers).length c15]) (fun w hw => hB.sat hw) (hx16 hl13).2 rfl Try.isAgg74 Try.sizeOf74 rfl rfl rfl) ?_
    refine e_alloc Try.zeroValue74 rfl rfl rfl rfl ?_
    intro g17
    refine e_st (i := 0) (v := .agg #[.string (gt l i8).key, .slice A14 ((gt l i8).vers).length c15]) (new := #[.string (gt l i8).key, .slice A14 ((gt l i8).vers).length c15]) rfl Try.sizeOf74 rfl rfl rfl rfl (by kernel_rfl) rfl rfl rfl rfl ?_
    refine WR.nil ?_
    change WC _ _ _ _ _ _
    refine WC.region ?_
    refine va rfl rfl rfl (q_move (v := .map (some g1)) rfl (by kernel_rfl)) ?_
    refine va rfl rfl rfl (q_fl 0 fld_74_0 rfl rfl rfl) ?_
    refine va rfl rfl rfl (q_ldl (i := 0) (v := .string (gt l i8).key) rfl rfl Try.isAgg9 rfl rfl) ?_
    refine va rfl rfl rfl (q_fl 1 fld_74_1 rfl rfl rfl) ?_
    refine va rfl rfl rfl (q_ldl (i := 0) (v := .slice A14 ((gt l i8).vers).length c15) rfl rfl Try.isAgg40 rfl rfl) ?_
    refine e_mapUpdate (i := 1) (x := ((gt l i8).key)) (v := .slice A14 ((gt l i8).vers).length c15) (a := (gt l i8).vers) rfl rfl rfl Try.underlying135 rfl rfl (by kernel_rfl) rfl ho6 (by exact ⟨A14, c15, rfl, (hx16 hl13).1.2.1, (hx16 hl13).1.2.2⟩) (hx16 hl13).1.1 ?_
    intro row18 hm19
    refine WR.nil ?_
    change WC _ _ _ _ _ _
    refine WC.region ?_
    refine va rfl rfl rfl (q_add_r (r := ((i8 + 1 : Nat) : Int)) rfl rfl rfl (ctr_len hl13 hl.le)) ?_
    refine va rfl rfl rfl (q_move (v := .int .i64 ((i8 + 1 : Nat) : Int)) rfl (by kernel_rfl)) ?_
    refine WR.nil ?_
    intro w hw
    exact ⟨hl13, (mput ((gt l i8).key) ((gt l i8).vers) m4), h, row18, (sl_ (by kernel_rfl)), (hw.only (is := [1]) rfl), hm19, trivial⟩
  · skip
    have h := hge11 (ige hb12)
    refine WC.exit ?_
    change WC _ _ _ _ _ _
    refine WC.rs ?_
    refine va rfl rfl rfl (q_move (v := .map (some g1)) rfl (by kernel_rfl)) ?_
    refine va rfl rfl rfl (q_assign (v := .map (some g1)) rfl (by kernel_rfl)) ?_
    refine WR.nil ?_
    change WC _ _ _ _ _ _
    refine WC.ret ?_
    intro w hw
    obtain rfl := Option.some.inj h
    subst hF
    exact end_e (is := [0]) (by kernel_rfl) hw rfl ⟨g1, row5, rfl, rfl, ho6, trivial⟩
end Fw
end Go.Proofs.Ytlgahohnbkkoiaa
