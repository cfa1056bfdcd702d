/- Walks through the functions that the law reaches (printed by a program). No condition. -/
import Derived.Test.YtlbdlkgboliikaaW2
namespace Go.Proofs.Ytlbdlkgboliikaa
namespace Fw
set_option linter.unusedVariables false
set_option linter.unusedSimpArgs false
set_option linter.unusedSectionVars false
open Go.RowKit
set_option maxRecDepth 100000 in
set_option maxHeartbeats 400000 in
theorem t_firthlaw16_QuorumMeets {Γ : Gh} {w0 : World} {Am3 : Option Addr} {cm3 : Nat} {Am4 : Option Addr} {cm4 : Nat} (m : Dfirthlaw16_Meet) (hm : Dfirthlaw16_Meet.fits Γ Am3 cm3 Am4 cm4 m) {Aold : Option Addr} {cold : Nat} {old : List (List Ver)} (hold : Sl (slT verT) Γ Aold old) (holdc : old.length ≤ cold) {Av_2 : Option Addr} {cv_2 : Nat} (v_ : Ver) (hv_ : Ver.fits Γ Av_2 cv_2 v_) (hs : Sat Γ w0) {r : Bool} (h : m_firthlaw16_QuorumMeets m old v_ = some r) : Calls Try.prog 6 #[.agg #[.int .i64 m.n, .int .i64 m.w_, .int .i64 m.r, .slice Am3 m.took.length cm3, .slice Am4 m.asked.length cm4], .slice Aold old.length cold, .agg #[.int .i64 v_.dot.s, .int .i64 v_.dot.n, .slice Av_2 v_.past.length cv_2, .bool v_.gone, .string v_.val]] w0 (fun e w' => e = .returned (.bool r) ∧ Fr no w0 w') := by
  refine calls_of (N := 301) (rs := [6]) (args := [.agg #[.int .i64 m.n, .int .i64 m.w_, .int .i64 m.r, .slice Am3 m.took.length cm3, .slice Am4 m.asked.length cm4], .slice Aold old.length cold, .agg #[.int .i64 v_.dot.s, .int .i64 v_.dot.n, .slice Av_2 v_.past.length cv_2, .bool v_.gone, .string v_.val]]) Try.func6 rfl Try.ntmps6 Try.results6 rfl ?_
  obtain ⟨F, hF⟩ : ∃ F : Fm, F = ⟨no, w0, Γ⟩ := ⟨_, rfl⟩
  refine WC.here (C := CC F Γ []) ?_ (hF ▸ Cur.start0 hs)
  refine WC.rs ?_
  refine e_box (v := .agg #[.int .i64 m.n, .int .i64 m.w_, .int .i64 m.r, .slice Am3 m.took.length cm3, .slice Am4 m.asked.length cm4]) rfl rfl rfl rfl (by kernel_rfl) ?_
  intro g1
  refine e_box (v := .agg #[.int .i64 v_.dot.s, .int .i64 v_.dot.n, .slice Av_2 v_.past.length cv_2, .bool v_.gone, .string v_.val]) rfl rfl rfl rfl (by kernel_rfl) ?_
  intro g2
  refine va rfl rfl rfl (q_assign (v := .bool false) rfl (by kernel_rfl)) ?_
  refine WR.nil ?_
  change WC _ _ _ _ _ _
  refine WC.seq ?_
  refine WC.rs ?_
  obtain ⟨z3, hz4, h⟩ := bnd h
  refine vc rfl rfl rfl (q_call (call_run Try.call8 rfl rfl (by kernel_rfl)) (fun w hw => t_firthlaw16_awake (Γ := Gh.all w)  (Sat.all w) hz4)) ?_
  refine va rfl rfl rfl (q_not rfl rfl) ?_
  refine va rfl rfl rfl (q_move (v := .bool (!z3)) rfl (by kernel_rfl)) ?_
  refine vg0 rfl rfl rfl rfl rfl (fun hg5 => QV.qo (q_fl 0 fld_52_0 rfl rfl rfl)) ?_
  refine vg0 rfl rfl rfl rfl rfl (fun hg6 => QV.qo (q_ldl (i := 1) (v := .int .i64 m.n) rfl rfl Try.isAgg3 (gu hg6 rfl) rfl)) ?_
  refine vg0 rfl rfl rfl rfl rfl (fun hg7 => QV.qo (q_lss rfl (gu hg7 rfl) rfl)) ?_
  refine va rfl rfl rfl (q_pick rfl rfl (pk_or' (g := (!z3)) (y := (decide (m.n < 1))))) ?_
  refine va rfl rfl rfl (q_move (v := .bool ((!z3) || (decide (m.n < 1)))) rfl (by kernel_rfl)) ?_
  refine vg0 rfl rfl rfl rfl rfl (fun hg8 => QV.qo (q_fl 0 fld_52_0 rfl rfl rfl)) ?_
  refine vg0 rfl rfl rfl rfl rfl (fun hg9 => QV.qo (q_ldl (i := 1) (v := .int .i64 m.n) rfl rfl Try.isAgg3 (gu hg9 rfl) rfl)) ?_
  refine vg0 rfl rfl rfl rfl rfl (fun hg10 => QV.qo (q_gtr rfl (gu hg10 rfl) rfl)) ?_
  refine va rfl rfl rfl (q_pick rfl rfl (pk_or' (g := ((!z3) || (decide (m.n < 1)))) (y := (decide (8 < m.n))))) ?_
  refine va rfl rfl rfl (q_move (v := .bool (((!z3) || (decide (m.n < 1))) || (decide (8 < m.n)))) rfl (by kernel_rfl)) ?_
  refine vg0 rfl rfl rfl rfl rfl (fun hg11 => QV.qo (q_fl 1 fld_52_1 rfl rfl rfl)) ?_
  refine vg0 rfl rfl rfl rfl rfl (fun hg12 => QV.qo (q_ldl (i := 1) (v := .int .i64 m.w_) rfl rfl Try.isAgg3 (gu hg12 rfl) rfl)) ?_
  refine vg0 rfl rfl rfl rfl rfl (fun hg13 => QV.qo (q_lss rfl (gu hg13 rfl) rfl)) ?_
  refine va rfl rfl rfl (q_pick rfl rfl (pk_or' (g := (((!z3) || (decide (m.n < 1))) || (decide (8 < m.n)))) (y := (decide (m.w_ < 1))))) ?_
  refine va rfl rfl rfl (q_move (v := .bool ((((!z3) || (decide (m.n < 1))) || (decide (8 < m.n))) || (decide (m.w_ < 1)))) rfl (by kernel_rfl)) ?_
  refine vg0 rfl rfl rfl rfl rfl (fun hg14 => QV.qo (q_fl 1 fld_52_1 rfl rfl rfl)) ?_
  refine vg0 rfl rfl rfl rfl rfl (fun hg15 => QV.qo (q_ldl (i := 1) (v := .int .i64 m.w_) rfl rfl Try.isAgg3 (gu hg15 rfl) rfl)) ?_
  refine vg0 rfl rfl rfl rfl rfl (fun hg16 => QV.qo (q_fl 0 fld_52_0 rfl rfl rfl)) ?_
  refine vg0 rfl rfl rfl rfl rfl (fun hg17 => QV.qo (q_ldl (i := 1) (v := .int .i64 m.n) rfl rfl Try.isAgg3 (gu hg17 rfl) rfl)) ?_
  refine vg0 rfl rfl rfl rfl rfl (fun hg18 => QV.qo (q_gtr rfl (gu hg18 rfl) (gu hg18 rfl))) ?_
  refine va rfl rfl rfl (q_pick rfl rfl (pk_or' (g := ((((!z3) || (decide (m.n < 1))) || (decide (8 < m.n))) || (decide (m.w_ < 1)))) (y := (decide (m.n < m.w_))))) ?_
  refine va rfl rfl rfl (q_move (v := .bool (((((!z3) || (decide (m.n < 1))) || (decide (8 < m.n))) || (decide (m.w_ < 1))) || (decide (m.n < m.w_)))) rfl (by kernel_rfl)) ?_
  refine vg0 rfl rfl rfl rfl rfl (fun hg19 => QV.qo (q_fl 2 fld_52_2 rfl rfl rfl)) ?_
  refine vg0 rfl rfl rfl rfl rfl (fun hg20 => QV.qo (q_ldl (i := 1) (v := .int .i64 m.r) rfl rfl Try.isAgg3 (gu hg20 rfl) rfl)) ?_
  refine vg0 rfl rfl rfl rfl rfl (fun hg21 => QV.qo (q_lss rfl (gu hg21 rfl) rfl)) ?_
  refine va rfl rfl rfl (q_pick rfl rfl (pk_or' (g := (((((!z3) || (decide (m.n < 1))) || (decide (8 < m.n))) || (decide (m.w_ < 1))) || (decide (m.n < m.w_)))) (y := (decide (m.r < 1))))) ?_
  refine va rfl rfl rfl (q_move (v := .bool ((((((!z3) || (decide (m.n < 1))) || (decide (8 < m.n))) || (decide (m.w_ < 1))) || (decide (m.n < m.w_))) || (decide (m.r < 1)))) rfl (by kernel_rfl)) ?_
  refine vg0 rfl rfl rfl rfl rfl (fun hg22 => QV.qo (q_fl 2 fld_52_2 rfl rfl rfl)) ?_
  refine vg0 rfl rfl rfl rfl rfl (fun hg23 => QV.qo (q_ldl (i := 1) (v := .int .i64 m.r) rfl rfl Try.isAgg3 (gu hg23 rfl) rfl)) ?_
  refine vg0 rfl rfl rfl rfl rfl (fun hg24 => QV.qo (q_fl 0 fld_52_0 rfl rfl rfl)) ?_
  refine vg0 rfl rfl rfl rfl rfl (fun hg25 => QV.qo (q_ldl (i := 1) (v := .int .i64 m.n) rfl rfl Try.isAgg3 (gu hg25 rfl) rfl)) ?_
  refine vg0 rfl rfl rfl rfl rfl (fun hg26 => QV.qo (q_gtr rfl (gu hg26 rfl) (gu hg26 rfl))) ?_
  refine va rfl rfl rfl (q_pick rfl rfl (pk_or' (g := ((((((!z3) || (decide (m.n < 1))) || (decide (8 < m.n))) || (decide (m.w_ < 1))) || (decide (m.n < m.w_))) || (decide (m.r < 1)))) (y := (decide (m.n < m.r))))) ?_
  refine va rfl rfl rfl (q_move (v := .bool (((((((!z3) || (decide (m.n < 1))) || (decide (8 < m.n))) || (decide (m.w_ < 1))) || (decide (m.n < m.w_))) || (decide (m.r < 1))) || (decide (m.n < m.r)))) rfl (by kernel_rfl)) ?_
  refine vg0 rfl rfl rfl rfl rfl (fun hg27 => QV.qo (q_fl 1 fld_52_1 rfl rfl rfl)) ?_
  refine vg0 rfl rfl rfl rfl rfl (fun hg28 => QV.qo (q_ldl (i := 1) (v := .int .i64 m.w_) rfl rfl Try.isAgg3 (gu hg28 rfl) rfl)) ?_
  refine vg0 rfl rfl rfl rfl rfl (fun hg29 => QV.qo (q_fl 2 fld_52_2 rfl rfl rfl)) ?_
  refine vg0 rfl rfl rfl rfl rfl (fun hg30 => QV.qo (q_ldl (i := 1) (v := .int .i64 m.r) rfl rfl Try.isAgg3 (gu hg30 rfl) rfl)) ?_
  refine vg0 rfl rfl rfl rfl rfl (fun hg31 => QV.qo (q_add rfl (gu hg31 rfl) (gu hg31 rfl))) ?_
  refine vg0 rfl rfl rfl rfl rfl (fun hg32 => QV.qo (q_fl 0 fld_52_0 rfl rfl rfl)) ?_
  refine vg0 rfl rfl rfl rfl rfl (fun hg33 => QV.qo (q_ldl (i := 1) (v := .int .i64 m.n) rfl rfl Try.isAgg3 (gu hg33 rfl) rfl)) ?_
  refine vg0 rfl rfl rfl rfl rfl (fun hg34 => QV.qo (q_leq rfl (gu hg34 rfl) (gu hg34 rfl))) ?_
  refine va rfl rfl rfl (q_pick rfl rfl (pk_or' (g := (((((((!z3) || (decide (m.n < 1))) || (decide (8 < m.n))) || (decide (m.w_ < 1))) || (decide (m.n < m.w_))) || (decide (m.r < 1))) || (decide (m.n < m.r)))) (y := (decide ((w64 (m.w_ + m.r)) ≤ m.n))))) ?_
  refine va rfl rfl rfl (q_move (v := .bool ((((((((!z3) || (decide (m.n < 1))) || (decide (8 < m.n))) || (decide (m.w_ < 1))) || (decide (m.n < m.w_))) || (decide (m.r < 1))) || (decide (m.n < m.r))) || (decide ((w64 (m.w_ + m.r)) ≤ m.n)))) rfl (by kernel_rfl)) ?_
  refine vg0 rfl rfl rfl rfl rfl (fun hg35 => QV.qo (q_ldla (i := 0) (vs := [.int .i64 v_.dot.s, .int .i64 v_.dot.n, .slice Av_2 v_.past.length cv_2, .bool v_.gone, .string v_.val]) rfl rfl Try.isAgg58 Try.sizeOf58 rfl rfl)) ?_
  obtain ⟨z37, hz38, h⟩ := bnd h
  refine vg0 rfl rfl rfl rfl rfl (fun hg36 => (q_call (call_run Try.call30 rfl rfl (args1 (gu hg36 rfl))) (fun w hw => t_firthref05_RightOne (Γ := Gh.all w) v_ (Ver.fits_mono hv_ hw.sat.le_all) (Sat.all w) (gc_of hz38 hg36)))) ?_
  refine vg0 rfl rfl rfl rfl rfl (fun hg39 => QV.qo (q_not rfl (gu hg39 rfl))) ?_
  refine va rfl rfl rfl (q_pick rfl rfl (pk_or' (g := ((((((((!z3) || (decide (m.n < 1))) || (decide (8 < m.n))) || (decide (m.w_ < 1))) || (decide (m.n < m.w_))) || (decide (m.r < 1))) || (decide (m.n < m.r))) || (decide ((w64 (m.w_ + m.r)) ≤ m.n)))) (y := (!z37)))) ?_
  refine WR.nil ?_
  change WC _ _ _ _ _ _
  refine WC.cif h (by kernel_rfl) (fun hb40 h => ?_) (fun hb40 h => ?_)
  · skip
    refine WC.rs ?_
    obtain ⟨z41, hz42, h⟩ := bnd h
    refine vc rfl rfl rfl (q_call (call_run Try.call8 rfl rfl (by kernel_rfl)) (fun w hw => t_firthlaw16_awake (Γ := Gh.all w)  (Sat.all w) hz42)) ?_
    refine va rfl rfl rfl (q_assign (v := .bool z41) rfl (by kernel_rfl)) ?_
    refine WR.nil ?_
    change WC _ _ _ _ _ _
    refine WC.ret ?_
    intro w hw
    obtain rfl := Option.some.inj h
    subst hF
    exact ⟨by kernel_rfl, hw.fr⟩
  · skip
    refine WC.skip ?_
    change WC _ _ _ _ _ _
    refine WC.rs ?_
    refine va rfl rfl rfl (q_assign (v := .slice none 0 0) rfl (by kernel_rfl)) ?_
    refine WR.nil ?_
    change WC _ _ _ _ _ _
    refine WC.rs ?_
    refine e_alloc Try.zeroValue60 rfl rfl rfl rfl ?_
    intro g43
    have ho44 : Own (slT verT) Γ 60 [(g43, .cells #[.slice none 0 0, .slice none 0 0, .slice none 0 0, .slice none 0 0, .slice none 0 0, .slice none 0 0, .slice none 0 0, .slice none 0 0, .slice none 0 0] 60 (0, 0))] (some ⟨g43, 0, none⟩) 9 (List.replicate 9 []) := own_zero (T := (slT verT)) 9 [.slice none 0 0] [] rfl ⟨none, 0, rfl, Nat.zero_le _, Sl.nil _ _ _⟩ (by decide)
    refine WR.nil ?_
    change WC _ _ _ _ _ _
    refine WC.rs ?_
    refine va rfl rfl rfl (q_ldla (i := 1) (vs := [.int .i64 v_.dot.s, .int .i64 v_.dot.n, .slice Av_2 v_.past.length cv_2, .bool v_.gone, .string v_.val]) rfl rfl Try.isAgg58 Try.sizeOf58 rfl rfl) ?_
    refine e_buildSlice (cs := #[.int .i64 v_.dot.s, .int .i64 v_.dot.n, .slice Av_2 v_.past.length cv_2, .bool v_.gone, .string v_.val]) (e := 58) rfl rfl rfl rfl (fun w => by kernel_rfl) ?_
    intro g45
    refine va rfl rfl rfl (q_build' (v := .agg #[.int .i64 0, .slice (some ⟨g45, 0, none⟩) 1 1, .slice none 0 0]) rfl (bargs1 rfl) (fun w => by kernel_rfl)) ?_
    have ho46 : Own verT Γ 58 [(g45, .cells #[.int .i64 v_.dot.s, .int .i64 v_.dot.n, .slice Av_2 v_.past.length cv_2, .bool v_.gone, .string v_.val] 58 (0, 0))] (some ⟨g45, 0, none⟩) 1 [v_] := Own.of_block (T := verT) (ys := [v_]) [[.int .i64 v_.dot.s, .int .i64 v_.dot.n, .slice Av_2 v_.past.length cv_2, .bool v_.gone, .string v_.val]] rfl rfl (show 1 ≤ lim by decide) (fun i h => match i, h with | 0, _ => (show Ty.rd verT Γ [.int .i64 v_.dot.s, .int .i64 v_.dot.n, .slice Av_2 v_.past.length cv_2, .bool v_.gone, .string v_.val] v_ from ⟨Av_2, cv_2, rfl, hv_⟩))
    have hc51 := ho46.capz
    intro w hw; obtain ⟨Γ47, hw, hl48, hr49⟩ := hw.seal (i := 0) rfl; have hs50 := ho46.sl hl48 hr49
    refine WR.here (C := CC F Γ47 [[], [(g43, .cells #[.slice none 0 0, .slice none 0 0, .slice none 0 0, .slice none 0 0, .slice none 0 0, .slice none 0 0, .slice none 0 0, .slice none 0 0, .slice none 0 0] 60 (0, 0))], [(g2, .cells #[.int .i64 v_.dot.s, .int .i64 v_.dot.n, .slice Av_2 v_.past.length cv_2, .bool v_.gone, .string v_.val] 58 (0, 0))], [(g1, .cells #[.int .i64 m.n, .int .i64 m.w_, .int .i64 m.r, .slice Am3 m.took.length cm3, .slice Am4 m.asked.length cm4] 52 (0, 0))]]) ?_ hw
    clear hw
    refine e_buildSlice (cs := #[.int .i64 0, .slice (some ⟨g45, 0, none⟩) [v_].length 1, .slice none 0 0]) (e := 43) rfl rfl rfl rfl (fun w => by kernel_rfl) ?_
    intro g52
    refine va rfl rfl rfl (q_assign (v := .slice (some ⟨g52, 0, none⟩) 1 1) rfl (by kernel_rfl)) ?_
    refine WR.nil ?_
    change WC _ _ _ _ _ _
    refine WC.seq ?_
    refine WC.rs ?_
    refine va rfl rfl rfl (q_assign (v := .int .i64 1) rfl (by kernel_rfl)) ?_
    refine WR.nil ?_
    change WC _ _ _ _ _ _
    refine WC.block ?_
    refine WC.loopN h (fun (s : (List Int) × (List Dfirthlaw16_Reply) × Int × (List (List Ver))) σ w => match s with | (list_53, all_58, i_63, x65) => ∃ (A54 : Option Addr), ∃ (c55 : Nat), ∃ (row56 : Rowb), ∃ (A59 : Option Addr), ∃ (c60 : Nat), ∃ (row61 : Rowb), ∃ (row66 : Rowb), slots σ [(1, .slice Aold old.length cold), (3, .pointer (some ⟨g1, 0, none⟩)), (5, .pointer (some ⟨g2, 0, none⟩)), (7, .slice A54 list_53.length c55), (8, .pointer (some ⟨g43, 0, none⟩)), (9, .slice A59 all_58.length c60), (10, .int .i64 i_63)] ∧ CC F Γ47 [row56, row61, row66, [(g2, .cells #[.int .i64 v_.dot.s, .int .i64 v_.dot.n, .slice Av_2 v_.past.length cv_2, .bool v_.gone, .string v_.val] 58 (0, 0))], [(g1, .cells #[.int .i64 m.n, .int .i64 m.w_, .int .i64 m.r, .slice Am3 m.took.length cm3, .slice Am4 m.asked.length cm4] 52 (0, 0))]] w ∧ Own intT Γ47 3 row56 A54 c55 list_53 ∧ Own dfirthlaw16_ReplyT Γ47 43 row61 A59 c60 all_58 ∧ I64 i_63 ∧ x65.length = 9 ∧ Own (slT verT) Γ47 60 row66 (some ⟨g43, 0, none⟩) 9 x65 ∧ True) ?_ ?_
    · skip
      intro w hw
      have ho70 : Own dfirthlaw16_ReplyT Γ47 43 [(g52, .cells #[.int .i64 0, .slice (some ⟨g45, 0, none⟩) [v_].length 1, .slice none 0 0] 43 (0, 0))] (some ⟨g52, 0, none⟩) 1 [(⟨0, [v_], []⟩ : Dfirthlaw16_Reply)] := Own.of_block (T := dfirthlaw16_ReplyT) (ys := [(⟨0, [v_], []⟩ : Dfirthlaw16_Reply)]) [[.int .i64 0, .slice (some ⟨g45, 0, none⟩) [v_].length 1, .slice none 0 0]] rfl rfl (show 1 ≤ lim by decide) (fun i h => match i, h with | 0, _ => (show Ty.rd dfirthlaw16_ReplyT Γ47 [.int .i64 0, .slice (some ⟨g45, 0, none⟩) [v_].length 1, .slice none 0 0] (⟨0, [v_], []⟩ : Dfirthlaw16_Reply) from ⟨(some ⟨g45, 0, none⟩), 1, none, 0, rfl, ⟨(show I64 0 by decide), ⟨hc51, hs50⟩, ⟨Nat.zero_le _, Sl.nil _ _ _⟩⟩⟩))
      have hw := hw.pad
      exact ⟨none, 0, [], (some ⟨g52, 0, none⟩), 1, [(g52, .cells #[.int .i64 0, .slice (some ⟨g45, 0, none⟩) [v_].length 1, .slice none 0 0] 43 (0, 0))], [(g43, .cells #[.slice none 0 0, .slice none 0 0, .slice none 0 0, .slice none 0 0, .slice none 0 0, .slice none 0 0, .slice none 0 0, .slice none 0 0, .slice none 0 0] 60 (0, 0))], (sl_ (by kernel_rfl)), (hw.only (is := [0, 0, 1, 1, 1]) rfl), (Own.nil intT _ 3), ho70, (show I64 1 by decide), List.length_replicate, (ho44.mono hl48), trivial⟩
    rintro f69 ⟨list_53, all_58, i_63, x65⟩ σ w h ⟨A54, c55, row56, A59, c60, row61, row66, hsl, hw, ho57, ho62, hr64, hn68, ho67, -⟩
    refine Wpt.slots hsl ?_
    refine WC.here (C := CC F Γ47 [row56, row61, row66, [(g2, .cells #[.int .i64 v_.dot.s, .int .i64 v_.dot.n, .slice Av_2 v_.past.length cv_2, .bool v_.gone, .string v_.val] 58 (0, 0))], [(g1, .cells #[.int .i64 m.n, .int .i64 m.w_, .int .i64 m.r, .slice Am3 m.took.length cm3, .slice Am4 m.asked.length cm4] 52 (0, 0))]]) ?_ hw
    clear hw hsl
    refine WC.seq ?_
    refine WC.rs ?_
    refine va rfl rfl rfl (q_move (v := .int .i64 i_63) rfl (by kernel_rfl)) ?_
    refine va rfl rfl rfl (q_fl 0 fld_52_0 rfl rfl rfl) ?_
    refine va rfl rfl rfl (q_ldl (i := 4) (v := .int .i64 m.n) rfl rfl Try.isAgg3 rfl rfl) ?_
    refine va rfl rfl rfl (q_leq rfl rfl rfl) ?_
    refine WR.nil ?_
    change WC _ _ _ _ _ _
    refine WC.cif h (by kernel_rfl) (fun hb74 h => ?_) (fun hb74 h => ?_)
    · skip
      refine WC.skip ?_
      change WC _ _ _ _ _ _
      refine WC.seq ?_
      refine WC.block ?_
      refine WC.rs ?_
      refine va rfl rfl rfl (q_move (v := .slice A54 list_53.length c55) rfl (by kernel_rfl)) ?_
      refine va rfl rfl rfl (q_move (v := .int .i64 i_63) rfl (by kernel_rfl)) ?_
      refine e_buildSlice (cs := #[.int .i64 i_63]) (e := 3) rfl rfl rfl rfl (fun w => by kernel_rfl) ?_
      intro g75
      obtain ⟨hk76, h⟩ := chk_some h
      refine e_append (T := intT) (xs := list_53) (ys := [i_63]) elem_22 (i := 1) rfl rfl rfl rfl rfl rfl rfl ho57 (of_decide_eq_true hk76) (fun w hw => src_one (T := intT) (y := i_63) (i := 0) rfl (by exact ⟨rfl, hr64⟩) hw) ?_
      intro row77 A78 c79 ho80
      refine va rfl rfl rfl (q_assign (v := .slice A78 (list_53 ++ [i_63]).length c79) rfl (by kernel_rfl)) ?_
      refine WR.nil ?_
      change WC _ _ _ _ _ _
      refine WC.cut (fun σ w => ∃ (x81 : List (List Ver)), ∃ (row82 : Rowb), m_firthlaw16_QuorumMeets_j5 list_53 all_58 i_63 f69 x81 = some r ∧ slots σ [(1, .slice Aold old.length cold), (3, .pointer (some ⟨g1, 0, none⟩)), (5, .pointer (some ⟨g2, 0, none⟩)), (7, .slice A78 (list_53 ++ [i_63]).length c79), (8, .pointer (some ⟨g43, 0, none⟩)), (9, .slice A59 all_58.length c60), (10, .int .i64 i_63)] ∧ CC F Γ47 [row77, row61, row82, [(g2, .cells #[.int .i64 v_.dot.s, .int .i64 v_.dot.n, .slice Av_2 v_.past.length cv_2, .bool v_.gone, .string v_.val] 58 (0, 0))], [(g1, .cells #[.int .i64 m.n, .int .i64 m.w_, .int .i64 m.r, .slice Am3 m.took.length cm3, .slice Am4 m.asked.length cm4] 52 (0, 0))]] w ∧ x81.length = 9 ∧ Own (slT verT) Γ47 60 row82 (some ⟨g43, 0, none⟩) 9 x81 ∧ True) ?_ ?_
      · skip
        refine WC.rs ?_
        refine va rfl rfl rfl (q_move (v := .int .i64 i_63) rfl (by kernel_rfl)) ?_
        refine va rfl rfl rfl (q_sub rfl rfl rfl) ?_
        refine va rfl rfl rfl (q_move (v := .slice Aold old.length cold) rfl (by kernel_rfl)) ?_
        refine va rfl rfl rfl (q_len_slice rfl Try.underlying53 rfl) ?_
        refine va rfl rfl rfl (q_lss rfl rfl rfl) ?_
        refine va rfl rfl rfl (q_move (v := .bool (decide ((w64 (i_63 - 1)) < ((old.length : Nat) : Int)))) rfl (by kernel_rfl)) ?_
        refine vg1 rfl rfl rfl rfl rfl (fun hg85 => QV.qo (q_move (v := .slice Aold old.length cold) rfl (by kernel_rfl))) ?_
        refine vg1 rfl rfl rfl rfl rfl (fun hg86 => QV.qo (q_move (v := .int .i64 i_63) rfl (by kernel_rfl))) ?_
        refine vg1 rfl rfl rfl rfl rfl (fun hg87 => QV.qo (q_sub rfl (gu hg87 rfl) rfl)) ?_
        obtain ⟨hk89, h⟩ := chk_some h
        refine vg1 rfl rfl rfl rfl rfl (fun hg88 => QV.qo (q_ix Try.underlying53 Try.sizeOf40 rfl (gu hg88 rfl) (gu hg88 rfl) (imp_of hk89 hg88) ((hold.mono hl48).some_ (inb_lt (imp_of hk89 hg88))))) ?_
        obtain ⟨A91, c92, hx93⟩ := (hold.mono hl48).slT_at ((w64 (i_63 - 1)).toNat)
        refine vg1 rfl rfl rfl rfl rfl (fun hg90 => QV.qo (q_ld (c := 0) (v := .slice A91 (gt old ((w64 (i_63 - 1)).toNat)).length c92) (hx93 (inb_lt (imp_of hk89 hg90))).2 rfl Try.isAgg40 (gu hg90 rfl) rfl)) ?_
        obtain ⟨z95, hz96, h⟩ := bnd h
        refine vg1 rfl rfl rfl rfl rfl (fun hg94 => (q_call (call_run Try.call29 rfl rfl (args1 (gu hg94 rfl))) (fun w hw => t_firthref05_Right (Γ := Gh.all w) ((hx93 (inb_lt (imp_of hk89 hg94))).1.2.mono hw.sat.le_all) (hx93 (inb_lt (imp_of hk89 hg94))).1.1 (Sat.all w) (gc_of hz96 hg94)))) ?_
        refine va rfl rfl rfl (q_pick rfl rfl (pk_and' (g := (decide ((w64 (i_63 - 1)) < ((old.length : Nat) : Int)))) (y := z95))) ?_
        refine WR.nil ?_
        change WC _ _ _ _ _ _
        refine WC.cif h (by kernel_rfl) (fun hb97 h => ?_) (fun hb97 h => ?_)
        · skip
          refine WC.region ?_
          refine va rfl rfl rfl (q_move (v := .int .i64 i_63) rfl (by kernel_rfl)) ?_
          refine va rfl rfl rfl (q_move (v := .slice Aold old.length cold) rfl (by kernel_rfl)) ?_
          refine va rfl rfl rfl (q_move (v := .int .i64 i_63) rfl (by kernel_rfl)) ?_
          refine va rfl rfl rfl (q_sub rfl rfl rfl) ?_
          obtain ⟨hk98, h⟩ := chk_some h
          refine va rfl rfl rfl (q_ix Try.underlying53 Try.sizeOf40 rfl rfl rfl hk98 ((hold.mono hl48).some_ (inb_lt hk98))) ?_
          refine va rfl rfl rfl (q_ld (c := 0) (v := .slice A91 (gt old ((w64 (i_63 - 1)).toNat)).length c92) (hx93 (inb_lt hk98)).2 rfl Try.isAgg40 rfl rfl) ?_
          obtain ⟨hk99, h⟩ := chk_some h
          refine va rfl rfl rfl (q_ixao Try.underlying60 Try.sizeOf40 rfl rfl rfl hk99) ?_
          refine e_store_own (T := (slT verT)) (q := i_63.toNat) (v := .slice A91 (gt old ((w64 (i_63 - 1)).toNat)).length c92) (y := (gt old ((w64 (i_63 - 1)).toNat))) rfl rfl rfl rfl (by kernel_rfl) Try.sizeOf40 (by exact ⟨A91, c92, rfl, (hx93 (inb_lt hk98)).1.1, (hx93 (inb_lt hk98)).1.2⟩) (i := 3) rfl ho67 (ltq (inb_lt hk99) hn68.symm) ?_
          intro row100 ho101
          refine WR.nil ?_
          intro w hw
          exact ⟨(List.set x65 i_63.toNat (gt old ((w64 (i_63 - 1)).toNat))), row100, h, (sl_ (by kernel_rfl)), (hw.only (is := [1, 1, 1, 1, 1]) rfl), (List.length_set.trans hn68), ho101, trivial⟩
        · skip
          refine WC.skip ?_
          intro w hw
          exact ⟨x65, row66, h, (sl_ (by kernel_rfl)), (hw.only (is := [1, 1, 1, 1, 1]) rfl), hn68, ho67, trivial⟩
      · skip
        rintro σ w ⟨x81, row82, h, hsl, hw, hn84, ho83, -⟩
        refine Wpt.slots hsl ?_
        refine WC.here (C := CC F Γ47 [row77, row61, row82, [(g2, .cells #[.int .i64 v_.dot.s, .int .i64 v_.dot.n, .slice Av_2 v_.past.length cv_2, .bool v_.gone, .string v_.val] 58 (0, 0))], [(g1, .cells #[.int .i64 m.n, .int .i64 m.w_, .int .i64 m.r, .slice Am3 m.took.length cm3, .slice Am4 m.asked.length cm4] 52 (0, 0))]]) ?_ hw
        clear hw hsl
        refine WC.region ?_
        refine va rfl rfl rfl (q_move (v := .slice A59 all_58.length c60) rfl (by kernel_rfl)) ?_
        refine va rfl rfl rfl (q_move (v := .int .i64 i_63) rfl (by kernel_rfl)) ?_
        obtain ⟨hk102, h⟩ := chk_some h
        refine va rfl rfl rfl (q_ixao Try.underlying60 Try.sizeOf40 rfl rfl rfl hk102) ?_
        obtain ⟨A103, c104, hx105⟩ := ho83.slT_at i_63.toNat
        refine va rfl rfl rfl (q_ldo (c := 0) (v := .slice A103 (gt x81 i_63.toNat).length c104) (i := 2) rfl (hx105 (ltq (inb_lt hk102) hn84.symm)).2 rfl Try.isAgg40 rfl rfl) ?_
        refine va rfl rfl rfl (q_build' (v := .agg #[.int .i64 0, .slice A103 (gt x81 i_63.toNat).length c104, .slice none 0 0]) rfl (bargs1 rfl) (fun w => by kernel_rfl)) ?_
        refine e_buildSlice (cs := #[.int .i64 0, .slice A103 (gt x81 i_63.toNat).length c104, .slice none 0 0]) (e := 43) rfl rfl rfl rfl (fun w => by kernel_rfl) ?_
        intro g106
        obtain ⟨hk107, h⟩ := chk_some h
        refine e_append (T := dfirthlaw16_ReplyT) (xs := all_58) (ys := [(⟨0, (gt x81 i_63.toNat), []⟩ : Dfirthlaw16_Reply)]) elem_35 (i := 2) rfl rfl rfl rfl rfl rfl rfl ho62 (of_decide_eq_true hk107) (fun w hw => src_one (T := dfirthlaw16_ReplyT) (y := (⟨0, (gt x81 i_63.toNat), []⟩ : Dfirthlaw16_Reply)) (i := 0) rfl (by exact ⟨A103, c104, none, 0, rfl, ⟨(show I64 0 by decide), ⟨(hx105 (ltq (inb_lt hk102) hn84.symm)).1.1, (hx105 (ltq (inb_lt hk102) hn84.symm)).1.2⟩, ⟨Nat.zero_le _, Sl.nil _ _ _⟩⟩⟩) hw) ?_
        intro row108 A109 c110 ho111
        refine va rfl rfl rfl (q_assign (v := .slice A109 (all_58 ++ [(⟨0, (gt x81 i_63.toNat), []⟩ : Dfirthlaw16_Reply)]).length c110) rfl (by kernel_rfl)) ?_
        refine WR.nil ?_
        change WC _ _ _ _ _ _
        refine WC.region ?_
        refine va rfl rfl rfl (q_move (v := .int .i64 i_63) rfl (by kernel_rfl)) ?_
        refine va rfl rfl rfl (q_add rfl rfl rfl) ?_
        refine va rfl rfl rfl (q_assign (v := .int .i64 (w64 (i_63 + 1))) rfl (by kernel_rfl)) ?_
        refine WR.nil ?_
        intro w hw
        exact ⟨((list_53 ++ [i_63]), (all_58 ++ [(⟨0, (gt x81 i_63.toNat), []⟩ : Dfirthlaw16_Reply)]), (w64 (i_63 + 1)), x81), h, A78, c79, row77, A109, c110, row108, row82, (sl_ (by kernel_rfl)), (hw.only (is := [1, 1, 1, 1, 1]) rfl), ho80, ho111, (w64_r _), hn84, ho83, trivial⟩
    · skip
      refine WC.exit ?_
      change WC _ _ _ _ _ _
      refine WC.rs ?_
      refine va rfl rfl rfl (q_assign (v := .int .i64 0) rfl (by kernel_rfl)) ?_
      refine WR.nil ?_
      change WC _ _ _ _ _ _
      refine WC.seq ?_
      refine WC.rs ?_
      refine va rfl rfl rfl (q_assign (v := .int .i64 0) rfl (by kernel_rfl)) ?_
      refine WR.nil ?_
      change WC _ _ _ _ _ _
      refine WC.block ?_
      refine WC.forI h (fun (i115 : Nat) (n_112 : Int) σ w => slots σ [(3, .pointer (some ⟨g1, 0, none⟩)), (5, .pointer (some ⟨g2, 0, none⟩)), (7, .slice A54 list_53.length c55), (8, .pointer (some ⟨g43, 0, none⟩)), (9, .slice A59 all_58.length c60), (11, .int .i64 n_112), (12, .int .i64 ((i115 : Nat) : Int))] ∧ CC F Γ47 [row56, row61, row66, [(g2, .cells #[.int .i64 v_.dot.s, .int .i64 v_.dot.n, .slice Av_2 v_.past.length cv_2, .bool v_.gone, .string v_.val] 58 (0, 0))], [(g1, .cells #[.int .i64 m.n, .int .i64 m.w_, .int .i64 m.r, .slice Am3 m.took.length cm3, .slice Am4 m.asked.length cm4] 52 (0, 0))]] w ∧ I64 n_112 ∧ True) ?_ ?_
      · skip
        intro w hw
        exact ⟨(sl_ (by kernel_rfl)), hw, (show I64 0 by decide), trivial⟩
      rintro f114 i115 n_112 σ w hi116 hlt117 hge118 ⟨hsl, hw, hr113, -⟩
      refine Wpt.slots hsl ?_
      refine WC.here (C := CC F Γ47 [row56, row61, row66, [(g2, .cells #[.int .i64 v_.dot.s, .int .i64 v_.dot.n, .slice Av_2 v_.past.length cv_2, .bool v_.gone, .string v_.val] 58 (0, 0))], [(g1, .cells #[.int .i64 m.n, .int .i64 m.w_, .int .i64 m.r, .slice Am3 m.took.length cm3, .slice Am4 m.asked.length cm4] 52 (0, 0))]]) ?_ hw
      clear hw hsl
      refine WC.seq ?_
      refine WC.rs ?_
      refine va rfl rfl rfl (q_move (v := .int .i64 ((i115 : Nat) : Int)) rfl (by kernel_rfl)) ?_
      refine va rfl rfl rfl (q_move (v := .slice A59 all_58.length c60) rfl (by kernel_rfl)) ?_
      refine va rfl rfl rfl (q_len_slice rfl Try.underlying35 rfl) ?_
      refine va rfl rfl rfl (q_lss rfl rfl rfl) ?_
      refine WR.nil ?_
      change WC _ _ _ _ _ _
      refine WC.cond (b := (decide (((i115 : Nat) : Int) < ((all_58.length : Nat) : Int)))) (by kernel_rfl) (fun hb119 => ?_) (fun hb119 => ?_)
      · skip
        have hl120 := ilt hb119
        have h := hlt117 hl120
        refine WC.skip ?_
        change WC _ _ _ _ _ _
        refine WC.seq ?_
        refine WC.block ?_
        refine WC.region ?_
        refine va rfl rfl rfl (q_move (v := .int .i64 n_112) rfl (by kernel_rfl)) ?_
        refine va rfl rfl rfl (q_move (v := .slice A59 all_58.length c60) rfl (by kernel_rfl)) ?_
        refine va rfl rfl rfl (q_move (v := .int .i64 ((i115 : Nat) : Int)) rfl (by kernel_rfl)) ?_
        refine va rfl rfl rfl (q_ixn (i := i115) Try.underlying35 Try.sizeOf43 rfl rfl rfl hl120 (ho62.some_ hl120)) ?_
        refine va rfl rfl rfl (q_field_addr (i115 * 3 + 1) fld_43_1 rfl rfl (ho62.some_ hl120) rfl) ?_
        obtain ⟨A121, c122, A123, c124, hx125⟩ := ho62.dfirthlaw16_ReplyT_at i115
        refine va rfl rfl rfl (q_ldo (c := 1) (v := .slice A121 ((gt all_58 i115).vers).length c122) (i := 1) rfl (hx125 hl120).2 rfl Try.isAgg40 rfl rfl) ?_
        refine va rfl rfl rfl (q_len_slice rfl Try.underlying40 rfl) ?_
        refine va rfl rfl rfl (q_add rfl rfl rfl) ?_
        refine va rfl rfl rfl (q_assign (v := .int .i64 (w64 (n_112 + ((((gt all_58 i115).vers).length : Nat) : Int)))) rfl (by kernel_rfl)) ?_
        refine WR.nil ?_
        change WC _ _ _ _ _ _
        refine WC.region ?_
        refine va rfl rfl rfl (q_move (v := .int .i64 ((i115 : Nat) : Int)) rfl (by kernel_rfl)) ?_
        refine va rfl rfl rfl (q_add_r (r := ((i115 + 1 : Nat) : Int)) rfl rfl rfl (ctr_len hl120 ho62.le)) ?_
        refine va rfl rfl rfl (q_assign (v := .int .i64 ((i115 + 1 : Nat) : Int)) rfl (by kernel_rfl)) ?_
        refine WR.nil ?_
        intro w hw
        exact ⟨hl120, (w64 (n_112 + ((((gt all_58 i115).vers).length : Nat) : Int))), h, (sl_ (by kernel_rfl)), hw, (w64_r _), trivial⟩
      · skip
        have h := hge118 (ige hb119)
        refine WC.exit ?_
        change WC _ _ _ _ _ _
        refine WC.seq ?_
        refine WC.rs ?_
        refine va rfl rfl rfl (q_move (v := .int .i64 n_112) rfl (by kernel_rfl)) ?_
        refine va rfl rfl rfl (q_gtr rfl rfl rfl) ?_
        refine va rfl rfl rfl (q_move (v := .bool (decide (512 < n_112))) rfl (by kernel_rfl)) ?_
        refine vg0 rfl rfl rfl rfl rfl (fun hg126 => QV.qo (q_move (v := .slice A59 all_58.length c60) rfl (by kernel_rfl))) ?_
        obtain ⟨z128, hz129, h⟩ := bnd h
        refine vg0 rfl rfl rfl rfl rfl (fun hg127 => (q_call (call_run Try.call28 rfl rfl (args1 (gu hg127 rfl))) (fun w hw => t_firthlaw16_written (Γ := Gh.all w) (ho62.sl hw.sat.le_all (hw.ra 1 rfl)) ho62.capz (Sat.all w) (gc_of hz129 hg127)))) ?_
        refine vg0 rfl rfl rfl rfl rfl (fun hg130 => QV.qo (q_not rfl (gu hg130 rfl))) ?_
        refine va rfl rfl rfl (q_pick rfl rfl (pk_or' (g := (decide (512 < n_112))) (y := (!z128)))) ?_
        refine WR.nil ?_
        change WC _ _ _ _ _ _
        refine WC.cif h (by kernel_rfl) (fun hb131 h => ?_) (fun hb131 h => ?_)
        · skip
          refine WC.rs ?_
          refine va rfl rfl rfl (q_assign (v := .bool true) rfl (by kernel_rfl)) ?_
          refine WR.nil ?_
          change WC _ _ _ _ _ _
          refine WC.ret ?_
          intro w hw
          obtain rfl := Option.some.inj h
          subst hF
          exact ⟨by kernel_rfl, hw.fr⟩
        · skip
          refine WC.skip ?_
          change WC _ _ _ _ _ _
          refine WC.rs ?_
          refine va rfl rfl rfl (q_move (v := .slice A54 list_53.length c55) rfl (by kernel_rfl)) ?_
          refine va rfl rfl rfl (q_fl 1 fld_52_1 rfl rfl rfl) ?_
          refine va rfl rfl rfl (q_ldl (i := 4) (v := .int .i64 m.w_) rfl rfl Try.isAgg3 rfl rfl) ?_
          have hc136 := ho57.capz
          intro w hw; obtain ⟨Γ132, hw, hl133, hr134⟩ := hw.seal (i := 0) rfl; have hs135 := ho57.sl hl133 hr134
          refine WR.here (C := CC F Γ132 [[], row61, row66, [(g2, .cells #[.int .i64 v_.dot.s, .int .i64 v_.dot.n, .slice Av_2 v_.past.length cv_2, .bool v_.gone, .string v_.val] 58 (0, 0))], [(g1, .cells #[.int .i64 m.n, .int .i64 m.w_, .int .i64 m.r, .slice Am3 m.took.length cm3, .slice Am4 m.asked.length cm4] 52 (0, 0))]]) ?_ hw
          clear hw
          obtain ⟨z137, hz138, h⟩ := bnd h
          refine e_call (is := []) rfl rfl (call_run Try.call7 rfl rfl (by kernel_rfl)) rfl (fun w hp => t_quorum_NewWrite hs135 hc136 m.w_ hm.2.1 hp hz138) ?_
          rintro Γ139 U141 v142 hl140 ⟨g143, row144, rfl, rfl, hr145, hr146, _⟩
          change WR _ _ _ (CC F Γ139 [row144, [], row61, row66, [(g2, .cells #[.int .i64 v_.dot.s, .int .i64 v_.dot.n, .slice Av_2 v_.past.length cv_2, .bool v_.gone, .string v_.val] 58 (0, 0))], [(g1, .cells #[.int .i64 m.n, .int .i64 m.w_, .int .i64 m.r, .slice Am3 m.took.length cm3, .slice Am4 m.asked.length cm4] 52 (0, 0))]]) _ _ (upd _ 146 (.tuple #[optp z137.1 g143, .int .i64 z137.2]))
          refine va rfl rfl rfl (q_move (v := .tuple #[optp z137.1 g143, .int .i64 z137.2]) rfl (by kernel_rfl)) ?_
          refine va rfl rfl rfl (q_extract (v := optp z137.1 g143) rfl rfl rfl) ?_
          refine va rfl rfl rfl (q_extract (v := .int .i64 z137.2) rfl rfl rfl) ?_
          refine va rfl rfl rfl (q_assign (v := optp z137.1 g143) rfl (by kernel_rfl)) ?_
          refine va rfl rfl rfl (q_assign (v := .int .i64 z137.2) rfl (by kernel_rfl)) ?_
          refine WR.nil ?_
          change WC _ _ _ _ _ _
          refine WC.rs ?_
          refine va rfl rfl rfl (q_move (v := .slice A54 list_53.length c55) rfl (by kernel_rfl)) ?_
          refine va rfl rfl rfl (q_fl 2 fld_52_2 rfl rfl rfl) ?_
          refine va rfl rfl rfl (q_ldl (i := 5) (v := .int .i64 m.r) rfl rfl Try.isAgg3 rfl rfl) ?_
          obtain ⟨z147, hz148, h⟩ := bnd h
          refine e_call (is := []) rfl rfl (call_run Try.call18 rfl rfl (by kernel_rfl)) rfl (fun w hp => t_quorum_NewRead (hs135.mono hl140) hc136 m.r hm.2.2.1 hp hz148) ?_
          rintro Γ149 U151 v152 hl150 ⟨g153, row154, rfl, rfl, hr155, hr156, _⟩
          change WR _ _ _ (CC F Γ149 [row154, row144, [], row61, row66, [(g2, .cells #[.int .i64 v_.dot.s, .int .i64 v_.dot.n, .slice Av_2 v_.past.length cv_2, .bool v_.gone, .string v_.val] 58 (0, 0))], [(g1, .cells #[.int .i64 m.n, .int .i64 m.w_, .int .i64 m.r, .slice Am3 m.took.length cm3, .slice Am4 m.asked.length cm4] 52 (0, 0))]]) _ _ (upd _ 153 (.tuple #[optp z147.1 g153, .int .i64 z147.2]))
          refine va rfl rfl rfl (q_move (v := .tuple #[optp z147.1 g153, .int .i64 z147.2]) rfl (by kernel_rfl)) ?_
          refine va rfl rfl rfl (q_extract (v := optp z147.1 g153) rfl rfl rfl) ?_
          refine va rfl rfl rfl (q_extract (v := .int .i64 z147.2) rfl rfl rfl) ?_
          refine va rfl rfl rfl (q_assign (v := optp z147.1 g153) rfl (by kernel_rfl)) ?_
          refine va rfl rfl rfl (q_assign (v := .int .i64 z147.2) rfl (by kernel_rfl)) ?_
          refine WR.nil ?_
          change WC _ _ _ _ _ _
          refine WC.seq ?_
          refine WC.rs ?_
          refine va rfl rfl rfl (q_move (v := optp z137.1 g143) rfl (by kernel_rfl)) ?_
          refine va rfl rfl rfl (q_opt_eql Try.underlying23 rfl rfl rfl) ?_
          refine va rfl rfl rfl (q_move (v := .bool (Option.isNone z137.1)) rfl (by kernel_rfl)) ?_
          refine vg0 rfl rfl rfl rfl rfl (fun hg157 => QV.qo (q_move (v := optp z147.1 g153) rfl (by kernel_rfl))) ?_
          refine vg0 rfl rfl rfl rfl rfl (fun hg158 => QV.qo (q_opt_eql Try.underlying36 rfl (gu hg158 rfl) rfl)) ?_
          refine va rfl rfl rfl (q_pick rfl rfl (pk_or' (g := (Option.isNone z137.1)) (y := (Option.isNone z147.1)))) ?_
          refine va rfl rfl rfl (q_move (v := .bool ((Option.isNone z137.1) || (Option.isNone z147.1))) rfl (by kernel_rfl)) ?_
          refine vg0 rfl rfl rfl rfl rfl (fun hg159 => QV.qo (q_move (v := .int .i64 z137.2) rfl (by kernel_rfl))) ?_
          refine vg0 rfl rfl rfl rfl rfl (fun hg160 => QV.qo (q_neq rfl (gu hg160 rfl) rfl)) ?_
          refine va rfl rfl rfl (q_pick rfl rfl (pk_or' (g := ((Option.isNone z137.1) || (Option.isNone z147.1))) (y := (z137.2 != 0)))) ?_
          refine va rfl rfl rfl (q_move (v := .bool (((Option.isNone z137.1) || (Option.isNone z147.1)) || (z137.2 != 0))) rfl (by kernel_rfl)) ?_
          refine vg0 rfl rfl rfl rfl rfl (fun hg161 => QV.qo (q_move (v := .int .i64 z147.2) rfl (by kernel_rfl))) ?_
          refine vg0 rfl rfl rfl rfl rfl (fun hg162 => QV.qo (q_neq rfl (gu hg162 rfl) rfl)) ?_
          refine va rfl rfl rfl (q_pick rfl rfl (pk_or' (g := (((Option.isNone z137.1) || (Option.isNone z147.1)) || (z137.2 != 0))) (y := (z147.2 != 0)))) ?_
          refine WR.nil ?_
          change WC _ _ _ _ _ _
          refine WC.cif h (by kernel_rfl) (fun hb163 h => ?_) (fun hb163 h => ?_)
          · skip
            refine WC.rs ?_
            refine va rfl rfl rfl (q_assign (v := .bool false) rfl (by kernel_rfl)) ?_
            refine WR.nil ?_
            change WC _ _ _ _ _ _
            refine WC.ret ?_
            intro w hw
            obtain rfl := Option.some.inj h
            subst hF
            exact ⟨by kernel_rfl, hw.fr⟩
          · skip
            obtain ⟨z164, hz165, h⟩ := bnd h
            have ho166 := optob_some hr155 hz165
            obtain ⟨z167, hz168, h⟩ := bnd h
            have ho169 := optob_some (optob_mono hr145 (fun _ h => h.mono hl150)) hz168
            refine WC.skip ?_
            change WC _ _ _ _ _ _
            refine WC.seq ?_
            refine WC.rs ?_
            refine va rfl rfl rfl (q_assign (v := .int .i64 0) rfl (by kernel_rfl)) ?_
            refine WR.nil ?_
            change WC _ _ _ _ _ _
            refine WC.block ?_
            refine WC.forI h (fun (i180 : Nat) (s : Oquorum_asking_bool × (List (List Ver))) σ w => match s with | (o172, x175) => ∃ (Γ170 : Gh), ∃ (row173 : Rowb), ∃ (row176 : Rowb), slots σ [(3, .pointer (some ⟨g1, 0, none⟩)), (5, .pointer (some ⟨g2, 0, none⟩)), (8, .pointer (some ⟨g43, 0, none⟩)), (13, optp z137.1 g143), (15, optp z147.1 g153), (17, .int .i64 ((i180 : Nat) : Int))] ∧ CC F Γ170 [row154, row173, row176, [(g2, .cells #[.int .i64 v_.dot.s, .int .i64 v_.dot.n, .slice Av_2 v_.past.length cv_2, .bool v_.gone, .string v_.val] 58 (0, 0))], [(g1, .cells #[.int .i64 m.n, .int .i64 m.w_, .int .i64 m.r, .slice Am3 m.took.length cm3, .slice Am4 m.asked.length cm4] 52 (0, 0))]] w ∧ Gh.le Γ149 Γ170 ∧ Oquorum_asking_bool.ob 72 Γ170 g143 row173 o172 ∧ x175.length = 9 ∧ Own (slT verT) Γ170 60 row176 (some ⟨g43, 0, none⟩) 9 x175 ∧ True) ?_ ?_
            · skip
              intro w hw
              exact ⟨Γ149, row144, row66, (sl_ (by kernel_rfl)), (hw.only (is := [0, 0, 2, 2, 2]) rfl), (Gh.refl _), ho169, hn68, (ho67.mono ((hl133.trans hl140).trans hl150)), trivial⟩
            rintro f179 i180 ⟨o172, x175⟩ σ w hi181 hlt182 hge183 ⟨Γ170, row173, row176, hsl, hw, hl171, ho174, hn178, ho177, -⟩
            refine Wpt.slots hsl ?_
            refine WC.here (C := CC F Γ170 [row154, row173, row176, [(g2, .cells #[.int .i64 v_.dot.s, .int .i64 v_.dot.n, .slice Av_2 v_.past.length cv_2, .bool v_.gone, .string v_.val] 58 (0, 0))], [(g1, .cells #[.int .i64 m.n, .int .i64 m.w_, .int .i64 m.r, .slice Am3 m.took.length cm3, .slice Am4 m.asked.length cm4] 52 (0, 0))]]) ?_ hw
            clear hw hsl
            refine WC.seq ?_
            refine WC.rs ?_
            refine va rfl rfl rfl (q_move (v := .int .i64 ((i180 : Nat) : Int)) rfl (by kernel_rfl)) ?_
            refine va rfl rfl rfl (q_fl 3 fld_52_3 rfl rfl rfl) ?_
            refine va rfl rfl rfl (q_ldl (i := 4) (v := .slice Am3 m.took.length cm3) rfl rfl Try.isAgg22 rfl rfl) ?_
            refine va rfl rfl rfl (q_len_slice rfl Try.underlying22 rfl) ?_
            refine va rfl rfl rfl (q_lss rfl rfl rfl) ?_
            refine WR.nil ?_
            change WC _ _ _ _ _ _
            refine WC.cond (b := (decide (((i180 : Nat) : Int) < ((m.took.length : Nat) : Int)))) (by kernel_rfl) (fun hb184 => ?_) (fun hb184 => ?_)
            · skip
              have hl185 := ilt hb184
              have h := hlt182 hl185
              refine WC.skip ?_
              change WC _ _ _ _ _ _
              refine WC.cut (fun σ w => ∃ (o188 : Oquorum_asking_bool), ∃ (x191 : List (List Ver)), ∃ (Γ186 : Gh), ∃ (row189 : Rowb), ∃ (row192 : Rowb), m_firthlaw16_QuorumMeets_j17 f179 o188 x191 = some r ∧ slots σ [(3, .pointer (some ⟨g1, 0, none⟩)), (5, .pointer (some ⟨g2, 0, none⟩)), (8, .pointer (some ⟨g43, 0, none⟩)), (13, optp z137.1 g143), (15, optp z147.1 g153), (17, .int .i64 ((i180 : Nat) : Int))] ∧ CC F Γ186 [row154, row189, row192, [(g2, .cells #[.int .i64 v_.dot.s, .int .i64 v_.dot.n, .slice Av_2 v_.past.length cv_2, .bool v_.gone, .string v_.val] 58 (0, 0))], [(g1, .cells #[.int .i64 m.n, .int .i64 m.w_, .int .i64 m.r, .slice Am3 m.took.length cm3, .slice Am4 m.asked.length cm4] 52 (0, 0))]] w ∧ Gh.le Γ170 Γ186 ∧ Oquorum_asking_bool.ob 72 Γ186 g143 row189 o188 ∧ x191.length = 9 ∧ Own (slT verT) Γ186 60 row192 (some ⟨g43, 0, none⟩) 9 x191 ∧ True) ?_ ?_
              · skip
                refine WC.block ?_
                refine WC.rs ?_
                refine va rfl rfl rfl (q_fl 3 fld_52_3 rfl rfl rfl) ?_
                refine va rfl rfl rfl (q_ldl (i := 4) (v := .slice Am3 m.took.length cm3) rfl rfl Try.isAgg22 rfl rfl) ?_
                refine va rfl rfl rfl (q_move (v := .int .i64 ((i180 : Nat) : Int)) rfl (by kernel_rfl)) ?_
                refine va rfl rfl rfl (q_ixn (i := i180) Try.underlying22 Try.sizeOf3 rfl rfl rfl hl185 ((hm.2.2.2.1.2.mono ((((hl48.trans hl133).trans hl140).trans hl150).trans hl171)).some_ hl185)) ?_
                refine va rfl rfl rfl (q_ld (c := 0) (v := .int .i64 (gt m.took i180)) ((hm.2.2.2.1.2.mono ((((hl48.trans hl133).trans hl140).trans hl150).trans hl171)).intT_at hl185).2 rfl Try.isAgg3 rfl rfl) ?_
                refine va rfl rfl rfl (q_assign (v := .int .i64 (gt m.took i180)) rfl (by kernel_rfl)) ?_
                refine WR.nil ?_
                change WC _ _ _ _ _ _
                refine WC.seq ?_
                refine WC.rs ?_
                refine va rfl rfl rfl (q_move (v := .int .i64 (gt m.took i180)) rfl (by kernel_rfl)) ?_
                refine va rfl rfl rfl (q_lss rfl rfl rfl) ?_
                refine va rfl rfl rfl (q_move (v := .bool (decide ((gt m.took i180) < 1))) rfl (by kernel_rfl)) ?_
                refine vg0 rfl rfl rfl rfl rfl (fun hg195 => QV.qo (q_move (v := .int .i64 (gt m.took i180)) rfl (by kernel_rfl))) ?_
                refine vg0 rfl rfl rfl rfl rfl (fun hg196 => QV.qo (q_fl 0 fld_52_0 rfl rfl rfl)) ?_
                refine vg0 rfl rfl rfl rfl rfl (fun hg197 => QV.qo (q_ldl (i := 4) (v := .int .i64 m.n) rfl rfl Try.isAgg3 (gu hg197 rfl) rfl)) ?_
                refine vg0 rfl rfl rfl rfl rfl (fun hg198 => QV.qo (q_gtr rfl (gu hg198 rfl) (gu hg198 rfl))) ?_
                refine va rfl rfl rfl (q_pick rfl rfl (pk_or' (g := (decide ((gt m.took i180) < 1))) (y := (decide (m.n < (gt m.took i180)))))) ?_
                refine WR.nil ?_
                change WC _ _ _ _ _ _
                refine WC.cif h (by kernel_rfl) (fun hb199 h => ?_) (fun hb199 h => ?_)
                · skip
                  refine WC.exit ?_
                  intro w hw
                  exact ⟨o172, x175, Γ170, row173, row176, h, (sl_ (by kernel_rfl)), hw, (Gh.refl _), ho174, hn178, ho177, trivial⟩
                · skip
                  refine WC.skip ?_
                  change WC _ _ _ _ _ _
                  refine WC.cut (fun σ w => ∃ (l_202 : List Ver), ∃ (g_207 : Int), ∃ (Γ200 : Gh), ∃ (A203 : Option Addr), ∃ (c204 : Nat), m_firthlaw16_QuorumMeets_j19 m o172 x175 f179 i180 l_202 g_207 = some r ∧ slots σ [(3, .pointer (some ⟨g1, 0, none⟩)), (5, .pointer (some ⟨g2, 0, none⟩)), (8, .pointer (some ⟨g43, 0, none⟩)), (13, optp z137.1 g143), (15, optp z147.1 g153), (17, .int .i64 ((i180 : Nat) : Int)), (18, .int .i64 (gt m.took i180)), (19, .slice A203 l_202.length c204), (20, .int .i64 g_207)] ∧ CC F Γ200 [row154, row173, row176, [(g2, .cells #[.int .i64 v_.dot.s, .int .i64 v_.dot.n, .slice Av_2 v_.past.length cv_2, .bool v_.gone, .string v_.val] 58 (0, 0))], [(g1, .cells #[.int .i64 m.n, .int .i64 m.w_, .int .i64 m.r, .slice Am3 m.took.length cm3, .slice Am4 m.asked.length cm4] 52 (0, 0))]] w ∧ Gh.le Γ170 Γ200 ∧ l_202.length ≤ c204 ∧ Sl verT Γ200 A203 l_202 ∧ I64 g_207 ∧ True) ?_ ?_
                  · skip
                    intro w hw; have h0209 := hw.le
                    refine WC.here (C := CC F Γ170 [row154, row173, row176, [(g2, .cells #[.int .i64 v_.dot.s, .int .i64 v_.dot.n, .slice Av_2 v_.past.length cv_2, .bool v_.gone, .string v_.val] 58 (0, 0))], [(g1, .cells #[.int .i64 m.n, .int .i64 m.w_, .int .i64 m.r, .slice Am3 m.took.length cm3, .slice Am4 m.asked.length cm4] 52 (0, 0))]]) ?_ hw; clear hw
                    refine WC.held (CC F Γ170 [[(g2, .cells #[.int .i64 v_.dot.s, .int .i64 v_.dot.n, .slice Av_2 v_.past.length cv_2, .bool v_.gone, .string v_.val] 58 (0, 0))], [(g1, .cells #[.int .i64 m.n, .int .i64 m.w_, .int .i64 m.r, .slice Am3 m.took.length cm3, .slice Am4 m.asked.length cm4] 52 (0, 0))]]) (by kernel_rfl) (fun w hw => hw.drawn _) ?_
                    change WH _ _ _ _ (CC F Γ170 [row154, row173, row176, [(g2, .cells #[.int .i64 v_.dot.s, .int .i64 v_.dot.n, .slice Av_2 v_.past.length cv_2, .bool v_.gone, .string v_.val] 58 (0, 0))], [(g1, .cells #[.int .i64 m.n, .int .i64 m.w_, .int .i64 m.r, .slice Am3 m.took.length cm3, .slice Am4 m.asked.length cm4] 52 (0, 0))]]) _ 11 #[false, false, false, false, false, false, false, false, false, false, false] _
                    refine ht (i := 0) rfl (by kernel_rfl) rfl rfl rfl (fun w hw => hw.back (Gh.refl _) h0209 (.cons _ (.cons _ (.cons _ (.cons_cons _ (.cons_cons _ .slnil)))))) (q_move (v := .int .i64 (gt m.took i180)) rfl (by kernel_rfl)) ?_
                    refine ht (i := 3) rfl (by kernel_rfl) rfl rfl rfl (fun w hw => hw.back (Gh.refl _) h0209 (.cons _ (.cons _ (.cons _ (.cons_cons _ (.cons_cons _ .slnil)))))) (q_ldla (i := 0) (vs := [.int .i64 v_.dot.s, .int .i64 v_.dot.n, .slice Av_2 v_.past.length cv_2, .bool v_.gone, .string v_.val]) rfl rfl Try.isAgg58 Try.sizeOf58 rfl rfl) ?_
                    obtain ⟨hk210, h⟩ := chk_some h
                    refine WH.each (l := [1, 4]) (by kernel_rfl) (by simp) ?_
                    intro i hi; simp only [List.mem_cons, List.not_mem_nil, or_false] at hi
                    rcases hi with rfl | rfl
                    · refine ⟨_, rfl, ?_⟩
                      refine va rfl rfl rfl (q_ixao Try.underlying60 Try.sizeOf40 rfl rfl rfl hk210) ?_
                      refine WR.nil ?_
                      refine WH.next (fun w hw => hw.back (Gh.refl _) h0209 (.cons _ (.cons _ (.cons _ (.cons_cons _ (.cons_cons _ .slnil)))))) ?_
                      refine WH.each (l := [2, 4]) (by kernel_rfl) (by simp) ?_
                      intro i hi; simp only [List.mem_cons, List.not_mem_nil, or_false] at hi
                      rcases hi with rfl | rfl
                      · refine ⟨_, rfl, ?_⟩
                        obtain ⟨A211, c212, hx213⟩ := ho177.slT_at ((gt m.took i180).toNat)
                        refine va rfl rfl rfl (q_ldo (c := 0) (v := .slice A211 (gt x175 ((gt m.took i180).toNat)).length c212) (i := 2) rfl (hx213 (ltq (inb_lt hk210) hn178.symm)).2 rfl Try.isAgg40 rfl rfl) ?_
                        refine WR.nil ?_
                        refine WH.next (fun w hw => hw.back (Gh.refl _) h0209 (.cons _ (.cons _ (.cons _ (.cons_cons _ (.cons_cons _ .slnil)))))) ?_
                        refine WH.lone (i := 4) (by kernel_rfl) rfl ?_
                        refine e_buildSlice (cs := #[.int .i64 v_.dot.s, .int .i64 v_.dot.n, .slice Av_2 v_.past.length cv_2, .bool v_.gone, .string v_.val]) (e := 58) rfl rfl rfl rfl (fun w => by kernel_rfl) ?_
                        intro g214
                        refine WR.nil ?_
                        refine WH.next (fun w hw => hw.back (Gh.refl _) h0209 (.cons _ (.cons _ (.cons _ (.cons _ (.cons_cons _ (.cons_cons _ .slnil))))))) ?_
                        refine WH.lone (i := 5) (by kernel_rfl) rfl ?_
                        have ho215 : Own verT Γ170 58 [(g214, .cells #[.int .i64 v_.dot.s, .int .i64 v_.dot.n, .slice Av_2 v_.past.length cv_2, .bool v_.gone, .string v_.val] 58 (0, 0))] (some ⟨g214, 0, none⟩) 1 [v_] := Own.of_block (T := verT) (ys := [v_]) [[.int .i64 v_.dot.s, .int .i64 v_.dot.n, .slice Av_2 v_.past.length cv_2, .bool v_.gone, .string v_.val]] rfl rfl (show 1 ≤ lim by decide) (fun i h => match i, h with | 0, _ => (show Ty.rd verT Γ170 [.int .i64 v_.dot.s, .int .i64 v_.dot.n, .slice Av_2 v_.past.length cv_2, .bool v_.gone, .string v_.val] v_ from ⟨Av_2, cv_2, rfl, (Ver.fits_mono hv_ ((((hl48.trans hl133).trans hl140).trans hl150).trans hl171))⟩))
                        have hc220 := ho215.capz
                        intro w hw; obtain ⟨Γ216, hw, hl217, hr218⟩ := hw.seal (i := 0) rfl; have hs219 := ho215.sl hl217 hr218
                        refine WR.here (C := CC F Γ216 [[], row154, row173, row176, [(g2, .cells #[.int .i64 v_.dot.s, .int .i64 v_.dot.n, .slice Av_2 v_.past.length cv_2, .bool v_.gone, .string v_.val] 58 (0, 0))], [(g1, .cells #[.int .i64 m.n, .int .i64 m.w_, .int .i64 m.r, .slice Am3 m.took.length cm3, .slice Am4 m.asked.length cm4] 52 (0, 0))]]) ?_ hw
                        clear hw
                        obtain ⟨z221, hz222, h⟩ := bnd h
                        refine e_call (is := []) rfl rfl (call_run Try.call31 rfl rfl (by kernel_rfl)) rfl (fun w hp => t_firthref05_Merge ((hx213 (ltq (inb_lt hk210) hn178.symm)).1.2.mono hl217) (hx213 (ltq (inb_lt hk210) hn178.symm)).1.1 hs219 hc220 hp hz222) ?_
                        rintro Γ223 U225 v226 hl224 ⟨A227, c228, rfl, rfl, hc230, hr229, hr231, _⟩
                        change WR _ _ _ (CC F Γ223 [[], row154, row173, row176, [(g2, .cells #[.int .i64 v_.dot.s, .int .i64 v_.dot.n, .slice Av_2 v_.past.length cv_2, .bool v_.gone, .string v_.val] 58 (0, 0))], [(g1, .cells #[.int .i64 m.n, .int .i64 m.w_, .int .i64 m.r, .slice Am3 m.took.length cm3, .slice Am4 m.asked.length cm4] 52 (0, 0))]]) _ _ (upd _ 196 (.tuple #[.slice A227 z221.1.length c228, .int .i64 z221.2]))
                        refine WR.nil ?_
                        refine WH.next (fun w hw => hw.back (hl217.trans hl224) h0209 (.cons _ (.cons _ (.cons _ (.cons _ (.cons_cons _ (.cons_cons _ .slnil))))))) ?_
                        refine ht (i := 6) rfl (by kernel_rfl) rfl rfl rfl (fun w hw => hw.back (hl217.trans hl224) h0209 (.cons _ (.cons _ (.cons _ (.cons _ (.cons_cons _ (.cons_cons _ .slnil))))))) (q_move (v := .tuple #[.slice A227 z221.1.length c228, .int .i64 z221.2]) rfl (by kernel_rfl)) ?_
                        refine ht (i := 7) rfl (by kernel_rfl) rfl rfl rfl (fun w hw => hw.back (hl217.trans hl224) h0209 (.cons _ (.cons _ (.cons _ (.cons _ (.cons_cons _ (.cons_cons _ .slnil))))))) (q_extract (v := .slice A227 z221.1.length c228) rfl rfl rfl) ?_
                        refine ht (i := 8) rfl (by kernel_rfl) rfl rfl rfl (fun w hw => hw.back (hl217.trans hl224) h0209 (.cons _ (.cons _ (.cons _ (.cons _ (.cons_cons _ (.cons_cons _ .slnil))))))) (q_extract (v := .int .i64 z221.2) rfl rfl rfl) ?_
                        refine ht (i := 9) rfl (by kernel_rfl) rfl rfl rfl (fun w hw => hw.back (hl217.trans hl224) h0209 (.cons _ (.cons _ (.cons _ (.cons _ (.cons_cons _ (.cons_cons _ .slnil))))))) (q_assign (v := .slice A227 z221.1.length c228) rfl (by kernel_rfl)) ?_
                        refine ht (i := 10) rfl (by kernel_rfl) rfl rfl rfl (fun w hw => hw.back (hl217.trans hl224) h0209 (.cons _ (.cons _ (.cons _ (.cons _ (.cons_cons _ (.cons_cons _ .slnil))))))) (q_assign (v := .int .i64 z221.2) rfl (by kernel_rfl)) ?_
                        refine WH.done (by kernel_rfl) ?_
                        intro w hw
                        exact ⟨z221.1, z221.2, Γ223, A227, c228, h, (sl_ (by kernel_rfl)), (hw.only (is := [1, 1, 1, 1, 1]) rfl), (hl217.trans hl224), hc230, hr229, hr231, trivial⟩
                      · refine ⟨_, rfl, ?_⟩
                        refine e_buildSlice (cs := #[.int .i64 v_.dot.s, .int .i64 v_.dot.n, .slice Av_2 v_.past.length cv_2, .bool v_.gone, .string v_.val]) (e := 58) rfl rfl rfl rfl (fun w => by kernel_rfl) ?_
                        intro g211
                        refine WR.nil ?_
                        refine WH.next (fun w hw => hw.back (Gh.refl _) h0209 (.cons _ (.cons _ (.cons _ (.cons _ (.cons_cons _ (.cons_cons _ .slnil))))))) ?_
                        refine WH.lone (i := 2) (by kernel_rfl) rfl ?_
                        obtain ⟨A212, c213, hx214⟩ := ho177.slT_at ((gt m.took i180).toNat)
                        refine va rfl rfl rfl (q_ldo (c := 0) (v := .slice A212 (gt x175 ((gt m.took i180).toNat)).length c213) (i := 3) rfl (hx214 (ltq (inb_lt hk210) hn178.symm)).2 rfl Try.isAgg40 rfl rfl) ?_
                        refine WR.nil ?_
                        refine WH.next (fun w hw => hw.back (Gh.refl _) h0209 (.cons _ (.cons _ (.cons _ (.cons _ (.cons_cons _ (.cons_cons _ .slnil))))))) ?_
                        refine WH.lone (i := 5) (by kernel_rfl) rfl ?_
                        have ho215 : Own verT Γ170 58 [(g211, .cells #[.int .i64 v_.dot.s, .int .i64 v_.dot.n, .slice Av_2 v_.past.length cv_2, .bool v_.gone, .string v_.val] 58 (0, 0))] (some ⟨g211, 0, none⟩) 1 [v_] := Own.of_block (T := verT) (ys := [v_]) [[.int .i64 v_.dot.s, .int .i64 v_.dot.n, .slice Av_2 v_.past.length cv_2, .bool v_.gone, .string v_.val]] rfl rfl (show 1 ≤ lim by decide) (fun i h => match i, h with | 0, _ => (show Ty.rd verT Γ170 [.int .i64 v_.dot.s, .int .i64 v_.dot.n, .slice Av_2 v_.past.length cv_2, .bool v_.gone, .string v_.val] v_ from ⟨Av_2, cv_2, rfl, (Ver.fits_mono hv_ ((((hl48.trans hl133).trans hl140).trans hl150).trans hl171))⟩))
                        have hc220 := ho215.capz
                        intro w hw; obtain ⟨Γ216, hw, hl217, hr218⟩ := hw.seal (i := 0) rfl; have hs219 := ho215.sl hl217 hr218
                        refine WR.here (C := CC F Γ216 [[], row154, row173, row176, [(g2, .cells #[.int .i64 v_.dot.s, .int .i64 v_.dot.n, .slice Av_2 v_.past.length cv_2, .bool v_.gone, .string v_.val] 58 (0, 0))], [(g1, .cells #[.int .i64 m.n, .int .i64 m.w_, .int .i64 m.r, .slice Am3 m.took.length cm3, .slice Am4 m.asked.length cm4] 52 (0, 0))]]) ?_ hw
                        clear hw
                        obtain ⟨z221, hz222, h⟩ := bnd h
                        refine e_call (is := []) rfl rfl (call_run Try.call31 rfl rfl (by kernel_rfl)) rfl (fun w hp => t_firthref05_Merge ((hx214 (ltq (inb_lt hk210) hn178.symm)).1.2.mono hl217) (hx214 (ltq (inb_lt hk210) hn178.symm)).1.1 hs219 hc220 hp hz222) ?_
                        rintro Γ223 U225 v226 hl224 ⟨A227, c228, rfl, rfl, hc230, hr229, hr231, _⟩
                        change WR _ _ _ (CC F Γ223 [[], row154, row173, row176, [(g2, .cells #[.int .i64 v_.dot.s, .int .i64 v_.dot.n, .slice Av_2 v_.past.length cv_2, .bool v_.gone, .string v_.val] 58 (0, 0))], [(g1, .cells #[.int .i64 m.n, .int .i64 m.w_, .int .i64 m.r, .slice Am3 m.took.length cm3, .slice Am4 m.asked.length cm4] 52 (0, 0))]]) _ _ (upd _ 196 (.tuple #[.slice A227 z221.1.length c228, .int .i64 z221.2]))
                        refine WR.nil ?_
                        refine WH.next (fun w hw => hw.back (hl217.trans hl224) h0209 (.cons _ (.cons _ (.cons _ (.cons _ (.cons_cons _ (.cons_cons _ .slnil))))))) ?_
                        refine ht (i := 6) rfl (by kernel_rfl) rfl rfl rfl (fun w hw => hw.back (hl217.trans hl224) h0209 (.cons _ (.cons _ (.cons _ (.cons _ (.cons_cons _ (.cons_cons _ .slnil))))))) (q_move (v := .tuple #[.slice A227 z221.1.length c228, .int .i64 z221.2]) rfl (by kernel_rfl)) ?_
                        refine ht (i := 7) rfl (by kernel_rfl) rfl rfl rfl (fun w hw => hw.back (hl217.trans hl224) h0209 (.cons _ (.cons _ (.cons _ (.cons _ (.cons_cons _ (.cons_cons _ .slnil))))))) (q_extract (v := .slice A227 z221.1.length c228) rfl rfl rfl) ?_
                        refine ht (i := 8) rfl (by kernel_rfl) rfl rfl rfl (fun w hw => hw.back (hl217.trans hl224) h0209 (.cons _ (.cons _ (.cons _ (.cons _ (.cons_cons _ (.cons_cons _ .slnil))))))) (q_extract (v := .int .i64 z221.2) rfl rfl rfl) ?_
                        refine ht (i := 9) rfl (by kernel_rfl) rfl rfl rfl (fun w hw => hw.back (hl217.trans hl224) h0209 (.cons _ (.cons _ (.cons _ (.cons _ (.cons_cons _ (.cons_cons _ .slnil))))))) (q_assign (v := .slice A227 z221.1.length c228) rfl (by kernel_rfl)) ?_
                        refine ht (i := 10) rfl (by kernel_rfl) rfl rfl rfl (fun w hw => hw.back (hl217.trans hl224) h0209 (.cons _ (.cons _ (.cons _ (.cons _ (.cons_cons _ (.cons_cons _ .slnil))))))) (q_assign (v := .int .i64 z221.2) rfl (by kernel_rfl)) ?_
                        refine WH.done (by kernel_rfl) ?_
                        intro w hw
                        exact ⟨z221.1, z221.2, Γ223, A227, c228, h, (sl_ (by kernel_rfl)), (hw.only (is := [1, 1, 1, 1, 1]) rfl), (hl217.trans hl224), hc230, hr229, hr231, trivial⟩
                    · refine ⟨_, rfl, ?_⟩
                      refine e_buildSlice (cs := #[.int .i64 v_.dot.s, .int .i64 v_.dot.n, .slice Av_2 v_.past.length cv_2, .bool v_.gone, .string v_.val]) (e := 58) rfl rfl rfl rfl (fun w => by kernel_rfl) ?_
                      intro g211
                      refine WR.nil ?_
                      refine WH.next (fun w hw => hw.back (Gh.refl _) h0209 (.cons _ (.cons _ (.cons _ (.cons _ (.cons_cons _ (.cons_cons _ .slnil))))))) ?_
                      refine WH.lone (i := 1) (by kernel_rfl) rfl ?_
                      refine va rfl rfl rfl (q_ixao Try.underlying60 Try.sizeOf40 rfl rfl rfl hk210) ?_
                      refine WR.nil ?_
                      refine WH.next (fun w hw => hw.back (Gh.refl _) h0209 (.cons _ (.cons _ (.cons _ (.cons _ (.cons_cons _ (.cons_cons _ .slnil))))))) ?_
                      refine WH.lone (i := 2) (by kernel_rfl) rfl ?_
                      obtain ⟨A212, c213, hx214⟩ := ho177.slT_at ((gt m.took i180).toNat)
                      refine va rfl rfl rfl (q_ldo (c := 0) (v := .slice A212 (gt x175 ((gt m.took i180).toNat)).length c213) (i := 3) rfl (hx214 (ltq (inb_lt hk210) hn178.symm)).2 rfl Try.isAgg40 rfl rfl) ?_
                      refine WR.nil ?_
                      refine WH.next (fun w hw => hw.back (Gh.refl _) h0209 (.cons _ (.cons _ (.cons _ (.cons _ (.cons_cons _ (.cons_cons _ .slnil))))))) ?_
                      refine WH.lone (i := 5) (by kernel_rfl) rfl ?_
                      have ho215 : Own verT Γ170 58 [(g211, .cells #[.int .i64 v_.dot.s, .int .i64 v_.dot.n, .slice Av_2 v_.past.length cv_2, .bool v_.gone, .string v_.val] 58 (0, 0))] (some ⟨g211, 0, none⟩) 1 [v_] := Own.of_block (T := verT) (ys := [v_]) [[.int .i64 v_.dot.s, .int .i64 v_.dot.n, .slice Av_2 v_.past.length cv_2, .bool v_.gone, .string v_.val]] rfl rfl (show 1 ≤ lim by decide) (fun i h => match i, h with | 0, _ => (show Ty.rd verT Γ170 [.int .i64 v_.dot.s, .int .i64 v_.dot.n, .slice Av_2 v_.past.length cv_2, .bool v_.gone, .string v_.val] v_ from ⟨Av_2, cv_2, rfl, (Ver.fits_mono hv_ ((((hl48.trans hl133).trans hl140).trans hl150).trans hl171))⟩))
                      have hc220 := ho215.capz
                      intro w hw; obtain ⟨Γ216, hw, hl217, hr218⟩ := hw.seal (i := 0) rfl; have hs219 := ho215.sl hl217 hr218
                      refine WR.here (C := CC F Γ216 [[], row154, row173, row176, [(g2, .cells #[.int .i64 v_.dot.s, .int .i64 v_.dot.n, .slice Av_2 v_.past.length cv_2, .bool v_.gone, .string v_.val] 58 (0, 0))], [(g1, .cells #[.int .i64 m.n, .int .i64 m.w_, .int .i64 m.r, .slice Am3 m.took.length cm3, .slice Am4 m.asked.length cm4] 52 (0, 0))]]) ?_ hw
                      clear hw
                      obtain ⟨z221, hz222, h⟩ := bnd h
                      refine e_call (is := []) rfl rfl (call_run Try.call31 rfl rfl (by kernel_rfl)) rfl (fun w hp => t_firthref05_Merge ((hx214 (ltq (inb_lt hk210) hn178.symm)).1.2.mono hl217) (hx214 (ltq (inb_lt hk210) hn178.symm)).1.1 hs219 hc220 hp hz222) ?_
                      rintro Γ223 U225 v226 hl224 ⟨A227, c228, rfl, rfl, hc230, hr229, hr231, _⟩
                      change WR _ _ _ (CC F Γ223 [[], row154, row173, row176, [(g2, .cells #[.int .i64 v_.dot.s, .int .i64 v_.dot.n, .slice Av_2 v_.past.length cv_2, .bool v_.gone, .string v_.val] 58 (0, 0))], [(g1, .cells #[.int .i64 m.n, .int .i64 m.w_, .int .i64 m.r, .slice Am3 m.took.length cm3, .slice Am4 m.asked.length cm4] 52 (0, 0))]]) _ _ (upd _ 196 (.tuple #[.slice A227 z221.1.length c228, .int .i64 z221.2]))
                      refine WR.nil ?_
                      refine WH.next (fun w hw => hw.back (hl217.trans hl224) h0209 (.cons _ (.cons _ (.cons _ (.cons _ (.cons_cons _ (.cons_cons _ .slnil))))))) ?_
                      refine ht (i := 6) rfl (by kernel_rfl) rfl rfl rfl (fun w hw => hw.back (hl217.trans hl224) h0209 (.cons _ (.cons _ (.cons _ (.cons _ (.cons_cons _ (.cons_cons _ .slnil))))))) (q_move (v := .tuple #[.slice A227 z221.1.length c228, .int .i64 z221.2]) rfl (by kernel_rfl)) ?_
                      refine ht (i := 7) rfl (by kernel_rfl) rfl rfl rfl (fun w hw => hw.back (hl217.trans hl224) h0209 (.cons _ (.cons _ (.cons _ (.cons _ (.cons_cons _ (.cons_cons _ .slnil))))))) (q_extract (v := .slice A227 z221.1.length c228) rfl rfl rfl) ?_
                      refine ht (i := 8) rfl (by kernel_rfl) rfl rfl rfl (fun w hw => hw.back (hl217.trans hl224) h0209 (.cons _ (.cons _ (.cons _ (.cons _ (.cons_cons _ (.cons_cons _ .slnil))))))) (q_extract (v := .int .i64 z221.2) rfl rfl rfl) ?_
                      refine ht (i := 9) rfl (by kernel_rfl) rfl rfl rfl (fun w hw => hw.back (hl217.trans hl224) h0209 (.cons _ (.cons _ (.cons _ (.cons _ (.cons_cons _ (.cons_cons _ .slnil))))))) (q_assign (v := .slice A227 z221.1.length c228) rfl (by kernel_rfl)) ?_
                      refine ht (i := 10) rfl (by kernel_rfl) rfl rfl rfl (fun w hw => hw.back (hl217.trans hl224) h0209 (.cons _ (.cons _ (.cons _ (.cons _ (.cons_cons _ (.cons_cons _ .slnil))))))) (q_assign (v := .int .i64 z221.2) rfl (by kernel_rfl)) ?_
                      refine WH.done (by kernel_rfl) ?_
                      intro w hw
                      exact ⟨z221.1, z221.2, Γ223, A227, c228, h, (sl_ (by kernel_rfl)), (hw.only (is := [1, 1, 1, 1, 1]) rfl), (hl217.trans hl224), hc230, hr229, hr231, trivial⟩
                  · skip
                    rintro σ w ⟨l_202, g_207, Γ200, A203, c204, h, hsl, hw, hl201, hc206, hs205, hr208, -⟩
                    refine Wpt.slots hsl ?_
                    refine WC.here (C := CC F Γ200 [row154, row173, row176, [(g2, .cells #[.int .i64 v_.dot.s, .int .i64 v_.dot.n, .slice Av_2 v_.past.length cv_2, .bool v_.gone, .string v_.val] 58 (0, 0))], [(g1, .cells #[.int .i64 m.n, .int .i64 m.w_, .int .i64 m.r, .slice Am3 m.took.length cm3, .slice Am4 m.asked.length cm4] 52 (0, 0))]]) ?_ hw
                    clear hw hsl
                    refine WC.seq ?_
                    refine WC.rs ?_
                    refine va rfl rfl rfl (q_move (v := .int .i64 g_207) rfl (by kernel_rfl)) ?_
                    refine va rfl rfl rfl (q_neq rfl rfl rfl) ?_
                    refine WR.nil ?_
                    change WC _ _ _ _ _ _
                    refine WC.cif h (by kernel_rfl) (fun hb232 h => ?_) (fun hb232 h => ?_)
                    · skip
                      refine WC.rs ?_
                      refine va rfl rfl rfl (q_assign (v := .bool true) rfl (by kernel_rfl)) ?_
                      refine WR.nil ?_
                      change WC _ _ _ _ _ _
                      refine WC.ret ?_
                      intro w hw
                      obtain rfl := Option.some.inj h
                      subst hF
                      exact ⟨by kernel_rfl, hw.fr⟩
                    · skip
                      refine WC.skip ?_
                      change WC _ _ _ _ _ _
                      refine WC.rs ?_
                      refine va rfl rfl rfl (q_move (v := .int .i64 (gt m.took i180)) rfl (by kernel_rfl)) ?_
                      refine va rfl rfl rfl (q_move (v := .slice A203 l_202.length c204) rfl (by kernel_rfl)) ?_
                      obtain ⟨hk233, h⟩ := chk_some h
                      refine va rfl rfl rfl (q_ixao Try.underlying60 Try.sizeOf40 rfl rfl rfl hk233) ?_
                      refine e_store_own (T := (slT verT)) (q := (gt m.took i180).toNat) (v := .slice A203 l_202.length c204) (y := l_202) rfl rfl rfl rfl (by kernel_rfl) Try.sizeOf40 (by exact ⟨A203, c204, rfl, hc206, hs205⟩) (i := 2) rfl (ho177.mono hl201) (ltq (inb_lt hk233) hn178.symm) ?_
                      intro row234 ho235
                      refine WR.nil ?_
                      change WC _ _ _ _ _ _
                      refine WC.region ?_
                      refine va rfl rfl rfl (q_move (v := .pointer (some ⟨g143, 0, none⟩)) rfl (optp_some rfl hz168)) ?_
                      refine va rfl rfl rfl (q_move (v := .int .i64 (gt m.took i180)) rfl (by kernel_rfl)) ?_
                      obtain ⟨z236, hz237, h⟩ := bnd h
                      refine e_call (is := [1]) rfl rfl (call_run Try.call11 rfl rfl (by kernel_rfl)) rfl (fun w hp => t_quorum_Write_Ack (ho174.mono hl201) (gt m.took i180) ((hm.2.2.2.1.2.mono (((((hl48.trans hl133).trans hl140).trans hl150).trans hl171).trans hl201)).intT_at hl185).1 hp hz237) ?_
                      rintro Γ238 U240 v241 hl239 ⟨row242, rfl, rfl, hr243, _⟩
                      change WR _ _ _ (CC F Γ238 [row242, row154, row234, [(g2, .cells #[.int .i64 v_.dot.s, .int .i64 v_.dot.n, .slice Av_2 v_.past.length cv_2, .bool v_.gone, .string v_.val] 58 (0, 0))], [(g1, .cells #[.int .i64 m.n, .int .i64 m.w_, .int .i64 m.r, .slice Am3 m.took.length cm3, .slice Am4 m.asked.length cm4] 52 (0, 0))]]) _ _ (upd _ 206 (.bool z236.2))
                      refine WR.nil ?_
                      intro w hw
                      exact ⟨z236.1, (List.set x175 ((gt m.took i180).toNat) l_202), Γ238, row242, row234, h, (sl_ (by kernel_rfl)), (hw.only (is := [1, 0, 0, 0, 0]) rfl), (hl201.trans hl239), hr243, (List.length_set.trans hn178), (ho235.mono hl239), trivial⟩
              · skip
                rintro σ w ⟨o188, x191, Γ186, row189, row192, h, hsl, hw, hl187, ho190, hn194, ho193, -⟩
                refine Wpt.slots hsl ?_
                refine WC.here (C := CC F Γ186 [row154, row189, row192, [(g2, .cells #[.int .i64 v_.dot.s, .int .i64 v_.dot.n, .slice Av_2 v_.past.length cv_2, .bool v_.gone, .string v_.val] 58 (0, 0))], [(g1, .cells #[.int .i64 m.n, .int .i64 m.w_, .int .i64 m.r, .slice Am3 m.took.length cm3, .slice Am4 m.asked.length cm4] 52 (0, 0))]]) ?_ hw
                clear hw hsl
                refine WC.region ?_
                refine va rfl rfl rfl (q_move (v := .int .i64 ((i180 : Nat) : Int)) rfl (by kernel_rfl)) ?_
                refine va rfl rfl rfl (q_add_r (r := ((i180 + 1 : Nat) : Int)) rfl rfl rfl (ctr_len hl185 (hm.2.2.2.1.2.mono ((((hl48.trans hl133).trans hl140).trans hl150).trans hl171)).le)) ?_
                refine va rfl rfl rfl (q_assign (v := .int .i64 ((i180 + 1 : Nat) : Int)) rfl (by kernel_rfl)) ?_
                refine WR.nil ?_
                intro w hw
                exact ⟨hl185, (o188, x191), h, Γ186, row189, row192, (sl_ (by kernel_rfl)), hw, (hl171.trans hl187), ho190, hn194, ho193, trivial⟩
            · skip
              have h := hge183 (ige hb184)
              refine WC.exit ?_
              change WC _ _ _ _ _ _
              refine WC.seq ?_
              refine WC.rs ?_
              refine va rfl rfl rfl (q_assign (v := .int .i64 0) rfl (by kernel_rfl)) ?_
              refine WR.nil ?_
              change WC _ _ _ _ _ _
              refine WC.block ?_
              refine WC.forI h (fun (i250 : Nat) (o246 : Oquorum_asking_api_Ver) σ w => ∃ (Γ244 : Gh), ∃ (row247 : Rowb), slots σ [(3, .pointer (some ⟨g1, 0, none⟩)), (5, .pointer (some ⟨g2, 0, none⟩)), (8, .pointer (some ⟨g43, 0, none⟩)), (13, optp z137.1 g143), (15, optp z147.1 g153), (21, .int .i64 ((i250 : Nat) : Int))] ∧ CC F Γ244 [row247, row173, row176, [(g2, .cells #[.int .i64 v_.dot.s, .int .i64 v_.dot.n, .slice Av_2 v_.past.length cv_2, .bool v_.gone, .string v_.val] 58 (0, 0))], [(g1, .cells #[.int .i64 m.n, .int .i64 m.w_, .int .i64 m.r, .slice Am3 m.took.length cm3, .slice Am4 m.asked.length cm4] 52 (0, 0))]] w ∧ Gh.le Γ170 Γ244 ∧ Oquorum_asking_api_Ver.ob 85 Γ244 g153 row247 o246 ∧ True) ?_ ?_
              · skip
                intro w hw
                exact ⟨Γ170, row154, (sl_ (by kernel_rfl)), hw, (Gh.refl _), (ho166.mono hl171), trivial⟩
              rintro f249 i250 o246 σ w hi251 hlt252 hge253 ⟨Γ244, row247, hsl, hw, hl245, ho248, -⟩
              refine Wpt.slots hsl ?_
              refine WC.here (C := CC F Γ244 [row247, row173, row176, [(g2, .cells #[.int .i64 v_.dot.s, .int .i64 v_.dot.n, .slice Av_2 v_.past.length cv_2, .bool v_.gone, .string v_.val] 58 (0, 0))], [(g1, .cells #[.int .i64 m.n, .int .i64 m.w_, .int .i64 m.r, .slice Am3 m.took.length cm3, .slice Am4 m.asked.length cm4] 52 (0, 0))]]) ?_ hw
              clear hw hsl
              refine WC.seq ?_
              refine WC.rs ?_
              refine va rfl rfl rfl (q_move (v := .int .i64 ((i250 : Nat) : Int)) rfl (by kernel_rfl)) ?_
              refine va rfl rfl rfl (q_fl 4 fld_52_4 rfl rfl rfl) ?_
              refine va rfl rfl rfl (q_ldl (i := 4) (v := .slice Am4 m.asked.length cm4) rfl rfl Try.isAgg22 rfl rfl) ?_
              refine va rfl rfl rfl (q_len_slice rfl Try.underlying22 rfl) ?_
              refine va rfl rfl rfl (q_lss rfl rfl rfl) ?_
              refine WR.nil ?_
              change WC _ _ _ _ _ _
              refine WC.cond (b := (decide (((i250 : Nat) : Int) < ((m.asked.length : Nat) : Int)))) (by kernel_rfl) (fun hb254 => ?_) (fun hb254 => ?_)
              · skip
                have hl255 := ilt hb254
                have h := hlt252 hl255
                refine WC.skip ?_
                change WC _ _ _ _ _ _
                refine WC.cut (fun σ w => ∃ (o258 : Oquorum_asking_api_Ver), ∃ (Γ256 : Gh), ∃ (row259 : Rowb), m_firthlaw16_QuorumMeets_j24 f249 o258 = some r ∧ slots σ [(3, .pointer (some ⟨g1, 0, none⟩)), (5, .pointer (some ⟨g2, 0, none⟩)), (8, .pointer (some ⟨g43, 0, none⟩)), (13, optp z137.1 g143), (15, optp z147.1 g153), (21, .int .i64 ((i250 : Nat) : Int))] ∧ CC F Γ256 [row259, row173, row176, [(g2, .cells #[.int .i64 v_.dot.s, .int .i64 v_.dot.n, .slice Av_2 v_.past.length cv_2, .bool v_.gone, .string v_.val] 58 (0, 0))], [(g1, .cells #[.int .i64 m.n, .int .i64 m.w_, .int .i64 m.r, .slice Am3 m.took.length cm3, .slice Am4 m.asked.length cm4] 52 (0, 0))]] w ∧ Gh.le Γ244 Γ256 ∧ Oquorum_asking_api_Ver.ob 85 Γ256 g153 row259 o258 ∧ True) ?_ ?_
                · skip
                  refine WC.block ?_
                  refine WC.seq ?_
                  refine WC.dr (by kernel_rfl) (by kernel_rfl) (fun w hw => hw.drawn _) ?_
                  refine wa rfl rfl rfl (q_fl 4 fld_52_4 rfl rfl rfl) ?_
                  refine wa rfl rfl rfl (q_ldl (i := 4) (v := .slice Am4 m.asked.length cm4) rfl rfl Try.isAgg22 rfl rfl) ?_
                  refine wa rfl rfl rfl (q_move (v := .int .i64 ((i250 : Nat) : Int)) rfl (by kernel_rfl)) ?_
                  refine wa rfl rfl rfl (q_ixn (i := i250) Try.underlying22 Try.sizeOf3 rfl rfl rfl hl255 ((hm.2.2.2.2.2.mono (((((hl48.trans hl133).trans hl140).trans hl150).trans hl171).trans hl245)).some_ hl255)) ?_
                  refine wa rfl rfl rfl (q_ld (c := 0) (v := .int .i64 (gt m.asked i250)) ((hm.2.2.2.2.2.mono (((((hl48.trans hl133).trans hl140).trans hl150).trans hl171).trans hl245)).intT_at hl255).2 rfl Try.isAgg3 rfl rfl) ?_
                  refine wa rfl rfl rfl (q_geq rfl rfl rfl) ?_
                  refine wa rfl rfl rfl (q_move (v := .bool (decide (1 ≤ (gt m.asked i250)))) rfl (by kernel_rfl)) ?_
                  refine wg1 rfl rfl rfl rfl rfl (fun hg261 => QV.qo (q_fl 4 fld_52_4 rfl rfl rfl)) ?_
                  refine wg1 rfl rfl rfl rfl rfl (fun hg262 => QV.qo (q_ldl (i := 4) (v := .slice Am4 m.asked.length cm4) rfl rfl Try.isAgg22 (gu hg262 rfl) rfl)) ?_
                  refine wg1 rfl rfl rfl rfl rfl (fun hg263 => QV.qo (q_move (v := .int .i64 ((i250 : Nat) : Int)) rfl (by kernel_rfl))) ?_
                  refine wg1 rfl rfl rfl rfl rfl (fun hg264 => QV.qo (q_ixn (i := i250) Try.underlying22 Try.sizeOf3 rfl (gu hg264 rfl) (gu hg264 rfl) hl255 ((hm.2.2.2.2.2.mono (((((hl48.trans hl133).trans hl140).trans hl150).trans hl171).trans hl245)).some_ hl255))) ?_
                  refine wg1 rfl rfl rfl rfl rfl (fun hg265 => QV.qo (q_ld (c := 0) (v := .int .i64 (gt m.asked i250)) ((hm.2.2.2.2.2.mono (((((hl48.trans hl133).trans hl140).trans hl150).trans hl171).trans hl245)).intT_at hl255).2 rfl Try.isAgg3 (gu hg265 rfl) rfl)) ?_
                  refine wg1 rfl rfl rfl rfl rfl (fun hg266 => QV.qo (q_fl 0 fld_52_0 rfl rfl rfl)) ?_
                  refine wg1 rfl rfl rfl rfl rfl (fun hg267 => QV.qo (q_ldl (i := 4) (v := .int .i64 m.n) rfl rfl Try.isAgg3 (gu hg267 rfl) rfl)) ?_
                  refine wg1 rfl rfl rfl rfl rfl (fun hg268 => QV.qo (q_leq rfl (gu hg268 rfl) (gu hg268 rfl))) ?_
                  refine wa rfl rfl rfl (q_pick rfl rfl (pk_and' (g := (decide (1 ≤ (gt m.asked i250)))) (y := (decide ((gt m.asked i250) ≤ m.n))))) ?_
                  refine WQ.nil ?_
                  change WC _ _ _ _ _ _
                  refine WC.cif h (by kernel_rfl) (fun hb269 h => ?_) (fun hb269 h => ?_)
                  · skip
                    intro w hw; have h0270 := hw.le
                    refine WC.here (C := CC F Γ244 [row247, row173, row176, [(g2, .cells #[.int .i64 v_.dot.s, .int .i64 v_.dot.n, .slice Av_2 v_.past.length cv_2, .bool v_.gone, .string v_.val] 58 (0, 0))], [(g1, .cells #[.int .i64 m.n, .int .i64 m.w_, .int .i64 m.r, .slice Am3 m.took.length cm3, .slice Am4 m.asked.length cm4] 52 (0, 0))]]) ?_ hw; clear hw
                    refine WC.held (CC F Γ244 [[(g2, .cells #[.int .i64 v_.dot.s, .int .i64 v_.dot.n, .slice Av_2 v_.past.length cv_2, .bool v_.gone, .string v_.val] 58 (0, 0))], [(g1, .cells #[.int .i64 m.n, .int .i64 m.w_, .int .i64 m.r, .slice Am3 m.took.length cm3, .slice Am4 m.asked.length cm4] 52 (0, 0))]]) (by kernel_rfl) (fun w hw => hw.drawn _) ?_
                    change WH _ _ _ _ (CC F Γ244 [row247, row173, row176, [(g2, .cells #[.int .i64 v_.dot.s, .int .i64 v_.dot.n, .slice Av_2 v_.past.length cv_2, .bool v_.gone, .string v_.val] 58 (0, 0))], [(g1, .cells #[.int .i64 m.n, .int .i64 m.w_, .int .i64 m.r, .slice Am3 m.took.length cm3, .slice Am4 m.asked.length cm4] 52 (0, 0))]]) _ 14 #[false, false, false, false, false, false, false, false, false, false, false, false, false, false] _
                    refine ht (i := 0) rfl (by kernel_rfl) rfl rfl rfl (fun w hw => hw.back (Gh.refl _) h0270 (.cons _ (.cons _ (.cons _ (.cons_cons _ (.cons_cons _ .slnil)))))) (q_move (v := .pointer (some ⟨g153, 0, none⟩)) rfl (optp_some rfl hz165)) ?_
                    refine ht (i := 1) rfl (by kernel_rfl) rfl rfl rfl (fun w hw => hw.back (Gh.refl _) h0270 (.cons _ (.cons _ (.cons _ (.cons_cons _ (.cons_cons _ .slnil)))))) (q_fl 4 fld_52_4 rfl rfl rfl) ?_
                    refine ht (i := 2) rfl (by kernel_rfl) rfl rfl rfl (fun w hw => hw.back (Gh.refl _) h0270 (.cons _ (.cons _ (.cons _ (.cons_cons _ (.cons_cons _ .slnil)))))) (q_ldl (i := 1) (v := .slice Am4 m.asked.length cm4) rfl rfl Try.isAgg22 rfl rfl) ?_
                    refine ht (i := 3) rfl (by kernel_rfl) rfl rfl rfl (fun w hw => hw.back (Gh.refl _) h0270 (.cons _ (.cons _ (.cons _ (.cons_cons _ (.cons_cons _ .slnil)))))) (q_move (v := .int .i64 ((i250 : Nat) : Int)) rfl (by kernel_rfl)) ?_
                    refine ht (i := 4) rfl (by kernel_rfl) rfl rfl rfl (fun w hw => hw.back (Gh.refl _) h0270 (.cons _ (.cons _ (.cons _ (.cons_cons _ (.cons_cons _ .slnil)))))) (q_ixn (i := i250) Try.underlying22 Try.sizeOf3 rfl rfl rfl hl255 ((hm.2.2.2.2.2.mono (((((hl48.trans hl133).trans hl140).trans hl150).trans hl171).trans hl245)).some_ hl255)) ?_
                    refine ht (i := 5) rfl (by kernel_rfl) rfl rfl rfl (fun w hw => hw.back (Gh.refl _) h0270 (.cons _ (.cons _ (.cons _ (.cons_cons _ (.cons_cons _ .slnil)))))) (q_ld (c := 0) (v := .int .i64 (gt m.asked i250)) ((hm.2.2.2.2.2.mono (((((hl48.trans hl133).trans hl140).trans hl150).trans hl171).trans hl245)).intT_at hl255).2 rfl Try.isAgg3 rfl rfl) ?_
                    refine ht (i := 6) rfl (by kernel_rfl) rfl rfl rfl (fun w hw => hw.back (Gh.refl _) h0270 (.cons _ (.cons _ (.cons _ (.cons_cons _ (.cons_cons _ .slnil)))))) (q_fl 4 fld_52_4 rfl rfl rfl) ?_
                    refine ht (i := 7) rfl (by kernel_rfl) rfl rfl rfl (fun w hw => hw.back (Gh.refl _) h0270 (.cons _ (.cons _ (.cons _ (.cons_cons _ (.cons_cons _ .slnil)))))) (q_ldl (i := 1) (v := .slice Am4 m.asked.length cm4) rfl rfl Try.isAgg22 rfl rfl) ?_
                    refine ht (i := 8) rfl (by kernel_rfl) rfl rfl rfl (fun w hw => hw.back (Gh.refl _) h0270 (.cons _ (.cons _ (.cons _ (.cons_cons _ (.cons_cons _ .slnil)))))) (q_move (v := .int .i64 ((i250 : Nat) : Int)) rfl (by kernel_rfl)) ?_
                    refine ht (i := 9) rfl (by kernel_rfl) rfl rfl rfl (fun w hw => hw.back (Gh.refl _) h0270 (.cons _ (.cons _ (.cons _ (.cons_cons _ (.cons_cons _ .slnil)))))) (q_ixn (i := i250) Try.underlying22 Try.sizeOf3 rfl rfl rfl hl255 ((hm.2.2.2.2.2.mono (((((hl48.trans hl133).trans hl140).trans hl150).trans hl171).trans hl245)).some_ hl255)) ?_
                    refine ht (i := 10) rfl (by kernel_rfl) rfl rfl rfl (fun w hw => hw.back (Gh.refl _) h0270 (.cons _ (.cons _ (.cons _ (.cons_cons _ (.cons_cons _ .slnil)))))) (q_ld (c := 0) (v := .int .i64 (gt m.asked i250)) ((hm.2.2.2.2.2.mono (((((hl48.trans hl133).trans hl140).trans hl150).trans hl171).trans hl245)).intT_at hl255).2 rfl Try.isAgg3 rfl rfl) ?_
                    refine WH.lone (i := 11) (by kernel_rfl) rfl ?_
                    obtain ⟨hk271, h⟩ := chk_some h
                    refine va rfl rfl rfl (q_ixao Try.underlying60 Try.sizeOf40 rfl rfl rfl hk271) ?_
                    refine WR.nil ?_
                    refine WH.next (fun w hw => hw.back (Gh.refl _) h0270 (.cons _ (.cons _ (.cons _ (.cons_cons _ (.cons_cons _ .slnil)))))) ?_
                    refine WH.lone (i := 12) (by kernel_rfl) rfl ?_
                    obtain ⟨A272, c273, hx274⟩ := (ho177.mono hl245).slT_at ((gt m.asked i250).toNat)
                    refine va rfl rfl rfl (q_ldo (c := 0) (v := .slice A272 (gt x175 ((gt m.asked i250).toNat)).length c273) (i := 2) rfl (hx274 (ltq (inb_lt hk271) hn178.symm)).2 rfl Try.isAgg40 rfl rfl) ?_
                    refine WR.nil ?_
                    refine WH.next (fun w hw => hw.back (Gh.refl _) h0270 (.cons _ (.cons _ (.cons _ (.cons_cons _ (.cons_cons _ .slnil)))))) ?_
                    refine WH.lone (i := 13) (by kernel_rfl) rfl ?_
                    obtain ⟨z275, hz276, h⟩ := bnd h
                    refine e_call (is := [0]) rfl rfl (call_run Try.call19 rfl rfl (by kernel_rfl)) rfl (fun w hp => t_quorum_Read_Got ho248 (gt m.asked i250) ((hm.2.2.2.2.2.mono (((((hl48.trans hl133).trans hl140).trans hl150).trans hl171).trans hl245)).intT_at hl255).1 (hx274 (ltq (inb_lt hk271) hn178.symm)).1.2 (hx274 (ltq (inb_lt hk271) hn178.symm)).1.1 hp hz276) ?_
                    rintro Γ277 U279 v280 hl278 ⟨row281, rfl, rfl, hr282, _⟩
                    change WR _ _ _ (CC F Γ277 [row281, row173, row176, [(g2, .cells #[.int .i64 v_.dot.s, .int .i64 v_.dot.n, .slice Av_2 v_.past.length cv_2, .bool v_.gone, .string v_.val] 58 (0, 0))], [(g1, .cells #[.int .i64 m.n, .int .i64 m.w_, .int .i64 m.r, .slice Am3 m.took.length cm3, .slice Am4 m.asked.length cm4] 52 (0, 0))]]) _ _ (upd _ 243 (.bool z275.2))
                    refine WR.nil ?_
                    refine WH.next (fun w hw => hw.back hl278 h0270 (.cons _ (.cons _ (.cons _ (.cons_cons _ (.cons_cons _ .slnil)))))) ?_
                    refine WH.done (by kernel_rfl) ?_
                    intro w hw
                    exact ⟨z275.1, Γ277, row281, h, (sl_ (by kernel_rfl)), hw, hl278, hr282, trivial⟩
                  · skip
                    refine WC.skip ?_
                    intro w hw
                    exact ⟨o246, Γ244, row247, h, (sl_ (by kernel_rfl)), hw, (Gh.refl _), ho248, trivial⟩
                · skip
                  rintro σ w ⟨o258, Γ256, row259, h, hsl, hw, hl257, ho260, -⟩
                  refine Wpt.slots hsl ?_
                  refine WC.here (C := CC F Γ256 [row259, row173, row176, [(g2, .cells #[.int .i64 v_.dot.s, .int .i64 v_.dot.n, .slice Av_2 v_.past.length cv_2, .bool v_.gone, .string v_.val] 58 (0, 0))], [(g1, .cells #[.int .i64 m.n, .int .i64 m.w_, .int .i64 m.r, .slice Am3 m.took.length cm3, .slice Am4 m.asked.length cm4] 52 (0, 0))]]) ?_ hw
                  clear hw hsl
                  refine WC.region ?_
                  refine va rfl rfl rfl (q_move (v := .int .i64 ((i250 : Nat) : Int)) rfl (by kernel_rfl)) ?_
                  refine va rfl rfl rfl (q_add_r (r := ((i250 + 1 : Nat) : Int)) rfl rfl rfl (ctr_len hl255 (hm.2.2.2.2.2.mono (((((hl48.trans hl133).trans hl140).trans hl150).trans hl171).trans hl245)).le)) ?_
                  refine va rfl rfl rfl (q_assign (v := .int .i64 ((i250 + 1 : Nat) : Int)) rfl (by kernel_rfl)) ?_
                  refine WR.nil ?_
                  intro w hw
                  exact ⟨hl255, o258, h, Γ256, row259, (sl_ (by kernel_rfl)), hw, (hl245.trans hl257), ho260, trivial⟩
              · skip
                have h := hge253 (ige hb254)
                refine WC.exit ?_
                change WC _ _ _ _ _ _
                refine WC.seq ?_
                refine WC.rs ?_
                refine va rfl rfl rfl (q_move (v := .pointer (some ⟨g143, 0, none⟩)) rfl (optp_some rfl hz168)) ?_
                obtain ⟨z283, hz284, h⟩ := bnd h
                refine vc rfl rfl rfl (q_call (call_run Try.call13 rfl rfl (by kernel_rfl)) (fun w hw => t_quorum_Write_Done (Γ := Gh.all w) ((ho174.mono hl245).mono hw.sat.le_all) (hw.ra 1 rfl) (Sat.all w) hz284)) ?_
                refine va rfl rfl rfl (q_not rfl rfl) ?_
                refine va rfl rfl rfl (q_move (v := .bool (!z283)) rfl (by kernel_rfl)) ?_
                refine vg0 rfl rfl rfl rfl rfl (fun hg285 => QV.qo (q_move (v := .pointer (some ⟨g153, 0, none⟩)) rfl (optp_some rfl hz165))) ?_
                obtain ⟨z287, hz288, h⟩ := bnd h
                refine vg0 rfl rfl rfl rfl rfl (fun hg286 => (q_call (call_run Try.call21 rfl rfl (args1 (gu hg286 rfl))) (fun w hw => t_quorum_Read_Done (Γ := Gh.all w) (ho248.mono hw.sat.le_all) (hw.ra 0 rfl) (Sat.all w) (gc_of hz288 hg286)))) ?_
                refine vg0 rfl rfl rfl rfl rfl (fun hg289 => QV.qo (q_not rfl (gu hg289 rfl))) ?_
                refine va rfl rfl rfl (q_pick rfl rfl (pk_or' (g := (!z283)) (y := (!z287)))) ?_
                refine WR.nil ?_
                change WC _ _ _ _ _ _
                refine WC.cif h (by kernel_rfl) (fun hb290 h => ?_) (fun hb290 h => ?_)
                · skip
                  refine WC.rs ?_
                  refine va rfl rfl rfl (q_assign (v := .bool true) rfl (by kernel_rfl)) ?_
                  refine WR.nil ?_
                  change WC _ _ _ _ _ _
                  refine WC.ret ?_
                  intro w hw
                  obtain rfl := Option.some.inj h
                  subst hF
                  exact ⟨by kernel_rfl, hw.fr⟩
                · skip
                  refine WC.skip ?_
                  change WC _ _ _ _ _ _
                  refine WC.rs ?_
                  refine va rfl rfl rfl (q_move (v := .pointer (some ⟨g153, 0, none⟩)) rfl (optp_some rfl hz165)) ?_
                  obtain ⟨z291, hz292, h⟩ := bnd h
                  refine e_call (is := [0]) rfl rfl (call_run Try.call24 rfl rfl (by kernel_rfl)) rfl (fun w hp => t_quorum_Read_Vers ho248 hp hz292) ?_
                  rintro Γ293 U295 v296 hl294 ⟨A297, c298, rfl, rfl, hc300, hr299, _⟩
                  change WR _ _ _ (CC F Γ293 [row247, row173, row176, [(g2, .cells #[.int .i64 v_.dot.s, .int .i64 v_.dot.n, .slice Av_2 v_.past.length cv_2, .bool v_.gone, .string v_.val] 58 (0, 0))], [(g1, .cells #[.int .i64 m.n, .int .i64 m.w_, .int .i64 m.r, .slice Am3 m.took.length cm3, .slice Am4 m.asked.length cm4] 52 (0, 0))]]) _ _ (upd _ 253 (.slice A297 z291.length c298))
                  refine va rfl rfl rfl (q_assign (v := .slice A297 z291.length c298) rfl (by kernel_rfl)) ?_
                  refine WR.nil ?_
                  change WC _ _ _ _ _ _
                  refine WC.seq ?_
                  refine WC.rs ?_
                  refine va rfl rfl rfl (q_move (v := .slice A297 z291.length c298) rfl (by kernel_rfl)) ?_
                  refine va rfl rfl rfl (q_fl 0 fld_58_0 rfl rfl rfl) ?_
                  refine va rfl rfl rfl (q_ldla (i := 3) (vs := [.int .i64 v_.dot.s, .int .i64 v_.dot.n]) rfl rfl Try.isAgg55 Try.sizeOf55 rfl rfl) ?_
                  obtain ⟨z301, hz302, h⟩ := bnd h
                  refine vc rfl rfl rfl (q_call (call_run Try.call32 rfl rfl (by kernel_rfl)) (fun w hw => t_firthref05_Behind (Γ := Gh.all w) (hr299.mono hw.sat.le_all) hc300 v_.dot ⟨hv_.1, hv_.2.1⟩ (Sat.all w) hz302)) ?_
                  refine va rfl rfl rfl (q_not rfl rfl) ?_
                  refine va rfl rfl rfl (q_move (v := .bool (!z301)) rfl (by kernel_rfl)) ?_
                  refine vg1 rfl rfl rfl rfl rfl (fun hg303 => QV.qo (q_move (v := .slice A297 z291.length c298) rfl (by kernel_rfl))) ?_
                  refine vg1 rfl rfl rfl rfl rfl (fun hg304 => QV.qo (q_ldla (i := 3) (vs := [.int .i64 v_.dot.s, .int .i64 v_.dot.n, .slice Av_2 v_.past.length cv_2, .bool v_.gone, .string v_.val]) rfl rfl Try.isAgg58 Try.sizeOf58 rfl rfl)) ?_
                  obtain ⟨z306, hz307, h⟩ := bnd h
                  refine vg1 rfl rfl rfl rfl rfl (fun hg305 => (q_call (call_run Try.call33 rfl rfl (args2 (gu hg305 rfl) (gu hg305 rfl))) (fun w hw => t_firthlaw16_has (Γ := Gh.all w) (hr299.mono hw.sat.le_all) hc300 v_ (Ver.fits_mono (Ver.fits_mono hv_ ((((((hl48.trans hl133).trans hl140).trans hl150).trans hl171).trans hl245).trans hl294)) hw.sat.le_all) (Sat.all w) (gc_of hz307 hg305)))) ?_
                  refine vg1 rfl rfl rfl rfl rfl (fun hg308 => QV.qo (q_not rfl (gu hg308 rfl))) ?_
                  refine va rfl rfl rfl (q_pick rfl rfl (pk_and' (g := (!z301)) (y := (!z306)))) ?_
                  refine WR.nil ?_
                  change WC _ _ _ _ _ _
                  refine WC.cif h (by kernel_rfl) (fun hb309 h => ?_) (fun hb309 h => ?_)
                  · skip
                    refine WC.rs ?_
                    refine va rfl rfl rfl (q_assign (v := .bool false) rfl (by kernel_rfl)) ?_
                    refine WR.nil ?_
                    change WC _ _ _ _ _ _
                    refine WC.ret ?_
                    intro w hw
                    obtain rfl := Option.some.inj h
                    subst hF
                    exact ⟨by kernel_rfl, hw.fr⟩
                  · skip
                    refine WC.skip ?_
                    change WC _ _ _ _ _ _
                    refine WC.rs ?_
                    refine va rfl rfl rfl (q_move (v := .pointer (some ⟨g153, 0, none⟩)) rfl (optp_some rfl hz165)) ?_
                    obtain ⟨z310, hz311, h⟩ := bnd h
                    refine e_call (is := [0]) rfl rfl (call_run Try.call26 rfl rfl (by kernel_rfl)) rfl (fun w hp => t_quorum_Read_Behind (ho248.mono hl294) hp hz311) ?_
                    rintro Γ312 U314 v315 hl313 ⟨A316, c317, row318, rfl, rfl, hr319, _⟩
                    change WR _ _ _ (CC F Γ312 [row247, row318, row173, row176, [(g2, .cells #[.int .i64 v_.dot.s, .int .i64 v_.dot.n, .slice Av_2 v_.past.length cv_2, .bool v_.gone, .string v_.val] 58 (0, 0))], [(g1, .cells #[.int .i64 m.n, .int .i64 m.w_, .int .i64 m.r, .slice Am3 m.took.length cm3, .slice Am4 m.asked.length cm4] 52 (0, 0))]]) _ _ (upd _ 266 (.slice A316 z310.length c317))
                    refine va rfl rfl rfl (q_assign (v := .slice A316 z310.length c317) rfl (by kernel_rfl)) ?_
                    refine WR.nil ?_
                    change WC _ _ _ _ _ _
                    refine WC.rs ?_
                    refine va rfl rfl rfl (q_move (v := .pointer (some ⟨g153, 0, none⟩)) rfl (optp_some rfl hz165)) ?_
                    obtain ⟨z320, hz321, h⟩ := bnd h
                    refine e_call (is := [0]) rfl rfl (call_run Try.call22 rfl rfl (by kernel_rfl)) rfl (fun w hp => t_quorum_Read_Waits (ho248.mono (hl294.trans hl313)) hp hz321) ?_
                    rintro Γ322 U324 v325 hl323 ⟨A326, c327, row328, rfl, rfl, hr329, _⟩
                    change WR _ _ _ (CC F Γ322 [row247, row328, row318, row173, row176, [(g2, .cells #[.int .i64 v_.dot.s, .int .i64 v_.dot.n, .slice Av_2 v_.past.length cv_2, .bool v_.gone, .string v_.val] 58 (0, 0))], [(g1, .cells #[.int .i64 m.n, .int .i64 m.w_, .int .i64 m.r, .slice Am3 m.took.length cm3, .slice Am4 m.asked.length cm4] 52 (0, 0))]]) _ _ (upd _ 268 (.slice A326 z320.length c327))
                    refine va rfl rfl rfl (q_assign (v := .slice A326 z320.length c327) rfl (by kernel_rfl)) ?_
                    refine WR.nil ?_
                    change WC _ _ _ _ _ _
                    refine WC.seq ?_
                    refine WC.rs ?_
                    refine va rfl rfl rfl (q_assign (v := .int .i64 1) rfl (by kernel_rfl)) ?_
                    refine WR.nil ?_
                    change WC _ _ _ _ _ _
                    refine WC.block ?_
                    refine WC.loopN h (fun (x_332 : Int) σ w => ∃ (Γ330 : Gh), slots σ [(3, .pointer (some ⟨g1, 0, none⟩)), (8, .pointer (some ⟨g43, 0, none⟩)), (22, .slice A297 z291.length c298), (23, .slice A316 z310.length c317), (24, .slice A326 z320.length c327), (25, .int .i64 x_332)] ∧ CC F Γ330 [row247, row328, row318, row173, row176, [(g1, .cells #[.int .i64 m.n, .int .i64 m.w_, .int .i64 m.r, .slice Am3 m.took.length cm3, .slice Am4 m.asked.length cm4] 52 (0, 0))]] w ∧ Gh.le Γ322 Γ330 ∧ I64 x_332 ∧ True) ?_ ?_
                    · skip
                      intro w hw
                      exact ⟨Γ322, (sl_ (by kernel_rfl)), (hw.only (is := [0, 0, 0, 0, 0, 1]) rfl), (Gh.refl _), (show I64 1 by decide), trivial⟩
                    rintro f334 x_332 σ w h ⟨Γ330, hsl, hw, hl331, hr333, -⟩
                    refine Wpt.slots hsl ?_
                    refine WC.here (C := CC F Γ330 [row247, row328, row318, row173, row176, [(g1, .cells #[.int .i64 m.n, .int .i64 m.w_, .int .i64 m.r, .slice Am3 m.took.length cm3, .slice Am4 m.asked.length cm4] 52 (0, 0))]]) ?_ hw
                    clear hw hsl
                    refine WC.seq ?_
                    refine WC.rs ?_
                    refine va rfl rfl rfl (q_move (v := .int .i64 x_332) rfl (by kernel_rfl)) ?_
                    refine va rfl rfl rfl (q_fl 0 fld_52_0 rfl rfl rfl) ?_
                    refine va rfl rfl rfl (q_ldl (i := 5) (v := .int .i64 m.n) rfl rfl Try.isAgg3 rfl rfl) ?_
                    refine va rfl rfl rfl (q_leq rfl rfl rfl) ?_
                    refine WR.nil ?_
                    change WC _ _ _ _ _ _
                    refine WC.cif h (by kernel_rfl) (fun hb338 h => ?_) (fun hb338 h => ?_)
                    · skip
                      refine WC.skip ?_
                      change WC _ _ _ _ _ _
                      refine WC.cut (fun σ w => ∃ (Γ339 : Gh), m_firthlaw16_QuorumMeets_j28 x_332 f334  = some r ∧ slots σ [(3, .pointer (some ⟨g1, 0, none⟩)), (8, .pointer (some ⟨g43, 0, none⟩)), (22, .slice A297 z291.length c298), (23, .slice A316 z310.length c317), (24, .slice A326 z320.length c327), (25, .int .i64 x_332)] ∧ CC F Γ339 [row247, row328, row318, row173, row176, [(g1, .cells #[.int .i64 m.n, .int .i64 m.w_, .int .i64 m.r, .slice Am3 m.took.length cm3, .slice Am4 m.asked.length cm4] 52 (0, 0))]] w ∧ Gh.le Γ330 Γ339 ∧ True) ?_ ?_
                      · skip
                        refine WC.block ?_
                        refine WC.seq ?_
                        refine WC.rs ?_
                        refine va rfl rfl rfl (q_move (v := .slice A326 z320.length c327) rfl (by kernel_rfl)) ?_
                        refine va rfl rfl rfl (q_move (v := .int .i64 x_332) rfl (by kernel_rfl)) ?_
                        obtain ⟨z341, hz342, h⟩ := bnd h
                        refine vc rfl rfl rfl (q_call (call_run Try.call34 rfl rfl (by kernel_rfl)) (fun w hw => t_firthref12_In (Γ := Gh.all w) ((hr329.mono hl331).sl hw.sat.le_all (hw.ra 1 rfl)) (hr329.mono hl331).capz x_332 hr333 (Sat.all w) hz342)) ?_
                        refine WR.nil ?_
                        change WC _ _ _ _ _ _
                        refine WC.cif h (by kernel_rfl) (fun hb343 h => ?_) (fun hb343 h => ?_)
                        · skip
                          refine WC.exit ?_
                          intro w hw
                          exact ⟨Γ330, h, (sl_ (by kernel_rfl)), hw, (Gh.refl _), trivial⟩
                        · skip
                          refine WC.skip ?_
                          change WC _ _ _ _ _ _
                          refine WC.rs ?_
                          refine va rfl rfl rfl (q_move (v := .int .i64 x_332) rfl (by kernel_rfl)) ?_
                          obtain ⟨hk344, h⟩ := chk_some h
                          refine va rfl rfl rfl (q_ixao Try.underlying60 Try.sizeOf40 rfl rfl rfl hk344) ?_
                          obtain ⟨A345, c346, hx347⟩ := (ho177.mono ((((hl245.trans hl294).trans hl313).trans hl323).trans hl331)).slT_at x_332.toNat
                          refine va rfl rfl rfl (q_ldo (c := 0) (v := .slice A345 (gt x175 x_332.toNat).length c346) (i := 4) rfl (hx347 (ltq (inb_lt hk344) hn178.symm)).2 rfl Try.isAgg40 rfl rfl) ?_
                          refine va rfl rfl rfl (q_move (v := .slice A297 z291.length c298) rfl (by kernel_rfl)) ?_
                          obtain ⟨z348, hz349, h⟩ := bnd h
                          refine e_call (is := []) rfl rfl (call_run Try.call31 rfl rfl (by kernel_rfl)) rfl (fun w hp => t_firthref05_Merge (hx347 (ltq (inb_lt hk344) hn178.symm)).1.2 (hx347 (ltq (inb_lt hk344) hn178.symm)).1.1 (hr299.mono ((hl313.trans hl323).trans hl331)) hc300 hp hz349) ?_
                          rintro Γ350 U352 v353 hl351 ⟨A354, c355, rfl, rfl, hc357, hr356, hr358, _⟩
                          change WR _ _ _ (CC F Γ350 [row247, row328, row318, row173, row176, [(g1, .cells #[.int .i64 m.n, .int .i64 m.w_, .int .i64 m.r, .slice Am3 m.took.length cm3, .slice Am4 m.asked.length cm4] 52 (0, 0))]]) _ _ (upd _ 283 (.tuple #[.slice A354 z348.1.length c355, .int .i64 z348.2]))
                          refine va rfl rfl rfl (q_move (v := .tuple #[.slice A354 z348.1.length c355, .int .i64 z348.2]) rfl (by kernel_rfl)) ?_
                          refine va rfl rfl rfl (q_extract (v := .slice A354 z348.1.length c355) rfl rfl rfl) ?_
                          refine va rfl rfl rfl (q_extract (v := .int .i64 z348.2) rfl rfl rfl) ?_
                          refine va rfl rfl rfl (q_assign (v := .slice A354 z348.1.length c355) rfl (by kernel_rfl)) ?_
                          refine va rfl rfl rfl (q_assign (v := .int .i64 z348.2) rfl (by kernel_rfl)) ?_
                          refine WR.nil ?_
                          change WC _ _ _ _ _ _
                          refine WC.seq ?_
                          refine WC.dr (by kernel_rfl) (by kernel_rfl) (fun w hw => hw.drawn _) ?_
                          refine wa rfl rfl rfl (q_move (v := .slice A316 z310.length c317) rfl (by kernel_rfl)) ?_
                          refine wa rfl rfl rfl (q_move (v := .int .i64 x_332) rfl (by kernel_rfl)) ?_
                          obtain ⟨z359, hz360, h⟩ := bnd h
                          refine wc rfl rfl rfl (q_call (call_run Try.call34 rfl rfl (by kernel_rfl)) (fun w hw => t_firthref12_In (Γ := Gh.all w) ((hr319.mono ((hl323.trans hl331).trans hl351)).sl hw.sat.le_all (hw.ra 2 rfl)) (hr319.mono ((hl323.trans hl331).trans hl351)).capz x_332 hr333 (Sat.all w) hz360)) ?_
                          refine wa rfl rfl rfl (q_move (v := .int .i64 x_332) rfl (by kernel_rfl)) ?_
                          refine wa rfl rfl rfl (q_ixao Try.underlying60 Try.sizeOf40 rfl rfl rfl hk344) ?_
                          obtain ⟨A361, c362, hx363⟩ := (ho177.mono (((((hl245.trans hl294).trans hl313).trans hl323).trans hl331).trans hl351)).slT_at x_332.toNat
                          refine wa rfl rfl rfl (q_ldo (c := 0) (v := .slice A361 (gt x175 x_332.toNat).length c362) (i := 4) rfl (hx363 (ltq (inb_lt hk344) hn178.symm)).2 rfl Try.isAgg40 rfl rfl) ?_
                          refine wa rfl rfl rfl (q_move (v := .slice A297 z291.length c298) rfl (by kernel_rfl)) ?_
                          obtain ⟨z364, hz365, h⟩ := bnd h
                          refine wc rfl rfl rfl (q_call (call_run Try.call23 rfl rfl (by kernel_rfl)) (fun w hw => t_firthref05_Same (Γ := Gh.all w) ((hx363 (ltq (inb_lt hk344) hn178.symm)).1.2.mono hw.sat.le_all) (hx363 (ltq (inb_lt hk344) hn178.symm)).1.1 ((hr299.mono (((hl313.trans hl323).trans hl331).trans hl351)).mono hw.sat.le_all) hc300 (Sat.all w) hz365)) ?_
                          refine wa rfl rfl rfl (q_beql Try.underlying4 rfl rfl rfl) ?_
                          refine wa rfl rfl rfl (q_move (v := .bool (z359 == z364)) rfl (by kernel_rfl)) ?_
                          refine wg0 rfl rfl rfl rfl rfl (fun hg366 => QV.qo (q_move (v := .slice A354 z348.1.length c355) rfl (by kernel_rfl))) ?_
                          refine wg0 rfl rfl rfl rfl rfl (fun hg367 => QV.qo (q_move (v := .slice A297 z291.length c298) rfl (by kernel_rfl))) ?_
                          obtain ⟨z369, hz370, h⟩ := bnd h
                          refine wg0 rfl rfl rfl rfl rfl (fun hg368 => (q_call (call_run Try.call23 rfl rfl (args2 (gu hg368 rfl) (gu hg368 rfl))) (fun w hw => t_firthref05_Same (Γ := Gh.all w) (hr356.mono hw.sat.le_all) hc357 ((hr299.mono (((hl313.trans hl323).trans hl331).trans hl351)).mono hw.sat.le_all) hc300 (Sat.all w) (gc_of hz370 hg368)))) ?_
                          refine wg0 rfl rfl rfl rfl rfl (fun hg371 => QV.qo (q_not rfl (gu hg371 rfl))) ?_
                          refine wa rfl rfl rfl (q_pick rfl rfl (pk_or' (g := (z359 == z364)) (y := (!z369)))) ?_
                          refine WQ.nil ?_
                          change WC _ _ _ _ _ _
                          refine WC.cif h (by kernel_rfl) (fun hb372 h => ?_) (fun hb372 h => ?_)
                          · skip
                            refine WC.rs ?_
                            refine va rfl rfl rfl (q_assign (v := .bool false) rfl (by kernel_rfl)) ?_
                            refine WR.nil ?_
                            change WC _ _ _ _ _ _
                            refine WC.ret ?_
                            intro w hw
                            obtain rfl := Option.some.inj h
                            subst hF
                            exact ⟨by kernel_rfl, hw.fr⟩
                          · skip
                            refine WC.skip ?_
                            intro w hw
                            exact ⟨Γ350, h, (sl_ (by kernel_rfl)), hw, hl351, trivial⟩
                      · skip
                        rintro σ w ⟨Γ339, h, hsl, hw, hl340, -⟩
                        refine Wpt.slots hsl ?_
                        refine WC.here (C := CC F Γ339 [row247, row328, row318, row173, row176, [(g1, .cells #[.int .i64 m.n, .int .i64 m.w_, .int .i64 m.r, .slice Am3 m.took.length cm3, .slice Am4 m.asked.length cm4] 52 (0, 0))]]) ?_ hw
                        clear hw hsl
                        refine WC.region ?_
                        refine va rfl rfl rfl (q_move (v := .int .i64 x_332) rfl (by kernel_rfl)) ?_
                        refine va rfl rfl rfl (q_add rfl rfl rfl) ?_
                        refine va rfl rfl rfl (q_assign (v := .int .i64 (w64 (x_332 + 1))) rfl (by kernel_rfl)) ?_
                        refine WR.nil ?_
                        intro w hw
                        exact ⟨(w64 (x_332 + 1)), h, Γ339, (sl_ (by kernel_rfl)), hw, (hl331.trans hl340), (w64_r _), trivial⟩
                    · skip
                      refine WC.exit ?_
                      change WC _ _ _ _ _ _
                      refine WC.rs ?_
                      refine va rfl rfl rfl (q_assign (v := .bool true) rfl (by kernel_rfl)) ?_
                      refine WR.nil ?_
                      change WC _ _ _ _ _ _
                      refine WC.ret ?_
                      intro w hw
                      obtain rfl := Option.some.inj h
                      subst hF
                      exact ⟨by kernel_rfl, hw.fr⟩
end Fw
end Go.Proofs.Ytlbdlkgboliikaa
