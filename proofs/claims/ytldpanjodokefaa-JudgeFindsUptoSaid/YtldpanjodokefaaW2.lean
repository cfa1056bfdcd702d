/- Walks through the functions that the law reaches (printed by a program). No condition. -/
import Derived.Test.YtldpanjodokefaaW1
namespace Go.Proofs.Ytldpanjodokefaa
namespace Fw
set_option linter.unusedVariables false
set_option linter.unusedSimpArgs false
set_option linter.unusedSectionVars false
open Go.RowKit
set_option maxRecDepth 100000 in
set_option maxHeartbeats 400000 in
theorem t_firthlaw23_awake {Γ : Gh} {w0 : World}  (hs : Sat Γ w0) {r : Bool} (h : m_firthlaw23_awake = some r) : Calls Try.prog 7 #[] w0 (fun e w' => e = .returned (.bool r) ∧ Fr no w0 w') := by
  refine calls_of (N := 57) (rs := [0]) (args := []) Try.func7 rfl Try.ntmps7 Try.results7 rfl ?_
  obtain ⟨F, hF⟩ : ∃ F : Fm, F = ⟨no, w0, Γ⟩ := ⟨_, rfl⟩
  refine WC.here (C := CC F Γ []) ?_ (hF ▸ Cur.start0 hs)
  refine WC.rs ?_
  refine va rfl rfl rfl (q_assign (v := .bool false) rfl (by kernel_rfl)) ?_
  refine WR.nil ?_
  change WC _ _ _ _ _ _
  refine WC.rs ?_
  obtain ⟨z1, hz2, h⟩ := bnd h
  refine vc rfl rfl rfl (q_call (call_run Try.call8 rfl rfl (by kernel_rfl)) (fun w hw => t_firthlaw23_dot (Γ := Gh.all w) 1 (show I64 1 by decide) 1 (show I64 1 by decide) (Sat.all w) hz2)) ?_
  refine va rfl rfl rfl (q_build' (v := .agg #[.bool false, .int .i64 1, .string (⟨#[107]⟩ : ByteArray), .int .i64 z1.s, .int .i64 z1.n, .bool true, .slice none 0 0, .slice none 0 0]) rfl (bargs4 rfl rfl rfl rfl) (fun w => by kernel_rfl)) ?_
  obtain ⟨z3, hz4, h⟩ := bnd h
  refine vc rfl rfl rfl (q_call (call_run Try.call8 rfl rfl (by kernel_rfl)) (fun w hw => t_firthlaw23_dot (Γ := Gh.all w) 1 (show I64 1 by decide) 2 (show I64 2 by decide) (Sat.all w) hz4)) ?_
  refine va rfl rfl rfl (q_build' (v := .agg #[.bool false, .int .i64 1, .string (⟨#[107]⟩ : ByteArray), .int .i64 z3.s, .int .i64 z3.n, .bool true, .slice none 0 0, .slice none 0 0]) rfl (bargs4 rfl rfl rfl rfl) (fun w => by kernel_rfl)) ?_
  obtain ⟨z5, hz6, h⟩ := bnd h
  refine vc rfl rfl rfl (q_call (call_run Try.call8 rfl rfl (by kernel_rfl)) (fun w hw => t_firthlaw23_dot (Γ := Gh.all w) 1 (show I64 1 by decide) 2 (show I64 2 by decide) (Sat.all w) hz6)) ?_
  refine e_buildSlice (cs := #[.int .i64 z5.s, .int .i64 z5.n]) (e := 27) rfl rfl rfl rfl (fun w => by kernel_rfl) ?_
  intro g7
  refine e_buildSlice (cs := #[.int .i64 2, .int .i64 0]) (e := 2) rfl rfl rfl rfl (fun w => by kernel_rfl) ?_
  intro g8
  refine va rfl rfl rfl (q_build' (v := .agg #[.bool true, .int .i64 3, .string (⟨#[107]⟩ : ByteArray), .int .i64 0, .int .i64 0, .bool true, .slice (some ⟨g7, 0, none⟩) 1 1, .slice (some ⟨g8, 0, none⟩) 2 2]) rfl (bargs6 rfl rfl rfl rfl rfl rfl) (fun w => by kernel_rfl)) ?_
  obtain ⟨z9, hz10, h⟩ := bnd h
  refine vc rfl rfl rfl (q_call (call_run Try.call8 rfl rfl (by kernel_rfl)) (fun w hw => t_firthlaw23_dot (Γ := Gh.all w) 2 (show I64 2 by decide) 1 (show I64 1 by decide) (Sat.all w) hz10)) ?_
  refine va rfl rfl rfl (q_build' (v := .agg #[.bool false, .int .i64 3, .string (⟨#[107]⟩ : ByteArray), .int .i64 z9.s, .int .i64 z9.n, .bool true, .slice none 0 0, .slice none 0 0]) rfl (bargs4 rfl rfl rfl rfl) (fun w => by kernel_rfl)) ?_
  obtain ⟨hk11, h⟩ := chk_some h
  obtain ⟨hk12, h⟩ := chk_some h
  have ho13 : Own dotT Γ 27 [(g7, .cells #[.int .i64 z5.s, .int .i64 z5.n] 27 (0, 0))] (some ⟨g7, 0, none⟩) 1 [z5] := Own.of_blockL (T := dotT) (ys := [z5]) [[.int .i64 z5.s, .int .i64 z5.n]] rfl (show 1 ≤ lim by decide) (show Ty.rd dotT Γ [.int .i64 z5.s, .int .i64 z5.n] z5 ∧ True from ⟨⟨rfl, ⟨(i64b_of hk11), (i64b_of hk12)⟩⟩, trivial⟩)
  have hc18 := ho13.capz
  intro w hw; obtain ⟨Γ14, hw, hl15, hr16⟩ := hw.seal (i := 1) rfl; have hs17 := ho13.sl hl15 hr16
  refine WR.here (C := CC F Γ14 [[(g8, .cells #[.int .i64 2, .int .i64 0] 2 (0, 0))], []]) ?_ hw
  clear hw
  have ho19 : Own intT Γ14 2 [(g8, .cells #[.int .i64 2, .int .i64 0] 2 (0, 0))] (some ⟨g8, 0, none⟩) 2 [2, 0] := Own.of_blockL (T := intT) (ys := [2, 0]) [[.int .i64 2], [.int .i64 0]] rfl (show 2 ≤ lim by decide) (show Ty.rd intT Γ14 [.int .i64 2] 2 ∧ Ty.rd intT Γ14 [.int .i64 0] 0 ∧ True from ⟨⟨rfl, (show I64 2 by decide)⟩, ⟨rfl, (show I64 0 by decide)⟩, trivial⟩)
  have hc24 := ho19.capz
  intro w hw; obtain ⟨Γ20, hw, hl21, hr22⟩ := hw.seal (i := 0) rfl; have hs23 := ho19.sl hl21 hr22
  refine WR.here (C := CC F Γ20 [[], []]) ?_ hw
  clear hw
  refine e_buildSlice (cs := #[.bool false, .int .i64 1, .string (⟨#[107]⟩ : ByteArray), .int .i64 z1.s, .int .i64 z1.n, .bool true, .slice none 0 0, .slice none 0 0, .bool false, .int .i64 1, .string (⟨#[107]⟩ : ByteArray), .int .i64 z3.s, .int .i64 z3.n, .bool true, .slice none 0 0, .slice none 0 0, .bool true, .int .i64 3, .string (⟨#[107]⟩ : ByteArray), .int .i64 0, .int .i64 0, .bool true, .slice (some ⟨g7, 0, none⟩) [z5].length 1, .slice (some ⟨g8, 0, none⟩) [2, 0].length 2, .bool false, .int .i64 3, .string (⟨#[107]⟩ : ByteArray), .int .i64 z9.s, .int .i64 z9.n, .bool true, .slice none 0 0, .slice none 0 0]) (e := 32) rfl rfl rfl rfl (fun w => by kernel_rfl) ?_
  intro g25
  refine va rfl rfl rfl (q_assign (v := .slice (some ⟨g25, 0, none⟩) 4 4) rfl (by kernel_rfl)) ?_
  refine WR.nil ?_
  change WC _ _ _ _ _ _
  refine WC.rs ?_
  refine va rfl rfl rfl (q_move (v := .slice (some ⟨g25, 0, none⟩) 4 4) rfl (by kernel_rfl)) ?_
  obtain ⟨hk26, h⟩ := chk_some h
  obtain ⟨hk27, h⟩ := chk_some h
  obtain ⟨hk28, h⟩ := chk_some h
  obtain ⟨hk29, h⟩ := chk_some h
  obtain ⟨hk30, h⟩ := chk_some h
  obtain ⟨hk31, h⟩ := chk_some h
  have ho32 : Own djudge_ActT Γ20 32 [(g25, .cells #[.bool false, .int .i64 1, .string (⟨#[107]⟩ : ByteArray), .int .i64 z1.s, .int .i64 z1.n, .bool true, .slice none 0 0, .slice none 0 0, .bool false, .int .i64 1, .string (⟨#[107]⟩ : ByteArray), .int .i64 z3.s, .int .i64 z3.n, .bool true, .slice none 0 0, .slice none 0 0, .bool true, .int .i64 3, .string (⟨#[107]⟩ : ByteArray), .int .i64 0, .int .i64 0, .bool true, .slice (some ⟨g7, 0, none⟩) [z5].length 1, .slice (some ⟨g8, 0, none⟩) [2, 0].length 2, .bool false, .int .i64 3, .string (⟨#[107]⟩ : ByteArray), .int .i64 z9.s, .int .i64 z9.n, .bool true, .slice none 0 0, .slice none 0 0] 32 (0, 0))] (some ⟨g25, 0, none⟩) 4 [(⟨false, 1, (⟨#[107]⟩ : ByteArray), (⟨z1.s, z1.n⟩ : Dot), true, [], []⟩ : Djudge_Act), (⟨false, 1, (⟨#[107]⟩ : ByteArray), (⟨z3.s, z3.n⟩ : Dot), true, [], []⟩ : Djudge_Act), (⟨true, 3, (⟨#[107]⟩ : ByteArray), (⟨0, 0⟩ : Dot), true, [z5], [2, 0]⟩ : Djudge_Act), (⟨false, 3, (⟨#[107]⟩ : ByteArray), (⟨z9.s, z9.n⟩ : Dot), true, [], []⟩ : Djudge_Act)] := Own.of_blockL (T := djudge_ActT) (ys := [(⟨false, 1, (⟨#[107]⟩ : ByteArray), (⟨z1.s, z1.n⟩ : Dot), true, [], []⟩ : Djudge_Act), (⟨false, 1, (⟨#[107]⟩ : ByteArray), (⟨z3.s, z3.n⟩ : Dot), true, [], []⟩ : Djudge_Act), (⟨true, 3, (⟨#[107]⟩ : ByteArray), (⟨0, 0⟩ : Dot), true, [z5], [2, 0]⟩ : Djudge_Act), (⟨false, 3, (⟨#[107]⟩ : ByteArray), (⟨z9.s, z9.n⟩ : Dot), true, [], []⟩ : Djudge_Act)]) [[.bool false, .int .i64 1, .string (⟨#[107]⟩ : ByteArray), .int .i64 z1.s, .int .i64 z1.n, .bool true, .slice none 0 0, .slice none 0 0], [.bool false, .int .i64 1, .string (⟨#[107]⟩ : ByteArray), .int .i64 z3.s, .int .i64 z3.n, .bool true, .slice none 0 0, .slice none 0 0], [.bool true, .int .i64 3, .string (⟨#[107]⟩ : ByteArray), .int .i64 0, .int .i64 0, .bool true, .slice (some ⟨g7, 0, none⟩) [z5].length 1, .slice (some ⟨g8, 0, none⟩) [2, 0].length 2], [.bool false, .int .i64 3, .string (⟨#[107]⟩ : ByteArray), .int .i64 z9.s, .int .i64 z9.n, .bool true, .slice none 0 0, .slice none 0 0]] rfl (show 4 ≤ lim by decide) (show Ty.rd djudge_ActT Γ20 [.bool false, .int .i64 1, .string (⟨#[107]⟩ : ByteArray), .int .i64 z1.s, .int .i64 z1.n, .bool true, .slice none 0 0, .slice none 0 0] (⟨false, 1, (⟨#[107]⟩ : ByteArray), (⟨z1.s, z1.n⟩ : Dot), true, [], []⟩ : Djudge_Act) ∧ Ty.rd djudge_ActT Γ20 [.bool false, .int .i64 1, .string (⟨#[107]⟩ : ByteArray), .int .i64 z3.s, .int .i64 z3.n, .bool true, .slice none 0 0, .slice none 0 0] (⟨false, 1, (⟨#[107]⟩ : ByteArray), (⟨z3.s, z3.n⟩ : Dot), true, [], []⟩ : Djudge_Act) ∧ Ty.rd djudge_ActT Γ20 [.bool true, .int .i64 3, .string (⟨#[107]⟩ : ByteArray), .int .i64 0, .int .i64 0, .bool true, .slice (some ⟨g7, 0, none⟩) [z5].length 1, .slice (some ⟨g8, 0, none⟩) [2, 0].length 2] (⟨true, 3, (⟨#[107]⟩ : ByteArray), (⟨0, 0⟩ : Dot), true, [z5], [2, 0]⟩ : Djudge_Act) ∧ Ty.rd djudge_ActT Γ20 [.bool false, .int .i64 3, .string (⟨#[107]⟩ : ByteArray), .int .i64 z9.s, .int .i64 z9.n, .bool true, .slice none 0 0, .slice none 0 0] (⟨false, 3, (⟨#[107]⟩ : ByteArray), (⟨z9.s, z9.n⟩ : Dot), true, [], []⟩ : Djudge_Act) ∧ True from ⟨⟨none, 0, none, 0, rfl, ⟨(show I64 1 by decide), (show (⟨#[107]⟩ : ByteArray).size ≤ lim by decide), (i64b_of hk26), (i64b_of hk27), ⟨Nat.zero_le _, Sl.nil _ _ _⟩, ⟨Nat.zero_le _, Sl.nil _ _ _⟩⟩⟩, ⟨none, 0, none, 0, rfl, ⟨(show I64 1 by decide), (show (⟨#[107]⟩ : ByteArray).size ≤ lim by decide), (i64b_of hk28), (i64b_of hk29), ⟨Nat.zero_le _, Sl.nil _ _ _⟩, ⟨Nat.zero_le _, Sl.nil _ _ _⟩⟩⟩, ⟨(some ⟨g7, 0, none⟩), 1, (some ⟨g8, 0, none⟩), 2, rfl, ⟨(show I64 3 by decide), (show (⟨#[107]⟩ : ByteArray).size ≤ lim by decide), (show I64 0 by decide), (show I64 0 by decide), ⟨hc18, (hs17.mono hl21)⟩, ⟨hc24, hs23⟩⟩⟩, ⟨none, 0, none, 0, rfl, ⟨(show I64 3 by decide), (show (⟨#[107]⟩ : ByteArray).size ≤ lim by decide), (i64b_of hk30), (i64b_of hk31), ⟨Nat.zero_le _, Sl.nil _ _ _⟩, ⟨Nat.zero_le _, Sl.nil _ _ _⟩⟩⟩, trivial⟩)
  obtain ⟨z33, hz34, h⟩ := bnd h
  refine e_callB (is := []) (Lent.nil F) rfl rfl (call_run Try.call14 rfl rfl (by kernel_rfl)) rfl (fun w Θ hp hpB hle hleB hR => t_judge_Judge_l0 (own_lent ho32 hR (List.mem_of_getElem? (i := 0) rfl) hle) ho32.capz hp hpB hz34) ?_
  rintro Γ35 U37 v38 hl36 ⟨rfl, rfl, hr39, hr40, _⟩
  change WR _ _ _ (CC F Γ35 [[(g25, .cells #[.bool false, .int .i64 1, .string (⟨#[107]⟩ : ByteArray), .int .i64 z1.s, .int .i64 z1.n, .bool true, .slice none 0 0, .slice none 0 0, .bool false, .int .i64 1, .string (⟨#[107]⟩ : ByteArray), .int .i64 z3.s, .int .i64 z3.n, .bool true, .slice none 0 0, .slice none 0 0, .bool true, .int .i64 3, .string (⟨#[107]⟩ : ByteArray), .int .i64 0, .int .i64 0, .bool true, .slice (some ⟨g7, 0, none⟩) [z5].length 1, .slice (some ⟨g8, 0, none⟩) [2, 0].length 2, .bool false, .int .i64 3, .string (⟨#[107]⟩ : ByteArray), .int .i64 z9.s, .int .i64 z9.n, .bool true, .slice none 0 0, .slice none 0 0] 32 (0, 0))], [], []]) _ _ (upd _ 20 (.tuple #[.int .i64 z33.1, .int .i64 z33.2]))
  refine va rfl rfl rfl (q_move (v := .tuple #[.int .i64 z33.1, .int .i64 z33.2]) rfl (by kernel_rfl)) ?_
  refine va rfl rfl rfl (q_extract (v := .int .i64 z33.1) rfl rfl rfl) ?_
  refine va rfl rfl rfl (q_extract (v := .int .i64 z33.2) rfl rfl rfl) ?_
  refine va rfl rfl rfl (q_assign (v := .int .i64 z33.1) rfl (by kernel_rfl)) ?_
  refine va rfl rfl rfl (q_assign (v := .int .i64 z33.2) rfl (by kernel_rfl)) ?_
  refine WR.nil ?_
  change WC _ _ _ _ _ _
  refine WC.rs ?_
  refine va rfl rfl rfl (q_move (v := .slice (some ⟨g25, 0, none⟩) 4 4) rfl (by kernel_rfl)) ?_
  obtain ⟨z41, hz42, h⟩ := bnd h
  refine vc rfl rfl rfl (q_call (call_run Try.call8 rfl rfl (by kernel_rfl)) (fun w hw => t_firthlaw23_dot (Γ := Gh.all w) 2 (show I64 2 by decide) 1 (show I64 1 by decide) (Sat.all w) hz42)) ?_
  obtain ⟨hk43, h⟩ := chk_some h
  obtain ⟨hk44, h⟩ := chk_some h
  obtain ⟨z45, hz46, h⟩ := bnd h
  refine e_callB (is := []) (Lent.nil F) rfl rfl (call_run Try.call9 rfl rfl (by kernel_rfl)) rfl (fun w Θ hp hpB hle hleB hR => t_judge_Behind_l0 (own_lent (ho32.mono hl36) hR (List.mem_of_getElem? (i := 0) rfl) hle) (ho32.mono hl36).capz z41 (Dot.fits_mono ⟨(i64b_of hk43), (i64b_of hk44)⟩ hle) hp hpB hz46) ?_
  rintro Γ47 U49 v50 hl48 ⟨A51, c52, row53, rfl, rfl, hr54, _⟩
  change WR _ _ _ (CC F Γ47 [row53, [(g25, .cells #[.bool false, .int .i64 1, .string (⟨#[107]⟩ : ByteArray), .int .i64 z1.s, .int .i64 z1.n, .bool true, .slice none 0 0, .slice none 0 0, .bool false, .int .i64 1, .string (⟨#[107]⟩ : ByteArray), .int .i64 z3.s, .int .i64 z3.n, .bool true, .slice none 0 0, .slice none 0 0, .bool true, .int .i64 3, .string (⟨#[107]⟩ : ByteArray), .int .i64 0, .int .i64 0, .bool true, .slice (some ⟨g7, 0, none⟩) [z5].length 1, .slice (some ⟨g8, 0, none⟩) [2, 0].length 2, .bool false, .int .i64 3, .string (⟨#[107]⟩ : ByteArray), .int .i64 z9.s, .int .i64 z9.n, .bool true, .slice none 0 0, .slice none 0 0] 32 (0, 0))], [], []]) _ _ (upd _ 25 (.slice A51 z45.length c52))
  refine va rfl rfl rfl (q_assign (v := .slice A51 z45.length c52) rfl (by kernel_rfl)) ?_
  refine WR.nil ?_
  change WC _ _ _ _ _ _
  refine WC.rs ?_
  refine va rfl rfl rfl (q_move (v := .slice (some ⟨g25, 0, none⟩) 4 4) rfl (by kernel_rfl)) ?_
  obtain ⟨z55, hz56, h⟩ := bnd h
  refine vc rfl rfl rfl (q_call (call_run Try.call8 rfl rfl (by kernel_rfl)) (fun w hw => t_firthlaw23_dot (Γ := Gh.all w) 1 (show I64 1 by decide) 1 (show I64 1 by decide) (Sat.all w) hz56)) ?_
  refine e_buildSlice (cs := #[.int .i64 z55.s, .int .i64 z55.n]) (e := 27) rfl rfl rfl rfl (fun w => by kernel_rfl) ?_
  intro g57
  refine va rfl rfl rfl (q_ixn (i := 2) Try.underlying24 Try.sizeOf32 rfl rfl rfl (by decide) ((ho32.mono (hl36.trans hl48)).some_ (show 2 < List.length [(⟨false, 1, (⟨#[107]⟩ : ByteArray), (⟨z1.s, z1.n⟩ : Dot), true, [], []⟩ : Djudge_Act), (⟨false, 1, (⟨#[107]⟩ : ByteArray), (⟨z3.s, z3.n⟩ : Dot), true, [], []⟩ : Djudge_Act), (⟨true, 3, (⟨#[107]⟩ : ByteArray), (⟨0, 0⟩ : Dot), true, [z5], [2, 0]⟩ : Djudge_Act), (⟨false, 3, (⟨#[107]⟩ : ByteArray), (⟨z9.s, z9.n⟩ : Dot), true, [], []⟩ : Djudge_Act)] from Nat.le_of_ble_eq_true rfl))) ?_
  refine va rfl rfl rfl (q_field_addr (2 * 8 + 6) fld_32_5 rfl rfl ((ho32.mono (hl36.trans hl48)).some_ (show 2 < List.length [(⟨false, 1, (⟨#[107]⟩ : ByteArray), (⟨z1.s, z1.n⟩ : Dot), true, [], []⟩ : Djudge_Act), (⟨false, 1, (⟨#[107]⟩ : ByteArray), (⟨z3.s, z3.n⟩ : Dot), true, [], []⟩ : Djudge_Act), (⟨true, 3, (⟨#[107]⟩ : ByteArray), (⟨0, 0⟩ : Dot), true, [z5], [2, 0]⟩ : Djudge_Act), (⟨false, 3, (⟨#[107]⟩ : ByteArray), (⟨z9.s, z9.n⟩ : Dot), true, [], []⟩ : Djudge_Act)] from Nat.le_of_ble_eq_true rfl)) rfl) ?_
  obtain ⟨hk58, h⟩ := chk_some h
  obtain ⟨hk59, h⟩ := chk_some h
  have ho60 : Own dotT Γ47 27 [(g57, .cells #[.int .i64 z55.s, .int .i64 z55.n] 27 (0, 0))] (some ⟨g57, 0, none⟩) 1 [z55] := Own.of_blockL (T := dotT) (ys := [z55]) [[.int .i64 z55.s, .int .i64 z55.n]] rfl (show 1 ≤ lim by decide) (show Ty.rd dotT Γ47 [.int .i64 z55.s, .int .i64 z55.n] z55 ∧ True from ⟨⟨rfl, ⟨(i64b_of hk58), (i64b_of hk59)⟩⟩, trivial⟩)
  have hc65 := ho60.capz
  intro w hw; obtain ⟨Γ61, hw, hl62, hr63⟩ := hw.seal (i := 0) rfl; have hs64 := ho60.sl hl62 hr63
  refine WR.here (C := CC F Γ61 [[], row53, [(g25, .cells #[.bool false, .int .i64 1, .string (⟨#[107]⟩ : ByteArray), .int .i64 z1.s, .int .i64 z1.n, .bool true, .slice none 0 0, .slice none 0 0, .bool false, .int .i64 1, .string (⟨#[107]⟩ : ByteArray), .int .i64 z3.s, .int .i64 z3.n, .bool true, .slice none 0 0, .slice none 0 0, .bool true, .int .i64 3, .string (⟨#[107]⟩ : ByteArray), .int .i64 0, .int .i64 0, .bool true, .slice (some ⟨g7, 0, none⟩) [z5].length 1, .slice (some ⟨g8, 0, none⟩) [2, 0].length 2, .bool false, .int .i64 3, .string (⟨#[107]⟩ : ByteArray), .int .i64 z9.s, .int .i64 z9.n, .bool true, .slice none 0 0, .slice none 0 0] 32 (0, 0))], [], []]) ?_ hw
  clear hw
  obtain ⟨A66, c67, A68, c69, hx70⟩ := (ho32.mono ((hl36.trans hl48).trans hl62)).djudge_ActT_at 2
  refine e_store_part (T := djudge_ActT) (q := 2) (f := 6) (v := .slice (some ⟨g57, 0, none⟩) [z55].length 1) (vs := [.slice (some ⟨g57, 0, none⟩) [z55].length 1]) (cs := [.bool (gt [(⟨false, 1, (⟨#[107]⟩ : ByteArray), (⟨z1.s, z1.n⟩ : Dot), true, [], []⟩ : Djudge_Act), (⟨false, 1, (⟨#[107]⟩ : ByteArray), (⟨z3.s, z3.n⟩ : Dot), true, [], []⟩ : Djudge_Act), (⟨true, 3, (⟨#[107]⟩ : ByteArray), (⟨0, 0⟩ : Dot), true, [z5], [2, 0]⟩ : Djudge_Act), (⟨false, 3, (⟨#[107]⟩ : ByteArray), (⟨z9.s, z9.n⟩ : Dot), true, [], []⟩ : Djudge_Act)] 2).read, .int .i64 (gt [(⟨false, 1, (⟨#[107]⟩ : ByteArray), (⟨z1.s, z1.n⟩ : Dot), true, [], []⟩ : Djudge_Act), (⟨false, 1, (⟨#[107]⟩ : ByteArray), (⟨z3.s, z3.n⟩ : Dot), true, [], []⟩ : Djudge_Act), (⟨true, 3, (⟨#[107]⟩ : ByteArray), (⟨0, 0⟩ : Dot), true, [z5], [2, 0]⟩ : Djudge_Act), (⟨false, 3, (⟨#[107]⟩ : ByteArray), (⟨z9.s, z9.n⟩ : Dot), true, [], []⟩ : Djudge_Act)] 2).sess, .string (gt [(⟨false, 1, (⟨#[107]⟩ : ByteArray), (⟨z1.s, z1.n⟩ : Dot), true, [], []⟩ : Djudge_Act), (⟨false, 1, (⟨#[107]⟩ : ByteArray), (⟨z3.s, z3.n⟩ : Dot), true, [], []⟩ : Djudge_Act), (⟨true, 3, (⟨#[107]⟩ : ByteArray), (⟨0, 0⟩ : Dot), true, [z5], [2, 0]⟩ : Djudge_Act), (⟨false, 3, (⟨#[107]⟩ : ByteArray), (⟨z9.s, z9.n⟩ : Dot), true, [], []⟩ : Djudge_Act)] 2).key, .int .i64 (gt [(⟨false, 1, (⟨#[107]⟩ : ByteArray), (⟨z1.s, z1.n⟩ : Dot), true, [], []⟩ : Djudge_Act), (⟨false, 1, (⟨#[107]⟩ : ByteArray), (⟨z3.s, z3.n⟩ : Dot), true, [], []⟩ : Djudge_Act), (⟨true, 3, (⟨#[107]⟩ : ByteArray), (⟨0, 0⟩ : Dot), true, [z5], [2, 0]⟩ : Djudge_Act), (⟨false, 3, (⟨#[107]⟩ : ByteArray), (⟨z9.s, z9.n⟩ : Dot), true, [], []⟩ : Djudge_Act)] 2).dot.s, .int .i64 (gt [(⟨false, 1, (⟨#[107]⟩ : ByteArray), (⟨z1.s, z1.n⟩ : Dot), true, [], []⟩ : Djudge_Act), (⟨false, 1, (⟨#[107]⟩ : ByteArray), (⟨z3.s, z3.n⟩ : Dot), true, [], []⟩ : Djudge_Act), (⟨true, 3, (⟨#[107]⟩ : ByteArray), (⟨0, 0⟩ : Dot), true, [z5], [2, 0]⟩ : Djudge_Act), (⟨false, 3, (⟨#[107]⟩ : ByteArray), (⟨z9.s, z9.n⟩ : Dot), true, [], []⟩ : Djudge_Act)] 2).dot.n, .bool (gt [(⟨false, 1, (⟨#[107]⟩ : ByteArray), (⟨z1.s, z1.n⟩ : Dot), true, [], []⟩ : Djudge_Act), (⟨false, 1, (⟨#[107]⟩ : ByteArray), (⟨z3.s, z3.n⟩ : Dot), true, [], []⟩ : Djudge_Act), (⟨true, 3, (⟨#[107]⟩ : ByteArray), (⟨0, 0⟩ : Dot), true, [z5], [2, 0]⟩ : Djudge_Act), (⟨false, 3, (⟨#[107]⟩ : ByteArray), (⟨z9.s, z9.n⟩ : Dot), true, [], []⟩ : Djudge_Act)] 2).oK, .slice A66 ((gt [(⟨false, 1, (⟨#[107]⟩ : ByteArray), (⟨z1.s, z1.n⟩ : Dot), true, [], []⟩ : Djudge_Act), (⟨false, 1, (⟨#[107]⟩ : ByteArray), (⟨z3.s, z3.n⟩ : Dot), true, [], []⟩ : Djudge_Act), (⟨true, 3, (⟨#[107]⟩ : ByteArray), (⟨0, 0⟩ : Dot), true, [z5], [2, 0]⟩ : Djudge_Act), (⟨false, 3, (⟨#[107]⟩ : ByteArray), (⟨z9.s, z9.n⟩ : Dot), true, [], []⟩ : Djudge_Act)] 2).reads).length c67, .slice A68 ((gt [(⟨false, 1, (⟨#[107]⟩ : ByteArray), (⟨z1.s, z1.n⟩ : Dot), true, [], []⟩ : Djudge_Act), (⟨false, 1, (⟨#[107]⟩ : ByteArray), (⟨z3.s, z3.n⟩ : Dot), true, [], []⟩ : Djudge_Act), (⟨true, 3, (⟨#[107]⟩ : ByteArray), (⟨0, 0⟩ : Dot), true, [z5], [2, 0]⟩ : Djudge_Act), (⟨false, 3, (⟨#[107]⟩ : ByteArray), (⟨z9.s, z9.n⟩ : Dot), true, [], []⟩ : Djudge_Act)] 2).seen).length c69]) (new := [.bool (gt [(⟨false, 1, (⟨#[107]⟩ : ByteArray), (⟨z1.s, z1.n⟩ : Dot), true, [], []⟩ : Djudge_Act), (⟨false, 1, (⟨#[107]⟩ : ByteArray), (⟨z3.s, z3.n⟩ : Dot), true, [], []⟩ : Djudge_Act), (⟨true, 3, (⟨#[107]⟩ : ByteArray), (⟨0, 0⟩ : Dot), true, [z5], [2, 0]⟩ : Djudge_Act), (⟨false, 3, (⟨#[107]⟩ : ByteArray), (⟨z9.s, z9.n⟩ : Dot), true, [], []⟩ : Djudge_Act)] 2).read, .int .i64 (gt [(⟨false, 1, (⟨#[107]⟩ : ByteArray), (⟨z1.s, z1.n⟩ : Dot), true, [], []⟩ : Djudge_Act), (⟨false, 1, (⟨#[107]⟩ : ByteArray), (⟨z3.s, z3.n⟩ : Dot), true, [], []⟩ : Djudge_Act), (⟨true, 3, (⟨#[107]⟩ : ByteArray), (⟨0, 0⟩ : Dot), true, [z5], [2, 0]⟩ : Djudge_Act), (⟨false, 3, (⟨#[107]⟩ : ByteArray), (⟨z9.s, z9.n⟩ : Dot), true, [], []⟩ : Djudge_Act)] 2).sess, .string (gt [(⟨false, 1, (⟨#[107]⟩ : ByteArray), (⟨z1.s, z1.n⟩ : Dot), true, [], []⟩ : Djudge_Act), (⟨false, 1, (⟨#[107]⟩ : ByteArray), (⟨z3.s, z3.n⟩ : Dot), true, [], []⟩ : Djudge_Act), (⟨true, 3, (⟨#[107]⟩ : ByteArray), (⟨0, 0⟩ : Dot), true, [z5], [2, 0]⟩ : Djudge_Act), (⟨false, 3, (⟨#[107]⟩ : ByteArray), (⟨z9.s, z9.n⟩ : Dot), true, [], []⟩ : Djudge_Act)] 2).key, .int .i64 (gt [(⟨false, 1, (⟨#[107]⟩ : ByteArray), (⟨z1.s, z1.n⟩ : Dot), true, [], []⟩ : Djudge_Act), (⟨false, 1, (⟨#[107]⟩ : ByteArray), (⟨z3.s, z3.n⟩ : Dot), true, [], []⟩ : Djudge_Act), (⟨true, 3, (⟨#[107]⟩ : ByteArray), (⟨0, 0⟩ : Dot), true, [z5], [2, 0]⟩ : Djudge_Act), (⟨false, 3, (⟨#[107]⟩ : ByteArray), (⟨z9.s, z9.n⟩ : Dot), true, [], []⟩ : Djudge_Act)] 2).dot.s, .int .i64 (gt [(⟨false, 1, (⟨#[107]⟩ : ByteArray), (⟨z1.s, z1.n⟩ : Dot), true, [], []⟩ : Djudge_Act), (⟨false, 1, (⟨#[107]⟩ : ByteArray), (⟨z3.s, z3.n⟩ : Dot), true, [], []⟩ : Djudge_Act), (⟨true, 3, (⟨#[107]⟩ : ByteArray), (⟨0, 0⟩ : Dot), true, [z5], [2, 0]⟩ : Djudge_Act), (⟨false, 3, (⟨#[107]⟩ : ByteArray), (⟨z9.s, z9.n⟩ : Dot), true, [], []⟩ : Djudge_Act)] 2).dot.n, .bool (gt [(⟨false, 1, (⟨#[107]⟩ : ByteArray), (⟨z1.s, z1.n⟩ : Dot), true, [], []⟩ : Djudge_Act), (⟨false, 1, (⟨#[107]⟩ : ByteArray), (⟨z3.s, z3.n⟩ : Dot), true, [], []⟩ : Djudge_Act), (⟨true, 3, (⟨#[107]⟩ : ByteArray), (⟨0, 0⟩ : Dot), true, [z5], [2, 0]⟩ : Djudge_Act), (⟨false, 3, (⟨#[107]⟩ : ByteArray), (⟨z9.s, z9.n⟩ : Dot), true, [], []⟩ : Djudge_Act)] 2).oK, .slice (some ⟨g57, 0, none⟩) [z55].length 1, .slice A68 ((gt [(⟨false, 1, (⟨#[107]⟩ : ByteArray), (⟨z1.s, z1.n⟩ : Dot), true, [], []⟩ : Djudge_Act), (⟨false, 1, (⟨#[107]⟩ : ByteArray), (⟨z3.s, z3.n⟩ : Dot), true, [], []⟩ : Djudge_Act), (⟨true, 3, (⟨#[107]⟩ : ByteArray), (⟨0, 0⟩ : Dot), true, [z5], [2, 0]⟩ : Djudge_Act), (⟨false, 3, (⟨#[107]⟩ : ByteArray), (⟨z9.s, z9.n⟩ : Dot), true, [], []⟩ : Djudge_Act)] 2).seen).length c69]) (y := (⟨(gt [(⟨false, 1, (⟨#[107]⟩ : ByteArray), (⟨z1.s, z1.n⟩ : Dot), true, [], []⟩ : Djudge_Act), (⟨false, 1, (⟨#[107]⟩ : ByteArray), (⟨z3.s, z3.n⟩ : Dot), true, [], []⟩ : Djudge_Act), (⟨true, 3, (⟨#[107]⟩ : ByteArray), (⟨0, 0⟩ : Dot), true, [z5], [2, 0]⟩ : Djudge_Act), (⟨false, 3, (⟨#[107]⟩ : ByteArray), (⟨z9.s, z9.n⟩ : Dot), true, [], []⟩ : Djudge_Act)] 2).read, (gt [(⟨false, 1, (⟨#[107]⟩ : ByteArray), (⟨z1.s, z1.n⟩ : Dot), true, [], []⟩ : Djudge_Act), (⟨false, 1, (⟨#[107]⟩ : ByteArray), (⟨z3.s, z3.n⟩ : Dot), true, [], []⟩ : Djudge_Act), (⟨true, 3, (⟨#[107]⟩ : ByteArray), (⟨0, 0⟩ : Dot), true, [z5], [2, 0]⟩ : Djudge_Act), (⟨false, 3, (⟨#[107]⟩ : ByteArray), (⟨z9.s, z9.n⟩ : Dot), true, [], []⟩ : Djudge_Act)] 2).sess, (gt [(⟨false, 1, (⟨#[107]⟩ : ByteArray), (⟨z1.s, z1.n⟩ : Dot), true, [], []⟩ : Djudge_Act), (⟨false, 1, (⟨#[107]⟩ : ByteArray), (⟨z3.s, z3.n⟩ : Dot), true, [], []⟩ : Djudge_Act), (⟨true, 3, (⟨#[107]⟩ : ByteArray), (⟨0, 0⟩ : Dot), true, [z5], [2, 0]⟩ : Djudge_Act), (⟨false, 3, (⟨#[107]⟩ : ByteArray), (⟨z9.s, z9.n⟩ : Dot), true, [], []⟩ : Djudge_Act)] 2).key, (⟨(gt [(⟨false, 1, (⟨#[107]⟩ : ByteArray), (⟨z1.s, z1.n⟩ : Dot), true, [], []⟩ : Djudge_Act), (⟨false, 1, (⟨#[107]⟩ : ByteArray), (⟨z3.s, z3.n⟩ : Dot), true, [], []⟩ : Djudge_Act), (⟨true, 3, (⟨#[107]⟩ : ByteArray), (⟨0, 0⟩ : Dot), true, [z5], [2, 0]⟩ : Djudge_Act), (⟨false, 3, (⟨#[107]⟩ : ByteArray), (⟨z9.s, z9.n⟩ : Dot), true, [], []⟩ : Djudge_Act)] 2).dot.s, (gt [(⟨false, 1, (⟨#[107]⟩ : ByteArray), (⟨z1.s, z1.n⟩ : Dot), true, [], []⟩ : Djudge_Act), (⟨false, 1, (⟨#[107]⟩ : ByteArray), (⟨z3.s, z3.n⟩ : Dot), true, [], []⟩ : Djudge_Act), (⟨true, 3, (⟨#[107]⟩ : ByteArray), (⟨0, 0⟩ : Dot), true, [z5], [2, 0]⟩ : Djudge_Act), (⟨false, 3, (⟨#[107]⟩ : ByteArray), (⟨z9.s, z9.n⟩ : Dot), true, [], []⟩ : Djudge_Act)] 2).dot.n⟩ : Dot), (gt [(⟨false, 1, (⟨#[107]⟩ : ByteArray), (⟨z1.s, z1.n⟩ : Dot), true, [], []⟩ : Djudge_Act), (⟨false, 1, (⟨#[107]⟩ : ByteArray), (⟨z3.s, z3.n⟩ : Dot), true, [], []⟩ : Djudge_Act), (⟨true, 3, (⟨#[107]⟩ : ByteArray), (⟨0, 0⟩ : Dot), true, [z5], [2, 0]⟩ : Djudge_Act), (⟨false, 3, (⟨#[107]⟩ : ByteArray), (⟨z9.s, z9.n⟩ : Dot), true, [], []⟩ : Djudge_Act)] 2).oK, [z55], (gt [(⟨false, 1, (⟨#[107]⟩ : ByteArray), (⟨z1.s, z1.n⟩ : Dot), true, [], []⟩ : Djudge_Act), (⟨false, 1, (⟨#[107]⟩ : ByteArray), (⟨z3.s, z3.n⟩ : Dot), true, [], []⟩ : Djudge_Act), (⟨true, 3, (⟨#[107]⟩ : ByteArray), (⟨0, 0⟩ : Dot), true, [z5], [2, 0]⟩ : Djudge_Act), (⟨false, 3, (⟨#[107]⟩ : ByteArray), (⟨z9.s, z9.n⟩ : Dot), true, [], []⟩ : Djudge_Act)] 2).seen⟩ : Djudge_Act)) rfl rfl rfl rfl (by kernel_rfl) Try.sizeOf29 rfl (hx70 (show 2 < List.length [(⟨false, 1, (⟨#[107]⟩ : ByteArray), (⟨z1.s, z1.n⟩ : Dot), true, [], []⟩ : Djudge_Act), (⟨false, 1, (⟨#[107]⟩ : ByteArray), (⟨z3.s, z3.n⟩ : Dot), true, [], []⟩ : Djudge_Act), (⟨true, 3, (⟨#[107]⟩ : ByteArray), (⟨0, 0⟩ : Dot), true, [z5], [2, 0]⟩ : Djudge_Act), (⟨false, 3, (⟨#[107]⟩ : ByteArray), (⟨z9.s, z9.n⟩ : Dot), true, [], []⟩ : Djudge_Act)] from Nat.le_of_ble_eq_true rfl)).2 rfl (Nat.le_of_ble_eq_true rfl) rfl (by exact ⟨(some ⟨g57, 0, none⟩), 1, A68, c69, rfl, ⟨(hx70 (show 2 < List.length [(⟨false, 1, (⟨#[107]⟩ : ByteArray), (⟨z1.s, z1.n⟩ : Dot), true, [], []⟩ : Djudge_Act), (⟨false, 1, (⟨#[107]⟩ : ByteArray), (⟨z3.s, z3.n⟩ : Dot), true, [], []⟩ : Djudge_Act), (⟨true, 3, (⟨#[107]⟩ : ByteArray), (⟨0, 0⟩ : Dot), true, [z5], [2, 0]⟩ : Djudge_Act), (⟨false, 3, (⟨#[107]⟩ : ByteArray), (⟨z9.s, z9.n⟩ : Dot), true, [], []⟩ : Djudge_Act)] from Nat.le_of_ble_eq_true rfl)).1.1, (hx70 (show 2 < List.length [(⟨false, 1, (⟨#[107]⟩ : ByteArray), (⟨z1.s, z1.n⟩ : Dot), true, [], []⟩ : Djudge_Act), (⟨false, 1, (⟨#[107]⟩ : ByteArray), (⟨z3.s, z3.n⟩ : Dot), true, [], []⟩ : Djudge_Act), (⟨true, 3, (⟨#[107]⟩ : ByteArray), (⟨0, 0⟩ : Dot), true, [z5], [2, 0]⟩ : Djudge_Act), (⟨false, 3, (⟨#[107]⟩ : ByteArray), (⟨z9.s, z9.n⟩ : Dot), true, [], []⟩ : Djudge_Act)] from Nat.le_of_ble_eq_true rfl)).1.2.1, (hx70 (show 2 < List.length [(⟨false, 1, (⟨#[107]⟩ : ByteArray), (⟨z1.s, z1.n⟩ : Dot), true, [], []⟩ : Djudge_Act), (⟨false, 1, (⟨#[107]⟩ : ByteArray), (⟨z3.s, z3.n⟩ : Dot), true, [], []⟩ : Djudge_Act), (⟨true, 3, (⟨#[107]⟩ : ByteArray), (⟨0, 0⟩ : Dot), true, [z5], [2, 0]⟩ : Djudge_Act), (⟨false, 3, (⟨#[107]⟩ : ByteArray), (⟨z9.s, z9.n⟩ : Dot), true, [], []⟩ : Djudge_Act)] from Nat.le_of_ble_eq_true rfl)).1.2.2.1, (hx70 (show 2 < List.length [(⟨false, 1, (⟨#[107]⟩ : ByteArray), (⟨z1.s, z1.n⟩ : Dot), true, [], []⟩ : Djudge_Act), (⟨false, 1, (⟨#[107]⟩ : ByteArray), (⟨z3.s, z3.n⟩ : Dot), true, [], []⟩ : Djudge_Act), (⟨true, 3, (⟨#[107]⟩ : ByteArray), (⟨0, 0⟩ : Dot), true, [z5], [2, 0]⟩ : Djudge_Act), (⟨false, 3, (⟨#[107]⟩ : ByteArray), (⟨z9.s, z9.n⟩ : Dot), true, [], []⟩ : Djudge_Act)] from Nat.le_of_ble_eq_true rfl)).1.2.2.2.1, ⟨hc65, hs64⟩, ⟨(hx70 (show 2 < List.length [(⟨false, 1, (⟨#[107]⟩ : ByteArray), (⟨z1.s, z1.n⟩ : Dot), true, [], []⟩ : Djudge_Act), (⟨false, 1, (⟨#[107]⟩ : ByteArray), (⟨z3.s, z3.n⟩ : Dot), true, [], []⟩ : Djudge_Act), (⟨true, 3, (⟨#[107]⟩ : ByteArray), (⟨0, 0⟩ : Dot), true, [z5], [2, 0]⟩ : Djudge_Act), (⟨false, 3, (⟨#[107]⟩ : ByteArray), (⟨z9.s, z9.n⟩ : Dot), true, [], []⟩ : Djudge_Act)] from Nat.le_of_ble_eq_true rfl)).1.2.2.2.2.2.1, (hx70 (show 2 < List.length [(⟨false, 1, (⟨#[107]⟩ : ByteArray), (⟨z1.s, z1.n⟩ : Dot), true, [], []⟩ : Djudge_Act), (⟨false, 1, (⟨#[107]⟩ : ByteArray), (⟨z3.s, z3.n⟩ : Dot), true, [], []⟩ : Djudge_Act), (⟨true, 3, (⟨#[107]⟩ : ByteArray), (⟨0, 0⟩ : Dot), true, [z5], [2, 0]⟩ : Djudge_Act), (⟨false, 3, (⟨#[107]⟩ : ByteArray), (⟨z9.s, z9.n⟩ : Dot), true, [], []⟩ : Djudge_Act)] from Nat.le_of_ble_eq_true rfl)).1.2.2.2.2.2.2⟩⟩⟩) (i := 2) rfl (ho32.mono ((hl36.trans hl48).trans hl62)) (show 2 < List.length [(⟨false, 1, (⟨#[107]⟩ : ByteArray), (⟨z1.s, z1.n⟩ : Dot), true, [], []⟩ : Djudge_Act), (⟨false, 1, (⟨#[107]⟩ : ByteArray), (⟨z3.s, z3.n⟩ : Dot), true, [], []⟩ : Djudge_Act), (⟨true, 3, (⟨#[107]⟩ : ByteArray), (⟨0, 0⟩ : Dot), true, [z5], [2, 0]⟩ : Djudge_Act), (⟨false, 3, (⟨#[107]⟩ : ByteArray), (⟨z9.s, z9.n⟩ : Dot), true, [], []⟩ : Djudge_Act)] from Nat.le_of_ble_eq_true rfl) ?_
  intro row71 ho72
  refine WR.nil ?_
  change WC _ _ _ _ _ _
  refine WC.rs ?_
  refine va rfl rfl rfl (q_move (v := .slice (some ⟨g25, 0, none⟩) 4 4) rfl (by kernel_rfl)) ?_
  rw [show Value.slice (some ⟨g25, 0, none⟩) (4) 4 = Value.slice (some ⟨g25, 0, none⟩) ((List.set [(⟨false, 1, (⟨#[107]⟩ : ByteArray), (⟨z1.s, z1.n⟩ : Dot), true, [], []⟩ : Djudge_Act), (⟨false, 1, (⟨#[107]⟩ : ByteArray), (⟨z3.s, z3.n⟩ : Dot), true, [], []⟩ : Djudge_Act), (⟨true, 3, (⟨#[107]⟩ : ByteArray), (⟨0, 0⟩ : Dot), true, [z5], [2, 0]⟩ : Djudge_Act), (⟨false, 3, (⟨#[107]⟩ : ByteArray), (⟨z9.s, z9.n⟩ : Dot), true, [], []⟩ : Djudge_Act)] 2 (⟨(gt [(⟨false, 1, (⟨#[107]⟩ : ByteArray), (⟨z1.s, z1.n⟩ : Dot), true, [], []⟩ : Djudge_Act), (⟨false, 1, (⟨#[107]⟩ : ByteArray), (⟨z3.s, z3.n⟩ : Dot), true, [], []⟩ : Djudge_Act), (⟨true, 3, (⟨#[107]⟩ : ByteArray), (⟨0, 0⟩ : Dot), true, [z5], [2, 0]⟩ : Djudge_Act), (⟨false, 3, (⟨#[107]⟩ : ByteArray), (⟨z9.s, z9.n⟩ : Dot), true, [], []⟩ : Djudge_Act)] 2).read, (gt [(⟨false, 1, (⟨#[107]⟩ : ByteArray), (⟨z1.s, z1.n⟩ : Dot), true, [], []⟩ : Djudge_Act), (⟨false, 1, (⟨#[107]⟩ : ByteArray), (⟨z3.s, z3.n⟩ : Dot), true, [], []⟩ : Djudge_Act), (⟨true, 3, (⟨#[107]⟩ : ByteArray), (⟨0, 0⟩ : Dot), true, [z5], [2, 0]⟩ : Djudge_Act), (⟨false, 3, (⟨#[107]⟩ : ByteArray), (⟨z9.s, z9.n⟩ : Dot), true, [], []⟩ : Djudge_Act)] 2).sess, (gt [(⟨false, 1, (⟨#[107]⟩ : ByteArray), (⟨z1.s, z1.n⟩ : Dot), true, [], []⟩ : Djudge_Act), (⟨false, 1, (⟨#[107]⟩ : ByteArray), (⟨z3.s, z3.n⟩ : Dot), true, [], []⟩ : Djudge_Act), (⟨true, 3, (⟨#[107]⟩ : ByteArray), (⟨0, 0⟩ : Dot), true, [z5], [2, 0]⟩ : Djudge_Act), (⟨false, 3, (⟨#[107]⟩ : ByteArray), (⟨z9.s, z9.n⟩ : Dot), true, [], []⟩ : Djudge_Act)] 2).key, (⟨(gt [(⟨false, 1, (⟨#[107]⟩ : ByteArray), (⟨z1.s, z1.n⟩ : Dot), true, [], []⟩ : Djudge_Act), (⟨false, 1, (⟨#[107]⟩ : ByteArray), (⟨z3.s, z3.n⟩ : Dot), true, [], []⟩ : Djudge_Act), (⟨true, 3, (⟨#[107]⟩ : ByteArray), (⟨0, 0⟩ : Dot), true, [z5], [2, 0]⟩ : Djudge_Act), (⟨false, 3, (⟨#[107]⟩ : ByteArray), (⟨z9.s, z9.n⟩ : Dot), true, [], []⟩ : Djudge_Act)] 2).dot.s, (gt [(⟨false, 1, (⟨#[107]⟩ : ByteArray), (⟨z1.s, z1.n⟩ : Dot), true, [], []⟩ : Djudge_Act), (⟨false, 1, (⟨#[107]⟩ : ByteArray), (⟨z3.s, z3.n⟩ : Dot), true, [], []⟩ : Djudge_Act), (⟨true, 3, (⟨#[107]⟩ : ByteArray), (⟨0, 0⟩ : Dot), true, [z5], [2, 0]⟩ : Djudge_Act), (⟨false, 3, (⟨#[107]⟩ : ByteArray), (⟨z9.s, z9.n⟩ : Dot), true, [], []⟩ : Djudge_Act)] 2).dot.n⟩ : Dot), (gt [(⟨false, 1, (⟨#[107]⟩ : ByteArray), (⟨z1.s, z1.n⟩ : Dot), true, [], []⟩ : Djudge_Act), (⟨false, 1, (⟨#[107]⟩ : ByteArray), (⟨z3.s, z3.n⟩ : Dot), true, [], []⟩ : Djudge_Act), (⟨true, 3, (⟨#[107]⟩ : ByteArray), (⟨0, 0⟩ : Dot), true, [z5], [2, 0]⟩ : Djudge_Act), (⟨false, 3, (⟨#[107]⟩ : ByteArray), (⟨z9.s, z9.n⟩ : Dot), true, [], []⟩ : Djudge_Act)] 2).oK, [z55], (gt [(⟨false, 1, (⟨#[107]⟩ : ByteArray), (⟨z1.s, z1.n⟩ : Dot), true, [], []⟩ : Djudge_Act), (⟨false, 1, (⟨#[107]⟩ : ByteArray), (⟨z3.s, z3.n⟩ : Dot), true, [], []⟩ : Djudge_Act), (⟨true, 3, (⟨#[107]⟩ : ByteArray), (⟨0, 0⟩ : Dot), true, [z5], [2, 0]⟩ : Djudge_Act), (⟨false, 3, (⟨#[107]⟩ : ByteArray), (⟨z9.s, z9.n⟩ : Dot), true, [], []⟩ : Djudge_Act)] 2).seen⟩ : Djudge_Act)).length) 4 from by first | (rw [List.length_set]; done) | (rw [List.length_set]; rfl)]
  obtain ⟨z73, hz74, h⟩ := bnd h
  refine e_callB (is := []) (Lent.nil F) rfl rfl (call_run Try.call14 rfl rfl (by kernel_rfl)) rfl (fun w Θ hp hpB hle hleB hR => t_judge_Judge_l0 (own_lent ho72 hR (List.mem_of_getElem? (i := 2) rfl) hle) ho72.capz hp hpB hz74) ?_
  rintro Γ75 U77 v78 hl76 ⟨rfl, rfl, hr79, hr80, _⟩
  change WR _ _ _ (CC F Γ75 [[], row53, row71, [], []]) _ _ (upd _ 33 (.tuple #[.int .i64 z73.1, .int .i64 z73.2]))
  refine va rfl rfl rfl (q_move (v := .tuple #[.int .i64 z73.1, .int .i64 z73.2]) rfl (by kernel_rfl)) ?_
  refine va rfl rfl rfl (q_extract (v := .int .i64 z73.1) rfl rfl rfl) ?_
  refine va rfl rfl rfl (q_extract (v := .int .i64 z73.2) rfl rfl rfl) ?_
  refine va rfl rfl rfl (q_assign (v := .int .i64 z73.1) rfl (by kernel_rfl)) ?_
  refine va rfl rfl rfl (q_assign (v := .int .i64 z73.2) rfl (by kernel_rfl)) ?_
  refine WR.nil ?_
  change WC _ _ _ _ _ _
  refine WC.rs ?_
  refine va rfl rfl rfl (q_move (v := .int .i64 z33.1) rfl (by kernel_rfl)) ?_
  refine va rfl rfl rfl (q_eql rfl rfl rfl) ?_
  refine va rfl rfl rfl (q_move (v := .bool (z33.1 == (-1))) rfl (by kernel_rfl)) ?_
  refine vg1 rfl rfl rfl rfl rfl (fun hg81 => QV.qo (q_move (v := .int .i64 z33.2) rfl (by kernel_rfl))) ?_
  refine vg1 rfl rfl rfl rfl rfl (fun hg82 => QV.qo (q_eql rfl (gu hg82 rfl) rfl)) ?_
  refine va rfl rfl rfl (q_pick rfl rfl (pk_and' (g := (z33.1 == (-1))) (y := (z33.2 == 0)))) ?_
  refine va rfl rfl rfl (q_move (v := .bool ((z33.1 == (-1)) && (z33.2 == 0))) rfl (by kernel_rfl)) ?_
  refine vg1 rfl rfl rfl rfl rfl (fun hg83 => QV.qo (q_move (v := .slice A51 z45.length c52) rfl (by kernel_rfl))) ?_
  obtain ⟨z85, hz86, h⟩ := bnd h
  refine vg1 rfl rfl rfl rfl rfl (fun hg84 => (q_call (call_run Try.call8 rfl rfl (by kernel_rfl)) (fun w hw => t_firthlaw23_dot (Γ := Gh.all w) 1 (show I64 1 by decide) 1 (show I64 1 by decide) (Sat.all w) (gc_of hz86 hg84)))) ?_
  obtain ⟨z88, hz89, h⟩ := bnd h
  refine vg1 rfl rfl rfl rfl rfl (fun hg87 => (q_call (call_run Try.call8 rfl rfl (by kernel_rfl)) (fun w hw => t_firthlaw23_dot (Γ := Gh.all w) 1 (show I64 1 by decide) 2 (show I64 2 by decide) (Sat.all w) (gc_of hz89 hg87)))) ?_
  refine (Bool.eq_false_or_eq_true ((z33.1 == (-1)) && (z33.2 == 0))).elim (fun hb90 => ?_) (fun hb90 => ?_)
  · skip
    have h := bt hb90 h
    refine WR.sat (c0 := true) (g := ((z33.1 == (-1)) && (z33.2 == 0))) rfl rfl rfl hb90 ?_
    rw [show gv ((z33.1 == (-1)) && (z33.2 == 0)) (.agg #[.int .i64 z85.s, .int .i64 z85.n]) = .agg #[.int .i64 z85.s, .int .i64 z85.n] from gv_of hb90]
    rw [show gv ((z33.1 == (-1)) && (z33.2 == 0)) (.agg #[.int .i64 z88.s, .int .i64 z88.n]) = .agg #[.int .i64 z88.s, .int .i64 z88.n] from gv_of hb90]
    refine e_buildSlice (cs := #[.int .i64 z85.s, .int .i64 z85.n, .int .i64 z88.s, .int .i64 z88.n]) (e := 27) rfl rfl rfl rfl (fun w => by kernel_rfl) ?_
    intro g91
    refine WR.sat (c0 := true) (g := ((z33.1 == (-1)) && (z33.2 == 0))) rfl rfl rfl hb90 ?_
    obtain ⟨hk92, h⟩ := chk_some h
    obtain ⟨hk93, h⟩ := chk_some h
    obtain ⟨hk94, h⟩ := chk_some h
    obtain ⟨hk95, h⟩ := chk_some h
    have ho96 : Own dotT Γ75 27 [(g91, .cells #[.int .i64 z85.s, .int .i64 z85.n, .int .i64 z88.s, .int .i64 z88.n] 27 (0, 0))] (some ⟨g91, 0, none⟩) 2 [z85, z88] := Own.of_blockL (T := dotT) (ys := [z85, z88]) [[.int .i64 z85.s, .int .i64 z85.n], [.int .i64 z88.s, .int .i64 z88.n]] rfl (show 2 ≤ lim by decide) (show Ty.rd dotT Γ75 [.int .i64 z85.s, .int .i64 z85.n] z85 ∧ Ty.rd dotT Γ75 [.int .i64 z88.s, .int .i64 z88.n] z88 ∧ True from ⟨⟨rfl, ⟨(i64b_of hk92), (i64b_of hk93)⟩⟩, ⟨rfl, ⟨(i64b_of hk94), (i64b_of hk95)⟩⟩, trivial⟩)
    obtain ⟨z97, hz98, h⟩ := bnd h
    refine vc rfl rfl rfl (q_call (call_run Try.call12 rfl rfl (args2 (gu hb90 rfl) rfl)) (fun w hw => t_firthref23_Same (Γ := Gh.all w) ((hr54.mono (hl62.trans hl76)).sl hw.sat.le_all (hw.ra 2 rfl)) (hr54.mono (hl62.trans hl76)).capz (ho96.sl hw.sat.le_all (hw.ra 0 rfl)) ho96.capz (Sat.all w) hz98)) ?_
    refine va rfl rfl rfl (q_pick_t (v := .bool z97) rfl rfl hb90 (by kernel_rfl)) ?_
    refine va rfl rfl rfl (q_move (v := .bool z97) rfl (by kernel_rfl)) ?_
    refine vg1 rfl rfl rfl rfl rfl (fun hg99 => QV.qo (q_move (v := .int .i64 z73.1) rfl (by kernel_rfl))) ?_
    refine vg1 rfl rfl rfl rfl rfl (fun hg100 => QV.qo (q_eql rfl (gu hg100 rfl) rfl)) ?_
    refine va rfl rfl rfl (q_pick rfl rfl (pk_and' (g := z97) (y := (z73.1 == 2)))) ?_
    refine va rfl rfl rfl (q_move (v := .bool (z97 && (z73.1 == 2))) rfl (by kernel_rfl)) ?_
    refine vg1 rfl rfl rfl rfl rfl (fun hg101 => QV.qo (q_move (v := .int .i64 z73.2) rfl (by kernel_rfl))) ?_
    refine vg1 rfl rfl rfl rfl rfl (fun hg102 => QV.qo (q_eql rfl (gu hg102 rfl) rfl)) ?_
    refine va rfl rfl rfl (q_pick rfl rfl (pk_and' (g := (z97 && (z73.1 == 2))) (y := (z73.2 == 6)))) ?_
    refine va rfl rfl rfl (q_assign (v := .bool ((z97 && (z73.1 == 2)) && (z73.2 == 6))) rfl (by kernel_rfl)) ?_
    refine WR.nil ?_
    change WC _ _ _ _ _ _
    refine WC.ret ?_
    intro w hw
    obtain rfl := Option.some.inj h
    subst hF
    exact ⟨by kernel_rfl, hw.fr⟩
  · skip
    have h := bf hb90 h
    refine WR.unsat (c0 := true) (g := ((z33.1 == (-1)) && (z33.2 == 0))) rfl rfl rfl hb90 rfl ?_
    refine WR.unsat (c0 := true) (g := ((z33.1 == (-1)) && (z33.2 == 0))) rfl rfl rfl hb90 rfl ?_
    refine va rfl rfl rfl (q_pick_f (v := .bool false) rfl rfl hb90 (by kernel_rfl)) ?_
    refine va rfl rfl rfl (q_move (v := .bool false) rfl (by kernel_rfl)) ?_
    refine WR.unsat (c0 := true) (g := false) rfl rfl rfl rfl rfl ?_
    refine WR.unsat (c0 := true) (g := false) rfl rfl rfl rfl rfl ?_
    refine va rfl rfl rfl (q_pickf (v := .bool false) rfl rfl rfl) ?_
    refine va rfl rfl rfl (q_move (v := .bool false) rfl (by kernel_rfl)) ?_
    refine WR.unsat (c0 := true) (g := false) rfl rfl rfl rfl rfl ?_
    refine WR.unsat (c0 := true) (g := false) rfl rfl rfl rfl rfl ?_
    refine va rfl rfl rfl (q_pickf (v := .bool false) rfl rfl rfl) ?_
    refine va rfl rfl rfl (q_assign (v := .bool false) rfl (by kernel_rfl)) ?_
    refine WR.nil ?_
    change WC _ _ _ _ _ _
    refine WC.ret ?_
    intro w hw
    obtain rfl := Option.some.inj h
    subst hF
    exact ⟨by kernel_rfl, hw.fr⟩
set_option maxRecDepth 100000 in
set_option maxHeartbeats 400000 in
theorem t_firthref23_Has {Γ : Gh} {w0 : World} {Al : Option Addr} {cl : Nat} {l : List Dot} (hl : Sl dotT Γ Al l) (hlc : l.length ≤ cl) (d : Dot) (hd : Dot.fits Γ  d) (hs : Sat Γ w0) {r : Bool} (h : m_firthref23_Has l d = some r) : Calls Try.prog 10 #[.slice Al l.length cl, .agg #[.int .i64 d.s, .int .i64 d.n]] w0 (fun e w' => e = .returned (.bool r) ∧ Fr no w0 w') := by
  refine calls_of (N := 18) (rs := [4]) (args := [.slice Al l.length cl, .agg #[.int .i64 d.s, .int .i64 d.n]]) Try.func10 rfl Try.ntmps10 Try.results10 rfl ?_
  obtain ⟨F, hF⟩ : ∃ F : Fm, F = ⟨no, w0, Γ⟩ := ⟨_, rfl⟩
  refine WC.here (C := CC F Γ []) ?_ (hF ▸ Cur.start0 hs)
  refine WC.rs ?_
  refine e_box (v := .agg #[.int .i64 d.s, .int .i64 d.n]) rfl rfl rfl rfl (by kernel_rfl) ?_
  intro g1
  refine va rfl rfl rfl (q_assign (v := .bool false) rfl (by kernel_rfl)) ?_
  refine WR.nil ?_
  change WC _ _ _ _ _ _
  refine WC.seq ?_
  refine WC.rs ?_
  refine va rfl rfl rfl (q_assign (v := .int .i64 0) rfl (by kernel_rfl)) ?_
  refine WR.nil ?_
  change WC _ _ _ _ _ _
  refine WC.block ?_
  refine WC.forI h (fun (i3 : Nat) (s : Unit) σ w => match s with | () => slots σ [(0, .slice Al l.length cl), (3, .pointer (some ⟨g1, 0, none⟩)), (5, .int .i64 ((i3 : Nat) : Int))] ∧ CC F Γ [[(g1, .cells #[.int .i64 d.s, .int .i64 d.n] 27 (0, 0))]] w ∧ True) ?_ ?_
  · skip
    intro w hw
    exact ⟨(sl_ (by kernel_rfl)), hw, trivial⟩
  rintro f2 i3 ⟨⟩ σ w hi4 hlt5 hge6 ⟨hsl, hw, -⟩
  refine Wpt.slots hsl ?_
  refine WC.here (C := CC F Γ [[(g1, .cells #[.int .i64 d.s, .int .i64 d.n] 27 (0, 0))]]) ?_ hw
  clear hw hsl
  refine WC.seq ?_
  refine WC.rs ?_
  refine va rfl rfl rfl (q_move (v := .int .i64 ((i3 : Nat) : Int)) rfl (by kernel_rfl)) ?_
  refine va rfl rfl rfl (q_move (v := .slice Al l.length cl) rfl (by kernel_rfl)) ?_
  refine va rfl rfl rfl (q_len_slice rfl Try.underlying29 rfl) ?_
  refine va rfl rfl rfl (q_lss rfl rfl rfl) ?_
  refine WR.nil ?_
  change WC _ _ _ _ _ _
  refine WC.cond (b := (decide (((i3 : Nat) : Int) < ((l.length : Nat) : Int)))) (by kernel_rfl) (fun hb7 => ?_) (fun hb7 => ?_)
  · skip
    have hl8 := ilt hb7
    have h := hlt5 hl8
    refine WC.skip ?_
    change WC _ _ _ _ _ _
    refine WC.seq ?_
    refine WC.block ?_
    refine WC.seq ?_
    refine WC.dr (by kernel_rfl) (by kernel_rfl) (fun w hw => hw.drawn _) ?_
    refine wa rfl rfl rfl (q_move (v := .slice Al l.length cl) rfl (by kernel_rfl)) ?_
    refine wa rfl rfl rfl (q_move (v := .int .i64 ((i3 : Nat) : Int)) rfl (by kernel_rfl)) ?_
    refine wa rfl rfl rfl (q_ixn (i := i3) Try.underlying29 Try.sizeOf27 rfl rfl rfl hl8 (hl.some_ hl8)) ?_
    refine wa rfl rfl rfl (q_lda (c := 0) (vs := [.int .i64 (gt l i3).s, .int .i64 (gt l i3).n]) (hl.dotT_at hl8).2 rfl Try.isAgg27 Try.sizeOf27 rfl rfl rfl) ?_
    refine wa rfl rfl rfl (q_ldla (i := 0) (vs := [.int .i64 d.s, .int .i64 d.n]) rfl rfl Try.isAgg27 Try.sizeOf27 rfl rfl) ?_
    refine wa rfl rfl rfl (q_eql_Dot (a := (gt l i3)) (b := d) rfl rfl rfl) ?_
    refine WQ.nil ?_
    change WC _ _ _ _ _ _
    refine WC.cif h (by kernel_rfl) (fun hb9 h => ?_) (fun hb9 h => ?_)
    · skip
      refine WC.rs ?_
      refine va rfl rfl rfl (q_assign (v := .bool true) rfl (by kernel_rfl)) ?_
      refine WR.nil ?_
      change WC _ _ _ _ _ _
      refine WC.ret ?_
      intro w hw
      obtain rfl := Option.some.inj h
      subst hF
      exact ⟨by kernel_rfl, hw.fr⟩
    · skip
      refine WC.skip ?_
      change WC _ _ _ _ _ _
      refine WC.region ?_
      refine va rfl rfl rfl (q_move (v := .int .i64 ((i3 : Nat) : Int)) rfl (by kernel_rfl)) ?_
      refine va rfl rfl rfl (q_add_r (r := ((i3 + 1 : Nat) : Int)) rfl rfl rfl (ctr_len hl8 hl.le)) ?_
      refine va rfl rfl rfl (q_assign (v := .int .i64 ((i3 + 1 : Nat) : Int)) rfl (by kernel_rfl)) ?_
      refine WR.nil ?_
      intro w hw
      exact ⟨hl8, (), h, (sl_ (by kernel_rfl)), hw, trivial⟩
  · skip
    have h := hge6 (ige hb7)
    refine WC.exit ?_
    change WC _ _ _ _ _ _
    refine WC.rs ?_
    refine va rfl rfl rfl (q_assign (v := .bool false) rfl (by kernel_rfl)) ?_
    refine WR.nil ?_
    change WC _ _ _ _ _ _
    refine WC.ret ?_
    intro w hw
    obtain rfl := Option.some.inj h
    subst hF
    exact ⟨by kernel_rfl, hw.fr⟩
abbrev r_firthlaw23_acts (r : List Dfirthref23_Act) (U : List Rowb) (Γ : Gh) (v : Value) : Prop := ∃ (A0 : Option Addr), ∃ (c0 : Nat), ∃ (row0 : Rowb), v = .slice A0 r.length c0 ∧ U = [row0] ∧ Own dfirthref23_ActT Γ 49 row0 A0 c0 r ∧ True
set_option maxRecDepth 100000 in
set_option maxHeartbeats 400000 in
theorem t_firthlaw23_acts {Γ : Gh} {w0 : World} {Al : Option Addr} {cl : Nat} {l : List Djudge_Act} (hl : Sl djudge_ActT Γ Al l) (hlc : l.length ≤ cl) (hp : Pre [] Γ w0) {r : List Dfirthref23_Act} (h : m_firthlaw23_acts l = some r) : Calls Try.prog 11 #[.slice Al l.length cl] w0 (Outc Γ [] w0 (r_firthlaw23_acts r)) := by
  refine calls_of (N := 35) (rs := [2]) (args := [.slice Al l.length cl]) Try.func11 rfl Try.ntmps11 Try.results11 rfl ?_
  obtain ⟨F, hF⟩ : ∃ F : Fm, F = ⟨ids [], w0, Γ⟩ := ⟨_, rfl⟩
  refine WC.here (C := CC F Γ []) ?_ (hF ▸ hp.start)
  refine WC.rs ?_
  refine va rfl rfl rfl (q_assign (v := .slice none 0 0) rfl (by kernel_rfl)) ?_
  refine WR.nil ?_
  change WC _ _ _ _ _ _
  refine WC.rs ?_
  refine va rfl rfl rfl (q_assign (v := .slice none 0 0) rfl (by kernel_rfl)) ?_
  refine WR.nil ?_
  change WC _ _ _ _ _ _
  refine WC.seq ?_
  refine WC.rs ?_
  refine va rfl rfl rfl (q_assign (v := .int .i64 0) rfl (by kernel_rfl)) ?_
  refine WR.nil ?_
  change WC _ _ _ _ _ _
  refine WC.block ?_
  refine WC.forI h (fun (i7 : Nat) (out_1 : List Dfirthref23_Act) σ w => ∃ (A2 : Option Addr), ∃ (c3 : Nat), ∃ (row4 : Rowb), slots σ [(0, .slice Al l.length cl), (3, .slice A2 out_1.length c3), (4, .int .i64 ((i7 : Nat) : Int))] ∧ CC F Γ [row4] w ∧ Own dfirthref23_ActT Γ 49 row4 A2 c3 out_1 ∧ True) ?_ ?_
  · skip
    intro w hw
    have hw := hw.pad
    exact ⟨none, 0, [], (sl_ (by kernel_rfl)), hw, (Own.nil dfirthref23_ActT _ 49), trivial⟩
  rintro f6 i7 out_1 σ w hi8 hlt9 hge10 ⟨A2, c3, row4, hsl, hw, ho5, -⟩
  refine Wpt.slots hsl ?_
  refine WC.here (C := CC F Γ [row4]) ?_ hw
  clear hw hsl
  refine WC.seq ?_
  refine WC.rs ?_
  refine va rfl rfl rfl (q_move (v := .int .i64 ((i7 : Nat) : Int)) rfl (by kernel_rfl)) ?_
  refine va rfl rfl rfl (q_move (v := .slice Al l.length cl) rfl (by kernel_rfl)) ?_
  refine va rfl rfl rfl (q_len_slice rfl Try.underlying24 rfl) ?_
  refine va rfl rfl rfl (q_lss rfl rfl rfl) ?_
  refine WR.nil ?_
  change WC _ _ _ _ _ _
  refine WC.cond (b := (decide (((i7 : Nat) : Int) < ((l.length : Nat) : Int)))) (by kernel_rfl) (fun hb11 => ?_) (fun hb11 => ?_)
  · skip
    have hl12 := ilt hb11
    have h := hlt9 hl12
    refine WC.skip ?_
    change WC _ _ _ _ _ _
    refine WC.seq ?_
    refine WC.block ?_
    refine WC.rs ?_
    refine va rfl rfl rfl (q_move (v := .slice Al l.length cl) rfl (by kernel_rfl)) ?_
    refine va rfl rfl rfl (q_move (v := .int .i64 ((i7 : Nat) : Int)) rfl (by kernel_rfl)) ?_
    refine va rfl rfl rfl (q_ixn (i := i7) Try.underlying24 Try.sizeOf32 rfl rfl rfl hl12 (hl.some_ hl12)) ?_
    obtain ⟨A13, c14, A15, c16, hx17⟩ := hl.djudge_ActT_at i7
    refine va rfl rfl rfl (q_lda (c := 0) (vs := [.bool (gt l i7).read, .int .i64 (gt l i7).sess, .string (gt l i7).key, .int .i64 (gt l i7).dot.s, .int .i64 (gt l i7).dot.n, .bool (gt l i7).oK, .slice A13 ((gt l i7).reads).length c14, .slice A15 ((gt l i7).seen).length c16]) (hx17 hl12).2 rfl Try.isAgg32 Try.sizeOf32 rfl rfl rfl) ?_
    refine e_alloc Try.zeroValue32 rfl rfl rfl rfl ?_
    intro g18
    refine e_st (i := 0) (v := .agg #[.bool (gt l i7).read, .int .i64 (gt l i7).sess, .string (gt l i7).key, .int .i64 (gt l i7).dot.s, .int .i64 (gt l i7).dot.n, .bool (gt l i7).oK, .slice A13 ((gt l i7).reads).length c14, .slice A15 ((gt l i7).seen).length c16]) (new := #[.bool (gt l i7).read, .int .i64 (gt l i7).sess, .string (gt l i7).key, .int .i64 (gt l i7).dot.s, .int .i64 (gt l i7).dot.n, .bool (gt l i7).oK, .slice A13 ((gt l i7).reads).length c14, .slice A15 ((gt l i7).seen).length c16]) rfl Try.sizeOf32 rfl rfl rfl rfl (by kernel_rfl) rfl rfl rfl rfl ?_
    refine WR.nil ?_
    change WC _ _ _ _ _ _
    refine WC.region ?_
    refine va rfl rfl rfl (q_move (v := .slice A2 out_1.length c3) rfl (by kernel_rfl)) ?_
    refine va rfl rfl rfl (q_fl 0 fld_32_0 rfl rfl rfl) ?_
    refine va rfl rfl rfl (q_ldl (i := 0) (v := .bool (gt l i7).read) rfl rfl Try.isAgg4 rfl rfl) ?_
    refine va rfl rfl rfl (q_fl 1 fld_32_1 rfl rfl rfl) ?_
    refine va rfl rfl rfl (q_ldl (i := 0) (v := .int .i64 (gt l i7).sess) rfl rfl Try.isAgg3 rfl rfl) ?_
    refine va rfl rfl rfl (q_fl 2 fld_32_2 rfl rfl rfl) ?_
    refine va rfl rfl rfl (q_ldl (i := 0) (v := .string (gt l i7).key) rfl rfl Try.isAgg9 rfl rfl) ?_
    refine va rfl rfl rfl (q_fl 3 fld_32_3 rfl rfl rfl) ?_
    refine va rfl rfl rfl (q_ldla (i := 0) (vs := [.int .i64 (gt l i7).dot.s, .int .i64 (gt l i7).dot.n]) rfl rfl Try.isAgg27 Try.sizeOf27 rfl rfl) ?_
    refine va rfl rfl rfl (q_fl 5 fld_32_4 rfl rfl rfl) ?_
    refine va rfl rfl rfl (q_ldl (i := 0) (v := .bool (gt l i7).oK) rfl rfl Try.isAgg4 rfl rfl) ?_
    refine va rfl rfl rfl (q_fl 6 fld_32_5 rfl rfl rfl) ?_
    refine va rfl rfl rfl (q_ldl (i := 0) (v := .slice A13 ((gt l i7).reads).length c14) rfl rfl Try.isAgg29 rfl rfl) ?_
    refine va rfl rfl rfl (q_fl 7 fld_32_6 rfl rfl rfl) ?_
    refine va rfl rfl rfl (q_ldl (i := 0) (v := .slice A15 ((gt l i7).seen).length c16) rfl rfl Try.isAgg30 rfl rfl) ?_
    refine va rfl rfl rfl (q_build' (v := .agg #[.bool (gt l i7).read, .int .i64 (gt l i7).sess, .string (gt l i7).key, .int .i64 (gt l i7).dot.s, .int .i64 (gt l i7).dot.n, .bool (gt l i7).oK, .slice A13 ((gt l i7).reads).length c14, .slice A15 ((gt l i7).seen).length c16]) rfl (bargs7 rfl rfl rfl rfl rfl rfl rfl) (fun w => by kernel_rfl)) ?_
    refine e_buildSlice (cs := #[.bool (gt l i7).read, .int .i64 (gt l i7).sess, .string (gt l i7).key, .int .i64 (gt l i7).dot.s, .int .i64 (gt l i7).dot.n, .bool (gt l i7).oK, .slice A13 ((gt l i7).reads).length c14, .slice A15 ((gt l i7).seen).length c16]) (e := 49) rfl rfl rfl rfl (fun w => by kernel_rfl) ?_
    intro g19
    obtain ⟨hk20, h⟩ := chk_some h
    refine e_append (T := dfirthref23_ActT) (xs := out_1) (ys := [(⟨(gt l i7).read, (gt l i7).sess, (gt l i7).key, (⟨(gt l i7).dot.s, (gt l i7).dot.n⟩ : Dot), (gt l i7).oK, (gt l i7).reads, (gt l i7).seen⟩ : Dfirthref23_Act)]) elem_36 (i := 2) rfl rfl rfl rfl rfl rfl rfl ho5 (of_decide_eq_true hk20) (fun w hw => src_one (T := dfirthref23_ActT) (y := (⟨(gt l i7).read, (gt l i7).sess, (gt l i7).key, (⟨(gt l i7).dot.s, (gt l i7).dot.n⟩ : Dot), (gt l i7).oK, (gt l i7).reads, (gt l i7).seen⟩ : Dfirthref23_Act)) (i := 0) rfl (by exact ⟨A13, c14, A15, c16, rfl, ⟨(hx17 hl12).1.1, (hx17 hl12).1.2.1, (hx17 hl12).1.2.2.1, (hx17 hl12).1.2.2.2.1, ⟨(hx17 hl12).1.2.2.2.2.1.1, (hx17 hl12).1.2.2.2.2.1.2⟩, ⟨(hx17 hl12).1.2.2.2.2.2.1, (hx17 hl12).1.2.2.2.2.2.2⟩⟩⟩) hw) ?_
    intro row21 A22 c23 ho24
    refine va rfl rfl rfl (q_assign (v := .slice A22 (out_1 ++ [(⟨(gt l i7).read, (gt l i7).sess, (gt l i7).key, (⟨(gt l i7).dot.s, (gt l i7).dot.n⟩ : Dot), (gt l i7).oK, (gt l i7).reads, (gt l i7).seen⟩ : Dfirthref23_Act)]).length c23) rfl (by kernel_rfl)) ?_
    refine WR.nil ?_
    change WC _ _ _ _ _ _
    refine WC.region ?_
    refine va rfl rfl rfl (q_move (v := .int .i64 ((i7 : Nat) : Int)) rfl (by kernel_rfl)) ?_
    refine va rfl rfl rfl (q_add_r (r := ((i7 + 1 : Nat) : Int)) rfl rfl rfl (ctr_len hl12 hl.le)) ?_
    refine va rfl rfl rfl (q_assign (v := .int .i64 ((i7 + 1 : Nat) : Int)) rfl (by kernel_rfl)) ?_
    refine WR.nil ?_
    intro w hw
    exact ⟨hl12, (out_1 ++ [(⟨(gt l i7).read, (gt l i7).sess, (gt l i7).key, (⟨(gt l i7).dot.s, (gt l i7).dot.n⟩ : Dot), (gt l i7).oK, (gt l i7).reads, (gt l i7).seen⟩ : Dfirthref23_Act)]), h, A22, c23, row21, (sl_ (by kernel_rfl)), (hw.only (is := [2]) rfl), ho24, trivial⟩
  · skip
    have h := hge10 (ige hb11)
    refine WC.exit ?_
    change WC _ _ _ _ _ _
    refine WC.rs ?_
    refine va rfl rfl rfl (q_move (v := .slice A2 out_1.length c3) rfl (by kernel_rfl)) ?_
    refine va rfl rfl rfl (q_assign (v := .slice A2 out_1.length c3) rfl (by kernel_rfl)) ?_
    refine WR.nil ?_
    change WC _ _ _ _ _ _
    refine WC.ret ?_
    intro w hw
    obtain rfl := Option.some.inj h
    subst hF
    exact end_e (is := [0]) (by kernel_rfl) hw rfl ⟨A2, c3, row4, rfl, rfl, ho5, trivial⟩
set_option maxRecDepth 100000 in
set_option maxHeartbeats 400000 in
theorem t_firthref23_First {Γ : Gh} {w0 : World} {Alist : Option Addr} {clist : Nat} {list : List Dfirthref23_Act} (hlist : Sl dfirthref23_ActT Γ Alist list) (hlistc : list.length ≤ clist) (d : Dot) (hd : Dot.fits Γ  d) (hs : Sat Γ w0) {r : Int} (h : m_firthref23_First list d = some r) : Calls Try.prog 13 #[.slice Alist list.length clist, .agg #[.int .i64 d.s, .int .i64 d.n]] w0 (fun e w' => e = .returned (.int .i64 r) ∧ Fr no w0 w') := by
  refine calls_of (N := 33) (rs := [4]) (args := [.slice Alist list.length clist, .agg #[.int .i64 d.s, .int .i64 d.n]]) Try.func13 rfl Try.ntmps13 Try.results13 rfl ?_
  obtain ⟨F, hF⟩ : ∃ F : Fm, F = ⟨no, w0, Γ⟩ := ⟨_, rfl⟩
  refine WC.here (C := CC F Γ []) ?_ (hF ▸ Cur.start0 hs)
  refine WC.rs ?_
  refine e_box (v := .agg #[.int .i64 d.s, .int .i64 d.n]) rfl rfl rfl rfl (by kernel_rfl) ?_
  intro g1
  refine va rfl rfl rfl (q_assign (v := .int .i64 0) rfl (by kernel_rfl)) ?_
  refine WR.nil ?_
  change WC _ _ _ _ _ _
  refine WC.seq ?_
  refine WC.rs ?_
  refine va rfl rfl rfl (q_assign (v := .int .i64 0) rfl (by kernel_rfl)) ?_
  refine WR.nil ?_
  change WC _ _ _ _ _ _
  refine WC.block ?_
  refine WC.forI h (fun (i3 : Nat) (s : Unit) σ w => match s with | () => slots σ [(0, .slice Alist list.length clist), (3, .pointer (some ⟨g1, 0, none⟩)), (5, .int .i64 ((i3 : Nat) : Int))] ∧ CC F Γ [[(g1, .cells #[.int .i64 d.s, .int .i64 d.n] 27 (0, 0))]] w ∧ True) ?_ ?_
  · skip
    intro w hw
    exact ⟨(sl_ (by kernel_rfl)), hw, trivial⟩
  rintro f2 i3 ⟨⟩ σ w hi4 hlt5 hge6 ⟨hsl, hw, -⟩
  refine Wpt.slots hsl ?_
  refine WC.here (C := CC F Γ [[(g1, .cells #[.int .i64 d.s, .int .i64 d.n] 27 (0, 0))]]) ?_ hw
  clear hw hsl
  refine WC.seq ?_
  refine WC.rs ?_
  refine va rfl rfl rfl (q_move (v := .int .i64 ((i3 : Nat) : Int)) rfl (by kernel_rfl)) ?_
  refine va rfl rfl rfl (q_move (v := .slice Alist list.length clist) rfl (by kernel_rfl)) ?_
  refine va rfl rfl rfl (q_len_slice rfl Try.underlying36 rfl) ?_
  refine va rfl rfl rfl (q_lss rfl rfl rfl) ?_
  refine WR.nil ?_
  change WC _ _ _ _ _ _
  refine WC.cond (b := (decide (((i3 : Nat) : Int) < ((list.length : Nat) : Int)))) (by kernel_rfl) (fun hb7 => ?_) (fun hb7 => ?_)
  · skip
    have hl8 := ilt hb7
    have h := hlt5 hl8
    refine WC.skip ?_
    change WC _ _ _ _ _ _
    refine WC.seq ?_
    refine WC.block ?_
    refine WC.seq ?_
    refine WC.dr (by kernel_rfl) (by kernel_rfl) (fun w hw => hw.drawn _) ?_
    refine wa rfl rfl rfl (q_move (v := .slice Alist list.length clist) rfl (by kernel_rfl)) ?_
    refine wa rfl rfl rfl (q_move (v := .int .i64 ((i3 : Nat) : Int)) rfl (by kernel_rfl)) ?_
    refine wa rfl rfl rfl (q_ixn (i := i3) Try.underlying36 Try.sizeOf49 rfl rfl rfl hl8 (hlist.some_ hl8)) ?_
    refine wa rfl rfl rfl (q_field_addr (i3 * 8) fld_49_0 rfl rfl (hlist.some_ hl8) rfl) ?_
    obtain ⟨A9, c10, A11, c12, hx13⟩ := hlist.dfirthref23_ActT_at i3
    refine wa rfl rfl rfl (q_ld (c := 0) (v := .bool (gt list i3).read) (hx13 hl8).2 rfl Try.isAgg4 rfl rfl) ?_
    refine wa rfl rfl rfl (q_not rfl rfl) ?_
    refine wa rfl rfl rfl (q_move (v := .bool (!(gt list i3).read)) rfl (by kernel_rfl)) ?_
    refine wg1 rfl rfl rfl rfl rfl (fun hg14 => QV.qo (q_move (v := .slice Alist list.length clist) rfl (by kernel_rfl))) ?_
    refine wg1 rfl rfl rfl rfl rfl (fun hg15 => QV.qo (q_move (v := .int .i64 ((i3 : Nat) : Int)) rfl (by kernel_rfl))) ?_
    refine wg1 rfl rfl rfl rfl rfl (fun hg16 => QV.qo (q_ixn (i := i3) Try.underlying36 Try.sizeOf49 rfl (gu hg16 rfl) (gu hg16 rfl) hl8 (hlist.some_ hl8))) ?_
    refine wg1 rfl rfl rfl rfl rfl (fun hg17 => QV.qo (q_field_addr (i3 * 8 + 3) fld_49_3 rfl (gu hg17 rfl) (hlist.some_ hl8) rfl)) ?_
    refine wg1 rfl rfl rfl rfl rfl (fun hg18 => QV.qo (q_lda (c := 3) (vs := [.int .i64 (gt list i3).dot.s, .int .i64 (gt list i3).dot.n]) (hx13 hl8).2 rfl Try.isAgg27 Try.sizeOf27 (gu hg18 rfl) rfl rfl)) ?_
    refine wg1 rfl rfl rfl rfl rfl (fun hg19 => QV.qo (q_ldla (i := 0) (vs := [.int .i64 d.s, .int .i64 d.n]) rfl rfl Try.isAgg27 Try.sizeOf27 rfl rfl)) ?_
    refine wg1 rfl rfl rfl rfl rfl (fun hg20 => QV.qo (q_eql_Dot (a := (gt list i3).dot) (b := d) rfl (gu hg20 rfl) (gu hg20 rfl))) ?_
    refine wa rfl rfl rfl (q_pick rfl rfl (pk_and' (g := (!(gt list i3).read)) (y := ((gt list i3).dot == d)))) ?_
    refine wa rfl rfl rfl (q_move (v := .bool ((!(gt list i3).read) && ((gt list i3).dot == d))) rfl (by kernel_rfl)) ?_
    refine wg1 rfl rfl rfl rfl rfl (fun hg21 => QV.qo (q_fl 1 fld_27_1 rfl rfl rfl)) ?_
    refine wg1 rfl rfl rfl rfl rfl (fun hg22 => QV.qo (q_ldl (i := 0) (v := .int .i64 d.n) rfl rfl Try.isAgg2 (gu hg22 rfl) rfl)) ?_
    refine wg1 rfl rfl rfl rfl rfl (fun hg23 => QV.qo (q_gtr rfl (gu hg23 rfl) rfl)) ?_
    refine wa rfl rfl rfl (q_pick rfl rfl (pk_and' (g := ((!(gt list i3).read) && ((gt list i3).dot == d))) (y := (decide (0 < d.n))))) ?_
    refine WQ.nil ?_
    change WC _ _ _ _ _ _
    refine WC.cif h (by kernel_rfl) (fun hb24 h => ?_) (fun hb24 h => ?_)
    · skip
      refine WC.rs ?_
      refine va rfl rfl rfl (q_move (v := .int .i64 ((i3 : Nat) : Int)) rfl (by kernel_rfl)) ?_
      refine va rfl rfl rfl (q_assign (v := .int .i64 ((i3 : Nat) : Int)) rfl (by kernel_rfl)) ?_
      refine WR.nil ?_
      change WC _ _ _ _ _ _
      refine WC.ret ?_
      intro w hw
      obtain rfl := Option.some.inj h
      subst hF
      exact ⟨by kernel_rfl, hw.fr⟩
    · skip
      refine WC.skip ?_
      change WC _ _ _ _ _ _
      refine WC.region ?_
      refine va rfl rfl rfl (q_move (v := .int .i64 ((i3 : Nat) : Int)) rfl (by kernel_rfl)) ?_
      refine va rfl rfl rfl (q_add_r (r := ((i3 + 1 : Nat) : Int)) rfl rfl rfl (ctr_len hl8 hlist.le)) ?_
      refine va rfl rfl rfl (q_assign (v := .int .i64 ((i3 + 1 : Nat) : Int)) rfl (by kernel_rfl)) ?_
      refine WR.nil ?_
      intro w hw
      exact ⟨hl8, (), h, (sl_ (by kernel_rfl)), hw, trivial⟩
  · skip
    have h := hge6 (ige hb7)
    refine WC.exit ?_
    change WC _ _ _ _ _ _
    refine WC.rs ?_
    refine va rfl rfl rfl (q_assign (v := .int .i64 (-1)) rfl (by kernel_rfl)) ?_
    refine WR.nil ?_
    change WC _ _ _ _ _ _
    refine WC.ret ?_
    intro w hw
    obtain rfl := Option.some.inj h
    subst hF
    exact ⟨by kernel_rfl, hw.fr⟩
set_option maxRecDepth 100000 in
set_option maxHeartbeats 400000 in
theorem t_firthref05_Less {Γ : Gh} {w0 : World} (a : Dot) (ha : Dot.fits Γ  a) (b : Dot) (hb : Dot.fits Γ  b) (hs : Sat Γ w0) {r : Bool} (h : m_firthref05_Less a b = some r) : Calls Try.prog 41 #[.agg #[.int .i64 a.s, .int .i64 a.n], .agg #[.int .i64 b.s, .int .i64 b.n]] w0 (fun e w' => e = .returned (.bool r) ∧ Fr no w0 w') := by
  refine calls_of (N := 20) (rs := [4]) (args := [.agg #[.int .i64 a.s, .int .i64 a.n], .agg #[.int .i64 b.s, .int .i64 b.n]]) Try.func41 rfl Try.ntmps41 Try.results41 rfl ?_
  obtain ⟨F, hF⟩ : ∃ F : Fm, F = ⟨no, w0, Γ⟩ := ⟨_, rfl⟩
  refine WC.here (C := CC F Γ []) ?_ (hF ▸ Cur.start0 hs)
  refine WC.rs ?_
  refine e_box (v := .agg #[.int .i64 a.s, .int .i64 a.n]) rfl rfl rfl rfl (by kernel_rfl) ?_
  intro g1
  refine e_box (v := .agg #[.int .i64 b.s, .int .i64 b.n]) rfl rfl rfl rfl (by kernel_rfl) ?_
  intro g2
  refine va rfl rfl rfl (q_assign (v := .bool false) rfl (by kernel_rfl)) ?_
  refine WR.nil ?_
  change WC _ _ _ _ _ _
  refine WC.seq ?_
  refine WC.rs ?_
  refine va rfl rfl rfl (q_fl 0 fld_27_0 rfl rfl rfl) ?_
  refine va rfl rfl rfl (q_ldl (i := 1) (v := .int .i64 a.s) rfl rfl Try.isAgg3 rfl rfl) ?_
  refine va rfl rfl rfl (q_fl 0 fld_27_0 rfl rfl rfl) ?_
  refine va rfl rfl rfl (q_ldl (i := 0) (v := .int .i64 b.s) rfl rfl Try.isAgg3 rfl rfl) ?_
  refine va rfl rfl rfl (q_neq rfl rfl rfl) ?_
  refine WR.nil ?_
  change WC _ _ _ _ _ _
  refine WC.cif h (by kernel_rfl) (fun hb3 h => ?_) (fun hb3 h => ?_)
  · skip
    refine WC.rs ?_
    refine va rfl rfl rfl (q_fl 0 fld_27_0 rfl rfl rfl) ?_
    refine va rfl rfl rfl (q_ldl (i := 1) (v := .int .i64 a.s) rfl rfl Try.isAgg3 rfl rfl) ?_
    refine va rfl rfl rfl (q_fl 0 fld_27_0 rfl rfl rfl) ?_
    refine va rfl rfl rfl (q_ldl (i := 0) (v := .int .i64 b.s) rfl rfl Try.isAgg3 rfl rfl) ?_
    refine va rfl rfl rfl (q_lss rfl rfl rfl) ?_
    refine va rfl rfl rfl (q_assign (v := .bool (decide (a.s < b.s))) rfl (by kernel_rfl)) ?_
    refine WR.nil ?_
    change WC _ _ _ _ _ _
    refine WC.ret ?_
    intro w hw
    obtain rfl := Option.some.inj h
    subst hF
    exact ⟨by kernel_rfl, hw.fr⟩
  · skip
    refine WC.skip ?_
    change WC _ _ _ _ _ _
    refine WC.rs ?_
    refine va rfl rfl rfl (q_fl 1 fld_27_1 rfl rfl rfl) ?_
    refine va rfl rfl rfl (q_ldl (i := 1) (v := .int .i64 a.n) rfl rfl Try.isAgg2 rfl rfl) ?_
    refine va rfl rfl rfl (q_fl 1 fld_27_1 rfl rfl rfl) ?_
    refine va rfl rfl rfl (q_ldl (i := 0) (v := .int .i64 b.n) rfl rfl Try.isAgg2 rfl rfl) ?_
    refine va rfl rfl rfl (q_lss rfl rfl rfl) ?_
    refine va rfl rfl rfl (q_assign (v := .bool (decide (a.n < b.n))) rfl (by kernel_rfl)) ?_
    refine WR.nil ?_
    change WC _ _ _ _ _ _
    refine WC.ret ?_
    intro w hw
    obtain rfl := Option.some.inj h
    subst hF
    exact ⟨by kernel_rfl, hw.fr⟩
abbrev r_firthref23_Put (r : List Dot) (U : List Rowb) (Γ : Gh) (v : Value) : Prop := ∃ (A0 : Option Addr), ∃ (c0 : Nat), v = .slice A0 r.length c0 ∧ U = [] ∧ r.length ≤ c0 ∧ Sl dotT Γ A0 r ∧ True
set_option maxRecDepth 100000 in
set_option maxHeartbeats 400000 in
theorem t_firthref23_Put {Γ : Gh} {w0 : World} {Al : Option Addr} {cl : Nat} {l : List Dot} (hl : Sl dotT Γ Al l) (hlc : l.length ≤ cl) (d : Dot) (hd : Dot.fits Γ  d) (hp : Pre [] Γ w0) {r : List Dot} (h : m_firthref23_Put l d = some r) : Calls Try.prog 24 #[.slice Al l.length cl, .agg #[.int .i64 d.s, .int .i64 d.n]] w0 (Outc Γ [] w0 (r_firthref23_Put r)) := by
  refine calls_of (N := 46) (rs := [4]) (args := [.slice Al l.length cl, .agg #[.int .i64 d.s, .int .i64 d.n]]) Try.func24 rfl Try.ntmps24 Try.results24 rfl ?_
  obtain ⟨F, hF⟩ : ∃ F : Fm, F = ⟨ids [], w0, Γ⟩ := ⟨_, rfl⟩
  refine WC.here (C := CC F Γ []) ?_ (hF ▸ hp.start)
  refine WC.rs ?_
  refine e_box (v := .agg #[.int .i64 d.s, .int .i64 d.n]) rfl rfl rfl rfl (by kernel_rfl) ?_
  intro g1
  refine va rfl rfl rfl (q_assign (v := .slice none 0 0) rfl (by kernel_rfl)) ?_
  refine WR.nil ?_
  change WC _ _ _ _ _ _
  refine WC.seq ?_
  refine WC.rs ?_
  refine va rfl rfl rfl (q_move (v := .slice Al l.length cl) rfl (by kernel_rfl)) ?_
  refine va rfl rfl rfl (q_ldla (i := 0) (vs := [.int .i64 d.s, .int .i64 d.n]) rfl rfl Try.isAgg27 Try.sizeOf27 rfl rfl) ?_
  obtain ⟨z2, hz3, h⟩ := bnd h
  refine vc rfl rfl rfl (q_call (call_run Try.call10 rfl rfl (by kernel_rfl)) (fun w hw => t_firthref23_Has (Γ := Gh.all w) (hl.mono hw.sat.le_all) hlc d hd (Sat.all w) hz3)) ?_
  refine WR.nil ?_
  change WC _ _ _ _ _ _
  refine WC.cif h (by kernel_rfl) (fun hb4 h => ?_) (fun hb4 h => ?_)
  · skip
    refine WC.rs ?_
    refine va rfl rfl rfl (q_move (v := .slice Al l.length cl) rfl (by kernel_rfl)) ?_
    refine va rfl rfl rfl (q_assign (v := .slice Al l.length cl) rfl (by kernel_rfl)) ?_
    refine WR.nil ?_
    change WC _ _ _ _ _ _
    refine WC.ret ?_
    intro w hw
    obtain rfl := Option.some.inj h
    subst hF
    exact end_e (is := []) (by kernel_rfl) hw rfl ⟨Al, cl, rfl, rfl, hlc, hl, trivial⟩
  · skip
    refine WC.skip ?_
    change WC _ _ _ _ _ _
    refine WC.rs ?_
    refine va rfl rfl rfl (q_assign (v := .slice none 0 0) rfl (by kernel_rfl)) ?_
    refine WR.nil ?_
    change WC _ _ _ _ _ _
    refine WC.rs ?_
    refine va rfl rfl rfl (q_assign (v := .bool false) rfl (by kernel_rfl)) ?_
    refine WR.nil ?_
    change WC _ _ _ _ _ _
    refine WC.seq ?_
    refine WC.rs ?_
    refine va rfl rfl rfl (q_assign (v := .int .i64 0) rfl (by kernel_rfl)) ?_
    refine WR.nil ?_
    change WC _ _ _ _ _ _
    refine WC.block ?_
    refine WC.forI h (fun (i12 : Nat) (s : (List Dot) × Bool) σ w => match s with | (out_5, laid_10) => ∃ (A6 : Option Addr), ∃ (c7 : Nat), ∃ (row8 : Rowb), slots σ [(0, .slice Al l.length cl), (3, .pointer (some ⟨g1, 0, none⟩)), (5, .slice A6 out_5.length c7), (6, .bool laid_10), (7, .int .i64 ((i12 : Nat) : Int))] ∧ CC F Γ [row8, [(g1, .cells #[.int .i64 d.s, .int .i64 d.n] 27 (0, 0))]] w ∧ Own dotT Γ 27 row8 A6 c7 out_5 ∧ True) ?_ ?_
    · skip
      intro w hw
      have hw := hw.pad
      exact ⟨none, 0, [], (sl_ (by kernel_rfl)), hw, (Own.nil dotT _ 27), trivial⟩
    rintro f11 i12 ⟨out_5, laid_10⟩ σ w hi13 hlt14 hge15 ⟨A6, c7, row8, hsl, hw, ho9, -⟩
    refine Wpt.slots hsl ?_
    refine WC.here (C := CC F Γ [row8, [(g1, .cells #[.int .i64 d.s, .int .i64 d.n] 27 (0, 0))]]) ?_ hw
    clear hw hsl
    refine WC.seq ?_
    refine WC.rs ?_
    refine va rfl rfl rfl (q_move (v := .int .i64 ((i12 : Nat) : Int)) rfl (by kernel_rfl)) ?_
    refine va rfl rfl rfl (q_move (v := .slice Al l.length cl) rfl (by kernel_rfl)) ?_
    refine va rfl rfl rfl (q_len_slice rfl Try.underlying29 rfl) ?_
    refine va rfl rfl rfl (q_lss rfl rfl rfl) ?_
    refine WR.nil ?_
    change WC _ _ _ _ _ _
    refine WC.cond (b := (decide (((i12 : Nat) : Int) < ((l.length : Nat) : Int)))) (by kernel_rfl) (fun hb16 => ?_) (fun hb16 => ?_)
    · skip
      have hl17 := ilt hb16
      have h := hlt14 hl17
      refine WC.skip ?_
      change WC _ _ _ _ _ _
      refine WC.seq ?_
      refine WC.block ?_
      refine WC.cut (fun σ w => ∃ (out_18 : List Dot), ∃ (laid_23 : Bool), ∃ (A19 : Option Addr), ∃ (c20 : Nat), ∃ (row21 : Rowb), m_firthref23_Put_j5 l f11 i12 out_18 laid_23 = some r ∧ slots σ [(0, .slice Al l.length cl), (3, .pointer (some ⟨g1, 0, none⟩)), (5, .slice A19 out_18.length c20), (6, .bool laid_23), (7, .int .i64 ((i12 : Nat) : Int))] ∧ CC F Γ [row21, [(g1, .cells #[.int .i64 d.s, .int .i64 d.n] 27 (0, 0))]] w ∧ Own dotT Γ 27 row21 A19 c20 out_18 ∧ True) ?_ ?_
      · skip
        refine WC.seq ?_
        refine WC.dr (by kernel_rfl) (by kernel_rfl) (fun w hw => hw.drawn _) ?_
        refine wa rfl rfl rfl (q_move (v := .bool laid_10) rfl (by kernel_rfl)) ?_
        refine wa rfl rfl rfl (q_not rfl rfl) ?_
        refine wa rfl rfl rfl (q_move (v := .bool (!laid_10)) rfl (by kernel_rfl)) ?_
        refine wg1 rfl rfl rfl rfl rfl (fun hg24 => QV.qo (q_ldla (i := 1) (vs := [.int .i64 d.s, .int .i64 d.n]) rfl rfl Try.isAgg27 Try.sizeOf27 rfl rfl)) ?_
        refine wg1 rfl rfl rfl rfl rfl (fun hg25 => QV.qo (q_move (v := .slice Al l.length cl) rfl (by kernel_rfl))) ?_
        refine wg1 rfl rfl rfl rfl rfl (fun hg26 => QV.qo (q_move (v := .int .i64 ((i12 : Nat) : Int)) rfl (by kernel_rfl))) ?_
        refine wg1 rfl rfl rfl rfl rfl (fun hg27 => QV.qo (q_ixn (i := i12) Try.underlying29 Try.sizeOf27 rfl (gu hg27 rfl) (gu hg27 rfl) hl17 (hl.some_ hl17))) ?_
        refine wg1 rfl rfl rfl rfl rfl (fun hg28 => QV.qo (q_lda (c := 0) (vs := [.int .i64 (gt l i12).s, .int .i64 (gt l i12).n]) (hl.dotT_at hl17).2 rfl Try.isAgg27 Try.sizeOf27 (gu hg28 rfl) rfl rfl)) ?_
        obtain ⟨z30, hz31, h⟩ := bnd h
        refine wg1 rfl rfl rfl rfl rfl (fun hg29 => (q_call (call_run Try.call41 rfl rfl (args2 (gu hg29 rfl) (gu hg29 rfl))) (fun w hw => t_firthref05_Less (Γ := Gh.all w) d hd (gt l i12) (hl.dotT_at hl17).1 (Sat.all w) (gc_of hz31 hg29)))) ?_
        refine wa rfl rfl rfl (q_pick rfl rfl (pk_and' (g := (!laid_10)) (y := z30))) ?_
        refine WQ.nil ?_
        change WC _ _ _ _ _ _
        refine WC.cif h (by kernel_rfl) (fun hb32 h => ?_) (fun hb32 h => ?_)
        · skip
          refine WC.rs ?_
          refine va rfl rfl rfl (q_move (v := .slice A6 out_5.length c7) rfl (by kernel_rfl)) ?_
          refine va rfl rfl rfl (q_ldla (i := 1) (vs := [.int .i64 d.s, .int .i64 d.n]) rfl rfl Try.isAgg27 Try.sizeOf27 rfl rfl) ?_
          refine e_buildSlice (cs := #[.int .i64 d.s, .int .i64 d.n]) (e := 27) rfl rfl rfl rfl (fun w => by kernel_rfl) ?_
          intro g33
          obtain ⟨hk34, h⟩ := chk_some h
          refine e_append (T := dotT) (xs := out_5) (ys := [d]) elem_29 (i := 1) rfl rfl rfl rfl rfl rfl rfl ho9 (of_decide_eq_true hk34) (fun w hw => src_one (T := dotT) (y := d) (i := 0) rfl (by exact ⟨rfl, hd⟩) hw) ?_
          intro row35 A36 c37 ho38
          refine va rfl rfl rfl (q_assign (v := .slice A36 (out_5 ++ [d]).length c37) rfl (by kernel_rfl)) ?_
          refine WR.nil ?_
          change WC _ _ _ _ _ _
          refine WC.region ?_
          refine va rfl rfl rfl (q_assign (v := .bool true) rfl (by kernel_rfl)) ?_
          refine WR.nil ?_
          intro w hw
          exact ⟨(out_5 ++ [d]), true, A36, c37, row35, h, (sl_ (by kernel_rfl)), (hw.only (is := [1, 1]) rfl), ho38, trivial⟩
        · skip
          refine WC.skip ?_
          intro w hw
          exact ⟨out_5, laid_10, A6, c7, row8, h, (sl_ (by kernel_rfl)), hw, ho9, trivial⟩
      · skip
        rintro σ w ⟨out_18, laid_23, A19, c20, row21, h, hsl, hw, ho22, -⟩
        refine Wpt.slots hsl ?_
        refine WC.here (C := CC F Γ [row21, [(g1, .cells #[.int .i64 d.s, .int .i64 d.n] 27 (0, 0))]]) ?_ hw
        clear hw hsl
        refine WC.region ?_
        refine va rfl rfl rfl (q_move (v := .slice A19 out_18.length c20) rfl (by kernel_rfl)) ?_
        refine va rfl rfl rfl (q_move (v := .slice Al l.length cl) rfl (by kernel_rfl)) ?_
        refine va rfl rfl rfl (q_move (v := .int .i64 ((i12 : Nat) : Int)) rfl (by kernel_rfl)) ?_
        refine va rfl rfl rfl (q_ixn (i := i12) Try.underlying29 Try.sizeOf27 rfl rfl rfl hl17 (hl.some_ hl17)) ?_
        refine va rfl rfl rfl (q_lda (c := 0) (vs := [.int .i64 (gt l i12).s, .int .i64 (gt l i12).n]) (hl.dotT_at hl17).2 rfl Try.isAgg27 Try.sizeOf27 rfl rfl rfl) ?_
        refine e_buildSlice (cs := #[.int .i64 (gt l i12).s, .int .i64 (gt l i12).n]) (e := 27) rfl rfl rfl rfl (fun w => by kernel_rfl) ?_
        intro g39
        obtain ⟨hk40, h⟩ := chk_some h
        refine e_append (T := dotT) (xs := out_18) (ys := [(gt l i12)]) elem_29 (i := 1) rfl rfl rfl rfl rfl rfl rfl ho22 (of_decide_eq_true hk40) (fun w hw => src_one (T := dotT) (y := (gt l i12)) (i := 0) rfl (by exact ⟨rfl, (hl.dotT_at hl17).1⟩) hw) ?_
        intro row41 A42 c43 ho44
        refine va rfl rfl rfl (q_assign (v := .slice A42 (out_18 ++ [(gt l i12)]).length c43) rfl (by kernel_rfl)) ?_
        refine WR.nil ?_
        change WC _ _ _ _ _ _
        refine WC.region ?_
        refine va rfl rfl rfl (q_move (v := .int .i64 ((i12 : Nat) : Int)) rfl (by kernel_rfl)) ?_
        refine va rfl rfl rfl (q_add_r (r := ((i12 + 1 : Nat) : Int)) rfl rfl rfl (ctr_len hl17 hl.le)) ?_
        refine va rfl rfl rfl (q_assign (v := .int .i64 ((i12 + 1 : Nat) : Int)) rfl (by kernel_rfl)) ?_
        refine WR.nil ?_
        intro w hw
        exact ⟨hl17, ((out_18 ++ [(gt l i12)]), laid_23), h, A42, c43, row41, (sl_ (by kernel_rfl)), (hw.only (is := [1, 1]) rfl), ho44, trivial⟩
    · skip
      have h := hge15 (ige hb16)
      refine WC.exit ?_
      change WC _ _ _ _ _ _
      refine WC.seq ?_
      refine WC.rs ?_
      refine va rfl rfl rfl (q_move (v := .bool laid_10) rfl (by kernel_rfl)) ?_
      refine va rfl rfl rfl (q_not rfl rfl) ?_
      refine WR.nil ?_
      change WC _ _ _ _ _ _
      refine WC.cif h (by kernel_rfl) (fun hb45 h => ?_) (fun hb45 h => ?_)
      · skip
        refine WC.region ?_
        refine va rfl rfl rfl (q_move (v := .slice A6 out_5.length c7) rfl (by kernel_rfl)) ?_
        refine va rfl rfl rfl (q_ldla (i := 1) (vs := [.int .i64 d.s, .int .i64 d.n]) rfl rfl Try.isAgg27 Try.sizeOf27 rfl rfl) ?_
        refine e_buildSlice (cs := #[.int .i64 d.s, .int .i64 d.n]) (e := 27) rfl rfl rfl rfl (fun w => by kernel_rfl) ?_
        intro g46
        obtain ⟨hk47, h⟩ := chk_some h
        refine e_append (T := dotT) (xs := out_5) (ys := [d]) elem_29 (i := 1) rfl rfl rfl rfl rfl rfl rfl ho9 (of_decide_eq_true hk47) (fun w hw => src_one (T := dotT) (y := d) (i := 0) rfl (by exact ⟨rfl, hd⟩) hw) ?_
        intro row48 A49 c50 ho51
        refine va rfl rfl rfl (q_assign (v := .slice A49 (out_5 ++ [d]).length c50) rfl (by kernel_rfl)) ?_
        refine WR.nil ?_
        change WC _ _ _ _ _ _
        refine WC.rs ?_
        refine va rfl rfl rfl (q_move (v := .slice A49 (out_5 ++ [d]).length c50) rfl (by kernel_rfl)) ?_
        refine va rfl rfl rfl (q_assign (v := .slice A49 (out_5 ++ [d]).length c50) rfl (by kernel_rfl)) ?_
        refine WR.nil ?_
        change WC _ _ _ _ _ _
        refine WC.ret ?_
        intro w hw
        have hc56 := ho51.capz
        obtain ⟨Γ52, hw, hl53, hr54⟩ := hw.seal (i := 1) rfl; have hs55 := ho51.sl hl53 hr54
        obtain rfl := Option.some.inj h
        subst hF
        exact end_e (is := []) (by kernel_rfl) hw rfl ⟨A49, c50, rfl, rfl, hc56, hs55, trivial⟩
      · skip
        refine WC.skip ?_
        change WC _ _ _ _ _ _
        refine WC.rs ?_
        refine va rfl rfl rfl (q_move (v := .slice A6 out_5.length c7) rfl (by kernel_rfl)) ?_
        refine va rfl rfl rfl (q_assign (v := .slice A6 out_5.length c7) rfl (by kernel_rfl)) ?_
        refine WR.nil ?_
        change WC _ _ _ _ _ _
        refine WC.ret ?_
        intro w hw
        have hc61 := ho9.capz
        obtain ⟨Γ57, hw, hl58, hr59⟩ := hw.seal (i := 0) rfl; have hs60 := ho9.sl hl58 hr59
        obtain rfl := Option.some.inj h
        subst hF
        exact end_e (is := []) (by kernel_rfl) hw rfl ⟨A6, c7, rfl, rfl, hc61, hs60, trivial⟩
abbrev r_firthref23_All (r : List Dot) (U : List Rowb) (Γ : Gh) (v : Value) : Prop := ∃ (A0 : Option Addr), ∃ (c0 : Nat), v = .slice A0 r.length c0 ∧ U = [] ∧ r.length ≤ c0 ∧ Sl dotT Γ A0 r ∧ True
set_option maxRecDepth 100000 in
set_option maxHeartbeats 400000 in
theorem t_firthref23_All {Γ : Gh} {w0 : World} {Al : Option Addr} {cl : Nat} {l : List Dot} (hl : Sl dotT Γ Al l) (hlc : l.length ≤ cl) {Amore : Option Addr} {cmore : Nat} {more : List Dot} (hmore : Sl dotT Γ Amore more) (hmorec : more.length ≤ cmore) (hp : Pre [] Γ w0) {r : List Dot} (h : m_firthref23_All l more = some r) : Calls Try.prog 15 #[.slice Al l.length cl, .slice Amore more.length cmore] w0 (Outc Γ [] w0 (r_firthref23_All r)) := by
  refine calls_of (N := 19) (rs := [4]) (args := [.slice Al l.length cl, .slice Amore more.length cmore]) Try.func15 rfl Try.ntmps15 Try.results15 rfl ?_
  obtain ⟨F, hF⟩ : ∃ F : Fm, F = ⟨ids [], w0, Γ⟩ := ⟨_, rfl⟩
  refine WC.here (C := CC F Γ []) ?_ (hF ▸ hp.start)
  refine WC.rs ?_
  refine va rfl rfl rfl (q_assign (v := .slice none 0 0) rfl (by kernel_rfl)) ?_
  refine WR.nil ?_
  change WC _ _ _ _ _ _
  refine WC.seq ?_
  refine WC.rs ?_
  refine va rfl rfl rfl (q_assign (v := .int .i64 0) rfl (by kernel_rfl)) ?_
  refine WR.nil ?_
  change WC _ _ _ _ _ _
  refine WC.block ?_
  refine WC.forI h (fun (i9 : Nat) (l_3 : List Dot) σ w => ∃ (Γ1 : Gh), ∃ (A4 : Option Addr), ∃ (c5 : Nat), slots σ [(0, .slice A4 l_3.length c5), (1, .slice Amore more.length cmore), (5, .int .i64 ((i9 : Nat) : Int))] ∧ CC F Γ1 [] w ∧ Gh.le Γ Γ1 ∧ l_3.length ≤ c5 ∧ Sl dotT Γ1 A4 l_3 ∧ True) ?_ ?_
  · skip
    intro w hw
    exact ⟨Γ, Al, cl, (sl_ (by kernel_rfl)), hw, (Gh.refl _), hlc, hl, trivial⟩
  rintro f8 i9 l_3 σ w hi10 hlt11 hge12 ⟨Γ1, A4, c5, hsl, hw, hl2, hc7, hs6, -⟩
  refine Wpt.slots hsl ?_
  refine WC.here (C := CC F Γ1 []) ?_ hw
  clear hw hsl
  refine WC.seq ?_
  refine WC.rs ?_
  refine va rfl rfl rfl (q_move (v := .int .i64 ((i9 : Nat) : Int)) rfl (by kernel_rfl)) ?_
  refine va rfl rfl rfl (q_move (v := .slice Amore more.length cmore) rfl (by kernel_rfl)) ?_
  refine va rfl rfl rfl (q_len_slice rfl Try.underlying29 rfl) ?_
  refine va rfl rfl rfl (q_lss rfl rfl rfl) ?_
  refine WR.nil ?_
  change WC _ _ _ _ _ _
  refine WC.cond (b := (decide (((i9 : Nat) : Int) < ((more.length : Nat) : Int)))) (by kernel_rfl) (fun hb13 => ?_) (fun hb13 => ?_)
  · skip
    have hl14 := ilt hb13
    have h := hlt11 hl14
    refine WC.skip ?_
    change WC _ _ _ _ _ _
    refine WC.seq ?_
    refine WC.block ?_
    refine WC.region ?_
    refine va rfl rfl rfl (q_move (v := .slice A4 l_3.length c5) rfl (by kernel_rfl)) ?_
    refine va rfl rfl rfl (q_move (v := .slice Amore more.length cmore) rfl (by kernel_rfl)) ?_
    refine va rfl rfl rfl (q_move (v := .int .i64 ((i9 : Nat) : Int)) rfl (by kernel_rfl)) ?_
    refine va rfl rfl rfl (q_ixn (i := i9) Try.underlying29 Try.sizeOf27 rfl rfl rfl hl14 ((hmore.mono hl2).some_ hl14)) ?_
    refine va rfl rfl rfl (q_lda (c := 0) (vs := [.int .i64 (gt more i9).s, .int .i64 (gt more i9).n]) ((hmore.mono hl2).dotT_at hl14).2 rfl Try.isAgg27 Try.sizeOf27 rfl rfl rfl) ?_
    obtain ⟨z15, hz16, h⟩ := bnd h
    refine e_call (is := []) rfl rfl (call_run Try.call24 rfl rfl (by kernel_rfl)) rfl (fun w hp => t_firthref23_Put hs6 hc7 (gt more i9) ((hmore.mono hl2).dotT_at hl14).1 hp hz16) ?_
    rintro Γ17 U19 v20 hl18 ⟨A21, c22, rfl, rfl, hc24, hr23, _⟩
    change WR _ _ _ (CC F Γ17 []) _ _ (upd _ 17 (.slice A21 z15.length c22))
    refine va rfl rfl rfl (q_assign (v := .slice A21 z15.length c22) rfl (by kernel_rfl)) ?_
    refine WR.nil ?_
    change WC _ _ _ _ _ _
    refine WC.region ?_
    refine va rfl rfl rfl (q_move (v := .int .i64 ((i9 : Nat) : Int)) rfl (by kernel_rfl)) ?_
    refine va rfl rfl rfl (q_add_r (r := ((i9 + 1 : Nat) : Int)) rfl rfl rfl (ctr_len hl14 (hmore.mono hl2).le)) ?_
    refine va rfl rfl rfl (q_assign (v := .int .i64 ((i9 + 1 : Nat) : Int)) rfl (by kernel_rfl)) ?_
    refine WR.nil ?_
    intro w hw
    exact ⟨hl14, z15, h, Γ17, A21, c22, (sl_ (by kernel_rfl)), hw, (hl2.trans hl18), hc24, hr23, trivial⟩
  · skip
    have h := hge12 (ige hb13)
    refine WC.exit ?_
    change WC _ _ _ _ _ _
    refine WC.rs ?_
    refine va rfl rfl rfl (q_move (v := .slice A4 l_3.length c5) rfl (by kernel_rfl)) ?_
    refine va rfl rfl rfl (q_assign (v := .slice A4 l_3.length c5) rfl (by kernel_rfl)) ?_
    refine WR.nil ?_
    change WC _ _ _ _ _ _
    refine WC.ret ?_
    intro w hw
    obtain rfl := Option.some.inj h
    subst hF
    exact end_e (is := []) (by kernel_rfl) hw rfl ⟨A4, c5, rfl, rfl, hc7, hs6, trivial⟩
abbrev r_firthref23_Steps (r : List Dot) (U : List Rowb) (Γ : Gh) (v : Value) : Prop := ∃ (A0 : Option Addr), ∃ (c0 : Nat), v = .slice A0 r.length c0 ∧ U = [] ∧ r.length ≤ c0 ∧ Sl dotT Γ A0 r ∧ True
set_option maxRecDepth 100000 in
set_option maxHeartbeats 400000 in
theorem t_firthref23_Steps {Γ : Gh} {w0 : World} {Alist : Option Addr} {clist : Nat} {list : List Dfirthref23_Act} (hlist : Sl dfirthref23_ActT Γ Alist list) (hlistc : list.length ≤ clist) (at_ : Int) (hat_ : I64 at_) (hp : Pre [] Γ w0) {r : List Dot} (h : m_firthref23_Steps list at_ = some r) : Calls Try.prog 26 #[.slice Alist list.length clist, .int .i64 at_] w0 (Outc Γ [] w0 (r_firthref23_Steps r)) := by
  refine calls_of (N := 45) (rs := [4]) (args := [.slice Alist list.length clist, .int .i64 at_]) Try.func26 rfl Try.ntmps26 Try.results26 rfl ?_
  obtain ⟨F, hF⟩ : ∃ F : Fm, F = ⟨ids [], w0, Γ⟩ := ⟨_, rfl⟩
  refine WC.here (C := CC F Γ []) ?_ (hF ▸ hp.start)
  refine WC.rs ?_
  refine va rfl rfl rfl (q_assign (v := .slice none 0 0) rfl (by kernel_rfl)) ?_
  refine WR.nil ?_
  change WC _ _ _ _ _ _
  refine WC.rs ?_
  refine va rfl rfl rfl (q_assign (v := .slice none 0 0) rfl (by kernel_rfl)) ?_
  refine WR.nil ?_
  change WC _ _ _ _ _ _
  refine WC.seq ?_
  refine WC.rs ?_
  refine va rfl rfl rfl (q_assign (v := .int .i64 0) rfl (by kernel_rfl)) ?_
  refine WR.nil ?_
  change WC _ _ _ _ _ _
  refine WC.block ?_
  refine WC.forU h (fun (i9 : Nat) (out_3 : List Dot) σ w => ∃ (Γ1 : Gh), ∃ (A4 : Option Addr), ∃ (c5 : Nat), slots σ [(0, .slice Alist list.length clist), (1, .int .i64 at_), (5, .slice A4 out_3.length c5), (6, .int .i64 ((i9 : Nat) : Int))] ∧ CC F Γ1 [] w ∧ Gh.le Γ Γ1 ∧ out_3.length ≤ c5 ∧ Sl dotT Γ1 A4 out_3 ∧ True) ?_ ?_
  · skip
    intro w hw
    exact ⟨Γ, none, 0, (sl_ (by kernel_rfl)), hw, (Gh.refl _), (Nat.zero_le 0), (Sl.nil dotT _ none), trivial⟩
  rintro f8 i9 out_3 σ w hi10 hlt11 hge12 ⟨Γ1, A4, c5, hsl, hw, hl2, hc7, hs6, -⟩
  refine Wpt.slots hsl ?_
  refine WC.here (C := CC F Γ1 []) ?_ hw
  clear hw hsl
  refine WC.seq ?_
  refine WC.rs ?_
  refine va rfl rfl rfl (q_move (v := .int .i64 ((i9 : Nat) : Int)) rfl (by kernel_rfl)) ?_
  refine va rfl rfl rfl (q_move (v := .int .i64 at_) rfl (by kernel_rfl)) ?_
  refine va rfl rfl rfl (q_lss rfl rfl rfl) ?_
  refine WR.nil ?_
  change WC _ _ _ _ _ _
  refine WC.cond (b := (decide (((i9 : Nat) : Int) < at_))) (by kernel_rfl) (fun hb13 => ?_) (fun hb13 => ?_)
  · skip
    have hl14 := ilti hb13
    have h := hlt11 hl14
    refine WC.skip ?_
    change WC _ _ _ _ _ _
    refine WC.cut (fun σ w => ∃ (out_17 : List Dot), ∃ (Γ15 : Gh), ∃ (A18 : Option Addr), ∃ (c19 : Nat), m_firthref23_Steps_j5 f8 out_17 = some r ∧ slots σ [(0, .slice Alist list.length clist), (1, .int .i64 at_), (5, .slice A18 out_17.length c19), (6, .int .i64 ((i9 : Nat) : Int))] ∧ CC F Γ15 [] w ∧ Gh.le Γ1 Γ15 ∧ out_17.length ≤ c19 ∧ Sl dotT Γ15 A18 out_17 ∧ True) ?_ ?_
    · skip
      refine WC.block ?_
      refine WC.rs ?_
      refine va rfl rfl rfl (q_move (v := .slice Alist list.length clist) rfl (by kernel_rfl)) ?_
      refine va rfl rfl rfl (q_move (v := .int .i64 ((i9 : Nat) : Int)) rfl (by kernel_rfl)) ?_
      obtain ⟨hk22, h⟩ := chk_some h
      refine va rfl rfl rfl (q_ixn (i := i9) Try.underlying36 Try.sizeOf49 rfl rfl rfl (of_decide_eq_true hk22) ((hlist.mono hl2).some_ (of_decide_eq_true hk22))) ?_
      obtain ⟨A23, c24, A25, c26, hx27⟩ := (hlist.mono hl2).dfirthref23_ActT_at i9
      refine va rfl rfl rfl (q_lda (c := 0) (vs := [.bool (gt list i9).read, .int .i64 (gt list i9).sess, .string (gt list i9).key, .int .i64 (gt list i9).dot.s, .int .i64 (gt list i9).dot.n, .bool (gt list i9).oK, .slice A23 ((gt list i9).reads).length c24, .slice A25 ((gt list i9).seen).length c26]) (hx27 (of_decide_eq_true hk22)).2 rfl Try.isAgg49 Try.sizeOf49 rfl rfl rfl) ?_
      refine e_alloc Try.zeroValue49 rfl rfl rfl rfl ?_
      intro g28
      refine e_st (i := 0) (v := .agg #[.bool (gt list i9).read, .int .i64 (gt list i9).sess, .string (gt list i9).key, .int .i64 (gt list i9).dot.s, .int .i64 (gt list i9).dot.n, .bool (gt list i9).oK, .slice A23 ((gt list i9).reads).length c24, .slice A25 ((gt list i9).seen).length c26]) (new := #[.bool (gt list i9).read, .int .i64 (gt list i9).sess, .string (gt list i9).key, .int .i64 (gt list i9).dot.s, .int .i64 (gt list i9).dot.n, .bool (gt list i9).oK, .slice A23 ((gt list i9).reads).length c24, .slice A25 ((gt list i9).seen).length c26]) rfl Try.sizeOf49 rfl rfl rfl rfl (by kernel_rfl) rfl rfl rfl rfl ?_
      refine WR.nil ?_
      change WC _ _ _ _ _ _
      refine WC.seq ?_
      refine WC.seq ?_
      refine WC.dr (by kernel_rfl) (by kernel_rfl) (fun w hw => hw.drawn _) ?_
      refine wa rfl rfl rfl (q_fl 1 fld_49_1 rfl rfl rfl) ?_
      refine wa rfl rfl rfl (q_ldl (i := 0) (v := .int .i64 (gt list i9).sess) rfl rfl Try.isAgg3 rfl rfl) ?_
      refine wa rfl rfl rfl (q_move (v := .slice Alist list.length clist) rfl (by kernel_rfl)) ?_
      refine wa rfl rfl rfl (q_move (v := .int .i64 at_) rfl (by kernel_rfl)) ?_
      obtain ⟨hk29, h⟩ := chk_some h
      refine wa rfl rfl rfl (q_ix Try.underlying36 Try.sizeOf49 rfl rfl rfl hk29 ((hlist.mono hl2).some_ (inb_lt hk29))) ?_
      refine wa rfl rfl rfl (q_field_addr (at_.toNat * 8 + 1) fld_49_1 rfl rfl ((hlist.mono hl2).some_ (inb_lt hk29)) rfl) ?_
      obtain ⟨A30, c31, A32, c33, hx34⟩ := (hlist.mono hl2).dfirthref23_ActT_at at_.toNat
      refine wa rfl rfl rfl (q_ld (c := 1) (v := .int .i64 (gt list at_.toNat).sess) (hx34 (inb_lt hk29)).2 rfl Try.isAgg3 rfl rfl) ?_
      refine wa rfl rfl rfl (q_neq rfl rfl rfl) ?_
      refine wa rfl rfl rfl (q_move (v := .bool ((gt list i9).sess != (gt list at_.toNat).sess)) rfl (by kernel_rfl)) ?_
      refine wg0 rfl rfl rfl rfl rfl (fun hg35 => QV.qo (q_fl 5 fld_49_4 rfl rfl rfl)) ?_
      refine wg0 rfl rfl rfl rfl rfl (fun hg36 => QV.qo (q_ldl (i := 0) (v := .bool (gt list i9).oK) rfl rfl Try.isAgg4 (gu hg36 rfl) rfl)) ?_
      refine wg0 rfl rfl rfl rfl rfl (fun hg37 => QV.qo (q_not rfl (gu hg37 rfl))) ?_
      refine wa rfl rfl rfl (q_pick rfl rfl (pk_or' (g := ((gt list i9).sess != (gt list at_.toNat).sess)) (y := (!(gt list i9).oK)))) ?_
      refine WQ.nil ?_
      change WC _ _ _ _ _ _
      refine WC.cif h (by kernel_rfl) (fun hb38 h => ?_) (fun hb38 h => ?_)
      · skip
        refine WC.exit ?_
        intro w hw
        exact ⟨out_3, Γ1, A4, c5, h, (sl_ (by kernel_rfl)), (hw.only (is := []) rfl), (Gh.refl _), hc7, hs6, trivial⟩
      · skip
        refine WC.skip ?_
        change WC _ _ _ _ _ _
        refine WC.rs ?_
        refine va rfl rfl rfl (q_fl 0 fld_49_0 rfl rfl rfl) ?_
        refine va rfl rfl rfl (q_ldl (i := 0) (v := .bool (gt list i9).read) rfl rfl Try.isAgg4 rfl rfl) ?_
        refine WR.nil ?_
        change WC _ _ _ _ _ _
        refine WC.cif h (by kernel_rfl) (fun hb39 h => ?_) (fun hb39 h => ?_)
        · skip
          refine WC.region ?_
          refine va rfl rfl rfl (q_move (v := .slice A4 out_3.length c5) rfl (by kernel_rfl)) ?_
          refine va rfl rfl rfl (q_fl 6 fld_49_5 rfl rfl rfl) ?_
          refine va rfl rfl rfl (q_ldl (i := 0) (v := .slice A23 ((gt list i9).reads).length c24) rfl rfl Try.isAgg29 rfl rfl) ?_
          obtain ⟨z40, hz41, h⟩ := bnd h
          refine e_call (is := []) rfl rfl (call_run Try.call15 rfl rfl (by kernel_rfl)) rfl (fun w hp => t_firthref23_All hs6 hc7 (hx27 (of_decide_eq_true hk22)).1.2.2.2.2.1.2 (hx27 (of_decide_eq_true hk22)).1.2.2.2.2.1.1 hp hz41) ?_
          rintro Γ42 U44 v45 hl43 ⟨A46, c47, rfl, rfl, hc49, hr48, _⟩
          change WR _ _ _ (CC F Γ42 [[(g28, .cells #[.bool (gt list i9).read, .int .i64 (gt list i9).sess, .string (gt list i9).key, .int .i64 (gt list i9).dot.s, .int .i64 (gt list i9).dot.n, .bool (gt list i9).oK, .slice A23 ((gt list i9).reads).length c24, .slice A25 ((gt list i9).seen).length c26] 49 (0, 0))]]) _ _ (upd _ 35 (.slice A46 z40.length c47))
          refine va rfl rfl rfl (q_assign (v := .slice A46 z40.length c47) rfl (by kernel_rfl)) ?_
          refine WR.nil ?_
          intro w hw
          exact ⟨z40, Γ42, A46, c47, h, (sl_ (by kernel_rfl)), (hw.only (is := []) rfl), hl43, hc49, hr48, trivial⟩
        · skip
          refine WC.rs ?_
          refine va rfl rfl rfl (q_fl 3 fld_49_3 rfl rfl rfl) ?_
          refine va rfl rfl rfl (q_fl 4 fld_27_1 rfl rfl rfl) ?_
          refine va rfl rfl rfl (q_ldl (i := 0) (v := .int .i64 (gt list i9).dot.n) rfl rfl Try.isAgg2 rfl rfl) ?_
          refine va rfl rfl rfl (q_gtr rfl rfl rfl) ?_
          refine WR.nil ?_
          change WC _ _ _ _ _ _
          refine WC.cif h (by kernel_rfl) (fun hb50 h => ?_) (fun hb50 h => ?_)
          · skip
            refine WC.region ?_
            refine va rfl rfl rfl (q_move (v := .slice A4 out_3.length c5) rfl (by kernel_rfl)) ?_
            refine va rfl rfl rfl (q_fl 3 fld_49_3 rfl rfl rfl) ?_
            refine va rfl rfl rfl (q_ldla (i := 0) (vs := [.int .i64 (gt list i9).dot.s, .int .i64 (gt list i9).dot.n]) rfl rfl Try.isAgg27 Try.sizeOf27 rfl rfl) ?_
            obtain ⟨z51, hz52, h⟩ := bnd h
            refine e_call (is := []) rfl rfl (call_run Try.call24 rfl rfl (by kernel_rfl)) rfl (fun w hp => t_firthref23_Put hs6 hc7 ((gt list i9).dot) ⟨(hx27 (of_decide_eq_true hk22)).1.2.2.1, (hx27 (of_decide_eq_true hk22)).1.2.2.2.1⟩ hp hz52) ?_
            rintro Γ53 U55 v56 hl54 ⟨A57, c58, rfl, rfl, hc60, hr59, _⟩
            change WR _ _ _ (CC F Γ53 [[(g28, .cells #[.bool (gt list i9).read, .int .i64 (gt list i9).sess, .string (gt list i9).key, .int .i64 (gt list i9).dot.s, .int .i64 (gt list i9).dot.n, .bool (gt list i9).oK, .slice A23 ((gt list i9).reads).length c24, .slice A25 ((gt list i9).seen).length c26] 49 (0, 0))]]) _ _ (upd _ 43 (.slice A57 z51.length c58))
            refine va rfl rfl rfl (q_assign (v := .slice A57 z51.length c58) rfl (by kernel_rfl)) ?_
            refine WR.nil ?_
            intro w hw
            exact ⟨z51, Γ53, A57, c58, h, (sl_ (by kernel_rfl)), (hw.only (is := []) rfl), hl54, hc60, hr59, trivial⟩
          · skip
            refine WC.skip ?_
            intro w hw
            exact ⟨out_3, Γ1, A4, c5, h, (sl_ (by kernel_rfl)), (hw.only (is := []) rfl), (Gh.refl _), hc7, hs6, trivial⟩
    · skip
      rintro σ w ⟨out_17, Γ15, A18, c19, h, hsl, hw, hl16, hc21, hs20, -⟩
      refine Wpt.slots hsl ?_
      refine WC.here (C := CC F Γ15 []) ?_ hw
      clear hw hsl
      refine WC.region ?_
      refine va rfl rfl rfl (q_move (v := .int .i64 ((i9 : Nat) : Int)) rfl (by kernel_rfl)) ?_
      refine va rfl rfl rfl (q_add_r (r := ((i9 + 1 : Nat) : Int)) rfl rfl rfl (ctr_int hl14 hat_)) ?_
      refine va rfl rfl rfl (q_assign (v := .int .i64 ((i9 + 1 : Nat) : Int)) rfl (by kernel_rfl)) ?_
      refine WR.nil ?_
      intro w hw
      exact ⟨hl14, out_17, h, Γ15, A18, c19, (sl_ (by kernel_rfl)), hw, (hl2.trans hl16), hc21, hs20, trivial⟩
  · skip
    have h := hge12 (igei hb13)
    refine WC.exit ?_
    change WC _ _ _ _ _ _
    refine WC.rs ?_
    refine va rfl rfl rfl (q_move (v := .slice A4 out_3.length c5) rfl (by kernel_rfl)) ?_
    refine va rfl rfl rfl (q_assign (v := .slice A4 out_3.length c5) rfl (by kernel_rfl)) ?_
    refine WR.nil ?_
    change WC _ _ _ _ _ _
    refine WC.ret ?_
    intro w hw
    obtain rfl := Option.some.inj h
    subst hF
    exact end_e (is := []) (by kernel_rfl) hw rfl ⟨A4, c5, rfl, rfl, hc7, hs6, trivial⟩
abbrev r_firthref23_Closure (r : List Dot) (U : List Rowb) (Γ : Gh) (v : Value) : Prop := ∃ (A0 : Option Addr), ∃ (c0 : Nat), v = .slice A0 r.length c0 ∧ U = [] ∧ r.length ≤ c0 ∧ Sl dotT Γ A0 r ∧ True
set_option maxRecDepth 100000 in
set_option maxHeartbeats 400000 in
theorem t_firthref23_Closure {Γ : Gh} {w0 : World} {Alist : Option Addr} {clist : Nat} {list : List Dfirthref23_Act} (hlist : Sl dfirthref23_ActT Γ Alist list) (hlistc : list.length ≤ clist) {Al : Option Addr} {cl : Nat} {l : List Dot} (hl : Sl dotT Γ Al l) (hlc : l.length ≤ cl) (hp : Pre [] Γ w0) {r : List Dot} (h : m_firthref23_Closure list l = some r) : Calls Try.prog 25 #[.slice Alist list.length clist, .slice Al l.length cl] w0 (Outc Γ [] w0 (r_firthref23_Closure r)) := by
  refine calls_of (N := 44) (rs := [4]) (args := [.slice Alist list.length clist, .slice Al l.length cl]) Try.func25 rfl Try.ntmps25 Try.results25 rfl ?_
  obtain ⟨F, hF⟩ : ∃ F : Fm, F = ⟨ids [], w0, Γ⟩ := ⟨_, rfl⟩
  refine WC.here (C := CC F Γ []) ?_ (hF ▸ hp.start)
  refine WC.rs ?_
  refine va rfl rfl rfl (q_assign (v := .slice none 0 0) rfl (by kernel_rfl)) ?_
  refine WR.nil ?_
  change WC _ _ _ _ _ _
  refine WC.rs ?_
  refine va rfl rfl rfl (q_assign (v := .slice none 0 0) rfl (by kernel_rfl)) ?_
  refine WR.nil ?_
  change WC _ _ _ _ _ _
  refine WC.rs ?_
  refine va rfl rfl rfl (q_assign (v := .slice none 0 0) rfl (by kernel_rfl)) ?_
  refine WR.nil ?_
  change WC _ _ _ _ _ _
  refine WC.rs ?_
  refine va rfl rfl rfl (q_move (v := .slice none 0 0) rfl (by kernel_rfl)) ?_
  refine va rfl rfl rfl (q_move (v := .slice Al l.length cl) rfl (by kernel_rfl)) ?_
  refine WR.sub (fun w hw => hw.pad) ?_
  obtain ⟨hk1, h⟩ := chk_some h
  refine e_append (T := dotT) (xs := []) (ys := l) elem_29 (i := 0) rfl rfl rfl rfl (by kernel_rfl) rfl rfl (Own.nil dotT Γ 27) (of_decide_eq_true hk1) (fun w hw => src_sl hl hw) ?_
  intro row2 A3 c4 ho5
  refine va rfl rfl rfl (q_assign (v := .slice A3 l.length c4) rfl (by kernel_rfl)) ?_
  refine WR.nil ?_
  change WC _ _ _ _ _ _
  refine WC.seq ?_
  refine WC.rs ?_
  refine va rfl rfl rfl (q_assign (v := .int .i64 0) rfl (by kernel_rfl)) ?_
  refine WR.nil ?_
  change WC _ _ _ _ _ _
  refine WC.block ?_
  refine WC.loopN h (fun (s : (List Dot) × (List Dot) × Int) σ w => match s with | (out_8, todo_13, i_18) => ∃ (Γ6 : Gh), ∃ (A9 : Option Addr), ∃ (c10 : Nat), ∃ (A14 : Option Addr), ∃ (c15 : Nat), ∃ (row16 : Rowb), slots σ [(0, .slice Alist list.length clist), (5, .slice A9 out_8.length c10), (6, .slice A14 todo_13.length c15), (7, .int .i64 i_18)] ∧ CC F Γ6 [row16] w ∧ Gh.le Γ Γ6 ∧ out_8.length ≤ c10 ∧ Sl dotT Γ6 A9 out_8 ∧ Own dotT Γ6 27 row16 A14 c15 todo_13 ∧ I64 i_18 ∧ True) ?_ ?_
  · skip
    intro w hw
    exact ⟨Γ, none, 0, A3, c4, row2, (sl_ (by kernel_rfl)), hw, (Gh.refl _), (Nat.zero_le 0), (Sl.nil dotT _ none), ho5, (show I64 0 by decide), trivial⟩
  rintro f20 ⟨out_8, todo_13, i_18⟩ σ w h ⟨Γ6, A9, c10, A14, c15, row16, hsl, hw, hl7, hc12, hs11, ho17, hr19, -⟩
  refine Wpt.slots hsl ?_
  refine WC.here (C := CC F Γ6 [row16]) ?_ hw
  clear hw hsl
  refine WC.seq ?_
  refine WC.rs ?_
  refine va rfl rfl rfl (q_move (v := .int .i64 i_18) rfl (by kernel_rfl)) ?_
  refine va rfl rfl rfl (q_move (v := .slice A14 todo_13.length c15) rfl (by kernel_rfl)) ?_
  refine va rfl rfl rfl (q_len_slice rfl Try.underlying29 rfl) ?_
  refine va rfl rfl rfl (q_lss rfl rfl rfl) ?_
  refine WR.nil ?_
  change WC _ _ _ _ _ _
  refine WC.cif h (by kernel_rfl) (fun hb24 h => ?_) (fun hb24 h => ?_)
  · skip
    refine WC.skip ?_
    change WC _ _ _ _ _ _
    refine WC.cut (fun σ w => ∃ (out_27 : List Dot), ∃ (todo_32 : List Dot), ∃ (Γ25 : Gh), ∃ (A28 : Option Addr), ∃ (c29 : Nat), ∃ (A33 : Option Addr), ∃ (c34 : Nat), ∃ (row35 : Rowb), m_firthref23_Closure_j5 i_18 f20 out_27 todo_32 = some r ∧ slots σ [(0, .slice Alist list.length clist), (5, .slice A28 out_27.length c29), (6, .slice A33 todo_32.length c34), (7, .int .i64 i_18)] ∧ CC F Γ25 [row35] w ∧ Gh.le Γ6 Γ25 ∧ out_27.length ≤ c29 ∧ Sl dotT Γ25 A28 out_27 ∧ Own dotT Γ25 27 row35 A33 c34 todo_32 ∧ True) ?_ ?_
    · skip
      refine WC.block ?_
      refine WC.seq ?_
      refine WC.rs ?_
      refine va rfl rfl rfl (q_move (v := .slice A9 out_8.length c10) rfl (by kernel_rfl)) ?_
      refine va rfl rfl rfl (q_move (v := .slice A14 todo_13.length c15) rfl (by kernel_rfl)) ?_
      refine va rfl rfl rfl (q_move (v := .int .i64 i_18) rfl (by kernel_rfl)) ?_
      obtain ⟨hk37, h⟩ := chk_some h
      refine va rfl rfl rfl (q_ix Try.underlying29 Try.sizeOf27 rfl rfl rfl hk37 (ho17.some_ (inb_lt hk37))) ?_
      refine va rfl rfl rfl (q_ldoa (c := 0) (vs := [.int .i64 (gt todo_13 i_18.toNat).s, .int .i64 (gt todo_13 i_18.toNat).n]) (i := 0) rfl (ho17.dotT_at (inb_lt hk37)).2 rfl Try.isAgg27 Try.sizeOf27 rfl rfl) ?_
      obtain ⟨z38, hz39, h⟩ := bnd h
      refine vc rfl rfl rfl (q_call (call_run Try.call10 rfl rfl (by kernel_rfl)) (fun w hw => t_firthref23_Has (Γ := Gh.all w) (hs11.mono hw.sat.le_all) hc12 (gt todo_13 i_18.toNat) (ho17.dotT_at (inb_lt hk37)).1 (Sat.all w) hz39)) ?_
      refine WR.nil ?_
      change WC _ _ _ _ _ _
      refine WC.cif h (by kernel_rfl) (fun hb40 h => ?_) (fun hb40 h => ?_)
      · skip
        refine WC.exit ?_
        intro w hw
        exact ⟨out_8, todo_13, Γ6, A9, c10, A14, c15, row16, h, (sl_ (by kernel_rfl)), hw, (Gh.refl _), hc12, hs11, ho17, trivial⟩
      · skip
        refine WC.skip ?_
        change WC _ _ _ _ _ _
        refine WC.rs ?_
        refine va rfl rfl rfl (q_move (v := .slice A9 out_8.length c10) rfl (by kernel_rfl)) ?_
        refine va rfl rfl rfl (q_move (v := .slice A14 todo_13.length c15) rfl (by kernel_rfl)) ?_
        refine va rfl rfl rfl (q_move (v := .int .i64 i_18) rfl (by kernel_rfl)) ?_
        refine va rfl rfl rfl (q_ix Try.underlying29 Try.sizeOf27 rfl rfl rfl hk37 (ho17.some_ (inb_lt hk37))) ?_
        refine va rfl rfl rfl (q_ldoa (c := 0) (vs := [.int .i64 (gt todo_13 i_18.toNat).s, .int .i64 (gt todo_13 i_18.toNat).n]) (i := 0) rfl (ho17.dotT_at (inb_lt hk37)).2 rfl Try.isAgg27 Try.sizeOf27 rfl rfl) ?_
        obtain ⟨z41, hz42, h⟩ := bnd h
        refine e_call (is := []) rfl rfl (call_run Try.call24 rfl rfl (by kernel_rfl)) rfl (fun w hp => t_firthref23_Put hs11 hc12 (gt todo_13 i_18.toNat) (ho17.dotT_at (inb_lt hk37)).1 hp hz42) ?_
        rintro Γ43 U45 v46 hl44 ⟨A47, c48, rfl, rfl, hc50, hr49, _⟩
        change WR _ _ _ (CC F Γ43 [row16]) _ _ (upd _ 29 (.slice A47 z41.length c48))
        refine va rfl rfl rfl (q_assign (v := .slice A47 z41.length c48) rfl (by kernel_rfl)) ?_
        refine WR.nil ?_
        change WC _ _ _ _ _ _
        refine WC.rs ?_
        refine va rfl rfl rfl (q_move (v := .slice Alist list.length clist) rfl (by kernel_rfl)) ?_
        refine va rfl rfl rfl (q_move (v := .slice A14 todo_13.length c15) rfl (by kernel_rfl)) ?_
        refine va rfl rfl rfl (q_move (v := .int .i64 i_18) rfl (by kernel_rfl)) ?_
        refine va rfl rfl rfl (q_ix Try.underlying29 Try.sizeOf27 rfl rfl rfl hk37 ((ho17.mono hl44).some_ (inb_lt hk37))) ?_
        refine va rfl rfl rfl (q_ldoa (c := 0) (vs := [.int .i64 (gt todo_13 i_18.toNat).s, .int .i64 (gt todo_13 i_18.toNat).n]) (i := 0) rfl ((ho17.mono hl44).dotT_at (inb_lt hk37)).2 rfl Try.isAgg27 Try.sizeOf27 rfl rfl) ?_
        obtain ⟨z51, hz52, h⟩ := bnd h
        refine vc rfl rfl rfl (q_call (call_run Try.call13 rfl rfl (by kernel_rfl)) (fun w hw => t_firthref23_First (Γ := Gh.all w) ((hlist.mono (hl7.trans hl44)).mono hw.sat.le_all) hlistc (gt todo_13 i_18.toNat) ((ho17.mono hl44).dotT_at (inb_lt hk37)).1 (Sat.all w) hz52)) ?_
        refine va rfl rfl rfl (q_assign (v := .int .i64 z51) rfl (by kernel_rfl)) ?_
        refine WR.nil ?_
        change WC _ _ _ _ _ _
        refine WC.rs ?_
        refine va rfl rfl rfl (q_move (v := .int .i64 z51) rfl (by kernel_rfl)) ?_
        refine va rfl rfl rfl (q_geq rfl rfl rfl) ?_
        refine WR.nil ?_
        change WC _ _ _ _ _ _
        refine WC.cif h (by kernel_rfl) (fun hb53 h => ?_) (fun hb53 h => ?_)
        · skip
          refine WC.region ?_
          refine va rfl rfl rfl (q_move (v := .slice A14 todo_13.length c15) rfl (by kernel_rfl)) ?_
          refine va rfl rfl rfl (q_move (v := .slice Alist list.length clist) rfl (by kernel_rfl)) ?_
          refine va rfl rfl rfl (q_move (v := .int .i64 z51) rfl (by kernel_rfl)) ?_
          obtain ⟨hk54, h⟩ := chk_some h
          obtain ⟨z55, hz56, h⟩ := bnd h
          refine e_call (is := []) rfl rfl (call_run Try.call26 rfl rfl (by kernel_rfl)) rfl (fun w hp => t_firthref23_Steps (hlist.mono (hl7.trans hl44)) hlistc z51 (i64b_of hk54) hp hz56) ?_
          rintro Γ57 U59 v60 hl58 ⟨A61, c62, rfl, rfl, hc64, hr63, _⟩
          change WR _ _ _ (CC F Γ57 [row16]) _ _ (upd _ 41 (.slice A61 z55.length c62))
          obtain ⟨hk65, h⟩ := chk_some h
          refine e_append (T := dotT) (xs := todo_13) (ys := z55) elem_29 (i := 0) rfl rfl rfl rfl rfl rfl rfl (ho17.mono (hl44.trans hl58)) (of_decide_eq_true hk65) (fun w hw => src_sl hr63 hw) ?_
          intro row66 A67 c68 ho69
          refine va rfl rfl rfl (q_assign (v := .slice A67 (todo_13 ++ z55).length c68) rfl (by kernel_rfl)) ?_
          refine WR.nil ?_
          intro w hw
          exact ⟨z41, (todo_13 ++ z55), Γ57, A47, c48, A67, c68, row66, h, (sl_ (by kernel_rfl)), hw, (hl44.trans hl58), hc50, (hr49.mono hl58), ho69, trivial⟩
        · skip
          refine WC.skip ?_
          intro w hw
          exact ⟨z41, todo_13, Γ43, A47, c48, A14, c15, row16, h, (sl_ (by kernel_rfl)), hw, hl44, hc50, hr49, (ho17.mono hl44), trivial⟩
    · skip
      rintro σ w ⟨out_27, todo_32, Γ25, A28, c29, A33, c34, row35, h, hsl, hw, hl26, hc31, hs30, ho36, -⟩
      refine Wpt.slots hsl ?_
      refine WC.here (C := CC F Γ25 [row35]) ?_ hw
      clear hw hsl
      refine WC.region ?_
      refine va rfl rfl rfl (q_move (v := .int .i64 i_18) rfl (by kernel_rfl)) ?_
      refine va rfl rfl rfl (q_add rfl rfl rfl) ?_
      refine va rfl rfl rfl (q_assign (v := .int .i64 (w64 (i_18 + 1))) rfl (by kernel_rfl)) ?_
      refine WR.nil ?_
      intro w hw
      exact ⟨(out_27, todo_32, (w64 (i_18 + 1))), h, Γ25, A28, c29, A33, c34, row35, (sl_ (by kernel_rfl)), hw, (hl7.trans hl26), hc31, hs30, ho36, (w64_r _), trivial⟩
  · skip
    refine WC.exit ?_
    change WC _ _ _ _ _ _
    refine WC.rs ?_
    refine va rfl rfl rfl (q_move (v := .slice A9 out_8.length c10) rfl (by kernel_rfl)) ?_
    refine va rfl rfl rfl (q_assign (v := .slice A9 out_8.length c10) rfl (by kernel_rfl)) ?_
    refine WR.nil ?_
    change WC _ _ _ _ _ _
    refine WC.ret ?_
    intro w hw
    obtain rfl := Option.some.inj h
    subst hF
    exact end_e (is := []) (by kernel_rfl) hw rfl ⟨A9, c10, rfl, rfl, hc12, hs11, trivial⟩
abbrev r_firthref23_Saw (r : List Dot) (U : List Rowb) (Γ : Gh) (v : Value) : Prop := ∃ (A0 : Option Addr), ∃ (c0 : Nat), v = .slice A0 r.length c0 ∧ U = [] ∧ r.length ≤ c0 ∧ Sl dotT Γ A0 r ∧ True
set_option maxRecDepth 100000 in
set_option maxHeartbeats 400000 in
theorem t_firthref23_Saw {Γ : Gh} {w0 : World} {Alist : Option Addr} {clist : Nat} {list : List Dfirthref23_Act} (hlist : Sl dfirthref23_ActT Γ Alist list) (hlistc : list.length ≤ clist) (i_ : Int) (hi_ : I64 i_) (hp : Pre [] Γ w0) {r : List Dot} (h : m_firthref23_Saw list i_ = some r) : Calls Try.prog 16 #[.slice Alist list.length clist, .int .i64 i_] w0 (Outc Γ [] w0 (r_firthref23_Saw r)) := by
  refine calls_of (N := 18) (rs := [4]) (args := [.slice Alist list.length clist, .int .i64 i_]) Try.func16 rfl Try.ntmps16 Try.results16 rfl ?_
  obtain ⟨F, hF⟩ : ∃ F : Fm, F = ⟨ids [], w0, Γ⟩ := ⟨_, rfl⟩
  refine WC.here (C := CC F Γ []) ?_ (hF ▸ hp.start)
  refine WC.rs ?_
  refine va rfl rfl rfl (q_assign (v := .slice none 0 0) rfl (by kernel_rfl)) ?_
  refine WR.nil ?_
  change WC _ _ _ _ _ _
  refine WC.seq ?_
  refine WC.rs ?_
  refine va rfl rfl rfl (q_move (v := .int .i64 i_) rfl (by kernel_rfl)) ?_
  refine va rfl rfl rfl (q_lss rfl rfl rfl) ?_
  refine va rfl rfl rfl (q_move (v := .bool (decide (i_ < 0))) rfl (by kernel_rfl)) ?_
  refine vg0 rfl rfl rfl rfl rfl (fun hg1 => QV.qo (q_move (v := .int .i64 i_) rfl (by kernel_rfl))) ?_
  refine vg0 rfl rfl rfl rfl rfl (fun hg2 => QV.qo (q_move (v := .slice Alist list.length clist) rfl (by kernel_rfl))) ?_
  refine vg0 rfl rfl rfl rfl rfl (fun hg3 => QV.qo (q_len_slice rfl Try.underlying36 (gu hg3 rfl))) ?_
  refine vg0 rfl rfl rfl rfl rfl (fun hg4 => QV.qo (q_geq rfl (gu hg4 rfl) (gu hg4 rfl))) ?_
  refine va rfl rfl rfl (q_pick rfl rfl (pk_or' (g := (decide (i_ < 0))) (y := (decide (((list.length : Nat) : Int) ≤ i_))))) ?_
  refine WR.nil ?_
  change WC _ _ _ _ _ _
  refine WC.cif h (by kernel_rfl) (fun hb5 h => ?_) (fun hb5 h => ?_)
  · skip
    refine WC.rs ?_
    refine va rfl rfl rfl (q_assign (v := .slice none 0 0) rfl (by kernel_rfl)) ?_
    refine WR.nil ?_
    change WC _ _ _ _ _ _
    refine WC.ret ?_
    intro w hw
    obtain rfl := Option.some.inj h
    subst hF
    exact end_e (is := []) (by kernel_rfl) hw rfl ⟨none, 0, rfl, rfl, (Nat.zero_le 0), (Sl.nil dotT _ none), trivial⟩
  · skip
    refine WC.skip ?_
    change WC _ _ _ _ _ _
    refine WC.rs ?_
    refine va rfl rfl rfl (q_move (v := .slice Alist list.length clist) rfl (by kernel_rfl)) ?_
    refine va rfl rfl rfl (q_move (v := .slice Alist list.length clist) rfl (by kernel_rfl)) ?_
    refine va rfl rfl rfl (q_move (v := .int .i64 i_) rfl (by kernel_rfl)) ?_
    obtain ⟨z6, hz7, h⟩ := bnd h
    refine e_call (is := []) rfl rfl (call_run Try.call26 rfl rfl (by kernel_rfl)) rfl (fun w hp => t_firthref23_Steps hlist hlistc i_ hi_ hp hz7) ?_
    rintro Γ8 U10 v11 hl9 ⟨A12, c13, rfl, rfl, hc15, hr14, _⟩
    change WR _ _ _ (CC F Γ8 []) _ _ (upd _ 16 (.slice A12 z6.length c13))
    obtain ⟨z16, hz17, h⟩ := bnd h
    refine e_call (is := []) rfl rfl (call_run Try.call25 rfl rfl (by kernel_rfl)) rfl (fun w hp => t_firthref23_Closure (hlist.mono hl9) hlistc hr14 hc15 hp hz17) ?_
    rintro Γ18 U20 v21 hl19 ⟨A22, c23, rfl, rfl, hc25, hr24, _⟩
    change WR _ _ _ (CC F Γ18 []) _ _ (upd _ 17 (.slice A22 z16.length c23))
    refine va rfl rfl rfl (q_assign (v := .slice A22 z16.length c23) rfl (by kernel_rfl)) ?_
    refine WR.nil ?_
    change WC _ _ _ _ _ _
    refine WC.ret ?_
    intro w hw
    obtain rfl := Option.some.inj h
    subst hF
    exact end_e (is := []) (by kernel_rfl) hw rfl ⟨A22, c23, rfl, rfl, hc25, hr24, trivial⟩
set_option maxRecDepth 100000 in
set_option maxHeartbeats 400000 in
theorem t_firthlaw23_covered {Γ : Gh} {w0 : World} {Av_ : Option Addr} {cv_ : Nat} {v_ : List Int} (hv_ : Sl intT Γ Av_ v_) (hv_c : v_.length ≤ cv_) (d : Dot) (hd : Dot.fits Γ  d) (hs : Sat Γ w0) {r : Bool} (h : m_firthlaw23_covered v_ d = some r) : Calls Try.prog 17 #[.slice Av_ v_.length cv_, .agg #[.int .i64 d.s, .int .i64 d.n]] w0 (fun e w' => e = .returned (.bool r) ∧ Fr no w0 w') := by
  refine calls_of (N := 31) (rs := [4]) (args := [.slice Av_ v_.length cv_, .agg #[.int .i64 d.s, .int .i64 d.n]]) Try.func17 rfl Try.ntmps17 Try.results17 rfl ?_
  obtain ⟨F, hF⟩ : ∃ F : Fm, F = ⟨no, w0, Γ⟩ := ⟨_, rfl⟩
  refine WC.here (C := CC F Γ []) ?_ (hF ▸ Cur.start0 hs)
  refine WC.rs ?_
  refine e_box (v := .agg #[.int .i64 d.s, .int .i64 d.n]) rfl rfl rfl rfl (by kernel_rfl) ?_
  intro g1
  refine va rfl rfl rfl (q_assign (v := .bool false) rfl (by kernel_rfl)) ?_
  refine WR.nil ?_
  change WC _ _ _ _ _ _
  refine WC.seq ?_
  refine WC.dr (by kernel_rfl) (by kernel_rfl) (fun w hw => hw.drawn _) ?_
  refine wa rfl rfl rfl (q_fl 0 fld_27_0 rfl rfl rfl) ?_
  refine wa rfl rfl rfl (q_ldl (i := 0) (v := .int .i64 d.s) rfl rfl Try.isAgg3 rfl rfl) ?_
  refine wa rfl rfl rfl (q_geq rfl rfl rfl) ?_
  refine wa rfl rfl rfl (q_move (v := .bool (decide (1 ≤ d.s))) rfl (by kernel_rfl)) ?_
  refine wg1 rfl rfl rfl rfl rfl (fun hg2 => QV.qo (q_fl 0 fld_27_0 rfl rfl rfl)) ?_
  refine wg1 rfl rfl rfl rfl rfl (fun hg3 => QV.qo (q_ldl (i := 0) (v := .int .i64 d.s) rfl rfl Try.isAgg3 (gu hg3 rfl) rfl)) ?_
  refine wg1 rfl rfl rfl rfl rfl (fun hg4 => QV.qo (q_move (v := .slice Av_ v_.length cv_) rfl (by kernel_rfl))) ?_
  refine wg1 rfl rfl rfl rfl rfl (fun hg5 => QV.qo (q_len_slice rfl Try.underlying30 (gu hg5 rfl))) ?_
  refine wg1 rfl rfl rfl rfl rfl (fun hg6 => QV.qo (q_leq rfl (gu hg6 rfl) (gu hg6 rfl))) ?_
  refine wa rfl rfl rfl (q_pick rfl rfl (pk_and' (g := (decide (1 ≤ d.s))) (y := (decide (d.s ≤ ((v_.length : Nat) : Int)))))) ?_
  refine wa rfl rfl rfl (q_move (v := .bool ((decide (1 ≤ d.s)) && (decide (d.s ≤ ((v_.length : Nat) : Int))))) rfl (by kernel_rfl)) ?_
  refine wg1 rfl rfl rfl rfl rfl (fun hg7 => QV.qo (q_fl 1 fld_27_1 rfl rfl rfl)) ?_
  refine wg1 rfl rfl rfl rfl rfl (fun hg8 => QV.qo (q_ldl (i := 0) (v := .int .i64 d.n) rfl rfl Try.isAgg2 (gu hg8 rfl) rfl)) ?_
  refine wg1 rfl rfl rfl rfl rfl (fun hg9 => QV.qo (q_geq rfl (gu hg9 rfl) rfl)) ?_
  refine wa rfl rfl rfl (q_pick rfl rfl (pk_and' (g := ((decide (1 ≤ d.s)) && (decide (d.s ≤ ((v_.length : Nat) : Int))))) (y := (decide (1 ≤ d.n))))) ?_
  refine wa rfl rfl rfl (q_move (v := .bool (((decide (1 ≤ d.s)) && (decide (d.s ≤ ((v_.length : Nat) : Int)))) && (decide (1 ≤ d.n)))) rfl (by kernel_rfl)) ?_
  refine wg1 rfl rfl rfl rfl rfl (fun hg10 => QV.qo (q_fl 1 fld_27_1 rfl rfl rfl)) ?_
  refine wg1 rfl rfl rfl rfl rfl (fun hg11 => QV.qo (q_ldl (i := 0) (v := .int .i64 d.n) rfl rfl Try.isAgg2 (gu hg11 rfl) rfl)) ?_
  refine wg1 rfl rfl rfl rfl rfl (fun hg12 => QV.qo (q_move (v := .slice Av_ v_.length cv_) rfl (by kernel_rfl))) ?_
  refine wg1 rfl rfl rfl rfl rfl (fun hg13 => QV.qo (q_fl 0 fld_27_0 rfl rfl rfl)) ?_
  refine wg1 rfl rfl rfl rfl rfl (fun hg14 => QV.qo (q_ldl (i := 0) (v := .int .i64 d.s) rfl rfl Try.isAgg3 (gu hg14 rfl) rfl)) ?_
  refine wg1 rfl rfl rfl rfl rfl (fun hg15 => QV.qo (q_sub rfl (gu hg15 rfl) rfl)) ?_
  obtain ⟨hk17, h⟩ := chk_some h
  refine wg1 rfl rfl rfl rfl rfl (fun hg16 => QV.qo (q_ix Try.underlying30 Try.sizeOf2 rfl (gu hg16 rfl) (gu hg16 rfl) (imp_of hk17 hg16) (hv_.some_ (inb_lt (imp_of hk17 hg16))))) ?_
  refine wg1 rfl rfl rfl rfl rfl (fun hg18 => QV.qo (q_ld (c := 0) (v := .int .i64 (gt v_ ((w64 (d.s - 1)).toNat))) (hv_.intT_at (inb_lt (imp_of hk17 hg18))).2 rfl Try.isAgg2 (gu hg18 rfl) rfl)) ?_
  refine wg1 rfl rfl rfl rfl rfl (fun hg19 => QV.qo (q_leq rfl (gu hg19 rfl) (gu hg19 rfl))) ?_
  refine wa rfl rfl rfl (q_pick rfl rfl (pk_and' (g := (((decide (1 ≤ d.s)) && (decide (d.s ≤ ((v_.length : Nat) : Int)))) && (decide (1 ≤ d.n)))) (y := (decide (d.n ≤ (gt v_ ((w64 (d.s - 1)).toNat))))))) ?_
  refine wa rfl rfl rfl (q_assign (v := .bool ((((decide (1 ≤ d.s)) && (decide (d.s ≤ ((v_.length : Nat) : Int)))) && (decide (1 ≤ d.n))) && (decide (d.n ≤ (gt v_ ((w64 (d.s - 1)).toNat)))))) rfl (by kernel_rfl)) ?_
  refine WQ.nil ?_
  change WC _ _ _ _ _ _
  refine WC.ret ?_
  intro w hw
  obtain rfl := Option.some.inj h
  subst hF
  exact ⟨by kernel_rfl, hw.fr⟩
abbrev r_firthref23_Behind (r : List Dot) (U : List Rowb) (Γ : Gh) (v : Value) : Prop := ∃ (A0 : Option Addr), ∃ (c0 : Nat), v = .slice A0 r.length c0 ∧ U = [] ∧ r.length ≤ c0 ∧ Sl dotT Γ A0 r ∧ True
set_option maxRecDepth 100000 in
set_option maxHeartbeats 400000 in
theorem t_firthref23_Behind {Γ : Gh} {w0 : World} {Alist : Option Addr} {clist : Nat} {list : List Dfirthref23_Act} (hlist : Sl dfirthref23_ActT Γ Alist list) (hlistc : list.length ≤ clist) (d : Dot) (hd : Dot.fits Γ  d) (hp : Pre [] Γ w0) {r : List Dot} (h : m_firthref23_Behind list d = some r) : Calls Try.prog 19 #[.slice Alist list.length clist, .agg #[.int .i64 d.s, .int .i64 d.n]] w0 (Outc Γ [] w0 (r_firthref23_Behind r)) := by
  refine calls_of (N := 16) (rs := [4]) (args := [.slice Alist list.length clist, .agg #[.int .i64 d.s, .int .i64 d.n]]) Try.func19 rfl Try.ntmps19 Try.results19 rfl ?_
  obtain ⟨F, hF⟩ : ∃ F : Fm, F = ⟨ids [], w0, Γ⟩ := ⟨_, rfl⟩
  refine WC.here (C := CC F Γ []) ?_ (hF ▸ hp.start)
  refine WC.rs ?_
  refine e_box (v := .agg #[.int .i64 d.s, .int .i64 d.n]) rfl rfl rfl rfl (by kernel_rfl) ?_
  intro g1
  refine va rfl rfl rfl (q_assign (v := .slice none 0 0) rfl (by kernel_rfl)) ?_
  refine WR.nil ?_
  change WC _ _ _ _ _ _
  refine WC.rs ?_
  refine va rfl rfl rfl (q_move (v := .slice Alist list.length clist) rfl (by kernel_rfl)) ?_
  refine va rfl rfl rfl (q_ldla (i := 0) (vs := [.int .i64 d.s, .int .i64 d.n]) rfl rfl Try.isAgg27 Try.sizeOf27 rfl rfl) ?_
  obtain ⟨z2, hz3, h⟩ := bnd h
  refine vc rfl rfl rfl (q_call (call_run Try.call13 rfl rfl (by kernel_rfl)) (fun w hw => t_firthref23_First (Γ := Gh.all w) (hlist.mono hw.sat.le_all) hlistc d hd (Sat.all w) hz3)) ?_
  refine va rfl rfl rfl (q_assign (v := .int .i64 z2) rfl (by kernel_rfl)) ?_
  refine WR.nil ?_
  change WC _ _ _ _ _ _
  refine WC.seq ?_
  refine WC.rs ?_
  refine va rfl rfl rfl (q_move (v := .int .i64 z2) rfl (by kernel_rfl)) ?_
  refine va rfl rfl rfl (q_lss rfl rfl rfl) ?_
  refine WR.nil ?_
  change WC _ _ _ _ _ _
  refine WC.cif h (by kernel_rfl) (fun hb4 h => ?_) (fun hb4 h => ?_)
  · skip
    refine WC.rs ?_
    refine va rfl rfl rfl (q_assign (v := .slice none 0 0) rfl (by kernel_rfl)) ?_
    refine WR.nil ?_
    change WC _ _ _ _ _ _
    refine WC.ret ?_
    intro w hw
    obtain rfl := Option.some.inj h
    subst hF
    exact end_e (is := []) (by kernel_rfl) hw rfl ⟨none, 0, rfl, rfl, (Nat.zero_le 0), (Sl.nil dotT _ none), trivial⟩
  · skip
    refine WC.skip ?_
    change WC _ _ _ _ _ _
    refine WC.rs ?_
    refine va rfl rfl rfl (q_move (v := .slice Alist list.length clist) rfl (by kernel_rfl)) ?_
    refine va rfl rfl rfl (q_move (v := .slice Alist list.length clist) rfl (by kernel_rfl)) ?_
    refine va rfl rfl rfl (q_move (v := .int .i64 z2) rfl (by kernel_rfl)) ?_
    obtain ⟨hk5, h⟩ := chk_some h
    obtain ⟨z6, hz7, h⟩ := bnd h
    refine e_call (is := []) rfl rfl (call_run Try.call26 rfl rfl (by kernel_rfl)) rfl (fun w hp => t_firthref23_Steps hlist hlistc z2 (i64b_of hk5) hp hz7) ?_
    rintro Γ8 U10 v11 hl9 ⟨A12, c13, rfl, rfl, hc15, hr14, _⟩
    change WR _ _ _ (CC F Γ8 [[(g1, .cells #[.int .i64 d.s, .int .i64 d.n] 27 (0, 0))]]) _ _ (upd _ 14 (.slice A12 z6.length c13))
    obtain ⟨z16, hz17, h⟩ := bnd h
    refine e_call (is := []) rfl rfl (call_run Try.call25 rfl rfl (by kernel_rfl)) rfl (fun w hp => t_firthref23_Closure (hlist.mono hl9) hlistc hr14 hc15 hp hz17) ?_
    rintro Γ18 U20 v21 hl19 ⟨A22, c23, rfl, rfl, hc25, hr24, _⟩
    change WR _ _ _ (CC F Γ18 [[(g1, .cells #[.int .i64 d.s, .int .i64 d.n] 27 (0, 0))]]) _ _ (upd _ 15 (.slice A22 z16.length c23))
    refine va rfl rfl rfl (q_assign (v := .slice A22 z16.length c23) rfl (by kernel_rfl)) ?_
    refine WR.nil ?_
    change WC _ _ _ _ _ _
    refine WC.ret ?_
    intro w hw
    obtain rfl := Option.some.inj h
    subst hF
    exact end_e (is := []) (by kernel_rfl) hw rfl ⟨A22, c23, rfl, rfl, hc25, hr24, trivial⟩
abbrev r_firthref23_Greatest (r : List Dot) (U : List Rowb) (Γ : Gh) (v : Value) : Prop := ∃ (A0 : Option Addr), ∃ (c0 : Nat), ∃ (row0 : Rowb), v = .slice A0 r.length c0 ∧ U = [row0] ∧ Own dotT Γ 27 row0 A0 c0 r ∧ True
set_option maxRecDepth 100000 in
set_option maxHeartbeats 400000 in
theorem t_firthref23_Greatest {Γ : Gh} {w0 : World} {Alist : Option Addr} {clist : Nat} {list : List Dfirthref23_Act} (hlist : Sl dfirthref23_ActT Γ Alist list) (hlistc : list.length ≤ clist) {Ah_ : Option Addr} {ch_ : Nat} {h_ : List Dot} (hh_ : Sl dotT Γ Ah_ h_) (hh_c : h_.length ≤ ch_) (key : ByteArray) (hkey : key.size ≤ lim) (hp : Pre [] Γ w0) {r : List Dot} (h : m_firthref23_Greatest list h_ key = some r) : Calls Try.prog 18 #[.slice Alist list.length clist, .slice Ah_ h_.length ch_, .string key] w0 (Outc Γ [] w0 (r_firthref23_Greatest r)) := by
  refine calls_of (N := 79) (rs := [6]) (args := [.slice Alist list.length clist, .slice Ah_ h_.length ch_, .string key]) Try.func18 rfl Try.ntmps18 Try.results18 rfl ?_
  obtain ⟨F, hF⟩ : ∃ F : Fm, F = ⟨ids [], w0, Γ⟩ := ⟨_, rfl⟩
  refine WC.here (C := CC F Γ []) ?_ (hF ▸ hp.start)
  refine WC.rs ?_
  refine va rfl rfl rfl (q_assign (v := .slice none 0 0) rfl (by kernel_rfl)) ?_
  refine WR.nil ?_
  change WC _ _ _ _ _ _
  refine WC.rs ?_
  refine va rfl rfl rfl (q_assign (v := .slice none 0 0) rfl (by kernel_rfl)) ?_
  refine WR.nil ?_
  change WC _ _ _ _ _ _
  refine WC.seq ?_
  refine WC.rs ?_
  refine va rfl rfl rfl (q_assign (v := .int .i64 0) rfl (by kernel_rfl)) ?_
  refine WR.nil ?_
  change WC _ _ _ _ _ _
  refine WC.block ?_
  refine WC.forI h (fun (i7 : Nat) (under_1 : List Dot) σ w => ∃ (A2 : Option Addr), ∃ (c3 : Nat), ∃ (row4 : Rowb), slots σ [(0, .slice Alist list.length clist), (1, .slice Ah_ h_.length ch_), (2, .string key), (7, .slice A2 under_1.length c3), (8, .int .i64 ((i7 : Nat) : Int))] ∧ CC F Γ [row4] w ∧ Own dotT Γ 27 row4 A2 c3 under_1 ∧ True) ?_ ?_
  · skip
    intro w hw
    have hw := hw.pad
    exact ⟨none, 0, [], (sl_ (by kernel_rfl)), hw, (Own.nil dotT _ 27), trivial⟩
  rintro f6 i7 under_1 σ w hi8 hlt9 hge10 ⟨A2, c3, row4, hsl, hw, ho5, -⟩
  refine Wpt.slots hsl ?_
  refine WC.here (C := CC F Γ [row4]) ?_ hw
  clear hw hsl
  refine WC.seq ?_
  refine WC.rs ?_
  refine va rfl rfl rfl (q_move (v := .int .i64 ((i7 : Nat) : Int)) rfl (by kernel_rfl)) ?_
  refine va rfl rfl rfl (q_move (v := .slice Ah_ h_.length ch_) rfl (by kernel_rfl)) ?_
  refine va rfl rfl rfl (q_len_slice rfl Try.underlying29 rfl) ?_
  refine va rfl rfl rfl (q_lss rfl rfl rfl) ?_
  refine WR.nil ?_
  change WC _ _ _ _ _ _
  refine WC.cond (b := (decide (((i7 : Nat) : Int) < ((h_.length : Nat) : Int)))) (by kernel_rfl) (fun hb11 => ?_) (fun hb11 => ?_)
  · skip
    have hl12 := ilt hb11
    have h := hlt9 hl12
    refine WC.skip ?_
    change WC _ _ _ _ _ _
    refine WC.cut (fun σ w => ∃ (under_13 : List Dot), ∃ (A14 : Option Addr), ∃ (c15 : Nat), ∃ (row16 : Rowb), m_firthref23_Greatest_j5 f6 under_13 = some r ∧ slots σ [(0, .slice Alist list.length clist), (1, .slice Ah_ h_.length ch_), (2, .string key), (7, .slice A14 under_13.length c15), (8, .int .i64 ((i7 : Nat) : Int))] ∧ CC F Γ [row16] w ∧ Own dotT Γ 27 row16 A14 c15 under_13 ∧ True) ?_ ?_
    · skip
      refine WC.block ?_
      refine WC.rs ?_
      refine va rfl rfl rfl (q_move (v := .slice Alist list.length clist) rfl (by kernel_rfl)) ?_
      refine va rfl rfl rfl (q_move (v := .slice Ah_ h_.length ch_) rfl (by kernel_rfl)) ?_
      refine va rfl rfl rfl (q_move (v := .int .i64 ((i7 : Nat) : Int)) rfl (by kernel_rfl)) ?_
      refine va rfl rfl rfl (q_ixn (i := i7) Try.underlying29 Try.sizeOf27 rfl rfl rfl hl12 (hh_.some_ hl12)) ?_
      refine va rfl rfl rfl (q_lda (c := 0) (vs := [.int .i64 (gt h_ i7).s, .int .i64 (gt h_ i7).n]) (hh_.dotT_at hl12).2 rfl Try.isAgg27 Try.sizeOf27 rfl rfl rfl) ?_
      obtain ⟨z18, hz19, h⟩ := bnd h
      refine vc rfl rfl rfl (q_call (call_run Try.call13 rfl rfl (by kernel_rfl)) (fun w hw => t_firthref23_First (Γ := Gh.all w) (hlist.mono hw.sat.le_all) hlistc (gt h_ i7) (hh_.dotT_at hl12).1 (Sat.all w) hz19)) ?_
      refine va rfl rfl rfl (q_assign (v := .int .i64 z18) rfl (by kernel_rfl)) ?_
      refine WR.nil ?_
      change WC _ _ _ _ _ _
      refine WC.rs ?_
      refine va rfl rfl rfl (q_move (v := .int .i64 z18) rfl (by kernel_rfl)) ?_
      refine va rfl rfl rfl (q_geq rfl rfl rfl) ?_
      refine va rfl rfl rfl (q_move (v := .bool (decide (0 ≤ z18))) rfl (by kernel_rfl)) ?_
      refine vg1 rfl rfl rfl rfl rfl (fun hg20 => QV.qo (q_move (v := .slice Alist list.length clist) rfl (by kernel_rfl))) ?_
      refine vg1 rfl rfl rfl rfl rfl (fun hg21 => QV.qo (q_move (v := .int .i64 z18) rfl (by kernel_rfl))) ?_
      obtain ⟨hk23, h⟩ := chk_some h
      refine vg1 rfl rfl rfl rfl rfl (fun hg22 => QV.qo (q_ix Try.underlying36 Try.sizeOf49 rfl (gu hg22 rfl) (gu hg22 rfl) (imp_of hk23 hg22) (hlist.some_ (inb_lt (imp_of hk23 hg22))))) ?_
      refine vg1 rfl rfl rfl rfl rfl (fun hg24 => QV.qo (q_field_addr (z18.toNat * 8 + 2) fld_49_2 rfl (gu hg24 rfl) (hlist.some_ (inb_lt (imp_of hk23 hg24))) rfl)) ?_
      obtain ⟨A26, c27, A28, c29, hx30⟩ := hlist.dfirthref23_ActT_at z18.toNat
      refine vg1 rfl rfl rfl rfl rfl (fun hg25 => QV.qo (q_ld (c := 2) (v := .string (gt list z18.toNat).key) (hx30 (inb_lt (imp_of hk23 hg25))).2 rfl Try.isAgg9 (gu hg25 rfl) rfl)) ?_
      refine vg1 rfl rfl rfl rfl rfl (fun hg31 => QV.qo (q_move (v := .string key) rfl (by kernel_rfl))) ?_
      refine vg1 rfl rfl rfl rfl rfl (fun hg32 => QV.qo (q_seql rfl (gu hg32 rfl) (gu hg32 rfl))) ?_
      refine va rfl rfl rfl (q_pick rfl rfl (pk_and' (g := (decide (0 ≤ z18))) (y := ((gt list z18.toNat).key == key)))) ?_
      refine WR.nil ?_
      change WC _ _ _ _ _ _
      refine WC.cif h (by kernel_rfl) (fun hb33 h => ?_) (fun hb33 h => ?_)
      · skip
        refine WC.region ?_
        refine va rfl rfl rfl (q_move (v := .slice A2 under_1.length c3) rfl (by kernel_rfl)) ?_
        refine va rfl rfl rfl (q_move (v := .slice Ah_ h_.length ch_) rfl (by kernel_rfl)) ?_
        refine va rfl rfl rfl (q_move (v := .int .i64 ((i7 : Nat) : Int)) rfl (by kernel_rfl)) ?_
        refine va rfl rfl rfl (q_ixn (i := i7) Try.underlying29 Try.sizeOf27 rfl rfl rfl hl12 (hh_.some_ hl12)) ?_
        refine va rfl rfl rfl (q_lda (c := 0) (vs := [.int .i64 (gt h_ i7).s, .int .i64 (gt h_ i7).n]) (hh_.dotT_at hl12).2 rfl Try.isAgg27 Try.sizeOf27 rfl rfl rfl) ?_
        refine e_buildSlice (cs := #[.int .i64 (gt h_ i7).s, .int .i64 (gt h_ i7).n]) (e := 27) rfl rfl rfl rfl (fun w => by kernel_rfl) ?_
        intro g34
        obtain ⟨hk35, h⟩ := chk_some h
        refine e_append (T := dotT) (xs := under_1) (ys := [(gt h_ i7)]) elem_29 (i := 1) rfl rfl rfl rfl rfl rfl rfl ho5 (of_decide_eq_true hk35) (fun w hw => src_one (T := dotT) (y := (gt h_ i7)) (i := 0) rfl (by exact ⟨rfl, (hh_.dotT_at hl12).1⟩) hw) ?_
        intro row36 A37 c38 ho39
        refine va rfl rfl rfl (q_assign (v := .slice A37 (under_1 ++ [(gt h_ i7)]).length c38) rfl (by kernel_rfl)) ?_
        refine WR.nil ?_
        intro w hw
        exact ⟨(under_1 ++ [(gt h_ i7)]), A37, c38, row36, h, (sl_ (by kernel_rfl)), (hw.only (is := [1]) rfl), ho39, trivial⟩
      · skip
        refine WC.skip ?_
        intro w hw
        exact ⟨under_1, A2, c3, row4, h, (sl_ (by kernel_rfl)), hw, ho5, trivial⟩
    · skip
      rintro σ w ⟨under_13, A14, c15, row16, h, hsl, hw, ho17, -⟩
      refine Wpt.slots hsl ?_
      refine WC.here (C := CC F Γ [row16]) ?_ hw
      clear hw hsl
      refine WC.region ?_
      refine va rfl rfl rfl (q_move (v := .int .i64 ((i7 : Nat) : Int)) rfl (by kernel_rfl)) ?_
      refine va rfl rfl rfl (q_add_r (r := ((i7 + 1 : Nat) : Int)) rfl rfl rfl (ctr_len hl12 hh_.le)) ?_
      refine va rfl rfl rfl (q_assign (v := .int .i64 ((i7 + 1 : Nat) : Int)) rfl (by kernel_rfl)) ?_
      refine WR.nil ?_
      intro w hw
      exact ⟨hl12, under_13, h, A14, c15, row16, (sl_ (by kernel_rfl)), hw, ho17, trivial⟩
  · skip
    have h := hge10 (ige hb11)
    refine WC.exit ?_
    change WC _ _ _ _ _ _
    refine WC.rs ?_
    refine va rfl rfl rfl (q_assign (v := .slice none 0 0) rfl (by kernel_rfl)) ?_
    refine WR.nil ?_
    change WC _ _ _ _ _ _
    refine WC.seq ?_
    refine WC.rs ?_
    refine va rfl rfl rfl (q_assign (v := .int .i64 0) rfl (by kernel_rfl)) ?_
    refine WR.nil ?_
    change WC _ _ _ _ _ _
    refine WC.block ?_
    refine WC.forI h (fun (i48 : Nat) (past_42 : List Dot) σ w => ∃ (Γ40 : Gh), ∃ (A43 : Option Addr), ∃ (c44 : Nat), slots σ [(0, .slice Alist list.length clist), (7, .slice A2 under_1.length c3), (10, .slice A43 past_42.length c44), (11, .int .i64 ((i48 : Nat) : Int))] ∧ CC F Γ40 [row4] w ∧ Gh.le Γ Γ40 ∧ past_42.length ≤ c44 ∧ Sl dotT Γ40 A43 past_42 ∧ True) ?_ ?_
    · skip
      intro w hw
      exact ⟨Γ, none, 0, (sl_ (by kernel_rfl)), hw, (Gh.refl _), (Nat.zero_le 0), (Sl.nil dotT _ none), trivial⟩
    rintro f47 i48 past_42 σ w hi49 hlt50 hge51 ⟨Γ40, A43, c44, hsl, hw, hl41, hc46, hs45, -⟩
    refine Wpt.slots hsl ?_
    refine WC.here (C := CC F Γ40 [row4]) ?_ hw
    clear hw hsl
    refine WC.seq ?_
    refine WC.rs ?_
    refine va rfl rfl rfl (q_move (v := .int .i64 ((i48 : Nat) : Int)) rfl (by kernel_rfl)) ?_
    refine va rfl rfl rfl (q_move (v := .slice A2 under_1.length c3) rfl (by kernel_rfl)) ?_
    refine va rfl rfl rfl (q_len_slice rfl Try.underlying29 rfl) ?_
    refine va rfl rfl rfl (q_lss rfl rfl rfl) ?_
    refine WR.nil ?_
    change WC _ _ _ _ _ _
    refine WC.cond (b := (decide (((i48 : Nat) : Int) < ((under_1.length : Nat) : Int)))) (by kernel_rfl) (fun hb52 => ?_) (fun hb52 => ?_)
    · skip
      have hl53 := ilt hb52
      have h := hlt50 hl53
      refine WC.skip ?_
      change WC _ _ _ _ _ _
      refine WC.seq ?_
      refine WC.block ?_
      refine WC.region ?_
      refine va rfl rfl rfl (q_move (v := .slice A43 past_42.length c44) rfl (by kernel_rfl)) ?_
      refine va rfl rfl rfl (q_move (v := .slice Alist list.length clist) rfl (by kernel_rfl)) ?_
      refine va rfl rfl rfl (q_move (v := .slice A2 under_1.length c3) rfl (by kernel_rfl)) ?_
      refine va rfl rfl rfl (q_move (v := .int .i64 ((i48 : Nat) : Int)) rfl (by kernel_rfl)) ?_
      refine va rfl rfl rfl (q_ixn (i := i48) Try.underlying29 Try.sizeOf27 rfl rfl rfl hl53 ((ho5.mono hl41).some_ hl53)) ?_
      refine va rfl rfl rfl (q_ldoa (c := 0) (vs := [.int .i64 (gt under_1 i48).s, .int .i64 (gt under_1 i48).n]) (i := 0) rfl ((ho5.mono hl41).dotT_at hl53).2 rfl Try.isAgg27 Try.sizeOf27 rfl rfl) ?_
      obtain ⟨z54, hz55, h⟩ := bnd h
      refine e_call (is := []) rfl rfl (call_run Try.call19 rfl rfl (by kernel_rfl)) rfl (fun w hp => t_firthref23_Behind (hlist.mono hl41) hlistc (gt under_1 i48) ((ho5.mono hl41).dotT_at hl53).1 hp hz55) ?_
      rintro Γ56 U58 v59 hl57 ⟨A60, c61, rfl, rfl, hc63, hr62, _⟩
      change WR _ _ _ (CC F Γ56 [row4]) _ _ (upd _ 56 (.slice A60 z54.length c61))
      obtain ⟨z64, hz65, h⟩ := bnd h
      refine e_call (is := []) rfl rfl (call_run Try.call15 rfl rfl (by kernel_rfl)) rfl (fun w hp => t_firthref23_All (hs45.mono hl57) hc46 hr62 hc63 hp hz65) ?_
      rintro Γ66 U68 v69 hl67 ⟨A70, c71, rfl, rfl, hc73, hr72, _⟩
      change WR _ _ _ (CC F Γ66 [row4]) _ _ (upd _ 57 (.slice A70 z64.length c71))
      refine va rfl rfl rfl (q_assign (v := .slice A70 z64.length c71) rfl (by kernel_rfl)) ?_
      refine WR.nil ?_
      change WC _ _ _ _ _ _
      refine WC.region ?_
      refine va rfl rfl rfl (q_move (v := .int .i64 ((i48 : Nat) : Int)) rfl (by kernel_rfl)) ?_
      refine va rfl rfl rfl (q_add_r (r := ((i48 + 1 : Nat) : Int)) rfl rfl rfl (ctr_len hl53 (ho5.mono hl41).le)) ?_
      refine va rfl rfl rfl (q_assign (v := .int .i64 ((i48 + 1 : Nat) : Int)) rfl (by kernel_rfl)) ?_
      refine WR.nil ?_
      intro w hw
      exact ⟨hl53, z64, h, Γ66, A70, c71, (sl_ (by kernel_rfl)), hw, ((hl41.trans hl57).trans hl67), hc73, hr72, trivial⟩
    · skip
      have h := hge51 (ige hb52)
      refine WC.exit ?_
      change WC _ _ _ _ _ _
      refine WC.rs ?_
      refine va rfl rfl rfl (q_assign (v := .slice none 0 0) rfl (by kernel_rfl)) ?_
      refine WR.nil ?_
      change WC _ _ _ _ _ _
      refine WC.seq ?_
      refine WC.rs ?_
      refine va rfl rfl rfl (q_assign (v := .int .i64 0) rfl (by kernel_rfl)) ?_
      refine WR.nil ?_
      change WC _ _ _ _ _ _
      refine WC.block ?_
      refine WC.forI h (fun (i80 : Nat) (out_74 : List Dot) σ w => ∃ (A75 : Option Addr), ∃ (c76 : Nat), ∃ (row77 : Rowb), slots σ [(7, .slice A2 under_1.length c3), (10, .slice A43 past_42.length c44), (12, .slice A75 out_74.length c76), (13, .int .i64 ((i80 : Nat) : Int))] ∧ CC F Γ40 [row77, row4] w ∧ Own dotT Γ40 27 row77 A75 c76 out_74 ∧ True) ?_ ?_
      · skip
        intro w hw
        have hw := hw.pad
        exact ⟨none, 0, [], (sl_ (by kernel_rfl)), hw, (Own.nil dotT _ 27), trivial⟩
      rintro f79 i80 out_74 σ w hi81 hlt82 hge83 ⟨A75, c76, row77, hsl, hw, ho78, -⟩
      refine Wpt.slots hsl ?_
      refine WC.here (C := CC F Γ40 [row77, row4]) ?_ hw
      clear hw hsl
      refine WC.seq ?_
      refine WC.rs ?_
      refine va rfl rfl rfl (q_move (v := .int .i64 ((i80 : Nat) : Int)) rfl (by kernel_rfl)) ?_
      refine va rfl rfl rfl (q_move (v := .slice A2 under_1.length c3) rfl (by kernel_rfl)) ?_
      refine va rfl rfl rfl (q_len_slice rfl Try.underlying29 rfl) ?_
      refine va rfl rfl rfl (q_lss rfl rfl rfl) ?_
      refine WR.nil ?_
      change WC _ _ _ _ _ _
      refine WC.cond (b := (decide (((i80 : Nat) : Int) < ((under_1.length : Nat) : Int)))) (by kernel_rfl) (fun hb84 => ?_) (fun hb84 => ?_)
      · skip
        have hl85 := ilt hb84
        have h := hlt82 hl85
        refine WC.skip ?_
        change WC _ _ _ _ _ _
        refine WC.cut (fun σ w => ∃ (out_86 : List Dot), ∃ (A87 : Option Addr), ∃ (c88 : Nat), ∃ (row89 : Rowb), m_firthref23_Greatest_j11 f79 out_86 = some r ∧ slots σ [(7, .slice A2 under_1.length c3), (10, .slice A43 past_42.length c44), (12, .slice A87 out_86.length c88), (13, .int .i64 ((i80 : Nat) : Int))] ∧ CC F Γ40 [row89, row4] w ∧ Own dotT Γ40 27 row89 A87 c88 out_86 ∧ True) ?_ ?_
        · skip
          refine WC.block ?_
          refine WC.rs ?_
          refine va rfl rfl rfl (q_move (v := .slice A43 past_42.length c44) rfl (by kernel_rfl)) ?_
          refine va rfl rfl rfl (q_move (v := .slice A2 under_1.length c3) rfl (by kernel_rfl)) ?_
          refine va rfl rfl rfl (q_move (v := .int .i64 ((i80 : Nat) : Int)) rfl (by kernel_rfl)) ?_
          refine va rfl rfl rfl (q_ixn (i := i80) Try.underlying29 Try.sizeOf27 rfl rfl rfl hl85 ((ho5.mono hl41).some_ hl85)) ?_
          refine va rfl rfl rfl (q_ldoa (c := 0) (vs := [.int .i64 (gt under_1 i80).s, .int .i64 (gt under_1 i80).n]) (i := 1) rfl ((ho5.mono hl41).dotT_at hl85).2 rfl Try.isAgg27 Try.sizeOf27 rfl rfl) ?_
          obtain ⟨z91, hz92, h⟩ := bnd h
          refine vc rfl rfl rfl (q_call (call_run Try.call10 rfl rfl (by kernel_rfl)) (fun w hw => t_firthref23_Has (Γ := Gh.all w) (hs45.mono hw.sat.le_all) hc46 (gt under_1 i80) ((ho5.mono hl41).dotT_at hl85).1 (Sat.all w) hz92)) ?_
          refine va rfl rfl rfl (q_not rfl rfl) ?_
          refine WR.nil ?_
          change WC _ _ _ _ _ _
          refine WC.cif h (by kernel_rfl) (fun hb93 h => ?_) (fun hb93 h => ?_)
          · skip
            refine WC.region ?_
            refine va rfl rfl rfl (q_move (v := .slice A75 out_74.length c76) rfl (by kernel_rfl)) ?_
            refine va rfl rfl rfl (q_move (v := .slice A2 under_1.length c3) rfl (by kernel_rfl)) ?_
            refine va rfl rfl rfl (q_move (v := .int .i64 ((i80 : Nat) : Int)) rfl (by kernel_rfl)) ?_
            refine va rfl rfl rfl (q_ixn (i := i80) Try.underlying29 Try.sizeOf27 rfl rfl rfl hl85 ((ho5.mono hl41).some_ hl85)) ?_
            refine va rfl rfl rfl (q_ldoa (c := 0) (vs := [.int .i64 (gt under_1 i80).s, .int .i64 (gt under_1 i80).n]) (i := 1) rfl ((ho5.mono hl41).dotT_at hl85).2 rfl Try.isAgg27 Try.sizeOf27 rfl rfl) ?_
            refine e_buildSlice (cs := #[.int .i64 (gt under_1 i80).s, .int .i64 (gt under_1 i80).n]) (e := 27) rfl rfl rfl rfl (fun w => by kernel_rfl) ?_
            intro g94
            obtain ⟨hk95, h⟩ := chk_some h
            refine e_append (T := dotT) (xs := out_74) (ys := [(gt under_1 i80)]) elem_29 (i := 1) rfl rfl rfl rfl rfl rfl rfl ho78 (of_decide_eq_true hk95) (fun w hw => src_one (T := dotT) (y := (gt under_1 i80)) (i := 0) rfl (by exact ⟨rfl, ((ho5.mono hl41).dotT_at hl85).1⟩) hw) ?_
            intro row96 A97 c98 ho99
            refine va rfl rfl rfl (q_assign (v := .slice A97 (out_74 ++ [(gt under_1 i80)]).length c98) rfl (by kernel_rfl)) ?_
            refine WR.nil ?_
            intro w hw
            exact ⟨(out_74 ++ [(gt under_1 i80)]), A97, c98, row96, h, (sl_ (by kernel_rfl)), (hw.only (is := [1, 1]) rfl), ho99, trivial⟩
          · skip
            refine WC.skip ?_
            intro w hw
            exact ⟨out_74, A75, c76, row77, h, (sl_ (by kernel_rfl)), hw, ho78, trivial⟩
        · skip
          rintro σ w ⟨out_86, A87, c88, row89, h, hsl, hw, ho90, -⟩
          refine Wpt.slots hsl ?_
          refine WC.here (C := CC F Γ40 [row89, row4]) ?_ hw
          clear hw hsl
          refine WC.region ?_
          refine va rfl rfl rfl (q_move (v := .int .i64 ((i80 : Nat) : Int)) rfl (by kernel_rfl)) ?_
          refine va rfl rfl rfl (q_add_r (r := ((i80 + 1 : Nat) : Int)) rfl rfl rfl (ctr_len hl85 (ho5.mono hl41).le)) ?_
          refine va rfl rfl rfl (q_assign (v := .int .i64 ((i80 + 1 : Nat) : Int)) rfl (by kernel_rfl)) ?_
          refine WR.nil ?_
          intro w hw
          exact ⟨hl85, out_86, h, A87, c88, row89, (sl_ (by kernel_rfl)), hw, ho90, trivial⟩
      · skip
        have h := hge83 (ige hb84)
        refine WC.exit ?_
        change WC _ _ _ _ _ _
        refine WC.rs ?_
        refine va rfl rfl rfl (q_move (v := .slice A75 out_74.length c76) rfl (by kernel_rfl)) ?_
        refine va rfl rfl rfl (q_assign (v := .slice A75 out_74.length c76) rfl (by kernel_rfl)) ?_
        refine WR.nil ?_
        change WC _ _ _ _ _ _
        refine WC.ret ?_
        intro w hw
        obtain rfl := Option.some.inj h
        subst hF
        exact end_e (is := [0]) (by kernel_rfl) hw rfl ⟨A75, c76, row77, rfl, rfl, ho78, trivial⟩
set_option maxRecDepth 100000 in
set_option maxHeartbeats 400000 in
theorem t_firthlaw23_JudgeFinds {Γ : Gh} {w0 : World} {Alist : Option Addr} {clist : Nat} {list : List Djudge_Act} (hlist : Sl djudge_ActT Γ Alist list) (hlistc : list.length ≤ clist) (which : Int) (hwhich : I64 which) (less : Bool) (hs : Sat Γ w0) {r : Bool} (h : m_firthlaw23_JudgeFinds list which less = some r) : Calls Try.prog 5 #[.slice Alist list.length clist, .int .i64 which, .bool less] w0 (fun e w' => e = .returned (.bool r) ∧ Fr no w0 w') := by
  refine calls_of (N := 146) (rs := [6]) (args := [.slice Alist list.length clist, .int .i64 which, .bool less]) Try.func5 rfl Try.ntmps5 Try.results5 rfl ?_
  obtain ⟨F, hF⟩ : ∃ F : Fm, F = ⟨no, w0, Γ⟩ := ⟨_, rfl⟩
  refine WC.here (C := CC F Γ []) ?_ (hF ▸ Cur.start0 hs)
  refine WC.rs ?_
  refine va rfl rfl rfl (q_assign (v := .bool false) rfl (by kernel_rfl)) ?_
  refine WR.nil ?_
  change WC _ _ _ _ _ _
  refine WC.seq ?_
  refine WC.rs ?_
  obtain ⟨z1, hz2, h⟩ := bnd h
  refine vc rfl rfl rfl (q_call (call_run Try.call7 rfl rfl (by kernel_rfl)) (fun w hw => t_firthlaw23_awake (Γ := Gh.all w)  (Sat.all w) hz2)) ?_
  refine va rfl rfl rfl (q_not rfl rfl) ?_
  refine va rfl rfl rfl (q_move (v := .bool (!z1)) rfl (by kernel_rfl)) ?_
  refine vg0 rfl rfl rfl rfl rfl (fun hg3 => QV.qo (q_move (v := .slice Alist list.length clist) rfl (by kernel_rfl))) ?_
  refine vg0 rfl rfl rfl rfl rfl (fun hg4 => QV.qo (q_len_slice rfl Try.underlying24 (gu hg4 rfl))) ?_
  refine vg0 rfl rfl rfl rfl rfl (fun hg5 => QV.qo (q_gtr rfl (gu hg5 rfl) rfl)) ?_
  refine va rfl rfl rfl (q_pick rfl rfl (pk_or' (g := (!z1)) (y := (decide (60 < ((list.length : Nat) : Int)))))) ?_
  refine WR.nil ?_
  change WC _ _ _ _ _ _
  refine WC.cif h (by kernel_rfl) (fun hb6 h => ?_) (fun hb6 h => ?_)
  · skip
    refine WC.rs ?_
    obtain ⟨z7, hz8, h⟩ := bnd h
    refine vc rfl rfl rfl (q_call (call_run Try.call7 rfl rfl (by kernel_rfl)) (fun w hw => t_firthlaw23_awake (Γ := Gh.all w)  (Sat.all w) hz8)) ?_
    refine va rfl rfl rfl (q_assign (v := .bool z7) rfl (by kernel_rfl)) ?_
    refine WR.nil ?_
    change WC _ _ _ _ _ _
    refine WC.ret ?_
    intro w hw
    obtain rfl := Option.some.inj h
    subst hF
    exact ⟨by kernel_rfl, hw.fr⟩
  · skip
    refine WC.skip ?_
    change WC _ _ _ _ _ _
    refine WC.rs ?_
    refine va rfl rfl rfl (q_move (v := .slice Alist list.length clist) rfl (by kernel_rfl)) ?_
    obtain ⟨z9, hz10, h⟩ := bnd h
    refine e_callB (is := []) (Lent.nil F) rfl rfl (call_run Try.call14 rfl rfl (by kernel_rfl)) rfl (fun w Θ hp hpB hle hleB hR => t_judge_Judge_l0 (hlist.mono hle) hlistc hp hpB hz10) ?_
    rintro Γ11 U13 v14 hl12 ⟨rfl, rfl, hr15, hr16, _⟩
    change WR _ _ _ (CC F Γ11 []) _ _ (upd _ 27 (.tuple #[.int .i64 z9.1, .int .i64 z9.2]))
    refine va rfl rfl rfl (q_move (v := .tuple #[.int .i64 z9.1, .int .i64 z9.2]) rfl (by kernel_rfl)) ?_
    refine va rfl rfl rfl (q_extract (v := .int .i64 z9.1) rfl rfl rfl) ?_
    refine va rfl rfl rfl (q_extract (v := .int .i64 z9.2) rfl rfl rfl) ?_
    refine va rfl rfl rfl (q_assign (v := .int .i64 z9.1) rfl (by kernel_rfl)) ?_
    refine va rfl rfl rfl (q_assign (v := .int .i64 z9.2) rfl (by kernel_rfl)) ?_
    refine WR.nil ?_
    change WC _ _ _ _ _ _
    refine WC.seq ?_
    refine WC.rs ?_
    refine va rfl rfl rfl (q_move (v := .int .i64 z9.2) rfl (by kernel_rfl)) ?_
    refine va rfl rfl rfl (q_neq rfl rfl rfl) ?_
    refine va rfl rfl rfl (q_move (v := .bool (z9.2 != 0)) rfl (by kernel_rfl)) ?_
    refine vg0 rfl rfl rfl rfl rfl (fun hg17 => QV.qo (q_move (v := .int .i64 z9.1) rfl (by kernel_rfl))) ?_
    refine vg0 rfl rfl rfl rfl rfl (fun hg18 => QV.qo (q_neq rfl (gu hg18 rfl) rfl)) ?_
    refine va rfl rfl rfl (q_pick rfl rfl (pk_or' (g := (z9.2 != 0)) (y := (z9.1 != (-1))))) ?_
    refine va rfl rfl rfl (q_move (v := .bool ((z9.2 != 0) || (z9.1 != (-1)))) rfl (by kernel_rfl)) ?_
    refine vg0 rfl rfl rfl rfl rfl (fun hg19 => QV.qo (q_move (v := .int .i64 which) rfl (by kernel_rfl))) ?_
    refine vg0 rfl rfl rfl rfl rfl (fun hg20 => QV.qo (q_lss rfl (gu hg20 rfl) rfl)) ?_
    refine va rfl rfl rfl (q_pick rfl rfl (pk_or' (g := ((z9.2 != 0) || (z9.1 != (-1)))) (y := (decide (which < 0))))) ?_
    refine va rfl rfl rfl (q_move (v := .bool (((z9.2 != 0) || (z9.1 != (-1))) || (decide (which < 0)))) rfl (by kernel_rfl)) ?_
    refine vg0 rfl rfl rfl rfl rfl (fun hg21 => QV.qo (q_move (v := .int .i64 which) rfl (by kernel_rfl))) ?_
    refine vg0 rfl rfl rfl rfl rfl (fun hg22 => QV.qo (q_move (v := .slice Alist list.length clist) rfl (by kernel_rfl))) ?_
    refine vg0 rfl rfl rfl rfl rfl (fun hg23 => QV.qo (q_len_slice rfl Try.underlying24 (gu hg23 rfl))) ?_
    refine vg0 rfl rfl rfl rfl rfl (fun hg24 => QV.qo (q_geq rfl (gu hg24 rfl) (gu hg24 rfl))) ?_
    refine va rfl rfl rfl (q_pick rfl rfl (pk_or' (g := (((z9.2 != 0) || (z9.1 != (-1))) || (decide (which < 0)))) (y := (decide (((list.length : Nat) : Int) ≤ which))))) ?_
    refine va rfl rfl rfl (q_move (v := .bool ((((z9.2 != 0) || (z9.1 != (-1))) || (decide (which < 0))) || (decide (((list.length : Nat) : Int) ≤ which)))) rfl (by kernel_rfl)) ?_
    refine vg0 rfl rfl rfl rfl rfl (fun hg25 => QV.qo (q_move (v := .slice Alist list.length clist) rfl (by kernel_rfl))) ?_
    refine vg0 rfl rfl rfl rfl rfl (fun hg26 => QV.qo (q_move (v := .int .i64 which) rfl (by kernel_rfl))) ?_
    obtain ⟨hk28, h⟩ := chk_some h
    refine vg0 rfl rfl rfl rfl rfl (fun hg27 => QV.qo (q_ix Try.underlying24 Try.sizeOf32 rfl (gu hg27 rfl) (gu hg27 rfl) (imp_of hk28 hg27) ((hlist.mono hl12).some_ (inb_lt (imp_of hk28 hg27))))) ?_
    refine vg0 rfl rfl rfl rfl rfl (fun hg29 => QV.qo (q_field_addr (which.toNat * 8) fld_32_0 rfl (gu hg29 rfl) ((hlist.mono hl12).some_ (inb_lt (imp_of hk28 hg29))) rfl)) ?_
    obtain ⟨A31, c32, A33, c34, hx35⟩ := (hlist.mono hl12).djudge_ActT_at which.toNat
    refine vg0 rfl rfl rfl rfl rfl (fun hg30 => QV.qo (q_ld (c := 0) (v := .bool (gt list which.toNat).read) (hx35 (inb_lt (imp_of hk28 hg30))).2 rfl Try.isAgg4 (gu hg30 rfl) rfl)) ?_
    refine vg0 rfl rfl rfl rfl rfl (fun hg36 => QV.qo (q_not rfl (gu hg36 rfl))) ?_
    refine va rfl rfl rfl (q_pick rfl rfl (pk_or' (g := ((((z9.2 != 0) || (z9.1 != (-1))) || (decide (which < 0))) || (decide (((list.length : Nat) : Int) ≤ which)))) (y := (!(gt list which.toNat).read)))) ?_
    refine va rfl rfl rfl (q_move (v := .bool (((((z9.2 != 0) || (z9.1 != (-1))) || (decide (which < 0))) || (decide (((list.length : Nat) : Int) ≤ which))) || (!(gt list which.toNat).read))) rfl (by kernel_rfl)) ?_
    refine vg0 rfl rfl rfl rfl rfl (fun hg37 => QV.qo (q_move (v := .slice Alist list.length clist) rfl (by kernel_rfl))) ?_
    refine vg0 rfl rfl rfl rfl rfl (fun hg38 => QV.qo (q_move (v := .int .i64 which) rfl (by kernel_rfl))) ?_
    obtain ⟨hk40, h⟩ := chk_some h
    refine vg0 rfl rfl rfl rfl rfl (fun hg39 => QV.qo (q_ix Try.underlying24 Try.sizeOf32 rfl (gu hg39 rfl) (gu hg39 rfl) (imp_of hk40 hg39) ((hlist.mono hl12).some_ (inb_lt (imp_of hk40 hg39))))) ?_
    refine vg0 rfl rfl rfl rfl rfl (fun hg41 => QV.qo (q_field_addr (which.toNat * 8 + 5) fld_32_4 rfl (gu hg41 rfl) ((hlist.mono hl12).some_ (inb_lt (imp_of hk40 hg41))) rfl)) ?_
    refine vg0 rfl rfl rfl rfl rfl (fun hg42 => QV.qo (q_ld (c := 5) (v := .bool (gt list which.toNat).oK) (hx35 (inb_lt (imp_of hk40 hg42))).2 rfl Try.isAgg4 (gu hg42 rfl) rfl)) ?_
    refine vg0 rfl rfl rfl rfl rfl (fun hg43 => QV.qo (q_not rfl (gu hg43 rfl))) ?_
    refine va rfl rfl rfl (q_pick rfl rfl (pk_or' (g := (((((z9.2 != 0) || (z9.1 != (-1))) || (decide (which < 0))) || (decide (((list.length : Nat) : Int) ≤ which))) || (!(gt list which.toNat).read))) (y := (!(gt list which.toNat).oK)))) ?_
    refine va rfl rfl rfl (q_move (v := .bool ((((((z9.2 != 0) || (z9.1 != (-1))) || (decide (which < 0))) || (decide (((list.length : Nat) : Int) ≤ which))) || (!(gt list which.toNat).read)) || (!(gt list which.toNat).oK))) rfl (by kernel_rfl)) ?_
    refine vg0 rfl rfl rfl rfl rfl (fun hg44 => QV.qo (q_move (v := .slice Alist list.length clist) rfl (by kernel_rfl))) ?_
    refine vg0 rfl rfl rfl rfl rfl (fun hg45 => QV.qo (q_move (v := .int .i64 which) rfl (by kernel_rfl))) ?_
    obtain ⟨hk47, h⟩ := chk_some h
    refine vg0 rfl rfl rfl rfl rfl (fun hg46 => QV.qo (q_ix Try.underlying24 Try.sizeOf32 rfl (gu hg46 rfl) (gu hg46 rfl) (imp_of hk47 hg46) ((hlist.mono hl12).some_ (inb_lt (imp_of hk47 hg46))))) ?_
    refine vg0 rfl rfl rfl rfl rfl (fun hg48 => QV.qo (q_field_addr (which.toNat * 8 + 6) fld_32_5 rfl (gu hg48 rfl) ((hlist.mono hl12).some_ (inb_lt (imp_of hk47 hg48))) rfl)) ?_
    refine vg0 rfl rfl rfl rfl rfl (fun hg49 => QV.qo (q_ld (c := 6) (v := .slice A31 ((gt list which.toNat).reads).length c32) (hx35 (inb_lt (imp_of hk47 hg49))).2 rfl Try.isAgg29 (gu hg49 rfl) rfl)) ?_
    refine vg0 rfl rfl rfl rfl rfl (fun hg50 => QV.qo (q_len_slice rfl Try.underlying29 (gu hg50 rfl))) ?_
    refine vg0 rfl rfl rfl rfl rfl (fun hg51 => QV.qo (q_eql rfl (gu hg51 rfl) rfl)) ?_
    refine va rfl rfl rfl (q_pick rfl rfl (pk_or' (g := ((((((z9.2 != 0) || (z9.1 != (-1))) || (decide (which < 0))) || (decide (((list.length : Nat) : Int) ≤ which))) || (!(gt list which.toNat).read)) || (!(gt list which.toNat).oK))) (y := (((((gt list which.toNat).reads).length : Nat) : Int) == 0)))) ?_
    refine WR.nil ?_
    change WC _ _ _ _ _ _
    refine WC.cif h (by kernel_rfl) (fun hb52 h => ?_) (fun hb52 h => ?_)
    · skip
      refine WC.rs ?_
      refine va rfl rfl rfl (q_move (v := .int .i64 z9.2) rfl (by kernel_rfl)) ?_
      refine va rfl rfl rfl (q_eql rfl rfl rfl) ?_
      refine va rfl rfl rfl (q_move (v := .int .i64 z9.1) rfl (by kernel_rfl)) ?_
      refine va rfl rfl rfl (q_eql rfl rfl rfl) ?_
      refine va rfl rfl rfl (q_beql Try.underlying4 rfl rfl rfl) ?_
      refine va rfl rfl rfl (q_assign (v := .bool ((z9.2 == 0) == (z9.1 == (-1)))) rfl (by kernel_rfl)) ?_
      refine WR.nil ?_
      change WC _ _ _ _ _ _
      refine WC.ret ?_
      intro w hw
      obtain rfl := Option.some.inj h
      subst hF
      exact ⟨by kernel_rfl, hw.fr⟩
    · skip
      refine WC.skip ?_
      change WC _ _ _ _ _ _
      refine WC.rs ?_
      refine va rfl rfl rfl (q_move (v := .slice Alist list.length clist) rfl (by kernel_rfl)) ?_
      obtain ⟨z53, hz54, h⟩ := bnd h
      refine e_call (is := []) rfl rfl (call_run Try.call11 rfl rfl (by kernel_rfl)) rfl (fun w hp => t_firthlaw23_acts (hlist.mono hl12) hlistc hp hz54) ?_
      rintro Γ55 U57 v58 hl56 ⟨A59, c60, row61, rfl, rfl, hr62, _⟩
      change WR _ _ _ (CC F Γ55 [row61]) _ _ (upd _ 77 (.slice A59 z53.length c60))
      refine va rfl rfl rfl (q_assign (v := .slice A59 z53.length c60) rfl (by kernel_rfl)) ?_
      refine WR.nil ?_
      change WC _ _ _ _ _ _
      refine WC.rs ?_
      refine va rfl rfl rfl (q_assign (v := .slice none 0 0) rfl (by kernel_rfl)) ?_
      refine WR.nil ?_
      change WC _ _ _ _ _ _
      refine WC.rs ?_
      refine va rfl rfl rfl (q_move (v := .slice none 0 0) rfl (by kernel_rfl)) ?_
      refine va rfl rfl rfl (q_move (v := .slice Alist list.length clist) rfl (by kernel_rfl)) ?_
      refine va rfl rfl rfl (q_move (v := .int .i64 which) rfl (by kernel_rfl)) ?_
      obtain ⟨hk63, h⟩ := chk_some h
      refine va rfl rfl rfl (q_ix Try.underlying24 Try.sizeOf32 rfl rfl rfl hk63 ((hlist.mono (hl12.trans hl56)).some_ (inb_lt hk63))) ?_
      refine va rfl rfl rfl (q_field_addr (which.toNat * 8 + 6) fld_32_5 rfl rfl ((hlist.mono (hl12.trans hl56)).some_ (inb_lt hk63)) rfl) ?_
      refine va rfl rfl rfl (q_ld (c := 6) (v := .slice A31 ((gt list which.toNat).reads).length c32) ((hx35 (inb_lt hk63)).2.mono hl56) rfl Try.isAgg29 rfl rfl) ?_
      obtain ⟨z64, hz65, h⟩ := bnd h
      refine e_call (is := []) rfl rfl (call_run Try.call15 rfl rfl (by kernel_rfl)) rfl (fun w hp => t_firthref23_All (Sl.nil dotT _ none) (Nat.zero_le 0) ((hx35 (inb_lt hk63)).1.2.2.2.2.1.2.mono hl56) (hx35 (inb_lt hk63)).1.2.2.2.2.1.1 hp hz65) ?_
      rintro Γ66 U68 v69 hl67 ⟨A70, c71, rfl, rfl, hc73, hr72, _⟩
      change WR _ _ _ (CC F Γ66 [row61]) _ _ (upd _ 84 (.slice A70 z64.length c71))
      refine va rfl rfl rfl (q_assign (v := .slice A70 z64.length c71) rfl (by kernel_rfl)) ?_
      refine WR.nil ?_
      change WC _ _ _ _ _ _
      refine WC.rs ?_
      refine va rfl rfl rfl (q_assign (v := .slice none 0 0) rfl (by kernel_rfl)) ?_
      refine WR.nil ?_
      change WC _ _ _ _ _ _
      refine WC.rs ?_
      refine va rfl rfl rfl (q_move (v := .slice none 0 0) rfl (by kernel_rfl)) ?_
      refine va rfl rfl rfl (q_move (v := .slice Alist list.length clist) rfl (by kernel_rfl)) ?_
      refine WR.sub (fun w hw => hw.pad) ?_
      obtain ⟨hk74, h⟩ := chk_some h
      refine e_append (T := djudge_ActT) (xs := []) (ys := list) elem_24 (i := 0) rfl rfl rfl rfl (by kernel_rfl) rfl rfl (Own.nil djudge_ActT Γ66 32) (of_decide_eq_true hk74) (fun w hw => src_sl (hlist.mono ((hl12.trans hl56).trans hl67)) hw) ?_
      intro row75 A76 c77 ho78
      refine va rfl rfl rfl (q_assign (v := .slice A76 list.length c77) rfl (by kernel_rfl)) ?_
      refine WR.nil ?_
      change WC _ _ _ _ _ _
      refine WC.rs ?_
      refine va rfl rfl rfl (q_move (v := .slice Alist list.length clist) rfl (by kernel_rfl)) ?_
      refine va rfl rfl rfl (q_move (v := .int .i64 which) rfl (by kernel_rfl)) ?_
      refine va rfl rfl rfl (q_ix Try.underlying24 Try.sizeOf32 rfl rfl rfl hk63 ((hlist.mono ((hl12.trans hl56).trans hl67)).some_ (inb_lt hk63))) ?_
      refine va rfl rfl rfl (q_lda (c := 0) (vs := [.bool (gt list which.toNat).read, .int .i64 (gt list which.toNat).sess, .string (gt list which.toNat).key, .int .i64 (gt list which.toNat).dot.s, .int .i64 (gt list which.toNat).dot.n, .bool (gt list which.toNat).oK, .slice A31 ((gt list which.toNat).reads).length c32, .slice A33 ((gt list which.toNat).seen).length c34]) ((hx35 (inb_lt hk63)).2.mono (hl56.trans hl67)) rfl Try.isAgg32 Try.sizeOf32 rfl rfl rfl) ?_
      refine e_alloc Try.zeroValue32 rfl rfl rfl rfl ?_
      intro g79
      refine e_st (i := 0) (v := .agg #[.bool (gt list which.toNat).read, .int .i64 (gt list which.toNat).sess, .string (gt list which.toNat).key, .int .i64 (gt list which.toNat).dot.s, .int .i64 (gt list which.toNat).dot.n, .bool (gt list which.toNat).oK, .slice A31 ((gt list which.toNat).reads).length c32, .slice A33 ((gt list which.toNat).seen).length c34]) (new := #[.bool (gt list which.toNat).read, .int .i64 (gt list which.toNat).sess, .string (gt list which.toNat).key, .int .i64 (gt list which.toNat).dot.s, .int .i64 (gt list which.toNat).dot.n, .bool (gt list which.toNat).oK, .slice A31 ((gt list which.toNat).reads).length c32, .slice A33 ((gt list which.toNat).seen).length c34]) rfl Try.sizeOf32 rfl rfl rfl rfl (by kernel_rfl) rfl rfl rfl rfl ?_
      refine WR.nil ?_
      change WC _ _ _ _ _ _
      refine WC.cut (fun σ w => ∃ (x82 : List Dot), ∃ (Γ80 : Gh), ∃ (A83 : Option Addr), ∃ (c84 : Nat), m_firthlaw23_JudgeFinds_j1 list which x82 = some r ∧ slots σ [(1, .int .i64 which), (11, .slice A76 list.length c77), (12, .pointer (some ⟨g79, 0, none⟩))] ∧ CC F Γ80 [[(g79, .cells #[.bool (gt list which.toNat).read, .int .i64 (gt list which.toNat).sess, .string (gt list which.toNat).key, .int .i64 (gt list which.toNat).dot.s, .int .i64 (gt list which.toNat).dot.n, .bool (gt list which.toNat).oK, .slice A83 x82.length c84, .slice A33 ((gt list which.toNat).seen).length c34] 32 (0, 0))], row75] w ∧ Gh.le Γ66 Γ80 ∧ x82.length ≤ c84 ∧ Sl dotT Γ80 A83 x82 ∧ True) ?_ ?_
      · skip
        refine WC.rs ?_
        refine va rfl rfl rfl (q_move (v := .bool less) rfl (by kernel_rfl)) ?_
        refine WR.nil ?_
        change WC _ _ _ _ _ _
        refine WC.cif h (by kernel_rfl) (fun hb87 h => ?_) (fun hb87 h => ?_)
        · skip
          refine WC.rs ?_
          refine va rfl rfl rfl (q_move (v := .slice A70 z64.length c71) rfl (by kernel_rfl)) ?_
          obtain ⟨hk88, h⟩ := chk_some h
          refine va rfl rfl rfl (q_cut_from (c := c71) (lo := 1) (xs := z64) Try.underlying29 Try.sizeOf27 rfl rfl rfl (of_decide_eq_true hk88)) ?_
          refine va rfl rfl rfl (q_fl 6 fld_32_5 rfl rfl rfl) ?_
          refine e_st (i := 0) (v := .slice (if c71 = 1 then A70 else Option.map (fun a => a.add (1 * 2)) A70) (List.drop 1 z64).length (c71 - 1)) (new := #[.bool (gt list which.toNat).read, .int .i64 (gt list which.toNat).sess, .string (gt list which.toNat).key, .int .i64 (gt list which.toNat).dot.s, .int .i64 (gt list which.toNat).dot.n, .bool (gt list which.toNat).oK, .slice (if c71 = 1 then A70 else Option.map (fun a => a.add (1 * 2)) A70) (List.drop 1 z64).length (c71 - 1), .slice A33 ((gt list which.toNat).seen).length c34]) rfl Try.sizeOf29 rfl rfl rfl rfl (by kernel_rfl) rfl rfl rfl rfl ?_
          refine WR.nil ?_
          change WC _ _ _ _ _ _
          refine WC.seq ?_
          have hc93 := (hr62.mono hl67).capz
          intro w hw; obtain ⟨Γ89, hw, hl90, hr91⟩ := hw.seal (i := 2) rfl; have hs92 := (hr62.mono hl67).sl hl90 hr91
          refine WC.here (C := CC F Γ89 [[(g79, .cells #[.bool (gt list which.toNat).read, .int .i64 (gt list which.toNat).sess, .string (gt list which.toNat).key, .int .i64 (gt list which.toNat).dot.s, .int .i64 (gt list which.toNat).dot.n, .bool (gt list which.toNat).oK, .slice (if c71 = 1 then A70 else Option.map (fun a => a.add (1 * 2)) A70) (List.drop 1 z64).length (c71 - 1), .slice A33 ((gt list which.toNat).seen).length c34] 32 (0, 0))], row75, []]) ?_ hw
          clear hw
          intro w hw; have h094 := hw.le
          refine WC.here (C := CC F Γ89 [[(g79, .cells #[.bool (gt list which.toNat).read, .int .i64 (gt list which.toNat).sess, .string (gt list which.toNat).key, .int .i64 (gt list which.toNat).dot.s, .int .i64 (gt list which.toNat).dot.n, .bool (gt list which.toNat).oK, .slice (if c71 = 1 then A70 else Option.map (fun a => a.add (1 * 2)) A70) (List.drop 1 z64).length (c71 - 1), .slice A33 ((gt list which.toNat).seen).length c34] 32 (0, 0))], row75, []]) ?_ hw; clear hw
          refine WC.held (CC F Γ89 [[(g79, .cells #[.bool (gt list which.toNat).read, .int .i64 (gt list which.toNat).sess, .string (gt list which.toNat).key, .int .i64 (gt list which.toNat).dot.s, .int .i64 (gt list which.toNat).dot.n, .bool (gt list which.toNat).oK, .slice (if c71 = 1 then A70 else Option.map (fun a => a.add (1 * 2)) A70) (List.drop 1 z64).length (c71 - 1), .slice A33 ((gt list which.toNat).seen).length c34] 32 (0, 0))], row75, []]) (by kernel_rfl) (fun w hw => hw.drawn _) ?_
          change WH _ _ _ _ (CC F Γ89 [[(g79, .cells #[.bool (gt list which.toNat).read, .int .i64 (gt list which.toNat).sess, .string (gt list which.toNat).key, .int .i64 (gt list which.toNat).dot.s, .int .i64 (gt list which.toNat).dot.n, .bool (gt list which.toNat).oK, .slice (if c71 = 1 then A70 else Option.map (fun a => a.add (1 * 2)) A70) (List.drop 1 z64).length (c71 - 1), .slice A33 ((gt list which.toNat).seen).length c34] 32 (0, 0))], row75, []]) _ 17 #[false, false, false, false, false, false, false, false, false, false, false, false, false, false, false, false, false] _
          refine ht (i := 0) rfl (by kernel_rfl) rfl rfl rfl (fun w hw => hw.back (Gh.refl _) h094 (.cons_cons _ (.cons_cons _ (.cons_cons _ .slnil)))) (q_move (v := .slice A59 z53.length c60) rfl (by kernel_rfl)) ?_
          refine ht (i := 1) rfl (by kernel_rfl) rfl rfl rfl (fun w hw => hw.back (Gh.refl _) h094 (.cons_cons _ (.cons_cons _ (.cons_cons _ .slnil)))) (q_move (v := .int .i64 which) rfl (by kernel_rfl)) ?_
          refine ht (i := 3) rfl (by kernel_rfl) rfl rfl rfl (fun w hw => hw.back (Gh.refl _) h094 (.cons_cons _ (.cons_cons _ (.cons_cons _ .slnil)))) (q_move (v := .slice A70 z64.length c71) rfl (by kernel_rfl)) ?_
          obtain ⟨hk95, h⟩ := chk_some h
          refine ht (i := 4) rfl (by kernel_rfl) rfl rfl rfl (fun w hw => hw.back (Gh.refl _) h094 (.cons_cons _ (.cons_cons _ (.cons_cons _ .slnil)))) (q_ixn (i := 0) Try.underlying29 Try.sizeOf27 rfl rfl rfl (of_decide_eq_true hk95) ((hr72.mono hl90).some_ (of_decide_eq_true hk95))) ?_
          refine ht (i := 5) rfl (by kernel_rfl) rfl rfl rfl (fun w hw => hw.back (Gh.refl _) h094 (.cons_cons _ (.cons_cons _ (.cons_cons _ .slnil)))) (q_lda (c := 0) (vs := [.int .i64 (gt z64 0).s, .int .i64 (gt z64 0).n]) ((hr72.mono hl90).dotT_at (of_decide_eq_true hk95)).2 rfl Try.isAgg27 Try.sizeOf27 rfl rfl rfl) ?_
          refine WH.lone (i := 2) (by kernel_rfl) rfl ?_
          obtain ⟨z96, hz97, h⟩ := bnd h
          refine e_call (is := []) rfl rfl (call_run Try.call16 rfl rfl (by kernel_rfl)) rfl (fun w hp => t_firthref23_Saw hs92 hc93 which hwhich hp hz97) ?_
          rintro Γ98 U100 v101 hl99 ⟨A102, c103, rfl, rfl, hc105, hr104, _⟩
          change WR _ _ _ (CC F Γ98 [[(g79, .cells #[.bool (gt list which.toNat).read, .int .i64 (gt list which.toNat).sess, .string (gt list which.toNat).key, .int .i64 (gt list which.toNat).dot.s, .int .i64 (gt list which.toNat).dot.n, .bool (gt list which.toNat).oK, .slice (if c71 = 1 then A70 else Option.map (fun a => a.add (1 * 2)) A70) (List.drop 1 z64).length (c71 - 1), .slice A33 ((gt list which.toNat).seen).length c34] 32 (0, 0))], row75, []]) _ _ (upd _ 98 (.slice A102 z96.length c103))
          refine WR.nil ?_
          refine WH.next (fun w hw => hw.back hl99 h094 (.cons_cons _ (.cons_cons _ (.cons_cons _ .slnil)))) ?_
          refine WH.lone (i := 6) (by kernel_rfl) rfl ?_
          obtain ⟨z106, hz107, h⟩ := bnd h
          refine vc rfl rfl rfl (q_call (call_run Try.call10 rfl rfl (by kernel_rfl)) (fun w hw => t_firthref23_Has (Γ := Gh.all w) (hr104.mono hw.sat.le_all) hc105 (gt z64 0) ((hr72.mono (hl90.trans hl99)).dotT_at (of_decide_eq_true hk95)).1 (Sat.all w) hz107)) ?_
          refine WR.nil ?_
          refine WH.next (fun w hw => hw.back hl99 h094 (.cons_cons _ (.cons_cons _ (.cons_cons _ .slnil)))) ?_
          refine ht (i := 7) rfl (by kernel_rfl) rfl rfl rfl (fun w hw => hw.back hl99 h094 (.cons_cons _ (.cons_cons _ (.cons_cons _ .slnil)))) (q_not rfl rfl) ?_
          refine ht (i := 8) rfl (by kernel_rfl) rfl rfl rfl (fun w hw => hw.back hl99 h094 (.cons_cons _ (.cons_cons _ (.cons_cons _ .slnil)))) (q_move (v := .bool (!z106)) rfl (by kernel_rfl)) ?_
          refine hg1 (i := 9) rfl (by kernel_rfl) rfl rfl rfl rfl rfl (fun w hw => hw.back hl99 h094 (.cons_cons _ (.cons_cons _ (.cons_cons _ .slnil)))) (fun hg108 => (q_fl 7 fld_32_6 rfl rfl rfl)) ?_
          refine hg1 (i := 10) rfl (by kernel_rfl) rfl rfl rfl rfl rfl (fun w hw => hw.back hl99 h094 (.cons_cons _ (.cons_cons _ (.cons_cons _ .slnil)))) (fun hg109 => (q_ldl (i := 0) (v := .slice A33 ((gt list which.toNat).seen).length c34) rfl rfl Try.isAgg30 (gu hg109 rfl) rfl)) ?_
          refine hg1 (i := 11) rfl (by kernel_rfl) rfl rfl rfl rfl rfl (fun w hw => hw.back hl99 h094 (.cons_cons _ (.cons_cons _ (.cons_cons _ .slnil)))) (fun hg110 => (q_move (v := .slice A70 z64.length c71) rfl (by kernel_rfl))) ?_
          refine hg1 (i := 12) rfl (by kernel_rfl) rfl rfl rfl rfl rfl (fun w hw => hw.back hl99 h094 (.cons_cons _ (.cons_cons _ (.cons_cons _ .slnil)))) (fun hg111 => (q_ixn (i := 0) Try.underlying29 Try.sizeOf27 rfl (gu hg111 rfl) rfl (of_decide_eq_true hk95) ((hr72.mono hl90).some_ (of_decide_eq_true hk95)))) ?_
          refine hg1 (i := 13) rfl (by kernel_rfl) rfl rfl rfl rfl rfl (fun w hw => hw.back hl99 h094 (.cons_cons _ (.cons_cons _ (.cons_cons _ .slnil)))) (fun hg112 => (q_lda (c := 0) (vs := [.int .i64 (gt z64 0).s, .int .i64 (gt z64 0).n]) ((hr72.mono hl90).dotT_at (of_decide_eq_true hk95)).2 rfl Try.isAgg27 Try.sizeOf27 (gu hg112 rfl) rfl rfl)) ?_
          refine WH.lone (i := 14) (by kernel_rfl) rfl ?_
          obtain ⟨z114, hz115, h⟩ := bnd h
          refine vg1 rfl rfl rfl rfl rfl (fun hg113 => (q_call (call_run Try.call17 rfl rfl (args2 (gu hg113 rfl) (gu hg113 rfl))) (fun w hw => t_firthlaw23_covered (Γ := Gh.all w) (((hx35 (inb_lt hk63)).1.2.2.2.2.2.2.mono (((hl56.trans hl67).trans hl90).trans hl99)).mono hw.sat.le_all) (hx35 (inb_lt hk63)).1.2.2.2.2.2.1 (gt z64 0) ((hr72.mono (hl90.trans hl99)).dotT_at (of_decide_eq_true hk95)).1 (Sat.all w) (gc_of hz115 hg113)))) ?_
          refine WR.nil ?_
          refine WH.next (fun w hw => hw.back hl99 h094 (.cons_cons _ (.cons_cons _ (.cons_cons _ .slnil)))) ?_
          refine hg1 (i := 15) rfl (by kernel_rfl) rfl rfl rfl rfl rfl (fun w hw => hw.back hl99 h094 (.cons_cons _ (.cons_cons _ (.cons_cons _ .slnil)))) (fun hg116 => (q_not rfl (gu hg116 rfl))) ?_
          refine ht (i := 16) rfl (by kernel_rfl) rfl rfl rfl (fun w hw => hw.back hl99 h094 (.cons_cons _ (.cons_cons _ (.cons_cons _ .slnil)))) (q_pick rfl rfl (pk_and' (g := (!z106)) (y := (!z114)))) ?_
          refine WH.done (by kernel_rfl) ?_
          change WC _ _ _ _ _ _
          refine WC.cif h (by kernel_rfl) (fun hb117 h => ?_) (fun hb117 h => ?_)
          · skip
            refine WC.rs ?_
            refine va rfl rfl rfl (q_assign (v := .bool true) rfl (by kernel_rfl)) ?_
            refine WR.nil ?_
            change WC _ _ _ _ _ _
            refine WC.ret ?_
            intro w hw
            obtain rfl := Option.some.inj h
            subst hF
            exact ⟨by kernel_rfl, hw.fr⟩
          · skip
            refine WC.skip ?_
            intro w hw
            exact ⟨(List.drop 1 z64), Γ98, (if c71 = 1 then A70 else Option.map (fun a => a.add (1 * 2)) A70), (c71 - 1), h, (sl_ (by kernel_rfl)), (hw.only (is := [0, 0]) rfl), (hl90.trans hl99), (cut_cap hc73 1), ((hr72.mono (hl90.trans hl99)).cut_from (c := c71) (lo := 1) (of_decide_eq_true hk88) hc73), trivial⟩
        · skip
          refine WC.seq ?_
          have hc122 := (hr62.mono hl67).capz
          intro w hw; obtain ⟨Γ118, hw, hl119, hr120⟩ := hw.seal (i := 2) rfl; have hs121 := (hr62.mono hl67).sl hl119 hr120
          refine WC.here (C := CC F Γ118 [[(g79, .cells #[.bool (gt list which.toNat).read, .int .i64 (gt list which.toNat).sess, .string (gt list which.toNat).key, .int .i64 (gt list which.toNat).dot.s, .int .i64 (gt list which.toNat).dot.n, .bool (gt list which.toNat).oK, .slice A31 ((gt list which.toNat).reads).length c32, .slice A33 ((gt list which.toNat).seen).length c34] 32 (0, 0))], row75, []]) ?_ hw
          clear hw
          intro w hw; have h0123 := hw.le
          refine WC.here (C := CC F Γ118 [[(g79, .cells #[.bool (gt list which.toNat).read, .int .i64 (gt list which.toNat).sess, .string (gt list which.toNat).key, .int .i64 (gt list which.toNat).dot.s, .int .i64 (gt list which.toNat).dot.n, .bool (gt list which.toNat).oK, .slice A31 ((gt list which.toNat).reads).length c32, .slice A33 ((gt list which.toNat).seen).length c34] 32 (0, 0))], row75, []]) ?_ hw; clear hw
          refine WC.held (CC F Γ118 [[(g79, .cells #[.bool (gt list which.toNat).read, .int .i64 (gt list which.toNat).sess, .string (gt list which.toNat).key, .int .i64 (gt list which.toNat).dot.s, .int .i64 (gt list which.toNat).dot.n, .bool (gt list which.toNat).oK, .slice A31 ((gt list which.toNat).reads).length c32, .slice A33 ((gt list which.toNat).seen).length c34] 32 (0, 0))], row75, []]) (by kernel_rfl) (fun w hw => hw.drawn _) ?_
          change WH _ _ _ _ (CC F Γ118 [[(g79, .cells #[.bool (gt list which.toNat).read, .int .i64 (gt list which.toNat).sess, .string (gt list which.toNat).key, .int .i64 (gt list which.toNat).dot.s, .int .i64 (gt list which.toNat).dot.n, .bool (gt list which.toNat).oK, .slice A31 ((gt list which.toNat).reads).length c32, .slice A33 ((gt list which.toNat).seen).length c34] 32 (0, 0))], row75, []]) _ 10 #[false, false, false, false, false, false, false, false, false, false] _
          refine ht (i := 0) rfl (by kernel_rfl) rfl rfl rfl (fun w hw => hw.back (Gh.refl _) h0123 (.cons_cons _ (.cons_cons _ (.cons_cons _ .slnil)))) (q_move (v := .slice A59 z53.length c60) rfl (by kernel_rfl)) ?_
          refine ht (i := 1) rfl (by kernel_rfl) rfl rfl rfl (fun w hw => hw.back (Gh.refl _) h0123 (.cons_cons _ (.cons_cons _ (.cons_cons _ .slnil)))) (q_move (v := .slice A59 z53.length c60) rfl (by kernel_rfl)) ?_
          refine ht (i := 2) rfl (by kernel_rfl) rfl rfl rfl (fun w hw => hw.back (Gh.refl _) h0123 (.cons_cons _ (.cons_cons _ (.cons_cons _ .slnil)))) (q_move (v := .slice A70 z64.length c71) rfl (by kernel_rfl)) ?_
          obtain ⟨hk124, h⟩ := chk_some h
          refine ht (i := 3) rfl (by kernel_rfl) rfl rfl rfl (fun w hw => hw.back (Gh.refl _) h0123 (.cons_cons _ (.cons_cons _ (.cons_cons _ .slnil)))) (q_ixn (i := 0) Try.underlying29 Try.sizeOf27 rfl rfl rfl (of_decide_eq_true hk124) ((hr72.mono hl119).some_ (of_decide_eq_true hk124))) ?_
          refine ht (i := 4) rfl (by kernel_rfl) rfl rfl rfl (fun w hw => hw.back (Gh.refl _) h0123 (.cons_cons _ (.cons_cons _ (.cons_cons _ .slnil)))) (q_lda (c := 0) (vs := [.int .i64 (gt z64 0).s, .int .i64 (gt z64 0).n]) ((hr72.mono hl119).dotT_at (of_decide_eq_true hk124)).2 rfl Try.isAgg27 Try.sizeOf27 rfl rfl rfl) ?_
          refine ht (i := 6) rfl (by kernel_rfl) rfl rfl rfl (fun w hw => hw.back (Gh.refl _) h0123 (.cons_cons _ (.cons_cons _ (.cons_cons _ .slnil)))) (q_fl 2 fld_32_2 rfl rfl rfl) ?_
          refine ht (i := 7) rfl (by kernel_rfl) rfl rfl rfl (fun w hw => hw.back (Gh.refl _) h0123 (.cons_cons _ (.cons_cons _ (.cons_cons _ .slnil)))) (q_ldl (i := 0) (v := .string (gt list which.toNat).key) rfl rfl Try.isAgg9 rfl rfl) ?_
          refine WH.lone (i := 5) (by kernel_rfl) rfl ?_
          obtain ⟨z125, hz126, h⟩ := bnd h
          refine e_call (is := []) rfl rfl (call_run Try.call19 rfl rfl (by kernel_rfl)) rfl (fun w hp => t_firthref23_Behind hs121 hc122 (gt z64 0) ((hr72.mono hl119).dotT_at (of_decide_eq_true hk124)).1 hp hz126) ?_
          rintro Γ127 U129 v130 hl128 ⟨A131, c132, rfl, rfl, hc134, hr133, _⟩
          change WR _ _ _ (CC F Γ127 [[(g79, .cells #[.bool (gt list which.toNat).read, .int .i64 (gt list which.toNat).sess, .string (gt list which.toNat).key, .int .i64 (gt list which.toNat).dot.s, .int .i64 (gt list which.toNat).dot.n, .bool (gt list which.toNat).oK, .slice A31 ((gt list which.toNat).reads).length c32, .slice A33 ((gt list which.toNat).seen).length c34] 32 (0, 0))], row75, []]) _ _ (upd _ 118 (.slice A131 z125.length c132))
          refine WR.nil ?_
          refine WH.next (fun w hw => hw.back hl128 h0123 (.cons_cons _ (.cons_cons _ (.cons_cons _ .slnil)))) ?_
          refine WH.lone (i := 8) (by kernel_rfl) rfl ?_
          obtain ⟨z135, hz136, h⟩ := bnd h
          refine e_call (is := []) rfl rfl (call_run Try.call18 rfl rfl (by kernel_rfl)) rfl (fun w hp => t_firthref23_Greatest (hs121.mono hl128) hc122 hr133 hc134 ((gt list which.toNat).key) (hx35 (inb_lt hk63)).1.2.1 hp hz136) ?_
          rintro Γ137 U139 v140 hl138 ⟨A141, c142, row143, rfl, rfl, hr144, _⟩
          change WR _ _ _ (CC F Γ137 [row143, [(g79, .cells #[.bool (gt list which.toNat).read, .int .i64 (gt list which.toNat).sess, .string (gt list which.toNat).key, .int .i64 (gt list which.toNat).dot.s, .int .i64 (gt list which.toNat).dot.n, .bool (gt list which.toNat).oK, .slice A31 ((gt list which.toNat).reads).length c32, .slice A33 ((gt list which.toNat).seen).length c34] 32 (0, 0))], row75, []]) _ _ (upd _ 121 (.slice A141 z135.length c142))
          refine WR.nil ?_
          refine WH.next (fun w hw => hw.back (hl128.trans hl138) h0123 (.cons _ (.cons_cons _ (.cons_cons _ (.cons_cons _ .slnil))))) ?_
          refine ht (i := 9) rfl (by kernel_rfl) rfl rfl rfl (fun w hw => hw.back (hl128.trans hl138) h0123 (.cons _ (.cons_cons _ (.cons_cons _ (.cons_cons _ .slnil))))) (q_assign (v := .slice A141 z135.length c142) rfl (by kernel_rfl)) ?_
          refine WH.done (by kernel_rfl) ?_
          change WC _ _ _ _ _ _
          refine WC.seq ?_
          refine WC.rs ?_
          refine va rfl rfl rfl (q_move (v := .slice A141 z135.length c142) rfl (by kernel_rfl)) ?_
          refine va rfl rfl rfl (q_len_slice rfl Try.underlying29 rfl) ?_
          refine va rfl rfl rfl (q_eql rfl rfl rfl) ?_
          refine WR.nil ?_
          change WC _ _ _ _ _ _
          refine WC.cif h (by kernel_rfl) (fun hb145 h => ?_) (fun hb145 h => ?_)
          · skip
            refine WC.rs ?_
            refine va rfl rfl rfl (q_assign (v := .bool true) rfl (by kernel_rfl)) ?_
            refine WR.nil ?_
            change WC _ _ _ _ _ _
            refine WC.ret ?_
            intro w hw
            obtain rfl := Option.some.inj h
            subst hF
            exact ⟨by kernel_rfl, hw.fr⟩
          · skip
            refine WC.skip ?_
            change WC _ _ _ _ _ _
            refine WC.rs ?_
            refine va rfl rfl rfl (q_assign (v := .slice none 0 0) rfl (by kernel_rfl)) ?_
            refine WR.nil ?_
            change WC _ _ _ _ _ _
            refine WC.rs ?_
            refine va rfl rfl rfl (q_move (v := .slice none 0 0) rfl (by kernel_rfl)) ?_
            refine va rfl rfl rfl (q_move (v := .slice A70 z64.length c71) rfl (by kernel_rfl)) ?_
            refine WR.sub (fun w hw => hw.pad) ?_
            obtain ⟨hk146, h⟩ := chk_some h
            refine e_append (T := dotT) (xs := []) (ys := z64) elem_29 (i := 0) rfl rfl rfl rfl (by kernel_rfl) rfl rfl (Own.nil dotT Γ137 27) (of_decide_eq_true hk146) (fun w hw => src_sl (hr72.mono ((hl119.trans hl128).trans hl138)) hw) ?_
            intro row147 A148 c149 ho150
            refine va rfl rfl rfl (q_assign (v := .slice A148 z64.length c149) rfl (by kernel_rfl)) ?_
            refine WR.nil ?_
            change WC _ _ _ _ _ _
            refine WC.region ?_
            refine va rfl rfl rfl (q_move (v := .slice A148 z64.length c149) rfl (by kernel_rfl)) ?_
            refine va rfl rfl rfl (q_move (v := .slice A141 z135.length c142) rfl (by kernel_rfl)) ?_
            obtain ⟨hk151, h⟩ := chk_some h
            refine va rfl rfl rfl (q_ixn (i := 0) Try.underlying29 Try.sizeOf27 rfl rfl rfl (of_decide_eq_true hk151) (hr144.some_ (of_decide_eq_true hk151))) ?_
            refine va rfl rfl rfl (q_ldoa (c := 0) (vs := [.int .i64 (gt z135 0).s, .int .i64 (gt z135 0).n]) (i := 1) rfl (hr144.dotT_at (of_decide_eq_true hk151)).2 rfl Try.isAgg27 Try.sizeOf27 rfl rfl) ?_
            refine e_buildSlice (cs := #[.int .i64 (gt z135 0).s, .int .i64 (gt z135 0).n]) (e := 27) rfl rfl rfl rfl (fun w => by kernel_rfl) ?_
            intro g152
            obtain ⟨hk153, h⟩ := chk_some h
            refine e_append (T := dotT) (xs := z64) (ys := [(gt z135 0)]) elem_29 (i := 1) rfl rfl rfl rfl rfl rfl rfl ho150 (of_decide_eq_true hk153) (fun w hw => src_one (T := dotT) (y := (gt z135 0)) (i := 0) rfl (by exact ⟨rfl, (hr144.dotT_at (of_decide_eq_true hk151)).1⟩) hw) ?_
            intro row154 A155 c156 ho157
            refine va rfl rfl rfl (q_fl 6 fld_32_5 rfl rfl rfl) ?_
            refine e_st (i := 3) (v := .slice A155 (z64 ++ [(gt z135 0)]).length c156) (new := #[.bool (gt list which.toNat).read, .int .i64 (gt list which.toNat).sess, .string (gt list which.toNat).key, .int .i64 (gt list which.toNat).dot.s, .int .i64 (gt list which.toNat).dot.n, .bool (gt list which.toNat).oK, .slice A155 (z64 ++ [(gt z135 0)]).length c156, .slice A33 ((gt list which.toNat).seen).length c34]) rfl Try.sizeOf29 rfl rfl rfl rfl (by kernel_rfl) rfl rfl rfl rfl ?_
            refine WR.nil ?_
            intro w hw
            have hc162 := ho157.capz
            obtain ⟨Γ158, hw, hl159, hr160⟩ := hw.seal (i := 1) rfl; have hs161 := ho157.sl hl159 hr160
            exact ⟨(z64 ++ [(gt z135 0)]), Γ158, A155, c156, h, (sl_ (by kernel_rfl)), (hw.only (is := [3, 3]) rfl), (((hl119.trans hl128).trans hl138).trans hl159), hc162, hs161, trivial⟩
      · skip
        rintro σ w ⟨x82, Γ80, A83, c84, h, hsl, hw, hl81, hc86, hs85, -⟩
        refine Wpt.slots hsl ?_
        refine WC.here (C := CC F Γ80 [[(g79, .cells #[.bool (gt list which.toNat).read, .int .i64 (gt list which.toNat).sess, .string (gt list which.toNat).key, .int .i64 (gt list which.toNat).dot.s, .int .i64 (gt list which.toNat).dot.n, .bool (gt list which.toNat).oK, .slice A83 x82.length c84, .slice A33 ((gt list which.toNat).seen).length c34] 32 (0, 0))], row75]) ?_ hw
        clear hw hsl
        refine WC.rs ?_
        refine va rfl rfl rfl (q_move (v := .slice A76 list.length c77) rfl (by kernel_rfl)) ?_
        refine va rfl rfl rfl (q_move (v := .int .i64 which) rfl (by kernel_rfl)) ?_
        refine va rfl rfl rfl (q_ldla (i := 0) (vs := [.bool (gt list which.toNat).read, .int .i64 (gt list which.toNat).sess, .string (gt list which.toNat).key, .int .i64 (gt list which.toNat).dot.s, .int .i64 (gt list which.toNat).dot.n, .bool (gt list which.toNat).oK, .slice A83 x82.length c84, .slice A33 ((gt list which.toNat).seen).length c34]) rfl rfl Try.isAgg32 Try.sizeOf32 rfl rfl) ?_
        refine va rfl rfl rfl (q_ix Try.underlying24 Try.sizeOf32 rfl rfl rfl hk63 ((ho78.mono hl81).some_ (inb_lt hk63))) ?_
        refine e_store_own (T := djudge_ActT) (q := which.toNat) (v := .agg #[.bool (gt list which.toNat).read, .int .i64 (gt list which.toNat).sess, .string (gt list which.toNat).key, .int .i64 (gt list which.toNat).dot.s, .int .i64 (gt list which.toNat).dot.n, .bool (gt list which.toNat).oK, .slice A83 x82.length c84, .slice A33 ((gt list which.toNat).seen).length c34]) (y := (⟨(gt list which.toNat).read, (gt list which.toNat).sess, (gt list which.toNat).key, (⟨(gt list which.toNat).dot.s, (gt list which.toNat).dot.n⟩ : Dot), (gt list which.toNat).oK, x82, (gt list which.toNat).seen⟩ : Djudge_Act)) rfl rfl rfl rfl (by kernel_rfl) Try.sizeOf32 (by exact ⟨A83, c84, A33, c34, rfl, ⟨(hx35 (inb_lt hk63)).1.1, (hx35 (inb_lt hk63)).1.2.1, (hx35 (inb_lt hk63)).1.2.2.1, (hx35 (inb_lt hk63)).1.2.2.2.1, ⟨hc86, hs85⟩, ⟨(hx35 (inb_lt hk63)).1.2.2.2.2.2.1, ((hx35 (inb_lt hk63)).1.2.2.2.2.2.2.mono ((hl56.trans hl67).trans hl81))⟩⟩⟩) (i := 1) rfl (ho78.mono hl81) (inb_lt hk63) ?_
        intro row163 ho164
        refine WR.nil ?_
        change WC _ _ _ _ _ _
        refine WC.rs ?_
        refine va rfl rfl rfl (q_move (v := .slice A76 list.length c77) rfl (by kernel_rfl)) ?_
        rw [show Value.slice A76 (list.length) c77 = Value.slice A76 ((List.set list which.toNat (⟨(gt list which.toNat).read, (gt list which.toNat).sess, (gt list which.toNat).key, (⟨(gt list which.toNat).dot.s, (gt list which.toNat).dot.n⟩ : Dot), (gt list which.toNat).oK, x82, (gt list which.toNat).seen⟩ : Djudge_Act)).length) c77 from by first | (rw [List.length_set]; done) | (rw [List.length_set]; rfl)]
        obtain ⟨z165, hz166, h⟩ := bnd h
        refine e_callB (is := []) (Lent.nil F) rfl rfl (call_run Try.call14 rfl rfl (by kernel_rfl)) rfl (fun w Θ hp hpB hle hleB hR => t_judge_Judge_l0 (own_lent ho164 hR (List.mem_of_getElem? (i := 1) rfl) hle) ho164.capz hp hpB hz166) ?_
        rintro Γ167 U169 v170 hl168 ⟨rfl, rfl, hr171, hr172, _⟩
        change WR _ _ _ (CC F Γ167 [[(g79, .cells #[.bool (gt list which.toNat).read, .int .i64 (gt list which.toNat).sess, .string (gt list which.toNat).key, .int .i64 (gt list which.toNat).dot.s, .int .i64 (gt list which.toNat).dot.n, .bool (gt list which.toNat).oK, .slice A83 x82.length c84, .slice A33 ((gt list which.toNat).seen).length c34] 32 (0, 0))], row163]) _ _ (upd _ 141 (.tuple #[.int .i64 z165.1, .int .i64 z165.2]))
        refine va rfl rfl rfl (q_move (v := .tuple #[.int .i64 z165.1, .int .i64 z165.2]) rfl (by kernel_rfl)) ?_
        refine va rfl rfl rfl (q_extract (v := .int .i64 z165.1) rfl rfl rfl) ?_
        refine va rfl rfl rfl (q_extract (v := .int .i64 z165.2) rfl rfl rfl) ?_
        refine va rfl rfl rfl (q_assign (v := .int .i64 z165.1) rfl (by kernel_rfl)) ?_
        refine va rfl rfl rfl (q_assign (v := .int .i64 z165.2) rfl (by kernel_rfl)) ?_
        refine WR.nil ?_
        change WC _ _ _ _ _ _
        refine WC.rs ?_
        refine va rfl rfl rfl (q_move (v := .int .i64 z165.2) rfl (by kernel_rfl)) ?_
        refine va rfl rfl rfl (q_neq rfl rfl rfl) ?_
        refine va rfl rfl rfl (q_assign (v := .bool (z165.2 != 0)) rfl (by kernel_rfl)) ?_
        refine WR.nil ?_
        change WC _ _ _ _ _ _
        refine WC.ret ?_
        intro w hw
        obtain rfl := Option.some.inj h
        subst hF
        exact ⟨by kernel_rfl, hw.fr⟩
end Fw
end Go.Proofs.Ytldpanjodokefaa
