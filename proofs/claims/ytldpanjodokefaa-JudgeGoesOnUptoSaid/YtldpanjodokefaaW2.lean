/- Walks through the functions that the law reaches (printed by a program). No condition. -/
import Derived.Test.YtldpanjodokefaaW1
namespace Go.Proofs.Ytldpanjodokefaa
namespace Fw
set_option linter.unusedVariables false
set_option linter.unusedSimpArgs false
set_option linter.unusedSectionVars false
open Go.RowKit
set_option maxRecDepth 100000 in
set_option maxHeartbeats 400000 in
theorem t_firthlaw23_awake {Γ : Gh} {w0 : World}  (hs : Sat Γ w0) {r : Bool} (h : m_firthlaw23_awake = some r) : Calls Try.prog 7 #[] w0 (fun e w' => e = .returned (.bool r) ∧ Fr no w0 w') := by
  refine calls_of (N := 57) (rs := [0]) (args := []) Try.func7 rfl Try.ntmps7 Try.results7 rfl ?_
  obtain ⟨F, hF⟩ : ∃ F : Fm, F = ⟨no, w0, Γ⟩ := ⟨_, rfl⟩
  refine WC.here (C := CC F Γ []) ?_ (hF ▸ Cur.start0 hs)
  refine WC.rs ?_
  refine va rfl rfl rfl (q_assign (v := .bool false) rfl (by kernel_rfl)) ?_
  refine WR.nil ?_
  change WC _ _ _ _ _ _
  refine WC.rs ?_
  obtain ⟨z1, hz2, h⟩ := bnd h
  refine vc rfl rfl rfl (q_call (call_run Try.call8 rfl rfl (by kernel_rfl)) (fun w hw => t_firthlaw23_dot (Γ := Gh.all w) 1 (show I64 1 by decide) 1 (show I64 1 by decide) (Sat.all w) hz2)) ?_
  refine va rfl rfl rfl (q_build' (v := .agg #[.bool false, .int .i64 1, .string (⟨#[107]⟩ : ByteArray), .int .i64 z1.s, .int .i64 z1.n, .bool true, .slice none 0 0, .slice none 0 0]) rfl (bargs4 rfl rfl rfl rfl) (fun w => by kernel_rfl)) ?_
  obtain ⟨z3, hz4, h⟩ := bnd h
  refine vc rfl rfl rfl (q_call (call_run Try.call8 rfl rfl (by kernel_rfl)) (fun w hw => t_firthlaw23_dot (Γ := Gh.all w) 1 (show I64 1 by decide) 2 (show I64 2 by decide) (Sat.all w) hz4)) ?_
  refine va rfl rfl rfl (q_build' (v := .agg #[.bool false, .int .i64 1, .string (⟨#[107]⟩ : ByteArray), .int .i64 z3.s, .int .i64 z3.n, .bool true, .slice none 0 0, .slice none 0 0]) rfl (bargs4 rfl rfl rfl rfl) (fun w => by kernel_rfl)) ?_
  obtain ⟨z5, hz6, h⟩ := bnd h
  refine vc rfl rfl rfl (q_call (call_run Try.call8 rfl rfl (by kernel_rfl)) (fun w hw => t_firthlaw23_dot (Γ := Gh.all w) 1 (show I64 1 by decide) 2 (show I64 2 by decide) (Sat.all w) hz6)) ?_
  refine e_buildSlice (cs := #[.int .i64 z5.s, .int .i64 z5.n]) (e := 27) rfl rfl rfl rfl (fun w => by kernel_rfl) ?_
  intro g7
  refine e_buildSlice (cs := #[.int .i64 2, .int .i64 0]) (e := 2) rfl rfl rfl rfl (fun w => by kernel_rfl) ?_
  intro g8
  refine va rfl rfl rfl (q_build' (v := .agg #[.bool true, .int .i64 3, .string (⟨#[107]⟩ : ByteArray), .int .i64 0, .int .i64 0, .bool true, .slice (some ⟨g7, 0, none⟩) 1 1, .slice (some ⟨g8, 0, none⟩) 2 2]) rfl (bargs6 rfl rfl rfl rfl rfl rfl) (fun w => by kernel_rfl)) ?_
  obtain ⟨z9, hz10, h⟩ := bnd h
  refine vc rfl rfl rfl (q_call (call_run Try.call8 rfl rfl (by kernel_rfl)) (fun w hw => t_firthlaw23_dot (Γ := Gh.all w) 2 (show I64 2 by decide) 1 (show I64 1 by decide) (Sat.all w) hz10)) ?_
  refine va rfl rfl rfl (q_build' (v := .agg #[.bool false, .int .i64 3, .string (⟨#[107]⟩ : ByteArray), .int .i64 z9.s, .int .i64 z9.n, .bool true, .slice none 0 0, .slice none 0 0]) rfl (bargs4 rfl rfl rfl rfl) (fun w => by kernel_rfl)) ?_
  obtain ⟨hk11, h⟩ := chk_some h
  obtain ⟨hk12, h⟩ := chk_some h
  have ho13 : Own dotT Γ 27 [(g7, .cells #[.int .i64 z5.s, .int .i64 z5.n] 27 (0, 0))] (some ⟨g7, 0, none⟩) 1 [z5] := Own.of_blockL (T := dotT) (ys := [z5]) [[.int .i64 z5.s, .int .i64 z5.n]] rfl (show 1 ≤ lim by decide) (show Ty.rd dotT Γ [.int .i64 z5.s, .int .i64 z5.n] z5 ∧ True from ⟨⟨rfl, ⟨(i64b_of hk11), (i64b_of hk12)⟩⟩, trivial⟩)
  have hc18 := ho13.capz
  intro w hw; obtain ⟨Γ14, hw, hl15, hr16⟩ := hw.seal (i := 1) rfl; have hs17 := ho13.sl hl15 hr16
  refine WR.here (C := CC F Γ14 [[(g8, .cells #[.int .i64 2, .int .i64 0] 2 (0, 0))], []]) ?_ hw
  clear hw
  have ho19 : Own intT Γ14 2 [(g8, .cells #[.int .i64 2, .int .i64 0] 2 (0, 0))] (some ⟨g8, 0, none⟩) 2 [2, 0] := Own.of_blockL (T := intT) (ys := [2, 0]) [[.int .i64 2], [.int .i64 0]] rfl (show 2 ≤ lim by decide) (show Ty.rd intT Γ14 [.int .i64 2] 2 ∧ Ty.rd intT Γ14 [.int .i64 0] 0 ∧ True from ⟨⟨rfl, (show I64 2 by decide)⟩, ⟨rfl, (show I64 0 by decide)⟩, trivial⟩)
  have hc24 := ho19.capz
  intro w hw; obtain ⟨Γ20, hw, hl21, hr22⟩ := hw.seal (i := 0) rfl; have hs23 := ho19.sl hl21 hr22
  refine WR.here (C := CC F Γ20 [[], []]) ?_ hw
  clear hw
  refine e_buildSlice (cs := #[.bool false, .int .i64 1, .string (⟨#[107]⟩ : ByteArray), .int .i64 z1.s, .int .i64 z1.n, .bool true, .slice none 0 0, .slice none 0 0, .bool false, .int .i64 1, .string (⟨#[107]⟩ : ByteArray), .int .i64 z3.s, .int .i64 z3.n, .bool true, .slice none 0 0, .slice none 0 0, .bool true, .int .i64 3, .string (⟨#[107]⟩ : ByteArray), .int .i64 0, .int .i64 0, .bool true, .slice (some ⟨g7, 0, none⟩) [z5].length 1, .slice (some ⟨g8, 0, none⟩) [2, 0].length 2, .bool false, .int .i64 3, .string (⟨#[107]⟩ : ByteArray), .int .i64 z9.s, .int .i64 z9.n, .bool true, .slice none 0 0, .slice none 0 0]) (e := 32) rfl rfl rfl rfl (fun w => by kernel_rfl) ?_
  intro g25
  refine va rfl rfl rfl (q_assign (v := .slice (some ⟨g25, 0, none⟩) 4 4) rfl (by kernel_rfl)) ?_
  refine WR.nil ?_
  change WC _ _ _ _ _ _
  refine WC.rs ?_
  refine va rfl rfl rfl (q_move (v := .slice (some ⟨g25, 0, none⟩) 4 4) rfl (by kernel_rfl)) ?_
  obtain ⟨hk26, h⟩ := chk_some h
  obtain ⟨hk27, h⟩ := chk_some h
  obtain ⟨hk28, h⟩ := chk_some h
  obtain ⟨hk29, h⟩ := chk_some h
  obtain ⟨hk30, h⟩ := chk_some h
  obtain ⟨hk31, h⟩ := chk_some h
  have ho32 : Own djudge_ActT Γ20 32 [(g25, .cells #[.bool false, .int .i64 1, .string (⟨#[107]⟩ : ByteArray), .int .i64 z1.s, .int .i64 z1.n, .bool true, .slice none 0 0, .slice none 0 0, .bool false, .int .i64 1, .string (⟨#[107]⟩ : ByteArray), .int .i64 z3.s, .int .i64 z3.n, .bool true, .slice none 0 0, .slice none 0 0, .bool true, .int .i64 3, .string (⟨#[107]⟩ : ByteArray), .int .i64 0, .int .i64 0, .bool true, .slice (some ⟨g7, 0, none⟩) [z5].length 1, .slice (some ⟨g8, 0, none⟩) [2, 0].length 2, .bool false, .int .i64 3, .string (⟨#[107]⟩ : ByteArray), .int .i64 z9.s, .int .i64 z9.n, .bool true, .slice none 0 0, .slice none 0 0] 32 (0, 0))] (some ⟨g25, 0, none⟩) 4 [(⟨false, 1, (⟨#[107]⟩ : ByteArray), (⟨z1.s, z1.n⟩ : Dot), true, [], []⟩ : Djudge_Act), (⟨false, 1, (⟨#[107]⟩ : ByteArray), (⟨z3.s, z3.n⟩ : Dot), true, [], []⟩ : Djudge_Act), (⟨true, 3, (⟨#[107]⟩ : ByteArray), (⟨0, 0⟩ : Dot), true, [z5], [2, 0]⟩ : Djudge_Act), (⟨false, 3, (⟨#[107]⟩ : ByteArray), (⟨z9.s, z9.n⟩ : Dot), true, [], []⟩ : Djudge_Act)] := Own.of_blockL (T := djudge_ActT) (ys := [(⟨false, 1, (⟨#[107]⟩ : ByteArray), (⟨z1.s, z1.n⟩ : Dot), true, [], []⟩ : Djudge_Act), (⟨false, 1, (⟨#[107]⟩ : ByteArray), (⟨z3.s, z3.n⟩ : Dot), true, [], []⟩ : Djudge_Act), (⟨true, 3, (⟨#[107]⟩ : ByteArray), (⟨0, 0⟩ : Dot), true, [z5], [2, 0]⟩ : Djudge_Act), (⟨false, 3, (⟨#[107]⟩ : ByteArray), (⟨z9.s, z9.n⟩ : Dot), true, [], []⟩ : Djudge_Act)]) [[.bool false, .int .i64 1, .string (⟨#[107]⟩ : ByteArray), .int .i64 z1.s, .int .i64 z1.n, .bool true, .slice none 0 0, .slice none 0 0], [.bool false, .int .i64 1, .string (⟨#[107]⟩ : ByteArray), .int .i64 z3.s, .int .i64 z3.n, .bool true, .slice none 0 0, .slice none 0 0], [.bool true, .int .i64 3, .string (⟨#[107]⟩ : ByteArray), .int .i64 0, .int .i64 0, .bool true, .slice (some ⟨g7, 0, none⟩) [z5].length 1, .slice (some ⟨g8, 0, none⟩) [2, 0].length 2], [.bool false, .int .i64 3, .string (⟨#[107]⟩ : ByteArray), .int .i64 z9.s, .int .i64 z9.n, .bool true, .slice none 0 0, .slice none 0 0]] rfl (show 4 ≤ lim by decide) (show Ty.rd djudge_ActT Γ20 [.bool false, .int .i64 1, .string (⟨#[107]⟩ : ByteArray), .int .i64 z1.s, .int .i64 z1.n, .bool true, .slice none 0 0, .slice none 0 0] (⟨false, 1, (⟨#[107]⟩ : ByteArray), (⟨z1.s, z1.n⟩ : Dot), true, [], []⟩ : Djudge_Act) ∧ Ty.rd djudge_ActT Γ20 [.bool false, .int .i64 1, .string (⟨#[107]⟩ : ByteArray), .int .i64 z3.s, .int .i64 z3.n, .bool true, .slice none 0 0, .slice none 0 0] (⟨false, 1, (⟨#[107]⟩ : ByteArray), (⟨z3.s, z3.n⟩ : Dot), true, [], []⟩ : Djudge_Act) ∧ Ty.rd djudge_ActT Γ20 [.bool true, .int .i64 3, .string (⟨#[107]⟩ : ByteArray), .int .i64 0, .int .i64 0, .bool true, .slice (some ⟨g7, 0, none⟩) [z5].length 1, .slice (some ⟨g8, 0, none⟩) [2, 0].length 2] (⟨true, 3, (⟨#[107]⟩ : ByteArray), (⟨0, 0⟩ : Dot), true, [z5], [2, 0]⟩ : Djudge_Act) ∧ Ty.rd djudge_ActT Γ20 [.bool false, .int .i64 3, .string (⟨#[107]⟩ : ByteArray), .int .i64 z9.s, .int .i64 z9.n, .bool true, .slice none 0 0, .slice none 0 0] (⟨false, 3, (⟨#[107]⟩ : ByteArray), (⟨z9.s, z9.n⟩ : Dot), true, [], []⟩ : Djudge_Act) ∧ True from ⟨⟨none, 0, none, 0, rfl, ⟨(show I64 1 by decide), (show (⟨#[107]⟩ : ByteArray).size ≤ lim by decide), (i64b_of hk26), (i64b_of hk27), ⟨Nat.zero_le _, Sl.nil _ _ _⟩, ⟨Nat.zero_le _, Sl.nil _ _ _⟩⟩⟩, ⟨none, 0, none, 0, rfl, ⟨(show I64 1 by decide), (show (⟨#[107]⟩ : ByteArray).size ≤ lim by decide), (i64b_of hk28), (i64b_of hk29), ⟨Nat.zero_le _, Sl.nil _ _ _⟩, ⟨Nat.zero_le _, Sl.nil _ _ _⟩⟩⟩, ⟨(some ⟨g7, 0, none⟩), 1, (some ⟨g8, 0, none⟩), 2, rfl, ⟨(show I64 3 by decide), (show (⟨#[107]⟩ : ByteArray).size ≤ lim by decide), (show I64 0 by decide), (show I64 0 by decide), ⟨hc18, (hs17.mono hl21)⟩, ⟨hc24, hs23⟩⟩⟩, ⟨none, 0, none, 0, rfl, ⟨(show I64 3 by decide), (show (⟨#[107]⟩ : ByteArray).size ≤ lim by decide), (i64b_of hk30), (i64b_of hk31), ⟨Nat.zero_le _, Sl.nil _ _ _⟩, ⟨Nat.zero_le _, Sl.nil _ _ _⟩⟩⟩, trivial⟩)
  obtain ⟨z33, hz34, h⟩ := bnd h
  refine e_callB (is := []) (Lent.nil F) rfl rfl (call_run Try.call14 rfl rfl (by kernel_rfl)) rfl (fun w Θ hp hpB hle hleB hR => t_judge_Judge_l0 (own_lent ho32 hR (List.mem_of_getElem? (i := 0) rfl) hle) ho32.capz hp hpB hz34) ?_
  rintro Γ35 U37 v38 hl36 ⟨rfl, rfl, hr39, hr40, _⟩
  change WR _ _ _ (CC F Γ35 [[(g25, .cells #[.bool false, .int .i64 1, .string (⟨#[107]⟩ : ByteArray), .int .i64 z1.s, .int .i64 z1.n, .bool true, .slice none 0 0, .slice none 0 0, .bool false, .int .i64 1, .string (⟨#[107]⟩ : ByteArray), .int .i64 z3.s, .int .i64 z3.n, .bool true, .slice none 0 0, .slice none 0 0, .bool true, .int .i64 3, .string (⟨#[107]⟩ : ByteArray), .int .i64 0, .int .i64 0, .bool true, .slice (some ⟨g7, 0, none⟩) [z5].length 1, .slice (some ⟨g8, 0, none⟩) [2, 0].length 2, .bool false, .int .i64 3, .string (⟨#[107]⟩ : ByteArray), .int .i64 z9.s, .int .i64 z9.n, .bool true, .slice none 0 0, .slice none 0 0] 32 (0, 0))], [], []]) _ _ (upd _ 20 (.tuple #[.int .i64 z33.1, .int .i64 z33.2]))
  refine va rfl rfl rfl (q_move (v := .tuple #[.int .i64 z33.1, .int .i64 z33.2]) rfl (by kernel_rfl)) ?_
  refine va rfl rfl rfl (q_extract (v := .int .i64 z33.1) rfl rfl rfl) ?_
  refine va rfl rfl rfl (q_extract (v := .int .i64 z33.2) rfl rfl rfl) ?_
  refine va rfl rfl rfl (q_assign (v := .int .i64 z33.1) rfl (by kernel_rfl)) ?_
  refine va rfl rfl rfl (q_assign (v := .int .i64 z33.2) rfl (by kernel_rfl)) ?_
  refine WR.nil ?_
  change WC _ _ _ _ _ _
  refine WC.rs ?_
  refine va rfl rfl rfl (q_move (v := .slice (some ⟨g25, 0, none⟩) 4 4) rfl (by kernel_rfl)) ?_
  obtain ⟨z41, hz42, h⟩ := bnd h
  refine vc rfl rfl rfl (q_call (call_run Try.call8 rfl rfl (by kernel_rfl)) (fun w hw => t_firthlaw23_dot (Γ := Gh.all w) 2 (show I64 2 by decide) 1 (show I64 1 by decide) (Sat.all w) hz42)) ?_
  obtain ⟨hk43, h⟩ := chk_some h
  obtain ⟨hk44, h⟩ := chk_some h
  obtain ⟨z45, hz46, h⟩ := bnd h
  refine e_callB (is := []) (Lent.nil F) rfl rfl (call_run Try.call9 rfl rfl (by kernel_rfl)) rfl (fun w Θ hp hpB hle hleB hR => t_judge_Behind_l0 (own_lent (ho32.mono hl36) hR (List.mem_of_getElem? (i := 0) rfl) hle) (ho32.mono hl36).capz z41 (Dot.fits_mono ⟨(i64b_of hk43), (i64b_of hk44)⟩ hle) hp hpB hz46) ?_
  rintro Γ47 U49 v50 hl48 ⟨A51, c52, row53, rfl, rfl, hr54, _⟩
  change WR _ _ _ (CC F Γ47 [row53, [(g25, .cells #[.bool false, .int .i64 1, .string (⟨#[107]⟩ : ByteArray), .int .i64 z1.s, .int .i64 z1.n, .bool true, .slice none 0 0, .slice none 0 0, .bool false, .int .i64 1, .string (⟨#[107]⟩ : ByteArray), .int .i64 z3.s, .int .i64 z3.n, .bool true, .slice none 0 0, .slice none 0 0, .bool true, .int .i64 3, .string (⟨#[107]⟩ : ByteArray), .int .i64 0, .int .i64 0, .bool true, .slice (some ⟨g7, 0, none⟩) [z5].length 1, .slice (some ⟨g8, 0, none⟩) [2, 0].length 2, .bool false, .int .i64 3, .string (⟨#[107]⟩ : ByteArray), .int .i64 z9.s, .int .i64 z9.n, .bool true, .slice none 0 0, .slice none 0 0] 32 (0, 0))], [], []]) _ _ (upd _ 25 (.slice A51 z45.length c52))
  refine va rfl rfl rfl (q_assign (v := .slice A51 z45.length c52) rfl (by kernel_rfl)) ?_
  refine WR.nil ?_
  change WC _ _ _ _ _ _
  refine WC.rs ?_
  refine va rfl rfl rfl (q_move (v := .slice (some ⟨g25, 0, none⟩) 4 4) rfl (by kernel_rfl)) ?_
  obtain ⟨z55, hz56, h⟩ := bnd h
  refine vc rfl rfl rfl (q_call (call_run Try.call8 rfl rfl (by kernel_rfl)) (fun w hw => t_firthlaw23_dot (Γ := Gh.all w) 1 (show I64 1 by decide) 1 (show I64 1 by decide) (Sat.all w) hz56)) ?_
  refine e_buildSlice (cs := #[.int .i64 z55.s, .int .i64 z55.n]) (e := 27) rfl rfl rfl rfl (fun w => by kernel_rfl) ?_
  intro g57
  refine va rfl rfl rfl (q_ixn (i := 2) Try.underlying24 Try.sizeOf32 rfl rfl rfl (by decide) ((ho32.mono (hl36.trans hl48)).some_ (show 2 < List.length [(⟨false, 1, (⟨#[107]⟩ : ByteArray), (⟨z1.s, z1.n⟩ : Dot), true, [], []⟩ : Djudge_Act), (⟨false, 1, (⟨#[107]⟩ : ByteArray), (⟨z3.s, z3.n⟩ : Dot), true, [], []⟩ : Djudge_Act), (⟨true, 3, (⟨#[107]⟩ : ByteArray), (⟨0, 0⟩ : Dot), true, [z5], [2, 0]⟩ : Djudge_Act), (⟨false, 3, (⟨#[107]⟩ : ByteArray), (⟨z9.s, z9.n⟩ : Dot), true, [], []⟩ : Djudge_Act)] from Nat.le_of_ble_eq_true rfl))) ?_
  refine va rfl rfl rfl (q_field_addr (2 * 8 + 6) fld_32_5 rfl rfl ((ho32.mono (hl36.trans hl48)).some_ (show 2 < List.length [(⟨false, 1, (⟨#[107]⟩ : ByteArray), (⟨z1.s, z1.n⟩ : Dot), true, [], []⟩ : Djudge_Act), (⟨false, 1, (⟨#[107]⟩ : ByteArray), (⟨z3.s, z3.n⟩ : Dot), true, [], []⟩ : Djudge_Act), (⟨true, 3, (⟨#[107]⟩ : ByteArray), (⟨0, 0⟩ : Dot), true, [z5], [2, 0]⟩ : Djudge_Act), (⟨false, 3, (⟨#[107]⟩ : ByteArray), (⟨z9.s, z9.n⟩ : Dot), true, [], []⟩ : Djudge_Act)] from Nat.le_of_ble_eq_true rfl)) rfl) ?_
  obtain ⟨hk58, h⟩ := chk_some h
  obtain ⟨hk59, h⟩ := chk_some h
  have ho60 : Own dotT Γ47 27 [(g57, .cells #[.int .i64 z55.s, .int .i64 z55.n] 27 (0, 0))] (some ⟨g57, 0, none⟩) 1 [z55] := Own.of_blockL (T := dotT) (ys := [z55]) [[.int .i64 z55.s, .int .i64 z55.n]] rfl (show 1 ≤ lim by decide) (show Ty.rd dotT Γ47 [.int .i64 z55.s, .int .i64 z55.n] z55 ∧ True from ⟨⟨rfl, ⟨(i64b_of hk58), (i64b_of hk59)⟩⟩, trivial⟩)
  have hc65 := ho60.capz
  intro w hw; obtain ⟨Γ61, hw, hl62, hr63⟩ := hw.seal (i := 0) rfl; have hs64 := ho60.sl hl62 hr63
  refine WR.here (C := CC F Γ61 [[], row53, [(g25, .cells #[.bool false, .int .i64 1, .string (⟨#[107]⟩ : ByteArray), .int .i64 z1.s, .int .i64 z1.n, .bool true, .slice none 0 0, .slice none 0 0, .bool false, .int .i64 1, .string (⟨#[107]⟩ : ByteArray), .int .i64 z3.s, .int .i64 z3.n, .bool true, .slice none 0 0, .slice none 0 0, .bool true, .int .i64 3, .string (⟨#[107]⟩ : ByteArray), .int .i64 0, .int .i64 0, .bool true, .slice (some ⟨g7, 0, none⟩) [z5].length 1, .slice (some ⟨g8, 0, none⟩) [2, 0].length 2, .bool false, .int .i64 3, .string (⟨#[107]⟩ : ByteArray), .int .i64 z9.s, .int .i64 z9.n, .bool true, .slice none 0 0, .slice none 0 0] 32 (0, 0))], [], []]) ?_ hw
  clear hw
  obtain ⟨A66, c67, A68, c69, hx70⟩ := (ho32.mono ((hl36.trans hl48).trans hl62)).djudge_ActT_at 2
  refine e_store_part (T := djudge_ActT) (q := 2) (f := 6) (v := .slice (some ⟨g57, 0, none⟩) [z55].length 1) (vs := [.slice (some ⟨g57, 0, none⟩) [z55].length 1]) (cs := [.bool (gt [(⟨false, 1, (⟨#[107]⟩ : ByteArray), (⟨z1.s, z1.n⟩ : Dot), true, [], []⟩ : Djudge_Act), (⟨false, 1, (⟨#[107]⟩ : ByteArray), (⟨z3.s, z3.n⟩ : Dot), true, [], []⟩ : Djudge_Act), (⟨true, 3, (⟨#[107]⟩ : ByteArray), (⟨0, 0⟩ : Dot), true, [z5], [2, 0]⟩ : Djudge_Act), (⟨false, 3, (⟨#[107]⟩ : ByteArray), (⟨z9.s, z9.n⟩ : Dot), true, [], []⟩ : Djudge_Act)] 2).read, .int .i64 (gt [(⟨false, 1, (⟨#[107]⟩ : ByteArray), (⟨z1.s, z1.n⟩ : Dot), true, [], []⟩ : Djudge_Act), (⟨false, 1, (⟨#[107]⟩ : ByteArray), (⟨z3.s, z3.n⟩ : Dot), true, [], []⟩ : Djudge_Act), (⟨true, 3, (⟨#[107]⟩ : ByteArray), (⟨0, 0⟩ : Dot), true, [z5], [2, 0]⟩ : Djudge_Act), (⟨false, 3, (⟨#[107]⟩ : ByteArray), (⟨z9.s, z9.n⟩ : Dot), true, [], []⟩ : Djudge_Act)] 2).sess, .string (gt [(⟨false, 1, (⟨#[107]⟩ : ByteArray), (⟨z1.s, z1.n⟩ : Dot), true, [], []⟩ : Djudge_Act), (⟨false, 1, (⟨#[107]⟩ : ByteArray), (⟨z3.s, z3.n⟩ : Dot), true, [], []⟩ : Djudge_Act), (⟨true, 3, (⟨#[107]⟩ : ByteArray), (⟨0, 0⟩ : Dot), true, [z5], [2, 0]⟩ : Djudge_Act), (⟨false, 3, (⟨#[107]⟩ : ByteArray), (⟨z9.s, z9.n⟩ : Dot), true, [], []⟩ : Djudge_Act)] 2).key, .int .i64 (gt [(⟨false, 1, (⟨#[107]⟩ : ByteArray), (⟨z1.s, z1.n⟩ : Dot), true, [], []⟩ : Djudge_Act), (⟨false, 1, (⟨#[107]⟩ : ByteArray), (⟨z3.s, z3.n⟩ : Dot), true, [], []⟩ : Djudge_Act), (⟨true, 3, (⟨#[107]⟩ : ByteArray), (⟨0, 0⟩ : Dot), true, [z5], [2, 0]⟩ : Djudge_Act), (⟨false, 3, (⟨#[107]⟩ : ByteArray), (⟨z9.s, z9.n⟩ : Dot), true, [], []⟩ : Djudge_Act)] 2).dot.s, .int .i64 (gt [(⟨false, 1, (⟨#[107]⟩ : ByteArray), (⟨z1.s, z1.n⟩ : Dot), true, [], []⟩ : Djudge_Act), (⟨false, 1, (⟨#[107]⟩ : ByteArray), (⟨z3.s, z3.n⟩ : Dot), true, [], []⟩ : Djudge_Act), (⟨true, 3, (⟨#[107]⟩ : ByteArray), (⟨0, 0⟩ : Dot), true, [z5], [2, 0]⟩ : Djudge_Act), (⟨false, 3, (⟨#[107]⟩ : ByteArray), (⟨z9.s, z9.n⟩ : Dot), true, [], []⟩ : Djudge_Act)] 2).dot.n, .bool (gt [(⟨false, 1, (⟨#[107]⟩ : ByteArray), (⟨z1.s, z1.n⟩ : Dot), true, [], []⟩ : Djudge_Act), (⟨false, 1, (⟨#[107]⟩ : ByteArray), (⟨z3.s, z3.n⟩ : Dot), true, [], []⟩ : Djudge_Act), (⟨true, 3, (⟨#[107]⟩ : ByteArray), (⟨0, 0⟩ : Dot), true, [z5], [2, 0]⟩ : Djudge_Act), (⟨false, 3, (⟨#[107]⟩ : ByteArray), (⟨z9.s, z9.n⟩ : Dot), true, [], []⟩ : Djudge_Act)] 2).oK, .slice A66 ((gt [(⟨false, 1, (⟨#[107]⟩ : ByteArray), (⟨z1.s, z1.n⟩ : Dot), true, [], []⟩ : Djudge_Act), (⟨false, 1, (⟨#[107]⟩ : ByteArray), (⟨z3.s, z3.n⟩ : Dot), true, [], []⟩ : Djudge_Act), (⟨true, 3, (⟨#[107]⟩ : ByteArray), (⟨0, 0⟩ : Dot), true, [z5], [2, 0]⟩ : Djudge_Act), (⟨false, 3, (⟨#[107]⟩ : ByteArray), (⟨z9.s, z9.n⟩ : Dot), true, [], []⟩ : Djudge_Act)] 2).reads).length c67, .slice A68 ((gt [(⟨false, 1, (⟨#[107]⟩ : ByteArray), (⟨z1.s, z1.n⟩ : Dot), true, [], []⟩ : Djudge_Act), (⟨false, 1, (⟨#[107]⟩ : ByteArray), (⟨z3.s, z3.n⟩ : Dot), true, [], []⟩ : Djudge_Act), (⟨true, 3, (⟨#[107]⟩ : ByteArray), (⟨0, 0⟩ : Dot), true, [z5], [2, 0]⟩ : Djudge_Act), (⟨false, 3, (⟨#[107]⟩ : ByteArray), (⟨z9.s, z9.n⟩ : Dot), true, [], []⟩ : Djudge_Act)] 2).seen).length c69]) (new := [.bool (gt [(⟨false, 1, (⟨#[107]⟩ : ByteArray), (⟨z1.s, z1.n⟩ : Dot), true, [], []⟩ : Djudge_Act), (⟨false, 1, (⟨#[107]⟩ : ByteArray), (⟨z3.s, z3.n⟩ : Dot), true, [], []⟩ : Djudge_Act), (⟨true, 3, (⟨#[107]⟩ : ByteArray), (⟨0, 0⟩ : Dot), true, [z5], [2, 0]⟩ : Djudge_Act), (⟨false, 3, (⟨#[107]⟩ : ByteArray), (⟨z9.s, z9.n⟩ : Dot), true, [], []⟩ : Djudge_Act)] 2).read, .int .i64 (gt [(⟨false, 1, (⟨#[107]⟩ : ByteArray), (⟨z1.s, z1.n⟩ : Dot), true, [], []⟩ : Djudge_Act), (⟨false, 1, (⟨#[107]⟩ : ByteArray), (⟨z3.s, z3.n⟩ : Dot), true, [], []⟩ : Djudge_Act), (⟨true, 3, (⟨#[107]⟩ : ByteArray), (⟨0, 0⟩ : Dot), true, [z5], [2, 0]⟩ : Djudge_Act), (⟨false, 3, (⟨#[107]⟩ : ByteArray), (⟨z9.s, z9.n⟩ : Dot), true, [], []⟩ : Djudge_Act)] 2).sess, .string (gt [(⟨false, 1, (⟨#[107]⟩ : ByteArray), (⟨z1.s, z1.n⟩ : Dot), true, [], []⟩ : Djudge_Act), (⟨false, 1, (⟨#[107]⟩ : ByteArray), (⟨z3.s, z3.n⟩ : Dot), true, [], []⟩ : Djudge_Act), (⟨true, 3, (⟨#[107]⟩ : ByteArray), (⟨0, 0⟩ : Dot), true, [z5], [2, 0]⟩ : Djudge_Act), (⟨false, 3, (⟨#[107]⟩ : ByteArray), (⟨z9.s, z9.n⟩ : Dot), true, [], []⟩ : Djudge_Act)] 2).key, .int .i64 (gt [(⟨false, 1, (⟨#[107]⟩ : ByteArray), (⟨z1.s, z1.n⟩ : Dot), true, [], []⟩ : Djudge_Act), (⟨false, 1, (⟨#[107]⟩ : ByteArray), (⟨z3.s, z3.n⟩ : Dot), true, [], []⟩ : Djudge_Act), (⟨true, 3, (⟨#[107]⟩ : ByteArray), (⟨0, 0⟩ : Dot), true, [z5], [2, 0]⟩ : Djudge_Act), (⟨false, 3, (⟨#[107]⟩ : ByteArray), (⟨z9.s, z9.n⟩ : Dot), true, [], []⟩ : Djudge_Act)] 2).dot.s, .int .i64 (gt [(⟨false, 1, (⟨#[107]⟩ : ByteArray), (⟨z1.s, z1.n⟩ : Dot), true, [], []⟩ : Djudge_Act), (⟨false, 1, (⟨#[107]⟩ : ByteArray), (⟨z3.s, z3.n⟩ : Dot), true, [], []⟩ : Djudge_Act), (⟨true, 3, (⟨#[107]⟩ : ByteArray), (⟨0, 0⟩ : Dot), true, [z5], [2, 0]⟩ : Djudge_Act), (⟨false, 3, (⟨#[107]⟩ : ByteArray), (⟨z9.s, z9.n⟩ : Dot), true, [], []⟩ : Djudge_Act)] 2).dot.n, .bool (gt [(⟨false, 1, (⟨#[107]⟩ : ByteArray), (⟨z1.s, z1.n⟩ : Dot), true, [], []⟩ : Djudge_Act), (⟨false, 1, (⟨#[107]⟩ : ByteArray), (⟨z3.s, z3.n⟩ : Dot), true, [], []⟩ : Djudge_Act), (⟨true, 3, (⟨#[107]⟩ : ByteArray), (⟨0, 0⟩ : Dot), true, [z5], [2, 0]⟩ : Djudge_Act), (⟨false, 3, (⟨#[107]⟩ : ByteArray), (⟨z9.s, z9.n⟩ : Dot), true, [], []⟩ : Djudge_Act)] 2).oK, .slice (some ⟨g57, 0, none⟩) [z55].length 1, .slice A68 ((gt [(⟨false, 1, (⟨#[107]⟩ : ByteArray), (⟨z1.s, z1.n⟩ : Dot), true, [], []⟩ : Djudge_Act), (⟨false, 1, (⟨#[107]⟩ : ByteArray), (⟨z3.s, z3.n⟩ : Dot), true, [], []⟩ : Djudge_Act), (⟨true, 3, (⟨#[107]⟩ : ByteArray), (⟨0, 0⟩ : Dot), true, [z5], [2, 0]⟩ : Djudge_Act), (⟨false, 3, (⟨#[107]⟩ : ByteArray), (⟨z9.s, z9.n⟩ : Dot), true, [], []⟩ : Djudge_Act)] 2).seen).length c69]) (y := (⟨(gt [(⟨false, 1, (⟨#[107]⟩ : ByteArray), (⟨z1.s, z1.n⟩ : Dot), true, [], []⟩ : Djudge_Act), (⟨false, 1, (⟨#[107]⟩ : ByteArray), (⟨z3.s, z3.n⟩ : Dot), true, [], []⟩ : Djudge_Act), (⟨true, 3, (⟨#[107]⟩ : ByteArray), (⟨0, 0⟩ : Dot), true, [z5], [2, 0]⟩ : Djudge_Act), (⟨false, 3, (⟨#[107]⟩ : ByteArray), (⟨z9.s, z9.n⟩ : Dot), true, [], []⟩ : Djudge_Act)] 2).read, (gt [(⟨false, 1, (⟨#[107]⟩ : ByteArray), (⟨z1.s, z1.n⟩ : Dot), true, [], []⟩ : Djudge_Act), (⟨false, 1, (⟨#[107]⟩ : ByteArray), (⟨z3.s, z3.n⟩ : Dot), true, [], []⟩ : Djudge_Act), (⟨true, 3, (⟨#[107]⟩ : ByteArray), (⟨0, 0⟩ : Dot), true, [z5], [2, 0]⟩ : Djudge_Act), (⟨false, 3, (⟨#[107]⟩ : ByteArray), (⟨z9.s, z9.n⟩ : Dot), true, [], []⟩ : Djudge_Act)] 2).sess, (gt [(⟨false, 1, (⟨#[107]⟩ : ByteArray), (⟨z1.s, z1.n⟩ : Dot), true, [], []⟩ : Djudge_Act), (⟨false, 1, (⟨#[107]⟩ : ByteArray), (⟨z3.s, z3.n⟩ : Dot), true, [], []⟩ : Djudge_Act), (⟨true, 3, (⟨#[107]⟩ : ByteArray), (⟨0, 0⟩ : Dot), true, [z5], [2, 0]⟩ : Djudge_Act), (⟨false, 3, (⟨#[107]⟩ : ByteArray), (⟨z9.s, z9.n⟩ : Dot), true, [], []⟩ : Djudge_Act)] 2).key, (⟨(gt [(⟨false, 1, (⟨#[107]⟩ : ByteArray), (⟨z1.s, z1.n⟩ : Dot), true, [], []⟩ : Djudge_Act), (⟨false, 1, (⟨#[107]⟩ : ByteArray), (⟨z3.s, z3.n⟩ : Dot), true, [], []⟩ : Djudge_Act), (⟨true, 3, (⟨#[107]⟩ : ByteArray), (⟨0, 0⟩ : Dot), true, [z5], [2, 0]⟩ : Djudge_Act), (⟨false, 3, (⟨#[107]⟩ : ByteArray), (⟨z9.s, z9.n⟩ : Dot), true, [], []⟩ : Djudge_Act)] 2).dot.s, (gt [(⟨false, 1, (⟨#[107]⟩ : ByteArray), (⟨z1.s, z1.n⟩ : Dot), true, [], []⟩ : Djudge_Act), (⟨false, 1, (⟨#[107]⟩ : ByteArray), (⟨z3.s, z3.n⟩ : Dot), true, [], []⟩ : Djudge_Act), (⟨true, 3, (⟨#[107]⟩ : ByteArray), (⟨0, 0⟩ : Dot), true, [z5], [2, 0]⟩ : Djudge_Act), (⟨false, 3, (⟨#[107]⟩ : ByteArray), (⟨z9.s, z9.n⟩ : Dot), true, [], []⟩ : Djudge_Act)] 2).dot.n⟩ : Dot), (gt [(⟨false, 1, (⟨#[107]⟩ : ByteArray), (⟨z1.s, z1.n⟩ : Dot), true, [], []⟩ : Djudge_Act), (⟨false, 1, (⟨#[107]⟩ : ByteArray), (⟨z3.s, z3.n⟩ : Dot), true, [], []⟩ : Djudge_Act), (⟨true, 3, (⟨#[107]⟩ : ByteArray), (⟨0, 0⟩ : Dot), true, [z5], [2, 0]⟩ : Djudge_Act), (⟨false, 3, (⟨#[107]⟩ : ByteArray), (⟨z9.s, z9.n⟩ : Dot), true, [], []⟩ : Djudge_Act)] 2).oK, [z55], (gt [(⟨false, 1, (⟨#[107]⟩ : ByteArray), (⟨z1.s, z1.n⟩ : Dot), true, [], []⟩ : Djudge_Act), (⟨false, 1, (⟨#[107]⟩ : ByteArray), (⟨z3.s, z3.n⟩ : Dot), true, [], []⟩ : Djudge_Act), (⟨true, 3, (⟨#[107]⟩ : ByteArray), (⟨0, 0⟩ : Dot), true, [z5], [2, 0]⟩ : Djudge_Act), (⟨false, 3, (⟨#[107]⟩ : ByteArray), (⟨z9.s, z9.n⟩ : Dot), true, [], []⟩ : Djudge_Act)] 2).seen⟩ : Djudge_Act)) rfl rfl rfl rfl (by kernel_rfl) Try.sizeOf29 rfl (hx70 (show 2 < List.length [(⟨false, 1, (⟨#[107]⟩ : ByteArray), (⟨z1.s, z1.n⟩ : Dot), true, [], []⟩ : Djudge_Act), (⟨false, 1, (⟨#[107]⟩ : ByteArray), (⟨z3.s, z3.n⟩ : Dot), true, [], []⟩ : Djudge_Act), (⟨true, 3, (⟨#[107]⟩ : ByteArray), (⟨0, 0⟩ : Dot), true, [z5], [2, 0]⟩ : Djudge_Act), (⟨false, 3, (⟨#[107]⟩ : ByteArray), (⟨z9.s, z9.n⟩ : Dot), true, [], []⟩ : Djudge_Act)] from Nat.le_of_ble_eq_true rfl)).2 rfl (Nat.le_of_ble_eq_true rfl) rfl (by exact ⟨(some ⟨g57, 0, none⟩), 1, A68, c69, rfl, ⟨(hx70 (show 2 < List.length [(⟨false, 1, (⟨#[107]⟩ : ByteArray), (⟨z1.s, z1.n⟩ : Dot), true, [], []⟩ : Djudge_Act), (⟨false, 1, (⟨#[107]⟩ : ByteArray), (⟨z3.s, z3.n⟩ : Dot), true, [], []⟩ : Djudge_Act), (⟨true, 3, (⟨#[107]⟩ : ByteArray), (⟨0, 0⟩ : Dot), true, [z5], [2, 0]⟩ : Djudge_Act), (⟨false, 3, (⟨#[107]⟩ : ByteArray), (⟨z9.s, z9.n⟩ : Dot), true, [], []⟩ : Djudge_Act)] from Nat.le_of_ble_eq_true rfl)).1.1, (hx70 (show 2 < List.length [(⟨false, 1, (⟨#[107]⟩ : ByteArray), (⟨z1.s, z1.n⟩ : Dot), true, [], []⟩ : Djudge_Act), (⟨false, 1, (⟨#[107]⟩ : ByteArray), (⟨z3.s, z3.n⟩ : Dot), true, [], []⟩ : Djudge_Act), (⟨true, 3, (⟨#[107]⟩ : ByteArray), (⟨0, 0⟩ : Dot), true, [z5], [2, 0]⟩ : Djudge_Act), (⟨false, 3, (⟨#[107]⟩ : ByteArray), (⟨z9.s, z9.n⟩ : Dot), true, [], []⟩ : Djudge_Act)] from Nat.le_of_ble_eq_true rfl)).1.2.1, (hx70 (show 2 < List.length [(⟨false, 1, (⟨#[107]⟩ : ByteArray), (⟨z1.s, z1.n⟩ : Dot), true, [], []⟩ : Djudge_Act), (⟨false, 1, (⟨#[107]⟩ : ByteArray), (⟨z3.s, z3.n⟩ : Dot), true, [], []⟩ : Djudge_Act), (⟨true, 3, (⟨#[107]⟩ : ByteArray), (⟨0, 0⟩ : Dot), true, [z5], [2, 0]⟩ : Djudge_Act), (⟨false, 3, (⟨#[107]⟩ : ByteArray), (⟨z9.s, z9.n⟩ : Dot), true, [], []⟩ : Djudge_Act)] from Nat.le_of_ble_eq_true rfl)).1.2.2.1, (hx70 (show 2 < List.length [(⟨false, 1, (⟨#[107]⟩ : ByteArray), (⟨z1.s, z1.n⟩ : Dot), true, [], []⟩ : Djudge_Act), (⟨false, 1, (⟨#[107]⟩ : ByteArray), (⟨z3.s, z3.n⟩ : Dot), true, [], []⟩ : Djudge_Act), (⟨true, 3, (⟨#[107]⟩ : ByteArray), (⟨0, 0⟩ : Dot), true, [z5], [2, 0]⟩ : Djudge_Act), (⟨false, 3, (⟨#[107]⟩ : ByteArray), (⟨z9.s, z9.n⟩ : Dot), true, [], []⟩ : Djudge_Act)] from Nat.le_of_ble_eq_true rfl)).1.2.2.2.1, ⟨hc65, hs64⟩, ⟨(hx70 (show 2 < List.length [(⟨false, 1, (⟨#[107]⟩ : ByteArray), (⟨z1.s, z1.n⟩ : Dot), true, [], []⟩ : Djudge_Act), (⟨false, 1, (⟨#[107]⟩ : ByteArray), (⟨z3.s, z3.n⟩ : Dot), true, [], []⟩ : Djudge_Act), (⟨true, 3, (⟨#[107]⟩ : ByteArray), (⟨0, 0⟩ : Dot), true, [z5], [2, 0]⟩ : Djudge_Act), (⟨false, 3, (⟨#[107]⟩ : ByteArray), (⟨z9.s, z9.n⟩ : Dot), true, [], []⟩ : Djudge_Act)] from Nat.le_of_ble_eq_true rfl)).1.2.2.2.2.2.1, (hx70 (show 2 < List.length [(⟨false, 1, (⟨#[107]⟩ : ByteArray), (⟨z1.s, z1.n⟩ : Dot), true, [], []⟩ : Djudge_Act), (⟨false, 1, (⟨#[107]⟩ : ByteArray), (⟨z3.s, z3.n⟩ : Dot), true, [], []⟩ : Djudge_Act), (⟨true, 3, (⟨#[107]⟩ : ByteArray), (⟨0, 0⟩ : Dot), true, [z5], [2, 0]⟩ : Djudge_Act), (⟨false, 3, (⟨#[107]⟩ : ByteArray), (⟨z9.s, z9.n⟩ : Dot), true, [], []⟩ : Djudge_Act)] from Nat.le_of_ble_eq_true rfl)).1.2.2.2.2.2.2⟩⟩⟩) (i := 2) rfl (ho32.mono ((hl36.trans hl48).trans hl62)) (show 2 < List.length [(⟨false, 1, (⟨#[107]⟩ : ByteArray), (⟨z1.s, z1.n⟩ : Dot), true, [], []⟩ : Djudge_Act), (⟨false, 1, (⟨#[107]⟩ : ByteArray), (⟨z3.s, z3.n⟩ : Dot), true, [], []⟩ : Djudge_Act), (⟨true, 3, (⟨#[107]⟩ : ByteArray), (⟨0, 0⟩ : Dot), true, [z5], [2, 0]⟩ : Djudge_Act), (⟨false, 3, (⟨#[107]⟩ : ByteArray), (⟨z9.s, z9.n⟩ : Dot), true, [], []⟩ : Djudge_Act)] from Nat.le_of_ble_eq_true rfl) ?_
  intro row71 ho72
  refine WR.nil ?_
  change WC _ _ _ _ _ _
  refine WC.rs ?_
  refine va rfl rfl rfl (q_move (v := .slice (some ⟨g25, 0, none⟩) 4 4) rfl (by kernel_rfl)) ?_
  rw [show Value.slice (some ⟨g25, 0, none⟩) (4) 4 = Value.slice (some ⟨g25, 0, none⟩) ((List.set [(⟨false, 1, (⟨#[107]⟩ : ByteArray), (⟨z1.s, z1.n⟩ : Dot), true, [], []⟩ : Djudge_Act), (⟨false, 1, (⟨#[107]⟩ : ByteArray), (⟨z3.s, z3.n⟩ : Dot), true, [], []⟩ : Djudge_Act), (⟨true, 3, (⟨#[107]⟩ : ByteArray), (⟨0, 0⟩ : Dot), true, [z5], [2, 0]⟩ : Djudge_Act), (⟨false, 3, (⟨#[107]⟩ : ByteArray), (⟨z9.s, z9.n⟩ : Dot), true, [], []⟩ : Djudge_Act)] 2 (⟨(gt [(⟨false, 1, (⟨#[107]⟩ : ByteArray), (⟨z1.s, z1.n⟩ : Dot), true, [], []⟩ : Djudge_Act), (⟨false, 1, (⟨#[107]⟩ : ByteArray), (⟨z3.s, z3.n⟩ : Dot), true, [], []⟩ : Djudge_Act), (⟨true, 3, (⟨#[107]⟩ : ByteArray), (⟨0, 0⟩ : Dot), true, [z5], [2, 0]⟩ : Djudge_Act), (⟨false, 3, (⟨#[107]⟩ : ByteArray), (⟨z9.s, z9.n⟩ : Dot), true, [], []⟩ : Djudge_Act)] 2).read, (gt [(⟨false, 1, (⟨#[107]⟩ : ByteArray), (⟨z1.s, z1.n⟩ : Dot), true, [], []⟩ : Djudge_Act), (⟨false, 1, (⟨#[107]⟩ : ByteArray), (⟨z3.s, z3.n⟩ : Dot), true, [], []⟩ : Djudge_Act), (⟨true, 3, (⟨#[107]⟩ : ByteArray), (⟨0, 0⟩ : Dot), true, [z5], [2, 0]⟩ : Djudge_Act), (⟨false, 3, (⟨#[107]⟩ : ByteArray), (⟨z9.s, z9.n⟩ : Dot), true, [], []⟩ : Djudge_Act)] 2).sess, (gt [(⟨false, 1, (⟨#[107]⟩ : ByteArray), (⟨z1.s, z1.n⟩ : Dot), true, [], []⟩ : Djudge_Act), (⟨false, 1, (⟨#[107]⟩ : ByteArray), (⟨z3.s, z3.n⟩ : Dot), true, [], []⟩ : Djudge_Act), (⟨true, 3, (⟨#[107]⟩ : ByteArray), (⟨0, 0⟩ : Dot), true, [z5], [2, 0]⟩ : Djudge_Act), (⟨false, 3, (⟨#[107]⟩ : ByteArray), (⟨z9.s, z9.n⟩ : Dot), true, [], []⟩ : Djudge_Act)] 2).key, (⟨(gt [(⟨false, 1, (⟨#[107]⟩ : ByteArray), (⟨z1.s, z1.n⟩ : Dot), true, [], []⟩ : Djudge_Act), (⟨false, 1, (⟨#[107]⟩ : ByteArray), (⟨z3.s, z3.n⟩ : Dot), true, [], []⟩ : Djudge_Act), (⟨true, 3, (⟨#[107]⟩ : ByteArray), (⟨0, 0⟩ : Dot), true, [z5], [2, 0]⟩ : Djudge_Act), (⟨false, 3, (⟨#[107]⟩ : ByteArray), (⟨z9.s, z9.n⟩ : Dot), true, [], []⟩ : Djudge_Act)] 2).dot.s, (gt [(⟨false, 1, (⟨#[107]⟩ : ByteArray), (⟨z1.s, z1.n⟩ : Dot), true, [], []⟩ : Djudge_Act), (⟨false, 1, (⟨#[107]⟩ : ByteArray), (⟨z3.s, z3.n⟩ : Dot), true, [], []⟩ : Djudge_Act), (⟨true, 3, (⟨#[107]⟩ : ByteArray), (⟨0, 0⟩ : Dot), true, [z5], [2, 0]⟩ : Djudge_Act), (⟨false, 3, (⟨#[107]⟩ : ByteArray), (⟨z9.s, z9.n⟩ : Dot), true, [], []⟩ : Djudge_Act)] 2).dot.n⟩ : Dot), (gt [(⟨false, 1, (⟨#[107]⟩ : ByteArray), (⟨z1.s, z1.n⟩ : Dot), true, [], []⟩ : Djudge_Act), (⟨false, 1, (⟨#[107]⟩ : ByteArray), (⟨z3.s, z3.n⟩ : Dot), true, [], []⟩ : Djudge_Act), (⟨true, 3, (⟨#[107]⟩ : ByteArray), (⟨0, 0⟩ : Dot), true, [z5], [2, 0]⟩ : Djudge_Act), (⟨false, 3, (⟨#[107]⟩ : ByteArray), (⟨z9.s, z9.n⟩ : Dot), true, [], []⟩ : Djudge_Act)] 2).oK, [z55], (gt [(⟨false, 1, (⟨#[107]⟩ : ByteArray), (⟨z1.s, z1.n⟩ : Dot), true, [], []⟩ : Djudge_Act), (⟨false, 1, (⟨#[107]⟩ : ByteArray), (⟨z3.s, z3.n⟩ : Dot), true, [], []⟩ : Djudge_Act), (⟨true, 3, (⟨#[107]⟩ : ByteArray), (⟨0, 0⟩ : Dot), true, [z5], [2, 0]⟩ : Djudge_Act), (⟨false, 3, (⟨#[107]⟩ : ByteArray), (⟨z9.s, z9.n⟩ : Dot), true, [], []⟩ : Djudge_Act)] 2).seen⟩ : Djudge_Act)).length) 4 from by first | (rw [List.length_set]; done) | (rw [List.length_set]; rfl)]
  obtain ⟨z73, hz74, h⟩ := bnd h
  refine e_callB (is := []) (Lent.nil F) rfl rfl (call_run Try.call14 rfl rfl (by kernel_rfl)) rfl (fun w Θ hp hpB hle hleB hR => t_judge_Judge_l0 (own_lent ho72 hR (List.mem_of_getElem? (i := 2) rfl) hle) ho72.capz hp hpB hz74) ?_
  rintro Γ75 U77 v78 hl76 ⟨rfl, rfl, hr79, hr80, _⟩
  change WR _ _ _ (CC F Γ75 [[], row53, row71, [], []]) _ _ (upd _ 33 (.tuple #[.int .i64 z73.1, .int .i64 z73.2]))
  refine va rfl rfl rfl (q_move (v := .tuple #[.int .i64 z73.1, .int .i64 z73.2]) rfl (by kernel_rfl)) ?_
  refine va rfl rfl rfl (q_extract (v := .int .i64 z73.1) rfl rfl rfl) ?_
  refine va rfl rfl rfl (q_extract (v := .int .i64 z73.2) rfl rfl rfl) ?_
  refine va rfl rfl rfl (q_assign (v := .int .i64 z73.1) rfl (by kernel_rfl)) ?_
  refine va rfl rfl rfl (q_assign (v := .int .i64 z73.2) rfl (by kernel_rfl)) ?_
  refine WR.nil ?_
  change WC _ _ _ _ _ _
  refine WC.rs ?_
  refine va rfl rfl rfl (q_move (v := .int .i64 z33.1) rfl (by kernel_rfl)) ?_
  refine va rfl rfl rfl (q_eql rfl rfl rfl) ?_
  refine va rfl rfl rfl (q_move (v := .bool (z33.1 == (-1))) rfl (by kernel_rfl)) ?_
  refine vg1 rfl rfl rfl rfl rfl (fun hg81 => QV.qo (q_move (v := .int .i64 z33.2) rfl (by kernel_rfl))) ?_
  refine vg1 rfl rfl rfl rfl rfl (fun hg82 => QV.qo (q_eql rfl (gu hg82 rfl) rfl)) ?_
  refine va rfl rfl rfl (q_pick rfl rfl (pk_and' (g := (z33.1 == (-1))) (y := (z33.2 == 0)))) ?_
  refine va rfl rfl rfl (q_move (v := .bool ((z33.1 == (-1)) && (z33.2 == 0))) rfl (by kernel_rfl)) ?_
  refine vg1 rfl rfl rfl rfl rfl (fun hg83 => QV.qo (q_move (v := .slice A51 z45.length c52) rfl (by kernel_rfl))) ?_
  obtain ⟨z85, hz86, h⟩ := bnd h
  refine vg1 rfl rfl rfl rfl rfl (fun hg84 => (q_call (call_run Try.call8 rfl rfl (by kernel_rfl)) (fun w hw => t_firthlaw23_dot (Γ := Gh.all w) 1 (show I64 1 by decide) 1 (show I64 1 by decide) (Sat.all w) (gc_of hz86 hg84)))) ?_
  obtain ⟨z88, hz89, h⟩ := bnd h
  refine vg1 rfl rfl rfl rfl rfl (fun hg87 => (q_call (call_run Try.call8 rfl rfl (by kernel_rfl)) (fun w hw => t_firthlaw23_dot (Γ := Gh.all w) 1 (show I64 1 by decide) 2 (show I64 2 by decide) (Sat.all w) (gc_of hz89 hg87)))) ?_
  refine (Bool.eq_false_or_eq_true ((z33.1 == (-1)) && (z33.2 == 0))).elim (fun hb90 => ?_) (fun hb90 => ?_)
  · skip
    have h := bt hb90 h
    refine WR.sat (c0 := true) (g := ((z33.1 == (-1)) && (z33.2 == 0))) rfl rfl rfl hb90 ?_
    rw [show gv ((z33.1 == (-1)) && (z33.2 == 0)) (.agg #[.int .i64 z85.s, .int .i64 z85.n]) = .agg #[.int .i64 z85.s, .int .i64 z85.n] from gv_of hb90]
    rw [show gv ((z33.1 == (-1)) && (z33.2 == 0)) (.agg #[.int .i64 z88.s, .int .i64 z88.n]) = .agg #[.int .i64 z88.s, .int .i64 z88.n] from gv_of hb90]
    refine e_buildSlice (cs := #[.int .i64 z85.s, .int .i64 z85.n, .int .i64 z88.s, .int .i64 z88.n]) (e := 27) rfl rfl rfl rfl (fun w => by kernel_rfl) ?_
    intro g91
    refine WR.sat (c0 := true) (g := ((z33.1 == (-1)) && (z33.2 == 0))) rfl rfl rfl hb90 ?_
    obtain ⟨hk92, h⟩ := chk_some h
    obtain ⟨hk93, h⟩ := chk_some h
    obtain ⟨hk94, h⟩ := chk_some h
    obtain ⟨hk95, h⟩ := chk_some h
    have ho96 : Own dotT Γ75 27 [(g91, .cells #[.int .i64 z85.s, .int .i64 z85.n, .int .i64 z88.s, .int .i64 z88.n] 27 (0, 0))] (some ⟨g91, 0, none⟩) 2 [z85, z88] := Own.of_blockL (T := dotT) (ys := [z85, z88]) [[.int .i64 z85.s, .int .i64 z85.n], [.int .i64 z88.s, .int .i64 z88.n]] rfl (show 2 ≤ lim by decide) (show Ty.rd dotT Γ75 [.int .i64 z85.s, .int .i64 z85.n] z85 ∧ Ty.rd dotT Γ75 [.int .i64 z88.s, .int .i64 z88.n] z88 ∧ True from ⟨⟨rfl, ⟨(i64b_of hk92), (i64b_of hk93)⟩⟩, ⟨rfl, ⟨(i64b_of hk94), (i64b_of hk95)⟩⟩, trivial⟩)
    obtain ⟨z97, hz98, h⟩ := bnd h
    refine vc rfl rfl rfl (q_call (call_run Try.call12 rfl rfl (args2 (gu hb90 rfl) rfl)) (fun w hw => t_firthref23_Same (Γ := Gh.all w) ((hr54.mono (hl62.trans hl76)).sl hw.sat.le_all (hw.ra 2 rfl)) (hr54.mono (hl62.trans hl76)).capz (ho96.sl hw.sat.le_all (hw.ra 0 rfl)) ho96.capz (Sat.all w) hz98)) ?_
    refine va rfl rfl rfl (q_pick_t (v := .bool z97) rfl rfl hb90 (by kernel_rfl)) ?_
    refine va rfl rfl rfl (q_move (v := .bool z97) rfl (by kernel_rfl)) ?_
    refine vg1 rfl rfl rfl rfl rfl (fun hg99 => QV.qo (q_move (v := .int .i64 z73.1) rfl (by kernel_rfl))) ?_
    refine vg1 rfl rfl rfl rfl rfl (fun hg100 => QV.qo (q_eql rfl (gu hg100 rfl) rfl)) ?_
    refine va rfl rfl rfl (q_pick rfl rfl (pk_and' (g := z97) (y := (z73.1 == 2)))) ?_
    refine va rfl rfl rfl (q_move (v := .bool (z97 && (z73.1 == 2))) rfl (by kernel_rfl)) ?_
    refine vg1 rfl rfl rfl rfl rfl (fun hg101 => QV.qo (q_move (v := .int .i64 z73.2) rfl (by kernel_rfl))) ?_
    refine vg1 rfl rfl rfl rfl rfl (fun hg102 => QV.qo (q_eql rfl (gu hg102 rfl) rfl)) ?_
    refine va rfl rfl rfl (q_pick rfl rfl (pk_and' (g := (z97 && (z73.1 == 2))) (y := (z73.2 == 6)))) ?_
    refine va rfl rfl rfl (q_assign (v := .bool ((z97 && (z73.1 == 2)) && (z73.2 == 6))) rfl (by kernel_rfl)) ?_
    refine WR.nil ?_
    change WC _ _ _ _ _ _
    refine WC.ret ?_
    intro w hw
    obtain rfl := Option.some.inj h
    subst hF
    exact ⟨by kernel_rfl, hw.fr⟩
  · skip
    have h := bf hb90 h
    refine WR.unsat (c0 := true) (g := ((z33.1 == (-1)) && (z33.2 == 0))) rfl rfl rfl hb90 rfl ?_
    refine WR.unsat (c0 := true) (g := ((z33.1 == (-1)) && (z33.2 == 0))) rfl rfl rfl hb90 rfl ?_
    refine va rfl rfl rfl (q_pick_f (v := .bool false) rfl rfl hb90 (by kernel_rfl)) ?_
    refine va rfl rfl rfl (q_move (v := .bool false) rfl (by kernel_rfl)) ?_
    refine WR.unsat (c0 := true) (g := false) rfl rfl rfl rfl rfl ?_
    refine WR.unsat (c0 := true) (g := false) rfl rfl rfl rfl rfl ?_
    refine va rfl rfl rfl (q_pickf (v := .bool false) rfl rfl rfl) ?_
    refine va rfl rfl rfl (q_move (v := .bool false) rfl (by kernel_rfl)) ?_
    refine WR.unsat (c0 := true) (g := false) rfl rfl rfl rfl rfl ?_
    refine WR.unsat (c0 := true) (g := false) rfl rfl rfl rfl rfl ?_
    refine va rfl rfl rfl (q_pickf (v := .bool false) rfl rfl rfl) ?_
    refine va rfl rfl rfl (q_assign (v := .bool false) rfl (by kernel_rfl)) ?_
    refine WR.nil ?_
    change WC _ _ _ _ _ _
    refine WC.ret ?_
    intro w hw
    obtain rfl := Option.some.inj h
    subst hF
    exact ⟨by kernel_rfl, hw.fr⟩
set_option maxRecDepth 100000 in
set_option maxHeartbeats 400000 in
theorem t_firthref23_Has {Γ : Gh} {w0 : World} {Al : Option Addr} {cl : Nat} {l : List Dot} (hl : Sl dotT Γ Al l) (hlc : l.length ≤ cl) (d : Dot) (hd : Dot.fits Γ  d) (hs : Sat Γ w0) {r : Bool} (h : m_firthref23_Has l d = some r) : Calls Try.prog 10 #[.slice Al l.length cl, .agg #[.int .i64 d.s, .int .i64 d.n]] w0 (fun e w' => e = .returned (.bool r) ∧ Fr no w0 w') := by
  refine calls_of (N := 18) (rs := [4]) (args := [.slice Al l.length cl, .agg #[.int .i64 d.s, .int .i64 d.n]]) Try.func10 rfl Try.ntmps10 Try.results10 rfl ?_
  obtain ⟨F, hF⟩ : ∃ F : Fm, F = ⟨no, w0, Γ⟩ := ⟨_, rfl⟩
  refine WC.here (C := CC F Γ []) ?_ (hF ▸ Cur.start0 hs)
  refine WC.rs ?_
  refine e_box (v := .agg #[.int .i64 d.s, .int .i64 d.n]) rfl rfl rfl rfl (by kernel_rfl) ?_
  intro g1
  refine va rfl rfl rfl (q_assign (v := .bool false) rfl (by kernel_rfl)) ?_
  refine WR.nil ?_
  change WC _ _ _ _ _ _
  refine WC.seq ?_
  refine WC.rs ?_
  refine va rfl rfl rfl (q_assign (v := .int .i64 0) rfl (by kernel_rfl)) ?_
  refine WR.nil ?_
  change WC _ _ _ _ _ _
  refine WC.block ?_
  refine WC.forI h (fun (i3 : Nat) (s : Unit) σ w => match s with | () => slots σ [(0, .slice Al l.length cl), (3, .pointer (some ⟨g1, 0, none⟩)), (5, .int .i64 ((i3 : Nat) : Int))] ∧ CC F Γ [[(g1, .cells #[.int .i64 d.s, .int .i64 d.n] 27 (0, 0))]] w ∧ True) ?_ ?_
  · skip
    intro w hw
    exact ⟨(sl_ (by kernel_rfl)), hw, trivial⟩
  rintro f2 i3 ⟨⟩ σ w hi4 hlt5 hge6 ⟨hsl, hw, -⟩
  refine Wpt.slots hsl ?_
  refine WC.here (C := CC F Γ [[(g1, .cells #[.int .i64 d.s, .int .i64 d.n] 27 (0, 0))]]) ?_ hw
  clear hw hsl
  refine WC.seq ?_
  refine WC.rs ?_
  refine va rfl rfl rfl (q_move (v := .int .i64 ((i3 : Nat) : Int)) rfl (by kernel_rfl)) ?_
  refine va rfl rfl rfl (q_move (v := .slice Al l.length cl) rfl (by kernel_rfl)) ?_
  refine va rfl rfl rfl (q_len_slice rfl Try.underlying29 rfl) ?_
  refine va rfl rfl rfl (q_lss rfl rfl rfl) ?_
  refine WR.nil ?_
  change WC _ _ _ _ _ _
  refine WC.cond (b := (decide (((i3 : Nat) : Int) < ((l.length : Nat) : Int)))) (by kernel_rfl) (fun hb7 => ?_) (fun hb7 => ?_)
  · skip
    have hl8 := ilt hb7
    have h := hlt5 hl8
    refine WC.skip ?_
    change WC _ _ _ _ _ _
    refine WC.seq ?_
    refine WC.block ?_
    refine WC.seq ?_
    refine WC.dr (by kernel_rfl) (by kernel_rfl) (fun w hw => hw.drawn _) ?_
    refine wa rfl rfl rfl (q_move (v := .slice Al l.length cl) rfl (by kernel_rfl)) ?_
    refine wa rfl rfl rfl (q_move (v := .int .i64 ((i3 : Nat) : Int)) rfl (by kernel_rfl)) ?_
    refine wa rfl rfl rfl (q_ixn (i := i3) Try.underlying29 Try.sizeOf27 rfl rfl rfl hl8 (hl.some_ hl8)) ?_
    refine wa rfl rfl rfl (q_lda (c := 0) (vs := [.int .i64 (gt l i3).s, .int .i64 (gt l i3).n]) (hl.dotT_at hl8).2 rfl Try.isAgg27 Try.sizeOf27 rfl rfl rfl) ?_
    refine wa rfl rfl rfl (q_ldla (i := 0) (vs := [.int .i64 d.s, .int .i64 d.n]) rfl rfl Try.isAgg27 Try.sizeOf27 rfl rfl) ?_
    refine wa rfl rfl rfl (q_eql_Dot (a := (gt l i3)) (b := d) rfl rfl rfl) ?_
    refine WQ.nil ?_
    change WC _ _ _ _ _ _
    refine WC.cif h (by kernel_rfl) (fun hb9 h => ?_) (fun hb9 h => ?_)
    · skip
      refine WC.rs ?_
      refine va rfl rfl rfl (q_assign (v := .bool true) rfl (by kernel_rfl)) ?_
      refine WR.nil ?_
      change WC _ _ _ _ _ _
      refine WC.ret ?_
      intro w hw
      obtain rfl := Option.some.inj h
      subst hF
      exact ⟨by kernel_rfl, hw.fr⟩
    · skip
      refine WC.skip ?_
      change WC _ _ _ _ _ _
      refine WC.region ?_
      refine va rfl rfl rfl (q_move (v := .int .i64 ((i3 : Nat) : Int)) rfl (by kernel_rfl)) ?_
      refine va rfl rfl rfl (q_add_r (r := ((i3 + 1 : Nat) : Int)) rfl rfl rfl (ctr_len hl8 hl.le)) ?_
      refine va rfl rfl rfl (q_assign (v := .int .i64 ((i3 + 1 : Nat) : Int)) rfl (by kernel_rfl)) ?_
      refine WR.nil ?_
      intro w hw
      exact ⟨hl8, (), h, (sl_ (by kernel_rfl)), hw, trivial⟩
  · skip
    have h := hge6 (ige hb7)
    refine WC.exit ?_
    change WC _ _ _ _ _ _
    refine WC.rs ?_
    refine va rfl rfl rfl (q_assign (v := .bool false) rfl (by kernel_rfl)) ?_
    refine WR.nil ?_
    change WC _ _ _ _ _ _
    refine WC.ret ?_
    intro w hw
    obtain rfl := Option.some.inj h
    subst hF
    exact ⟨by kernel_rfl, hw.fr⟩
abbrev r_firthlaw23_acts (r : List Dfirthref23_Act) (U : List Rowb) (Γ : Gh) (v : Value) : Prop := ∃ (A0 : Option Addr), ∃ (c0 : Nat), ∃ (row0 : Rowb), v = .slice A0 r.length c0 ∧ U = [row0] ∧ Own dfirthref23_ActT Γ 49 row0 A0 c0 r ∧ True
set_option maxRecDepth 100000 in
set_option maxHeartbeats 400000 in
theorem t_firthlaw23_acts {Γ : Gh} {w0 : World} {Al : Option Addr} {cl : Nat} {l : List Djudge_Act} (hl : Sl djudge_ActT Γ Al l) (hlc : l.length ≤ cl) (hp : Pre [] Γ w0) {r : List Dfirthref23_Act} (h : m_firthlaw23_acts l = some r) : Calls Try.prog 11 #[.slice Al l.length cl] w0 (Outc Γ [] w0 (r_firthlaw23_acts r)) := by
  refine calls_of (N := 35) (rs := [2]) (args := [.slice Al l.length cl]) Try.func11 rfl Try.ntmps11 Try.results11 rfl ?_
  obtain ⟨F, hF⟩ : ∃ F : Fm, F = ⟨ids [], w0, Γ⟩ := ⟨_, rfl⟩
  refine WC.here (C := CC F Γ []) ?_ (hF ▸ hp.start)
  refine WC.rs ?_
  refine va rfl rfl rfl (q_assign (v := .slice none 0 0) rfl (by kernel_rfl)) ?_
  refine WR.nil ?_
  change WC _ _ _ _ _ _
  refine WC.rs ?_
  refine va rfl rfl rfl (q_assign (v := .slice none 0 0) rfl (by kernel_rfl)) ?_
  refine WR.nil ?_
  change WC _ _ _ _ _ _
  refine WC.seq ?_
  refine WC.rs ?_
  refine va rfl rfl rfl (q_assign (v := .int .i64 0) rfl (by kernel_rfl)) ?_
  refine WR.nil ?_
  change WC _ _ _ _ _ _
  refine WC.block ?_
  refine WC.forI h (fun (i7 : Nat) (out_1 : List Dfirthref23_Act) σ w => ∃ (A2 : Option Addr), ∃ (c3 : Nat), ∃ (row4 : Rowb), slots σ [(0, .slice Al l.length cl), (3, .slice A2 out_1.length c3), (4, .int .i64 ((i7 : Nat) : Int))] ∧ CC F Γ [row4] w ∧ Own dfirthref23_ActT Γ 49 row4 A2 c3 out_1 ∧ True) ?_ ?_
  · skip
    intro w hw
    have hw := hw.pad
    exact ⟨none, 0, [], (sl_ (by kernel_rfl)), hw, (Own.nil dfirthref23_ActT _ 49), trivial⟩
  rintro f6 i7 out_1 σ w hi8 hlt9 hge10 ⟨A2, c3, row4, hsl, hw, ho5, -⟩
  refine Wpt.slots hsl ?_
  refine WC.here (C := CC F Γ [row4]) ?_ hw
  clear hw hsl
  refine WC.seq ?_
  refine WC.rs ?_
  refine va rfl rfl rfl (q_move (v := .int .i64 ((i7 : Nat) : Int)) rfl (by kernel_rfl)) ?_
  refine va rfl rfl rfl (q_move (v := .slice Al l.length cl) rfl (by kernel_rfl)) ?_
  refine va rfl rfl rfl (q_len_slice rfl Try.underlying24 rfl) ?_
  refine va rfl rfl rfl (q_lss rfl rfl rfl) ?_
  refine WR.nil ?_
  change WC _ _ _ _ _ _
  refine WC.cond (b := (decide (((i7 : Nat) : Int) < ((l.length : Nat) : Int)))) (by kernel_rfl) (fun hb11 => ?_) (fun hb11 => ?_)
  · skip
    have hl12 := ilt hb11
    have h := hlt9 hl12
    refine WC.skip ?_
    change WC _ _ _ _ _ _
    refine WC.seq ?_
    refine WC.block ?_
    refine WC.rs ?_
    refine va rfl rfl rfl (q_move (v := .slice Al l.length cl) rfl (by kernel_rfl)) ?_
    refine va rfl rfl rfl (q_move (v := .int .i64 ((i7 : Nat) : Int)) rfl (by kernel_rfl)) ?_
    refine va rfl rfl rfl (q_ixn (i := i7) Try.underlying24 Try.sizeOf32 rfl rfl rfl hl12 (hl.some_ hl12)) ?_
    obtain ⟨A13, c14, A15, c16, hx17⟩ := hl.djudge_ActT_at i7
    refine va rfl rfl rfl (q_lda (c := 0) (vs := [.bool (gt l i7).read, .int .i64 (gt l i7).sess, .string (gt l i7).key, .int .i64 (gt l i7).dot.s, .int .i64 (gt l i7).dot.n, .bool (gt l i7).oK, .slice A13 ((gt l i7).reads).length c14, .slice A15 ((gt l i7).seen).length c16]) (hx17 hl12).2 rfl Try.isAgg32 Try.sizeOf32 rfl rfl rfl) ?_
    refine e_alloc Try.zeroValue32 rfl rfl rfl rfl ?_
    intro g18
    refine e_st (i := 0) (v := .agg #[.bool (gt l i7).read, .int .i64 (gt l i7).sess, .string (gt l i7).key, .int .i64 (gt l i7).dot.s, .int .i64 (gt l i7).dot.n, .bool (gt l i7).oK, .slice A13 ((gt l i7).reads).length c14, .slice A15 ((gt l i7).seen).length c16]) (new := #[.bool (gt l i7).read, .int .i64 (gt l i7).sess, .string (gt l i7).key, .int .i64 (gt l i7).dot.s, .int .i64 (gt l i7).dot.n, .bool (gt l i7).oK, .slice A13 ((gt l i7).reads).length c14, .slice A15 ((gt l i7).seen).length c16]) rfl Try.sizeOf32 rfl rfl rfl rfl (by kernel_rfl) rfl rfl rfl rfl ?_
    refine WR.nil ?_
    change WC _ _ _ _ _ _
    refine WC.region ?_
    refine va rfl rfl rfl (q_move (v := .slice A2 out_1.length c3) rfl (by kernel_rfl)) ?_
    refine va rfl rfl rfl (q_fl 0 fld_32_0 rfl rfl rfl) ?_
    refine va rfl rfl rfl (q_ldl (i := 0) (v := .bool (gt l i7).read) rfl rfl Try.isAgg4 rfl rfl) ?_
    refine va rfl rfl rfl (q_fl 1 fld_32_1 rfl rfl rfl) ?_
    refine va rfl rfl rfl (q_ldl (i := 0) (v := .int .i64 (gt l i7).sess) rfl rfl Try.isAgg3 rfl rfl) ?_
    refine va rfl rfl rfl (q_fl 2 fld_32_2 rfl rfl rfl) ?_
    refine va rfl rfl rfl (q_ldl (i := 0) (v := .string (gt l i7).key) rfl rfl Try.isAgg9 rfl rfl) ?_
    refine va rfl rfl rfl (q_fl 3 fld_32_3 rfl rfl rfl) ?_
    refine va rfl rfl rfl (q_ldla (i := 0) (vs := [.int .i64 (gt l i7).dot.s, .int .i64 (gt l i7).dot.n]) rfl rfl Try.isAgg27 Try.sizeOf27 rfl rfl) ?_
    refine va rfl rfl rfl (q_fl 5 fld_32_4 rfl rfl rfl) ?_
    refine va rfl rfl rfl (q_ldl (i := 0) (v := .bool (gt l i7).oK) rfl rfl Try.isAgg4 rfl rfl) ?_
    refine va rfl rfl rfl (q_fl 6 fld_32_5 rfl rfl rfl) ?_
    refine va rfl rfl rfl (q_ldl (i := 0) (v := .slice A13 ((gt l i7).reads).length c14) rfl rfl Try.isAgg29 rfl rfl) ?_
    refine va rfl rfl rfl (q_fl 7 fld_32_6 rfl rfl rfl) ?_
    refine va rfl rfl rfl (q_ldl (i := 0) (v := .slice A15 ((gt l i7).seen).length c16) rfl rfl Try.isAgg30 rfl rfl) ?_
    refine va rfl rfl rfl (q_build' (v := .agg #[.bool (gt l i7).read, .int .i64 (gt l i7).sess, .string (gt l i7).key, .int .i64 (gt l i7).dot.s, .int .i64 (gt l i7).dot.n, .bool (gt l i7).oK, .slice A13 ((gt l i7).reads).length c14, .slice A15 ((gt l i7).seen).length c16]) rfl (bargs7 rfl rfl rfl rfl rfl rfl rfl) (fun w => by kernel_rfl)) ?_
    refine e_buildSlice (cs := #[.bool (gt l i7).read, .int .i64 (gt l i7).sess, .string (gt l i7).key, .int .i64 (gt l i7).dot.s, .int .i64 (gt l i7).dot.n, .bool (gt l i7).oK, .slice A13 ((gt l i7).reads).length c14, .slice A15 ((gt l i7).seen).length c16]) (e := 49) rfl rfl rfl rfl (fun w => by kernel_rfl) ?_
    intro g19
    obtain ⟨hk20, h⟩ := chk_some h
    refine e_append (T := dfirthref23_ActT) (xs := out_1) (ys := [(⟨(gt l i7).read, (gt l i7).sess, (gt l i7).key, (⟨(gt l i7).dot.s, (gt l i7).dot.n⟩ : Dot), (gt l i7).oK, (gt l i7).reads, (gt l i7).seen⟩ : Dfirthref23_Act)]) elem_36 (i := 2) rfl rfl rfl rfl rfl rfl rfl ho5 (of_decide_eq_true hk20) (fun w hw => src_one (T := dfirthref23_ActT) (y := (⟨(gt l i7).read, (gt l i7).sess, (gt l i7).key, (⟨(gt l i7).dot.s, (gt l i7).dot.n⟩ : Dot), (gt l i7).oK, (gt l i7).reads, (gt l i7).seen⟩ : Dfirthref23_Act)) (i := 0) rfl (by exact ⟨A13, c14, A15, c16, rfl, ⟨(hx17 hl12).1.1, (hx17 hl12).1.2.1, (hx17 hl12).1.2.2.1, (hx17 hl12).1.2.2.2.1, ⟨(hx17 hl12).1.2.2.2.2.1.1, (hx17 hl12).1.2.2.2.2.1.2⟩, ⟨(hx17 hl12).1.2.2.2.2.2.1, (hx17 hl12).1.2.2.2.2.2.2⟩⟩⟩) hw) ?_
    intro row21 A22 c23 ho24
    refine va rfl rfl rfl (q_assign (v := .slice A22 (out_1 ++ [(⟨(gt l i7).read, (gt l i7).sess, (gt l i7).key, (⟨(gt l i7).dot.s, (gt l i7).dot.n⟩ : Dot), (gt l i7).oK, (gt l i7).reads, (gt l i7).seen⟩ : Dfirthref23_Act)]).length c23) rfl (by kernel_rfl)) ?_
    refine WR.nil ?_
    change WC _ _ _ _ _ _
    refine WC.region ?_
    refine va rfl rfl rfl (q_move (v := .int .i64 ((i7 : Nat) : Int)) rfl (by kernel_rfl)) ?_
    refine va rfl rfl rfl (q_add_r (r := ((i7 + 1 : Nat) : Int)) rfl rfl rfl (ctr_len hl12 hl.le)) ?_
    refine va rfl rfl rfl (q_assign (v := .int .i64 ((i7 + 1 : Nat) : Int)) rfl (by kernel_rfl)) ?_
    refine WR.nil ?_
    intro w hw
    exact ⟨hl12, (out_1 ++ [(⟨(gt l i7).read, (gt l i7).sess, (gt l i7).key, (⟨(gt l i7).dot.s, (gt l i7).dot.n⟩ : Dot), (gt l i7).oK, (gt l i7).reads, (gt l i7).seen⟩ : Dfirthref23_Act)]), h, A22, c23, row21, (sl_ (by kernel_rfl)), (hw.only (is := [2]) rfl), ho24, trivial⟩
  · skip
    have h := hge10 (ige hb11)
    refine WC.exit ?_
    change WC _ _ _ _ _ _
    refine WC.rs ?_
    refine va rfl rfl rfl (q_move (v := .slice A2 out_1.length c3) rfl (by kernel_rfl)) ?_
    refine va rfl rfl rfl (q_assign (v := .slice A2 out_1.length c3) rfl (by kernel_rfl)) ?_
    refine WR.nil ?_
    change WC _ _ _ _ _ _
    refine WC.ret ?_
    intro w hw
    obtain rfl := Option.some.inj h
    subst hF
    exact end_e (is := [0]) (by kernel_rfl) hw rfl ⟨A2, c3, row4, rfl, rfl, ho5, trivial⟩
set_option maxRecDepth 100000 in
set_option maxHeartbeats 400000 in
theorem t_firthref23_First {Γ : Gh} {w0 : World} {Alist : Option Addr} {clist : Nat} {list : List Dfirthref23_Act} (hlist : Sl dfirthref23_ActT Γ Alist list) (hlistc : list.length ≤ clist) (d : Dot) (hd : Dot.fits Γ  d) (hs : Sat Γ w0) {r : Int} (h : m_firthref23_First list d = some r) : Calls Try.prog 13 #[.slice Alist list.length clist, .agg #[.int .i64 d.s, .int .i64 d.n]] w0 (fun e w' => e = .returned (.int .i64 r) ∧ Fr no w0 w') := by
  refine calls_of (N := 33) (rs := [4]) (args := [.slice Alist list.length clist, .agg #[.int .i64 d.s, .int .i64 d.n]]) Try.func13 rfl Try.ntmps13 Try.results13 rfl ?_
  obtain ⟨F, hF⟩ : ∃ F : Fm, F = ⟨no, w0, Γ⟩ := ⟨_, rfl⟩
  refine WC.here (C := CC F Γ []) ?_ (hF ▸ Cur.start0 hs)
  refine WC.rs ?_
  refine e_box (v := .agg #[.int .i64 d.s, .int .i64 d.n]) rfl rfl rfl rfl (by kernel_rfl) ?_
  intro g1
  refine va rfl rfl rfl (q_assign (v := .int .i64 0) rfl (by kernel_rfl)) ?_
  refine WR.nil ?_
  change WC _ _ _ _ _ _
  refine WC.seq ?_
  refine WC.rs ?_
  refine va rfl rfl rfl (q_assign (v := .int .i64 0) rfl (by kernel_rfl)) ?_
  refine WR.nil ?_
  change WC _ _ _ _ _ _
  refine WC.block ?_
  refine WC.forI h (fun (i3 : Nat) (s : Unit) σ w => match s with | () => slots σ [(0, .slice Alist list.length clist), (3, .pointer (some ⟨g1, 0, none⟩)), (5, .int .i64 ((i3 : Nat) : Int))] ∧ CC F Γ [[(g1, .cells #[.int .i64 d.s, .int .i64 d.n] 27 (0, 0))]] w ∧ True) ?_ ?_
  · skip
    intro w hw
    exact ⟨(sl_ (by kernel_rfl)), hw, trivial⟩
  rintro f2 i3 ⟨⟩ σ w hi4 hlt5 hge6 ⟨hsl, hw, -⟩
  refine Wpt.slots hsl ?_
  refine WC.here (C := CC F Γ [[(g1, .cells #[.int .i64 d.s, .int .i64 d.n] 27 (0, 0))]]) ?_ hw
  clear hw hsl
  refine WC.seq ?_
  refine WC.rs ?_
  refine va rfl rfl rfl (q_move (v := .int .i64 ((i3 : Nat) : Int)) rfl (by kernel_rfl)) ?_
  refine va rfl rfl rfl (q_move (v := .slice Alist list.length clist) rfl (by kernel_rfl)) ?_
  refine va rfl rfl rfl (q_len_slice rfl Try.underlying36 rfl) ?_
  refine va rfl rfl rfl (q_lss rfl rfl rfl) ?_
  refine WR.nil ?_
  change WC _ _ _ _ _ _
  refine WC.cond (b := (decide (((i3 : Nat) : Int) < ((list.length : Nat) : Int)))) (by kernel_rfl) (fun hb7 => ?_) (fun hb7 => ?_)
  · skip
    have hl8 := ilt hb7
    have h := hlt5 hl8
    refine WC.skip ?_
    change WC _ _ _ _ _ _
    refine WC.seq ?_
    refine WC.block ?_
    refine WC.seq ?_
    refine WC.dr (by kernel_rfl) (by kernel_rfl) (fun w hw => hw.drawn _) ?_
    refine wa rfl rfl rfl (q_move (v := .slice Alist list.length clist) rfl (by kernel_rfl)) ?_
    refine wa rfl rfl rfl (q_move (v := .int .i64 ((i3 : Nat) : Int)) rfl (by kernel_rfl)) ?_
    refine wa rfl rfl rfl (q_ixn (i := i3) Try.underlying36 Try.sizeOf49 rfl rfl rfl hl8 (hlist.some_ hl8)) ?_
    refine wa rfl rfl rfl (q_field_addr (i3 * 8) fld_49_0 rfl rfl (hlist.some_ hl8) rfl) ?_
    obtain ⟨A9, c10, A11, c12, hx13⟩ := hlist.dfirthref23_ActT_at i3
    refine wa rfl rfl rfl (q_ld (c := 0) (v := .bool (gt list i3).read) (hx13 hl8).2 rfl Try.isAgg4 rfl rfl) ?_
    refine wa rfl rfl rfl (q_not rfl rfl) ?_
    refine wa rfl rfl rfl (q_move (v := .bool (!(gt list i3).read)) rfl (by kernel_rfl)) ?_
    refine wg1 rfl rfl rfl rfl rfl (fun hg14 => QV.qo (q_move (v := .slice Alist list.length clist) rfl (by kernel_rfl))) ?_
    refine wg1 rfl rfl rfl rfl rfl (fun hg15 => QV.qo (q_move (v := .int .i64 ((i3 : Nat) : Int)) rfl (by kernel_rfl))) ?_
    refine wg1 rfl rfl rfl rfl rfl (fun hg16 => QV.qo (q_ixn (i := i3) Try.underlying36 Try.sizeOf49 rfl (gu hg16 rfl) (gu hg16 rfl) hl8 (hlist.some_ hl8))) ?_
    refine wg1 rfl rfl rfl rfl rfl (fun hg17 => QV.qo (q_field_addr (i3 * 8 + 3) fld_49_3 rfl (gu hg17 rfl) (hlist.some_ hl8) rfl)) ?_
    refine wg1 rfl rfl rfl rfl rfl (fun hg18 => QV.qo (q_lda (c := 3) (vs := [.int .i64 (gt list i3).dot.s, .int .i64 (gt list i3).dot.n]) (hx13 hl8).2 rfl Try.isAgg27 Try.sizeOf27 (gu hg18 rfl) rfl rfl)) ?_
    refine wg1 rfl rfl rfl rfl rfl (fun hg19 => QV.qo (q_ldla (i := 0) (vs := [.int .i64 d.s, .int .i64 d.n]) rfl rfl Try.isAgg27 Try.sizeOf27 rfl rfl)) ?_
    refine wg1 rfl rfl rfl rfl rfl (fun hg20 => QV.qo (q_eql_Dot (a := (gt list i3).dot) (b := d) rfl (gu hg20 rfl) (gu hg20 rfl))) ?_
    refine wa rfl rfl rfl (q_pick rfl rfl (pk_and' (g := (!(gt list i3).read)) (y := ((gt list i3).dot == d)))) ?_
    refine wa rfl rfl rfl (q_move (v := .bool ((!(gt list i3).read) && ((gt list i3).dot == d))) rfl (by kernel_rfl)) ?_
    refine wg1 rfl rfl rfl rfl rfl (fun hg21 => QV.qo (q_fl 1 fld_27_1 rfl rfl rfl)) ?_
    refine wg1 rfl rfl rfl rfl rfl (fun hg22 => QV.qo (q_ldl (i := 0) (v := .int .i64 d.n) rfl rfl Try.isAgg2 (gu hg22 rfl) rfl)) ?_
    refine wg1 rfl rfl rfl rfl rfl (fun hg23 => QV.qo (q_gtr rfl (gu hg23 rfl) rfl)) ?_
    refine wa rfl rfl rfl (q_pick rfl rfl (pk_and' (g := ((!(gt list i3).read) && ((gt list i3).dot == d))) (y := (decide (0 < d.n))))) ?_
    refine WQ.nil ?_
    change WC _ _ _ _ _ _
    refine WC.cif h (by kernel_rfl) (fun hb24 h => ?_) (fun hb24 h => ?_)
    · skip
      refine WC.rs ?_
      refine va rfl rfl rfl (q_move (v := .int .i64 ((i3 : Nat) : Int)) rfl (by kernel_rfl)) ?_
      refine va rfl rfl rfl (q_assign (v := .int .i64 ((i3 : Nat) : Int)) rfl (by kernel_rfl)) ?_
      refine WR.nil ?_
      change WC _ _ _ _ _ _
      refine WC.ret ?_
      intro w hw
      obtain rfl := Option.some.inj h
      subst hF
      exact ⟨by kernel_rfl, hw.fr⟩
    · skip
      refine WC.skip ?_
      change WC _ _ _ _ _ _
      refine WC.region ?_
      refine va rfl rfl rfl (q_move (v := .int .i64 ((i3 : Nat) : Int)) rfl (by kernel_rfl)) ?_
      refine va rfl rfl rfl (q_add_r (r := ((i3 + 1 : Nat) : Int)) rfl rfl rfl (ctr_len hl8 hlist.le)) ?_
      refine va rfl rfl rfl (q_assign (v := .int .i64 ((i3 + 1 : Nat) : Int)) rfl (by kernel_rfl)) ?_
      refine WR.nil ?_
      intro w hw
      exact ⟨hl8, (), h, (sl_ (by kernel_rfl)), hw, trivial⟩
  · skip
    have h := hge6 (ige hb7)
    refine WC.exit ?_
    change WC _ _ _ _ _ _
    refine WC.rs ?_
    refine va rfl rfl rfl (q_assign (v := .int .i64 (-1)) rfl (by kernel_rfl)) ?_
    refine WR.nil ?_
    change WC _ _ _ _ _ _
    refine WC.ret ?_
    intro w hw
    obtain rfl := Option.some.inj h
    subst hF
    exact ⟨by kernel_rfl, hw.fr⟩
set_option maxRecDepth 100000 in
set_option maxHeartbeats 400000 in
theorem t_firthlaw23_JudgeGoesOn {Γ : Gh} {w0 : World} {Alist : Option Addr} {clist : Nat} {list : List Djudge_Act} (hlist : Sl djudge_ActT Γ Alist list) (hlistc : list.length ≤ clist) {Amore : Option Addr} {cmore : Nat} {more : List Djudge_Act} (hmore : Sl djudge_ActT Γ Amore more) (hmorec : more.length ≤ cmore) (hs : Sat Γ w0) {r : Bool} (h : m_firthlaw23_JudgeGoesOn list more = some r) : Calls Try.prog 4 #[.slice Alist list.length clist, .slice Amore more.length cmore] w0 (fun e w' => e = .returned (.bool r) ∧ Fr no w0 w') := by
  refine calls_of (N := 100) (rs := [4]) (args := [.slice Alist list.length clist, .slice Amore more.length cmore]) Try.func4 rfl Try.ntmps4 Try.results4 rfl ?_
  obtain ⟨F, hF⟩ : ∃ F : Fm, F = ⟨no, w0, Γ⟩ := ⟨_, rfl⟩
  refine WC.here (C := CC F Γ []) ?_ (hF ▸ Cur.start0 hs)
  refine WC.rs ?_
  refine va rfl rfl rfl (q_assign (v := .bool false) rfl (by kernel_rfl)) ?_
  refine WR.nil ?_
  change WC _ _ _ _ _ _
  refine WC.seq ?_
  refine WC.rs ?_
  obtain ⟨z1, hz2, h⟩ := bnd h
  refine vc rfl rfl rfl (q_call (call_run Try.call7 rfl rfl (by kernel_rfl)) (fun w hw => t_firthlaw23_awake (Γ := Gh.all w)  (Sat.all w) hz2)) ?_
  refine va rfl rfl rfl (q_not rfl rfl) ?_
  refine va rfl rfl rfl (q_move (v := .bool (!z1)) rfl (by kernel_rfl)) ?_
  refine vg0 rfl rfl rfl rfl rfl (fun hg3 => QV.qo (q_move (v := .slice Alist list.length clist) rfl (by kernel_rfl))) ?_
  refine vg0 rfl rfl rfl rfl rfl (fun hg4 => QV.qo (q_len_slice rfl Try.underlying24 (gu hg4 rfl))) ?_
  refine vg0 rfl rfl rfl rfl rfl (fun hg5 => QV.qo (q_move (v := .slice Amore more.length cmore) rfl (by kernel_rfl))) ?_
  refine vg0 rfl rfl rfl rfl rfl (fun hg6 => QV.qo (q_len_slice rfl Try.underlying24 (gu hg6 rfl))) ?_
  refine vg0 rfl rfl rfl rfl rfl (fun hg7 => QV.qo (q_add rfl (gu hg7 rfl) (gu hg7 rfl))) ?_
  refine vg0 rfl rfl rfl rfl rfl (fun hg8 => QV.qo (q_gtr rfl (gu hg8 rfl) rfl)) ?_
  refine va rfl rfl rfl (q_pick rfl rfl (pk_or' (g := (!z1)) (y := (decide (60 < (w64 (((list.length : Nat) : Int) + ((more.length : Nat) : Int)))))))) ?_
  refine WR.nil ?_
  change WC _ _ _ _ _ _
  refine WC.cif h (by kernel_rfl) (fun hb9 h => ?_) (fun hb9 h => ?_)
  · skip
    refine WC.rs ?_
    obtain ⟨z10, hz11, h⟩ := bnd h
    refine vc rfl rfl rfl (q_call (call_run Try.call7 rfl rfl (by kernel_rfl)) (fun w hw => t_firthlaw23_awake (Γ := Gh.all w)  (Sat.all w) hz11)) ?_
    refine va rfl rfl rfl (q_assign (v := .bool z10) rfl (by kernel_rfl)) ?_
    refine WR.nil ?_
    change WC _ _ _ _ _ _
    refine WC.ret ?_
    intro w hw
    obtain rfl := Option.some.inj h
    subst hF
    exact ⟨by kernel_rfl, hw.fr⟩
  · skip
    refine WC.skip ?_
    change WC _ _ _ _ _ _
    refine WC.rs ?_
    refine va rfl rfl rfl (q_move (v := .slice Alist list.length clist) rfl (by kernel_rfl)) ?_
    obtain ⟨z12, hz13, h⟩ := bnd h
    refine e_call (is := []) rfl rfl (call_run Try.call11 rfl rfl (by kernel_rfl)) rfl (fun w hp => t_firthlaw23_acts hlist hlistc hp hz13) ?_
    rintro Γ14 U16 v17 hl15 ⟨A18, c19, row20, rfl, rfl, hr21, _⟩
    change WR _ _ _ (CC F Γ14 [row20]) _ _ (upd _ 22 (.slice A18 z12.length c19))
    refine va rfl rfl rfl (q_assign (v := .slice A18 z12.length c19) rfl (by kernel_rfl)) ?_
    refine WR.nil ?_
    change WC _ _ _ _ _ _
    refine WC.seq ?_
    refine WC.rs ?_
    refine va rfl rfl rfl (q_assign (v := .int .i64 0) rfl (by kernel_rfl)) ?_
    refine WR.nil ?_
    change WC _ _ _ _ _ _
    refine WC.block ?_
    refine WC.forI h (fun (i23 : Nat) (s : Unit) σ w => match s with | () => slots σ [(0, .slice Alist list.length clist), (1, .slice Amore more.length cmore), (5, .slice A18 z12.length c19), (6, .int .i64 ((i23 : Nat) : Int))] ∧ CC F Γ14 [row20] w ∧ True) ?_ ?_
    · skip
      intro w hw
      exact ⟨(sl_ (by kernel_rfl)), hw, trivial⟩
    rintro f22 i23 ⟨⟩ σ w hi24 hlt25 hge26 ⟨hsl, hw, -⟩
    refine Wpt.slots hsl ?_
    refine WC.here (C := CC F Γ14 [row20]) ?_ hw
    clear hw hsl
    refine WC.seq ?_
    refine WC.rs ?_
    refine va rfl rfl rfl (q_move (v := .int .i64 ((i23 : Nat) : Int)) rfl (by kernel_rfl)) ?_
    refine va rfl rfl rfl (q_move (v := .slice Amore more.length cmore) rfl (by kernel_rfl)) ?_
    refine va rfl rfl rfl (q_len_slice rfl Try.underlying24 rfl) ?_
    refine va rfl rfl rfl (q_lss rfl rfl rfl) ?_
    refine WR.nil ?_
    change WC _ _ _ _ _ _
    refine WC.cond (b := (decide (((i23 : Nat) : Int) < ((more.length : Nat) : Int)))) (by kernel_rfl) (fun hb27 => ?_) (fun hb27 => ?_)
    · skip
      have hl28 := ilt hb27
      have h := hlt25 hl28
      refine WC.skip ?_
      change WC _ _ _ _ _ _
      refine WC.seq ?_
      refine WC.block ?_
      refine WC.rs ?_
      refine va rfl rfl rfl (q_assign (v := .int .i64 0) rfl (by kernel_rfl)) ?_
      refine WR.nil ?_
      change WC _ _ _ _ _ _
      refine WC.block ?_
      refine WC.forI h (fun (i30 : Nat) (s : Unit) σ w => match s with | () => slots σ [(0, .slice Alist list.length clist), (1, .slice Amore more.length cmore), (5, .slice A18 z12.length c19), (6, .int .i64 ((i23 : Nat) : Int)), (7, .int .i64 ((i30 : Nat) : Int))] ∧ CC F Γ14 [row20] w ∧ True) ?_ ?_
      · skip
        intro w hw
        exact ⟨(sl_ (by kernel_rfl)), hw, trivial⟩
      rintro f29 i30 ⟨⟩ σ w hi31 hlt32 hge33 ⟨hsl, hw, -⟩
      refine Wpt.slots hsl ?_
      refine WC.here (C := CC F Γ14 [row20]) ?_ hw
      clear hw hsl
      refine WC.seq ?_
      refine WC.rs ?_
      refine va rfl rfl rfl (q_move (v := .int .i64 ((i30 : Nat) : Int)) rfl (by kernel_rfl)) ?_
      refine va rfl rfl rfl (q_move (v := .slice Alist list.length clist) rfl (by kernel_rfl)) ?_
      refine va rfl rfl rfl (q_len_slice rfl Try.underlying24 rfl) ?_
      refine va rfl rfl rfl (q_lss rfl rfl rfl) ?_
      refine WR.nil ?_
      change WC _ _ _ _ _ _
      refine WC.cond (b := (decide (((i30 : Nat) : Int) < ((list.length : Nat) : Int)))) (by kernel_rfl) (fun hb34 => ?_) (fun hb34 => ?_)
      · skip
        have hl35 := ilt hb34
        have h := hlt32 hl35
        refine WC.skip ?_
        change WC _ _ _ _ _ _
        refine WC.seq ?_
        refine WC.block ?_
        refine WC.seq ?_
        refine WC.dr (by kernel_rfl) (by kernel_rfl) (fun w hw => hw.drawn _) ?_
        refine wa rfl rfl rfl (q_move (v := .slice Amore more.length cmore) rfl (by kernel_rfl)) ?_
        refine wa rfl rfl rfl (q_move (v := .int .i64 ((i23 : Nat) : Int)) rfl (by kernel_rfl)) ?_
        refine wa rfl rfl rfl (q_ixn (i := i23) Try.underlying24 Try.sizeOf32 rfl rfl rfl hl28 ((hmore.mono hl15).some_ hl28)) ?_
        refine wa rfl rfl rfl (q_field_addr (i23 * 8) fld_32_0 rfl rfl ((hmore.mono hl15).some_ hl28) rfl) ?_
        obtain ⟨A36, c37, A38, c39, hx40⟩ := (hmore.mono hl15).djudge_ActT_at i23
        refine wa rfl rfl rfl (q_ld (c := 0) (v := .bool (gt more i23).read) (hx40 hl28).2 rfl Try.isAgg4 rfl rfl) ?_
        refine wa rfl rfl rfl (q_not rfl rfl) ?_
        refine wa rfl rfl rfl (q_move (v := .bool (!(gt more i23).read)) rfl (by kernel_rfl)) ?_
        refine wg1 rfl rfl rfl rfl rfl (fun hg41 => QV.qo (q_move (v := .slice Alist list.length clist) rfl (by kernel_rfl))) ?_
        refine wg1 rfl rfl rfl rfl rfl (fun hg42 => QV.qo (q_move (v := .int .i64 ((i30 : Nat) : Int)) rfl (by kernel_rfl))) ?_
        refine wg1 rfl rfl rfl rfl rfl (fun hg43 => QV.qo (q_ixn (i := i30) Try.underlying24 Try.sizeOf32 rfl (gu hg43 rfl) (gu hg43 rfl) hl35 ((hlist.mono hl15).some_ hl35))) ?_
        refine wg1 rfl rfl rfl rfl rfl (fun hg44 => QV.qo (q_field_addr (i30 * 8 + 6) fld_32_5 rfl (gu hg44 rfl) ((hlist.mono hl15).some_ hl35) rfl)) ?_
        obtain ⟨A46, c47, A48, c49, hx50⟩ := (hlist.mono hl15).djudge_ActT_at i30
        refine wg1 rfl rfl rfl rfl rfl (fun hg45 => QV.qo (q_ld (c := 6) (v := .slice A46 ((gt list i30).reads).length c47) (hx50 hl35).2 rfl Try.isAgg29 (gu hg45 rfl) rfl)) ?_
        refine wg1 rfl rfl rfl rfl rfl (fun hg51 => QV.qo (q_move (v := .slice Amore more.length cmore) rfl (by kernel_rfl))) ?_
        refine wg1 rfl rfl rfl rfl rfl (fun hg52 => QV.qo (q_move (v := .int .i64 ((i23 : Nat) : Int)) rfl (by kernel_rfl))) ?_
        refine wg1 rfl rfl rfl rfl rfl (fun hg53 => QV.qo (q_ixn (i := i23) Try.underlying24 Try.sizeOf32 rfl (gu hg53 rfl) (gu hg53 rfl) hl28 ((hmore.mono hl15).some_ hl28))) ?_
        refine wg1 rfl rfl rfl rfl rfl (fun hg54 => QV.qo (q_field_addr (i23 * 8 + 3) fld_32_3 rfl (gu hg54 rfl) ((hmore.mono hl15).some_ hl28) rfl)) ?_
        refine wg1 rfl rfl rfl rfl rfl (fun hg55 => QV.qo (q_lda (c := 3) (vs := [.int .i64 (gt more i23).dot.s, .int .i64 (gt more i23).dot.n]) (hx40 hl28).2 rfl Try.isAgg27 Try.sizeOf27 (gu hg55 rfl) rfl rfl)) ?_
        obtain ⟨z57, hz58, h⟩ := bnd h
        refine wg1 rfl rfl rfl rfl rfl (fun hg56 => (q_call (call_run Try.call10 rfl rfl (args2 (gu hg56 rfl) (gu hg56 rfl))) (fun w hw => t_firthref23_Has (Γ := Gh.all w) ((hx50 hl35).1.2.2.2.2.1.2.mono hw.sat.le_all) (hx50 hl35).1.2.2.2.2.1.1 ((gt more i23).dot) ⟨(hx40 hl28).1.2.2.1, (hx40 hl28).1.2.2.2.1⟩ (Sat.all w) (gc_of hz58 hg56)))) ?_
        refine wa rfl rfl rfl (q_pick rfl rfl (pk_and' (g := (!(gt more i23).read)) (y := z57))) ?_
        refine WQ.nil ?_
        change WC _ _ _ _ _ _
        refine WC.cif h (by kernel_rfl) (fun hb59 h => ?_) (fun hb59 h => ?_)
        · skip
          refine WC.rs ?_
          refine va rfl rfl rfl (q_assign (v := .bool true) rfl (by kernel_rfl)) ?_
          refine WR.nil ?_
          change WC _ _ _ _ _ _
          refine WC.ret ?_
          intro w hw
          obtain rfl := Option.some.inj h
          subst hF
          exact ⟨by kernel_rfl, hw.fr⟩
        · skip
          refine WC.skip ?_
          change WC _ _ _ _ _ _
          refine WC.region ?_
          refine va rfl rfl rfl (q_move (v := .int .i64 ((i30 : Nat) : Int)) rfl (by kernel_rfl)) ?_
          refine va rfl rfl rfl (q_add_r (r := ((i30 + 1 : Nat) : Int)) rfl rfl rfl (ctr_len hl35 (hlist.mono hl15).le)) ?_
          refine va rfl rfl rfl (q_assign (v := .int .i64 ((i30 + 1 : Nat) : Int)) rfl (by kernel_rfl)) ?_
          refine WR.nil ?_
          intro w hw
          exact ⟨hl35, (), h, (sl_ (by kernel_rfl)), hw, trivial⟩
      · skip
        have h := hge33 (ige hb34)
        refine WC.exit ?_
        change WC _ _ _ _ _ _
        refine WC.region ?_
        refine va rfl rfl rfl (q_move (v := .int .i64 ((i23 : Nat) : Int)) rfl (by kernel_rfl)) ?_
        refine va rfl rfl rfl (q_add_r (r := ((i23 + 1 : Nat) : Int)) rfl rfl rfl (ctr_len hl28 (hmore.mono hl15).le)) ?_
        refine va rfl rfl rfl (q_assign (v := .int .i64 ((i23 + 1 : Nat) : Int)) rfl (by kernel_rfl)) ?_
        refine WR.nil ?_
        intro w hw
        exact ⟨hl28, (), h, (sl_ (by kernel_rfl)), hw, trivial⟩
    · skip
      have h := hge26 (ige hb27)
      refine WC.exit ?_
      change WC _ _ _ _ _ _
      refine WC.rs ?_
      refine va rfl rfl rfl (q_assign (v := .slice none 0 0) rfl (by kernel_rfl)) ?_
      refine WR.nil ?_
      change WC _ _ _ _ _ _
      refine WC.rs ?_
      refine va rfl rfl rfl (q_move (v := .slice none 0 0) rfl (by kernel_rfl)) ?_
      refine va rfl rfl rfl (q_move (v := .slice Alist list.length clist) rfl (by kernel_rfl)) ?_
      refine WR.sub (fun w hw => hw.pad) ?_
      obtain ⟨hk60, h⟩ := chk_some h
      refine e_append (T := djudge_ActT) (xs := []) (ys := list) elem_24 (i := 0) rfl rfl rfl rfl (by kernel_rfl) rfl rfl (Own.nil djudge_ActT Γ14 32) (of_decide_eq_true hk60) (fun w hw => src_sl (hlist.mono hl15) hw) ?_
      intro row61 A62 c63 ho64
      refine va rfl rfl rfl (q_assign (v := .slice A62 list.length c63) rfl (by kernel_rfl)) ?_
      refine WR.nil ?_
      change WC _ _ _ _ _ _
      refine WC.rs ?_
      refine va rfl rfl rfl (q_move (v := .slice A62 list.length c63) rfl (by kernel_rfl)) ?_
      refine va rfl rfl rfl (q_move (v := .slice Amore more.length cmore) rfl (by kernel_rfl)) ?_
      obtain ⟨hk65, h⟩ := chk_some h
      refine e_append (T := djudge_ActT) (xs := list) (ys := more) elem_24 (i := 0) rfl rfl rfl rfl rfl rfl rfl ho64 (of_decide_eq_true hk65) (fun w hw => src_sl (hmore.mono hl15) hw) ?_
      intro row66 A67 c68 ho69
      refine va rfl rfl rfl (q_assign (v := .slice A67 (list ++ more).length c68) rfl (by kernel_rfl)) ?_
      refine WR.nil ?_
      change WC _ _ _ _ _ _
      refine WC.seq ?_
      refine WC.rs ?_
      refine va rfl rfl rfl (q_assign (v := .int .i64 0) rfl (by kernel_rfl)) ?_
      refine WR.nil ?_
      change WC _ _ _ _ _ _
      refine WC.block ?_
      refine WC.forI h (fun (i73 : Nat) (s : Unit) σ w => match s with | () => ∃ (Γ70 : Gh), slots σ [(0, .slice Alist list.length clist), (5, .slice A18 z12.length c19), (8, .slice A67 (list ++ more).length c68), (9, .int .i64 ((i73 : Nat) : Int))] ∧ CC F Γ70 [row66, row20] w ∧ Gh.le Γ14 Γ70 ∧ True) ?_ ?_
      · skip
        intro w hw
        exact ⟨Γ14, (sl_ (by kernel_rfl)), hw, (Gh.refl _), trivial⟩
      rintro f72 i73 ⟨⟩ σ w hi74 hlt75 hge76 ⟨Γ70, hsl, hw, hl71, -⟩
      refine Wpt.slots hsl ?_
      refine WC.here (C := CC F Γ70 [row66, row20]) ?_ hw
      clear hw hsl
      refine WC.seq ?_
      refine WC.rs ?_
      refine va rfl rfl rfl (q_move (v := .int .i64 ((i73 : Nat) : Int)) rfl (by kernel_rfl)) ?_
      refine va rfl rfl rfl (q_move (v := .slice Alist list.length clist) rfl (by kernel_rfl)) ?_
      refine va rfl rfl rfl (q_len_slice rfl Try.underlying24 rfl) ?_
      refine va rfl rfl rfl (q_lss rfl rfl rfl) ?_
      refine WR.nil ?_
      change WC _ _ _ _ _ _
      refine WC.cond (b := (decide (((i73 : Nat) : Int) < ((list.length : Nat) : Int)))) (by kernel_rfl) (fun hb77 => ?_) (fun hb77 => ?_)
      · skip
        have hl78 := ilt hb77
        have h := hlt75 hl78
        refine WC.skip ?_
        change WC _ _ _ _ _ _
        refine WC.seq ?_
        refine WC.block ?_
        refine WC.seq ?_
        intro w hw; have h079 := hw.le
        refine WC.here (C := CC F Γ70 [row66, row20]) ?_ hw; clear hw
        refine WC.held (CC F Γ70 [row20]) (by kernel_rfl) (fun w hw => hw.drawn _) ?_
        change WH _ _ _ _ (CC F Γ70 [row66, row20]) _ 34 #[false, false, false, false, false, false, false, false, false, false, false, false, false, false, false, false, false, false, false, false, false, false, false, false, false, false, false, false, false, false, false, false, false, false] _
        refine ht (i := 0) rfl (by kernel_rfl) rfl rfl rfl (fun w hw => hw.back (Gh.refl _) h079 (.cons _ (.cons_cons _ .slnil))) (q_move (v := .slice Alist list.length clist) rfl (by kernel_rfl)) ?_
        refine ht (i := 1) rfl (by kernel_rfl) rfl rfl rfl (fun w hw => hw.back (Gh.refl _) h079 (.cons _ (.cons_cons _ .slnil))) (q_move (v := .int .i64 ((i73 : Nat) : Int)) rfl (by kernel_rfl)) ?_
        refine ht (i := 2) rfl (by kernel_rfl) rfl rfl rfl (fun w hw => hw.back (Gh.refl _) h079 (.cons _ (.cons_cons _ .slnil))) (q_ixn (i := i73) Try.underlying24 Try.sizeOf32 rfl rfl rfl hl78 ((hlist.mono (hl15.trans hl71)).some_ hl78)) ?_
        refine ht (i := 3) rfl (by kernel_rfl) rfl rfl rfl (fun w hw => hw.back (Gh.refl _) h079 (.cons _ (.cons_cons _ .slnil))) (q_field_addr (i73 * 8) fld_32_0 rfl rfl ((hlist.mono (hl15.trans hl71)).some_ hl78) rfl) ?_
        obtain ⟨A80, c81, A82, c83, hx84⟩ := (hlist.mono (hl15.trans hl71)).djudge_ActT_at i73
        refine ht (i := 4) rfl (by kernel_rfl) rfl rfl rfl (fun w hw => hw.back (Gh.refl _) h079 (.cons _ (.cons_cons _ .slnil))) (q_ld (c := 0) (v := .bool (gt list i73).read) (hx84 hl78).2 rfl Try.isAgg4 rfl rfl) ?_
        refine ht (i := 5) rfl (by kernel_rfl) rfl rfl rfl (fun w hw => hw.back (Gh.refl _) h079 (.cons _ (.cons_cons _ .slnil))) (q_not rfl rfl) ?_
        refine ht (i := 6) rfl (by kernel_rfl) rfl rfl rfl (fun w hw => hw.back (Gh.refl _) h079 (.cons _ (.cons_cons _ .slnil))) (q_move (v := .bool (!(gt list i73).read)) rfl (by kernel_rfl)) ?_
        refine hg1 (i := 7) rfl (by kernel_rfl) rfl rfl rfl rfl rfl (fun w hw => hw.back (Gh.refl _) h079 (.cons _ (.cons_cons _ .slnil))) (fun hg85 => (q_move (v := .slice A67 (list ++ more).length c68) rfl (by kernel_rfl))) ?_
        refine hg1 (i := 8) rfl (by kernel_rfl) rfl rfl rfl rfl rfl (fun w hw => hw.back (Gh.refl _) h079 (.cons _ (.cons_cons _ .slnil))) (fun hg86 => (q_move (v := .slice Alist list.length clist) rfl (by kernel_rfl))) ?_
        refine hg1 (i := 9) rfl (by kernel_rfl) rfl rfl rfl rfl rfl (fun w hw => hw.back (Gh.refl _) h079 (.cons _ (.cons_cons _ .slnil))) (fun hg87 => (q_move (v := .int .i64 ((i73 : Nat) : Int)) rfl (by kernel_rfl))) ?_
        refine hg1 (i := 10) rfl (by kernel_rfl) rfl rfl rfl rfl rfl (fun w hw => hw.back (Gh.refl _) h079 (.cons _ (.cons_cons _ .slnil))) (fun hg88 => (q_ixn (i := i73) Try.underlying24 Try.sizeOf32 rfl (gu hg88 rfl) (gu hg88 rfl) hl78 ((hlist.mono (hl15.trans hl71)).some_ hl78))) ?_
        refine hg1 (i := 11) rfl (by kernel_rfl) rfl rfl rfl rfl rfl (fun w hw => hw.back (Gh.refl _) h079 (.cons _ (.cons_cons _ .slnil))) (fun hg89 => (q_field_addr (i73 * 8 + 3) fld_32_3 rfl (gu hg89 rfl) ((hlist.mono (hl15.trans hl71)).some_ hl78) rfl)) ?_
        refine hg1 (i := 12) rfl (by kernel_rfl) rfl rfl rfl rfl rfl (fun w hw => hw.back (Gh.refl _) h079 (.cons _ (.cons_cons _ .slnil))) (fun hg90 => (q_lda (c := 3) (vs := [.int .i64 (gt list i73).dot.s, .int .i64 (gt list i73).dot.n]) (hx84 hl78).2 rfl Try.isAgg27 Try.sizeOf27 (gu hg90 rfl) rfl rfl)) ?_
        refine hg1 (i := 14) rfl (by kernel_rfl) rfl rfl rfl rfl rfl (fun w hw => hw.back (Gh.refl _) h079 (.cons _ (.cons_cons _ .slnil))) (fun hg91 => (q_move (v := .slice Alist list.length clist) rfl (by kernel_rfl))) ?_
        refine hg1 (i := 15) rfl (by kernel_rfl) rfl rfl rfl rfl rfl (fun w hw => hw.back (Gh.refl _) h079 (.cons _ (.cons_cons _ .slnil))) (fun hg92 => (q_move (v := .slice Alist list.length clist) rfl (by kernel_rfl))) ?_
        refine hg1 (i := 16) rfl (by kernel_rfl) rfl rfl rfl rfl rfl (fun w hw => hw.back (Gh.refl _) h079 (.cons _ (.cons_cons _ .slnil))) (fun hg93 => (q_move (v := .int .i64 ((i73 : Nat) : Int)) rfl (by kernel_rfl))) ?_
        refine hg1 (i := 17) rfl (by kernel_rfl) rfl rfl rfl rfl rfl (fun w hw => hw.back (Gh.refl _) h079 (.cons _ (.cons_cons _ .slnil))) (fun hg94 => (q_ixn (i := i73) Try.underlying24 Try.sizeOf32 rfl (gu hg94 rfl) (gu hg94 rfl) hl78 ((hlist.mono (hl15.trans hl71)).some_ hl78))) ?_
        refine hg1 (i := 18) rfl (by kernel_rfl) rfl rfl rfl rfl rfl (fun w hw => hw.back (Gh.refl _) h079 (.cons _ (.cons_cons _ .slnil))) (fun hg95 => (q_field_addr (i73 * 8 + 3) fld_32_3 rfl (gu hg95 rfl) ((hlist.mono (hl15.trans hl71)).some_ hl78) rfl)) ?_
        refine hg1 (i := 19) rfl (by kernel_rfl) rfl rfl rfl rfl rfl (fun w hw => hw.back (Gh.refl _) h079 (.cons _ (.cons_cons _ .slnil))) (fun hg96 => (q_lda (c := 3) (vs := [.int .i64 (gt list i73).dot.s, .int .i64 (gt list i73).dot.n]) (hx84 hl78).2 rfl Try.isAgg27 Try.sizeOf27 (gu hg96 rfl) rfl rfl)) ?_
        refine (Bool.eq_false_or_eq_true (!(gt list i73).read)).elim (fun hb97 => ?_) (fun hb97 => ?_)
        · skip
          have h := bt hb97 h
          refine WH.lone (i := 13) (by kernel_rfl) rfl ?_
          refine WR.sat (c0 := true) (g := (!(gt list i73).read)) rfl rfl rfl hb97 ?_
          obtain ⟨z98, hz99, h⟩ := bnd h
          refine e_callB (is := []) (Lent.nil F) rfl rfl (call_run Try.call9 rfl rfl (args2 (gu hb97 rfl) (gu hb97 rfl))) rfl (fun w Θ hp hpB hle hleB hR => t_judge_Behind_l0 (own_lent (ho69.mono hl71) hR (List.mem_of_getElem? (i := 0) rfl) hle) (ho69.mono hl71).capz ((gt list i73).dot) (Dot.fits_mono ⟨(hx84 hl78).1.2.2.1, (hx84 hl78).1.2.2.2.1⟩ hle) hp hpB hz99) ?_
          rintro Γ100 U102 v103 hl101 ⟨A104, c105, row106, rfl, rfl, hr107, _⟩
          change WR _ _ _ (CC F Γ100 [row106, row66, row20]) _ _ (upd _ 79 (.slice A104 z98.length c105))
          refine WR.nil ?_
          refine WH.next (fun w hw => hw.back hl101 h079 (.cons _ (.cons _ (.cons_cons _ .slnil)))) ?_
          refine WH.lone (i := 20) (by kernel_rfl) rfl ?_
          refine WR.sat (c0 := true) (g := (!(gt list i73).read)) rfl rfl rfl hb97 ?_
          obtain ⟨z108, hz109, h⟩ := bnd h
          refine e_callB (is := []) (Lent.nil F) rfl rfl (call_run Try.call9 rfl rfl (args2 (gu hb97 rfl) (gu hb97 rfl))) rfl (fun w Θ hp hpB hle hleB hR => t_judge_Behind_l0 ((hlist.mono ((hl15.trans hl71).trans hl101)).mono hle) hlistc ((gt list i73).dot) (Dot.fits_mono ⟨(hx84 hl78).1.2.2.1, (hx84 hl78).1.2.2.2.1⟩ hle) hp hpB hz109) ?_
          rintro Γ110 U112 v113 hl111 ⟨A114, c115, row116, rfl, rfl, hr117, _⟩
          change WR _ _ _ (CC F Γ110 [row116, row106, row66, row20]) _ _ (upd _ 86 (.slice A114 z108.length c115))
          refine WR.nil ?_
          refine WH.next (fun w hw => hw.back (hl101.trans hl111) h079 (.cons _ (.cons _ (.cons _ (.cons_cons _ .slnil))))) ?_
          refine WH.lone (i := 21) (by kernel_rfl) rfl ?_
          obtain ⟨z119, hz120, h⟩ := bnd h
          refine vg1 rfl rfl rfl rfl rfl (fun hg118 => (q_call (call_run Try.call12 rfl rfl (by kernel_rfl)) (fun w hw => t_firthref23_Same (Γ := Gh.all w) ((hr107.mono hl111).sl hw.sat.le_all (hw.ra 1 rfl)) (hr107.mono hl111).capz (hr117.sl hw.sat.le_all (hw.ra 0 rfl)) hr117.capz (Sat.all w) (gc_of hz120 hg118)))) ?_
          refine WR.nil ?_
          refine WH.next (fun w hw => hw.back (hl101.trans hl111) h079 (.cons _ (.cons _ (.cons _ (.cons_cons _ .slnil))))) ?_
          refine hg1 (i := 22) rfl (by kernel_rfl) rfl rfl rfl rfl rfl (fun w hw => hw.back (hl101.trans hl111) h079 (.cons _ (.cons _ (.cons _ (.cons_cons _ .slnil))))) (fun hg121 => (q_not rfl (gu hg121 rfl))) ?_
          refine ht (i := 23) rfl (by kernel_rfl) rfl rfl rfl (fun w hw => hw.back (hl101.trans hl111) h079 (.cons _ (.cons _ (.cons _ (.cons_cons _ .slnil))))) (q_pick_t (v := .bool (!z119)) rfl rfl hb97 (gu hb97 rfl)) ?_
          refine ht (i := 24) rfl (by kernel_rfl) rfl rfl rfl (fun w hw => hw.back (hl101.trans hl111) h079 (.cons _ (.cons _ (.cons _ (.cons_cons _ .slnil))))) (q_move (v := .bool (!z119)) rfl (by kernel_rfl)) ?_
          refine hg1 (i := 25) rfl (by kernel_rfl) rfl rfl rfl rfl rfl (fun w hw => hw.back (hl101.trans hl111) h079 (.cons _ (.cons _ (.cons _ (.cons_cons _ .slnil))))) (fun hg122 => (q_move (v := .slice A18 z12.length c19) rfl (by kernel_rfl))) ?_
          refine hg1 (i := 26) rfl (by kernel_rfl) rfl rfl rfl rfl rfl (fun w hw => hw.back (hl101.trans hl111) h079 (.cons _ (.cons _ (.cons _ (.cons_cons _ .slnil))))) (fun hg123 => (q_move (v := .slice Alist list.length clist) rfl (by kernel_rfl))) ?_
          refine hg1 (i := 27) rfl (by kernel_rfl) rfl rfl rfl rfl rfl (fun w hw => hw.back (hl101.trans hl111) h079 (.cons _ (.cons _ (.cons _ (.cons_cons _ .slnil))))) (fun hg124 => (q_move (v := .int .i64 ((i73 : Nat) : Int)) rfl (by kernel_rfl))) ?_
          refine hg1 (i := 28) rfl (by kernel_rfl) rfl rfl rfl rfl rfl (fun w hw => hw.back (hl101.trans hl111) h079 (.cons _ (.cons _ (.cons _ (.cons_cons _ .slnil))))) (fun hg125 => (q_ixn (i := i73) Try.underlying24 Try.sizeOf32 rfl (gu hg125 rfl) (gu hg125 rfl) hl78 ((hlist.mono (hl15.trans hl71)).some_ hl78))) ?_
          refine hg1 (i := 29) rfl (by kernel_rfl) rfl rfl rfl rfl rfl (fun w hw => hw.back (hl101.trans hl111) h079 (.cons _ (.cons _ (.cons _ (.cons_cons _ .slnil))))) (fun hg126 => (q_field_addr (i73 * 8 + 3) fld_32_3 rfl (gu hg126 rfl) ((hlist.mono (hl15.trans hl71)).some_ hl78) rfl)) ?_
          refine hg1 (i := 30) rfl (by kernel_rfl) rfl rfl rfl rfl rfl (fun w hw => hw.back (hl101.trans hl111) h079 (.cons _ (.cons _ (.cons _ (.cons_cons _ .slnil))))) (fun hg127 => (q_lda (c := 3) (vs := [.int .i64 (gt list i73).dot.s, .int .i64 (gt list i73).dot.n]) (hx84 hl78).2 rfl Try.isAgg27 Try.sizeOf27 (gu hg127 rfl) rfl rfl)) ?_
          refine WH.lone (i := 31) (by kernel_rfl) rfl ?_
          obtain ⟨z129, hz130, h⟩ := bnd h
          refine vg1 rfl rfl rfl rfl rfl (fun hg128 => (q_call (call_run Try.call13 rfl rfl (args2 (gu hg128 rfl) (gu hg128 rfl))) (fun w hw => t_firthref23_First (Γ := Gh.all w) ((hr21.mono ((hl71.trans hl101).trans hl111)).sl hw.sat.le_all (hw.ra 3 rfl)) (hr21.mono ((hl71.trans hl101).trans hl111)).capz ((gt list i73).dot) ⟨(hx84 hl78).1.2.2.1, (hx84 hl78).1.2.2.2.1⟩ (Sat.all w) (gc_of hz130 hg128)))) ?_
          refine WR.nil ?_
          refine WH.next (fun w hw => hw.back (hl101.trans hl111) h079 (.cons _ (.cons _ (.cons _ (.cons_cons _ .slnil))))) ?_
          refine hg1 (i := 32) rfl (by kernel_rfl) rfl rfl rfl rfl rfl (fun w hw => hw.back (hl101.trans hl111) h079 (.cons _ (.cons _ (.cons _ (.cons_cons _ .slnil))))) (fun hg131 => (q_geq rfl (gu hg131 rfl) rfl)) ?_
          refine ht (i := 33) rfl (by kernel_rfl) rfl rfl rfl (fun w hw => hw.back (hl101.trans hl111) h079 (.cons _ (.cons _ (.cons _ (.cons_cons _ .slnil))))) (q_pick rfl rfl (pk_and' (g := (!z119)) (y := (decide (0 ≤ z129))))) ?_
          refine WH.done (by kernel_rfl) ?_
          change WC _ _ _ _ _ _
          refine WC.cif h (by kernel_rfl) (fun hb132 h => ?_) (fun hb132 h => ?_)
          · skip
            refine WC.rs ?_
            refine va rfl rfl rfl (q_assign (v := .bool false) rfl (by kernel_rfl)) ?_
            refine WR.nil ?_
            change WC _ _ _ _ _ _
            refine WC.ret ?_
            intro w hw
            obtain rfl := Option.some.inj h
            subst hF
            exact ⟨by kernel_rfl, hw.fr⟩
          · skip
            refine WC.skip ?_
            change WC _ _ _ _ _ _
            refine WC.region ?_
            refine va rfl rfl rfl (q_move (v := .int .i64 ((i73 : Nat) : Int)) rfl (by kernel_rfl)) ?_
            refine va rfl rfl rfl (q_add_r (r := ((i73 + 1 : Nat) : Int)) rfl rfl rfl (ctr_len hl78 (hlist.mono (hl15.trans hl71)).le)) ?_
            refine va rfl rfl rfl (q_assign (v := .int .i64 ((i73 + 1 : Nat) : Int)) rfl (by kernel_rfl)) ?_
            refine WR.nil ?_
            intro w hw
            exact ⟨hl78, (), h, Γ110, (sl_ (by kernel_rfl)), (hw.only (is := [2, 2]) rfl), ((hl71.trans hl101).trans hl111), trivial⟩
        · skip
          have h := bf hb97 h
          refine hg1 (g := (!(gt list i73).read)) (i := 13) (v := undef) rfl (by kernel_rfl) rfl rfl rfl rfl rfl (fun w hw => hw.back (Gh.refl _) h079 (.cons _ (.cons_cons _ .slnil))) (no_tf hb97) ?_
          refine WH.env (v := undef) (gv_false hb97) ?_
          refine hg1 (g := (!(gt list i73).read)) (i := 20) (v := undef) rfl (by kernel_rfl) rfl rfl rfl rfl rfl (fun w hw => hw.back (Gh.refl _) h079 (.cons _ (.cons_cons _ .slnil))) (no_tf hb97) ?_
          refine WH.env (v := undef) (gv_false hb97) ?_
          refine hg1 (g := (!(gt list i73).read)) (i := 21) (v := undef) rfl (by kernel_rfl) rfl rfl rfl rfl rfl (fun w hw => hw.back (Gh.refl _) h079 (.cons _ (.cons_cons _ .slnil))) (no_tf hb97) ?_
          refine WH.env (v := undef) (gv_false hb97) ?_
          refine hg1 (g := (!(gt list i73).read)) (i := 22) (v := undef) rfl (by kernel_rfl) rfl rfl rfl rfl rfl (fun w hw => hw.back (Gh.refl _) h079 (.cons _ (.cons_cons _ .slnil))) (no_tf hb97) ?_
          refine WH.env (v := undef) (gv_false hb97) ?_
          refine ht (i := 23) rfl (by kernel_rfl) rfl rfl rfl (fun w hw => hw.back (Gh.refl _) h079 (.cons _ (.cons_cons _ .slnil))) (q_pick_f (v := .bool false) rfl rfl hb97 (by kernel_rfl)) ?_
          refine ht (i := 24) rfl (by kernel_rfl) rfl rfl rfl (fun w hw => hw.back (Gh.refl _) h079 (.cons _ (.cons_cons _ .slnil))) (q_move (v := .bool false) rfl (by kernel_rfl)) ?_
          refine hg1 (g := false) (i := 25) (v := undef) rfl (by kernel_rfl) rfl rfl rfl rfl rfl (fun w hw => hw.back (Gh.refl _) h079 (.cons _ (.cons_cons _ .slnil))) (no_tf rfl) ?_
          refine WH.env (v := undef) (gv_false rfl) ?_
          refine hg1 (g := false) (i := 26) (v := undef) rfl (by kernel_rfl) rfl rfl rfl rfl rfl (fun w hw => hw.back (Gh.refl _) h079 (.cons _ (.cons_cons _ .slnil))) (no_tf rfl) ?_
          refine WH.env (v := undef) (gv_false rfl) ?_
          refine hg1 (g := false) (i := 27) (v := undef) rfl (by kernel_rfl) rfl rfl rfl rfl rfl (fun w hw => hw.back (Gh.refl _) h079 (.cons _ (.cons_cons _ .slnil))) (no_tf rfl) ?_
          refine WH.env (v := undef) (gv_false rfl) ?_
          refine hg1 (g := false) (i := 28) (v := undef) rfl (by kernel_rfl) rfl rfl rfl rfl rfl (fun w hw => hw.back (Gh.refl _) h079 (.cons _ (.cons_cons _ .slnil))) (no_tf rfl) ?_
          refine WH.env (v := undef) (gv_false rfl) ?_
          refine hg1 (g := false) (i := 29) (v := undef) rfl (by kernel_rfl) rfl rfl rfl rfl rfl (fun w hw => hw.back (Gh.refl _) h079 (.cons _ (.cons_cons _ .slnil))) (no_tf rfl) ?_
          refine WH.env (v := undef) (gv_false rfl) ?_
          refine hg1 (g := false) (i := 30) (v := undef) rfl (by kernel_rfl) rfl rfl rfl rfl rfl (fun w hw => hw.back (Gh.refl _) h079 (.cons _ (.cons_cons _ .slnil))) (no_tf rfl) ?_
          refine WH.env (v := undef) (gv_false rfl) ?_
          refine hg1 (g := false) (i := 31) (v := undef) rfl (by kernel_rfl) rfl rfl rfl rfl rfl (fun w hw => hw.back (Gh.refl _) h079 (.cons _ (.cons_cons _ .slnil))) (no_tf rfl) ?_
          refine WH.env (v := undef) (gv_false rfl) ?_
          refine hg1 (g := false) (i := 32) (v := undef) rfl (by kernel_rfl) rfl rfl rfl rfl rfl (fun w hw => hw.back (Gh.refl _) h079 (.cons _ (.cons_cons _ .slnil))) (no_tf rfl) ?_
          refine WH.env (v := undef) (gv_false rfl) ?_
          refine ht (i := 33) rfl (by kernel_rfl) rfl rfl rfl (fun w hw => hw.back (Gh.refl _) h079 (.cons _ (.cons_cons _ .slnil))) (q_pickf (v := .bool false) rfl rfl rfl) ?_
          refine WH.done (by kernel_rfl) ?_
          change WC _ _ _ _ _ _
          refine WC.cfk (b := false) (by kernel_rfl) rfl ?_
          refine WC.skip ?_
          change WC _ _ _ _ _ _
          refine WC.region ?_
          refine va rfl rfl rfl (q_move (v := .int .i64 ((i73 : Nat) : Int)) rfl (by kernel_rfl)) ?_
          refine va rfl rfl rfl (q_add_r (r := ((i73 + 1 : Nat) : Int)) rfl rfl rfl (ctr_len hl78 (hlist.mono (hl15.trans hl71)).le)) ?_
          refine va rfl rfl rfl (q_assign (v := .int .i64 ((i73 + 1 : Nat) : Int)) rfl (by kernel_rfl)) ?_
          refine WR.nil ?_
          intro w hw
          exact ⟨hl78, (), h, Γ70, (sl_ (by kernel_rfl)), hw, hl71, trivial⟩
      · skip
        have h := hge76 (ige hb77)
        refine WC.exit ?_
        change WC _ _ _ _ _ _
        refine WC.rs ?_
        refine va rfl rfl rfl (q_assign (v := .bool true) rfl (by kernel_rfl)) ?_
        refine WR.nil ?_
        change WC _ _ _ _ _ _
        refine WC.ret ?_
        intro w hw
        obtain rfl := Option.some.inj h
        subst hF
        exact ⟨by kernel_rfl, hw.fr⟩
end Fw
end Go.Proofs.Ytldpanjodokefaa
