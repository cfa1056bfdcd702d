/- Walks through the functions that the law reaches (printed by a program). No condition. -/
import Derived.Test.YtldpanjodokefaaW1
namespace Go.Proofs.Ytldpanjodokefaa
namespace Fw
set_option linter.unusedVariables false
set_option linter.unusedSimpArgs false
set_option linter.unusedSectionVars false
open Go.RowKit
set_option maxRecDepth 100000 in
set_option maxHeartbeats 400000 in
theorem t_firthlaw23_awake {Γ : Gh} {w0 : World}  (hs : Sat Γ w0) {r : Bool} (h : m_firthlaw23_awake = some r) : Calls Try.prog 7 #[] w0 (fun e w' => e = .returned (.bool r) ∧ Fr no w0 w') := by
  refine calls_of (N := 57) (rs := [0]) (args := []) Try.func7 rfl Try.ntmps7 Try.results7 rfl ?_
  obtain ⟨F, hF⟩ : ∃ F : Fm, F = ⟨no, w0, Γ⟩ := ⟨_, rfl⟩
  refine WC.here (C := CC F Γ []) ?_ (hF ▸ Cur.start0 hs)
  refine WC.rs ?_
  refine va rfl rfl rfl (q_assign (v := .bool false) rfl (by kernel_rfl)) ?_
  refine WR.nil ?_
  change WC _ _ _ _ _ _
  refine WC.rs ?_
  obtain ⟨z1, hz2, h⟩ := bnd h
  refine vc rfl rfl rfl (q_call (call_run Try.call8 rfl rfl (by kernel_rfl)) (fun w hw => t_firthlaw23_dot (Γ := Gh.all w) 1 (show I64 1 by decide) 1 (show I64 1 by decide) (Sat.all w) hz2)) ?_
  refine va rfl rfl rfl (q_build' (v := .agg #[.bool false, .int .i64 1, .string (⟨#[107]⟩ : ByteArray), .int .i64 z1.s, .int .i64 z1.n, .bool true, .slice none 0 0, .slice none 0 0]) rfl (bargs4 rfl rfl rfl rfl) (fun w => by kernel_rfl)) ?_
  obtain ⟨z3, hz4, h⟩ := bnd h
  refine vc rfl rfl rfl (q_call (call_run Try.call8 rfl rfl (by kernel_rfl)) (fun w hw => t_firthlaw23_dot (Γ := Gh.all w) 1 (show I64 1 by decide) 2 (show I64 2 by decide) (Sat.all w) hz4)) ?_
  refine va rfl rfl rfl (q_build' (v := .agg #[.bool false, .int .i64 1, .string (⟨#[107]⟩ : ByteArray), .int .i64 z3.s, .int .i64 z3.n, .bool true, .slice none 0 0, .slice none 0 0]) rfl (bargs4 rfl rfl rfl rfl) (fun w => by kernel_rfl)) ?_
  obtain ⟨z5, hz6, h⟩ := bnd h
  refine vc rfl rfl rfl (q_call (call_run Try.call8 rfl rfl (by kernel_rfl)) (fun w hw => t_firthlaw23_dot (Γ := Gh.all w) 1 (show I64 1 by decide) 2 (show I64 2 by decide) (Sat.all w) hz6)) ?_
  refine e_buildSlice (cs := #[.int .i64 z5.s, .int .i64 z5.n]) (e := 27) rfl rfl rfl rfl (fun w => by kernel_rfl) ?_
  intro g7
  refine e_buildSlice (cs := #[.int .i64 2, .int .i64 0]) (e := 2) rfl rfl rfl rfl (fun w => by kernel_rfl) ?_
  intro g8
  refine va rfl rfl rfl (q_build' (v := .agg #[.bool true, .int .i64 3, .string (⟨#[107]⟩ : ByteArray), .int .i64 0, .int .i64 0, .bool true, .slice (some ⟨g7, 0, none⟩) 1 1, .slice (some ⟨g8, 0, none⟩) 2 2]) rfl (bargs6 rfl rfl rfl rfl rfl rfl) (fun w => by kernel_rfl)) ?_
  obtain ⟨z9, hz10, h⟩ := bnd h
  refine vc rfl rfl rfl (q_call (call_run Try.call8 rfl rfl (by kernel_rfl)) (fun w hw => t_firthlaw23_dot (Γ := Gh.all w) 2 (show I64 2 by decide) 1 (show I64 1 by decide) (Sat.all w) hz10)) ?_
  refine va rfl rfl rfl (q_build' (v := .agg #[.bool false, .int .i64 3, .string (⟨#[107]⟩ : ByteArray), .int .i64 z9.s, .int .i64 z9.n, .bool true, .slice none 0 0, .slice none 0 0]) rfl (bargs4 rfl rfl rfl rfl) (fun w => by kernel_rfl)) ?_
  obtain ⟨hk11, h⟩ := chk_some h
  obtain ⟨hk12, h⟩ := chk_some h
  have ho13 : Own dotT Γ 27 [(g7, .cells #[.int .i64 z5.s, .int .i64 z5.n] 27 (0, 0))] (some ⟨g7, 0, none⟩) 1 [z5] := Own.of_blockL (T := dotT) (ys := [z5]) [[.int .i64 z5.s, .int .i64 z5.n]] rfl (show 1 ≤ lim by decide) (show Ty.rd dotT Γ [.int .i64 z5.s, .int .i64 z5.n] z5 ∧ True from ⟨⟨rfl, ⟨(i64b_of hk11), (i64b_of hk12)⟩⟩, trivial⟩)
  have hc18 := ho13.capz
  intro w hw; obtain ⟨Γ14, hw, hl15, hr16⟩ := hw.seal (i := 1) rfl; have hs17 := ho13.sl hl15 hr16
  refine WR.here (C := CC F Γ14 [[(g8, .cells #[.int .i64 2, .int .i64 0] 2 (0, 0))], []]) ?_ hw
  clear hw
  have ho19 : Own intT Γ14 2 [(g8, .cells #[.int .i64 2, .int .i64 0] 2 (0, 0))] (some ⟨g8, 0, none⟩) 2 [2, 0] := Own.of_blockL (T := intT) (ys := [2, 0]) [[.int .i64 2], [.int .i64 0]] rfl (show 2 ≤ lim by decide) (show Ty.rd intT Γ14 [.int .i64 2] 2 ∧ Ty.rd intT Γ14 [.int .i64 0] 0 ∧ True from ⟨⟨rfl, (show I64 2 by decide)⟩, ⟨rfl, (show I64 0 by decide)⟩, trivial⟩)
  have hc24 := ho19.capz
  intro w hw; obtain ⟨Γ20, hw, hl21, hr22⟩ := hw.seal (i := 0) rfl; have hs23 := ho19.sl hl21 hr22
  refine WR.here (C := CC F Γ20 [[], []]) ?_ hw
  clear hw
  refine e_buildSlice (cs := #[.bool false, .int .i64 1, .string (⟨#[107]⟩ : ByteArray), .int .i64 z1.s, .int .i64 z1.n, .bool true, .slice none 0 0, .slice none 0 0, .bool false, .int .i64 1, .string (⟨#[107]⟩ : ByteArray), .int .i64 z3.s, .int .i64 z3.n, .bool true, .slice none 0 0, .slice none 0 0, .bool true, .int .i64 3, .string (⟨#[107]⟩ : ByteArray), .int .i64 0, .int .i64 0, .bool true, .slice (some ⟨g7, 0, none⟩) [z5].length 1, .slice (some ⟨g8, 0, none⟩) [2, 0].length 2, .bool false, .int .i64 3, .string (⟨#[107]⟩ : ByteArray), .int .i64 z9.s, .int .i64 z9.n, .bool true, .slice none 0 0, .slice none 0 0]) (e := 32) rfl rfl rfl rfl (fun w => by kernel_rfl) ?_
  intro g25
  refine va rfl rfl rfl (q_assign (v := .slice (some ⟨g25, 0, none⟩) 4 4) rfl (by kernel_rfl)) ?_
  refine WR.nil ?_
  change WC _ _ _ _ _ _
  refine WC.rs ?_
  refine va rfl rfl rfl (q_move (v := .slice (some ⟨g25, 0, none⟩) 4 4) rfl (by kernel_rfl)) ?_
  obtain ⟨hk26, h⟩ := chk_some h
  obtain ⟨hk27, h⟩ := chk_some h
  obtain ⟨hk28, h⟩ := chk_some h
  obtain ⟨hk29, h⟩ := chk_some h
  obtain ⟨hk30, h⟩ := chk_some h
  obtain ⟨hk31, h⟩ := chk_some h
  have ho32 : Own djudge_ActT Γ20 32 [(g25, .cells #[.bool false, .int .i64 1, .string (⟨#[107]⟩ : ByteArray), .int .i64 z1.s, .int .i64 z1.n, .bool true, .slice none 0 0, .slice none 0 0, .bool false, .int .i64 1, .string (⟨#[107]⟩ : ByteArray), .int .i64 z3.s, .int .i64 z3.n, .bool true, .slice none 0 0, .slice none 0 0, .bool true, .int .i64 3, .string (⟨#[107]⟩ : ByteArray), .int .i64 0, .int .i64 0, .bool true, .slice (some ⟨g7, 0, none⟩) [z5].length 1, .slice (some ⟨g8, 0, none⟩) [2, 0].length 2, .bool false, .int .i64 3, .string (⟨#[107]⟩ : ByteArray), .int .i64 z9.s, .int .i64 z9.n, .bool true, .slice none 0 0, .slice none 0 0] 32 (0, 0))] (some ⟨g25, 0, none⟩) 4 [(⟨false, 1, (⟨#[107]⟩ : ByteArray), (⟨z1.s, z1.n⟩ : Dot), true, [], []⟩ : Djudge_Act), (⟨false, 1, (⟨#[107]⟩ : ByteArray), (⟨z3.s, z3.n⟩ : Dot), true, [], []⟩ : Djudge_Act), (⟨true, 3, (⟨#[107]⟩ : ByteArray), (⟨0, 0⟩ : Dot), true, [z5], [2, 0]⟩ : Djudge_Act), (⟨false, 3, (⟨#[107]⟩ : ByteArray), (⟨z9.s, z9.n⟩ : Dot), true, [], []⟩ : Djudge_Act)] := Own.of_blockL (T := djudge_ActT) (ys := [(⟨false, 1, (⟨#[107]⟩ : ByteArray), (⟨z1.s, z1.n⟩ : Dot), true, [], []⟩ : Djudge_Act), (⟨false, 1, (⟨#[107]⟩ : ByteArray), (⟨z3.s, z3.n⟩ : Dot), true, [], []⟩ : Djudge_Act), (⟨true, 3, (⟨#[107]⟩ : ByteArray), (⟨0, 0⟩ : Dot), true, [z5], [2, 0]⟩ : Djudge_Act), (⟨false, 3, (⟨#[107]⟩ : ByteArray), (⟨z9.s, z9.n⟩ : Dot), true, [], []⟩ : Djudge_Act)]) [[.bool false, .int .i64 1, .string (⟨#[107]⟩ : ByteArray), .int .i64 z1.s, .int .i64 z1.n, .bool true, .slice none 0 0, .slice none 0 0], [.bool false, .int .i64 1, .string (⟨#[107]⟩ : ByteArray), .int .i64 z3.s, .int .i64 z3.n, .bool true, .slice none 0 0, .slice none 0 0], [.bool true, .int .i64 3, .string (⟨#[107]⟩ : ByteArray), .int .i64 0, .int .i64 0, .bool true, .slice (some ⟨g7, 0, none⟩) [z5].length 1, .slice (some ⟨g8, 0, none⟩) [2, 0].length 2], [.bool false, .int .i64 3, .string (⟨#[107]⟩ : ByteArray), .int .i64 z9.s, .int .i64 z9.n, .bool true, .slice none 0 0, .slice none 0 0]] rfl (show 4 ≤ lim by decide) (show Ty.rd djudge_ActT Γ20 [.bool false, .int .i64 1, .string (⟨#[107]⟩ : ByteArray), .int .i64 z1.s, .int .i64 z1.n, .bool true, .slice none 0 0, .slice none 0 0] (⟨false, 1, (⟨#[107]⟩ : ByteArray), (⟨z1.s, z1.n⟩ : Dot), true, [], []⟩ : Djudge_Act) ∧ Ty.rd djudge_ActT Γ20 [.bool false, .int .i64 1, .string (⟨#[107]⟩ : ByteArray), .int .i64 z3.s, .int .i64 z3.n, .bool true, .slice none 0 0, .slice none 0 0] (⟨false, 1, (⟨#[107]⟩ : ByteArray), (⟨z3.s, z3.n⟩ : Dot), true, [], []⟩ : Djudge_Act) ∧ Ty.rd djudge_ActT Γ20 [.bool true, .int .i64 3, .string (⟨#[107]⟩ : ByteArray), .int .i64 0, .int .i64 0, .bool true, .slice (some ⟨g7, 0, none⟩) [z5].length 1, .slice (some ⟨g8, 0, none⟩) [2, 0].length 2] (⟨true, 3, (⟨#[107]⟩ : ByteArray), (⟨0, 0⟩ : Dot), true, [z5], [2, 0]⟩ : Djudge_Act) ∧ Ty.rd djudge_ActT Γ20 [.bool false, .int .i64 3, .string (⟨#[107]⟩ : ByteArray), .int .i64 z9.s, .int .i64 z9.n, .bool true, .slice none 0 0, .slice none 0 0] (⟨false, 3, (⟨#[107]⟩ : ByteArray), (⟨z9.s, z9.n⟩ : Dot), true, [], []⟩ : Djudge_Act) ∧ True from ⟨⟨none, 0, none, 0, rfl, ⟨(show I64 1 by decide), (show (⟨#[107]⟩ : ByteArray).size ≤ lim by decide), (i64b_of hk26), (i64b_of hk27), ⟨Nat.zero_le _, Sl.nil _ _ _⟩, ⟨Nat.zero_le _, Sl.nil _ _ _⟩⟩⟩, ⟨none, 0, none, 0, rfl, ⟨(show I64 1 by decide), (show (⟨#[107]⟩ : ByteArray).size ≤ lim by decide), (i64b_of hk28), (i64b_of hk29), ⟨Nat.zero_le _, Sl.nil _ _ _⟩, ⟨Nat.zero_le _, Sl.nil _ _ _⟩⟩⟩, ⟨(some ⟨g7, 0, none⟩), 1, (some ⟨g8, 0, none⟩), 2, rfl, ⟨(show I64 3 by decide), (show (⟨#[107]⟩ : ByteArray).size ≤ lim by decide), (show I64 0 by decide), (show I64 0 by decide), ⟨hc18, (hs17.mono hl21)⟩, ⟨hc24, hs23⟩⟩⟩, ⟨none, 0, none, 0, rfl, ⟨(show I64 3 by decide), (show (⟨#[107]⟩ : ByteArray).size ≤ lim by decide), (i64b_of hk30), (i64b_of hk31), ⟨Nat.zero_le _, Sl.nil _ _ _⟩, ⟨Nat.zero_le _, Sl.nil _ _ _⟩⟩⟩, trivial⟩)
  obtain ⟨z33, hz34, h⟩ := bnd h
  refine e_callB (is := []) (Lent.nil F) rfl rfl (call_run Try.call14 rfl rfl (by kernel_rfl)) rfl (fun w Θ hp hpB hle hleB hR => t_judge_Judge_l0 (own_lent ho32 hR (List.mem_of_getElem? (i := 0) rfl) hle) ho32.capz hp hpB hz34) ?_
  rintro Γ35 U37 v38 hl36 ⟨rfl, rfl, hr39, hr40, _⟩
  change WR _ _ _ (CC F Γ35 [[(g25, .cells #[.bool false, .int .i64 1, .string (⟨#[107]⟩ : ByteArray), .int .i64 z1.s, .int .i64 z1.n, .bool true, .slice none 0 0, .slice none 0 0, .bool false, .int .i64 1, .string (⟨#[107]⟩ : ByteArray), .int .i64 z3.s, .int .i64 z3.n, .bool true, .slice none 0 0, .slice none 0 0, .bool true, .int .i64 3, .string (⟨#[107]⟩ : ByteArray), .int .i64 0, .int .i64 0, .bool true, .slice (some ⟨g7, 0, none⟩) [z5].length 1, .slice (some ⟨g8, 0, none⟩) [2, 0].length 2, .bool false, .int .i64 3, .string (⟨#[107]⟩ : ByteArray), .int .i64 z9.s, .int .i64 z9.n, .bool true, .slice none 0 0, .slice none 0 0] 32 (0, 0))], [], []]) _ _ (upd _ 20 (.tuple #[.int .i64 z33.1, .int .i64 z33.2]))
  refine va rfl rfl rfl (q_move (v := .tuple #[.int .i64 z33.1, .int .i64 z33.2]) rfl (by kernel_rfl)) ?_
  refine va rfl rfl rfl (q_extract (v := .int .i64 z33.1) rfl rfl rfl) ?_
  refine va rfl rfl rfl (q_extract (v := .int .i64 z33.2) rfl rfl rfl) ?_
  refine va rfl rfl rfl (q_assign (v := .int .i64 z33.1) rfl (by kernel_rfl)) ?_
  refine va rfl rfl rfl (q_assign (v := .int .i64 z33.2) rfl (by kernel_rfl)) ?_
  refine WR.nil ?_
  change WC _ _ _ _ _ _
  refine WC.rs ?_
  refine va rfl rfl rfl (q_move (v := .slice (some ⟨g25, 0, none⟩) 4 4) rfl (by kernel_rfl)) ?_
  obtain ⟨z41, hz42, h⟩ := bnd h
  refine vc rfl rfl rfl (q_call (call_run Try.call8 rfl rfl (by kernel_rfl)) (fun w hw => t_firthlaw23_dot (Γ := Gh.all w) 2 (show I64 2 by decide) 1 (show I64 1 by decide) (Sat.all w) hz42)) ?_
  obtain ⟨hk43, h⟩ := chk_some h
  obtain ⟨hk44, h⟩ := chk_some h
  obtain ⟨z45, hz46, h⟩ := bnd h
  refine e_callB (is := []) (Lent.nil F) rfl rfl (call_run Try.call9 rfl rfl (by kernel_rfl)) rfl (fun w Θ hp hpB hle hleB hR => t_judge_Behind_l0 (own_lent (ho32.mono hl36) hR (List.mem_of_getElem? (i := 0) rfl) hle) (ho32.mono hl36).capz z41 (Dot.fits_mono ⟨(i64b_of hk43), (i64b_of hk44)⟩ hle) hp hpB hz46) ?_
  rintro Γ47 U49 v50 hl48 ⟨A51, c52, row53, rfl, rfl, hr54, _⟩
  change WR _ _ _ (CC F Γ47 [row53, [(g25, .cells #[.bool false, .int .i64 1, .string (⟨#[107]⟩ : ByteArray), .int .i64 z1.s, .int .i64 z1.n, .bool true, .slice none 0 0, .slice none 0 0, .bool false, .int .i64 1, .string (⟨#[107]⟩ : ByteArray), .int .i64 z3.s, .int .i64 z3.n, .bool true, .slice none 0 0, .slice none 0 0, .bool true, .int .i64 3, .string (⟨#[107]⟩ : ByteArray), .int .i64 0, .int .i64 0, .bool true, .slice (some ⟨g7, 0, none⟩) [z5].length 1, .slice (some ⟨g8, 0, none⟩) [2, 0].length 2, .bool false, .int .i64 3, .string (⟨#[107]⟩ : ByteArray), .int .i64 z9.s, .int .i64 z9.n, .bool true, .slice none 0 0, .slice none 0 0] 32 (0, 0))], [], []]) _ _ (upd _ 25 (.slice A51 z45.length c52))
  refine va rfl rfl rfl (q_assign (v := .slice A51 z45.length c52) rfl (by kernel_rfl)) ?_
  refine WR.nil ?_
  change WC _ _ _ _ _ _
  refine WC.rs ?_
  refine va rfl rfl rfl (q_move (v := .slice (some ⟨g25, 0, none⟩) 4 4) rfl (by kernel_rfl)) ?_
  obtain ⟨z55, hz56, h⟩ := bnd h
  refine vc rfl rfl rfl (q_call (call_run Try.call8 rfl rfl (by kernel_rfl)) (fun w hw => t_firthlaw23_dot (Γ := Gh.all w) 1 (show I64 1 by decide) 1 (show I64 1 by decide) (Sat.all w) hz56)) ?_
  refine e_buildSlice (cs := #[.int .i64 z55.s, .int .i64 z55.n]) (e := 27) rfl rfl rfl rfl (fun w => by kernel_rfl) ?_
  intro g57
  refine va rfl rfl rfl (q_ixn (i := 2) Try.underlying24 Try.sizeOf32 rfl rfl rfl (by decide) ((ho32.mono (hl36.trans hl48)).some_ (show 2 < List.length [(⟨false, 1, (⟨#[107]⟩ : ByteArray), (⟨z1.s, z1.n⟩ : Dot), true, [], []⟩ : Djudge_Act), (⟨false, 1, (⟨#[107]⟩ : ByteArray), (⟨z3.s, z3.n⟩ : Dot), true, [], []⟩ : Djudge_Act), (⟨true, 3, (⟨#[107]⟩ : ByteArray), (⟨0, 0⟩ : Dot), true, [z5], [2, 0]⟩ : Djudge_Act), (⟨false, 3, (⟨#[107]⟩ : ByteArray), (⟨z9.s, z9.n⟩ : Dot), true, [], []⟩ : Djudge_Act)] from Nat.le_of_ble_eq_true rfl))) ?_
  refine va rfl rfl rfl (q_field_addr (2 * 8 + 6) fld_32_5 rfl rfl ((ho32.mono (hl36.trans hl48)).some_ (show 2 < List.length [(⟨false, 1, (⟨#[107]⟩ : ByteArray), (⟨z1.s, z1.n⟩ : Dot), true, [], []⟩ : Djudge_Act), (⟨false, 1, (⟨#[107]⟩ : ByteArray), (⟨z3.s, z3.n⟩ : Dot), true, [], []⟩ : Djudge_Act), (⟨true, 3, (⟨#[107]⟩ : ByteArray), (⟨0, 0⟩ : Dot), true, [z5], [2, 0]⟩ : Djudge_Act), (⟨false, 3, (⟨#[107]⟩ : ByteArray), (⟨z9.s, z9.n⟩ : Dot), true, [], []⟩ : Djudge_Act)] from Nat.le_of_ble_eq_true rfl)) rfl) ?_
  obtain ⟨hk58, h⟩ := chk_some h
  obtain ⟨hk59, h⟩ := chk_some h
  have ho60 : Own dotT Γ47 27 [(g57, .cells #[.int .i64 z55.s, .int .i64 z55.n] 27 (0, 0))] (some ⟨g57, 0, none⟩) 1 [z55] := Own.of_blockL (T := dotT) (ys := [z55]) [[.int .i64 z55.s, .int .i64 z55.n]] rfl (show 1 ≤ lim by decide) (show Ty.rd dotT Γ47 [.int .i64 z55.s, .int .i64 z55.n] z55 ∧ True from ⟨⟨rfl, ⟨(i64b_of hk58), (i64b_of hk59)⟩⟩, trivial⟩)
  have hc65 := ho60.capz
  intro w hw; obtain ⟨Γ61, hw, hl62, hr63⟩ := hw.seal (i := 0) rfl; have hs64 := ho60.sl hl62 hr63
  refine WR.here (C := CC F Γ61 [[], row53, [(g25, .cells #[.bool false, .int .i64 1, .string (⟨#[107]⟩ : ByteArray), .int .i64 z1.s, .int .i64 z1.n, .bool true, .slice none 0 0, .slice none 0 0, .bool false, .int .i64 1, .string (⟨#[107]⟩ : ByteArray), .int .i64 z3.s, .int .i64 z3.n, .bool true, .slice none 0 0, .slice none 0 0, .bool true, .int .i64 3, .string (⟨#[107]⟩ : ByteArray), .int .i64 0, .int .i64 0, .bool true, .slice (some ⟨g7, 0, none⟩) [z5].length 1, .slice (some ⟨g8, 0, none⟩) [2, 0].length 2, .bool false, .int .i64 3, .string (⟨#[107]⟩ : ByteArray), .int .i64 z9.s, .int .i64 z9.n, .bool true, .slice none 0 0, .slice none 0 0] 32 (0, 0))], [], []]) ?_ hw
  clear hw
  obtain ⟨A66, c67, A68, c69, hx70⟩ := (ho32.mono ((hl36.trans hl48).trans hl62)).djudge_ActT_at 2
  refine e_store_part (T := djudge_ActT) (q := 2) (f := 6) (v := .slice (some ⟨g57, 0, none⟩) [z55].length 1) (vs := [.slice (some ⟨g57, 0, none⟩) [z55].length 1]) (cs := [.bool (gt [(⟨false, 1, (⟨#[107]⟩ : ByteArray), (⟨z1.s, z1.n⟩ : Dot), true, [], []⟩ : Djudge_Act), (⟨false, 1, (⟨#[107]⟩ : ByteArray), (⟨z3.s, z3.n⟩ : Dot), true, [], []⟩ : Djudge_Act), (⟨true, 3, (⟨#[107]⟩ : ByteArray), (⟨0, 0⟩ : Dot), true, [z5], [2, 0]⟩ : Djudge_Act), (⟨false, 3, (⟨#[107]⟩ : ByteArray), (⟨z9.s, z9.n⟩ : Dot), true, [], []⟩ : Djudge_Act)] 2).read, .int .i64 (gt [(⟨false, 1, (⟨#[107]⟩ : ByteArray), (⟨z1.s, z1.n⟩ : Dot), true, [], []⟩ : Djudge_Act), (⟨false, 1, (⟨#[107]⟩ : ByteArray), (⟨z3.s, z3.n⟩ : Dot), true, [], []⟩ : Djudge_Act), (⟨true, 3, (⟨#[107]⟩ : ByteArray), (⟨0, 0⟩ : Dot), true, [z5], [2, 0]⟩ : Djudge_Act), (⟨false, 3, (⟨#[107]⟩ : ByteArray), (⟨z9.s, z9.n⟩ : Dot), true, [], []⟩ : Djudge_Act)] 2).sess, .string (gt [(⟨false, 1, (⟨#[107]⟩ : ByteArray), (⟨z1.s, z1.n⟩ : Dot), true, [], []⟩ : Djudge_Act), (⟨false, 1, (⟨#[107]⟩ : ByteArray), (⟨z3.s, z3.n⟩ : Dot), true, [], []⟩ : Djudge_Act), (⟨true, 3, (⟨#[107]⟩ : ByteArray), (⟨0, 0⟩ : Dot), true, [z5], [2, 0]⟩ : Djudge_Act), (⟨false, 3, (⟨#[107]⟩ : ByteArray), (⟨z9.s, z9.n⟩ : Dot), true, [], []⟩ : Djudge_Act)] 2).key, .int .i64 (gt [(⟨false, 1, (⟨#[107]⟩ : ByteArray), (⟨z1.s, z1.n⟩ : Dot), true, [], []⟩ : Djudge_Act), (⟨false, 1, (⟨#[107]⟩ : ByteArray), (⟨z3.s, z3.n⟩ : Dot), true, [], []⟩ : Djudge_Act), (⟨true, 3, (⟨#[107]⟩ : ByteArray), (⟨0, 0⟩ : Dot), true, [z5], [2, 0]⟩ : Djudge_Act), (⟨false, 3, (⟨#[107]⟩ : ByteArray), (⟨z9.s, z9.n⟩ : Dot), true, [], []⟩ : Djudge_Act)] 2).dot.s, .int .i64 (gt [(⟨false, 1, (⟨#[107]⟩ : ByteArray), (⟨z1.s, z1.n⟩ : Dot), true, [], []⟩ : Djudge_Act), (⟨false, 1, (⟨#[107]⟩ : ByteArray), (⟨z3.s, z3.n⟩ : Dot), true, [], []⟩ : Djudge_Act), (⟨true, 3, (⟨#[107]⟩ : ByteArray), (⟨0, 0⟩ : Dot), true, [z5], [2, 0]⟩ : Djudge_Act), (⟨false, 3, (⟨#[107]⟩ : ByteArray), (⟨z9.s, z9.n⟩ : Dot), true, [], []⟩ : Djudge_Act)] 2).dot.n, .bool (gt [(⟨false, 1, (⟨#[107]⟩ : ByteArray), (⟨z1.s, z1.n⟩ : Dot), true, [], []⟩ : Djudge_Act), (⟨false, 1, (⟨#[107]⟩ : ByteArray), (⟨z3.s, z3.n⟩ : Dot), true, [], []⟩ : Djudge_Act), (⟨true, 3, (⟨#[107]⟩ : ByteArray), (⟨0, 0⟩ : Dot), true, [z5], [2, 0]⟩ : Djudge_Act), (⟨false, 3, (⟨#[107]⟩ : ByteArray), (⟨z9.s, z9.n⟩ : Dot), true, [], []⟩ : Djudge_Act)] 2).oK, .slice A66 ((gt [(⟨false, 1, (⟨#[107]⟩ : ByteArray), (⟨z1.s, z1.n⟩ : Dot), true, [], []⟩ : Djudge_Act), (⟨false, 1, (⟨#[107]⟩ : ByteArray), (⟨z3.s, z3.n⟩ : Dot), true, [], []⟩ : Djudge_Act), (⟨true, 3, (⟨#[107]⟩ : ByteArray), (⟨0, 0⟩ : Dot), true, [z5], [2, 0]⟩ : Djudge_Act), (⟨false, 3, (⟨#[107]⟩ : ByteArray), (⟨z9.s, z9.n⟩ : Dot), true, [], []⟩ : Djudge_Act)] 2).reads).length c67, .slice A68 ((gt [(⟨false, 1, (⟨#[107]⟩ : ByteArray), (⟨z1.s, z1.n⟩ : Dot), true, [], []⟩ : Djudge_Act), (⟨false, 1, (⟨#[107]⟩ : ByteArray), (⟨z3.s, z3.n⟩ : Dot), true, [], []⟩ : Djudge_Act), (⟨true, 3, (⟨#[107]⟩ : ByteArray), (⟨0, 0⟩ : Dot), true, [z5], [2, 0]⟩ : Djudge_Act), (⟨false, 3, (⟨#[107]⟩ : ByteArray), (⟨z9.s, z9.n⟩ : Dot), true, [], []⟩ : Djudge_Act)] 2).seen).length c69]) (new := [.bool (gt [(⟨false, 1, (⟨#[107]⟩ : ByteArray), (⟨z1.s, z1.n⟩ : Dot), true, [], []⟩ : Djudge_Act), (⟨false, 1, (⟨#[107]⟩ : ByteArray), (⟨z3.s, z3.n⟩ : Dot), true, [], []⟩ : Djudge_Act), (⟨true, 3, (⟨#[107]⟩ : ByteArray), (⟨0, 0⟩ : Dot), true, [z5], [2, 0]⟩ : Djudge_Act), (⟨false, 3, (⟨#[107]⟩ : ByteArray), (⟨z9.s, z9.n⟩ : Dot), true, [], []⟩ : Djudge_Act)] 2).read, .int .i64 (gt [(⟨false, 1, (⟨#[107]⟩ : ByteArray), (⟨z1.s, z1.n⟩ : Dot), true, [], []⟩ : Djudge_Act), (⟨false, 1, (⟨#[107]⟩ : ByteArray), (⟨z3.s, z3.n⟩ : Dot), true, [], []⟩ : Djudge_Act), (⟨true, 3, (⟨#[107]⟩ : ByteArray), (⟨0, 0⟩ : Dot), true, [z5], [2, 0]⟩ : Djudge_Act), (⟨false, 3, (⟨#[107]⟩ : ByteArray), (⟨z9.s, z9.n⟩ : Dot), true, [], []⟩ : Djudge_Act)] 2).sess, .string (gt [(⟨false, 1, (⟨#[107]⟩ : ByteArray), (⟨z1.s, z1.n⟩ : Dot), true, [], []⟩ : Djudge_Act), (⟨false, 1, (⟨#[107]⟩ : ByteArray), (⟨z3.s, z3.n⟩ : Dot), true, [], []⟩ : Djudge_Act), (⟨true, 3, (⟨#[107]⟩ : ByteArray), (⟨0, 0⟩ : Dot), true, [z5], [2, 0]⟩ : Djudge_Act), (⟨false, 3, (⟨#[107]⟩ : ByteArray), (⟨z9.s, z9.n⟩ : Dot), true, [], []⟩ : Djudge_Act)] 2).key, .int .i64 (gt [(⟨false, 1, (⟨#[107]⟩ : ByteArray), (⟨z1.s, z1.n⟩ : Dot), true, [], []⟩ : Djudge_Act), (⟨false, 1, (⟨#[107]⟩ : ByteArray), (⟨z3.s, z3.n⟩ : Dot), true, [], []⟩ : Djudge_Act), (⟨true, 3, (⟨#[107]⟩ : ByteArray), (⟨0, 0⟩ : Dot), true, [z5], [2, 0]⟩ : Djudge_Act), (⟨false, 3, (⟨#[107]⟩ : ByteArray), (⟨z9.s, z9.n⟩ : Dot), true, [], []⟩ : Djudge_Act)] 2).dot.s, .int .i64 (gt [(⟨false, 1, (⟨#[107]⟩ : ByteArray), (⟨z1.s, z1.n⟩ : Dot), true, [], []⟩ : Djudge_Act), (⟨false, 1, (⟨#[107]⟩ : ByteArray), (⟨z3.s, z3.n⟩ : Dot), true, [], []⟩ : Djudge_Act), (⟨true, 3, (⟨#[107]⟩ : ByteArray), (⟨0, 0⟩ : Dot), true, [z5], [2, 0]⟩ : Djudge_Act), (⟨false, 3, (⟨#[107]⟩ : ByteArray), (⟨z9.s, z9.n⟩ : Dot), true, [], []⟩ : Djudge_Act)] 2).dot.n, .bool (gt [(⟨false, 1, (⟨#[107]⟩ : ByteArray), (⟨z1.s, z1.n⟩ : Dot), true, [], []⟩ : Djudge_Act), (⟨false, 1, (⟨#[107]⟩ : ByteArray), (⟨z3.s, z3.n⟩ : Dot), true, [], []⟩ : Djudge_Act), (⟨true, 3, (⟨#[107]⟩ : ByteArray), (⟨0, 0⟩ : Dot), true, [z5], [2, 0]⟩ : Djudge_Act), (⟨false, 3, (⟨#[107]⟩ : ByteArray), (⟨z9.s, z9.n⟩ : Dot), true, [], []⟩ : Djudge_Act)] 2).oK, .slice (some ⟨g57, 0, none⟩) [z55].length 1, .slice A68 ((gt [(⟨false, 1, (⟨#[107]⟩ : ByteArray), (⟨z1.s, z1.n⟩ : Dot), true, [], []⟩ : Djudge_Act), (⟨false, 1, (⟨#[107]⟩ : ByteArray), (⟨z3.s, z3.n⟩ : Dot), true, [], []⟩ : Djudge_Act), (⟨true, 3, (⟨#[107]⟩ : ByteArray), (⟨0, 0⟩ : Dot), true, [z5], [2, 0]⟩ : Djudge_Act), (⟨false, 3, (⟨#[107]⟩ : ByteArray), (⟨z9.s, z9.n⟩ : Dot), true, [], []⟩ : Djudge_Act)] 2).seen).length c69]) (y := (⟨(gt [(⟨false, 1, (⟨#[107]⟩ : ByteArray), (⟨z1.s, z1.n⟩ : Dot), true, [], []⟩ : Djudge_Act), (⟨false, 1, (⟨#[107]⟩ : ByteArray), (⟨z3.s, z3.n⟩ : Dot), true, [], []⟩ : Djudge_Act), (⟨true, 3, (⟨#[107]⟩ : ByteArray), (⟨0, 0⟩ : Dot), true, [z5], [2, 0]⟩ : Djudge_Act), (⟨false, 3, (⟨#[107]⟩ : ByteArray), (⟨z9.s, z9.n⟩ : Dot), true, [], []⟩ : Djudge_Act)] 2).read, (gt [(⟨false, 1, (⟨#[107]⟩ : ByteArray), (⟨z1.s, z1.n⟩ : Dot), true, [], []⟩ : Djudge_Act), (⟨false, 1, (⟨#[107]⟩ : ByteArray), (⟨z3.s, z3.n⟩ : Dot), true, [], []⟩ : Djudge_Act), (⟨true, 3, (⟨#[107]⟩ : ByteArray), (⟨0, 0⟩ : Dot), true, [z5], [2, 0]⟩ : Djudge_Act), (⟨false, 3, (⟨#[107]⟩ : ByteArray), (⟨z9.s, z9.n⟩ : Dot), true, [], []⟩ : Djudge_Act)] 2).sess, (gt [(⟨false, 1, (⟨#[107]⟩ : ByteArray), (⟨z1.s, z1.n⟩ : Dot), true, [], []⟩ : Djudge_Act), (⟨false, 1, (⟨#[107]⟩ : ByteArray), (⟨z3.s, z3.n⟩ : Dot), true, [], []⟩ : Djudge_Act), (⟨true, 3, (⟨#[107]⟩ : ByteArray), (⟨0, 0⟩ : Dot), true, [z5], [2, 0]⟩ : Djudge_Act), (⟨false, 3, (⟨#[107]⟩ : ByteArray), (⟨z9.s, z9.n⟩ : Dot), true, [], []⟩ : Djudge_Act)] 2).key, (⟨(gt [(⟨false, 1, (⟨#[107]⟩ : ByteArray), (⟨z1.s, z1.n⟩ : Dot), true, [], []⟩ : Djudge_Act), (⟨false, 1, (⟨#[107]⟩ : ByteArray), (⟨z3.s, z3.n⟩ : Dot), true, [], []⟩ : Djudge_Act), (⟨true, 3, (⟨#[107]⟩ : ByteArray), (⟨0, 0⟩ : Dot), true, [z5], [2, 0]⟩ : Djudge_Act), (⟨false, 3, (⟨#[107]⟩ : ByteArray), (⟨z9.s, z9.n⟩ : Dot), true, [], []⟩ : Djudge_Act)] 2).dot.s, (gt [(⟨false, 1, (⟨#[107]⟩ : ByteArray), (⟨z1.s, z1.n⟩ : Dot), true, [], []⟩ : Djudge_Act), (⟨false, 1, (⟨#[107]⟩ : ByteArray), (⟨z3.s, z3.n⟩ : Dot), true, [], []⟩ : Djudge_Act), (⟨true, 3, (⟨#[107]⟩ : ByteArray), (⟨0, 0⟩ : Dot), true, [z5], [2, 0]⟩ : Djudge_Act), (⟨false, 3, (⟨#[107]⟩ : ByteArray), (⟨z9.s, z9.n⟩ : Dot), true, [], []⟩ : Djudge_Act)] 2).dot.n⟩ : Dot), (gt [(⟨false, 1, (⟨#[107]⟩ : ByteArray), (⟨z1.s, z1.n⟩ : Dot), true, [], []⟩ : Djudge_Act), (⟨false, 1, (⟨#[107]⟩ : ByteArray), (⟨z3.s, z3.n⟩ : Dot), true, [], []⟩ : Djudge_Act), (⟨true, 3, (⟨#[107]⟩ : ByteArray), (⟨0, 0⟩ : Dot), true, [z5], [2, 0]⟩ : Djudge_Act), (⟨false, 3, (⟨#[107]⟩ : ByteArray), (⟨z9.s, z9.n⟩ : Dot), true, [], []⟩ : Djudge_Act)] 2).oK, [z55], (gt [(⟨false, 1, (⟨#[107]⟩ : ByteArray), (⟨z1.s, z1.n⟩ : Dot), true, [], []⟩ : Djudge_Act), (⟨false, 1, (⟨#[107]⟩ : ByteArray), (⟨z3.s, z3.n⟩ : Dot), true, [], []⟩ : Djudge_Act), (⟨true, 3, (⟨#[107]⟩ : ByteArray), (⟨0, 0⟩ : Dot), true, [z5], [2, 0]⟩ : Djudge_Act), (⟨false, 3, (⟨#[107]⟩ : ByteArray), (⟨z9.s, z9.n⟩ : Dot), true, [], []⟩ : Djudge_Act)] 2).seen⟩ : Djudge_Act)) rfl rfl rfl rfl (by kernel_rfl) Try.sizeOf29 rfl (hx70 (show 2 < List.length [(⟨false, 1, (⟨#[107]⟩ : ByteArray), (⟨z1.s, z1.n⟩ : Dot), true, [], []⟩ : Djudge_Act), (⟨false, 1, (⟨#[107]⟩ : ByteArray), (⟨z3.s, z3.n⟩ : Dot), true, [], []⟩ : Djudge_Act), (⟨true, 3, (⟨#[107]⟩ : ByteArray), (⟨0, 0⟩ : Dot), true, [z5], [2, 0]⟩ : Djudge_Act), (⟨false, 3, (⟨#[107]⟩ : ByteArray), (⟨z9.s, z9.n⟩ : Dot), true, [], []⟩ : Djudge_Act)] from Nat.le_of_ble_eq_true rfl)).2 rfl (Nat.le_of_ble_eq_true rfl) rfl (by exact ⟨(some ⟨g57, 0, none⟩), 1, A68, c69, rfl, ⟨(hx70 (show 2 < List.length [(⟨false, 1, (⟨#[107]⟩ : ByteArray), (⟨z1.s, z1.n⟩ : Dot), true, [], []⟩ : Djudge_Act), (⟨false, 1, (⟨#[107]⟩ : ByteArray), (⟨z3.s, z3.n⟩ : Dot), true, [], []⟩ : Djudge_Act), (⟨true, 3, (⟨#[107]⟩ : ByteArray), (⟨0, 0⟩ : Dot), true, [z5], [2, 0]⟩ : Djudge_Act), (⟨false, 3, (⟨#[107]⟩ : ByteArray), (⟨z9.s, z9.n⟩ : Dot), true, [], []⟩ : Djudge_Act)] from Nat.le_of_ble_eq_true rfl)).1.1, (hx70 (show 2 < List.length [(⟨false, 1, (⟨#[107]⟩ : ByteArray), (⟨z1.s, z1.n⟩ : Dot), true, [], []⟩ : Djudge_Act), (⟨false, 1, (⟨#[107]⟩ : ByteArray), (⟨z3.s, z3.n⟩ : Dot), true, [], []⟩ : Djudge_Act), (⟨true, 3, (⟨#[107]⟩ : ByteArray), (⟨0, 0⟩ : Dot), true, [z5], [2, 0]⟩ : Djudge_Act), (⟨false, 3, (⟨#[107]⟩ : ByteArray), (⟨z9.s, z9.n⟩ : Dot), true, [], []⟩ : Djudge_Act)] from Nat.le_of_ble_eq_true rfl)).1.2.1, (hx70 (show 2 < List.length [(⟨false, 1, (⟨#[107]⟩ : ByteArray), (⟨z1.s, z1.n⟩ : Dot), true, [], []⟩ : Djudge_Act), (⟨false, 1, (⟨#[107]⟩ : ByteArray), (⟨z3.s, z3.n⟩ : Dot), true, [], []⟩ : Djudge_Act), (⟨true, 3, (⟨#[107]⟩ : ByteArray), (⟨0, 0⟩ : Dot), true, [z5], [2, 0]⟩ : Djudge_Act), (⟨false, 3, (⟨#[107]⟩ : ByteArray), (⟨z9.s, z9.n⟩ : Dot), true, [], []⟩ : Djudge_Act)] from Nat.le_of_ble_eq_true rfl)).1.2.2.1, (hx70 (show 2 < List.length [(⟨false, 1, (⟨#[107]⟩ : ByteArray), (⟨z1.s, z1.n⟩ : Dot), true, [], []⟩ : Djudge_Act), (⟨false, 1, (⟨#[107]⟩ : ByteArray), (⟨z3.s, z3.n⟩ : Dot), true, [], []⟩ : Djudge_Act), (⟨true, 3, (⟨#[107]⟩ : ByteArray), (⟨0, 0⟩ : Dot), true, [z5], [2, 0]⟩ : Djudge_Act), (⟨false, 3, (⟨#[107]⟩ : ByteArray), (⟨z9.s, z9.n⟩ : Dot), true, [], []⟩ : Djudge_Act)] from Nat.le_of_ble_eq_true rfl)).1.2.2.2.1, ⟨hc65, hs64⟩, ⟨(hx70 (show 2 < List.length [(⟨false, 1, (⟨#[107]⟩ : ByteArray), (⟨z1.s, z1.n⟩ : Dot), true, [], []⟩ : Djudge_Act), (⟨false, 1, (⟨#[107]⟩ : ByteArray), (⟨z3.s, z3.n⟩ : Dot), true, [], []⟩ : Djudge_Act), (⟨true, 3, (⟨#[107]⟩ : ByteArray), (⟨0, 0⟩ : Dot), true, [z5], [2, 0]⟩ : Djudge_Act), (⟨false, 3, (⟨#[107]⟩ : ByteArray), (⟨z9.s, z9.n⟩ : Dot), true, [], []⟩ : Djudge_Act)] from Nat.le_of_ble_eq_true rfl)).1.2.2.2.2.2.1, (hx70 (show 2 < List.length [(⟨false, 1, (⟨#[107]⟩ : ByteArray), (⟨z1.s, z1.n⟩ : Dot), true, [], []⟩ : Djudge_Act), (⟨false, 1, (⟨#[107]⟩ : ByteArray), (⟨z3.s, z3.n⟩ : Dot), true, [], []⟩ : Djudge_Act), (⟨true, 3, (⟨#[107]⟩ : ByteArray), (⟨0, 0⟩ : Dot), true, [z5], [2, 0]⟩ : Djudge_Act), (⟨false, 3, (⟨#[107]⟩ : ByteArray), (⟨z9.s, z9.n⟩ : Dot), true, [], []⟩ : Djudge_Act)] from Nat.le_of_ble_eq_true rfl)).1.2.2.2.2.2.2⟩⟩⟩) (i := 2) rfl (ho32.mono ((hl36.trans hl48).trans hl62)) (show 2 < List.length [(⟨false, 1, (⟨#[107]⟩ : ByteArray), (⟨z1.s, z1.n⟩ : Dot), true, [], []⟩ : Djudge_Act), (⟨false, 1, (⟨#[107]⟩ : ByteArray), (⟨z3.s, z3.n⟩ : Dot), true, [], []⟩ : Djudge_Act), (⟨true, 3, (⟨#[107]⟩ : ByteArray), (⟨0, 0⟩ : Dot), true, [z5], [2, 0]⟩ : Djudge_Act), (⟨false, 3, (⟨#[107]⟩ : ByteArray), (⟨z9.s, z9.n⟩ : Dot), true, [], []⟩ : Djudge_Act)] from Nat.le_of_ble_eq_true rfl) ?_
  intro row71 ho72
  refine WR.nil ?_
  change WC _ _ _ _ _ _
  refine WC.rs ?_
  refine va rfl rfl rfl (q_move (v := .slice (some ⟨g25, 0, none⟩) 4 4) rfl (by kernel_rfl)) ?_
  rw [show Value.slice (some ⟨g25, 0, none⟩) (4) 4 = Value.slice (some ⟨g25, 0, none⟩) ((List.set [(⟨false, 1, (⟨#[107]⟩ : ByteArray), (⟨z1.s, z1.n⟩ : Dot), true, [], []⟩ : Djudge_Act), (⟨false, 1, (⟨#[107]⟩ : ByteArray), (⟨z3.s, z3.n⟩ : Dot), true, [], []⟩ : Djudge_Act), (⟨true, 3, (⟨#[107]⟩ : ByteArray), (⟨0, 0⟩ : Dot), true, [z5], [2, 0]⟩ : Djudge_Act), (⟨false, 3, (⟨#[107]⟩ : ByteArray), (⟨z9.s, z9.n⟩ : Dot), true, [], []⟩ : Djudge_Act)] 2 (⟨(gt [(⟨false, 1, (⟨#[107]⟩ : ByteArray), (⟨z1.s, z1.n⟩ : Dot), true, [], []⟩ : Djudge_Act), (⟨false, 1, (⟨#[107]⟩ : ByteArray), (⟨z3.s, z3.n⟩ : Dot), true, [], []⟩ : Djudge_Act), (⟨true, 3, (⟨#[107]⟩ : ByteArray), (⟨0, 0⟩ : Dot), true, [z5], [2, 0]⟩ : Djudge_Act), (⟨false, 3, (⟨#[107]⟩ : ByteArray), (⟨z9.s, z9.n⟩ : Dot), true, [], []⟩ : Djudge_Act)] 2).read, (gt [(⟨false, 1, (⟨#[107]⟩ : ByteArray), (⟨z1.s, z1.n⟩ : Dot), true, [], []⟩ : Djudge_Act), (⟨false, 1, (⟨#[107]⟩ : ByteArray), (⟨z3.s, z3.n⟩ : Dot), true, [], []⟩ : Djudge_Act), (⟨true, 3, (⟨#[107]⟩ : ByteArray), (⟨0, 0⟩ : Dot), true, [z5], [2, 0]⟩ : Djudge_Act), (⟨false, 3, (⟨#[107]⟩ : ByteArray), (⟨z9.s, z9.n⟩ : Dot), true, [], []⟩ : Djudge_Act)] 2).sess, (gt [(⟨false, 1, (⟨#[107]⟩ : ByteArray), (⟨z1.s, z1.n⟩ : Dot), true, [], []⟩ : Djudge_Act), (⟨false, 1, (⟨#[107]⟩ : ByteArray), (⟨z3.s, z3.n⟩ : Dot), true, [], []⟩ : Djudge_Act), (⟨true, 3, (⟨#[107]⟩ : ByteArray), (⟨0, 0⟩ : Dot), true, [z5], [2, 0]⟩ : Djudge_Act), (⟨false, 3, (⟨#[107]⟩ : ByteArray), (⟨z9.s, z9.n⟩ : Dot), true, [], []⟩ : Djudge_Act)] 2).key, (⟨(gt [(⟨false, 1, (⟨#[107]⟩ : ByteArray), (⟨z1.s, z1.n⟩ : Dot), true, [], []⟩ : Djudge_Act), (⟨false, 1, (⟨#[107]⟩ : ByteArray), (⟨z3.s, z3.n⟩ : Dot), true, [], []⟩ : Djudge_Act), (⟨true, 3, (⟨#[107]⟩ : ByteArray), (⟨0, 0⟩ : Dot), true, [z5], [2, 0]⟩ : Djudge_Act), (⟨false, 3, (⟨#[107]⟩ : ByteArray), (⟨z9.s, z9.n⟩ : Dot), true, [], []⟩ : Djudge_Act)] 2).dot.s, (gt [(⟨false, 1, (⟨#[107]⟩ : ByteArray), (⟨z1.s, z1.n⟩ : Dot), true, [], []⟩ : Djudge_Act), (⟨false, 1, (⟨#[107]⟩ : ByteArray), (⟨z3.s, z3.n⟩ : Dot), true, [], []⟩ : Djudge_Act), (⟨true, 3, (⟨#[107]⟩ : ByteArray), (⟨0, 0⟩ : Dot), true, [z5], [2, 0]⟩ : Djudge_Act), (⟨false, 3, (⟨#[107]⟩ : ByteArray), (⟨z9.s, z9.n⟩ : Dot), true, [], []⟩ : Djudge_Act)] 2).dot.n⟩ : Dot), (gt [(⟨false, 1, (⟨#[107]⟩ : ByteArray), (⟨z1.s, z1.n⟩ : Dot), true, [], []⟩ : Djudge_Act), (⟨false, 1, (⟨#[107]⟩ : ByteArray), (⟨z3.s, z3.n⟩ : Dot), true, [], []⟩ : Djudge_Act), (⟨true, 3, (⟨#[107]⟩ : ByteArray), (⟨0, 0⟩ : Dot), true, [z5], [2, 0]⟩ : Djudge_Act), (⟨false, 3, (⟨#[107]⟩ : ByteArray), (⟨z9.s, z9.n⟩ : Dot), true, [], []⟩ : Djudge_Act)] 2).oK, [z55], (gt [(⟨false, 1, (⟨#[107]⟩ : ByteArray), (⟨z1.s, z1.n⟩ : Dot), true, [], []⟩ : Djudge_Act), (⟨false, 1, (⟨#[107]⟩ : ByteArray), (⟨z3.s, z3.n⟩ : Dot), true, [], []⟩ : Djudge_Act), (⟨true, 3, (⟨#[107]⟩ : ByteArray), (⟨0, 0⟩ : Dot), true, [z5], [2, 0]⟩ : Djudge_Act), (⟨false, 3, (⟨#[107]⟩ : ByteArray), (⟨z9.s, z9.n⟩ : Dot), true, [], []⟩ : Djudge_Act)] 2).seen⟩ : Djudge_Act)).length) 4 from by first | (rw [List.length_set]; done) | (rw [List.length_set]; rfl)]
  obtain ⟨z73, hz74, h⟩ := bnd h
  refine e_callB (is := []) (Lent.nil F) rfl rfl (call_run Try.call14 rfl rfl (by kernel_rfl)) rfl (fun w Θ hp hpB hle hleB hR => t_judge_Judge_l0 (own_lent ho72 hR (List.mem_of_getElem? (i := 2) rfl) hle) ho72.capz hp hpB hz74) ?_
  rintro Γ75 U77 v78 hl76 ⟨rfl, rfl, hr79, hr80, _⟩
  change WR _ _ _ (CC F Γ75 [[], row53, row71, [], []]) _ _ (upd _ 33 (.tuple #[.int .i64 z73.1, .int .i64 z73.2]))
  refine va rfl rfl rfl (q_move (v := .tuple #[.int .i64 z73.1, .int .i64 z73.2]) rfl (by kernel_rfl)) ?_
  refine va rfl rfl rfl (q_extract (v := .int .i64 z73.1) rfl rfl rfl) ?_
  refine va rfl rfl rfl (q_extract (v := .int .i64 z73.2) rfl rfl rfl) ?_
  refine va rfl rfl rfl (q_assign (v := .int .i64 z73.1) rfl (by kernel_rfl)) ?_
  refine va rfl rfl rfl (q_assign (v := .int .i64 z73.2) rfl (by kernel_rfl)) ?_
  refine WR.nil ?_
  change WC _ _ _ _ _ _
  refine WC.rs ?_
  refine va rfl rfl rfl (q_move (v := .int .i64 z33.1) rfl (by kernel_rfl)) ?_
  refine va rfl rfl rfl (q_eql rfl rfl rfl) ?_
  refine va rfl rfl rfl (q_move (v := .bool (z33.1 == (-1))) rfl (by kernel_rfl)) ?_
  refine vg1 rfl rfl rfl rfl rfl (fun hg81 => QV.qo (q_move (v := .int .i64 z33.2) rfl (by kernel_rfl))) ?_
  refine vg1 rfl rfl rfl rfl rfl (fun hg82 => QV.qo (q_eql rfl (gu hg82 rfl) rfl)) ?_
  refine va rfl rfl rfl (q_pick rfl rfl (pk_and' (g := (z33.1 == (-1))) (y := (z33.2 == 0)))) ?_
  refine va rfl rfl rfl (q_move (v := .bool ((z33.1 == (-1)) && (z33.2 == 0))) rfl (by kernel_rfl)) ?_
  refine vg1 rfl rfl rfl rfl rfl (fun hg83 => QV.qo (q_move (v := .slice A51 z45.length c52) rfl (by kernel_rfl))) ?_
  obtain ⟨z85, hz86, h⟩ := bnd h
  refine vg1 rfl rfl rfl rfl rfl (fun hg84 => (q_call (call_run Try.call8 rfl rfl (by kernel_rfl)) (fun w hw => t_firthlaw23_dot (Γ := Gh.all w) 1 (show I64 1 by decide) 1 (show I64 1 by decide) (Sat.all w) (gc_of hz86 hg84)))) ?_
  obtain ⟨z88, hz89, h⟩ := bnd h
  refine vg1 rfl rfl rfl rfl rfl (fun hg87 => (q_call (call_run Try.call8 rfl rfl (by kernel_rfl)) (fun w hw => t_firthlaw23_dot (Γ := Gh.all w) 1 (show I64 1 by decide) 2 (show I64 2 by decide) (Sat.all w) (gc_of hz89 hg87)))) ?_
  refine (Bool.eq_false_or_eq_true ((z33.1 == (-1)) && (z33.2 == 0))).elim (fun hb90 => ?_) (fun hb90 => ?_)
  · skip
    have h := bt hb90 h
    refine WR.sat (c0 := true) (g := ((z33.1 == (-1)) && (z33.2 == 0))) rfl rfl rfl hb90 ?_
    rw [show gv ((z33.1 == (-1)) && (z33.2 == 0)) (.agg #[.int .i64 z85.s, .int .i64 z85.n]) = .agg #[.int .i64 z85.s, .int .i64 z85.n] from gv_of hb90]
    rw [show gv ((z33.1 == (-1)) && (z33.2 == 0)) (.agg #[.int .i64 z88.s, .int .i64 z88.n]) = .agg #[.int .i64 z88.s, .int .i64 z88.n] from gv_of hb90]
    refine e_buildSlice (cs := #[.int .i64 z85.s, .int .i64 z85.n, .int .i64 z88.s, .int .i64 z88.n]) (e := 27) rfl rfl rfl rfl (fun w => by kernel_rfl) ?_
    intro g91
    refine WR.sat (c0 := true) (g := ((z33.1 == (-1)) && (z33.2 == 0))) rfl rfl rfl hb90 ?_
    obtain ⟨hk92, h⟩ := chk_some h
    obtain ⟨hk93, h⟩ := chk_some h
    obtain ⟨hk94, h⟩ := chk_some h
    obtain ⟨hk95, h⟩ := chk_some h
    have ho96 : Own dotT Γ75 27 [(g91, .cells #[.int .i64 z85.s, .int .i64 z85.n, .int .i64 z88.s, .int .i64 z88.n] 27 (0, 0))] (some ⟨g91, 0, none⟩) 2 [z85, z88] := Own.of_blockL (T := dotT) (ys := [z85, z88]) [[.int .i64 z85.s, .int .i64 z85.n], [.int .i64 z88.s, .int .i64 z88.n]] rfl (show 2 ≤ lim by decide) (show Ty.rd dotT Γ75 [.int .i64 z85.s, .int .i64 z85.n] z85 ∧ Ty.rd dotT Γ75 [.int .i64 z88.s, .int .i64 z88.n] z88 ∧ True from ⟨⟨rfl, ⟨(i64b_of hk92), (i64b_of hk93)⟩⟩, ⟨rfl, ⟨(i64b_of hk94), (i64b_of hk95)⟩⟩, trivial⟩)
    obtain ⟨z97, hz98, h⟩ := bnd h
    refine vc rfl rfl rfl (q_call (call_run Try.call12 rfl rfl (args2 (gu hb90 rfl) rfl)) (fun w hw => t_firthref23_Same (Γ := Gh.all w) ((hr54.mono (hl62.trans hl76)).sl hw.sat.le_all (hw.ra 2 rfl)) (hr54.mono (hl62.trans hl76)).capz (ho96.sl hw.sat.le_all (hw.ra 0 rfl)) ho96.capz (Sat.all w) hz98)) ?_
    refine va rfl rfl rfl (q_pick_t (v := .bool z97) rfl rfl hb90 (by kernel_rfl)) ?_
    refine va rfl rfl rfl (q_move (v := .bool z97) rfl (by kernel_rfl)) ?_
    refine vg1 rfl rfl rfl rfl rfl (fun hg99 => QV.qo (q_move (v := .int .i64 z73.1) rfl (by kernel_rfl))) ?_
    refine vg1 rfl rfl rfl rfl rfl (fun hg100 => QV.qo (q_eql rfl (gu hg100 rfl) rfl)) ?_
    refine va rfl rfl rfl (q_pick rfl rfl (pk_and' (g := z97) (y := (z73.1 == 2)))) ?_
    refine va rfl rfl rfl (q_move (v := .bool (z97 && (z73.1 == 2))) rfl (by kernel_rfl)) ?_
    refine vg1 rfl rfl rfl rfl rfl (fun hg101 => QV.qo (q_move (v := .int .i64 z73.2) rfl (by kernel_rfl))) ?_
    refine vg1 rfl rfl rfl rfl rfl (fun hg102 => QV.qo (q_eql rfl (gu hg102 rfl) rfl)) ?_
    refine va rfl rfl rfl (q_pick rfl rfl (pk_and' (g := (z97 && (z73.1 == 2))) (y := (z73.2 == 6)))) ?_
    refine va rfl rfl rfl (q_assign (v := .bool ((z97 && (z73.1 == 2)) && (z73.2 == 6))) rfl (by kernel_rfl)) ?_
    refine WR.nil ?_
    change WC _ _ _ _ _ _
    refine WC.ret ?_
    intro w hw
    obtain rfl := Option.some.inj h
    subst hF
    exact ⟨by kernel_rfl, hw.fr⟩
  · skip
    have h := bf hb90 h
    refine WR.unsat (c0 := true) (g := ((z33.1 == (-1)) && (z33.2 == 0))) rfl rfl rfl hb90 rfl ?_
    refine WR.unsat (c0 := true) (g := ((z33.1 == (-1)) && (z33.2 == 0))) rfl rfl rfl hb90 rfl ?_
    refine va rfl rfl rfl (q_pick_f (v := .bool false) rfl rfl hb90 (by kernel_rfl)) ?_
    refine va rfl rfl rfl (q_move (v := .bool false) rfl (by kernel_rfl)) ?_
    refine WR.unsat (c0 := true) (g := false) rfl rfl rfl rfl rfl ?_
    refine WR.unsat (c0 := true) (g := false) rfl rfl rfl rfl rfl ?_
    refine va rfl rfl rfl (q_pickf (v := .bool false) rfl rfl rfl) ?_
    refine va rfl rfl rfl (q_move (v := .bool false) rfl (by kernel_rfl)) ?_
    refine WR.unsat (c0 := true) (g := false) rfl rfl rfl rfl rfl ?_
    refine WR.unsat (c0 := true) (g := false) rfl rfl rfl rfl rfl ?_
    refine va rfl rfl rfl (q_pickf (v := .bool false) rfl rfl rfl) ?_
    refine va rfl rfl rfl (q_assign (v := .bool false) rfl (by kernel_rfl)) ?_
    refine WR.nil ?_
    change WC _ _ _ _ _ _
    refine WC.ret ?_
    intro w hw
    obtain rfl := Option.some.inj h
    subst hF
    exact ⟨by kernel_rfl, hw.fr⟩
set_option maxRecDepth 100000 in
set_option maxHeartbeats 400000 in
theorem t_firthref23_Has {Γ : Gh} {w0 : World} {Al : Option Addr} {cl : Nat} {l : List Dot} (hl : Sl dotT Γ Al l) (hlc : l.length ≤ cl) (d : Dot) (hd : Dot.fits Γ  d) (hs : Sat Γ w0) {r : Bool} (h : m_firthref23_Has l d = some r) : Calls Try.prog 10 #[.slice Al l.length cl, .agg #[.int .i64 d.s, .int .i64 d.n]] w0 (fun e w' => e = .returned (.bool r) ∧ Fr no w0 w') := by
  refine calls_of (N := 18) (rs := [4]) (args := [.slice Al l.length cl, .agg #[.int .i64 d.s, .int .i64 d.n]]) Try.func10 rfl Try.ntmps10 Try.results10 rfl ?_
  obtain ⟨F, hF⟩ : ∃ F : Fm, F = ⟨no, w0, Γ⟩ := ⟨_, rfl⟩
  refine WC.here (C := CC F Γ []) ?_ (hF ▸ Cur.start0 hs)
  refine WC.rs ?_
  refine e_box (v := .agg #[.int .i64 d.s, .int .i64 d.n]) rfl rfl rfl rfl (by kernel_rfl) ?_
  intro g1
  refine va rfl rfl rfl (q_assign (v := .bool false) rfl (by kernel_rfl)) ?_
  refine WR.nil ?_
  change WC _ _ _ _ _ _
  refine WC.seq ?_
  refine WC.rs ?_
  refine va rfl rfl rfl (q_assign (v := .int .i64 0) rfl (by kernel_rfl)) ?_
  refine WR.nil ?_
  change WC _ _ _ _ _ _
  refine WC.block ?_
  refine WC.forI h (fun (i3 : Nat) (s : Unit) σ w => match s with | () => slots σ [(0, .slice Al l.length cl), (3, .pointer (some ⟨g1, 0, none⟩)), (5, .int .i64 ((i3 : Nat) : Int))] ∧ CC F Γ [[(g1, .cells #[.int .i64 d.s, .int .i64 d.n] 27 (0, 0))]] w ∧ True) ?_ ?_
  · skip
    intro w hw
    exact ⟨(sl_ (by kernel_rfl)), hw, trivial⟩
  rintro f2 i3 ⟨⟩ σ w hi4 hlt5 hge6 ⟨hsl, hw, -⟩
  refine Wpt.slots hsl ?_
  refine WC.here (C := CC F Γ [[(g1, .cells #[.int .i64 d.s, .int .i64 d.n] 27 (0, 0))]]) ?_ hw
  clear hw hsl
  refine WC.seq ?_
  refine WC.rs ?_
  refine va rfl rfl rfl (q_move (v := .int .i64 ((i3 : Nat) : Int)) rfl (by kernel_rfl)) ?_
  refine va rfl rfl rfl (q_move (v := .slice Al l.length cl) rfl (by kernel_rfl)) ?_
  refine va rfl rfl rfl (q_len_slice rfl Try.underlying29 rfl) ?_
  refine va rfl rfl rfl (q_lss rfl rfl rfl) ?_
  refine WR.nil ?_
  change WC _ _ _ _ _ _
  refine WC.cond (b := (decide (((i3 : Nat) : Int) < ((l.length : Nat) : Int)))) (by kernel_rfl) (fun hb7 => ?_) (fun hb7 => ?_)
  · skip
    have hl8 := ilt hb7
    have h := hlt5 hl8
    refine WC.skip ?_
    change WC _ _ _ _ _ _
    refine WC.seq ?_
    refine WC.block ?_
    refine WC.seq ?_
    refine WC.dr (by kernel_rfl) (by kernel_rfl) (fun w hw => hw.drawn _) ?_
    refine wa rfl rfl rfl (q_move (v := .slice Al l.length cl) rfl (by kernel_rfl)) ?_
    refine wa rfl rfl rfl (q_move (v := .int .i64 ((i3 : Nat) : Int)) rfl (by kernel_rfl)) ?_
    refine wa rfl rfl rfl (q_ixn (i := i3) Try.underlying29 Try.sizeOf27 rfl rfl rfl hl8 (hl.some_ hl8)) ?_
    refine wa rfl rfl rfl (q_lda (c := 0) (vs := [.int .i64 (gt l i3).s, .int .i64 (gt l i3).n]) (hl.dotT_at hl8).2 rfl Try.isAgg27 Try.sizeOf27 rfl rfl rfl) ?_
    refine wa rfl rfl rfl (q_ldla (i := 0) (vs := [.int .i64 d.s, .int .i64 d.n]) rfl rfl Try.isAgg27 Try.sizeOf27 rfl rfl) ?_
    refine wa rfl rfl rfl (q_eql_Dot (a := (gt l i3)) (b := d) rfl rfl rfl) ?_
    refine WQ.nil ?_
    change WC _ _ _ _ _ _
    refine WC.cif h (by kernel_rfl) (fun hb9 h => ?_) (fun hb9 h => ?_)
    · skip
      refine WC.rs ?_
      refine va rfl rfl rfl (q_assign (v := .bool true) rfl (by kernel_rfl)) ?_
      refine WR.nil ?_
      change WC _ _ _ _ _ _
      refine WC.ret ?_
      intro w hw
      obtain rfl := Option.some.inj h
      subst hF
      exact ⟨by kernel_rfl, hw.fr⟩
    · skip
      refine WC.skip ?_
      change WC _ _ _ _ _ _
      refine WC.region ?_
      refine va rfl rfl rfl (q_move (v := .int .i64 ((i3 : Nat) : Int)) rfl (by kernel_rfl)) ?_
      refine va rfl rfl rfl (q_add_r (r := ((i3 + 1 : Nat) : Int)) rfl rfl rfl (ctr_len hl8 hl.le)) ?_
      refine va rfl rfl rfl (q_assign (v := .int .i64 ((i3 + 1 : Nat) : Int)) rfl (by kernel_rfl)) ?_
      refine WR.nil ?_
      intro w hw
      exact ⟨hl8, (), h, (sl_ (by kernel_rfl)), hw, trivial⟩
  · skip
    have h := hge6 (ige hb7)
    refine WC.exit ?_
    change WC _ _ _ _ _ _
    refine WC.rs ?_
    refine va rfl rfl rfl (q_assign (v := .bool false) rfl (by kernel_rfl)) ?_
    refine WR.nil ?_
    change WC _ _ _ _ _ _
    refine WC.ret ?_
    intro w hw
    obtain rfl := Option.some.inj h
    subst hF
    exact ⟨by kernel_rfl, hw.fr⟩
set_option maxRecDepth 100000 in
set_option maxHeartbeats 400000 in
theorem t_firthlaw23_JudgeTells {Γ : Gh} {w0 : World} {Asites : Option Addr} {csites : Nat} {sites : List UInt8} (hsites : Sl byteT Γ Asites sites) (hsitesc : sites.length ≤ csites) {Akeys : Option Addr} {ckeys : Nat} {keys : List UInt8} (hkeys : Sl byteT Γ Akeys keys) (hkeysc : keys.length ≤ ckeys) (at_ : Int) (hat_ : I64 at_) (hs : Sat Γ w0) {r : Bool} (h : m_firthlaw23_JudgeTells sites keys at_ = some r) : Calls Try.prog 3 #[.slice Asites sites.length csites, .slice Akeys keys.length ckeys, .int .i64 at_] w0 (fun e w' => e = .returned (.bool r) ∧ Fr no w0 w') := by
  refine calls_of (N := 151) (rs := [6]) (args := [.slice Asites sites.length csites, .slice Akeys keys.length ckeys, .int .i64 at_]) Try.func3 rfl Try.ntmps3 Try.results3 rfl ?_
  obtain ⟨F, hF⟩ : ∃ F : Fm, F = ⟨no, w0, Γ⟩ := ⟨_, rfl⟩
  refine WC.here (C := CC F Γ []) ?_ (hF ▸ Cur.start0 hs)
  refine WC.rs ?_
  refine va rfl rfl rfl (q_assign (v := .bool false) rfl (by kernel_rfl)) ?_
  refine WR.nil ?_
  change WC _ _ _ _ _ _
  refine WC.seq ?_
  refine WC.rs ?_
  obtain ⟨z1, hz2, h⟩ := bnd h
  refine vc rfl rfl rfl (q_call (call_run Try.call7 rfl rfl (by kernel_rfl)) (fun w hw => t_firthlaw23_awake (Γ := Gh.all w)  (Sat.all w) hz2)) ?_
  refine va rfl rfl rfl (q_not rfl rfl) ?_
  refine va rfl rfl rfl (q_move (v := .bool (!z1)) rfl (by kernel_rfl)) ?_
  refine vg0 rfl rfl rfl rfl rfl (fun hg3 => QV.qo (q_move (v := .slice Asites sites.length csites) rfl (by kernel_rfl))) ?_
  refine vg0 rfl rfl rfl rfl rfl (fun hg4 => QV.qo (q_len_slice rfl Try.underlying22 (gu hg4 rfl))) ?_
  refine vg0 rfl rfl rfl rfl rfl (fun hg5 => QV.qo (q_gtr rfl (gu hg5 rfl) rfl)) ?_
  refine va rfl rfl rfl (q_pick rfl rfl (pk_or' (g := (!z1)) (y := (decide (60 < ((sites.length : Nat) : Int)))))) ?_
  refine WR.nil ?_
  change WC _ _ _ _ _ _
  refine WC.cif h (by kernel_rfl) (fun hb6 h => ?_) (fun hb6 h => ?_)
  · skip
    refine WC.rs ?_
    obtain ⟨z7, hz8, h⟩ := bnd h
    refine vc rfl rfl rfl (q_call (call_run Try.call7 rfl rfl (by kernel_rfl)) (fun w hw => t_firthlaw23_awake (Γ := Gh.all w)  (Sat.all w) hz8)) ?_
    refine va rfl rfl rfl (q_assign (v := .bool z7) rfl (by kernel_rfl)) ?_
    refine WR.nil ?_
    change WC _ _ _ _ _ _
    refine WC.ret ?_
    intro w hw
    obtain rfl := Option.some.inj h
    subst hF
    exact ⟨by kernel_rfl, hw.fr⟩
  · skip
    refine WC.skip ?_
    change WC _ _ _ _ _ _
    refine WC.rs ?_
    refine va rfl rfl rfl (q_assign (v := .slice none 0 0) rfl (by kernel_rfl)) ?_
    refine WR.nil ?_
    change WC _ _ _ _ _ _
    refine WC.rs ?_
    refine e_alloc Try.zeroValue25 rfl rfl rfl rfl ?_
    intro g9
    refine WR.nil ?_
    change WC _ _ _ _ _ _
    refine WC.seq ?_
    refine WC.rs ?_
    refine va rfl rfl rfl (q_assign (v := .int .i64 0) rfl (by kernel_rfl)) ?_
    refine WR.nil ?_
    change WC _ _ _ _ _ _
    refine WC.block ?_
    have ho10 : Own intT Γ 25 [(g9, .cells #[.int .i64 0, .int .i64 0, .int .i64 0, .int .i64 0] 25 (0, 0))] (some ⟨g9, 0, none⟩) 4 [0, 0, 0, 0] := Own.of_blockL (T := intT) (ys := [0, 0, 0, 0]) [[.int .i64 0], [.int .i64 0], [.int .i64 0], [.int .i64 0]] rfl (show 4 ≤ lim by decide) (show Ty.rd intT Γ [.int .i64 0] 0 ∧ Ty.rd intT Γ [.int .i64 0] 0 ∧ Ty.rd intT Γ [.int .i64 0] 0 ∧ Ty.rd intT Γ [.int .i64 0] 0 ∧ True from ⟨⟨rfl, (show I64 0 by decide)⟩, ⟨rfl, (show I64 0 by decide)⟩, ⟨rfl, (show I64 0 by decide)⟩, ⟨rfl, (show I64 0 by decide)⟩, trivial⟩)
    refine WC.forI h (fun (i21 : Nat) (s : (List Djudge_Act) × (List Int)) σ w => match s with | (list_11, x16) => ∃ (A12 : Option Addr), ∃ (c13 : Nat), ∃ (row14 : Rowb), ∃ (row17 : Rowb), slots σ [(0, .slice Asites sites.length csites), (1, .slice Akeys keys.length ckeys), (2, .int .i64 at_), (7, .slice A12 list_11.length c13), (8, .pointer (some ⟨g9, 0, none⟩)), (9, .int .i64 ((i21 : Nat) : Int))] ∧ CC F Γ [row14, row17] w ∧ Own djudge_ActT Γ 32 row14 A12 c13 list_11 ∧ x16.length = 4 ∧ Own intT Γ 25 row17 (some ⟨g9, 0, none⟩) 4 x16 ∧ True) ?_ ?_
    · skip
      intro w hw
      have hw := hw.pad
      exact ⟨none, 0, [], [(g9, .cells #[.int .i64 0, .int .i64 0, .int .i64 0, .int .i64 0] 25 (0, 0))], (sl_ (by kernel_rfl)), hw, (Own.nil djudge_ActT _ 32), rfl, ho10, trivial⟩
    rintro f20 i21 ⟨list_11, x16⟩ σ w hi22 hlt23 hge24 ⟨A12, c13, row14, row17, hsl, hw, ho15, hn19, ho18, -⟩
    refine Wpt.slots hsl ?_
    refine WC.here (C := CC F Γ [row14, row17]) ?_ hw
    clear hw hsl
    refine WC.seq ?_
    refine WC.rs ?_
    refine va rfl rfl rfl (q_move (v := .int .i64 ((i21 : Nat) : Int)) rfl (by kernel_rfl)) ?_
    refine va rfl rfl rfl (q_move (v := .slice Asites sites.length csites) rfl (by kernel_rfl)) ?_
    refine va rfl rfl rfl (q_len_slice rfl Try.underlying22 rfl) ?_
    refine va rfl rfl rfl (q_lss rfl rfl rfl) ?_
    refine WR.nil ?_
    change WC _ _ _ _ _ _
    refine WC.cond (b := (decide (((i21 : Nat) : Int) < ((sites.length : Nat) : Int)))) (by kernel_rfl) (fun hb25 => ?_) (fun hb25 => ?_)
    · skip
      have hl26 := ilt hb25
      have h := hlt23 hl26
      refine WC.skip ?_
      change WC _ _ _ _ _ _
      refine WC.seq ?_
      refine WC.block ?_
      refine WC.rs ?_
      refine va rfl rfl rfl (q_move (v := .slice Asites sites.length csites) rfl (by kernel_rfl)) ?_
      refine va rfl rfl rfl (q_move (v := .int .i64 ((i21 : Nat) : Int)) rfl (by kernel_rfl)) ?_
      refine va rfl rfl rfl (q_ixn (i := i21) Try.underlying22 Try.sizeOf5 rfl rfl rfl hl26 (hsites.some_ hl26)) ?_
      refine va rfl rfl rfl (q_ld (c := 0) (v := .int .u8 (((gt sites i21).toNat : Nat) : Int)) (hsites.byteT_at hl26).2 rfl Try.isAgg5 rfl rfl) ?_
      refine va rfl rfl rfl (q_rem rfl rfl rfl (by decide)) ?_
      try unfold m_firthlaw23_JudgeTells_b1 at h
      try unfold m_firthlaw23_JudgeTells_b2 at h
      try unfold m_firthlaw23_JudgeTells_b3 at h
      try unfold m_firthlaw23_JudgeTells_b4 at h
      try unfold m_firthlaw23_JudgeTells_b5 at h
      obtain ⟨z27, hz28, h⟩ := bnd h
      have hp29 : I64 z27 := w64_of (Option.some.inj hz28)
      refine va rfl rfl rfl (qv_eqj (k := .i64) (q_conv Try.underlying3 Try.underlying5 rfl rfl) (by kernel_rfl) (Option.some.inj hz28)) ?_
      refine va rfl rfl rfl (q_assign (v := .int .i64 z27) rfl (by kernel_rfl)) ?_
      refine WR.nil ?_
      change WC _ _ _ _ _ _
      refine WC.rs ?_
      refine va rfl rfl rfl (q_move (v := .int .i64 z27) rfl (by kernel_rfl)) ?_
      obtain ⟨hk30, h⟩ := chk_some h
      refine va rfl rfl rfl (q_ixao Try.underlying25 Try.sizeOf2 rfl rfl rfl hk30) ?_
      refine va rfl rfl rfl (q_ldo (c := 0) (v := .int .i64 (gt x16 z27.toNat)) (i := 1) rfl (ho18.intT_at (ltq (inb_lt hk30) hn19.symm)).2 rfl Try.isAgg2 rfl rfl) ?_
      refine va rfl rfl rfl (q_add rfl rfl rfl) ?_
      refine va rfl rfl rfl (q_ixao Try.underlying25 Try.sizeOf2 rfl rfl rfl hk30) ?_
      refine e_store_own (T := intT) (q := z27.toNat) (v := .int .i64 (w64 ((gt x16 z27.toNat) + 1))) (y := (w64 ((gt x16 z27.toNat) + 1))) rfl rfl rfl rfl (by kernel_rfl) Try.sizeOf2 (by exact ⟨rfl, (w64_r _)⟩) (i := 1) rfl ho18 (ltq (inb_lt hk30) hn19.symm) ?_
      intro row31 ho32
      refine WR.nil ?_
      change WC _ _ _ _ _ _
      refine WC.rs ?_
      refine va rfl rfl rfl (q_assign (v := .string (⟨#[97]⟩ : ByteArray)) rfl (by kernel_rfl)) ?_
      refine WR.nil ?_
      change WC _ _ _ _ _ _
      refine WC.cut (fun σ w => ∃ (k_33 : ByteArray), m_firthlaw23_JudgeTells_j6 list_11 x16 f20 z27 k_33 = some r ∧ slots σ [(0, .slice Asites sites.length csites), (1, .slice Akeys keys.length ckeys), (2, .int .i64 at_), (7, .slice A12 list_11.length c13), (8, .pointer (some ⟨g9, 0, none⟩)), (9, .int .i64 ((i21 : Nat) : Int)), (10, .int .i64 z27), (11, .string k_33)] ∧ CC F Γ [row14, row31] w ∧ k_33.size ≤ lim ∧ True) ?_ ?_
      · skip
        refine WC.rs ?_
        refine va rfl rfl rfl (q_move (v := .int .i64 ((i21 : Nat) : Int)) rfl (by kernel_rfl)) ?_
        refine va rfl rfl rfl (q_move (v := .slice Akeys keys.length ckeys) rfl (by kernel_rfl)) ?_
        refine va rfl rfl rfl (q_len_slice rfl Try.underlying22 rfl) ?_
        refine va rfl rfl rfl (q_lss rfl rfl rfl) ?_
        refine va rfl rfl rfl (q_move (v := .bool (decide (((i21 : Nat) : Int) < ((keys.length : Nat) : Int)))) rfl (by kernel_rfl)) ?_
        refine vg1 rfl rfl rfl rfl rfl (fun hg35 => QV.qo (q_move (v := .slice Akeys keys.length ckeys) rfl (by kernel_rfl))) ?_
        refine vg1 rfl rfl rfl rfl rfl (fun hg36 => QV.qo (q_move (v := .int .i64 ((i21 : Nat) : Int)) rfl (by kernel_rfl))) ?_
        obtain ⟨hk38, h⟩ := chk_some h
        refine vg1 rfl rfl rfl rfl rfl (fun hg37 => QV.qo (q_ixn (i := i21) Try.underlying22 Try.sizeOf5 rfl (gu hg37 rfl) (gu hg37 rfl) (of_decide_eq_true (imp_of hk38 hg37)) (hkeys.some_ (of_decide_eq_true (imp_of hk38 hg37))))) ?_
        refine vg1 rfl rfl rfl rfl rfl (fun hg39 => QV.qo (q_ld (c := 0) (v := .int .u8 (((gt keys i21).toNat : Nat) : Int)) (hkeys.byteT_at (of_decide_eq_true (imp_of hk38 hg39))).2 rfl Try.isAgg5 (gu hg39 rfl) rfl)) ?_
        refine vg1 rfl rfl rfl rfl rfl (fun hg40 => QV.qo (q_rem rfl (gu hg40 rfl) rfl (by decide))) ?_
        refine vg1 rfl rfl rfl rfl rfl (fun hg41 => QV.qo (q_eql rfl (gu hg41 rfl) rfl)) ?_
        refine va rfl rfl rfl (q_pick rfl rfl (pk_and' (g := (decide (((i21 : Nat) : Int) < ((keys.length : Nat) : Int)))) (y := (((((gt keys i21).toNat : Nat) : Int).tmod 2) == 1)))) ?_
        refine WR.nil ?_
        change WC _ _ _ _ _ _
        refine WC.cif h (by kernel_rfl) (fun hb42 h => ?_) (fun hb42 h => ?_)
        · skip
          refine WC.region ?_
          refine va rfl rfl rfl (q_assign (v := .string (⟨#[98]⟩ : ByteArray)) rfl (by kernel_rfl)) ?_
          refine WR.nil ?_
          intro w hw
          exact ⟨(⟨#[98]⟩ : ByteArray), h, (sl_ (by kernel_rfl)), hw, (show (⟨#[98]⟩ : ByteArray).size ≤ lim by decide), trivial⟩
        · skip
          refine WC.skip ?_
          intro w hw
          exact ⟨(⟨#[97]⟩ : ByteArray), h, (sl_ (by kernel_rfl)), hw, (show (⟨#[97]⟩ : ByteArray).size ≤ lim by decide), trivial⟩
      · skip
        rintro σ w ⟨k_33, h, hsl, hw, hr34, -⟩
        refine Wpt.slots hsl ?_
        refine WC.here (C := CC F Γ [row14, row31]) ?_ hw
        clear hw hsl
        refine WC.region ?_
        refine va rfl rfl rfl (q_move (v := .slice A12 list_11.length c13) rfl (by kernel_rfl)) ?_
        refine va rfl rfl rfl (q_move (v := .int .i64 z27) rfl (by kernel_rfl)) ?_
        refine va rfl rfl rfl (q_move (v := .string k_33) rfl (by kernel_rfl)) ?_
        refine va rfl rfl rfl (q_move (v := .int .i64 z27) rfl (by kernel_rfl)) ?_
        refine va rfl rfl rfl (q_add rfl rfl rfl) ?_
        refine va rfl rfl rfl (q_move (v := .int .i64 z27) rfl (by kernel_rfl)) ?_
        refine va rfl rfl rfl (q_ixao Try.underlying25 Try.sizeOf2 rfl rfl rfl hk30) ?_
        refine va rfl rfl rfl (q_ldo (c := 0) (v := .int .i64 (gt (List.set x16 z27.toNat (w64 ((gt x16 z27.toNat) + 1))) z27.toNat)) (i := 1) rfl (ho32.intT_at (ltq (inb_lt hk30) (List.length_set.trans hn19).symm)).2 rfl Try.isAgg2 rfl rfl) ?_
        obtain ⟨z43, hz44, h⟩ := bnd h
        refine vc rfl rfl rfl (q_call (call_run Try.call8 rfl rfl (by kernel_rfl)) (fun w hw => t_firthlaw23_dot (Γ := Gh.all w) (w64 (z27 + 1)) (w64_r _) (gt (List.set x16 z27.toNat (w64 ((gt x16 z27.toNat) + 1))) z27.toNat) (ho32.intT_at (ltq (inb_lt hk30) (List.length_set.trans hn19).symm)).1 (Sat.all w) hz44)) ?_
        refine va rfl rfl rfl (q_build' (v := .agg #[.bool false, .int .i64 z27, .string k_33, .int .i64 z43.s, .int .i64 z43.n, .bool true, .slice none 0 0, .slice none 0 0]) rfl (bargs4 rfl rfl rfl rfl) (fun w => by kernel_rfl)) ?_
        refine e_buildSlice (cs := #[.bool false, .int .i64 z27, .string k_33, .int .i64 z43.s, .int .i64 z43.n, .bool true, .slice none 0 0, .slice none 0 0]) (e := 32) rfl rfl rfl rfl (fun w => by kernel_rfl) ?_
        intro g45
        obtain ⟨hk46, h⟩ := chk_some h
        obtain ⟨hk47, h⟩ := chk_some h
        obtain ⟨hk48, h⟩ := chk_some h
        refine e_append (T := djudge_ActT) (xs := list_11) (ys := [(⟨false, z27, k_33, (⟨z43.s, z43.n⟩ : Dot), true, [], []⟩ : Djudge_Act)]) elem_24 (i := 1) rfl rfl rfl rfl rfl rfl rfl ho15 (of_decide_eq_true hk48) (fun w hw => src_one (T := djudge_ActT) (y := (⟨false, z27, k_33, (⟨z43.s, z43.n⟩ : Dot), true, [], []⟩ : Djudge_Act)) (i := 0) rfl (by exact ⟨none, 0, none, 0, rfl, ⟨hp29, hr34, (i64b_of hk46), (i64b_of hk47), ⟨Nat.zero_le _, Sl.nil _ _ _⟩, ⟨Nat.zero_le _, Sl.nil _ _ _⟩⟩⟩) hw) ?_
        intro row49 A50 c51 ho52
        refine va rfl rfl rfl (q_assign (v := .slice A50 (list_11 ++ [(⟨false, z27, k_33, (⟨z43.s, z43.n⟩ : Dot), true, [], []⟩ : Djudge_Act)]).length c51) rfl (by kernel_rfl)) ?_
        refine WR.nil ?_
        change WC _ _ _ _ _ _
        refine WC.region ?_
        refine va rfl rfl rfl (q_move (v := .int .i64 ((i21 : Nat) : Int)) rfl (by kernel_rfl)) ?_
        refine va rfl rfl rfl (q_add_r (r := ((i21 + 1 : Nat) : Int)) rfl rfl rfl (ctr_len hl26 hsites.le)) ?_
        refine va rfl rfl rfl (q_assign (v := .int .i64 ((i21 + 1 : Nat) : Int)) rfl (by kernel_rfl)) ?_
        refine WR.nil ?_
        intro w hw
        exact ⟨hl26, ((list_11 ++ [(⟨false, z27, k_33, (⟨z43.s, z43.n⟩ : Dot), true, [], []⟩ : Djudge_Act)]), (List.set x16 z27.toNat (w64 ((gt x16 z27.toNat) + 1)))), h, A50, c51, row49, row31, (sl_ (by kernel_rfl)), (hw.only (is := [1, 1]) rfl), ho52, (List.length_set.trans hn19), ho32, trivial⟩
    · skip
      have h := hge24 (ige hb25)
      refine WC.exit ?_
      change WC _ _ _ _ _ _
      refine WC.seq ?_
      refine WC.rs ?_
      refine va rfl rfl rfl (q_assign (v := .int .i64 0) rfl (by kernel_rfl)) ?_
      refine WR.nil ?_
      change WC _ _ _ _ _ _
      refine WC.block ?_
      refine WC.forI h (fun (i56 : Nat) (s : Unit) σ w => match s with | () => ∃ (Γ53 : Gh), slots σ [(2, .int .i64 at_), (7, .slice A12 list_11.length c13), (12, .int .i64 ((i56 : Nat) : Int))] ∧ CC F Γ53 [row14] w ∧ Gh.le Γ Γ53 ∧ True) ?_ ?_
      · skip
        intro w hw
        exact ⟨Γ, (sl_ (by kernel_rfl)), (hw.only (is := [0]) rfl), (Gh.refl _), trivial⟩
      rintro f55 i56 ⟨⟩ σ w hi57 hlt58 hge59 ⟨Γ53, hsl, hw, hl54, -⟩
      refine Wpt.slots hsl ?_
      refine WC.here (C := CC F Γ53 [row14]) ?_ hw
      clear hw hsl
      refine WC.seq ?_
      refine WC.rs ?_
      refine va rfl rfl rfl (q_move (v := .int .i64 ((i56 : Nat) : Int)) rfl (by kernel_rfl)) ?_
      refine va rfl rfl rfl (q_move (v := .slice A12 list_11.length c13) rfl (by kernel_rfl)) ?_
      refine va rfl rfl rfl (q_len_slice rfl Try.underlying24 rfl) ?_
      refine va rfl rfl rfl (q_lss rfl rfl rfl) ?_
      refine WR.nil ?_
      change WC _ _ _ _ _ _
      refine WC.cond (b := (decide (((i56 : Nat) : Int) < ((list_11.length : Nat) : Int)))) (by kernel_rfl) (fun hb60 => ?_) (fun hb60 => ?_)
      · skip
        have hl61 := ilt hb60
        have h := hlt58 hl61
        refine WC.skip ?_
        change WC _ _ _ _ _ _
        refine WC.seq ?_
        refine WC.block ?_
        refine WC.rs ?_
        refine va rfl rfl rfl (q_move (v := .slice A12 list_11.length c13) rfl (by kernel_rfl)) ?_
        refine va rfl rfl rfl (q_move (v := .slice A12 list_11.length c13) rfl (by kernel_rfl)) ?_
        refine va rfl rfl rfl (q_move (v := .int .i64 ((i56 : Nat) : Int)) rfl (by kernel_rfl)) ?_
        refine va rfl rfl rfl (q_ixn (i := i56) Try.underlying24 Try.sizeOf32 rfl rfl rfl hl61 ((ho15.mono hl54).some_ hl61)) ?_
        refine va rfl rfl rfl (q_field_addr (i56 * 8 + 3) fld_32_3 rfl rfl ((ho15.mono hl54).some_ hl61) rfl) ?_
        obtain ⟨A62, c63, A64, c65, hx66⟩ := (ho15.mono hl54).djudge_ActT_at i56
        refine va rfl rfl rfl (q_ldoa (c := 3) (vs := [.int .i64 (gt list_11 i56).dot.s, .int .i64 (gt list_11 i56).dot.n]) (i := 0) rfl (hx66 hl61).2 rfl Try.isAgg27 Try.sizeOf27 rfl rfl) ?_
        obtain ⟨z67, hz68, h⟩ := bnd h
        refine e_callB (is := []) (Lent.nil F) rfl rfl (call_run Try.call9 rfl rfl (by kernel_rfl)) rfl (fun w Θ hp hpB hle hleB hR => t_judge_Behind_l0 (own_lent (ho15.mono hl54) hR (List.mem_of_getElem? (i := 0) rfl) hle) (ho15.mono hl54).capz ((gt list_11 i56).dot) (Dot.fits_mono ⟨(hx66 hl61).1.2.2.1, (hx66 hl61).1.2.2.2.1⟩ hle) hp hpB hz68) ?_
        rintro Γ69 U71 v72 hl70 ⟨A73, c74, row75, rfl, rfl, hr76, _⟩
        change WR _ _ _ (CC F Γ69 [row75, row14]) _ _ (upd _ 79 (.slice A73 z67.length c74))
        refine va rfl rfl rfl (q_assign (v := .slice A73 z67.length c74) rfl (by kernel_rfl)) ?_
        refine WR.nil ?_
        change WC _ _ _ _ _ _
        refine WC.seq ?_
        refine WC.rs ?_
        refine va rfl rfl rfl (q_move (v := .slice A73 z67.length c74) rfl (by kernel_rfl)) ?_
        refine va rfl rfl rfl (q_len_slice rfl Try.underlying29 rfl) ?_
        refine va rfl rfl rfl (q_move (v := .slice A12 list_11.length c13) rfl (by kernel_rfl)) ?_
        refine va rfl rfl rfl (q_move (v := .int .i64 ((i56 : Nat) : Int)) rfl (by kernel_rfl)) ?_
        refine va rfl rfl rfl (q_ixn (i := i56) Try.underlying24 Try.sizeOf32 rfl rfl rfl hl61 ((ho15.mono (hl54.trans hl70)).some_ hl61)) ?_
        refine va rfl rfl rfl (q_field_addr (i56 * 8 + 3) fld_32_3 rfl rfl ((ho15.mono (hl54.trans hl70)).some_ hl61) rfl) ?_
        refine va rfl rfl rfl (q_field_addr (i56 * 8 + 4) fld_27_1 rfl rfl ((ho15.mono (hl54.trans hl70)).some_ hl61) rfl) ?_
        refine va rfl rfl rfl (q_ldo (c := 4) (v := .int .i64 (gt list_11 i56).dot.n) (i := 1) rfl (hx66 hl61).2 rfl Try.isAgg2 rfl rfl) ?_
        refine va rfl rfl rfl (q_sub rfl rfl rfl) ?_
        refine va rfl rfl rfl (q_neq rfl rfl rfl) ?_
        refine WR.nil ?_
        change WC _ _ _ _ _ _
        refine WC.cif h (by kernel_rfl) (fun hb77 h => ?_) (fun hb77 h => ?_)
        · skip
          refine WC.rs ?_
          refine va rfl rfl rfl (q_assign (v := .bool false) rfl (by kernel_rfl)) ?_
          refine WR.nil ?_
          change WC _ _ _ _ _ _
          refine WC.ret ?_
          intro w hw
          obtain rfl := Option.some.inj h
          subst hF
          exact ⟨by kernel_rfl, hw.fr⟩
        · skip
          refine WC.skip ?_
          change WC _ _ _ _ _ _
          refine WC.rs ?_
          refine va rfl rfl rfl (q_assign (v := .int .i64 0) rfl (by kernel_rfl)) ?_
          refine WR.nil ?_
          change WC _ _ _ _ _ _
          refine WC.block ?_
          refine WC.forI h (fun (i79 : Nat) (s : Unit) σ w => match s with | () => slots σ [(2, .int .i64 at_), (7, .slice A12 list_11.length c13), (12, .int .i64 ((i56 : Nat) : Int)), (13, .slice A73 z67.length c74), (14, .int .i64 ((i79 : Nat) : Int))] ∧ CC F Γ69 [row75, row14] w ∧ True) ?_ ?_
          · skip
            intro w hw
            exact ⟨(sl_ (by kernel_rfl)), hw, trivial⟩
          rintro f78 i79 ⟨⟩ σ w hi80 hlt81 hge82 ⟨hsl, hw, -⟩
          refine Wpt.slots hsl ?_
          refine WC.here (C := CC F Γ69 [row75, row14]) ?_ hw
          clear hw hsl
          refine WC.seq ?_
          refine WC.rs ?_
          refine va rfl rfl rfl (q_move (v := .int .i64 ((i79 : Nat) : Int)) rfl (by kernel_rfl)) ?_
          refine va rfl rfl rfl (q_move (v := .slice A73 z67.length c74) rfl (by kernel_rfl)) ?_
          refine va rfl rfl rfl (q_len_slice rfl Try.underlying29 rfl) ?_
          refine va rfl rfl rfl (q_lss rfl rfl rfl) ?_
          refine WR.nil ?_
          change WC _ _ _ _ _ _
          refine WC.cond (b := (decide (((i79 : Nat) : Int) < ((z67.length : Nat) : Int)))) (by kernel_rfl) (fun hb83 => ?_) (fun hb83 => ?_)
          · skip
            have hl84 := ilt hb83
            have h := hlt81 hl84
            refine WC.skip ?_
            change WC _ _ _ _ _ _
            refine WC.seq ?_
            refine WC.block ?_
            refine WC.seq ?_
            refine WC.dr (by kernel_rfl) (by kernel_rfl) (fun w hw => hw.drawn _) ?_
            refine wa rfl rfl rfl (q_move (v := .slice A73 z67.length c74) rfl (by kernel_rfl)) ?_
            refine wa rfl rfl rfl (q_move (v := .int .i64 ((i79 : Nat) : Int)) rfl (by kernel_rfl)) ?_
            refine wa rfl rfl rfl (q_ixn (i := i79) Try.underlying29 Try.sizeOf27 rfl rfl rfl hl84 (hr76.some_ hl84)) ?_
            refine wa rfl rfl rfl (q_ldoa (c := 0) (vs := [.int .i64 (gt z67 i79).s, .int .i64 (gt z67 i79).n]) (i := 0) rfl (hr76.dotT_at hl84).2 rfl Try.isAgg27 Try.sizeOf27 rfl rfl) ?_
            refine wa rfl rfl rfl (q_move (v := .slice A12 list_11.length c13) rfl (by kernel_rfl)) ?_
            refine wa rfl rfl rfl (q_move (v := .int .i64 ((i56 : Nat) : Int)) rfl (by kernel_rfl)) ?_
            refine wa rfl rfl rfl (q_ixn (i := i56) Try.underlying24 Try.sizeOf32 rfl rfl rfl hl61 ((ho15.mono (hl54.trans hl70)).some_ hl61)) ?_
            refine wa rfl rfl rfl (q_field_addr (i56 * 8 + 3) fld_32_3 rfl rfl ((ho15.mono (hl54.trans hl70)).some_ hl61) rfl) ?_
            refine wa rfl rfl rfl (q_field_addr (i56 * 8 + 3) fld_27_0 rfl rfl ((ho15.mono (hl54.trans hl70)).some_ hl61) rfl) ?_
            obtain ⟨A85, c86, A87, c88, hx89⟩ := (ho15.mono (hl54.trans hl70)).djudge_ActT_at i56
            refine wa rfl rfl rfl (q_ldo (c := 3) (v := .int .i64 (gt list_11 i56).dot.s) (i := 1) rfl (hx89 hl61).2 rfl Try.isAgg3 rfl rfl) ?_
            refine wa rfl rfl rfl (q_move (v := .int .i64 ((i79 : Nat) : Int)) rfl (by kernel_rfl)) ?_
            refine wa rfl rfl rfl (q_add_r (r := ((i79 + 1 : Nat) : Int)) rfl rfl rfl (ctr_len hl84 hr76.le)) ?_
            obtain ⟨z90, hz91, h⟩ := bnd h
            refine wc rfl rfl rfl (q_call (call_run Try.call8 rfl rfl (by kernel_rfl)) (fun w hw => t_firthlaw23_dot (Γ := Gh.all w) ((gt list_11 i56).dot.s) (hx89 hl61).1.2.2.1 ((i79 + 1 : Nat) : Int) (ctr_rng hl84 hr76.le) (Sat.all w) hz91)) ?_
            refine wa rfl rfl rfl (q_neq_Dot (a := (gt z67 i79)) (b := z90) rfl rfl rfl) ?_
            refine WQ.nil ?_
            change WC _ _ _ _ _ _
            refine WC.cif h (by kernel_rfl) (fun hb92 h => ?_) (fun hb92 h => ?_)
            · skip
              refine WC.rs ?_
              refine va rfl rfl rfl (q_assign (v := .bool false) rfl (by kernel_rfl)) ?_
              refine WR.nil ?_
              change WC _ _ _ _ _ _
              refine WC.ret ?_
              intro w hw
              obtain rfl := Option.some.inj h
              subst hF
              exact ⟨by kernel_rfl, hw.fr⟩
            · skip
              refine WC.skip ?_
              change WC _ _ _ _ _ _
              refine WC.region ?_
              refine va rfl rfl rfl (q_move (v := .int .i64 ((i79 : Nat) : Int)) rfl (by kernel_rfl)) ?_
              refine va rfl rfl rfl (q_add_r (r := ((i79 + 1 : Nat) : Int)) rfl rfl rfl (ctr_len hl84 hr76.le)) ?_
              refine va rfl rfl rfl (q_assign (v := .int .i64 ((i79 + 1 : Nat) : Int)) rfl (by kernel_rfl)) ?_
              refine WR.nil ?_
              intro w hw
              exact ⟨hl84, (), h, (sl_ (by kernel_rfl)), hw, trivial⟩
          · skip
            have h := hge82 (ige hb83)
            refine WC.exit ?_
            change WC _ _ _ _ _ _
            refine WC.region ?_
            refine va rfl rfl rfl (q_move (v := .int .i64 ((i56 : Nat) : Int)) rfl (by kernel_rfl)) ?_
            refine va rfl rfl rfl (q_add_r (r := ((i56 + 1 : Nat) : Int)) rfl rfl rfl (ctr_len hl61 (ho15.mono hl54).le)) ?_
            refine va rfl rfl rfl (q_assign (v := .int .i64 ((i56 + 1 : Nat) : Int)) rfl (by kernel_rfl)) ?_
            refine WR.nil ?_
            intro w hw
            exact ⟨hl61, (), h, Γ69, (sl_ (by kernel_rfl)), (hw.only (is := [1]) rfl), (hl54.trans hl70), trivial⟩
      · skip
        have h := hge59 (ige hb60)
        refine WC.exit ?_
        change WC _ _ _ _ _ _
        refine WC.seq ?_
        refine WC.rs ?_
        refine va rfl rfl rfl (q_move (v := .int .i64 at_) rfl (by kernel_rfl)) ?_
        refine va rfl rfl rfl (q_lss rfl rfl rfl) ?_
        refine va rfl rfl rfl (q_move (v := .bool (decide (at_ < 0))) rfl (by kernel_rfl)) ?_
        refine vg0 rfl rfl rfl rfl rfl (fun hg93 => QV.qo (q_move (v := .int .i64 at_) rfl (by kernel_rfl))) ?_
        refine vg0 rfl rfl rfl rfl rfl (fun hg94 => QV.qo (q_move (v := .slice A12 list_11.length c13) rfl (by kernel_rfl))) ?_
        refine vg0 rfl rfl rfl rfl rfl (fun hg95 => QV.qo (q_len_slice rfl Try.underlying24 (gu hg95 rfl))) ?_
        refine vg0 rfl rfl rfl rfl rfl (fun hg96 => QV.qo (q_geq rfl (gu hg96 rfl) (gu hg96 rfl))) ?_
        refine va rfl rfl rfl (q_pick rfl rfl (pk_or' (g := (decide (at_ < 0))) (y := (decide (((list_11.length : Nat) : Int) ≤ at_))))) ?_
        refine WR.nil ?_
        change WC _ _ _ _ _ _
        refine WC.cif h (by kernel_rfl) (fun hb97 h => ?_) (fun hb97 h => ?_)
        · skip
          refine WC.rs ?_
          refine va rfl rfl rfl (q_assign (v := .bool true) rfl (by kernel_rfl)) ?_
          refine WR.nil ?_
          change WC _ _ _ _ _ _
          refine WC.ret ?_
          intro w hw
          obtain rfl := Option.some.inj h
          subst hF
          exact ⟨by kernel_rfl, hw.fr⟩
        · skip
          refine WC.skip ?_
          change WC _ _ _ _ _ _
          refine WC.rs ?_
          refine va rfl rfl rfl (q_move (v := .slice A12 list_11.length c13) rfl (by kernel_rfl)) ?_
          refine va rfl rfl rfl (q_move (v := .int .i64 at_) rfl (by kernel_rfl)) ?_
          obtain ⟨hk98, h⟩ := chk_some h
          refine va rfl rfl rfl (q_ix Try.underlying24 Try.sizeOf32 rfl rfl rfl hk98 ((ho15.mono hl54).some_ (inb_lt hk98))) ?_
          obtain ⟨A99, c100, A101, c102, hx103⟩ := (ho15.mono hl54).djudge_ActT_at at_.toNat
          refine va rfl rfl rfl (q_ldoa (c := 0) (vs := [.bool (gt list_11 at_.toNat).read, .int .i64 (gt list_11 at_.toNat).sess, .string (gt list_11 at_.toNat).key, .int .i64 (gt list_11 at_.toNat).dot.s, .int .i64 (gt list_11 at_.toNat).dot.n, .bool (gt list_11 at_.toNat).oK, .slice A99 ((gt list_11 at_.toNat).reads).length c100, .slice A101 ((gt list_11 at_.toNat).seen).length c102]) (i := 0) rfl (hx103 (inb_lt hk98)).2 rfl Try.isAgg32 Try.sizeOf32 rfl rfl) ?_
          refine e_alloc Try.zeroValue32 rfl rfl rfl rfl ?_
          intro g104
          refine e_st (i := 0) (v := .agg #[.bool (gt list_11 at_.toNat).read, .int .i64 (gt list_11 at_.toNat).sess, .string (gt list_11 at_.toNat).key, .int .i64 (gt list_11 at_.toNat).dot.s, .int .i64 (gt list_11 at_.toNat).dot.n, .bool (gt list_11 at_.toNat).oK, .slice A99 ((gt list_11 at_.toNat).reads).length c100, .slice A101 ((gt list_11 at_.toNat).seen).length c102]) (new := #[.bool (gt list_11 at_.toNat).read, .int .i64 (gt list_11 at_.toNat).sess, .string (gt list_11 at_.toNat).key, .int .i64 (gt list_11 at_.toNat).dot.s, .int .i64 (gt list_11 at_.toNat).dot.n, .bool (gt list_11 at_.toNat).oK, .slice A99 ((gt list_11 at_.toNat).reads).length c100, .slice A101 ((gt list_11 at_.toNat).seen).length c102]) rfl Try.sizeOf32 rfl rfl rfl rfl (by kernel_rfl) rfl rfl rfl rfl ?_
          refine WR.nil ?_
          change WC _ _ _ _ _ _
          refine WC.rs ?_
          refine va rfl rfl rfl (q_assign (v := .slice none 0 0) rfl (by kernel_rfl)) ?_
          refine WR.nil ?_
          change WC _ _ _ _ _ _
          refine WC.rs ?_
          refine va rfl rfl rfl (q_move (v := .slice none 0 0) rfl (by kernel_rfl)) ?_
          refine va rfl rfl rfl (q_fl 3 fld_32_3 rfl rfl rfl) ?_
          refine va rfl rfl rfl (q_ldla (i := 0) (vs := [.int .i64 (gt list_11 at_.toNat).dot.s, .int .i64 (gt list_11 at_.toNat).dot.n]) rfl rfl Try.isAgg27 Try.sizeOf27 rfl rfl) ?_
          refine e_buildSlice (cs := #[.int .i64 (gt list_11 at_.toNat).dot.s, .int .i64 (gt list_11 at_.toNat).dot.n]) (e := 27) rfl rfl rfl rfl (fun w => by kernel_rfl) ?_
          intro g105
          refine WR.sub (fun w hw => hw.pad) ?_
          obtain ⟨hk106, h⟩ := chk_some h
          refine e_append (T := dotT) (xs := []) (ys := [(gt list_11 at_.toNat).dot]) elem_29 (i := 0) rfl rfl rfl rfl (by kernel_rfl) rfl rfl (Own.nil dotT Γ53 27) (of_decide_eq_true hk106) (fun w hw => src_one (T := dotT) (y := (gt list_11 at_.toNat).dot) (i := 1) rfl (by exact ⟨rfl, ⟨(hx103 (inb_lt hk98)).1.2.2.1, (hx103 (inb_lt hk98)).1.2.2.2.1⟩⟩) hw) ?_
          intro row107 A108 c109 ho110
          refine va rfl rfl rfl (q_assign (v := .slice A108 [(gt list_11 at_.toNat).dot].length c109) rfl (by kernel_rfl)) ?_
          refine WR.nil ?_
          change WC _ _ _ _ _ _
          refine WC.seq ?_
          have hc115 := ho110.capz
          intro w hw; obtain ⟨Γ111, hw, hl112, hr113⟩ := hw.seal (i := 0) rfl; have hs114 := ho110.sl hl112 hr113
          refine WC.here (C := CC F Γ111 [[], [(g105, .cells #[.int .i64 (gt list_11 at_.toNat).dot.s, .int .i64 (gt list_11 at_.toNat).dot.n] 27 (0, 0))], [(g104, .cells #[.bool (gt list_11 at_.toNat).read, .int .i64 (gt list_11 at_.toNat).sess, .string (gt list_11 at_.toNat).key, .int .i64 (gt list_11 at_.toNat).dot.s, .int .i64 (gt list_11 at_.toNat).dot.n, .bool (gt list_11 at_.toNat).oK, .slice A99 ((gt list_11 at_.toNat).reads).length c100, .slice A101 ((gt list_11 at_.toNat).seen).length c102] 32 (0, 0))], row14]) ?_ hw
          clear hw
          intro w hw; have h0116 := hw.le
          refine WC.here (C := CC F Γ111 [[], [(g105, .cells #[.int .i64 (gt list_11 at_.toNat).dot.s, .int .i64 (gt list_11 at_.toNat).dot.n] 27 (0, 0))], [(g104, .cells #[.bool (gt list_11 at_.toNat).read, .int .i64 (gt list_11 at_.toNat).sess, .string (gt list_11 at_.toNat).key, .int .i64 (gt list_11 at_.toNat).dot.s, .int .i64 (gt list_11 at_.toNat).dot.n, .bool (gt list_11 at_.toNat).oK, .slice A99 ((gt list_11 at_.toNat).reads).length c100, .slice A101 ((gt list_11 at_.toNat).seen).length c102] 32 (0, 0))], row14]) ?_ hw; clear hw
          refine WC.held (CC F Γ111 [[], [(g105, .cells #[.int .i64 (gt list_11 at_.toNat).dot.s, .int .i64 (gt list_11 at_.toNat).dot.n] 27 (0, 0))], [(g104, .cells #[.bool (gt list_11 at_.toNat).read, .int .i64 (gt list_11 at_.toNat).sess, .string (gt list_11 at_.toNat).key, .int .i64 (gt list_11 at_.toNat).dot.s, .int .i64 (gt list_11 at_.toNat).dot.n, .bool (gt list_11 at_.toNat).oK, .slice A99 ((gt list_11 at_.toNat).reads).length c100, .slice A101 ((gt list_11 at_.toNat).seen).length c102] 32 (0, 0))]]) (by kernel_rfl) (fun w hw => hw.drawn _) ?_
          change WH _ _ _ _ (CC F Γ111 [[], [(g105, .cells #[.int .i64 (gt list_11 at_.toNat).dot.s, .int .i64 (gt list_11 at_.toNat).dot.n] 27 (0, 0))], [(g104, .cells #[.bool (gt list_11 at_.toNat).read, .int .i64 (gt list_11 at_.toNat).sess, .string (gt list_11 at_.toNat).key, .int .i64 (gt list_11 at_.toNat).dot.s, .int .i64 (gt list_11 at_.toNat).dot.n, .bool (gt list_11 at_.toNat).oK, .slice A99 ((gt list_11 at_.toNat).reads).length c100, .slice A101 ((gt list_11 at_.toNat).seen).length c102] 32 (0, 0))], row14]) _ 10 #[false, false, false, false, false, false, false, false, false, false] _
          refine ht (i := 0) rfl (by kernel_rfl) rfl rfl rfl (fun w hw => hw.back (Gh.refl _) h0116 (.cons_cons _ (.cons_cons _ (.cons_cons _ (.cons _ .slnil))))) (q_move (v := .slice A12 list_11.length c13) rfl (by kernel_rfl)) ?_
          refine ht (i := 1) rfl (by kernel_rfl) rfl rfl rfl (fun w hw => hw.back (Gh.refl _) h0116 (.cons_cons _ (.cons_cons _ (.cons_cons _ (.cons _ .slnil))))) (q_fl 2 fld_32_2 rfl rfl rfl) ?_
          refine ht (i := 2) rfl (by kernel_rfl) rfl rfl rfl (fun w hw => hw.back (Gh.refl _) h0116 (.cons_cons _ (.cons_cons _ (.cons_cons _ (.cons _ .slnil))))) (q_ldl (i := 2) (v := .string (gt list_11 at_.toNat).key) rfl rfl Try.isAgg9 rfl rfl) ?_
          refine ht (i := 3) rfl (by kernel_rfl) rfl rfl rfl (fun w hw => hw.back (Gh.refl _) h0116 (.cons_cons _ (.cons_cons _ (.cons_cons _ (.cons _ .slnil))))) (q_move (v := .slice A108 [(gt list_11 at_.toNat).dot].length c109) rfl (by kernel_rfl)) ?_
          refine ht (i := 4) rfl (by kernel_rfl) rfl rfl rfl (fun w hw => hw.back (Gh.refl _) h0116 (.cons_cons _ (.cons_cons _ (.cons_cons _ (.cons _ .slnil))))) (q_build' (v := .agg #[.bool true, .int .i64 9, .string (gt list_11 at_.toNat).key, .int .i64 0, .int .i64 0, .bool true, .slice A108 [(gt list_11 at_.toNat).dot].length c109, .slice none 0 0]) rfl (bargs5 rfl rfl rfl rfl rfl) (fun w => by kernel_rfl)) ?_
          refine WH.lone (i := 5) (by kernel_rfl) rfl ?_
          obtain ⟨z117, hz118, h⟩ := bnd h
          refine vc rfl rfl rfl (q_call (call_run Try.call8 rfl rfl (by kernel_rfl)) (fun w hw => t_firthlaw23_dot (Γ := Gh.all w) 9 (show I64 9 by decide) 1 (show I64 1 by decide) (Sat.all w) hz118)) ?_
          refine WR.nil ?_
          refine WH.next (fun w hw => hw.back (Gh.refl _) h0116 (.cons_cons _ (.cons_cons _ (.cons_cons _ (.cons _ .slnil))))) ?_
          refine ht (i := 6) rfl (by kernel_rfl) rfl rfl rfl (fun w hw => hw.back (Gh.refl _) h0116 (.cons_cons _ (.cons_cons _ (.cons_cons _ (.cons _ .slnil))))) (q_build' (v := .agg #[.bool false, .int .i64 9, .string (⟨#[99]⟩ : ByteArray), .int .i64 z117.s, .int .i64 z117.n, .bool true, .slice none 0 0, .slice none 0 0]) rfl (bargs4 rfl rfl rfl rfl) (fun w => by kernel_rfl)) ?_
          refine WH.lone (i := 7) (by kernel_rfl) rfl ?_
          refine e_buildSlice (cs := #[.bool true, .int .i64 9, .string (gt list_11 at_.toNat).key, .int .i64 0, .int .i64 0, .bool true, .slice A108 [(gt list_11 at_.toNat).dot].length c109, .slice none 0 0, .bool false, .int .i64 9, .string (⟨#[99]⟩ : ByteArray), .int .i64 z117.s, .int .i64 z117.n, .bool true, .slice none 0 0, .slice none 0 0]) (e := 32) rfl rfl rfl rfl (fun w => by kernel_rfl) ?_
          intro g119
          refine WR.nil ?_
          refine WH.next (fun w hw => hw.back (Gh.refl _) h0116 (.cons _ (.cons_cons _ (.cons_cons _ (.cons_cons _ (.cons _ .slnil)))))) ?_
          refine WH.lone (i := 8) (by kernel_rfl) rfl ?_
          obtain ⟨hk120, h⟩ := chk_some h
          obtain ⟨hk121, h⟩ := chk_some h
          have ho122 : Own djudge_ActT Γ111 32 [(g119, .cells #[.bool true, .int .i64 9, .string (gt list_11 at_.toNat).key, .int .i64 0, .int .i64 0, .bool true, .slice A108 [(gt list_11 at_.toNat).dot].length c109, .slice none 0 0, .bool false, .int .i64 9, .string (⟨#[99]⟩ : ByteArray), .int .i64 z117.s, .int .i64 z117.n, .bool true, .slice none 0 0, .slice none 0 0] 32 (0, 0))] (some ⟨g119, 0, none⟩) 2 [(⟨true, 9, (gt list_11 at_.toNat).key, (⟨0, 0⟩ : Dot), true, [(gt list_11 at_.toNat).dot], []⟩ : Djudge_Act), (⟨false, 9, (⟨#[99]⟩ : ByteArray), (⟨z117.s, z117.n⟩ : Dot), true, [], []⟩ : Djudge_Act)] := Own.of_blockL (T := djudge_ActT) (ys := [(⟨true, 9, (gt list_11 at_.toNat).key, (⟨0, 0⟩ : Dot), true, [(gt list_11 at_.toNat).dot], []⟩ : Djudge_Act), (⟨false, 9, (⟨#[99]⟩ : ByteArray), (⟨z117.s, z117.n⟩ : Dot), true, [], []⟩ : Djudge_Act)]) [[.bool true, .int .i64 9, .string (gt list_11 at_.toNat).key, .int .i64 0, .int .i64 0, .bool true, .slice A108 [(gt list_11 at_.toNat).dot].length c109, .slice none 0 0], [.bool false, .int .i64 9, .string (⟨#[99]⟩ : ByteArray), .int .i64 z117.s, .int .i64 z117.n, .bool true, .slice none 0 0, .slice none 0 0]] rfl (show 2 ≤ lim by decide) (show Ty.rd djudge_ActT Γ111 [.bool true, .int .i64 9, .string (gt list_11 at_.toNat).key, .int .i64 0, .int .i64 0, .bool true, .slice A108 [(gt list_11 at_.toNat).dot].length c109, .slice none 0 0] (⟨true, 9, (gt list_11 at_.toNat).key, (⟨0, 0⟩ : Dot), true, [(gt list_11 at_.toNat).dot], []⟩ : Djudge_Act) ∧ Ty.rd djudge_ActT Γ111 [.bool false, .int .i64 9, .string (⟨#[99]⟩ : ByteArray), .int .i64 z117.s, .int .i64 z117.n, .bool true, .slice none 0 0, .slice none 0 0] (⟨false, 9, (⟨#[99]⟩ : ByteArray), (⟨z117.s, z117.n⟩ : Dot), true, [], []⟩ : Djudge_Act) ∧ True from ⟨⟨A108, c109, none, 0, rfl, ⟨(show I64 9 by decide), (hx103 (inb_lt hk98)).1.2.1, (show I64 0 by decide), (show I64 0 by decide), ⟨hc115, hs114⟩, ⟨Nat.zero_le _, Sl.nil _ _ _⟩⟩⟩, ⟨none, 0, none, 0, rfl, ⟨(show I64 9 by decide), (show (⟨#[99]⟩ : ByteArray).size ≤ lim by decide), (i64b_of hk120), (i64b_of hk121), ⟨Nat.zero_le _, Sl.nil _ _ _⟩, ⟨Nat.zero_le _, Sl.nil _ _ _⟩⟩⟩, trivial⟩)
          obtain ⟨hk123, h⟩ := chk_some h
          refine e_append (T := djudge_ActT) (xs := list_11) (ys := [(⟨true, 9, (gt list_11 at_.toNat).key, (⟨0, 0⟩ : Dot), true, [(gt list_11 at_.toNat).dot], []⟩ : Djudge_Act), (⟨false, 9, (⟨#[99]⟩ : ByteArray), (⟨z117.s, z117.n⟩ : Dot), true, [], []⟩ : Djudge_Act)]) elem_24 (i := 4) rfl rfl rfl rfl rfl rfl rfl (ho15.mono (hl54.trans hl112)) (of_decide_eq_true hk123) (fun w hw => src_own (i := 0) rfl ho122 hw) ?_
          intro row124 A125 c126 ho127
          refine WR.nil ?_
          refine WH.next (fun w hw => hw.back (Gh.refl _) h0116 (.cons _ (.cons_cons _ (.cons_cons _ (.cons_cons _ (.cons _ .slnil)))))) ?_
          refine ht (i := 9) rfl (by kernel_rfl) rfl rfl rfl (fun w hw => hw.back (Gh.refl _) h0116 (.cons _ (.cons_cons _ (.cons_cons _ (.cons_cons _ (.cons _ .slnil)))))) (q_assign (v := .slice A125 (list_11 ++ [(⟨true, 9, (gt list_11 at_.toNat).key, (⟨0, 0⟩ : Dot), true, [(gt list_11 at_.toNat).dot], []⟩ : Djudge_Act), (⟨false, 9, (⟨#[99]⟩ : ByteArray), (⟨z117.s, z117.n⟩ : Dot), true, [], []⟩ : Djudge_Act)]).length c126) rfl (by kernel_rfl)) ?_
          refine WH.done (by kernel_rfl) ?_
          change WC _ _ _ _ _ _
          refine WC.rs ?_
          refine va rfl rfl rfl (q_move (v := .slice A125 (list_11 ++ [(⟨true, 9, (gt list_11 at_.toNat).key, (⟨0, 0⟩ : Dot), true, [(gt list_11 at_.toNat).dot], []⟩ : Djudge_Act), (⟨false, 9, (⟨#[99]⟩ : ByteArray), (⟨z117.s, z117.n⟩ : Dot), true, [], []⟩ : Djudge_Act)]).length c126) rfl (by kernel_rfl)) ?_
          obtain ⟨z128, hz129, h⟩ := bnd h
          refine vc rfl rfl rfl (q_call (call_run Try.call8 rfl rfl (by kernel_rfl)) (fun w hw => t_firthlaw23_dot (Γ := Gh.all w) 9 (show I64 9 by decide) 1 (show I64 1 by decide) (Sat.all w) hz129)) ?_
          obtain ⟨hk130, h⟩ := chk_some h
          obtain ⟨hk131, h⟩ := chk_some h
          obtain ⟨z132, hz133, h⟩ := bnd h
          refine e_callB (is := []) (Lent.nil F) rfl rfl (call_run Try.call9 rfl rfl (by kernel_rfl)) rfl (fun w Θ hp hpB hle hleB hR => t_judge_Behind_l0 (own_lent ho127 hR (List.mem_of_getElem? (i := 4) rfl) hle) ho127.capz z128 (Dot.fits_mono ⟨(i64b_of hk130), (i64b_of hk131)⟩ hle) hp hpB hz133) ?_
          rintro Γ134 U136 v137 hl135 ⟨A138, c139, row140, rfl, rfl, hr141, _⟩
          change WR _ _ _ (CC F Γ134 [row140, [(g119, .cells #[.bool true, .int .i64 9, .string (gt list_11 at_.toNat).key, .int .i64 0, .int .i64 0, .bool true, .slice A108 [(gt list_11 at_.toNat).dot].length c109, .slice none 0 0, .bool false, .int .i64 9, .string (⟨#[99]⟩ : ByteArray), .int .i64 z117.s, .int .i64 z117.n, .bool true, .slice none 0 0, .slice none 0 0] 32 (0, 0))], [], [(g105, .cells #[.int .i64 (gt list_11 at_.toNat).dot.s, .int .i64 (gt list_11 at_.toNat).dot.n] 27 (0, 0))], [(g104, .cells #[.bool (gt list_11 at_.toNat).read, .int .i64 (gt list_11 at_.toNat).sess, .string (gt list_11 at_.toNat).key, .int .i64 (gt list_11 at_.toNat).dot.s, .int .i64 (gt list_11 at_.toNat).dot.n, .bool (gt list_11 at_.toNat).oK, .slice A99 ((gt list_11 at_.toNat).reads).length c100, .slice A101 ((gt list_11 at_.toNat).seen).length c102] 32 (0, 0))], row124]) _ _ (upd _ 138 (.slice A138 z132.length c139))
          refine va rfl rfl rfl (q_assign (v := .slice A138 z132.length c139) rfl (by kernel_rfl)) ?_
          refine WR.nil ?_
          change WC _ _ _ _ _ _
          refine WC.rs ?_
          refine va rfl rfl rfl (q_move (v := .slice A138 z132.length c139) rfl (by kernel_rfl)) ?_
          refine va rfl rfl rfl (q_len_slice rfl Try.underlying29 rfl) ?_
          refine va rfl rfl rfl (q_fl 3 fld_32_3 rfl rfl rfl) ?_
          refine va rfl rfl rfl (q_fl 4 fld_27_1 rfl rfl rfl) ?_
          refine va rfl rfl rfl (q_ldl (i := 4) (v := .int .i64 (gt list_11 at_.toNat).dot.n) rfl rfl Try.isAgg2 rfl rfl) ?_
          refine va rfl rfl rfl (q_eql rfl rfl rfl) ?_
          refine va rfl rfl rfl (q_move (v := .bool (((z132.length : Nat) : Int) == (gt list_11 at_.toNat).dot.n)) rfl (by kernel_rfl)) ?_
          refine vg1 rfl rfl rfl rfl rfl (fun hg142 => QV.qo (q_move (v := .slice A138 z132.length c139) rfl (by kernel_rfl))) ?_
          refine vg1 rfl rfl rfl rfl rfl (fun hg143 => QV.qo (q_fl 3 fld_32_3 rfl rfl rfl)) ?_
          refine vg1 rfl rfl rfl rfl rfl (fun hg144 => QV.qo (q_ldla (i := 4) (vs := [.int .i64 (gt list_11 at_.toNat).dot.s, .int .i64 (gt list_11 at_.toNat).dot.n]) rfl rfl Try.isAgg27 Try.sizeOf27 (gu hg144 rfl) rfl)) ?_
          obtain ⟨z146, hz147, h⟩ := bnd h
          refine vg1 rfl rfl rfl rfl rfl (fun hg145 => (q_call (call_run Try.call10 rfl rfl (args2 (gu hg145 rfl) (gu hg145 rfl))) (fun w hw => t_firthref23_Has (Γ := Gh.all w) (hr141.sl hw.sat.le_all (hw.ra 0 rfl)) hr141.capz ((gt list_11 at_.toNat).dot) ⟨(hx103 (inb_lt hk98)).1.2.2.1, (hx103 (inb_lt hk98)).1.2.2.2.1⟩ (Sat.all w) (gc_of hz147 hg145)))) ?_
          refine va rfl rfl rfl (q_pick rfl rfl (pk_and' (g := (((z132.length : Nat) : Int) == (gt list_11 at_.toNat).dot.n)) (y := z146))) ?_
          refine va rfl rfl rfl (q_assign (v := .bool ((((z132.length : Nat) : Int) == (gt list_11 at_.toNat).dot.n) && z146)) rfl (by kernel_rfl)) ?_
          refine WR.nil ?_
          change WC _ _ _ _ _ _
          refine WC.ret ?_
          intro w hw
          obtain rfl := Option.some.inj h
          subst hF
          exact ⟨by kernel_rfl, hw.fr⟩
end Fw
end Go.Proofs.Ytldpanjodokefaa
