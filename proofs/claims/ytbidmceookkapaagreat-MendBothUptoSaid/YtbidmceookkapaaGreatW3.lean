/- Walks through the functions that the law reaches (printed by a program). No condition. -/
import Derived.Test.YtbidmceookkapaaGreatW2
namespace Go.Proofs.YtbidmceookkapaaGreat
namespace Fw
set_option linter.unusedVariables false
set_option linter.unusedSimpArgs false
set_option linter.unusedSectionVars false
open Go.RowKit
set_option maxRecDepth 100000 in
set_option maxHeartbeats 400000 in
theorem t_firthlaw14_awake {Γ : Gh} {w0 : World}  (hs : Sat Γ w0) {r : Bool} (h : m_firthlaw14_awake = some r) : Calls Tryz.prog 9 #[] w0 (fun e w' => e = .returned (.bool r) ∧ Fr no w0 w') := by
  refine calls_of (N := 89) (rs := [0]) (args := []) Tryz.func9 rfl Tryz.ntmps9 Tryz.results9 rfl ?_
  obtain ⟨F, hF⟩ : ∃ F : Fm, F = ⟨no, w0, Γ⟩ := ⟨_, rfl⟩
  refine WC.here (C := CC F Γ []) ?_ (hF ▸ Cur.start0 hs)
  refine WC.rs ?_
  refine va rfl rfl rfl (q_assign (v := .bool false) rfl (by kernel_rfl)) ?_
  refine WR.nil ?_
  change WC _ _ _ _ _ _
  refine WC.rs ?_
  obtain ⟨z1, hz2, h⟩ := bnd h
  refine e_call (is := []) rfl rfl (call_run Tryz.call30 rfl rfl (by kernel_rfl)) rfl (fun w hp => t_firthlaw14_k  hp hz2) ?_
  rintro Γ3 U5 v6 hl4 ⟨A7, c8, rfl, rfl, hr9, _⟩
  change WR _ _ _ (CC F Γ3 []) _ _ (upd _ 7 (.agg #[.string z1.key, .slice A7 z1.vers.length c8]))
  refine e_buildSlice (cs := #[.string z1.key, .slice A7 z1.vers.length c8]) (e := 51) rfl rfl rfl rfl (fun w => by kernel_rfl) ?_
  intro g10
  refine va rfl rfl rfl (q_assign (v := .slice (some ⟨g10, 0, none⟩) 1 1) rfl (by kernel_rfl)) ?_
  refine WR.nil ?_
  change WC _ _ _ _ _ _
  refine WC.rs ?_
  obtain ⟨z11, hz12, h⟩ := bnd h
  refine e_call (is := []) rfl rfl (call_run Tryz.call31 rfl rfl (by kernel_rfl)) rfl (fun w hp => t_firthref11_Place ⟨#[107]⟩ (show (⟨#[107]⟩ : ByteArray).size ≤ lim by decide) hp hz12) ?_
  rintro Γ13 U15 v16 hl14 ⟨A17, c18, row19, rfl, rfl, hr20, _⟩
  change WR _ _ _ (CC F Γ13 [row19, [(g10, .cells #[.string z1.key, .slice A7 z1.vers.length c8] 51 (0, 0))]]) _ _ (upd _ 9 (.slice A17 z11.length c18))
  refine va rfl rfl rfl (q_assign (v := .slice A17 z11.length c18) rfl (by kernel_rfl)) ?_
  refine WR.nil ?_
  change WC _ _ _ _ _ _
  refine WC.rs ?_
  refine va rfl rfl rfl (q_move (v := .slice (some ⟨g10, 0, none⟩) 1 1) rfl (by kernel_rfl)) ?_
  obtain ⟨hk21, h⟩ := chk_some h
  refine e_makeSlice (T := u64T) (n := 16) (zx := 0) (ti := Tryz.t67) (z := .int .u64 0) Tryz.underlying24 (by kernel_rfl) (by kernel_rfl) (by kernel_rfl) (by exact ⟨rfl, (show U64 0 by decide)⟩) (by decide) (of_decide_eq_true hk21) rfl rfl rfl rfl rfl rfl ?_
  intro g22 row23 ho24
  have ho25 : Own recT Γ13 51 [(g10, .cells #[.string z1.key, .slice A7 z1.vers.length c8] 51 (0, 0))] (some ⟨g10, 0, none⟩) 1 [z1] := Own.of_blockL (T := recT) (ys := [z1]) [[.string z1.key, .slice A7 z1.vers.length c8]] rfl (show 1 ≤ lim by decide) (show Ty.rd recT Γ13 [.string z1.key, .slice A7 z1.vers.length c8] z1 ∧ True from ⟨⟨A7, c8, rfl, (Rec.fits_mono hr9 hl14)⟩, trivial⟩)
  have hc30 := ho25.capz
  intro w hw; obtain ⟨Γ26, hw, hl27, hr28⟩ := hw.seal (i := 2) rfl; have hs29 := ho25.sl hl27 hr28
  refine WR.here (C := CC F Γ26 [row23, row19, []]) ?_ hw
  clear hw
  rw [show Value.slice (some ⟨g22, 0, none⟩) (16) 16 = Value.slice (some ⟨g22, 0, none⟩) ((List.replicate 16 0).length) 16 from by rw [List.length_replicate]]
  have hc35 := (ho24.mono hl27).capz
  intro w hw; obtain ⟨Γ31, hw, hl32, hr33⟩ := hw.seal (i := 0) rfl; have hs34 := (ho24.mono hl27).sl hl32 hr33
  refine WR.here (C := CC F Γ31 [[], row19, []]) ?_ hw
  clear hw
  obtain ⟨z36, hz37, h⟩ := bnd h
  refine e_call (is := []) rfl rfl (call_run Tryz.call15 rfl rfl (by kernel_rfl)) rfl (fun w hp => t_mend_Answer (hs29.mono hl32) hc30 (Sl.nil intT _ none) (Nat.zero_le 0) hs34 hc35 hp hz37) ?_
  rintro Γ38 U40 v41 hl39 ⟨A42, c43, row44, rfl, rfl, hr45, _⟩
  change WR _ _ _ (CC F Γ38 [row44, [], row19, []]) _ _ (upd _ 12 (.slice A42 z36.length c43))
  refine va rfl rfl rfl (q_assign (v := .slice A42 z36.length c43) rfl (by kernel_rfl)) ?_
  refine WR.nil ?_
  change WC _ _ _ _ _ _
  refine WC.seq ?_
  have hc50 := (hr20.mono ((hl27.trans hl32).trans hl39)).capz
  intro w hw; obtain ⟨Γ46, hw, hl47, hr48⟩ := hw.seal (i := 2) rfl; have hs49 := (hr20.mono ((hl27.trans hl32).trans hl39)).sl hl47 hr48
  refine WC.here (C := CC F Γ46 [row44, [], [], []]) ?_ hw
  clear hw
  intro w hw; have h051 := hw.le
  refine WC.here (C := CC F Γ46 [row44, [], [], []]) ?_ hw; clear hw
  refine WC.held (CC F Γ46 [row44, [], [], []]) (by kernel_rfl) (fun w hw => hw.drawn _) ?_
  change WH _ _ _ _ (CC F Γ46 [row44, [], [], []]) _ 6 #[false, false, false, false, false, false] _
  refine ht (i := 0) rfl (by kernel_rfl) rfl rfl rfl (fun w hw => hw.back (Gh.refl _) h051 (.cons_cons _ (.cons_cons _ (.cons_cons _ (.cons_cons _ .slnil))))) (q_move (v := .slice (some ⟨g10, 0, none⟩) [z1].length 1) rfl (by kernel_rfl)) ?_
  refine ht (i := 1) rfl (by kernel_rfl) rfl rfl rfl (fun w hw => hw.back (Gh.refl _) h051 (.cons_cons _ (.cons_cons _ (.cons_cons _ (.cons_cons _ .slnil))))) (q_move (v := .slice A17 z11.length c18) rfl (by kernel_rfl)) ?_
  obtain ⟨hk52, h⟩ := chk_some h
  refine ht (i := 2) rfl (by kernel_rfl) rfl rfl rfl (fun w hw => hw.back (Gh.refl _) h051 (.cons_cons _ (.cons_cons _ (.cons_cons _ (.cons_cons _ .slnil))))) (q_cut_to (c := c18) (hi := 1) (xs := z11) Tryz.underlying23 Tryz.sizeOf3 rfl rfl rfl (of_decide_eq_true hk52) hc50) ?_
  refine WH.lone (i := 3) (by kernel_rfl) rfl ?_
  refine e_makeSlice (T := u64T) (n := 16) (zx := 0) (ti := Tryz.t67) (z := .int .u64 0) Tryz.underlying24 (by kernel_rfl) (by kernel_rfl) (by kernel_rfl) (by exact ⟨rfl, (show U64 0 by decide)⟩) (by decide) (of_decide_eq_true hk21) rfl rfl rfl rfl rfl rfl ?_
  intro g53 row54 ho55
  refine WR.nil ?_
  refine WH.next (fun w hw => hw.back (Gh.refl _) h051 (.cons _ (.cons_cons _ (.cons_cons _ (.cons_cons _ (.cons_cons _ .slnil)))))) ?_
  refine WH.lone (i := 4) (by kernel_rfl) rfl ?_
  rw [show Value.slice (some ⟨g53, 0, none⟩) (16) 16 = Value.slice (some ⟨g53, 0, none⟩) ((List.replicate 16 0).length) 16 from by rw [List.length_replicate]]
  have hc60 := ho55.capz
  intro w hw; obtain ⟨Γ56, hw, hl57, hr58⟩ := hw.seal (i := 0) rfl; have hs59 := ho55.sl hl57 hr58
  refine WR.here (C := CC F Γ56 [[], row44, [], [], []]) ?_ hw
  clear hw
  obtain ⟨z61, hz62, h⟩ := bnd h
  refine e_call (is := []) rfl rfl (call_run Tryz.call15 rfl rfl (by kernel_rfl)) rfl (fun w hp => t_mend_Answer (hs29.mono (((hl32.trans hl39).trans hl47).trans hl57)) hc30 ((hs49.mono hl57).cut_to (hi := 1) (of_decide_eq_true hk52)) (take_cap hc50 1) hs59 hc60 hp hz62) ?_
  rintro Γ63 U65 v66 hl64 ⟨A67, c68, row69, rfl, rfl, hr70, _⟩
  change WR _ _ _ (CC F Γ63 [row69, [], row44, [], [], []]) _ _ (upd _ 17 (.slice A67 z61.length c68))
  refine WR.nil ?_
  refine WH.next (fun w hw => hw.back (hl57.trans hl64) h051 (.cons _ (.cons _ (.cons_cons _ (.cons_cons _ (.cons_cons _ (.cons_cons _ .slnil))))))) ?_
  refine ht (i := 5) rfl (by kernel_rfl) rfl rfl rfl (fun w hw => hw.back (hl57.trans hl64) h051 (.cons _ (.cons _ (.cons_cons _ (.cons_cons _ (.cons_cons _ (.cons_cons _ .slnil))))))) (q_assign (v := .slice A67 z61.length c68) rfl (by kernel_rfl)) ?_
  refine WH.done (by kernel_rfl) ?_
  change WC _ _ _ _ _ _
  refine WC.rs ?_
  refine va rfl rfl rfl (q_move (v := .slice (some ⟨g10, 0, none⟩) [z1].length 1) rfl (by kernel_rfl)) ?_
  obtain ⟨z71, hz72, h⟩ := bnd h
  refine e_call (is := []) rfl rfl (call_run Tryz.call23 rfl rfl (by kernel_rfl)) rfl (fun w hp => t_mend_Take (Sl.nil recT _ none) (Nat.zero_le 0) (hs29.mono ((((hl32.trans hl39).trans hl47).trans hl57).trans hl64)) hc30 hp hz72) ?_
  rintro Γ73 U75 v76 hl74 ⟨A77, c78, row79, rfl, rfl, hr80, hr81, _⟩
  change WR _ _ _ (CC F Γ73 [row79, row69, [], row44, [], [], []]) _ _ (upd _ 20 (.tuple #[.slice A77 z71.1.length c78, .int .i64 z71.2]))
  refine va rfl rfl rfl (q_move (v := .tuple #[.slice A77 z71.1.length c78, .int .i64 z71.2]) rfl (by kernel_rfl)) ?_
  refine va rfl rfl rfl (q_extract (v := .slice A77 z71.1.length c78) rfl rfl rfl) ?_
  refine va rfl rfl rfl (q_extract (v := .int .i64 z71.2) rfl rfl rfl) ?_
  refine va rfl rfl rfl (q_assign (v := .slice A77 z71.1.length c78) rfl (by kernel_rfl)) ?_
  refine va rfl rfl rfl (q_assign (v := .int .i64 z71.2) rfl (by kernel_rfl)) ?_
  refine WR.nil ?_
  change WC _ _ _ _ _ _
  refine WC.seq ?_
  intro w hw; have h082 := hw.le
  refine WC.here (C := CC F Γ73 [row79, row69, [], row44, [], [], []]) ?_ hw; clear hw
  refine WC.held (CC F Γ73 [row79, row69, [], row44, [], [], []]) (by kernel_rfl) (fun w hw => hw.drawn _) ?_
  change WH _ _ _ _ (CC F Γ73 [row79, row69, [], row44, [], [], []]) _ 67 #[false, false, false, false, false, false, false, false, false, false, false, false, false, false, false, false, false, false, false, false, false, false, false, false, false, false, false, false, false, false, false, false, false, false, false, false, false, false, false, false, false, false, false, false, false, false, false, false, false, false, false, false, false, false, false, false, false, false, false, false, false, false, false, false, false, false, false] _
  refine ht (i := 0) rfl (by kernel_rfl) rfl rfl rfl (fun w hw => hw.back (Gh.refl _) h082 (.cons_cons _ (.cons_cons _ (.cons_cons _ (.cons_cons _ (.cons_cons _ (.cons_cons _ (.cons_cons _ .slnil)))))))) (q_move (v := .slice A42 z36.length c43) rfl (by kernel_rfl)) ?_
  refine ht (i := 1) rfl (by kernel_rfl) rfl rfl rfl (fun w hw => hw.back (Gh.refl _) h082 (.cons_cons _ (.cons_cons _ (.cons_cons _ (.cons_cons _ (.cons_cons _ (.cons_cons _ (.cons_cons _ .slnil)))))))) (q_len_slice rfl Tryz.underlying32 rfl) ?_
  refine ht (i := 2) rfl (by kernel_rfl) rfl rfl rfl (fun w hw => hw.back (Gh.refl _) h082 (.cons_cons _ (.cons_cons _ (.cons_cons _ (.cons_cons _ (.cons_cons _ (.cons_cons _ (.cons_cons _ .slnil)))))))) (q_eql rfl rfl rfl) ?_
  refine ht (i := 3) rfl (by kernel_rfl) rfl rfl rfl (fun w hw => hw.back (Gh.refl _) h082 (.cons_cons _ (.cons_cons _ (.cons_cons _ (.cons_cons _ (.cons_cons _ (.cons_cons _ (.cons_cons _ .slnil)))))))) (q_move (v := .bool (((z36.length : Nat) : Int) == 1)) rfl (by kernel_rfl)) ?_
  refine hg1 (i := 4) rfl (by kernel_rfl) rfl rfl rfl rfl rfl (fun w hw => hw.back (Gh.refl _) h082 (.cons_cons _ (.cons_cons _ (.cons_cons _ (.cons_cons _ (.cons_cons _ (.cons_cons _ (.cons_cons _ .slnil)))))))) (fun hg83 => (q_move (v := .slice A42 z36.length c43) rfl (by kernel_rfl))) ?_
  obtain ⟨hk85, h⟩ := chk_some h
  refine hg1 (i := 5) rfl (by kernel_rfl) rfl rfl rfl rfl rfl (fun w hw => hw.back (Gh.refl _) h082 (.cons_cons _ (.cons_cons _ (.cons_cons _ (.cons_cons _ (.cons_cons _ (.cons_cons _ (.cons_cons _ .slnil)))))))) (fun hg84 => (q_ixn (i := 0) Tryz.underlying32 Tryz.sizeOf42 rfl (gu hg84 rfl) rfl (of_decide_eq_true (imp_of hk85 hg84)) ((hr45.mono (((hl47.trans hl57).trans hl64).trans hl74)).some_ (of_decide_eq_true (imp_of hk85 hg84))))) ?_
  refine hg1 (i := 6) rfl (by kernel_rfl) rfl rfl rfl rfl rfl (fun w hw => hw.back (Gh.refl _) h082 (.cons_cons _ (.cons_cons _ (.cons_cons _ (.cons_cons _ (.cons_cons _ (.cons_cons _ (.cons_cons _ .slnil)))))))) (fun hg86 => (q_field_addr (0 * 3) fld_42_0 rfl (gu hg86 rfl) ((hr45.mono (((hl47.trans hl57).trans hl64).trans hl74)).some_ (of_decide_eq_true (imp_of hk85 hg86))) rfl)) ?_
  obtain ⟨A88, c89, A90, c91, A92, c93, hx94⟩ := (hr45.mono (((hl47.trans hl57).trans hl64).trans hl74)).dmend_StepT_at 0
  refine hg1 (i := 7) rfl (by kernel_rfl) rfl rfl rfl rfl rfl (fun w hw => hw.back (Gh.refl _) h082 (.cons_cons _ (.cons_cons _ (.cons_cons _ (.cons_cons _ (.cons_cons _ (.cons_cons _ (.cons_cons _ .slnil)))))))) (fun hg87 => (q_ldo (c := 0) (v := .slice A88 ((gt z36 0).path).length c89) (i := 3) rfl (hx94 (of_decide_eq_true (imp_of hk85 hg87))).2 rfl Tryz.isAgg23 (gu hg87 rfl) rfl)) ?_
  refine hg1 (i := 8) rfl (by kernel_rfl) rfl rfl rfl rfl rfl (fun w hw => hw.back (Gh.refl _) h082 (.cons_cons _ (.cons_cons _ (.cons_cons _ (.cons_cons _ (.cons_cons _ (.cons_cons _ (.cons_cons _ .slnil)))))))) (fun hg95 => (q_len_slice rfl Tryz.underlying23 (gu hg95 rfl))) ?_
  refine hg1 (i := 9) rfl (by kernel_rfl) rfl rfl rfl rfl rfl (fun w hw => hw.back (Gh.refl _) h082 (.cons_cons _ (.cons_cons _ (.cons_cons _ (.cons_cons _ (.cons_cons _ (.cons_cons _ (.cons_cons _ .slnil)))))))) (fun hg96 => (q_eql rfl (gu hg96 rfl) rfl)) ?_
  refine ht (i := 10) rfl (by kernel_rfl) rfl rfl rfl (fun w hw => hw.back (Gh.refl _) h082 (.cons_cons _ (.cons_cons _ (.cons_cons _ (.cons_cons _ (.cons_cons _ (.cons_cons _ (.cons_cons _ .slnil)))))))) (q_pick rfl rfl (pk_and' (g := (((z36.length : Nat) : Int) == 1)) (y := (((((gt z36 0).path).length : Nat) : Int) == 1)))) ?_
  refine ht (i := 11) rfl (by kernel_rfl) rfl rfl rfl (fun w hw => hw.back (Gh.refl _) h082 (.cons_cons _ (.cons_cons _ (.cons_cons _ (.cons_cons _ (.cons_cons _ (.cons_cons _ (.cons_cons _ .slnil)))))))) (q_move (v := .bool ((((z36.length : Nat) : Int) == 1) && (((((gt z36 0).path).length : Nat) : Int) == 1))) rfl (by kernel_rfl)) ?_
  refine hg1 (i := 12) rfl (by kernel_rfl) rfl rfl rfl rfl rfl (fun w hw => hw.back (Gh.refl _) h082 (.cons_cons _ (.cons_cons _ (.cons_cons _ (.cons_cons _ (.cons_cons _ (.cons_cons _ (.cons_cons _ .slnil)))))))) (fun hg97 => (q_move (v := .slice A42 z36.length c43) rfl (by kernel_rfl))) ?_
  obtain ⟨hk99, h⟩ := chk_some h
  refine hg1 (i := 13) rfl (by kernel_rfl) rfl rfl rfl rfl rfl (fun w hw => hw.back (Gh.refl _) h082 (.cons_cons _ (.cons_cons _ (.cons_cons _ (.cons_cons _ (.cons_cons _ (.cons_cons _ (.cons_cons _ .slnil)))))))) (fun hg98 => (q_ixn (i := 0) Tryz.underlying32 Tryz.sizeOf42 rfl (gu hg98 rfl) rfl (of_decide_eq_true (imp_of hk99 hg98)) ((hr45.mono (((hl47.trans hl57).trans hl64).trans hl74)).some_ (of_decide_eq_true (imp_of hk99 hg98))))) ?_
  refine hg1 (i := 14) rfl (by kernel_rfl) rfl rfl rfl rfl rfl (fun w hw => hw.back (Gh.refl _) h082 (.cons_cons _ (.cons_cons _ (.cons_cons _ (.cons_cons _ (.cons_cons _ (.cons_cons _ (.cons_cons _ .slnil)))))))) (fun hg100 => (q_field_addr (0 * 3) fld_42_0 rfl (gu hg100 rfl) ((hr45.mono (((hl47.trans hl57).trans hl64).trans hl74)).some_ (of_decide_eq_true (imp_of hk99 hg100))) rfl)) ?_
  refine hg1 (i := 15) rfl (by kernel_rfl) rfl rfl rfl rfl rfl (fun w hw => hw.back (Gh.refl _) h082 (.cons_cons _ (.cons_cons _ (.cons_cons _ (.cons_cons _ (.cons_cons _ (.cons_cons _ (.cons_cons _ .slnil)))))))) (fun hg101 => (q_ldo (c := 0) (v := .slice A88 ((gt z36 0).path).length c89) (i := 3) rfl (hx94 (of_decide_eq_true (imp_of hk99 hg101))).2 rfl Tryz.isAgg23 (gu hg101 rfl) rfl)) ?_
  obtain ⟨hk103, h⟩ := chk_some h
  refine hg1 (i := 16) rfl (by kernel_rfl) rfl rfl rfl rfl rfl (fun w hw => hw.back (Gh.refl _) h082 (.cons_cons _ (.cons_cons _ (.cons_cons _ (.cons_cons _ (.cons_cons _ (.cons_cons _ (.cons_cons _ .slnil)))))))) (fun hg102 => (q_ixn (i := 0) Tryz.underlying23 Tryz.sizeOf3 rfl (gu hg102 rfl) rfl (of_decide_eq_true (imp_of hk103 hg102)) ((hx94 (of_decide_eq_true (imp_of hk99 hg102))).1.1.2.some_ (of_decide_eq_true (imp_of hk103 hg102))))) ?_
  refine hg1 (i := 17) rfl (by kernel_rfl) rfl rfl rfl rfl rfl (fun w hw => hw.back (Gh.refl _) h082 (.cons_cons _ (.cons_cons _ (.cons_cons _ (.cons_cons _ (.cons_cons _ (.cons_cons _ (.cons_cons _ .slnil)))))))) (fun hg104 => (q_ld (c := 0) (v := .int .i64 (gt ((gt z36 0).path) 0)) ((hx94 (of_decide_eq_true (imp_of hk99 hg104))).1.1.2.intT_at (of_decide_eq_true (imp_of hk103 hg104))).2 rfl Tryz.isAgg3 (gu hg104 rfl) rfl)) ?_
  refine hg1 (i := 18) rfl (by kernel_rfl) rfl rfl rfl rfl rfl (fun w hw => hw.back (Gh.refl _) h082 (.cons_cons _ (.cons_cons _ (.cons_cons _ (.cons_cons _ (.cons_cons _ (.cons_cons _ (.cons_cons _ .slnil)))))))) (fun hg105 => (q_move (v := .slice A17 z11.length c18) rfl (by kernel_rfl))) ?_
  obtain ⟨hk107, h⟩ := chk_some h
  refine hg1 (i := 19) rfl (by kernel_rfl) rfl rfl rfl rfl rfl (fun w hw => hw.back (Gh.refl _) h082 (.cons_cons _ (.cons_cons _ (.cons_cons _ (.cons_cons _ (.cons_cons _ (.cons_cons _ (.cons_cons _ .slnil)))))))) (fun hg106 => (q_ixn (i := 0) Tryz.underlying23 Tryz.sizeOf3 rfl (gu hg106 rfl) rfl (of_decide_eq_true (imp_of hk107 hg106)) ((hs49.mono ((hl57.trans hl64).trans hl74)).some_ (of_decide_eq_true (imp_of hk107 hg106))))) ?_
  refine hg1 (i := 20) rfl (by kernel_rfl) rfl rfl rfl rfl rfl (fun w hw => hw.back (Gh.refl _) h082 (.cons_cons _ (.cons_cons _ (.cons_cons _ (.cons_cons _ (.cons_cons _ (.cons_cons _ (.cons_cons _ .slnil)))))))) (fun hg108 => (q_ld (c := 0) (v := .int .i64 (gt z11 0)) ((hs49.mono ((hl57.trans hl64).trans hl74)).intT_at (of_decide_eq_true (imp_of hk107 hg108))).2 rfl Tryz.isAgg3 (gu hg108 rfl) rfl)) ?_
  refine hg1 (i := 21) rfl (by kernel_rfl) rfl rfl rfl rfl rfl (fun w hw => hw.back (Gh.refl _) h082 (.cons_cons _ (.cons_cons _ (.cons_cons _ (.cons_cons _ (.cons_cons _ (.cons_cons _ (.cons_cons _ .slnil)))))))) (fun hg109 => (q_eql rfl (gu hg109 rfl) (gu hg109 rfl))) ?_
  refine ht (i := 22) rfl (by kernel_rfl) rfl rfl rfl (fun w hw => hw.back (Gh.refl _) h082 (.cons_cons _ (.cons_cons _ (.cons_cons _ (.cons_cons _ (.cons_cons _ (.cons_cons _ (.cons_cons _ .slnil)))))))) (q_pick rfl rfl (pk_and' (g := ((((z36.length : Nat) : Int) == 1) && (((((gt z36 0).path).length : Nat) : Int) == 1))) (y := ((gt ((gt z36 0).path) 0) == (gt z11 0))))) ?_
  refine ht (i := 23) rfl (by kernel_rfl) rfl rfl rfl (fun w hw => hw.back (Gh.refl _) h082 (.cons_cons _ (.cons_cons _ (.cons_cons _ (.cons_cons _ (.cons_cons _ (.cons_cons _ (.cons_cons _ .slnil)))))))) (q_move (v := .bool (((((z36.length : Nat) : Int) == 1) && (((((gt z36 0).path).length : Nat) : Int) == 1)) && ((gt ((gt z36 0).path) 0) == (gt z11 0)))) rfl (by kernel_rfl)) ?_
  refine hg1 (i := 24) rfl (by kernel_rfl) rfl rfl rfl rfl rfl (fun w hw => hw.back (Gh.refl _) h082 (.cons_cons _ (.cons_cons _ (.cons_cons _ (.cons_cons _ (.cons_cons _ (.cons_cons _ (.cons_cons _ .slnil)))))))) (fun hg110 => (q_move (v := .slice A67 z61.length c68) rfl (by kernel_rfl))) ?_
  refine hg1 (i := 25) rfl (by kernel_rfl) rfl rfl rfl rfl rfl (fun w hw => hw.back (Gh.refl _) h082 (.cons_cons _ (.cons_cons _ (.cons_cons _ (.cons_cons _ (.cons_cons _ (.cons_cons _ (.cons_cons _ .slnil)))))))) (fun hg111 => (q_len_slice rfl Tryz.underlying32 (gu hg111 rfl))) ?_
  refine hg1 (i := 26) rfl (by kernel_rfl) rfl rfl rfl rfl rfl (fun w hw => hw.back (Gh.refl _) h082 (.cons_cons _ (.cons_cons _ (.cons_cons _ (.cons_cons _ (.cons_cons _ (.cons_cons _ (.cons_cons _ .slnil)))))))) (fun hg112 => (q_eql rfl (gu hg112 rfl) rfl)) ?_
  refine ht (i := 27) rfl (by kernel_rfl) rfl rfl rfl (fun w hw => hw.back (Gh.refl _) h082 (.cons_cons _ (.cons_cons _ (.cons_cons _ (.cons_cons _ (.cons_cons _ (.cons_cons _ (.cons_cons _ .slnil)))))))) (q_pick rfl rfl (pk_and' (g := (((((z36.length : Nat) : Int) == 1) && (((((gt z36 0).path).length : Nat) : Int) == 1)) && ((gt ((gt z36 0).path) 0) == (gt z11 0)))) (y := (((z61.length : Nat) : Int) == 1)))) ?_
  refine ht (i := 28) rfl (by kernel_rfl) rfl rfl rfl (fun w hw => hw.back (Gh.refl _) h082 (.cons_cons _ (.cons_cons _ (.cons_cons _ (.cons_cons _ (.cons_cons _ (.cons_cons _ (.cons_cons _ .slnil)))))))) (q_move (v := .bool ((((((z36.length : Nat) : Int) == 1) && (((((gt z36 0).path).length : Nat) : Int) == 1)) && ((gt ((gt z36 0).path) 0) == (gt z11 0))) && (((z61.length : Nat) : Int) == 1))) rfl (by kernel_rfl)) ?_
  refine hg1 (i := 29) rfl (by kernel_rfl) rfl rfl rfl rfl rfl (fun w hw => hw.back (Gh.refl _) h082 (.cons_cons _ (.cons_cons _ (.cons_cons _ (.cons_cons _ (.cons_cons _ (.cons_cons _ (.cons_cons _ .slnil)))))))) (fun hg113 => (q_move (v := .slice A67 z61.length c68) rfl (by kernel_rfl))) ?_
  obtain ⟨hk115, h⟩ := chk_some h
  refine hg1 (i := 30) rfl (by kernel_rfl) rfl rfl rfl rfl rfl (fun w hw => hw.back (Gh.refl _) h082 (.cons_cons _ (.cons_cons _ (.cons_cons _ (.cons_cons _ (.cons_cons _ (.cons_cons _ (.cons_cons _ .slnil)))))))) (fun hg114 => (q_ixn (i := 0) Tryz.underlying32 Tryz.sizeOf42 rfl (gu hg114 rfl) rfl (of_decide_eq_true (imp_of hk115 hg114)) ((hr70.mono hl74).some_ (of_decide_eq_true (imp_of hk115 hg114))))) ?_
  refine hg1 (i := 31) rfl (by kernel_rfl) rfl rfl rfl rfl rfl (fun w hw => hw.back (Gh.refl _) h082 (.cons_cons _ (.cons_cons _ (.cons_cons _ (.cons_cons _ (.cons_cons _ (.cons_cons _ (.cons_cons _ .slnil)))))))) (fun hg116 => (q_field_addr (0 * 3 + 2) fld_42_2 rfl (gu hg116 rfl) ((hr70.mono hl74).some_ (of_decide_eq_true (imp_of hk115 hg116))) rfl)) ?_
  obtain ⟨A118, c119, A120, c121, A122, c123, hx124⟩ := (hr70.mono hl74).dmend_StepT_at 0
  refine hg1 (i := 32) rfl (by kernel_rfl) rfl rfl rfl rfl rfl (fun w hw => hw.back (Gh.refl _) h082 (.cons_cons _ (.cons_cons _ (.cons_cons _ (.cons_cons _ (.cons_cons _ (.cons_cons _ (.cons_cons _ .slnil)))))))) (fun hg117 => (q_ldo (c := 2) (v := .slice A122 ((gt z61 0).recs).length c123) (i := 1) rfl (hx124 (of_decide_eq_true (imp_of hk115 hg117))).2 rfl Tryz.isAgg22 (gu hg117 rfl) rfl)) ?_
  refine hg1 (i := 33) rfl (by kernel_rfl) rfl rfl rfl rfl rfl (fun w hw => hw.back (Gh.refl _) h082 (.cons_cons _ (.cons_cons _ (.cons_cons _ (.cons_cons _ (.cons_cons _ (.cons_cons _ (.cons_cons _ .slnil)))))))) (fun hg125 => (q_move (v := .slice (some ⟨g10, 0, none⟩) [z1].length 1) rfl (by kernel_rfl))) ?_
  refine WH.lone (i := 34) (by kernel_rfl) rfl ?_
  obtain ⟨z127, hz128, h⟩ := bnd h
  refine vg1 rfl rfl rfl rfl rfl (fun hg126 => (q_call (call_run Tryz.call17 rfl rfl (args2 (gu hg126 rfl) (gu hg126 rfl))) (fun w hw => t_firthref06_SameRecs (Γ := Gh.all w) ((hx124 (of_decide_eq_true (imp_of hk115 hg126))).1.2.2.2.mono hw.sat.le_all) (hx124 (of_decide_eq_true (imp_of hk115 hg126))).1.2.2.1 ((hs29.mono (((((hl32.trans hl39).trans hl47).trans hl57).trans hl64).trans hl74)).mono hw.sat.le_all) hc30 (Sat.all w) (gc_of hz128 hg126)))) ?_
  refine WR.nil ?_
  refine WH.next (fun w hw => hw.back (Gh.refl _) h082 (.cons_cons _ (.cons_cons _ (.cons_cons _ (.cons_cons _ (.cons_cons _ (.cons_cons _ (.cons_cons _ .slnil)))))))) ?_
  refine ht (i := 35) rfl (by kernel_rfl) rfl rfl rfl (fun w hw => hw.back (Gh.refl _) h082 (.cons_cons _ (.cons_cons _ (.cons_cons _ (.cons_cons _ (.cons_cons _ (.cons_cons _ (.cons_cons _ .slnil)))))))) (q_pick rfl rfl (pk_and' (g := ((((((z36.length : Nat) : Int) == 1) && (((((gt z36 0).path).length : Nat) : Int) == 1)) && ((gt ((gt z36 0).path) 0) == (gt z11 0))) && (((z61.length : Nat) : Int) == 1))) (y := z127))) ?_
  refine ht (i := 36) rfl (by kernel_rfl) rfl rfl rfl (fun w hw => hw.back (Gh.refl _) h082 (.cons_cons _ (.cons_cons _ (.cons_cons _ (.cons_cons _ (.cons_cons _ (.cons_cons _ (.cons_cons _ .slnil)))))))) (q_move (v := .bool (((((((z36.length : Nat) : Int) == 1) && (((((gt z36 0).path).length : Nat) : Int) == 1)) && ((gt ((gt z36 0).path) 0) == (gt z11 0))) && (((z61.length : Nat) : Int) == 1)) && z127)) rfl (by kernel_rfl)) ?_
  refine hg1 (i := 37) rfl (by kernel_rfl) rfl rfl rfl rfl rfl (fun w hw => hw.back (Gh.refl _) h082 (.cons_cons _ (.cons_cons _ (.cons_cons _ (.cons_cons _ (.cons_cons _ (.cons_cons _ (.cons_cons _ .slnil)))))))) (fun hg129 => (q_move (v := .int .i64 z71.2) rfl (by kernel_rfl))) ?_
  refine hg1 (i := 38) rfl (by kernel_rfl) rfl rfl rfl rfl rfl (fun w hw => hw.back (Gh.refl _) h082 (.cons_cons _ (.cons_cons _ (.cons_cons _ (.cons_cons _ (.cons_cons _ (.cons_cons _ (.cons_cons _ .slnil)))))))) (fun hg130 => (q_eql rfl (gu hg130 rfl) rfl)) ?_
  refine ht (i := 39) rfl (by kernel_rfl) rfl rfl rfl (fun w hw => hw.back (Gh.refl _) h082 (.cons_cons _ (.cons_cons _ (.cons_cons _ (.cons_cons _ (.cons_cons _ (.cons_cons _ (.cons_cons _ .slnil)))))))) (q_pick rfl rfl (pk_and' (g := (((((((z36.length : Nat) : Int) == 1) && (((((gt z36 0).path).length : Nat) : Int) == 1)) && ((gt ((gt z36 0).path) 0) == (gt z11 0))) && (((z61.length : Nat) : Int) == 1)) && z127)) (y := (z71.2 == 0)))) ?_
  refine ht (i := 40) rfl (by kernel_rfl) rfl rfl rfl (fun w hw => hw.back (Gh.refl _) h082 (.cons_cons _ (.cons_cons _ (.cons_cons _ (.cons_cons _ (.cons_cons _ (.cons_cons _ (.cons_cons _ .slnil)))))))) (q_move (v := .bool ((((((((z36.length : Nat) : Int) == 1) && (((((gt z36 0).path).length : Nat) : Int) == 1)) && ((gt ((gt z36 0).path) 0) == (gt z11 0))) && (((z61.length : Nat) : Int) == 1)) && z127) && (z71.2 == 0))) rfl (by kernel_rfl)) ?_
  refine hg1 (i := 41) rfl (by kernel_rfl) rfl rfl rfl rfl rfl (fun w hw => hw.back (Gh.refl _) h082 (.cons_cons _ (.cons_cons _ (.cons_cons _ (.cons_cons _ (.cons_cons _ (.cons_cons _ (.cons_cons _ .slnil)))))))) (fun hg131 => (q_move (v := .slice A77 z71.1.length c78) rfl (by kernel_rfl))) ?_
  refine hg1 (i := 42) rfl (by kernel_rfl) rfl rfl rfl rfl rfl (fun w hw => hw.back (Gh.refl _) h082 (.cons_cons _ (.cons_cons _ (.cons_cons _ (.cons_cons _ (.cons_cons _ (.cons_cons _ (.cons_cons _ .slnil)))))))) (fun hg132 => (q_move (v := .slice (some ⟨g10, 0, none⟩) [z1].length 1) rfl (by kernel_rfl))) ?_
  refine WH.lone (i := 43) (by kernel_rfl) rfl ?_
  obtain ⟨z134, hz135, h⟩ := bnd h
  refine vg1 rfl rfl rfl rfl rfl (fun hg133 => (q_call (call_run Tryz.call17 rfl rfl (args2 (gu hg133 rfl) (gu hg133 rfl))) (fun w hw => t_firthref06_SameRecs (Γ := Gh.all w) (hr80.sl hw.sat.le_all (hw.ra 0 rfl)) hr80.capz ((hs29.mono (((((hl32.trans hl39).trans hl47).trans hl57).trans hl64).trans hl74)).mono hw.sat.le_all) hc30 (Sat.all w) (gc_of hz135 hg133)))) ?_
  refine WR.nil ?_
  refine WH.next (fun w hw => hw.back (Gh.refl _) h082 (.cons_cons _ (.cons_cons _ (.cons_cons _ (.cons_cons _ (.cons_cons _ (.cons_cons _ (.cons_cons _ .slnil)))))))) ?_
  refine ht (i := 44) rfl (by kernel_rfl) rfl rfl rfl (fun w hw => hw.back (Gh.refl _) h082 (.cons_cons _ (.cons_cons _ (.cons_cons _ (.cons_cons _ (.cons_cons _ (.cons_cons _ (.cons_cons _ .slnil)))))))) (q_pick rfl rfl (pk_and' (g := ((((((((z36.length : Nat) : Int) == 1) && (((((gt z36 0).path).length : Nat) : Int) == 1)) && ((gt ((gt z36 0).path) 0) == (gt z11 0))) && (((z61.length : Nat) : Int) == 1)) && z127) && (z71.2 == 0))) (y := z134))) ?_
  refine ht (i := 45) rfl (by kernel_rfl) rfl rfl rfl (fun w hw => hw.back (Gh.refl _) h082 (.cons_cons _ (.cons_cons _ (.cons_cons _ (.cons_cons _ (.cons_cons _ (.cons_cons _ (.cons_cons _ .slnil)))))))) (q_move (v := .bool (((((((((z36.length : Nat) : Int) == 1) && (((((gt z36 0).path).length : Nat) : Int) == 1)) && ((gt ((gt z36 0).path) 0) == (gt z11 0))) && (((z61.length : Nat) : Int) == 1)) && z127) && (z71.2 == 0)) && z134)) rfl (by kernel_rfl)) ?_
  refine hg1 (i := 46) rfl (by kernel_rfl) rfl rfl rfl rfl rfl (fun w hw => hw.back (Gh.refl _) h082 (.cons_cons _ (.cons_cons _ (.cons_cons _ (.cons_cons _ (.cons_cons _ (.cons_cons _ (.cons_cons _ .slnil)))))))) (fun hg136 => (q_move (v := .slice (some ⟨g10, 0, none⟩) [z1].length 1) rfl (by kernel_rfl))) ?_
  refine hg1 (i := 47) rfl (by kernel_rfl) rfl rfl rfl rfl rfl (fun w hw => hw.back (Gh.refl _) h082 (.cons_cons _ (.cons_cons _ (.cons_cons _ (.cons_cons _ (.cons_cons _ (.cons_cons _ (.cons_cons _ .slnil)))))))) (fun hg137 => (q_move (v := .slice A17 z11.length c18) rfl (by kernel_rfl))) ?_
  refine (Bool.eq_false_or_eq_true (((((((((z36.length : Nat) : Int) == 1) && (((((gt z36 0).path).length : Nat) : Int) == 1)) && ((gt ((gt z36 0).path) 0) == (gt z11 0))) && (((z61.length : Nat) : Int) == 1)) && z127) && (z71.2 == 0)) && z134)).elim (fun hb138 => ?_) (fun hb138 => ?_)
  · skip
    have h := bt hb138 h
    refine WH.lone (i := 48) (by kernel_rfl) rfl ?_
    refine WR.sat (c0 := true) (g := (((((((((z36.length : Nat) : Int) == 1) && (((((gt z36 0).path).length : Nat) : Int) == 1)) && ((gt ((gt z36 0).path) 0) == (gt z11 0))) && (((z61.length : Nat) : Int) == 1)) && z127) && (z71.2 == 0)) && z134)) rfl rfl rfl hb138 ?_
    obtain ⟨z139, hz140, h⟩ := bnd h
    refine e_call (is := []) rfl rfl (call_run Tryz.call18 rfl rfl (args3 (gu hb138 rfl) (gu hb138 rfl) rfl)) rfl (fun w hp => t_mend_Give (hs29.mono (((((hl32.trans hl39).trans hl47).trans hl57).trans hl64).trans hl74)) hc30 (hs49.mono ((hl57.trans hl64).trans hl74)) hc50 (Sl.nil recT _ none) (Nat.zero_le 0) hp hz140) ?_
    rintro Γ141 U143 v144 hl142 ⟨A145, c146, row147, rfl, rfl, hr148, _⟩
    change WR _ _ _ (CC F Γ141 [row147, row79, row69, [], row44, [], [], []]) _ _ (upd _ 71 (.slice A145 z139.length c146))
    refine WR.nil ?_
    refine WH.next (fun w hw => hw.back hl142 h082 (.cons _ (.cons_cons _ (.cons_cons _ (.cons_cons _ (.cons_cons _ (.cons_cons _ (.cons_cons _ (.cons_cons _ .slnil))))))))) ?_
    refine WH.lone (i := 49) (by kernel_rfl) rfl ?_
    refine vg1 rfl rfl rfl rfl rfl (fun hg150 => QV.qo (q_len_slice rfl Tryz.underlying22 rfl)) ?_
    refine WR.nil ?_
    refine WH.next (fun w hw => hw.back hl142 h082 (.cons _ (.cons_cons _ (.cons_cons _ (.cons_cons _ (.cons_cons _ (.cons_cons _ (.cons_cons _ (.cons_cons _ .slnil))))))))) ?_
    refine hg1 (i := 50) rfl (by kernel_rfl) rfl rfl rfl rfl rfl (fun w hw => hw.back hl142 h082 (.cons _ (.cons_cons _ (.cons_cons _ (.cons_cons _ (.cons_cons _ (.cons_cons _ (.cons_cons _ (.cons_cons _ .slnil))))))))) (fun hg151 => (q_eql rfl (gu hg151 rfl) rfl)) ?_
    refine ht (i := 51) rfl (by kernel_rfl) rfl rfl rfl (fun w hw => hw.back hl142 h082 (.cons _ (.cons_cons _ (.cons_cons _ (.cons_cons _ (.cons_cons _ (.cons_cons _ (.cons_cons _ (.cons_cons _ .slnil))))))))) (q_pick_t (v := .bool (((z139.length : Nat) : Int) == 1)) rfl rfl hb138 (gu hb138 rfl)) ?_
    refine ht (i := 52) rfl (by kernel_rfl) rfl rfl rfl (fun w hw => hw.back hl142 h082 (.cons _ (.cons_cons _ (.cons_cons _ (.cons_cons _ (.cons_cons _ (.cons_cons _ (.cons_cons _ (.cons_cons _ .slnil))))))))) (q_move (v := .bool (((z139.length : Nat) : Int) == 1)) rfl (by kernel_rfl)) ?_
    refine hg1 (i := 53) rfl (by kernel_rfl) rfl rfl rfl rfl rfl (fun w hw => hw.back hl142 h082 (.cons _ (.cons_cons _ (.cons_cons _ (.cons_cons _ (.cons_cons _ (.cons_cons _ (.cons_cons _ (.cons_cons _ .slnil))))))))) (fun hg152 => (q_move (v := .slice (some ⟨g10, 0, none⟩) [z1].length 1) rfl (by kernel_rfl))) ?_
    refine hg1 (i := 54) rfl (by kernel_rfl) rfl rfl rfl rfl rfl (fun w hw => hw.back hl142 h082 (.cons _ (.cons_cons _ (.cons_cons _ (.cons_cons _ (.cons_cons _ (.cons_cons _ (.cons_cons _ (.cons_cons _ .slnil))))))))) (fun hg153 => (q_move (v := .slice A17 z11.length c18) rfl (by kernel_rfl))) ?_
    refine hg1 (i := 55) rfl (by kernel_rfl) rfl rfl rfl rfl rfl (fun w hw => hw.back hl142 h082 (.cons _ (.cons_cons _ (.cons_cons _ (.cons_cons _ (.cons_cons _ (.cons_cons _ (.cons_cons _ (.cons_cons _ .slnil))))))))) (fun hg154 => (q_move (v := .slice (some ⟨g10, 0, none⟩) [z1].length 1) rfl (by kernel_rfl))) ?_
    refine (Bool.eq_false_or_eq_true (((z139.length : Nat) : Int) == 1)).elim (fun hb155 => ?_) (fun hb155 => ?_)
    · skip
      have h := bt hb155 h
      refine WH.lone (i := 56) (by kernel_rfl) rfl ?_
      refine WR.sat (c0 := true) (g := (((z139.length : Nat) : Int) == 1)) rfl rfl rfl hb155 ?_
      obtain ⟨z156, hz157, h⟩ := bnd h
      refine e_call (is := []) rfl rfl (call_run Tryz.call18 rfl rfl (args3 (gu hb155 rfl) (gu hb155 rfl) (gu hb155 rfl))) rfl (fun w hp => t_mend_Give (hs29.mono ((((((hl32.trans hl39).trans hl47).trans hl57).trans hl64).trans hl74).trans hl142)) hc30 (hs49.mono (((hl57.trans hl64).trans hl74).trans hl142)) hc50 (hs29.mono ((((((hl32.trans hl39).trans hl47).trans hl57).trans hl64).trans hl74).trans hl142)) hc30 hp hz157) ?_
      rintro Γ158 U160 v161 hl159 ⟨A162, c163, row164, rfl, rfl, hr165, _⟩
      change WR _ _ _ (CC F Γ158 [row164, row147, row79, row69, [], row44, [], [], []]) _ _ (upd _ 79 (.slice A162 z156.length c163))
      refine WR.nil ?_
      refine WH.next (fun w hw => hw.back (hl142.trans hl159) h082 (.cons _ (.cons _ (.cons_cons _ (.cons_cons _ (.cons_cons _ (.cons_cons _ (.cons_cons _ (.cons_cons _ (.cons_cons _ .slnil)))))))))) ?_
      refine WH.lone (i := 57) (by kernel_rfl) rfl ?_
      refine vg1 rfl rfl rfl rfl rfl (fun hg167 => QV.qo (q_len_slice rfl Tryz.underlying22 rfl)) ?_
      refine WR.nil ?_
      refine WH.next (fun w hw => hw.back (hl142.trans hl159) h082 (.cons _ (.cons _ (.cons_cons _ (.cons_cons _ (.cons_cons _ (.cons_cons _ (.cons_cons _ (.cons_cons _ (.cons_cons _ .slnil)))))))))) ?_
      refine hg1 (i := 58) rfl (by kernel_rfl) rfl rfl rfl rfl rfl (fun w hw => hw.back (hl142.trans hl159) h082 (.cons _ (.cons _ (.cons_cons _ (.cons_cons _ (.cons_cons _ (.cons_cons _ (.cons_cons _ (.cons_cons _ (.cons_cons _ .slnil)))))))))) (fun hg168 => (q_eql rfl (gu hg168 rfl) rfl)) ?_
      refine ht (i := 59) rfl (by kernel_rfl) rfl rfl rfl (fun w hw => hw.back (hl142.trans hl159) h082 (.cons _ (.cons _ (.cons_cons _ (.cons_cons _ (.cons_cons _ (.cons_cons _ (.cons_cons _ (.cons_cons _ (.cons_cons _ .slnil)))))))))) (q_pick_t (v := .bool (((z156.length : Nat) : Int) == 0)) rfl rfl hb155 (gu hb155 rfl)) ?_
      refine ht (i := 60) rfl (by kernel_rfl) rfl rfl rfl (fun w hw => hw.back (hl142.trans hl159) h082 (.cons _ (.cons _ (.cons_cons _ (.cons_cons _ (.cons_cons _ (.cons_cons _ (.cons_cons _ (.cons_cons _ (.cons_cons _ .slnil)))))))))) (q_move (v := .bool (((z156.length : Nat) : Int) == 0)) rfl (by kernel_rfl)) ?_
      refine hg1 (i := 61) rfl (by kernel_rfl) rfl rfl rfl rfl rfl (fun w hw => hw.back (hl142.trans hl159) h082 (.cons _ (.cons _ (.cons_cons _ (.cons_cons _ (.cons_cons _ (.cons_cons _ (.cons_cons _ (.cons_cons _ (.cons_cons _ .slnil)))))))))) (fun hg169 => (q_move (v := .slice (some ⟨g10, 0, none⟩) [z1].length 1) rfl (by kernel_rfl))) ?_
      refine (Bool.eq_false_or_eq_true (((z156.length : Nat) : Int) == 0)).elim (fun hb170 => ?_) (fun hb170 => ?_)
      · skip
        have h := bt hb170 h
        refine WH.lone (i := 62) (by kernel_rfl) rfl ?_
        refine WR.sat (c0 := true) (g := (((z156.length : Nat) : Int) == 0)) rfl rfl rfl hb170 ?_
        obtain ⟨z171, hz172, h⟩ := bnd h
        refine e_call (is := []) rfl rfl (call_run Tryz.call13 rfl rfl (args1 (gu hb170 rfl))) rfl (fun w hp => t_mend_Open (hs29.mono (((((((hl32.trans hl39).trans hl47).trans hl57).trans hl64).trans hl74).trans hl142).trans hl159)) hc30 hp hz172) ?_
        rintro Γ173 U175 v176 hl174 ⟨A177, c178, row179, rfl, rfl, hr180, _⟩
        change WR _ _ _ (CC F Γ173 [row179, row164, row147, row79, row69, [], row44, [], [], []]) _ _ (upd _ 85 (.slice A177 z171.length c178))
        refine WR.nil ?_
        refine WH.next (fun w hw => hw.back ((hl142.trans hl159).trans hl174) h082 (.cons _ (.cons _ (.cons _ (.cons_cons _ (.cons_cons _ (.cons_cons _ (.cons_cons _ (.cons_cons _ (.cons_cons _ (.cons_cons _ .slnil))))))))))) ?_
        refine WH.lone (i := 63) (by kernel_rfl) rfl ?_
        refine vg1 rfl rfl rfl rfl rfl (fun hg182 => QV.qo (q_len_slice rfl Tryz.underlying24 rfl)) ?_
        refine WR.nil ?_
        refine WH.next (fun w hw => hw.back ((hl142.trans hl159).trans hl174) h082 (.cons _ (.cons _ (.cons _ (.cons_cons _ (.cons_cons _ (.cons_cons _ (.cons_cons _ (.cons_cons _ (.cons_cons _ (.cons_cons _ .slnil))))))))))) ?_
        refine hg1 (i := 64) rfl (by kernel_rfl) rfl rfl rfl rfl rfl (fun w hw => hw.back ((hl142.trans hl159).trans hl174) h082 (.cons _ (.cons _ (.cons _ (.cons_cons _ (.cons_cons _ (.cons_cons _ (.cons_cons _ (.cons_cons _ (.cons_cons _ (.cons_cons _ .slnil))))))))))) (fun hg183 => (q_eql rfl (gu hg183 rfl) rfl)) ?_
        refine ht (i := 65) rfl (by kernel_rfl) rfl rfl rfl (fun w hw => hw.back ((hl142.trans hl159).trans hl174) h082 (.cons _ (.cons _ (.cons _ (.cons_cons _ (.cons_cons _ (.cons_cons _ (.cons_cons _ (.cons_cons _ (.cons_cons _ (.cons_cons _ .slnil))))))))))) (q_pick_t (v := .bool (((z171.length : Nat) : Int) == 16)) rfl rfl hb170 (gu hb170 rfl)) ?_
        refine ht (i := 66) rfl (by kernel_rfl) rfl rfl rfl (fun w hw => hw.back ((hl142.trans hl159).trans hl174) h082 (.cons _ (.cons _ (.cons _ (.cons_cons _ (.cons_cons _ (.cons_cons _ (.cons_cons _ (.cons_cons _ (.cons_cons _ (.cons_cons _ .slnil))))))))))) (q_assign (v := .bool (((z171.length : Nat) : Int) == 16)) rfl (by kernel_rfl)) ?_
        refine WH.done (by kernel_rfl) ?_
        change WC _ _ _ _ _ _
        refine WC.ret ?_
        intro w hw
        obtain rfl := Option.some.inj h
        subst hF
        exact ⟨by kernel_rfl, hw.fr⟩
      · skip
        have h := bf hb170 h
        refine hg1 (g := (((z156.length : Nat) : Int) == 0)) (i := 62) (v := undef) rfl (by kernel_rfl) rfl rfl rfl rfl rfl (fun w hw => hw.back (hl142.trans hl159) h082 (.cons _ (.cons _ (.cons_cons _ (.cons_cons _ (.cons_cons _ (.cons_cons _ (.cons_cons _ (.cons_cons _ (.cons_cons _ .slnil)))))))))) (no_tf hb170) ?_
        refine WH.env (v := undef) (gv_false hb170) ?_
        refine hg1 (g := (((z156.length : Nat) : Int) == 0)) (i := 63) (v := undef) rfl (by kernel_rfl) rfl rfl rfl rfl rfl (fun w hw => hw.back (hl142.trans hl159) h082 (.cons _ (.cons _ (.cons_cons _ (.cons_cons _ (.cons_cons _ (.cons_cons _ (.cons_cons _ (.cons_cons _ (.cons_cons _ .slnil)))))))))) (no_tf hb170) ?_
        refine WH.env (v := undef) (gv_false hb170) ?_
        refine hg1 (g := (((z156.length : Nat) : Int) == 0)) (i := 64) (v := undef) rfl (by kernel_rfl) rfl rfl rfl rfl rfl (fun w hw => hw.back (hl142.trans hl159) h082 (.cons _ (.cons _ (.cons_cons _ (.cons_cons _ (.cons_cons _ (.cons_cons _ (.cons_cons _ (.cons_cons _ (.cons_cons _ .slnil)))))))))) (no_tf hb170) ?_
        refine WH.env (v := undef) (gv_false hb170) ?_
        refine ht (i := 65) rfl (by kernel_rfl) rfl rfl rfl (fun w hw => hw.back (hl142.trans hl159) h082 (.cons _ (.cons _ (.cons_cons _ (.cons_cons _ (.cons_cons _ (.cons_cons _ (.cons_cons _ (.cons_cons _ (.cons_cons _ .slnil)))))))))) (q_pick_f (v := .bool false) rfl rfl hb170 (by kernel_rfl)) ?_
        refine ht (i := 66) rfl (by kernel_rfl) rfl rfl rfl (fun w hw => hw.back (hl142.trans hl159) h082 (.cons _ (.cons _ (.cons_cons _ (.cons_cons _ (.cons_cons _ (.cons_cons _ (.cons_cons _ (.cons_cons _ (.cons_cons _ .slnil)))))))))) (q_assign (v := .bool false) rfl (by kernel_rfl)) ?_
        refine WH.done (by kernel_rfl) ?_
        change WC _ _ _ _ _ _
        refine WC.ret ?_
        intro w hw
        obtain rfl := Option.some.inj h
        subst hF
        exact ⟨by kernel_rfl, hw.fr⟩
    · skip
      have h := bf hb155 h
      refine hg1 (g := (((z139.length : Nat) : Int) == 1)) (i := 56) (v := undef) rfl (by kernel_rfl) rfl rfl rfl rfl rfl (fun w hw => hw.back hl142 h082 (.cons _ (.cons_cons _ (.cons_cons _ (.cons_cons _ (.cons_cons _ (.cons_cons _ (.cons_cons _ (.cons_cons _ .slnil))))))))) (no_tf hb155) ?_
      refine WH.env (v := undef) (gv_false hb155) ?_
      refine hg1 (g := (((z139.length : Nat) : Int) == 1)) (i := 57) (v := undef) rfl (by kernel_rfl) rfl rfl rfl rfl rfl (fun w hw => hw.back hl142 h082 (.cons _ (.cons_cons _ (.cons_cons _ (.cons_cons _ (.cons_cons _ (.cons_cons _ (.cons_cons _ (.cons_cons _ .slnil))))))))) (no_tf hb155) ?_
      refine WH.env (v := undef) (gv_false hb155) ?_
      refine hg1 (g := (((z139.length : Nat) : Int) == 1)) (i := 58) (v := undef) rfl (by kernel_rfl) rfl rfl rfl rfl rfl (fun w hw => hw.back hl142 h082 (.cons _ (.cons_cons _ (.cons_cons _ (.cons_cons _ (.cons_cons _ (.cons_cons _ (.cons_cons _ (.cons_cons _ .slnil))))))))) (no_tf hb155) ?_
      refine WH.env (v := undef) (gv_false hb155) ?_
      refine ht (i := 59) rfl (by kernel_rfl) rfl rfl rfl (fun w hw => hw.back hl142 h082 (.cons _ (.cons_cons _ (.cons_cons _ (.cons_cons _ (.cons_cons _ (.cons_cons _ (.cons_cons _ (.cons_cons _ .slnil))))))))) (q_pick_f (v := .bool false) rfl rfl hb155 (by kernel_rfl)) ?_
      refine ht (i := 60) rfl (by kernel_rfl) rfl rfl rfl (fun w hw => hw.back hl142 h082 (.cons _ (.cons_cons _ (.cons_cons _ (.cons_cons _ (.cons_cons _ (.cons_cons _ (.cons_cons _ (.cons_cons _ .slnil))))))))) (q_move (v := .bool false) rfl (by kernel_rfl)) ?_
      refine hg1 (g := false) (i := 61) (v := undef) rfl (by kernel_rfl) rfl rfl rfl rfl rfl (fun w hw => hw.back hl142 h082 (.cons _ (.cons_cons _ (.cons_cons _ (.cons_cons _ (.cons_cons _ (.cons_cons _ (.cons_cons _ (.cons_cons _ .slnil))))))))) (no_tf rfl) ?_
      refine WH.env (v := undef) (gv_false rfl) ?_
      refine hg1 (g := false) (i := 62) (v := undef) rfl (by kernel_rfl) rfl rfl rfl rfl rfl (fun w hw => hw.back hl142 h082 (.cons _ (.cons_cons _ (.cons_cons _ (.cons_cons _ (.cons_cons _ (.cons_cons _ (.cons_cons _ (.cons_cons _ .slnil))))))))) (no_tf rfl) ?_
      refine WH.env (v := undef) (gv_false rfl) ?_
      refine hg1 (g := false) (i := 63) (v := undef) rfl (by kernel_rfl) rfl rfl rfl rfl rfl (fun w hw => hw.back hl142 h082 (.cons _ (.cons_cons _ (.cons_cons _ (.cons_cons _ (.cons_cons _ (.cons_cons _ (.cons_cons _ (.cons_cons _ .slnil))))))))) (no_tf rfl) ?_
      refine WH.env (v := undef) (gv_false rfl) ?_
      refine hg1 (g := false) (i := 64) (v := undef) rfl (by kernel_rfl) rfl rfl rfl rfl rfl (fun w hw => hw.back hl142 h082 (.cons _ (.cons_cons _ (.cons_cons _ (.cons_cons _ (.cons_cons _ (.cons_cons _ (.cons_cons _ (.cons_cons _ .slnil))))))))) (no_tf rfl) ?_
      refine WH.env (v := undef) (gv_false rfl) ?_
      refine ht (i := 65) rfl (by kernel_rfl) rfl rfl rfl (fun w hw => hw.back hl142 h082 (.cons _ (.cons_cons _ (.cons_cons _ (.cons_cons _ (.cons_cons _ (.cons_cons _ (.cons_cons _ (.cons_cons _ .slnil))))))))) (q_pickf (v := .bool false) rfl rfl rfl) ?_
      refine ht (i := 66) rfl (by kernel_rfl) rfl rfl rfl (fun w hw => hw.back hl142 h082 (.cons _ (.cons_cons _ (.cons_cons _ (.cons_cons _ (.cons_cons _ (.cons_cons _ (.cons_cons _ (.cons_cons _ .slnil))))))))) (q_assign (v := .bool false) rfl (by kernel_rfl)) ?_
      refine WH.done (by kernel_rfl) ?_
      change WC _ _ _ _ _ _
      refine WC.ret ?_
      intro w hw
      obtain rfl := Option.some.inj h
      subst hF
      exact ⟨by kernel_rfl, hw.fr⟩
  · skip
    have h := bf hb138 h
    refine hg1 (g := (((((((((z36.length : Nat) : Int) == 1) && (((((gt z36 0).path).length : Nat) : Int) == 1)) && ((gt ((gt z36 0).path) 0) == (gt z11 0))) && (((z61.length : Nat) : Int) == 1)) && z127) && (z71.2 == 0)) && z134)) (i := 48) (v := undef) rfl (by kernel_rfl) rfl rfl rfl rfl rfl (fun w hw => hw.back (Gh.refl _) h082 (.cons_cons _ (.cons_cons _ (.cons_cons _ (.cons_cons _ (.cons_cons _ (.cons_cons _ (.cons_cons _ .slnil)))))))) (no_tf hb138) ?_
    refine WH.env (v := undef) (gv_false hb138) ?_
    refine hg1 (g := (((((((((z36.length : Nat) : Int) == 1) && (((((gt z36 0).path).length : Nat) : Int) == 1)) && ((gt ((gt z36 0).path) 0) == (gt z11 0))) && (((z61.length : Nat) : Int) == 1)) && z127) && (z71.2 == 0)) && z134)) (i := 49) (v := undef) rfl (by kernel_rfl) rfl rfl rfl rfl rfl (fun w hw => hw.back (Gh.refl _) h082 (.cons_cons _ (.cons_cons _ (.cons_cons _ (.cons_cons _ (.cons_cons _ (.cons_cons _ (.cons_cons _ .slnil)))))))) (no_tf hb138) ?_
    refine WH.env (v := undef) (gv_false hb138) ?_
    refine hg1 (g := (((((((((z36.length : Nat) : Int) == 1) && (((((gt z36 0).path).length : Nat) : Int) == 1)) && ((gt ((gt z36 0).path) 0) == (gt z11 0))) && (((z61.length : Nat) : Int) == 1)) && z127) && (z71.2 == 0)) && z134)) (i := 50) (v := undef) rfl (by kernel_rfl) rfl rfl rfl rfl rfl (fun w hw => hw.back (Gh.refl _) h082 (.cons_cons _ (.cons_cons _ (.cons_cons _ (.cons_cons _ (.cons_cons _ (.cons_cons _ (.cons_cons _ .slnil)))))))) (no_tf hb138) ?_
    refine WH.env (v := undef) (gv_false hb138) ?_
    refine ht (i := 51) rfl (by kernel_rfl) rfl rfl rfl (fun w hw => hw.back (Gh.refl _) h082 (.cons_cons _ (.cons_cons _ (.cons_cons _ (.cons_cons _ (.cons_cons _ (.cons_cons _ (.cons_cons _ .slnil)))))))) (q_pick_f (v := .bool false) rfl rfl hb138 (by kernel_rfl)) ?_
    refine ht (i := 52) rfl (by kernel_rfl) rfl rfl rfl (fun w hw => hw.back (Gh.refl _) h082 (.cons_cons _ (.cons_cons _ (.cons_cons _ (.cons_cons _ (.cons_cons _ (.cons_cons _ (.cons_cons _ .slnil)))))))) (q_move (v := .bool false) rfl (by kernel_rfl)) ?_
    refine hg1 (g := false) (i := 53) (v := undef) rfl (by kernel_rfl) rfl rfl rfl rfl rfl (fun w hw => hw.back (Gh.refl _) h082 (.cons_cons _ (.cons_cons _ (.cons_cons _ (.cons_cons _ (.cons_cons _ (.cons_cons _ (.cons_cons _ .slnil)))))))) (no_tf rfl) ?_
    refine WH.env (v := undef) (gv_false rfl) ?_
    refine hg1 (g := false) (i := 54) (v := undef) rfl (by kernel_rfl) rfl rfl rfl rfl rfl (fun w hw => hw.back (Gh.refl _) h082 (.cons_cons _ (.cons_cons _ (.cons_cons _ (.cons_cons _ (.cons_cons _ (.cons_cons _ (.cons_cons _ .slnil)))))))) (no_tf rfl) ?_
    refine WH.env (v := undef) (gv_false rfl) ?_
    refine hg1 (g := false) (i := 55) (v := undef) rfl (by kernel_rfl) rfl rfl rfl rfl rfl (fun w hw => hw.back (Gh.refl _) h082 (.cons_cons _ (.cons_cons _ (.cons_cons _ (.cons_cons _ (.cons_cons _ (.cons_cons _ (.cons_cons _ .slnil)))))))) (no_tf rfl) ?_
    refine WH.env (v := undef) (gv_false rfl) ?_
    refine hg1 (g := false) (i := 56) (v := undef) rfl (by kernel_rfl) rfl rfl rfl rfl rfl (fun w hw => hw.back (Gh.refl _) h082 (.cons_cons _ (.cons_cons _ (.cons_cons _ (.cons_cons _ (.cons_cons _ (.cons_cons _ (.cons_cons _ .slnil)))))))) (no_tf rfl) ?_
    refine WH.env (v := undef) (gv_false rfl) ?_
    refine hg1 (g := false) (i := 57) (v := undef) rfl (by kernel_rfl) rfl rfl rfl rfl rfl (fun w hw => hw.back (Gh.refl _) h082 (.cons_cons _ (.cons_cons _ (.cons_cons _ (.cons_cons _ (.cons_cons _ (.cons_cons _ (.cons_cons _ .slnil)))))))) (no_tf rfl) ?_
    refine WH.env (v := undef) (gv_false rfl) ?_
    refine hg1 (g := false) (i := 58) (v := undef) rfl (by kernel_rfl) rfl rfl rfl rfl rfl (fun w hw => hw.back (Gh.refl _) h082 (.cons_cons _ (.cons_cons _ (.cons_cons _ (.cons_cons _ (.cons_cons _ (.cons_cons _ (.cons_cons _ .slnil)))))))) (no_tf rfl) ?_
    refine WH.env (v := undef) (gv_false rfl) ?_
    refine ht (i := 59) rfl (by kernel_rfl) rfl rfl rfl (fun w hw => hw.back (Gh.refl _) h082 (.cons_cons _ (.cons_cons _ (.cons_cons _ (.cons_cons _ (.cons_cons _ (.cons_cons _ (.cons_cons _ .slnil)))))))) (q_pickf (v := .bool false) rfl rfl rfl) ?_
    refine ht (i := 60) rfl (by kernel_rfl) rfl rfl rfl (fun w hw => hw.back (Gh.refl _) h082 (.cons_cons _ (.cons_cons _ (.cons_cons _ (.cons_cons _ (.cons_cons _ (.cons_cons _ (.cons_cons _ .slnil)))))))) (q_move (v := .bool false) rfl (by kernel_rfl)) ?_
    refine hg1 (g := false) (i := 61) (v := undef) rfl (by kernel_rfl) rfl rfl rfl rfl rfl (fun w hw => hw.back (Gh.refl _) h082 (.cons_cons _ (.cons_cons _ (.cons_cons _ (.cons_cons _ (.cons_cons _ (.cons_cons _ (.cons_cons _ .slnil)))))))) (no_tf rfl) ?_
    refine WH.env (v := undef) (gv_false rfl) ?_
    refine hg1 (g := false) (i := 62) (v := undef) rfl (by kernel_rfl) rfl rfl rfl rfl rfl (fun w hw => hw.back (Gh.refl _) h082 (.cons_cons _ (.cons_cons _ (.cons_cons _ (.cons_cons _ (.cons_cons _ (.cons_cons _ (.cons_cons _ .slnil)))))))) (no_tf rfl) ?_
    refine WH.env (v := undef) (gv_false rfl) ?_
    refine hg1 (g := false) (i := 63) (v := undef) rfl (by kernel_rfl) rfl rfl rfl rfl rfl (fun w hw => hw.back (Gh.refl _) h082 (.cons_cons _ (.cons_cons _ (.cons_cons _ (.cons_cons _ (.cons_cons _ (.cons_cons _ (.cons_cons _ .slnil)))))))) (no_tf rfl) ?_
    refine WH.env (v := undef) (gv_false rfl) ?_
    refine hg1 (g := false) (i := 64) (v := undef) rfl (by kernel_rfl) rfl rfl rfl rfl rfl (fun w hw => hw.back (Gh.refl _) h082 (.cons_cons _ (.cons_cons _ (.cons_cons _ (.cons_cons _ (.cons_cons _ (.cons_cons _ (.cons_cons _ .slnil)))))))) (no_tf rfl) ?_
    refine WH.env (v := undef) (gv_false rfl) ?_
    refine ht (i := 65) rfl (by kernel_rfl) rfl rfl rfl (fun w hw => hw.back (Gh.refl _) h082 (.cons_cons _ (.cons_cons _ (.cons_cons _ (.cons_cons _ (.cons_cons _ (.cons_cons _ (.cons_cons _ .slnil)))))))) (q_pickf (v := .bool false) rfl rfl rfl) ?_
    refine ht (i := 66) rfl (by kernel_rfl) rfl rfl rfl (fun w hw => hw.back (Gh.refl _) h082 (.cons_cons _ (.cons_cons _ (.cons_cons _ (.cons_cons _ (.cons_cons _ (.cons_cons _ (.cons_cons _ .slnil)))))))) (q_assign (v := .bool false) rfl (by kernel_rfl)) ?_
    refine WH.done (by kernel_rfl) ?_
    change WC _ _ _ _ _ _
    refine WC.ret ?_
    intro w hw
    obtain rfl := Option.some.inj h
    subst hF
    exact ⟨by kernel_rfl, hw.fr⟩
set_option maxRecDepth 100000 in
set_option maxHeartbeats 400000 in
theorem t_firthref03_Dot {Γ : Gh} {w0 : World} (d : Dot) (hd : Dot.fits Γ  d) (hs : Sat Γ w0) {r : Bool} (h : m_firthref03_Dot d = some r) : Calls Tryz.prog 101 #[.agg #[.int .i64 d.s, .int .i64 d.n]] w0 (fun e w' => e = .returned (.bool r) ∧ Fr no w0 w') := by
  refine calls_of (N := 21) (rs := [2]) (args := [.agg #[.int .i64 d.s, .int .i64 d.n]]) Tryz.func101 rfl Tryz.ntmps101 Tryz.results101 rfl ?_
  obtain ⟨F, hF⟩ : ∃ F : Fm, F = ⟨no, w0, Γ⟩ := ⟨_, rfl⟩
  refine WC.here (C := CC F Γ []) ?_ (hF ▸ Cur.start0 hs)
  refine WC.rs ?_
  refine e_box (v := .agg #[.int .i64 d.s, .int .i64 d.n]) rfl rfl rfl rfl (by kernel_rfl) ?_
  intro g1
  refine va rfl rfl rfl (q_assign (v := .bool false) rfl (by kernel_rfl)) ?_
  refine WR.nil ?_
  change WC _ _ _ _ _ _
  refine WC.rs ?_
  refine va rfl rfl rfl (q_fl 0 fld_54_0 rfl rfl rfl) ?_
  refine va rfl rfl rfl (q_ldl (i := 0) (v := .int .i64 d.s) rfl rfl Tryz.isAgg3 rfl rfl) ?_
  refine va rfl rfl rfl (q_geq rfl rfl rfl) ?_
  refine va rfl rfl rfl (q_move (v := .bool (decide (1 ≤ d.s))) rfl (by kernel_rfl)) ?_
  refine vg1 rfl rfl rfl rfl rfl (fun hg2 => QV.qo (q_fl 0 fld_54_0 rfl rfl rfl)) ?_
  refine vg1 rfl rfl rfl rfl rfl (fun hg3 => QV.qo (q_ldl (i := 0) (v := .int .i64 d.s) rfl rfl Tryz.isAgg3 (gu hg3 rfl) rfl)) ?_
  refine vg1 rfl rfl rfl rfl rfl (fun hg4 => QV.qo (q_leq rfl (gu hg4 rfl) rfl)) ?_
  refine va rfl rfl rfl (q_pick rfl rfl (pk_and' (g := (decide (1 ≤ d.s))) (y := (decide (d.s ≤ 16))))) ?_
  refine va rfl rfl rfl (q_move (v := .bool ((decide (1 ≤ d.s)) && (decide (d.s ≤ 16)))) rfl (by kernel_rfl)) ?_
  refine vg1 rfl rfl rfl rfl rfl (fun hg5 => QV.qo (q_fl 1 fld_54_1 rfl rfl rfl)) ?_
  refine vg1 rfl rfl rfl rfl rfl (fun hg6 => QV.qo (q_ldl (i := 0) (v := .int .i64 d.n) rfl rfl Tryz.isAgg2 (gu hg6 rfl) rfl)) ?_
  refine vg1 rfl rfl rfl rfl rfl (fun hg7 => QV.qo (q_geq rfl (gu hg7 rfl) rfl)) ?_
  refine va rfl rfl rfl (q_pick rfl rfl (pk_and' (g := ((decide (1 ≤ d.s)) && (decide (d.s ≤ 16)))) (y := (decide (1 ≤ d.n))))) ?_
  refine va rfl rfl rfl (q_move (v := .bool (((decide (1 ≤ d.s)) && (decide (d.s ≤ 16))) && (decide (1 ≤ d.n)))) rfl (by kernel_rfl)) ?_
  refine vg1 rfl rfl rfl rfl rfl (fun hg8 => QV.qo (q_fl 1 fld_54_1 rfl rfl rfl)) ?_
  refine vg1 rfl rfl rfl rfl rfl (fun hg9 => QV.qo (q_ldl (i := 0) (v := .int .i64 d.n) rfl rfl Tryz.isAgg2 (gu hg9 rfl) rfl)) ?_
  refine vg1 rfl rfl rfl rfl rfl (fun hg10 => QV.qo (q_leq rfl (gu hg10 rfl) rfl)) ?_
  refine va rfl rfl rfl (q_pick rfl rfl (pk_and' (g := (((decide (1 ≤ d.s)) && (decide (d.s ≤ 16))) && (decide (1 ≤ d.n)))) (y := (decide (d.n ≤ 4611686018427387904))))) ?_
  refine va rfl rfl rfl (q_assign (v := .bool ((((decide (1 ≤ d.s)) && (decide (d.s ≤ 16))) && (decide (1 ≤ d.n))) && (decide (d.n ≤ 4611686018427387904)))) rfl (by kernel_rfl)) ?_
  refine WR.nil ?_
  change WC _ _ _ _ _ _
  refine WC.ret ?_
  intro w hw
  obtain rfl := Option.some.inj h
  subst hF
  exact ⟨by kernel_rfl, hw.fr⟩
set_option maxRecDepth 100000 in
set_option maxHeartbeats 400000 in
theorem t_firthref03_Right {Γ : Gh} {w0 : World} {Al : Option Addr} {cl : Nat} {l : List Span} (hl : Sl spanT Γ Al l) (hlc : l.length ≤ cl) (hs : Sat Γ w0) {r : Bool} (h : m_firthref03_Right l = some r) : Calls Tryz.prog 102 #[.slice Al l.length cl] w0 (fun e w' => e = .returned (.bool r) ∧ Fr no w0 w') := by
  refine calls_of (N := 99) (rs := [2]) (args := [.slice Al l.length cl]) Tryz.func102 rfl Tryz.ntmps102 Tryz.results102 rfl ?_
  obtain ⟨F, hF⟩ : ∃ F : Fm, F = ⟨no, w0, Γ⟩ := ⟨_, rfl⟩
  refine WC.here (C := CC F Γ []) ?_ (hF ▸ Cur.start0 hs)
  refine WC.rs ?_
  refine va rfl rfl rfl (q_assign (v := .bool false) rfl (by kernel_rfl)) ?_
  refine WR.nil ?_
  change WC _ _ _ _ _ _
  refine WC.seq ?_
  refine WC.rs ?_
  refine va rfl rfl rfl (q_move (v := .slice Al l.length cl) rfl (by kernel_rfl)) ?_
  refine va rfl rfl rfl (q_len_slice rfl Tryz.underlying55 rfl) ?_
  refine va rfl rfl rfl (q_gtr rfl rfl rfl) ?_
  refine WR.nil ?_
  change WC _ _ _ _ _ _
  refine WC.cif h (by kernel_rfl) (fun hb1 h => ?_) (fun hb1 h => ?_)
  · skip
    refine WC.rs ?_
    refine va rfl rfl rfl (q_assign (v := .bool false) rfl (by kernel_rfl)) ?_
    refine WR.nil ?_
    change WC _ _ _ _ _ _
    refine WC.ret ?_
    intro w hw
    obtain rfl := Option.some.inj h
    subst hF
    exact ⟨by kernel_rfl, hw.fr⟩
  · skip
    refine WC.skip ?_
    change WC _ _ _ _ _ _
    refine WC.seq ?_
    refine WC.rs ?_
    refine va rfl rfl rfl (q_assign (v := .int .i64 0) rfl (by kernel_rfl)) ?_
    refine WR.nil ?_
    change WC _ _ _ _ _ _
    refine WC.block ?_
    refine WC.forI h (fun (i3 : Nat) (s : Unit) σ w => match s with | () => slots σ [(0, .slice Al l.length cl), (3, .int .i64 ((i3 : Nat) : Int))] ∧ CC F Γ [] w ∧ True) ?_ ?_
    · skip
      intro w hw
      exact ⟨(sl_ (by kernel_rfl)), hw, trivial⟩
    rintro f2 i3 ⟨⟩ σ w hi4 hlt5 hge6 ⟨hsl, hw, -⟩
    refine Wpt.slots hsl ?_
    refine WC.here (C := CC F Γ []) ?_ hw
    clear hw hsl
    refine WC.seq ?_
    refine WC.rs ?_
    refine va rfl rfl rfl (q_move (v := .int .i64 ((i3 : Nat) : Int)) rfl (by kernel_rfl)) ?_
    refine va rfl rfl rfl (q_move (v := .slice Al l.length cl) rfl (by kernel_rfl)) ?_
    refine va rfl rfl rfl (q_len_slice rfl Tryz.underlying55 rfl) ?_
    refine va rfl rfl rfl (q_lss rfl rfl rfl) ?_
    refine WR.nil ?_
    change WC _ _ _ _ _ _
    refine WC.cond (b := (decide (((i3 : Nat) : Int) < ((l.length : Nat) : Int)))) (by kernel_rfl) (fun hb7 => ?_) (fun hb7 => ?_)
    · skip
      have hl8 := ilt hb7
      have h := hlt5 hl8
      refine WC.skip ?_
      change WC _ _ _ _ _ _
      refine WC.seq ?_
      refine WC.block ?_
      refine WC.seq ?_
      refine WC.seq ?_
      refine WC.dr (by kernel_rfl) (by kernel_rfl) (fun w hw => hw.drawn _) ?_
      refine wa rfl rfl rfl (q_move (v := .slice Al l.length cl) rfl (by kernel_rfl)) ?_
      refine wa rfl rfl rfl (q_move (v := .int .i64 ((i3 : Nat) : Int)) rfl (by kernel_rfl)) ?_
      refine wa rfl rfl rfl (q_ixn (i := i3) Tryz.underlying55 Tryz.sizeOf59 rfl rfl rfl hl8 (hl.some_ hl8)) ?_
      refine wa rfl rfl rfl (q_field_addr (i3 * 3) fld_59_0 rfl rfl (hl.some_ hl8) rfl) ?_
      refine wa rfl rfl rfl (q_ld (c := 0) (v := .int .i64 (gt l i3).s) (hl.spanT_at hl8).2 rfl Tryz.isAgg3 rfl rfl) ?_
      refine wa rfl rfl rfl (q_move (v := .slice Al l.length cl) rfl (by kernel_rfl)) ?_
      refine wa rfl rfl rfl (q_move (v := .int .i64 ((i3 : Nat) : Int)) rfl (by kernel_rfl)) ?_
      refine wa rfl rfl rfl (q_ixn (i := i3) Tryz.underlying55 Tryz.sizeOf59 rfl rfl rfl hl8 (hl.some_ hl8)) ?_
      refine wa rfl rfl rfl (q_field_addr (i3 * 3 + 1) fld_59_1 rfl rfl (hl.some_ hl8) rfl) ?_
      refine wa rfl rfl rfl (q_ld (c := 1) (v := .int .i64 (gt l i3).f) (hl.spanT_at hl8).2 rfl Tryz.isAgg2 rfl rfl) ?_
      refine wa rfl rfl rfl (q_build' (v := .agg #[.int .i64 (gt l i3).s, .int .i64 (gt l i3).f]) rfl (bargs2 rfl rfl) (fun w => by kernel_rfl)) ?_
      obtain ⟨z9, hz10, h⟩ := bnd h
      refine wc rfl rfl rfl (q_call (call_run Tryz.call101 rfl rfl (by kernel_rfl)) (fun w hw => t_firthref03_Dot (Γ := Gh.all w) (⟨(gt l i3).s, (gt l i3).f⟩ : Dot) ⟨(hl.spanT_at hl8).1.1, (hl.spanT_at hl8).1.2.1⟩ (Sat.all w) hz10)) ?_
      refine wa rfl rfl rfl (q_not rfl rfl) ?_
      refine wa rfl rfl rfl (q_move (v := .bool (!z9)) rfl (by kernel_rfl)) ?_
      refine wg0 rfl rfl rfl rfl rfl (fun hg11 => QV.qo (q_move (v := .slice Al l.length cl) rfl (by kernel_rfl))) ?_
      refine wg0 rfl rfl rfl rfl rfl (fun hg12 => QV.qo (q_move (v := .int .i64 ((i3 : Nat) : Int)) rfl (by kernel_rfl))) ?_
      refine wg0 rfl rfl rfl rfl rfl (fun hg13 => QV.qo (q_ixn (i := i3) Tryz.underlying55 Tryz.sizeOf59 rfl (gu hg13 rfl) (gu hg13 rfl) hl8 (hl.some_ hl8))) ?_
      refine wg0 rfl rfl rfl rfl rfl (fun hg14 => QV.qo (q_field_addr (i3 * 3) fld_59_0 rfl (gu hg14 rfl) (hl.some_ hl8) rfl)) ?_
      refine wg0 rfl rfl rfl rfl rfl (fun hg15 => QV.qo (q_ld (c := 0) (v := .int .i64 (gt l i3).s) (hl.spanT_at hl8).2 rfl Tryz.isAgg3 (gu hg15 rfl) rfl)) ?_
      refine wg0 rfl rfl rfl rfl rfl (fun hg16 => QV.qo (q_move (v := .slice Al l.length cl) rfl (by kernel_rfl))) ?_
      refine wg0 rfl rfl rfl rfl rfl (fun hg17 => QV.qo (q_move (v := .int .i64 ((i3 : Nat) : Int)) rfl (by kernel_rfl))) ?_
      refine wg0 rfl rfl rfl rfl rfl (fun hg18 => QV.qo (q_ixn (i := i3) Tryz.underlying55 Tryz.sizeOf59 rfl (gu hg18 rfl) (gu hg18 rfl) hl8 (hl.some_ hl8))) ?_
      refine wg0 rfl rfl rfl rfl rfl (fun hg19 => QV.qo (q_field_addr (i3 * 3 + 2) fld_59_2 rfl (gu hg19 rfl) (hl.some_ hl8) rfl)) ?_
      refine wg0 rfl rfl rfl rfl rfl (fun hg20 => QV.qo (q_ld (c := 2) (v := .int .i64 (gt l i3).t) (hl.spanT_at hl8).2 rfl Tryz.isAgg2 (gu hg20 rfl) rfl)) ?_
      refine wg0 rfl rfl rfl rfl rfl (fun hg21 => QV.qo (q_build' (v := .agg #[.int .i64 (gt l i3).s, .int .i64 (gt l i3).t]) rfl (bargs2 (gu hg21 rfl) (gu hg21 rfl)) (fun w => by kernel_rfl))) ?_
      obtain ⟨z23, hz24, h⟩ := bnd h
      refine wg0 rfl rfl rfl rfl rfl (fun hg22 => (q_call (call_run Tryz.call101 rfl rfl (args1 (gu hg22 rfl))) (fun w hw => t_firthref03_Dot (Γ := Gh.all w) (⟨(gt l i3).s, (gt l i3).t⟩ : Dot) ⟨(hl.spanT_at hl8).1.1, (hl.spanT_at hl8).1.2.2⟩ (Sat.all w) (gc_of hz24 hg22)))) ?_
      refine wg0 rfl rfl rfl rfl rfl (fun hg25 => QV.qo (q_not rfl (gu hg25 rfl))) ?_
      refine wa rfl rfl rfl (q_pick rfl rfl (pk_or' (g := (!z9)) (y := (!z23)))) ?_
      refine wa rfl rfl rfl (q_move (v := .bool ((!z9) || (!z23))) rfl (by kernel_rfl)) ?_
      refine wg0 rfl rfl rfl rfl rfl (fun hg26 => QV.qo (q_move (v := .slice Al l.length cl) rfl (by kernel_rfl))) ?_
      refine wg0 rfl rfl rfl rfl rfl (fun hg27 => QV.qo (q_move (v := .int .i64 ((i3 : Nat) : Int)) rfl (by kernel_rfl))) ?_
      refine wg0 rfl rfl rfl rfl rfl (fun hg28 => QV.qo (q_ixn (i := i3) Tryz.underlying55 Tryz.sizeOf59 rfl (gu hg28 rfl) (gu hg28 rfl) hl8 (hl.some_ hl8))) ?_
      refine wg0 rfl rfl rfl rfl rfl (fun hg29 => QV.qo (q_field_addr (i3 * 3 + 1) fld_59_1 rfl (gu hg29 rfl) (hl.some_ hl8) rfl)) ?_
      refine wg0 rfl rfl rfl rfl rfl (fun hg30 => QV.qo (q_ld (c := 1) (v := .int .i64 (gt l i3).f) (hl.spanT_at hl8).2 rfl Tryz.isAgg2 (gu hg30 rfl) rfl)) ?_
      refine wg0 rfl rfl rfl rfl rfl (fun hg31 => QV.qo (q_move (v := .slice Al l.length cl) rfl (by kernel_rfl))) ?_
      refine wg0 rfl rfl rfl rfl rfl (fun hg32 => QV.qo (q_move (v := .int .i64 ((i3 : Nat) : Int)) rfl (by kernel_rfl))) ?_
      refine wg0 rfl rfl rfl rfl rfl (fun hg33 => QV.qo (q_ixn (i := i3) Tryz.underlying55 Tryz.sizeOf59 rfl (gu hg33 rfl) (gu hg33 rfl) hl8 (hl.some_ hl8))) ?_
      refine wg0 rfl rfl rfl rfl rfl (fun hg34 => QV.qo (q_field_addr (i3 * 3 + 2) fld_59_2 rfl (gu hg34 rfl) (hl.some_ hl8) rfl)) ?_
      refine wg0 rfl rfl rfl rfl rfl (fun hg35 => QV.qo (q_ld (c := 2) (v := .int .i64 (gt l i3).t) (hl.spanT_at hl8).2 rfl Tryz.isAgg2 (gu hg35 rfl) rfl)) ?_
      refine wg0 rfl rfl rfl rfl rfl (fun hg36 => QV.qo (q_gtr rfl (gu hg36 rfl) (gu hg36 rfl))) ?_
      refine wa rfl rfl rfl (q_pick rfl rfl (pk_or' (g := ((!z9) || (!z23))) (y := (decide ((gt l i3).t < (gt l i3).f))))) ?_
      refine WQ.nil ?_
      change WC _ _ _ _ _ _
      refine WC.cif h (by kernel_rfl) (fun hb37 h => ?_) (fun hb37 h => ?_)
      · skip
        refine WC.rs ?_
        refine va rfl rfl rfl (q_assign (v := .bool false) rfl (by kernel_rfl)) ?_
        refine WR.nil ?_
        change WC _ _ _ _ _ _
        refine WC.ret ?_
        intro w hw
        obtain rfl := Option.some.inj h
        subst hF
        exact ⟨by kernel_rfl, hw.fr⟩
      · skip
        refine WC.skip ?_
        change WC _ _ _ _ _ _
        refine WC.seq ?_
        refine WC.dr (by kernel_rfl) (by kernel_rfl) (fun w hw => hw.drawn _) ?_
        refine wa rfl rfl rfl (q_move (v := .int .i64 ((i3 : Nat) : Int)) rfl (by kernel_rfl)) ?_
        refine wa rfl rfl rfl (q_gtr rfl rfl rfl) ?_
        refine wa rfl rfl rfl (q_move (v := .bool (decide (0 < ((i3 : Nat) : Int)))) rfl (by kernel_rfl)) ?_
        refine wg1 rfl rfl rfl rfl rfl (fun hg38 => QV.qo (q_move (v := .slice Al l.length cl) rfl (by kernel_rfl))) ?_
        refine wg1 rfl rfl rfl rfl rfl (fun hg39 => QV.qo (q_move (v := .int .i64 ((i3 : Nat) : Int)) rfl (by kernel_rfl))) ?_
        refine wg1 rfl rfl rfl rfl rfl (fun hg40 => QV.qo (q_ixn (i := i3) Tryz.underlying55 Tryz.sizeOf59 rfl (gu hg40 rfl) (gu hg40 rfl) hl8 (hl.some_ hl8))) ?_
        refine wg1 rfl rfl rfl rfl rfl (fun hg41 => QV.qo (q_field_addr (i3 * 3) fld_59_0 rfl (gu hg41 rfl) (hl.some_ hl8) rfl)) ?_
        refine wg1 rfl rfl rfl rfl rfl (fun hg42 => QV.qo (q_ld (c := 0) (v := .int .i64 (gt l i3).s) (hl.spanT_at hl8).2 rfl Tryz.isAgg3 (gu hg42 rfl) rfl)) ?_
        refine wg1 rfl rfl rfl rfl rfl (fun hg43 => QV.qo (q_move (v := .slice Al l.length cl) rfl (by kernel_rfl))) ?_
        refine wg1 rfl rfl rfl rfl rfl (fun hg44 => QV.qo (q_move (v := .int .i64 ((i3 : Nat) : Int)) rfl (by kernel_rfl))) ?_
        refine wg1 rfl rfl rfl rfl rfl (fun hg45 => QV.qo (q_sub rfl (gu hg45 rfl) rfl)) ?_
        obtain ⟨hk47, h⟩ := chk_some h
        refine wg1 rfl rfl rfl rfl rfl (fun hg46 => QV.qo (q_ix Tryz.underlying55 Tryz.sizeOf59 rfl (gu hg46 rfl) (gu hg46 rfl) (imp_of hk47 hg46) (hl.some_ (inb_lt (imp_of hk47 hg46))))) ?_
        refine wg1 rfl rfl rfl rfl rfl (fun hg48 => QV.qo (q_field_addr (((w64 (((i3 : Nat) : Int) - 1)).toNat) * 3) fld_59_0 rfl (gu hg48 rfl) (hl.some_ (inb_lt (imp_of hk47 hg48))) rfl)) ?_
        refine wg1 rfl rfl rfl rfl rfl (fun hg49 => QV.qo (q_ld (c := 0) (v := .int .i64 (gt l ((w64 (((i3 : Nat) : Int) - 1)).toNat)).s) (hl.spanT_at (inb_lt (imp_of hk47 hg49))).2 rfl Tryz.isAgg3 (gu hg49 rfl) rfl)) ?_
        refine wg1 rfl rfl rfl rfl rfl (fun hg50 => QV.qo (q_lss rfl (gu hg50 rfl) (gu hg50 rfl))) ?_
        refine wg1 rfl rfl rfl rfl rfl (fun hg51 => QV.qo (q_move (v := .bool (decide ((gt l i3).s < (gt l ((w64 (((i3 : Nat) : Int) - 1)).toNat)).s))) rfl (gu hg51 rfl))) ?_
        refine wh0 (c0 := (decide (0 < ((i3 : Nat) : Int)))) (g := (decide ((gt l i3).s < (gt l ((w64 (((i3 : Nat) : Int) - 1)).toNat)).s))) rfl rfl rfl rfl rfl (fun hg52 => QV.qo (q_move (v := .slice Al l.length cl) rfl (by kernel_rfl))) ?_
        refine wh0 (c0 := (decide (0 < ((i3 : Nat) : Int)))) (g := (decide ((gt l i3).s < (gt l ((w64 (((i3 : Nat) : Int) - 1)).toNat)).s))) rfl rfl rfl rfl rfl (fun hg53 => QV.qo (q_move (v := .int .i64 ((i3 : Nat) : Int)) rfl (by kernel_rfl))) ?_
        refine wh0 (c0 := (decide (0 < ((i3 : Nat) : Int)))) (g := (decide ((gt l i3).s < (gt l ((w64 (((i3 : Nat) : Int) - 1)).toNat)).s))) rfl rfl rfl rfl rfl (fun hg54 => QV.qo (q_ixn (i := i3) Tryz.underlying55 Tryz.sizeOf59 rfl (gu hg54 rfl) (gu hg54 rfl) hl8 (hl.some_ hl8))) ?_
        refine wh0 (c0 := (decide (0 < ((i3 : Nat) : Int)))) (g := (decide ((gt l i3).s < (gt l ((w64 (((i3 : Nat) : Int) - 1)).toNat)).s))) rfl rfl rfl rfl rfl (fun hg55 => QV.qo (q_field_addr (i3 * 3) fld_59_0 rfl (gu hg55 rfl) (hl.some_ hl8) rfl)) ?_
        refine wh0 (c0 := (decide (0 < ((i3 : Nat) : Int)))) (g := (decide ((gt l i3).s < (gt l ((w64 (((i3 : Nat) : Int) - 1)).toNat)).s))) rfl rfl rfl rfl rfl (fun hg56 => QV.qo (q_ld (c := 0) (v := .int .i64 (gt l i3).s) (hl.spanT_at hl8).2 rfl Tryz.isAgg3 (gu hg56 rfl) rfl)) ?_
        refine wh0 (c0 := (decide (0 < ((i3 : Nat) : Int)))) (g := (decide ((gt l i3).s < (gt l ((w64 (((i3 : Nat) : Int) - 1)).toNat)).s))) rfl rfl rfl rfl rfl (fun hg57 => QV.qo (q_move (v := .slice Al l.length cl) rfl (by kernel_rfl))) ?_
        refine wh0 (c0 := (decide (0 < ((i3 : Nat) : Int)))) (g := (decide ((gt l i3).s < (gt l ((w64 (((i3 : Nat) : Int) - 1)).toNat)).s))) rfl rfl rfl rfl rfl (fun hg58 => QV.qo (q_move (v := .int .i64 ((i3 : Nat) : Int)) rfl (by kernel_rfl))) ?_
        refine wh0 (c0 := (decide (0 < ((i3 : Nat) : Int)))) (g := (decide ((gt l i3).s < (gt l ((w64 (((i3 : Nat) : Int) - 1)).toNat)).s))) rfl rfl rfl rfl rfl (fun hg59 => QV.qo (q_sub rfl (gu hg59 rfl) rfl)) ?_
        refine wh0 (c0 := (decide (0 < ((i3 : Nat) : Int)))) (g := (decide ((gt l i3).s < (gt l ((w64 (((i3 : Nat) : Int) - 1)).toNat)).s))) rfl rfl rfl rfl rfl (fun hg60 => QV.qo (q_ix Tryz.underlying55 Tryz.sizeOf59 rfl (gu hg60 rfl) (gu hg60 rfl) (imp_of hk47 (and_l hg60)) (hl.some_ (inb_lt (imp_of hk47 (and_l hg60)))))) ?_
        refine wh0 (c0 := (decide (0 < ((i3 : Nat) : Int)))) (g := (decide ((gt l i3).s < (gt l ((w64 (((i3 : Nat) : Int) - 1)).toNat)).s))) rfl rfl rfl rfl rfl (fun hg61 => QV.qo (q_field_addr (((w64 (((i3 : Nat) : Int) - 1)).toNat) * 3) fld_59_0 rfl (gu hg61 rfl) (hl.some_ (inb_lt (imp_of hk47 (and_l hg61)))) rfl)) ?_
        refine wh0 (c0 := (decide (0 < ((i3 : Nat) : Int)))) (g := (decide ((gt l i3).s < (gt l ((w64 (((i3 : Nat) : Int) - 1)).toNat)).s))) rfl rfl rfl rfl rfl (fun hg62 => QV.qo (q_ld (c := 0) (v := .int .i64 (gt l ((w64 (((i3 : Nat) : Int) - 1)).toNat)).s) (hl.spanT_at (inb_lt (imp_of hk47 (and_l hg62)))).2 rfl Tryz.isAgg3 (gu hg62 rfl) rfl)) ?_
        refine wh0 (c0 := (decide (0 < ((i3 : Nat) : Int)))) (g := (decide ((gt l i3).s < (gt l ((w64 (((i3 : Nat) : Int) - 1)).toNat)).s))) rfl rfl rfl rfl rfl (fun hg63 => QV.qo (q_eql rfl (gu hg63 rfl) (gu hg63 rfl))) ?_
        refine wh0 (c0 := (decide (0 < ((i3 : Nat) : Int)))) (g := (decide ((gt l i3).s < (gt l ((w64 (((i3 : Nat) : Int) - 1)).toNat)).s))) rfl rfl rfl rfl rfl (fun hg64 => QV.qo (q_move (v := .bool ((gt l i3).s == (gt l ((w64 (((i3 : Nat) : Int) - 1)).toNat)).s)) rfl (gu hg64 rfl))) ?_
        refine wh1 (c0 := ((decide (0 < ((i3 : Nat) : Int))) && (!(decide ((gt l i3).s < (gt l ((w64 (((i3 : Nat) : Int) - 1)).toNat)).s))))) (g := ((gt l i3).s == (gt l ((w64 (((i3 : Nat) : Int) - 1)).toNat)).s)) rfl rfl rfl rfl rfl (fun hg65 => QV.qo (q_move (v := .slice Al l.length cl) rfl (by kernel_rfl))) ?_
        refine wh1 (c0 := ((decide (0 < ((i3 : Nat) : Int))) && (!(decide ((gt l i3).s < (gt l ((w64 (((i3 : Nat) : Int) - 1)).toNat)).s))))) (g := ((gt l i3).s == (gt l ((w64 (((i3 : Nat) : Int) - 1)).toNat)).s)) rfl rfl rfl rfl rfl (fun hg66 => QV.qo (q_move (v := .int .i64 ((i3 : Nat) : Int)) rfl (by kernel_rfl))) ?_
        refine wh1 (c0 := ((decide (0 < ((i3 : Nat) : Int))) && (!(decide ((gt l i3).s < (gt l ((w64 (((i3 : Nat) : Int) - 1)).toNat)).s))))) (g := ((gt l i3).s == (gt l ((w64 (((i3 : Nat) : Int) - 1)).toNat)).s)) rfl rfl rfl rfl rfl (fun hg67 => QV.qo (q_ixn (i := i3) Tryz.underlying55 Tryz.sizeOf59 rfl (gu hg67 rfl) (gu hg67 rfl) hl8 (hl.some_ hl8))) ?_
        refine wh1 (c0 := ((decide (0 < ((i3 : Nat) : Int))) && (!(decide ((gt l i3).s < (gt l ((w64 (((i3 : Nat) : Int) - 1)).toNat)).s))))) (g := ((gt l i3).s == (gt l ((w64 (((i3 : Nat) : Int) - 1)).toNat)).s)) rfl rfl rfl rfl rfl (fun hg68 => QV.qo (q_field_addr (i3 * 3 + 1) fld_59_1 rfl (gu hg68 rfl) (hl.some_ hl8) rfl)) ?_
        refine wh1 (c0 := ((decide (0 < ((i3 : Nat) : Int))) && (!(decide ((gt l i3).s < (gt l ((w64 (((i3 : Nat) : Int) - 1)).toNat)).s))))) (g := ((gt l i3).s == (gt l ((w64 (((i3 : Nat) : Int) - 1)).toNat)).s)) rfl rfl rfl rfl rfl (fun hg69 => QV.qo (q_ld (c := 1) (v := .int .i64 (gt l i3).f) (hl.spanT_at hl8).2 rfl Tryz.isAgg2 (gu hg69 rfl) rfl)) ?_
        refine wh1 (c0 := ((decide (0 < ((i3 : Nat) : Int))) && (!(decide ((gt l i3).s < (gt l ((w64 (((i3 : Nat) : Int) - 1)).toNat)).s))))) (g := ((gt l i3).s == (gt l ((w64 (((i3 : Nat) : Int) - 1)).toNat)).s)) rfl rfl rfl rfl rfl (fun hg70 => QV.qo (q_sub rfl (gu hg70 rfl) rfl)) ?_
        refine wh1 (c0 := ((decide (0 < ((i3 : Nat) : Int))) && (!(decide ((gt l i3).s < (gt l ((w64 (((i3 : Nat) : Int) - 1)).toNat)).s))))) (g := ((gt l i3).s == (gt l ((w64 (((i3 : Nat) : Int) - 1)).toNat)).s)) rfl rfl rfl rfl rfl (fun hg71 => QV.qo (q_move (v := .slice Al l.length cl) rfl (by kernel_rfl))) ?_
        refine wh1 (c0 := ((decide (0 < ((i3 : Nat) : Int))) && (!(decide ((gt l i3).s < (gt l ((w64 (((i3 : Nat) : Int) - 1)).toNat)).s))))) (g := ((gt l i3).s == (gt l ((w64 (((i3 : Nat) : Int) - 1)).toNat)).s)) rfl rfl rfl rfl rfl (fun hg72 => QV.qo (q_move (v := .int .i64 ((i3 : Nat) : Int)) rfl (by kernel_rfl))) ?_
        refine wh1 (c0 := ((decide (0 < ((i3 : Nat) : Int))) && (!(decide ((gt l i3).s < (gt l ((w64 (((i3 : Nat) : Int) - 1)).toNat)).s))))) (g := ((gt l i3).s == (gt l ((w64 (((i3 : Nat) : Int) - 1)).toNat)).s)) rfl rfl rfl rfl rfl (fun hg73 => QV.qo (q_sub rfl (gu hg73 rfl) rfl)) ?_
        refine wh1 (c0 := ((decide (0 < ((i3 : Nat) : Int))) && (!(decide ((gt l i3).s < (gt l ((w64 (((i3 : Nat) : Int) - 1)).toNat)).s))))) (g := ((gt l i3).s == (gt l ((w64 (((i3 : Nat) : Int) - 1)).toNat)).s)) rfl rfl rfl rfl rfl (fun hg74 => QV.qo (q_ix Tryz.underlying55 Tryz.sizeOf59 rfl (gu hg74 rfl) (gu hg74 rfl) (imp_of hk47 (and_l (and_l hg74))) (hl.some_ (inb_lt (imp_of hk47 (and_l (and_l hg74))))))) ?_
        refine wh1 (c0 := ((decide (0 < ((i3 : Nat) : Int))) && (!(decide ((gt l i3).s < (gt l ((w64 (((i3 : Nat) : Int) - 1)).toNat)).s))))) (g := ((gt l i3).s == (gt l ((w64 (((i3 : Nat) : Int) - 1)).toNat)).s)) rfl rfl rfl rfl rfl (fun hg75 => QV.qo (q_field_addr (((w64 (((i3 : Nat) : Int) - 1)).toNat) * 3 + 2) fld_59_2 rfl (gu hg75 rfl) (hl.some_ (inb_lt (imp_of hk47 (and_l (and_l hg75))))) rfl)) ?_
        refine wh1 (c0 := ((decide (0 < ((i3 : Nat) : Int))) && (!(decide ((gt l i3).s < (gt l ((w64 (((i3 : Nat) : Int) - 1)).toNat)).s))))) (g := ((gt l i3).s == (gt l ((w64 (((i3 : Nat) : Int) - 1)).toNat)).s)) rfl rfl rfl rfl rfl (fun hg76 => QV.qo (q_ld (c := 2) (v := .int .i64 (gt l ((w64 (((i3 : Nat) : Int) - 1)).toNat)).t) (hl.spanT_at (inb_lt (imp_of hk47 (and_l (and_l hg76))))).2 rfl Tryz.isAgg2 (gu hg76 rfl) rfl)) ?_
        refine wh1 (c0 := ((decide (0 < ((i3 : Nat) : Int))) && (!(decide ((gt l i3).s < (gt l ((w64 (((i3 : Nat) : Int) - 1)).toNat)).s))))) (g := ((gt l i3).s == (gt l ((w64 (((i3 : Nat) : Int) - 1)).toNat)).s)) rfl rfl rfl rfl rfl (fun hg77 => QV.qo (q_leq rfl (gu hg77 rfl) (gu hg77 rfl))) ?_
        refine wh0 (c0 := (decide (0 < ((i3 : Nat) : Int)))) (g := (decide ((gt l i3).s < (gt l ((w64 (((i3 : Nat) : Int) - 1)).toNat)).s))) rfl rfl rfl rfl rfl (fun hg78 => QV.qo (q_pick rfl (gu hg78 rfl) (pk_and (c := ((decide (0 < ((i3 : Nat) : Int))) && (!(decide ((gt l i3).s < (gt l ((w64 (((i3 : Nat) : Int) - 1)).toNat)).s))))) (g := ((gt l i3).s == (gt l ((w64 (((i3 : Nat) : Int) - 1)).toNat)).s)) (y := (decide ((w64 ((gt l i3).f - 1)) ≤ (gt l ((w64 (((i3 : Nat) : Int) - 1)).toNat)).t))) hg78))) ?_
        refine wg1 rfl rfl rfl rfl rfl (fun hg79 => QV.qo (q_pick rfl (gu hg79 rfl) (pk_or (c := (decide (0 < ((i3 : Nat) : Int)))) (g := (decide ((gt l i3).s < (gt l ((w64 (((i3 : Nat) : Int) - 1)).toNat)).s))) (y := (((gt l i3).s == (gt l ((w64 (((i3 : Nat) : Int) - 1)).toNat)).s) && (decide ((w64 ((gt l i3).f - 1)) ≤ (gt l ((w64 (((i3 : Nat) : Int) - 1)).toNat)).t)))) hg79))) ?_
        refine wa rfl rfl rfl (q_pick rfl rfl (pk_and' (g := (decide (0 < ((i3 : Nat) : Int)))) (y := ((decide ((gt l i3).s < (gt l ((w64 (((i3 : Nat) : Int) - 1)).toNat)).s)) || (((gt l i3).s == (gt l ((w64 (((i3 : Nat) : Int) - 1)).toNat)).s) && (decide ((w64 ((gt l i3).f - 1)) ≤ (gt l ((w64 (((i3 : Nat) : Int) - 1)).toNat)).t))))))) ?_
        refine WQ.nil ?_
        change WC _ _ _ _ _ _
        refine WC.cif h (by kernel_rfl) (fun hb80 h => ?_) (fun hb80 h => ?_)
        · skip
          refine WC.rs ?_
          refine va rfl rfl rfl (q_assign (v := .bool false) rfl (by kernel_rfl)) ?_
          refine WR.nil ?_
          change WC _ _ _ _ _ _
          refine WC.ret ?_
          intro w hw
          obtain rfl := Option.some.inj h
          subst hF
          exact ⟨by kernel_rfl, hw.fr⟩
        · skip
          refine WC.skip ?_
          change WC _ _ _ _ _ _
          refine WC.region ?_
          refine va rfl rfl rfl (q_move (v := .int .i64 ((i3 : Nat) : Int)) rfl (by kernel_rfl)) ?_
          refine va rfl rfl rfl (q_add_r (r := ((i3 + 1 : Nat) : Int)) rfl rfl rfl (ctr_len hl8 hl.le)) ?_
          refine va rfl rfl rfl (q_assign (v := .int .i64 ((i3 + 1 : Nat) : Int)) rfl (by kernel_rfl)) ?_
          refine WR.nil ?_
          intro w hw
          exact ⟨hl8, (), h, (sl_ (by kernel_rfl)), hw, trivial⟩
    · skip
      have h := hge6 (ige hb7)
      refine WC.exit ?_
      change WC _ _ _ _ _ _
      refine WC.rs ?_
      refine va rfl rfl rfl (q_assign (v := .bool true) rfl (by kernel_rfl)) ?_
      refine WR.nil ?_
      change WC _ _ _ _ _ _
      refine WC.ret ?_
      intro w hw
      obtain rfl := Option.some.inj h
      subst hF
      exact ⟨by kernel_rfl, hw.fr⟩
set_option maxRecDepth 100000 in
set_option maxHeartbeats 400000 in
theorem t_firthref03_Top {Γ : Gh} {w0 : World} {Al : Option Addr} {cl : Nat} {l : List Span} (hl : Sl spanT Γ Al l) (hlc : l.length ≤ cl) (s_ : Int) (hs_ : I64 s_) (hs : Sat Γ w0) {r : Int} (h : m_firthref03_Top l s_ = some r) : Calls Tryz.prog 103 #[.slice Al l.length cl, .int .i64 s_] w0 (fun e w' => e = .returned (.int .i64 r) ∧ Fr no w0 w') := by
  refine calls_of (N := 35) (rs := [4]) (args := [.slice Al l.length cl, .int .i64 s_]) Tryz.func103 rfl Tryz.ntmps103 Tryz.results103 rfl ?_
  obtain ⟨F, hF⟩ : ∃ F : Fm, F = ⟨no, w0, Γ⟩ := ⟨_, rfl⟩
  refine WC.here (C := CC F Γ []) ?_ (hF ▸ Cur.start0 hs)
  refine WC.rs ?_
  refine va rfl rfl rfl (q_assign (v := .int .i64 0) rfl (by kernel_rfl)) ?_
  refine WR.nil ?_
  change WC _ _ _ _ _ _
  refine WC.rs ?_
  refine va rfl rfl rfl (q_assign (v := .int .i64 0) rfl (by kernel_rfl)) ?_
  refine WR.nil ?_
  change WC _ _ _ _ _ _
  refine WC.seq ?_
  refine WC.rs ?_
  refine va rfl rfl rfl (q_assign (v := .int .i64 0) rfl (by kernel_rfl)) ?_
  refine WR.nil ?_
  change WC _ _ _ _ _ _
  refine WC.block ?_
  refine WC.forI h (fun (i4 : Nat) (n_1 : Int) σ w => slots σ [(0, .slice Al l.length cl), (1, .int .i64 s_), (5, .int .i64 n_1), (6, .int .i64 ((i4 : Nat) : Int))] ∧ CC F Γ [] w ∧ I64 n_1 ∧ True) ?_ ?_
  · skip
    intro w hw
    exact ⟨(sl_ (by kernel_rfl)), hw, (show I64 0 by decide), trivial⟩
  rintro f3 i4 n_1 σ w hi5 hlt6 hge7 ⟨hsl, hw, hr2, -⟩
  refine Wpt.slots hsl ?_
  refine WC.here (C := CC F Γ []) ?_ hw
  clear hw hsl
  refine WC.seq ?_
  refine WC.rs ?_
  refine va rfl rfl rfl (q_move (v := .int .i64 ((i4 : Nat) : Int)) rfl (by kernel_rfl)) ?_
  refine va rfl rfl rfl (q_move (v := .slice Al l.length cl) rfl (by kernel_rfl)) ?_
  refine va rfl rfl rfl (q_len_slice rfl Tryz.underlying55 rfl) ?_
  refine va rfl rfl rfl (q_lss rfl rfl rfl) ?_
  refine WR.nil ?_
  change WC _ _ _ _ _ _
  refine WC.cond (b := (decide (((i4 : Nat) : Int) < ((l.length : Nat) : Int)))) (by kernel_rfl) (fun hb8 => ?_) (fun hb8 => ?_)
  · skip
    have hl9 := ilt hb8
    have h := hlt6 hl9
    refine WC.skip ?_
    change WC _ _ _ _ _ _
    refine WC.cut (fun σ w => ∃ (n_10 : Int), m_firthref03_Top_j6 f3 n_10 = some r ∧ slots σ [(0, .slice Al l.length cl), (1, .int .i64 s_), (5, .int .i64 n_10), (6, .int .i64 ((i4 : Nat) : Int))] ∧ CC F Γ [] w ∧ I64 n_10 ∧ True) ?_ ?_
    · skip
      refine WC.block ?_
      refine WC.rs ?_
      refine va rfl rfl rfl (q_move (v := .slice Al l.length cl) rfl (by kernel_rfl)) ?_
      refine va rfl rfl rfl (q_move (v := .int .i64 ((i4 : Nat) : Int)) rfl (by kernel_rfl)) ?_
      refine va rfl rfl rfl (q_ixn (i := i4) Tryz.underlying55 Tryz.sizeOf59 rfl rfl rfl hl9 (hl.some_ hl9)) ?_
      refine va rfl rfl rfl (q_field_addr (i4 * 3) fld_59_0 rfl rfl (hl.some_ hl9) rfl) ?_
      refine va rfl rfl rfl (q_ld (c := 0) (v := .int .i64 (gt l i4).s) (hl.spanT_at hl9).2 rfl Tryz.isAgg3 rfl rfl) ?_
      refine va rfl rfl rfl (q_move (v := .int .i64 s_) rfl (by kernel_rfl)) ?_
      refine va rfl rfl rfl (q_eql rfl rfl rfl) ?_
      refine va rfl rfl rfl (q_move (v := .bool ((gt l i4).s == s_)) rfl (by kernel_rfl)) ?_
      refine vg1 rfl rfl rfl rfl rfl (fun hg12 => QV.qo (q_move (v := .slice Al l.length cl) rfl (by kernel_rfl))) ?_
      refine vg1 rfl rfl rfl rfl rfl (fun hg13 => QV.qo (q_move (v := .int .i64 ((i4 : Nat) : Int)) rfl (by kernel_rfl))) ?_
      refine vg1 rfl rfl rfl rfl rfl (fun hg14 => QV.qo (q_ixn (i := i4) Tryz.underlying55 Tryz.sizeOf59 rfl (gu hg14 rfl) (gu hg14 rfl) hl9 (hl.some_ hl9))) ?_
      refine vg1 rfl rfl rfl rfl rfl (fun hg15 => QV.qo (q_field_addr (i4 * 3 + 2) fld_59_2 rfl (gu hg15 rfl) (hl.some_ hl9) rfl)) ?_
      refine vg1 rfl rfl rfl rfl rfl (fun hg16 => QV.qo (q_ld (c := 2) (v := .int .i64 (gt l i4).t) (hl.spanT_at hl9).2 rfl Tryz.isAgg2 (gu hg16 rfl) rfl)) ?_
      refine vg1 rfl rfl rfl rfl rfl (fun hg17 => QV.qo (q_move (v := .int .i64 n_1) rfl (by kernel_rfl))) ?_
      refine vg1 rfl rfl rfl rfl rfl (fun hg18 => QV.qo (q_gtr rfl (gu hg18 rfl) (gu hg18 rfl))) ?_
      refine va rfl rfl rfl (q_pick rfl rfl (pk_and' (g := ((gt l i4).s == s_)) (y := (decide (n_1 < (gt l i4).t))))) ?_
      refine WR.nil ?_
      change WC _ _ _ _ _ _
      refine WC.cif h (by kernel_rfl) (fun hb19 h => ?_) (fun hb19 h => ?_)
      · skip
        refine WC.region ?_
        refine va rfl rfl rfl (q_move (v := .slice Al l.length cl) rfl (by kernel_rfl)) ?_
        refine va rfl rfl rfl (q_move (v := .int .i64 ((i4 : Nat) : Int)) rfl (by kernel_rfl)) ?_
        refine va rfl rfl rfl (q_ixn (i := i4) Tryz.underlying55 Tryz.sizeOf59 rfl rfl rfl hl9 (hl.some_ hl9)) ?_
        refine va rfl rfl rfl (q_field_addr (i4 * 3 + 2) fld_59_2 rfl rfl (hl.some_ hl9) rfl) ?_
        refine va rfl rfl rfl (q_ld (c := 2) (v := .int .i64 (gt l i4).t) (hl.spanT_at hl9).2 rfl Tryz.isAgg2 rfl rfl) ?_
        refine va rfl rfl rfl (q_assign (v := .int .i64 (gt l i4).t) rfl (by kernel_rfl)) ?_
        refine WR.nil ?_
        intro w hw
        exact ⟨(gt l i4).t, h, (sl_ (by kernel_rfl)), hw, (hl.spanT_at hl9).1.2.2, trivial⟩
      · skip
        refine WC.skip ?_
        intro w hw
        exact ⟨n_1, h, (sl_ (by kernel_rfl)), hw, hr2, trivial⟩
    · skip
      rintro σ w ⟨n_10, h, hsl, hw, hr11, -⟩
      refine Wpt.slots hsl ?_
      refine WC.here (C := CC F Γ []) ?_ hw
      clear hw hsl
      refine WC.region ?_
      refine va rfl rfl rfl (q_move (v := .int .i64 ((i4 : Nat) : Int)) rfl (by kernel_rfl)) ?_
      refine va rfl rfl rfl (q_add_r (r := ((i4 + 1 : Nat) : Int)) rfl rfl rfl (ctr_len hl9 hl.le)) ?_
      refine va rfl rfl rfl (q_assign (v := .int .i64 ((i4 + 1 : Nat) : Int)) rfl (by kernel_rfl)) ?_
      refine WR.nil ?_
      intro w hw
      exact ⟨hl9, n_10, h, (sl_ (by kernel_rfl)), hw, hr11, trivial⟩
  · skip
    have h := hge7 (ige hb8)
    refine WC.exit ?_
    change WC _ _ _ _ _ _
    refine WC.rs ?_
    refine va rfl rfl rfl (q_move (v := .int .i64 n_1) rfl (by kernel_rfl)) ?_
    refine va rfl rfl rfl (q_assign (v := .int .i64 n_1) rfl (by kernel_rfl)) ?_
    refine WR.nil ?_
    change WC _ _ _ _ _ _
    refine WC.ret ?_
    intro w hw
    obtain rfl := Option.some.inj h
    subst hF
    exact ⟨by kernel_rfl, hw.fr⟩
set_option maxRecDepth 100000 in
set_option maxHeartbeats 400000 in
theorem t_firthref05_RightOne {Γ : Gh} {w0 : World} {Av_2 : Option Addr} {cv_2 : Nat} (v_ : Ver) (hv_ : Ver.fits Γ Av_2 cv_2 v_) (hs : Sat Γ w0) {r : Bool} (h : m_firthref05_RightOne v_ = some r) : Calls Tryz.prog 83 #[.agg #[.int .i64 v_.dot.s, .int .i64 v_.dot.n, .slice Av_2 v_.past.length cv_2, .bool v_.gone, .string v_.val]] w0 (fun e w' => e = .returned (.bool r) ∧ Fr no w0 w') := by
  refine calls_of (N := 34) (rs := [2]) (args := [.agg #[.int .i64 v_.dot.s, .int .i64 v_.dot.n, .slice Av_2 v_.past.length cv_2, .bool v_.gone, .string v_.val]]) Tryz.func83 rfl Tryz.ntmps83 Tryz.results83 rfl ?_
  obtain ⟨F, hF⟩ : ∃ F : Fm, F = ⟨no, w0, Γ⟩ := ⟨_, rfl⟩
  refine WC.here (C := CC F Γ []) ?_ (hF ▸ Cur.start0 hs)
  refine WC.rs ?_
  refine e_box (v := .agg #[.int .i64 v_.dot.s, .int .i64 v_.dot.n, .slice Av_2 v_.past.length cv_2, .bool v_.gone, .string v_.val]) rfl rfl rfl rfl (by kernel_rfl) ?_
  intro g1
  refine va rfl rfl rfl (q_assign (v := .bool false) rfl (by kernel_rfl)) ?_
  refine WR.nil ?_
  change WC _ _ _ _ _ _
  refine WC.seq ?_
  refine WC.seq ?_
  refine WC.dr (by kernel_rfl) (by kernel_rfl) (fun w hw => hw.drawn _) ?_
  refine wa rfl rfl rfl (q_fl 0 fld_57_0 rfl rfl rfl) ?_
  refine wa rfl rfl rfl (q_ldla (i := 0) (vs := [.int .i64 v_.dot.s, .int .i64 v_.dot.n]) rfl rfl Tryz.isAgg54 Tryz.sizeOf54 rfl rfl) ?_
  obtain ⟨z2, hz3, h⟩ := bnd h
  refine wc rfl rfl rfl (q_call (call_run Tryz.call101 rfl rfl (by kernel_rfl)) (fun w hw => t_firthref03_Dot (Γ := Gh.all w) v_.dot ⟨hv_.1, hv_.2.1⟩ (Sat.all w) hz3)) ?_
  refine wa rfl rfl rfl (q_not rfl rfl) ?_
  refine wa rfl rfl rfl (q_move (v := .bool (!z2)) rfl (by kernel_rfl)) ?_
  refine wg0 rfl rfl rfl rfl rfl (fun hg4 => QV.qo (q_fl 2 fld_57_1 rfl rfl rfl)) ?_
  refine wg0 rfl rfl rfl rfl rfl (fun hg5 => QV.qo (q_ldl (i := 0) (v := .slice Av_2 v_.past.length cv_2) rfl rfl Tryz.isAgg55 (gu hg5 rfl) rfl)) ?_
  obtain ⟨z7, hz8, h⟩ := bnd h
  refine wg0 rfl rfl rfl rfl rfl (fun hg6 => (q_call (call_run Tryz.call102 rfl rfl (args1 (gu hg6 rfl))) (fun w hw => t_firthref03_Right (Γ := Gh.all w) (hv_.2.2.1.2.mono hw.sat.le_all) hv_.2.2.1.1 (Sat.all w) (gc_of hz8 hg6)))) ?_
  refine wg0 rfl rfl rfl rfl rfl (fun hg9 => QV.qo (q_not rfl (gu hg9 rfl))) ?_
  refine wa rfl rfl rfl (q_pick rfl rfl (pk_or' (g := (!z2)) (y := (!z7)))) ?_
  refine wa rfl rfl rfl (q_move (v := .bool ((!z2) || (!z7))) rfl (by kernel_rfl)) ?_
  refine wg0 rfl rfl rfl rfl rfl (fun hg10 => QV.qo (q_fl 2 fld_57_1 rfl rfl rfl)) ?_
  refine wg0 rfl rfl rfl rfl rfl (fun hg11 => QV.qo (q_ldl (i := 0) (v := .slice Av_2 v_.past.length cv_2) rfl rfl Tryz.isAgg55 (gu hg11 rfl) rfl)) ?_
  refine wg0 rfl rfl rfl rfl rfl (fun hg12 => QV.qo (q_fl 0 fld_57_0 rfl rfl rfl)) ?_
  refine wg0 rfl rfl rfl rfl rfl (fun hg13 => QV.qo (q_fl 0 fld_54_0 rfl (gu hg13 rfl) rfl)) ?_
  refine wg0 rfl rfl rfl rfl rfl (fun hg14 => QV.qo (q_ldl (i := 0) (v := .int .i64 v_.dot.s) rfl rfl Tryz.isAgg3 (gu hg14 rfl) rfl)) ?_
  obtain ⟨z16, hz17, h⟩ := bnd h
  refine wg0 rfl rfl rfl rfl rfl (fun hg15 => (q_call (call_run Tryz.call103 rfl rfl (args2 (gu hg15 rfl) (gu hg15 rfl))) (fun w hw => t_firthref03_Top (Γ := Gh.all w) (hv_.2.2.1.2.mono hw.sat.le_all) hv_.2.2.1.1 v_.dot.s hv_.1 (Sat.all w) (gc_of hz17 hg15)))) ?_
  refine wg0 rfl rfl rfl rfl rfl (fun hg18 => QV.qo (q_fl 0 fld_57_0 rfl rfl rfl)) ?_
  refine wg0 rfl rfl rfl rfl rfl (fun hg19 => QV.qo (q_fl 1 fld_54_1 rfl (gu hg19 rfl) rfl)) ?_
  refine wg0 rfl rfl rfl rfl rfl (fun hg20 => QV.qo (q_ldl (i := 0) (v := .int .i64 v_.dot.n) rfl rfl Tryz.isAgg2 (gu hg20 rfl) rfl)) ?_
  refine wg0 rfl rfl rfl rfl rfl (fun hg21 => QV.qo (q_geq rfl (gu hg21 rfl) (gu hg21 rfl))) ?_
  refine wa rfl rfl rfl (q_pick rfl rfl (pk_or' (g := ((!z2) || (!z7))) (y := (decide (v_.dot.n ≤ z16))))) ?_
  refine WQ.nil ?_
  change WC _ _ _ _ _ _
  refine WC.cif h (by kernel_rfl) (fun hb22 h => ?_) (fun hb22 h => ?_)
  · skip
    refine WC.rs ?_
    refine va rfl rfl rfl (q_assign (v := .bool false) rfl (by kernel_rfl)) ?_
    refine WR.nil ?_
    change WC _ _ _ _ _ _
    refine WC.ret ?_
    intro w hw
    obtain rfl := Option.some.inj h
    subst hF
    exact ⟨by kernel_rfl, hw.fr⟩
  · skip
    refine WC.skip ?_
    change WC _ _ _ _ _ _
    refine WC.seq ?_
    refine WC.rs ?_
    refine va rfl rfl rfl (q_fl 3 fld_57_2 rfl rfl rfl) ?_
    refine va rfl rfl rfl (q_ldl (i := 0) (v := .bool v_.gone) rfl rfl Tryz.isAgg4 rfl rfl) ?_
    refine WR.nil ?_
    change WC _ _ _ _ _ _
    refine WC.cif h (by kernel_rfl) (fun hb23 h => ?_) (fun hb23 h => ?_)
    · skip
      refine WC.rs ?_
      refine va rfl rfl rfl (q_fl 4 fld_57_3 rfl rfl rfl) ?_
      refine va rfl rfl rfl (q_ldl (i := 0) (v := .string v_.val) rfl rfl Tryz.isAgg9 rfl rfl) ?_
      refine va rfl rfl rfl (q_seql rfl rfl rfl) ?_
      refine va rfl rfl rfl (q_assign (v := .bool (v_.val == ByteArray.empty)) rfl (by kernel_rfl)) ?_
      refine WR.nil ?_
      change WC _ _ _ _ _ _
      refine WC.ret ?_
      intro w hw
      obtain rfl := Option.some.inj h
      subst hF
      exact ⟨by kernel_rfl, hw.fr⟩
    · skip
      refine WC.skip ?_
      change WC _ _ _ _ _ _
      refine WC.rs ?_
      refine va rfl rfl rfl (q_fl 4 fld_57_3 rfl rfl rfl) ?_
      refine va rfl rfl rfl (q_ldl (i := 0) (v := .string v_.val) rfl rfl Tryz.isAgg9 rfl rfl) ?_
      refine va rfl rfl rfl (q_len_str rfl Tryz.underlying9 rfl) ?_
      refine va rfl rfl rfl (q_leq rfl rfl rfl) ?_
      refine va rfl rfl rfl (q_assign (v := .bool (decide (((v_.val.size : Nat) : Int) ≤ 256))) rfl (by kernel_rfl)) ?_
      refine WR.nil ?_
      change WC _ _ _ _ _ _
      refine WC.ret ?_
      intro w hw
      obtain rfl := Option.some.inj h
      subst hF
      exact ⟨by kernel_rfl, hw.fr⟩
set_option maxRecDepth 100000 in
set_option maxHeartbeats 400000 in
theorem t_firthref03_Has {Γ : Gh} {w0 : World} {Al : Option Addr} {cl : Nat} {l : List Span} (hl : Sl spanT Γ Al l) (hlc : l.length ≤ cl) (d : Dot) (hd : Dot.fits Γ  d) (hs : Sat Γ w0) {r : Bool} (h : m_firthref03_Has l d = some r) : Calls Tryz.prog 82 #[.slice Al l.length cl, .agg #[.int .i64 d.s, .int .i64 d.n]] w0 (fun e w' => e = .returned (.bool r) ∧ Fr no w0 w') := by
  refine calls_of (N := 40) (rs := [4]) (args := [.slice Al l.length cl, .agg #[.int .i64 d.s, .int .i64 d.n]]) Tryz.func82 rfl Tryz.ntmps82 Tryz.results82 rfl ?_
  obtain ⟨F, hF⟩ : ∃ F : Fm, F = ⟨no, w0, Γ⟩ := ⟨_, rfl⟩
  refine WC.here (C := CC F Γ []) ?_ (hF ▸ Cur.start0 hs)
  refine WC.rs ?_
  refine e_box (v := .agg #[.int .i64 d.s, .int .i64 d.n]) rfl rfl rfl rfl (by kernel_rfl) ?_
  intro g1
  refine va rfl rfl rfl (q_assign (v := .bool false) rfl (by kernel_rfl)) ?_
  refine WR.nil ?_
  change WC _ _ _ _ _ _
  refine WC.seq ?_
  refine WC.rs ?_
  refine va rfl rfl rfl (q_assign (v := .int .i64 0) rfl (by kernel_rfl)) ?_
  refine WR.nil ?_
  change WC _ _ _ _ _ _
  refine WC.block ?_
  refine WC.forI h (fun (i3 : Nat) (s : Unit) σ w => match s with | () => slots σ [(0, .slice Al l.length cl), (3, .pointer (some ⟨g1, 0, none⟩)), (5, .int .i64 ((i3 : Nat) : Int))] ∧ CC F Γ [[(g1, .cells #[.int .i64 d.s, .int .i64 d.n] 54 (0, 0))]] w ∧ True) ?_ ?_
  · skip
    intro w hw
    exact ⟨(sl_ (by kernel_rfl)), hw, trivial⟩
  rintro f2 i3 ⟨⟩ σ w hi4 hlt5 hge6 ⟨hsl, hw, -⟩
  refine Wpt.slots hsl ?_
  refine WC.here (C := CC F Γ [[(g1, .cells #[.int .i64 d.s, .int .i64 d.n] 54 (0, 0))]]) ?_ hw
  clear hw hsl
  refine WC.seq ?_
  refine WC.rs ?_
  refine va rfl rfl rfl (q_move (v := .int .i64 ((i3 : Nat) : Int)) rfl (by kernel_rfl)) ?_
  refine va rfl rfl rfl (q_move (v := .slice Al l.length cl) rfl (by kernel_rfl)) ?_
  refine va rfl rfl rfl (q_len_slice rfl Tryz.underlying55 rfl) ?_
  refine va rfl rfl rfl (q_lss rfl rfl rfl) ?_
  refine WR.nil ?_
  change WC _ _ _ _ _ _
  refine WC.cond (b := (decide (((i3 : Nat) : Int) < ((l.length : Nat) : Int)))) (by kernel_rfl) (fun hb7 => ?_) (fun hb7 => ?_)
  · skip
    have hl8 := ilt hb7
    have h := hlt5 hl8
    refine WC.skip ?_
    change WC _ _ _ _ _ _
    refine WC.seq ?_
    refine WC.block ?_
    refine WC.seq ?_
    refine WC.dr (by kernel_rfl) (by kernel_rfl) (fun w hw => hw.drawn _) ?_
    refine wa rfl rfl rfl (q_move (v := .slice Al l.length cl) rfl (by kernel_rfl)) ?_
    refine wa rfl rfl rfl (q_move (v := .int .i64 ((i3 : Nat) : Int)) rfl (by kernel_rfl)) ?_
    refine wa rfl rfl rfl (q_ixn (i := i3) Tryz.underlying55 Tryz.sizeOf59 rfl rfl rfl hl8 (hl.some_ hl8)) ?_
    refine wa rfl rfl rfl (q_field_addr (i3 * 3) fld_59_0 rfl rfl (hl.some_ hl8) rfl) ?_
    refine wa rfl rfl rfl (q_ld (c := 0) (v := .int .i64 (gt l i3).s) (hl.spanT_at hl8).2 rfl Tryz.isAgg3 rfl rfl) ?_
    refine wa rfl rfl rfl (q_fl 0 fld_54_0 rfl rfl rfl) ?_
    refine wa rfl rfl rfl (q_ldl (i := 0) (v := .int .i64 d.s) rfl rfl Tryz.isAgg3 rfl rfl) ?_
    refine wa rfl rfl rfl (q_eql rfl rfl rfl) ?_
    refine wa rfl rfl rfl (q_move (v := .bool ((gt l i3).s == d.s)) rfl (by kernel_rfl)) ?_
    refine wg1 rfl rfl rfl rfl rfl (fun hg9 => QV.qo (q_fl 1 fld_54_1 rfl rfl rfl)) ?_
    refine wg1 rfl rfl rfl rfl rfl (fun hg10 => QV.qo (q_ldl (i := 0) (v := .int .i64 d.n) rfl rfl Tryz.isAgg2 (gu hg10 rfl) rfl)) ?_
    refine wg1 rfl rfl rfl rfl rfl (fun hg11 => QV.qo (q_move (v := .slice Al l.length cl) rfl (by kernel_rfl))) ?_
    refine wg1 rfl rfl rfl rfl rfl (fun hg12 => QV.qo (q_move (v := .int .i64 ((i3 : Nat) : Int)) rfl (by kernel_rfl))) ?_
    refine wg1 rfl rfl rfl rfl rfl (fun hg13 => QV.qo (q_ixn (i := i3) Tryz.underlying55 Tryz.sizeOf59 rfl (gu hg13 rfl) (gu hg13 rfl) hl8 (hl.some_ hl8))) ?_
    refine wg1 rfl rfl rfl rfl rfl (fun hg14 => QV.qo (q_field_addr (i3 * 3 + 1) fld_59_1 rfl (gu hg14 rfl) (hl.some_ hl8) rfl)) ?_
    refine wg1 rfl rfl rfl rfl rfl (fun hg15 => QV.qo (q_ld (c := 1) (v := .int .i64 (gt l i3).f) (hl.spanT_at hl8).2 rfl Tryz.isAgg2 (gu hg15 rfl) rfl)) ?_
    refine wg1 rfl rfl rfl rfl rfl (fun hg16 => QV.qo (q_geq rfl (gu hg16 rfl) (gu hg16 rfl))) ?_
    refine wa rfl rfl rfl (q_pick rfl rfl (pk_and' (g := ((gt l i3).s == d.s)) (y := (decide ((gt l i3).f ≤ d.n))))) ?_
    refine wa rfl rfl rfl (q_move (v := .bool (((gt l i3).s == d.s) && (decide ((gt l i3).f ≤ d.n)))) rfl (by kernel_rfl)) ?_
    refine wg1 rfl rfl rfl rfl rfl (fun hg17 => QV.qo (q_fl 1 fld_54_1 rfl rfl rfl)) ?_
    refine wg1 rfl rfl rfl rfl rfl (fun hg18 => QV.qo (q_ldl (i := 0) (v := .int .i64 d.n) rfl rfl Tryz.isAgg2 (gu hg18 rfl) rfl)) ?_
    refine wg1 rfl rfl rfl rfl rfl (fun hg19 => QV.qo (q_move (v := .slice Al l.length cl) rfl (by kernel_rfl))) ?_
    refine wg1 rfl rfl rfl rfl rfl (fun hg20 => QV.qo (q_move (v := .int .i64 ((i3 : Nat) : Int)) rfl (by kernel_rfl))) ?_
    refine wg1 rfl rfl rfl rfl rfl (fun hg21 => QV.qo (q_ixn (i := i3) Tryz.underlying55 Tryz.sizeOf59 rfl (gu hg21 rfl) (gu hg21 rfl) hl8 (hl.some_ hl8))) ?_
    refine wg1 rfl rfl rfl rfl rfl (fun hg22 => QV.qo (q_field_addr (i3 * 3 + 2) fld_59_2 rfl (gu hg22 rfl) (hl.some_ hl8) rfl)) ?_
    refine wg1 rfl rfl rfl rfl rfl (fun hg23 => QV.qo (q_ld (c := 2) (v := .int .i64 (gt l i3).t) (hl.spanT_at hl8).2 rfl Tryz.isAgg2 (gu hg23 rfl) rfl)) ?_
    refine wg1 rfl rfl rfl rfl rfl (fun hg24 => QV.qo (q_leq rfl (gu hg24 rfl) (gu hg24 rfl))) ?_
    refine wa rfl rfl rfl (q_pick rfl rfl (pk_and' (g := (((gt l i3).s == d.s) && (decide ((gt l i3).f ≤ d.n)))) (y := (decide (d.n ≤ (gt l i3).t))))) ?_
    refine WQ.nil ?_
    change WC _ _ _ _ _ _
    refine WC.cif h (by kernel_rfl) (fun hb25 h => ?_) (fun hb25 h => ?_)
    · skip
      refine WC.rs ?_
      refine va rfl rfl rfl (q_assign (v := .bool true) rfl (by kernel_rfl)) ?_
      refine WR.nil ?_
      change WC _ _ _ _ _ _
      refine WC.ret ?_
      intro w hw
      obtain rfl := Option.some.inj h
      subst hF
      exact ⟨by kernel_rfl, hw.fr⟩
    · skip
      refine WC.skip ?_
      change WC _ _ _ _ _ _
      refine WC.region ?_
      refine va rfl rfl rfl (q_move (v := .int .i64 ((i3 : Nat) : Int)) rfl (by kernel_rfl)) ?_
      refine va rfl rfl rfl (q_add_r (r := ((i3 + 1 : Nat) : Int)) rfl rfl rfl (ctr_len hl8 hl.le)) ?_
      refine va rfl rfl rfl (q_assign (v := .int .i64 ((i3 + 1 : Nat) : Int)) rfl (by kernel_rfl)) ?_
      refine WR.nil ?_
      intro w hw
      exact ⟨hl8, (), h, (sl_ (by kernel_rfl)), hw, trivial⟩
  · skip
    have h := hge6 (ige hb7)
    refine WC.exit ?_
    change WC _ _ _ _ _ _
    refine WC.rs ?_
    refine va rfl rfl rfl (q_assign (v := .bool false) rfl (by kernel_rfl)) ?_
    refine WR.nil ?_
    change WC _ _ _ _ _ _
    refine WC.ret ?_
    intro w hw
    obtain rfl := Option.some.inj h
    subst hF
    exact ⟨by kernel_rfl, hw.fr⟩
set_option maxRecDepth 100000 in
set_option maxHeartbeats 400000 in
theorem t_firthref05_Behind {Γ : Gh} {w0 : World} {Al : Option Addr} {cl : Nat} {l : List Ver} (hl : Sl verT Γ Al l) (hlc : l.length ≤ cl) (d : Dot) (hd : Dot.fits Γ  d) (hs : Sat Γ w0) {r : Bool} (h : m_firthref05_Behind l d = some r) : Calls Tryz.prog 56 #[.slice Al l.length cl, .agg #[.int .i64 d.s, .int .i64 d.n]] w0 (fun e w' => e = .returned (.bool r) ∧ Fr no w0 w') := by
  refine calls_of (N := 19) (rs := [4]) (args := [.slice Al l.length cl, .agg #[.int .i64 d.s, .int .i64 d.n]]) Tryz.func56 rfl Tryz.ntmps56 Tryz.results56 rfl ?_
  obtain ⟨F, hF⟩ : ∃ F : Fm, F = ⟨no, w0, Γ⟩ := ⟨_, rfl⟩
  refine WC.here (C := CC F Γ []) ?_ (hF ▸ Cur.start0 hs)
  refine WC.rs ?_
  refine e_box (v := .agg #[.int .i64 d.s, .int .i64 d.n]) rfl rfl rfl rfl (by kernel_rfl) ?_
  intro g1
  refine va rfl rfl rfl (q_assign (v := .bool false) rfl (by kernel_rfl)) ?_
  refine WR.nil ?_
  change WC _ _ _ _ _ _
  refine WC.seq ?_
  refine WC.rs ?_
  refine va rfl rfl rfl (q_assign (v := .int .i64 0) rfl (by kernel_rfl)) ?_
  refine WR.nil ?_
  change WC _ _ _ _ _ _
  refine WC.block ?_
  refine WC.forI h (fun (i3 : Nat) (s : Unit) σ w => match s with | () => slots σ [(0, .slice Al l.length cl), (3, .pointer (some ⟨g1, 0, none⟩)), (5, .int .i64 ((i3 : Nat) : Int))] ∧ CC F Γ [[(g1, .cells #[.int .i64 d.s, .int .i64 d.n] 54 (0, 0))]] w ∧ True) ?_ ?_
  · skip
    intro w hw
    exact ⟨(sl_ (by kernel_rfl)), hw, trivial⟩
  rintro f2 i3 ⟨⟩ σ w hi4 hlt5 hge6 ⟨hsl, hw, -⟩
  refine Wpt.slots hsl ?_
  refine WC.here (C := CC F Γ [[(g1, .cells #[.int .i64 d.s, .int .i64 d.n] 54 (0, 0))]]) ?_ hw
  clear hw hsl
  refine WC.seq ?_
  refine WC.rs ?_
  refine va rfl rfl rfl (q_move (v := .int .i64 ((i3 : Nat) : Int)) rfl (by kernel_rfl)) ?_
  refine va rfl rfl rfl (q_move (v := .slice Al l.length cl) rfl (by kernel_rfl)) ?_
  refine va rfl rfl rfl (q_len_slice rfl Tryz.underlying48 rfl) ?_
  refine va rfl rfl rfl (q_lss rfl rfl rfl) ?_
  refine WR.nil ?_
  change WC _ _ _ _ _ _
  refine WC.cond (b := (decide (((i3 : Nat) : Int) < ((l.length : Nat) : Int)))) (by kernel_rfl) (fun hb7 => ?_) (fun hb7 => ?_)
  · skip
    have hl8 := ilt hb7
    have h := hlt5 hl8
    refine WC.skip ?_
    change WC _ _ _ _ _ _
    refine WC.seq ?_
    refine WC.block ?_
    refine WC.seq ?_
    refine WC.dr (by kernel_rfl) (by kernel_rfl) (fun w hw => hw.drawn _) ?_
    refine wa rfl rfl rfl (q_move (v := .slice Al l.length cl) rfl (by kernel_rfl)) ?_
    refine wa rfl rfl rfl (q_move (v := .int .i64 ((i3 : Nat) : Int)) rfl (by kernel_rfl)) ?_
    refine wa rfl rfl rfl (q_ixn (i := i3) Tryz.underlying48 Tryz.sizeOf57 rfl rfl rfl hl8 (hl.some_ hl8)) ?_
    refine wa rfl rfl rfl (q_field_addr (i3 * 5 + 2) fld_57_1 rfl rfl (hl.some_ hl8) rfl) ?_
    obtain ⟨A9, c10, hx11⟩ := hl.verT_at i3
    refine wa rfl rfl rfl (q_ld (c := 2) (v := .slice A9 ((gt l i3).past).length c10) (hx11 hl8).2 rfl Tryz.isAgg55 rfl rfl) ?_
    refine wa rfl rfl rfl (q_ldla (i := 0) (vs := [.int .i64 d.s, .int .i64 d.n]) rfl rfl Tryz.isAgg54 Tryz.sizeOf54 rfl rfl) ?_
    obtain ⟨z12, hz13, h⟩ := bnd h
    refine wc rfl rfl rfl (q_call (call_run Tryz.call82 rfl rfl (by kernel_rfl)) (fun w hw => t_firthref03_Has (Γ := Gh.all w) ((hx11 hl8).1.2.2.1.2.mono hw.sat.le_all) (hx11 hl8).1.2.2.1.1 d hd (Sat.all w) hz13)) ?_
    refine WQ.nil ?_
    change WC _ _ _ _ _ _
    refine WC.cif h (by kernel_rfl) (fun hb14 h => ?_) (fun hb14 h => ?_)
    · skip
      refine WC.rs ?_
      refine va rfl rfl rfl (q_assign (v := .bool true) rfl (by kernel_rfl)) ?_
      refine WR.nil ?_
      change WC _ _ _ _ _ _
      refine WC.ret ?_
      intro w hw
      obtain rfl := Option.some.inj h
      subst hF
      exact ⟨by kernel_rfl, hw.fr⟩
    · skip
      refine WC.skip ?_
      change WC _ _ _ _ _ _
      refine WC.region ?_
      refine va rfl rfl rfl (q_move (v := .int .i64 ((i3 : Nat) : Int)) rfl (by kernel_rfl)) ?_
      refine va rfl rfl rfl (q_add_r (r := ((i3 + 1 : Nat) : Int)) rfl rfl rfl (ctr_len hl8 hl.le)) ?_
      refine va rfl rfl rfl (q_assign (v := .int .i64 ((i3 + 1 : Nat) : Int)) rfl (by kernel_rfl)) ?_
      refine WR.nil ?_
      intro w hw
      exact ⟨hl8, (), h, (sl_ (by kernel_rfl)), hw, trivial⟩
  · skip
    have h := hge6 (ige hb7)
    refine WC.exit ?_
    change WC _ _ _ _ _ _
    refine WC.rs ?_
    refine va rfl rfl rfl (q_assign (v := .bool false) rfl (by kernel_rfl)) ?_
    refine WR.nil ?_
    change WC _ _ _ _ _ _
    refine WC.ret ?_
    intro w hw
    obtain rfl := Option.some.inj h
    subst hF
    exact ⟨by kernel_rfl, hw.fr⟩
set_option maxRecDepth 100000 in
set_option maxHeartbeats 400000 in
theorem t_firthref05_Less {Γ : Gh} {w0 : World} (a : Dot) (ha : Dot.fits Γ  a) (b : Dot) (hb : Dot.fits Γ  b) (hs : Sat Γ w0) {r : Bool} (h : m_firthref05_Less a b = some r) : Calls Tryz.prog 84 #[.agg #[.int .i64 a.s, .int .i64 a.n], .agg #[.int .i64 b.s, .int .i64 b.n]] w0 (fun e w' => e = .returned (.bool r) ∧ Fr no w0 w') := by
  refine calls_of (N := 20) (rs := [4]) (args := [.agg #[.int .i64 a.s, .int .i64 a.n], .agg #[.int .i64 b.s, .int .i64 b.n]]) Tryz.func84 rfl Tryz.ntmps84 Tryz.results84 rfl ?_
  obtain ⟨F, hF⟩ : ∃ F : Fm, F = ⟨no, w0, Γ⟩ := ⟨_, rfl⟩
  refine WC.here (C := CC F Γ []) ?_ (hF ▸ Cur.start0 hs)
  refine WC.rs ?_
  refine e_box (v := .agg #[.int .i64 a.s, .int .i64 a.n]) rfl rfl rfl rfl (by kernel_rfl) ?_
  intro g1
  refine e_box (v := .agg #[.int .i64 b.s, .int .i64 b.n]) rfl rfl rfl rfl (by kernel_rfl) ?_
  intro g2
  refine va rfl rfl rfl (q_assign (v := .bool false) rfl (by kernel_rfl)) ?_
  refine WR.nil ?_
  change WC _ _ _ _ _ _
  refine WC.seq ?_
  refine WC.rs ?_
  refine va rfl rfl rfl (q_fl 0 fld_54_0 rfl rfl rfl) ?_
  refine va rfl rfl rfl (q_ldl (i := 1) (v := .int .i64 a.s) rfl rfl Tryz.isAgg3 rfl rfl) ?_
  refine va rfl rfl rfl (q_fl 0 fld_54_0 rfl rfl rfl) ?_
  refine va rfl rfl rfl (q_ldl (i := 0) (v := .int .i64 b.s) rfl rfl Tryz.isAgg3 rfl rfl) ?_
  refine va rfl rfl rfl (q_neq rfl rfl rfl) ?_
  refine WR.nil ?_
  change WC _ _ _ _ _ _
  refine WC.cif h (by kernel_rfl) (fun hb3 h => ?_) (fun hb3 h => ?_)
  · skip
    refine WC.rs ?_
    refine va rfl rfl rfl (q_fl 0 fld_54_0 rfl rfl rfl) ?_
    refine va rfl rfl rfl (q_ldl (i := 1) (v := .int .i64 a.s) rfl rfl Tryz.isAgg3 rfl rfl) ?_
    refine va rfl rfl rfl (q_fl 0 fld_54_0 rfl rfl rfl) ?_
    refine va rfl rfl rfl (q_ldl (i := 0) (v := .int .i64 b.s) rfl rfl Tryz.isAgg3 rfl rfl) ?_
    refine va rfl rfl rfl (q_lss rfl rfl rfl) ?_
    refine va rfl rfl rfl (q_assign (v := .bool (decide (a.s < b.s))) rfl (by kernel_rfl)) ?_
    refine WR.nil ?_
    change WC _ _ _ _ _ _
    refine WC.ret ?_
    intro w hw
    obtain rfl := Option.some.inj h
    subst hF
    exact ⟨by kernel_rfl, hw.fr⟩
  · skip
    refine WC.skip ?_
    change WC _ _ _ _ _ _
    refine WC.rs ?_
    refine va rfl rfl rfl (q_fl 1 fld_54_1 rfl rfl rfl) ?_
    refine va rfl rfl rfl (q_ldl (i := 1) (v := .int .i64 a.n) rfl rfl Tryz.isAgg2 rfl rfl) ?_
    refine va rfl rfl rfl (q_fl 1 fld_54_1 rfl rfl rfl) ?_
    refine va rfl rfl rfl (q_ldl (i := 0) (v := .int .i64 b.n) rfl rfl Tryz.isAgg2 rfl rfl) ?_
    refine va rfl rfl rfl (q_lss rfl rfl rfl) ?_
    refine va rfl rfl rfl (q_assign (v := .bool (decide (a.n < b.n))) rfl (by kernel_rfl)) ?_
    refine WR.nil ?_
    change WC _ _ _ _ _ _
    refine WC.ret ?_
    intro w hw
    obtain rfl := Option.some.inj h
    subst hF
    exact ⟨by kernel_rfl, hw.fr⟩
set_option maxRecDepth 100000 in
set_option maxHeartbeats 400000 in
theorem t_firthref05_Right {Γ : Gh} {w0 : World} {Al : Option Addr} {cl : Nat} {l : List Ver} (hl : Sl verT Γ Al l) (hlc : l.length ≤ cl) (hs : Sat Γ w0) {r : Bool} (h : m_firthref05_Right l = some r) : Calls Tryz.prog 59 #[.slice Al l.length cl] w0 (fun e w' => e = .returned (.bool r) ∧ Fr no w0 w') := by
  refine calls_of (N := 45) (rs := [2]) (args := [.slice Al l.length cl]) Tryz.func59 rfl Tryz.ntmps59 Tryz.results59 rfl ?_
  obtain ⟨F, hF⟩ : ∃ F : Fm, F = ⟨no, w0, Γ⟩ := ⟨_, rfl⟩
  refine WC.here (C := CC F Γ []) ?_ (hF ▸ Cur.start0 hs)
  refine WC.rs ?_
  refine va rfl rfl rfl (q_assign (v := .bool false) rfl (by kernel_rfl)) ?_
  refine WR.nil ?_
  change WC _ _ _ _ _ _
  refine WC.seq ?_
  refine WC.rs ?_
  refine va rfl rfl rfl (q_move (v := .slice Al l.length cl) rfl (by kernel_rfl)) ?_
  refine va rfl rfl rfl (q_len_slice rfl Tryz.underlying48 rfl) ?_
  refine va rfl rfl rfl (q_gtr rfl rfl rfl) ?_
  refine WR.nil ?_
  change WC _ _ _ _ _ _
  refine WC.cif h (by kernel_rfl) (fun hb1 h => ?_) (fun hb1 h => ?_)
  · skip
    refine WC.rs ?_
    refine va rfl rfl rfl (q_assign (v := .bool false) rfl (by kernel_rfl)) ?_
    refine WR.nil ?_
    change WC _ _ _ _ _ _
    refine WC.ret ?_
    intro w hw
    obtain rfl := Option.some.inj h
    subst hF
    exact ⟨by kernel_rfl, hw.fr⟩
  · skip
    refine WC.skip ?_
    change WC _ _ _ _ _ _
    refine WC.seq ?_
    refine WC.rs ?_
    refine va rfl rfl rfl (q_assign (v := .int .i64 0) rfl (by kernel_rfl)) ?_
    refine WR.nil ?_
    change WC _ _ _ _ _ _
    refine WC.block ?_
    refine WC.forI h (fun (i3 : Nat) (s : Unit) σ w => match s with | () => slots σ [(0, .slice Al l.length cl), (3, .int .i64 ((i3 : Nat) : Int))] ∧ CC F Γ [] w ∧ True) ?_ ?_
    · skip
      intro w hw
      exact ⟨(sl_ (by kernel_rfl)), hw, trivial⟩
    rintro f2 i3 ⟨⟩ σ w hi4 hlt5 hge6 ⟨hsl, hw, -⟩
    refine Wpt.slots hsl ?_
    refine WC.here (C := CC F Γ []) ?_ hw
    clear hw hsl
    refine WC.seq ?_
    refine WC.rs ?_
    refine va rfl rfl rfl (q_move (v := .int .i64 ((i3 : Nat) : Int)) rfl (by kernel_rfl)) ?_
    refine va rfl rfl rfl (q_move (v := .slice Al l.length cl) rfl (by kernel_rfl)) ?_
    refine va rfl rfl rfl (q_len_slice rfl Tryz.underlying48 rfl) ?_
    refine va rfl rfl rfl (q_lss rfl rfl rfl) ?_
    refine WR.nil ?_
    change WC _ _ _ _ _ _
    refine WC.cond (b := (decide (((i3 : Nat) : Int) < ((l.length : Nat) : Int)))) (by kernel_rfl) (fun hb7 => ?_) (fun hb7 => ?_)
    · skip
      have hl8 := ilt hb7
      have h := hlt5 hl8
      refine WC.skip ?_
      change WC _ _ _ _ _ _
      refine WC.seq ?_
      refine WC.block ?_
      refine WC.seq ?_
      refine WC.rs ?_
      refine va rfl rfl rfl (q_move (v := .slice Al l.length cl) rfl (by kernel_rfl)) ?_
      refine va rfl rfl rfl (q_move (v := .int .i64 ((i3 : Nat) : Int)) rfl (by kernel_rfl)) ?_
      refine va rfl rfl rfl (q_ixn (i := i3) Tryz.underlying48 Tryz.sizeOf57 rfl rfl rfl hl8 (hl.some_ hl8)) ?_
      obtain ⟨A9, c10, hx11⟩ := hl.verT_at i3
      refine va rfl rfl rfl (q_lda (c := 0) (vs := [.int .i64 (gt l i3).dot.s, .int .i64 (gt l i3).dot.n, .slice A9 ((gt l i3).past).length c10, .bool (gt l i3).gone, .string (gt l i3).val]) (hx11 hl8).2 rfl Tryz.isAgg57 Tryz.sizeOf57 rfl rfl rfl) ?_
      obtain ⟨z12, hz13, h⟩ := bnd h
      refine vc rfl rfl rfl (q_call (call_run Tryz.call83 rfl rfl (by kernel_rfl)) (fun w hw => t_firthref05_RightOne (Γ := Gh.all w) (gt l i3) (Ver.fits_mono (hx11 hl8).1 hw.sat.le_all) (Sat.all w) hz13)) ?_
      refine va rfl rfl rfl (q_not rfl rfl) ?_
      refine va rfl rfl rfl (q_move (v := .bool (!z12)) rfl (by kernel_rfl)) ?_
      refine vg0 rfl rfl rfl rfl rfl (fun hg14 => QV.qo (q_move (v := .slice Al l.length cl) rfl (by kernel_rfl))) ?_
      refine vg0 rfl rfl rfl rfl rfl (fun hg15 => QV.qo (q_move (v := .slice Al l.length cl) rfl (by kernel_rfl))) ?_
      refine vg0 rfl rfl rfl rfl rfl (fun hg16 => QV.qo (q_move (v := .int .i64 ((i3 : Nat) : Int)) rfl (by kernel_rfl))) ?_
      refine vg0 rfl rfl rfl rfl rfl (fun hg17 => QV.qo (q_ixn (i := i3) Tryz.underlying48 Tryz.sizeOf57 rfl (gu hg17 rfl) (gu hg17 rfl) hl8 (hl.some_ hl8))) ?_
      refine vg0 rfl rfl rfl rfl rfl (fun hg18 => QV.qo (q_field_addr (i3 * 5) fld_57_0 rfl (gu hg18 rfl) (hl.some_ hl8) rfl)) ?_
      refine vg0 rfl rfl rfl rfl rfl (fun hg19 => QV.qo (q_lda (c := 0) (vs := [.int .i64 (gt l i3).dot.s, .int .i64 (gt l i3).dot.n]) (hx11 hl8).2 rfl Tryz.isAgg54 Tryz.sizeOf54 (gu hg19 rfl) rfl rfl)) ?_
      obtain ⟨z21, hz22, h⟩ := bnd h
      refine vg0 rfl rfl rfl rfl rfl (fun hg20 => (q_call (call_run Tryz.call56 rfl rfl (args2 (gu hg20 rfl) (gu hg20 rfl))) (fun w hw => t_firthref05_Behind (Γ := Gh.all w) (hl.mono hw.sat.le_all) hlc ((gt l i3).dot) ⟨(hx11 hl8).1.1, (hx11 hl8).1.2.1⟩ (Sat.all w) (gc_of hz22 hg20)))) ?_
      refine va rfl rfl rfl (q_pick rfl rfl (pk_or' (g := (!z12)) (y := z21))) ?_
      refine WR.nil ?_
      change WC _ _ _ _ _ _
      refine WC.cif h (by kernel_rfl) (fun hb23 h => ?_) (fun hb23 h => ?_)
      · skip
        refine WC.rs ?_
        refine va rfl rfl rfl (q_assign (v := .bool false) rfl (by kernel_rfl)) ?_
        refine WR.nil ?_
        change WC _ _ _ _ _ _
        refine WC.ret ?_
        intro w hw
        obtain rfl := Option.some.inj h
        subst hF
        exact ⟨by kernel_rfl, hw.fr⟩
      · skip
        refine WC.skip ?_
        change WC _ _ _ _ _ _
        refine WC.seq ?_
        refine WC.dr (by kernel_rfl) (by kernel_rfl) (fun w hw => hw.drawn _) ?_
        refine wa rfl rfl rfl (q_move (v := .int .i64 ((i3 : Nat) : Int)) rfl (by kernel_rfl)) ?_
        refine wa rfl rfl rfl (q_gtr rfl rfl rfl) ?_
        refine wa rfl rfl rfl (q_move (v := .bool (decide (0 < ((i3 : Nat) : Int)))) rfl (by kernel_rfl)) ?_
        refine wg1 rfl rfl rfl rfl rfl (fun hg24 => QV.qo (q_move (v := .slice Al l.length cl) rfl (by kernel_rfl))) ?_
        refine wg1 rfl rfl rfl rfl rfl (fun hg25 => QV.qo (q_move (v := .int .i64 ((i3 : Nat) : Int)) rfl (by kernel_rfl))) ?_
        refine wg1 rfl rfl rfl rfl rfl (fun hg26 => QV.qo (q_sub rfl (gu hg26 rfl) rfl)) ?_
        obtain ⟨hk28, h⟩ := chk_some h
        refine wg1 rfl rfl rfl rfl rfl (fun hg27 => QV.qo (q_ix Tryz.underlying48 Tryz.sizeOf57 rfl (gu hg27 rfl) (gu hg27 rfl) (imp_of hk28 hg27) (hl.some_ (inb_lt (imp_of hk28 hg27))))) ?_
        refine wg1 rfl rfl rfl rfl rfl (fun hg29 => QV.qo (q_field_addr (((w64 (((i3 : Nat) : Int) - 1)).toNat) * 5) fld_57_0 rfl (gu hg29 rfl) (hl.some_ (inb_lt (imp_of hk28 hg29))) rfl)) ?_
        obtain ⟨A31, c32, hx33⟩ := hl.verT_at ((w64 (((i3 : Nat) : Int) - 1)).toNat)
        refine wg1 rfl rfl rfl rfl rfl (fun hg30 => QV.qo (q_lda (c := 0) (vs := [.int .i64 (gt l ((w64 (((i3 : Nat) : Int) - 1)).toNat)).dot.s, .int .i64 (gt l ((w64 (((i3 : Nat) : Int) - 1)).toNat)).dot.n]) (hx33 (inb_lt (imp_of hk28 hg30))).2 rfl Tryz.isAgg54 Tryz.sizeOf54 (gu hg30 rfl) rfl rfl)) ?_
        refine wg1 rfl rfl rfl rfl rfl (fun hg34 => QV.qo (q_move (v := .slice Al l.length cl) rfl (by kernel_rfl))) ?_
        refine wg1 rfl rfl rfl rfl rfl (fun hg35 => QV.qo (q_move (v := .int .i64 ((i3 : Nat) : Int)) rfl (by kernel_rfl))) ?_
        refine wg1 rfl rfl rfl rfl rfl (fun hg36 => QV.qo (q_ixn (i := i3) Tryz.underlying48 Tryz.sizeOf57 rfl (gu hg36 rfl) (gu hg36 rfl) hl8 (hl.some_ hl8))) ?_
        refine wg1 rfl rfl rfl rfl rfl (fun hg37 => QV.qo (q_field_addr (i3 * 5) fld_57_0 rfl (gu hg37 rfl) (hl.some_ hl8) rfl)) ?_
        refine wg1 rfl rfl rfl rfl rfl (fun hg38 => QV.qo (q_lda (c := 0) (vs := [.int .i64 (gt l i3).dot.s, .int .i64 (gt l i3).dot.n]) (hx11 hl8).2 rfl Tryz.isAgg54 Tryz.sizeOf54 (gu hg38 rfl) rfl rfl)) ?_
        obtain ⟨z40, hz41, h⟩ := bnd h
        refine wg1 rfl rfl rfl rfl rfl (fun hg39 => (q_call (call_run Tryz.call84 rfl rfl (args2 (gu hg39 rfl) (gu hg39 rfl))) (fun w hw => t_firthref05_Less (Γ := Gh.all w) ((gt l ((w64 (((i3 : Nat) : Int) - 1)).toNat)).dot) ⟨(hx33 (inb_lt (imp_of hk28 hg39))).1.1, (hx33 (inb_lt (imp_of hk28 hg39))).1.2.1⟩ ((gt l i3).dot) ⟨(hx11 hl8).1.1, (hx11 hl8).1.2.1⟩ (Sat.all w) (gc_of hz41 hg39)))) ?_
        refine wg1 rfl rfl rfl rfl rfl (fun hg42 => QV.qo (q_not rfl (gu hg42 rfl))) ?_
        refine wa rfl rfl rfl (q_pick rfl rfl (pk_and' (g := (decide (0 < ((i3 : Nat) : Int)))) (y := (!z40)))) ?_
        refine WQ.nil ?_
        change WC _ _ _ _ _ _
        refine WC.cif h (by kernel_rfl) (fun hb43 h => ?_) (fun hb43 h => ?_)
        · skip
          refine WC.rs ?_
          refine va rfl rfl rfl (q_assign (v := .bool false) rfl (by kernel_rfl)) ?_
          refine WR.nil ?_
          change WC _ _ _ _ _ _
          refine WC.ret ?_
          intro w hw
          obtain rfl := Option.some.inj h
          subst hF
          exact ⟨by kernel_rfl, hw.fr⟩
        · skip
          refine WC.skip ?_
          change WC _ _ _ _ _ _
          refine WC.region ?_
          refine va rfl rfl rfl (q_move (v := .int .i64 ((i3 : Nat) : Int)) rfl (by kernel_rfl)) ?_
          refine va rfl rfl rfl (q_add_r (r := ((i3 + 1 : Nat) : Int)) rfl rfl rfl (ctr_len hl8 hl.le)) ?_
          refine va rfl rfl rfl (q_assign (v := .int .i64 ((i3 + 1 : Nat) : Int)) rfl (by kernel_rfl)) ?_
          refine WR.nil ?_
          intro w hw
          exact ⟨hl8, (), h, (sl_ (by kernel_rfl)), hw, trivial⟩
    · skip
      have h := hge6 (ige hb7)
      refine WC.exit ?_
      change WC _ _ _ _ _ _
      refine WC.rs ?_
      refine va rfl rfl rfl (q_assign (v := .bool true) rfl (by kernel_rfl)) ?_
      refine WR.nil ?_
      change WC _ _ _ _ _ _
      refine WC.ret ?_
      intro w hw
      obtain rfl := Option.some.inj h
      subst hF
      exact ⟨by kernel_rfl, hw.fr⟩
set_option maxRecDepth 100000 in
set_option maxHeartbeats 400000 in
theorem t_firthref06_RightRec {Γ : Gh} {w0 : World} {Ar_1 : Option Addr} {cr_1 : Nat} (r_ : Rec) (hr_ : Rec.fits Γ Ar_1 cr_1 r_) (hs : Sat Γ w0) {r : Bool} (h : m_firthref06_RightRec r_ = some r) : Calls Tryz.prog 32 #[.agg #[.string r_.key, .slice Ar_1 r_.vers.length cr_1]] w0 (fun e w' => e = .returned (.bool r) ∧ Fr no w0 w') := by
  refine calls_of (N := 17) (rs := [2]) (args := [.agg #[.string r_.key, .slice Ar_1 r_.vers.length cr_1]]) Tryz.func32 rfl Tryz.ntmps32 Tryz.results32 rfl ?_
  obtain ⟨F, hF⟩ : ∃ F : Fm, F = ⟨no, w0, Γ⟩ := ⟨_, rfl⟩
  refine WC.here (C := CC F Γ []) ?_ (hF ▸ Cur.start0 hs)
  refine WC.rs ?_
  refine e_box (v := .agg #[.string r_.key, .slice Ar_1 r_.vers.length cr_1]) rfl rfl rfl rfl (by kernel_rfl) ?_
  intro g1
  refine va rfl rfl rfl (q_assign (v := .bool false) rfl (by kernel_rfl)) ?_
  refine WR.nil ?_
  change WC _ _ _ _ _ _
  refine WC.rs ?_
  refine va rfl rfl rfl (q_fl 0 fld_51_0 rfl rfl rfl) ?_
  refine va rfl rfl rfl (q_ldl (i := 0) (v := .string r_.key) rfl rfl Tryz.isAgg9 rfl rfl) ?_
  refine va rfl rfl rfl (q_sneq rfl rfl rfl) ?_
  refine va rfl rfl rfl (q_move (v := .bool (r_.key != ByteArray.empty)) rfl (by kernel_rfl)) ?_
  refine vg1 rfl rfl rfl rfl rfl (fun hg2 => QV.qo (q_fl 0 fld_51_0 rfl rfl rfl)) ?_
  refine vg1 rfl rfl rfl rfl rfl (fun hg3 => QV.qo (q_ldl (i := 0) (v := .string r_.key) rfl rfl Tryz.isAgg9 (gu hg3 rfl) rfl)) ?_
  refine vg1 rfl rfl rfl rfl rfl (fun hg4 => QV.qo (q_len_str rfl Tryz.underlying9 (gu hg4 rfl))) ?_
  refine vg1 rfl rfl rfl rfl rfl (fun hg5 => QV.qo (q_leq rfl (gu hg5 rfl) rfl)) ?_
  refine va rfl rfl rfl (q_pick rfl rfl (pk_and' (g := (r_.key != ByteArray.empty)) (y := (decide (((r_.key.size : Nat) : Int) ≤ 32))))) ?_
  refine va rfl rfl rfl (q_move (v := .bool ((r_.key != ByteArray.empty) && (decide (((r_.key.size : Nat) : Int) ≤ 32)))) rfl (by kernel_rfl)) ?_
  refine vg1 rfl rfl rfl rfl rfl (fun hg6 => QV.qo (q_fl 1 fld_51_1 rfl rfl rfl)) ?_
  refine vg1 rfl rfl rfl rfl rfl (fun hg7 => QV.qo (q_ldl (i := 0) (v := .slice Ar_1 r_.vers.length cr_1) rfl rfl Tryz.isAgg48 (gu hg7 rfl) rfl)) ?_
  obtain ⟨z9, hz10, h⟩ := bnd h
  refine vg1 rfl rfl rfl rfl rfl (fun hg8 => (q_call (call_run Tryz.call59 rfl rfl (args1 (gu hg8 rfl))) (fun w hw => t_firthref05_Right (Γ := Gh.all w) (hr_.2.2.mono hw.sat.le_all) hr_.2.1 (Sat.all w) (gc_of hz10 hg8)))) ?_
  refine va rfl rfl rfl (q_pick rfl rfl (pk_and' (g := ((r_.key != ByteArray.empty) && (decide (((r_.key.size : Nat) : Int) ≤ 32)))) (y := z9))) ?_
  refine va rfl rfl rfl (q_assign (v := .bool (((r_.key != ByteArray.empty) && (decide (((r_.key.size : Nat) : Int) ≤ 32))) && z9)) rfl (by kernel_rfl)) ?_
  refine WR.nil ?_
  change WC _ _ _ _ _ _
  refine WC.ret ?_
  intro w hw
  obtain rfl := Option.some.inj h
  subst hF
  exact ⟨by kernel_rfl, hw.fr⟩
abbrev r_firthref10_With (r : List Rec) (U : List Rowb) (Γ : Gh) (v : Value) : Prop := ∃ (A0 : Option Addr), ∃ (c0 : Nat), ∃ (row0 : Rowb), v = .slice A0 r.length c0 ∧ U = [row0] ∧ Own recT Γ 51 row0 A0 c0 r ∧ True
set_option maxRecDepth 100000 in
set_option maxHeartbeats 400000 in
theorem t_firthref10_With {Γ : Gh} {w0 : World} {Al : Option Addr} {cl : Nat} {l : List Rec} (hl : Sl recT Γ Al l) (hlc : l.length ≤ cl) {Ar_1 : Option Addr} {cr_1 : Nat} (r_ : Rec) (hr_ : Rec.fits Γ Ar_1 cr_1 r_) (hp : Pre [] Γ w0) {r : List Rec} (h : m_firthref10_With l r_ = some r) : Calls Tryz.prog 33 #[.slice Al l.length cl, .agg #[.string r_.key, .slice Ar_1 r_.vers.length cr_1]] w0 (Outc Γ [] w0 (r_firthref10_With r)) := by
  refine calls_of (N := 56) (rs := [4]) (args := [.slice Al l.length cl, .agg #[.string r_.key, .slice Ar_1 r_.vers.length cr_1]]) Tryz.func33 rfl Tryz.ntmps33 Tryz.results33 rfl ?_
  obtain ⟨F, hF⟩ : ∃ F : Fm, F = ⟨ids [], w0, Γ⟩ := ⟨_, rfl⟩
  refine WC.here (C := CC F Γ []) ?_ (hF ▸ hp.start)
  refine WC.rs ?_
  refine e_box (v := .agg #[.string r_.key, .slice Ar_1 r_.vers.length cr_1]) rfl rfl rfl rfl (by kernel_rfl) ?_
  intro g1
  refine va rfl rfl rfl (q_assign (v := .slice none 0 0) rfl (by kernel_rfl)) ?_
  refine WR.nil ?_
  change WC _ _ _ _ _ _
  refine WC.rs ?_
  refine va rfl rfl rfl (q_assign (v := .slice none 0 0) rfl (by kernel_rfl)) ?_
  refine WR.nil ?_
  change WC _ _ _ _ _ _
  refine WC.rs ?_
  refine va rfl rfl rfl (q_fl 1 fld_51_1 rfl rfl rfl) ?_
  refine va rfl rfl rfl (q_ldl (i := 0) (v := .slice Ar_1 r_.vers.length cr_1) rfl rfl Tryz.isAgg48 rfl rfl) ?_
  refine va rfl rfl rfl (q_len_slice rfl Tryz.underlying48 rfl) ?_
  refine va rfl rfl rfl (q_eql rfl rfl rfl) ?_
  refine va rfl rfl rfl (q_assign (v := .bool (((r_.vers.length : Nat) : Int) == 0)) rfl (by kernel_rfl)) ?_
  refine WR.nil ?_
  change WC _ _ _ _ _ _
  refine WC.seq ?_
  refine WC.rs ?_
  refine va rfl rfl rfl (q_assign (v := .int .i64 0) rfl (by kernel_rfl)) ?_
  refine WR.nil ?_
  change WC _ _ _ _ _ _
  refine WC.block ?_
  refine WC.forI h (fun (i9 : Nat) (s : (List Rec) × Bool) σ w => match s with | (out_2, laid_7) => ∃ (A3 : Option Addr), ∃ (c4 : Nat), ∃ (row5 : Rowb), slots σ [(0, .slice Al l.length cl), (3, .pointer (some ⟨g1, 0, none⟩)), (5, .slice A3 out_2.length c4), (6, .bool laid_7), (7, .int .i64 ((i9 : Nat) : Int))] ∧ CC F Γ [row5, [(g1, .cells #[.string r_.key, .slice Ar_1 r_.vers.length cr_1] 51 (0, 0))]] w ∧ Own recT Γ 51 row5 A3 c4 out_2 ∧ True) ?_ ?_
  · skip
    intro w hw
    have hw := hw.pad
    exact ⟨none, 0, [], (sl_ (by kernel_rfl)), hw, (Own.nil recT _ 51), trivial⟩
  rintro f8 i9 ⟨out_2, laid_7⟩ σ w hi10 hlt11 hge12 ⟨A3, c4, row5, hsl, hw, ho6, -⟩
  refine Wpt.slots hsl ?_
  refine WC.here (C := CC F Γ [row5, [(g1, .cells #[.string r_.key, .slice Ar_1 r_.vers.length cr_1] 51 (0, 0))]]) ?_ hw
  clear hw hsl
  refine WC.seq ?_
  refine WC.rs ?_
  refine va rfl rfl rfl (q_move (v := .int .i64 ((i9 : Nat) : Int)) rfl (by kernel_rfl)) ?_
  refine va rfl rfl rfl (q_move (v := .slice Al l.length cl) rfl (by kernel_rfl)) ?_
  refine va rfl rfl rfl (q_len_slice rfl Tryz.underlying22 rfl) ?_
  refine va rfl rfl rfl (q_lss rfl rfl rfl) ?_
  refine WR.nil ?_
  change WC _ _ _ _ _ _
  refine WC.cond (b := (decide (((i9 : Nat) : Int) < ((l.length : Nat) : Int)))) (by kernel_rfl) (fun hb13 => ?_) (fun hb13 => ?_)
  · skip
    have hl14 := ilt hb13
    have h := hlt11 hl14
    refine WC.skip ?_
    change WC _ _ _ _ _ _
    refine WC.cut (fun σ w => ∃ (out_15 : List Rec), ∃ (laid_20 : Bool), ∃ (A16 : Option Addr), ∃ (c17 : Nat), ∃ (row18 : Rowb), m_firthref10_With_j11 f8 out_15 laid_20 = some r ∧ slots σ [(0, .slice Al l.length cl), (3, .pointer (some ⟨g1, 0, none⟩)), (5, .slice A16 out_15.length c17), (6, .bool laid_20), (7, .int .i64 ((i9 : Nat) : Int))] ∧ CC F Γ [row18, [(g1, .cells #[.string r_.key, .slice Ar_1 r_.vers.length cr_1] 51 (0, 0))]] w ∧ Own recT Γ 51 row18 A16 c17 out_15 ∧ True) ?_ ?_
    · skip
      refine WC.block ?_
      refine WC.seq ?_
      refine WC.seq ?_
      refine WC.dr (by kernel_rfl) (by kernel_rfl) (fun w hw => hw.drawn _) ?_
      refine wa rfl rfl rfl (q_move (v := .slice Al l.length cl) rfl (by kernel_rfl)) ?_
      refine wa rfl rfl rfl (q_move (v := .int .i64 ((i9 : Nat) : Int)) rfl (by kernel_rfl)) ?_
      refine wa rfl rfl rfl (q_ixn (i := i9) Tryz.underlying22 Tryz.sizeOf51 rfl rfl rfl hl14 (hl.some_ hl14)) ?_
      refine wa rfl rfl rfl (q_field_addr (i9 * 2) fld_51_0 rfl rfl (hl.some_ hl14) rfl) ?_
      obtain ⟨A21, c22, hx23⟩ := hl.recT_at i9
      refine wa rfl rfl rfl (q_ld (c := 0) (v := .string (gt l i9).key) (hx23 hl14).2 rfl Tryz.isAgg9 rfl rfl) ?_
      refine wa rfl rfl rfl (q_fl 0 fld_51_0 rfl rfl rfl) ?_
      refine wa rfl rfl rfl (q_ldl (i := 1) (v := .string r_.key) rfl rfl Tryz.isAgg9 rfl rfl) ?_
      refine wa rfl rfl rfl (q_seql rfl rfl rfl) ?_
      refine WQ.nil ?_
      change WC _ _ _ _ _ _
      refine WC.cif h (by kernel_rfl) (fun hb24 h => ?_) (fun hb24 h => ?_)
      · skip
        refine WC.exit ?_
        intro w hw
        exact ⟨out_2, laid_7, A3, c4, row5, h, (sl_ (by kernel_rfl)), hw, ho6, trivial⟩
      · skip
        refine WC.skip ?_
        change WC _ _ _ _ _ _
        refine WC.cut (fun σ w => ∃ (out_25 : List Rec), ∃ (laid_30 : Bool), ∃ (A26 : Option Addr), ∃ (c27 : Nat), ∃ (row28 : Rowb), m_firthref10_With_j13 l f8 i9 out_25 laid_30 = some r ∧ slots σ [(0, .slice Al l.length cl), (3, .pointer (some ⟨g1, 0, none⟩)), (5, .slice A26 out_25.length c27), (6, .bool laid_30), (7, .int .i64 ((i9 : Nat) : Int))] ∧ CC F Γ [row28, [(g1, .cells #[.string r_.key, .slice Ar_1 r_.vers.length cr_1] 51 (0, 0))]] w ∧ Own recT Γ 51 row28 A26 c27 out_25 ∧ True) ?_ ?_
        · skip
          refine WC.seq ?_
          refine WC.dr (by kernel_rfl) (by kernel_rfl) (fun w hw => hw.drawn _) ?_
          refine wa rfl rfl rfl (q_move (v := .bool laid_7) rfl (by kernel_rfl)) ?_
          refine wa rfl rfl rfl (q_not rfl rfl) ?_
          refine wa rfl rfl rfl (q_move (v := .bool (!laid_7)) rfl (by kernel_rfl)) ?_
          refine wg1 rfl rfl rfl rfl rfl (fun hg31 => QV.qo (q_fl 0 fld_51_0 rfl rfl rfl)) ?_
          refine wg1 rfl rfl rfl rfl rfl (fun hg32 => QV.qo (q_ldl (i := 1) (v := .string r_.key) rfl rfl Tryz.isAgg9 (gu hg32 rfl) rfl)) ?_
          refine wg1 rfl rfl rfl rfl rfl (fun hg33 => QV.qo (q_move (v := .slice Al l.length cl) rfl (by kernel_rfl))) ?_
          refine wg1 rfl rfl rfl rfl rfl (fun hg34 => QV.qo (q_move (v := .int .i64 ((i9 : Nat) : Int)) rfl (by kernel_rfl))) ?_
          refine wg1 rfl rfl rfl rfl rfl (fun hg35 => QV.qo (q_ixn (i := i9) Tryz.underlying22 Tryz.sizeOf51 rfl (gu hg35 rfl) (gu hg35 rfl) hl14 (hl.some_ hl14))) ?_
          refine wg1 rfl rfl rfl rfl rfl (fun hg36 => QV.qo (q_field_addr (i9 * 2) fld_51_0 rfl (gu hg36 rfl) (hl.some_ hl14) rfl)) ?_
          refine wg1 rfl rfl rfl rfl rfl (fun hg37 => QV.qo (q_ld (c := 0) (v := .string (gt l i9).key) (hx23 hl14).2 rfl Tryz.isAgg9 (gu hg37 rfl) rfl)) ?_
          refine wg1 rfl rfl rfl rfl rfl (fun hg38 => QV.qo (q_slss rfl (gu hg38 rfl) (gu hg38 rfl))) ?_
          refine wa rfl rfl rfl (q_pick rfl rfl (pk_and' (g := (!laid_7)) (y := (strLt r_.key ((gt l i9).key))))) ?_
          refine WQ.nil ?_
          change WC _ _ _ _ _ _
          refine WC.cif h (by kernel_rfl) (fun hb39 h => ?_) (fun hb39 h => ?_)
          · skip
            refine WC.rs ?_
            refine va rfl rfl rfl (q_move (v := .slice A3 out_2.length c4) rfl (by kernel_rfl)) ?_
            refine va rfl rfl rfl (q_ldla (i := 1) (vs := [.string r_.key, .slice Ar_1 r_.vers.length cr_1]) rfl rfl Tryz.isAgg51 Tryz.sizeOf51 rfl rfl) ?_
            refine e_buildSlice (cs := #[.string r_.key, .slice Ar_1 r_.vers.length cr_1]) (e := 51) rfl rfl rfl rfl (fun w => by kernel_rfl) ?_
            intro g40
            obtain ⟨hk41, h⟩ := chk_some h
            refine e_append (T := recT) (xs := out_2) (ys := [r_]) elem_22 (i := 1) rfl rfl rfl rfl rfl rfl rfl ho6 (of_decide_eq_true hk41) (fun w hw => src_one (T := recT) (y := r_) (i := 0) rfl (by exact ⟨Ar_1, cr_1, rfl, hr_⟩) hw) ?_
            intro row42 A43 c44 ho45
            refine va rfl rfl rfl (q_assign (v := .slice A43 (out_2 ++ [r_]).length c44) rfl (by kernel_rfl)) ?_
            refine WR.nil ?_
            change WC _ _ _ _ _ _
            refine WC.region ?_
            refine va rfl rfl rfl (q_assign (v := .bool true) rfl (by kernel_rfl)) ?_
            refine WR.nil ?_
            intro w hw
            exact ⟨(out_2 ++ [r_]), true, A43, c44, row42, h, (sl_ (by kernel_rfl)), (hw.only (is := [1, 1]) rfl), ho45, trivial⟩
          · skip
            refine WC.skip ?_
            intro w hw
            exact ⟨out_2, laid_7, A3, c4, row5, h, (sl_ (by kernel_rfl)), hw, ho6, trivial⟩
        · skip
          rintro σ w ⟨out_25, laid_30, A26, c27, row28, h, hsl, hw, ho29, -⟩
          refine Wpt.slots hsl ?_
          refine WC.here (C := CC F Γ [row28, [(g1, .cells #[.string r_.key, .slice Ar_1 r_.vers.length cr_1] 51 (0, 0))]]) ?_ hw
          clear hw hsl
          refine WC.region ?_
          refine va rfl rfl rfl (q_move (v := .slice A26 out_25.length c27) rfl (by kernel_rfl)) ?_
          refine va rfl rfl rfl (q_move (v := .slice Al l.length cl) rfl (by kernel_rfl)) ?_
          refine va rfl rfl rfl (q_move (v := .int .i64 ((i9 : Nat) : Int)) rfl (by kernel_rfl)) ?_
          refine va rfl rfl rfl (q_ixn (i := i9) Tryz.underlying22 Tryz.sizeOf51 rfl rfl rfl hl14 (hl.some_ hl14)) ?_
          obtain ⟨A46, c47, hx48⟩ := hl.recT_at i9
          refine va rfl rfl rfl (q_lda (c := 0) (vs := [.string (gt l i9).key, .slice A46 ((gt l i9).vers).length c47]) (hx48 hl14).2 rfl Tryz.isAgg51 Tryz.sizeOf51 rfl rfl rfl) ?_
          refine e_buildSlice (cs := #[.string (gt l i9).key, .slice A46 ((gt l i9).vers).length c47]) (e := 51) rfl rfl rfl rfl (fun w => by kernel_rfl) ?_
          intro g49
          obtain ⟨hk50, h⟩ := chk_some h
          refine e_append (T := recT) (xs := out_25) (ys := [(gt l i9)]) elem_22 (i := 1) rfl rfl rfl rfl rfl rfl rfl ho29 (of_decide_eq_true hk50) (fun w hw => src_one (T := recT) (y := (gt l i9)) (i := 0) rfl (by exact ⟨A46, c47, rfl, (hx48 hl14).1⟩) hw) ?_
          intro row51 A52 c53 ho54
          refine va rfl rfl rfl (q_assign (v := .slice A52 (out_25 ++ [(gt l i9)]).length c53) rfl (by kernel_rfl)) ?_
          refine WR.nil ?_
          intro w hw
          exact ⟨(out_25 ++ [(gt l i9)]), laid_30, A52, c53, row51, h, (sl_ (by kernel_rfl)), (hw.only (is := [1, 1]) rfl), ho54, trivial⟩
    · skip
      rintro σ w ⟨out_15, laid_20, A16, c17, row18, h, hsl, hw, ho19, -⟩
      refine Wpt.slots hsl ?_
      refine WC.here (C := CC F Γ [row18, [(g1, .cells #[.string r_.key, .slice Ar_1 r_.vers.length cr_1] 51 (0, 0))]]) ?_ hw
      clear hw hsl
      refine WC.region ?_
      refine va rfl rfl rfl (q_move (v := .int .i64 ((i9 : Nat) : Int)) rfl (by kernel_rfl)) ?_
      refine va rfl rfl rfl (q_add_r (r := ((i9 + 1 : Nat) : Int)) rfl rfl rfl (ctr_len hl14 hl.le)) ?_
      refine va rfl rfl rfl (q_assign (v := .int .i64 ((i9 + 1 : Nat) : Int)) rfl (by kernel_rfl)) ?_
      refine WR.nil ?_
      intro w hw
      exact ⟨hl14, (out_15, laid_20), h, A16, c17, row18, (sl_ (by kernel_rfl)), hw, ho19, trivial⟩
  · skip
    have h := hge12 (ige hb13)
    refine WC.exit ?_
    change WC _ _ _ _ _ _
    refine WC.seq ?_
    refine WC.rs ?_
    refine va rfl rfl rfl (q_move (v := .bool laid_7) rfl (by kernel_rfl)) ?_
    refine va rfl rfl rfl (q_not rfl rfl) ?_
    refine WR.nil ?_
    change WC _ _ _ _ _ _
    refine WC.cif h (by kernel_rfl) (fun hb55 h => ?_) (fun hb55 h => ?_)
    · skip
      refine WC.region ?_
      refine va rfl rfl rfl (q_move (v := .slice A3 out_2.length c4) rfl (by kernel_rfl)) ?_
      refine va rfl rfl rfl (q_ldla (i := 1) (vs := [.string r_.key, .slice Ar_1 r_.vers.length cr_1]) rfl rfl Tryz.isAgg51 Tryz.sizeOf51 rfl rfl) ?_
      refine e_buildSlice (cs := #[.string r_.key, .slice Ar_1 r_.vers.length cr_1]) (e := 51) rfl rfl rfl rfl (fun w => by kernel_rfl) ?_
      intro g56
      obtain ⟨hk57, h⟩ := chk_some h
      refine e_append (T := recT) (xs := out_2) (ys := [r_]) elem_22 (i := 1) rfl rfl rfl rfl rfl rfl rfl ho6 (of_decide_eq_true hk57) (fun w hw => src_one (T := recT) (y := r_) (i := 0) rfl (by exact ⟨Ar_1, cr_1, rfl, hr_⟩) hw) ?_
      intro row58 A59 c60 ho61
      refine va rfl rfl rfl (q_assign (v := .slice A59 (out_2 ++ [r_]).length c60) rfl (by kernel_rfl)) ?_
      refine WR.nil ?_
      change WC _ _ _ _ _ _
      refine WC.rs ?_
      refine va rfl rfl rfl (q_move (v := .slice A59 (out_2 ++ [r_]).length c60) rfl (by kernel_rfl)) ?_
      refine va rfl rfl rfl (q_assign (v := .slice A59 (out_2 ++ [r_]).length c60) rfl (by kernel_rfl)) ?_
      refine WR.nil ?_
      change WC _ _ _ _ _ _
      refine WC.ret ?_
      intro w hw
      obtain rfl := Option.some.inj h
      subst hF
      exact end_e (is := [1]) (by kernel_rfl) hw rfl ⟨A59, c60, row58, rfl, rfl, ho61, trivial⟩
    · skip
      refine WC.skip ?_
      change WC _ _ _ _ _ _
      refine WC.rs ?_
      refine va rfl rfl rfl (q_move (v := .slice A3 out_2.length c4) rfl (by kernel_rfl)) ?_
      refine va rfl rfl rfl (q_assign (v := .slice A3 out_2.length c4) rfl (by kernel_rfl)) ?_
      refine WR.nil ?_
      change WC _ _ _ _ _ _
      refine WC.ret ?_
      intro w hw
      obtain rfl := Option.some.inj h
      subst hF
      exact end_e (is := [0]) (by kernel_rfl) hw rfl ⟨A3, c4, row5, rfl, rfl, ho6, trivial⟩
abbrev r_firthref14_Held (r : (List Rec) × Bool) (U : List Rowb) (Γ : Gh) (v : Value) : Prop := ∃ (A0 : Option Addr), ∃ (c0 : Nat), ∃ (row0 : Rowb), v = .tuple #[.slice A0 r.1.length c0, .bool r.2] ∧ U = [row0] ∧ Own recT Γ 51 row0 A0 c0 r.1 ∧ True
set_option maxRecDepth 100000 in
set_option maxHeartbeats 400000 in
theorem t_firthref14_Held {Γ : Gh} {w0 : World} {Al : Option Addr} {cl : Nat} {l : List Rec} (hl : Sl recT Γ Al l) (hlc : l.length ≤ cl) (hp : Pre [] Γ w0) {r : (List Rec) × Bool} (h : m_firthref14_Held l = some r) : Calls Tryz.prog 10 #[.slice Al l.length cl] w0 (Outc Γ [] w0 (r_firthref14_Held r)) := by
  refine calls_of (N := 25) (rs := [2, 3]) (args := [.slice Al l.length cl]) Tryz.func10 rfl Tryz.ntmps10 Tryz.results10 rfl ?_
  obtain ⟨F, hF⟩ : ∃ F : Fm, F = ⟨ids [], w0, Γ⟩ := ⟨_, rfl⟩
  refine WC.here (C := CC F Γ []) ?_ (hF ▸ hp.start)
  refine WC.rs ?_
  refine va rfl rfl rfl (q_assign (v := .slice none 0 0) rfl (by kernel_rfl)) ?_
  refine va rfl rfl rfl (q_assign (v := .bool false) rfl (by kernel_rfl)) ?_
  refine WR.nil ?_
  change WC _ _ _ _ _ _
  refine WC.rs ?_
  refine va rfl rfl rfl (q_assign (v := .slice none 0 0) rfl (by kernel_rfl)) ?_
  refine WR.nil ?_
  change WC _ _ _ _ _ _
  refine WC.seq ?_
  refine WC.rs ?_
  refine va rfl rfl rfl (q_assign (v := .int .i64 0) rfl (by kernel_rfl)) ?_
  refine WR.nil ?_
  change WC _ _ _ _ _ _
  refine WC.block ?_
  refine WC.forI h (fun (i9 : Nat) (out_3 : List Rec) σ w => ∃ (Γ1 : Gh), ∃ (A4 : Option Addr), ∃ (c5 : Nat), ∃ (row6 : Rowb), slots σ [(0, .slice Al l.length cl), (4, .slice A4 out_3.length c5), (5, .int .i64 ((i9 : Nat) : Int))] ∧ CC F Γ1 [row6] w ∧ Gh.le Γ Γ1 ∧ Own recT Γ1 51 row6 A4 c5 out_3 ∧ True) ?_ ?_
  · skip
    intro w hw
    have hw := hw.pad
    exact ⟨Γ, none, 0, [], (sl_ (by kernel_rfl)), hw, (Gh.refl _), (Own.nil recT _ 51), trivial⟩
  rintro f8 i9 out_3 σ w hi10 hlt11 hge12 ⟨Γ1, A4, c5, row6, hsl, hw, hl2, ho7, -⟩
  refine Wpt.slots hsl ?_
  refine WC.here (C := CC F Γ1 [row6]) ?_ hw
  clear hw hsl
  refine WC.seq ?_
  refine WC.rs ?_
  refine va rfl rfl rfl (q_move (v := .int .i64 ((i9 : Nat) : Int)) rfl (by kernel_rfl)) ?_
  refine va rfl rfl rfl (q_move (v := .slice Al l.length cl) rfl (by kernel_rfl)) ?_
  refine va rfl rfl rfl (q_len_slice rfl Tryz.underlying22 rfl) ?_
  refine va rfl rfl rfl (q_lss rfl rfl rfl) ?_
  refine WR.nil ?_
  change WC _ _ _ _ _ _
  refine WC.cond (b := (decide (((i9 : Nat) : Int) < ((l.length : Nat) : Int)))) (by kernel_rfl) (fun hb13 => ?_) (fun hb13 => ?_)
  · skip
    have hl14 := ilt hb13
    have h := hlt11 hl14
    refine WC.skip ?_
    change WC _ _ _ _ _ _
    refine WC.seq ?_
    refine WC.block ?_
    refine WC.seq ?_
    refine WC.rs ?_
    refine va rfl rfl rfl (q_move (v := .slice Al l.length cl) rfl (by kernel_rfl)) ?_
    refine va rfl rfl rfl (q_move (v := .int .i64 ((i9 : Nat) : Int)) rfl (by kernel_rfl)) ?_
    refine va rfl rfl rfl (q_ixn (i := i9) Tryz.underlying22 Tryz.sizeOf51 rfl rfl rfl hl14 ((hl.mono hl2).some_ hl14)) ?_
    obtain ⟨A15, c16, hx17⟩ := (hl.mono hl2).recT_at i9
    refine va rfl rfl rfl (q_lda (c := 0) (vs := [.string (gt l i9).key, .slice A15 ((gt l i9).vers).length c16]) (hx17 hl14).2 rfl Tryz.isAgg51 Tryz.sizeOf51 rfl rfl rfl) ?_
    obtain ⟨z18, hz19, h⟩ := bnd h
    refine vc rfl rfl rfl (q_call (call_run Tryz.call32 rfl rfl (by kernel_rfl)) (fun w hw => t_firthref06_RightRec (Γ := Gh.all w) (gt l i9) (Rec.fits_mono (hx17 hl14).1 hw.sat.le_all) (Sat.all w) hz19)) ?_
    refine va rfl rfl rfl (q_not rfl rfl) ?_
    refine WR.nil ?_
    change WC _ _ _ _ _ _
    refine WC.cif h (by kernel_rfl) (fun hb20 h => ?_) (fun hb20 h => ?_)
    · skip
      refine WC.rs ?_
      refine va rfl rfl rfl (q_assign (v := .slice none 0 0) rfl (by kernel_rfl)) ?_
      refine va rfl rfl rfl (q_assign (v := .bool false) rfl (by kernel_rfl)) ?_
      refine WR.nil ?_
      change WC _ _ _ _ _ _
      refine WC.ret ?_
      intro w hw
      have hw := hw.pad
      obtain rfl := Option.some.inj h
      subst hF
      exact end_e (is := [0]) (by kernel_rfl) hw rfl ⟨none, 0, [], rfl, rfl, (Own.nil recT _ 51), trivial⟩
    · skip
      refine WC.skip ?_
      change WC _ _ _ _ _ _
      refine WC.region ?_
      refine va rfl rfl rfl (q_move (v := .slice A4 out_3.length c5) rfl (by kernel_rfl)) ?_
      refine va rfl rfl rfl (q_move (v := .slice Al l.length cl) rfl (by kernel_rfl)) ?_
      refine va rfl rfl rfl (q_move (v := .int .i64 ((i9 : Nat) : Int)) rfl (by kernel_rfl)) ?_
      refine va rfl rfl rfl (q_ixn (i := i9) Tryz.underlying22 Tryz.sizeOf51 rfl rfl rfl hl14 ((hl.mono hl2).some_ hl14)) ?_
      refine va rfl rfl rfl (q_lda (c := 0) (vs := [.string (gt l i9).key, .slice A15 ((gt l i9).vers).length c16]) (hx17 hl14).2 rfl Tryz.isAgg51 Tryz.sizeOf51 rfl rfl rfl) ?_
      have hc25 := ho7.capz
      intro w hw; obtain ⟨Γ21, hw, hl22, hr23⟩ := hw.seal (i := 0) rfl; have hs24 := ho7.sl hl22 hr23
      refine WR.here (C := CC F Γ21 [[]]) ?_ hw
      clear hw
      obtain ⟨z26, hz27, h⟩ := bnd h
      refine e_call (is := []) rfl rfl (call_run Tryz.call33 rfl rfl (by kernel_rfl)) rfl (fun w hp => t_firthref10_With hs24 hc25 (gt l i9) (Rec.fits_mono (hx17 hl14).1 hl22) hp hz27) ?_
      rintro Γ28 U30 v31 hl29 ⟨A32, c33, row34, rfl, rfl, hr35, _⟩
      change WR _ _ _ (CC F Γ28 [row34, []]) _ _ (upd _ 23 (.slice A32 z26.length c33))
      refine va rfl rfl rfl (q_assign (v := .slice A32 z26.length c33) rfl (by kernel_rfl)) ?_
      refine WR.nil ?_
      change WC _ _ _ _ _ _
      refine WC.region ?_
      refine va rfl rfl rfl (q_move (v := .int .i64 ((i9 : Nat) : Int)) rfl (by kernel_rfl)) ?_
      refine va rfl rfl rfl (q_add_r (r := ((i9 + 1 : Nat) : Int)) rfl rfl rfl (ctr_len hl14 (hl.mono hl2).le)) ?_
      refine va rfl rfl rfl (q_assign (v := .int .i64 ((i9 + 1 : Nat) : Int)) rfl (by kernel_rfl)) ?_
      refine WR.nil ?_
      intro w hw
      exact ⟨hl14, z26, h, Γ28, A32, c33, row34, (sl_ (by kernel_rfl)), (hw.only (is := [0]) rfl), ((hl2.trans hl22).trans hl29), hr35, trivial⟩
  · skip
    have h := hge12 (ige hb13)
    refine WC.exit ?_
    change WC _ _ _ _ _ _
    refine WC.rs ?_
    refine va rfl rfl rfl (q_move (v := .slice A4 out_3.length c5) rfl (by kernel_rfl)) ?_
    refine va rfl rfl rfl (q_assign (v := .slice A4 out_3.length c5) rfl (by kernel_rfl)) ?_
    refine va rfl rfl rfl (q_assign (v := .bool true) rfl (by kernel_rfl)) ?_
    refine WR.nil ?_
    change WC _ _ _ _ _ _
    refine WC.ret ?_
    intro w hw
    obtain rfl := Option.some.inj h
    subst hF
    exact end_e (is := [0]) (by kernel_rfl) hw rfl ⟨A4, c5, row6, rfl, rfl, ho7, trivial⟩
set_option maxRecDepth 100000 in
set_option maxHeartbeats 400000 in
theorem t_firthref11_Path {Γ : Gh} {w0 : World} {Apath : Option Addr} {cpath : Nat} {path : List Int} (hpath : Sl intT Γ Apath path) (hpathc : path.length ≤ cpath) (hs : Sat Γ w0) {r : Bool} (h : m_firthref11_Path path = some r) : Calls Tryz.prog 34 #[.slice Apath path.length cpath] w0 (fun e w' => e = .returned (.bool r) ∧ Fr no w0 w') := by
  refine calls_of (N := 25) (rs := [2]) (args := [.slice Apath path.length cpath]) Tryz.func34 rfl Tryz.ntmps34 Tryz.results34 rfl ?_
  obtain ⟨F, hF⟩ : ∃ F : Fm, F = ⟨no, w0, Γ⟩ := ⟨_, rfl⟩
  refine WC.here (C := CC F Γ []) ?_ (hF ▸ Cur.start0 hs)
  refine WC.rs ?_
  refine va rfl rfl rfl (q_assign (v := .bool false) rfl (by kernel_rfl)) ?_
  refine WR.nil ?_
  change WC _ _ _ _ _ _
  refine WC.seq ?_
  refine WC.rs ?_
  refine va rfl rfl rfl (q_assign (v := .int .i64 0) rfl (by kernel_rfl)) ?_
  refine WR.nil ?_
  change WC _ _ _ _ _ _
  refine WC.block ?_
  refine WC.forI h (fun (i2 : Nat) (s : Unit) σ w => match s with | () => slots σ [(0, .slice Apath path.length cpath), (3, .int .i64 ((i2 : Nat) : Int))] ∧ CC F Γ [] w ∧ True) ?_ ?_
  · skip
    intro w hw
    exact ⟨(sl_ (by kernel_rfl)), hw, trivial⟩
  rintro f1 i2 ⟨⟩ σ w hi3 hlt4 hge5 ⟨hsl, hw, -⟩
  refine Wpt.slots hsl ?_
  refine WC.here (C := CC F Γ []) ?_ hw
  clear hw hsl
  refine WC.seq ?_
  refine WC.rs ?_
  refine va rfl rfl rfl (q_move (v := .int .i64 ((i2 : Nat) : Int)) rfl (by kernel_rfl)) ?_
  refine va rfl rfl rfl (q_move (v := .slice Apath path.length cpath) rfl (by kernel_rfl)) ?_
  refine va rfl rfl rfl (q_len_slice rfl Tryz.underlying23 rfl) ?_
  refine va rfl rfl rfl (q_lss rfl rfl rfl) ?_
  refine WR.nil ?_
  change WC _ _ _ _ _ _
  refine WC.cond (b := (decide (((i2 : Nat) : Int) < ((path.length : Nat) : Int)))) (by kernel_rfl) (fun hb6 => ?_) (fun hb6 => ?_)
  · skip
    have hl7 := ilt hb6
    have h := hlt4 hl7
    refine WC.skip ?_
    change WC _ _ _ _ _ _
    refine WC.seq ?_
    refine WC.block ?_
    refine WC.rs ?_
    refine va rfl rfl rfl (q_move (v := .slice Apath path.length cpath) rfl (by kernel_rfl)) ?_
    refine va rfl rfl rfl (q_move (v := .int .i64 ((i2 : Nat) : Int)) rfl (by kernel_rfl)) ?_
    refine va rfl rfl rfl (q_ixn (i := i2) Tryz.underlying23 Tryz.sizeOf3 rfl rfl rfl hl7 (hpath.some_ hl7)) ?_
    refine va rfl rfl rfl (q_ld (c := 0) (v := .int .i64 (gt path i2)) (hpath.intT_at hl7).2 rfl Tryz.isAgg3 rfl rfl) ?_
    refine va rfl rfl rfl (q_lss rfl rfl rfl) ?_
    refine va rfl rfl rfl (q_move (v := .bool (decide ((gt path i2) < 0))) rfl (by kernel_rfl)) ?_
    refine vg0 rfl rfl rfl rfl rfl (fun hg8 => QV.qo (q_move (v := .slice Apath path.length cpath) rfl (by kernel_rfl))) ?_
    refine vg0 rfl rfl rfl rfl rfl (fun hg9 => QV.qo (q_move (v := .int .i64 ((i2 : Nat) : Int)) rfl (by kernel_rfl))) ?_
    refine vg0 rfl rfl rfl rfl rfl (fun hg10 => QV.qo (q_ixn (i := i2) Tryz.underlying23 Tryz.sizeOf3 rfl (gu hg10 rfl) (gu hg10 rfl) hl7 (hpath.some_ hl7))) ?_
    refine vg0 rfl rfl rfl rfl rfl (fun hg11 => QV.qo (q_ld (c := 0) (v := .int .i64 (gt path i2)) (hpath.intT_at hl7).2 rfl Tryz.isAgg3 (gu hg11 rfl) rfl)) ?_
    refine vg0 rfl rfl rfl rfl rfl (fun hg12 => QV.qo (q_gtr rfl (gu hg12 rfl) rfl)) ?_
    refine va rfl rfl rfl (q_pick rfl rfl (pk_or' (g := (decide ((gt path i2) < 0))) (y := (decide (15 < (gt path i2)))))) ?_
    refine WR.nil ?_
    change WC _ _ _ _ _ _
    refine WC.cif h (by kernel_rfl) (fun hb13 h => ?_) (fun hb13 h => ?_)
    · skip
      refine WC.rs ?_
      refine va rfl rfl rfl (q_assign (v := .bool false) rfl (by kernel_rfl)) ?_
      refine WR.nil ?_
      change WC _ _ _ _ _ _
      refine WC.ret ?_
      intro w hw
      obtain rfl := Option.some.inj h
      subst hF
      exact ⟨by kernel_rfl, hw.fr⟩
    · skip
      refine WC.skip ?_
      change WC _ _ _ _ _ _
      refine WC.region ?_
      refine va rfl rfl rfl (q_move (v := .int .i64 ((i2 : Nat) : Int)) rfl (by kernel_rfl)) ?_
      refine va rfl rfl rfl (q_add_r (r := ((i2 + 1 : Nat) : Int)) rfl rfl rfl (ctr_len hl7 hpath.le)) ?_
      refine va rfl rfl rfl (q_assign (v := .int .i64 ((i2 + 1 : Nat) : Int)) rfl (by kernel_rfl)) ?_
      refine WR.nil ?_
      intro w hw
      exact ⟨hl7, (), h, (sl_ (by kernel_rfl)), hw, trivial⟩
  · skip
    have h := hge5 (ige hb6)
    refine WC.exit ?_
    change WC _ _ _ _ _ _
    refine WC.rs ?_
    refine va rfl rfl rfl (q_move (v := .slice Apath path.length cpath) rfl (by kernel_rfl)) ?_
    refine va rfl rfl rfl (q_len_slice rfl Tryz.underlying23 rfl) ?_
    refine va rfl rfl rfl (q_leq rfl rfl rfl) ?_
    refine va rfl rfl rfl (q_assign (v := .bool (decide (((path.length : Nat) : Int) ≤ 2))) rfl (by kernel_rfl)) ?_
    refine WR.nil ?_
    change WC _ _ _ _ _ _
    refine WC.ret ?_
    intro w hw
    obtain rfl := Option.some.inj h
    subst hF
    exact ⟨by kernel_rfl, hw.fr⟩
abbrev r_firthref11_longer (r : List Int) (U : List Rowb) (Γ : Gh) (v : Value) : Prop := ∃ (A0 : Option Addr), ∃ (c0 : Nat), ∃ (row0 : Rowb), v = .slice A0 r.length c0 ∧ U = [row0] ∧ Own intT Γ 3 row0 A0 c0 r ∧ True
set_option maxRecDepth 100000 in
set_option maxHeartbeats 400000 in
theorem t_firthref11_longer {Γ : Gh} {w0 : World} {Apath : Option Addr} {cpath : Nat} {path : List Int} (hpath : Sl intT Γ Apath path) (hpathc : path.length ≤ cpath) (d : Int) (hd : I64 d) (hp : Pre [] Γ w0) {r : List Int} (h : m_firthref11_longer path d = some r) : Calls Tryz.prog 36 #[.slice Apath path.length cpath, .int .i64 d] w0 (Outc Γ [] w0 (r_firthref11_longer r)) := by
  refine calls_of (N := 13) (rs := [4]) (args := [.slice Apath path.length cpath, .int .i64 d]) Tryz.func36 rfl Tryz.ntmps36 Tryz.results36 rfl ?_
  obtain ⟨F, hF⟩ : ∃ F : Fm, F = ⟨ids [], w0, Γ⟩ := ⟨_, rfl⟩
  refine WC.here (C := CC F Γ []) ?_ (hF ▸ hp.start)
  refine WC.rs ?_
  refine va rfl rfl rfl (q_assign (v := .slice none 0 0) rfl (by kernel_rfl)) ?_
  refine WR.nil ?_
  change WC _ _ _ _ _ _
  refine WC.rs ?_
  refine va rfl rfl rfl (q_assign (v := .slice none 0 0) rfl (by kernel_rfl)) ?_
  refine WR.nil ?_
  change WC _ _ _ _ _ _
  refine WC.rs ?_
  refine va rfl rfl rfl (q_move (v := .slice none 0 0) rfl (by kernel_rfl)) ?_
  refine va rfl rfl rfl (q_move (v := .slice Apath path.length cpath) rfl (by kernel_rfl)) ?_
  refine WR.sub (fun w hw => hw.pad) ?_
  obtain ⟨hk1, h⟩ := chk_some h
  refine e_append (T := intT) (xs := []) (ys := path) elem_23 (i := 0) rfl rfl rfl rfl (by kernel_rfl) rfl rfl (Own.nil intT Γ 3) (of_decide_eq_true hk1) (fun w hw => src_sl hpath hw) ?_
  intro row2 A3 c4 ho5
  refine va rfl rfl rfl (q_assign (v := .slice A3 path.length c4) rfl (by kernel_rfl)) ?_
  refine WR.nil ?_
  change WC _ _ _ _ _ _
  refine WC.rs ?_
  refine va rfl rfl rfl (q_move (v := .slice A3 path.length c4) rfl (by kernel_rfl)) ?_
  refine va rfl rfl rfl (q_move (v := .int .i64 d) rfl (by kernel_rfl)) ?_
  refine e_buildSlice (cs := #[.int .i64 d]) (e := 3) rfl rfl rfl rfl (fun w => by kernel_rfl) ?_
  intro g6
  obtain ⟨hk7, h⟩ := chk_some h
  refine e_append (T := intT) (xs := path) (ys := [d]) elem_23 (i := 1) rfl rfl rfl rfl rfl rfl rfl ho5 (of_decide_eq_true hk7) (fun w hw => src_one (T := intT) (y := d) (i := 0) rfl (by exact ⟨rfl, hd⟩) hw) ?_
  intro row8 A9 c10 ho11
  refine va rfl rfl rfl (q_assign (v := .slice A9 (path ++ [d]).length c10) rfl (by kernel_rfl)) ?_
  refine WR.nil ?_
  change WC _ _ _ _ _ _
  refine WC.ret ?_
  intro w hw
  obtain rfl := Option.some.inj h
  subst hF
  exact end_e (is := [1]) (by kernel_rfl) hw rfl ⟨A9, c10, row8, rfl, rfl, ho11, trivial⟩
abbrev r_firthref11_Recs (r : List Rec) (U : List Rowb) (Γ : Gh) (v : Value) : Prop := ∃ (A0 : Option Addr), ∃ (c0 : Nat), ∃ (row0 : Rowb), v = .slice A0 r.length c0 ∧ U = [row0] ∧ Own recT Γ 51 row0 A0 c0 r ∧ True
set_option maxRecDepth 100000 in
set_option maxHeartbeats 400000 in
theorem t_firthref11_Recs {Γ : Gh} {w0 : World} {Aall : Option Addr} {call : Nat} {all : List Rec} (hall : Sl recT Γ Aall all) (hallc : all.length ≤ call) {Apath : Option Addr} {cpath : Nat} {path : List Int} (hpath : Sl intT Γ Apath path) (hpathc : path.length ≤ cpath) (hp : Pre [] Γ w0) {r : List Rec} (h : m_firthref11_Recs all path = some r) : Calls Tryz.prog 45 #[.slice Aall all.length call, .slice Apath path.length cpath] w0 (Outc Γ [] w0 (r_firthref11_Recs r)) := by
  refine calls_of (N := 53) (rs := [4]) (args := [.slice Aall all.length call, .slice Apath path.length cpath]) Tryz.func45 rfl Tryz.ntmps45 Tryz.results45 rfl ?_
  obtain ⟨F, hF⟩ : ∃ F : Fm, F = ⟨ids [], w0, Γ⟩ := ⟨_, rfl⟩
  refine WC.here (C := CC F Γ []) ?_ (hF ▸ hp.start)
  refine WC.rs ?_
  refine va rfl rfl rfl (q_assign (v := .slice none 0 0) rfl (by kernel_rfl)) ?_
  refine WR.nil ?_
  change WC _ _ _ _ _ _
  refine WC.rs ?_
  refine va rfl rfl rfl (q_assign (v := .slice none 0 0) rfl (by kernel_rfl)) ?_
  refine WR.nil ?_
  change WC _ _ _ _ _ _
  refine WC.seq ?_
  refine WC.rs ?_
  refine va rfl rfl rfl (q_assign (v := .int .i64 0) rfl (by kernel_rfl)) ?_
  refine WR.nil ?_
  change WC _ _ _ _ _ _
  refine WC.block ?_
  refine WC.loopN h (fun (s : (List Rec) × Int) σ w => match s with | (out_3, i_8) => ∃ (Γ1 : Gh), ∃ (A4 : Option Addr), ∃ (c5 : Nat), ∃ (row6 : Rowb), slots σ [(0, .slice Aall all.length call), (1, .slice Apath path.length cpath), (5, .slice A4 out_3.length c5), (6, .int .i64 i_8)] ∧ CC F Γ1 [row6] w ∧ Gh.le Γ Γ1 ∧ Own recT Γ1 51 row6 A4 c5 out_3 ∧ I64 i_8 ∧ True) ?_ ?_
  · skip
    intro w hw
    have hw := hw.pad
    exact ⟨Γ, none, 0, [], (sl_ (by kernel_rfl)), hw, (Gh.refl _), (Own.nil recT _ 51), (show I64 0 by decide), trivial⟩
  rintro f10 ⟨out_3, i_8⟩ σ w h ⟨Γ1, A4, c5, row6, hsl, hw, hl2, ho7, hr9, -⟩
  refine Wpt.slots hsl ?_
  refine WC.here (C := CC F Γ1 [row6]) ?_ hw
  clear hw hsl
  refine WC.seq ?_
  refine WC.rs ?_
  refine va rfl rfl rfl (q_move (v := .int .i64 i_8) rfl (by kernel_rfl)) ?_
  refine va rfl rfl rfl (q_move (v := .slice Aall all.length call) rfl (by kernel_rfl)) ?_
  refine va rfl rfl rfl (q_len_slice rfl Tryz.underlying22 rfl) ?_
  refine va rfl rfl rfl (q_lss rfl rfl rfl) ?_
  refine va rfl rfl rfl (q_move (v := .bool (decide (i_8 < ((all.length : Nat) : Int)))) rfl (by kernel_rfl)) ?_
  refine vg1 rfl rfl rfl rfl rfl (fun hg14 => QV.qo (q_move (v := .slice Apath path.length cpath) rfl (by kernel_rfl))) ?_
  obtain ⟨z16, hz17, h⟩ := bnd h
  refine vg1 rfl rfl rfl rfl rfl (fun hg15 => (q_call (call_run Tryz.call34 rfl rfl (args1 (gu hg15 rfl))) (fun w hw => t_firthref11_Path (Γ := Gh.all w) ((hpath.mono hl2).mono hw.sat.le_all) hpathc (Sat.all w) (gc_of hz17 hg15)))) ?_
  refine va rfl rfl rfl (q_pick rfl rfl (pk_and' (g := (decide (i_8 < ((all.length : Nat) : Int)))) (y := z16))) ?_
  refine WR.nil ?_
  change WC _ _ _ _ _ _
  refine WC.cif h (by kernel_rfl) (fun hb18 h => ?_) (fun hb18 h => ?_)
  · skip
    refine WC.skip ?_
    change WC _ _ _ _ _ _
    refine WC.cut (fun σ w => ∃ (out_21 : List Rec), ∃ (Γ19 : Gh), ∃ (A22 : Option Addr), ∃ (c23 : Nat), ∃ (row24 : Rowb), m_firthref11_Recs_j11 i_8 f10 out_21 = some r ∧ slots σ [(0, .slice Aall all.length call), (1, .slice Apath path.length cpath), (5, .slice A22 out_21.length c23), (6, .int .i64 i_8)] ∧ CC F Γ19 [row24] w ∧ Gh.le Γ1 Γ19 ∧ Own recT Γ19 51 row24 A22 c23 out_21 ∧ True) ?_ ?_
    · skip
      refine WC.block ?_
      refine WC.rs ?_
      refine va rfl rfl rfl (q_move (v := .slice Aall all.length call) rfl (by kernel_rfl)) ?_
      refine va rfl rfl rfl (q_move (v := .int .i64 i_8) rfl (by kernel_rfl)) ?_
      obtain ⟨hk26, h⟩ := chk_some h
      refine va rfl rfl rfl (q_ix Tryz.underlying22 Tryz.sizeOf51 rfl rfl rfl hk26 ((hall.mono hl2).some_ (inb_lt hk26))) ?_
      refine va rfl rfl rfl (q_field_addr (i_8.toNat * 2) fld_51_0 rfl rfl ((hall.mono hl2).some_ (inb_lt hk26)) rfl) ?_
      obtain ⟨A27, c28, hx29⟩ := (hall.mono hl2).recT_at i_8.toNat
      refine va rfl rfl rfl (q_ld (c := 0) (v := .string (gt all i_8.toNat).key) (hx29 (inb_lt hk26)).2 rfl Tryz.isAgg9 rfl rfl) ?_
      obtain ⟨z30, hz31, h⟩ := bnd h
      refine e_call (is := []) rfl rfl (call_run Tryz.call31 rfl rfl (by kernel_rfl)) rfl (fun w hp => t_firthref11_Place ((gt all i_8.toNat).key) (hx29 (inb_lt hk26)).1.1 hp hz31) ?_
      rintro Γ32 U34 v35 hl33 ⟨A36, c37, row38, rfl, rfl, hr39, _⟩
      change WR _ _ _ (CC F Γ32 [row38, row6]) _ _ (upd _ 25 (.slice A36 z30.length c37))
      refine va rfl rfl rfl (q_assign (v := .slice A36 z30.length c37) rfl (by kernel_rfl)) ?_
      refine WR.nil ?_
      change WC _ _ _ _ _ _
      refine WC.rs ?_
      refine va rfl rfl rfl (q_assign (v := .bool true) rfl (by kernel_rfl)) ?_
      refine WR.nil ?_
      change WC _ _ _ _ _ _
      refine WC.seq ?_
      refine WC.rs ?_
      refine va rfl rfl rfl (q_assign (v := .int .i64 0) rfl (by kernel_rfl)) ?_
      refine WR.nil ?_
      change WC _ _ _ _ _ _
      refine WC.block ?_
      refine WC.forI h (fun (i42 : Nat) (in_40 : Bool) σ w => slots σ [(0, .slice Aall all.length call), (1, .slice Apath path.length cpath), (5, .slice A4 out_3.length c5), (6, .int .i64 i_8), (7, .slice A36 z30.length c37), (8, .bool in_40), (9, .int .i64 ((i42 : Nat) : Int))] ∧ CC F Γ32 [row38, row6] w ∧ True) ?_ ?_
      · skip
        intro w hw
        exact ⟨(sl_ (by kernel_rfl)), hw, trivial⟩
      rintro f41 i42 in_40 σ w hi43 hlt44 hge45 ⟨hsl, hw, -⟩
      refine Wpt.slots hsl ?_
      refine WC.here (C := CC F Γ32 [row38, row6]) ?_ hw
      clear hw hsl
      refine WC.seq ?_
      refine WC.rs ?_
      refine va rfl rfl rfl (q_move (v := .int .i64 ((i42 : Nat) : Int)) rfl (by kernel_rfl)) ?_
      refine va rfl rfl rfl (q_move (v := .slice Apath path.length cpath) rfl (by kernel_rfl)) ?_
      refine va rfl rfl rfl (q_len_slice rfl Tryz.underlying23 rfl) ?_
      refine va rfl rfl rfl (q_lss rfl rfl rfl) ?_
      refine WR.nil ?_
      change WC _ _ _ _ _ _
      refine WC.cond (b := (decide (((i42 : Nat) : Int) < ((path.length : Nat) : Int)))) (by kernel_rfl) (fun hb46 => ?_) (fun hb46 => ?_)
      · skip
        have hl47 := ilt hb46
        have h := hlt44 hl47
        refine WC.skip ?_
        change WC _ _ _ _ _ _
        refine WC.seq ?_
        refine WC.block ?_
        refine WC.dr (by kernel_rfl) (by kernel_rfl) (fun w hw => hw.drawn _) ?_
        refine wa rfl rfl rfl (q_move (v := .bool in_40) rfl (by kernel_rfl)) ?_
        refine wa rfl rfl rfl (q_move (v := .bool in_40) rfl (by kernel_rfl)) ?_
        refine wg1 rfl rfl rfl rfl rfl (fun hg48 => QV.qo (q_move (v := .slice A36 z30.length c37) rfl (by kernel_rfl))) ?_
        refine wg1 rfl rfl rfl rfl rfl (fun hg49 => QV.qo (q_move (v := .int .i64 ((i42 : Nat) : Int)) rfl (by kernel_rfl))) ?_
        obtain ⟨hk51, h⟩ := chk_some h
        refine wg1 rfl rfl rfl rfl rfl (fun hg50 => QV.qo (q_ixn (i := i42) Tryz.underlying23 Tryz.sizeOf3 rfl (gu hg50 rfl) (gu hg50 rfl) (of_decide_eq_true (imp_of hk51 hg50)) (hr39.some_ (of_decide_eq_true (imp_of hk51 hg50))))) ?_
        refine wg1 rfl rfl rfl rfl rfl (fun hg52 => QV.qo (q_ldo (c := 0) (v := .int .i64 (gt z30 i42)) (i := 0) rfl (hr39.intT_at (of_decide_eq_true (imp_of hk51 hg52))).2 rfl Tryz.isAgg3 (gu hg52 rfl) rfl)) ?_
        refine wg1 rfl rfl rfl rfl rfl (fun hg53 => QV.qo (q_move (v := .slice Apath path.length cpath) rfl (by kernel_rfl))) ?_
        refine wg1 rfl rfl rfl rfl rfl (fun hg54 => QV.qo (q_move (v := .int .i64 ((i42 : Nat) : Int)) rfl (by kernel_rfl))) ?_
        refine wg1 rfl rfl rfl rfl rfl (fun hg55 => QV.qo (q_ixn (i := i42) Tryz.underlying23 Tryz.sizeOf3 rfl (gu hg55 rfl) (gu hg55 rfl) hl47 ((hpath.mono (hl2.trans hl33)).some_ hl47))) ?_
        refine wg1 rfl rfl rfl rfl rfl (fun hg56 => QV.qo (q_ld (c := 0) (v := .int .i64 (gt path i42)) ((hpath.mono (hl2.trans hl33)).intT_at hl47).2 rfl Tryz.isAgg3 (gu hg56 rfl) rfl)) ?_
        refine wg1 rfl rfl rfl rfl rfl (fun hg57 => QV.qo (q_eql rfl (gu hg57 rfl) (gu hg57 rfl))) ?_
        refine wa rfl rfl rfl (q_pick rfl rfl (pk_and' (g := in_40) (y := ((gt z30 i42) == (gt path i42))))) ?_
        refine wa rfl rfl rfl (q_assign (v := .bool (in_40 && ((gt z30 i42) == (gt path i42)))) rfl (by kernel_rfl)) ?_
        refine WQ.nil ?_
        change WC _ _ _ _ _ _
        refine WC.region ?_
        refine va rfl rfl rfl (q_move (v := .int .i64 ((i42 : Nat) : Int)) rfl (by kernel_rfl)) ?_
        refine va rfl rfl rfl (q_add_r (r := ((i42 + 1 : Nat) : Int)) rfl rfl rfl (ctr_len hl47 (hpath.mono (hl2.trans hl33)).le)) ?_
        refine va rfl rfl rfl (q_assign (v := .int .i64 ((i42 + 1 : Nat) : Int)) rfl (by kernel_rfl)) ?_
        refine WR.nil ?_
        intro w hw
        exact ⟨hl47, (in_40 && ((gt z30 i42) == (gt path i42))), h, (sl_ (by kernel_rfl)), hw, trivial⟩
      · skip
        have h := hge45 (ige hb46)
        refine WC.exit ?_
        change WC _ _ _ _ _ _
        refine WC.rs ?_
        refine va rfl rfl rfl (q_move (v := .bool in_40) rfl (by kernel_rfl)) ?_
        refine WR.nil ?_
        change WC _ _ _ _ _ _
        refine WC.cif h (by kernel_rfl) (fun hb58 h => ?_) (fun hb58 h => ?_)
        · skip
          refine WC.region ?_
          refine va rfl rfl rfl (q_move (v := .slice A4 out_3.length c5) rfl (by kernel_rfl)) ?_
          refine va rfl rfl rfl (q_move (v := .slice Aall all.length call) rfl (by kernel_rfl)) ?_
          refine va rfl rfl rfl (q_move (v := .int .i64 i_8) rfl (by kernel_rfl)) ?_
          refine va rfl rfl rfl (q_ix Tryz.underlying22 Tryz.sizeOf51 rfl rfl rfl hk26 ((hall.mono (hl2.trans hl33)).some_ (inb_lt hk26))) ?_
          obtain ⟨A59, c60, hx61⟩ := (hall.mono (hl2.trans hl33)).recT_at i_8.toNat
          refine va rfl rfl rfl (q_lda (c := 0) (vs := [.string (gt all i_8.toNat).key, .slice A59 ((gt all i_8.toNat).vers).length c60]) (hx61 (inb_lt hk26)).2 rfl Tryz.isAgg51 Tryz.sizeOf51 rfl rfl rfl) ?_
          refine e_buildSlice (cs := #[.string (gt all i_8.toNat).key, .slice A59 ((gt all i_8.toNat).vers).length c60]) (e := 51) rfl rfl rfl rfl (fun w => by kernel_rfl) ?_
          intro g62
          obtain ⟨hk63, h⟩ := chk_some h
          refine e_append (T := recT) (xs := out_3) (ys := [(gt all i_8.toNat)]) elem_22 (i := 2) rfl rfl rfl rfl rfl rfl rfl (ho7.mono hl33) (of_decide_eq_true hk63) (fun w hw => src_one (T := recT) (y := (gt all i_8.toNat)) (i := 0) rfl (by exact ⟨A59, c60, rfl, (hx61 (inb_lt hk26)).1⟩) hw) ?_
          intro row64 A65 c66 ho67
          refine va rfl rfl rfl (q_assign (v := .slice A65 (out_3 ++ [(gt all i_8.toNat)]).length c66) rfl (by kernel_rfl)) ?_
          refine WR.nil ?_
          intro w hw
          exact ⟨(out_3 ++ [(gt all i_8.toNat)]), Γ32, A65, c66, row64, h, (sl_ (by kernel_rfl)), (hw.only (is := [2]) rfl), hl33, ho67, trivial⟩
        · skip
          refine WC.skip ?_
          intro w hw
          exact ⟨out_3, Γ32, A4, c5, row6, h, (sl_ (by kernel_rfl)), (hw.only (is := [1]) rfl), hl33, (ho7.mono hl33), trivial⟩
    · skip
      rintro σ w ⟨out_21, Γ19, A22, c23, row24, h, hsl, hw, hl20, ho25, -⟩
      refine Wpt.slots hsl ?_
      refine WC.here (C := CC F Γ19 [row24]) ?_ hw
      clear hw hsl
      refine WC.region ?_
      refine va rfl rfl rfl (q_move (v := .int .i64 i_8) rfl (by kernel_rfl)) ?_
      refine va rfl rfl rfl (q_add rfl rfl rfl) ?_
      refine va rfl rfl rfl (q_assign (v := .int .i64 (w64 (i_8 + 1))) rfl (by kernel_rfl)) ?_
      refine WR.nil ?_
      intro w hw
      exact ⟨(out_21, (w64 (i_8 + 1))), h, Γ19, A22, c23, row24, (sl_ (by kernel_rfl)), hw, (hl2.trans hl20), ho25, (w64_r _), trivial⟩
  · skip
    refine WC.exit ?_
    change WC _ _ _ _ _ _
    refine WC.rs ?_
    refine va rfl rfl rfl (q_move (v := .slice A4 out_3.length c5) rfl (by kernel_rfl)) ?_
    refine va rfl rfl rfl (q_assign (v := .slice A4 out_3.length c5) rfl (by kernel_rfl)) ?_
    refine WR.nil ?_
    change WC _ _ _ _ _ _
    refine WC.ret ?_
    intro w hw
    obtain rfl := Option.some.inj h
    subst hF
    exact end_e (is := [0]) (by kernel_rfl) hw rfl ⟨A4, c5, row6, rfl, rfl, ho7, trivial⟩
abbrev r_firthref01_PutNum (r : List UInt8) (U : List Rowb) (Γ : Gh) (v : Value) : Prop := ∃ (A0 : Option Addr), ∃ (c0 : Nat), ∃ (row0 : Rowb), v = .slice A0 r.length c0 ∧ U = [row0] ∧ Own byteT Γ 5 row0 A0 c0 r ∧ True
set_option maxRecDepth 100000 in
set_option maxHeartbeats 400000 in
theorem t_firthref01_PutNum {Γ : Gh} {w0 : World} (n : Int) (hn : I64 n) (hp : Pre [] Γ w0) {r : List UInt8} (h : m_firthref01_PutNum n = some r) : Calls Tryz.prog 104 #[.int .i64 n] w0 (Outc Γ [] w0 (r_firthref01_PutNum r)) := by
  refine calls_of (N := 22) (rs := [2]) (args := [.int .i64 n]) Tryz.func104 rfl Tryz.ntmps104 Tryz.results104 rfl ?_
  obtain ⟨F, hF⟩ : ∃ F : Fm, F = ⟨ids [], w0, Γ⟩ := ⟨_, rfl⟩
  refine WC.here (C := CC F Γ []) ?_ (hF ▸ hp.start)
  refine WC.rs ?_
  refine va rfl rfl rfl (q_assign (v := .slice none 0 0) rfl (by kernel_rfl)) ?_
  refine WR.nil ?_
  change WC _ _ _ _ _ _
  refine WC.cut (fun σ w => ∃ (n_1 : Int), m_firthref01_PutNum_j1 n_1 = some r ∧ slots σ [(0, .int .i64 n_1)] ∧ CC F Γ [] w ∧ I64 n_1 ∧ True) ?_ ?_
  · skip
    refine WC.rs ?_
    refine va rfl rfl rfl (q_move (v := .int .i64 n) rfl (by kernel_rfl)) ?_
    refine va rfl rfl rfl (q_lss rfl rfl rfl) ?_
    refine WR.nil ?_
    change WC _ _ _ _ _ _
    refine WC.cif h (by kernel_rfl) (fun hb3 h => ?_) (fun hb3 h => ?_)
    · skip
      refine WC.region ?_
      refine va rfl rfl rfl (q_assign (v := .int .i64 0) rfl (by kernel_rfl)) ?_
      refine WR.nil ?_
      intro w hw
      exact ⟨0, h, (sl_ (by kernel_rfl)), hw, (show I64 0 by decide), trivial⟩
    · skip
      refine WC.skip ?_
      intro w hw
      exact ⟨n, h, (sl_ (by kernel_rfl)), hw, hn, trivial⟩
  · skip
    rintro σ w ⟨n_1, h, hsl, hw, hr2, -⟩
    refine Wpt.slots hsl ?_
    refine WC.here (C := CC F Γ []) ?_ hw
    clear hw hsl
    refine WC.rs ?_
    refine va rfl rfl rfl (q_assign (v := .slice none 0 0) rfl (by kernel_rfl)) ?_
    refine WR.nil ?_
    change WC _ _ _ _ _ _
    refine WC.seq ?_
    refine WC.block ?_
    refine WC.loopN h (fun (s : Int × (List UInt8)) σ w => match s with | (n_4, b_6) => ∃ (A7 : Option Addr), ∃ (c8 : Nat), ∃ (row9 : Rowb), slots σ [(0, .int .i64 n_4), (3, .slice A7 b_6.length c8)] ∧ CC F Γ [row9] w ∧ I64 n_4 ∧ Own byteT Γ 5 row9 A7 c8 b_6 ∧ True) ?_ ?_
    · skip
      intro w hw
      have hw := hw.pad
      exact ⟨none, 0, [], (sl_ (by kernel_rfl)), hw, hr2, (Own.nil byteT _ 5), trivial⟩
    rintro f11 ⟨n_4, b_6⟩ σ w h ⟨A7, c8, row9, hsl, hw, hr5, ho10, -⟩
    refine Wpt.slots hsl ?_
    refine WC.here (C := CC F Γ [row9]) ?_ hw
    clear hw hsl
    refine WC.seq ?_
    refine WC.rs ?_
    refine va rfl rfl rfl (q_move (v := .int .i64 n_4) rfl (by kernel_rfl)) ?_
    refine va rfl rfl rfl (q_geq rfl rfl rfl) ?_
    refine WR.nil ?_
    change WC _ _ _ _ _ _
    refine WC.cif h (by kernel_rfl) (fun hb15 h => ?_) (fun hb15 h => ?_)
    · skip
      refine WC.skip ?_
      change WC _ _ _ _ _ _
      refine WC.block ?_
      refine WC.rs ?_
      refine va rfl rfl rfl (q_move (v := .slice A7 b_6.length c8) rfl (by kernel_rfl)) ?_
      refine va rfl rfl rfl (q_move (v := .int .i64 n_4) rfl (by kernel_rfl)) ?_
      refine va rfl rfl rfl (q_rem rfl rfl rfl (by decide)) ?_
      refine va rfl rfl rfl (q_add rfl rfl rfl) ?_
      refine va rfl rfl rfl (q_conv Tryz.underlying5 Tryz.underlying2 rfl rfl) ?_
      refine e_buildSlice (cs := #[.int .u8 (wu8 (w64 ((n_4.tmod 128) + 128)))]) (e := 5) rfl rfl rfl rfl (fun w => by kernel_rfl) ?_
      intro g16
      obtain ⟨hk17, h⟩ := chk_some h
      refine e_append (T := byteT) (xs := b_6) (ys := [(b8 (wu8 (w64 ((n_4.tmod 128) + 128))))]) elem_97 (i := 1) rfl rfl rfl rfl rfl rfl rfl ho10 (of_decide_eq_true hk17) (fun w hw => src_one (T := byteT) (y := (b8 (wu8 (w64 ((n_4.tmod 128) + 128))))) (i := 0) rfl (by exact (by show [Value.int .u8 (wu8 (w64 ((n_4.tmod 128) + 128)))] = [Value.int .u8 _]; rw [b8_val (wu8_r _)])) hw) ?_
      intro row18 A19 c20 ho21
      refine va rfl rfl rfl (q_assign (v := .slice A19 (b_6 ++ [(b8 (wu8 (w64 ((n_4.tmod 128) + 128))))]).length c20) rfl (by kernel_rfl)) ?_
      refine WR.nil ?_
      change WC _ _ _ _ _ _
      refine WC.region ?_
      refine va rfl rfl rfl (q_move (v := .int .i64 n_4) rfl (by kernel_rfl)) ?_
      refine va rfl rfl rfl (q_quo rfl rfl rfl (by decide)) ?_
      refine va rfl rfl rfl (q_assign (v := .int .i64 (w64 (n_4.tdiv 128))) rfl (by kernel_rfl)) ?_
      refine WR.nil ?_
      intro w hw
      exact ⟨((w64 (n_4.tdiv 128)), (b_6 ++ [(b8 (wu8 (w64 ((n_4.tmod 128) + 128))))])), h, A19, c20, row18, (sl_ (by kernel_rfl)), (hw.only (is := [1]) rfl), (w64_r _), ho21, trivial⟩
    · skip
      refine WC.exit ?_
      change WC _ _ _ _ _ _
      refine WC.rs ?_
      refine va rfl rfl rfl (q_move (v := .slice A7 b_6.length c8) rfl (by kernel_rfl)) ?_
      refine va rfl rfl rfl (q_move (v := .int .i64 n_4) rfl (by kernel_rfl)) ?_
      refine va rfl rfl rfl (q_conv Tryz.underlying5 Tryz.underlying2 rfl rfl) ?_
      refine e_buildSlice (cs := #[.int .u8 (wu8 n_4)]) (e := 5) rfl rfl rfl rfl (fun w => by kernel_rfl) ?_
      intro g22
      obtain ⟨hk23, h⟩ := chk_some h
      refine e_append (T := byteT) (xs := b_6) (ys := [(b8 (wu8 n_4))]) elem_97 (i := 1) rfl rfl rfl rfl rfl rfl rfl ho10 (of_decide_eq_true hk23) (fun w hw => src_one (T := byteT) (y := (b8 (wu8 n_4))) (i := 0) rfl (by exact (by show [Value.int .u8 (wu8 n_4)] = [Value.int .u8 _]; rw [b8_val (wu8_r _)])) hw) ?_
      intro row24 A25 c26 ho27
      refine va rfl rfl rfl (q_assign (v := .slice A25 (b_6 ++ [(b8 (wu8 n_4))]).length c26) rfl (by kernel_rfl)) ?_
      refine WR.nil ?_
      change WC _ _ _ _ _ _
      refine WC.ret ?_
      intro w hw
      obtain rfl := Option.some.inj h
      subst hF
      exact end_e (is := [1]) (by kernel_rfl) hw rfl ⟨A25, c26, row24, rfl, rfl, ho27, trivial⟩
abbrev r_firthref01_PutText (r : List UInt8) (U : List Rowb) (Γ : Gh) (v : Value) : Prop := ∃ (A0 : Option Addr), ∃ (c0 : Nat), ∃ (row0 : Rowb), v = .slice A0 r.length c0 ∧ U = [row0] ∧ Own byteT Γ 5 row0 A0 c0 r ∧ True
set_option maxRecDepth 100000 in
set_option maxHeartbeats 400000 in
theorem t_firthref01_PutText {Γ : Gh} {w0 : World} (s_ : ByteArray) (hs_ : s_.size ≤ lim) (hp : Pre [] Γ w0) {r : List UInt8} (h : m_firthref01_PutText s_ = some r) : Calls Tryz.prog 105 #[.string s_] w0 (Outc Γ [] w0 (r_firthref01_PutText r)) := by
  refine calls_of (N := 21) (rs := [2]) (args := [.string s_]) Tryz.func105 rfl Tryz.ntmps105 Tryz.results105 rfl ?_
  obtain ⟨F, hF⟩ : ∃ F : Fm, F = ⟨ids [], w0, Γ⟩ := ⟨_, rfl⟩
  refine WC.here (C := CC F Γ []) ?_ (hF ▸ hp.start)
  refine WC.rs ?_
  refine va rfl rfl rfl (q_assign (v := .slice none 0 0) rfl (by kernel_rfl)) ?_
  refine WR.nil ?_
  change WC _ _ _ _ _ _
  refine WC.rs ?_
  refine va rfl rfl rfl (q_move (v := .string s_) rfl (by kernel_rfl)) ?_
  refine va rfl rfl rfl (q_len_str rfl Tryz.underlying9 rfl) ?_
  obtain ⟨z1, hz2, h⟩ := bnd h
  refine e_call (is := []) rfl rfl (call_run Tryz.call104 rfl rfl (by kernel_rfl)) rfl (fun w hp => t_firthref01_PutNum ((s_.size : Nat) : Int) (len_r hs_) hp hz2) ?_
  rintro Γ3 U5 v6 hl4 ⟨A7, c8, row9, rfl, rfl, hr10, _⟩
  change WR _ _ _ (CC F Γ3 [row9]) _ _ (upd _ 7 (.slice A7 z1.length c8))
  refine va rfl rfl rfl (q_assign (v := .slice A7 z1.length c8) rfl (by kernel_rfl)) ?_
  refine WR.nil ?_
  change WC _ _ _ _ _ _
  refine WC.seq ?_
  refine WC.rs ?_
  refine va rfl rfl rfl (q_assign (v := .int .i64 0) rfl (by kernel_rfl)) ?_
  refine WR.nil ?_
  change WC _ _ _ _ _ _
  refine WC.block ?_
  refine WC.forU h (fun (i17 : Nat) (b_11 : List UInt8) σ w => ∃ (A12 : Option Addr), ∃ (c13 : Nat), ∃ (row14 : Rowb), slots σ [(0, .string s_), (3, .slice A12 b_11.length c13), (4, .int .i64 ((i17 : Nat) : Int))] ∧ CC F Γ3 [row14] w ∧ Own byteT Γ3 5 row14 A12 c13 b_11 ∧ True) ?_ ?_
  · skip
    intro w hw
    exact ⟨A7, c8, row9, (sl_ (by kernel_rfl)), hw, hr10, trivial⟩
  rintro f16 i17 b_11 σ w hi18 hlt19 hge20 ⟨A12, c13, row14, hsl, hw, ho15, -⟩
  refine Wpt.slots hsl ?_
  refine WC.here (C := CC F Γ3 [row14]) ?_ hw
  clear hw hsl
  refine WC.seq ?_
  refine WC.rs ?_
  refine va rfl rfl rfl (q_move (v := .int .i64 ((i17 : Nat) : Int)) rfl (by kernel_rfl)) ?_
  refine va rfl rfl rfl (q_move (v := .string s_) rfl (by kernel_rfl)) ?_
  refine va rfl rfl rfl (q_len_str rfl Tryz.underlying9 rfl) ?_
  refine va rfl rfl rfl (q_lss rfl rfl rfl) ?_
  refine WR.nil ?_
  change WC _ _ _ _ _ _
  refine WC.cond (b := (decide (((i17 : Nat) : Int) < ((s_.size : Nat) : Int)))) (by kernel_rfl) (fun hb21 => ?_) (fun hb21 => ?_)
  · skip
    have hl22 := ilt hb21
    have h := hlt19 hl22
    refine WC.skip ?_
    change WC _ _ _ _ _ _
    refine WC.seq ?_
    refine WC.block ?_
    refine WC.region ?_
    refine va rfl rfl rfl (q_move (v := .slice A12 b_11.length c13) rfl (by kernel_rfl)) ?_
    refine va rfl rfl rfl (q_move (v := .string s_) rfl (by kernel_rfl)) ?_
    refine va rfl rfl rfl (q_move (v := .int .i64 ((i17 : Nat) : Int)) rfl (by kernel_rfl)) ?_
    refine va rfl rfl rfl (q_sixn (i := i17) Tryz.underlying9 rfl rfl rfl hl22) ?_
    refine e_buildSlice (cs := #[.int .u8 (((gt s_.data.toList i17).toNat : Nat) : Int)]) (e := 5) rfl rfl rfl rfl (fun w => by kernel_rfl) ?_
    intro g23
    obtain ⟨hk24, h⟩ := chk_some h
    refine e_append (T := byteT) (xs := b_11) (ys := [(gt s_.data.toList i17)]) elem_97 (i := 1) rfl rfl rfl rfl rfl rfl rfl ho15 (of_decide_eq_true hk24) (fun w hw => src_one (T := byteT) (y := (gt s_.data.toList i17)) (i := 0) rfl (by exact rfl) hw) ?_
    intro row25 A26 c27 ho28
    refine va rfl rfl rfl (q_assign (v := .slice A26 (b_11 ++ [(gt s_.data.toList i17)]).length c27) rfl (by kernel_rfl)) ?_
    refine WR.nil ?_
    change WC _ _ _ _ _ _
    refine WC.region ?_
    refine va rfl rfl rfl (q_move (v := .int .i64 ((i17 : Nat) : Int)) rfl (by kernel_rfl)) ?_
    refine va rfl rfl rfl (q_add_r (r := ((i17 + 1 : Nat) : Int)) rfl rfl rfl (ctr_len hl22 hs_)) ?_
    refine va rfl rfl rfl (q_assign (v := .int .i64 ((i17 + 1 : Nat) : Int)) rfl (by kernel_rfl)) ?_
    refine WR.nil ?_
    intro w hw
    exact ⟨hl22, (b_11 ++ [(gt s_.data.toList i17)]), h, A26, c27, row25, (sl_ (by kernel_rfl)), (hw.only (is := [1]) rfl), ho28, trivial⟩
  · skip
    have h := hge20 (ige hb21)
    refine WC.exit ?_
    change WC _ _ _ _ _ _
    refine WC.rs ?_
    refine va rfl rfl rfl (q_move (v := .slice A12 b_11.length c13) rfl (by kernel_rfl)) ?_
    refine va rfl rfl rfl (q_assign (v := .slice A12 b_11.length c13) rfl (by kernel_rfl)) ?_
    refine WR.nil ?_
    change WC _ _ _ _ _ _
    refine WC.ret ?_
    intro w hw
    obtain rfl := Option.some.inj h
    subst hF
    exact end_e (is := [0]) (by kernel_rfl) hw rfl ⟨A12, c13, row14, rfl, rfl, ho15, trivial⟩
set_option maxRecDepth 100000 in
set_option maxHeartbeats 400000 in
theorem t_firthref05_Mark {Γ : Gh} {w0 : World} (key : ByteArray) (hkey : key.size ≤ lim) {Al : Option Addr} {cl : Nat} {l : List Ver} (hl : Sl verT Γ Al l) (hlc : l.length ≤ cl) (hs : Sat Γ w0) {r : Int} (h : m_firthref05_Mark key l = some r) : Calls Tryz.prog 86 #[.string key, .slice Al l.length cl] w0 (fun e w' => e = .returned (.int .u64 r) ∧ Fr no w0 w') := by
  refine calls_of (N := 35) (rs := [4]) (args := [.string key, .slice Al l.length cl]) Tryz.func86 rfl Tryz.ntmps86 Tryz.results86 rfl ?_
  obtain ⟨F, hF⟩ : ∃ F : Fm, F = ⟨no, w0, Γ⟩ := ⟨_, rfl⟩
  refine WC.here (C := CC F Γ []) ?_ (hF ▸ Cur.start0 hs)
  refine WC.rs ?_
  refine va rfl rfl rfl (q_assign (v := .int .u64 0) rfl (by kernel_rfl)) ?_
  refine WR.nil ?_
  change WC _ _ _ _ _ _
  refine WC.rs ?_
  refine va rfl rfl rfl (q_move (v := .string key) rfl (by kernel_rfl)) ?_
  obtain ⟨z1, hz2, h⟩ := bnd h
  refine e_call (is := []) rfl rfl (call_run Tryz.call105 rfl rfl (by kernel_rfl)) rfl (fun w hp => t_firthref01_PutText key hkey hp hz2) ?_
  rintro Γ3 U5 v6 hl4 ⟨A7, c8, row9, rfl, rfl, hr10, _⟩
  change WR _ _ _ (CC F Γ3 [row9]) _ _ (upd _ 8 (.slice A7 z1.length c8))
  refine va rfl rfl rfl (q_assign (v := .slice A7 z1.length c8) rfl (by kernel_rfl)) ?_
  refine WR.nil ?_
  change WC _ _ _ _ _ _
  refine WC.seq ?_
  refine WC.rs ?_
  refine va rfl rfl rfl (q_assign (v := .int .i64 0) rfl (by kernel_rfl)) ?_
  refine WR.nil ?_
  change WC _ _ _ _ _ _
  refine WC.block ?_
  refine WC.forI h (fun (i19 : Nat) (b_13 : List UInt8) σ w => ∃ (Γ11 : Gh), ∃ (A14 : Option Addr), ∃ (c15 : Nat), ∃ (row16 : Rowb), slots σ [(1, .slice Al l.length cl), (5, .slice A14 b_13.length c15), (6, .int .i64 ((i19 : Nat) : Int))] ∧ CC F Γ11 [row16] w ∧ Gh.le Γ3 Γ11 ∧ Own byteT Γ11 5 row16 A14 c15 b_13 ∧ True) ?_ ?_
  · skip
    intro w hw
    exact ⟨Γ3, A7, c8, row9, (sl_ (by kernel_rfl)), hw, (Gh.refl _), hr10, trivial⟩
  rintro f18 i19 b_13 σ w hi20 hlt21 hge22 ⟨Γ11, A14, c15, row16, hsl, hw, hl12, ho17, -⟩
  refine Wpt.slots hsl ?_
  refine WC.here (C := CC F Γ11 [row16]) ?_ hw
  clear hw hsl
  refine WC.seq ?_
  refine WC.rs ?_
  refine va rfl rfl rfl (q_move (v := .int .i64 ((i19 : Nat) : Int)) rfl (by kernel_rfl)) ?_
  refine va rfl rfl rfl (q_move (v := .slice Al l.length cl) rfl (by kernel_rfl)) ?_
  refine va rfl rfl rfl (q_len_slice rfl Tryz.underlying48 rfl) ?_
  refine va rfl rfl rfl (q_lss rfl rfl rfl) ?_
  refine WR.nil ?_
  change WC _ _ _ _ _ _
  refine WC.cond (b := (decide (((i19 : Nat) : Int) < ((l.length : Nat) : Int)))) (by kernel_rfl) (fun hb23 => ?_) (fun hb23 => ?_)
  · skip
    have hl24 := ilt hb23
    have h := hlt21 hl24
    refine WC.skip ?_
    change WC _ _ _ _ _ _
    refine WC.seq ?_
    refine WC.block ?_
    refine WC.rs ?_
    refine va rfl rfl rfl (q_move (v := .slice A14 b_13.length c15) rfl (by kernel_rfl)) ?_
    refine va rfl rfl rfl (q_move (v := .slice Al l.length cl) rfl (by kernel_rfl)) ?_
    refine va rfl rfl rfl (q_move (v := .int .i64 ((i19 : Nat) : Int)) rfl (by kernel_rfl)) ?_
    refine va rfl rfl rfl (q_ixn (i := i19) Tryz.underlying48 Tryz.sizeOf57 rfl rfl rfl hl24 ((hl.mono (hl4.trans hl12)).some_ hl24)) ?_
    refine va rfl rfl rfl (q_field_addr (i19 * 5) fld_57_0 rfl rfl ((hl.mono (hl4.trans hl12)).some_ hl24) rfl) ?_
    refine va rfl rfl rfl (q_field_addr (i19 * 5) fld_54_0 rfl rfl ((hl.mono (hl4.trans hl12)).some_ hl24) rfl) ?_
    obtain ⟨A25, c26, hx27⟩ := (hl.mono (hl4.trans hl12)).verT_at i19
    refine va rfl rfl rfl (q_ld (c := 0) (v := .int .i64 (gt l i19).dot.s) (hx27 hl24).2 rfl Tryz.isAgg3 rfl rfl) ?_
    obtain ⟨z28, hz29, h⟩ := bnd h
    refine e_call (is := []) rfl rfl (call_run Tryz.call104 rfl rfl (by kernel_rfl)) rfl (fun w hp => t_firthref01_PutNum ((gt l i19).dot.s) (hx27 hl24).1.1 hp hz29) ?_
    rintro Γ30 U32 v33 hl31 ⟨A34, c35, row36, rfl, rfl, hr37, _⟩
    change WR _ _ _ (CC F Γ30 [row36, row16]) _ _ (upd _ 22 (.slice A34 z28.length c35))
    obtain ⟨hk38, h⟩ := chk_some h
    refine e_append (T := byteT) (xs := b_13) (ys := z28) elem_97 (i := 1) rfl rfl rfl rfl rfl rfl rfl (ho17.mono hl31) (of_decide_eq_true hk38) (fun w hw => src_own (i := 0) rfl hr37 hw) ?_
    intro row39 A40 c41 ho42
    refine va rfl rfl rfl (q_assign (v := .slice A40 (b_13 ++ z28).length c41) rfl (by kernel_rfl)) ?_
    refine WR.nil ?_
    change WC _ _ _ _ _ _
    refine WC.region ?_
    refine va rfl rfl rfl (q_move (v := .slice A40 (b_13 ++ z28).length c41) rfl (by kernel_rfl)) ?_
    refine va rfl rfl rfl (q_move (v := .slice Al l.length cl) rfl (by kernel_rfl)) ?_
    refine va rfl rfl rfl (q_move (v := .int .i64 ((i19 : Nat) : Int)) rfl (by kernel_rfl)) ?_
    refine va rfl rfl rfl (q_ixn (i := i19) Tryz.underlying48 Tryz.sizeOf57 rfl rfl rfl hl24 ((hl.mono ((hl4.trans hl12).trans hl31)).some_ hl24)) ?_
    refine va rfl rfl rfl (q_field_addr (i19 * 5) fld_57_0 rfl rfl ((hl.mono ((hl4.trans hl12).trans hl31)).some_ hl24) rfl) ?_
    refine va rfl rfl rfl (q_field_addr (i19 * 5 + 1) fld_54_1 rfl rfl ((hl.mono ((hl4.trans hl12).trans hl31)).some_ hl24) rfl) ?_
    refine va rfl rfl rfl (q_ld (c := 1) (v := .int .i64 (gt l i19).dot.n) ((hx27 hl24).2.mono hl31) rfl Tryz.isAgg2 rfl rfl) ?_
    obtain ⟨z43, hz44, h⟩ := bnd h
    refine e_call (is := []) rfl rfl (call_run Tryz.call104 rfl rfl (by kernel_rfl)) rfl (fun w hp => t_firthref01_PutNum ((gt l i19).dot.n) (hx27 hl24).1.2.1 hp hz44) ?_
    rintro Γ45 U47 v48 hl46 ⟨A49, c50, row51, rfl, rfl, hr52, _⟩
    change WR _ _ _ (CC F Γ45 [row51, row36, row39]) _ _ (upd _ 31 (.slice A49 z43.length c50))
    obtain ⟨hk53, h⟩ := chk_some h
    refine e_append (T := byteT) (xs := (b_13 ++ z28)) (ys := z43) elem_97 (i := 2) rfl rfl rfl rfl rfl rfl rfl (ho42.mono hl46) (of_decide_eq_true hk53) (fun w hw => src_own (i := 0) rfl hr52 hw) ?_
    intro row54 A55 c56 ho57
    refine va rfl rfl rfl (q_assign (v := .slice A55 ((b_13 ++ z28) ++ z43).length c56) rfl (by kernel_rfl)) ?_
    refine WR.nil ?_
    change WC _ _ _ _ _ _
    refine WC.region ?_
    refine va rfl rfl rfl (q_move (v := .int .i64 ((i19 : Nat) : Int)) rfl (by kernel_rfl)) ?_
    refine va rfl rfl rfl (q_add_r (r := ((i19 + 1 : Nat) : Int)) rfl rfl rfl (ctr_len hl24 (hl.mono (hl4.trans hl12)).le)) ?_
    refine va rfl rfl rfl (q_assign (v := .int .i64 ((i19 + 1 : Nat) : Int)) rfl (by kernel_rfl)) ?_
    refine WR.nil ?_
    intro w hw
    exact ⟨hl24, ((b_13 ++ z28) ++ z43), h, Γ45, A55, c56, row54, (sl_ (by kernel_rfl)), (hw.only (is := [2]) rfl), ((hl12.trans hl31).trans hl46), ho57, trivial⟩
  · skip
    have h := hge22 (ige hb23)
    refine WC.exit ?_
    change WC _ _ _ _ _ _
    refine WC.rs ?_
    refine va rfl rfl rfl (q_move (v := .slice A14 b_13.length c15) rfl (by kernel_rfl)) ?_
    obtain ⟨z58, hz59, h⟩ := bnd h
    refine vc rfl rfl rfl (q_call (call_run Tryz.call58 rfl rfl (by kernel_rfl)) (fun w hw => t_firthref01_Hash (Γ := Gh.all w) (ho17.sl hw.sat.le_all (hw.ra 0 rfl)) ho17.capz (Sat.all w) hz59)) ?_
    refine va rfl rfl rfl (q_assign (v := .int .u64 z58) rfl (by kernel_rfl)) ?_
    refine WR.nil ?_
    change WC _ _ _ _ _ _
    refine WC.ret ?_
    intro w hw
    obtain rfl := Option.some.inj h
    subst hF
    exact ⟨by kernel_rfl, hw.fr⟩
abbrev r_firthref11_halves (r : List UInt8) (U : List Rowb) (Γ : Gh) (v : Value) : Prop := ∃ (A0 : Option Addr), ∃ (c0 : Nat), ∃ (row0 : Rowb), v = .slice A0 r.length c0 ∧ U = [row0] ∧ Own byteT Γ 5 row0 A0 c0 r ∧ True
set_option maxRecDepth 100000 in
set_option maxHeartbeats 400000 in
theorem t_firthref11_halves {Γ : Gh} {w0 : World} {Ab : Option Addr} {cb : Nat} {rowb : Rowb} {b : List UInt8} (hb : Own byteT Γ 5 rowb Ab cb b) (h_ : Int) (hh_ : U64 h_) (hp : Pre [rowb] Γ w0) {r : List UInt8} (h : m_firthref11_halves b h_ = some r) : Calls Tryz.prog 85 #[.slice Ab b.length cb, .int .u64 h_] w0 (Outc Γ [rowb] w0 (r_firthref11_halves r)) := by
  refine calls_of (N := 17) (rs := [4]) (args := [.slice Ab b.length cb, .int .u64 h_]) Tryz.func85 rfl Tryz.ntmps85 Tryz.results85 rfl ?_
  obtain ⟨F, hF⟩ : ∃ F : Fm, F = ⟨ids [rowb], w0, Γ⟩ := ⟨_, rfl⟩
  refine WC.here (C := CC F Γ [rowb]) ?_ (hF ▸ hp.start)
  refine WC.rs ?_
  refine va rfl rfl rfl (q_assign (v := .slice none 0 0) rfl (by kernel_rfl)) ?_
  refine WR.nil ?_
  change WC _ _ _ _ _ _
  refine WC.rs ?_
  refine va rfl rfl rfl (q_move (v := .slice Ab b.length cb) rfl (by kernel_rfl)) ?_
  refine va rfl rfl rfl (q_move (v := .int .u64 h_) rfl (by kernel_rfl)) ?_
  refine va rfl rfl rfl (q_quo rfl rfl rfl (by decide)) ?_
  refine va rfl rfl rfl (q_conv Tryz.underlying2 Tryz.underlying67 rfl rfl) ?_
  obtain ⟨z1, hz2, h⟩ := bnd h
  refine e_call (is := []) rfl rfl (call_run Tryz.call104 rfl rfl (by kernel_rfl)) rfl (fun w hp => t_firthref01_PutNum (w64 (wu64 (h_.tdiv 4294967296))) (w64_r _) hp hz2) ?_
  rintro Γ3 U5 v6 hl4 ⟨A7, c8, row9, rfl, rfl, hr10, _⟩
  change WR _ _ _ (CC F Γ3 [row9, rowb]) _ _ (upd _ 9 (.slice A7 z1.length c8))
  obtain ⟨hk11, h⟩ := chk_some h
  refine e_append (T := byteT) (xs := b) (ys := z1) elem_97 (i := 1) rfl rfl rfl rfl rfl rfl rfl (hb.mono hl4) (of_decide_eq_true hk11) (fun w hw => src_own (i := 0) rfl hr10 hw) ?_
  intro row12 A13 c14 ho15
  refine va rfl rfl rfl (q_assign (v := .slice A13 (b ++ z1).length c14) rfl (by kernel_rfl)) ?_
  refine WR.nil ?_
  change WC _ _ _ _ _ _
  refine WC.rs ?_
  refine va rfl rfl rfl (q_move (v := .slice A13 (b ++ z1).length c14) rfl (by kernel_rfl)) ?_
  refine va rfl rfl rfl (q_move (v := .int .u64 h_) rfl (by kernel_rfl)) ?_
  refine va rfl rfl rfl (q_rem rfl rfl rfl (by decide)) ?_
  refine va rfl rfl rfl (q_conv Tryz.underlying2 Tryz.underlying67 rfl rfl) ?_
  obtain ⟨z16, hz17, h⟩ := bnd h
  refine e_call (is := []) rfl rfl (call_run Tryz.call104 rfl rfl (by kernel_rfl)) rfl (fun w hp => t_firthref01_PutNum (w64 (h_.tmod 4294967296)) (w64_r _) hp hz17) ?_
  rintro Γ18 U20 v21 hl19 ⟨A22, c23, row24, rfl, rfl, hr25, _⟩
  change WR _ _ _ (CC F Γ18 [row24, row9, row12]) _ _ (upd _ 15 (.slice A22 z16.length c23))
  obtain ⟨hk26, h⟩ := chk_some h
  refine e_append (T := byteT) (xs := (b ++ z1)) (ys := z16) elem_97 (i := 2) rfl rfl rfl rfl rfl rfl rfl (ho15.mono hl19) (of_decide_eq_true hk26) (fun w hw => src_own (i := 0) rfl hr25 hw) ?_
  intro row27 A28 c29 ho30
  refine va rfl rfl rfl (q_assign (v := .slice A28 ((b ++ z1) ++ z16).length c29) rfl (by kernel_rfl)) ?_
  refine WR.nil ?_
  change WC _ _ _ _ _ _
  refine WC.ret ?_
  intro w hw
  obtain rfl := Option.some.inj h
  subst hF
  exact end_e (is := [2]) (by kernel_rfl) hw rfl ⟨A28, c29, row27, rfl, rfl, ho30, trivial⟩
abbrev r_firthref11_Text (r : List UInt8) (U : List Rowb) (Γ : Gh) (v : Value) : Prop := ∃ (A0 : Option Addr), ∃ (c0 : Nat), ∃ (row0 : Rowb), v = .slice A0 r.length c0 ∧ U = [row0] ∧ Own byteT Γ 5 row0 A0 c0 r ∧ True
set_option maxRecDepth 100000 in
set_option maxHeartbeats 400000 in
theorem t_firthref11_Text {Γ : Gh} {w0 : World} {H : List Rec → List Int → Option Int} (hH : C_firthref11_Hash H) {Aall : Option Addr} {call : Nat} {all : List Rec} (hall : Sl recT Γ Aall all) (hallc : all.length ≤ call) {Apath : Option Addr} {cpath : Nat} {path : List Int} (hpath : Sl intT Γ Apath path) (hpathc : path.length ≤ cpath) (hp : Pre [] Γ w0) {r : List UInt8} (h : m_firthref11_Text H all path = some r) : Calls Tryz.prog 60 #[.slice Aall all.length call, .slice Apath path.length cpath] w0 (Outc Γ [] w0 (r_firthref11_Text r)) := by
  refine calls_of (N := 47) (rs := [4]) (args := [.slice Aall all.length call, .slice Apath path.length cpath]) Tryz.func60 rfl Tryz.ntmps60 Tryz.results60 rfl ?_
  obtain ⟨F, hF⟩ : ∃ F : Fm, F = ⟨ids [], w0, Γ⟩ := ⟨_, rfl⟩
  refine WC.here (C := CC F Γ []) ?_ (hF ▸ hp.start)
  refine WC.rs ?_
  refine va rfl rfl rfl (q_assign (v := .slice none 0 0) rfl (by kernel_rfl)) ?_
  refine WR.nil ?_
  change WC _ _ _ _ _ _
  refine WC.rs ?_
  refine va rfl rfl rfl (q_assign (v := .slice none 0 0) rfl (by kernel_rfl)) ?_
  refine WR.nil ?_
  change WC _ _ _ _ _ _
  refine WC.rs ?_
  refine va rfl rfl rfl (q_move (v := .slice Aall all.length call) rfl (by kernel_rfl)) ?_
  refine va rfl rfl rfl (q_move (v := .slice Apath path.length cpath) rfl (by kernel_rfl)) ?_
  obtain ⟨z1, hz2, h⟩ := bnd h
  refine e_call (is := []) rfl rfl (call_run Tryz.call45 rfl rfl (by kernel_rfl)) rfl (fun w hp => t_firthref11_Recs hall hallc hpath hpathc hp hz2) ?_
  rintro Γ3 U5 v6 hl4 ⟨A7, c8, row9, rfl, rfl, hr10, _⟩
  change WR _ _ _ (CC F Γ3 [row9]) _ _ (upd _ 11 (.slice A7 z1.length c8))
  refine va rfl rfl rfl (q_assign (v := .slice A7 z1.length c8) rfl (by kernel_rfl)) ?_
  refine WR.nil ?_
  change WC _ _ _ _ _ _
  refine WC.seq ?_
  refine WC.rs ?_
  refine va rfl rfl rfl (q_move (v := .slice Apath path.length cpath) rfl (by kernel_rfl)) ?_
  refine va rfl rfl rfl (q_len_slice rfl Tryz.underlying23 rfl) ?_
  refine va rfl rfl rfl (q_eql rfl rfl rfl) ?_
  refine WR.nil ?_
  change WC _ _ _ _ _ _
  refine WC.cif h (by kernel_rfl) (fun hb11 h => ?_) (fun hb11 h => ?_)
  · skip
    refine WC.seq ?_
    refine WC.rs ?_
    refine va rfl rfl rfl (q_assign (v := .int .i64 0) rfl (by kernel_rfl)) ?_
    refine WR.nil ?_
    change WC _ _ _ _ _ _
    refine WC.block ?_
    refine WC.forI h (fun (i20 : Nat) (b_14 : List UInt8) σ w => ∃ (Γ12 : Gh), ∃ (A15 : Option Addr), ∃ (c16 : Nat), ∃ (row17 : Rowb), slots σ [(5, .slice A15 b_14.length c16), (6, .slice A7 z1.length c8), (7, .int .i64 ((i20 : Nat) : Int))] ∧ CC F Γ12 [row17, row9] w ∧ Gh.le Γ3 Γ12 ∧ Own byteT Γ12 5 row17 A15 c16 b_14 ∧ True) ?_ ?_
    · skip
      intro w hw
      have hw := hw.pad
      exact ⟨Γ3, none, 0, [], (sl_ (by kernel_rfl)), hw, (Gh.refl _), (Own.nil byteT _ 5), trivial⟩
    rintro f19 i20 b_14 σ w hi21 hlt22 hge23 ⟨Γ12, A15, c16, row17, hsl, hw, hl13, ho18, -⟩
    refine Wpt.slots hsl ?_
    refine WC.here (C := CC F Γ12 [row17, row9]) ?_ hw
    clear hw hsl
    refine WC.seq ?_
    refine WC.rs ?_
    refine va rfl rfl rfl (q_move (v := .int .i64 ((i20 : Nat) : Int)) rfl (by kernel_rfl)) ?_
    refine va rfl rfl rfl (q_move (v := .slice A7 z1.length c8) rfl (by kernel_rfl)) ?_
    refine va rfl rfl rfl (q_len_slice rfl Tryz.underlying22 rfl) ?_
    refine va rfl rfl rfl (q_lss rfl rfl rfl) ?_
    refine WR.nil ?_
    change WC _ _ _ _ _ _
    refine WC.cond (b := (decide (((i20 : Nat) : Int) < ((z1.length : Nat) : Int)))) (by kernel_rfl) (fun hb24 => ?_) (fun hb24 => ?_)
    · skip
      have hl25 := ilt hb24
      have h := hlt22 hl25
      refine WC.skip ?_
      change WC _ _ _ _ _ _
      refine WC.seq ?_
      refine WC.block ?_
      intro w hw; have h026 := hw.le
      refine WC.here (C := CC F Γ12 [row17, row9]) ?_ hw; clear hw
      refine WC.held (CC F Γ12 [row9]) (by kernel_rfl) (fun w hw => hw.drawn _) ?_
      change WH _ _ _ _ (CC F Γ12 [row17, row9]) _ 14 #[false, false, false, false, false, false, false, false, false, false, false, false, false, false] _
      refine ht (i := 0) rfl (by kernel_rfl) rfl rfl rfl (fun w hw => hw.back (Gh.refl _) h026 (.cons _ (.cons_cons _ .slnil))) (q_move (v := .slice A15 b_14.length c16) rfl (by kernel_rfl)) ?_
      refine ht (i := 1) rfl (by kernel_rfl) rfl rfl rfl (fun w hw => hw.back (Gh.refl _) h026 (.cons _ (.cons_cons _ .slnil))) (q_move (v := .slice A7 z1.length c8) rfl (by kernel_rfl)) ?_
      refine ht (i := 2) rfl (by kernel_rfl) rfl rfl rfl (fun w hw => hw.back (Gh.refl _) h026 (.cons _ (.cons_cons _ .slnil))) (q_move (v := .int .i64 ((i20 : Nat) : Int)) rfl (by kernel_rfl)) ?_
      refine ht (i := 3) rfl (by kernel_rfl) rfl rfl rfl (fun w hw => hw.back (Gh.refl _) h026 (.cons _ (.cons_cons _ .slnil))) (q_ixn (i := i20) Tryz.underlying22 Tryz.sizeOf51 rfl rfl rfl hl25 ((hr10.mono hl13).some_ hl25)) ?_
      refine ht (i := 4) rfl (by kernel_rfl) rfl rfl rfl (fun w hw => hw.back (Gh.refl _) h026 (.cons _ (.cons_cons _ .slnil))) (q_field_addr (i20 * 2) fld_51_0 rfl rfl ((hr10.mono hl13).some_ hl25) rfl) ?_
      obtain ⟨A27, c28, hx29⟩ := (hr10.mono hl13).recT_at i20
      refine ht (i := 5) rfl (by kernel_rfl) rfl rfl rfl (fun w hw => hw.back (Gh.refl _) h026 (.cons _ (.cons_cons _ .slnil))) (q_ldo (c := 0) (v := .string (gt z1 i20).key) (i := 0) rfl (hx29 hl25).2 rfl Tryz.isAgg9 rfl rfl) ?_
      refine ht (i := 6) rfl (by kernel_rfl) rfl rfl rfl (fun w hw => hw.back (Gh.refl _) h026 (.cons _ (.cons_cons _ .slnil))) (q_move (v := .slice A7 z1.length c8) rfl (by kernel_rfl)) ?_
      refine ht (i := 7) rfl (by kernel_rfl) rfl rfl rfl (fun w hw => hw.back (Gh.refl _) h026 (.cons _ (.cons_cons _ .slnil))) (q_move (v := .int .i64 ((i20 : Nat) : Int)) rfl (by kernel_rfl)) ?_
      refine ht (i := 8) rfl (by kernel_rfl) rfl rfl rfl (fun w hw => hw.back (Gh.refl _) h026 (.cons _ (.cons_cons _ .slnil))) (q_ixn (i := i20) Tryz.underlying22 Tryz.sizeOf51 rfl rfl rfl hl25 ((hr10.mono hl13).some_ hl25)) ?_
      refine ht (i := 9) rfl (by kernel_rfl) rfl rfl rfl (fun w hw => hw.back (Gh.refl _) h026 (.cons _ (.cons_cons _ .slnil))) (q_field_addr (i20 * 2 + 1) fld_51_1 rfl rfl ((hr10.mono hl13).some_ hl25) rfl) ?_
      refine ht (i := 10) rfl (by kernel_rfl) rfl rfl rfl (fun w hw => hw.back (Gh.refl _) h026 (.cons _ (.cons_cons _ .slnil))) (q_ldo (c := 1) (v := .slice A27 ((gt z1 i20).vers).length c28) (i := 0) rfl (hx29 hl25).2 rfl Tryz.isAgg48 rfl rfl) ?_
      refine WH.lone (i := 11) (by kernel_rfl) rfl ?_
      obtain ⟨z30, hz31, h⟩ := bnd h
      refine vc rfl rfl rfl (q_call (call_run Tryz.call86 rfl rfl (by kernel_rfl)) (fun w hw => t_firthref05_Mark (Γ := Gh.all w) ((gt z1 i20).key) (hx29 hl25).1.1 ((hx29 hl25).1.2.2.mono hw.sat.le_all) (hx29 hl25).1.2.1 (Sat.all w) hz31)) ?_
      refine WR.nil ?_
      refine WH.next (fun w hw => hw.back (Gh.refl _) h026 (.cons _ (.cons_cons _ .slnil))) ?_
      refine WH.lone (i := 12) (by kernel_rfl) rfl ?_
      obtain ⟨hk32, h⟩ := chk_some h
      obtain ⟨z33, hz34, h⟩ := bnd h
      refine e_call (is := [0]) rfl rfl (call_run Tryz.call85 rfl rfl (by kernel_rfl)) rfl (fun w hp => t_firthref11_halves ho18 z30 (u64b_of hk32) hp hz34) ?_
      rintro Γ35 U37 v38 hl36 ⟨A39, c40, row41, rfl, rfl, hr42, _⟩
      change WR _ _ _ (CC F Γ35 [row41, row9]) _ _ (upd _ 33 (.slice A39 z33.length c40))
      refine WR.nil ?_
      refine WH.next (fun w hw => hw.back hl36 h026 (.cons _ (.cons_cons _ .slnil))) ?_
      refine ht (i := 13) rfl (by kernel_rfl) rfl rfl rfl (fun w hw => hw.back hl36 h026 (.cons _ (.cons_cons _ .slnil))) (q_assign (v := .slice A39 z33.length c40) rfl (by kernel_rfl)) ?_
      refine WH.done (by kernel_rfl) ?_
      change WC _ _ _ _ _ _
      refine WC.region ?_
      refine va rfl rfl rfl (q_move (v := .int .i64 ((i20 : Nat) : Int)) rfl (by kernel_rfl)) ?_
      refine va rfl rfl rfl (q_add_r (r := ((i20 + 1 : Nat) : Int)) rfl rfl rfl (ctr_len hl25 (hr10.mono hl13).le)) ?_
      refine va rfl rfl rfl (q_assign (v := .int .i64 ((i20 + 1 : Nat) : Int)) rfl (by kernel_rfl)) ?_
      refine WR.nil ?_
      intro w hw
      exact ⟨hl25, z33, h, Γ35, A39, c40, row41, (sl_ (by kernel_rfl)), hw, (hl13.trans hl36), hr42, trivial⟩
    · skip
      have h := hge23 (ige hb24)
      refine WC.exit ?_
      change WC _ _ _ _ _ _
      refine WC.rs ?_
      refine va rfl rfl rfl (q_move (v := .slice A15 b_14.length c16) rfl (by kernel_rfl)) ?_
      refine va rfl rfl rfl (q_assign (v := .slice A15 b_14.length c16) rfl (by kernel_rfl)) ?_
      refine WR.nil ?_
      change WC _ _ _ _ _ _
      refine WC.ret ?_
      intro w hw
      obtain rfl := Option.some.inj h
      subst hF
      exact end_e (is := [0]) (by kernel_rfl) hw rfl ⟨A15, c16, row17, rfl, rfl, ho18, trivial⟩
  · skip
    refine WC.skip ?_
    change WC _ _ _ _ _ _
    refine WC.seq ?_
    refine WC.rs ?_
    refine va rfl rfl rfl (q_assign (v := .int .i64 0) rfl (by kernel_rfl)) ?_
    refine WR.nil ?_
    change WC _ _ _ _ _ _
    refine WC.block ?_
    refine WC.forU h (fun (i51 : Nat) (b_45 : List UInt8) σ w => ∃ (Γ43 : Gh), ∃ (A46 : Option Addr), ∃ (c47 : Nat), ∃ (row48 : Rowb), slots σ [(1, .slice Apath path.length cpath), (5, .slice A46 b_45.length c47), (6, .slice A7 z1.length c8), (8, .int .i64 ((i51 : Nat) : Int))] ∧ CC F Γ43 [row48, row9] w ∧ Gh.le Γ3 Γ43 ∧ Own byteT Γ43 5 row48 A46 c47 b_45 ∧ True) ?_ ?_
    · skip
      intro w hw
      have hw := hw.pad
      exact ⟨Γ3, none, 0, [], (sl_ (by kernel_rfl)), hw, (Gh.refl _), (Own.nil byteT _ 5), trivial⟩
    rintro f50 i51 b_45 σ w hi52 hlt53 hge54 ⟨Γ43, A46, c47, row48, hsl, hw, hl44, ho49, -⟩
    refine Wpt.slots hsl ?_
    refine WC.here (C := CC F Γ43 [row48, row9]) ?_ hw
    clear hw hsl
    refine WC.seq ?_
    refine WC.rs ?_
    refine va rfl rfl rfl (q_move (v := .int .i64 ((i51 : Nat) : Int)) rfl (by kernel_rfl)) ?_
    refine va rfl rfl rfl (q_lss rfl rfl rfl) ?_
    refine WR.nil ?_
    change WC _ _ _ _ _ _
    refine WC.cond (b := (decide (((i51 : Nat) : Int) < 16))) (by kernel_rfl) (fun hb55 => ?_) (fun hb55 => ?_)
    · skip
      have hl56 := ilt hb55
      have h := hlt53 hl56
      refine WC.skip ?_
      change WC _ _ _ _ _ _
      refine WC.seq ?_
      refine WC.block ?_
      refine WC.region ?_
      refine va rfl rfl rfl (q_move (v := .slice A46 b_45.length c47) rfl (by kernel_rfl)) ?_
      refine va rfl rfl rfl (q_move (v := .slice A7 z1.length c8) rfl (by kernel_rfl)) ?_
      refine va rfl rfl rfl (q_move (v := .slice Apath path.length cpath) rfl (by kernel_rfl)) ?_
      refine va rfl rfl rfl (q_move (v := .int .i64 ((i51 : Nat) : Int)) rfl (by kernel_rfl)) ?_
      obtain ⟨z57, hz58, h⟩ := bnd h
      refine e_call (is := []) rfl rfl (call_run Tryz.call36 rfl rfl (by kernel_rfl)) rfl (fun w hp => t_firthref11_longer (hpath.mono (hl4.trans hl44)) hpathc ((i51 : Nat) : Int) (ctr_lit0 hl56 (by decide)) hp hz58) ?_
      rintro Γ59 U61 v62 hl60 ⟨A63, c64, row65, rfl, rfl, hr66, _⟩
      change WR _ _ _ (CC F Γ59 [row65, row48, row9]) _ _ (upd _ 43 (.slice A63 z57.length c64))
      obtain ⟨z67, hz68, h⟩ := bnd h
      refine vc rfl rfl rfl (q_call (call_run Tryz.call35 rfl rfl (by kernel_rfl)) (fun w hw => hH (Γ := Gh.all w) ((hr10.mono (hl44.trans hl60)).sl hw.sat.le_all (hw.ra 2 rfl)) (hr10.mono (hl44.trans hl60)).capz (hr66.sl hw.sat.le_all (hw.ra 0 rfl)) hr66.capz (Sat.all w) hz68)) ?_
      obtain ⟨hk69, h⟩ := chk_some h
      obtain ⟨z70, hz71, h⟩ := bnd h
      refine e_call (is := [1]) rfl rfl (call_run Tryz.call85 rfl rfl (by kernel_rfl)) rfl (fun w hp => t_firthref11_halves (ho49.mono hl60) z67 (u64b_of hk69) hp hz71) ?_
      rintro Γ72 U74 v75 hl73 ⟨A76, c77, row78, rfl, rfl, hr79, _⟩
      change WR _ _ _ (CC F Γ72 [row78, row65, row9]) _ _ (upd _ 45 (.slice A76 z70.length c77))
      refine va rfl rfl rfl (q_assign (v := .slice A76 z70.length c77) rfl (by kernel_rfl)) ?_
      refine WR.nil ?_
      change WC _ _ _ _ _ _
      refine WC.region ?_
      refine va rfl rfl rfl (q_move (v := .int .i64 ((i51 : Nat) : Int)) rfl (by kernel_rfl)) ?_
      refine va rfl rfl rfl (q_add_r (r := ((i51 + 1 : Nat) : Int)) rfl rfl rfl (ctr_lit hl56 (by decide))) ?_
      refine va rfl rfl rfl (q_assign (v := .int .i64 ((i51 + 1 : Nat) : Int)) rfl (by kernel_rfl)) ?_
      refine WR.nil ?_
      intro w hw
      exact ⟨hl56, z70, h, Γ72, A76, c77, row78, (sl_ (by kernel_rfl)), (hw.only (is := [0, 1]) rfl), ((hl44.trans hl60).trans hl73), hr79, trivial⟩
    · skip
      have h := hge54 (ige hb55)
      refine WC.exit ?_
      change WC _ _ _ _ _ _
      refine WC.rs ?_
      refine va rfl rfl rfl (q_move (v := .slice A46 b_45.length c47) rfl (by kernel_rfl)) ?_
      refine va rfl rfl rfl (q_assign (v := .slice A46 b_45.length c47) rfl (by kernel_rfl)) ?_
      refine WR.nil ?_
      change WC _ _ _ _ _ _
      refine WC.ret ?_
      intro w hw
      obtain rfl := Option.some.inj h
      subst hF
      exact end_e (is := [0]) (by kernel_rfl) hw rfl ⟨A46, c47, row48, rfl, rfl, ho49, trivial⟩
set_option maxRecDepth 100000 in
set_option maxHeartbeats 400000 in
theorem t_firthref11_Hash_o {Γ : Gh} {w0 : World} {H : List Rec → List Int → Option Int} (hH : C_firthref11_Hash H) {Aall : Option Addr} {call : Nat} {all : List Rec} (hall : Sl recT Γ Aall all) (hallc : all.length ≤ call) {Apath : Option Addr} {cpath : Nat} {path : List Int} (hpath : Sl intT Γ Apath path) (hpathc : path.length ≤ cpath) (hs : Sat Γ w0) {r : Int} (h : m_firthref11_Hash_o H all path = some r) : Calls Tryz.prog 35 #[.slice Aall all.length call, .slice Apath path.length cpath] w0 (fun e w' => e = .returned (.int .u64 r) ∧ Fr no w0 w') := by
  refine calls_of (N := 19) (rs := [4]) (args := [.slice Aall all.length call, .slice Apath path.length cpath]) Tryz.func35 rfl Tryz.ntmps35 Tryz.results35 rfl ?_
  obtain ⟨F, hF⟩ : ∃ F : Fm, F = ⟨no, w0, Γ⟩ := ⟨_, rfl⟩
  refine WC.here (C := CC F Γ []) ?_ (hF ▸ Cur.start0 hs)
  refine WC.rs ?_
  refine va rfl rfl rfl (q_assign (v := .int .u64 0) rfl (by kernel_rfl)) ?_
  refine WR.nil ?_
  change WC _ _ _ _ _ _
  refine WC.seq ?_
  refine WC.rs ?_
  refine va rfl rfl rfl (q_move (v := .slice Apath path.length cpath) rfl (by kernel_rfl)) ?_
  obtain ⟨z1, hz2, h⟩ := bnd h
  refine vc rfl rfl rfl (q_call (call_run Tryz.call34 rfl rfl (by kernel_rfl)) (fun w hw => t_firthref11_Path (Γ := Gh.all w) (hpath.mono hw.sat.le_all) hpathc (Sat.all w) hz2)) ?_
  refine va rfl rfl rfl (q_not rfl rfl) ?_
  refine va rfl rfl rfl (q_move (v := .bool (!z1)) rfl (by kernel_rfl)) ?_
  refine vg0 rfl rfl rfl rfl rfl (fun hg3 => QV.qo (q_move (v := .slice Aall all.length call) rfl (by kernel_rfl))) ?_
  refine vg0 rfl rfl rfl rfl rfl (fun hg4 => QV.qo (q_move (v := .slice Apath path.length cpath) rfl (by kernel_rfl))) ?_
  refine (Bool.eq_false_or_eq_true (!(!z1))).elim (fun hb5 => ?_) (fun hb5 => ?_)
  · skip
    have h := bt hb5 h
    refine WR.sat (c0 := true) (g := (!z1)) rfl rfl rfl hb5 ?_
    obtain ⟨z6, hz7, h⟩ := bnd h
    refine e_call (is := []) rfl rfl (call_run Tryz.call45 rfl rfl (args2 (gu hb5 rfl) (gu hb5 rfl))) rfl (fun w hp => t_firthref11_Recs hall hallc hpath hpathc hp hz7) ?_
    rintro Γ8 U10 v11 hl9 ⟨A12, c13, row14, rfl, rfl, hr15, _⟩
    change WR _ _ _ (CC F Γ8 [row14]) _ _ (upd _ 11 (.slice A12 z6.length c13))
    refine WR.sat (c0 := true) (g := (!z1)) rfl rfl rfl hb5 ?_
    refine va rfl rfl rfl (q_len_slice rfl Tryz.underlying22 rfl) ?_
    refine WR.sat (c0 := true) (g := (!z1)) rfl rfl rfl hb5 ?_
    refine va rfl rfl rfl (q_eql rfl rfl rfl) ?_
    refine va rfl rfl rfl (q_pick_f (v := .bool (((z6.length : Nat) : Int) == 0)) rfl rfl (not_t hb5) (by kernel_rfl)) ?_
    refine WR.nil ?_
    change WC _ _ _ _ _ _
    refine WC.cif h (by kernel_rfl) (fun hb16 h => ?_) (fun hb16 h => ?_)
    · skip
      refine WC.rs ?_
      refine va rfl rfl rfl (q_assign (v := .int .u64 0) rfl (by kernel_rfl)) ?_
      refine WR.nil ?_
      change WC _ _ _ _ _ _
      refine WC.ret ?_
      intro w hw
      obtain rfl := Option.some.inj h
      subst hF
      exact ⟨by kernel_rfl, hw.fr⟩
    · skip
      refine WC.skip ?_
      change WC _ _ _ _ _ _
      refine WC.rs ?_
      refine va rfl rfl rfl (q_move (v := .slice Aall all.length call) rfl (by kernel_rfl)) ?_
      refine va rfl rfl rfl (q_move (v := .slice Apath path.length cpath) rfl (by kernel_rfl)) ?_
      obtain ⟨z17, hz18, h⟩ := bnd h
      refine e_call (is := []) rfl rfl (call_run Tryz.call60 rfl rfl (by kernel_rfl)) rfl (fun w hp => t_firthref11_Text hH (hall.mono hl9) hallc (hpath.mono hl9) hpathc hp hz18) ?_
      rintro Γ19 U21 v22 hl20 ⟨A23, c24, row25, rfl, rfl, hr26, _⟩
      change WR _ _ _ (CC F Γ19 [row25, row14]) _ _ (upd _ 17 (.slice A23 z17.length c24))
      obtain ⟨z27, hz28, h⟩ := bnd h
      refine vc rfl rfl rfl (q_call (call_run Tryz.call58 rfl rfl (by kernel_rfl)) (fun w hw => t_firthref01_Hash (Γ := Gh.all w) (hr26.sl hw.sat.le_all (hw.ra 0 rfl)) hr26.capz (Sat.all w) hz28)) ?_
      refine va rfl rfl rfl (q_assign (v := .int .u64 z27) rfl (by kernel_rfl)) ?_
      refine WR.nil ?_
      change WC _ _ _ _ _ _
      refine WC.ret ?_
      intro w hw
      obtain rfl := Option.some.inj h
      subst hF
      exact ⟨by kernel_rfl, hw.fr⟩
  · skip
    have h := bf hb5 h
    refine WR.unsat (c0 := true) (g := (!z1)) rfl rfl rfl hb5 rfl ?_
    refine WR.unsat (c0 := true) (g := (!z1)) rfl rfl rfl hb5 rfl ?_
    refine WR.unsat (c0 := true) (g := (!z1)) rfl rfl rfl hb5 rfl ?_
    refine va rfl rfl rfl (q_pick_t (v := .bool true) rfl rfl (not_f hb5) (by kernel_rfl)) ?_
    refine WR.nil ?_
    change WC _ _ _ _ _ _
    refine WC.ctk (b := true) (by kernel_rfl) rfl ?_
    refine WC.rs ?_
    refine va rfl rfl rfl (q_assign (v := .int .u64 0) rfl (by kernel_rfl)) ?_
    refine WR.nil ?_
    change WC _ _ _ _ _ _
    refine WC.ret ?_
    intro w hw
    obtain rfl := Option.some.inj h
    subst hF
    exact ⟨by kernel_rfl, hw.fr⟩
theorem t_firthref11_Hash_n (n : Nat) : C_firthref11_Hash (m_firthref11_Hash_n n) := by
  induction n with
  | zero => intro Γ w0 Aall call all hall hallc Apath cpath path hpath hpathc hs r h; exact absurd h (by simp [m_firthref11_Hash_n])
  | succ n ih => intro Γ w0 Aall call all hall hallc Apath cpath path hpath hpathc hs r h; exact t_firthref11_Hash_o ih hall hallc hpath hpathc hs h

theorem t_firthref11_Hash {Γ : Gh} {w0 : World} {Aall : Option Addr} {call : Nat} {all : List Rec} (hall : Sl recT Γ Aall all) (hallc : all.length ≤ call) {Apath : Option Addr} {cpath : Nat} {path : List Int} (hpath : Sl intT Γ Apath path) (hpathc : path.length ≤ cpath) (hs : Sat Γ w0) {r : Int} (h : m_firthref11_Hash all path = some r) : Calls Tryz.prog 35 #[.slice Aall all.length call, .slice Apath path.length cpath] w0 (fun e w' => e = .returned (.int .u64 r) ∧ Fr no w0 w') := by
  exact t_firthref11_Hash_n 3 hall hallc hpath hpathc hs h

abbrev r_firthref14_Get (r : List Ver) (U : List Rowb) (Γ : Gh) (v : Value) : Prop := ∃ (A0 : Option Addr), ∃ (c0 : Nat), v = .slice A0 r.length c0 ∧ U = [] ∧ r.length ≤ c0 ∧ Sl verT Γ A0 r ∧ True
set_option maxRecDepth 100000 in
set_option maxHeartbeats 400000 in
theorem t_firthref14_Get {Γ : Gh} {w0 : World} {Al : Option Addr} {cl : Nat} {l : List Rec} (hl : Sl recT Γ Al l) (hlc : l.length ≤ cl) (key : ByteArray) (hkey : key.size ≤ lim) (hp : Pre [] Γ w0) {r : List Ver} (h : m_firthref14_Get l key = some r) : Calls Tryz.prog 26 #[.slice Al l.length cl, .string key] w0 (Outc Γ [] w0 (r_firthref14_Get r)) := by
  refine calls_of (N := 24) (rs := [4]) (args := [.slice Al l.length cl, .string key]) Tryz.func26 rfl Tryz.ntmps26 Tryz.results26 rfl ?_
  obtain ⟨F, hF⟩ : ∃ F : Fm, F = ⟨ids [], w0, Γ⟩ := ⟨_, rfl⟩
  refine WC.here (C := CC F Γ []) ?_ (hF ▸ hp.start)
  refine WC.rs ?_
  refine va rfl rfl rfl (q_assign (v := .slice none 0 0) rfl (by kernel_rfl)) ?_
  refine WR.nil ?_
  change WC _ _ _ _ _ _
  refine WC.seq ?_
  refine WC.rs ?_
  refine va rfl rfl rfl (q_assign (v := .int .i64 0) rfl (by kernel_rfl)) ?_
  refine WR.nil ?_
  change WC _ _ _ _ _ _
  refine WC.block ?_
  refine WC.forI h (fun (i2 : Nat) (s : Unit) σ w => match s with | () => slots σ [(0, .slice Al l.length cl), (1, .string key), (5, .int .i64 ((i2 : Nat) : Int))] ∧ CC F Γ [] w ∧ True) ?_ ?_
  · skip
    intro w hw
    exact ⟨(sl_ (by kernel_rfl)), hw, trivial⟩
  rintro f1 i2 ⟨⟩ σ w hi3 hlt4 hge5 ⟨hsl, hw, -⟩
  refine Wpt.slots hsl ?_
  refine WC.here (C := CC F Γ []) ?_ hw
  clear hw hsl
  refine WC.seq ?_
  refine WC.rs ?_
  refine va rfl rfl rfl (q_move (v := .int .i64 ((i2 : Nat) : Int)) rfl (by kernel_rfl)) ?_
  refine va rfl rfl rfl (q_move (v := .slice Al l.length cl) rfl (by kernel_rfl)) ?_
  refine va rfl rfl rfl (q_len_slice rfl Tryz.underlying22 rfl) ?_
  refine va rfl rfl rfl (q_lss rfl rfl rfl) ?_
  refine WR.nil ?_
  change WC _ _ _ _ _ _
  refine WC.cond (b := (decide (((i2 : Nat) : Int) < ((l.length : Nat) : Int)))) (by kernel_rfl) (fun hb6 => ?_) (fun hb6 => ?_)
  · skip
    have hl7 := ilt hb6
    have h := hlt4 hl7
    refine WC.skip ?_
    change WC _ _ _ _ _ _
    refine WC.seq ?_
    refine WC.block ?_
    refine WC.rs ?_
    refine va rfl rfl rfl (q_move (v := .slice Al l.length cl) rfl (by kernel_rfl)) ?_
    refine va rfl rfl rfl (q_move (v := .int .i64 ((i2 : Nat) : Int)) rfl (by kernel_rfl)) ?_
    refine va rfl rfl rfl (q_ixn (i := i2) Tryz.underlying22 Tryz.sizeOf51 rfl rfl rfl hl7 (hl.some_ hl7)) ?_
    refine va rfl rfl rfl (q_field_addr (i2 * 2) fld_51_0 rfl rfl (hl.some_ hl7) rfl) ?_
    obtain ⟨A8, c9, hx10⟩ := hl.recT_at i2
    refine va rfl rfl rfl (q_ld (c := 0) (v := .string (gt l i2).key) (hx10 hl7).2 rfl Tryz.isAgg9 rfl rfl) ?_
    refine va rfl rfl rfl (q_move (v := .string key) rfl (by kernel_rfl)) ?_
    refine va rfl rfl rfl (q_seql rfl rfl rfl) ?_
    refine WR.nil ?_
    change WC _ _ _ _ _ _
    refine WC.cif h (by kernel_rfl) (fun hb11 h => ?_) (fun hb11 h => ?_)
    · skip
      refine WC.rs ?_
      refine va rfl rfl rfl (q_move (v := .slice Al l.length cl) rfl (by kernel_rfl)) ?_
      refine va rfl rfl rfl (q_move (v := .int .i64 ((i2 : Nat) : Int)) rfl (by kernel_rfl)) ?_
      refine va rfl rfl rfl (q_ixn (i := i2) Tryz.underlying22 Tryz.sizeOf51 rfl rfl rfl hl7 (hl.some_ hl7)) ?_
      refine va rfl rfl rfl (q_field_addr (i2 * 2 + 1) fld_51_1 rfl rfl (hl.some_ hl7) rfl) ?_
      refine va rfl rfl rfl (q_ld (c := 1) (v := .slice A8 ((gt l i2).vers).length c9) (hx10 hl7).2 rfl Tryz.isAgg48 rfl rfl) ?_
      refine va rfl rfl rfl (q_assign (v := .slice A8 ((gt l i2).vers).length c9) rfl (by kernel_rfl)) ?_
      refine WR.nil ?_
      change WC _ _ _ _ _ _
      refine WC.ret ?_
      intro w hw
      obtain rfl := Option.some.inj h
      subst hF
      exact end_e (is := []) (by kernel_rfl) hw rfl ⟨A8, c9, rfl, rfl, (hx10 hl7).1.2.1, (hx10 hl7).1.2.2, trivial⟩
    · skip
      refine WC.skip ?_
      change WC _ _ _ _ _ _
      refine WC.region ?_
      refine va rfl rfl rfl (q_move (v := .int .i64 ((i2 : Nat) : Int)) rfl (by kernel_rfl)) ?_
      refine va rfl rfl rfl (q_add_r (r := ((i2 + 1 : Nat) : Int)) rfl rfl rfl (ctr_len hl7 hl.le)) ?_
      refine va rfl rfl rfl (q_assign (v := .int .i64 ((i2 + 1 : Nat) : Int)) rfl (by kernel_rfl)) ?_
      refine WR.nil ?_
      intro w hw
      exact ⟨hl7, (), h, (sl_ (by kernel_rfl)), hw, trivial⟩
  · skip
    have h := hge5 (ige hb6)
    refine WC.exit ?_
    change WC _ _ _ _ _ _
    refine WC.rs ?_
    refine va rfl rfl rfl (q_assign (v := .slice none 0 0) rfl (by kernel_rfl)) ?_
    refine WR.nil ?_
    change WC _ _ _ _ _ _
    refine WC.ret ?_
    intro w hw
    obtain rfl := Option.some.inj h
    subst hF
    exact end_e (is := []) (by kernel_rfl) hw rfl ⟨none, 0, rfl, rfl, (Nat.zero_le 0), (Sl.nil verT _ none), trivial⟩
abbrev r_firthref05_put (r : List Ver) (U : List Rowb) (Γ : Gh) (v : Value) : Prop := ∃ (A0 : Option Addr), ∃ (c0 : Nat), v = .slice A0 r.length c0 ∧ U = [] ∧ r.length ≤ c0 ∧ Sl verT Γ A0 r ∧ True
set_option maxRecDepth 100000 in
set_option maxHeartbeats 400000 in
theorem t_firthref05_put {Γ : Gh} {w0 : World} {Al : Option Addr} {cl : Nat} {l : List Ver} (hl : Sl verT Γ Al l) (hlc : l.length ≤ cl) {Av_2 : Option Addr} {cv_2 : Nat} (v_ : Ver) (hv_ : Ver.fits Γ Av_2 cv_2 v_) (hp : Pre [] Γ w0) {r : List Ver} (h : m_firthref05_put l v_ = some r) : Calls Tryz.prog 72 #[.slice Al l.length cl, .agg #[.int .i64 v_.dot.s, .int .i64 v_.dot.n, .slice Av_2 v_.past.length cv_2, .bool v_.gone, .string v_.val]] w0 (Outc Γ [] w0 (r_firthref05_put r)) := by
  refine calls_of (N := 52) (rs := [4]) (args := [.slice Al l.length cl, .agg #[.int .i64 v_.dot.s, .int .i64 v_.dot.n, .slice Av_2 v_.past.length cv_2, .bool v_.gone, .string v_.val]]) Tryz.func72 rfl Tryz.ntmps72 Tryz.results72 rfl ?_
  obtain ⟨F, hF⟩ : ∃ F : Fm, F = ⟨ids [], w0, Γ⟩ := ⟨_, rfl⟩
  refine WC.here (C := CC F Γ []) ?_ (hF ▸ hp.start)
  refine WC.rs ?_
  refine e_box (v := .agg #[.int .i64 v_.dot.s, .int .i64 v_.dot.n, .slice Av_2 v_.past.length cv_2, .bool v_.gone, .string v_.val]) rfl rfl rfl rfl (by kernel_rfl) ?_
  intro g1
  refine va rfl rfl rfl (q_assign (v := .slice none 0 0) rfl (by kernel_rfl)) ?_
  refine WR.nil ?_
  change WC _ _ _ _ _ _
  refine WC.rs ?_
  refine va rfl rfl rfl (q_assign (v := .int .i64 0) rfl (by kernel_rfl)) ?_
  refine WR.nil ?_
  change WC _ _ _ _ _ _
  refine WC.seq ?_
  refine WC.block ?_
  refine WC.loopN h (fun (at_2 : Int) σ w => slots σ [(0, .slice Al l.length cl), (3, .pointer (some ⟨g1, 0, none⟩)), (5, .int .i64 at_2)] ∧ CC F Γ [[(g1, .cells #[.int .i64 v_.dot.s, .int .i64 v_.dot.n, .slice Av_2 v_.past.length cv_2, .bool v_.gone, .string v_.val] 57 (0, 0))]] w ∧ I64 at_2 ∧ True) ?_ ?_
  · skip
    intro w hw
    exact ⟨(sl_ (by kernel_rfl)), hw, (show I64 0 by decide), trivial⟩
  rintro f4 at_2 σ w h ⟨hsl, hw, hr3, -⟩
  refine Wpt.slots hsl ?_
  refine WC.here (C := CC F Γ [[(g1, .cells #[.int .i64 v_.dot.s, .int .i64 v_.dot.n, .slice Av_2 v_.past.length cv_2, .bool v_.gone, .string v_.val] 57 (0, 0))]]) ?_ hw
  clear hw hsl
  refine WC.seq ?_
  refine WC.seq ?_
  refine WC.dr (by kernel_rfl) (by kernel_rfl) (fun w hw => hw.drawn _) ?_
  refine wa rfl rfl rfl (q_move (v := .int .i64 at_2) rfl (by kernel_rfl)) ?_
  refine wa rfl rfl rfl (q_move (v := .slice Al l.length cl) rfl (by kernel_rfl)) ?_
  refine wa rfl rfl rfl (q_len_slice rfl Tryz.underlying48 rfl) ?_
  refine wa rfl rfl rfl (q_lss rfl rfl rfl) ?_
  refine wa rfl rfl rfl (q_move (v := .bool (decide (at_2 < ((l.length : Nat) : Int)))) rfl (by kernel_rfl)) ?_
  refine wg1 rfl rfl rfl rfl rfl (fun hg8 => QV.qo (q_move (v := .slice Al l.length cl) rfl (by kernel_rfl))) ?_
  refine wg1 rfl rfl rfl rfl rfl (fun hg9 => QV.qo (q_move (v := .int .i64 at_2) rfl (by kernel_rfl))) ?_
  obtain ⟨hk11, h⟩ := chk_some h
  refine wg1 rfl rfl rfl rfl rfl (fun hg10 => QV.qo (q_ix Tryz.underlying48 Tryz.sizeOf57 rfl (gu hg10 rfl) (gu hg10 rfl) (imp_of hk11 hg10) (hl.some_ (inb_lt (imp_of hk11 hg10))))) ?_
  refine wg1 rfl rfl rfl rfl rfl (fun hg12 => QV.qo (q_field_addr (at_2.toNat * 5) fld_57_0 rfl (gu hg12 rfl) (hl.some_ (inb_lt (imp_of hk11 hg12))) rfl)) ?_
  obtain ⟨A14, c15, hx16⟩ := hl.verT_at at_2.toNat
  refine wg1 rfl rfl rfl rfl rfl (fun hg13 => QV.qo (q_lda (c := 0) (vs := [.int .i64 (gt l at_2.toNat).dot.s, .int .i64 (gt l at_2.toNat).dot.n]) (hx16 (inb_lt (imp_of hk11 hg13))).2 rfl Tryz.isAgg54 Tryz.sizeOf54 (gu hg13 rfl) rfl rfl)) ?_
  refine wg1 rfl rfl rfl rfl rfl (fun hg17 => QV.qo (q_fl 0 fld_57_0 rfl rfl rfl)) ?_
  refine wg1 rfl rfl rfl rfl rfl (fun hg18 => QV.qo (q_ldla (i := 0) (vs := [.int .i64 v_.dot.s, .int .i64 v_.dot.n]) rfl rfl Tryz.isAgg54 Tryz.sizeOf54 (gu hg18 rfl) rfl)) ?_
  obtain ⟨z20, hz21, h⟩ := bnd h
  refine wg1 rfl rfl rfl rfl rfl (fun hg19 => (q_call (call_run Tryz.call84 rfl rfl (args2 (gu hg19 rfl) (gu hg19 rfl))) (fun w hw => t_firthref05_Less (Γ := Gh.all w) ((gt l at_2.toNat).dot) ⟨(hx16 (inb_lt (imp_of hk11 hg19))).1.1, (hx16 (inb_lt (imp_of hk11 hg19))).1.2.1⟩ v_.dot ⟨hv_.1, hv_.2.1⟩ (Sat.all w) (gc_of hz21 hg19)))) ?_
  refine wa rfl rfl rfl (q_pick rfl rfl (pk_and' (g := (decide (at_2 < ((l.length : Nat) : Int)))) (y := z20))) ?_
  refine WQ.nil ?_
  change WC _ _ _ _ _ _
  refine WC.cif h (by kernel_rfl) (fun hb22 h => ?_) (fun hb22 h => ?_)
  · skip
    refine WC.skip ?_
    change WC _ _ _ _ _ _
    refine WC.block ?_
    refine WC.region ?_
    refine va rfl rfl rfl (q_move (v := .int .i64 at_2) rfl (by kernel_rfl)) ?_
    refine va rfl rfl rfl (q_add rfl rfl rfl) ?_
    refine va rfl rfl rfl (q_assign (v := .int .i64 (w64 (at_2 + 1))) rfl (by kernel_rfl)) ?_
    refine WR.nil ?_
    intro w hw
    exact ⟨(w64 (at_2 + 1)), h, (sl_ (by kernel_rfl)), hw, (w64_r _), trivial⟩
  · skip
    refine WC.exit ?_
    change WC _ _ _ _ _ _
    refine WC.seq ?_
    refine WC.seq ?_
    refine WC.dr (by kernel_rfl) (by kernel_rfl) (fun w hw => hw.drawn _) ?_
    refine wa rfl rfl rfl (q_move (v := .int .i64 at_2) rfl (by kernel_rfl)) ?_
    refine wa rfl rfl rfl (q_move (v := .slice Al l.length cl) rfl (by kernel_rfl)) ?_
    refine wa rfl rfl rfl (q_len_slice rfl Tryz.underlying48 rfl) ?_
    refine wa rfl rfl rfl (q_lss rfl rfl rfl) ?_
    refine wa rfl rfl rfl (q_move (v := .bool (decide (at_2 < ((l.length : Nat) : Int)))) rfl (by kernel_rfl)) ?_
    refine wg1 rfl rfl rfl rfl rfl (fun hg23 => QV.qo (q_move (v := .slice Al l.length cl) rfl (by kernel_rfl))) ?_
    refine wg1 rfl rfl rfl rfl rfl (fun hg24 => QV.qo (q_move (v := .int .i64 at_2) rfl (by kernel_rfl))) ?_
    refine wg1 rfl rfl rfl rfl rfl (fun hg25 => QV.qo (q_ix Tryz.underlying48 Tryz.sizeOf57 rfl (gu hg25 rfl) (gu hg25 rfl) (imp_of hk11 hg25) (hl.some_ (inb_lt (imp_of hk11 hg25))))) ?_
    refine wg1 rfl rfl rfl rfl rfl (fun hg26 => QV.qo (q_field_addr (at_2.toNat * 5) fld_57_0 rfl (gu hg26 rfl) (hl.some_ (inb_lt (imp_of hk11 hg26))) rfl)) ?_
    refine wg1 rfl rfl rfl rfl rfl (fun hg27 => QV.qo (q_lda (c := 0) (vs := [.int .i64 (gt l at_2.toNat).dot.s, .int .i64 (gt l at_2.toNat).dot.n]) (hx16 (inb_lt (imp_of hk11 hg27))).2 rfl Tryz.isAgg54 Tryz.sizeOf54 (gu hg27 rfl) rfl rfl)) ?_
    refine wg1 rfl rfl rfl rfl rfl (fun hg28 => QV.qo (q_fl 0 fld_57_0 rfl rfl rfl)) ?_
    refine wg1 rfl rfl rfl rfl rfl (fun hg29 => QV.qo (q_ldla (i := 0) (vs := [.int .i64 v_.dot.s, .int .i64 v_.dot.n]) rfl rfl Tryz.isAgg54 Tryz.sizeOf54 (gu hg29 rfl) rfl)) ?_
    refine wg1 rfl rfl rfl rfl rfl (fun hg30 => QV.qo (q_eql_Dot (a := (gt l at_2.toNat).dot) (b := v_.dot) rfl (gu hg30 rfl) (gu hg30 rfl))) ?_
    refine wa rfl rfl rfl (q_pick rfl rfl (pk_and' (g := (decide (at_2 < ((l.length : Nat) : Int)))) (y := ((gt l at_2.toNat).dot == v_.dot)))) ?_
    refine WQ.nil ?_
    change WC _ _ _ _ _ _
    refine WC.cif h (by kernel_rfl) (fun hb31 h => ?_) (fun hb31 h => ?_)
    · skip
      refine WC.rs ?_
      refine va rfl rfl rfl (q_move (v := .slice Al l.length cl) rfl (by kernel_rfl)) ?_
      refine va rfl rfl rfl (q_assign (v := .slice Al l.length cl) rfl (by kernel_rfl)) ?_
      refine WR.nil ?_
      change WC _ _ _ _ _ _
      refine WC.ret ?_
      intro w hw
      obtain rfl := Option.some.inj h
      subst hF
      exact end_e (is := []) (by kernel_rfl) hw rfl ⟨Al, cl, rfl, rfl, hlc, hl, trivial⟩
    · skip
      refine WC.skip ?_
      change WC _ _ _ _ _ _
      refine WC.rs ?_
      refine va rfl rfl rfl (q_assign (v := .slice none 0 0) rfl (by kernel_rfl)) ?_
      refine WR.nil ?_
      change WC _ _ _ _ _ _
      refine WC.rs ?_
      refine va rfl rfl rfl (q_move (v := .slice none 0 0) rfl (by kernel_rfl)) ?_
      refine va rfl rfl rfl (q_move (v := .slice Al l.length cl) rfl (by kernel_rfl)) ?_
      refine va rfl rfl rfl (q_move (v := .int .i64 at_2) rfl (by kernel_rfl)) ?_
      obtain ⟨hk32, h⟩ := chk_some h
      refine va rfl rfl rfl (q_cut_to (c := cl) (hi := at_2.toNat) (xs := l) Tryz.underlying48 Tryz.sizeOf57 rfl rfl (inle_eq rfl hk32) (inle_le hk32) hlc) ?_
      refine WR.sub (fun w hw => hw.pad) ?_
      obtain ⟨hk33, h⟩ := chk_some h
      refine e_append (T := verT) (xs := []) (ys := (List.take at_2.toNat l)) elem_48 (i := 0) rfl rfl rfl rfl (by kernel_rfl) rfl rfl (Own.nil verT Γ 57) (of_decide_eq_true hk33) (fun w hw => src_sl (hl.cut_to (hi := at_2.toNat) (inle_le hk32)) hw) ?_
      intro row34 A35 c36 ho37
      refine va rfl rfl rfl (q_assign (v := .slice A35 (List.take at_2.toNat l).length c36) rfl (by kernel_rfl)) ?_
      refine WR.nil ?_
      change WC _ _ _ _ _ _
      refine WC.rs ?_
      refine va rfl rfl rfl (q_move (v := .slice A35 (List.take at_2.toNat l).length c36) rfl (by kernel_rfl)) ?_
      refine va rfl rfl rfl (q_ldla (i := 1) (vs := [.int .i64 v_.dot.s, .int .i64 v_.dot.n, .slice Av_2 v_.past.length cv_2, .bool v_.gone, .string v_.val]) rfl rfl Tryz.isAgg57 Tryz.sizeOf57 rfl rfl) ?_
      refine e_buildSlice (cs := #[.int .i64 v_.dot.s, .int .i64 v_.dot.n, .slice Av_2 v_.past.length cv_2, .bool v_.gone, .string v_.val]) (e := 57) rfl rfl rfl rfl (fun w => by kernel_rfl) ?_
      intro g38
      obtain ⟨hk39, h⟩ := chk_some h
      refine e_append (T := verT) (xs := (List.take at_2.toNat l)) (ys := [v_]) elem_48 (i := 1) rfl rfl rfl rfl rfl rfl rfl ho37 (of_decide_eq_true hk39) (fun w hw => src_one (T := verT) (y := v_) (i := 0) rfl (by exact ⟨Av_2, cv_2, rfl, hv_⟩) hw) ?_
      intro row40 A41 c42 ho43
      refine va rfl rfl rfl (q_assign (v := .slice A41 ((List.take at_2.toNat l) ++ [v_]).length c42) rfl (by kernel_rfl)) ?_
      refine WR.nil ?_
      change WC _ _ _ _ _ _
      refine WC.rs ?_
      refine va rfl rfl rfl (q_move (v := .slice A41 ((List.take at_2.toNat l) ++ [v_]).length c42) rfl (by kernel_rfl)) ?_
      refine va rfl rfl rfl (q_move (v := .slice Al l.length cl) rfl (by kernel_rfl)) ?_
      refine va rfl rfl rfl (q_move (v := .int .i64 at_2) rfl (by kernel_rfl)) ?_
      refine va rfl rfl rfl (q_cut_from (c := cl) (lo := at_2.toNat) (xs := l) Tryz.underlying48 Tryz.sizeOf57 rfl rfl (inle_eq rfl hk32) (inle_le hk32)) ?_
      obtain ⟨hk44, h⟩ := chk_some h
      refine e_append (T := verT) (xs := ((List.take at_2.toNat l) ++ [v_])) (ys := (List.drop at_2.toNat l)) elem_48 (i := 1) rfl rfl rfl rfl rfl rfl rfl ho43 (of_decide_eq_true hk44) (fun w hw => src_sl (hl.cut_from (c := cl) (lo := at_2.toNat) (inle_le hk32) hlc) hw) ?_
      intro row45 A46 c47 ho48
      refine va rfl rfl rfl (q_assign (v := .slice A46 (((List.take at_2.toNat l) ++ [v_]) ++ (List.drop at_2.toNat l)).length c47) rfl (by kernel_rfl)) ?_
      refine WR.nil ?_
      change WC _ _ _ _ _ _
      refine WC.ret ?_
      intro w hw
      have hc53 := ho48.capz
      obtain ⟨Γ49, hw, hl50, hr51⟩ := hw.seal (i := 1) rfl; have hs52 := ho48.sl hl50 hr51
      obtain rfl := Option.some.inj h
      subst hF
      exact end_e (is := []) (by kernel_rfl) hw rfl ⟨A46, c47, rfl, rfl, hc53, hs52, trivial⟩
end Fw
end Go.Proofs.YtbidmceookkapaaGreat
