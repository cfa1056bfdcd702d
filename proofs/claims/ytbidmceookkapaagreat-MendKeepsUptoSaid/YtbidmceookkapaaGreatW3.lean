/- Walks through the functions that the law reaches (printed by a program). No condition. -/
import Derived.Test.YtbidmceookkapaaGreatW2
namespace Go.Proofs.YtbidmceookkapaaGreat
namespace Fw
set_option linter.unusedVariables false
set_option linter.unusedSimpArgs false
set_option linter.unusedSectionVars false
open Go.RowKit
set_option maxRecDepth 100000 in
set_option maxHeartbeats 400000 in
theorem t_firthlaw14_awake {Γ : Gh} {w0 : World}  (hs : Sat Γ w0) {r : Bool} (h : m_firthlaw14_awake = some r) : Calls Tryz.prog 9 #[] w0 (fun e w' => e = .returned (.bool r) ∧ Fr no w0 w') := by
  refine calls_of (N := 89) (rs := [0]) (args := []) Tryz.func9 rfl Tryz.ntmps9 Tryz.results9 rfl ?_
  obtain ⟨F, hF⟩ : ∃ F : Fm, F = ⟨no, w0, Γ⟩ := ⟨_, rfl⟩
  refine WC.here (C := CC F Γ []) ?_ (hF ▸ Cur.start0 hs)
  refine WC.rs ?_
  refine va rfl rfl rfl (q_assign (v := .bool false) rfl (by kernel_rfl)) ?_
  refine WR.nil ?_
  change WC _ _ _ _ _ _
  refine WC.rs ?_
  obtain ⟨z1, hz2, h⟩ := bnd h
  refine e_call (is := []) rfl rfl (call_run Tryz.call30 rfl rfl (by kernel_rfl)) rfl (fun w hp => t_firthlaw14_k  hp hz2) ?_
  rintro Γ3 U5 v6 hl4 ⟨A7, c8, rfl, rfl, hr9, _⟩
  change WR _ _ _ (CC F Γ3 []) _ _ (upd _ 7 (.agg #[.string z1.key, .slice A7 z1.vers.length c8]))
  refine e_buildSlice (cs := #[.string z1.key, .slice A7 z1.vers.length c8]) (e := 51) rfl rfl rfl rfl (fun w => by kernel_rfl) ?_
  intro g10
  refine va rfl rfl rfl (q_assign (v := .slice (some ⟨g10, 0, none⟩) 1 1) rfl (by kernel_rfl)) ?_
  refine WR.nil ?_
  change WC _ _ _ _ _ _
  refine WC.rs ?_
  obtain ⟨z11, hz12, h⟩ := bnd h
  refine e_call (is := []) rfl rfl (call_run Tryz.call31 rfl rfl (by kernel_rfl)) rfl (fun w hp => t_firthref11_Place (⟨#[107]⟩ : ByteArray) (show (⟨#[107]⟩ : ByteArray).size ≤ lim by decide) hp hz12) ?_
  rintro Γ13 U15 v16 hl14 ⟨A17, c18, row19, rfl, rfl, hr20, _⟩
  change WR _ _ _ (CC F Γ13 [row19, [(g10, .cells #[.string z1.key, .slice A7 z1.vers.length c8] 51 (0, 0))]]) _ _ (upd _ 9 (.slice A17 z11.length c18))
  refine va rfl rfl rfl (q_assign (v := .slice A17 z11.length c18) rfl (by kernel_rfl)) ?_
  refine WR.nil ?_
  change WC _ _ _ _ _ _
  refine WC.rs ?_
  refine va rfl rfl rfl (q_move (v := .slice (some ⟨g10, 0, none⟩) 1 1) rfl (by kernel_rfl)) ?_
  obtain ⟨hk21, h⟩ := chk_some h
  refine e_makeSlice (T := u64T) (n := 16) (zx := 0) (ti := Tryz.t67) (z := .int .u64 0) Tryz.underlying24 (by kernel_rfl) (by kernel_rfl) (by kernel_rfl) (by exact ⟨rfl, (show U64 0 by decide)⟩) (by decide) (of_decide_eq_true hk21) rfl rfl rfl rfl rfl rfl ?_
  intro g22 row23 ho24
  have ho25 : Own recT Γ13 51 [(g10, .cells #[.string z1.key, .slice A7 z1.vers.length c8] 51 (0, 0))] (some ⟨g10, 0, none⟩) 1 [z1] := Own.of_blockL (T := recT) (ys := [z1]) [[.string z1.key, .slice A7 z1.vers.length c8]] rfl (show 1 ≤ lim by decide) (show Ty.rd recT Γ13 [.string z1.key, .slice A7 z1.vers.length c8] z1 ∧ True from ⟨⟨A7, c8, rfl, (Rec.fits_mono hr9 hl14)⟩, trivial⟩)
  have hc30 := ho25.capz
  intro w hw; obtain ⟨Γ26, hw, hl27, hr28⟩ := hw.seal (i := 2) rfl; have hs29 := ho25.sl hl27 hr28
  refine WR.here (C := CC F Γ26 [row23, row19, []]) ?_ hw
  clear hw
  rw [show Value.slice (some ⟨g22, 0, none⟩) (16) 16 = Value.slice (some ⟨g22, 0, none⟩) ((List.replicate 16 0).length) 16 from by rw [List.length_replicate]]
  have hc35 := (ho24.mono hl27).capz
  intro w hw; obtain ⟨Γ31, hw, hl32, hr33⟩ := hw.seal (i := 0) rfl; have hs34 := (ho24.mono hl27).sl hl32 hr33
  refine WR.here (C := CC F Γ31 [[], row19, []]) ?_ hw
  clear hw
  obtain ⟨z36, hz37, h⟩ := bnd h
  refine e_call (is := []) rfl rfl (call_run Tryz.call15 rfl rfl (by kernel_rfl)) rfl (fun w hp => t_mend_Answer (hs29.mono hl32) hc30 (Sl.nil intT _ none) (Nat.zero_le 0) hs34 hc35 hp hz37) ?_
  rintro Γ38 U40 v41 hl39 ⟨A42, c43, row44, rfl, rfl, hr45, _⟩
  change WR _ _ _ (CC F Γ38 [row44, [], row19, []]) _ _ (upd _ 12 (.slice A42 z36.length c43))
  refine va rfl rfl rfl (q_assign (v := .slice A42 z36.length c43) rfl (by kernel_rfl)) ?_
  refine WR.nil ?_
  change WC _ _ _ _ _ _
  refine WC.seq ?_
  have hc50 := (hr20.mono ((hl27.trans hl32).trans hl39)).capz
  intro w hw; obtain ⟨Γ46, hw, hl47, hr48⟩ := hw.seal (i := 2) rfl; have hs49 := (hr20.mono ((hl27.trans hl32).trans hl39)).sl hl47 hr48
  refine WC.here (C := CC F Γ46 [row44, [], [], []]) ?_ hw
  clear hw
  intro w hw; have h051 := hw.le
  refine WC.here (C := CC F Γ46 [row44, [], [], []]) ?_ hw; clear hw
  refine WC.held (CC F Γ46 [row44, [], [], []]) (by kernel_rfl) (fun w hw => hw.drawn _) ?_
  change WH _ _ _ _ (CC F Γ46 [row44, [], [], []]) _ 6 #[false, false, false, false, false, false] _
  refine ht (i := 0) rfl (by kernel_rfl) rfl rfl rfl (fun w hw => hw.back (Gh.refl _) h051 (.cons_cons _ (.cons_cons _ (.cons_cons _ (.cons_cons _ .slnil))))) (q_move (v := .slice (some ⟨g10, 0, none⟩) [z1].length 1) rfl (by kernel_rfl)) ?_
  refine ht (i := 1) rfl (by kernel_rfl) rfl rfl rfl (fun w hw => hw.back (Gh.refl _) h051 (.cons_cons _ (.cons_cons _ (.cons_cons _ (.cons_cons _ .slnil))))) (q_move (v := .slice A17 z11.length c18) rfl (by kernel_rfl)) ?_
  obtain ⟨hk52, h⟩ := chk_some h
  refine ht (i := 2) rfl (by kernel_rfl) rfl rfl rfl (fun w hw => hw.back (Gh.refl _) h051 (.cons_cons _ (.cons_cons _ (.cons_cons _ (.cons_cons _ .slnil))))) (q_cut_to (c := c18) (hi := 1) (xs := z11) Tryz.underlying23 Tryz.sizeOf3 rfl rfl rfl (of_decide_eq_true hk52) hc50) ?_
  refine WH.lone (i := 3) (by kernel_rfl) rfl ?_
  refine e_makeSlice (T := u64T) (n := 16) (zx := 0) (ti := Tryz.t67) (z := .int .u64 0) Tryz.underlying24 (by kernel_rfl) (by kernel_rfl) (by kernel_rfl) (by exact ⟨rfl, (show U64 0 by decide)⟩) (by decide) (of_decide_eq_true hk21) rfl rfl rfl rfl rfl rfl ?_
  intro g53 row54 ho55
  refine WR.nil ?_
  refine WH.next (fun w hw => hw.back (Gh.refl _) h051 (.cons _ (.cons_cons _ (.cons_cons _ (.cons_cons _ (.cons_cons _ .slnil)))))) ?_
  refine WH.lone (i := 4) (by kernel_rfl) rfl ?_
  rw [show Value.slice (some ⟨g53, 0, none⟩) (16) 16 = Value.slice (some ⟨g53, 0, none⟩) ((List.replicate 16 0).length) 16 from by rw [List.length_replicate]]
  have hc60 := ho55.capz
  intro w hw; obtain ⟨Γ56, hw, hl57, hr58⟩ := hw.seal (i := 0) rfl; have hs59 := ho55.sl hl57 hr58
  refine WR.here (C := CC F Γ56 [[], row44, [], [], []]) ?_ hw
  clear hw
  obtain ⟨z61, hz62, h⟩ := bnd h
  refine e_call (is := []) rfl rfl (call_run Tryz.call15 rfl rfl (by kernel_rfl)) rfl (fun w hp => t_mend_Answer (hs29.mono (((hl32.trans hl39).trans hl47).trans hl57)) hc30 ((hs49.mono hl57).cut_to (hi := 1) (of_decide_eq_true hk52)) (take_cap hc50 1) hs59 hc60 hp hz62) ?_
  rintro Γ63 U65 v66 hl64 ⟨A67, c68, row69, rfl, rfl, hr70, _⟩
  change WR _ _ _ (CC F Γ63 [row69, [], row44, [], [], []]) _ _ (upd _ 17 (.slice A67 z61.length c68))
  refine WR.nil ?_
  refine WH.next (fun w hw => hw.back (hl57.trans hl64) h051 (.cons _ (.cons _ (.cons_cons _ (.cons_cons _ (.cons_cons _ (.cons_cons _ .slnil))))))) ?_
  refine ht (i := 5) rfl (by kernel_rfl) rfl rfl rfl (fun w hw => hw.back (hl57.trans hl64) h051 (.cons _ (.cons _ (.cons_cons _ (.cons_cons _ (.cons_cons _ (.cons_cons _ .slnil))))))) (q_assign (v := .slice A67 z61.length c68) rfl (by kernel_rfl)) ?_
  refine WH.done (by kernel_rfl) ?_
  change WC _ _ _ _ _ _
  refine WC.rs ?_
  refine va rfl rfl rfl (q_move (v := .slice (some ⟨g10, 0, none⟩) [z1].length 1) rfl (by kernel_rfl)) ?_
  obtain ⟨z71, hz72, h⟩ := bnd h
  refine e_call (is := []) rfl rfl (call_run Tryz.call23 rfl rfl (by kernel_rfl)) rfl (fun w hp => t_mend_Take (Sl.nil recT _ none) (Nat.zero_le 0) (hs29.mono ((((hl32.trans hl39).trans hl47).trans hl57).trans hl64)) hc30 hp hz72) ?_
  rintro Γ73 U75 v76 hl74 ⟨A77, c78, row79, rfl, rfl, hr80, hr81, _⟩
  change WR _ _ _ (CC F Γ73 [row79, row69, [], row44, [], [], []]) _ _ (upd _ 20 (.tuple #[.slice A77 z71.1.length c78, .int .i64 z71.2]))
  refine va rfl rfl rfl (q_move (v := .tuple #[.slice A77 z71.1.length c78, .int .i64 z71.2]) rfl (by kernel_rfl)) ?_
  refine va rfl rfl rfl (q_extract (v := .slice A77 z71.1.length c78) rfl rfl rfl) ?_
  refine va rfl rfl rfl (q_extract (v := .int .i64 z71.2) rfl rfl rfl) ?_
  refine va rfl rfl rfl (q_assign (v := .slice A77 z71.1.length c78) rfl (by kernel_rfl)) ?_
  refine va rfl rfl rfl (q_assign (v := .int .i64 z71.2) rfl (by kernel_rfl)) ?_
  refine WR.nil ?_
  change WC _ _ _ _ _ _
  refine WC.seq ?_
  intro w hw; have h082 := hw.le
  refine WC.here (C := CC F Γ73 [row79, row69, [], row44, [], [], []]) ?_ hw; clear hw
  refine WC.held (CC F Γ73 [row79, row69, [], row44, [], [], []]) (by kernel_rfl) (fun w hw => hw.drawn _) ?_
  change WH _ _ _ _ (CC F Γ73 [row79, row69, [], row44, [], [], []]) _ 67 #[false, false, false, false, false, false, false, false, false, false, false, false, false, false, false, false, false, false, false, false, false, false, false, false, false, false, false, false, false, false, false, false, false, false, false, false, false, false, false, false, false, false, false, false, false, false, false, false, false, false, false, false, false, false, false, false, false, false, false, false, false, false, false, false, false, false, false] _
  refine ht (i := 0) rfl (by kernel_rfl) rfl rfl rfl (fun w hw => hw.back (Gh.refl _) h082 (.cons_cons _ (.cons_cons _ (.cons_cons _ (.cons_cons _ (.cons_cons _ (.cons_cons _ (.cons_cons _ .slnil)))))))) (q_move (v := .slice A42 z36.length c43) rfl (by kernel_rfl)) ?_
  refine ht (i := 1) rfl (by kernel_rfl) rfl rfl rfl (fun w hw => hw.back (Gh.refl _) h082 (.cons_cons _ (.cons_cons _ (.cons_cons _ (.cons_cons _ (.cons_cons _ (.cons_cons _ (.cons_cons _ .slnil)))))))) (q_len_slice rfl Tryz.underlying32 rfl) ?_
  refine ht (i := 2) rfl (by kernel_rfl) rfl rfl rfl (fun w hw => hw.back (Gh.refl _) h082 (.cons_cons _ (.cons_cons _ (.cons_cons _ (.cons_cons _ (.cons_cons _ (.cons_cons _ (.cons_cons _ .slnil)))))))) (q_eql rfl rfl rfl) ?_
  refine ht (i := 3) rfl (by kernel_rfl) rfl rfl rfl (fun w hw => hw.back (Gh.refl _) h082 (.cons_cons _ (.cons_cons _ (.cons_cons _ (.cons_cons _ (.cons_cons _ (.cons_cons _ (.cons_cons _ .slnil)))))))) (q_move (v := .bool (((z36.length : Nat) : Int) == 1)) rfl (by kernel_rfl)) ?_
  refine hg1 (i := 4) rfl (by kernel_rfl) rfl rfl rfl rfl rfl (fun w hw => hw.back (Gh.refl _) h082 (.cons_cons _ (.cons_cons _ (.cons_cons _ (.cons_cons _ (.cons_cons _ (.cons_cons _ (.cons_cons _ .slnil)))))))) (fun hg83 => (q_move (v := .slice A42 z36.length c43) rfl (by kernel_rfl))) ?_
  obtain ⟨hk85, h⟩ := chk_some h
  refine hg1 (i := 5) rfl (by kernel_rfl) rfl rfl rfl rfl rfl (fun w hw => hw.back (Gh.refl _) h082 (.cons_cons _ (.cons_cons _ (.cons_cons _ (.cons_cons _ (.cons_cons _ (.cons_cons _ (.cons_cons _ .slnil)))))))) (fun hg84 => (q_ixn (i := 0) Tryz.underlying32 Tryz.sizeOf42 rfl (gu hg84 rfl) rfl (of_decide_eq_true (imp_of hk85 hg84)) ((hr45.mono (((hl47.trans hl57).trans hl64).trans hl74)).some_ (of_decide_eq_true (imp_of hk85 hg84))))) ?_
  refine hg1 (i := 6) rfl (by kernel_rfl) rfl rfl rfl rfl rfl (fun w hw => hw.back (Gh.refl _) h082 (.cons_cons _ (.cons_cons _ (.cons_cons _ (.cons_cons _ (.cons_cons _ (.cons_cons _ (.cons_cons _ .slnil)))))))) (fun hg86 => (q_field_addr (0 * 3) fld_42_0 rfl (gu hg86 rfl) ((hr45.mono (((hl47.trans hl57).trans hl64).trans hl74)).some_ (of_decide_eq_true (imp_of hk85 hg86))) rfl)) ?_
  obtain ⟨A88, c89, A90, c91, A92, c93, hx94⟩ := (hr45.mono (((hl47.trans hl57).trans hl64).trans hl74)).dmend_StepT_at 0
  refine hg1 (i := 7) rfl (by kernel_rfl) rfl rfl rfl rfl rfl (fun w hw => hw.back (Gh.refl _) h082 (.cons_cons _ (.cons_cons _ (.cons_cons _ (.cons_cons _ (.cons_cons _ (.cons_cons _ (.cons_cons _ .slnil)))))))) (fun hg87 => (q_ldo (c := 0) (v := .slice A88 ((gt z36 0).path).length c89) (i := 3) rfl (hx94 (of_decide_eq_true (imp_of hk85 hg87))).2 rfl Tryz.isAgg23 (gu hg87 rfl) rfl)) ?_
  refine hg1 (i := 8) rfl (by kernel_rfl) rfl rfl rfl rfl rfl (fun w hw => hw.back (Gh.refl _) h082 (.cons_cons _ (.cons_cons _ (.cons_cons _ (.cons_cons _ (.cons_cons _ (.cons_cons _ (.cons_cons _ .slnil)))))))) (fun hg95 => (q_len_slice rfl Tryz.underlying23 (gu hg95 rfl))) ?_
  refine hg1 (i := 9) rfl (by kernel_rfl) rfl rfl rfl rfl rfl (fun w hw => hw.back (Gh.refl _) h082 (.cons_cons _ (.cons_cons _ (.cons_cons _ (.cons_cons _ (.cons_cons _ (.cons_cons _ (.cons_cons _ .slnil)))))))) (fun hg96 => (q_eql rfl (gu hg96 rfl) rfl)) ?_
  refine ht (i := 10) rfl (by kernel_rfl) rfl rfl rfl (fun w hw => hw.back (Gh.refl _) h082 (.cons_cons _ (.cons_cons _ (.cons_cons _ (.cons_cons _ (.cons_cons _ (.cons_cons _ (.cons_cons _ .slnil)))))))) (q_pick rfl rfl (pk_and' (g := (((z36.length : Nat) : Int) == 1)) (y := (((((gt z36 0).path).length : Nat) : Int) == 1)))) ?_
  refine ht (i := 11) rfl (by kernel_rfl) rfl rfl rfl (fun w hw => hw.back (Gh.refl _) h082 (.cons_cons _ (.cons_cons _ (.cons_cons _ (.cons_cons _ (.cons_cons _ (.cons_cons _ (.cons_cons _ .slnil)))))))) (q_move (v := .bool ((((z36.length : Nat) : Int) == 1) && (((((gt z36 0).path).length : Nat) : Int) == 1))) rfl (by kernel_rfl)) ?_
  refine hg1 (i := 12) rfl (by kernel_rfl) rfl rfl rfl rfl rfl (fun w hw => hw.back (Gh.refl _) h082 (.cons_cons _ (.cons_cons _ (.cons_cons _ (.cons_cons _ (.cons_cons _ (.cons_cons _ (.cons_cons _ .slnil)))))))) (fun hg97 => (q_move (v := .slice A42 z36.length c43) rfl (by kernel_rfl))) ?_
  obtain ⟨hk99, h⟩ := chk_some h
  refine hg1 (i := 13) rfl (by kernel_rfl) rfl rfl rfl rfl rfl (fun w hw => hw.back (Gh.refl _) h082 (.cons_cons _ (.cons_cons _ (.cons_cons _ (.cons_cons _ (.cons_cons _ (.cons_cons _ (.cons_cons _ .slnil)))))))) (fun hg98 => (q_ixn (i := 0) Tryz.underlying32 Tryz.sizeOf42 rfl (gu hg98 rfl) rfl (of_decide_eq_true (imp_of hk99 hg98)) ((hr45.mono (((hl47.trans hl57).trans hl64).trans hl74)).some_ (of_decide_eq_true (imp_of hk99 hg98))))) ?_
  refine hg1 (i := 14) rfl (by kernel_rfl) rfl rfl rfl rfl rfl (fun w hw => hw.back (Gh.refl _) h082 (.cons_cons _ (.cons_cons _ (.cons_cons _ (.cons_cons _ (.cons_cons _ (.cons_cons _ (.cons_cons _ .slnil)))))))) (fun hg100 => (q_field_addr (0 * 3) fld_42_0 rfl (gu hg100 rfl) ((hr45.mono (((hl47.trans hl57).trans hl64).trans hl74)).some_ (of_decide_eq_true (imp_of hk99 hg100))) rfl)) ?_
  refine hg1 (i := 15) rfl (by kernel_rfl) rfl rfl rfl rfl rfl (fun w hw => hw.back (Gh.refl _) h082 (.cons_cons _ (.cons_cons _ (.cons_cons _ (.cons_cons _ (.cons_cons _ (.cons_cons _ (.cons_cons _ .slnil)))))))) (fun hg101 => (q_ldo (c := 0) (v := .slice A88 ((gt z36 0).path).length c89) (i := 3) rfl (hx94 (of_decide_eq_true (imp_of hk99 hg101))).2 rfl Tryz.isAgg23 (gu hg101 rfl) rfl)) ?_
  obtain ⟨hk103, h⟩ := chk_some h
  refine hg1 (i := 16) rfl (by kernel_rfl) rfl rfl rfl rfl rfl (fun w hw => hw.back (Gh.refl _) h082 (.cons_cons _ (.cons_cons _ (.cons_cons _ (.cons_cons _ (.cons_cons _ (.cons_cons _ (.cons_cons _ .slnil)))))))) (fun hg102 => (q_ixn (i := 0) Tryz.underlying23 Tryz.sizeOf3 rfl (gu hg102 rfl) rfl (of_decide_eq_true (imp_of hk103 hg102)) ((hx94 (of_decide_eq_true (imp_of hk99 hg102))).1.1.2.some_ (of_decide_eq_true (imp_of hk103 hg102))))) ?_
  refine hg1 (i := 17) rfl (by kernel_rfl) rfl rfl rfl rfl rfl (fun w hw => hw.back (Gh.refl _) h082 (.cons_cons _ (.cons_cons _ (.cons_cons _ (.cons_cons _ (.cons_cons _ (.cons_cons _ (.cons_cons _ .slnil)))))))) (fun hg104 => (q_ld (c := 0) (v := .int .i64 (gt ((gt z36 0).path) 0)) ((hx94 (of_decide_eq_true (imp_of hk99 hg104))).1.1.2.intT_at (of_decide_eq_true (imp_of hk103 hg104))).2 rfl Tryz.isAgg3 (gu hg104 rfl) rfl)) ?_
  refine hg1 (i := 18) rfl (by kernel_rfl) rfl rfl rfl rfl rfl (fun w hw => hw.back (Gh.refl _) h082 (.cons_cons _ (.cons_cons _ (.cons_cons _ (.cons_cons _ (.cons_cons _ (.cons_cons _ (.cons_cons _ .slnil)))))))) (fun hg105 => (q_move (v := .slice A17 z11.length c18) rfl (by kernel_rfl))) ?_
  obtain ⟨hk107, h⟩ := chk_some h
  refine hg1 (i := 19) rfl (by kernel_rfl) rfl rfl rfl rfl rfl (fun w hw => hw.back (Gh.refl _) h082 (.cons_cons _ (.cons_cons _ (.cons_cons _ (.cons_cons _ (.cons_cons _ (.cons_cons _ (.cons_cons _ .slnil)))))))) (fun hg106 => (q_ixn (i := 0) Tryz.underlying23 Tryz.sizeOf3 rfl (gu hg106 rfl) rfl (of_decide_eq_true (imp_of hk107 hg106)) ((hs49.mono ((hl57.trans hl64).trans hl74)).some_ (of_decide_eq_true (imp_of hk107 hg106))))) ?_
  refine hg1 (i := 20) rfl (by kernel_rfl) rfl rfl rfl rfl rfl (fun w hw => hw.back (Gh.refl _) h082 (.cons_cons _ (.cons_cons _ (.cons_cons _ (.cons_cons _ (.cons_cons _ (.cons_cons _ (.cons_cons _ .slnil)))))))) (fun hg108 => (q_ld (c := 0) (v := .int .i64 (gt z11 0)) ((hs49.mono ((hl57.trans hl64).trans hl74)).intT_at (of_decide_eq_true (imp_of hk107 hg108))).2 rfl Tryz.isAgg3 (gu hg108 rfl) rfl)) ?_
  refine hg1 (i := 21) rfl (by kernel_rfl) rfl rfl rfl rfl rfl (fun w hw => hw.back (Gh.refl _) h082 (.cons_cons _ (.cons_cons _ (.cons_cons _ (.cons_cons _ (.cons_cons _ (.cons_cons _ (.cons_cons _ .slnil)))))))) (fun hg109 => (q_eql rfl (gu hg109 rfl) (gu hg109 rfl))) ?_
  refine ht (i := 22) rfl (by kernel_rfl) rfl rfl rfl (fun w hw => hw.back (Gh.refl _) h082 (.cons_cons _ (.cons_cons _ (.cons_cons _ (.cons_cons _ (.cons_cons _ (.cons_cons _ (.cons_cons _ .slnil)))))))) (q_pick rfl rfl (pk_and' (g := ((((z36.length : Nat) : Int) == 1) && (((((gt z36 0).path).length : Nat) : Int) == 1))) (y := ((gt ((gt z36 0).path) 0) == (gt z11 0))))) ?_
  refine ht (i := 23) rfl (by kernel_rfl) rfl rfl rfl (fun w hw => hw.back (Gh.refl _) h082 (.cons_cons _ (.cons_cons _ (.cons_cons _ (.cons_cons _ (.cons_cons _ (.cons_cons _ (.cons_cons _ .slnil)))))))) (q_move (v := .bool (((((z36.length : Nat) : Int) == 1) && (((((gt z36 0).path).length : Nat) : Int) == 1)) && ((gt ((gt z36 0).path) 0) == (gt z11 0)))) rfl (by kernel_rfl)) ?_
  refine hg1 (i := 24) rfl (by kernel_rfl) rfl rfl rfl rfl rfl (fun w hw => hw.back (Gh.refl _) h082 (.cons_cons _ (.cons_cons _ (.cons_cons _ (.cons_cons _ (.cons_cons _ (.cons_cons _ (.cons_cons _ .slnil)))))))) (fun hg110 => (q_move (v := .slice A67 z61.length c68) rfl (by kernel_rfl))) ?_
  refine hg1 (i := 25) rfl (by kernel_rfl) rfl rfl rfl rfl rfl (fun w hw => hw.back (Gh.refl _) h082 (.cons_cons _ (.cons_cons _ (.cons_cons _ (.cons_cons _ (.cons_cons _ (.cons_cons _ (.cons_cons _ .slnil)))))))) (fun hg111 => (q_len_slice rfl Tryz.underlying32 (gu hg111 rfl))) ?_
  refine hg1 (i := 26) rfl (by kernel_rfl) rfl rfl rfl rfl rfl (fun w hw => hw.back (Gh.refl _) h082 (.cons_cons _ (.cons_cons _ (.cons_cons _ (.cons_cons _ (.cons_cons _ (.cons_cons _ (.cons_cons _ .slnil)))))))) (fun hg112 => (q_eql rfl (gu hg112 rfl) rfl)) ?_
  refine ht (i := 27) rfl (by kernel_rfl) rfl rfl rfl (fun w hw => hw.back (Gh.refl _) h082 (.cons_cons _ (.cons_cons _ (.cons_cons _ (.cons_cons _ (.cons_cons _ (.cons_cons _ (.cons_cons _ .slnil)))))))) (q_pick rfl rfl (pk_and' (g := (((((z36.length : Nat) : Int) == 1) && (((((gt z36 0).path).length : Nat) : Int) == 1)) && ((gt ((gt z36 0).path) 0) == (gt z11 0)))) (y := (((z61.length : Nat) : Int) == 1)))) ?_
  refine ht (i := 28) rfl (by kernel_rfl) rfl rfl rfl (fun w hw => hw.back (Gh.refl _) h082 (.cons_cons _ (.cons_cons _ (.cons_cons _ (.cons_cons _ (.cons_cons _ (.cons_cons _ (.cons_cons _ .slnil)))))))) (q_move (v := .bool ((((((z36.length : Nat) : Int) == 1) && (((((gt z36 0).path).length : Nat) : Int) == 1)) && ((gt ((gt z36 0).path) 0) == (gt z11 0))) && (((z61.length : Nat) : Int) == 1))) rfl (by kernel_rfl)) ?_
  refine hg1 (i := 29) rfl (by kernel_rfl) rfl rfl rfl rfl rfl (fun w hw => hw.back (Gh.refl _) h082 (.cons_cons _ (.cons_cons _ (.cons_cons _ (.cons_cons _ (.cons_cons _ (.cons_cons _ (.cons_cons _ .slnil)))))))) (fun hg113 => (q_move (v := .slice A67 z61.length c68) rfl (by kernel_rfl))) ?_
  obtain ⟨hk115, h⟩ := chk_some h
  refine hg1 (i := 30) rfl (by kernel_rfl) rfl rfl rfl rfl rfl (fun w hw => hw.back (Gh.refl _) h082 (.cons_cons _ (.cons_cons _ (.cons_cons _ (.cons_cons _ (.cons_cons _ (.cons_cons _ (.cons_cons _ .slnil)))))))) (fun hg114 => (q_ixn (i := 0) Tryz.underlying32 Tryz.sizeOf42 rfl (gu hg114 rfl) rfl (of_decide_eq_true (imp_of hk115 hg114)) ((hr70.mono hl74).some_ (of_decide_eq_true (imp_of hk115 hg114))))) ?_
  refine hg1 (i := 31) rfl (by kernel_rfl) rfl rfl rfl rfl rfl (fun w hw => hw.back (Gh.refl _) h082 (.cons_cons _ (.cons_cons _ (.cons_cons _ (.cons_cons _ (.cons_cons _ (.cons_cons _ (.cons_cons _ .slnil)))))))) (fun hg116 => (q_field_addr (0 * 3 + 2) fld_42_2 rfl (gu hg116 rfl) ((hr70.mono hl74).some_ (of_decide_eq_true (imp_of hk115 hg116))) rfl)) ?_
  obtain ⟨A118, c119, A120, c121, A122, c123, hx124⟩ := (hr70.mono hl74).dmend_StepT_at 0
  refine hg1 (i := 32) rfl (by kernel_rfl) rfl rfl rfl rfl rfl (fun w hw => hw.back (Gh.refl _) h082 (.cons_cons _ (.cons_cons _ (.cons_cons _ (.cons_cons _ (.cons_cons _ (.cons_cons _ (.cons_cons _ .slnil)))))))) (fun hg117 => (q_ldo (c := 2) (v := .slice A122 ((gt z61 0).recs).length c123) (i := 1) rfl (hx124 (of_decide_eq_true (imp_of hk115 hg117))).2 rfl Tryz.isAgg22 (gu hg117 rfl) rfl)) ?_
  refine hg1 (i := 33) rfl (by kernel_rfl) rfl rfl rfl rfl rfl (fun w hw => hw.back (Gh.refl _) h082 (.cons_cons _ (.cons_cons _ (.cons_cons _ (.cons_cons _ (.cons_cons _ (.cons_cons _ (.cons_cons _ .slnil)))))))) (fun hg125 => (q_move (v := .slice (some ⟨g10, 0, none⟩) [z1].length 1) rfl (by kernel_rfl))) ?_
  refine WH.lone (i := 34) (by kernel_rfl) rfl ?_
  obtain ⟨z127, hz128, h⟩ := bnd h
  refine vg1 rfl rfl rfl rfl rfl (fun hg126 => (q_call (call_run Tryz.call17 rfl rfl (args2 (gu hg126 rfl) (gu hg126 rfl))) (fun w hw => t_firthref06_SameRecs (Γ := Gh.all w) ((hx124 (of_decide_eq_true (imp_of hk115 hg126))).1.2.2.2.mono hw.sat.le_all) (hx124 (of_decide_eq_true (imp_of hk115 hg126))).1.2.2.1 ((hs29.mono (((((hl32.trans hl39).trans hl47).trans hl57).trans hl64).trans hl74)).mono hw.sat.le_all) hc30 (Sat.all w) (gc_of hz128 hg126)))) ?_
  refine WR.nil ?_
  refine WH.next (fun w hw => hw.back (Gh.refl _) h082 (.cons_cons _ (.cons_cons _ (.cons_cons _ (.cons_cons _ (.cons_cons _ (.cons_cons _ (.cons_cons _ .slnil)))))))) ?_
  refine ht (i := 35) rfl (by kernel_rfl) rfl rfl rfl (fun w hw => hw.back (Gh.refl _) h082 (.cons_cons _ (.cons_cons _ (.cons_cons _ (.cons_cons _ (.cons_cons _ (.cons_cons _ (.cons_cons _ .slnil)))))))) (q_pick rfl rfl (pk_and' (g := ((((((z36.length : Nat) : Int) == 1) && (((((gt z36 0).path).length : Nat) : Int) == 1)) && ((gt ((gt z36 0).path) 0) == (gt z11 0))) && (((z61.length : Nat) : Int) == 1))) (y := z127))) ?_
  refine ht (i := 36) rfl (by kernel_rfl) rfl rfl rfl (fun w hw => hw.back (Gh.refl _) h082 (.cons_cons _ (.cons_cons _ (.cons_cons _ (.cons_cons _ (.cons_cons _ (.cons_cons _ (.cons_cons _ .slnil)))))))) (q_move (v := .bool (((((((z36.length : Nat) : Int) == 1) && (((((gt z36 0).path).length : Nat) : Int) == 1)) && ((gt ((gt z36 0).path) 0) == (gt z11 0))) && (((z61.length : Nat) : Int) == 1)) && z127)) rfl (by kernel_rfl)) ?_
  refine hg1 (i := 37) rfl (by kernel_rfl) rfl rfl rfl rfl rfl (fun w hw => hw.back (Gh.refl _) h082 (.cons_cons _ (.cons_cons _ (.cons_cons _ (.cons_cons _ (.cons_cons _ (.cons_cons _ (.cons_cons _ .slnil)))))))) (fun hg129 => (q_move (v := .int .i64 z71.2) rfl (by kernel_rfl))) ?_
  refine hg1 (i := 38) rfl (by kernel_rfl) rfl rfl rfl rfl rfl (fun w hw => hw.back (Gh.refl _) h082 (.cons_cons _ (.cons_cons _ (.cons_cons _ (.cons_cons _ (.cons_cons _ (.cons_cons _ (.cons_cons _ .slnil)))))))) (fun hg130 => (q_eql rfl (gu hg130 rfl) rfl)) ?_
  refine ht (i := 39) rfl (by kernel_rfl) rfl rfl rfl (fun w hw => hw.back (Gh.refl _) h082 (.cons_cons _ (.cons_cons _ (.cons_cons _ (.cons_cons _ (.cons_cons _ (.cons_cons _ (.cons_cons _ .slnil)))))))) (q_pick rfl rfl (pk_and' (g := (((((((z36.length : Nat) : Int) == 1) && (((((gt z36 0).path).length : Nat) : Int) == 1)) && ((gt ((gt z36 0).path) 0) == (gt z11 0))) && (((z61.length : Nat) : Int) == 1)) && z127)) (y := (z71.2 == 0)))) ?_
  refine ht (i := 40) rfl (by kernel_rfl) rfl rfl rfl (fun w hw => hw.back (Gh.refl _) h082 (.cons_cons _ (.cons_cons _ (.cons_cons _ (.cons_cons _ (.cons_cons _ (.cons_cons _ (.cons_cons _ .slnil)))))))) (q_move (v := .bool ((((((((z36.length : Nat) : Int) == 1) && (((((gt z36 0).path).length : Nat) : Int) == 1)) && ((gt ((gt z36 0).path) 0) == (gt z11 0))) && (((z61.length : Nat) : Int) == 1)) && z127) && (z71.2 == 0))) rfl (by kernel_rfl)) ?_
  refine hg1 (i := 41) rfl (by kernel_rfl) rfl rfl rfl rfl rfl (fun w hw => hw.back (Gh.refl _) h082 (.cons_cons _ (.cons_cons _ (.cons_cons _ (.cons_cons _ (.cons_cons _ (.cons_cons _ (.cons_cons _ .slnil)))))))) (fun hg131 => (q_move (v := .slice A77 z71.1.length c78) rfl (by kernel_rfl))) ?_
  refine hg1 (i := 42) rfl (by kernel_rfl) rfl rfl rfl rfl rfl (fun w hw => hw.back (Gh.refl _) h082 (.cons_cons _ (.cons_cons _ (.cons_cons _ (.cons_cons _ (.cons_cons _ (.cons_cons _ (.cons_cons _ .slnil)))))))) (fun hg132 => (q_move (v := .slice (some ⟨g10, 0, none⟩) [z1].length 1) rfl (by kernel_rfl))) ?_
  refine WH.lone (i := 43) (by kernel_rfl) rfl ?_
  obtain ⟨z134, hz135, h⟩ := bnd h
  refine vg1 rfl rfl rfl rfl rfl (fun hg133 => (q_call (call_run Tryz.call17 rfl rfl (args2 (gu hg133 rfl) (gu hg133 rfl))) (fun w hw => t_firthref06_SameRecs (Γ := Gh.all w) (hr80.sl hw.sat.le_all (hw.ra 0 rfl)) hr80.capz ((hs29.mono (((((hl32.trans hl39).trans hl47).trans hl57).trans hl64).trans hl74)).mono hw.sat.le_all) hc30 (Sat.all w) (gc_of hz135 hg133)))) ?_
  refine WR.nil ?_
  refine WH.next (fun w hw => hw.back (Gh.refl _) h082 (.cons_cons _ (.cons_cons _ (.cons_cons _ (.cons_cons _ (.cons_cons _ (.cons_cons _ (.cons_cons _ .slnil)))))))) ?_
  refine ht (i := 44) rfl (by kernel_rfl) rfl rfl rfl (fun w hw => hw.back (Gh.refl _) h082 (.cons_cons _ (.cons_cons _ (.cons_cons _ (.cons_cons _ (.cons_cons _ (.cons_cons _ (.cons_cons _ .slnil)))))))) (q_pick rfl rfl (pk_and' (g := ((((((((z36.length : Nat) : Int) == 1) && (((((gt z36 0).path).length : Nat) : Int) == 1)) && ((gt ((gt z36 0).path) 0) == (gt z11 0))) && (((z61.length : Nat) : Int) == 1)) && z127) && (z71.2 == 0))) (y := z134))) ?_
  refine ht (i := 45) rfl (by kernel_rfl) rfl rfl rfl (fun w hw => hw.back (Gh.refl _) h082 (.cons_cons _ (.cons_cons _ (.cons_cons _ (.cons_cons _ (.cons_cons _ (.cons_cons _ (.cons_cons _ .slnil)))))))) (q_move (v := .bool (((((((((z36.length : Nat) : Int) == 1) && (((((gt z36 0).path).length : Nat) : Int) == 1)) && ((gt ((gt z36 0).path) 0) == (gt z11 0))) && (((z61.length : Nat) : Int) == 1)) && z127) && (z71.2 == 0)) && z134)) rfl (by kernel_rfl)) ?_
  refine hg1 (i := 46) rfl (by kernel_rfl) rfl rfl rfl rfl rfl (fun w hw => hw.back (Gh.refl _) h082 (.cons_cons _ (.cons_cons _ (.cons_cons _ (.cons_cons _ (.cons_cons _ (.cons_cons _ (.cons_cons _ .slnil)))))))) (fun hg136 => (q_move (v := .slice (some ⟨g10, 0, none⟩) [z1].length 1) rfl (by kernel_rfl))) ?_
  refine hg1 (i := 47) rfl (by kernel_rfl) rfl rfl rfl rfl rfl (fun w hw => hw.back (Gh.refl _) h082 (.cons_cons _ (.cons_cons _ (.cons_cons _ (.cons_cons _ (.cons_cons _ (.cons_cons _ (.cons_cons _ .slnil)))))))) (fun hg137 => (q_move (v := .slice A17 z11.length c18) rfl (by kernel_rfl))) ?_
  refine (Bool.eq_false_or_eq_true (((((((((z36.length : Nat) : Int) == 1) && (((((gt z36 0).path).length : Nat) : Int) == 1)) && ((gt ((gt z36 0).path) 0) == (gt z11 0))) && (((z61.length : Nat) : Int) == 1)) && z127) && (z71.2 == 0)) && z134)).elim (fun hb138 => ?_) (fun hb138 => ?_)
  · skip
    have h := bt hb138 h
    refine WH.lone (i := 48) (by kernel_rfl) rfl ?_
    refine WR.sat (c0 := true) (g := (((((((((z36.length : Nat) : Int) == 1) && (((((gt z36 0).path).length : Nat) : Int) == 1)) && ((gt ((gt z36 0).path) 0) == (gt z11 0))) && (((z61.length : Nat) : Int) == 1)) && z127) && (z71.2 == 0)) && z134)) rfl rfl rfl hb138 ?_
    obtain ⟨z139, hz140, h⟩ := bnd h
    refine e_call (is := []) rfl rfl (call_run Tryz.call18 rfl rfl (args3 (gu hb138 rfl) (gu hb138 rfl) rfl)) rfl (fun w hp => t_mend_Give (hs29.mono (((((hl32.trans hl39).trans hl47).trans hl57).trans hl64).trans hl74)) hc30 (hs49.mono ((hl57.trans hl64).trans hl74)) hc50 (Sl.nil recT _ none) (Nat.zero_le 0) hp hz140) ?_
    rintro Γ141 U143 v144 hl142 ⟨A145, c146, row147, rfl, rfl, hr148, _⟩
    change WR _ _ _ (CC F Γ141 [row147, row79, row69, [], row44, [], [], []]) _ _ (upd _ 71 (.slice A145 z139.length c146))
    refine WR.nil ?_
    refine WH.next (fun w hw => hw.back hl142 h082 (.cons _ (.cons_cons _ (.cons_cons _ (.cons_cons _ (.cons_cons _ (.cons_cons _ (.cons_cons _ (.cons_cons _ .slnil))))))))) ?_
    refine WH.lone (i := 49) (by kernel_rfl) rfl ?_
    refine vg1 rfl rfl rfl rfl rfl (fun hg150 => QV.qo (q_len_slice rfl Tryz.underlying22 rfl)) ?_
    refine WR.nil ?_
    refine WH.next (fun w hw => hw.back hl142 h082 (.cons _ (.cons_cons _ (.cons_cons _ (.cons_cons _ (.cons_cons _ (.cons_cons _ (.cons_cons _ (.cons_cons _ .slnil))))))))) ?_
    refine hg1 (i := 50) rfl (by kernel_rfl) rfl rfl rfl rfl rfl (fun w hw => hw.back hl142 h082 (.cons _ (.cons_cons _ (.cons_cons _ (.cons_cons _ (.cons_cons _ (.cons_cons _ (.cons_cons _ (.cons_cons _ .slnil))))))))) (fun hg151 => (q_eql rfl (gu hg151 rfl) rfl)) ?_
    refine ht (i := 51) rfl (by kernel_rfl) rfl rfl rfl (fun w hw => hw.back hl142 h082 (.cons _ (.cons_cons _ (.cons_cons _ (.cons_cons _ (.cons_cons _ (.cons_cons _ (.cons_cons _ (.cons_cons _ .slnil))))))))) (q_pick_t (v := .bool (((z139.length : Nat) : Int) == 1)) rfl rfl hb138 (gu hb138 rfl)) ?_
    refine ht (i := 52) rfl (by kernel_rfl) rfl rfl rfl (fun w hw => hw.back hl142 h082 (.cons _ (.cons_cons _ (.cons_cons _ (.cons_cons _ (.cons_cons _ (.cons_cons _ (.cons_cons _ (.cons_cons _ .slnil))))))))) (q_move (v := .bool (((z139.length : Nat) : Int) == 1)) rfl (by kernel_rfl)) ?_
    refine hg1 (i := 53) rfl (by kernel_rfl) rfl rfl rfl rfl rfl (fun w hw => hw.back hl142 h082 (.cons _ (.cons_cons _ (.cons_cons _ (.cons_cons _ (.cons_cons _ (.cons_cons _ (.cons_cons _ (.cons_cons _ .slnil))))))))) (fun hg152 => (q_move (v := .slice (some ⟨g10, 0, none⟩) [z1].length 1) rfl (by kernel_rfl))) ?_
    refine hg1 (i := 54) rfl (by kernel_rfl) rfl rfl rfl rfl rfl (fun w hw => hw.back hl142 h082 (.cons _ (.cons_cons _ (.cons_cons _ (.cons_cons _ (.cons_cons _ (.cons_cons _ (.cons_cons _ (.cons_cons _ .slnil))))))))) (fun hg153 => (q_move (v := .slice A17 z11.length c18) rfl (by kernel_rfl))) ?_
    refine hg1 (i := 55) rfl (by kernel_rfl) rfl rfl rfl rfl rfl (fun w hw => hw.back hl142 h082 (.cons _ (.cons_cons _ (.cons_cons _ (.cons_cons _ (.cons_cons _ (.cons_cons _ (.cons_cons _ (.cons_cons _ .slnil))))))))) (fun hg154 => (q_move (v := .slice (some ⟨g10, 0, none⟩) [z1].length 1) rfl (by kernel_rfl))) ?_
    refine (Bool.eq_false_or_eq_true (((z139.length : Nat) : Int) == 1)).elim (fun hb155 => ?_) (fun hb155 => ?_)
    · skip
      have h := bt hb155 h
      refine WH.lone (i := 56) (by kernel_rfl) rfl ?_
      refine WR.sat (c0 := true) (g := (((z139.length : Nat) : Int) == 1)) rfl rfl rfl hb155 ?_
      obtain ⟨z156, hz157, h⟩ := bnd h
      refine e_call (is := []) rfl rfl (call_run Tryz.call18 rfl rfl (args3 (gu hb155 rfl) (gu hb155 rfl) (gu hb155 rfl))) rfl (fun w hp => t_mend_Give (hs29.mono ((((((hl32.trans hl39).trans hl47).trans hl57).trans hl64).trans hl74).trans hl142)) hc30 (hs49.mono (((hl57.trans hl64).trans hl74).trans hl142)) hc50 (hs29.mono ((((((hl32.trans hl39).trans hl47).trans hl57).trans hl64).trans hl74).trans hl142)) hc30 hp hz157) ?_
      rintro Γ158 U160 v161 hl159 ⟨A162, c163, row164, rfl, rfl, hr165, _⟩
      change WR _ _ _ (CC F Γ158 [row164, row147, row79, row69, [], row44, [], [], []]) _ _ (upd _ 79 (.slice A162 z156.length c163))
      refine WR.nil ?_
      refine WH.next (fun w hw => hw.back (hl142.trans hl159) h082 (.cons _ (.cons _ (.cons_cons _ (.cons_cons _ (.cons_cons _ (.cons_cons _ (.cons_cons _ (.cons_cons _ (.cons_cons _ .slnil)))))))))) ?_
      refine WH.lone (i := 57) (by kernel_rfl) rfl ?_
      refine vg1 rfl rfl rfl rfl rfl (fun hg167 => QV.qo (q_len_slice rfl Tryz.underlying22 rfl)) ?_
      refine WR.nil ?_
      refine WH.next (fun w hw => hw.back (hl142.trans hl159) h082 (.cons _ (.cons _ (.cons_cons _ (.cons_cons _ (.cons_cons _ (.cons_cons _ (.cons_cons _ (.cons_cons _ (.cons_cons _ .slnil)))))))))) ?_
      refine hg1 (i := 58) rfl (by kernel_rfl) rfl rfl rfl rfl rfl (fun w hw => hw.back (hl142.trans hl159) h082 (.cons _ (.cons _ (.cons_cons _ (.cons_cons _ (.cons_cons _ (.cons_cons _ (.cons_cons _ (.cons_cons _ (.cons_cons _ .slnil)))))))))) (fun hg168 => (q_eql rfl (gu hg168 rfl) rfl)) ?_
      refine ht (i := 59) rfl (by kernel_rfl) rfl rfl rfl (fun w hw => hw.back (hl142.trans hl159) h082 (.cons _ (.cons _ (.cons_cons _ (.cons_cons _ (.cons_cons _ (.cons_cons _ (.cons_cons _ (.cons_cons _ (.cons_cons _ .slnil)))))))))) (q_pick_t (v := .bool (((z156.length : Nat) : Int) == 0)) rfl rfl hb155 (gu hb155 rfl)) ?_
      refine ht (i := 60) rfl (by kernel_rfl) rfl rfl rfl (fun w hw => hw.back (hl142.trans hl159) h082 (.cons _ (.cons _ (.cons_cons _ (.cons_cons _ (.cons_cons _ (.cons_cons _ (.cons_cons _ (.cons_cons _ (.cons_cons _ .slnil)))))))))) (q_move (v := .bool (((z156.length : Nat) : Int) == 0)) rfl (by kernel_rfl)) ?_
      refine hg1 (i := 61) rfl (by kernel_rfl) rfl rfl rfl rfl rfl (fun w hw => hw.back (hl142.trans hl159) h082 (.cons _ (.cons _ (.cons_cons _ (.cons_cons _ (.cons_cons _ (.cons_cons _ (.cons_cons _ (.cons_cons _ (.cons_cons _ .slnil)))))))))) (fun hg169 => (q_move (v := .slice (some ⟨g10, 0, none⟩) [z1].length 1) rfl (by kernel_rfl))) ?_
      refine (Bool.eq_false_or_eq_true (((z156.length : Nat) : Int) == 0)).elim (fun hb170 => ?_) (fun hb170 => ?_)
      · skip
        have h := bt hb170 h
        refine WH.lone (i := 62) (by kernel_rfl) rfl ?_
        refine WR.sat (c0 := true) (g := (((z156.length : Nat) : Int) == 0)) rfl rfl rfl hb170 ?_
        obtain ⟨z171, hz172, h⟩ := bnd h
        refine e_call (is := []) rfl rfl (call_run Tryz.call13 rfl rfl (args1 (gu hb170 rfl))) rfl (fun w hp => t_mend_Open (hs29.mono (((((((hl32.trans hl39).trans hl47).trans hl57).trans hl64).trans hl74).trans hl142).trans hl159)) hc30 hp hz172) ?_
        rintro Γ173 U175 v176 hl174 ⟨A177, c178, row179, rfl, rfl, hr180, _⟩
        change WR _ _ _ (CC F Γ173 [row179, row164, row147, row79, row69, [], row44, [], [], []]) _ _ (upd _ 85 (.slice A177 z171.length c178))
        refine WR.nil ?_
        refine WH.next (fun w hw => hw.back ((hl142.trans hl159).trans hl174) h082 (.cons _ (.cons _ (.cons _ (.cons_cons _ (.cons_cons _ (.cons_cons _ (.cons_cons _ (.cons_cons _ (.cons_cons _ (.cons_cons _ .slnil))))))))))) ?_
        refine WH.lone (i := 63) (by kernel_rfl) rfl ?_
        refine vg1 rfl rfl rfl rfl rfl (fun hg182 => QV.qo (q_len_slice rfl Tryz.underlying24 rfl)) ?_
        refine WR.nil ?_
        refine WH.next (fun w hw => hw.back ((hl142.trans hl159).trans hl174) h082 (.cons _ (.cons _ (.cons _ (.cons_cons _ (.cons_cons _ (.cons_cons _ (.cons_cons _ (.cons_cons _ (.cons_cons _ (.cons_cons _ .slnil))))))))))) ?_
        refine hg1 (i := 64) rfl (by kernel_rfl) rfl rfl rfl rfl rfl (fun w hw => hw.back ((hl142.trans hl159).trans hl174) h082 (.cons _ (.cons _ (.cons _ (.cons_cons _ (.cons_cons _ (.cons_cons _ (.cons_cons _ (.cons_cons _ (.cons_cons _ (.cons_cons _ .slnil))))))))))) (fun hg183 => (q_eql rfl (gu hg183 rfl) rfl)) ?_
        refine ht (i := 65) rfl (by kernel_rfl) rfl rfl rfl (fun w hw => hw.back ((hl142.trans hl159).trans hl174) h082 (.cons _ (.cons _ (.cons _ (.cons_cons _ (.cons_cons _ (.cons_cons _ (.cons_cons _ (.cons_cons _ (.cons_cons _ (.cons_cons _ .slnil))))))))))) (q_pick_t (v := .bool (((z171.length : Nat) : Int) == 16)) rfl rfl hb170 (gu hb170 rfl)) ?_
        refine ht (i := 66) rfl (by kernel_rfl) rfl rfl rfl (fun w hw => hw.back ((hl142.trans hl159).trans hl174) h082 (.cons _ (.cons _ (.cons _ (.cons_cons _ (.cons_cons _ (.cons_cons _ (.cons_cons _ (.cons_cons _ (.cons_cons _ (.cons_cons _ .slnil))))))))))) (q_assign (v := .bool (((z171.length : Nat) : Int) == 16)) rfl (by kernel_rfl)) ?_
        refine WH.done (by kernel_rfl) ?_
        change WC _ _ _ _ _ _
        refine WC.ret ?_
        intro w hw
        obtain rfl := Option.some.inj h
        subst hF
        exact ⟨by kernel_rfl, hw.fr⟩
      · skip
        have h := bf hb170 h
        refine hg1 (g := (((z156.length : Nat) : Int) == 0)) (i := 62) (v := undef) rfl (by kernel_rfl) rfl rfl rfl rfl rfl (fun w hw => hw.back (hl142.trans hl159) h082 (.cons _ (.cons _ (.cons_cons _ (.cons_cons _ (.cons_cons _ (.cons_cons _ (.cons_cons _ (.cons_cons _ (.cons_cons _ .slnil)))))))))) (no_tf hb170) ?_
        refine WH.env (v := undef) (gv_false hb170) ?_
        refine hg1 (g := (((z156.length : Nat) : Int) == 0)) (i := 63) (v := undef) rfl (by kernel_rfl) rfl rfl rfl rfl rfl (fun w hw => hw.back (hl142.trans hl159) h082 (.cons _ (.cons _ (.cons_cons _ (.cons_cons _ (.cons_cons _ (.cons_cons _ (.cons_cons _ (.cons_cons _ (.cons_cons _ .slnil)))))))))) (no_tf hb170) ?_
        refine WH.env (v := undef) (gv_false hb170) ?_
        refine hg1 (g := (((z156.length : Nat) : Int) == 0)) (i := 64) (v := undef) rfl (by kernel_rfl) rfl rfl rfl rfl rfl (fun w hw => hw.back (hl142.trans hl159) h082 (.cons _ (.cons _ (.cons_cons _ (.cons_cons _ (.cons_cons _ (.cons_cons _ (.cons_cons _ (.cons_cons _ (.cons_cons _ .slnil)))))))))) (no_tf hb170) ?_
        refine WH.env (v := undef) (gv_false hb170) ?_
        refine ht (i := 65) rfl (by kernel_rfl) rfl rfl rfl (fun w hw => hw.back (hl142.trans hl159) h082 (.cons _ (.cons _ (.cons_cons _ (.cons_cons _ (.cons_cons _ (.cons_cons _ (.cons_cons _ (.cons_cons _ (.cons_cons _ .slnil)))))))))) (q_pick_f (v := .bool false) rfl rfl hb170 (by kernel_rfl)) ?_
        refine ht (i := 66) rfl (by kernel_rfl) rfl rfl rfl (fun w hw => hw.back (hl142.trans hl159) h082 (.cons _ (.cons _ (.cons_cons _ (.cons_cons _ (.cons_cons _ (.cons_cons _ (.cons_cons _ (.cons_cons _ (.cons_cons _ .slnil)))))))))) (q_assign (v := .bool false) rfl (by kernel_rfl)) ?_
        refine WH.done (by kernel_rfl) ?_
        change WC _ _ _ _ _ _
        refine WC.ret ?_
        intro w hw
        obtain rfl := Option.some.inj h
        subst hF
        exact ⟨by kernel_rfl, hw.fr⟩
    · skip
      have h := bf hb155 h
      refine hg1 (g := (((z139.length : Nat) : Int) == 1)) (i := 56) (v := undef) rfl (by kernel_rfl) rfl rfl rfl rfl rfl (fun w hw => hw.back hl142 h082 (.cons _ (.cons_cons _ (.cons_cons _ (.cons_cons _ (.cons_cons _ (.cons_cons _ (.cons_cons _ (.cons_cons _ .slnil))))))))) (no_tf hb155) ?_
      refine WH.env (v := undef) (gv_false hb155) ?_
      refine hg1 (g := (((z139.length : Nat) : Int) == 1)) (i := 57) (v := undef) rfl (by kernel_rfl) rfl rfl rfl rfl rfl (fun w hw => hw.back hl142 h082 (.cons _ (.cons_cons _ (.cons_cons _ (.cons_cons _ (.cons_cons _ (.cons_cons _ (.cons_cons _ (.cons_cons _ .slnil))))))))) (no_tf hb155) ?_
      refine WH.env (v := undef) (gv_false hb155) ?_
      refine hg1 (g := (((z139.length : Nat) : Int) == 1)) (i := 58) (v := undef) rfl (by kernel_rfl) rfl rfl rfl rfl rfl (fun w hw => hw.back hl142 h082 (.cons _ (.cons_cons _ (.cons_cons _ (.cons_cons _ (.cons_cons _ (.cons_cons _ (.cons_cons _ (.cons_cons _ .slnil))))))))) (no_tf hb155) ?_
      refine WH.env (v := undef) (gv_false hb155) ?_
      refine ht (i := 59) rfl (by kernel_rfl) rfl rfl rfl (fun w hw => hw.back hl142 h082 (.cons _ (.cons_cons _ (.cons_cons _ (.cons_cons _ (.cons_cons _ (.cons_cons _ (.cons_cons _ (.cons_cons _ .slnil))))))))) (q_pick_f (v := .bool false) rfl rfl hb155 (by kernel_rfl)) ?_
      refine ht (i := 60) rfl (by kernel_rfl) rfl rfl rfl (fun w hw => hw.back hl142 h082 (.cons _ (.cons_cons _ (.cons_cons _ (.cons_cons _ (.cons_cons _ (.cons_cons _ (.cons_cons _ (.cons_cons _ .slnil))))))))) (q_move (v := .bool false) rfl (by kernel_rfl)) ?_
      refine hg1 (g := false) (i := 61) (v := undef) rfl (by kernel_rfl) rfl rfl rfl rfl rfl (fun w hw => hw.back hl142 h082 (.cons _ (.cons_cons _ (.cons_cons _ (.cons_cons _ (.cons_cons _ (.cons_cons _ (.cons_cons _ (.cons_cons _ .slnil))))))))) (no_tf rfl) ?_
      refine WH.env (v := undef) (gv_false rfl) ?_
      refine hg1 (g := false) (i := 62) (v := undef) rfl (by kernel_rfl) rfl rfl rfl rfl rfl (fun w hw => hw.back hl142 h082 (.cons _ (.cons_cons _ (.cons_cons _ (.cons_cons _ (.cons_cons _ (.cons_cons _ (.cons_cons _ (.cons_cons _ .slnil))))))))) (no_tf rfl) ?_
      refine WH.env (v := undef) (gv_false rfl) ?_
      refine hg1 (g := false) (i := 63) (v := undef) rfl (by kernel_rfl) rfl rfl rfl rfl rfl (fun w hw => hw.back hl142 h082 (.cons _ (.cons_cons _ (.cons_cons _ (.cons_cons _ (.cons_cons _ (.cons_cons _ (.cons_cons _ (.cons_cons _ .slnil))))))))) (no_tf rfl) ?_
      refine WH.env (v := undef) (gv_false rfl) ?_
      refine hg1 (g := false) (i := 64) (v := undef) rfl (by kernel_rfl) rfl rfl rfl rfl rfl (fun w hw => hw.back hl142 h082 (.cons _ (.cons_cons _ (.cons_cons _ (.cons_cons _ (.cons_cons _ (.cons_cons _ (.cons_cons _ (.cons_cons _ .slnil))))))))) (no_tf rfl) ?_
      refine WH.env (v := undef) (gv_false rfl) ?_
      refine ht (i := 65) rfl (by kernel_rfl) rfl rfl rfl (fun w hw => hw.back hl142 h082 (.cons _ (.cons_cons _ (.cons_cons _ (.cons_cons _ (.cons_cons _ (.cons_cons _ (.cons_cons _ (.cons_cons _ .slnil))))))))) (q_pickf (v := .bool false) rfl rfl rfl) ?_
      refine ht (i := 66) rfl (by kernel_rfl) rfl rfl rfl (fun w hw => hw.back hl142 h082 (.cons _ (.cons_cons _ (.cons_cons _ (.cons_cons _ (.cons_cons _ (.cons_cons _ (.cons_cons _ (.cons_cons _ .slnil))))))))) (q_assign (v := .bool false) rfl (by kernel_rfl)) ?_
      refine WH.done (by kernel_rfl) ?_
      change WC _ _ _ _ _ _
      refine WC.ret ?_
      intro w hw
      obtain rfl := Option.some.inj h
      subst hF
      exact ⟨by kernel_rfl, hw.fr⟩
  · skip
    have h := bf hb138 h
    refine hg1 (g := (((((((((z36.length : Nat) : Int) == 1) && (((((gt z36 0).path).length : Nat) : Int) == 1)) && ((gt ((gt z36 0).path) 0) == (gt z11 0))) && (((z61.length : Nat) : Int) == 1)) && z127) && (z71.2 == 0)) && z134)) (i := 48) (v := undef) rfl (by kernel_rfl) rfl rfl rfl rfl rfl (fun w hw => hw.back (Gh.refl _) h082 (.cons_cons _ (.cons_cons _ (.cons_cons _ (.cons_cons _ (.cons_cons _ (.cons_cons _ (.cons_cons _ .slnil)))))))) (no_tf hb138) ?_
    refine WH.env (v := undef) (gv_false hb138) ?_
    refine hg1 (g := (((((((((z36.length : Nat) : Int) == 1) && (((((gt z36 0).path).length : Nat) : Int) == 1)) && ((gt ((gt z36 0).path) 0) == (gt z11 0))) && (((z61.length : Nat) : Int) == 1)) && z127) && (z71.2 == 0)) && z134)) (i := 49) (v := undef) rfl (by kernel_rfl) rfl rfl rfl rfl rfl (fun w hw => hw.back (Gh.refl _) h082 (.cons_cons _ (.cons_cons _ (.cons_cons _ (.cons_cons _ (.cons_cons _ (.cons_cons _ (.cons_cons _ .slnil)))))))) (no_tf hb138) ?_
    refine WH.env (v := undef) (gv_false hb138) ?_
    refine hg1 (g := (((((((((z36.length : Nat) : Int) == 1) && (((((gt z36 0).path).length : Nat) : Int) == 1)) && ((gt ((gt z36 0).path) 0) == (gt z11 0))) && (((z61.length : Nat) : Int) == 1)) && z127) && (z71.2 == 0)) && z134)) (i := 50) (v := undef) rfl (by kernel_rfl) rfl rfl rfl rfl rfl (fun w hw => hw.back (Gh.refl _) h082 (.cons_cons _ (.cons_cons _ (.cons_cons _ (.cons_cons _ (.cons_cons _ (.cons_cons _ (.cons_cons _ .slnil)))))))) (no_tf hb138) ?_
    refine WH.env (v := undef) (gv_false hb138) ?_
    refine ht (i := 51) rfl (by kernel_rfl) rfl rfl rfl (fun w hw => hw.back (Gh.refl _) h082 (.cons_cons _ (.cons_cons _ (.cons_cons _ (.cons_cons _ (.cons_cons _ (.cons_cons _ (.cons_cons _ .slnil)))))))) (q_pick_f (v := .bool false) rfl rfl hb138 (by kernel_rfl)) ?_
    refine ht (i := 52) rfl (by kernel_rfl) rfl rfl rfl (fun w hw => hw.back (Gh.refl _) h082 (.cons_cons _ (.cons_cons _ (.cons_cons _ (.cons_cons _ (.cons_cons _ (.cons_cons _ (.cons_cons _ .slnil)))))))) (q_move (v := .bool false) rfl (by kernel_rfl)) ?_
    refine hg1 (g := false) (i := 53) (v := undef) rfl (by kernel_rfl) rfl rfl rfl rfl rfl (fun w hw => hw.back (Gh.refl _) h082 (.cons_cons _ (.cons_cons _ (.cons_cons _ (.cons_cons _ (.cons_cons _ (.cons_cons _ (.cons_cons _ .slnil)))))))) (no_tf rfl) ?_
    refine WH.env (v := undef) (gv_false rfl) ?_
    refine hg1 (g := false) (i := 54) (v := undef) rfl (by kernel_rfl) rfl rfl rfl rfl rfl (fun w hw => hw.back (Gh.refl _) h082 (.cons_cons _ (.cons_cons _ (.cons_cons _ (.cons_cons _ (.cons_cons _ (.cons_cons _ (.cons_cons _ .slnil)))))))) (no_tf rfl) ?_
    refine WH.env (v := undef) (gv_false rfl) ?_
    refine hg1 (g := false) (i := 55) (v := undef) rfl (by kernel_rfl) rfl rfl rfl rfl rfl (fun w hw => hw.back (Gh.refl _) h082 (.cons_cons _ (.cons_cons _ (.cons_cons _ (.cons_cons _ (.cons_cons _ (.cons_cons _ (.cons_cons _ .slnil)))))))) (no_tf rfl) ?_
    refine WH.env (v := undef) (gv_false rfl) ?_
    refine hg1 (g := false) (i := 56) (v := undef) rfl (by kernel_rfl) rfl rfl rfl rfl rfl (fun w hw => hw.back (Gh.refl _) h082 (.cons_cons _ (.cons_cons _ (.cons_cons _ (.cons_cons _ (.cons_cons _ (.cons_cons _ (.cons_cons _ .slnil)))))))) (no_tf rfl) ?_
    refine WH.env (v := undef) (gv_false rfl) ?_
    refine hg1 (g := false) (i := 57) (v := undef) rfl (by kernel_rfl) rfl rfl rfl rfl rfl (fun w hw => hw.back (Gh.refl _) h082 (.cons_cons _ (.cons_cons _ (.cons_cons _ (.cons_cons _ (.cons_cons _ (.cons_cons _ (.cons_cons _ .slnil)))))))) (no_tf rfl) ?_
    refine WH.env (v := undef) (gv_false rfl) ?_
    refine hg1 (g := false) (i := 58) (v := undef) rfl (by kernel_rfl) rfl rfl rfl rfl rfl (fun w hw => hw.back (Gh.refl _) h082 (.cons_cons _ (.cons_cons _ (.cons_cons _ (.cons_cons _ (.cons_cons _ (.cons_cons _ (.cons_cons _ .slnil)))))))) (no_tf rfl) ?_
    refine WH.env (v := undef) (gv_false rfl) ?_
    refine ht (i := 59) rfl (by kernel_rfl) rfl rfl rfl (fun w hw => hw.back (Gh.refl _) h082 (.cons_cons _ (.cons_cons _ (.cons_cons _ (.cons_cons _ (.cons_cons _ (.cons_cons _ (.cons_cons _ .slnil)))))))) (q_pickf (v := .bool false) rfl rfl rfl) ?_
    refine ht (i := 60) rfl (by kernel_rfl) rfl rfl rfl (fun w hw => hw.back (Gh.refl _) h082 (.cons_cons _ (.cons_cons _ (.cons_cons _ (.cons_cons _ (.cons_cons _ (.cons_cons _ (.cons_cons _ .slnil)))))))) (q_move (v := .bool false) rfl (by kernel_rfl)) ?_
    refine hg1 (g := false) (i := 61) (v := undef) rfl (by kernel_rfl) rfl rfl rfl rfl rfl (fun w hw => hw.back (Gh.refl _) h082 (.cons_cons _ (.cons_cons _ (.cons_cons _ (.cons_cons _ (.cons_cons _ (.cons_cons _ (.cons_cons _ .slnil)))))))) (no_tf rfl) ?_
    refine WH.env (v := undef) (gv_false rfl) ?_
    refine hg1 (g := false) (i := 62) (v := undef) rfl (by kernel_rfl) rfl rfl rfl rfl rfl (fun w hw => hw.back (Gh.refl _) h082 (.cons_cons _ (.cons_cons _ (.cons_cons _ (.cons_cons _ (.cons_cons _ (.cons_cons _ (.cons_cons _ .slnil)))))))) (no_tf rfl) ?_
    refine WH.env (v := undef) (gv_false rfl) ?_
    refine hg1 (g := false) (i := 63) (v := undef) rfl (by kernel_rfl) rfl rfl rfl rfl rfl (fun w hw => hw.back (Gh.refl _) h082 (.cons_cons _ (.cons_cons _ (.cons_cons _ (.cons_cons _ (.cons_cons _ (.cons_cons _ (.cons_cons _ .slnil)))))))) (no_tf rfl) ?_
    refine WH.env (v := undef) (gv_false rfl) ?_
    refine hg1 (g := false) (i := 64) (v := undef) rfl (by kernel_rfl) rfl rfl rfl rfl rfl (fun w hw => hw.back (Gh.refl _) h082 (.cons_cons _ (.cons_cons _ (.cons_cons _ (.cons_cons _ (.cons_cons _ (.cons_cons _ (.cons_cons _ .slnil)))))))) (no_tf rfl) ?_
    refine WH.env (v := undef) (gv_false rfl) ?_
    refine ht (i := 65) rfl (by kernel_rfl) rfl rfl rfl (fun w hw => hw.back (Gh.refl _) h082 (.cons_cons _ (.cons_cons _ (.cons_cons _ (.cons_cons _ (.cons_cons _ (.cons_cons _ (.cons_cons _ .slnil)))))))) (q_pickf (v := .bool false) rfl rfl rfl) ?_
    refine ht (i := 66) rfl (by kernel_rfl) rfl rfl rfl (fun w hw => hw.back (Gh.refl _) h082 (.cons_cons _ (.cons_cons _ (.cons_cons _ (.cons_cons _ (.cons_cons _ (.cons_cons _ (.cons_cons _ .slnil)))))))) (q_assign (v := .bool false) rfl (by kernel_rfl)) ?_
    refine WH.done (by kernel_rfl) ?_
    change WC _ _ _ _ _ _
    refine WC.ret ?_
    intro w hw
    obtain rfl := Option.some.inj h
    subst hF
    exact ⟨by kernel_rfl, hw.fr⟩
set_option maxRecDepth 100000 in
set_option maxHeartbeats 400000 in
theorem t_firthref03_Dot {Γ : Gh} {w0 : World} (d : Dot) (hd : Dot.fits Γ  d) (hs : Sat Γ w0) {r : Bool} (h : m_firthref03_Dot d = some r) : Calls Tryz.prog 101 #[.agg #[.int .i64 d.s, .int .i64 d.n]] w0 (fun e w' => e = .returned (.bool r) ∧ Fr no w0 w') := by
  refine calls_of (N := 21) (rs := [2]) (args := [.agg #[.int .i64 d.s, .int .i64 d.n]]) Tryz.func101 rfl Tryz.ntmps101 Tryz.results101 rfl ?_
  obtain ⟨F, hF⟩ : ∃ F : Fm, F = ⟨no, w0, Γ⟩ := ⟨_, rfl⟩
  refine WC.here (C := CC F Γ []) ?_ (hF ▸ Cur.start0 hs)
  refine WC.rs ?_
  refine e_box (v := .agg #[.int .i64 d.s, .int .i64 d.n]) rfl rfl rfl rfl (by kernel_rfl) ?_
  intro g1
  refine va rfl rfl rfl (q_assign (v := .bool false) rfl (by kernel_rfl)) ?_
  refine WR.nil ?_
  change WC _ _ _ _ _ _
  refine WC.rs ?_
  refine va rfl rfl rfl (q_fl 0 fld_54_0 rfl rfl rfl) ?_
  refine va rfl rfl rfl (q_ldl (i := 0) (v := .int .i64 d.s) rfl rfl Tryz.isAgg3 rfl rfl) ?_
  refine va rfl rfl rfl (q_geq rfl rfl rfl) ?_
  refine va rfl rfl rfl (q_move (v := .bool (decide (1 ≤ d.s))) rfl (by kernel_rfl)) ?_
  refine vg1 rfl rfl rfl rfl rfl (fun hg2 => QV.qo (q_fl 0 fld_54_0 rfl rfl rfl)) ?_
  refine vg1 rfl rfl rfl rfl rfl (fun hg3 => QV.qo (q_ldl (i := 0) (v := .int .i64 d.s) rfl rfl Tryz.isAgg3 (gu hg3 rfl) rfl)) ?_
  refine vg1 rfl rfl rfl rfl rfl (fun hg4 => QV.qo (q_leq rfl (gu hg4 rfl) rfl)) ?_
  refine va rfl rfl rfl (q_pick rfl rfl (pk_and' (g := (decide (1 ≤ d.s))) (y := (decide (d.s ≤ 16))))) ?_
  refine va rfl rfl rfl (q_move (v := .bool ((decide (1 ≤ d.s)) && (decide (d.s ≤ 16)))) rfl (by kernel_rfl)) ?_
  refine vg1 rfl rfl rfl rfl rfl (fun hg5 => QV.qo (q_fl 1 fld_54_1 rfl rfl rfl)) ?_
  refine vg1 rfl rfl rfl rfl rfl (fun hg6 => QV.qo (q_ldl (i := 0) (v := .int .i64 d.n) rfl rfl Tryz.isAgg2 (gu hg6 rfl) rfl)) ?_
  refine vg1 rfl rfl rfl rfl rfl (fun hg7 => QV.qo (q_geq rfl (gu hg7 rfl) rfl)) ?_
  refine va rfl rfl rfl (q_pick rfl rfl (pk_and' (g := ((decide (1 ≤ d.s)) && (decide (d.s ≤ 16)))) (y := (decide (1 ≤ d.n))))) ?_
  refine va rfl rfl rfl (q_move (v := .bool (((decide (1 ≤ d.s)) && (decide (d.s ≤ 16))) && (decide (1 ≤ d.n)))) rfl (by kernel_rfl)) ?_
  refine vg1 rfl rfl rfl rfl rfl (fun hg8 => QV.qo (q_fl 1 fld_54_1 rfl rfl rfl)) ?_
  refine vg1 rfl rfl rfl rfl rfl (fun hg9 => QV.qo (q_ldl (i := 0) (v := .int .i64 d.n) rfl rfl Tryz.isAgg2 (gu hg9 rfl) rfl)) ?_
  refine vg1 rfl rfl rfl rfl rfl (fun hg10 => QV.qo (q_leq rfl (gu hg10 rfl) rfl)) ?_
  refine va rfl rfl rfl (q_pick rfl rfl (pk_and' (g := (((decide (1 ≤ d.s)) && (decide (d.s ≤ 16))) && (decide (1 ≤ d.n)))) (y := (decide (d.n ≤ 4611686018427387904))))) ?_
  refine va rfl rfl rfl (q_assign (v := .bool ((((decide (1 ≤ d.s)) && (decide (d.s ≤ 16))) && (decide (1 ≤ d.n))) && (decide (d.n ≤ 4611686018427387904)))) rfl (by kernel_rfl)) ?_
  refine WR.nil ?_
  change WC _ _ _ _ _ _
  refine WC.ret ?_
  intro w hw
  obtain rfl := Option.some.inj h
  subst hF
  exact ⟨by kernel_rfl, hw.fr⟩
set_option maxRecDepth 100000 in
set_option maxHeartbeats 400000 in
theorem t_firthref03_Right {Γ : Gh} {w0 : World} {Al : Option Addr} {cl : Nat} {l : List Span} (hl : Sl spanT Γ Al l) (hlc : l.length ≤ cl) (hs : Sat Γ w0) {r : Bool} (h : m_firthref03_Right l = some r) : Calls Tryz.prog 102 #[.slice Al l.length cl] w0 (fun e w' => e = .returned (.bool r) ∧ Fr no w0 w') := by
  refine calls_of (N := 99) (rs := [2]) (args := [.slice Al l.length cl]) Tryz.func102 rfl Tryz.ntmps102 Tryz.results102 rfl ?_
  obtain ⟨F, hF⟩ : ∃ F : Fm, F = ⟨no, w0, Γ⟩ := ⟨_, rfl⟩
  refine WC.here (C := CC F Γ []) ?_ (hF ▸ Cur.start0 hs)
  refine WC.rs ?_
  refine va rfl rfl rfl (q_assign (v := .bool false) rfl (by kernel_rfl)) ?_
  refine WR.nil ?_
  change WC _ _ _ _ _ _
  refine WC.seq ?_
  refine WC.rs ?_
  refine va rfl rfl rfl (q_move (v := .slice Al l.length cl) rfl (by kernel_rfl)) ?_
  refine va rfl rfl rfl (q_len_slice rfl Tryz.underlying55 rfl) ?_
  refine va rfl rfl rfl (q_gtr rfl rfl rfl) ?_
  refine WR.nil ?_
  change WC _ _ _ _ _ _
  refine WC.cif h (by kernel_rfl) (fun hb1 h => ?_) (fun hb1 h => ?_)
  · skip
    refine WC.rs ?_
    refine va rfl rfl rfl (q_assign (v := .bool false) rfl (by kernel_rfl)) ?_
    refine WR.nil ?_
    change WC _ _ _ _ _ _
    refine WC.ret ?_
    intro w hw
    obtain rfl := Option.some.inj h
    subst hF
    exact ⟨by kernel_rfl, hw.fr⟩
  · skip
    refine WC.skip ?_
    change WC _ _ _ _ _ _
    refine WC.seq ?_
    refine WC.rs ?_
    refine va rfl rfl rfl (q_assign (v := .int .i64 0) rfl (by kernel_rfl)) ?_
    refine WR.nil ?_
    change WC _ _ _ _ _ _
    refine WC.block ?_
    refine WC.forI h (fun (i3 : Nat) (s : Unit) σ w => match s with | () => slots σ [(0, .slice Al l.length cl), (3, .int .i64 ((i3 : Nat) : Int))] ∧ CC F Γ [] w ∧ True) ?_ ?_
    · skip
      intro w hw
      exact ⟨(sl_ (by kernel_rfl)), hw, trivial⟩
    rintro f2 i3 ⟨⟩ σ w hi4 hlt5 hge6 ⟨hsl, hw, -⟩
    refine Wpt.slots hsl ?_
    refine WC.here (C := CC F Γ []) ?_ hw
    clear hw hsl
    refine WC.seq ?_
    refine WC.rs ?_
    refine va rfl rfl rfl (q_move (v := .int .i64 ((i3 : Nat) : Int)) rfl (by kernel_rfl)) ?_
    refine va rfl rfl rfl (q_move (v := .slice Al l.length cl) rfl (by kernel_rfl)) ?_
    refine va rfl rfl rfl (q_len_slice rfl Tryz.underlying55 rfl) ?_
    refine va rfl rfl rfl (q_lss rfl rfl rfl) ?_
    refine WR.nil ?_
    change WC _ _ _ _ _ _
    refine WC.cond (b := (decide (((i3 : Nat) : Int) < ((l.length : Nat) : Int)))) (by kernel_rfl) (fun hb7 => ?_) (fun hb7 => ?_)
    · skip
      have hl8 := ilt hb7
      have h := hlt5 hl8
      refine WC.skip ?_
      change WC _ _ _ _ _ _
      refine WC.seq ?_
      refine WC.block ?_
      refine WC.seq ?_
      refine WC.seq ?_
      refine WC.dr (by kernel_rfl) (by kernel_rfl) (fun w hw => hw.drawn _) ?_
      refine wa rfl rfl rfl (q_move (v := .slice Al l.length cl) rfl (by kernel_rfl)) ?_
      refine wa rfl rfl rfl (q_move (v := .int .i64 ((i3 : Nat) : Int)) rfl (by kernel_rfl)) ?_
      refine wa rfl rfl rfl (q_ixn (i := i3) Tryz.underlying55 Tryz.sizeOf59 rfl rfl rfl hl8 (hl.some_ hl8)) ?_
      refine wa rfl rfl rfl (q_field_addr (i3 * 3) fld_59_0 rfl rfl (hl.some_ hl8) rfl) ?_
      refine wa rfl rfl rfl (q_ld (c := 0) (v := .int .i64 (gt l i3).s) (hl.spanT_at hl8).2 rfl Tryz.isAgg3 rfl rfl) ?_
      refine wa rfl rfl rfl (q_move (v := .slice Al l.length cl) rfl (by kernel_rfl)) ?_
      refine wa rfl rfl rfl (q_move (v := .int .i64 ((i3 : Nat) : Int)) rfl (by kernel_rfl)) ?_
      refine wa rfl rfl rfl (q_ixn (i := i3) Tryz.underlying55 Tryz.sizeOf59 rfl rfl rfl hl8 (hl.some_ hl8)) ?_
      refine wa rfl rfl rfl (q_field_addr (i3 * 3 + 1) fld_59_1 rfl rfl (hl.some_ hl8) rfl) ?_
      refine wa rfl rfl rfl (q_ld (c := 1) (v := .int .i64 (gt l i3).f) (hl.spanT_at hl8).2 rfl Tryz.isAgg2 rfl rfl) ?_
      refine wa rfl rfl rfl (q_build' (v := .agg #[.int .i64 (gt l i3).s, .int .i64 (gt l i3).f]) rfl (bargs2 rfl rfl) (fun w => by kernel_rfl)) ?_
      obtain ⟨z9, hz10, h⟩ := bnd h
      refine wc rfl rfl rfl (q_call (call_run Tryz.call101 rfl rfl (by kernel_rfl)) (fun w hw => t_firthref03_Dot (Γ := Gh.all w) (⟨(gt l i3).s, (gt l i3).f⟩ : Dot) ⟨(hl.spanT_at hl8).1.1, (hl.spanT_at hl8).1.2.1⟩ (Sat.all w) hz10)) ?_
      refine wa rfl rfl rfl (q_not rfl rfl) ?_
      refine wa rfl rfl rfl (q_move (v := .bool (!z9)) rfl (by kernel_rfl)) ?_
      refine wg0 rfl rfl rfl rfl rfl (fun hg11 => QV.qo (q_move (v := .slice Al l.length cl) rfl (by kernel_rfl))) ?_
      refine wg0 rfl rfl rfl rfl rfl (fun hg12 => QV.qo (q_move (v := .int .i64 ((i3 : Nat) : Int)) rfl (by kernel_rfl))) ?_
      refine wg0 rfl rfl rfl rfl rfl (fun hg13 => QV.qo (q_ixn (i := i3) Tryz.underlying55 Tryz.sizeOf59 rfl (gu hg13 rfl) (gu hg13 rfl) hl8 (hl.some_ hl8))) ?_
      refine wg0 rfl rfl rfl rfl rfl (fun hg14 => QV.qo (q_field_addr (i3 * 3) fld_59_0 rfl (gu hg14 rfl) (hl.some_ hl8) rfl)) ?_
      refine wg0 rfl rfl rfl rfl rfl (fun hg15 => QV.qo (q_ld (c := 0) (v := .int .i64 (gt l i3).s) (hl.spanT_at hl8).2 rfl Tryz.isAgg3 (gu hg15 rfl) rfl)) ?_
      refine wg0 rfl rfl rfl rfl rfl (fun hg16 => QV.qo (q_move (v := .slice Al l.length cl) rfl (by kernel_rfl))) ?_
      refine wg0 rfl rfl rfl rfl rfl (fun hg17 => QV.qo (q_move (v := .int .i64 ((i3 : Nat) : Int)) rfl (by kernel_rfl))) ?_
      refine wg0 rfl rfl rfl rfl rfl (fun hg18 => QV.qo (q_ixn (i := i3) Tryz.underlying55 Tryz.sizeOf59 rfl (gu hg18 rfl) (gu hg18 rfl) hl8 (hl.some_ hl8))) ?_
      refine wg0 rfl rfl rfl rfl rfl (fun hg19 => QV.qo (q_field_addr (i3 * 3 + 2) fld_59_2 rfl (gu hg19 rfl) (hl.some_ hl8) rfl)) ?_
      refine wg0 rfl rfl rfl rfl rfl (fun hg20 => QV.qo (q_ld (c := 2) (v := .int .i64 (gt l i3).t) (hl.spanT_at hl8).2 rfl Tryz.isAgg2 (gu hg20 rfl) rfl)) ?_
      refine wg0 rfl rfl rfl rfl rfl (fun hg21 => QV.qo (q_build' (v := .agg #[.int .i64 (gt l i3).s, .int .i64 (gt l i3).t]) rfl (bargs2 (gu hg21 rfl) (gu hg21 rfl)) (fun w => by kernel_rfl))) ?_
      obtain ⟨z23, hz24, h⟩ := bnd h
      refine wg0 rfl rfl rfl rfl rfl (fun hg22 => (q_call (call_run Tryz.call101 rfl rfl (args1 (gu hg22 rfl))) (fun w hw => t_firthref03_Dot (Γ := Gh.all w) (⟨(gt l i3).s, (gt l i3).t⟩ : Dot) ⟨(hl.spanT_at hl8).1.1, (hl.spanT_at hl8).1.2.2⟩ (Sat.all w) (gc_of hz24 hg22)))) ?_
      refine wg0 rfl rfl rfl rfl rfl (fun hg25 => QV.qo (q_not rfl (gu hg25 rfl))) ?_
      refine wa rfl rfl rfl (q_pick rfl rfl (pk_or' (g := (!z9)) (y := (!z23)))) ?_
      refine wa rfl rfl rfl (q_move (v := .bool ((!z9) || (!z23))) rfl (by kernel_rfl)) ?_
      refine wg0 rfl rfl rfl rfl rfl (fun hg26 => QV.qo (q_move (v := .slice Al l.length cl) rfl (by kernel_rfl))) ?_
      refine wg0 rfl rfl rfl rfl rfl (fun hg27 => QV.qo (q_move (v := .int .i64 ((i3 : Nat) : Int)) rfl (by kernel_rfl))) ?_
      refine wg0 rfl rfl rfl rfl rfl (fun hg28 => QV.qo (q_ixn (i := i3) Tryz.underlying55 Tryz.sizeOf59 rfl (gu hg28 rfl) (gu hg28 rfl) hl8 (hl.some_ hl8))) ?_
      refine wg0 rfl rfl rfl rfl rfl (fun hg29 => QV.qo (q_field_addr (i3 * 3 + 1) fld_59_1 rfl (gu hg29 rfl) (hl.some_ hl8) rfl)) ?_
      refine wg0 rfl rfl rfl rfl rfl (fun hg30 => QV.qo (q_ld (c := 1) (v := .int .i64 (gt l i3).f) (hl.spanT_at hl8).2 rfl Tryz.isAgg2 (gu hg30 rfl) rfl)) ?_
      refine wg0 rfl rfl rfl rfl rfl (fun hg31 => QV.qo (q_move (v := .slice Al l.length cl) rfl (by kernel_rfl))) ?_
      refine wg0 rfl rfl rfl rfl rfl (fun hg32 => QV.qo (q_move (v := .int .i64 ((i3 : Nat) : Int)) rfl (by kernel_rfl))) ?_
      refine wg0 rfl rfl rfl rfl rfl (fun hg33 => QV.qo (q_ixn (i := i3) Tryz.underlying55 Tryz.sizeOf59 rfl (gu hg33 rfl) (gu hg33 rfl) hl8 (hl.some_ hl8))) ?_
      refine wg0 rfl rfl rfl rfl rfl (fun hg34 => QV.qo (q_field_addr (i3 * 3 + 2) fld_59_2 rfl (gu hg34 rfl) (hl.some_ hl8) rfl)) ?_
      refine wg0 rfl rfl rfl rfl rfl (fun hg35 => QV.qo (q_ld (c := 2) (v := .int .i64 (gt l i3).t) (hl.spanT_at hl8).2 rfl Tryz.isAgg2 (gu hg35 rfl) rfl)) ?_
      refine wg0 rfl rfl rfl rfl rfl (fun hg36 => QV.qo (q_gtr rfl (gu hg36 rfl) (gu hg36 rfl))) ?_
      refine wa rfl rfl rfl (q_pick rfl rfl (pk_or' (g := ((!z9) || (!z23))) (y := (decide ((gt l i3).t < (gt l i3).f))))) ?_
      refine WQ.nil ?_
      change WC _ _ _ _ _ _
      refine WC.cif h (by kernel_rfl) (fun hb37 h => ?_) (fun hb37 h => ?_)
      · skip
        refine WC.rs ?_
        refine va rfl rfl rfl (q_assign (v := .bool false) rfl (by kernel_rfl)) ?_
        refine WR.nil ?_
        change WC _ _ _ _ _ _
        refine WC.ret ?_
        intro w hw
        obtain rfl := Option.some.inj h
        subst hF
        exact ⟨by kernel_rfl, hw.fr⟩
      · skip
        refine WC.skip ?_
        change WC _ _ _ _ _ _
        refine WC.seq ?_
        refine WC.dr (by kernel_rfl) (by kernel_rfl) (fun w hw => hw.drawn _) ?_
        refine wa rfl rfl rfl (q_move (v := .int .i64 ((i3 : Nat) : Int)) rfl (by kernel_rfl)) ?_
        refine wa rfl rfl rfl (q_gtr rfl rfl rfl) ?_
        refine wa rfl rfl rfl (q_move (v := .bool (decide (0 < ((i3 : Nat) : Int)))) rfl (by kernel_rfl)) ?_
        refine wg1 rfl rfl rfl rfl rfl (fun hg38 => QV.qo (q_move (v := .slice Al l.length cl) rfl (by kernel_rfl))) ?_
        refine wg1 rfl rfl rfl rfl rfl (fun hg39 => QV.qo (q_move (v := .int .i64 ((i3 : Nat) : Int)) rfl (by kernel_rfl))) ?_
        refine wg1 rfl rfl rfl rfl rfl (fun hg40 => QV.qo (q_ixn (i := i3) Tryz.underlying55 Tryz.sizeOf59 rfl (gu hg40 rfl) (gu hg40 rfl) hl8 (hl.some_ hl8))) ?_
        refine wg1 rfl rfl rfl rfl rfl (fun hg41 => QV.qo (q_field_addr (i3 * 3) fld_59_0 rfl (gu hg41 rfl) (hl.some_ hl8) rfl)) ?_
        refine wg1 rfl rfl rfl rfl rfl (fun hg42 => QV.qo (q_ld (c := 0) (v := .int .i64 (gt l i3).s) (hl.spanT_at hl8).2 rfl Tryz.isAgg3 (gu hg42 rfl) rfl)) ?_
        refine wg1 rfl rfl rfl rfl rfl (fun hg43 => QV.qo (q_move (v := .slice Al l.length cl) rfl (by kernel_rfl))) ?_
        refine wg1 rfl rfl rfl rfl rfl (fun hg44 => QV.qo (q_move (v := .int .i64 ((i3 : Nat) : Int)) rfl (by kernel_rfl))) ?_
        refine wg1 rfl rfl rfl rfl rfl (fun hg45 => QV.qo (q_sub rfl (gu hg45 rfl) rfl)) ?_
        obtain ⟨hk47, h⟩ := chk_some h
        refine wg1 rfl rfl rfl rfl rfl (fun hg46 => QV.qo (q_ix Tryz.underlying55 Tryz.sizeOf59 rfl (gu hg46 rfl) (gu hg46 rfl) (imp_of hk47 hg46) (hl.some_ (inb_lt (imp_of hk47 hg46))))) ?_
        refine wg1 rfl rfl rfl rfl rfl (fun hg48 => QV.qo (q_field_addr (((w64 (((i3 : Nat) : Int) - 1)).toNat) * 3) fld_59_0 rfl (gu hg48 rfl) (hl.some_ (inb_lt (imp_of hk47 hg48))) rfl)) ?_
        refine wg1 rfl rfl rfl rfl rfl (fun hg49 => QV.qo (q_ld (c := 0) (v := .int .i64 (gt l ((w64 (((i3 : Nat) : Int) - 1)).toNat)).s) (hl.spanT_at (inb_lt (imp_of hk47 hg49))).2 rfl Tryz.isAgg3 (gu hg49 rfl) rfl)) ?_
        refine wg1 rfl rfl rfl rfl rfl (fun hg50 => QV.qo (q_lss rfl (gu hg50 rfl) (gu hg50 rfl))) ?_
        refine wg1 rfl rfl rfl rfl rfl (fun hg51 => QV.qo (q_move (v := .bool (decide ((gt l i3).s < (gt l ((w64 (((i3 : Nat) : Int) - 1)).toNat)).s))) rfl (gu hg51 rfl))) ?_
        refine wh0 (c0 := (decide (0 < ((i3 : Nat) : Int)))) (g := (decide ((gt l i3).s < (gt l ((w64 (((i3 : Nat) : Int) - 1)).toNat)).s))) rfl rfl rfl rfl rfl (fun hg52 => QV.qo (q_move (v := .slice Al l.length cl) rfl (by kernel_rfl))) ?_
        refine wh0 (c0 := (decide (0 < ((i3 : Nat) : Int)))) (g := (decide ((gt l i3).s < (gt l ((w64 (((i3 : Nat) : Int) - 1)).toNat)).s))) rfl rfl rfl rfl rfl (fun hg53 => QV.qo (q_move (v := .int .i64 ((i3 : Nat) : Int)) rfl (by kernel_rfl))) ?_
        refine wh0 (c0 := (decide (0 < ((i3 : Nat) : Int)))) (g := (decide ((gt l i3).s < (gt l ((w64 (((i3 : Nat) : Int) - 1)).toNat)).s))) rfl rfl rfl rfl rfl (fun hg54 => QV.qo (q_ixn (i := i3) Tryz.underlying55 Tryz.sizeOf59 rfl (gu hg54 rfl) (gu hg54 rfl) hl8 (hl.some_ hl8))) ?_
        refine wh0 (c0 := (decide (0 < ((i3 : Nat) : Int)))) (g := (decide ((gt l i3).s < (gt l ((w64 (((i3 : Nat) : Int) - 1)).toNat)).s))) rfl rfl rfl rfl rfl (fun hg55 => QV.qo (q_field_addr (i3 * 3) fld_59_0 rfl (gu hg55 rfl) (hl.some_ hl8) rfl)) ?_
        refine wh0 (c0 := (decide (0 < ((i3 : Nat) : Int)))) (g := (decide ((gt l i3).s < (gt l ((w64 (((i3 : Nat) : Int) - 1)).toNat)).s))) rfl rfl rfl rfl rfl (fun hg56 => QV.qo (q_ld (c := 0) (v := .int .i64 (gt l i3).s) (hl.spanT_at hl8).2 rfl Tryz.isAgg3 (gu hg56 rfl) rfl)) ?_
        refine wh0 (c0 := (decide (0 < ((i3 : Nat) : Int)))) (g := (decide ((gt l i3).s < (gt l ((w64 (((i3 : Nat) : Int) - 1)).toNat)).s))) rfl rfl rfl rfl rfl (fun hg57 => QV.qo (q_move (v := .slice Al l.length cl) rfl (by kernel_rfl))) ?_
        refine wh0 (c0 := (decide (0 < ((i3 : Nat) : Int)))) (g := (decide ((gt l i3).s < (gt l ((w64 (((i3 : Nat) : Int) - 1)).toNat)).s))) rfl rfl rfl rfl rfl (fun hg58 => QV.qo (q_move (v := .int .i64 ((i3 : Nat) : Int)) rfl (by kernel_rfl))) ?_
        refine wh0 (c0 := (decide (0 < ((i3 : Nat) : Int)))) (g := (decide ((gt l i3).s < (gt l ((w64 (((i3 : Nat) : Int) - 1)).toNat)).s))) rfl rfl rfl rfl rfl (fun hg59 => QV.qo (q_sub rfl (gu hg59 rfl) rfl)) ?_
        refine wh0 (c0 := (decide (0 < ((i3 : Nat) : Int)))) (g := (decide ((gt l i3).s < (gt l ((w64 (((i3 : Nat) : Int) - 1)).toNat)).s))) rfl rfl rfl rfl rfl (fun hg60 => QV.qo (q_ix Tryz.underlying55 Tryz.sizeOf59 rfl (gu hg60 rfl) (gu hg60 rfl) (imp_of hk47 (and_l hg60)) (hl.some_ (inb_lt (imp_of hk47 (and_l hg60)))))) ?_
        refine wh0 (c0 := (decide (0 < ((i3 : Nat) : Int)))) (g := (decide ((gt l i3).s < (gt l ((w64 (((i3 : Nat) : Int) - 1)).toNat)).s))) rfl rfl rfl rfl rfl (fun hg61 => QV.qo (q_field_addr (((w64 (((i3 : Nat) : Int) - 1)).toNat) * 3) fld_59_0 rfl (gu hg61 rfl) (hl.some_ (inb_lt (imp_of hk47 (and_l hg61)))) rfl)) ?_
        refine wh0 (c0 := (decide (0 < ((i3 : Nat) : Int)))) (g := (decide ((gt l i3).s < (gt l ((w64 (((i3 : Nat) : Int) - 1)).toNat)).s))) rfl rfl rfl rfl rfl (fun hg62 => QV.qo (q_ld (c := 0) (v := .int .i64 (gt l ((w64 (((i3 : Nat) : Int) - 1)).toNat)).s) (hl.spanT_at (inb_lt (imp_of hk47 (and_l hg62)))).2 rfl Tryz.isAgg3 (gu hg62 rfl) rfl)) ?_
        refine wh0 (c0 := (decide (0 < ((i3 : Nat) : Int)))) (g := (decide ((gt l i3).s < (gt l ((w64 (((i3 : Nat) : Int) - 1)).toNat)).s))) rfl rfl rfl rfl rfl (fun hg63 => QV.qo (q_eql rfl (gu hg63 rfl) (gu hg63 rfl))) ?_
        refine wh0 (c0 := (decide (0 < ((i3 : Nat) : Int)))) (g := (decide ((gt l i3).s < (gt l ((w64 (((i3 : Nat) : Int) - 1)).toNat)).s))) rfl rfl rfl rfl rfl (fun hg64 => QV.qo (q_move (v := .bool ((gt l i3).s == (gt l ((w64 (((i3 : Nat) : Int) - 1)).toNat)).s)) rfl (gu hg64 rfl))) ?_
        refine wh1 (c0 := ((decide (0 < ((i3 : Nat) : Int))) && (!(decide ((gt l i3).s < (gt l ((w64 (((i3 : Nat) : Int) - 1)).toNat)).s))))) (g := ((gt l i3).s == (gt l ((w64 (((i3 : Nat) : Int) - 1)).toNat)).s)) rfl rfl rfl rfl rfl (fun hg65 => QV.qo (q_move (v := .slice Al l.length cl) rfl (by kernel_rfl))) ?_
        refine wh1 (c0 := ((decide (0 < ((i3 : Nat) : Int))) && (!(decide ((gt l i3).s < (gt l ((w64 (((i3 : Nat) : Int) - 1)).toNat)).s))))) (g := ((gt l i3).s == (gt l ((w64 (((i3 : Nat) : Int) - 1)).toNat)).s)) rfl rfl rfl rfl rfl (fun hg66 => QV.qo (q_move (v := .int .i64 ((i3 : Nat) : Int)) rfl (by kernel_rfl))) ?_
        refine wh1 (c0 := ((decide (0 < ((i3 : Nat) : Int))) && (!(decide ((gt l i3).s < (gt l ((w64 (((i3 : Nat) : Int) - 1)).toNat)).s))))) (g := ((gt l i3).s == (gt l ((w64 (((i3 : Nat) : Int) - 1)).toNat)).s)) rfl rfl rfl rfl rfl (fun hg67 => QV.qo (q_ixn (i := i3) Tryz.underlying55 Tryz.sizeOf59 rfl (gu hg67 rfl) (gu hg67 rfl) hl8 (hl.some_ hl8))) ?_
        refine wh1 (c0 := ((decide (0 < ((i3 : Nat) : Int))) && (!(decide ((gt l i3).s < (gt l ((w64 (((i3 : Nat) : Int) - 1)).toNat)).s))))) (g := ((gt l i3).s == (gt l ((w64 (((i3 : Nat) : Int) - 1)).toNat)).s)) rfl rfl rfl rfl rfl (fun hg68 => QV.qo (q_field_addr (i3 * 3 + 1) fld_59_1 rfl (gu hg68 rfl) (hl.some_ hl8) rfl)) ?_
        refine wh1 (c0 := ((decide (0 < ((i3 : Nat) : Int))) && (!(decide ((gt l i3).s < (gt l ((w64 (((i3 : Nat) : Int) - 1)).toNat)).s))))) (g := ((gt l i3).s == (gt l ((w64 (((i3 : Nat) : Int) - 1)).toNat)).s)) rfl rfl rfl rfl rfl (fun hg69 => QV.qo (q_ld (c := 1) (v := .int .i64 (gt l i3).f) (hl.spanT_at hl8).2 rfl Tryz.isAgg2 (gu hg69 rfl) rfl)) ?_
        refine wh1 (c0 := ((decide (0 < ((i3 : Nat) : Int))) && (!(decide ((gt l i3).s < (gt l ((w64 (((i3 : Nat) : Int) - 1)).toNat)).s))))) (g := ((gt l i3).s == (gt l ((w64 (((i3 : Nat) : Int) - 1)).toNat)).s)) rfl rfl rfl rfl rfl (fun hg70 => QV.qo (q_sub rfl (gu hg70 rfl) rfl)) ?_
        refine wh1 (c0 := ((decide (0 < ((i3 : Nat) : Int))) && (!(decide ((gt l i3).s < (gt l ((w64 (((i3 : Nat) : Int) - 1)).toNat)).s))))) (g := ((gt l i3).s == (gt l ((w64 (((i3 : Nat) : Int) - 1)).toNat)).s)) rfl rfl rfl rfl rfl (fun hg71 => QV.qo (q_move (v := .slice Al l.length cl) rfl (by kernel_rfl))) ?_
        refine wh1 (c0 := ((decide (0 < ((i3 : Nat) : Int))) && (!(decide ((gt l i3).s < (gt l ((w64 (((i3 : Nat) : Int) - 1)).toNat)).s))))) (g := ((gt l i3).s == (gt l ((w64 (((i3 : Nat) : Int) - 1)).toNat)).s)) rfl rfl rfl rfl rfl (fun hg72 => QV.qo (q_move (v := .int .i64 ((i3 : Nat) : Int)) rfl (by kernel_rfl))) ?_
        refine wh1 (c0 := ((decide (0 < ((i3 : Nat) : Int))) && (!(decide ((gt l i3).s < (gt l ((w64 (((i3 : Nat) : Int) - 1)).toNat)).s))))) (g := ((gt l i3).s == (gt l ((w64 (((i3 : Nat) : Int) - 1)).toNat)).s)) rfl rfl rfl rfl rfl (fun hg73 => QV.qo (q_sub rfl (gu hg73 rfl) rfl)) ?_
        refine wh1 (c0 := ((decide (0 < ((i3 : Nat) : Int))) && (!(decide ((gt l i3).s < (gt l ((w64 (((i3 : Nat) : Int) - 1)).toNat)).s))))) (g := ((gt l i3).s == (gt l ((w64 (((i3 : Nat) : Int) - 1)).toNat)).s)) rfl rfl rfl rfl rfl (fun hg74 => QV.qo (q_ix Tryz.underlying55 Tryz.sizeOf59 rfl (gu hg74 rfl) (gu hg74 rfl) (imp_of hk47 (and_l (and_l hg74))) (hl.some_ (inb_lt (imp_of hk47 (and_l (and_l hg74))))))) ?_
        refine wh1 (c0 := ((decide (0 < ((i3 : Nat) : Int))) && (!(decide ((gt l i3).s < (gt l ((w64 (((i3 : Nat) : Int) - 1)).toNat)).s))))) (g := ((gt l i3).s == (gt l ((w64 (((i3 : Nat) : Int) - 1)).toNat)).s)) rfl rfl rfl rfl rfl (fun hg75 => QV.qo (q_field_addr (((w64 (((i3 : Nat) : Int) - 1)).toNat) * 3 + 2) fld_59_2 rfl (gu hg75 rfl) (hl.some_ (inb_lt (imp_of hk47 (and_l (and_l hg75))))) rfl)) ?_
        refine wh1 (c0 := ((decide (0 < ((i3 : Nat) : Int))) && (!(decide ((gt l i3).s < (gt l ((w64 (((i3 : Nat) : Int) - 1)).toNat)).s))))) (g := ((gt l i3).s == (gt l ((w64 (((i3 : Nat) : Int) - 1)).toNat)).s)) rfl rfl rfl rfl rfl (fun hg76 => QV.qo (q_ld (c := 2) (v := .int .i64 (gt l ((w64 (((i3 : Nat) : Int) - 1)).toNat)).t) (hl.spanT_at (inb_lt (imp_of hk47 (and_l (and_l hg76))))).2 rfl Tryz.isAgg2 (gu hg76 rfl) rfl)) ?_
        refine wh1 (c0 := ((decide (0 < ((i3 : Nat) : Int))) && (!(decide ((gt l i3).s < (gt l ((w64 (((i3 : Nat) : Int) - 1)).toNat)).s))))) (g := ((gt l i3).s == (gt l ((w64 (((i3 : Nat) : Int) - 1)).toNat)).s)) rfl rfl rfl rfl rfl (fun hg77 => QV.qo (q_leq rfl (gu hg77 rfl) (gu hg77 rfl))) ?_
        refine wh0 (c0 := (decide (0 < ((i3 : Nat) : Int)))) (g := (decide ((gt l i3).s < (gt l ((w64 (((i3 : Nat) : Int) - 1)).toNat)).s))) rfl rfl rfl rfl rfl (fun hg78 => QV.qo (q_pick rfl (gu hg78 rfl) (pk_and (c := ((decide (0 < ((i3 : Nat) : Int))) && (!(decide ((gt l i3).s < (gt l ((w64 (((i3 : Nat) : Int) - 1)).toNat)).s))))) (g := ((gt l i3).s == (gt l ((w64 (((i3 : Nat) : Int) - 1)).toNat)).s)) (y := (decide ((w64 ((gt l i3).f - 1)) ≤ (gt l ((w64 (((i3 : Nat) : Int) - 1)).toNat)).t))) hg78))) ?_
        refine wg1 rfl rfl rfl rfl rfl (fun hg79 => QV.qo (q_pick rfl (gu hg79 rfl) (pk_or (c := (decide (0 < ((i3 : Nat) : Int)))) (g := (decide ((gt l i3).s < (gt l ((w64 (((i3 : Nat) : Int) - 1)).toNat)).s))) (y := (((gt l i3).s == (gt l ((w64 (((i3 : Nat) : Int) - 1)).toNat)).s) && (decide ((w64 ((gt l i3).f - 1)) ≤ (gt l ((w64 (((i3 : Nat) : Int) - 1)).toNat)).t)))) hg79))) ?_
        refine wa rfl rfl rfl (q_pick rfl rfl (pk_and' (g := (decide (0 < ((i3 : Nat) : Int)))) (y := ((decide ((gt l i3).s < (gt l ((w64 (((i3 : Nat) : Int) - 1)).toNat)).s)) || (((gt l i3).s == (gt l ((w64 (((i3 : Nat) : Int) - 1)).toNat)).s) && (decide ((w64 ((gt l i3).f - 1)) ≤ (gt l ((w64 (((i3 : Nat) : Int) - 1)).toNat)).t))))))) ?_
        refine WQ.nil ?_
        change WC _ _ _ _ _ _
        refine WC.cif h (by kernel_rfl) (fun hb80 h => ?_) (fun hb80 h => ?_)
        · skip
          refine WC.rs ?_
          refine va rfl rfl rfl (q_assign (v := .bool false) rfl (by kernel_rfl)) ?_
          refine WR.nil ?_
          change WC _ _ _ _ _ _
          refine WC.ret ?_
          intro w hw
          obtain rfl := Option.some.inj h
          subst hF
          exact ⟨by kernel_rfl, hw.fr⟩
        · skip
          refine WC.skip ?_
          change WC _ _ _ _ _ _
          refine WC.region ?_
          refine va rfl rfl rfl (q_move (v := .int .i64 ((i3 : Nat) : Int)) rfl (by kernel_rfl)) ?_
          refine va rfl rfl rfl (q_add_r (r := ((i3 + 1 : Nat) : Int)) rfl rfl rfl (ctr_len hl8 hl.le)) ?_
          refine va rfl rfl rfl (q_assign (v := .int .i64 ((i3 + 1 : Nat) : Int)) rfl (by kernel_rfl)) ?_
          refine WR.nil ?_
          intro w hw
          exact ⟨hl8, (), h, (sl_ (by kernel_rfl)), hw, trivial⟩
    · skip
      have h := hge6 (ige hb7)
      refine WC.exit ?_
      change WC _ _ _ _ _ _
      refine WC.rs ?_
      refine va rfl rfl rfl (q_assign (v := .bool true) rfl (by kernel_rfl)) ?_
      refine WR.nil ?_
      change WC _ _ _ _ _ _
      refine WC.ret ?_
      intro w hw
      obtain rfl := Option.some.inj h
      subst hF
      exact ⟨by kernel_rfl, hw.fr⟩
set_option maxRecDepth 100000 in
set_option maxHeartbeats 400000 in
theorem t_firthref03_Top {Γ : Gh} {w0 : World} {Al : Option Addr} {cl : Nat} {l : List Span} (hl : Sl spanT Γ Al l) (hlc : l.length ≤ cl) (s_ : Int) (hs_ : I64 s_) (hs : Sat Γ w0) {r : Int} (h : m_firthref03_Top l s_ = some r) : Calls Tryz.prog 103 #[.slice Al l.length cl, .int .i64 s_] w0 (fun e w' => e = .returned (.int .i64 r) ∧ Fr no w0 w') := by
  refine calls_of (N := 35) (rs := [4]) (args := [.slice Al l.length cl, .int .i64 s_]) Tryz.func103 rfl Tryz.ntmps103 Tryz.results103 rfl ?_
  obtain ⟨F, hF⟩ : ∃ F : Fm, F = ⟨no, w0, Γ⟩ := ⟨_, rfl⟩
  refine WC.here (C := CC F Γ []) ?_ (hF ▸ Cur.start0 hs)
  refine WC.rs ?_
  refine va rfl rfl rfl (q_assign (v := .int .i64 0) rfl (by kernel_rfl)) ?_
  refine WR.nil ?_
  change WC _ _ _ _ _ _
  refine WC.rs ?_
  refine va rfl rfl rfl (q_assign (v := .int .i64 0) rfl (by kernel_rfl)) ?_
  refine WR.nil ?_
  change WC _ _ _ _ _ _
  refine WC.seq ?_
  refine WC.rs ?_
  refine va rfl rfl rfl (q_assign (v := .int .i64 0) rfl (by kernel_rfl)) ?_
  refine WR.nil ?_
  change WC _ _ _ _ _ _
  refine WC.block ?_
  refine WC.forI h (fun (i4 : Nat) (n_1 : Int) σ w => slots σ [(0, .slice Al l.length cl), (1, .int .i64 s_), (5, .int .i64 n_1), (6, .int .i64 ((i4 : Nat) : Int))] ∧ CC F Γ [] w ∧ I64 n_1 ∧ True) ?_ ?_
  · skip
    intro w hw
    exact ⟨(sl_ (by kernel_rfl)), hw, (show I64 0 by decide), trivial⟩
  rintro f3 i4 n_1 σ w hi5 hlt6 hge7 ⟨hsl, hw, hr2, -⟩
  refine Wpt.slots hsl ?_
  refine WC.here (C := CC F Γ []) ?_ hw
  clear hw hsl
  refine WC.seq ?_
  refine WC.rs ?_
  refine va rfl rfl rfl (q_move (v := .int .i64 ((i4 : Nat) : Int)) rfl (by kernel_rfl)) ?_
  refine va rfl rfl rfl (q_move (v := .slice Al l.length cl) rfl (by kernel_rfl)) ?_
  refine va rfl rfl rfl (q_len_slice rfl Tryz.underlying55 rfl) ?_
  refine va rfl rfl rfl (q_lss rfl rfl rfl) ?_
  refine WR.nil ?_
  change WC _ _ _ _ _ _
  refine WC.cond (b := (decide (((i4 : Nat) : Int) < ((l.length : Nat) : Int)))) (by kernel_rfl) (fun hb8 => ?_) (fun hb8 => ?_)
  · skip
    have hl9 := ilt hb8
    have h := hlt6 hl9
    refine WC.skip ?_
    change WC _ _ _ _ _ _
    refine WC.cut (fun σ w => ∃ (n_10 : Int), m_firthref03_Top_j6 f3 n_10 = some r ∧ slots σ [(0, .slice Al l.length cl), (1, .int .i64 s_), (5, .int .i64 n_10), (6, .int .i64 ((i4 : Nat) : Int))] ∧ CC F Γ [] w ∧ I64 n_10 ∧ True) ?_ ?_
    · skip
      refine WC.block ?_
      refine WC.rs ?_
      refine va rfl rfl rfl (q_move (v := .slice Al l.length cl) rfl (by kernel_rfl)) ?_
      refine va rfl rfl rfl (q_move (v := .int .i64 ((i4 : Nat) : Int)) rfl (by kernel_rfl)) ?_
      refine va rfl rfl rfl (q_ixn (i := i4) Tryz.underlying55 Tryz.sizeOf59 rfl rfl rfl hl9 (hl.some_ hl9)) ?_
      refine va rfl rfl rfl (q_field_addr (i4 * 3) fld_59_0 rfl rfl (hl.some_ hl9) rfl) ?_
      refine va rfl rfl rfl (q_ld (c := 0) (v := .int .i64 (gt l i4).s) (hl.spanT_at hl9).2 rfl Tryz.isAgg3 rfl rfl) ?_
      refine va rfl rfl rfl (q_move (v := .int .i64 s_) rfl (by kernel_rfl)) ?_
      refine va rfl rfl rfl (q_eql rfl rfl rfl) ?_
      refine va rfl rfl rfl (q_move (v := .bool ((gt l i4).s == s_)) rfl (by kernel_rfl)) ?_
      refine vg1 rfl rfl rfl rfl rfl (fun hg12 => QV.qo (q_move (v := .slice Al l.length cl) rfl (by kernel_rfl))) ?_
      refine vg1 rfl rfl rfl rfl rfl (fun hg13 => QV.qo (q_move (v := .int .i64 ((i4 : Nat) : Int)) rfl (by kernel_rfl))) ?_
      refine vg1 rfl rfl rfl rfl rfl (fun hg14 => QV.qo (q_ixn (i := i4) Tryz.underlying55 Tryz.sizeOf59 rfl (gu hg14 rfl) (gu hg14 rfl) hl9 (hl.some_ hl9))) ?_
      refine vg1 rfl rfl rfl rfl rfl (fun hg15 => QV.qo (q_field_addr (i4 * 3 + 2) fld_59_2 rfl (gu hg15 rfl) (hl.some_ hl9) rfl)) ?_
      refine vg1 rfl rfl rfl rfl rfl (fun hg16 => QV.qo (q_ld (c := 2) (v := .int .i64 (gt l i4).t) (hl.spanT_at hl9).2 rfl Tryz.isAgg2 (gu hg16 rfl) rfl)) ?_
      refine vg1 rfl rfl rfl rfl rfl (fun hg17 => QV.qo (q_move (v := .int .i64 n_1) rfl (by kernel_rfl))) ?_
      refine vg1 rfl rfl rfl rfl rfl (fun hg18 => QV.qo (q_gtr rfl (gu hg18 rfl) (gu hg18 rfl))) ?_
      refine va rfl rfl rfl (q_pick rfl rfl (pk_and' (g := ((gt l i4).s == s_)) (y := (decide (n_1 < (gt l i4).t))))) ?_
      refine WR.nil ?_
      change WC _ _ _ _ _ _
      refine WC.cif h (by kernel_rfl) (fun hb19 h => ?_) (fun hb19 h => ?_)
      · skip
        refine WC.region ?_
        refine va rfl rfl rfl (q_move (v := .slice Al l.length cl) rfl (by kernel_rfl)) ?_
        refine va rfl rfl rfl (q_move (v := .int .i64 ((i4 : Nat) : Int)) rfl (by kernel_rfl)) ?_
        refine va rfl rfl rfl (q_ixn (i := i4) Tryz.underlying55 Tryz.sizeOf59 rfl rfl rfl hl9 (hl.some_ hl9)) ?_
        refine va rfl rfl rfl (q_field_addr (i4 * 3 + 2) fld_59_2 rfl rfl (hl.some_ hl9) rfl) ?_
        refine va rfl rfl rfl (q_ld (c := 2) (v := .int .i64 (gt l i4).t) (hl.spanT_at hl9).2 rfl Tryz.isAgg2 rfl rfl) ?_
        refine va rfl rfl rfl (q_assign (v := .int .i64 (gt l i4).t) rfl (by kernel_rfl)) ?_
        refine WR.nil ?_
        intro w hw
        exact ⟨(gt l i4).t, h, (sl_ (by kernel_rfl)), hw, (hl.spanT_at hl9).1.2.2, trivial⟩
      · skip
        refine WC.skip ?_
        intro w hw
        exact ⟨n_1, h, (sl_ (by kernel_rfl)), hw, hr2, trivial⟩
    · skip
      rintro σ w ⟨n_10, h, hsl, hw, hr11, -⟩
      refine Wpt.slots hsl ?_
      refine WC.here (C := CC F Γ []) ?_ hw
      clear hw hsl
      refine WC.region ?_
      refine va rfl rfl rfl (q_move (v := .int .i64 ((i4 : Nat) : Int)) rfl (by kernel_rfl)) ?_
      refine va rfl rfl rfl (q_add_r (r := ((i4 + 1 : Nat) : Int)) rfl rfl rfl (ctr_len hl9 hl.le)) ?_
      refine va rfl rfl rfl (q_assign (v := .int .i64 ((i4 + 1 : Nat) : Int)) rfl (by kernel_rfl)) ?_
      refine WR.nil ?_
      intro w hw
      exact ⟨hl9, n_10, h, (sl_ (by kernel_rfl)), hw, hr11, trivial⟩
  · skip
    have h := hge7 (ige hb8)
    refine WC.exit ?_
    change WC _ _ _ _ _ _
    refine WC.rs ?_
    refine va rfl rfl rfl (q_move (v := .int .i64 n_1) rfl (by kernel_rfl)) ?_
    refine va rfl rfl rfl (q_assign (v := .int .i64 n_1) rfl (by kernel_rfl)) ?_
    refine WR.nil ?_
    change WC _ _ _ _ _ _
    refine WC.ret ?_
    intro w hw
    obtain rfl := Option.some.inj h
    subst hF
    exact ⟨by kernel_rfl, hw.fr⟩
set_option maxRecDepth 100000 in
set_option maxHeartbeats 400000 in
theorem t_firthref05_RightOne {Γ : Gh} {w0 : World} {Av_2 : Option Addr} {cv_2 : Nat} (v_ : Ver) (hv_ : Ver.fits Γ Av_2 cv_2 v_) (hs : Sat Γ w0) {r : Bool} (h : m_firthref05_RightOne v_ = some r) : Calls Tryz.prog 83 #[.agg #[.int .i64 v_.dot.s, .int .i64 v_.dot.n, .slice Av_2 v_.past.length cv_2, .bool v_.gone, .string v_.val]] w0 (fun e w' => e = .returned (.bool r) ∧ Fr no w0 w') := by
  refine calls_of (N := 34) (rs := [2]) (args := [.agg #[.int .i64 v_.dot.s, .int .i64 v_.dot.n, .slice Av_2 v_.past.length cv_2, .bool v_.gone, .string v_.val]]) Tryz.func83 rfl Tryz.ntmps83 Tryz.results83 rfl ?_
  obtain ⟨F, hF⟩ : ∃ F : Fm, F = ⟨no, w0, Γ⟩ := ⟨_, rfl⟩
  refine WC.here (C := CC F Γ []) ?_ (hF ▸ Cur.start0 hs)
  refine WC.rs ?_
  refine e_box (v := .agg #[.int .i64 v_.dot.s, .int .i64 v_.dot.n, .slice Av_2 v_.past.length cv_2, .bool v_.gone, .string v_.val]) rfl rfl rfl rfl (by kernel_rfl) ?_
  intro g1
  refine va rfl rfl rfl (q_assign (v := .bool false) rfl (by kernel_rfl)) ?_
  refine WR.nil ?_
  change WC _ _ _ _ _ _
  refine WC.seq ?_
  refine WC.seq ?_
  refine WC.dr (by kernel_rfl) (by kernel_rfl) (fun w hw => hw.drawn _) ?_
  refine wa rfl rfl rfl (q_fl 0 fld_57_0 rfl rfl rfl) ?_
  refine wa rfl rfl rfl (q_ldla (i := 0) (vs := [.int .i64 v_.dot.s, .int .i64 v_.dot.n]) rfl rfl Tryz.isAgg54 Tryz.sizeOf54 rfl rfl) ?_
  obtain ⟨z2, hz3, h⟩ := bnd h
  refine wc rfl rfl rfl (q_call (call_run Tryz.call101 rfl rfl (by kernel_rfl)) (fun w hw => t_firthref03_Dot (Γ := Gh.all w) v_.dot ⟨hv_.1, hv_.2.1⟩ (Sat.all w) hz3)) ?_
  refine wa rfl rfl rfl (q_not rfl rfl) ?_
  refine wa rfl rfl rfl (q_move (v := .bool (!z2)) rfl (by kernel_rfl)) ?_
  refine wg0 rfl rfl rfl rfl rfl (fun hg4 => QV.qo (q_fl 2 fld_57_1 rfl rfl rfl)) ?_
  refine wg0 rfl rfl rfl rfl rfl (fun hg5 => QV.qo (q_ldl (i := 0) (v := .slice Av_2 v_.past.length cv_2) rfl rfl Tryz.isAgg55 (gu hg5 rfl) rfl)) ?_
  obtain ⟨z7, hz8, h⟩ := bnd h
  refine wg0 rfl rfl rfl rfl rfl (fun hg6 => (q_call (call_run Tryz.call102 rfl rfl (args1 (gu hg6 rfl))) (fun w hw => t_firthref03_Right (Γ := Gh.all w) (hv_.2.2.1.2.mono hw.sat.le_all) hv_.2.2.1.1 (Sat.all w) (gc_of hz8 hg6)))) ?_
  refine wg0 rfl rfl rfl rfl rfl (fun hg9 => QV.qo (q_not rfl (gu hg9 rfl))) ?_
  refine wa rfl rfl rfl (q_pick rfl rfl (pk_or' (g := (!z2)) (y := (!z7)))) ?_
  refine wa rfl rfl rfl (q_move (v := .bool ((!z2) || (!z7))) rfl (by kernel_rfl)) ?_
  refine wg0 rfl rfl rfl rfl rfl (fun hg10 => QV.qo (q_fl 2 fld_57_1 rfl rfl rfl)) ?_
  refine wg0 rfl rfl rfl rfl rfl (fun hg11 => QV.qo (q_ldl (i := 0) (v := .slice Av_2 v_.past.length cv_2) rfl rfl Tryz.isAgg55 (gu hg11 rfl) rfl)) ?_
  refine wg0 rfl rfl rfl rfl rfl (fun hg12 => QV.qo (q_fl 0 fld_57_0 rfl rfl rfl)) ?_
  refine wg0 rfl rfl rfl rfl rfl (fun hg13 => QV.qo (q_fl 0 fld_54_0 rfl (gu hg13 rfl) rfl)) ?_
  refine wg0 rfl rfl rfl rfl rfl (fun hg14 => QV.qo (q_ldl (i := 0) (v := .int .i64 v_.dot.s) rfl rfl Tryz.isAgg3 (gu hg14 rfl) rfl)) ?_
  obtain ⟨z16, hz17, h⟩ := bnd h
  refine wg0 rfl rfl rfl rfl rfl (fun hg15 => (q_call (call_run Tryz.call103 rfl rfl (args2 (gu hg15 rfl) (gu hg15 rfl))) (fun w hw => t_firthref03_Top (Γ := Gh.all w) (hv_.2.2.1.2.mono hw.sat.le_all) hv_.2.2.1.1 v_.dot.s hv_.1 (Sat.all w) (gc_of hz17 hg15)))) ?_
  refine wg0 rfl rfl rfl rfl rfl (fun hg18 => QV.qo (q_fl 0 fld_57_0 rfl rfl rfl)) ?_
  refine wg0 rfl rfl rfl rfl rfl (fun hg19 => QV.qo (q_fl 1 fld_54_1 rfl (gu hg19 rfl) rfl)) ?_
  refine wg0 rfl rfl rfl rfl rfl (fun hg20 => QV.qo (q_ldl (i := 0) (v := .int .i64 v_.dot.n) rfl rfl Tryz.isAgg2 (gu hg20 rfl) rfl)) ?_
  refine wg0 rfl rfl rfl rfl rfl (fun hg21 => QV.qo (q_geq rfl (gu hg21 rfl) (gu hg21 rfl))) ?_
  refine wa rfl rfl rfl (q_pick rfl rfl (pk_or' (g := ((!z2) || (!z7))) (y := (decide (v_.dot.n ≤ z16))))) ?_
  refine WQ.nil ?_
  change WC _ _ _ _ _ _
  refine WC.cif h (by kernel_rfl) (fun hb22 h => ?_) (fun hb22 h => ?_)
  · skip
    refine WC.rs ?_
    refine va rfl rfl rfl (q_assign (v := .bool false) rfl (by kernel_rfl)) ?_
    refine WR.nil ?_
    change WC _ _ _ _ _ _
    refine WC.ret ?_
    intro w hw
    obtain rfl := Option.some.inj h
    subst hF
    exact ⟨by kernel_rfl, hw.fr⟩
  · skip
    refine WC.skip ?_
    change WC _ _ _ _ _ _
    refine WC.seq ?_
    refine WC.rs ?_
    refine va rfl rfl rfl (q_fl 3 fld_57_2 rfl rfl rfl) ?_
    refine va rfl rfl rfl (q_ldl (i := 0) (v := .bool v_.gone) rfl rfl Tryz.isAgg4 rfl rfl) ?_
    refine WR.nil ?_
    change WC _ _ _ _ _ _
    refine WC.cif h (by kernel_rfl) (fun hb23 h => ?_) (fun hb23 h => ?_)
    · skip
      refine WC.rs ?_
      refine va rfl rfl rfl (q_fl 4 fld_57_3 rfl rfl rfl) ?_
      refine va rfl rfl rfl (q_ldl (i := 0) (v := .string v_.val) rfl rfl Tryz.isAgg9 rfl rfl) ?_
      refine va rfl rfl rfl (q_seql rfl rfl rfl) ?_
      refine va rfl rfl rfl (q_assign (v := .bool (v_.val == ByteArray.empty)) rfl (by kernel_rfl)) ?_
      refine WR.nil ?_
      change WC _ _ _ _ _ _
      refine WC.ret ?_
      intro w hw
      obtain rfl := Option.some.inj h
      subst hF
      exact ⟨by kernel_rfl, hw.fr⟩
    · skip
      refine WC.skip ?_
      change WC _ _ _ _ _ _
      refine WC.rs ?_
      refine va rfl rfl rfl (q_fl 4 fld_57_3 rfl rfl rfl) ?_
      refine va rfl rfl rfl (q_ldl (i := 0) (v := .string v_.val) rfl rfl Tryz.isAgg9 rfl rfl) ?_
      refine va rfl rfl rfl (q_len_str rfl Tryz.underlying9 rfl) ?_
      refine va rfl rfl rfl (q_leq rfl rfl rfl) ?_
      refine va rfl rfl rfl (q_assign (v := .bool (decide (((v_.val.size : Nat) : Int) ≤ 256))) rfl (by kernel_rfl)) ?_
      refine WR.nil ?_
      change WC _ _ _ _ _ _
      refine WC.ret ?_
      intro w hw
      obtain rfl := Option.some.inj h
      subst hF
      exact ⟨by kernel_rfl, hw.fr⟩
set_option maxRecDepth 100000 in
set_option maxHeartbeats 400000 in
theorem t_firthref03_Has {Γ : Gh} {w0 : World} {Al : Option Addr} {cl : Nat} {l : List Span} (hl : Sl spanT Γ Al l) (hlc : l.length ≤ cl) (d : Dot) (hd : Dot.fits Γ  d) (hs : Sat Γ w0) {r : Bool} (h : m_firthref03_Has l d = some r) : Calls Tryz.prog 82 #[.slice Al l.length cl, .agg #[.int .i64 d.s, .int .i64 d.n]] w0 (fun e w' => e = .returned (.bool r) ∧ Fr no w0 w') := by
  refine calls_of (N := 40) (rs := [4]) (args := [.slice Al l.length cl, .agg #[.int .i64 d.s, .int .i64 d.n]]) Tryz.func82 rfl Tryz.ntmps82 Tryz.results82 rfl ?_
  obtain ⟨F, hF⟩ : ∃ F : Fm, F = ⟨no, w0, Γ⟩ := ⟨_, rfl⟩
  refine WC.here (C := CC F Γ []) ?_ (hF ▸ Cur.start0 hs)
  refine WC.rs ?_
  refine e_box (v := .agg #[.int .i64 d.s, .int .i64 d.n]) rfl rfl rfl rfl (by kernel_rfl) ?_
  intro g1
  refine va rfl rfl rfl (q_assign (v := .bool false) rfl (by kernel_rfl)) ?_
  refine WR.nil ?_
  change WC _ _ _ _ _ _
  refine WC.seq ?_
  refine WC.rs ?_
  refine va rfl rfl rfl (q_assign (v := .int .i64 0) rfl (by kernel_rfl)) ?_
  refine WR.nil ?_
  change WC _ _ _ _ _ _
  refine WC.block ?_
  refine WC.forI h (fun (i3 : Nat) (s : Unit) σ w => match s with | () => slots σ [(0, .slice Al l.length cl), (3, .pointer (some ⟨g1, 0, none⟩)), (5, .int .i64 ((i3 : Nat) : Int))] ∧ CC F Γ [[(g1, .cells #[.int .i64 d.s, .int .i64 d.n] 54 (0, 0))]] w ∧ True) ?_ ?_
  · skip
    intro w hw
    exact ⟨(sl_ (by kernel_rfl)), hw, trivial⟩
  rintro f2 i3 ⟨⟩ σ w hi4 hlt5 hge6 ⟨hsl, hw, -⟩
  refine Wpt.slots hsl ?_
  refine WC.here (C := CC F Γ [[(g1, .cells #[.int .i64 d.s, .int .i64 d.n] 54 (0, 0))]]) ?_ hw
  clear hw hsl
  refine WC.seq ?_
  refine WC.rs ?_
  refine va rfl rfl rfl (q_move (v := .int .i64 ((i3 : Nat) : Int)) rfl (by kernel_rfl)) ?_
  refine va rfl rfl rfl (q_move (v := .slice Al l.length cl) rfl (by kernel_rfl)) ?_
  refine va rfl rfl rfl (q_len_slice rfl Tryz.underlying55 rfl) ?_
  refine va rfl rfl rfl (q_lss rfl rfl rfl) ?_
  refine WR.nil ?_
  change WC _ _ _ _ _ _
  refine WC.cond (b := (decide (((i3 : Nat) : Int) < ((l.length : Nat) : Int)))) (by kernel_rfl) (fun hb7 => ?_) (fun hb7 => ?_)
  · skip
    have hl8 := ilt hb7
    have h := hlt5 hl8
    refine WC.skip ?_
    change WC _ _ _ _ _ _
    refine WC.seq ?_
    refine WC.block ?_
    refine WC.seq ?_
    refine WC.dr (by kernel_rfl) (by kernel_rfl) (fun w hw => hw.drawn _) ?_
    refine wa rfl rfl rfl (q_move (v := .slice Al l.length cl) rfl (by kernel_rfl)) ?_
    refine wa rfl rfl rfl (q_move (v := .int .i64 ((i3 : Nat) : Int)) rfl (by kernel_rfl)) ?_
    refine wa rfl rfl rfl (q_ixn (i := i3) Tryz.underlying55 Tryz.sizeOf59 rfl rfl rfl hl8 (hl.some_ hl8)) ?_
    refine wa rfl rfl rfl (q_field_addr (i3 * 3) fld_59_0 rfl rfl (hl.some_ hl8) rfl) ?_
    refine wa rfl rfl rfl (q_ld (c := 0) (v := .int .i64 (gt l i3).s) (hl.spanT_at hl8).2 rfl Tryz.isAgg3 rfl rfl) ?_
    refine wa rfl rfl rfl (q_fl 0 fld_54_0 rfl rfl rfl) ?_
    refine wa rfl rfl rfl (q_ldl (i := 0) (v := .int .i64 d.s) rfl rfl Tryz.isAgg3 rfl rfl) ?_
    refine wa rfl rfl rfl (q_eql rfl rfl rfl) ?_
    refine wa rfl rfl rfl (q_move (v := .bool ((gt l i3).s == d.s)) rfl (by kernel_rfl)) ?_
    refine wg1 rfl rfl rfl rfl rfl (fun hg9 => QV.qo (q_fl 1 fld_54_1 rfl rfl rfl)) ?_
    refine wg1 rfl rfl rfl rfl rfl (fun hg10 => QV.qo (q_ldl (i := 0) (v := .int .i64 d.n) rfl rfl Tryz.isAgg2 (gu hg10 rfl) rfl)) ?_
    refine wg1 rfl rfl rfl rfl rfl (fun hg11 => QV.qo (q_move (v := .slice Al l.length cl) rfl (by kernel_rfl))) ?_
    refine wg1 rfl rfl rfl rfl rfl (fun hg12 => QV.qo (q_move (v := .int .i64 ((i3 : Nat) : Int)) rfl (by kernel_rfl))) ?_
    refine wg1 rfl rfl rfl rfl rfl (fun hg13 => QV.qo (q_ixn (i := i3) Tryz.underlying55 Tryz.sizeOf59 rfl (gu hg13 rfl) (gu hg13 rfl) hl8 (hl.some_ hl8))) ?_
    refine wg1 rfl rfl rfl rfl rfl (fun hg14 => QV.qo (q_field_addr (i3 * 3 + 1) fld_59_1 rfl (gu hg14 rfl) (hl.some_ hl8) rfl)) ?_
    refine wg1 rfl rfl rfl rfl rfl (fun hg15 => QV.qo (q_ld (c := 1) (v := .int .i64 (gt l i3).f) (hl.spanT_at hl8).2 rfl Tryz.isAgg2 (gu hg15 rfl) rfl)) ?_
    refine wg1 rfl rfl rfl rfl rfl (fun hg16 => QV.qo (q_geq rfl (gu hg16 rfl) (gu hg16 rfl))) ?_
    refine wa rfl rfl rfl (q_pick rfl rfl (pk_and' (g := ((gt l i3).s == d.s)) (y := (decide ((gt l i3).f ≤ d.n))))) ?_
    refine wa rfl rfl rfl (q_move (v := .bool (((gt l i3).s == d.s) && (decide ((gt l i3).f ≤ d.n)))) rfl (by kernel_rfl)) ?_
    refine wg1 rfl rfl rfl rfl rfl (fun hg17 => QV.qo (q_fl 1 fld_54_1 rfl rfl rfl)) ?_
    refine wg1 rfl rfl rfl rfl rfl (fun hg18 => QV.qo (q_ldl (i := 0) (v := .int .i64 d.n) rfl rfl Tryz.isAgg2 (gu hg18 rfl) rfl)) ?_
    refine wg1 rfl rfl rfl rfl rfl (fun hg19 => QV.qo (q_move (v := .slice Al l.length cl) rfl (by kernel_rfl))) ?_
    refine wg1 rfl rfl rfl rfl rfl (fun hg20 => QV.qo (q_move (v := .int .i64 ((i3 : Nat) : Int)) rfl (by kernel_rfl))) ?_
    refine wg1 rfl rfl rfl rfl rfl (fun hg21 => QV.qo (q_ixn (i := i3) Tryz.underlying55 Tryz.sizeOf59 rfl (gu hg21 rfl) (gu hg21 rfl) hl8 (hl.some_ hl8))) ?_
    refine wg1 rfl rfl rfl rfl rfl (fun hg22 => QV.qo (q_field_addr (i3 * 3 + 2) fld_59_2 rfl (gu hg22 rfl) (hl.some_ hl8) rfl)) ?_
    refine wg1 rfl rfl rfl rfl rfl (fun hg23 => QV.qo (q_ld (c := 2) (v := .int .i64 (gt l i3).t) (hl.spanT_at hl8).2 rfl Tryz.isAgg2 (gu hg23 rfl) rfl)) ?_
    refine wg1 rfl rfl rfl rfl rfl (fun hg24 => QV.qo (q_leq rfl (gu hg24 rfl) (gu hg24 rfl))) ?_
    refine wa rfl rfl rfl (q_pick rfl rfl (pk_and' (g := (((gt l i3).s == d.s) && (decide ((gt l i3).f ≤ d.n)))) (y := (decide (d.n ≤ (gt l i3).t))))) ?_
    refine WQ.nil ?_
    change WC _ _ _ _ _ _
    refine WC.cif h (by kernel_rfl) (fun hb25 h => ?_) (fun hb25 h => ?_)
    · skip
      refine WC.rs ?_
      refine va rfl rfl rfl (q_assign (v := .bool true) rfl (by kernel_rfl)) ?_
      refine WR.nil ?_
      change WC _ _ _ _ _ _
      refine WC.ret ?_
      intro w hw
      obtain rfl := Option.some.inj h
      subst hF
      exact ⟨by kernel_rfl, hw.fr⟩
    · skip
      refine WC.skip ?_
      change WC _ _ _ _ _ _
      refine WC.region ?_
      refine va rfl rfl rfl (q_move (v := .int .i64 ((i3 : Nat) : Int)) rfl (by kernel_rfl)) ?_
      refine va rfl rfl rfl (q_add_r (r := ((i3 + 1 : Nat) : Int)) rfl rfl rfl (ctr_len hl8 hl.le)) ?_
      refine va rfl rfl rfl (q_assign (v := .int .i64 ((i3 + 1 : Nat) : Int)) rfl (by kernel_rfl)) ?_
      refine WR.nil ?_
      intro w hw
      exact ⟨hl8, (), h, (sl_ (by kernel_rfl)), hw, trivial⟩
  · skip
    have h := hge6 (ige hb7)
    refine WC.exit ?_
    change WC _ _ _ _ _ _
    refine WC.rs ?_
    refine va rfl rfl rfl (q_assign (v := .bool false) rfl (by kernel_rfl)) ?_
    refine WR.nil ?_
    change WC _ _ _ _ _ _
    refine WC.ret ?_
    intro w hw
    obtain rfl := Option.some.inj h
    subst hF
    exact ⟨by kernel_rfl, hw.fr⟩
set_option maxRecDepth 100000 in
set_option maxHeartbeats 400000 in
theorem t_firthref05_Behind {Γ : Gh} {w0 : World} {Al : Option Addr} {cl : Nat} {l : List Ver} (hl : Sl verT Γ Al l) (hlc : l.length ≤ cl) (d : Dot) (hd : Dot.fits Γ  d) (hs : Sat Γ w0) {r : Bool} (h : m_firthref05_Behind l d = some r) : Calls Tryz.prog 56 #[.slice Al l.length cl, .agg #[.int .i64 d.s, .int .i64 d.n]] w0 (fun e w' => e = .returned (.bool r) ∧ Fr no w0 w') := by
  refine calls_of (N := 19) (rs := [4]) (args := [.slice Al l.length cl, .agg #[.int .i64 d.s, .int .i64 d.n]]) Tryz.func56 rfl Tryz.ntmps56 Tryz.results56 rfl ?_
  obtain ⟨F, hF⟩ : ∃ F : Fm, F = ⟨no, w0, Γ⟩ := ⟨_, rfl⟩
  refine WC.here (C := CC F Γ []) ?_ (hF ▸ Cur.start0 hs)
  refine WC.rs ?_
  refine e_box (v := .agg #[.int .i64 d.s, .int .i64 d.n]) rfl rfl rfl rfl (by kernel_rfl) ?_
  intro g1
  refine va rfl rfl rfl (q_assign (v := .bool false) rfl (by kernel_rfl)) ?_
  refine WR.nil ?_
  change WC _ _ _ _ _ _
  refine WC.seq ?_
  refine WC.rs ?_
  refine va rfl rfl rfl (q_assign (v := .int .i64 0) rfl (by kernel_rfl)) ?_
  refine WR.nil ?_
  change WC _ _ _ _ _ _
  refine WC.block ?_
  refine WC.forI h (fun (i3 : Nat) (s : Unit) σ w => match s with | () => slots σ [(0, .slice Al l.length cl), (3, .pointer (some ⟨g1, 0, none⟩)), (5, .int .i64 ((i3 : Nat) : Int))] ∧ CC F Γ [[(g1, .cells #[.int .i64 d.s, .int .i64 d.n] 54 (0, 0))]] w ∧ True) ?_ ?_
  · skip
    intro w hw
    exact ⟨(sl_ (by kernel_rfl)), hw, trivial⟩
  rintro f2 i3 ⟨⟩ σ w hi4 hlt5 hge6 ⟨hsl, hw, -⟩
  refine Wpt.slots hsl ?_
  refine WC.here (C := CC F Γ [[(g1, .cells #[.int .i64 d.s, .int .i64 d.n] 54 (0, 0))]]) ?_ hw
  clear hw hsl
  refine WC.seq ?_
  refine WC.rs ?_
  refine va rfl rfl rfl (q_move (v := .int .i64 ((i3 : Nat) : Int)) rfl (by kernel_rfl)) ?_
  refine va rfl rfl rfl (q_move (v := .slice Al l.length cl) rfl (by kernel_rfl)) ?_
  refine va rfl rfl rfl (q_len_slice rfl Tryz.underlying48 rfl) ?_
  refine va rfl rfl rfl (q_lss rfl rfl rfl) ?_
  refine WR.nil ?_
  change WC _ _ _ _ _ _
  refine WC.cond (b := (decide (((i3 : Nat) : Int) < ((l.length : Nat) : Int)))) (by kernel_rfl) (fun hb7 => ?_) (fun hb7 => ?_)
  · skip
    have hl8 := ilt hb7
    have h := hlt5 hl8
    refine WC.skip ?_
    change WC _ _ _ _ _ _
    refine WC.seq ?_
    refine WC.block ?_
    refine WC.seq ?_
    refine WC.dr (by kernel_rfl) (by kernel_rfl) (fun w hw => hw.drawn _) ?_
    refine wa rfl rfl rfl (q_move (v := .slice Al l.length cl) rfl (by kernel_rfl)) ?_
    refine wa rfl rfl rfl (q_move (v := .int .i64 ((i3 : Nat) : Int)) rfl (by kernel_rfl)) ?_
    refine wa rfl rfl rfl (q_ixn (i := i3) Tryz.underlying48 Tryz.sizeOf57 rfl rfl rfl hl8 (hl.some_ hl8)) ?_
    refine wa rfl rfl rfl (q_field_addr (i3 * 5 + 2) fld_57_1 rfl rfl (hl.some_ hl8) rfl) ?_
    obtain ⟨A9, c10, hx11⟩ := hl.verT_at i3
    refine wa rfl rfl rfl (q_ld (c := 2) (v := .slice A9 ((gt l i3).past).length c10) (hx11 hl8).2 rfl Tryz.isAgg55 rfl rfl) ?_
    refine wa rfl rfl rfl (q_ldla (i := 0) (vs := [.int .i64 d.s, .int .i64 d.n]) rfl rfl Tryz.isAgg54 Tryz.sizeOf54 rfl rfl) ?_
    obtain ⟨z12, hz13, h⟩ := bnd h
    refine wc rfl rfl rfl (q_call (call_run Tryz.call82 rfl rfl (by kernel_rfl)) (fun w hw => t_firthref03_Has (Γ := Gh.all w) ((hx11 hl8).1.2.2.1.2.mono hw.sat.le_all) (hx11 hl8).1.2.2.1.1 d hd (Sat.all w) hz13)) ?_
    refine WQ.nil ?_
    change WC _ _ _ _ _ _
    refine WC.cif h (by kernel_rfl) (fun hb14 h => ?_) (fun hb14 h => ?_)
    · skip
      refine WC.rs ?_
      refine va rfl rfl rfl (q_assign (v := .bool true) rfl (by kernel_rfl)) ?_
      refine WR.nil ?_
      change WC _ _ _ _ _ _
      refine WC.ret ?_
      intro w hw
      obtain rfl := Option.some.inj h
      subst hF
      exact ⟨by kernel_rfl, hw.fr⟩
    · skip
      refine WC.skip ?_
      change WC _ _ _ _ _ _
      refine WC.region ?_
      refine va rfl rfl rfl (q_move (v := .int .i64 ((i3 : Nat) : Int)) rfl (by kernel_rfl)) ?_
      refine va rfl rfl rfl (q_add_r (r := ((i3 + 1 : Nat) : Int)) rfl rfl rfl (ctr_len hl8 hl.le)) ?_
      refine va rfl rfl rfl (q_assign (v := .int .i64 ((i3 + 1 : Nat) : Int)) rfl (by kernel_rfl)) ?_
      refine WR.nil ?_
      intro w hw
      exact ⟨hl8, (), h, (sl_ (by kernel_rfl)), hw, trivial⟩
  · skip
    have h := hge6 (ige hb7)
    refine WC.exit ?_
    change WC _ _ _ _ _ _
    refine WC.rs ?_
    refine va rfl rfl rfl (q_assign (v := .bool false) rfl (by kernel_rfl)) ?_
    refine WR.nil ?_
    change WC _ _ _ _ _ _
    refine WC.ret ?_
    intro w hw
    obtain rfl := Option.some.inj h
    subst hF
    exact ⟨by kernel_rfl, hw.fr⟩
set_option maxRecDepth 100000 in
set_option maxHeartbeats 400000 in
theorem t_firthref05_Less {Γ : Gh} {w0 : World} (a : Dot) (ha : Dot.fits Γ  a) (b : Dot) (hb : Dot.fits Γ  b) (hs : Sat Γ w0) {r : Bool} (h : m_firthref05_Less a b = some r) : Calls Tryz.prog 84 #[.agg #[.int .i64 a.s, .int .i64 a.n], .agg #[.int .i64 b.s, .int .i64 b.n]] w0 (fun e w' => e = .returned (.bool r) ∧ Fr no w0 w') := by
  refine calls_of (N := 20) (rs := [4]) (args := [.agg #[.int .i64 a.s, .int .i64 a.n], .agg #[.int .i64 b.s, .int .i64 b.n]]) Tryz.func84 rfl Tryz.ntmps84 Tryz.results84 rfl ?_
  obtain ⟨F, hF⟩ : ∃ F : Fm, F = ⟨no, w0, Γ⟩ := ⟨_, rfl⟩
  refine WC.here (C := CC F Γ []) ?_ (hF ▸ Cur.start0 hs)
  refine WC.rs ?_
  refine e_box (v := .agg #[.int .i64 a.s, .int .i64 a.n]) rfl rfl rfl rfl (by kernel_rfl) ?_
  intro g1
  refine e_box (v := .agg #[.int .i64 b.s, .int .i64 b.n]) rfl rfl rfl rfl (by kernel_rfl) ?_
  intro g2
  refine va rfl rfl rfl (q_assign (v := .bool false) rfl (by kernel_rfl)) ?_
  refine WR.nil ?_
  change WC _ _ _ _ _ _
  refine WC.seq ?_
  refine WC.rs ?_
  refine va rfl rfl rfl (q_fl 0 fld_54_0 rfl rfl rfl) ?_
  refine va rfl rfl rfl (q_ldl (i := 1) (v := .int .i64 a.s) rfl rfl Tryz.isAgg3 rfl rfl) ?_
  refine va rfl rfl rfl (q_fl 0 fld_54_0 rfl rfl rfl) ?_
  refine va rfl rfl rfl (q_ldl (i := 0) (v := .int .i64 b.s) rfl rfl Tryz.isAgg3 rfl rfl) ?_
  refine va rfl rfl rfl (q_neq rfl rfl rfl) ?_
  refine WR.nil ?_
  change WC _ _ _ _ _ _
  refine WC.cif h (by kernel_rfl) (fun hb3 h => ?_) (fun hb3 h => ?_)
  · skip
    refine WC.rs ?_
    refine va rfl rfl rfl (q_fl 0 fld_54_0 rfl rfl rfl) ?_
    refine va rfl rfl rfl (q_ldl (i := 1) (v := .int .i64 a.s) rfl rfl Tryz.isAgg3 rfl rfl) ?_
    refine va rfl rfl rfl (q_fl 0 fld_54_0 rfl rfl rfl) ?_
    refine va rfl rfl rfl (q_ldl (i := 0) (v := .int .i64 b.s) rfl rfl Tryz.isAgg3 rfl rfl) ?_
    refine va rfl rfl rfl (q_lss rfl rfl rfl) ?_
    refine va rfl rfl rfl (q_assign (v := .bool (decide (a.s < b.s))) rfl (by kernel_rfl)) ?_
    refine WR.nil ?_
    change WC _ _ _ _ _ _
    refine WC.ret ?_
    intro w hw
    obtain rfl := Option.some.inj h
    subst hF
    exact ⟨by kernel_rfl, hw.fr⟩
  · skip
    refine WC.skip ?_
    change WC _ _ _ _ _ _
    refine WC.rs ?_
    refine va rfl rfl rfl (q_fl 1 fld_54_1 rfl rfl rfl) ?_
    refine va rfl rfl rfl (q_ldl (i := 1) (v := .int .i64 a.n) rfl rfl Tryz.isAgg2 rfl rfl) ?_
    refine va rfl rfl rfl (q_fl 1 fld_54_1 rfl rfl rfl) ?_
    refine va rfl rfl rfl (q_ldl (i := 0) (v := .int .i64 b.n) rfl rfl Tryz.isAgg2 rfl rfl) ?_
    refine va rfl rfl rfl (q_lss rfl rfl rfl) ?_
    refine va rfl rfl rfl (q_assign (v := .bool (decide (a.n < b.n))) rfl (by kernel_rfl)) ?_
    refine WR.nil ?_
    change WC _ _ _ _ _ _
    refine WC.ret ?_
    intro w hw
    obtain rfl := Option.some.inj h
    subst hF
    exact ⟨by kernel_rfl, hw.fr⟩
set_option maxRecDepth 100000 in
set_option maxHeartbeats 400000 in
theorem t_firthref05_Right {Γ : Gh} {w0 : World} {Al : Option Addr} {cl : Nat} {l : List Ver} (hl : Sl verT Γ Al l) (hlc : l.length ≤ cl) (hs : Sat Γ w0) {r : Bool} (h : m_firthref05_Right l = some r) : Calls Tryz.prog 59 #[.slice Al l.length cl] w0 (fun e w' => e = .returned (.bool r) ∧ Fr no w0 w') := by
  refine calls_of (N := 45) (rs := [2]) (args := [.slice Al l.length cl]) Tryz.func59 rfl Tryz.ntmps59 Tryz.results59 rfl ?_
  obtain ⟨F, hF⟩ : ∃ F : Fm, F = ⟨no, w0, Γ⟩ := ⟨_, rfl⟩
  refine WC.here (C := CC F Γ []) ?_ (hF ▸ Cur.start0 hs)
  refine WC.rs ?_
  refine va rfl rfl rfl (q_assign (v := .bool false) rfl (by kernel_rfl)) ?_
  refine WR.nil ?_
  change WC _ _ _ _ _ _
  refine WC.seq ?_
  refine WC.rs ?_
  refine va rfl rfl rfl (q_move (v := .slice Al l.length cl) rfl (by kernel_rfl)) ?_
  refine va rfl rfl rfl (q_len_slice rfl Tryz.underlying48 rfl) ?_
  refine va rfl rfl rfl (q_gtr rfl rfl rfl) ?_
  refine WR.nil ?_
  change WC _ _ _ _ _ _
  refine WC.cif h (by kernel_rfl) (fun hb1 h => ?_) (fun hb1 h => ?_)
  · skip
    refine WC.rs ?_
    refine va rfl rfl rfl (q_assign (v := .bool false) rfl (by kernel_rfl)) ?_
    refine WR.nil ?_
    change WC _ _ _ _ _ _
    refine WC.ret ?_
    intro w hw
    obtain rfl := Option.some.inj h
    subst hF
    exact ⟨by kernel_rfl, hw.fr⟩
  · skip
    refine WC.skip ?_
    change WC _ _ _ _ _ _
    refine WC.seq ?_
    refine WC.rs ?_
    refine va rfl rfl rfl (q_assign (v := .int .i64 0) rfl (by kernel_rfl)) ?_
    refine WR.nil ?_
    change WC _ _ _ _ _ _
    refine WC.block ?_
    refine WC.forI h (fun (i3 : Nat) (s : Unit) σ w => match s with | () => slots σ [(0, .slice Al l.length cl), (3, .int .i64 ((i3 : Nat) : Int))] ∧ CC F Γ [] w ∧ True) ?_ ?_
    · skip
      intro w hw
      exact ⟨(sl_ (by kernel_rfl)), hw, trivial⟩
    rintro f2 i3 ⟨⟩ σ w hi4 hlt5 hge6 ⟨hsl, hw, -⟩
    refine Wpt.slots hsl ?_
    refine WC.here (C := CC F Γ []) ?_ hw
    clear hw hsl
    refine WC.seq ?_
    refine WC.rs ?_
    refine va rfl rfl rfl (q_move (v := .int .i64 ((i3 : Nat) : Int)) rfl (by kernel_rfl)) ?_
    refine va rfl rfl rfl (q_move (v := .slice Al l.length cl) rfl (by kernel_rfl)) ?_
    refine va rfl rfl rfl (q_len_slice rfl Tryz.underlying48 rfl) ?_
    refine va rfl rfl rfl (q_lss rfl rfl rfl) ?_
    refine WR.nil ?_
    change WC _ _ _ _ _ _
    refine WC.cond (b := (decide (((i3 : Nat) : Int) < ((l.length : Nat) : Int)))) (by kernel_rfl) (fun hb7 => ?_) (fun hb7 => ?_)
    · skip
      have hl8 := ilt hb7
      have h := hlt5 hl8
      refine WC.skip ?_
      change WC _ _ _ _ _ _
      refine WC.seq ?_
      refine WC.block ?_
      refine WC.seq ?_
      refine WC.rs ?_
      refine va rfl rfl rfl (q_move (v := .slice Al l.length cl) rfl (by kernel_rfl)) ?_
      refine va rfl rfl rfl (q_move (v := .int .i64 ((i3 : Nat) : Int)) rfl (by kernel_rfl)) ?_
      refine va rfl rfl rfl (q_ixn (i := i3) Tryz.underlying48 Tryz.sizeOf57 rfl rfl rfl hl8 (hl.some_ hl8)) ?_
      obtain ⟨A9, c10, hx11⟩ := hl.verT_at i3
      refine va rfl rfl rfl (q_lda (c := 0) (vs := [.int .i64 (gt l i3).dot.s, .int .i64 (gt l i3).dot.n, .slice A9 ((gt l i3).past).length c10, .bool (gt l i3).gone, .string (gt l i3).val]) (hx11 hl8).2 rfl Tryz.isAgg57 Tryz.sizeOf57 rfl rfl rfl) ?_
      obtain ⟨z12, hz13, h⟩ := bnd h
      refine vc rfl rfl rfl (q_call (call_run Tryz.call83 rfl rfl (by kernel_rfl)) (fun w hw => t_firthref05_RightOne (Γ := Gh.all w) (gt l i3) (Ver.fits_mono (hx11 hl8).1 hw.sat.le_all) (Sat.all w) hz13)) ?_
      refine va rfl rfl rfl (q_not rfl rfl) ?_
      refine va rfl rfl rfl (q_move (v := .bool (!z12)) rfl (by kernel_rfl)) ?_
      refine vg0 rfl rfl rfl rfl rfl (fun hg14 => QV.qo (q_move (v := .slice Al l.length cl) rfl (by kernel_rfl))) ?_
      refine vg0 rfl rfl rfl rfl rfl (fun hg15 => QV.qo (q_move (v := .slice Al l.length cl) rfl (by kernel_rfl))) ?_
      refine vg0 rfl rfl rfl rfl rfl (fun hg16 => QV.qo (q_move (v := .int .i64 ((i3 : Nat) : Int)) rfl (by kernel_rfl))) ?_
      refine vg0 rfl rfl rfl rfl rfl (fun hg17 => QV.qo (q_ixn (i := i3) Tryz.underlying48 Tryz.sizeOf57 rfl (gu hg17 rfl) (gu hg17 rfl) hl8 (hl.some_ hl8))) ?_
      refine vg0 rfl rfl rfl rfl rfl (fun hg18 => QV.qo (q_field_addr (i3 * 5) fld_57_0 rfl (gu hg18 rfl) (hl.some_ hl8) rfl)) ?_
      refine vg0 rfl rfl rfl rfl rfl (fun hg19 => QV.qo (q_lda (c := 0) (vs := [.int .i64 (gt l i3).dot.s, .int .i64 (gt l i3).dot.n]) (hx11 hl8).2 rfl Tryz.isAgg54 Tryz.sizeOf54 (gu hg19 rfl) rfl rfl)) ?_
      obtain ⟨z21, hz22, h⟩ := bnd h
      refine vg0 rfl rfl rfl rfl rfl (fun hg20 => (q_call (call_run Tryz.call56 rfl rfl (args2 (gu hg20 rfl) (gu hg20 rfl))) (fun w hw => t_firthref05_Behind (Γ := Gh.all w) (hl.mono hw.sat.le_all) hlc ((gt l i3).dot) ⟨(hx11 hl8).1.1, (hx11 hl8).1.2.1⟩ (Sat.all w) (gc_of hz22 hg20)))) ?_
      refine va rfl rfl rfl (q_pick rfl rfl (pk_or' (g := (!z12)) (y := z21))) ?_
      refine WR.nil ?_
      change WC _ _ _ _ _ _
      refine WC.cif h (by kernel_rfl) (fun hb23 h => ?_) (fun hb23 h => ?_)
      · skip
        refine WC.rs ?_
        refine va rfl rfl rfl (q_assign (v := .bool false) rfl (by kernel_rfl)) ?_
        refine WR.nil ?_
        change WC _ _ _ _ _ _
        refine WC.ret ?_
        intro w hw
        obtain rfl := Option.some.inj h
        subst hF
        exact ⟨by kernel_rfl, hw.fr⟩
      · skip
        refine WC.skip ?_
        change WC _ _ _ _ _ _
        refine WC.seq ?_
        refine WC.dr (by kernel_rfl) (by kernel_rfl) (fun w hw => hw.drawn _) ?_
        refine wa rfl rfl rfl (q_move (v := .int .i64 ((i3 : Nat) : Int)) rfl (by kernel_rfl)) ?_
        refine wa rfl rfl rfl (q_gtr rfl rfl rfl) ?_
        refine wa rfl rfl rfl (q_move (v := .bool (decide (0 < ((i3 : Nat) : Int)))) rfl (by kernel_rfl)) ?_
        refine wg1 rfl rfl rfl rfl rfl (fun hg24 => QV.qo (q_move (v := .slice Al l.length cl) rfl (by kernel_rfl))) ?_
        refine wg1 rfl rfl rfl rfl rfl (fun hg25 => QV.qo (q_move (v := .int .i64 ((i3 : Nat) : Int)) rfl (by kernel_rfl))) ?_
        refine wg1 rfl rfl rfl rfl rfl (fun hg26 => QV.qo (q_sub rfl (gu hg26 rfl) rfl)) ?_
        obtain ⟨hk28, h⟩ := chk_some h
        refine wg1 rfl rfl rfl rfl rfl (fun hg27 => QV.qo (q_ix Tryz.underlying48 Tryz.sizeOf57 rfl (gu hg27 rfl) (gu hg27 rfl) (imp_of hk28 hg27) (hl.some_ (inb_lt (imp_of hk28 hg27))))) ?_
        refine wg1 rfl rfl rfl rfl rfl (fun hg29 => QV.qo (q_field_addr (((w64 (((i3 : Nat) : Int) - 1)).toNat) * 5) fld_57_0 rfl (gu hg29 rfl) (hl.some_ (inb_lt (imp_of hk28 hg29))) rfl)) ?_
        obtain ⟨A31, c32, hx33⟩ := hl.verT_at ((w64 (((i3 : Nat) : Int) - 1)).toNat)
        refine wg1 rfl rfl rfl rfl rfl (fun hg30 => QV.qo (q_lda (c := 0) (vs := [.int .i64 (gt l ((w64 (((i3 : Nat) : Int) - 1)).toNat)).dot.s, .int .i64 (gt l ((w64 (((i3 : Nat) : Int) - 1)).toNat)).dot.n]) (hx33 (inb_lt (imp_of hk28 hg30))).2 rfl Tryz.isAgg54 Tryz.sizeOf54 (gu hg30 rfl) rfl rfl)) ?_
        refine wg1 rfl rfl rfl rfl rfl (fun hg34 => QV.qo (q_move (v := .slice Al l.length cl) rfl (by kernel_rfl))) ?_
        refine wg1 rfl rfl rfl rfl rfl (fun hg35 => QV.qo (q_move (v := .int .i64 ((i3 : Nat) : Int)) rfl (by kernel_rfl))) ?_
        refine wg1 rfl rfl rfl rfl rfl (fun hg36 => QV.qo (q_ixn (i := i3) Tryz.underlying48 Tryz.sizeOf57 rfl (gu hg36 rfl) (gu hg36 rfl) hl8 (hl.some_ hl8))) ?_
        refine wg1 rfl rfl rfl rfl rfl (fun hg37 => QV.qo (q_field_addr (i3 * 5) fld_57_0 rfl (gu hg37 rfl) (hl.some_ hl8) rfl)) ?_
        refine wg1 rfl rfl rfl rfl rfl (fun hg38 => QV.qo (q_lda (c := 0) (vs := [.int .i64 (gt l i3).dot.s, .int .i64 (gt l i3).dot.n]) (hx11 hl8).2 rfl Tryz.isAgg54 Tryz.sizeOf54 (gu hg38 rfl) rfl rfl)) ?_
        obtain ⟨z40, hz41, h⟩ := bnd h
        refine wg1 rfl rfl rfl rfl rfl (fun hg39 => (q_call (call_run Tryz.call84 rfl rfl (args2 (gu hg39 rfl) (gu hg39 rfl))) (fun w hw => t_firthref05_Less (Γ := Gh.all w) ((gt l ((w64 (((i3 : Nat) : Int) - 1)).toNat)).dot) ⟨(hx33 (inb_lt (imp_of hk28 hg39))).1.1, (hx33 (inb_lt (imp_of hk28 hg39))).1.2.1⟩ ((gt l i3).dot) ⟨(hx11 hl8).1.1, (hx11 hl8).1.2.1⟩ (Sat.all w) (gc_of hz41 hg39)))) ?_
        refine wg1 rfl rfl rfl rfl rfl (fun hg42 => QV.qo (q_not rfl (gu hg42 rfl))) ?_
        refine wa rfl rfl rfl (q_pick rfl rfl (pk_and' (g := (decide (0 < ((i3 : Nat) : Int)))) (y := (!z40)))) ?_
        refine WQ.nil ?_
        change WC _ _ _ _ _ _
        refine WC.cif h (by kernel_rfl) (fun hb43 h => ?_) (fun hb43 h => ?_)
        · skip
          refine WC.rs ?_
          refine va rfl rfl rfl (q_assign (v := .bool false) rfl (by kernel_rfl)) ?_
          refine WR.nil ?_
          change WC _ _ _ _ _ _
          refine WC.ret ?_
          intro w hw
          obtain rfl := Option.some.inj h
          subst hF
          exact ⟨by kernel_rfl, hw.fr⟩
        · skip
          refine WC.skip ?_
          change WC _ _ _ _ _ _
          refine WC.region ?_
          refine va rfl rfl rfl (q_move (v := .int .i64 ((i3 : Nat) : Int)) rfl (by kernel_rfl)) ?_
          refine va rfl rfl rfl (q_add_r (r := ((i3 + 1 : Nat) : Int)) rfl rfl rfl (ctr_len hl8 hl.le)) ?_
          refine va rfl rfl rfl (q_assign (v := .int .i64 ((i3 + 1 : Nat) : Int)) rfl (by kernel_rfl)) ?_
          refine WR.nil ?_
          intro w hw
          exact ⟨hl8, (), h, (sl_ (by kernel_rfl)), hw, trivial⟩
    · skip
      have h := hge6 (ige hb7)
      refine WC.exit ?_
      change WC _ _ _ _ _ _
      refine WC.rs ?_
      refine va rfl rfl rfl (q_assign (v := .bool true) rfl (by kernel_rfl)) ?_
      refine WR.nil ?_
      change WC _ _ _ _ _ _
      refine WC.ret ?_
      intro w hw
      obtain rfl := Option.some.inj h
      subst hF
      exact ⟨by kernel_rfl, hw.fr⟩
set_option maxRecDepth 100000 in
set_option maxHeartbeats 400000 in
theorem t_firthref06_RightRec {Γ : Gh} {w0 : World} {Ar_1 : Option Addr} {cr_1 : Nat} (r_ : Rec) (hr_ : Rec.fits Γ Ar_1 cr_1 r_) (hs : Sat Γ w0) {r : Bool} (h : m_firthref06_RightRec r_ = some r) : Calls Tryz.prog 32 #[.agg #[.string r_.key, .slice Ar_1 r_.vers.length cr_1]] w0 (fun e w' => e = .returned (.bool r) ∧ Fr no w0 w') := by
  refine calls_of (N := 17) (rs := [2]) (args := [.agg #[.string r_.key, .slice Ar_1 r_.vers.length cr_1]]) Tryz.func32 rfl Tryz.ntmps32 Tryz.results32 rfl ?_
  obtain ⟨F, hF⟩ : ∃ F : Fm, F = ⟨no, w0, Γ⟩ := ⟨_, rfl⟩
  refine WC.here (C := CC F Γ []) ?_ (hF ▸ Cur.start0 hs)
  refine WC.rs ?_
  refine e_box (v := .agg #[.string r_.key, .slice Ar_1 r_.vers.length cr_1]) rfl rfl rfl rfl (by kernel_rfl) ?_
  intro g1
  refine va rfl rfl rfl (q_assign (v := .bool false) rfl (by kernel_rfl)) ?_
  refine WR.nil ?_
  change WC _ _ _ _ _ _
  refine WC.rs ?_
  refine va rfl rfl rfl (q_fl 0 fld_51_0 rfl rfl rfl) ?_
  refine va rfl rfl rfl (q_ldl (i := 0) (v := .string r_.key) rfl rfl Tryz.isAgg9 rfl rfl) ?_
  refine va rfl rfl rfl (q_sneq rfl rfl rfl) ?_
  refine va rfl rfl rfl (q_move (v := .bool (r_.key != ByteArray.empty)) rfl (by kernel_rfl)) ?_
  refine vg1 rfl rfl rfl rfl rfl (fun hg2 => QV.qo (q_fl 0 fld_51_0 rfl rfl rfl)) ?_
  refine vg1 rfl rfl rfl rfl rfl (fun hg3 => QV.qo (q_ldl (i := 0) (v := .string r_.key) rfl rfl Tryz.isAgg9 (gu hg3 rfl) rfl)) ?_
  refine vg1 rfl rfl rfl rfl rfl (fun hg4 => QV.qo (q_len_str rfl Tryz.underlying9 (gu hg4 rfl))) ?_
  refine vg1 rfl rfl rfl rfl rfl (fun hg5 => QV.qo (q_leq rfl (gu hg5 rfl) rfl)) ?_
  refine va rfl rfl rfl (q_pick rfl rfl (pk_and' (g := (r_.key != ByteArray.empty)) (y := (decide (((r_.key.size : Nat) : Int) ≤ 32))))) ?_
  refine va rfl rfl rfl (q_move (v := .bool ((r_.key != ByteArray.empty) && (decide (((r_.key.size : Nat) : Int) ≤ 32)))) rfl (by kernel_rfl)) ?_
  refine vg1 rfl rfl rfl rfl rfl (fun hg6 => QV.qo (q_fl 1 fld_51_1 rfl rfl rfl)) ?_
  refine vg1 rfl rfl rfl rfl rfl (fun hg7 => QV.qo (q_ldl (i := 0) (v := .slice Ar_1 r_.vers.length cr_1) rfl rfl Tryz.isAgg48 (gu hg7 rfl) rfl)) ?_
  obtain ⟨z9, hz10, h⟩ := bnd h
  refine vg1 rfl rfl rfl rfl rfl (fun hg8 => (q_call (call_run Tryz.call59 rfl rfl (args1 (gu hg8 rfl))) (fun w hw => t_firthref05_Right (Γ := Gh.all w) (hr_.2.2.mono hw.sat.le_all) hr_.2.1 (Sat.all w) (gc_of hz10 hg8)))) ?_
  refine va rfl rfl rfl (q_pick rfl rfl (pk_and' (g := ((r_.key != ByteArray.empty) && (decide (((r_.key.size : Nat) : Int) ≤ 32)))) (y := z9))) ?_
  refine va rfl rfl rfl (q_assign (v := .bool (((r_.key != ByteArray.empty) && (decide (((r_.key.size : Nat) : Int) ≤ 32))) && z9)) rfl (by kernel_rfl)) ?_
  refine WR.nil ?_
  change WC _ _ _ _ _ _
  refine WC.ret ?_
  intro w hw
  obtain rfl := Option.some.inj h
  subst hF
  exact ⟨by kernel_rfl, hw.fr⟩
abbrev r_firthref10_With (r : List Rec) (U : List Rowb) (Γ : Gh) (v : Value) : Prop := ∃ (A0 : Option Addr), ∃ (c0 : Nat), ∃ (row0 : Rowb), v = .slice A0 r.length c0 ∧ U = [row0] ∧ Own recT Γ 51 row0 A0 c0 r ∧ True
set_option maxRecDepth 100000 in
set_option maxHeartbeats 400000 in
theorem t_firthref10_With {Γ : Gh} {w0 : World} {Al : Option Addr} {cl : Nat} {l : List Rec} (hl : Sl recT Γ Al l) (hlc : l.length ≤ cl) {Ar_1 : Option Addr} {cr_1 : Nat} (r_ : Rec) (hr_ : Rec.fits Γ Ar_1 cr_1 r_) (hp : Pre [] Γ w0) {r : List Rec} (h : m_firthref10_With l r_ = some r) : Calls Tryz.prog 33 #[.slice Al l.length cl, .agg #[.string r_.key, .slice Ar_1 r_.vers.length cr_1]] w0 (Outc Γ [] w0 (r_firthref10_With r)) := by
  refine calls_of (N := 56) (rs := [4]) (args := [.slice Al l.length cl, .agg #[.string r_.key, .slice Ar_1 r_.vers.length cr_1]]) Tryz.func33 rfl Tryz.ntmps33 Tryz.results33 rfl ?_
  obtain ⟨F, hF⟩ : ∃ F : Fm, F = ⟨ids [], w0, Γ⟩ := ⟨_, rfl⟩
  refine WC.here (C := CC F Γ []) ?_ (hF ▸ hp.start)
  refine WC.rs ?_
  refine e_box (v := .agg #[.string r_.key, .slice Ar_1 r_.vers.length cr_1]) rfl rfl rfl rfl (by kernel_rfl) ?_
  intro g1
  refine va rfl rfl rfl (q_assign (v := .slice none 0 0) rfl (by kernel_rfl)) ?_
  refine WR.nil ?_
  change WC _ _ _ _ _ _
  refine WC.rs ?_
  refine va rfl rfl rfl (q_assign (v := .slice none 0 0) rfl (by kernel_rfl)) ?_
  refine WR.nil ?_
  change WC _ _ _ _ _ _
  refine WC.rs ?_
  refine va rfl rfl rfl (q_fl 1 fld_51_1 rfl rfl rfl) ?_
  refine va rfl rfl rfl (q_ldl (i := 0) (v := .slice Ar_1 r_.vers.length cr_1) rfl rfl Tryz.isAgg48 rfl rfl) ?_
  refine va rfl rfl rfl (q_len_slice rfl Tryz.underlying48 rfl) ?_
  refine va rfl rfl rfl (q_eql rfl rfl rfl) ?_
  refine va rfl rfl rfl (q_assign (v := .bool (((r_.vers.length : Nat) : Int) == 0)) rfl (by kernel_rfl)) ?_
  refine WR.nil ?_
  change WC _ _ _ _ _ _
  refine WC.seq ?_
  refine WC.rs ?_
  refine va rfl rfl rfl (q_assign (v := .int .i64 0) rfl (by kernel_rfl)) ?_
  refine WR.nil ?_
  change WC _ _ _ _ _ _
  refine WC.block ?_
  refine WC.forI h (fun (i9 : Nat) (s : (List Rec) × Bool) σ w => match s with | (out_2, laid_7) => ∃ (A3 : Option Addr), ∃ (c4 : Nat), ∃ (row5 : Rowb), slots σ [(0, .slice Al l.length cl), (3, .pointer (some ⟨g1, 0, none⟩)), (5, .slice A3 out_2.length c4), (6, .bool laid_7), (7, .int .i64 ((i9 : Nat) : Int))] ∧ CC F Γ [row5, [(g1, .cells #[.string r_.key, .slice Ar_1 r_.vers.length cr_1] 51 (0, 0))]] w ∧ Own recT Γ 51 row5 A3 c4 out_2 ∧ True) ?_ ?_
  · skip
    intro w hw
    have hw := hw.pad
    exact ⟨none, 0, [], (sl_ (by kernel_rfl)), hw, (Own.nil recT _ 51), trivial⟩
  rintro f8 i9 ⟨out_2, laid_7⟩ σ w hi10 hlt11 hge12 ⟨A3, c4, row5, hsl, hw, ho6, -⟩
  refine Wpt.slots hsl ?_
  refine WC.here (C := CC F Γ [row5, [(g1, .cells #[.string r_.key, .slice Ar_1 r_.vers.length cr_1] 51 (0, 0))]]) ?_ hw
  clear hw hsl
  refine WC.seq ?_
  refine WC.rs ?_
  refine va rfl rfl rfl (q_move (v := .int .i64 ((i9 : Nat) : Int)) rfl (by kernel_rfl)) ?_
  refine va rfl rfl rfl (q_move (v := .slice Al l.length cl) rfl (by kernel_rfl)) ?_
  refine va rfl rfl rfl (q_len_slice rfl Tryz.underlying22 rfl) ?_
  refine va rfl rfl rfl (q_lss rfl rfl rfl) ?_
  refine WR.nil ?_
  change WC _ _ _ _ _ _
  refine WC.cond (b := (decide (((i9 : Nat) : Int) < ((l.length : Nat) : Int)))) (by kernel_rfl) (fun hb13 => ?_) (fun hb13 => ?_)
  · skip
    have hl14 := ilt hb13
    have h := hlt11 hl14
    refine WC.skip ?_
    change WC _ _ _ _ _ _
    refine WC.cut (fun σ w => ∃ (out_15 : List Rec), ∃ (laid_20 : Bool), ∃ (A16 : Option Addr), ∃ (c17 : Nat), ∃ (row18 : Rowb), m_firthref10_With_j11 f8 out_15 laid_20 = some r ∧ slots σ [(0, .slice Al l.length cl), (3, .pointer (some ⟨g1, 0, none⟩)), (5, .slice A16 out_15.length c17), (6, .bool laid_20), (7, .int .i64 ((i9 : Nat) : Int))] ∧ CC F Γ [row18, [(g1, .cells #[.string r_.key, .slice Ar_1 r_.vers.length cr_1] 51 (0, 0))]] w ∧ Own recT Γ 51 row18 A16 c17 out_15 ∧ True) ?_ ?_
    · skip
      refine WC.block ?_
      refine WC.seq ?_
      refine WC.seq ?_
      refine WC.dr (by kernel_rfl) (by kernel_rfl) (fun w hw => hw.drawn _) ?_
      refine wa rfl rfl rfl (q_move (v := .slice Al l.length cl) rfl (by kernel_rfl)) ?_
      refine wa rfl rfl rfl (q_move (v := .int .i64 ((i9 : Nat) : Int)) rfl (by kernel_rfl)) ?_
      refine wa rfl rfl rfl (q_ixn (i := i9) Tryz.underlying22 Tryz.sizeOf51 rfl rfl rfl hl14 (hl.some_ hl14)) ?_
      refine wa rfl rfl rfl (q_field_addr (i9 * 2) fld_51_0 rfl rfl (hl.some_ hl14) rfl) ?_
      obtain ⟨A21, c22, hx23⟩ := hl.recT_at i9
      refine wa rfl rfl rfl (q_ld (c := 0) (v := .string (gt l i9).key) (hx23 hl14).2 rfl Tryz.isAgg9 rfl rfl) ?_
      refine wa rfl rfl rfl (q_fl 0 fld_51_0 rfl rfl rfl) ?_
      refine wa rfl rfl rfl (q_ldl (i := 1) (v := .string r_.key) rfl rfl Tryz.isAgg9 rfl rfl) ?_
      refine wa rfl rfl rfl (q_seql rfl rfl rfl) ?_
      refine WQ.nil ?_
      change WC _ _ _ _ _ _
      refine WC.cif h (by kernel_rfl) (fun hb24 h => ?_) (fun hb24 h => ?_)
      · skip
        refine WC.exit ?_
        intro w hw
        exact ⟨out_2, laid_7, A3, c4, row5, h, (sl_ (by kernel_rfl)), hw, ho6, trivial⟩
      · skip
        refine WC.skip ?_
        change WC _ _ _ _ _ _
        refine WC.cut (fun σ w => ∃ (out_25 : List Rec), ∃ (laid_30 : Bool), ∃ (A26 : Option Addr), ∃ (c27 : Nat), ∃ (row28 : Rowb), m_firthref10_With_j13 l f8 i9 out_25 laid_30 = some r ∧ slots σ [(0, .slice Al l.length cl), (3, .pointer (some ⟨g1, 0, none⟩)), (5, .slice A26 out_25.length c27), (6, .bool laid_30), (7, .int .i64 ((i9 : Nat) : Int))] ∧ CC F Γ [row28, [(g1, .cells #[.string r_.key, .slice Ar_1 r_.vers.length cr_1] 51 (0, 0))]] w ∧ Own recT Γ 51 row28 A26 c27 out_25 ∧ True) ?_ ?_
        · skip
          refine WC.seq ?_
          refine WC.dr (by kernel_rfl) (by kernel_rfl) (fun w hw => hw.drawn _) ?_
          refine wa rfl rfl rfl (q_move (v := .bool laid_7) rfl (by kernel_rfl)) ?_
          refine wa rfl rfl rfl (q_not rfl rfl) ?_
          refine wa rfl rfl rfl (q_move (v := .bool (!laid_7)) rfl (by kernel_rfl)) ?_
          refine wg1 rfl rfl rfl rfl rfl (fun hg31 => QV.qo (q_fl 0 fld_51_0 rfl rfl rfl)) ?_
          refine wg1 rfl rfl rfl rfl rfl (fun hg32 => QV.qo (q_ldl (i := 1) (v := .string r_.key) rfl rfl Tryz.isAgg9 (gu hg32 rfl) rfl)) ?_
          refine wg1 rfl rfl rfl rfl rfl (fun hg33 => QV.qo (q_move (v := .slice Al l.length cl) rfl (by kernel_rfl))) ?_
          refine wg1 rfl rfl rfl rfl rfl (fun hg34 => QV.qo (q_move (v := .int .i64 ((i9 : Nat) : Int)) rfl (by kernel_rfl))) ?_
          refine wg1 rfl rfl rfl rfl rfl (fun hg35 => QV.qo (q_ixn (i := i9) Tryz.underlying22 Tryz.sizeOf51 rfl (gu hg35 rfl) (gu hg35 rfl) hl14 (hl.some_ hl14))) ?_
          refine wg1 rfl rfl rfl rfl rfl (fun hg36 => QV.qo (q_field_addr (i9 * 2) fld_51_0 rfl (gu hg36 rfl) (hl.some_ hl14) rfl)) ?_
          refine wg1 rfl rfl rfl rfl rfl (fun hg37 => QV.qo (q_ld (c := 0) (v := .string (gt l i9).key) (hx23 hl14).2 rfl Tryz.isAgg9 (gu hg37 rfl) rfl)) ?_
          refine wg1 rfl rfl rfl rfl rfl (fun hg38 => QV.qo (q_slss rfl (gu hg38 rfl) (gu hg38 rfl))) ?_
          refine wa rfl rfl rfl (q_pick rfl rfl (pk_and' (g := (!laid_7)) (y := (strLt r_.key ((gt l i9).key))))) ?_
          refine WQ.nil ?_
          change WC _ _ _ _ _ _
          refine WC.cif h (by kernel_rfl) (fun hb39 h => ?_) (fun hb39 h => ?_)
          · skip
            refine WC.rs ?_
            refine va rfl rfl rfl (q_move (v := .slice A3 out_2.length c4) rfl (by kernel_rfl)) ?_
            refine va rfl rfl rfl (q_ldla (i := 1) (vs := [.string r_.key, .slice Ar_1 r_.vers.length cr_1]) rfl rfl Tryz.isAgg51 Tryz.sizeOf51 rfl rfl) ?_
            refine e_buildSlice (cs := #[.string r_.key, .slice Ar_1 r_.vers.length cr_1]) (e := 51) rfl rfl rfl rfl (fun w => by kernel_rfl) ?_
            intro g40
            obtain ⟨hk41, h⟩ := chk_some h
            refine e_append (T := recT) (xs := out_2) (ys := [r_]) elem_22 (i := 1) rfl rfl rfl rfl rfl rfl rfl ho6 (of_decide_eq_true hk41) (fun w hw => src_one (T := recT) (y := r_) (i := 0) rfl (by exact ⟨Ar_1, cr_1, rfl, hr_⟩) hw) ?_
            intro row42 A43 c44 ho45
            refine va rfl rfl rfl (q_assign (v := .slice A43 (out_2 ++ [r_]).length c44) rfl (by kernel_rfl)) ?_
            refine WR.nil ?_
            change WC _ _ _ _ _ _
            refine WC.region ?_
            refine va rfl rfl rfl (q_assign (v := .bool true) rfl (by kernel_rfl)) ?_
            refine WR.nil ?_
            intro w hw
            exact ⟨(out_2 ++ [r_]), true, A43, c44, row42, h, (sl_ (by kernel_rfl)), (hw.only (is := [1, 1]) rfl), ho45, trivial⟩
          · skip
            refine WC.skip ?_
            intro w hw
            exact ⟨out_2, laid_7, A3, c4, row5, h, (sl_ (by kernel_rfl)), hw, ho6, trivial⟩
        · skip
          rintro σ w ⟨out_25, laid_30, A26, c27, row28, h, hsl, hw, ho29, -⟩
          refine Wpt.slots hsl ?_
          refine WC.here (C := CC F Γ [row28, [(g1, .cells #[.string r_.key, .slice Ar_1 r_.vers.length cr_1] 51 (0, 0))]]) ?_ hw
          clear hw hsl
          refine WC.region ?_
          refine va rfl rfl rfl (q_move (v := .slice A26 out_25.length c27) rfl (by kernel_rfl)) ?_
          refine va rfl rfl rfl (q_move (v := .slice Al l.length cl) rfl (by kernel_rfl)) ?_
          refine va rfl rfl rfl (q_move (v := .int .i64 ((i9 : Nat) : Int)) rfl (by kernel_rfl)) ?_
          refine va rfl rfl rfl (q_ixn (i := i9) Tryz.underlying22 Tryz.sizeOf51 rfl rfl rfl hl14 (hl.some_ hl14)) ?_
          obtain ⟨A46, c47, hx48⟩ := hl.recT_at i9
          refine va rfl rfl rfl (q_lda (c := 0) (vs := [.string (gt l i9).key, .slice A46 ((gt l i9).vers).length c47]) (hx48 hl14).2 rfl Tryz.isAgg51 Tryz.sizeOf51 rfl rfl rfl) ?_
          refine e_buildSlice (cs := #[.string (gt l i9).key, .slice A46 ((gt l i9).vers).length c47]) (e := 51) rfl rfl rfl rfl (fun w => by kernel_rfl) ?_
          intro g49
          obtain ⟨hk50, h⟩ := chk_some h
          refine e_append (T := recT) (xs := out_25) (ys := [(gt l i9)]) elem_22 (i := 1) rfl rfl rfl rfl rfl rfl rfl ho29 (of_decide_eq_true hk50) (fun w hw => src_one (T := recT) (y := (gt l i9)) (i := 0) rfl (by exact ⟨A46, c47, rfl, (hx48 hl14).1⟩) hw) ?_
          intro row51 A52 c53 ho54
          refine va rfl rfl rfl (q_assign (v := .slice A52 (out_25 ++ [(gt l i9)]).length c53) rfl (by kernel_rfl)) ?_
          refine WR.nil ?_
          intro w hw
          exact ⟨(out_25 ++ [(gt l i9)]), laid_30, A52, c53, row51, h, (sl_ (by kernel_rfl)), (hw.only (is := [1, 1]) rfl), ho54, trivial⟩
    · skip
      rintro σ w ⟨out_15, laid_20, A16, c17, row18, h, hsl, hw, ho19, -⟩
      refine Wpt.slots hsl ?_
      refine WC.here (C := CC F Γ [row18, [(g1, .cells #[.string r_.key, .slice Ar_1 r_.vers.length cr_1] 51 (0, 0))]]) ?_ hw
      clear hw hsl
      refine WC.region ?_
      refine va rfl rfl rfl (q_move (v := .int .i64 ((i9 : Nat) : Int)) rfl (by kernel_rfl)) ?_
      refine va rfl rfl rfl (q_add_r (r := ((i9 + 1 : Nat) : Int)) rfl rfl rfl (ctr_len hl14 hl.le)) ?_
      refine va rfl rfl rfl (q_assign (v := .int .i64 ((i9 + 1 : Nat) : Int)) rfl (by kernel_rfl)) ?_
      refine WR.nil ?_
      intro w hw
      exact ⟨hl14, (out_15, laid_20), h, A16, c17, row18, (sl_ (by kernel_rfl)), hw, ho19, trivial⟩
  · skip
    have h := hge12 (ige hb13)
    refine WC.exit ?_
    change WC _ _ _ _ _ _
    refine WC.seq ?_
    refine WC.rs ?_
    refine va rfl rfl rfl (q_move (v := .bool laid_7) rfl (by kernel_rfl)) ?_
    refine va rfl rfl rfl (q_not rfl rfl) ?_
    refine WR.nil ?_
    change WC _ _ _ _ _ _
    refine WC.cif h (by kernel_rfl) (fun hb55 h => ?_) (fun hb55 h => ?_)
    · skip
      refine WC.region ?_
      refine va rfl rfl rfl (q_move (v := .slice A3 out_2.length c4) rfl (by kernel_rfl)) ?_
      refine va rfl rfl rfl (q_ldla (i := 1) (vs := [.string r_.key, .slice Ar_1 r_.vers.length cr_1]) rfl rfl Tryz.isAgg51 Tryz.sizeOf51 rfl rfl) ?_
      refine e_buildSlice (cs := #[.string r_.key, .slice Ar_1 r_.vers.length cr_1]) (e := 51) rfl rfl rfl rfl (fun w => by kernel_rfl) ?_
      intro g56
      obtain ⟨hk57, h⟩ := chk_some h
      refine e_append (T := recT) (xs := out_2) (ys := [r_]) elem_22 (i := 1) rfl rfl rfl rfl rfl rfl rfl ho6 (of_decide_eq_true hk57) (fun w hw => src_one (T := recT) (y := r_) (i := 0) rfl (by exact ⟨Ar_1, cr_1, rfl, hr_⟩) hw) ?_
      intro row58 A59 c60 ho61
      refine va rfl rfl rfl (q_assign (v := .slice A59 (out_2 ++ [r_]).length c60) rfl (by kernel_rfl)) ?_
      refine WR.nil ?_
      change WC _ _ _ _ _ _
      refine WC.rs ?_
      refine va rfl rfl rfl (q_move (v := .slice A59 (out_2 ++ [r_]).length c60) rfl (by kernel_rfl)) ?_
      refine va rfl rfl rfl (q_assign (v := .slice A59 (out_2 ++ [r_]).length c60) rfl (by kernel_rfl)) ?_
      refine WR.nil ?_
      change WC _ _ _ _ _ _
      refine WC.ret ?_
      intro w hw
      obtain rfl := Option.some.inj h
      subst hF
      exact end_e (is := [1]) (by kernel_rfl) hw rfl ⟨A59, c60, row58, rfl, rfl, ho61, trivial⟩
    · skip
      refine WC.skip ?_
      change WC _ _ _ _ _ _
      refine WC.rs ?_
      refine va rfl rfl rfl (q_move (v := .slice A3 out_2.length c4) rfl (by kernel_rfl)) ?_
      refine va rfl rfl rfl (q_assign (v := .slice A3 out_2.length c4) rfl (by kernel_rfl)) ?_
      refine WR.nil ?_
      change WC _ _ _ _ _ _
      refine WC.ret ?_
      intro w hw
      obtain rfl := Option.some.inj h
      subst hF
      exact end_e (is := [0]) (by kernel_rfl) hw rfl ⟨A3, c4, row5, rfl, rfl, ho6, trivial⟩
abbrev r_firthref14_Held (r : (List Rec) × Bool) (U : List Rowb) (Γ : Gh) (v : Value) : Prop := ∃ (A0 : Option Addr), ∃ (c0 : Nat), ∃ (row0 : Rowb), v = .tuple #[.slice A0 r.1.length c0, .bool r.2] ∧ U = [row0] ∧ Own recT Γ 51 row0 A0 c0 r.1 ∧ True
set_option maxRecDepth 100000 in
set_option maxHeartbeats 400000 in
theorem t_firthref14_Held {Γ : Gh} {w0 : World} {Al : Option Addr} {cl : Nat} {l : List Rec} (hl : Sl recT Γ Al l) (hlc : l.length ≤ cl) (hp : Pre [] Γ w0) {r : (List Rec) × Bool} (h : m_firthref14_Held l = some r) : Calls Tryz.prog 10 #[.slice Al l.length cl] w0 (Outc Γ [] w0 (r_firthref14_Held r)) := by
  refine calls_of (N := 25) (rs := [2, 3]) (args := [.slice Al l.length cl]) Tryz.func10 rfl Tryz.ntmps10 Tryz.results10 rfl ?_
  obtain ⟨F, hF⟩ : ∃ F : Fm, F = ⟨ids [], w0, Γ⟩ := ⟨_, rfl⟩
  refine WC.here (C := CC F Γ []) ?_ (hF ▸ hp.start)
  refine WC.rs ?_
  refine va rfl rfl rfl (q_assign (v := .slice none 0 0) rfl (by kernel_rfl)) ?_
  refine va rfl rfl rfl (q_assign (v := .bool false) rfl (by kernel_rfl)) ?_
  refine WR.nil ?_
  change WC _ _ _ _ _ _
  refine WC.rs ?_
  refine va rfl rfl rfl (q_assign (v := .slice none 0 0) rfl (by kernel_rfl)) ?_
  refine WR.nil ?_
  change WC _ _ _ _ _ _
  refine WC.seq ?_
  refine WC.rs ?_
  refine va rfl rfl rfl (q_assign (v := .int .i64 0) rfl (by kernel_rfl)) ?_
  refine WR.nil ?_
  change WC _ _ _ _ _ _
  refine WC.block ?_
  refine WC.forI h (fun (i9 : Nat) (out_3 : List Rec) σ w => ∃ (Γ1 : Gh), ∃ (A4 : Option Addr), ∃ (c5 : Nat), ∃ (row6 : Rowb), slots σ [(0, .slice Al l.length cl), (4, .slice A4 out_3.length c5), (5, .int .i64 ((i9 : Nat) : Int))] ∧ CC F Γ1 [row6] w ∧ Gh.le Γ Γ1 ∧ Own recT Γ1 51 row6 A4 c5 out_3 ∧ True) ?_ ?_
  · skip
    intro w hw
    have hw := hw.pad
    exact ⟨Γ, none, 0, [], (sl_ (by kernel_rfl)), hw, (Gh.refl _), (Own.nil recT _ 51), trivial⟩
  rintro f8 i9 out_3 σ w hi10 hlt11 hge12 ⟨Γ1, A4, c5, row6, hsl, hw, hl2, ho7, -⟩
  refine Wpt.slots hsl ?_
  refine WC.here (C := CC F Γ1 [row6]) ?_ hw
  clear hw hsl
  refine WC.seq ?_
  refine WC.rs ?_
  refine va rfl rfl rfl (q_move (v := .int .i64 ((i9 : Nat) : Int)) rfl (by kernel_rfl)) ?_
  refine va rfl rfl rfl (q_move (v := .slice Al l.length cl) rfl (by kernel_rfl)) ?_
  refine va rfl rfl rfl (q_len_slice rfl Tryz.underlying22 rfl) ?_
  refine va rfl rfl rfl (q_lss rfl rfl rfl) ?_
  refine WR.nil ?_
  change WC _ _ _ _ _ _
  refine WC.cond (b := (decide (((i9 : Nat) : Int) < ((l.length : Nat) : Int)))) (by kernel_rfl) (fun hb13 => ?_) (fun hb13 => ?_)
  · skip
    have hl14 := ilt hb13
    have h := hlt11 hl14
    refine WC.skip ?_
    change WC _ _ _ _ _ _
    refine WC.seq ?_
    refine WC.block ?_
    refine WC.seq ?_
    refine WC.rs ?_
    refine va rfl rfl rfl (q_move (v := .slice Al l.length cl) rfl (by kernel_rfl)) ?_
    refine va rfl rfl rfl (q_move (v := .int .i64 ((i9 : Nat) : Int)) rfl (by kernel_rfl)) ?_
    refine va rfl rfl rfl (q_ixn (i := i9) Tryz.underlying22 Tryz.sizeOf51 rfl rfl rfl hl14 ((hl.mono hl2).some_ hl14)) ?_
    obtain ⟨A15, c16, hx17⟩ := (hl.mono hl2).recT_at i9
    refine va rfl rfl rfl (q_lda (c := 0) (vs := [.string (gt l i9).key, .slice A15 ((gt l i9).vers).length c16]) (hx17 hl14).2 rfl Tryz.isAgg51 Tryz.sizeOf51 rfl rfl rfl) ?_
    obtain ⟨z18, hz19, h⟩ := bnd h
    refine vc rfl rfl rfl (q_call (call_run Tryz.call32 rfl rfl (by kernel_rfl)) (fun w hw => t_firthref06_RightRec (Γ := Gh.all w) (gt l i9) (Rec.fits_mono (hx17 hl14).1 hw.sat.le_all) (Sat.all w) hz19)) ?_
    refine va rfl rfl rfl (q_not rfl rfl) ?_
    refine WR.nil ?_
    change WC _ _ _ _ _ _
    refine WC.cif h (by kernel_rfl) (fun hb20 h => ?_) (fun hb20 h => ?_)
    · skip
      refine WC.rs ?_
      refine va rfl rfl rfl (q_assign (v := .slice none 0 0) rfl (by kernel_rfl)) ?_
      refine va rfl rfl rfl (q_assign (v := .bool false) rfl (by kernel_rfl)) ?_
      refine WR.nil ?_
      change WC _ _ _ _ _ _
      refine WC.ret ?_
      intro w hw
      have hw := hw.pad
      obtain rfl := Option.some.inj h
      subst hF
      exact end_e (is := [0]) (by kernel_rfl) hw rfl ⟨none, 0, [], rfl, rfl, (Own.nil recT _ 51), trivial⟩
    · skip
      refine WC.skip ?_
      change WC _ _ _ _ _ _
      refine WC.region ?_
      refine va rfl rfl rfl (q_move (v := .slice A4 out_3.length c5) rfl (by kernel_rfl)) ?_
      refine va rfl rfl rfl (q_move (v := .slice Al l.length cl) rfl (by kernel_rfl)) ?_
      refine va rfl rfl rfl (q_move (v := .int .i64 ((i9 : Nat) : Int)) rfl (by kernel_rfl)) ?_
      refine va rfl rfl rfl (q_ixn (i := i9) Tryz.underlying22 Tryz.sizeOf51 rfl rfl rfl hl14 ((hl.mono hl2).some_ hl14)) ?_
      refine va rfl rfl rfl (q_lda (c := 0) (vs := [.string (gt l i9).key, .slice A15 ((gt l i9).vers).length c16]) (hx17 hl14).2 rfl Tryz.isAgg51 Tryz.sizeOf51 rfl rfl rfl) ?_
      have hc25 := ho7.capz
      intro w hw; obtain ⟨Γ21, hw, hl22, hr23⟩ := hw.seal (i := 0) rfl; have hs24 := ho7.sl hl22 hr23
      refine WR.here (C := CC F Γ21 [[]]) ?_ hw
      clear hw
      obtain ⟨z26, hz27, h⟩ := bnd h
      refine e_call (is := []) rfl rfl (call_run Tryz.call33 rfl rfl (by kernel_rfl)) rfl (fun w hp => t_firthref10_With hs24 hc25 (gt l i9) (Rec.fits_mono (hx17 hl14).1 hl22) hp hz27) ?_
      rintro Γ28 U30 v31 hl29 ⟨A32, c33, row34, rfl, rfl, hr35, _⟩
      change WR _ _ _ (CC F Γ28 [row34, []]) _ _ (upd _ 23 (.slice A32 z26.length c33))
      refine va rfl rfl rfl (q_assign (v := .slice A32 z26.length c33) rfl (by kernel_rfl)) ?_
      refine WR.nil ?_
      change WC _ _ _ _ _ _
      refine WC.region ?_
      refine va rfl rfl rfl (q_move (v := .int .i64 ((i9 : Nat) : Int)) rfl (by kernel_rfl)) ?_
      refine va rfl rfl rfl (q_add_r (r := ((i9 + 1 : Nat) : Int)) rfl rfl rfl (ctr_len hl14 (hl.mono hl2).le)) ?_
      refine va rfl rfl rfl (q_assign (v := .int .i64 ((i9 + 1 : Nat) : Int)) rfl (by kernel_rfl)) ?_
      refine WR.nil ?_
      intro w hw
      exact ⟨hl14, z26, h, Γ28, A32, c33, row34, (sl_ (by kernel_rfl)), (hw.only (is := [0]) rfl), ((hl2.trans hl22).trans hl29), hr35, trivial⟩
  · skip
    have h := hge12 (ige hb13)
    refine WC.exit ?_
    change WC _ _ _ _ _ _
    refine WC.rs ?_
    refine va rfl rfl rfl (q_move (v := .slice A4 out_3.length c5) rfl (by kernel_rfl)) ?_
    refine va rfl rfl rfl (q_assign (v := .slice A4 out_3.length c5) rfl (by kernel_rfl)) ?_
    refine va rfl rfl rfl (q_assign (v := .bool true) rfl (by kernel_rfl)) ?_
    refine WR.nil ?_
    change WC _ _ _ _ _ _
    refine WC.ret ?_
    intro w hw
    obtain rfl := Option.some.inj h
    subst hF
    exact end_e (is := [0]) (by kernel_rfl) hw rfl ⟨A4, c5, row6, rfl, rfl, ho7, trivial⟩
abbrev r_firthref14_Get (r : List Ver) (U : List Rowb) (Γ : Gh) (v : Value) : Prop := ∃ (A0 : Option Addr), ∃ (c0 : Nat), v = .slice A0 r.length c0 ∧ U = [] ∧ r.length ≤ c0 ∧ Sl verT Γ A0 r ∧ True
set_option maxRecDepth 100000 in
set_option maxHeartbeats 400000 in
theorem t_firthref14_Get {Γ : Gh} {w0 : World} {Al : Option Addr} {cl : Nat} {l : List Rec} (hl : Sl recT Γ Al l) (hlc : l.length ≤ cl) (key : ByteArray) (hkey : key.size ≤ lim) (hp : Pre [] Γ w0) {r : List Ver} (h : m_firthref14_Get l key = some r) : Calls Tryz.prog 26 #[.slice Al l.length cl, .string key] w0 (Outc Γ [] w0 (r_firthref14_Get r)) := by
  refine calls_of (N := 24) (rs := [4]) (args := [.slice Al l.length cl, .string key]) Tryz.func26 rfl Tryz.ntmps26 Tryz.results26 rfl ?_
  obtain ⟨F, hF⟩ : ∃ F : Fm, F = ⟨ids [], w0, Γ⟩ := ⟨_, rfl⟩
  refine WC.here (C := CC F Γ []) ?_ (hF ▸ hp.start)
  refine WC.rs ?_
  refine va rfl rfl rfl (q_assign (v := .slice none 0 0) rfl (by kernel_rfl)) ?_
  refine WR.nil ?_
  change WC _ _ _ _ _ _
  refine WC.seq ?_
  refine WC.rs ?_
  refine va rfl rfl rfl (q_assign (v := .int .i64 0) rfl (by kernel_rfl)) ?_
  refine WR.nil ?_
  change WC _ _ _ _ _ _
  refine WC.block ?_
  refine WC.forI h (fun (i2 : Nat) (s : Unit) σ w => match s with | () => slots σ [(0, .slice Al l.length cl), (1, .string key), (5, .int .i64 ((i2 : Nat) : Int))] ∧ CC F Γ [] w ∧ True) ?_ ?_
  · skip
    intro w hw
    exact ⟨(sl_ (by kernel_rfl)), hw, trivial⟩
  rintro f1 i2 ⟨⟩ σ w hi3 hlt4 hge5 ⟨hsl, hw, -⟩
  refine Wpt.slots hsl ?_
  refine WC.here (C := CC F Γ []) ?_ hw
  clear hw hsl
  refine WC.seq ?_
  refine WC.rs ?_
  refine va rfl rfl rfl (q_move (v := .int .i64 ((i2 : Nat) : Int)) rfl (by kernel_rfl)) ?_
  refine va rfl rfl rfl (q_move (v := .slice Al l.length cl) rfl (by kernel_rfl)) ?_
  refine va rfl rfl rfl (q_len_slice rfl Tryz.underlying22 rfl) ?_
  refine va rfl rfl rfl (q_lss rfl rfl rfl) ?_
  refine WR.nil ?_
  change WC _ _ _ _ _ _
  refine WC.cond (b := (decide (((i2 : Nat) : Int) < ((l.length : Nat) : Int)))) (by kernel_rfl) (fun hb6 => ?_) (fun hb6 => ?_)
  · skip
    have hl7 := ilt hb6
    have h := hlt4 hl7
    refine WC.skip ?_
    change WC _ _ _ _ _ _
    refine WC.seq ?_
    refine WC.block ?_
    refine WC.rs ?_
    refine va rfl rfl rfl (q_move (v := .slice Al l.length cl) rfl (by kernel_rfl)) ?_
    refine va rfl rfl rfl (q_move (v := .int .i64 ((i2 : Nat) : Int)) rfl (by kernel_rfl)) ?_
    refine va rfl rfl rfl (q_ixn (i := i2) Tryz.underlying22 Tryz.sizeOf51 rfl rfl rfl hl7 (hl.some_ hl7)) ?_
    refine va rfl rfl rfl (q_field_addr (i2 * 2) fld_51_0 rfl rfl (hl.some_ hl7) rfl) ?_
    obtain ⟨A8, c9, hx10⟩ := hl.recT_at i2
    refine va rfl rfl rfl (q_ld (c := 0) (v := .string (gt l i2).key) (hx10 hl7).2 rfl Tryz.isAgg9 rfl rfl) ?_
    refine va rfl rfl rfl (q_move (v := .string key) rfl (by kernel_rfl)) ?_
    refine va rfl rfl rfl (q_seql rfl rfl rfl) ?_
    refine WR.nil ?_
    change WC _ _ _ _ _ _
    refine WC.cif h (by kernel_rfl) (fun hb11 h => ?_) (fun hb11 h => ?_)
    · skip
      refine WC.rs ?_
      refine va rfl rfl rfl (q_move (v := .slice Al l.length cl) rfl (by kernel_rfl)) ?_
      refine va rfl rfl rfl (q_move (v := .int .i64 ((i2 : Nat) : Int)) rfl (by kernel_rfl)) ?_
      refine va rfl rfl rfl (q_ixn (i := i2) Tryz.underlying22 Tryz.sizeOf51 rfl rfl rfl hl7 (hl.some_ hl7)) ?_
      refine va rfl rfl rfl (q_field_addr (i2 * 2 + 1) fld_51_1 rfl rfl (hl.some_ hl7) rfl) ?_
      refine va rfl rfl rfl (q_ld (c := 1) (v := .slice A8 ((gt l i2).vers).length c9) (hx10 hl7).2 rfl Tryz.isAgg48 rfl rfl) ?_
      refine va rfl rfl rfl (q_assign (v := .slice A8 ((gt l i2).vers).length c9) rfl (by kernel_rfl)) ?_
      refine WR.nil ?_
      change WC _ _ _ _ _ _
      refine WC.ret ?_
      intro w hw
      obtain rfl := Option.some.inj h
      subst hF
      exact end_e (is := []) (by kernel_rfl) hw rfl ⟨A8, c9, rfl, rfl, (hx10 hl7).1.2.1, (hx10 hl7).1.2.2, trivial⟩
    · skip
      refine WC.skip ?_
      change WC _ _ _ _ _ _
      refine WC.region ?_
      refine va rfl rfl rfl (q_move (v := .int .i64 ((i2 : Nat) : Int)) rfl (by kernel_rfl)) ?_
      refine va rfl rfl rfl (q_add_r (r := ((i2 + 1 : Nat) : Int)) rfl rfl rfl (ctr_len hl7 hl.le)) ?_
      refine va rfl rfl rfl (q_assign (v := .int .i64 ((i2 + 1 : Nat) : Int)) rfl (by kernel_rfl)) ?_
      refine WR.nil ?_
      intro w hw
      exact ⟨hl7, (), h, (sl_ (by kernel_rfl)), hw, trivial⟩
  · skip
    have h := hge5 (ige hb6)
    refine WC.exit ?_
    change WC _ _ _ _ _ _
    refine WC.rs ?_
    refine va rfl rfl rfl (q_assign (v := .slice none 0 0) rfl (by kernel_rfl)) ?_
    refine WR.nil ?_
    change WC _ _ _ _ _ _
    refine WC.ret ?_
    intro w hw
    obtain rfl := Option.some.inj h
    subst hF
    exact end_e (is := []) (by kernel_rfl) hw rfl ⟨none, 0, rfl, rfl, (Nat.zero_le 0), (Sl.nil verT _ none), trivial⟩
abbrev r_firthref05_put (r : List Ver) (U : List Rowb) (Γ : Gh) (v : Value) : Prop := ∃ (A0 : Option Addr), ∃ (c0 : Nat), v = .slice A0 r.length c0 ∧ U = [] ∧ r.length ≤ c0 ∧ Sl verT Γ A0 r ∧ True
set_option maxRecDepth 100000 in
set_option maxHeartbeats 400000 in
theorem t_firthref05_put {Γ : Gh} {w0 : World} {Al : Option Addr} {cl : Nat} {l : List Ver} (hl : Sl verT Γ Al l) (hlc : l.length ≤ cl) {Av_2 : Option Addr} {cv_2 : Nat} (v_ : Ver) (hv_ : Ver.fits Γ Av_2 cv_2 v_) (hp : Pre [] Γ w0) {r : List Ver} (h : m_firthref05_put l v_ = some r) : Calls Tryz.prog 72 #[.slice Al l.length cl, .agg #[.int .i64 v_.dot.s, .int .i64 v_.dot.n, .slice Av_2 v_.past.length cv_2, .bool v_.gone, .string v_.val]] w0 (Outc Γ [] w0 (r_firthref05_put r)) := by
  refine calls_of (N := 52) (rs := [4]) (args := [.slice Al l.length cl, .agg #[.int .i64 v_.dot.s, .int .i64 v_.dot.n, .slice Av_2 v_.past.length cv_2, .bool v_.gone, .string v_.val]]) Tryz.func72 rfl Tryz.ntmps72 Tryz.results72 rfl ?_
  obtain ⟨F, hF⟩ : ∃ F : Fm, F = ⟨ids [], w0, Γ⟩ := ⟨_, rfl⟩
  refine WC.here (C := CC F Γ []) ?_ (hF ▸ hp.start)
  refine WC.rs ?_
  refine e_box (v := .agg #[.int .i64 v_.dot.s, .int .i64 v_.dot.n, .slice Av_2 v_.past.length cv_2, .bool v_.gone, .string v_.val]) rfl rfl rfl rfl (by kernel_rfl) ?_
  intro g1
  refine va rfl rfl rfl (q_assign (v := .slice none 0 0) rfl (by kernel_rfl)) ?_
  refine WR.nil ?_
  change WC _ _ _ _ _ _
  refine WC.rs ?_
  refine va rfl rfl rfl (q_assign (v := .int .i64 0) rfl (by kernel_rfl)) ?_
  refine WR.nil ?_
  change WC _ _ _ _ _ _
  refine WC.seq ?_
  refine WC.block ?_
  refine WC.loopN h (fun (at_2 : Int) σ w => slots σ [(0, .slice Al l.length cl), (3, .pointer (some ⟨g1, 0, none⟩)), (5, .int .i64 at_2)] ∧ CC F Γ [[(g1, .cells #[.int .i64 v_.dot.s, .int .i64 v_.dot.n, .slice Av_2 v_.past.length cv_2, .bool v_.gone, .string v_.val] 57 (0, 0))]] w ∧ I64 at_2 ∧ True) ?_ ?_
  · skip
    intro w hw
    exact ⟨(sl_ (by kernel_rfl)), hw, (show I64 0 by decide), trivial⟩
  rintro f4 at_2 σ w h ⟨hsl, hw, hr3, -⟩
  refine Wpt.slots hsl ?_
  refine WC.here (C := CC F Γ [[(g1, .cells #[.int .i64 v_.dot.s, .int .i64 v_.dot.n, .slice Av_2 v_.past.length cv_2, .bool v_.gone, .string v_.val] 57 (0, 0))]]) ?_ hw
  clear hw hsl
  refine WC.seq ?_
  refine WC.seq ?_
  refine WC.dr (by kernel_rfl) (by kernel_rfl) (fun w hw => hw.drawn _) ?_
  refine wa rfl rfl rfl (q_move (v := .int .i64 at_2) rfl (by kernel_rfl)) ?_
  refine wa rfl rfl rfl (q_move (v := .slice Al l.length cl) rfl (by kernel_rfl)) ?_
  refine wa rfl rfl rfl (q_len_slice rfl Tryz.underlying48 rfl) ?_
  refine wa rfl rfl rfl (q_lss rfl rfl rfl) ?_
  refine wa rfl rfl rfl (q_move (v := .bool (decide (at_2 < ((l.length : Nat) : Int)))) rfl (by kernel_rfl)) ?_
  refine wg1 rfl rfl rfl rfl rfl (fun hg8 => QV.qo (q_move (v := .slice Al l.length cl) rfl (by kernel_rfl))) ?_
  refine wg1 rfl rfl rfl rfl rfl (fun hg9 => QV.qo (q_move (v := .int .i64 at_2) rfl (by kernel_rfl))) ?_
  obtain ⟨hk11, h⟩ := chk_some h
  refine wg1 rfl rfl rfl rfl rfl (fun hg10 => QV.qo (q_ix Tryz.underlying48 Tryz.sizeOf57 rfl (gu hg10 rfl) (gu hg10 rfl) (imp_of hk11 hg10) (hl.some_ (inb_lt (imp_of hk11 hg10))))) ?_
  refine wg1 rfl rfl rfl rfl rfl (fun hg12 => QV.qo (q_field_addr (at_2.toNat * 5) fld_57_0 rfl (gu hg12 rfl) (hl.some_ (inb_lt (imp_of hk11 hg12))) rfl)) ?_
  obtain ⟨A14, c15, hx16⟩ := hl.verT_at at_2.toNat
  refine wg1 rfl rfl rfl rfl rfl (fun hg13 => QV.qo (q_lda (c := 0) (vs := [.int .i64 (gt l at_2.toNat).dot.s, .int .i64 (gt l at_2.toNat).dot.n]) (hx16 (inb_lt (imp_of hk11 hg13))).2 rfl Tryz.isAgg54 Tryz.sizeOf54 (gu hg13 rfl) rfl rfl)) ?_
  refine wg1 rfl rfl rfl rfl rfl (fun hg17 => QV.qo (q_fl 0 fld_57_0 rfl rfl rfl)) ?_
  refine wg1 rfl rfl rfl rfl rfl (fun hg18 => QV.qo (q_ldla (i := 0) (vs := [.int .i64 v_.dot.s, .int .i64 v_.dot.n]) rfl rfl Tryz.isAgg54 Tryz.sizeOf54 (gu hg18 rfl) rfl)) ?_
  obtain ⟨z20, hz21, h⟩ := bnd h
  refine wg1 rfl rfl rfl rfl rfl (fun hg19 => (q_call (call_run Tryz.call84 rfl rfl (args2 (gu hg19 rfl) (gu hg19 rfl))) (fun w hw => t_firthref05_Less (Γ := Gh.all w) ((gt l at_2.toNat).dot) ⟨(hx16 (inb_lt (imp_of hk11 hg19))).1.1, (hx16 (inb_lt (imp_of hk11 hg19))).1.2.1⟩ v_.dot ⟨hv_.1, hv_.2.1⟩ (Sat.all w) (gc_of hz21 hg19)))) ?_
  refine wa rfl rfl rfl (q_pick rfl rfl (pk_and' (g := (decide (at_2 < ((l.length : Nat) : Int)))) (y := z20))) ?_
  refine WQ.nil ?_
  change WC _ _ _ _ _ _
  refine WC.cif h (by kernel_rfl) (fun hb22 h => ?_) (fun hb22 h => ?_)
  · skip
    refine WC.skip ?_
    change WC _ _ _ _ _ _
    refine WC.block ?_
    refine WC.region ?_
    refine va rfl rfl rfl (q_move (v := .int .i64 at_2) rfl (by kernel_rfl)) ?_
    refine va rfl rfl rfl (q_add rfl rfl rfl) ?_
    refine va rfl rfl rfl (q_assign (v := .int .i64 (w64 (at_2 + 1))) rfl (by kernel_rfl)) ?_
    refine WR.nil ?_
    intro w hw
    exact ⟨(w64 (at_2 + 1)), h, (sl_ (by kernel_rfl)), hw, (w64_r _), trivial⟩
  · skip
    refine WC.exit ?_
    change WC _ _ _ _ _ _
    refine WC.seq ?_
    refine WC.seq ?_
    refine WC.dr (by kernel_rfl) (by kernel_rfl) (fun w hw => hw.drawn _) ?_
    refine wa rfl rfl rfl (q_move (v := .int .i64 at_2) rfl (by kernel_rfl)) ?_
    refine wa rfl rfl rfl (q_move (v := .slice Al l.length cl) rfl (by kernel_rfl)) ?_
    refine wa rfl rfl rfl (q_len_slice rfl Tryz.underlying48 rfl) ?_
    refine wa rfl rfl rfl (q_lss rfl rfl rfl) ?_
    refine wa rfl rfl rfl (q_move (v := .bool (decide (at_2 < ((l.length : Nat) : Int)))) rfl (by kernel_rfl)) ?_
    refine wg1 rfl rfl rfl rfl rfl (fun hg23 => QV.qo (q_move (v := .slice Al l.length cl) rfl (by kernel_rfl))) ?_
    refine wg1 rfl rfl rfl rfl rfl (fun hg24 => QV.qo (q_move (v := .int .i64 at_2) rfl (by kernel_rfl))) ?_
    refine wg1 rfl rfl rfl rfl rfl (fun hg25 => QV.qo (q_ix Tryz.underlying48 Tryz.sizeOf57 rfl (gu hg25 rfl) (gu hg25 rfl) (imp_of hk11 hg25) (hl.some_ (inb_lt (imp_of hk11 hg25))))) ?_
    refine wg1 rfl rfl rfl rfl rfl (fun hg26 => QV.qo (q_field_addr (at_2.toNat * 5) fld_57_0 rfl (gu hg26 rfl) (hl.some_ (inb_lt (imp_of hk11 hg26))) rfl)) ?_
    refine wg1 rfl rfl rfl rfl rfl (fun hg27 => QV.qo (q_lda (c := 0) (vs := [.int .i64 (gt l at_2.toNat).dot.s, .int .i64 (gt l at_2.toNat).dot.n]) (hx16 (inb_lt (imp_of hk11 hg27))).2 rfl Tryz.isAgg54 Tryz.sizeOf54 (gu hg27 rfl) rfl rfl)) ?_
    refine wg1 rfl rfl rfl rfl rfl (fun hg28 => QV.qo (q_fl 0 fld_57_0 rfl rfl rfl)) ?_
    refine wg1 rfl rfl rfl rfl rfl (fun hg29 => QV.qo (q_ldla (i := 0) (vs := [.int .i64 v_.dot.s, .int .i64 v_.dot.n]) rfl rfl Tryz.isAgg54 Tryz.sizeOf54 (gu hg29 rfl) rfl)) ?_
    refine wg1 rfl rfl rfl rfl rfl (fun hg30 => QV.qo (q_eql_Dot (a := (gt l at_2.toNat).dot) (b := v_.dot) rfl (gu hg30 rfl) (gu hg30 rfl))) ?_
    refine wa rfl rfl rfl (q_pick rfl rfl (pk_and' (g := (decide (at_2 < ((l.length : Nat) : Int)))) (y := ((gt l at_2.toNat).dot == v_.dot)))) ?_
    refine WQ.nil ?_
    change WC _ _ _ _ _ _
    refine WC.cif h (by kernel_rfl) (fun hb31 h => ?_) (fun hb31 h => ?_)
    · skip
      refine WC.rs ?_
      refine va rfl rfl rfl (q_move (v := .slice Al l.length cl) rfl (by kernel_rfl)) ?_
      refine va rfl rfl rfl (q_assign (v := .slice Al l.length cl) rfl (by kernel_rfl)) ?_
      refine WR.nil ?_
      change WC _ _ _ _ _ _
      refine WC.ret ?_
      intro w hw
      obtain rfl := Option.some.inj h
      subst hF
      exact end_e (is := []) (by kernel_rfl) hw rfl ⟨Al, cl, rfl, rfl, hlc, hl, trivial⟩
    · skip
      refine WC.skip ?_
      change WC _ _ _ _ _ _
      refine WC.rs ?_
      refine va rfl rfl rfl (q_assign (v := .slice none 0 0) rfl (by kernel_rfl)) ?_
      refine WR.nil ?_
      change WC _ _ _ _ _ _
      refine WC.rs ?_
      refine va rfl rfl rfl (q_move (v := .slice none 0 0) rfl (by kernel_rfl)) ?_
      refine va rfl rfl rfl (q_move (v := .slice Al l.length cl) rfl (by kernel_rfl)) ?_
      refine va rfl rfl rfl (q_move (v := .int .i64 at_2) rfl (by kernel_rfl)) ?_
      obtain ⟨hk32, h⟩ := chk_some h
      refine va rfl rfl rfl (q_cut_to (c := cl) (hi := at_2.toNat) (xs := l) Tryz.underlying48 Tryz.sizeOf57 rfl rfl (inle_eq rfl hk32) (inle_le hk32) hlc) ?_
      refine WR.sub (fun w hw => hw.pad) ?_
      obtain ⟨hk33, h⟩ := chk_some h
      refine e_append (T := verT) (xs := []) (ys := (List.take at_2.toNat l)) elem_48 (i := 0) rfl rfl rfl rfl (by kernel_rfl) rfl rfl (Own.nil verT Γ 57) (of_decide_eq_true hk33) (fun w hw => src_sl (hl.cut_to (hi := at_2.toNat) (inle_le hk32)) hw) ?_
      intro row34 A35 c36 ho37
      refine va rfl rfl rfl (q_assign (v := .slice A35 (List.take at_2.toNat l).length c36) rfl (by kernel_rfl)) ?_
      refine WR.nil ?_
      change WC _ _ _ _ _ _
      refine WC.rs ?_
      refine va rfl rfl rfl (q_move (v := .slice A35 (List.take at_2.toNat l).length c36) rfl (by kernel_rfl)) ?_
      refine va rfl rfl rfl (q_ldla (i := 1) (vs := [.int .i64 v_.dot.s, .int .i64 v_.dot.n, .slice Av_2 v_.past.length cv_2, .bool v_.gone, .string v_.val]) rfl rfl Tryz.isAgg57 Tryz.sizeOf57 rfl rfl) ?_
      refine e_buildSlice (cs := #[.int .i64 v_.dot.s, .int .i64 v_.dot.n, .slice Av_2 v_.past.length cv_2, .bool v_.gone, .string v_.val]) (e := 57) rfl rfl rfl rfl (fun w => by kernel_rfl) ?_
      intro g38
      obtain ⟨hk39, h⟩ := chk_some h
      refine e_append (T := verT) (xs := (List.take at_2.toNat l)) (ys := [v_]) elem_48 (i := 1) rfl rfl rfl rfl rfl rfl rfl ho37 (of_decide_eq_true hk39) (fun w hw => src_one (T := verT) (y := v_) (i := 0) rfl (by exact ⟨Av_2, cv_2, rfl, hv_⟩) hw) ?_
      intro row40 A41 c42 ho43
      refine va rfl rfl rfl (q_assign (v := .slice A41 ((List.take at_2.toNat l) ++ [v_]).length c42) rfl (by kernel_rfl)) ?_
      refine WR.nil ?_
      change WC _ _ _ _ _ _
      refine WC.rs ?_
      refine va rfl rfl rfl (q_move (v := .slice A41 ((List.take at_2.toNat l) ++ [v_]).length c42) rfl (by kernel_rfl)) ?_
      refine va rfl rfl rfl (q_move (v := .slice Al l.length cl) rfl (by kernel_rfl)) ?_
      refine va rfl rfl rfl (q_move (v := .int .i64 at_2) rfl (by kernel_rfl)) ?_
      refine va rfl rfl rfl (q_cut_from (c := cl) (lo := at_2.toNat) (xs := l) Tryz.underlying48 Tryz.sizeOf57 rfl rfl (inle_eq rfl hk32) (inle_le hk32)) ?_
      obtain ⟨hk44, h⟩ := chk_some h
      refine e_append (T := verT) (xs := ((List.take at_2.toNat l) ++ [v_])) (ys := (List.drop at_2.toNat l)) elem_48 (i := 1) rfl rfl rfl rfl rfl rfl rfl ho43 (of_decide_eq_true hk44) (fun w hw => src_sl (hl.cut_from (c := cl) (lo := at_2.toNat) (inle_le hk32) hlc) hw) ?_
      intro row45 A46 c47 ho48
      refine va rfl rfl rfl (q_assign (v := .slice A46 (((List.take at_2.toNat l) ++ [v_]) ++ (List.drop at_2.toNat l)).length c47) rfl (by kernel_rfl)) ?_
      refine WR.nil ?_
      change WC _ _ _ _ _ _
      refine WC.ret ?_
      intro w hw
      have hc53 := ho48.capz
      obtain ⟨Γ49, hw, hl50, hr51⟩ := hw.seal (i := 1) rfl; have hs52 := ho48.sl hl50 hr51
      obtain rfl := Option.some.inj h
      subst hF
      exact end_e (is := []) (by kernel_rfl) hw rfl ⟨A46, c47, rfl, rfl, hc53, hs52, trivial⟩
abbrev r_firthref05_Merge (r : (List Ver) × Int) (U : List Rowb) (Γ : Gh) (v : Value) : Prop := ∃ (A0 : Option Addr), ∃ (c0 : Nat), v = .tuple #[.slice A0 r.1.length c0, .int .i64 r.2] ∧ U = [] ∧ r.1.length ≤ c0 ∧ Sl verT Γ A0 r.1 ∧ I64 r.2 ∧ True
set_option maxRecDepth 100000 in
set_option maxHeartbeats 400000 in
theorem t_firthref05_Merge {Γ : Gh} {w0 : World} {Aa : Option Addr} {ca : Nat} {a : List Ver} (ha : Sl verT Γ Aa a) (hac : a.length ≤ ca) {Ab : Option Addr} {cb : Nat} {b : List Ver} (hb : Sl verT Γ Ab b) (hbc : b.length ≤ cb) (hp : Pre [] Γ w0) {r : (List Ver) × Int} (h : m_firthref05_Merge a b = some r) : Calls Tryz.prog 51 #[.slice Aa a.length ca, .slice Ab b.length cb] w0 (Outc Γ [] w0 (r_firthref05_Merge r)) := by
  refine calls_of (N := 98) (rs := [4, 5]) (args := [.slice Aa a.length ca, .slice Ab b.length cb]) Tryz.func51 rfl Tryz.ntmps51 Tryz.results51 rfl ?_
  obtain ⟨F, hF⟩ : ∃ F : Fm, F = ⟨ids [], w0, Γ⟩ := ⟨_, rfl⟩
  refine WC.here (C := CC F Γ []) ?_ (hF ▸ hp.start)
  refine WC.rs ?_
  refine va rfl rfl rfl (q_assign (v := .slice none 0 0) rfl (by kernel_rfl)) ?_
  refine va rfl rfl rfl (q_assign (v := .int .i64 0) rfl (by kernel_rfl)) ?_
  refine WR.nil ?_
  change WC _ _ _ _ _ _
  refine WC.seq ?_
  refine WC.rs ?_
  refine va rfl rfl rfl (q_move (v := .slice Aa a.length ca) rfl (by kernel_rfl)) ?_
  obtain ⟨z1, hz2, h⟩ := bnd h
  refine vc rfl rfl rfl (q_call (call_run Tryz.call59 rfl rfl (by kernel_rfl)) (fun w hw => t_firthref05_Right (Γ := Gh.all w) (ha.mono hw.sat.le_all) hac (Sat.all w) hz2)) ?_
  refine va rfl rfl rfl (q_not rfl rfl) ?_
  refine va rfl rfl rfl (q_move (v := .bool (!z1)) rfl (by kernel_rfl)) ?_
  refine vg0 rfl rfl rfl rfl rfl (fun hg3 => QV.qo (q_move (v := .slice Ab b.length cb) rfl (by kernel_rfl))) ?_
  obtain ⟨z5, hz6, h⟩ := bnd h
  refine vg0 rfl rfl rfl rfl rfl (fun hg4 => (q_call (call_run Tryz.call59 rfl rfl (args1 (gu hg4 rfl))) (fun w hw => t_firthref05_Right (Γ := Gh.all w) (hb.mono hw.sat.le_all) hbc (Sat.all w) (gc_of hz6 hg4)))) ?_
  refine vg0 rfl rfl rfl rfl rfl (fun hg7 => QV.qo (q_not rfl (gu hg7 rfl))) ?_
  refine va rfl rfl rfl (q_pick rfl rfl (pk_or' (g := (!z1)) (y := (!z5)))) ?_
  refine WR.nil ?_
  change WC _ _ _ _ _ _
  refine WC.cif h (by kernel_rfl) (fun hb8 h => ?_) (fun hb8 h => ?_)
  · skip
    refine WC.rs ?_
    refine va rfl rfl rfl (q_assign (v := .slice none 0 0) rfl (by kernel_rfl)) ?_
    refine va rfl rfl rfl (q_assign (v := .int .i64 1) rfl (by kernel_rfl)) ?_
    refine WR.nil ?_
    change WC _ _ _ _ _ _
    refine WC.ret ?_
    intro w hw
    obtain rfl := Option.some.inj h
    subst hF
    exact end_e (is := []) (by kernel_rfl) hw rfl ⟨none, 0, rfl, rfl, (Nat.zero_le 0), (Sl.nil verT _ none), (show I64 1 by decide), trivial⟩
  · skip
    refine WC.skip ?_
    change WC _ _ _ _ _ _
    refine WC.seq ?_
    refine WC.rs ?_
    refine va rfl rfl rfl (q_assign (v := .int .i64 0) rfl (by kernel_rfl)) ?_
    refine WR.nil ?_
    change WC _ _ _ _ _ _
    refine WC.block ?_
    refine WC.forI h (fun (i10 : Nat) (s : Unit) σ w => match s with | () => slots σ [(0, .slice Aa a.length ca), (1, .slice Ab b.length cb), (6, .int .i64 ((i10 : Nat) : Int))] ∧ CC F Γ [] w ∧ True) ?_ ?_
    · skip
      intro w hw
      exact ⟨(sl_ (by kernel_rfl)), hw, trivial⟩
    rintro f9 i10 ⟨⟩ σ w hi11 hlt12 hge13 ⟨hsl, hw, -⟩
    refine Wpt.slots hsl ?_
    refine WC.here (C := CC F Γ []) ?_ hw
    clear hw hsl
    refine WC.seq ?_
    refine WC.rs ?_
    refine va rfl rfl rfl (q_move (v := .int .i64 ((i10 : Nat) : Int)) rfl (by kernel_rfl)) ?_
    refine va rfl rfl rfl (q_move (v := .slice Aa a.length ca) rfl (by kernel_rfl)) ?_
    refine va rfl rfl rfl (q_len_slice rfl Tryz.underlying48 rfl) ?_
    refine va rfl rfl rfl (q_lss rfl rfl rfl) ?_
    refine WR.nil ?_
    change WC _ _ _ _ _ _
    refine WC.cond (b := (decide (((i10 : Nat) : Int) < ((a.length : Nat) : Int)))) (by kernel_rfl) (fun hb14 => ?_) (fun hb14 => ?_)
    · skip
      have hl15 := ilt hb14
      have h := hlt12 hl15
      refine WC.skip ?_
      change WC _ _ _ _ _ _
      refine WC.seq ?_
      refine WC.block ?_
      refine WC.rs ?_
      refine va rfl rfl rfl (q_assign (v := .int .i64 0) rfl (by kernel_rfl)) ?_
      refine WR.nil ?_
      change WC _ _ _ _ _ _
      refine WC.block ?_
      refine WC.forI h (fun (i17 : Nat) (s : Unit) σ w => match s with | () => slots σ [(0, .slice Aa a.length ca), (1, .slice Ab b.length cb), (6, .int .i64 ((i10 : Nat) : Int)), (7, .int .i64 ((i17 : Nat) : Int))] ∧ CC F Γ [] w ∧ True) ?_ ?_
      · skip
        intro w hw
        exact ⟨(sl_ (by kernel_rfl)), hw, trivial⟩
      rintro f16 i17 ⟨⟩ σ w hi18 hlt19 hge20 ⟨hsl, hw, -⟩
      refine Wpt.slots hsl ?_
      refine WC.here (C := CC F Γ []) ?_ hw
      clear hw hsl
      refine WC.seq ?_
      refine WC.rs ?_
      refine va rfl rfl rfl (q_move (v := .int .i64 ((i17 : Nat) : Int)) rfl (by kernel_rfl)) ?_
      refine va rfl rfl rfl (q_move (v := .slice Ab b.length cb) rfl (by kernel_rfl)) ?_
      refine va rfl rfl rfl (q_len_slice rfl Tryz.underlying48 rfl) ?_
      refine va rfl rfl rfl (q_lss rfl rfl rfl) ?_
      refine WR.nil ?_
      change WC _ _ _ _ _ _
      refine WC.cond (b := (decide (((i17 : Nat) : Int) < ((b.length : Nat) : Int)))) (by kernel_rfl) (fun hb21 => ?_) (fun hb21 => ?_)
      · skip
        have hl22 := ilt hb21
        have h := hlt19 hl22
        refine WC.skip ?_
        change WC _ _ _ _ _ _
        refine WC.seq ?_
        refine WC.block ?_
        refine WC.seq ?_
        refine WC.dr (by kernel_rfl) (by kernel_rfl) (fun w hw => hw.drawn _) ?_
        refine wa rfl rfl rfl (q_move (v := .slice Aa a.length ca) rfl (by kernel_rfl)) ?_
        refine wa rfl rfl rfl (q_move (v := .int .i64 ((i10 : Nat) : Int)) rfl (by kernel_rfl)) ?_
        refine wa rfl rfl rfl (q_ixn (i := i10) Tryz.underlying48 Tryz.sizeOf57 rfl rfl rfl hl15 (ha.some_ hl15)) ?_
        refine wa rfl rfl rfl (q_field_addr (i10 * 5) fld_57_0 rfl rfl (ha.some_ hl15) rfl) ?_
        obtain ⟨A23, c24, hx25⟩ := ha.verT_at i10
        refine wa rfl rfl rfl (q_lda (c := 0) (vs := [.int .i64 (gt a i10).dot.s, .int .i64 (gt a i10).dot.n]) (hx25 hl15).2 rfl Tryz.isAgg54 Tryz.sizeOf54 rfl rfl rfl) ?_
        refine wa rfl rfl rfl (q_move (v := .slice Ab b.length cb) rfl (by kernel_rfl)) ?_
        refine wa rfl rfl rfl (q_move (v := .int .i64 ((i17 : Nat) : Int)) rfl (by kernel_rfl)) ?_
        refine wa rfl rfl rfl (q_ixn (i := i17) Tryz.underlying48 Tryz.sizeOf57 rfl rfl rfl hl22 (hb.some_ hl22)) ?_
        refine wa rfl rfl rfl (q_field_addr (i17 * 5) fld_57_0 rfl rfl (hb.some_ hl22) rfl) ?_
        obtain ⟨A26, c27, hx28⟩ := hb.verT_at i17
        refine wa rfl rfl rfl (q_lda (c := 0) (vs := [.int .i64 (gt b i17).dot.s, .int .i64 (gt b i17).dot.n]) (hx28 hl22).2 rfl Tryz.isAgg54 Tryz.sizeOf54 rfl rfl rfl) ?_
        refine wa rfl rfl rfl (q_eql_Dot (a := (gt a i10).dot) (b := (gt b i17).dot) rfl rfl rfl) ?_
        refine wa rfl rfl rfl (q_move (v := .bool ((gt a i10).dot == (gt b i17).dot)) rfl (by kernel_rfl)) ?_
        refine wg1 rfl rfl rfl rfl rfl (fun hg29 => QV.qo (q_move (v := .slice Aa a.length ca) rfl (by kernel_rfl))) ?_
        refine wg1 rfl rfl rfl rfl rfl (fun hg30 => QV.qo (q_move (v := .int .i64 ((i10 : Nat) : Int)) rfl (by kernel_rfl))) ?_
        refine wg1 rfl rfl rfl rfl rfl (fun hg31 => QV.qo (q_ixn (i := i10) Tryz.underlying48 Tryz.sizeOf57 rfl (gu hg31 rfl) (gu hg31 rfl) hl15 (ha.some_ hl15))) ?_
        refine wg1 rfl rfl rfl rfl rfl (fun hg32 => QV.qo (q_lda (c := 0) (vs := [.int .i64 (gt a i10).dot.s, .int .i64 (gt a i10).dot.n, .slice A23 ((gt a i10).past).length c24, .bool (gt a i10).gone, .string (gt a i10).val]) (hx25 hl15).2 rfl Tryz.isAgg57 Tryz.sizeOf57 (gu hg32 rfl) rfl rfl)) ?_
        refine wg1 rfl rfl rfl rfl rfl (fun hg33 => QV.qo (q_move (v := .slice Ab b.length cb) rfl (by kernel_rfl))) ?_
        refine wg1 rfl rfl rfl rfl rfl (fun hg34 => QV.qo (q_move (v := .int .i64 ((i17 : Nat) : Int)) rfl (by kernel_rfl))) ?_
        refine wg1 rfl rfl rfl rfl rfl (fun hg35 => QV.qo (q_ixn (i := i17) Tryz.underlying48 Tryz.sizeOf57 rfl (gu hg35 rfl) (gu hg35 rfl) hl22 (hb.some_ hl22))) ?_
        refine wg1 rfl rfl rfl rfl rfl (fun hg36 => QV.qo (q_lda (c := 0) (vs := [.int .i64 (gt b i17).dot.s, .int .i64 (gt b i17).dot.n, .slice A26 ((gt b i17).past).length c27, .bool (gt b i17).gone, .string (gt b i17).val]) (hx28 hl22).2 rfl Tryz.isAgg57 Tryz.sizeOf57 (gu hg36 rfl) rfl rfl)) ?_
        obtain ⟨z38, hz39, h⟩ := bnd h
        refine wg1 rfl rfl rfl rfl rfl (fun hg37 => (q_call (call_run Tryz.call68 rfl rfl (args2 (gu hg37 rfl) (gu hg37 rfl))) (fun w hw => t_firthref05_SameOne (Γ := Gh.all w) (gt a i10) (Ver.fits_mono (hx25 hl15).1 hw.sat.le_all) (gt b i17) (Ver.fits_mono (hx28 hl22).1 hw.sat.le_all) (Sat.all w) (gc_of hz39 hg37)))) ?_
        refine wg1 rfl rfl rfl rfl rfl (fun hg40 => QV.qo (q_not rfl (gu hg40 rfl))) ?_
        refine wa rfl rfl rfl (q_pick rfl rfl (pk_and' (g := ((gt a i10).dot == (gt b i17).dot)) (y := (!z38)))) ?_
        refine WQ.nil ?_
        change WC _ _ _ _ _ _
        refine WC.cif h (by kernel_rfl) (fun hb41 h => ?_) (fun hb41 h => ?_)
        · skip
          refine WC.rs ?_
          refine va rfl rfl rfl (q_assign (v := .slice none 0 0) rfl (by kernel_rfl)) ?_
          refine va rfl rfl rfl (q_assign (v := .int .i64 50) rfl (by kernel_rfl)) ?_
          refine WR.nil ?_
          change WC _ _ _ _ _ _
          refine WC.ret ?_
          intro w hw
          obtain rfl := Option.some.inj h
          subst hF
          exact end_e (is := []) (by kernel_rfl) hw rfl ⟨none, 0, rfl, rfl, (Nat.zero_le 0), (Sl.nil verT _ none), (show I64 50 by decide), trivial⟩
        · skip
          refine WC.skip ?_
          change WC _ _ _ _ _ _
          refine WC.region ?_
          refine va rfl rfl rfl (q_move (v := .int .i64 ((i17 : Nat) : Int)) rfl (by kernel_rfl)) ?_
          refine va rfl rfl rfl (q_add_r (r := ((i17 + 1 : Nat) : Int)) rfl rfl rfl (ctr_len hl22 hb.le)) ?_
          refine va rfl rfl rfl (q_assign (v := .int .i64 ((i17 + 1 : Nat) : Int)) rfl (by kernel_rfl)) ?_
          refine WR.nil ?_
          intro w hw
          exact ⟨hl22, (), h, (sl_ (by kernel_rfl)), hw, trivial⟩
      · skip
        have h := hge20 (ige hb21)
        refine WC.exit ?_
        change WC _ _ _ _ _ _
        refine WC.region ?_
        refine va rfl rfl rfl (q_move (v := .int .i64 ((i10 : Nat) : Int)) rfl (by kernel_rfl)) ?_
        refine va rfl rfl rfl (q_add_r (r := ((i10 + 1 : Nat) : Int)) rfl rfl rfl (ctr_len hl15 ha.le)) ?_
        refine va rfl rfl rfl (q_assign (v := .int .i64 ((i10 + 1 : Nat) : Int)) rfl (by kernel_rfl)) ?_
        refine WR.nil ?_
        intro w hw
        exact ⟨hl15, (), h, (sl_ (by kernel_rfl)), hw, trivial⟩
    · skip
      have h := hge13 (ige hb14)
      refine WC.exit ?_
      change WC _ _ _ _ _ _
      refine WC.rs ?_
      refine va rfl rfl rfl (q_assign (v := .slice none 0 0) rfl (by kernel_rfl)) ?_
      refine WR.nil ?_
      change WC _ _ _ _ _ _
      refine WC.seq ?_
      refine WC.rs ?_
      refine va rfl rfl rfl (q_assign (v := .int .i64 0) rfl (by kernel_rfl)) ?_
      refine WR.nil ?_
      change WC _ _ _ _ _ _
      refine WC.block ?_
      refine WC.forI h (fun (i50 : Nat) (out_44 : List Ver) σ w => ∃ (Γ42 : Gh), ∃ (A45 : Option Addr), ∃ (c46 : Nat), slots σ [(0, .slice Aa a.length ca), (1, .slice Ab b.length cb), (8, .slice A45 out_44.length c46), (9, .int .i64 ((i50 : Nat) : Int))] ∧ CC F Γ42 [] w ∧ Gh.le Γ Γ42 ∧ out_44.length ≤ c46 ∧ Sl verT Γ42 A45 out_44 ∧ True) ?_ ?_
      · skip
        intro w hw
        exact ⟨Γ, none, 0, (sl_ (by kernel_rfl)), hw, (Gh.refl _), (Nat.zero_le 0), (Sl.nil verT _ none), trivial⟩
      rintro f49 i50 out_44 σ w hi51 hlt52 hge53 ⟨Γ42, A45, c46, hsl, hw, hl43, hc48, hs47, -⟩
      refine Wpt.slots hsl ?_
      refine WC.here (C := CC F Γ42 []) ?_ hw
      clear hw hsl
      refine WC.seq ?_
      refine WC.rs ?_
      refine va rfl rfl rfl (q_move (v := .int .i64 ((i50 : Nat) : Int)) rfl (by kernel_rfl)) ?_
      refine va rfl rfl rfl (q_move (v := .slice Aa a.length ca) rfl (by kernel_rfl)) ?_
      refine va rfl rfl rfl (q_len_slice rfl Tryz.underlying48 rfl) ?_
      refine va rfl rfl rfl (q_lss rfl rfl rfl) ?_
      refine WR.nil ?_
      change WC _ _ _ _ _ _
      refine WC.cond (b := (decide (((i50 : Nat) : Int) < ((a.length : Nat) : Int)))) (by kernel_rfl) (fun hb54 => ?_) (fun hb54 => ?_)
      · skip
        have hl55 := ilt hb54
        have h := hlt52 hl55
        refine WC.skip ?_
        change WC _ _ _ _ _ _
        refine WC.cut (fun σ w => ∃ (out_58 : List Ver), ∃ (Γ56 : Gh), ∃ (A59 : Option Addr), ∃ (c60 : Nat), m_firthref05_Merge_j10 f49 out_58 = some r ∧ slots σ [(0, .slice Aa a.length ca), (1, .slice Ab b.length cb), (8, .slice A59 out_58.length c60), (9, .int .i64 ((i50 : Nat) : Int))] ∧ CC F Γ56 [] w ∧ Gh.le Γ42 Γ56 ∧ out_58.length ≤ c60 ∧ Sl verT Γ56 A59 out_58 ∧ True) ?_ ?_
        · skip
          refine WC.block ?_
          refine WC.rs ?_
          refine va rfl rfl rfl (q_move (v := .slice Ab b.length cb) rfl (by kernel_rfl)) ?_
          refine va rfl rfl rfl (q_move (v := .slice Aa a.length ca) rfl (by kernel_rfl)) ?_
          refine va rfl rfl rfl (q_move (v := .int .i64 ((i50 : Nat) : Int)) rfl (by kernel_rfl)) ?_
          refine va rfl rfl rfl (q_ixn (i := i50) Tryz.underlying48 Tryz.sizeOf57 rfl rfl rfl hl55 ((ha.mono hl43).some_ hl55)) ?_
          refine va rfl rfl rfl (q_field_addr (i50 * 5) fld_57_0 rfl rfl ((ha.mono hl43).some_ hl55) rfl) ?_
          obtain ⟨A63, c64, hx65⟩ := (ha.mono hl43).verT_at i50
          refine va rfl rfl rfl (q_lda (c := 0) (vs := [.int .i64 (gt a i50).dot.s, .int .i64 (gt a i50).dot.n]) (hx65 hl55).2 rfl Tryz.isAgg54 Tryz.sizeOf54 rfl rfl rfl) ?_
          obtain ⟨z66, hz67, h⟩ := bnd h
          refine vc rfl rfl rfl (q_call (call_run Tryz.call56 rfl rfl (by kernel_rfl)) (fun w hw => t_firthref05_Behind (Γ := Gh.all w) ((hb.mono hl43).mono hw.sat.le_all) hbc ((gt a i50).dot) ⟨(hx65 hl55).1.1, (hx65 hl55).1.2.1⟩ (Sat.all w) hz67)) ?_
          refine va rfl rfl rfl (q_not rfl rfl) ?_
          refine WR.nil ?_
          change WC _ _ _ _ _ _
          refine WC.cif h (by kernel_rfl) (fun hb68 h => ?_) (fun hb68 h => ?_)
          · skip
            refine WC.region ?_
            refine va rfl rfl rfl (q_move (v := .slice A45 out_44.length c46) rfl (by kernel_rfl)) ?_
            refine va rfl rfl rfl (q_move (v := .slice Aa a.length ca) rfl (by kernel_rfl)) ?_
            refine va rfl rfl rfl (q_move (v := .int .i64 ((i50 : Nat) : Int)) rfl (by kernel_rfl)) ?_
            refine va rfl rfl rfl (q_ixn (i := i50) Tryz.underlying48 Tryz.sizeOf57 rfl rfl rfl hl55 ((ha.mono hl43).some_ hl55)) ?_
            refine va rfl rfl rfl (q_lda (c := 0) (vs := [.int .i64 (gt a i50).dot.s, .int .i64 (gt a i50).dot.n, .slice A63 ((gt a i50).past).length c64, .bool (gt a i50).gone, .string (gt a i50).val]) (hx65 hl55).2 rfl Tryz.isAgg57 Tryz.sizeOf57 rfl rfl rfl) ?_
            obtain ⟨z69, hz70, h⟩ := bnd h
            refine e_call (is := []) rfl rfl (call_run Tryz.call72 rfl rfl (by kernel_rfl)) rfl (fun w hp => t_firthref05_put hs47 hc48 (gt a i50) (hx65 hl55).1 hp hz70) ?_
            rintro Γ71 U73 v74 hl72 ⟨A75, c76, rfl, rfl, hc78, hr77, _⟩
            change WR _ _ _ (CC F Γ71 []) _ _ (upd _ 73 (.slice A75 z69.length c76))
            refine va rfl rfl rfl (q_assign (v := .slice A75 z69.length c76) rfl (by kernel_rfl)) ?_
            refine WR.nil ?_
            intro w hw
            exact ⟨z69, Γ71, A75, c76, h, (sl_ (by kernel_rfl)), hw, hl72, hc78, hr77, trivial⟩
          · skip
            refine WC.skip ?_
            intro w hw
            exact ⟨out_44, Γ42, A45, c46, h, (sl_ (by kernel_rfl)), hw, (Gh.refl _), hc48, hs47, trivial⟩
        · skip
          rintro σ w ⟨out_58, Γ56, A59, c60, h, hsl, hw, hl57, hc62, hs61, -⟩
          refine Wpt.slots hsl ?_
          refine WC.here (C := CC F Γ56 []) ?_ hw
          clear hw hsl
          refine WC.region ?_
          refine va rfl rfl rfl (q_move (v := .int .i64 ((i50 : Nat) : Int)) rfl (by kernel_rfl)) ?_
          refine va rfl rfl rfl (q_add_r (r := ((i50 + 1 : Nat) : Int)) rfl rfl rfl (ctr_len hl55 (ha.mono hl43).le)) ?_
          refine va rfl rfl rfl (q_assign (v := .int .i64 ((i50 + 1 : Nat) : Int)) rfl (by kernel_rfl)) ?_
          refine WR.nil ?_
          intro w hw
          exact ⟨hl55, out_58, h, Γ56, A59, c60, (sl_ (by kernel_rfl)), hw, (hl43.trans hl57), hc62, hs61, trivial⟩
      · skip
        have h := hge53 (ige hb54)
        refine WC.exit ?_
        change WC _ _ _ _ _ _
        refine WC.seq ?_
        refine WC.rs ?_
        refine va rfl rfl rfl (q_assign (v := .int .i64 0) rfl (by kernel_rfl)) ?_
        refine WR.nil ?_
        change WC _ _ _ _ _ _
        refine WC.block ?_
        refine WC.forI h (fun (i87 : Nat) (out_81 : List Ver) σ w => ∃ (Γ79 : Gh), ∃ (A82 : Option Addr), ∃ (c83 : Nat), slots σ [(0, .slice Aa a.length ca), (1, .slice Ab b.length cb), (8, .slice A82 out_81.length c83), (10, .int .i64 ((i87 : Nat) : Int))] ∧ CC F Γ79 [] w ∧ Gh.le Γ42 Γ79 ∧ out_81.length ≤ c83 ∧ Sl verT Γ79 A82 out_81 ∧ True) ?_ ?_
        · skip
          intro w hw
          exact ⟨Γ42, A45, c46, (sl_ (by kernel_rfl)), hw, (Gh.refl _), hc48, hs47, trivial⟩
        rintro f86 i87 out_81 σ w hi88 hlt89 hge90 ⟨Γ79, A82, c83, hsl, hw, hl80, hc85, hs84, -⟩
        refine Wpt.slots hsl ?_
        refine WC.here (C := CC F Γ79 []) ?_ hw
        clear hw hsl
        refine WC.seq ?_
        refine WC.rs ?_
        refine va rfl rfl rfl (q_move (v := .int .i64 ((i87 : Nat) : Int)) rfl (by kernel_rfl)) ?_
        refine va rfl rfl rfl (q_move (v := .slice Ab b.length cb) rfl (by kernel_rfl)) ?_
        refine va rfl rfl rfl (q_len_slice rfl Tryz.underlying48 rfl) ?_
        refine va rfl rfl rfl (q_lss rfl rfl rfl) ?_
        refine WR.nil ?_
        change WC _ _ _ _ _ _
        refine WC.cond (b := (decide (((i87 : Nat) : Int) < ((b.length : Nat) : Int)))) (by kernel_rfl) (fun hb91 => ?_) (fun hb91 => ?_)
        · skip
          have hl92 := ilt hb91
          have h := hlt89 hl92
          refine WC.skip ?_
          change WC _ _ _ _ _ _
          refine WC.cut (fun σ w => ∃ (out_95 : List Ver), ∃ (Γ93 : Gh), ∃ (A96 : Option Addr), ∃ (c97 : Nat), m_firthref05_Merge_j15 f86 out_95 = some r ∧ slots σ [(0, .slice Aa a.length ca), (1, .slice Ab b.length cb), (8, .slice A96 out_95.length c97), (10, .int .i64 ((i87 : Nat) : Int))] ∧ CC F Γ93 [] w ∧ Gh.le Γ79 Γ93 ∧ out_95.length ≤ c97 ∧ Sl verT Γ93 A96 out_95 ∧ True) ?_ ?_
          · skip
            refine WC.block ?_
            refine WC.rs ?_
            refine va rfl rfl rfl (q_move (v := .slice Aa a.length ca) rfl (by kernel_rfl)) ?_
            refine va rfl rfl rfl (q_move (v := .slice Ab b.length cb) rfl (by kernel_rfl)) ?_
            refine va rfl rfl rfl (q_move (v := .int .i64 ((i87 : Nat) : Int)) rfl (by kernel_rfl)) ?_
            refine va rfl rfl rfl (q_ixn (i := i87) Tryz.underlying48 Tryz.sizeOf57 rfl rfl rfl hl92 ((hb.mono (hl43.trans hl80)).some_ hl92)) ?_
            refine va rfl rfl rfl (q_field_addr (i87 * 5) fld_57_0 rfl rfl ((hb.mono (hl43.trans hl80)).some_ hl92) rfl) ?_
            obtain ⟨A100, c101, hx102⟩ := (hb.mono (hl43.trans hl80)).verT_at i87
            refine va rfl rfl rfl (q_lda (c := 0) (vs := [.int .i64 (gt b i87).dot.s, .int .i64 (gt b i87).dot.n]) (hx102 hl92).2 rfl Tryz.isAgg54 Tryz.sizeOf54 rfl rfl rfl) ?_
            obtain ⟨z103, hz104, h⟩ := bnd h
            refine vc rfl rfl rfl (q_call (call_run Tryz.call56 rfl rfl (by kernel_rfl)) (fun w hw => t_firthref05_Behind (Γ := Gh.all w) ((ha.mono (hl43.trans hl80)).mono hw.sat.le_all) hac ((gt b i87).dot) ⟨(hx102 hl92).1.1, (hx102 hl92).1.2.1⟩ (Sat.all w) hz104)) ?_
            refine va rfl rfl rfl (q_not rfl rfl) ?_
            refine WR.nil ?_
            change WC _ _ _ _ _ _
            refine WC.cif h (by kernel_rfl) (fun hb105 h => ?_) (fun hb105 h => ?_)
            · skip
              refine WC.region ?_
              refine va rfl rfl rfl (q_move (v := .slice A82 out_81.length c83) rfl (by kernel_rfl)) ?_
              refine va rfl rfl rfl (q_move (v := .slice Ab b.length cb) rfl (by kernel_rfl)) ?_
              refine va rfl rfl rfl (q_move (v := .int .i64 ((i87 : Nat) : Int)) rfl (by kernel_rfl)) ?_
              refine va rfl rfl rfl (q_ixn (i := i87) Tryz.underlying48 Tryz.sizeOf57 rfl rfl rfl hl92 ((hb.mono (hl43.trans hl80)).some_ hl92)) ?_
              refine va rfl rfl rfl (q_lda (c := 0) (vs := [.int .i64 (gt b i87).dot.s, .int .i64 (gt b i87).dot.n, .slice A100 ((gt b i87).past).length c101, .bool (gt b i87).gone, .string (gt b i87).val]) (hx102 hl92).2 rfl Tryz.isAgg57 Tryz.sizeOf57 rfl rfl rfl) ?_
              obtain ⟨z106, hz107, h⟩ := bnd h
              refine e_call (is := []) rfl rfl (call_run Tryz.call72 rfl rfl (by kernel_rfl)) rfl (fun w hp => t_firthref05_put hs84 hc85 (gt b i87) (hx102 hl92).1 hp hz107) ?_
              rintro Γ108 U110 v111 hl109 ⟨A112, c113, rfl, rfl, hc115, hr114, _⟩
              change WR _ _ _ (CC F Γ108 []) _ _ (upd _ 93 (.slice A112 z106.length c113))
              refine va rfl rfl rfl (q_assign (v := .slice A112 z106.length c113) rfl (by kernel_rfl)) ?_
              refine WR.nil ?_
              intro w hw
              exact ⟨z106, Γ108, A112, c113, h, (sl_ (by kernel_rfl)), hw, hl109, hc115, hr114, trivial⟩
            · skip
              refine WC.skip ?_
              intro w hw
              exact ⟨out_81, Γ79, A82, c83, h, (sl_ (by kernel_rfl)), hw, (Gh.refl _), hc85, hs84, trivial⟩
          · skip
            rintro σ w ⟨out_95, Γ93, A96, c97, h, hsl, hw, hl94, hc99, hs98, -⟩
            refine Wpt.slots hsl ?_
            refine WC.here (C := CC F Γ93 []) ?_ hw
            clear hw hsl
            refine WC.region ?_
            refine va rfl rfl rfl (q_move (v := .int .i64 ((i87 : Nat) : Int)) rfl (by kernel_rfl)) ?_
            refine va rfl rfl rfl (q_add_r (r := ((i87 + 1 : Nat) : Int)) rfl rfl rfl (ctr_len hl92 (hb.mono (hl43.trans hl80)).le)) ?_
            refine va rfl rfl rfl (q_assign (v := .int .i64 ((i87 + 1 : Nat) : Int)) rfl (by kernel_rfl)) ?_
            refine WR.nil ?_
            intro w hw
            exact ⟨hl92, out_95, h, Γ93, A96, c97, (sl_ (by kernel_rfl)), hw, (hl80.trans hl94), hc99, hs98, trivial⟩
        · skip
          have h := hge90 (ige hb91)
          refine WC.exit ?_
          change WC _ _ _ _ _ _
          refine WC.seq ?_
          refine WC.rs ?_
          refine va rfl rfl rfl (q_move (v := .slice A82 out_81.length c83) rfl (by kernel_rfl)) ?_
          refine va rfl rfl rfl (q_len_slice rfl Tryz.underlying48 rfl) ?_
          refine va rfl rfl rfl (q_gtr rfl rfl rfl) ?_
          refine WR.nil ?_
          change WC _ _ _ _ _ _
          refine WC.cif h (by kernel_rfl) (fun hb116 h => ?_) (fun hb116 h => ?_)
          · skip
            refine WC.rs ?_
            refine va rfl rfl rfl (q_assign (v := .slice none 0 0) rfl (by kernel_rfl)) ?_
            refine va rfl rfl rfl (q_assign (v := .int .i64 3) rfl (by kernel_rfl)) ?_
            refine WR.nil ?_
            change WC _ _ _ _ _ _
            refine WC.ret ?_
            intro w hw
            obtain rfl := Option.some.inj h
            subst hF
            exact end_e (is := []) (by kernel_rfl) hw rfl ⟨none, 0, rfl, rfl, (Nat.zero_le 0), (Sl.nil verT _ none), (show I64 3 by decide), trivial⟩
          · skip
            refine WC.skip ?_
            change WC _ _ _ _ _ _
            refine WC.rs ?_
            refine va rfl rfl rfl (q_move (v := .slice A82 out_81.length c83) rfl (by kernel_rfl)) ?_
            refine va rfl rfl rfl (q_assign (v := .slice A82 out_81.length c83) rfl (by kernel_rfl)) ?_
            refine va rfl rfl rfl (q_assign (v := .int .i64 0) rfl (by kernel_rfl)) ?_
            refine WR.nil ?_
            change WC _ _ _ _ _ _
            refine WC.ret ?_
            intro w hw
            obtain rfl := Option.some.inj h
            subst hF
            exact end_e (is := []) (by kernel_rfl) hw rfl ⟨A82, c83, rfl, rfl, hc85, hs84, (show I64 0 by decide), trivial⟩
abbrev r_firthref10_Own (r : Rec) (U : List Rowb) (Γ : Gh) (v : Value) : Prop := ∃ (A0_1 : Option Addr), ∃ (c0_1 : Nat), v = .agg #[.string r.key, .slice A0_1 r.vers.length c0_1] ∧ U = [] ∧ Rec.fits Γ A0_1 c0_1 r ∧ True
set_option maxRecDepth 100000 in
set_option maxHeartbeats 400000 in
theorem t_firthref10_Own {Γ : Gh} {w0 : World} {Ar_1 : Option Addr} {cr_1 : Nat} (r_ : Rec) (hr_ : Rec.fits Γ Ar_1 cr_1 r_) (hp : Pre [] Γ w0) {r : Rec} (h : m_firthref10_Own r_ = some r) : Calls Tryz.prog 28 #[.agg #[.string r_.key, .slice Ar_1 r_.vers.length cr_1]] w0 (Outc Γ [] w0 (r_firthref10_Own r)) := by
  refine calls_of_r (N := 35) (rs := [.cell 2 51]) (args := [.agg #[.string r_.key, .slice Ar_1 r_.vers.length cr_1]]) Tryz.func28 rfl Tryz.ntmps28 Tryz.results28 rfl ?_
  obtain ⟨F, hF⟩ : ∃ F : Fm, F = ⟨ids [], w0, Γ⟩ := ⟨_, rfl⟩
  refine WC.here (C := CC F Γ []) ?_ (hF ▸ hp.start)
  refine WC.rs ?_
  refine e_box (v := .agg #[.string r_.key, .slice Ar_1 r_.vers.length cr_1]) rfl rfl rfl rfl (by kernel_rfl) ?_
  intro g1
  refine e_alloc Tryz.zeroValue51 rfl rfl rfl rfl ?_
  intro g2
  refine WR.nil ?_
  change WC _ _ _ _ _ _
  refine WC.rs ?_
  refine va rfl rfl rfl (q_fl 0 fld_51_0 rfl rfl rfl) ?_
  refine va rfl rfl rfl (q_ldl (i := 1) (v := .string r_.key) rfl rfl Tryz.isAgg9 rfl rfl) ?_
  refine va rfl rfl rfl (q_build' (v := .agg #[.string r_.key, .slice none 0 0]) rfl (bargs1 rfl) (fun w => by kernel_rfl)) ?_
  refine e_alloc Tryz.zeroValue51 rfl rfl rfl rfl ?_
  intro g3
  refine e_st (i := 0) (v := .agg #[.string r_.key, .slice none 0 0]) (new := #[.string r_.key, .slice none 0 0]) rfl Tryz.sizeOf51 rfl rfl rfl rfl (by kernel_rfl) rfl rfl rfl rfl ?_
  refine WR.nil ?_
  change WC _ _ _ _ _ _
  refine WC.seq ?_
  refine WC.rs ?_
  refine va rfl rfl rfl (q_assign (v := .int .i64 0) rfl (by kernel_rfl)) ?_
  refine WR.nil ?_
  change WC _ _ _ _ _ _
  refine WC.block ?_
  refine WC.forI h (fun (i12 : Nat) (x6 : List Ver) σ w => ∃ (Γ4 : Gh), ∃ (A7 : Option Addr), ∃ (c8 : Nat), ∃ (row9 : Rowb), slots σ [(1, .pointer (some ⟨g1, 0, none⟩)), (2, .pointer (some ⟨g2, 0, none⟩)), (3, .pointer (some ⟨g3, 0, none⟩)), (4, .int .i64 ((i12 : Nat) : Int))] ∧ CC F Γ4 [row9, [(g3, .cells #[.string r_.key, .slice A7 x6.length c8] 51 (0, 0))], [(g2, .cells #[.string ByteArray.empty, .slice none 0 0] 51 (0, 0))], [(g1, .cells #[.string r_.key, .slice Ar_1 r_.vers.length cr_1] 51 (0, 0))]] w ∧ Gh.le Γ Γ4 ∧ Own verT Γ4 57 row9 A7 c8 x6 ∧ True) ?_ ?_
  · skip
    intro w hw
    have hw := hw.pad
    exact ⟨Γ, none, 0, [], (sl_ (by kernel_rfl)), hw, (Gh.refl _), (Own.nil verT _ 57), trivial⟩
  rintro f11 i12 x6 σ w hi13 hlt14 hge15 ⟨Γ4, A7, c8, row9, hsl, hw, hl5, ho10, -⟩
  refine Wpt.slots hsl ?_
  refine WC.here (C := CC F Γ4 [row9, [(g3, .cells #[.string r_.key, .slice A7 x6.length c8] 51 (0, 0))], [(g2, .cells #[.string ByteArray.empty, .slice none 0 0] 51 (0, 0))], [(g1, .cells #[.string r_.key, .slice Ar_1 r_.vers.length cr_1] 51 (0, 0))]]) ?_ hw
  clear hw hsl
  refine WC.seq ?_
  refine WC.rs ?_
  refine va rfl rfl rfl (q_move (v := .int .i64 ((i12 : Nat) : Int)) rfl (by kernel_rfl)) ?_
  refine va rfl rfl rfl (q_fl 1 fld_51_1 rfl rfl rfl) ?_
  refine va rfl rfl rfl (q_ldl (i := 3) (v := .slice Ar_1 r_.vers.length cr_1) rfl rfl Tryz.isAgg48 rfl rfl) ?_
  refine va rfl rfl rfl (q_len_slice rfl Tryz.underlying48 rfl) ?_
  refine va rfl rfl rfl (q_lss rfl rfl rfl) ?_
  refine WR.nil ?_
  change WC _ _ _ _ _ _
  refine WC.cond (b := (decide (((i12 : Nat) : Int) < ((r_.vers.length : Nat) : Int)))) (by kernel_rfl) (fun hb16 => ?_) (fun hb16 => ?_)
  · skip
    have hl17 := ilt hb16
    have h := hlt14 hl17
    refine WC.skip ?_
    change WC _ _ _ _ _ _
    refine WC.seq ?_
    refine WC.block ?_
    refine WC.rs ?_
    refine va rfl rfl rfl (q_fl 1 fld_51_1 rfl rfl rfl) ?_
    refine va rfl rfl rfl (q_ldl (i := 3) (v := .slice Ar_1 r_.vers.length cr_1) rfl rfl Tryz.isAgg48 rfl rfl) ?_
    refine va rfl rfl rfl (q_move (v := .int .i64 ((i12 : Nat) : Int)) rfl (by kernel_rfl)) ?_
    refine va rfl rfl rfl (q_ixn (i := i12) Tryz.underlying48 Tryz.sizeOf57 rfl rfl rfl hl17 ((hr_.2.2.mono hl5).some_ hl17)) ?_
    obtain ⟨A18, c19, hx20⟩ := (hr_.2.2.mono hl5).verT_at i12
    refine va rfl rfl rfl (q_lda (c := 0) (vs := [.int .i64 (gt r_.vers i12).dot.s, .int .i64 (gt r_.vers i12).dot.n, .slice A18 ((gt r_.vers i12).past).length c19, .bool (gt r_.vers i12).gone, .string (gt r_.vers i12).val]) (hx20 hl17).2 rfl Tryz.isAgg57 Tryz.sizeOf57 rfl rfl rfl) ?_
    refine e_alloc Tryz.zeroValue57 rfl rfl rfl rfl ?_
    intro g21
    refine e_st (i := 0) (v := .agg #[.int .i64 (gt r_.vers i12).dot.s, .int .i64 (gt r_.vers i12).dot.n, .slice A18 ((gt r_.vers i12).past).length c19, .bool (gt r_.vers i12).gone, .string (gt r_.vers i12).val]) (new := #[.int .i64 (gt r_.vers i12).dot.s, .int .i64 (gt r_.vers i12).dot.n, .slice A18 ((gt r_.vers i12).past).length c19, .bool (gt r_.vers i12).gone, .string (gt r_.vers i12).val]) rfl Tryz.sizeOf57 rfl rfl rfl rfl (by kernel_rfl) rfl rfl rfl rfl ?_
    refine WR.nil ?_
    change WC _ _ _ _ _ _
    refine WC.rs ?_
    refine va rfl rfl rfl (q_assign (v := .slice none 0 0) rfl (by kernel_rfl)) ?_
    refine WR.nil ?_
    change WC _ _ _ _ _ _
    refine WC.rs ?_
    refine va rfl rfl rfl (q_move (v := .slice none 0 0) rfl (by kernel_rfl)) ?_
    refine va rfl rfl rfl (q_fl 2 fld_57_1 rfl rfl rfl) ?_
    refine va rfl rfl rfl (q_ldl (i := 0) (v := .slice A18 ((gt r_.vers i12).past).length c19) rfl rfl Tryz.isAgg55 rfl rfl) ?_
    refine WR.sub (fun w hw => hw.pad) ?_
    obtain ⟨hk22, h⟩ := chk_some h
    refine e_append (T := spanT) (xs := []) (ys := (gt r_.vers i12).past) elem_55 (i := 0) rfl rfl rfl rfl (by kernel_rfl) rfl rfl (Own.nil spanT Γ4 59) (of_decide_eq_true hk22) (fun w hw => src_sl (hx20 hl17).1.2.2.1.2 hw) ?_
    intro row23 A24 c25 ho26
    refine va rfl rfl rfl (q_assign (v := .slice A24 (gt r_.vers i12).past.length c25) rfl (by kernel_rfl)) ?_
    refine WR.nil ?_
    change WC _ _ _ _ _ _
    refine WC.rs ?_
    refine va rfl rfl rfl (q_move (v := .slice A24 (gt r_.vers i12).past.length c25) rfl (by kernel_rfl)) ?_
    refine va rfl rfl rfl (q_fl 2 fld_57_1 rfl rfl rfl) ?_
    refine e_st (i := 1) (v := .slice A24 (gt r_.vers i12).past.length c25) (new := #[.int .i64 (gt r_.vers i12).dot.s, .int .i64 (gt r_.vers i12).dot.n, .slice A24 (gt r_.vers i12).past.length c25, .bool (gt r_.vers i12).gone, .string (gt r_.vers i12).val]) rfl Tryz.sizeOf55 rfl rfl rfl rfl (by kernel_rfl) rfl rfl rfl rfl ?_
    refine WR.nil ?_
    change WC _ _ _ _ _ _
    refine WC.region ?_
    refine va rfl rfl rfl (q_fl 1 fld_51_1 rfl rfl rfl) ?_
    refine va rfl rfl rfl (q_ldl (i := 3) (v := .slice A7 x6.length c8) rfl rfl Tryz.isAgg48 rfl rfl) ?_
    refine va rfl rfl rfl (q_ldla (i := 1) (vs := [.int .i64 (gt r_.vers i12).dot.s, .int .i64 (gt r_.vers i12).dot.n, .slice A24 (gt r_.vers i12).past.length c25, .bool (gt r_.vers i12).gone, .string (gt r_.vers i12).val]) rfl rfl Tryz.isAgg57 Tryz.sizeOf57 rfl rfl) ?_
    have hc31 := ho26.capz
    intro w hw; obtain ⟨Γ27, hw, hl28, hr29⟩ := hw.seal (i := 0) rfl; have hs30 := ho26.sl hl28 hr29
    refine WR.here (C := CC F Γ27 [[], [(g21, .cells #[.int .i64 (gt r_.vers i12).dot.s, .int .i64 (gt r_.vers i12).dot.n, .slice A24 ((gt r_.vers i12).past).length c25, .bool (gt r_.vers i12).gone, .string (gt r_.vers i12).val] 57 (0, 0))], row9, [(g3, .cells #[.string r_.key, .slice A7 x6.length c8] 51 (0, 0))], [(g2, .cells #[.string ByteArray.empty, .slice none 0 0] 51 (0, 0))], [(g1, .cells #[.string r_.key, .slice Ar_1 r_.vers.length cr_1] 51 (0, 0))]]) ?_ hw
    clear hw
    refine e_buildSlice (cs := #[.int .i64 (gt r_.vers i12).dot.s, .int .i64 (gt r_.vers i12).dot.n, .slice A24 ((gt r_.vers i12).past).length c25, .bool (gt r_.vers i12).gone, .string (gt r_.vers i12).val]) (e := 57) rfl rfl rfl rfl (fun w => by kernel_rfl) ?_
    intro g32
    obtain ⟨hk33, h⟩ := chk_some h
    refine e_append (T := verT) (xs := x6) (ys := [(gt r_.vers i12)]) elem_48 (i := 3) rfl rfl rfl rfl rfl rfl rfl (ho10.mono hl28) (of_decide_eq_true hk33) (fun w hw => src_one (T := verT) (y := (gt r_.vers i12)) (i := 0) rfl (by exact ⟨A24, c25, rfl, ⟨(hx20 hl17).1.1, (hx20 hl17).1.2.1, ⟨hc31, hs30⟩, (hx20 hl17).1.2.2.2⟩⟩) hw) ?_
    intro row34 A35 c36 ho37
    refine va rfl rfl rfl (q_fl 1 fld_51_1 rfl rfl rfl) ?_
    refine e_st (i := 4) (v := .slice A35 (x6 ++ [(gt r_.vers i12)]).length c36) (new := #[.string r_.key, .slice A35 (x6 ++ [(gt r_.vers i12)]).length c36]) rfl Tryz.sizeOf48 rfl rfl rfl rfl (by kernel_rfl) rfl rfl rfl rfl ?_
    refine WR.nil ?_
    change WC _ _ _ _ _ _
    refine WC.region ?_
    refine va rfl rfl rfl (q_move (v := .int .i64 ((i12 : Nat) : Int)) rfl (by kernel_rfl)) ?_
    refine va rfl rfl rfl (q_add_r (r := ((i12 + 1 : Nat) : Int)) rfl rfl rfl (ctr_len hl17 (hr_.2.2.mono hl5).le)) ?_
    refine va rfl rfl rfl (q_assign (v := .int .i64 ((i12 + 1 : Nat) : Int)) rfl (by kernel_rfl)) ?_
    refine WR.nil ?_
    intro w hw
    exact ⟨hl17, (x6 ++ [(gt r_.vers i12)]), h, Γ27, A35, c36, row34, (sl_ (by kernel_rfl)), (hw.only (is := [3, 3, 3, 3]) rfl), (hl5.trans hl28), ho37, trivial⟩
  · skip
    have h := hge15 (ige hb16)
    refine WC.exit ?_
    change WC _ _ _ _ _ _
    refine WC.rs ?_
    refine va rfl rfl rfl (q_ldla (i := 1) (vs := [.string r_.key, .slice A7 x6.length c8]) rfl rfl Tryz.isAgg51 Tryz.sizeOf51 rfl rfl) ?_
    refine e_st (i := 2) (v := .agg #[.string r_.key, .slice A7 x6.length c8]) (new := #[.string r_.key, .slice A7 x6.length c8]) rfl Tryz.sizeOf51 rfl rfl rfl rfl (by kernel_rfl) rfl rfl rfl rfl ?_
    refine WR.nil ?_
    change WC _ _ _ _ _ _
    refine WC.ret ?_
    intro w hw
    have hc42 := ho10.capz
    obtain ⟨Γ38, hw, hl39, hr40⟩ := hw.seal (i := 0) rfl; have hs41 := ho10.sl hl39 hr40
    obtain rfl := Option.some.inj h
    subst hF
    exact ⟨[.agg #[.string r_.key, .slice A7 x6.length c8]], (rr_agg (i := 2) (us := [.string r_.key, .slice A7 x6.length c8]) hw rfl Tryz.isAgg51 Tryz.sizeOf51 (by kernel_rfl) rfl rr_nil), end_e (is := []) (by kernel_rfl) hw rfl ⟨A7, c8, rfl, rfl, ⟨hr_.1, ⟨hc42, hs41⟩⟩, trivial⟩⟩
abbrev r_vers_clone_api_Span_l1 (r : List Span) (U : List Rowb) (Γ : Gh) (v : Value) : Prop := ∃ (A0 : Option Addr), ∃ (c0 : Nat), ∃ (row0 : Rowb), v = .slice A0 r.length c0 ∧ U = [row0] ∧ Own spanT Γ 59 row0 A0 c0 r ∧ True
set_option maxRecDepth 100000 in
set_option maxHeartbeats 400000 in
theorem t_vers_clone_api_Span_l1 {Γ : Gh} {w0 : World} {B : Gh} {Al : Option Addr} {cl : Nat} {l : List Span} (hl : Sl spanT B Al l) (hlc : l.length ≤ cl) (hp : Pre [] Γ w0) (hpB : Pre [] B w0) {r : List Span} (h : m_vers_clone_api_Span l = some r) : Calls Tryz.prog 76 #[.slice Al l.length cl] w0 (Outc Γ [] w0 (r_vers_clone_api_Span_l1 r)) := by
  refine calls_of (N := 5) (rs := [2]) (args := [.slice Al l.length cl]) Tryz.func76 rfl Tryz.ntmps76 Tryz.results76 rfl ?_
  obtain ⟨F, hF⟩ : ∃ F : Fm, F = ⟨ids [], w0, Γ⟩ := ⟨_, rfl⟩
  refine WC.here (C := CC F Γ []) ?_ (hF ▸ hp.start)
  have hB : Lent F B := hF ▸ Lent.start hpB
  refine WC.rs ?_
  refine va rfl rfl rfl (q_assign (v := .slice none 0 0) rfl (by kernel_rfl)) ?_
  refine WR.nil ?_
  change WC _ _ _ _ _ _
  refine WC.rs ?_
  refine va rfl rfl rfl (q_move (v := .slice Al l.length cl) rfl (by kernel_rfl)) ?_
  refine WR.sub (fun w hw => hw.pad) ?_
  obtain ⟨hk1, h⟩ := chk_some h
  refine e_append (T := spanT) (xs := []) (ys := l) elem_55 (i := 0) rfl rfl rfl rfl (by kernel_rfl) rfl rfl (Own.nil spanT Γ 59) (of_decide_eq_true hk1) (fun w hw => src_slS (Γ := Γ) (fun w hw => hB.sat hw) (fun _ _ h => h) hl hw) ?_
  intro row2 A3 c4 ho5
  refine va rfl rfl rfl (q_assign (v := .slice A3 l.length c4) rfl (by kernel_rfl)) ?_
  refine WR.nil ?_
  change WC _ _ _ _ _ _
  refine WC.ret ?_
  intro w hw
  obtain rfl := Option.some.inj h
  subst hF
  exact end_e (is := [0]) (by kernel_rfl) hw rfl ⟨A3, c4, row2, rfl, rfl, ho5, trivial⟩
set_option maxRecDepth 100000 in
set_option maxHeartbeats 400000 in
theorem t_vers_Merge_1_x {Γ : Gh} {w0 : World} {B : Gh} {Av_2 : Option Addr} {cv_2 : Nat} (v_ : Ver) (hv_ : Ver.fits B Av_2 cv_2 v_) {gb0 : Nat} {Ab0v : Option Addr} {cb0v : Nat} {b0v : List Ver} (hb0v : Sl verT B Ab0v b0v) (hb0vc : b0v.length ≤ cb0v) {gb1 : Nat} {Ab1v : Option Addr} {cb1v : Nat} {b1v : List Ver} (hb1v : Sl verT B Ab1v b1v) (hb1vc : b1v.length ≤ cb1v) {gb2 : Nat} {Ab2v : Option Addr} {cb2v : Nat} {rowb2v : Rowb} {b2v : List Ver} (hb2v : Own verT Γ 57 rowb2v Ab2v cb2v b2v) (hp : Pre [[(gb0, .cells #[.slice Ab0v b0v.length cb0v] 48 (0, 0))], [(gb1, .cells #[.slice Ab1v b1v.length cb1v] 48 (0, 0))], [(gb2, .cells #[.slice Ab2v b2v.length cb2v] 48 (0, 0))], rowb2v] Γ w0) (hpB : Pre [[(gb0, .cells #[.slice Ab0v b0v.length cb0v] 48 (0, 0))], [(gb1, .cells #[.slice Ab1v b1v.length cb1v] 48 (0, 0))], [(gb2, .cells #[.slice Ab2v b2v.length cb2v] 48 (0, 0))], rowb2v] B w0) {r : List Ver} (h : m_vers_Merge_1 v_ b0v b1v b2v = some r) : Calls Tryz.prog 74 #[.agg #[.int .i64 v_.dot.s, .int .i64 v_.dot.n, .slice Av_2 v_.past.length cv_2, .bool v_.gone, .string v_.val], .pointer (some ⟨gb0, 0, none⟩), .pointer (some ⟨gb1, 0, none⟩), .pointer (some ⟨gb2, 0, none⟩)] w0 (Outc Γ [[(gb0, .cells #[.slice Ab0v b0v.length cb0v] 48 (0, 0))], [(gb1, .cells #[.slice Ab1v b1v.length cb1v] 48 (0, 0))], [(gb2, .cells #[.slice Ab2v b2v.length cb2v] 48 (0, 0))], rowb2v] w0 (r_vers_Merge_1 gb0 Ab0v cb0v b0v gb1 Ab1v cb1v b1v gb2 Ab2v cb2v b2v rowb2v r)) := by
  refine calls_of (N := 25) (rs := []) (args := [.agg #[.int .i64 v_.dot.s, .int .i64 v_.dot.n, .slice Av_2 v_.past.length cv_2, .bool v_.gone, .string v_.val], .pointer (some ⟨gb0, 0, none⟩), .pointer (some ⟨gb1, 0, none⟩), .pointer (some ⟨gb2, 0, none⟩)]) Tryz.func74 rfl Tryz.ntmps74 Tryz.results74 rfl ?_
  obtain ⟨F, hF⟩ : ∃ F : Fm, F = ⟨ids [[(gb0, .cells #[.slice Ab0v b0v.length cb0v] 48 (0, 0))], [(gb1, .cells #[.slice Ab1v b1v.length cb1v] 48 (0, 0))], [(gb2, .cells #[.slice Ab2v b2v.length cb2v] 48 (0, 0))], rowb2v], w0, Γ⟩ := ⟨_, rfl⟩
  refine WC.here (C := CC F Γ [[(gb0, .cells #[.slice Ab0v b0v.length cb0v] 48 (0, 0))], [(gb1, .cells #[.slice Ab1v b1v.length cb1v] 48 (0, 0))], [(gb2, .cells #[.slice Ab2v b2v.length cb2v] 48 (0, 0))], rowb2v]) ?_ (hF ▸ hp.start)
  have hB : Lent F B := hF ▸ Lent.start hpB
  refine WC.rs ?_
  refine e_box (v := .agg #[.int .i64 v_.dot.s, .int .i64 v_.dot.n, .slice Av_2 v_.past.length cv_2, .bool v_.gone, .string v_.val]) rfl rfl rfl rfl (by kernel_rfl) ?_
  intro g1
  refine WR.nil ?_
  change WC _ _ _ _ _ _
  refine WC.rs ?_
  refine va rfl rfl rfl (q_fl 0 fld_57_0 rfl rfl rfl) ?_
  refine va rfl rfl rfl (q_ldla (i := 0) (vs := [.int .i64 v_.dot.s, .int .i64 v_.dot.n]) rfl rfl Tryz.isAgg54 Tryz.sizeOf54 rfl rfl) ?_
  refine va rfl rfl rfl (q_ldl (i := 1) (v := .slice Ab0v b0v.length cb0v) rfl rfl Tryz.isAgg48 rfl rfl) ?_
  obtain ⟨z2, hz3, h⟩ := bnd h
  refine vc rfl rfl rfl (q_call (call_run Tryz.call75 rfl rfl (by kernel_rfl)) (fun w hw => t_vers_behind (Γ := Gh.all w) v_.dot ⟨hv_.1, hv_.2.1⟩ (hb0v.mono (hB.sat hw).le_all) hb0vc (Sat.all w) hz3)) ?_
  refine va rfl rfl rfl (q_not rfl rfl) ?_
  refine va rfl rfl rfl (q_move (v := .bool (!z2)) rfl (by kernel_rfl)) ?_
  refine vg1 rfl rfl rfl rfl rfl (fun hg4 => QV.qo (q_fl 0 fld_57_0 rfl rfl rfl)) ?_
  refine vg1 rfl rfl rfl rfl rfl (fun hg5 => QV.qo (q_ldla (i := 0) (vs := [.int .i64 v_.dot.s, .int .i64 v_.dot.n]) rfl rfl Tryz.isAgg54 Tryz.sizeOf54 (gu hg5 rfl) rfl)) ?_
  refine vg1 rfl rfl rfl rfl rfl (fun hg6 => QV.qo (q_ldl (i := 2) (v := .slice Ab1v b1v.length cb1v) rfl rfl Tryz.isAgg48 rfl rfl)) ?_
  obtain ⟨z8, hz9, h⟩ := bnd h
  refine vg1 rfl rfl rfl rfl rfl (fun hg7 => (q_call (call_run Tryz.call75 rfl rfl (args2 (gu hg7 rfl) (gu hg7 rfl))) (fun w hw => t_vers_behind (Γ := Gh.all w) v_.dot ⟨hv_.1, hv_.2.1⟩ (hb1v.mono (hB.sat hw).le_all) hb1vc (Sat.all w) (gc_of hz9 hg7)))) ?_
  refine vg1 rfl rfl rfl rfl rfl (fun hg10 => QV.qo (q_not rfl (gu hg10 rfl))) ?_
  refine va rfl rfl rfl (q_pick rfl rfl (pk_and' (g := (!z2)) (y := (!z8)))) ?_
  refine WR.nil ?_
  change WC _ _ _ _ _ _
  refine WC.cif h (by kernel_rfl) (fun hb11 h => ?_) (fun hb11 h => ?_)
  · skip
    refine WC.rs ?_
    refine va rfl rfl rfl (q_fl 2 fld_57_1 rfl rfl rfl) ?_
    refine va rfl rfl rfl (q_ldl (i := 0) (v := .slice Av_2 v_.past.length cv_2) rfl rfl Tryz.isAgg55 rfl rfl) ?_
    obtain ⟨z12, hz13, h⟩ := bnd h
    refine e_callW (is := []) rfl rfl (call_run Tryz.call76 rfl rfl (by kernel_rfl)) rfl (fun w hw hp => t_vers_clone_api_Span_l1 (B := B) hv_.2.2.1.2 hv_.2.2.1.1 hp (hB.pre (is := []) hw rfl) hz13) ?_
    rintro Γ14 U16 v17 hl15 ⟨A18, c19, row20, rfl, rfl, hr21, _⟩
    change WR _ _ _ (CC F Γ14 [row20, [(g1, .cells #[.int .i64 v_.dot.s, .int .i64 v_.dot.n, .slice Av_2 v_.past.length cv_2, .bool v_.gone, .string v_.val] 57 (0, 0))], [(gb0, .cells #[.slice Ab0v b0v.length cb0v] 48 (0, 0))], [(gb1, .cells #[.slice Ab1v b1v.length cb1v] 48 (0, 0))], [(gb2, .cells #[.slice Ab2v b2v.length cb2v] 48 (0, 0))], rowb2v]) _ _ (upd _ 19 (.slice A18 z12.length c19))
    refine va rfl rfl rfl (q_fl 2 fld_57_1 rfl rfl rfl) ?_
    refine e_st (i := 1) (v := .slice A18 z12.length c19) (new := #[.int .i64 v_.dot.s, .int .i64 v_.dot.n, .slice A18 z12.length c19, .bool v_.gone, .string v_.val]) rfl Tryz.sizeOf55 rfl rfl rfl rfl (by kernel_rfl) rfl rfl rfl rfl ?_
    refine WR.nil ?_
    change WC _ _ _ _ _ _
    refine WC.region ?_
    refine va rfl rfl rfl (q_ldl (i := 4) (v := .slice Ab2v b2v.length cb2v) rfl rfl Tryz.isAgg48 rfl rfl) ?_
    refine va rfl rfl rfl (q_ldla (i := 1) (vs := [.int .i64 v_.dot.s, .int .i64 v_.dot.n, .slice A18 z12.length c19, .bool v_.gone, .string v_.val]) rfl rfl Tryz.isAgg57 Tryz.sizeOf57 rfl rfl) ?_
    have hc26 := hr21.capz
    intro w hw; obtain ⟨Γ22, hw, hl23, hr24⟩ := hw.seal (i := 0) rfl; have hs25 := hr21.sl hl23 hr24
    refine WR.here (C := CC F Γ22 [[], [(g1, .cells #[.int .i64 v_.dot.s, .int .i64 v_.dot.n, .slice A18 z12.length c19, .bool v_.gone, .string v_.val] 57 (0, 0))], [(gb0, .cells #[.slice Ab0v b0v.length cb0v] 48 (0, 0))], [(gb1, .cells #[.slice Ab1v b1v.length cb1v] 48 (0, 0))], [(gb2, .cells #[.slice Ab2v b2v.length cb2v] 48 (0, 0))], rowb2v]) ?_ hw
    clear hw
    refine e_buildSlice (cs := #[.int .i64 v_.dot.s, .int .i64 v_.dot.n, .slice A18 z12.length c19, .bool v_.gone, .string v_.val]) (e := 57) rfl rfl rfl rfl (fun w => by kernel_rfl) ?_
    intro g27
    obtain ⟨hk28, h⟩ := chk_some h
    refine e_append (T := verT) (xs := b2v) (ys := [(⟨(⟨v_.dot.s, v_.dot.n⟩ : Dot), z12, v_.gone, v_.val⟩ : Ver)]) elem_48 (i := 6) rfl rfl rfl rfl rfl rfl rfl (hb2v.mono (hl15.trans hl23)) (of_decide_eq_true hk28) (fun w hw => src_one (T := verT) (y := (⟨(⟨v_.dot.s, v_.dot.n⟩ : Dot), z12, v_.gone, v_.val⟩ : Ver)) (i := 0) rfl (by exact ⟨A18, c19, rfl, ⟨hv_.1, hv_.2.1, ⟨hc26, hs25⟩, hv_.2.2.2⟩⟩) hw) ?_
    intro row29 A30 c31 ho32
    refine e_st (i := 5) (v := .slice A30 (b2v ++ [(⟨(⟨v_.dot.s, v_.dot.n⟩ : Dot), z12, v_.gone, v_.val⟩ : Ver)]).length c31) (new := #[.slice A30 (b2v ++ [(⟨(⟨v_.dot.s, v_.dot.n⟩ : Dot), z12, v_.gone, v_.val⟩ : Ver)]).length c31]) rfl Tryz.sizeOf48 rfl rfl rfl rfl (by kernel_rfl) rfl rfl rfl rfl ?_
    refine WR.nil ?_
    intro w hw
    obtain rfl := Option.some.inj h
    subst hF
    exact end_e (is := [3, 3, 3, 3]) (by kernel_rfl) hw rfl ⟨A30, c31, row29, rfl, rfl, ho32, trivial⟩
  · skip
    refine WC.skip ?_
    intro w hw
    obtain rfl := Option.some.inj h
    subst hF
    exact end_e (is := [1, 1, 1, 1]) (by kernel_rfl) hw rfl ⟨Ab2v, cb2v, rowb2v, rfl, rfl, hb2v, trivial⟩
set_option maxRecDepth 100000 in
set_option maxHeartbeats 400000 in
theorem t_vers_Merge_x {Γ : Gh} {w0 : World} {B : Gh} {Aa : Option Addr} {ca : Nat} {a : List Ver} (ha : Sl verT B Aa a) (hac : a.length ≤ ca) {Ab : Option Addr} {cb : Nat} {b : List Ver} (hb : Sl verT B Ab b) (hbc : b.length ≤ cb) (hp : Pre [] Γ w0) (hpB : Pre [] B w0) {r : (List Ver) × Int} (h : m_vers_Merge a b = some r) : Calls Tryz.prog 52 #[.slice Aa a.length ca, .slice Ab b.length cb] w0 (Outc Γ [] w0 (r_vers_Merge r)) := by
  refine calls_of (N := 110) (rs := [4, 5]) (args := [.slice Aa a.length ca, .slice Ab b.length cb]) Tryz.func52 rfl Tryz.ntmps52 Tryz.results52 rfl ?_
  obtain ⟨F, hF⟩ : ∃ F : Fm, F = ⟨ids [], w0, Γ⟩ := ⟨_, rfl⟩
  refine WC.here (C := CC F Γ []) ?_ (hF ▸ hp.start)
  have hB : Lent F B := hF ▸ Lent.start hpB
  refine WC.rs ?_
  refine e_box (v := .slice Aa a.length ca) rfl rfl rfl rfl (by kernel_rfl) ?_
  intro g1
  refine e_box (v := .slice Ab b.length cb) rfl rfl rfl rfl (by kernel_rfl) ?_
  intro g2
  refine va rfl rfl rfl (q_assign (v := .slice none 0 0) rfl (by kernel_rfl)) ?_
  refine va rfl rfl rfl (q_assign (v := .int .i64 0) rfl (by kernel_rfl)) ?_
  refine WR.nil ?_
  change WC _ _ _ _ _ _
  refine WC.seq ?_
  refine WC.rs ?_
  refine va rfl rfl rfl (q_ldl (i := 1) (v := .slice Aa a.length ca) rfl rfl Tryz.isAgg48 rfl rfl) ?_
  obtain ⟨z3, hz4, h⟩ := bnd h
  refine vc rfl rfl rfl (q_call (call_run Tryz.call73 rfl rfl (by kernel_rfl)) (fun w hw => t_vers_Right (Γ := Gh.all w) (ha.mono (hB.sat hw).le_all) hac (Sat.all w) hz4)) ?_
  refine va rfl rfl rfl (q_not rfl rfl) ?_
  refine va rfl rfl rfl (q_move (v := .bool (!z3)) rfl (by kernel_rfl)) ?_
  refine vg0 rfl rfl rfl rfl rfl (fun hg5 => QV.qo (q_ldl (i := 0) (v := .slice Ab b.length cb) rfl rfl Tryz.isAgg48 rfl rfl)) ?_
  obtain ⟨z7, hz8, h⟩ := bnd h
  refine vg0 rfl rfl rfl rfl rfl (fun hg6 => (q_call (call_run Tryz.call73 rfl rfl (args1 (gu hg6 rfl))) (fun w hw => t_vers_Right (Γ := Gh.all w) (hb.mono (hB.sat hw).le_all) hbc (Sat.all w) (gc_of hz8 hg6)))) ?_
  refine vg0 rfl rfl rfl rfl rfl (fun hg9 => QV.qo (q_not rfl (gu hg9 rfl))) ?_
  refine va rfl rfl rfl (q_pick rfl rfl (pk_or' (g := (!z3)) (y := (!z7)))) ?_
  refine WR.nil ?_
  change WC _ _ _ _ _ _
  refine WC.cif h (by kernel_rfl) (fun hb10 h => ?_) (fun hb10 h => ?_)
  · skip
    refine WC.rs ?_
    refine va rfl rfl rfl (q_assign (v := .slice none 0 0) rfl (by kernel_rfl)) ?_
    refine va rfl rfl rfl (q_assign (v := .int .i64 1) rfl (by kernel_rfl)) ?_
    refine WR.nil ?_
    change WC _ _ _ _ _ _
    refine WC.ret ?_
    intro w hw
    have hw := hw.pad
    obtain rfl := Option.some.inj h
    subst hF
    exact end_e (is := [0]) (by kernel_rfl) hw rfl ⟨none, 0, [], rfl, rfl, (Own.nil verT _ 57), (show I64 1 by decide), trivial⟩
  · skip
    refine WC.skip ?_
    change WC _ _ _ _ _ _
    refine WC.rs ?_
    refine e_alloc Tryz.zeroValue48 rfl rfl rfl rfl ?_
    intro g11
    refine WR.nil ?_
    change WC _ _ _ _ _ _
    refine WC.rs ?_
    refine va rfl rfl rfl (q_mkfn (v := .func (.func 74) #[] #[.pointer (some ⟨g1, 0, none⟩), .pointer (some ⟨g2, 0, none⟩), .pointer (some ⟨g11, 0, none⟩)]) rfl (by kernel_rfl)) ?_
    refine va rfl rfl rfl (q_assign (v := .func (.func 74) #[] #[.pointer (some ⟨g1, 0, none⟩), .pointer (some ⟨g2, 0, none⟩), .pointer (some ⟨g11, 0, none⟩)]) rfl (by kernel_rfl)) ?_
    refine WR.nil ?_
    change WC _ _ _ _ _ _
    refine WC.rs ?_
    refine va rfl rfl rfl (q_assign (v := .bool false) rfl (by kernel_rfl)) ?_
    refine WR.nil ?_
    change WC _ _ _ _ _ _
    refine WC.seq ?_
    refine WC.rs ?_
    refine va rfl rfl rfl (q_assign (v := .int .i64 0) rfl (by kernel_rfl)) ?_
    refine va rfl rfl rfl (q_assign (v := .int .i64 0) rfl (by kernel_rfl)) ?_
    refine WR.nil ?_
    change WC _ _ _ _ _ _
    refine WC.block ?_
    refine WC.loopN h (fun (s : Bool × Int × Int × (List Ver)) σ w => match s with | (twin_14, i_15, k_17, x19) => ∃ (Γ12 : Gh), ∃ (A20 : Option Addr), ∃ (c21 : Nat), ∃ (row22 : Rowb), slots σ [(2, .pointer (some ⟨g1, 0, none⟩)), (3, .pointer (some ⟨g2, 0, none⟩)), (6, .pointer (some ⟨g11, 0, none⟩)), (7, .func (.func 74) #[] #[.pointer (some ⟨g1, 0, none⟩), .pointer (some ⟨g2, 0, none⟩), .pointer (some ⟨g11, 0, none⟩)]), (8, .bool twin_14), (9, .int .i64 i_15), (10, .int .i64 k_17)] ∧ CC F Γ12 [row22, [(g11, .cells #[.slice A20 x19.length c21] 48 (0, 0))], [(g2, .cells #[.slice Ab b.length cb] 48 (0, 0))], [(g1, .cells #[.slice Aa a.length ca] 48 (0, 0))]] w ∧ Gh.le Γ Γ12 ∧ I64 i_15 ∧ I64 k_17 ∧ Own verT Γ12 57 row22 A20 c21 x19 ∧ True) ?_ ?_
    · skip
      intro w hw
      have hw := hw.pad
      exact ⟨Γ, none, 0, [], (sl_ (by kernel_rfl)), hw, (Gh.refl _), (show I64 0 by decide), (show I64 0 by decide), (Own.nil verT _ 57), trivial⟩
    rintro f24 ⟨twin_14, i_15, k_17, x19⟩ σ w h ⟨Γ12, A20, c21, row22, hsl, hw, hl13, hr16, hr18, ho23, -⟩
    refine Wpt.slots hsl ?_
    refine WC.here (C := CC F Γ12 [row22, [(g11, .cells #[.slice A20 x19.length c21] 48 (0, 0))], [(g2, .cells #[.slice Ab b.length cb] 48 (0, 0))], [(g1, .cells #[.slice Aa a.length ca] 48 (0, 0))]]) ?_ hw
    clear hw hsl
    refine WC.seq ?_
    refine WC.rs ?_
    refine va rfl rfl rfl (q_move (v := .int .i64 i_15) rfl (by kernel_rfl)) ?_
    refine va rfl rfl rfl (q_ldl (i := 3) (v := .slice Aa a.length ca) rfl rfl Tryz.isAgg48 rfl rfl) ?_
    refine va rfl rfl rfl (q_len_slice rfl Tryz.underlying48 rfl) ?_
    refine va rfl rfl rfl (q_lss rfl rfl rfl) ?_
    refine va rfl rfl rfl (q_move (v := .bool (decide (i_15 < ((a.length : Nat) : Int)))) rfl (by kernel_rfl)) ?_
    refine vg0 rfl rfl rfl rfl rfl (fun hg28 => QV.qo (q_move (v := .int .i64 k_17) rfl (by kernel_rfl))) ?_
    refine vg0 rfl rfl rfl rfl rfl (fun hg29 => QV.qo (q_ldl (i := 2) (v := .slice Ab b.length cb) rfl rfl Tryz.isAgg48 rfl rfl)) ?_
    refine vg0 rfl rfl rfl rfl rfl (fun hg30 => QV.qo (q_len_slice rfl Tryz.underlying48 (gu hg30 rfl))) ?_
    refine vg0 rfl rfl rfl rfl rfl (fun hg31 => QV.qo (q_lss rfl (gu hg31 rfl) (gu hg31 rfl))) ?_
    refine va rfl rfl rfl (q_pick rfl rfl (pk_or' (g := (decide (i_15 < ((a.length : Nat) : Int)))) (y := (decide (k_17 < ((b.length : Nat) : Int)))))) ?_
    refine WR.nil ?_
    change WC _ _ _ _ _ _
    refine WC.cif h (by kernel_rfl) (fun hb32 h => ?_) (fun hb32 h => ?_)
    · skip
      refine WC.skip ?_
      change WC _ _ _ _ _ _
      refine WC.block ?_
      refine WC.block ?_
      refine WC.seq ?_
      refine WC.dr (by kernel_rfl) (by kernel_rfl) (fun w hw => hw.drawn _) ?_
      refine wa rfl rfl rfl (q_move (v := .int .i64 k_17) rfl (by kernel_rfl)) ?_
      refine wa rfl rfl rfl (q_ldl (i := 2) (v := .slice Ab b.length cb) rfl rfl Tryz.isAgg48 rfl rfl) ?_
      refine wa rfl rfl rfl (q_len_slice rfl Tryz.underlying48 rfl) ?_
      refine wa rfl rfl rfl (q_eql rfl rfl rfl) ?_
      refine wa rfl rfl rfl (q_move (v := .bool (k_17 == ((b.length : Nat) : Int))) rfl (by kernel_rfl)) ?_
      refine wg0 rfl rfl rfl rfl rfl (fun hg33 => QV.qo (q_move (v := .int .i64 i_15) rfl (by kernel_rfl))) ?_
      refine wg0 rfl rfl rfl rfl rfl (fun hg34 => QV.qo (q_ldl (i := 3) (v := .slice Aa a.length ca) rfl rfl Tryz.isAgg48 rfl rfl)) ?_
      refine wg0 rfl rfl rfl rfl rfl (fun hg35 => QV.qo (q_len_slice rfl Tryz.underlying48 (gu hg35 rfl))) ?_
      refine wg0 rfl rfl rfl rfl rfl (fun hg36 => QV.qo (q_lss rfl (gu hg36 rfl) (gu hg36 rfl))) ?_
      refine wg0 rfl rfl rfl rfl rfl (fun hg37 => QV.qo (q_move (v := .bool (decide (i_15 < ((a.length : Nat) : Int)))) rfl (gu hg37 rfl))) ?_
      refine wh1 (c0 := (!(k_17 == ((b.length : Nat) : Int)))) (g := (decide (i_15 < ((a.length : Nat) : Int)))) rfl rfl rfl rfl rfl (fun hg38 => QV.qo (q_ldl (i := 3) (v := .slice Aa a.length ca) rfl rfl Tryz.isAgg48 rfl rfl)) ?_
      refine wh1 (c0 := (!(k_17 == ((b.length : Nat) : Int)))) (g := (decide (i_15 < ((a.length : Nat) : Int)))) rfl rfl rfl rfl rfl (fun hg39 => QV.qo (q_move (v := .int .i64 i_15) rfl (by kernel_rfl))) ?_
      obtain ⟨hk41, h⟩ := chk_some h
      refine wh1 (c0 := (!(k_17 == ((b.length : Nat) : Int)))) (g := (decide (i_15 < ((a.length : Nat) : Int)))) rfl rfl rfl rfl rfl (fun hg40 => QV.qo (q_ix Tryz.underlying48 Tryz.sizeOf57 rfl (gu hg40 rfl) (gu hg40 rfl) (imp_of hk41 hg40) (ha.some_ (inb_lt (imp_of hk41 hg40))))) ?_
      refine wh1 (c0 := (!(k_17 == ((b.length : Nat) : Int)))) (g := (decide (i_15 < ((a.length : Nat) : Int)))) rfl rfl rfl rfl rfl (fun hg42 => QV.qo (q_field_addr (i_15.toNat * 5) fld_57_0 rfl (gu hg42 rfl) (ha.some_ (inb_lt (imp_of hk41 hg42))) rfl)) ?_
      obtain ⟨A44, c45, hx46⟩ := ha.verT_at i_15.toNat
      refine wh1 (c0 := (!(k_17 == ((b.length : Nat) : Int)))) (g := (decide (i_15 < ((a.length : Nat) : Int)))) rfl rfl rfl rfl rfl (fun hg43 => QV.qo (q_ldaS (c := 0) (vs := [.int .i64 (gt a i_15.toNat).dot.s, .int .i64 (gt a i_15.toNat).dot.n]) (fun w hw => hB.sat hw) (hx46 (inb_lt (imp_of hk41 hg43))).2 rfl Tryz.isAgg54 Tryz.sizeOf54 (gu hg43 rfl) rfl rfl)) ?_
      refine wh1 (c0 := (!(k_17 == ((b.length : Nat) : Int)))) (g := (decide (i_15 < ((a.length : Nat) : Int)))) rfl rfl rfl rfl rfl (fun hg47 => QV.qo (q_ldl (i := 2) (v := .slice Ab b.length cb) rfl rfl Tryz.isAgg48 rfl rfl)) ?_
      refine wh1 (c0 := (!(k_17 == ((b.length : Nat) : Int)))) (g := (decide (i_15 < ((a.length : Nat) : Int)))) rfl rfl rfl rfl rfl (fun hg48 => QV.qo (q_move (v := .int .i64 k_17) rfl (by kernel_rfl))) ?_
      obtain ⟨hk50, h⟩ := chk_some h
      refine wh1 (c0 := (!(k_17 == ((b.length : Nat) : Int)))) (g := (decide (i_15 < ((a.length : Nat) : Int)))) rfl rfl rfl rfl rfl (fun hg49 => QV.qo (q_ix Tryz.underlying48 Tryz.sizeOf57 rfl (gu hg49 rfl) (gu hg49 rfl) (imp_of hk50 hg49) (hb.some_ (inb_lt (imp_of hk50 hg49))))) ?_
      refine wh1 (c0 := (!(k_17 == ((b.length : Nat) : Int)))) (g := (decide (i_15 < ((a.length : Nat) : Int)))) rfl rfl rfl rfl rfl (fun hg51 => QV.qo (q_field_addr (k_17.toNat * 5) fld_57_0 rfl (gu hg51 rfl) (hb.some_ (inb_lt (imp_of hk50 hg51))) rfl)) ?_
      obtain ⟨A53, c54, hx55⟩ := hb.verT_at k_17.toNat
      refine wh1 (c0 := (!(k_17 == ((b.length : Nat) : Int)))) (g := (decide (i_15 < ((a.length : Nat) : Int)))) rfl rfl rfl rfl rfl (fun hg52 => QV.qo (q_ldaS (c := 0) (vs := [.int .i64 (gt b k_17.toNat).dot.s, .int .i64 (gt b k_17.toNat).dot.n]) (fun w hw => hB.sat hw) (hx55 (inb_lt (imp_of hk50 hg52))).2 rfl Tryz.isAgg54 Tryz.sizeOf54 (gu hg52 rfl) rfl rfl)) ?_
      obtain ⟨z57, hz58, h⟩ := bnd h
      refine wh1 (c0 := (!(k_17 == ((b.length : Nat) : Int)))) (g := (decide (i_15 < ((a.length : Nat) : Int)))) rfl rfl rfl rfl rfl (fun hg56 => (q_call (call_run Tryz.call77 rfl rfl (args2 (gu hg56 rfl) (gu hg56 rfl))) (fun w hw => t_vers_before (Γ := Gh.all w) ((gt a i_15.toNat).dot) ⟨(hx46 (inb_lt (imp_of hk41 hg56))).1.1, (hx46 (inb_lt (imp_of hk41 hg56))).1.2.1⟩ ((gt b k_17.toNat).dot) ⟨(hx55 (inb_lt (imp_of hk50 hg56))).1.1, (hx55 (inb_lt (imp_of hk50 hg56))).1.2.1⟩ (Sat.all w) (gc_of hz58 hg56)))) ?_
      refine wg0 rfl rfl rfl rfl rfl (fun hg59 => QV.qo (q_pick rfl (gu hg59 rfl) (pk_and (c := (!(k_17 == ((b.length : Nat) : Int)))) (g := (decide (i_15 < ((a.length : Nat) : Int)))) (y := z57) hg59))) ?_
      refine wa rfl rfl rfl (q_pick rfl rfl (pk_or' (g := (k_17 == ((b.length : Nat) : Int))) (y := ((decide (i_15 < ((a.length : Nat) : Int))) && z57)))) ?_
      refine wa rfl rfl rfl (q_assign (v := .bool ((k_17 == ((b.length : Nat) : Int)) || ((decide (i_15 < ((a.length : Nat) : Int))) && z57))) rfl (by kernel_rfl)) ?_
      refine WQ.nil ?_
      change WC _ _ _ _ _ _
      refine WC.cif h (by kernel_rfl) (fun hb60 h => ?_) (fun hb60 h => ?_)
      · skip
        refine WC.rs ?_
        refine va rfl rfl rfl (q_move (v := .func (.func 74) #[] #[.pointer (some ⟨g1, 0, none⟩), .pointer (some ⟨g2, 0, none⟩), .pointer (some ⟨g11, 0, none⟩)]) rfl (by kernel_rfl)) ?_
        refine va rfl rfl rfl (q_ldl (i := 3) (v := .slice Aa a.length ca) rfl rfl Tryz.isAgg48 rfl rfl) ?_
        refine va rfl rfl rfl (q_move (v := .int .i64 i_15) rfl (by kernel_rfl)) ?_
        obtain ⟨hk61, h⟩ := chk_some h
        refine va rfl rfl rfl (q_ix Tryz.underlying48 Tryz.sizeOf57 rfl rfl rfl hk61 (ha.some_ (inb_lt hk61))) ?_
        refine va rfl rfl rfl (q_ldaS (c := 0) (vs := [.int .i64 (gt a i_15.toNat).dot.s, .int .i64 (gt a i_15.toNat).dot.n, .slice A44 ((gt a i_15.toNat).past).length c45, .bool (gt a i_15.toNat).gone, .string (gt a i_15.toNat).val]) (fun w hw => hB.sat hw) (hx46 (inb_lt hk61)).2 rfl Tryz.isAgg57 Tryz.sizeOf57 rfl rfl rfl) ?_
        obtain ⟨z62, hz63, h⟩ := bnd h
        refine e_callW (is := [3, 2, 1, 0]) rfl rfl (call_run_fv (caps := #[.pointer (some ⟨g1, 0, none⟩), .pointer (some ⟨g2, 0, none⟩), .pointer (some ⟨g11, 0, none⟩)]) Tryz.call74 rfl (by kernel_rfl) (by kernel_rfl)) rfl (fun w hw hp => t_vers_Merge_1_x (B := B) (gt a i_15.toNat) (hx46 (inb_lt hk61)).1 ha hac hb hbc ho23 hp (hB.pre (is := [3, 2, 1, 0]) hw rfl) hz63) ?_
        rintro Γ64 U66 v67 hl65 ⟨A68, c69, row70, rfl, rfl, hr71, _⟩
        change WR _ _ _ (CC F Γ64 [[(g1, .cells #[.slice Aa a.length ca] 48 (0, 0))], [(g2, .cells #[.slice Ab b.length cb] 48 (0, 0))], [(g11, .cells #[.slice A68 z62.length c69] 48 (0, 0))], row70]) _ _ (upd _ 67 (.tuple #[]))
        refine WR.nil ?_
        change WC _ _ _ _ _ _
        refine WC.region ?_
        refine va rfl rfl rfl (q_move (v := .int .i64 i_15) rfl (by kernel_rfl)) ?_
        refine va rfl rfl rfl (q_add rfl rfl rfl) ?_
        refine va rfl rfl rfl (q_assign (v := .int .i64 (w64 (i_15 + 1))) rfl (by kernel_rfl)) ?_
        refine WR.nil ?_
        intro w hw
        exact ⟨(twin_14, (w64 (i_15 + 1)), k_17, z62), h, Γ64, A68, c69, row70, (sl_ (by kernel_rfl)), (hw.only (is := [3, 2, 1, 0]) rfl), (hl13.trans hl65), (w64_r _), hr18, hr71, trivial⟩
      · skip
        refine WC.seq ?_
        refine WC.dr (by kernel_rfl) (by kernel_rfl) (fun w hw => hw.drawn _) ?_
        refine wa rfl rfl rfl (q_move (v := .int .i64 i_15) rfl (by kernel_rfl)) ?_
        refine wa rfl rfl rfl (q_ldl (i := 3) (v := .slice Aa a.length ca) rfl rfl Tryz.isAgg48 rfl rfl) ?_
        refine wa rfl rfl rfl (q_len_slice rfl Tryz.underlying48 rfl) ?_
        refine wa rfl rfl rfl (q_lss rfl rfl rfl) ?_
        refine wa rfl rfl rfl (q_move (v := .bool (decide (i_15 < ((a.length : Nat) : Int)))) rfl (by kernel_rfl)) ?_
        refine wg1 rfl rfl rfl rfl rfl (fun hg72 => QV.qo (q_ldl (i := 3) (v := .slice Aa a.length ca) rfl rfl Tryz.isAgg48 rfl rfl)) ?_
        refine wg1 rfl rfl rfl rfl rfl (fun hg73 => QV.qo (q_move (v := .int .i64 i_15) rfl (by kernel_rfl))) ?_
        obtain ⟨hk75, h⟩ := chk_some h
        refine wg1 rfl rfl rfl rfl rfl (fun hg74 => QV.qo (q_ix Tryz.underlying48 Tryz.sizeOf57 rfl (gu hg74 rfl) (gu hg74 rfl) (imp_of hk75 hg74) (ha.some_ (inb_lt (imp_of hk75 hg74))))) ?_
        refine wg1 rfl rfl rfl rfl rfl (fun hg76 => QV.qo (q_field_addr (i_15.toNat * 5) fld_57_0 rfl (gu hg76 rfl) (ha.some_ (inb_lt (imp_of hk75 hg76))) rfl)) ?_
        refine wg1 rfl rfl rfl rfl rfl (fun hg77 => QV.qo (q_ldaS (c := 0) (vs := [.int .i64 (gt a i_15.toNat).dot.s, .int .i64 (gt a i_15.toNat).dot.n]) (fun w hw => hB.sat hw) (hx46 (inb_lt (imp_of hk75 hg77))).2 rfl Tryz.isAgg54 Tryz.sizeOf54 (gu hg77 rfl) rfl rfl)) ?_
        refine wg1 rfl rfl rfl rfl rfl (fun hg78 => QV.qo (q_ldl (i := 2) (v := .slice Ab b.length cb) rfl rfl Tryz.isAgg48 rfl rfl)) ?_
        refine wg1 rfl rfl rfl rfl rfl (fun hg79 => QV.qo (q_move (v := .int .i64 k_17) rfl (by kernel_rfl))) ?_
        obtain ⟨hk81, h⟩ := chk_some h
        refine wg1 rfl rfl rfl rfl rfl (fun hg80 => QV.qo (q_ix Tryz.underlying48 Tryz.sizeOf57 rfl (gu hg80 rfl) (gu hg80 rfl) (imp_of hk81 hg80) (hb.some_ (inb_lt (imp_of hk81 hg80))))) ?_
        refine wg1 rfl rfl rfl rfl rfl (fun hg82 => QV.qo (q_field_addr (k_17.toNat * 5) fld_57_0 rfl (gu hg82 rfl) (hb.some_ (inb_lt (imp_of hk81 hg82))) rfl)) ?_
        refine wg1 rfl rfl rfl rfl rfl (fun hg83 => QV.qo (q_ldaS (c := 0) (vs := [.int .i64 (gt b k_17.toNat).dot.s, .int .i64 (gt b k_17.toNat).dot.n]) (fun w hw => hB.sat hw) (hx55 (inb_lt (imp_of hk81 hg83))).2 rfl Tryz.isAgg54 Tryz.sizeOf54 (gu hg83 rfl) rfl rfl)) ?_
        refine wg1 rfl rfl rfl rfl rfl (fun hg84 => QV.qo (q_eql_Dot (a := (gt a i_15.toNat).dot) (b := (gt b k_17.toNat).dot) rfl (gu hg84 rfl) (gu hg84 rfl))) ?_
        refine wa rfl rfl rfl (q_pick rfl rfl (pk_and' (g := (decide (i_15 < ((a.length : Nat) : Int)))) (y := ((gt a i_15.toNat).dot == (gt b k_17.toNat).dot)))) ?_
        refine wa rfl rfl rfl (q_assign (v := .bool ((decide (i_15 < ((a.length : Nat) : Int))) && ((gt a i_15.toNat).dot == (gt b k_17.toNat).dot))) rfl (by kernel_rfl)) ?_
        refine WQ.nil ?_
        change WC _ _ _ _ _ _
        refine WC.cif h (by kernel_rfl) (fun hb85 h => ?_) (fun hb85 h => ?_)
        · skip
          refine WC.seq ?_
          refine WC.dr (by kernel_rfl) (by kernel_rfl) (fun w hw => hw.drawn _) ?_
          refine wa rfl rfl rfl (q_move (v := .bool twin_14) rfl (by kernel_rfl)) ?_
          refine wa rfl rfl rfl (q_move (v := .bool twin_14) rfl (by kernel_rfl)) ?_
          refine wg0 rfl rfl rfl rfl rfl (fun hg86 => QV.qo (q_ldl (i := 3) (v := .slice Aa a.length ca) rfl rfl Tryz.isAgg48 rfl rfl)) ?_
          refine wg0 rfl rfl rfl rfl rfl (fun hg87 => QV.qo (q_move (v := .int .i64 i_15) rfl (by kernel_rfl))) ?_
          obtain ⟨hk89, h⟩ := chk_some h
          refine wg0 rfl rfl rfl rfl rfl (fun hg88 => QV.qo (q_ix Tryz.underlying48 Tryz.sizeOf57 rfl (gu hg88 rfl) (gu hg88 rfl) (imp_of hk89 hg88) (ha.some_ (inb_lt (imp_of hk89 hg88))))) ?_
          refine wg0 rfl rfl rfl rfl rfl (fun hg90 => QV.qo (q_ldaS (c := 0) (vs := [.int .i64 (gt a i_15.toNat).dot.s, .int .i64 (gt a i_15.toNat).dot.n, .slice A44 ((gt a i_15.toNat).past).length c45, .bool (gt a i_15.toNat).gone, .string (gt a i_15.toNat).val]) (fun w hw => hB.sat hw) (hx46 (inb_lt (imp_of hk89 hg90))).2 rfl Tryz.isAgg57 Tryz.sizeOf57 (gu hg90 rfl) rfl rfl)) ?_
          refine wg0 rfl rfl rfl rfl rfl (fun hg91 => QV.qo (q_ldl (i := 2) (v := .slice Ab b.length cb) rfl rfl Tryz.isAgg48 rfl rfl)) ?_
          refine wg0 rfl rfl rfl rfl rfl (fun hg92 => QV.qo (q_move (v := .int .i64 k_17) rfl (by kernel_rfl))) ?_
          obtain ⟨hk94, h⟩ := chk_some h
          refine wg0 rfl rfl rfl rfl rfl (fun hg93 => QV.qo (q_ix Tryz.underlying48 Tryz.sizeOf57 rfl (gu hg93 rfl) (gu hg93 rfl) (imp_of hk94 hg93) (hb.some_ (inb_lt (imp_of hk94 hg93))))) ?_
          refine wg0 rfl rfl rfl rfl rfl (fun hg95 => QV.qo (q_ldaS (c := 0) (vs := [.int .i64 (gt b k_17.toNat).dot.s, .int .i64 (gt b k_17.toNat).dot.n, .slice A53 ((gt b k_17.toNat).past).length c54, .bool (gt b k_17.toNat).gone, .string (gt b k_17.toNat).val]) (fun w hw => hB.sat hw) (hx55 (inb_lt (imp_of hk94 hg95))).2 rfl Tryz.isAgg57 Tryz.sizeOf57 (gu hg95 rfl) rfl rfl)) ?_
          obtain ⟨z97, hz98, h⟩ := bnd h
          refine wg0 rfl rfl rfl rfl rfl (fun hg96 => (q_call (call_run Tryz.call78 rfl rfl (args2 (gu hg96 rfl) (gu hg96 rfl))) (fun w hw => t_vers_same (Γ := Gh.all w) (gt a i_15.toNat) (Ver.fits_mono (hx46 (inb_lt (imp_of hk89 hg96))).1 (hB.sat hw).le_all) (gt b k_17.toNat) (Ver.fits_mono (hx55 (inb_lt (imp_of hk94 hg96))).1 (hB.sat hw).le_all) (Sat.all w) (gc_of hz98 hg96)))) ?_
          refine wg0 rfl rfl rfl rfl rfl (fun hg99 => QV.qo (q_not rfl (gu hg99 rfl))) ?_
          refine wa rfl rfl rfl (q_pick rfl rfl (pk_or' (g := twin_14) (y := (!z97)))) ?_
          refine wa rfl rfl rfl (q_assign (v := .bool (twin_14 || (!z97))) rfl (by kernel_rfl)) ?_
          refine WQ.nil ?_
          change WC _ _ _ _ _ _
          refine WC.region ?_
          refine va rfl rfl rfl (q_move (v := .int .i64 i_15) rfl (by kernel_rfl)) ?_
          refine va rfl rfl rfl (q_add rfl rfl rfl) ?_
          refine va rfl rfl rfl (q_assign (v := .int .i64 (w64 (i_15 + 1))) rfl (by kernel_rfl)) ?_
          refine WR.nil ?_
          intro w hw
          exact ⟨((twin_14 || (!z97)), (w64 (i_15 + 1)), k_17, x19), h, Γ12, A20, c21, row22, (sl_ (by kernel_rfl)), hw, hl13, (w64_r _), hr18, ho23, trivial⟩
        · skip
          refine WC.rs ?_
          refine va rfl rfl rfl (q_move (v := .func (.func 74) #[] #[.pointer (some ⟨g1, 0, none⟩), .pointer (some ⟨g2, 0, none⟩), .pointer (some ⟨g11, 0, none⟩)]) rfl (by kernel_rfl)) ?_
          refine va rfl rfl rfl (q_ldl (i := 2) (v := .slice Ab b.length cb) rfl rfl Tryz.isAgg48 rfl rfl) ?_
          refine va rfl rfl rfl (q_move (v := .int .i64 k_17) rfl (by kernel_rfl)) ?_
          obtain ⟨hk100, h⟩ := chk_some h
          refine va rfl rfl rfl (q_ix Tryz.underlying48 Tryz.sizeOf57 rfl rfl rfl hk100 (hb.some_ (inb_lt hk100))) ?_
          refine va rfl rfl rfl (q_ldaS (c := 0) (vs := [.int .i64 (gt b k_17.toNat).dot.s, .int .i64 (gt b k_17.toNat).dot.n, .slice A53 ((gt b k_17.toNat).past).length c54, .bool (gt b k_17.toNat).gone, .string (gt b k_17.toNat).val]) (fun w hw => hB.sat hw) (hx55 (inb_lt hk100)).2 rfl Tryz.isAgg57 Tryz.sizeOf57 rfl rfl rfl) ?_
          obtain ⟨z101, hz102, h⟩ := bnd h
          refine e_callW (is := [3, 2, 1, 0]) rfl rfl (call_run_fv (caps := #[.pointer (some ⟨g1, 0, none⟩), .pointer (some ⟨g2, 0, none⟩), .pointer (some ⟨g11, 0, none⟩)]) Tryz.call74 rfl (by kernel_rfl) (by kernel_rfl)) rfl (fun w hw hp => t_vers_Merge_1_x (B := B) (gt b k_17.toNat) (hx55 (inb_lt hk100)).1 ha hac hb hbc ho23 hp (hB.pre (is := [3, 2, 1, 0]) hw rfl) hz102) ?_
          rintro Γ103 U105 v106 hl104 ⟨A107, c108, row109, rfl, rfl, hr110, _⟩
          change WR _ _ _ (CC F Γ103 [[(g1, .cells #[.slice Aa a.length ca] 48 (0, 0))], [(g2, .cells #[.slice Ab b.length cb] 48 (0, 0))], [(g11, .cells #[.slice A107 z101.length c108] 48 (0, 0))], row109]) _ _ (upd _ 35 (.tuple #[]))
          refine WR.nil ?_
          change WC _ _ _ _ _ _
          refine WC.region ?_
          refine va rfl rfl rfl (q_move (v := .int .i64 k_17) rfl (by kernel_rfl)) ?_
          refine va rfl rfl rfl (q_add rfl rfl rfl) ?_
          refine va rfl rfl rfl (q_assign (v := .int .i64 (w64 (k_17 + 1))) rfl (by kernel_rfl)) ?_
          refine WR.nil ?_
          intro w hw
          exact ⟨(twin_14, i_15, (w64 (k_17 + 1)), z101), h, Γ103, A107, c108, row109, (sl_ (by kernel_rfl)), (hw.only (is := [3, 2, 1, 0]) rfl), (hl13.trans hl104), hr16, (w64_r _), hr110, trivial⟩
    · skip
      refine WC.exit ?_
      change WC _ _ _ _ _ _
      refine WC.seq ?_
      refine WC.block ?_
      refine WC.rs ?_
      refine va rfl rfl rfl (q_move (v := .bool twin_14) rfl (by kernel_rfl)) ?_
      refine va rfl rfl rfl (q_assign (v := .bool twin_14) rfl (by kernel_rfl)) ?_
      refine WR.nil ?_
      change WC _ _ _ _ _ _
      refine WC.cif h (by kernel_rfl) (fun hb111 h => ?_) (fun hb111 h => ?_)
      · skip
        refine WC.rs ?_
        refine va rfl rfl rfl (q_assign (v := .slice none 0 0) rfl (by kernel_rfl)) ?_
        refine va rfl rfl rfl (q_assign (v := .int .i64 50) rfl (by kernel_rfl)) ?_
        refine WR.nil ?_
        change WC _ _ _ _ _ _
        refine WC.ret ?_
        intro w hw
        have hw := hw.pad
        obtain rfl := Option.some.inj h
        subst hF
        exact end_e (is := [0]) (by kernel_rfl) hw rfl ⟨none, 0, [], rfl, rfl, (Own.nil verT _ 57), (show I64 50 by decide), trivial⟩
      · skip
        refine WC.rs ?_
        refine va rfl rfl rfl (q_ldl (i := 1) (v := .slice A20 x19.length c21) rfl rfl Tryz.isAgg48 rfl rfl) ?_
        refine va rfl rfl rfl (q_len_slice rfl Tryz.underlying48 rfl) ?_
        refine va rfl rfl rfl (q_gtr rfl rfl rfl) ?_
        refine va rfl rfl rfl (q_assign (v := .bool (decide (512 < ((x19.length : Nat) : Int)))) rfl (by kernel_rfl)) ?_
        refine WR.nil ?_
        change WC _ _ _ _ _ _
        refine WC.cif h (by kernel_rfl) (fun hb112 h => ?_) (fun hb112 h => ?_)
        · skip
          refine WC.rs ?_
          refine va rfl rfl rfl (q_assign (v := .slice none 0 0) rfl (by kernel_rfl)) ?_
          refine va rfl rfl rfl (q_assign (v := .int .i64 3) rfl (by kernel_rfl)) ?_
          refine WR.nil ?_
          change WC _ _ _ _ _ _
          refine WC.ret ?_
          intro w hw
          have hw := hw.pad
          obtain rfl := Option.some.inj h
          subst hF
          exact end_e (is := [0]) (by kernel_rfl) hw rfl ⟨none, 0, [], rfl, rfl, (Own.nil verT _ 57), (show I64 3 by decide), trivial⟩
        · skip
          refine WC.skip ?_
          change WC _ _ _ _ _ _
          refine WC.rs ?_
          refine va rfl rfl rfl (q_ldl (i := 1) (v := .slice A20 x19.length c21) rfl rfl Tryz.isAgg48 rfl rfl) ?_
          refine va rfl rfl rfl (q_assign (v := .slice A20 x19.length c21) rfl (by kernel_rfl)) ?_
          refine va rfl rfl rfl (q_assign (v := .int .i64 0) rfl (by kernel_rfl)) ?_
          refine WR.nil ?_
          change WC _ _ _ _ _ _
          refine WC.ret ?_
          intro w hw
          obtain rfl := Option.some.inj h
          subst hF
          exact end_e (is := [0]) (by kernel_rfl) hw rfl ⟨A20, c21, row22, rfl, rfl, ho23, (show I64 0 by decide), trivial⟩
abbrev r_mend_held_x (B : Gh) (r : List (ByteArray × (List Ver))) (U : List Rowb) (Γ : Gh) (v : Value) : Prop := ∃ (g0 : Nat), ∃ (row0 : Rowb), v = .map (some g0) ∧ U = [row0] ∧ MapO (strK Tryz.underlying9) (atV (slT verT).v B) Γ row0 g0 r ∧ True
set_option maxRecDepth 100000 in
set_option maxHeartbeats 400000 in
theorem t_mend_held_x {Γ : Gh} {w0 : World} {B : Gh} {Al : Option Addr} {cl : Nat} {l : List Rec} (hl : Sl recT B Al l) (hlc : l.length ≤ cl) (hp : Pre [] Γ w0) (hpB : Pre [] B w0) {r : List (ByteArray × (List Ver))} (h : m_mend_held l = some r) : Calls Tryz.prog 48 #[.slice Al l.length cl] w0 (Outc Γ [] w0 (r_mend_held_x B r)) := by
  refine calls_of (N := 20) (rs := [2]) (args := [.slice Al l.length cl]) Tryz.func48 rfl Tryz.ntmps48 Tryz.results48 rfl ?_
  obtain ⟨F, hF⟩ : ∃ F : Fm, F = ⟨ids [], w0, Γ⟩ := ⟨_, rfl⟩
  refine WC.here (C := CC F Γ []) ?_ (hF ▸ hp.start)
  have hB : Lent F B := hF ▸ Lent.start hpB
  refine WC.rs ?_
  refine va rfl rfl rfl (q_assign (v := .map none) rfl (by kernel_rfl)) ?_
  refine WR.nil ?_
  change WC _ _ _ _ _ _
  refine WC.rs ?_
  refine e_makeMap (strK Tryz.underlying9) (atV (slT verT).v B) rfl rfl rfl rfl ?_
  intro g1 row2 hm3
  refine va rfl rfl rfl (q_assign (v := .map (some g1)) rfl (by kernel_rfl)) ?_
  refine WR.nil ?_
  change WC _ _ _ _ _ _
  refine WC.seq ?_
  refine WC.rs ?_
  refine va rfl rfl rfl (q_move (v := .slice Al l.length cl) rfl (by kernel_rfl)) ?_
  refine va rfl rfl rfl (q_len_slice rfl Tryz.underlying22 rfl) ?_
  refine va rfl rfl rfl (q_move (v := .int .i64 0) rfl (by kernel_rfl)) ?_
  refine WR.nil ?_
  change WC _ _ _ _ _ _
  refine WC.block ?_
  refine WC.forI h (fun (i8 : Nat) (m4 : List (ByteArray × (List Ver))) σ w => ∃ (row5 : Rowb), slots σ [(3, .map (some g1)), (7, .slice Al l.length cl), (8, .int .i64 ((l.length : Nat) : Int)), (9, .int .i64 ((i8 : Nat) : Int))] ∧ CC F Γ [row5] w ∧ MapO (strK Tryz.underlying9) (atV (slT verT).v B) Γ row5 g1 m4 ∧ True) ?_ ?_
  · skip
    intro w hw
    exact ⟨row2, (sl_ (by kernel_rfl)), hw, hm3, trivial⟩
  rintro f7 i8 m4 σ w hi9 hlt10 hge11 ⟨row5, hsl, hw, ho6, -⟩
  refine Wpt.slots hsl ?_
  refine WC.here (C := CC F Γ [row5]) ?_ hw
  clear hw hsl
  refine WC.rs ?_
  refine va rfl rfl rfl (q_lss rfl rfl rfl) ?_
  refine WR.nil ?_
  change WC _ _ _ _ _ _
  refine WC.seq ?_
  refine WC.cond (b := (decide (((i8 : Nat) : Int) < ((l.length : Nat) : Int)))) (by kernel_rfl) (fun hb12 => ?_) (fun hb12 => ?_)
  · skip
    have hl13 := ilt hb12
    have h := hlt10 hl13
    refine WC.skip ?_
    change WC _ _ _ _ _ _
    refine WC.seq ?_
    refine WC.block ?_
    refine WC.rs ?_
    refine va rfl rfl rfl (q_ixn (i := i8) Tryz.underlying22 Tryz.sizeOf51 rfl rfl rfl hl13 (hl.some_ hl13)) ?_
    obtain ⟨A14, c15, hx16⟩ := hl.recT_at i8
    refine va rfl rfl rfl (q_ldaS (c := 0) (vs := [.string (gt l i8).key, .slice A14 ((gt l i8).vers).length c15]) (fun w hw => hB.sat hw) (hx16 hl13).2 rfl Tryz.isAgg51 Tryz.sizeOf51 rfl rfl rfl) ?_
    refine e_alloc Tryz.zeroValue51 rfl rfl rfl rfl ?_
    intro g17
    refine e_st (i := 0) (v := .agg #[.string (gt l i8).key, .slice A14 ((gt l i8).vers).length c15]) (new := #[.string (gt l i8).key, .slice A14 ((gt l i8).vers).length c15]) rfl Tryz.sizeOf51 rfl rfl rfl rfl (by kernel_rfl) rfl rfl rfl rfl ?_
    refine WR.nil ?_
    change WC _ _ _ _ _ _
    refine WC.region ?_
    refine va rfl rfl rfl (q_move (v := .map (some g1)) rfl (by kernel_rfl)) ?_
    refine va rfl rfl rfl (q_fl 0 fld_51_0 rfl rfl rfl) ?_
    refine va rfl rfl rfl (q_ldl (i := 0) (v := .string (gt l i8).key) rfl rfl Tryz.isAgg9 rfl rfl) ?_
    refine va rfl rfl rfl (q_fl 1 fld_51_1 rfl rfl rfl) ?_
    refine va rfl rfl rfl (q_ldl (i := 0) (v := .slice A14 ((gt l i8).vers).length c15) rfl rfl Tryz.isAgg48 rfl rfl) ?_
    refine e_mapUpdate (i := 1) (x := ((gt l i8).key)) (v := .slice A14 ((gt l i8).vers).length c15) (a := (gt l i8).vers) rfl rfl rfl Tryz.underlying82 rfl rfl (by kernel_rfl) rfl ho6 (by exact ⟨A14, c15, rfl, (hx16 hl13).1.2.1, (hx16 hl13).1.2.2⟩) (hx16 hl13).1.1 ?_
    intro row18 hm19
    refine WR.nil ?_
    change WC _ _ _ _ _ _
    refine WC.region ?_
    refine va rfl rfl rfl (q_add_r (r := ((i8 + 1 : Nat) : Int)) rfl rfl rfl (ctr_len hl13 hl.le)) ?_
    refine va rfl rfl rfl (q_move (v := .int .i64 ((i8 + 1 : Nat) : Int)) rfl (by kernel_rfl)) ?_
    refine WR.nil ?_
    intro w hw
    exact ⟨hl13, (mput ((gt l i8).key) ((gt l i8).vers) m4), h, row18, (sl_ (by kernel_rfl)), (hw.only (is := [1]) rfl), hm19, trivial⟩
  · skip
    have h := hge11 (ige hb12)
    refine WC.exit ?_
    change WC _ _ _ _ _ _
    refine WC.rs ?_
    refine va rfl rfl rfl (q_move (v := .map (some g1)) rfl (by kernel_rfl)) ?_
    refine va rfl rfl rfl (q_assign (v := .map (some g1)) rfl (by kernel_rfl)) ?_
    refine WR.nil ?_
    change WC _ _ _ _ _ _
    refine WC.ret ?_
    intro w hw
    obtain rfl := Option.some.inj h
    subst hF
    exact end_e (is := [0]) (by kernel_rfl) hw rfl ⟨g1, row5, rfl, rfl, ho6, trivial⟩
end Fw
end Go.Proofs.YtbidmceookkapaaGreat
