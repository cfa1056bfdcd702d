/- Walks through the functions that the law reaches. No condition. -/
import Derived.Test.YtlbdlkgboliikaaW2
namespace Go.Proofs.Ytlbdlkgboliikaa
namespace Fw
set_option linter.unusedVariables false
set_option linter.unusedSimpArgs false
open Go.RowKit
def Read_Vers_ok_res (r : AskV) (Xr : Nat → Prop) (wr : World) (vr : Value) : Prop := ∃ A0 c0, vr = .slice A0 (r.vers).length c0 ∧ Sl verT Xr wr A0 (r.vers) ∧ (r.vers).length ≤ c0
set_option maxRecDepth 100000 in
set_option maxHeartbeats 1000000 in
theorem Read_Vers_ok (w0 : World) (X : Nat → Prop) (gr : Nat) (rowr : Rowb) (r : AskV) (hobr : AskV.ob 85 X w0 gr rowr r) (hpre : Pre [rowr] X w0) (hX : ∀ k, X k → k < w0.heap.size) : Calls Try.prog 24 #[.pointer (some ⟨gr, 0, none⟩)] w0 fun e w' => ∃ vr, e = .returned vr ∧ Read_Vers_ok_res r X w' vr ∧ Fr no w0 w' := by
  refine calls_of (N := 35) (rs := [2]) (args := [.pointer (some ⟨gr, 0, none⟩)]) Try.func24 rfl Try.ntmps24 Try.results24 rfl ?_
  refine WC.here (C := CC (ids [rowr]) w0 X w0 [rowr]) ?_ hpre.start
  have hob_2 := hobr
  obtain ⟨A0_2, c0_2, m2_2, r2_2, hrow_2, ho0_2, ho1_2, ho2_2, ho3_2, _⟩ := hob_2
  have ho0_2l := ho0_2.le_
  refine WC.sub (C' := CC (ids [rowr]) w0 X w0 [[(gr, .cells #[.slice A0_2 r.list.length c0_2, .int .i64 r.need, .map (some m2_2)] 85 (0, 0))], r2_2]) (fun w hw => Cur.open_ (U := [[(gr, .cells #[.slice A0_2 r.list.length c0_2, .int .i64 r.need, .map (some m2_2)] 85 (0, 0))], r2_2]) (R := []) hw hrow_2) ?_
  refine WC.seq ?_
  refine WC.region ?_
  refine WR.v (v := .slice none 0 0) rfl rfl rfl ?_ ?_
  · refine QV.qo ?_; exact q_assign rfl (by kernel_rfl)
  refine WR.nil ?_
  change WC _ _ _ _ _ _
  refine WC.seq ?_
  refine WC.region ?_
  refine WR.v (v := .slice none 0 0) rfl rfl rfl ?_ ?_
  · refine QV.qo ?_; exact q_assign rfl (by kernel_rfl)
  refine WR.nil ?_
  change WC _ _ _ _ _ _
  refine WC.seq ?_
  refine WC.seq ?_
  refine WC.region ?_
  refine WR.v (v := .pointer (some ⟨gr, 0, none⟩)) rfl rfl rfl ?_ ?_
  · refine QV.qo ?_; exact q_move rfl (by kernel_rfl)
  refine WR.v (v := .pointer (some ⟨gr, 0, none⟩)) rfl rfl rfl ?_ ?_
  · refine QV.qo ?_; exact q_nil (A := some ⟨gr, 0, none⟩) rfl (by kernel_rfl) rfl
  refine WR.v (v := .pointer (some ⟨gr, 0, none⟩)) rfl rfl rfl ?_ ?_
  · refine QV.qo ?_; exact q_field_loc (g := gr) (j := 0) 0 fld_85_0 rfl (by kernel_rfl) rfl
  refine WR.v (v := .pointer (some ⟨gr, 0, none⟩)) rfl rfl rfl ?_ ?_
  · refine QV.qo ?_; exact q_field_loc (g := gr) (j := 0) 0 fld_81_0 rfl (by kernel_rfl) rfl
  refine WR.v (v := .slice A0_2 r.list.length c0_2) rfl rfl rfl ?_ ?_
  · refine QV.qo ?_; exact q_load_loc (i := 0) (g := gr) (j := 0) (v := .slice A0_2 r.list.length c0_2) rfl Try.isAgg22 (by kernel_rfl) rfl rfl
  refine WR.v (v := .int .i64 ((r.list.length : Nat) : Int)) rfl rfl rfl ?_ ?_
  · refine QV.qo ?_; exact q_len_slice (A := A0_2) (n := r.list.length) (c := c0_2) rfl Try.underlying22 (by kernel_rfl)
  refine WR.v (v := .int .i64 0) rfl rfl rfl ?_ ?_
  · refine QV.qo ?_; exact q_move rfl (by kernel_rfl)
  refine WR.nil ?_
  change WC _ _ _ _ _ _
  refine WC.block ?_
  refine WC.loop (fun (m : Nat) (σ : Env) (w1 : World) => ∃ (k4 : Nat)  (out : List Ver) (A_out4 : Option Addr) (c_out4 : Nat) (X_5 : Nat → Prop) (B_6 : World), m = r.list.length - k4 ∧ (k4 ≤ r.list.length) ∧ (versGo r.got r.list [] = versGo r.got (r.list.drop k4) out) ∧ (σ 0 = .pointer (some ⟨gr, 0, none⟩) ∧ σ 3 = .slice A_out4 out.length c_out4 ∧ σ 12 = .slice A0_2 r.list.length c0_2 ∧ σ 13 = .int .i64 ((r.list.length : Nat) : Int) ∧ σ 14 = .int .i64 ((k4 : Nat) : Int)) ∧ St X w0 X_5 B_6 ∧ (∀ k, X k → X_5 k) ∧ (∀ k, X_5 k → k < B_6.heap.size) ∧ Sl verT X_5 B_6 A_out4 out ∧ out.length ≤ c_out4 ∧ CC (ids [rowr]) w0 X_5 B_6 [[(gr, .cells #[.slice A0_2 r.list.length c0_2, .int .i64 r.need, .map (some m2_2)] 85 (0, 0))], r2_2] w1) ?_ ?_
  · intro w1 hw
    exact ⟨_, 0, [], none, 0, X, w0, rfl, (by first | trivial | omega), rfl, ⟨by kernel_rfl, by kernel_rfl, by kernel_rfl, by kernel_rfl, by kernel_rfl⟩, St.refl _ _, fun _ h => h, hX, Sl.nil _ _ _ _, (by simp), hw⟩
  intro m4 σ4 w1 hI
  obtain ⟨k4, out, A_out4, c_out4, X_5, B_6, rfl, hk4, hrel4, ⟨h4_0, h4_3, h4_12, h4_13, h4_14⟩, hst_7, hxx_8, hxl_9, hs_out4, hc_out4, hw⟩ := hI
  refine WC.here (C := CC (ids [rowr]) w0 X_5 B_6 [[(gr, .cells #[.slice A0_2 r.list.length c0_2, .int .i64 r.need, .map (some m2_2)] 85 (0, 0))], r2_2]) ?_ hw
  clear hw
  have hs_out4l := hs_out4.le_
  refine WC.seq ?_
  refine WC.region ?_
  refine WR.v (v := .bool (decide (((k4 : Nat) : Int) < ((r.list.length : Nat) : Int)))) rfl rfl rfl ?_ ?_
  · refine QV.qo ?_; exact q_lss (k := .i64) (a := ((k4 : Nat) : Int)) (b := ((r.list.length : Nat) : Int)) rfl h4_14 h4_13
  refine WR.nil ?_
  change WC _ _ _ _ _ _
  refine WC.seq ?_
  refine WC.cond (b := (decide (((k4 : Nat) : Int) < ((r.list.length : Nat) : Int)))) (by kernel_rfl) ?_ ?_
  · skip
    intro hb_11t
    have hp_12 := of_decide_eq_true hb_11t
    refine WC.skip ?_
    change WC _ _ _ _ _ _
    refine WC.seq ?_
    refine WC.block ?_
    refine WC.seq ?_
    refine WC.region ?_
    refine WR.v (v := ptrAt A0_2 (k4 * 1)) rfl rfl rfl ?_ ?_
    · refine QV.qo ?_; exact q_index_addr (k := .i64) (A := A0_2) (n := r.list.length) (c := c0_2) (i := k4) rfl Try.underlying22 Try.sizeOf3 h4_12 h4_14 (by omega) (Sl.some_ (ho0_2.step hst_7) (k := k4) (by omega))
    refine WR.v (v := .int .i64 (gt r.list k4)) rfl rfl rfl ?_ ?_
    · refine QV.qo ?_; exact q_load_cell (A := A0_2) (j := k4 * 1) (v := .int .i64 (gt r.list k4)) rfl Try.isAgg3 (by kernel_rfl) (Sl.intT_0 (ho0_2.step hst_7) (i := k4) (by omega))
    refine WR.v (v := .int .i64 (gt r.list k4)) rfl rfl rfl ?_ ?_
    · refine QV.qo ?_; exact q_assign rfl (by kernel_rfl)
    refine WR.nil ?_
    change WC _ _ _ _ _ _
    refine WC.seq ?_
    refine WC.region ?_
    refine WR.v (v := .slice A_out4 out.length c_out4) rfl rfl rfl ?_ ?_
    · refine QV.qo ?_; exact q_move rfl h4_3
    refine WR.v (v := .pointer (some ⟨gr, 0, none⟩)) rfl rfl rfl ?_ ?_
    · refine QV.qo ?_; exact q_move rfl h4_0
    refine WR.v (v := .pointer (some ⟨gr, 0, none⟩)) rfl rfl rfl ?_ ?_
    · refine QV.qo ?_; exact q_nil (A := some ⟨gr, 0, none⟩) rfl (by kernel_rfl) rfl
    refine WR.v (v := .pointer (some ⟨gr, 0, none⟩)) rfl rfl rfl ?_ ?_
    · refine QV.qo ?_; exact q_field_loc (g := gr) (j := 0) 0 fld_85_0 rfl (by kernel_rfl) rfl
    refine WR.v (v := .pointer (some ⟨gr, 2, none⟩)) rfl rfl rfl ?_ ?_
    · refine QV.qo ?_; exact q_field_loc (g := gr) (j := 0) 2 fld_81_2 rfl (by kernel_rfl) rfl
    refine WR.v (v := .map (some m2_2)) rfl rfl rfl ?_ ?_
    · refine QV.qo ?_; exact q_load_loc (i := 0) (g := gr) (j := 2) (v := .map (some m2_2)) rfl Try.isAgg79 (by kernel_rfl) rfl rfl
    refine WR.v (v := .int .i64 (gt r.list k4)) rfl rfl rfl ?_ ?_
    · refine QV.qo ?_; exact q_move rfl (by kernel_rfl)
    obtain ⟨v_13, ⟨A_16, c_17, hv_14, hc_18, hs_19⟩, hat_15⟩ := MapO.look (ho3_2.step hst_7) ((gt r.list k4)) (z := .slice none 0 0) (zx := []) ⟨none, 0, rfl, Nat.zero_le _, Sl.nil _ _ _ _⟩
    obtain rfl : v_13 = _ := List.cons.inj hv_14 |>.1
    have hs_19l := hs_19.le_
    refine WR.v (v := .slice A_16 ((mget ((gt r.list k4)) (r.got)).getD []).length c_17) rfl rfl rfl ?_ ?_
    · refine QV.qo ?_; exact q_lookup1 hat_15 rfl Try.underlying79 Try.zeroValue40 (by kernel_rfl) (by kernel_rfl) (i := 1) rfl
    refine e_call_res (args := #[.slice A_out4 out.length c_out4, .slice A_16 ((mget ((gt r.list k4)) (r.got)).getD []).length c_17]) (Res := vers_Merge_ok_res (out) (((mget ((gt r.list k4)) (r.got)).getD []))) rfl rfl rfl Try.call41 rfl (by kernel_rfl) hxl_9 (fun w X' hs_ hl_ => vers_Merge_ok w X' A_out4 c_out4 (out) (Sl.step hs_out4 hs_) hc_out4 A_16 c_17 (((mget ((gt r.list k4)) (r.got)).getD [])) (Sl.step hs_19 hs_) hc_18 hl_) ?_
    intro X_20 B_21 v hst_22 hxx_23 hxl_24 hres
    obtain ⟨A_25, c_26, rfl, hs_27, hc_28⟩ := hres
    change WR _ _ _ (CC _ _ X_20 B_21 [[(gr, .cells #[.slice A0_2 r.list.length c0_2, .int .i64 r.need, .map (some m2_2)] 85 (0, 0))], r2_2]) _ _ _
    refine WR.v (v := .tuple #[.slice A_25 ((vsMerge (out) (((mget ((gt r.list k4)) (r.got)).getD []))).1).length c_26, .int .i64 ((vsMerge (out) (((mget ((gt r.list k4)) (r.got)).getD []))).2)]) rfl rfl rfl ?_ ?_
    · refine QV.qo ?_; exact q_move rfl (by kernel_rfl)
    refine WR.v (v := .slice A_25 ((vsMerge (out) (((mget ((gt r.list k4)) (r.got)).getD []))).1).length c_26) rfl rfl rfl ?_ ?_
    · refine QV.qo ?_; exact q_extract (vs := #[.slice A_25 ((vsMerge (out) (((mget ((gt r.list k4)) (r.got)).getD []))).1).length c_26, .int .i64 ((vsMerge (out) (((mget ((gt r.list k4)) (r.got)).getD []))).2)]) rfl (by kernel_rfl) rfl
    refine WR.v (v := .int .i64 ((vsMerge (out) (((mget ((gt r.list k4)) (r.got)).getD []))).2)) rfl rfl rfl ?_ ?_
    · refine QV.qo ?_; exact q_extract (vs := #[.slice A_25 ((vsMerge (out) (((mget ((gt r.list k4)) (r.got)).getD []))).1).length c_26, .int .i64 ((vsMerge (out) (((mget ((gt r.list k4)) (r.got)).getD []))).2)]) rfl (by kernel_rfl) rfl
    refine WR.v (v := .slice A_25 ((vsMerge (out) (((mget ((gt r.list k4)) (r.got)).getD []))).1).length c_26) rfl rfl rfl ?_ ?_
    · refine QV.qo ?_; exact q_assign rfl (by kernel_rfl)
    refine WR.v (v := .int .i64 ((vsMerge (out) (((mget ((gt r.list k4)) (r.got)).getD []))).2)) rfl rfl rfl ?_ ?_
    · refine QV.qo ?_; exact q_assign rfl (by kernel_rfl)
    refine WR.nil ?_
    change WC _ _ _ _ _ _
    refine WC.seq ?_
    refine WC.region ?_
    refine WR.v (v := .int .i64 ((vsMerge (out) (((mget ((gt r.list k4)) (r.got)).getD []))).2)) rfl rfl rfl ?_ ?_
    · refine QV.qo ?_; exact q_move rfl (by kernel_rfl)
    refine WR.v (v := .bool (((vsMerge (out) (((mget ((gt r.list k4)) (r.got)).getD []))).2) == 0)) rfl rfl rfl ?_ ?_
    · refine QV.qo ?_; exact q_eql (k := .i64) (a := ((vsMerge (out) (((mget ((gt r.list k4)) (r.got)).getD []))).2)) (b := 0) rfl (by kernel_rfl) (by kernel_rfl)
    refine WR.nil ?_
    change WC _ _ _ _ _ _
    refine WC.cond (b := (((vsMerge (out) (((mget ((gt r.list k4)) (r.got)).getD []))).2) == 0)) (by kernel_rfl) ?_ ?_
    · skip
      intro hb_29t
      have hp_30 := eq_of_beq hb_29t
      refine WC.region ?_
      refine WR.v (v := .slice A_25 ((vsMerge (out) (((mget ((gt r.list k4)) (r.got)).getD []))).1).length c_26) rfl rfl rfl ?_ ?_
      · refine QV.qo ?_; exact q_move rfl (by kernel_rfl)
      refine WR.v (v := .slice A_25 ((vsMerge (out) (((mget ((gt r.list k4)) (r.got)).getD []))).1).length c_26) rfl rfl rfl ?_ ?_
      · refine QV.qo ?_; exact q_assign rfl (by kernel_rfl)
      refine WR.nil ?_
      change WC _ _ _ _ _ _
      refine WC.region ?_
      refine WR.v (v := .int .i64 ((k4 + 1 : Nat) : Int)) rfl rfl rfl ?_ ?_
      · refine QV.qo ?_; exact q_add (k := .i64) (a := ((k4 : Nat) : Int)) (b := 1) (r := ((k4 + 1 : Nat) : Int)) rfl h4_14 (by kernel_rfl) (wr64 (by omega) (by omega))
      refine WR.v (v := .int .i64 ((k4 + 1 : Nat) : Int)) rfl rfl rfl ?_ ?_
      · refine QV.qo ?_; exact q_move rfl (by kernel_rfl)
      refine WR.nil ?_
      intro w hw
      refine ⟨_, ?_, k4 + 1, ((vsMerge (out) (((mget ((gt r.list k4)) (r.got)).getD []))).1), A_25, c_26, X_20, B_21, rfl, (by first | trivial | omega), ?_, ⟨h4_0, by kernel_rfl, h4_12, h4_13, by kernel_rfl⟩, (hst_7.trans hst_22), (fun k h => hxx_23 k (hxx_8 k h)), hxl_24, hs_27, hc_28, hw⟩
      · omega
      · rw [hrel4, drop_gt (by omega)]; first | (simp only [versGo, hb_11t, hb_29t, Bool.not_true, Bool.not_false, Bool.and_false, Bool.false_and, Bool.and_true, Bool.true_and, Bool.or_true, Bool.true_or, Bool.or_false, Bool.false_or, cond_true, cond_false]; done) | (simp [versGo, hb_11t, hp_12, hb_29t, hp_30]; done)
    · skip
      intro hb_29f
      have hp_31 := ne_of_beq_false hb_29f
      refine WC.skip ?_
      change WC _ _ _ _ _ _
      refine WC.region ?_
      refine WR.v (v := .int .i64 ((k4 + 1 : Nat) : Int)) rfl rfl rfl ?_ ?_
      · refine QV.qo ?_; exact q_add (k := .i64) (a := ((k4 : Nat) : Int)) (b := 1) (r := ((k4 + 1 : Nat) : Int)) rfl h4_14 (by kernel_rfl) (wr64 (by omega) (by omega))
      refine WR.v (v := .int .i64 ((k4 + 1 : Nat) : Int)) rfl rfl rfl ?_ ?_
      · refine QV.qo ?_; exact q_move rfl (by kernel_rfl)
      refine WR.nil ?_
      intro w hw
      refine ⟨_, ?_, k4 + 1, out, A_out4, c_out4, X_20, B_21, rfl, (by first | trivial | omega), ?_, ⟨h4_0, h4_3, h4_12, h4_13, by kernel_rfl⟩, (hst_7.trans hst_22), (fun k h => hxx_23 k (hxx_8 k h)), hxl_24, (hs_out4.step hst_22), hc_out4, hw⟩
      · omega
      · rw [hrel4, drop_gt (by omega)]; first | (simp only [versGo, hb_11t, hb_29f, Bool.not_true, Bool.not_false, Bool.and_false, Bool.false_and, Bool.and_true, Bool.true_and, Bool.or_true, Bool.true_or, Bool.or_false, Bool.false_or, cond_true, cond_false]; done) | (simp [versGo, hb_11t, hp_12, hb_29f, hp_31]; done)
  · skip
    intro hb_11f
    have hp_32 := of_decide_eq_false hb_11f
    refine WC.exit ?_
    change WC _ _ _ _ _ _
    refine WC.seq ?_
    refine WC.region ?_
    refine WR.v (v := .slice A_out4 out.length c_out4) rfl rfl rfl ?_ ?_
    · refine QV.qo ?_; exact q_move rfl h4_3
    refine WR.v (v := .slice A_out4 out.length c_out4) rfl rfl rfl ?_ ?_
    · refine QV.qo ?_; exact q_assign rfl (by kernel_rfl)
    refine WR.nil ?_
    change WC _ _ _ _ _ _
    refine WC.sub (C' := CC (ids [rowr]) w0 X_5 B_6 [rowr]) (fun w hw => Cur.fold_ (row := rowr) (U := [[(gr, .cells #[.slice A0_2 r.list.length c0_2, .int .i64 r.need, .map (some m2_2)] 85 (0, 0))], r2_2]) (R := []) (hw.permL (((List.perm_middle (l₁ := ([r2_2] : List Rowb)) (a := ([(gr, .cells #[.slice A0_2 r.list.length c0_2, .int .i64 r.need, .map (some m2_2)] 85 (0, 0))] : Rowb)) (l₂ := ([] : List Rowb))).symm).trans (List.perm_middle (l₁ := ([[(gr, .cells #[.slice A0_2 r.list.length c0_2, .int .i64 r.need, .map (some m2_2)] 85 (0, 0))]] : List Rowb)) (a := (r2_2 : Rowb)) (l₂ := ([] : List Rowb))).symm)) hrow_2) ?_
    refine WC.ret ?_
    intro w hw
    have hm_33 : out = r.vers := by
      unfold AskV.vers; rw [hrel4, List.drop_of_length_le (by omega)]; rfl
    refine ⟨_, rfl, ?_, Cur.frno hw hpre.loc⟩
    unfold Read_Vers_ok_res
    rw [← hm_33]
    exact ⟨A_out4, c_out4, (by kernel_rfl), Sl.step hs_out4 (hw.st0.trans (St.less hxx_8)), hc_out4⟩

def Read_Behind_ok_res (r : AskV) (Xr : Nat → Prop) (wr : World) (vr : Value) : Prop := ∃ A0 c0, vr = .slice A0 (r.behind).length c0 ∧ Sl intT Xr wr A0 (r.behind) ∧ (r.behind).length ≤ c0
set_option maxRecDepth 100000 in
set_option maxHeartbeats 1000000 in
theorem Read_Behind_ok (w0 : World) (X : Nat → Prop) (gr : Nat) (rowr : Rowb) (r : AskV) (hobr : AskV.ob 85 X w0 gr rowr r) (hpre : Pre [rowr] X w0) (hX : ∀ k, X k → k < w0.heap.size) : Calls Try.prog 26 #[.pointer (some ⟨gr, 0, none⟩)] w0 fun e w' => ∃ vr, e = .returned vr ∧ Read_Behind_ok_res r X w' vr ∧ Fr no w0 w' := by
  refine calls_of (N := 43) (rs := [2]) (args := [.pointer (some ⟨gr, 0, none⟩)]) Try.func26 rfl Try.ntmps26 Try.results26 rfl ?_
  refine WC.here (C := CC (ids [rowr]) w0 X w0 [rowr]) ?_ hpre.start
  have hob_2 := hobr
  obtain ⟨A0_2, c0_2, m2_2, r2_2, hrow_2, ho0_2, ho1_2, ho2_2, ho3_2, _⟩ := hob_2
  have ho0_2l := ho0_2.le_
  refine WC.sub (C' := CC (ids [rowr]) w0 X w0 [[(gr, .cells #[.slice A0_2 r.list.length c0_2, .int .i64 r.need, .map (some m2_2)] 85 (0, 0))], r2_2]) (fun w hw => Cur.open_ (U := [[(gr, .cells #[.slice A0_2 r.list.length c0_2, .int .i64 r.need, .map (some m2_2)] 85 (0, 0))], r2_2]) (R := []) hw hrow_2) ?_
  refine WC.seq ?_
  refine WC.region ?_
  refine WR.v (v := .slice none 0 0) rfl rfl rfl ?_ ?_
  · refine QV.qo ?_; exact q_assign rfl (by kernel_rfl)
  refine WR.nil ?_
  change WC _ _ _ _ _ _
  refine WC.seq ?_
  refine WC.region ?_
  refine WR.v (v := .pointer (some ⟨gr, 0, none⟩)) rfl rfl rfl ?_ ?_
  · refine QV.qo ?_; exact q_move rfl (by kernel_rfl)
  refine e_call_look (args := #[.pointer (some ⟨gr, 0, none⟩)]) (Res := Read_Vers_ok_res (r)) rfl rfl rfl Try.call24 rfl (by kernel_rfl) hX (fun w X' hs_ hl_ hp_ => Read_Vers_ok w X' gr rowr (r) ((hobr).step hs_) (Pre.glues (Us := [[[(gr, .cells #[.slice A0_2 r.list.length c0_2, .int .i64 r.need, .map (some m2_2)] 85 (0, 0))], r2_2]]) (rows := [rowr]) (hp_.sub (.cons_cons _ (.cons_cons _ .slnil))) (by simp [hrow_2])) hl_) ?_
  intro X_4 B_5 v hst_6 hxx_7 hxl_8 hres
  obtain ⟨A_9, c_10, rfl, hs_11, hc_12⟩ := hres
  try have hs_11l := hs_11.le_
  change WR _ _ _ (CC _ _ X_4 B_5 [[(gr, .cells #[.slice A0_2 r.list.length c0_2, .int .i64 r.need, .map (some m2_2)] 85 (0, 0))], r2_2]) _ _ _
  refine WR.v (v := .slice A_9 ((r).vers).length c_10) rfl rfl rfl ?_ ?_
  · refine QV.qo ?_; exact q_assign rfl (by kernel_rfl)
  refine WR.nil ?_
  change WC _ _ _ _ _ _
  refine WC.seq ?_
  refine WC.region ?_
  refine WR.v (v := .slice none 0 0) rfl rfl rfl ?_ ?_
  · refine QV.qo ?_; exact q_assign rfl (by kernel_rfl)
  refine WR.nil ?_
  change WC _ _ _ _ _ _
  refine WC.seq ?_
  refine WC.seq ?_
  refine WC.region ?_
  refine WR.v (v := .pointer (some ⟨gr, 0, none⟩)) rfl rfl rfl ?_ ?_
  · refine QV.qo ?_; exact q_move rfl (by kernel_rfl)
  refine WR.v (v := .pointer (some ⟨gr, 0, none⟩)) rfl rfl rfl ?_ ?_
  · refine QV.qo ?_; exact q_nil (A := some ⟨gr, 0, none⟩) rfl (by kernel_rfl) rfl
  refine WR.v (v := .pointer (some ⟨gr, 0, none⟩)) rfl rfl rfl ?_ ?_
  · refine QV.qo ?_; exact q_field_loc (g := gr) (j := 0) 0 fld_85_0 rfl (by kernel_rfl) rfl
  refine WR.v (v := .pointer (some ⟨gr, 0, none⟩)) rfl rfl rfl ?_ ?_
  · refine QV.qo ?_; exact q_field_loc (g := gr) (j := 0) 0 fld_81_0 rfl (by kernel_rfl) rfl
  refine WR.v (v := .slice A0_2 r.list.length c0_2) rfl rfl rfl ?_ ?_
  · refine QV.qo ?_; exact q_load_loc (i := 0) (g := gr) (j := 0) (v := .slice A0_2 r.list.length c0_2) rfl Try.isAgg22 (by kernel_rfl) rfl rfl
  refine WR.v (v := .int .i64 ((r.list.length : Nat) : Int)) rfl rfl rfl ?_ ?_
  · refine QV.qo ?_; exact q_len_slice (A := A0_2) (n := r.list.length) (c := c0_2) rfl Try.underlying22 (by kernel_rfl)
  refine WR.v (v := .int .i64 0) rfl rfl rfl ?_ ?_
  · refine QV.qo ?_; exact q_move rfl (by kernel_rfl)
  refine WR.nil ?_
  change WC _ _ _ _ _ _
  refine WC.block ?_
  refine WC.sub (C' := CC _ _ X_4 B_5 [[], [(gr, .cells #[.slice A0_2 r.list.length c0_2, .int .i64 r.need, .map (some m2_2)] 85 (0, 0))], r2_2]) (fun w hw => hw.pad) ?_
  refine WC.loop (fun (m : Nat) (σ : Env) (w1 : World) => ∃ (k13 : Nat)  (out : List Int) (row_out13 : Rowb) (A_out13 : Option Addr) (c_out13 : Nat) (X_15 : Nat → Prop) (B_16 : World), m = r.list.length - k13 ∧ (k13 ≤ r.list.length) ∧ (out = sel (fun k => (mget (gt r.list k) r.got).isSome && vsLacks ((mget (gt r.list k) r.got).getD []) r.vers) (gt r.list) k13) ∧ (out.length ≤ k13) ∧ (σ 0 = .pointer (some ⟨gr, 0, none⟩) ∧ σ 3 = .slice A_9 ((r).vers).length c_10 ∧ σ 4 = .slice A_out13 out.length c_out13 ∧ σ 15 = .slice A0_2 r.list.length c0_2 ∧ σ 16 = .int .i64 ((r.list.length : Nat) : Int) ∧ σ 17 = .int .i64 ((k13 : Nat) : Int)) ∧ St X_4 B_5 X_15 B_16 ∧ (∀ k, X k → X_15 k) ∧ (∀ k, X_15 k → k < B_16.heap.size) ∧ Own intT X_15 B_16 3 row_out13 A_out13 c_out13 out ∧ CC (ids [rowr]) w0 X_15 B_16 [row_out13, [(gr, .cells #[.slice A0_2 r.list.length c0_2, .int .i64 r.need, .map (some m2_2)] 85 (0, 0))], r2_2] w1) ?_ ?_
  · intro w1 hw
    exact ⟨_, 0, [], [], none, 0, X_4, B_5, rfl, (by first | trivial | omega), rfl, (by simp), ⟨by kernel_rfl, by kernel_rfl, by kernel_rfl, by kernel_rfl, by kernel_rfl, by kernel_rfl⟩, St.refl _ _, hxx_7, hxl_8, (Own.nil intT X_4 B_5 3), hw⟩
  intro m13 σ13 w1 hI
  obtain ⟨k13, out, row_out13, A_out13, c_out13, X_15, B_16, rfl, hk13, hrel13, hol, ⟨h13_0, h13_3, h13_4, h13_15, h13_16, h13_17⟩, hst_17, hxx_18, hxl_19, ho_out13, hw⟩ := hI
  refine WC.here (C := CC (ids [rowr]) w0 X_15 B_16 [row_out13, [(gr, .cells #[.slice A0_2 r.list.length c0_2, .int .i64 r.need, .map (some m2_2)] 85 (0, 0))], r2_2]) ?_ hw
  clear hw
  have ho_out13l := ho_out13.le_
  refine WC.seq ?_
  refine WC.region ?_
  refine WR.v (v := .bool (decide (((k13 : Nat) : Int) < ((r.list.length : Nat) : Int)))) rfl rfl rfl ?_ ?_
  · refine QV.qo ?_; exact q_lss (k := .i64) (a := ((k13 : Nat) : Int)) (b := ((r.list.length : Nat) : Int)) rfl h13_17 h13_16
  refine WR.nil ?_
  change WC _ _ _ _ _ _
  refine WC.seq ?_
  refine WC.cond (b := (decide (((k13 : Nat) : Int) < ((r.list.length : Nat) : Int)))) (by kernel_rfl) ?_ ?_
  · skip
    intro hb_21t
    have hp_22 := of_decide_eq_true hb_21t
    refine WC.skip ?_
    change WC _ _ _ _ _ _
    refine WC.seq ?_
    refine WC.block ?_
    refine WC.seq ?_
    refine WC.region ?_
    refine WR.v (v := ptrAt A0_2 (k13 * 1)) rfl rfl rfl ?_ ?_
    · refine QV.qo ?_; exact q_index_addr (k := .i64) (A := A0_2) (n := r.list.length) (c := c0_2) (i := k13) rfl Try.underlying22 Try.sizeOf3 h13_15 h13_17 (by omega) (Sl.some_ ((ho0_2.step hst_6).step hst_17) (k := k13) (by omega))
    refine WR.v (v := .int .i64 (gt r.list k13)) rfl rfl rfl ?_ ?_
    · refine QV.qo ?_; exact q_load_cell (A := A0_2) (j := k13 * 1) (v := .int .i64 (gt r.list k13)) rfl Try.isAgg3 (by kernel_rfl) (Sl.intT_0 ((ho0_2.step hst_6).step hst_17) (i := k13) (by omega))
    refine WR.v (v := .int .i64 (gt r.list k13)) rfl rfl rfl ?_ ?_
    · refine QV.qo ?_; exact q_assign rfl (by kernel_rfl)
    refine WR.nil ?_
    change WC _ _ _ _ _ _
    refine WC.seq ?_
    refine WC.region ?_
    refine WR.v (v := .pointer (some ⟨gr, 0, none⟩)) rfl rfl rfl ?_ ?_
    · refine QV.qo ?_; exact q_move rfl h13_0
    refine WR.v (v := .pointer (some ⟨gr, 0, none⟩)) rfl rfl rfl ?_ ?_
    · refine QV.qo ?_; exact q_nil (A := some ⟨gr, 0, none⟩) rfl (by kernel_rfl) rfl
    refine WR.v (v := .pointer (some ⟨gr, 0, none⟩)) rfl rfl rfl ?_ ?_
    · refine QV.qo ?_; exact q_field_loc (g := gr) (j := 0) 0 fld_85_0 rfl (by kernel_rfl) rfl
    refine WR.v (v := .pointer (some ⟨gr, 2, none⟩)) rfl rfl rfl ?_ ?_
    · refine QV.qo ?_; exact q_field_loc (g := gr) (j := 0) 2 fld_81_2 rfl (by kernel_rfl) rfl
    refine WR.v (v := .map (some m2_2)) rfl rfl rfl ?_ ?_
    · refine QV.qo ?_; exact q_load_loc (i := 1) (g := gr) (j := 2) (v := .map (some m2_2)) rfl Try.isAgg79 (by kernel_rfl) rfl rfl
    refine WR.v (v := .int .i64 (gt r.list k13)) rfl rfl rfl ?_ ?_
    · refine QV.qo ?_; exact q_move rfl (by kernel_rfl)
    obtain ⟨v_23, ⟨A_26, c_27, hv_24, hc_28, hs_29⟩, hat_25⟩ := MapO.look ((ho3_2.step hst_6).step hst_17) ((gt r.list k13)) (z := .slice none 0 0) (zx := []) ⟨none, 0, rfl, Nat.zero_le _, Sl.nil _ _ _ _⟩
    obtain rfl : v_23 = _ := List.cons.inj hv_24 |>.1
    have hs_29l := hs_29.le_
    refine WR.v (v := .tuple #[.slice A_26 ((mget ((gt r.list k13)) (r.got)).getD []).length c_27, .bool ((mget ((gt r.list k13)) (r.got)).isSome)]) rfl rfl rfl ?_ ?_
    · refine QV.qo ?_; exact q_lookup2 hat_25 rfl Try.underlying79 Try.zeroValue40 (by kernel_rfl) (by kernel_rfl) (i := 2) rfl
    refine WR.v (v := .tuple #[.slice A_26 ((mget ((gt r.list k13)) (r.got)).getD []).length c_27, .bool ((mget ((gt r.list k13)) (r.got)).isSome)]) rfl rfl rfl ?_ ?_
    · refine QV.qo ?_; exact q_move rfl (by kernel_rfl)
    refine WR.v (v := .slice A_26 ((mget ((gt r.list k13)) (r.got)).getD []).length c_27) rfl rfl rfl ?_ ?_
    · refine QV.qo ?_; exact q_extract (vs := #[.slice A_26 ((mget ((gt r.list k13)) (r.got)).getD []).length c_27, .bool ((mget ((gt r.list k13)) (r.got)).isSome)]) rfl (by kernel_rfl) rfl
    refine WR.v (v := .bool ((mget ((gt r.list k13)) (r.got)).isSome)) rfl rfl rfl ?_ ?_
    · refine QV.qo ?_; exact q_extract (vs := #[.slice A_26 ((mget ((gt r.list k13)) (r.got)).getD []).length c_27, .bool ((mget ((gt r.list k13)) (r.got)).isSome)]) rfl (by kernel_rfl) rfl
    refine WR.v (v := .slice A_26 ((mget ((gt r.list k13)) (r.got)).getD []).length c_27) rfl rfl rfl ?_ ?_
    · refine QV.qo ?_; exact q_assign rfl (by kernel_rfl)
    refine WR.v (v := .bool ((mget ((gt r.list k13)) (r.got)).isSome)) rfl rfl rfl ?_ ?_
    · refine QV.qo ?_; exact q_assign rfl (by kernel_rfl)
    refine WR.nil ?_
    change WC _ _ _ _ _ _
    refine WC.seq ?_
    refine WC.region ?_
    refine WR.v (v := .bool ((mget ((gt r.list k13)) (r.got)).isSome)) rfl rfl rfl ?_ ?_
    · refine QV.qo ?_; exact q_move rfl (by kernel_rfl)
    refine WR.v (v := .bool ((mget ((gt r.list k13)) (r.got)).isSome)) rfl rfl rfl ?_ ?_
    · refine QV.qo ?_; exact q_move rfl (by kernel_rfl)
    refine WR.g1 (v := .slice A_26 ((mget ((gt r.list k13)) (r.got)).getD []).length c_27) (c0 := true) (g := ((mget ((gt r.list k13)) (r.got)).isSome)) rfl rfl (by kernel_rfl) rfl rfl (fun hc_30 => ?_) ?_
    · refine QV.qo ?_; exact q_move rfl (by kernel_rfl)
    refine WR.g1 (v := .slice A_9 ((r).vers).length c_10) (c0 := true) (g := ((mget ((gt r.list k13)) (r.got)).isSome)) rfl rfl (by kernel_rfl) rfl rfl (fun hc_31 => ?_) ?_
    · refine QV.qo ?_; exact q_move rfl h13_3
    refine WR.g1 (v := .bool (vsLacks (((mget ((gt r.list k13)) (r.got)).getD [])) (((r).vers)))) (c0 := true) (g := ((mget ((gt r.list k13)) (r.got)).isSome)) rfl rfl (by kernel_rfl) rfl rfl (fun hc_32 => ?_) ?_
    · exact q_call (args := #[.slice A_26 ((mget ((gt r.list k13)) (r.got)).getD []).length c_27, .slice A_9 ((r).vers).length c_10]) Try.call47 rfl (by exact args2 (gv_of hc_32) (gv_of hc_32)) (fun w hw => vers_Lacks_ok w no A_26 c_27 (((mget ((gt r.list k13)) (r.got)).getD [])) (Sl.step hs_29 (hw.st0.trans (St.to_no _ _))) hc_28 A_9 c_10 (((r).vers)) (Sl.step (hs_11.step hst_17) (hw.st0.trans (St.to_no _ _))) hc_12 (fun _ h => h.elim))
    refine WR.v (v := .bool (((mget ((gt r.list k13)) (r.got)).isSome) && (vsLacks (((mget ((gt r.list k13)) (r.got)).getD [])) (((r).vers))))) rfl rfl rfl ?_ ?_
    · refine QV.qo ?_; exact q_pick (g := ((mget ((gt r.list k13)) (r.got)).isSome)) rfl (by kernel_rfl) (pk_and (c := true) rfl)
    refine WR.nil ?_
    change WC _ _ _ _ _ _
    refine WC.cond (b := (((mget ((gt r.list k13)) (r.got)).isSome) && (vsLacks (((mget ((gt r.list k13)) (r.got)).getD [])) (((r).vers))))) (by kernel_rfl) ?_ ?_
    · skip
      intro hb_33t
      have hp_34 := (and_l hb_33t)
      have hp_35 := (and_r hb_33t)
      refine WC.region ?_
      refine WR.v (v := .slice A_out13 out.length c_out13) rfl rfl rfl ?_ ?_
      · refine QV.qo ?_; exact q_move rfl h13_4
      refine WR.v (v := .int .i64 (gt r.list k13)) rfl rfl rfl ?_ ?_
      · refine QV.qo ?_; exact q_move rfl (by kernel_rfl)
      refine e_buildSlice (cs := #[.int .i64 (gt r.list k13)]) (e := 3) rfl rfl rfl rfl (fun w => by kernel_rfl) ?_
      intro g_36 hg_36 hg_36e
      change WR _ _ _ (CC _ _ _ _ [[(g_36, .cells #[.int .i64 (gt r.list k13)] 3 (0, 0))], row_out13, [(gr, .cells #[.slice A0_2 r.list.length c0_2, .int .i64 r.need, .map (some m2_2)] 85 (0, 0))], r2_2]) _ _ _
      refine e_append (T := intT) (xs := out) (ys := [(gt r.list k13)]) (A := A_out13) (c := c_out13) (A2 := (some ⟨g_36, 0, none⟩)) (c2 := 1) (i := 1) (row := row_out13) elem_22 rfl rfl rfl rfl (by kernel_rfl) (by kernel_rfl) rfl ho_out13 (by simp only [lim_eq, List.length_append, List.length_cons, List.length_nil, List.length_take, List.length_drop] at *; omega) (fun w hw => src_one (T := intT) (y := (gt r.list k13)) (i := 0) (g := g_36) (cs := #[.int .i64 (gt r.list k13)]) (e := 3) rfl (by exact ⟨rfl, (Sl.intT_fits ((ho0_2.step hst_6).step hst_17) (i := k13) (by omega))⟩) hw) ?_
      intro row_37 A_38 c_39 hown_40
      have hown_40l := hown_40.le_
      change WR _ _ _ (CC _ _ X_15 B_16 [[(g_36, .cells #[.int .i64 (gt r.list k13)] 3 (0, 0))], row_37, [(gr, .cells #[.slice A0_2 r.list.length c0_2, .int .i64 r.need, .map (some m2_2)] 85 (0, 0))], r2_2]) _ _ _
      refine WR.v (v := .slice A_38 (out ++ [(gt r.list k13)]).length c_39) rfl rfl rfl ?_ ?_
      · refine QV.qo ?_; exact q_assign rfl (by kernel_rfl)
      refine WR.nil ?_
      change WC _ _ _ _ _ _
      refine WC.region ?_
      refine WR.v (v := .int .i64 ((k13 + 1 : Nat) : Int)) rfl rfl rfl ?_ ?_
      · refine QV.qo ?_; exact q_add (k := .i64) (a := ((k13 : Nat) : Int)) (b := 1) (r := ((k13 + 1 : Nat) : Int)) rfl h13_17 (by kernel_rfl) (wr64 (by omega) (by omega))
      refine WR.v (v := .int .i64 ((k13 + 1 : Nat) : Int)) rfl rfl rfl ?_ ?_
      · refine QV.qo ?_; exact q_move rfl (by kernel_rfl)
      refine WR.nil ?_
      intro w hw
      refine ⟨_, ?_, k13 + 1, (out ++ [(gt r.list k13)]), row_37, A_38, c_39, X_15, B_16, rfl, (by first | trivial | omega), ?_, (by first | omega | (simp only [List.length_append, List.length_cons, List.length_nil]; omega)), ⟨h13_0, h13_3, by kernel_rfl, h13_15, h13_16, by kernel_rfl⟩, hst_17, hxx_18, hxl_19, hown_40, hw.tail⟩
      · omega
      · rw [sel_step, ← hrel13]; first | (simp only [hb_21t, hb_33t, Bool.not_true, Bool.not_false, Bool.and_false, Bool.false_and, Bool.and_true, Bool.true_and, Bool.or_true, Bool.true_or, Bool.or_false, Bool.false_or, cond_true, cond_false]; done) | (simp [hb_21t, hp_22, hb_33t, hp_34, hp_35]; done)
    · skip
      intro hb_33f
      refine WC.skip ?_
      change WC _ _ _ _ _ _
      refine WC.region ?_
      refine WR.v (v := .int .i64 ((k13 + 1 : Nat) : Int)) rfl rfl rfl ?_ ?_
      · refine QV.qo ?_; exact q_add (k := .i64) (a := ((k13 : Nat) : Int)) (b := 1) (r := ((k13 + 1 : Nat) : Int)) rfl h13_17 (by kernel_rfl) (wr64 (by omega) (by omega))
      refine WR.v (v := .int .i64 ((k13 + 1 : Nat) : Int)) rfl rfl rfl ?_ ?_
      · refine QV.qo ?_; exact q_move rfl (by kernel_rfl)
      refine WR.nil ?_
      intro w hw
      refine ⟨_, ?_, k13 + 1, out, row_out13, A_out13, c_out13, X_15, B_16, rfl, (by first | trivial | omega), ?_, (by first | omega | (simp only [List.length_append, List.length_cons, List.length_nil]; omega)), ⟨h13_0, h13_3, h13_4, h13_15, h13_16, by kernel_rfl⟩, hst_17, hxx_18, hxl_19, ho_out13, hw⟩
      · omega
      · rw [sel_step, ← hrel13]; first | (simp only [hb_21t, hb_33f, Bool.not_true, Bool.not_false, Bool.and_false, Bool.false_and, Bool.and_true, Bool.true_and, Bool.or_true, Bool.true_or, Bool.or_false, Bool.false_or, cond_true, cond_false]; done) | (simp [hb_21t, hp_22, hb_33f]; done)
  · skip
    intro hb_21f
    have hp_42 := of_decide_eq_false hb_21f
    refine WC.exit ?_
    change WC _ _ _ _ _ _
    refine WC.seq ?_
    refine WC.region ?_
    refine WR.v (v := .slice A_out13 out.length c_out13) rfl rfl rfl ?_ ?_
    · refine QV.qo ?_; exact q_move rfl h13_4
    refine WR.v (v := .slice A_out13 out.length c_out13) rfl rfl rfl ?_ ?_
    · refine QV.qo ?_; exact q_assign rfl (by kernel_rfl)
    refine WR.nil ?_
    change WC _ _ _ _ _ _
    refine WC.sub (C' := CC (ids [rowr]) w0 X_15 B_16 [rowr, row_out13]) (fun w hw => Cur.fold_ (row := rowr) (U := [[(gr, .cells #[.slice A0_2 r.list.length c0_2, .int .i64 r.need, .map (some m2_2)] 85 (0, 0))], r2_2]) (R := [row_out13]) (hw.permL (((List.perm_middle (l₁ := ([r2_2, row_out13] : List Rowb)) (a := ([(gr, .cells #[.slice A0_2 r.list.length c0_2, .int .i64 r.need, .map (some m2_2)] 85 (0, 0))] : Rowb)) (l₂ := ([] : List Rowb))).symm).trans (List.perm_middle (l₁ := ([row_out13, [(gr, .cells #[.slice A0_2 r.list.length c0_2, .int .i64 r.need, .map (some m2_2)] 85 (0, 0))]] : List Rowb)) (a := (r2_2 : Rowb)) (l₂ := ([] : List Rowb))).symm)) hrow_2) ?_
    refine WC.ret ?_
    intro w hw
    have hm_43 : out = r.behind := by
      unfold AskV.behind; rw [hrel13]; congr 1; omega
    refine ⟨_, rfl, ?_, Cur.frno (hw.perm (.cons_cons _ (.cons _ .slnil))) hpre.loc⟩
    unfold Read_Behind_ok_res
    rw [← hm_43]
    exact ⟨A_out13, c_out13, (by kernel_rfl), Own.sl ho_out13 (hw.st0.trans (St.less hxx_18)) (hw.loc row_out13 (by simp)) (Cur.fresh2 (L1 := [row_out13]) (U := [rowr]) (hw.permL (List.perm_middle (l₁ := ([rowr] : List Rowb)) (a := (row_out13 : Rowb)) (l₂ := ([] : List Rowb))).symm) (r := row_out13) (by simp) hX), Own.capz ho_out13⟩

def r16_New_ok_res (list : (List Int)) (need : Int) (U1 : List Rowb) (Xr : Nat → Prop) (wr : World) (vr : Value) : Prop := (∃ (g_0 : Nat) (row_0 : Rowb), U1 = [row_0] ∧ vr = .pointer (some ⟨g_0, 0, none⟩) ∧ Ask16.ob 76 Xr wr g_0 row_0 (r16New list need) ∧ True)
set_option maxRecDepth 100000 in
set_option maxHeartbeats 1000000 in
theorem r16_New_ok (w0 : World) (X : Nat → Prop) (Alist : Option Addr) (clist : Nat) (list : (List Int)) (hlist : Sl intT X w0 Alist list) (hclist : list.length ≤ clist) (need : Int) (hneed : I64 need) (hpre : Pre [] X w0) (hX : ∀ k, X k → k < w0.heap.size) : Calls Try.prog 10 #[.slice Alist list.length clist, .int .i64 need] w0 fun e w' => ∃ vr, e = .returned vr ∧ ∃ U1, Eff [] U1 w0 w' ∧ r16_New_ok_res list need U1 (Mx X U1) w' vr := by
  have hlistl := hlist.le_
  have hst0 := hpre.start
  obtain ⟨S, hS⟩ : ∃ S, S = ids [] := ⟨_, rfl⟩
  rw [← hS] at hst0
  have hS0 : ∀ k, ¬ S k := by subst hS; rintro k ⟨r, hr, _⟩; cases hr
  refine calls_of (N := 28) (rs := [4]) (args := [.slice Alist list.length clist, .int .i64 need]) Try.func10 rfl Try.ntmps10 Try.results10 rfl ?_
  refine WC.here (C := CC S w0 X w0 []) ?_ hst0
  refine WC.seq ?_
  refine WC.region ?_
  refine WR.v (v := .pointer none) rfl rfl rfl ?_ ?_
  · refine QV.qo ?_; exact q_assign rfl (by kernel_rfl)
  refine WR.nil ?_
  change WC _ _ _ _ _ _
  refine WC.seq ?_
  refine WC.region ?_
  refine WR.v (v := .slice Alist list.length clist) rfl rfl rfl ?_ ?_
  · refine QV.qo ?_; exact q_move rfl (by kernel_rfl)
  refine WR.v (v := .int .i64 ((list.length : Nat) : Int)) rfl rfl rfl ?_ ?_
  · refine QV.qo ?_; exact q_len_slice (A := Alist) (n := list.length) (c := clist) rfl Try.underlying22 (by kernel_rfl)
  refine WR.v (v := .int .i64 ((list.length : Nat) : Int)) rfl rfl rfl ?_ ?_
  · refine QV.qo ?_; exact q_assign rfl (by kernel_rfl)
  refine WR.nil ?_
  change WC _ _ _ _ _ _
  refine WC.seq ?_
  intro w hw; have hsep_1 := hw.sepB
  refine WC.here (C := CC S w0 X w0 []) ?_ hw; clear hw
  have hsep_2 : ∀ r ∈ ([] : List Rowb), ∀ p ∈ r, X p.1 ∨ w0.heap.size ≤ p.1 := fun r hr => hsep_1 r (List.Sublist.subset .slnil hr)
  refine WC.held (CC S w0 X w0 []) (by kernel_rfl) (fun w hw => hw.drawn _) ?_
  change WH _ _ _ _ (CC _ _ _ _ []) _ 10 #[false, false, false, false, false, false, false, false, false, false] _
  refine WH.take (i := 0) (v := .int .i64 need) rfl (by kernel_rfl) (by kernel_rfl) (by kernel_rfl) rfl rfl rfl (fun w hw => Cur.back hw (St.refl _ _) .slnil hsep_2) ?_ ?_
  · exact q_move rfl (by kernel_rfl)
  refine WH.take (i := 1) (v := .int .i64 ((list.length : Nat) : Int)) rfl (by kernel_rfl) (by kernel_rfl) (by kernel_rfl) rfl rfl rfl (fun w hw => Cur.back hw (St.refl _ _) .slnil hsep_2) ?_ ?_
  · exact q_move rfl (by kernel_rfl)
  refine WH.take (i := 3) (v := .int .i64 ((list.length : Nat) : Int)) rfl (by kernel_rfl) (by kernel_rfl) (by kernel_rfl) rfl rfl rfl (fun w hw => Cur.back hw (St.refl _ _) .slnil hsep_2) ?_ ?_
  · exact q_move rfl (by kernel_rfl)
  refine WH.take (i := 5) (v := .int .i64 ((list.length : Nat) : Int)) rfl (by kernel_rfl) (by kernel_rfl) (by kernel_rfl) rfl rfl rfl (fun w hw => Cur.back hw (St.refl _ _) .slnil hsep_2) ?_ ?_
  · exact q_move rfl (by kernel_rfl)
  refine WH.each (l := [2, 4, 6]) (by kernel_rfl) (by simp) ?_
  intro i hi; simp only [List.mem_cons, List.not_mem_nil, or_false] at hi
  rcases hi with rfl | rfl | rfl
  · refine ⟨_, rfl, ?_⟩
    refine e_makeSlice (T := boolT) (t := 73) (e := 4) (kl := .i64) (kc := .i64) (n := list.length) (z := .bool false) (zx := false) (ti := Try.t4) Try.underlying73 (by kernel_rfl) (by kernel_rfl) (by kernel_rfl) rfl (by decide) (by rw [lim_eq]; omega) rfl rfl rfl rfl (by kernel_rfl) (by kernel_rfl) ?_
    intro g_3 row_4 hg_3 hg_3e hown_5
    have hown_5l := hown_5.le_
    change WR _ _ _ (CC _ _ _ _ [row_4]) _ _ _
    refine WR.nil ?_
    refine WH.next (fun w hw => Cur.back hw (St.refl _ _) (.cons _ .slnil) hsep_2) ?_
    refine WH.each (l := [4, 6]) (by kernel_rfl) (by simp) ?_
    intro i hi; simp only [List.mem_cons, List.not_mem_nil, or_false] at hi
    rcases hi with rfl | rfl
    · refine ⟨_, rfl, ?_⟩
      refine e_makeSlice (T := (slT verT)) (t := 53) (e := 40) (kl := .i64) (kc := .i64) (n := list.length) (z := .slice none 0 0) (zx := []) (ti := Try.t40) Try.underlying53 (by kernel_rfl) (by kernel_rfl) (by kernel_rfl) ⟨none, 0, rfl, Nat.zero_le _, Sl.nil _ _ _ _⟩ (by decide) (by rw [lim_eq]; omega) rfl rfl rfl rfl (by kernel_rfl) (by kernel_rfl) ?_
      intro g_7 row_8 hg_7 hg_7e hown_9
      have hown_9l := hown_9.le_
      change WR _ _ _ (CC _ _ _ _ [row_8, row_4]) _ _ _
      refine WR.nil ?_
      refine WH.next (fun w hw => Cur.back hw (St.refl _ _) (.cons _ (.cons _ .slnil)) hsep_2) ?_
      refine WH.lone (i := 6) (by kernel_rfl) rfl ?_
      refine e_makeSlice (T := (slT recT)) (t := 74) (e := 41) (kl := .i64) (kc := .i64) (n := list.length) (z := .slice none 0 0) (zx := []) (ti := Try.t41) Try.underlying74 (by kernel_rfl) (by kernel_rfl) (by kernel_rfl) ⟨none, 0, rfl, Nat.zero_le _, Sl.nil _ _ _ _⟩ (by decide) (by rw [lim_eq]; omega) rfl rfl rfl rfl (by kernel_rfl) (by kernel_rfl) ?_
      intro g_11 row_12 hg_11 hg_11e hown_13
      have hown_13l := hown_13.le_
      change WR _ _ _ (CC _ _ _ _ [row_12, row_8, row_4]) _ _ _
      refine WR.nil ?_
      refine WH.next (fun w hw => Cur.back hw (St.refl _ _) (.cons _ (.cons _ (.cons _ .slnil))) hsep_2) ?_
      refine WH.take (i := 7) (v := .agg #[.slice none 0 0, .int .i64 need, .slice (some ⟨g_3, 0, none⟩) list.length list.length, .slice (some ⟨g_7, 0, none⟩) list.length list.length, .slice (some ⟨g_11, 0, none⟩) list.length list.length]) rfl (by kernel_rfl) (by kernel_rfl) (by kernel_rfl) rfl rfl rfl (fun w hw => Cur.back hw (St.refl _ _) (.cons _ (.cons _ (.cons _ .slnil))) hsep_2) ?_ ?_
      · exact q_build' (ps := #[(1, .int .i64 need), (2, .slice (some ⟨g_3, 0, none⟩) list.length list.length), (3, .slice (some ⟨g_7, 0, none⟩) list.length list.length), (4, .slice (some ⟨g_11, 0, none⟩) list.length list.length)]) rfl (bargs4 (by kernel_rfl) (by kernel_rfl) (by kernel_rfl) (by kernel_rfl)) (fun w => by kernel_rfl)
      refine WH.lone (i := 8) (by kernel_rfl) rfl ?_
      refine e_box (v := .agg #[.slice none 0 0, .int .i64 need, .slice (some ⟨g_3, 0, none⟩) list.length list.length, .slice (some ⟨g_7, 0, none⟩) list.length list.length, .slice (some ⟨g_11, 0, none⟩) list.length list.length]) rfl rfl rfl rfl (by kernel_rfl) ?_
      intro g_15 hg_15 hg_15e
      change WR _ _ _ (CC _ _ _ _ [[(g_15, .cells #[.slice none 0 0, .int .i64 need, .slice (some ⟨g_3, 0, none⟩) list.length list.length, .slice (some ⟨g_7, 0, none⟩) list.length list.length, .slice (some ⟨g_11, 0, none⟩) list.length list.length] 76 (0, 0))], row_12, row_8, row_4]) _ _ _
      refine WR.nil ?_
      refine WH.next (fun w hw => Cur.back hw (St.refl _ _) (.cons _ (.cons _ (.cons _ (.cons _ .slnil)))) hsep_2) ?_
      refine WH.take (i := 9) (v := .pointer (some ⟨g_15, 0, none⟩)) rfl (by kernel_rfl) (by kernel_rfl) (by kernel_rfl) rfl rfl rfl (fun w hw => Cur.back hw (St.refl _ _) (.cons _ (.cons _ (.cons _ (.cons _ .slnil)))) hsep_2) ?_ ?_
      · exact q_assign rfl (by kernel_rfl)
      refine WH.sub (C' := CC S w0 X w0 [[(g_15, .cells #[.slice none 0 0, .int .i64 need, .slice (some ⟨g_3, 0, none⟩) (List.replicate list.length false).length list.length, .slice (some ⟨g_7, 0, none⟩) (List.replicate list.length ([] : (List Ver))).length list.length, .slice (some ⟨g_11, 0, none⟩) (List.replicate list.length ([] : (List Rec))).length list.length] 76 (0, 0))], row_12, row_8, row_4]) (fun w hw => by simpa only [List.length_set, List.length_replicate] using hw) ?_
      refine WH.done (by kernel_rfl) ?_
      change WC _ _ _ _ _ _
      refine WC.seq ?_
      refine WC.region ?_
      refine WR.v (v := .pointer (some ⟨g_15, 0, none⟩)) rfl rfl rfl ?_ ?_
      · refine QV.qo ?_; exact q_move rfl (by kernel_rfl)
      refine WR.v (v := .pointer (some ⟨g_15, 0, none⟩)) rfl rfl rfl ?_ ?_
      · refine QV.qo ?_; exact q_move rfl (by kernel_rfl)
      refine WR.v (v := .pointer (some ⟨g_15, 0, none⟩)) rfl rfl rfl ?_ ?_
      · refine QV.qo ?_; exact q_nil (A := some ⟨g_15, 0, none⟩) rfl (by kernel_rfl) rfl
      refine WR.v (v := .pointer (some ⟨g_15, 0, none⟩)) rfl rfl rfl ?_ ?_
      · refine QV.qo ?_; exact q_field_loc (g := g_15) (j := 0) 0 fld_76_0 rfl (by kernel_rfl) rfl
      refine WR.v (v := .slice none 0 0) rfl rfl rfl ?_ ?_
      · refine QV.qo ?_; exact q_load_loc (i := 0) (g := g_15) (j := 0) (v := .slice none 0 0) rfl Try.isAgg22 (by kernel_rfl) rfl rfl
      refine WR.v (v := .slice Alist list.length clist) rfl rfl rfl ?_ ?_
      · refine QV.qo ?_; exact q_move rfl (by kernel_rfl)
      refine WR.sub (C' := CC _ _ X w0 [[], [(g_15, .cells #[.slice none 0 0, .int .i64 need, .slice (some ⟨g_3, 0, none⟩) (List.replicate list.length false).length list.length, .slice (some ⟨g_7, 0, none⟩) (List.replicate list.length ([] : (List Ver))).length list.length, .slice (some ⟨g_11, 0, none⟩) (List.replicate list.length ([] : (List Rec))).length list.length] 76 (0, 0))], row_12, row_8, row_4]) (fun w hw => hw.pad) ?_
      refine e_append (T := intT) (xs := []) (ys := list) (A := none) (c := 0) (A2 := Alist) (c2 := clist) (i := 0) (row := []) elem_22 rfl rfl rfl rfl (by kernel_rfl) (by kernel_rfl) rfl (Own.nil intT X w0 3) (by have hsl := Sl.le_ hlist; simp only [lim_eq, List.length_append, List.length_cons, List.length_nil, List.length_take, List.length_drop] at *; omega) (fun w hw => src_sl hlist hw) ?_
      intro row_17 A_18 c_19 hown_20
      have hown_20l := hown_20.le_
      change WR _ _ _ (CC _ _ X w0 [row_17, [(g_15, .cells #[.slice none 0 0, .int .i64 need, .slice (some ⟨g_3, 0, none⟩) (List.replicate list.length false).length list.length, .slice (some ⟨g_7, 0, none⟩) (List.replicate list.length ([] : (List Ver))).length list.length, .slice (some ⟨g_11, 0, none⟩) (List.replicate list.length ([] : (List Rec))).length list.length] 76 (0, 0))], row_12, row_8, row_4]) _ _ _
      refine WR.v (v := .pointer (some ⟨g_15, 0, none⟩)) rfl rfl rfl ?_ ?_
      · refine QV.qo ?_; exact q_nil (A := some ⟨g_15, 0, none⟩) rfl (by kernel_rfl) rfl
      refine WR.v (v := .pointer (some ⟨g_15, 0, none⟩)) rfl rfl rfl ?_ ?_
      · refine QV.qo ?_; exact q_field_loc (g := g_15) (j := 0) 0 fld_76_0 rfl (by kernel_rfl) rfl
      refine e_store_loc (i := 1) (g := g_15) (j := 0) (v := .slice A_18 list.length c_19) (new := #[.slice A_18 list.length c_19, .int .i64 need, .slice (some ⟨g_3, 0, none⟩) (List.replicate list.length false).length list.length, .slice (some ⟨g_7, 0, none⟩) (List.replicate list.length ([] : (List Ver))).length list.length, .slice (some ⟨g_11, 0, none⟩) (List.replicate list.length ([] : (List Rec))).length list.length]) (L' := [row_17, [(g_15, .cells #[.slice A_18 list.length c_19, .int .i64 need, .slice (some ⟨g_3, 0, none⟩) (List.replicate list.length false).length list.length, .slice (some ⟨g_7, 0, none⟩) (List.replicate list.length ([] : (List Ver))).length list.length, .slice (some ⟨g_11, 0, none⟩) (List.replicate list.length ([] : (List Rec))).length list.length] 76 (0, 0))], row_12, row_8, row_4]) rfl rfl rfl (by kernel_rfl) (by kernel_rfl) Try.sizeOf22 rfl rfl rfl rfl rfl rfl ?_
      refine WR.nil ?_
      change WC _ _ _ _ _ _
      refine WC.seq ?_
      refine WC.region ?_
      refine WR.v (v := .pointer (some ⟨g_15, 0, none⟩)) rfl rfl rfl ?_ ?_
      · refine QV.qo ?_; exact q_move rfl (by kernel_rfl)
      refine WR.v (v := .pointer (some ⟨g_15, 0, none⟩)) rfl rfl rfl ?_ ?_
      · refine QV.qo ?_; exact q_assign rfl (by kernel_rfl)
      refine WR.nil ?_
      change WC _ _ _ _ _ _
      have hc_28 := Own.capz hown_20
      refine WC.toData0 (T := intT) hS0 (i := 0) (row := row_17) (A := A_18) (c := c_19) (xs := list) rfl hown_20 (X0 := X) (fun _ h => h) hX hX ?_
      intro X_22 B_23 hst_24 hxx_25 hxl_26 hs_27
      change WC _ _ (CC _ _ X_22 B_23 [[], [(g_15, .cells #[.slice A_18 list.length c_19, .int .i64 need, .slice (some ⟨g_3, 0, none⟩) (List.replicate list.length false).length list.length, .slice (some ⟨g_7, 0, none⟩) (List.replicate list.length ([] : (List Ver))).length list.length, .slice (some ⟨g_11, 0, none⟩) (List.replicate list.length ([] : (List Rec))).length list.length] 76 (0, 0))], row_12, row_8, row_4]) _ _ _
      have hinv_30 : (⟨list, need, (List.replicate list.length false), (List.replicate list.length ([] : (List Ver))), (List.replicate list.length ([] : (List Rec)))⟩ : Ask16).isin.length = (⟨list, need, (List.replicate list.length false), (List.replicate list.length ([] : (List Ver))), (List.replicate list.length ([] : (List Rec)))⟩ : Ask16).list.length := (by first | omega | (simp; omega) | (simp_all; done) | (simp_all; omega))
      have hinv_31 : (⟨list, need, (List.replicate list.length false), (List.replicate list.length ([] : (List Ver))), (List.replicate list.length ([] : (List Rec)))⟩ : Ask16).vers.length = (⟨list, need, (List.replicate list.length false), (List.replicate list.length ([] : (List Ver))), (List.replicate list.length ([] : (List Rec)))⟩ : Ask16).list.length := (by first | omega | (simp; omega) | (simp_all; done) | (simp_all; omega))
      obtain ⟨row_29, hrow_29, hob_29⟩ : ∃ rw : Rowb, rw = ([[(g_15, .cells #[.slice A_18 list.length c_19, .int .i64 need, .slice (some ⟨g_3, 0, none⟩) (List.replicate list.length false).length list.length, .slice (some ⟨g_7, 0, none⟩) (List.replicate list.length ([] : (List Ver))).length list.length, .slice (some ⟨g_11, 0, none⟩) (List.replicate list.length ([] : (List Rec))).length list.length] 76 (0, 0))], row_4, row_8, row_12] : List Rowb).flatten ∧ Ask16.ob 76 X_22 B_23 g_15 rw (⟨list, need, (List.replicate list.length false), (List.replicate list.length ([] : (List Ver))), (List.replicate list.length ([] : (List Rec)))⟩ : Ask16) := ⟨_, rfl, A_18, c_19, (some ⟨g_3, 0, none⟩), list.length, row_4, (some ⟨g_7, 0, none⟩), list.length, row_8, (some ⟨g_11, 0, none⟩), list.length, row_12, rfl, hs_27, hc_28, hneed, (hown_5.step hst_24), (hown_9.step hst_24), (hown_13.step hst_24), hinv_30, hinv_31, trivial⟩
      refine WC.sub (C' := CC S w0 X_22 B_23 [row_29, []]) (fun w hw => Cur.fold_ (row := row_29) (U := [[(g_15, .cells #[.slice A_18 list.length c_19, .int .i64 need, .slice (some ⟨g_3, 0, none⟩) (List.replicate list.length false).length list.length, .slice (some ⟨g_7, 0, none⟩) (List.replicate list.length ([] : (List Ver))).length list.length, .slice (some ⟨g_11, 0, none⟩) (List.replicate list.length ([] : (List Rec))).length list.length] 76 (0, 0))], row_4, row_8, row_12]) (R := [[]]) (hw.permL (((List.perm_middle (l₁ := ([row_4, row_8, row_12, []] : List Rowb)) (a := ([(g_15, .cells #[.slice A_18 list.length c_19, .int .i64 need, .slice (some ⟨g_3, 0, none⟩) (List.replicate list.length false).length list.length, .slice (some ⟨g_7, 0, none⟩) (List.replicate list.length ([] : (List Ver))).length list.length, .slice (some ⟨g_11, 0, none⟩) (List.replicate list.length ([] : (List Rec))).length list.length] 76 (0, 0))] : Rowb)) (l₂ := ([] : List Rowb))).symm).trans (((List.perm_middle (l₁ := ([row_8, row_12, [], [(g_15, .cells #[.slice A_18 list.length c_19, .int .i64 need, .slice (some ⟨g_3, 0, none⟩) (List.replicate list.length false).length list.length, .slice (some ⟨g_7, 0, none⟩) (List.replicate list.length ([] : (List Ver))).length list.length, .slice (some ⟨g_11, 0, none⟩) (List.replicate list.length ([] : (List Rec))).length list.length] 76 (0, 0))]] : List Rowb)) (a := (row_4 : Rowb)) (l₂ := ([] : List Rowb))).symm).trans (((List.perm_middle (l₁ := ([row_12, [], [(g_15, .cells #[.slice A_18 list.length c_19, .int .i64 need, .slice (some ⟨g_3, 0, none⟩) (List.replicate list.length false).length list.length, .slice (some ⟨g_7, 0, none⟩) (List.replicate list.length ([] : (List Ver))).length list.length, .slice (some ⟨g_11, 0, none⟩) (List.replicate list.length ([] : (List Rec))).length list.length] 76 (0, 0))]] : List Rowb)) (a := (row_8 : Rowb)) (l₂ := ([row_4] : List Rowb))).symm).trans (List.perm_middle (l₁ := ([[], [(g_15, .cells #[.slice A_18 list.length c_19, .int .i64 need, .slice (some ⟨g_3, 0, none⟩) (List.replicate list.length false).length list.length, .slice (some ⟨g_7, 0, none⟩) (List.replicate list.length ([] : (List Ver))).length list.length, .slice (some ⟨g_11, 0, none⟩) (List.replicate list.length ([] : (List Rec))).length list.length] 76 (0, 0))]] : List Rowb)) (a := (row_12 : Rowb)) (l₂ := ([row_8, row_4] : List Rowb))).symm)))) hrow_29) ?_
      refine WC.ret ?_
      intro w hw
      have hm_33 : (⟨list, need, (List.replicate list.length false), (List.replicate list.length ([] : (List Ver))), (List.replicate list.length ([] : (List Rec)))⟩ : Ask16) = r16New list need := by
        rfl
      have hw2 := Cur.perm (L' := [row_29]) hw (.cons_cons _ (.cons _ .slnil))
      rw [hS] at hw2
      refine ⟨_, rfl, [row_29], hw2.toEff, ?_⟩
      unfold r16_New_ok_res
      rw [← hm_33]
      exact ⟨g_15, row_29, rfl, (by kernel_rfl), (hob_29).step (hw2.st2 hxx_25), trivial⟩
    · refine ⟨_, rfl, ?_⟩
      refine e_makeSlice (T := (slT recT)) (t := 74) (e := 41) (kl := .i64) (kc := .i64) (n := list.length) (z := .slice none 0 0) (zx := []) (ti := Try.t41) Try.underlying74 (by kernel_rfl) (by kernel_rfl) (by kernel_rfl) ⟨none, 0, rfl, Nat.zero_le _, Sl.nil _ _ _ _⟩ (by decide) (by rw [lim_eq]; omega) rfl rfl rfl rfl (by kernel_rfl) (by kernel_rfl) ?_
      intro g_34 row_35 hg_34 hg_34e hown_36
      have hown_36l := hown_36.le_
      change WR _ _ _ (CC _ _ _ _ [row_35, row_4]) _ _ _
      refine WR.nil ?_
      refine WH.next (fun w hw => Cur.back hw (St.refl _ _) (.cons _ (.cons _ .slnil)) hsep_2) ?_
      refine WH.lone (i := 4) (by kernel_rfl) rfl ?_
      refine e_makeSlice (T := (slT verT)) (t := 53) (e := 40) (kl := .i64) (kc := .i64) (n := list.length) (z := .slice none 0 0) (zx := []) (ti := Try.t40) Try.underlying53 (by kernel_rfl) (by kernel_rfl) (by kernel_rfl) ⟨none, 0, rfl, Nat.zero_le _, Sl.nil _ _ _ _⟩ (by decide) (by rw [lim_eq]; omega) rfl rfl rfl rfl (by kernel_rfl) (by kernel_rfl) ?_
      intro g_38 row_39 hg_38 hg_38e hown_40
      have hown_40l := hown_40.le_
      change WR _ _ _ (CC _ _ _ _ [row_39, row_35, row_4]) _ _ _
      refine WR.nil ?_
      refine WH.next (fun w hw => Cur.back hw (St.refl _ _) (.cons _ (.cons _ (.cons _ .slnil))) hsep_2) ?_
      refine WH.take (i := 7) (v := .agg #[.slice none 0 0, .int .i64 need, .slice (some ⟨g_3, 0, none⟩) list.length list.length, .slice (some ⟨g_38, 0, none⟩) list.length list.length, .slice (some ⟨g_34, 0, none⟩) list.length list.length]) rfl (by kernel_rfl) (by kernel_rfl) (by kernel_rfl) rfl rfl rfl (fun w hw => Cur.back hw (St.refl _ _) (.cons _ (.cons _ (.cons _ .slnil))) hsep_2) ?_ ?_
      · exact q_build' (ps := #[(1, .int .i64 need), (2, .slice (some ⟨g_3, 0, none⟩) list.length list.length), (3, .slice (some ⟨g_38, 0, none⟩) list.length list.length), (4, .slice (some ⟨g_34, 0, none⟩) list.length list.length)]) rfl (bargs4 (by kernel_rfl) (by kernel_rfl) (by kernel_rfl) (by kernel_rfl)) (fun w => by kernel_rfl)
      refine WH.lone (i := 8) (by kernel_rfl) rfl ?_
      refine e_box (v := .agg #[.slice none 0 0, .int .i64 need, .slice (some ⟨g_3, 0, none⟩) list.length list.length, .slice (some ⟨g_38, 0, none⟩) list.length list.length, .slice (some ⟨g_34, 0, none⟩) list.length list.length]) rfl rfl rfl rfl (by kernel_rfl) ?_
      intro g_42 hg_42 hg_42e
      change WR _ _ _ (CC _ _ _ _ [[(g_42, .cells #[.slice none 0 0, .int .i64 need, .slice (some ⟨g_3, 0, none⟩) list.length list.length, .slice (some ⟨g_38, 0, none⟩) list.length list.length, .slice (some ⟨g_34, 0, none⟩) list.length list.length] 76 (0, 0))], row_39, row_35, row_4]) _ _ _
      refine WR.nil ?_
      refine WH.next (fun w hw => Cur.back hw (St.refl _ _) (.cons _ (.cons _ (.cons _ (.cons _ .slnil)))) hsep_2) ?_
      refine WH.take (i := 9) (v := .pointer (some ⟨g_42, 0, none⟩)) rfl (by kernel_rfl) (by kernel_rfl) (by kernel_rfl) rfl rfl rfl (fun w hw => Cur.back hw (St.refl _ _) (.cons _ (.cons _ (.cons _ (.cons _ .slnil)))) hsep_2) ?_ ?_
      · exact q_assign rfl (by kernel_rfl)
      refine WH.sub (C' := CC S w0 X w0 [[(g_42, .cells #[.slice none 0 0, .int .i64 need, .slice (some ⟨g_3, 0, none⟩) (List.replicate list.length false).length list.length, .slice (some ⟨g_38, 0, none⟩) (List.replicate list.length ([] : (List Ver))).length list.length, .slice (some ⟨g_34, 0, none⟩) (List.replicate list.length ([] : (List Rec))).length list.length] 76 (0, 0))], row_39, row_35, row_4]) (fun w hw => by simpa only [List.length_set, List.length_replicate] using hw) ?_
      refine WH.done (by kernel_rfl) ?_
      change WC _ _ _ _ _ _
      refine WC.seq ?_
      refine WC.region ?_
      refine WR.v (v := .pointer (some ⟨g_42, 0, none⟩)) rfl rfl rfl ?_ ?_
      · refine QV.qo ?_; exact q_move rfl (by kernel_rfl)
      refine WR.v (v := .pointer (some ⟨g_42, 0, none⟩)) rfl rfl rfl ?_ ?_
      · refine QV.qo ?_; exact q_move rfl (by kernel_rfl)
      refine WR.v (v := .pointer (some ⟨g_42, 0, none⟩)) rfl rfl rfl ?_ ?_
      · refine QV.qo ?_; exact q_nil (A := some ⟨g_42, 0, none⟩) rfl (by kernel_rfl) rfl
      refine WR.v (v := .pointer (some ⟨g_42, 0, none⟩)) rfl rfl rfl ?_ ?_
      · refine QV.qo ?_; exact q_field_loc (g := g_42) (j := 0) 0 fld_76_0 rfl (by kernel_rfl) rfl
      refine WR.v (v := .slice none 0 0) rfl rfl rfl ?_ ?_
      · refine QV.qo ?_; exact q_load_loc (i := 0) (g := g_42) (j := 0) (v := .slice none 0 0) rfl Try.isAgg22 (by kernel_rfl) rfl rfl
      refine WR.v (v := .slice Alist list.length clist) rfl rfl rfl ?_ ?_
      · refine QV.qo ?_; exact q_move rfl (by kernel_rfl)
      refine WR.sub (C' := CC _ _ X w0 [[], [(g_42, .cells #[.slice none 0 0, .int .i64 need, .slice (some ⟨g_3, 0, none⟩) (List.replicate list.length false).length list.length, .slice (some ⟨g_38, 0, none⟩) (List.replicate list.length ([] : (List Ver))).length list.length, .slice (some ⟨g_34, 0, none⟩) (List.replicate list.length ([] : (List Rec))).length list.length] 76 (0, 0))], row_39, row_35, row_4]) (fun w hw => hw.pad) ?_
      refine e_append (T := intT) (xs := []) (ys := list) (A := none) (c := 0) (A2 := Alist) (c2 := clist) (i := 0) (row := []) elem_22 rfl rfl rfl rfl (by kernel_rfl) (by kernel_rfl) rfl (Own.nil intT X w0 3) (by have hsl := Sl.le_ hlist; simp only [lim_eq, List.length_append, List.length_cons, List.length_nil, List.length_take, List.length_drop] at *; omega) (fun w hw => src_sl hlist hw) ?_
      intro row_44 A_45 c_46 hown_47
      have hown_47l := hown_47.le_
      change WR _ _ _ (CC _ _ X w0 [row_44, [(g_42, .cells #[.slice none 0 0, .int .i64 need, .slice (some ⟨g_3, 0, none⟩) (List.replicate list.length false).length list.length, .slice (some ⟨g_38, 0, none⟩) (List.replicate list.length ([] : (List Ver))).length list.length, .slice (some ⟨g_34, 0, none⟩) (List.replicate list.length ([] : (List Rec))).length list.length] 76 (0, 0))], row_39, row_35, row_4]) _ _ _
      refine WR.v (v := .pointer (some ⟨g_42, 0, none⟩)) rfl rfl rfl ?_ ?_
      · refine QV.qo ?_; exact q_nil (A := some ⟨g_42, 0, none⟩) rfl (by kernel_rfl) rfl
      refine WR.v (v := .pointer (some ⟨g_42, 0, none⟩)) rfl rfl rfl ?_ ?_
      · refine QV.qo ?_; exact q_field_loc (g := g_42) (j := 0) 0 fld_76_0 rfl (by kernel_rfl) rfl
      refine e_store_loc (i := 1) (g := g_42) (j := 0) (v := .slice A_45 list.length c_46) (new := #[.slice A_45 list.length c_46, .int .i64 need, .slice (some ⟨g_3, 0, none⟩) (List.replicate list.length false).length list.length, .slice (some ⟨g_38, 0, none⟩) (List.replicate list.length ([] : (List Ver))).length list.length, .slice (some ⟨g_34, 0, none⟩) (List.replicate list.length ([] : (List Rec))).length list.length]) (L' := [row_44, [(g_42, .cells #[.slice A_45 list.length c_46, .int .i64 need, .slice (some ⟨g_3, 0, none⟩) (List.replicate list.length false).length list.length, .slice (some ⟨g_38, 0, none⟩) (List.replicate list.length ([] : (List Ver))).length list.length, .slice (some ⟨g_34, 0, none⟩) (List.replicate list.length ([] : (List Rec))).length list.length] 76 (0, 0))], row_39, row_35, row_4]) rfl rfl rfl (by kernel_rfl) (by kernel_rfl) Try.sizeOf22 rfl rfl rfl rfl rfl rfl ?_
      refine WR.nil ?_
      change WC _ _ _ _ _ _
      refine WC.seq ?_
      refine WC.region ?_
      refine WR.v (v := .pointer (some ⟨g_42, 0, none⟩)) rfl rfl rfl ?_ ?_
      · refine QV.qo ?_; exact q_move rfl (by kernel_rfl)
      refine WR.v (v := .pointer (some ⟨g_42, 0, none⟩)) rfl rfl rfl ?_ ?_
      · refine QV.qo ?_; exact q_assign rfl (by kernel_rfl)
      refine WR.nil ?_
      change WC _ _ _ _ _ _
      have hc_55 := Own.capz hown_47
      refine WC.toData0 (T := intT) hS0 (i := 0) (row := row_44) (A := A_45) (c := c_46) (xs := list) rfl hown_47 (X0 := X) (fun _ h => h) hX hX ?_
      intro X_49 B_50 hst_51 hxx_52 hxl_53 hs_54
      change WC _ _ (CC _ _ X_49 B_50 [[], [(g_42, .cells #[.slice A_45 list.length c_46, .int .i64 need, .slice (some ⟨g_3, 0, none⟩) (List.replicate list.length false).length list.length, .slice (some ⟨g_38, 0, none⟩) (List.replicate list.length ([] : (List Ver))).length list.length, .slice (some ⟨g_34, 0, none⟩) (List.replicate list.length ([] : (List Rec))).length list.length] 76 (0, 0))], row_39, row_35, row_4]) _ _ _
      have hinv_57 : (⟨list, need, (List.replicate list.length false), (List.replicate list.length ([] : (List Ver))), (List.replicate list.length ([] : (List Rec)))⟩ : Ask16).isin.length = (⟨list, need, (List.replicate list.length false), (List.replicate list.length ([] : (List Ver))), (List.replicate list.length ([] : (List Rec)))⟩ : Ask16).list.length := (by first | omega | (simp; omega) | (simp_all; done) | (simp_all; omega))
      have hinv_58 : (⟨list, need, (List.replicate list.length false), (List.replicate list.length ([] : (List Ver))), (List.replicate list.length ([] : (List Rec)))⟩ : Ask16).vers.length = (⟨list, need, (List.replicate list.length false), (List.replicate list.length ([] : (List Ver))), (List.replicate list.length ([] : (List Rec)))⟩ : Ask16).list.length := (by first | omega | (simp; omega) | (simp_all; done) | (simp_all; omega))
      obtain ⟨row_56, hrow_56, hob_56⟩ : ∃ rw : Rowb, rw = ([[(g_42, .cells #[.slice A_45 list.length c_46, .int .i64 need, .slice (some ⟨g_3, 0, none⟩) (List.replicate list.length false).length list.length, .slice (some ⟨g_38, 0, none⟩) (List.replicate list.length ([] : (List Ver))).length list.length, .slice (some ⟨g_34, 0, none⟩) (List.replicate list.length ([] : (List Rec))).length list.length] 76 (0, 0))], row_4, row_39, row_35] : List Rowb).flatten ∧ Ask16.ob 76 X_49 B_50 g_42 rw (⟨list, need, (List.replicate list.length false), (List.replicate list.length ([] : (List Ver))), (List.replicate list.length ([] : (List Rec)))⟩ : Ask16) := ⟨_, rfl, A_45, c_46, (some ⟨g_3, 0, none⟩), list.length, row_4, (some ⟨g_38, 0, none⟩), list.length, row_39, (some ⟨g_34, 0, none⟩), list.length, row_35, rfl, hs_54, hc_55, hneed, (hown_5.step hst_51), (hown_40.step hst_51), (hown_36.step hst_51), hinv_57, hinv_58, trivial⟩
      refine WC.sub (C' := CC S w0 X_49 B_50 [row_56, []]) (fun w hw => Cur.fold_ (row := row_56) (U := [[(g_42, .cells #[.slice A_45 list.length c_46, .int .i64 need, .slice (some ⟨g_3, 0, none⟩) (List.replicate list.length false).length list.length, .slice (some ⟨g_38, 0, none⟩) (List.replicate list.length ([] : (List Ver))).length list.length, .slice (some ⟨g_34, 0, none⟩) (List.replicate list.length ([] : (List Rec))).length list.length] 76 (0, 0))], row_4, row_39, row_35]) (R := [[]]) (hw.permL (((List.perm_middle (l₁ := ([row_4, row_39, row_35, []] : List Rowb)) (a := ([(g_42, .cells #[.slice A_45 list.length c_46, .int .i64 need, .slice (some ⟨g_3, 0, none⟩) (List.replicate list.length false).length list.length, .slice (some ⟨g_38, 0, none⟩) (List.replicate list.length ([] : (List Ver))).length list.length, .slice (some ⟨g_34, 0, none⟩) (List.replicate list.length ([] : (List Rec))).length list.length] 76 (0, 0))] : Rowb)) (l₂ := ([] : List Rowb))).symm).trans (((List.perm_middle (l₁ := ([row_39, row_35, [], [(g_42, .cells #[.slice A_45 list.length c_46, .int .i64 need, .slice (some ⟨g_3, 0, none⟩) (List.replicate list.length false).length list.length, .slice (some ⟨g_38, 0, none⟩) (List.replicate list.length ([] : (List Ver))).length list.length, .slice (some ⟨g_34, 0, none⟩) (List.replicate list.length ([] : (List Rec))).length list.length] 76 (0, 0))]] : List Rowb)) (a := (row_4 : Rowb)) (l₂ := ([] : List Rowb))).symm).trans (((List.perm_middle (l₁ := ([row_35, [], [(g_42, .cells #[.slice A_45 list.length c_46, .int .i64 need, .slice (some ⟨g_3, 0, none⟩) (List.replicate list.length false).length list.length, .slice (some ⟨g_38, 0, none⟩) (List.replicate list.length ([] : (List Ver))).length list.length, .slice (some ⟨g_34, 0, none⟩) (List.replicate list.length ([] : (List Rec))).length list.length] 76 (0, 0))]] : List Rowb)) (a := (row_39 : Rowb)) (l₂ := ([row_4] : List Rowb))).symm).trans (List.perm_middle (l₁ := ([[], [(g_42, .cells #[.slice A_45 list.length c_46, .int .i64 need, .slice (some ⟨g_3, 0, none⟩) (List.replicate list.length false).length list.length, .slice (some ⟨g_38, 0, none⟩) (List.replicate list.length ([] : (List Ver))).length list.length, .slice (some ⟨g_34, 0, none⟩) (List.replicate list.length ([] : (List Rec))).length list.length] 76 (0, 0))], row_39] : List Rowb)) (a := (row_35 : Rowb)) (l₂ := ([row_4] : List Rowb))).symm)))) hrow_56) ?_
      refine WC.ret ?_
      intro w hw
      have hm_60 : (⟨list, need, (List.replicate list.length false), (List.replicate list.length ([] : (List Ver))), (List.replicate list.length ([] : (List Rec)))⟩ : Ask16) = r16New list need := by
        rfl
      have hw2 := Cur.perm (L' := [row_56]) hw (.cons_cons _ (.cons _ .slnil))
      rw [hS] at hw2
      refine ⟨_, rfl, [row_56], hw2.toEff, ?_⟩
      unfold r16_New_ok_res
      rw [← hm_60]
      exact ⟨g_42, row_56, rfl, (by kernel_rfl), (hob_56).step (hw2.st2 hxx_52), trivial⟩
  · refine ⟨_, rfl, ?_⟩
    refine e_makeSlice (T := (slT verT)) (t := 53) (e := 40) (kl := .i64) (kc := .i64) (n := list.length) (z := .slice none 0 0) (zx := []) (ti := Try.t40) Try.underlying53 (by kernel_rfl) (by kernel_rfl) (by kernel_rfl) ⟨none, 0, rfl, Nat.zero_le _, Sl.nil _ _ _ _⟩ (by decide) (by rw [lim_eq]; omega) rfl rfl rfl rfl (by kernel_rfl) (by kernel_rfl) ?_
    intro g_61 row_62 hg_61 hg_61e hown_63
    have hown_63l := hown_63.le_
    change WR _ _ _ (CC _ _ _ _ [row_62]) _ _ _
    refine WR.nil ?_
    refine WH.next (fun w hw => Cur.back hw (St.refl _ _) (.cons _ .slnil) hsep_2) ?_
    refine WH.each (l := [2, 6]) (by kernel_rfl) (by simp) ?_
    intro i hi; simp only [List.mem_cons, List.not_mem_nil, or_false] at hi
    rcases hi with rfl | rfl
    · refine ⟨_, rfl, ?_⟩
      refine e_makeSlice (T := boolT) (t := 73) (e := 4) (kl := .i64) (kc := .i64) (n := list.length) (z := .bool false) (zx := false) (ti := Try.t4) Try.underlying73 (by kernel_rfl) (by kernel_rfl) (by kernel_rfl) rfl (by decide) (by rw [lim_eq]; omega) rfl rfl rfl rfl (by kernel_rfl) (by kernel_rfl) ?_
      intro g_65 row_66 hg_65 hg_65e hown_67
      have hown_67l := hown_67.le_
      change WR _ _ _ (CC _ _ _ _ [row_66, row_62]) _ _ _
      refine WR.nil ?_
      refine WH.next (fun w hw => Cur.back hw (St.refl _ _) (.cons _ (.cons _ .slnil)) hsep_2) ?_
      refine WH.lone (i := 6) (by kernel_rfl) rfl ?_
      refine e_makeSlice (T := (slT recT)) (t := 74) (e := 41) (kl := .i64) (kc := .i64) (n := list.length) (z := .slice none 0 0) (zx := []) (ti := Try.t41) Try.underlying74 (by kernel_rfl) (by kernel_rfl) (by kernel_rfl) ⟨none, 0, rfl, Nat.zero_le _, Sl.nil _ _ _ _⟩ (by decide) (by rw [lim_eq]; omega) rfl rfl rfl rfl (by kernel_rfl) (by kernel_rfl) ?_
      intro g_69 row_70 hg_69 hg_69e hown_71
      have hown_71l := hown_71.le_
      change WR _ _ _ (CC _ _ _ _ [row_70, row_66, row_62]) _ _ _
      refine WR.nil ?_
      refine WH.next (fun w hw => Cur.back hw (St.refl _ _) (.cons _ (.cons _ (.cons _ .slnil))) hsep_2) ?_
      refine WH.take (i := 7) (v := .agg #[.slice none 0 0, .int .i64 need, .slice (some ⟨g_65, 0, none⟩) list.length list.length, .slice (some ⟨g_61, 0, none⟩) list.length list.length, .slice (some ⟨g_69, 0, none⟩) list.length list.length]) rfl (by kernel_rfl) (by kernel_rfl) (by kernel_rfl) rfl rfl rfl (fun w hw => Cur.back hw (St.refl _ _) (.cons _ (.cons _ (.cons _ .slnil))) hsep_2) ?_ ?_
      · exact q_build' (ps := #[(1, .int .i64 need), (2, .slice (some ⟨g_65, 0, none⟩) list.length list.length), (3, .slice (some ⟨g_61, 0, none⟩) list.length list.length), (4, .slice (some ⟨g_69, 0, none⟩) list.length list.length)]) rfl (bargs4 (by kernel_rfl) (by kernel_rfl) (by kernel_rfl) (by kernel_rfl)) (fun w => by kernel_rfl)
      refine WH.lone (i := 8) (by kernel_rfl) rfl ?_
      refine e_box (v := .agg #[.slice none 0 0, .int .i64 need, .slice (some ⟨g_65, 0, none⟩) list.length list.length, .slice (some ⟨g_61, 0, none⟩) list.length list.length, .slice (some ⟨g_69, 0, none⟩) list.length list.length]) rfl rfl rfl rfl (by kernel_rfl) ?_
      intro g_73 hg_73 hg_73e
      change WR _ _ _ (CC _ _ _ _ [[(g_73, .cells #[.slice none 0 0, .int .i64 need, .slice (some ⟨g_65, 0, none⟩) list.length list.length, .slice (some ⟨g_61, 0, none⟩) list.length list.length, .slice (some ⟨g_69, 0, none⟩) list.length list.length] 76 (0, 0))], row_70, row_66, row_62]) _ _ _
      refine WR.nil ?_
      refine WH.next (fun w hw => Cur.back hw (St.refl _ _) (.cons _ (.cons _ (.cons _ (.cons _ .slnil)))) hsep_2) ?_
      refine WH.take (i := 9) (v := .pointer (some ⟨g_73, 0, none⟩)) rfl (by kernel_rfl) (by kernel_rfl) (by kernel_rfl) rfl rfl rfl (fun w hw => Cur.back hw (St.refl _ _) (.cons _ (.cons _ (.cons _ (.cons _ .slnil)))) hsep_2) ?_ ?_
      · exact q_assign rfl (by kernel_rfl)
      refine WH.sub (C' := CC S w0 X w0 [[(g_73, .cells #[.slice none 0 0, .int .i64 need, .slice (some ⟨g_65, 0, none⟩) (List.replicate list.length false).length list.length, .slice (some ⟨g_61, 0, none⟩) (List.replicate list.length ([] : (List Ver))).length list.length, .slice (some ⟨g_69, 0, none⟩) (List.replicate list.length ([] : (List Rec))).length list.length] 76 (0, 0))], row_70, row_66, row_62]) (fun w hw => by simpa only [List.length_set, List.length_replicate] using hw) ?_
      refine WH.done (by kernel_rfl) ?_
      change WC _ _ _ _ _ _
      refine WC.seq ?_
      refine WC.region ?_
      refine WR.v (v := .pointer (some ⟨g_73, 0, none⟩)) rfl rfl rfl ?_ ?_
      · refine QV.qo ?_; exact q_move rfl (by kernel_rfl)
      refine WR.v (v := .pointer (some ⟨g_73, 0, none⟩)) rfl rfl rfl ?_ ?_
      · refine QV.qo ?_; exact q_move rfl (by kernel_rfl)
      refine WR.v (v := .pointer (some ⟨g_73, 0, none⟩)) rfl rfl rfl ?_ ?_
      · refine QV.qo ?_; exact q_nil (A := some ⟨g_73, 0, none⟩) rfl (by kernel_rfl) rfl
      refine WR.v (v := .pointer (some ⟨g_73, 0, none⟩)) rfl rfl rfl ?_ ?_
      · refine QV.qo ?_; exact q_field_loc (g := g_73) (j := 0) 0 fld_76_0 rfl (by kernel_rfl) rfl
      refine WR.v (v := .slice none 0 0) rfl rfl rfl ?_ ?_
      · refine QV.qo ?_; exact q_load_loc (i := 0) (g := g_73) (j := 0) (v := .slice none 0 0) rfl Try.isAgg22 (by kernel_rfl) rfl rfl
      refine WR.v (v := .slice Alist list.length clist) rfl rfl rfl ?_ ?_
      · refine QV.qo ?_; exact q_move rfl (by kernel_rfl)
      refine WR.sub (C' := CC _ _ X w0 [[], [(g_73, .cells #[.slice none 0 0, .int .i64 need, .slice (some ⟨g_65, 0, none⟩) (List.replicate list.length false).length list.length, .slice (some ⟨g_61, 0, none⟩) (List.replicate list.length ([] : (List Ver))).length list.length, .slice (some ⟨g_69, 0, none⟩) (List.replicate list.length ([] : (List Rec))).length list.length] 76 (0, 0))], row_70, row_66, row_62]) (fun w hw => hw.pad) ?_
      refine e_append (T := intT) (xs := []) (ys := list) (A := none) (c := 0) (A2 := Alist) (c2 := clist) (i := 0) (row := []) elem_22 rfl rfl rfl rfl (by kernel_rfl) (by kernel_rfl) rfl (Own.nil intT X w0 3) (by have hsl := Sl.le_ hlist; simp only [lim_eq, List.length_append, List.length_cons, List.length_nil, List.length_take, List.length_drop] at *; omega) (fun w hw => src_sl hlist hw) ?_
      intro row_75 A_76 c_77 hown_78
      have hown_78l := hown_78.le_
      change WR _ _ _ (CC _ _ X w0 [row_75, [(g_73, .cells #[.slice none 0 0, .int .i64 need, .slice (some ⟨g_65, 0, none⟩) (List.replicate list.length false).length list.length, .slice (some ⟨g_61, 0, none⟩) (List.replicate list.length ([] : (List Ver))).length list.length, .slice (some ⟨g_69, 0, none⟩) (List.replicate list.length ([] : (List Rec))).length list.length] 76 (0, 0))], row_70, row_66, row_62]) _ _ _
      refine WR.v (v := .pointer (some ⟨g_73, 0, none⟩)) rfl rfl rfl ?_ ?_
      · refine QV.qo ?_; exact q_nil (A := some ⟨g_73, 0, none⟩) rfl (by kernel_rfl) rfl
      refine WR.v (v := .pointer (some ⟨g_73, 0, none⟩)) rfl rfl rfl ?_ ?_
      · refine QV.qo ?_; exact q_field_loc (g := g_73) (j := 0) 0 fld_76_0 rfl (by kernel_rfl) rfl
      refine e_store_loc (i := 1) (g := g_73) (j := 0) (v := .slice A_76 list.length c_77) (new := #[.slice A_76 list.length c_77, .int .i64 need, .slice (some ⟨g_65, 0, none⟩) (List.replicate list.length false).length list.length, .slice (some ⟨g_61, 0, none⟩) (List.replicate list.length ([] : (List Ver))).length list.length, .slice (some ⟨g_69, 0, none⟩) (List.replicate list.length ([] : (List Rec))).length list.length]) (L' := [row_75, [(g_73, .cells #[.slice A_76 list.length c_77, .int .i64 need, .slice (some ⟨g_65, 0, none⟩) (List.replicate list.length false).length list.length, .slice (some ⟨g_61, 0, none⟩) (List.replicate list.length ([] : (List Ver))).length list.length, .slice (some ⟨g_69, 0, none⟩) (List.replicate list.length ([] : (List Rec))).length list.length] 76 (0, 0))], row_70, row_66, row_62]) rfl rfl rfl (by kernel_rfl) (by kernel_rfl) Try.sizeOf22 rfl rfl rfl rfl rfl rfl ?_
      refine WR.nil ?_
      change WC _ _ _ _ _ _
      refine WC.seq ?_
      refine WC.region ?_
      refine WR.v (v := .pointer (some ⟨g_73, 0, none⟩)) rfl rfl rfl ?_ ?_
      · refine QV.qo ?_; exact q_move rfl (by kernel_rfl)
      refine WR.v (v := .pointer (some ⟨g_73, 0, none⟩)) rfl rfl rfl ?_ ?_
      · refine QV.qo ?_; exact q_assign rfl (by kernel_rfl)
      refine WR.nil ?_
      change WC _ _ _ _ _ _
      have hc_86 := Own.capz hown_78
      refine WC.toData0 (T := intT) hS0 (i := 0) (row := row_75) (A := A_76) (c := c_77) (xs := list) rfl hown_78 (X0 := X) (fun _ h => h) hX hX ?_
      intro X_80 B_81 hst_82 hxx_83 hxl_84 hs_85
      change WC _ _ (CC _ _ X_80 B_81 [[], [(g_73, .cells #[.slice A_76 list.length c_77, .int .i64 need, .slice (some ⟨g_65, 0, none⟩) (List.replicate list.length false).length list.length, .slice (some ⟨g_61, 0, none⟩) (List.replicate list.length ([] : (List Ver))).length list.length, .slice (some ⟨g_69, 0, none⟩) (List.replicate list.length ([] : (List Rec))).length list.length] 76 (0, 0))], row_70, row_66, row_62]) _ _ _
      have hinv_88 : (⟨list, need, (List.replicate list.length false), (List.replicate list.length ([] : (List Ver))), (List.replicate list.length ([] : (List Rec)))⟩ : Ask16).isin.length = (⟨list, need, (List.replicate list.length false), (List.replicate list.length ([] : (List Ver))), (List.replicate list.length ([] : (List Rec)))⟩ : Ask16).list.length := (by first | omega | (simp; omega) | (simp_all; done) | (simp_all; omega))
      have hinv_89 : (⟨list, need, (List.replicate list.length false), (List.replicate list.length ([] : (List Ver))), (List.replicate list.length ([] : (List Rec)))⟩ : Ask16).vers.length = (⟨list, need, (List.replicate list.length false), (List.replicate list.length ([] : (List Ver))), (List.replicate list.length ([] : (List Rec)))⟩ : Ask16).list.length := (by first | omega | (simp; omega) | (simp_all; done) | (simp_all; omega))
      obtain ⟨row_87, hrow_87, hob_87⟩ : ∃ rw : Rowb, rw = ([[(g_73, .cells #[.slice A_76 list.length c_77, .int .i64 need, .slice (some ⟨g_65, 0, none⟩) (List.replicate list.length false).length list.length, .slice (some ⟨g_61, 0, none⟩) (List.replicate list.length ([] : (List Ver))).length list.length, .slice (some ⟨g_69, 0, none⟩) (List.replicate list.length ([] : (List Rec))).length list.length] 76 (0, 0))], row_66, row_62, row_70] : List Rowb).flatten ∧ Ask16.ob 76 X_80 B_81 g_73 rw (⟨list, need, (List.replicate list.length false), (List.replicate list.length ([] : (List Ver))), (List.replicate list.length ([] : (List Rec)))⟩ : Ask16) := ⟨_, rfl, A_76, c_77, (some ⟨g_65, 0, none⟩), list.length, row_66, (some ⟨g_61, 0, none⟩), list.length, row_62, (some ⟨g_69, 0, none⟩), list.length, row_70, rfl, hs_85, hc_86, hneed, (hown_67.step hst_82), (hown_63.step hst_82), (hown_71.step hst_82), hinv_88, hinv_89, trivial⟩
      refine WC.sub (C' := CC S w0 X_80 B_81 [row_87, []]) (fun w hw => Cur.fold_ (row := row_87) (U := [[(g_73, .cells #[.slice A_76 list.length c_77, .int .i64 need, .slice (some ⟨g_65, 0, none⟩) (List.replicate list.length false).length list.length, .slice (some ⟨g_61, 0, none⟩) (List.replicate list.length ([] : (List Ver))).length list.length, .slice (some ⟨g_69, 0, none⟩) (List.replicate list.length ([] : (List Rec))).length list.length] 76 (0, 0))], row_66, row_62, row_70]) (R := [[]]) (hw.permL (((List.perm_middle (l₁ := ([row_66, row_62, row_70, []] : List Rowb)) (a := ([(g_73, .cells #[.slice A_76 list.length c_77, .int .i64 need, .slice (some ⟨g_65, 0, none⟩) (List.replicate list.length false).length list.length, .slice (some ⟨g_61, 0, none⟩) (List.replicate list.length ([] : (List Ver))).length list.length, .slice (some ⟨g_69, 0, none⟩) (List.replicate list.length ([] : (List Rec))).length list.length] 76 (0, 0))] : Rowb)) (l₂ := ([] : List Rowb))).symm).trans (((List.perm_middle (l₁ := ([row_62, row_70, [], [(g_73, .cells #[.slice A_76 list.length c_77, .int .i64 need, .slice (some ⟨g_65, 0, none⟩) (List.replicate list.length false).length list.length, .slice (some ⟨g_61, 0, none⟩) (List.replicate list.length ([] : (List Ver))).length list.length, .slice (some ⟨g_69, 0, none⟩) (List.replicate list.length ([] : (List Rec))).length list.length] 76 (0, 0))]] : List Rowb)) (a := (row_66 : Rowb)) (l₂ := ([] : List Rowb))).symm).trans (((List.perm_middle (l₁ := ([row_70, [], [(g_73, .cells #[.slice A_76 list.length c_77, .int .i64 need, .slice (some ⟨g_65, 0, none⟩) (List.replicate list.length false).length list.length, .slice (some ⟨g_61, 0, none⟩) (List.replicate list.length ([] : (List Ver))).length list.length, .slice (some ⟨g_69, 0, none⟩) (List.replicate list.length ([] : (List Rec))).length list.length] 76 (0, 0))], row_66] : List Rowb)) (a := (row_62 : Rowb)) (l₂ := ([] : List Rowb))).symm).trans (List.perm_middle (l₁ := ([[], [(g_73, .cells #[.slice A_76 list.length c_77, .int .i64 need, .slice (some ⟨g_65, 0, none⟩) (List.replicate list.length false).length list.length, .slice (some ⟨g_61, 0, none⟩) (List.replicate list.length ([] : (List Ver))).length list.length, .slice (some ⟨g_69, 0, none⟩) (List.replicate list.length ([] : (List Rec))).length list.length] 76 (0, 0))]] : List Rowb)) (a := (row_70 : Rowb)) (l₂ := ([row_66, row_62] : List Rowb))).symm)))) hrow_87) ?_
      refine WC.ret ?_
      intro w hw
      have hm_91 : (⟨list, need, (List.replicate list.length false), (List.replicate list.length ([] : (List Ver))), (List.replicate list.length ([] : (List Rec)))⟩ : Ask16) = r16New list need := by
        rfl
      have hw2 := Cur.perm (L' := [row_87]) hw (.cons_cons _ (.cons _ .slnil))
      rw [hS] at hw2
      refine ⟨_, rfl, [row_87], hw2.toEff, ?_⟩
      unfold r16_New_ok_res
      rw [← hm_91]
      exact ⟨g_73, row_87, rfl, (by kernel_rfl), (hob_87).step (hw2.st2 hxx_83), trivial⟩
    · refine ⟨_, rfl, ?_⟩
      refine e_makeSlice (T := (slT recT)) (t := 74) (e := 41) (kl := .i64) (kc := .i64) (n := list.length) (z := .slice none 0 0) (zx := []) (ti := Try.t41) Try.underlying74 (by kernel_rfl) (by kernel_rfl) (by kernel_rfl) ⟨none, 0, rfl, Nat.zero_le _, Sl.nil _ _ _ _⟩ (by decide) (by rw [lim_eq]; omega) rfl rfl rfl rfl (by kernel_rfl) (by kernel_rfl) ?_
      intro g_92 row_93 hg_92 hg_92e hown_94
      have hown_94l := hown_94.le_
      change WR _ _ _ (CC _ _ _ _ [row_93, row_62]) _ _ _
      refine WR.nil ?_
      refine WH.next (fun w hw => Cur.back hw (St.refl _ _) (.cons _ (.cons _ .slnil)) hsep_2) ?_
      refine WH.lone (i := 2) (by kernel_rfl) rfl ?_
      refine e_makeSlice (T := boolT) (t := 73) (e := 4) (kl := .i64) (kc := .i64) (n := list.length) (z := .bool false) (zx := false) (ti := Try.t4) Try.underlying73 (by kernel_rfl) (by kernel_rfl) (by kernel_rfl) rfl (by decide) (by rw [lim_eq]; omega) rfl rfl rfl rfl (by kernel_rfl) (by kernel_rfl) ?_
      intro g_96 row_97 hg_96 hg_96e hown_98
      have hown_98l := hown_98.le_
      change WR _ _ _ (CC _ _ _ _ [row_97, row_93, row_62]) _ _ _
      refine WR.nil ?_
      refine WH.next (fun w hw => Cur.back hw (St.refl _ _) (.cons _ (.cons _ (.cons _ .slnil))) hsep_2) ?_
      refine WH.take (i := 7) (v := .agg #[.slice none 0 0, .int .i64 need, .slice (some ⟨g_96, 0, none⟩) list.length list.length, .slice (some ⟨g_61, 0, none⟩) list.length list.length, .slice (some ⟨g_92, 0, none⟩) list.length list.length]) rfl (by kernel_rfl) (by kernel_rfl) (by kernel_rfl) rfl rfl rfl (fun w hw => Cur.back hw (St.refl _ _) (.cons _ (.cons _ (.cons _ .slnil))) hsep_2) ?_ ?_
      · exact q_build' (ps := #[(1, .int .i64 need), (2, .slice (some ⟨g_96, 0, none⟩) list.length list.length), (3, .slice (some ⟨g_61, 0, none⟩) list.length list.length), (4, .slice (some ⟨g_92, 0, none⟩) list.length list.length)]) rfl (bargs4 (by kernel_rfl) (by kernel_rfl) (by kernel_rfl) (by kernel_rfl)) (fun w => by kernel_rfl)
      refine WH.lone (i := 8) (by kernel_rfl) rfl ?_
      refine e_box (v := .agg #[.slice none 0 0, .int .i64 need, .slice (some ⟨g_96, 0, none⟩) list.length list.length, .slice (some ⟨g_61, 0, none⟩) list.length list.length, .slice (some ⟨g_92, 0, none⟩) list.length list.length]) rfl rfl rfl rfl (by kernel_rfl) ?_
      intro g_100 hg_100 hg_100e
      change WR _ _ _ (CC _ _ _ _ [[(g_100, .cells #[.slice none 0 0, .int .i64 need, .slice (some ⟨g_96, 0, none⟩) list.length list.length, .slice (some ⟨g_61, 0, none⟩) list.length list.length, .slice (some ⟨g_92, 0, none⟩) list.length list.length] 76 (0, 0))], row_97, row_93, row_62]) _ _ _
      refine WR.nil ?_
      refine WH.next (fun w hw => Cur.back hw (St.refl _ _) (.cons _ (.cons _ (.cons _ (.cons _ .slnil)))) hsep_2) ?_
      refine WH.take (i := 9) (v := .pointer (some ⟨g_100, 0, none⟩)) rfl (by kernel_rfl) (by kernel_rfl) (by kernel_rfl) rfl rfl rfl (fun w hw => Cur.back hw (St.refl _ _) (.cons _ (.cons _ (.cons _ (.cons _ .slnil)))) hsep_2) ?_ ?_
      · exact q_assign rfl (by kernel_rfl)
      refine WH.sub (C' := CC S w0 X w0 [[(g_100, .cells #[.slice none 0 0, .int .i64 need, .slice (some ⟨g_96, 0, none⟩) (List.replicate list.length false).length list.length, .slice (some ⟨g_61, 0, none⟩) (List.replicate list.length ([] : (List Ver))).length list.length, .slice (some ⟨g_92, 0, none⟩) (List.replicate list.length ([] : (List Rec))).length list.length] 76 (0, 0))], row_97, row_93, row_62]) (fun w hw => by simpa only [List.length_set, List.length_replicate] using hw) ?_
      refine WH.done (by kernel_rfl) ?_
      change WC _ _ _ _ _ _
      refine WC.seq ?_
      refine WC.region ?_
      refine WR.v (v := .pointer (some ⟨g_100, 0, none⟩)) rfl rfl rfl ?_ ?_
      · refine QV.qo ?_; exact q_move rfl (by kernel_rfl)
      refine WR.v (v := .pointer (some ⟨g_100, 0, none⟩)) rfl rfl rfl ?_ ?_
      · refine QV.qo ?_; exact q_move rfl (by kernel_rfl)
      refine WR.v (v := .pointer (some ⟨g_100, 0, none⟩)) rfl rfl rfl ?_ ?_
      · refine QV.qo ?_; exact q_nil (A := some ⟨g_100, 0, none⟩) rfl (by kernel_rfl) rfl
      refine WR.v (v := .pointer (some ⟨g_100, 0, none⟩)) rfl rfl rfl ?_ ?_
      · refine QV.qo ?_; exact q_field_loc (g := g_100) (j := 0) 0 fld_76_0 rfl (by kernel_rfl) rfl
      refine WR.v (v := .slice none 0 0) rfl rfl rfl ?_ ?_
      · refine QV.qo ?_; exact q_load_loc (i := 0) (g := g_100) (j := 0) (v := .slice none 0 0) rfl Try.isAgg22 (by kernel_rfl) rfl rfl
      refine WR.v (v := .slice Alist list.length clist) rfl rfl rfl ?_ ?_
      · refine QV.qo ?_; exact q_move rfl (by kernel_rfl)
      refine WR.sub (C' := CC _ _ X w0 [[], [(g_100, .cells #[.slice none 0 0, .int .i64 need, .slice (some ⟨g_96, 0, none⟩) (List.replicate list.length false).length list.length, .slice (some ⟨g_61, 0, none⟩) (List.replicate list.length ([] : (List Ver))).length list.length, .slice (some ⟨g_92, 0, none⟩) (List.replicate list.length ([] : (List Rec))).length list.length] 76 (0, 0))], row_97, row_93, row_62]) (fun w hw => hw.pad) ?_
      refine e_append (T := intT) (xs := []) (ys := list) (A := none) (c := 0) (A2 := Alist) (c2 := clist) (i := 0) (row := []) elem_22 rfl rfl rfl rfl (by kernel_rfl) (by kernel_rfl) rfl (Own.nil intT X w0 3) (by have hsl := Sl.le_ hlist; simp only [lim_eq, List.length_append, List.length_cons, List.length_nil, List.length_take, List.length_drop] at *; omega) (fun w hw => src_sl hlist hw) ?_
      intro row_102 A_103 c_104 hown_105
      have hown_105l := hown_105.le_
      change WR _ _ _ (CC _ _ X w0 [row_102, [(g_100, .cells #[.slice none 0 0, .int .i64 need, .slice (some ⟨g_96, 0, none⟩) (List.replicate list.length false).length list.length, .slice (some ⟨g_61, 0, none⟩) (List.replicate list.length ([] : (List Ver))).length list.length, .slice (some ⟨g_92, 0, none⟩) (List.replicate list.length ([] : (List Rec))).length list.length] 76 (0, 0))], row_97, row_93, row_62]) _ _ _
      refine WR.v (v := .pointer (some ⟨g_100, 0, none⟩)) rfl rfl rfl ?_ ?_
      · refine QV.qo ?_; exact q_nil (A := some ⟨g_100, 0, none⟩) rfl (by kernel_rfl) rfl
      refine WR.v (v := .pointer (some ⟨g_100, 0, none⟩)) rfl rfl rfl ?_ ?_
      · refine QV.qo ?_; exact q_field_loc (g := g_100) (j := 0) 0 fld_76_0 rfl (by kernel_rfl) rfl
      refine e_store_loc (i := 1) (g := g_100) (j := 0) (v := .slice A_103 list.length c_104) (new := #[.slice A_103 list.length c_104, .int .i64 need, .slice (some ⟨g_96, 0, none⟩) (List.replicate list.length false).length list.length, .slice (some ⟨g_61, 0, none⟩) (List.replicate list.length ([] : (List Ver))).length list.length, .slice (some ⟨g_92, 0, none⟩) (List.replicate list.length ([] : (List Rec))).length list.length]) (L' := [row_102, [(g_100, .cells #[.slice A_103 list.length c_104, .int .i64 need, .slice (some ⟨g_96, 0, none⟩) (List.replicate list.length false).length list.length, .slice (some ⟨g_61, 0, none⟩) (List.replicate list.length ([] : (List Ver))).length list.length, .slice (some ⟨g_92, 0, none⟩) (List.replicate list.length ([] : (List Rec))).length list.length] 76 (0, 0))], row_97, row_93, row_62]) rfl rfl rfl (by kernel_rfl) (by kernel_rfl) Try.sizeOf22 rfl rfl rfl rfl rfl rfl ?_
      refine WR.nil ?_
      change WC _ _ _ _ _ _
      refine WC.seq ?_
      refine WC.region ?_
      refine WR.v (v := .pointer (some ⟨g_100, 0, none⟩)) rfl rfl rfl ?_ ?_
      · refine QV.qo ?_; exact q_move rfl (by kernel_rfl)
      refine WR.v (v := .pointer (some ⟨g_100, 0, none⟩)) rfl rfl rfl ?_ ?_
      · refine QV.qo ?_; exact q_assign rfl (by kernel_rfl)
      refine WR.nil ?_
      change WC _ _ _ _ _ _
      have hc_113 := Own.capz hown_105
      refine WC.toData0 (T := intT) hS0 (i := 0) (row := row_102) (A := A_103) (c := c_104) (xs := list) rfl hown_105 (X0 := X) (fun _ h => h) hX hX ?_
      intro X_107 B_108 hst_109 hxx_110 hxl_111 hs_112
      change WC _ _ (CC _ _ X_107 B_108 [[], [(g_100, .cells #[.slice A_103 list.length c_104, .int .i64 need, .slice (some ⟨g_96, 0, none⟩) (List.replicate list.length false).length list.length, .slice (some ⟨g_61, 0, none⟩) (List.replicate list.length ([] : (List Ver))).length list.length, .slice (some ⟨g_92, 0, none⟩) (List.replicate list.length ([] : (List Rec))).length list.length] 76 (0, 0))], row_97, row_93, row_62]) _ _ _
      have hinv_115 : (⟨list, need, (List.replicate list.length false), (List.replicate list.length ([] : (List Ver))), (List.replicate list.length ([] : (List Rec)))⟩ : Ask16).isin.length = (⟨list, need, (List.replicate list.length false), (List.replicate list.length ([] : (List Ver))), (List.replicate list.length ([] : (List Rec)))⟩ : Ask16).list.length := (by first | omega | (simp; omega) | (simp_all; done) | (simp_all; omega))
      have hinv_116 : (⟨list, need, (List.replicate list.length false), (List.replicate list.length ([] : (List Ver))), (List.replicate list.length ([] : (List Rec)))⟩ : Ask16).vers.length = (⟨list, need, (List.replicate list.length false), (List.replicate list.length ([] : (List Ver))), (List.replicate list.length ([] : (List Rec)))⟩ : Ask16).list.length := (by first | omega | (simp; omega) | (simp_all; done) | (simp_all; omega))
      obtain ⟨row_114, hrow_114, hob_114⟩ : ∃ rw : Rowb, rw = ([[(g_100, .cells #[.slice A_103 list.length c_104, .int .i64 need, .slice (some ⟨g_96, 0, none⟩) (List.replicate list.length false).length list.length, .slice (some ⟨g_61, 0, none⟩) (List.replicate list.length ([] : (List Ver))).length list.length, .slice (some ⟨g_92, 0, none⟩) (List.replicate list.length ([] : (List Rec))).length list.length] 76 (0, 0))], row_97, row_62, row_93] : List Rowb).flatten ∧ Ask16.ob 76 X_107 B_108 g_100 rw (⟨list, need, (List.replicate list.length false), (List.replicate list.length ([] : (List Ver))), (List.replicate list.length ([] : (List Rec)))⟩ : Ask16) := ⟨_, rfl, A_103, c_104, (some ⟨g_96, 0, none⟩), list.length, row_97, (some ⟨g_61, 0, none⟩), list.length, row_62, (some ⟨g_92, 0, none⟩), list.length, row_93, rfl, hs_112, hc_113, hneed, (hown_98.step hst_109), (hown_63.step hst_109), (hown_94.step hst_109), hinv_115, hinv_116, trivial⟩
      refine WC.sub (C' := CC S w0 X_107 B_108 [row_114, []]) (fun w hw => Cur.fold_ (row := row_114) (U := [[(g_100, .cells #[.slice A_103 list.length c_104, .int .i64 need, .slice (some ⟨g_96, 0, none⟩) (List.replicate list.length false).length list.length, .slice (some ⟨g_61, 0, none⟩) (List.replicate list.length ([] : (List Ver))).length list.length, .slice (some ⟨g_92, 0, none⟩) (List.replicate list.length ([] : (List Rec))).length list.length] 76 (0, 0))], row_97, row_62, row_93]) (R := [[]]) (hw.permL (((List.perm_middle (l₁ := ([row_97, row_62, row_93, []] : List Rowb)) (a := ([(g_100, .cells #[.slice A_103 list.length c_104, .int .i64 need, .slice (some ⟨g_96, 0, none⟩) (List.replicate list.length false).length list.length, .slice (some ⟨g_61, 0, none⟩) (List.replicate list.length ([] : (List Ver))).length list.length, .slice (some ⟨g_92, 0, none⟩) (List.replicate list.length ([] : (List Rec))).length list.length] 76 (0, 0))] : Rowb)) (l₂ := ([] : List Rowb))).symm).trans (((List.perm_middle (l₁ := ([row_62, row_93, [], [(g_100, .cells #[.slice A_103 list.length c_104, .int .i64 need, .slice (some ⟨g_96, 0, none⟩) (List.replicate list.length false).length list.length, .slice (some ⟨g_61, 0, none⟩) (List.replicate list.length ([] : (List Ver))).length list.length, .slice (some ⟨g_92, 0, none⟩) (List.replicate list.length ([] : (List Rec))).length list.length] 76 (0, 0))]] : List Rowb)) (a := (row_97 : Rowb)) (l₂ := ([] : List Rowb))).symm).trans (((List.perm_middle (l₁ := ([row_93, [], [(g_100, .cells #[.slice A_103 list.length c_104, .int .i64 need, .slice (some ⟨g_96, 0, none⟩) (List.replicate list.length false).length list.length, .slice (some ⟨g_61, 0, none⟩) (List.replicate list.length ([] : (List Ver))).length list.length, .slice (some ⟨g_92, 0, none⟩) (List.replicate list.length ([] : (List Rec))).length list.length] 76 (0, 0))], row_97] : List Rowb)) (a := (row_62 : Rowb)) (l₂ := ([] : List Rowb))).symm).trans (List.perm_middle (l₁ := ([[], [(g_100, .cells #[.slice A_103 list.length c_104, .int .i64 need, .slice (some ⟨g_96, 0, none⟩) (List.replicate list.length false).length list.length, .slice (some ⟨g_61, 0, none⟩) (List.replicate list.length ([] : (List Ver))).length list.length, .slice (some ⟨g_92, 0, none⟩) (List.replicate list.length ([] : (List Rec))).length list.length] 76 (0, 0))], row_97] : List Rowb)) (a := (row_93 : Rowb)) (l₂ := ([row_62] : List Rowb))).symm)))) hrow_114) ?_
      refine WC.ret ?_
      intro w hw
      have hm_118 : (⟨list, need, (List.replicate list.length false), (List.replicate list.length ([] : (List Ver))), (List.replicate list.length ([] : (List Rec)))⟩ : Ask16) = r16New list need := by
        rfl
      have hw2 := Cur.perm (L' := [row_114]) hw (.cons_cons _ (.cons _ .slnil))
      rw [hS] at hw2
      refine ⟨_, rfl, [row_114], hw2.toEff, ?_⟩
      unfold r16_New_ok_res
      rw [← hm_118]
      exact ⟨g_100, row_114, rfl, (by kernel_rfl), (hob_114).step (hw2.st2 hxx_110), trivial⟩
  · refine ⟨_, rfl, ?_⟩
    refine e_makeSlice (T := (slT recT)) (t := 74) (e := 41) (kl := .i64) (kc := .i64) (n := list.length) (z := .slice none 0 0) (zx := []) (ti := Try.t41) Try.underlying74 (by kernel_rfl) (by kernel_rfl) (by kernel_rfl) ⟨none, 0, rfl, Nat.zero_le _, Sl.nil _ _ _ _⟩ (by decide) (by rw [lim_eq]; omega) rfl rfl rfl rfl (by kernel_rfl) (by kernel_rfl) ?_
    intro g_119 row_120 hg_119 hg_119e hown_121
    have hown_121l := hown_121.le_
    change WR _ _ _ (CC _ _ _ _ [row_120]) _ _ _
    refine WR.nil ?_
    refine WH.next (fun w hw => Cur.back hw (St.refl _ _) (.cons _ .slnil) hsep_2) ?_
    refine WH.each (l := [2, 4]) (by kernel_rfl) (by simp) ?_
    intro i hi; simp only [List.mem_cons, List.not_mem_nil, or_false] at hi
    rcases hi with rfl | rfl
    · refine ⟨_, rfl, ?_⟩
      refine e_makeSlice (T := boolT) (t := 73) (e := 4) (kl := .i64) (kc := .i64) (n := list.length) (z := .bool false) (zx := false) (ti := Try.t4) Try.underlying73 (by kernel_rfl) (by kernel_rfl) (by kernel_rfl) rfl (by decide) (by rw [lim_eq]; omega) rfl rfl rfl rfl (by kernel_rfl) (by kernel_rfl) ?_
      intro g_123 row_124 hg_123 hg_123e hown_125
      have hown_125l := hown_125.le_
      change WR _ _ _ (CC _ _ _ _ [row_124, row_120]) _ _ _
      refine WR.nil ?_
      refine WH.next (fun w hw => Cur.back hw (St.refl _ _) (.cons _ (.cons _ .slnil)) hsep_2) ?_
      refine WH.lone (i := 4) (by kernel_rfl) rfl ?_
      refine e_makeSlice (T := (slT verT)) (t := 53) (e := 40) (kl := .i64) (kc := .i64) (n := list.length) (z := .slice none 0 0) (zx := []) (ti := Try.t40) Try.underlying53 (by kernel_rfl) (by kernel_rfl) (by kernel_rfl) ⟨none, 0, rfl, Nat.zero_le _, Sl.nil _ _ _ _⟩ (by decide) (by rw [lim_eq]; omega) rfl rfl rfl rfl (by kernel_rfl) (by kernel_rfl) ?_
      intro g_127 row_128 hg_127 hg_127e hown_129
      have hown_129l := hown_129.le_
      change WR _ _ _ (CC _ _ _ _ [row_128, row_124, row_120]) _ _ _
      refine WR.nil ?_
      refine WH.next (fun w hw => Cur.back hw (St.refl _ _) (.cons _ (.cons _ (.cons _ .slnil))) hsep_2) ?_
      refine WH.take (i := 7) (v := .agg #[.slice none 0 0, .int .i64 need, .slice (some ⟨g_123, 0, none⟩) list.length list.length, .slice (some ⟨g_127, 0, none⟩) list.length list.length, .slice (some ⟨g_119, 0, none⟩) list.length list.length]) rfl (by kernel_rfl) (by kernel_rfl) (by kernel_rfl) rfl rfl rfl (fun w hw => Cur.back hw (St.refl _ _) (.cons _ (.cons _ (.cons _ .slnil))) hsep_2) ?_ ?_
      · exact q_build' (ps := #[(1, .int .i64 need), (2, .slice (some ⟨g_123, 0, none⟩) list.length list.length), (3, .slice (some ⟨g_127, 0, none⟩) list.length list.length), (4, .slice (some ⟨g_119, 0, none⟩) list.length list.length)]) rfl (bargs4 (by kernel_rfl) (by kernel_rfl) (by kernel_rfl) (by kernel_rfl)) (fun w => by kernel_rfl)
      refine WH.lone (i := 8) (by kernel_rfl) rfl ?_
      refine e_box (v := .agg #[.slice none 0 0, .int .i64 need, .slice (some ⟨g_123, 0, none⟩) list.length list.length, .slice (some ⟨g_127, 0, none⟩) list.length list.length, .slice (some ⟨g_119, 0, none⟩) list.length list.length]) rfl rfl rfl rfl (by kernel_rfl) ?_
      intro g_131 hg_131 hg_131e
      change WR _ _ _ (CC _ _ _ _ [[(g_131, .cells #[.slice none 0 0, .int .i64 need, .slice (some ⟨g_123, 0, none⟩) list.length list.length, .slice (some ⟨g_127, 0, none⟩) list.length list.length, .slice (some ⟨g_119, 0, none⟩) list.length list.length] 76 (0, 0))], row_128, row_124, row_120]) _ _ _
      refine WR.nil ?_
      refine WH.next (fun w hw => Cur.back hw (St.refl _ _) (.cons _ (.cons _ (.cons _ (.cons _ .slnil)))) hsep_2) ?_
      refine WH.take (i := 9) (v := .pointer (some ⟨g_131, 0, none⟩)) rfl (by kernel_rfl) (by kernel_rfl) (by kernel_rfl) rfl rfl rfl (fun w hw => Cur.back hw (St.refl _ _) (.cons _ (.cons _ (.cons _ (.cons _ .slnil)))) hsep_2) ?_ ?_
      · exact q_assign rfl (by kernel_rfl)
      refine WH.sub (C' := CC S w0 X w0 [[(g_131, .cells #[.slice none 0 0, .int .i64 need, .slice (some ⟨g_123, 0, none⟩) (List.replicate list.length false).length list.length, .slice (some ⟨g_127, 0, none⟩) (List.replicate list.length ([] : (List Ver))).length list.length, .slice (some ⟨g_119, 0, none⟩) (List.replicate list.length ([] : (List Rec))).length list.length] 76 (0, 0))], row_128, row_124, row_120]) (fun w hw => by simpa only [List.length_set, List.length_replicate] using hw) ?_
      refine WH.done (by kernel_rfl) ?_
      change WC _ _ _ _ _ _
      refine WC.seq ?_
      refine WC.region ?_
      refine WR.v (v := .pointer (some ⟨g_131, 0, none⟩)) rfl rfl rfl ?_ ?_
      · refine QV.qo ?_; exact q_move rfl (by kernel_rfl)
      refine WR.v (v := .pointer (some ⟨g_131, 0, none⟩)) rfl rfl rfl ?_ ?_
      · refine QV.qo ?_; exact q_move rfl (by kernel_rfl)
      refine WR.v (v := .pointer (some ⟨g_131, 0, none⟩)) rfl rfl rfl ?_ ?_
      · refine QV.qo ?_; exact q_nil (A := some ⟨g_131, 0, none⟩) rfl (by kernel_rfl) rfl
      refine WR.v (v := .pointer (some ⟨g_131, 0, none⟩)) rfl rfl rfl ?_ ?_
      · refine QV.qo ?_; exact q_field_loc (g := g_131) (j := 0) 0 fld_76_0 rfl (by kernel_rfl) rfl
      refine WR.v (v := .slice none 0 0) rfl rfl rfl ?_ ?_
      · refine QV.qo ?_; exact q_load_loc (i := 0) (g := g_131) (j := 0) (v := .slice none 0 0) rfl Try.isAgg22 (by kernel_rfl) rfl rfl
      refine WR.v (v := .slice Alist list.length clist) rfl rfl rfl ?_ ?_
      · refine QV.qo ?_; exact q_move rfl (by kernel_rfl)
      refine WR.sub (C' := CC _ _ X w0 [[], [(g_131, .cells #[.slice none 0 0, .int .i64 need, .slice (some ⟨g_123, 0, none⟩) (List.replicate list.length false).length list.length, .slice (some ⟨g_127, 0, none⟩) (List.replicate list.length ([] : (List Ver))).length list.length, .slice (some ⟨g_119, 0, none⟩) (List.replicate list.length ([] : (List Rec))).length list.length] 76 (0, 0))], row_128, row_124, row_120]) (fun w hw => hw.pad) ?_
      refine e_append (T := intT) (xs := []) (ys := list) (A := none) (c := 0) (A2 := Alist) (c2 := clist) (i := 0) (row := []) elem_22 rfl rfl rfl rfl (by kernel_rfl) (by kernel_rfl) rfl (Own.nil intT X w0 3) (by have hsl := Sl.le_ hlist; simp only [lim_eq, List.length_append, List.length_cons, List.length_nil, List.length_take, List.length_drop] at *; omega) (fun w hw => src_sl hlist hw) ?_
      intro row_133 A_134 c_135 hown_136
      have hown_136l := hown_136.le_
      change WR _ _ _ (CC _ _ X w0 [row_133, [(g_131, .cells #[.slice none 0 0, .int .i64 need, .slice (some ⟨g_123, 0, none⟩) (List.replicate list.length false).length list.length, .slice (some ⟨g_127, 0, none⟩) (List.replicate list.length ([] : (List Ver))).length list.length, .slice (some ⟨g_119, 0, none⟩) (List.replicate list.length ([] : (List Rec))).length list.length] 76 (0, 0))], row_128, row_124, row_120]) _ _ _
      refine WR.v (v := .pointer (some ⟨g_131, 0, none⟩)) rfl rfl rfl ?_ ?_
      · refine QV.qo ?_; exact q_nil (A := some ⟨g_131, 0, none⟩) rfl (by kernel_rfl) rfl
      refine WR.v (v := .pointer (some ⟨g_131, 0, none⟩)) rfl rfl rfl ?_ ?_
      · refine QV.qo ?_; exact q_field_loc (g := g_131) (j := 0) 0 fld_76_0 rfl (by kernel_rfl) rfl
      refine e_store_loc (i := 1) (g := g_131) (j := 0) (v := .slice A_134 list.length c_135) (new := #[.slice A_134 list.length c_135, .int .i64 need, .slice (some ⟨g_123, 0, none⟩) (List.replicate list.length false).length list.length, .slice (some ⟨g_127, 0, none⟩) (List.replicate list.length ([] : (List Ver))).length list.length, .slice (some ⟨g_119, 0, none⟩) (List.replicate list.length ([] : (List Rec))).length list.length]) (L' := [row_133, [(g_131, .cells #[.slice A_134 list.length c_135, .int .i64 need, .slice (some ⟨g_123, 0, none⟩) (List.replicate list.length false).length list.length, .slice (some ⟨g_127, 0, none⟩) (List.replicate list.length ([] : (List Ver))).length list.length, .slice (some ⟨g_119, 0, none⟩) (List.replicate list.length ([] : (List Rec))).length list.length] 76 (0, 0))], row_128, row_124, row_120]) rfl rfl rfl (by kernel_rfl) (by kernel_rfl) Try.sizeOf22 rfl rfl rfl rfl rfl rfl ?_
      refine WR.nil ?_
      change WC _ _ _ _ _ _
      refine WC.seq ?_
      refine WC.region ?_
      refine WR.v (v := .pointer (some ⟨g_131, 0, none⟩)) rfl rfl rfl ?_ ?_
      · refine QV.qo ?_; exact q_move rfl (by kernel_rfl)
      refine WR.v (v := .pointer (some ⟨g_131, 0, none⟩)) rfl rfl rfl ?_ ?_
      · refine QV.qo ?_; exact q_assign rfl (by kernel_rfl)
      refine WR.nil ?_
      change WC _ _ _ _ _ _
      have hc_144 := Own.capz hown_136
      refine WC.toData0 (T := intT) hS0 (i := 0) (row := row_133) (A := A_134) (c := c_135) (xs := list) rfl hown_136 (X0 := X) (fun _ h => h) hX hX ?_
      intro X_138 B_139 hst_140 hxx_141 hxl_142 hs_143
      change WC _ _ (CC _ _ X_138 B_139 [[], [(g_131, .cells #[.slice A_134 list.length c_135, .int .i64 need, .slice (some ⟨g_123, 0, none⟩) (List.replicate list.length false).length list.length, .slice (some ⟨g_127, 0, none⟩) (List.replicate list.length ([] : (List Ver))).length list.length, .slice (some ⟨g_119, 0, none⟩) (List.replicate list.length ([] : (List Rec))).length list.length] 76 (0, 0))], row_128, row_124, row_120]) _ _ _
      have hinv_146 : (⟨list, need, (List.replicate list.length false), (List.replicate list.length ([] : (List Ver))), (List.replicate list.length ([] : (List Rec)))⟩ : Ask16).isin.length = (⟨list, need, (List.replicate list.length false), (List.replicate list.length ([] : (List Ver))), (List.replicate list.length ([] : (List Rec)))⟩ : Ask16).list.length := (by first | omega | (simp; omega) | (simp_all; done) | (simp_all; omega))
      have hinv_147 : (⟨list, need, (List.replicate list.length false), (List.replicate list.length ([] : (List Ver))), (List.replicate list.length ([] : (List Rec)))⟩ : Ask16).vers.length = (⟨list, need, (List.replicate list.length false), (List.replicate list.length ([] : (List Ver))), (List.replicate list.length ([] : (List Rec)))⟩ : Ask16).list.length := (by first | omega | (simp; omega) | (simp_all; done) | (simp_all; omega))
      obtain ⟨row_145, hrow_145, hob_145⟩ : ∃ rw : Rowb, rw = ([[(g_131, .cells #[.slice A_134 list.length c_135, .int .i64 need, .slice (some ⟨g_123, 0, none⟩) (List.replicate list.length false).length list.length, .slice (some ⟨g_127, 0, none⟩) (List.replicate list.length ([] : (List Ver))).length list.length, .slice (some ⟨g_119, 0, none⟩) (List.replicate list.length ([] : (List Rec))).length list.length] 76 (0, 0))], row_124, row_128, row_120] : List Rowb).flatten ∧ Ask16.ob 76 X_138 B_139 g_131 rw (⟨list, need, (List.replicate list.length false), (List.replicate list.length ([] : (List Ver))), (List.replicate list.length ([] : (List Rec)))⟩ : Ask16) := ⟨_, rfl, A_134, c_135, (some ⟨g_123, 0, none⟩), list.length, row_124, (some ⟨g_127, 0, none⟩), list.length, row_128, (some ⟨g_119, 0, none⟩), list.length, row_120, rfl, hs_143, hc_144, hneed, (hown_125.step hst_140), (hown_129.step hst_140), (hown_121.step hst_140), hinv_146, hinv_147, trivial⟩
      refine WC.sub (C' := CC S w0 X_138 B_139 [row_145, []]) (fun w hw => Cur.fold_ (row := row_145) (U := [[(g_131, .cells #[.slice A_134 list.length c_135, .int .i64 need, .slice (some ⟨g_123, 0, none⟩) (List.replicate list.length false).length list.length, .slice (some ⟨g_127, 0, none⟩) (List.replicate list.length ([] : (List Ver))).length list.length, .slice (some ⟨g_119, 0, none⟩) (List.replicate list.length ([] : (List Rec))).length list.length] 76 (0, 0))], row_124, row_128, row_120]) (R := [[]]) (hw.permL (((List.perm_middle (l₁ := ([row_124, row_128, row_120, []] : List Rowb)) (a := ([(g_131, .cells #[.slice A_134 list.length c_135, .int .i64 need, .slice (some ⟨g_123, 0, none⟩) (List.replicate list.length false).length list.length, .slice (some ⟨g_127, 0, none⟩) (List.replicate list.length ([] : (List Ver))).length list.length, .slice (some ⟨g_119, 0, none⟩) (List.replicate list.length ([] : (List Rec))).length list.length] 76 (0, 0))] : Rowb)) (l₂ := ([] : List Rowb))).symm).trans (((List.perm_middle (l₁ := ([row_128, row_120, [], [(g_131, .cells #[.slice A_134 list.length c_135, .int .i64 need, .slice (some ⟨g_123, 0, none⟩) (List.replicate list.length false).length list.length, .slice (some ⟨g_127, 0, none⟩) (List.replicate list.length ([] : (List Ver))).length list.length, .slice (some ⟨g_119, 0, none⟩) (List.replicate list.length ([] : (List Rec))).length list.length] 76 (0, 0))]] : List Rowb)) (a := (row_124 : Rowb)) (l₂ := ([] : List Rowb))).symm).trans (((List.perm_middle (l₁ := ([row_120, [], [(g_131, .cells #[.slice A_134 list.length c_135, .int .i64 need, .slice (some ⟨g_123, 0, none⟩) (List.replicate list.length false).length list.length, .slice (some ⟨g_127, 0, none⟩) (List.replicate list.length ([] : (List Ver))).length list.length, .slice (some ⟨g_119, 0, none⟩) (List.replicate list.length ([] : (List Rec))).length list.length] 76 (0, 0))]] : List Rowb)) (a := (row_128 : Rowb)) (l₂ := ([row_124] : List Rowb))).symm).trans (List.perm_middle (l₁ := ([[], [(g_131, .cells #[.slice A_134 list.length c_135, .int .i64 need, .slice (some ⟨g_123, 0, none⟩) (List.replicate list.length false).length list.length, .slice (some ⟨g_127, 0, none⟩) (List.replicate list.length ([] : (List Ver))).length list.length, .slice (some ⟨g_119, 0, none⟩) (List.replicate list.length ([] : (List Rec))).length list.length] 76 (0, 0))], row_128, row_124] : List Rowb)) (a := (row_120 : Rowb)) (l₂ := ([] : List Rowb))).symm)))) hrow_145) ?_
      refine WC.ret ?_
      intro w hw
      have hm_149 : (⟨list, need, (List.replicate list.length false), (List.replicate list.length ([] : (List Ver))), (List.replicate list.length ([] : (List Rec)))⟩ : Ask16) = r16New list need := by
        rfl
      have hw2 := Cur.perm (L' := [row_145]) hw (.cons_cons _ (.cons _ .slnil))
      rw [hS] at hw2
      refine ⟨_, rfl, [row_145], hw2.toEff, ?_⟩
      unfold r16_New_ok_res
      rw [← hm_149]
      exact ⟨g_131, row_145, rfl, (by kernel_rfl), (hob_145).step (hw2.st2 hxx_141), trivial⟩
    · refine ⟨_, rfl, ?_⟩
      refine e_makeSlice (T := (slT verT)) (t := 53) (e := 40) (kl := .i64) (kc := .i64) (n := list.length) (z := .slice none 0 0) (zx := []) (ti := Try.t40) Try.underlying53 (by kernel_rfl) (by kernel_rfl) (by kernel_rfl) ⟨none, 0, rfl, Nat.zero_le _, Sl.nil _ _ _ _⟩ (by decide) (by rw [lim_eq]; omega) rfl rfl rfl rfl (by kernel_rfl) (by kernel_rfl) ?_
      intro g_150 row_151 hg_150 hg_150e hown_152
      have hown_152l := hown_152.le_
      change WR _ _ _ (CC _ _ _ _ [row_151, row_120]) _ _ _
      refine WR.nil ?_
      refine WH.next (fun w hw => Cur.back hw (St.refl _ _) (.cons _ (.cons _ .slnil)) hsep_2) ?_
      refine WH.lone (i := 2) (by kernel_rfl) rfl ?_
      refine e_makeSlice (T := boolT) (t := 73) (e := 4) (kl := .i64) (kc := .i64) (n := list.length) (z := .bool false) (zx := false) (ti := Try.t4) Try.underlying73 (by kernel_rfl) (by kernel_rfl) (by kernel_rfl) rfl (by decide) (by rw [lim_eq]; omega) rfl rfl rfl rfl (by kernel_rfl) (by kernel_rfl) ?_
      intro g_154 row_155 hg_154 hg_154e hown_156
      have hown_156l := hown_156.le_
      change WR _ _ _ (CC _ _ _ _ [row_155, row_151, row_120]) _ _ _
      refine WR.nil ?_
      refine WH.next (fun w hw => Cur.back hw (St.refl _ _) (.cons _ (.cons _ (.cons _ .slnil))) hsep_2) ?_
      refine WH.take (i := 7) (v := .agg #[.slice none 0 0, .int .i64 need, .slice (some ⟨g_154, 0, none⟩) list.length list.length, .slice (some ⟨g_150, 0, none⟩) list.length list.length, .slice (some ⟨g_119, 0, none⟩) list.length list.length]) rfl (by kernel_rfl) (by kernel_rfl) (by kernel_rfl) rfl rfl rfl (fun w hw => Cur.back hw (St.refl _ _) (.cons _ (.cons _ (.cons _ .slnil))) hsep_2) ?_ ?_
      · exact q_build' (ps := #[(1, .int .i64 need), (2, .slice (some ⟨g_154, 0, none⟩) list.length list.length), (3, .slice (some ⟨g_150, 0, none⟩) list.length list.length), (4, .slice (some ⟨g_119, 0, none⟩) list.length list.length)]) rfl (bargs4 (by kernel_rfl) (by kernel_rfl) (by kernel_rfl) (by kernel_rfl)) (fun w => by kernel_rfl)
      refine WH.lone (i := 8) (by kernel_rfl) rfl ?_
      refine e_box (v := .agg #[.slice none 0 0, .int .i64 need, .slice (some ⟨g_154, 0, none⟩) list.length list.length, .slice (some ⟨g_150, 0, none⟩) list.length list.length, .slice (some ⟨g_119, 0, none⟩) list.length list.length]) rfl rfl rfl rfl (by kernel_rfl) ?_
      intro g_158 hg_158 hg_158e
      change WR _ _ _ (CC _ _ _ _ [[(g_158, .cells #[.slice none 0 0, .int .i64 need, .slice (some ⟨g_154, 0, none⟩) list.length list.length, .slice (some ⟨g_150, 0, none⟩) list.length list.length, .slice (some ⟨g_119, 0, none⟩) list.length list.length] 76 (0, 0))], row_155, row_151, row_120]) _ _ _
      refine WR.nil ?_
      refine WH.next (fun w hw => Cur.back hw (St.refl _ _) (.cons _ (.cons _ (.cons _ (.cons _ .slnil)))) hsep_2) ?_
      refine WH.take (i := 9) (v := .pointer (some ⟨g_158, 0, none⟩)) rfl (by kernel_rfl) (by kernel_rfl) (by kernel_rfl) rfl rfl rfl (fun w hw => Cur.back hw (St.refl _ _) (.cons _ (.cons _ (.cons _ (.cons _ .slnil)))) hsep_2) ?_ ?_
      · exact q_assign rfl (by kernel_rfl)
      refine WH.sub (C' := CC S w0 X w0 [[(g_158, .cells #[.slice none 0 0, .int .i64 need, .slice (some ⟨g_154, 0, none⟩) (List.replicate list.length false).length list.length, .slice (some ⟨g_150, 0, none⟩) (List.replicate list.length ([] : (List Ver))).length list.length, .slice (some ⟨g_119, 0, none⟩) (List.replicate list.length ([] : (List Rec))).length list.length] 76 (0, 0))], row_155, row_151, row_120]) (fun w hw => by simpa only [List.length_set, List.length_replicate] using hw) ?_
      refine WH.done (by kernel_rfl) ?_
      change WC _ _ _ _ _ _
      refine WC.seq ?_
      refine WC.region ?_
      refine WR.v (v := .pointer (some ⟨g_158, 0, none⟩)) rfl rfl rfl ?_ ?_
      · refine QV.qo ?_; exact q_move rfl (by kernel_rfl)
      refine WR.v (v := .pointer (some ⟨g_158, 0, none⟩)) rfl rfl rfl ?_ ?_
      · refine QV.qo ?_; exact q_move rfl (by kernel_rfl)
      refine WR.v (v := .pointer (some ⟨g_158, 0, none⟩)) rfl rfl rfl ?_ ?_
      · refine QV.qo ?_; exact q_nil (A := some ⟨g_158, 0, none⟩) rfl (by kernel_rfl) rfl
      refine WR.v (v := .pointer (some ⟨g_158, 0, none⟩)) rfl rfl rfl ?_ ?_
      · refine QV.qo ?_; exact q_field_loc (g := g_158) (j := 0) 0 fld_76_0 rfl (by kernel_rfl) rfl
      refine WR.v (v := .slice none 0 0) rfl rfl rfl ?_ ?_
      · refine QV.qo ?_; exact q_load_loc (i := 0) (g := g_158) (j := 0) (v := .slice none 0 0) rfl Try.isAgg22 (by kernel_rfl) rfl rfl
      refine WR.v (v := .slice Alist list.length clist) rfl rfl rfl ?_ ?_
      · refine QV.qo ?_; exact q_move rfl (by kernel_rfl)
      refine WR.sub (C' := CC _ _ X w0 [[], [(g_158, .cells #[.slice none 0 0, .int .i64 need, .slice (some ⟨g_154, 0, none⟩) (List.replicate list.length false).length list.length, .slice (some ⟨g_150, 0, none⟩) (List.replicate list.length ([] : (List Ver))).length list.length, .slice (some ⟨g_119, 0, none⟩) (List.replicate list.length ([] : (List Rec))).length list.length] 76 (0, 0))], row_155, row_151, row_120]) (fun w hw => hw.pad) ?_
      refine e_append (T := intT) (xs := []) (ys := list) (A := none) (c := 0) (A2 := Alist) (c2 := clist) (i := 0) (row := []) elem_22 rfl rfl rfl rfl (by kernel_rfl) (by kernel_rfl) rfl (Own.nil intT X w0 3) (by have hsl := Sl.le_ hlist; simp only [lim_eq, List.length_append, List.length_cons, List.length_nil, List.length_take, List.length_drop] at *; omega) (fun w hw => src_sl hlist hw) ?_
      intro row_160 A_161 c_162 hown_163
      have hown_163l := hown_163.le_
      change WR _ _ _ (CC _ _ X w0 [row_160, [(g_158, .cells #[.slice none 0 0, .int .i64 need, .slice (some ⟨g_154, 0, none⟩) (List.replicate list.length false).length list.length, .slice (some ⟨g_150, 0, none⟩) (List.replicate list.length ([] : (List Ver))).length list.length, .slice (some ⟨g_119, 0, none⟩) (List.replicate list.length ([] : (List Rec))).length list.length] 76 (0, 0))], row_155, row_151, row_120]) _ _ _
      refine WR.v (v := .pointer (some ⟨g_158, 0, none⟩)) rfl rfl rfl ?_ ?_
      · refine QV.qo ?_; exact q_nil (A := some ⟨g_158, 0, none⟩) rfl (by kernel_rfl) rfl
      refine WR.v (v := .pointer (some ⟨g_158, 0, none⟩)) rfl rfl rfl ?_ ?_
      · refine QV.qo ?_; exact q_field_loc (g := g_158) (j := 0) 0 fld_76_0 rfl (by kernel_rfl) rfl
      refine e_store_loc (i := 1) (g := g_158) (j := 0) (v := .slice A_161 list.length c_162) (new := #[.slice A_161 list.length c_162, .int .i64 need, .slice (some ⟨g_154, 0, none⟩) (List.replicate list.length false).length list.length, .slice (some ⟨g_150, 0, none⟩) (List.replicate list.length ([] : (List Ver))).length list.length, .slice (some ⟨g_119, 0, none⟩) (List.replicate list.length ([] : (List Rec))).length list.length]) (L' := [row_160, [(g_158, .cells #[.slice A_161 list.length c_162, .int .i64 need, .slice (some ⟨g_154, 0, none⟩) (List.replicate list.length false).length list.length, .slice (some ⟨g_150, 0, none⟩) (List.replicate list.length ([] : (List Ver))).length list.length, .slice (some ⟨g_119, 0, none⟩) (List.replicate list.length ([] : (List Rec))).length list.length] 76 (0, 0))], row_155, row_151, row_120]) rfl rfl rfl (by kernel_rfl) (by kernel_rfl) Try.sizeOf22 rfl rfl rfl rfl rfl rfl ?_
      refine WR.nil ?_
      change WC _ _ _ _ _ _
      refine WC.seq ?_
      refine WC.region ?_
      refine WR.v (v := .pointer (some ⟨g_158, 0, none⟩)) rfl rfl rfl ?_ ?_
      · refine QV.qo ?_; exact q_move rfl (by kernel_rfl)
      refine WR.v (v := .pointer (some ⟨g_158, 0, none⟩)) rfl rfl rfl ?_ ?_
      · refine QV.qo ?_; exact q_assign rfl (by kernel_rfl)
      refine WR.nil ?_
      change WC _ _ _ _ _ _
      have hc_171 := Own.capz hown_163
      refine WC.toData0 (T := intT) hS0 (i := 0) (row := row_160) (A := A_161) (c := c_162) (xs := list) rfl hown_163 (X0 := X) (fun _ h => h) hX hX ?_
      intro X_165 B_166 hst_167 hxx_168 hxl_169 hs_170
      change WC _ _ (CC _ _ X_165 B_166 [[], [(g_158, .cells #[.slice A_161 list.length c_162, .int .i64 need, .slice (some ⟨g_154, 0, none⟩) (List.replicate list.length false).length list.length, .slice (some ⟨g_150, 0, none⟩) (List.replicate list.length ([] : (List Ver))).length list.length, .slice (some ⟨g_119, 0, none⟩) (List.replicate list.length ([] : (List Rec))).length list.length] 76 (0, 0))], row_155, row_151, row_120]) _ _ _
      have hinv_173 : (⟨list, need, (List.replicate list.length false), (List.replicate list.length ([] : (List Ver))), (List.replicate list.length ([] : (List Rec)))⟩ : Ask16).isin.length = (⟨list, need, (List.replicate list.length false), (List.replicate list.length ([] : (List Ver))), (List.replicate list.length ([] : (List Rec)))⟩ : Ask16).list.length := (by first | omega | (simp; omega) | (simp_all; done) | (simp_all; omega))
      have hinv_174 : (⟨list, need, (List.replicate list.length false), (List.replicate list.length ([] : (List Ver))), (List.replicate list.length ([] : (List Rec)))⟩ : Ask16).vers.length = (⟨list, need, (List.replicate list.length false), (List.replicate list.length ([] : (List Ver))), (List.replicate list.length ([] : (List Rec)))⟩ : Ask16).list.length := (by first | omega | (simp; omega) | (simp_all; done) | (simp_all; omega))
      obtain ⟨row_172, hrow_172, hob_172⟩ : ∃ rw : Rowb, rw = ([[(g_158, .cells #[.slice A_161 list.length c_162, .int .i64 need, .slice (some ⟨g_154, 0, none⟩) (List.replicate list.length false).length list.length, .slice (some ⟨g_150, 0, none⟩) (List.replicate list.length ([] : (List Ver))).length list.length, .slice (some ⟨g_119, 0, none⟩) (List.replicate list.length ([] : (List Rec))).length list.length] 76 (0, 0))], row_155, row_151, row_120] : List Rowb).flatten ∧ Ask16.ob 76 X_165 B_166 g_158 rw (⟨list, need, (List.replicate list.length false), (List.replicate list.length ([] : (List Ver))), (List.replicate list.length ([] : (List Rec)))⟩ : Ask16) := ⟨_, rfl, A_161, c_162, (some ⟨g_154, 0, none⟩), list.length, row_155, (some ⟨g_150, 0, none⟩), list.length, row_151, (some ⟨g_119, 0, none⟩), list.length, row_120, rfl, hs_170, hc_171, hneed, (hown_156.step hst_167), (hown_152.step hst_167), (hown_121.step hst_167), hinv_173, hinv_174, trivial⟩
      refine WC.sub (C' := CC S w0 X_165 B_166 [row_172, []]) (fun w hw => Cur.fold_ (row := row_172) (U := [[(g_158, .cells #[.slice A_161 list.length c_162, .int .i64 need, .slice (some ⟨g_154, 0, none⟩) (List.replicate list.length false).length list.length, .slice (some ⟨g_150, 0, none⟩) (List.replicate list.length ([] : (List Ver))).length list.length, .slice (some ⟨g_119, 0, none⟩) (List.replicate list.length ([] : (List Rec))).length list.length] 76 (0, 0))], row_155, row_151, row_120]) (R := [[]]) (hw.permL (((List.perm_middle (l₁ := ([row_155, row_151, row_120, []] : List Rowb)) (a := ([(g_158, .cells #[.slice A_161 list.length c_162, .int .i64 need, .slice (some ⟨g_154, 0, none⟩) (List.replicate list.length false).length list.length, .slice (some ⟨g_150, 0, none⟩) (List.replicate list.length ([] : (List Ver))).length list.length, .slice (some ⟨g_119, 0, none⟩) (List.replicate list.length ([] : (List Rec))).length list.length] 76 (0, 0))] : Rowb)) (l₂ := ([] : List Rowb))).symm).trans (((List.perm_middle (l₁ := ([row_151, row_120, [], [(g_158, .cells #[.slice A_161 list.length c_162, .int .i64 need, .slice (some ⟨g_154, 0, none⟩) (List.replicate list.length false).length list.length, .slice (some ⟨g_150, 0, none⟩) (List.replicate list.length ([] : (List Ver))).length list.length, .slice (some ⟨g_119, 0, none⟩) (List.replicate list.length ([] : (List Rec))).length list.length] 76 (0, 0))]] : List Rowb)) (a := (row_155 : Rowb)) (l₂ := ([] : List Rowb))).symm).trans (((List.perm_middle (l₁ := ([row_120, [], [(g_158, .cells #[.slice A_161 list.length c_162, .int .i64 need, .slice (some ⟨g_154, 0, none⟩) (List.replicate list.length false).length list.length, .slice (some ⟨g_150, 0, none⟩) (List.replicate list.length ([] : (List Ver))).length list.length, .slice (some ⟨g_119, 0, none⟩) (List.replicate list.length ([] : (List Rec))).length list.length] 76 (0, 0))], row_155] : List Rowb)) (a := (row_151 : Rowb)) (l₂ := ([] : List Rowb))).symm).trans (List.perm_middle (l₁ := ([[], [(g_158, .cells #[.slice A_161 list.length c_162, .int .i64 need, .slice (some ⟨g_154, 0, none⟩) (List.replicate list.length false).length list.length, .slice (some ⟨g_150, 0, none⟩) (List.replicate list.length ([] : (List Ver))).length list.length, .slice (some ⟨g_119, 0, none⟩) (List.replicate list.length ([] : (List Rec))).length list.length] 76 (0, 0))], row_155, row_151] : List Rowb)) (a := (row_120 : Rowb)) (l₂ := ([] : List Rowb))).symm)))) hrow_172) ?_
      refine WC.ret ?_
      intro w hw
      have hm_176 : (⟨list, need, (List.replicate list.length false), (List.replicate list.length ([] : (List Ver))), (List.replicate list.length ([] : (List Rec)))⟩ : Ask16) = r16New list need := by
        rfl
      have hw2 := Cur.perm (L' := [row_172]) hw (.cons_cons _ (.cons _ .slnil))
      rw [hS] at hw2
      refine ⟨_, rfl, [row_172], hw2.toEff, ?_⟩
      unfold r16_New_ok_res
      rw [← hm_176]
      exact ⟨g_158, row_172, rfl, (by kernel_rfl), (hob_172).step (hw2.st2 hxx_168), trivial⟩

set_option maxRecDepth 100000 in
set_option maxHeartbeats 1000000 in
theorem r16_place_ok (w0 : World) (X : Nat → Prop) (ga : Nat) (rowa : Rowb) (a : Ask16) (hoba : Ask16.ob 76 X w0 ga rowa a) (node : Int) (hnode : I64 node) (hpre : Pre [rowa] X w0) (hX : ∀ k, X k → k < w0.heap.size) : Calls Try.prog 37 #[.pointer (some ⟨ga, 0, none⟩), .int .i64 node] w0 fun e w' => e = .returned (.int .i64 (a.place node)) ∧ Fr no w0 w' := by
  refine calls_of (N := 35) (rs := [4]) (args := [.pointer (some ⟨ga, 0, none⟩), .int .i64 node]) Try.func37 rfl Try.ntmps37 Try.results37 rfl ?_
  refine WC.here (C := CC (ids [rowa]) w0 X w0 [rowa]) ?_ hpre.start
  have hob_2 := hoba
  obtain ⟨A0_2, c0_2, A2_2, c2_2, r2_2, A3_2, c3_2, r3_2, A4_2, c4_2, r4_2, hrow_2, ho0_2, ho1_2, ho2_2, ho3_2, ho4_2, ho5_2, ho6_2, ho7_2, _⟩ := hob_2
  have ho0_2l := ho0_2.le_
  have ho3_2l := ho3_2.le_
  have ho4_2l := ho4_2.le_
  have ho5_2l := ho5_2.le_
  refine WC.sub (C' := CC (ids [rowa]) w0 X w0 [[(ga, .cells #[.slice A0_2 a.list.length c0_2, .int .i64 a.need, .slice A2_2 a.isin.length c2_2, .slice A3_2 a.vers.length c3_2, .slice A4_2 a.recs.length c4_2] 76 (0, 0))], r2_2, r3_2, r4_2]) (fun w hw => Cur.open_ (U := [[(ga, .cells #[.slice A0_2 a.list.length c0_2, .int .i64 a.need, .slice A2_2 a.isin.length c2_2, .slice A3_2 a.vers.length c3_2, .slice A4_2 a.recs.length c4_2] 76 (0, 0))], r2_2, r3_2, r4_2]) (R := []) hw hrow_2) ?_
  refine WC.seq ?_
  refine WC.region ?_
  refine WR.v (v := .int .i64 0) rfl rfl rfl ?_ ?_
  · refine QV.qo ?_; exact q_assign rfl (by kernel_rfl)
  refine WR.nil ?_
  change WC _ _ _ _ _ _
  refine WC.seq ?_
  refine WC.seq ?_
  refine WC.region ?_
  refine WR.v (v := .int .i64 0) rfl rfl rfl ?_ ?_
  · refine QV.qo ?_; exact q_assign rfl (by kernel_rfl)
  refine WR.nil ?_
  change WC _ _ _ _ _ _
  refine WC.block ?_
  refine WC.loop (fun (m : Nat) (σ : Env) (w1 : World) => ∃ (k6 : Nat)   , m = a.list.length - k6 ∧ (k6 ≤ a.list.length) ∧ (firstFrom (fun i => (gt a.list i == node) && (!(gt a.isin i))) 0 a.list.length = firstFrom (fun i => (gt a.list i == node) && (!(gt a.isin i))) k6 a.list.length) ∧ (σ 0 = .pointer (some ⟨ga, 0, none⟩) ∧ σ 1 = .int .i64 node ∧ σ 5 = .int .i64 ((k6 : Nat) : Int)) ∧ CC (ids [rowa]) w0 X w0 [[(ga, .cells #[.slice A0_2 a.list.length c0_2, .int .i64 a.need, .slice A2_2 a.isin.length c2_2, .slice A3_2 a.vers.length c3_2, .slice A4_2 a.recs.length c4_2] 76 (0, 0))], r2_2, r3_2, r4_2] w1) ?_ ?_
  · intro w1 hw
    exact ⟨_, 0, rfl, (by first | trivial | omega), rfl, ⟨by kernel_rfl, by kernel_rfl, by kernel_rfl⟩, hw⟩
  intro m6 σ6 w1 hI
  obtain ⟨k6, rfl, hk6, hrel6, ⟨h6_0, h6_1, h6_5⟩, hw⟩ := hI
  refine WC.here (C := CC (ids [rowa]) w0 X w0 [[(ga, .cells #[.slice A0_2 a.list.length c0_2, .int .i64 a.need, .slice A2_2 a.isin.length c2_2, .slice A3_2 a.vers.length c3_2, .slice A4_2 a.recs.length c4_2] 76 (0, 0))], r2_2, r3_2, r4_2]) ?_ hw
  clear hw
  refine WC.seq ?_
  refine WC.seq ?_
  refine WC.region ?_
  refine WR.v (v := .int .i64 ((k6 : Nat) : Int)) rfl rfl rfl ?_ ?_
  · refine QV.qo ?_; exact q_move rfl h6_5
  refine WR.v (v := .pointer (some ⟨ga, 0, none⟩)) rfl rfl rfl ?_ ?_
  · refine QV.qo ?_; exact q_move rfl h6_0
  refine WR.v (v := .pointer (some ⟨ga, 0, none⟩)) rfl rfl rfl ?_ ?_
  · refine QV.qo ?_; exact q_nil (A := some ⟨ga, 0, none⟩) rfl (by kernel_rfl) rfl
  refine WR.v (v := .pointer (some ⟨ga, 0, none⟩)) rfl rfl rfl ?_ ?_
  · refine QV.qo ?_; exact q_field_loc (g := ga) (j := 0) 0 fld_76_0 rfl (by kernel_rfl) rfl
  refine WR.v (v := .slice A0_2 a.list.length c0_2) rfl rfl rfl ?_ ?_
  · refine QV.qo ?_; exact q_load_loc (i := 0) (g := ga) (j := 0) (v := .slice A0_2 a.list.length c0_2) rfl Try.isAgg22 (by kernel_rfl) rfl rfl
  refine WR.v (v := .int .i64 ((a.list.length : Nat) : Int)) rfl rfl rfl ?_ ?_
  · refine QV.qo ?_; exact q_len_slice (A := A0_2) (n := a.list.length) (c := c0_2) rfl Try.underlying22 (by kernel_rfl)
  refine WR.v (v := .bool (decide (((k6 : Nat) : Int) < ((a.list.length : Nat) : Int)))) rfl rfl rfl ?_ ?_
  · refine QV.qo ?_; exact q_lss (k := .i64) (a := ((k6 : Nat) : Int)) (b := ((a.list.length : Nat) : Int)) rfl (by kernel_rfl) (by kernel_rfl)
  refine WR.nil ?_
  change WC _ _ _ _ _ _
  refine WC.cond (b := (decide (((k6 : Nat) : Int) < ((a.list.length : Nat) : Int)))) (by kernel_rfl) ?_ ?_
  · skip
    intro hb_10t
    have hp_11 := of_decide_eq_true hb_10t
    refine WC.skip ?_
    change WC _ _ _ _ _ _
    refine WC.seq ?_
    refine WC.block ?_
    refine WC.seq ?_
    refine WC.region ?_
    refine WR.v (v := .pointer (some ⟨ga, 0, none⟩)) rfl rfl rfl ?_ ?_
    · refine QV.qo ?_; exact q_move rfl h6_0
    refine WR.v (v := .pointer (some ⟨ga, 0, none⟩)) rfl rfl rfl ?_ ?_
    · refine QV.qo ?_; exact q_nil (A := some ⟨ga, 0, none⟩) rfl (by kernel_rfl) rfl
    refine WR.v (v := .pointer (some ⟨ga, 0, none⟩)) rfl rfl rfl ?_ ?_
    · refine QV.qo ?_; exact q_field_loc (g := ga) (j := 0) 0 fld_76_0 rfl (by kernel_rfl) rfl
    refine WR.v (v := .slice A0_2 a.list.length c0_2) rfl rfl rfl ?_ ?_
    · refine QV.qo ?_; exact q_load_loc (i := 0) (g := ga) (j := 0) (v := .slice A0_2 a.list.length c0_2) rfl Try.isAgg22 (by kernel_rfl) rfl rfl
    refine WR.v (v := .int .i64 ((k6 : Nat) : Int)) rfl rfl rfl ?_ ?_
    · refine QV.qo ?_; exact q_move rfl h6_5
    refine WR.v (v := ptrAt A0_2 (k6 * 1)) rfl rfl rfl ?_ ?_
    · refine QV.qo ?_; exact q_index_addr (k := .i64) (A := A0_2) (n := a.list.length) (c := c0_2) (i := k6) rfl Try.underlying22 Try.sizeOf3 (by kernel_rfl) (by kernel_rfl) (by omega) (Sl.some_ ho0_2 (k := k6) (by omega))
    refine WR.v (v := .int .i64 (gt a.list k6)) rfl rfl rfl ?_ ?_
    · refine QV.qo ?_; exact q_load_cell (A := A0_2) (j := k6 * 1) (v := .int .i64 (gt a.list k6)) rfl Try.isAgg3 (by kernel_rfl) (Sl.intT_0 ho0_2 (i := k6) (by omega))
    refine WR.v (v := .int .i64 node) rfl rfl rfl ?_ ?_
    · refine QV.qo ?_; exact q_move rfl h6_1
    refine WR.v (v := .bool ((gt a.list k6) == node)) rfl rfl rfl ?_ ?_
    · refine QV.qo ?_; exact q_eql (k := .i64) (a := (gt a.list k6)) (b := node) rfl (by kernel_rfl) (by kernel_rfl)
    refine WR.v (v := .bool ((gt a.list k6) == node)) rfl rfl rfl ?_ ?_
    · refine QV.qo ?_; exact q_move rfl (by kernel_rfl)
    refine WR.g1 (v := .pointer (some ⟨ga, 0, none⟩)) (c0 := true) (g := ((gt a.list k6) == node)) rfl rfl (by kernel_rfl) rfl rfl (fun hc_12 => ?_) ?_
    · refine QV.qo ?_; exact q_move rfl h6_0
    refine WR.g1 (v := .pointer (some ⟨ga, 0, none⟩)) (c0 := true) (g := ((gt a.list k6) == node)) rfl rfl (by kernel_rfl) rfl rfl (fun hc_13 => ?_) ?_
    · refine QV.qo ?_; exact q_nil (A := some ⟨ga, 0, none⟩) rfl (gv_of hc_13) rfl
    refine WR.g1 (v := .pointer (some ⟨ga, 2, none⟩)) (c0 := true) (g := ((gt a.list k6) == node)) rfl rfl (by kernel_rfl) rfl rfl (fun hc_14 => ?_) ?_
    · refine QV.qo ?_; exact q_field_loc (g := ga) (j := 0) 2 fld_76_2 rfl (gv_of hc_14) rfl
    refine WR.g1 (v := .slice A2_2 a.isin.length c2_2) (c0 := true) (g := ((gt a.list k6) == node)) rfl rfl (by kernel_rfl) rfl rfl (fun hc_15 => ?_) ?_
    · refine QV.qo ?_; exact q_load_loc (i := 0) (g := ga) (j := 2) (v := .slice A2_2 a.isin.length c2_2) rfl Try.isAgg73 (gv_of hc_15) rfl rfl
    refine WR.g1 (v := .int .i64 ((k6 : Nat) : Int)) (c0 := true) (g := ((gt a.list k6) == node)) rfl rfl (by kernel_rfl) rfl rfl (fun hc_16 => ?_) ?_
    · refine QV.qo ?_; exact q_move rfl h6_5
    refine WR.g1 (v := ptrAt A2_2 (k6 * 1)) (c0 := true) (g := ((gt a.list k6) == node)) rfl rfl (by kernel_rfl) rfl rfl (fun hc_17 => ?_) ?_
    · refine QV.qo ?_; exact q_index_addr (k := .i64) (A := A2_2) (n := a.isin.length) (c := c2_2) (i := k6) rfl Try.underlying73 Try.sizeOf4 (gv_of hc_17) (gv_of hc_17) (by first | omega | (simp at hc_17; omega)) (Own.some_ ho3_2 (k := k6) (by first | omega | (simp at hc_17; omega)))
    refine WR.g1 (v := .bool (gt a.isin k6)) (c0 := true) (g := ((gt a.list k6) == node)) rfl rfl (by kernel_rfl) rfl rfl (fun hc_18 => ?_) ?_
    · refine QV.qo ?_; exact q_load_own (row := r2_2) (i := 1) (A := A2_2) (j := k6 * 1) (v := .bool (gt a.isin k6)) rfl Try.isAgg4 (gv_of hc_18) (Own.boolT_0 ho3_2 (i := k6) (by first | omega | (simp at hc_18; omega))) rfl
    refine WR.g1 (v := .bool (!(gt a.isin k6))) (c0 := true) (g := ((gt a.list k6) == node)) rfl rfl (by kernel_rfl) rfl rfl (fun hc_19 => ?_) ?_
    · refine QV.qo ?_; exact q_not (g := (gt a.isin k6)) rfl (gv_of hc_19)
    refine WR.v (v := .bool (((gt a.list k6) == node) && (!(gt a.isin k6)))) rfl rfl rfl ?_ ?_
    · refine QV.qo ?_; exact q_pick (g := ((gt a.list k6) == node)) rfl (by kernel_rfl) (pk_and (c := true) rfl)
    refine WR.nil ?_
    change WC _ _ _ _ _ _
    refine WC.cond (b := (((gt a.list k6) == node) && (!(gt a.isin k6)))) (by kernel_rfl) ?_ ?_
    · skip
      intro hb_20t
      have hp_21 := eq_of_beq (and_l hb_20t)
      have hp_22 := (not_t (and_r hb_20t))
      refine WC.seq ?_
      refine WC.region ?_
      refine WR.v (v := .int .i64 ((k6 : Nat) : Int)) rfl rfl rfl ?_ ?_
      · refine QV.qo ?_; exact q_move rfl h6_5
      refine WR.v (v := .int .i64 ((k6 : Nat) : Int)) rfl rfl rfl ?_ ?_
      · refine QV.qo ?_; exact q_assign rfl (by kernel_rfl)
      refine WR.nil ?_
      change WC _ _ _ _ _ _
      refine WC.sub (C' := CC (ids [rowa]) w0 X w0 [rowa]) (fun w hw => Cur.fold_ (row := rowa) (U := [[(ga, .cells #[.slice A0_2 a.list.length c0_2, .int .i64 a.need, .slice A2_2 a.isin.length c2_2, .slice A3_2 a.vers.length c3_2, .slice A4_2 a.recs.length c4_2] 76 (0, 0))], r2_2, r3_2, r4_2]) (R := []) (hw.permL (((List.perm_middle (l₁ := ([r2_2, r3_2, r4_2] : List Rowb)) (a := ([(ga, .cells #[.slice A0_2 a.list.length c0_2, .int .i64 a.need, .slice A2_2 a.isin.length c2_2, .slice A3_2 a.vers.length c3_2, .slice A4_2 a.recs.length c4_2] 76 (0, 0))] : Rowb)) (l₂ := ([] : List Rowb))).symm).trans (((List.perm_middle (l₁ := ([r3_2, r4_2, [(ga, .cells #[.slice A0_2 a.list.length c0_2, .int .i64 a.need, .slice A2_2 a.isin.length c2_2, .slice A3_2 a.vers.length c3_2, .slice A4_2 a.recs.length c4_2] 76 (0, 0))]] : List Rowb)) (a := (r2_2 : Rowb)) (l₂ := ([] : List Rowb))).symm).trans (((List.perm_middle (l₁ := ([r4_2, [(ga, .cells #[.slice A0_2 a.list.length c0_2, .int .i64 a.need, .slice A2_2 a.isin.length c2_2, .slice A3_2 a.vers.length c3_2, .slice A4_2 a.recs.length c4_2] 76 (0, 0))], r2_2] : List Rowb)) (a := (r3_2 : Rowb)) (l₂ := ([] : List Rowb))).symm).trans (List.perm_middle (l₁ := ([[(ga, .cells #[.slice A0_2 a.list.length c0_2, .int .i64 a.need, .slice A2_2 a.isin.length c2_2, .slice A3_2 a.vers.length c3_2, .slice A4_2 a.recs.length c4_2] 76 (0, 0))], r2_2, r3_2] : List Rowb)) (a := (r4_2 : Rowb)) (l₂ := ([] : List Rowb))).symm)))) hrow_2) ?_
      refine WC.ret ?_
      intro w hw
      refine ⟨congrArg Ending.returned (congrArg (Value.int .i64) ?_), Cur.frno hw hpre.loc⟩
      show ((k6 : Nat) : Int) = a.place node
      unfold Ask16.place; rw [hrel6]; first | (rw [firstFrom_step (by omega)]; first | (simp only [hb_10t, hb_20t, Bool.not_true, Bool.not_false, Bool.and_false, Bool.false_and, Bool.and_true, Bool.true_and, Bool.or_true, Bool.true_or, Bool.or_false, Bool.false_or, cond_true, cond_false]; done) | (simp [hb_10t, hp_11, hb_20t, hp_21, hp_22]; done); done) | (rw [firstFrom_end (by omega)])
    · skip
      intro hb_20f
      refine WC.skip ?_
      change WC _ _ _ _ _ _
      refine WC.region ?_
      refine WR.v (v := .int .i64 ((k6 : Nat) : Int)) rfl rfl rfl ?_ ?_
      · refine QV.qo ?_; exact q_move rfl h6_5
      refine WR.v (v := .int .i64 ((k6 + 1 : Nat) : Int)) rfl rfl rfl ?_ ?_
      · refine QV.qo ?_; exact q_add (k := .i64) (a := ((k6 : Nat) : Int)) (b := 1) (r := ((k6 + 1 : Nat) : Int)) rfl (by kernel_rfl) (by kernel_rfl) (wr64 (by omega) (by omega))
      refine WR.v (v := .int .i64 ((k6 + 1 : Nat) : Int)) rfl rfl rfl ?_ ?_
      · refine QV.qo ?_; exact q_assign rfl (by kernel_rfl)
      refine WR.nil ?_
      intro w hw
      refine ⟨_, ?_, k6 + 1, rfl, (by first | trivial | omega), ?_, ⟨h6_0, h6_1, by kernel_rfl⟩, hw⟩
      · omega
      · rw [hrel6, firstFrom_step (by omega)]; first | (simp only [hb_10t, hb_20f, Bool.not_true, Bool.not_false, Bool.and_false, Bool.false_and, Bool.and_true, Bool.true_and, Bool.or_true, Bool.true_or, Bool.or_false, Bool.false_or, cond_true, cond_false]; done) | (simp [hb_10t, hp_11, hb_20f]; done)
  · skip
    intro hb_10f
    have hp_23 := of_decide_eq_false hb_10f
    refine WC.exit ?_
    change WC _ _ _ _ _ _
    refine WC.seq ?_
    refine WC.region ?_
    refine WR.v (v := .int .i64 (-1)) rfl rfl rfl ?_ ?_
    · refine QV.qo ?_; exact q_assign rfl (by kernel_rfl)
    refine WR.nil ?_
    change WC _ _ _ _ _ _
    refine WC.sub (C' := CC (ids [rowa]) w0 X w0 [rowa]) (fun w hw => Cur.fold_ (row := rowa) (U := [[(ga, .cells #[.slice A0_2 a.list.length c0_2, .int .i64 a.need, .slice A2_2 a.isin.length c2_2, .slice A3_2 a.vers.length c3_2, .slice A4_2 a.recs.length c4_2] 76 (0, 0))], r2_2, r3_2, r4_2]) (R := []) (hw.permL (((List.perm_middle (l₁ := ([r2_2, r3_2, r4_2] : List Rowb)) (a := ([(ga, .cells #[.slice A0_2 a.list.length c0_2, .int .i64 a.need, .slice A2_2 a.isin.length c2_2, .slice A3_2 a.vers.length c3_2, .slice A4_2 a.recs.length c4_2] 76 (0, 0))] : Rowb)) (l₂ := ([] : List Rowb))).symm).trans (((List.perm_middle (l₁ := ([r3_2, r4_2, [(ga, .cells #[.slice A0_2 a.list.length c0_2, .int .i64 a.need, .slice A2_2 a.isin.length c2_2, .slice A3_2 a.vers.length c3_2, .slice A4_2 a.recs.length c4_2] 76 (0, 0))]] : List Rowb)) (a := (r2_2 : Rowb)) (l₂ := ([] : List Rowb))).symm).trans (((List.perm_middle (l₁ := ([r4_2, [(ga, .cells #[.slice A0_2 a.list.length c0_2, .int .i64 a.need, .slice A2_2 a.isin.length c2_2, .slice A3_2 a.vers.length c3_2, .slice A4_2 a.recs.length c4_2] 76 (0, 0))], r2_2] : List Rowb)) (a := (r3_2 : Rowb)) (l₂ := ([] : List Rowb))).symm).trans (List.perm_middle (l₁ := ([[(ga, .cells #[.slice A0_2 a.list.length c0_2, .int .i64 a.need, .slice A2_2 a.isin.length c2_2, .slice A3_2 a.vers.length c3_2, .slice A4_2 a.recs.length c4_2] 76 (0, 0))], r2_2, r3_2] : List Rowb)) (a := (r4_2 : Rowb)) (l₂ := ([] : List Rowb))).symm)))) hrow_2) ?_
    refine WC.ret ?_
    intro w hw
    refine ⟨congrArg Ending.returned (congrArg (Value.int .i64) ?_), Cur.frno hw hpre.loc⟩
    show (-1) = a.place node
    unfold Ask16.place; rw [hrel6]; first | (rw [firstFrom_step (by omega)]; first | (simp only [hb_10f, Bool.not_true, Bool.not_false, Bool.and_false, Bool.false_and, Bool.and_true, Bool.true_and, Bool.or_true, Bool.true_or, Bool.or_false, Bool.false_or, cond_true, cond_false]; done) | (simp [hb_10f, hp_23]; done); done) | (rw [firstFrom_end (by omega)])

def r16_Ack_ok_res (ga : Nat) (rowa : Rowb) (a : Ask16) (node : Int) (U1 : List Rowb) (Xr : Nat → Prop) (wr : World) (vr : Value) : Prop := (∃ (rowa1 : Rowb), U1 = [rowa1] ∧ vr = .bool (decide (0 ≤ a.place node)) ∧ Ask16.ob 76 Xr wr ga rowa1 (a.ack node) ∧ True)
set_option maxRecDepth 100000 in
set_option maxHeartbeats 1000000 in
theorem r16_Ack_ok (w0 : World) (X : Nat → Prop) (ga : Nat) (rowa : Rowb) (a : Ask16) (hoba : Ask16.ob 76 X w0 ga rowa a) (node : Int) (hnode : I64 node) (hpre : Pre [rowa] X w0) (hX : ∀ k, X k → k < w0.heap.size) : Calls Try.prog 12 #[.pointer (some ⟨ga, 0, none⟩), .int .i64 node] w0 fun e w' => ∃ vr, e = .returned vr ∧ ∃ U1, Eff [rowa] U1 w0 w' ∧ r16_Ack_ok_res ga rowa a node U1 (Mx X U1) w' vr := by
  have hpl := place_lt a node
  have hst0 := hpre.start
  obtain ⟨S, hS⟩ : ∃ S, S = ids [rowa] := ⟨_, rfl⟩
  rw [← hS] at hst0
  refine calls_of (N := 19) (rs := [4]) (args := [.pointer (some ⟨ga, 0, none⟩), .int .i64 node]) Try.func12 rfl Try.ntmps12 Try.results12 rfl ?_
  refine WC.here (C := CC S w0 X w0 [rowa]) ?_ hst0
  refine WC.seq ?_
  refine WC.region ?_
  refine WR.v (v := .bool false) rfl rfl rfl ?_ ?_
  · refine QV.qo ?_; exact q_assign rfl (by kernel_rfl)
  refine WR.nil ?_
  change WC _ _ _ _ _ _
  refine WC.seq ?_
  refine WC.region ?_
  refine WR.v (v := .pointer (some ⟨ga, 0, none⟩)) rfl rfl rfl ?_ ?_
  · refine QV.qo ?_; exact q_move rfl (by kernel_rfl)
  refine WR.v (v := .int .i64 node) rfl rfl rfl ?_ ?_
  · refine QV.qo ?_; exact q_move rfl (by kernel_rfl)
  refine WR.v (v := .int .i64 ((a).place (node))) rfl rfl rfl ?_ ?_
  · exact q_call (args := #[.pointer (some ⟨ga, 0, none⟩), .int .i64 node]) Try.call37 rfl (by kernel_rfl) (fun w hw => r16_place_ok w _ ga rowa (a) ((hoba).step hw.st) (node) hnode (hw.preL.sub (.cons_cons _ .slnil)) (hw.mx_lt hX))
  refine WR.v (v := .int .i64 ((a).place (node))) rfl rfl rfl ?_ ?_
  · refine QV.qo ?_; exact q_assign rfl (by kernel_rfl)
  refine WR.nil ?_
  change WC _ _ _ _ _ _
  refine WC.seq ?_
  refine WC.seq ?_
  refine WC.region ?_
  refine WR.v (v := .int .i64 ((a).place (node))) rfl rfl rfl ?_ ?_
  · refine QV.qo ?_; exact q_move rfl (by kernel_rfl)
  refine WR.v (v := .bool (decide (0 ≤ ((a).place (node))))) rfl rfl rfl ?_ ?_
  · refine QV.qo ?_; exact q_geq (k := .i64) (a := ((a).place (node))) (b := 0) rfl (by kernel_rfl) (by kernel_rfl)
  refine WR.nil ?_
  change WC _ _ _ _ _ _
  refine WC.cond (b := (decide (0 ≤ ((a).place (node))))) (by kernel_rfl) ?_ ?_
  · skip
    intro hb_2t
    have hp_3 := of_decide_eq_true hb_2t
    refine WC.region ?_
    refine WR.v (v := .pointer (some ⟨ga, 0, none⟩)) rfl rfl rfl ?_ ?_
    · refine QV.qo ?_; exact q_move rfl (by kernel_rfl)
    refine WR.v (v := .pointer (some ⟨ga, 0, none⟩)) rfl rfl rfl ?_ ?_
    · refine QV.qo ?_; exact q_nil (A := some ⟨ga, 0, none⟩) rfl (by kernel_rfl) rfl
    refine WR.v (v := .pointer (some ⟨ga, 2, none⟩)) rfl rfl rfl ?_ ?_
    · refine QV.qo ?_; exact q_field_loc (g := ga) (j := 0) 2 fld_76_2 rfl (by kernel_rfl) rfl
    have hob_4 := hoba
    obtain ⟨A0_4, c0_4, A2_4, c2_4, r2_4, A3_4, c3_4, r3_4, A4_4, c4_4, r4_4, hrow_4, ho0_4, ho1_4, ho2_4, ho3_4, ho4_4, ho5_4, ho6_4, ho7_4, _⟩ := hob_4
    have ho0_4l := ho0_4.le_
    have ho3_4l := ho3_4.le_
    have ho4_4l := ho4_4.le_
    have ho5_4l := ho5_4.le_
    refine WR.sub (C' := CC S w0 X w0 [[(ga, .cells #[.slice A0_4 a.list.length c0_4, .int .i64 a.need, .slice A2_4 a.isin.length c2_4, .slice A3_4 a.vers.length c3_4, .slice A4_4 a.recs.length c4_4] 76 (0, 0))], r2_4, r3_4, r4_4]) (fun w hw => Cur.open_ (U := [[(ga, .cells #[.slice A0_4 a.list.length c0_4, .int .i64 a.need, .slice A2_4 a.isin.length c2_4, .slice A3_4 a.vers.length c3_4, .slice A4_4 a.recs.length c4_4] 76 (0, 0))], r2_4, r3_4, r4_4]) (R := []) hw hrow_4) ?_
    refine WR.v (v := .slice A2_4 a.isin.length c2_4) rfl rfl rfl ?_ ?_
    · refine QV.qo ?_; exact q_load_loc (i := 0) (g := ga) (j := 2) (v := .slice A2_4 a.isin.length c2_4) rfl Try.isAgg73 (by kernel_rfl) rfl rfl
    refine WR.v (v := .int .i64 ((a).place (node))) rfl rfl rfl ?_ ?_
    · refine QV.qo ?_; exact q_move rfl (by kernel_rfl)
    refine WR.v (v := ptrAt A2_4 ((((a).place (node))).toNat * 1)) rfl rfl rfl ?_ ?_
    · refine QV.qo ?_; exact q_index_addr (k := .i64) (A := A2_4) (n := a.isin.length) (c := c2_4) (i := (((a).place (node))).toNat) rfl Try.underlying73 Try.sizeOf4 (by kernel_rfl) (nat_index (by kernel_rfl) (by omega)) (by omega) (Own.some_ ho3_4 (k := (((a).place (node))).toNat) (by omega))
    refine e_store_own (T := boolT) (q := (((a).place (node))).toNat) (v := .bool true) (y := true) rfl rfl rfl (by kernel_rfl) (by kernel_rfl) Try.sizeOf4 (by exact rfl) (i := 1) rfl ho3_4 (by omega) ?_
    intro row_8 hown_9
    have hown_9l := hown_9.le_; rw [List.length_set] at hown_9l
    change WR _ _ _ (CC _ _ X w0 [[(ga, .cells #[.slice A0_4 a.list.length c0_4, .int .i64 a.need, .slice A2_4 a.isin.length c2_4, .slice A3_4 a.vers.length c3_4, .slice A4_4 a.recs.length c4_4] 76 (0, 0))], row_8, r3_4, r4_4]) _ _ _
    refine WR.sub (C' := CC S w0 X w0 [[(ga, .cells #[.slice A0_4 a.list.length c0_4, .int .i64 a.need, .slice A2_4 (a.isin.set ((((a).place (node))).toNat) (true)).length c2_4, .slice A3_4 a.vers.length c3_4, .slice A4_4 a.recs.length c4_4] 76 (0, 0))], row_8, r3_4, r4_4]) (fun w hw => by simpa only [List.length_set, List.length_replicate] using hw) ?_
    refine WR.nil ?_
    change WC _ _ _ _ _ _
    refine WC.seq ?_
    refine WC.region ?_
    refine WR.v (v := .int .i64 ((a).place (node))) rfl rfl rfl ?_ ?_
    · refine QV.qo ?_; exact q_move rfl (by kernel_rfl)
    refine WR.v (v := .bool (decide (0 ≤ ((a).place (node))))) rfl rfl rfl ?_ ?_
    · refine QV.qo ?_; exact q_geq (k := .i64) (a := ((a).place (node))) (b := 0) rfl (by kernel_rfl) (by kernel_rfl)
    refine WR.v (v := .bool (decide (0 ≤ ((a).place (node))))) rfl rfl rfl ?_ ?_
    · refine QV.qo ?_; exact q_assign rfl (by kernel_rfl)
    refine WR.nil ?_
    change WC _ _ _ _ _ _
    have hinv_12 : (⟨a.list, a.need, (a.isin.set ((((a).place (node))).toNat) (true)), a.vers, a.recs⟩ : Ask16).isin.length = (⟨a.list, a.need, (a.isin.set ((((a).place (node))).toNat) (true)), a.vers, a.recs⟩ : Ask16).list.length := (by first | omega | (simp; omega) | (simp_all; done) | (simp_all; omega))
    have hinv_13 : (⟨a.list, a.need, (a.isin.set ((((a).place (node))).toNat) (true)), a.vers, a.recs⟩ : Ask16).vers.length = (⟨a.list, a.need, (a.isin.set ((((a).place (node))).toNat) (true)), a.vers, a.recs⟩ : Ask16).list.length := (by first | omega | (simp; omega) | (simp_all; done) | (simp_all; omega))
    obtain ⟨row_11, hrow_11, hob_11⟩ : ∃ rw : Rowb, rw = ([[(ga, .cells #[.slice A0_4 a.list.length c0_4, .int .i64 a.need, .slice A2_4 (a.isin.set ((((a).place (node))).toNat) (true)).length c2_4, .slice A3_4 a.vers.length c3_4, .slice A4_4 a.recs.length c4_4] 76 (0, 0))], row_8, r3_4, r4_4] : List Rowb).flatten ∧ Ask16.ob 76 X w0 ga rw (⟨a.list, a.need, (a.isin.set ((((a).place (node))).toNat) (true)), a.vers, a.recs⟩ : Ask16) := ⟨_, rfl, A0_4, c0_4, A2_4, c2_4, row_8, A3_4, c3_4, r3_4, A4_4, c4_4, r4_4, rfl, ho0_4, ho1_4, ho2_4, hown_9, ho4_4, ho5_4, hinv_12, hinv_13, trivial⟩
    refine WC.sub (C' := CC S w0 X w0 [row_11]) (fun w hw => Cur.fold_ (row := row_11) (U := [[(ga, .cells #[.slice A0_4 a.list.length c0_4, .int .i64 a.need, .slice A2_4 (a.isin.set ((((a).place (node))).toNat) (true)).length c2_4, .slice A3_4 a.vers.length c3_4, .slice A4_4 a.recs.length c4_4] 76 (0, 0))], row_8, r3_4, r4_4]) (R := []) (hw.permL (((List.perm_middle (l₁ := ([row_8, r3_4, r4_4] : List Rowb)) (a := ([(ga, .cells #[.slice A0_4 a.list.length c0_4, .int .i64 a.need, .slice A2_4 (a.isin.set ((((a).place (node))).toNat) (true)).length c2_4, .slice A3_4 a.vers.length c3_4, .slice A4_4 a.recs.length c4_4] 76 (0, 0))] : Rowb)) (l₂ := ([] : List Rowb))).symm).trans (((List.perm_middle (l₁ := ([r3_4, r4_4, [(ga, .cells #[.slice A0_4 a.list.length c0_4, .int .i64 a.need, .slice A2_4 (a.isin.set ((((a).place (node))).toNat) (true)).length c2_4, .slice A3_4 a.vers.length c3_4, .slice A4_4 a.recs.length c4_4] 76 (0, 0))]] : List Rowb)) (a := (row_8 : Rowb)) (l₂ := ([] : List Rowb))).symm).trans (((List.perm_middle (l₁ := ([r4_4, [(ga, .cells #[.slice A0_4 a.list.length c0_4, .int .i64 a.need, .slice A2_4 (a.isin.set ((((a).place (node))).toNat) (true)).length c2_4, .slice A3_4 a.vers.length c3_4, .slice A4_4 a.recs.length c4_4] 76 (0, 0))], row_8] : List Rowb)) (a := (r3_4 : Rowb)) (l₂ := ([] : List Rowb))).symm).trans (List.perm_middle (l₁ := ([[(ga, .cells #[.slice A0_4 a.list.length c0_4, .int .i64 a.need, .slice A2_4 (a.isin.set ((((a).place (node))).toNat) (true)).length c2_4, .slice A3_4 a.vers.length c3_4, .slice A4_4 a.recs.length c4_4] 76 (0, 0))], row_8, r3_4] : List Rowb)) (a := (r4_4 : Rowb)) (l₂ := ([] : List Rowb))).symm)))) hrow_11) ?_
    refine WC.ret ?_
    intro w hw
    have hm_15 : (⟨a.list, a.need, (a.isin.set ((((a).place (node))).toNat) (true)), a.vers, a.recs⟩ : Ask16) = a.ack node := by
      first | (simp only [Ask16.ack, hb_2t, Bool.not_true, Bool.not_false, Bool.and_false, Bool.false_and, Bool.and_true, Bool.true_and, Bool.or_true, Bool.true_or, Bool.or_false, Bool.false_or, cond_true, cond_false]; done) | (simp [Ask16.ack, hb_2t, hp_3]; done)
    have hm_16 : (decide (0 ≤ ((a).place (node)))) = decide (0 ≤ a.place node) := by
      first | (simp only [Ask16.ack, hb_2t, Bool.not_true, Bool.not_false, Bool.and_false, Bool.false_and, Bool.and_true, Bool.true_and, Bool.or_true, Bool.true_or, Bool.or_false, Bool.false_or, cond_true, cond_false]; done) | (simp [Ask16.ack, hb_2t, hp_3]; done)
    have hw2 := Cur.perm (L' := [row_11]) hw (.cons_cons _ .slnil)
    rw [hS] at hw2
    refine ⟨_, rfl, [row_11], hw2.toEff, ?_⟩
    unfold r16_Ack_ok_res
    rw [← hm_15]
    rw [← hm_16]
    exact ⟨row_11, rfl, (by kernel_rfl), (hob_11).step (hw2.st2 (fun _ h => h)), trivial⟩
  · skip
    intro hb_2f
    have hp_17 := of_decide_eq_false hb_2f
    refine WC.skip ?_
    change WC _ _ _ _ _ _
    refine WC.seq ?_
    refine WC.region ?_
    refine WR.v (v := .int .i64 ((a).place (node))) rfl rfl rfl ?_ ?_
    · refine QV.qo ?_; exact q_move rfl (by kernel_rfl)
    refine WR.v (v := .bool (decide (0 ≤ ((a).place (node))))) rfl rfl rfl ?_ ?_
    · refine QV.qo ?_; exact q_geq (k := .i64) (a := ((a).place (node))) (b := 0) rfl (by kernel_rfl) (by kernel_rfl)
    refine WR.v (v := .bool (decide (0 ≤ ((a).place (node))))) rfl rfl rfl ?_ ?_
    · refine QV.qo ?_; exact q_assign rfl (by kernel_rfl)
    refine WR.nil ?_
    change WC _ _ _ _ _ _
    refine WC.ret ?_
    intro w hw
    have hm_18 : a = a.ack node := by
      first | (simp only [Ask16.ack, hb_2f, Bool.not_true, Bool.not_false, Bool.and_false, Bool.false_and, Bool.and_true, Bool.true_and, Bool.or_true, Bool.true_or, Bool.or_false, Bool.false_or, cond_true, cond_false]; done) | (simp [Ask16.ack, hb_2f, hp_17]; done)
    have hm_19 : (decide (0 ≤ ((a).place (node)))) = decide (0 ≤ a.place node) := by
      first | (simp only [Ask16.ack, hb_2f, Bool.not_true, Bool.not_false, Bool.and_false, Bool.false_and, Bool.and_true, Bool.true_and, Bool.or_true, Bool.true_or, Bool.or_false, Bool.false_or, cond_true, cond_false]; done) | (simp [Ask16.ack, hb_2f, hp_17]; done)
    have hw2 := Cur.perm (L' := [rowa]) hw (.cons_cons _ .slnil)
    rw [hS] at hw2
    refine ⟨_, rfl, [rowa], hw2.toEff, ?_⟩
    unfold r16_Ack_ok_res
    rw [← hm_18]
    rw [← hm_19]
    exact ⟨rowa, rfl, (by kernel_rfl), (hoba).step (hw2.st2 (fun _ h => h)), trivial⟩

def r16_Waits_ok_res (a : Ask16) (Xr : Nat → Prop) (wr : World) (vr : Value) : Prop := ∃ A0 c0, vr = .slice A0 (a.waits).length c0 ∧ Sl intT Xr wr A0 (a.waits) ∧ (a.waits).length ≤ c0
set_option maxRecDepth 100000 in
set_option maxHeartbeats 1000000 in
theorem r16_Waits_ok (w0 : World) (X : Nat → Prop) (ga : Nat) (rowa : Rowb) (a : Ask16) (hoba : Ask16.ob 76 X w0 ga rowa a) (hpre : Pre [rowa] X w0) (hX : ∀ k, X k → k < w0.heap.size) : Calls Try.prog 17 #[.pointer (some ⟨ga, 0, none⟩)] w0 fun e w' => ∃ vr, e = .returned vr ∧ r16_Waits_ok_res a X w' vr ∧ Fr no w0 w' := by
  refine calls_of (N := 33) (rs := [2]) (args := [.pointer (some ⟨ga, 0, none⟩)]) Try.func17 rfl Try.ntmps17 Try.results17 rfl ?_
  refine WC.here (C := CC (ids [rowa]) w0 X w0 [rowa]) ?_ hpre.start
  have hob_2 := hoba
  obtain ⟨A0_2, c0_2, A2_2, c2_2, r2_2, A3_2, c3_2, r3_2, A4_2, c4_2, r4_2, hrow_2, ho0_2, ho1_2, ho2_2, ho3_2, ho4_2, ho5_2, ho6_2, ho7_2, _⟩ := hob_2
  have ho0_2l := ho0_2.le_
  have ho3_2l := ho3_2.le_
  have ho4_2l := ho4_2.le_
  have ho5_2l := ho5_2.le_
  refine WC.sub (C' := CC (ids [rowa]) w0 X w0 [[(ga, .cells #[.slice A0_2 a.list.length c0_2, .int .i64 a.need, .slice A2_2 a.isin.length c2_2, .slice A3_2 a.vers.length c3_2, .slice A4_2 a.recs.length c4_2] 76 (0, 0))], r2_2, r3_2, r4_2]) (fun w hw => Cur.open_ (U := [[(ga, .cells #[.slice A0_2 a.list.length c0_2, .int .i64 a.need, .slice A2_2 a.isin.length c2_2, .slice A3_2 a.vers.length c3_2, .slice A4_2 a.recs.length c4_2] 76 (0, 0))], r2_2, r3_2, r4_2]) (R := []) hw hrow_2) ?_
  refine WC.seq ?_
  refine WC.region ?_
  refine WR.v (v := .slice none 0 0) rfl rfl rfl ?_ ?_
  · refine QV.qo ?_; exact q_assign rfl (by kernel_rfl)
  refine WR.nil ?_
  change WC _ _ _ _ _ _
  refine WC.seq ?_
  refine WC.region ?_
  refine WR.v (v := .slice none 0 0) rfl rfl rfl ?_ ?_
  · refine QV.qo ?_; exact q_assign rfl (by kernel_rfl)
  refine WR.nil ?_
  change WC _ _ _ _ _ _
  refine WC.seq ?_
  refine WC.seq ?_
  refine WC.region ?_
  refine WR.v (v := .int .i64 0) rfl rfl rfl ?_ ?_
  · refine QV.qo ?_; exact q_assign rfl (by kernel_rfl)
  refine WR.nil ?_
  change WC _ _ _ _ _ _
  refine WC.block ?_
  refine WC.sub (C' := CC _ _ X w0 [[], [(ga, .cells #[.slice A0_2 a.list.length c0_2, .int .i64 a.need, .slice A2_2 a.isin.length c2_2, .slice A3_2 a.vers.length c3_2, .slice A4_2 a.recs.length c4_2] 76 (0, 0))], r2_2, r3_2, r4_2]) (fun w hw => hw.pad) ?_
  refine WC.loop (fun (m : Nat) (σ : Env) (w1 : World) => ∃ (k6 : Nat)  (out : List Int) (row_out6 : Rowb) (A_out6 : Option Addr) (c_out6 : Nat) (X_8 : Nat → Prop) (B_9 : World), m = a.list.length - k6 ∧ (k6 ≤ a.list.length) ∧ (out = sel (fun k => !(gt a.isin k)) (gt a.list) k6) ∧ (out.length ≤ k6) ∧ (σ 0 = .pointer (some ⟨ga, 0, none⟩) ∧ σ 3 = .slice A_out6 out.length c_out6 ∧ σ 4 = .int .i64 ((k6 : Nat) : Int)) ∧ St X w0 X_8 B_9 ∧ (∀ k, X k → X_8 k) ∧ (∀ k, X_8 k → k < B_9.heap.size) ∧ Own intT X_8 B_9 3 row_out6 A_out6 c_out6 out ∧ CC (ids [rowa]) w0 X_8 B_9 [row_out6, [(ga, .cells #[.slice A0_2 a.list.length c0_2, .int .i64 a.need, .slice A2_2 a.isin.length c2_2, .slice A3_2 a.vers.length c3_2, .slice A4_2 a.recs.length c4_2] 76 (0, 0))], r2_2, r3_2, r4_2] w1) ?_ ?_
  · intro w1 hw
    exact ⟨_, 0, [], [], none, 0, X, w0, rfl, (by first | trivial | omega), rfl, (by simp), ⟨by kernel_rfl, by kernel_rfl, by kernel_rfl⟩, St.refl _ _, fun _ h => h, hX, (Own.nil intT X w0 3), hw⟩
  intro m6 σ6 w1 hI
  obtain ⟨k6, out, row_out6, A_out6, c_out6, X_8, B_9, rfl, hk6, hrel6, hol, ⟨h6_0, h6_3, h6_4⟩, hst_10, hxx_11, hxl_12, ho_out6, hw⟩ := hI
  refine WC.here (C := CC (ids [rowa]) w0 X_8 B_9 [row_out6, [(ga, .cells #[.slice A0_2 a.list.length c0_2, .int .i64 a.need, .slice A2_2 a.isin.length c2_2, .slice A3_2 a.vers.length c3_2, .slice A4_2 a.recs.length c4_2] 76 (0, 0))], r2_2, r3_2, r4_2]) ?_ hw
  clear hw
  have ho_out6l := ho_out6.le_
  refine WC.seq ?_
  refine WC.seq ?_
  refine WC.region ?_
  refine WR.v (v := .int .i64 ((k6 : Nat) : Int)) rfl rfl rfl ?_ ?_
  · refine QV.qo ?_; exact q_move rfl h6_4
  refine WR.v (v := .pointer (some ⟨ga, 0, none⟩)) rfl rfl rfl ?_ ?_
  · refine QV.qo ?_; exact q_move rfl h6_0
  refine WR.v (v := .pointer (some ⟨ga, 0, none⟩)) rfl rfl rfl ?_ ?_
  · refine QV.qo ?_; exact q_nil (A := some ⟨ga, 0, none⟩) rfl (by kernel_rfl) rfl
  refine WR.v (v := .pointer (some ⟨ga, 0, none⟩)) rfl rfl rfl ?_ ?_
  · refine QV.qo ?_; exact q_field_loc (g := ga) (j := 0) 0 fld_76_0 rfl (by kernel_rfl) rfl
  refine WR.v (v := .slice A0_2 a.list.length c0_2) rfl rfl rfl ?_ ?_
  · refine QV.qo ?_; exact q_load_loc (i := 1) (g := ga) (j := 0) (v := .slice A0_2 a.list.length c0_2) rfl Try.isAgg22 (by kernel_rfl) rfl rfl
  refine WR.v (v := .int .i64 ((a.list.length : Nat) : Int)) rfl rfl rfl ?_ ?_
  · refine QV.qo ?_; exact q_len_slice (A := A0_2) (n := a.list.length) (c := c0_2) rfl Try.underlying22 (by kernel_rfl)
  refine WR.v (v := .bool (decide (((k6 : Nat) : Int) < ((a.list.length : Nat) : Int)))) rfl rfl rfl ?_ ?_
  · refine QV.qo ?_; exact q_lss (k := .i64) (a := ((k6 : Nat) : Int)) (b := ((a.list.length : Nat) : Int)) rfl (by kernel_rfl) (by kernel_rfl)
  refine WR.nil ?_
  change WC _ _ _ _ _ _
  refine WC.cond (b := (decide (((k6 : Nat) : Int) < ((a.list.length : Nat) : Int)))) (by kernel_rfl) ?_ ?_
  · skip
    intro hb_14t
    have hp_15 := of_decide_eq_true hb_14t
    refine WC.skip ?_
    change WC _ _ _ _ _ _
    refine WC.seq ?_
    refine WC.block ?_
    refine WC.seq ?_
    refine WC.region ?_
    refine WR.v (v := .pointer (some ⟨ga, 0, none⟩)) rfl rfl rfl ?_ ?_
    · refine QV.qo ?_; exact q_move rfl h6_0
    refine WR.v (v := .pointer (some ⟨ga, 0, none⟩)) rfl rfl rfl ?_ ?_
    · refine QV.qo ?_; exact q_nil (A := some ⟨ga, 0, none⟩) rfl (by kernel_rfl) rfl
    refine WR.v (v := .pointer (some ⟨ga, 2, none⟩)) rfl rfl rfl ?_ ?_
    · refine QV.qo ?_; exact q_field_loc (g := ga) (j := 0) 2 fld_76_2 rfl (by kernel_rfl) rfl
    refine WR.v (v := .slice A2_2 a.isin.length c2_2) rfl rfl rfl ?_ ?_
    · refine QV.qo ?_; exact q_load_loc (i := 1) (g := ga) (j := 2) (v := .slice A2_2 a.isin.length c2_2) rfl Try.isAgg73 (by kernel_rfl) rfl rfl
    refine WR.v (v := .int .i64 ((k6 : Nat) : Int)) rfl rfl rfl ?_ ?_
    · refine QV.qo ?_; exact q_move rfl h6_4
    refine WR.v (v := ptrAt A2_2 (k6 * 1)) rfl rfl rfl ?_ ?_
    · refine QV.qo ?_; exact q_index_addr (k := .i64) (A := A2_2) (n := a.isin.length) (c := c2_2) (i := k6) rfl Try.underlying73 Try.sizeOf4 (by kernel_rfl) (by kernel_rfl) (by omega) (Own.some_ (ho3_2.step hst_10) (k := k6) (by omega))
    refine WR.v (v := .bool (gt a.isin k6)) rfl rfl rfl ?_ ?_
    · refine QV.qo ?_; exact q_load_own (row := r2_2) (i := 2) (A := A2_2) (j := k6 * 1) (v := .bool (gt a.isin k6)) rfl Try.isAgg4 (by kernel_rfl) (Own.boolT_0 (ho3_2.step hst_10) (i := k6) (by omega)) rfl
    refine WR.v (v := .bool (!(gt a.isin k6))) rfl rfl rfl ?_ ?_
    · refine QV.qo ?_; exact q_not (g := (gt a.isin k6)) rfl (by kernel_rfl)
    refine WR.nil ?_
    change WC _ _ _ _ _ _
    refine WC.cond (b := (!(gt a.isin k6))) (by kernel_rfl) ?_ ?_
    · skip
      intro hb_16t
      have hp_17 := (not_t hb_16t)
      refine WC.region ?_
      refine WR.v (v := .slice A_out6 out.length c_out6) rfl rfl rfl ?_ ?_
      · refine QV.qo ?_; exact q_move rfl h6_3
      refine WR.v (v := .pointer (some ⟨ga, 0, none⟩)) rfl rfl rfl ?_ ?_
      · refine QV.qo ?_; exact q_move rfl h6_0
      refine WR.v (v := .pointer (some ⟨ga, 0, none⟩)) rfl rfl rfl ?_ ?_
      · refine QV.qo ?_; exact q_nil (A := some ⟨ga, 0, none⟩) rfl (by kernel_rfl) rfl
      refine WR.v (v := .pointer (some ⟨ga, 0, none⟩)) rfl rfl rfl ?_ ?_
      · refine QV.qo ?_; exact q_field_loc (g := ga) (j := 0) 0 fld_76_0 rfl (by kernel_rfl) rfl
      refine WR.v (v := .slice A0_2 a.list.length c0_2) rfl rfl rfl ?_ ?_
      · refine QV.qo ?_; exact q_load_loc (i := 1) (g := ga) (j := 0) (v := .slice A0_2 a.list.length c0_2) rfl Try.isAgg22 (by kernel_rfl) rfl rfl
      refine WR.v (v := .int .i64 ((k6 : Nat) : Int)) rfl rfl rfl ?_ ?_
      · refine QV.qo ?_; exact q_move rfl h6_4
      refine WR.v (v := ptrAt A0_2 (k6 * 1)) rfl rfl rfl ?_ ?_
      · refine QV.qo ?_; exact q_index_addr (k := .i64) (A := A0_2) (n := a.list.length) (c := c0_2) (i := k6) rfl Try.underlying22 Try.sizeOf3 (by kernel_rfl) (by kernel_rfl) (by omega) (Sl.some_ (ho0_2.step hst_10) (k := k6) (by omega))
      refine WR.v (v := .int .i64 (gt a.list k6)) rfl rfl rfl ?_ ?_
      · refine QV.qo ?_; exact q_load_cell (A := A0_2) (j := k6 * 1) (v := .int .i64 (gt a.list k6)) rfl Try.isAgg3 (by kernel_rfl) (Sl.intT_0 (ho0_2.step hst_10) (i := k6) (by omega))
      refine e_buildSlice (cs := #[.int .i64 (gt a.list k6)]) (e := 3) rfl rfl rfl rfl (fun w => by kernel_rfl) ?_
      intro g_18 hg_18 hg_18e
      change WR _ _ _ (CC _ _ _ _ [[(g_18, .cells #[.int .i64 (gt a.list k6)] 3 (0, 0))], row_out6, [(ga, .cells #[.slice A0_2 a.list.length c0_2, .int .i64 a.need, .slice A2_2 a.isin.length c2_2, .slice A3_2 a.vers.length c3_2, .slice A4_2 a.recs.length c4_2] 76 (0, 0))], r2_2, r3_2, r4_2]) _ _ _
      refine e_append (T := intT) (xs := out) (ys := [(gt a.list k6)]) (A := A_out6) (c := c_out6) (A2 := (some ⟨g_18, 0, none⟩)) (c2 := 1) (i := 1) (row := row_out6) elem_22 rfl rfl rfl rfl (by kernel_rfl) (by kernel_rfl) rfl ho_out6 (by simp only [lim_eq, List.length_append, List.length_cons, List.length_nil, List.length_take, List.length_drop] at *; omega) (fun w hw => src_one (T := intT) (y := (gt a.list k6)) (i := 0) (g := g_18) (cs := #[.int .i64 (gt a.list k6)]) (e := 3) rfl (by exact ⟨rfl, (Sl.intT_fits (ho0_2.step hst_10) (i := k6) (by omega))⟩) hw) ?_
      intro row_19 A_20 c_21 hown_22
      have hown_22l := hown_22.le_
      change WR _ _ _ (CC _ _ X_8 B_9 [[(g_18, .cells #[.int .i64 (gt a.list k6)] 3 (0, 0))], row_19, [(ga, .cells #[.slice A0_2 a.list.length c0_2, .int .i64 a.need, .slice A2_2 a.isin.length c2_2, .slice A3_2 a.vers.length c3_2, .slice A4_2 a.recs.length c4_2] 76 (0, 0))], r2_2, r3_2, r4_2]) _ _ _
      refine WR.v (v := .slice A_20 (out ++ [(gt a.list k6)]).length c_21) rfl rfl rfl ?_ ?_
      · refine QV.qo ?_; exact q_assign rfl (by kernel_rfl)
      refine WR.nil ?_
      change WC _ _ _ _ _ _
      refine WC.region ?_
      refine WR.v (v := .int .i64 ((k6 : Nat) : Int)) rfl rfl rfl ?_ ?_
      · refine QV.qo ?_; exact q_move rfl h6_4
      refine WR.v (v := .int .i64 ((k6 + 1 : Nat) : Int)) rfl rfl rfl ?_ ?_
      · refine QV.qo ?_; exact q_add (k := .i64) (a := ((k6 : Nat) : Int)) (b := 1) (r := ((k6 + 1 : Nat) : Int)) rfl (by kernel_rfl) (by kernel_rfl) (wr64 (by omega) (by omega))
      refine WR.v (v := .int .i64 ((k6 + 1 : Nat) : Int)) rfl rfl rfl ?_ ?_
      · refine QV.qo ?_; exact q_assign rfl (by kernel_rfl)
      refine WR.nil ?_
      intro w hw
      refine ⟨_, ?_, k6 + 1, (out ++ [(gt a.list k6)]), row_19, A_20, c_21, X_8, B_9, rfl, (by first | trivial | omega), ?_, (by first | omega | (simp only [List.length_append, List.length_cons, List.length_nil]; omega)), ⟨h6_0, by kernel_rfl, by kernel_rfl⟩, hst_10, hxx_11, hxl_12, hown_22, hw.tail⟩
      · omega
      · rw [sel_step, ← hrel6]; first | (simp only [hb_14t, hb_16t, Bool.not_true, Bool.not_false, Bool.and_false, Bool.false_and, Bool.and_true, Bool.true_and, Bool.or_true, Bool.true_or, Bool.or_false, Bool.false_or, cond_true, cond_false]; done) | (simp [hb_14t, hp_15, hb_16t, hp_17]; done)
    · skip
      intro hb_16f
      have hp_24 := (not_f hb_16f)
      refine WC.skip ?_
      change WC _ _ _ _ _ _
      refine WC.region ?_
      refine WR.v (v := .int .i64 ((k6 : Nat) : Int)) rfl rfl rfl ?_ ?_
      · refine QV.qo ?_; exact q_move rfl h6_4
      refine WR.v (v := .int .i64 ((k6 + 1 : Nat) : Int)) rfl rfl rfl ?_ ?_
      · refine QV.qo ?_; exact q_add (k := .i64) (a := ((k6 : Nat) : Int)) (b := 1) (r := ((k6 + 1 : Nat) : Int)) rfl (by kernel_rfl) (by kernel_rfl) (wr64 (by omega) (by omega))
      refine WR.v (v := .int .i64 ((k6 + 1 : Nat) : Int)) rfl rfl rfl ?_ ?_
      · refine QV.qo ?_; exact q_assign rfl (by kernel_rfl)
      refine WR.nil ?_
      intro w hw
      refine ⟨_, ?_, k6 + 1, out, row_out6, A_out6, c_out6, X_8, B_9, rfl, (by first | trivial | omega), ?_, (by first | omega | (simp only [List.length_append, List.length_cons, List.length_nil]; omega)), ⟨h6_0, h6_3, by kernel_rfl⟩, hst_10, hxx_11, hxl_12, ho_out6, hw⟩
      · omega
      · rw [sel_step, ← hrel6]; first | (simp only [hb_14t, hb_16f, Bool.not_true, Bool.not_false, Bool.and_false, Bool.false_and, Bool.and_true, Bool.true_and, Bool.or_true, Bool.true_or, Bool.or_false, Bool.false_or, cond_true, cond_false]; done) | (simp [hb_14t, hp_15, hb_16f, hp_24]; done)
  · skip
    intro hb_14f
    have hp_25 := of_decide_eq_false hb_14f
    refine WC.exit ?_
    change WC _ _ _ _ _ _
    refine WC.seq ?_
    refine WC.region ?_
    refine WR.v (v := .slice A_out6 out.length c_out6) rfl rfl rfl ?_ ?_
    · refine QV.qo ?_; exact q_move rfl h6_3
    refine WR.v (v := .slice A_out6 out.length c_out6) rfl rfl rfl ?_ ?_
    · refine QV.qo ?_; exact q_assign rfl (by kernel_rfl)
    refine WR.nil ?_
    change WC _ _ _ _ _ _
    refine WC.sub (C' := CC (ids [rowa]) w0 X_8 B_9 [rowa, row_out6]) (fun w hw => Cur.fold_ (row := rowa) (U := [[(ga, .cells #[.slice A0_2 a.list.length c0_2, .int .i64 a.need, .slice A2_2 a.isin.length c2_2, .slice A3_2 a.vers.length c3_2, .slice A4_2 a.recs.length c4_2] 76 (0, 0))], r2_2, r3_2, r4_2]) (R := [row_out6]) (hw.permL (((List.perm_middle (l₁ := ([r2_2, r3_2, r4_2, row_out6] : List Rowb)) (a := ([(ga, .cells #[.slice A0_2 a.list.length c0_2, .int .i64 a.need, .slice A2_2 a.isin.length c2_2, .slice A3_2 a.vers.length c3_2, .slice A4_2 a.recs.length c4_2] 76 (0, 0))] : Rowb)) (l₂ := ([] : List Rowb))).symm).trans (((List.perm_middle (l₁ := ([r3_2, r4_2, row_out6, [(ga, .cells #[.slice A0_2 a.list.length c0_2, .int .i64 a.need, .slice A2_2 a.isin.length c2_2, .slice A3_2 a.vers.length c3_2, .slice A4_2 a.recs.length c4_2] 76 (0, 0))]] : List Rowb)) (a := (r2_2 : Rowb)) (l₂ := ([] : List Rowb))).symm).trans (((List.perm_middle (l₁ := ([r4_2, row_out6, [(ga, .cells #[.slice A0_2 a.list.length c0_2, .int .i64 a.need, .slice A2_2 a.isin.length c2_2, .slice A3_2 a.vers.length c3_2, .slice A4_2 a.recs.length c4_2] 76 (0, 0))], r2_2] : List Rowb)) (a := (r3_2 : Rowb)) (l₂ := ([] : List Rowb))).symm).trans (List.perm_middle (l₁ := ([row_out6, [(ga, .cells #[.slice A0_2 a.list.length c0_2, .int .i64 a.need, .slice A2_2 a.isin.length c2_2, .slice A3_2 a.vers.length c3_2, .slice A4_2 a.recs.length c4_2] 76 (0, 0))], r2_2, r3_2] : List Rowb)) (a := (r4_2 : Rowb)) (l₂ := ([] : List Rowb))).symm)))) hrow_2) ?_
    refine WC.ret ?_
    intro w hw
    have hm_26 : out = a.waits := by
      unfold Ask16.waits; rw [hrel6]; congr 1; omega
    refine ⟨_, rfl, ?_, Cur.frno (hw.perm (.cons_cons _ (.cons _ .slnil))) hpre.loc⟩
    unfold r16_Waits_ok_res
    rw [← hm_26]
    exact ⟨A_out6, c_out6, (by kernel_rfl), Own.sl ho_out6 (hw.st0.trans (St.less hxx_11)) (hw.loc row_out6 (by simp)) (Cur.fresh2 (L1 := [row_out6]) (U := [rowa]) (hw.permL (List.perm_middle (l₁ := ([rowa] : List Rowb)) (a := (row_out6 : Rowb)) (l₂ := ([] : List Rowb))).symm) (r := row_out6) (by simp) hX), Own.capz ho_out6⟩

set_option maxRecDepth 100000 in
set_option maxHeartbeats 1000000 in
theorem r16_Done_ok (w0 : World) (X : Nat → Prop) (ga : Nat) (rowa : Rowb) (a : Ask16) (hoba : Ask16.ob 76 X w0 ga rowa a) (hpre : Pre [rowa] X w0) (hX : ∀ k, X k → k < w0.heap.size) : Calls Try.prog 14 #[.pointer (some ⟨ga, 0, none⟩)] w0 fun e w' => e = .returned (.bool (decide (a.need ≤ (a.list.length : Int) - (a.waits.length : Int)))) ∧ Fr no w0 w' := by
  refine calls_of (N := 17) (rs := [2]) (args := [.pointer (some ⟨ga, 0, none⟩)]) Try.func14 rfl Try.ntmps14 Try.results14 rfl ?_
  refine WC.here (C := CC (ids [rowa]) w0 X w0 [rowa]) ?_ hpre.start
  refine WC.seq ?_
  refine WC.region ?_
  refine WR.v (v := .bool false) rfl rfl rfl ?_ ?_
  · refine QV.qo ?_; exact q_assign rfl (by kernel_rfl)
  refine WR.nil ?_
  change WC _ _ _ _ _ _
  refine WC.seq ?_
  have hob_2 := hoba
  obtain ⟨A0_2, c0_2, A2_2, c2_2, r2_2, A3_2, c3_2, r3_2, A4_2, c4_2, r4_2, hrow_2, ho0_2, ho1_2, ho2_2, ho3_2, ho4_2, ho5_2, ho6_2, ho7_2, _⟩ := hob_2
  have ho0_2l := ho0_2.le_
  have ho3_2l := ho3_2.le_
  have ho4_2l := ho4_2.le_
  have ho5_2l := ho5_2.le_
  refine WC.sub (C' := CC (ids [rowa]) w0 X w0 [[(ga, .cells #[.slice A0_2 a.list.length c0_2, .int .i64 a.need, .slice A2_2 a.isin.length c2_2, .slice A3_2 a.vers.length c3_2, .slice A4_2 a.recs.length c4_2] 76 (0, 0))], r2_2, r3_2, r4_2]) (fun w hw => Cur.open_ (U := [[(ga, .cells #[.slice A0_2 a.list.length c0_2, .int .i64 a.need, .slice A2_2 a.isin.length c2_2, .slice A3_2 a.vers.length c3_2, .slice A4_2 a.recs.length c4_2] 76 (0, 0))], r2_2, r3_2, r4_2]) (R := []) hw hrow_2) ?_
  intro w hw; have hsep_6 := hw.sepB
  refine WC.here (C := CC (ids [rowa]) w0 X w0 [[(ga, .cells #[.slice A0_2 a.list.length c0_2, .int .i64 a.need, .slice A2_2 a.isin.length c2_2, .slice A3_2 a.vers.length c3_2, .slice A4_2 a.recs.length c4_2] 76 (0, 0))], r2_2, r3_2, r4_2]) ?_ hw; clear hw
  have hsep_7 : ∀ r ∈ ([[(ga, .cells #[.slice A0_2 a.list.length c0_2, .int .i64 a.need, .slice A2_2 a.isin.length c2_2, .slice A3_2 a.vers.length c3_2, .slice A4_2 a.recs.length c4_2] 76 (0, 0))]] : List Rowb), ∀ p ∈ r, X p.1 ∨ w0.heap.size ≤ p.1 := fun r hr => hsep_6 r (List.Sublist.subset (.cons_cons _ (.cons _ (.cons _ (.cons _ .slnil)))) hr)
  refine WC.held (CC (ids [rowa]) w0 X w0 [[(ga, .cells #[.slice A0_2 a.list.length c0_2, .int .i64 a.need, .slice A2_2 a.isin.length c2_2, .slice A3_2 a.vers.length c3_2, .slice A4_2 a.recs.length c4_2] 76 (0, 0))]]) (by kernel_rfl) (fun w hw => hw.drawn _) ?_
  change WH _ _ _ _ (CC _ _ _ _ [[(ga, .cells #[.slice A0_2 a.list.length c0_2, .int .i64 a.need, .slice A2_2 a.isin.length c2_2, .slice A3_2 a.vers.length c3_2, .slice A4_2 a.recs.length c4_2] 76 (0, 0))], r2_2, r3_2, r4_2]) _ 15 #[false, false, false, false, false, false, false, false, false, false, false, false, false, false, false] _
  refine WH.take (i := 0) (v := .pointer (some ⟨ga, 0, none⟩)) rfl (by kernel_rfl) (by kernel_rfl) (by kernel_rfl) rfl rfl rfl (fun w hw => Cur.back hw (St.refl _ _) (.cons_cons _ (.cons _ (.cons _ (.cons _ .slnil)))) hsep_7) ?_ ?_
  · exact q_move rfl (by kernel_rfl)
  refine WH.take (i := 1) (v := .pointer (some ⟨ga, 0, none⟩)) rfl (by kernel_rfl) (by kernel_rfl) (by kernel_rfl) rfl rfl rfl (fun w hw => Cur.back hw (St.refl _ _) (.cons_cons _ (.cons _ (.cons _ (.cons _ .slnil)))) hsep_7) ?_ ?_
  · exact q_nil (A := some ⟨ga, 0, none⟩) rfl (by kernel_rfl) rfl
  refine WH.take (i := 2) (v := .pointer (some ⟨ga, 0, none⟩)) rfl (by kernel_rfl) (by kernel_rfl) (by kernel_rfl) rfl rfl rfl (fun w hw => Cur.back hw (St.refl _ _) (.cons_cons _ (.cons _ (.cons _ (.cons _ .slnil)))) hsep_7) ?_ ?_
  · exact q_field_loc (g := ga) (j := 0) 0 fld_76_0 rfl (by kernel_rfl) rfl
  refine WH.take (i := 3) (v := .slice A0_2 a.list.length c0_2) rfl (by kernel_rfl) (by kernel_rfl) (by kernel_rfl) rfl rfl rfl (fun w hw => Cur.back hw (St.refl _ _) (.cons_cons _ (.cons _ (.cons _ (.cons _ .slnil)))) hsep_7) ?_ ?_
  · exact q_load_loc (i := 0) (g := ga) (j := 0) (v := .slice A0_2 a.list.length c0_2) rfl Try.isAgg22 (by kernel_rfl) rfl rfl
  refine WH.take (i := 4) (v := .int .i64 ((a.list.length : Nat) : Int)) rfl (by kernel_rfl) (by kernel_rfl) (by kernel_rfl) rfl rfl rfl (fun w hw => Cur.back hw (St.refl _ _) (.cons_cons _ (.cons _ (.cons _ (.cons _ .slnil)))) hsep_7) ?_ ?_
  · exact q_len_slice (A := A0_2) (n := a.list.length) (c := c0_2) rfl Try.underlying22 (by kernel_rfl)
  refine WH.take (i := 5) (v := .pointer (some ⟨ga, 0, none⟩)) rfl (by kernel_rfl) (by kernel_rfl) (by kernel_rfl) rfl rfl rfl (fun w hw => Cur.back hw (St.refl _ _) (.cons_cons _ (.cons _ (.cons _ (.cons _ .slnil)))) hsep_7) ?_ ?_
  · exact q_move rfl (by kernel_rfl)
  refine WH.take (i := 9) (v := .pointer (some ⟨ga, 0, none⟩)) rfl (by kernel_rfl) (by kernel_rfl) (by kernel_rfl) rfl rfl rfl (fun w hw => Cur.back hw (St.refl _ _) (.cons_cons _ (.cons _ (.cons _ (.cons _ .slnil)))) hsep_7) ?_ ?_
  · exact q_move rfl (by kernel_rfl)
  refine WH.take (i := 10) (v := .pointer (some ⟨ga, 0, none⟩)) rfl (by kernel_rfl) (by kernel_rfl) (by kernel_rfl) rfl rfl rfl (fun w hw => Cur.back hw (St.refl _ _) (.cons_cons _ (.cons _ (.cons _ (.cons _ .slnil)))) hsep_7) ?_ ?_
  · exact q_nil (A := some ⟨ga, 0, none⟩) rfl (by kernel_rfl) rfl
  refine WH.take (i := 11) (v := .pointer (some ⟨ga, 1, none⟩)) rfl (by kernel_rfl) (by kernel_rfl) (by kernel_rfl) rfl rfl rfl (fun w hw => Cur.back hw (St.refl _ _) (.cons_cons _ (.cons _ (.cons _ (.cons _ .slnil)))) hsep_7) ?_ ?_
  · exact q_field_loc (g := ga) (j := 0) 1 fld_76_1 rfl (by kernel_rfl) rfl
  refine WH.take (i := 12) (v := .int .i64 a.need) rfl (by kernel_rfl) (by kernel_rfl) (by kernel_rfl) rfl rfl rfl (fun w hw => Cur.back hw (St.refl _ _) (.cons_cons _ (.cons _ (.cons _ (.cons _ .slnil)))) hsep_7) ?_ ?_
  · exact q_load_loc (i := 0) (g := ga) (j := 1) (v := .int .i64 a.need) rfl Try.isAgg3 (by kernel_rfl) rfl rfl
  refine WH.lone (i := 6) (by kernel_rfl) rfl ?_
  refine e_call_look (args := #[.pointer (some ⟨ga, 0, none⟩)]) (Res := r16_Waits_ok_res (a)) rfl rfl rfl Try.call17 rfl (by kernel_rfl) hX (fun w X' hs_ hl_ hp_ => r16_Waits_ok w X' ga rowa (a) ((hoba).step hs_) (Pre.glues (Us := [[[(ga, .cells #[.slice A0_2 a.list.length c0_2, .int .i64 a.need, .slice A2_2 a.isin.length c2_2, .slice A3_2 a.vers.length c3_2, .slice A4_2 a.recs.length c4_2] 76 (0, 0))], r2_2, r3_2, r4_2]]) (rows := [rowa]) (hp_.sub (.cons_cons _ (.cons_cons _ (.cons_cons _ (.cons_cons _ .slnil))))) (by simp [hrow_2])) hl_) ?_
  intro X_8 B_9 v hst_10 hxx_11 hxl_12 hres
  obtain ⟨A_13, c_14, rfl, hs_15, hc_16⟩ := hres
  try have hs_15l := hs_15.le_
  change WR _ _ _ (CC _ _ X_8 B_9 [[(ga, .cells #[.slice A0_2 a.list.length c0_2, .int .i64 a.need, .slice A2_2 a.isin.length c2_2, .slice A3_2 a.vers.length c3_2, .slice A4_2 a.recs.length c4_2] 76 (0, 0))], r2_2, r3_2, r4_2]) _ _ _
  refine WR.nil ?_
  refine WH.next (fun w hw => Cur.back hw hst_10 (.cons_cons _ (.cons _ (.cons _ (.cons _ .slnil)))) hsep_7) ?_
  refine WH.take (i := 7) (v := .int .i64 ((((a).waits).length : Nat) : Int)) rfl (by kernel_rfl) (by kernel_rfl) (by kernel_rfl) rfl rfl rfl (fun w hw => Cur.back hw hst_10 (.cons_cons _ (.cons _ (.cons _ (.cons _ .slnil)))) hsep_7) ?_ ?_
  · exact q_len_slice (A := A_13) (n := ((a).waits).length) (c := c_14) rfl Try.underlying22 (by kernel_rfl)
  refine WH.take (i := 8) (v := .int .i64 (((a.list.length : Nat) : Int) - ((((a).waits).length : Nat) : Int))) rfl (by kernel_rfl) (by kernel_rfl) (by kernel_rfl) rfl rfl rfl (fun w hw => Cur.back hw hst_10 (.cons_cons _ (.cons _ (.cons _ (.cons _ .slnil)))) hsep_7) ?_ ?_
  · exact q_sub (k := .i64) (a := ((a.list.length : Nat) : Int)) (b := ((((a).waits).length : Nat) : Int)) (r := (((a.list.length : Nat) : Int) - ((((a).waits).length : Nat) : Int))) rfl (by kernel_rfl) (by kernel_rfl) (wr64 (by omega) (by omega))
  refine WH.take (i := 13) (v := .bool (decide (a.need ≤ (((a.list.length : Nat) : Int) - ((((a).waits).length : Nat) : Int))))) rfl (by kernel_rfl) (by kernel_rfl) (by kernel_rfl) rfl rfl rfl (fun w hw => Cur.back hw hst_10 (.cons_cons _ (.cons _ (.cons _ (.cons _ .slnil)))) hsep_7) ?_ ?_
  · exact q_geq (k := .i64) (a := (((a.list.length : Nat) : Int) - ((((a).waits).length : Nat) : Int))) (b := a.need) rfl (by kernel_rfl) (by kernel_rfl)
  refine WH.take (i := 14) (v := .bool (decide (a.need ≤ (((a.list.length : Nat) : Int) - ((((a).waits).length : Nat) : Int))))) rfl (by kernel_rfl) (by kernel_rfl) (by kernel_rfl) rfl rfl rfl (fun w hw => Cur.back hw hst_10 (.cons_cons _ (.cons _ (.cons _ (.cons _ .slnil)))) hsep_7) ?_ ?_
  · exact q_assign rfl (by kernel_rfl)
  refine WH.done (by kernel_rfl) ?_
  change WC _ _ _ _ _ _
  refine WC.sub (C' := CC (ids [rowa]) w0 X_8 B_9 [rowa]) (fun w hw => Cur.fold_ (row := rowa) (U := [[(ga, .cells #[.slice A0_2 a.list.length c0_2, .int .i64 a.need, .slice A2_2 a.isin.length c2_2, .slice A3_2 a.vers.length c3_2, .slice A4_2 a.recs.length c4_2] 76 (0, 0))], r2_2, r3_2, r4_2]) (R := []) (hw.permL (((List.perm_middle (l₁ := ([r2_2, r3_2, r4_2] : List Rowb)) (a := ([(ga, .cells #[.slice A0_2 a.list.length c0_2, .int .i64 a.need, .slice A2_2 a.isin.length c2_2, .slice A3_2 a.vers.length c3_2, .slice A4_2 a.recs.length c4_2] 76 (0, 0))] : Rowb)) (l₂ := ([] : List Rowb))).symm).trans (((List.perm_middle (l₁ := ([r3_2, r4_2, [(ga, .cells #[.slice A0_2 a.list.length c0_2, .int .i64 a.need, .slice A2_2 a.isin.length c2_2, .slice A3_2 a.vers.length c3_2, .slice A4_2 a.recs.length c4_2] 76 (0, 0))]] : List Rowb)) (a := (r2_2 : Rowb)) (l₂ := ([] : List Rowb))).symm).trans (((List.perm_middle (l₁ := ([r4_2, [(ga, .cells #[.slice A0_2 a.list.length c0_2, .int .i64 a.need, .slice A2_2 a.isin.length c2_2, .slice A3_2 a.vers.length c3_2, .slice A4_2 a.recs.length c4_2] 76 (0, 0))], r2_2] : List Rowb)) (a := (r3_2 : Rowb)) (l₂ := ([] : List Rowb))).symm).trans (List.perm_middle (l₁ := ([[(ga, .cells #[.slice A0_2 a.list.length c0_2, .int .i64 a.need, .slice A2_2 a.isin.length c2_2, .slice A3_2 a.vers.length c3_2, .slice A4_2 a.recs.length c4_2] 76 (0, 0))], r2_2, r3_2] : List Rowb)) (a := (r4_2 : Rowb)) (l₂ := ([] : List Rowb))).symm)))) hrow_2) ?_
  refine WC.ret ?_
  intro w hw
  refine ⟨congrArg Ending.returned (congrArg (Value.bool) ?_), Cur.frno hw hpre.loc⟩
  show (decide (a.need ≤ (((a.list.length : Nat) : Int) - ((((a).waits).length : Nat) : Int)))) = decide (a.need ≤ (a.list.length : Int) - (a.waits.length : Int))
  rfl

set_option maxRecDepth 100000 in
set_option maxHeartbeats 1000000 in
theorem awake16_ok (w0 : World) (X : Nat → Prop)  (hX : ∀ k, X k → k < w0.heap.size) : Calls Try.prog 8 #[] w0 fun e w' => e = .returned (.bool (true)) ∧ Fr no w0 w' := by
  refine calls_of (N := 98) (rs := [0]) (args := []) Try.func8 rfl Try.ntmps8 Try.results8 rfl ?_
  refine WC.here (C := CC no w0 X w0 []) ?_ (Cur.start w0 X)
  refine WC.seq ?_
  refine WC.region ?_
  refine WR.v (v := .bool false) rfl rfl rfl ?_ ?_
  · refine QV.qo ?_; exact q_assign rfl (by kernel_rfl)
  refine WR.nil ?_
  change WC _ _ _ _ _ _
  refine WC.seq ?_
  refine WC.region ?_
  refine e_buildSlice (cs := #[.int .i64 3, .int .i64 1, .int .i64 2]) (e := 3) rfl rfl rfl rfl (fun w => by kernel_rfl) ?_
  intro g_1 hg_1 hg_1e
  change WR _ _ _ (CC _ _ _ _ [[(g_1, .cells #[.int .i64 3, .int .i64 1, .int .i64 2] 3 (0, 0))]]) _ _ _
  have hown_2 : Own intT X w0 3 [(g_1, .cells #[.int .i64 3, .int .i64 1, .int .i64 2] 3 (0, 0))] (some ⟨g_1, 0, none⟩) 3 [3, 1, 2] := Own.of_block (T := intT) (X := X) (B := w0) (ys := [3, 1, 2]) [[.int .i64 3], [.int .i64 1], [.int .i64 2]] rfl rfl (by simp only [List.length_cons, List.length_nil, lim_eq]; omega) (fun i h => match i, h with | 0, _ => (show Ty.rd intT X w0 [.int .i64 3] 3 from ⟨rfl, (show I64 (3) by decide)⟩) | 1, _ => (show Ty.rd intT X w0 [.int .i64 1] 1 from ⟨rfl, (show I64 (1) by decide)⟩) | 2, _ => (show Ty.rd intT X w0 [.int .i64 2] 2 from ⟨rfl, (show I64 (2) by decide)⟩))
  have hc_10 := Own.capz hown_2
  refine WR.toData (T := intT) (i := 0) (row := [(g_1, .cells #[.int .i64 3, .int .i64 1, .int .i64 2] 3 (0, 0))]) (A := (some ⟨g_1, 0, none⟩)) (c := 3) (xs := [3, 1, 2]) rfl hown_2 (X0 := X) (fun _ h => h) hX hX ?_
  intro X_4 B_5 hst_6 hxx_7 hxl_8 hs_9
  change WR _ _ _ (CC _ _ X_4 B_5 [[]]) _ _ _
  refine WR.sub (C' := CC no w0 X_4 B_5 ([] ++ [[]])) (fun w hw => hw) ?_
  refine e_call_eff (U := []) (R := [[]]) (args := #[.slice (some ⟨g_1, 0, none⟩) [3, 1, 2].length 3, .int .i64 2]) (f := 7) (Res := NewWrite_ok_res ([3, 1, 2]) (2)) rfl rfl (fun w => call_run (ty := 0) Try.call7 rfl rfl (by kernel_rfl) w) hxl_8 (X0 := X) hxx_7 (fun w X' hs_ hl_ hp_ => NewWrite_ok w X' (some ⟨g_1, 0, none⟩) 3 ([3, 1, 2]) (Sl.step hs_9 hs_) hc_10 (2) (show I64 (2) by decide) hp_ hl_) ?_
  intro X_11 B_12 U' v hst_13 hxx_14 hxl_15 hres
  obtain ⟨hr_16, hr_17⟩ := hres
  have hgr_19 : ((qOk ([3, 1, 2]) (2)) : Bool) = true := by kernel_rfl
  have hb_18t : (qOk ([3, 1, 2]) (2) : Bool) = true := hgr_19
  obtain ⟨g_20, row_21, rfl, rfl, hob_22, _⟩ := (hr_16 hb_18t)
  change WR _ _ _ (CC _ _ X_11 B_12 [row_21, []]) _ _ _
  refine WR.v (v := .tuple #[.pointer (some ⟨g_20, 0, none⟩), .int .i64 (0)]) rfl rfl rfl ?_ ?_
  · refine QV.qo ?_; exact q_move rfl (by kernel_rfl)
  refine WR.v (v := .pointer (some ⟨g_20, 0, none⟩)) rfl rfl rfl ?_ ?_
  · refine QV.qo ?_; exact q_extract (vs := #[.pointer (some ⟨g_20, 0, none⟩), .int .i64 (0)]) rfl (by kernel_rfl) rfl
  refine WR.v (v := .int .i64 (0)) rfl rfl rfl ?_ ?_
  · refine QV.qo ?_; exact q_extract (vs := #[.pointer (some ⟨g_20, 0, none⟩), .int .i64 (0)]) rfl (by kernel_rfl) rfl
  refine WR.v (v := .pointer (some ⟨g_20, 0, none⟩)) rfl rfl rfl ?_ ?_
  · refine QV.qo ?_; exact q_assign rfl (by kernel_rfl)
  refine WR.v (v := .int .i64 (0)) rfl rfl rfl ?_ ?_
  · refine QV.qo ?_; exact q_assign rfl (by kernel_rfl)
  refine WR.nil ?_
  change WC _ _ _ _ _ _
  refine WC.seq ?_
  refine WC.seq ?_
  refine WC.region ?_
  refine WR.v (v := .pointer (some ⟨g_20, 0, none⟩)) rfl rfl rfl ?_ ?_
  · refine QV.qo ?_; exact q_move rfl (by kernel_rfl)
  refine WR.v (v := .bool false) rfl rfl rfl ?_ ?_
  · refine QV.qo ?_; exact q_ptr_eql (a := (some ⟨g_20, 0, none⟩)) Try.underlying23 rfl (by kernel_rfl) (by kernel_rfl)
  refine WR.v (v := .bool false) rfl rfl rfl ?_ ?_
  · refine QV.qo ?_; exact q_move rfl (by kernel_rfl)
  refine WR.g0 (v := .int .i64 (0)) (c0 := true) (g := false) rfl rfl (by kernel_rfl) rfl rfl (fun hc_24 => ?_) ?_
  · refine QV.qo ?_; exact q_move rfl (by kernel_rfl)
  refine WR.g0 (v := .bool false) (c0 := true) (g := false) rfl rfl (by kernel_rfl) rfl rfl (fun hc_25 => ?_) ?_
  · refine QV.qo ?_; exact q_neq (k := .i64) (a := (0)) (b := 0) rfl (gv_of hc_25) (by kernel_rfl)
  have hgr_26 : ((true && !false) : Bool) = true := by kernel_rfl
  refine WR.v (v := .bool false) rfl rfl rfl ?_ ?_
  · refine QV.qo ?_; exact q_pick_f (g := false) rfl (by kernel_rfl) rfl (gv_of (c := (true && !false)) (v := .bool false) hgr_26)
  refine WR.v (v := .bool false) rfl rfl rfl ?_ ?_
  · refine QV.qo ?_; exact q_move rfl (by kernel_rfl)
  refine WR.g0 (v := .pointer (some ⟨g_20, 0, none⟩)) (c0 := true) (g := false) rfl rfl (by kernel_rfl) rfl rfl (fun hc_27 => ?_) ?_
  · refine QV.qo ?_; exact q_move rfl (by kernel_rfl)
  refine WR.sat (c0 := true) (g := false) rfl rfl (by kernel_rfl) (by simp []) ?_
  refine WR.sub (C' := CC no w0 X_11 B_12 ([row_21] ++ [[]])) (fun w hw => hw) ?_
  refine e_call_eff (U := [row_21]) (R := [[]]) (args := #[.pointer (some ⟨g_20, 0, none⟩), .int .i64 1]) (f := 11) (Res := Write_Ack_ok_res g_20 row_21 (((⟨([3, 1, 2]), (2), []⟩ : AskB))) (1)) rfl rfl (fun w => call_run (ty := 0) Try.call11 rfl rfl (by exact args2 (gv_of (c := (true && !false)) (v := .pointer (some ⟨g_20, 0, none⟩)) hgr_26) (by kernel_rfl)) w) hxl_15 (X0 := X) hxx_14 (fun w X' hs_ hl_ hp_ => Write_Ack_ok w X' g_20 row_21 (((⟨([3, 1, 2]), (2), []⟩ : AskB))) ((hob_22).step hs_) (1) (show I64 (1) by decide) hp_ hl_) ?_
  intro X_28 B_29 U' v hst_30 hxx_31 hxl_32 hres
  obtain ⟨row_33, rfl, rfl, hob_34, _⟩ := hres
  change WR _ _ _ (CC _ _ X_28 B_29 [row_33, []]) _ _ _
  refine WR.g0 (v := .bool (!((AskB.count (((⟨([3, 1, 2]), (2), []⟩ : AskB))) (1) true).2))) (c0 := true) (g := false) rfl rfl (by kernel_rfl) rfl rfl (fun hc_36 => ?_) ?_
  · refine QV.qo ?_; exact q_not (g := ((AskB.count (((⟨([3, 1, 2]), (2), []⟩ : AskB))) (1) true).2)) rfl (by kernel_rfl)
  refine WR.v (v := .bool (!((AskB.count (((⟨([3, 1, 2]), (2), []⟩ : AskB))) (1) true).2))) rfl rfl rfl ?_ ?_
  · refine QV.qo ?_; exact q_pick_f (g := false) rfl (by kernel_rfl) rfl (gv_of (c := (true && !false)) (v := .bool (!((AskB.count (((⟨([3, 1, 2]), (2), []⟩ : AskB))) (1) true).2))) hgr_26)
  refine WR.v (v := .bool (!((AskB.count (((⟨([3, 1, 2]), (2), []⟩ : AskB))) (1) true).2))) rfl rfl rfl ?_ ?_
  · refine QV.qo ?_; exact q_move rfl (by kernel_rfl)
  have hgr_37 : (((AskB.count (((⟨([3, 1, 2]), (2), []⟩ : AskB))) (1) true).2) : Bool) = true := by kernel_rfl
  have htr_38 : ((!((AskB.count (((⟨([3, 1, 2]), (2), []⟩ : AskB))) (1) true).2)) : Bool) = false := (by simp only [hgr_37]; rfl)
  refine WR.g0 (v := .pointer (some ⟨g_20, 0, none⟩)) (c0 := true) (g := (!((AskB.count (((⟨([3, 1, 2]), (2), []⟩ : AskB))) (1) true).2))) rfl rfl (by kernel_rfl) rfl rfl (fun hc_39 => ?_) ?_
  · refine QV.qo ?_; exact q_move rfl (by kernel_rfl)
  refine WR.sat (c0 := true) (g := (!((AskB.count (((⟨([3, 1, 2]), (2), []⟩ : AskB))) (1) true).2))) rfl rfl (by kernel_rfl) (by simp [htr_38]) ?_
  have hgr_40 : ((true && !(!((AskB.count (((⟨([3, 1, 2]), (2), []⟩ : AskB))) (1) true).2))) : Bool) = true := by kernel_rfl
  refine WR.sub (C' := CC no w0 X_28 B_29 ([row_33] ++ [[]])) (fun w hw => hw) ?_
  refine e_call_eff (U := [row_33]) (R := [[]]) (args := #[.pointer (some ⟨g_20, 0, none⟩), .int .i64 1]) (f := 11) (Res := Write_Ack_ok_res g_20 row_33 (((AskB.count (((⟨([3, 1, 2]), (2), []⟩ : AskB))) (1) true).1)) (1)) rfl rfl (fun w => call_run (ty := 0) Try.call11 rfl rfl (by exact args2 (gv_of (c := (true && !(!((AskB.count (((⟨([3, 1, 2]), (2), []⟩ : AskB))) (1) true).2)))) (v := .pointer (some ⟨g_20, 0, none⟩)) hgr_40) (by kernel_rfl)) w) hxl_32 (X0 := X) hxx_31 (fun w X' hs_ hl_ hp_ => Write_Ack_ok w X' g_20 row_33 (((AskB.count (((⟨([3, 1, 2]), (2), []⟩ : AskB))) (1) true).1)) ((hob_34).step hs_) (1) (show I64 (1) by decide) hp_ hl_) ?_
  intro X_41 B_42 U' v hst_43 hxx_44 hxl_45 hres
  obtain ⟨row_46, rfl, rfl, hob_47, _⟩ := hres
  change WR _ _ _ (CC _ _ X_41 B_42 [row_46, []]) _ _ _
  refine WR.v (v := .bool ((AskB.count (((AskB.count (((⟨([3, 1, 2]), (2), []⟩ : AskB))) (1) true).1)) (1) true).2)) rfl rfl rfl ?_ ?_
  · refine QV.qo ?_; exact q_pick_f (g := (!((AskB.count (((⟨([3, 1, 2]), (2), []⟩ : AskB))) (1) true).2))) rfl (by kernel_rfl) htr_38 (by kernel_rfl)
  refine WR.v (v := .bool ((AskB.count (((AskB.count (((⟨([3, 1, 2]), (2), []⟩ : AskB))) (1) true).1)) (1) true).2)) rfl rfl rfl ?_ ?_
  · refine QV.qo ?_; exact q_move rfl (by kernel_rfl)
  have hgr_49 : (((AskB.count (((AskB.count (((⟨([3, 1, 2]), (2), []⟩ : AskB))) (1) true).1)) (1) true).2) : Bool) = false := by kernel_rfl
  refine WR.g0 (v := .pointer (some ⟨g_20, 0, none⟩)) (c0 := true) (g := ((AskB.count (((AskB.count (((⟨([3, 1, 2]), (2), []⟩ : AskB))) (1) true).1)) (1) true).2)) rfl rfl (by kernel_rfl) rfl rfl (fun hc_50 => ?_) ?_
  · refine QV.qo ?_; exact q_move rfl (by kernel_rfl)
  refine WR.sat (c0 := true) (g := ((AskB.count (((AskB.count (((⟨([3, 1, 2]), (2), []⟩ : AskB))) (1) true).1)) (1) true).2)) rfl rfl (by kernel_rfl) (by simp [hgr_49]) ?_
  have hgr_51 : ((true && !((AskB.count (((AskB.count (((⟨([3, 1, 2]), (2), []⟩ : AskB))) (1) true).1)) (1) true).2)) : Bool) = true := by kernel_rfl
  refine WR.sub (C' := CC no w0 X_41 B_42 ([row_46] ++ [[]])) (fun w hw => hw) ?_
  refine e_call_eff (U := [row_46]) (R := [[]]) (args := #[.pointer (some ⟨g_20, 0, none⟩), .int .i64 4]) (f := 11) (Res := Write_Ack_ok_res g_20 row_46 (((AskB.count (((AskB.count (((⟨([3, 1, 2]), (2), []⟩ : AskB))) (1) true).1)) (1) true).1)) (4)) rfl rfl (fun w => call_run (ty := 0) Try.call11 rfl rfl (by exact args2 (gv_of (c := (true && !((AskB.count (((AskB.count (((⟨([3, 1, 2]), (2), []⟩ : AskB))) (1) true).1)) (1) true).2))) (v := .pointer (some ⟨g_20, 0, none⟩)) hgr_51) (by kernel_rfl)) w) hxl_45 (X0 := X) hxx_44 (fun w X' hs_ hl_ hp_ => Write_Ack_ok w X' g_20 row_46 (((AskB.count (((AskB.count (((⟨([3, 1, 2]), (2), []⟩ : AskB))) (1) true).1)) (1) true).1)) ((hob_47).step hs_) (4) (show I64 (4) by decide) hp_ hl_) ?_
  intro X_52 B_53 U' v hst_54 hxx_55 hxl_56 hres
  obtain ⟨row_57, rfl, rfl, hob_58, _⟩ := hres
  change WR _ _ _ (CC _ _ X_52 B_53 [row_57, []]) _ _ _
  refine WR.v (v := .bool ((AskB.count (((AskB.count (((AskB.count (((⟨([3, 1, 2]), (2), []⟩ : AskB))) (1) true).1)) (1) true).1)) (4) true).2)) rfl rfl rfl ?_ ?_
  · refine QV.qo ?_; exact q_pick_f (g := ((AskB.count (((AskB.count (((⟨([3, 1, 2]), (2), []⟩ : AskB))) (1) true).1)) (1) true).2)) rfl (by kernel_rfl) hgr_49 (by kernel_rfl)
  refine WR.v (v := .bool ((AskB.count (((AskB.count (((AskB.count (((⟨([3, 1, 2]), (2), []⟩ : AskB))) (1) true).1)) (1) true).1)) (4) true).2)) rfl rfl rfl ?_ ?_
  · refine QV.qo ?_; exact q_move rfl (by kernel_rfl)
  have hgr_60 : (((AskB.count (((AskB.count (((AskB.count (((⟨([3, 1, 2]), (2), []⟩ : AskB))) (1) true).1)) (1) true).1)) (4) true).2) : Bool) = false := by kernel_rfl
  refine WR.g0 (v := .pointer (some ⟨g_20, 0, none⟩)) (c0 := true) (g := ((AskB.count (((AskB.count (((AskB.count (((⟨([3, 1, 2]), (2), []⟩ : AskB))) (1) true).1)) (1) true).1)) (4) true).2)) rfl rfl (by kernel_rfl) rfl rfl (fun hc_61 => ?_) ?_
  · refine QV.qo ?_; exact q_move rfl (by kernel_rfl)
  refine WR.g0 (v := .bool (decide ((((AskB.count (((AskB.count (((AskB.count (((⟨([3, 1, 2]), (2), []⟩ : AskB))) (1) true).1)) (1) true).1)) (4) true).1)).need ≤ ((((AskB.count (((AskB.count (((AskB.count (((⟨([3, 1, 2]), (2), []⟩ : AskB))) (1) true).1)) (1) true).1)) (4) true).1)).got.length : Int)))) (c0 := true) (g := ((AskB.count (((AskB.count (((AskB.count (((⟨([3, 1, 2]), (2), []⟩ : AskB))) (1) true).1)) (1) true).1)) (4) true).2)) rfl rfl (by kernel_rfl) rfl rfl (fun hc_62 => ?_) ?_
  · exact q_call (args := #[.pointer (some ⟨g_20, 0, none⟩)]) Try.call13 rfl (by exact args1 (gv_of hc_62)) (fun w hw => NewWrite_Done_ok w _ g_20 row_57 (((AskB.count (((AskB.count (((AskB.count (((⟨([3, 1, 2]), (2), []⟩ : AskB))) (1) true).1)) (1) true).1)) (4) true).1)) ((hob_58).step hw.st) (hw.preL.sub (.cons_cons _ (.cons _ .slnil))) (hw.mx_lt hxl_56))
  have hgr_63 : ((true && !((AskB.count (((AskB.count (((AskB.count (((⟨([3, 1, 2]), (2), []⟩ : AskB))) (1) true).1)) (1) true).1)) (4) true).2)) : Bool) = true := by kernel_rfl
  refine WR.v (v := .bool (decide ((((AskB.count (((AskB.count (((AskB.count (((⟨([3, 1, 2]), (2), []⟩ : AskB))) (1) true).1)) (1) true).1)) (4) true).1)).need ≤ ((((AskB.count (((AskB.count (((AskB.count (((⟨([3, 1, 2]), (2), []⟩ : AskB))) (1) true).1)) (1) true).1)) (4) true).1)).got.length : Int)))) rfl rfl rfl ?_ ?_
  · refine QV.qo ?_; exact q_pick_f (g := ((AskB.count (((AskB.count (((AskB.count (((⟨([3, 1, 2]), (2), []⟩ : AskB))) (1) true).1)) (1) true).1)) (4) true).2)) rfl (by kernel_rfl) hgr_60 (gv_of (c := (true && !((AskB.count (((AskB.count (((AskB.count (((⟨([3, 1, 2]), (2), []⟩ : AskB))) (1) true).1)) (1) true).1)) (4) true).2))) (v := .bool (decide ((((AskB.count (((AskB.count (((AskB.count (((⟨([3, 1, 2]), (2), []⟩ : AskB))) (1) true).1)) (1) true).1)) (4) true).1)).need ≤ ((((AskB.count (((AskB.count (((AskB.count (((⟨([3, 1, 2]), (2), []⟩ : AskB))) (1) true).1)) (1) true).1)) (4) true).1)).got.length : Int)))) hgr_63)
  refine WR.v (v := .bool (decide ((((AskB.count (((AskB.count (((AskB.count (((⟨([3, 1, 2]), (2), []⟩ : AskB))) (1) true).1)) (1) true).1)) (4) true).1)).need ≤ ((((AskB.count (((AskB.count (((AskB.count (((⟨([3, 1, 2]), (2), []⟩ : AskB))) (1) true).1)) (1) true).1)) (4) true).1)).got.length : Int)))) rfl rfl rfl ?_ ?_
  · refine QV.qo ?_; exact q_move rfl (by kernel_rfl)
  have hgr_64 : ((decide ((((AskB.count (((AskB.count (((AskB.count (((⟨([3, 1, 2]), (2), []⟩ : AskB))) (1) true).1)) (1) true).1)) (4) true).1)).need ≤ ((((AskB.count (((AskB.count (((AskB.count (((⟨([3, 1, 2]), (2), []⟩ : AskB))) (1) true).1)) (1) true).1)) (4) true).1)).got.length : Int))) : Bool) = false := by kernel_rfl
  refine WR.g0 (v := .pointer (some ⟨g_20, 0, none⟩)) (c0 := true) (g := (decide ((((AskB.count (((AskB.count (((AskB.count (((⟨([3, 1, 2]), (2), []⟩ : AskB))) (1) true).1)) (1) true).1)) (4) true).1)).need ≤ ((((AskB.count (((AskB.count (((AskB.count (((⟨([3, 1, 2]), (2), []⟩ : AskB))) (1) true).1)) (1) true).1)) (4) true).1)).got.length : Int)))) rfl rfl (by kernel_rfl) rfl rfl (fun hc_65 => ?_) ?_
  · refine QV.qo ?_; exact q_move rfl (by kernel_rfl)
  refine WR.sat (c0 := true) (g := (decide ((((AskB.count (((AskB.count (((AskB.count (((⟨([3, 1, 2]), (2), []⟩ : AskB))) (1) true).1)) (1) true).1)) (4) true).1)).need ≤ ((((AskB.count (((AskB.count (((AskB.count (((⟨([3, 1, 2]), (2), []⟩ : AskB))) (1) true).1)) (1) true).1)) (4) true).1)).got.length : Int)))) rfl rfl (by kernel_rfl) (by simp [hgr_64]) ?_
  have hgr_66 : ((true && !(decide ((((AskB.count (((AskB.count (((AskB.count (((⟨([3, 1, 2]), (2), []⟩ : AskB))) (1) true).1)) (1) true).1)) (4) true).1)).need ≤ ((((AskB.count (((AskB.count (((AskB.count (((⟨([3, 1, 2]), (2), []⟩ : AskB))) (1) true).1)) (1) true).1)) (4) true).1)).got.length : Int)))) : Bool) = true := by kernel_rfl
  refine WR.sub (C' := CC no w0 X_52 B_53 ([row_57] ++ [[]])) (fun w hw => hw) ?_
  refine e_call_eff (U := [row_57]) (R := [[]]) (args := #[.pointer (some ⟨g_20, 0, none⟩), .int .i64 3]) (f := 11) (Res := Write_Ack_ok_res g_20 row_57 (((AskB.count (((AskB.count (((AskB.count (((⟨([3, 1, 2]), (2), []⟩ : AskB))) (1) true).1)) (1) true).1)) (4) true).1)) (3)) rfl rfl (fun w => call_run (ty := 0) Try.call11 rfl rfl (by exact args2 (gv_of (c := (true && !(decide ((((AskB.count (((AskB.count (((AskB.count (((⟨([3, 1, 2]), (2), []⟩ : AskB))) (1) true).1)) (1) true).1)) (4) true).1)).need ≤ ((((AskB.count (((AskB.count (((AskB.count (((⟨([3, 1, 2]), (2), []⟩ : AskB))) (1) true).1)) (1) true).1)) (4) true).1)).got.length : Int))))) (v := .pointer (some ⟨g_20, 0, none⟩)) hgr_66) (by kernel_rfl)) w) hxl_56 (X0 := X) hxx_55 (fun w X' hs_ hl_ hp_ => Write_Ack_ok w X' g_20 row_57 (((AskB.count (((AskB.count (((AskB.count (((⟨([3, 1, 2]), (2), []⟩ : AskB))) (1) true).1)) (1) true).1)) (4) true).1)) ((hob_58).step hs_) (3) (show I64 (3) by decide) hp_ hl_) ?_
  intro X_67 B_68 U' v hst_69 hxx_70 hxl_71 hres
  obtain ⟨row_72, rfl, rfl, hob_73, _⟩ := hres
  have hf_75 := ((((hs_9.step hst_13).step hst_30).step hst_43).step hst_54).step hst_69
  change WR _ _ _ (CC _ _ X_67 B_68 [row_72, []]) _ _ _
  refine WR.g0 (v := .bool (!((AskB.count (((AskB.count (((AskB.count (((AskB.count (((⟨([3, 1, 2]), (2), []⟩ : AskB))) (1) true).1)) (1) true).1)) (4) true).1)) (3) true).2))) (c0 := true) (g := (decide ((((AskB.count (((AskB.count (((AskB.count (((⟨([3, 1, 2]), (2), []⟩ : AskB))) (1) true).1)) (1) true).1)) (4) true).1)).need ≤ ((((AskB.count (((AskB.count (((AskB.count (((⟨([3, 1, 2]), (2), []⟩ : AskB))) (1) true).1)) (1) true).1)) (4) true).1)).got.length : Int)))) rfl rfl (by kernel_rfl) rfl rfl (fun hc_76 => ?_) ?_
  · refine QV.qo ?_; exact q_not (g := ((AskB.count (((AskB.count (((AskB.count (((AskB.count (((⟨([3, 1, 2]), (2), []⟩ : AskB))) (1) true).1)) (1) true).1)) (4) true).1)) (3) true).2)) rfl (by kernel_rfl)
  refine WR.v (v := .bool (!((AskB.count (((AskB.count (((AskB.count (((AskB.count (((⟨([3, 1, 2]), (2), []⟩ : AskB))) (1) true).1)) (1) true).1)) (4) true).1)) (3) true).2))) rfl rfl rfl ?_ ?_
  · refine QV.qo ?_; exact q_pick_f (g := (decide ((((AskB.count (((AskB.count (((AskB.count (((⟨([3, 1, 2]), (2), []⟩ : AskB))) (1) true).1)) (1) true).1)) (4) true).1)).need ≤ ((((AskB.count (((AskB.count (((AskB.count (((⟨([3, 1, 2]), (2), []⟩ : AskB))) (1) true).1)) (1) true).1)) (4) true).1)).got.length : Int)))) rfl (by kernel_rfl) hgr_64 (gv_of (c := (true && !(decide ((((AskB.count (((AskB.count (((AskB.count (((⟨([3, 1, 2]), (2), []⟩ : AskB))) (1) true).1)) (1) true).1)) (4) true).1)).need ≤ ((((AskB.count (((AskB.count (((AskB.count (((⟨([3, 1, 2]), (2), []⟩ : AskB))) (1) true).1)) (1) true).1)) (4) true).1)).got.length : Int))))) (v := .bool (!((AskB.count (((AskB.count (((AskB.count (((AskB.count (((⟨([3, 1, 2]), (2), []⟩ : AskB))) (1) true).1)) (1) true).1)) (4) true).1)) (3) true).2))) hgr_66)
  refine WR.nil ?_
  change WC _ _ _ _ _ _
  have hgr_77 : (((AskB.count (((AskB.count (((AskB.count (((AskB.count (((⟨([3, 1, 2]), (2), []⟩ : AskB))) (1) true).1)) (1) true).1)) (4) true).1)) (3) true).2) : Bool) = true := by kernel_rfl
  have htr_78 : ((!((AskB.count (((AskB.count (((AskB.count (((AskB.count (((⟨([3, 1, 2]), (2), []⟩ : AskB))) (1) true).1)) (1) true).1)) (4) true).1)) (3) true).2)) : Bool) = false := (by simp only [hgr_77]; rfl)
  refine WC.cond (b := (!((AskB.count (((AskB.count (((AskB.count (((AskB.count (((⟨([3, 1, 2]), (2), []⟩ : AskB))) (1) true).1)) (1) true).1)) (4) true).1)) (3) true).2))) (by kernel_rfl) ?_ ?_
  · skip
    intro hb_79; exact absurd (hb_79.symm.trans htr_78) (by decide)
  · skip
    intro _
    refine WC.skip ?_
    change WC _ _ _ _ _ _
    refine WC.seq ?_
    refine WC.region ?_
    refine WR.v (v := .pointer (some ⟨g_20, 0, none⟩)) rfl rfl rfl ?_ ?_
    · refine QV.qo ?_; exact q_move rfl (by kernel_rfl)
    refine e_call_look (args := #[.pointer (some ⟨g_20, 0, none⟩)]) (Res := NewWrite_Waits_ok_res (((AskB.count (((AskB.count (((AskB.count (((AskB.count (((⟨([3, 1, 2]), (2), []⟩ : AskB))) (1) true).1)) (1) true).1)) (4) true).1)) (3) true).1))) rfl rfl rfl Try.call16 rfl (by kernel_rfl) hxl_71 (fun w X' hs_ hl_ hp_ => NewWrite_Waits_ok w X' g_20 row_72 (((AskB.count (((AskB.count (((AskB.count (((AskB.count (((⟨([3, 1, 2]), (2), []⟩ : AskB))) (1) true).1)) (1) true).1)) (4) true).1)) (3) true).1)) ((hob_73).step hs_) (hp_.sub (.cons_cons _ (.cons _ .slnil))) hl_) ?_
    intro X_80 B_81 v hst_82 hxx_83 hxl_84 hres
    obtain ⟨A_85, c_86, rfl, hs_87, hc_88⟩ := hres
    try have hs_87l := hs_87.le_
    change WR _ _ _ (CC _ _ X_80 B_81 [row_72, []]) _ _ _
    refine WR.v (v := .slice A_85 ((((AskB.count (((AskB.count (((AskB.count (((AskB.count (((⟨([3, 1, 2]), (2), []⟩ : AskB))) (1) true).1)) (1) true).1)) (4) true).1)) (3) true).1)).waits).length c_86) rfl rfl rfl ?_ ?_
    · refine QV.qo ?_; exact q_assign rfl (by kernel_rfl)
    refine WR.nil ?_
    change WC _ _ _ _ _ _
    refine WC.seq ?_
    refine WC.region ?_
    refine e_buildSlice (cs := #[.int .i64 1, .int .i64 2]) (e := 3) rfl rfl rfl rfl (fun w => by kernel_rfl) ?_
    intro g_89 hg_89 hg_89e
    change WR _ _ _ (CC _ _ _ _ [[(g_89, .cells #[.int .i64 1, .int .i64 2] 3 (0, 0))], row_72, []]) _ _ _
    have hown_90 : Own intT X_80 B_81 3 [(g_89, .cells #[.int .i64 1, .int .i64 2] 3 (0, 0))] (some ⟨g_89, 0, none⟩) 2 [1, 2] := Own.of_block (T := intT) (X := X_80) (B := B_81) (ys := [1, 2]) [[.int .i64 1], [.int .i64 2]] rfl rfl (by simp only [List.length_cons, List.length_nil, lim_eq]; omega) (fun i h => match i, h with | 0, _ => (show Ty.rd intT X_80 B_81 [.int .i64 1] 1 from ⟨rfl, (show I64 (1) by decide)⟩) | 1, _ => (show Ty.rd intT X_80 B_81 [.int .i64 2] 2 from ⟨rfl, (show I64 (2) by decide)⟩))
    have hc_98 := Own.capz hown_90
    refine WR.toData (T := intT) (i := 0) (row := [(g_89, .cells #[.int .i64 1, .int .i64 2] 3 (0, 0))]) (A := (some ⟨g_89, 0, none⟩)) (c := 2) (xs := [1, 2]) rfl hown_90 (X0 := X) (fun k h => hxx_83 k (hxx_70 k h)) hX hxl_84 ?_
    intro X_92 B_93 hst_94 hxx_95 hxl_96 hs_97
    change WR _ _ _ (CC _ _ X_92 B_93 [[], row_72, []]) _ _ _
    refine WR.sub (C' := CC no w0 X_92 B_93 ([] ++ [[], row_72, []])) (fun w hw => hw) ?_
    refine e_call_eff (U := []) (R := [[], row_72, []]) (args := #[.slice (some ⟨g_89, 0, none⟩) [1, 2].length 2, .int .i64 2]) (f := 18) (Res := NewRead_ok_res ([1, 2]) (2)) rfl rfl (fun w => call_run (ty := 0) Try.call18 rfl rfl (by kernel_rfl) w) hxl_96 (X0 := X) hxx_95 (fun w X' hs_ hl_ hp_ => NewRead_ok w X' (some ⟨g_89, 0, none⟩) 2 ([1, 2]) (Sl.step hs_97 hs_) hc_98 (2) (show I64 (2) by decide) hp_ hl_) ?_
    intro X_99 B_100 U' v hst_101 hxx_102 hxl_103 hres
    obtain ⟨hr_104, hr_105⟩ := hres
    have hgr_107 : ((qOk ([1, 2]) (2)) : Bool) = true := by kernel_rfl
    have hb_106t : (qOk ([1, 2]) (2) : Bool) = true := hgr_107
    obtain ⟨g_108, row_109, rfl, rfl, hob_110, _⟩ := (hr_104 hb_106t)
    change WR _ _ _ (CC _ _ X_99 B_100 [row_109, [], row_72, []]) _ _ _
    refine WR.v (v := .tuple #[.pointer (some ⟨g_108, 0, none⟩), .int .i64 (0)]) rfl rfl rfl ?_ ?_
    · refine QV.qo ?_; exact q_move rfl (by kernel_rfl)
    refine WR.v (v := .pointer (some ⟨g_108, 0, none⟩)) rfl rfl rfl ?_ ?_
    · refine QV.qo ?_; exact q_extract (vs := #[.pointer (some ⟨g_108, 0, none⟩), .int .i64 (0)]) rfl (by kernel_rfl) rfl
    refine WR.v (v := .int .i64 (0)) rfl rfl rfl ?_ ?_
    · refine QV.qo ?_; exact q_extract (vs := #[.pointer (some ⟨g_108, 0, none⟩), .int .i64 (0)]) rfl (by kernel_rfl) rfl
    refine WR.v (v := .pointer (some ⟨g_108, 0, none⟩)) rfl rfl rfl ?_ ?_
    · refine QV.qo ?_; exact q_assign rfl (by kernel_rfl)
    refine WR.v (v := .int .i64 (0)) rfl rfl rfl ?_ ?_
    · refine QV.qo ?_; exact q_assign rfl (by kernel_rfl)
    refine WR.nil ?_
    change WC _ _ _ _ _ _
    refine WC.seq ?_
    refine WC.seq ?_
    refine WC.region ?_
    refine WR.v (v := .pointer (some ⟨g_108, 0, none⟩)) rfl rfl rfl ?_ ?_
    · refine QV.qo ?_; exact q_move rfl (by kernel_rfl)
    refine WR.v (v := .bool false) rfl rfl rfl ?_ ?_
    · refine QV.qo ?_; exact q_ptr_eql (a := (some ⟨g_108, 0, none⟩)) Try.underlying36 rfl (by kernel_rfl) (by kernel_rfl)
    refine WR.v (v := .bool false) rfl rfl rfl ?_ ?_
    · refine QV.qo ?_; exact q_move rfl (by kernel_rfl)
    refine WR.g0 (v := .int .i64 (0)) (c0 := true) (g := false) rfl rfl (by kernel_rfl) rfl rfl (fun hc_112 => ?_) ?_
    · refine QV.qo ?_; exact q_move rfl (by kernel_rfl)
    refine WR.g0 (v := .bool false) (c0 := true) (g := false) rfl rfl (by kernel_rfl) rfl rfl (fun hc_113 => ?_) ?_
    · refine QV.qo ?_; exact q_neq (k := .i64) (a := (0)) (b := 0) rfl (gv_of hc_113) (by kernel_rfl)
    refine WR.v (v := .bool false) rfl rfl rfl ?_ ?_
    · refine QV.qo ?_; exact q_pick_f (g := false) rfl (by kernel_rfl) rfl (gv_of (c := (true && !false)) (v := .bool false) hgr_26)
    refine WR.nil ?_
    change WC _ _ _ _ _ _
    refine WC.cond (b := false) (by kernel_rfl) ?_ ?_
    · skip
      intro hb_114; exact absurd (hb_114.symm.trans rfl) (by decide)
    · skip
      intro _
      refine WC.skip ?_
      change WC _ _ _ _ _ _
      refine WC.seq ?_
      refine WC.region ?_
      refine WR.v (v := .agg #[.int .i64 1, .int .i64 1]) rfl rfl rfl ?_ ?_
      · refine QV.qo ?_; exact q_build' (ps := #[(0, .int .i64 1), (1, .int .i64 1)]) rfl (bargs2 (by kernel_rfl) (by kernel_rfl)) (fun w => by kernel_rfl)
      refine WR.v (v := .agg #[.int .i64 1, .int .i64 1, .slice none 0 0, .bool false, .string ⟨#[]⟩]) rfl rfl rfl ?_ ?_
      · refine QV.qo ?_; exact q_build' (ps := #[(0, .agg #[.int .i64 1, .int .i64 1])]) rfl (bargs1 (by kernel_rfl)) (fun w => by kernel_rfl)
      refine e_buildSlice (cs := #[.int .i64 1, .int .i64 1, .slice none 0 0, .bool false, .string ⟨#[]⟩]) (e := 58) rfl rfl rfl rfl (fun w => by kernel_rfl) ?_
      intro g_115 hg_115 hg_115e
      change WR _ _ _ (CC _ _ _ _ [[(g_115, .cells #[.int .i64 1, .int .i64 1, .slice none 0 0, .bool false, .string ⟨#[]⟩] 58 (0, 0))], row_109, [], row_72, []]) _ _ _
      refine WR.v (v := .slice (some ⟨g_115, 0, none⟩) 1 1) rfl rfl rfl ?_ ?_
      · refine QV.qo ?_; exact q_assign rfl (by kernel_rfl)
      refine WR.nil ?_
      change WC _ _ _ _ _ _
      refine WC.seq ?_
      refine WC.region ?_
      refine WR.v (v := .pointer (some ⟨g_108, 0, none⟩)) rfl rfl rfl ?_ ?_
      · refine QV.qo ?_; exact q_move rfl (by kernel_rfl)
      refine WR.v (v := .slice (some ⟨g_115, 0, none⟩) 1 1) rfl rfl rfl ?_ ?_
      · refine QV.qo ?_; exact q_move rfl (by kernel_rfl)
      have hown_116 : Own verT X_99 B_100 58 [(g_115, .cells #[.int .i64 1, .int .i64 1, .slice none 0 0, .bool false, .string ⟨#[]⟩] 58 (0, 0))] (some ⟨g_115, 0, none⟩) 1 [(⟨(⟨1, 1⟩ : Dot), [], false, ⟨#[]⟩⟩ : Ver)] := Own.of_block (T := verT) (X := X_99) (B := B_100) (ys := [(⟨(⟨1, 1⟩ : Dot), [], false, ⟨#[]⟩⟩ : Ver)]) [[.int .i64 1, .int .i64 1, .slice none 0 0, .bool false, .string ⟨#[]⟩]] rfl rfl (by simp only [List.length_cons, List.length_nil, lim_eq]; omega) (fun i h => match i, h with | 0, _ => (show Ty.rd verT X_99 B_100 [.int .i64 1, .int .i64 1, .slice none 0 0, .bool false, .string ⟨#[]⟩] (⟨(⟨1, 1⟩ : Dot), [], false, ⟨#[]⟩⟩ : Ver) from ⟨none, 0, rfl, ⟨(show I64 (1) by decide), (show I64 (1) by decide), ⟨Nat.zero_le _, Sl.nil _ _ _ _⟩, (show (⟨#[]⟩ : ByteArray).size ≤ lim by decide)⟩⟩))
      have hc_124 := Own.capz hown_116
      refine WR.toData (T := verT) (i := 0) (row := [(g_115, .cells #[.int .i64 1, .int .i64 1, .slice none 0 0, .bool false, .string ⟨#[]⟩] 58 (0, 0))]) (A := (some ⟨g_115, 0, none⟩)) (c := 1) (xs := [(⟨(⟨1, 1⟩ : Dot), [], false, ⟨#[]⟩⟩ : Ver)]) rfl hown_116 (X0 := X) hxx_102 hX hxl_103 ?_
      intro X_118 B_119 hst_120 hxx_121 hxl_122 hs_123
      change WR _ _ _ (CC _ _ X_118 B_119 [[], row_109, [], row_72, []]) _ _ _
      refine WR.sub (C' := CC no w0 X_118 B_119 ([row_109] ++ [[], [], row_72, []])) (fun w hw => hw.permL (List.perm_middle (l₁ := ([[]] : List Rowb)) (a := (row_109 : Rowb)) (l₂ := ([[], row_72, []] : List Rowb))).symm) ?_
      refine e_call_eff (U := [row_109]) (R := [[], [], row_72, []]) (args := #[.pointer (some ⟨g_108, 0, none⟩), .int .i64 1, .slice (some ⟨g_115, 0, none⟩) [(⟨(⟨1, 1⟩ : Dot), [], false, ⟨#[]⟩⟩ : Ver)].length 1]) (f := 19) (Res := Read_Got_ok_res g_108 row_109 (((⟨([1, 2]), (2), []⟩ : AskV))) (1) ([(⟨(⟨1, 1⟩ : Dot), [], false, ⟨#[]⟩⟩ : Ver)])) rfl rfl (fun w => call_run (ty := 0) Try.call19 rfl rfl (by kernel_rfl) w) hxl_122 (X0 := X) hxx_121 (fun w X' hs_ hl_ hp_ => Read_Got_ok w X' g_108 row_109 (((⟨([1, 2]), (2), []⟩ : AskV))) (((hob_110.step hst_120)).step hs_) (1) (show I64 (1) by decide) (some ⟨g_115, 0, none⟩) 1 ([(⟨(⟨1, 1⟩ : Dot), [], false, ⟨#[]⟩⟩ : Ver)]) (Sl.step hs_123 hs_) hc_124 hp_ hl_) ?_
      intro X_125 B_126 U' v hst_127 hxx_128 hxl_129 hres
      obtain ⟨row_130, rfl, rfl, hob_131, _⟩ := hres
      have hf_133 := ((((hf_75.step hst_82).step hst_94).step hst_101).step hst_120).step hst_127
      have hf_134 := ((((hob_73.step hst_82).step hst_94).step hst_101).step hst_120).step hst_127
      change WR _ _ _ (CC _ _ X_125 B_126 [row_130, [], [], row_72, []]) _ _ _
      refine WR.nil ?_
      change WC _ _ _ _ _ _
      refine WC.seq ?_
      refine WC.region ?_
      refine WR.v (v := .pointer (some ⟨g_108, 0, none⟩)) rfl rfl rfl ?_ ?_
      · refine QV.qo ?_; exact q_move rfl (by kernel_rfl)
      refine WR.sub (C' := CC no w0 X_125 B_126 ([row_130] ++ [[], [], row_72, []])) (fun w hw => hw) ?_
      refine e_call_eff (U := [row_130]) (R := [[], [], row_72, []]) (args := #[.pointer (some ⟨g_108, 0, none⟩), .int .i64 2, .slice none 0 0]) (f := 19) (Res := Read_Got_ok_res g_108 row_130 (((AskV.gotv (((⟨([1, 2]), (2), []⟩ : AskV))) (1) ([(⟨(⟨1, 1⟩ : Dot), [], false, ⟨#[]⟩⟩ : Ver)])).1)) (2) ([])) rfl rfl (fun w => call_run (ty := 0) Try.call19 rfl rfl (by kernel_rfl) w) hxl_129 (X0 := X) hxx_128 (fun w X' hs_ hl_ hp_ => Read_Got_ok w X' g_108 row_130 (((AskV.gotv (((⟨([1, 2]), (2), []⟩ : AskV))) (1) ([(⟨(⟨1, 1⟩ : Dot), [], false, ⟨#[]⟩⟩ : Ver)])).1)) ((hob_131).step hs_) (2) (show I64 (2) by decide) none 0 [] (Sl.nil _ _ _ _) (by simp) hp_ hl_) ?_
      intro X_135 B_136 U' v hst_137 hxx_138 hxl_139 hres
      obtain ⟨row_140, rfl, rfl, hob_141, _⟩ := hres
      have hf_143 := ((((hs_87.step hst_94).step hst_101).step hst_120).step hst_127).step hst_137
      change WR _ _ _ (CC _ _ X_135 B_136 [row_140, [], [], row_72, []]) _ _ _
      refine WR.nil ?_
      change WC _ _ _ _ _ _
      refine WC.seq ?_
      refine WC.region ?_
      refine WR.v (v := .pointer (some ⟨g_108, 0, none⟩)) rfl rfl rfl ?_ ?_
      · refine QV.qo ?_; exact q_move rfl (by kernel_rfl)
      refine e_call_look (args := #[.pointer (some ⟨g_108, 0, none⟩)]) (Res := Read_Behind_ok_res (((AskV.gotv (((AskV.gotv (((⟨([1, 2]), (2), []⟩ : AskV))) (1) ([(⟨(⟨1, 1⟩ : Dot), [], false, ⟨#[]⟩⟩ : Ver)])).1)) (2) ([])).1))) rfl rfl rfl Try.call26 rfl (by kernel_rfl) hxl_139 (fun w X' hs_ hl_ hp_ => Read_Behind_ok w X' g_108 row_140 (((AskV.gotv (((AskV.gotv (((⟨([1, 2]), (2), []⟩ : AskV))) (1) ([(⟨(⟨1, 1⟩ : Dot), [], false, ⟨#[]⟩⟩ : Ver)])).1)) (2) ([])).1)) ((hob_141).step hs_) (hp_.sub (.cons_cons _ (.cons _ (.cons _ (.cons _ (.cons _ .slnil)))))) hl_) ?_
      intro X_144 B_145 v hst_146 hxx_147 hxl_148 hres
      obtain ⟨A_149, c_150, rfl, hs_151, hc_152⟩ := hres
      have hf_153 := ((((hs_97.step hst_101).step hst_120).step hst_127).step hst_137).step hst_146
      try have hs_151l := hs_151.le_
      change WR _ _ _ (CC _ _ X_144 B_145 [row_140, [], [], row_72, []]) _ _ _
      refine WR.v (v := .slice A_149 ((((AskV.gotv (((AskV.gotv (((⟨([1, 2]), (2), []⟩ : AskV))) (1) ([(⟨(⟨1, 1⟩ : Dot), [], false, ⟨#[]⟩⟩ : Ver)])).1)) (2) ([])).1)).behind).length c_150) rfl rfl rfl ?_ ?_
      · refine QV.qo ?_; exact q_assign rfl (by kernel_rfl)
      refine WR.nil ?_
      change WC _ _ _ _ _ _
      refine WC.seq ?_
      refine WC.region ?_
      refine WR.v (v := .pointer (some ⟨g_20, 0, none⟩)) rfl rfl rfl ?_ ?_
      · refine QV.qo ?_; exact q_move rfl (by kernel_rfl)
      refine WR.v (v := .bool (decide ((((AskB.count (((AskB.count (((AskB.count (((AskB.count (((⟨([3, 1, 2]), (2), []⟩ : AskB))) (1) true).1)) (1) true).1)) (4) true).1)) (3) true).1)).need ≤ ((((AskB.count (((AskB.count (((AskB.count (((AskB.count (((⟨([3, 1, 2]), (2), []⟩ : AskB))) (1) true).1)) (1) true).1)) (4) true).1)) (3) true).1)).got.length : Int)))) rfl rfl rfl ?_ ?_
      · exact q_call (args := #[.pointer (some ⟨g_20, 0, none⟩)]) Try.call13 rfl (by kernel_rfl) (fun w hw => NewWrite_Done_ok w _ g_20 row_72 (((AskB.count (((AskB.count (((AskB.count (((AskB.count (((⟨([3, 1, 2]), (2), []⟩ : AskB))) (1) true).1)) (1) true).1)) (4) true).1)) (3) true).1)) ((((hf_134.step hst_137).step hst_146)).step hw.st) (hw.preL.sub (.cons _ (.cons _ (.cons _ (.cons_cons _ (.cons _ .slnil)))))) (hw.mx_lt hxl_148))
      refine WR.v (v := .bool (decide ((((AskB.count (((AskB.count (((AskB.count (((AskB.count (((⟨([3, 1, 2]), (2), []⟩ : AskB))) (1) true).1)) (1) true).1)) (4) true).1)) (3) true).1)).need ≤ ((((AskB.count (((AskB.count (((AskB.count (((AskB.count (((⟨([3, 1, 2]), (2), []⟩ : AskB))) (1) true).1)) (1) true).1)) (4) true).1)) (3) true).1)).got.length : Int)))) rfl rfl rfl ?_ ?_
      · refine QV.qo ?_; exact q_move rfl (by kernel_rfl)
      have hgr_154 : ((decide ((((AskB.count (((AskB.count (((AskB.count (((AskB.count (((⟨([3, 1, 2]), (2), []⟩ : AskB))) (1) true).1)) (1) true).1)) (4) true).1)) (3) true).1)).need ≤ ((((AskB.count (((AskB.count (((AskB.count (((AskB.count (((⟨([3, 1, 2]), (2), []⟩ : AskB))) (1) true).1)) (1) true).1)) (4) true).1)) (3) true).1)).got.length : Int))) : Bool) = true := by kernel_rfl
      refine WR.g1 (v := .slice A_85 ((((AskB.count (((AskB.count (((AskB.count (((AskB.count (((⟨([3, 1, 2]), (2), []⟩ : AskB))) (1) true).1)) (1) true).1)) (4) true).1)) (3) true).1)).waits).length c_86) (c0 := true) (g := (decide ((((AskB.count (((AskB.count (((AskB.count (((AskB.count (((⟨([3, 1, 2]), (2), []⟩ : AskB))) (1) true).1)) (1) true).1)) (4) true).1)) (3) true).1)).need ≤ ((((AskB.count (((AskB.count (((AskB.count (((AskB.count (((⟨([3, 1, 2]), (2), []⟩ : AskB))) (1) true).1)) (1) true).1)) (4) true).1)) (3) true).1)).got.length : Int)))) rfl rfl (by kernel_rfl) rfl rfl (fun hc_155 => ?_) ?_
      · refine QV.qo ?_; exact q_move rfl (by kernel_rfl)
      refine WR.g1 (v := .int .i64 ((((((AskB.count (((AskB.count (((AskB.count (((AskB.count (((⟨([3, 1, 2]), (2), []⟩ : AskB))) (1) true).1)) (1) true).1)) (4) true).1)) (3) true).1)).waits).length : Nat) : Int)) (c0 := true) (g := (decide ((((AskB.count (((AskB.count (((AskB.count (((AskB.count (((⟨([3, 1, 2]), (2), []⟩ : AskB))) (1) true).1)) (1) true).1)) (4) true).1)) (3) true).1)).need ≤ ((((AskB.count (((AskB.count (((AskB.count (((AskB.count (((⟨([3, 1, 2]), (2), []⟩ : AskB))) (1) true).1)) (1) true).1)) (4) true).1)) (3) true).1)).got.length : Int)))) rfl rfl (by kernel_rfl) rfl rfl (fun hc_156 => ?_) ?_
      · refine QV.qo ?_; exact q_len_slice (A := A_85) (n := ((((AskB.count (((AskB.count (((AskB.count (((AskB.count (((⟨([3, 1, 2]), (2), []⟩ : AskB))) (1) true).1)) (1) true).1)) (4) true).1)) (3) true).1)).waits).length) (c := c_86) rfl Try.underlying22 (gv_of hc_156)
      refine WR.g1 (v := .bool (((((((AskB.count (((AskB.count (((AskB.count (((AskB.count (((⟨([3, 1, 2]), (2), []⟩ : AskB))) (1) true).1)) (1) true).1)) (4) true).1)) (3) true).1)).waits).length : Nat) : Int) == 1)) (c0 := true) (g := (decide ((((AskB.count (((AskB.count (((AskB.count (((AskB.count (((⟨([3, 1, 2]), (2), []⟩ : AskB))) (1) true).1)) (1) true).1)) (4) true).1)) (3) true).1)).need ≤ ((((AskB.count (((AskB.count (((AskB.count (((AskB.count (((⟨([3, 1, 2]), (2), []⟩ : AskB))) (1) true).1)) (1) true).1)) (4) true).1)) (3) true).1)).got.length : Int)))) rfl rfl (by kernel_rfl) rfl rfl (fun hc_157 => ?_) ?_
      · refine QV.qo ?_; exact q_eql (k := .i64) (a := ((((((AskB.count (((AskB.count (((AskB.count (((AskB.count (((⟨([3, 1, 2]), (2), []⟩ : AskB))) (1) true).1)) (1) true).1)) (4) true).1)) (3) true).1)).waits).length : Nat) : Int)) (b := 1) rfl (gv_of hc_157) (by kernel_rfl)
      have hgr_158 : ((true && (decide ((((AskB.count (((AskB.count (((AskB.count (((AskB.count (((⟨([3, 1, 2]), (2), []⟩ : AskB))) (1) true).1)) (1) true).1)) (4) true).1)) (3) true).1)).need ≤ ((((AskB.count (((AskB.count (((AskB.count (((AskB.count (((⟨([3, 1, 2]), (2), []⟩ : AskB))) (1) true).1)) (1) true).1)) (4) true).1)) (3) true).1)).got.length : Int)))) : Bool) = true := by kernel_rfl
      refine WR.v (v := .bool (((((((AskB.count (((AskB.count (((AskB.count (((AskB.count (((⟨([3, 1, 2]), (2), []⟩ : AskB))) (1) true).1)) (1) true).1)) (4) true).1)) (3) true).1)).waits).length : Nat) : Int) == 1)) rfl rfl rfl ?_ ?_
      · refine QV.qo ?_; exact q_pick_t (g := (decide ((((AskB.count (((AskB.count (((AskB.count (((AskB.count (((⟨([3, 1, 2]), (2), []⟩ : AskB))) (1) true).1)) (1) true).1)) (4) true).1)) (3) true).1)).need ≤ ((((AskB.count (((AskB.count (((AskB.count (((AskB.count (((⟨([3, 1, 2]), (2), []⟩ : AskB))) (1) true).1)) (1) true).1)) (4) true).1)) (3) true).1)).got.length : Int)))) rfl (by kernel_rfl) hgr_154 (gv_of (c := (true && (decide ((((AskB.count (((AskB.count (((AskB.count (((AskB.count (((⟨([3, 1, 2]), (2), []⟩ : AskB))) (1) true).1)) (1) true).1)) (4) true).1)) (3) true).1)).need ≤ ((((AskB.count (((AskB.count (((AskB.count (((AskB.count (((⟨([3, 1, 2]), (2), []⟩ : AskB))) (1) true).1)) (1) true).1)) (4) true).1)) (3) true).1)).got.length : Int))))) (v := .bool (((((((AskB.count (((AskB.count (((AskB.count (((AskB.count (((⟨([3, 1, 2]), (2), []⟩ : AskB))) (1) true).1)) (1) true).1)) (4) true).1)) (3) true).1)).waits).length : Nat) : Int) == 1)) hgr_158)
      refine WR.v (v := .bool (((((((AskB.count (((AskB.count (((AskB.count (((AskB.count (((⟨([3, 1, 2]), (2), []⟩ : AskB))) (1) true).1)) (1) true).1)) (4) true).1)) (3) true).1)).waits).length : Nat) : Int) == 1)) rfl rfl rfl ?_ ?_
      · refine QV.qo ?_; exact q_move rfl (by kernel_rfl)
      have hgr_159 : ((((((((AskB.count (((AskB.count (((AskB.count (((AskB.count (((⟨([3, 1, 2]), (2), []⟩ : AskB))) (1) true).1)) (1) true).1)) (4) true).1)) (3) true).1)).waits).length : Nat) : Int) == 1) : Bool) = true := by kernel_rfl
      refine WR.g1 (v := .slice A_85 ((((AskB.count (((AskB.count (((AskB.count (((AskB.count (((⟨([3, 1, 2]), (2), []⟩ : AskB))) (1) true).1)) (1) true).1)) (4) true).1)) (3) true).1)).waits).length c_86) (c0 := true) (g := (((((((AskB.count (((AskB.count (((AskB.count (((AskB.count (((⟨([3, 1, 2]), (2), []⟩ : AskB))) (1) true).1)) (1) true).1)) (4) true).1)) (3) true).1)).waits).length : Nat) : Int) == 1)) rfl rfl (by kernel_rfl) rfl rfl (fun hc_160 => ?_) ?_
      · refine QV.qo ?_; exact q_move rfl (by kernel_rfl)
      refine WR.g1 (v := ptrAt A_85 (0 * 1)) (c0 := true) (g := (((((((AskB.count (((AskB.count (((AskB.count (((AskB.count (((⟨([3, 1, 2]), (2), []⟩ : AskB))) (1) true).1)) (1) true).1)) (4) true).1)) (3) true).1)).waits).length : Nat) : Int) == 1)) rfl rfl (by kernel_rfl) rfl rfl (fun hc_161 => ?_) ?_
      · refine QV.qo ?_; exact q_index_addr (k := .i64) (A := A_85) (n := ((((AskB.count (((AskB.count (((AskB.count (((AskB.count (((⟨([3, 1, 2]), (2), []⟩ : AskB))) (1) true).1)) (1) true).1)) (4) true).1)) (3) true).1)).waits).length) (c := c_86) (i := 0) rfl Try.underlying22 Try.sizeOf3 (gv_of hc_161) (by kernel_rfl) (by first | omega | (simp at hc_161; omega)) (Sl.some_ (hf_143.step hst_146) (k := 0) (by first | omega | (simp at hc_161; omega)))
      refine WR.g1 (v := .int .i64 (gt ((((AskB.count (((AskB.count (((AskB.count (((AskB.count (((⟨([3, 1, 2]), (2), []⟩ : AskB))) (1) true).1)) (1) true).1)) (4) true).1)) (3) true).1)).waits) 0)) (c0 := true) (g := (((((((AskB.count (((AskB.count (((AskB.count (((AskB.count (((⟨([3, 1, 2]), (2), []⟩ : AskB))) (1) true).1)) (1) true).1)) (4) true).1)) (3) true).1)).waits).length : Nat) : Int) == 1)) rfl rfl (by kernel_rfl) rfl rfl (fun hc_162 => ?_) ?_
      · refine QV.qo ?_; exact q_load_cell (A := A_85) (j := 0 * 1) (v := .int .i64 (gt ((((AskB.count (((AskB.count (((AskB.count (((AskB.count (((⟨([3, 1, 2]), (2), []⟩ : AskB))) (1) true).1)) (1) true).1)) (4) true).1)) (3) true).1)).waits) 0)) rfl Try.isAgg3 (gv_of hc_162) (Sl.intT_0 (hf_143.step hst_146) (i := 0) (by first | omega | (simp at hc_162; omega)))
      refine WR.g1 (v := .bool ((gt ((((AskB.count (((AskB.count (((AskB.count (((AskB.count (((⟨([3, 1, 2]), (2), []⟩ : AskB))) (1) true).1)) (1) true).1)) (4) true).1)) (3) true).1)).waits) 0) == 2)) (c0 := true) (g := (((((((AskB.count (((AskB.count (((AskB.count (((AskB.count (((⟨([3, 1, 2]), (2), []⟩ : AskB))) (1) true).1)) (1) true).1)) (4) true).1)) (3) true).1)).waits).length : Nat) : Int) == 1)) rfl rfl (by kernel_rfl) rfl rfl (fun hc_163 => ?_) ?_
      · refine QV.qo ?_; exact q_eql (k := .i64) (a := (gt ((((AskB.count (((AskB.count (((AskB.count (((AskB.count (((⟨([3, 1, 2]), (2), []⟩ : AskB))) (1) true).1)) (1) true).1)) (4) true).1)) (3) true).1)).waits) 0)) (b := 2) rfl (gv_of hc_163) (by kernel_rfl)
      have hgr_164 : ((true && (((((((AskB.count (((AskB.count (((AskB.count (((AskB.count (((⟨([3, 1, 2]), (2), []⟩ : AskB))) (1) true).1)) (1) true).1)) (4) true).1)) (3) true).1)).waits).length : Nat) : Int) == 1)) : Bool) = true := by kernel_rfl
      refine WR.v (v := .bool ((gt ((((AskB.count (((AskB.count (((AskB.count (((AskB.count (((⟨([3, 1, 2]), (2), []⟩ : AskB))) (1) true).1)) (1) true).1)) (4) true).1)) (3) true).1)).waits) 0) == 2)) rfl rfl rfl ?_ ?_
      · refine QV.qo ?_; exact q_pick_t (g := (((((((AskB.count (((AskB.count (((AskB.count (((AskB.count (((⟨([3, 1, 2]), (2), []⟩ : AskB))) (1) true).1)) (1) true).1)) (4) true).1)) (3) true).1)).waits).length : Nat) : Int) == 1)) rfl (by kernel_rfl) hgr_159 (gv_of (c := (true && (((((((AskB.count (((AskB.count (((AskB.count (((AskB.count (((⟨([3, 1, 2]), (2), []⟩ : AskB))) (1) true).1)) (1) true).1)) (4) true).1)) (3) true).1)).waits).length : Nat) : Int) == 1))) (v := .bool ((gt ((((AskB.count (((AskB.count (((AskB.count (((AskB.count (((⟨([3, 1, 2]), (2), []⟩ : AskB))) (1) true).1)) (1) true).1)) (4) true).1)) (3) true).1)).waits) 0) == 2)) hgr_164)
      refine WR.v (v := .bool ((gt ((((AskB.count (((AskB.count (((AskB.count (((AskB.count (((⟨([3, 1, 2]), (2), []⟩ : AskB))) (1) true).1)) (1) true).1)) (4) true).1)) (3) true).1)).waits) 0) == 2)) rfl rfl rfl ?_ ?_
      · refine QV.qo ?_; exact q_move rfl (by kernel_rfl)
      have hgr_165 : (((gt ((((AskB.count (((AskB.count (((AskB.count (((AskB.count (((⟨([3, 1, 2]), (2), []⟩ : AskB))) (1) true).1)) (1) true).1)) (4) true).1)) (3) true).1)).waits) 0) == 2) : Bool) = true := by kernel_rfl
      refine WR.g1 (v := .pointer (some ⟨g_108, 0, none⟩)) (c0 := true) (g := ((gt ((((AskB.count (((AskB.count (((AskB.count (((AskB.count (((⟨([3, 1, 2]), (2), []⟩ : AskB))) (1) true).1)) (1) true).1)) (4) true).1)) (3) true).1)).waits) 0) == 2)) rfl rfl (by kernel_rfl) rfl rfl (fun hc_166 => ?_) ?_
      · refine QV.qo ?_; exact q_move rfl (by kernel_rfl)
      refine WR.g1 (v := .bool (decide ((((AskV.gotv (((AskV.gotv (((⟨([1, 2]), (2), []⟩ : AskV))) (1) ([(⟨(⟨1, 1⟩ : Dot), [], false, ⟨#[]⟩⟩ : Ver)])).1)) (2) ([])).1)).need ≤ ((((AskV.gotv (((AskV.gotv (((⟨([1, 2]), (2), []⟩ : AskV))) (1) ([(⟨(⟨1, 1⟩ : Dot), [], false, ⟨#[]⟩⟩ : Ver)])).1)) (2) ([])).1)).got.length : Int)))) (c0 := true) (g := ((gt ((((AskB.count (((AskB.count (((AskB.count (((AskB.count (((⟨([3, 1, 2]), (2), []⟩ : AskB))) (1) true).1)) (1) true).1)) (4) true).1)) (3) true).1)).waits) 0) == 2)) rfl rfl (by kernel_rfl) rfl rfl (fun hc_167 => ?_) ?_
      · exact q_call (args := #[.pointer (some ⟨g_108, 0, none⟩)]) Try.call21 rfl (by exact args1 (gv_of hc_167)) (fun w hw => NewRead_Done_ok w _ g_108 row_140 (((AskV.gotv (((AskV.gotv (((⟨([1, 2]), (2), []⟩ : AskV))) (1) ([(⟨(⟨1, 1⟩ : Dot), [], false, ⟨#[]⟩⟩ : Ver)])).1)) (2) ([])).1)) (((hob_141.step hst_146)).step hw.st) (hw.preL.sub (.cons_cons _ (.cons _ (.cons _ (.cons _ (.cons _ .slnil)))))) (hw.mx_lt hxl_148))
      have hgr_168 : ((true && ((gt ((((AskB.count (((AskB.count (((AskB.count (((AskB.count (((⟨([3, 1, 2]), (2), []⟩ : AskB))) (1) true).1)) (1) true).1)) (4) true).1)) (3) true).1)).waits) 0) == 2)) : Bool) = true := by kernel_rfl
      refine WR.v (v := .bool (decide ((((AskV.gotv (((AskV.gotv (((⟨([1, 2]), (2), []⟩ : AskV))) (1) ([(⟨(⟨1, 1⟩ : Dot), [], false, ⟨#[]⟩⟩ : Ver)])).1)) (2) ([])).1)).need ≤ ((((AskV.gotv (((AskV.gotv (((⟨([1, 2]), (2), []⟩ : AskV))) (1) ([(⟨(⟨1, 1⟩ : Dot), [], false, ⟨#[]⟩⟩ : Ver)])).1)) (2) ([])).1)).got.length : Int)))) rfl rfl rfl ?_ ?_
      · refine QV.qo ?_; exact q_pick_t (g := ((gt ((((AskB.count (((AskB.count (((AskB.count (((AskB.count (((⟨([3, 1, 2]), (2), []⟩ : AskB))) (1) true).1)) (1) true).1)) (4) true).1)) (3) true).1)).waits) 0) == 2)) rfl (by kernel_rfl) hgr_165 (gv_of (c := (true && ((gt ((((AskB.count (((AskB.count (((AskB.count (((AskB.count (((⟨([3, 1, 2]), (2), []⟩ : AskB))) (1) true).1)) (1) true).1)) (4) true).1)) (3) true).1)).waits) 0) == 2))) (v := .bool (decide ((((AskV.gotv (((AskV.gotv (((⟨([1, 2]), (2), []⟩ : AskV))) (1) ([(⟨(⟨1, 1⟩ : Dot), [], false, ⟨#[]⟩⟩ : Ver)])).1)) (2) ([])).1)).need ≤ ((((AskV.gotv (((AskV.gotv (((⟨([1, 2]), (2), []⟩ : AskV))) (1) ([(⟨(⟨1, 1⟩ : Dot), [], false, ⟨#[]⟩⟩ : Ver)])).1)) (2) ([])).1)).got.length : Int)))) hgr_168)
      refine WR.v (v := .bool (decide ((((AskV.gotv (((AskV.gotv (((⟨([1, 2]), (2), []⟩ : AskV))) (1) ([(⟨(⟨1, 1⟩ : Dot), [], false, ⟨#[]⟩⟩ : Ver)])).1)) (2) ([])).1)).need ≤ ((((AskV.gotv (((AskV.gotv (((⟨([1, 2]), (2), []⟩ : AskV))) (1) ([(⟨(⟨1, 1⟩ : Dot), [], false, ⟨#[]⟩⟩ : Ver)])).1)) (2) ([])).1)).got.length : Int)))) rfl rfl rfl ?_ ?_
      · refine QV.qo ?_; exact q_move rfl (by kernel_rfl)
      have hgr_169 : ((decide ((((AskV.gotv (((AskV.gotv (((⟨([1, 2]), (2), []⟩ : AskV))) (1) ([(⟨(⟨1, 1⟩ : Dot), [], false, ⟨#[]⟩⟩ : Ver)])).1)) (2) ([])).1)).need ≤ ((((AskV.gotv (((AskV.gotv (((⟨([1, 2]), (2), []⟩ : AskV))) (1) ([(⟨(⟨1, 1⟩ : Dot), [], false, ⟨#[]⟩⟩ : Ver)])).1)) (2) ([])).1)).got.length : Int))) : Bool) = true := by kernel_rfl
      refine WR.g1 (v := .pointer (some ⟨g_108, 0, none⟩)) (c0 := true) (g := (decide ((((AskV.gotv (((AskV.gotv (((⟨([1, 2]), (2), []⟩ : AskV))) (1) ([(⟨(⟨1, 1⟩ : Dot), [], false, ⟨#[]⟩⟩ : Ver)])).1)) (2) ([])).1)).need ≤ ((((AskV.gotv (((AskV.gotv (((⟨([1, 2]), (2), []⟩ : AskV))) (1) ([(⟨(⟨1, 1⟩ : Dot), [], false, ⟨#[]⟩⟩ : Ver)])).1)) (2) ([])).1)).got.length : Int)))) rfl rfl (by kernel_rfl) rfl rfl (fun hc_170 => ?_) ?_
      · refine QV.qo ?_; exact q_move rfl (by kernel_rfl)
      refine WR.sat (c0 := true) (g := (decide ((((AskV.gotv (((AskV.gotv (((⟨([1, 2]), (2), []⟩ : AskV))) (1) ([(⟨(⟨1, 1⟩ : Dot), [], false, ⟨#[]⟩⟩ : Ver)])).1)) (2) ([])).1)).need ≤ ((((AskV.gotv (((AskV.gotv (((⟨([1, 2]), (2), []⟩ : AskV))) (1) ([(⟨(⟨1, 1⟩ : Dot), [], false, ⟨#[]⟩⟩ : Ver)])).1)) (2) ([])).1)).got.length : Int)))) rfl rfl (by kernel_rfl) (by simp [hgr_169]) ?_
      have hgr_171 : ((true && (decide ((((AskV.gotv (((AskV.gotv (((⟨([1, 2]), (2), []⟩ : AskV))) (1) ([(⟨(⟨1, 1⟩ : Dot), [], false, ⟨#[]⟩⟩ : Ver)])).1)) (2) ([])).1)).need ≤ ((((AskV.gotv (((AskV.gotv (((⟨([1, 2]), (2), []⟩ : AskV))) (1) ([(⟨(⟨1, 1⟩ : Dot), [], false, ⟨#[]⟩⟩ : Ver)])).1)) (2) ([])).1)).got.length : Int)))) : Bool) = true := by kernel_rfl
      refine e_call_look (args := #[.pointer (some ⟨g_108, 0, none⟩)]) (Res := Read_Vers_ok_res (((AskV.gotv (((AskV.gotv (((⟨([1, 2]), (2), []⟩ : AskV))) (1) ([(⟨(⟨1, 1⟩ : Dot), [], false, ⟨#[]⟩⟩ : Ver)])).1)) (2) ([])).1))) rfl rfl rfl Try.call24 rfl (by exact args1 (gv_of (c := (true && (decide ((((AskV.gotv (((AskV.gotv (((⟨([1, 2]), (2), []⟩ : AskV))) (1) ([(⟨(⟨1, 1⟩ : Dot), [], false, ⟨#[]⟩⟩ : Ver)])).1)) (2) ([])).1)).need ≤ ((((AskV.gotv (((AskV.gotv (((⟨([1, 2]), (2), []⟩ : AskV))) (1) ([(⟨(⟨1, 1⟩ : Dot), [], false, ⟨#[]⟩⟩ : Ver)])).1)) (2) ([])).1)).got.length : Int))))) (v := .pointer (some ⟨g_108, 0, none⟩)) hgr_171)) hxl_148 (fun w X' hs_ hl_ hp_ => Read_Vers_ok w X' g_108 row_140 (((AskV.gotv (((AskV.gotv (((⟨([1, 2]), (2), []⟩ : AskV))) (1) ([(⟨(⟨1, 1⟩ : Dot), [], false, ⟨#[]⟩⟩ : Ver)])).1)) (2) ([])).1)) (((hob_141.step hst_146)).step hs_) (hp_.sub (.cons_cons _ (.cons _ (.cons _ (.cons _ (.cons _ .slnil)))))) hl_) ?_
      intro X_172 B_173 v hst_174 hxx_175 hxl_176 hres
      obtain ⟨A_177, c_178, rfl, hs_179, hc_180⟩ := hres
      try have hs_179l := hs_179.le_
      change WR _ _ _ (CC _ _ X_172 B_173 [row_140, [], [], row_72, []]) _ _ _
      refine WR.g1 (v := .slice (some ⟨g_115, 0, none⟩) [(⟨(⟨1, 1⟩ : Dot), [], false, ⟨#[]⟩⟩ : Ver)].length 1) (c0 := true) (g := (decide ((((AskV.gotv (((AskV.gotv (((⟨([1, 2]), (2), []⟩ : AskV))) (1) ([(⟨(⟨1, 1⟩ : Dot), [], false, ⟨#[]⟩⟩ : Ver)])).1)) (2) ([])).1)).need ≤ ((((AskV.gotv (((AskV.gotv (((⟨([1, 2]), (2), []⟩ : AskV))) (1) ([(⟨(⟨1, 1⟩ : Dot), [], false, ⟨#[]⟩⟩ : Ver)])).1)) (2) ([])).1)).got.length : Int)))) rfl rfl (by kernel_rfl) rfl rfl (fun hc_181 => ?_) ?_
      · refine QV.qo ?_; exact q_move rfl (by kernel_rfl)
      refine WR.g1 (v := .bool (r5Same (((((AskV.gotv (((AskV.gotv (((⟨([1, 2]), (2), []⟩ : AskV))) (1) ([(⟨(⟨1, 1⟩ : Dot), [], false, ⟨#[]⟩⟩ : Ver)])).1)) (2) ([])).1)).vers)) ([(⟨(⟨1, 1⟩ : Dot), [], false, ⟨#[]⟩⟩ : Ver)]))) (c0 := true) (g := (decide ((((AskV.gotv (((AskV.gotv (((⟨([1, 2]), (2), []⟩ : AskV))) (1) ([(⟨(⟨1, 1⟩ : Dot), [], false, ⟨#[]⟩⟩ : Ver)])).1)) (2) ([])).1)).need ≤ ((((AskV.gotv (((AskV.gotv (((⟨([1, 2]), (2), []⟩ : AskV))) (1) ([(⟨(⟨1, 1⟩ : Dot), [], false, ⟨#[]⟩⟩ : Ver)])).1)) (2) ([])).1)).got.length : Int)))) rfl rfl (by kernel_rfl) rfl rfl (fun hc_182 => ?_) ?_
      · exact q_call (args := #[.slice A_177 ((((AskV.gotv (((AskV.gotv (((⟨([1, 2]), (2), []⟩ : AskV))) (1) ([(⟨(⟨1, 1⟩ : Dot), [], false, ⟨#[]⟩⟩ : Ver)])).1)) (2) ([])).1)).vers).length c_178, .slice (some ⟨g_115, 0, none⟩) [(⟨(⟨1, 1⟩ : Dot), [], false, ⟨#[]⟩⟩ : Ver)].length 1]) Try.call23 rfl (by exact args2 (by kernel_rfl) (gv_of hc_182)) (fun w hw => ref05_Same_ok w no A_177 c_178 (((((AskV.gotv (((AskV.gotv (((⟨([1, 2]), (2), []⟩ : AskV))) (1) ([(⟨(⟨1, 1⟩ : Dot), [], false, ⟨#[]⟩⟩ : Ver)])).1)) (2) ([])).1)).vers)) (Sl.step hs_179 (hw.st0.trans (St.to_no _ _))) hc_180 (some ⟨g_115, 0, none⟩) 1 ([(⟨(⟨1, 1⟩ : Dot), [], false, ⟨#[]⟩⟩ : Ver)]) (Sl.step ((((hs_123.step hst_127).step hst_137).step hst_146).step hst_174) (hw.st0.trans (St.to_no _ _))) hc_124 (fun _ h => h.elim))
      refine WR.v (v := .bool (r5Same (((((AskV.gotv (((AskV.gotv (((⟨([1, 2]), (2), []⟩ : AskV))) (1) ([(⟨(⟨1, 1⟩ : Dot), [], false, ⟨#[]⟩⟩ : Ver)])).1)) (2) ([])).1)).vers)) ([(⟨(⟨1, 1⟩ : Dot), [], false, ⟨#[]⟩⟩ : Ver)]))) rfl rfl rfl ?_ ?_
      · refine QV.qo ?_; exact q_pick_t (g := (decide ((((AskV.gotv (((AskV.gotv (((⟨([1, 2]), (2), []⟩ : AskV))) (1) ([(⟨(⟨1, 1⟩ : Dot), [], false, ⟨#[]⟩⟩ : Ver)])).1)) (2) ([])).1)).need ≤ ((((AskV.gotv (((AskV.gotv (((⟨([1, 2]), (2), []⟩ : AskV))) (1) ([(⟨(⟨1, 1⟩ : Dot), [], false, ⟨#[]⟩⟩ : Ver)])).1)) (2) ([])).1)).got.length : Int)))) rfl (by kernel_rfl) hgr_169 (gv_of (c := (true && (decide ((((AskV.gotv (((AskV.gotv (((⟨([1, 2]), (2), []⟩ : AskV))) (1) ([(⟨(⟨1, 1⟩ : Dot), [], false, ⟨#[]⟩⟩ : Ver)])).1)) (2) ([])).1)).need ≤ ((((AskV.gotv (((AskV.gotv (((⟨([1, 2]), (2), []⟩ : AskV))) (1) ([(⟨(⟨1, 1⟩ : Dot), [], false, ⟨#[]⟩⟩ : Ver)])).1)) (2) ([])).1)).got.length : Int))))) (v := .bool (r5Same (((((AskV.gotv (((AskV.gotv (((⟨([1, 2]), (2), []⟩ : AskV))) (1) ([(⟨(⟨1, 1⟩ : Dot), [], false, ⟨#[]⟩⟩ : Ver)])).1)) (2) ([])).1)).vers)) ([(⟨(⟨1, 1⟩ : Dot), [], false, ⟨#[]⟩⟩ : Ver)]))) hgr_171)
      refine WR.v (v := .bool (r5Same (((((AskV.gotv (((AskV.gotv (((⟨([1, 2]), (2), []⟩ : AskV))) (1) ([(⟨(⟨1, 1⟩ : Dot), [], false, ⟨#[]⟩⟩ : Ver)])).1)) (2) ([])).1)).vers)) ([(⟨(⟨1, 1⟩ : Dot), [], false, ⟨#[]⟩⟩ : Ver)]))) rfl rfl rfl ?_ ?_
      · refine QV.qo ?_; exact q_move rfl (by kernel_rfl)
      have hgr_183 : ((r5Same (((((AskV.gotv (((AskV.gotv (((⟨([1, 2]), (2), []⟩ : AskV))) (1) ([(⟨(⟨1, 1⟩ : Dot), [], false, ⟨#[]⟩⟩ : Ver)])).1)) (2) ([])).1)).vers)) ([(⟨(⟨1, 1⟩ : Dot), [], false, ⟨#[]⟩⟩ : Ver)])) : Bool) = true := by kernel_rfl
      refine WR.g1 (v := .slice A_149 ((((AskV.gotv (((AskV.gotv (((⟨([1, 2]), (2), []⟩ : AskV))) (1) ([(⟨(⟨1, 1⟩ : Dot), [], false, ⟨#[]⟩⟩ : Ver)])).1)) (2) ([])).1)).behind).length c_150) (c0 := true) (g := (r5Same (((((AskV.gotv (((AskV.gotv (((⟨([1, 2]), (2), []⟩ : AskV))) (1) ([(⟨(⟨1, 1⟩ : Dot), [], false, ⟨#[]⟩⟩ : Ver)])).1)) (2) ([])).1)).vers)) ([(⟨(⟨1, 1⟩ : Dot), [], false, ⟨#[]⟩⟩ : Ver)]))) rfl rfl (by kernel_rfl) rfl rfl (fun hc_184 => ?_) ?_
      · refine QV.qo ?_; exact q_move rfl (by kernel_rfl)
      refine WR.g1 (v := .int .i64 ((((((AskV.gotv (((AskV.gotv (((⟨([1, 2]), (2), []⟩ : AskV))) (1) ([(⟨(⟨1, 1⟩ : Dot), [], false, ⟨#[]⟩⟩ : Ver)])).1)) (2) ([])).1)).behind).length : Nat) : Int)) (c0 := true) (g := (r5Same (((((AskV.gotv (((AskV.gotv (((⟨([1, 2]), (2), []⟩ : AskV))) (1) ([(⟨(⟨1, 1⟩ : Dot), [], false, ⟨#[]⟩⟩ : Ver)])).1)) (2) ([])).1)).vers)) ([(⟨(⟨1, 1⟩ : Dot), [], false, ⟨#[]⟩⟩ : Ver)]))) rfl rfl (by kernel_rfl) rfl rfl (fun hc_185 => ?_) ?_
      · refine QV.qo ?_; exact q_len_slice (A := A_149) (n := ((((AskV.gotv (((AskV.gotv (((⟨([1, 2]), (2), []⟩ : AskV))) (1) ([(⟨(⟨1, 1⟩ : Dot), [], false, ⟨#[]⟩⟩ : Ver)])).1)) (2) ([])).1)).behind).length) (c := c_150) rfl Try.underlying22 (gv_of hc_185)
      refine WR.g1 (v := .bool (((((((AskV.gotv (((AskV.gotv (((⟨([1, 2]), (2), []⟩ : AskV))) (1) ([(⟨(⟨1, 1⟩ : Dot), [], false, ⟨#[]⟩⟩ : Ver)])).1)) (2) ([])).1)).behind).length : Nat) : Int) == 1)) (c0 := true) (g := (r5Same (((((AskV.gotv (((AskV.gotv (((⟨([1, 2]), (2), []⟩ : AskV))) (1) ([(⟨(⟨1, 1⟩ : Dot), [], false, ⟨#[]⟩⟩ : Ver)])).1)) (2) ([])).1)).vers)) ([(⟨(⟨1, 1⟩ : Dot), [], false, ⟨#[]⟩⟩ : Ver)]))) rfl rfl (by kernel_rfl) rfl rfl (fun hc_186 => ?_) ?_
      · refine QV.qo ?_; exact q_eql (k := .i64) (a := ((((((AskV.gotv (((AskV.gotv (((⟨([1, 2]), (2), []⟩ : AskV))) (1) ([(⟨(⟨1, 1⟩ : Dot), [], false, ⟨#[]⟩⟩ : Ver)])).1)) (2) ([])).1)).behind).length : Nat) : Int)) (b := 1) rfl (gv_of hc_186) (by kernel_rfl)
      have hgr_187 : ((true && (r5Same (((((AskV.gotv (((AskV.gotv (((⟨([1, 2]), (2), []⟩ : AskV))) (1) ([(⟨(⟨1, 1⟩ : Dot), [], false, ⟨#[]⟩⟩ : Ver)])).1)) (2) ([])).1)).vers)) ([(⟨(⟨1, 1⟩ : Dot), [], false, ⟨#[]⟩⟩ : Ver)]))) : Bool) = true := by kernel_rfl
      refine WR.v (v := .bool (((((((AskV.gotv (((AskV.gotv (((⟨([1, 2]), (2), []⟩ : AskV))) (1) ([(⟨(⟨1, 1⟩ : Dot), [], false, ⟨#[]⟩⟩ : Ver)])).1)) (2) ([])).1)).behind).length : Nat) : Int) == 1)) rfl rfl rfl ?_ ?_
      · refine QV.qo ?_; exact q_pick_t (g := (r5Same (((((AskV.gotv (((AskV.gotv (((⟨([1, 2]), (2), []⟩ : AskV))) (1) ([(⟨(⟨1, 1⟩ : Dot), [], false, ⟨#[]⟩⟩ : Ver)])).1)) (2) ([])).1)).vers)) ([(⟨(⟨1, 1⟩ : Dot), [], false, ⟨#[]⟩⟩ : Ver)]))) rfl (by kernel_rfl) hgr_183 (gv_of (c := (true && (r5Same (((((AskV.gotv (((AskV.gotv (((⟨([1, 2]), (2), []⟩ : AskV))) (1) ([(⟨(⟨1, 1⟩ : Dot), [], false, ⟨#[]⟩⟩ : Ver)])).1)) (2) ([])).1)).vers)) ([(⟨(⟨1, 1⟩ : Dot), [], false, ⟨#[]⟩⟩ : Ver)])))) (v := .bool (((((((AskV.gotv (((AskV.gotv (((⟨([1, 2]), (2), []⟩ : AskV))) (1) ([(⟨(⟨1, 1⟩ : Dot), [], false, ⟨#[]⟩⟩ : Ver)])).1)) (2) ([])).1)).behind).length : Nat) : Int) == 1)) hgr_187)
      refine WR.v (v := .bool (((((((AskV.gotv (((AskV.gotv (((⟨([1, 2]), (2), []⟩ : AskV))) (1) ([(⟨(⟨1, 1⟩ : Dot), [], false, ⟨#[]⟩⟩ : Ver)])).1)) (2) ([])).1)).behind).length : Nat) : Int) == 1)) rfl rfl rfl ?_ ?_
      · refine QV.qo ?_; exact q_move rfl (by kernel_rfl)
      have hgr_188 : ((((((((AskV.gotv (((AskV.gotv (((⟨([1, 2]), (2), []⟩ : AskV))) (1) ([(⟨(⟨1, 1⟩ : Dot), [], false, ⟨#[]⟩⟩ : Ver)])).1)) (2) ([])).1)).behind).length : Nat) : Int) == 1) : Bool) = true := by kernel_rfl
      refine WR.g1 (v := .slice A_149 ((((AskV.gotv (((AskV.gotv (((⟨([1, 2]), (2), []⟩ : AskV))) (1) ([(⟨(⟨1, 1⟩ : Dot), [], false, ⟨#[]⟩⟩ : Ver)])).1)) (2) ([])).1)).behind).length c_150) (c0 := true) (g := (((((((AskV.gotv (((AskV.gotv (((⟨([1, 2]), (2), []⟩ : AskV))) (1) ([(⟨(⟨1, 1⟩ : Dot), [], false, ⟨#[]⟩⟩ : Ver)])).1)) (2) ([])).1)).behind).length : Nat) : Int) == 1)) rfl rfl (by kernel_rfl) rfl rfl (fun hc_189 => ?_) ?_
      · refine QV.qo ?_; exact q_move rfl (by kernel_rfl)
      refine WR.g1 (v := ptrAt A_149 (0 * 1)) (c0 := true) (g := (((((((AskV.gotv (((AskV.gotv (((⟨([1, 2]), (2), []⟩ : AskV))) (1) ([(⟨(⟨1, 1⟩ : Dot), [], false, ⟨#[]⟩⟩ : Ver)])).1)) (2) ([])).1)).behind).length : Nat) : Int) == 1)) rfl rfl (by kernel_rfl) rfl rfl (fun hc_190 => ?_) ?_
      · refine QV.qo ?_; exact q_index_addr (k := .i64) (A := A_149) (n := ((((AskV.gotv (((AskV.gotv (((⟨([1, 2]), (2), []⟩ : AskV))) (1) ([(⟨(⟨1, 1⟩ : Dot), [], false, ⟨#[]⟩⟩ : Ver)])).1)) (2) ([])).1)).behind).length) (c := c_150) (i := 0) rfl Try.underlying22 Try.sizeOf3 (gv_of hc_190) (by kernel_rfl) (by first | omega | (simp at hc_190; omega)) (Sl.some_ (hs_151.step hst_174) (k := 0) (by first | omega | (simp at hc_190; omega)))
      refine WR.g1 (v := .int .i64 (gt ((((AskV.gotv (((AskV.gotv (((⟨([1, 2]), (2), []⟩ : AskV))) (1) ([(⟨(⟨1, 1⟩ : Dot), [], false, ⟨#[]⟩⟩ : Ver)])).1)) (2) ([])).1)).behind) 0)) (c0 := true) (g := (((((((AskV.gotv (((AskV.gotv (((⟨([1, 2]), (2), []⟩ : AskV))) (1) ([(⟨(⟨1, 1⟩ : Dot), [], false, ⟨#[]⟩⟩ : Ver)])).1)) (2) ([])).1)).behind).length : Nat) : Int) == 1)) rfl rfl (by kernel_rfl) rfl rfl (fun hc_191 => ?_) ?_
      · refine QV.qo ?_; exact q_load_cell (A := A_149) (j := 0 * 1) (v := .int .i64 (gt ((((AskV.gotv (((AskV.gotv (((⟨([1, 2]), (2), []⟩ : AskV))) (1) ([(⟨(⟨1, 1⟩ : Dot), [], false, ⟨#[]⟩⟩ : Ver)])).1)) (2) ([])).1)).behind) 0)) rfl Try.isAgg3 (gv_of hc_191) (Sl.intT_0 (hs_151.step hst_174) (i := 0) (by first | omega | (simp at hc_191; omega)))
      refine WR.g1 (v := .bool ((gt ((((AskV.gotv (((AskV.gotv (((⟨([1, 2]), (2), []⟩ : AskV))) (1) ([(⟨(⟨1, 1⟩ : Dot), [], false, ⟨#[]⟩⟩ : Ver)])).1)) (2) ([])).1)).behind) 0) == 2)) (c0 := true) (g := (((((((AskV.gotv (((AskV.gotv (((⟨([1, 2]), (2), []⟩ : AskV))) (1) ([(⟨(⟨1, 1⟩ : Dot), [], false, ⟨#[]⟩⟩ : Ver)])).1)) (2) ([])).1)).behind).length : Nat) : Int) == 1)) rfl rfl (by kernel_rfl) rfl rfl (fun hc_192 => ?_) ?_
      · refine QV.qo ?_; exact q_eql (k := .i64) (a := (gt ((((AskV.gotv (((AskV.gotv (((⟨([1, 2]), (2), []⟩ : AskV))) (1) ([(⟨(⟨1, 1⟩ : Dot), [], false, ⟨#[]⟩⟩ : Ver)])).1)) (2) ([])).1)).behind) 0)) (b := 2) rfl (gv_of hc_192) (by kernel_rfl)
      have hgr_193 : ((true && (((((((AskV.gotv (((AskV.gotv (((⟨([1, 2]), (2), []⟩ : AskV))) (1) ([(⟨(⟨1, 1⟩ : Dot), [], false, ⟨#[]⟩⟩ : Ver)])).1)) (2) ([])).1)).behind).length : Nat) : Int) == 1)) : Bool) = true := by kernel_rfl
      refine WR.v (v := .bool ((gt ((((AskV.gotv (((AskV.gotv (((⟨([1, 2]), (2), []⟩ : AskV))) (1) ([(⟨(⟨1, 1⟩ : Dot), [], false, ⟨#[]⟩⟩ : Ver)])).1)) (2) ([])).1)).behind) 0) == 2)) rfl rfl rfl ?_ ?_
      · refine QV.qo ?_; exact q_pick_t (g := (((((((AskV.gotv (((AskV.gotv (((⟨([1, 2]), (2), []⟩ : AskV))) (1) ([(⟨(⟨1, 1⟩ : Dot), [], false, ⟨#[]⟩⟩ : Ver)])).1)) (2) ([])).1)).behind).length : Nat) : Int) == 1)) rfl (by kernel_rfl) hgr_188 (gv_of (c := (true && (((((((AskV.gotv (((AskV.gotv (((⟨([1, 2]), (2), []⟩ : AskV))) (1) ([(⟨(⟨1, 1⟩ : Dot), [], false, ⟨#[]⟩⟩ : Ver)])).1)) (2) ([])).1)).behind).length : Nat) : Int) == 1))) (v := .bool ((gt ((((AskV.gotv (((AskV.gotv (((⟨([1, 2]), (2), []⟩ : AskV))) (1) ([(⟨(⟨1, 1⟩ : Dot), [], false, ⟨#[]⟩⟩ : Ver)])).1)) (2) ([])).1)).behind) 0) == 2)) hgr_193)
      refine WR.v (v := .bool ((gt ((((AskV.gotv (((AskV.gotv (((⟨([1, 2]), (2), []⟩ : AskV))) (1) ([(⟨(⟨1, 1⟩ : Dot), [], false, ⟨#[]⟩⟩ : Ver)])).1)) (2) ([])).1)).behind) 0) == 2)) rfl rfl rfl ?_ ?_
      · refine QV.qo ?_; exact q_assign rfl (by kernel_rfl)
      refine WR.nil ?_
      change WC _ _ _ _ _ _
      refine WC.ret ?_
      intro w hw
      refine ⟨congrArg Ending.returned (congrArg (Value.bool) ?_), hw.frE⟩
      show ((gt ((((AskV.gotv (((AskV.gotv (((⟨([1, 2]), (2), []⟩ : AskV))) (1) ([(⟨(⟨1, 1⟩ : Dot), [], false, ⟨#[]⟩⟩ : Ver)])).1)) (2) ([])).1)).behind) 0) == 2) = true
      kernel_rfl
end Fw
end Go.Proofs.Ytlbdlkgboliikaa
