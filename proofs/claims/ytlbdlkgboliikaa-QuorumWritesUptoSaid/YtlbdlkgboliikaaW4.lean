/- Walks through the functions that the law reaches. No condition. -/
import Derived.Test.YtlbdlkgboliikaaW3
namespace Go.Proofs.Ytlbdlkgboliikaa
namespace Fw
set_option linter.unusedVariables false
set_option linter.unusedSimpArgs false
open Go.RowKit
set_option maxRecDepth 100000 in
set_option maxHeartbeats 1000000 in
theorem QuorumWrites_ok (w0 : World) (X : Nat → Prop) (Alist : Option Addr) (clist : Nat) (list : (List Int)) (hlist : Sl intT X w0 Alist list) (hclist : list.length ≤ clist) (need : Int) (hneed : I64 need) (Aacks : Option Addr) (cacks : Nat) (acks : (List Int)) (hacks : Sl intT X w0 Aacks acks) (hcacks : acks.length ≤ cacks) (hX : ∀ k, X k → k < w0.heap.size) : Calls Try.prog 3 #[.slice Alist list.length clist, .int .i64 need, .slice Aacks acks.length cacks] w0 fun e w' => e = .returned (.bool (true)) ∧ Fr no w0 w' := by
  have hlistl := hlist.le_
  have hacksl := hacks.le_
  refine calls_of (N := 77) (rs := [6]) (args := [.slice Alist list.length clist, .int .i64 need, .slice Aacks acks.length cacks]) Try.func3 rfl Try.ntmps3 Try.results3 rfl ?_
  refine WC.here (C := CC no w0 X w0 []) ?_ (Cur.start w0 X)
  refine WC.seq ?_
  refine WC.region ?_
  refine WR.v (v := .bool false) rfl rfl rfl ?_ ?_
  · refine QV.qo ?_; exact q_assign rfl (by kernel_rfl)
  refine WR.nil ?_
  change WC _ _ _ _ _ _
  refine WC.seq ?_
  refine WC.region ?_
  refine WR.v (v := .slice Alist list.length clist) rfl rfl rfl ?_ ?_
  · refine QV.qo ?_; exact q_move rfl (by kernel_rfl)
  refine WR.v (v := .int .i64 need) rfl rfl rfl ?_ ?_
  · refine QV.qo ?_; exact q_move rfl (by kernel_rfl)
  refine WR.sub (C' := CC no w0 X w0 ([] ++ [])) (fun w hw => hw) ?_
  refine e_call_eff (U := []) (R := []) (args := #[.slice Alist list.length clist, .int .i64 need]) (f := 7) (Res := NewWrite_ok_res (list) (need)) rfl rfl (fun w => call_run (ty := 0) Try.call7 rfl rfl (by kernel_rfl) w) hX (X0 := X) (fun _ h => h) (fun w X' hs_ hl_ hp_ => NewWrite_ok w X' Alist clist (list) (Sl.step hlist hs_) hclist (need) hneed hp_ hl_) ?_
  intro X_1 B_2 U' v hst_3 hxx_4 hxl_5 hres
  obtain ⟨hr_6, hr_7⟩ := hres
  cases hb_8 : (qOk (list) (need) : Bool) with
  | true =>
    have hfk_9 : ((r16Right (list) (need)) : Bool) = true := (qOk_eq list need ▸ hb_8)
    obtain ⟨g_10, row_11, rfl, rfl, hob_12, _⟩ := (hr_6 hb_8)
    change WR _ _ _ (CC _ _ X_1 B_2 [row_11]) _ _ _
    refine WR.v (v := .tuple #[.pointer (some ⟨g_10, 0, none⟩), .int .i64 (0)]) rfl rfl rfl ?_ ?_
    · refine QV.qo ?_; exact q_move rfl (by kernel_rfl)
    refine WR.v (v := .pointer (some ⟨g_10, 0, none⟩)) rfl rfl rfl ?_ ?_
    · refine QV.qo ?_; exact q_extract (vs := #[.pointer (some ⟨g_10, 0, none⟩), .int .i64 (0)]) rfl (by kernel_rfl) rfl
    refine WR.v (v := .int .i64 (0)) rfl rfl rfl ?_ ?_
    · refine QV.qo ?_; exact q_extract (vs := #[.pointer (some ⟨g_10, 0, none⟩), .int .i64 (0)]) rfl (by kernel_rfl) rfl
    refine WR.v (v := .pointer (some ⟨g_10, 0, none⟩)) rfl rfl rfl ?_ ?_
    · refine QV.qo ?_; exact q_assign rfl (by kernel_rfl)
    refine WR.v (v := .int .i64 (0)) rfl rfl rfl ?_ ?_
    · refine QV.qo ?_; exact q_assign rfl (by kernel_rfl)
    refine WR.nil ?_
    change WC _ _ _ _ _ _
    refine WC.seq ?_
    refine WC.seq ?_
    refine WC.region ?_
    refine WR.v (v := .bool true) rfl rfl rfl ?_ ?_
    · exact q_call (args := #[]) Try.call8 rfl (by kernel_rfl) (fun w hw => awake16_ok w no  (fun _ h => h.elim))
    refine WR.v (v := .bool (!true)) rfl rfl rfl ?_ ?_
    · refine QV.qo ?_; exact q_not (g := true) rfl (by kernel_rfl)
    refine WR.v (v := .bool (!true)) rfl rfl rfl ?_ ?_
    · refine QV.qo ?_; exact q_move rfl (by kernel_rfl)
    refine WR.g0 (v := .slice Alist list.length clist) (c0 := true) (g := (!true)) rfl rfl (by kernel_rfl) rfl rfl (fun hc_14 => ?_) ?_
    · refine QV.qo ?_; exact q_move rfl (by kernel_rfl)
    refine WR.g0 (v := .int .i64 need) (c0 := true) (g := (!true)) rfl rfl (by kernel_rfl) rfl rfl (fun hc_15 => ?_) ?_
    · refine QV.qo ?_; exact q_move rfl (by kernel_rfl)
    refine WR.g0 (v := .bool (r16Right (list) (need))) (c0 := true) (g := (!true)) rfl rfl (by kernel_rfl) rfl rfl (fun hc_16 => ?_) ?_
    · exact q_call (args := #[.slice Alist list.length clist, .int .i64 need]) Try.call9 rfl (by exact args2 (gv_of hc_16) (gv_of hc_16)) (fun w hw => r16_Right_ok w no Alist clist (list) (Sl.step (hlist.step hst_3) (hw.st0.trans (St.to_no _ _))) hclist (need) hneed (fun _ h => h.elim))
    refine WR.g0 (v := .bool (!(r16Right (list) (need)))) (c0 := true) (g := (!true)) rfl rfl (by kernel_rfl) rfl rfl (fun hc_17 => ?_) ?_
    · refine QV.qo ?_; exact q_not (g := (r16Right (list) (need))) rfl (gv_of hc_17)
    refine WR.v (v := .bool (!(r16Right (list) (need)))) rfl rfl rfl ?_ ?_
    · refine QV.qo ?_; exact q_pick_f (g := (!true)) rfl (by kernel_rfl) rfl (gv_of (c := (true && !(!true))) (v := .bool (!(r16Right (list) (need)))) (by simp []))
    refine WR.nil ?_
    change WC _ _ _ _ _ _
    have htr_18 : ((!(r16Right (list) (need))) : Bool) = false := (by simp only [hfk_9]; rfl)
    refine WC.cond (b := (!(r16Right (list) (need)))) (by kernel_rfl) ?_ ?_
    · skip
      intro hb_19; exact absurd (hb_19.symm.trans htr_18) (by decide)
    · skip
      intro _
      refine WC.skip ?_
      change WC _ _ _ _ _ _
      refine WC.seq ?_
      refine WC.seq ?_
      refine WC.region ?_
      refine WR.v (v := .pointer (some ⟨g_10, 0, none⟩)) rfl rfl rfl ?_ ?_
      · refine QV.qo ?_; exact q_move rfl (by kernel_rfl)
      refine WR.v (v := .bool false) rfl rfl rfl ?_ ?_
      · refine QV.qo ?_; exact q_ptr_eql (a := (some ⟨g_10, 0, none⟩)) Try.underlying23 rfl (by kernel_rfl) (by kernel_rfl)
      refine WR.v (v := .bool false) rfl rfl rfl ?_ ?_
      · refine QV.qo ?_; exact q_move rfl (by kernel_rfl)
      refine WR.g0 (v := .int .i64 (0)) (c0 := true) (g := false) rfl rfl (by kernel_rfl) rfl rfl (fun hc_20 => ?_) ?_
      · refine QV.qo ?_; exact q_move rfl (by kernel_rfl)
      refine WR.g0 (v := .bool false) (c0 := true) (g := false) rfl rfl (by kernel_rfl) rfl rfl (fun hc_21 => ?_) ?_
      · refine QV.qo ?_; exact q_neq (k := .i64) (a := (0)) (b := 0) rfl (gv_of hc_21) (by kernel_rfl)
      refine WR.v (v := .bool false) rfl rfl rfl ?_ ?_
      · refine QV.qo ?_; exact q_pick_f (g := false) rfl (by kernel_rfl) rfl (gv_of (c := (true && !false)) (v := .bool false) (by simp []))
      refine WR.nil ?_
      change WC _ _ _ _ _ _
      refine WC.cond (b := false) (by kernel_rfl) ?_ ?_
      · skip
        intro hb_22; exact absurd (hb_22.symm.trans rfl) (by decide)
      · skip
        intro _
        refine WC.skip ?_
        change WC _ _ _ _ _ _
        refine WC.seq ?_
        refine WC.region ?_
        refine WR.v (v := .slice Alist list.length clist) rfl rfl rfl ?_ ?_
        · refine QV.qo ?_; exact q_move rfl (by kernel_rfl)
        refine WR.v (v := .int .i64 need) rfl rfl rfl ?_ ?_
        · refine QV.qo ?_; exact q_move rfl (by kernel_rfl)
        refine WR.sub (C' := CC no w0 X_1 B_2 ([] ++ [row_11])) (fun w hw => hw) ?_
        refine e_call_eff (U := []) (R := [row_11]) (args := #[.slice Alist list.length clist, .int .i64 need]) (f := 10) (Res := r16_New_ok_res (list) (need)) rfl rfl (fun w => call_run (ty := 0) Try.call10 rfl rfl (by kernel_rfl) w) hxl_5 (X0 := X) hxx_4 (fun w X' hs_ hl_ hp_ => r16_New_ok w X' Alist clist (list) (Sl.step (hlist.step hst_3) hs_) hclist (need) hneed hp_ hl_) ?_
        intro X_23 B_24 U' v hst_25 hxx_26 hxl_27 hres
        obtain ⟨g_28, row_29, rfl, rfl, hob_30, _⟩ := hres
        change WR _ _ _ (CC _ _ X_23 B_24 [row_29, row_11]) _ _ _
        refine WR.v (v := .pointer (some ⟨g_28, 0, none⟩)) rfl rfl rfl ?_ ?_
        · refine QV.qo ?_; exact q_assign rfl (by kernel_rfl)
        refine WR.nil ?_
        change WC _ _ _ _ _ _
        refine WC.seq ?_
        refine WC.seq ?_
        refine WC.region ?_
        refine WR.v (v := .int .i64 0) rfl rfl rfl ?_ ?_
        · refine QV.qo ?_; exact q_assign rfl (by kernel_rfl)
        refine WR.nil ?_
        change WC _ _ _ _ _ _
        refine WC.block ?_
        refine WC.loop (fun (m : Nat) (σ : Env) (w1 : World) => ∃ (k32 : Nat)  (xw : AskB) (row_xw32 : Rowb) (xa : Ask16) (row_xa32 : Rowb) (X_33 : Nat → Prop) (B_34 : World), m = acks.length - k32 ∧ (k32 ≤ acks.length) ∧ (RelB xw xa) ∧ (σ 2 = .slice Aacks acks.length cacks ∧ σ 7 = .pointer (some ⟨g_10, 0, none⟩) ∧ σ 9 = .pointer (some ⟨g_28, 0, none⟩) ∧ σ 10 = .int .i64 ((k32 : Nat) : Int)) ∧ St X_23 B_24 X_33 B_34 ∧ (∀ k, X k → X_33 k) ∧ (∀ k, X_33 k → k < B_34.heap.size) ∧ AskB.ob 72 X_33 B_34 g_10 row_xw32 xw ∧ Ask16.ob 76 X_33 B_34 g_28 row_xa32 xa ∧ CC no w0 X_33 B_34 [row_xa32, row_xw32] w1) ?_ ?_
        · intro w1 hw
          exact ⟨_, 0, ((⟨(list), (need), []⟩ : AskB)), row_11, (r16New (list) (need)), row_29, X_23, B_24, rfl, (by first | trivial | omega), (RelB.new (by assumption)), ⟨by kernel_rfl, by kernel_rfl, by kernel_rfl, by kernel_rfl⟩, St.refl _ _, hxx_26, hxl_27, (hob_12.step hst_25), hob_30, hw⟩
        intro m32 σ32 w1 hI
        obtain ⟨k32, xw, row_xw32, xa, row_xa32, X_33, B_34, rfl, hk32, hrel32, ⟨h32_2, h32_7, h32_9, h32_10⟩, hst_35, hxx_36, hxl_37, ho_xw32, ho_xa32, hw⟩ := hI
        refine WC.here (C := CC no w0 X_33 B_34 [row_xa32, row_xw32]) ?_ hw
        clear hw
        refine WC.seq ?_
        refine WC.seq ?_
        refine WC.region ?_
        refine WR.v (v := .int .i64 ((k32 : Nat) : Int)) rfl rfl rfl ?_ ?_
        · refine QV.qo ?_; exact q_move rfl h32_10
        refine WR.v (v := .slice Aacks acks.length cacks) rfl rfl rfl ?_ ?_
        · refine QV.qo ?_; exact q_move rfl h32_2
        refine WR.v (v := .int .i64 ((acks.length : Nat) : Int)) rfl rfl rfl ?_ ?_
        · refine QV.qo ?_; exact q_len_slice (A := Aacks) (n := acks.length) (c := cacks) rfl Try.underlying22 (by kernel_rfl)
        refine WR.v (v := .bool (decide (((k32 : Nat) : Int) < ((acks.length : Nat) : Int)))) rfl rfl rfl ?_ ?_
        · refine QV.qo ?_; exact q_lss (k := .i64) (a := ((k32 : Nat) : Int)) (b := ((acks.length : Nat) : Int)) rfl (by kernel_rfl) (by kernel_rfl)
        refine WR.nil ?_
        change WC _ _ _ _ _ _
        refine WC.cond (b := (decide (((k32 : Nat) : Int) < ((acks.length : Nat) : Int)))) (by kernel_rfl) ?_ ?_
        · skip
          intro hb_40t
          have hp_41 := of_decide_eq_true hb_40t
          refine WC.skip ?_
          change WC _ _ _ _ _ _
          refine WC.seq ?_
          refine WC.block ?_
          refine WC.seq ?_
          intro w hw; have hsep_42 := hw.sepB
          refine WC.here (C := CC no w0 X_33 B_34 [row_xa32, row_xw32]) ?_ hw; clear hw
          have hsep_43 : ∀ r ∈ ([] : List Rowb), ∀ p ∈ r, X_33 p.1 ∨ B_34.heap.size ≤ p.1 := fun r hr => hsep_42 r (List.Sublist.subset (.cons _ (.cons _ .slnil)) hr)
          refine WC.held (CC no w0 X_33 B_34 []) (by kernel_rfl) (fun w hw => hw.drawn _) ?_
          change WH _ _ _ _ (CC _ _ _ _ [row_xa32, row_xw32]) _ 28 #[false, false, false, false, false, false, false, false, false, false, false, false, false, false, false, false, false, false, false, false, false, false, false, false, false, false, false, false] _
          refine WH.take (i := 0) (v := .pointer (some ⟨g_10, 0, none⟩)) rfl (by kernel_rfl) (by kernel_rfl) (by kernel_rfl) rfl rfl rfl (fun w hw => Cur.back hw (St.refl _ _) (.cons _ (.cons _ .slnil)) hsep_43) ?_ ?_
          · exact q_move rfl h32_7
          refine WH.take (i := 1) (v := .slice Aacks acks.length cacks) rfl (by kernel_rfl) (by kernel_rfl) (by kernel_rfl) rfl rfl rfl (fun w hw => Cur.back hw (St.refl _ _) (.cons _ (.cons _ .slnil)) hsep_43) ?_ ?_
          · exact q_move rfl h32_2
          refine WH.take (i := 2) (v := .int .i64 ((k32 : Nat) : Int)) rfl (by kernel_rfl) (by kernel_rfl) (by kernel_rfl) rfl rfl rfl (fun w hw => Cur.back hw (St.refl _ _) (.cons _ (.cons _ .slnil)) hsep_43) ?_ ?_
          · exact q_move rfl h32_10
          refine WH.take (i := 3) (v := ptrAt Aacks (k32 * 1)) rfl (by kernel_rfl) (by kernel_rfl) (by kernel_rfl) rfl rfl rfl (fun w hw => Cur.back hw (St.refl _ _) (.cons _ (.cons _ .slnil)) hsep_43) ?_ ?_
          · exact q_index_addr (k := .i64) (A := Aacks) (n := acks.length) (c := cacks) (i := k32) rfl Try.underlying22 Try.sizeOf3 (by kernel_rfl) (by kernel_rfl) (by omega) (Sl.some_ (((hacks.step hst_3).step hst_25).step hst_35) (k := k32) (by omega))
          refine WH.take (i := 4) (v := .int .i64 (gt acks k32)) rfl (by kernel_rfl) (by kernel_rfl) (by kernel_rfl) rfl rfl rfl (fun w hw => Cur.back hw (St.refl _ _) (.cons _ (.cons _ .slnil)) hsep_43) ?_ ?_
          · exact q_load_cell (A := Aacks) (j := k32 * 1) (v := .int .i64 (gt acks k32)) rfl Try.isAgg3 (by kernel_rfl) (Sl.intT_0 (((hacks.step hst_3).step hst_25).step hst_35) (i := k32) (by omega))
          refine WH.take (i := 6) (v := .pointer (some ⟨g_28, 0, none⟩)) rfl (by kernel_rfl) (by kernel_rfl) (by kernel_rfl) rfl rfl rfl (fun w hw => Cur.back hw (St.refl _ _) (.cons _ (.cons _ .slnil)) hsep_43) ?_ ?_
          · exact q_move rfl h32_9
          refine WH.take (i := 7) (v := .slice Aacks acks.length cacks) rfl (by kernel_rfl) (by kernel_rfl) (by kernel_rfl) rfl rfl rfl (fun w hw => Cur.back hw (St.refl _ _) (.cons _ (.cons _ .slnil)) hsep_43) ?_ ?_
          · exact q_move rfl h32_2
          refine WH.take (i := 8) (v := .int .i64 ((k32 : Nat) : Int)) rfl (by kernel_rfl) (by kernel_rfl) (by kernel_rfl) rfl rfl rfl (fun w hw => Cur.back hw (St.refl _ _) (.cons _ (.cons _ .slnil)) hsep_43) ?_ ?_
          · exact q_move rfl h32_10
          refine WH.take (i := 9) (v := ptrAt Aacks (k32 * 1)) rfl (by kernel_rfl) (by kernel_rfl) (by kernel_rfl) rfl rfl rfl (fun w hw => Cur.back hw (St.refl _ _) (.cons _ (.cons _ .slnil)) hsep_43) ?_ ?_
          · exact q_index_addr (k := .i64) (A := Aacks) (n := acks.length) (c := cacks) (i := k32) rfl Try.underlying22 Try.sizeOf3 (by kernel_rfl) (by kernel_rfl) (by omega) (Sl.some_ (((hacks.step hst_3).step hst_25).step hst_35) (k := k32) (by omega))
          refine WH.take (i := 10) (v := .int .i64 (gt acks k32)) rfl (by kernel_rfl) (by kernel_rfl) (by kernel_rfl) rfl rfl rfl (fun w hw => Cur.back hw (St.refl _ _) (.cons _ (.cons _ .slnil)) hsep_43) ?_ ?_
          · exact q_load_cell (A := Aacks) (j := k32 * 1) (v := .int .i64 (gt acks k32)) rfl Try.isAgg3 (by kernel_rfl) (Sl.intT_0 (((hacks.step hst_3).step hst_25).step hst_35) (i := k32) (by omega))
          refine WH.lone (i := 5) (by kernel_rfl) rfl ?_
          refine WR.sub (C' := CC no w0 X_33 B_34 ([row_xw32] ++ [row_xa32])) (fun w hw => hw.permL (List.perm_middle (l₁ := ([row_xa32] : List Rowb)) (a := (row_xw32 : Rowb)) (l₂ := ([] : List Rowb))).symm) ?_
          refine e_call_eff (U := [row_xw32]) (R := [row_xa32]) (args := #[.pointer (some ⟨g_10, 0, none⟩), .int .i64 (gt acks k32)]) (f := 11) (Res := Write_Ack_ok_res g_10 row_xw32 (xw) ((gt acks k32))) rfl rfl (fun w => call_run (ty := 0) Try.call11 rfl rfl (by kernel_rfl) w) hxl_37 (X0 := X) hxx_36 (fun w X' hs_ hl_ hp_ => Write_Ack_ok w X' g_10 row_xw32 (xw) ((ho_xw32).step hs_) ((gt acks k32)) (Sl.intT_fits (((hacks.step hst_3).step hst_25).step hst_35) (i := k32) (by omega)) hp_ hl_) ?_
          intro X_44 B_45 U' v hst_46 hxx_47 hxl_48 hres
          obtain ⟨row_49, rfl, rfl, hob_50, _⟩ := hres
          change WR _ _ _ (CC _ _ X_44 B_45 [row_49, row_xa32]) _ _ _
          refine WR.nil ?_
          refine WH.next (fun w hw => Cur.back hw hst_46 (.cons _ (.cons _ .slnil)) hsep_43) ?_
          refine WH.lone (i := 11) (by kernel_rfl) rfl ?_
          refine WR.sub (C' := CC no w0 X_44 B_45 ([row_xa32] ++ [row_49])) (fun w hw => hw.permL (List.perm_middle (l₁ := ([row_49] : List Rowb)) (a := (row_xa32 : Rowb)) (l₂ := ([] : List Rowb))).symm) ?_
          refine e_call_eff (U := [row_xa32]) (R := [row_49]) (args := #[.pointer (some ⟨g_28, 0, none⟩), .int .i64 (gt acks k32)]) (f := 12) (Res := r16_Ack_ok_res g_28 row_xa32 (xa) ((gt acks k32))) rfl rfl (fun w => call_run (ty := 0) Try.call12 rfl rfl (by kernel_rfl) w) hxl_48 (X0 := X) hxx_47 (fun w X' hs_ hl_ hp_ => r16_Ack_ok w X' g_28 row_xa32 (xa) (((ho_xa32.step hst_46)).step hs_) ((gt acks k32)) (Sl.intT_fits ((((hacks.step hst_3).step hst_25).step hst_35).step hst_46) (i := k32) (by omega)) hp_ hl_) ?_
          intro X_52 B_53 U' v hst_54 hxx_55 hxl_56 hres
          obtain ⟨row_57, rfl, rfl, hob_58, _⟩ := hres
          have hf_60 := ((((hlist.step hst_3).step hst_25).step hst_35).step hst_46).step hst_54
          have hf_61 := ((((hacks.step hst_3).step hst_25).step hst_35).step hst_46).step hst_54
          change WR _ _ _ (CC _ _ X_52 B_53 [row_57, row_49]) _ _ _
          refine WR.nil ?_
          refine WH.next (fun w hw => Cur.back hw (hst_46.trans hst_54) (.cons _ (.cons _ .slnil)) hsep_43) ?_
          refine WH.take (i := 12) (v := .bool (((AskB.count (xw) ((gt acks k32)) true).2) != (decide (0 ≤ (xa).place ((gt acks k32)))))) rfl (by kernel_rfl) (by kernel_rfl) (by kernel_rfl) rfl rfl rfl (fun w hw => Cur.back hw (hst_46.trans hst_54) (.cons _ (.cons _ .slnil)) hsep_43) ?_ ?_
          · exact q_bneq (a := ((AskB.count (xw) ((gt acks k32)) true).2)) (b := (decide (0 ≤ (xa).place ((gt acks k32))))) Try.underlying4 rfl (by kernel_rfl) (by kernel_rfl)
          refine WH.take (i := 13) (v := .bool (((AskB.count (xw) ((gt acks k32)) true).2) != (decide (0 ≤ (xa).place ((gt acks k32)))))) rfl (by kernel_rfl) (by kernel_rfl) (by kernel_rfl) rfl rfl rfl (fun w hw => Cur.back hw (hst_46.trans hst_54) (.cons _ (.cons _ .slnil)) hsep_43) ?_ ?_
          · exact q_move rfl (by kernel_rfl)
          refine WH.takeg0 (i := 14) (v := .pointer (some ⟨g_10, 0, none⟩)) (c0 := true) (g := (((AskB.count (xw) ((gt acks k32)) true).2) != (decide (0 ≤ (xa).place ((gt acks k32)))))) rfl (by kernel_rfl) (by kernel_rfl) (by kernel_rfl) rfl rfl (by kernel_rfl) rfl rfl (fun w hw => Cur.back hw (hst_46.trans hst_54) (.cons _ (.cons _ .slnil)) hsep_43) (fun hc_62 => ?_) ?_
          · exact q_move rfl h32_7
          refine WH.takeg0 (i := 16) (v := .pointer (some ⟨g_28, 0, none⟩)) (c0 := true) (g := (((AskB.count (xw) ((gt acks k32)) true).2) != (decide (0 ≤ (xa).place ((gt acks k32)))))) rfl (by kernel_rfl) (by kernel_rfl) (by kernel_rfl) rfl rfl (by kernel_rfl) rfl rfl (fun w hw => Cur.back hw (hst_46.trans hst_54) (.cons _ (.cons _ .slnil)) hsep_43) (fun hc_63 => ?_) ?_
          · exact q_move rfl h32_9
          refine WH.lone (i := 15) (by kernel_rfl) rfl ?_
          refine WR.g0 (v := .bool (decide ((((AskB.count (xw) ((gt acks k32)) true).1)).need ≤ ((((AskB.count (xw) ((gt acks k32)) true).1)).got.length : Int)))) (c0 := true) (g := (((AskB.count (xw) ((gt acks k32)) true).2) != (decide (0 ≤ (xa).place ((gt acks k32)))))) rfl rfl (by kernel_rfl) rfl rfl (fun hc_64 => ?_) ?_
          · exact q_call (args := #[.pointer (some ⟨g_10, 0, none⟩)]) Try.call13 rfl (by exact args1 (gv_of hc_64)) (fun w hw => NewWrite_Done_ok w _ g_10 row_49 (((AskB.count (xw) ((gt acks k32)) true).1)) (((hob_50.step hst_54)).step hw.st) (hw.preL.sub (.cons _ (.cons_cons _ .slnil))) (hw.mx_lt hxl_56))
          refine WR.nil ?_
          refine WH.next (fun w hw => Cur.back hw (hst_46.trans hst_54) (.cons _ (.cons _ .slnil)) hsep_43) ?_
          refine WH.lone (i := 17) (by kernel_rfl) rfl ?_
          refine WR.g0 (v := .bool (decide ((((xa).ack ((gt acks k32)))).need ≤ ((((xa).ack ((gt acks k32)))).list.length : Int) - ((((xa).ack ((gt acks k32)))).waits.length : Int)))) (c0 := true) (g := (((AskB.count (xw) ((gt acks k32)) true).2) != (decide (0 ≤ (xa).place ((gt acks k32)))))) rfl rfl (by kernel_rfl) rfl rfl (fun hc_65 => ?_) ?_
          · exact q_call (args := #[.pointer (some ⟨g_28, 0, none⟩)]) Try.call14 rfl (by exact args1 (gv_of hc_65)) (fun w hw => r16_Done_ok w _ g_28 row_57 (((xa).ack ((gt acks k32)))) ((hob_58).step hw.st) (hw.preL.sub (.cons_cons _ (.cons _ .slnil))) (hw.mx_lt hxl_56))
          refine WR.nil ?_
          refine WH.next (fun w hw => Cur.back hw (hst_46.trans hst_54) (.cons _ (.cons _ .slnil)) hsep_43) ?_
          refine WH.takeg0 (i := 18) (v := .bool ((decide ((((AskB.count (xw) ((gt acks k32)) true).1)).need ≤ ((((AskB.count (xw) ((gt acks k32)) true).1)).got.length : Int))) != (decide ((((xa).ack ((gt acks k32)))).need ≤ ((((xa).ack ((gt acks k32)))).list.length : Int) - ((((xa).ack ((gt acks k32)))).waits.length : Int))))) (c0 := true) (g := (((AskB.count (xw) ((gt acks k32)) true).2) != (decide (0 ≤ (xa).place ((gt acks k32)))))) rfl (by kernel_rfl) (by kernel_rfl) (by kernel_rfl) rfl rfl (by kernel_rfl) rfl rfl (fun w hw => Cur.back hw (hst_46.trans hst_54) (.cons _ (.cons _ .slnil)) hsep_43) (fun hc_66 => ?_) ?_
          · exact q_bneq (a := (decide ((((AskB.count (xw) ((gt acks k32)) true).1)).need ≤ ((((AskB.count (xw) ((gt acks k32)) true).1)).got.length : Int)))) (b := (decide ((((xa).ack ((gt acks k32)))).need ≤ ((((xa).ack ((gt acks k32)))).list.length : Int) - ((((xa).ack ((gt acks k32)))).waits.length : Int)))) Try.underlying4 rfl (gv_of hc_66) (gv_of hc_66)
          refine WH.take (i := 19) (v := .bool ((((AskB.count (xw) ((gt acks k32)) true).2) != (decide (0 ≤ (xa).place ((gt acks k32))))) || ((decide ((((AskB.count (xw) ((gt acks k32)) true).1)).need ≤ ((((AskB.count (xw) ((gt acks k32)) true).1)).got.length : Int))) != (decide ((((xa).ack ((gt acks k32)))).need ≤ ((((xa).ack ((gt acks k32)))).list.length : Int) - ((((xa).ack ((gt acks k32)))).waits.length : Int)))))) rfl (by kernel_rfl) (by kernel_rfl) (by kernel_rfl) rfl rfl rfl (fun w hw => Cur.back hw (hst_46.trans hst_54) (.cons _ (.cons _ .slnil)) hsep_43) ?_ ?_
          · exact q_pick (g := (((AskB.count (xw) ((gt acks k32)) true).2) != (decide (0 ≤ (xa).place ((gt acks k32)))))) rfl (by kernel_rfl) (pk_or (c := true) rfl)
          refine WH.take (i := 20) (v := .bool ((((AskB.count (xw) ((gt acks k32)) true).2) != (decide (0 ≤ (xa).place ((gt acks k32))))) || ((decide ((((AskB.count (xw) ((gt acks k32)) true).1)).need ≤ ((((AskB.count (xw) ((gt acks k32)) true).1)).got.length : Int))) != (decide ((((xa).ack ((gt acks k32)))).need ≤ ((((xa).ack ((gt acks k32)))).list.length : Int) - ((((xa).ack ((gt acks k32)))).waits.length : Int)))))) rfl (by kernel_rfl) (by kernel_rfl) (by kernel_rfl) rfl rfl rfl (fun w hw => Cur.back hw (hst_46.trans hst_54) (.cons _ (.cons _ .slnil)) hsep_43) ?_ ?_
          · exact q_move rfl (by kernel_rfl)
          refine WH.takeg0 (i := 21) (v := .pointer (some ⟨g_10, 0, none⟩)) (c0 := true) (g := ((((AskB.count (xw) ((gt acks k32)) true).2) != (decide (0 ≤ (xa).place ((gt acks k32))))) || ((decide ((((AskB.count (xw) ((gt acks k32)) true).1)).need ≤ ((((AskB.count (xw) ((gt acks k32)) true).1)).got.length : Int))) != (decide ((((xa).ack ((gt acks k32)))).need ≤ ((((xa).ack ((gt acks k32)))).list.length : Int) - ((((xa).ack ((gt acks k32)))).waits.length : Int)))))) rfl (by kernel_rfl) (by kernel_rfl) (by kernel_rfl) rfl rfl (by kernel_rfl) rfl rfl (fun w hw => Cur.back hw (hst_46.trans hst_54) (.cons _ (.cons _ .slnil)) hsep_43) (fun hc_67 => ?_) ?_
          · exact q_move rfl h32_7
          refine WH.takeg0 (i := 23) (v := .pointer (some ⟨g_28, 0, none⟩)) (c0 := true) (g := ((((AskB.count (xw) ((gt acks k32)) true).2) != (decide (0 ≤ (xa).place ((gt acks k32))))) || ((decide ((((AskB.count (xw) ((gt acks k32)) true).1)).need ≤ ((((AskB.count (xw) ((gt acks k32)) true).1)).got.length : Int))) != (decide ((((xa).ack ((gt acks k32)))).need ≤ ((((xa).ack ((gt acks k32)))).list.length : Int) - ((((xa).ack ((gt acks k32)))).waits.length : Int)))))) rfl (by kernel_rfl) (by kernel_rfl) (by kernel_rfl) rfl rfl (by kernel_rfl) rfl rfl (fun w hw => Cur.back hw (hst_46.trans hst_54) (.cons _ (.cons _ .slnil)) hsep_43) (fun hc_68 => ?_) ?_
          · exact q_move rfl h32_9
          refine WH.lone (i := 22) (by kernel_rfl) rfl ?_
          cases hg_69 : ((true && (bif false then ((((AskB.count (xw) ((gt acks k32)) true).2) != (decide (0 ≤ (xa).place ((gt acks k32))))) || ((decide ((((AskB.count (xw) ((gt acks k32)) true).1)).need ≤ ((((AskB.count (xw) ((gt acks k32)) true).1)).got.length : Int))) != (decide ((((xa).ack ((gt acks k32)))).need ≤ ((((xa).ack ((gt acks k32)))).list.length : Int) - ((((xa).ack ((gt acks k32)))).waits.length : Int))))) else !((((AskB.count (xw) ((gt acks k32)) true).2) != (decide (0 ≤ (xa).place ((gt acks k32))))) || ((decide ((((AskB.count (xw) ((gt acks k32)) true).1)).need ≤ ((((AskB.count (xw) ((gt acks k32)) true).1)).got.length : Int))) != (decide ((((xa).ack ((gt acks k32)))).need ≤ ((((xa).ack ((gt acks k32)))).list.length : Int) - ((((xa).ack ((gt acks k32)))).waits.length : Int))))))) : Bool) with
          | false =>
            have hg_70 : ((((AskB.count (xw) ((gt acks k32)) true).2) != (decide (0 ≤ (xa).place ((gt acks k32))))) || ((decide ((((AskB.count (xw) ((gt acks k32)) true).1)).need ≤ ((((AskB.count (xw) ((gt acks k32)) true).1)).got.length : Int))) != (decide ((((xa).ack ((gt acks k32)))).need ≤ ((((xa).ack ((gt acks k32)))).list.length : Int) - ((((xa).ack ((gt acks k32)))).waits.length : Int))))) = true := by cases h0 : (((((AskB.count (xw) ((gt acks k32)) true).2) != (decide (0 ≤ (xa).place ((gt acks k32))))) || ((decide ((((AskB.count (xw) ((gt acks k32)) true).1)).need ≤ ((((AskB.count (xw) ((gt acks k32)) true).1)).got.length : Int))) != (decide ((((xa).ack ((gt acks k32)))).need ≤ ((((xa).ack ((gt acks k32)))).list.length : Int) - ((((xa).ack ((gt acks k32)))).waits.length : Int))))) : Bool) <;> simp_all
            refine WR.unsat (c0 := true) (g := ((((AskB.count (xw) ((gt acks k32)) true).2) != (decide (0 ≤ (xa).place ((gt acks k32))))) || ((decide ((((AskB.count (xw) ((gt acks k32)) true).1)).need ≤ ((((AskB.count (xw) ((gt acks k32)) true).1)).got.length : Int))) != (decide ((((xa).ack ((gt acks k32)))).need ≤ ((((xa).ack ((gt acks k32)))).list.length : Int) - ((((xa).ack ((gt acks k32)))).waits.length : Int)))))) rfl rfl (by kernel_rfl) hg_69 rfl ?_
            refine WR.nil ?_
            refine WH.next (fun w hw => Cur.back hw (hst_46.trans hst_54) (.cons _ (.cons _ .slnil)) hsep_43) ?_
            refine WH.lone (i := 24) (by kernel_rfl) rfl ?_
            refine WR.unsat (c0 := true) (g := ((((AskB.count (xw) ((gt acks k32)) true).2) != (decide (0 ≤ (xa).place ((gt acks k32))))) || ((decide ((((AskB.count (xw) ((gt acks k32)) true).1)).need ≤ ((((AskB.count (xw) ((gt acks k32)) true).1)).got.length : Int))) != (decide ((((xa).ack ((gt acks k32)))).need ≤ ((((xa).ack ((gt acks k32)))).list.length : Int) - ((((xa).ack ((gt acks k32)))).waits.length : Int)))))) rfl rfl (by kernel_rfl) (by simp [hg_70]) rfl ?_
            refine WR.nil ?_
            refine WH.next (fun w hw => Cur.back hw (hst_46.trans hst_54) (.cons _ (.cons _ .slnil)) hsep_43) ?_
            refine WH.lone (i := 25) (by kernel_rfl) rfl ?_
            refine WR.unsat (c0 := true) (g := ((((AskB.count (xw) ((gt acks k32)) true).2) != (decide (0 ≤ (xa).place ((gt acks k32))))) || ((decide ((((AskB.count (xw) ((gt acks k32)) true).1)).need ≤ ((((AskB.count (xw) ((gt acks k32)) true).1)).got.length : Int))) != (decide ((((xa).ack ((gt acks k32)))).need ≤ ((((xa).ack ((gt acks k32)))).list.length : Int) - ((((xa).ack ((gt acks k32)))).waits.length : Int)))))) rfl rfl (by kernel_rfl) (by simp [hg_70]) rfl ?_
            refine WR.nil ?_
            refine WH.next (fun w hw => Cur.back hw (hst_46.trans hst_54) (.cons _ (.cons _ .slnil)) hsep_43) ?_
            refine WH.takeg0 (i := 26) (v := undef) (c0 := true) (g := ((((AskB.count (xw) ((gt acks k32)) true).2) != (decide (0 ≤ (xa).place ((gt acks k32))))) || ((decide ((((AskB.count (xw) ((gt acks k32)) true).1)).need ≤ ((((AskB.count (xw) ((gt acks k32)) true).1)).got.length : Int))) != (decide ((((xa).ack ((gt acks k32)))).need ≤ ((((xa).ack ((gt acks k32)))).list.length : Int) - ((((xa).ack ((gt acks k32)))).waits.length : Int)))))) rfl (by kernel_rfl) (by kernel_rfl) (by kernel_rfl) rfl rfl (by kernel_rfl) rfl rfl (fun w hw => Cur.back hw (hst_46.trans hst_54) (.cons _ (.cons _ .slnil)) hsep_43) (fun hc_71 => ?_) ?_
            · exact absurd hc_71 (by rw [show ((true && !((((AskB.count (xw) ((gt acks k32)) true).2) != (decide (0 ≤ (xa).place ((gt acks k32))))) || ((decide ((((AskB.count (xw) ((gt acks k32)) true).1)).need ≤ ((((AskB.count (xw) ((gt acks k32)) true).1)).got.length : Int))) != (decide ((((xa).ack ((gt acks k32)))).need ≤ ((((xa).ack ((gt acks k32)))).list.length : Int) - ((((xa).ack ((gt acks k32)))).waits.length : Int)))))) : Bool) = false from (by simp [hg_70])]; decide)
            refine WH.env (v := undef) (gv_false (by simp [hg_70])) ?_
            refine WH.take (i := 27) (v := .bool true) rfl (by kernel_rfl) (by kernel_rfl) (by kernel_rfl) rfl rfl rfl (fun w hw => Cur.back hw (hst_46.trans hst_54) (.cons _ (.cons _ .slnil)) hsep_43) ?_ ?_
            · exact q_pick_t (g := ((((AskB.count (xw) ((gt acks k32)) true).2) != (decide (0 ≤ (xa).place ((gt acks k32))))) || ((decide ((((AskB.count (xw) ((gt acks k32)) true).1)).need ≤ ((((AskB.count (xw) ((gt acks k32)) true).1)).got.length : Int))) != (decide ((((xa).ack ((gt acks k32)))).need ≤ ((((xa).ack ((gt acks k32)))).list.length : Int) - ((((xa).ack ((gt acks k32)))).waits.length : Int)))))) rfl (by kernel_rfl) hg_70 (by kernel_rfl)
            refine WH.done (by kernel_rfl) ?_
            change WC _ _ _ _ _ _
            refine WC.cond (b := true) (by kernel_rfl) ?_ ?_
            · skip
              intro _
              refine WC.seq ?_
              refine WC.region ?_
              refine WR.v (v := .bool false) rfl rfl rfl ?_ ?_
              · refine QV.qo ?_; exact q_assign rfl (by kernel_rfl)
              refine WR.nil ?_
              change WC _ _ _ _ _ _
              refine WC.ret ?_
              intro w hw
              refine ⟨congrArg Ending.returned (congrArg (Value.bool) ?_), hw.frE⟩
              show false = true
              exfalso
              have h1 := (hrel32).ack (gt acks k32)
              have h2 := (hrel32).step (gt acks k32)
              have h3 := h2.done
              have h4 := h2.waits
              first | (rw [h1, h3] at hg_70; simp at hg_70; done) | (rw [h1] at hg_70; simp at hg_70; done) | (rw [h4, intsM_refl] at hg_70; simp at hg_70; done) | (rw [h1, h3] at hp_41; simp at hp_41; done) | (rw [h1] at hp_41; simp at hp_41; done) | (rw [h4, intsM_refl] at hp_41; simp at hp_41; done)
            · skip
              intro hb_72; exact absurd (hb_72.symm.trans rfl) (by decide)
          | true =>
            have hg_73 : ((((AskB.count (xw) ((gt acks k32)) true).2) != (decide (0 ≤ (xa).place ((gt acks k32))))) || ((decide ((((AskB.count (xw) ((gt acks k32)) true).1)).need ≤ ((((AskB.count (xw) ((gt acks k32)) true).1)).got.length : Int))) != (decide ((((xa).ack ((gt acks k32)))).need ≤ ((((xa).ack ((gt acks k32)))).list.length : Int) - ((((xa).ack ((gt acks k32)))).waits.length : Int))))) = false := by cases h0 : (((((AskB.count (xw) ((gt acks k32)) true).2) != (decide (0 ≤ (xa).place ((gt acks k32))))) || ((decide ((((AskB.count (xw) ((gt acks k32)) true).1)).need ≤ ((((AskB.count (xw) ((gt acks k32)) true).1)).got.length : Int))) != (decide ((((xa).ack ((gt acks k32)))).need ≤ ((((xa).ack ((gt acks k32)))).list.length : Int) - ((((xa).ack ((gt acks k32)))).waits.length : Int))))) : Bool) <;> simp_all
            have hp_74 := (or_l hg_73)
            have hp_75 := (or_r hg_73)
            refine WR.sat (c0 := true) (g := ((((AskB.count (xw) ((gt acks k32)) true).2) != (decide (0 ≤ (xa).place ((gt acks k32))))) || ((decide ((((AskB.count (xw) ((gt acks k32)) true).1)).need ≤ ((((AskB.count (xw) ((gt acks k32)) true).1)).got.length : Int))) != (decide ((((xa).ack ((gt acks k32)))).need ≤ ((((xa).ack ((gt acks k32)))).list.length : Int) - ((((xa).ack ((gt acks k32)))).waits.length : Int)))))) rfl rfl (by kernel_rfl) hg_69 ?_
            refine e_call_look (args := #[.pointer (some ⟨g_10, 0, none⟩)]) (Res := NewWrite_Waits_ok_res (((AskB.count (xw) ((gt acks k32)) true).1))) rfl rfl rfl Try.call16 rfl (by exact args1 (gv_of (c := (true && !((((AskB.count (xw) ((gt acks k32)) true).2) != (decide (0 ≤ (xa).place ((gt acks k32))))) || ((decide ((((AskB.count (xw) ((gt acks k32)) true).1)).need ≤ ((((AskB.count (xw) ((gt acks k32)) true).1)).got.length : Int))) != (decide ((((xa).ack ((gt acks k32)))).need ≤ ((((xa).ack ((gt acks k32)))).list.length : Int) - ((((xa).ack ((gt acks k32)))).waits.length : Int))))))) (v := .pointer (some ⟨g_10, 0, none⟩)) (by simp [hg_73]))) hxl_56 (fun w X' hs_ hl_ hp_ => NewWrite_Waits_ok w X' g_10 row_49 (((AskB.count (xw) ((gt acks k32)) true).1)) (((hob_50.step hst_54)).step hs_) (hp_.sub (.cons _ (.cons_cons _ .slnil))) hl_) ?_
            intro X_76 B_77 v hst_78 hxx_79 hxl_80 hres
            obtain ⟨A_81, c_82, rfl, hs_83, hc_84⟩ := hres
            have hf_85 := ((((hob_12.step hst_25).step hst_35).step hst_46).step hst_54).step hst_78
            try have hs_83l := hs_83.le_
            change WR _ _ _ (CC _ _ X_76 B_77 [row_57, row_49]) _ _ _
            refine WR.nil ?_
            refine WH.next (fun w hw => Cur.back hw ((hst_46.trans hst_54).trans hst_78) (.cons _ (.cons _ .slnil)) hsep_43) ?_
            refine WH.lone (i := 24) (by kernel_rfl) rfl ?_
            refine WR.sat (c0 := true) (g := ((((AskB.count (xw) ((gt acks k32)) true).2) != (decide (0 ≤ (xa).place ((gt acks k32))))) || ((decide ((((AskB.count (xw) ((gt acks k32)) true).1)).need ≤ ((((AskB.count (xw) ((gt acks k32)) true).1)).got.length : Int))) != (decide ((((xa).ack ((gt acks k32)))).need ≤ ((((xa).ack ((gt acks k32)))).list.length : Int) - ((((xa).ack ((gt acks k32)))).waits.length : Int)))))) rfl rfl (by kernel_rfl) (by simp [hg_73]) ?_
            refine e_call_look (args := #[.pointer (some ⟨g_28, 0, none⟩)]) (Res := r16_Waits_ok_res (((xa).ack ((gt acks k32))))) rfl rfl rfl Try.call17 rfl (by exact args1 (gv_of (c := (true && !((((AskB.count (xw) ((gt acks k32)) true).2) != (decide (0 ≤ (xa).place ((gt acks k32))))) || ((decide ((((AskB.count (xw) ((gt acks k32)) true).1)).need ≤ ((((AskB.count (xw) ((gt acks k32)) true).1)).got.length : Int))) != (decide ((((xa).ack ((gt acks k32)))).need ≤ ((((xa).ack ((gt acks k32)))).list.length : Int) - ((((xa).ack ((gt acks k32)))).waits.length : Int))))))) (v := .pointer (some ⟨g_28, 0, none⟩)) (by simp [hg_73]))) hxl_80 (fun w X' hs_ hl_ hp_ => r16_Waits_ok w X' g_28 row_57 (((xa).ack ((gt acks k32)))) (((hob_58.step hst_78)).step hs_) (hp_.sub (.cons_cons _ (.cons _ .slnil))) hl_) ?_
            intro X_86 B_87 v hst_88 hxx_89 hxl_90 hres
            obtain ⟨A_91, c_92, rfl, hs_93, hc_94⟩ := hres
            have hf_95 := ((((hob_30.step hst_35).step hst_46).step hst_54).step hst_78).step hst_88
            try have hs_93l := hs_93.le_
            change WR _ _ _ (CC _ _ X_86 B_87 [row_57, row_49]) _ _ _
            refine WR.nil ?_
            refine WH.next (fun w hw => Cur.back hw (((hst_46.trans hst_54).trans hst_78).trans hst_88) (.cons _ (.cons _ .slnil)) hsep_43) ?_
            refine WH.lone (i := 25) (by kernel_rfl) rfl ?_
            refine WR.g0 (v := .bool (intsM (((((AskB.count (xw) ((gt acks k32)) true).1)).waits)) (((((xa).ack ((gt acks k32)))).waits)))) (c0 := true) (g := ((((AskB.count (xw) ((gt acks k32)) true).2) != (decide (0 ≤ (xa).place ((gt acks k32))))) || ((decide ((((AskB.count (xw) ((gt acks k32)) true).1)).need ≤ ((((AskB.count (xw) ((gt acks k32)) true).1)).got.length : Int))) != (decide ((((xa).ack ((gt acks k32)))).need ≤ ((((xa).ack ((gt acks k32)))).list.length : Int) - ((((xa).ack ((gt acks k32)))).waits.length : Int)))))) rfl rfl (by kernel_rfl) rfl rfl (fun hc_96 => ?_) ?_
            · exact q_call (args := #[.slice A_81 ((((AskB.count (xw) ((gt acks k32)) true).1)).waits).length c_82, .slice A_91 ((((xa).ack ((gt acks k32)))).waits).length c_92]) Try.call15 rfl (by kernel_rfl) (fun w hw => ref06_Ints_ok w no A_81 c_82 (((((AskB.count (xw) ((gt acks k32)) true).1)).waits)) (Sl.step (hs_83.step hst_88) (hw.st0.trans (St.to_no _ _))) hc_84 A_91 c_92 (((((xa).ack ((gt acks k32)))).waits)) (Sl.step hs_93 (hw.st0.trans (St.to_no _ _))) hc_94 (fun _ h => h.elim))
            refine WR.nil ?_
            refine WH.next (fun w hw => Cur.back hw (((hst_46.trans hst_54).trans hst_78).trans hst_88) (.cons _ (.cons _ .slnil)) hsep_43) ?_
            refine WH.takeg0 (i := 26) (v := .bool (!(intsM (((((AskB.count (xw) ((gt acks k32)) true).1)).waits)) (((((xa).ack ((gt acks k32)))).waits))))) (c0 := true) (g := ((((AskB.count (xw) ((gt acks k32)) true).2) != (decide (0 ≤ (xa).place ((gt acks k32))))) || ((decide ((((AskB.count (xw) ((gt acks k32)) true).1)).need ≤ ((((AskB.count (xw) ((gt acks k32)) true).1)).got.length : Int))) != (decide ((((xa).ack ((gt acks k32)))).need ≤ ((((xa).ack ((gt acks k32)))).list.length : Int) - ((((xa).ack ((gt acks k32)))).waits.length : Int)))))) rfl (by kernel_rfl) (by kernel_rfl) (by kernel_rfl) rfl rfl (by kernel_rfl) rfl rfl (fun w hw => Cur.back hw (((hst_46.trans hst_54).trans hst_78).trans hst_88) (.cons _ (.cons _ .slnil)) hsep_43) (fun hc_97 => ?_) ?_
            · exact q_not (g := (intsM (((((AskB.count (xw) ((gt acks k32)) true).1)).waits)) (((((xa).ack ((gt acks k32)))).waits)))) rfl (gv_of hc_97)
            refine WH.take (i := 27) (v := .bool (!(intsM (((((AskB.count (xw) ((gt acks k32)) true).1)).waits)) (((((xa).ack ((gt acks k32)))).waits))))) rfl (by kernel_rfl) (by kernel_rfl) (by kernel_rfl) rfl rfl rfl (fun w hw => Cur.back hw (((hst_46.trans hst_54).trans hst_78).trans hst_88) (.cons _ (.cons _ .slnil)) hsep_43) ?_ ?_
            · exact q_pick_f (g := ((((AskB.count (xw) ((gt acks k32)) true).2) != (decide (0 ≤ (xa).place ((gt acks k32))))) || ((decide ((((AskB.count (xw) ((gt acks k32)) true).1)).need ≤ ((((AskB.count (xw) ((gt acks k32)) true).1)).got.length : Int))) != (decide ((((xa).ack ((gt acks k32)))).need ≤ ((((xa).ack ((gt acks k32)))).list.length : Int) - ((((xa).ack ((gt acks k32)))).waits.length : Int)))))) rfl (by kernel_rfl) hg_73 (gv_of (c := (true && !((((AskB.count (xw) ((gt acks k32)) true).2) != (decide (0 ≤ (xa).place ((gt acks k32))))) || ((decide ((((AskB.count (xw) ((gt acks k32)) true).1)).need ≤ ((((AskB.count (xw) ((gt acks k32)) true).1)).got.length : Int))) != (decide ((((xa).ack ((gt acks k32)))).need ≤ ((((xa).ack ((gt acks k32)))).list.length : Int) - ((((xa).ack ((gt acks k32)))).waits.length : Int))))))) (v := .bool (!(intsM (((((AskB.count (xw) ((gt acks k32)) true).1)).waits)) (((((xa).ack ((gt acks k32)))).waits))))) (by simp [hg_73]))
            refine WH.done (by kernel_rfl) ?_
            change WC _ _ _ _ _ _
            refine WC.cond (b := (!(intsM (((((AskB.count (xw) ((gt acks k32)) true).1)).waits)) (((((xa).ack ((gt acks k32)))).waits))))) (by kernel_rfl) ?_ ?_
            · skip
              intro hb_98t
              have hp_99 := (not_t hb_98t)
              refine WC.seq ?_
              refine WC.region ?_
              refine WR.v (v := .bool false) rfl rfl rfl ?_ ?_
              · refine QV.qo ?_; exact q_assign rfl (by kernel_rfl)
              refine WR.nil ?_
              change WC _ _ _ _ _ _
              refine WC.ret ?_
              intro w hw
              refine ⟨congrArg Ending.returned (congrArg (Value.bool) ?_), hw.frE⟩
              show false = true
              exfalso
              have h1 := (hrel32).ack (gt acks k32)
              have h2 := (hrel32).step (gt acks k32)
              have h3 := h2.done
              have h4 := h2.waits
              first | (rw [h1, h3] at hp_99; simp at hp_99; done) | (rw [h1] at hp_99; simp at hp_99; done) | (rw [h4, intsM_refl] at hp_99; simp at hp_99; done) | (rw [h1, h3] at hb_98t; simp at hb_98t; done) | (rw [h1] at hb_98t; simp at hb_98t; done) | (rw [h4, intsM_refl] at hb_98t; simp at hb_98t; done) | (rw [h1, h3] at hp_75; simp at hp_75; done) | (rw [h1] at hp_75; simp at hp_75; done) | (rw [h4, intsM_refl] at hp_75; simp at hp_75; done) | (rw [h1, h3] at hp_74; simp at hp_74; done) | (rw [h1] at hp_74; simp at hp_74; done) | (rw [h4, intsM_refl] at hp_74; simp at hp_74; done) | (rw [h1, h3] at hg_73; simp at hg_73; done) | (rw [h1] at hg_73; simp at hg_73; done) | (rw [h4, intsM_refl] at hg_73; simp at hg_73; done) | (rw [h1, h3] at hp_41; simp at hp_41; done) | (rw [h1] at hp_41; simp at hp_41; done) | (rw [h4, intsM_refl] at hp_41; simp at hp_41; done)
            · skip
              intro hb_98f
              have hp_100 := (not_f hb_98f)
              refine WC.skip ?_
              change WC _ _ _ _ _ _
              refine WC.region ?_
              refine WR.v (v := .int .i64 ((k32 : Nat) : Int)) rfl rfl rfl ?_ ?_
              · refine QV.qo ?_; exact q_move rfl h32_10
              refine WR.v (v := .int .i64 ((k32 + 1 : Nat) : Int)) rfl rfl rfl ?_ ?_
              · refine QV.qo ?_; exact q_add (k := .i64) (a := ((k32 : Nat) : Int)) (b := 1) (r := ((k32 + 1 : Nat) : Int)) rfl (by kernel_rfl) (by kernel_rfl) (wr64 (by omega) (by omega))
              refine WR.v (v := .int .i64 ((k32 + 1 : Nat) : Int)) rfl rfl rfl ?_ ?_
              · refine QV.qo ?_; exact q_assign rfl (by kernel_rfl)
              refine WR.nil ?_
              intro w hw
              refine ⟨_, ?_, k32 + 1, ((AskB.count (xw) ((gt acks k32)) true).1), row_49, ((xa).ack ((gt acks k32))), row_57, X_86, B_87, rfl, (by first | trivial | omega), ?_, ⟨h32_2, h32_7, h32_9, by kernel_rfl⟩, ((((hst_35.trans hst_46).trans hst_54).trans hst_78).trans hst_88), (fun k h => hxx_89 k ((fun k h => hxx_79 k (hxx_55 k h)) k h)), hxl_90, (((hob_50.step hst_54).step hst_78).step hst_88), ((hob_58.step hst_78).step hst_88), hw⟩
              · omega
              · exact (hrel32).step _
        · skip
          intro hb_40f
          have hp_101 := of_decide_eq_false hb_40f
          refine WC.exit ?_
          change WC _ _ _ _ _ _
          refine WC.seq ?_
          refine WC.region ?_
          refine WR.v (v := .bool true) rfl rfl rfl ?_ ?_
          · refine QV.qo ?_; exact q_assign rfl (by kernel_rfl)
          refine WR.nil ?_
          change WC _ _ _ _ _ _
          refine WC.ret ?_
          intro w hw
          refine ⟨congrArg Ending.returned (congrArg (Value.bool) ?_), hw.frE⟩
          show true = true
          rfl
  | false =>
    have hfk_102 : ((r16Right (list) (need)) : Bool) = false := (qOk_eq list need ▸ hb_8)
    obtain ⟨rfl, rfl, _⟩ := (hr_7 (by simp only [hb_8]; rfl))
    change WR _ _ _ (CC _ _ X_1 B_2 []) _ _ _
    refine WR.v (v := .tuple #[.pointer none, .int .i64 (1)]) rfl rfl rfl ?_ ?_
    · refine QV.qo ?_; exact q_move rfl (by kernel_rfl)
    refine WR.v (v := .pointer none) rfl rfl rfl ?_ ?_
    · refine QV.qo ?_; exact q_extract (vs := #[.pointer none, .int .i64 (1)]) rfl (by kernel_rfl) rfl
    refine WR.v (v := .int .i64 (1)) rfl rfl rfl ?_ ?_
    · refine QV.qo ?_; exact q_extract (vs := #[.pointer none, .int .i64 (1)]) rfl (by kernel_rfl) rfl
    refine WR.v (v := .pointer none) rfl rfl rfl ?_ ?_
    · refine QV.qo ?_; exact q_assign rfl (by kernel_rfl)
    refine WR.v (v := .int .i64 (1)) rfl rfl rfl ?_ ?_
    · refine QV.qo ?_; exact q_assign rfl (by kernel_rfl)
    refine WR.nil ?_
    change WC _ _ _ _ _ _
    refine WC.seq ?_
    refine WC.seq ?_
    refine WC.region ?_
    refine WR.v (v := .bool true) rfl rfl rfl ?_ ?_
    · exact q_call (args := #[]) Try.call8 rfl (by kernel_rfl) (fun w hw => awake16_ok w no  (fun _ h => h.elim))
    refine WR.v (v := .bool (!true)) rfl rfl rfl ?_ ?_
    · refine QV.qo ?_; exact q_not (g := true) rfl (by kernel_rfl)
    refine WR.v (v := .bool (!true)) rfl rfl rfl ?_ ?_
    · refine QV.qo ?_; exact q_move rfl (by kernel_rfl)
    refine WR.g0 (v := .slice Alist list.length clist) (c0 := true) (g := (!true)) rfl rfl (by kernel_rfl) rfl rfl (fun hc_103 => ?_) ?_
    · refine QV.qo ?_; exact q_move rfl (by kernel_rfl)
    refine WR.g0 (v := .int .i64 need) (c0 := true) (g := (!true)) rfl rfl (by kernel_rfl) rfl rfl (fun hc_104 => ?_) ?_
    · refine QV.qo ?_; exact q_move rfl (by kernel_rfl)
    refine WR.g0 (v := .bool (r16Right (list) (need))) (c0 := true) (g := (!true)) rfl rfl (by kernel_rfl) rfl rfl (fun hc_105 => ?_) ?_
    · exact q_call (args := #[.slice Alist list.length clist, .int .i64 need]) Try.call9 rfl (by exact args2 (gv_of hc_105) (gv_of hc_105)) (fun w hw => r16_Right_ok w no Alist clist (list) (Sl.step (hlist.step hst_3) (hw.st0.trans (St.to_no _ _))) hclist (need) hneed (fun _ h => h.elim))
    refine WR.g0 (v := .bool (!(r16Right (list) (need)))) (c0 := true) (g := (!true)) rfl rfl (by kernel_rfl) rfl rfl (fun hc_106 => ?_) ?_
    · refine QV.qo ?_; exact q_not (g := (r16Right (list) (need))) rfl (gv_of hc_106)
    refine WR.v (v := .bool (!(r16Right (list) (need)))) rfl rfl rfl ?_ ?_
    · refine QV.qo ?_; exact q_pick_f (g := (!true)) rfl (by kernel_rfl) rfl (gv_of (c := (true && !(!true))) (v := .bool (!(r16Right (list) (need)))) (by simp []))
    refine WR.nil ?_
    change WC _ _ _ _ _ _
    have htr_107 : ((!(r16Right (list) (need))) : Bool) = true := (by simp only [hfk_102]; rfl)
    refine WC.cond (b := (!(r16Right (list) (need)))) (by kernel_rfl) ?_ ?_
    · skip
      intro _
      refine WC.seq ?_
      refine WC.region ?_
      refine WR.v (v := .bool true) rfl rfl rfl ?_ ?_
      · exact q_call (args := #[]) Try.call8 rfl (by kernel_rfl) (fun w hw => awake16_ok w no  (fun _ h => h.elim))
      refine WR.v (v := .bool true) rfl rfl rfl ?_ ?_
      · refine QV.qo ?_; exact q_move rfl (by kernel_rfl)
      refine WR.g1 (v := .pointer none) (c0 := true) (g := true) rfl rfl (by kernel_rfl) rfl rfl (fun hc_109 => ?_) ?_
      · refine QV.qo ?_; exact q_move rfl (by kernel_rfl)
      refine WR.g1 (v := .bool true) (c0 := true) (g := true) rfl rfl (by kernel_rfl) rfl rfl (fun hc_110 => ?_) ?_
      · refine QV.qo ?_; exact q_ptr_eql (a := none) Try.underlying23 rfl (gv_of hc_110) (by kernel_rfl)
      refine WR.v (v := .bool true) rfl rfl rfl ?_ ?_
      · refine QV.qo ?_; exact q_pick_t (g := true) rfl (by kernel_rfl) rfl (gv_of (c := (true && true)) (v := .bool true) (by simp []))
      refine WR.v (v := .bool true) rfl rfl rfl ?_ ?_
      · refine QV.qo ?_; exact q_move rfl (by kernel_rfl)
      refine WR.g1 (v := .int .i64 (1)) (c0 := true) (g := true) rfl rfl (by kernel_rfl) rfl rfl (fun hc_111 => ?_) ?_
      · refine QV.qo ?_; exact q_move rfl (by kernel_rfl)
      refine WR.g1 (v := .bool true) (c0 := true) (g := true) rfl rfl (by kernel_rfl) rfl rfl (fun hc_112 => ?_) ?_
      · refine QV.qo ?_; exact q_eql (k := .i64) (a := (1)) (b := 1) rfl (gv_of hc_112) (by kernel_rfl)
      refine WR.v (v := .bool true) rfl rfl rfl ?_ ?_
      · refine QV.qo ?_; exact q_pick_t (g := true) rfl (by kernel_rfl) rfl (gv_of (c := (true && true)) (v := .bool true) (by simp []))
      refine WR.v (v := .bool true) rfl rfl rfl ?_ ?_
      · refine QV.qo ?_; exact q_assign rfl (by kernel_rfl)
      refine WR.nil ?_
      change WC _ _ _ _ _ _
      refine WC.ret ?_
      intro w hw
      refine ⟨congrArg Ending.returned (congrArg (Value.bool) ?_), hw.frE⟩
      show true = true
      rfl
    · skip
      intro hb_108; exact absurd (hb_108.symm.trans htr_107) (by decide)
end Fw
end Go.Proofs.Ytlbdlkgboliikaa
