/- Walks through the functions that the law reaches. No condition. -/
import Derived.Test.YtlbdlkgboliikaaP16
namespace Go.Proofs.Ytlbdlkgboliikaa
namespace Fw
set_option linter.unusedVariables false
set_option linter.unusedSimpArgs false
open Go.RowKit
set_option maxRecDepth 100000 in
set_option maxHeartbeats 1000000 in
theorem span_Has_ok (w0 : World) (X : Nat → Prop) (Al : Option Addr) (cl : Nat) (l : (List Span)) (hl : Sl spanT X w0 Al l) (hcl : l.length ≤ cl)  (d : Dot) (hd : Dot.fits X w0  d) (hX : ∀ k, X k → k < w0.heap.size) : Calls Try.prog 68 #[.slice Al l.length cl, .agg #[.int .i64 d.s, .int .i64 d.n]] w0 fun e w' => e = .returned (.bool (spHas l d)) ∧ Fr no w0 w' := by
  have hll := hl.le_
  have hdv := hd; obtain ⟨hd_0, hd_1⟩ := hdv
  refine calls_of (N := 33) (rs := [4]) (args := [.slice Al l.length cl, .agg #[.int .i64 d.s, .int .i64 d.n]]) Try.func68 rfl Try.ntmps68 Try.results68 rfl ?_
  refine WC.here (C := CC no w0 X w0 []) ?_ (Cur.start w0 X)
  refine WC.seq ?_
  refine WC.region ?_
  refine e_box (v := .agg #[.int .i64 d.s, .int .i64 d.n]) rfl rfl rfl rfl (by kernel_rfl) ?_
  intro g_1 hg_1 hg_1e
  change WR _ _ _ (CC _ _ _ _ [[(g_1, .cells #[.int .i64 d.s, .int .i64 d.n] 55 (0, 0))]]) _ _ _
  refine WR.v (v := .bool false) rfl rfl rfl ?_ ?_
  · refine QV.qo ?_; exact q_assign rfl (by kernel_rfl)
  refine WR.nil ?_
  change WC _ _ _ _ _ _
  refine WC.seq ?_
  refine WC.seq ?_
  refine WC.region ?_
  refine WR.v (v := .slice Al l.length cl) rfl rfl rfl ?_ ?_
  · refine QV.qo ?_; exact q_move rfl (by kernel_rfl)
  refine WR.v (v := .int .i64 ((l.length : Nat) : Int)) rfl rfl rfl ?_ ?_
  · refine QV.qo ?_; exact q_len_slice (A := Al) (n := l.length) (c := cl) rfl Try.underlying56 (by kernel_rfl)
  refine WR.v (v := .int .i64 0) rfl rfl rfl ?_ ?_
  · refine QV.qo ?_; exact q_move rfl (by kernel_rfl)
  refine WR.nil ?_
  change WC _ _ _ _ _ _
  refine WC.block ?_
  refine WC.loop (fun (m : Nat) (σ : Env) (w1 : World) => ∃ (k2 : Nat)   , m = l.length - k2 ∧ (k2 ≤ l.length) ∧ (spHas l d = spHas (l.drop k2) d) ∧ (σ 3 = .pointer (some ⟨g_1, 0, none⟩) ∧ σ 7 = .slice Al l.length cl ∧ σ 8 = .int .i64 ((l.length : Nat) : Int) ∧ σ 9 = .int .i64 ((k2 : Nat) : Int)) ∧ CC no w0 X w0 [[(g_1, .cells #[.int .i64 d.s, .int .i64 d.n] 55 (0, 0))]] w1) ?_ ?_
  · intro w1 hw
    exact ⟨_, 0, rfl, (by first | trivial | omega), rfl, ⟨by kernel_rfl, by kernel_rfl, by kernel_rfl, by kernel_rfl⟩, hw⟩
  intro m2 σ2 w1 hI
  obtain ⟨k2, rfl, hk2, hrel2, ⟨h2_3, h2_7, h2_8, h2_9⟩, hw⟩ := hI
  refine WC.here (C := CC no w0 X w0 [[(g_1, .cells #[.int .i64 d.s, .int .i64 d.n] 55 (0, 0))]]) ?_ hw
  clear hw
  refine WC.seq ?_
  refine WC.region ?_
  refine WR.v (v := .bool (decide (((k2 : Nat) : Int) < ((l.length : Nat) : Int)))) rfl rfl rfl ?_ ?_
  · refine QV.qo ?_; exact q_lss (k := .i64) (a := ((k2 : Nat) : Int)) (b := ((l.length : Nat) : Int)) rfl h2_9 h2_8
  refine WR.nil ?_
  change WC _ _ _ _ _ _
  refine WC.seq ?_
  refine WC.cond (b := (decide (((k2 : Nat) : Int) < ((l.length : Nat) : Int)))) (by kernel_rfl) ?_ ?_
  · skip
    intro hb_6t
    have hp_7 := of_decide_eq_true hb_6t
    refine WC.skip ?_
    change WC _ _ _ _ _ _
    refine WC.seq ?_
    refine WC.block ?_
    refine WC.seq ?_
    refine WC.region ?_
    refine WR.v (v := ptrAt Al (k2 * 3)) rfl rfl rfl ?_ ?_
    · refine QV.qo ?_; exact q_index_addr (k := .i64) (A := Al) (n := l.length) (c := cl) (i := k2) rfl Try.underlying56 Try.sizeOf106 h2_7 h2_9 (by omega) (Sl.some_ hl (k := k2) (by omega))
    refine WR.v (v := .agg #[.int .i64 (gt l k2).s, .int .i64 (gt l k2).f, .int .i64 (gt l k2).t]) rfl rfl rfl ?_ ?_
    · refine QV.qo ?_; exact q_load_agg (A := Al) (j := k2 * 3) (vs := [.int .i64 (gt l k2).s, .int .i64 (gt l k2).f, .int .i64 (gt l k2).t]) rfl Try.isAgg106 Try.sizeOf106 (by kernel_rfl) (Sl.some_ hl (k := k2) (by omega)) (fun q hq => match q, hq with | 0, _ => Sl.spanT_0 hl (i := k2) (by omega) | 1, _ => Sl.spanT_1 hl (i := k2) (by omega) | 2, _ => Sl.spanT_2 hl (i := k2) (by omega))
    refine e_alloc (z := .agg #[.int .i64 0, .int .i64 0, .int .i64 0]) rfl rfl rfl rfl Try.zeroValue106 ?_
    intro g_8 hg_8 hg_8e
    change WR _ _ _ (CC _ _ _ _ [[(g_8, .cells #[.int .i64 0, .int .i64 0, .int .i64 0] 106 (0, 0))], [(g_1, .cells #[.int .i64 d.s, .int .i64 d.n] 55 (0, 0))]]) _ _ _
    refine e_store_loc (i := 0) (g := g_8) (j := 0) (v := .agg #[.int .i64 (gt l k2).s, .int .i64 (gt l k2).f, .int .i64 (gt l k2).t]) (new := #[.int .i64 (gt l k2).s, .int .i64 (gt l k2).f, .int .i64 (gt l k2).t]) (L' := [[(g_8, .cells #[.int .i64 (gt l k2).s, .int .i64 (gt l k2).f, .int .i64 (gt l k2).t] 106 (0, 0))], [(g_1, .cells #[.int .i64 d.s, .int .i64 d.n] 55 (0, 0))]]) rfl rfl rfl (by kernel_rfl) (by kernel_rfl) Try.sizeOf106 rfl rfl rfl rfl rfl rfl ?_
    refine WR.nil ?_
    change WC _ _ _ _ _ _
    refine WC.seq ?_
    refine WC.region ?_
    refine WR.v (v := .pointer (some ⟨g_8, 0, none⟩)) rfl rfl rfl ?_ ?_
    · refine QV.qo ?_; exact q_field_loc (g := g_8) (j := 0) 0 fld_106_0 rfl (by kernel_rfl) rfl
    refine WR.v (v := .int .i64 (gt l k2).s) rfl rfl rfl ?_ ?_
    · refine QV.qo ?_; exact q_load_loc (i := 0) (g := g_8) (j := 0) (v := .int .i64 (gt l k2).s) rfl Try.isAgg3 (by kernel_rfl) rfl rfl
    refine WR.v (v := .pointer (some ⟨g_1, 0, none⟩)) rfl rfl rfl ?_ ?_
    · refine QV.qo ?_; exact q_field_loc (g := g_1) (j := 0) 0 fld_55_0 rfl h2_3 rfl
    refine WR.v (v := .int .i64 d.s) rfl rfl rfl ?_ ?_
    · refine QV.qo ?_; exact q_load_loc (i := 1) (g := g_1) (j := 0) (v := .int .i64 d.s) rfl Try.isAgg3 (by kernel_rfl) rfl rfl
    refine WR.v (v := .bool ((gt l k2).s == d.s)) rfl rfl rfl ?_ ?_
    · refine QV.qo ?_; exact q_eql (k := .i64) (a := (gt l k2).s) (b := d.s) rfl (by kernel_rfl) (by kernel_rfl)
    refine WR.v (v := .bool ((gt l k2).s == d.s)) rfl rfl rfl ?_ ?_
    · refine QV.qo ?_; exact q_move rfl (by kernel_rfl)
    refine WR.g1 (v := .pointer (some ⟨g_8, 1, none⟩)) (c0 := true) (g := ((gt l k2).s == d.s)) rfl rfl (by kernel_rfl) rfl rfl (fun hc_9 => ?_) ?_
    · refine QV.qo ?_; exact q_field_loc (g := g_8) (j := 0) 1 fld_106_1 rfl (by kernel_rfl) rfl
    refine WR.g1 (v := .int .i64 (gt l k2).f) (c0 := true) (g := ((gt l k2).s == d.s)) rfl rfl (by kernel_rfl) rfl rfl (fun hc_10 => ?_) ?_
    · refine QV.qo ?_; exact q_load_loc (i := 0) (g := g_8) (j := 1) (v := .int .i64 (gt l k2).f) rfl Try.isAgg2 (gv_of hc_10) rfl rfl
    refine WR.g1 (v := .pointer (some ⟨g_1, 1, none⟩)) (c0 := true) (g := ((gt l k2).s == d.s)) rfl rfl (by kernel_rfl) rfl rfl (fun hc_11 => ?_) ?_
    · refine QV.qo ?_; exact q_field_loc (g := g_1) (j := 0) 1 fld_55_1 rfl h2_3 rfl
    refine WR.g1 (v := .int .i64 d.n) (c0 := true) (g := ((gt l k2).s == d.s)) rfl rfl (by kernel_rfl) rfl rfl (fun hc_12 => ?_) ?_
    · refine QV.qo ?_; exact q_load_loc (i := 1) (g := g_1) (j := 1) (v := .int .i64 d.n) rfl Try.isAgg2 (gv_of hc_12) rfl rfl
    refine WR.g1 (v := .bool (decide ((gt l k2).f ≤ d.n))) (c0 := true) (g := ((gt l k2).s == d.s)) rfl rfl (by kernel_rfl) rfl rfl (fun hc_13 => ?_) ?_
    · refine QV.qo ?_; exact q_leq (k := .i64) (a := (gt l k2).f) (b := d.n) rfl (gv_of hc_13) (gv_of hc_13)
    refine WR.v (v := .bool (((gt l k2).s == d.s) && (decide ((gt l k2).f ≤ d.n)))) rfl rfl rfl ?_ ?_
    · refine QV.qo ?_; exact q_pick (g := ((gt l k2).s == d.s)) rfl (by kernel_rfl) (pk_and (c := true) rfl)
    refine WR.v (v := .bool (((gt l k2).s == d.s) && (decide ((gt l k2).f ≤ d.n)))) rfl rfl rfl ?_ ?_
    · refine QV.qo ?_; exact q_move rfl (by kernel_rfl)
    refine WR.g1 (v := .pointer (some ⟨g_1, 1, none⟩)) (c0 := true) (g := (((gt l k2).s == d.s) && (decide ((gt l k2).f ≤ d.n)))) rfl rfl (by kernel_rfl) rfl rfl (fun hc_14 => ?_) ?_
    · refine QV.qo ?_; exact q_field_loc (g := g_1) (j := 0) 1 fld_55_1 rfl h2_3 rfl
    refine WR.g1 (v := .int .i64 d.n) (c0 := true) (g := (((gt l k2).s == d.s) && (decide ((gt l k2).f ≤ d.n)))) rfl rfl (by kernel_rfl) rfl rfl (fun hc_15 => ?_) ?_
    · refine QV.qo ?_; exact q_load_loc (i := 1) (g := g_1) (j := 1) (v := .int .i64 d.n) rfl Try.isAgg2 (gv_of hc_15) rfl rfl
    refine WR.g1 (v := .pointer (some ⟨g_8, 2, none⟩)) (c0 := true) (g := (((gt l k2).s == d.s) && (decide ((gt l k2).f ≤ d.n)))) rfl rfl (by kernel_rfl) rfl rfl (fun hc_16 => ?_) ?_
    · refine QV.qo ?_; exact q_field_loc (g := g_8) (j := 0) 2 fld_106_2 rfl (by kernel_rfl) rfl
    refine WR.g1 (v := .int .i64 (gt l k2).t) (c0 := true) (g := (((gt l k2).s == d.s) && (decide ((gt l k2).f ≤ d.n)))) rfl rfl (by kernel_rfl) rfl rfl (fun hc_17 => ?_) ?_
    · refine QV.qo ?_; exact q_load_loc (i := 0) (g := g_8) (j := 2) (v := .int .i64 (gt l k2).t) rfl Try.isAgg2 (gv_of hc_17) rfl rfl
    refine WR.g1 (v := .bool (decide (d.n ≤ (gt l k2).t))) (c0 := true) (g := (((gt l k2).s == d.s) && (decide ((gt l k2).f ≤ d.n)))) rfl rfl (by kernel_rfl) rfl rfl (fun hc_18 => ?_) ?_
    · refine QV.qo ?_; exact q_leq (k := .i64) (a := d.n) (b := (gt l k2).t) rfl (gv_of hc_18) (gv_of hc_18)
    refine WR.v (v := .bool ((((gt l k2).s == d.s) && (decide ((gt l k2).f ≤ d.n))) && (decide (d.n ≤ (gt l k2).t)))) rfl rfl rfl ?_ ?_
    · refine QV.qo ?_; exact q_pick (g := (((gt l k2).s == d.s) && (decide ((gt l k2).f ≤ d.n)))) rfl (by kernel_rfl) (pk_and (c := true) rfl)
    refine WR.nil ?_
    change WC _ _ _ _ _ _
    refine WC.cond (b := ((((gt l k2).s == d.s) && (decide ((gt l k2).f ≤ d.n))) && (decide (d.n ≤ (gt l k2).t)))) (by kernel_rfl) ?_ ?_
    · skip
      intro hb_19t
      have hp_20 := eq_of_beq (and_l (and_l hb_19t))
      have hp_21 := of_decide_eq_true (and_r (and_l hb_19t))
      have hp_22 := of_decide_eq_true (and_r hb_19t)
      refine WC.seq ?_
      refine WC.region ?_
      refine WR.v (v := .bool true) rfl rfl rfl ?_ ?_
      · refine QV.qo ?_; exact q_assign rfl (by kernel_rfl)
      refine WR.nil ?_
      change WC _ _ _ _ _ _
      refine WC.ret ?_
      intro w hw
      refine ⟨congrArg Ending.returned (congrArg (Value.bool) ?_), hw.frE⟩
      show true = spHas l d
      rw [hrel2]; first | (rw [drop_gt (by omega)]; first | (simp only [spHas, hb_6t, hb_19t, Bool.not_true, Bool.not_false, Bool.and_false, Bool.false_and, Bool.and_true, Bool.true_and, Bool.or_true, Bool.true_or, Bool.or_false, Bool.false_or, cond_true, cond_false]; done) | (simp [spHas, hb_6t, hp_7, hb_19t, hp_20, hp_21, hp_22]; done); done) | (rw [List.drop_of_length_le (by omega)]; simp [spHas])
    · skip
      intro hb_19f
      refine WC.skip ?_
      change WC _ _ _ _ _ _
      refine WC.region ?_
      refine WR.v (v := .int .i64 ((k2 + 1 : Nat) : Int)) rfl rfl rfl ?_ ?_
      · refine QV.qo ?_; exact q_add (k := .i64) (a := ((k2 : Nat) : Int)) (b := 1) (r := ((k2 + 1 : Nat) : Int)) rfl h2_9 (by kernel_rfl) (wr64 (by omega) (by omega))
      refine WR.v (v := .int .i64 ((k2 + 1 : Nat) : Int)) rfl rfl rfl ?_ ?_
      · refine QV.qo ?_; exact q_move rfl (by kernel_rfl)
      refine WR.nil ?_
      intro w hw
      refine ⟨_, ?_, k2 + 1, rfl, (by first | trivial | omega), ?_, ⟨h2_3, h2_7, h2_8, by kernel_rfl⟩, hw.tail⟩
      · omega
      · rw [hrel2, drop_gt (by omega)]; first | (simp only [spHas, hb_6t, hb_19f, Bool.not_true, Bool.not_false, Bool.and_false, Bool.false_and, Bool.and_true, Bool.true_and, Bool.or_true, Bool.true_or, Bool.or_false, Bool.false_or, cond_true, cond_false]; done) | (simp [spHas, hb_6t, hp_7, hb_19f]; done)
  · skip
    intro hb_6f
    have hp_23 := of_decide_eq_false hb_6f
    refine WC.exit ?_
    change WC _ _ _ _ _ _
    refine WC.seq ?_
    refine WC.region ?_
    refine WR.v (v := .bool false) rfl rfl rfl ?_ ?_
    · refine QV.qo ?_; exact q_assign rfl (by kernel_rfl)
    refine WR.nil ?_
    change WC _ _ _ _ _ _
    refine WC.ret ?_
    intro w hw
    refine ⟨congrArg Ending.returned (congrArg (Value.bool) ?_), hw.frE⟩
    show false = spHas l d
    rw [hrel2]; first | (rw [drop_gt (by omega)]; first | (simp only [spHas, hb_6f, Bool.not_true, Bool.not_false, Bool.and_false, Bool.false_and, Bool.and_true, Bool.true_and, Bool.or_true, Bool.true_or, Bool.or_false, Bool.false_or, cond_true, cond_false]; done) | (simp [spHas, hb_6f, hp_23]; done); done) | (rw [List.drop_of_length_le (by omega)]; simp [spHas])

set_option maxRecDepth 100000 in
set_option maxHeartbeats 1000000 in
theorem ref12_In_ok (w0 : World) (X : Nat → Prop) (Al : Option Addr) (cl : Nat) (l : (List Int)) (hl : Sl intT X w0 Al l) (hcl : l.length ≤ cl) (n : Int) (hn : I64 n) (hX : ∀ k, X k → k < w0.heap.size) : Calls Try.prog 34 #[.slice Al l.length cl, .int .i64 n] w0 fun e w' => e = .returned (.bool (inM l n)) ∧ Fr no w0 w' := by
  have hll := hl.le_
  refine calls_of (N := 18) (rs := [4]) (args := [.slice Al l.length cl, .int .i64 n]) Try.func34 rfl Try.ntmps34 Try.results34 rfl ?_
  refine WC.here (C := CC no w0 X w0 []) ?_ (Cur.start w0 X)
  refine WC.seq ?_
  refine WC.region ?_
  refine WR.v (v := .bool false) rfl rfl rfl ?_ ?_
  · refine QV.qo ?_; exact q_assign rfl (by kernel_rfl)
  refine WR.nil ?_
  change WC _ _ _ _ _ _
  refine WC.seq ?_
  refine WC.seq ?_
  refine WC.region ?_
  refine WR.v (v := .int .i64 0) rfl rfl rfl ?_ ?_
  · refine QV.qo ?_; exact q_assign rfl (by kernel_rfl)
  refine WR.nil ?_
  change WC _ _ _ _ _ _
  refine WC.block ?_
  refine WC.loop (fun (m : Nat) (σ : Env) (w1 : World) => ∃ (k1 : Nat)   , m = l.length - k1 ∧ (k1 ≤ l.length) ∧ (inM l n = inM (l.drop k1) n) ∧ (σ 0 = .slice Al l.length cl ∧ σ 1 = .int .i64 n ∧ σ 5 = .int .i64 ((k1 : Nat) : Int)) ∧ CC no w0 X w0 [] w1) ?_ ?_
  · intro w1 hw
    exact ⟨_, 0, rfl, (by first | trivial | omega), rfl, ⟨by kernel_rfl, by kernel_rfl, by kernel_rfl⟩, hw⟩
  intro m1 σ1 w1 hI
  obtain ⟨k1, rfl, hk1, hrel1, ⟨h1_0, h1_1, h1_5⟩, hw⟩ := hI
  refine WC.here (C := CC no w0 X w0 []) ?_ hw
  clear hw
  refine WC.seq ?_
  refine WC.seq ?_
  refine WC.region ?_
  refine WR.v (v := .int .i64 ((k1 : Nat) : Int)) rfl rfl rfl ?_ ?_
  · refine QV.qo ?_; exact q_move rfl h1_5
  refine WR.v (v := .slice Al l.length cl) rfl rfl rfl ?_ ?_
  · refine QV.qo ?_; exact q_move rfl h1_0
  refine WR.v (v := .int .i64 ((l.length : Nat) : Int)) rfl rfl rfl ?_ ?_
  · refine QV.qo ?_; exact q_len_slice (A := Al) (n := l.length) (c := cl) rfl Try.underlying22 (by kernel_rfl)
  refine WR.v (v := .bool (decide (((k1 : Nat) : Int) < ((l.length : Nat) : Int)))) rfl rfl rfl ?_ ?_
  · refine QV.qo ?_; exact q_lss (k := .i64) (a := ((k1 : Nat) : Int)) (b := ((l.length : Nat) : Int)) rfl (by kernel_rfl) (by kernel_rfl)
  refine WR.nil ?_
  change WC _ _ _ _ _ _
  refine WC.cond (b := (decide (((k1 : Nat) : Int) < ((l.length : Nat) : Int)))) (by kernel_rfl) ?_ ?_
  · skip
    intro hb_5t
    have hp_6 := of_decide_eq_true hb_5t
    refine WC.skip ?_
    change WC _ _ _ _ _ _
    refine WC.seq ?_
    refine WC.block ?_
    refine WC.seq ?_
    refine WC.region ?_
    refine WR.v (v := .slice Al l.length cl) rfl rfl rfl ?_ ?_
    · refine QV.qo ?_; exact q_move rfl h1_0
    refine WR.v (v := .int .i64 ((k1 : Nat) : Int)) rfl rfl rfl ?_ ?_
    · refine QV.qo ?_; exact q_move rfl h1_5
    refine WR.v (v := ptrAt Al (k1 * 1)) rfl rfl rfl ?_ ?_
    · refine QV.qo ?_; exact q_index_addr (k := .i64) (A := Al) (n := l.length) (c := cl) (i := k1) rfl Try.underlying22 Try.sizeOf3 (by kernel_rfl) (by kernel_rfl) (by omega) (Sl.some_ hl (k := k1) (by omega))
    refine WR.v (v := .int .i64 (gt l k1)) rfl rfl rfl ?_ ?_
    · refine QV.qo ?_; exact q_load_cell (A := Al) (j := k1 * 1) (v := .int .i64 (gt l k1)) rfl Try.isAgg3 (by kernel_rfl) (Sl.intT_0 hl (i := k1) (by omega))
    refine WR.v (v := .int .i64 n) rfl rfl rfl ?_ ?_
    · refine QV.qo ?_; exact q_move rfl h1_1
    refine WR.v (v := .bool ((gt l k1) == n)) rfl rfl rfl ?_ ?_
    · refine QV.qo ?_; exact q_eql (k := .i64) (a := (gt l k1)) (b := n) rfl (by kernel_rfl) (by kernel_rfl)
    refine WR.nil ?_
    change WC _ _ _ _ _ _
    refine WC.cond (b := ((gt l k1) == n)) (by kernel_rfl) ?_ ?_
    · skip
      intro hb_7t
      have hp_8 := eq_of_beq hb_7t
      refine WC.seq ?_
      refine WC.region ?_
      refine WR.v (v := .bool true) rfl rfl rfl ?_ ?_
      · refine QV.qo ?_; exact q_assign rfl (by kernel_rfl)
      refine WR.nil ?_
      change WC _ _ _ _ _ _
      refine WC.ret ?_
      intro w hw
      refine ⟨congrArg Ending.returned (congrArg (Value.bool) ?_), hw.frE⟩
      show true = inM l n
      rw [hrel1]; first | (rw [drop_gt (by omega)]; first | (simp only [inM, hb_5t, hb_7t, Bool.not_true, Bool.not_false, Bool.and_false, Bool.false_and, Bool.and_true, Bool.true_and, Bool.or_true, Bool.true_or, Bool.or_false, Bool.false_or, cond_true, cond_false]; done) | (simp [inM, hb_5t, hp_6, hb_7t, hp_8]; done); done) | (rw [List.drop_of_length_le (by omega)]; simp [inM])
    · skip
      intro hb_7f
      have hp_9 := ne_of_beq_false hb_7f
      refine WC.skip ?_
      change WC _ _ _ _ _ _
      refine WC.region ?_
      refine WR.v (v := .int .i64 ((k1 : Nat) : Int)) rfl rfl rfl ?_ ?_
      · refine QV.qo ?_; exact q_move rfl h1_5
      refine WR.v (v := .int .i64 ((k1 + 1 : Nat) : Int)) rfl rfl rfl ?_ ?_
      · refine QV.qo ?_; exact q_add (k := .i64) (a := ((k1 : Nat) : Int)) (b := 1) (r := ((k1 + 1 : Nat) : Int)) rfl (by kernel_rfl) (by kernel_rfl) (wr64 (by omega) (by omega))
      refine WR.v (v := .int .i64 ((k1 + 1 : Nat) : Int)) rfl rfl rfl ?_ ?_
      · refine QV.qo ?_; exact q_assign rfl (by kernel_rfl)
      refine WR.nil ?_
      intro w hw
      refine ⟨_, ?_, k1 + 1, rfl, (by first | trivial | omega), ?_, ⟨h1_0, h1_1, by kernel_rfl⟩, hw⟩
      · omega
      · rw [hrel1, drop_gt (by omega)]; first | (simp only [inM, hb_5t, hb_7f, Bool.not_true, Bool.not_false, Bool.and_false, Bool.false_and, Bool.and_true, Bool.true_and, Bool.or_true, Bool.true_or, Bool.or_false, Bool.false_or, cond_true, cond_false]; done) | (simp [inM, hb_5t, hp_6, hb_7f, hp_9]; done)
  · skip
    intro hb_5f
    have hp_10 := of_decide_eq_false hb_5f
    refine WC.exit ?_
    change WC _ _ _ _ _ _
    refine WC.seq ?_
    refine WC.region ?_
    refine WR.v (v := .bool false) rfl rfl rfl ?_ ?_
    · refine QV.qo ?_; exact q_assign rfl (by kernel_rfl)
    refine WR.nil ?_
    change WC _ _ _ _ _ _
    refine WC.ret ?_
    intro w hw
    refine ⟨congrArg Ending.returned (congrArg (Value.bool) ?_), hw.frE⟩
    show false = inM l n
    rw [hrel1]; first | (rw [drop_gt (by omega)]; first | (simp only [inM, hb_5f, Bool.not_true, Bool.not_false, Bool.and_false, Bool.false_and, Bool.and_true, Bool.true_and, Bool.or_true, Bool.true_or, Bool.or_false, Bool.false_or, cond_true, cond_false]; done) | (simp [inM, hb_5f, hp_10]; done); done) | (rw [List.drop_of_length_le (by omega)]; simp [inM])

set_option maxRecDepth 100000 in
set_option maxHeartbeats 1000000 in
theorem slices_Index_ok (w0 : World) (X : Nat → Prop) (As : Option Addr) (cs : Nat) (s : (List Int)) (hs : Sl intT X w0 As s) (hcs : s.length ≤ cs) (v : Int) (hv : I64 v) (hX : ∀ k, X k → k < w0.heap.size) : Calls Try.prog 66 #[.slice As s.length cs, .int .i64 v] w0 fun e w' => e = .returned (.int .i64 (idxGo s v 0)) ∧ Fr no w0 w' := by
  have hsl := hs.le_
  refine calls_of (N := 19) (rs := [4]) (args := [.slice As s.length cs, .int .i64 v]) Try.func66 rfl Try.ntmps66 Try.results66 rfl ?_
  refine WC.here (C := CC no w0 X w0 []) ?_ (Cur.start w0 X)
  refine WC.seq ?_
  refine WC.region ?_
  refine WR.v (v := .int .i64 0) rfl rfl rfl ?_ ?_
  · refine QV.qo ?_; exact q_assign rfl (by kernel_rfl)
  refine WR.nil ?_
  change WC _ _ _ _ _ _
  refine WC.seq ?_
  refine WC.seq ?_
  refine WC.region ?_
  refine WR.v (v := .slice As s.length cs) rfl rfl rfl ?_ ?_
  · refine QV.qo ?_; exact q_move rfl (by kernel_rfl)
  refine WR.v (v := .int .i64 ((s.length : Nat) : Int)) rfl rfl rfl ?_ ?_
  · refine QV.qo ?_; exact q_len_slice (A := As) (n := s.length) (c := cs) rfl Try.underlying22 (by kernel_rfl)
  refine WR.v (v := .int .i64 0) rfl rfl rfl ?_ ?_
  · refine QV.qo ?_; exact q_move rfl (by kernel_rfl)
  refine WR.nil ?_
  change WC _ _ _ _ _ _
  refine WC.block ?_
  refine WC.loop (fun (m : Nat) (σ : Env) (w1 : World) => ∃ (k1 : Nat)   , m = s.length - k1 ∧ (k1 ≤ s.length) ∧ (idxGo s v 0 = idxGo (s.drop k1) v k1) ∧ (σ 0 = .slice As s.length cs ∧ σ 1 = .int .i64 v ∧ σ 7 = .int .i64 ((s.length : Nat) : Int) ∧ σ 8 = .int .i64 ((k1 : Nat) : Int)) ∧ CC no w0 X w0 [] w1) ?_ ?_
  · intro w1 hw
    exact ⟨_, 0, rfl, (by first | trivial | omega), rfl, ⟨by kernel_rfl, by kernel_rfl, by kernel_rfl, by kernel_rfl⟩, hw⟩
  intro m1 σ1 w1 hI
  obtain ⟨k1, rfl, hk1, hrel1, ⟨h1_0, h1_1, h1_7, h1_8⟩, hw⟩ := hI
  refine WC.here (C := CC no w0 X w0 []) ?_ hw
  clear hw
  refine WC.seq ?_
  refine WC.region ?_
  refine WR.v (v := .bool (decide (((k1 : Nat) : Int) < ((s.length : Nat) : Int)))) rfl rfl rfl ?_ ?_
  · refine QV.qo ?_; exact q_lss (k := .i64) (a := ((k1 : Nat) : Int)) (b := ((s.length : Nat) : Int)) rfl h1_8 h1_7
  refine WR.nil ?_
  change WC _ _ _ _ _ _
  refine WC.seq ?_
  refine WC.cond (b := (decide (((k1 : Nat) : Int) < ((s.length : Nat) : Int)))) (by kernel_rfl) ?_ ?_
  · skip
    intro hb_5t
    have hp_6 := of_decide_eq_true hb_5t
    refine WC.skip ?_
    change WC _ _ _ _ _ _
    refine WC.seq ?_
    refine WC.block ?_
    refine WC.seq ?_
    refine WC.region ?_
    refine WR.v (v := .int .i64 ((k1 : Nat) : Int)) rfl rfl rfl ?_ ?_
    · refine QV.qo ?_; exact q_move rfl h1_8
    refine WR.v (v := .int .i64 ((k1 : Nat) : Int)) rfl rfl rfl ?_ ?_
    · refine QV.qo ?_; exact q_assign rfl (by kernel_rfl)
    refine WR.nil ?_
    change WC _ _ _ _ _ _
    refine WC.seq ?_
    refine WC.region ?_
    refine WR.v (v := .int .i64 v) rfl rfl rfl ?_ ?_
    · refine QV.qo ?_; exact q_move rfl h1_1
    refine WR.v (v := .slice As s.length cs) rfl rfl rfl ?_ ?_
    · refine QV.qo ?_; exact q_move rfl h1_0
    refine WR.v (v := .int .i64 ((k1 : Nat) : Int)) rfl rfl rfl ?_ ?_
    · refine QV.qo ?_; exact q_move rfl (by kernel_rfl)
    refine WR.v (v := ptrAt As (k1 * 1)) rfl rfl rfl ?_ ?_
    · refine QV.qo ?_; exact q_index_addr (k := .i64) (A := As) (n := s.length) (c := cs) (i := k1) rfl Try.underlying22 Try.sizeOf3 (by kernel_rfl) (by kernel_rfl) (by omega) (Sl.some_ hs (k := k1) (by omega))
    refine WR.v (v := .int .i64 (gt s k1)) rfl rfl rfl ?_ ?_
    · refine QV.qo ?_; exact q_load_cell (A := As) (j := k1 * 1) (v := .int .i64 (gt s k1)) rfl Try.isAgg3 (by kernel_rfl) (Sl.intT_0 hs (i := k1) (by omega))
    refine WR.v (v := .bool (v == (gt s k1))) rfl rfl rfl ?_ ?_
    · refine QV.qo ?_; exact q_eql (k := .i64) (a := v) (b := (gt s k1)) rfl (by kernel_rfl) (by kernel_rfl)
    refine WR.nil ?_
    change WC _ _ _ _ _ _
    refine WC.cond (b := (v == (gt s k1))) (by kernel_rfl) ?_ ?_
    · skip
      intro hb_7t
      have hp_8 := eq_of_beq hb_7t
      refine WC.seq ?_
      refine WC.region ?_
      refine WR.v (v := .int .i64 ((k1 : Nat) : Int)) rfl rfl rfl ?_ ?_
      · refine QV.qo ?_; exact q_move rfl (by kernel_rfl)
      refine WR.v (v := .int .i64 ((k1 : Nat) : Int)) rfl rfl rfl ?_ ?_
      · refine QV.qo ?_; exact q_assign rfl (by kernel_rfl)
      refine WR.nil ?_
      change WC _ _ _ _ _ _
      refine WC.ret ?_
      intro w hw
      refine ⟨congrArg Ending.returned (congrArg (Value.int .i64) ?_), hw.frE⟩
      show ((k1 : Nat) : Int) = idxGo s v 0
      rw [hrel1]; first | (rw [drop_gt (by omega)]; first | (simp only [idxGo, hb_5t, hb_7t, Bool.not_true, Bool.not_false, Bool.and_false, Bool.false_and, Bool.and_true, Bool.true_and, Bool.or_true, Bool.true_or, Bool.or_false, Bool.false_or, cond_true, cond_false]; done) | (simp [idxGo, hb_5t, hp_6, hb_7t, hp_8]; done); done) | (rw [List.drop_of_length_le (by omega)]; simp [idxGo])
    · skip
      intro hb_7f
      have hp_9 := ne_of_beq_false hb_7f
      refine WC.skip ?_
      change WC _ _ _ _ _ _
      refine WC.region ?_
      refine WR.v (v := .int .i64 ((k1 + 1 : Nat) : Int)) rfl rfl rfl ?_ ?_
      · refine QV.qo ?_; exact q_add (k := .i64) (a := ((k1 : Nat) : Int)) (b := 1) (r := ((k1 + 1 : Nat) : Int)) rfl h1_8 (by kernel_rfl) (wr64 (by omega) (by omega))
      refine WR.v (v := .int .i64 ((k1 + 1 : Nat) : Int)) rfl rfl rfl ?_ ?_
      · refine QV.qo ?_; exact q_move rfl (by kernel_rfl)
      refine WR.nil ?_
      intro w hw
      refine ⟨_, ?_, k1 + 1, rfl, (by first | trivial | omega), ?_, ⟨h1_0, h1_1, h1_7, by kernel_rfl⟩, hw⟩
      · omega
      · rw [hrel1, drop_gt (by omega)]; first | (simp only [idxGo, hb_5t, hb_7f, Bool.not_true, Bool.not_false, Bool.and_false, Bool.false_and, Bool.and_true, Bool.true_and, Bool.or_true, Bool.true_or, Bool.or_false, Bool.false_or, cond_true, cond_false]; done) | (simp [idxGo, hb_5t, hp_6, hb_7f, hp_9]; done)
  · skip
    intro hb_5f
    have hp_10 := of_decide_eq_false hb_5f
    refine WC.exit ?_
    change WC _ _ _ _ _ _
    refine WC.seq ?_
    refine WC.region ?_
    refine WR.v (v := .int .i64 (-1)) rfl rfl rfl ?_ ?_
    · refine QV.qo ?_; exact q_assign rfl (by kernel_rfl)
    refine WR.nil ?_
    change WC _ _ _ _ _ _
    refine WC.ret ?_
    intro w hw
    refine ⟨congrArg Ending.returned (congrArg (Value.int .i64) ?_), hw.frE⟩
    show (-1) = idxGo s v 0
    rw [hrel1]; first | (rw [drop_gt (by omega)]; first | (simp only [idxGo, hb_5f, Bool.not_true, Bool.not_false, Bool.and_false, Bool.false_and, Bool.and_true, Bool.true_and, Bool.or_true, Bool.true_or, Bool.or_false, Bool.false_or, cond_true, cond_false]; done) | (simp [idxGo, hb_5f, hp_10]; done); done) | (rw [List.drop_of_length_le (by omega)]; simp [idxGo])

set_option maxRecDepth 100000 in
set_option maxHeartbeats 1000000 in
theorem slices_Contains_ok (w0 : World) (X : Nat → Prop) (As : Option Addr) (cs : Nat) (s : (List Int)) (hs : Sl intT X w0 As s) (hcs : s.length ≤ cs) (v : Int) (hv : I64 v) (hX : ∀ k, X k → k < w0.heap.size) : Calls Try.prog 56 #[.slice As s.length cs, .int .i64 v] w0 fun e w' => e = .returned (.bool (decide (0 ≤ idxGo s v 0))) ∧ Fr no w0 w' := by
  have hsl := hs.le_
  refine calls_of (N := 9) (rs := [4]) (args := [.slice As s.length cs, .int .i64 v]) Try.func56 rfl Try.ntmps56 Try.results56 rfl ?_
  refine WC.here (C := CC no w0 X w0 []) ?_ (Cur.start w0 X)
  refine WC.seq ?_
  refine WC.region ?_
  refine WR.v (v := .bool false) rfl rfl rfl ?_ ?_
  · refine QV.qo ?_; exact q_assign rfl (by kernel_rfl)
  refine WR.nil ?_
  change WC _ _ _ _ _ _
  refine WC.seq ?_
  refine WC.region ?_
  refine WR.v (v := .slice As s.length cs) rfl rfl rfl ?_ ?_
  · refine QV.qo ?_; exact q_move rfl (by kernel_rfl)
  refine WR.v (v := .int .i64 v) rfl rfl rfl ?_ ?_
  · refine QV.qo ?_; exact q_move rfl (by kernel_rfl)
  refine WR.v (v := .int .i64 (idxGo (s) (v) 0)) rfl rfl rfl ?_ ?_
  · exact q_call (args := #[.slice As s.length cs, .int .i64 v]) Try.call66 rfl (by kernel_rfl) (fun w hw => slices_Index_ok w no As cs (s) (Sl.step hs (hw.st0.trans (St.to_no _ _))) hcs (v) hv (fun _ h => h.elim))
  refine WR.v (v := .bool (decide (0 ≤ (idxGo (s) (v) 0)))) rfl rfl rfl ?_ ?_
  · refine QV.qo ?_; exact q_geq (k := .i64) (a := (idxGo (s) (v) 0)) (b := 0) rfl (by kernel_rfl) (by kernel_rfl)
  refine WR.v (v := .bool (decide (0 ≤ (idxGo (s) (v) 0)))) rfl rfl rfl ?_ ?_
  · refine QV.qo ?_; exact q_assign rfl (by kernel_rfl)
  refine WR.nil ?_
  change WC _ _ _ _ _ _
  refine WC.ret ?_
  intro w hw
  refine ⟨congrArg Ending.returned (congrArg (Value.bool) ?_), hw.frE⟩
  show (decide (0 ≤ (idxGo (s) (v) 0))) = decide (0 ≤ idxGo s v 0)
  rfl

set_option maxRecDepth 100000 in
set_option maxHeartbeats 1000000 in
theorem ref06_Ints_ok (w0 : World) (X : Nat → Prop) (Aa : Option Addr) (ca : Nat) (a : (List Int)) (ha : Sl intT X w0 Aa a) (hca : a.length ≤ ca) (Ab : Option Addr) (cb : Nat) (b : (List Int)) (hb : Sl intT X w0 Ab b) (hcb : b.length ≤ cb) (hX : ∀ k, X k → k < w0.heap.size) : Calls Try.prog 15 #[.slice Aa a.length ca, .slice Ab b.length cb] w0 fun e w' => e = .returned (.bool (intsM a b)) ∧ Fr no w0 w' := by
  have hal := ha.le_
  have hbl := hb.le_
  refine calls_of (N := 26) (rs := [4]) (args := [.slice Aa a.length ca, .slice Ab b.length cb]) Try.func15 rfl Try.ntmps15 Try.results15 rfl ?_
  refine WC.here (C := CC no w0 X w0 []) ?_ (Cur.start w0 X)
  refine WC.seq ?_
  refine WC.region ?_
  refine WR.v (v := .bool false) rfl rfl rfl ?_ ?_
  · refine QV.qo ?_; exact q_assign rfl (by kernel_rfl)
  refine WR.nil ?_
  change WC _ _ _ _ _ _
  refine WC.seq ?_
  refine WC.seq ?_
  refine WC.region ?_
  refine WR.v (v := .slice Aa a.length ca) rfl rfl rfl ?_ ?_
  · refine QV.qo ?_; exact q_move rfl (by kernel_rfl)
  refine WR.v (v := .int .i64 ((a.length : Nat) : Int)) rfl rfl rfl ?_ ?_
  · refine QV.qo ?_; exact q_len_slice (A := Aa) (n := a.length) (c := ca) rfl Try.underlying22 (by kernel_rfl)
  refine WR.v (v := .slice Ab b.length cb) rfl rfl rfl ?_ ?_
  · refine QV.qo ?_; exact q_move rfl (by kernel_rfl)
  refine WR.v (v := .int .i64 ((b.length : Nat) : Int)) rfl rfl rfl ?_ ?_
  · refine QV.qo ?_; exact q_len_slice (A := Ab) (n := b.length) (c := cb) rfl Try.underlying22 (by kernel_rfl)
  refine WR.v (v := .bool (((a.length : Nat) : Int) != ((b.length : Nat) : Int))) rfl rfl rfl ?_ ?_
  · refine QV.qo ?_; exact q_neq (k := .i64) (a := ((a.length : Nat) : Int)) (b := ((b.length : Nat) : Int)) rfl (by kernel_rfl) (by kernel_rfl)
  refine WR.nil ?_
  change WC _ _ _ _ _ _
  refine WC.cond (b := (((a.length : Nat) : Int) != ((b.length : Nat) : Int))) (by kernel_rfl) ?_ ?_
  · skip
    intro hb_1t
    have hp_2 := bne_t hb_1t
    refine WC.seq ?_
    refine WC.region ?_
    refine WR.v (v := .bool false) rfl rfl rfl ?_ ?_
    · refine QV.qo ?_; exact q_assign rfl (by kernel_rfl)
    refine WR.nil ?_
    change WC _ _ _ _ _ _
    refine WC.ret ?_
    intro w hw
    refine ⟨congrArg Ending.returned (congrArg (Value.bool) ?_), hw.frE⟩
    show false = intsM a b
    unfold intsM; rw [show (a.length == b.length) = false by simp at *; omega]; rfl
  · skip
    intro hb_1f
    have hp_3 := bne_f hb_1f
    refine WC.skip ?_
    change WC _ _ _ _ _ _
    refine WC.seq ?_
    refine WC.seq ?_
    refine WC.region ?_
    refine WR.v (v := .int .i64 0) rfl rfl rfl ?_ ?_
    · refine QV.qo ?_; exact q_assign rfl (by kernel_rfl)
    refine WR.nil ?_
    change WC _ _ _ _ _ _
    refine WC.block ?_
    refine WC.loop (fun (m : Nat) (σ : Env) (w1 : World) => ∃ (k4 : Nat)   , m = a.length - k4 ∧ (k4 ≤ a.length) ∧ (allFrom (fun i => gt a i == gt b i) 0 a.length = allFrom (fun i => gt a i == gt b i) k4 a.length) ∧ (σ 0 = .slice Aa a.length ca ∧ σ 1 = .slice Ab b.length cb ∧ σ 5 = .int .i64 ((k4 : Nat) : Int)) ∧ CC no w0 X w0 [] w1) ?_ ?_
    · intro w1 hw
      exact ⟨_, 0, rfl, (by first | trivial | omega), rfl, ⟨by kernel_rfl, by kernel_rfl, by kernel_rfl⟩, hw⟩
    intro m4 σ4 w1 hI
    obtain ⟨k4, rfl, hk4, hrel4, ⟨h4_0, h4_1, h4_5⟩, hw⟩ := hI
    refine WC.here (C := CC no w0 X w0 []) ?_ hw
    clear hw
    refine WC.seq ?_
    refine WC.seq ?_
    refine WC.region ?_
    refine WR.v (v := .int .i64 ((k4 : Nat) : Int)) rfl rfl rfl ?_ ?_
    · refine QV.qo ?_; exact q_move rfl h4_5
    refine WR.v (v := .slice Aa a.length ca) rfl rfl rfl ?_ ?_
    · refine QV.qo ?_; exact q_move rfl h4_0
    refine WR.v (v := .int .i64 ((a.length : Nat) : Int)) rfl rfl rfl ?_ ?_
    · refine QV.qo ?_; exact q_len_slice (A := Aa) (n := a.length) (c := ca) rfl Try.underlying22 (by kernel_rfl)
    refine WR.v (v := .bool (decide (((k4 : Nat) : Int) < ((a.length : Nat) : Int)))) rfl rfl rfl ?_ ?_
    · refine QV.qo ?_; exact q_lss (k := .i64) (a := ((k4 : Nat) : Int)) (b := ((a.length : Nat) : Int)) rfl (by kernel_rfl) (by kernel_rfl)
    refine WR.nil ?_
    change WC _ _ _ _ _ _
    refine WC.cond (b := (decide (((k4 : Nat) : Int) < ((a.length : Nat) : Int)))) (by kernel_rfl) ?_ ?_
    · skip
      intro hb_8t
      have hp_9 := of_decide_eq_true hb_8t
      refine WC.skip ?_
      change WC _ _ _ _ _ _
      refine WC.seq ?_
      refine WC.block ?_
      refine WC.seq ?_
      refine WC.draw (by kernel_rfl) (by kernel_rfl) (fun w hw => hw.drawn _) ?_
      refine WQ.v (v := .slice Aa a.length ca) rfl rfl rfl ?_ ?_
      · refine QV.qo ?_; exact q_move rfl h4_0
      refine WQ.v (v := .int .i64 ((k4 : Nat) : Int)) rfl rfl rfl ?_ ?_
      · refine QV.qo ?_; exact q_move rfl h4_5
      refine WQ.v (v := ptrAt Aa (k4 * 1)) rfl rfl rfl ?_ ?_
      · refine QV.qo ?_; exact q_index_addr (k := .i64) (A := Aa) (n := a.length) (c := ca) (i := k4) rfl Try.underlying22 Try.sizeOf3 (by kernel_rfl) (by kernel_rfl) (by omega) (Sl.some_ ha (k := k4) (by omega))
      refine WQ.v (v := .int .i64 (gt a k4)) rfl rfl rfl ?_ ?_
      · refine QV.qo ?_; exact q_load_cell (A := Aa) (j := k4 * 1) (v := .int .i64 (gt a k4)) rfl Try.isAgg3 (by kernel_rfl) (Sl.intT_0 ha (i := k4) (by omega))
      refine WQ.v (v := .slice Ab b.length cb) rfl rfl rfl ?_ ?_
      · refine QV.qo ?_; exact q_move rfl h4_1
      refine WQ.v (v := .int .i64 ((k4 : Nat) : Int)) rfl rfl rfl ?_ ?_
      · refine QV.qo ?_; exact q_move rfl h4_5
      refine WQ.v (v := ptrAt Ab (k4 * 1)) rfl rfl rfl ?_ ?_
      · refine QV.qo ?_; exact q_index_addr (k := .i64) (A := Ab) (n := b.length) (c := cb) (i := k4) rfl Try.underlying22 Try.sizeOf3 (by kernel_rfl) (by kernel_rfl) (by omega) (Sl.some_ hb (k := k4) (by omega))
      refine WQ.v (v := .int .i64 (gt b k4)) rfl rfl rfl ?_ ?_
      · refine QV.qo ?_; exact q_load_cell (A := Ab) (j := k4 * 1) (v := .int .i64 (gt b k4)) rfl Try.isAgg3 (by kernel_rfl) (Sl.intT_0 hb (i := k4) (by omega))
      refine WQ.v (v := .bool ((gt a k4) != (gt b k4))) rfl rfl rfl ?_ ?_
      · refine QV.qo ?_; exact q_neq (k := .i64) (a := (gt a k4)) (b := (gt b k4)) rfl (by kernel_rfl) (by kernel_rfl)
      refine WQ.nil ?_
      change WC _ _ _ _ _ _
      refine WC.cond (b := ((gt a k4) != (gt b k4))) (by kernel_rfl) ?_ ?_
      · skip
        intro hb_10t
        have hp_11 := bne_t hb_10t
        refine WC.seq ?_
        refine WC.region ?_
        refine WR.v (v := .bool false) rfl rfl rfl ?_ ?_
        · refine QV.qo ?_; exact q_assign rfl (by kernel_rfl)
        refine WR.nil ?_
        change WC _ _ _ _ _ _
        refine WC.ret ?_
        intro w hw
        refine ⟨congrArg Ending.returned (congrArg (Value.bool) ?_), hw.frE⟩
        show false = intsM a b
        unfold intsM; rw [show (a.length == b.length) = true by simp; omega]; simp only [cond_true]; rw [hrel4]; first | (rw [allFrom_step (by omega)]; simp [*]; trace_state; done) | (rw [allFrom_end (by omega)])
      · skip
        intro hb_10f
        have hp_12 := bne_f hb_10f
        refine WC.skip ?_
        change WC _ _ _ _ _ _
        refine WC.region ?_
        refine WR.v (v := .int .i64 ((k4 : Nat) : Int)) rfl rfl rfl ?_ ?_
        · refine QV.qo ?_; exact q_move rfl h4_5
        refine WR.v (v := .int .i64 ((k4 + 1 : Nat) : Int)) rfl rfl rfl ?_ ?_
        · refine QV.qo ?_; exact q_add (k := .i64) (a := ((k4 : Nat) : Int)) (b := 1) (r := ((k4 + 1 : Nat) : Int)) rfl (by kernel_rfl) (by kernel_rfl) (wr64 (by omega) (by omega))
        refine WR.v (v := .int .i64 ((k4 + 1 : Nat) : Int)) rfl rfl rfl ?_ ?_
        · refine QV.qo ?_; exact q_assign rfl (by kernel_rfl)
        refine WR.nil ?_
        intro w hw
        refine ⟨_, ?_, k4 + 1, rfl, (by first | trivial | omega), ?_, ⟨h4_0, h4_1, by kernel_rfl⟩, hw⟩
        · omega
        · rw [hrel4, allFrom_step (by omega)]; first | (simp only [hb_1f, hb_8t, hb_10f, Bool.not_true, Bool.not_false, Bool.and_false, Bool.false_and, Bool.and_true, Bool.true_and, Bool.or_true, Bool.true_or, Bool.or_false, Bool.false_or, cond_true, cond_false]; done) | (simp [hb_1f, hp_3, hb_8t, hp_9, hb_10f, hp_12]; done)
    · skip
      intro hb_8f
      have hp_13 := of_decide_eq_false hb_8f
      refine WC.exit ?_
      change WC _ _ _ _ _ _
      refine WC.seq ?_
      refine WC.region ?_
      refine WR.v (v := .bool true) rfl rfl rfl ?_ ?_
      · refine QV.qo ?_; exact q_assign rfl (by kernel_rfl)
      refine WR.nil ?_
      change WC _ _ _ _ _ _
      refine WC.ret ?_
      intro w hw
      refine ⟨congrArg Ending.returned (congrArg (Value.bool) ?_), hw.frE⟩
      show true = intsM a b
      unfold intsM; rw [show (a.length == b.length) = true by simp; omega]; simp only [cond_true]; rw [hrel4]; first | (rw [allFrom_step (by omega)]; simp [*]; trace_state; done) | (rw [allFrom_end (by omega)])

set_option maxRecDepth 100000 in
set_option maxHeartbeats 1000000 in
theorem span_Right_ok (w0 : World) (X : Nat → Prop) (Al : Option Addr) (cl : Nat) (l : (List Span)) (hl : Sl spanT X w0 Al l) (hcl : l.length ≤ cl) (hX : ∀ k, X k → k < w0.heap.size) : Calls Try.prog 69 #[.slice Al l.length cl] w0 fun e w' => e = .returned (.bool (spRight l)) ∧ Fr no w0 w' := by
  have hll := hl.le_
  refine calls_of (N := 65) (rs := [2]) (args := [.slice Al l.length cl]) Try.func69 rfl Try.ntmps69 Try.results69 rfl ?_
  refine WC.here (C := CC no w0 X w0 []) ?_ (Cur.start w0 X)
  refine WC.seq ?_
  refine WC.region ?_
  refine WR.v (v := .bool false) rfl rfl rfl ?_ ?_
  · refine QV.qo ?_; exact q_assign rfl (by kernel_rfl)
  refine WR.nil ?_
  change WC _ _ _ _ _ _
  refine WC.seq ?_
  refine WC.region ?_
  refine WR.v (v := .agg #[.int .i64 0, .int .i64 0, .int .i64 0]) rfl rfl rfl ?_ ?_
  · refine QV.qo ?_; exact q_build' (ps := #[]) rfl (bargs0 ) (fun w => by kernel_rfl)
  refine e_alloc (z := .agg #[.int .i64 0, .int .i64 0, .int .i64 0]) rfl rfl rfl rfl Try.zeroValue106 ?_
  intro g_1 hg_1 hg_1e
  change WR _ _ _ (CC _ _ _ _ [[(g_1, .cells #[.int .i64 0, .int .i64 0, .int .i64 0] 106 (0, 0))]]) _ _ _
  refine e_store_loc (i := 0) (g := g_1) (j := 0) (v := .agg #[.int .i64 0, .int .i64 0, .int .i64 0]) (new := #[.int .i64 0, .int .i64 0, .int .i64 0]) (L' := [[(g_1, .cells #[.int .i64 0, .int .i64 0, .int .i64 0] 106 (0, 0))]]) rfl rfl rfl (by kernel_rfl) (by kernel_rfl) Try.sizeOf106 rfl rfl rfl rfl rfl rfl ?_
  refine WR.nil ?_
  change WC _ _ _ _ _ _
  refine WC.seq ?_
  refine WC.seq ?_
  refine WC.region ?_
  refine WR.v (v := .slice Al l.length cl) rfl rfl rfl ?_ ?_
  · refine QV.qo ?_; exact q_move rfl (by kernel_rfl)
  refine WR.v (v := .int .i64 ((l.length : Nat) : Int)) rfl rfl rfl ?_ ?_
  · refine QV.qo ?_; exact q_len_slice (A := Al) (n := l.length) (c := cl) rfl Try.underlying56 (by kernel_rfl)
  refine WR.v (v := .int .i64 0) rfl rfl rfl ?_ ?_
  · refine QV.qo ?_; exact q_move rfl (by kernel_rfl)
  refine WR.nil ?_
  change WC _ _ _ _ _ _
  refine WC.block ?_
  refine WC.loop (fun (m : Nat) (σ : Env) (w1 : World) => ∃ (k2 : Nat) (last : Span)  , m = l.length - k2 ∧ (k2 ≤ l.length) ∧ (spGo l ⟨0, 0, 0⟩ = spGo (l.drop k2) last) ∧ (0 ≤ last.t ∧ last.t ≤ 4611686018427387904) ∧ (σ 0 = .slice Al l.length cl ∧ σ 3 = .pointer (some ⟨g_1, 0, none⟩) ∧ σ 7 = .slice Al l.length cl ∧ σ 8 = .int .i64 ((l.length : Nat) : Int) ∧ σ 9 = .int .i64 ((k2 : Nat) : Int)) ∧ CC no w0 X w0 [[(g_1, .cells #[.int .i64 last.s, .int .i64 last.f, .int .i64 last.t] 106 (0, 0))]] w1) ?_ ?_
  · intro w1 hw
    exact ⟨_, 0, ⟨0, 0, 0⟩, rfl, (by first | trivial | omega), rfl, (by decide), ⟨by kernel_rfl, by kernel_rfl, by kernel_rfl, by kernel_rfl, by kernel_rfl⟩, hw⟩
  intro m2 σ2 w1 hI
  obtain ⟨k2, last, rfl, hk2, hrel2, hlb, ⟨h2_0, h2_3, h2_7, h2_8, h2_9⟩, hw⟩ := hI
  refine WC.here (C := CC no w0 X w0 [[(g_1, .cells #[.int .i64 last.s, .int .i64 last.f, .int .i64 last.t] 106 (0, 0))]]) ?_ hw
  clear hw
  refine WC.seq ?_
  refine WC.region ?_
  refine WR.v (v := .bool (decide (((k2 : Nat) : Int) < ((l.length : Nat) : Int)))) rfl rfl rfl ?_ ?_
  · refine QV.qo ?_; exact q_lss (k := .i64) (a := ((k2 : Nat) : Int)) (b := ((l.length : Nat) : Int)) rfl h2_9 h2_8
  refine WR.nil ?_
  change WC _ _ _ _ _ _
  refine WC.seq ?_
  refine WC.cond (b := (decide (((k2 : Nat) : Int) < ((l.length : Nat) : Int)))) (by kernel_rfl) ?_ ?_
  · skip
    intro hb_6t
    have hp_7 := of_decide_eq_true hb_6t
    refine WC.skip ?_
    change WC _ _ _ _ _ _
    refine WC.seq ?_
    refine WC.block ?_
    refine WC.seq ?_
    refine WC.region ?_
    refine WR.v (v := ptrAt Al (k2 * 3)) rfl rfl rfl ?_ ?_
    · refine QV.qo ?_; exact q_index_addr (k := .i64) (A := Al) (n := l.length) (c := cl) (i := k2) rfl Try.underlying56 Try.sizeOf106 h2_7 h2_9 (by omega) (Sl.some_ hl (k := k2) (by omega))
    refine WR.v (v := .agg #[.int .i64 (gt l k2).s, .int .i64 (gt l k2).f, .int .i64 (gt l k2).t]) rfl rfl rfl ?_ ?_
    · refine QV.qo ?_; exact q_load_agg (A := Al) (j := k2 * 3) (vs := [.int .i64 (gt l k2).s, .int .i64 (gt l k2).f, .int .i64 (gt l k2).t]) rfl Try.isAgg106 Try.sizeOf106 (by kernel_rfl) (Sl.some_ hl (k := k2) (by omega)) (fun q hq => match q, hq with | 0, _ => Sl.spanT_0 hl (i := k2) (by omega) | 1, _ => Sl.spanT_1 hl (i := k2) (by omega) | 2, _ => Sl.spanT_2 hl (i := k2) (by omega))
    refine e_alloc (z := .agg #[.int .i64 0, .int .i64 0, .int .i64 0]) rfl rfl rfl rfl Try.zeroValue106 ?_
    intro g_8 hg_8 hg_8e
    change WR _ _ _ (CC _ _ _ _ [[(g_8, .cells #[.int .i64 0, .int .i64 0, .int .i64 0] 106 (0, 0))], [(g_1, .cells #[.int .i64 last.s, .int .i64 last.f, .int .i64 last.t] 106 (0, 0))]]) _ _ _
    refine e_store_loc (i := 0) (g := g_8) (j := 0) (v := .agg #[.int .i64 (gt l k2).s, .int .i64 (gt l k2).f, .int .i64 (gt l k2).t]) (new := #[.int .i64 (gt l k2).s, .int .i64 (gt l k2).f, .int .i64 (gt l k2).t]) (L' := [[(g_8, .cells #[.int .i64 (gt l k2).s, .int .i64 (gt l k2).f, .int .i64 (gt l k2).t] 106 (0, 0))], [(g_1, .cells #[.int .i64 last.s, .int .i64 last.f, .int .i64 last.t] 106 (0, 0))]]) rfl rfl rfl (by kernel_rfl) (by kernel_rfl) Try.sizeOf106 rfl rfl rfl rfl rfl rfl ?_
    refine WR.nil ?_
    change WC _ _ _ _ _ _
    refine WC.seq ?_
    refine WC.seq ?_
    refine WC.region ?_
    refine WR.v (v := .pointer (some ⟨g_8, 0, none⟩)) rfl rfl rfl ?_ ?_
    · refine QV.qo ?_; exact q_field_loc (g := g_8) (j := 0) 0 fld_106_0 rfl (by kernel_rfl) rfl
    refine WR.v (v := .int .i64 (gt l k2).s) rfl rfl rfl ?_ ?_
    · refine QV.qo ?_; exact q_load_loc (i := 0) (g := g_8) (j := 0) (v := .int .i64 (gt l k2).s) rfl Try.isAgg3 (by kernel_rfl) rfl rfl
    refine WR.v (v := .bool (decide ((gt l k2).s < 1))) rfl rfl rfl ?_ ?_
    · refine QV.qo ?_; exact q_lss (k := .i64) (a := (gt l k2).s) (b := 1) rfl (by kernel_rfl) (by kernel_rfl)
    refine WR.v (v := .bool (decide ((gt l k2).s < 1))) rfl rfl rfl ?_ ?_
    · refine QV.qo ?_; exact q_move rfl (by kernel_rfl)
    refine WR.g0 (v := .pointer (some ⟨g_8, 0, none⟩)) (c0 := true) (g := (decide ((gt l k2).s < 1))) rfl rfl (by kernel_rfl) rfl rfl (fun hc_9 => ?_) ?_
    · refine QV.qo ?_; exact q_field_loc (g := g_8) (j := 0) 0 fld_106_0 rfl (by kernel_rfl) rfl
    refine WR.g0 (v := .int .i64 (gt l k2).s) (c0 := true) (g := (decide ((gt l k2).s < 1))) rfl rfl (by kernel_rfl) rfl rfl (fun hc_10 => ?_) ?_
    · refine QV.qo ?_; exact q_load_loc (i := 0) (g := g_8) (j := 0) (v := .int .i64 (gt l k2).s) rfl Try.isAgg3 (gv_of hc_10) rfl rfl
    refine WR.g0 (v := .bool (decide (16 < (gt l k2).s))) (c0 := true) (g := (decide ((gt l k2).s < 1))) rfl rfl (by kernel_rfl) rfl rfl (fun hc_11 => ?_) ?_
    · refine QV.qo ?_; exact q_gtr (k := .i64) (a := (gt l k2).s) (b := 16) rfl (gv_of hc_11) (by kernel_rfl)
    refine WR.v (v := .bool ((decide ((gt l k2).s < 1)) || (decide (16 < (gt l k2).s)))) rfl rfl rfl ?_ ?_
    · refine QV.qo ?_; exact q_pick (g := (decide ((gt l k2).s < 1))) rfl (by kernel_rfl) (pk_or (c := true) rfl)
    refine WR.v (v := .bool ((decide ((gt l k2).s < 1)) || (decide (16 < (gt l k2).s)))) rfl rfl rfl ?_ ?_
    · refine QV.qo ?_; exact q_move rfl (by kernel_rfl)
    refine WR.g0 (v := .pointer (some ⟨g_8, 1, none⟩)) (c0 := true) (g := ((decide ((gt l k2).s < 1)) || (decide (16 < (gt l k2).s)))) rfl rfl (by kernel_rfl) rfl rfl (fun hc_12 => ?_) ?_
    · refine QV.qo ?_; exact q_field_loc (g := g_8) (j := 0) 1 fld_106_1 rfl (by kernel_rfl) rfl
    refine WR.g0 (v := .int .i64 (gt l k2).f) (c0 := true) (g := ((decide ((gt l k2).s < 1)) || (decide (16 < (gt l k2).s)))) rfl rfl (by kernel_rfl) rfl rfl (fun hc_13 => ?_) ?_
    · refine QV.qo ?_; exact q_load_loc (i := 0) (g := g_8) (j := 1) (v := .int .i64 (gt l k2).f) rfl Try.isAgg2 (gv_of hc_13) rfl rfl
    refine WR.g0 (v := .bool (decide ((gt l k2).f < 1))) (c0 := true) (g := ((decide ((gt l k2).s < 1)) || (decide (16 < (gt l k2).s)))) rfl rfl (by kernel_rfl) rfl rfl (fun hc_14 => ?_) ?_
    · refine QV.qo ?_; exact q_lss (k := .i64) (a := (gt l k2).f) (b := 1) rfl (gv_of hc_14) (by kernel_rfl)
    refine WR.v (v := .bool (((decide ((gt l k2).s < 1)) || (decide (16 < (gt l k2).s))) || (decide ((gt l k2).f < 1)))) rfl rfl rfl ?_ ?_
    · refine QV.qo ?_; exact q_pick (g := ((decide ((gt l k2).s < 1)) || (decide (16 < (gt l k2).s)))) rfl (by kernel_rfl) (pk_or (c := true) rfl)
    refine WR.v (v := .bool (((decide ((gt l k2).s < 1)) || (decide (16 < (gt l k2).s))) || (decide ((gt l k2).f < 1)))) rfl rfl rfl ?_ ?_
    · refine QV.qo ?_; exact q_move rfl (by kernel_rfl)
    refine WR.g0 (v := .pointer (some ⟨g_8, 1, none⟩)) (c0 := true) (g := (((decide ((gt l k2).s < 1)) || (decide (16 < (gt l k2).s))) || (decide ((gt l k2).f < 1)))) rfl rfl (by kernel_rfl) rfl rfl (fun hc_15 => ?_) ?_
    · refine QV.qo ?_; exact q_field_loc (g := g_8) (j := 0) 1 fld_106_1 rfl (by kernel_rfl) rfl
    refine WR.g0 (v := .int .i64 (gt l k2).f) (c0 := true) (g := (((decide ((gt l k2).s < 1)) || (decide (16 < (gt l k2).s))) || (decide ((gt l k2).f < 1)))) rfl rfl (by kernel_rfl) rfl rfl (fun hc_16 => ?_) ?_
    · refine QV.qo ?_; exact q_load_loc (i := 0) (g := g_8) (j := 1) (v := .int .i64 (gt l k2).f) rfl Try.isAgg2 (gv_of hc_16) rfl rfl
    refine WR.g0 (v := .pointer (some ⟨g_8, 2, none⟩)) (c0 := true) (g := (((decide ((gt l k2).s < 1)) || (decide (16 < (gt l k2).s))) || (decide ((gt l k2).f < 1)))) rfl rfl (by kernel_rfl) rfl rfl (fun hc_17 => ?_) ?_
    · refine QV.qo ?_; exact q_field_loc (g := g_8) (j := 0) 2 fld_106_2 rfl (by kernel_rfl) rfl
    refine WR.g0 (v := .int .i64 (gt l k2).t) (c0 := true) (g := (((decide ((gt l k2).s < 1)) || (decide (16 < (gt l k2).s))) || (decide ((gt l k2).f < 1)))) rfl rfl (by kernel_rfl) rfl rfl (fun hc_18 => ?_) ?_
    · refine QV.qo ?_; exact q_load_loc (i := 0) (g := g_8) (j := 2) (v := .int .i64 (gt l k2).t) rfl Try.isAgg2 (gv_of hc_18) rfl rfl
    refine WR.g0 (v := .bool (decide ((gt l k2).t < (gt l k2).f))) (c0 := true) (g := (((decide ((gt l k2).s < 1)) || (decide (16 < (gt l k2).s))) || (decide ((gt l k2).f < 1)))) rfl rfl (by kernel_rfl) rfl rfl (fun hc_19 => ?_) ?_
    · refine QV.qo ?_; exact q_gtr (k := .i64) (a := (gt l k2).f) (b := (gt l k2).t) rfl (gv_of hc_19) (gv_of hc_19)
    refine WR.v (v := .bool ((((decide ((gt l k2).s < 1)) || (decide (16 < (gt l k2).s))) || (decide ((gt l k2).f < 1))) || (decide ((gt l k2).t < (gt l k2).f)))) rfl rfl rfl ?_ ?_
    · refine QV.qo ?_; exact q_pick (g := (((decide ((gt l k2).s < 1)) || (decide (16 < (gt l k2).s))) || (decide ((gt l k2).f < 1)))) rfl (by kernel_rfl) (pk_or (c := true) rfl)
    refine WR.v (v := .bool ((((decide ((gt l k2).s < 1)) || (decide (16 < (gt l k2).s))) || (decide ((gt l k2).f < 1))) || (decide ((gt l k2).t < (gt l k2).f)))) rfl rfl rfl ?_ ?_
    · refine QV.qo ?_; exact q_move rfl (by kernel_rfl)
    refine WR.g0 (v := .pointer (some ⟨g_8, 2, none⟩)) (c0 := true) (g := ((((decide ((gt l k2).s < 1)) || (decide (16 < (gt l k2).s))) || (decide ((gt l k2).f < 1))) || (decide ((gt l k2).t < (gt l k2).f)))) rfl rfl (by kernel_rfl) rfl rfl (fun hc_20 => ?_) ?_
    · refine QV.qo ?_; exact q_field_loc (g := g_8) (j := 0) 2 fld_106_2 rfl (by kernel_rfl) rfl
    refine WR.g0 (v := .int .i64 (gt l k2).t) (c0 := true) (g := ((((decide ((gt l k2).s < 1)) || (decide (16 < (gt l k2).s))) || (decide ((gt l k2).f < 1))) || (decide ((gt l k2).t < (gt l k2).f)))) rfl rfl (by kernel_rfl) rfl rfl (fun hc_21 => ?_) ?_
    · refine QV.qo ?_; exact q_load_loc (i := 0) (g := g_8) (j := 2) (v := .int .i64 (gt l k2).t) rfl Try.isAgg2 (gv_of hc_21) rfl rfl
    refine WR.g0 (v := .bool (decide (4611686018427387904 < (gt l k2).t))) (c0 := true) (g := ((((decide ((gt l k2).s < 1)) || (decide (16 < (gt l k2).s))) || (decide ((gt l k2).f < 1))) || (decide ((gt l k2).t < (gt l k2).f)))) rfl rfl (by kernel_rfl) rfl rfl (fun hc_22 => ?_) ?_
    · refine QV.qo ?_; exact q_gtr (k := .i64) (a := (gt l k2).t) (b := 4611686018427387904) rfl (gv_of hc_22) (by kernel_rfl)
    refine WR.v (v := .bool (((((decide ((gt l k2).s < 1)) || (decide (16 < (gt l k2).s))) || (decide ((gt l k2).f < 1))) || (decide ((gt l k2).t < (gt l k2).f))) || (decide (4611686018427387904 < (gt l k2).t)))) rfl rfl rfl ?_ ?_
    · refine QV.qo ?_; exact q_pick (g := ((((decide ((gt l k2).s < 1)) || (decide (16 < (gt l k2).s))) || (decide ((gt l k2).f < 1))) || (decide ((gt l k2).t < (gt l k2).f)))) rfl (by kernel_rfl) (pk_or (c := true) rfl)
    refine WR.v (v := .bool (((((decide ((gt l k2).s < 1)) || (decide (16 < (gt l k2).s))) || (decide ((gt l k2).f < 1))) || (decide ((gt l k2).t < (gt l k2).f))) || (decide (4611686018427387904 < (gt l k2).t)))) rfl rfl rfl ?_ ?_
    · refine QV.qo ?_; exact q_move rfl (by kernel_rfl)
    refine WR.g0 (v := .pointer (some ⟨g_8, 0, none⟩)) (c0 := true) (g := (((((decide ((gt l k2).s < 1)) || (decide (16 < (gt l k2).s))) || (decide ((gt l k2).f < 1))) || (decide ((gt l k2).t < (gt l k2).f))) || (decide (4611686018427387904 < (gt l k2).t)))) rfl rfl (by kernel_rfl) rfl rfl (fun hc_23 => ?_) ?_
    · refine QV.qo ?_; exact q_field_loc (g := g_8) (j := 0) 0 fld_106_0 rfl (by kernel_rfl) rfl
    refine WR.g0 (v := .int .i64 (gt l k2).s) (c0 := true) (g := (((((decide ((gt l k2).s < 1)) || (decide (16 < (gt l k2).s))) || (decide ((gt l k2).f < 1))) || (decide ((gt l k2).t < (gt l k2).f))) || (decide (4611686018427387904 < (gt l k2).t)))) rfl rfl (by kernel_rfl) rfl rfl (fun hc_24 => ?_) ?_
    · refine QV.qo ?_; exact q_load_loc (i := 0) (g := g_8) (j := 0) (v := .int .i64 (gt l k2).s) rfl Try.isAgg3 (gv_of hc_24) rfl rfl
    refine WR.g0 (v := .pointer (some ⟨g_1, 0, none⟩)) (c0 := true) (g := (((((decide ((gt l k2).s < 1)) || (decide (16 < (gt l k2).s))) || (decide ((gt l k2).f < 1))) || (decide ((gt l k2).t < (gt l k2).f))) || (decide (4611686018427387904 < (gt l k2).t)))) rfl rfl (by kernel_rfl) rfl rfl (fun hc_25 => ?_) ?_
    · refine QV.qo ?_; exact q_field_loc (g := g_1) (j := 0) 0 fld_106_0 rfl h2_3 rfl
    refine WR.g0 (v := .int .i64 last.s) (c0 := true) (g := (((((decide ((gt l k2).s < 1)) || (decide (16 < (gt l k2).s))) || (decide ((gt l k2).f < 1))) || (decide ((gt l k2).t < (gt l k2).f))) || (decide (4611686018427387904 < (gt l k2).t)))) rfl rfl (by kernel_rfl) rfl rfl (fun hc_26 => ?_) ?_
    · refine QV.qo ?_; exact q_load_loc (i := 1) (g := g_1) (j := 0) (v := .int .i64 last.s) rfl Try.isAgg3 (gv_of hc_26) rfl rfl
    refine WR.g0 (v := .bool (decide ((gt l k2).s < last.s))) (c0 := true) (g := (((((decide ((gt l k2).s < 1)) || (decide (16 < (gt l k2).s))) || (decide ((gt l k2).f < 1))) || (decide ((gt l k2).t < (gt l k2).f))) || (decide (4611686018427387904 < (gt l k2).t)))) rfl rfl (by kernel_rfl) rfl rfl (fun hc_27 => ?_) ?_
    · refine QV.qo ?_; exact q_lss (k := .i64) (a := (gt l k2).s) (b := last.s) rfl (gv_of hc_27) (gv_of hc_27)
    refine WR.v (v := .bool ((((((decide ((gt l k2).s < 1)) || (decide (16 < (gt l k2).s))) || (decide ((gt l k2).f < 1))) || (decide ((gt l k2).t < (gt l k2).f))) || (decide (4611686018427387904 < (gt l k2).t))) || (decide ((gt l k2).s < last.s)))) rfl rfl rfl ?_ ?_
    · refine QV.qo ?_; exact q_pick (g := (((((decide ((gt l k2).s < 1)) || (decide (16 < (gt l k2).s))) || (decide ((gt l k2).f < 1))) || (decide ((gt l k2).t < (gt l k2).f))) || (decide (4611686018427387904 < (gt l k2).t)))) rfl (by kernel_rfl) (pk_or (c := true) rfl)
    refine WR.v (v := .bool ((((((decide ((gt l k2).s < 1)) || (decide (16 < (gt l k2).s))) || (decide ((gt l k2).f < 1))) || (decide ((gt l k2).t < (gt l k2).f))) || (decide (4611686018427387904 < (gt l k2).t))) || (decide ((gt l k2).s < last.s)))) rfl rfl rfl ?_ ?_
    · refine QV.qo ?_; exact q_move rfl (by kernel_rfl)
    refine WR.g0 (v := .pointer (some ⟨g_8, 0, none⟩)) (c0 := true) (g := ((((((decide ((gt l k2).s < 1)) || (decide (16 < (gt l k2).s))) || (decide ((gt l k2).f < 1))) || (decide ((gt l k2).t < (gt l k2).f))) || (decide (4611686018427387904 < (gt l k2).t))) || (decide ((gt l k2).s < last.s)))) rfl rfl (by kernel_rfl) rfl rfl (fun hc_28 => ?_) ?_
    · refine QV.qo ?_; exact q_field_loc (g := g_8) (j := 0) 0 fld_106_0 rfl (by kernel_rfl) rfl
    refine WR.g0 (v := .int .i64 (gt l k2).s) (c0 := true) (g := ((((((decide ((gt l k2).s < 1)) || (decide (16 < (gt l k2).s))) || (decide ((gt l k2).f < 1))) || (decide ((gt l k2).t < (gt l k2).f))) || (decide (4611686018427387904 < (gt l k2).t))) || (decide ((gt l k2).s < last.s)))) rfl rfl (by kernel_rfl) rfl rfl (fun hc_29 => ?_) ?_
    · refine QV.qo ?_; exact q_load_loc (i := 0) (g := g_8) (j := 0) (v := .int .i64 (gt l k2).s) rfl Try.isAgg3 (gv_of hc_29) rfl rfl
    refine WR.g0 (v := .pointer (some ⟨g_1, 0, none⟩)) (c0 := true) (g := ((((((decide ((gt l k2).s < 1)) || (decide (16 < (gt l k2).s))) || (decide ((gt l k2).f < 1))) || (decide ((gt l k2).t < (gt l k2).f))) || (decide (4611686018427387904 < (gt l k2).t))) || (decide ((gt l k2).s < last.s)))) rfl rfl (by kernel_rfl) rfl rfl (fun hc_30 => ?_) ?_
    · refine QV.qo ?_; exact q_field_loc (g := g_1) (j := 0) 0 fld_106_0 rfl h2_3 rfl
    refine WR.g0 (v := .int .i64 last.s) (c0 := true) (g := ((((((decide ((gt l k2).s < 1)) || (decide (16 < (gt l k2).s))) || (decide ((gt l k2).f < 1))) || (decide ((gt l k2).t < (gt l k2).f))) || (decide (4611686018427387904 < (gt l k2).t))) || (decide ((gt l k2).s < last.s)))) rfl rfl (by kernel_rfl) rfl rfl (fun hc_31 => ?_) ?_
    · refine QV.qo ?_; exact q_load_loc (i := 1) (g := g_1) (j := 0) (v := .int .i64 last.s) rfl Try.isAgg3 (gv_of hc_31) rfl rfl
    refine WR.g0 (v := .bool ((gt l k2).s == last.s)) (c0 := true) (g := ((((((decide ((gt l k2).s < 1)) || (decide (16 < (gt l k2).s))) || (decide ((gt l k2).f < 1))) || (decide ((gt l k2).t < (gt l k2).f))) || (decide (4611686018427387904 < (gt l k2).t))) || (decide ((gt l k2).s < last.s)))) rfl rfl (by kernel_rfl) rfl rfl (fun hc_32 => ?_) ?_
    · refine QV.qo ?_; exact q_eql (k := .i64) (a := (gt l k2).s) (b := last.s) rfl (gv_of hc_32) (gv_of hc_32)
    refine WR.g0 (v := .bool ((gt l k2).s == last.s)) (c0 := true) (g := ((((((decide ((gt l k2).s < 1)) || (decide (16 < (gt l k2).s))) || (decide ((gt l k2).f < 1))) || (decide ((gt l k2).t < (gt l k2).f))) || (decide (4611686018427387904 < (gt l k2).t))) || (decide ((gt l k2).s < last.s)))) rfl rfl (by kernel_rfl) rfl rfl (fun hc_33 => ?_) ?_
    · refine QV.qo ?_; exact q_move rfl (gv_of hc_33)
    refine WR.g1 (v := .pointer (some ⟨g_8, 1, none⟩)) (c0 := (true && !((((((decide ((gt l k2).s < 1)) || (decide (16 < (gt l k2).s))) || (decide ((gt l k2).f < 1))) || (decide ((gt l k2).t < (gt l k2).f))) || (decide (4611686018427387904 < (gt l k2).t))) || (decide ((gt l k2).s < last.s))))) (g := ((gt l k2).s == last.s)) rfl rfl (by kernel_rfl) rfl rfl (fun hc_34 => ?_) ?_
    · refine QV.qo ?_; exact q_field_loc (g := g_8) (j := 0) 1 fld_106_1 rfl (by kernel_rfl) rfl
    refine WR.g1 (v := .int .i64 (gt l k2).f) (c0 := (true && !((((((decide ((gt l k2).s < 1)) || (decide (16 < (gt l k2).s))) || (decide ((gt l k2).f < 1))) || (decide ((gt l k2).t < (gt l k2).f))) || (decide (4611686018427387904 < (gt l k2).t))) || (decide ((gt l k2).s < last.s))))) (g := ((gt l k2).s == last.s)) rfl rfl (by kernel_rfl) rfl rfl (fun hc_35 => ?_) ?_
    · refine QV.qo ?_; exact q_load_loc (i := 0) (g := g_8) (j := 1) (v := .int .i64 (gt l k2).f) rfl Try.isAgg2 (gv_of hc_35) rfl rfl
    refine WR.g1 (v := .pointer (some ⟨g_1, 2, none⟩)) (c0 := (true && !((((((decide ((gt l k2).s < 1)) || (decide (16 < (gt l k2).s))) || (decide ((gt l k2).f < 1))) || (decide ((gt l k2).t < (gt l k2).f))) || (decide (4611686018427387904 < (gt l k2).t))) || (decide ((gt l k2).s < last.s))))) (g := ((gt l k2).s == last.s)) rfl rfl (by kernel_rfl) rfl rfl (fun hc_36 => ?_) ?_
    · refine QV.qo ?_; exact q_field_loc (g := g_1) (j := 0) 2 fld_106_2 rfl h2_3 rfl
    refine WR.g1 (v := .int .i64 last.t) (c0 := (true && !((((((decide ((gt l k2).s < 1)) || (decide (16 < (gt l k2).s))) || (decide ((gt l k2).f < 1))) || (decide ((gt l k2).t < (gt l k2).f))) || (decide (4611686018427387904 < (gt l k2).t))) || (decide ((gt l k2).s < last.s))))) (g := ((gt l k2).s == last.s)) rfl rfl (by kernel_rfl) rfl rfl (fun hc_37 => ?_) ?_
    · refine QV.qo ?_; exact q_load_loc (i := 1) (g := g_1) (j := 2) (v := .int .i64 last.t) rfl Try.isAgg2 (gv_of hc_37) rfl rfl
    refine WR.g1 (v := .int .i64 (last.t + 1)) (c0 := (true && !((((((decide ((gt l k2).s < 1)) || (decide (16 < (gt l k2).s))) || (decide ((gt l k2).f < 1))) || (decide ((gt l k2).t < (gt l k2).f))) || (decide (4611686018427387904 < (gt l k2).t))) || (decide ((gt l k2).s < last.s))))) (g := ((gt l k2).s == last.s)) rfl rfl (by kernel_rfl) rfl rfl (fun hc_38 => ?_) ?_
    · refine QV.qo ?_; exact q_add (k := .i64) (a := last.t) (b := 1) (r := (last.t + 1)) rfl (gv_of hc_38) (by kernel_rfl) (wr64 (by first | omega | (simp at hc_38; omega)) (by first | omega | (simp at hc_38; omega)))
    refine WR.g1 (v := .bool (decide ((gt l k2).f ≤ (last.t + 1)))) (c0 := (true && !((((((decide ((gt l k2).s < 1)) || (decide (16 < (gt l k2).s))) || (decide ((gt l k2).f < 1))) || (decide ((gt l k2).t < (gt l k2).f))) || (decide (4611686018427387904 < (gt l k2).t))) || (decide ((gt l k2).s < last.s))))) (g := ((gt l k2).s == last.s)) rfl rfl (by kernel_rfl) rfl rfl (fun hc_39 => ?_) ?_
    · refine QV.qo ?_; exact q_leq (k := .i64) (a := (gt l k2).f) (b := (last.t + 1)) rfl (gv_of hc_39) (gv_of hc_39)
    refine WR.g0 (v := .bool (((gt l k2).s == last.s) && (decide ((gt l k2).f ≤ (last.t + 1))))) (c0 := true) (g := ((((((decide ((gt l k2).s < 1)) || (decide (16 < (gt l k2).s))) || (decide ((gt l k2).f < 1))) || (decide ((gt l k2).t < (gt l k2).f))) || (decide (4611686018427387904 < (gt l k2).t))) || (decide ((gt l k2).s < last.s)))) rfl rfl (by kernel_rfl) rfl rfl (fun hc_40 => ?_) ?_
    · refine QV.qo ?_; exact q_pick (g := ((gt l k2).s == last.s)) rfl (gv_of hc_40) (pk_and (c := (true && !((((((decide ((gt l k2).s < 1)) || (decide (16 < (gt l k2).s))) || (decide ((gt l k2).f < 1))) || (decide ((gt l k2).t < (gt l k2).f))) || (decide (4611686018427387904 < (gt l k2).t))) || (decide ((gt l k2).s < last.s))))) hc_40)
    refine WR.v (v := .bool (((((((decide ((gt l k2).s < 1)) || (decide (16 < (gt l k2).s))) || (decide ((gt l k2).f < 1))) || (decide ((gt l k2).t < (gt l k2).f))) || (decide (4611686018427387904 < (gt l k2).t))) || (decide ((gt l k2).s < last.s))) || (((gt l k2).s == last.s) && (decide ((gt l k2).f ≤ (last.t + 1)))))) rfl rfl rfl ?_ ?_
    · refine QV.qo ?_; exact q_pick (g := ((((((decide ((gt l k2).s < 1)) || (decide (16 < (gt l k2).s))) || (decide ((gt l k2).f < 1))) || (decide ((gt l k2).t < (gt l k2).f))) || (decide (4611686018427387904 < (gt l k2).t))) || (decide ((gt l k2).s < last.s)))) rfl (by kernel_rfl) (pk_or (c := true) rfl)
    refine WR.nil ?_
    change WC _ _ _ _ _ _
    refine WC.cond (b := (((((((decide ((gt l k2).s < 1)) || (decide (16 < (gt l k2).s))) || (decide ((gt l k2).f < 1))) || (decide ((gt l k2).t < (gt l k2).f))) || (decide (4611686018427387904 < (gt l k2).t))) || (decide ((gt l k2).s < last.s))) || (((gt l k2).s == last.s) && (decide ((gt l k2).f ≤ (last.t + 1)))))) (by kernel_rfl) ?_ ?_
    · skip
      intro hb_41t
      refine WC.seq ?_
      refine WC.region ?_
      refine WR.v (v := .bool false) rfl rfl rfl ?_ ?_
      · refine QV.qo ?_; exact q_assign rfl (by kernel_rfl)
      refine WR.nil ?_
      change WC _ _ _ _ _ _
      refine WC.ret ?_
      intro w hw
      refine ⟨congrArg Ending.returned (congrArg (Value.bool) ?_), hw.frE⟩
      show false = spRight l
      unfold spRight; rw [hrel2]; first | (rw [drop_gt (by omega)]; simp only [spGo, spBad]; simp [*]; done) | (rw [List.drop_of_length_le (by omega)]; simp [spGo])
    · skip
      intro hb_41f
      have hp_42 := of_decide_eq_false (or_l (or_l (or_l (or_l (or_l (or_l hb_41f))))))
      have hp_43 := of_decide_eq_false (or_r (or_l (or_l (or_l (or_l (or_l hb_41f))))))
      have hp_44 := of_decide_eq_false (or_r (or_l (or_l (or_l (or_l hb_41f)))))
      have hp_45 := of_decide_eq_false (or_r (or_l (or_l (or_l hb_41f))))
      have hp_46 := of_decide_eq_false (or_r (or_l (or_l hb_41f)))
      have hp_47 := of_decide_eq_false (or_r (or_l hb_41f))
      have hp_48 := (or_r hb_41f)
      refine WC.skip ?_
      change WC _ _ _ _ _ _
      refine WC.region ?_
      refine WR.v (v := .agg #[.int .i64 (gt l k2).s, .int .i64 (gt l k2).f, .int .i64 (gt l k2).t]) rfl rfl rfl ?_ ?_
      · refine QV.qo ?_; exact q_load_loc_agg (i := 0) (g := g_8) (j := 0) (vs := [.int .i64 (gt l k2).s, .int .i64 (gt l k2).f, .int .i64 (gt l k2).t]) rfl Try.isAgg106 Try.sizeOf106 (by kernel_rfl) rfl rfl
      refine e_store_loc (i := 1) (g := g_1) (j := 0) (v := .agg #[.int .i64 (gt l k2).s, .int .i64 (gt l k2).f, .int .i64 (gt l k2).t]) (new := #[.int .i64 (gt l k2).s, .int .i64 (gt l k2).f, .int .i64 (gt l k2).t]) (L' := [[(g_8, .cells #[.int .i64 (gt l k2).s, .int .i64 (gt l k2).f, .int .i64 (gt l k2).t] 106 (0, 0))], [(g_1, .cells #[.int .i64 (gt l k2).s, .int .i64 (gt l k2).f, .int .i64 (gt l k2).t] 106 (0, 0))]]) rfl rfl rfl h2_3 (by kernel_rfl) Try.sizeOf106 rfl rfl rfl rfl rfl rfl ?_
      refine WR.nil ?_
      change WC _ _ _ _ _ _
      refine WC.region ?_
      refine WR.v (v := .int .i64 ((k2 + 1 : Nat) : Int)) rfl rfl rfl ?_ ?_
      · refine QV.qo ?_; exact q_add (k := .i64) (a := ((k2 : Nat) : Int)) (b := 1) (r := ((k2 + 1 : Nat) : Int)) rfl h2_9 (by kernel_rfl) (wr64 (by omega) (by omega))
      refine WR.v (v := .int .i64 ((k2 + 1 : Nat) : Int)) rfl rfl rfl ?_ ?_
      · refine QV.qo ?_; exact q_move rfl (by kernel_rfl)
      refine WR.nil ?_
      intro w hw
      refine ⟨_, ?_, k2 + 1, (gt l k2), rfl, (by first | trivial | omega), ?_, (by simp at *; omega), ⟨h2_0, h2_3, h2_7, h2_8, by kernel_rfl⟩, hw.tail⟩
      · omega
      · rw [hrel2, drop_gt (by omega)]; simp only [spGo, spBad]; simp [*]
  · skip
    intro hb_6f
    have hp_49 := of_decide_eq_false hb_6f
    refine WC.exit ?_
    change WC _ _ _ _ _ _
    refine WC.seq ?_
    refine WC.region ?_
    refine WR.v (v := .slice Al l.length cl) rfl rfl rfl ?_ ?_
    · refine QV.qo ?_; exact q_move rfl h2_0
    refine WR.v (v := .int .i64 ((l.length : Nat) : Int)) rfl rfl rfl ?_ ?_
    · refine QV.qo ?_; exact q_len_slice (A := Al) (n := l.length) (c := cl) rfl Try.underlying56 (by kernel_rfl)
    refine WR.v (v := .bool (decide (((l.length : Nat) : Int) ≤ 1024))) rfl rfl rfl ?_ ?_
    · refine QV.qo ?_; exact q_leq (k := .i64) (a := ((l.length : Nat) : Int)) (b := 1024) rfl (by kernel_rfl) (by kernel_rfl)
    refine WR.v (v := .bool (decide (((l.length : Nat) : Int) ≤ 1024))) rfl rfl rfl ?_ ?_
    · refine QV.qo ?_; exact q_assign rfl (by kernel_rfl)
    refine WR.nil ?_
    change WC _ _ _ _ _ _
    refine WC.ret ?_
    intro w hw
    refine ⟨congrArg Ending.returned (congrArg (Value.bool) ?_), hw.frE⟩
    show (decide (((l.length : Nat) : Int) ≤ 1024)) = spRight l
    unfold spRight; rw [hrel2]; first | (rw [drop_gt (by omega)]; simp only [spGo, spBad]; simp [*]; done) | (rw [List.drop_of_length_le (by omega)]; simp [spGo])

set_option maxRecDepth 100000 in
set_option maxHeartbeats 1000000 in
theorem span_Top_ok (w0 : World) (X : Nat → Prop) (Al : Option Addr) (cl : Nat) (l : (List Span)) (hl : Sl spanT X w0 Al l) (hcl : l.length ≤ cl) (s : Int) (hs : I64 s) (hX : ∀ k, X k → k < w0.heap.size) : Calls Try.prog 70 #[.slice Al l.length cl, .int .i64 s] w0 fun e w' => e = .returned (.int .i64 (spTop l s)) ∧ Fr no w0 w' := by
  have hll := hl.le_
  refine calls_of (N := 24) (rs := [4]) (args := [.slice Al l.length cl, .int .i64 s]) Try.func70 rfl Try.ntmps70 Try.results70 rfl ?_
  refine WC.here (C := CC no w0 X w0 []) ?_ (Cur.start w0 X)
  refine WC.seq ?_
  refine WC.region ?_
  refine WR.v (v := .int .i64 0) rfl rfl rfl ?_ ?_
  · refine QV.qo ?_; exact q_assign rfl (by kernel_rfl)
  refine WR.nil ?_
  change WC _ _ _ _ _ _
  refine WC.seq ?_
  refine WC.region ?_
  refine WR.v (v := .int .i64 0) rfl rfl rfl ?_ ?_
  · refine QV.qo ?_; exact q_assign rfl (by kernel_rfl)
  refine WR.nil ?_
  change WC _ _ _ _ _ _
  refine WC.seq ?_
  refine WC.seq ?_
  refine WC.region ?_
  refine WR.v (v := .slice Al l.length cl) rfl rfl rfl ?_ ?_
  · refine QV.qo ?_; exact q_move rfl (by kernel_rfl)
  refine WR.v (v := .int .i64 ((l.length : Nat) : Int)) rfl rfl rfl ?_ ?_
  · refine QV.qo ?_; exact q_len_slice (A := Al) (n := l.length) (c := cl) rfl Try.underlying56 (by kernel_rfl)
  refine WR.v (v := .int .i64 0) rfl rfl rfl ?_ ?_
  · refine QV.qo ?_; exact q_move rfl (by kernel_rfl)
  refine WR.nil ?_
  change WC _ _ _ _ _ _
  refine WC.block ?_
  refine WC.loop (fun (m : Nat) (σ : Env) (w1 : World) => ∃ (k1 : Nat) (top : Int)  , m = l.length - k1 ∧ (k1 ≤ l.length) ∧ (spTop l s = spTopGo (l.drop k1) s top) ∧ (σ 1 = .int .i64 s ∧ σ 5 = .int .i64 top ∧ σ 8 = .slice Al l.length cl ∧ σ 9 = .int .i64 ((l.length : Nat) : Int) ∧ σ 10 = .int .i64 ((k1 : Nat) : Int)) ∧ CC no w0 X w0 [] w1) ?_ ?_
  · intro w1 hw
    exact ⟨_, 0, 0, rfl, (by first | trivial | omega), rfl, ⟨by kernel_rfl, by kernel_rfl, by kernel_rfl, by kernel_rfl, by kernel_rfl⟩, hw⟩
  intro m1 σ1 w1 hI
  obtain ⟨k1, top, rfl, hk1, hrel1, ⟨h1_1, h1_5, h1_8, h1_9, h1_10⟩, hw⟩ := hI
  refine WC.here (C := CC no w0 X w0 []) ?_ hw
  clear hw
  refine WC.seq ?_
  refine WC.region ?_
  refine WR.v (v := .bool (decide (((k1 : Nat) : Int) < ((l.length : Nat) : Int)))) rfl rfl rfl ?_ ?_
  · refine QV.qo ?_; exact q_lss (k := .i64) (a := ((k1 : Nat) : Int)) (b := ((l.length : Nat) : Int)) rfl h1_10 h1_9
  refine WR.nil ?_
  change WC _ _ _ _ _ _
  refine WC.seq ?_
  refine WC.cond (b := (decide (((k1 : Nat) : Int) < ((l.length : Nat) : Int)))) (by kernel_rfl) ?_ ?_
  · skip
    intro hb_5t
    have hp_6 := of_decide_eq_true hb_5t
    refine WC.skip ?_
    change WC _ _ _ _ _ _
    refine WC.seq ?_
    refine WC.block ?_
    refine WC.seq ?_
    refine WC.region ?_
    refine WR.v (v := ptrAt Al (k1 * 3)) rfl rfl rfl ?_ ?_
    · refine QV.qo ?_; exact q_index_addr (k := .i64) (A := Al) (n := l.length) (c := cl) (i := k1) rfl Try.underlying56 Try.sizeOf106 h1_8 h1_10 (by omega) (Sl.some_ hl (k := k1) (by omega))
    refine WR.v (v := .agg #[.int .i64 (gt l k1).s, .int .i64 (gt l k1).f, .int .i64 (gt l k1).t]) rfl rfl rfl ?_ ?_
    · refine QV.qo ?_; exact q_load_agg (A := Al) (j := k1 * 3) (vs := [.int .i64 (gt l k1).s, .int .i64 (gt l k1).f, .int .i64 (gt l k1).t]) rfl Try.isAgg106 Try.sizeOf106 (by kernel_rfl) (Sl.some_ hl (k := k1) (by omega)) (fun q hq => match q, hq with | 0, _ => Sl.spanT_0 hl (i := k1) (by omega) | 1, _ => Sl.spanT_1 hl (i := k1) (by omega) | 2, _ => Sl.spanT_2 hl (i := k1) (by omega))
    refine e_alloc (z := .agg #[.int .i64 0, .int .i64 0, .int .i64 0]) rfl rfl rfl rfl Try.zeroValue106 ?_
    intro g_7 hg_7 hg_7e
    change WR _ _ _ (CC _ _ _ _ [[(g_7, .cells #[.int .i64 0, .int .i64 0, .int .i64 0] 106 (0, 0))]]) _ _ _
    refine e_store_loc (i := 0) (g := g_7) (j := 0) (v := .agg #[.int .i64 (gt l k1).s, .int .i64 (gt l k1).f, .int .i64 (gt l k1).t]) (new := #[.int .i64 (gt l k1).s, .int .i64 (gt l k1).f, .int .i64 (gt l k1).t]) (L' := [[(g_7, .cells #[.int .i64 (gt l k1).s, .int .i64 (gt l k1).f, .int .i64 (gt l k1).t] 106 (0, 0))]]) rfl rfl rfl (by kernel_rfl) (by kernel_rfl) Try.sizeOf106 rfl rfl rfl rfl rfl rfl ?_
    refine WR.nil ?_
    change WC _ _ _ _ _ _
    refine WC.seq ?_
    refine WC.region ?_
    refine WR.v (v := .pointer (some ⟨g_7, 0, none⟩)) rfl rfl rfl ?_ ?_
    · refine QV.qo ?_; exact q_field_loc (g := g_7) (j := 0) 0 fld_106_0 rfl (by kernel_rfl) rfl
    refine WR.v (v := .int .i64 (gt l k1).s) rfl rfl rfl ?_ ?_
    · refine QV.qo ?_; exact q_load_loc (i := 0) (g := g_7) (j := 0) (v := .int .i64 (gt l k1).s) rfl Try.isAgg3 (by kernel_rfl) rfl rfl
    refine WR.v (v := .int .i64 s) rfl rfl rfl ?_ ?_
    · refine QV.qo ?_; exact q_move rfl h1_1
    refine WR.v (v := .bool ((gt l k1).s == s)) rfl rfl rfl ?_ ?_
    · refine QV.qo ?_; exact q_eql (k := .i64) (a := (gt l k1).s) (b := s) rfl (by kernel_rfl) (by kernel_rfl)
    refine WR.nil ?_
    change WC _ _ _ _ _ _
    refine WC.cond (b := ((gt l k1).s == s)) (by kernel_rfl) ?_ ?_
    · skip
      intro hb_8t
      have hp_9 := eq_of_beq hb_8t
      refine WC.region ?_
      refine WR.v (v := .int .i64 top) rfl rfl rfl ?_ ?_
      · refine QV.qo ?_; exact q_move rfl h1_5
      refine WR.v (v := .pointer (some ⟨g_7, 2, none⟩)) rfl rfl rfl ?_ ?_
      · refine QV.qo ?_; exact q_field_loc (g := g_7) (j := 0) 2 fld_106_2 rfl (by kernel_rfl) rfl
      refine WR.v (v := .int .i64 (gt l k1).t) rfl rfl rfl ?_ ?_
      · refine QV.qo ?_; exact q_load_loc (i := 0) (g := g_7) (j := 2) (v := .int .i64 (gt l k1).t) rfl Try.isAgg2 (by kernel_rfl) rfl rfl
      refine WR.v (v := .int .i64 (max top (gt l k1).t)) rfl rfl rfl ?_ ?_
      · refine QV.qo ?_; exact q_max (k := .i64) (a := top) (b := (gt l k1).t) rfl (by kernel_rfl) (by kernel_rfl)
      refine WR.v (v := .int .i64 (max top (gt l k1).t)) rfl rfl rfl ?_ ?_
      · refine QV.qo ?_; exact q_assign rfl (by kernel_rfl)
      refine WR.nil ?_
      change WC _ _ _ _ _ _
      refine WC.region ?_
      refine WR.v (v := .int .i64 ((k1 + 1 : Nat) : Int)) rfl rfl rfl ?_ ?_
      · refine QV.qo ?_; exact q_add (k := .i64) (a := ((k1 : Nat) : Int)) (b := 1) (r := ((k1 + 1 : Nat) : Int)) rfl h1_10 (by kernel_rfl) (wr64 (by omega) (by omega))
      refine WR.v (v := .int .i64 ((k1 + 1 : Nat) : Int)) rfl rfl rfl ?_ ?_
      · refine QV.qo ?_; exact q_move rfl (by kernel_rfl)
      refine WR.nil ?_
      intro w hw
      refine ⟨_, ?_, k1 + 1, (max top (gt l k1).t), rfl, (by first | trivial | omega), ?_, ⟨h1_1, by kernel_rfl, h1_8, h1_9, by kernel_rfl⟩, hw.tail⟩
      · omega
      · rw [hrel1, drop_gt (by omega)]; simp [spTopGo, *]
    · skip
      intro hb_8f
      have hp_10 := ne_of_beq_false hb_8f
      refine WC.skip ?_
      change WC _ _ _ _ _ _
      refine WC.region ?_
      refine WR.v (v := .int .i64 ((k1 + 1 : Nat) : Int)) rfl rfl rfl ?_ ?_
      · refine QV.qo ?_; exact q_add (k := .i64) (a := ((k1 : Nat) : Int)) (b := 1) (r := ((k1 + 1 : Nat) : Int)) rfl h1_10 (by kernel_rfl) (wr64 (by omega) (by omega))
      refine WR.v (v := .int .i64 ((k1 + 1 : Nat) : Int)) rfl rfl rfl ?_ ?_
      · refine QV.qo ?_; exact q_move rfl (by kernel_rfl)
      refine WR.nil ?_
      intro w hw
      refine ⟨_, ?_, k1 + 1, top, rfl, (by first | trivial | omega), ?_, ⟨h1_1, h1_5, h1_8, h1_9, by kernel_rfl⟩, hw.tail⟩
      · omega
      · rw [hrel1, drop_gt (by omega)]; simp [spTopGo, *]
  · skip
    intro hb_5f
    have hp_11 := of_decide_eq_false hb_5f
    refine WC.exit ?_
    change WC _ _ _ _ _ _
    refine WC.seq ?_
    refine WC.region ?_
    refine WR.v (v := .int .i64 top) rfl rfl rfl ?_ ?_
    · refine QV.qo ?_; exact q_move rfl h1_5
    refine WR.v (v := .int .i64 top) rfl rfl rfl ?_ ?_
    · refine QV.qo ?_; exact q_assign rfl (by kernel_rfl)
    refine WR.nil ?_
    change WC _ _ _ _ _ _
    refine WC.ret ?_
    intro w hw
    refine ⟨congrArg Ending.returned (congrArg (Value.int .i64) ?_), hw.frE⟩
    show top = spTop l s
    rw [hrel1, List.drop_of_length_le (by omega)]; rfl

set_option maxRecDepth 100000 in
set_option maxHeartbeats 1000000 in
theorem ref03_Same_ok (w0 : World) (X : Nat → Prop) (Aa : Option Addr) (ca : Nat) (a : (List Span)) (ha : Sl spanT X w0 Aa a) (hca : a.length ≤ ca) (Ab : Option Addr) (cb : Nat) (b : (List Span)) (hb : Sl spanT X w0 Ab b) (hcb : b.length ≤ cb) (hX : ∀ k, X k → k < w0.heap.size) : Calls Try.prog 64 #[.slice Aa a.length ca, .slice Ab b.length cb] w0 fun e w' => e = .returned (.bool (r3Same a b)) ∧ Fr no w0 w' := by
  have hal := ha.le_
  have hbl := hb.le_
  refine calls_of (N := 26) (rs := [4]) (args := [.slice Aa a.length ca, .slice Ab b.length cb]) Try.func64 rfl Try.ntmps64 Try.results64 rfl ?_
  refine WC.here (C := CC no w0 X w0 []) ?_ (Cur.start w0 X)
  refine WC.seq ?_
  refine WC.region ?_
  refine WR.v (v := .bool false) rfl rfl rfl ?_ ?_
  · refine QV.qo ?_; exact q_assign rfl (by kernel_rfl)
  refine WR.nil ?_
  change WC _ _ _ _ _ _
  refine WC.seq ?_
  refine WC.seq ?_
  refine WC.region ?_
  refine WR.v (v := .slice Aa a.length ca) rfl rfl rfl ?_ ?_
  · refine QV.qo ?_; exact q_move rfl (by kernel_rfl)
  refine WR.v (v := .int .i64 ((a.length : Nat) : Int)) rfl rfl rfl ?_ ?_
  · refine QV.qo ?_; exact q_len_slice (A := Aa) (n := a.length) (c := ca) rfl Try.underlying56 (by kernel_rfl)
  refine WR.v (v := .slice Ab b.length cb) rfl rfl rfl ?_ ?_
  · refine QV.qo ?_; exact q_move rfl (by kernel_rfl)
  refine WR.v (v := .int .i64 ((b.length : Nat) : Int)) rfl rfl rfl ?_ ?_
  · refine QV.qo ?_; exact q_len_slice (A := Ab) (n := b.length) (c := cb) rfl Try.underlying56 (by kernel_rfl)
  refine WR.v (v := .bool (((a.length : Nat) : Int) != ((b.length : Nat) : Int))) rfl rfl rfl ?_ ?_
  · refine QV.qo ?_; exact q_neq (k := .i64) (a := ((a.length : Nat) : Int)) (b := ((b.length : Nat) : Int)) rfl (by kernel_rfl) (by kernel_rfl)
  refine WR.nil ?_
  change WC _ _ _ _ _ _
  refine WC.cond (b := (((a.length : Nat) : Int) != ((b.length : Nat) : Int))) (by kernel_rfl) ?_ ?_
  · skip
    intro hb_1t
    have hp_2 := bne_t hb_1t
    refine WC.seq ?_
    refine WC.region ?_
    refine WR.v (v := .bool false) rfl rfl rfl ?_ ?_
    · refine QV.qo ?_; exact q_assign rfl (by kernel_rfl)
    refine WR.nil ?_
    change WC _ _ _ _ _ _
    refine WC.ret ?_
    intro w hw
    refine ⟨congrArg Ending.returned (congrArg (Value.bool) ?_), hw.frE⟩
    show false = r3Same a b
    unfold r3Same; rw [show (a.length == b.length) = false by simp at *; omega]; rfl
  · skip
    intro hb_1f
    have hp_3 := bne_f hb_1f
    refine WC.skip ?_
    change WC _ _ _ _ _ _
    refine WC.seq ?_
    refine WC.seq ?_
    refine WC.region ?_
    refine WR.v (v := .int .i64 0) rfl rfl rfl ?_ ?_
    · refine QV.qo ?_; exact q_assign rfl (by kernel_rfl)
    refine WR.nil ?_
    change WC _ _ _ _ _ _
    refine WC.block ?_
    refine WC.loop (fun (m : Nat) (σ : Env) (w1 : World) => ∃ (k4 : Nat)   , m = a.length - k4 ∧ (k4 ≤ a.length) ∧ (allFrom (fun i => gt a i == gt b i) 0 a.length = allFrom (fun i => gt a i == gt b i) k4 a.length) ∧ (σ 0 = .slice Aa a.length ca ∧ σ 1 = .slice Ab b.length cb ∧ σ 5 = .int .i64 ((k4 : Nat) : Int)) ∧ CC no w0 X w0 [] w1) ?_ ?_
    · intro w1 hw
      exact ⟨_, 0, rfl, (by first | trivial | omega), rfl, ⟨by kernel_rfl, by kernel_rfl, by kernel_rfl⟩, hw⟩
    intro m4 σ4 w1 hI
    obtain ⟨k4, rfl, hk4, hrel4, ⟨h4_0, h4_1, h4_5⟩, hw⟩ := hI
    refine WC.here (C := CC no w0 X w0 []) ?_ hw
    clear hw
    refine WC.seq ?_
    refine WC.seq ?_
    refine WC.region ?_
    refine WR.v (v := .int .i64 ((k4 : Nat) : Int)) rfl rfl rfl ?_ ?_
    · refine QV.qo ?_; exact q_move rfl h4_5
    refine WR.v (v := .slice Aa a.length ca) rfl rfl rfl ?_ ?_
    · refine QV.qo ?_; exact q_move rfl h4_0
    refine WR.v (v := .int .i64 ((a.length : Nat) : Int)) rfl rfl rfl ?_ ?_
    · refine QV.qo ?_; exact q_len_slice (A := Aa) (n := a.length) (c := ca) rfl Try.underlying56 (by kernel_rfl)
    refine WR.v (v := .bool (decide (((k4 : Nat) : Int) < ((a.length : Nat) : Int)))) rfl rfl rfl ?_ ?_
    · refine QV.qo ?_; exact q_lss (k := .i64) (a := ((k4 : Nat) : Int)) (b := ((a.length : Nat) : Int)) rfl (by kernel_rfl) (by kernel_rfl)
    refine WR.nil ?_
    change WC _ _ _ _ _ _
    refine WC.cond (b := (decide (((k4 : Nat) : Int) < ((a.length : Nat) : Int)))) (by kernel_rfl) ?_ ?_
    · skip
      intro hb_8t
      have hp_9 := of_decide_eq_true hb_8t
      refine WC.skip ?_
      change WC _ _ _ _ _ _
      refine WC.seq ?_
      refine WC.block ?_
      refine WC.seq ?_
      refine WC.draw (by kernel_rfl) (by kernel_rfl) (fun w hw => hw.drawn _) ?_
      refine WQ.v (v := .slice Aa a.length ca) rfl rfl rfl ?_ ?_
      · refine QV.qo ?_; exact q_move rfl h4_0
      refine WQ.v (v := .int .i64 ((k4 : Nat) : Int)) rfl rfl rfl ?_ ?_
      · refine QV.qo ?_; exact q_move rfl h4_5
      refine WQ.v (v := ptrAt Aa (k4 * 3)) rfl rfl rfl ?_ ?_
      · refine QV.qo ?_; exact q_index_addr (k := .i64) (A := Aa) (n := a.length) (c := ca) (i := k4) rfl Try.underlying56 Try.sizeOf106 (by kernel_rfl) (by kernel_rfl) (by omega) (Sl.some_ ha (k := k4) (by omega))
      refine WQ.v (v := .agg #[.int .i64 (gt a k4).s, .int .i64 (gt a k4).f, .int .i64 (gt a k4).t]) rfl rfl rfl ?_ ?_
      · refine QV.qo ?_; exact q_load_agg (A := Aa) (j := k4 * 3) (vs := [.int .i64 (gt a k4).s, .int .i64 (gt a k4).f, .int .i64 (gt a k4).t]) rfl Try.isAgg106 Try.sizeOf106 (by kernel_rfl) (Sl.some_ ha (k := k4) (by omega)) (fun q hq => match q, hq with | 0, _ => Sl.spanT_0 ha (i := k4) (by omega) | 1, _ => Sl.spanT_1 ha (i := k4) (by omega) | 2, _ => Sl.spanT_2 ha (i := k4) (by omega))
      refine WQ.v (v := .slice Ab b.length cb) rfl rfl rfl ?_ ?_
      · refine QV.qo ?_; exact q_move rfl h4_1
      refine WQ.v (v := .int .i64 ((k4 : Nat) : Int)) rfl rfl rfl ?_ ?_
      · refine QV.qo ?_; exact q_move rfl h4_5
      refine WQ.v (v := ptrAt Ab (k4 * 3)) rfl rfl rfl ?_ ?_
      · refine QV.qo ?_; exact q_index_addr (k := .i64) (A := Ab) (n := b.length) (c := cb) (i := k4) rfl Try.underlying56 Try.sizeOf106 (by kernel_rfl) (by kernel_rfl) (by omega) (Sl.some_ hb (k := k4) (by omega))
      refine WQ.v (v := .agg #[.int .i64 (gt b k4).s, .int .i64 (gt b k4).f, .int .i64 (gt b k4).t]) rfl rfl rfl ?_ ?_
      · refine QV.qo ?_; exact q_load_agg (A := Ab) (j := k4 * 3) (vs := [.int .i64 (gt b k4).s, .int .i64 (gt b k4).f, .int .i64 (gt b k4).t]) rfl Try.isAgg106 Try.sizeOf106 (by kernel_rfl) (Sl.some_ hb (k := k4) (by omega)) (fun q hq => match q, hq with | 0, _ => Sl.spanT_0 hb (i := k4) (by omega) | 1, _ => Sl.spanT_1 hb (i := k4) (by omega) | 2, _ => Sl.spanT_2 hb (i := k4) (by omega))
      refine WQ.v (v := .bool ((gt a k4) != (gt b k4))) rfl rfl rfl ?_ ?_
      · refine QV.qo ?_; exact q_neq_Span (a := (gt a k4)) (b := (gt b k4)) rfl (by kernel_rfl) (by kernel_rfl)
      refine WQ.nil ?_
      change WC _ _ _ _ _ _
      refine WC.cond (b := ((gt a k4) != (gt b k4))) (by kernel_rfl) ?_ ?_
      · skip
        intro hb_10t
        have hp_11 := bne_t hb_10t
        refine WC.seq ?_
        refine WC.region ?_
        refine WR.v (v := .bool false) rfl rfl rfl ?_ ?_
        · refine QV.qo ?_; exact q_assign rfl (by kernel_rfl)
        refine WR.nil ?_
        change WC _ _ _ _ _ _
        refine WC.ret ?_
        intro w hw
        refine ⟨congrArg Ending.returned (congrArg (Value.bool) ?_), hw.frE⟩
        show false = r3Same a b
        unfold r3Same; rw [show (a.length == b.length) = true by simp; omega]; simp only [cond_true]; rw [hrel4]; first | (rw [allFrom_step (by omega)]; first | (simp only [hb_1f, hb_8t, hb_10t, Bool.not_true, Bool.not_false, Bool.and_false, Bool.false_and, Bool.and_true, Bool.true_and, Bool.or_true, Bool.true_or, Bool.or_false, Bool.false_or, cond_true, cond_false]; done) | (simp [hb_1f, hp_3, hb_8t, hp_9, hb_10t, hp_11]; done); done) | (rw [allFrom_end (by omega)])
      · skip
        intro hb_10f
        have hp_12 := bne_f hb_10f
        refine WC.skip ?_
        change WC _ _ _ _ _ _
        refine WC.region ?_
        refine WR.v (v := .int .i64 ((k4 : Nat) : Int)) rfl rfl rfl ?_ ?_
        · refine QV.qo ?_; exact q_move rfl h4_5
        refine WR.v (v := .int .i64 ((k4 + 1 : Nat) : Int)) rfl rfl rfl ?_ ?_
        · refine QV.qo ?_; exact q_add (k := .i64) (a := ((k4 : Nat) : Int)) (b := 1) (r := ((k4 + 1 : Nat) : Int)) rfl (by kernel_rfl) (by kernel_rfl) (wr64 (by omega) (by omega))
        refine WR.v (v := .int .i64 ((k4 + 1 : Nat) : Int)) rfl rfl rfl ?_ ?_
        · refine QV.qo ?_; exact q_assign rfl (by kernel_rfl)
        refine WR.nil ?_
        intro w hw
        refine ⟨_, ?_, k4 + 1, rfl, (by first | trivial | omega), ?_, ⟨h4_0, h4_1, by kernel_rfl⟩, hw⟩
        · omega
        · rw [hrel4, allFrom_step (by omega)]; first | (simp only [hb_1f, hb_8t, hb_10f, Bool.not_true, Bool.not_false, Bool.and_false, Bool.false_and, Bool.and_true, Bool.true_and, Bool.or_true, Bool.true_or, Bool.or_false, Bool.false_or, cond_true, cond_false]; done) | (simp [hb_1f, hp_3, hb_8t, hp_9, hb_10f, hp_12]; done)
    · skip
      intro hb_8f
      have hp_13 := of_decide_eq_false hb_8f
      refine WC.exit ?_
      change WC _ _ _ _ _ _
      refine WC.seq ?_
      refine WC.region ?_
      refine WR.v (v := .bool true) rfl rfl rfl ?_ ?_
      · refine QV.qo ?_; exact q_assign rfl (by kernel_rfl)
      refine WR.nil ?_
      change WC _ _ _ _ _ _
      refine WC.ret ?_
      intro w hw
      refine ⟨congrArg Ending.returned (congrArg (Value.bool) ?_), hw.frE⟩
      show true = r3Same a b
      unfold r3Same; rw [show (a.length == b.length) = true by simp; omega]; simp only [cond_true]; rw [hrel4]; first | (rw [allFrom_step (by omega)]; first | (simp only [hb_1f, hb_8f, Bool.not_true, Bool.not_false, Bool.and_false, Bool.false_and, Bool.and_true, Bool.true_and, Bool.or_true, Bool.true_or, Bool.or_false, Bool.false_or, cond_true, cond_false]; done) | (simp [hb_1f, hp_3, hb_8f, hp_13]; done); done) | (rw [allFrom_end (by omega)])

set_option maxRecDepth 100000 in
set_option maxHeartbeats 1000000 in
theorem ref05_SameOne_ok (w0 : World) (X : Nat → Prop) (Aa_2 : Option Addr) (ca_2 : Nat) (a : Ver) (ha : Ver.fits X w0 Aa_2 ca_2 a) (Ab_2 : Option Addr) (cb_2 : Nat) (b : Ver) (hb : Ver.fits X w0 Ab_2 cb_2 b) (hX : ∀ k, X k → k < w0.heap.size) : Calls Try.prog 46 #[.agg #[.int .i64 a.dot.s, .int .i64 a.dot.n, .slice Aa_2 a.past.length ca_2, .bool a.gone, .string a.val], .agg #[.int .i64 b.dot.s, .int .i64 b.dot.n, .slice Ab_2 b.past.length cb_2, .bool b.gone, .string b.val]] w0 fun e w' => e = .returned (.bool (r5SameOne a b)) ∧ Fr no w0 w' := by
  have hav := ha; obtain ⟨ha_0, ha_1, ⟨hca_2, ha_2⟩, ha_4⟩ := hav
  have hbv := hb; obtain ⟨hb_0, hb_1, ⟨hcb_2, hb_2⟩, hb_4⟩ := hbv
  have ha_2l := ha_2.le_
  have hb_2l := hb_2.le_
  refine calls_of (N := 31) (rs := [4]) (args := [.agg #[.int .i64 a.dot.s, .int .i64 a.dot.n, .slice Aa_2 a.past.length ca_2, .bool a.gone, .string a.val], .agg #[.int .i64 b.dot.s, .int .i64 b.dot.n, .slice Ab_2 b.past.length cb_2, .bool b.gone, .string b.val]]) Try.func46 rfl Try.ntmps46 Try.results46 rfl ?_
  refine WC.here (C := CC no w0 X w0 []) ?_ (Cur.start w0 X)
  refine WC.seq ?_
  refine WC.region ?_
  refine e_box (v := .agg #[.int .i64 a.dot.s, .int .i64 a.dot.n, .slice Aa_2 a.past.length ca_2, .bool a.gone, .string a.val]) rfl rfl rfl rfl (by kernel_rfl) ?_
  intro g_1 hg_1 hg_1e
  change WR _ _ _ (CC _ _ _ _ [[(g_1, .cells #[.int .i64 a.dot.s, .int .i64 a.dot.n, .slice Aa_2 a.past.length ca_2, .bool a.gone, .string a.val] 58 (0, 0))]]) _ _ _
  refine e_box (v := .agg #[.int .i64 b.dot.s, .int .i64 b.dot.n, .slice Ab_2 b.past.length cb_2, .bool b.gone, .string b.val]) rfl rfl rfl rfl (by kernel_rfl) ?_
  intro g_2 hg_2 hg_2e
  change WR _ _ _ (CC _ _ _ _ [[(g_2, .cells #[.int .i64 b.dot.s, .int .i64 b.dot.n, .slice Ab_2 b.past.length cb_2, .bool b.gone, .string b.val] 58 (0, 0))], [(g_1, .cells #[.int .i64 a.dot.s, .int .i64 a.dot.n, .slice Aa_2 a.past.length ca_2, .bool a.gone, .string a.val] 58 (0, 0))]]) _ _ _
  refine WR.v (v := .bool false) rfl rfl rfl ?_ ?_
  · refine QV.qo ?_; exact q_assign rfl (by kernel_rfl)
  refine WR.nil ?_
  change WC _ _ _ _ _ _
  refine WC.seq ?_
  refine WC.region ?_
  refine WR.v (v := .pointer (some ⟨g_1, 0, none⟩)) rfl rfl rfl ?_ ?_
  · refine QV.qo ?_; exact q_field_loc (g := g_1) (j := 0) 0 fld_58_0 rfl (by kernel_rfl) rfl
  refine WR.v (v := .agg #[.int .i64 a.dot.s, .int .i64 a.dot.n]) rfl rfl rfl ?_ ?_
  · refine QV.qo ?_; exact q_load_loc_agg (i := 1) (g := g_1) (j := 0) (vs := [.int .i64 a.dot.s, .int .i64 a.dot.n]) rfl Try.isAgg55 Try.sizeOf55 (by kernel_rfl) rfl rfl
  refine WR.v (v := .pointer (some ⟨g_2, 0, none⟩)) rfl rfl rfl ?_ ?_
  · refine QV.qo ?_; exact q_field_loc (g := g_2) (j := 0) 0 fld_58_0 rfl (by kernel_rfl) rfl
  refine WR.v (v := .agg #[.int .i64 b.dot.s, .int .i64 b.dot.n]) rfl rfl rfl ?_ ?_
  · refine QV.qo ?_; exact q_load_loc_agg (i := 0) (g := g_2) (j := 0) (vs := [.int .i64 b.dot.s, .int .i64 b.dot.n]) rfl Try.isAgg55 Try.sizeOf55 (by kernel_rfl) rfl rfl
  refine WR.v (v := .bool (a.dot == b.dot)) rfl rfl rfl ?_ ?_
  · refine QV.qo ?_; exact q_eql_Dot (a := a.dot) (b := b.dot) rfl (by kernel_rfl) (by kernel_rfl)
  refine WR.v (v := .bool (a.dot == b.dot)) rfl rfl rfl ?_ ?_
  · refine QV.qo ?_; exact q_move rfl (by kernel_rfl)
  refine WR.g1 (v := .pointer (some ⟨g_1, 3, none⟩)) (c0 := true) (g := (a.dot == b.dot)) rfl rfl (by kernel_rfl) rfl rfl (fun hc_3 => ?_) ?_
  · refine QV.qo ?_; exact q_field_loc (g := g_1) (j := 0) 3 fld_58_2 rfl (by kernel_rfl) rfl
  refine WR.g1 (v := .bool a.gone) (c0 := true) (g := (a.dot == b.dot)) rfl rfl (by kernel_rfl) rfl rfl (fun hc_4 => ?_) ?_
  · refine QV.qo ?_; exact q_load_loc (i := 1) (g := g_1) (j := 3) (v := .bool a.gone) rfl Try.isAgg4 (gv_of hc_4) rfl rfl
  refine WR.g1 (v := .pointer (some ⟨g_2, 3, none⟩)) (c0 := true) (g := (a.dot == b.dot)) rfl rfl (by kernel_rfl) rfl rfl (fun hc_5 => ?_) ?_
  · refine QV.qo ?_; exact q_field_loc (g := g_2) (j := 0) 3 fld_58_2 rfl (by kernel_rfl) rfl
  refine WR.g1 (v := .bool b.gone) (c0 := true) (g := (a.dot == b.dot)) rfl rfl (by kernel_rfl) rfl rfl (fun hc_6 => ?_) ?_
  · refine QV.qo ?_; exact q_load_loc (i := 0) (g := g_2) (j := 3) (v := .bool b.gone) rfl Try.isAgg4 (gv_of hc_6) rfl rfl
  refine WR.g1 (v := .bool (a.gone == b.gone)) (c0 := true) (g := (a.dot == b.dot)) rfl rfl (by kernel_rfl) rfl rfl (fun hc_7 => ?_) ?_
  · refine QV.qo ?_; exact q_beql (a := a.gone) (b := b.gone) Try.underlying4 rfl (gv_of hc_7) (gv_of hc_7)
  refine WR.v (v := .bool ((a.dot == b.dot) && (a.gone == b.gone))) rfl rfl rfl ?_ ?_
  · refine QV.qo ?_; exact q_pick (g := (a.dot == b.dot)) rfl (by kernel_rfl) (pk_and (c := true) rfl)
  refine WR.v (v := .bool ((a.dot == b.dot) && (a.gone == b.gone))) rfl rfl rfl ?_ ?_
  · refine QV.qo ?_; exact q_move rfl (by kernel_rfl)
  refine WR.g1 (v := .pointer (some ⟨g_1, 4, none⟩)) (c0 := true) (g := ((a.dot == b.dot) && (a.gone == b.gone))) rfl rfl (by kernel_rfl) rfl rfl (fun hc_8 => ?_) ?_
  · refine QV.qo ?_; exact q_field_loc (g := g_1) (j := 0) 4 fld_58_3 rfl (by kernel_rfl) rfl
  refine WR.g1 (v := .string a.val) (c0 := true) (g := ((a.dot == b.dot) && (a.gone == b.gone))) rfl rfl (by kernel_rfl) rfl rfl (fun hc_9 => ?_) ?_
  · refine QV.qo ?_; exact q_load_loc (i := 1) (g := g_1) (j := 4) (v := .string a.val) rfl Try.isAgg9 (gv_of hc_9) rfl rfl
  refine WR.g1 (v := .pointer (some ⟨g_2, 4, none⟩)) (c0 := true) (g := ((a.dot == b.dot) && (a.gone == b.gone))) rfl rfl (by kernel_rfl) rfl rfl (fun hc_10 => ?_) ?_
  · refine QV.qo ?_; exact q_field_loc (g := g_2) (j := 0) 4 fld_58_3 rfl (by kernel_rfl) rfl
  refine WR.g1 (v := .string b.val) (c0 := true) (g := ((a.dot == b.dot) && (a.gone == b.gone))) rfl rfl (by kernel_rfl) rfl rfl (fun hc_11 => ?_) ?_
  · refine QV.qo ?_; exact q_load_loc (i := 0) (g := g_2) (j := 4) (v := .string b.val) rfl Try.isAgg9 (gv_of hc_11) rfl rfl
  refine WR.g1 (v := .bool (a.val == b.val)) (c0 := true) (g := ((a.dot == b.dot) && (a.gone == b.gone))) rfl rfl (by kernel_rfl) rfl rfl (fun hc_12 => ?_) ?_
  · refine QV.qo ?_; exact q_seql (a := a.val) (b := b.val) rfl (gv_of hc_12) (gv_of hc_12)
  refine WR.v (v := .bool (((a.dot == b.dot) && (a.gone == b.gone)) && (a.val == b.val))) rfl rfl rfl ?_ ?_
  · refine QV.qo ?_; exact q_pick (g := ((a.dot == b.dot) && (a.gone == b.gone))) rfl (by kernel_rfl) (pk_and (c := true) rfl)
  refine WR.v (v := .bool (((a.dot == b.dot) && (a.gone == b.gone)) && (a.val == b.val))) rfl rfl rfl ?_ ?_
  · refine QV.qo ?_; exact q_move rfl (by kernel_rfl)
  refine WR.g1 (v := .pointer (some ⟨g_1, 2, none⟩)) (c0 := true) (g := (((a.dot == b.dot) && (a.gone == b.gone)) && (a.val == b.val))) rfl rfl (by kernel_rfl) rfl rfl (fun hc_13 => ?_) ?_
  · refine QV.qo ?_; exact q_field_loc (g := g_1) (j := 0) 2 fld_58_1 rfl (by kernel_rfl) rfl
  refine WR.g1 (v := .slice Aa_2 a.past.length ca_2) (c0 := true) (g := (((a.dot == b.dot) && (a.gone == b.gone)) && (a.val == b.val))) rfl rfl (by kernel_rfl) rfl rfl (fun hc_14 => ?_) ?_
  · refine QV.qo ?_; exact q_load_loc (i := 1) (g := g_1) (j := 2) (v := .slice Aa_2 a.past.length ca_2) rfl Try.isAgg56 (gv_of hc_14) rfl rfl
  refine WR.g1 (v := .pointer (some ⟨g_2, 2, none⟩)) (c0 := true) (g := (((a.dot == b.dot) && (a.gone == b.gone)) && (a.val == b.val))) rfl rfl (by kernel_rfl) rfl rfl (fun hc_15 => ?_) ?_
  · refine QV.qo ?_; exact q_field_loc (g := g_2) (j := 0) 2 fld_58_1 rfl (by kernel_rfl) rfl
  refine WR.g1 (v := .slice Ab_2 b.past.length cb_2) (c0 := true) (g := (((a.dot == b.dot) && (a.gone == b.gone)) && (a.val == b.val))) rfl rfl (by kernel_rfl) rfl rfl (fun hc_16 => ?_) ?_
  · refine QV.qo ?_; exact q_load_loc (i := 0) (g := g_2) (j := 2) (v := .slice Ab_2 b.past.length cb_2) rfl Try.isAgg56 (gv_of hc_16) rfl rfl
  refine WR.g1 (v := .bool (r3Same (a.past) (b.past))) (c0 := true) (g := (((a.dot == b.dot) && (a.gone == b.gone)) && (a.val == b.val))) rfl rfl (by kernel_rfl) rfl rfl (fun hc_17 => ?_) ?_
  · exact q_call (args := #[.slice Aa_2 a.past.length ca_2, .slice Ab_2 b.past.length cb_2]) Try.call64 rfl (by exact args2 (gv_of hc_17) (gv_of hc_17)) (fun w hw => ref03_Same_ok w no Aa_2 ca_2 (a.past) (Sl.step ha_2 (hw.st0.trans (St.to_no _ _))) hca_2 Ab_2 cb_2 (b.past) (Sl.step hb_2 (hw.st0.trans (St.to_no _ _))) hcb_2 (fun _ h => h.elim))
  refine WR.v (v := .bool ((((a.dot == b.dot) && (a.gone == b.gone)) && (a.val == b.val)) && (r3Same (a.past) (b.past)))) rfl rfl rfl ?_ ?_
  · refine QV.qo ?_; exact q_pick (g := (((a.dot == b.dot) && (a.gone == b.gone)) && (a.val == b.val))) rfl (by kernel_rfl) (pk_and (c := true) rfl)
  refine WR.v (v := .bool ((((a.dot == b.dot) && (a.gone == b.gone)) && (a.val == b.val)) && (r3Same (a.past) (b.past)))) rfl rfl rfl ?_ ?_
  · refine QV.qo ?_; exact q_assign rfl (by kernel_rfl)
  refine WR.nil ?_
  change WC _ _ _ _ _ _
  refine WC.ret ?_
  intro w hw
  refine ⟨congrArg Ending.returned (congrArg (Value.bool) ?_), hw.frE⟩
  show ((((a.dot == b.dot) && (a.gone == b.gone)) && (a.val == b.val)) && (r3Same (a.past) (b.past))) = r5SameOne a b
  rfl

set_option maxRecDepth 100000 in
set_option maxHeartbeats 1000000 in
theorem ref05_Same_ok (w0 : World) (X : Nat → Prop) (Aa : Option Addr) (ca : Nat) (a : (List Ver)) (ha : Sl verT X w0 Aa a) (hca : a.length ≤ ca) (Ab : Option Addr) (cb : Nat) (b : (List Ver)) (hb : Sl verT X w0 Ab b) (hcb : b.length ≤ cb) (hX : ∀ k, X k → k < w0.heap.size) : Calls Try.prog 23 #[.slice Aa a.length ca, .slice Ab b.length cb] w0 fun e w' => e = .returned (.bool (r5Same a b)) ∧ Fr no w0 w' := by
  have hal := ha.le_
  have hbl := hb.le_
  refine calls_of (N := 27) (rs := [4]) (args := [.slice Aa a.length ca, .slice Ab b.length cb]) Try.func23 rfl Try.ntmps23 Try.results23 rfl ?_
  refine WC.here (C := CC no w0 X w0 []) ?_ (Cur.start w0 X)
  refine WC.seq ?_
  refine WC.region ?_
  refine WR.v (v := .bool false) rfl rfl rfl ?_ ?_
  · refine QV.qo ?_; exact q_assign rfl (by kernel_rfl)
  refine WR.nil ?_
  change WC _ _ _ _ _ _
  refine WC.seq ?_
  refine WC.seq ?_
  refine WC.region ?_
  refine WR.v (v := .slice Aa a.length ca) rfl rfl rfl ?_ ?_
  · refine QV.qo ?_; exact q_move rfl (by kernel_rfl)
  refine WR.v (v := .int .i64 ((a.length : Nat) : Int)) rfl rfl rfl ?_ ?_
  · refine QV.qo ?_; exact q_len_slice (A := Aa) (n := a.length) (c := ca) rfl Try.underlying40 (by kernel_rfl)
  refine WR.v (v := .slice Ab b.length cb) rfl rfl rfl ?_ ?_
  · refine QV.qo ?_; exact q_move rfl (by kernel_rfl)
  refine WR.v (v := .int .i64 ((b.length : Nat) : Int)) rfl rfl rfl ?_ ?_
  · refine QV.qo ?_; exact q_len_slice (A := Ab) (n := b.length) (c := cb) rfl Try.underlying40 (by kernel_rfl)
  refine WR.v (v := .bool (((a.length : Nat) : Int) != ((b.length : Nat) : Int))) rfl rfl rfl ?_ ?_
  · refine QV.qo ?_; exact q_neq (k := .i64) (a := ((a.length : Nat) : Int)) (b := ((b.length : Nat) : Int)) rfl (by kernel_rfl) (by kernel_rfl)
  refine WR.nil ?_
  change WC _ _ _ _ _ _
  refine WC.cond (b := (((a.length : Nat) : Int) != ((b.length : Nat) : Int))) (by kernel_rfl) ?_ ?_
  · skip
    intro hb_1t
    have hp_2 := bne_t hb_1t
    refine WC.seq ?_
    refine WC.region ?_
    refine WR.v (v := .bool false) rfl rfl rfl ?_ ?_
    · refine QV.qo ?_; exact q_assign rfl (by kernel_rfl)
    refine WR.nil ?_
    change WC _ _ _ _ _ _
    refine WC.ret ?_
    intro w hw
    refine ⟨congrArg Ending.returned (congrArg (Value.bool) ?_), hw.frE⟩
    show false = r5Same a b
    unfold r5Same; rw [show (a.length == b.length) = false by simp at *; omega]; rfl
  · skip
    intro hb_1f
    have hp_3 := bne_f hb_1f
    refine WC.skip ?_
    change WC _ _ _ _ _ _
    refine WC.seq ?_
    refine WC.seq ?_
    refine WC.region ?_
    refine WR.v (v := .int .i64 0) rfl rfl rfl ?_ ?_
    · refine QV.qo ?_; exact q_assign rfl (by kernel_rfl)
    refine WR.nil ?_
    change WC _ _ _ _ _ _
    refine WC.block ?_
    refine WC.loop (fun (m : Nat) (σ : Env) (w1 : World) => ∃ (k4 : Nat)   , m = a.length - k4 ∧ (k4 ≤ a.length) ∧ (allFrom (fun i => r5SameOne (gt a i) (gt b i)) 0 a.length = allFrom (fun i => r5SameOne (gt a i) (gt b i)) k4 a.length) ∧ (σ 0 = .slice Aa a.length ca ∧ σ 1 = .slice Ab b.length cb ∧ σ 5 = .int .i64 ((k4 : Nat) : Int)) ∧ CC no w0 X w0 [] w1) ?_ ?_
    · intro w1 hw
      exact ⟨_, 0, rfl, (by first | trivial | omega), rfl, ⟨by kernel_rfl, by kernel_rfl, by kernel_rfl⟩, hw⟩
    intro m4 σ4 w1 hI
    obtain ⟨k4, rfl, hk4, hrel4, ⟨h4_0, h4_1, h4_5⟩, hw⟩ := hI
    refine WC.here (C := CC no w0 X w0 []) ?_ hw
    clear hw
    refine WC.seq ?_
    refine WC.seq ?_
    refine WC.region ?_
    refine WR.v (v := .int .i64 ((k4 : Nat) : Int)) rfl rfl rfl ?_ ?_
    · refine QV.qo ?_; exact q_move rfl h4_5
    refine WR.v (v := .slice Aa a.length ca) rfl rfl rfl ?_ ?_
    · refine QV.qo ?_; exact q_move rfl h4_0
    refine WR.v (v := .int .i64 ((a.length : Nat) : Int)) rfl rfl rfl ?_ ?_
    · refine QV.qo ?_; exact q_len_slice (A := Aa) (n := a.length) (c := ca) rfl Try.underlying40 (by kernel_rfl)
    refine WR.v (v := .bool (decide (((k4 : Nat) : Int) < ((a.length : Nat) : Int)))) rfl rfl rfl ?_ ?_
    · refine QV.qo ?_; exact q_lss (k := .i64) (a := ((k4 : Nat) : Int)) (b := ((a.length : Nat) : Int)) rfl (by kernel_rfl) (by kernel_rfl)
    refine WR.nil ?_
    change WC _ _ _ _ _ _
    refine WC.cond (b := (decide (((k4 : Nat) : Int) < ((a.length : Nat) : Int)))) (by kernel_rfl) ?_ ?_
    · skip
      intro hb_8t
      have hp_9 := of_decide_eq_true hb_8t
      refine WC.skip ?_
      change WC _ _ _ _ _ _
      refine WC.seq ?_
      refine WC.block ?_
      refine WC.seq ?_
      refine WC.draw (by kernel_rfl) (by kernel_rfl) (fun w hw => hw.drawn _) ?_
      refine WQ.v (v := .slice Aa a.length ca) rfl rfl rfl ?_ ?_
      · refine QV.qo ?_; exact q_move rfl h4_0
      refine WQ.v (v := .int .i64 ((k4 : Nat) : Int)) rfl rfl rfl ?_ ?_
      · refine QV.qo ?_; exact q_move rfl h4_5
      refine WQ.v (v := ptrAt Aa (k4 * 5)) rfl rfl rfl ?_ ?_
      · refine QV.qo ?_; exact q_index_addr (k := .i64) (A := Aa) (n := a.length) (c := ca) (i := k4) rfl Try.underlying40 Try.sizeOf58 (by kernel_rfl) (by kernel_rfl) (by omega) (Sl.some_ ha (k := k4) (by omega))
      refine WQ.v (v := .agg #[.int .i64 (gt a k4).dot.s, .int .i64 (gt a k4).dot.n, .slice (slA w0 Aa (k4 * 5 + 2)) (gt a k4).past.length (slC w0 Aa (k4 * 5 + 2)), .bool (gt a k4).gone, .string (gt a k4).val]) rfl rfl rfl ?_ ?_
      · refine QV.qo ?_; exact q_load_agg (A := Aa) (j := k4 * 5) (vs := [.int .i64 (gt a k4).dot.s, .int .i64 (gt a k4).dot.n, .slice (slA w0 Aa (k4 * 5 + 2)) (gt a k4).past.length (slC w0 Aa (k4 * 5 + 2)), .bool (gt a k4).gone, .string (gt a k4).val]) rfl Try.isAgg58 Try.sizeOf58 (by kernel_rfl) (Sl.some_ ha (k := k4) (by omega)) (fun q hq => match q, hq with | 0, _ => Sl.verT_0 ha (i := k4) (by omega) | 1, _ => Sl.verT_1 ha (i := k4) (by omega) | 2, _ => Sl.verT_2 ha (i := k4) (by omega) | 3, _ => Sl.verT_3 ha (i := k4) (by omega) | 4, _ => Sl.verT_4 ha (i := k4) (by omega))
      refine WQ.v (v := .slice Ab b.length cb) rfl rfl rfl ?_ ?_
      · refine QV.qo ?_; exact q_move rfl h4_1
      refine WQ.v (v := .int .i64 ((k4 : Nat) : Int)) rfl rfl rfl ?_ ?_
      · refine QV.qo ?_; exact q_move rfl h4_5
      refine WQ.v (v := ptrAt Ab (k4 * 5)) rfl rfl rfl ?_ ?_
      · refine QV.qo ?_; exact q_index_addr (k := .i64) (A := Ab) (n := b.length) (c := cb) (i := k4) rfl Try.underlying40 Try.sizeOf58 (by kernel_rfl) (by kernel_rfl) (by omega) (Sl.some_ hb (k := k4) (by omega))
      refine WQ.v (v := .agg #[.int .i64 (gt b k4).dot.s, .int .i64 (gt b k4).dot.n, .slice (slA w0 Ab (k4 * 5 + 2)) (gt b k4).past.length (slC w0 Ab (k4 * 5 + 2)), .bool (gt b k4).gone, .string (gt b k4).val]) rfl rfl rfl ?_ ?_
      · refine QV.qo ?_; exact q_load_agg (A := Ab) (j := k4 * 5) (vs := [.int .i64 (gt b k4).dot.s, .int .i64 (gt b k4).dot.n, .slice (slA w0 Ab (k4 * 5 + 2)) (gt b k4).past.length (slC w0 Ab (k4 * 5 + 2)), .bool (gt b k4).gone, .string (gt b k4).val]) rfl Try.isAgg58 Try.sizeOf58 (by kernel_rfl) (Sl.some_ hb (k := k4) (by omega)) (fun q hq => match q, hq with | 0, _ => Sl.verT_0 hb (i := k4) (by omega) | 1, _ => Sl.verT_1 hb (i := k4) (by omega) | 2, _ => Sl.verT_2 hb (i := k4) (by omega) | 3, _ => Sl.verT_3 hb (i := k4) (by omega) | 4, _ => Sl.verT_4 hb (i := k4) (by omega))
      refine WQ.v (v := .bool (r5SameOne (gt a k4) (gt b k4))) rfl rfl rfl ?_ ?_
      · exact q_call (args := #[.agg #[.int .i64 (gt a k4).dot.s, .int .i64 (gt a k4).dot.n, .slice (slA w0 Aa (k4 * 5 + 2)) (gt a k4).past.length (slC w0 Aa (k4 * 5 + 2)), .bool (gt a k4).gone, .string (gt a k4).val], .agg #[.int .i64 (gt b k4).dot.s, .int .i64 (gt b k4).dot.n, .slice (slA w0 Ab (k4 * 5 + 2)) (gt b k4).past.length (slC w0 Ab (k4 * 5 + 2)), .bool (gt b k4).gone, .string (gt b k4).val]]) Try.call46 rfl (by kernel_rfl) (fun w hw => ref05_SameOne_ok w no (slA w0 Aa (k4 * 5 + 2)) (slC w0 Aa (k4 * 5 + 2)) ((gt a k4)) (Ver.fits_step (Sl.verT_fits ha (i := k4) (by omega)) (hw.st0.trans (St.to_no _ _))) (slA w0 Ab (k4 * 5 + 2)) (slC w0 Ab (k4 * 5 + 2)) ((gt b k4)) (Ver.fits_step (Sl.verT_fits hb (i := k4) (by omega)) (hw.st0.trans (St.to_no _ _))) (fun _ h => h.elim))
      refine WQ.v (v := .bool (!(r5SameOne (gt a k4) (gt b k4)))) rfl rfl rfl ?_ ?_
      · refine QV.qo ?_; exact q_not (g := (r5SameOne (gt a k4) (gt b k4))) rfl (by kernel_rfl)
      refine WQ.nil ?_
      change WC _ _ _ _ _ _
      refine WC.cond (b := (!(r5SameOne (gt a k4) (gt b k4)))) (by kernel_rfl) ?_ ?_
      · skip
        intro hb_10t
        have hp_11 := (not_t hb_10t)
        refine WC.seq ?_
        refine WC.region ?_
        refine WR.v (v := .bool false) rfl rfl rfl ?_ ?_
        · refine QV.qo ?_; exact q_assign rfl (by kernel_rfl)
        refine WR.nil ?_
        change WC _ _ _ _ _ _
        refine WC.ret ?_
        intro w hw
        refine ⟨congrArg Ending.returned (congrArg (Value.bool) ?_), hw.frE⟩
        show false = r5Same a b
        unfold r5Same; rw [show (a.length == b.length) = true by simp; omega]; simp only [cond_true]; rw [hrel4]; first | (rw [allFrom_step (by omega)]; first | (simp only [hb_1f, hb_8t, hb_10t, Bool.not_true, Bool.not_false, Bool.and_false, Bool.false_and, Bool.and_true, Bool.true_and, Bool.or_true, Bool.true_or, Bool.or_false, Bool.false_or, cond_true, cond_false]; done) | (simp [hb_1f, hp_3, hb_8t, hp_9, hb_10t, hp_11]; done); done) | (rw [allFrom_end (by omega)])
      · skip
        intro hb_10f
        have hp_12 := (not_f hb_10f)
        refine WC.skip ?_
        change WC _ _ _ _ _ _
        refine WC.region ?_
        refine WR.v (v := .int .i64 ((k4 : Nat) : Int)) rfl rfl rfl ?_ ?_
        · refine QV.qo ?_; exact q_move rfl h4_5
        refine WR.v (v := .int .i64 ((k4 + 1 : Nat) : Int)) rfl rfl rfl ?_ ?_
        · refine QV.qo ?_; exact q_add (k := .i64) (a := ((k4 : Nat) : Int)) (b := 1) (r := ((k4 + 1 : Nat) : Int)) rfl (by kernel_rfl) (by kernel_rfl) (wr64 (by omega) (by omega))
        refine WR.v (v := .int .i64 ((k4 + 1 : Nat) : Int)) rfl rfl rfl ?_ ?_
        · refine QV.qo ?_; exact q_assign rfl (by kernel_rfl)
        refine WR.nil ?_
        intro w hw
        refine ⟨_, ?_, k4 + 1, rfl, (by first | trivial | omega), ?_, ⟨h4_0, h4_1, by kernel_rfl⟩, hw⟩
        · omega
        · rw [hrel4, allFrom_step (by omega)]; first | (simp only [hb_1f, hb_8t, hb_10f, Bool.not_true, Bool.not_false, Bool.and_false, Bool.false_and, Bool.and_true, Bool.true_and, Bool.or_true, Bool.true_or, Bool.or_false, Bool.false_or, cond_true, cond_false]; done) | (simp [hb_1f, hp_3, hb_8t, hp_9, hb_10f, hp_12]; done)
    · skip
      intro hb_8f
      have hp_13 := of_decide_eq_false hb_8f
      refine WC.exit ?_
      change WC _ _ _ _ _ _
      refine WC.seq ?_
      refine WC.region ?_
      refine WR.v (v := .bool true) rfl rfl rfl ?_ ?_
      · refine QV.qo ?_; exact q_assign rfl (by kernel_rfl)
      refine WR.nil ?_
      change WC _ _ _ _ _ _
      refine WC.ret ?_
      intro w hw
      refine ⟨congrArg Ending.returned (congrArg (Value.bool) ?_), hw.frE⟩
      show true = r5Same a b
      unfold r5Same; rw [show (a.length == b.length) = true by simp; omega]; simp only [cond_true]; rw [hrel4]; first | (rw [allFrom_step (by omega)]; first | (simp only [hb_1f, hb_8f, Bool.not_true, Bool.not_false, Bool.and_false, Bool.false_and, Bool.and_true, Bool.true_and, Bool.or_true, Bool.true_or, Bool.or_false, Bool.false_or, cond_true, cond_false]; done) | (simp [hb_1f, hp_3, hb_8f, hp_13]; done); done) | (rw [allFrom_end (by omega)])

set_option maxRecDepth 100000 in
set_option maxHeartbeats 1000000 in
theorem vers_before_ok (w0 : World) (X : Nat → Prop)  (a : Dot) (ha : Dot.fits X w0  a)  (b : Dot) (hb : Dot.fits X w0  b) (hX : ∀ k, X k → k < w0.heap.size) : Calls Try.prog 62 #[.agg #[.int .i64 a.s, .int .i64 a.n], .agg #[.int .i64 b.s, .int .i64 b.n]] w0 fun e w' => e = .returned (.bool (vsBefore a b)) ∧ Fr no w0 w' := by
  have hav := ha; obtain ⟨ha_0, ha_1⟩ := hav
  have hbv := hb; obtain ⟨hb_0, hb_1⟩ := hbv
  refine calls_of (N := 24) (rs := [4]) (args := [.agg #[.int .i64 a.s, .int .i64 a.n], .agg #[.int .i64 b.s, .int .i64 b.n]]) Try.func62 rfl Try.ntmps62 Try.results62 rfl ?_
  refine WC.here (C := CC no w0 X w0 []) ?_ (Cur.start w0 X)
  refine WC.seq ?_
  refine WC.region ?_
  refine e_box (v := .agg #[.int .i64 a.s, .int .i64 a.n]) rfl rfl rfl rfl (by kernel_rfl) ?_
  intro g_1 hg_1 hg_1e
  change WR _ _ _ (CC _ _ _ _ [[(g_1, .cells #[.int .i64 a.s, .int .i64 a.n] 55 (0, 0))]]) _ _ _
  refine e_box (v := .agg #[.int .i64 b.s, .int .i64 b.n]) rfl rfl rfl rfl (by kernel_rfl) ?_
  intro g_2 hg_2 hg_2e
  change WR _ _ _ (CC _ _ _ _ [[(g_2, .cells #[.int .i64 b.s, .int .i64 b.n] 55 (0, 0))], [(g_1, .cells #[.int .i64 a.s, .int .i64 a.n] 55 (0, 0))]]) _ _ _
  refine WR.v (v := .bool false) rfl rfl rfl ?_ ?_
  · refine QV.qo ?_; exact q_assign rfl (by kernel_rfl)
  refine WR.nil ?_
  change WC _ _ _ _ _ _
  refine WC.seq ?_
  refine WC.region ?_
  refine WR.v (v := .pointer (some ⟨g_1, 0, none⟩)) rfl rfl rfl ?_ ?_
  · refine QV.qo ?_; exact q_field_loc (g := g_1) (j := 0) 0 fld_55_0 rfl (by kernel_rfl) rfl
  refine WR.v (v := .int .i64 a.s) rfl rfl rfl ?_ ?_
  · refine QV.qo ?_; exact q_load_loc (i := 1) (g := g_1) (j := 0) (v := .int .i64 a.s) rfl Try.isAgg3 (by kernel_rfl) rfl rfl
  refine WR.v (v := .pointer (some ⟨g_2, 0, none⟩)) rfl rfl rfl ?_ ?_
  · refine QV.qo ?_; exact q_field_loc (g := g_2) (j := 0) 0 fld_55_0 rfl (by kernel_rfl) rfl
  refine WR.v (v := .int .i64 b.s) rfl rfl rfl ?_ ?_
  · refine QV.qo ?_; exact q_load_loc (i := 0) (g := g_2) (j := 0) (v := .int .i64 b.s) rfl Try.isAgg3 (by kernel_rfl) rfl rfl
  refine WR.v (v := .bool (decide (a.s < b.s))) rfl rfl rfl ?_ ?_
  · refine QV.qo ?_; exact q_lss (k := .i64) (a := a.s) (b := b.s) rfl (by kernel_rfl) (by kernel_rfl)
  refine WR.v (v := .bool (decide (a.s < b.s))) rfl rfl rfl ?_ ?_
  · refine QV.qo ?_; exact q_move rfl (by kernel_rfl)
  refine WR.g0 (v := .pointer (some ⟨g_1, 0, none⟩)) (c0 := true) (g := (decide (a.s < b.s))) rfl rfl (by kernel_rfl) rfl rfl (fun hc_3 => ?_) ?_
  · refine QV.qo ?_; exact q_field_loc (g := g_1) (j := 0) 0 fld_55_0 rfl (by kernel_rfl) rfl
  refine WR.g0 (v := .int .i64 a.s) (c0 := true) (g := (decide (a.s < b.s))) rfl rfl (by kernel_rfl) rfl rfl (fun hc_4 => ?_) ?_
  · refine QV.qo ?_; exact q_load_loc (i := 1) (g := g_1) (j := 0) (v := .int .i64 a.s) rfl Try.isAgg3 (gv_of hc_4) rfl rfl
  refine WR.g0 (v := .pointer (some ⟨g_2, 0, none⟩)) (c0 := true) (g := (decide (a.s < b.s))) rfl rfl (by kernel_rfl) rfl rfl (fun hc_5 => ?_) ?_
  · refine QV.qo ?_; exact q_field_loc (g := g_2) (j := 0) 0 fld_55_0 rfl (by kernel_rfl) rfl
  refine WR.g0 (v := .int .i64 b.s) (c0 := true) (g := (decide (a.s < b.s))) rfl rfl (by kernel_rfl) rfl rfl (fun hc_6 => ?_) ?_
  · refine QV.qo ?_; exact q_load_loc (i := 0) (g := g_2) (j := 0) (v := .int .i64 b.s) rfl Try.isAgg3 (gv_of hc_6) rfl rfl
  refine WR.g0 (v := .bool (a.s == b.s)) (c0 := true) (g := (decide (a.s < b.s))) rfl rfl (by kernel_rfl) rfl rfl (fun hc_7 => ?_) ?_
  · refine QV.qo ?_; exact q_eql (k := .i64) (a := a.s) (b := b.s) rfl (gv_of hc_7) (gv_of hc_7)
  refine WR.g0 (v := .bool (a.s == b.s)) (c0 := true) (g := (decide (a.s < b.s))) rfl rfl (by kernel_rfl) rfl rfl (fun hc_8 => ?_) ?_
  · refine QV.qo ?_; exact q_move rfl (gv_of hc_8)
  refine WR.g1 (v := .pointer (some ⟨g_1, 1, none⟩)) (c0 := (true && !(decide (a.s < b.s)))) (g := (a.s == b.s)) rfl rfl (by kernel_rfl) rfl rfl (fun hc_9 => ?_) ?_
  · refine QV.qo ?_; exact q_field_loc (g := g_1) (j := 0) 1 fld_55_1 rfl (by kernel_rfl) rfl
  refine WR.g1 (v := .int .i64 a.n) (c0 := (true && !(decide (a.s < b.s)))) (g := (a.s == b.s)) rfl rfl (by kernel_rfl) rfl rfl (fun hc_10 => ?_) ?_
  · refine QV.qo ?_; exact q_load_loc (i := 1) (g := g_1) (j := 1) (v := .int .i64 a.n) rfl Try.isAgg2 (gv_of hc_10) rfl rfl
  refine WR.g1 (v := .pointer (some ⟨g_2, 1, none⟩)) (c0 := (true && !(decide (a.s < b.s)))) (g := (a.s == b.s)) rfl rfl (by kernel_rfl) rfl rfl (fun hc_11 => ?_) ?_
  · refine QV.qo ?_; exact q_field_loc (g := g_2) (j := 0) 1 fld_55_1 rfl (by kernel_rfl) rfl
  refine WR.g1 (v := .int .i64 b.n) (c0 := (true && !(decide (a.s < b.s)))) (g := (a.s == b.s)) rfl rfl (by kernel_rfl) rfl rfl (fun hc_12 => ?_) ?_
  · refine QV.qo ?_; exact q_load_loc (i := 0) (g := g_2) (j := 1) (v := .int .i64 b.n) rfl Try.isAgg2 (gv_of hc_12) rfl rfl
  refine WR.g1 (v := .bool (decide (a.n < b.n))) (c0 := (true && !(decide (a.s < b.s)))) (g := (a.s == b.s)) rfl rfl (by kernel_rfl) rfl rfl (fun hc_13 => ?_) ?_
  · refine QV.qo ?_; exact q_lss (k := .i64) (a := a.n) (b := b.n) rfl (gv_of hc_13) (gv_of hc_13)
  refine WR.g0 (v := .bool ((a.s == b.s) && (decide (a.n < b.n)))) (c0 := true) (g := (decide (a.s < b.s))) rfl rfl (by kernel_rfl) rfl rfl (fun hc_14 => ?_) ?_
  · refine QV.qo ?_; exact q_pick (g := (a.s == b.s)) rfl (gv_of hc_14) (pk_and (c := (true && !(decide (a.s < b.s)))) hc_14)
  refine WR.v (v := .bool ((decide (a.s < b.s)) || ((a.s == b.s) && (decide (a.n < b.n))))) rfl rfl rfl ?_ ?_
  · refine QV.qo ?_; exact q_pick (g := (decide (a.s < b.s))) rfl (by kernel_rfl) (pk_or (c := true) rfl)
  refine WR.v (v := .bool ((decide (a.s < b.s)) || ((a.s == b.s) && (decide (a.n < b.n))))) rfl rfl rfl ?_ ?_
  · refine QV.qo ?_; exact q_assign rfl (by kernel_rfl)
  refine WR.nil ?_
  change WC _ _ _ _ _ _
  refine WC.ret ?_
  intro w hw
  refine ⟨congrArg Ending.returned (congrArg (Value.bool) ?_), hw.frE⟩
  show ((decide (a.s < b.s)) || ((a.s == b.s) && (decide (a.n < b.n)))) = vsBefore a b
  rfl

set_option maxRecDepth 100000 in
set_option maxHeartbeats 1000000 in
theorem vers_behind_ok (w0 : World) (X : Nat → Prop)  (d : Dot) (hd : Dot.fits X w0  d) (Al : Option Addr) (cl : Nat) (l : (List Ver)) (hl : Sl verT X w0 Al l) (hcl : l.length ≤ cl) (hX : ∀ k, X k → k < w0.heap.size) : Calls Try.prog 60 #[.agg #[.int .i64 d.s, .int .i64 d.n], .slice Al l.length cl] w0 fun e w' => e = .returned (.bool (vsBehind d l)) ∧ Fr no w0 w' := by
  have hdv := hd; obtain ⟨hd_0, hd_1⟩ := hdv
  have hll := hl.le_
  refine calls_of (N := 18) (rs := [4]) (args := [.agg #[.int .i64 d.s, .int .i64 d.n], .slice Al l.length cl]) Try.func60 rfl Try.ntmps60 Try.results60 rfl ?_
  refine WC.here (C := CC no w0 X w0 []) ?_ (Cur.start w0 X)
  refine WC.seq ?_
  refine WC.region ?_
  refine e_box (v := .agg #[.int .i64 d.s, .int .i64 d.n]) rfl rfl rfl rfl (by kernel_rfl) ?_
  intro g_1 hg_1 hg_1e
  change WR _ _ _ (CC _ _ _ _ [[(g_1, .cells #[.int .i64 d.s, .int .i64 d.n] 55 (0, 0))]]) _ _ _
  refine WR.v (v := .bool false) rfl rfl rfl ?_ ?_
  · refine QV.qo ?_; exact q_assign rfl (by kernel_rfl)
  refine WR.nil ?_
  change WC _ _ _ _ _ _
  refine WC.seq ?_
  refine WC.seq ?_
  refine WC.region ?_
  refine WR.v (v := .slice Al l.length cl) rfl rfl rfl ?_ ?_
  · refine QV.qo ?_; exact q_move rfl (by kernel_rfl)
  refine WR.v (v := .int .i64 ((l.length : Nat) : Int)) rfl rfl rfl ?_ ?_
  · refine QV.qo ?_; exact q_len_slice (A := Al) (n := l.length) (c := cl) rfl Try.underlying40 (by kernel_rfl)
  refine WR.v (v := .int .i64 0) rfl rfl rfl ?_ ?_
  · refine QV.qo ?_; exact q_move rfl (by kernel_rfl)
  refine WR.nil ?_
  change WC _ _ _ _ _ _
  refine WC.block ?_
  refine WC.loop (fun (m : Nat) (σ : Env) (w1 : World) => ∃ (k2 : Nat)   , m = l.length - k2 ∧ (k2 ≤ l.length) ∧ (vsBehind d l = vsBehind d (l.drop k2)) ∧ (σ 2 = .pointer (some ⟨g_1, 0, none⟩) ∧ σ 7 = .slice Al l.length cl ∧ σ 8 = .int .i64 ((l.length : Nat) : Int) ∧ σ 9 = .int .i64 ((k2 : Nat) : Int)) ∧ CC no w0 X w0 [[(g_1, .cells #[.int .i64 d.s, .int .i64 d.n] 55 (0, 0))]] w1) ?_ ?_
  · intro w1 hw
    exact ⟨_, 0, rfl, (by first | trivial | omega), rfl, ⟨by kernel_rfl, by kernel_rfl, by kernel_rfl, by kernel_rfl⟩, hw⟩
  intro m2 σ2 w1 hI
  obtain ⟨k2, rfl, hk2, hrel2, ⟨h2_2, h2_7, h2_8, h2_9⟩, hw⟩ := hI
  refine WC.here (C := CC no w0 X w0 [[(g_1, .cells #[.int .i64 d.s, .int .i64 d.n] 55 (0, 0))]]) ?_ hw
  clear hw
  refine WC.seq ?_
  refine WC.region ?_
  refine WR.v (v := .bool (decide (((k2 : Nat) : Int) < ((l.length : Nat) : Int)))) rfl rfl rfl ?_ ?_
  · refine QV.qo ?_; exact q_lss (k := .i64) (a := ((k2 : Nat) : Int)) (b := ((l.length : Nat) : Int)) rfl h2_9 h2_8
  refine WR.nil ?_
  change WC _ _ _ _ _ _
  refine WC.seq ?_
  refine WC.cond (b := (decide (((k2 : Nat) : Int) < ((l.length : Nat) : Int)))) (by kernel_rfl) ?_ ?_
  · skip
    intro hb_6t
    have hp_7 := of_decide_eq_true hb_6t
    refine WC.skip ?_
    change WC _ _ _ _ _ _
    refine WC.seq ?_
    refine WC.block ?_
    refine WC.seq ?_
    refine WC.region ?_
    refine WR.v (v := ptrAt Al (k2 * 5)) rfl rfl rfl ?_ ?_
    · refine QV.qo ?_; exact q_index_addr (k := .i64) (A := Al) (n := l.length) (c := cl) (i := k2) rfl Try.underlying40 Try.sizeOf58 h2_7 h2_9 (by omega) (Sl.some_ hl (k := k2) (by omega))
    refine WR.v (v := .agg #[.int .i64 (gt l k2).dot.s, .int .i64 (gt l k2).dot.n, .slice (slA w0 Al (k2 * 5 + 2)) (gt l k2).past.length (slC w0 Al (k2 * 5 + 2)), .bool (gt l k2).gone, .string (gt l k2).val]) rfl rfl rfl ?_ ?_
    · refine QV.qo ?_; exact q_load_agg (A := Al) (j := k2 * 5) (vs := [.int .i64 (gt l k2).dot.s, .int .i64 (gt l k2).dot.n, .slice (slA w0 Al (k2 * 5 + 2)) (gt l k2).past.length (slC w0 Al (k2 * 5 + 2)), .bool (gt l k2).gone, .string (gt l k2).val]) rfl Try.isAgg58 Try.sizeOf58 (by kernel_rfl) (Sl.some_ hl (k := k2) (by omega)) (fun q hq => match q, hq with | 0, _ => Sl.verT_0 hl (i := k2) (by omega) | 1, _ => Sl.verT_1 hl (i := k2) (by omega) | 2, _ => Sl.verT_2 hl (i := k2) (by omega) | 3, _ => Sl.verT_3 hl (i := k2) (by omega) | 4, _ => Sl.verT_4 hl (i := k2) (by omega))
    refine e_alloc (z := .agg #[.int .i64 0, .int .i64 0, .slice none 0 0, .bool false, .string ⟨#[]⟩]) rfl rfl rfl rfl Try.zeroValue58 ?_
    intro g_8 hg_8 hg_8e
    change WR _ _ _ (CC _ _ _ _ [[(g_8, .cells #[.int .i64 0, .int .i64 0, .slice none 0 0, .bool false, .string ⟨#[]⟩] 58 (0, 0))], [(g_1, .cells #[.int .i64 d.s, .int .i64 d.n] 55 (0, 0))]]) _ _ _
    refine e_store_loc (i := 0) (g := g_8) (j := 0) (v := .agg #[.int .i64 (gt l k2).dot.s, .int .i64 (gt l k2).dot.n, .slice (slA w0 Al (k2 * 5 + 2)) (gt l k2).past.length (slC w0 Al (k2 * 5 + 2)), .bool (gt l k2).gone, .string (gt l k2).val]) (new := #[.int .i64 (gt l k2).dot.s, .int .i64 (gt l k2).dot.n, .slice (slA w0 Al (k2 * 5 + 2)) (gt l k2).past.length (slC w0 Al (k2 * 5 + 2)), .bool (gt l k2).gone, .string (gt l k2).val]) (L' := [[(g_8, .cells #[.int .i64 (gt l k2).dot.s, .int .i64 (gt l k2).dot.n, .slice (slA w0 Al (k2 * 5 + 2)) (gt l k2).past.length (slC w0 Al (k2 * 5 + 2)), .bool (gt l k2).gone, .string (gt l k2).val] 58 (0, 0))], [(g_1, .cells #[.int .i64 d.s, .int .i64 d.n] 55 (0, 0))]]) rfl rfl rfl (by kernel_rfl) (by kernel_rfl) Try.sizeOf58 rfl rfl rfl rfl rfl rfl ?_
    refine WR.nil ?_
    change WC _ _ _ _ _ _
    refine WC.seq ?_
    refine WC.region ?_
    refine WR.v (v := .pointer (some ⟨g_8, 2, none⟩)) rfl rfl rfl ?_ ?_
    · refine QV.qo ?_; exact q_field_loc (g := g_8) (j := 0) 2 fld_58_1 rfl (by kernel_rfl) rfl
    refine WR.v (v := .slice (slA w0 Al (k2 * 5 + 2)) (gt l k2).past.length (slC w0 Al (k2 * 5 + 2))) rfl rfl rfl ?_ ?_
    · refine QV.qo ?_; exact q_load_loc (i := 0) (g := g_8) (j := 2) (v := .slice (slA w0 Al (k2 * 5 + 2)) (gt l k2).past.length (slC w0 Al (k2 * 5 + 2))) rfl Try.isAgg56 (by kernel_rfl) rfl rfl
    refine WR.v (v := .agg #[.int .i64 d.s, .int .i64 d.n]) rfl rfl rfl ?_ ?_
    · refine QV.qo ?_; exact q_load_loc_agg (i := 1) (g := g_1) (j := 0) (vs := [.int .i64 d.s, .int .i64 d.n]) rfl Try.isAgg55 Try.sizeOf55 h2_2 rfl rfl
    refine WR.v (v := .bool (spHas ((gt l k2).past) d)) rfl rfl rfl ?_ ?_
    · exact q_call (args := #[.slice (slA w0 Al (k2 * 5 + 2)) (gt l k2).past.length (slC w0 Al (k2 * 5 + 2)), .agg #[.int .i64 d.s, .int .i64 d.n]]) Try.call68 rfl (by kernel_rfl) (fun w hw => span_Has_ok w no (slA w0 Al (k2 * 5 + 2)) (slC w0 Al (k2 * 5 + 2)) ((gt l k2).past) (Sl.step ((Sl.verT_fits hl (i := k2) (by omega)).2.2.1.2) (hw.st0.trans (St.to_no _ _))) ((Sl.verT_fits hl (i := k2) (by omega)).2.2.1.1)  (d) (Dot.fits_step hd (hw.st0.trans (St.to_no _ _))) (fun _ h => h.elim))
    refine WR.nil ?_
    change WC _ _ _ _ _ _
    refine WC.cond (b := (spHas ((gt l k2).past) d)) (by kernel_rfl) ?_ ?_
    · skip
      intro hb_9t
      refine WC.seq ?_
      refine WC.region ?_
      refine WR.v (v := .bool true) rfl rfl rfl ?_ ?_
      · refine QV.qo ?_; exact q_assign rfl (by kernel_rfl)
      refine WR.nil ?_
      change WC _ _ _ _ _ _
      refine WC.ret ?_
      intro w hw
      refine ⟨congrArg Ending.returned (congrArg (Value.bool) ?_), hw.frE⟩
      show true = vsBehind d l
      rw [hrel2]; first | (rw [drop_gt (by omega)]; first | (simp only [vsBehind, hb_6t, hb_9t, Bool.not_true, Bool.not_false, Bool.and_false, Bool.false_and, Bool.and_true, Bool.true_and, Bool.or_true, Bool.true_or, Bool.or_false, Bool.false_or, cond_true, cond_false]; done) | (simp [vsBehind, hb_6t, hp_7, hb_9t]; done); done) | (rw [List.drop_of_length_le (by omega)]; simp [vsBehind])
    · skip
      intro hb_9f
      refine WC.skip ?_
      change WC _ _ _ _ _ _
      refine WC.region ?_
      refine WR.v (v := .int .i64 ((k2 + 1 : Nat) : Int)) rfl rfl rfl ?_ ?_
      · refine QV.qo ?_; exact q_add (k := .i64) (a := ((k2 : Nat) : Int)) (b := 1) (r := ((k2 + 1 : Nat) : Int)) rfl h2_9 (by kernel_rfl) (wr64 (by omega) (by omega))
      refine WR.v (v := .int .i64 ((k2 + 1 : Nat) : Int)) rfl rfl rfl ?_ ?_
      · refine QV.qo ?_; exact q_move rfl (by kernel_rfl)
      refine WR.nil ?_
      intro w hw
      refine ⟨_, ?_, k2 + 1, rfl, (by first | trivial | omega), ?_, ⟨h2_2, h2_7, h2_8, by kernel_rfl⟩, hw.tail⟩
      · omega
      · rw [hrel2, drop_gt (by omega)]; first | (simp only [vsBehind, hb_6t, hb_9f, Bool.not_true, Bool.not_false, Bool.and_false, Bool.false_and, Bool.and_true, Bool.true_and, Bool.or_true, Bool.true_or, Bool.or_false, Bool.false_or, cond_true, cond_false]; done) | (simp [vsBehind, hb_6t, hp_7, hb_9f]; done)
  · skip
    intro hb_6f
    have hp_10 := of_decide_eq_false hb_6f
    refine WC.exit ?_
    change WC _ _ _ _ _ _
    refine WC.seq ?_
    refine WC.region ?_
    refine WR.v (v := .bool false) rfl rfl rfl ?_ ?_
    · refine QV.qo ?_; exact q_assign rfl (by kernel_rfl)
    refine WR.nil ?_
    change WC _ _ _ _ _ _
    refine WC.ret ?_
    intro w hw
    refine ⟨congrArg Ending.returned (congrArg (Value.bool) ?_), hw.frE⟩
    show false = vsBehind d l
    rw [hrel2]; first | (rw [drop_gt (by omega)]; first | (simp only [vsBehind, hb_6f, Bool.not_true, Bool.not_false, Bool.and_false, Bool.false_and, Bool.and_true, Bool.true_and, Bool.or_true, Bool.true_or, Bool.or_false, Bool.false_or, cond_true, cond_false]; done) | (simp [vsBehind, hb_6f, hp_10]; done); done) | (rw [List.drop_of_length_le (by omega)]; simp [vsBehind])

set_option maxRecDepth 100000 in
set_option maxHeartbeats 1000000 in
theorem vers_same_ok (w0 : World) (X : Nat → Prop) (Aa_2 : Option Addr) (ca_2 : Nat) (a : Ver) (ha : Ver.fits X w0 Aa_2 ca_2 a) (Ab_2 : Option Addr) (cb_2 : Nat) (b : Ver) (hb : Ver.fits X w0 Ab_2 cb_2 b) (hX : ∀ k, X k → k < w0.heap.size) : Calls Try.prog 63 #[.agg #[.int .i64 a.dot.s, .int .i64 a.dot.n, .slice Aa_2 a.past.length ca_2, .bool a.gone, .string a.val], .agg #[.int .i64 b.dot.s, .int .i64 b.dot.n, .slice Ab_2 b.past.length cb_2, .bool b.gone, .string b.val]] w0 fun e w' => e = .returned (.bool (vsSame a b)) ∧ Fr no w0 w' := by
  have hav := ha; obtain ⟨ha_0, ha_1, ⟨hca_2, ha_2⟩, ha_4⟩ := hav
  have hbv := hb; obtain ⟨hb_0, hb_1, ⟨hcb_2, hb_2⟩, hb_4⟩ := hbv
  have ha_2l := ha_2.le_
  have hb_2l := hb_2.le_
  refine calls_of (N := 52) (rs := [4]) (args := [.agg #[.int .i64 a.dot.s, .int .i64 a.dot.n, .slice Aa_2 a.past.length ca_2, .bool a.gone, .string a.val], .agg #[.int .i64 b.dot.s, .int .i64 b.dot.n, .slice Ab_2 b.past.length cb_2, .bool b.gone, .string b.val]]) Try.func63 rfl Try.ntmps63 Try.results63 rfl ?_
  refine WC.here (C := CC no w0 X w0 []) ?_ (Cur.start w0 X)
  refine WC.seq ?_
  refine WC.region ?_
  refine e_box (v := .agg #[.int .i64 a.dot.s, .int .i64 a.dot.n, .slice Aa_2 a.past.length ca_2, .bool a.gone, .string a.val]) rfl rfl rfl rfl (by kernel_rfl) ?_
  intro g_1 hg_1 hg_1e
  change WR _ _ _ (CC _ _ _ _ [[(g_1, .cells #[.int .i64 a.dot.s, .int .i64 a.dot.n, .slice Aa_2 a.past.length ca_2, .bool a.gone, .string a.val] 58 (0, 0))]]) _ _ _
  refine e_box (v := .agg #[.int .i64 b.dot.s, .int .i64 b.dot.n, .slice Ab_2 b.past.length cb_2, .bool b.gone, .string b.val]) rfl rfl rfl rfl (by kernel_rfl) ?_
  intro g_2 hg_2 hg_2e
  change WR _ _ _ (CC _ _ _ _ [[(g_2, .cells #[.int .i64 b.dot.s, .int .i64 b.dot.n, .slice Ab_2 b.past.length cb_2, .bool b.gone, .string b.val] 58 (0, 0))], [(g_1, .cells #[.int .i64 a.dot.s, .int .i64 a.dot.n, .slice Aa_2 a.past.length ca_2, .bool a.gone, .string a.val] 58 (0, 0))]]) _ _ _
  refine WR.v (v := .bool false) rfl rfl rfl ?_ ?_
  · refine QV.qo ?_; exact q_assign rfl (by kernel_rfl)
  refine WR.nil ?_
  change WC _ _ _ _ _ _
  refine WC.seq ?_
  refine WC.seq ?_
  refine WC.region ?_
  refine WR.v (v := .pointer (some ⟨g_1, 0, none⟩)) rfl rfl rfl ?_ ?_
  · refine QV.qo ?_; exact q_field_loc (g := g_1) (j := 0) 0 fld_58_0 rfl (by kernel_rfl) rfl
  refine WR.v (v := .agg #[.int .i64 a.dot.s, .int .i64 a.dot.n]) rfl rfl rfl ?_ ?_
  · refine QV.qo ?_; exact q_load_loc_agg (i := 1) (g := g_1) (j := 0) (vs := [.int .i64 a.dot.s, .int .i64 a.dot.n]) rfl Try.isAgg55 Try.sizeOf55 (by kernel_rfl) rfl rfl
  refine WR.v (v := .pointer (some ⟨g_2, 0, none⟩)) rfl rfl rfl ?_ ?_
  · refine QV.qo ?_; exact q_field_loc (g := g_2) (j := 0) 0 fld_58_0 rfl (by kernel_rfl) rfl
  refine WR.v (v := .agg #[.int .i64 b.dot.s, .int .i64 b.dot.n]) rfl rfl rfl ?_ ?_
  · refine QV.qo ?_; exact q_load_loc_agg (i := 0) (g := g_2) (j := 0) (vs := [.int .i64 b.dot.s, .int .i64 b.dot.n]) rfl Try.isAgg55 Try.sizeOf55 (by kernel_rfl) rfl rfl
  refine WR.v (v := .bool (a.dot != b.dot)) rfl rfl rfl ?_ ?_
  · refine QV.qo ?_; exact q_neq_Dot (a := a.dot) (b := b.dot) rfl (by kernel_rfl) (by kernel_rfl)
  refine WR.v (v := .bool (a.dot != b.dot)) rfl rfl rfl ?_ ?_
  · refine QV.qo ?_; exact q_move rfl (by kernel_rfl)
  refine WR.g0 (v := .pointer (some ⟨g_1, 3, none⟩)) (c0 := true) (g := (a.dot != b.dot)) rfl rfl (by kernel_rfl) rfl rfl (fun hc_3 => ?_) ?_
  · refine QV.qo ?_; exact q_field_loc (g := g_1) (j := 0) 3 fld_58_2 rfl (by kernel_rfl) rfl
  refine WR.g0 (v := .bool a.gone) (c0 := true) (g := (a.dot != b.dot)) rfl rfl (by kernel_rfl) rfl rfl (fun hc_4 => ?_) ?_
  · refine QV.qo ?_; exact q_load_loc (i := 1) (g := g_1) (j := 3) (v := .bool a.gone) rfl Try.isAgg4 (gv_of hc_4) rfl rfl
  refine WR.g0 (v := .pointer (some ⟨g_2, 3, none⟩)) (c0 := true) (g := (a.dot != b.dot)) rfl rfl (by kernel_rfl) rfl rfl (fun hc_5 => ?_) ?_
  · refine QV.qo ?_; exact q_field_loc (g := g_2) (j := 0) 3 fld_58_2 rfl (by kernel_rfl) rfl
  refine WR.g0 (v := .bool b.gone) (c0 := true) (g := (a.dot != b.dot)) rfl rfl (by kernel_rfl) rfl rfl (fun hc_6 => ?_) ?_
  · refine QV.qo ?_; exact q_load_loc (i := 0) (g := g_2) (j := 3) (v := .bool b.gone) rfl Try.isAgg4 (gv_of hc_6) rfl rfl
  refine WR.g0 (v := .bool (a.gone != b.gone)) (c0 := true) (g := (a.dot != b.dot)) rfl rfl (by kernel_rfl) rfl rfl (fun hc_7 => ?_) ?_
  · refine QV.qo ?_; exact q_bneq (a := a.gone) (b := b.gone) Try.underlying4 rfl (gv_of hc_7) (gv_of hc_7)
  refine WR.v (v := .bool ((a.dot != b.dot) || (a.gone != b.gone))) rfl rfl rfl ?_ ?_
  · refine QV.qo ?_; exact q_pick (g := (a.dot != b.dot)) rfl (by kernel_rfl) (pk_or (c := true) rfl)
  refine WR.v (v := .bool ((a.dot != b.dot) || (a.gone != b.gone))) rfl rfl rfl ?_ ?_
  · refine QV.qo ?_; exact q_move rfl (by kernel_rfl)
  refine WR.g0 (v := .pointer (some ⟨g_1, 4, none⟩)) (c0 := true) (g := ((a.dot != b.dot) || (a.gone != b.gone))) rfl rfl (by kernel_rfl) rfl rfl (fun hc_8 => ?_) ?_
  · refine QV.qo ?_; exact q_field_loc (g := g_1) (j := 0) 4 fld_58_3 rfl (by kernel_rfl) rfl
  refine WR.g0 (v := .string a.val) (c0 := true) (g := ((a.dot != b.dot) || (a.gone != b.gone))) rfl rfl (by kernel_rfl) rfl rfl (fun hc_9 => ?_) ?_
  · refine QV.qo ?_; exact q_load_loc (i := 1) (g := g_1) (j := 4) (v := .string a.val) rfl Try.isAgg9 (gv_of hc_9) rfl rfl
  refine WR.g0 (v := .pointer (some ⟨g_2, 4, none⟩)) (c0 := true) (g := ((a.dot != b.dot) || (a.gone != b.gone))) rfl rfl (by kernel_rfl) rfl rfl (fun hc_10 => ?_) ?_
  · refine QV.qo ?_; exact q_field_loc (g := g_2) (j := 0) 4 fld_58_3 rfl (by kernel_rfl) rfl
  refine WR.g0 (v := .string b.val) (c0 := true) (g := ((a.dot != b.dot) || (a.gone != b.gone))) rfl rfl (by kernel_rfl) rfl rfl (fun hc_11 => ?_) ?_
  · refine QV.qo ?_; exact q_load_loc (i := 0) (g := g_2) (j := 4) (v := .string b.val) rfl Try.isAgg9 (gv_of hc_11) rfl rfl
  refine WR.g0 (v := .bool (a.val != b.val)) (c0 := true) (g := ((a.dot != b.dot) || (a.gone != b.gone))) rfl rfl (by kernel_rfl) rfl rfl (fun hc_12 => ?_) ?_
  · refine QV.qo ?_; exact q_sneq (a := a.val) (b := b.val) rfl (gv_of hc_12) (gv_of hc_12)
  refine WR.v (v := .bool (((a.dot != b.dot) || (a.gone != b.gone)) || (a.val != b.val))) rfl rfl rfl ?_ ?_
  · refine QV.qo ?_; exact q_pick (g := ((a.dot != b.dot) || (a.gone != b.gone))) rfl (by kernel_rfl) (pk_or (c := true) rfl)
  refine WR.v (v := .bool (((a.dot != b.dot) || (a.gone != b.gone)) || (a.val != b.val))) rfl rfl rfl ?_ ?_
  · refine QV.qo ?_; exact q_move rfl (by kernel_rfl)
  refine WR.g0 (v := .pointer (some ⟨g_1, 2, none⟩)) (c0 := true) (g := (((a.dot != b.dot) || (a.gone != b.gone)) || (a.val != b.val))) rfl rfl (by kernel_rfl) rfl rfl (fun hc_13 => ?_) ?_
  · refine QV.qo ?_; exact q_field_loc (g := g_1) (j := 0) 2 fld_58_1 rfl (by kernel_rfl) rfl
  refine WR.g0 (v := .slice Aa_2 a.past.length ca_2) (c0 := true) (g := (((a.dot != b.dot) || (a.gone != b.gone)) || (a.val != b.val))) rfl rfl (by kernel_rfl) rfl rfl (fun hc_14 => ?_) ?_
  · refine QV.qo ?_; exact q_load_loc (i := 1) (g := g_1) (j := 2) (v := .slice Aa_2 a.past.length ca_2) rfl Try.isAgg56 (gv_of hc_14) rfl rfl
  refine WR.g0 (v := .int .i64 ((a.past.length : Nat) : Int)) (c0 := true) (g := (((a.dot != b.dot) || (a.gone != b.gone)) || (a.val != b.val))) rfl rfl (by kernel_rfl) rfl rfl (fun hc_15 => ?_) ?_
  · refine QV.qo ?_; exact q_len_slice (A := Aa_2) (n := a.past.length) (c := ca_2) rfl Try.underlying56 (gv_of hc_15)
  refine WR.g0 (v := .pointer (some ⟨g_2, 2, none⟩)) (c0 := true) (g := (((a.dot != b.dot) || (a.gone != b.gone)) || (a.val != b.val))) rfl rfl (by kernel_rfl) rfl rfl (fun hc_16 => ?_) ?_
  · refine QV.qo ?_; exact q_field_loc (g := g_2) (j := 0) 2 fld_58_1 rfl (by kernel_rfl) rfl
  refine WR.g0 (v := .slice Ab_2 b.past.length cb_2) (c0 := true) (g := (((a.dot != b.dot) || (a.gone != b.gone)) || (a.val != b.val))) rfl rfl (by kernel_rfl) rfl rfl (fun hc_17 => ?_) ?_
  · refine QV.qo ?_; exact q_load_loc (i := 0) (g := g_2) (j := 2) (v := .slice Ab_2 b.past.length cb_2) rfl Try.isAgg56 (gv_of hc_17) rfl rfl
  refine WR.g0 (v := .int .i64 ((b.past.length : Nat) : Int)) (c0 := true) (g := (((a.dot != b.dot) || (a.gone != b.gone)) || (a.val != b.val))) rfl rfl (by kernel_rfl) rfl rfl (fun hc_18 => ?_) ?_
  · refine QV.qo ?_; exact q_len_slice (A := Ab_2) (n := b.past.length) (c := cb_2) rfl Try.underlying56 (gv_of hc_18)
  refine WR.g0 (v := .bool (((a.past.length : Nat) : Int) != ((b.past.length : Nat) : Int))) (c0 := true) (g := (((a.dot != b.dot) || (a.gone != b.gone)) || (a.val != b.val))) rfl rfl (by kernel_rfl) rfl rfl (fun hc_19 => ?_) ?_
  · refine QV.qo ?_; exact q_neq (k := .i64) (a := ((a.past.length : Nat) : Int)) (b := ((b.past.length : Nat) : Int)) rfl (gv_of hc_19) (gv_of hc_19)
  refine WR.v (v := .bool ((((a.dot != b.dot) || (a.gone != b.gone)) || (a.val != b.val)) || (((a.past.length : Nat) : Int) != ((b.past.length : Nat) : Int)))) rfl rfl rfl ?_ ?_
  · refine QV.qo ?_; exact q_pick (g := (((a.dot != b.dot) || (a.gone != b.gone)) || (a.val != b.val))) rfl (by kernel_rfl) (pk_or (c := true) rfl)
  refine WR.nil ?_
  change WC _ _ _ _ _ _
  refine WC.cond (b := ((((a.dot != b.dot) || (a.gone != b.gone)) || (a.val != b.val)) || (((a.past.length : Nat) : Int) != ((b.past.length : Nat) : Int)))) (by kernel_rfl) ?_ ?_
  · skip
    intro hb_20t
    refine WC.seq ?_
    refine WC.region ?_
    refine WR.v (v := .bool false) rfl rfl rfl ?_ ?_
    · refine QV.qo ?_; exact q_assign rfl (by kernel_rfl)
    refine WR.nil ?_
    change WC _ _ _ _ _ _
    refine WC.ret ?_
    intro w hw
    refine ⟨congrArg Ending.returned (congrArg (Value.bool) ?_), hw.frE⟩
    show false = vsSame a b
    first | (simp only [vsSame, hb_20t, Bool.not_true, Bool.not_false, Bool.and_false, Bool.false_and, Bool.and_true, Bool.true_and, Bool.or_true, Bool.true_or, Bool.or_false, Bool.false_or, cond_true, cond_false]; done) | (simp [vsSame, hb_20t]; done)
  · skip
    intro hb_20f
    have hp_21 := bne_f (or_l (or_l (or_l hb_20f)))
    have hp_22 := (or_r (or_l (or_l hb_20f)))
    have hp_23 := (or_r (or_l hb_20f))
    have hp_24 := bne_f (or_r hb_20f)
    refine WC.skip ?_
    change WC _ _ _ _ _ _
    refine WC.seq ?_
    refine WC.seq ?_
    refine WC.region ?_
    refine WR.v (v := .pointer (some ⟨g_1, 2, none⟩)) rfl rfl rfl ?_ ?_
    · refine QV.qo ?_; exact q_field_loc (g := g_1) (j := 0) 2 fld_58_1 rfl (by kernel_rfl) rfl
    refine WR.v (v := .slice Aa_2 a.past.length ca_2) rfl rfl rfl ?_ ?_
    · refine QV.qo ?_; exact q_load_loc (i := 1) (g := g_1) (j := 2) (v := .slice Aa_2 a.past.length ca_2) rfl Try.isAgg56 (by kernel_rfl) rfl rfl
    refine WR.v (v := .int .i64 ((a.past.length : Nat) : Int)) rfl rfl rfl ?_ ?_
    · refine QV.qo ?_; exact q_len_slice (A := Aa_2) (n := a.past.length) (c := ca_2) rfl Try.underlying56 (by kernel_rfl)
    refine WR.v (v := .int .i64 0) rfl rfl rfl ?_ ?_
    · refine QV.qo ?_; exact q_move rfl (by kernel_rfl)
    refine WR.nil ?_
    change WC _ _ _ _ _ _
    refine WC.block ?_
    refine WC.loop (fun (m : Nat) (σ : Env) (w1 : World) => ∃ (k25 : Nat)   , m = a.past.length - k25 ∧ (k25 ≤ a.past.length) ∧ (allFrom (fun i => !(gt a.past i != gt b.past i)) 0 a.past.length = allFrom (fun i => !(gt a.past i != gt b.past i)) k25 a.past.length) ∧ (σ 2 = .pointer (some ⟨g_1, 0, none⟩) ∧ σ 3 = .pointer (some ⟨g_2, 0, none⟩) ∧ σ 36 = .int .i64 ((a.past.length : Nat) : Int) ∧ σ 37 = .int .i64 ((k25 : Nat) : Int)) ∧ CC no w0 X w0 [[(g_2, .cells #[.int .i64 b.dot.s, .int .i64 b.dot.n, .slice Ab_2 b.past.length cb_2, .bool b.gone, .string b.val] 58 (0, 0))], [(g_1, .cells #[.int .i64 a.dot.s, .int .i64 a.dot.n, .slice Aa_2 a.past.length ca_2, .bool a.gone, .string a.val] 58 (0, 0))]] w1) ?_ ?_
    · intro w1 hw
      exact ⟨_, 0, rfl, (by first | trivial | omega), rfl, ⟨by kernel_rfl, by kernel_rfl, by kernel_rfl, by kernel_rfl⟩, hw⟩
    intro m25 σ25 w1 hI
    obtain ⟨k25, rfl, hk25, hrel25, ⟨h25_2, h25_3, h25_36, h25_37⟩, hw⟩ := hI
    refine WC.here (C := CC no w0 X w0 [[(g_2, .cells #[.int .i64 b.dot.s, .int .i64 b.dot.n, .slice Ab_2 b.past.length cb_2, .bool b.gone, .string b.val] 58 (0, 0))], [(g_1, .cells #[.int .i64 a.dot.s, .int .i64 a.dot.n, .slice Aa_2 a.past.length ca_2, .bool a.gone, .string a.val] 58 (0, 0))]]) ?_ hw
    clear hw
    refine WC.seq ?_
    refine WC.region ?_
    refine WR.v (v := .bool (decide (((k25 : Nat) : Int) < ((a.past.length : Nat) : Int)))) rfl rfl rfl ?_ ?_
    · refine QV.qo ?_; exact q_lss (k := .i64) (a := ((k25 : Nat) : Int)) (b := ((a.past.length : Nat) : Int)) rfl h25_37 h25_36
    refine WR.nil ?_
    change WC _ _ _ _ _ _
    refine WC.seq ?_
    refine WC.cond (b := (decide (((k25 : Nat) : Int) < ((a.past.length : Nat) : Int)))) (by kernel_rfl) ?_ ?_
    · skip
      intro hb_29t
      have hp_30 := of_decide_eq_true hb_29t
      refine WC.skip ?_
      change WC _ _ _ _ _ _
      refine WC.seq ?_
      refine WC.block ?_
      refine WC.seq ?_
      refine WC.region ?_
      refine WR.v (v := .int .i64 ((k25 : Nat) : Int)) rfl rfl rfl ?_ ?_
      · refine QV.qo ?_; exact q_move rfl h25_37
      refine WR.v (v := .int .i64 ((k25 : Nat) : Int)) rfl rfl rfl ?_ ?_
      · refine QV.qo ?_; exact q_assign rfl (by kernel_rfl)
      refine WR.nil ?_
      change WC _ _ _ _ _ _
      refine WC.seq ?_
      refine WC.draw (by kernel_rfl) (by kernel_rfl) (fun w hw => hw.drawn _) ?_
      refine WQ.v (v := .pointer (some ⟨g_1, 2, none⟩)) rfl rfl rfl ?_ ?_
      · refine QV.qo ?_; exact q_field_loc (g := g_1) (j := 0) 2 fld_58_1 rfl h25_2 rfl
      refine WQ.v (v := .slice Aa_2 a.past.length ca_2) rfl rfl rfl ?_ ?_
      · refine QV.qo ?_; exact q_load_loc (i := 1) (g := g_1) (j := 2) (v := .slice Aa_2 a.past.length ca_2) rfl Try.isAgg56 (by kernel_rfl) rfl rfl
      refine WQ.v (v := .int .i64 ((k25 : Nat) : Int)) rfl rfl rfl ?_ ?_
      · refine QV.qo ?_; exact q_move rfl (by kernel_rfl)
      refine WQ.v (v := ptrAt Aa_2 (k25 * 3)) rfl rfl rfl ?_ ?_
      · refine QV.qo ?_; exact q_index_addr (k := .i64) (A := Aa_2) (n := a.past.length) (c := ca_2) (i := k25) rfl Try.underlying56 Try.sizeOf106 (by kernel_rfl) (by kernel_rfl) (by omega) (Sl.some_ ha_2 (k := k25) (by omega))
      refine WQ.v (v := .agg #[.int .i64 (gt a.past k25).s, .int .i64 (gt a.past k25).f, .int .i64 (gt a.past k25).t]) rfl rfl rfl ?_ ?_
      · refine QV.qo ?_; exact q_load_agg (A := Aa_2) (j := k25 * 3) (vs := [.int .i64 (gt a.past k25).s, .int .i64 (gt a.past k25).f, .int .i64 (gt a.past k25).t]) rfl Try.isAgg106 Try.sizeOf106 (by kernel_rfl) (Sl.some_ ha_2 (k := k25) (by omega)) (fun q hq => match q, hq with | 0, _ => Sl.spanT_0 ha_2 (i := k25) (by omega) | 1, _ => Sl.spanT_1 ha_2 (i := k25) (by omega) | 2, _ => Sl.spanT_2 ha_2 (i := k25) (by omega))
      refine WQ.v (v := .pointer (some ⟨g_2, 2, none⟩)) rfl rfl rfl ?_ ?_
      · refine QV.qo ?_; exact q_field_loc (g := g_2) (j := 0) 2 fld_58_1 rfl h25_3 rfl
      refine WQ.v (v := .slice Ab_2 b.past.length cb_2) rfl rfl rfl ?_ ?_
      · refine QV.qo ?_; exact q_load_loc (i := 0) (g := g_2) (j := 2) (v := .slice Ab_2 b.past.length cb_2) rfl Try.isAgg56 (by kernel_rfl) rfl rfl
      refine WQ.v (v := .int .i64 ((k25 : Nat) : Int)) rfl rfl rfl ?_ ?_
      · refine QV.qo ?_; exact q_move rfl (by kernel_rfl)
      refine WQ.v (v := ptrAt Ab_2 (k25 * 3)) rfl rfl rfl ?_ ?_
      · refine QV.qo ?_; exact q_index_addr (k := .i64) (A := Ab_2) (n := b.past.length) (c := cb_2) (i := k25) rfl Try.underlying56 Try.sizeOf106 (by kernel_rfl) (by kernel_rfl) (by omega) (Sl.some_ hb_2 (k := k25) (by omega))
      refine WQ.v (v := .agg #[.int .i64 (gt b.past k25).s, .int .i64 (gt b.past k25).f, .int .i64 (gt b.past k25).t]) rfl rfl rfl ?_ ?_
      · refine QV.qo ?_; exact q_load_agg (A := Ab_2) (j := k25 * 3) (vs := [.int .i64 (gt b.past k25).s, .int .i64 (gt b.past k25).f, .int .i64 (gt b.past k25).t]) rfl Try.isAgg106 Try.sizeOf106 (by kernel_rfl) (Sl.some_ hb_2 (k := k25) (by omega)) (fun q hq => match q, hq with | 0, _ => Sl.spanT_0 hb_2 (i := k25) (by omega) | 1, _ => Sl.spanT_1 hb_2 (i := k25) (by omega) | 2, _ => Sl.spanT_2 hb_2 (i := k25) (by omega))
      refine WQ.v (v := .bool ((gt a.past k25) != (gt b.past k25))) rfl rfl rfl ?_ ?_
      · refine QV.qo ?_; exact q_neq_Span (a := (gt a.past k25)) (b := (gt b.past k25)) rfl (by kernel_rfl) (by kernel_rfl)
      refine WQ.nil ?_
      change WC _ _ _ _ _ _
      refine WC.cond (b := ((gt a.past k25) != (gt b.past k25))) (by kernel_rfl) ?_ ?_
      · skip
        intro hb_31t
        have hp_32 := bne_t hb_31t
        refine WC.seq ?_
        refine WC.region ?_
        refine WR.v (v := .bool false) rfl rfl rfl ?_ ?_
        · refine QV.qo ?_; exact q_assign rfl (by kernel_rfl)
        refine WR.nil ?_
        change WC _ _ _ _ _ _
        refine WC.ret ?_
        intro w hw
        refine ⟨congrArg Ending.returned (congrArg (Value.bool) ?_), hw.frE⟩
        show false = vsSame a b
        unfold vsSame; rw [show ((((a.dot != b.dot) || (a.gone != b.gone)) || (a.val != b.val)) || ((a.past.length : Int) != (b.past.length : Int))) = false by simp [*]]; simp only [cond_false]; rw [hrel25]; first | (rw [allFrom_step (by omega)]; first | (simp only [hb_20f, hb_29t, hb_31t, Bool.not_true, Bool.not_false, Bool.and_false, Bool.false_and, Bool.and_true, Bool.true_and, Bool.or_true, Bool.true_or, Bool.or_false, Bool.false_or, cond_true, cond_false]; done) | (simp [hb_20f, hp_21, hp_22, hp_23, hp_24, hb_29t, hp_30, hb_31t, hp_32]; done); done) | (rw [allFrom_end (by omega)])
      · skip
        intro hb_31f
        have hp_33 := bne_f hb_31f
        refine WC.skip ?_
        change WC _ _ _ _ _ _
        refine WC.region ?_
        refine WR.v (v := .int .i64 ((k25 + 1 : Nat) : Int)) rfl rfl rfl ?_ ?_
        · refine QV.qo ?_; exact q_add (k := .i64) (a := ((k25 : Nat) : Int)) (b := 1) (r := ((k25 + 1 : Nat) : Int)) rfl h25_37 (by kernel_rfl) (wr64 (by omega) (by omega))
        refine WR.v (v := .int .i64 ((k25 + 1 : Nat) : Int)) rfl rfl rfl ?_ ?_
        · refine QV.qo ?_; exact q_move rfl (by kernel_rfl)
        refine WR.nil ?_
        intro w hw
        refine ⟨_, ?_, k25 + 1, rfl, (by first | trivial | omega), ?_, ⟨h25_2, h25_3, h25_36, by kernel_rfl⟩, hw⟩
        · omega
        · rw [hrel25, allFrom_step (by omega)]; first | (simp only [hb_20f, hb_29t, hb_31f, Bool.not_true, Bool.not_false, Bool.and_false, Bool.false_and, Bool.and_true, Bool.true_and, Bool.or_true, Bool.true_or, Bool.or_false, Bool.false_or, cond_true, cond_false]; done) | (simp [hb_20f, hp_21, hp_22, hp_23, hp_24, hb_29t, hp_30, hb_31f, hp_33]; done)
    · skip
      intro hb_29f
      have hp_34 := of_decide_eq_false hb_29f
      refine WC.exit ?_
      change WC _ _ _ _ _ _
      refine WC.seq ?_
      refine WC.region ?_
      refine WR.v (v := .bool true) rfl rfl rfl ?_ ?_
      · refine QV.qo ?_; exact q_assign rfl (by kernel_rfl)
      refine WR.nil ?_
      change WC _ _ _ _ _ _
      refine WC.ret ?_
      intro w hw
      refine ⟨congrArg Ending.returned (congrArg (Value.bool) ?_), hw.frE⟩
      show true = vsSame a b
      unfold vsSame; rw [show ((((a.dot != b.dot) || (a.gone != b.gone)) || (a.val != b.val)) || ((a.past.length : Int) != (b.past.length : Int))) = false by simp [*]]; simp only [cond_false]; rw [hrel25]; first | (rw [allFrom_step (by omega)]; first | (simp only [hb_20f, hb_29f, Bool.not_true, Bool.not_false, Bool.and_false, Bool.false_and, Bool.and_true, Bool.true_and, Bool.or_true, Bool.true_or, Bool.or_false, Bool.false_or, cond_true, cond_false]; done) | (simp [hb_20f, hp_21, hp_22, hp_23, hp_24, hb_29f, hp_34]; done); done) | (rw [allFrom_end (by omega)])

def vers_clone_ok_res (l : (List Span)) (Xr : Nat → Prop) (wr : World) (vr : Value) : Prop := ∃ A0 c0, vr = .slice A0 (l).length c0 ∧ Sl spanT Xr wr A0 (l) ∧ (l).length ≤ c0
set_option maxRecDepth 100000 in
set_option maxHeartbeats 1000000 in
theorem vers_clone_ok (w0 : World) (X : Nat → Prop) (Al : Option Addr) (cl : Nat) (l : (List Span)) (hl : Sl spanT X w0 Al l) (hcl : l.length ≤ cl) (hX : ∀ k, X k → k < w0.heap.size) : Calls Try.prog 61 #[.slice Al l.length cl] w0 fun e w' => ∃ vr, e = .returned vr ∧ vers_clone_ok_res l X w' vr ∧ Fr no w0 w' := by
  have hll := hl.le_
  refine calls_of (N := 5) (rs := [2]) (args := [.slice Al l.length cl]) Try.func61 rfl Try.ntmps61 Try.results61 rfl ?_
  refine WC.here (C := CC no w0 X w0 []) ?_ (Cur.start w0 X)
  refine WC.seq ?_
  refine WC.region ?_
  refine WR.v (v := .slice none 0 0) rfl rfl rfl ?_ ?_
  · refine QV.qo ?_; exact q_assign rfl (by kernel_rfl)
  refine WR.nil ?_
  change WC _ _ _ _ _ _
  refine WC.seq ?_
  refine WC.region ?_
  refine WR.v (v := .slice Al l.length cl) rfl rfl rfl ?_ ?_
  · refine QV.qo ?_; exact q_move rfl (by kernel_rfl)
  refine WR.sub (C' := CC _ _ X w0 [[]]) (fun w hw => hw.pad) ?_
  refine e_append (T := spanT) (xs := []) (ys := l) (A := none) (c := 0) (A2 := Al) (c2 := cl) (i := 0) (row := []) elem_56 rfl rfl rfl rfl (by kernel_rfl) (by kernel_rfl) rfl (Own.nil spanT X w0 106) (by have hsl := Sl.le_ hl; simp only [lim_eq, List.length_append, List.length_cons, List.length_nil, List.length_take, List.length_drop] at *; omega) (fun w hw => src_sl hl hw) ?_
  intro row_2 A_3 c_4 hown_5
  have hown_5l := hown_5.le_
  change WR _ _ _ (CC _ _ X w0 [row_2]) _ _ _
  refine WR.v (v := .slice A_3 l.length c_4) rfl rfl rfl ?_ ?_
  · refine QV.qo ?_; exact q_assign rfl (by kernel_rfl)
  refine WR.nil ?_
  change WC _ _ _ _ _ _
  refine WC.ret ?_
  intro w hw
  have hm_7 : l = l := by
    rfl
  refine ⟨_, rfl, ?_, hw.frE⟩
  unfold vers_clone_ok_res
  rw [← hm_7]
  exact ⟨A_3, c_4, (by kernel_rfl), Own.sl hown_5 hw.st0 (hw.loc row_2 (by simp)) (hw.fresh (by simp) hX), Own.capz hown_5⟩

set_option maxRecDepth 100000 in
set_option maxHeartbeats 1000000 in
theorem vers_RightOne_ok (w0 : World) (X : Nat → Prop) (Av_2 : Option Addr) (cv_2 : Nat) (v : Ver) (hv : Ver.fits X w0 Av_2 cv_2 v) (hX : ∀ k, X k → k < w0.heap.size) : Calls Try.prog 67 #[.agg #[.int .i64 v.dot.s, .int .i64 v.dot.n, .slice Av_2 v.past.length cv_2, .bool v.gone, .string v.val]] w0 fun e w' => e = .returned (.bool (vsRightOne v)) ∧ Fr no w0 w' := by
  have hvv := hv; obtain ⟨hv_0, hv_1, ⟨hcv_2, hv_2⟩, hv_4⟩ := hvv
  have hv_2l := hv_2.le_
  refine calls_of (N := 50) (rs := [2]) (args := [.agg #[.int .i64 v.dot.s, .int .i64 v.dot.n, .slice Av_2 v.past.length cv_2, .bool v.gone, .string v.val]]) Try.func67 rfl Try.ntmps67 Try.results67 rfl ?_
  refine WC.here (C := CC no w0 X w0 []) ?_ (Cur.start w0 X)
  refine WC.seq ?_
  refine WC.region ?_
  refine e_box (v := .agg #[.int .i64 v.dot.s, .int .i64 v.dot.n, .slice Av_2 v.past.length cv_2, .bool v.gone, .string v.val]) rfl rfl rfl rfl (by kernel_rfl) ?_
  intro g_1 hg_1 hg_1e
  change WR _ _ _ (CC _ _ _ _ [[(g_1, .cells #[.int .i64 v.dot.s, .int .i64 v.dot.n, .slice Av_2 v.past.length cv_2, .bool v.gone, .string v.val] 58 (0, 0))]]) _ _ _
  refine WR.v (v := .bool false) rfl rfl rfl ?_ ?_
  · refine QV.qo ?_; exact q_assign rfl (by kernel_rfl)
  refine WR.nil ?_
  change WC _ _ _ _ _ _
  refine WC.seq ?_
  refine WC.region ?_
  refine WR.v (v := .pointer (some ⟨g_1, 0, none⟩)) rfl rfl rfl ?_ ?_
  · refine QV.qo ?_; exact q_field_loc (g := g_1) (j := 0) 0 fld_58_0 rfl (by kernel_rfl) rfl
  refine WR.v (v := .pointer (some ⟨g_1, 0, none⟩)) rfl rfl rfl ?_ ?_
  · refine QV.qo ?_; exact q_field_loc (g := g_1) (j := 0) 0 fld_55_0 rfl (by kernel_rfl) rfl
  refine WR.v (v := .int .i64 v.dot.s) rfl rfl rfl ?_ ?_
  · refine QV.qo ?_; exact q_load_loc (i := 0) (g := g_1) (j := 0) (v := .int .i64 v.dot.s) rfl Try.isAgg3 (by kernel_rfl) rfl rfl
  refine WR.v (v := .pointer (some ⟨g_1, 0, none⟩)) rfl rfl rfl ?_ ?_
  · refine QV.qo ?_; exact q_field_loc (g := g_1) (j := 0) 0 fld_58_0 rfl (by kernel_rfl) rfl
  refine WR.v (v := .pointer (some ⟨g_1, 1, none⟩)) rfl rfl rfl ?_ ?_
  · refine QV.qo ?_; exact q_field_loc (g := g_1) (j := 0) 1 fld_55_1 rfl (by kernel_rfl) rfl
  refine WR.v (v := .int .i64 v.dot.n) rfl rfl rfl ?_ ?_
  · refine QV.qo ?_; exact q_load_loc (i := 0) (g := g_1) (j := 1) (v := .int .i64 v.dot.n) rfl Try.isAgg2 (by kernel_rfl) rfl rfl
  refine WR.v (v := .pointer (some ⟨g_1, 0, none⟩)) rfl rfl rfl ?_ ?_
  · refine QV.qo ?_; exact q_field_loc (g := g_1) (j := 0) 0 fld_58_0 rfl (by kernel_rfl) rfl
  refine WR.v (v := .pointer (some ⟨g_1, 1, none⟩)) rfl rfl rfl ?_ ?_
  · refine QV.qo ?_; exact q_field_loc (g := g_1) (j := 0) 1 fld_55_1 rfl (by kernel_rfl) rfl
  refine WR.v (v := .int .i64 v.dot.n) rfl rfl rfl ?_ ?_
  · refine QV.qo ?_; exact q_load_loc (i := 0) (g := g_1) (j := 1) (v := .int .i64 v.dot.n) rfl Try.isAgg2 (by kernel_rfl) rfl rfl
  refine WR.v (v := .agg #[.int .i64 v.dot.s, .int .i64 v.dot.n, .int .i64 v.dot.n]) rfl rfl rfl ?_ ?_
  · refine QV.qo ?_; exact q_build' (ps := #[(0, .int .i64 v.dot.s), (1, .int .i64 v.dot.n), (2, .int .i64 v.dot.n)]) rfl (bargs3 (by kernel_rfl) (by kernel_rfl) (by kernel_rfl)) (fun w => by kernel_rfl)
  refine e_alloc (z := .agg #[.int .i64 0, .int .i64 0, .int .i64 0]) rfl rfl rfl rfl Try.zeroValue106 ?_
  intro g_2 hg_2 hg_2e
  change WR _ _ _ (CC _ _ _ _ [[(g_2, .cells #[.int .i64 0, .int .i64 0, .int .i64 0] 106 (0, 0))], [(g_1, .cells #[.int .i64 v.dot.s, .int .i64 v.dot.n, .slice Av_2 v.past.length cv_2, .bool v.gone, .string v.val] 58 (0, 0))]]) _ _ _
  refine e_store_loc (i := 0) (g := g_2) (j := 0) (v := .agg #[.int .i64 v.dot.s, .int .i64 v.dot.n, .int .i64 v.dot.n]) (new := #[.int .i64 v.dot.s, .int .i64 v.dot.n, .int .i64 v.dot.n]) (L' := [[(g_2, .cells #[.int .i64 v.dot.s, .int .i64 v.dot.n, .int .i64 v.dot.n] 106 (0, 0))], [(g_1, .cells #[.int .i64 v.dot.s, .int .i64 v.dot.n, .slice Av_2 v.past.length cv_2, .bool v.gone, .string v.val] 58 (0, 0))]]) rfl rfl rfl (by kernel_rfl) (by kernel_rfl) Try.sizeOf106 rfl rfl rfl rfl rfl rfl ?_
  refine WR.nil ?_
  change WC _ _ _ _ _ _
  refine WC.seq ?_
  intro w hw; have hsep_3 := hw.sepB
  refine WC.here (C := CC no w0 X w0 [[(g_2, .cells #[.int .i64 v.dot.s, .int .i64 v.dot.n, .int .i64 v.dot.n] 106 (0, 0))], [(g_1, .cells #[.int .i64 v.dot.s, .int .i64 v.dot.n, .slice Av_2 v.past.length cv_2, .bool v.gone, .string v.val] 58 (0, 0))]]) ?_ hw; clear hw
  have hsep_4 : ∀ r ∈ ([[(g_2, .cells #[.int .i64 v.dot.s, .int .i64 v.dot.n, .int .i64 v.dot.n] 106 (0, 0))], [(g_1, .cells #[.int .i64 v.dot.s, .int .i64 v.dot.n, .slice Av_2 v.past.length cv_2, .bool v.gone, .string v.val] 58 (0, 0))]] : List Rowb), ∀ p ∈ r, X p.1 ∨ w0.heap.size ≤ p.1 := fun r hr => hsep_3 r (List.Sublist.subset (.cons_cons _ (.cons_cons _ .slnil)) hr)
  refine WC.held (CC no w0 X w0 [[(g_2, .cells #[.int .i64 v.dot.s, .int .i64 v.dot.n, .int .i64 v.dot.n] 106 (0, 0))], [(g_1, .cells #[.int .i64 v.dot.s, .int .i64 v.dot.n, .slice Av_2 v.past.length cv_2, .bool v.gone, .string v.val] 58 (0, 0))]]) (by kernel_rfl) (fun w hw => hw.drawn _) ?_
  change WH _ _ _ _ (CC _ _ _ _ [[(g_2, .cells #[.int .i64 v.dot.s, .int .i64 v.dot.n, .int .i64 v.dot.n] 106 (0, 0))], [(g_1, .cells #[.int .i64 v.dot.s, .int .i64 v.dot.n, .slice Av_2 v.past.length cv_2, .bool v.gone, .string v.val] 58 (0, 0))]]) _ 37 #[false, false, false, false, false, false, false, false, false, false, false, false, false, false, false, false, false, false, false, false, false, false, false, false, false, false, false, false, false, false, false, false, false, false, false, false, false] _
  refine WH.take (i := 0) (v := .agg #[.int .i64 v.dot.s, .int .i64 v.dot.n, .int .i64 v.dot.n]) rfl (by kernel_rfl) (by kernel_rfl) (by kernel_rfl) rfl rfl rfl (fun w hw => Cur.back hw (St.refl _ _) (.cons_cons _ (.cons_cons _ .slnil)) hsep_4) ?_ ?_
  · exact q_load_loc_agg (i := 0) (g := g_2) (j := 0) (vs := [.int .i64 v.dot.s, .int .i64 v.dot.n, .int .i64 v.dot.n]) rfl Try.isAgg106 Try.sizeOf106 (by kernel_rfl) rfl rfl
  refine WH.lone (i := 1) (by kernel_rfl) rfl ?_
  refine e_buildSlice (cs := #[.int .i64 v.dot.s, .int .i64 v.dot.n, .int .i64 v.dot.n]) (e := 106) rfl rfl rfl rfl (fun w => by kernel_rfl) ?_
  intro g_5 hg_5 hg_5e
  change WR _ _ _ (CC _ _ _ _ [[(g_5, .cells #[.int .i64 v.dot.s, .int .i64 v.dot.n, .int .i64 v.dot.n] 106 (0, 0))], [(g_2, .cells #[.int .i64 v.dot.s, .int .i64 v.dot.n, .int .i64 v.dot.n] 106 (0, 0))], [(g_1, .cells #[.int .i64 v.dot.s, .int .i64 v.dot.n, .slice Av_2 v.past.length cv_2, .bool v.gone, .string v.val] 58 (0, 0))]]) _ _ _
  refine WR.nil ?_
  refine WH.next (fun w hw => Cur.back hw (St.refl _ _) (.cons _ (.cons_cons _ (.cons_cons _ .slnil))) hsep_4) ?_
  refine WH.lone (i := 2) (by kernel_rfl) rfl ?_
  have hown_6 : Own spanT X w0 106 [(g_5, .cells #[.int .i64 v.dot.s, .int .i64 v.dot.n, .int .i64 v.dot.n] 106 (0, 0))] (some ⟨g_5, 0, none⟩) 1 [(⟨v.dot.s, v.dot.n, v.dot.n⟩ : Span)] := Own.of_block (T := spanT) (X := X) (B := w0) (ys := [(⟨v.dot.s, v.dot.n, v.dot.n⟩ : Span)]) [[.int .i64 v.dot.s, .int .i64 v.dot.n, .int .i64 v.dot.n]] rfl rfl (by simp only [List.length_cons, List.length_nil, lim_eq]; omega) (fun i h => match i, h with | 0, _ => (show Ty.rd spanT X w0 [.int .i64 v.dot.s, .int .i64 v.dot.n, .int .i64 v.dot.n] (⟨v.dot.s, v.dot.n, v.dot.n⟩ : Span) from ⟨rfl, ⟨hv_0, hv_1, hv_1⟩⟩))
  refine WR.v (v := .bool (spRight ([(⟨v.dot.s, v.dot.n, v.dot.n⟩ : Span)]))) rfl rfl rfl ?_ ?_
  · exact q_call (args := #[.slice (some ⟨g_5, 0, none⟩) [(⟨v.dot.s, v.dot.n, v.dot.n⟩ : Span)].length 1]) Try.call69 rfl (by kernel_rfl) (fun w hw => span_Right_ok w no (some ⟨g_5, 0, none⟩) 1 ([(⟨v.dot.s, v.dot.n, v.dot.n⟩ : Span)]) (Own.sl hown_6 (hw.st0.trans (St.to_no _ _)) (hw.loc [(g_5, .cells #[.int .i64 v.dot.s, .int .i64 v.dot.n, .int .i64 v.dot.n] 106 (0, 0))] (by simp)) (fun _ _ h => h)) (Own.capz hown_6) (fun _ h => h.elim))
  refine WR.nil ?_
  refine WH.next (fun w hw => Cur.back hw (St.refl _ _) (.cons _ (.cons_cons _ (.cons_cons _ .slnil))) hsep_4) ?_
  refine WH.take (i := 3) (v := .bool (spRight ([(⟨v.dot.s, v.dot.n, v.dot.n⟩ : Span)]))) rfl (by kernel_rfl) (by kernel_rfl) (by kernel_rfl) rfl rfl rfl (fun w hw => Cur.back hw (St.refl _ _) (.cons _ (.cons_cons _ (.cons_cons _ .slnil))) hsep_4) ?_ ?_
  · exact q_move rfl (by kernel_rfl)
  refine WH.takeg1 (i := 4) (v := .pointer (some ⟨g_1, 2, none⟩)) (c0 := true) (g := (spRight ([(⟨v.dot.s, v.dot.n, v.dot.n⟩ : Span)]))) rfl (by kernel_rfl) (by kernel_rfl) (by kernel_rfl) rfl rfl (by kernel_rfl) rfl rfl (fun w hw => Cur.back hw (St.refl _ _) (.cons _ (.cons_cons _ (.cons_cons _ .slnil))) hsep_4) (fun hc_8 => ?_) ?_
  · exact q_field_loc (g := g_1) (j := 0) 2 fld_58_1 rfl (by kernel_rfl) rfl
  refine WH.takeg1 (i := 5) (v := .slice Av_2 v.past.length cv_2) (c0 := true) (g := (spRight ([(⟨v.dot.s, v.dot.n, v.dot.n⟩ : Span)]))) rfl (by kernel_rfl) (by kernel_rfl) (by kernel_rfl) rfl rfl (by kernel_rfl) rfl rfl (fun w hw => Cur.back hw (St.refl _ _) (.cons _ (.cons_cons _ (.cons_cons _ .slnil))) hsep_4) (fun hc_9 => ?_) ?_
  · exact q_load_loc (i := 1) (g := g_1) (j := 2) (v := .slice Av_2 v.past.length cv_2) rfl Try.isAgg56 (gv_of hc_9) rfl rfl
  refine WH.lone (i := 6) (by kernel_rfl) rfl ?_
  refine WR.g1 (v := .bool (spRight (v.past))) (c0 := true) (g := (spRight ([(⟨v.dot.s, v.dot.n, v.dot.n⟩ : Span)]))) rfl rfl (by kernel_rfl) rfl rfl (fun hc_10 => ?_) ?_
  · exact q_call (args := #[.slice Av_2 v.past.length cv_2]) Try.call69 rfl (by exact args1 (gv_of hc_10)) (fun w hw => span_Right_ok w no Av_2 cv_2 (v.past) (Sl.step hv_2 (hw.st0.trans (St.to_no _ _))) hcv_2 (fun _ h => h.elim))
  refine WR.nil ?_
  refine WH.next (fun w hw => Cur.back hw (St.refl _ _) (.cons _ (.cons_cons _ (.cons_cons _ .slnil))) hsep_4) ?_
  refine WH.take (i := 7) (v := .bool ((spRight ([(⟨v.dot.s, v.dot.n, v.dot.n⟩ : Span)])) && (spRight (v.past)))) rfl (by kernel_rfl) (by kernel_rfl) (by kernel_rfl) rfl rfl rfl (fun w hw => Cur.back hw (St.refl _ _) (.cons _ (.cons_cons _ (.cons_cons _ .slnil))) hsep_4) ?_ ?_
  · exact q_pick (g := (spRight ([(⟨v.dot.s, v.dot.n, v.dot.n⟩ : Span)]))) rfl (by kernel_rfl) (pk_and (c := true) rfl)
  refine WH.take (i := 8) (v := .bool ((spRight ([(⟨v.dot.s, v.dot.n, v.dot.n⟩ : Span)])) && (spRight (v.past)))) rfl (by kernel_rfl) (by kernel_rfl) (by kernel_rfl) rfl rfl rfl (fun w hw => Cur.back hw (St.refl _ _) (.cons _ (.cons_cons _ (.cons_cons _ .slnil))) hsep_4) ?_ ?_
  · exact q_move rfl (by kernel_rfl)
  refine WH.takeg1 (i := 9) (v := .pointer (some ⟨g_1, 2, none⟩)) (c0 := true) (g := ((spRight ([(⟨v.dot.s, v.dot.n, v.dot.n⟩ : Span)])) && (spRight (v.past)))) rfl (by kernel_rfl) (by kernel_rfl) (by kernel_rfl) rfl rfl (by kernel_rfl) rfl rfl (fun w hw => Cur.back hw (St.refl _ _) (.cons _ (.cons_cons _ (.cons_cons _ .slnil))) hsep_4) (fun hc_11 => ?_) ?_
  · exact q_field_loc (g := g_1) (j := 0) 2 fld_58_1 rfl (by kernel_rfl) rfl
  refine WH.takeg1 (i := 10) (v := .slice Av_2 v.past.length cv_2) (c0 := true) (g := ((spRight ([(⟨v.dot.s, v.dot.n, v.dot.n⟩ : Span)])) && (spRight (v.past)))) rfl (by kernel_rfl) (by kernel_rfl) (by kernel_rfl) rfl rfl (by kernel_rfl) rfl rfl (fun w hw => Cur.back hw (St.refl _ _) (.cons _ (.cons_cons _ (.cons_cons _ .slnil))) hsep_4) (fun hc_12 => ?_) ?_
  · exact q_load_loc (i := 1) (g := g_1) (j := 2) (v := .slice Av_2 v.past.length cv_2) rfl Try.isAgg56 (gv_of hc_12) rfl rfl
  refine WH.takeg1 (i := 11) (v := .pointer (some ⟨g_1, 0, none⟩)) (c0 := true) (g := ((spRight ([(⟨v.dot.s, v.dot.n, v.dot.n⟩ : Span)])) && (spRight (v.past)))) rfl (by kernel_rfl) (by kernel_rfl) (by kernel_rfl) rfl rfl (by kernel_rfl) rfl rfl (fun w hw => Cur.back hw (St.refl _ _) (.cons _ (.cons_cons _ (.cons_cons _ .slnil))) hsep_4) (fun hc_13 => ?_) ?_
  · exact q_field_loc (g := g_1) (j := 0) 0 fld_58_0 rfl (by kernel_rfl) rfl
  refine WH.takeg1 (i := 12) (v := .pointer (some ⟨g_1, 0, none⟩)) (c0 := true) (g := ((spRight ([(⟨v.dot.s, v.dot.n, v.dot.n⟩ : Span)])) && (spRight (v.past)))) rfl (by kernel_rfl) (by kernel_rfl) (by kernel_rfl) rfl rfl (by kernel_rfl) rfl rfl (fun w hw => Cur.back hw (St.refl _ _) (.cons _ (.cons_cons _ (.cons_cons _ .slnil))) hsep_4) (fun hc_14 => ?_) ?_
  · exact q_field_loc (g := g_1) (j := 0) 0 fld_55_0 rfl (gv_of hc_14) rfl
  refine WH.takeg1 (i := 13) (v := .int .i64 v.dot.s) (c0 := true) (g := ((spRight ([(⟨v.dot.s, v.dot.n, v.dot.n⟩ : Span)])) && (spRight (v.past)))) rfl (by kernel_rfl) (by kernel_rfl) (by kernel_rfl) rfl rfl (by kernel_rfl) rfl rfl (fun w hw => Cur.back hw (St.refl _ _) (.cons _ (.cons_cons _ (.cons_cons _ .slnil))) hsep_4) (fun hc_15 => ?_) ?_
  · exact q_load_loc (i := 1) (g := g_1) (j := 0) (v := .int .i64 v.dot.s) rfl Try.isAgg3 (gv_of hc_15) rfl rfl
  refine WH.takeg1 (i := 15) (v := .pointer (some ⟨g_1, 0, none⟩)) (c0 := true) (g := ((spRight ([(⟨v.dot.s, v.dot.n, v.dot.n⟩ : Span)])) && (spRight (v.past)))) rfl (by kernel_rfl) (by kernel_rfl) (by kernel_rfl) rfl rfl (by kernel_rfl) rfl rfl (fun w hw => Cur.back hw (St.refl _ _) (.cons _ (.cons_cons _ (.cons_cons _ .slnil))) hsep_4) (fun hc_16 => ?_) ?_
  · exact q_field_loc (g := g_1) (j := 0) 0 fld_58_0 rfl (by kernel_rfl) rfl
  refine WH.takeg1 (i := 16) (v := .pointer (some ⟨g_1, 1, none⟩)) (c0 := true) (g := ((spRight ([(⟨v.dot.s, v.dot.n, v.dot.n⟩ : Span)])) && (spRight (v.past)))) rfl (by kernel_rfl) (by kernel_rfl) (by kernel_rfl) rfl rfl (by kernel_rfl) rfl rfl (fun w hw => Cur.back hw (St.refl _ _) (.cons _ (.cons_cons _ (.cons_cons _ .slnil))) hsep_4) (fun hc_17 => ?_) ?_
  · exact q_field_loc (g := g_1) (j := 0) 1 fld_55_1 rfl (gv_of hc_17) rfl
  refine WH.takeg1 (i := 17) (v := .int .i64 v.dot.n) (c0 := true) (g := ((spRight ([(⟨v.dot.s, v.dot.n, v.dot.n⟩ : Span)])) && (spRight (v.past)))) rfl (by kernel_rfl) (by kernel_rfl) (by kernel_rfl) rfl rfl (by kernel_rfl) rfl rfl (fun w hw => Cur.back hw (St.refl _ _) (.cons _ (.cons_cons _ (.cons_cons _ .slnil))) hsep_4) (fun hc_18 => ?_) ?_
  · exact q_load_loc (i := 1) (g := g_1) (j := 1) (v := .int .i64 v.dot.n) rfl Try.isAgg2 (gv_of hc_18) rfl rfl
  refine WH.lone (i := 14) (by kernel_rfl) rfl ?_
  refine WR.g1 (v := .int .i64 (spTop (v.past) (v.dot.s))) (c0 := true) (g := ((spRight ([(⟨v.dot.s, v.dot.n, v.dot.n⟩ : Span)])) && (spRight (v.past)))) rfl rfl (by kernel_rfl) rfl rfl (fun hc_19 => ?_) ?_
  · exact q_call (args := #[.slice Av_2 v.past.length cv_2, .int .i64 v.dot.s]) Try.call70 rfl (by exact args2 (gv_of hc_19) (gv_of hc_19)) (fun w hw => span_Top_ok w no Av_2 cv_2 (v.past) (Sl.step hv_2 (hw.st0.trans (St.to_no _ _))) hcv_2 (v.dot.s) hv_0 (fun _ h => h.elim))
  refine WR.nil ?_
  refine WH.next (fun w hw => Cur.back hw (St.refl _ _) (.cons _ (.cons_cons _ (.cons_cons _ .slnil))) hsep_4) ?_
  refine WH.takeg1 (i := 18) (v := .bool (decide ((spTop (v.past) (v.dot.s)) < v.dot.n))) (c0 := true) (g := ((spRight ([(⟨v.dot.s, v.dot.n, v.dot.n⟩ : Span)])) && (spRight (v.past)))) rfl (by kernel_rfl) (by kernel_rfl) (by kernel_rfl) rfl rfl (by kernel_rfl) rfl rfl (fun w hw => Cur.back hw (St.refl _ _) (.cons _ (.cons_cons _ (.cons_cons _ .slnil))) hsep_4) (fun hc_20 => ?_) ?_
  · exact q_lss (k := .i64) (a := (spTop (v.past) (v.dot.s))) (b := v.dot.n) rfl (gv_of hc_20) (gv_of hc_20)
  refine WH.take (i := 19) (v := .bool (((spRight ([(⟨v.dot.s, v.dot.n, v.dot.n⟩ : Span)])) && (spRight (v.past))) && (decide ((spTop (v.past) (v.dot.s)) < v.dot.n)))) rfl (by kernel_rfl) (by kernel_rfl) (by kernel_rfl) rfl rfl rfl (fun w hw => Cur.back hw (St.refl _ _) (.cons _ (.cons_cons _ (.cons_cons _ .slnil))) hsep_4) ?_ ?_
  · exact q_pick (g := ((spRight ([(⟨v.dot.s, v.dot.n, v.dot.n⟩ : Span)])) && (spRight (v.past)))) rfl (by kernel_rfl) (pk_and (c := true) rfl)
  refine WH.take (i := 20) (v := .bool (((spRight ([(⟨v.dot.s, v.dot.n, v.dot.n⟩ : Span)])) && (spRight (v.past))) && (decide ((spTop (v.past) (v.dot.s)) < v.dot.n)))) rfl (by kernel_rfl) (by kernel_rfl) (by kernel_rfl) rfl rfl rfl (fun w hw => Cur.back hw (St.refl _ _) (.cons _ (.cons_cons _ (.cons_cons _ .slnil))) hsep_4) ?_ ?_
  · exact q_move rfl (by kernel_rfl)
  refine WH.takeg1 (i := 21) (v := .pointer (some ⟨g_1, 4, none⟩)) (c0 := true) (g := (((spRight ([(⟨v.dot.s, v.dot.n, v.dot.n⟩ : Span)])) && (spRight (v.past))) && (decide ((spTop (v.past) (v.dot.s)) < v.dot.n)))) rfl (by kernel_rfl) (by kernel_rfl) (by kernel_rfl) rfl rfl (by kernel_rfl) rfl rfl (fun w hw => Cur.back hw (St.refl _ _) (.cons _ (.cons_cons _ (.cons_cons _ .slnil))) hsep_4) (fun hc_21 => ?_) ?_
  · exact q_field_loc (g := g_1) (j := 0) 4 fld_58_3 rfl (by kernel_rfl) rfl
  refine WH.takeg1 (i := 22) (v := .string v.val) (c0 := true) (g := (((spRight ([(⟨v.dot.s, v.dot.n, v.dot.n⟩ : Span)])) && (spRight (v.past))) && (decide ((spTop (v.past) (v.dot.s)) < v.dot.n)))) rfl (by kernel_rfl) (by kernel_rfl) (by kernel_rfl) rfl rfl (by kernel_rfl) rfl rfl (fun w hw => Cur.back hw (St.refl _ _) (.cons _ (.cons_cons _ (.cons_cons _ .slnil))) hsep_4) (fun hc_22 => ?_) ?_
  · exact q_load_loc (i := 1) (g := g_1) (j := 4) (v := .string v.val) rfl Try.isAgg9 (gv_of hc_22) rfl rfl
  refine WH.takeg1 (i := 23) (v := .int .i64 ((v.val.size : Nat) : Int)) (c0 := true) (g := (((spRight ([(⟨v.dot.s, v.dot.n, v.dot.n⟩ : Span)])) && (spRight (v.past))) && (decide ((spTop (v.past) (v.dot.s)) < v.dot.n)))) rfl (by kernel_rfl) (by kernel_rfl) (by kernel_rfl) rfl rfl (by kernel_rfl) rfl rfl (fun w hw => Cur.back hw (St.refl _ _) (.cons _ (.cons_cons _ (.cons_cons _ .slnil))) hsep_4) (fun hc_23 => ?_) ?_
  · exact q_len_str (s := v.val) rfl Try.underlying9 (gv_of hc_23)
  refine WH.takeg1 (i := 24) (v := .bool (decide (((v.val.size : Nat) : Int) ≤ 256))) (c0 := true) (g := (((spRight ([(⟨v.dot.s, v.dot.n, v.dot.n⟩ : Span)])) && (spRight (v.past))) && (decide ((spTop (v.past) (v.dot.s)) < v.dot.n)))) rfl (by kernel_rfl) (by kernel_rfl) (by kernel_rfl) rfl rfl (by kernel_rfl) rfl rfl (fun w hw => Cur.back hw (St.refl _ _) (.cons _ (.cons_cons _ (.cons_cons _ .slnil))) hsep_4) (fun hc_24 => ?_) ?_
  · exact q_leq (k := .i64) (a := ((v.val.size : Nat) : Int)) (b := 256) rfl (gv_of hc_24) (by kernel_rfl)
  refine WH.take (i := 25) (v := .bool ((((spRight ([(⟨v.dot.s, v.dot.n, v.dot.n⟩ : Span)])) && (spRight (v.past))) && (decide ((spTop (v.past) (v.dot.s)) < v.dot.n))) && (decide (((v.val.size : Nat) : Int) ≤ 256)))) rfl (by kernel_rfl) (by kernel_rfl) (by kernel_rfl) rfl rfl rfl (fun w hw => Cur.back hw (St.refl _ _) (.cons _ (.cons_cons _ (.cons_cons _ .slnil))) hsep_4) ?_ ?_
  · exact q_pick (g := (((spRight ([(⟨v.dot.s, v.dot.n, v.dot.n⟩ : Span)])) && (spRight (v.past))) && (decide ((spTop (v.past) (v.dot.s)) < v.dot.n)))) rfl (by kernel_rfl) (pk_and (c := true) rfl)
  refine WH.take (i := 26) (v := .bool ((((spRight ([(⟨v.dot.s, v.dot.n, v.dot.n⟩ : Span)])) && (spRight (v.past))) && (decide ((spTop (v.past) (v.dot.s)) < v.dot.n))) && (decide (((v.val.size : Nat) : Int) ≤ 256)))) rfl (by kernel_rfl) (by kernel_rfl) (by kernel_rfl) rfl rfl rfl (fun w hw => Cur.back hw (St.refl _ _) (.cons _ (.cons_cons _ (.cons_cons _ .slnil))) hsep_4) ?_ ?_
  · exact q_move rfl (by kernel_rfl)
  refine WH.takeg1 (i := 27) (v := .pointer (some ⟨g_1, 3, none⟩)) (c0 := true) (g := ((((spRight ([(⟨v.dot.s, v.dot.n, v.dot.n⟩ : Span)])) && (spRight (v.past))) && (decide ((spTop (v.past) (v.dot.s)) < v.dot.n))) && (decide (((v.val.size : Nat) : Int) ≤ 256)))) rfl (by kernel_rfl) (by kernel_rfl) (by kernel_rfl) rfl rfl (by kernel_rfl) rfl rfl (fun w hw => Cur.back hw (St.refl _ _) (.cons _ (.cons_cons _ (.cons_cons _ .slnil))) hsep_4) (fun hc_25 => ?_) ?_
  · exact q_field_loc (g := g_1) (j := 0) 3 fld_58_2 rfl (by kernel_rfl) rfl
  refine WH.takeg1 (i := 28) (v := .bool v.gone) (c0 := true) (g := ((((spRight ([(⟨v.dot.s, v.dot.n, v.dot.n⟩ : Span)])) && (spRight (v.past))) && (decide ((spTop (v.past) (v.dot.s)) < v.dot.n))) && (decide (((v.val.size : Nat) : Int) ≤ 256)))) rfl (by kernel_rfl) (by kernel_rfl) (by kernel_rfl) rfl rfl (by kernel_rfl) rfl rfl (fun w hw => Cur.back hw (St.refl _ _) (.cons _ (.cons_cons _ (.cons_cons _ .slnil))) hsep_4) (fun hc_26 => ?_) ?_
  · exact q_load_loc (i := 1) (g := g_1) (j := 3) (v := .bool v.gone) rfl Try.isAgg4 (gv_of hc_26) rfl rfl
  refine WH.takeg1 (i := 29) (v := .bool (!v.gone)) (c0 := true) (g := ((((spRight ([(⟨v.dot.s, v.dot.n, v.dot.n⟩ : Span)])) && (spRight (v.past))) && (decide ((spTop (v.past) (v.dot.s)) < v.dot.n))) && (decide (((v.val.size : Nat) : Int) ≤ 256)))) rfl (by kernel_rfl) (by kernel_rfl) (by kernel_rfl) rfl rfl (by kernel_rfl) rfl rfl (fun w hw => Cur.back hw (St.refl _ _) (.cons _ (.cons_cons _ (.cons_cons _ .slnil))) hsep_4) (fun hc_27 => ?_) ?_
  · exact q_not (g := v.gone) rfl (gv_of hc_27)
  refine WH.takeg1 (i := 30) (v := .bool (!v.gone)) (c0 := true) (g := ((((spRight ([(⟨v.dot.s, v.dot.n, v.dot.n⟩ : Span)])) && (spRight (v.past))) && (decide ((spTop (v.past) (v.dot.s)) < v.dot.n))) && (decide (((v.val.size : Nat) : Int) ≤ 256)))) rfl (by kernel_rfl) (by kernel_rfl) (by kernel_rfl) rfl rfl (by kernel_rfl) rfl rfl (fun w hw => Cur.back hw (St.refl _ _) (.cons _ (.cons_cons _ (.cons_cons _ .slnil))) hsep_4) (fun hc_28 => ?_) ?_
  · exact q_move rfl (gv_of hc_28)
  refine WH.takeg0 (i := 31) (v := .pointer (some ⟨g_1, 4, none⟩)) (c0 := (true && ((((spRight ([(⟨v.dot.s, v.dot.n, v.dot.n⟩ : Span)])) && (spRight (v.past))) && (decide ((spTop (v.past) (v.dot.s)) < v.dot.n))) && (decide (((v.val.size : Nat) : Int) ≤ 256))))) (g := (!v.gone)) rfl (by kernel_rfl) (by kernel_rfl) (by kernel_rfl) rfl rfl (by kernel_rfl) rfl rfl (fun w hw => Cur.back hw (St.refl _ _) (.cons _ (.cons_cons _ (.cons_cons _ .slnil))) hsep_4) (fun hc_29 => ?_) ?_
  · exact q_field_loc (g := g_1) (j := 0) 4 fld_58_3 rfl (by kernel_rfl) rfl
  refine WH.takeg0 (i := 32) (v := .string v.val) (c0 := (true && ((((spRight ([(⟨v.dot.s, v.dot.n, v.dot.n⟩ : Span)])) && (spRight (v.past))) && (decide ((spTop (v.past) (v.dot.s)) < v.dot.n))) && (decide (((v.val.size : Nat) : Int) ≤ 256))))) (g := (!v.gone)) rfl (by kernel_rfl) (by kernel_rfl) (by kernel_rfl) rfl rfl (by kernel_rfl) rfl rfl (fun w hw => Cur.back hw (St.refl _ _) (.cons _ (.cons_cons _ (.cons_cons _ .slnil))) hsep_4) (fun hc_30 => ?_) ?_
  · exact q_load_loc (i := 1) (g := g_1) (j := 4) (v := .string v.val) rfl Try.isAgg9 (gv_of hc_30) rfl rfl
  refine WH.takeg0 (i := 33) (v := .bool (v.val == ⟨#[]⟩)) (c0 := (true && ((((spRight ([(⟨v.dot.s, v.dot.n, v.dot.n⟩ : Span)])) && (spRight (v.past))) && (decide ((spTop (v.past) (v.dot.s)) < v.dot.n))) && (decide (((v.val.size : Nat) : Int) ≤ 256))))) (g := (!v.gone)) rfl (by kernel_rfl) (by kernel_rfl) (by kernel_rfl) rfl rfl (by kernel_rfl) rfl rfl (fun w hw => Cur.back hw (St.refl _ _) (.cons _ (.cons_cons _ (.cons_cons _ .slnil))) hsep_4) (fun hc_31 => ?_) ?_
  · exact q_seql (a := v.val) (b := ⟨#[]⟩) rfl (gv_of hc_31) (by kernel_rfl)
  refine WH.takeg1 (i := 34) (v := .bool ((!v.gone) || (v.val == ⟨#[]⟩))) (c0 := true) (g := ((((spRight ([(⟨v.dot.s, v.dot.n, v.dot.n⟩ : Span)])) && (spRight (v.past))) && (decide ((spTop (v.past) (v.dot.s)) < v.dot.n))) && (decide (((v.val.size : Nat) : Int) ≤ 256)))) rfl (by kernel_rfl) (by kernel_rfl) (by kernel_rfl) rfl rfl (by kernel_rfl) rfl rfl (fun w hw => Cur.back hw (St.refl _ _) (.cons _ (.cons_cons _ (.cons_cons _ .slnil))) hsep_4) (fun hc_32 => ?_) ?_
  · exact q_pick (g := (!v.gone)) rfl (gv_of hc_32) (pk_or (c := (true && ((((spRight ([(⟨v.dot.s, v.dot.n, v.dot.n⟩ : Span)])) && (spRight (v.past))) && (decide ((spTop (v.past) (v.dot.s)) < v.dot.n))) && (decide (((v.val.size : Nat) : Int) ≤ 256))))) hc_32)
  refine WH.take (i := 35) (v := .bool (((((spRight ([(⟨v.dot.s, v.dot.n, v.dot.n⟩ : Span)])) && (spRight (v.past))) && (decide ((spTop (v.past) (v.dot.s)) < v.dot.n))) && (decide (((v.val.size : Nat) : Int) ≤ 256))) && ((!v.gone) || (v.val == ⟨#[]⟩)))) rfl (by kernel_rfl) (by kernel_rfl) (by kernel_rfl) rfl rfl rfl (fun w hw => Cur.back hw (St.refl _ _) (.cons _ (.cons_cons _ (.cons_cons _ .slnil))) hsep_4) ?_ ?_
  · exact q_pick (g := ((((spRight ([(⟨v.dot.s, v.dot.n, v.dot.n⟩ : Span)])) && (spRight (v.past))) && (decide ((spTop (v.past) (v.dot.s)) < v.dot.n))) && (decide (((v.val.size : Nat) : Int) ≤ 256)))) rfl (by kernel_rfl) (pk_and (c := true) rfl)
  refine WH.take (i := 36) (v := .bool (((((spRight ([(⟨v.dot.s, v.dot.n, v.dot.n⟩ : Span)])) && (spRight (v.past))) && (decide ((spTop (v.past) (v.dot.s)) < v.dot.n))) && (decide (((v.val.size : Nat) : Int) ≤ 256))) && ((!v.gone) || (v.val == ⟨#[]⟩)))) rfl (by kernel_rfl) (by kernel_rfl) (by kernel_rfl) rfl rfl rfl (fun w hw => Cur.back hw (St.refl _ _) (.cons _ (.cons_cons _ (.cons_cons _ .slnil))) hsep_4) ?_ ?_
  · exact q_assign rfl (by kernel_rfl)
  refine WH.done (by kernel_rfl) ?_
  change WC _ _ _ _ _ _
  refine WC.ret ?_
  intro w hw
  refine ⟨congrArg Ending.returned (congrArg (Value.bool) ?_), hw.frE⟩
  show (((((spRight ([(⟨v.dot.s, v.dot.n, v.dot.n⟩ : Span)])) && (spRight (v.past))) && (decide ((spTop (v.past) (v.dot.s)) < v.dot.n))) && (decide (((v.val.size : Nat) : Int) ≤ 256))) && ((!v.gone) || (v.val == ⟨#[]⟩))) = vsRightOne v
  first | (simp only [vsRightOne, Bool.not_true, Bool.not_false, Bool.and_false, Bool.false_and, Bool.and_true, Bool.true_and, Bool.or_true, Bool.true_or, Bool.or_false, Bool.false_or, cond_true, cond_false]; done) | (simp [vsRightOne, ]; done)

set_option maxRecDepth 100000 in
set_option maxHeartbeats 1000000 in
theorem vers_Right_ok (w0 : World) (X : Nat → Prop) (Al : Option Addr) (cl : Nat) (l : (List Ver)) (hl : Sl verT X w0 Al l) (hcl : l.length ≤ cl) (hX : ∀ k, X k → k < w0.heap.size) : Calls Try.prog 58 #[.slice Al l.length cl] w0 fun e w' => e = .returned (.bool (vsRight l)) ∧ Fr no w0 w' := by
  have hll := hl.le_
  refine calls_of (N := 41) (rs := [2]) (args := [.slice Al l.length cl]) Try.func58 rfl Try.ntmps58 Try.results58 rfl ?_
  refine WC.here (C := CC no w0 X w0 []) ?_ (Cur.start w0 X)
  refine WC.seq ?_
  refine WC.region ?_
  refine WR.v (v := .bool false) rfl rfl rfl ?_ ?_
  · refine QV.qo ?_; exact q_assign rfl (by kernel_rfl)
  refine WR.nil ?_
  change WC _ _ _ _ _ _
  refine WC.seq ?_
  refine WC.seq ?_
  refine WC.region ?_
  refine WR.v (v := .slice Al l.length cl) rfl rfl rfl ?_ ?_
  · refine QV.qo ?_; exact q_move rfl (by kernel_rfl)
  refine WR.v (v := .int .i64 ((l.length : Nat) : Int)) rfl rfl rfl ?_ ?_
  · refine QV.qo ?_; exact q_len_slice (A := Al) (n := l.length) (c := cl) rfl Try.underlying40 (by kernel_rfl)
  refine WR.v (v := .int .i64 0) rfl rfl rfl ?_ ?_
  · refine QV.qo ?_; exact q_move rfl (by kernel_rfl)
  refine WR.nil ?_
  change WC _ _ _ _ _ _
  refine WC.block ?_
  refine WC.loop (fun (m : Nat) (σ : Env) (w1 : World) => ∃ (k1 : Nat)   , m = l.length - k1 ∧ (k1 ≤ l.length) ∧ (allFrom (fun i => !(((!(vsRightOne (gt l i))) || (decide (0 < (i : Int)) && (!(vsBefore (gt l (i - 1)).dot (gt l i).dot)))) || vsBehind (gt l i).dot l)) 0 l.length = allFrom (fun i => !(((!(vsRightOne (gt l i))) || (decide (0 < (i : Int)) && (!(vsBefore (gt l (i - 1)).dot (gt l i).dot)))) || vsBehind (gt l i).dot l)) k1 l.length) ∧ (σ 0 = .slice Al l.length cl ∧ σ 5 = .slice Al l.length cl ∧ σ 6 = .int .i64 ((l.length : Nat) : Int) ∧ σ 7 = .int .i64 ((k1 : Nat) : Int)) ∧ CC no w0 X w0 [] w1) ?_ ?_
  · intro w1 hw
    exact ⟨_, 0, rfl, (by first | trivial | omega), rfl, ⟨by kernel_rfl, by kernel_rfl, by kernel_rfl, by kernel_rfl⟩, hw⟩
  intro m1 σ1 w1 hI
  obtain ⟨k1, rfl, hk1, hrel1, ⟨h1_0, h1_5, h1_6, h1_7⟩, hw⟩ := hI
  refine WC.here (C := CC no w0 X w0 []) ?_ hw
  clear hw
  refine WC.seq ?_
  refine WC.region ?_
  refine WR.v (v := .bool (decide (((k1 : Nat) : Int) < ((l.length : Nat) : Int)))) rfl rfl rfl ?_ ?_
  · refine QV.qo ?_; exact q_lss (k := .i64) (a := ((k1 : Nat) : Int)) (b := ((l.length : Nat) : Int)) rfl h1_7 h1_6
  refine WR.nil ?_
  change WC _ _ _ _ _ _
  refine WC.seq ?_
  refine WC.cond (b := (decide (((k1 : Nat) : Int) < ((l.length : Nat) : Int)))) (by kernel_rfl) ?_ ?_
  · skip
    intro hb_5t
    have hp_6 := of_decide_eq_true hb_5t
    refine WC.skip ?_
    change WC _ _ _ _ _ _
    refine WC.seq ?_
    refine WC.block ?_
    refine WC.seq ?_
    refine WC.region ?_
    refine WR.v (v := .int .i64 ((k1 : Nat) : Int)) rfl rfl rfl ?_ ?_
    · refine QV.qo ?_; exact q_move rfl h1_7
    refine WR.v (v := ptrAt Al (k1 * 5)) rfl rfl rfl ?_ ?_
    · refine QV.qo ?_; exact q_index_addr (k := .i64) (A := Al) (n := l.length) (c := cl) (i := k1) rfl Try.underlying40 Try.sizeOf58 h1_5 h1_7 (by omega) (Sl.some_ hl (k := k1) (by omega))
    refine WR.v (v := .agg #[.int .i64 (gt l k1).dot.s, .int .i64 (gt l k1).dot.n, .slice (slA w0 Al (k1 * 5 + 2)) (gt l k1).past.length (slC w0 Al (k1 * 5 + 2)), .bool (gt l k1).gone, .string (gt l k1).val]) rfl rfl rfl ?_ ?_
    · refine QV.qo ?_; exact q_load_agg (A := Al) (j := k1 * 5) (vs := [.int .i64 (gt l k1).dot.s, .int .i64 (gt l k1).dot.n, .slice (slA w0 Al (k1 * 5 + 2)) (gt l k1).past.length (slC w0 Al (k1 * 5 + 2)), .bool (gt l k1).gone, .string (gt l k1).val]) rfl Try.isAgg58 Try.sizeOf58 (by kernel_rfl) (Sl.some_ hl (k := k1) (by omega)) (fun q hq => match q, hq with | 0, _ => Sl.verT_0 hl (i := k1) (by omega) | 1, _ => Sl.verT_1 hl (i := k1) (by omega) | 2, _ => Sl.verT_2 hl (i := k1) (by omega) | 3, _ => Sl.verT_3 hl (i := k1) (by omega) | 4, _ => Sl.verT_4 hl (i := k1) (by omega))
    refine e_alloc (z := .agg #[.int .i64 0, .int .i64 0, .slice none 0 0, .bool false, .string ⟨#[]⟩]) rfl rfl rfl rfl Try.zeroValue58 ?_
    intro g_7 hg_7 hg_7e
    change WR _ _ _ (CC _ _ _ _ [[(g_7, .cells #[.int .i64 0, .int .i64 0, .slice none 0 0, .bool false, .string ⟨#[]⟩] 58 (0, 0))]]) _ _ _
    refine WR.v (v := .int .i64 ((k1 : Nat) : Int)) rfl rfl rfl ?_ ?_
    · refine QV.qo ?_; exact q_assign rfl (by kernel_rfl)
    refine e_store_loc (i := 0) (g := g_7) (j := 0) (v := .agg #[.int .i64 (gt l k1).dot.s, .int .i64 (gt l k1).dot.n, .slice (slA w0 Al (k1 * 5 + 2)) (gt l k1).past.length (slC w0 Al (k1 * 5 + 2)), .bool (gt l k1).gone, .string (gt l k1).val]) (new := #[.int .i64 (gt l k1).dot.s, .int .i64 (gt l k1).dot.n, .slice (slA w0 Al (k1 * 5 + 2)) (gt l k1).past.length (slC w0 Al (k1 * 5 + 2)), .bool (gt l k1).gone, .string (gt l k1).val]) (L' := [[(g_7, .cells #[.int .i64 (gt l k1).dot.s, .int .i64 (gt l k1).dot.n, .slice (slA w0 Al (k1 * 5 + 2)) (gt l k1).past.length (slC w0 Al (k1 * 5 + 2)), .bool (gt l k1).gone, .string (gt l k1).val] 58 (0, 0))]]) rfl rfl rfl (by kernel_rfl) (by kernel_rfl) Try.sizeOf58 rfl rfl rfl rfl rfl rfl ?_
    refine WR.nil ?_
    change WC _ _ _ _ _ _
    refine WC.seq ?_
    refine WC.draw (by kernel_rfl) (by kernel_rfl) (fun w hw => hw.drawn _) ?_
    refine WQ.v (v := .agg #[.int .i64 (gt l k1).dot.s, .int .i64 (gt l k1).dot.n, .slice (slA w0 Al (k1 * 5 + 2)) (gt l k1).past.length (slC w0 Al (k1 * 5 + 2)), .bool (gt l k1).gone, .string (gt l k1).val]) rfl rfl rfl ?_ ?_
    · refine QV.qo ?_; exact q_load_loc_agg (i := 0) (g := g_7) (j := 0) (vs := [.int .i64 (gt l k1).dot.s, .int .i64 (gt l k1).dot.n, .slice (slA w0 Al (k1 * 5 + 2)) (gt l k1).past.length (slC w0 Al (k1 * 5 + 2)), .bool (gt l k1).gone, .string (gt l k1).val]) rfl Try.isAgg58 Try.sizeOf58 (by kernel_rfl) rfl rfl
    refine WQ.v (v := .bool (vsRightOne (gt l k1))) rfl rfl rfl ?_ ?_
    · exact q_call (args := #[.agg #[.int .i64 (gt l k1).dot.s, .int .i64 (gt l k1).dot.n, .slice (slA w0 Al (k1 * 5 + 2)) (gt l k1).past.length (slC w0 Al (k1 * 5 + 2)), .bool (gt l k1).gone, .string (gt l k1).val]]) Try.call67 rfl (by kernel_rfl) (fun w hw => vers_RightOne_ok w no (slA w0 Al (k1 * 5 + 2)) (slC w0 Al (k1 * 5 + 2)) ((gt l k1)) (Ver.fits_step (Sl.verT_fits hl (i := k1) (by omega)) (hw.st0.trans (St.to_no _ _))) (fun _ h => h.elim))
    refine WQ.v (v := .bool (!(vsRightOne (gt l k1)))) rfl rfl rfl ?_ ?_
    · refine QV.qo ?_; exact q_not (g := (vsRightOne (gt l k1))) rfl (by kernel_rfl)
    refine WQ.v (v := .bool (!(vsRightOne (gt l k1)))) rfl rfl rfl ?_ ?_
    · refine QV.qo ?_; exact q_move rfl (by kernel_rfl)
    refine WQ.g0 (v := .int .i64 ((k1 : Nat) : Int)) (c0 := true) (g := (!(vsRightOne (gt l k1)))) rfl rfl (by kernel_rfl) rfl rfl (fun hc_8 => ?_) ?_
    · refine QV.qo ?_; exact q_move rfl (by kernel_rfl)
    refine WQ.g0 (v := .bool (decide (0 < ((k1 : Nat) : Int)))) (c0 := true) (g := (!(vsRightOne (gt l k1)))) rfl rfl (by kernel_rfl) rfl rfl (fun hc_9 => ?_) ?_
    · refine QV.qo ?_; exact q_gtr (k := .i64) (a := ((k1 : Nat) : Int)) (b := 0) rfl (gv_of hc_9) (by kernel_rfl)
    refine WQ.g0 (v := .bool (decide (0 < ((k1 : Nat) : Int)))) (c0 := true) (g := (!(vsRightOne (gt l k1)))) rfl rfl (by kernel_rfl) rfl rfl (fun hc_10 => ?_) ?_
    · refine QV.qo ?_; exact q_move rfl (gv_of hc_10)
    refine WQ.g1 (v := .slice Al l.length cl) (c0 := (true && !(!(vsRightOne (gt l k1))))) (g := (decide (0 < ((k1 : Nat) : Int)))) rfl rfl (by kernel_rfl) rfl rfl (fun hc_11 => ?_) ?_
    · refine QV.qo ?_; exact q_move rfl h1_0
    refine WQ.g1 (v := .int .i64 ((k1 : Nat) : Int)) (c0 := (true && !(!(vsRightOne (gt l k1))))) (g := (decide (0 < ((k1 : Nat) : Int)))) rfl rfl (by kernel_rfl) rfl rfl (fun hc_12 => ?_) ?_
    · refine QV.qo ?_; exact q_move rfl (by kernel_rfl)
    refine WQ.g1 (v := .int .i64 ((k1 - 1 : Nat) : Int)) (c0 := (true && !(!(vsRightOne (gt l k1))))) (g := (decide (0 < ((k1 : Nat) : Int)))) rfl rfl (by kernel_rfl) rfl rfl (fun hc_13 => ?_) ?_
    · refine QV.qo ?_; exact q_sub (k := .i64) (a := ((k1 : Nat) : Int)) (b := 1) (r := ((k1 - 1 : Nat) : Int)) rfl (gv_of hc_13) (by kernel_rfl) (wr64 (by first | omega | (simp at hc_13; omega)) (by first | omega | (simp at hc_13; omega)))
    refine WQ.g1 (v := ptrAt Al ((k1 - 1) * 5)) (c0 := (true && !(!(vsRightOne (gt l k1))))) (g := (decide (0 < ((k1 : Nat) : Int)))) rfl rfl (by kernel_rfl) rfl rfl (fun hc_14 => ?_) ?_
    · refine QV.qo ?_; exact q_index_addr (k := .i64) (A := Al) (n := l.length) (c := cl) (i := (k1 - 1)) rfl Try.underlying40 Try.sizeOf58 (gv_of hc_14) (gv_of hc_14) (by first | omega | (simp at hc_14; omega)) (Sl.some_ hl (k := (k1 - 1)) (by first | omega | (simp at hc_14; omega)))
    refine WQ.g1 (v := ptrAt Al ((k1 - 1) * 5)) (c0 := (true && !(!(vsRightOne (gt l k1))))) (g := (decide (0 < ((k1 : Nat) : Int)))) rfl rfl (by kernel_rfl) rfl rfl (fun hc_15 => ?_) ?_
    · refine QV.qo ?_; exact q_field_addr (j := (k1 - 1) * 5) ((k1 - 1) * 5) fld_58_0 rfl (gv_of hc_15) (Sl.some_ hl (k := (k1 - 1)) (by first | omega | (simp at hc_15; omega))) rfl
    refine WQ.g1 (v := .agg #[.int .i64 (gt l (k1 - 1)).dot.s, .int .i64 (gt l (k1 - 1)).dot.n]) (c0 := (true && !(!(vsRightOne (gt l k1))))) (g := (decide (0 < ((k1 : Nat) : Int)))) rfl rfl (by kernel_rfl) rfl rfl (fun hc_16 => ?_) ?_
    · refine QV.qo ?_; exact q_load_agg (A := Al) (j := (k1 - 1) * 5) (vs := [.int .i64 (gt l (k1 - 1)).dot.s, .int .i64 (gt l (k1 - 1)).dot.n]) rfl Try.isAgg55 Try.sizeOf55 (gv_of hc_16) (Sl.some_ hl (k := (k1 - 1)) (by first | omega | (simp at hc_16; omega))) (fun q hq => match q, hq with | 0, _ => Sl.verT_0 hl (i := (k1 - 1)) (by first | omega | (simp at hc_16; omega)) | 1, _ => Sl.verT_1 hl (i := (k1 - 1)) (by first | omega | (simp at hc_16; omega)))
    refine WQ.g1 (v := .pointer (some ⟨g_7, 0, none⟩)) (c0 := (true && !(!(vsRightOne (gt l k1))))) (g := (decide (0 < ((k1 : Nat) : Int)))) rfl rfl (by kernel_rfl) rfl rfl (fun hc_17 => ?_) ?_
    · refine QV.qo ?_; exact q_field_loc (g := g_7) (j := 0) 0 fld_58_0 rfl (by kernel_rfl) rfl
    refine WQ.g1 (v := .agg #[.int .i64 (gt l k1).dot.s, .int .i64 (gt l k1).dot.n]) (c0 := (true && !(!(vsRightOne (gt l k1))))) (g := (decide (0 < ((k1 : Nat) : Int)))) rfl rfl (by kernel_rfl) rfl rfl (fun hc_18 => ?_) ?_
    · refine QV.qo ?_; exact q_load_loc_agg (i := 0) (g := g_7) (j := 0) (vs := [.int .i64 (gt l k1).dot.s, .int .i64 (gt l k1).dot.n]) rfl Try.isAgg55 Try.sizeOf55 (gv_of hc_18) rfl rfl
    refine WQ.g1 (v := .bool (vsBefore (gt l (k1 - 1)).dot (gt l k1).dot)) (c0 := (true && !(!(vsRightOne (gt l k1))))) (g := (decide (0 < ((k1 : Nat) : Int)))) rfl rfl (by kernel_rfl) rfl rfl (fun hc_19 => ?_) ?_
    · exact q_call (args := #[.agg #[.int .i64 (gt l (k1 - 1)).dot.s, .int .i64 (gt l (k1 - 1)).dot.n], .agg #[.int .i64 (gt l k1).dot.s, .int .i64 (gt l k1).dot.n]]) Try.call62 rfl (by exact args2 (gv_of hc_19) (gv_of hc_19)) (fun w hw => vers_before_ok w no  ((gt l (k1 - 1)).dot) (Dot.fits_step ⟨(Sl.verT_fits hl (i := (k1 - 1)) (by first | omega | (simp at hc_19; omega))).1, (Sl.verT_fits hl (i := (k1 - 1)) (by first | omega | (simp at hc_19; omega))).2.1⟩ (hw.st0.trans (St.to_no _ _)))  ((gt l k1).dot) (Dot.fits_step ⟨(Sl.verT_fits hl (i := k1) (by first | omega | (simp at hc_19; omega))).1, (Sl.verT_fits hl (i := k1) (by first | omega | (simp at hc_19; omega))).2.1⟩ (hw.st0.trans (St.to_no _ _))) (fun _ h => h.elim))
    refine WQ.g1 (v := .bool (!(vsBefore (gt l (k1 - 1)).dot (gt l k1).dot))) (c0 := (true && !(!(vsRightOne (gt l k1))))) (g := (decide (0 < ((k1 : Nat) : Int)))) rfl rfl (by kernel_rfl) rfl rfl (fun hc_20 => ?_) ?_
    · refine QV.qo ?_; exact q_not (g := (vsBefore (gt l (k1 - 1)).dot (gt l k1).dot)) rfl (gv_of hc_20)
    refine WQ.g0 (v := .bool ((decide (0 < ((k1 : Nat) : Int))) && (!(vsBefore (gt l (k1 - 1)).dot (gt l k1).dot)))) (c0 := true) (g := (!(vsRightOne (gt l k1)))) rfl rfl (by kernel_rfl) rfl rfl (fun hc_21 => ?_) ?_
    · refine QV.qo ?_; exact q_pick (g := (decide (0 < ((k1 : Nat) : Int)))) rfl (gv_of hc_21) (pk_and (c := (true && !(!(vsRightOne (gt l k1))))) hc_21)
    refine WQ.v (v := .bool ((!(vsRightOne (gt l k1))) || ((decide (0 < ((k1 : Nat) : Int))) && (!(vsBefore (gt l (k1 - 1)).dot (gt l k1).dot))))) rfl rfl rfl ?_ ?_
    · refine QV.qo ?_; exact q_pick (g := (!(vsRightOne (gt l k1)))) rfl (by kernel_rfl) (pk_or (c := true) rfl)
    refine WQ.v (v := .bool ((!(vsRightOne (gt l k1))) || ((decide (0 < ((k1 : Nat) : Int))) && (!(vsBefore (gt l (k1 - 1)).dot (gt l k1).dot))))) rfl rfl rfl ?_ ?_
    · refine QV.qo ?_; exact q_move rfl (by kernel_rfl)
    refine WQ.g0 (v := .pointer (some ⟨g_7, 0, none⟩)) (c0 := true) (g := ((!(vsRightOne (gt l k1))) || ((decide (0 < ((k1 : Nat) : Int))) && (!(vsBefore (gt l (k1 - 1)).dot (gt l k1).dot))))) rfl rfl (by kernel_rfl) rfl rfl (fun hc_22 => ?_) ?_
    · refine QV.qo ?_; exact q_field_loc (g := g_7) (j := 0) 0 fld_58_0 rfl (by kernel_rfl) rfl
    refine WQ.g0 (v := .agg #[.int .i64 (gt l k1).dot.s, .int .i64 (gt l k1).dot.n]) (c0 := true) (g := ((!(vsRightOne (gt l k1))) || ((decide (0 < ((k1 : Nat) : Int))) && (!(vsBefore (gt l (k1 - 1)).dot (gt l k1).dot))))) rfl rfl (by kernel_rfl) rfl rfl (fun hc_23 => ?_) ?_
    · refine QV.qo ?_; exact q_load_loc_agg (i := 0) (g := g_7) (j := 0) (vs := [.int .i64 (gt l k1).dot.s, .int .i64 (gt l k1).dot.n]) rfl Try.isAgg55 Try.sizeOf55 (gv_of hc_23) rfl rfl
    refine WQ.g0 (v := .slice Al l.length cl) (c0 := true) (g := ((!(vsRightOne (gt l k1))) || ((decide (0 < ((k1 : Nat) : Int))) && (!(vsBefore (gt l (k1 - 1)).dot (gt l k1).dot))))) rfl rfl (by kernel_rfl) rfl rfl (fun hc_24 => ?_) ?_
    · refine QV.qo ?_; exact q_move rfl h1_0
    refine WQ.g0 (v := .bool (vsBehind (gt l k1).dot (l))) (c0 := true) (g := ((!(vsRightOne (gt l k1))) || ((decide (0 < ((k1 : Nat) : Int))) && (!(vsBefore (gt l (k1 - 1)).dot (gt l k1).dot))))) rfl rfl (by kernel_rfl) rfl rfl (fun hc_25 => ?_) ?_
    · exact q_call (args := #[.agg #[.int .i64 (gt l k1).dot.s, .int .i64 (gt l k1).dot.n], .slice Al l.length cl]) Try.call60 rfl (by exact args2 (gv_of hc_25) (gv_of hc_25)) (fun w hw => vers_behind_ok w no  ((gt l k1).dot) (Dot.fits_step ⟨(Sl.verT_fits hl (i := k1) (by first | omega | (simp at hc_25; omega))).1, (Sl.verT_fits hl (i := k1) (by first | omega | (simp at hc_25; omega))).2.1⟩ (hw.st0.trans (St.to_no _ _))) Al cl (l) (Sl.step hl (hw.st0.trans (St.to_no _ _))) hcl (fun _ h => h.elim))
    refine WQ.v (v := .bool (((!(vsRightOne (gt l k1))) || ((decide (0 < ((k1 : Nat) : Int))) && (!(vsBefore (gt l (k1 - 1)).dot (gt l k1).dot)))) || (vsBehind (gt l k1).dot (l)))) rfl rfl rfl ?_ ?_
    · refine QV.qo ?_; exact q_pick (g := ((!(vsRightOne (gt l k1))) || ((decide (0 < ((k1 : Nat) : Int))) && (!(vsBefore (gt l (k1 - 1)).dot (gt l k1).dot))))) rfl (by kernel_rfl) (pk_or (c := true) rfl)
    refine WQ.nil ?_
    change WC _ _ _ _ _ _
    refine WC.cond (b := (((!(vsRightOne (gt l k1))) || ((decide (0 < ((k1 : Nat) : Int))) && (!(vsBefore (gt l (k1 - 1)).dot (gt l k1).dot)))) || (vsBehind (gt l k1).dot (l)))) (by kernel_rfl) ?_ ?_
    · skip
      intro hb_26t
      refine WC.seq ?_
      refine WC.region ?_
      refine WR.v (v := .bool false) rfl rfl rfl ?_ ?_
      · refine QV.qo ?_; exact q_assign rfl (by kernel_rfl)
      refine WR.nil ?_
      change WC _ _ _ _ _ _
      refine WC.ret ?_
      intro w hw
      refine ⟨congrArg Ending.returned (congrArg (Value.bool) ?_), hw.frE⟩
      show false = vsRight l
      unfold vsRight; rw [hrel1]; first | (rw [allFrom_step (by omega)]; first | (simp only [hb_5t, hb_26t, Bool.not_true, Bool.not_false, Bool.and_false, Bool.false_and, Bool.and_true, Bool.true_and, Bool.or_true, Bool.true_or, Bool.or_false, Bool.false_or, cond_true, cond_false]; done) | (simp [hb_5t, hp_6, hb_26t]; done); done) | (rw [allFrom_end (by omega)]; rfl)
    · skip
      intro hb_26f
      have hp_27 := (not_f (or_l (or_l hb_26f)))
      have hp_28 := (or_r (or_l hb_26f))
      have hp_29 := (or_r hb_26f)
      refine WC.skip ?_
      change WC _ _ _ _ _ _
      refine WC.region ?_
      refine WR.v (v := .int .i64 ((k1 + 1 : Nat) : Int)) rfl rfl rfl ?_ ?_
      · refine QV.qo ?_; exact q_add (k := .i64) (a := ((k1 : Nat) : Int)) (b := 1) (r := ((k1 + 1 : Nat) : Int)) rfl h1_7 (by kernel_rfl) (wr64 (by omega) (by omega))
      refine WR.v (v := .int .i64 ((k1 + 1 : Nat) : Int)) rfl rfl rfl ?_ ?_
      · refine QV.qo ?_; exact q_move rfl (by kernel_rfl)
      refine WR.nil ?_
      intro w hw
      refine ⟨_, ?_, k1 + 1, rfl, (by first | trivial | omega), ?_, ⟨h1_0, h1_5, h1_6, by kernel_rfl⟩, hw.tail⟩
      · omega
      · rw [hrel1, allFrom_step (by omega)]; first | (simp only [hb_5t, hb_26f, Bool.not_true, Bool.not_false, Bool.and_false, Bool.false_and, Bool.and_true, Bool.true_and, Bool.or_true, Bool.true_or, Bool.or_false, Bool.false_or, cond_true, cond_false]; done) | (simp [hb_5t, hp_6, hb_26f, hp_27, hp_28, hp_29]; done)
  · skip
    intro hb_5f
    have hp_30 := of_decide_eq_false hb_5f
    refine WC.exit ?_
    change WC _ _ _ _ _ _
    refine WC.seq ?_
    refine WC.region ?_
    refine WR.v (v := .slice Al l.length cl) rfl rfl rfl ?_ ?_
    · refine QV.qo ?_; exact q_move rfl h1_0
    refine WR.v (v := .int .i64 ((l.length : Nat) : Int)) rfl rfl rfl ?_ ?_
    · refine QV.qo ?_; exact q_len_slice (A := Al) (n := l.length) (c := cl) rfl Try.underlying40 (by kernel_rfl)
    refine WR.v (v := .bool (decide (((l.length : Nat) : Int) ≤ 512))) rfl rfl rfl ?_ ?_
    · refine QV.qo ?_; exact q_leq (k := .i64) (a := ((l.length : Nat) : Int)) (b := 512) rfl (by kernel_rfl) (by kernel_rfl)
    refine WR.v (v := .bool (decide (((l.length : Nat) : Int) ≤ 512))) rfl rfl rfl ?_ ?_
    · refine QV.qo ?_; exact q_assign rfl (by kernel_rfl)
    refine WR.nil ?_
    change WC _ _ _ _ _ _
    refine WC.ret ?_
    intro w hw
    refine ⟨congrArg Ending.returned (congrArg (Value.bool) ?_), hw.frE⟩
    show (decide (((l.length : Nat) : Int) ≤ 512)) = vsRight l
    unfold vsRight; rw [hrel1]; first | (rw [allFrom_step (by omega)]; first | (simp only [hb_5f, Bool.not_true, Bool.not_false, Bool.and_false, Bool.false_and, Bool.and_true, Bool.true_and, Bool.or_true, Bool.true_or, Bool.or_false, Bool.false_or, cond_true, cond_false]; done) | (simp [hb_5f, hp_30]; done); done) | (rw [allFrom_end (by omega)]; rfl)

def vers_keep_ok_res (v : Ver) (ga : Nat) (Aa : Option Addr) (ca : Nat) (a : (List Ver)) (gb : Nat) (Ab : Option Addr) (cb : Nat) (b : (List Ver)) (go : Nat) (out : (List Ver)) (U1 : List Rowb) (Xr : Nat → Prop) (wr : World) (vr : Value) : Prop := ∃ rowout1 Aout1 cout1, U1 = [[(ga, .cells #[.slice Aa a.length ca] 40 (0, 0))], [(gb, .cells #[.slice Ab b.length cb] 40 (0, 0))], [(go, .cells #[.slice Aout1 (vsKeep v a b out).length cout1] 40 (0, 0))], rowout1] ∧ vr = .tuple #[] ∧ Own verT Xr wr 58 rowout1 Aout1 cout1 (vsKeep v a b out) ∧ True
set_option maxRecDepth 100000 in
set_option maxHeartbeats 1000000 in
theorem vers_keep_ok (w0 : World) (X : Nat → Prop) (Av_2 : Option Addr) (cv_2 : Nat) (v : Ver) (hv : Ver.fits X w0 Av_2 cv_2 v) (ga : Nat) (Aa : Option Addr) (ca : Nat) (a : (List Ver)) (ha : Sl verT X w0 Aa a) (hca : a.length ≤ ca) (gb : Nat) (Ab : Option Addr) (cb : Nat) (b : (List Ver)) (hb : Sl verT X w0 Ab b) (hcb : b.length ≤ cb) (go : Nat) (rowout : Rowb) (Aout : Option Addr) (cout : Nat) (out : (List Ver)) (hownout : Own verT X w0 58 rowout Aout cout out) (hlen : out.length + 1 ≤ 2147483648) (hpre : Pre [[(ga, .cells #[.slice Aa a.length ca] 40 (0, 0))], [(gb, .cells #[.slice Ab b.length cb] 40 (0, 0))], [(go, .cells #[.slice Aout out.length cout] 40 (0, 0))], rowout] X w0) (hX : ∀ k, X k → k < w0.heap.size) : Calls Try.prog 59 #[.agg #[.int .i64 v.dot.s, .int .i64 v.dot.n, .slice Av_2 v.past.length cv_2, .bool v.gone, .string v.val], .pointer (some ⟨ga, 0, none⟩), .pointer (some ⟨gb, 0, none⟩), .pointer (some ⟨go, 0, none⟩)] w0 fun e w' => ∃ vr, e = .returned vr ∧ ∃ U1, Eff [[(ga, .cells #[.slice Aa a.length ca] 40 (0, 0))], [(gb, .cells #[.slice Ab b.length cb] 40 (0, 0))], [(go, .cells #[.slice Aout out.length cout] 40 (0, 0))], rowout] U1 w0 w' ∧ vers_keep_ok_res v ga Aa ca a gb Ab cb b go out U1 (Mx X U1) w' vr := by
  have hvv := hv; obtain ⟨hv_0, hv_1, ⟨hcv_2, hv_2⟩, hv_4⟩ := hvv
  have hal := ha.le_
  have hbl := hb.le_
  have hownoutl := hownout.le_
  have hst0 := hpre.start
  refine calls_of (N := 25) (rs := []) (args := [.agg #[.int .i64 v.dot.s, .int .i64 v.dot.n, .slice Av_2 v.past.length cv_2, .bool v.gone, .string v.val], .pointer (some ⟨ga, 0, none⟩), .pointer (some ⟨gb, 0, none⟩), .pointer (some ⟨go, 0, none⟩)]) Try.func59 rfl Try.ntmps59 Try.results59 rfl ?_
  obtain ⟨S, hS⟩ : ∃ S, S = ids [[(ga, .cells #[.slice Aa a.length ca] 40 (0, 0))], [(gb, .cells #[.slice Ab b.length cb] 40 (0, 0))], [(go, .cells #[.slice Aout out.length cout] 40 (0, 0))], rowout] := ⟨_, rfl⟩
  rw [← hS] at hst0
  refine WC.here (C := CC S w0 X w0 [[(ga, .cells #[.slice Aa a.length ca] 40 (0, 0))], [(gb, .cells #[.slice Ab b.length cb] 40 (0, 0))], [(go, .cells #[.slice Aout out.length cout] 40 (0, 0))], rowout]) ?_ hst0
  refine WC.seq ?_
  refine WC.region ?_
  refine e_box (v := .agg #[.int .i64 v.dot.s, .int .i64 v.dot.n, .slice Av_2 v.past.length cv_2, .bool v.gone, .string v.val]) rfl rfl rfl rfl (by kernel_rfl) ?_
  intro g_2 hg_2 hg_2e
  change WR _ _ _ (CC _ _ _ _ [[(g_2, .cells #[.int .i64 v.dot.s, .int .i64 v.dot.n, .slice Av_2 v.past.length cv_2, .bool v.gone, .string v.val] 58 (0, 0))], [(ga, .cells #[.slice Aa a.length ca] 40 (0, 0))], [(gb, .cells #[.slice Ab b.length cb] 40 (0, 0))], [(go, .cells #[.slice Aout out.length cout] 40 (0, 0))], rowout]) _ _ _
  refine WR.nil ?_
  change WC _ _ _ _ _ _
  refine WC.seq ?_
  refine WC.region ?_
  refine WR.v (v := .pointer (some ⟨g_2, 0, none⟩)) rfl rfl rfl ?_ ?_
  · refine QV.qo ?_; exact q_field_loc (g := g_2) (j := 0) 0 fld_58_0 rfl (by kernel_rfl) rfl
  refine WR.v (v := .agg #[.int .i64 v.dot.s, .int .i64 v.dot.n]) rfl rfl rfl ?_ ?_
  · refine QV.qo ?_; exact q_load_loc_agg (i := 0) (g := g_2) (j := 0) (vs := [.int .i64 v.dot.s, .int .i64 v.dot.n]) rfl Try.isAgg55 Try.sizeOf55 (by kernel_rfl) rfl rfl
  refine WR.v (v := .slice Aa a.length ca) rfl rfl rfl ?_ ?_
  · refine QV.qo ?_; exact q_load_loc (i := 1) (g := ga) (j := 0) (v := .slice Aa a.length ca) rfl Try.isAgg40 (by kernel_rfl) rfl rfl
  refine WR.v (v := .bool (vsBehind v.dot (a))) rfl rfl rfl ?_ ?_
  · exact q_call (args := #[.agg #[.int .i64 v.dot.s, .int .i64 v.dot.n], .slice Aa a.length ca]) Try.call60 rfl (by kernel_rfl) (fun w hw => vers_behind_ok w no  (v.dot) (Dot.fits_step ⟨hv_0, hv_1⟩ (hw.st0.trans (St.to_no _ _))) Aa ca (a) (Sl.step ha (hw.st0.trans (St.to_no _ _))) hca (fun _ h => h.elim))
  refine WR.v (v := .bool (!(vsBehind v.dot (a)))) rfl rfl rfl ?_ ?_
  · refine QV.qo ?_; exact q_not (g := (vsBehind v.dot (a))) rfl (by kernel_rfl)
  refine WR.v (v := .bool (!(vsBehind v.dot (a)))) rfl rfl rfl ?_ ?_
  · refine QV.qo ?_; exact q_move rfl (by kernel_rfl)
  refine WR.g1 (v := .pointer (some ⟨g_2, 0, none⟩)) (c0 := true) (g := (!(vsBehind v.dot (a)))) rfl rfl (by kernel_rfl) rfl rfl (fun hc_3 => ?_) ?_
  · refine QV.qo ?_; exact q_field_loc (g := g_2) (j := 0) 0 fld_58_0 rfl (by kernel_rfl) rfl
  refine WR.g1 (v := .agg #[.int .i64 v.dot.s, .int .i64 v.dot.n]) (c0 := true) (g := (!(vsBehind v.dot (a)))) rfl rfl (by kernel_rfl) rfl rfl (fun hc_4 => ?_) ?_
  · refine QV.qo ?_; exact q_load_loc_agg (i := 0) (g := g_2) (j := 0) (vs := [.int .i64 v.dot.s, .int .i64 v.dot.n]) rfl Try.isAgg55 Try.sizeOf55 (gv_of hc_4) rfl rfl
  refine WR.g1 (v := .slice Ab b.length cb) (c0 := true) (g := (!(vsBehind v.dot (a)))) rfl rfl (by kernel_rfl) rfl rfl (fun hc_5 => ?_) ?_
  · refine QV.qo ?_; exact q_load_loc (i := 2) (g := gb) (j := 0) (v := .slice Ab b.length cb) rfl Try.isAgg40 (by kernel_rfl) rfl rfl
  refine WR.g1 (v := .bool (vsBehind v.dot (b))) (c0 := true) (g := (!(vsBehind v.dot (a)))) rfl rfl (by kernel_rfl) rfl rfl (fun hc_6 => ?_) ?_
  · exact q_call (args := #[.agg #[.int .i64 v.dot.s, .int .i64 v.dot.n], .slice Ab b.length cb]) Try.call60 rfl (by exact args2 (gv_of hc_6) (gv_of hc_6)) (fun w hw => vers_behind_ok w no  (v.dot) (Dot.fits_step ⟨hv_0, hv_1⟩ (hw.st0.trans (St.to_no _ _))) Ab cb (b) (Sl.step hb (hw.st0.trans (St.to_no _ _))) hcb (fun _ h => h.elim))
  refine WR.g1 (v := .bool (!(vsBehind v.dot (b)))) (c0 := true) (g := (!(vsBehind v.dot (a)))) rfl rfl (by kernel_rfl) rfl rfl (fun hc_7 => ?_) ?_
  · refine QV.qo ?_; exact q_not (g := (vsBehind v.dot (b))) rfl (gv_of hc_7)
  refine WR.v (v := .bool ((!(vsBehind v.dot (a))) && (!(vsBehind v.dot (b))))) rfl rfl rfl ?_ ?_
  · refine QV.qo ?_; exact q_pick (g := (!(vsBehind v.dot (a)))) rfl (by kernel_rfl) (pk_and (c := true) rfl)
  refine WR.nil ?_
  change WC _ _ _ _ _ _
  refine WC.cond (b := ((!(vsBehind v.dot (a))) && (!(vsBehind v.dot (b))))) (by kernel_rfl) ?_ ?_
  · skip
    intro hb_8t
    have hp_9 := (not_t (and_l hb_8t))
    have hp_10 := (not_t (and_r hb_8t))
    refine WC.seq ?_
    refine WC.region ?_
    refine WR.v (v := .pointer (some ⟨g_2, 2, none⟩)) rfl rfl rfl ?_ ?_
    · refine QV.qo ?_; exact q_field_loc (g := g_2) (j := 0) 2 fld_58_1 rfl (by kernel_rfl) rfl
    refine WR.v (v := .slice Av_2 v.past.length cv_2) rfl rfl rfl ?_ ?_
    · refine QV.qo ?_; exact q_load_loc (i := 0) (g := g_2) (j := 2) (v := .slice Av_2 v.past.length cv_2) rfl Try.isAgg56 (by kernel_rfl) rfl rfl
    refine e_call_res (args := #[.slice Av_2 v.past.length cv_2]) (Res := vers_clone_ok_res (v.past)) rfl rfl rfl Try.call61 rfl (by kernel_rfl) hX (fun w X' hs_ hl_ => vers_clone_ok w X' Av_2 cv_2 (v.past) (Sl.step hv_2 hs_) hcv_2 hl_) ?_
    intro X_11 B_12 v hst_13 hxx_14 hxl_15 hres
    obtain ⟨A_16, c_17, rfl, hs_18, hc_19⟩ := hres
    change WR _ _ _ (CC _ _ X_11 B_12 [[(g_2, .cells #[.int .i64 v.dot.s, .int .i64 v.dot.n, .slice Av_2 v.past.length cv_2, .bool v.gone, .string v.val] 58 (0, 0))], [(ga, .cells #[.slice Aa a.length ca] 40 (0, 0))], [(gb, .cells #[.slice Ab b.length cb] 40 (0, 0))], [(go, .cells #[.slice Aout out.length cout] 40 (0, 0))], rowout]) _ _ _
    refine WR.v (v := .pointer (some ⟨g_2, 2, none⟩)) rfl rfl rfl ?_ ?_
    · refine QV.qo ?_; exact q_field_loc (g := g_2) (j := 0) 2 fld_58_1 rfl (by kernel_rfl) rfl
    refine e_store_loc (i := 0) (g := g_2) (j := 2) (v := .slice A_16 ((v.past)).length c_17) (new := #[.int .i64 v.dot.s, .int .i64 v.dot.n, .slice A_16 ((v.past)).length c_17, .bool v.gone, .string v.val]) (L' := [[(g_2, .cells #[.int .i64 v.dot.s, .int .i64 v.dot.n, .slice A_16 ((v.past)).length c_17, .bool v.gone, .string v.val] 58 (0, 0))], [(ga, .cells #[.slice Aa a.length ca] 40 (0, 0))], [(gb, .cells #[.slice Ab b.length cb] 40 (0, 0))], [(go, .cells #[.slice Aout out.length cout] 40 (0, 0))], rowout]) rfl rfl rfl (by kernel_rfl) (by kernel_rfl) Try.sizeOf56 rfl rfl rfl rfl rfl rfl ?_
    refine WR.nil ?_
    change WC _ _ _ _ _ _
    refine WC.region ?_
    refine WR.v (v := .slice Aout out.length cout) rfl rfl rfl ?_ ?_
    · refine QV.qo ?_; exact q_load_loc (i := 3) (g := go) (j := 0) (v := .slice Aout out.length cout) rfl Try.isAgg40 (by kernel_rfl) rfl rfl
    refine WR.v (v := .agg #[.int .i64 v.dot.s, .int .i64 v.dot.n, .slice A_16 ((v.past)).length c_17, .bool v.gone, .string v.val]) rfl rfl rfl ?_ ?_
    · refine QV.qo ?_; exact q_load_loc_agg (i := 0) (g := g_2) (j := 0) (vs := [.int .i64 v.dot.s, .int .i64 v.dot.n, .slice A_16 ((v.past)).length c_17, .bool v.gone, .string v.val]) rfl Try.isAgg58 Try.sizeOf58 (by kernel_rfl) rfl rfl
    refine e_buildSlice (cs := #[.int .i64 v.dot.s, .int .i64 v.dot.n, .slice A_16 ((v.past)).length c_17, .bool v.gone, .string v.val]) (e := 58) rfl rfl rfl rfl (fun w => by kernel_rfl) ?_
    intro g_20 hg_20 hg_20e
    change WR _ _ _ (CC _ _ _ _ [[(g_20, .cells #[.int .i64 v.dot.s, .int .i64 v.dot.n, .slice A_16 ((v.past)).length c_17, .bool v.gone, .string v.val] 58 (0, 0))], [(g_2, .cells #[.int .i64 v.dot.s, .int .i64 v.dot.n, .slice A_16 ((v.past)).length c_17, .bool v.gone, .string v.val] 58 (0, 0))], [(ga, .cells #[.slice Aa a.length ca] 40 (0, 0))], [(gb, .cells #[.slice Ab b.length cb] 40 (0, 0))], [(go, .cells #[.slice Aout out.length cout] 40 (0, 0))], rowout]) _ _ _
    refine e_append (T := verT) (xs := out) (ys := [(⟨(⟨v.dot.s, v.dot.n⟩ : Dot), ((v.past)), v.gone, v.val⟩ : Ver)]) (A := Aout) (c := cout) (A2 := (some ⟨g_20, 0, none⟩)) (c2 := 1) (i := 5) (row := rowout) elem_40 rfl rfl rfl rfl (by kernel_rfl) (by kernel_rfl) rfl (hownout.step hst_13) (by simp only [lim_eq, List.length_append, List.length_cons, List.length_nil, List.length_take, List.length_drop] at *; omega) (fun w hw => src_one (T := verT) (y := (⟨(⟨v.dot.s, v.dot.n⟩ : Dot), ((v.past)), v.gone, v.val⟩ : Ver)) (i := 0) (g := g_20) (cs := #[.int .i64 v.dot.s, .int .i64 v.dot.n, .slice A_16 ((v.past)).length c_17, .bool v.gone, .string v.val]) (e := 58) rfl (by exact ⟨A_16, c_17, rfl, ⟨hv_0, hv_1, ⟨hc_19, hs_18⟩, hv_4⟩⟩) hw) ?_
    intro row_21 A_22 c_23 hown_24
    have hown_24l := hown_24.le_
    change WR _ _ _ (CC _ _ X_11 B_12 [[(g_20, .cells #[.int .i64 v.dot.s, .int .i64 v.dot.n, .slice A_16 ((v.past)).length c_17, .bool v.gone, .string v.val] 58 (0, 0))], [(g_2, .cells #[.int .i64 v.dot.s, .int .i64 v.dot.n, .slice A_16 ((v.past)).length c_17, .bool v.gone, .string v.val] 58 (0, 0))], [(ga, .cells #[.slice Aa a.length ca] 40 (0, 0))], [(gb, .cells #[.slice Ab b.length cb] 40 (0, 0))], [(go, .cells #[.slice Aout out.length cout] 40 (0, 0))], row_21]) _ _ _
    refine e_store_loc (i := 4) (g := go) (j := 0) (v := .slice A_22 (out ++ [(⟨(⟨v.dot.s, v.dot.n⟩ : Dot), ((v.past)), v.gone, v.val⟩ : Ver)]).length c_23) (new := #[.slice A_22 (out ++ [(⟨(⟨v.dot.s, v.dot.n⟩ : Dot), ((v.past)), v.gone, v.val⟩ : Ver)]).length c_23]) (L' := [[(g_20, .cells #[.int .i64 v.dot.s, .int .i64 v.dot.n, .slice A_16 ((v.past)).length c_17, .bool v.gone, .string v.val] 58 (0, 0))], [(g_2, .cells #[.int .i64 v.dot.s, .int .i64 v.dot.n, .slice A_16 ((v.past)).length c_17, .bool v.gone, .string v.val] 58 (0, 0))], [(ga, .cells #[.slice Aa a.length ca] 40 (0, 0))], [(gb, .cells #[.slice Ab b.length cb] 40 (0, 0))], [(go, .cells #[.slice A_22 (out ++ [(⟨(⟨v.dot.s, v.dot.n⟩ : Dot), ((v.past)), v.gone, v.val⟩ : Ver)]).length c_23] 40 (0, 0))], row_21]) rfl rfl rfl (by kernel_rfl) (by kernel_rfl) Try.sizeOf40 rfl rfl rfl rfl rfl rfl ?_
    refine WR.nil ?_
    intro w hw
    have hm_out : (out ++ [(⟨(⟨v.dot.s, v.dot.n⟩ : Dot), ((v.past)), v.gone, v.val⟩ : Ver)]) = vsKeep v a b out := by
      first | (simp only [vsKeep, hb_8t, Bool.not_true, Bool.not_false, Bool.and_false, Bool.false_and, Bool.and_true, Bool.true_and, Bool.or_true, Bool.true_or, Bool.or_false, Bool.false_or, cond_true, cond_false]; done) | (simp [vsKeep, hb_8t, hp_9, hp_10]; done)
    have hw2 := hw.tail.tail
    rw [hS] at hw2
    refine ⟨_, rfl, [[(ga, .cells #[.slice Aa a.length ca] 40 (0, 0))], [(gb, .cells #[.slice Ab b.length cb] 40 (0, 0))], [(go, .cells #[.slice A_22 (out ++ [(⟨(⟨v.dot.s, v.dot.n⟩ : Dot), ((v.past)), v.gone, v.val⟩ : Ver)]).length c_23] 40 (0, 0))], row_21], hw2.toEff, ?_⟩
    unfold vers_keep_ok_res
    rw [← hm_out]
    exact ⟨row_21, A_22, c_23, rfl, rfl, Own.step hown_24 (hw2.st2 hxx_14), trivial⟩
  · skip
    intro hb_8f
    refine WC.skip ?_
    intro w hw
    have hm_out : out = vsKeep v a b out := by
      first | (simp only [vsKeep, hb_8f, Bool.not_true, Bool.not_false, Bool.and_false, Bool.false_and, Bool.and_true, Bool.true_and, Bool.or_true, Bool.true_or, Bool.or_false, Bool.false_or, cond_true, cond_false]; done) | (simp [vsKeep, hb_8f]; done)
    have hw2 := hw.tail
    rw [hS] at hw2
    refine ⟨_, rfl, [[(ga, .cells #[.slice Aa a.length ca] 40 (0, 0))], [(gb, .cells #[.slice Ab b.length cb] 40 (0, 0))], [(go, .cells #[.slice Aout out.length cout] 40 (0, 0))], rowout], hw2.toEff, ?_⟩
    unfold vers_keep_ok_res
    rw [← hm_out]
    exact ⟨rowout, Aout, cout, rfl, rfl, Own.step hownout (hw2.st2 (fun _ h => h)), trivial⟩
end Fw
end Go.Proofs.Ytlbdlkgboliikaa
