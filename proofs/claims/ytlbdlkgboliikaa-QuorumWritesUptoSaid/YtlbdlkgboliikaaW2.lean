/- Walks through the functions that the law reaches. No condition. -/
import Derived.Test.YtlbdlkgboliikaaW1
namespace Go.Proofs.Ytlbdlkgboliikaa
namespace Fw
set_option linter.unusedVariables false
set_option linter.unusedSimpArgs false
open Go.RowKit
def vers_Merge_ok_res (a : (List Ver)) (b : (List Ver)) (Xr : Nat → Prop) (wr : World) (vr : Value) : Prop := ∃ A0 c0, vr = .tuple #[.slice A0 ((vsMerge a b).1).length c0, .int .i64 ((vsMerge a b).2)] ∧ Sl verT Xr wr A0 ((vsMerge a b).1) ∧ ((vsMerge a b).1).length ≤ c0
set_option maxRecDepth 100000 in
set_option maxHeartbeats 1000000 in
theorem vers_Merge_ok (w0 : World) (X : Nat → Prop) (Aa : Option Addr) (ca : Nat) (a : (List Ver)) (ha : Sl verT X w0 Aa a) (hca : a.length ≤ ca) (Ab : Option Addr) (cb : Nat) (b : (List Ver)) (hb : Sl verT X w0 Ab b) (hcb : b.length ≤ cb) (hX : ∀ k, X k → k < w0.heap.size) : Calls Try.prog 41 #[.slice Aa a.length ca, .slice Ab b.length cb] w0 fun e w' => ∃ vr, e = .returned vr ∧ vers_Merge_ok_res a b X w' vr ∧ Fr no w0 w' := by
  have hal := ha.le_
  have hbl := hb.le_
  refine calls_of (N := 110) (rs := [4, 5]) (args := [.slice Aa a.length ca, .slice Ab b.length cb]) Try.func41 rfl Try.ntmps41 Try.results41 rfl ?_
  refine WC.here (C := CC no w0 X w0 []) ?_ (Cur.start w0 X)
  refine WC.seq ?_
  refine WC.region ?_
  refine e_box (v := .slice Aa a.length ca) rfl rfl rfl rfl (by kernel_rfl) ?_
  intro g_1 hg_1 hg_1e
  change WR _ _ _ (CC _ _ _ _ [[(g_1, .cells #[.slice Aa a.length ca] 40 (0, 0))]]) _ _ _
  refine e_box (v := .slice Ab b.length cb) rfl rfl rfl rfl (by kernel_rfl) ?_
  intro g_2 hg_2 hg_2e
  change WR _ _ _ (CC _ _ _ _ [[(g_2, .cells #[.slice Ab b.length cb] 40 (0, 0))], [(g_1, .cells #[.slice Aa a.length ca] 40 (0, 0))]]) _ _ _
  refine WR.v (v := .slice none 0 0) rfl rfl rfl ?_ ?_
  · refine QV.qo ?_; exact q_assign rfl (by kernel_rfl)
  refine WR.v (v := .int .i64 0) rfl rfl rfl ?_ ?_
  · refine QV.qo ?_; exact q_assign rfl (by kernel_rfl)
  refine WR.nil ?_
  change WC _ _ _ _ _ _
  refine WC.seq ?_
  refine WC.seq ?_
  refine WC.region ?_
  refine WR.v (v := .slice Aa a.length ca) rfl rfl rfl ?_ ?_
  · refine QV.qo ?_; exact q_load_loc (i := 1) (g := g_1) (j := 0) (v := .slice Aa a.length ca) rfl Try.isAgg40 (by kernel_rfl) rfl rfl
  refine WR.v (v := .bool (vsRight (a))) rfl rfl rfl ?_ ?_
  · exact q_call (args := #[.slice Aa a.length ca]) Try.call58 rfl (by kernel_rfl) (fun w hw => vers_Right_ok w no Aa ca (a) (Sl.step ha (hw.st0.trans (St.to_no _ _))) hca (fun _ h => h.elim))
  refine WR.v (v := .bool (!(vsRight (a)))) rfl rfl rfl ?_ ?_
  · refine QV.qo ?_; exact q_not (g := (vsRight (a))) rfl (by kernel_rfl)
  refine WR.v (v := .bool (!(vsRight (a)))) rfl rfl rfl ?_ ?_
  · refine QV.qo ?_; exact q_move rfl (by kernel_rfl)
  refine WR.g0 (v := .slice Ab b.length cb) (c0 := true) (g := (!(vsRight (a)))) rfl rfl (by kernel_rfl) rfl rfl (fun hc_3 => ?_) ?_
  · refine QV.qo ?_; exact q_load_loc (i := 0) (g := g_2) (j := 0) (v := .slice Ab b.length cb) rfl Try.isAgg40 (by kernel_rfl) rfl rfl
  refine WR.g0 (v := .bool (vsRight (b))) (c0 := true) (g := (!(vsRight (a)))) rfl rfl (by kernel_rfl) rfl rfl (fun hc_4 => ?_) ?_
  · exact q_call (args := #[.slice Ab b.length cb]) Try.call58 rfl (by exact args1 (gv_of hc_4)) (fun w hw => vers_Right_ok w no Ab cb (b) (Sl.step hb (hw.st0.trans (St.to_no _ _))) hcb (fun _ h => h.elim))
  refine WR.g0 (v := .bool (!(vsRight (b)))) (c0 := true) (g := (!(vsRight (a)))) rfl rfl (by kernel_rfl) rfl rfl (fun hc_5 => ?_) ?_
  · refine QV.qo ?_; exact q_not (g := (vsRight (b))) rfl (gv_of hc_5)
  refine WR.v (v := .bool ((!(vsRight (a))) || (!(vsRight (b))))) rfl rfl rfl ?_ ?_
  · refine QV.qo ?_; exact q_pick (g := (!(vsRight (a)))) rfl (by kernel_rfl) (pk_or (c := true) rfl)
  refine WR.nil ?_
  change WC _ _ _ _ _ _
  refine WC.cond (b := ((!(vsRight (a))) || (!(vsRight (b))))) (by kernel_rfl) ?_ ?_
  · skip
    intro hb_6t
    refine WC.seq ?_
    refine WC.region ?_
    refine WR.v (v := .slice none 0 0) rfl rfl rfl ?_ ?_
    · refine QV.qo ?_; exact q_assign rfl (by kernel_rfl)
    refine WR.v (v := .int .i64 1) rfl rfl rfl ?_ ?_
    · refine QV.qo ?_; exact q_assign rfl (by kernel_rfl)
    refine WR.nil ?_
    change WC _ _ _ _ _ _
    refine WC.ret ?_
    intro w hw
    have hm_7 : [] = (vsMerge a b).1 := by
      first | (simp only [vsMerge, hb_6t, Bool.not_true, Bool.not_false, Bool.and_false, Bool.false_and, Bool.and_true, Bool.true_and, Bool.or_true, Bool.true_or, Bool.or_false, Bool.false_or, cond_true, cond_false]; done) | (simp [vsMerge, hb_6t]; done)
    have hm_8 : 1 = (vsMerge a b).2 := by
      first | (simp only [vsMerge, hb_6t, Bool.not_true, Bool.not_false, Bool.and_false, Bool.false_and, Bool.and_true, Bool.true_and, Bool.or_true, Bool.true_or, Bool.or_false, Bool.false_or, cond_true, cond_false]; done) | (simp [vsMerge, hb_6t]; done)
    refine ⟨_, rfl, ?_, hw.frE⟩
    unfold vers_Merge_ok_res
    rw [← hm_7, ← hm_8]
    exact ⟨none, 0, (by kernel_rfl), Sl.nil _ _ _ _, Nat.zero_le _⟩
  · skip
    intro hb_6f
    have hp_9 := (not_f (or_l hb_6f))
    have hp_10 := vsRight_len (not_f (or_l hb_6f))
    try dsimp only at hp_10
    have hp_11 := (not_f (or_r hb_6f))
    have hp_12 := vsRight_len (not_f (or_r hb_6f))
    try dsimp only at hp_12
    refine WC.skip ?_
    change WC _ _ _ _ _ _
    refine WC.seq ?_
    refine WC.region ?_
    refine e_alloc (z := .slice none 0 0) rfl rfl rfl rfl Try.zeroValue40 ?_
    intro g_13 hg_13 hg_13e
    change WR _ _ _ (CC _ _ _ _ [[(g_13, .cells #[.slice none 0 0] 40 (0, 0))], [(g_2, .cells #[.slice Ab b.length cb] 40 (0, 0))], [(g_1, .cells #[.slice Aa a.length ca] 40 (0, 0))]]) _ _ _
    refine WR.nil ?_
    change WC _ _ _ _ _ _
    refine WC.seq ?_
    refine WC.region ?_
    refine WR.v (v := .func (.func 59) #[] #[.pointer (some ⟨g_1, 0, none⟩), .pointer (some ⟨g_2, 0, none⟩), .pointer (some ⟨g_13, 0, none⟩)]) rfl rfl rfl ?_ ?_
    · refine QV.qo ?_; intro w _; simp only [execOp, List.map_toArray, List.map_cons, List.map_nil]; rfl
    refine WR.v (v := .func (.func 59) #[] #[.pointer (some ⟨g_1, 0, none⟩), .pointer (some ⟨g_2, 0, none⟩), .pointer (some ⟨g_13, 0, none⟩)]) rfl rfl rfl ?_ ?_
    · refine QV.qo ?_; exact q_assign rfl (by kernel_rfl)
    refine WR.nil ?_
    change WC _ _ _ _ _ _
    refine WC.seq ?_
    refine WC.region ?_
    refine WR.v (v := .bool false) rfl rfl rfl ?_ ?_
    · refine QV.qo ?_; exact q_assign rfl (by kernel_rfl)
    refine WR.nil ?_
    change WC _ _ _ _ _ _
    refine WC.seq ?_
    refine WC.seq ?_
    refine WC.region ?_
    refine WR.v (v := .int .i64 0) rfl rfl rfl ?_ ?_
    · refine QV.qo ?_; exact q_assign rfl (by kernel_rfl)
    refine WR.v (v := .int .i64 0) rfl rfl rfl ?_ ?_
    · refine QV.qo ?_; exact q_assign rfl (by kernel_rfl)
    refine WR.nil ?_
    change WC _ _ _ _ _ _
    refine WC.block ?_
    refine WC.sub (C' := CC _ _ X w0 [[], [(g_13, .cells #[.slice none 0 0] 40 (0, 0))], [(g_2, .cells #[.slice Ab b.length cb] 40 (0, 0))], [(g_1, .cells #[.slice Aa a.length ca] 40 (0, 0))]]) (fun w hw => hw.pad) ?_
    refine WC.loop (fun (m : Nat) (σ : Env) (w1 : World) => ∃ (twin : Bool) (i : Nat) (k : Nat) (out : List Ver) (row_out14 : Rowb) (A_out14 : Option Addr) (c_out14 : Nat) (X_16 : Nat → Prop) (B_17 : World), m = (a.length - i) + (b.length - k) ∧ (True) ∧ (vsGo a b (a.length + b.length) a b false [] = vsGo a b ((a.length - i) + (b.length - k)) (a.drop i) (b.drop k) twin out) ∧ (i ≤ a.length ∧ k ≤ b.length) ∧ (out.length ≤ i + k) ∧ (σ 2 = .pointer (some ⟨g_1, 0, none⟩) ∧ σ 3 = .pointer (some ⟨g_2, 0, none⟩) ∧ σ 6 = .pointer (some ⟨g_13, 0, none⟩) ∧ σ 7 = .func (.func 59) #[] #[.pointer (some ⟨g_1, 0, none⟩), .pointer (some ⟨g_2, 0, none⟩), .pointer (some ⟨g_13, 0, none⟩)] ∧ σ 8 = .bool twin ∧ σ 9 = .int .i64 ((i : Nat) : Int) ∧ σ 10 = .int .i64 ((k : Nat) : Int)) ∧ St X w0 X_16 B_17 ∧ (∀ k, X k → X_16 k) ∧ (∀ k, X_16 k → k < B_17.heap.size) ∧ Own verT X_16 B_17 58 row_out14 A_out14 c_out14 out ∧ CC no w0 X_16 B_17 [row_out14, [(g_13, .cells #[.slice A_out14 out.length c_out14] 40 (0, 0))], [(g_2, .cells #[.slice Ab b.length cb] 40 (0, 0))], [(g_1, .cells #[.slice Aa a.length ca] 40 (0, 0))]] w1) ?_ ?_
    · intro w1 hw
      exact ⟨_, false, 0, 0, [], [], none, 0, X, w0, rfl, (by first | trivial | omega), rfl, (by simp), (by simp), ⟨by kernel_rfl, by kernel_rfl, by kernel_rfl, by kernel_rfl, by kernel_rfl, by kernel_rfl, by kernel_rfl⟩, St.refl _ _, fun _ h => h, hX, (Own.nil verT X w0 58), hw⟩
    intro m14 σ14 w1 hI
    obtain ⟨twin, i, k, out, row_out14, A_out14, c_out14, X_16, B_17, rfl, hk14, hrel14, hik, hol, ⟨h14_2, h14_3, h14_6, h14_7, h14_8, h14_9, h14_10⟩, hst_18, hxx_19, hxl_20, ho_out14, hw⟩ := hI
    refine WC.here (C := CC no w0 X_16 B_17 [row_out14, [(g_13, .cells #[.slice A_out14 out.length c_out14] 40 (0, 0))], [(g_2, .cells #[.slice Ab b.length cb] 40 (0, 0))], [(g_1, .cells #[.slice Aa a.length ca] 40 (0, 0))]]) ?_ hw
    clear hw
    have ho_out14l := ho_out14.le_
    refine WC.seq ?_
    refine WC.seq ?_
    refine WC.region ?_
    refine WR.v (v := .int .i64 ((i : Nat) : Int)) rfl rfl rfl ?_ ?_
    · refine QV.qo ?_; exact q_move rfl h14_9
    refine WR.v (v := .slice Aa a.length ca) rfl rfl rfl ?_ ?_
    · refine QV.qo ?_; exact q_load_loc (i := 3) (g := g_1) (j := 0) (v := .slice Aa a.length ca) rfl Try.isAgg40 h14_2 rfl rfl
    refine WR.v (v := .int .i64 ((a.length : Nat) : Int)) rfl rfl rfl ?_ ?_
    · refine QV.qo ?_; exact q_len_slice (A := Aa) (n := a.length) (c := ca) rfl Try.underlying40 (by kernel_rfl)
    refine WR.v (v := .bool (decide (((i : Nat) : Int) < ((a.length : Nat) : Int)))) rfl rfl rfl ?_ ?_
    · refine QV.qo ?_; exact q_lss (k := .i64) (a := ((i : Nat) : Int)) (b := ((a.length : Nat) : Int)) rfl (by kernel_rfl) (by kernel_rfl)
    refine WR.v (v := .bool (decide (((i : Nat) : Int) < ((a.length : Nat) : Int)))) rfl rfl rfl ?_ ?_
    · refine QV.qo ?_; exact q_move rfl (by kernel_rfl)
    refine WR.g0 (v := .int .i64 ((k : Nat) : Int)) (c0 := true) (g := (decide (((i : Nat) : Int) < ((a.length : Nat) : Int)))) rfl rfl (by kernel_rfl) rfl rfl (fun hc_22 => ?_) ?_
    · refine QV.qo ?_; exact q_move rfl h14_10
    refine WR.g0 (v := .slice Ab b.length cb) (c0 := true) (g := (decide (((i : Nat) : Int) < ((a.length : Nat) : Int)))) rfl rfl (by kernel_rfl) rfl rfl (fun hc_23 => ?_) ?_
    · refine QV.qo ?_; exact q_load_loc (i := 2) (g := g_2) (j := 0) (v := .slice Ab b.length cb) rfl Try.isAgg40 h14_3 rfl rfl
    refine WR.g0 (v := .int .i64 ((b.length : Nat) : Int)) (c0 := true) (g := (decide (((i : Nat) : Int) < ((a.length : Nat) : Int)))) rfl rfl (by kernel_rfl) rfl rfl (fun hc_24 => ?_) ?_
    · refine QV.qo ?_; exact q_len_slice (A := Ab) (n := b.length) (c := cb) rfl Try.underlying40 (gv_of hc_24)
    refine WR.g0 (v := .bool (decide (((k : Nat) : Int) < ((b.length : Nat) : Int)))) (c0 := true) (g := (decide (((i : Nat) : Int) < ((a.length : Nat) : Int)))) rfl rfl (by kernel_rfl) rfl rfl (fun hc_25 => ?_) ?_
    · refine QV.qo ?_; exact q_lss (k := .i64) (a := ((k : Nat) : Int)) (b := ((b.length : Nat) : Int)) rfl (gv_of hc_25) (gv_of hc_25)
    refine WR.v (v := .bool ((decide (((i : Nat) : Int) < ((a.length : Nat) : Int))) || (decide (((k : Nat) : Int) < ((b.length : Nat) : Int))))) rfl rfl rfl ?_ ?_
    · refine QV.qo ?_; exact q_pick (g := (decide (((i : Nat) : Int) < ((a.length : Nat) : Int)))) rfl (by kernel_rfl) (pk_or (c := true) rfl)
    refine WR.nil ?_
    change WC _ _ _ _ _ _
    refine WC.cond (b := ((decide (((i : Nat) : Int) < ((a.length : Nat) : Int))) || (decide (((k : Nat) : Int) < ((b.length : Nat) : Int))))) (by kernel_rfl) ?_ ?_
    · skip
      intro hb_26t
      refine WC.skip ?_
      change WC _ _ _ _ _ _
      refine WC.block ?_
      refine WC.block ?_
      refine WC.seq ?_
      refine WC.draw (by kernel_rfl) (by kernel_rfl) (fun w hw => hw.drawn _) ?_
      refine WQ.v (v := .int .i64 ((k : Nat) : Int)) rfl rfl rfl ?_ ?_
      · refine QV.qo ?_; exact q_move rfl h14_10
      refine WQ.v (v := .slice Ab b.length cb) rfl rfl rfl ?_ ?_
      · refine QV.qo ?_; exact q_load_loc (i := 2) (g := g_2) (j := 0) (v := .slice Ab b.length cb) rfl Try.isAgg40 h14_3 rfl rfl
      refine WQ.v (v := .int .i64 ((b.length : Nat) : Int)) rfl rfl rfl ?_ ?_
      · refine QV.qo ?_; exact q_len_slice (A := Ab) (n := b.length) (c := cb) rfl Try.underlying40 (by kernel_rfl)
      refine WQ.v (v := .bool (((k : Nat) : Int) == ((b.length : Nat) : Int))) rfl rfl rfl ?_ ?_
      · refine QV.qo ?_; exact q_eql (k := .i64) (a := ((k : Nat) : Int)) (b := ((b.length : Nat) : Int)) rfl (by kernel_rfl) (by kernel_rfl)
      refine WQ.v (v := .bool (((k : Nat) : Int) == ((b.length : Nat) : Int))) rfl rfl rfl ?_ ?_
      · refine QV.qo ?_; exact q_move rfl (by kernel_rfl)
      refine WQ.g0 (v := .int .i64 ((i : Nat) : Int)) (c0 := true) (g := (((k : Nat) : Int) == ((b.length : Nat) : Int))) rfl rfl (by kernel_rfl) rfl rfl (fun hc_27 => ?_) ?_
      · refine QV.qo ?_; exact q_move rfl h14_9
      refine WQ.g0 (v := .slice Aa a.length ca) (c0 := true) (g := (((k : Nat) : Int) == ((b.length : Nat) : Int))) rfl rfl (by kernel_rfl) rfl rfl (fun hc_28 => ?_) ?_
      · refine QV.qo ?_; exact q_load_loc (i := 3) (g := g_1) (j := 0) (v := .slice Aa a.length ca) rfl Try.isAgg40 h14_2 rfl rfl
      refine WQ.g0 (v := .int .i64 ((a.length : Nat) : Int)) (c0 := true) (g := (((k : Nat) : Int) == ((b.length : Nat) : Int))) rfl rfl (by kernel_rfl) rfl rfl (fun hc_29 => ?_) ?_
      · refine QV.qo ?_; exact q_len_slice (A := Aa) (n := a.length) (c := ca) rfl Try.underlying40 (gv_of hc_29)
      refine WQ.g0 (v := .bool (decide (((i : Nat) : Int) < ((a.length : Nat) : Int)))) (c0 := true) (g := (((k : Nat) : Int) == ((b.length : Nat) : Int))) rfl rfl (by kernel_rfl) rfl rfl (fun hc_30 => ?_) ?_
      · refine QV.qo ?_; exact q_lss (k := .i64) (a := ((i : Nat) : Int)) (b := ((a.length : Nat) : Int)) rfl (gv_of hc_30) (gv_of hc_30)
      refine WQ.g0 (v := .bool (decide (((i : Nat) : Int) < ((a.length : Nat) : Int)))) (c0 := true) (g := (((k : Nat) : Int) == ((b.length : Nat) : Int))) rfl rfl (by kernel_rfl) rfl rfl (fun hc_31 => ?_) ?_
      · refine QV.qo ?_; exact q_move rfl (gv_of hc_31)
      refine WQ.g1 (v := .slice Aa a.length ca) (c0 := (true && !(((k : Nat) : Int) == ((b.length : Nat) : Int)))) (g := (decide (((i : Nat) : Int) < ((a.length : Nat) : Int)))) rfl rfl (by kernel_rfl) rfl rfl (fun hc_32 => ?_) ?_
      · refine QV.qo ?_; exact q_load_loc (i := 3) (g := g_1) (j := 0) (v := .slice Aa a.length ca) rfl Try.isAgg40 h14_2 rfl rfl
      refine WQ.g1 (v := .int .i64 ((i : Nat) : Int)) (c0 := (true && !(((k : Nat) : Int) == ((b.length : Nat) : Int)))) (g := (decide (((i : Nat) : Int) < ((a.length : Nat) : Int)))) rfl rfl (by kernel_rfl) rfl rfl (fun hc_33 => ?_) ?_
      · refine QV.qo ?_; exact q_move rfl h14_9
      refine WQ.g1 (v := ptrAt Aa (i * 5)) (c0 := (true && !(((k : Nat) : Int) == ((b.length : Nat) : Int)))) (g := (decide (((i : Nat) : Int) < ((a.length : Nat) : Int)))) rfl rfl (by kernel_rfl) rfl rfl (fun hc_34 => ?_) ?_
      · refine QV.qo ?_; exact q_index_addr (k := .i64) (A := Aa) (n := a.length) (c := ca) (i := i) rfl Try.underlying40 Try.sizeOf58 (gv_of hc_34) (gv_of hc_34) (by first | omega | (simp at hc_34; omega)) (Sl.some_ (ha.step hst_18) (k := i) (by first | omega | (simp at hc_34; omega)))
      refine WQ.g1 (v := ptrAt Aa (i * 5)) (c0 := (true && !(((k : Nat) : Int) == ((b.length : Nat) : Int)))) (g := (decide (((i : Nat) : Int) < ((a.length : Nat) : Int)))) rfl rfl (by kernel_rfl) rfl rfl (fun hc_35 => ?_) ?_
      · refine QV.qo ?_; exact q_field_addr (j := i * 5) (i * 5) fld_58_0 rfl (gv_of hc_35) (Sl.some_ (ha.step hst_18) (k := i) (by first | omega | (simp at hc_35; omega))) rfl
      refine WQ.g1 (v := .agg #[.int .i64 (gt a i).dot.s, .int .i64 (gt a i).dot.n]) (c0 := (true && !(((k : Nat) : Int) == ((b.length : Nat) : Int)))) (g := (decide (((i : Nat) : Int) < ((a.length : Nat) : Int)))) rfl rfl (by kernel_rfl) rfl rfl (fun hc_36 => ?_) ?_
      · refine QV.qo ?_; exact q_load_agg (A := Aa) (j := i * 5) (vs := [.int .i64 (gt a i).dot.s, .int .i64 (gt a i).dot.n]) rfl Try.isAgg55 Try.sizeOf55 (gv_of hc_36) (Sl.some_ (ha.step hst_18) (k := i) (by first | omega | (simp at hc_36; omega))) (fun q hq => match q, hq with | 0, _ => Sl.verT_0 (ha.step hst_18) (i := i) (by first | omega | (simp at hc_36; omega)) | 1, _ => Sl.verT_1 (ha.step hst_18) (i := i) (by first | omega | (simp at hc_36; omega)))
      refine WQ.g1 (v := .slice Ab b.length cb) (c0 := (true && !(((k : Nat) : Int) == ((b.length : Nat) : Int)))) (g := (decide (((i : Nat) : Int) < ((a.length : Nat) : Int)))) rfl rfl (by kernel_rfl) rfl rfl (fun hc_37 => ?_) ?_
      · refine QV.qo ?_; exact q_load_loc (i := 2) (g := g_2) (j := 0) (v := .slice Ab b.length cb) rfl Try.isAgg40 h14_3 rfl rfl
      refine WQ.g1 (v := .int .i64 ((k : Nat) : Int)) (c0 := (true && !(((k : Nat) : Int) == ((b.length : Nat) : Int)))) (g := (decide (((i : Nat) : Int) < ((a.length : Nat) : Int)))) rfl rfl (by kernel_rfl) rfl rfl (fun hc_38 => ?_) ?_
      · refine QV.qo ?_; exact q_move rfl h14_10
      refine WQ.g1 (v := ptrAt Ab (k * 5)) (c0 := (true && !(((k : Nat) : Int) == ((b.length : Nat) : Int)))) (g := (decide (((i : Nat) : Int) < ((a.length : Nat) : Int)))) rfl rfl (by kernel_rfl) rfl rfl (fun hc_39 => ?_) ?_
      · refine QV.qo ?_; exact q_index_addr (k := .i64) (A := Ab) (n := b.length) (c := cb) (i := k) rfl Try.underlying40 Try.sizeOf58 (gv_of hc_39) (gv_of hc_39) (by first | omega | (simp at hc_39; omega)) (Sl.some_ (hb.step hst_18) (k := k) (by first | omega | (simp at hc_39; omega)))
      refine WQ.g1 (v := ptrAt Ab (k * 5)) (c0 := (true && !(((k : Nat) : Int) == ((b.length : Nat) : Int)))) (g := (decide (((i : Nat) : Int) < ((a.length : Nat) : Int)))) rfl rfl (by kernel_rfl) rfl rfl (fun hc_40 => ?_) ?_
      · refine QV.qo ?_; exact q_field_addr (j := k * 5) (k * 5) fld_58_0 rfl (gv_of hc_40) (Sl.some_ (hb.step hst_18) (k := k) (by first | omega | (simp at hc_40; omega))) rfl
      refine WQ.g1 (v := .agg #[.int .i64 (gt b k).dot.s, .int .i64 (gt b k).dot.n]) (c0 := (true && !(((k : Nat) : Int) == ((b.length : Nat) : Int)))) (g := (decide (((i : Nat) : Int) < ((a.length : Nat) : Int)))) rfl rfl (by kernel_rfl) rfl rfl (fun hc_41 => ?_) ?_
      · refine QV.qo ?_; exact q_load_agg (A := Ab) (j := k * 5) (vs := [.int .i64 (gt b k).dot.s, .int .i64 (gt b k).dot.n]) rfl Try.isAgg55 Try.sizeOf55 (gv_of hc_41) (Sl.some_ (hb.step hst_18) (k := k) (by first | omega | (simp at hc_41; omega))) (fun q hq => match q, hq with | 0, _ => Sl.verT_0 (hb.step hst_18) (i := k) (by first | omega | (simp at hc_41; omega)) | 1, _ => Sl.verT_1 (hb.step hst_18) (i := k) (by first | omega | (simp at hc_41; omega)))
      refine WQ.g1 (v := .bool (vsBefore (gt a i).dot (gt b k).dot)) (c0 := (true && !(((k : Nat) : Int) == ((b.length : Nat) : Int)))) (g := (decide (((i : Nat) : Int) < ((a.length : Nat) : Int)))) rfl rfl (by kernel_rfl) rfl rfl (fun hc_42 => ?_) ?_
      · exact q_call (args := #[.agg #[.int .i64 (gt a i).dot.s, .int .i64 (gt a i).dot.n], .agg #[.int .i64 (gt b k).dot.s, .int .i64 (gt b k).dot.n]]) Try.call62 rfl (by exact args2 (gv_of hc_42) (gv_of hc_42)) (fun w hw => vers_before_ok w no  ((gt a i).dot) (Dot.fits_step ⟨(Sl.verT_fits (ha.step hst_18) (i := i) (by first | omega | (simp at hc_42; omega))).1, (Sl.verT_fits (ha.step hst_18) (i := i) (by first | omega | (simp at hc_42; omega))).2.1⟩ (hw.st0.trans (St.to_no _ _)))  ((gt b k).dot) (Dot.fits_step ⟨(Sl.verT_fits (hb.step hst_18) (i := k) (by first | omega | (simp at hc_42; omega))).1, (Sl.verT_fits (hb.step hst_18) (i := k) (by first | omega | (simp at hc_42; omega))).2.1⟩ (hw.st0.trans (St.to_no _ _))) (fun _ h => h.elim))
      refine WQ.g0 (v := .bool ((decide (((i : Nat) : Int) < ((a.length : Nat) : Int))) && (vsBefore (gt a i).dot (gt b k).dot))) (c0 := true) (g := (((k : Nat) : Int) == ((b.length : Nat) : Int))) rfl rfl (by kernel_rfl) rfl rfl (fun hc_43 => ?_) ?_
      · refine QV.qo ?_; exact q_pick (g := (decide (((i : Nat) : Int) < ((a.length : Nat) : Int)))) rfl (gv_of hc_43) (pk_and (c := (true && !(((k : Nat) : Int) == ((b.length : Nat) : Int)))) hc_43)
      refine WQ.v (v := .bool ((((k : Nat) : Int) == ((b.length : Nat) : Int)) || ((decide (((i : Nat) : Int) < ((a.length : Nat) : Int))) && (vsBefore (gt a i).dot (gt b k).dot)))) rfl rfl rfl ?_ ?_
      · refine QV.qo ?_; exact q_pick (g := (((k : Nat) : Int) == ((b.length : Nat) : Int))) rfl (by kernel_rfl) (pk_or (c := true) rfl)
      refine WQ.v (v := .bool ((((k : Nat) : Int) == ((b.length : Nat) : Int)) || ((decide (((i : Nat) : Int) < ((a.length : Nat) : Int))) && (vsBefore (gt a i).dot (gt b k).dot)))) rfl rfl rfl ?_ ?_
      · refine QV.qo ?_; exact q_assign rfl (by kernel_rfl)
      refine WQ.nil ?_
      change WC _ _ _ _ _ _
      refine WC.cond (b := ((((k : Nat) : Int) == ((b.length : Nat) : Int)) || ((decide (((i : Nat) : Int) < ((a.length : Nat) : Int))) && (vsBefore (gt a i).dot (gt b k).dot)))) (by kernel_rfl) ?_ ?_
      · skip
        intro hb_44t
        have hia : i < a.length := by
          have hl := hb_26t
          simp only [Bool.or_eq_true, Bool.and_eq_true, decide_eq_true_eq, beq_iff_eq] at hl
          have h2 := hb_44t
          simp only [Bool.or_eq_true, Bool.and_eq_true, decide_eq_true_eq, beq_iff_eq] at h2
          omega
        refine WC.seq ?_
        refine WC.region ?_
        refine WR.v (v := .func (.func 59) #[] #[.pointer (some ⟨g_1, 0, none⟩), .pointer (some ⟨g_2, 0, none⟩), .pointer (some ⟨g_13, 0, none⟩)]) rfl rfl rfl ?_ ?_
        · refine QV.qo ?_; exact q_move rfl h14_7
        refine WR.v (v := .slice Aa a.length ca) rfl rfl rfl ?_ ?_
        · refine QV.qo ?_; exact q_load_loc (i := 3) (g := g_1) (j := 0) (v := .slice Aa a.length ca) rfl Try.isAgg40 h14_2 rfl rfl
        refine WR.v (v := .int .i64 ((i : Nat) : Int)) rfl rfl rfl ?_ ?_
        · refine QV.qo ?_; exact q_move rfl h14_9
        refine WR.v (v := ptrAt Aa (i * 5)) rfl rfl rfl ?_ ?_
        · refine QV.qo ?_; exact q_index_addr (k := .i64) (A := Aa) (n := a.length) (c := ca) (i := i) rfl Try.underlying40 Try.sizeOf58 (by kernel_rfl) (by kernel_rfl) (by omega) (Sl.some_ (ha.step hst_18) (k := i) (by omega))
        refine WR.v (v := .agg #[.int .i64 (gt a i).dot.s, .int .i64 (gt a i).dot.n, .slice (slA B_17 Aa (i * 5 + 2)) (gt a i).past.length (slC B_17 Aa (i * 5 + 2)), .bool (gt a i).gone, .string (gt a i).val]) rfl rfl rfl ?_ ?_
        · refine QV.qo ?_; exact q_load_agg (A := Aa) (j := i * 5) (vs := [.int .i64 (gt a i).dot.s, .int .i64 (gt a i).dot.n, .slice (slA B_17 Aa (i * 5 + 2)) (gt a i).past.length (slC B_17 Aa (i * 5 + 2)), .bool (gt a i).gone, .string (gt a i).val]) rfl Try.isAgg58 Try.sizeOf58 (by kernel_rfl) (Sl.some_ (ha.step hst_18) (k := i) (by omega)) (fun q hq => match q, hq with | 0, _ => Sl.verT_0 (ha.step hst_18) (i := i) (by omega) | 1, _ => Sl.verT_1 (ha.step hst_18) (i := i) (by omega) | 2, _ => Sl.verT_2 (ha.step hst_18) (i := i) (by omega) | 3, _ => Sl.verT_3 (ha.step hst_18) (i := i) (by omega) | 4, _ => Sl.verT_4 (ha.step hst_18) (i := i) (by omega))
        refine WR.sub (C' := CC no w0 X_16 B_17 ([[(g_1, .cells #[.slice Aa a.length ca] 40 (0, 0))], [(g_2, .cells #[.slice Ab b.length cb] 40 (0, 0))], [(g_13, .cells #[.slice A_out14 out.length c_out14] 40 (0, 0))], row_out14] ++ [])) (fun w hw => hw.permL (((List.perm_middle (l₁ := ([[(g_2, .cells #[.slice Ab b.length cb] 40 (0, 0))], [(g_13, .cells #[.slice A_out14 out.length c_out14] 40 (0, 0))], row_out14] : List Rowb)) (a := ([(g_1, .cells #[.slice Aa a.length ca] 40 (0, 0))] : Rowb)) (l₂ := ([] : List Rowb))).symm).trans (((List.perm_middle (l₁ := ([[(g_13, .cells #[.slice A_out14 out.length c_out14] 40 (0, 0))], row_out14] : List Rowb)) (a := ([(g_2, .cells #[.slice Ab b.length cb] 40 (0, 0))] : Rowb)) (l₂ := ([[(g_1, .cells #[.slice Aa a.length ca] 40 (0, 0))]] : List Rowb))).symm).trans (List.perm_middle (l₁ := ([row_out14] : List Rowb)) (a := ([(g_13, .cells #[.slice A_out14 out.length c_out14] 40 (0, 0))] : Rowb)) (l₂ := ([[(g_2, .cells #[.slice Ab b.length cb] 40 (0, 0))], [(g_1, .cells #[.slice Aa a.length ca] 40 (0, 0))]] : List Rowb))).symm))) ?_
        refine e_call_eff (U := [[(g_1, .cells #[.slice Aa a.length ca] 40 (0, 0))], [(g_2, .cells #[.slice Ab b.length cb] 40 (0, 0))], [(g_13, .cells #[.slice A_out14 out.length c_out14] 40 (0, 0))], row_out14]) (R := []) (args := #[.agg #[.int .i64 (gt a i).dot.s, .int .i64 (gt a i).dot.n, .slice (slA B_17 Aa (i * 5 + 2)) (gt a i).past.length (slC B_17 Aa (i * 5 + 2)), .bool (gt a i).gone, .string (gt a i).val], .pointer (some ⟨g_1, 0, none⟩), .pointer (some ⟨g_2, 0, none⟩), .pointer (some ⟨g_13, 0, none⟩)]) (f := 59) (Res := vers_keep_ok_res ((gt a i)) g_1 Aa ca (a) g_2 Ab cb (b) g_13 (out)) rfl rfl (fun w => call_run_fv (caps := #[.pointer (some ⟨g_1, 0, none⟩), .pointer (some ⟨g_2, 0, none⟩), .pointer (some ⟨g_13, 0, none⟩)]) Try.call59 rfl (by kernel_rfl) (by first | kernel_rfl | (rw [(by kernel_rfl)]; rfl)) w) hxl_20 (X0 := X) hxx_19 (fun w X' hs_ hl_ hp_ => vers_keep_ok w X' (slA B_17 Aa (i * 5 + 2)) (slC B_17 Aa (i * 5 + 2)) ((gt a i)) (Ver.fits_step (Sl.verT_fits (ha.step hst_18) (i := i) (by omega)) hs_) g_1 Aa ca (a) (Sl.step (ha.step hst_18) hs_) hca g_2 Ab cb (b) (Sl.step (hb.step hst_18) hs_) hcb g_13 row_out14 A_out14 c_out14 (out) (Own.step ho_out14 hs_) (by omega) hp_ hl_) ?_
        intro X_45 B_46 U' v hst_47 hxx_48 hxl_49 hres
        obtain ⟨row_50, A_51, c_52, rfl, rfl, hown_53, _⟩ := hres
        have hown_53l := hown_53.le_
        have hf_55 := ((Sl.verT_fits (ha.step hst_18) (i := i) (by omega)).2.2.1.1)
        have hf_56 := ((Sl.verT_fits (ha.step hst_18) (i := i) (by omega)).2.2.1.2).step hst_47
        change WR _ _ _ (CC _ _ X_45 B_46 [[(g_1, .cells #[.slice Aa a.length ca] 40 (0, 0))], [(g_2, .cells #[.slice Ab b.length cb] 40 (0, 0))], [(g_13, .cells #[.slice A_51 (vsKeep ((gt a i)) (a) (b) (out)).length c_52] 40 (0, 0))], row_50]) _ _ _
        refine WR.nil ?_
        change WC _ _ _ _ _ _
        refine WC.region ?_
        refine WR.v (v := .int .i64 ((i : Nat) : Int)) rfl rfl rfl ?_ ?_
        · refine QV.qo ?_; exact q_move rfl h14_9
        refine WR.v (v := .int .i64 ((i + 1 : Nat) : Int)) rfl rfl rfl ?_ ?_
        · refine QV.qo ?_; exact q_add (k := .i64) (a := ((i : Nat) : Int)) (b := 1) (r := ((i + 1 : Nat) : Int)) rfl (by kernel_rfl) (by kernel_rfl) (wr64 (by omega) (by omega))
        refine WR.v (v := .int .i64 ((i + 1 : Nat) : Int)) rfl rfl rfl ?_ ?_
        · refine QV.qo ?_; exact q_assign rfl (by kernel_rfl)
        refine WR.nil ?_
        intro w hw
        refine ⟨_, ?_, twin, i + 1, k, (vsKeep ((gt a i)) (a) (b) (out)), row_50, A_51, c_52, X_45, B_46, rfl, (by first | trivial | omega), ?_, (by omega), (by have q1 := vsKeep_len (gt a i) a b out; have q2 := vsKeep_len (gt b k) a b out; omega), ⟨h14_2, h14_3, h14_6, h14_7, h14_8, by kernel_rfl, h14_10⟩, (hst_18.trans hst_47), hxx_48, hxl_49, hown_53, (hw.permL (((List.perm_middle (l₁ := ([[(g_13, .cells #[.slice A_51 (vsKeep ((gt a i)) (a) (b) (out)).length c_52] 40 (0, 0))], [(g_2, .cells #[.slice Ab b.length cb] 40 (0, 0))], [(g_1, .cells #[.slice Aa a.length ca] 40 (0, 0))]] : List Rowb)) (a := (row_50 : Rowb)) (l₂ := ([] : List Rowb))).symm).trans (((List.perm_middle (l₁ := ([[(g_2, .cells #[.slice Ab b.length cb] 40 (0, 0))], [(g_1, .cells #[.slice Aa a.length ca] 40 (0, 0))]] : List Rowb)) (a := ([(g_13, .cells #[.slice A_51 (vsKeep ((gt a i)) (a) (b) (out)).length c_52] 40 (0, 0))] : Rowb)) (l₂ := ([row_50] : List Rowb))).symm).trans (List.perm_middle (l₁ := ([[(g_1, .cells #[.slice Aa a.length ca] 40 (0, 0))]] : List Rowb)) (a := ([(g_2, .cells #[.slice Ab b.length cb] 40 (0, 0))] : Rowb)) (l₂ := ([[(g_13, .cells #[.slice A_51 (vsKeep ((gt a i)) (a) (b) (out)).length c_52] 40 (0, 0))], row_50] : List Rowb))).symm)))⟩
        · omega
        · exact hrel14.trans (vsGo_a (by omega) (by omega) hb_44t)
      · skip
        intro hb_44f
        have hp_57 := ne_of_beq_false (or_l hb_44f)
        have hp_58 := (or_r hb_44f)
        refine WC.seq ?_
        refine WC.draw (by kernel_rfl) (by kernel_rfl) (fun w hw => hw.drawn _) ?_
        refine WQ.v (v := .int .i64 ((i : Nat) : Int)) rfl rfl rfl ?_ ?_
        · refine QV.qo ?_; exact q_move rfl h14_9
        refine WQ.v (v := .slice Aa a.length ca) rfl rfl rfl ?_ ?_
        · refine QV.qo ?_; exact q_load_loc (i := 3) (g := g_1) (j := 0) (v := .slice Aa a.length ca) rfl Try.isAgg40 h14_2 rfl rfl
        refine WQ.v (v := .int .i64 ((a.length : Nat) : Int)) rfl rfl rfl ?_ ?_
        · refine QV.qo ?_; exact q_len_slice (A := Aa) (n := a.length) (c := ca) rfl Try.underlying40 (by kernel_rfl)
        refine WQ.v (v := .bool (decide (((i : Nat) : Int) < ((a.length : Nat) : Int)))) rfl rfl rfl ?_ ?_
        · refine QV.qo ?_; exact q_lss (k := .i64) (a := ((i : Nat) : Int)) (b := ((a.length : Nat) : Int)) rfl (by kernel_rfl) (by kernel_rfl)
        refine WQ.v (v := .bool (decide (((i : Nat) : Int) < ((a.length : Nat) : Int)))) rfl rfl rfl ?_ ?_
        · refine QV.qo ?_; exact q_move rfl (by kernel_rfl)
        refine WQ.g1 (v := .slice Aa a.length ca) (c0 := true) (g := (decide (((i : Nat) : Int) < ((a.length : Nat) : Int)))) rfl rfl (by kernel_rfl) rfl rfl (fun hc_59 => ?_) ?_
        · refine QV.qo ?_; exact q_load_loc (i := 3) (g := g_1) (j := 0) (v := .slice Aa a.length ca) rfl Try.isAgg40 h14_2 rfl rfl
        refine WQ.g1 (v := .int .i64 ((i : Nat) : Int)) (c0 := true) (g := (decide (((i : Nat) : Int) < ((a.length : Nat) : Int)))) rfl rfl (by kernel_rfl) rfl rfl (fun hc_60 => ?_) ?_
        · refine QV.qo ?_; exact q_move rfl h14_9
        refine WQ.g1 (v := ptrAt Aa (i * 5)) (c0 := true) (g := (decide (((i : Nat) : Int) < ((a.length : Nat) : Int)))) rfl rfl (by kernel_rfl) rfl rfl (fun hc_61 => ?_) ?_
        · refine QV.qo ?_; exact q_index_addr (k := .i64) (A := Aa) (n := a.length) (c := ca) (i := i) rfl Try.underlying40 Try.sizeOf58 (gv_of hc_61) (gv_of hc_61) (by first | omega | (simp at hc_61; omega)) (Sl.some_ (ha.step hst_18) (k := i) (by first | omega | (simp at hc_61; omega)))
        refine WQ.g1 (v := ptrAt Aa (i * 5)) (c0 := true) (g := (decide (((i : Nat) : Int) < ((a.length : Nat) : Int)))) rfl rfl (by kernel_rfl) rfl rfl (fun hc_62 => ?_) ?_
        · refine QV.qo ?_; exact q_field_addr (j := i * 5) (i * 5) fld_58_0 rfl (gv_of hc_62) (Sl.some_ (ha.step hst_18) (k := i) (by first | omega | (simp at hc_62; omega))) rfl
        refine WQ.g1 (v := .agg #[.int .i64 (gt a i).dot.s, .int .i64 (gt a i).dot.n]) (c0 := true) (g := (decide (((i : Nat) : Int) < ((a.length : Nat) : Int)))) rfl rfl (by kernel_rfl) rfl rfl (fun hc_63 => ?_) ?_
        · refine QV.qo ?_; exact q_load_agg (A := Aa) (j := i * 5) (vs := [.int .i64 (gt a i).dot.s, .int .i64 (gt a i).dot.n]) rfl Try.isAgg55 Try.sizeOf55 (gv_of hc_63) (Sl.some_ (ha.step hst_18) (k := i) (by first | omega | (simp at hc_63; omega))) (fun q hq => match q, hq with | 0, _ => Sl.verT_0 (ha.step hst_18) (i := i) (by first | omega | (simp at hc_63; omega)) | 1, _ => Sl.verT_1 (ha.step hst_18) (i := i) (by first | omega | (simp at hc_63; omega)))
        refine WQ.g1 (v := .slice Ab b.length cb) (c0 := true) (g := (decide (((i : Nat) : Int) < ((a.length : Nat) : Int)))) rfl rfl (by kernel_rfl) rfl rfl (fun hc_64 => ?_) ?_
        · refine QV.qo ?_; exact q_load_loc (i := 2) (g := g_2) (j := 0) (v := .slice Ab b.length cb) rfl Try.isAgg40 h14_3 rfl rfl
        refine WQ.g1 (v := .int .i64 ((k : Nat) : Int)) (c0 := true) (g := (decide (((i : Nat) : Int) < ((a.length : Nat) : Int)))) rfl rfl (by kernel_rfl) rfl rfl (fun hc_65 => ?_) ?_
        · refine QV.qo ?_; exact q_move rfl h14_10
        refine WQ.g1 (v := ptrAt Ab (k * 5)) (c0 := true) (g := (decide (((i : Nat) : Int) < ((a.length : Nat) : Int)))) rfl rfl (by kernel_rfl) rfl rfl (fun hc_66 => ?_) ?_
        · refine QV.qo ?_; exact q_index_addr (k := .i64) (A := Ab) (n := b.length) (c := cb) (i := k) rfl Try.underlying40 Try.sizeOf58 (gv_of hc_66) (gv_of hc_66) (by first | omega | (simp at hc_66; omega)) (Sl.some_ (hb.step hst_18) (k := k) (by first | omega | (simp at hc_66; omega)))
        refine WQ.g1 (v := ptrAt Ab (k * 5)) (c0 := true) (g := (decide (((i : Nat) : Int) < ((a.length : Nat) : Int)))) rfl rfl (by kernel_rfl) rfl rfl (fun hc_67 => ?_) ?_
        · refine QV.qo ?_; exact q_field_addr (j := k * 5) (k * 5) fld_58_0 rfl (gv_of hc_67) (Sl.some_ (hb.step hst_18) (k := k) (by first | omega | (simp at hc_67; omega))) rfl
        refine WQ.g1 (v := .agg #[.int .i64 (gt b k).dot.s, .int .i64 (gt b k).dot.n]) (c0 := true) (g := (decide (((i : Nat) : Int) < ((a.length : Nat) : Int)))) rfl rfl (by kernel_rfl) rfl rfl (fun hc_68 => ?_) ?_
        · refine QV.qo ?_; exact q_load_agg (A := Ab) (j := k * 5) (vs := [.int .i64 (gt b k).dot.s, .int .i64 (gt b k).dot.n]) rfl Try.isAgg55 Try.sizeOf55 (gv_of hc_68) (Sl.some_ (hb.step hst_18) (k := k) (by first | omega | (simp at hc_68; omega))) (fun q hq => match q, hq with | 0, _ => Sl.verT_0 (hb.step hst_18) (i := k) (by first | omega | (simp at hc_68; omega)) | 1, _ => Sl.verT_1 (hb.step hst_18) (i := k) (by first | omega | (simp at hc_68; omega)))
        refine WQ.g1 (v := .bool ((gt a i).dot == (gt b k).dot)) (c0 := true) (g := (decide (((i : Nat) : Int) < ((a.length : Nat) : Int)))) rfl rfl (by kernel_rfl) rfl rfl (fun hc_69 => ?_) ?_
        · refine QV.qo ?_; exact q_eql_Dot (a := (gt a i).dot) (b := (gt b k).dot) rfl (gv_of hc_69) (gv_of hc_69)
        refine WQ.v (v := .bool ((decide (((i : Nat) : Int) < ((a.length : Nat) : Int))) && ((gt a i).dot == (gt b k).dot))) rfl rfl rfl ?_ ?_
        · refine QV.qo ?_; exact q_pick (g := (decide (((i : Nat) : Int) < ((a.length : Nat) : Int)))) rfl (by kernel_rfl) (pk_and (c := true) rfl)
        refine WQ.v (v := .bool ((decide (((i : Nat) : Int) < ((a.length : Nat) : Int))) && ((gt a i).dot == (gt b k).dot))) rfl rfl rfl ?_ ?_
        · refine QV.qo ?_; exact q_assign rfl (by kernel_rfl)
        refine WQ.nil ?_
        change WC _ _ _ _ _ _
        refine WC.cond (b := ((decide (((i : Nat) : Int) < ((a.length : Nat) : Int))) && ((gt a i).dot == (gt b k).dot))) (by kernel_rfl) ?_ ?_
        · skip
          intro hb_70t
          have hp_71 := of_decide_eq_true (and_l hb_70t)
          have hp_72 := eq_of_beq (and_r hb_70t)
          refine WC.seq ?_
          refine WC.draw (by kernel_rfl) (by kernel_rfl) (fun w hw => hw.drawn _) ?_
          refine WQ.v (v := .bool twin) rfl rfl rfl ?_ ?_
          · refine QV.qo ?_; exact q_move rfl h14_8
          refine WQ.v (v := .bool twin) rfl rfl rfl ?_ ?_
          · refine QV.qo ?_; exact q_move rfl (by kernel_rfl)
          refine WQ.g0 (v := .slice Aa a.length ca) (c0 := true) (g := twin) rfl rfl (by kernel_rfl) rfl rfl (fun hc_73 => ?_) ?_
          · refine QV.qo ?_; exact q_load_loc (i := 3) (g := g_1) (j := 0) (v := .slice Aa a.length ca) rfl Try.isAgg40 h14_2 rfl rfl
          refine WQ.g0 (v := .int .i64 ((i : Nat) : Int)) (c0 := true) (g := twin) rfl rfl (by kernel_rfl) rfl rfl (fun hc_74 => ?_) ?_
          · refine QV.qo ?_; exact q_move rfl h14_9
          refine WQ.g0 (v := ptrAt Aa (i * 5)) (c0 := true) (g := twin) rfl rfl (by kernel_rfl) rfl rfl (fun hc_75 => ?_) ?_
          · refine QV.qo ?_; exact q_index_addr (k := .i64) (A := Aa) (n := a.length) (c := ca) (i := i) rfl Try.underlying40 Try.sizeOf58 (gv_of hc_75) (gv_of hc_75) (by first | omega | (simp at hc_75; omega)) (Sl.some_ (ha.step hst_18) (k := i) (by first | omega | (simp at hc_75; omega)))
          refine WQ.g0 (v := .agg #[.int .i64 (gt a i).dot.s, .int .i64 (gt a i).dot.n, .slice (slA B_17 Aa (i * 5 + 2)) (gt a i).past.length (slC B_17 Aa (i * 5 + 2)), .bool (gt a i).gone, .string (gt a i).val]) (c0 := true) (g := twin) rfl rfl (by kernel_rfl) rfl rfl (fun hc_76 => ?_) ?_
          · refine QV.qo ?_; exact q_load_agg (A := Aa) (j := i * 5) (vs := [.int .i64 (gt a i).dot.s, .int .i64 (gt a i).dot.n, .slice (slA B_17 Aa (i * 5 + 2)) (gt a i).past.length (slC B_17 Aa (i * 5 + 2)), .bool (gt a i).gone, .string (gt a i).val]) rfl Try.isAgg58 Try.sizeOf58 (gv_of hc_76) (Sl.some_ (ha.step hst_18) (k := i) (by first | omega | (simp at hc_76; omega))) (fun q hq => match q, hq with | 0, _ => Sl.verT_0 (ha.step hst_18) (i := i) (by first | omega | (simp at hc_76; omega)) | 1, _ => Sl.verT_1 (ha.step hst_18) (i := i) (by first | omega | (simp at hc_76; omega)) | 2, _ => Sl.verT_2 (ha.step hst_18) (i := i) (by first | omega | (simp at hc_76; omega)) | 3, _ => Sl.verT_3 (ha.step hst_18) (i := i) (by first | omega | (simp at hc_76; omega)) | 4, _ => Sl.verT_4 (ha.step hst_18) (i := i) (by first | omega | (simp at hc_76; omega)))
          refine WQ.g0 (v := .slice Ab b.length cb) (c0 := true) (g := twin) rfl rfl (by kernel_rfl) rfl rfl (fun hc_77 => ?_) ?_
          · refine QV.qo ?_; exact q_load_loc (i := 2) (g := g_2) (j := 0) (v := .slice Ab b.length cb) rfl Try.isAgg40 h14_3 rfl rfl
          refine WQ.g0 (v := .int .i64 ((k : Nat) : Int)) (c0 := true) (g := twin) rfl rfl (by kernel_rfl) rfl rfl (fun hc_78 => ?_) ?_
          · refine QV.qo ?_; exact q_move rfl h14_10
          refine WQ.g0 (v := ptrAt Ab (k * 5)) (c0 := true) (g := twin) rfl rfl (by kernel_rfl) rfl rfl (fun hc_79 => ?_) ?_
          · refine QV.qo ?_; exact q_index_addr (k := .i64) (A := Ab) (n := b.length) (c := cb) (i := k) rfl Try.underlying40 Try.sizeOf58 (gv_of hc_79) (gv_of hc_79) (by first | omega | (simp at hc_79; omega)) (Sl.some_ (hb.step hst_18) (k := k) (by first | omega | (simp at hc_79; omega)))
          refine WQ.g0 (v := .agg #[.int .i64 (gt b k).dot.s, .int .i64 (gt b k).dot.n, .slice (slA B_17 Ab (k * 5 + 2)) (gt b k).past.length (slC B_17 Ab (k * 5 + 2)), .bool (gt b k).gone, .string (gt b k).val]) (c0 := true) (g := twin) rfl rfl (by kernel_rfl) rfl rfl (fun hc_80 => ?_) ?_
          · refine QV.qo ?_; exact q_load_agg (A := Ab) (j := k * 5) (vs := [.int .i64 (gt b k).dot.s, .int .i64 (gt b k).dot.n, .slice (slA B_17 Ab (k * 5 + 2)) (gt b k).past.length (slC B_17 Ab (k * 5 + 2)), .bool (gt b k).gone, .string (gt b k).val]) rfl Try.isAgg58 Try.sizeOf58 (gv_of hc_80) (Sl.some_ (hb.step hst_18) (k := k) (by first | omega | (simp at hc_80; omega))) (fun q hq => match q, hq with | 0, _ => Sl.verT_0 (hb.step hst_18) (i := k) (by first | omega | (simp at hc_80; omega)) | 1, _ => Sl.verT_1 (hb.step hst_18) (i := k) (by first | omega | (simp at hc_80; omega)) | 2, _ => Sl.verT_2 (hb.step hst_18) (i := k) (by first | omega | (simp at hc_80; omega)) | 3, _ => Sl.verT_3 (hb.step hst_18) (i := k) (by first | omega | (simp at hc_80; omega)) | 4, _ => Sl.verT_4 (hb.step hst_18) (i := k) (by first | omega | (simp at hc_80; omega)))
          refine WQ.g0 (v := .bool (vsSame (gt a i) (gt b k))) (c0 := true) (g := twin) rfl rfl (by kernel_rfl) rfl rfl (fun hc_81 => ?_) ?_
          · exact q_call (args := #[.agg #[.int .i64 (gt a i).dot.s, .int .i64 (gt a i).dot.n, .slice (slA B_17 Aa (i * 5 + 2)) (gt a i).past.length (slC B_17 Aa (i * 5 + 2)), .bool (gt a i).gone, .string (gt a i).val], .agg #[.int .i64 (gt b k).dot.s, .int .i64 (gt b k).dot.n, .slice (slA B_17 Ab (k * 5 + 2)) (gt b k).past.length (slC B_17 Ab (k * 5 + 2)), .bool (gt b k).gone, .string (gt b k).val]]) Try.call63 rfl (by exact args2 (gv_of hc_81) (gv_of hc_81)) (fun w hw => vers_same_ok w no (slA B_17 Aa (i * 5 + 2)) (slC B_17 Aa (i * 5 + 2)) ((gt a i)) (Ver.fits_step (Sl.verT_fits (ha.step hst_18) (i := i) (by first | omega | (simp at hc_81; omega))) (hw.st0.trans (St.to_no _ _))) (slA B_17 Ab (k * 5 + 2)) (slC B_17 Ab (k * 5 + 2)) ((gt b k)) (Ver.fits_step (Sl.verT_fits (hb.step hst_18) (i := k) (by first | omega | (simp at hc_81; omega))) (hw.st0.trans (St.to_no _ _))) (fun _ h => h.elim))
          refine WQ.g0 (v := .bool (!(vsSame (gt a i) (gt b k)))) (c0 := true) (g := twin) rfl rfl (by kernel_rfl) rfl rfl (fun hc_82 => ?_) ?_
          · refine QV.qo ?_; exact q_not (g := (vsSame (gt a i) (gt b k))) rfl (gv_of hc_82)
          refine WQ.v (v := .bool (twin || (!(vsSame (gt a i) (gt b k))))) rfl rfl rfl ?_ ?_
          · refine QV.qo ?_; exact q_pick (g := twin) rfl (by kernel_rfl) (pk_or (c := true) rfl)
          refine WQ.v (v := .bool (twin || (!(vsSame (gt a i) (gt b k))))) rfl rfl rfl ?_ ?_
          · refine QV.qo ?_; exact q_assign rfl (by kernel_rfl)
          refine WQ.nil ?_
          change WC _ _ _ _ _ _
          refine WC.region ?_
          refine WR.v (v := .int .i64 ((i : Nat) : Int)) rfl rfl rfl ?_ ?_
          · refine QV.qo ?_; exact q_move rfl h14_9
          refine WR.v (v := .int .i64 ((i + 1 : Nat) : Int)) rfl rfl rfl ?_ ?_
          · refine QV.qo ?_; exact q_add (k := .i64) (a := ((i : Nat) : Int)) (b := 1) (r := ((i + 1 : Nat) : Int)) rfl (by kernel_rfl) (by kernel_rfl) (wr64 (by omega) (by omega))
          refine WR.v (v := .int .i64 ((i + 1 : Nat) : Int)) rfl rfl rfl ?_ ?_
          · refine QV.qo ?_; exact q_assign rfl (by kernel_rfl)
          refine WR.nil ?_
          intro w hw
          refine ⟨_, ?_, (twin || (!(vsSame (gt a i) (gt b k)))), i + 1, k, out, row_out14, A_out14, c_out14, X_16, B_17, rfl, (by first | trivial | omega), ?_, (by omega), (by have q1 := vsKeep_len (gt a i) a b out; have q2 := vsKeep_len (gt b k) a b out; omega), ⟨h14_2, h14_3, h14_6, h14_7, by kernel_rfl, by kernel_rfl, h14_10⟩, hst_18, hxx_19, hxl_20, ho_out14, hw⟩
          · omega
          · exact hrel14.trans (vsGo_t (by omega) (by omega) hb_44f (and_r hb_70t))
        · skip
          intro hb_70f
          refine WC.seq ?_
          refine WC.region ?_
          refine WR.v (v := .func (.func 59) #[] #[.pointer (some ⟨g_1, 0, none⟩), .pointer (some ⟨g_2, 0, none⟩), .pointer (some ⟨g_13, 0, none⟩)]) rfl rfl rfl ?_ ?_
          · refine QV.qo ?_; exact q_move rfl h14_7
          refine WR.v (v := .slice Ab b.length cb) rfl rfl rfl ?_ ?_
          · refine QV.qo ?_; exact q_load_loc (i := 2) (g := g_2) (j := 0) (v := .slice Ab b.length cb) rfl Try.isAgg40 h14_3 rfl rfl
          refine WR.v (v := .int .i64 ((k : Nat) : Int)) rfl rfl rfl ?_ ?_
          · refine QV.qo ?_; exact q_move rfl h14_10
          refine WR.v (v := ptrAt Ab (k * 5)) rfl rfl rfl ?_ ?_
          · refine QV.qo ?_; exact q_index_addr (k := .i64) (A := Ab) (n := b.length) (c := cb) (i := k) rfl Try.underlying40 Try.sizeOf58 (by kernel_rfl) (by kernel_rfl) (by omega) (Sl.some_ (hb.step hst_18) (k := k) (by omega))
          refine WR.v (v := .agg #[.int .i64 (gt b k).dot.s, .int .i64 (gt b k).dot.n, .slice (slA B_17 Ab (k * 5 + 2)) (gt b k).past.length (slC B_17 Ab (k * 5 + 2)), .bool (gt b k).gone, .string (gt b k).val]) rfl rfl rfl ?_ ?_
          · refine QV.qo ?_; exact q_load_agg (A := Ab) (j := k * 5) (vs := [.int .i64 (gt b k).dot.s, .int .i64 (gt b k).dot.n, .slice (slA B_17 Ab (k * 5 + 2)) (gt b k).past.length (slC B_17 Ab (k * 5 + 2)), .bool (gt b k).gone, .string (gt b k).val]) rfl Try.isAgg58 Try.sizeOf58 (by kernel_rfl) (Sl.some_ (hb.step hst_18) (k := k) (by omega)) (fun q hq => match q, hq with | 0, _ => Sl.verT_0 (hb.step hst_18) (i := k) (by omega) | 1, _ => Sl.verT_1 (hb.step hst_18) (i := k) (by omega) | 2, _ => Sl.verT_2 (hb.step hst_18) (i := k) (by omega) | 3, _ => Sl.verT_3 (hb.step hst_18) (i := k) (by omega) | 4, _ => Sl.verT_4 (hb.step hst_18) (i := k) (by omega))
          refine WR.sub (C' := CC no w0 X_16 B_17 ([[(g_1, .cells #[.slice Aa a.length ca] 40 (0, 0))], [(g_2, .cells #[.slice Ab b.length cb] 40 (0, 0))], [(g_13, .cells #[.slice A_out14 out.length c_out14] 40 (0, 0))], row_out14] ++ [])) (fun w hw => hw.permL (((List.perm_middle (l₁ := ([[(g_2, .cells #[.slice Ab b.length cb] 40 (0, 0))], [(g_13, .cells #[.slice A_out14 out.length c_out14] 40 (0, 0))], row_out14] : List Rowb)) (a := ([(g_1, .cells #[.slice Aa a.length ca] 40 (0, 0))] : Rowb)) (l₂ := ([] : List Rowb))).symm).trans (((List.perm_middle (l₁ := ([[(g_13, .cells #[.slice A_out14 out.length c_out14] 40 (0, 0))], row_out14] : List Rowb)) (a := ([(g_2, .cells #[.slice Ab b.length cb] 40 (0, 0))] : Rowb)) (l₂ := ([[(g_1, .cells #[.slice Aa a.length ca] 40 (0, 0))]] : List Rowb))).symm).trans (List.perm_middle (l₁ := ([row_out14] : List Rowb)) (a := ([(g_13, .cells #[.slice A_out14 out.length c_out14] 40 (0, 0))] : Rowb)) (l₂ := ([[(g_2, .cells #[.slice Ab b.length cb] 40 (0, 0))], [(g_1, .cells #[.slice Aa a.length ca] 40 (0, 0))]] : List Rowb))).symm))) ?_
          refine e_call_eff (U := [[(g_1, .cells #[.slice Aa a.length ca] 40 (0, 0))], [(g_2, .cells #[.slice Ab b.length cb] 40 (0, 0))], [(g_13, .cells #[.slice A_out14 out.length c_out14] 40 (0, 0))], row_out14]) (R := []) (args := #[.agg #[.int .i64 (gt b k).dot.s, .int .i64 (gt b k).dot.n, .slice (slA B_17 Ab (k * 5 + 2)) (gt b k).past.length (slC B_17 Ab (k * 5 + 2)), .bool (gt b k).gone, .string (gt b k).val], .pointer (some ⟨g_1, 0, none⟩), .pointer (some ⟨g_2, 0, none⟩), .pointer (some ⟨g_13, 0, none⟩)]) (f := 59) (Res := vers_keep_ok_res ((gt b k)) g_1 Aa ca (a) g_2 Ab cb (b) g_13 (out)) rfl rfl (fun w => call_run_fv (caps := #[.pointer (some ⟨g_1, 0, none⟩), .pointer (some ⟨g_2, 0, none⟩), .pointer (some ⟨g_13, 0, none⟩)]) Try.call59 rfl (by kernel_rfl) (by first | kernel_rfl | (rw [(by kernel_rfl)]; rfl)) w) hxl_20 (X0 := X) hxx_19 (fun w X' hs_ hl_ hp_ => vers_keep_ok w X' (slA B_17 Ab (k * 5 + 2)) (slC B_17 Ab (k * 5 + 2)) ((gt b k)) (Ver.fits_step (Sl.verT_fits (hb.step hst_18) (i := k) (by omega)) hs_) g_1 Aa ca (a) (Sl.step (ha.step hst_18) hs_) hca g_2 Ab cb (b) (Sl.step (hb.step hst_18) hs_) hcb g_13 row_out14 A_out14 c_out14 (out) (Own.step ho_out14 hs_) (by omega) hp_ hl_) ?_
          intro X_83 B_84 U' v hst_85 hxx_86 hxl_87 hres
          obtain ⟨row_88, A_89, c_90, rfl, rfl, hown_91, _⟩ := hres
          have hown_91l := hown_91.le_
          have hf_93 := ((Sl.verT_fits (hb.step hst_18) (i := k) (by omega)).2.2.1.1)
          have hf_94 := ((Sl.verT_fits (hb.step hst_18) (i := k) (by omega)).2.2.1.2).step hst_85
          change WR _ _ _ (CC _ _ X_83 B_84 [[(g_1, .cells #[.slice Aa a.length ca] 40 (0, 0))], [(g_2, .cells #[.slice Ab b.length cb] 40 (0, 0))], [(g_13, .cells #[.slice A_89 (vsKeep ((gt b k)) (a) (b) (out)).length c_90] 40 (0, 0))], row_88]) _ _ _
          refine WR.nil ?_
          change WC _ _ _ _ _ _
          refine WC.region ?_
          refine WR.v (v := .int .i64 ((k : Nat) : Int)) rfl rfl rfl ?_ ?_
          · refine QV.qo ?_; exact q_move rfl h14_10
          refine WR.v (v := .int .i64 ((k + 1 : Nat) : Int)) rfl rfl rfl ?_ ?_
          · refine QV.qo ?_; exact q_add (k := .i64) (a := ((k : Nat) : Int)) (b := 1) (r := ((k + 1 : Nat) : Int)) rfl (by kernel_rfl) (by kernel_rfl) (wr64 (by omega) (by omega))
          refine WR.v (v := .int .i64 ((k + 1 : Nat) : Int)) rfl rfl rfl ?_ ?_
          · refine QV.qo ?_; exact q_assign rfl (by kernel_rfl)
          refine WR.nil ?_
          intro w hw
          refine ⟨_, ?_, twin, i, k + 1, (vsKeep ((gt b k)) (a) (b) (out)), row_88, A_89, c_90, X_83, B_84, rfl, (by first | trivial | omega), ?_, (by omega), (by have q1 := vsKeep_len (gt a i) a b out; have q2 := vsKeep_len (gt b k) a b out; omega), ⟨h14_2, h14_3, h14_6, h14_7, h14_8, h14_9, by kernel_rfl⟩, (hst_18.trans hst_85), hxx_86, hxl_87, hown_91, (hw.permL (((List.perm_middle (l₁ := ([[(g_13, .cells #[.slice A_89 (vsKeep ((gt b k)) (a) (b) (out)).length c_90] 40 (0, 0))], [(g_2, .cells #[.slice Ab b.length cb] 40 (0, 0))], [(g_1, .cells #[.slice Aa a.length ca] 40 (0, 0))]] : List Rowb)) (a := (row_88 : Rowb)) (l₂ := ([] : List Rowb))).symm).trans (((List.perm_middle (l₁ := ([[(g_2, .cells #[.slice Ab b.length cb] 40 (0, 0))], [(g_1, .cells #[.slice Aa a.length ca] 40 (0, 0))]] : List Rowb)) (a := ([(g_13, .cells #[.slice A_89 (vsKeep ((gt b k)) (a) (b) (out)).length c_90] 40 (0, 0))] : Rowb)) (l₂ := ([row_88] : List Rowb))).symm).trans (List.perm_middle (l₁ := ([[(g_1, .cells #[.slice Aa a.length ca] 40 (0, 0))]] : List Rowb)) (a := ([(g_2, .cells #[.slice Ab b.length cb] 40 (0, 0))] : Rowb)) (l₂ := ([[(g_13, .cells #[.slice A_89 (vsKeep ((gt b k)) (a) (b) (out)).length c_90] 40 (0, 0))], row_88] : List Rowb))).symm)))⟩
          · omega
          · exact hrel14.trans (vsGo_b (by omega) (by omega) hb_44f hb_70f)
    · skip
      intro hb_26f
      have hp_95 := of_decide_eq_false (or_l hb_26f)
      have hp_96 := of_decide_eq_false (or_r hb_26f)
      refine WC.exit ?_
      change WC _ _ _ _ _ _
      refine WC.seq ?_
      refine WC.block ?_
      refine WC.seq ?_
      refine WC.region ?_
      refine WR.v (v := .bool twin) rfl rfl rfl ?_ ?_
      · refine QV.qo ?_; exact q_move rfl h14_8
      refine WR.v (v := .bool twin) rfl rfl rfl ?_ ?_
      · refine QV.qo ?_; exact q_assign rfl (by kernel_rfl)
      refine WR.nil ?_
      change WC _ _ _ _ _ _
      refine WC.cond (b := twin) (by kernel_rfl) ?_ ?_
      · skip
        intro hb_97t
        refine WC.seq ?_
        refine WC.region ?_
        refine WR.v (v := .slice none 0 0) rfl rfl rfl ?_ ?_
        · refine QV.qo ?_; exact q_assign rfl (by kernel_rfl)
        refine WR.v (v := .int .i64 50) rfl rfl rfl ?_ ?_
        · refine QV.qo ?_; exact q_assign rfl (by kernel_rfl)
        refine WR.nil ?_
        change WC _ _ _ _ _ _
        refine WC.ret ?_
        intro w hw
        have hm_98 : [] = (vsMerge a b).1 := by
          have hg := hrel14
          rw [List.drop_of_length_le (Nat.le_of_not_lt (by omega)), List.drop_of_length_le (Nat.le_of_not_lt (by omega)), show (a.length - i) + (b.length - k) = 0 by omega] at hg
          simp only [vsGo] at hg
          unfold vsMerge
          rw [hg]
          first | (simp only [hb_6f, hb_26f, hb_97t, Bool.not_true, Bool.not_false, Bool.and_false, Bool.false_and, Bool.and_true, Bool.true_and, Bool.or_true, Bool.true_or, Bool.or_false, Bool.false_or, cond_true, cond_false]; done) | (simp [hb_6f, hp_9, hp_10, hp_11, hp_12, hb_26f, hp_95, hp_96, hb_97t]; done)
        have hm_99 : 50 = (vsMerge a b).2 := by
          have hg := hrel14
          rw [List.drop_of_length_le (Nat.le_of_not_lt (by omega)), List.drop_of_length_le (Nat.le_of_not_lt (by omega)), show (a.length - i) + (b.length - k) = 0 by omega] at hg
          simp only [vsGo] at hg
          unfold vsMerge
          rw [hg]
          first | (simp only [hb_6f, hb_26f, hb_97t, Bool.not_true, Bool.not_false, Bool.and_false, Bool.false_and, Bool.and_true, Bool.true_and, Bool.or_true, Bool.true_or, Bool.or_false, Bool.false_or, cond_true, cond_false]; done) | (simp [hb_6f, hp_9, hp_10, hp_11, hp_12, hb_26f, hp_95, hp_96, hb_97t]; done)
        refine ⟨_, rfl, ?_, hw.frE⟩
        unfold vers_Merge_ok_res
        rw [← hm_98, ← hm_99]
        exact ⟨none, 0, (by kernel_rfl), Sl.nil _ _ _ _, Nat.zero_le _⟩
      · skip
        intro hb_97f
        refine WC.seq ?_
        refine WC.region ?_
        refine WR.v (v := .slice A_out14 out.length c_out14) rfl rfl rfl ?_ ?_
        · refine QV.qo ?_; exact q_load_loc (i := 1) (g := g_13) (j := 0) (v := .slice A_out14 out.length c_out14) rfl Try.isAgg40 h14_6 rfl rfl
        refine WR.v (v := .int .i64 ((out.length : Nat) : Int)) rfl rfl rfl ?_ ?_
        · refine QV.qo ?_; exact q_len_slice (A := A_out14) (n := out.length) (c := c_out14) rfl Try.underlying40 (by kernel_rfl)
        refine WR.v (v := .bool (decide (512 < ((out.length : Nat) : Int)))) rfl rfl rfl ?_ ?_
        · refine QV.qo ?_; exact q_gtr (k := .i64) (a := ((out.length : Nat) : Int)) (b := 512) rfl (by kernel_rfl) (by kernel_rfl)
        refine WR.v (v := .bool (decide (512 < ((out.length : Nat) : Int)))) rfl rfl rfl ?_ ?_
        · refine QV.qo ?_; exact q_assign rfl (by kernel_rfl)
        refine WR.nil ?_
        change WC _ _ _ _ _ _
        refine WC.cond (b := (decide (512 < ((out.length : Nat) : Int)))) (by kernel_rfl) ?_ ?_
        · skip
          intro hb_100t
          have hp_101 := of_decide_eq_true hb_100t
          refine WC.seq ?_
          refine WC.region ?_
          refine WR.v (v := .slice none 0 0) rfl rfl rfl ?_ ?_
          · refine QV.qo ?_; exact q_assign rfl (by kernel_rfl)
          refine WR.v (v := .int .i64 3) rfl rfl rfl ?_ ?_
          · refine QV.qo ?_; exact q_assign rfl (by kernel_rfl)
          refine WR.nil ?_
          change WC _ _ _ _ _ _
          refine WC.ret ?_
          intro w hw
          have hm_102 : [] = (vsMerge a b).1 := by
            have hg := hrel14
            rw [List.drop_of_length_le (Nat.le_of_not_lt (by omega)), List.drop_of_length_le (Nat.le_of_not_lt (by omega)), show (a.length - i) + (b.length - k) = 0 by omega] at hg
            simp only [vsGo] at hg
            unfold vsMerge
            rw [hg]
            first | (simp only [hb_6f, hb_26f, hb_97f, hb_100t, Bool.not_true, Bool.not_false, Bool.and_false, Bool.false_and, Bool.and_true, Bool.true_and, Bool.or_true, Bool.true_or, Bool.or_false, Bool.false_or, cond_true, cond_false]; done) | (simp [hb_6f, hp_9, hp_10, hp_11, hp_12, hb_26f, hp_95, hp_96, hb_97f, hb_100t, hp_101]; done)
          have hm_103 : 3 = (vsMerge a b).2 := by
            have hg := hrel14
            rw [List.drop_of_length_le (Nat.le_of_not_lt (by omega)), List.drop_of_length_le (Nat.le_of_not_lt (by omega)), show (a.length - i) + (b.length - k) = 0 by omega] at hg
            simp only [vsGo] at hg
            unfold vsMerge
            rw [hg]
            first | (simp only [hb_6f, hb_26f, hb_97f, hb_100t, Bool.not_true, Bool.not_false, Bool.and_false, Bool.false_and, Bool.and_true, Bool.true_and, Bool.or_true, Bool.true_or, Bool.or_false, Bool.false_or, cond_true, cond_false]; done) | (simp [hb_6f, hp_9, hp_10, hp_11, hp_12, hb_26f, hp_95, hp_96, hb_97f, hb_100t, hp_101]; done)
          refine ⟨_, rfl, ?_, hw.frE⟩
          unfold vers_Merge_ok_res
          rw [← hm_102, ← hm_103]
          exact ⟨none, 0, (by kernel_rfl), Sl.nil _ _ _ _, Nat.zero_le _⟩
        · skip
          intro hb_100f
          have hp_104 := of_decide_eq_false hb_100f
          refine WC.skip ?_
          change WC _ _ _ _ _ _
          refine WC.seq ?_
          refine WC.region ?_
          refine WR.v (v := .slice A_out14 out.length c_out14) rfl rfl rfl ?_ ?_
          · refine QV.qo ?_; exact q_load_loc (i := 1) (g := g_13) (j := 0) (v := .slice A_out14 out.length c_out14) rfl Try.isAgg40 h14_6 rfl rfl
          refine WR.v (v := .slice A_out14 out.length c_out14) rfl rfl rfl ?_ ?_
          · refine QV.qo ?_; exact q_assign rfl (by kernel_rfl)
          refine WR.v (v := .int .i64 0) rfl rfl rfl ?_ ?_
          · refine QV.qo ?_; exact q_assign rfl (by kernel_rfl)
          refine WR.nil ?_
          change WC _ _ _ _ _ _
          refine WC.ret ?_
          intro w hw
          have hm_105 : out = (vsMerge a b).1 := by
            have hg := hrel14
            rw [List.drop_of_length_le (Nat.le_of_not_lt (by omega)), List.drop_of_length_le (Nat.le_of_not_lt (by omega)), show (a.length - i) + (b.length - k) = 0 by omega] at hg
            simp only [vsGo] at hg
            unfold vsMerge
            rw [hg]
            first | (simp only [hb_6f, hb_26f, hb_97f, hb_100f, Bool.not_true, Bool.not_false, Bool.and_false, Bool.false_and, Bool.and_true, Bool.true_and, Bool.or_true, Bool.true_or, Bool.or_false, Bool.false_or, cond_true, cond_false]; done) | (simp [hb_6f, hp_9, hp_10, hp_11, hp_12, hb_26f, hp_95, hp_96, hb_97f, hb_100f, hp_104]; done)
          have hm_106 : 0 = (vsMerge a b).2 := by
            have hg := hrel14
            rw [List.drop_of_length_le (Nat.le_of_not_lt (by omega)), List.drop_of_length_le (Nat.le_of_not_lt (by omega)), show (a.length - i) + (b.length - k) = 0 by omega] at hg
            simp only [vsGo] at hg
            unfold vsMerge
            rw [hg]
            first | (simp only [hb_6f, hb_26f, hb_97f, hb_100f, Bool.not_true, Bool.not_false, Bool.and_false, Bool.false_and, Bool.and_true, Bool.true_and, Bool.or_true, Bool.true_or, Bool.or_false, Bool.false_or, cond_true, cond_false]; done) | (simp [hb_6f, hp_9, hp_10, hp_11, hp_12, hb_26f, hp_95, hp_96, hb_97f, hb_100f, hp_104]; done)
          refine ⟨_, rfl, ?_, hw.frE⟩
          unfold vers_Merge_ok_res
          rw [← hm_105, ← hm_106]
          exact ⟨A_out14, c_out14, (by kernel_rfl), Own.sl ho_out14 (hw.st0.trans (St.less hxx_19)) (hw.loc row_out14 (by simp)) (hw.fresh (by simp) hX), Own.capz ho_out14⟩

def slices_Clone_ok_res (l : (List Int)) (Xr : Nat → Prop) (wr : World) (vr : Value) : Prop := ∃ A0 c0, vr = .slice A0 (l).length c0 ∧ Sl intT Xr wr A0 (l) ∧ (l).length ≤ c0
set_option maxRecDepth 100000 in
set_option maxHeartbeats 1000000 in
theorem slices_Clone_ok (w0 : World) (X : Nat → Prop) (Al : Option Addr) (cl : Nat) (l : (List Int)) (hl : Sl intT X w0 Al l) (hcl : l.length ≤ cl) (hX : ∀ k, X k → k < w0.heap.size) : Calls Try.prog 57 #[.slice Al l.length cl] w0 fun e w' => ∃ vr, e = .returned vr ∧ slices_Clone_ok_res l X w' vr ∧ Fr no w0 w' := by
  have hll := hl.le_
  refine calls_of (N := 8) (rs := [2]) (args := [.slice Al l.length cl]) Try.func57 rfl Try.ntmps57 Try.results57 rfl ?_
  refine WC.here (C := CC no w0 X w0 []) ?_ (Cur.start w0 X)
  refine WC.seq ?_
  refine WC.region ?_
  refine WR.v (v := .slice none 0 0) rfl rfl rfl ?_ ?_
  · refine QV.qo ?_; exact q_assign rfl (by kernel_rfl)
  refine WR.nil ?_
  change WC _ _ _ _ _ _
  refine WC.seq ?_
  refine WC.seq ?_
  refine WC.region ?_
  refine WR.v (v := .slice Al l.length cl) rfl rfl rfl ?_ ?_
  · refine QV.qo ?_; exact q_move rfl (by kernel_rfl)
  refine WR.v (v := .bool (Option.isNone Al)) rfl rfl rfl ?_ ?_
  · refine QV.qo ?_; exact q_nil_slice (A := Al) (n := l.length) (c := cl) (m := 0) (q := 0) Try.underlying22 rfl (by kernel_rfl) (by kernel_rfl)
  refine WR.nil ?_
  change WC _ _ _ _ _ _
  refine WC.cond (b := (Option.isNone Al)) (by kernel_rfl) ?_ ?_
  · skip
    intro hb_1t
    refine WC.seq ?_
    refine WC.region ?_
    refine WR.v (v := .slice none 0 0) rfl rfl rfl ?_ ?_
    · refine QV.qo ?_; exact q_assign rfl (by kernel_rfl)
    refine WR.nil ?_
    change WC _ _ _ _ _ _
    refine WC.ret ?_
    intro w hw
    have hm_2 : [] = l := by
      cases l with
      | nil => rfl
      | cons x l => have h9 := Sl.some_ hl (k := 0) (by simp); simp_all
    refine ⟨_, rfl, ?_, hw.frE⟩
    unfold slices_Clone_ok_res
    rw [← hm_2]
    exact ⟨none, 0, (by kernel_rfl), Sl.nil _ _ _ _, Nat.zero_le _⟩
  · skip
    intro hb_1f
    refine WC.skip ?_
    change WC _ _ _ _ _ _
    refine WC.seq ?_
    refine WC.region ?_
    refine e_buildSlice (cs := #[]) (e := 3) rfl rfl rfl rfl (fun w => by kernel_rfl) ?_
    intro g_3 hg_3 hg_3e
    change WR _ _ _ (CC _ _ _ _ [[(g_3, .cells #[] 3 (0, 0))]]) _ _ _
    refine WR.v (v := .slice Al l.length cl) rfl rfl rfl ?_ ?_
    · refine QV.qo ?_; exact q_move rfl (by kernel_rfl)
    have hown_4 : Own intT X w0 3 [(g_3, .cells #[] 3 (0, 0))] (some ⟨g_3, 0, none⟩) 0 ([] : List Int) := Own.of_block (T := intT) (X := X) (B := w0) (ys := ([] : List Int)) [] rfl rfl (by simp only [List.length_cons, List.length_nil, lim_eq]; omega) (fun i h => absurd h (by simp))
    refine e_append (T := intT) (xs := ([] : List Int)) (ys := l) (A := (some ⟨g_3, 0, none⟩)) (c := 0) (A2 := Al) (c2 := cl) (i := 0) (row := [(g_3, .cells #[] 3 (0, 0))]) elem_22 rfl rfl rfl rfl (by kernel_rfl) (by kernel_rfl) rfl hown_4 (by have hsl := Sl.le_ hl; simp only [lim_eq, List.length_append, List.length_cons, List.length_nil, List.length_take, List.length_drop] at *; omega) (fun w hw => src_sl hl hw) ?_
    intro row_6 A_7 c_8 hown_9
    have hown_9l := hown_9.le_
    change WR _ _ _ (CC _ _ X w0 [row_6]) _ _ _
    refine WR.v (v := .slice A_7 (([] : List Int) ++ l).length c_8) rfl rfl rfl ?_ ?_
    · refine QV.qo ?_; exact q_assign rfl (by kernel_rfl)
    refine WR.nil ?_
    change WC _ _ _ _ _ _
    refine WC.ret ?_
    intro w hw
    have hm_11 : (([] : List Int) ++ l) = l := by
      rfl
    refine ⟨_, rfl, ?_, hw.frE⟩
    unfold slices_Clone_ok_res
    rw [← hm_11]
    exact ⟨A_7, c_8, (by kernel_rfl), Own.sl hown_9 hw.st0 (hw.loc row_6 (by simp)) (hw.fresh (by simp) hX), Own.capz hown_9⟩

set_option maxRecDepth 100000 in
set_option maxHeartbeats 1000000 in
theorem vers_Same_ok (w0 : World) (X : Nat → Prop) (Aa : Option Addr) (ca : Nat) (a : (List Ver)) (ha : Sl verT X w0 Aa a) (hca : a.length ≤ ca) (Ab : Option Addr) (cb : Nat) (b : (List Ver)) (hb : Sl verT X w0 Ab b) (hcb : b.length ≤ cb) (hX : ∀ k, X k → k < w0.heap.size) : Calls Try.prog 65 #[.slice Aa a.length ca, .slice Ab b.length cb] w0 fun e w' => e = .returned (.bool (vsSameL a b)) ∧ Fr no w0 w' := by
  have hal := ha.le_
  have hbl := hb.le_
  refine calls_of (N := 30) (rs := [4]) (args := [.slice Aa a.length ca, .slice Ab b.length cb]) Try.func65 rfl Try.ntmps65 Try.results65 rfl ?_
  refine WC.here (C := CC no w0 X w0 []) ?_ (Cur.start w0 X)
  refine WC.seq ?_
  refine WC.region ?_
  refine WR.v (v := .bool false) rfl rfl rfl ?_ ?_
  · refine QV.qo ?_; exact q_assign rfl (by kernel_rfl)
  refine WR.nil ?_
  change WC _ _ _ _ _ _
  refine WC.seq ?_
  refine WC.seq ?_
  refine WC.region ?_
  refine WR.v (v := .slice Aa a.length ca) rfl rfl rfl ?_ ?_
  · refine QV.qo ?_; exact q_move rfl (by kernel_rfl)
  refine WR.v (v := .int .i64 ((a.length : Nat) : Int)) rfl rfl rfl ?_ ?_
  · refine QV.qo ?_; exact q_len_slice (A := Aa) (n := a.length) (c := ca) rfl Try.underlying40 (by kernel_rfl)
  refine WR.v (v := .slice Ab b.length cb) rfl rfl rfl ?_ ?_
  · refine QV.qo ?_; exact q_move rfl (by kernel_rfl)
  refine WR.v (v := .int .i64 ((b.length : Nat) : Int)) rfl rfl rfl ?_ ?_
  · refine QV.qo ?_; exact q_len_slice (A := Ab) (n := b.length) (c := cb) rfl Try.underlying40 (by kernel_rfl)
  refine WR.v (v := .int .i64 (min ((a.length : Nat) : Int) ((b.length : Nat) : Int))) rfl rfl rfl ?_ ?_
  · refine QV.qo ?_; exact q_min (k := .i64) (a := ((a.length : Nat) : Int)) (b := ((b.length : Nat) : Int)) rfl (by kernel_rfl) (by kernel_rfl)
  refine WR.v (v := .int .i64 0) rfl rfl rfl ?_ ?_
  · refine QV.qo ?_; exact q_move rfl (by kernel_rfl)
  refine WR.nil ?_
  change WC _ _ _ _ _ _
  refine WC.block ?_
  refine WC.loop (fun (m : Nat) (σ : Env) (w1 : World) => ∃ (k1 : Nat)   , m = min a.length b.length - k1 ∧ (k1 ≤ min a.length b.length) ∧ (allFrom (fun k => vsSame (gt a k) (gt b k)) 0 (min a.length b.length) = allFrom (fun k => vsSame (gt a k) (gt b k)) k1 (min a.length b.length)) ∧ (σ 0 = .slice Aa a.length ca ∧ σ 1 = .slice Ab b.length cb ∧ σ 10 = .int .i64 (min ((a.length : Nat) : Int) ((b.length : Nat) : Int)) ∧ σ 11 = .int .i64 ((k1 : Nat) : Int)) ∧ CC no w0 X w0 [] w1) ?_ ?_
  · intro w1 hw
    exact ⟨_, 0, rfl, (by first | trivial | omega), rfl, ⟨by kernel_rfl, by kernel_rfl, by kernel_rfl, by kernel_rfl⟩, hw⟩
  intro m1 σ1 w1 hI
  obtain ⟨k1, rfl, hk1, hrel1, ⟨h1_0, h1_1, h1_10, h1_11⟩, hw⟩ := hI
  refine WC.here (C := CC no w0 X w0 []) ?_ hw
  clear hw
  refine WC.seq ?_
  refine WC.region ?_
  refine WR.v (v := .bool (decide (((k1 : Nat) : Int) < (min ((a.length : Nat) : Int) ((b.length : Nat) : Int))))) rfl rfl rfl ?_ ?_
  · refine QV.qo ?_; exact q_lss (k := .i64) (a := ((k1 : Nat) : Int)) (b := (min ((a.length : Nat) : Int) ((b.length : Nat) : Int))) rfl h1_11 h1_10
  refine WR.nil ?_
  change WC _ _ _ _ _ _
  refine WC.seq ?_
  refine WC.cond (b := (decide (((k1 : Nat) : Int) < (min ((a.length : Nat) : Int) ((b.length : Nat) : Int))))) (by kernel_rfl) ?_ ?_
  · skip
    intro hb_5t
    have hp_6 := of_decide_eq_true hb_5t
    refine WC.skip ?_
    change WC _ _ _ _ _ _
    refine WC.seq ?_
    refine WC.block ?_
    refine WC.seq ?_
    refine WC.region ?_
    refine WR.v (v := .int .i64 ((k1 : Nat) : Int)) rfl rfl rfl ?_ ?_
    · refine QV.qo ?_; exact q_move rfl h1_11
    refine WR.v (v := .int .i64 ((k1 : Nat) : Int)) rfl rfl rfl ?_ ?_
    · refine QV.qo ?_; exact q_assign rfl (by kernel_rfl)
    refine WR.nil ?_
    change WC _ _ _ _ _ _
    refine WC.seq ?_
    refine WC.draw (by kernel_rfl) (by kernel_rfl) (fun w hw => hw.drawn _) ?_
    refine WQ.v (v := .slice Aa a.length ca) rfl rfl rfl ?_ ?_
    · refine QV.qo ?_; exact q_move rfl h1_0
    refine WQ.v (v := .int .i64 ((k1 : Nat) : Int)) rfl rfl rfl ?_ ?_
    · refine QV.qo ?_; exact q_move rfl (by kernel_rfl)
    refine WQ.v (v := ptrAt Aa (k1 * 5)) rfl rfl rfl ?_ ?_
    · refine QV.qo ?_; exact q_index_addr (k := .i64) (A := Aa) (n := a.length) (c := ca) (i := k1) rfl Try.underlying40 Try.sizeOf58 (by kernel_rfl) (by kernel_rfl) (by omega) (Sl.some_ ha (k := k1) (by omega))
    refine WQ.v (v := .agg #[.int .i64 (gt a k1).dot.s, .int .i64 (gt a k1).dot.n, .slice (slA w0 Aa (k1 * 5 + 2)) (gt a k1).past.length (slC w0 Aa (k1 * 5 + 2)), .bool (gt a k1).gone, .string (gt a k1).val]) rfl rfl rfl ?_ ?_
    · refine QV.qo ?_; exact q_load_agg (A := Aa) (j := k1 * 5) (vs := [.int .i64 (gt a k1).dot.s, .int .i64 (gt a k1).dot.n, .slice (slA w0 Aa (k1 * 5 + 2)) (gt a k1).past.length (slC w0 Aa (k1 * 5 + 2)), .bool (gt a k1).gone, .string (gt a k1).val]) rfl Try.isAgg58 Try.sizeOf58 (by kernel_rfl) (Sl.some_ ha (k := k1) (by omega)) (fun q hq => match q, hq with | 0, _ => Sl.verT_0 ha (i := k1) (by omega) | 1, _ => Sl.verT_1 ha (i := k1) (by omega) | 2, _ => Sl.verT_2 ha (i := k1) (by omega) | 3, _ => Sl.verT_3 ha (i := k1) (by omega) | 4, _ => Sl.verT_4 ha (i := k1) (by omega))
    refine WQ.v (v := .slice Ab b.length cb) rfl rfl rfl ?_ ?_
    · refine QV.qo ?_; exact q_move rfl h1_1
    refine WQ.v (v := .int .i64 ((k1 : Nat) : Int)) rfl rfl rfl ?_ ?_
    · refine QV.qo ?_; exact q_move rfl (by kernel_rfl)
    refine WQ.v (v := ptrAt Ab (k1 * 5)) rfl rfl rfl ?_ ?_
    · refine QV.qo ?_; exact q_index_addr (k := .i64) (A := Ab) (n := b.length) (c := cb) (i := k1) rfl Try.underlying40 Try.sizeOf58 (by kernel_rfl) (by kernel_rfl) (by omega) (Sl.some_ hb (k := k1) (by omega))
    refine WQ.v (v := .agg #[.int .i64 (gt b k1).dot.s, .int .i64 (gt b k1).dot.n, .slice (slA w0 Ab (k1 * 5 + 2)) (gt b k1).past.length (slC w0 Ab (k1 * 5 + 2)), .bool (gt b k1).gone, .string (gt b k1).val]) rfl rfl rfl ?_ ?_
    · refine QV.qo ?_; exact q_load_agg (A := Ab) (j := k1 * 5) (vs := [.int .i64 (gt b k1).dot.s, .int .i64 (gt b k1).dot.n, .slice (slA w0 Ab (k1 * 5 + 2)) (gt b k1).past.length (slC w0 Ab (k1 * 5 + 2)), .bool (gt b k1).gone, .string (gt b k1).val]) rfl Try.isAgg58 Try.sizeOf58 (by kernel_rfl) (Sl.some_ hb (k := k1) (by omega)) (fun q hq => match q, hq with | 0, _ => Sl.verT_0 hb (i := k1) (by omega) | 1, _ => Sl.verT_1 hb (i := k1) (by omega) | 2, _ => Sl.verT_2 hb (i := k1) (by omega) | 3, _ => Sl.verT_3 hb (i := k1) (by omega) | 4, _ => Sl.verT_4 hb (i := k1) (by omega))
    refine WQ.v (v := .bool (vsSame (gt a k1) (gt b k1))) rfl rfl rfl ?_ ?_
    · exact q_call (args := #[.agg #[.int .i64 (gt a k1).dot.s, .int .i64 (gt a k1).dot.n, .slice (slA w0 Aa (k1 * 5 + 2)) (gt a k1).past.length (slC w0 Aa (k1 * 5 + 2)), .bool (gt a k1).gone, .string (gt a k1).val], .agg #[.int .i64 (gt b k1).dot.s, .int .i64 (gt b k1).dot.n, .slice (slA w0 Ab (k1 * 5 + 2)) (gt b k1).past.length (slC w0 Ab (k1 * 5 + 2)), .bool (gt b k1).gone, .string (gt b k1).val]]) Try.call63 rfl (by kernel_rfl) (fun w hw => vers_same_ok w no (slA w0 Aa (k1 * 5 + 2)) (slC w0 Aa (k1 * 5 + 2)) ((gt a k1)) (Ver.fits_step (Sl.verT_fits ha (i := k1) (by omega)) (hw.st0.trans (St.to_no _ _))) (slA w0 Ab (k1 * 5 + 2)) (slC w0 Ab (k1 * 5 + 2)) ((gt b k1)) (Ver.fits_step (Sl.verT_fits hb (i := k1) (by omega)) (hw.st0.trans (St.to_no _ _))) (fun _ h => h.elim))
    refine WQ.v (v := .bool (!(vsSame (gt a k1) (gt b k1)))) rfl rfl rfl ?_ ?_
    · refine QV.qo ?_; exact q_not (g := (vsSame (gt a k1) (gt b k1))) rfl (by kernel_rfl)
    refine WQ.nil ?_
    change WC _ _ _ _ _ _
    refine WC.cond (b := (!(vsSame (gt a k1) (gt b k1)))) (by kernel_rfl) ?_ ?_
    · skip
      intro hb_7t
      have hp_8 := (not_t hb_7t)
      refine WC.seq ?_
      refine WC.region ?_
      refine WR.v (v := .bool false) rfl rfl rfl ?_ ?_
      · refine QV.qo ?_; exact q_assign rfl (by kernel_rfl)
      refine WR.nil ?_
      change WC _ _ _ _ _ _
      refine WC.ret ?_
      intro w hw
      refine ⟨congrArg Ending.returned (congrArg (Value.bool) ?_), hw.frE⟩
      show false = vsSameL a b
      unfold vsSameL; rw [hrel1]; first | (rw [allFrom_step (by omega)]; first | (simp only [hb_5t, hb_7t, Bool.not_true, Bool.not_false, Bool.and_false, Bool.false_and, Bool.and_true, Bool.true_and, Bool.or_true, Bool.true_or, Bool.or_false, Bool.false_or, cond_true, cond_false]; done) | (simp [hb_5t, hp_6, hb_7t, hp_8]; done); done) | (rw [allFrom_end (by omega)]; first | (simp only [hb_5t, hb_7t, Bool.not_true, Bool.not_false, Bool.and_false, Bool.false_and, Bool.and_true, Bool.true_and, Bool.or_true, Bool.true_or, Bool.or_false, Bool.false_or, cond_true, cond_false]; done) | (simp [hb_5t, hp_6, hb_7t, hp_8]; done))
    · skip
      intro hb_7f
      have hp_9 := (not_f hb_7f)
      refine WC.skip ?_
      change WC _ _ _ _ _ _
      refine WC.region ?_
      refine WR.v (v := .int .i64 ((k1 + 1 : Nat) : Int)) rfl rfl rfl ?_ ?_
      · refine QV.qo ?_; exact q_add (k := .i64) (a := ((k1 : Nat) : Int)) (b := 1) (r := ((k1 + 1 : Nat) : Int)) rfl h1_11 (by kernel_rfl) (wr64 (by omega) (by omega))
      refine WR.v (v := .int .i64 ((k1 + 1 : Nat) : Int)) rfl rfl rfl ?_ ?_
      · refine QV.qo ?_; exact q_move rfl (by kernel_rfl)
      refine WR.nil ?_
      intro w hw
      refine ⟨_, ?_, k1 + 1, rfl, (by first | trivial | omega), ?_, ⟨h1_0, h1_1, h1_10, by kernel_rfl⟩, hw⟩
      · omega
      · rw [hrel1, allFrom_step (by omega)]; first | (simp only [hb_5t, hb_7f, Bool.not_true, Bool.not_false, Bool.and_false, Bool.false_and, Bool.and_true, Bool.true_and, Bool.or_true, Bool.true_or, Bool.or_false, Bool.false_or, cond_true, cond_false]; done) | (simp [hb_5t, hp_6, hb_7f, hp_9]; done)
  · skip
    intro hb_5f
    have hp_10 := of_decide_eq_false hb_5f
    refine WC.exit ?_
    change WC _ _ _ _ _ _
    refine WC.seq ?_
    refine WC.region ?_
    refine WR.v (v := .slice Aa a.length ca) rfl rfl rfl ?_ ?_
    · refine QV.qo ?_; exact q_move rfl h1_0
    refine WR.v (v := .int .i64 ((a.length : Nat) : Int)) rfl rfl rfl ?_ ?_
    · refine QV.qo ?_; exact q_len_slice (A := Aa) (n := a.length) (c := ca) rfl Try.underlying40 (by kernel_rfl)
    refine WR.v (v := .slice Ab b.length cb) rfl rfl rfl ?_ ?_
    · refine QV.qo ?_; exact q_move rfl h1_1
    refine WR.v (v := .int .i64 ((b.length : Nat) : Int)) rfl rfl rfl ?_ ?_
    · refine QV.qo ?_; exact q_len_slice (A := Ab) (n := b.length) (c := cb) rfl Try.underlying40 (by kernel_rfl)
    refine WR.v (v := .bool (((a.length : Nat) : Int) == ((b.length : Nat) : Int))) rfl rfl rfl ?_ ?_
    · refine QV.qo ?_; exact q_eql (k := .i64) (a := ((a.length : Nat) : Int)) (b := ((b.length : Nat) : Int)) rfl (by kernel_rfl) (by kernel_rfl)
    refine WR.v (v := .bool (((a.length : Nat) : Int) == ((b.length : Nat) : Int))) rfl rfl rfl ?_ ?_
    · refine QV.qo ?_; exact q_assign rfl (by kernel_rfl)
    refine WR.nil ?_
    change WC _ _ _ _ _ _
    refine WC.ret ?_
    intro w hw
    refine ⟨congrArg Ending.returned (congrArg (Value.bool) ?_), hw.frE⟩
    show (((a.length : Nat) : Int) == ((b.length : Nat) : Int)) = vsSameL a b
    unfold vsSameL; rw [hrel1]; first | (rw [allFrom_step (by omega)]; first | (simp only [hb_5f, Bool.not_true, Bool.not_false, Bool.and_false, Bool.false_and, Bool.and_true, Bool.true_and, Bool.or_true, Bool.true_or, Bool.or_false, Bool.false_or, cond_true, cond_false]; done) | (simp [hb_5f, hp_10]; done); done) | (rw [allFrom_end (by omega)]; first | (simp only [hb_5f, Bool.not_true, Bool.not_false, Bool.and_false, Bool.false_and, Bool.and_true, Bool.true_and, Bool.or_true, Bool.true_or, Bool.or_false, Bool.false_or, cond_true, cond_false]; done) | (simp [hb_5f, hp_10]; done))

set_option maxRecDepth 100000 in
set_option maxHeartbeats 1000000 in
theorem vers_Lacks_ok (w0 : World) (X : Nat → Prop) (Aa : Option Addr) (ca : Nat) (a : (List Ver)) (ha : Sl verT X w0 Aa a) (hca : a.length ≤ ca) (Ab : Option Addr) (cb : Nat) (b : (List Ver)) (hb : Sl verT X w0 Ab b) (hcb : b.length ≤ cb) (hX : ∀ k, X k → k < w0.heap.size) : Calls Try.prog 47 #[.slice Aa a.length ca, .slice Ab b.length cb] w0 fun e w' => e = .returned (.bool (vsLacks a b)) ∧ Fr no w0 w' := by
  have hal := ha.le_
  have hbl := hb.le_
  refine calls_of (N := 21) (rs := [4]) (args := [.slice Aa a.length ca, .slice Ab b.length cb]) Try.func47 rfl Try.ntmps47 Try.results47 rfl ?_
  refine WC.here (C := CC no w0 X w0 []) ?_ (Cur.start w0 X)
  refine WC.seq ?_
  refine WC.region ?_
  refine WR.v (v := .bool false) rfl rfl rfl ?_ ?_
  · refine QV.qo ?_; exact q_assign rfl (by kernel_rfl)
  refine WR.nil ?_
  change WC _ _ _ _ _ _
  refine WC.seq ?_
  refine WC.region ?_
  refine WR.v (v := .slice Aa a.length ca) rfl rfl rfl ?_ ?_
  · refine QV.qo ?_; exact q_move rfl (by kernel_rfl)
  refine WR.v (v := .slice Ab b.length cb) rfl rfl rfl ?_ ?_
  · refine QV.qo ?_; exact q_move rfl (by kernel_rfl)
  refine e_call_res (args := #[.slice Aa a.length ca, .slice Ab b.length cb]) (Res := vers_Merge_ok_res (a) (b)) rfl rfl rfl Try.call41 rfl (by kernel_rfl) hX (fun w X' hs_ hl_ => vers_Merge_ok w X' Aa ca (a) (Sl.step ha hs_) hca Ab cb (b) (Sl.step hb hs_) hcb hl_) ?_
  intro X_1 B_2 v hst_3 hxx_4 hxl_5 hres
  obtain ⟨A_6, c_7, rfl, hs_8, hc_9⟩ := hres
  change WR _ _ _ (CC _ _ X_1 B_2 []) _ _ _
  refine WR.v (v := .tuple #[.slice A_6 ((vsMerge (a) (b)).1).length c_7, .int .i64 ((vsMerge (a) (b)).2)]) rfl rfl rfl ?_ ?_
  · refine QV.qo ?_; exact q_move rfl (by kernel_rfl)
  refine WR.v (v := .slice A_6 ((vsMerge (a) (b)).1).length c_7) rfl rfl rfl ?_ ?_
  · refine QV.qo ?_; exact q_extract (vs := #[.slice A_6 ((vsMerge (a) (b)).1).length c_7, .int .i64 ((vsMerge (a) (b)).2)]) rfl (by kernel_rfl) rfl
  refine WR.v (v := .int .i64 ((vsMerge (a) (b)).2)) rfl rfl rfl ?_ ?_
  · refine QV.qo ?_; exact q_extract (vs := #[.slice A_6 ((vsMerge (a) (b)).1).length c_7, .int .i64 ((vsMerge (a) (b)).2)]) rfl (by kernel_rfl) rfl
  refine WR.v (v := .slice A_6 ((vsMerge (a) (b)).1).length c_7) rfl rfl rfl ?_ ?_
  · refine QV.qo ?_; exact q_assign rfl (by kernel_rfl)
  refine WR.v (v := .int .i64 ((vsMerge (a) (b)).2)) rfl rfl rfl ?_ ?_
  · refine QV.qo ?_; exact q_assign rfl (by kernel_rfl)
  refine WR.nil ?_
  change WC _ _ _ _ _ _
  refine WC.seq ?_
  refine WC.region ?_
  refine WR.v (v := .int .i64 ((vsMerge (a) (b)).2)) rfl rfl rfl ?_ ?_
  · refine QV.qo ?_; exact q_move rfl (by kernel_rfl)
  refine WR.v (v := .bool (((vsMerge (a) (b)).2) == 0)) rfl rfl rfl ?_ ?_
  · refine QV.qo ?_; exact q_eql (k := .i64) (a := ((vsMerge (a) (b)).2)) (b := 0) rfl (by kernel_rfl) (by kernel_rfl)
  refine WR.v (v := .bool (((vsMerge (a) (b)).2) == 0)) rfl rfl rfl ?_ ?_
  · refine QV.qo ?_; exact q_move rfl (by kernel_rfl)
  refine WR.g1 (v := .slice A_6 ((vsMerge (a) (b)).1).length c_7) (c0 := true) (g := (((vsMerge (a) (b)).2) == 0)) rfl rfl (by kernel_rfl) rfl rfl (fun hc_10 => ?_) ?_
  · refine QV.qo ?_; exact q_move rfl (by kernel_rfl)
  refine WR.g1 (v := .slice Aa a.length ca) (c0 := true) (g := (((vsMerge (a) (b)).2) == 0)) rfl rfl (by kernel_rfl) rfl rfl (fun hc_11 => ?_) ?_
  · refine QV.qo ?_; exact q_move rfl (by kernel_rfl)
  refine WR.g1 (v := .bool (vsSameL (((vsMerge (a) (b)).1)) (a))) (c0 := true) (g := (((vsMerge (a) (b)).2) == 0)) rfl rfl (by kernel_rfl) rfl rfl (fun hc_12 => ?_) ?_
  · exact q_call (args := #[.slice A_6 ((vsMerge (a) (b)).1).length c_7, .slice Aa a.length ca]) Try.call65 rfl (by exact args2 (gv_of hc_12) (gv_of hc_12)) (fun w hw => vers_Same_ok w no A_6 c_7 (((vsMerge (a) (b)).1)) (Sl.step hs_8 (hw.st0.trans (St.to_no _ _))) hc_9 Aa ca (a) (Sl.step (ha.step hst_3) (hw.st0.trans (St.to_no _ _))) hca (fun _ h => h.elim))
  refine WR.g1 (v := .bool (!(vsSameL (((vsMerge (a) (b)).1)) (a)))) (c0 := true) (g := (((vsMerge (a) (b)).2) == 0)) rfl rfl (by kernel_rfl) rfl rfl (fun hc_13 => ?_) ?_
  · refine QV.qo ?_; exact q_not (g := (vsSameL (((vsMerge (a) (b)).1)) (a))) rfl (gv_of hc_13)
  refine WR.v (v := .bool ((((vsMerge (a) (b)).2) == 0) && (!(vsSameL (((vsMerge (a) (b)).1)) (a))))) rfl rfl rfl ?_ ?_
  · refine QV.qo ?_; exact q_pick (g := (((vsMerge (a) (b)).2) == 0)) rfl (by kernel_rfl) (pk_and (c := true) rfl)
  refine WR.v (v := .bool ((((vsMerge (a) (b)).2) == 0) && (!(vsSameL (((vsMerge (a) (b)).1)) (a))))) rfl rfl rfl ?_ ?_
  · refine QV.qo ?_; exact q_assign rfl (by kernel_rfl)
  refine WR.nil ?_
  change WC _ _ _ _ _ _
  refine WC.ret ?_
  intro w hw
  refine ⟨congrArg Ending.returned (congrArg (Value.bool) ?_), hw.frE⟩
  show ((((vsMerge (a) (b)).2) == 0) && (!(vsSameL (((vsMerge (a) (b)).1)) (a)))) = vsLacks a b
  first | (simp only [vsLacks, Bool.not_true, Bool.not_false, Bool.and_false, Bool.false_and, Bool.and_true, Bool.true_and, Bool.or_true, Bool.true_or, Bool.or_false, Bool.false_or, cond_true, cond_false]; done) | (simp [vsLacks, ]; done)

set_option maxRecDepth 100000 in
set_option maxHeartbeats 1000000 in
theorem r16_Right_ok (w0 : World) (X : Nat → Prop) (Alist : Option Addr) (clist : Nat) (list : (List Int)) (hlist : Sl intT X w0 Alist list) (hclist : list.length ≤ clist) (need : Int) (hneed : I64 need) (hX : ∀ k, X k → k < w0.heap.size) : Calls Try.prog 9 #[.slice Alist list.length clist, .int .i64 need] w0 fun e w' => e = .returned (.bool (r16Right list need)) ∧ Fr no w0 w' := by
  have hlistl := hlist.le_
  refine calls_of (N := 52) (rs := [4]) (args := [.slice Alist list.length clist, .int .i64 need]) Try.func9 rfl Try.ntmps9 Try.results9 rfl ?_
  refine WC.here (C := CC no w0 X w0 []) ?_ (Cur.start w0 X)
  refine WC.seq ?_
  refine WC.region ?_
  refine WR.v (v := .bool false) rfl rfl rfl ?_ ?_
  · refine QV.qo ?_; exact q_assign rfl (by kernel_rfl)
  refine WR.nil ?_
  change WC _ _ _ _ _ _
  refine WC.seq ?_
  refine WC.seq ?_
  refine WC.region ?_
  refine WR.v (v := .slice Alist list.length clist) rfl rfl rfl ?_ ?_
  · refine QV.qo ?_; exact q_move rfl (by kernel_rfl)
  refine WR.v (v := .int .i64 ((list.length : Nat) : Int)) rfl rfl rfl ?_ ?_
  · refine QV.qo ?_; exact q_len_slice (A := Alist) (n := list.length) (c := clist) rfl Try.underlying22 (by kernel_rfl)
  refine WR.v (v := .bool (((list.length : Nat) : Int) == 0)) rfl rfl rfl ?_ ?_
  · refine QV.qo ?_; exact q_eql (k := .i64) (a := ((list.length : Nat) : Int)) (b := 0) rfl (by kernel_rfl) (by kernel_rfl)
  refine WR.v (v := .bool (((list.length : Nat) : Int) == 0)) rfl rfl rfl ?_ ?_
  · refine QV.qo ?_; exact q_move rfl (by kernel_rfl)
  refine WR.g0 (v := .slice Alist list.length clist) (c0 := true) (g := (((list.length : Nat) : Int) == 0)) rfl rfl (by kernel_rfl) rfl rfl (fun hc_1 => ?_) ?_
  · refine QV.qo ?_; exact q_move rfl (by kernel_rfl)
  refine WR.g0 (v := .int .i64 ((list.length : Nat) : Int)) (c0 := true) (g := (((list.length : Nat) : Int) == 0)) rfl rfl (by kernel_rfl) rfl rfl (fun hc_2 => ?_) ?_
  · refine QV.qo ?_; exact q_len_slice (A := Alist) (n := list.length) (c := clist) rfl Try.underlying22 (gv_of hc_2)
  refine WR.g0 (v := .bool (decide (8 < ((list.length : Nat) : Int)))) (c0 := true) (g := (((list.length : Nat) : Int) == 0)) rfl rfl (by kernel_rfl) rfl rfl (fun hc_3 => ?_) ?_
  · refine QV.qo ?_; exact q_gtr (k := .i64) (a := ((list.length : Nat) : Int)) (b := 8) rfl (gv_of hc_3) (by kernel_rfl)
  refine WR.v (v := .bool ((((list.length : Nat) : Int) == 0) || (decide (8 < ((list.length : Nat) : Int))))) rfl rfl rfl ?_ ?_
  · refine QV.qo ?_; exact q_pick (g := (((list.length : Nat) : Int) == 0)) rfl (by kernel_rfl) (pk_or (c := true) rfl)
  refine WR.v (v := .bool ((((list.length : Nat) : Int) == 0) || (decide (8 < ((list.length : Nat) : Int))))) rfl rfl rfl ?_ ?_
  · refine QV.qo ?_; exact q_move rfl (by kernel_rfl)
  refine WR.g0 (v := .int .i64 need) (c0 := true) (g := ((((list.length : Nat) : Int) == 0) || (decide (8 < ((list.length : Nat) : Int))))) rfl rfl (by kernel_rfl) rfl rfl (fun hc_4 => ?_) ?_
  · refine QV.qo ?_; exact q_move rfl (by kernel_rfl)
  refine WR.g0 (v := .bool (decide (need < 1))) (c0 := true) (g := ((((list.length : Nat) : Int) == 0) || (decide (8 < ((list.length : Nat) : Int))))) rfl rfl (by kernel_rfl) rfl rfl (fun hc_5 => ?_) ?_
  · refine QV.qo ?_; exact q_lss (k := .i64) (a := need) (b := 1) rfl (gv_of hc_5) (by kernel_rfl)
  refine WR.v (v := .bool (((((list.length : Nat) : Int) == 0) || (decide (8 < ((list.length : Nat) : Int)))) || (decide (need < 1)))) rfl rfl rfl ?_ ?_
  · refine QV.qo ?_; exact q_pick (g := ((((list.length : Nat) : Int) == 0) || (decide (8 < ((list.length : Nat) : Int))))) rfl (by kernel_rfl) (pk_or (c := true) rfl)
  refine WR.v (v := .bool (((((list.length : Nat) : Int) == 0) || (decide (8 < ((list.length : Nat) : Int)))) || (decide (need < 1)))) rfl rfl rfl ?_ ?_
  · refine QV.qo ?_; exact q_move rfl (by kernel_rfl)
  refine WR.g0 (v := .int .i64 need) (c0 := true) (g := (((((list.length : Nat) : Int) == 0) || (decide (8 < ((list.length : Nat) : Int)))) || (decide (need < 1)))) rfl rfl (by kernel_rfl) rfl rfl (fun hc_6 => ?_) ?_
  · refine QV.qo ?_; exact q_move rfl (by kernel_rfl)
  refine WR.g0 (v := .slice Alist list.length clist) (c0 := true) (g := (((((list.length : Nat) : Int) == 0) || (decide (8 < ((list.length : Nat) : Int)))) || (decide (need < 1)))) rfl rfl (by kernel_rfl) rfl rfl (fun hc_7 => ?_) ?_
  · refine QV.qo ?_; exact q_move rfl (by kernel_rfl)
  refine WR.g0 (v := .int .i64 ((list.length : Nat) : Int)) (c0 := true) (g := (((((list.length : Nat) : Int) == 0) || (decide (8 < ((list.length : Nat) : Int)))) || (decide (need < 1)))) rfl rfl (by kernel_rfl) rfl rfl (fun hc_8 => ?_) ?_
  · refine QV.qo ?_; exact q_len_slice (A := Alist) (n := list.length) (c := clist) rfl Try.underlying22 (gv_of hc_8)
  refine WR.g0 (v := .bool (decide (((list.length : Nat) : Int) < need))) (c0 := true) (g := (((((list.length : Nat) : Int) == 0) || (decide (8 < ((list.length : Nat) : Int)))) || (decide (need < 1)))) rfl rfl (by kernel_rfl) rfl rfl (fun hc_9 => ?_) ?_
  · refine QV.qo ?_; exact q_gtr (k := .i64) (a := need) (b := ((list.length : Nat) : Int)) rfl (gv_of hc_9) (gv_of hc_9)
  refine WR.v (v := .bool ((((((list.length : Nat) : Int) == 0) || (decide (8 < ((list.length : Nat) : Int)))) || (decide (need < 1))) || (decide (((list.length : Nat) : Int) < need)))) rfl rfl rfl ?_ ?_
  · refine QV.qo ?_; exact q_pick (g := (((((list.length : Nat) : Int) == 0) || (decide (8 < ((list.length : Nat) : Int)))) || (decide (need < 1)))) rfl (by kernel_rfl) (pk_or (c := true) rfl)
  refine WR.nil ?_
  change WC _ _ _ _ _ _
  refine WC.cond (b := ((((((list.length : Nat) : Int) == 0) || (decide (8 < ((list.length : Nat) : Int)))) || (decide (need < 1))) || (decide (((list.length : Nat) : Int) < need)))) (by kernel_rfl) ?_ ?_
  · skip
    intro hb_10t
    refine WC.seq ?_
    refine WC.region ?_
    refine WR.v (v := .bool false) rfl rfl rfl ?_ ?_
    · refine QV.qo ?_; exact q_assign rfl (by kernel_rfl)
    refine WR.nil ?_
    change WC _ _ _ _ _ _
    refine WC.ret ?_
    intro w hw
    refine ⟨congrArg Ending.returned (congrArg (Value.bool) ?_), hw.frE⟩
    show false = r16Right list need
    unfold r16Right; first | (rw [rfl, allFrom_step (by omega)]; first | (simp only [qBad, hb_10t, Bool.not_true, Bool.not_false, Bool.and_false, Bool.false_and, Bool.and_true, Bool.true_and, Bool.or_true, Bool.true_or, Bool.or_false, Bool.false_or, cond_true, cond_false]; done) | (simp [qBad, hb_10t]; done); done) | (rw [rfl, allFrom_end (by omega)]; first | (simp only [qBad, hb_10t, Bool.not_true, Bool.not_false, Bool.and_false, Bool.false_and, Bool.and_true, Bool.true_and, Bool.or_true, Bool.true_or, Bool.or_false, Bool.false_or, cond_true, cond_false]; done) | (simp [qBad, hb_10t]; done); done) | (first | (simp only [qBad, hb_10t, Bool.not_true, Bool.not_false, Bool.and_false, Bool.false_and, Bool.and_true, Bool.true_and, Bool.or_true, Bool.true_or, Bool.or_false, Bool.false_or, cond_true, cond_false]; done) | (simp [qBad, hb_10t]; done))
  · skip
    intro hb_10f
    have hp_11 := ne_of_beq_false (or_l (or_l (or_l hb_10f)))
    have hp_12 := of_decide_eq_false (or_r (or_l (or_l hb_10f)))
    have hp_13 := of_decide_eq_false (or_r (or_l hb_10f))
    have hp_14 := of_decide_eq_false (or_r hb_10f)
    refine WC.skip ?_
    change WC _ _ _ _ _ _
    refine WC.seq ?_
    refine WC.seq ?_
    refine WC.region ?_
    refine WR.v (v := .int .i64 0) rfl rfl rfl ?_ ?_
    · refine QV.qo ?_; exact q_assign rfl (by kernel_rfl)
    refine WR.nil ?_
    change WC _ _ _ _ _ _
    refine WC.block ?_
    refine WC.loop (fun (m : Nat) (σ : Env) (w1 : World) => ∃ (k15 : Nat)   , m = list.length - k15 ∧ (k15 ≤ list.length) ∧ (allFrom (fun i => !((decide (gt list i < 1) || decide (8 < gt list i)) || inM (list.take i) (gt list i))) 0 list.length = allFrom (fun i => !((decide (gt list i < 1) || decide (8 < gt list i)) || inM (list.take i) (gt list i))) k15 list.length) ∧ (σ 0 = .slice Alist list.length clist ∧ σ 5 = .int .i64 ((k15 : Nat) : Int)) ∧ CC no w0 X w0 [] w1) ?_ ?_
    · intro w1 hw
      exact ⟨_, 0, rfl, (by first | trivial | omega), rfl, ⟨by kernel_rfl, by kernel_rfl⟩, hw⟩
    intro m15 σ15 w1 hI
    obtain ⟨k15, rfl, hk15, hrel15, ⟨h15_0, h15_5⟩, hw⟩ := hI
    refine WC.here (C := CC no w0 X w0 []) ?_ hw
    clear hw
    refine WC.seq ?_
    refine WC.seq ?_
    refine WC.region ?_
    refine WR.v (v := .int .i64 ((k15 : Nat) : Int)) rfl rfl rfl ?_ ?_
    · refine QV.qo ?_; exact q_move rfl h15_5
    refine WR.v (v := .slice Alist list.length clist) rfl rfl rfl ?_ ?_
    · refine QV.qo ?_; exact q_move rfl h15_0
    refine WR.v (v := .int .i64 ((list.length : Nat) : Int)) rfl rfl rfl ?_ ?_
    · refine QV.qo ?_; exact q_len_slice (A := Alist) (n := list.length) (c := clist) rfl Try.underlying22 (by kernel_rfl)
    refine WR.v (v := .bool (decide (((k15 : Nat) : Int) < ((list.length : Nat) : Int)))) rfl rfl rfl ?_ ?_
    · refine QV.qo ?_; exact q_lss (k := .i64) (a := ((k15 : Nat) : Int)) (b := ((list.length : Nat) : Int)) rfl (by kernel_rfl) (by kernel_rfl)
    refine WR.nil ?_
    change WC _ _ _ _ _ _
    refine WC.cond (b := (decide (((k15 : Nat) : Int) < ((list.length : Nat) : Int)))) (by kernel_rfl) ?_ ?_
    · skip
      intro hb_19t
      have hp_20 := of_decide_eq_true hb_19t
      refine WC.skip ?_
      change WC _ _ _ _ _ _
      refine WC.seq ?_
      refine WC.block ?_
      refine WC.seq ?_
      refine WC.draw (by kernel_rfl) (by kernel_rfl) (fun w hw => hw.drawn _) ?_
      refine WQ.v (v := .slice Alist list.length clist) rfl rfl rfl ?_ ?_
      · refine QV.qo ?_; exact q_move rfl h15_0
      refine WQ.v (v := .int .i64 ((k15 : Nat) : Int)) rfl rfl rfl ?_ ?_
      · refine QV.qo ?_; exact q_move rfl h15_5
      refine WQ.v (v := ptrAt Alist (k15 * 1)) rfl rfl rfl ?_ ?_
      · refine QV.qo ?_; exact q_index_addr (k := .i64) (A := Alist) (n := list.length) (c := clist) (i := k15) rfl Try.underlying22 Try.sizeOf3 (by kernel_rfl) (by kernel_rfl) (by omega) (Sl.some_ hlist (k := k15) (by omega))
      refine WQ.v (v := .int .i64 (gt list k15)) rfl rfl rfl ?_ ?_
      · refine QV.qo ?_; exact q_load_cell (A := Alist) (j := k15 * 1) (v := .int .i64 (gt list k15)) rfl Try.isAgg3 (by kernel_rfl) (Sl.intT_0 hlist (i := k15) (by omega))
      refine WQ.v (v := .bool (decide ((gt list k15) < 1))) rfl rfl rfl ?_ ?_
      · refine QV.qo ?_; exact q_lss (k := .i64) (a := (gt list k15)) (b := 1) rfl (by kernel_rfl) (by kernel_rfl)
      refine WQ.v (v := .bool (decide ((gt list k15) < 1))) rfl rfl rfl ?_ ?_
      · refine QV.qo ?_; exact q_move rfl (by kernel_rfl)
      refine WQ.g0 (v := .slice Alist list.length clist) (c0 := true) (g := (decide ((gt list k15) < 1))) rfl rfl (by kernel_rfl) rfl rfl (fun hc_21 => ?_) ?_
      · refine QV.qo ?_; exact q_move rfl h15_0
      refine WQ.g0 (v := .int .i64 ((k15 : Nat) : Int)) (c0 := true) (g := (decide ((gt list k15) < 1))) rfl rfl (by kernel_rfl) rfl rfl (fun hc_22 => ?_) ?_
      · refine QV.qo ?_; exact q_move rfl h15_5
      refine WQ.g0 (v := ptrAt Alist (k15 * 1)) (c0 := true) (g := (decide ((gt list k15) < 1))) rfl rfl (by kernel_rfl) rfl rfl (fun hc_23 => ?_) ?_
      · refine QV.qo ?_; exact q_index_addr (k := .i64) (A := Alist) (n := list.length) (c := clist) (i := k15) rfl Try.underlying22 Try.sizeOf3 (gv_of hc_23) (gv_of hc_23) (by first | omega | (simp at hc_23; omega)) (Sl.some_ hlist (k := k15) (by first | omega | (simp at hc_23; omega)))
      refine WQ.g0 (v := .int .i64 (gt list k15)) (c0 := true) (g := (decide ((gt list k15) < 1))) rfl rfl (by kernel_rfl) rfl rfl (fun hc_24 => ?_) ?_
      · refine QV.qo ?_; exact q_load_cell (A := Alist) (j := k15 * 1) (v := .int .i64 (gt list k15)) rfl Try.isAgg3 (gv_of hc_24) (Sl.intT_0 hlist (i := k15) (by first | omega | (simp at hc_24; omega)))
      refine WQ.g0 (v := .bool (decide (8 < (gt list k15)))) (c0 := true) (g := (decide ((gt list k15) < 1))) rfl rfl (by kernel_rfl) rfl rfl (fun hc_25 => ?_) ?_
      · refine QV.qo ?_; exact q_gtr (k := .i64) (a := (gt list k15)) (b := 8) rfl (gv_of hc_25) (by kernel_rfl)
      refine WQ.v (v := .bool ((decide ((gt list k15) < 1)) || (decide (8 < (gt list k15))))) rfl rfl rfl ?_ ?_
      · refine QV.qo ?_; exact q_pick (g := (decide ((gt list k15) < 1))) rfl (by kernel_rfl) (pk_or (c := true) rfl)
      refine WQ.v (v := .bool ((decide ((gt list k15) < 1)) || (decide (8 < (gt list k15))))) rfl rfl rfl ?_ ?_
      · refine QV.qo ?_; exact q_move rfl (by kernel_rfl)
      refine WQ.g0 (v := .slice Alist list.length clist) (c0 := true) (g := ((decide ((gt list k15) < 1)) || (decide (8 < (gt list k15))))) rfl rfl (by kernel_rfl) rfl rfl (fun hc_26 => ?_) ?_
      · refine QV.qo ?_; exact q_move rfl h15_0
      refine WQ.g0 (v := .int .i64 ((k15 : Nat) : Int)) (c0 := true) (g := ((decide ((gt list k15) < 1)) || (decide (8 < (gt list k15))))) rfl rfl (by kernel_rfl) rfl rfl (fun hc_27 => ?_) ?_
      · refine QV.qo ?_; exact q_move rfl h15_5
      refine WQ.g0 (v := .slice Alist (List.take (k15) list).length clist) (c0 := true) (g := ((decide ((gt list k15) < 1)) || (decide (8 < (gt list k15))))) rfl rfl (by kernel_rfl) rfl rfl (fun hc_28 => ?_) ?_
      · refine QV.qo ?_; exact q_cut_to (k := .i64) (A := Alist) (c := clist) (hi := k15) (xs := list) Try.underlying22 Try.sizeOf3 rfl (gv_of hc_28) (gv_of hc_28) (by first | omega | (simp at hc_28; omega)) hclist
      refine WQ.g0 (v := .slice Alist list.length clist) (c0 := true) (g := ((decide ((gt list k15) < 1)) || (decide (8 < (gt list k15))))) rfl rfl (by kernel_rfl) rfl rfl (fun hc_29 => ?_) ?_
      · refine QV.qo ?_; exact q_move rfl h15_0
      refine WQ.g0 (v := .int .i64 ((k15 : Nat) : Int)) (c0 := true) (g := ((decide ((gt list k15) < 1)) || (decide (8 < (gt list k15))))) rfl rfl (by kernel_rfl) rfl rfl (fun hc_30 => ?_) ?_
      · refine QV.qo ?_; exact q_move rfl h15_5
      refine WQ.g0 (v := ptrAt Alist (k15 * 1)) (c0 := true) (g := ((decide ((gt list k15) < 1)) || (decide (8 < (gt list k15))))) rfl rfl (by kernel_rfl) rfl rfl (fun hc_31 => ?_) ?_
      · refine QV.qo ?_; exact q_index_addr (k := .i64) (A := Alist) (n := list.length) (c := clist) (i := k15) rfl Try.underlying22 Try.sizeOf3 (gv_of hc_31) (gv_of hc_31) (by first | omega | (simp at hc_31; omega)) (Sl.some_ hlist (k := k15) (by first | omega | (simp at hc_31; omega)))
      refine WQ.g0 (v := .int .i64 (gt list k15)) (c0 := true) (g := ((decide ((gt list k15) < 1)) || (decide (8 < (gt list k15))))) rfl rfl (by kernel_rfl) rfl rfl (fun hc_32 => ?_) ?_
      · refine QV.qo ?_; exact q_load_cell (A := Alist) (j := k15 * 1) (v := .int .i64 (gt list k15)) rfl Try.isAgg3 (gv_of hc_32) (Sl.intT_0 hlist (i := k15) (by first | omega | (simp at hc_32; omega)))
      refine WQ.g0 (v := .bool (inM ((List.take (k15) list)) ((gt list k15)))) (c0 := true) (g := ((decide ((gt list k15) < 1)) || (decide (8 < (gt list k15))))) rfl rfl (by kernel_rfl) rfl rfl (fun hc_33 => ?_) ?_
      · exact q_call (args := #[.slice Alist (List.take (k15) list).length clist, .int .i64 (gt list k15)]) Try.call34 rfl (by exact args2 (gv_of hc_33) (gv_of hc_33)) (fun w hw => ref12_In_ok w no Alist clist ((List.take (k15) list)) (Sl.step (Sl.cut_to hlist (hi := k15) (by first | omega | (simp at hc_28; omega))) (hw.st0.trans (St.to_no _ _))) (by have := hclist; simp only [List.length_take]; omega) ((gt list k15)) (Sl.intT_fits hlist (i := k15) (by first | omega | (simp at hc_33; omega))) (fun _ h => h.elim))
      refine WQ.v (v := .bool (((decide ((gt list k15) < 1)) || (decide (8 < (gt list k15)))) || (inM ((List.take (k15) list)) ((gt list k15))))) rfl rfl rfl ?_ ?_
      · refine QV.qo ?_; exact q_pick (g := ((decide ((gt list k15) < 1)) || (decide (8 < (gt list k15))))) rfl (by kernel_rfl) (pk_or (c := true) rfl)
      refine WQ.nil ?_
      change WC _ _ _ _ _ _
      refine WC.cond (b := (((decide ((gt list k15) < 1)) || (decide (8 < (gt list k15)))) || (inM ((List.take (k15) list)) ((gt list k15))))) (by kernel_rfl) ?_ ?_
      · skip
        intro hb_34t
        refine WC.seq ?_
        refine WC.region ?_
        refine WR.v (v := .bool false) rfl rfl rfl ?_ ?_
        · refine QV.qo ?_; exact q_assign rfl (by kernel_rfl)
        refine WR.nil ?_
        change WC _ _ _ _ _ _
        refine WC.ret ?_
        intro w hw
        refine ⟨congrArg Ending.returned (congrArg (Value.bool) ?_), hw.frE⟩
        show false = r16Right list need
        unfold r16Right; first | (rw [hrel15, allFrom_step (by omega)]; first | (simp only [qBad, hb_10f, hb_19t, hb_34t, Bool.not_true, Bool.not_false, Bool.and_false, Bool.false_and, Bool.and_true, Bool.true_and, Bool.or_true, Bool.true_or, Bool.or_false, Bool.false_or, cond_true, cond_false]; done) | (simp [qBad, hb_10f, hp_11, hp_12, hp_13, hp_14, hb_19t, hp_20, hb_34t]; done); done) | (rw [hrel15, allFrom_end (by omega)]; first | (simp only [qBad, hb_10f, hb_19t, hb_34t, Bool.not_true, Bool.not_false, Bool.and_false, Bool.false_and, Bool.and_true, Bool.true_and, Bool.or_true, Bool.true_or, Bool.or_false, Bool.false_or, cond_true, cond_false]; done) | (simp [qBad, hb_10f, hp_11, hp_12, hp_13, hp_14, hb_19t, hp_20, hb_34t]; done); done) | (first | (simp only [qBad, hb_10f, hb_19t, hb_34t, Bool.not_true, Bool.not_false, Bool.and_false, Bool.false_and, Bool.and_true, Bool.true_and, Bool.or_true, Bool.true_or, Bool.or_false, Bool.false_or, cond_true, cond_false]; done) | (simp [qBad, hb_10f, hp_11, hp_12, hp_13, hp_14, hb_19t, hp_20, hb_34t]; done))
      · skip
        intro hb_34f
        have hp_35 := of_decide_eq_false (or_l (or_l hb_34f))
        have hp_36 := of_decide_eq_false (or_r (or_l hb_34f))
        have hp_37 := (or_r hb_34f)
        refine WC.skip ?_
        change WC _ _ _ _ _ _
        refine WC.region ?_
        refine WR.v (v := .int .i64 ((k15 : Nat) : Int)) rfl rfl rfl ?_ ?_
        · refine QV.qo ?_; exact q_move rfl h15_5
        refine WR.v (v := .int .i64 ((k15 + 1 : Nat) : Int)) rfl rfl rfl ?_ ?_
        · refine QV.qo ?_; exact q_add (k := .i64) (a := ((k15 : Nat) : Int)) (b := 1) (r := ((k15 + 1 : Nat) : Int)) rfl (by kernel_rfl) (by kernel_rfl) (wr64 (by omega) (by omega))
        refine WR.v (v := .int .i64 ((k15 + 1 : Nat) : Int)) rfl rfl rfl ?_ ?_
        · refine QV.qo ?_; exact q_assign rfl (by kernel_rfl)
        refine WR.nil ?_
        intro w hw
        refine ⟨_, ?_, k15 + 1, rfl, (by first | trivial | omega), ?_, ⟨h15_0, by kernel_rfl⟩, hw⟩
        · omega
        · rw [hrel15, allFrom_step (by omega)]; first | (simp only [hb_10f, hb_19t, hb_34f, Bool.not_true, Bool.not_false, Bool.and_false, Bool.false_and, Bool.and_true, Bool.true_and, Bool.or_true, Bool.true_or, Bool.or_false, Bool.false_or, cond_true, cond_false]; done) | (simp [hb_10f, hp_11, hp_12, hp_13, hp_14, hb_19t, hp_20, hb_34f, hp_35, hp_36, hp_37]; done)
    · skip
      intro hb_19f
      have hp_38 := of_decide_eq_false hb_19f
      refine WC.exit ?_
      change WC _ _ _ _ _ _
      refine WC.seq ?_
      refine WC.region ?_
      refine WR.v (v := .bool true) rfl rfl rfl ?_ ?_
      · refine QV.qo ?_; exact q_assign rfl (by kernel_rfl)
      refine WR.nil ?_
      change WC _ _ _ _ _ _
      refine WC.ret ?_
      intro w hw
      refine ⟨congrArg Ending.returned (congrArg (Value.bool) ?_), hw.frE⟩
      show true = r16Right list need
      unfold r16Right; first | (rw [hrel15, allFrom_step (by omega)]; first | (simp only [qBad, hb_10f, hb_19f, Bool.not_true, Bool.not_false, Bool.and_false, Bool.false_and, Bool.and_true, Bool.true_and, Bool.or_true, Bool.true_or, Bool.or_false, Bool.false_or, cond_true, cond_false]; done) | (simp [qBad, hb_10f, hp_11, hp_12, hp_13, hp_14, hb_19f, hp_38]; done); done) | (rw [hrel15, allFrom_end (by omega)]; first | (simp only [qBad, hb_10f, hb_19f, Bool.not_true, Bool.not_false, Bool.and_false, Bool.false_and, Bool.and_true, Bool.true_and, Bool.or_true, Bool.true_or, Bool.or_false, Bool.false_or, cond_true, cond_false]; done) | (simp [qBad, hb_10f, hp_11, hp_12, hp_13, hp_14, hb_19f, hp_38]; done); done) | (first | (simp only [qBad, hb_10f, hb_19f, Bool.not_true, Bool.not_false, Bool.and_false, Bool.false_and, Bool.and_true, Bool.true_and, Bool.or_true, Bool.true_or, Bool.or_false, Bool.false_or, cond_true, cond_false]; done) | (simp [qBad, hb_10f, hp_11, hp_12, hp_13, hp_14, hb_19f, hp_38]; done))

def askB_ok_res (list : (List Int)) (need : Int) (U1 : List Rowb) (Xr : Nat → Prop) (wr : World) (vr : Value) : Prop := ((qOk list need) = true → ∃ (A0_0 : Option Addr) (c0_0 : Nat) (m2_0 : Nat) (r2_0 : Rowb), U1 = [r2_0] ∧ vr = .tuple #[.agg #[.slice A0_0 ((⟨list, need, []⟩ : AskB)).list.length c0_0, .int .i64 ((⟨list, need, []⟩ : AskB)).need, .map (some m2_0)], .int .i64 (0)] ∧ Sl intT Xr wr A0_0 ((⟨list, need, []⟩ : AskB)).list ∧ ((⟨list, need, []⟩ : AskB)).list.length ≤ c0_0 ∧ I64 ((⟨list, need, []⟩ : AskB)).need ∧ MapO (intK Try.underlying3) boolT.v Xr wr r2_0 m2_0 ((⟨list, need, []⟩ : AskB)).got ∧ True) ∧ ((!(qOk list need)) = true → U1 = [] ∧ vr = .tuple #[.agg #[.slice none 0 0, .int .i64 0, .map none], .int .i64 (1)] ∧ True)
set_option maxRecDepth 100000 in
set_option maxHeartbeats 1000000 in
theorem askB_ok (w0 : World) (X : Nat → Prop) (Alist : Option Addr) (clist : Nat) (list : (List Int)) (hlist : Sl intT X w0 Alist list) (hclist : list.length ≤ clist) (need : Int) (hneed : I64 need) (hpre : Pre [] X w0) (hX : ∀ k, X k → k < w0.heap.size) : Calls Try.prog 35 #[.slice Alist list.length clist, .int .i64 need] w0 fun e w' => ∃ vr, e = .returned vr ∧ ∃ U1, Eff [] U1 w0 w' ∧ askB_ok_res list need U1 (Mx X U1) w' vr := by
  have hlistl := hlist.le_
  have hst0 := hpre.start
  obtain ⟨S, hS⟩ : ∃ S, S = ids [] := ⟨_, rfl⟩
  rw [← hS] at hst0
  have hS0 : ∀ k, ¬ S k := by subst hS; rintro k ⟨r, hr, _⟩; cases hr
  refine calls_of_r (N := 54) (rs := [.cell 4 68, .tmp 5]) (args := [.slice Alist list.length clist, .int .i64 need]) Try.func35 rfl Try.ntmps35 Try.results35 rfl ?_
  refine WC.here (C := CC S w0 X w0 []) ?_ hst0
  refine WC.seq ?_
  refine WC.region ?_
  refine e_alloc (z := .agg #[.slice none 0 0, .int .i64 0, .map none]) rfl rfl rfl rfl Try.zeroValue68 ?_
  intro g_1 hg_1 hg_1e
  change WR _ _ _ (CC _ _ _ _ [[(g_1, .cells #[.slice none 0 0, .int .i64 0, .map none] 68 (0, 0))]]) _ _ _
  refine WR.v (v := .int .i64 0) rfl rfl rfl ?_ ?_
  · refine QV.qo ?_; exact q_assign rfl (by kernel_rfl)
  refine WR.nil ?_
  change WC _ _ _ _ _ _
  refine WC.seq ?_
  refine WC.seq ?_
  refine WC.region ?_
  refine WR.v (v := .slice Alist list.length clist) rfl rfl rfl ?_ ?_
  · refine QV.qo ?_; exact q_move rfl (by kernel_rfl)
  refine WR.v (v := .int .i64 ((list.length : Nat) : Int)) rfl rfl rfl ?_ ?_
  · refine QV.qo ?_; exact q_len_slice (A := Alist) (n := list.length) (c := clist) rfl Try.underlying22 (by kernel_rfl)
  refine WR.v (v := .bool (decide (((list.length : Nat) : Int) < 1))) rfl rfl rfl ?_ ?_
  · refine QV.qo ?_; exact q_lss (k := .i64) (a := ((list.length : Nat) : Int)) (b := 1) rfl (by kernel_rfl) (by kernel_rfl)
  refine WR.v (v := .bool (decide (((list.length : Nat) : Int) < 1))) rfl rfl rfl ?_ ?_
  · refine QV.qo ?_; exact q_move rfl (by kernel_rfl)
  refine WR.g0 (v := .slice Alist list.length clist) (c0 := true) (g := (decide (((list.length : Nat) : Int) < 1))) rfl rfl (by kernel_rfl) rfl rfl (fun hc_2 => ?_) ?_
  · refine QV.qo ?_; exact q_move rfl (by kernel_rfl)
  refine WR.g0 (v := .int .i64 ((list.length : Nat) : Int)) (c0 := true) (g := (decide (((list.length : Nat) : Int) < 1))) rfl rfl (by kernel_rfl) rfl rfl (fun hc_3 => ?_) ?_
  · refine QV.qo ?_; exact q_len_slice (A := Alist) (n := list.length) (c := clist) rfl Try.underlying22 (gv_of hc_3)
  refine WR.g0 (v := .bool (decide (8 < ((list.length : Nat) : Int)))) (c0 := true) (g := (decide (((list.length : Nat) : Int) < 1))) rfl rfl (by kernel_rfl) rfl rfl (fun hc_4 => ?_) ?_
  · refine QV.qo ?_; exact q_gtr (k := .i64) (a := ((list.length : Nat) : Int)) (b := 8) rfl (gv_of hc_4) (by kernel_rfl)
  refine WR.v (v := .bool ((decide (((list.length : Nat) : Int) < 1)) || (decide (8 < ((list.length : Nat) : Int))))) rfl rfl rfl ?_ ?_
  · refine QV.qo ?_; exact q_pick (g := (decide (((list.length : Nat) : Int) < 1))) rfl (by kernel_rfl) (pk_or (c := true) rfl)
  refine WR.v (v := .bool ((decide (((list.length : Nat) : Int) < 1)) || (decide (8 < ((list.length : Nat) : Int))))) rfl rfl rfl ?_ ?_
  · refine QV.qo ?_; exact q_move rfl (by kernel_rfl)
  refine WR.g0 (v := .int .i64 need) (c0 := true) (g := ((decide (((list.length : Nat) : Int) < 1)) || (decide (8 < ((list.length : Nat) : Int))))) rfl rfl (by kernel_rfl) rfl rfl (fun hc_5 => ?_) ?_
  · refine QV.qo ?_; exact q_move rfl (by kernel_rfl)
  refine WR.g0 (v := .bool (decide (need < 1))) (c0 := true) (g := ((decide (((list.length : Nat) : Int) < 1)) || (decide (8 < ((list.length : Nat) : Int))))) rfl rfl (by kernel_rfl) rfl rfl (fun hc_6 => ?_) ?_
  · refine QV.qo ?_; exact q_lss (k := .i64) (a := need) (b := 1) rfl (gv_of hc_6) (by kernel_rfl)
  refine WR.v (v := .bool (((decide (((list.length : Nat) : Int) < 1)) || (decide (8 < ((list.length : Nat) : Int)))) || (decide (need < 1)))) rfl rfl rfl ?_ ?_
  · refine QV.qo ?_; exact q_pick (g := ((decide (((list.length : Nat) : Int) < 1)) || (decide (8 < ((list.length : Nat) : Int))))) rfl (by kernel_rfl) (pk_or (c := true) rfl)
  refine WR.v (v := .bool (((decide (((list.length : Nat) : Int) < 1)) || (decide (8 < ((list.length : Nat) : Int)))) || (decide (need < 1)))) rfl rfl rfl ?_ ?_
  · refine QV.qo ?_; exact q_move rfl (by kernel_rfl)
  refine WR.g0 (v := .int .i64 need) (c0 := true) (g := (((decide (((list.length : Nat) : Int) < 1)) || (decide (8 < ((list.length : Nat) : Int)))) || (decide (need < 1)))) rfl rfl (by kernel_rfl) rfl rfl (fun hc_7 => ?_) ?_
  · refine QV.qo ?_; exact q_move rfl (by kernel_rfl)
  refine WR.g0 (v := .slice Alist list.length clist) (c0 := true) (g := (((decide (((list.length : Nat) : Int) < 1)) || (decide (8 < ((list.length : Nat) : Int)))) || (decide (need < 1)))) rfl rfl (by kernel_rfl) rfl rfl (fun hc_8 => ?_) ?_
  · refine QV.qo ?_; exact q_move rfl (by kernel_rfl)
  refine WR.g0 (v := .int .i64 ((list.length : Nat) : Int)) (c0 := true) (g := (((decide (((list.length : Nat) : Int) < 1)) || (decide (8 < ((list.length : Nat) : Int)))) || (decide (need < 1)))) rfl rfl (by kernel_rfl) rfl rfl (fun hc_9 => ?_) ?_
  · refine QV.qo ?_; exact q_len_slice (A := Alist) (n := list.length) (c := clist) rfl Try.underlying22 (gv_of hc_9)
  refine WR.g0 (v := .bool (decide (((list.length : Nat) : Int) < need))) (c0 := true) (g := (((decide (((list.length : Nat) : Int) < 1)) || (decide (8 < ((list.length : Nat) : Int)))) || (decide (need < 1)))) rfl rfl (by kernel_rfl) rfl rfl (fun hc_10 => ?_) ?_
  · refine QV.qo ?_; exact q_gtr (k := .i64) (a := need) (b := ((list.length : Nat) : Int)) rfl (gv_of hc_10) (gv_of hc_10)
  refine WR.v (v := .bool ((((decide (((list.length : Nat) : Int) < 1)) || (decide (8 < ((list.length : Nat) : Int)))) || (decide (need < 1))) || (decide (((list.length : Nat) : Int) < need)))) rfl rfl rfl ?_ ?_
  · refine QV.qo ?_; exact q_pick (g := (((decide (((list.length : Nat) : Int) < 1)) || (decide (8 < ((list.length : Nat) : Int)))) || (decide (need < 1)))) rfl (by kernel_rfl) (pk_or (c := true) rfl)
  refine WR.nil ?_
  change WC _ _ _ _ _ _
  refine WC.cond (b := ((((decide (((list.length : Nat) : Int) < 1)) || (decide (8 < ((list.length : Nat) : Int)))) || (decide (need < 1))) || (decide (((list.length : Nat) : Int) < need)))) (by kernel_rfl) ?_ ?_
  · skip
    intro hb_11t
    refine WC.seq ?_
    refine WC.region ?_
    refine WR.v (v := .agg #[.slice none 0 0, .int .i64 0, .map none]) rfl rfl rfl ?_ ?_
    · refine QV.qo ?_; exact q_build' (ps := #[]) rfl (bargs0 ) (fun w => by kernel_rfl)
    refine e_store_loc (i := 0) (g := g_1) (j := 0) (v := .agg #[.slice none 0 0, .int .i64 0, .map none]) (new := #[.slice none 0 0, .int .i64 0, .map none]) (L' := [[(g_1, .cells #[.slice none 0 0, .int .i64 0, .map none] 68 (0, 0))]]) rfl rfl rfl (by kernel_rfl) (by kernel_rfl) Try.sizeOf68 rfl rfl rfl rfl rfl rfl ?_
    refine WR.v (v := .int .i64 1) rfl rfl rfl ?_ ?_
    · refine QV.qo ?_; exact q_assign rfl (by kernel_rfl)
    refine WR.nil ?_
    change WC _ _ _ _ _ _
    refine WC.ret ?_
    intro w hw
    refine ⟨[.agg #[.slice none 0 0, .int .i64 0, .map none], .int .i64 1], ⟨⟨⟨g_1, 0, none⟩, (by kernel_rfl)⟩, load_row (i := 0) (g := g_1) (j := 0) (vs := [.slice none 0 0, .int .i64 0, .map none]) hw Try.isAgg68 Try.sizeOf68 (by kernel_rfl) rfl rfl, (by kernel_rfl), trivial⟩, ?_⟩
    have hw2 := Cur.perm (L' := []) hw (.cons _ .slnil)
    rw [hS] at hw2
    refine ⟨_, rfl, [], hw2.toEff, ?_⟩
    unfold askB_ok_res
    refine ⟨?_, ?_⟩
    · intro hcond
      exact absurd hcond (by unfold qOk qBad; skip; simp [hb_11t])
    · intro hcond
      exact ⟨rfl, (by kernel_rfl), trivial⟩
  · skip
    intro hb_11f
    have hp_14 := of_decide_eq_false (or_l (or_l (or_l hb_11f)))
    have hp_15 := of_decide_eq_false (or_r (or_l (or_l hb_11f)))
    have hp_16 := of_decide_eq_false (or_r (or_l hb_11f))
    have hp_17 := of_decide_eq_false (or_r hb_11f)
    refine WC.skip ?_
    change WC _ _ _ _ _ _
    refine WC.seq ?_
    refine WC.seq ?_
    refine WC.region ?_
    refine WR.v (v := .slice Alist list.length clist) rfl rfl rfl ?_ ?_
    · refine QV.qo ?_; exact q_move rfl (by kernel_rfl)
    refine WR.v (v := .int .i64 ((list.length : Nat) : Int)) rfl rfl rfl ?_ ?_
    · refine QV.qo ?_; exact q_len_slice (A := Alist) (n := list.length) (c := clist) rfl Try.underlying22 (by kernel_rfl)
    refine WR.v (v := .int .i64 0) rfl rfl rfl ?_ ?_
    · refine QV.qo ?_; exact q_move rfl (by kernel_rfl)
    refine WR.nil ?_
    change WC _ _ _ _ _ _
    refine WC.block ?_
    refine WC.loop (fun (m : Nat) (σ : Env) (w1 : World) => ∃ (k18 : Nat)   , m = list.length - k18 ∧ (k18 ≤ list.length) ∧ (allFrom (fun i => !((decide (gt list i < 1) || decide (8 < gt list i)) || decide (0 ≤ idxGo (list.take i) (gt list i) 0))) 0 list.length = allFrom (fun i => !((decide (gt list i < 1) || decide (8 < gt list i)) || decide (0 ≤ idxGo (list.take i) (gt list i) 0))) k18 list.length) ∧ (σ 0 = .slice Alist list.length clist ∧ σ 1 = .int .i64 need ∧ σ 4 = .pointer (some ⟨g_1, 0, none⟩) ∧ σ 27 = .slice Alist list.length clist ∧ σ 28 = .int .i64 ((list.length : Nat) : Int) ∧ σ 29 = .int .i64 ((k18 : Nat) : Int)) ∧ CC S w0 X w0 [[(g_1, .cells #[.slice none 0 0, .int .i64 0, .map none] 68 (0, 0))]] w1) ?_ ?_
    · intro w1 hw
      exact ⟨_, 0, rfl, (by first | trivial | omega), rfl, ⟨by kernel_rfl, by kernel_rfl, by kernel_rfl, by kernel_rfl, by kernel_rfl, by kernel_rfl⟩, hw⟩
    intro m18 σ18 w1 hI
    obtain ⟨k18, rfl, hk18, hrel18, ⟨h18_0, h18_1, h18_4, h18_27, h18_28, h18_29⟩, hw⟩ := hI
    refine WC.here (C := CC S w0 X w0 [[(g_1, .cells #[.slice none 0 0, .int .i64 0, .map none] 68 (0, 0))]]) ?_ hw
    clear hw
    refine WC.seq ?_
    refine WC.region ?_
    refine WR.v (v := .bool (decide (((k18 : Nat) : Int) < ((list.length : Nat) : Int)))) rfl rfl rfl ?_ ?_
    · refine QV.qo ?_; exact q_lss (k := .i64) (a := ((k18 : Nat) : Int)) (b := ((list.length : Nat) : Int)) rfl h18_29 h18_28
    refine WR.nil ?_
    change WC _ _ _ _ _ _
    refine WC.seq ?_
    refine WC.cond (b := (decide (((k18 : Nat) : Int) < ((list.length : Nat) : Int)))) (by kernel_rfl) ?_ ?_
    · skip
      intro hb_22t
      have hp_23 := of_decide_eq_true hb_22t
      refine WC.skip ?_
      change WC _ _ _ _ _ _
      refine WC.seq ?_
      refine WC.block ?_
      refine WC.seq ?_
      refine WC.region ?_
      refine WR.v (v := .int .i64 ((k18 : Nat) : Int)) rfl rfl rfl ?_ ?_
      · refine QV.qo ?_; exact q_move rfl h18_29
      refine WR.v (v := ptrAt Alist (k18 * 1)) rfl rfl rfl ?_ ?_
      · refine QV.qo ?_; exact q_index_addr (k := .i64) (A := Alist) (n := list.length) (c := clist) (i := k18) rfl Try.underlying22 Try.sizeOf3 h18_27 h18_29 (by omega) (Sl.some_ hlist (k := k18) (by omega))
      refine WR.v (v := .int .i64 (gt list k18)) rfl rfl rfl ?_ ?_
      · refine QV.qo ?_; exact q_load_cell (A := Alist) (j := k18 * 1) (v := .int .i64 (gt list k18)) rfl Try.isAgg3 (by kernel_rfl) (Sl.intT_0 hlist (i := k18) (by omega))
      refine WR.v (v := .int .i64 ((k18 : Nat) : Int)) rfl rfl rfl ?_ ?_
      · refine QV.qo ?_; exact q_assign rfl (by kernel_rfl)
      refine WR.v (v := .int .i64 (gt list k18)) rfl rfl rfl ?_ ?_
      · refine QV.qo ?_; exact q_assign rfl (by kernel_rfl)
      refine WR.nil ?_
      change WC _ _ _ _ _ _
      refine WC.seq ?_
      refine WC.region ?_
      refine WR.v (v := .int .i64 (gt list k18)) rfl rfl rfl ?_ ?_
      · refine QV.qo ?_; exact q_move rfl (by kernel_rfl)
      refine WR.v (v := .bool (decide ((gt list k18) < 1))) rfl rfl rfl ?_ ?_
      · refine QV.qo ?_; exact q_lss (k := .i64) (a := (gt list k18)) (b := 1) rfl (by kernel_rfl) (by kernel_rfl)
      refine WR.v (v := .bool (decide ((gt list k18) < 1))) rfl rfl rfl ?_ ?_
      · refine QV.qo ?_; exact q_move rfl (by kernel_rfl)
      refine WR.g0 (v := .int .i64 (gt list k18)) (c0 := true) (g := (decide ((gt list k18) < 1))) rfl rfl (by kernel_rfl) rfl rfl (fun hc_24 => ?_) ?_
      · refine QV.qo ?_; exact q_move rfl (by kernel_rfl)
      refine WR.g0 (v := .bool (decide (8 < (gt list k18)))) (c0 := true) (g := (decide ((gt list k18) < 1))) rfl rfl (by kernel_rfl) rfl rfl (fun hc_25 => ?_) ?_
      · refine QV.qo ?_; exact q_gtr (k := .i64) (a := (gt list k18)) (b := 8) rfl (gv_of hc_25) (by kernel_rfl)
      refine WR.v (v := .bool ((decide ((gt list k18) < 1)) || (decide (8 < (gt list k18))))) rfl rfl rfl ?_ ?_
      · refine QV.qo ?_; exact q_pick (g := (decide ((gt list k18) < 1))) rfl (by kernel_rfl) (pk_or (c := true) rfl)
      refine WR.v (v := .bool ((decide ((gt list k18) < 1)) || (decide (8 < (gt list k18))))) rfl rfl rfl ?_ ?_
      · refine QV.qo ?_; exact q_move rfl (by kernel_rfl)
      refine WR.g0 (v := .slice Alist list.length clist) (c0 := true) (g := ((decide ((gt list k18) < 1)) || (decide (8 < (gt list k18))))) rfl rfl (by kernel_rfl) rfl rfl (fun hc_26 => ?_) ?_
      · refine QV.qo ?_; exact q_move rfl h18_0
      refine WR.g0 (v := .int .i64 ((k18 : Nat) : Int)) (c0 := true) (g := ((decide ((gt list k18) < 1)) || (decide (8 < (gt list k18))))) rfl rfl (by kernel_rfl) rfl rfl (fun hc_27 => ?_) ?_
      · refine QV.qo ?_; exact q_move rfl (by kernel_rfl)
      refine WR.g0 (v := .slice Alist (List.take (k18) list).length clist) (c0 := true) (g := ((decide ((gt list k18) < 1)) || (decide (8 < (gt list k18))))) rfl rfl (by kernel_rfl) rfl rfl (fun hc_28 => ?_) ?_
      · refine QV.qo ?_; exact q_cut_to (k := .i64) (A := Alist) (c := clist) (hi := k18) (xs := list) Try.underlying22 Try.sizeOf3 rfl (gv_of hc_28) (gv_of hc_28) (by first | omega | (simp at hc_28; omega)) hclist
      refine WR.g0 (v := .int .i64 (gt list k18)) (c0 := true) (g := ((decide ((gt list k18) < 1)) || (decide (8 < (gt list k18))))) rfl rfl (by kernel_rfl) rfl rfl (fun hc_29 => ?_) ?_
      · refine QV.qo ?_; exact q_move rfl (by kernel_rfl)
      refine WR.g0 (v := .bool (decide (0 ≤ idxGo ((List.take (k18) list)) ((gt list k18)) 0))) (c0 := true) (g := ((decide ((gt list k18) < 1)) || (decide (8 < (gt list k18))))) rfl rfl (by kernel_rfl) rfl rfl (fun hc_30 => ?_) ?_
      · exact q_call (args := #[.slice Alist (List.take (k18) list).length clist, .int .i64 (gt list k18)]) Try.call56 rfl (by exact args2 (gv_of hc_30) (gv_of hc_30)) (fun w hw => slices_Contains_ok w no Alist clist ((List.take (k18) list)) (Sl.step (Sl.cut_to hlist (hi := k18) (by first | omega | (simp at hc_28; omega))) (hw.st0.trans (St.to_no _ _))) (by have := hclist; simp only [List.length_take]; omega) ((gt list k18)) (Sl.intT_fits hlist (i := k18) (by first | omega | (simp at hc_30; omega))) (fun _ h => h.elim))
      refine WR.v (v := .bool (((decide ((gt list k18) < 1)) || (decide (8 < (gt list k18)))) || (decide (0 ≤ idxGo ((List.take (k18) list)) ((gt list k18)) 0)))) rfl rfl rfl ?_ ?_
      · refine QV.qo ?_; exact q_pick (g := ((decide ((gt list k18) < 1)) || (decide (8 < (gt list k18))))) rfl (by kernel_rfl) (pk_or (c := true) rfl)
      refine WR.nil ?_
      change WC _ _ _ _ _ _
      refine WC.cond (b := (((decide ((gt list k18) < 1)) || (decide (8 < (gt list k18)))) || (decide (0 ≤ idxGo ((List.take (k18) list)) ((gt list k18)) 0)))) (by kernel_rfl) ?_ ?_
      · skip
        intro hb_31t
        refine WC.seq ?_
        refine WC.region ?_
        refine WR.v (v := .agg #[.slice none 0 0, .int .i64 0, .map none]) rfl rfl rfl ?_ ?_
        · refine QV.qo ?_; exact q_build' (ps := #[]) rfl (bargs0 ) (fun w => by kernel_rfl)
        refine e_store_loc (i := 0) (g := g_1) (j := 0) (v := .agg #[.slice none 0 0, .int .i64 0, .map none]) (new := #[.slice none 0 0, .int .i64 0, .map none]) (L' := [[(g_1, .cells #[.slice none 0 0, .int .i64 0, .map none] 68 (0, 0))]]) rfl rfl rfl h18_4 (by kernel_rfl) Try.sizeOf68 rfl rfl rfl rfl rfl rfl ?_
        refine WR.v (v := .int .i64 1) rfl rfl rfl ?_ ?_
        · refine QV.qo ?_; exact q_assign rfl (by kernel_rfl)
        refine WR.nil ?_
        change WC _ _ _ _ _ _
        refine WC.ret ?_
        intro w hw
        refine ⟨[.agg #[.slice none 0 0, .int .i64 0, .map none], .int .i64 1], ⟨⟨⟨g_1, 0, none⟩, h18_4⟩, load_row (i := 0) (g := g_1) (j := 0) (vs := [.slice none 0 0, .int .i64 0, .map none]) hw Try.isAgg68 Try.sizeOf68 h18_4 rfl rfl, (by kernel_rfl), trivial⟩, ?_⟩
        have hw2 := Cur.perm (L' := []) hw (.cons _ .slnil)
        rw [hS] at hw2
        refine ⟨_, rfl, [], hw2.toEff, ?_⟩
        unfold askB_ok_res
        refine ⟨?_, ?_⟩
        · intro hcond
          exact absurd hcond (by unfold qOk qBad; rw [hrel18, allFrom_step (by omega)]; simp [hb_11f, hb_22t, hb_31t])
        · intro hcond
          exact ⟨rfl, (by kernel_rfl), trivial⟩
      · skip
        intro hb_31f
        have hp_34 := of_decide_eq_false (or_l (or_l hb_31f))
        have hp_35 := of_decide_eq_false (or_r (or_l hb_31f))
        have hp_36 := (or_r hb_31f)
        refine WC.skip ?_
        change WC _ _ _ _ _ _
        refine WC.region ?_
        refine WR.v (v := .int .i64 ((k18 + 1 : Nat) : Int)) rfl rfl rfl ?_ ?_
        · refine QV.qo ?_; exact q_add (k := .i64) (a := ((k18 : Nat) : Int)) (b := 1) (r := ((k18 + 1 : Nat) : Int)) rfl h18_29 (by kernel_rfl) (wr64 (by omega) (by omega))
        refine WR.v (v := .int .i64 ((k18 + 1 : Nat) : Int)) rfl rfl rfl ?_ ?_
        · refine QV.qo ?_; exact q_move rfl (by kernel_rfl)
        refine WR.nil ?_
        intro w hw
        refine ⟨_, ?_, k18 + 1, rfl, (by first | trivial | omega), ?_, ⟨h18_0, h18_1, h18_4, h18_27, h18_28, by kernel_rfl⟩, hw⟩
        · omega
        · rw [hrel18, allFrom_step (by omega)]; first | (simp only [hb_11f, hb_22t, hb_31f, Bool.not_true, Bool.not_false, Bool.and_false, Bool.false_and, Bool.and_true, Bool.true_and, Bool.or_true, Bool.true_or, Bool.or_false, Bool.false_or, cond_true, cond_false]; done) | (simp [hb_11f, hp_14, hp_15, hp_16, hp_17, hb_22t, hp_23, hb_31f, hp_34, hp_35, hp_36]; done)
    · skip
      intro hb_22f
      have hp_37 := of_decide_eq_false hb_22f
      refine WC.exit ?_
      change WC _ _ _ _ _ _
      refine WC.seq ?_
      refine WC.region ?_
      refine WR.v (v := .slice Alist list.length clist) rfl rfl rfl ?_ ?_
      · refine QV.qo ?_; exact q_move rfl h18_0
      refine e_call_res (args := #[.slice Alist list.length clist]) (Res := slices_Clone_ok_res (list)) rfl rfl rfl Try.call57 rfl (by kernel_rfl) hX (fun w X' hs_ hl_ => slices_Clone_ok w X' Alist clist (list) (Sl.step hlist hs_) hclist hl_) ?_
      intro X_38 B_39 v hst_40 hxx_41 hxl_42 hres
      obtain ⟨A_43, c_44, rfl, hs_45, hc_46⟩ := hres
      change WR _ _ _ (CC _ _ X_38 B_39 [[(g_1, .cells #[.slice none 0 0, .int .i64 0, .map none] 68 (0, 0))]]) _ _ _
      refine WR.v (v := .int .i64 need) rfl rfl rfl ?_ ?_
      · refine QV.qo ?_; exact q_move rfl h18_1
      refine e_makeMap (t := 66) (intK Try.underlying3) boolT.v rfl rfl rfl rfl ?_
      intro m_47 row_48 hm_47 hm_47e hm_49
      change WR _ _ _ (CC _ _ _ _ [row_48, [(g_1, .cells #[.slice none 0 0, .int .i64 0, .map none] 68 (0, 0))]]) _ _ _
      refine WR.v (v := .agg #[.slice A_43 ((list)).length c_44, .int .i64 need, .map (some m_47)]) rfl rfl rfl ?_ ?_
      · refine QV.qo ?_; exact q_build' (ps := #[(0, .slice A_43 ((list)).length c_44), (1, .int .i64 need), (2, .map (some m_47))]) rfl (bargs3 (by kernel_rfl) (by kernel_rfl) (by kernel_rfl)) (fun w => by kernel_rfl)
      refine e_store_loc (i := 1) (g := g_1) (j := 0) (v := .agg #[.slice A_43 ((list)).length c_44, .int .i64 need, .map (some m_47)]) (new := #[.slice A_43 ((list)).length c_44, .int .i64 need, .map (some m_47)]) (L' := [row_48, [(g_1, .cells #[.slice A_43 ((list)).length c_44, .int .i64 need, .map (some m_47)] 68 (0, 0))]]) rfl rfl rfl h18_4 (by kernel_rfl) Try.sizeOf68 rfl rfl rfl rfl rfl rfl ?_
      refine WR.v (v := .int .i64 0) rfl rfl rfl ?_ ?_
      · refine QV.qo ?_; exact q_assign rfl (by kernel_rfl)
      refine WR.nil ?_
      change WC _ _ _ _ _ _
      refine WC.ret ?_
      intro w hw
      refine ⟨[.agg #[.slice A_43 ((list)).length c_44, .int .i64 need, .map (some m_47)], .int .i64 0], ⟨⟨⟨g_1, 0, none⟩, h18_4⟩, load_row (i := 1) (g := g_1) (j := 0) (vs := [.slice A_43 ((list)).length c_44, .int .i64 need, .map (some m_47)]) hw Try.isAgg68 Try.sizeOf68 h18_4 rfl rfl, (by kernel_rfl), trivial⟩, ?_⟩
      have hm_51 : (⟨((list)), need, []⟩ : AskB) = (⟨list, need, []⟩ : AskB) := by
        rfl
      have hw2 := Cur.perm (L' := [row_48]) hw (.cons_cons _ (.cons _ .slnil))
      rw [hS] at hw2
      refine ⟨_, rfl, [row_48], hw2.toEff, ?_⟩
      unfold askB_ok_res
      refine ⟨?_, ?_⟩
      · intro hcond
        rw [← hm_51]
        exact ⟨A_43, c_44, m_47, row_48, rfl, (by kernel_rfl), Sl.step hs_45 (hw2.st2 hxx_41), hc_46, hneed, (hm_49).step (hw2.st2 hxx_41), trivial⟩
      · intro hcond
        exact absurd hcond (by unfold qOk qBad; rw [hrel18, allFrom_end (by omega)]; simp [hb_11f, hb_22f])

def countB_ok_res (ea : TypeId) (ga : Nat) (rowa : Rowb) (a : AskB) (node : Int) (x : Bool) (U1 : List Rowb) (Xr : Nat → Prop) (wr : World) (vr : Value) : Prop := (∃ (rowa1 : Rowb), U1 = [rowa1] ∧ vr = .bool ((AskB.count a node x).2) ∧ AskB.ob ea Xr wr ga rowa1 ((AskB.count a node x).1) ∧ True)
set_option maxRecDepth 100000 in
set_option maxHeartbeats 1000000 in
theorem countB_ok (w0 : World) (X : Nat → Prop) (ea : TypeId) (ga : Nat) (rowa : Rowb) (a : AskB) (hoba : AskB.ob ea X w0 ga rowa a) (node : Int) (hnode : I64 node) (x : Bool) (hpre : Pre [rowa] X w0) (hX : ∀ k, X k → k < w0.heap.size) : Calls Try.prog 36 #[.pointer (some ⟨ga, 0, none⟩), .int .i64 node, .bool x] w0 fun e w' => ∃ vr, e = .returned vr ∧ ∃ U1, Eff [rowa] U1 w0 w' ∧ countB_ok_res ea ga rowa a node x U1 (Mx X U1) w' vr := by
  have hst0 := hpre.start
  obtain ⟨S, hS⟩ : ∃ S, S = ids [rowa] := ⟨_, rfl⟩
  rw [← hS] at hst0
  refine calls_of (N := 34) (rs := [6]) (args := [.pointer (some ⟨ga, 0, none⟩), .int .i64 node, .bool x]) Try.func36 rfl Try.ntmps36 Try.results36 rfl ?_
  refine WC.here (C := CC S w0 X w0 [rowa]) ?_ hst0
  have hob_2 := hoba
  obtain ⟨A0_2, c0_2, m2_2, r2_2, hrow_2, ho0_2, ho1_2, ho2_2, ho3_2, _⟩ := hob_2
  have ho0_2l := ho0_2.le_
  refine WC.sub (C' := CC S w0 X w0 [[(ga, .cells #[.slice A0_2 a.list.length c0_2, .int .i64 a.need, .map (some m2_2)] ea (0, 0))], r2_2]) (fun w hw => Cur.open_ (U := [[(ga, .cells #[.slice A0_2 a.list.length c0_2, .int .i64 a.need, .map (some m2_2)] ea (0, 0))], r2_2]) (R := []) hw hrow_2) ?_
  refine WC.seq ?_
  refine WC.region ?_
  refine WR.v (v := .bool false) rfl rfl rfl ?_ ?_
  · refine QV.qo ?_; exact q_assign rfl (by kernel_rfl)
  refine WR.nil ?_
  change WC _ _ _ _ _ _
  refine WC.seq ?_
  refine WC.region ?_
  refine WR.v (v := .pointer (some ⟨ga, 0, none⟩)) rfl rfl rfl ?_ ?_
  · refine QV.qo ?_; exact q_move rfl (by kernel_rfl)
  refine WR.v (v := .pointer (some ⟨ga, 0, none⟩)) rfl rfl rfl ?_ ?_
  · refine QV.qo ?_; exact q_nil (A := some ⟨ga, 0, none⟩) rfl (by kernel_rfl) rfl
  refine WR.v (v := .pointer (some ⟨ga, 2, none⟩)) rfl rfl rfl ?_ ?_
  · refine QV.qo ?_; exact q_field_loc (g := ga) (j := 0) 2 fld_68_2 rfl (by kernel_rfl) rfl
  refine WR.v (v := .map (some m2_2)) rfl rfl rfl ?_ ?_
  · refine QV.qo ?_; exact q_load_loc (i := 0) (g := ga) (j := 2) (v := .map (some m2_2)) rfl Try.isAgg66 (by kernel_rfl) rfl rfl
  refine WR.v (v := .int .i64 node) rfl rfl rfl ?_ ?_
  · refine QV.qo ?_; exact q_move rfl (by kernel_rfl)
  obtain ⟨v_4, hv_5, hat_6⟩ := MapO.look ho3_2 (node) (z := .bool false) (zx := false) rfl
  obtain rfl : v_4 = _ := List.cons.inj hv_5 |>.1
  refine WR.v (v := .tuple #[.bool ((mget (node) (a.got)).getD false), .bool ((mget (node) (a.got)).isSome)]) rfl rfl rfl ?_ ?_
  · refine QV.qo ?_; exact q_lookup2 hat_6 rfl Try.underlying66 Try.zeroValue4 (by kernel_rfl) (by kernel_rfl) (i := 1) rfl
  refine WR.v (v := .tuple #[.bool ((mget (node) (a.got)).getD false), .bool ((mget (node) (a.got)).isSome)]) rfl rfl rfl ?_ ?_
  · refine QV.qo ?_; exact q_move rfl (by kernel_rfl)
  refine WR.v (v := .bool ((mget (node) (a.got)).getD false)) rfl rfl rfl ?_ ?_
  · refine QV.qo ?_; exact q_extract (vs := #[.bool ((mget (node) (a.got)).getD false), .bool ((mget (node) (a.got)).isSome)]) rfl (by kernel_rfl) rfl
  refine WR.v (v := .bool ((mget (node) (a.got)).isSome)) rfl rfl rfl ?_ ?_
  · refine QV.qo ?_; exact q_extract (vs := #[.bool ((mget (node) (a.got)).getD false), .bool ((mget (node) (a.got)).isSome)]) rfl (by kernel_rfl) rfl
  refine WR.v (v := .bool ((mget (node) (a.got)).getD false)) rfl rfl rfl ?_ ?_
  · refine QV.qo ?_; exact q_assign rfl (by kernel_rfl)
  refine WR.v (v := .bool ((mget (node) (a.got)).isSome)) rfl rfl rfl ?_ ?_
  · refine QV.qo ?_; exact q_assign rfl (by kernel_rfl)
  refine WR.nil ?_
  change WC _ _ _ _ _ _
  refine WC.seq ?_
  refine WC.seq ?_
  refine WC.region ?_
  refine WR.v (v := .bool ((mget (node) (a.got)).isSome)) rfl rfl rfl ?_ ?_
  · refine QV.qo ?_; exact q_move rfl (by kernel_rfl)
  refine WR.v (v := .bool ((mget (node) (a.got)).isSome)) rfl rfl rfl ?_ ?_
  · refine QV.qo ?_; exact q_move rfl (by kernel_rfl)
  refine WR.g0 (v := .pointer (some ⟨ga, 0, none⟩)) (c0 := true) (g := ((mget (node) (a.got)).isSome)) rfl rfl (by kernel_rfl) rfl rfl (fun hc_7 => ?_) ?_
  · refine QV.qo ?_; exact q_move rfl (by kernel_rfl)
  refine WR.g0 (v := .pointer (some ⟨ga, 0, none⟩)) (c0 := true) (g := ((mget (node) (a.got)).isSome)) rfl rfl (by kernel_rfl) rfl rfl (fun hc_8 => ?_) ?_
  · refine QV.qo ?_; exact q_nil (A := some ⟨ga, 0, none⟩) rfl (gv_of hc_8) rfl
  refine WR.g0 (v := .pointer (some ⟨ga, 0, none⟩)) (c0 := true) (g := ((mget (node) (a.got)).isSome)) rfl rfl (by kernel_rfl) rfl rfl (fun hc_9 => ?_) ?_
  · refine QV.qo ?_; exact q_field_loc (g := ga) (j := 0) 0 fld_68_0 rfl (gv_of hc_9) rfl
  refine WR.g0 (v := .slice A0_2 a.list.length c0_2) (c0 := true) (g := ((mget (node) (a.got)).isSome)) rfl rfl (by kernel_rfl) rfl rfl (fun hc_10 => ?_) ?_
  · refine QV.qo ?_; exact q_load_loc (i := 0) (g := ga) (j := 0) (v := .slice A0_2 a.list.length c0_2) rfl Try.isAgg22 (gv_of hc_10) rfl rfl
  refine WR.g0 (v := .int .i64 node) (c0 := true) (g := ((mget (node) (a.got)).isSome)) rfl rfl (by kernel_rfl) rfl rfl (fun hc_11 => ?_) ?_
  · refine QV.qo ?_; exact q_move rfl (by kernel_rfl)
  refine WR.g0 (v := .bool (decide (0 ≤ idxGo (a.list) (node) 0))) (c0 := true) (g := ((mget (node) (a.got)).isSome)) rfl rfl (by kernel_rfl) rfl rfl (fun hc_12 => ?_) ?_
  · exact q_call (args := #[.slice A0_2 a.list.length c0_2, .int .i64 node]) Try.call56 rfl (by exact args2 (gv_of hc_12) (gv_of hc_12)) (fun w hw => slices_Contains_ok w no A0_2 c0_2 (a.list) (Sl.step ho0_2 (hw.st0.trans (St.to_no _ _))) ho1_2 (node) hnode (fun _ h => h.elim))
  refine WR.g0 (v := .bool (!(decide (0 ≤ idxGo (a.list) (node) 0)))) (c0 := true) (g := ((mget (node) (a.got)).isSome)) rfl rfl (by kernel_rfl) rfl rfl (fun hc_13 => ?_) ?_
  · refine QV.qo ?_; exact q_not (g := (decide (0 ≤ idxGo (a.list) (node) 0))) rfl (gv_of hc_13)
  refine WR.v (v := .bool (((mget (node) (a.got)).isSome) || (!(decide (0 ≤ idxGo (a.list) (node) 0))))) rfl rfl rfl ?_ ?_
  · refine QV.qo ?_; exact q_pick (g := ((mget (node) (a.got)).isSome)) rfl (by kernel_rfl) (pk_or (c := true) rfl)
  refine WR.nil ?_
  change WC _ _ _ _ _ _
  refine WC.cond (b := (((mget (node) (a.got)).isSome) || (!(decide (0 ≤ idxGo (a.list) (node) 0))))) (by kernel_rfl) ?_ ?_
  · skip
    intro hb_14t
    refine WC.seq ?_
    refine WC.region ?_
    refine WR.v (v := .bool false) rfl rfl rfl ?_ ?_
    · refine QV.qo ?_; exact q_assign rfl (by kernel_rfl)
    refine WR.nil ?_
    change WC _ _ _ _ _ _
    refine WC.sub (C' := CC S w0 X w0 [rowa]) (fun w hw => Cur.fold_ (row := rowa) (U := [[(ga, .cells #[.slice A0_2 a.list.length c0_2, .int .i64 a.need, .map (some m2_2)] ea (0, 0))], r2_2]) (R := []) (hw.permL (((List.perm_middle (l₁ := ([r2_2] : List Rowb)) (a := ([(ga, .cells #[.slice A0_2 a.list.length c0_2, .int .i64 a.need, .map (some m2_2)] ea (0, 0))] : Rowb)) (l₂ := ([] : List Rowb))).symm).trans (List.perm_middle (l₁ := ([[(ga, .cells #[.slice A0_2 a.list.length c0_2, .int .i64 a.need, .map (some m2_2)] ea (0, 0))]] : List Rowb)) (a := (r2_2 : Rowb)) (l₂ := ([] : List Rowb))).symm)) hrow_2) ?_
    refine WC.ret ?_
    intro w hw
    have hm_15 : a = (AskB.count a node x).1 := by
      first | (simp only [AskB.count, hb_14t, Bool.not_true, Bool.not_false, Bool.and_false, Bool.false_and, Bool.and_true, Bool.true_and, Bool.or_true, Bool.true_or, Bool.or_false, Bool.false_or, cond_true, cond_false]; done) | (simp [AskB.count, hb_14t]; done)
    have hm_16 : false = (AskB.count a node x).2 := by
      first | (simp only [AskB.count, hb_14t, Bool.not_true, Bool.not_false, Bool.and_false, Bool.false_and, Bool.and_true, Bool.true_and, Bool.or_true, Bool.true_or, Bool.or_false, Bool.false_or, cond_true, cond_false]; done) | (simp [AskB.count, hb_14t]; done)
    have hw2 := Cur.perm (L' := [rowa]) hw (.cons_cons _ .slnil)
    rw [hS] at hw2
    refine ⟨_, rfl, [rowa], hw2.toEff, ?_⟩
    unfold countB_ok_res
    rw [← hm_15]
    rw [← hm_16]
    exact ⟨rowa, rfl, (by kernel_rfl), (hoba).step (hw2.st2 (fun _ h => h)), trivial⟩
  · skip
    intro hb_14f
    have hp_17 := (or_l hb_14f)
    have hp_18 := (not_f (or_r hb_14f))
    refine WC.skip ?_
    change WC _ _ _ _ _ _
    refine WC.seq ?_
    refine WC.region ?_
    refine WR.v (v := .pointer (some ⟨ga, 0, none⟩)) rfl rfl rfl ?_ ?_
    · refine QV.qo ?_; exact q_move rfl (by kernel_rfl)
    refine WR.v (v := .pointer (some ⟨ga, 0, none⟩)) rfl rfl rfl ?_ ?_
    · refine QV.qo ?_; exact q_nil (A := some ⟨ga, 0, none⟩) rfl (by kernel_rfl) rfl
    refine WR.v (v := .pointer (some ⟨ga, 2, none⟩)) rfl rfl rfl ?_ ?_
    · refine QV.qo ?_; exact q_field_loc (g := ga) (j := 0) 2 fld_68_2 rfl (by kernel_rfl) rfl
    refine WR.v (v := .map (some m2_2)) rfl rfl rfl ?_ ?_
    · refine QV.qo ?_; exact q_load_loc (i := 0) (g := ga) (j := 2) (v := .map (some m2_2)) rfl Try.isAgg66 (by kernel_rfl) rfl rfl
    refine WR.v (v := .int .i64 node) rfl rfl rfl ?_ ?_
    · refine QV.qo ?_; exact q_move rfl (by kernel_rfl)
    refine WR.v (v := .bool x) rfl rfl rfl ?_ ?_
    · refine QV.qo ?_; exact q_move rfl (by kernel_rfl)
    refine e_mapUpdate (x := node) (v := .bool x) (a := x) rfl rfl rfl Try.underlying66 (by kernel_rfl) (by kernel_rfl) (by kernel_rfl) (i := 1) rfl ho3_2 (by exact rfl) ?_
    intro row_19 hm_20
    change WR _ _ _ (CC _ _ _ _ [[(ga, .cells #[.slice A0_2 a.list.length c0_2, .int .i64 a.need, .map (some m2_2)] ea (0, 0))], row_19]) _ _ _
    refine WR.nil ?_
    change WC _ _ _ _ _ _
    refine WC.seq ?_
    refine WC.region ?_
    refine WR.v (v := .bool true) rfl rfl rfl ?_ ?_
    · refine QV.qo ?_; exact q_assign rfl (by kernel_rfl)
    refine WR.nil ?_
    change WC _ _ _ _ _ _
    obtain ⟨row_22, hrow_22, hob_22⟩ : ∃ rw : Rowb, rw = ([[(ga, .cells #[.slice A0_2 a.list.length c0_2, .int .i64 a.need, .map (some m2_2)] ea (0, 0))], row_19] : List Rowb).flatten ∧ AskB.ob ea X w0 ga rw (⟨a.list, a.need, (mput (node) (x) (a.got))⟩ : AskB) := ⟨_, rfl, A0_2, c0_2, m2_2, row_19, rfl, ho0_2, ho1_2, ho2_2, hm_20, trivial⟩
    refine WC.sub (C' := CC S w0 X w0 [row_22]) (fun w hw => Cur.fold_ (row := row_22) (U := [[(ga, .cells #[.slice A0_2 a.list.length c0_2, .int .i64 a.need, .map (some m2_2)] ea (0, 0))], row_19]) (R := []) (hw.permL (((List.perm_middle (l₁ := ([row_19] : List Rowb)) (a := ([(ga, .cells #[.slice A0_2 a.list.length c0_2, .int .i64 a.need, .map (some m2_2)] ea (0, 0))] : Rowb)) (l₂ := ([] : List Rowb))).symm).trans (List.perm_middle (l₁ := ([[(ga, .cells #[.slice A0_2 a.list.length c0_2, .int .i64 a.need, .map (some m2_2)] ea (0, 0))]] : List Rowb)) (a := (row_19 : Rowb)) (l₂ := ([] : List Rowb))).symm)) hrow_22) ?_
    refine WC.ret ?_
    intro w hw
    have hm_24 : (⟨a.list, a.need, (mput (node) (x) (a.got))⟩ : AskB) = (AskB.count a node x).1 := by
      first | (simp only [AskB.count, hb_14f, Bool.not_true, Bool.not_false, Bool.and_false, Bool.false_and, Bool.and_true, Bool.true_and, Bool.or_true, Bool.true_or, Bool.or_false, Bool.false_or, cond_true, cond_false]; done) | (simp [AskB.count, hb_14f, hp_17, hp_18]; done)
    have hm_25 : true = (AskB.count a node x).2 := by
      first | (simp only [AskB.count, hb_14f, Bool.not_true, Bool.not_false, Bool.and_false, Bool.false_and, Bool.and_true, Bool.true_and, Bool.or_true, Bool.true_or, Bool.or_false, Bool.false_or, cond_true, cond_false]; done) | (simp [AskB.count, hb_14f, hp_17, hp_18]; done)
    have hw2 := Cur.perm (L' := [row_22]) hw (.cons_cons _ .slnil)
    rw [hS] at hw2
    refine ⟨_, rfl, [row_22], hw2.toEff, ?_⟩
    unfold countB_ok_res
    rw [← hm_24]
    rw [← hm_25]
    exact ⟨row_22, rfl, (by kernel_rfl), (hob_22).step (hw2.st2 (fun _ h => h)), trivial⟩

set_option maxRecDepth 100000 in
set_option maxHeartbeats 1000000 in
theorem doneB_ok (w0 : World) (X : Nat → Prop) (ea : TypeId) (ga : Nat) (rowa : Rowb) (a : AskB) (hoba : AskB.ob ea X w0 ga rowa a) (hpre : Pre [rowa] X w0) (hX : ∀ k, X k → k < w0.heap.size) : Calls Try.prog 38 #[.pointer (some ⟨ga, 0, none⟩)] w0 fun e w' => e = .returned (.bool (decide (a.need ≤ (a.got.length : Int)))) ∧ Fr no w0 w' := by
  refine calls_of (N := 13) (rs := [2]) (args := [.pointer (some ⟨ga, 0, none⟩)]) Try.func38 rfl Try.ntmps38 Try.results38 rfl ?_
  refine WC.here (C := CC (ids [rowa]) w0 X w0 [rowa]) ?_ hpre.start
  have hob_2 := hoba
  obtain ⟨A0_2, c0_2, m2_2, r2_2, hrow_2, ho0_2, ho1_2, ho2_2, ho3_2, _⟩ := hob_2
  have ho0_2l := ho0_2.le_
  refine WC.sub (C' := CC (ids [rowa]) w0 X w0 [[(ga, .cells #[.slice A0_2 a.list.length c0_2, .int .i64 a.need, .map (some m2_2)] ea (0, 0))], r2_2]) (fun w hw => Cur.open_ (U := [[(ga, .cells #[.slice A0_2 a.list.length c0_2, .int .i64 a.need, .map (some m2_2)] ea (0, 0))], r2_2]) (R := []) hw hrow_2) ?_
  refine WC.seq ?_
  refine WC.region ?_
  refine WR.v (v := .bool false) rfl rfl rfl ?_ ?_
  · refine QV.qo ?_; exact q_assign rfl (by kernel_rfl)
  refine WR.nil ?_
  change WC _ _ _ _ _ _
  refine WC.seq ?_
  refine WC.draw (by kernel_rfl) (by kernel_rfl) (fun w hw => hw.drawn _) ?_
  refine WQ.v (v := .pointer (some ⟨ga, 0, none⟩)) rfl rfl rfl ?_ ?_
  · refine QV.qo ?_; exact q_move rfl (by kernel_rfl)
  refine WQ.v (v := .pointer (some ⟨ga, 0, none⟩)) rfl rfl rfl ?_ ?_
  · refine QV.qo ?_; exact q_nil (A := some ⟨ga, 0, none⟩) rfl (by kernel_rfl) rfl
  refine WQ.v (v := .pointer (some ⟨ga, 2, none⟩)) rfl rfl rfl ?_ ?_
  · refine QV.qo ?_; exact q_field_loc (g := ga) (j := 0) 2 fld_68_2 rfl (by kernel_rfl) rfl
  refine WQ.v (v := .map (some m2_2)) rfl rfl rfl ?_ ?_
  · refine QV.qo ?_; exact q_load_loc (i := 0) (g := ga) (j := 2) (v := .map (some m2_2)) rfl Try.isAgg66 (by kernel_rfl) rfl rfl
  refine WQ.v (v := .int .i64 (((a.got).length : Nat) : Int)) rfl rfl rfl ?_ ?_
  · refine QV.qo ?_; exact q_len_map ho3_2 rfl Try.underlying66 (by kernel_rfl) (i := 1) rfl
  refine WQ.v (v := .pointer (some ⟨ga, 0, none⟩)) rfl rfl rfl ?_ ?_
  · refine QV.qo ?_; exact q_move rfl (by kernel_rfl)
  refine WQ.v (v := .pointer (some ⟨ga, 0, none⟩)) rfl rfl rfl ?_ ?_
  · refine QV.qo ?_; exact q_nil (A := some ⟨ga, 0, none⟩) rfl (by kernel_rfl) rfl
  refine WQ.v (v := .pointer (some ⟨ga, 1, none⟩)) rfl rfl rfl ?_ ?_
  · refine QV.qo ?_; exact q_field_loc (g := ga) (j := 0) 1 fld_68_1 rfl (by kernel_rfl) rfl
  refine WQ.v (v := .int .i64 a.need) rfl rfl rfl ?_ ?_
  · refine QV.qo ?_; exact q_load_loc (i := 0) (g := ga) (j := 1) (v := .int .i64 a.need) rfl Try.isAgg3 (by kernel_rfl) rfl rfl
  refine WQ.v (v := .bool (decide (a.need ≤ (((a.got).length : Nat) : Int)))) rfl rfl rfl ?_ ?_
  · refine QV.qo ?_; exact q_geq (k := .i64) (a := (((a.got).length : Nat) : Int)) (b := a.need) rfl (by kernel_rfl) (by kernel_rfl)
  refine WQ.v (v := .bool (decide (a.need ≤ (((a.got).length : Nat) : Int)))) rfl rfl rfl ?_ ?_
  · refine QV.qo ?_; exact q_assign rfl (by kernel_rfl)
  refine WQ.nil ?_
  change WC _ _ _ _ _ _
  refine WC.sub (C' := CC (ids [rowa]) w0 X w0 [rowa]) (fun w hw => Cur.fold_ (row := rowa) (U := [[(ga, .cells #[.slice A0_2 a.list.length c0_2, .int .i64 a.need, .map (some m2_2)] ea (0, 0))], r2_2]) (R := []) (hw.permL (((List.perm_middle (l₁ := ([r2_2] : List Rowb)) (a := ([(ga, .cells #[.slice A0_2 a.list.length c0_2, .int .i64 a.need, .map (some m2_2)] ea (0, 0))] : Rowb)) (l₂ := ([] : List Rowb))).symm).trans (List.perm_middle (l₁ := ([[(ga, .cells #[.slice A0_2 a.list.length c0_2, .int .i64 a.need, .map (some m2_2)] ea (0, 0))]] : List Rowb)) (a := (r2_2 : Rowb)) (l₂ := ([] : List Rowb))).symm)) hrow_2) ?_
  refine WC.ret ?_
  intro w hw
  refine ⟨congrArg Ending.returned (congrArg (Value.bool) ?_), Cur.frno hw hpre.loc⟩
  show (decide (a.need ≤ (((a.got).length : Nat) : Int))) = decide (a.need ≤ (a.got.length : Int))
  rfl

def waitsB_ok_res (a : AskB) (Xr : Nat → Prop) (wr : World) (vr : Value) : Prop := ∃ A0 c0, vr = .slice A0 (a.waits).length c0 ∧ Sl intT Xr wr A0 (a.waits) ∧ (a.waits).length ≤ c0
set_option maxRecDepth 100000 in
set_option maxHeartbeats 1000000 in
theorem waitsB_ok (w0 : World) (X : Nat → Prop) (ea : TypeId) (ga : Nat) (rowa : Rowb) (a : AskB) (hoba : AskB.ob ea X w0 ga rowa a) (hpre : Pre [rowa] X w0) (hX : ∀ k, X k → k < w0.heap.size) : Calls Try.prog 39 #[.pointer (some ⟨ga, 0, none⟩)] w0 fun e w' => ∃ vr, e = .returned vr ∧ waitsB_ok_res a X w' vr ∧ Fr no w0 w' := by
  refine calls_of (N := 34) (rs := [2]) (args := [.pointer (some ⟨ga, 0, none⟩)]) Try.func39 rfl Try.ntmps39 Try.results39 rfl ?_
  refine WC.here (C := CC (ids [rowa]) w0 X w0 [rowa]) ?_ hpre.start
  have hob_2 := hoba
  obtain ⟨A0_2, c0_2, m2_2, r2_2, hrow_2, ho0_2, ho1_2, ho2_2, ho3_2, _⟩ := hob_2
  have ho0_2l := ho0_2.le_
  refine WC.sub (C' := CC (ids [rowa]) w0 X w0 [[(ga, .cells #[.slice A0_2 a.list.length c0_2, .int .i64 a.need, .map (some m2_2)] ea (0, 0))], r2_2]) (fun w hw => Cur.open_ (U := [[(ga, .cells #[.slice A0_2 a.list.length c0_2, .int .i64 a.need, .map (some m2_2)] ea (0, 0))], r2_2]) (R := []) hw hrow_2) ?_
  refine WC.seq ?_
  refine WC.region ?_
  refine WR.v (v := .slice none 0 0) rfl rfl rfl ?_ ?_
  · refine QV.qo ?_; exact q_assign rfl (by kernel_rfl)
  refine WR.nil ?_
  change WC _ _ _ _ _ _
  refine WC.seq ?_
  refine WC.region ?_
  refine WR.v (v := .slice none 0 0) rfl rfl rfl ?_ ?_
  · refine QV.qo ?_; exact q_assign rfl (by kernel_rfl)
  refine WR.nil ?_
  change WC _ _ _ _ _ _
  refine WC.seq ?_
  refine WC.seq ?_
  refine WC.region ?_
  refine WR.v (v := .pointer (some ⟨ga, 0, none⟩)) rfl rfl rfl ?_ ?_
  · refine QV.qo ?_; exact q_move rfl (by kernel_rfl)
  refine WR.v (v := .pointer (some ⟨ga, 0, none⟩)) rfl rfl rfl ?_ ?_
  · refine QV.qo ?_; exact q_nil (A := some ⟨ga, 0, none⟩) rfl (by kernel_rfl) rfl
  refine WR.v (v := .pointer (some ⟨ga, 0, none⟩)) rfl rfl rfl ?_ ?_
  · refine QV.qo ?_; exact q_field_loc (g := ga) (j := 0) 0 fld_68_0 rfl (by kernel_rfl) rfl
  refine WR.v (v := .slice A0_2 a.list.length c0_2) rfl rfl rfl ?_ ?_
  · refine QV.qo ?_; exact q_load_loc (i := 0) (g := ga) (j := 0) (v := .slice A0_2 a.list.length c0_2) rfl Try.isAgg22 (by kernel_rfl) rfl rfl
  refine WR.v (v := .int .i64 ((a.list.length : Nat) : Int)) rfl rfl rfl ?_ ?_
  · refine QV.qo ?_; exact q_len_slice (A := A0_2) (n := a.list.length) (c := c0_2) rfl Try.underlying22 (by kernel_rfl)
  refine WR.v (v := .int .i64 0) rfl rfl rfl ?_ ?_
  · refine QV.qo ?_; exact q_move rfl (by kernel_rfl)
  refine WR.nil ?_
  change WC _ _ _ _ _ _
  refine WC.block ?_
  refine WC.sub (C' := CC _ _ X w0 [[], [(ga, .cells #[.slice A0_2 a.list.length c0_2, .int .i64 a.need, .map (some m2_2)] ea (0, 0))], r2_2]) (fun w hw => hw.pad) ?_
  refine WC.loop (fun (m : Nat) (σ : Env) (w1 : World) => ∃ (k4 : Nat)  (out : List Int) (row_out4 : Rowb) (A_out4 : Option Addr) (c_out4 : Nat) (X_6 : Nat → Prop) (B_7 : World), m = a.list.length - k4 ∧ (k4 ≤ a.list.length) ∧ (out = sel (fun k => !(mget (gt a.list k) a.got).isSome) (gt a.list) k4) ∧ (out.length ≤ k4) ∧ (σ 0 = .pointer (some ⟨ga, 0, none⟩) ∧ σ 3 = .slice A_out4 out.length c_out4 ∧ σ 11 = .slice A0_2 a.list.length c0_2 ∧ σ 12 = .int .i64 ((a.list.length : Nat) : Int) ∧ σ 13 = .int .i64 ((k4 : Nat) : Int)) ∧ St X w0 X_6 B_7 ∧ (∀ k, X k → X_6 k) ∧ (∀ k, X_6 k → k < B_7.heap.size) ∧ Own intT X_6 B_7 3 row_out4 A_out4 c_out4 out ∧ CC (ids [rowa]) w0 X_6 B_7 [row_out4, [(ga, .cells #[.slice A0_2 a.list.length c0_2, .int .i64 a.need, .map (some m2_2)] ea (0, 0))], r2_2] w1) ?_ ?_
  · intro w1 hw
    exact ⟨_, 0, [], [], none, 0, X, w0, rfl, (by first | trivial | omega), rfl, (by simp), ⟨by kernel_rfl, by kernel_rfl, by kernel_rfl, by kernel_rfl, by kernel_rfl⟩, St.refl _ _, fun _ h => h, hX, (Own.nil intT X w0 3), hw⟩
  intro m4 σ4 w1 hI
  obtain ⟨k4, out, row_out4, A_out4, c_out4, X_6, B_7, rfl, hk4, hrel4, hol, ⟨h4_0, h4_3, h4_11, h4_12, h4_13⟩, hst_8, hxx_9, hxl_10, ho_out4, hw⟩ := hI
  refine WC.here (C := CC (ids [rowa]) w0 X_6 B_7 [row_out4, [(ga, .cells #[.slice A0_2 a.list.length c0_2, .int .i64 a.need, .map (some m2_2)] ea (0, 0))], r2_2]) ?_ hw
  clear hw
  have ho_out4l := ho_out4.le_
  refine WC.seq ?_
  refine WC.region ?_
  refine WR.v (v := .bool (decide (((k4 : Nat) : Int) < ((a.list.length : Nat) : Int)))) rfl rfl rfl ?_ ?_
  · refine QV.qo ?_; exact q_lss (k := .i64) (a := ((k4 : Nat) : Int)) (b := ((a.list.length : Nat) : Int)) rfl h4_13 h4_12
  refine WR.nil ?_
  change WC _ _ _ _ _ _
  refine WC.seq ?_
  refine WC.cond (b := (decide (((k4 : Nat) : Int) < ((a.list.length : Nat) : Int)))) (by kernel_rfl) ?_ ?_
  · skip
    intro hb_12t
    have hp_13 := of_decide_eq_true hb_12t
    refine WC.skip ?_
    change WC _ _ _ _ _ _
    refine WC.seq ?_
    refine WC.block ?_
    refine WC.seq ?_
    refine WC.region ?_
    refine WR.v (v := ptrAt A0_2 (k4 * 1)) rfl rfl rfl ?_ ?_
    · refine QV.qo ?_; exact q_index_addr (k := .i64) (A := A0_2) (n := a.list.length) (c := c0_2) (i := k4) rfl Try.underlying22 Try.sizeOf3 h4_11 h4_13 (by omega) (Sl.some_ (ho0_2.step hst_8) (k := k4) (by omega))
    refine WR.v (v := .int .i64 (gt a.list k4)) rfl rfl rfl ?_ ?_
    · refine QV.qo ?_; exact q_load_cell (A := A0_2) (j := k4 * 1) (v := .int .i64 (gt a.list k4)) rfl Try.isAgg3 (by kernel_rfl) (Sl.intT_0 (ho0_2.step hst_8) (i := k4) (by omega))
    refine WR.v (v := .int .i64 (gt a.list k4)) rfl rfl rfl ?_ ?_
    · refine QV.qo ?_; exact q_assign rfl (by kernel_rfl)
    refine WR.nil ?_
    change WC _ _ _ _ _ _
    refine WC.seq ?_
    refine WC.region ?_
    refine WR.v (v := .pointer (some ⟨ga, 0, none⟩)) rfl rfl rfl ?_ ?_
    · refine QV.qo ?_; exact q_move rfl h4_0
    refine WR.v (v := .pointer (some ⟨ga, 0, none⟩)) rfl rfl rfl ?_ ?_
    · refine QV.qo ?_; exact q_nil (A := some ⟨ga, 0, none⟩) rfl (by kernel_rfl) rfl
    refine WR.v (v := .pointer (some ⟨ga, 2, none⟩)) rfl rfl rfl ?_ ?_
    · refine QV.qo ?_; exact q_field_loc (g := ga) (j := 0) 2 fld_68_2 rfl (by kernel_rfl) rfl
    refine WR.v (v := .map (some m2_2)) rfl rfl rfl ?_ ?_
    · refine QV.qo ?_; exact q_load_loc (i := 1) (g := ga) (j := 2) (v := .map (some m2_2)) rfl Try.isAgg66 (by kernel_rfl) rfl rfl
    refine WR.v (v := .int .i64 (gt a.list k4)) rfl rfl rfl ?_ ?_
    · refine QV.qo ?_; exact q_move rfl (by kernel_rfl)
    obtain ⟨v_14, hv_15, hat_16⟩ := MapO.look (ho3_2.step hst_8) ((gt a.list k4)) (z := .bool false) (zx := false) rfl
    obtain rfl : v_14 = _ := List.cons.inj hv_15 |>.1
    refine WR.v (v := .tuple #[.bool ((mget ((gt a.list k4)) (a.got)).getD false), .bool ((mget ((gt a.list k4)) (a.got)).isSome)]) rfl rfl rfl ?_ ?_
    · refine QV.qo ?_; exact q_lookup2 hat_16 rfl Try.underlying66 Try.zeroValue4 (by kernel_rfl) (by kernel_rfl) (i := 2) rfl
    refine WR.v (v := .tuple #[.bool ((mget ((gt a.list k4)) (a.got)).getD false), .bool ((mget ((gt a.list k4)) (a.got)).isSome)]) rfl rfl rfl ?_ ?_
    · refine QV.qo ?_; exact q_move rfl (by kernel_rfl)
    refine WR.v (v := .bool ((mget ((gt a.list k4)) (a.got)).getD false)) rfl rfl rfl ?_ ?_
    · refine QV.qo ?_; exact q_extract (vs := #[.bool ((mget ((gt a.list k4)) (a.got)).getD false), .bool ((mget ((gt a.list k4)) (a.got)).isSome)]) rfl (by kernel_rfl) rfl
    refine WR.v (v := .bool ((mget ((gt a.list k4)) (a.got)).isSome)) rfl rfl rfl ?_ ?_
    · refine QV.qo ?_; exact q_extract (vs := #[.bool ((mget ((gt a.list k4)) (a.got)).getD false), .bool ((mget ((gt a.list k4)) (a.got)).isSome)]) rfl (by kernel_rfl) rfl
    refine WR.v (v := .bool ((mget ((gt a.list k4)) (a.got)).getD false)) rfl rfl rfl ?_ ?_
    · refine QV.qo ?_; exact q_assign rfl (by kernel_rfl)
    refine WR.v (v := .bool ((mget ((gt a.list k4)) (a.got)).isSome)) rfl rfl rfl ?_ ?_
    · refine QV.qo ?_; exact q_assign rfl (by kernel_rfl)
    refine WR.nil ?_
    change WC _ _ _ _ _ _
    refine WC.seq ?_
    refine WC.region ?_
    refine WR.v (v := .bool ((mget ((gt a.list k4)) (a.got)).isSome)) rfl rfl rfl ?_ ?_
    · refine QV.qo ?_; exact q_move rfl (by kernel_rfl)
    refine WR.v (v := .bool (!((mget ((gt a.list k4)) (a.got)).isSome))) rfl rfl rfl ?_ ?_
    · refine QV.qo ?_; exact q_not (g := ((mget ((gt a.list k4)) (a.got)).isSome)) rfl (by kernel_rfl)
    refine WR.nil ?_
    change WC _ _ _ _ _ _
    refine WC.cond (b := (!((mget ((gt a.list k4)) (a.got)).isSome))) (by kernel_rfl) ?_ ?_
    · skip
      intro hb_17t
      have hp_18 := (not_t hb_17t)
      refine WC.region ?_
      refine WR.v (v := .slice A_out4 out.length c_out4) rfl rfl rfl ?_ ?_
      · refine QV.qo ?_; exact q_move rfl h4_3
      refine WR.v (v := .int .i64 (gt a.list k4)) rfl rfl rfl ?_ ?_
      · refine QV.qo ?_; exact q_move rfl (by kernel_rfl)
      refine e_buildSlice (cs := #[.int .i64 (gt a.list k4)]) (e := 3) rfl rfl rfl rfl (fun w => by kernel_rfl) ?_
      intro g_19 hg_19 hg_19e
      change WR _ _ _ (CC _ _ _ _ [[(g_19, .cells #[.int .i64 (gt a.list k4)] 3 (0, 0))], row_out4, [(ga, .cells #[.slice A0_2 a.list.length c0_2, .int .i64 a.need, .map (some m2_2)] ea (0, 0))], r2_2]) _ _ _
      refine e_append (T := intT) (xs := out) (ys := [(gt a.list k4)]) (A := A_out4) (c := c_out4) (A2 := (some ⟨g_19, 0, none⟩)) (c2 := 1) (i := 1) (row := row_out4) elem_22 rfl rfl rfl rfl (by kernel_rfl) (by kernel_rfl) rfl ho_out4 (by simp only [lim_eq, List.length_append, List.length_cons, List.length_nil, List.length_take, List.length_drop] at *; omega) (fun w hw => src_one (T := intT) (y := (gt a.list k4)) (i := 0) (g := g_19) (cs := #[.int .i64 (gt a.list k4)]) (e := 3) rfl (by exact ⟨rfl, (Sl.intT_fits (ho0_2.step hst_8) (i := k4) (by omega))⟩) hw) ?_
      intro row_20 A_21 c_22 hown_23
      have hown_23l := hown_23.le_
      change WR _ _ _ (CC _ _ X_6 B_7 [[(g_19, .cells #[.int .i64 (gt a.list k4)] 3 (0, 0))], row_20, [(ga, .cells #[.slice A0_2 a.list.length c0_2, .int .i64 a.need, .map (some m2_2)] ea (0, 0))], r2_2]) _ _ _
      refine WR.v (v := .slice A_21 (out ++ [(gt a.list k4)]).length c_22) rfl rfl rfl ?_ ?_
      · refine QV.qo ?_; exact q_assign rfl (by kernel_rfl)
      refine WR.nil ?_
      change WC _ _ _ _ _ _
      refine WC.region ?_
      refine WR.v (v := .int .i64 ((k4 + 1 : Nat) : Int)) rfl rfl rfl ?_ ?_
      · refine QV.qo ?_; exact q_add (k := .i64) (a := ((k4 : Nat) : Int)) (b := 1) (r := ((k4 + 1 : Nat) : Int)) rfl h4_13 (by kernel_rfl) (wr64 (by omega) (by omega))
      refine WR.v (v := .int .i64 ((k4 + 1 : Nat) : Int)) rfl rfl rfl ?_ ?_
      · refine QV.qo ?_; exact q_move rfl (by kernel_rfl)
      refine WR.nil ?_
      intro w hw
      refine ⟨_, ?_, k4 + 1, (out ++ [(gt a.list k4)]), row_20, A_21, c_22, X_6, B_7, rfl, (by first | trivial | omega), ?_, (by first | omega | (simp only [List.length_append, List.length_cons, List.length_nil]; omega)), ⟨h4_0, by kernel_rfl, h4_11, h4_12, by kernel_rfl⟩, hst_8, hxx_9, hxl_10, hown_23, hw.tail⟩
      · omega
      · rw [sel_step, ← hrel4]; first | (simp only [hb_12t, hb_17t, Bool.not_true, Bool.not_false, Bool.and_false, Bool.false_and, Bool.and_true, Bool.true_and, Bool.or_true, Bool.true_or, Bool.or_false, Bool.false_or, cond_true, cond_false]; done) | (simp [hb_12t, hp_13, hb_17t, hp_18]; done)
    · skip
      intro hb_17f
      have hp_25 := (not_f hb_17f)
      refine WC.skip ?_
      change WC _ _ _ _ _ _
      refine WC.region ?_
      refine WR.v (v := .int .i64 ((k4 + 1 : Nat) : Int)) rfl rfl rfl ?_ ?_
      · refine QV.qo ?_; exact q_add (k := .i64) (a := ((k4 : Nat) : Int)) (b := 1) (r := ((k4 + 1 : Nat) : Int)) rfl h4_13 (by kernel_rfl) (wr64 (by omega) (by omega))
      refine WR.v (v := .int .i64 ((k4 + 1 : Nat) : Int)) rfl rfl rfl ?_ ?_
      · refine QV.qo ?_; exact q_move rfl (by kernel_rfl)
      refine WR.nil ?_
      intro w hw
      refine ⟨_, ?_, k4 + 1, out, row_out4, A_out4, c_out4, X_6, B_7, rfl, (by first | trivial | omega), ?_, (by first | omega | (simp only [List.length_append, List.length_cons, List.length_nil]; omega)), ⟨h4_0, h4_3, h4_11, h4_12, by kernel_rfl⟩, hst_8, hxx_9, hxl_10, ho_out4, hw⟩
      · omega
      · rw [sel_step, ← hrel4]; first | (simp only [hb_12t, hb_17f, Bool.not_true, Bool.not_false, Bool.and_false, Bool.false_and, Bool.and_true, Bool.true_and, Bool.or_true, Bool.true_or, Bool.or_false, Bool.false_or, cond_true, cond_false]; done) | (simp [hb_12t, hp_13, hb_17f, hp_25]; done)
  · skip
    intro hb_12f
    have hp_26 := of_decide_eq_false hb_12f
    refine WC.exit ?_
    change WC _ _ _ _ _ _
    refine WC.seq ?_
    refine WC.region ?_
    refine WR.v (v := .slice A_out4 out.length c_out4) rfl rfl rfl ?_ ?_
    · refine QV.qo ?_; exact q_move rfl h4_3
    refine WR.v (v := .slice A_out4 out.length c_out4) rfl rfl rfl ?_ ?_
    · refine QV.qo ?_; exact q_assign rfl (by kernel_rfl)
    refine WR.nil ?_
    change WC _ _ _ _ _ _
    refine WC.sub (C' := CC (ids [rowa]) w0 X_6 B_7 [rowa, row_out4]) (fun w hw => Cur.fold_ (row := rowa) (U := [[(ga, .cells #[.slice A0_2 a.list.length c0_2, .int .i64 a.need, .map (some m2_2)] ea (0, 0))], r2_2]) (R := [row_out4]) (hw.permL (((List.perm_middle (l₁ := ([r2_2, row_out4] : List Rowb)) (a := ([(ga, .cells #[.slice A0_2 a.list.length c0_2, .int .i64 a.need, .map (some m2_2)] ea (0, 0))] : Rowb)) (l₂ := ([] : List Rowb))).symm).trans (List.perm_middle (l₁ := ([row_out4, [(ga, .cells #[.slice A0_2 a.list.length c0_2, .int .i64 a.need, .map (some m2_2)] ea (0, 0))]] : List Rowb)) (a := (r2_2 : Rowb)) (l₂ := ([] : List Rowb))).symm)) hrow_2) ?_
    refine WC.ret ?_
    intro w hw
    have hm_27 : out = a.waits := by
      unfold AskB.waits; rw [hrel4]; congr 1; omega
    refine ⟨_, rfl, ?_, Cur.frno (hw.perm (.cons_cons _ (.cons _ .slnil))) hpre.loc⟩
    unfold waitsB_ok_res
    rw [← hm_27]
    exact ⟨A_out4, c_out4, (by kernel_rfl), Own.sl ho_out4 (hw.st0.trans (St.less hxx_9)) (hw.loc row_out4 (by simp)) (Cur.fresh2 (L1 := [row_out4]) (U := [rowa]) (hw.permL (List.perm_middle (l₁ := ([rowa] : List Rowb)) (a := (row_out4 : Rowb)) (l₂ := ([] : List Rowb))).symm) (r := row_out4) (by simp) hX), Own.capz ho_out4⟩

def askV_ok_res (list : (List Int)) (need : Int) (U1 : List Rowb) (Xr : Nat → Prop) (wr : World) (vr : Value) : Prop := ((qOk list need) = true → ∃ (A0_0 : Option Addr) (c0_0 : Nat) (m2_0 : Nat) (r2_0 : Rowb), U1 = [r2_0] ∧ vr = .tuple #[.agg #[.slice A0_0 ((⟨list, need, []⟩ : AskV)).list.length c0_0, .int .i64 ((⟨list, need, []⟩ : AskV)).need, .map (some m2_0)], .int .i64 (0)] ∧ Sl intT Xr wr A0_0 ((⟨list, need, []⟩ : AskV)).list ∧ ((⟨list, need, []⟩ : AskV)).list.length ≤ c0_0 ∧ I64 ((⟨list, need, []⟩ : AskV)).need ∧ MapO (intK Try.underlying3) (slT verT).v Xr wr r2_0 m2_0 ((⟨list, need, []⟩ : AskV)).got ∧ True) ∧ ((!(qOk list need)) = true → U1 = [] ∧ vr = .tuple #[.agg #[.slice none 0 0, .int .i64 0, .map none], .int .i64 (1)] ∧ True)
set_option maxRecDepth 100000 in
set_option maxHeartbeats 1000000 in
theorem askV_ok (w0 : World) (X : Nat → Prop) (Alist : Option Addr) (clist : Nat) (list : (List Int)) (hlist : Sl intT X w0 Alist list) (hclist : list.length ≤ clist) (need : Int) (hneed : I64 need) (hpre : Pre [] X w0) (hX : ∀ k, X k → k < w0.heap.size) : Calls Try.prog 40 #[.slice Alist list.length clist, .int .i64 need] w0 fun e w' => ∃ vr, e = .returned vr ∧ ∃ U1, Eff [] U1 w0 w' ∧ askV_ok_res list need U1 (Mx X U1) w' vr := by
  have hlistl := hlist.le_
  have hst0 := hpre.start
  obtain ⟨S, hS⟩ : ∃ S, S = ids [] := ⟨_, rfl⟩
  rw [← hS] at hst0
  have hS0 : ∀ k, ¬ S k := by subst hS; rintro k ⟨r, hr, _⟩; cases hr
  refine calls_of_r (N := 54) (rs := [.cell 4 81, .tmp 5]) (args := [.slice Alist list.length clist, .int .i64 need]) Try.func40 rfl Try.ntmps40 Try.results40 rfl ?_
  refine WC.here (C := CC S w0 X w0 []) ?_ hst0
  refine WC.seq ?_
  refine WC.region ?_
  refine e_alloc (z := .agg #[.slice none 0 0, .int .i64 0, .map none]) rfl rfl rfl rfl Try.zeroValue81 ?_
  intro g_1 hg_1 hg_1e
  change WR _ _ _ (CC _ _ _ _ [[(g_1, .cells #[.slice none 0 0, .int .i64 0, .map none] 81 (0, 0))]]) _ _ _
  refine WR.v (v := .int .i64 0) rfl rfl rfl ?_ ?_
  · refine QV.qo ?_; exact q_assign rfl (by kernel_rfl)
  refine WR.nil ?_
  change WC _ _ _ _ _ _
  refine WC.seq ?_
  refine WC.seq ?_
  refine WC.region ?_
  refine WR.v (v := .slice Alist list.length clist) rfl rfl rfl ?_ ?_
  · refine QV.qo ?_; exact q_move rfl (by kernel_rfl)
  refine WR.v (v := .int .i64 ((list.length : Nat) : Int)) rfl rfl rfl ?_ ?_
  · refine QV.qo ?_; exact q_len_slice (A := Alist) (n := list.length) (c := clist) rfl Try.underlying22 (by kernel_rfl)
  refine WR.v (v := .bool (decide (((list.length : Nat) : Int) < 1))) rfl rfl rfl ?_ ?_
  · refine QV.qo ?_; exact q_lss (k := .i64) (a := ((list.length : Nat) : Int)) (b := 1) rfl (by kernel_rfl) (by kernel_rfl)
  refine WR.v (v := .bool (decide (((list.length : Nat) : Int) < 1))) rfl rfl rfl ?_ ?_
  · refine QV.qo ?_; exact q_move rfl (by kernel_rfl)
  refine WR.g0 (v := .slice Alist list.length clist) (c0 := true) (g := (decide (((list.length : Nat) : Int) < 1))) rfl rfl (by kernel_rfl) rfl rfl (fun hc_2 => ?_) ?_
  · refine QV.qo ?_; exact q_move rfl (by kernel_rfl)
  refine WR.g0 (v := .int .i64 ((list.length : Nat) : Int)) (c0 := true) (g := (decide (((list.length : Nat) : Int) < 1))) rfl rfl (by kernel_rfl) rfl rfl (fun hc_3 => ?_) ?_
  · refine QV.qo ?_; exact q_len_slice (A := Alist) (n := list.length) (c := clist) rfl Try.underlying22 (gv_of hc_3)
  refine WR.g0 (v := .bool (decide (8 < ((list.length : Nat) : Int)))) (c0 := true) (g := (decide (((list.length : Nat) : Int) < 1))) rfl rfl (by kernel_rfl) rfl rfl (fun hc_4 => ?_) ?_
  · refine QV.qo ?_; exact q_gtr (k := .i64) (a := ((list.length : Nat) : Int)) (b := 8) rfl (gv_of hc_4) (by kernel_rfl)
  refine WR.v (v := .bool ((decide (((list.length : Nat) : Int) < 1)) || (decide (8 < ((list.length : Nat) : Int))))) rfl rfl rfl ?_ ?_
  · refine QV.qo ?_; exact q_pick (g := (decide (((list.length : Nat) : Int) < 1))) rfl (by kernel_rfl) (pk_or (c := true) rfl)
  refine WR.v (v := .bool ((decide (((list.length : Nat) : Int) < 1)) || (decide (8 < ((list.length : Nat) : Int))))) rfl rfl rfl ?_ ?_
  · refine QV.qo ?_; exact q_move rfl (by kernel_rfl)
  refine WR.g0 (v := .int .i64 need) (c0 := true) (g := ((decide (((list.length : Nat) : Int) < 1)) || (decide (8 < ((list.length : Nat) : Int))))) rfl rfl (by kernel_rfl) rfl rfl (fun hc_5 => ?_) ?_
  · refine QV.qo ?_; exact q_move rfl (by kernel_rfl)
  refine WR.g0 (v := .bool (decide (need < 1))) (c0 := true) (g := ((decide (((list.length : Nat) : Int) < 1)) || (decide (8 < ((list.length : Nat) : Int))))) rfl rfl (by kernel_rfl) rfl rfl (fun hc_6 => ?_) ?_
  · refine QV.qo ?_; exact q_lss (k := .i64) (a := need) (b := 1) rfl (gv_of hc_6) (by kernel_rfl)
  refine WR.v (v := .bool (((decide (((list.length : Nat) : Int) < 1)) || (decide (8 < ((list.length : Nat) : Int)))) || (decide (need < 1)))) rfl rfl rfl ?_ ?_
  · refine QV.qo ?_; exact q_pick (g := ((decide (((list.length : Nat) : Int) < 1)) || (decide (8 < ((list.length : Nat) : Int))))) rfl (by kernel_rfl) (pk_or (c := true) rfl)
  refine WR.v (v := .bool (((decide (((list.length : Nat) : Int) < 1)) || (decide (8 < ((list.length : Nat) : Int)))) || (decide (need < 1)))) rfl rfl rfl ?_ ?_
  · refine QV.qo ?_; exact q_move rfl (by kernel_rfl)
  refine WR.g0 (v := .int .i64 need) (c0 := true) (g := (((decide (((list.length : Nat) : Int) < 1)) || (decide (8 < ((list.length : Nat) : Int)))) || (decide (need < 1)))) rfl rfl (by kernel_rfl) rfl rfl (fun hc_7 => ?_) ?_
  · refine QV.qo ?_; exact q_move rfl (by kernel_rfl)
  refine WR.g0 (v := .slice Alist list.length clist) (c0 := true) (g := (((decide (((list.length : Nat) : Int) < 1)) || (decide (8 < ((list.length : Nat) : Int)))) || (decide (need < 1)))) rfl rfl (by kernel_rfl) rfl rfl (fun hc_8 => ?_) ?_
  · refine QV.qo ?_; exact q_move rfl (by kernel_rfl)
  refine WR.g0 (v := .int .i64 ((list.length : Nat) : Int)) (c0 := true) (g := (((decide (((list.length : Nat) : Int) < 1)) || (decide (8 < ((list.length : Nat) : Int)))) || (decide (need < 1)))) rfl rfl (by kernel_rfl) rfl rfl (fun hc_9 => ?_) ?_
  · refine QV.qo ?_; exact q_len_slice (A := Alist) (n := list.length) (c := clist) rfl Try.underlying22 (gv_of hc_9)
  refine WR.g0 (v := .bool (decide (((list.length : Nat) : Int) < need))) (c0 := true) (g := (((decide (((list.length : Nat) : Int) < 1)) || (decide (8 < ((list.length : Nat) : Int)))) || (decide (need < 1)))) rfl rfl (by kernel_rfl) rfl rfl (fun hc_10 => ?_) ?_
  · refine QV.qo ?_; exact q_gtr (k := .i64) (a := need) (b := ((list.length : Nat) : Int)) rfl (gv_of hc_10) (gv_of hc_10)
  refine WR.v (v := .bool ((((decide (((list.length : Nat) : Int) < 1)) || (decide (8 < ((list.length : Nat) : Int)))) || (decide (need < 1))) || (decide (((list.length : Nat) : Int) < need)))) rfl rfl rfl ?_ ?_
  · refine QV.qo ?_; exact q_pick (g := (((decide (((list.length : Nat) : Int) < 1)) || (decide (8 < ((list.length : Nat) : Int)))) || (decide (need < 1)))) rfl (by kernel_rfl) (pk_or (c := true) rfl)
  refine WR.nil ?_
  change WC _ _ _ _ _ _
  refine WC.cond (b := ((((decide (((list.length : Nat) : Int) < 1)) || (decide (8 < ((list.length : Nat) : Int)))) || (decide (need < 1))) || (decide (((list.length : Nat) : Int) < need)))) (by kernel_rfl) ?_ ?_
  · skip
    intro hb_11t
    refine WC.seq ?_
    refine WC.region ?_
    refine WR.v (v := .agg #[.slice none 0 0, .int .i64 0, .map none]) rfl rfl rfl ?_ ?_
    · refine QV.qo ?_; exact q_build' (ps := #[]) rfl (bargs0 ) (fun w => by kernel_rfl)
    refine e_store_loc (i := 0) (g := g_1) (j := 0) (v := .agg #[.slice none 0 0, .int .i64 0, .map none]) (new := #[.slice none 0 0, .int .i64 0, .map none]) (L' := [[(g_1, .cells #[.slice none 0 0, .int .i64 0, .map none] 81 (0, 0))]]) rfl rfl rfl (by kernel_rfl) (by kernel_rfl) Try.sizeOf81 rfl rfl rfl rfl rfl rfl ?_
    refine WR.v (v := .int .i64 1) rfl rfl rfl ?_ ?_
    · refine QV.qo ?_; exact q_assign rfl (by kernel_rfl)
    refine WR.nil ?_
    change WC _ _ _ _ _ _
    refine WC.ret ?_
    intro w hw
    refine ⟨[.agg #[.slice none 0 0, .int .i64 0, .map none], .int .i64 1], ⟨⟨⟨g_1, 0, none⟩, (by kernel_rfl)⟩, load_row (i := 0) (g := g_1) (j := 0) (vs := [.slice none 0 0, .int .i64 0, .map none]) hw Try.isAgg81 Try.sizeOf81 (by kernel_rfl) rfl rfl, (by kernel_rfl), trivial⟩, ?_⟩
    have hw2 := Cur.perm (L' := []) hw (.cons _ .slnil)
    rw [hS] at hw2
    refine ⟨_, rfl, [], hw2.toEff, ?_⟩
    unfold askV_ok_res
    refine ⟨?_, ?_⟩
    · intro hcond
      exact absurd hcond (by unfold qOk qBad; skip; simp [hb_11t])
    · intro hcond
      exact ⟨rfl, (by kernel_rfl), trivial⟩
  · skip
    intro hb_11f
    have hp_14 := of_decide_eq_false (or_l (or_l (or_l hb_11f)))
    have hp_15 := of_decide_eq_false (or_r (or_l (or_l hb_11f)))
    have hp_16 := of_decide_eq_false (or_r (or_l hb_11f))
    have hp_17 := of_decide_eq_false (or_r hb_11f)
    refine WC.skip ?_
    change WC _ _ _ _ _ _
    refine WC.seq ?_
    refine WC.seq ?_
    refine WC.region ?_
    refine WR.v (v := .slice Alist list.length clist) rfl rfl rfl ?_ ?_
    · refine QV.qo ?_; exact q_move rfl (by kernel_rfl)
    refine WR.v (v := .int .i64 ((list.length : Nat) : Int)) rfl rfl rfl ?_ ?_
    · refine QV.qo ?_; exact q_len_slice (A := Alist) (n := list.length) (c := clist) rfl Try.underlying22 (by kernel_rfl)
    refine WR.v (v := .int .i64 0) rfl rfl rfl ?_ ?_
    · refine QV.qo ?_; exact q_move rfl (by kernel_rfl)
    refine WR.nil ?_
    change WC _ _ _ _ _ _
    refine WC.block ?_
    refine WC.loop (fun (m : Nat) (σ : Env) (w1 : World) => ∃ (k18 : Nat)   , m = list.length - k18 ∧ (k18 ≤ list.length) ∧ (allFrom (fun i => !((decide (gt list i < 1) || decide (8 < gt list i)) || decide (0 ≤ idxGo (list.take i) (gt list i) 0))) 0 list.length = allFrom (fun i => !((decide (gt list i < 1) || decide (8 < gt list i)) || decide (0 ≤ idxGo (list.take i) (gt list i) 0))) k18 list.length) ∧ (σ 0 = .slice Alist list.length clist ∧ σ 1 = .int .i64 need ∧ σ 4 = .pointer (some ⟨g_1, 0, none⟩) ∧ σ 27 = .slice Alist list.length clist ∧ σ 28 = .int .i64 ((list.length : Nat) : Int) ∧ σ 29 = .int .i64 ((k18 : Nat) : Int)) ∧ CC S w0 X w0 [[(g_1, .cells #[.slice none 0 0, .int .i64 0, .map none] 81 (0, 0))]] w1) ?_ ?_
    · intro w1 hw
      exact ⟨_, 0, rfl, (by first | trivial | omega), rfl, ⟨by kernel_rfl, by kernel_rfl, by kernel_rfl, by kernel_rfl, by kernel_rfl, by kernel_rfl⟩, hw⟩
    intro m18 σ18 w1 hI
    obtain ⟨k18, rfl, hk18, hrel18, ⟨h18_0, h18_1, h18_4, h18_27, h18_28, h18_29⟩, hw⟩ := hI
    refine WC.here (C := CC S w0 X w0 [[(g_1, .cells #[.slice none 0 0, .int .i64 0, .map none] 81 (0, 0))]]) ?_ hw
    clear hw
    refine WC.seq ?_
    refine WC.region ?_
    refine WR.v (v := .bool (decide (((k18 : Nat) : Int) < ((list.length : Nat) : Int)))) rfl rfl rfl ?_ ?_
    · refine QV.qo ?_; exact q_lss (k := .i64) (a := ((k18 : Nat) : Int)) (b := ((list.length : Nat) : Int)) rfl h18_29 h18_28
    refine WR.nil ?_
    change WC _ _ _ _ _ _
    refine WC.seq ?_
    refine WC.cond (b := (decide (((k18 : Nat) : Int) < ((list.length : Nat) : Int)))) (by kernel_rfl) ?_ ?_
    · skip
      intro hb_22t
      have hp_23 := of_decide_eq_true hb_22t
      refine WC.skip ?_
      change WC _ _ _ _ _ _
      refine WC.seq ?_
      refine WC.block ?_
      refine WC.seq ?_
      refine WC.region ?_
      refine WR.v (v := .int .i64 ((k18 : Nat) : Int)) rfl rfl rfl ?_ ?_
      · refine QV.qo ?_; exact q_move rfl h18_29
      refine WR.v (v := ptrAt Alist (k18 * 1)) rfl rfl rfl ?_ ?_
      · refine QV.qo ?_; exact q_index_addr (k := .i64) (A := Alist) (n := list.length) (c := clist) (i := k18) rfl Try.underlying22 Try.sizeOf3 h18_27 h18_29 (by omega) (Sl.some_ hlist (k := k18) (by omega))
      refine WR.v (v := .int .i64 (gt list k18)) rfl rfl rfl ?_ ?_
      · refine QV.qo ?_; exact q_load_cell (A := Alist) (j := k18 * 1) (v := .int .i64 (gt list k18)) rfl Try.isAgg3 (by kernel_rfl) (Sl.intT_0 hlist (i := k18) (by omega))
      refine WR.v (v := .int .i64 ((k18 : Nat) : Int)) rfl rfl rfl ?_ ?_
      · refine QV.qo ?_; exact q_assign rfl (by kernel_rfl)
      refine WR.v (v := .int .i64 (gt list k18)) rfl rfl rfl ?_ ?_
      · refine QV.qo ?_; exact q_assign rfl (by kernel_rfl)
      refine WR.nil ?_
      change WC _ _ _ _ _ _
      refine WC.seq ?_
      refine WC.region ?_
      refine WR.v (v := .int .i64 (gt list k18)) rfl rfl rfl ?_ ?_
      · refine QV.qo ?_; exact q_move rfl (by kernel_rfl)
      refine WR.v (v := .bool (decide ((gt list k18) < 1))) rfl rfl rfl ?_ ?_
      · refine QV.qo ?_; exact q_lss (k := .i64) (a := (gt list k18)) (b := 1) rfl (by kernel_rfl) (by kernel_rfl)
      refine WR.v (v := .bool (decide ((gt list k18) < 1))) rfl rfl rfl ?_ ?_
      · refine QV.qo ?_; exact q_move rfl (by kernel_rfl)
      refine WR.g0 (v := .int .i64 (gt list k18)) (c0 := true) (g := (decide ((gt list k18) < 1))) rfl rfl (by kernel_rfl) rfl rfl (fun hc_24 => ?_) ?_
      · refine QV.qo ?_; exact q_move rfl (by kernel_rfl)
      refine WR.g0 (v := .bool (decide (8 < (gt list k18)))) (c0 := true) (g := (decide ((gt list k18) < 1))) rfl rfl (by kernel_rfl) rfl rfl (fun hc_25 => ?_) ?_
      · refine QV.qo ?_; exact q_gtr (k := .i64) (a := (gt list k18)) (b := 8) rfl (gv_of hc_25) (by kernel_rfl)
      refine WR.v (v := .bool ((decide ((gt list k18) < 1)) || (decide (8 < (gt list k18))))) rfl rfl rfl ?_ ?_
      · refine QV.qo ?_; exact q_pick (g := (decide ((gt list k18) < 1))) rfl (by kernel_rfl) (pk_or (c := true) rfl)
      refine WR.v (v := .bool ((decide ((gt list k18) < 1)) || (decide (8 < (gt list k18))))) rfl rfl rfl ?_ ?_
      · refine QV.qo ?_; exact q_move rfl (by kernel_rfl)
      refine WR.g0 (v := .slice Alist list.length clist) (c0 := true) (g := ((decide ((gt list k18) < 1)) || (decide (8 < (gt list k18))))) rfl rfl (by kernel_rfl) rfl rfl (fun hc_26 => ?_) ?_
      · refine QV.qo ?_; exact q_move rfl h18_0
      refine WR.g0 (v := .int .i64 ((k18 : Nat) : Int)) (c0 := true) (g := ((decide ((gt list k18) < 1)) || (decide (8 < (gt list k18))))) rfl rfl (by kernel_rfl) rfl rfl (fun hc_27 => ?_) ?_
      · refine QV.qo ?_; exact q_move rfl (by kernel_rfl)
      refine WR.g0 (v := .slice Alist (List.take (k18) list).length clist) (c0 := true) (g := ((decide ((gt list k18) < 1)) || (decide (8 < (gt list k18))))) rfl rfl (by kernel_rfl) rfl rfl (fun hc_28 => ?_) ?_
      · refine QV.qo ?_; exact q_cut_to (k := .i64) (A := Alist) (c := clist) (hi := k18) (xs := list) Try.underlying22 Try.sizeOf3 rfl (gv_of hc_28) (gv_of hc_28) (by first | omega | (simp at hc_28; omega)) hclist
      refine WR.g0 (v := .int .i64 (gt list k18)) (c0 := true) (g := ((decide ((gt list k18) < 1)) || (decide (8 < (gt list k18))))) rfl rfl (by kernel_rfl) rfl rfl (fun hc_29 => ?_) ?_
      · refine QV.qo ?_; exact q_move rfl (by kernel_rfl)
      refine WR.g0 (v := .bool (decide (0 ≤ idxGo ((List.take (k18) list)) ((gt list k18)) 0))) (c0 := true) (g := ((decide ((gt list k18) < 1)) || (decide (8 < (gt list k18))))) rfl rfl (by kernel_rfl) rfl rfl (fun hc_30 => ?_) ?_
      · exact q_call (args := #[.slice Alist (List.take (k18) list).length clist, .int .i64 (gt list k18)]) Try.call56 rfl (by exact args2 (gv_of hc_30) (gv_of hc_30)) (fun w hw => slices_Contains_ok w no Alist clist ((List.take (k18) list)) (Sl.step (Sl.cut_to hlist (hi := k18) (by first | omega | (simp at hc_28; omega))) (hw.st0.trans (St.to_no _ _))) (by have := hclist; simp only [List.length_take]; omega) ((gt list k18)) (Sl.intT_fits hlist (i := k18) (by first | omega | (simp at hc_30; omega))) (fun _ h => h.elim))
      refine WR.v (v := .bool (((decide ((gt list k18) < 1)) || (decide (8 < (gt list k18)))) || (decide (0 ≤ idxGo ((List.take (k18) list)) ((gt list k18)) 0)))) rfl rfl rfl ?_ ?_
      · refine QV.qo ?_; exact q_pick (g := ((decide ((gt list k18) < 1)) || (decide (8 < (gt list k18))))) rfl (by kernel_rfl) (pk_or (c := true) rfl)
      refine WR.nil ?_
      change WC _ _ _ _ _ _
      refine WC.cond (b := (((decide ((gt list k18) < 1)) || (decide (8 < (gt list k18)))) || (decide (0 ≤ idxGo ((List.take (k18) list)) ((gt list k18)) 0)))) (by kernel_rfl) ?_ ?_
      · skip
        intro hb_31t
        refine WC.seq ?_
        refine WC.region ?_
        refine WR.v (v := .agg #[.slice none 0 0, .int .i64 0, .map none]) rfl rfl rfl ?_ ?_
        · refine QV.qo ?_; exact q_build' (ps := #[]) rfl (bargs0 ) (fun w => by kernel_rfl)
        refine e_store_loc (i := 0) (g := g_1) (j := 0) (v := .agg #[.slice none 0 0, .int .i64 0, .map none]) (new := #[.slice none 0 0, .int .i64 0, .map none]) (L' := [[(g_1, .cells #[.slice none 0 0, .int .i64 0, .map none] 81 (0, 0))]]) rfl rfl rfl h18_4 (by kernel_rfl) Try.sizeOf81 rfl rfl rfl rfl rfl rfl ?_
        refine WR.v (v := .int .i64 1) rfl rfl rfl ?_ ?_
        · refine QV.qo ?_; exact q_assign rfl (by kernel_rfl)
        refine WR.nil ?_
        change WC _ _ _ _ _ _
        refine WC.ret ?_
        intro w hw
        refine ⟨[.agg #[.slice none 0 0, .int .i64 0, .map none], .int .i64 1], ⟨⟨⟨g_1, 0, none⟩, h18_4⟩, load_row (i := 0) (g := g_1) (j := 0) (vs := [.slice none 0 0, .int .i64 0, .map none]) hw Try.isAgg81 Try.sizeOf81 h18_4 rfl rfl, (by kernel_rfl), trivial⟩, ?_⟩
        have hw2 := Cur.perm (L' := []) hw (.cons _ .slnil)
        rw [hS] at hw2
        refine ⟨_, rfl, [], hw2.toEff, ?_⟩
        unfold askV_ok_res
        refine ⟨?_, ?_⟩
        · intro hcond
          exact absurd hcond (by unfold qOk qBad; rw [hrel18, allFrom_step (by omega)]; simp [hb_11f, hb_22t, hb_31t])
        · intro hcond
          exact ⟨rfl, (by kernel_rfl), trivial⟩
      · skip
        intro hb_31f
        have hp_34 := of_decide_eq_false (or_l (or_l hb_31f))
        have hp_35 := of_decide_eq_false (or_r (or_l hb_31f))
        have hp_36 := (or_r hb_31f)
        refine WC.skip ?_
        change WC _ _ _ _ _ _
        refine WC.region ?_
        refine WR.v (v := .int .i64 ((k18 + 1 : Nat) : Int)) rfl rfl rfl ?_ ?_
        · refine QV.qo ?_; exact q_add (k := .i64) (a := ((k18 : Nat) : Int)) (b := 1) (r := ((k18 + 1 : Nat) : Int)) rfl h18_29 (by kernel_rfl) (wr64 (by omega) (by omega))
        refine WR.v (v := .int .i64 ((k18 + 1 : Nat) : Int)) rfl rfl rfl ?_ ?_
        · refine QV.qo ?_; exact q_move rfl (by kernel_rfl)
        refine WR.nil ?_
        intro w hw
        refine ⟨_, ?_, k18 + 1, rfl, (by first | trivial | omega), ?_, ⟨h18_0, h18_1, h18_4, h18_27, h18_28, by kernel_rfl⟩, hw⟩
        · omega
        · rw [hrel18, allFrom_step (by omega)]; first | (simp only [hb_11f, hb_22t, hb_31f, Bool.not_true, Bool.not_false, Bool.and_false, Bool.false_and, Bool.and_true, Bool.true_and, Bool.or_true, Bool.true_or, Bool.or_false, Bool.false_or, cond_true, cond_false]; done) | (simp [hb_11f, hp_14, hp_15, hp_16, hp_17, hb_22t, hp_23, hb_31f, hp_34, hp_35, hp_36]; done)
    · skip
      intro hb_22f
      have hp_37 := of_decide_eq_false hb_22f
      refine WC.exit ?_
      change WC _ _ _ _ _ _
      refine WC.seq ?_
      refine WC.region ?_
      refine WR.v (v := .slice Alist list.length clist) rfl rfl rfl ?_ ?_
      · refine QV.qo ?_; exact q_move rfl h18_0
      refine e_call_res (args := #[.slice Alist list.length clist]) (Res := slices_Clone_ok_res (list)) rfl rfl rfl Try.call57 rfl (by kernel_rfl) hX (fun w X' hs_ hl_ => slices_Clone_ok w X' Alist clist (list) (Sl.step hlist hs_) hclist hl_) ?_
      intro X_38 B_39 v hst_40 hxx_41 hxl_42 hres
      obtain ⟨A_43, c_44, rfl, hs_45, hc_46⟩ := hres
      change WR _ _ _ (CC _ _ X_38 B_39 [[(g_1, .cells #[.slice none 0 0, .int .i64 0, .map none] 81 (0, 0))]]) _ _ _
      refine WR.v (v := .int .i64 need) rfl rfl rfl ?_ ?_
      · refine QV.qo ?_; exact q_move rfl h18_1
      refine e_makeMap (t := 79) (intK Try.underlying3) (slT verT).v rfl rfl rfl rfl ?_
      intro m_47 row_48 hm_47 hm_47e hm_49
      change WR _ _ _ (CC _ _ _ _ [row_48, [(g_1, .cells #[.slice none 0 0, .int .i64 0, .map none] 81 (0, 0))]]) _ _ _
      refine WR.v (v := .agg #[.slice A_43 ((list)).length c_44, .int .i64 need, .map (some m_47)]) rfl rfl rfl ?_ ?_
      · refine QV.qo ?_; exact q_build' (ps := #[(0, .slice A_43 ((list)).length c_44), (1, .int .i64 need), (2, .map (some m_47))]) rfl (bargs3 (by kernel_rfl) (by kernel_rfl) (by kernel_rfl)) (fun w => by kernel_rfl)
      refine e_store_loc (i := 1) (g := g_1) (j := 0) (v := .agg #[.slice A_43 ((list)).length c_44, .int .i64 need, .map (some m_47)]) (new := #[.slice A_43 ((list)).length c_44, .int .i64 need, .map (some m_47)]) (L' := [row_48, [(g_1, .cells #[.slice A_43 ((list)).length c_44, .int .i64 need, .map (some m_47)] 81 (0, 0))]]) rfl rfl rfl h18_4 (by kernel_rfl) Try.sizeOf81 rfl rfl rfl rfl rfl rfl ?_
      refine WR.v (v := .int .i64 0) rfl rfl rfl ?_ ?_
      · refine QV.qo ?_; exact q_assign rfl (by kernel_rfl)
      refine WR.nil ?_
      change WC _ _ _ _ _ _
      refine WC.ret ?_
      intro w hw
      refine ⟨[.agg #[.slice A_43 ((list)).length c_44, .int .i64 need, .map (some m_47)], .int .i64 0], ⟨⟨⟨g_1, 0, none⟩, h18_4⟩, load_row (i := 1) (g := g_1) (j := 0) (vs := [.slice A_43 ((list)).length c_44, .int .i64 need, .map (some m_47)]) hw Try.isAgg81 Try.sizeOf81 h18_4 rfl rfl, (by kernel_rfl), trivial⟩, ?_⟩
      have hm_51 : (⟨((list)), need, []⟩ : AskV) = (⟨list, need, []⟩ : AskV) := by
        rfl
      have hw2 := Cur.perm (L' := [row_48]) hw (.cons_cons _ (.cons _ .slnil))
      rw [hS] at hw2
      refine ⟨_, rfl, [row_48], hw2.toEff, ?_⟩
      unfold askV_ok_res
      refine ⟨?_, ?_⟩
      · intro hcond
        rw [← hm_51]
        exact ⟨A_43, c_44, m_47, row_48, rfl, (by kernel_rfl), Sl.step hs_45 (hw2.st2 hxx_41), hc_46, hneed, (hm_49).step (hw2.st2 hxx_41), trivial⟩
      · intro hcond
        exact absurd hcond (by unfold qOk qBad; rw [hrel18, allFrom_end (by omega)]; simp [hb_11f, hb_22f])

def countV_ok_res (ea : TypeId) (ga : Nat) (rowa : Rowb) (a : AskV) (node : Int) (x : (List Ver)) (U1 : List Rowb) (Xr : Nat → Prop) (wr : World) (vr : Value) : Prop := (∃ (rowa1 : Rowb), U1 = [rowa1] ∧ vr = .bool ((AskV.count a node x).2) ∧ AskV.ob ea Xr wr ga rowa1 ((AskV.count a node x).1) ∧ True)
set_option maxRecDepth 100000 in
set_option maxHeartbeats 1000000 in
theorem countV_ok (w0 : World) (X : Nat → Prop) (ea : TypeId) (ga : Nat) (rowa : Rowb) (a : AskV) (hoba : AskV.ob ea X w0 ga rowa a) (node : Int) (hnode : I64 node) (Ax : Option Addr) (cx : Nat) (x : (List Ver)) (hx : Sl verT X w0 Ax x) (hcx : x.length ≤ cx) (hpre : Pre [rowa] X w0) (hX : ∀ k, X k → k < w0.heap.size) : Calls Try.prog 42 #[.pointer (some ⟨ga, 0, none⟩), .int .i64 node, .slice Ax x.length cx] w0 fun e w' => ∃ vr, e = .returned vr ∧ ∃ U1, Eff [rowa] U1 w0 w' ∧ countV_ok_res ea ga rowa a node x U1 (Mx X U1) w' vr := by
  have hxl := hx.le_
  have hst0 := hpre.start
  obtain ⟨S, hS⟩ : ∃ S, S = ids [rowa] := ⟨_, rfl⟩
  rw [← hS] at hst0
  refine calls_of (N := 34) (rs := [6]) (args := [.pointer (some ⟨ga, 0, none⟩), .int .i64 node, .slice Ax x.length cx]) Try.func42 rfl Try.ntmps42 Try.results42 rfl ?_
  refine WC.here (C := CC S w0 X w0 [rowa]) ?_ hst0
  have hob_2 := hoba
  obtain ⟨A0_2, c0_2, m2_2, r2_2, hrow_2, ho0_2, ho1_2, ho2_2, ho3_2, _⟩ := hob_2
  have ho0_2l := ho0_2.le_
  refine WC.sub (C' := CC S w0 X w0 [[(ga, .cells #[.slice A0_2 a.list.length c0_2, .int .i64 a.need, .map (some m2_2)] ea (0, 0))], r2_2]) (fun w hw => Cur.open_ (U := [[(ga, .cells #[.slice A0_2 a.list.length c0_2, .int .i64 a.need, .map (some m2_2)] ea (0, 0))], r2_2]) (R := []) hw hrow_2) ?_
  refine WC.seq ?_
  refine WC.region ?_
  refine WR.v (v := .bool false) rfl rfl rfl ?_ ?_
  · refine QV.qo ?_; exact q_assign rfl (by kernel_rfl)
  refine WR.nil ?_
  change WC _ _ _ _ _ _
  refine WC.seq ?_
  refine WC.region ?_
  refine WR.v (v := .pointer (some ⟨ga, 0, none⟩)) rfl rfl rfl ?_ ?_
  · refine QV.qo ?_; exact q_move rfl (by kernel_rfl)
  refine WR.v (v := .pointer (some ⟨ga, 0, none⟩)) rfl rfl rfl ?_ ?_
  · refine QV.qo ?_; exact q_nil (A := some ⟨ga, 0, none⟩) rfl (by kernel_rfl) rfl
  refine WR.v (v := .pointer (some ⟨ga, 2, none⟩)) rfl rfl rfl ?_ ?_
  · refine QV.qo ?_; exact q_field_loc (g := ga) (j := 0) 2 fld_81_2 rfl (by kernel_rfl) rfl
  refine WR.v (v := .map (some m2_2)) rfl rfl rfl ?_ ?_
  · refine QV.qo ?_; exact q_load_loc (i := 0) (g := ga) (j := 2) (v := .map (some m2_2)) rfl Try.isAgg79 (by kernel_rfl) rfl rfl
  refine WR.v (v := .int .i64 node) rfl rfl rfl ?_ ?_
  · refine QV.qo ?_; exact q_move rfl (by kernel_rfl)
  obtain ⟨v_4, ⟨A_7, c_8, hv_5, hc_9, hs_10⟩, hat_6⟩ := MapO.look ho3_2 (node) (z := .slice none 0 0) (zx := []) ⟨none, 0, rfl, Nat.zero_le _, Sl.nil _ _ _ _⟩
  obtain rfl : v_4 = _ := List.cons.inj hv_5 |>.1
  have hs_10l := hs_10.le_
  refine WR.v (v := .tuple #[.slice A_7 ((mget (node) (a.got)).getD []).length c_8, .bool ((mget (node) (a.got)).isSome)]) rfl rfl rfl ?_ ?_
  · refine QV.qo ?_; exact q_lookup2 hat_6 rfl Try.underlying79 Try.zeroValue40 (by kernel_rfl) (by kernel_rfl) (i := 1) rfl
  refine WR.v (v := .tuple #[.slice A_7 ((mget (node) (a.got)).getD []).length c_8, .bool ((mget (node) (a.got)).isSome)]) rfl rfl rfl ?_ ?_
  · refine QV.qo ?_; exact q_move rfl (by kernel_rfl)
  refine WR.v (v := .slice A_7 ((mget (node) (a.got)).getD []).length c_8) rfl rfl rfl ?_ ?_
  · refine QV.qo ?_; exact q_extract (vs := #[.slice A_7 ((mget (node) (a.got)).getD []).length c_8, .bool ((mget (node) (a.got)).isSome)]) rfl (by kernel_rfl) rfl
  refine WR.v (v := .bool ((mget (node) (a.got)).isSome)) rfl rfl rfl ?_ ?_
  · refine QV.qo ?_; exact q_extract (vs := #[.slice A_7 ((mget (node) (a.got)).getD []).length c_8, .bool ((mget (node) (a.got)).isSome)]) rfl (by kernel_rfl) rfl
  refine WR.v (v := .slice A_7 ((mget (node) (a.got)).getD []).length c_8) rfl rfl rfl ?_ ?_
  · refine QV.qo ?_; exact q_assign rfl (by kernel_rfl)
  refine WR.v (v := .bool ((mget (node) (a.got)).isSome)) rfl rfl rfl ?_ ?_
  · refine QV.qo ?_; exact q_assign rfl (by kernel_rfl)
  refine WR.nil ?_
  change WC _ _ _ _ _ _
  refine WC.seq ?_
  refine WC.seq ?_
  refine WC.region ?_
  refine WR.v (v := .bool ((mget (node) (a.got)).isSome)) rfl rfl rfl ?_ ?_
  · refine QV.qo ?_; exact q_move rfl (by kernel_rfl)
  refine WR.v (v := .bool ((mget (node) (a.got)).isSome)) rfl rfl rfl ?_ ?_
  · refine QV.qo ?_; exact q_move rfl (by kernel_rfl)
  refine WR.g0 (v := .pointer (some ⟨ga, 0, none⟩)) (c0 := true) (g := ((mget (node) (a.got)).isSome)) rfl rfl (by kernel_rfl) rfl rfl (fun hc_11 => ?_) ?_
  · refine QV.qo ?_; exact q_move rfl (by kernel_rfl)
  refine WR.g0 (v := .pointer (some ⟨ga, 0, none⟩)) (c0 := true) (g := ((mget (node) (a.got)).isSome)) rfl rfl (by kernel_rfl) rfl rfl (fun hc_12 => ?_) ?_
  · refine QV.qo ?_; exact q_nil (A := some ⟨ga, 0, none⟩) rfl (gv_of hc_12) rfl
  refine WR.g0 (v := .pointer (some ⟨ga, 0, none⟩)) (c0 := true) (g := ((mget (node) (a.got)).isSome)) rfl rfl (by kernel_rfl) rfl rfl (fun hc_13 => ?_) ?_
  · refine QV.qo ?_; exact q_field_loc (g := ga) (j := 0) 0 fld_81_0 rfl (gv_of hc_13) rfl
  refine WR.g0 (v := .slice A0_2 a.list.length c0_2) (c0 := true) (g := ((mget (node) (a.got)).isSome)) rfl rfl (by kernel_rfl) rfl rfl (fun hc_14 => ?_) ?_
  · refine QV.qo ?_; exact q_load_loc (i := 0) (g := ga) (j := 0) (v := .slice A0_2 a.list.length c0_2) rfl Try.isAgg22 (gv_of hc_14) rfl rfl
  refine WR.g0 (v := .int .i64 node) (c0 := true) (g := ((mget (node) (a.got)).isSome)) rfl rfl (by kernel_rfl) rfl rfl (fun hc_15 => ?_) ?_
  · refine QV.qo ?_; exact q_move rfl (by kernel_rfl)
  refine WR.g0 (v := .bool (decide (0 ≤ idxGo (a.list) (node) 0))) (c0 := true) (g := ((mget (node) (a.got)).isSome)) rfl rfl (by kernel_rfl) rfl rfl (fun hc_16 => ?_) ?_
  · exact q_call (args := #[.slice A0_2 a.list.length c0_2, .int .i64 node]) Try.call56 rfl (by exact args2 (gv_of hc_16) (gv_of hc_16)) (fun w hw => slices_Contains_ok w no A0_2 c0_2 (a.list) (Sl.step ho0_2 (hw.st0.trans (St.to_no _ _))) ho1_2 (node) hnode (fun _ h => h.elim))
  refine WR.g0 (v := .bool (!(decide (0 ≤ idxGo (a.list) (node) 0)))) (c0 := true) (g := ((mget (node) (a.got)).isSome)) rfl rfl (by kernel_rfl) rfl rfl (fun hc_17 => ?_) ?_
  · refine QV.qo ?_; exact q_not (g := (decide (0 ≤ idxGo (a.list) (node) 0))) rfl (gv_of hc_17)
  refine WR.v (v := .bool (((mget (node) (a.got)).isSome) || (!(decide (0 ≤ idxGo (a.list) (node) 0))))) rfl rfl rfl ?_ ?_
  · refine QV.qo ?_; exact q_pick (g := ((mget (node) (a.got)).isSome)) rfl (by kernel_rfl) (pk_or (c := true) rfl)
  refine WR.nil ?_
  change WC _ _ _ _ _ _
  refine WC.cond (b := (((mget (node) (a.got)).isSome) || (!(decide (0 ≤ idxGo (a.list) (node) 0))))) (by kernel_rfl) ?_ ?_
  · skip
    intro hb_18t
    refine WC.seq ?_
    refine WC.region ?_
    refine WR.v (v := .bool false) rfl rfl rfl ?_ ?_
    · refine QV.qo ?_; exact q_assign rfl (by kernel_rfl)
    refine WR.nil ?_
    change WC _ _ _ _ _ _
    refine WC.sub (C' := CC S w0 X w0 [rowa]) (fun w hw => Cur.fold_ (row := rowa) (U := [[(ga, .cells #[.slice A0_2 a.list.length c0_2, .int .i64 a.need, .map (some m2_2)] ea (0, 0))], r2_2]) (R := []) (hw.permL (((List.perm_middle (l₁ := ([r2_2] : List Rowb)) (a := ([(ga, .cells #[.slice A0_2 a.list.length c0_2, .int .i64 a.need, .map (some m2_2)] ea (0, 0))] : Rowb)) (l₂ := ([] : List Rowb))).symm).trans (List.perm_middle (l₁ := ([[(ga, .cells #[.slice A0_2 a.list.length c0_2, .int .i64 a.need, .map (some m2_2)] ea (0, 0))]] : List Rowb)) (a := (r2_2 : Rowb)) (l₂ := ([] : List Rowb))).symm)) hrow_2) ?_
    refine WC.ret ?_
    intro w hw
    have hm_19 : a = (AskV.count a node x).1 := by
      first | (simp only [AskV.count, hb_18t, Bool.not_true, Bool.not_false, Bool.and_false, Bool.false_and, Bool.and_true, Bool.true_and, Bool.or_true, Bool.true_or, Bool.or_false, Bool.false_or, cond_true, cond_false]; done) | (simp [AskV.count, hb_18t]; done)
    have hm_20 : false = (AskV.count a node x).2 := by
      first | (simp only [AskV.count, hb_18t, Bool.not_true, Bool.not_false, Bool.and_false, Bool.false_and, Bool.and_true, Bool.true_and, Bool.or_true, Bool.true_or, Bool.or_false, Bool.false_or, cond_true, cond_false]; done) | (simp [AskV.count, hb_18t]; done)
    have hw2 := Cur.perm (L' := [rowa]) hw (.cons_cons _ .slnil)
    rw [hS] at hw2
    refine ⟨_, rfl, [rowa], hw2.toEff, ?_⟩
    unfold countV_ok_res
    rw [← hm_19]
    rw [← hm_20]
    exact ⟨rowa, rfl, (by kernel_rfl), (hoba).step (hw2.st2 (fun _ h => h)), trivial⟩
  · skip
    intro hb_18f
    have hp_21 := (or_l hb_18f)
    have hp_22 := (not_f (or_r hb_18f))
    refine WC.skip ?_
    change WC _ _ _ _ _ _
    refine WC.seq ?_
    refine WC.region ?_
    refine WR.v (v := .pointer (some ⟨ga, 0, none⟩)) rfl rfl rfl ?_ ?_
    · refine QV.qo ?_; exact q_move rfl (by kernel_rfl)
    refine WR.v (v := .pointer (some ⟨ga, 0, none⟩)) rfl rfl rfl ?_ ?_
    · refine QV.qo ?_; exact q_nil (A := some ⟨ga, 0, none⟩) rfl (by kernel_rfl) rfl
    refine WR.v (v := .pointer (some ⟨ga, 2, none⟩)) rfl rfl rfl ?_ ?_
    · refine QV.qo ?_; exact q_field_loc (g := ga) (j := 0) 2 fld_81_2 rfl (by kernel_rfl) rfl
    refine WR.v (v := .map (some m2_2)) rfl rfl rfl ?_ ?_
    · refine QV.qo ?_; exact q_load_loc (i := 0) (g := ga) (j := 2) (v := .map (some m2_2)) rfl Try.isAgg79 (by kernel_rfl) rfl rfl
    refine WR.v (v := .int .i64 node) rfl rfl rfl ?_ ?_
    · refine QV.qo ?_; exact q_move rfl (by kernel_rfl)
    refine WR.v (v := .slice Ax x.length cx) rfl rfl rfl ?_ ?_
    · refine QV.qo ?_; exact q_move rfl (by kernel_rfl)
    refine e_mapUpdate (x := node) (v := .slice Ax x.length cx) (a := x) rfl rfl rfl Try.underlying79 (by kernel_rfl) (by kernel_rfl) (by kernel_rfl) (i := 1) rfl ho3_2 (by exact ⟨Ax, cx, rfl, hcx, hx⟩) ?_
    intro row_23 hm_24
    change WR _ _ _ (CC _ _ _ _ [[(ga, .cells #[.slice A0_2 a.list.length c0_2, .int .i64 a.need, .map (some m2_2)] ea (0, 0))], row_23]) _ _ _
    refine WR.nil ?_
    change WC _ _ _ _ _ _
    refine WC.seq ?_
    refine WC.region ?_
    refine WR.v (v := .bool true) rfl rfl rfl ?_ ?_
    · refine QV.qo ?_; exact q_assign rfl (by kernel_rfl)
    refine WR.nil ?_
    change WC _ _ _ _ _ _
    obtain ⟨row_26, hrow_26, hob_26⟩ : ∃ rw : Rowb, rw = ([[(ga, .cells #[.slice A0_2 a.list.length c0_2, .int .i64 a.need, .map (some m2_2)] ea (0, 0))], row_23] : List Rowb).flatten ∧ AskV.ob ea X w0 ga rw (⟨a.list, a.need, (mput (node) (x) (a.got))⟩ : AskV) := ⟨_, rfl, A0_2, c0_2, m2_2, row_23, rfl, ho0_2, ho1_2, ho2_2, hm_24, trivial⟩
    refine WC.sub (C' := CC S w0 X w0 [row_26]) (fun w hw => Cur.fold_ (row := row_26) (U := [[(ga, .cells #[.slice A0_2 a.list.length c0_2, .int .i64 a.need, .map (some m2_2)] ea (0, 0))], row_23]) (R := []) (hw.permL (((List.perm_middle (l₁ := ([row_23] : List Rowb)) (a := ([(ga, .cells #[.slice A0_2 a.list.length c0_2, .int .i64 a.need, .map (some m2_2)] ea (0, 0))] : Rowb)) (l₂ := ([] : List Rowb))).symm).trans (List.perm_middle (l₁ := ([[(ga, .cells #[.slice A0_2 a.list.length c0_2, .int .i64 a.need, .map (some m2_2)] ea (0, 0))]] : List Rowb)) (a := (row_23 : Rowb)) (l₂ := ([] : List Rowb))).symm)) hrow_26) ?_
    refine WC.ret ?_
    intro w hw
    have hm_28 : (⟨a.list, a.need, (mput (node) (x) (a.got))⟩ : AskV) = (AskV.count a node x).1 := by
      first | (simp only [AskV.count, hb_18f, Bool.not_true, Bool.not_false, Bool.and_false, Bool.false_and, Bool.and_true, Bool.true_and, Bool.or_true, Bool.true_or, Bool.or_false, Bool.false_or, cond_true, cond_false]; done) | (simp [AskV.count, hb_18f, hp_21, hp_22]; done)
    have hm_29 : true = (AskV.count a node x).2 := by
      first | (simp only [AskV.count, hb_18f, Bool.not_true, Bool.not_false, Bool.and_false, Bool.false_and, Bool.and_true, Bool.true_and, Bool.or_true, Bool.true_or, Bool.or_false, Bool.false_or, cond_true, cond_false]; done) | (simp [AskV.count, hb_18f, hp_21, hp_22]; done)
    have hw2 := Cur.perm (L' := [row_26]) hw (.cons_cons _ .slnil)
    rw [hS] at hw2
    refine ⟨_, rfl, [row_26], hw2.toEff, ?_⟩
    unfold countV_ok_res
    rw [← hm_28]
    rw [← hm_29]
    exact ⟨row_26, rfl, (by kernel_rfl), (hob_26).step (hw2.st2 (fun _ h => h)), trivial⟩

set_option maxRecDepth 100000 in
set_option maxHeartbeats 1000000 in
theorem doneV_ok (w0 : World) (X : Nat → Prop) (ea : TypeId) (ga : Nat) (rowa : Rowb) (a : AskV) (hoba : AskV.ob ea X w0 ga rowa a) (hpre : Pre [rowa] X w0) (hX : ∀ k, X k → k < w0.heap.size) : Calls Try.prog 44 #[.pointer (some ⟨ga, 0, none⟩)] w0 fun e w' => e = .returned (.bool (decide (a.need ≤ (a.got.length : Int)))) ∧ Fr no w0 w' := by
  refine calls_of (N := 13) (rs := [2]) (args := [.pointer (some ⟨ga, 0, none⟩)]) Try.func44 rfl Try.ntmps44 Try.results44 rfl ?_
  refine WC.here (C := CC (ids [rowa]) w0 X w0 [rowa]) ?_ hpre.start
  have hob_2 := hoba
  obtain ⟨A0_2, c0_2, m2_2, r2_2, hrow_2, ho0_2, ho1_2, ho2_2, ho3_2, _⟩ := hob_2
  have ho0_2l := ho0_2.le_
  refine WC.sub (C' := CC (ids [rowa]) w0 X w0 [[(ga, .cells #[.slice A0_2 a.list.length c0_2, .int .i64 a.need, .map (some m2_2)] ea (0, 0))], r2_2]) (fun w hw => Cur.open_ (U := [[(ga, .cells #[.slice A0_2 a.list.length c0_2, .int .i64 a.need, .map (some m2_2)] ea (0, 0))], r2_2]) (R := []) hw hrow_2) ?_
  refine WC.seq ?_
  refine WC.region ?_
  refine WR.v (v := .bool false) rfl rfl rfl ?_ ?_
  · refine QV.qo ?_; exact q_assign rfl (by kernel_rfl)
  refine WR.nil ?_
  change WC _ _ _ _ _ _
  refine WC.seq ?_
  refine WC.draw (by kernel_rfl) (by kernel_rfl) (fun w hw => hw.drawn _) ?_
  refine WQ.v (v := .pointer (some ⟨ga, 0, none⟩)) rfl rfl rfl ?_ ?_
  · refine QV.qo ?_; exact q_move rfl (by kernel_rfl)
  refine WQ.v (v := .pointer (some ⟨ga, 0, none⟩)) rfl rfl rfl ?_ ?_
  · refine QV.qo ?_; exact q_nil (A := some ⟨ga, 0, none⟩) rfl (by kernel_rfl) rfl
  refine WQ.v (v := .pointer (some ⟨ga, 2, none⟩)) rfl rfl rfl ?_ ?_
  · refine QV.qo ?_; exact q_field_loc (g := ga) (j := 0) 2 fld_81_2 rfl (by kernel_rfl) rfl
  refine WQ.v (v := .map (some m2_2)) rfl rfl rfl ?_ ?_
  · refine QV.qo ?_; exact q_load_loc (i := 0) (g := ga) (j := 2) (v := .map (some m2_2)) rfl Try.isAgg79 (by kernel_rfl) rfl rfl
  refine WQ.v (v := .int .i64 (((a.got).length : Nat) : Int)) rfl rfl rfl ?_ ?_
  · refine QV.qo ?_; exact q_len_map ho3_2 rfl Try.underlying79 (by kernel_rfl) (i := 1) rfl
  refine WQ.v (v := .pointer (some ⟨ga, 0, none⟩)) rfl rfl rfl ?_ ?_
  · refine QV.qo ?_; exact q_move rfl (by kernel_rfl)
  refine WQ.v (v := .pointer (some ⟨ga, 0, none⟩)) rfl rfl rfl ?_ ?_
  · refine QV.qo ?_; exact q_nil (A := some ⟨ga, 0, none⟩) rfl (by kernel_rfl) rfl
  refine WQ.v (v := .pointer (some ⟨ga, 1, none⟩)) rfl rfl rfl ?_ ?_
  · refine QV.qo ?_; exact q_field_loc (g := ga) (j := 0) 1 fld_81_1 rfl (by kernel_rfl) rfl
  refine WQ.v (v := .int .i64 a.need) rfl rfl rfl ?_ ?_
  · refine QV.qo ?_; exact q_load_loc (i := 0) (g := ga) (j := 1) (v := .int .i64 a.need) rfl Try.isAgg3 (by kernel_rfl) rfl rfl
  refine WQ.v (v := .bool (decide (a.need ≤ (((a.got).length : Nat) : Int)))) rfl rfl rfl ?_ ?_
  · refine QV.qo ?_; exact q_geq (k := .i64) (a := (((a.got).length : Nat) : Int)) (b := a.need) rfl (by kernel_rfl) (by kernel_rfl)
  refine WQ.v (v := .bool (decide (a.need ≤ (((a.got).length : Nat) : Int)))) rfl rfl rfl ?_ ?_
  · refine QV.qo ?_; exact q_assign rfl (by kernel_rfl)
  refine WQ.nil ?_
  change WC _ _ _ _ _ _
  refine WC.sub (C' := CC (ids [rowa]) w0 X w0 [rowa]) (fun w hw => Cur.fold_ (row := rowa) (U := [[(ga, .cells #[.slice A0_2 a.list.length c0_2, .int .i64 a.need, .map (some m2_2)] ea (0, 0))], r2_2]) (R := []) (hw.permL (((List.perm_middle (l₁ := ([r2_2] : List Rowb)) (a := ([(ga, .cells #[.slice A0_2 a.list.length c0_2, .int .i64 a.need, .map (some m2_2)] ea (0, 0))] : Rowb)) (l₂ := ([] : List Rowb))).symm).trans (List.perm_middle (l₁ := ([[(ga, .cells #[.slice A0_2 a.list.length c0_2, .int .i64 a.need, .map (some m2_2)] ea (0, 0))]] : List Rowb)) (a := (r2_2 : Rowb)) (l₂ := ([] : List Rowb))).symm)) hrow_2) ?_
  refine WC.ret ?_
  intro w hw
  refine ⟨congrArg Ending.returned (congrArg (Value.bool) ?_), Cur.frno hw hpre.loc⟩
  show (decide (a.need ≤ (((a.got).length : Nat) : Int))) = decide (a.need ≤ (a.got.length : Int))
  rfl

def NewWrite_ok_res (list : (List Int)) (need : Int) (U1 : List Rowb) (Xr : Nat → Prop) (wr : World) (vr : Value) : Prop := ((qOk list need) = true → ∃ (g_0 : Nat) (row_0 : Rowb), U1 = [row_0] ∧ vr = .tuple #[.pointer (some ⟨g_0, 0, none⟩), .int .i64 (0)] ∧ AskB.ob 72 Xr wr g_0 row_0 ((⟨list, need, []⟩ : AskB)) ∧ True) ∧ ((!(qOk list need)) = true → U1 = [] ∧ vr = .tuple #[.pointer none, .int .i64 (1)] ∧ True)
set_option maxRecDepth 100000 in
set_option maxHeartbeats 1000000 in
theorem NewWrite_ok (w0 : World) (X : Nat → Prop) (Alist : Option Addr) (clist : Nat) (list : (List Int)) (hlist : Sl intT X w0 Alist list) (hclist : list.length ≤ clist) (need : Int) (hneed : I64 need) (hpre : Pre [] X w0) (hX : ∀ k, X k → k < w0.heap.size) : Calls Try.prog 7 #[.slice Alist list.length clist, .int .i64 need] w0 fun e w' => ∃ vr, e = .returned vr ∧ ∃ U1, Eff [] U1 w0 w' ∧ NewWrite_ok_res list need U1 (Mx X U1) w' vr := by
  have hlistl := hlist.le_
  have hst0 := hpre.start
  obtain ⟨S, hS⟩ : ∃ S, S = ids [] := ⟨_, rfl⟩
  rw [← hS] at hst0
  have hS0 : ∀ k, ¬ S k := by subst hS; rintro k ⟨r, hr, _⟩; cases hr
  refine calls_of (N := 21) (rs := [4, 5]) (args := [.slice Alist list.length clist, .int .i64 need]) Try.func7 rfl Try.ntmps7 Try.results7 rfl ?_
  refine WC.here (C := CC S w0 X w0 []) ?_ hst0
  refine WC.seq ?_
  refine WC.region ?_
  refine WR.v (v := .pointer none) rfl rfl rfl ?_ ?_
  · refine QV.qo ?_; exact q_assign rfl (by kernel_rfl)
  refine WR.v (v := .int .i64 0) rfl rfl rfl ?_ ?_
  · refine QV.qo ?_; exact q_assign rfl (by kernel_rfl)
  refine WR.nil ?_
  change WC _ _ _ _ _ _
  refine WC.seq ?_
  refine WC.region ?_
  refine WR.v (v := .slice Alist list.length clist) rfl rfl rfl ?_ ?_
  · refine QV.qo ?_; exact q_move rfl (by kernel_rfl)
  refine WR.v (v := .int .i64 need) rfl rfl rfl ?_ ?_
  · refine QV.qo ?_; exact q_move rfl (by kernel_rfl)
  refine WR.sub (C' := CC S w0 X w0 ([] ++ [])) (fun w hw => hw) ?_
  refine e_call_eff (U := []) (R := []) (args := #[.slice Alist list.length clist, .int .i64 need]) (f := 35) (Res := askB_ok_res (list) (need)) rfl rfl (fun w => call_run (ty := 0) Try.call35 rfl rfl (by kernel_rfl) w) hX (X0 := X) (fun _ h => h) (fun w X' hs_ hl_ hp_ => askB_ok w X' Alist clist (list) (Sl.step hlist hs_) hclist (need) hneed hp_ hl_) ?_
  intro X_1 B_2 U' v hst_3 hxx_4 hxl_5 hres
  obtain ⟨hr_6, hr_7⟩ := hres
  cases hb_8 : (qOk (list) (need) : Bool) with
  | true =>
    obtain ⟨A0_9, c0_9, m2_9, r2_9, rfl, rfl, hu0_9, hu1_9, hu2_9, hu3_9, _⟩ := (hr_6 hb_8)
    have hu0_9l := hu0_9.le_
    change WR _ _ _ (CC _ _ X_1 B_2 [r2_9]) _ _ _
    refine WR.v (v := .tuple #[.agg #[.slice A0_9 ((⟨(list), (need), []⟩ : AskB)).list.length c0_9, .int .i64 ((⟨(list), (need), []⟩ : AskB)).need, .map (some m2_9)], .int .i64 (0)]) rfl rfl rfl ?_ ?_
    · refine QV.qo ?_; exact q_move rfl (by kernel_rfl)
    refine WR.v (v := .agg #[.slice A0_9 ((⟨(list), (need), []⟩ : AskB)).list.length c0_9, .int .i64 ((⟨(list), (need), []⟩ : AskB)).need, .map (some m2_9)]) rfl rfl rfl ?_ ?_
    · refine QV.qo ?_; exact q_extract (vs := #[.agg #[.slice A0_9 ((⟨(list), (need), []⟩ : AskB)).list.length c0_9, .int .i64 ((⟨(list), (need), []⟩ : AskB)).need, .map (some m2_9)], .int .i64 (0)]) rfl (by kernel_rfl) rfl
    refine WR.v (v := .int .i64 (0)) rfl rfl rfl ?_ ?_
    · refine QV.qo ?_; exact q_extract (vs := #[.agg #[.slice A0_9 ((⟨(list), (need), []⟩ : AskB)).list.length c0_9, .int .i64 ((⟨(list), (need), []⟩ : AskB)).need, .map (some m2_9)], .int .i64 (0)]) rfl (by kernel_rfl) rfl
    refine e_alloc (z := .agg #[.slice none 0 0, .int .i64 0, .map none]) rfl rfl rfl rfl Try.zeroValue68 ?_
    intro g_11 hg_11 hg_11e
    change WR _ _ _ (CC _ _ _ _ [[(g_11, .cells #[.slice none 0 0, .int .i64 0, .map none] 68 (0, 0))], r2_9]) _ _ _
    refine e_store_loc (i := 0) (g := g_11) (j := 0) (v := .agg #[.slice A0_9 ((⟨(list), (need), []⟩ : AskB)).list.length c0_9, .int .i64 ((⟨(list), (need), []⟩ : AskB)).need, .map (some m2_9)]) (new := #[.slice A0_9 ((⟨(list), (need), []⟩ : AskB)).list.length c0_9, .int .i64 ((⟨(list), (need), []⟩ : AskB)).need, .map (some m2_9)]) (L' := [[(g_11, .cells #[.slice A0_9 ((⟨(list), (need), []⟩ : AskB)).list.length c0_9, .int .i64 ((⟨(list), (need), []⟩ : AskB)).need, .map (some m2_9)] 68 (0, 0))], r2_9]) rfl rfl rfl (by kernel_rfl) (by kernel_rfl) Try.sizeOf68 rfl rfl rfl rfl rfl rfl ?_
    refine WR.v (v := .int .i64 (0)) rfl rfl rfl ?_ ?_
    · refine QV.qo ?_; exact q_assign rfl (by kernel_rfl)
    refine WR.nil ?_
    change WC _ _ _ _ _ _
    refine WC.seq ?_
    refine WC.seq ?_
    refine WC.region ?_
    refine WR.v (v := .int .i64 (0)) rfl rfl rfl ?_ ?_
    · refine QV.qo ?_; exact q_move rfl (by kernel_rfl)
    refine WR.v (v := .bool false) rfl rfl rfl ?_ ?_
    · refine QV.qo ?_; exact q_neq (k := .i64) (a := (0)) (b := 0) rfl (by kernel_rfl) (by kernel_rfl)
    refine WR.nil ?_
    change WC _ _ _ _ _ _
    refine WC.cond (b := false) (by kernel_rfl) ?_ ?_
    · skip
      intro hb_12; exact absurd (hb_12.symm.trans rfl) (by decide)
    · skip
      intro _
      refine WC.skip ?_
      change WC _ _ _ _ _ _
      refine WC.seq ?_
      refine WC.region ?_
      refine WR.v (v := .agg #[.slice A0_9 ((⟨(list), (need), []⟩ : AskB)).list.length c0_9, .int .i64 ((⟨(list), (need), []⟩ : AskB)).need, .map (some m2_9)]) rfl rfl rfl ?_ ?_
      · refine QV.qo ?_; exact q_load_loc_agg (i := 0) (g := g_11) (j := 0) (vs := [.slice A0_9 ((⟨(list), (need), []⟩ : AskB)).list.length c0_9, .int .i64 ((⟨(list), (need), []⟩ : AskB)).need, .map (some m2_9)]) rfl Try.isAgg68 Try.sizeOf68 (by kernel_rfl) rfl rfl
      refine WR.v (v := .agg #[.slice A0_9 ((⟨(list), (need), []⟩ : AskB)).list.length c0_9, .int .i64 ((⟨(list), (need), []⟩ : AskB)).need, .map (some m2_9)]) rfl rfl rfl ?_ ?_
      · refine QV.qo ?_; exact q_build' (ps := #[(0, .agg #[.slice A0_9 ((⟨(list), (need), []⟩ : AskB)).list.length c0_9, .int .i64 ((⟨(list), (need), []⟩ : AskB)).need, .map (some m2_9)])]) rfl (bargs1 (by kernel_rfl)) (fun w => by kernel_rfl)
      refine e_box (v := .agg #[.slice A0_9 ((⟨(list), (need), []⟩ : AskB)).list.length c0_9, .int .i64 ((⟨(list), (need), []⟩ : AskB)).need, .map (some m2_9)]) rfl rfl rfl rfl (by kernel_rfl) ?_
      intro g_13 hg_13 hg_13e
      change WR _ _ _ (CC _ _ _ _ [[(g_13, .cells #[.slice A0_9 ((⟨(list), (need), []⟩ : AskB)).list.length c0_9, .int .i64 ((⟨(list), (need), []⟩ : AskB)).need, .map (some m2_9)] 72 (0, 0))], [(g_11, .cells #[.slice A0_9 ((⟨(list), (need), []⟩ : AskB)).list.length c0_9, .int .i64 ((⟨(list), (need), []⟩ : AskB)).need, .map (some m2_9)] 68 (0, 0))], r2_9]) _ _ _
      refine WR.v (v := .int .i64 (0)) rfl rfl rfl ?_ ?_
      · refine QV.qo ?_; exact q_move rfl (by kernel_rfl)
      refine WR.v (v := .pointer (some ⟨g_13, 0, none⟩)) rfl rfl rfl ?_ ?_
      · refine QV.qo ?_; exact q_assign rfl (by kernel_rfl)
      refine WR.v (v := .int .i64 (0)) rfl rfl rfl ?_ ?_
      · refine QV.qo ?_; exact q_assign rfl (by kernel_rfl)
      refine WR.nil ?_
      change WC _ _ _ _ _ _
      obtain ⟨row_14, hrow_14, hob_14⟩ : ∃ rw : Rowb, rw = ([[(g_13, .cells #[.slice A0_9 ((⟨(list), (need), []⟩ : AskB)).list.length c0_9, .int .i64 ((⟨(list), (need), []⟩ : AskB)).need, .map (some m2_9)] 72 (0, 0))], r2_9] : List Rowb).flatten ∧ AskB.ob 72 X_1 B_2 g_13 rw (⟨((⟨(list), (need), []⟩ : AskB)).list, ((⟨(list), (need), []⟩ : AskB)).need, ((⟨(list), (need), []⟩ : AskB)).got⟩ : AskB) := ⟨_, rfl, A0_9, c0_9, m2_9, r2_9, rfl, hu0_9, hu1_9, hu2_9, hu3_9, trivial⟩
      refine WC.sub (C' := CC S w0 X_1 B_2 [row_14, [(g_11, .cells #[.slice A0_9 ((⟨(list), (need), []⟩ : AskB)).list.length c0_9, .int .i64 ((⟨(list), (need), []⟩ : AskB)).need, .map (some m2_9)] 68 (0, 0))]]) (fun w hw => Cur.fold_ (row := row_14) (U := [[(g_13, .cells #[.slice A0_9 ((⟨(list), (need), []⟩ : AskB)).list.length c0_9, .int .i64 ((⟨(list), (need), []⟩ : AskB)).need, .map (some m2_9)] 72 (0, 0))], r2_9]) (R := [[(g_11, .cells #[.slice A0_9 ((⟨(list), (need), []⟩ : AskB)).list.length c0_9, .int .i64 ((⟨(list), (need), []⟩ : AskB)).need, .map (some m2_9)] 68 (0, 0))]]) (hw.permL (((List.perm_middle (l₁ := ([r2_9] : List Rowb)) (a := ([(g_13, .cells #[.slice A0_9 ((⟨(list), (need), []⟩ : AskB)).list.length c0_9, .int .i64 ((⟨(list), (need), []⟩ : AskB)).need, .map (some m2_9)] 72 (0, 0))] : Rowb)) (l₂ := ([[(g_11, .cells #[.slice A0_9 ((⟨(list), (need), []⟩ : AskB)).list.length c0_9, .int .i64 ((⟨(list), (need), []⟩ : AskB)).need, .map (some m2_9)] 68 (0, 0))]] : List Rowb))).symm).trans (List.perm_middle (l₁ := ([[(g_13, .cells #[.slice A0_9 ((⟨(list), (need), []⟩ : AskB)).list.length c0_9, .int .i64 ((⟨(list), (need), []⟩ : AskB)).need, .map (some m2_9)] 72 (0, 0))], [(g_11, .cells #[.slice A0_9 ((⟨(list), (need), []⟩ : AskB)).list.length c0_9, .int .i64 ((⟨(list), (need), []⟩ : AskB)).need, .map (some m2_9)] 68 (0, 0))]] : List Rowb)) (a := (r2_9 : Rowb)) (l₂ := ([] : List Rowb))).symm)) hrow_14) ?_
      refine WC.ret ?_
      intro w hw
      have hm_16 : (⟨((⟨(list), (need), []⟩ : AskB)).list, ((⟨(list), (need), []⟩ : AskB)).need, ((⟨(list), (need), []⟩ : AskB)).got⟩ : AskB) = (⟨list, need, []⟩ : AskB) := by
        rfl
      have hm_17 : (0) = 0 := by
        rfl
      have hw2 := Cur.perm (L' := [row_14]) hw (.cons_cons _ (.cons _ .slnil))
      rw [hS] at hw2
      refine ⟨_, rfl, [row_14], hw2.toEff, ?_⟩
      unfold NewWrite_ok_res
      refine ⟨?_, ?_⟩
      · intro hcond
        rw [← hm_16]
        rw [← hm_17]
        exact ⟨g_13, row_14, rfl, (by kernel_rfl), (hob_14).step (hw2.st2 hxx_4), trivial⟩
      · intro hcond
        simp [hb_8] at hcond
  | false =>
    obtain ⟨rfl, rfl, _⟩ := (hr_7 (by simp only [hb_8]; rfl))
    change WR _ _ _ (CC _ _ X_1 B_2 []) _ _ _
    refine WR.v (v := .tuple #[.agg #[.slice none 0 0, .int .i64 0, .map none], .int .i64 (1)]) rfl rfl rfl ?_ ?_
    · refine QV.qo ?_; exact q_move rfl (by kernel_rfl)
    refine WR.v (v := .agg #[.slice none 0 0, .int .i64 0, .map none]) rfl rfl rfl ?_ ?_
    · refine QV.qo ?_; exact q_extract (vs := #[.agg #[.slice none 0 0, .int .i64 0, .map none], .int .i64 (1)]) rfl (by kernel_rfl) rfl
    refine WR.v (v := .int .i64 (1)) rfl rfl rfl ?_ ?_
    · refine QV.qo ?_; exact q_extract (vs := #[.agg #[.slice none 0 0, .int .i64 0, .map none], .int .i64 (1)]) rfl (by kernel_rfl) rfl
    refine e_alloc (z := .agg #[.slice none 0 0, .int .i64 0, .map none]) rfl rfl rfl rfl Try.zeroValue68 ?_
    intro g_18 hg_18 hg_18e
    change WR _ _ _ (CC _ _ _ _ [[(g_18, .cells #[.slice none 0 0, .int .i64 0, .map none] 68 (0, 0))]]) _ _ _
    refine e_store_loc (i := 0) (g := g_18) (j := 0) (v := .agg #[.slice none 0 0, .int .i64 0, .map none]) (new := #[.slice none 0 0, .int .i64 0, .map none]) (L' := [[(g_18, .cells #[.slice none 0 0, .int .i64 0, .map none] 68 (0, 0))]]) rfl rfl rfl (by kernel_rfl) (by kernel_rfl) Try.sizeOf68 rfl rfl rfl rfl rfl rfl ?_
    refine WR.v (v := .int .i64 (1)) rfl rfl rfl ?_ ?_
    · refine QV.qo ?_; exact q_assign rfl (by kernel_rfl)
    refine WR.nil ?_
    change WC _ _ _ _ _ _
    refine WC.seq ?_
    refine WC.seq ?_
    refine WC.region ?_
    refine WR.v (v := .int .i64 (1)) rfl rfl rfl ?_ ?_
    · refine QV.qo ?_; exact q_move rfl (by kernel_rfl)
    refine WR.v (v := .bool true) rfl rfl rfl ?_ ?_
    · refine QV.qo ?_; exact q_neq (k := .i64) (a := (1)) (b := 0) rfl (by kernel_rfl) (by kernel_rfl)
    refine WR.nil ?_
    change WC _ _ _ _ _ _
    refine WC.cond (b := true) (by kernel_rfl) ?_ ?_
    · skip
      intro _
      refine WC.seq ?_
      refine WC.region ?_
      refine WR.v (v := .int .i64 (1)) rfl rfl rfl ?_ ?_
      · refine QV.qo ?_; exact q_move rfl (by kernel_rfl)
      refine WR.v (v := .pointer none) rfl rfl rfl ?_ ?_
      · refine QV.qo ?_; exact q_assign rfl (by kernel_rfl)
      refine WR.v (v := .int .i64 (1)) rfl rfl rfl ?_ ?_
      · refine QV.qo ?_; exact q_assign rfl (by kernel_rfl)
      refine WR.nil ?_
      change WC _ _ _ _ _ _
      refine WC.ret ?_
      intro w hw
      have hm_21 : (1) = 1 := by
        rfl
      have hw2 := Cur.perm (L' := []) hw (.cons _ .slnil)
      rw [hS] at hw2
      refine ⟨_, rfl, [], hw2.toEff, ?_⟩
      unfold NewWrite_ok_res
      refine ⟨?_, ?_⟩
      · intro hcond
        simp [hb_8] at hcond
      · intro hcond
        rw [← hm_21]
        exact ⟨rfl, (by kernel_rfl), trivial⟩
    · skip
      intro hb_19; exact absurd (hb_19.symm.trans rfl) (by decide)

set_option maxRecDepth 100000 in
set_option maxHeartbeats 1000000 in
theorem NewWrite_Done_ok (w0 : World) (X : Nat → Prop) (gqw : Nat) (rowqw : Rowb) (qw : AskB) (hobqw : AskB.ob 72 X w0 gqw rowqw qw) (hpre : Pre [rowqw] X w0) (hX : ∀ k, X k → k < w0.heap.size) : Calls Try.prog 13 #[.pointer (some ⟨gqw, 0, none⟩)] w0 fun e w' => e = .returned (.bool (decide (qw.need ≤ (qw.got.length : Int)))) ∧ Fr no w0 w' := by
  refine calls_of (N := 7) (rs := [2]) (args := [.pointer (some ⟨gqw, 0, none⟩)]) Try.func13 rfl Try.ntmps13 Try.results13 rfl ?_
  refine WC.here (C := CC (ids [rowqw]) w0 X w0 [rowqw]) ?_ hpre.start
  refine WC.seq ?_
  refine WC.region ?_
  refine WR.v (v := .bool false) rfl rfl rfl ?_ ?_
  · refine QV.qo ?_; exact q_assign rfl (by kernel_rfl)
  refine WR.nil ?_
  change WC _ _ _ _ _ _
  refine WC.seq ?_
  refine WC.region ?_
  refine WR.v (v := .pointer (some ⟨gqw, 0, none⟩)) rfl rfl rfl ?_ ?_
  · refine QV.qo ?_; exact q_move rfl (by kernel_rfl)
  refine WR.v (v := .pointer (some ⟨gqw, 0, none⟩)) rfl rfl rfl ?_ ?_
  · refine QV.qo ?_; exact q_nil (A := some ⟨gqw, 0, none⟩) rfl (by kernel_rfl) rfl
  refine WR.v (v := .pointer (some ⟨gqw, 0, none⟩)) rfl rfl rfl ?_ ?_
  · refine QV.qo ?_; exact q_field_loc (g := gqw) (j := 0) 0 fld_72_0 rfl (by kernel_rfl) rfl
  refine WR.v (v := .bool (decide ((qw).need ≤ ((qw).got.length : Int)))) rfl rfl rfl ?_ ?_
  · exact q_call (args := #[.pointer (some ⟨gqw, 0, none⟩)]) Try.call38 rfl (by kernel_rfl) (fun w hw => doneB_ok w _ 72 gqw rowqw (qw) ((hobqw).step hw.st) (hw.preL.sub (.cons_cons _ .slnil)) (hw.mx_lt hX))
  refine WR.v (v := .bool (decide ((qw).need ≤ ((qw).got.length : Int)))) rfl rfl rfl ?_ ?_
  · refine QV.qo ?_; exact q_assign rfl (by kernel_rfl)
  refine WR.nil ?_
  change WC _ _ _ _ _ _
  refine WC.ret ?_
  intro w hw
  refine ⟨congrArg Ending.returned (congrArg (Value.bool) ?_), Cur.frno hw hpre.loc⟩
  show (decide ((qw).need ≤ ((qw).got.length : Int))) = decide (qw.need ≤ (qw.got.length : Int))
  rfl

def NewWrite_Waits_ok_res (qw : AskB) (Xr : Nat → Prop) (wr : World) (vr : Value) : Prop := ∃ A0 c0, vr = .slice A0 (qw.waits).length c0 ∧ Sl intT Xr wr A0 (qw.waits) ∧ (qw.waits).length ≤ c0
set_option maxRecDepth 100000 in
set_option maxHeartbeats 1000000 in
theorem NewWrite_Waits_ok (w0 : World) (X : Nat → Prop) (gqw : Nat) (rowqw : Rowb) (qw : AskB) (hobqw : AskB.ob 72 X w0 gqw rowqw qw) (hpre : Pre [rowqw] X w0) (hX : ∀ k, X k → k < w0.heap.size) : Calls Try.prog 16 #[.pointer (some ⟨gqw, 0, none⟩)] w0 fun e w' => ∃ vr, e = .returned vr ∧ NewWrite_Waits_ok_res qw X w' vr ∧ Fr no w0 w' := by
  refine calls_of (N := 7) (rs := [2]) (args := [.pointer (some ⟨gqw, 0, none⟩)]) Try.func16 rfl Try.ntmps16 Try.results16 rfl ?_
  refine WC.here (C := CC (ids [rowqw]) w0 X w0 [rowqw]) ?_ hpre.start
  refine WC.seq ?_
  refine WC.region ?_
  refine WR.v (v := .slice none 0 0) rfl rfl rfl ?_ ?_
  · refine QV.qo ?_; exact q_assign rfl (by kernel_rfl)
  refine WR.nil ?_
  change WC _ _ _ _ _ _
  refine WC.seq ?_
  refine WC.region ?_
  refine WR.v (v := .pointer (some ⟨gqw, 0, none⟩)) rfl rfl rfl ?_ ?_
  · refine QV.qo ?_; exact q_move rfl (by kernel_rfl)
  refine WR.v (v := .pointer (some ⟨gqw, 0, none⟩)) rfl rfl rfl ?_ ?_
  · refine QV.qo ?_; exact q_nil (A := some ⟨gqw, 0, none⟩) rfl (by kernel_rfl) rfl
  refine WR.v (v := .pointer (some ⟨gqw, 0, none⟩)) rfl rfl rfl ?_ ?_
  · refine QV.qo ?_; exact q_field_loc (g := gqw) (j := 0) 0 fld_72_0 rfl (by kernel_rfl) rfl
  refine e_call_look (args := #[.pointer (some ⟨gqw, 0, none⟩)]) (Res := waitsB_ok_res (qw)) rfl rfl rfl Try.call39 rfl (by kernel_rfl) hX (fun w X' hs_ hl_ hp_ => waitsB_ok w X' 72 gqw rowqw (qw) ((hobqw).step hs_) (hp_.sub (.cons_cons _ .slnil)) hl_) ?_
  intro X_2 B_3 v hst_4 hxx_5 hxl_6 hres
  obtain ⟨A_7, c_8, rfl, hs_9, hc_10⟩ := hres
  try have hs_9l := hs_9.le_
  change WR _ _ _ (CC _ _ X_2 B_3 [rowqw]) _ _ _
  refine WR.v (v := .slice A_7 ((qw).waits).length c_8) rfl rfl rfl ?_ ?_
  · refine QV.qo ?_; exact q_assign rfl (by kernel_rfl)
  refine WR.nil ?_
  change WC _ _ _ _ _ _
  refine WC.ret ?_
  intro w hw
  have hm_11 : ((qw).waits) = qw.waits := by
    rfl
  refine ⟨_, rfl, ?_, Cur.frno hw hpre.loc⟩
  unfold NewWrite_Waits_ok_res
  rw [← hm_11]
  exact ⟨A_7, c_8, (by kernel_rfl), Sl.step hs_9 (hw.st0.trans (St.less hxx_5)), hc_10⟩

def NewRead_ok_res (list : (List Int)) (need : Int) (U1 : List Rowb) (Xr : Nat → Prop) (wr : World) (vr : Value) : Prop := ((qOk list need) = true → ∃ (g_0 : Nat) (row_0 : Rowb), U1 = [row_0] ∧ vr = .tuple #[.pointer (some ⟨g_0, 0, none⟩), .int .i64 (0)] ∧ AskV.ob 85 Xr wr g_0 row_0 ((⟨list, need, []⟩ : AskV)) ∧ True) ∧ ((!(qOk list need)) = true → U1 = [] ∧ vr = .tuple #[.pointer none, .int .i64 (1)] ∧ True)
set_option maxRecDepth 100000 in
set_option maxHeartbeats 1000000 in
theorem NewRead_ok (w0 : World) (X : Nat → Prop) (Alist : Option Addr) (clist : Nat) (list : (List Int)) (hlist : Sl intT X w0 Alist list) (hclist : list.length ≤ clist) (need : Int) (hneed : I64 need) (hpre : Pre [] X w0) (hX : ∀ k, X k → k < w0.heap.size) : Calls Try.prog 18 #[.slice Alist list.length clist, .int .i64 need] w0 fun e w' => ∃ vr, e = .returned vr ∧ ∃ U1, Eff [] U1 w0 w' ∧ NewRead_ok_res list need U1 (Mx X U1) w' vr := by
  have hlistl := hlist.le_
  have hst0 := hpre.start
  obtain ⟨S, hS⟩ : ∃ S, S = ids [] := ⟨_, rfl⟩
  rw [← hS] at hst0
  have hS0 : ∀ k, ¬ S k := by subst hS; rintro k ⟨r, hr, _⟩; cases hr
  refine calls_of (N := 21) (rs := [4, 5]) (args := [.slice Alist list.length clist, .int .i64 need]) Try.func18 rfl Try.ntmps18 Try.results18 rfl ?_
  refine WC.here (C := CC S w0 X w0 []) ?_ hst0
  refine WC.seq ?_
  refine WC.region ?_
  refine WR.v (v := .pointer none) rfl rfl rfl ?_ ?_
  · refine QV.qo ?_; exact q_assign rfl (by kernel_rfl)
  refine WR.v (v := .int .i64 0) rfl rfl rfl ?_ ?_
  · refine QV.qo ?_; exact q_assign rfl (by kernel_rfl)
  refine WR.nil ?_
  change WC _ _ _ _ _ _
  refine WC.seq ?_
  refine WC.region ?_
  refine WR.v (v := .slice Alist list.length clist) rfl rfl rfl ?_ ?_
  · refine QV.qo ?_; exact q_move rfl (by kernel_rfl)
  refine WR.v (v := .int .i64 need) rfl rfl rfl ?_ ?_
  · refine QV.qo ?_; exact q_move rfl (by kernel_rfl)
  refine WR.sub (C' := CC S w0 X w0 ([] ++ [])) (fun w hw => hw) ?_
  refine e_call_eff (U := []) (R := []) (args := #[.slice Alist list.length clist, .int .i64 need]) (f := 40) (Res := askV_ok_res (list) (need)) rfl rfl (fun w => call_run (ty := 0) Try.call40 rfl rfl (by kernel_rfl) w) hX (X0 := X) (fun _ h => h) (fun w X' hs_ hl_ hp_ => askV_ok w X' Alist clist (list) (Sl.step hlist hs_) hclist (need) hneed hp_ hl_) ?_
  intro X_1 B_2 U' v hst_3 hxx_4 hxl_5 hres
  obtain ⟨hr_6, hr_7⟩ := hres
  cases hb_8 : (qOk (list) (need) : Bool) with
  | true =>
    obtain ⟨A0_9, c0_9, m2_9, r2_9, rfl, rfl, hu0_9, hu1_9, hu2_9, hu3_9, _⟩ := (hr_6 hb_8)
    have hu0_9l := hu0_9.le_
    change WR _ _ _ (CC _ _ X_1 B_2 [r2_9]) _ _ _
    refine WR.v (v := .tuple #[.agg #[.slice A0_9 ((⟨(list), (need), []⟩ : AskV)).list.length c0_9, .int .i64 ((⟨(list), (need), []⟩ : AskV)).need, .map (some m2_9)], .int .i64 (0)]) rfl rfl rfl ?_ ?_
    · refine QV.qo ?_; exact q_move rfl (by kernel_rfl)
    refine WR.v (v := .agg #[.slice A0_9 ((⟨(list), (need), []⟩ : AskV)).list.length c0_9, .int .i64 ((⟨(list), (need), []⟩ : AskV)).need, .map (some m2_9)]) rfl rfl rfl ?_ ?_
    · refine QV.qo ?_; exact q_extract (vs := #[.agg #[.slice A0_9 ((⟨(list), (need), []⟩ : AskV)).list.length c0_9, .int .i64 ((⟨(list), (need), []⟩ : AskV)).need, .map (some m2_9)], .int .i64 (0)]) rfl (by kernel_rfl) rfl
    refine WR.v (v := .int .i64 (0)) rfl rfl rfl ?_ ?_
    · refine QV.qo ?_; exact q_extract (vs := #[.agg #[.slice A0_9 ((⟨(list), (need), []⟩ : AskV)).list.length c0_9, .int .i64 ((⟨(list), (need), []⟩ : AskV)).need, .map (some m2_9)], .int .i64 (0)]) rfl (by kernel_rfl) rfl
    refine e_alloc (z := .agg #[.slice none 0 0, .int .i64 0, .map none]) rfl rfl rfl rfl Try.zeroValue81 ?_
    intro g_11 hg_11 hg_11e
    change WR _ _ _ (CC _ _ _ _ [[(g_11, .cells #[.slice none 0 0, .int .i64 0, .map none] 81 (0, 0))], r2_9]) _ _ _
    refine e_store_loc (i := 0) (g := g_11) (j := 0) (v := .agg #[.slice A0_9 ((⟨(list), (need), []⟩ : AskV)).list.length c0_9, .int .i64 ((⟨(list), (need), []⟩ : AskV)).need, .map (some m2_9)]) (new := #[.slice A0_9 ((⟨(list), (need), []⟩ : AskV)).list.length c0_9, .int .i64 ((⟨(list), (need), []⟩ : AskV)).need, .map (some m2_9)]) (L' := [[(g_11, .cells #[.slice A0_9 ((⟨(list), (need), []⟩ : AskV)).list.length c0_9, .int .i64 ((⟨(list), (need), []⟩ : AskV)).need, .map (some m2_9)] 81 (0, 0))], r2_9]) rfl rfl rfl (by kernel_rfl) (by kernel_rfl) Try.sizeOf81 rfl rfl rfl rfl rfl rfl ?_
    refine WR.v (v := .int .i64 (0)) rfl rfl rfl ?_ ?_
    · refine QV.qo ?_; exact q_assign rfl (by kernel_rfl)
    refine WR.nil ?_
    change WC _ _ _ _ _ _
    refine WC.seq ?_
    refine WC.seq ?_
    refine WC.region ?_
    refine WR.v (v := .int .i64 (0)) rfl rfl rfl ?_ ?_
    · refine QV.qo ?_; exact q_move rfl (by kernel_rfl)
    refine WR.v (v := .bool false) rfl rfl rfl ?_ ?_
    · refine QV.qo ?_; exact q_neq (k := .i64) (a := (0)) (b := 0) rfl (by kernel_rfl) (by kernel_rfl)
    refine WR.nil ?_
    change WC _ _ _ _ _ _
    refine WC.cond (b := false) (by kernel_rfl) ?_ ?_
    · skip
      intro hb_12; exact absurd (hb_12.symm.trans rfl) (by decide)
    · skip
      intro _
      refine WC.skip ?_
      change WC _ _ _ _ _ _
      refine WC.seq ?_
      refine WC.region ?_
      refine WR.v (v := .agg #[.slice A0_9 ((⟨(list), (need), []⟩ : AskV)).list.length c0_9, .int .i64 ((⟨(list), (need), []⟩ : AskV)).need, .map (some m2_9)]) rfl rfl rfl ?_ ?_
      · refine QV.qo ?_; exact q_load_loc_agg (i := 0) (g := g_11) (j := 0) (vs := [.slice A0_9 ((⟨(list), (need), []⟩ : AskV)).list.length c0_9, .int .i64 ((⟨(list), (need), []⟩ : AskV)).need, .map (some m2_9)]) rfl Try.isAgg81 Try.sizeOf81 (by kernel_rfl) rfl rfl
      refine WR.v (v := .agg #[.slice A0_9 ((⟨(list), (need), []⟩ : AskV)).list.length c0_9, .int .i64 ((⟨(list), (need), []⟩ : AskV)).need, .map (some m2_9)]) rfl rfl rfl ?_ ?_
      · refine QV.qo ?_; exact q_build' (ps := #[(0, .agg #[.slice A0_9 ((⟨(list), (need), []⟩ : AskV)).list.length c0_9, .int .i64 ((⟨(list), (need), []⟩ : AskV)).need, .map (some m2_9)])]) rfl (bargs1 (by kernel_rfl)) (fun w => by kernel_rfl)
      refine e_box (v := .agg #[.slice A0_9 ((⟨(list), (need), []⟩ : AskV)).list.length c0_9, .int .i64 ((⟨(list), (need), []⟩ : AskV)).need, .map (some m2_9)]) rfl rfl rfl rfl (by kernel_rfl) ?_
      intro g_13 hg_13 hg_13e
      change WR _ _ _ (CC _ _ _ _ [[(g_13, .cells #[.slice A0_9 ((⟨(list), (need), []⟩ : AskV)).list.length c0_9, .int .i64 ((⟨(list), (need), []⟩ : AskV)).need, .map (some m2_9)] 85 (0, 0))], [(g_11, .cells #[.slice A0_9 ((⟨(list), (need), []⟩ : AskV)).list.length c0_9, .int .i64 ((⟨(list), (need), []⟩ : AskV)).need, .map (some m2_9)] 81 (0, 0))], r2_9]) _ _ _
      refine WR.v (v := .int .i64 (0)) rfl rfl rfl ?_ ?_
      · refine QV.qo ?_; exact q_move rfl (by kernel_rfl)
      refine WR.v (v := .pointer (some ⟨g_13, 0, none⟩)) rfl rfl rfl ?_ ?_
      · refine QV.qo ?_; exact q_assign rfl (by kernel_rfl)
      refine WR.v (v := .int .i64 (0)) rfl rfl rfl ?_ ?_
      · refine QV.qo ?_; exact q_assign rfl (by kernel_rfl)
      refine WR.nil ?_
      change WC _ _ _ _ _ _
      obtain ⟨row_14, hrow_14, hob_14⟩ : ∃ rw : Rowb, rw = ([[(g_13, .cells #[.slice A0_9 ((⟨(list), (need), []⟩ : AskV)).list.length c0_9, .int .i64 ((⟨(list), (need), []⟩ : AskV)).need, .map (some m2_9)] 85 (0, 0))], r2_9] : List Rowb).flatten ∧ AskV.ob 85 X_1 B_2 g_13 rw (⟨((⟨(list), (need), []⟩ : AskV)).list, ((⟨(list), (need), []⟩ : AskV)).need, ((⟨(list), (need), []⟩ : AskV)).got⟩ : AskV) := ⟨_, rfl, A0_9, c0_9, m2_9, r2_9, rfl, hu0_9, hu1_9, hu2_9, hu3_9, trivial⟩
      refine WC.sub (C' := CC S w0 X_1 B_2 [row_14, [(g_11, .cells #[.slice A0_9 ((⟨(list), (need), []⟩ : AskV)).list.length c0_9, .int .i64 ((⟨(list), (need), []⟩ : AskV)).need, .map (some m2_9)] 81 (0, 0))]]) (fun w hw => Cur.fold_ (row := row_14) (U := [[(g_13, .cells #[.slice A0_9 ((⟨(list), (need), []⟩ : AskV)).list.length c0_9, .int .i64 ((⟨(list), (need), []⟩ : AskV)).need, .map (some m2_9)] 85 (0, 0))], r2_9]) (R := [[(g_11, .cells #[.slice A0_9 ((⟨(list), (need), []⟩ : AskV)).list.length c0_9, .int .i64 ((⟨(list), (need), []⟩ : AskV)).need, .map (some m2_9)] 81 (0, 0))]]) (hw.permL (((List.perm_middle (l₁ := ([r2_9] : List Rowb)) (a := ([(g_13, .cells #[.slice A0_9 ((⟨(list), (need), []⟩ : AskV)).list.length c0_9, .int .i64 ((⟨(list), (need), []⟩ : AskV)).need, .map (some m2_9)] 85 (0, 0))] : Rowb)) (l₂ := ([[(g_11, .cells #[.slice A0_9 ((⟨(list), (need), []⟩ : AskV)).list.length c0_9, .int .i64 ((⟨(list), (need), []⟩ : AskV)).need, .map (some m2_9)] 81 (0, 0))]] : List Rowb))).symm).trans (List.perm_middle (l₁ := ([[(g_13, .cells #[.slice A0_9 ((⟨(list), (need), []⟩ : AskV)).list.length c0_9, .int .i64 ((⟨(list), (need), []⟩ : AskV)).need, .map (some m2_9)] 85 (0, 0))], [(g_11, .cells #[.slice A0_9 ((⟨(list), (need), []⟩ : AskV)).list.length c0_9, .int .i64 ((⟨(list), (need), []⟩ : AskV)).need, .map (some m2_9)] 81 (0, 0))]] : List Rowb)) (a := (r2_9 : Rowb)) (l₂ := ([] : List Rowb))).symm)) hrow_14) ?_
      refine WC.ret ?_
      intro w hw
      have hm_16 : (⟨((⟨(list), (need), []⟩ : AskV)).list, ((⟨(list), (need), []⟩ : AskV)).need, ((⟨(list), (need), []⟩ : AskV)).got⟩ : AskV) = (⟨list, need, []⟩ : AskV) := by
        rfl
      have hm_17 : (0) = 0 := by
        rfl
      have hw2 := Cur.perm (L' := [row_14]) hw (.cons_cons _ (.cons _ .slnil))
      rw [hS] at hw2
      refine ⟨_, rfl, [row_14], hw2.toEff, ?_⟩
      unfold NewRead_ok_res
      refine ⟨?_, ?_⟩
      · intro hcond
        rw [← hm_16]
        rw [← hm_17]
        exact ⟨g_13, row_14, rfl, (by kernel_rfl), (hob_14).step (hw2.st2 hxx_4), trivial⟩
      · intro hcond
        simp [hb_8] at hcond
  | false =>
    obtain ⟨rfl, rfl, _⟩ := (hr_7 (by simp only [hb_8]; rfl))
    change WR _ _ _ (CC _ _ X_1 B_2 []) _ _ _
    refine WR.v (v := .tuple #[.agg #[.slice none 0 0, .int .i64 0, .map none], .int .i64 (1)]) rfl rfl rfl ?_ ?_
    · refine QV.qo ?_; exact q_move rfl (by kernel_rfl)
    refine WR.v (v := .agg #[.slice none 0 0, .int .i64 0, .map none]) rfl rfl rfl ?_ ?_
    · refine QV.qo ?_; exact q_extract (vs := #[.agg #[.slice none 0 0, .int .i64 0, .map none], .int .i64 (1)]) rfl (by kernel_rfl) rfl
    refine WR.v (v := .int .i64 (1)) rfl rfl rfl ?_ ?_
    · refine QV.qo ?_; exact q_extract (vs := #[.agg #[.slice none 0 0, .int .i64 0, .map none], .int .i64 (1)]) rfl (by kernel_rfl) rfl
    refine e_alloc (z := .agg #[.slice none 0 0, .int .i64 0, .map none]) rfl rfl rfl rfl Try.zeroValue81 ?_
    intro g_18 hg_18 hg_18e
    change WR _ _ _ (CC _ _ _ _ [[(g_18, .cells #[.slice none 0 0, .int .i64 0, .map none] 81 (0, 0))]]) _ _ _
    refine e_store_loc (i := 0) (g := g_18) (j := 0) (v := .agg #[.slice none 0 0, .int .i64 0, .map none]) (new := #[.slice none 0 0, .int .i64 0, .map none]) (L' := [[(g_18, .cells #[.slice none 0 0, .int .i64 0, .map none] 81 (0, 0))]]) rfl rfl rfl (by kernel_rfl) (by kernel_rfl) Try.sizeOf81 rfl rfl rfl rfl rfl rfl ?_
    refine WR.v (v := .int .i64 (1)) rfl rfl rfl ?_ ?_
    · refine QV.qo ?_; exact q_assign rfl (by kernel_rfl)
    refine WR.nil ?_
    change WC _ _ _ _ _ _
    refine WC.seq ?_
    refine WC.seq ?_
    refine WC.region ?_
    refine WR.v (v := .int .i64 (1)) rfl rfl rfl ?_ ?_
    · refine QV.qo ?_; exact q_move rfl (by kernel_rfl)
    refine WR.v (v := .bool true) rfl rfl rfl ?_ ?_
    · refine QV.qo ?_; exact q_neq (k := .i64) (a := (1)) (b := 0) rfl (by kernel_rfl) (by kernel_rfl)
    refine WR.nil ?_
    change WC _ _ _ _ _ _
    refine WC.cond (b := true) (by kernel_rfl) ?_ ?_
    · skip
      intro _
      refine WC.seq ?_
      refine WC.region ?_
      refine WR.v (v := .int .i64 (1)) rfl rfl rfl ?_ ?_
      · refine QV.qo ?_; exact q_move rfl (by kernel_rfl)
      refine WR.v (v := .pointer none) rfl rfl rfl ?_ ?_
      · refine QV.qo ?_; exact q_assign rfl (by kernel_rfl)
      refine WR.v (v := .int .i64 (1)) rfl rfl rfl ?_ ?_
      · refine QV.qo ?_; exact q_assign rfl (by kernel_rfl)
      refine WR.nil ?_
      change WC _ _ _ _ _ _
      refine WC.ret ?_
      intro w hw
      have hm_21 : (1) = 1 := by
        rfl
      have hw2 := Cur.perm (L' := []) hw (.cons _ .slnil)
      rw [hS] at hw2
      refine ⟨_, rfl, [], hw2.toEff, ?_⟩
      unfold NewRead_ok_res
      refine ⟨?_, ?_⟩
      · intro hcond
        simp [hb_8] at hcond
      · intro hcond
        rw [← hm_21]
        exact ⟨rfl, (by kernel_rfl), trivial⟩
    · skip
      intro hb_19; exact absurd (hb_19.symm.trans rfl) (by decide)

set_option maxRecDepth 100000 in
set_option maxHeartbeats 1000000 in
theorem NewRead_Done_ok (w0 : World) (X : Nat → Prop) (gqw : Nat) (rowqw : Rowb) (qw : AskV) (hobqw : AskV.ob 85 X w0 gqw rowqw qw) (hpre : Pre [rowqw] X w0) (hX : ∀ k, X k → k < w0.heap.size) : Calls Try.prog 21 #[.pointer (some ⟨gqw, 0, none⟩)] w0 fun e w' => e = .returned (.bool (decide (qw.need ≤ (qw.got.length : Int)))) ∧ Fr no w0 w' := by
  refine calls_of (N := 7) (rs := [2]) (args := [.pointer (some ⟨gqw, 0, none⟩)]) Try.func21 rfl Try.ntmps21 Try.results21 rfl ?_
  refine WC.here (C := CC (ids [rowqw]) w0 X w0 [rowqw]) ?_ hpre.start
  refine WC.seq ?_
  refine WC.region ?_
  refine WR.v (v := .bool false) rfl rfl rfl ?_ ?_
  · refine QV.qo ?_; exact q_assign rfl (by kernel_rfl)
  refine WR.nil ?_
  change WC _ _ _ _ _ _
  refine WC.seq ?_
  refine WC.region ?_
  refine WR.v (v := .pointer (some ⟨gqw, 0, none⟩)) rfl rfl rfl ?_ ?_
  · refine QV.qo ?_; exact q_move rfl (by kernel_rfl)
  refine WR.v (v := .pointer (some ⟨gqw, 0, none⟩)) rfl rfl rfl ?_ ?_
  · refine QV.qo ?_; exact q_nil (A := some ⟨gqw, 0, none⟩) rfl (by kernel_rfl) rfl
  refine WR.v (v := .pointer (some ⟨gqw, 0, none⟩)) rfl rfl rfl ?_ ?_
  · refine QV.qo ?_; exact q_field_loc (g := gqw) (j := 0) 0 fld_85_0 rfl (by kernel_rfl) rfl
  refine WR.v (v := .bool (decide ((qw).need ≤ ((qw).got.length : Int)))) rfl rfl rfl ?_ ?_
  · exact q_call (args := #[.pointer (some ⟨gqw, 0, none⟩)]) Try.call44 rfl (by kernel_rfl) (fun w hw => doneV_ok w _ 85 gqw rowqw (qw) ((hobqw).step hw.st) (hw.preL.sub (.cons_cons _ .slnil)) (hw.mx_lt hX))
  refine WR.v (v := .bool (decide ((qw).need ≤ ((qw).got.length : Int)))) rfl rfl rfl ?_ ?_
  · refine QV.qo ?_; exact q_assign rfl (by kernel_rfl)
  refine WR.nil ?_
  change WC _ _ _ _ _ _
  refine WC.ret ?_
  intro w hw
  refine ⟨congrArg Ending.returned (congrArg (Value.bool) ?_), Cur.frno hw hpre.loc⟩
  show (decide ((qw).need ≤ ((qw).got.length : Int))) = decide (qw.need ≤ (qw.got.length : Int))
  rfl

def Write_Ack_ok_res (gqw : Nat) (rowqw : Rowb) (qw : AskB) (node : Int) (U1 : List Rowb) (Xr : Nat → Prop) (wr : World) (vr : Value) : Prop := (∃ (rowqw1 : Rowb), U1 = [rowqw1] ∧ vr = .bool ((AskB.count qw node true).2) ∧ AskB.ob 72 Xr wr gqw rowqw1 ((AskB.count qw node true).1) ∧ True)
set_option maxRecDepth 100000 in
set_option maxHeartbeats 1000000 in
theorem Write_Ack_ok (w0 : World) (X : Nat → Prop) (gqw : Nat) (rowqw : Rowb) (qw : AskB) (hobqw : AskB.ob 72 X w0 gqw rowqw qw) (node : Int) (hnode : I64 node) (hpre : Pre [rowqw] X w0) (hX : ∀ k, X k → k < w0.heap.size) : Calls Try.prog 11 #[.pointer (some ⟨gqw, 0, none⟩), .int .i64 node] w0 fun e w' => ∃ vr, e = .returned vr ∧ ∃ U1, Eff [rowqw] U1 w0 w' ∧ Write_Ack_ok_res gqw rowqw qw node U1 (Mx X U1) w' vr := by
  have hst0 := hpre.start
  obtain ⟨S, hS⟩ : ∃ S, S = ids [rowqw] := ⟨_, rfl⟩
  rw [← hS] at hst0
  refine calls_of (N := 10) (rs := [4]) (args := [.pointer (some ⟨gqw, 0, none⟩), .int .i64 node]) Try.func11 rfl Try.ntmps11 Try.results11 rfl ?_
  refine WC.here (C := CC S w0 X w0 [rowqw]) ?_ hst0
  refine WC.seq ?_
  refine WC.region ?_
  refine WR.v (v := .bool false) rfl rfl rfl ?_ ?_
  · refine QV.qo ?_; exact q_assign rfl (by kernel_rfl)
  refine WR.nil ?_
  change WC _ _ _ _ _ _
  refine WC.seq ?_
  refine WC.region ?_
  refine WR.v (v := .pointer (some ⟨gqw, 0, none⟩)) rfl rfl rfl ?_ ?_
  · refine QV.qo ?_; exact q_move rfl (by kernel_rfl)
  refine WR.v (v := .pointer (some ⟨gqw, 0, none⟩)) rfl rfl rfl ?_ ?_
  · refine QV.qo ?_; exact q_nil (A := some ⟨gqw, 0, none⟩) rfl (by kernel_rfl) rfl
  refine WR.v (v := .pointer (some ⟨gqw, 0, none⟩)) rfl rfl rfl ?_ ?_
  · refine QV.qo ?_; exact q_field_loc (g := gqw) (j := 0) 0 fld_72_0 rfl (by kernel_rfl) rfl
  refine WR.v (v := .int .i64 node) rfl rfl rfl ?_ ?_
  · refine QV.qo ?_; exact q_move rfl (by kernel_rfl)
  refine WR.sub (C' := CC S w0 X w0 ([rowqw] ++ [])) (fun w hw => hw) ?_
  refine e_call_eff (U := [rowqw]) (R := []) (args := #[.pointer (some ⟨gqw, 0, none⟩), .int .i64 node, .bool true]) (f := 36) (Res := countB_ok_res 72 gqw rowqw (qw) (node) (true)) rfl rfl (fun w => call_run (ty := 0) Try.call36 rfl rfl (by kernel_rfl) w) hX (X0 := X) (fun _ h => h) (fun w X' hs_ hl_ hp_ => countB_ok w X' 72 gqw rowqw (qw) ((hobqw).step hs_) (node) hnode (true) hp_ hl_) ?_
  intro X_2 B_3 U' v hst_4 hxx_5 hxl_6 hres
  obtain ⟨row_7, rfl, rfl, hob_8, _⟩ := hres
  change WR _ _ _ (CC _ _ X_2 B_3 [row_7]) _ _ _
  refine WR.v (v := .bool ((AskB.count (qw) (node) (true)).2)) rfl rfl rfl ?_ ?_
  · refine QV.qo ?_; exact q_assign rfl (by kernel_rfl)
  refine WR.nil ?_
  change WC _ _ _ _ _ _
  refine WC.ret ?_
  intro w hw
  have hm_10 : ((AskB.count (qw) (node) (true)).1) = (AskB.count qw node true).1 := by
    rfl
  have hm_11 : ((AskB.count (qw) (node) (true)).2) = (AskB.count qw node true).2 := by
    rfl
  have hw2 := Cur.perm (L' := [row_7]) hw (.cons_cons _ .slnil)
  rw [hS] at hw2
  refine ⟨_, rfl, [row_7], hw2.toEff, ?_⟩
  unfold Write_Ack_ok_res
  rw [← hm_10]
  rw [← hm_11]
  exact ⟨row_7, rfl, (by kernel_rfl), (hob_8).step (hw2.st2 hxx_5), trivial⟩

def Read_Got_ok_res (gr : Nat) (rowr : Rowb) (r : AskV) (node : Int) (l : (List Ver)) (U1 : List Rowb) (Xr : Nat → Prop) (wr : World) (vr : Value) : Prop := (∃ (rowr1 : Rowb), U1 = [rowr1] ∧ vr = .bool ((AskV.gotv r node l).2) ∧ AskV.ob 85 Xr wr gr rowr1 ((AskV.gotv r node l).1) ∧ True)
set_option maxRecDepth 100000 in
set_option maxHeartbeats 1000000 in
theorem Read_Got_ok (w0 : World) (X : Nat → Prop) (gr : Nat) (rowr : Rowb) (r : AskV) (hobr : AskV.ob 85 X w0 gr rowr r) (node : Int) (hnode : I64 node) (Al : Option Addr) (cl : Nat) (l : (List Ver)) (hl : Sl verT X w0 Al l) (hcl : l.length ≤ cl) (hpre : Pre [rowr] X w0) (hX : ∀ k, X k → k < w0.heap.size) : Calls Try.prog 19 #[.pointer (some ⟨gr, 0, none⟩), .int .i64 node, .slice Al l.length cl] w0 fun e w' => ∃ vr, e = .returned vr ∧ ∃ U1, Eff [rowr] U1 w0 w' ∧ Read_Got_ok_res gr rowr r node l U1 (Mx X U1) w' vr := by
  have hll := hl.le_
  have hst0 := hpre.start
  obtain ⟨S, hS⟩ : ∃ S, S = ids [rowr] := ⟨_, rfl⟩
  rw [← hS] at hst0
  refine calls_of (N := 24) (rs := [6]) (args := [.pointer (some ⟨gr, 0, none⟩), .int .i64 node, .slice Al l.length cl]) Try.func19 rfl Try.ntmps19 Try.results19 rfl ?_
  refine WC.here (C := CC S w0 X w0 [rowr]) ?_ hst0
  refine WC.seq ?_
  refine WC.region ?_
  refine WR.v (v := .bool false) rfl rfl rfl ?_ ?_
  · refine QV.qo ?_; exact q_assign rfl (by kernel_rfl)
  refine WR.nil ?_
  change WC _ _ _ _ _ _
  refine WC.seq ?_
  refine WC.region ?_
  refine WR.v (v := .slice Al l.length cl) rfl rfl rfl ?_ ?_
  · refine QV.qo ?_; exact q_move rfl (by kernel_rfl)
  refine e_call_res (args := #[.slice Al l.length cl, .slice none 0 0]) (Res := vers_Merge_ok_res (l) ([])) rfl rfl rfl Try.call41 rfl (by kernel_rfl) hX (fun w X' hs_ hl_ => vers_Merge_ok w X' Al cl (l) (Sl.step hl hs_) hcl none 0 [] (Sl.nil _ _ _ _) (by simp) hl_) ?_
  intro X_2 B_3 v hst_4 hxx_5 hxl_6 hres
  obtain ⟨A_7, c_8, rfl, hs_9, hc_10⟩ := hres
  change WR _ _ _ (CC _ _ X_2 B_3 [rowr]) _ _ _
  refine WR.v (v := .tuple #[.slice A_7 ((vsMerge (l) ([])).1).length c_8, .int .i64 ((vsMerge (l) ([])).2)]) rfl rfl rfl ?_ ?_
  · refine QV.qo ?_; exact q_move rfl (by kernel_rfl)
  refine WR.v (v := .slice A_7 ((vsMerge (l) ([])).1).length c_8) rfl rfl rfl ?_ ?_
  · refine QV.qo ?_; exact q_extract (vs := #[.slice A_7 ((vsMerge (l) ([])).1).length c_8, .int .i64 ((vsMerge (l) ([])).2)]) rfl (by kernel_rfl) rfl
  refine WR.v (v := .int .i64 ((vsMerge (l) ([])).2)) rfl rfl rfl ?_ ?_
  · refine QV.qo ?_; exact q_extract (vs := #[.slice A_7 ((vsMerge (l) ([])).1).length c_8, .int .i64 ((vsMerge (l) ([])).2)]) rfl (by kernel_rfl) rfl
  refine WR.v (v := .slice A_7 ((vsMerge (l) ([])).1).length c_8) rfl rfl rfl ?_ ?_
  · refine QV.qo ?_; exact q_assign rfl (by kernel_rfl)
  refine WR.v (v := .int .i64 ((vsMerge (l) ([])).2)) rfl rfl rfl ?_ ?_
  · refine QV.qo ?_; exact q_assign rfl (by kernel_rfl)
  refine WR.nil ?_
  change WC _ _ _ _ _ _
  refine WC.seq ?_
  refine WC.region ?_
  refine WR.v (v := .int .i64 ((vsMerge (l) ([])).2)) rfl rfl rfl ?_ ?_
  · refine QV.qo ?_; exact q_move rfl (by kernel_rfl)
  refine WR.v (v := .bool (((vsMerge (l) ([])).2) == 0)) rfl rfl rfl ?_ ?_
  · refine QV.qo ?_; exact q_eql (k := .i64) (a := ((vsMerge (l) ([])).2)) (b := 0) rfl (by kernel_rfl) (by kernel_rfl)
  refine WR.v (v := .bool (((vsMerge (l) ([])).2) == 0)) rfl rfl rfl ?_ ?_
  · refine QV.qo ?_; exact q_move rfl (by kernel_rfl)
  refine WR.g1 (v := .pointer (some ⟨gr, 0, none⟩)) (c0 := true) (g := (((vsMerge (l) ([])).2) == 0)) rfl rfl (by kernel_rfl) rfl rfl (fun hc_11 => ?_) ?_
  · refine QV.qo ?_; exact q_move rfl (by kernel_rfl)
  refine WR.g1 (v := .pointer (some ⟨gr, 0, none⟩)) (c0 := true) (g := (((vsMerge (l) ([])).2) == 0)) rfl rfl (by kernel_rfl) rfl rfl (fun hc_12 => ?_) ?_
  · refine QV.qo ?_; exact q_nil (A := some ⟨gr, 0, none⟩) rfl (gv_of hc_12) rfl
  refine WR.g1 (v := .pointer (some ⟨gr, 0, none⟩)) (c0 := true) (g := (((vsMerge (l) ([])).2) == 0)) rfl rfl (by kernel_rfl) rfl rfl (fun hc_13 => ?_) ?_
  · refine QV.qo ?_; exact q_field_loc (g := gr) (j := 0) 0 fld_85_0 rfl (gv_of hc_13) rfl
  refine WR.g1 (v := .int .i64 node) (c0 := true) (g := (((vsMerge (l) ([])).2) == 0)) rfl rfl (by kernel_rfl) rfl rfl (fun hc_14 => ?_) ?_
  · refine QV.qo ?_; exact q_move rfl (by kernel_rfl)
  refine WR.g1 (v := .slice A_7 ((vsMerge (l) ([])).1).length c_8) (c0 := true) (g := (((vsMerge (l) ([])).2) == 0)) rfl rfl (by kernel_rfl) rfl rfl (fun hc_15 => ?_) ?_
  · refine QV.qo ?_; exact q_move rfl (by kernel_rfl)
  cases hg_16 : ((true && (bif true then (((vsMerge (l) ([])).2) == 0) else !(((vsMerge (l) ([])).2) == 0))) : Bool) with
  | false =>
    have hg_17 : (((vsMerge (l) ([])).2) == 0) = false := by cases h0 : ((((vsMerge (l) ([])).2) == 0) : Bool) <;> simp_all
    have hp_18 := ne_of_beq_false hg_17
    refine WR.unsat (c0 := true) (g := (((vsMerge (l) ([])).2) == 0)) rfl rfl (by kernel_rfl) hg_16 rfl ?_
    refine WR.v (v := .bool false) rfl rfl rfl ?_ ?_
    · refine QV.qo ?_; exact q_pick_f (g := (((vsMerge (l) ([])).2) == 0)) rfl (by kernel_rfl) hg_17 (by kernel_rfl)
    refine WR.v (v := .bool false) rfl rfl rfl ?_ ?_
    · refine QV.qo ?_; exact q_assign rfl (by kernel_rfl)
    refine WR.nil ?_
    change WC _ _ _ _ _ _
    refine WC.ret ?_
    intro w hw
    have hm_19 : r = (AskV.gotv r node l).1 := by
      first | (simp only [AskV.gotv, hg_17, Bool.not_true, Bool.not_false, Bool.and_false, Bool.false_and, Bool.and_true, Bool.true_and, Bool.or_true, Bool.true_or, Bool.or_false, Bool.false_or, cond_true, cond_false]; done) | (simp [AskV.gotv, hg_17, hp_18]; done)
    have hm_20 : false = (AskV.gotv r node l).2 := by
      first | (simp only [AskV.gotv, hg_17, Bool.not_true, Bool.not_false, Bool.and_false, Bool.false_and, Bool.and_true, Bool.true_and, Bool.or_true, Bool.true_or, Bool.or_false, Bool.false_or, cond_true, cond_false]; done) | (simp [AskV.gotv, hg_17, hp_18]; done)
    have hw2 := Cur.perm (L' := [rowr]) hw (.cons_cons _ .slnil)
    rw [hS] at hw2
    refine ⟨_, rfl, [rowr], hw2.toEff, ?_⟩
    unfold Read_Got_ok_res
    rw [← hm_19]
    rw [← hm_20]
    exact ⟨rowr, rfl, (by kernel_rfl), ((hobr.step hst_4)).step (hw2.st2 hxx_5), trivial⟩
  | true =>
    have hg_21 : (((vsMerge (l) ([])).2) == 0) = true := by cases h0 : ((((vsMerge (l) ([])).2) == 0) : Bool) <;> simp_all
    have hp_22 := eq_of_beq hg_21
    refine WR.sat (c0 := true) (g := (((vsMerge (l) ([])).2) == 0)) rfl rfl (by kernel_rfl) hg_16 ?_
    refine WR.sub (C' := CC S w0 X_2 B_3 ([rowr] ++ [])) (fun w hw => hw) ?_
    refine e_call_eff (U := [rowr]) (R := []) (args := #[.pointer (some ⟨gr, 0, none⟩), .int .i64 node, .slice A_7 ((vsMerge (l) ([])).1).length c_8]) (f := 42) (Res := countV_ok_res 85 gr rowr (r) (node) (((vsMerge (l) ([])).1))) rfl rfl (fun w => call_run (ty := 0) Try.call42 rfl rfl (by exact args3 (gv_of (c := (true && (((vsMerge (l) ([])).2) == 0))) (v := .pointer (some ⟨gr, 0, none⟩)) (by simp [hg_21])) (gv_of (c := (true && (((vsMerge (l) ([])).2) == 0))) (v := .int .i64 node) (by simp [hg_21])) (gv_of (c := (true && (((vsMerge (l) ([])).2) == 0))) (v := .slice A_7 ((vsMerge (l) ([])).1).length c_8) (by simp [hg_21]))) w) hxl_6 (X0 := X) hxx_5 (fun w X' hs_ hl_ hp_ => countV_ok w X' 85 gr rowr (r) (((hobr.step hst_4)).step hs_) (node) hnode A_7 c_8 (((vsMerge (l) ([])).1)) (Sl.step hs_9 hs_) hc_10 hp_ hl_) ?_
    intro X_23 B_24 U' v hst_25 hxx_26 hxl_27 hres
    obtain ⟨row_28, rfl, rfl, hob_29, _⟩ := hres
    change WR _ _ _ (CC _ _ X_23 B_24 [row_28]) _ _ _
    refine WR.v (v := .bool ((AskV.count (r) (node) (((vsMerge (l) ([])).1))).2)) rfl rfl rfl ?_ ?_
    · refine QV.qo ?_; exact q_pick_t (g := (((vsMerge (l) ([])).2) == 0)) rfl (by kernel_rfl) hg_21 (by kernel_rfl)
    refine WR.v (v := .bool ((AskV.count (r) (node) (((vsMerge (l) ([])).1))).2)) rfl rfl rfl ?_ ?_
    · refine QV.qo ?_; exact q_assign rfl (by kernel_rfl)
    refine WR.nil ?_
    change WC _ _ _ _ _ _
    refine WC.ret ?_
    intro w hw
    have hm_31 : ((AskV.count (r) (node) (((vsMerge (l) ([])).1))).1) = (AskV.gotv r node l).1 := by
      first | (simp only [AskV.gotv, hg_21, Bool.not_true, Bool.not_false, Bool.and_false, Bool.false_and, Bool.and_true, Bool.true_and, Bool.or_true, Bool.true_or, Bool.or_false, Bool.false_or, cond_true, cond_false]; done) | (simp [AskV.gotv, hg_21, hp_22]; done)
    have hm_32 : ((AskV.count (r) (node) (((vsMerge (l) ([])).1))).2) = (AskV.gotv r node l).2 := by
      first | (simp only [AskV.gotv, hg_21, Bool.not_true, Bool.not_false, Bool.and_false, Bool.false_and, Bool.and_true, Bool.true_and, Bool.or_true, Bool.true_or, Bool.or_false, Bool.false_or, cond_true, cond_false]; done) | (simp [AskV.gotv, hg_21, hp_22]; done)
    have hw2 := Cur.perm (L' := [row_28]) hw (.cons_cons _ .slnil)
    rw [hS] at hw2
    refine ⟨_, rfl, [row_28], hw2.toEff, ?_⟩
    unfold Read_Got_ok_res
    rw [← hm_31]
    rw [← hm_32]
    exact ⟨row_28, rfl, (by kernel_rfl), (hob_29).step (hw2.st2 hxx_26), trivial⟩
end Fw
end Go.Proofs.Ytlbdlkgboliikaa
