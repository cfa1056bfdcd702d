/- Walks through the functions that the law reaches (printed by a program). No condition. -/
import Derived.Test.YtlgahohnbkkoiaaM
import Derived.Test.YtlgahohnbkkoiaaS
namespace Go.Proofs.Ytlgahohnbkkoiaa
namespace Fw
set_option linter.unusedVariables false
set_option linter.unusedSimpArgs false
set_option linter.unusedSectionVars false
open Go.RowKit
def Oquorum_asking_bool.ob (e : TypeId) (Γ : Gh) (g : Nat) (row : Rowb) (x : Oquorum_asking_bool) : Prop := ∃ (A0 : Option Addr) (c0 : Nat) (m2 : Nat) (r2 : Rowb), row = ([[(g, .cells #[.slice A0 x.list.length c0, .int .i64 x.need, .map (some m2)] e (0, 0))], r2] : List Rowb).flatten ∧ x.list.length ≤ c0 ∧ Sl intT Γ A0 x.list ∧ I64 x.need ∧ MapO (intK Try.underlying3) boolT.v Γ r2 m2 x.got ∧ True
theorem Oquorum_asking_bool.ob.mono {e : TypeId} {Γ Δ : Gh} {g : Nat} {row : Rowb} {x : Oquorum_asking_bool} (h : Oquorum_asking_bool.ob e Γ g row x) (hs : Γ.le Δ) : Oquorum_asking_bool.ob e Δ g row x := by
  obtain ⟨A0, c0, m2, r2, hr, h0, h1, h2, h3, _⟩ := h
  exact ⟨A0, c0, m2, r2, hr, h0, h1.mono hs, h2, h3.mono hs, trivial⟩
def Oquorum_asking_api_Ver.ob (e : TypeId) (Γ : Gh) (g : Nat) (row : Rowb) (x : Oquorum_asking_api_Ver) : Prop := ∃ (A0 : Option Addr) (c0 : Nat) (m2 : Nat) (r2 : Rowb), row = ([[(g, .cells #[.slice A0 x.list.length c0, .int .i64 x.need, .map (some m2)] e (0, 0))], r2] : List Rowb).flatten ∧ x.list.length ≤ c0 ∧ Sl intT Γ A0 x.list ∧ I64 x.need ∧ MapO (intK Try.underlying3) (slT verT).v Γ r2 m2 x.got ∧ True
theorem Oquorum_asking_api_Ver.ob.mono {e : TypeId} {Γ Δ : Gh} {g : Nat} {row : Rowb} {x : Oquorum_asking_api_Ver} (h : Oquorum_asking_api_Ver.ob e Γ g row x) (hs : Γ.le Δ) : Oquorum_asking_api_Ver.ob e Δ g row x := by
  obtain ⟨A0, c0, m2, r2, hr, h0, h1, h2, h3, _⟩ := h
  exact ⟨A0, c0, m2, r2, hr, h0, h1.mono hs, h2, h3.mono hs, trivial⟩
def Oquorum_asking_api_Rec.ob (e : TypeId) (Γ : Gh) (g : Nat) (row : Rowb) (x : Oquorum_asking_api_Rec) : Prop := ∃ (A0 : Option Addr) (c0 : Nat) (m2 : Nat) (r2 : Rowb), row = ([[(g, .cells #[.slice A0 x.list.length c0, .int .i64 x.need, .map (some m2)] e (0, 0))], r2] : List Rowb).flatten ∧ x.list.length ≤ c0 ∧ Sl intT Γ A0 x.list ∧ I64 x.need ∧ MapO (intK Try.underlying3) (slT recT).v Γ r2 m2 x.got ∧ True
theorem Oquorum_asking_api_Rec.ob.mono {e : TypeId} {Γ Δ : Gh} {g : Nat} {row : Rowb} {x : Oquorum_asking_api_Rec} (h : Oquorum_asking_api_Rec.ob e Γ g row x) (hs : Γ.le Δ) : Oquorum_asking_api_Rec.ob e Δ g row x := by
  obtain ⟨A0, c0, m2, r2, hr, h0, h1, h2, h3, _⟩ := h
  exact ⟨A0, c0, m2, r2, hr, h0, h1.mono hs, h2, h3.mono hs, trivial⟩
theorem like_Dot : LikeT dotT sh0 := ⟨by
  rintro Γ Δ cs cs' x ⟨rfl, hf⟩ hl h
  obtain ⟨f0, f1⟩ := hf
  obtain ⟨u0, w0, rfl, k0, h⟩ := lks_cons h
  obtain ⟨u1, w1, rfl, k1, h⟩ := lks_cons h
  have h := lks_nil h
  subst h
  obtain ⟨y0, rfl, g0⟩ := lk_int k0 f0
  obtain ⟨y1, rfl, g1⟩ := lk_int k1 f1
  exact ⟨⟨y0, y1⟩, ⟨rfl, g0, g1⟩, rfl⟩⟩
theorem like_Span : LikeT spanT sh0 := ⟨by
  rintro Γ Δ cs cs' x ⟨rfl, hf⟩ hl h
  obtain ⟨f0, f1, f2⟩ := hf
  obtain ⟨u0, w0, rfl, k0, h⟩ := lks_cons h
  obtain ⟨u1, w1, rfl, k1, h⟩ := lks_cons h
  obtain ⟨u2, w2, rfl, k2, h⟩ := lks_cons h
  have h := lks_nil h
  subst h
  obtain ⟨y0, rfl, g0⟩ := lk_int k0 f0
  obtain ⟨y1, rfl, g1⟩ := lk_int k1 f1
  obtain ⟨y2, rfl, g2⟩ := lk_int k2 f2
  exact ⟨⟨y0, y1, y2⟩, ⟨rfl, g0, g1, g2⟩, rfl⟩⟩
@[reducible] def Ver.sh (x : Ver) : Sh := shL sh0 x.past
theorem like_Ver : LikeT verT Ver.sh := ⟨by
  rintro Γ Δ cs cs' x ⟨A2, c2, rfl, hf⟩ hl h
  obtain ⟨f0, f1, f2, f4⟩ := hf
  obtain ⟨u0, w0, rfl, k0, h⟩ := lks_cons h
  obtain ⟨u1, w1, rfl, k1, h⟩ := lks_cons h
  obtain ⟨u2, w2, rfl, k2, h⟩ := lks_cons h
  obtain ⟨u3, w3, rfl, k3, h⟩ := lks_cons h
  obtain ⟨u4, w4, rfl, k4, h⟩ := lks_cons h
  have h := lks_nil h
  subst h
  obtain ⟨y0, rfl, g0⟩ := lk_int k0 f0
  obtain ⟨y1, rfl, g1⟩ := lk_int k1 f1
  obtain ⟨y2, rfl, g2, e2⟩ := lk_sl like_Span hl k2 f2
  obtain ⟨y3, rfl⟩ := lk_bool k3
  obtain ⟨y4, rfl, g4⟩ := lk_str k4 f4
  exact ⟨⟨⟨y0, y1⟩, y2, y3, y4⟩, ⟨A2, c2, rfl, g0, g1, g2, g4⟩, e2⟩⟩
@[reducible] def Rec.sh (x : Rec) : Sh := shL Ver.sh x.vers
theorem like_Rec : LikeT recT Rec.sh := ⟨by
  rintro Γ Δ cs cs' x ⟨A1, c1, rfl, hf⟩ hl h
  obtain ⟨f0, f1⟩ := hf
  obtain ⟨u0, w0, rfl, k0, h⟩ := lks_cons h
  obtain ⟨u1, w1, rfl, k1, h⟩ := lks_cons h
  have h := lks_nil h
  subst h
  obtain ⟨y0, rfl, g0⟩ := lk_str k0 f0
  obtain ⟨y1, rfl, g1, e1⟩ := lk_sl like_Ver hl k1 f1
  exact ⟨⟨y0, y1⟩, ⟨A1, c1, rfl, g0, g1⟩, e1⟩⟩
set_option maxRecDepth 100000 in
set_option maxHeartbeats 400000 in
theorem t_slices_Index_int_int {Γ : Gh} {w0 : World} {As_ : Option Addr} {cs_ : Nat} {s_ : List Int} (hs_ : Sl intT Γ As_ s_) (hs_c : s_.length ≤ cs_) (v_ : Int) (hv_ : I64 v_) (hs : Sat Γ w0) {r : Int} (h : m_slices_Index_int_int s_ v_ = some r) : Calls Try.prog 87 #[.slice As_ s_.length cs_, .int .i64 v_] w0 (fun e w' => e = .returned (.int .i64 r) ∧ Fr no w0 w') := by
  refine calls_of (N := 19) (rs := [4]) (args := [.slice As_ s_.length cs_, .int .i64 v_]) Try.func87 rfl Try.ntmps87 Try.results87 rfl ?_
  obtain ⟨F, hF⟩ : ∃ F : Fm, F = ⟨no, w0, Γ⟩ := ⟨_, rfl⟩
  refine WC.here (C := CC F Γ []) ?_ (hF ▸ Cur.start0 hs)
  refine WC.rs ?_
  refine va rfl rfl rfl (q_assign (v := .int .i64 0) rfl (by kernel_rfl)) ?_
  refine WR.nil ?_
  change WC _ _ _ _ _ _
  refine WC.seq ?_
  refine WC.rs ?_
  refine va rfl rfl rfl (q_move (v := .slice As_ s_.length cs_) rfl (by kernel_rfl)) ?_
  refine va rfl rfl rfl (q_len_slice rfl Try.underlying22 rfl) ?_
  refine va rfl rfl rfl (q_move (v := .int .i64 0) rfl (by kernel_rfl)) ?_
  refine WR.nil ?_
  change WC _ _ _ _ _ _
  refine WC.block ?_
  refine WC.forI h (fun (i2 : Nat) (s : Unit) σ w => match s with | () => slots σ [(0, .slice As_ s_.length cs_), (1, .int .i64 v_), (7, .int .i64 ((s_.length : Nat) : Int)), (8, .int .i64 ((i2 : Nat) : Int))] ∧ CC F Γ [] w ∧ True) ?_ ?_
  · skip
    intro w hw
    exact ⟨(sl_ (by kernel_rfl)), hw, trivial⟩
  rintro f1 i2 ⟨⟩ σ w hi3 hlt4 hge5 ⟨hsl, hw, -⟩
  refine Wpt.slots hsl ?_
  refine WC.here (C := CC F Γ []) ?_ hw
  clear hw hsl
  refine WC.rs ?_
  refine va rfl rfl rfl (q_lss rfl rfl rfl) ?_
  refine WR.nil ?_
  change WC _ _ _ _ _ _
  refine WC.seq ?_
  refine WC.cond (b := (decide (((i2 : Nat) : Int) < ((s_.length : Nat) : Int)))) (by kernel_rfl) (fun hb6 => ?_) (fun hb6 => ?_)
  · skip
    have hl7 := ilt hb6
    have h := hlt4 hl7
    refine WC.skip ?_
    change WC _ _ _ _ _ _
    refine WC.seq ?_
    refine WC.block ?_
    refine WC.rs ?_
    refine va rfl rfl rfl (q_move (v := .int .i64 ((i2 : Nat) : Int)) rfl (by kernel_rfl)) ?_
    refine va rfl rfl rfl (q_assign (v := .int .i64 ((i2 : Nat) : Int)) rfl (by kernel_rfl)) ?_
    refine WR.nil ?_
    change WC _ _ _ _ _ _
    refine WC.rs ?_
    refine va rfl rfl rfl (q_move (v := .int .i64 v_) rfl (by kernel_rfl)) ?_
    refine va rfl rfl rfl (q_move (v := .slice As_ s_.length cs_) rfl (by kernel_rfl)) ?_
    refine va rfl rfl rfl (q_move (v := .int .i64 ((i2 : Nat) : Int)) rfl (by kernel_rfl)) ?_
    refine va rfl rfl rfl (q_ixn (i := i2) Try.underlying22 Try.sizeOf3 rfl rfl rfl hl7 (hs_.some_ hl7)) ?_
    refine va rfl rfl rfl (q_ld (c := 0) (v := .int .i64 (gt s_ i2)) (hs_.intT_at hl7).2 rfl Try.isAgg3 rfl rfl) ?_
    refine va rfl rfl rfl (q_eql rfl rfl rfl) ?_
    refine WR.nil ?_
    change WC _ _ _ _ _ _
    refine WC.cif h (by kernel_rfl) (fun hb8 h => ?_) (fun hb8 h => ?_)
    · skip
      refine WC.rs ?_
      refine va rfl rfl rfl (q_move (v := .int .i64 ((i2 : Nat) : Int)) rfl (by kernel_rfl)) ?_
      refine va rfl rfl rfl (q_assign (v := .int .i64 ((i2 : Nat) : Int)) rfl (by kernel_rfl)) ?_
      refine WR.nil ?_
      change WC _ _ _ _ _ _
      refine WC.ret ?_
      intro w hw
      obtain rfl := Option.some.inj h
      subst hF
      exact ⟨by kernel_rfl, hw.fr⟩
    · skip
      refine WC.skip ?_
      change WC _ _ _ _ _ _
      refine WC.region ?_
      refine va rfl rfl rfl (q_add_r (r := ((i2 + 1 : Nat) : Int)) rfl rfl rfl (ctr_len hl7 hs_.le)) ?_
      refine va rfl rfl rfl (q_move (v := .int .i64 ((i2 + 1 : Nat) : Int)) rfl (by kernel_rfl)) ?_
      refine WR.nil ?_
      intro w hw
      exact ⟨hl7, (), h, (sl_ (by kernel_rfl)), hw, trivial⟩
  · skip
    have h := hge5 (ige hb6)
    refine WC.exit ?_
    change WC _ _ _ _ _ _
    refine WC.rs ?_
    refine va rfl rfl rfl (q_assign (v := .int .i64 (-1)) rfl (by kernel_rfl)) ?_
    refine WR.nil ?_
    change WC _ _ _ _ _ _
    refine WC.ret ?_
    intro w hw
    obtain rfl := Option.some.inj h
    subst hF
    exact ⟨by kernel_rfl, hw.fr⟩
set_option maxRecDepth 100000 in
set_option maxHeartbeats 400000 in
theorem t_slices_Contains_int_int {Γ : Gh} {w0 : World} {As_ : Option Addr} {cs_ : Nat} {s_ : List Int} (hs_ : Sl intT Γ As_ s_) (hs_c : s_.length ≤ cs_) (v_ : Int) (hv_ : I64 v_) (hs : Sat Γ w0) {r : Bool} (h : m_slices_Contains_int_int s_ v_ = some r) : Calls Try.prog 70 #[.slice As_ s_.length cs_, .int .i64 v_] w0 (fun e w' => e = .returned (.bool r) ∧ Fr no w0 w') := by
  refine calls_of (N := 9) (rs := [4]) (args := [.slice As_ s_.length cs_, .int .i64 v_]) Try.func70 rfl Try.ntmps70 Try.results70 rfl ?_
  obtain ⟨F, hF⟩ : ∃ F : Fm, F = ⟨no, w0, Γ⟩ := ⟨_, rfl⟩
  refine WC.here (C := CC F Γ []) ?_ (hF ▸ Cur.start0 hs)
  refine WC.rs ?_
  refine va rfl rfl rfl (q_assign (v := .bool false) rfl (by kernel_rfl)) ?_
  refine WR.nil ?_
  change WC _ _ _ _ _ _
  refine WC.rs ?_
  refine va rfl rfl rfl (q_move (v := .slice As_ s_.length cs_) rfl (by kernel_rfl)) ?_
  refine va rfl rfl rfl (q_move (v := .int .i64 v_) rfl (by kernel_rfl)) ?_
  obtain ⟨z1, hz2, h⟩ := bnd h
  refine vc rfl rfl rfl (q_call (call_run Try.call87 rfl rfl (by kernel_rfl)) (fun w hw => t_slices_Index_int_int (Γ := Gh.all w) (hs_.mono hw.sat.le_all) hs_c v_ hv_ (Sat.all w) hz2)) ?_
  refine va rfl rfl rfl (q_geq rfl rfl rfl) ?_
  refine va rfl rfl rfl (q_assign (v := .bool (decide (0 ≤ z1))) rfl (by kernel_rfl)) ?_
  refine WR.nil ?_
  change WC _ _ _ _ _ _
  refine WC.ret ?_
  intro w hw
  obtain rfl := Option.some.inj h
  subst hF
  exact ⟨by kernel_rfl, hw.fr⟩
abbrev r_slices_Clone_int_int (r : List Int) (U : List Rowb) (Γ : Gh) (v : Value) : Prop := ∃ (A0 : Option Addr), ∃ (c0 : Nat), ∃ (row0 : Rowb), v = .slice A0 r.length c0 ∧ U = [row0] ∧ Own intT Γ 3 row0 A0 c0 r ∧ True
set_option maxRecDepth 100000 in
set_option maxHeartbeats 400000 in
theorem t_slices_Clone_int_int {Γ : Gh} {w0 : World} {As_ : Option Addr} {cs_ : Nat} {s_ : List Int} (hs_ : Sl intT Γ As_ s_) (hs_c : s_.length ≤ cs_) (hp : Pre [] Γ w0) {r : List Int} (h : m_slices_Clone_int_int s_ = some r) : Calls Try.prog 71 #[.slice As_ s_.length cs_] w0 (Outc Γ [] w0 (r_slices_Clone_int_int r)) := by
  refine calls_of (N := 8) (rs := [2]) (args := [.slice As_ s_.length cs_]) Try.func71 rfl Try.ntmps71 Try.results71 rfl ?_
  obtain ⟨F, hF⟩ : ∃ F : Fm, F = ⟨ids [], w0, Γ⟩ := ⟨_, rfl⟩
  refine WC.here (C := CC F Γ []) ?_ (hF ▸ hp.start)
  refine WC.rs ?_
  refine va rfl rfl rfl (q_assign (v := .slice none 0 0) rfl (by kernel_rfl)) ?_
  refine WR.nil ?_
  change WC _ _ _ _ _ _
  refine WC.seq ?_
  refine WC.rs ?_
  refine va rfl rfl rfl (q_move (v := .slice As_ s_.length cs_) rfl (by kernel_rfl)) ?_
  refine va rfl rfl rfl (q_nil_slice Try.underlying22 rfl rfl rfl) ?_
  refine WR.nil ?_
  change WC _ _ _ _ _ _
  refine WC.cnil h (by kernel_rfl) (fun hb => hs_.none_nil hb) (fun hb1 h => ?_) (fun hb1 h => ?_)
  · skip
    refine WC.rs ?_
    refine va rfl rfl rfl (q_assign (v := .slice none 0 0) rfl (by kernel_rfl)) ?_
    refine WR.nil ?_
    change WC _ _ _ _ _ _
    refine WC.ret ?_
    intro w hw
    have hw := hw.pad
    obtain rfl := Option.some.inj h
    subst hF
    exact end_e (is := [0]) (by kernel_rfl) hw rfl ⟨none, 0, [], rfl, rfl, (Own.nil intT _ 3), trivial⟩
  · skip
    refine WC.skip ?_
    change WC _ _ _ _ _ _
    refine WC.rs ?_
    refine e_buildSlice (cs := #[]) (e := 3) rfl rfl rfl rfl (fun w => by kernel_rfl) ?_
    intro g2
    refine va rfl rfl rfl (q_move (v := .slice As_ s_.length cs_) rfl (by kernel_rfl)) ?_
    have ho3 : Own intT Γ 3 [(g2, .cells #[] 3 (0, 0))] (some ⟨g2, 0, none⟩) 0 ([] : List Int) := Own.of_blockL (T := intT) (ys := ([] : List Int)) [] rfl (show 0 ≤ lim by decide) (show True from trivial)
    obtain ⟨hk4, h⟩ := chk_some h
    refine e_append (T := intT) (xs := ([] : List Int)) (ys := s_) elem_22 (i := 0) rfl rfl rfl rfl rfl rfl rfl ho3 (of_decide_eq_true hk4) (fun w hw => src_sl hs_ hw) ?_
    intro row5 A6 c7 ho8
    refine va rfl rfl rfl (q_assign (v := .slice A6 (([] : List Int) ++ s_).length c7) rfl (by kernel_rfl)) ?_
    refine WR.nil ?_
    change WC _ _ _ _ _ _
    refine WC.ret ?_
    intro w hw
    obtain rfl := Option.some.inj h
    subst hF
    exact end_e (is := [0]) (by kernel_rfl) hw rfl ⟨A6, c7, row5, rfl, rfl, ho8, trivial⟩
abbrev r_quorum_ask_bool (r : (Option Oquorum_asking_bool) × Int) (U : List Rowb) (Γ : Gh) (v : Value) : Prop := (r.1 = none ∧ (v = .tuple #[.agg #[.slice none 0 0, .int .i64 0, .map none], .int .i64 r.2] ∧ U = [] ∧ I64 r.2 ∧ True)) ∨ (∃ x_ : Oquorum_asking_bool, r.1 = some x_ ∧ (∃ (A0_0 : Option Addr), ∃ (c0_0 : Nat), ∃ (m0_2 : Nat), ∃ (r0_2 : Rowb), v = .tuple #[.agg #[.slice A0_0 x_.list.length c0_0, .int .i64 x_.need, .map (some m0_2)], .int .i64 r.2] ∧ U = [r0_2] ∧ x_.list.length ≤ c0_0 ∧ Sl intT Γ A0_0 x_.list ∧ I64 x_.need ∧ MapO (intK Try.underlying3) boolT.v Γ r0_2 m0_2 x_.got ∧ I64 r.2 ∧ True))
set_option maxRecDepth 100000 in
set_option maxHeartbeats 400000 in
theorem t_quorum_ask_bool {Γ : Gh} {w0 : World} {Alist : Option Addr} {clist : Nat} {list : List Int} (hlist : Sl intT Γ Alist list) (hlistc : list.length ≤ clist) (need : Int) (hneed : I64 need) (hp : Pre [] Γ w0) {r : (Option Oquorum_asking_bool) × Int} (h : m_quorum_ask_bool list need = some r) : Calls Try.prog 41 #[.slice Alist list.length clist, .int .i64 need] w0 (Outc Γ [] w0 (r_quorum_ask_bool r)) := by
  refine calls_of_r (N := 54) (rs := [.cell 4 81, .tmp 5]) (args := [.slice Alist list.length clist, .int .i64 need]) Try.func41 rfl Try.ntmps41 Try.results41 rfl ?_
  obtain ⟨F, hF⟩ : ∃ F : Fm, F = ⟨ids [], w0, Γ⟩ := ⟨_, rfl⟩
  refine WC.here (C := CC F Γ []) ?_ (hF ▸ hp.start)
  refine WC.rs ?_
  refine e_alloc Try.zeroValue81 rfl rfl rfl rfl ?_
  intro g1
  refine va rfl rfl rfl (q_assign (v := .int .i64 0) rfl (by kernel_rfl)) ?_
  refine WR.nil ?_
  change WC _ _ _ _ _ _
  refine WC.seq ?_
  refine WC.rs ?_
  refine va rfl rfl rfl (q_move (v := .slice Alist list.length clist) rfl (by kernel_rfl)) ?_
  refine va rfl rfl rfl (q_len_slice rfl Try.underlying22 rfl) ?_
  refine va rfl rfl rfl (q_lss rfl rfl rfl) ?_
  refine va rfl rfl rfl (q_move (v := .bool (decide (((list.length : Nat) : Int) < 1))) rfl (by kernel_rfl)) ?_
  refine vg0 rfl rfl rfl rfl rfl (fun hg2 => QV.qo (q_move (v := .slice Alist list.length clist) rfl (by kernel_rfl))) ?_
  refine vg0 rfl rfl rfl rfl rfl (fun hg3 => QV.qo (q_len_slice rfl Try.underlying22 (gu hg3 rfl))) ?_
  refine vg0 rfl rfl rfl rfl rfl (fun hg4 => QV.qo (q_gtr rfl (gu hg4 rfl) rfl)) ?_
  refine va rfl rfl rfl (q_pick rfl rfl (pk_or' (g := (decide (((list.length : Nat) : Int) < 1))) (y := (decide (8 < ((list.length : Nat) : Int)))))) ?_
  refine va rfl rfl rfl (q_move (v := .bool ((decide (((list.length : Nat) : Int) < 1)) || (decide (8 < ((list.length : Nat) : Int))))) rfl (by kernel_rfl)) ?_
  refine vg0 rfl rfl rfl rfl rfl (fun hg5 => QV.qo (q_move (v := .int .i64 need) rfl (by kernel_rfl))) ?_
  refine vg0 rfl rfl rfl rfl rfl (fun hg6 => QV.qo (q_lss rfl (gu hg6 rfl) rfl)) ?_
  refine va rfl rfl rfl (q_pick rfl rfl (pk_or' (g := ((decide (((list.length : Nat) : Int) < 1)) || (decide (8 < ((list.length : Nat) : Int))))) (y := (decide (need < 1))))) ?_
  refine va rfl rfl rfl (q_move (v := .bool (((decide (((list.length : Nat) : Int) < 1)) || (decide (8 < ((list.length : Nat) : Int)))) || (decide (need < 1)))) rfl (by kernel_rfl)) ?_
  refine vg0 rfl rfl rfl rfl rfl (fun hg7 => QV.qo (q_move (v := .int .i64 need) rfl (by kernel_rfl))) ?_
  refine vg0 rfl rfl rfl rfl rfl (fun hg8 => QV.qo (q_move (v := .slice Alist list.length clist) rfl (by kernel_rfl))) ?_
  refine vg0 rfl rfl rfl rfl rfl (fun hg9 => QV.qo (q_len_slice rfl Try.underlying22 (gu hg9 rfl))) ?_
  refine vg0 rfl rfl rfl rfl rfl (fun hg10 => QV.qo (q_gtr rfl (gu hg10 rfl) (gu hg10 rfl))) ?_
  refine va rfl rfl rfl (q_pick rfl rfl (pk_or' (g := (((decide (((list.length : Nat) : Int) < 1)) || (decide (8 < ((list.length : Nat) : Int)))) || (decide (need < 1)))) (y := (decide (((list.length : Nat) : Int) < need))))) ?_
  refine WR.nil ?_
  change WC _ _ _ _ _ _
  refine WC.cif h (by kernel_rfl) (fun hb11 h => ?_) (fun hb11 h => ?_)
  · skip
    refine WC.rs ?_
    refine va rfl rfl rfl (q_build (v := .agg #[.slice none 0 0, .int .i64 0, .map none]) rfl (fun w => by kernel_rfl)) ?_
    refine e_st (i := 0) (v := .agg #[.slice none 0 0, .int .i64 0, .map none]) (new := #[.slice none 0 0, .int .i64 0, .map none]) rfl Try.sizeOf81 rfl rfl rfl rfl (by kernel_rfl) rfl rfl rfl rfl ?_
    refine va rfl rfl rfl (q_assign (v := .int .i64 1) rfl (by kernel_rfl)) ?_
    refine WR.nil ?_
    change WC _ _ _ _ _ _
    refine WC.ret ?_
    intro w hw
    obtain rfl := Option.some.inj h
    subst hF
    exact ⟨[.agg #[.slice none 0 0, .int .i64 0, .map none], .int .i64 1], (rr_agg (i := 0) (us := [.slice none 0 0, .int .i64 0, .map none]) hw rfl Try.isAgg81 Try.sizeOf81 (by kernel_rfl) rfl (rr_tmp (by kernel_rfl) rr_nil)), end_e (is := []) (by kernel_rfl) hw rfl (.inl ⟨rfl, rfl, rfl, (show I64 1 by decide), trivial⟩)⟩
  · skip
    refine WC.skip ?_
    change WC _ _ _ _ _ _
    refine WC.seq ?_
    refine WC.rs ?_
    refine va rfl rfl rfl (q_move (v := .slice Alist list.length clist) rfl (by kernel_rfl)) ?_
    refine va rfl rfl rfl (q_len_slice rfl Try.underlying22 rfl) ?_
    refine va rfl rfl rfl (q_move (v := .int .i64 0) rfl (by kernel_rfl)) ?_
    refine WR.nil ?_
    change WC _ _ _ _ _ _
    refine WC.block ?_
    refine WC.forI h (fun (i13 : Nat) (s : Unit) σ w => match s with | () => slots σ [(0, .slice Alist list.length clist), (1, .int .i64 need), (4, .pointer (some ⟨g1, 0, none⟩)), (27, .slice Alist list.length clist), (28, .int .i64 ((list.length : Nat) : Int)), (29, .int .i64 ((i13 : Nat) : Int))] ∧ CC F Γ [[(g1, .cells #[.slice none 0 0, .int .i64 0, .map none] 81 (0, 0))]] w ∧ True) ?_ ?_
    · skip
      intro w hw
      exact ⟨(sl_ (by kernel_rfl)), hw, trivial⟩
    rintro f12 i13 ⟨⟩ σ w hi14 hlt15 hge16 ⟨hsl, hw, -⟩
    refine Wpt.slots hsl ?_
    refine WC.here (C := CC F Γ [[(g1, .cells #[.slice none 0 0, .int .i64 0, .map none] 81 (0, 0))]]) ?_ hw
    clear hw hsl
    refine WC.rs ?_
    refine va rfl rfl rfl (q_lss rfl rfl rfl) ?_
    refine WR.nil ?_
    change WC _ _ _ _ _ _
    refine WC.seq ?_
    refine WC.cond (b := (decide (((i13 : Nat) : Int) < ((list.length : Nat) : Int)))) (by kernel_rfl) (fun hb17 => ?_) (fun hb17 => ?_)
    · skip
      have hl18 := ilt hb17
      have h := hlt15 hl18
      refine WC.skip ?_
      change WC _ _ _ _ _ _
      refine WC.seq ?_
      refine WC.block ?_
      refine WC.rs ?_
      refine va rfl rfl rfl (q_move (v := .int .i64 ((i13 : Nat) : Int)) rfl (by kernel_rfl)) ?_
      refine va rfl rfl rfl (q_ixn (i := i13) Try.underlying22 Try.sizeOf3 rfl rfl rfl hl18 (hlist.some_ hl18)) ?_
      refine va rfl rfl rfl (q_ld (c := 0) (v := .int .i64 (gt list i13)) (hlist.intT_at hl18).2 rfl Try.isAgg3 rfl rfl) ?_
      refine va rfl rfl rfl (q_assign (v := .int .i64 ((i13 : Nat) : Int)) rfl (by kernel_rfl)) ?_
      refine va rfl rfl rfl (q_assign (v := .int .i64 (gt list i13)) rfl (by kernel_rfl)) ?_
      refine WR.nil ?_
      change WC _ _ _ _ _ _
      refine WC.rs ?_
      refine va rfl rfl rfl (q_move (v := .int .i64 (gt list i13)) rfl (by kernel_rfl)) ?_
      refine va rfl rfl rfl (q_lss rfl rfl rfl) ?_
      refine va rfl rfl rfl (q_move (v := .bool (decide ((gt list i13) < 1))) rfl (by kernel_rfl)) ?_
      refine vg0 rfl rfl rfl rfl rfl (fun hg19 => QV.qo (q_move (v := .int .i64 (gt list i13)) rfl (by kernel_rfl))) ?_
      refine vg0 rfl rfl rfl rfl rfl (fun hg20 => QV.qo (q_gtr rfl (gu hg20 rfl) rfl)) ?_
      refine va rfl rfl rfl (q_pick rfl rfl (pk_or' (g := (decide ((gt list i13) < 1))) (y := (decide (8 < (gt list i13)))))) ?_
      refine va rfl rfl rfl (q_move (v := .bool ((decide ((gt list i13) < 1)) || (decide (8 < (gt list i13))))) rfl (by kernel_rfl)) ?_
      refine vg0 rfl rfl rfl rfl rfl (fun hg21 => QV.qo (q_move (v := .slice Alist list.length clist) rfl (by kernel_rfl))) ?_
      refine vg0 rfl rfl rfl rfl rfl (fun hg22 => QV.qo (q_move (v := .int .i64 ((i13 : Nat) : Int)) rfl (by kernel_rfl))) ?_
      refine vg0 rfl rfl rfl rfl rfl (fun hg23 => QV.qo (q_cut_to (c := clist) (hi := i13) (xs := list) Try.underlying22 Try.sizeOf3 rfl (gu hg23 rfl) (gu hg23 rfl) (Nat.le_of_lt hl18) hlistc)) ?_
      refine vg0 rfl rfl rfl rfl rfl (fun hg24 => QV.qo (q_move (v := .int .i64 (gt list i13)) rfl (by kernel_rfl))) ?_
      obtain ⟨z26, hz27, h⟩ := bnd h
      refine vg0 rfl rfl rfl rfl rfl (fun hg25 => (q_call (call_run Try.call70 rfl rfl (args2 (gu hg25 rfl) (gu hg25 rfl))) (fun w hw => t_slices_Contains_int_int (Γ := Gh.all w) ((hlist.cut_to (hi := i13) (Nat.le_of_lt hl18)).mono hw.sat.le_all) (take_cap hlistc i13) (gt list i13) (hlist.intT_at hl18).1 (Sat.all w) (gc_of hz27 hg25)))) ?_
      refine va rfl rfl rfl (q_pick rfl rfl (pk_or' (g := ((decide ((gt list i13) < 1)) || (decide (8 < (gt list i13))))) (y := z26))) ?_
      refine WR.nil ?_
      change WC _ _ _ _ _ _
      refine WC.cif h (by kernel_rfl) (fun hb28 h => ?_) (fun hb28 h => ?_)
      · skip
        refine WC.rs ?_
        refine va rfl rfl rfl (q_build (v := .agg #[.slice none 0 0, .int .i64 0, .map none]) rfl (fun w => by kernel_rfl)) ?_
        refine e_st (i := 0) (v := .agg #[.slice none 0 0, .int .i64 0, .map none]) (new := #[.slice none 0 0, .int .i64 0, .map none]) rfl Try.sizeOf81 rfl rfl rfl rfl (by kernel_rfl) rfl rfl rfl rfl ?_
        refine va rfl rfl rfl (q_assign (v := .int .i64 1) rfl (by kernel_rfl)) ?_
        refine WR.nil ?_
        change WC _ _ _ _ _ _
        refine WC.ret ?_
        intro w hw
        obtain rfl := Option.some.inj h
        subst hF
        exact ⟨[.agg #[.slice none 0 0, .int .i64 0, .map none], .int .i64 1], (rr_agg (i := 0) (us := [.slice none 0 0, .int .i64 0, .map none]) hw rfl Try.isAgg81 Try.sizeOf81 (by kernel_rfl) rfl (rr_tmp (by kernel_rfl) rr_nil)), end_e (is := []) (by kernel_rfl) hw rfl (.inl ⟨rfl, rfl, rfl, (show I64 1 by decide), trivial⟩)⟩
      · skip
        refine WC.skip ?_
        change WC _ _ _ _ _ _
        refine WC.region ?_
        refine va rfl rfl rfl (q_add_r (r := ((i13 + 1 : Nat) : Int)) rfl rfl rfl (ctr_len hl18 hlist.le)) ?_
        refine va rfl rfl rfl (q_move (v := .int .i64 ((i13 + 1 : Nat) : Int)) rfl (by kernel_rfl)) ?_
        refine WR.nil ?_
        intro w hw
        exact ⟨hl18, (), h, (sl_ (by kernel_rfl)), hw, trivial⟩
    · skip
      have h := hge16 (ige hb17)
      refine WC.exit ?_
      change WC _ _ _ _ _ _
      refine WC.rs ?_
      refine va rfl rfl rfl (q_move (v := .slice Alist list.length clist) rfl (by kernel_rfl)) ?_
      obtain ⟨z29, hz30, h⟩ := bnd h
      refine e_call (is := []) rfl rfl (call_run Try.call71 rfl rfl (by kernel_rfl)) rfl (fun w hp => t_slices_Clone_int_int hlist hlistc hp hz30) ?_
      rintro Γ31 U33 v34 hl32 ⟨A35, c36, row37, rfl, rfl, hr38, _⟩
      change WR _ _ _ (CC F Γ31 [row37, [(g1, .cells #[.slice none 0 0, .int .i64 0, .map none] 81 (0, 0))]]) _ _ (upd _ 50 (.slice A35 z29.length c36))
      refine va rfl rfl rfl (q_move (v := .int .i64 need) rfl (by kernel_rfl)) ?_
      refine e_makeMap (intK Try.underlying3) boolT.v rfl rfl rfl rfl ?_
      intro g39 row40 hm41
      refine va rfl rfl rfl (q_build' (v := .agg #[.slice A35 z29.length c36, .int .i64 need, .map (some g39)]) rfl (bargs3 rfl rfl rfl) (fun w => by kernel_rfl)) ?_
      refine e_st (i := 2) (v := .agg #[.slice A35 z29.length c36, .int .i64 need, .map (some g39)]) (new := #[.slice A35 z29.length c36, .int .i64 need, .map (some g39)]) rfl Try.sizeOf81 rfl rfl rfl rfl (by kernel_rfl) rfl rfl rfl rfl ?_
      refine va rfl rfl rfl (q_assign (v := .int .i64 0) rfl (by kernel_rfl)) ?_
      refine WR.nil ?_
      change WC _ _ _ _ _ _
      refine WC.ret ?_
      intro w hw
      have hc46 := hr38.capz
      obtain ⟨Γ42, hw, hl43, hr44⟩ := hw.seal (i := 1) rfl; have hs45 := hr38.sl hl43 hr44
      obtain rfl := Option.some.inj h
      subst hF
      exact ⟨[.agg #[.slice A35 z29.length c36, .int .i64 need, .map (some g39)], .int .i64 0], (rr_agg (i := 2) (us := [.slice A35 z29.length c36, .int .i64 need, .map (some g39)]) hw rfl Try.isAgg81 Try.sizeOf81 (by kernel_rfl) rfl (rr_tmp (by kernel_rfl) rr_nil)), end_e (is := [0]) (by kernel_rfl) hw rfl (.inr ⟨_, rfl, A35, c36, g39, row40, rfl, rfl, hc46, hs45, hneed, (hm41.mono hl43), (show I64 0 by decide), trivial⟩)⟩
abbrev r_quorum_NewWrite (r : (Option Oquorum_asking_bool) × Int) (U : List Rowb) (Γ : Gh) (v : Value) : Prop := ∃ (g0 : Nat), ∃ (row0 : Rowb), v = .tuple #[optp r.1 g0, .int .i64 r.2] ∧ U = [row0] ∧ optob (Oquorum_asking_bool.ob 85 Γ g0) row0 r.1 ∧ I64 r.2 ∧ True
set_option maxRecDepth 100000 in
set_option maxHeartbeats 400000 in
theorem t_quorum_NewWrite {Γ : Gh} {w0 : World} {Alist : Option Addr} {clist : Nat} {list : List Int} (hlist : Sl intT Γ Alist list) (hlistc : list.length ≤ clist) (need : Int) (hneed : I64 need) (hp : Pre [] Γ w0) {r : (Option Oquorum_asking_bool) × Int} (h : m_quorum_NewWrite list need = some r) : Calls Try.prog 8 #[.slice Alist list.length clist, .int .i64 need] w0 (Outc Γ [] w0 (r_quorum_NewWrite r)) := by
  refine calls_of (N := 21) (rs := [4, 5]) (args := [.slice Alist list.length clist, .int .i64 need]) Try.func8 rfl Try.ntmps8 Try.results8 rfl ?_
  obtain ⟨F, hF⟩ : ∃ F : Fm, F = ⟨ids [], w0, Γ⟩ := ⟨_, rfl⟩
  refine WC.here (C := CC F Γ []) ?_ (hF ▸ hp.start)
  refine WC.rs ?_
  refine va rfl rfl rfl (q_assign (v := .pointer none) rfl (by kernel_rfl)) ?_
  refine va rfl rfl rfl (q_assign (v := .int .i64 0) rfl (by kernel_rfl)) ?_
  refine WR.nil ?_
  change WC _ _ _ _ _ _
  refine WC.rs ?_
  refine va rfl rfl rfl (q_move (v := .slice Alist list.length clist) rfl (by kernel_rfl)) ?_
  refine va rfl rfl rfl (q_move (v := .int .i64 need) rfl (by kernel_rfl)) ?_
  obtain ⟨z1, hz2, h⟩ := bnd h
  refine e_call (is := []) rfl rfl (call_run Try.call41 rfl rfl (by kernel_rfl)) rfl (fun w hp => t_quorum_ask_bool hlist hlistc need hneed hp hz2) ?_
  rintro Γ3 U5 v6 hl4 (⟨ho7, rfl, rfl, hr9, _⟩ | ⟨o8, ho7, A0_10, c0_10, m2_10, r2_10, rfl, rfl, hr11, hr12, hr13, hr14, hr15, _⟩)
  · skip
    have h := optm_n ho7 h
    change WR _ _ _ (CC F Γ3 []) _ _ (upd _ 11 (.tuple #[.agg #[.slice none 0 0, .int .i64 0, .map none], .int .i64 z1.2]))
    refine va rfl rfl rfl (q_move (v := .tuple #[.agg #[.slice none 0 0, .int .i64 0, .map none], .int .i64 z1.2]) rfl (by kernel_rfl)) ?_
    refine va rfl rfl rfl (q_extract (v := .agg #[.slice none 0 0, .int .i64 0, .map none]) rfl rfl rfl) ?_
    refine va rfl rfl rfl (q_extract (v := .int .i64 z1.2) rfl rfl rfl) ?_
    refine e_alloc Try.zeroValue81 rfl rfl rfl rfl ?_
    intro g16
    refine e_st (i := 0) (v := .agg #[.slice none 0 0, .int .i64 0, .map none]) (new := #[.slice none 0 0, .int .i64 0, .map none]) rfl Try.sizeOf81 rfl rfl rfl rfl (by kernel_rfl) rfl rfl rfl rfl ?_
    refine va rfl rfl rfl (q_assign (v := .int .i64 z1.2) rfl (by kernel_rfl)) ?_
    refine WR.nil ?_
    change WC _ _ _ _ _ _
    refine WC.seq ?_
    refine WC.rs ?_
    refine va rfl rfl rfl (q_move (v := .int .i64 z1.2) rfl (by kernel_rfl)) ?_
    refine va rfl rfl rfl (q_neq rfl rfl rfl) ?_
    refine WR.nil ?_
    change WC _ _ _ _ _ _
    refine WC.cif h (by kernel_rfl) (fun hb17 h => ?_) (fun hb17 h => ?_)
    · skip
      refine WC.rs ?_
      refine va rfl rfl rfl (q_move (v := .int .i64 z1.2) rfl (by kernel_rfl)) ?_
      refine va rfl rfl rfl (q_assign (v := .pointer none) rfl (by kernel_rfl)) ?_
      refine va rfl rfl rfl (q_assign (v := .int .i64 z1.2) rfl (by kernel_rfl)) ?_
      refine WR.nil ?_
      change WC _ _ _ _ _ _
      refine WC.ret ?_
      intro w hw
      have hw := hw.pad
      obtain rfl := Option.some.inj h
      subst hF
      exact end_e (is := [0]) (by kernel_rfl) hw rfl ⟨0, [], rfl, rfl, rfl, hr9, trivial⟩
    · skip
      refine WC.skip ?_
      change WC _ _ _ _ _ _
      refine WC.rs ?_
      refine va rfl rfl rfl (q_ldla (i := 0) (vs := [.slice none 0 0, .int .i64 0, .map none]) rfl rfl Try.isAgg81 Try.sizeOf81 rfl rfl) ?_
      refine va rfl rfl rfl (q_build' (v := .agg #[.slice none 0 0, .int .i64 0, .map none]) rfl (bargs1 rfl) (fun w => by kernel_rfl)) ?_
      refine e_box (v := .agg #[.slice none 0 0, .int .i64 0, .map none]) rfl rfl rfl rfl (by kernel_rfl) ?_
      intro g18
      refine va rfl rfl rfl (q_move (v := .int .i64 z1.2) rfl (by kernel_rfl)) ?_
      refine va rfl rfl rfl (q_assign (v := .pointer (some ⟨g18, 0, none⟩)) rfl (by kernel_rfl)) ?_
      refine va rfl rfl rfl (q_assign (v := .int .i64 z1.2) rfl (by kernel_rfl)) ?_
      refine WR.nil ?_
      change WC _ _ _ _ _ _
      refine WC.ret ?_
      cases h
  · skip
    have h := optm_s ho7 h
    change WR _ _ _ (CC F Γ3 [r2_10]) _ _ (upd _ 11 (.tuple #[.agg #[.slice A0_10 o8.list.length c0_10, .int .i64 o8.need, .map (some m2_10)], .int .i64 z1.2]))
    refine va rfl rfl rfl (q_move (v := .tuple #[.agg #[.slice A0_10 o8.list.length c0_10, .int .i64 o8.need, .map (some m2_10)], .int .i64 z1.2]) rfl (by kernel_rfl)) ?_
    refine va rfl rfl rfl (q_extract (v := .agg #[.slice A0_10 o8.list.length c0_10, .int .i64 o8.need, .map (some m2_10)]) rfl rfl rfl) ?_
    refine va rfl rfl rfl (q_extract (v := .int .i64 z1.2) rfl rfl rfl) ?_
    refine e_alloc Try.zeroValue81 rfl rfl rfl rfl ?_
    intro g19
    refine e_st (i := 0) (v := .agg #[.slice A0_10 o8.list.length c0_10, .int .i64 o8.need, .map (some m2_10)]) (new := #[.slice A0_10 o8.list.length c0_10, .int .i64 o8.need, .map (some m2_10)]) rfl Try.sizeOf81 rfl rfl rfl rfl (by kernel_rfl) rfl rfl rfl rfl ?_
    refine va rfl rfl rfl (q_assign (v := .int .i64 z1.2) rfl (by kernel_rfl)) ?_
    refine WR.nil ?_
    change WC _ _ _ _ _ _
    refine WC.seq ?_
    refine WC.rs ?_
    refine va rfl rfl rfl (q_move (v := .int .i64 z1.2) rfl (by kernel_rfl)) ?_
    refine va rfl rfl rfl (q_neq rfl rfl rfl) ?_
    refine WR.nil ?_
    change WC _ _ _ _ _ _
    refine WC.cif h (by kernel_rfl) (fun hb20 h => ?_) (fun hb20 h => ?_)
    · skip
      refine WC.rs ?_
      refine va rfl rfl rfl (q_move (v := .int .i64 z1.2) rfl (by kernel_rfl)) ?_
      refine va rfl rfl rfl (q_assign (v := .pointer none) rfl (by kernel_rfl)) ?_
      refine va rfl rfl rfl (q_assign (v := .int .i64 z1.2) rfl (by kernel_rfl)) ?_
      refine WR.nil ?_
      change WC _ _ _ _ _ _
      refine WC.ret ?_
      intro w hw
      have hw := hw.pad
      obtain rfl := Option.some.inj h
      subst hF
      exact end_e (is := [0]) (by kernel_rfl) hw rfl ⟨0, [], rfl, rfl, rfl, hr15, trivial⟩
    · skip
      refine WC.skip ?_
      change WC _ _ _ _ _ _
      refine WC.rs ?_
      refine va rfl rfl rfl (q_ldla (i := 0) (vs := [.slice A0_10 o8.list.length c0_10, .int .i64 o8.need, .map (some m2_10)]) rfl rfl Try.isAgg81 Try.sizeOf81 rfl rfl) ?_
      refine va rfl rfl rfl (q_build' (v := .agg #[.slice A0_10 o8.list.length c0_10, .int .i64 o8.need, .map (some m2_10)]) rfl (bargs1 rfl) (fun w => by kernel_rfl)) ?_
      refine e_box (v := .agg #[.slice A0_10 o8.list.length c0_10, .int .i64 o8.need, .map (some m2_10)]) rfl rfl rfl rfl (by kernel_rfl) ?_
      intro g21
      refine va rfl rfl rfl (q_move (v := .int .i64 z1.2) rfl (by kernel_rfl)) ?_
      refine va rfl rfl rfl (q_assign (v := .pointer (some ⟨g21, 0, none⟩)) rfl (by kernel_rfl)) ?_
      refine va rfl rfl rfl (q_assign (v := .int .i64 z1.2) rfl (by kernel_rfl)) ?_
      refine WR.nil ?_
      change WC _ _ _ _ _ _
      refine WC.ret ?_
      intro w hw
      obtain ⟨row_22, hrow_22, hob_22⟩ : ∃ rw : Rowb, rw = ([[(g21, .cells #[.slice A0_10 o8.list.length c0_10, .int .i64 o8.need, .map (some m2_10)] 85 (0, 0))], r2_10] : List Rowb).flatten ∧ Oquorum_asking_bool.ob 85 Γ3 g21 rw (⟨o8.list, o8.need, o8.got⟩ : Oquorum_asking_bool) := ⟨_, rfl, A0_10, c0_10, m2_10, r2_10, rfl, hr11, hr12, hr13, hr14, trivial⟩
      have hw := hw.fold (is := [0, 1]) rfl hrow_22
      obtain rfl := Option.some.inj h
      subst hF
      exact end_e (is := [0]) (by kernel_rfl) hw rfl ⟨g21, row_22, rfl, rfl, hob_22, hr15, trivial⟩
abbrev r_quorum_asking_bool_count (ga : Nat) (ea : Nat) (r : Oquorum_asking_bool × Bool) (U : List Rowb) (Γ : Gh) (v : Value) : Prop := ∃ (rowa' : Rowb), v = .bool r.2 ∧ U = [rowa'] ∧ Oquorum_asking_bool.ob ea Γ ga rowa' r.1 ∧ True
set_option maxRecDepth 100000 in
set_option maxHeartbeats 400000 in
theorem t_quorum_asking_bool_count {Γ : Gh} {w0 : World} {ga ea : Nat} {rowa : Rowb} {a : Oquorum_asking_bool} (ha : Oquorum_asking_bool.ob ea Γ ga rowa a) (node : Int) (hnode : I64 node) (x_ : Bool) (hp : Pre [rowa] Γ w0) {r : Oquorum_asking_bool × Bool} (h : m_quorum_asking_bool_count a node x_ = some r) : Calls Try.prog 42 #[.pointer (some ⟨ga, 0, none⟩), .int .i64 node, .bool x_] w0 (Outc Γ [rowa] w0 (r_quorum_asking_bool_count ga ea r)) := by
  refine calls_of (N := 34) (rs := [6]) (args := [.pointer (some ⟨ga, 0, none⟩), .int .i64 node, .bool x_]) Try.func42 rfl Try.ntmps42 Try.results42 rfl ?_
  obtain ⟨F, hF⟩ : ∃ F : Fm, F = ⟨ids [rowa], w0, Γ⟩ := ⟨_, rfl⟩
  refine WC.here (C := CC F Γ [rowa]) ?_ (hF ▸ hp.start)
  refine WC.rs ?_
  refine va rfl rfl rfl (q_assign (v := .bool false) rfl (by kernel_rfl)) ?_
  refine WR.nil ?_
  change WC _ _ _ _ _ _
  refine WC.rs ?_
  refine va rfl rfl rfl (q_move (v := .pointer (some ⟨ga, 0, none⟩)) rfl (by kernel_rfl)) ?_
  refine va rfl rfl rfl (q_nil (A := some ⟨ga, 0, none⟩) rfl rfl rfl) ?_
  refine va rfl rfl rfl (q_fl 2 fld_81_2 rfl rfl rfl) ?_
  have hq := ha
  obtain ⟨A0_1, c0_1, m2_1, r2_1, hrow_1, ho0_1, ho1_1, ho2_1, ho3_1, -⟩ := hq
  intro w hw; have hw := hw.unfold (i := 0) rfl hrow_1
  refine WR.here (C := CC F Γ [[(ga, .cells #[.slice A0_1 a.list.length c0_1, .int .i64 a.need, .map (some m2_1)] ea (0, 0))], r2_1]) ?_ hw
  clear hw
  refine va rfl rfl rfl (q_ldl (i := 0) (v := .map (some m2_1)) rfl rfl Try.isAgg79 rfl rfl) ?_
  refine va rfl rfl rfl (q_move (v := .int .i64 node) rfl (by kernel_rfl)) ?_
  obtain ⟨v2, hv3, hat4⟩ := MapO.look ho3_1 node (z := .bool false) (zx := false) rfl
  obtain rfl : v2 = _ := List.cons.inj hv3 |>.1
  refine va rfl rfl rfl (q_lookup2 (v := .bool ((mget node a.got).getD false)) hat4 rfl Try.underlying79 Try.zeroValue4 rfl rfl (i := 1) rfl) ?_
  refine va rfl rfl rfl (q_move (v := .tuple #[.bool ((mget node a.got).getD false), .bool ((mget node a.got).isSome)]) rfl (by kernel_rfl)) ?_
  refine va rfl rfl rfl (q_extract (v := .bool ((mget node a.got).getD false)) rfl rfl rfl) ?_
  refine va rfl rfl rfl (q_extract (v := .bool ((mget node a.got).isSome)) rfl rfl rfl) ?_
  refine va rfl rfl rfl (q_assign (v := .bool ((mget node a.got).getD false)) rfl (by kernel_rfl)) ?_
  refine va rfl rfl rfl (q_assign (v := .bool ((mget node a.got).isSome)) rfl (by kernel_rfl)) ?_
  refine WR.nil ?_
  change WC _ _ _ _ _ _
  refine WC.seq ?_
  refine WC.rs ?_
  refine va rfl rfl rfl (q_move (v := .bool ((mget node a.got).isSome)) rfl (by kernel_rfl)) ?_
  refine va rfl rfl rfl (q_move (v := .bool ((mget node a.got).isSome)) rfl (by kernel_rfl)) ?_
  refine vg0 rfl rfl rfl rfl rfl (fun hg5 => QV.qo (q_move (v := .pointer (some ⟨ga, 0, none⟩)) rfl (by kernel_rfl))) ?_
  refine vg0 rfl rfl rfl rfl rfl (fun hg6 => QV.qo (q_nil (A := some ⟨ga, 0, none⟩) rfl (gu hg6 rfl) rfl)) ?_
  refine vg0 rfl rfl rfl rfl rfl (fun hg7 => QV.qo (q_fl 0 fld_81_0 rfl (gu hg7 rfl) rfl)) ?_
  refine vg0 rfl rfl rfl rfl rfl (fun hg8 => QV.qo (q_ldl (i := 0) (v := .slice A0_1 a.list.length c0_1) rfl rfl Try.isAgg22 (gu hg8 rfl) rfl)) ?_
  refine vg0 rfl rfl rfl rfl rfl (fun hg9 => QV.qo (q_move (v := .int .i64 node) rfl (by kernel_rfl))) ?_
  obtain ⟨z11, hz12, h⟩ := bnd h
  refine vg0 rfl rfl rfl rfl rfl (fun hg10 => (q_call (call_run Try.call70 rfl rfl (args2 (gu hg10 rfl) (gu hg10 rfl))) (fun w hw => t_slices_Contains_int_int (Γ := Gh.all w) (ho1_1.mono hw.sat.le_all) ho0_1 node hnode (Sat.all w) (gc_of hz12 hg10)))) ?_
  refine vg0 rfl rfl rfl rfl rfl (fun hg13 => QV.qo (q_not rfl (gu hg13 rfl))) ?_
  refine va rfl rfl rfl (q_pick rfl rfl (pk_or' (g := ((mget node a.got).isSome)) (y := (!z11)))) ?_
  refine WR.nil ?_
  change WC _ _ _ _ _ _
  refine WC.cif h (by kernel_rfl) (fun hb14 h => ?_) (fun hb14 h => ?_)
  · skip
    refine WC.rs ?_
    refine va rfl rfl rfl (q_assign (v := .bool false) rfl (by kernel_rfl)) ?_
    refine WR.nil ?_
    change WC _ _ _ _ _ _
    refine WC.ret ?_
    intro w hw
    have hw := hw.fold (is := [0, 0]) rfl hrow_1
    obtain rfl := Option.some.inj h
    subst hF
    exact end_e (is := [0]) (by kernel_rfl) hw rfl ⟨rowa, rfl, rfl, ha, trivial⟩
  · skip
    refine WC.skip ?_
    change WC _ _ _ _ _ _
    refine WC.rs ?_
    refine va rfl rfl rfl (q_move (v := .pointer (some ⟨ga, 0, none⟩)) rfl (by kernel_rfl)) ?_
    refine va rfl rfl rfl (q_nil (A := some ⟨ga, 0, none⟩) rfl rfl rfl) ?_
    refine va rfl rfl rfl (q_fl 2 fld_81_2 rfl rfl rfl) ?_
    refine va rfl rfl rfl (q_ldl (i := 0) (v := .map (some m2_1)) rfl rfl Try.isAgg79 rfl rfl) ?_
    refine va rfl rfl rfl (q_move (v := .int .i64 node) rfl (by kernel_rfl)) ?_
    refine va rfl rfl rfl (q_move (v := .bool x_) rfl (by kernel_rfl)) ?_
    refine e_mapUpdate (i := 1) (x := node) (v := .bool x_) (a := x_) rfl rfl rfl Try.underlying79 rfl rfl (by kernel_rfl) rfl ho3_1 (by exact rfl) hnode ?_
    intro row16 hm17
    refine WR.nil ?_
    change WC _ _ _ _ _ _
    refine WC.rs ?_
    refine va rfl rfl rfl (q_assign (v := .bool true) rfl (by kernel_rfl)) ?_
    refine WR.nil ?_
    change WC _ _ _ _ _ _
    refine WC.ret ?_
    intro w hw
    obtain ⟨row_18, hrow_18, hob_18⟩ : ∃ rw : Rowb, rw = ([[(ga, .cells #[.slice A0_1 a.list.length c0_1, .int .i64 a.need, .map (some m2_1)] ea (0, 0))], row16] : List Rowb).flatten ∧ Oquorum_asking_bool.ob ea Γ ga rw (⟨a.list, a.need, (mput node x_ a.got)⟩ : Oquorum_asking_bool) := ⟨_, rfl, A0_1, c0_1, m2_1, row16, rfl, ho0_1, ho1_1, ho2_1, hm17, trivial⟩
    have hw := hw.fold (is := [0, 0]) rfl hrow_18
    obtain rfl := Option.some.inj h
    subst hF
    exact end_e (is := [0]) (by kernel_rfl) hw rfl ⟨row_18, rfl, rfl, hob_18, trivial⟩
abbrev r_quorum_Write_Ack (gw_ : Nat) (ew_ : Nat) (r : Oquorum_asking_bool × Bool) (U : List Rowb) (Γ : Gh) (v : Value) : Prop := ∃ (roww_' : Rowb), v = .bool r.2 ∧ U = [roww_'] ∧ Oquorum_asking_bool.ob ew_ Γ gw_ roww_' r.1 ∧ True
set_option maxRecDepth 100000 in
set_option maxHeartbeats 400000 in
theorem t_quorum_Write_Ack {Γ : Gh} {w0 : World} {gw_ ew_ : Nat} {roww_ : Rowb} {w_ : Oquorum_asking_bool} (hw_ : Oquorum_asking_bool.ob ew_ Γ gw_ roww_ w_) (node : Int) (hnode : I64 node) (hp : Pre [roww_] Γ w0) {r : Oquorum_asking_bool × Bool} (h : m_quorum_Write_Ack w_ node = some r) : Calls Try.prog 12 #[.pointer (some ⟨gw_, 0, none⟩), .int .i64 node] w0 (Outc Γ [roww_] w0 (r_quorum_Write_Ack gw_ ew_ r)) := by
  refine calls_of (N := 10) (rs := [4]) (args := [.pointer (some ⟨gw_, 0, none⟩), .int .i64 node]) Try.func12 rfl Try.ntmps12 Try.results12 rfl ?_
  obtain ⟨F, hF⟩ : ∃ F : Fm, F = ⟨ids [roww_], w0, Γ⟩ := ⟨_, rfl⟩
  refine WC.here (C := CC F Γ [roww_]) ?_ (hF ▸ hp.start)
  refine WC.rs ?_
  refine va rfl rfl rfl (q_assign (v := .bool false) rfl (by kernel_rfl)) ?_
  refine WR.nil ?_
  change WC _ _ _ _ _ _
  refine WC.rs ?_
  refine va rfl rfl rfl (q_move (v := .pointer (some ⟨gw_, 0, none⟩)) rfl (by kernel_rfl)) ?_
  refine va rfl rfl rfl (q_nil (A := some ⟨gw_, 0, none⟩) rfl rfl rfl) ?_
  refine va rfl rfl rfl (q_fl 0 fld_85_0 rfl rfl rfl) ?_
  refine va rfl rfl rfl (q_move (v := .int .i64 node) rfl (by kernel_rfl)) ?_
  obtain ⟨z1, hz2, h⟩ := bnd h
  refine e_call (is := [0]) rfl rfl (call_run Try.call42 rfl rfl (by kernel_rfl)) rfl (fun w hp => t_quorum_asking_bool_count hw_ node hnode true hp hz2) ?_
  rintro Γ3 U5 v6 hl4 ⟨row7, rfl, rfl, hr8, _⟩
  change WR _ _ _ (CC F Γ3 [row7]) _ _ (upd _ 9 (.bool z1.2))
  refine va rfl rfl rfl (q_assign (v := .bool z1.2) rfl (by kernel_rfl)) ?_
  refine WR.nil ?_
  change WC _ _ _ _ _ _
  refine WC.ret ?_
  intro w hw
  obtain rfl := Option.some.inj h
  subst hF
  exact end_e (is := [0]) (by kernel_rfl) hw rfl ⟨row7, rfl, rfl, hr8, trivial⟩
set_option maxRecDepth 100000 in
set_option maxHeartbeats 400000 in
theorem t_quorum_asking_bool_Done {Γ : Gh} {w0 : World} {ga ea : Nat} {rowa : Rowb} {a : Oquorum_asking_bool} (ha : Oquorum_asking_bool.ob ea Γ ga rowa a) (har : ∀ p ∈ rowa, Γ p.1 = some p.2) (hs : Sat Γ w0) {r : Bool} (h : m_quorum_asking_bool_Done a = some r) : Calls Try.prog 44 #[.pointer (some ⟨ga, 0, none⟩)] w0 (fun e w' => e = .returned (.bool r) ∧ Fr no w0 w') := by
  refine calls_of (N := 13) (rs := [2]) (args := [.pointer (some ⟨ga, 0, none⟩)]) Try.func44 rfl Try.ntmps44 Try.results44 rfl ?_
  obtain ⟨F, hF⟩ : ∃ F : Fm, F = ⟨no, w0, Γ⟩ := ⟨_, rfl⟩
  refine WC.here (C := CC F Γ []) ?_ (hF ▸ Cur.start0 hs)
  refine WC.rs ?_
  refine va rfl rfl rfl (q_assign (v := .bool false) rfl (by kernel_rfl)) ?_
  refine WR.nil ?_
  change WC _ _ _ _ _ _
  refine WC.seq ?_
  refine WC.dr (by kernel_rfl) (by kernel_rfl) (fun w hw => hw.drawn _) ?_
  refine wa rfl rfl rfl (q_move (v := .pointer (some ⟨ga, 0, none⟩)) rfl (by kernel_rfl)) ?_
  refine wa rfl rfl rfl (q_nil (A := some ⟨ga, 0, none⟩) rfl rfl rfl) ?_
  refine wa rfl rfl rfl (q_fl 2 fld_81_2 rfl rfl rfl) ?_
  have hq := ha
  obtain ⟨A0_1, c0_1, m2_1, r2_1, hrow_1, ho0_1, ho1_1, ho2_1, ho3_1, -⟩ := hq
  have hg_2 : ∀ u ∈ ([[(ga, .cells #[.slice A0_1 a.list.length c0_1, .int .i64 a.need, .map (some m2_1)] ea (0, 0))], r2_1] : List Rowb), ∀ p ∈ u, Γ p.1 = some p.2 := fun u hu p hp => (fun p hp => (har p hp)) p (hrow_1 ▸ List.mem_flatten.2 ⟨u, hu, hp⟩)
  have hgc3 := hg_2 _ (List.mem_cons_self ..) (ga, _) (List.mem_singleton.2 rfl)
  have hgs4 := hg_2 r2_1 (by simp)
  refine wa rfl rfl rfl (q_ldg (v := .map (some m2_1)) hgc3 rfl Try.isAgg79 rfl rfl) ?_
  refine wa rfl rfl rfl (q_len_mapg (fun p hp => (hgs4 p hp)) ho3_1 rfl Try.underlying79 rfl) ?_
  refine wa rfl rfl rfl (q_move (v := .pointer (some ⟨ga, 0, none⟩)) rfl (by kernel_rfl)) ?_
  refine wa rfl rfl rfl (q_nil (A := some ⟨ga, 0, none⟩) rfl rfl rfl) ?_
  refine wa rfl rfl rfl (q_fl 1 fld_81_1 rfl rfl rfl) ?_
  refine wa rfl rfl rfl (q_ldg (v := .int .i64 a.need) hgc3 rfl Try.isAgg3 rfl rfl) ?_
  refine wa rfl rfl rfl (q_geq rfl rfl rfl) ?_
  refine wa rfl rfl rfl (q_assign (v := .bool (decide (a.need ≤ ((a.got.length : Nat) : Int)))) rfl (by kernel_rfl)) ?_
  refine WQ.nil ?_
  change WC _ _ _ _ _ _
  refine WC.ret ?_
  intro w hw
  obtain rfl := Option.some.inj h
  subst hF
  exact ⟨by kernel_rfl, hw.fr⟩
set_option maxRecDepth 100000 in
set_option maxHeartbeats 400000 in
theorem t_quorum_Write_Done {Γ : Gh} {w0 : World} {gw_ ew_ : Nat} {roww_ : Rowb} {w_ : Oquorum_asking_bool} (hw_ : Oquorum_asking_bool.ob ew_ Γ gw_ roww_ w_) (hw_r : ∀ p ∈ roww_, Γ p.1 = some p.2) (hs : Sat Γ w0) {r : Bool} (h : m_quorum_Write_Done w_ = some r) : Calls Try.prog 14 #[.pointer (some ⟨gw_, 0, none⟩)] w0 (fun e w' => e = .returned (.bool r) ∧ Fr no w0 w') := by
  refine calls_of (N := 7) (rs := [2]) (args := [.pointer (some ⟨gw_, 0, none⟩)]) Try.func14 rfl Try.ntmps14 Try.results14 rfl ?_
  obtain ⟨F, hF⟩ : ∃ F : Fm, F = ⟨no, w0, Γ⟩ := ⟨_, rfl⟩
  refine WC.here (C := CC F Γ []) ?_ (hF ▸ Cur.start0 hs)
  refine WC.rs ?_
  refine va rfl rfl rfl (q_assign (v := .bool false) rfl (by kernel_rfl)) ?_
  refine WR.nil ?_
  change WC _ _ _ _ _ _
  refine WC.rs ?_
  refine va rfl rfl rfl (q_move (v := .pointer (some ⟨gw_, 0, none⟩)) rfl (by kernel_rfl)) ?_
  refine va rfl rfl rfl (q_nil (A := some ⟨gw_, 0, none⟩) rfl rfl rfl) ?_
  refine va rfl rfl rfl (q_fl 0 fld_85_0 rfl rfl rfl) ?_
  obtain ⟨z1, hz2, h⟩ := bnd h
  refine vc rfl rfl rfl (q_call (call_run Try.call44 rfl rfl (by kernel_rfl)) (fun w hw => t_quorum_asking_bool_Done (Γ := Gh.all w) (hw_.mono hw.sat.le_all) (fun p hp => hw.sat _ _ (hw_r p hp)) (Sat.all w) hz2)) ?_
  refine va rfl rfl rfl (q_assign (v := .bool z1) rfl (by kernel_rfl)) ?_
  refine WR.nil ?_
  change WC _ _ _ _ _ _
  refine WC.ret ?_
  intro w hw
  obtain rfl := Option.some.inj h
  subst hF
  exact ⟨by kernel_rfl, hw.fr⟩
abbrev r_quorum_asking_bool_Waits (ga : Nat) (ea : Nat) (rowa : Rowb) (r : List Int) (U : List Rowb) (Γ : Gh) (v : Value) : Prop := ∃ (A0 : Option Addr), ∃ (c0 : Nat), ∃ (row0 : Rowb), v = .slice A0 r.length c0 ∧ U = [rowa, row0] ∧ Own intT Γ 3 row0 A0 c0 r ∧ True
set_option maxRecDepth 100000 in
set_option maxHeartbeats 400000 in
theorem t_quorum_asking_bool_Waits {Γ : Gh} {w0 : World} {ga ea : Nat} {rowa : Rowb} {a : Oquorum_asking_bool} (ha : Oquorum_asking_bool.ob ea Γ ga rowa a) (hp : Pre [rowa] Γ w0) {r : List Int} (h : m_quorum_asking_bool_Waits a = some r) : Calls Try.prog 45 #[.pointer (some ⟨ga, 0, none⟩)] w0 (Outc Γ [rowa] w0 (r_quorum_asking_bool_Waits ga ea rowa r)) := by
  refine calls_of (N := 34) (rs := [2]) (args := [.pointer (some ⟨ga, 0, none⟩)]) Try.func45 rfl Try.ntmps45 Try.results45 rfl ?_
  obtain ⟨F, hF⟩ : ∃ F : Fm, F = ⟨ids [rowa], w0, Γ⟩ := ⟨_, rfl⟩
  refine WC.here (C := CC F Γ [rowa]) ?_ (hF ▸ hp.start)
  refine WC.rs ?_
  refine va rfl rfl rfl (q_assign (v := .slice none 0 0) rfl (by kernel_rfl)) ?_
  refine WR.nil ?_
  change WC _ _ _ _ _ _
  refine WC.rs ?_
  refine va rfl rfl rfl (q_assign (v := .slice none 0 0) rfl (by kernel_rfl)) ?_
  refine WR.nil ?_
  change WC _ _ _ _ _ _
  refine WC.seq ?_
  refine WC.rs ?_
  refine va rfl rfl rfl (q_move (v := .pointer (some ⟨ga, 0, none⟩)) rfl (by kernel_rfl)) ?_
  refine va rfl rfl rfl (q_nil (A := some ⟨ga, 0, none⟩) rfl rfl rfl) ?_
  refine va rfl rfl rfl (q_fl 0 fld_81_0 rfl rfl rfl) ?_
  have hq := ha
  obtain ⟨A0_1, c0_1, m2_1, r2_1, hrow_1, ho0_1, ho1_1, ho2_1, ho3_1, -⟩ := hq
  intro w hw; have hw := hw.unfold (i := 0) rfl hrow_1
  refine WR.here (C := CC F Γ [[(ga, .cells #[.slice A0_1 a.list.length c0_1, .int .i64 a.need, .map (some m2_1)] ea (0, 0))], r2_1]) ?_ hw
  clear hw
  refine va rfl rfl rfl (q_ldl (i := 0) (v := .slice A0_1 a.list.length c0_1) rfl rfl Try.isAgg22 rfl rfl) ?_
  refine va rfl rfl rfl (q_len_slice rfl Try.underlying22 rfl) ?_
  refine va rfl rfl rfl (q_move (v := .int .i64 0) rfl (by kernel_rfl)) ?_
  refine WR.nil ?_
  change WC _ _ _ _ _ _
  refine WC.block ?_
  intro w hw; have hw := hw.fold (is := [0, 0]) rfl hrow_1
  refine WC.here (C := CC F Γ [rowa]) ?_ hw
  clear hw
  refine WC.forI h (fun (i9 : Nat) (out_3 : List Int) σ w => ∃ (A4 : Option Addr), ∃ (c5 : Nat), ∃ (row6 : Rowb), slots σ [(0, .pointer (some ⟨ga, 0, none⟩)), (3, .slice A4 out_3.length c5), (11, .slice A0_1 a.list.length c0_1), (12, .int .i64 ((a.list.length : Nat) : Int)), (13, .int .i64 ((i9 : Nat) : Int))] ∧ CC F Γ [row6, rowa] w ∧ Own intT Γ 3 row6 A4 c5 out_3 ∧ True) ?_ ?_
  · skip
    intro w hw
    have hw := hw.pad
    exact ⟨none, 0, [], (sl_ (by kernel_rfl)), hw, (Own.nil intT _ 3), trivial⟩
  rintro f8 i9 out_3 σ w hi10 hlt11 hge12 ⟨A4, c5, row6, hsl, hw, ho7, -⟩
  refine Wpt.slots hsl ?_
  refine WC.here (C := CC F Γ [row6, rowa]) ?_ hw
  clear hw hsl
  refine WC.rs ?_
  refine va rfl rfl rfl (q_lss rfl rfl rfl) ?_
  refine WR.nil ?_
  change WC _ _ _ _ _ _
  refine WC.seq ?_
  refine WC.cond (b := (decide (((i9 : Nat) : Int) < ((a.list.length : Nat) : Int)))) (by kernel_rfl) (fun hb13 => ?_) (fun hb13 => ?_)
  · skip
    have hl14 := ilt hb13
    have h := hlt11 hl14
    refine WC.skip ?_
    change WC _ _ _ _ _ _
    refine WC.cut (fun σ w => ∃ (out_15 : List Int), ∃ (A16 : Option Addr), ∃ (c17 : Nat), ∃ (row18 : Rowb), m_quorum_asking_bool_Waits_j5 f8 out_15 = some r ∧ slots σ [(0, .pointer (some ⟨ga, 0, none⟩)), (3, .slice A16 out_15.length c17), (11, .slice A0_1 a.list.length c0_1), (12, .int .i64 ((a.list.length : Nat) : Int)), (13, .int .i64 ((i9 : Nat) : Int))] ∧ CC F Γ [row18, rowa] w ∧ Own intT Γ 3 row18 A16 c17 out_15 ∧ True) ?_ ?_
    · skip
      refine WC.block ?_
      refine WC.rs ?_
      refine va rfl rfl rfl (q_ixn (i := i9) Try.underlying22 Try.sizeOf3 rfl rfl rfl hl14 (ho1_1.some_ hl14)) ?_
      refine va rfl rfl rfl (q_ld (c := 0) (v := .int .i64 (gt a.list i9)) (ho1_1.intT_at hl14).2 rfl Try.isAgg3 rfl rfl) ?_
      refine va rfl rfl rfl (q_assign (v := .int .i64 (gt a.list i9)) rfl (by kernel_rfl)) ?_
      refine WR.nil ?_
      change WC _ _ _ _ _ _
      refine WC.rs ?_
      refine va rfl rfl rfl (q_move (v := .pointer (some ⟨ga, 0, none⟩)) rfl (by kernel_rfl)) ?_
      refine va rfl rfl rfl (q_nil (A := some ⟨ga, 0, none⟩) rfl rfl rfl) ?_
      refine va rfl rfl rfl (q_fl 2 fld_81_2 rfl rfl rfl) ?_
      have hq := ha
      obtain ⟨A0_20, c0_20, m2_20, r2_20, hrow_20, ho0_20, ho1_20, ho2_20, ho3_20, -⟩ := hq
      intro w hw; have hw := hw.unfold (i := 1) rfl hrow_20
      refine WR.here (C := CC F Γ [[(ga, .cells #[.slice A0_20 a.list.length c0_20, .int .i64 a.need, .map (some m2_20)] ea (0, 0))], r2_20, row6]) ?_ hw
      clear hw
      refine va rfl rfl rfl (q_ldl (i := 0) (v := .map (some m2_20)) rfl rfl Try.isAgg79 rfl rfl) ?_
      refine va rfl rfl rfl (q_move (v := .int .i64 (gt a.list i9)) rfl (by kernel_rfl)) ?_
      obtain ⟨v21, hv22, hat23⟩ := MapO.look ho3_20 (gt a.list i9) (z := .bool false) (zx := false) rfl
      obtain rfl : v21 = _ := List.cons.inj hv22 |>.1
      refine va rfl rfl rfl (q_lookup2 (v := .bool ((mget (gt a.list i9) a.got).getD false)) hat23 rfl Try.underlying79 Try.zeroValue4 rfl rfl (i := 1) rfl) ?_
      refine va rfl rfl rfl (q_move (v := .tuple #[.bool ((mget (gt a.list i9) a.got).getD false), .bool ((mget (gt a.list i9) a.got).isSome)]) rfl (by kernel_rfl)) ?_
      refine va rfl rfl rfl (q_extract (v := .bool ((mget (gt a.list i9) a.got).getD false)) rfl rfl rfl) ?_
      refine va rfl rfl rfl (q_extract (v := .bool ((mget (gt a.list i9) a.got).isSome)) rfl rfl rfl) ?_
      refine va rfl rfl rfl (q_assign (v := .bool ((mget (gt a.list i9) a.got).getD false)) rfl (by kernel_rfl)) ?_
      refine va rfl rfl rfl (q_assign (v := .bool ((mget (gt a.list i9) a.got).isSome)) rfl (by kernel_rfl)) ?_
      refine WR.nil ?_
      change WC _ _ _ _ _ _
      refine WC.rs ?_
      refine va rfl rfl rfl (q_move (v := .bool ((mget (gt a.list i9) a.got).isSome)) rfl (by kernel_rfl)) ?_
      refine va rfl rfl rfl (q_not rfl rfl) ?_
      refine WR.nil ?_
      change WC _ _ _ _ _ _
      refine WC.cif h (by kernel_rfl) (fun hb24 h => ?_) (fun hb24 h => ?_)
      · skip
        refine WC.region ?_
        refine va rfl rfl rfl (q_move (v := .slice A4 out_3.length c5) rfl (by kernel_rfl)) ?_
        refine va rfl rfl rfl (q_move (v := .int .i64 (gt a.list i9)) rfl (by kernel_rfl)) ?_
        refine e_buildSlice (cs := #[.int .i64 (gt a.list i9)]) (e := 3) rfl rfl rfl rfl (fun w => by kernel_rfl) ?_
        intro g25
        obtain ⟨hk26, h⟩ := chk_some h
        refine e_append (T := intT) (xs := out_3) (ys := [(gt a.list i9)]) elem_22 (i := 3) rfl rfl rfl rfl rfl rfl rfl ho7 (of_decide_eq_true hk26) (fun w hw => src_one (T := intT) (y := (gt a.list i9)) (i := 0) rfl (by exact ⟨rfl, (ho1_1.intT_at hl14).1⟩) hw) ?_
        intro row27 A28 c29 ho30
        refine va rfl rfl rfl (q_assign (v := .slice A28 (out_3 ++ [(gt a.list i9)]).length c29) rfl (by kernel_rfl)) ?_
        refine WR.nil ?_
        intro w hw
        have hw := hw.fold (is := [1, 1]) rfl hrow_20
        exact ⟨(out_3 ++ [(gt a.list i9)]), A28, c29, row27, h, (sl_ (by kernel_rfl)), (hw.only (is := [2, 0]) rfl), ho30, trivial⟩
      · skip
        refine WC.skip ?_
        intro w hw
        have hw := hw.fold (is := [0, 0]) rfl hrow_20
        exact ⟨out_3, A4, c5, row6, h, (sl_ (by kernel_rfl)), (hw.only (is := [1, 0]) rfl), ho7, trivial⟩
    · skip
      rintro σ w ⟨out_15, A16, c17, row18, h, hsl, hw, ho19, -⟩
      refine Wpt.slots hsl ?_
      refine WC.here (C := CC F Γ [row18, rowa]) ?_ hw
      clear hw hsl
      refine WC.region ?_
      refine va rfl rfl rfl (q_add_r (r := ((i9 + 1 : Nat) : Int)) rfl rfl rfl (ctr_len hl14 ho1_1.le)) ?_
      refine va rfl rfl rfl (q_move (v := .int .i64 ((i9 + 1 : Nat) : Int)) rfl (by kernel_rfl)) ?_
      refine WR.nil ?_
      intro w hw
      exact ⟨hl14, out_15, h, A16, c17, row18, (sl_ (by kernel_rfl)), hw, ho19, trivial⟩
  · skip
    have h := hge12 (ige hb13)
    refine WC.exit ?_
    change WC _ _ _ _ _ _
    refine WC.rs ?_
    refine va rfl rfl rfl (q_move (v := .slice A4 out_3.length c5) rfl (by kernel_rfl)) ?_
    refine va rfl rfl rfl (q_assign (v := .slice A4 out_3.length c5) rfl (by kernel_rfl)) ?_
    refine WR.nil ?_
    change WC _ _ _ _ _ _
    refine WC.ret ?_
    intro w hw
    obtain rfl := Option.some.inj h
    subst hF
    exact end_e (is := [1, 0]) (by kernel_rfl) hw rfl ⟨A4, c5, row6, rfl, rfl, ho7, trivial⟩
abbrev r_quorum_Write_Waits (gw_ : Nat) (ew_ : Nat) (roww_ : Rowb) (r : List Int) (U : List Rowb) (Γ : Gh) (v : Value) : Prop := ∃ (A0 : Option Addr), ∃ (c0 : Nat), ∃ (row0 : Rowb), v = .slice A0 r.length c0 ∧ U = [roww_, row0] ∧ Own intT Γ 3 row0 A0 c0 r ∧ True
set_option maxRecDepth 100000 in
set_option maxHeartbeats 400000 in
theorem t_quorum_Write_Waits {Γ : Gh} {w0 : World} {gw_ ew_ : Nat} {roww_ : Rowb} {w_ : Oquorum_asking_bool} (hw_ : Oquorum_asking_bool.ob ew_ Γ gw_ roww_ w_) (hp : Pre [roww_] Γ w0) {r : List Int} (h : m_quorum_Write_Waits w_ = some r) : Calls Try.prog 17 #[.pointer (some ⟨gw_, 0, none⟩)] w0 (Outc Γ [roww_] w0 (r_quorum_Write_Waits gw_ ew_ roww_ r)) := by
  refine calls_of (N := 7) (rs := [2]) (args := [.pointer (some ⟨gw_, 0, none⟩)]) Try.func17 rfl Try.ntmps17 Try.results17 rfl ?_
  obtain ⟨F, hF⟩ : ∃ F : Fm, F = ⟨ids [roww_], w0, Γ⟩ := ⟨_, rfl⟩
  refine WC.here (C := CC F Γ [roww_]) ?_ (hF ▸ hp.start)
  refine WC.rs ?_
  refine va rfl rfl rfl (q_assign (v := .slice none 0 0) rfl (by kernel_rfl)) ?_
  refine WR.nil ?_
  change WC _ _ _ _ _ _
  refine WC.rs ?_
  refine va rfl rfl rfl (q_move (v := .pointer (some ⟨gw_, 0, none⟩)) rfl (by kernel_rfl)) ?_
  refine va rfl rfl rfl (q_nil (A := some ⟨gw_, 0, none⟩) rfl rfl rfl) ?_
  refine va rfl rfl rfl (q_fl 0 fld_85_0 rfl rfl rfl) ?_
  obtain ⟨z1, hz2, h⟩ := bnd h
  refine e_call (is := [0]) rfl rfl (call_run Try.call45 rfl rfl (by kernel_rfl)) rfl (fun w hp => t_quorum_asking_bool_Waits hw_ hp hz2) ?_
  rintro Γ3 U5 v6 hl4 ⟨A7, c8, row9, rfl, rfl, hr10, _⟩
  change WR _ _ _ (CC F Γ3 [roww_, row9]) _ _ (upd _ 6 (.slice A7 z1.length c8))
  refine va rfl rfl rfl (q_assign (v := .slice A7 z1.length c8) rfl (by kernel_rfl)) ?_
  refine WR.nil ?_
  change WC _ _ _ _ _ _
  refine WC.ret ?_
  intro w hw
  obtain rfl := Option.some.inj h
  subst hF
  exact end_e (is := [0, 0]) (by kernel_rfl) hw rfl ⟨A7, c8, row9, rfl, rfl, hr10, trivial⟩
abbrev r_quorum_ask_api_Ver (r : (Option Oquorum_asking_api_Ver) × Int) (U : List Rowb) (Γ : Gh) (v : Value) : Prop := (r.1 = none ∧ (v = .tuple #[.agg #[.slice none 0 0, .int .i64 0, .map none], .int .i64 r.2] ∧ U = [] ∧ I64 r.2 ∧ True)) ∨ (∃ x_ : Oquorum_asking_api_Ver, r.1 = some x_ ∧ (∃ (A0_0 : Option Addr), ∃ (c0_0 : Nat), ∃ (m0_2 : Nat), ∃ (r0_2 : Rowb), v = .tuple #[.agg #[.slice A0_0 x_.list.length c0_0, .int .i64 x_.need, .map (some m0_2)], .int .i64 r.2] ∧ U = [r0_2] ∧ x_.list.length ≤ c0_0 ∧ Sl intT Γ A0_0 x_.list ∧ I64 x_.need ∧ MapO (intK Try.underlying3) (slT verT).v Γ r0_2 m0_2 x_.got ∧ I64 r.2 ∧ True))
set_option maxRecDepth 100000 in
set_option maxHeartbeats 400000 in
theorem t_quorum_ask_api_Ver {Γ : Gh} {w0 : World} {Alist : Option Addr} {clist : Nat} {list : List Int} (hlist : Sl intT Γ Alist list) (hlistc : list.length ≤ clist) (need : Int) (hneed : I64 need) (hp : Pre [] Γ w0) {r : (Option Oquorum_asking_api_Ver) × Int} (h : m_quorum_ask_api_Ver list need = some r) : Calls Try.prog 46 #[.slice Alist list.length clist, .int .i64 need] w0 (Outc Γ [] w0 (r_quorum_ask_api_Ver r)) := by
  refine calls_of_r (N := 54) (rs := [.cell 4 94, .tmp 5]) (args := [.slice Alist list.length clist, .int .i64 need]) Try.func46 rfl Try.ntmps46 Try.results46 rfl ?_
  obtain ⟨F, hF⟩ : ∃ F : Fm, F = ⟨ids [], w0, Γ⟩ := ⟨_, rfl⟩
  refine WC.here (C := CC F Γ []) ?_ (hF ▸ hp.start)
  refine WC.rs ?_
  refine e_alloc Try.zeroValue94 rfl rfl rfl rfl ?_
  intro g1
  refine va rfl rfl rfl (q_assign (v := .int .i64 0) rfl (by kernel_rfl)) ?_
  refine WR.nil ?_
  change WC _ _ _ _ _ _
  refine WC.seq ?_
  refine WC.rs ?_
  refine va rfl rfl rfl (q_move (v := .slice Alist list.length clist) rfl (by kernel_rfl)) ?_
  refine va rfl rfl rfl (q_len_slice rfl Try.underlying22 rfl) ?_
  refine va rfl rfl rfl (q_lss rfl rfl rfl) ?_
  refine va rfl rfl rfl (q_move (v := .bool (decide (((list.length : Nat) : Int) < 1))) rfl (by kernel_rfl)) ?_
  refine vg0 rfl rfl rfl rfl rfl (fun hg2 => QV.qo (q_move (v := .slice Alist list.length clist) rfl (by kernel_rfl))) ?_
  refine vg0 rfl rfl rfl rfl rfl (fun hg3 => QV.qo (q_len_slice rfl Try.underlying22 (gu hg3 rfl))) ?_
  refine vg0 rfl rfl rfl rfl rfl (fun hg4 => QV.qo (q_gtr rfl (gu hg4 rfl) rfl)) ?_
  refine va rfl rfl rfl (q_pick rfl rfl (pk_or' (g := (decide (((list.length : Nat) : Int) < 1))) (y := (decide (8 < ((list.length : Nat) : Int)))))) ?_
  refine va rfl rfl rfl (q_move (v := .bool ((decide (((list.length : Nat) : Int) < 1)) || (decide (8 < ((list.length : Nat) : Int))))) rfl (by kernel_rfl)) ?_
  refine vg0 rfl rfl rfl rfl rfl (fun hg5 => QV.qo (q_move (v := .int .i64 need) rfl (by kernel_rfl))) ?_
  refine vg0 rfl rfl rfl rfl rfl (fun hg6 => QV.qo (q_lss rfl (gu hg6 rfl) rfl)) ?_
  refine va rfl rfl rfl (q_pick rfl rfl (pk_or' (g := ((decide (((list.length : Nat) : Int) < 1)) || (decide (8 < ((list.length : Nat) : Int))))) (y := (decide (need < 1))))) ?_
  refine va rfl rfl rfl (q_move (v := .bool (((decide (((list.length : Nat) : Int) < 1)) || (decide (8 < ((list.length : Nat) : Int)))) || (decide (need < 1)))) rfl (by kernel_rfl)) ?_
  refine vg0 rfl rfl rfl rfl rfl (fun hg7 => QV.qo (q_move (v := .int .i64 need) rfl (by kernel_rfl))) ?_
  refine vg0 rfl rfl rfl rfl rfl (fun hg8 => QV.qo (q_move (v := .slice Alist list.length clist) rfl (by kernel_rfl))) ?_
  refine vg0 rfl rfl rfl rfl rfl (fun hg9 => QV.qo (q_len_slice rfl Try.underlying22 (gu hg9 rfl))) ?_
  refine vg0 rfl rfl rfl rfl rfl (fun hg10 => QV.qo (q_gtr rfl (gu hg10 rfl) (gu hg10 rfl))) ?_
  refine va rfl rfl rfl (q_pick rfl rfl (pk_or' (g := (((decide (((list.length : Nat) : Int) < 1)) || (decide (8 < ((list.length : Nat) : Int)))) || (decide (need < 1)))) (y := (decide (((list.length : Nat) : Int) < need))))) ?_
  refine WR.nil ?_
  change WC _ _ _ _ _ _
  refine WC.cif h (by kernel_rfl) (fun hb11 h => ?_) (fun hb11 h => ?_)
  · skip
    refine WC.rs ?_
    refine va rfl rfl rfl (q_build (v := .agg #[.slice none 0 0, .int .i64 0, .map none]) rfl (fun w => by kernel_rfl)) ?_
    refine e_st (i := 0) (v := .agg #[.slice none 0 0, .int .i64 0, .map none]) (new := #[.slice none 0 0, .int .i64 0, .map none]) rfl Try.sizeOf94 rfl rfl rfl rfl (by kernel_rfl) rfl rfl rfl rfl ?_
    refine va rfl rfl rfl (q_assign (v := .int .i64 1) rfl (by kernel_rfl)) ?_
    refine WR.nil ?_
    change WC _ _ _ _ _ _
    refine WC.ret ?_
    intro w hw
    obtain rfl := Option.some.inj h
    subst hF
    exact ⟨[.agg #[.slice none 0 0, .int .i64 0, .map none], .int .i64 1], (rr_agg (i := 0) (us := [.slice none 0 0, .int .i64 0, .map none]) hw rfl Try.isAgg94 Try.sizeOf94 (by kernel_rfl) rfl (rr_tmp (by kernel_rfl) rr_nil)), end_e (is := []) (by kernel_rfl) hw rfl (.inl ⟨rfl, rfl, rfl, (show I64 1 by decide), trivial⟩)⟩
  · skip
    refine WC.skip ?_
    change WC _ _ _ _ _ _
    refine WC.seq ?_
    refine WC.rs ?_
    refine va rfl rfl rfl (q_move (v := .slice Alist list.length clist) rfl (by kernel_rfl)) ?_
    refine va rfl rfl rfl (q_len_slice rfl Try.underlying22 rfl) ?_
    refine va rfl rfl rfl (q_move (v := .int .i64 0) rfl (by kernel_rfl)) ?_
    refine WR.nil ?_
    change WC _ _ _ _ _ _
    refine WC.block ?_
    refine WC.forI h (fun (i13 : Nat) (s : Unit) σ w => match s with | () => slots σ [(0, .slice Alist list.length clist), (1, .int .i64 need), (4, .pointer (some ⟨g1, 0, none⟩)), (27, .slice Alist list.length clist), (28, .int .i64 ((list.length : Nat) : Int)), (29, .int .i64 ((i13 : Nat) : Int))] ∧ CC F Γ [[(g1, .cells #[.slice none 0 0, .int .i64 0, .map none] 94 (0, 0))]] w ∧ True) ?_ ?_
    · skip
      intro w hw
      exact ⟨(sl_ (by kernel_rfl)), hw, trivial⟩
    rintro f12 i13 ⟨⟩ σ w hi14 hlt15 hge16 ⟨hsl, hw, -⟩
    refine Wpt.slots hsl ?_
    refine WC.here (C := CC F Γ [[(g1, .cells #[.slice none 0 0, .int .i64 0, .map none] 94 (0, 0))]]) ?_ hw
    clear hw hsl
    refine WC.rs ?_
    refine va rfl rfl rfl (q_lss rfl rfl rfl) ?_
    refine WR.nil ?_
    change WC _ _ _ _ _ _
    refine WC.seq ?_
    refine WC.cond (b := (decide (((i13 : Nat) : Int) < ((list.length : Nat) : Int)))) (by kernel_rfl) (fun hb17 => ?_) (fun hb17 => ?_)
    · skip
      have hl18 := ilt hb17
      have h := hlt15 hl18
      refine WC.skip ?_
      change WC _ _ _ _ _ _
      refine WC.seq ?_
      refine WC.block ?_
      refine WC.rs ?_
      refine va rfl rfl rfl (q_move (v := .int .i64 ((i13 : Nat) : Int)) rfl (by kernel_rfl)) ?_
      refine va rfl rfl rfl (q_ixn (i := i13) Try.underlying22 Try.sizeOf3 rfl rfl rfl hl18 (hlist.some_ hl18)) ?_
      refine va rfl rfl rfl (q_ld (c := 0) (v := .int .i64 (gt list i13)) (hlist.intT_at hl18).2 rfl Try.isAgg3 rfl rfl) ?_
      refine va rfl rfl rfl (q_assign (v := .int .i64 ((i13 : Nat) : Int)) rfl (by kernel_rfl)) ?_
      refine va rfl rfl rfl (q_assign (v := .int .i64 (gt list i13)) rfl (by kernel_rfl)) ?_
      refine WR.nil ?_
      change WC _ _ _ _ _ _
      refine WC.rs ?_
      refine va rfl rfl rfl (q_move (v := .int .i64 (gt list i13)) rfl (by kernel_rfl)) ?_
      refine va rfl rfl rfl (q_lss rfl rfl rfl) ?_
      refine va rfl rfl rfl (q_move (v := .bool (decide ((gt list i13) < 1))) rfl (by kernel_rfl)) ?_
      refine vg0 rfl rfl rfl rfl rfl (fun hg19 => QV.qo (q_move (v := .int .i64 (gt list i13)) rfl (by kernel_rfl))) ?_
      refine vg0 rfl rfl rfl rfl rfl (fun hg20 => QV.qo (q_gtr rfl (gu hg20 rfl) rfl)) ?_
      refine va rfl rfl rfl (q_pick rfl rfl (pk_or' (g := (decide ((gt list i13) < 1))) (y := (decide (8 < (gt list i13)))))) ?_
      refine va rfl rfl rfl (q_move (v := .bool ((decide ((gt list i13) < 1)) || (decide (8 < (gt list i13))))) rfl (by kernel_rfl)) ?_
      refine vg0 rfl rfl rfl rfl rfl (fun hg21 => QV.qo (q_move (v := .slice Alist list.length clist) rfl (by kernel_rfl))) ?_
      refine vg0 rfl rfl rfl rfl rfl (fun hg22 => QV.qo (q_move (v := .int .i64 ((i13 : Nat) : Int)) rfl (by kernel_rfl))) ?_
      refine vg0 rfl rfl rfl rfl rfl (fun hg23 => QV.qo (q_cut_to (c := clist) (hi := i13) (xs := list) Try.underlying22 Try.sizeOf3 rfl (gu hg23 rfl) (gu hg23 rfl) (Nat.le_of_lt hl18) hlistc)) ?_
      refine vg0 rfl rfl rfl rfl rfl (fun hg24 => QV.qo (q_move (v := .int .i64 (gt list i13)) rfl (by kernel_rfl))) ?_
      obtain ⟨z26, hz27, h⟩ := bnd h
      refine vg0 rfl rfl rfl rfl rfl (fun hg25 => (q_call (call_run Try.call70 rfl rfl (args2 (gu hg25 rfl) (gu hg25 rfl))) (fun w hw => t_slices_Contains_int_int (Γ := Gh.all w) ((hlist.cut_to (hi := i13) (Nat.le_of_lt hl18)).mono hw.sat.le_all) (take_cap hlistc i13) (gt list i13) (hlist.intT_at hl18).1 (Sat.all w) (gc_of hz27 hg25)))) ?_
      refine va rfl rfl rfl (q_pick rfl rfl (pk_or' (g := ((decide ((gt list i13) < 1)) || (decide (8 < (gt list i13))))) (y := z26))) ?_
      refine WR.nil ?_
      change WC _ _ _ _ _ _
      refine WC.cif h (by kernel_rfl) (fun hb28 h => ?_) (fun hb28 h => ?_)
      · skip
        refine WC.rs ?_
        refine va rfl rfl rfl (q_build (v := .agg #[.slice none 0 0, .int .i64 0, .map none]) rfl (fun w => by kernel_rfl)) ?_
        refine e_st (i := 0) (v := .agg #[.slice none 0 0, .int .i64 0, .map none]) (new := #[.slice none 0 0, .int .i64 0, .map none]) rfl Try.sizeOf94 rfl rfl rfl rfl (by kernel_rfl) rfl rfl rfl rfl ?_
        refine va rfl rfl rfl (q_assign (v := .int .i64 1) rfl (by kernel_rfl)) ?_
        refine WR.nil ?_
        change WC _ _ _ _ _ _
        refine WC.ret ?_
        intro w hw
        obtain rfl := Option.some.inj h
        subst hF
        exact ⟨[.agg #[.slice none 0 0, .int .i64 0, .map none], .int .i64 1], (rr_agg (i := 0) (us := [.slice none 0 0, .int .i64 0, .map none]) hw rfl Try.isAgg94 Try.sizeOf94 (by kernel_rfl) rfl (rr_tmp (by kernel_rfl) rr_nil)), end_e (is := []) (by kernel_rfl) hw rfl (.inl ⟨rfl, rfl, rfl, (show I64 1 by decide), trivial⟩)⟩
      · skip
        refine WC.skip ?_
        change WC _ _ _ _ _ _
        refine WC.region ?_
        refine va rfl rfl rfl (q_add_r (r := ((i13 + 1 : Nat) : Int)) rfl rfl rfl (ctr_len hl18 hlist.le)) ?_
        refine va rfl rfl rfl (q_move (v := .int .i64 ((i13 + 1 : Nat) : Int)) rfl (by kernel_rfl)) ?_
        refine WR.nil ?_
        intro w hw
        exact ⟨hl18, (), h, (sl_ (by kernel_rfl)), hw, trivial⟩
    · skip
      have h := hge16 (ige hb17)
      refine WC.exit ?_
      change WC _ _ _ _ _ _
      refine WC.rs ?_
      refine va rfl rfl rfl (q_move (v := .slice Alist list.length clist) rfl (by kernel_rfl)) ?_
      obtain ⟨z29, hz30, h⟩ := bnd h
      refine e_call (is := []) rfl rfl (call_run Try.call71 rfl rfl (by kernel_rfl)) rfl (fun w hp => t_slices_Clone_int_int hlist hlistc hp hz30) ?_
      rintro Γ31 U33 v34 hl32 ⟨A35, c36, row37, rfl, rfl, hr38, _⟩
      change WR _ _ _ (CC F Γ31 [row37, [(g1, .cells #[.slice none 0 0, .int .i64 0, .map none] 94 (0, 0))]]) _ _ (upd _ 50 (.slice A35 z29.length c36))
      refine va rfl rfl rfl (q_move (v := .int .i64 need) rfl (by kernel_rfl)) ?_
      refine e_makeMap (intK Try.underlying3) (slT verT).v rfl rfl rfl rfl ?_
      intro g39 row40 hm41
      refine va rfl rfl rfl (q_build' (v := .agg #[.slice A35 z29.length c36, .int .i64 need, .map (some g39)]) rfl (bargs3 rfl rfl rfl) (fun w => by kernel_rfl)) ?_
      refine e_st (i := 2) (v := .agg #[.slice A35 z29.length c36, .int .i64 need, .map (some g39)]) (new := #[.slice A35 z29.length c36, .int .i64 need, .map (some g39)]) rfl Try.sizeOf94 rfl rfl rfl rfl (by kernel_rfl) rfl rfl rfl rfl ?_
      refine va rfl rfl rfl (q_assign (v := .int .i64 0) rfl (by kernel_rfl)) ?_
      refine WR.nil ?_
      change WC _ _ _ _ _ _
      refine WC.ret ?_
      intro w hw
      have hc46 := hr38.capz
      obtain ⟨Γ42, hw, hl43, hr44⟩ := hw.seal (i := 1) rfl; have hs45 := hr38.sl hl43 hr44
      obtain rfl := Option.some.inj h
      subst hF
      exact ⟨[.agg #[.slice A35 z29.length c36, .int .i64 need, .map (some g39)], .int .i64 0], (rr_agg (i := 2) (us := [.slice A35 z29.length c36, .int .i64 need, .map (some g39)]) hw rfl Try.isAgg94 Try.sizeOf94 (by kernel_rfl) rfl (rr_tmp (by kernel_rfl) rr_nil)), end_e (is := [0]) (by kernel_rfl) hw rfl (.inr ⟨_, rfl, A35, c36, g39, row40, rfl, rfl, hc46, hs45, hneed, (hm41.mono hl43), (show I64 0 by decide), trivial⟩)⟩
abbrev r_quorum_NewRead (r : (Option Oquorum_asking_api_Ver) × Int) (U : List Rowb) (Γ : Gh) (v : Value) : Prop := ∃ (g0 : Nat), ∃ (row0 : Rowb), v = .tuple #[optp r.1 g0, .int .i64 r.2] ∧ U = [row0] ∧ optob (Oquorum_asking_api_Ver.ob 98 Γ g0) row0 r.1 ∧ I64 r.2 ∧ True
set_option maxRecDepth 100000 in
set_option maxHeartbeats 400000 in
theorem t_quorum_NewRead {Γ : Gh} {w0 : World} {Alist : Option Addr} {clist : Nat} {list : List Int} (hlist : Sl intT Γ Alist list) (hlistc : list.length ≤ clist) (need : Int) (hneed : I64 need) (hp : Pre [] Γ w0) {r : (Option Oquorum_asking_api_Ver) × Int} (h : m_quorum_NewRead list need = some r) : Calls Try.prog 19 #[.slice Alist list.length clist, .int .i64 need] w0 (Outc Γ [] w0 (r_quorum_NewRead r)) := by
  refine calls_of (N := 21) (rs := [4, 5]) (args := [.slice Alist list.length clist, .int .i64 need]) Try.func19 rfl Try.ntmps19 Try.results19 rfl ?_
  obtain ⟨F, hF⟩ : ∃ F : Fm, F = ⟨ids [], w0, Γ⟩ := ⟨_, rfl⟩
  refine WC.here (C := CC F Γ []) ?_ (hF ▸ hp.start)
  refine WC.rs ?_
  refine va rfl rfl rfl (q_assign (v := .pointer none) rfl (by kernel_rfl)) ?_
  refine va rfl rfl rfl (q_assign (v := .int .i64 0) rfl (by kernel_rfl)) ?_
  refine WR.nil ?_
  change WC _ _ _ _ _ _
  refine WC.rs ?_
  refine va rfl rfl rfl (q_move (v := .slice Alist list.length clist) rfl (by kernel_rfl)) ?_
  refine va rfl rfl rfl (q_move (v := .int .i64 need) rfl (by kernel_rfl)) ?_
  obtain ⟨z1, hz2, h⟩ := bnd h
  refine e_call (is := []) rfl rfl (call_run Try.call46 rfl rfl (by kernel_rfl)) rfl (fun w hp => t_quorum_ask_api_Ver hlist hlistc need hneed hp hz2) ?_
  rintro Γ3 U5 v6 hl4 (⟨ho7, rfl, rfl, hr9, _⟩ | ⟨o8, ho7, A0_10, c0_10, m2_10, r2_10, rfl, rfl, hr11, hr12, hr13, hr14, hr15, _⟩)
  · skip
    have h := optm_n ho7 h
    change WR _ _ _ (CC F Γ3 []) _ _ (upd _ 11 (.tuple #[.agg #[.slice none 0 0, .int .i64 0, .map none], .int .i64 z1.2]))
    refine va rfl rfl rfl (q_move (v := .tuple #[.agg #[.slice none 0 0, .int .i64 0, .map none], .int .i64 z1.2]) rfl (by kernel_rfl)) ?_
    refine va rfl rfl rfl (q_extract (v := .agg #[.slice none 0 0, .int .i64 0, .map none]) rfl rfl rfl) ?_
    refine va rfl rfl rfl (q_extract (v := .int .i64 z1.2) rfl rfl rfl) ?_
    refine e_alloc Try.zeroValue94 rfl rfl rfl rfl ?_
    intro g16
    refine e_st (i := 0) (v := .agg #[.slice none 0 0, .int .i64 0, .map none]) (new := #[.slice none 0 0, .int .i64 0, .map none]) rfl Try.sizeOf94 rfl rfl rfl rfl (by kernel_rfl) rfl rfl rfl rfl ?_
    refine va rfl rfl rfl (q_assign (v := .int .i64 z1.2) rfl (by kernel_rfl)) ?_
    refine WR.nil ?_
    change WC _ _ _ _ _ _
    refine WC.seq ?_
    refine WC.rs ?_
    refine va rfl rfl rfl (q_move (v := .int .i64 z1.2) rfl (by kernel_rfl)) ?_
    refine va rfl rfl rfl (q_neq rfl rfl rfl) ?_
    refine WR.nil ?_
    change WC _ _ _ _ _ _
    refine WC.cif h (by kernel_rfl) (fun hb17 h => ?_) (fun hb17 h => ?_)
    · skip
      refine WC.rs ?_
      refine va rfl rfl rfl (q_move (v := .int .i64 z1.2) rfl (by kernel_rfl)) ?_
      refine va rfl rfl rfl (q_assign (v := .pointer none) rfl (by kernel_rfl)) ?_
      refine va rfl rfl rfl (q_assign (v := .int .i64 z1.2) rfl (by kernel_rfl)) ?_
      refine WR.nil ?_
      change WC _ _ _ _ _ _
      refine WC.ret ?_
      intro w hw
      have hw := hw.pad
      obtain rfl := Option.some.inj h
      subst hF
      exact end_e (is := [0]) (by kernel_rfl) hw rfl ⟨0, [], rfl, rfl, rfl, hr9, trivial⟩
    · skip
      refine WC.skip ?_
      change WC _ _ _ _ _ _
      refine WC.rs ?_
      refine va rfl rfl rfl (q_ldla (i := 0) (vs := [.slice none 0 0, .int .i64 0, .map none]) rfl rfl Try.isAgg94 Try.sizeOf94 rfl rfl) ?_
      refine va rfl rfl rfl (q_build' (v := .agg #[.slice none 0 0, .int .i64 0, .map none]) rfl (bargs1 rfl) (fun w => by kernel_rfl)) ?_
      refine e_box (v := .agg #[.slice none 0 0, .int .i64 0, .map none]) rfl rfl rfl rfl (by kernel_rfl) ?_
      intro g18
      refine va rfl rfl rfl (q_move (v := .int .i64 z1.2) rfl (by kernel_rfl)) ?_
      refine va rfl rfl rfl (q_assign (v := .pointer (some ⟨g18, 0, none⟩)) rfl (by kernel_rfl)) ?_
      refine va rfl rfl rfl (q_assign (v := .int .i64 z1.2) rfl (by kernel_rfl)) ?_
      refine WR.nil ?_
      change WC _ _ _ _ _ _
      refine WC.ret ?_
      cases h
  · skip
    have h := optm_s ho7 h
    change WR _ _ _ (CC F Γ3 [r2_10]) _ _ (upd _ 11 (.tuple #[.agg #[.slice A0_10 o8.list.length c0_10, .int .i64 o8.need, .map (some m2_10)], .int .i64 z1.2]))
    refine va rfl rfl rfl (q_move (v := .tuple #[.agg #[.slice A0_10 o8.list.length c0_10, .int .i64 o8.need, .map (some m2_10)], .int .i64 z1.2]) rfl (by kernel_rfl)) ?_
    refine va rfl rfl rfl (q_extract (v := .agg #[.slice A0_10 o8.list.length c0_10, .int .i64 o8.need, .map (some m2_10)]) rfl rfl rfl) ?_
    refine va rfl rfl rfl (q_extract (v := .int .i64 z1.2) rfl rfl rfl) ?_
    refine e_alloc Try.zeroValue94 rfl rfl rfl rfl ?_
    intro g19
    refine e_st (i := 0) (v := .agg #[.slice A0_10 o8.list.length c0_10, .int .i64 o8.need, .map (some m2_10)]) (new := #[.slice A0_10 o8.list.length c0_10, .int .i64 o8.need, .map (some m2_10)]) rfl Try.sizeOf94 rfl rfl rfl rfl (by kernel_rfl) rfl rfl rfl rfl ?_
    refine va rfl rfl rfl (q_assign (v := .int .i64 z1.2) rfl (by kernel_rfl)) ?_
    refine WR.nil ?_
    change WC _ _ _ _ _ _
    refine WC.seq ?_
    refine WC.rs ?_
    refine va rfl rfl rfl (q_move (v := .int .i64 z1.2) rfl (by kernel_rfl)) ?_
    refine va rfl rfl rfl (q_neq rfl rfl rfl) ?_
    refine WR.nil ?_
    change WC _ _ _ _ _ _
    refine WC.cif h (by kernel_rfl) (fun hb20 h => ?_) (fun hb20 h => ?_)
    · skip
      refine WC.rs ?_
      refine va rfl rfl rfl (q_move (v := .int .i64 z1.2) rfl (by kernel_rfl)) ?_
      refine va rfl rfl rfl (q_assign (v := .pointer none) rfl (by kernel_rfl)) ?_
      refine va rfl rfl rfl (q_assign (v := .int .i64 z1.2) rfl (by kernel_rfl)) ?_
      refine WR.nil ?_
      change WC _ _ _ _ _ _
      refine WC.ret ?_
      intro w hw
      have hw := hw.pad
      obtain rfl := Option.some.inj h
      subst hF
      exact end_e (is := [0]) (by kernel_rfl) hw rfl ⟨0, [], rfl, rfl, rfl, hr15, trivial⟩
    · skip
      refine WC.skip ?_
      change WC _ _ _ _ _ _
      refine WC.rs ?_
      refine va rfl rfl rfl (q_ldla (i := 0) (vs := [.slice A0_10 o8.list.length c0_10, .int .i64 o8.need, .map (some m2_10)]) rfl rfl Try.isAgg94 Try.sizeOf94 rfl rfl) ?_
      refine va rfl rfl rfl (q_build' (v := .agg #[.slice A0_10 o8.list.length c0_10, .int .i64 o8.need, .map (some m2_10)]) rfl (bargs1 rfl) (fun w => by kernel_rfl)) ?_
      refine e_box (v := .agg #[.slice A0_10 o8.list.length c0_10, .int .i64 o8.need, .map (some m2_10)]) rfl rfl rfl rfl (by kernel_rfl) ?_
      intro g21
      refine va rfl rfl rfl (q_move (v := .int .i64 z1.2) rfl (by kernel_rfl)) ?_
      refine va rfl rfl rfl (q_assign (v := .pointer (some ⟨g21, 0, none⟩)) rfl (by kernel_rfl)) ?_
      refine va rfl rfl rfl (q_assign (v := .int .i64 z1.2) rfl (by kernel_rfl)) ?_
      refine WR.nil ?_
      change WC _ _ _ _ _ _
      refine WC.ret ?_
      intro w hw
      obtain ⟨row_22, hrow_22, hob_22⟩ : ∃ rw : Rowb, rw = ([[(g21, .cells #[.slice A0_10 o8.list.length c0_10, .int .i64 o8.need, .map (some m2_10)] 98 (0, 0))], r2_10] : List Rowb).flatten ∧ Oquorum_asking_api_Ver.ob 98 Γ3 g21 rw (⟨o8.list, o8.need, o8.got⟩ : Oquorum_asking_api_Ver) := ⟨_, rfl, A0_10, c0_10, m2_10, r2_10, rfl, hr11, hr12, hr13, hr14, trivial⟩
      have hw := hw.fold (is := [0, 1]) rfl hrow_22
      obtain rfl := Option.some.inj h
      subst hF
      exact end_e (is := [0]) (by kernel_rfl) hw rfl ⟨g21, row_22, rfl, rfl, hob_22, hr15, trivial⟩
set_option maxRecDepth 100000 in
set_option maxHeartbeats 400000 in
theorem t_span_Right {Γ : Gh} {w0 : World} {Al : Option Addr} {cl : Nat} {l : List Span} (hl : Sl spanT Γ Al l) (hlc : l.length ≤ cl) (hs : Sat Γ w0) {r : Bool} (h : m_span_Right l = some r) : Calls Try.prog 95 #[.slice Al l.length cl] w0 (fun e w' => e = .returned (.bool r) ∧ Fr no w0 w') := by
  refine calls_of (N := 65) (rs := [2]) (args := [.slice Al l.length cl]) Try.func95 rfl Try.ntmps95 Try.results95 rfl ?_
  obtain ⟨F, hF⟩ : ∃ F : Fm, F = ⟨no, w0, Γ⟩ := ⟨_, rfl⟩
  refine WC.here (C := CC F Γ []) ?_ (hF ▸ Cur.start0 hs)
  refine WC.rs ?_
  refine va rfl rfl rfl (q_assign (v := .bool false) rfl (by kernel_rfl)) ?_
  refine WR.nil ?_
  change WC _ _ _ _ _ _
  refine WC.rs ?_
  refine va rfl rfl rfl (q_build (v := .agg #[.int .i64 0, .int .i64 0, .int .i64 0]) rfl (fun w => by kernel_rfl)) ?_
  refine e_alloc Try.zeroValue71 rfl rfl rfl rfl ?_
  intro g1
  refine e_st (i := 0) (v := .agg #[.int .i64 0, .int .i64 0, .int .i64 0]) (new := #[.int .i64 0, .int .i64 0, .int .i64 0]) rfl Try.sizeOf71 rfl rfl rfl rfl (by kernel_rfl) rfl rfl rfl rfl ?_
  refine WR.nil ?_
  change WC _ _ _ _ _ _
  refine WC.seq ?_
  refine WC.rs ?_
  refine va rfl rfl rfl (q_move (v := .slice Al l.length cl) rfl (by kernel_rfl)) ?_
  refine va rfl rfl rfl (q_len_slice rfl Try.underlying56 rfl) ?_
  refine va rfl rfl rfl (q_move (v := .int .i64 0) rfl (by kernel_rfl)) ?_
  refine WR.nil ?_
  change WC _ _ _ _ _ _
  refine WC.block ?_
  refine WC.forI h (fun (i5 : Nat) (x2 : Span) σ w => slots σ [(0, .slice Al l.length cl), (3, .pointer (some ⟨g1, 0, none⟩)), (7, .slice Al l.length cl), (8, .int .i64 ((l.length : Nat) : Int)), (9, .int .i64 ((i5 : Nat) : Int))] ∧ CC F Γ [[(g1, .cells #[.int .i64 x2.s, .int .i64 x2.f, .int .i64 x2.t] 71 (0, 0))]] w ∧ Span.fits Γ  x2 ∧ True) ?_ ?_
  · skip
    intro w hw
    exact ⟨(sl_ (by kernel_rfl)), hw, ⟨(show I64 0 by decide), (show I64 0 by decide), (show I64 0 by decide)⟩, trivial⟩
  rintro f4 i5 x2 σ w hi6 hlt7 hge8 ⟨hsl, hw, hf3, -⟩
  refine Wpt.slots hsl ?_
  refine WC.here (C := CC F Γ [[(g1, .cells #[.int .i64 x2.s, .int .i64 x2.f, .int .i64 x2.t] 71 (0, 0))]]) ?_ hw
  clear hw hsl
  refine WC.rs ?_
  refine va rfl rfl rfl (q_lss rfl rfl rfl) ?_
  refine WR.nil ?_
  change WC _ _ _ _ _ _
  refine WC.seq ?_
  refine WC.cond (b := (decide (((i5 : Nat) : Int) < ((l.length : Nat) : Int)))) (by kernel_rfl) (fun hb9 => ?_) (fun hb9 => ?_)
  · skip
    have hl10 := ilt hb9
    have h := hlt7 hl10
    refine WC.skip ?_
    change WC _ _ _ _ _ _
    refine WC.seq ?_
    refine WC.block ?_
    refine WC.rs ?_
    refine va rfl rfl rfl (q_ixn (i := i5) Try.underlying56 Try.sizeOf71 rfl rfl rfl hl10 (hl.some_ hl10)) ?_
    refine va rfl rfl rfl (q_lda (c := 0) (vs := [.int .i64 (gt l i5).s, .int .i64 (gt l i5).f, .int .i64 (gt l i5).t]) (hl.spanT_at hl10).2 rfl Try.isAgg71 Try.sizeOf71 rfl rfl rfl) ?_
    refine e_alloc Try.zeroValue71 rfl rfl rfl rfl ?_
    intro g11
    refine e_st (i := 0) (v := .agg #[.int .i64 (gt l i5).s, .int .i64 (gt l i5).f, .int .i64 (gt l i5).t]) (new := #[.int .i64 (gt l i5).s, .int .i64 (gt l i5).f, .int .i64 (gt l i5).t]) rfl Try.sizeOf71 rfl rfl rfl rfl (by kernel_rfl) rfl rfl rfl rfl ?_
    refine WR.nil ?_
    change WC _ _ _ _ _ _
    refine WC.seq ?_
    refine WC.rs ?_
    refine va rfl rfl rfl (q_fl 0 fld_71_0 rfl rfl rfl) ?_
    refine va rfl rfl rfl (q_ldl (i := 0) (v := .int .i64 (gt l i5).s) rfl rfl Try.isAgg3 rfl rfl) ?_
    refine va rfl rfl rfl (q_lss rfl rfl rfl) ?_
    refine va rfl rfl rfl (q_move (v := .bool (decide ((gt l i5).s < 1))) rfl (by kernel_rfl)) ?_
    refine vg0 rfl rfl rfl rfl rfl (fun hg12 => QV.qo (q_fl 0 fld_71_0 rfl rfl rfl)) ?_
    refine vg0 rfl rfl rfl rfl rfl (fun hg13 => QV.qo (q_ldl (i := 0) (v := .int .i64 (gt l i5).s) rfl rfl Try.isAgg3 (gu hg13 rfl) rfl)) ?_
    refine vg0 rfl rfl rfl rfl rfl (fun hg14 => QV.qo (q_gtr rfl (gu hg14 rfl) rfl)) ?_
    refine va rfl rfl rfl (q_pick rfl rfl (pk_or' (g := (decide ((gt l i5).s < 1))) (y := (decide (16 < (gt l i5).s))))) ?_
    refine va rfl rfl rfl (q_move (v := .bool ((decide ((gt l i5).s < 1)) || (decide (16 < (gt l i5).s)))) rfl (by kernel_rfl)) ?_
    refine vg0 rfl rfl rfl rfl rfl (fun hg15 => QV.qo (q_fl 1 fld_71_1 rfl rfl rfl)) ?_
    refine vg0 rfl rfl rfl rfl rfl (fun hg16 => QV.qo (q_ldl (i := 0) (v := .int .i64 (gt l i5).f) rfl rfl Try.isAgg2 (gu hg16 rfl) rfl)) ?_
    refine vg0 rfl rfl rfl rfl rfl (fun hg17 => QV.qo (q_lss rfl (gu hg17 rfl) rfl)) ?_
    refine va rfl rfl rfl (q_pick rfl rfl (pk_or' (g := ((decide ((gt l i5).s < 1)) || (decide (16 < (gt l i5).s)))) (y := (decide ((gt l i5).f < 1))))) ?_
    refine va rfl rfl rfl (q_move (v := .bool (((decide ((gt l i5).s < 1)) || (decide (16 < (gt l i5).s))) || (decide ((gt l i5).f < 1)))) rfl (by kernel_rfl)) ?_
    refine vg0 rfl rfl rfl rfl rfl (fun hg18 => QV.qo (q_fl 1 fld_71_1 rfl rfl rfl)) ?_
    refine vg0 rfl rfl rfl rfl rfl (fun hg19 => QV.qo (q_ldl (i := 0) (v := .int .i64 (gt l i5).f) rfl rfl Try.isAgg2 (gu hg19 rfl) rfl)) ?_
    refine vg0 rfl rfl rfl rfl rfl (fun hg20 => QV.qo (q_fl 2 fld_71_2 rfl rfl rfl)) ?_
    refine vg0 rfl rfl rfl rfl rfl (fun hg21 => QV.qo (q_ldl (i := 0) (v := .int .i64 (gt l i5).t) rfl rfl Try.isAgg2 (gu hg21 rfl) rfl)) ?_
    refine vg0 rfl rfl rfl rfl rfl (fun hg22 => QV.qo (q_gtr rfl (gu hg22 rfl) (gu hg22 rfl))) ?_
    refine va rfl rfl rfl (q_pick rfl rfl (pk_or' (g := (((decide ((gt l i5).s < 1)) || (decide (16 < (gt l i5).s))) || (decide ((gt l i5).f < 1)))) (y := (decide ((gt l i5).t < (gt l i5).f))))) ?_
    refine va rfl rfl rfl (q_move (v := .bool ((((decide ((gt l i5).s < 1)) || (decide (16 < (gt l i5).s))) || (decide ((gt l i5).f < 1))) || (decide ((gt l i5).t < (gt l i5).f)))) rfl (by kernel_rfl)) ?_
    refine vg0 rfl rfl rfl rfl rfl (fun hg23 => QV.qo (q_fl 2 fld_71_2 rfl rfl rfl)) ?_
    refine vg0 rfl rfl rfl rfl rfl (fun hg24 => QV.qo (q_ldl (i := 0) (v := .int .i64 (gt l i5).t) rfl rfl Try.isAgg2 (gu hg24 rfl) rfl)) ?_
    refine vg0 rfl rfl rfl rfl rfl (fun hg25 => QV.qo (q_gtr rfl (gu hg25 rfl) rfl)) ?_
    refine va rfl rfl rfl (q_pick rfl rfl (pk_or' (g := ((((decide ((gt l i5).s < 1)) || (decide (16 < (gt l i5).s))) || (decide ((gt l i5).f < 1))) || (decide ((gt l i5).t < (gt l i5).f)))) (y := (decide (4611686018427387904 < (gt l i5).t))))) ?_
    refine va rfl rfl rfl (q_move (v := .bool (((((decide ((gt l i5).s < 1)) || (decide (16 < (gt l i5).s))) || (decide ((gt l i5).f < 1))) || (decide ((gt l i5).t < (gt l i5).f))) || (decide (4611686018427387904 < (gt l i5).t)))) rfl (by kernel_rfl)) ?_
    refine vg0 rfl rfl rfl rfl rfl (fun hg26 => QV.qo (q_fl 0 fld_71_0 rfl rfl rfl)) ?_
    refine vg0 rfl rfl rfl rfl rfl (fun hg27 => QV.qo (q_ldl (i := 0) (v := .int .i64 (gt l i5).s) rfl rfl Try.isAgg3 (gu hg27 rfl) rfl)) ?_
    refine vg0 rfl rfl rfl rfl rfl (fun hg28 => QV.qo (q_fl 0 fld_71_0 rfl rfl rfl)) ?_
    refine vg0 rfl rfl rfl rfl rfl (fun hg29 => QV.qo (q_ldl (i := 1) (v := .int .i64 x2.s) rfl rfl Try.isAgg3 (gu hg29 rfl) rfl)) ?_
    refine vg0 rfl rfl rfl rfl rfl (fun hg30 => QV.qo (q_lss rfl (gu hg30 rfl) (gu hg30 rfl))) ?_
    refine va rfl rfl rfl (q_pick rfl rfl (pk_or' (g := (((((decide ((gt l i5).s < 1)) || (decide (16 < (gt l i5).s))) || (decide ((gt l i5).f < 1))) || (decide ((gt l i5).t < (gt l i5).f))) || (decide (4611686018427387904 < (gt l i5).t)))) (y := (decide ((gt l i5).s < x2.s))))) ?_
    refine va rfl rfl rfl (q_move (v := .bool ((((((decide ((gt l i5).s < 1)) || (decide (16 < (gt l i5).s))) || (decide ((gt l i5).f < 1))) || (decide ((gt l i5).t < (gt l i5).f))) || (decide (4611686018427387904 < (gt l i5).t))) || (decide ((gt l i5).s < x2.s)))) rfl (by kernel_rfl)) ?_
    refine vg0 rfl rfl rfl rfl rfl (fun hg31 => QV.qo (q_fl 0 fld_71_0 rfl rfl rfl)) ?_
    refine vg0 rfl rfl rfl rfl rfl (fun hg32 => QV.qo (q_ldl (i := 0) (v := .int .i64 (gt l i5).s) rfl rfl Try.isAgg3 (gu hg32 rfl) rfl)) ?_
    refine vg0 rfl rfl rfl rfl rfl (fun hg33 => QV.qo (q_fl 0 fld_71_0 rfl rfl rfl)) ?_
    refine vg0 rfl rfl rfl rfl rfl (fun hg34 => QV.qo (q_ldl (i := 1) (v := .int .i64 x2.s) rfl rfl Try.isAgg3 (gu hg34 rfl) rfl)) ?_
    refine vg0 rfl rfl rfl rfl rfl (fun hg35 => QV.qo (q_eql rfl (gu hg35 rfl) (gu hg35 rfl))) ?_
    refine vg0 rfl rfl rfl rfl rfl (fun hg36 => QV.qo (q_move (v := .bool ((gt l i5).s == x2.s)) rfl (gu hg36 rfl))) ?_
    refine vh1 (c0 := (!((((((decide ((gt l i5).s < 1)) || (decide (16 < (gt l i5).s))) || (decide ((gt l i5).f < 1))) || (decide ((gt l i5).t < (gt l i5).f))) || (decide (4611686018427387904 < (gt l i5).t))) || (decide ((gt l i5).s < x2.s))))) (g := ((gt l i5).s == x2.s)) rfl rfl rfl rfl rfl (fun hg37 => QV.qo (q_fl 1 fld_71_1 rfl rfl rfl)) ?_
    refine vh1 (c0 := (!((((((decide ((gt l i5).s < 1)) || (decide (16 < (gt l i5).s))) || (decide ((gt l i5).f < 1))) || (decide ((gt l i5).t < (gt l i5).f))) || (decide (4611686018427387904 < (gt l i5).t))) || (decide ((gt l i5).s < x2.s))))) (g := ((gt l i5).s == x2.s)) rfl rfl rfl rfl rfl (fun hg38 => QV.qo (q_ldl (i := 0) (v := .int .i64 (gt l i5).f) rfl rfl Try.isAgg2 (gu hg38 rfl) rfl)) ?_
    refine vh1 (c0 := (!((((((decide ((gt l i5).s < 1)) || (decide (16 < (gt l i5).s))) || (decide ((gt l i5).f < 1))) || (decide ((gt l i5).t < (gt l i5).f))) || (decide (4611686018427387904 < (gt l i5).t))) || (decide ((gt l i5).s < x2.s))))) (g := ((gt l i5).s == x2.s)) rfl rfl rfl rfl rfl (fun hg39 => QV.qo (q_fl 2 fld_71_2 rfl rfl rfl)) ?_
    refine vh1 (c0 := (!((((((decide ((gt l i5).s < 1)) || (decide (16 < (gt l i5).s))) || (decide ((gt l i5).f < 1))) || (decide ((gt l i5).t < (gt l i5).f))) || (decide (4611686018427387904 < (gt l i5).t))) || (decide ((gt l i5).s < x2.s))))) (g := ((gt l i5).s == x2.s)) rfl rfl rfl rfl rfl (fun hg40 => QV.qo (q_ldl (i := 1) (v := .int .i64 x2.t) rfl rfl Try.isAgg2 (gu hg40 rfl) rfl)) ?_
    refine vh1 (c0 := (!((((((decide ((gt l i5).s < 1)) || (decide (16 < (gt l i5).s))) || (decide ((gt l i5).f < 1))) || (decide ((gt l i5).t < (gt l i5).f))) || (decide (4611686018427387904 < (gt l i5).t))) || (decide ((gt l i5).s < x2.s))))) (g := ((gt l i5).s == x2.s)) rfl rfl rfl rfl rfl (fun hg41 => QV.qo (q_add rfl (gu hg41 rfl) rfl)) ?_
    refine vh1 (c0 := (!((((((decide ((gt l i5).s < 1)) || (decide (16 < (gt l i5).s))) || (decide ((gt l i5).f < 1))) || (decide ((gt l i5).t < (gt l i5).f))) || (decide (4611686018427387904 < (gt l i5).t))) || (decide ((gt l i5).s < x2.s))))) (g := ((gt l i5).s == x2.s)) rfl rfl rfl rfl rfl (fun hg42 => QV.qo (q_leq rfl (gu hg42 rfl) (gu hg42 rfl))) ?_
    refine vg0 rfl rfl rfl rfl rfl (fun hg43 => QV.qo (q_pick rfl (gu hg43 rfl) (pk_and (c := (!((((((decide ((gt l i5).s < 1)) || (decide (16 < (gt l i5).s))) || (decide ((gt l i5).f < 1))) || (decide ((gt l i5).t < (gt l i5).f))) || (decide (4611686018427387904 < (gt l i5).t))) || (decide ((gt l i5).s < x2.s))))) (g := ((gt l i5).s == x2.s)) (y := (decide ((gt l i5).f ≤ (w64 (x2.t + 1))))) hg43))) ?_
    refine va rfl rfl rfl (q_pick rfl rfl (pk_or' (g := ((((((decide ((gt l i5).s < 1)) || (decide (16 < (gt l i5).s))) || (decide ((gt l i5).f < 1))) || (decide ((gt l i5).t < (gt l i5).f))) || (decide (4611686018427387904 < (gt l i5).t))) || (decide ((gt l i5).s < x2.s)))) (y := (((gt l i5).s == x2.s) && (decide ((gt l i5).f ≤ (w64 (x2.t + 1)))))))) ?_
    refine WR.nil ?_
    change WC _ _ _ _ _ _
    refine WC.cif h (by kernel_rfl) (fun hb44 h => ?_) (fun hb44 h => ?_)
    · skip
      refine WC.rs ?_
      refine va rfl rfl rfl (q_assign (v := .bool false) rfl (by kernel_rfl)) ?_
      refine WR.nil ?_
      change WC _ _ _ _ _ _
      refine WC.ret ?_
      intro w hw
      obtain rfl := Option.some.inj h
      subst hF
      exact ⟨by kernel_rfl, hw.fr⟩
    · skip
      refine WC.skip ?_
      change WC _ _ _ _ _ _
      refine WC.region ?_
      refine va rfl rfl rfl (q_ldla (i := 0) (vs := [.int .i64 (gt l i5).s, .int .i64 (gt l i5).f, .int .i64 (gt l i5).t]) rfl rfl Try.isAgg71 Try.sizeOf71 rfl rfl) ?_
      refine e_st (i := 1) (v := .agg #[.int .i64 (gt l i5).s, .int .i64 (gt l i5).f, .int .i64 (gt l i5).t]) (new := #[.int .i64 (gt l i5).s, .int .i64 (gt l i5).f, .int .i64 (gt l i5).t]) rfl Try.sizeOf71 rfl rfl rfl rfl (by kernel_rfl) rfl rfl rfl rfl ?_
      refine WR.nil ?_
      change WC _ _ _ _ _ _
      refine WC.region ?_
      refine va rfl rfl rfl (q_add_r (r := ((i5 + 1 : Nat) : Int)) rfl rfl rfl (ctr_len hl10 hl.le)) ?_
      refine va rfl rfl rfl (q_move (v := .int .i64 ((i5 + 1 : Nat) : Int)) rfl (by kernel_rfl)) ?_
      refine WR.nil ?_
      intro w hw
      exact ⟨hl10, (gt l i5), h, (sl_ (by kernel_rfl)), (hw.only (is := [1]) rfl), (hl.spanT_at hl10).1, trivial⟩
  · skip
    have h := hge8 (ige hb9)
    refine WC.exit ?_
    change WC _ _ _ _ _ _
    refine WC.rs ?_
    refine va rfl rfl rfl (q_move (v := .slice Al l.length cl) rfl (by kernel_rfl)) ?_
    refine va rfl rfl rfl (q_len_slice rfl Try.underlying56 rfl) ?_
    refine va rfl rfl rfl (q_leq rfl rfl rfl) ?_
    refine va rfl rfl rfl (q_assign (v := .bool (decide (((l.length : Nat) : Int) ≤ 1024))) rfl (by kernel_rfl)) ?_
    refine WR.nil ?_
    change WC _ _ _ _ _ _
    refine WC.ret ?_
    intro w hw
    obtain rfl := Option.some.inj h
    subst hF
    exact ⟨by kernel_rfl, hw.fr⟩
set_option maxRecDepth 100000 in
set_option maxHeartbeats 400000 in
theorem t_span_Top {Γ : Gh} {w0 : World} {Al : Option Addr} {cl : Nat} {l : List Span} (hl : Sl spanT Γ Al l) (hlc : l.length ≤ cl) (s_ : Int) (hs_ : I64 s_) (hs : Sat Γ w0) {r : Int} (h : m_span_Top l s_ = some r) : Calls Try.prog 96 #[.slice Al l.length cl, .int .i64 s_] w0 (fun e w' => e = .returned (.int .i64 r) ∧ Fr no w0 w') := by
  refine calls_of (N := 24) (rs := [4]) (args := [.slice Al l.length cl, .int .i64 s_]) Try.func96 rfl Try.ntmps96 Try.results96 rfl ?_
  obtain ⟨F, hF⟩ : ∃ F : Fm, F = ⟨no, w0, Γ⟩ := ⟨_, rfl⟩
  refine WC.here (C := CC F Γ []) ?_ (hF ▸ Cur.start0 hs)
  refine WC.rs ?_
  refine va rfl rfl rfl (q_assign (v := .int .i64 0) rfl (by kernel_rfl)) ?_
  refine WR.nil ?_
  change WC _ _ _ _ _ _
  refine WC.rs ?_
  refine va rfl rfl rfl (q_assign (v := .int .i64 0) rfl (by kernel_rfl)) ?_
  refine WR.nil ?_
  change WC _ _ _ _ _ _
  refine WC.seq ?_
  refine WC.rs ?_
  refine va rfl rfl rfl (q_move (v := .slice Al l.length cl) rfl (by kernel_rfl)) ?_
  refine va rfl rfl rfl (q_len_slice rfl Try.underlying56 rfl) ?_
  refine va rfl rfl rfl (q_move (v := .int .i64 0) rfl (by kernel_rfl)) ?_
  refine WR.nil ?_
  change WC _ _ _ _ _ _
  refine WC.block ?_
  refine WC.forI h (fun (i4 : Nat) (top_1 : Int) σ w => slots σ [(1, .int .i64 s_), (5, .int .i64 top_1), (8, .slice Al l.length cl), (9, .int .i64 ((l.length : Nat) : Int)), (10, .int .i64 ((i4 : Nat) : Int))] ∧ CC F Γ [] w ∧ I64 top_1 ∧ True) ?_ ?_
  · skip
    intro w hw
    exact ⟨(sl_ (by kernel_rfl)), hw, (show I64 0 by decide), trivial⟩
  rintro f3 i4 top_1 σ w hi5 hlt6 hge7 ⟨hsl, hw, hr2, -⟩
  refine Wpt.slots hsl ?_
  refine WC.here (C := CC F Γ []) ?_ hw
  clear hw hsl
  refine WC.rs ?_
  refine va rfl rfl rfl (q_lss rfl rfl rfl) ?_
  refine WR.nil ?_
  change WC _ _ _ _ _ _
  refine WC.seq ?_
  refine WC.cond (b := (decide (((i4 : Nat) : Int) < ((l.length : Nat) : Int)))) (by kernel_rfl) (fun hb8 => ?_) (fun hb8 => ?_)
  · skip
    have hl9 := ilt hb8
    have h := hlt6 hl9
    refine WC.skip ?_
    change WC _ _ _ _ _ _
    refine WC.cut (fun σ w => ∃ (top_10 : Int), m_span_Top_j6 f3 top_10 = some r ∧ slots σ [(1, .int .i64 s_), (5, .int .i64 top_10), (8, .slice Al l.length cl), (9, .int .i64 ((l.length : Nat) : Int)), (10, .int .i64 ((i4 : Nat) : Int))] ∧ CC F Γ [] w ∧ I64 top_10 ∧ True) ?_ ?_
    · skip
      refine WC.block ?_
      refine WC.rs ?_
      refine va rfl rfl rfl (q_ixn (i := i4) Try.underlying56 Try.sizeOf71 rfl rfl rfl hl9 (hl.some_ hl9)) ?_
      refine va rfl rfl rfl (q_lda (c := 0) (vs := [.int .i64 (gt l i4).s, .int .i64 (gt l i4).f, .int .i64 (gt l i4).t]) (hl.spanT_at hl9).2 rfl Try.isAgg71 Try.sizeOf71 rfl rfl rfl) ?_
      refine e_alloc Try.zeroValue71 rfl rfl rfl rfl ?_
      intro g12
      refine e_st (i := 0) (v := .agg #[.int .i64 (gt l i4).s, .int .i64 (gt l i4).f, .int .i64 (gt l i4).t]) (new := #[.int .i64 (gt l i4).s, .int .i64 (gt l i4).f, .int .i64 (gt l i4).t]) rfl Try.sizeOf71 rfl rfl rfl rfl (by kernel_rfl) rfl rfl rfl rfl ?_
      refine WR.nil ?_
      change WC _ _ _ _ _ _
      refine WC.rs ?_
      refine va rfl rfl rfl (q_fl 0 fld_71_0 rfl rfl rfl) ?_
      refine va rfl rfl rfl (q_ldl (i := 0) (v := .int .i64 (gt l i4).s) rfl rfl Try.isAgg3 rfl rfl) ?_
      refine va rfl rfl rfl (q_move (v := .int .i64 s_) rfl (by kernel_rfl)) ?_
      refine va rfl rfl rfl (q_eql rfl rfl rfl) ?_
      refine WR.nil ?_
      change WC _ _ _ _ _ _
      refine WC.cif h (by kernel_rfl) (fun hb13 h => ?_) (fun hb13 h => ?_)
      · skip
        refine WC.region ?_
        refine va rfl rfl rfl (q_move (v := .int .i64 top_1) rfl (by kernel_rfl)) ?_
        refine va rfl rfl rfl (q_fl 2 fld_71_2 rfl rfl rfl) ?_
        refine va rfl rfl rfl (q_ldl (i := 0) (v := .int .i64 (gt l i4).t) rfl rfl Try.isAgg2 rfl rfl) ?_
        refine va rfl rfl rfl (q_max rfl rfl rfl) ?_
        refine va rfl rfl rfl (q_assign (v := .int .i64 (max top_1 (gt l i4).t)) rfl (by kernel_rfl)) ?_
        refine WR.nil ?_
        intro w hw
        exact ⟨(max top_1 (gt l i4).t), h, (sl_ (by kernel_rfl)), (hw.only (is := []) rfl), (max_r hr2 (hl.spanT_at hl9).1.2.2), trivial⟩
      · skip
        refine WC.skip ?_
        intro w hw
        exact ⟨top_1, h, (sl_ (by kernel_rfl)), (hw.only (is := []) rfl), hr2, trivial⟩
    · skip
      rintro σ w ⟨top_10, h, hsl, hw, hr11, -⟩
      refine Wpt.slots hsl ?_
      refine WC.here (C := CC F Γ []) ?_ hw
      clear hw hsl
      refine WC.region ?_
      refine va rfl rfl rfl (q_add_r (r := ((i4 + 1 : Nat) : Int)) rfl rfl rfl (ctr_len hl9 hl.le)) ?_
      refine va rfl rfl rfl (q_move (v := .int .i64 ((i4 + 1 : Nat) : Int)) rfl (by kernel_rfl)) ?_
      refine WR.nil ?_
      intro w hw
      exact ⟨hl9, top_10, h, (sl_ (by kernel_rfl)), hw, hr11, trivial⟩
  · skip
    have h := hge7 (ige hb8)
    refine WC.exit ?_
    change WC _ _ _ _ _ _
    refine WC.rs ?_
    refine va rfl rfl rfl (q_move (v := .int .i64 top_1) rfl (by kernel_rfl)) ?_
    refine va rfl rfl rfl (q_assign (v := .int .i64 top_1) rfl (by kernel_rfl)) ?_
    refine WR.nil ?_
    change WC _ _ _ _ _ _
    refine WC.ret ?_
    intro w hw
    obtain rfl := Option.some.inj h
    subst hF
    exact ⟨by kernel_rfl, hw.fr⟩
set_option maxRecDepth 100000 in
set_option maxHeartbeats 400000 in
theorem t_vers_RightOne {Γ : Gh} {w0 : World} {Av_2 : Option Addr} {cv_2 : Nat} (v_ : Ver) (hv_ : Ver.fits Γ Av_2 cv_2 v_) (hs : Sat Γ w0) {r : Bool} (h : m_vers_RightOne v_ = some r) : Calls Try.prog 88 #[.agg #[.int .i64 v_.dot.s, .int .i64 v_.dot.n, .slice Av_2 v_.past.length cv_2, .bool v_.gone, .string v_.val]] w0 (fun e w' => e = .returned (.bool r) ∧ Fr no w0 w') := by
  refine calls_of (N := 50) (rs := [2]) (args := [.agg #[.int .i64 v_.dot.s, .int .i64 v_.dot.n, .slice Av_2 v_.past.length cv_2, .bool v_.gone, .string v_.val]]) Try.func88 rfl Try.ntmps88 Try.results88 rfl ?_
  obtain ⟨F, hF⟩ : ∃ F : Fm, F = ⟨no, w0, Γ⟩ := ⟨_, rfl⟩
  refine WC.here (C := CC F Γ []) ?_ (hF ▸ Cur.start0 hs)
  refine WC.rs ?_
  refine e_box (v := .agg #[.int .i64 v_.dot.s, .int .i64 v_.dot.n, .slice Av_2 v_.past.length cv_2, .bool v_.gone, .string v_.val]) rfl rfl rfl rfl (by kernel_rfl) ?_
  intro g1
  refine va rfl rfl rfl (q_assign (v := .bool false) rfl (by kernel_rfl)) ?_
  refine WR.nil ?_
  change WC _ _ _ _ _ _
  refine WC.rs ?_
  refine va rfl rfl rfl (q_fl 0 fld_58_0 rfl rfl rfl) ?_
  refine va rfl rfl rfl (q_fl 0 fld_55_0 rfl rfl rfl) ?_
  refine va rfl rfl rfl (q_ldl (i := 0) (v := .int .i64 v_.dot.s) rfl rfl Try.isAgg3 rfl rfl) ?_
  refine va rfl rfl rfl (q_fl 0 fld_58_0 rfl rfl rfl) ?_
  refine va rfl rfl rfl (q_fl 1 fld_55_1 rfl rfl rfl) ?_
  refine va rfl rfl rfl (q_ldl (i := 0) (v := .int .i64 v_.dot.n) rfl rfl Try.isAgg2 rfl rfl) ?_
  refine va rfl rfl rfl (q_fl 0 fld_58_0 rfl rfl rfl) ?_
  refine va rfl rfl rfl (q_fl 1 fld_55_1 rfl rfl rfl) ?_
  refine va rfl rfl rfl (q_ldl (i := 0) (v := .int .i64 v_.dot.n) rfl rfl Try.isAgg2 rfl rfl) ?_
  refine va rfl rfl rfl (q_build' (v := .agg #[.int .i64 v_.dot.s, .int .i64 v_.dot.n, .int .i64 v_.dot.n]) rfl (bargs3 rfl rfl rfl) (fun w => by kernel_rfl)) ?_
  refine e_alloc Try.zeroValue71 rfl rfl rfl rfl ?_
  intro g2
  refine e_st (i := 0) (v := .agg #[.int .i64 v_.dot.s, .int .i64 v_.dot.n, .int .i64 v_.dot.n]) (new := #[.int .i64 v_.dot.s, .int .i64 v_.dot.n, .int .i64 v_.dot.n]) rfl Try.sizeOf71 rfl rfl rfl rfl (by kernel_rfl) rfl rfl rfl rfl ?_
  refine WR.nil ?_
  change WC _ _ _ _ _ _
  refine WC.seq ?_
  intro w hw; have h03 := hw.le
  refine WC.here (C := CC F Γ [[(g2, .cells #[.int .i64 v_.dot.s, .int .i64 v_.dot.n, .int .i64 v_.dot.n] 71 (0, 0))], [(g1, .cells #[.int .i64 v_.dot.s, .int .i64 v_.dot.n, .slice Av_2 v_.past.length cv_2, .bool v_.gone, .string v_.val] 58 (0, 0))]]) ?_ hw; clear hw
  refine WC.held (CC F Γ [[(g2, .cells #[.int .i64 v_.dot.s, .int .i64 v_.dot.n, .int .i64 v_.dot.n] 71 (0, 0))], [(g1, .cells #[.int .i64 v_.dot.s, .int .i64 v_.dot.n, .slice Av_2 v_.past.length cv_2, .bool v_.gone, .string v_.val] 58 (0, 0))]]) (by kernel_rfl) (fun w hw => hw.drawn _) ?_
  change WH _ _ _ _ (CC F Γ [[(g2, .cells #[.int .i64 v_.dot.s, .int .i64 v_.dot.n, .int .i64 v_.dot.n] 71 (0, 0))], [(g1, .cells #[.int .i64 v_.dot.s, .int .i64 v_.dot.n, .slice Av_2 v_.past.length cv_2, .bool v_.gone, .string v_.val] 58 (0, 0))]]) _ 37 #[false, false, false, false, false, false, false, false, false, false, false, false, false, false, false, false, false, false, false, false, false, false, false, false, false, false, false, false, false, false, false, false, false, false, false, false, false] _
  refine ht (i := 0) rfl (by kernel_rfl) rfl rfl rfl (fun w hw => hw.back (Gh.refl _) h03 (.cons_cons _ (.cons_cons _ .slnil))) (q_ldla (i := 0) (vs := [.int .i64 v_.dot.s, .int .i64 v_.dot.n, .int .i64 v_.dot.n]) rfl rfl Try.isAgg71 Try.sizeOf71 rfl rfl) ?_
  refine WH.lone (i := 1) (by kernel_rfl) rfl ?_
  refine e_buildSlice (cs := #[.int .i64 v_.dot.s, .int .i64 v_.dot.n, .int .i64 v_.dot.n]) (e := 71) rfl rfl rfl rfl (fun w => by kernel_rfl) ?_
  intro g4
  refine WR.nil ?_
  refine WH.next (fun w hw => hw.back (Gh.refl _) h03 (.cons _ (.cons_cons _ (.cons_cons _ .slnil)))) ?_
  refine WH.lone (i := 2) (by kernel_rfl) rfl ?_
  have ho5 : Own spanT Γ 71 [(g4, .cells #[.int .i64 v_.dot.s, .int .i64 v_.dot.n, .int .i64 v_.dot.n] 71 (0, 0))] (some ⟨g4, 0, none⟩) 1 [(⟨v_.dot.s, v_.dot.n, v_.dot.n⟩ : Span)] := Own.of_blockL (T := spanT) (ys := [(⟨v_.dot.s, v_.dot.n, v_.dot.n⟩ : Span)]) [[.int .i64 v_.dot.s, .int .i64 v_.dot.n, .int .i64 v_.dot.n]] rfl (show 1 ≤ lim by decide) (show Ty.rd spanT Γ [.int .i64 v_.dot.s, .int .i64 v_.dot.n, .int .i64 v_.dot.n] (⟨v_.dot.s, v_.dot.n, v_.dot.n⟩ : Span) ∧ True from ⟨⟨rfl, ⟨hv_.1, hv_.2.1, hv_.2.1⟩⟩, trivial⟩)
  obtain ⟨z6, hz7, h⟩ := bnd h
  refine vc rfl rfl rfl (q_call (call_run Try.call95 rfl rfl (by kernel_rfl)) (fun w hw => t_span_Right (Γ := Gh.all w) (ho5.sl hw.sat.le_all (hw.ra 0 rfl)) ho5.capz (Sat.all w) hz7)) ?_
  refine WR.nil ?_
  refine WH.next (fun w hw => hw.back (Gh.refl _) h03 (.cons _ (.cons_cons _ (.cons_cons _ .slnil)))) ?_
  refine ht (i := 3) rfl (by kernel_rfl) rfl rfl rfl (fun w hw => hw.back (Gh.refl _) h03 (.cons _ (.cons_cons _ (.cons_cons _ .slnil)))) (q_move (v := .bool z6) rfl (by kernel_rfl)) ?_
  refine hg1 (i := 4) rfl (by kernel_rfl) rfl rfl rfl rfl rfl (fun w hw => hw.back (Gh.refl _) h03 (.cons _ (.cons_cons _ (.cons_cons _ .slnil)))) (fun hg8 => (q_fl 2 fld_58_1 rfl rfl rfl)) ?_
  refine hg1 (i := 5) rfl (by kernel_rfl) rfl rfl rfl rfl rfl (fun w hw => hw.back (Gh.refl _) h03 (.cons _ (.cons_cons _ (.cons_cons _ .slnil)))) (fun hg9 => (q_ldl (i := 1) (v := .slice Av_2 v_.past.length cv_2) rfl rfl Try.isAgg56 (gu hg9 rfl) rfl)) ?_
  refine WH.lone (i := 6) (by kernel_rfl) rfl ?_
  obtain ⟨z11, hz12, h⟩ := bnd h
  refine vg1 rfl rfl rfl rfl rfl (fun hg10 => (q_call (call_run Try.call95 rfl rfl (args1 (gu hg10 rfl))) (fun w hw => t_span_Right (Γ := Gh.all w) (hv_.2.2.1.2.mono hw.sat.le_all) hv_.2.2.1.1 (Sat.all w) (gc_of hz12 hg10)))) ?_
  refine WR.nil ?_
  refine WH.next (fun w hw => hw.back (Gh.refl _) h03 (.cons _ (.cons_cons _ (.cons_cons _ .slnil)))) ?_
  refine ht (i := 7) rfl (by kernel_rfl) rfl rfl rfl (fun w hw => hw.back (Gh.refl _) h03 (.cons _ (.cons_cons _ (.cons_cons _ .slnil)))) (q_pick rfl rfl (pk_and' (g := z6) (y := z11))) ?_
  refine ht (i := 8) rfl (by kernel_rfl) rfl rfl rfl (fun w hw => hw.back (Gh.refl _) h03 (.cons _ (.cons_cons _ (.cons_cons _ .slnil)))) (q_move (v := .bool (z6 && z11)) rfl (by kernel_rfl)) ?_
  refine hg1 (i := 9) rfl (by kernel_rfl) rfl rfl rfl rfl rfl (fun w hw => hw.back (Gh.refl _) h03 (.cons _ (.cons_cons _ (.cons_cons _ .slnil)))) (fun hg13 => (q_fl 2 fld_58_1 rfl rfl rfl)) ?_
  refine hg1 (i := 10) rfl (by kernel_rfl) rfl rfl rfl rfl rfl (fun w hw => hw.back (Gh.refl _) h03 (.cons _ (.cons_cons _ (.cons_cons _ .slnil)))) (fun hg14 => (q_ldl (i := 1) (v := .slice Av_2 v_.past.length cv_2) rfl rfl Try.isAgg56 (gu hg14 rfl) rfl)) ?_
  refine hg1 (i := 11) rfl (by kernel_rfl) rfl rfl rfl rfl rfl (fun w hw => hw.back (Gh.refl _) h03 (.cons _ (.cons_cons _ (.cons_cons _ .slnil)))) (fun hg15 => (q_fl 0 fld_58_0 rfl rfl rfl)) ?_
  refine hg1 (i := 12) rfl (by kernel_rfl) rfl rfl rfl rfl rfl (fun w hw => hw.back (Gh.refl _) h03 (.cons _ (.cons_cons _ (.cons_cons _ .slnil)))) (fun hg16 => (q_fl 0 fld_55_0 rfl (gu hg16 rfl) rfl)) ?_
  refine hg1 (i := 13) rfl (by kernel_rfl) rfl rfl rfl rfl rfl (fun w hw => hw.back (Gh.refl _) h03 (.cons _ (.cons_cons _ (.cons_cons _ .slnil)))) (fun hg17 => (q_ldl (i := 1) (v := .int .i64 v_.dot.s) rfl rfl Try.isAgg3 (gu hg17 rfl) rfl)) ?_
  refine hg1 (i := 15) rfl (by kernel_rfl) rfl rfl rfl rfl rfl (fun w hw => hw.back (Gh.refl _) h03 (.cons _ (.cons_cons _ (.cons_cons _ .slnil)))) (fun hg18 => (q_fl 0 fld_58_0 rfl rfl rfl)) ?_
  refine hg1 (i := 16) rfl (by kernel_rfl) rfl rfl rfl rfl rfl (fun w hw => hw.back (Gh.refl _) h03 (.cons _ (.cons_cons _ (.cons_cons _ .slnil)))) (fun hg19 => (q_fl 1 fld_55_1 rfl (gu hg19 rfl) rfl)) ?_
  refine hg1 (i := 17) rfl (by kernel_rfl) rfl rfl rfl rfl rfl (fun w hw => hw.back (Gh.refl _) h03 (.cons _ (.cons_cons _ (.cons_cons _ .slnil)))) (fun hg20 => (q_ldl (i := 1) (v := .int .i64 v_.dot.n) rfl rfl Try.isAgg2 (gu hg20 rfl) rfl)) ?_
  refine WH.lone (i := 14) (by kernel_rfl) rfl ?_
  obtain ⟨z22, hz23, h⟩ := bnd h
  refine vg1 rfl rfl rfl rfl rfl (fun hg21 => (q_call (call_run Try.call96 rfl rfl (args2 (gu hg21 rfl) (gu hg21 rfl))) (fun w hw => t_span_Top (Γ := Gh.all w) (hv_.2.2.1.2.mono hw.sat.le_all) hv_.2.2.1.1 v_.dot.s hv_.1 (Sat.all w) (gc_of hz23 hg21)))) ?_
  refine WR.nil ?_
  refine WH.next (fun w hw => hw.back (Gh.refl _) h03 (.cons _ (.cons_cons _ (.cons_cons _ .slnil)))) ?_
  refine hg1 (i := 18) rfl (by kernel_rfl) rfl rfl rfl rfl rfl (fun w hw => hw.back (Gh.refl _) h03 (.cons _ (.cons_cons _ (.cons_cons _ .slnil)))) (fun hg24 => (q_lss rfl (gu hg24 rfl) (gu hg24 rfl))) ?_
  refine ht (i := 19) rfl (by kernel_rfl) rfl rfl rfl (fun w hw => hw.back (Gh.refl _) h03 (.cons _ (.cons_cons _ (.cons_cons _ .slnil)))) (q_pick rfl rfl (pk_and' (g := (z6 && z11)) (y := (decide (z22 < v_.dot.n))))) ?_
  refine ht (i := 20) rfl (by kernel_rfl) rfl rfl rfl (fun w hw => hw.back (Gh.refl _) h03 (.cons _ (.cons_cons _ (.cons_cons _ .slnil)))) (q_move (v := .bool ((z6 && z11) && (decide (z22 < v_.dot.n)))) rfl (by kernel_rfl)) ?_
  refine hg1 (i := 21) rfl (by kernel_rfl) rfl rfl rfl rfl rfl (fun w hw => hw.back (Gh.refl _) h03 (.cons _ (.cons_cons _ (.cons_cons _ .slnil)))) (fun hg25 => (q_fl 4 fld_58_3 rfl rfl rfl)) ?_
  refine hg1 (i := 22) rfl (by kernel_rfl) rfl rfl rfl rfl rfl (fun w hw => hw.back (Gh.refl _) h03 (.cons _ (.cons_cons _ (.cons_cons _ .slnil)))) (fun hg26 => (q_ldl (i := 1) (v := .string v_.val) rfl rfl Try.isAgg9 (gu hg26 rfl) rfl)) ?_
  refine hg1 (i := 23) rfl (by kernel_rfl) rfl rfl rfl rfl rfl (fun w hw => hw.back (Gh.refl _) h03 (.cons _ (.cons_cons _ (.cons_cons _ .slnil)))) (fun hg27 => (q_len_str rfl Try.underlying9 (gu hg27 rfl))) ?_
  refine hg1 (i := 24) rfl (by kernel_rfl) rfl rfl rfl rfl rfl (fun w hw => hw.back (Gh.refl _) h03 (.cons _ (.cons_cons _ (.cons_cons _ .slnil)))) (fun hg28 => (q_leq rfl (gu hg28 rfl) rfl)) ?_
  refine ht (i := 25) rfl (by kernel_rfl) rfl rfl rfl (fun w hw => hw.back (Gh.refl _) h03 (.cons _ (.cons_cons _ (.cons_cons _ .slnil)))) (q_pick rfl rfl (pk_and' (g := ((z6 && z11) && (decide (z22 < v_.dot.n)))) (y := (decide (((v_.val.size : Nat) : Int) ≤ 256))))) ?_
  refine ht (i := 26) rfl (by kernel_rfl) rfl rfl rfl (fun w hw => hw.back (Gh.refl _) h03 (.cons _ (.cons_cons _ (.cons_cons _ .slnil)))) (q_move (v := .bool (((z6 && z11) && (decide (z22 < v_.dot.n))) && (decide (((v_.val.size : Nat) : Int) ≤ 256)))) rfl (by kernel_rfl)) ?_
  refine hg1 (i := 27) rfl (by kernel_rfl) rfl rfl rfl rfl rfl (fun w hw => hw.back (Gh.refl _) h03 (.cons _ (.cons_cons _ (.cons_cons _ .slnil)))) (fun hg29 => (q_fl 3 fld_58_2 rfl rfl rfl)) ?_
  refine hg1 (i := 28) rfl (by kernel_rfl) rfl rfl rfl rfl rfl (fun w hw => hw.back (Gh.refl _) h03 (.cons _ (.cons_cons _ (.cons_cons _ .slnil)))) (fun hg30 => (q_ldl (i := 1) (v := .bool v_.gone) rfl rfl Try.isAgg4 (gu hg30 rfl) rfl)) ?_
  refine hg1 (i := 29) rfl (by kernel_rfl) rfl rfl rfl rfl rfl (fun w hw => hw.back (Gh.refl _) h03 (.cons _ (.cons_cons _ (.cons_cons _ .slnil)))) (fun hg31 => (q_not rfl (gu hg31 rfl))) ?_
  refine hg1 (i := 30) rfl (by kernel_rfl) rfl rfl rfl rfl rfl (fun w hw => hw.back (Gh.refl _) h03 (.cons _ (.cons_cons _ (.cons_cons _ .slnil)))) (fun hg32 => (q_move (v := .bool (!v_.gone)) rfl (gu hg32 rfl))) ?_
  refine hh0 (c0 := (((z6 && z11) && (decide (z22 < v_.dot.n))) && (decide (((v_.val.size : Nat) : Int) ≤ 256)))) (g := (!v_.gone)) (i := 31) rfl (by kernel_rfl) rfl rfl rfl rfl rfl (fun w hw => hw.back (Gh.refl _) h03 (.cons _ (.cons_cons _ (.cons_cons _ .slnil)))) (fun hg33 => (q_fl 4 fld_58_3 rfl rfl rfl)) ?_
  refine hh0 (c0 := (((z6 && z11) && (decide (z22 < v_.dot.n))) && (decide (((v_.val.size : Nat) : Int) ≤ 256)))) (g := (!v_.gone)) (i := 32) rfl (by kernel_rfl) rfl rfl rfl rfl rfl (fun w hw => hw.back (Gh.refl _) h03 (.cons _ (.cons_cons _ (.cons_cons _ .slnil)))) (fun hg34 => (q_ldl (i := 1) (v := .string v_.val) rfl rfl Try.isAgg9 (gu hg34 rfl) rfl)) ?_
  refine hh0 (c0 := (((z6 && z11) && (decide (z22 < v_.dot.n))) && (decide (((v_.val.size : Nat) : Int) ≤ 256)))) (g := (!v_.gone)) (i := 33) rfl (by kernel_rfl) rfl rfl rfl rfl rfl (fun w hw => hw.back (Gh.refl _) h03 (.cons _ (.cons_cons _ (.cons_cons _ .slnil)))) (fun hg35 => (q_seql rfl (gu hg35 rfl) rfl)) ?_
  refine hg1 (i := 34) rfl (by kernel_rfl) rfl rfl rfl rfl rfl (fun w hw => hw.back (Gh.refl _) h03 (.cons _ (.cons_cons _ (.cons_cons _ .slnil)))) (fun hg36 => (q_pick rfl (gu hg36 rfl) (pk_or (c := (((z6 && z11) && (decide (z22 < v_.dot.n))) && (decide (((v_.val.size : Nat) : Int) ≤ 256)))) (g := (!v_.gone)) (y := (v_.val == ByteArray.empty)) hg36))) ?_
  refine ht (i := 35) rfl (by kernel_rfl) rfl rfl rfl (fun w hw => hw.back (Gh.refl _) h03 (.cons _ (.cons_cons _ (.cons_cons _ .slnil)))) (q_pick rfl rfl (pk_and' (g := (((z6 && z11) && (decide (z22 < v_.dot.n))) && (decide (((v_.val.size : Nat) : Int) ≤ 256)))) (y := ((!v_.gone) || (v_.val == ByteArray.empty))))) ?_
  refine ht (i := 36) rfl (by kernel_rfl) rfl rfl rfl (fun w hw => hw.back (Gh.refl _) h03 (.cons _ (.cons_cons _ (.cons_cons _ .slnil)))) (q_assign (v := .bool ((((z6 && z11) && (decide (z22 < v_.dot.n))) && (decide (((v_.val.size : Nat) : Int) ≤ 256))) && ((!v_.gone) || (v_.val == ByteArray.empty)))) rfl (by kernel_rfl)) ?_
  refine WH.done (by kernel_rfl) ?_
  change WC _ _ _ _ _ _
  refine WC.ret ?_
  intro w hw
  obtain rfl := Option.some.inj h
  subst hF
  exact ⟨by kernel_rfl, hw.fr⟩
set_option maxRecDepth 100000 in
set_option maxHeartbeats 400000 in
theorem t_vers_before {Γ : Gh} {w0 : World} (a : Dot) (ha : Dot.fits Γ  a) (b : Dot) (hb : Dot.fits Γ  b) (hs : Sat Γ w0) {r : Bool} (h : m_vers_before a b = some r) : Calls Try.prog 76 #[.agg #[.int .i64 a.s, .int .i64 a.n], .agg #[.int .i64 b.s, .int .i64 b.n]] w0 (fun e w' => e = .returned (.bool r) ∧ Fr no w0 w') := by
  refine calls_of (N := 24) (rs := [4]) (args := [.agg #[.int .i64 a.s, .int .i64 a.n], .agg #[.int .i64 b.s, .int .i64 b.n]]) Try.func76 rfl Try.ntmps76 Try.results76 rfl ?_
  obtain ⟨F, hF⟩ : ∃ F : Fm, F = ⟨no, w0, Γ⟩ := ⟨_, rfl⟩
  refine WC.here (C := CC F Γ []) ?_ (hF ▸ Cur.start0 hs)
  refine WC.rs ?_
  refine e_box (v := .agg #[.int .i64 a.s, .int .i64 a.n]) rfl rfl rfl rfl (by kernel_rfl) ?_
  intro g1
  refine e_box (v := .agg #[.int .i64 b.s, .int .i64 b.n]) rfl rfl rfl rfl (by kernel_rfl) ?_
  intro g2
  refine va rfl rfl rfl (q_assign (v := .bool false) rfl (by kernel_rfl)) ?_
  refine WR.nil ?_
  change WC _ _ _ _ _ _
  refine WC.rs ?_
  refine va rfl rfl rfl (q_fl 0 fld_55_0 rfl rfl rfl) ?_
  refine va rfl rfl rfl (q_ldl (i := 1) (v := .int .i64 a.s) rfl rfl Try.isAgg3 rfl rfl) ?_
  refine va rfl rfl rfl (q_fl 0 fld_55_0 rfl rfl rfl) ?_
  refine va rfl rfl rfl (q_ldl (i := 0) (v := .int .i64 b.s) rfl rfl Try.isAgg3 rfl rfl) ?_
  refine va rfl rfl rfl (q_lss rfl rfl rfl) ?_
  refine va rfl rfl rfl (q_move (v := .bool (decide (a.s < b.s))) rfl (by kernel_rfl)) ?_
  refine vg0 rfl rfl rfl rfl rfl (fun hg3 => QV.qo (q_fl 0 fld_55_0 rfl rfl rfl)) ?_
  refine vg0 rfl rfl rfl rfl rfl (fun hg4 => QV.qo (q_ldl (i := 1) (v := .int .i64 a.s) rfl rfl Try.isAgg3 (gu hg4 rfl) rfl)) ?_
  refine vg0 rfl rfl rfl rfl rfl (fun hg5 => QV.qo (q_fl 0 fld_55_0 rfl rfl rfl)) ?_
  refine vg0 rfl rfl rfl rfl rfl (fun hg6 => QV.qo (q_ldl (i := 0) (v := .int .i64 b.s) rfl rfl Try.isAgg3 (gu hg6 rfl) rfl)) ?_
  refine vg0 rfl rfl rfl rfl rfl (fun hg7 => QV.qo (q_eql rfl (gu hg7 rfl) (gu hg7 rfl))) ?_
  refine vg0 rfl rfl rfl rfl rfl (fun hg8 => QV.qo (q_move (v := .bool (a.s == b.s)) rfl (gu hg8 rfl))) ?_
  refine vh1 (c0 := (!(decide (a.s < b.s)))) (g := (a.s == b.s)) rfl rfl rfl rfl rfl (fun hg9 => QV.qo (q_fl 1 fld_55_1 rfl rfl rfl)) ?_
  refine vh1 (c0 := (!(decide (a.s < b.s)))) (g := (a.s == b.s)) rfl rfl rfl rfl rfl (fun hg10 => QV.qo (q_ldl (i := 1) (v := .int .i64 a.n) rfl rfl Try.isAgg2 (gu hg10 rfl) rfl)) ?_
  refine vh1 (c0 := (!(decide (a.s < b.s)))) (g := (a.s == b.s)) rfl rfl rfl rfl rfl (fun hg11 => QV.qo (q_fl 1 fld_55_1 rfl rfl rfl)) ?_
  refine vh1 (c0 := (!(decide (a.s < b.s)))) (g := (a.s == b.s)) rfl rfl rfl rfl rfl (fun hg12 => QV.qo (q_ldl (i := 0) (v := .int .i64 b.n) rfl rfl Try.isAgg2 (gu hg12 rfl) rfl)) ?_
  refine vh1 (c0 := (!(decide (a.s < b.s)))) (g := (a.s == b.s)) rfl rfl rfl rfl rfl (fun hg13 => QV.qo (q_lss rfl (gu hg13 rfl) (gu hg13 rfl))) ?_
  refine vg0 rfl rfl rfl rfl rfl (fun hg14 => QV.qo (q_pick rfl (gu hg14 rfl) (pk_and (c := (!(decide (a.s < b.s)))) (g := (a.s == b.s)) (y := (decide (a.n < b.n))) hg14))) ?_
  refine va rfl rfl rfl (q_pick rfl rfl (pk_or' (g := (decide (a.s < b.s))) (y := ((a.s == b.s) && (decide (a.n < b.n)))))) ?_
  refine va rfl rfl rfl (q_assign (v := .bool ((decide (a.s < b.s)) || ((a.s == b.s) && (decide (a.n < b.n))))) rfl (by kernel_rfl)) ?_
  refine WR.nil ?_
  change WC _ _ _ _ _ _
  refine WC.ret ?_
  intro w hw
  obtain rfl := Option.some.inj h
  subst hF
  exact ⟨by kernel_rfl, hw.fr⟩
set_option maxRecDepth 100000 in
set_option maxHeartbeats 400000 in
theorem t_span_Has {Γ : Gh} {w0 : World} {Al : Option Addr} {cl : Nat} {l : List Span} (hl : Sl spanT Γ Al l) (hlc : l.length ≤ cl) (d : Dot) (hd : Dot.fits Γ  d) (hs : Sat Γ w0) {r : Bool} (h : m_span_Has l d = some r) : Calls Try.prog 89 #[.slice Al l.length cl, .agg #[.int .i64 d.s, .int .i64 d.n]] w0 (fun e w' => e = .returned (.bool r) ∧ Fr no w0 w') := by
  refine calls_of (N := 33) (rs := [4]) (args := [.slice Al l.length cl, .agg #[.int .i64 d.s, .int .i64 d.n]]) Try.func89 rfl Try.ntmps89 Try.results89 rfl ?_
  obtain ⟨F, hF⟩ : ∃ F : Fm, F = ⟨no, w0, Γ⟩ := ⟨_, rfl⟩
  refine WC.here (C := CC F Γ []) ?_ (hF ▸ Cur.start0 hs)
  refine WC.rs ?_
  refine e_box (v := .agg #[.int .i64 d.s, .int .i64 d.n]) rfl rfl rfl rfl (by kernel_rfl) ?_
  intro g1
  refine va rfl rfl rfl (q_assign (v := .bool false) rfl (by kernel_rfl)) ?_
  refine WR.nil ?_
  change WC _ _ _ _ _ _
  refine WC.seq ?_
  refine WC.rs ?_
  refine va rfl rfl rfl (q_move (v := .slice Al l.length cl) rfl (by kernel_rfl)) ?_
  refine va rfl rfl rfl (q_len_slice rfl Try.underlying56 rfl) ?_
  refine va rfl rfl rfl (q_move (v := .int .i64 0) rfl (by kernel_rfl)) ?_
  refine WR.nil ?_
  change WC _ _ _ _ _ _
  refine WC.block ?_
  refine WC.forI h (fun (i3 : Nat) (s : Unit) σ w => match s with | () => slots σ [(3, .pointer (some ⟨g1, 0, none⟩)), (7, .slice Al l.length cl), (8, .int .i64 ((l.length : Nat) : Int)), (9, .int .i64 ((i3 : Nat) : Int))] ∧ CC F Γ [[(g1, .cells #[.int .i64 d.s, .int .i64 d.n] 55 (0, 0))]] w ∧ True) ?_ ?_
  · skip
    intro w hw
    exact ⟨(sl_ (by kernel_rfl)), hw, trivial⟩
  rintro f2 i3 ⟨⟩ σ w hi4 hlt5 hge6 ⟨hsl, hw, -⟩
  refine Wpt.slots hsl ?_
  refine WC.here (C := CC F Γ [[(g1, .cells #[.int .i64 d.s, .int .i64 d.n] 55 (0, 0))]]) ?_ hw
  clear hw hsl
  refine WC.rs ?_
  refine va rfl rfl rfl (q_lss rfl rfl rfl) ?_
  refine WR.nil ?_
  change WC _ _ _ _ _ _
  refine WC.seq ?_
  refine WC.cond (b := (decide (((i3 : Nat) : Int) < ((l.length : Nat) : Int)))) (by kernel_rfl) (fun hb7 => ?_) (fun hb7 => ?_)
  · skip
    have hl8 := ilt hb7
    have h := hlt5 hl8
    refine WC.skip ?_
    change WC _ _ _ _ _ _
    refine WC.seq ?_
    refine WC.block ?_
    refine WC.rs ?_
    refine va rfl rfl rfl (q_ixn (i := i3) Try.underlying56 Try.sizeOf71 rfl rfl rfl hl8 (hl.some_ hl8)) ?_
    refine va rfl rfl rfl (q_lda (c := 0) (vs := [.int .i64 (gt l i3).s, .int .i64 (gt l i3).f, .int .i64 (gt l i3).t]) (hl.spanT_at hl8).2 rfl Try.isAgg71 Try.sizeOf71 rfl rfl rfl) ?_
    refine e_alloc Try.zeroValue71 rfl rfl rfl rfl ?_
    intro g9
    refine e_st (i := 0) (v := .agg #[.int .i64 (gt l i3).s, .int .i64 (gt l i3).f, .int .i64 (gt l i3).t]) (new := #[.int .i64 (gt l i3).s, .int .i64 (gt l i3).f, .int .i64 (gt l i3).t]) rfl Try.sizeOf71 rfl rfl rfl rfl (by kernel_rfl) rfl rfl rfl rfl ?_
    refine WR.nil ?_
    change WC _ _ _ _ _ _
    refine WC.rs ?_
    refine va rfl rfl rfl (q_fl 0 fld_71_0 rfl rfl rfl) ?_
    refine va rfl rfl rfl (q_ldl (i := 0) (v := .int .i64 (gt l i3).s) rfl rfl Try.isAgg3 rfl rfl) ?_
    refine va rfl rfl rfl (q_fl 0 fld_55_0 rfl rfl rfl) ?_
    refine va rfl rfl rfl (q_ldl (i := 1) (v := .int .i64 d.s) rfl rfl Try.isAgg3 rfl rfl) ?_
    refine va rfl rfl rfl (q_eql rfl rfl rfl) ?_
    refine va rfl rfl rfl (q_move (v := .bool ((gt l i3).s == d.s)) rfl (by kernel_rfl)) ?_
    refine vg1 rfl rfl rfl rfl rfl (fun hg10 => QV.qo (q_fl 1 fld_71_1 rfl rfl rfl)) ?_
    refine vg1 rfl rfl rfl rfl rfl (fun hg11 => QV.qo (q_ldl (i := 0) (v := .int .i64 (gt l i3).f) rfl rfl Try.isAgg2 (gu hg11 rfl) rfl)) ?_
    refine vg1 rfl rfl rfl rfl rfl (fun hg12 => QV.qo (q_fl 1 fld_55_1 rfl rfl rfl)) ?_
    refine vg1 rfl rfl rfl rfl rfl (fun hg13 => QV.qo (q_ldl (i := 1) (v := .int .i64 d.n) rfl rfl Try.isAgg2 (gu hg13 rfl) rfl)) ?_
    refine vg1 rfl rfl rfl rfl rfl (fun hg14 => QV.qo (q_leq rfl (gu hg14 rfl) (gu hg14 rfl))) ?_
    refine va rfl rfl rfl (q_pick rfl rfl (pk_and' (g := ((gt l i3).s == d.s)) (y := (decide ((gt l i3).f ≤ d.n))))) ?_
    refine va rfl rfl rfl (q_move (v := .bool (((gt l i3).s == d.s) && (decide ((gt l i3).f ≤ d.n)))) rfl (by kernel_rfl)) ?_
    refine vg1 rfl rfl rfl rfl rfl (fun hg15 => QV.qo (q_fl 1 fld_55_1 rfl rfl rfl)) ?_
    refine vg1 rfl rfl rfl rfl rfl (fun hg16 => QV.qo (q_ldl (i := 1) (v := .int .i64 d.n) rfl rfl Try.isAgg2 (gu hg16 rfl) rfl)) ?_
    refine vg1 rfl rfl rfl rfl rfl (fun hg17 => QV.qo (q_fl 2 fld_71_2 rfl rfl rfl)) ?_
    refine vg1 rfl rfl rfl rfl rfl (fun hg18 => QV.qo (q_ldl (i := 0) (v := .int .i64 (gt l i3).t) rfl rfl Try.isAgg2 (gu hg18 rfl) rfl)) ?_
    refine vg1 rfl rfl rfl rfl rfl (fun hg19 => QV.qo (q_leq rfl (gu hg19 rfl) (gu hg19 rfl))) ?_
    refine va rfl rfl rfl (q_pick rfl rfl (pk_and' (g := (((gt l i3).s == d.s) && (decide ((gt l i3).f ≤ d.n)))) (y := (decide (d.n ≤ (gt l i3).t))))) ?_
    refine WR.nil ?_
    change WC _ _ _ _ _ _
    refine WC.cif h (by kernel_rfl) (fun hb20 h => ?_) (fun hb20 h => ?_)
    · skip
      refine WC.rs ?_
      refine va rfl rfl rfl (q_assign (v := .bool true) rfl (by kernel_rfl)) ?_
      refine WR.nil ?_
      change WC _ _ _ _ _ _
      refine WC.ret ?_
      intro w hw
      obtain rfl := Option.some.inj h
      subst hF
      exact ⟨by kernel_rfl, hw.fr⟩
    · skip
      refine WC.skip ?_
      change WC _ _ _ _ _ _
      refine WC.region ?_
      refine va rfl rfl rfl (q_add_r (r := ((i3 + 1 : Nat) : Int)) rfl rfl rfl (ctr_len hl8 hl.le)) ?_
      refine va rfl rfl rfl (q_move (v := .int .i64 ((i3 + 1 : Nat) : Int)) rfl (by kernel_rfl)) ?_
      refine WR.nil ?_
      intro w hw
      exact ⟨hl8, (), h, (sl_ (by kernel_rfl)), (hw.only (is := [1]) rfl), trivial⟩
  · skip
    have h := hge6 (ige hb7)
    refine WC.exit ?_
    change WC _ _ _ _ _ _
    refine WC.rs ?_
    refine va rfl rfl rfl (q_assign (v := .bool false) rfl (by kernel_rfl)) ?_
    refine WR.nil ?_
    change WC _ _ _ _ _ _
    refine WC.ret ?_
    intro w hw
    obtain rfl := Option.some.inj h
    subst hF
    exact ⟨by kernel_rfl, hw.fr⟩
set_option maxRecDepth 100000 in
set_option maxHeartbeats 400000 in
theorem t_vers_behind {Γ : Gh} {w0 : World} (d : Dot) (hd : Dot.fits Γ  d) {Al : Option Addr} {cl : Nat} {l : List Ver} (hl : Sl verT Γ Al l) (hlc : l.length ≤ cl) (hs : Sat Γ w0) {r : Bool} (h : m_vers_behind d l = some r) : Calls Try.prog 74 #[.agg #[.int .i64 d.s, .int .i64 d.n], .slice Al l.length cl] w0 (fun e w' => e = .returned (.bool r) ∧ Fr no w0 w') := by
  refine calls_of (N := 18) (rs := [4]) (args := [.agg #[.int .i64 d.s, .int .i64 d.n], .slice Al l.length cl]) Try.func74 rfl Try.ntmps74 Try.results74 rfl ?_
  obtain ⟨F, hF⟩ : ∃ F : Fm, F = ⟨no, w0, Γ⟩ := ⟨_, rfl⟩
  refine WC.here (C := CC F Γ []) ?_ (hF ▸ Cur.start0 hs)
  refine WC.rs ?_
  refine e_box (v := .agg #[.int .i64 d.s, .int .i64 d.n]) rfl rfl rfl rfl (by kernel_rfl) ?_
  intro g1
  refine va rfl rfl rfl (q_assign (v := .bool false) rfl (by kernel_rfl)) ?_
  refine WR.nil ?_
  change WC _ _ _ _ _ _
  refine WC.seq ?_
  refine WC.rs ?_
  refine va rfl rfl rfl (q_move (v := .slice Al l.length cl) rfl (by kernel_rfl)) ?_
  refine va rfl rfl rfl (q_len_slice rfl Try.underlying40 rfl) ?_
  refine va rfl rfl rfl (q_move (v := .int .i64 0) rfl (by kernel_rfl)) ?_
  refine WR.nil ?_
  change WC _ _ _ _ _ _
  refine WC.block ?_
  refine WC.forI h (fun (i3 : Nat) (s : Unit) σ w => match s with | () => slots σ [(2, .pointer (some ⟨g1, 0, none⟩)), (7, .slice Al l.length cl), (8, .int .i64 ((l.length : Nat) : Int)), (9, .int .i64 ((i3 : Nat) : Int))] ∧ CC F Γ [[(g1, .cells #[.int .i64 d.s, .int .i64 d.n] 55 (0, 0))]] w ∧ True) ?_ ?_
  · skip
    intro w hw
    exact ⟨(sl_ (by kernel_rfl)), hw, trivial⟩
  rintro f2 i3 ⟨⟩ σ w hi4 hlt5 hge6 ⟨hsl, hw, -⟩
  refine Wpt.slots hsl ?_
  refine WC.here (C := CC F Γ [[(g1, .cells #[.int .i64 d.s, .int .i64 d.n] 55 (0, 0))]]) ?_ hw
  clear hw hsl
  refine WC.rs ?_
  refine va rfl rfl rfl (q_lss rfl rfl rfl) ?_
  refine WR.nil ?_
  change WC _ _ _ _ _ _
  refine WC.seq ?_
  refine WC.cond (b := (decide (((i3 : Nat) : Int) < ((l.length : Nat) : Int)))) (by kernel_rfl) (fun hb7 => ?_) (fun hb7 => ?_)
  · skip
    have hl8 := ilt hb7
    have h := hlt5 hl8
    refine WC.skip ?_
    change WC _ _ _ _ _ _
    refine WC.seq ?_
    refine WC.block ?_
    refine WC.rs ?_
    refine va rfl rfl rfl (q_ixn (i := i3) Try.underlying40 Try.sizeOf58 rfl rfl rfl hl8 (hl.some_ hl8)) ?_
    obtain ⟨A9, c10, hx11⟩ := hl.verT_at i3
    refine va rfl rfl rfl (q_lda (c := 0) (vs := [.int .i64 (gt l i3).dot.s, .int .i64 (gt l i3).dot.n, .slice A9 ((gt l i3).past).length c10, .bool (gt l i3).gone, .string (gt l i3).val]) (hx11 hl8).2 rfl Try.isAgg58 Try.sizeOf58 rfl rfl rfl) ?_
    refine e_alloc Try.zeroValue58 rfl rfl rfl rfl ?_
    intro g12
    refine e_st (i := 0) (v := .agg #[.int .i64 (gt l i3).dot.s, .int .i64 (gt l i3).dot.n, .slice A9 ((gt l i3).past).length c10, .bool (gt l i3).gone, .string (gt l i3).val]) (new := #[.int .i64 (gt l i3).dot.s, .int .i64 (gt l i3).dot.n, .slice A9 ((gt l i3).past).length c10, .bool (gt l i3).gone, .string (gt l i3).val]) rfl Try.sizeOf58 rfl rfl rfl rfl (by kernel_rfl) rfl rfl rfl rfl ?_
    refine WR.nil ?_
    change WC _ _ _ _ _ _
    refine WC.rs ?_
    refine va rfl rfl rfl (q_fl 2 fld_58_1 rfl rfl rfl) ?_
    refine va rfl rfl rfl (q_ldl (i := 0) (v := .slice A9 ((gt l i3).past).length c10) rfl rfl Try.isAgg56 rfl rfl) ?_
    refine va rfl rfl rfl (q_ldla (i := 1) (vs := [.int .i64 d.s, .int .i64 d.n]) rfl rfl Try.isAgg55 Try.sizeOf55 rfl rfl) ?_
    obtain ⟨z13, hz14, h⟩ := bnd h
    refine vc rfl rfl rfl (q_call (call_run Try.call89 rfl rfl (by kernel_rfl)) (fun w hw => t_span_Has (Γ := Gh.all w) ((hx11 hl8).1.2.2.1.2.mono hw.sat.le_all) (hx11 hl8).1.2.2.1.1 d hd (Sat.all w) hz14)) ?_
    refine WR.nil ?_
    change WC _ _ _ _ _ _
    refine WC.cif h (by kernel_rfl) (fun hb15 h => ?_) (fun hb15 h => ?_)
    · skip
      refine WC.rs ?_
      refine va rfl rfl rfl (q_assign (v := .bool true) rfl (by kernel_rfl)) ?_
      refine WR.nil ?_
      change WC _ _ _ _ _ _
      refine WC.ret ?_
      intro w hw
      obtain rfl := Option.some.inj h
      subst hF
      exact ⟨by kernel_rfl, hw.fr⟩
    · skip
      refine WC.skip ?_
      change WC _ _ _ _ _ _
      refine WC.region ?_
      refine va rfl rfl rfl (q_add_r (r := ((i3 + 1 : Nat) : Int)) rfl rfl rfl (ctr_len hl8 hl.le)) ?_
      refine va rfl rfl rfl (q_move (v := .int .i64 ((i3 + 1 : Nat) : Int)) rfl (by kernel_rfl)) ?_
      refine WR.nil ?_
      intro w hw
      exact ⟨hl8, (), h, (sl_ (by kernel_rfl)), (hw.only (is := [1]) rfl), trivial⟩
  · skip
    have h := hge6 (ige hb7)
    refine WC.exit ?_
    change WC _ _ _ _ _ _
    refine WC.rs ?_
    refine va rfl rfl rfl (q_assign (v := .bool false) rfl (by kernel_rfl)) ?_
    refine WR.nil ?_
    change WC _ _ _ _ _ _
    refine WC.ret ?_
    intro w hw
    obtain rfl := Option.some.inj h
    subst hF
    exact ⟨by kernel_rfl, hw.fr⟩
set_option maxRecDepth 100000 in
set_option maxHeartbeats 400000 in
theorem t_vers_Right {Γ : Gh} {w0 : World} {Al : Option Addr} {cl : Nat} {l : List Ver} (hl : Sl verT Γ Al l) (hlc : l.length ≤ cl) (hs : Sat Γ w0) {r : Bool} (h : m_vers_Right l = some r) : Calls Try.prog 72 #[.slice Al l.length cl] w0 (fun e w' => e = .returned (.bool r) ∧ Fr no w0 w') := by
  refine calls_of (N := 41) (rs := [2]) (args := [.slice Al l.length cl]) Try.func72 rfl Try.ntmps72 Try.results72 rfl ?_
  obtain ⟨F, hF⟩ : ∃ F : Fm, F = ⟨no, w0, Γ⟩ := ⟨_, rfl⟩
  refine WC.here (C := CC F Γ []) ?_ (hF ▸ Cur.start0 hs)
  refine WC.rs ?_
  refine va rfl rfl rfl (q_assign (v := .bool false) rfl (by kernel_rfl)) ?_
  refine WR.nil ?_
  change WC _ _ _ _ _ _
  refine WC.seq ?_
  refine WC.rs ?_
  refine va rfl rfl rfl (q_move (v := .slice Al l.length cl) rfl (by kernel_rfl)) ?_
  refine va rfl rfl rfl (q_len_slice rfl Try.underlying40 rfl) ?_
  refine va rfl rfl rfl (q_move (v := .int .i64 0) rfl (by kernel_rfl)) ?_
  refine WR.nil ?_
  change WC _ _ _ _ _ _
  refine WC.block ?_
  refine WC.forI h (fun (i2 : Nat) (s : Unit) σ w => match s with | () => slots σ [(0, .slice Al l.length cl), (5, .slice Al l.length cl), (6, .int .i64 ((l.length : Nat) : Int)), (7, .int .i64 ((i2 : Nat) : Int))] ∧ CC F Γ [] w ∧ True) ?_ ?_
  · skip
    intro w hw
    exact ⟨(sl_ (by kernel_rfl)), hw, trivial⟩
  rintro f1 i2 ⟨⟩ σ w hi3 hlt4 hge5 ⟨hsl, hw, -⟩
  refine Wpt.slots hsl ?_
  refine WC.here (C := CC F Γ []) ?_ hw
  clear hw hsl
  refine WC.rs ?_
  refine va rfl rfl rfl (q_lss rfl rfl rfl) ?_
  refine WR.nil ?_
  change WC _ _ _ _ _ _
  refine WC.seq ?_
  refine WC.cond (b := (decide (((i2 : Nat) : Int) < ((l.length : Nat) : Int)))) (by kernel_rfl) (fun hb6 => ?_) (fun hb6 => ?_)
  · skip
    have hl7 := ilt hb6
    have h := hlt4 hl7
    refine WC.skip ?_
    change WC _ _ _ _ _ _
    refine WC.seq ?_
    refine WC.block ?_
    refine WC.rs ?_
    refine va rfl rfl rfl (q_move (v := .int .i64 ((i2 : Nat) : Int)) rfl (by kernel_rfl)) ?_
    refine va rfl rfl rfl (q_ixn (i := i2) Try.underlying40 Try.sizeOf58 rfl rfl rfl hl7 (hl.some_ hl7)) ?_
    obtain ⟨A8, c9, hx10⟩ := hl.verT_at i2
    refine va rfl rfl rfl (q_lda (c := 0) (vs := [.int .i64 (gt l i2).dot.s, .int .i64 (gt l i2).dot.n, .slice A8 ((gt l i2).past).length c9, .bool (gt l i2).gone, .string (gt l i2).val]) (hx10 hl7).2 rfl Try.isAgg58 Try.sizeOf58 rfl rfl rfl) ?_
    refine e_alloc Try.zeroValue58 rfl rfl rfl rfl ?_
    intro g11
    refine va rfl rfl rfl (q_assign (v := .int .i64 ((i2 : Nat) : Int)) rfl (by kernel_rfl)) ?_
    refine e_st (i := 0) (v := .agg #[.int .i64 (gt l i2).dot.s, .int .i64 (gt l i2).dot.n, .slice A8 ((gt l i2).past).length c9, .bool (gt l i2).gone, .string (gt l i2).val]) (new := #[.int .i64 (gt l i2).dot.s, .int .i64 (gt l i2).dot.n, .slice A8 ((gt l i2).past).length c9, .bool (gt l i2).gone, .string (gt l i2).val]) rfl Try.sizeOf58 rfl rfl rfl rfl (by kernel_rfl) rfl rfl rfl rfl ?_
    refine WR.nil ?_
    change WC _ _ _ _ _ _
    refine WC.seq ?_
    refine WC.dr (by kernel_rfl) (by kernel_rfl) (fun w hw => hw.drawn _) ?_
    refine wa rfl rfl rfl (q_ldla (i := 0) (vs := [.int .i64 (gt l i2).dot.s, .int .i64 (gt l i2).dot.n, .slice A8 ((gt l i2).past).length c9, .bool (gt l i2).gone, .string (gt l i2).val]) rfl rfl Try.isAgg58 Try.sizeOf58 rfl rfl) ?_
    obtain ⟨z12, hz13, h⟩ := bnd h
    refine wc rfl rfl rfl (q_call (call_run Try.call88 rfl rfl (by kernel_rfl)) (fun w hw => t_vers_RightOne (Γ := Gh.all w) (gt l i2) (Ver.fits_mono (hx10 hl7).1 hw.sat.le_all) (Sat.all w) hz13)) ?_
    refine wa rfl rfl rfl (q_not rfl rfl) ?_
    refine wa rfl rfl rfl (q_move (v := .bool (!z12)) rfl (by kernel_rfl)) ?_
    refine wg0 rfl rfl rfl rfl rfl (fun hg14 => QV.qo (q_move (v := .int .i64 ((i2 : Nat) : Int)) rfl (by kernel_rfl))) ?_
    refine wg0 rfl rfl rfl rfl rfl (fun hg15 => QV.qo (q_gtr rfl (gu hg15 rfl) rfl)) ?_
    refine wg0 rfl rfl rfl rfl rfl (fun hg16 => QV.qo (q_move (v := .bool (decide (0 < ((i2 : Nat) : Int)))) rfl (gu hg16 rfl))) ?_
    refine wh1 (c0 := (!(!z12))) (g := (decide (0 < ((i2 : Nat) : Int)))) rfl rfl rfl rfl rfl (fun hg17 => QV.qo (q_move (v := .slice Al l.length cl) rfl (by kernel_rfl))) ?_
    refine wh1 (c0 := (!(!z12))) (g := (decide (0 < ((i2 : Nat) : Int)))) rfl rfl rfl rfl rfl (fun hg18 => QV.qo (q_move (v := .int .i64 ((i2 : Nat) : Int)) rfl (by kernel_rfl))) ?_
    refine wh1 (c0 := (!(!z12))) (g := (decide (0 < ((i2 : Nat) : Int)))) rfl rfl rfl rfl rfl (fun hg19 => QV.qo (q_sub rfl (gu hg19 rfl) rfl)) ?_
    obtain ⟨hk21, h⟩ := chk_some h
    refine wh1 (c0 := (!(!z12))) (g := (decide (0 < ((i2 : Nat) : Int)))) rfl rfl rfl rfl rfl (fun hg20 => QV.qo (q_ix Try.underlying40 Try.sizeOf58 rfl (gu hg20 rfl) (gu hg20 rfl) (imp_of hk21 hg20) (hl.some_ (inb_lt (imp_of hk21 hg20))))) ?_
    refine wh1 (c0 := (!(!z12))) (g := (decide (0 < ((i2 : Nat) : Int)))) rfl rfl rfl rfl rfl (fun hg22 => QV.qo (q_field_addr (((w64 (((i2 : Nat) : Int) - 1)).toNat) * 5) fld_58_0 rfl (gu hg22 rfl) (hl.some_ (inb_lt (imp_of hk21 hg22))) rfl)) ?_
    obtain ⟨A24, c25, hx26⟩ := hl.verT_at ((w64 (((i2 : Nat) : Int) - 1)).toNat)
    refine wh1 (c0 := (!(!z12))) (g := (decide (0 < ((i2 : Nat) : Int)))) rfl rfl rfl rfl rfl (fun hg23 => QV.qo (q_lda (c := 0) (vs := [.int .i64 (gt l ((w64 (((i2 : Nat) : Int) - 1)).toNat)).dot.s, .int .i64 (gt l ((w64 (((i2 : Nat) : Int) - 1)).toNat)).dot.n]) (hx26 (inb_lt (imp_of hk21 hg23))).2 rfl Try.isAgg55 Try.sizeOf55 (gu hg23 rfl) rfl rfl)) ?_
    refine wh1 (c0 := (!(!z12))) (g := (decide (0 < ((i2 : Nat) : Int)))) rfl rfl rfl rfl rfl (fun hg27 => QV.qo (q_fl 0 fld_58_0 rfl rfl rfl)) ?_
    refine wh1 (c0 := (!(!z12))) (g := (decide (0 < ((i2 : Nat) : Int)))) rfl rfl rfl rfl rfl (fun hg28 => QV.qo (q_ldla (i := 0) (vs := [.int .i64 (gt l i2).dot.s, .int .i64 (gt l i2).dot.n]) rfl rfl Try.isAgg55 Try.sizeOf55 (gu hg28 rfl) rfl)) ?_
    obtain ⟨z30, hz31, h⟩ := bnd h
    refine wh1 (c0 := (!(!z12))) (g := (decide (0 < ((i2 : Nat) : Int)))) rfl rfl rfl rfl rfl (fun hg29 => (q_call (call_run Try.call76 rfl rfl (args2 (gu hg29 rfl) (gu hg29 rfl))) (fun w hw => t_vers_before (Γ := Gh.all w) ((gt l ((w64 (((i2 : Nat) : Int) - 1)).toNat)).dot) ⟨(hx26 (inb_lt (imp_of hk21 hg29))).1.1, (hx26 (inb_lt (imp_of hk21 hg29))).1.2.1⟩ ((gt l i2).dot) ⟨(hx10 hl7).1.1, (hx10 hl7).1.2.1⟩ (Sat.all w) (gc_of hz31 hg29)))) ?_
    refine wh1 (c0 := (!(!z12))) (g := (decide (0 < ((i2 : Nat) : Int)))) rfl rfl rfl rfl rfl (fun hg32 => QV.qo (q_not rfl (gu hg32 rfl))) ?_
    refine wg0 rfl rfl rfl rfl rfl (fun hg33 => QV.qo (q_pick rfl (gu hg33 rfl) (pk_and (c := (!(!z12))) (g := (decide (0 < ((i2 : Nat) : Int)))) (y := (!z30)) hg33))) ?_
    refine wa rfl rfl rfl (q_pick rfl rfl (pk_or' (g := (!z12)) (y := ((decide (0 < ((i2 : Nat) : Int))) && (!z30))))) ?_
    refine wa rfl rfl rfl (q_move (v := .bool ((!z12) || ((decide (0 < ((i2 : Nat) : Int))) && (!z30)))) rfl (by kernel_rfl)) ?_
    refine wg0 rfl rfl rfl rfl rfl (fun hg34 => QV.qo (q_fl 0 fld_58_0 rfl rfl rfl)) ?_
    refine wg0 rfl rfl rfl rfl rfl (fun hg35 => QV.qo (q_ldla (i := 0) (vs := [.int .i64 (gt l i2).dot.s, .int .i64 (gt l i2).dot.n]) rfl rfl Try.isAgg55 Try.sizeOf55 (gu hg35 rfl) rfl)) ?_
    refine wg0 rfl rfl rfl rfl rfl (fun hg36 => QV.qo (q_move (v := .slice Al l.length cl) rfl (by kernel_rfl))) ?_
    obtain ⟨z38, hz39, h⟩ := bnd h
    refine wg0 rfl rfl rfl rfl rfl (fun hg37 => (q_call (call_run Try.call74 rfl rfl (args2 (gu hg37 rfl) (gu hg37 rfl))) (fun w hw => t_vers_behind (Γ := Gh.all w) ((gt l i2).dot) ⟨(hx10 hl7).1.1, (hx10 hl7).1.2.1⟩ (hl.mono hw.sat.le_all) hlc (Sat.all w) (gc_of hz39 hg37)))) ?_
    refine wa rfl rfl rfl (q_pick rfl rfl (pk_or' (g := ((!z12) || ((decide (0 < ((i2 : Nat) : Int))) && (!z30)))) (y := z38))) ?_
    refine WQ.nil ?_
    change WC _ _ _ _ _ _
    refine WC.cif h (by kernel_rfl) (fun hb40 h => ?_) (fun hb40 h => ?_)
    · skip
      refine WC.rs ?_
      refine va rfl rfl rfl (q_assign (v := .bool false) rfl (by kernel_rfl)) ?_
      refine WR.nil ?_
      change WC _ _ _ _ _ _
      refine WC.ret ?_
      intro w hw
      obtain rfl := Option.some.inj h
      subst hF
      exact ⟨by kernel_rfl, hw.fr⟩
    · skip
      refine WC.skip ?_
      change WC _ _ _ _ _ _
      refine WC.region ?_
      refine va rfl rfl rfl (q_add_r (r := ((i2 + 1 : Nat) : Int)) rfl rfl rfl (ctr_len hl7 hl.le)) ?_
      refine va rfl rfl rfl (q_move (v := .int .i64 ((i2 + 1 : Nat) : Int)) rfl (by kernel_rfl)) ?_
      refine WR.nil ?_
      intro w hw
      exact ⟨hl7, (), h, (sl_ (by kernel_rfl)), (hw.only (is := []) rfl), trivial⟩
  · skip
    have h := hge5 (ige hb6)
    refine WC.exit ?_
    change WC _ _ _ _ _ _
    refine WC.rs ?_
    refine va rfl rfl rfl (q_move (v := .slice Al l.length cl) rfl (by kernel_rfl)) ?_
    refine va rfl rfl rfl (q_len_slice rfl Try.underlying40 rfl) ?_
    refine va rfl rfl rfl (q_leq rfl rfl rfl) ?_
    refine va rfl rfl rfl (q_assign (v := .bool (decide (((l.length : Nat) : Int) ≤ 512))) rfl (by kernel_rfl)) ?_
    refine WR.nil ?_
    change WC _ _ _ _ _ _
    refine WC.ret ?_
    intro w hw
    obtain rfl := Option.some.inj h
    subst hF
    exact ⟨by kernel_rfl, hw.fr⟩
abbrev r_vers_clone_api_Span (r : List Span) (U : List Rowb) (Γ : Gh) (v : Value) : Prop := ∃ (A0 : Option Addr), ∃ (c0 : Nat), ∃ (row0 : Rowb), v = .slice A0 r.length c0 ∧ U = [row0] ∧ Own spanT Γ 71 row0 A0 c0 r ∧ True
set_option maxRecDepth 100000 in
set_option maxHeartbeats 400000 in
theorem t_vers_clone_api_Span {Γ : Gh} {w0 : World} {Al : Option Addr} {cl : Nat} {l : List Span} (hl : Sl spanT Γ Al l) (hlc : l.length ≤ cl) (hp : Pre [] Γ w0) {r : List Span} (h : m_vers_clone_api_Span l = some r) : Calls Try.prog 75 #[.slice Al l.length cl] w0 (Outc Γ [] w0 (r_vers_clone_api_Span r)) := by
  refine calls_of (N := 5) (rs := [2]) (args := [.slice Al l.length cl]) Try.func75 rfl Try.ntmps75 Try.results75 rfl ?_
  obtain ⟨F, hF⟩ : ∃ F : Fm, F = ⟨ids [], w0, Γ⟩ := ⟨_, rfl⟩
  refine WC.here (C := CC F Γ []) ?_ (hF ▸ hp.start)
  refine WC.rs ?_
  refine va rfl rfl rfl (q_assign (v := .slice none 0 0) rfl (by kernel_rfl)) ?_
  refine WR.nil ?_
  change WC _ _ _ _ _ _
  refine WC.rs ?_
  refine va rfl rfl rfl (q_move (v := .slice Al l.length cl) rfl (by kernel_rfl)) ?_
  refine WR.sub (fun w hw => hw.pad) ?_
  obtain ⟨hk1, h⟩ := chk_some h
  refine e_append (T := spanT) (xs := []) (ys := l) elem_56 (i := 0) rfl rfl rfl rfl (by kernel_rfl) rfl rfl (Own.nil spanT Γ 71) (of_decide_eq_true hk1) (fun w hw => src_sl hl hw) ?_
  intro row2 A3 c4 ho5
  refine va rfl rfl rfl (q_assign (v := .slice A3 l.length c4) rfl (by kernel_rfl)) ?_
  refine WR.nil ?_
  change WC _ _ _ _ _ _
  refine WC.ret ?_
  intro w hw
  obtain rfl := Option.some.inj h
  subst hF
  exact end_e (is := [0]) (by kernel_rfl) hw rfl ⟨A3, c4, row2, rfl, rfl, ho5, trivial⟩
abbrev r_vers_Merge_1 (gb0 : Nat) (Ab0v : Option Addr) (cb0v : Nat) (b0v : List Ver) (gb1 : Nat) (Ab1v : Option Addr) (cb1v : Nat) (b1v : List Ver) (gb2 : Nat) (Ab2v : Option Addr) (cb2v : Nat) (b2v : List Ver) (rowb2v : Rowb) (r : List Ver) (U : List Rowb) (Γ : Gh) (v : Value) : Prop := ∃ (Ab2_0 : Option Addr), ∃ (cb2_0 : Nat), ∃ (rowb2_0 : Rowb), v = .tuple #[] ∧ U = [[(gb0, .cells #[.slice Ab0v b0v.length cb0v] 40 (0, 0))], [(gb1, .cells #[.slice Ab1v b1v.length cb1v] 40 (0, 0))], [(gb2, .cells #[.slice Ab2_0 r.length cb2_0] 40 (0, 0))], rowb2_0] ∧ Own verT Γ 58 rowb2_0 Ab2_0 cb2_0 r ∧ True
set_option maxRecDepth 100000 in
set_option maxHeartbeats 400000 in
theorem t_vers_Merge_1 {Γ : Gh} {w0 : World} {Av_2 : Option Addr} {cv_2 : Nat} (v_ : Ver) (hv_ : Ver.fits Γ Av_2 cv_2 v_) {gb0 : Nat} {Ab0v : Option Addr} {cb0v : Nat} {b0v : List Ver} (hb0v : Sl verT Γ Ab0v b0v) (hb0vc : b0v.length ≤ cb0v) {gb1 : Nat} {Ab1v : Option Addr} {cb1v : Nat} {b1v : List Ver} (hb1v : Sl verT Γ Ab1v b1v) (hb1vc : b1v.length ≤ cb1v) {gb2 : Nat} {Ab2v : Option Addr} {cb2v : Nat} {rowb2v : Rowb} {b2v : List Ver} (hb2v : Own verT Γ 58 rowb2v Ab2v cb2v b2v) (hp : Pre [[(gb0, .cells #[.slice Ab0v b0v.length cb0v] 40 (0, 0))], [(gb1, .cells #[.slice Ab1v b1v.length cb1v] 40 (0, 0))], [(gb2, .cells #[.slice Ab2v b2v.length cb2v] 40 (0, 0))], rowb2v] Γ w0) {r : List Ver} (h : m_vers_Merge_1 v_ b0v b1v b2v = some r) : Calls Try.prog 73 #[.agg #[.int .i64 v_.dot.s, .int .i64 v_.dot.n, .slice Av_2 v_.past.length cv_2, .bool v_.gone, .string v_.val], .pointer (some ⟨gb0, 0, none⟩), .pointer (some ⟨gb1, 0, none⟩), .pointer (some ⟨gb2, 0, none⟩)] w0 (Outc Γ [[(gb0, .cells #[.slice Ab0v b0v.length cb0v] 40 (0, 0))], [(gb1, .cells #[.slice Ab1v b1v.length cb1v] 40 (0, 0))], [(gb2, .cells #[.slice Ab2v b2v.length cb2v] 40 (0, 0))], rowb2v] w0 (r_vers_Merge_1 gb0 Ab0v cb0v b0v gb1 Ab1v cb1v b1v gb2 Ab2v cb2v b2v rowb2v r)) := by
  refine calls_of (N := 25) (rs := []) (args := [.agg #[.int .i64 v_.dot.s, .int .i64 v_.dot.n, .slice Av_2 v_.past.length cv_2, .bool v_.gone, .string v_.val], .pointer (some ⟨gb0, 0, none⟩), .pointer (some ⟨gb1, 0, none⟩), .pointer (some ⟨gb2, 0, none⟩)]) Try.func73 rfl Try.ntmps73 Try.results73 rfl ?_
  obtain ⟨F, hF⟩ : ∃ F : Fm, F = ⟨ids [[(gb0, .cells #[.slice Ab0v b0v.length cb0v] 40 (0, 0))], [(gb1, .cells #[.slice Ab1v b1v.length cb1v] 40 (0, 0))], [(gb2, .cells #[.slice Ab2v b2v.length cb2v] 40 (0, 0))], rowb2v], w0, Γ⟩ := ⟨_, rfl⟩
  refine WC.here (C := CC F Γ [[(gb0, .cells #[.slice Ab0v b0v.length cb0v] 40 (0, 0))], [(gb1, .cells #[.slice Ab1v b1v.length cb1v] 40 (0, 0))], [(gb2, .cells #[.slice Ab2v b2v.length cb2v] 40 (0, 0))], rowb2v]) ?_ (hF ▸ hp.start)
  refine WC.rs ?_
  refine e_box (v := .agg #[.int .i64 v_.dot.s, .int .i64 v_.dot.n, .slice Av_2 v_.past.length cv_2, .bool v_.gone, .string v_.val]) rfl rfl rfl rfl (by kernel_rfl) ?_
  intro g1
  refine WR.nil ?_
  change WC _ _ _ _ _ _
  refine WC.rs ?_
  refine va rfl rfl rfl (q_fl 0 fld_58_0 rfl rfl rfl) ?_
  refine va rfl rfl rfl (q_ldla (i := 0) (vs := [.int .i64 v_.dot.s, .int .i64 v_.dot.n]) rfl rfl Try.isAgg55 Try.sizeOf55 rfl rfl) ?_
  refine va rfl rfl rfl (q_ldl (i := 1) (v := .slice Ab0v b0v.length cb0v) rfl rfl Try.isAgg40 rfl rfl) ?_
  obtain ⟨z2, hz3, h⟩ := bnd h
  refine vc rfl rfl rfl (q_call (call_run Try.call74 rfl rfl (by kernel_rfl)) (fun w hw => t_vers_behind (Γ := Gh.all w) v_.dot ⟨hv_.1, hv_.2.1⟩ (hb0v.mono hw.sat.le_all) hb0vc (Sat.all w) hz3)) ?_
  refine va rfl rfl rfl (q_not rfl rfl) ?_
  refine va rfl rfl rfl (q_move (v := .bool (!z2)) rfl (by kernel_rfl)) ?_
  refine vg1 rfl rfl rfl rfl rfl (fun hg4 => QV.qo (q_fl 0 fld_58_0 rfl rfl rfl)) ?_
  refine vg1 rfl rfl rfl rfl rfl (fun hg5 => QV.qo (q_ldla (i := 0) (vs := [.int .i64 v_.dot.s, .int .i64 v_.dot.n]) rfl rfl Try.isAgg55 Try.sizeOf55 (gu hg5 rfl) rfl)) ?_
  refine vg1 rfl rfl rfl rfl rfl (fun hg6 => QV.qo (q_ldl (i := 2) (v := .slice Ab1v b1v.length cb1v) rfl rfl Try.isAgg40 rfl rfl)) ?_
  obtain ⟨z8, hz9, h⟩ := bnd h
  refine vg1 rfl rfl rfl rfl rfl (fun hg7 => (q_call (call_run Try.call74 rfl rfl (args2 (gu hg7 rfl) (gu hg7 rfl))) (fun w hw => t_vers_behind (Γ := Gh.all w) v_.dot ⟨hv_.1, hv_.2.1⟩ (hb1v.mono hw.sat.le_all) hb1vc (Sat.all w) (gc_of hz9 hg7)))) ?_
  refine vg1 rfl rfl rfl rfl rfl (fun hg10 => QV.qo (q_not rfl (gu hg10 rfl))) ?_
  refine va rfl rfl rfl (q_pick rfl rfl (pk_and' (g := (!z2)) (y := (!z8)))) ?_
  refine WR.nil ?_
  change WC _ _ _ _ _ _
  refine WC.cif h (by kernel_rfl) (fun hb11 h => ?_) (fun hb11 h => ?_)
  · skip
    refine WC.rs ?_
    refine va rfl rfl rfl (q_fl 2 fld_58_1 rfl rfl rfl) ?_
    refine va rfl rfl rfl (q_ldl (i := 0) (v := .slice Av_2 v_.past.length cv_2) rfl rfl Try.isAgg56 rfl rfl) ?_
    obtain ⟨z12, hz13, h⟩ := bnd h
    refine e_call (is := []) rfl rfl (call_run Try.call75 rfl rfl (by kernel_rfl)) rfl (fun w hp => t_vers_clone_api_Span hv_.2.2.1.2 hv_.2.2.1.1 hp hz13) ?_
    rintro Γ14 U16 v17 hl15 ⟨A18, c19, row20, rfl, rfl, hr21, _⟩
    change WR _ _ _ (CC F Γ14 [row20, [(g1, .cells #[.int .i64 v_.dot.s, .int .i64 v_.dot.n, .slice Av_2 v_.past.length cv_2, .bool v_.gone, .string v_.val] 58 (0, 0))], [(gb0, .cells #[.slice Ab0v b0v.length cb0v] 40 (0, 0))], [(gb1, .cells #[.slice Ab1v b1v.length cb1v] 40 (0, 0))], [(gb2, .cells #[.slice Ab2v b2v.length cb2v] 40 (0, 0))], rowb2v]) _ _ (upd _ 19 (.slice A18 z12.length c19))
    refine va rfl rfl rfl (q_fl 2 fld_58_1 rfl rfl rfl) ?_
    refine e_st (i := 1) (v := .slice A18 z12.length c19) (new := #[.int .i64 v_.dot.s, .int .i64 v_.dot.n, .slice A18 z12.length c19, .bool v_.gone, .string v_.val]) rfl Try.sizeOf56 rfl rfl rfl rfl (by kernel_rfl) rfl rfl rfl rfl ?_
    refine WR.nil ?_
    change WC _ _ _ _ _ _
    refine WC.region ?_
    refine va rfl rfl rfl (q_ldl (i := 4) (v := .slice Ab2v b2v.length cb2v) rfl rfl Try.isAgg40 rfl rfl) ?_
    refine va rfl rfl rfl (q_ldla (i := 1) (vs := [.int .i64 v_.dot.s, .int .i64 v_.dot.n, .slice A18 z12.length c19, .bool v_.gone, .string v_.val]) rfl rfl Try.isAgg58 Try.sizeOf58 rfl rfl) ?_
    have hc26 := hr21.capz
    intro w hw; obtain ⟨Γ22, hw, hl23, hr24⟩ := hw.seal (i := 0) rfl; have hs25 := hr21.sl hl23 hr24
    refine WR.here (C := CC F Γ22 [[], [(g1, .cells #[.int .i64 v_.dot.s, .int .i64 v_.dot.n, .slice A18 z12.length c19, .bool v_.gone, .string v_.val] 58 (0, 0))], [(gb0, .cells #[.slice Ab0v b0v.length cb0v] 40 (0, 0))], [(gb1, .cells #[.slice Ab1v b1v.length cb1v] 40 (0, 0))], [(gb2, .cells #[.slice Ab2v b2v.length cb2v] 40 (0, 0))], rowb2v]) ?_ hw
    clear hw
    refine e_buildSlice (cs := #[.int .i64 v_.dot.s, .int .i64 v_.dot.n, .slice A18 z12.length c19, .bool v_.gone, .string v_.val]) (e := 58) rfl rfl rfl rfl (fun w => by kernel_rfl) ?_
    intro g27
    obtain ⟨hk28, h⟩ := chk_some h
    refine e_append (T := verT) (xs := b2v) (ys := [(⟨(⟨v_.dot.s, v_.dot.n⟩ : Dot), z12, v_.gone, v_.val⟩ : Ver)]) elem_40 (i := 6) rfl rfl rfl rfl rfl rfl rfl (hb2v.mono (hl15.trans hl23)) (of_decide_eq_true hk28) (fun w hw => src_one (T := verT) (y := (⟨(⟨v_.dot.s, v_.dot.n⟩ : Dot), z12, v_.gone, v_.val⟩ : Ver)) (i := 0) rfl (by exact ⟨A18, c19, rfl, ⟨hv_.1, hv_.2.1, ⟨hc26, hs25⟩, hv_.2.2.2⟩⟩) hw) ?_
    intro row29 A30 c31 ho32
    refine e_st (i := 5) (v := .slice A30 (b2v ++ [(⟨(⟨v_.dot.s, v_.dot.n⟩ : Dot), z12, v_.gone, v_.val⟩ : Ver)]).length c31) (new := #[.slice A30 (b2v ++ [(⟨(⟨v_.dot.s, v_.dot.n⟩ : Dot), z12, v_.gone, v_.val⟩ : Ver)]).length c31]) rfl Try.sizeOf40 rfl rfl rfl rfl (by kernel_rfl) rfl rfl rfl rfl ?_
    refine WR.nil ?_
    intro w hw
    obtain rfl := Option.some.inj h
    subst hF
    exact end_e (is := [3, 3, 3, 3]) (by kernel_rfl) hw rfl ⟨A30, c31, row29, rfl, rfl, ho32, trivial⟩
  · skip
    refine WC.skip ?_
    intro w hw
    obtain rfl := Option.some.inj h
    subst hF
    exact end_e (is := [1, 1, 1, 1]) (by kernel_rfl) hw rfl ⟨Ab2v, cb2v, rowb2v, rfl, rfl, hb2v, trivial⟩
set_option maxRecDepth 100000 in
set_option maxHeartbeats 400000 in
theorem t_vers_same {Γ : Gh} {w0 : World} {Aa2 : Option Addr} {ca2 : Nat} (a : Ver) (ha : Ver.fits Γ Aa2 ca2 a) {Ab2 : Option Addr} {cb2 : Nat} (b : Ver) (hb : Ver.fits Γ Ab2 cb2 b) (hs : Sat Γ w0) {r : Bool} (h : m_vers_same a b = some r) : Calls Try.prog 77 #[.agg #[.int .i64 a.dot.s, .int .i64 a.dot.n, .slice Aa2 a.past.length ca2, .bool a.gone, .string a.val], .agg #[.int .i64 b.dot.s, .int .i64 b.dot.n, .slice Ab2 b.past.length cb2, .bool b.gone, .string b.val]] w0 (fun e w' => e = .returned (.bool r) ∧ Fr no w0 w') := by
  refine calls_of (N := 52) (rs := [4]) (args := [.agg #[.int .i64 a.dot.s, .int .i64 a.dot.n, .slice Aa2 a.past.length ca2, .bool a.gone, .string a.val], .agg #[.int .i64 b.dot.s, .int .i64 b.dot.n, .slice Ab2 b.past.length cb2, .bool b.gone, .string b.val]]) Try.func77 rfl Try.ntmps77 Try.results77 rfl ?_
  obtain ⟨F, hF⟩ : ∃ F : Fm, F = ⟨no, w0, Γ⟩ := ⟨_, rfl⟩
  refine WC.here (C := CC F Γ []) ?_ (hF ▸ Cur.start0 hs)
  refine WC.rs ?_
  refine e_box (v := .agg #[.int .i64 a.dot.s, .int .i64 a.dot.n, .slice Aa2 a.past.length ca2, .bool a.gone, .string a.val]) rfl rfl rfl rfl (by kernel_rfl) ?_
  intro g1
  refine e_box (v := .agg #[.int .i64 b.dot.s, .int .i64 b.dot.n, .slice Ab2 b.past.length cb2, .bool b.gone, .string b.val]) rfl rfl rfl rfl (by kernel_rfl) ?_
  intro g2
  refine va rfl rfl rfl (q_assign (v := .bool false) rfl (by kernel_rfl)) ?_
  refine WR.nil ?_
  change WC _ _ _ _ _ _
  refine WC.seq ?_
  refine WC.rs ?_
  refine va rfl rfl rfl (q_fl 0 fld_58_0 rfl rfl rfl) ?_
  refine va rfl rfl rfl (q_ldla (i := 1) (vs := [.int .i64 a.dot.s, .int .i64 a.dot.n]) rfl rfl Try.isAgg55 Try.sizeOf55 rfl rfl) ?_
  refine va rfl rfl rfl (q_fl 0 fld_58_0 rfl rfl rfl) ?_
  refine va rfl rfl rfl (q_ldla (i := 0) (vs := [.int .i64 b.dot.s, .int .i64 b.dot.n]) rfl rfl Try.isAgg55 Try.sizeOf55 rfl rfl) ?_
  refine va rfl rfl rfl (q_neq_Dot (a := a.dot) (b := b.dot) rfl rfl rfl) ?_
  refine va rfl rfl rfl (q_move (v := .bool (a.dot != b.dot)) rfl (by kernel_rfl)) ?_
  refine vg0 rfl rfl rfl rfl rfl (fun hg3 => QV.qo (q_fl 3 fld_58_2 rfl rfl rfl)) ?_
  refine vg0 rfl rfl rfl rfl rfl (fun hg4 => QV.qo (q_ldl (i := 1) (v := .bool a.gone) rfl rfl Try.isAgg4 (gu hg4 rfl) rfl)) ?_
  refine vg0 rfl rfl rfl rfl rfl (fun hg5 => QV.qo (q_fl 3 fld_58_2 rfl rfl rfl)) ?_
  refine vg0 rfl rfl rfl rfl rfl (fun hg6 => QV.qo (q_ldl (i := 0) (v := .bool b.gone) rfl rfl Try.isAgg4 (gu hg6 rfl) rfl)) ?_
  refine vg0 rfl rfl rfl rfl rfl (fun hg7 => QV.qo (q_bneq Try.underlying4 rfl (gu hg7 rfl) (gu hg7 rfl))) ?_
  refine va rfl rfl rfl (q_pick rfl rfl (pk_or' (g := (a.dot != b.dot)) (y := (a.gone != b.gone)))) ?_
  refine va rfl rfl rfl (q_move (v := .bool ((a.dot != b.dot) || (a.gone != b.gone))) rfl (by kernel_rfl)) ?_
  refine vg0 rfl rfl rfl rfl rfl (fun hg8 => QV.qo (q_fl 4 fld_58_3 rfl rfl rfl)) ?_
  refine vg0 rfl rfl rfl rfl rfl (fun hg9 => QV.qo (q_ldl (i := 1) (v := .string a.val) rfl rfl Try.isAgg9 (gu hg9 rfl) rfl)) ?_
  refine vg0 rfl rfl rfl rfl rfl (fun hg10 => QV.qo (q_fl 4 fld_58_3 rfl rfl rfl)) ?_
  refine vg0 rfl rfl rfl rfl rfl (fun hg11 => QV.qo (q_ldl (i := 0) (v := .string b.val) rfl rfl Try.isAgg9 (gu hg11 rfl) rfl)) ?_
  refine vg0 rfl rfl rfl rfl rfl (fun hg12 => QV.qo (q_sneq rfl (gu hg12 rfl) (gu hg12 rfl))) ?_
  refine va rfl rfl rfl (q_pick rfl rfl (pk_or' (g := ((a.dot != b.dot) || (a.gone != b.gone))) (y := (a.val != b.val)))) ?_
  refine va rfl rfl rfl (q_move (v := .bool (((a.dot != b.dot) || (a.gone != b.gone)) || (a.val != b.val))) rfl (by kernel_rfl)) ?_
  refine vg0 rfl rfl rfl rfl rfl (fun hg13 => QV.qo (q_fl 2 fld_58_1 rfl rfl rfl)) ?_
  refine vg0 rfl rfl rfl rfl rfl (fun hg14 => QV.qo (q_ldl (i := 1) (v := .slice Aa2 a.past.length ca2) rfl rfl Try.isAgg56 (gu hg14 rfl) rfl)) ?_
  refine vg0 rfl rfl rfl rfl rfl (fun hg15 => QV.qo (q_len_slice rfl Try.underlying56 (gu hg15 rfl))) ?_
  refine vg0 rfl rfl rfl rfl rfl (fun hg16 => QV.qo (q_fl 2 fld_58_1 rfl rfl rfl)) ?_
  refine vg0 rfl rfl rfl rfl rfl (fun hg17 => QV.qo (q_ldl (i := 0) (v := .slice Ab2 b.past.length cb2) rfl rfl Try.isAgg56 (gu hg17 rfl) rfl)) ?_
  refine vg0 rfl rfl rfl rfl rfl (fun hg18 => QV.qo (q_len_slice rfl Try.underlying56 (gu hg18 rfl))) ?_
  refine vg0 rfl rfl rfl rfl rfl (fun hg19 => QV.qo (q_neq rfl (gu hg19 rfl) (gu hg19 rfl))) ?_
  refine va rfl rfl rfl (q_pick rfl rfl (pk_or' (g := (((a.dot != b.dot) || (a.gone != b.gone)) || (a.val != b.val))) (y := (((a.past.length : Nat) : Int) != ((b.past.length : Nat) : Int))))) ?_
  refine WR.nil ?_
  change WC _ _ _ _ _ _
  refine WC.cif h (by kernel_rfl) (fun hb20 h => ?_) (fun hb20 h => ?_)
  · skip
    refine WC.rs ?_
    refine va rfl rfl rfl (q_assign (v := .bool false) rfl (by kernel_rfl)) ?_
    refine WR.nil ?_
    change WC _ _ _ _ _ _
    refine WC.ret ?_
    intro w hw
    obtain rfl := Option.some.inj h
    subst hF
    exact ⟨by kernel_rfl, hw.fr⟩
  · skip
    refine WC.skip ?_
    change WC _ _ _ _ _ _
    refine WC.seq ?_
    refine WC.rs ?_
    refine va rfl rfl rfl (q_fl 2 fld_58_1 rfl rfl rfl) ?_
    refine va rfl rfl rfl (q_ldl (i := 1) (v := .slice Aa2 a.past.length ca2) rfl rfl Try.isAgg56 rfl rfl) ?_
    refine va rfl rfl rfl (q_len_slice rfl Try.underlying56 rfl) ?_
    refine va rfl rfl rfl (q_move (v := .int .i64 0) rfl (by kernel_rfl)) ?_
    refine WR.nil ?_
    change WC _ _ _ _ _ _
    refine WC.block ?_
    refine WC.forI h (fun (i22 : Nat) (s : Unit) σ w => match s with | () => slots σ [(2, .pointer (some ⟨g1, 0, none⟩)), (3, .pointer (some ⟨g2, 0, none⟩)), (36, .int .i64 ((a.past.length : Nat) : Int)), (37, .int .i64 ((i22 : Nat) : Int))] ∧ CC F Γ [[(g2, .cells #[.int .i64 b.dot.s, .int .i64 b.dot.n, .slice Ab2 b.past.length cb2, .bool b.gone, .string b.val] 58 (0, 0))], [(g1, .cells #[.int .i64 a.dot.s, .int .i64 a.dot.n, .slice Aa2 a.past.length ca2, .bool a.gone, .string a.val] 58 (0, 0))]] w ∧ True) ?_ ?_
    · skip
      intro w hw
      exact ⟨(sl_ (by kernel_rfl)), hw, trivial⟩
    rintro f21 i22 ⟨⟩ σ w hi23 hlt24 hge25 ⟨hsl, hw, -⟩
    refine Wpt.slots hsl ?_
    refine WC.here (C := CC F Γ [[(g2, .cells #[.int .i64 b.dot.s, .int .i64 b.dot.n, .slice Ab2 b.past.length cb2, .bool b.gone, .string b.val] 58 (0, 0))], [(g1, .cells #[.int .i64 a.dot.s, .int .i64 a.dot.n, .slice Aa2 a.past.length ca2, .bool a.gone, .string a.val] 58 (0, 0))]]) ?_ hw
    clear hw hsl
    refine WC.rs ?_
    refine va rfl rfl rfl (q_lss rfl rfl rfl) ?_
    refine WR.nil ?_
    change WC _ _ _ _ _ _
    refine WC.seq ?_
    refine WC.cond (b := (decide (((i22 : Nat) : Int) < ((a.past.length : Nat) : Int)))) (by kernel_rfl) (fun hb26 => ?_) (fun hb26 => ?_)
    · skip
      have hl27 := ilt hb26
      have h := hlt24 hl27
      refine WC.skip ?_
      change WC _ _ _ _ _ _
      refine WC.seq ?_
      refine WC.block ?_
      refine WC.rs ?_
      refine va rfl rfl rfl (q_move (v := .int .i64 ((i22 : Nat) : Int)) rfl (by kernel_rfl)) ?_
      refine va rfl rfl rfl (q_assign (v := .int .i64 ((i22 : Nat) : Int)) rfl (by kernel_rfl)) ?_
      refine WR.nil ?_
      change WC _ _ _ _ _ _
      refine WC.seq ?_
      refine WC.dr (by kernel_rfl) (by kernel_rfl) (fun w hw => hw.drawn _) ?_
      refine wa rfl rfl rfl (q_fl 2 fld_58_1 rfl rfl rfl) ?_
      refine wa rfl rfl rfl (q_ldl (i := 1) (v := .slice Aa2 a.past.length ca2) rfl rfl Try.isAgg56 rfl rfl) ?_
      refine wa rfl rfl rfl (q_move (v := .int .i64 ((i22 : Nat) : Int)) rfl (by kernel_rfl)) ?_
      refine wa rfl rfl rfl (q_ixn (i := i22) Try.underlying56 Try.sizeOf71 rfl rfl rfl hl27 (ha.2.2.1.2.some_ hl27)) ?_
      refine wa rfl rfl rfl (q_lda (c := 0) (vs := [.int .i64 (gt a.past i22).s, .int .i64 (gt a.past i22).f, .int .i64 (gt a.past i22).t]) (ha.2.2.1.2.spanT_at hl27).2 rfl Try.isAgg71 Try.sizeOf71 rfl rfl rfl) ?_
      refine wa rfl rfl rfl (q_fl 2 fld_58_1 rfl rfl rfl) ?_
      refine wa rfl rfl rfl (q_ldl (i := 0) (v := .slice Ab2 b.past.length cb2) rfl rfl Try.isAgg56 rfl rfl) ?_
      refine wa rfl rfl rfl (q_move (v := .int .i64 ((i22 : Nat) : Int)) rfl (by kernel_rfl)) ?_
      obtain ⟨hk28, h⟩ := chk_some h
      refine wa rfl rfl rfl (q_ixn (i := i22) Try.underlying56 Try.sizeOf71 rfl rfl rfl (of_decide_eq_true hk28) (hb.2.2.1.2.some_ (of_decide_eq_true hk28))) ?_
      refine wa rfl rfl rfl (q_lda (c := 0) (vs := [.int .i64 (gt b.past i22).s, .int .i64 (gt b.past i22).f, .int .i64 (gt b.past i22).t]) (hb.2.2.1.2.spanT_at (of_decide_eq_true hk28)).2 rfl Try.isAgg71 Try.sizeOf71 rfl rfl rfl) ?_
      refine wa rfl rfl rfl (q_neq_Span (a := (gt a.past i22)) (b := (gt b.past i22)) rfl rfl rfl) ?_
      refine WQ.nil ?_
      change WC _ _ _ _ _ _
      refine WC.cif h (by kernel_rfl) (fun hb29 h => ?_) (fun hb29 h => ?_)
      · skip
        refine WC.rs ?_
        refine va rfl rfl rfl (q_assign (v := .bool false) rfl (by kernel_rfl)) ?_
        refine WR.nil ?_
        change WC _ _ _ _ _ _
        refine WC.ret ?_
        intro w hw
        obtain rfl := Option.some.inj h
        subst hF
        exact ⟨by kernel_rfl, hw.fr⟩
      · skip
        refine WC.skip ?_
        change WC _ _ _ _ _ _
        refine WC.region ?_
        refine va rfl rfl rfl (q_add_r (r := ((i22 + 1 : Nat) : Int)) rfl rfl rfl (ctr_len hl27 ha.2.2.1.2.le)) ?_
        refine va rfl rfl rfl (q_move (v := .int .i64 ((i22 + 1 : Nat) : Int)) rfl (by kernel_rfl)) ?_
        refine WR.nil ?_
        intro w hw
        exact ⟨hl27, (), h, (sl_ (by kernel_rfl)), hw, trivial⟩
    · skip
      have h := hge25 (ige hb26)
      refine WC.exit ?_
      change WC _ _ _ _ _ _
      refine WC.rs ?_
      refine va rfl rfl rfl (q_assign (v := .bool true) rfl (by kernel_rfl)) ?_
      refine WR.nil ?_
      change WC _ _ _ _ _ _
      refine WC.ret ?_
      intro w hw
      obtain rfl := Option.some.inj h
      subst hF
      exact ⟨by kernel_rfl, hw.fr⟩
abbrev r_vers_Merge (r : (List Ver) × Int) (U : List Rowb) (Γ : Gh) (v : Value) : Prop := ∃ (A0 : Option Addr), ∃ (c0 : Nat), ∃ (row0 : Rowb), v = .tuple #[.slice A0 r.1.length c0, .int .i64 r.2] ∧ U = [row0] ∧ Own verT Γ 58 row0 A0 c0 r.1 ∧ I64 r.2 ∧ True
set_option maxRecDepth 100000 in
set_option maxHeartbeats 400000 in
theorem t_vers_Merge {Γ : Gh} {w0 : World} {Aa : Option Addr} {ca : Nat} {a : List Ver} (ha : Sl verT Γ Aa a) (hac : a.length ≤ ca) {Ab : Option Addr} {cb : Nat} {b : List Ver} (hb : Sl verT Γ Ab b) (hbc : b.length ≤ cb) (hp : Pre [] Γ w0) {r : (List Ver) × Int} (h : m_vers_Merge a b = some r) : Calls Try.prog 47 #[.slice Aa a.length ca, .slice Ab b.length cb] w0 (Outc Γ [] w0 (r_vers_Merge r)) := by
  refine calls_of (N := 110) (rs := [4, 5]) (args := [.slice Aa a.length ca, .slice Ab b.length cb]) Try.func47 rfl Try.ntmps47 Try.results47 rfl ?_
  obtain ⟨F, hF⟩ : ∃ F : Fm, F = ⟨ids [], w0, Γ⟩ := ⟨_, rfl⟩
  refine WC.here (C := CC F Γ []) ?_ (hF ▸ hp.start)
  refine WC.rs ?_
  refine e_box (v := .slice Aa a.length ca) rfl rfl rfl rfl (by kernel_rfl) ?_
  intro g1
  refine e_box (v := .slice Ab b.length cb) rfl rfl rfl rfl (by kernel_rfl) ?_
  intro g2
  refine va rfl rfl rfl (q_assign (v := .slice none 0 0) rfl (by kernel_rfl)) ?_
  refine va rfl rfl rfl (q_assign (v := .int .i64 0) rfl (by kernel_rfl)) ?_
  refine WR.nil ?_
  change WC _ _ _ _ _ _
  refine WC.seq ?_
  refine WC.rs ?_
  refine va rfl rfl rfl (q_ldl (i := 1) (v := .slice Aa a.length ca) rfl rfl Try.isAgg40 rfl rfl) ?_
  obtain ⟨z3, hz4, h⟩ := bnd h
  refine vc rfl rfl rfl (q_call (call_run Try.call72 rfl rfl (by kernel_rfl)) (fun w hw => t_vers_Right (Γ := Gh.all w) (ha.mono hw.sat.le_all) hac (Sat.all w) hz4)) ?_
  refine va rfl rfl rfl (q_not rfl rfl) ?_
  refine va rfl rfl rfl (q_move (v := .bool (!z3)) rfl (by kernel_rfl)) ?_
  refine vg0 rfl rfl rfl rfl rfl (fun hg5 => QV.qo (q_ldl (i := 0) (v := .slice Ab b.length cb) rfl rfl Try.isAgg40 rfl rfl)) ?_
  obtain ⟨z7, hz8, h⟩ := bnd h
  refine vg0 rfl rfl rfl rfl rfl (fun hg6 => (q_call (call_run Try.call72 rfl rfl (args1 (gu hg6 rfl))) (fun w hw => t_vers_Right (Γ := Gh.all w) (hb.mono hw.sat.le_all) hbc (Sat.all w) (gc_of hz8 hg6)))) ?_
  refine vg0 rfl rfl rfl rfl rfl (fun hg9 => QV.qo (q_not rfl (gu hg9 rfl))) ?_
  refine va rfl rfl rfl (q_pick rfl rfl (pk_or' (g := (!z3)) (y := (!z7)))) ?_
  refine WR.nil ?_
  change WC _ _ _ _ _ _
  refine WC.cif h (by kernel_rfl) (fun hb10 h => ?_) (fun hb10 h => ?_)
  · skip
    refine WC.rs ?_
    refine va rfl rfl rfl (q_assign (v := .slice none 0 0) rfl (by kernel_rfl)) ?_
    refine va rfl rfl rfl (q_assign (v := .int .i64 1) rfl (by kernel_rfl)) ?_
    refine WR.nil ?_
    change WC _ _ _ _ _ _
    refine WC.ret ?_
    intro w hw
    have hw := hw.pad
    obtain rfl := Option.some.inj h
    subst hF
    exact end_e (is := [0]) (by kernel_rfl) hw rfl ⟨none, 0, [], rfl, rfl, (Own.nil verT _ 58), (show I64 1 by decide), trivial⟩
  · skip
    refine WC.skip ?_
    change WC _ _ _ _ _ _
    refine WC.rs ?_
    refine e_alloc Try.zeroValue40 rfl rfl rfl rfl ?_
    intro g11
    refine WR.nil ?_
    change WC _ _ _ _ _ _
    refine WC.rs ?_
    refine va rfl rfl rfl (q_mkfn (v := .func (.func 73) #[] #[.pointer (some ⟨g1, 0, none⟩), .pointer (some ⟨g2, 0, none⟩), .pointer (some ⟨g11, 0, none⟩)]) rfl (by kernel_rfl)) ?_
    refine va rfl rfl rfl (q_assign (v := .func (.func 73) #[] #[.pointer (some ⟨g1, 0, none⟩), .pointer (some ⟨g2, 0, none⟩), .pointer (some ⟨g11, 0, none⟩)]) rfl (by kernel_rfl)) ?_
    refine WR.nil ?_
    change WC _ _ _ _ _ _
    refine WC.rs ?_
    refine va rfl rfl rfl (q_assign (v := .bool false) rfl (by kernel_rfl)) ?_
    refine WR.nil ?_
    change WC _ _ _ _ _ _
    refine WC.seq ?_
    refine WC.rs ?_
    refine va rfl rfl rfl (q_assign (v := .int .i64 0) rfl (by kernel_rfl)) ?_
    refine va rfl rfl rfl (q_assign (v := .int .i64 0) rfl (by kernel_rfl)) ?_
    refine WR.nil ?_
    change WC _ _ _ _ _ _
    refine WC.block ?_
    refine WC.loopN h (fun (s : Bool × Int × Int × (List Ver)) σ w => match s with | (twin_14, i_15, k_17, x19) => ∃ (Γ12 : Gh), ∃ (A20 : Option Addr), ∃ (c21 : Nat), ∃ (row22 : Rowb), slots σ [(2, .pointer (some ⟨g1, 0, none⟩)), (3, .pointer (some ⟨g2, 0, none⟩)), (6, .pointer (some ⟨g11, 0, none⟩)), (7, .func (.func 73) #[] #[.pointer (some ⟨g1, 0, none⟩), .pointer (some ⟨g2, 0, none⟩), .pointer (some ⟨g11, 0, none⟩)]), (8, .bool twin_14), (9, .int .i64 i_15), (10, .int .i64 k_17)] ∧ CC F Γ12 [row22, [(g11, .cells #[.slice A20 x19.length c21] 40 (0, 0))], [(g2, .cells #[.slice Ab b.length cb] 40 (0, 0))], [(g1, .cells #[.slice Aa a.length ca] 40 (0, 0))]] w ∧ Gh.le Γ Γ12 ∧ I64 i_15 ∧ I64 k_17 ∧ Own verT Γ12 58 row22 A20 c21 x19 ∧ True) ?_ ?_
    · skip
      intro w hw
      have hw := hw.pad
      exact ⟨Γ, none, 0, [], (sl_ (by kernel_rfl)), hw, (Gh.refl _), (show I64 0 by decide), (show I64 0 by decide), (Own.nil verT _ 58), trivial⟩
    rintro f24 ⟨twin_14, i_15, k_17, x19⟩ σ w h ⟨Γ12, A20, c21, row22, hsl, hw, hl13, hr16, hr18, ho23, -⟩
    refine Wpt.slots hsl ?_
    refine WC.here (C := CC F Γ12 [row22, [(g11, .cells #[.slice A20 x19.length c21] 40 (0, 0))], [(g2, .cells #[.slice Ab b.length cb] 40 (0, 0))], [(g1, .cells #[.slice Aa a.length ca] 40 (0, 0))]]) ?_ hw
    clear hw hsl
    refine WC.seq ?_
    refine WC.rs ?_
    refine va rfl rfl rfl (q_move (v := .int .i64 i_15) rfl (by kernel_rfl)) ?_
    refine va rfl rfl rfl (q_ldl (i := 3) (v := .slice Aa a.length ca) rfl rfl Try.isAgg40 rfl rfl) ?_
    refine va rfl rfl rfl (q_len_slice rfl Try.underlying40 rfl) ?_
    refine va rfl rfl rfl (q_lss rfl rfl rfl) ?_
    refine va rfl rfl rfl (q_move (v := .bool (decide (i_15 < ((a.length : Nat) : Int)))) rfl (by kernel_rfl)) ?_
    refine vg0 rfl rfl rfl rfl rfl (fun hg28 => QV.qo (q_move (v := .int .i64 k_17) rfl (by kernel_rfl))) ?_
    refine vg0 rfl rfl rfl rfl rfl (fun hg29 => QV.qo (q_ldl (i := 2) (v := .slice Ab b.length cb) rfl rfl Try.isAgg40 rfl rfl)) ?_
    refine vg0 rfl rfl rfl rfl rfl (fun hg30 => QV.qo (q_len_slice rfl Try.underlying40 (gu hg30 rfl))) ?_
    refine vg0 rfl rfl rfl rfl rfl (fun hg31 => QV.qo (q_lss rfl (gu hg31 rfl) (gu hg31 rfl))) ?_
    refine va rfl rfl rfl (q_pick rfl rfl (pk_or' (g := (decide (i_15 < ((a.length : Nat) : Int)))) (y := (decide (k_17 < ((b.length : Nat) : Int)))))) ?_
    refine WR.nil ?_
    change WC _ _ _ _ _ _
    refine WC.cif h (by kernel_rfl) (fun hb32 h => ?_) (fun hb32 h => ?_)
    · skip
      refine WC.skip ?_
      change WC _ _ _ _ _ _
      refine WC.block ?_
      refine WC.block ?_
      refine WC.seq ?_
      refine WC.dr (by kernel_rfl) (by kernel_rfl) (fun w hw => hw.drawn _) ?_
      refine wa rfl rfl rfl (q_move (v := .int .i64 k_17) rfl (by kernel_rfl)) ?_
      refine wa rfl rfl rfl (q_ldl (i := 2) (v := .slice Ab b.length cb) rfl rfl Try.isAgg40 rfl rfl) ?_
      refine wa rfl rfl rfl (q_len_slice rfl Try.underlying40 rfl) ?_
      refine wa rfl rfl rfl (q_eql rfl rfl rfl) ?_
      refine wa rfl rfl rfl (q_move (v := .bool (k_17 == ((b.length : Nat) : Int))) rfl (by kernel_rfl)) ?_
      refine wg0 rfl rfl rfl rfl rfl (fun hg33 => QV.qo (q_move (v := .int .i64 i_15) rfl (by kernel_rfl))) ?_
      refine wg0 rfl rfl rfl rfl rfl (fun hg34 => QV.qo (q_ldl (i := 3) (v := .slice Aa a.length ca) rfl rfl Try.isAgg40 rfl rfl)) ?_
      refine wg0 rfl rfl rfl rfl rfl (fun hg35 => QV.qo (q_len_slice rfl Try.underlying40 (gu hg35 rfl))) ?_
      refine wg0 rfl rfl rfl rfl rfl (fun hg36 => QV.qo (q_lss rfl (gu hg36 rfl) (gu hg36 rfl))) ?_
      refine wg0 rfl rfl rfl rfl rfl (fun hg37 => QV.qo (q_move (v := .bool (decide (i_15 < ((a.length : Nat) : Int)))) rfl (gu hg37 rfl))) ?_
      refine wh1 (c0 := (!(k_17 == ((b.length : Nat) : Int)))) (g := (decide (i_15 < ((a.length : Nat) : Int)))) rfl rfl rfl rfl rfl (fun hg38 => QV.qo (q_ldl (i := 3) (v := .slice Aa a.length ca) rfl rfl Try.isAgg40 rfl rfl)) ?_
      refine wh1 (c0 := (!(k_17 == ((b.length : Nat) : Int)))) (g := (decide (i_15 < ((a.length : Nat) : Int)))) rfl rfl rfl rfl rfl (fun hg39 => QV.qo (q_move (v := .int .i64 i_15) rfl (by kernel_rfl))) ?_
      obtain ⟨hk41, h⟩ := chk_some h
      refine wh1 (c0 := (!(k_17 == ((b.length : Nat) : Int)))) (g := (decide (i_15 < ((a.length : Nat) : Int)))) rfl rfl rfl rfl rfl (fun hg40 => QV.qo (q_ix Try.underlying40 Try.sizeOf58 rfl (gu hg40 rfl) (gu hg40 rfl) (imp_of hk41 hg40) ((ha.mono hl13).some_ (inb_lt (imp_of hk41 hg40))))) ?_
      refine wh1 (c0 := (!(k_17 == ((b.length : Nat) : Int)))) (g := (decide (i_15 < ((a.length : Nat) : Int)))) rfl rfl rfl rfl rfl (fun hg42 => QV.qo (q_field_addr (i_15.toNat * 5) fld_58_0 rfl (gu hg42 rfl) ((ha.mono hl13).some_ (inb_lt (imp_of hk41 hg42))) rfl)) ?_
      obtain ⟨A44, c45, hx46⟩ := (ha.mono hl13).verT_at i_15.toNat
      refine wh1 (c0 := (!(k_17 == ((b.length : Nat) : Int)))) (g := (decide (i_15 < ((a.length : Nat) : Int)))) rfl rfl rfl rfl rfl (fun hg43 => QV.qo (q_lda (c := 0) (vs := [.int .i64 (gt a i_15.toNat).dot.s, .int .i64 (gt a i_15.toNat).dot.n]) (hx46 (inb_lt (imp_of hk41 hg43))).2 rfl Try.isAgg55 Try.sizeOf55 (gu hg43 rfl) rfl rfl)) ?_
      refine wh1 (c0 := (!(k_17 == ((b.length : Nat) : Int)))) (g := (decide (i_15 < ((a.length : Nat) : Int)))) rfl rfl rfl rfl rfl (fun hg47 => QV.qo (q_ldl (i := 2) (v := .slice Ab b.length cb) rfl rfl Try.isAgg40 rfl rfl)) ?_
      refine wh1 (c0 := (!(k_17 == ((b.length : Nat) : Int)))) (g := (decide (i_15 < ((a.length : Nat) : Int)))) rfl rfl rfl rfl rfl (fun hg48 => QV.qo (q_move (v := .int .i64 k_17) rfl (by kernel_rfl))) ?_
      obtain ⟨hk50, h⟩ := chk_some h
      refine wh1 (c0 := (!(k_17 == ((b.length : Nat) : Int)))) (g := (decide (i_15 < ((a.length : Nat) : Int)))) rfl rfl rfl rfl rfl (fun hg49 => QV.qo (q_ix Try.underlying40 Try.sizeOf58 rfl (gu hg49 rfl) (gu hg49 rfl) (imp_of hk50 hg49) ((hb.mono hl13).some_ (inb_lt (imp_of hk50 hg49))))) ?_
      refine wh1 (c0 := (!(k_17 == ((b.length : Nat) : Int)))) (g := (decide (i_15 < ((a.length : Nat) : Int)))) rfl rfl rfl rfl rfl (fun hg51 => QV.qo (q_field_addr (k_17.toNat * 5) fld_58_0 rfl (gu hg51 rfl) ((hb.mono hl13).some_ (inb_lt (imp_of hk50 hg51))) rfl)) ?_
      obtain ⟨A53, c54, hx55⟩ := (hb.mono hl13).verT_at k_17.toNat
      refine wh1 (c0 := (!(k_17 == ((b.length : Nat) : Int)))) (g := (decide (i_15 < ((a.length : Nat) : Int)))) rfl rfl rfl rfl rfl (fun hg52 => QV.qo (q_lda (c := 0) (vs := [.int .i64 (gt b k_17.toNat).dot.s, .int .i64 (gt b k_17.toNat).dot.n]) (hx55 (inb_lt (imp_of hk50 hg52))).2 rfl Try.isAgg55 Try.sizeOf55 (gu hg52 rfl) rfl rfl)) ?_
      obtain ⟨z57, hz58, h⟩ := bnd h
      refine wh1 (c0 := (!(k_17 == ((b.length : Nat) : Int)))) (g := (decide (i_15 < ((a.length : Nat) : Int)))) rfl rfl rfl rfl rfl (fun hg56 => (q_call (call_run Try.call76 rfl rfl (args2 (gu hg56 rfl) (gu hg56 rfl))) (fun w hw => t_vers_before (Γ := Gh.all w) ((gt a i_15.toNat).dot) ⟨(hx46 (inb_lt (imp_of hk41 hg56))).1.1, (hx46 (inb_lt (imp_of hk41 hg56))).1.2.1⟩ ((gt b k_17.toNat).dot) ⟨(hx55 (inb_lt (imp_of hk50 hg56))).1.1, (hx55 (inb_lt (imp_of hk50 hg56))).1.2.1⟩ (Sat.all w) (gc_of hz58 hg56)))) ?_
      refine wg0 rfl rfl rfl rfl rfl (fun hg59 => QV.qo (q_pick rfl (gu hg59 rfl) (pk_and (c := (!(k_17 == ((b.length : Nat) : Int)))) (g := (decide (i_15 < ((a.length : Nat) : Int)))) (y := z57) hg59))) ?_
      refine wa rfl rfl rfl (q_pick rfl rfl (pk_or' (g := (k_17 == ((b.length : Nat) : Int))) (y := ((decide (i_15 < ((a.length : Nat) : Int))) && z57)))) ?_
      refine wa rfl rfl rfl (q_assign (v := .bool ((k_17 == ((b.length : Nat) : Int)) || ((decide (i_15 < ((a.length : Nat) : Int))) && z57))) rfl (by kernel_rfl)) ?_
      refine WQ.nil ?_
      change WC _ _ _ _ _ _
      refine WC.cif h (by kernel_rfl) (fun hb60 h => ?_) (fun hb60 h => ?_)
      · skip
        refine WC.rs ?_
        refine va rfl rfl rfl (q_move (v := .func (.func 73) #[] #[.pointer (some ⟨g1, 0, none⟩), .pointer (some ⟨g2, 0, none⟩), .pointer (some ⟨g11, 0, none⟩)]) rfl (by kernel_rfl)) ?_
        refine va rfl rfl rfl (q_ldl (i := 3) (v := .slice Aa a.length ca) rfl rfl Try.isAgg40 rfl rfl) ?_
        refine va rfl rfl rfl (q_move (v := .int .i64 i_15) rfl (by kernel_rfl)) ?_
        obtain ⟨hk61, h⟩ := chk_some h
        refine va rfl rfl rfl (q_ix Try.underlying40 Try.sizeOf58 rfl rfl rfl hk61 ((ha.mono hl13).some_ (inb_lt hk61))) ?_
        refine va rfl rfl rfl (q_lda (c := 0) (vs := [.int .i64 (gt a i_15.toNat).dot.s, .int .i64 (gt a i_15.toNat).dot.n, .slice A44 ((gt a i_15.toNat).past).length c45, .bool (gt a i_15.toNat).gone, .string (gt a i_15.toNat).val]) (hx46 (inb_lt hk61)).2 rfl Try.isAgg58 Try.sizeOf58 rfl rfl rfl) ?_
        obtain ⟨z62, hz63, h⟩ := bnd h
        refine e_call (is := [3, 2, 1, 0]) rfl rfl (call_run_fv (caps := #[.pointer (some ⟨g1, 0, none⟩), .pointer (some ⟨g2, 0, none⟩), .pointer (some ⟨g11, 0, none⟩)]) Try.call73 rfl (by kernel_rfl) (by kernel_rfl)) rfl (fun w hp => t_vers_Merge_1 (gt a i_15.toNat) (hx46 (inb_lt hk61)).1 (ha.mono hl13) hac (hb.mono hl13) hbc ho23 hp hz63) ?_
        rintro Γ64 U66 v67 hl65 ⟨A68, c69, row70, rfl, rfl, hr71, _⟩
        change WR _ _ _ (CC F Γ64 [[(g1, .cells #[.slice Aa a.length ca] 40 (0, 0))], [(g2, .cells #[.slice Ab b.length cb] 40 (0, 0))], [(g11, .cells #[.slice A68 z62.length c69] 40 (0, 0))], row70]) _ _ (upd _ 67 (.tuple #[]))
        refine WR.nil ?_
        change WC _ _ _ _ _ _
        refine WC.region ?_
        refine va rfl rfl rfl (q_move (v := .int .i64 i_15) rfl (by kernel_rfl)) ?_
        refine va rfl rfl rfl (q_add rfl rfl rfl) ?_
        refine va rfl rfl rfl (q_assign (v := .int .i64 (w64 (i_15 + 1))) rfl (by kernel_rfl)) ?_
        refine WR.nil ?_
        intro w hw
        exact ⟨(twin_14, (w64 (i_15 + 1)), k_17, z62), h, Γ64, A68, c69, row70, (sl_ (by kernel_rfl)), (hw.only (is := [3, 2, 1, 0]) rfl), (hl13.trans hl65), (w64_r _), hr18, hr71, trivial⟩
      · skip
        refine WC.seq ?_
        refine WC.dr (by kernel_rfl) (by kernel_rfl) (fun w hw => hw.drawn _) ?_
        refine wa rfl rfl rfl (q_move (v := .int .i64 i_15) rfl (by kernel_rfl)) ?_
        refine wa rfl rfl rfl (q_ldl (i := 3) (v := .slice Aa a.length ca) rfl rfl Try.isAgg40 rfl rfl) ?_
        refine wa rfl rfl rfl (q_len_slice rfl Try.underlying40 rfl) ?_
        refine wa rfl rfl rfl (q_lss rfl rfl rfl) ?_
        refine wa rfl rfl rfl (q_move (v := .bool (decide (i_15 < ((a.length : Nat) : Int)))) rfl (by kernel_rfl)) ?_
        refine wg1 rfl rfl rfl rfl rfl (fun hg72 => QV.qo (q_ldl (i := 3) (v := .slice Aa a.length ca) rfl rfl Try.isAgg40 rfl rfl)) ?_
        refine wg1 rfl rfl rfl rfl rfl (fun hg73 => QV.qo (q_move (v := .int .i64 i_15) rfl (by kernel_rfl))) ?_
        obtain ⟨hk75, h⟩ := chk_some h
        refine wg1 rfl rfl rfl rfl rfl (fun hg74 => QV.qo (q_ix Try.underlying40 Try.sizeOf58 rfl (gu hg74 rfl) (gu hg74 rfl) (imp_of hk75 hg74) ((ha.mono hl13).some_ (inb_lt (imp_of hk75 hg74))))) ?_
        refine wg1 rfl rfl rfl rfl rfl (fun hg76 => QV.qo (q_field_addr (i_15.toNat * 5) fld_58_0 rfl (gu hg76 rfl) ((ha.mono hl13).some_ (inb_lt (imp_of hk75 hg76))) rfl)) ?_
        refine wg1 rfl rfl rfl rfl rfl (fun hg77 => QV.qo (q_lda (c := 0) (vs := [.int .i64 (gt a i_15.toNat).dot.s, .int .i64 (gt a i_15.toNat).dot.n]) (hx46 (inb_lt (imp_of hk75 hg77))).2 rfl Try.isAgg55 Try.sizeOf55 (gu hg77 rfl) rfl rfl)) ?_
        refine wg1 rfl rfl rfl rfl rfl (fun hg78 => QV.qo (q_ldl (i := 2) (v := .slice Ab b.length cb) rfl rfl Try.isAgg40 rfl rfl)) ?_
        refine wg1 rfl rfl rfl rfl rfl (fun hg79 => QV.qo (q_move (v := .int .i64 k_17) rfl (by kernel_rfl))) ?_
        obtain ⟨hk81, h⟩ := chk_some h
        refine wg1 rfl rfl rfl rfl rfl (fun hg80 => QV.qo (q_ix Try.underlying40 Try.sizeOf58 rfl (gu hg80 rfl) (gu hg80 rfl) (imp_of hk81 hg80) ((hb.mono hl13).some_ (inb_lt (imp_of hk81 hg80))))) ?_
        refine wg1 rfl rfl rfl rfl rfl (fun hg82 => QV.qo (q_field_addr (k_17.toNat * 5) fld_58_0 rfl (gu hg82 rfl) ((hb.mono hl13).some_ (inb_lt (imp_of hk81 hg82))) rfl)) ?_
        refine wg1 rfl rfl rfl rfl rfl (fun hg83 => QV.qo (q_lda (c := 0) (vs := [.int .i64 (gt b k_17.toNat).dot.s, .int .i64 (gt b k_17.toNat).dot.n]) (hx55 (inb_lt (imp_of hk81 hg83))).2 rfl Try.isAgg55 Try.sizeOf55 (gu hg83 rfl) rfl rfl)) ?_
        refine wg1 rfl rfl rfl rfl rfl (fun hg84 => QV.qo (q_eql_Dot (a := (gt a i_15.toNat).dot) (b := (gt b k_17.toNat).dot) rfl (gu hg84 rfl) (gu hg84 rfl))) ?_
        refine wa rfl rfl rfl (q_pick rfl rfl (pk_and' (g := (decide (i_15 < ((a.length : Nat) : Int)))) (y := ((gt a i_15.toNat).dot == (gt b k_17.toNat).dot)))) ?_
        refine wa rfl rfl rfl (q_assign (v := .bool ((decide (i_15 < ((a.length : Nat) : Int))) && ((gt a i_15.toNat).dot == (gt b k_17.toNat).dot))) rfl (by kernel_rfl)) ?_
        refine WQ.nil ?_
        change WC _ _ _ _ _ _
        refine WC.cif h (by kernel_rfl) (fun hb85 h => ?_) (fun hb85 h => ?_)
        · skip
          refine WC.seq ?_
          refine WC.dr (by kernel_rfl) (by kernel_rfl) (fun w hw => hw.drawn _) ?_
          refine wa rfl rfl rfl (q_move (v := .bool twin_14) rfl (by kernel_rfl)) ?_
          refine wa rfl rfl rfl (q_move (v := .bool twin_14) rfl (by kernel_rfl)) ?_
          refine wg0 rfl rfl rfl rfl rfl (fun hg86 => QV.qo (q_ldl (i := 3) (v := .slice Aa a.length ca) rfl rfl Try.isAgg40 rfl rfl)) ?_
          refine wg0 rfl rfl rfl rfl rfl (fun hg87 => QV.qo (q_move (v := .int .i64 i_15) rfl (by kernel_rfl))) ?_
          obtain ⟨hk89, h⟩ := chk_some h
          refine wg0 rfl rfl rfl rfl rfl (fun hg88 => QV.qo (q_ix Try.underlying40 Try.sizeOf58 rfl (gu hg88 rfl) (gu hg88 rfl) (imp_of hk89 hg88) ((ha.mono hl13).some_ (inb_lt (imp_of hk89 hg88))))) ?_
          refine wg0 rfl rfl rfl rfl rfl (fun hg90 => QV.qo (q_lda (c := 0) (vs := [.int .i64 (gt a i_15.toNat).dot.s, .int .i64 (gt a i_15.toNat).dot.n, .slice A44 ((gt a i_15.toNat).past).length c45, .bool (gt a i_15.toNat).gone, .string (gt a i_15.toNat).val]) (hx46 (inb_lt (imp_of hk89 hg90))).2 rfl Try.isAgg58 Try.sizeOf58 (gu hg90 rfl) rfl rfl)) ?_
          refine wg0 rfl rfl rfl rfl rfl (fun hg91 => QV.qo (q_ldl (i := 2) (v := .slice Ab b.length cb) rfl rfl Try.isAgg40 rfl rfl)) ?_
          refine wg0 rfl rfl rfl rfl rfl (fun hg92 => QV.qo (q_move (v := .int .i64 k_17) rfl (by kernel_rfl))) ?_
          obtain ⟨hk94, h⟩ := chk_some h
          refine wg0 rfl rfl rfl rfl rfl (fun hg93 => QV.qo (q_ix Try.underlying40 Try.sizeOf58 rfl (gu hg93 rfl) (gu hg93 rfl) (imp_of hk94 hg93) ((hb.mono hl13).some_ (inb_lt (imp_of hk94 hg93))))) ?_
          refine wg0 rfl rfl rfl rfl rfl (fun hg95 => QV.qo (q_lda (c := 0) (vs := [.int .i64 (gt b k_17.toNat).dot.s, .int .i64 (gt b k_17.toNat).dot.n, .slice A53 ((gt b k_17.toNat).past).length c54, .bool (gt b k_17.toNat).gone, .string (gt b k_17.toNat).val]) (hx55 (inb_lt (imp_of hk94 hg95))).2 rfl Try.isAgg58 Try.sizeOf58 (gu hg95 rfl) rfl rfl)) ?_
          obtain ⟨z97, hz98, h⟩ := bnd h
          refine wg0 rfl rfl rfl rfl rfl (fun hg96 => (q_call (call_run Try.call77 rfl rfl (args2 (gu hg96 rfl) (gu hg96 rfl))) (fun w hw => t_vers_same (Γ := Gh.all w) (gt a i_15.toNat) (Ver.fits_mono (hx46 (inb_lt (imp_of hk89 hg96))).1 hw.sat.le_all) (gt b k_17.toNat) (Ver.fits_mono (hx55 (inb_lt (imp_of hk94 hg96))).1 hw.sat.le_all) (Sat.all w) (gc_of hz98 hg96)))) ?_
          refine wg0 rfl rfl rfl rfl rfl (fun hg99 => QV.qo (q_not rfl (gu hg99 rfl))) ?_
          refine wa rfl rfl rfl (q_pick rfl rfl (pk_or' (g := twin_14) (y := (!z97)))) ?_
          refine wa rfl rfl rfl (q_assign (v := .bool (twin_14 || (!z97))) rfl (by kernel_rfl)) ?_
          refine WQ.nil ?_
          change WC _ _ _ _ _ _
          refine WC.region ?_
          refine va rfl rfl rfl (q_move (v := .int .i64 i_15) rfl (by kernel_rfl)) ?_
          refine va rfl rfl rfl (q_add rfl rfl rfl) ?_
          refine va rfl rfl rfl (q_assign (v := .int .i64 (w64 (i_15 + 1))) rfl (by kernel_rfl)) ?_
          refine WR.nil ?_
          intro w hw
          exact ⟨((twin_14 || (!z97)), (w64 (i_15 + 1)), k_17, x19), h, Γ12, A20, c21, row22, (sl_ (by kernel_rfl)), hw, hl13, (w64_r _), hr18, ho23, trivial⟩
        · skip
          refine WC.rs ?_
          refine va rfl rfl rfl (q_move (v := .func (.func 73) #[] #[.pointer (some ⟨g1, 0, none⟩), .pointer (some ⟨g2, 0, none⟩), .pointer (some ⟨g11, 0, none⟩)]) rfl (by kernel_rfl)) ?_
          refine va rfl rfl rfl (q_ldl (i := 2) (v := .slice Ab b.length cb) rfl rfl Try.isAgg40 rfl rfl) ?_
          refine va rfl rfl rfl (q_move (v := .int .i64 k_17) rfl (by kernel_rfl)) ?_
          obtain ⟨hk100, h⟩ := chk_some h
          refine va rfl rfl rfl (q_ix Try.underlying40 Try.sizeOf58 rfl rfl rfl hk100 ((hb.mono hl13).some_ (inb_lt hk100))) ?_
          refine va rfl rfl rfl (q_lda (c := 0) (vs := [.int .i64 (gt b k_17.toNat).dot.s, .int .i64 (gt b k_17.toNat).dot.n, .slice A53 ((gt b k_17.toNat).past).length c54, .bool (gt b k_17.toNat).gone, .string (gt b k_17.toNat).val]) (hx55 (inb_lt hk100)).2 rfl Try.isAgg58 Try.sizeOf58 rfl rfl rfl) ?_
          obtain ⟨z101, hz102, h⟩ := bnd h
          refine e_call (is := [3, 2, 1, 0]) rfl rfl (call_run_fv (caps := #[.pointer (some ⟨g1, 0, none⟩), .pointer (some ⟨g2, 0, none⟩), .pointer (some ⟨g11, 0, none⟩)]) Try.call73 rfl (by kernel_rfl) (by kernel_rfl)) rfl (fun w hp => t_vers_Merge_1 (gt b k_17.toNat) (hx55 (inb_lt hk100)).1 (ha.mono hl13) hac (hb.mono hl13) hbc ho23 hp hz102) ?_
          rintro Γ103 U105 v106 hl104 ⟨A107, c108, row109, rfl, rfl, hr110, _⟩
          change WR _ _ _ (CC F Γ103 [[(g1, .cells #[.slice Aa a.length ca] 40 (0, 0))], [(g2, .cells #[.slice Ab b.length cb] 40 (0, 0))], [(g11, .cells #[.slice A107 z101.length c108] 40 (0, 0))], row109]) _ _ (upd _ 35 (.tuple #[]))
          refine WR.nil ?_
          change WC _ _ _ _ _ _
          refine WC.region ?_
          refine va rfl rfl rfl (q_move (v := .int .i64 k_17) rfl (by kernel_rfl)) ?_
          refine va rfl rfl rfl (q_add rfl rfl rfl) ?_
          refine va rfl rfl rfl (q_assign (v := .int .i64 (w64 (k_17 + 1))) rfl (by kernel_rfl)) ?_
          refine WR.nil ?_
          intro w hw
          exact ⟨(twin_14, i_15, (w64 (k_17 + 1)), z101), h, Γ103, A107, c108, row109, (sl_ (by kernel_rfl)), (hw.only (is := [3, 2, 1, 0]) rfl), (hl13.trans hl104), hr16, (w64_r _), hr110, trivial⟩
    · skip
      refine WC.exit ?_
      change WC _ _ _ _ _ _
      refine WC.seq ?_
      refine WC.block ?_
      refine WC.rs ?_
      refine va rfl rfl rfl (q_move (v := .bool twin_14) rfl (by kernel_rfl)) ?_
      refine va rfl rfl rfl (q_assign (v := .bool twin_14) rfl (by kernel_rfl)) ?_
      refine WR.nil ?_
      change WC _ _ _ _ _ _
      refine WC.cif h (by kernel_rfl) (fun hb111 h => ?_) (fun hb111 h => ?_)
      · skip
        refine WC.rs ?_
        refine va rfl rfl rfl (q_assign (v := .slice none 0 0) rfl (by kernel_rfl)) ?_
        refine va rfl rfl rfl (q_assign (v := .int .i64 50) rfl (by kernel_rfl)) ?_
        refine WR.nil ?_
        change WC _ _ _ _ _ _
        refine WC.ret ?_
        intro w hw
        have hw := hw.pad
        obtain rfl := Option.some.inj h
        subst hF
        exact end_e (is := [0]) (by kernel_rfl) hw rfl ⟨none, 0, [], rfl, rfl, (Own.nil verT _ 58), (show I64 50 by decide), trivial⟩
      · skip
        refine WC.rs ?_
        refine va rfl rfl rfl (q_ldl (i := 1) (v := .slice A20 x19.length c21) rfl rfl Try.isAgg40 rfl rfl) ?_
        refine va rfl rfl rfl (q_len_slice rfl Try.underlying40 rfl) ?_
        refine va rfl rfl rfl (q_gtr rfl rfl rfl) ?_
        refine va rfl rfl rfl (q_assign (v := .bool (decide (512 < ((x19.length : Nat) : Int)))) rfl (by kernel_rfl)) ?_
        refine WR.nil ?_
        change WC _ _ _ _ _ _
        refine WC.cif h (by kernel_rfl) (fun hb112 h => ?_) (fun hb112 h => ?_)
        · skip
          refine WC.rs ?_
          refine va rfl rfl rfl (q_assign (v := .slice none 0 0) rfl (by kernel_rfl)) ?_
          refine va rfl rfl rfl (q_assign (v := .int .i64 3) rfl (by kernel_rfl)) ?_
          refine WR.nil ?_
          change WC _ _ _ _ _ _
          refine WC.ret ?_
          intro w hw
          have hw := hw.pad
          obtain rfl := Option.some.inj h
          subst hF
          exact end_e (is := [0]) (by kernel_rfl) hw rfl ⟨none, 0, [], rfl, rfl, (Own.nil verT _ 58), (show I64 3 by decide), trivial⟩
        · skip
          refine WC.skip ?_
          change WC _ _ _ _ _ _
          refine WC.rs ?_
          refine va rfl rfl rfl (q_ldl (i := 1) (v := .slice A20 x19.length c21) rfl rfl Try.isAgg40 rfl rfl) ?_
          refine va rfl rfl rfl (q_assign (v := .slice A20 x19.length c21) rfl (by kernel_rfl)) ?_
          refine va rfl rfl rfl (q_assign (v := .int .i64 0) rfl (by kernel_rfl)) ?_
          refine WR.nil ?_
          change WC _ _ _ _ _ _
          refine WC.ret ?_
          intro w hw
          obtain rfl := Option.some.inj h
          subst hF
          exact end_e (is := [0]) (by kernel_rfl) hw rfl ⟨A20, c21, row22, rfl, rfl, ho23, (show I64 0 by decide), trivial⟩
abbrev r_quorum_asking_api_Ver_count (ga : Nat) (ea : Nat) (r : Oquorum_asking_api_Ver × Bool) (U : List Rowb) (Γ : Gh) (v : Value) : Prop := ∃ (rowa' : Rowb), v = .bool r.2 ∧ U = [rowa'] ∧ Oquorum_asking_api_Ver.ob ea Γ ga rowa' r.1 ∧ True
set_option maxRecDepth 100000 in
set_option maxHeartbeats 400000 in
theorem t_quorum_asking_api_Ver_count {Γ : Gh} {w0 : World} {ga ea : Nat} {rowa : Rowb} {a : Oquorum_asking_api_Ver} (ha : Oquorum_asking_api_Ver.ob ea Γ ga rowa a) (node : Int) (hnode : I64 node) {Ax_ : Option Addr} {cx_ : Nat} {x_ : List Ver} (hx_ : Sl verT Γ Ax_ x_) (hx_c : x_.length ≤ cx_) (hp : Pre [rowa] Γ w0) {r : Oquorum_asking_api_Ver × Bool} (h : m_quorum_asking_api_Ver_count a node x_ = some r) : Calls Try.prog 48 #[.pointer (some ⟨ga, 0, none⟩), .int .i64 node, .slice Ax_ x_.length cx_] w0 (Outc Γ [rowa] w0 (r_quorum_asking_api_Ver_count ga ea r)) := by
  refine calls_of (N := 34) (rs := [6]) (args := [.pointer (some ⟨ga, 0, none⟩), .int .i64 node, .slice Ax_ x_.length cx_]) Try.func48 rfl Try.ntmps48 Try.results48 rfl ?_
  obtain ⟨F, hF⟩ : ∃ F : Fm, F = ⟨ids [rowa], w0, Γ⟩ := ⟨_, rfl⟩
  refine WC.here (C := CC F Γ [rowa]) ?_ (hF ▸ hp.start)
  refine WC.rs ?_
  refine va rfl rfl rfl (q_assign (v := .bool false) rfl (by kernel_rfl)) ?_
  refine WR.nil ?_
  change WC _ _ _ _ _ _
  refine WC.rs ?_
  refine va rfl rfl rfl (q_move (v := .pointer (some ⟨ga, 0, none⟩)) rfl (by kernel_rfl)) ?_
  refine va rfl rfl rfl (q_nil (A := some ⟨ga, 0, none⟩) rfl rfl rfl) ?_
  refine va rfl rfl rfl (q_fl 2 fld_94_2 rfl rfl rfl) ?_
  have hq := ha
  obtain ⟨A0_1, c0_1, m2_1, r2_1, hrow_1, ho0_1, ho1_1, ho2_1, ho3_1, -⟩ := hq
  intro w hw; have hw := hw.unfold (i := 0) rfl hrow_1
  refine WR.here (C := CC F Γ [[(ga, .cells #[.slice A0_1 a.list.length c0_1, .int .i64 a.need, .map (some m2_1)] ea (0, 0))], r2_1]) ?_ hw
  clear hw
  refine va rfl rfl rfl (q_ldl (i := 0) (v := .map (some m2_1)) rfl rfl Try.isAgg92 rfl rfl) ?_
  refine va rfl rfl rfl (q_move (v := .int .i64 node) rfl (by kernel_rfl)) ?_
  obtain ⟨v2, ⟨A5, c6, hv3, hc7, hs8⟩, hat4⟩ := MapO.look ho3_1 node (z := .slice none 0 0) (zx := []) ⟨none, 0, rfl, Nat.zero_le _, Sl.nil _ _ _⟩
  obtain rfl : v2 = _ := List.cons.inj hv3 |>.1
  refine va rfl rfl rfl (q_lookup2 (v := .slice A5 ((mget node a.got).getD []).length c6) hat4 rfl Try.underlying92 Try.zeroValue40 rfl rfl (i := 1) rfl) ?_
  refine va rfl rfl rfl (q_move (v := .tuple #[.slice A5 ((mget node a.got).getD []).length c6, .bool ((mget node a.got).isSome)]) rfl (by kernel_rfl)) ?_
  refine va rfl rfl rfl (q_extract (v := .slice A5 ((mget node a.got).getD []).length c6) rfl rfl rfl) ?_
  refine va rfl rfl rfl (q_extract (v := .bool ((mget node a.got).isSome)) rfl rfl rfl) ?_
  refine va rfl rfl rfl (q_assign (v := .slice A5 ((mget node a.got).getD []).length c6) rfl (by kernel_rfl)) ?_
  refine va rfl rfl rfl (q_assign (v := .bool ((mget node a.got).isSome)) rfl (by kernel_rfl)) ?_
  refine WR.nil ?_
  change WC _ _ _ _ _ _
  refine WC.seq ?_
  refine WC.rs ?_
  refine va rfl rfl rfl (q_move (v := .bool ((mget node a.got).isSome)) rfl (by kernel_rfl)) ?_
  refine va rfl rfl rfl (q_move (v := .bool ((mget node a.got).isSome)) rfl (by kernel_rfl)) ?_
  refine vg0 rfl rfl rfl rfl rfl (fun hg9 => QV.qo (q_move (v := .pointer (some ⟨ga, 0, none⟩)) rfl (by kernel_rfl))) ?_
  refine vg0 rfl rfl rfl rfl rfl (fun hg10 => QV.qo (q_nil (A := some ⟨ga, 0, none⟩) rfl (gu hg10 rfl) rfl)) ?_
  refine vg0 rfl rfl rfl rfl rfl (fun hg11 => QV.qo (q_fl 0 fld_94_0 rfl (gu hg11 rfl) rfl)) ?_
  refine vg0 rfl rfl rfl rfl rfl (fun hg12 => QV.qo (q_ldl (i := 0) (v := .slice A0_1 a.list.length c0_1) rfl rfl Try.isAgg22 (gu hg12 rfl) rfl)) ?_
  refine vg0 rfl rfl rfl rfl rfl (fun hg13 => QV.qo (q_move (v := .int .i64 node) rfl (by kernel_rfl))) ?_
  obtain ⟨z15, hz16, h⟩ := bnd h
  refine vg0 rfl rfl rfl rfl rfl (fun hg14 => (q_call (call_run Try.call70 rfl rfl (args2 (gu hg14 rfl) (gu hg14 rfl))) (fun w hw => t_slices_Contains_int_int (Γ := Gh.all w) (ho1_1.mono hw.sat.le_all) ho0_1 node hnode (Sat.all w) (gc_of hz16 hg14)))) ?_
  refine vg0 rfl rfl rfl rfl rfl (fun hg17 => QV.qo (q_not rfl (gu hg17 rfl))) ?_
  refine va rfl rfl rfl (q_pick rfl rfl (pk_or' (g := ((mget node a.got).isSome)) (y := (!z15)))) ?_
  refine WR.nil ?_
  change WC _ _ _ _ _ _
  refine WC.cif h (by kernel_rfl) (fun hb18 h => ?_) (fun hb18 h => ?_)
  · skip
    refine WC.rs ?_
    refine va rfl rfl rfl (q_assign (v := .bool false) rfl (by kernel_rfl)) ?_
    refine WR.nil ?_
    change WC _ _ _ _ _ _
    refine WC.ret ?_
    intro w hw
    have hw := hw.fold (is := [0, 0]) rfl hrow_1
    obtain rfl := Option.some.inj h
    subst hF
    exact end_e (is := [0]) (by kernel_rfl) hw rfl ⟨rowa, rfl, rfl, ha, trivial⟩
  · skip
    refine WC.skip ?_
    change WC _ _ _ _ _ _
    refine WC.rs ?_
    refine va rfl rfl rfl (q_move (v := .pointer (some ⟨ga, 0, none⟩)) rfl (by kernel_rfl)) ?_
    refine va rfl rfl rfl (q_nil (A := some ⟨ga, 0, none⟩) rfl rfl rfl) ?_
    refine va rfl rfl rfl (q_fl 2 fld_94_2 rfl rfl rfl) ?_
    refine va rfl rfl rfl (q_ldl (i := 0) (v := .map (some m2_1)) rfl rfl Try.isAgg92 rfl rfl) ?_
    refine va rfl rfl rfl (q_move (v := .int .i64 node) rfl (by kernel_rfl)) ?_
    refine va rfl rfl rfl (q_move (v := .slice Ax_ x_.length cx_) rfl (by kernel_rfl)) ?_
    refine e_mapUpdate (i := 1) (x := node) (v := .slice Ax_ x_.length cx_) (a := x_) rfl rfl rfl Try.underlying92 rfl rfl (by kernel_rfl) rfl ho3_1 (by exact ⟨Ax_, cx_, rfl, hx_c, hx_⟩) hnode ?_
    intro row20 hm21
    refine WR.nil ?_
    change WC _ _ _ _ _ _
    refine WC.rs ?_
    refine va rfl rfl rfl (q_assign (v := .bool true) rfl (by kernel_rfl)) ?_
    refine WR.nil ?_
    change WC _ _ _ _ _ _
    refine WC.ret ?_
    intro w hw
    obtain ⟨row_22, hrow_22, hob_22⟩ : ∃ rw : Rowb, rw = ([[(ga, .cells #[.slice A0_1 a.list.length c0_1, .int .i64 a.need, .map (some m2_1)] ea (0, 0))], row20] : List Rowb).flatten ∧ Oquorum_asking_api_Ver.ob ea Γ ga rw (⟨a.list, a.need, (mput node x_ a.got)⟩ : Oquorum_asking_api_Ver) := ⟨_, rfl, A0_1, c0_1, m2_1, row20, rfl, ho0_1, ho1_1, ho2_1, hm21, trivial⟩
    have hw := hw.fold (is := [0, 0]) rfl hrow_22
    obtain rfl := Option.some.inj h
    subst hF
    exact end_e (is := [0]) (by kernel_rfl) hw rfl ⟨row_22, rfl, rfl, hob_22, trivial⟩
abbrev r_quorum_Read_Got (gr_ : Nat) (er_ : Nat) (r : Oquorum_asking_api_Ver × Bool) (U : List Rowb) (Γ : Gh) (v : Value) : Prop := ∃ (rowr_' : Rowb), v = .bool r.2 ∧ U = [rowr_'] ∧ Oquorum_asking_api_Ver.ob er_ Γ gr_ rowr_' r.1 ∧ True
set_option maxRecDepth 100000 in
set_option maxHeartbeats 400000 in
theorem t_quorum_Read_Got {Γ : Gh} {w0 : World} {gr_ er_ : Nat} {rowr_ : Rowb} {r_ : Oquorum_asking_api_Ver} (hr_ : Oquorum_asking_api_Ver.ob er_ Γ gr_ rowr_ r_) (node : Int) (hnode : I64 node) {Al : Option Addr} {cl : Nat} {l : List Ver} (hl : Sl verT Γ Al l) (hlc : l.length ≤ cl) (hp : Pre [rowr_] Γ w0) {r : Oquorum_asking_api_Ver × Bool} (h : m_quorum_Read_Got r_ node l = some r) : Calls Try.prog 20 #[.pointer (some ⟨gr_, 0, none⟩), .int .i64 node, .slice Al l.length cl] w0 (Outc Γ [rowr_] w0 (r_quorum_Read_Got gr_ er_ r)) := by
  refine calls_of (N := 24) (rs := [6]) (args := [.pointer (some ⟨gr_, 0, none⟩), .int .i64 node, .slice Al l.length cl]) Try.func20 rfl Try.ntmps20 Try.results20 rfl ?_
  obtain ⟨F, hF⟩ : ∃ F : Fm, F = ⟨ids [rowr_], w0, Γ⟩ := ⟨_, rfl⟩
  refine WC.here (C := CC F Γ [rowr_]) ?_ (hF ▸ hp.start)
  refine WC.rs ?_
  refine va rfl rfl rfl (q_assign (v := .bool false) rfl (by kernel_rfl)) ?_
  refine WR.nil ?_
  change WC _ _ _ _ _ _
  refine WC.rs ?_
  refine va rfl rfl rfl (q_move (v := .slice Al l.length cl) rfl (by kernel_rfl)) ?_
  obtain ⟨z1, hz2, h⟩ := bnd h
  refine e_call (is := []) rfl rfl (call_run Try.call47 rfl rfl (by kernel_rfl)) rfl (fun w hp => t_vers_Merge hl hlc (Sl.nil verT _ none) (Nat.zero_le 0) hp hz2) ?_
  rintro Γ3 U5 v6 hl4 ⟨A7, c8, row9, rfl, rfl, hr10, hr11, _⟩
  change WR _ _ _ (CC F Γ3 [row9, rowr_]) _ _ (upd _ 11 (.tuple #[.slice A7 z1.1.length c8, .int .i64 z1.2]))
  refine va rfl rfl rfl (q_move (v := .tuple #[.slice A7 z1.1.length c8, .int .i64 z1.2]) rfl (by kernel_rfl)) ?_
  refine va rfl rfl rfl (q_extract (v := .slice A7 z1.1.length c8) rfl rfl rfl) ?_
  refine va rfl rfl rfl (q_extract (v := .int .i64 z1.2) rfl rfl rfl) ?_
  refine va rfl rfl rfl (q_assign (v := .slice A7 z1.1.length c8) rfl (by kernel_rfl)) ?_
  refine va rfl rfl rfl (q_assign (v := .int .i64 z1.2) rfl (by kernel_rfl)) ?_
  refine WR.nil ?_
  change WC _ _ _ _ _ _
  refine WC.rs ?_
  refine va rfl rfl rfl (q_move (v := .int .i64 z1.2) rfl (by kernel_rfl)) ?_
  refine va rfl rfl rfl (q_eql rfl rfl rfl) ?_
  refine va rfl rfl rfl (q_move (v := .bool (z1.2 == 0)) rfl (by kernel_rfl)) ?_
  refine vg1 rfl rfl rfl rfl rfl (fun hg12 => QV.qo (q_move (v := .pointer (some ⟨gr_, 0, none⟩)) rfl (by kernel_rfl))) ?_
  refine vg1 rfl rfl rfl rfl rfl (fun hg13 => QV.qo (q_nil (A := some ⟨gr_, 0, none⟩) rfl (gu hg13 rfl) rfl)) ?_
  refine vg1 rfl rfl rfl rfl rfl (fun hg14 => QV.qo (q_fl 0 fld_98_0 rfl (gu hg14 rfl) rfl)) ?_
  refine vg1 rfl rfl rfl rfl rfl (fun hg15 => QV.qo (q_move (v := .int .i64 node) rfl (by kernel_rfl))) ?_
  refine vg1 rfl rfl rfl rfl rfl (fun hg16 => QV.qo (q_move (v := .slice A7 z1.1.length c8) rfl (by kernel_rfl))) ?_
  refine (Bool.eq_false_or_eq_true (z1.2 == 0)).elim (fun hb17 => ?_) (fun hb17 => ?_)
  · skip
    have h := bt hb17 h
    refine WR.sat (c0 := true) (g := (z1.2 == 0)) rfl rfl rfl hb17 ?_
    have hc22 := hr10.capz
    intro w hw; obtain ⟨Γ18, hw, hl19, hr20⟩ := hw.seal (i := 0) rfl; have hs21 := hr10.sl hl19 hr20
    refine WR.here (C := CC F Γ18 [[], rowr_]) ?_ hw
    clear hw
    obtain ⟨z23, hz24, h⟩ := bnd h
    refine e_call (is := [1]) rfl rfl (call_run Try.call48 rfl rfl (args3 (gu hb17 rfl) (gu hb17 rfl) (gu hb17 rfl))) rfl (fun w hp => t_quorum_asking_api_Ver_count (hr_.mono (hl4.trans hl19)) node hnode hs21 hc22 hp hz24) ?_
    rintro Γ25 U27 v28 hl26 ⟨row29, rfl, rfl, hr30, _⟩
    change WR _ _ _ (CC F Γ25 [row29, []]) _ _ (upd _ 22 (.bool z23.2))
    refine va rfl rfl rfl (q_pick_t (v := .bool z23.2) rfl rfl hb17 (by kernel_rfl)) ?_
    refine va rfl rfl rfl (q_assign (v := .bool z23.2) rfl (by kernel_rfl)) ?_
    refine WR.nil ?_
    change WC _ _ _ _ _ _
    refine WC.ret ?_
    intro w hw
    obtain rfl := Option.some.inj h
    subst hF
    exact end_e (is := [0]) (by kernel_rfl) hw rfl ⟨row29, rfl, rfl, hr30, trivial⟩
  · skip
    have h := bf hb17 h
    refine WR.unsat (c0 := true) (g := (z1.2 == 0)) rfl rfl rfl hb17 rfl ?_
    refine va rfl rfl rfl (q_pick_f (v := .bool false) rfl rfl hb17 (by kernel_rfl)) ?_
    refine va rfl rfl rfl (q_assign (v := .bool false) rfl (by kernel_rfl)) ?_
    refine WR.nil ?_
    change WC _ _ _ _ _ _
    refine WC.ret ?_
    intro w hw
    obtain rfl := Option.some.inj h
    subst hF
    exact end_e (is := [1]) (by kernel_rfl) hw rfl ⟨rowr_, rfl, rfl, (hr_.mono hl4), trivial⟩
abbrev r_quorum_Read_Vers (gr_ : Nat) (er_ : Nat) (rowr_ : Rowb) (r : List Ver) (U : List Rowb) (Γ : Gh) (v : Value) : Prop := ∃ (A0 : Option Addr), ∃ (c0 : Nat), v = .slice A0 r.length c0 ∧ U = [rowr_] ∧ r.length ≤ c0 ∧ Sl verT Γ A0 r ∧ True
set_option maxRecDepth 100000 in
set_option maxHeartbeats 400000 in
theorem t_quorum_Read_Vers {Γ : Gh} {w0 : World} {gr_ er_ : Nat} {rowr_ : Rowb} {r_ : Oquorum_asking_api_Ver} (hr_ : Oquorum_asking_api_Ver.ob er_ Γ gr_ rowr_ r_) (hp : Pre [rowr_] Γ w0) {r : List Ver} (h : m_quorum_Read_Vers r_ = some r) : Calls Try.prog 25 #[.pointer (some ⟨gr_, 0, none⟩)] w0 (Outc Γ [rowr_] w0 (r_quorum_Read_Vers gr_ er_ rowr_ r)) := by
  refine calls_of (N := 35) (rs := [2]) (args := [.pointer (some ⟨gr_, 0, none⟩)]) Try.func25 rfl Try.ntmps25 Try.results25 rfl ?_
  obtain ⟨F, hF⟩ : ∃ F : Fm, F = ⟨ids [rowr_], w0, Γ⟩ := ⟨_, rfl⟩
  refine WC.here (C := CC F Γ [rowr_]) ?_ (hF ▸ hp.start)
  refine WC.rs ?_
  refine va rfl rfl rfl (q_assign (v := .slice none 0 0) rfl (by kernel_rfl)) ?_
  refine WR.nil ?_
  change WC _ _ _ _ _ _
  refine WC.rs ?_
  refine va rfl rfl rfl (q_assign (v := .slice none 0 0) rfl (by kernel_rfl)) ?_
  refine WR.nil ?_
  change WC _ _ _ _ _ _
  refine WC.seq ?_
  refine WC.rs ?_
  refine va rfl rfl rfl (q_move (v := .pointer (some ⟨gr_, 0, none⟩)) rfl (by kernel_rfl)) ?_
  refine va rfl rfl rfl (q_nil (A := some ⟨gr_, 0, none⟩) rfl rfl rfl) ?_
  refine va rfl rfl rfl (q_fl 0 fld_98_0 rfl rfl rfl) ?_
  refine va rfl rfl rfl (q_fl 0 fld_94_0 rfl rfl rfl) ?_
  have hq := hr_
  obtain ⟨A0_1, c0_1, m2_1, r2_1, hrow_1, ho0_1, ho1_1, ho2_1, ho3_1, -⟩ := hq
  intro w hw; have hw := hw.unfold (i := 0) rfl hrow_1
  refine WR.here (C := CC F Γ [[(gr_, .cells #[.slice A0_1 r_.list.length c0_1, .int .i64 r_.need, .map (some m2_1)] er_ (0, 0))], r2_1]) ?_ hw
  clear hw
  refine va rfl rfl rfl (q_ldl (i := 0) (v := .slice A0_1 r_.list.length c0_1) rfl rfl Try.isAgg22 rfl rfl) ?_
  refine va rfl rfl rfl (q_len_slice rfl Try.underlying22 rfl) ?_
  refine va rfl rfl rfl (q_move (v := .int .i64 0) rfl (by kernel_rfl)) ?_
  refine WR.nil ?_
  change WC _ _ _ _ _ _
  refine WC.block ?_
  intro w hw; have hw := hw.fold (is := [0, 0]) rfl hrow_1
  refine WC.here (C := CC F Γ [rowr_]) ?_ hw
  clear hw
  refine WC.forI h (fun (i11 : Nat) (out_5 : List Ver) σ w => ∃ (Γ3 : Gh), ∃ (A6 : Option Addr), ∃ (c7 : Nat), slots σ [(0, .pointer (some ⟨gr_, 0, none⟩)), (3, .slice A6 out_5.length c7), (12, .slice A0_1 r_.list.length c0_1), (13, .int .i64 ((r_.list.length : Nat) : Int)), (14, .int .i64 ((i11 : Nat) : Int))] ∧ CC F Γ3 [rowr_] w ∧ Gh.le Γ Γ3 ∧ out_5.length ≤ c7 ∧ Sl verT Γ3 A6 out_5 ∧ True) ?_ ?_
  · skip
    intro w hw
    exact ⟨Γ, none, 0, (sl_ (by kernel_rfl)), hw, (Gh.refl _), (Nat.zero_le 0), (Sl.nil verT _ none), trivial⟩
  rintro f10 i11 out_5 σ w hi12 hlt13 hge14 ⟨Γ3, A6, c7, hsl, hw, hl4, hc9, hs8, -⟩
  refine Wpt.slots hsl ?_
  refine WC.here (C := CC F Γ3 [rowr_]) ?_ hw
  clear hw hsl
  refine WC.rs ?_
  refine va rfl rfl rfl (q_lss rfl rfl rfl) ?_
  refine WR.nil ?_
  change WC _ _ _ _ _ _
  refine WC.seq ?_
  refine WC.cond (b := (decide (((i11 : Nat) : Int) < ((r_.list.length : Nat) : Int)))) (by kernel_rfl) (fun hb15 => ?_) (fun hb15 => ?_)
  · skip
    have hl16 := ilt hb15
    have h := hlt13 hl16
    refine WC.skip ?_
    change WC _ _ _ _ _ _
    refine WC.cut (fun σ w => ∃ (out_19 : List Ver), ∃ (Γ17 : Gh), ∃ (A20 : Option Addr), ∃ (c21 : Nat), m_quorum_Read_Vers_j6 f10 out_19 = some r ∧ slots σ [(0, .pointer (some ⟨gr_, 0, none⟩)), (3, .slice A20 out_19.length c21), (12, .slice A0_1 r_.list.length c0_1), (13, .int .i64 ((r_.list.length : Nat) : Int)), (14, .int .i64 ((i11 : Nat) : Int))] ∧ CC F Γ17 [rowr_] w ∧ Gh.le Γ3 Γ17 ∧ out_19.length ≤ c21 ∧ Sl verT Γ17 A20 out_19 ∧ True) ?_ ?_
    · skip
      refine WC.block ?_
      refine WC.rs ?_
      refine va rfl rfl rfl (q_ixn (i := i11) Try.underlying22 Try.sizeOf3 rfl rfl rfl hl16 ((ho1_1.mono hl4).some_ hl16)) ?_
      refine va rfl rfl rfl (q_ld (c := 0) (v := .int .i64 (gt r_.list i11)) ((ho1_1.mono hl4).intT_at hl16).2 rfl Try.isAgg3 rfl rfl) ?_
      refine va rfl rfl rfl (q_assign (v := .int .i64 (gt r_.list i11)) rfl (by kernel_rfl)) ?_
      refine WR.nil ?_
      change WC _ _ _ _ _ _
      refine WC.rs ?_
      refine va rfl rfl rfl (q_move (v := .slice A6 out_5.length c7) rfl (by kernel_rfl)) ?_
      refine va rfl rfl rfl (q_move (v := .pointer (some ⟨gr_, 0, none⟩)) rfl (by kernel_rfl)) ?_
      refine va rfl rfl rfl (q_nil (A := some ⟨gr_, 0, none⟩) rfl rfl rfl) ?_
      refine va rfl rfl rfl (q_fl 0 fld_98_0 rfl rfl rfl) ?_
      refine va rfl rfl rfl (q_fl 2 fld_94_2 rfl rfl rfl) ?_
      have hq := (hr_.mono hl4)
      obtain ⟨A0_24, c0_24, m2_24, r2_24, hrow_24, ho0_24, ho1_24, ho2_24, ho3_24, -⟩ := hq
      intro w hw; have hw := hw.unfold (i := 0) rfl hrow_24
      refine WR.here (C := CC F Γ3 [[(gr_, .cells #[.slice A0_24 r_.list.length c0_24, .int .i64 r_.need, .map (some m2_24)] er_ (0, 0))], r2_24]) ?_ hw
      clear hw
      refine va rfl rfl rfl (q_ldl (i := 0) (v := .map (some m2_24)) rfl rfl Try.isAgg92 rfl rfl) ?_
      refine va rfl rfl rfl (q_move (v := .int .i64 (gt r_.list i11)) rfl (by kernel_rfl)) ?_
      obtain ⟨v25, ⟨A28, c29, hv26, hc30, hs31⟩, hat27⟩ := MapO.look ho3_24 (gt r_.list i11) (z := .slice none 0 0) (zx := []) ⟨none, 0, rfl, Nat.zero_le _, Sl.nil _ _ _⟩
      obtain rfl : v25 = _ := List.cons.inj hv26 |>.1
      refine va rfl rfl rfl (q_lookup1 (v := .slice A28 ((mget (gt r_.list i11) r_.got).getD []).length c29) hat27 rfl Try.underlying92 Try.zeroValue40 rfl rfl (i := 1) rfl) ?_
      obtain ⟨z32, hz33, h⟩ := bnd h
      refine e_call (is := []) rfl rfl (call_run Try.call47 rfl rfl (by kernel_rfl)) rfl (fun w hp => t_vers_Merge hs8 hc9 hs31 hc30 hp hz33) ?_
      rintro Γ34 U36 v37 hl35 ⟨A38, c39, row40, rfl, rfl, hr41, hr42, _⟩
      change WR _ _ _ (CC F Γ34 [row40, [(gr_, .cells #[.slice A0_24 r_.list.length c0_24, .int .i64 r_.need, .map (some m2_24)] er_ (0, 0))], r2_24]) _ _ (upd _ 27 (.tuple #[.slice A38 z32.1.length c39, .int .i64 z32.2]))
      refine va rfl rfl rfl (q_move (v := .tuple #[.slice A38 z32.1.length c39, .int .i64 z32.2]) rfl (by kernel_rfl)) ?_
      refine va rfl rfl rfl (q_extract (v := .slice A38 z32.1.length c39) rfl rfl rfl) ?_
      refine va rfl rfl rfl (q_extract (v := .int .i64 z32.2) rfl rfl rfl) ?_
      refine va rfl rfl rfl (q_assign (v := .slice A38 z32.1.length c39) rfl (by kernel_rfl)) ?_
      refine va rfl rfl rfl (q_assign (v := .int .i64 z32.2) rfl (by kernel_rfl)) ?_
      refine WR.nil ?_
      change WC _ _ _ _ _ _
      refine WC.rs ?_
      refine va rfl rfl rfl (q_move (v := .int .i64 z32.2) rfl (by kernel_rfl)) ?_
      refine va rfl rfl rfl (q_eql rfl rfl rfl) ?_
      refine WR.nil ?_
      change WC _ _ _ _ _ _
      refine WC.cif h (by kernel_rfl) (fun hb43 h => ?_) (fun hb43 h => ?_)
      · skip
        refine WC.region ?_
        refine va rfl rfl rfl (q_move (v := .slice A38 z32.1.length c39) rfl (by kernel_rfl)) ?_
        refine va rfl rfl rfl (q_assign (v := .slice A38 z32.1.length c39) rfl (by kernel_rfl)) ?_
        refine WR.nil ?_
        intro w hw
        have hw := hw.fold (is := [1, 1]) rfl hrow_24
        have hc49 := hr41.capz
        obtain ⟨Γ45, hw, hl46, hr47⟩ := hw.seal (i := 1) rfl; have hs48 := hr41.sl hl46 hr47
        exact ⟨z32.1, Γ45, A38, c39, h, (sl_ (by kernel_rfl)), (hw.only (is := [0]) rfl), (hl35.trans hl46), hc49, hs48, trivial⟩
      · skip
        refine WC.skip ?_
        intro w hw
        have hw := hw.fold (is := [1, 1]) rfl hrow_24
        exact ⟨out_5, Γ34, A6, c7, h, (sl_ (by kernel_rfl)), (hw.only (is := [0]) rfl), hl35, hc9, (hs8.mono hl35), trivial⟩
    · skip
      rintro σ w ⟨out_19, Γ17, A20, c21, h, hsl, hw, hl18, hc23, hs22, -⟩
      refine Wpt.slots hsl ?_
      refine WC.here (C := CC F Γ17 [rowr_]) ?_ hw
      clear hw hsl
      refine WC.region ?_
      refine va rfl rfl rfl (q_add_r (r := ((i11 + 1 : Nat) : Int)) rfl rfl rfl (ctr_len hl16 (ho1_1.mono hl4).le)) ?_
      refine va rfl rfl rfl (q_move (v := .int .i64 ((i11 + 1 : Nat) : Int)) rfl (by kernel_rfl)) ?_
      refine WR.nil ?_
      intro w hw
      exact ⟨hl16, out_19, h, Γ17, A20, c21, (sl_ (by kernel_rfl)), hw, (hl4.trans hl18), hc23, hs22, trivial⟩
  · skip
    have h := hge14 (ige hb15)
    refine WC.exit ?_
    change WC _ _ _ _ _ _
    refine WC.rs ?_
    refine va rfl rfl rfl (q_move (v := .slice A6 out_5.length c7) rfl (by kernel_rfl)) ?_
    refine va rfl rfl rfl (q_assign (v := .slice A6 out_5.length c7) rfl (by kernel_rfl)) ?_
    refine WR.nil ?_
    change WC _ _ _ _ _ _
    refine WC.ret ?_
    intro w hw
    obtain rfl := Option.some.inj h
    subst hF
    exact end_e (is := [0]) (by kernel_rfl) hw rfl ⟨A6, c7, rfl, rfl, hc9, hs8, trivial⟩
set_option maxRecDepth 100000 in
set_option maxHeartbeats 400000 in
theorem t_vers_Same {Γ : Gh} {w0 : World} {Aa : Option Addr} {ca : Nat} {a : List Ver} (ha : Sl verT Γ Aa a) (hac : a.length ≤ ca) {Ab : Option Addr} {cb : Nat} {b : List Ver} (hb : Sl verT Γ Ab b) (hbc : b.length ≤ cb) (hs : Sat Γ w0) {r : Bool} (h : m_vers_Same a b = some r) : Calls Try.prog 79 #[.slice Aa a.length ca, .slice Ab b.length cb] w0 (fun e w' => e = .returned (.bool r) ∧ Fr no w0 w') := by
  refine calls_of (N := 30) (rs := [4]) (args := [.slice Aa a.length ca, .slice Ab b.length cb]) Try.func79 rfl Try.ntmps79 Try.results79 rfl ?_
  obtain ⟨F, hF⟩ : ∃ F : Fm, F = ⟨no, w0, Γ⟩ := ⟨_, rfl⟩
  refine WC.here (C := CC F Γ []) ?_ (hF ▸ Cur.start0 hs)
  refine WC.rs ?_
  refine va rfl rfl rfl (q_assign (v := .bool false) rfl (by kernel_rfl)) ?_
  refine WR.nil ?_
  change WC _ _ _ _ _ _
  refine WC.seq ?_
  refine WC.rs ?_
  refine va rfl rfl rfl (q_move (v := .slice Aa a.length ca) rfl (by kernel_rfl)) ?_
  refine va rfl rfl rfl (q_len_slice rfl Try.underlying40 rfl) ?_
  refine va rfl rfl rfl (q_move (v := .slice Ab b.length cb) rfl (by kernel_rfl)) ?_
  refine va rfl rfl rfl (q_len_slice rfl Try.underlying40 rfl) ?_
  refine va rfl rfl rfl (q_min rfl rfl rfl) ?_
  refine va rfl rfl rfl (q_move (v := .int .i64 0) rfl (by kernel_rfl)) ?_
  refine WR.nil ?_
  change WC _ _ _ _ _ _
  refine WC.block ?_
  refine WC.forU h (fun (i2 : Nat) (s : Unit) σ w => match s with | () => slots σ [(0, .slice Aa a.length ca), (1, .slice Ab b.length cb), (10, .int .i64 (min ((a.length : Nat) : Int) ((b.length : Nat) : Int))), (11, .int .i64 ((i2 : Nat) : Int))] ∧ CC F Γ [] w ∧ True) ?_ ?_
  · skip
    intro w hw
    exact ⟨(sl_ (by kernel_rfl)), hw, trivial⟩
  rintro f1 i2 ⟨⟩ σ w hi3 hlt4 hge5 ⟨hsl, hw, -⟩
  refine Wpt.slots hsl ?_
  refine WC.here (C := CC F Γ []) ?_ hw
  clear hw hsl
  refine WC.rs ?_
  refine va rfl rfl rfl (q_lss rfl rfl rfl) ?_
  refine WR.nil ?_
  change WC _ _ _ _ _ _
  refine WC.seq ?_
  refine WC.cond (b := (decide (((i2 : Nat) : Int) < (min ((a.length : Nat) : Int) ((b.length : Nat) : Int))))) (by kernel_rfl) (fun hb6 => ?_) (fun hb6 => ?_)
  · skip
    have hl7 := ilti hb6
    have h := hlt4 hl7
    refine WC.skip ?_
    change WC _ _ _ _ _ _
    refine WC.seq ?_
    refine WC.block ?_
    refine WC.rs ?_
    refine va rfl rfl rfl (q_move (v := .int .i64 ((i2 : Nat) : Int)) rfl (by kernel_rfl)) ?_
    refine va rfl rfl rfl (q_assign (v := .int .i64 ((i2 : Nat) : Int)) rfl (by kernel_rfl)) ?_
    refine WR.nil ?_
    change WC _ _ _ _ _ _
    refine WC.seq ?_
    refine WC.dr (by kernel_rfl) (by kernel_rfl) (fun w hw => hw.drawn _) ?_
    refine wa rfl rfl rfl (q_move (v := .slice Aa a.length ca) rfl (by kernel_rfl)) ?_
    refine wa rfl rfl rfl (q_move (v := .int .i64 ((i2 : Nat) : Int)) rfl (by kernel_rfl)) ?_
    obtain ⟨hk8, h⟩ := chk_some h
    refine wa rfl rfl rfl (q_ixn (i := i2) Try.underlying40 Try.sizeOf58 rfl rfl rfl (of_decide_eq_true hk8) (ha.some_ (of_decide_eq_true hk8))) ?_
    obtain ⟨A9, c10, hx11⟩ := ha.verT_at i2
    refine wa rfl rfl rfl (q_lda (c := 0) (vs := [.int .i64 (gt a i2).dot.s, .int .i64 (gt a i2).dot.n, .slice A9 ((gt a i2).past).length c10, .bool (gt a i2).gone, .string (gt a i2).val]) (hx11 (of_decide_eq_true hk8)).2 rfl Try.isAgg58 Try.sizeOf58 rfl rfl rfl) ?_
    refine wa rfl rfl rfl (q_move (v := .slice Ab b.length cb) rfl (by kernel_rfl)) ?_
    refine wa rfl rfl rfl (q_move (v := .int .i64 ((i2 : Nat) : Int)) rfl (by kernel_rfl)) ?_
    obtain ⟨hk12, h⟩ := chk_some h
    refine wa rfl rfl rfl (q_ixn (i := i2) Try.underlying40 Try.sizeOf58 rfl rfl rfl (of_decide_eq_true hk12) (hb.some_ (of_decide_eq_true hk12))) ?_
    obtain ⟨A13, c14, hx15⟩ := hb.verT_at i2
    refine wa rfl rfl rfl (q_lda (c := 0) (vs := [.int .i64 (gt b i2).dot.s, .int .i64 (gt b i2).dot.n, .slice A13 ((gt b i2).past).length c14, .bool (gt b i2).gone, .string (gt b i2).val]) (hx15 (of_decide_eq_true hk12)).2 rfl Try.isAgg58 Try.sizeOf58 rfl rfl rfl) ?_
    obtain ⟨z16, hz17, h⟩ := bnd h
    refine wc rfl rfl rfl (q_call (call_run Try.call77 rfl rfl (by kernel_rfl)) (fun w hw => t_vers_same (Γ := Gh.all w) (gt a i2) (Ver.fits_mono (hx11 (of_decide_eq_true hk8)).1 hw.sat.le_all) (gt b i2) (Ver.fits_mono (hx15 (of_decide_eq_true hk12)).1 hw.sat.le_all) (Sat.all w) hz17)) ?_
    refine wa rfl rfl rfl (q_not rfl rfl) ?_
    refine WQ.nil ?_
    change WC _ _ _ _ _ _
    refine WC.cif h (by kernel_rfl) (fun hb18 h => ?_) (fun hb18 h => ?_)
    · skip
      refine WC.rs ?_
      refine va rfl rfl rfl (q_assign (v := .bool false) rfl (by kernel_rfl)) ?_
      refine WR.nil ?_
      change WC _ _ _ _ _ _
      refine WC.ret ?_
      intro w hw
      obtain rfl := Option.some.inj h
      subst hF
      exact ⟨by kernel_rfl, hw.fr⟩
    · skip
      refine WC.skip ?_
      change WC _ _ _ _ _ _
      refine WC.region ?_
      refine va rfl rfl rfl (q_add_r (r := ((i2 + 1 : Nat) : Int)) rfl rfl rfl (ctr_int hl7 (min_r (len_r ha.le) (len_r hb.le)))) ?_
      refine va rfl rfl rfl (q_move (v := .int .i64 ((i2 + 1 : Nat) : Int)) rfl (by kernel_rfl)) ?_
      refine WR.nil ?_
      intro w hw
      exact ⟨hl7, (), h, (sl_ (by kernel_rfl)), hw, trivial⟩
  · skip
    have h := hge5 (igei hb6)
    refine WC.exit ?_
    change WC _ _ _ _ _ _
    refine WC.rs ?_
    refine va rfl rfl rfl (q_move (v := .slice Aa a.length ca) rfl (by kernel_rfl)) ?_
    refine va rfl rfl rfl (q_len_slice rfl Try.underlying40 rfl) ?_
    refine va rfl rfl rfl (q_move (v := .slice Ab b.length cb) rfl (by kernel_rfl)) ?_
    refine va rfl rfl rfl (q_len_slice rfl Try.underlying40 rfl) ?_
    refine va rfl rfl rfl (q_eql rfl rfl rfl) ?_
    refine va rfl rfl rfl (q_assign (v := .bool (((a.length : Nat) : Int) == ((b.length : Nat) : Int))) rfl (by kernel_rfl)) ?_
    refine WR.nil ?_
    change WC _ _ _ _ _ _
    refine WC.ret ?_
    intro w hw
    obtain rfl := Option.some.inj h
    subst hF
    exact ⟨by kernel_rfl, hw.fr⟩
set_option maxRecDepth 100000 in
set_option maxHeartbeats 400000 in
theorem t_vers_Lacks {Γ : Gh} {w0 : World} {Aa : Option Addr} {ca : Nat} {a : List Ver} (ha : Sl verT Γ Aa a) (hac : a.length ≤ ca) {Ab : Option Addr} {cb : Nat} {b : List Ver} (hb : Sl verT Γ Ab b) (hbc : b.length ≤ cb) (hs : Sat Γ w0) {r : Bool} (h : m_vers_Lacks a b = some r) : Calls Try.prog 53 #[.slice Aa a.length ca, .slice Ab b.length cb] w0 (fun e w' => e = .returned (.bool r) ∧ Fr no w0 w') := by
  refine calls_of (N := 21) (rs := [4]) (args := [.slice Aa a.length ca, .slice Ab b.length cb]) Try.func53 rfl Try.ntmps53 Try.results53 rfl ?_
  obtain ⟨F, hF⟩ : ∃ F : Fm, F = ⟨no, w0, Γ⟩ := ⟨_, rfl⟩
  refine WC.here (C := CC F Γ []) ?_ (hF ▸ Cur.start0 hs)
  refine WC.rs ?_
  refine va rfl rfl rfl (q_assign (v := .bool false) rfl (by kernel_rfl)) ?_
  refine WR.nil ?_
  change WC _ _ _ _ _ _
  refine WC.rs ?_
  refine va rfl rfl rfl (q_move (v := .slice Aa a.length ca) rfl (by kernel_rfl)) ?_
  refine va rfl rfl rfl (q_move (v := .slice Ab b.length cb) rfl (by kernel_rfl)) ?_
  obtain ⟨z1, hz2, h⟩ := bnd h
  refine e_call (is := []) rfl rfl (call_run Try.call47 rfl rfl (by kernel_rfl)) rfl (fun w hp => t_vers_Merge ha hac hb hbc hp hz2) ?_
  rintro Γ3 U5 v6 hl4 ⟨A7, c8, row9, rfl, rfl, hr10, hr11, _⟩
  change WR _ _ _ (CC F Γ3 [row9]) _ _ (upd _ 10 (.tuple #[.slice A7 z1.1.length c8, .int .i64 z1.2]))
  refine va rfl rfl rfl (q_move (v := .tuple #[.slice A7 z1.1.length c8, .int .i64 z1.2]) rfl (by kernel_rfl)) ?_
  refine va rfl rfl rfl (q_extract (v := .slice A7 z1.1.length c8) rfl rfl rfl) ?_
  refine va rfl rfl rfl (q_extract (v := .int .i64 z1.2) rfl rfl rfl) ?_
  refine va rfl rfl rfl (q_assign (v := .slice A7 z1.1.length c8) rfl (by kernel_rfl)) ?_
  refine va rfl rfl rfl (q_assign (v := .int .i64 z1.2) rfl (by kernel_rfl)) ?_
  refine WR.nil ?_
  change WC _ _ _ _ _ _
  refine WC.rs ?_
  refine va rfl rfl rfl (q_move (v := .int .i64 z1.2) rfl (by kernel_rfl)) ?_
  refine va rfl rfl rfl (q_eql rfl rfl rfl) ?_
  refine va rfl rfl rfl (q_move (v := .bool (z1.2 == 0)) rfl (by kernel_rfl)) ?_
  refine vg1 rfl rfl rfl rfl rfl (fun hg12 => QV.qo (q_move (v := .slice A7 z1.1.length c8) rfl (by kernel_rfl))) ?_
  refine vg1 rfl rfl rfl rfl rfl (fun hg13 => QV.qo (q_move (v := .slice Aa a.length ca) rfl (by kernel_rfl))) ?_
  obtain ⟨z15, hz16, h⟩ := bnd h
  refine vg1 rfl rfl rfl rfl rfl (fun hg14 => (q_call (call_run Try.call79 rfl rfl (args2 (gu hg14 rfl) (gu hg14 rfl))) (fun w hw => t_vers_Same (Γ := Gh.all w) (hr10.sl hw.sat.le_all (hw.ra 0 rfl)) hr10.capz ((ha.mono hl4).mono hw.sat.le_all) hac (Sat.all w) (gc_of hz16 hg14)))) ?_
  refine vg1 rfl rfl rfl rfl rfl (fun hg17 => QV.qo (q_not rfl (gu hg17 rfl))) ?_
  refine va rfl rfl rfl (q_pick rfl rfl (pk_and' (g := (z1.2 == 0)) (y := (!z15)))) ?_
  refine va rfl rfl rfl (q_assign (v := .bool ((z1.2 == 0) && (!z15))) rfl (by kernel_rfl)) ?_
  refine WR.nil ?_
  change WC _ _ _ _ _ _
  refine WC.ret ?_
  intro w hw
  obtain rfl := Option.some.inj h
  subst hF
  exact ⟨by kernel_rfl, hw.fr⟩
abbrev r_quorum_Read_Behind (gr_ : Nat) (er_ : Nat) (rowr_ : Rowb) (r : List Int) (U : List Rowb) (Γ : Gh) (v : Value) : Prop := ∃ (A0 : Option Addr), ∃ (c0 : Nat), ∃ (row0 : Rowb), v = .slice A0 r.length c0 ∧ U = [rowr_, row0] ∧ Own intT Γ 3 row0 A0 c0 r ∧ True
set_option maxRecDepth 100000 in
set_option maxHeartbeats 400000 in
theorem t_quorum_Read_Behind {Γ : Gh} {w0 : World} {gr_ er_ : Nat} {rowr_ : Rowb} {r_ : Oquorum_asking_api_Ver} (hr_ : Oquorum_asking_api_Ver.ob er_ Γ gr_ rowr_ r_) (hp : Pre [rowr_] Γ w0) {r : List Int} (h : m_quorum_Read_Behind r_ = some r) : Calls Try.prog 27 #[.pointer (some ⟨gr_, 0, none⟩)] w0 (Outc Γ [rowr_] w0 (r_quorum_Read_Behind gr_ er_ rowr_ r)) := by
  refine calls_of (N := 43) (rs := [2]) (args := [.pointer (some ⟨gr_, 0, none⟩)]) Try.func27 rfl Try.ntmps27 Try.results27 rfl ?_
  obtain ⟨F, hF⟩ : ∃ F : Fm, F = ⟨ids [rowr_], w0, Γ⟩ := ⟨_, rfl⟩
  refine WC.here (C := CC F Γ [rowr_]) ?_ (hF ▸ hp.start)
  refine WC.rs ?_
  refine va rfl rfl rfl (q_assign (v := .slice none 0 0) rfl (by kernel_rfl)) ?_
  refine WR.nil ?_
  change WC _ _ _ _ _ _
  refine WC.rs ?_
  refine va rfl rfl rfl (q_move (v := .pointer (some ⟨gr_, 0, none⟩)) rfl (by kernel_rfl)) ?_
  obtain ⟨z1, hz2, h⟩ := bnd h
  refine e_call (is := [0]) rfl rfl (call_run Try.call25 rfl rfl (by kernel_rfl)) rfl (fun w hp => t_quorum_Read_Vers hr_ hp hz2) ?_
  rintro Γ3 U5 v6 hl4 ⟨A7, c8, rfl, rfl, hc10, hr9, _⟩
  change WR _ _ _ (CC F Γ3 [rowr_]) _ _ (upd _ 10 (.slice A7 z1.length c8))
  refine va rfl rfl rfl (q_assign (v := .slice A7 z1.length c8) rfl (by kernel_rfl)) ?_
  refine WR.nil ?_
  change WC _ _ _ _ _ _
  refine WC.rs ?_
  refine va rfl rfl rfl (q_assign (v := .slice none 0 0) rfl (by kernel_rfl)) ?_
  refine WR.nil ?_
  change WC _ _ _ _ _ _
  refine WC.seq ?_
  refine WC.rs ?_
  refine va rfl rfl rfl (q_move (v := .pointer (some ⟨gr_, 0, none⟩)) rfl (by kernel_rfl)) ?_
  refine va rfl rfl rfl (q_nil (A := some ⟨gr_, 0, none⟩) rfl rfl rfl) ?_
  refine va rfl rfl rfl (q_fl 0 fld_98_0 rfl rfl rfl) ?_
  refine va rfl rfl rfl (q_fl 0 fld_94_0 rfl rfl rfl) ?_
  have hq := (hr_.mono hl4)
  obtain ⟨A0_11, c0_11, m2_11, r2_11, hrow_11, ho0_11, ho1_11, ho2_11, ho3_11, -⟩ := hq
  intro w hw; have hw := hw.unfold (i := 0) rfl hrow_11
  refine WR.here (C := CC F Γ3 [[(gr_, .cells #[.slice A0_11 r_.list.length c0_11, .int .i64 r_.need, .map (some m2_11)] er_ (0, 0))], r2_11]) ?_ hw
  clear hw
  refine va rfl rfl rfl (q_ldl (i := 0) (v := .slice A0_11 r_.list.length c0_11) rfl rfl Try.isAgg22 rfl rfl) ?_
  refine va rfl rfl rfl (q_len_slice rfl Try.underlying22 rfl) ?_
  refine va rfl rfl rfl (q_move (v := .int .i64 0) rfl (by kernel_rfl)) ?_
  refine WR.nil ?_
  change WC _ _ _ _ _ _
  refine WC.block ?_
  intro w hw; have hw := hw.fold (is := [0, 0]) rfl hrow_11
  refine WC.here (C := CC F Γ3 [rowr_]) ?_ hw
  clear hw
  refine WC.forI h (fun (i19 : Nat) (out_13 : List Int) σ w => ∃ (A14 : Option Addr), ∃ (c15 : Nat), ∃ (row16 : Rowb), slots σ [(0, .pointer (some ⟨gr_, 0, none⟩)), (3, .slice A7 z1.length c8), (4, .slice A14 out_13.length c15), (15, .slice A0_11 r_.list.length c0_11), (16, .int .i64 ((r_.list.length : Nat) : Int)), (17, .int .i64 ((i19 : Nat) : Int))] ∧ CC F Γ3 [row16, rowr_] w ∧ Own intT Γ3 3 row16 A14 c15 out_13 ∧ True) ?_ ?_
  · skip
    intro w hw
    have hw := hw.pad
    exact ⟨none, 0, [], (sl_ (by kernel_rfl)), hw, (Own.nil intT _ 3), trivial⟩
  rintro f18 i19 out_13 σ w hi20 hlt21 hge22 ⟨A14, c15, row16, hsl, hw, ho17, -⟩
  refine Wpt.slots hsl ?_
  refine WC.here (C := CC F Γ3 [row16, rowr_]) ?_ hw
  clear hw hsl
  refine WC.rs ?_
  refine va rfl rfl rfl (q_lss rfl rfl rfl) ?_
  refine WR.nil ?_
  change WC _ _ _ _ _ _
  refine WC.seq ?_
  refine WC.cond (b := (decide (((i19 : Nat) : Int) < ((r_.list.length : Nat) : Int)))) (by kernel_rfl) (fun hb23 => ?_) (fun hb23 => ?_)
  · skip
    have hl24 := ilt hb23
    have h := hlt21 hl24
    refine WC.skip ?_
    change WC _ _ _ _ _ _
    refine WC.cut (fun σ w => ∃ (out_25 : List Int), ∃ (A26 : Option Addr), ∃ (c27 : Nat), ∃ (row28 : Rowb), m_quorum_Read_Behind_j5 f18 out_25 = some r ∧ slots σ [(0, .pointer (some ⟨gr_, 0, none⟩)), (3, .slice A7 z1.length c8), (4, .slice A26 out_25.length c27), (15, .slice A0_11 r_.list.length c0_11), (16, .int .i64 ((r_.list.length : Nat) : Int)), (17, .int .i64 ((i19 : Nat) : Int))] ∧ CC F Γ3 [row28, rowr_] w ∧ Own intT Γ3 3 row28 A26 c27 out_25 ∧ True) ?_ ?_
    · skip
      refine WC.block ?_
      refine WC.rs ?_
      refine va rfl rfl rfl (q_ixn (i := i19) Try.underlying22 Try.sizeOf3 rfl rfl rfl hl24 (ho1_11.some_ hl24)) ?_
      refine va rfl rfl rfl (q_ld (c := 0) (v := .int .i64 (gt r_.list i19)) (ho1_11.intT_at hl24).2 rfl Try.isAgg3 rfl rfl) ?_
      refine va rfl rfl rfl (q_assign (v := .int .i64 (gt r_.list i19)) rfl (by kernel_rfl)) ?_
      refine WR.nil ?_
      change WC _ _ _ _ _ _
      refine WC.rs ?_
      refine va rfl rfl rfl (q_move (v := .pointer (some ⟨gr_, 0, none⟩)) rfl (by kernel_rfl)) ?_
      refine va rfl rfl rfl (q_nil (A := some ⟨gr_, 0, none⟩) rfl rfl rfl) ?_
      refine va rfl rfl rfl (q_fl 0 fld_98_0 rfl rfl rfl) ?_
      refine va rfl rfl rfl (q_fl 2 fld_94_2 rfl rfl rfl) ?_
      have hq := (hr_.mono hl4)
      obtain ⟨A0_30, c0_30, m2_30, r2_30, hrow_30, ho0_30, ho1_30, ho2_30, ho3_30, -⟩ := hq
      intro w hw; have hw := hw.unfold (i := 1) rfl hrow_30
      refine WR.here (C := CC F Γ3 [[(gr_, .cells #[.slice A0_30 r_.list.length c0_30, .int .i64 r_.need, .map (some m2_30)] er_ (0, 0))], r2_30, row16]) ?_ hw
      clear hw
      refine va rfl rfl rfl (q_ldl (i := 0) (v := .map (some m2_30)) rfl rfl Try.isAgg92 rfl rfl) ?_
      refine va rfl rfl rfl (q_move (v := .int .i64 (gt r_.list i19)) rfl (by kernel_rfl)) ?_
      obtain ⟨v31, ⟨A34, c35, hv32, hc36, hs37⟩, hat33⟩ := MapO.look ho3_30 (gt r_.list i19) (z := .slice none 0 0) (zx := []) ⟨none, 0, rfl, Nat.zero_le _, Sl.nil _ _ _⟩
      obtain rfl : v31 = _ := List.cons.inj hv32 |>.1
      refine va rfl rfl rfl (q_lookup2 (v := .slice A34 ((mget (gt r_.list i19) r_.got).getD []).length c35) hat33 rfl Try.underlying92 Try.zeroValue40 rfl rfl (i := 1) rfl) ?_
      refine va rfl rfl rfl (q_move (v := .tuple #[.slice A34 ((mget (gt r_.list i19) r_.got).getD []).length c35, .bool ((mget (gt r_.list i19) r_.got).isSome)]) rfl (by kernel_rfl)) ?_
      refine va rfl rfl rfl (q_extract (v := .slice A34 ((mget (gt r_.list i19) r_.got).getD []).length c35) rfl rfl rfl) ?_
      refine va rfl rfl rfl (q_extract (v := .bool ((mget (gt r_.list i19) r_.got).isSome)) rfl rfl rfl) ?_
      refine va rfl rfl rfl (q_assign (v := .slice A34 ((mget (gt r_.list i19) r_.got).getD []).length c35) rfl (by kernel_rfl)) ?_
      refine va rfl rfl rfl (q_assign (v := .bool ((mget (gt r_.list i19) r_.got).isSome)) rfl (by kernel_rfl)) ?_
      refine WR.nil ?_
      change WC _ _ _ _ _ _
      refine WC.rs ?_
      refine va rfl rfl rfl (q_move (v := .bool ((mget (gt r_.list i19) r_.got).isSome)) rfl (by kernel_rfl)) ?_
      refine va rfl rfl rfl (q_move (v := .bool ((mget (gt r_.list i19) r_.got).isSome)) rfl (by kernel_rfl)) ?_
      refine vg1 rfl rfl rfl rfl rfl (fun hg38 => QV.qo (q_move (v := .slice A34 ((mget (gt r_.list i19) r_.got).getD []).length c35) rfl (by kernel_rfl))) ?_
      refine vg1 rfl rfl rfl rfl rfl (fun hg39 => QV.qo (q_move (v := .slice A7 z1.length c8) rfl (by kernel_rfl))) ?_
      obtain ⟨z41, hz42, h⟩ := bnd h
      refine vg1 rfl rfl rfl rfl rfl (fun hg40 => (q_call (call_run Try.call53 rfl rfl (args2 (gu hg40 rfl) (gu hg40 rfl))) (fun w hw => t_vers_Lacks (Γ := Gh.all w) (hs37.mono hw.sat.le_all) hc36 (hr9.mono hw.sat.le_all) hc10 (Sat.all w) (gc_of hz42 hg40)))) ?_
      refine va rfl rfl rfl (q_pick rfl rfl (pk_and' (g := ((mget (gt r_.list i19) r_.got).isSome)) (y := z41))) ?_
      refine WR.nil ?_
      change WC _ _ _ _ _ _
      refine WC.cif h (by kernel_rfl) (fun hb43 h => ?_) (fun hb43 h => ?_)
      · skip
        refine WC.region ?_
        refine va rfl rfl rfl (q_move (v := .slice A14 out_13.length c15) rfl (by kernel_rfl)) ?_
        refine va rfl rfl rfl (q_move (v := .int .i64 (gt r_.list i19)) rfl (by kernel_rfl)) ?_
        refine e_buildSlice (cs := #[.int .i64 (gt r_.list i19)]) (e := 3) rfl rfl rfl rfl (fun w => by kernel_rfl) ?_
        intro g44
        obtain ⟨hk45, h⟩ := chk_some h
        refine e_append (T := intT) (xs := out_13) (ys := [(gt r_.list i19)]) elem_22 (i := 3) rfl rfl rfl rfl rfl rfl rfl ho17 (of_decide_eq_true hk45) (fun w hw => src_one (T := intT) (y := (gt r_.list i19)) (i := 0) rfl (by exact ⟨rfl, (ho1_11.intT_at hl24).1⟩) hw) ?_
        intro row46 A47 c48 ho49
        refine va rfl rfl rfl (q_assign (v := .slice A47 (out_13 ++ [(gt r_.list i19)]).length c48) rfl (by kernel_rfl)) ?_
        refine WR.nil ?_
        intro w hw
        have hw := hw.fold (is := [1, 1]) rfl hrow_30
        exact ⟨(out_13 ++ [(gt r_.list i19)]), A47, c48, row46, h, (sl_ (by kernel_rfl)), (hw.only (is := [2, 0]) rfl), ho49, trivial⟩
      · skip
        refine WC.skip ?_
        intro w hw
        have hw := hw.fold (is := [0, 0]) rfl hrow_30
        exact ⟨out_13, A14, c15, row16, h, (sl_ (by kernel_rfl)), (hw.only (is := [1, 0]) rfl), ho17, trivial⟩
    · skip
      rintro σ w ⟨out_25, A26, c27, row28, h, hsl, hw, ho29, -⟩
      refine Wpt.slots hsl ?_
      refine WC.here (C := CC F Γ3 [row28, rowr_]) ?_ hw
      clear hw hsl
      refine WC.region ?_
      refine va rfl rfl rfl (q_add_r (r := ((i19 + 1 : Nat) : Int)) rfl rfl rfl (ctr_len hl24 ho1_11.le)) ?_
      refine va rfl rfl rfl (q_move (v := .int .i64 ((i19 + 1 : Nat) : Int)) rfl (by kernel_rfl)) ?_
      refine WR.nil ?_
      intro w hw
      exact ⟨hl24, out_25, h, A26, c27, row28, (sl_ (by kernel_rfl)), hw, ho29, trivial⟩
  · skip
    have h := hge22 (ige hb23)
    refine WC.exit ?_
    change WC _ _ _ _ _ _
    refine WC.rs ?_
    refine va rfl rfl rfl (q_move (v := .slice A14 out_13.length c15) rfl (by kernel_rfl)) ?_
    refine va rfl rfl rfl (q_assign (v := .slice A14 out_13.length c15) rfl (by kernel_rfl)) ?_
    refine WR.nil ?_
    change WC _ _ _ _ _ _
    refine WC.ret ?_
    intro w hw
    obtain rfl := Option.some.inj h
    subst hF
    exact end_e (is := [1, 0]) (by kernel_rfl) hw rfl ⟨A14, c15, row16, rfl, rfl, ho17, trivial⟩
set_option maxRecDepth 100000 in
set_option maxHeartbeats 400000 in
theorem t_quorum_asking_api_Ver_Done {Γ : Gh} {w0 : World} {ga ea : Nat} {rowa : Rowb} {a : Oquorum_asking_api_Ver} (ha : Oquorum_asking_api_Ver.ob ea Γ ga rowa a) (har : ∀ p ∈ rowa, Γ p.1 = some p.2) (hs : Sat Γ w0) {r : Bool} (h : m_quorum_asking_api_Ver_Done a = some r) : Calls Try.prog 50 #[.pointer (some ⟨ga, 0, none⟩)] w0 (fun e w' => e = .returned (.bool r) ∧ Fr no w0 w') := by
  refine calls_of (N := 13) (rs := [2]) (args := [.pointer (some ⟨ga, 0, none⟩)]) Try.func50 rfl Try.ntmps50 Try.results50 rfl ?_
  obtain ⟨F, hF⟩ : ∃ F : Fm, F = ⟨no, w0, Γ⟩ := ⟨_, rfl⟩
  refine WC.here (C := CC F Γ []) ?_ (hF ▸ Cur.start0 hs)
  refine WC.rs ?_
  refine va rfl rfl rfl (q_assign (v := .bool false) rfl (by kernel_rfl)) ?_
  refine WR.nil ?_
  change WC _ _ _ _ _ _
  refine WC.seq ?_
  refine WC.dr (by kernel_rfl) (by kernel_rfl) (fun w hw => hw.drawn _) ?_
  refine wa rfl rfl rfl (q_move (v := .pointer (some ⟨ga, 0, none⟩)) rfl (by kernel_rfl)) ?_
  refine wa rfl rfl rfl (q_nil (A := some ⟨ga, 0, none⟩) rfl rfl rfl) ?_
  refine wa rfl rfl rfl (q_fl 2 fld_94_2 rfl rfl rfl) ?_
  have hq := ha
  obtain ⟨A0_1, c0_1, m2_1, r2_1, hrow_1, ho0_1, ho1_1, ho2_1, ho3_1, -⟩ := hq
  have hg_2 : ∀ u ∈ ([[(ga, .cells #[.slice A0_1 a.list.length c0_1, .int .i64 a.need, .map (some m2_1)] ea (0, 0))], r2_1] : List Rowb), ∀ p ∈ u, Γ p.1 = some p.2 := fun u hu p hp => (fun p hp => (har p hp)) p (hrow_1 ▸ List.mem_flatten.2 ⟨u, hu, hp⟩)
  have hgc3 := hg_2 _ (List.mem_cons_self ..) (ga, _) (List.mem_singleton.2 rfl)
  have hgs4 := hg_2 r2_1 (by simp)
  refine wa rfl rfl rfl (q_ldg (v := .map (some m2_1)) hgc3 rfl Try.isAgg92 rfl rfl) ?_
  refine wa rfl rfl rfl (q_len_mapg (fun p hp => (hgs4 p hp)) ho3_1 rfl Try.underlying92 rfl) ?_
  refine wa rfl rfl rfl (q_move (v := .pointer (some ⟨ga, 0, none⟩)) rfl (by kernel_rfl)) ?_
  refine wa rfl rfl rfl (q_nil (A := some ⟨ga, 0, none⟩) rfl rfl rfl) ?_
  refine wa rfl rfl rfl (q_fl 1 fld_94_1 rfl rfl rfl) ?_
  refine wa rfl rfl rfl (q_ldg (v := .int .i64 a.need) hgc3 rfl Try.isAgg3 rfl rfl) ?_
  refine wa rfl rfl rfl (q_geq rfl rfl rfl) ?_
  refine wa rfl rfl rfl (q_assign (v := .bool (decide (a.need ≤ ((a.got.length : Nat) : Int)))) rfl (by kernel_rfl)) ?_
  refine WQ.nil ?_
  change WC _ _ _ _ _ _
  refine WC.ret ?_
  intro w hw
  obtain rfl := Option.some.inj h
  subst hF
  exact ⟨by kernel_rfl, hw.fr⟩
set_option maxRecDepth 100000 in
set_option maxHeartbeats 400000 in
theorem t_quorum_Read_Done {Γ : Gh} {w0 : World} {gr_ er_ : Nat} {rowr_ : Rowb} {r_ : Oquorum_asking_api_Ver} (hr_ : Oquorum_asking_api_Ver.ob er_ Γ gr_ rowr_ r_) (hr_r : ∀ p ∈ rowr_, Γ p.1 = some p.2) (hs : Sat Γ w0) {r : Bool} (h : m_quorum_Read_Done r_ = some r) : Calls Try.prog 22 #[.pointer (some ⟨gr_, 0, none⟩)] w0 (fun e w' => e = .returned (.bool r) ∧ Fr no w0 w') := by
  refine calls_of (N := 7) (rs := [2]) (args := [.pointer (some ⟨gr_, 0, none⟩)]) Try.func22 rfl Try.ntmps22 Try.results22 rfl ?_
  obtain ⟨F, hF⟩ : ∃ F : Fm, F = ⟨no, w0, Γ⟩ := ⟨_, rfl⟩
  refine WC.here (C := CC F Γ []) ?_ (hF ▸ Cur.start0 hs)
  refine WC.rs ?_
  refine va rfl rfl rfl (q_assign (v := .bool false) rfl (by kernel_rfl)) ?_
  refine WR.nil ?_
  change WC _ _ _ _ _ _
  refine WC.rs ?_
  refine va rfl rfl rfl (q_move (v := .pointer (some ⟨gr_, 0, none⟩)) rfl (by kernel_rfl)) ?_
  refine va rfl rfl rfl (q_nil (A := some ⟨gr_, 0, none⟩) rfl rfl rfl) ?_
  refine va rfl rfl rfl (q_fl 0 fld_98_0 rfl rfl rfl) ?_
  obtain ⟨z1, hz2, h⟩ := bnd h
  refine vc rfl rfl rfl (q_call (call_run Try.call50 rfl rfl (by kernel_rfl)) (fun w hw => t_quorum_asking_api_Ver_Done (Γ := Gh.all w) (hr_.mono hw.sat.le_all) (fun p hp => hw.sat _ _ (hr_r p hp)) (Sat.all w) hz2)) ?_
  refine va rfl rfl rfl (q_assign (v := .bool z1) rfl (by kernel_rfl)) ?_
  refine WR.nil ?_
  change WC _ _ _ _ _ _
  refine WC.ret ?_
  intro w hw
  obtain rfl := Option.some.inj h
  subst hF
  exact ⟨by kernel_rfl, hw.fr⟩
set_option maxRecDepth 100000 in
set_option maxHeartbeats 400000 in
theorem t_firthref03_Same {Γ : Gh} {w0 : World} {Aa : Option Addr} {ca : Nat} {a : List Span} (ha : Sl spanT Γ Aa a) (hac : a.length ≤ ca) {Ab : Option Addr} {cb : Nat} {b : List Span} (hb : Sl spanT Γ Ab b) (hbc : b.length ≤ cb) (hs : Sat Γ w0) {r : Bool} (h : m_firthref03_Same a b = some r) : Calls Try.prog 78 #[.slice Aa a.length ca, .slice Ab b.length cb] w0 (fun e w' => e = .returned (.bool r) ∧ Fr no w0 w') := by
  refine calls_of (N := 26) (rs := [4]) (args := [.slice Aa a.length ca, .slice Ab b.length cb]) Try.func78 rfl Try.ntmps78 Try.results78 rfl ?_
  obtain ⟨F, hF⟩ : ∃ F : Fm, F = ⟨no, w0, Γ⟩ := ⟨_, rfl⟩
  refine WC.here (C := CC F Γ []) ?_ (hF ▸ Cur.start0 hs)
  refine WC.rs ?_
  refine va rfl rfl rfl (q_assign (v := .bool false) rfl (by kernel_rfl)) ?_
  refine WR.nil ?_
  change WC _ _ _ _ _ _
  refine WC.seq ?_
  refine WC.rs ?_
  refine va rfl rfl rfl (q_move (v := .slice Aa a.length ca) rfl (by kernel_rfl)) ?_
  refine va rfl rfl rfl (q_len_slice rfl Try.underlying56 rfl) ?_
  refine va rfl rfl rfl (q_move (v := .slice Ab b.length cb) rfl (by kernel_rfl)) ?_
  refine va rfl rfl rfl (q_len_slice rfl Try.underlying56 rfl) ?_
  refine va rfl rfl rfl (q_neq rfl rfl rfl) ?_
  refine WR.nil ?_
  change WC _ _ _ _ _ _
  refine WC.cif h (by kernel_rfl) (fun hb1 h => ?_) (fun hb1 h => ?_)
  · skip
    refine WC.rs ?_
    refine va rfl rfl rfl (q_assign (v := .bool false) rfl (by kernel_rfl)) ?_
    refine WR.nil ?_
    change WC _ _ _ _ _ _
    refine WC.ret ?_
    intro w hw
    obtain rfl := Option.some.inj h
    subst hF
    exact ⟨by kernel_rfl, hw.fr⟩
  · skip
    refine WC.skip ?_
    change WC _ _ _ _ _ _
    refine WC.seq ?_
    refine WC.rs ?_
    refine va rfl rfl rfl (q_assign (v := .int .i64 0) rfl (by kernel_rfl)) ?_
    refine WR.nil ?_
    change WC _ _ _ _ _ _
    refine WC.block ?_
    refine WC.forI h (fun (i3 : Nat) (s : Unit) σ w => match s with | () => slots σ [(0, .slice Aa a.length ca), (1, .slice Ab b.length cb), (5, .int .i64 ((i3 : Nat) : Int))] ∧ CC F Γ [] w ∧ True) ?_ ?_
    · skip
      intro w hw
      exact ⟨(sl_ (by kernel_rfl)), hw, trivial⟩
    rintro f2 i3 ⟨⟩ σ w hi4 hlt5 hge6 ⟨hsl, hw, -⟩
    refine Wpt.slots hsl ?_
    refine WC.here (C := CC F Γ []) ?_ hw
    clear hw hsl
    refine WC.seq ?_
    refine WC.rs ?_
    refine va rfl rfl rfl (q_move (v := .int .i64 ((i3 : Nat) : Int)) rfl (by kernel_rfl)) ?_
    refine va rfl rfl rfl (q_move (v := .slice Aa a.length ca) rfl (by kernel_rfl)) ?_
    refine va rfl rfl rfl (q_len_slice rfl Try.underlying56 rfl) ?_
    refine va rfl rfl rfl (q_lss rfl rfl rfl) ?_
    refine WR.nil ?_
    change WC _ _ _ _ _ _
    refine WC.cond (b := (decide (((i3 : Nat) : Int) < ((a.length : Nat) : Int)))) (by kernel_rfl) (fun hb7 => ?_) (fun hb7 => ?_)
    · skip
      have hl8 := ilt hb7
      have h := hlt5 hl8
      refine WC.skip ?_
      change WC _ _ _ _ _ _
      refine WC.seq ?_
      refine WC.block ?_
      refine WC.seq ?_
      refine WC.dr (by kernel_rfl) (by kernel_rfl) (fun w hw => hw.drawn _) ?_
      refine wa rfl rfl rfl (q_move (v := .slice Aa a.length ca) rfl (by kernel_rfl)) ?_
      refine wa rfl rfl rfl (q_move (v := .int .i64 ((i3 : Nat) : Int)) rfl (by kernel_rfl)) ?_
      refine wa rfl rfl rfl (q_ixn (i := i3) Try.underlying56 Try.sizeOf71 rfl rfl rfl hl8 (ha.some_ hl8)) ?_
      refine wa rfl rfl rfl (q_lda (c := 0) (vs := [.int .i64 (gt a i3).s, .int .i64 (gt a i3).f, .int .i64 (gt a i3).t]) (ha.spanT_at hl8).2 rfl Try.isAgg71 Try.sizeOf71 rfl rfl rfl) ?_
      refine wa rfl rfl rfl (q_move (v := .slice Ab b.length cb) rfl (by kernel_rfl)) ?_
      refine wa rfl rfl rfl (q_move (v := .int .i64 ((i3 : Nat) : Int)) rfl (by kernel_rfl)) ?_
      obtain ⟨hk9, h⟩ := chk_some h
      refine wa rfl rfl rfl (q_ixn (i := i3) Try.underlying56 Try.sizeOf71 rfl rfl rfl (of_decide_eq_true hk9) (hb.some_ (of_decide_eq_true hk9))) ?_
      refine wa rfl rfl rfl (q_lda (c := 0) (vs := [.int .i64 (gt b i3).s, .int .i64 (gt b i3).f, .int .i64 (gt b i3).t]) (hb.spanT_at (of_decide_eq_true hk9)).2 rfl Try.isAgg71 Try.sizeOf71 rfl rfl rfl) ?_
      refine wa rfl rfl rfl (q_neq_Span (a := (gt a i3)) (b := (gt b i3)) rfl rfl rfl) ?_
      refine WQ.nil ?_
      change WC _ _ _ _ _ _
      refine WC.cif h (by kernel_rfl) (fun hb10 h => ?_) (fun hb10 h => ?_)
      · skip
        refine WC.rs ?_
        refine va rfl rfl rfl (q_assign (v := .bool false) rfl (by kernel_rfl)) ?_
        refine WR.nil ?_
        change WC _ _ _ _ _ _
        refine WC.ret ?_
        intro w hw
        obtain rfl := Option.some.inj h
        subst hF
        exact ⟨by kernel_rfl, hw.fr⟩
      · skip
        refine WC.skip ?_
        change WC _ _ _ _ _ _
        refine WC.region ?_
        refine va rfl rfl rfl (q_move (v := .int .i64 ((i3 : Nat) : Int)) rfl (by kernel_rfl)) ?_
        refine va rfl rfl rfl (q_add_r (r := ((i3 + 1 : Nat) : Int)) rfl rfl rfl (ctr_len hl8 ha.le)) ?_
        refine va rfl rfl rfl (q_assign (v := .int .i64 ((i3 + 1 : Nat) : Int)) rfl (by kernel_rfl)) ?_
        refine WR.nil ?_
        intro w hw
        exact ⟨hl8, (), h, (sl_ (by kernel_rfl)), hw, trivial⟩
    · skip
      have h := hge6 (ige hb7)
      refine WC.exit ?_
      change WC _ _ _ _ _ _
      refine WC.rs ?_
      refine va rfl rfl rfl (q_assign (v := .bool true) rfl (by kernel_rfl)) ?_
      refine WR.nil ?_
      change WC _ _ _ _ _ _
      refine WC.ret ?_
      intro w hw
      obtain rfl := Option.some.inj h
      subst hF
      exact ⟨by kernel_rfl, hw.fr⟩
end Fw
end Go.Proofs.Ytlgahohnbkkoiaa
