/- Walks through the functions that the law reaches (printed by a program). No condition. -/
import Derived.Test.YtldpanjodokefaaM
import Derived.Test.YtldpanjodokefaaS
namespace Go.Proofs.Ytldpanjodokefaa
namespace Fw
set_option linter.unusedVariables false
set_option linter.unusedSimpArgs false
set_option linter.unusedSectionVars false
open Go.RowKit
def Ojudge_trial.ob (e : TypeId) (Γ : Gh) (g : Nat) (row : Rowb) (x : Ojudge_trial) : Prop := ∃ (A0 : Option Addr) (c0 : Nat) (m1 : Nat) (r1 : Rowb) (m2 : Nat) (r2 : Rowb), row = ([[(g, .cells #[.slice A0 x.list.length c0, .map (some m1), .map (some m2)] e (0, 0))], r1, r2] : List Rowb).flatten ∧ x.list.length ≤ c0 ∧ Sl djudge_ActT Γ A0 x.list ∧ MapO kk27 intT.v Γ r1 m1 x.first ∧ MapM kk27 kk27 trueV Γ r2 m2 x.behind ∧ True
theorem Ojudge_trial.ob.mono {e : TypeId} {Γ Δ : Gh} {g : Nat} {row : Rowb} {x : Ojudge_trial} (h : Ojudge_trial.ob e Γ g row x) (hs : Γ.le Δ) : Ojudge_trial.ob e Δ g row x := by
  obtain ⟨A0, c0, m1, r1, m2, r2, hr, h0, h1, h2, h3, _⟩ := h
  exact ⟨A0, c0, m1, r1, m2, r2, hr, h0, h1.mono hs, h2.mono hs, h3.mono hs, trivial⟩
set_option maxRecDepth 100000 in
set_option maxHeartbeats 400000 in
theorem t_firthlaw23_dot {Γ : Gh} {w0 : World} (s_ : Int) (hs_ : I64 s_) (n : Int) (hn : I64 n) (hs : Sat Γ w0) {r : Dot} (h : m_firthlaw23_dot s_ n = some r) : Calls Try.prog 8 #[.int .i64 s_, .int .i64 n] w0 (fun e w' => e = .returned (.agg #[.int .i64 r.s, .int .i64 r.n]) ∧ Fr no w0 w') := by
  refine calls_of_r (N := 8) (rs := [.cell 4 27]) (args := [.int .i64 s_, .int .i64 n]) Try.func8 rfl Try.ntmps8 Try.results8 rfl ?_
  obtain ⟨F, hF⟩ : ∃ F : Fm, F = ⟨no, w0, Γ⟩ := ⟨_, rfl⟩
  refine WC.here (C := CC F Γ []) ?_ (hF ▸ Cur.start0 hs)
  refine WC.rs ?_
  refine e_alloc Try.zeroValue27 rfl rfl rfl rfl ?_
  intro g1
  refine WR.nil ?_
  change WC _ _ _ _ _ _
  refine WC.rs ?_
  refine va rfl rfl rfl (q_move (v := .int .i64 s_) rfl (by kernel_rfl)) ?_
  refine va rfl rfl rfl (q_move (v := .int .i64 n) rfl (by kernel_rfl)) ?_
  refine va rfl rfl rfl (q_build' (v := .agg #[.int .i64 s_, .int .i64 n]) rfl (bargs2 rfl rfl) (fun w => by kernel_rfl)) ?_
  refine e_st (i := 0) (v := .agg #[.int .i64 s_, .int .i64 n]) (new := #[.int .i64 s_, .int .i64 n]) rfl Try.sizeOf27 rfl rfl rfl rfl (by kernel_rfl) rfl rfl rfl rfl ?_
  refine WR.nil ?_
  change WC _ _ _ _ _ _
  refine WC.ret ?_
  intro w hw
  obtain rfl := Option.some.inj h
  subst hF
  exact ⟨[.agg #[.int .i64 s_, .int .i64 n]], (rr_agg (i := 0) (us := [.int .i64 s_, .int .i64 n]) hw rfl Try.isAgg27 Try.sizeOf27 (by kernel_rfl) rfl rr_nil), by kernel_rfl, hw.fr⟩
abbrev r_maps_Copy_judge_dots_judge_dots_api_Dot_bool (mdst : Nat) (r : List ((Dot) × Unit)) (U : List Rowb) (Γ : Gh) (v : Value) : Prop := ∃ (rowdst' : Rowb), v = .tuple #[] ∧ U = [rowdst'] ∧ MapO kk27 trueV Γ rowdst' mdst r ∧ True
set_option maxRecDepth 100000 in
set_option maxHeartbeats 400000 in
theorem t_maps_Copy_judge_dots_judge_dots_api_Dot_bool {Γ : Gh} {w0 : World} {B : Gh} {mdst : Nat} {rowdst : Rowb} {dst : List ((Dot) × Unit)} (hdst : MapO kk27 trueV Γ rowdst mdst dst) {vsrc : Value} {src : List ((Dot) × Unit)} (hsrc : ZM kk27 trueV B vsrc src) (hp : Pre [rowdst] Γ w0) (hpB : Pre [rowdst] B w0) {r : List ((Dot) × Unit)} (h : m_maps_Copy_judge_dots_judge_dots_api_Dot_bool dst src = some r) : Calls Try.prog 42 #[.map (some mdst), vsrc] w0 (Outc Γ [rowdst] w0 (r_maps_Copy_judge_dots_judge_dots_api_Dot_bool mdst r)) := by
  refine calls_of (N := 16) (rs := []) (args := [.map (some mdst), vsrc]) Try.func42 rfl Try.ntmps42 Try.results42 rfl ?_
  obtain ⟨F, hF⟩ : ∃ F : Fm, F = ⟨ids [rowdst], w0, Γ⟩ := ⟨_, rfl⟩
  refine WC.here (C := CC F Γ [rowdst]) ?_ (hF ▸ hp.start)
  have hB : Lent F B := hF ▸ Lent.start hpB
  refine WC.rs ?_
  refine va rfl rfl rfl (q_move (v := vsrc) rfl (by kernel_rfl)) ?_
  refine e_rangeZ hsrc (fun w hw => hB.sat hw) rfl rfl rfl Try.underlying52 rfl ?_
  intro g1 row2 hi3
  change WR _ _ _ (CC F Γ [row2, rowdst]) _ _ (upd _ 7 (.pointer (some ⟨g1, 0, none⟩)))
  refine WR.nil ?_
  change WC _ _ _ _ _ _
  refine WC.block ?_
  refine WC.anyX h (fun (l4 : List ((Dot) × Unit)) (m7 : List ((Dot) × Unit)) σ w => ∃ (row5 : Rowb), ∃ (row8 : Rowb), slots σ [(0, .map (some mdst)), (7, .pointer (some ⟨g1, 0, none⟩))] ∧ CC F Γ [row5, row8] w ∧ ItZ kk27 trueV B row5 g1 vsrc src l4 ∧ MapO kk27 trueV Γ row8 mdst m7 ∧ True) ?_ ?_
  · skip
    intro w hw
    exact ⟨row2, rowdst, (sl_ (by kernel_rfl)), hw, hi3, hdst, trivial⟩
  rintro G15 l4 m7 σ w hstep10 hK11 ⟨row5, row8, hsl, hw, hi6, ho9, -⟩
  refine Wpt.slots hsl ?_
  refine WC.here (C := CC F Γ [row5, row8]) ?_ hw
  clear hw hsl
  refine WC.rs ?_
  refine e_nextZ (i := 0) rfl hsrc.ks hi6 (fun w hw => hB.sat hw) rfl rfl rfl rfl (fun hl16 => ?_) (fun en17 l18 v19 row20 hp21 hok22 hv23 hit24 he25 => ?_)
  · skip
    have h := hK11 hl16
    change WR _ _ _ (CC F Γ [row5, row8]) _ _ (upd _ 8 (.tuple #[.bool false]))
    refine va rfl rfl rfl (q_extract (v := .bool false) rfl rfl rfl) ?_
    refine WR.nil ?_
    change WC _ _ _ _ _ _
    refine WC.seq ?_
    refine WC.cfk (b := false) (by kernel_rfl) rfl ?_
    refine WC.exit ?_
    intro w hw
    obtain rfl := Option.some.inj h
    subst hF
    exact end_e (is := [1]) (by kernel_rfl) hw rfl ⟨row8, rfl, rfl, ho9, trivial⟩
  · skip
    obtain ⟨hlen12, o26, h, hgo14⟩ := hstep10 en17 l18 hp21
    obtain rfl : v19 = .bool true := hv23
    change WR _ _ _ (CC F Γ [row20, row8]) _ _ (upd _ 8 (.tuple #[.bool true, .agg #[.int .i64 en17.1.s, .int .i64 en17.1.n], .bool true]))
    refine va rfl rfl rfl (q_extract (v := .bool true) rfl rfl rfl) ?_
    refine WR.nil ?_
    change WC _ _ _ _ _ _
    refine WC.seq ?_
    refine WC.ctk (b := true) (by kernel_rfl) rfl ?_
    refine WC.skip ?_
    change WC _ _ _ _ _ _
    refine WC.block ?_
    refine WC.rs ?_
    refine va rfl rfl rfl (q_entryZ (kv := .agg #[.int .i64 en17.1.s, .int .i64 en17.1.n]) (v := .bool true) (i := 0) rfl he25 (fun w hw => hB.sat hw) rfl rfl) ?_
    refine va rfl rfl rfl (q_extract (v := .agg #[.int .i64 en17.1.s, .int .i64 en17.1.n]) rfl rfl rfl) ?_
    refine va rfl rfl rfl (q_extract (v := .bool true) rfl rfl rfl) ?_
    refine e_alloc Try.zeroValue27 rfl rfl rfl rfl ?_
    intro g27
    refine e_st (i := 0) (v := .agg #[.int .i64 en17.1.s, .int .i64 en17.1.n]) (new := #[.int .i64 en17.1.s, .int .i64 en17.1.n]) rfl Try.sizeOf27 rfl rfl rfl rfl (by kernel_rfl) rfl rfl rfl rfl ?_
    refine va rfl rfl rfl (q_assign (v := .bool true) rfl (by kernel_rfl)) ?_
    refine WR.nil ?_
    change WC _ _ _ _ _ _
    refine WC.region ?_
    refine va rfl rfl rfl (q_move (v := .map (some mdst)) rfl (by kernel_rfl)) ?_
    refine va rfl rfl rfl (q_ldla (i := 0) (vs := [.int .i64 en17.1.s, .int .i64 en17.1.n]) rfl rfl Try.isAgg27 Try.sizeOf27 rfl rfl) ?_
    refine va rfl rfl rfl (q_move (v := .bool true) rfl (by kernel_rfl)) ?_
    refine e_mapUpdate (i := 2) (x := en17.1) (v := .bool true) (a := ()) rfl rfl rfl Try.underlying52 rfl rfl (by kernel_rfl) rfl ho9 (by exact rfl) ⟨(hok22.1), (hok22.2)⟩ ?_
    intro row28 hm29
    have hm29 := hm29.perm (sput_perm kl27 _ _)
    refine WR.nil ?_
    intro w hw
    obtain rfl := Option.some.inj h
    exact ⟨l18, _, hlen12, hgo14, row20, row28, (sl_ (by kernel_rfl)), (hw.only (is := [1, 1]) rfl), hit24, hm29, trivial⟩
abbrev r_judge_dots_join (md : Nat) (r : (List ((Dot) × Unit)) × Bool) (U : List Rowb) (Γ : Gh) (v : Value) : Prop := ∃ (rowd' : Rowb), v = .bool r.2 ∧ U = [rowd'] ∧ MapO kk27 trueV Γ rowd' md r.1 ∧ True
set_option maxRecDepth 100000 in
set_option maxHeartbeats 400000 in
theorem t_judge_dots_join {Γ : Gh} {w0 : World} {B : Gh} {md : Nat} {rowd : Rowb} {d : List ((Dot) × Unit)} (hd : MapO kk27 trueV Γ rowd md d) {vx_ : Value} {x_ : List ((Dot) × Unit)} (hx_ : ZM kk27 trueV B vx_ x_) (hp : Pre [rowd] Γ w0) (hpB : Pre [rowd] B w0) {r : (List ((Dot) × Unit)) × Bool} (h : m_judge_dots_join d x_ = some r) : Calls Try.prog 27 #[.map (some md), vx_] w0 (Outc Γ [rowd] w0 (r_judge_dots_join md r)) := by
  refine calls_of (N := 15) (rs := [4]) (args := [.map (some md), vx_]) Try.func27 rfl Try.ntmps27 Try.results27 rfl ?_
  obtain ⟨F, hF⟩ : ∃ F : Fm, F = ⟨ids [rowd], w0, Γ⟩ := ⟨_, rfl⟩
  refine WC.here (C := CC F Γ [rowd]) ?_ (hF ▸ hp.start)
  have hB : Lent F B := hF ▸ Lent.start hpB
  refine WC.rs ?_
  refine va rfl rfl rfl (q_assign (v := .bool false) rfl (by kernel_rfl)) ?_
  refine WR.nil ?_
  change WC _ _ _ _ _ _
  refine WC.rs ?_
  refine va rfl rfl rfl (q_move (v := .map (some md)) rfl (by kernel_rfl)) ?_
  refine va rfl rfl rfl (q_len_map (i := 0) hd rfl Try.underlying52 rfl rfl) ?_
  refine va rfl rfl rfl (q_assign (v := .int .i64 ((d.length : Nat) : Int)) rfl (by kernel_rfl)) ?_
  refine WR.nil ?_
  change WC _ _ _ _ _ _
  refine WC.rs ?_
  refine va rfl rfl rfl (q_move (v := .map (some md)) rfl (by kernel_rfl)) ?_
  refine va rfl rfl rfl (q_move (v := vx_) rfl (by kernel_rfl)) ?_
  obtain ⟨z1, hz2, h⟩ := bnd h
  refine e_callB (is := [0]) hB rfl rfl (call_run Try.call42 rfl rfl (by kernel_rfl)) rfl (fun w Θ hp hpB hle hleB hR => t_maps_Copy_judge_dots_judge_dots_api_Dot_bool hd (hx_.mono hleB) hp hpB hz2) ?_
  rintro Γ3 U5 v6 hl4 ⟨row7, rfl, rfl, hr8, _⟩
  change WR _ _ _ (CC F Γ3 [row7]) _ _ (upd _ 10 (.tuple #[]))
  refine WR.nil ?_
  change WC _ _ _ _ _ _
  refine WC.rs ?_
  refine va rfl rfl rfl (q_move (v := .map (some md)) rfl (by kernel_rfl)) ?_
  refine va rfl rfl rfl (q_len_map (i := 0) hr8 rfl Try.underlying52 rfl rfl) ?_
  refine va rfl rfl rfl (q_move (v := .int .i64 ((d.length : Nat) : Int)) rfl (by kernel_rfl)) ?_
  refine va rfl rfl rfl (q_gtr rfl rfl rfl) ?_
  refine va rfl rfl rfl (q_assign (v := .bool (decide (((d.length : Nat) : Int) < ((z1.length : Nat) : Int)))) rfl (by kernel_rfl)) ?_
  refine WR.nil ?_
  change WC _ _ _ _ _ _
  refine WC.ret ?_
  intro w hw
  obtain rfl := Option.some.inj h
  subst hF
  exact end_e (is := [0]) (by kernel_rfl) hw rfl ⟨row7, rfl, rfl, hr8, trivial⟩
abbrev r_judge_trial_put_l1 (minto : Nat) (r : List ((Dot) × Unit)) (U : List Rowb) (Γ : Gh) (v : Value) : Prop := ∃ (rowinto' : Rowb), v = .tuple #[] ∧ U = [rowinto'] ∧ MapO kk27 trueV Γ rowinto' minto r ∧ True
set_option maxRecDepth 100000 in
set_option maxHeartbeats 400000 in
theorem t_judge_trial_put_l1 {Γ : Gh} {w0 : World} {B : Gh} {gt_ et_ : Nat} {rowt_ : Rowb} {t_ : Ojudge_trial} (ht_ : Ojudge_trial.ob et_ B gt_ rowt_ t_) (ht_r : ∀ p ∈ rowt_, B p.1 = some p.2) {minto : Nat} {rowinto : Rowb} {into : List ((Dot) × Unit)} (hinto : MapO kk27 trueV Γ rowinto minto into) (d : Dot) (hd : Dot.fits Γ  d) (hp : Pre [rowinto] Γ w0) (hpB : Pre [rowinto] B w0) {r : List ((Dot) × Unit)} (h : m_judge_trial_put_l1 t_ into d = some r) : Calls Try.prog 38 #[.pointer (some ⟨gt_, 0, none⟩), .map (some minto), .agg #[.int .i64 d.s, .int .i64 d.n]] w0 (Outc Γ [rowinto] w0 (r_judge_trial_put_l1 minto r)) := by
  refine calls_of (N := 16) (rs := []) (args := [.pointer (some ⟨gt_, 0, none⟩), .map (some minto), .agg #[.int .i64 d.s, .int .i64 d.n]]) Try.func38 rfl Try.ntmps38 Try.results38 rfl ?_
  obtain ⟨F, hF⟩ : ∃ F : Fm, F = ⟨ids [rowinto], w0, Γ⟩ := ⟨_, rfl⟩
  refine WC.here (C := CC F Γ [rowinto]) ?_ (hF ▸ hp.start)
  have hB : Lent F B := hF ▸ Lent.start hpB
  refine WC.rs ?_
  refine e_box (v := .agg #[.int .i64 d.s, .int .i64 d.n]) rfl rfl rfl rfl (by kernel_rfl) ?_
  intro g1
  refine WR.nil ?_
  change WC _ _ _ _ _ _
  refine WC.rs ?_
  refine va rfl rfl rfl (q_move (v := .map (some minto)) rfl (by kernel_rfl)) ?_
  refine va rfl rfl rfl (q_ldla (i := 0) (vs := [.int .i64 d.s, .int .i64 d.n]) rfl rfl Try.isAgg27 Try.sizeOf27 rfl rfl) ?_
  refine e_mapUpdate (i := 1) (x := d) (v := .bool true) (a := ()) rfl rfl rfl Try.underlying52 rfl rfl (by kernel_rfl) rfl hinto (by exact rfl) ⟨hd.1, hd.2⟩ ?_
  intro row2 hm3
  have hm3 := hm3.perm (sput_perm kl27 _ _)
  refine WR.nil ?_
  change WC _ _ _ _ _ _
  intro w hw; have h04 := hw.le
  refine WC.here (C := CC F Γ [[(g1, .cells #[.int .i64 d.s, .int .i64 d.n] 27 (0, 0))], row2]) ?_ hw; clear hw
  refine WC.held (CC F Γ [[(g1, .cells #[.int .i64 d.s, .int .i64 d.n] 27 (0, 0))]]) (by kernel_rfl) (fun w hw => hw.drawn _) ?_
  change WH _ _ _ _ (CC F Γ [[(g1, .cells #[.int .i64 d.s, .int .i64 d.n] 27 (0, 0))], row2]) _ 8 #[false, false, false, false, false, false, false, false] _
  refine ht (i := 0) rfl (by kernel_rfl) rfl rfl rfl (fun w hw => hw.back (Gh.refl _) h04 (.cons_cons _ (.cons _ .slnil))) (q_move (v := .map (some minto)) rfl (by kernel_rfl)) ?_
  refine ht (i := 1) rfl (by kernel_rfl) rfl rfl rfl (fun w hw => hw.back (Gh.refl _) h04 (.cons_cons _ (.cons _ .slnil))) (q_move (v := .pointer (some ⟨gt_, 0, none⟩)) rfl (by kernel_rfl)) ?_
  refine ht (i := 2) rfl (by kernel_rfl) rfl rfl rfl (fun w hw => hw.back (Gh.refl _) h04 (.cons_cons _ (.cons _ .slnil))) (q_nil (A := some ⟨gt_, 0, none⟩) rfl rfl rfl) ?_
  refine ht (i := 3) rfl (by kernel_rfl) rfl rfl rfl (fun w hw => hw.back (Gh.refl _) h04 (.cons_cons _ (.cons _ .slnil))) (q_fl 2 fld_56_2 rfl rfl rfl) ?_
  have hq := ht_
  obtain ⟨A0_5, c0_5, m1_5, r1_5, m2_5, r2_5, hrow_5, ho0_5, ho1_5, ho2_5, ho3_5, -⟩ := hq
  have hg_6 : ∀ u ∈ ([[(gt_, .cells #[.slice A0_5 t_.list.length c0_5, .map (some m1_5), .map (some m2_5)] et_ (0, 0))], r1_5, r2_5] : List Rowb), ∀ p ∈ u, B p.1 = some p.2 := fun u hu p hp => (fun p hp => (ht_r p hp)) p (hrow_5 ▸ List.mem_flatten.2 ⟨u, hu, hp⟩)
  have hgc7 := hg_6 _ (List.mem_cons_self ..) (gt_, _) (List.mem_singleton.2 rfl)
  have hgs8 := hg_6 r1_5 (by simp)
  have hgs9 := hg_6 r2_5 (by simp)
  refine ht (i := 4) rfl (by kernel_rfl) rfl rfl rfl (fun w hw => hw.back (Gh.refl _) h04 (.cons_cons _ (.cons _ .slnil))) (q_via (fun w hw => hB.sat hw) fun F => (q_ldg (v := .map (some m2_5)) hgc7 rfl Try.isAgg54 rfl rfl)) ?_
  refine ht (i := 5) rfl (by kernel_rfl) rfl rfl rfl (fun w hw => hw.back (Gh.refl _) h04 (.cons_cons _ (.cons _ .slnil))) (q_ldla (i := 0) (vs := [.int .i64 d.s, .int .i64 d.n]) rfl rfl Try.isAgg27 Try.sizeOf27 rfl rfl) ?_
  obtain ⟨v10, rowM11, hat12, hr13, hz14⟩ := MapM.lookZ ho3_5 (fun p hp => (hgs9 p hp)) d
  refine ht (i := 6) rfl (by kernel_rfl) rfl rfl rfl (fun w hw => hw.back (Gh.refl _) h04 (.cons_cons _ (.cons _ .slnil))) (q_via (fun w hw => hB.sat hw) fun F => (q_lookup1g (v := v10) hr13 hat12 rfl Try.underlying54 Try.zeroValue52 rfl rfl)) ?_
  refine WH.lone (i := 7) (by kernel_rfl) rfl ?_
  obtain ⟨z15, hz16, h⟩ := bnd h
  refine e_callB (is := [1]) hB rfl rfl (call_run Try.call27 rfl rfl (by kernel_rfl)) rfl (fun w Θ hp hpB hle hleB hR => t_judge_dots_join hm3 (hz14.mono hleB) hp hpB hz16) ?_
  rintro Γ17 U19 v20 hl18 ⟨row21, rfl, rfl, hr22, _⟩
  change WR _ _ _ (CC F Γ17 [row21, [(g1, .cells #[.int .i64 d.s, .int .i64 d.n] 27 (0, 0))]]) _ _ (upd _ 15 (.bool z15.2))
  refine WR.nil ?_
  refine WH.next (fun w hw => hw.back hl18 h04 (.cons _ (.cons_cons _ .slnil))) ?_
  refine WH.done (by kernel_rfl) ?_
  intro w hw
  obtain rfl := Option.some.inj h
  subst hF
  exact end_e (is := [0]) (by kernel_rfl) hw rfl ⟨row21, rfl, rfl, hr22, trivial⟩
abbrev r_judge_trial_saw_l1 (r : List ((Dot) × Unit)) (U : List Rowb) (Γ : Gh) (v : Value) : Prop := ∃ (g0 : Nat), ∃ (row0 : Rowb), v = .map (some g0) ∧ U = [row0] ∧ MapO kk27 trueV Γ row0 g0 r ∧ True
set_option maxRecDepth 100000 in
set_option maxHeartbeats 400000 in
theorem t_judge_trial_saw_l1 {Γ : Gh} {w0 : World} {B : Gh} {gt_ et_ : Nat} {rowt_ : Rowb} {t_ : Ojudge_trial} (ht_ : Ojudge_trial.ob et_ B gt_ rowt_ t_) (ht_r : ∀ p ∈ rowt_, B p.1 = some p.2) (i_ : Int) (hi_ : I64 i_) (hp : Pre [] Γ w0) (hpB : Pre [] B w0) {r : List ((Dot) × Unit)} (h : m_judge_trial_saw_l1 t_ i_ = some r) : Calls Try.prog 28 #[.pointer (some ⟨gt_, 0, none⟩), .int .i64 i_] w0 (Outc Γ [] w0 (r_judge_trial_saw_l1 r)) := by
  refine calls_of (N := 72) (rs := [4]) (args := [.pointer (some ⟨gt_, 0, none⟩), .int .i64 i_]) Try.func28 rfl Try.ntmps28 Try.results28 rfl ?_
  obtain ⟨F, hF⟩ : ∃ F : Fm, F = ⟨ids [], w0, Γ⟩ := ⟨_, rfl⟩
  refine WC.here (C := CC F Γ []) ?_ (hF ▸ hp.start)
  have hB : Lent F B := hF ▸ Lent.start hpB
  refine WC.rs ?_
  refine va rfl rfl rfl (q_assign (v := .map none) rfl (by kernel_rfl)) ?_
  refine WR.nil ?_
  change WC _ _ _ _ _ _
  refine WC.rs ?_
  refine e_makeMap kk27 trueV rfl rfl rfl rfl ?_
  intro g1 row2 hm3
  refine va rfl rfl rfl (q_assign (v := .map (some g1)) rfl (by kernel_rfl)) ?_
  refine WR.nil ?_
  change WC _ _ _ _ _ _
  refine WC.seq ?_
  refine WC.rs ?_
  refine va rfl rfl rfl (q_move (v := .pointer (some ⟨gt_, 0, none⟩)) rfl (by kernel_rfl)) ?_
  refine va rfl rfl rfl (q_nil (A := some ⟨gt_, 0, none⟩) rfl rfl rfl) ?_
  refine va rfl rfl rfl (q_fl 0 fld_56_0 rfl rfl rfl) ?_
  have hq := ht_
  obtain ⟨A0_4, c0_4, m1_4, r1_4, m2_4, r2_4, hrow_4, ho0_4, ho1_4, ho2_4, ho3_4, -⟩ := hq
  have hg_5 : ∀ u ∈ ([[(gt_, .cells #[.slice A0_4 t_.list.length c0_4, .map (some m1_4), .map (some m2_4)] et_ (0, 0))], r1_4, r2_4] : List Rowb), ∀ p ∈ u, B p.1 = some p.2 := fun u hu p hp => (fun p hp => (ht_r p hp)) p (hrow_4 ▸ List.mem_flatten.2 ⟨u, hu, hp⟩)
  have hgc6 := hg_5 _ (List.mem_cons_self ..) (gt_, _) (List.mem_singleton.2 rfl)
  have hgs7 := hg_5 r1_4 (by simp)
  have hgs8 := hg_5 r2_4 (by simp)
  refine va rfl rfl rfl (q_via (fun w hw => hB.sat hw) fun F => (q_ldg (v := .slice A0_4 t_.list.length c0_4) hgc6 rfl Try.isAgg24 rfl rfl)) ?_
  refine va rfl rfl rfl (q_move (v := .int .i64 i_) rfl (by kernel_rfl)) ?_
  obtain ⟨hk9, h⟩ := chk_some h
  refine va rfl rfl rfl (q_cut_to (c := c0_4) (hi := i_.toNat) (xs := t_.list) Try.underlying24 Try.sizeOf32 rfl rfl (inle_eq rfl hk9) (inle_le hk9) ho0_4) ?_
  refine va rfl rfl rfl (q_len_slice rfl Try.underlying24 rfl) ?_
  refine va rfl rfl rfl (q_move (v := .int .i64 0) rfl (by kernel_rfl)) ?_
  refine WR.nil ?_
  change WC _ _ _ _ _ _
  refine WC.block ?_
  refine WC.forI h (fun (i16 : Nat) (m12 : List ((Dot) × Unit)) σ w => ∃ (Γ10 : Gh), ∃ (row13 : Rowb), slots σ [(0, .pointer (some ⟨gt_, 0, none⟩)), (1, .int .i64 i_), (5, .map (some g1)), (15, .slice A0_4 (List.take i_.toNat t_.list).length c0_4), (16, .int .i64 (((List.take i_.toNat t_.list).length : Nat) : Int)), (17, .int .i64 ((i16 : Nat) : Int))] ∧ CC F Γ10 [row13] w ∧ Gh.le Γ Γ10 ∧ MapO kk27 trueV Γ10 row13 g1 m12 ∧ True) ?_ ?_
  · skip
    intro w hw
    exact ⟨Γ, row2, (sl_ (by kernel_rfl)), hw, (Gh.refl _), hm3, trivial⟩
  rintro f15 i16 m12 σ w hi17 hlt18 hge19 ⟨Γ10, row13, hsl, hw, hl11, ho14, -⟩
  refine Wpt.slots hsl ?_
  refine WC.here (C := CC F Γ10 [row13]) ?_ hw
  clear hw hsl
  refine WC.rs ?_
  refine va rfl rfl rfl (q_lss rfl rfl rfl) ?_
  refine WR.nil ?_
  change WC _ _ _ _ _ _
  refine WC.seq ?_
  refine WC.cond (b := (decide (((i16 : Nat) : Int) < (((List.take i_.toNat t_.list).length : Nat) : Int)))) (by kernel_rfl) (fun hb20 => ?_) (fun hb20 => ?_)
  · skip
    have hl21 := ilt hb20
    have h := hlt18 hl21
    refine WC.skip ?_
    change WC _ _ _ _ _ _
    refine WC.cut (fun σ w => ∃ (m24 : List ((Dot) × Unit)), ∃ (Γ22 : Gh), ∃ (row25 : Rowb), m_judge_trial_saw_l1_j17 f15 m24 = some r ∧ slots σ [(0, .pointer (some ⟨gt_, 0, none⟩)), (1, .int .i64 i_), (5, .map (some g1)), (15, .slice A0_4 (List.take i_.toNat t_.list).length c0_4), (16, .int .i64 (((List.take i_.toNat t_.list).length : Nat) : Int)), (17, .int .i64 ((i16 : Nat) : Int))] ∧ CC F Γ22 [row25] w ∧ Gh.le Γ10 Γ22 ∧ MapO kk27 trueV Γ22 row25 g1 m24 ∧ True) ?_ ?_
    · skip
      refine WC.block ?_
      refine WC.rs ?_
      refine va rfl rfl rfl (q_ixn (i := i16) Try.underlying24 Try.sizeOf32 rfl rfl rfl hl21 ((ho1_4.cut_to (hi := i_.toNat) (inle_le hk9)).some_ hl21)) ?_
      obtain ⟨A27, c28, A29, c30, hx31⟩ := (ho1_4.cut_to (hi := i_.toNat) (inle_le hk9)).djudge_ActT_at i16
      refine va rfl rfl rfl (q_ldaS (c := 0) (vs := [.bool (gt (List.take i_.toNat t_.list) i16).read, .int .i64 (gt (List.take i_.toNat t_.list) i16).sess, .string (gt (List.take i_.toNat t_.list) i16).key, .int .i64 (gt (List.take i_.toNat t_.list) i16).dot.s, .int .i64 (gt (List.take i_.toNat t_.list) i16).dot.n, .bool (gt (List.take i_.toNat t_.list) i16).oK, .slice A27 ((gt (List.take i_.toNat t_.list) i16).reads).length c28, .slice A29 ((gt (List.take i_.toNat t_.list) i16).seen).length c30]) (fun w hw => hB.sat hw) (hx31 hl21).2 rfl Try.isAgg32 Try.sizeOf32 rfl rfl rfl) ?_
      refine e_alloc Try.zeroValue32 rfl rfl rfl rfl ?_
      intro g32
      refine e_st (i := 0) (v := .agg #[.bool (gt (List.take i_.toNat t_.list) i16).read, .int .i64 (gt (List.take i_.toNat t_.list) i16).sess, .string (gt (List.take i_.toNat t_.list) i16).key, .int .i64 (gt (List.take i_.toNat t_.list) i16).dot.s, .int .i64 (gt (List.take i_.toNat t_.list) i16).dot.n, .bool (gt (List.take i_.toNat t_.list) i16).oK, .slice A27 ((gt (List.take i_.toNat t_.list) i16).reads).length c28, .slice A29 ((gt (List.take i_.toNat t_.list) i16).seen).length c30]) (new := #[.bool (gt (List.take i_.toNat t_.list) i16).read, .int .i64 (gt (List.take i_.toNat t_.list) i16).sess, .string (gt (List.take i_.toNat t_.list) i16).key, .int .i64 (gt (List.take i_.toNat t_.list) i16).dot.s, .int .i64 (gt (List.take i_.toNat t_.list) i16).dot.n, .bool (gt (List.take i_.toNat t_.list) i16).oK, .slice A27 ((gt (List.take i_.toNat t_.list) i16).reads).length c28, .slice A29 ((gt (List.take i_.toNat t_.list) i16).seen).length c30]) rfl Try.sizeOf32 rfl rfl rfl rfl (by kernel_rfl) rfl rfl rfl rfl ?_
      refine WR.nil ?_
      change WC _ _ _ _ _ _
      refine WC.seq ?_
      refine WC.seq ?_
      refine WC.dr (by kernel_rfl) (by kernel_rfl) (fun w hw => hw.drawn _) ?_
      refine wa rfl rfl rfl (q_fl 1 fld_32_1 rfl rfl rfl) ?_
      refine wa rfl rfl rfl (q_ldl (i := 0) (v := .int .i64 (gt (List.take i_.toNat t_.list) i16).sess) rfl rfl Try.isAgg3 rfl rfl) ?_
      refine wa rfl rfl rfl (q_move (v := .pointer (some ⟨gt_, 0, none⟩)) rfl (by kernel_rfl)) ?_
      refine wa rfl rfl rfl (q_nil (A := some ⟨gt_, 0, none⟩) rfl rfl rfl) ?_
      refine wa rfl rfl rfl (q_fl 0 fld_56_0 rfl rfl rfl) ?_
      refine wa rfl rfl rfl (q_via (fun w hw => hB.sat hw) fun F => (q_ldg (v := .slice A0_4 t_.list.length c0_4) hgc6 rfl Try.isAgg24 rfl rfl)) ?_
      refine wa rfl rfl rfl (q_move (v := .int .i64 i_) rfl (by kernel_rfl)) ?_
      obtain ⟨hk33, h⟩ := chk_some h
      refine wa rfl rfl rfl (q_ix Try.underlying24 Try.sizeOf32 rfl rfl rfl hk33 (ho1_4.some_ (inb_lt hk33))) ?_
      refine wa rfl rfl rfl (q_field_addr (i_.toNat * 8 + 1) fld_32_1 rfl rfl (ho1_4.some_ (inb_lt hk33)) rfl) ?_
      obtain ⟨A34, c35, A36, c37, hx38⟩ := ho1_4.djudge_ActT_at i_.toNat
      refine wa rfl rfl rfl (q_ldS (c := 1) (v := .int .i64 (gt t_.list i_.toNat).sess) (fun w hw => hB.sat hw) (hx38 (inb_lt hk33)).2 rfl Try.isAgg3 rfl rfl) ?_
      refine wa rfl rfl rfl (q_neq rfl rfl rfl) ?_
      refine wa rfl rfl rfl (q_move (v := .bool ((gt (List.take i_.toNat t_.list) i16).sess != (gt t_.list i_.toNat).sess)) rfl (by kernel_rfl)) ?_
      refine wg0 rfl rfl rfl rfl rfl (fun hg39 => QV.qo (q_fl 5 fld_32_4 rfl rfl rfl)) ?_
      refine wg0 rfl rfl rfl rfl rfl (fun hg40 => QV.qo (q_ldl (i := 0) (v := .bool (gt (List.take i_.toNat t_.list) i16).oK) rfl rfl Try.isAgg4 (gu hg40 rfl) rfl)) ?_
      refine wg0 rfl rfl rfl rfl rfl (fun hg41 => QV.qo (q_not rfl (gu hg41 rfl))) ?_
      refine wa rfl rfl rfl (q_pick rfl rfl (pk_or' (g := ((gt (List.take i_.toNat t_.list) i16).sess != (gt t_.list i_.toNat).sess)) (y := (!(gt (List.take i_.toNat t_.list) i16).oK)))) ?_
      refine WQ.nil ?_
      change WC _ _ _ _ _ _
      refine WC.cif h (by kernel_rfl) (fun hb42 h => ?_) (fun hb42 h => ?_)
      · skip
        refine WC.exit ?_
        intro w hw
        exact ⟨m12, Γ10, row13, h, (sl_ (by kernel_rfl)), (hw.only (is := [1]) rfl), (Gh.refl _), ho14, trivial⟩
      · skip
        refine WC.skip ?_
        change WC _ _ _ _ _ _
        refine WC.cut (fun σ w => ∃ (m45 : List ((Dot) × Unit)), ∃ (Γ43 : Gh), ∃ (row46 : Rowb), m_judge_trial_saw_l1_j20 t_ i_ f15 i16 m45 = some r ∧ slots σ [(0, .pointer (some ⟨gt_, 0, none⟩)), (1, .int .i64 i_), (5, .map (some g1)), (7, .pointer (some ⟨g32, 0, none⟩)), (15, .slice A0_4 (List.take i_.toNat t_.list).length c0_4), (16, .int .i64 (((List.take i_.toNat t_.list).length : Nat) : Int)), (17, .int .i64 ((i16 : Nat) : Int))] ∧ CC F Γ43 [[(g32, .cells #[.bool (gt (List.take i_.toNat t_.list) i16).read, .int .i64 (gt (List.take i_.toNat t_.list) i16).sess, .string (gt (List.take i_.toNat t_.list) i16).key, .int .i64 (gt (List.take i_.toNat t_.list) i16).dot.s, .int .i64 (gt (List.take i_.toNat t_.list) i16).dot.n, .bool (gt (List.take i_.toNat t_.list) i16).oK, .slice A27 ((gt (List.take i_.toNat t_.list) i16).reads).length c28, .slice A29 ((gt (List.take i_.toNat t_.list) i16).seen).length c30] 32 (0, 0))], row46] w ∧ Gh.le Γ10 Γ43 ∧ MapO kk27 trueV Γ43 row46 g1 m45 ∧ True) ?_ ?_
        · skip
          refine WC.rs ?_
          refine va rfl rfl rfl (q_fl 0 fld_32_0 rfl rfl rfl) ?_
          refine va rfl rfl rfl (q_ldl (i := 0) (v := .bool (gt (List.take i_.toNat t_.list) i16).read) rfl rfl Try.isAgg4 rfl rfl) ?_
          refine va rfl rfl rfl (q_not rfl rfl) ?_
          refine va rfl rfl rfl (q_move (v := .bool (!(gt (List.take i_.toNat t_.list) i16).read)) rfl (by kernel_rfl)) ?_
          refine vg1 rfl rfl rfl rfl rfl (fun hg48 => QV.qo (q_fl 3 fld_32_3 rfl rfl rfl)) ?_
          refine vg1 rfl rfl rfl rfl rfl (fun hg49 => QV.qo (q_fl 4 fld_27_1 rfl (gu hg49 rfl) rfl)) ?_
          refine vg1 rfl rfl rfl rfl rfl (fun hg50 => QV.qo (q_ldl (i := 0) (v := .int .i64 (gt (List.take i_.toNat t_.list) i16).dot.n) rfl rfl Try.isAgg2 (gu hg50 rfl) rfl)) ?_
          refine vg1 rfl rfl rfl rfl rfl (fun hg51 => QV.qo (q_gtr rfl (gu hg51 rfl) rfl)) ?_
          refine va rfl rfl rfl (q_pick rfl rfl (pk_and' (g := (!(gt (List.take i_.toNat t_.list) i16).read)) (y := (decide (0 < (gt (List.take i_.toNat t_.list) i16).dot.n))))) ?_
          refine WR.nil ?_
          change WC _ _ _ _ _ _
          refine WC.cif h (by kernel_rfl) (fun hb52 h => ?_) (fun hb52 h => ?_)
          · skip
            refine WC.region ?_
            refine va rfl rfl rfl (q_move (v := .pointer (some ⟨gt_, 0, none⟩)) rfl (by kernel_rfl)) ?_
            refine va rfl rfl rfl (q_move (v := .map (some g1)) rfl (by kernel_rfl)) ?_
            refine va rfl rfl rfl (q_fl 3 fld_32_3 rfl rfl rfl) ?_
            refine va rfl rfl rfl (q_ldla (i := 0) (vs := [.int .i64 (gt (List.take i_.toNat t_.list) i16).dot.s, .int .i64 (gt (List.take i_.toNat t_.list) i16).dot.n]) rfl rfl Try.isAgg27 Try.sizeOf27 rfl rfl) ?_
            obtain ⟨z53, hz54, h⟩ := bnd h
            refine e_callB (is := [1]) hB rfl rfl (call_run Try.call38 rfl rfl (by kernel_rfl)) rfl (fun w Θ hp hpB hle hleB hR => t_judge_trial_put_l1 (ht_.mono hleB) (fun p hp => hleB _ _ (ht_r p hp)) ho14 ((gt (List.take i_.toNat t_.list) i16).dot) (by exact ⟨(hx31 hl21).1.2.2.1, (hx31 hl21).1.2.2.2.1⟩) hp hpB hz54) ?_
            rintro Γ55 U57 v58 hl56 ⟨row59, rfl, rfl, hr60, _⟩
            change WR _ _ _ (CC F Γ55 [row59, [(g32, .cells #[.bool (gt (List.take i_.toNat t_.list) i16).read, .int .i64 (gt (List.take i_.toNat t_.list) i16).sess, .string (gt (List.take i_.toNat t_.list) i16).key, .int .i64 (gt (List.take i_.toNat t_.list) i16).dot.s, .int .i64 (gt (List.take i_.toNat t_.list) i16).dot.n, .bool (gt (List.take i_.toNat t_.list) i16).oK, .slice A27 ((gt (List.take i_.toNat t_.list) i16).reads).length c28, .slice A29 ((gt (List.take i_.toNat t_.list) i16).seen).length c30] 32 (0, 0))]]) _ _ (upd _ 50 (.tuple #[]))
            refine WR.nil ?_
            intro w hw
            exact ⟨z53, Γ55, row59, h, (sl_ (by kernel_rfl)), (hw.only (is := [1, 0]) rfl), hl56, hr60, trivial⟩
          · skip
            refine WC.skip ?_
            intro w hw
            exact ⟨m12, Γ10, row13, h, (sl_ (by kernel_rfl)), hw, (Gh.refl _), ho14, trivial⟩
        · skip
          rintro σ w ⟨m45, Γ43, row46, h, hsl, hw, hl44, ho47, -⟩
          refine Wpt.slots hsl ?_
          refine WC.here (C := CC F Γ43 [[(g32, .cells #[.bool (gt (List.take i_.toNat t_.list) i16).read, .int .i64 (gt (List.take i_.toNat t_.list) i16).sess, .string (gt (List.take i_.toNat t_.list) i16).key, .int .i64 (gt (List.take i_.toNat t_.list) i16).dot.s, .int .i64 (gt (List.take i_.toNat t_.list) i16).dot.n, .bool (gt (List.take i_.toNat t_.list) i16).oK, .slice A27 ((gt (List.take i_.toNat t_.list) i16).reads).length c28, .slice A29 ((gt (List.take i_.toNat t_.list) i16).seen).length c30] 32 (0, 0))], row46]) ?_ hw
          clear hw hsl
          refine WC.rs ?_
          refine va rfl rfl rfl (q_assign (v := .int .i64 0) rfl (by kernel_rfl)) ?_
          refine WR.nil ?_
          change WC _ _ _ _ _ _
          refine WC.block ?_
          refine WC.loopN h (fun (s : Int × (List ((Dot) × Unit))) σ w => match s with | (k_63, m65) => ∃ (Γ61 : Gh), ∃ (row66 : Rowb), slots σ [(0, .pointer (some ⟨gt_, 0, none⟩)), (1, .int .i64 i_), (5, .map (some g1)), (7, .pointer (some ⟨g32, 0, none⟩)), (8, .int .i64 k_63), (15, .slice A0_4 (List.take i_.toNat t_.list).length c0_4), (16, .int .i64 (((List.take i_.toNat t_.list).length : Nat) : Int)), (17, .int .i64 ((i16 : Nat) : Int))] ∧ CC F Γ61 [[(g32, .cells #[.bool (gt (List.take i_.toNat t_.list) i16).read, .int .i64 (gt (List.take i_.toNat t_.list) i16).sess, .string (gt (List.take i_.toNat t_.list) i16).key, .int .i64 (gt (List.take i_.toNat t_.list) i16).dot.s, .int .i64 (gt (List.take i_.toNat t_.list) i16).dot.n, .bool (gt (List.take i_.toNat t_.list) i16).oK, .slice A27 ((gt (List.take i_.toNat t_.list) i16).reads).length c28, .slice A29 ((gt (List.take i_.toNat t_.list) i16).seen).length c30] 32 (0, 0))], row66] w ∧ Gh.le Γ43 Γ61 ∧ I64 k_63 ∧ MapO kk27 trueV Γ61 row66 g1 m65 ∧ True) ?_ ?_
          · skip
            intro w hw
            exact ⟨Γ43, row46, (sl_ (by kernel_rfl)), hw, (Gh.refl _), (show I64 0 by decide), ho47, trivial⟩
          rintro f68 ⟨k_63, m65⟩ σ w h ⟨Γ61, row66, hsl, hw, hl62, hr64, ho67, -⟩
          refine Wpt.slots hsl ?_
          refine WC.here (C := CC F Γ61 [[(g32, .cells #[.bool (gt (List.take i_.toNat t_.list) i16).read, .int .i64 (gt (List.take i_.toNat t_.list) i16).sess, .string (gt (List.take i_.toNat t_.list) i16).key, .int .i64 (gt (List.take i_.toNat t_.list) i16).dot.s, .int .i64 (gt (List.take i_.toNat t_.list) i16).dot.n, .bool (gt (List.take i_.toNat t_.list) i16).oK, .slice A27 ((gt (List.take i_.toNat t_.list) i16).reads).length c28, .slice A29 ((gt (List.take i_.toNat t_.list) i16).seen).length c30] 32 (0, 0))], row66]) ?_ hw
          clear hw hsl
          refine WC.seq ?_
          refine WC.rs ?_
          refine va rfl rfl rfl (q_fl 0 fld_32_0 rfl rfl rfl) ?_
          refine va rfl rfl rfl (q_ldl (i := 0) (v := .bool (gt (List.take i_.toNat t_.list) i16).read) rfl rfl Try.isAgg4 rfl rfl) ?_
          refine va rfl rfl rfl (q_move (v := .bool (gt (List.take i_.toNat t_.list) i16).read) rfl (by kernel_rfl)) ?_
          refine vg1 rfl rfl rfl rfl rfl (fun hg72 => QV.qo (q_move (v := .int .i64 k_63) rfl (by kernel_rfl))) ?_
          refine vg1 rfl rfl rfl rfl rfl (fun hg73 => QV.qo (q_fl 6 fld_32_5 rfl rfl rfl)) ?_
          refine vg1 rfl rfl rfl rfl rfl (fun hg74 => QV.qo (q_ldl (i := 0) (v := .slice A27 ((gt (List.take i_.toNat t_.list) i16).reads).length c28) rfl rfl Try.isAgg29 (gu hg74 rfl) rfl)) ?_
          refine vg1 rfl rfl rfl rfl rfl (fun hg75 => QV.qo (q_len_slice rfl Try.underlying29 (gu hg75 rfl))) ?_
          refine vg1 rfl rfl rfl rfl rfl (fun hg76 => QV.qo (q_lss rfl (gu hg76 rfl) (gu hg76 rfl))) ?_
          refine va rfl rfl rfl (q_pick rfl rfl (pk_and' (g := (gt (List.take i_.toNat t_.list) i16).read) (y := (decide (k_63 < ((((gt (List.take i_.toNat t_.list) i16).reads).length : Nat) : Int)))))) ?_
          refine WR.nil ?_
          change WC _ _ _ _ _ _
          refine WC.cif h (by kernel_rfl) (fun hb77 h => ?_) (fun hb77 h => ?_)
          · skip
            refine WC.skip ?_
            change WC _ _ _ _ _ _
            refine WC.seq ?_
            refine WC.block ?_
            refine WC.region ?_
            refine va rfl rfl rfl (q_move (v := .pointer (some ⟨gt_, 0, none⟩)) rfl (by kernel_rfl)) ?_
            refine va rfl rfl rfl (q_move (v := .map (some g1)) rfl (by kernel_rfl)) ?_
            refine va rfl rfl rfl (q_fl 6 fld_32_5 rfl rfl rfl) ?_
            refine va rfl rfl rfl (q_ldl (i := 0) (v := .slice A27 ((gt (List.take i_.toNat t_.list) i16).reads).length c28) rfl rfl Try.isAgg29 rfl rfl) ?_
            refine va rfl rfl rfl (q_move (v := .int .i64 k_63) rfl (by kernel_rfl)) ?_
            obtain ⟨hk78, h⟩ := chk_some h
            refine va rfl rfl rfl (q_ix Try.underlying29 Try.sizeOf27 rfl rfl rfl hk78 ((hx31 hl21).1.2.2.2.2.1.2.some_ (inb_lt hk78))) ?_
            refine va rfl rfl rfl (q_ldaS (c := 0) (vs := [.int .i64 (gt ((gt (List.take i_.toNat t_.list) i16).reads) k_63.toNat).s, .int .i64 (gt ((gt (List.take i_.toNat t_.list) i16).reads) k_63.toNat).n]) (fun w hw => hB.sat hw) ((hx31 hl21).1.2.2.2.2.1.2.dotT_at (inb_lt hk78)).2 rfl Try.isAgg27 Try.sizeOf27 rfl rfl rfl) ?_
            obtain ⟨z79, hz80, h⟩ := bnd h
            refine e_callB (is := [1]) hB rfl rfl (call_run Try.call38 rfl rfl (by kernel_rfl)) rfl (fun w Θ hp hpB hle hleB hR => t_judge_trial_put_l1 (ht_.mono hleB) (fun p hp => hleB _ _ (ht_r p hp)) ho67 (gt ((gt (List.take i_.toNat t_.list) i16).reads) k_63.toNat) (by exact ((hx31 hl21).1.2.2.2.2.1.2.dotT_at (inb_lt hk78)).1) hp hpB hz80) ?_
            rintro Γ81 U83 v84 hl82 ⟨row85, rfl, rfl, hr86, _⟩
            change WR _ _ _ (CC F Γ81 [row85, [(g32, .cells #[.bool (gt (List.take i_.toNat t_.list) i16).read, .int .i64 (gt (List.take i_.toNat t_.list) i16).sess, .string (gt (List.take i_.toNat t_.list) i16).key, .int .i64 (gt (List.take i_.toNat t_.list) i16).dot.s, .int .i64 (gt (List.take i_.toNat t_.list) i16).dot.n, .bool (gt (List.take i_.toNat t_.list) i16).oK, .slice A27 ((gt (List.take i_.toNat t_.list) i16).reads).length c28, .slice A29 ((gt (List.take i_.toNat t_.list) i16).seen).length c30] 32 (0, 0))]]) _ _ (upd _ 69 (.tuple #[]))
            refine WR.nil ?_
            change WC _ _ _ _ _ _
            refine WC.region ?_
            refine va rfl rfl rfl (q_move (v := .int .i64 k_63) rfl (by kernel_rfl)) ?_
            refine va rfl rfl rfl (q_add rfl rfl rfl) ?_
            refine va rfl rfl rfl (q_assign (v := .int .i64 (w64 (k_63 + 1))) rfl (by kernel_rfl)) ?_
            refine WR.nil ?_
            intro w hw
            exact ⟨((w64 (k_63 + 1)), z79), h, Γ81, row85, (sl_ (by kernel_rfl)), (hw.only (is := [1, 0]) rfl), (hl62.trans hl82), (w64_r _), hr86, trivial⟩
          · skip
            refine WC.exit ?_
            intro w hw
            exact ⟨m65, Γ61, row66, h, (sl_ (by kernel_rfl)), (hw.only (is := [1]) rfl), (hl44.trans hl62), ho67, trivial⟩
    · skip
      rintro σ w ⟨m24, Γ22, row25, h, hsl, hw, hl23, ho26, -⟩
      refine Wpt.slots hsl ?_
      refine WC.here (C := CC F Γ22 [row25]) ?_ hw
      clear hw hsl
      refine WC.region ?_
      refine va rfl rfl rfl (q_add_r (r := ((i16 + 1 : Nat) : Int)) rfl rfl rfl (ctr_len hl21 (ho1_4.cut_to (hi := i_.toNat) (inle_le hk9)).le)) ?_
      refine va rfl rfl rfl (q_move (v := .int .i64 ((i16 + 1 : Nat) : Int)) rfl (by kernel_rfl)) ?_
      refine WR.nil ?_
      intro w hw
      exact ⟨hl21, m24, h, Γ22, row25, (sl_ (by kernel_rfl)), hw, (hl11.trans hl23), ho26, trivial⟩
  · skip
    have h := hge19 (ige hb20)
    refine WC.exit ?_
    change WC _ _ _ _ _ _
    refine WC.rs ?_
    refine va rfl rfl rfl (q_move (v := .map (some g1)) rfl (by kernel_rfl)) ?_
    refine va rfl rfl rfl (q_assign (v := .map (some g1)) rfl (by kernel_rfl)) ?_
    refine WR.nil ?_
    change WC _ _ _ _ _ _
    refine WC.ret ?_
    intro w hw
    obtain rfl := Option.some.inj h
    subst hF
    exact end_e (is := [0]) (by kernel_rfl) hw rfl ⟨g1, row13, rfl, rfl, ho14, trivial⟩
abbrev r_judge_try_l0 (B : Gh) (r : Ojudge_trial) (U : List Rowb) (Γ : Gh) (v : Value) : Prop := ∃ (g0 : Nat), ∃ (row0 : Rowb), v = .pointer (some ⟨g0, 0, none⟩) ∧ U = [row0] ∧ Ojudge_trial.ob 56 B g0 row0 r ∧ True
set_option maxRecDepth 100000 in
set_option maxHeartbeats 400000 in
theorem t_judge_try_l0 {Γ : Gh} {w0 : World} {B : Gh} {Alist : Option Addr} {clist : Nat} {list : List Djudge_Act} (hlist : Sl djudge_ActT B Alist list) (hlistc : list.length ≤ clist) (hp : Pre [] Γ w0) (hpB : Pre [] B w0) {r : Ojudge_trial} (h : m_judge_try_l0 list = some r) : Calls Try.prog 20 #[.slice Alist list.length clist] w0 (Outc Γ [] w0 (r_judge_try_l0 B r)) := by
  refine calls_of (N := 83) (rs := [2]) (args := [.slice Alist list.length clist]) Try.func20 rfl Try.ntmps20 Try.results20 rfl ?_
  obtain ⟨F, hF⟩ : ∃ F : Fm, F = ⟨ids [], w0, Γ⟩ := ⟨_, rfl⟩
  refine WC.here (C := CC F Γ []) ?_ (hF ▸ hp.start)
  have hB : Lent F B := hF ▸ Lent.start hpB
  refine WC.rs ?_
  refine va rfl rfl rfl (q_assign (v := .pointer none) rfl (by kernel_rfl)) ?_
  refine WR.nil ?_
  change WC _ _ _ _ _ _
  refine WC.rs ?_
  refine va rfl rfl rfl (q_move (v := .slice Alist list.length clist) rfl (by kernel_rfl)) ?_
  refine e_makeMap kk27 intT.v rfl rfl rfl rfl ?_
  intro g1 row2 hm3
  refine e_makeMap kk27 mrefV rfl rfl rfl rfl ?_
  intro g4 row5 hm6
  have hm6 := MapM.new (K2 := kk27) (V := trueV) hm6
  refine va rfl rfl rfl (q_build' (v := .agg #[.slice Alist list.length clist, .map (some g1), .map (some g4)]) rfl (bargs3 rfl rfl rfl) (fun w => by kernel_rfl)) ?_
  refine e_box (v := .agg #[.slice Alist list.length clist, .map (some g1), .map (some g4)]) rfl rfl rfl rfl (by kernel_rfl) ?_
  intro g7
  refine va rfl rfl rfl (q_assign (v := .pointer (some ⟨g7, 0, none⟩)) rfl (by kernel_rfl)) ?_
  refine WR.nil ?_
  change WC _ _ _ _ _ _
  refine WC.seq ?_
  refine WC.rs ?_
  refine va rfl rfl rfl (q_move (v := .slice Alist list.length clist) rfl (by kernel_rfl)) ?_
  refine va rfl rfl rfl (q_len_slice rfl Try.underlying24 rfl) ?_
  refine va rfl rfl rfl (q_move (v := .int .i64 0) rfl (by kernel_rfl)) ?_
  refine WR.nil ?_
  change WC _ _ _ _ _ _
  refine WC.block ?_
  refine WC.forI h (fun (i15 : Nat) (s : (List ((Dot) × List ((Dot) × Unit))) × (List ((Dot) × Int))) σ w => match s with | (b8, m11) => ∃ (row9 : Rowb), ∃ (row12 : Rowb), slots σ [(3, .pointer (some ⟨g7, 0, none⟩)), (16, .slice Alist list.length clist), (17, .int .i64 ((list.length : Nat) : Int)), (18, .int .i64 ((i15 : Nat) : Int))] ∧ CC F Γ [[(g7, .cells #[.slice Alist list.length clist, .map (some g1), .map (some g4)] 56 (0, 0))], row9, row12] w ∧ MapM kk27 kk27 trueV Γ row9 g4 b8 ∧ MapO kk27 intT.v Γ row12 g1 m11 ∧ True) ?_ ?_
  · skip
    intro w hw
    exact ⟨row5, row2, (sl_ (by kernel_rfl)), hw, hm6, hm3, trivial⟩
  rintro f14 i15 ⟨b8, m11⟩ σ w hi16 hlt17 hge18 ⟨row9, row12, hsl, hw, ho10, ho13, -⟩
  refine Wpt.slots hsl ?_
  refine WC.here (C := CC F Γ [[(g7, .cells #[.slice Alist list.length clist, .map (some g1), .map (some g4)] 56 (0, 0))], row9, row12]) ?_ hw
  clear hw hsl
  refine WC.rs ?_
  refine va rfl rfl rfl (q_lss rfl rfl rfl) ?_
  refine WR.nil ?_
  change WC _ _ _ _ _ _
  refine WC.seq ?_
  refine WC.cond (b := (decide (((i15 : Nat) : Int) < ((list.length : Nat) : Int)))) (by kernel_rfl) (fun hb19 => ?_) (fun hb19 => ?_)
  · skip
    have hl20 := ilt hb19
    have h := hlt17 hl20
    refine WC.skip ?_
    change WC _ _ _ _ _ _
    refine WC.cut (fun σ w => ∃ (b21 : List ((Dot) × List ((Dot) × Unit))), ∃ (m24 : List ((Dot) × Int)), ∃ (row22 : Rowb), ∃ (row25 : Rowb), m_judge_try_l0_j5 f14 b21 m24 = some r ∧ slots σ [(3, .pointer (some ⟨g7, 0, none⟩)), (16, .slice Alist list.length clist), (17, .int .i64 ((list.length : Nat) : Int)), (18, .int .i64 ((i15 : Nat) : Int))] ∧ CC F Γ [[(g7, .cells #[.slice Alist list.length clist, .map (some g1), .map (some g4)] 56 (0, 0))], row22, row25] w ∧ MapM kk27 kk27 trueV Γ row22 g4 b21 ∧ MapO kk27 intT.v Γ row25 g1 m24 ∧ True) ?_ ?_
    · skip
      refine WC.block ?_
      refine WC.rs ?_
      refine va rfl rfl rfl (q_move (v := .int .i64 ((i15 : Nat) : Int)) rfl (by kernel_rfl)) ?_
      refine va rfl rfl rfl (q_ixn (i := i15) Try.underlying24 Try.sizeOf32 rfl rfl rfl hl20 (hlist.some_ hl20)) ?_
      obtain ⟨A27, c28, A29, c30, hx31⟩ := hlist.djudge_ActT_at i15
      refine va rfl rfl rfl (q_ldaS (c := 0) (vs := [.bool (gt list i15).read, .int .i64 (gt list i15).sess, .string (gt list i15).key, .int .i64 (gt list i15).dot.s, .int .i64 (gt list i15).dot.n, .bool (gt list i15).oK, .slice A27 ((gt list i15).reads).length c28, .slice A29 ((gt list i15).seen).length c30]) (fun w hw => hB.sat hw) (hx31 hl20).2 rfl Try.isAgg32 Try.sizeOf32 rfl rfl rfl) ?_
      refine e_alloc Try.zeroValue32 rfl rfl rfl rfl ?_
      intro g32
      refine va rfl rfl rfl (q_assign (v := .int .i64 ((i15 : Nat) : Int)) rfl (by kernel_rfl)) ?_
      refine e_st (i := 0) (v := .agg #[.bool (gt list i15).read, .int .i64 (gt list i15).sess, .string (gt list i15).key, .int .i64 (gt list i15).dot.s, .int .i64 (gt list i15).dot.n, .bool (gt list i15).oK, .slice A27 ((gt list i15).reads).length c28, .slice A29 ((gt list i15).seen).length c30]) (new := #[.bool (gt list i15).read, .int .i64 (gt list i15).sess, .string (gt list i15).key, .int .i64 (gt list i15).dot.s, .int .i64 (gt list i15).dot.n, .bool (gt list i15).oK, .slice A27 ((gt list i15).reads).length c28, .slice A29 ((gt list i15).seen).length c30]) rfl Try.sizeOf32 rfl rfl rfl rfl (by kernel_rfl) rfl rfl rfl rfl ?_
      refine WR.nil ?_
      change WC _ _ _ _ _ _
      refine WC.seq ?_
      refine WC.dr (by kernel_rfl) (by kernel_rfl) (fun w hw => hw.drawn _) ?_
      refine wa rfl rfl rfl (q_move (v := .pointer (some ⟨g7, 0, none⟩)) rfl (by kernel_rfl)) ?_
      refine wa rfl rfl rfl (q_nil (A := some ⟨g7, 0, none⟩) rfl rfl rfl) ?_
      refine wa rfl rfl rfl (q_fl 1 fld_56_1 rfl rfl rfl) ?_
      refine wa rfl rfl rfl (q_ldl (i := 1) (v := .map (some g1)) rfl rfl Try.isAgg53 rfl rfl) ?_
      refine wa rfl rfl rfl (q_fl 3 fld_32_3 rfl rfl rfl) ?_
      refine wa rfl rfl rfl (q_ldla (i := 0) (vs := [.int .i64 (gt list i15).dot.s, .int .i64 (gt list i15).dot.n]) rfl rfl Try.isAgg27 Try.sizeOf27 rfl rfl) ?_
      obtain ⟨v33, ⟨hv34, hi36⟩, hat35⟩ := MapO.look ho13 ((gt list i15).dot) (z := .int .i64 0) (zx := 0) ⟨rfl, by decide⟩
      obtain rfl : v33 = _ := List.cons.inj hv34 |>.1
      refine wa rfl rfl rfl (q_lookup2 (v := .int .i64 ((mget ((gt list i15).dot) m11).getD 0)) hat35 rfl Try.underlying53 Try.zeroValue3 rfl rfl (i := 3) rfl) ?_
      refine wa rfl rfl rfl (q_move (v := .tuple #[.int .i64 ((mget ((gt list i15).dot) m11).getD 0), .bool ((mget ((gt list i15).dot) m11).isSome)]) rfl (by kernel_rfl)) ?_
      refine wa rfl rfl rfl (q_extract (v := .int .i64 ((mget ((gt list i15).dot) m11).getD 0)) rfl rfl rfl) ?_
      refine wa rfl rfl rfl (q_extract (v := .bool ((mget ((gt list i15).dot) m11).isSome)) rfl rfl rfl) ?_
      refine wa rfl rfl rfl (q_assign (v := .int .i64 ((mget ((gt list i15).dot) m11).getD 0)) rfl (by kernel_rfl)) ?_
      refine wa rfl rfl rfl (q_assign (v := .bool ((mget ((gt list i15).dot) m11).isSome)) rfl (by kernel_rfl)) ?_
      refine WQ.nil ?_
      change WC _ _ _ _ _ _
      refine WC.rs ?_
      refine va rfl rfl rfl (q_fl 0 fld_32_0 rfl rfl rfl) ?_
      refine va rfl rfl rfl (q_ldl (i := 0) (v := .bool (gt list i15).read) rfl rfl Try.isAgg4 rfl rfl) ?_
      refine va rfl rfl rfl (q_not rfl rfl) ?_
      refine va rfl rfl rfl (q_move (v := .bool (!(gt list i15).read)) rfl (by kernel_rfl)) ?_
      refine vg1 rfl rfl rfl rfl rfl (fun hg37 => QV.qo (q_fl 3 fld_32_3 rfl rfl rfl)) ?_
      refine vg1 rfl rfl rfl rfl rfl (fun hg38 => QV.qo (q_fl 4 fld_27_1 rfl (gu hg38 rfl) rfl)) ?_
      refine vg1 rfl rfl rfl rfl rfl (fun hg39 => QV.qo (q_ldl (i := 0) (v := .int .i64 (gt list i15).dot.n) rfl rfl Try.isAgg2 (gu hg39 rfl) rfl)) ?_
      refine vg1 rfl rfl rfl rfl rfl (fun hg40 => QV.qo (q_gtr rfl (gu hg40 rfl) rfl)) ?_
      refine va rfl rfl rfl (q_pick rfl rfl (pk_and' (g := (!(gt list i15).read)) (y := (decide (0 < (gt list i15).dot.n))))) ?_
      refine va rfl rfl rfl (q_move (v := .bool ((!(gt list i15).read) && (decide (0 < (gt list i15).dot.n)))) rfl (by kernel_rfl)) ?_
      refine vg1 rfl rfl rfl rfl rfl (fun hg41 => QV.qo (q_move (v := .bool ((mget ((gt list i15).dot) m11).isSome)) rfl (by kernel_rfl))) ?_
      refine vg1 rfl rfl rfl rfl rfl (fun hg42 => QV.qo (q_not rfl (gu hg42 rfl))) ?_
      refine va rfl rfl rfl (q_pick rfl rfl (pk_and' (g := ((!(gt list i15).read) && (decide (0 < (gt list i15).dot.n)))) (y := (!((mget ((gt list i15).dot) m11).isSome))))) ?_
      refine WR.nil ?_
      change WC _ _ _ _ _ _
      refine WC.cif h (by kernel_rfl) (fun hb43 h => ?_) (fun hb43 h => ?_)
      · skip
        refine WC.seq ?_
        intro w hw; have h044 := hw.le
        refine WC.here (C := CC F Γ [[(g32, .cells #[.bool (gt list i15).read, .int .i64 (gt list i15).sess, .string (gt list i15).key, .int .i64 (gt list i15).dot.s, .int .i64 (gt list i15).dot.n, .bool (gt list i15).oK, .slice A27 ((gt list i15).reads).length c28, .slice A29 ((gt list i15).seen).length c30] 32 (0, 0))], [(g7, .cells #[.slice Alist list.length clist, .map (some g1), .map (some g4)] 56 (0, 0))], row9, row12]) ?_ hw; clear hw
        refine WC.held (CC F Γ [[(g32, .cells #[.bool (gt list i15).read, .int .i64 (gt list i15).sess, .string (gt list i15).key, .int .i64 (gt list i15).dot.s, .int .i64 (gt list i15).dot.n, .bool (gt list i15).oK, .slice A27 ((gt list i15).reads).length c28, .slice A29 ((gt list i15).seen).length c30] 32 (0, 0))], [(g7, .cells #[.slice Alist list.length clist, .map (some g1), .map (some g4)] 56 (0, 0))]]) (by kernel_rfl) (fun w hw => hw.drawn _) ?_
        change WH _ _ _ _ (CC F Γ [[(g32, .cells #[.bool (gt list i15).read, .int .i64 (gt list i15).sess, .string (gt list i15).key, .int .i64 (gt list i15).dot.s, .int .i64 (gt list i15).dot.n, .bool (gt list i15).oK, .slice A27 ((gt list i15).reads).length c28, .slice A29 ((gt list i15).seen).length c30] 32 (0, 0))], [(g7, .cells #[.slice Alist list.length clist, .map (some g1), .map (some g4)] 56 (0, 0))], row9, row12]) _ 8 #[false, false, false, false, false, false, false, false] _
        refine ht (i := 0) rfl (by kernel_rfl) rfl rfl rfl (fun w hw => hw.back (Gh.refl _) h044 (.cons_cons _ (.cons_cons _ (.cons _ (.cons _ .slnil))))) (q_move (v := .pointer (some ⟨g7, 0, none⟩)) rfl (by kernel_rfl)) ?_
        refine ht (i := 1) rfl (by kernel_rfl) rfl rfl rfl (fun w hw => hw.back (Gh.refl _) h044 (.cons_cons _ (.cons_cons _ (.cons _ (.cons _ .slnil))))) (q_nil (A := some ⟨g7, 0, none⟩) rfl rfl rfl) ?_
        refine ht (i := 2) rfl (by kernel_rfl) rfl rfl rfl (fun w hw => hw.back (Gh.refl _) h044 (.cons_cons _ (.cons_cons _ (.cons _ (.cons _ .slnil))))) (q_fl 1 fld_56_1 rfl rfl rfl) ?_
        refine ht (i := 3) rfl (by kernel_rfl) rfl rfl rfl (fun w hw => hw.back (Gh.refl _) h044 (.cons_cons _ (.cons_cons _ (.cons _ (.cons _ .slnil))))) (q_ldl (i := 1) (v := .map (some g1)) rfl rfl Try.isAgg53 rfl rfl) ?_
        refine ht (i := 4) rfl (by kernel_rfl) rfl rfl rfl (fun w hw => hw.back (Gh.refl _) h044 (.cons_cons _ (.cons_cons _ (.cons _ (.cons _ .slnil))))) (q_fl 3 fld_32_3 rfl rfl rfl) ?_
        refine ht (i := 5) rfl (by kernel_rfl) rfl rfl rfl (fun w hw => hw.back (Gh.refl _) h044 (.cons_cons _ (.cons_cons _ (.cons _ (.cons _ .slnil))))) (q_ldla (i := 0) (vs := [.int .i64 (gt list i15).dot.s, .int .i64 (gt list i15).dot.n]) rfl rfl Try.isAgg27 Try.sizeOf27 rfl rfl) ?_
        refine ht (i := 6) rfl (by kernel_rfl) rfl rfl rfl (fun w hw => hw.back (Gh.refl _) h044 (.cons_cons _ (.cons_cons _ (.cons _ (.cons _ .slnil))))) (q_move (v := .int .i64 ((i15 : Nat) : Int)) rfl (by kernel_rfl)) ?_
        refine WH.lone (i := 7) (by kernel_rfl) rfl ?_
        refine e_mapUpdate (i := 3) (x := ((gt list i15).dot)) (v := .int .i64 ((i15 : Nat) : Int)) (a := ((i15 : Nat) : Int)) rfl rfl rfl Try.underlying53 rfl rfl (by kernel_rfl) rfl ho13 (by exact ⟨rfl, (ctr_r0 hl20 hlist.le)⟩) ⟨(hx31 hl20).1.2.2.1, (hx31 hl20).1.2.2.2.1⟩ ?_
        intro row45 hm46
        refine WR.nil ?_
        refine WH.next (fun w hw => hw.back (Gh.refl _) h044 (.cons_cons _ (.cons_cons _ (.cons _ (.cons _ .slnil))))) ?_
        refine WH.done (by kernel_rfl) ?_
        change WC _ _ _ _ _ _
        intro w hw; have h047 := hw.le
        refine WC.here (C := CC F Γ [[(g32, .cells #[.bool (gt list i15).read, .int .i64 (gt list i15).sess, .string (gt list i15).key, .int .i64 (gt list i15).dot.s, .int .i64 (gt list i15).dot.n, .bool (gt list i15).oK, .slice A27 ((gt list i15).reads).length c28, .slice A29 ((gt list i15).seen).length c30] 32 (0, 0))], [(g7, .cells #[.slice Alist list.length clist, .map (some g1), .map (some g4)] 56 (0, 0))], row9, row45]) ?_ hw; clear hw
        refine WC.held (CC F Γ [[(g32, .cells #[.bool (gt list i15).read, .int .i64 (gt list i15).sess, .string (gt list i15).key, .int .i64 (gt list i15).dot.s, .int .i64 (gt list i15).dot.n, .bool (gt list i15).oK, .slice A27 ((gt list i15).reads).length c28, .slice A29 ((gt list i15).seen).length c30] 32 (0, 0))], [(g7, .cells #[.slice Alist list.length clist, .map (some g1), .map (some g4)] 56 (0, 0))]]) (by kernel_rfl) (fun w hw => hw.drawn _) ?_
        change WH _ _ _ _ (CC F Γ [[(g32, .cells #[.bool (gt list i15).read, .int .i64 (gt list i15).sess, .string (gt list i15).key, .int .i64 (gt list i15).dot.s, .int .i64 (gt list i15).dot.n, .bool (gt list i15).oK, .slice A27 ((gt list i15).reads).length c28, .slice A29 ((gt list i15).seen).length c30] 32 (0, 0))], [(g7, .cells #[.slice Alist list.length clist, .map (some g1), .map (some g4)] 56 (0, 0))], row9, row45]) _ 8 #[false, false, false, false, false, false, false, false] _
        refine ht (i := 0) rfl (by kernel_rfl) rfl rfl rfl (fun w hw => hw.back (Gh.refl _) h047 (.cons_cons _ (.cons_cons _ (.cons _ (.cons _ .slnil))))) (q_move (v := .pointer (some ⟨g7, 0, none⟩)) rfl (by kernel_rfl)) ?_
        refine ht (i := 1) rfl (by kernel_rfl) rfl rfl rfl (fun w hw => hw.back (Gh.refl _) h047 (.cons_cons _ (.cons_cons _ (.cons _ (.cons _ .slnil))))) (q_nil (A := some ⟨g7, 0, none⟩) rfl rfl rfl) ?_
        refine ht (i := 2) rfl (by kernel_rfl) rfl rfl rfl (fun w hw => hw.back (Gh.refl _) h047 (.cons_cons _ (.cons_cons _ (.cons _ (.cons _ .slnil))))) (q_fl 2 fld_56_2 rfl rfl rfl) ?_
        refine ht (i := 3) rfl (by kernel_rfl) rfl rfl rfl (fun w hw => hw.back (Gh.refl _) h047 (.cons_cons _ (.cons_cons _ (.cons _ (.cons _ .slnil))))) (q_ldl (i := 1) (v := .map (some g4)) rfl rfl Try.isAgg54 rfl rfl) ?_
        refine ht (i := 4) rfl (by kernel_rfl) rfl rfl rfl (fun w hw => hw.back (Gh.refl _) h047 (.cons_cons _ (.cons_cons _ (.cons _ (.cons _ .slnil))))) (q_fl 3 fld_32_3 rfl rfl rfl) ?_
        refine ht (i := 5) rfl (by kernel_rfl) rfl rfl rfl (fun w hw => hw.back (Gh.refl _) h047 (.cons_cons _ (.cons_cons _ (.cons _ (.cons _ .slnil))))) (q_ldla (i := 0) (vs := [.int .i64 (gt list i15).dot.s, .int .i64 (gt list i15).dot.n]) rfl rfl Try.isAgg27 Try.sizeOf27 rfl rfl) ?_
        refine WH.lone (i := 6) (by kernel_rfl) rfl ?_
        refine e_makeMap kk27 trueV rfl rfl rfl rfl ?_
        intro g48 row49 hm50
        refine WR.nil ?_
        refine WH.next (fun w hw => hw.back (Gh.refl _) h047 (.cons _ (.cons_cons _ (.cons_cons _ (.cons _ (.cons _ .slnil)))))) ?_
        refine WH.lone (i := 7) (by kernel_rfl) rfl ?_
        obtain ⟨hk51, h⟩ := chk_some h
        refine e_mmput (i := 3) (j := 0) (x := ((gt list i15).dot)) rfl rfl ho10 hm50 (not_t hk51) rfl rfl rfl Try.underlying54 rfl rfl rfl ⟨(hx31 hl20).1.2.2.1, (hx31 hl20).1.2.2.2.1⟩ ?_
        intro row52 hm53
        change WR _ _ _ (CC F Γ [row52, [(g32, .cells #[.bool (gt list i15).read, .int .i64 (gt list i15).sess, .string (gt list i15).key, .int .i64 (gt list i15).dot.s, .int .i64 (gt list i15).dot.n, .bool (gt list i15).oK, .slice A27 ((gt list i15).reads).length c28, .slice A29 ((gt list i15).seen).length c30] 32 (0, 0))], [(g7, .cells #[.slice Alist list.length clist, .map (some g1), .map (some g4)] 56 (0, 0))], row45]) _ _ _
        refine WR.nil ?_
        refine WH.next (fun w hw => hw.back (Gh.refl _) h047 (.cons _ (.cons_cons _ (.cons_cons _ (.cons _ .slnil))))) ?_
        refine WH.done (by kernel_rfl) ?_
        intro w hw
        exact ⟨(mput ((gt list i15).dot) ([] : List ((Dot) × Unit)) b8), (mput ((gt list i15).dot) ((i15 : Nat) : Int) m11), row52, row45, h, (sl_ (by kernel_rfl)), (hw.only (is := [2, 0, 1]) rfl), hm53, hm46, trivial⟩
      · skip
        refine WC.skip ?_
        intro w hw
        exact ⟨b8, m11, row9, row12, h, (sl_ (by kernel_rfl)), (hw.only (is := [1, 1, 1]) rfl), ho10, ho13, trivial⟩
    · skip
      rintro σ w ⟨b21, m24, row22, row25, h, hsl, hw, ho23, ho26, -⟩
      refine Wpt.slots hsl ?_
      refine WC.here (C := CC F Γ [[(g7, .cells #[.slice Alist list.length clist, .map (some g1), .map (some g4)] 56 (0, 0))], row22, row25]) ?_ hw
      clear hw hsl
      refine WC.region ?_
      refine va rfl rfl rfl (q_add_r (r := ((i15 + 1 : Nat) : Int)) rfl rfl rfl (ctr_len hl20 hlist.le)) ?_
      refine va rfl rfl rfl (q_move (v := .int .i64 ((i15 + 1 : Nat) : Int)) rfl (by kernel_rfl)) ?_
      refine WR.nil ?_
      intro w hw
      exact ⟨hl20, (b21, m24), h, row22, row25, (sl_ (by kernel_rfl)), hw, ho23, ho26, trivial⟩
  · skip
    have h := hge18 (ige hb19)
    refine WC.exit ?_
    change WC _ _ _ _ _ _
    refine WC.seq ?_
    refine WC.rs ?_
    refine va rfl rfl rfl (q_assign (v := .bool true) rfl (by kernel_rfl)) ?_
    refine WR.nil ?_
    change WC _ _ _ _ _ _
    refine WC.block ?_
    refine WC.loopN h (fun (s : Bool × (List ((Dot) × List ((Dot) × Unit)))) σ w => match s with | (grown_56, b57) => ∃ (Γ54 : Gh), ∃ (row58 : Rowb), slots σ [(3, .pointer (some ⟨g7, 0, none⟩)), (8, .bool grown_56)] ∧ CC F Γ54 [[(g7, .cells #[.slice Alist list.length clist, .map (some g1), .map (some g4)] 56 (0, 0))], row58, row12] w ∧ Gh.le Γ Γ54 ∧ MapM kk27 kk27 trueV Γ54 row58 g4 b57 ∧ True) ?_ ?_
    · skip
      intro w hw
      exact ⟨Γ, row9, (sl_ (by kernel_rfl)), hw, (Gh.refl _), ho10, trivial⟩
    rintro f60 ⟨grown_56, b57⟩ σ w h ⟨Γ54, row58, hsl, hw, hl55, ho59, -⟩
    refine Wpt.slots hsl ?_
    refine WC.here (C := CC F Γ54 [[(g7, .cells #[.slice Alist list.length clist, .map (some g1), .map (some g4)] 56 (0, 0))], row58, row12]) ?_ hw
    clear hw hsl
    refine WC.seq ?_
    refine WC.rs ?_
    refine va rfl rfl rfl (q_move (v := .bool grown_56) rfl (by kernel_rfl)) ?_
    refine WR.nil ?_
    change WC _ _ _ _ _ _
    refine WC.cif h (by kernel_rfl) (fun hb64 h => ?_) (fun hb64 h => ?_)
    · skip
      refine WC.skip ?_
      change WC _ _ _ _ _ _
      refine WC.block ?_
      refine WC.rs ?_
      refine va rfl rfl rfl (q_assign (v := .bool false) rfl (by kernel_rfl)) ?_
      refine WR.nil ?_
      change WC _ _ _ _ _ _
      refine WC.rs ?_
      refine va rfl rfl rfl (q_move (v := .pointer (some ⟨g7, 0, none⟩)) rfl (by kernel_rfl)) ?_
      refine va rfl rfl rfl (q_nil (A := some ⟨g7, 0, none⟩) rfl rfl rfl) ?_
      refine va rfl rfl rfl (q_fl 1 fld_56_1 rfl rfl rfl) ?_
      refine va rfl rfl rfl (q_ldl (i := 0) (v := .map (some g1)) rfl rfl Try.isAgg53 rfl rfl) ?_
      refine e_range (ho13.mono hl55) (fun w hw p hp => hw.at_ (i := 2) rfl hp) rfl rfl rfl Try.underlying53 rfl ?_
      intro g65 row66 hi67
      change WR _ _ _ (CC F Γ54 [row66, [(g7, .cells #[.slice Alist list.length clist, .map (some g1), .map (some g4)] 56 (0, 0))], row58, row12]) _ _ (upd _ 66 (.pointer (some ⟨g65, 0, none⟩)))
      refine WR.nil ?_
      change WC _ _ _ _ _ _
      refine WC.block ?_
      refine WC.anyX h (fun (l68 : List ((Dot) × Int)) (s : Bool × (List ((Dot) × List ((Dot) × Unit)))) σ w => match s with | (grown_71, b74) => ∃ (Γ69 : Gh), ∃ (row72 : Rowb), ∃ (row75 : Rowb), slots σ [(3, .pointer (some ⟨g7, 0, none⟩)), (8, .bool grown_71), (66, .pointer (some ⟨g65, 0, none⟩))] ∧ CC F Γ69 [row72, [(g7, .cells #[.slice Alist list.length clist, .map (some g1), .map (some g4)] 56 (0, 0))], row75, row12] w ∧ Gh.le Γ54 Γ69 ∧ ItO kk27 intT.v Γ69 row72 g65 g1 row12 m11 l68 ∧ MapM kk27 kk27 trueV Γ69 row75 g4 b74 ∧ True) ?_ ?_
      · skip
        intro w hw
        exact ⟨Γ54, row66, row58, (sl_ (by kernel_rfl)), hw, (Gh.refl _), hi67, ho59, trivial⟩
      rintro G82 l68 ⟨grown_71, b74⟩ σ w hstep77 hK78 ⟨Γ69, row72, row75, hsl, hw, hl70, hi73, ho76, -⟩
      refine Wpt.slots hsl ?_
      refine WC.here (C := CC F Γ69 [row72, [(g7, .cells #[.slice Alist list.length clist, .map (some g1), .map (some g4)] 56 (0, 0))], row75, row12]) ?_ hw
      clear hw hsl
      refine WC.rs ?_
      refine e_next (i := 0) rfl (ho13.mono (hl55.trans hl70)).ks hi73 (fun w hw p hp => hw.at_ (i := 3) rfl hp) rfl rfl rfl rfl (fun hl83 => ?_) (fun en84 l85 v86 row87 hp88 hok89 hv90 hit91 he92 => ?_)
      · skip
        have h := hK78 hl83
        change WR _ _ _ (CC F Γ69 [row72, [(g7, .cells #[.slice Alist list.length clist, .map (some g1), .map (some g4)] 56 (0, 0))], row75, row12]) _ _ (upd _ 67 (.tuple #[.bool false]))
        refine va rfl rfl rfl (q_extract (v := .bool false) rfl rfl rfl) ?_
        refine WR.nil ?_
        change WC _ _ _ _ _ _
        refine WC.seq ?_
        refine WC.cfk (b := false) (by kernel_rfl) rfl ?_
        refine WC.exit ?_
        intro w hw
        exact ⟨(grown_71, b74), h, Γ69, row75, (sl_ (by kernel_rfl)), (hw.only (is := [1, 1, 1]) rfl), (hl55.trans hl70), ho76, trivial⟩
      · skip
        obtain ⟨hlen79, o93, h, hgo81⟩ := hstep77 en84 l85 hp88
        obtain ⟨hv90, hi94⟩ := hv90
        obtain rfl : v86 = _ := List.cons.inj hv90 |>.1
        change WR _ _ _ (CC F Γ69 [row87, [(g7, .cells #[.slice Alist list.length clist, .map (some g1), .map (some g4)] 56 (0, 0))], row75, row12]) _ _ (upd _ 67 (.tuple #[.bool true, .agg #[.int .i64 en84.1.s, .int .i64 en84.1.n], .int .i64 en84.2]))
        refine va rfl rfl rfl (q_extract (v := .bool true) rfl rfl rfl) ?_
        refine WR.nil ?_
        change WC _ _ _ _ _ _
        refine WC.seq ?_
        refine WC.ctk (b := true) (by kernel_rfl) rfl ?_
        refine WC.skip ?_
        change WC _ _ _ _ _ _
        refine WC.block ?_
        refine WC.rs ?_
        refine va rfl rfl rfl (q_entry (kv := .agg #[.int .i64 en84.1.s, .int .i64 en84.1.n]) (v := .int .i64 en84.2) (i := 0) rfl he92 (fun w hw p hp => hw.at_ (i := 3) rfl hp) rfl rfl) ?_
        refine va rfl rfl rfl (q_extract (v := .agg #[.int .i64 en84.1.s, .int .i64 en84.1.n]) rfl rfl rfl) ?_
        refine va rfl rfl rfl (q_extract (v := .int .i64 en84.2) rfl rfl rfl) ?_
        refine e_alloc Try.zeroValue27 rfl rfl rfl rfl ?_
        intro g95
        refine e_st (i := 0) (v := .agg #[.int .i64 en84.1.s, .int .i64 en84.1.n]) (new := #[.int .i64 en84.1.s, .int .i64 en84.1.n]) rfl Try.sizeOf27 rfl rfl rfl rfl (by kernel_rfl) rfl rfl rfl rfl ?_
        refine va rfl rfl rfl (q_assign (v := .int .i64 en84.2) rfl (by kernel_rfl)) ?_
        refine WR.nil ?_
        change WC _ _ _ _ _ _
        refine WC.seq ?_
        intro w hw; have h096 := hw.le
        refine WC.here (C := CC F Γ69 [[(g95, .cells #[.int .i64 en84.1.s, .int .i64 en84.1.n] 27 (0, 0))], row87, [(g7, .cells #[.slice Alist list.length clist, .map (some g1), .map (some g4)] 56 (0, 0))], row75, row12]) ?_ hw; clear hw
        refine WC.held (CC F Γ69 [[(g95, .cells #[.int .i64 en84.1.s, .int .i64 en84.1.n] 27 (0, 0))], row87, [(g7, .cells #[.slice Alist list.length clist, .map (some g1), .map (some g4)] 56 (0, 0))]]) (by kernel_rfl) (fun w hw => hw.drawn _) ?_
        change WH _ _ _ _ (CC F Γ69 [[(g95, .cells #[.int .i64 en84.1.s, .int .i64 en84.1.n] 27 (0, 0))], row87, [(g7, .cells #[.slice Alist list.length clist, .map (some g1), .map (some g4)] 56 (0, 0))], row75, row12]) _ 10 #[false, false, false, false, false, false, false, false, false, false] _
        refine ht (i := 0) rfl (by kernel_rfl) rfl rfl rfl (fun w hw => hw.back (Gh.refl _) h096 (.cons_cons _ (.cons_cons _ (.cons_cons _ (.cons _ (.cons _ .slnil)))))) (q_move (v := .pointer (some ⟨g7, 0, none⟩)) rfl (by kernel_rfl)) ?_
        refine ht (i := 1) rfl (by kernel_rfl) rfl rfl rfl (fun w hw => hw.back (Gh.refl _) h096 (.cons_cons _ (.cons_cons _ (.cons_cons _ (.cons _ (.cons _ .slnil)))))) (q_nil (A := some ⟨g7, 0, none⟩) rfl rfl rfl) ?_
        refine ht (i := 2) rfl (by kernel_rfl) rfl rfl rfl (fun w hw => hw.back (Gh.refl _) h096 (.cons_cons _ (.cons_cons _ (.cons_cons _ (.cons _ (.cons _ .slnil)))))) (q_fl 2 fld_56_2 rfl rfl rfl) ?_
        refine ht (i := 3) rfl (by kernel_rfl) rfl rfl rfl (fun w hw => hw.back (Gh.refl _) h096 (.cons_cons _ (.cons_cons _ (.cons_cons _ (.cons _ (.cons _ .slnil)))))) (q_ldl (i := 2) (v := .map (some g4)) rfl rfl Try.isAgg54 rfl rfl) ?_
        refine ht (i := 4) rfl (by kernel_rfl) rfl rfl rfl (fun w hw => hw.back (Gh.refl _) h096 (.cons_cons _ (.cons_cons _ (.cons_cons _ (.cons _ (.cons _ .slnil)))))) (q_ldla (i := 0) (vs := [.int .i64 en84.1.s, .int .i64 en84.1.n]) rfl rfl Try.isAgg27 Try.sizeOf27 rfl rfl) ?_
        refine ht (i := 6) rfl (by kernel_rfl) rfl rfl rfl (fun w hw => hw.back (Gh.refl _) h096 (.cons_cons _ (.cons_cons _ (.cons_cons _ (.cons _ (.cons _ .slnil)))))) (q_move (v := .pointer (some ⟨g7, 0, none⟩)) rfl (by kernel_rfl)) ?_
        refine ht (i := 7) rfl (by kernel_rfl) rfl rfl rfl (fun w hw => hw.back (Gh.refl _) h096 (.cons_cons _ (.cons_cons _ (.cons_cons _ (.cons _ (.cons _ .slnil)))))) (q_move (v := .int .i64 en84.2) rfl (by kernel_rfl)) ?_
        obtain ⟨hk97, h⟩ := chk_some h
        obtain ⟨z98, hz99, h⟩ := bnd h
        refine WH.each (l := [5, 8]) (by kernel_rfl) (by simp) ?_
        intro i hi; simp only [List.mem_cons, List.not_mem_nil, or_false] at hi
        rcases hi with rfl | rfl
        · refine ⟨_, rfl, ?_⟩
          obtain ⟨gs100, rM101, rA102, rS103, rB104, hat105, hsub106, hrow107, hm108, hback109⟩ := MapM.part ho76 hk97
          refine va rfl rfl rfl (q_lookup1r (v := .map (some gs100)) (fun w hw p hp => hw.at_ (i := 3) rfl (by rw [hrow107]; exact List.mem_append.2 (.inl (hsub106 p hp)))) hat105 rfl Try.underlying54 Try.zeroValue52 rfl rfl) ?_
          refine WR.nil ?_
          refine WH.next (fun w hw => hw.back (Gh.refl _) h096 (.cons_cons _ (.cons_cons _ (.cons_cons _ (.cons _ (.cons _ .slnil)))))) ?_
          refine WH.lone (i := 8) (by kernel_rfl) rfl ?_
          have hm110 := ho76.any (Δ := B) (fun h => h)
          have hm111 := (ho13.mono (hl55.trans hl70)).any (Δ := B) (fun h => h)
          obtain ⟨row_112, hrow_112, hob_112⟩ : ∃ rw : Rowb, rw = ([[(g7, .cells #[.slice Alist list.length clist, .map (some g1), .map (some g4)] 56 (0, 0))], row12, row75] : List Rowb).flatten ∧ Ojudge_trial.ob 56 B g7 rw (⟨list, m11, b74⟩ : Ojudge_trial) := ⟨_, rfl, Alist, clist, g1, row12, g4, row75, rfl, hlistc, hlist, hm111, hm110, trivial⟩
          refine e_callB (is := []) hB rfl rfl (call_run Try.call28 rfl rfl (by kernel_rfl)) rfl (fun w Θ hp hpB hle hleB hR => t_judge_trial_saw_l1 (hob_112.mono hleB) (raR hR (is := [2, 3, 2]) rfl hrow_112) en84.2 hi94 hp hpB hz99) ?_
          rintro Γ113 U115 v116 hl114 ⟨g117, row118, rfl, rfl, hr119, _⟩
          change WR _ _ _ (CC F Γ113 [row118, [(g95, .cells #[.int .i64 en84.1.s, .int .i64 en84.1.n] 27 (0, 0))], row87, [(g7, .cells #[.slice Alist list.length clist, .map (some g1), .map (some g4)] 56 (0, 0))], row75, row12]) _ _ (upd _ 80 (.map (some g117)))
          refine WR.nil ?_
          refine WH.next (fun w hw => hw.back hl114 h096 (.cons _ (.cons_cons _ (.cons_cons _ (.cons_cons _ (.cons _ (.cons _ .slnil))))))) ?_
          refine WH.lone (i := 9) (by kernel_rfl) rfl ?_
          intro w hw; have hw := hw.unfold (U := [rA102, rS103, rB104]) (i := 4) rfl (by rw [hrow107]; simp)
          refine WR.here (C := CC F Γ113 [rA102, rS103, rB104, row118, [(g95, .cells #[.int .i64 en84.1.s, .int .i64 en84.1.n] 27 (0, 0))], row87, [(g7, .cells #[.slice Alist list.length clist, .map (some g1), .map (some g4)] 56 (0, 0))], row12]) ?_ hw
          clear hw
          obtain ⟨z120, hz121, h⟩ := bnd h
          refine e_callB (is := [1]) hB rfl rfl (call_run Try.call27 rfl rfl (by kernel_rfl)) rfl (fun w Θ hp hpB hle hleB hR => t_judge_dots_join (hm108.mono hl114) (ZM.of (hr119.mono hle) (fun p hp => hR _ (List.mem_of_getElem? (i := 2) rfl) p hp)) hp hpB hz121) ?_
          rintro Γ122 U124 v125 hl123 ⟨row126, rfl, rfl, hr127, _⟩
          change WR _ _ _ (CC F Γ122 [row126, rA102, rB104, row118, [(g95, .cells #[.int .i64 en84.1.s, .int .i64 en84.1.n] 27 (0, 0))], row87, [(g7, .cells #[.slice Alist list.length clist, .map (some g1), .map (some g4)] 56 (0, 0))], row12]) _ _ (upd _ 81 (.bool z120.2))
          obtain ⟨row128, hrow129, hm130⟩ : ∃ rw : Rowb, rw = ([rA102, row126, rB104] : List Rowb).flatten ∧ MapM kk27 kk27 trueV Γ122 rw g4 (mput en84.1 z120.1 b74) := ⟨_, rfl, by simpa using hback109 _ _ _ (hl114.trans hl123) hr127⟩
          intro w hw; have hw := hw.fold (is := [1, 0, 0]) rfl hrow129
          refine WR.here (C := CC F Γ122 [row128, row118, [(g95, .cells #[.int .i64 en84.1.s, .int .i64 en84.1.n] 27 (0, 0))], row87, [(g7, .cells #[.slice Alist list.length clist, .map (some g1), .map (some g4)] 56 (0, 0))], row12]) ?_ hw
          clear hw
          refine WR.nil ?_
          refine WH.next (fun w hw => hw.back (hl114.trans hl123) h096 (.cons _ (.cons _ (.cons_cons _ (.cons_cons _ (.cons_cons _ (.cons _ .slnil))))))) ?_
          refine WH.done (by kernel_rfl) ?_
          change WC _ _ _ _ _ _
          refine WC.cif h (by kernel_rfl) (fun hb131 h => ?_) (fun hb131 h => ?_)
          · skip
            refine WC.region ?_
            refine va rfl rfl rfl (q_assign (v := .bool true) rfl (by kernel_rfl)) ?_
            refine WR.nil ?_
            intro w hw
            obtain rfl := Option.some.inj h
            exact ⟨l85, _, hlen79, hgo81, Γ122, row87, row128, (sl_ (by kernel_rfl)), (hw.only (is := [3, 3, 0, 2]) rfl), ((hl70.trans hl114).trans hl123), (hit91.mono (hl114.trans hl123)), hm130, trivial⟩
          · skip
            refine WC.skip ?_
            intro w hw
            obtain rfl := Option.some.inj h
            exact ⟨l85, _, hlen79, hgo81, Γ122, row87, row128, (sl_ (by kernel_rfl)), (hw.only (is := [3, 3, 0, 2]) rfl), ((hl70.trans hl114).trans hl123), (hit91.mono (hl114.trans hl123)), hm130, trivial⟩
        · refine ⟨_, rfl, ?_⟩
          have hm100 := ho76.any (Δ := B) (fun h => h)
          have hm101 := (ho13.mono (hl55.trans hl70)).any (Δ := B) (fun h => h)
          obtain ⟨row_102, hrow_102, hob_102⟩ : ∃ rw : Rowb, rw = ([[(g7, .cells #[.slice Alist list.length clist, .map (some g1), .map (some g4)] 56 (0, 0))], row12, row75] : List Rowb).flatten ∧ Ojudge_trial.ob 56 B g7 rw (⟨list, m11, b74⟩ : Ojudge_trial) := ⟨_, rfl, Alist, clist, g1, row12, g4, row75, rfl, hlistc, hlist, hm101, hm100, trivial⟩
          refine e_callB (is := []) hB rfl rfl (call_run Try.call28 rfl rfl (by kernel_rfl)) rfl (fun w Θ hp hpB hle hleB hR => t_judge_trial_saw_l1 (hob_102.mono hleB) (raR hR (is := [2, 3, 2]) rfl hrow_102) en84.2 hi94 hp hpB hz99) ?_
          rintro Γ103 U105 v106 hl104 ⟨g107, row108, rfl, rfl, hr109, _⟩
          change WR _ _ _ (CC F Γ103 [row108, [(g95, .cells #[.int .i64 en84.1.s, .int .i64 en84.1.n] 27 (0, 0))], row87, [(g7, .cells #[.slice Alist list.length clist, .map (some g1), .map (some g4)] 56 (0, 0))], row75, row12]) _ _ (upd _ 80 (.map (some g107)))
          refine WR.nil ?_
          refine WH.next (fun w hw => hw.back hl104 h096 (.cons _ (.cons_cons _ (.cons_cons _ (.cons_cons _ (.cons _ (.cons _ .slnil))))))) ?_
          refine WH.lone (i := 5) (by kernel_rfl) rfl ?_
          obtain ⟨gs110, rM111, rA112, rS113, rB114, hat115, hsub116, hrow117, hm118, hback119⟩ := MapM.part (ho76.mono hl104) hk97
          refine va rfl rfl rfl (q_lookup1r (v := .map (some gs110)) (fun w hw p hp => hw.at_ (i := 4) rfl (by rw [hrow117]; exact List.mem_append.2 (.inl (hsub116 p hp)))) hat115 rfl Try.underlying54 Try.zeroValue52 rfl rfl) ?_
          refine WR.nil ?_
          refine WH.next (fun w hw => hw.back hl104 h096 (.cons _ (.cons_cons _ (.cons_cons _ (.cons_cons _ (.cons _ (.cons _ .slnil))))))) ?_
          refine WH.lone (i := 9) (by kernel_rfl) rfl ?_
          intro w hw; have hw := hw.unfold (U := [rA112, rS113, rB114]) (i := 4) rfl (by rw [hrow117]; simp)
          refine WR.here (C := CC F Γ103 [rA112, rS113, rB114, row108, [(g95, .cells #[.int .i64 en84.1.s, .int .i64 en84.1.n] 27 (0, 0))], row87, [(g7, .cells #[.slice Alist list.length clist, .map (some g1), .map (some g4)] 56 (0, 0))], row12]) ?_ hw
          clear hw
          obtain ⟨z120, hz121, h⟩ := bnd h
          refine e_callB (is := [1]) hB rfl rfl (call_run Try.call27 rfl rfl (by kernel_rfl)) rfl (fun w Θ hp hpB hle hleB hR => t_judge_dots_join hm118 (ZM.of (hr109.mono hle) (fun p hp => hR _ (List.mem_of_getElem? (i := 2) rfl) p hp)) hp hpB hz121) ?_
          rintro Γ122 U124 v125 hl123 ⟨row126, rfl, rfl, hr127, _⟩
          change WR _ _ _ (CC F Γ122 [row126, rA112, rB114, row108, [(g95, .cells #[.int .i64 en84.1.s, .int .i64 en84.1.n] 27 (0, 0))], row87, [(g7, .cells #[.slice Alist list.length clist, .map (some g1), .map (some g4)] 56 (0, 0))], row12]) _ _ (upd _ 81 (.bool z120.2))
          obtain ⟨row128, hrow129, hm130⟩ : ∃ rw : Rowb, rw = ([rA112, row126, rB114] : List Rowb).flatten ∧ MapM kk27 kk27 trueV Γ122 rw g4 (mput en84.1 z120.1 b74) := ⟨_, rfl, by simpa using hback119 _ _ _ hl123 hr127⟩
          intro w hw; have hw := hw.fold (is := [1, 0, 0]) rfl hrow129
          refine WR.here (C := CC F Γ122 [row128, row108, [(g95, .cells #[.int .i64 en84.1.s, .int .i64 en84.1.n] 27 (0, 0))], row87, [(g7, .cells #[.slice Alist list.length clist, .map (some g1), .map (some g4)] 56 (0, 0))], row12]) ?_ hw
          clear hw
          refine WR.nil ?_
          refine WH.next (fun w hw => hw.back (hl104.trans hl123) h096 (.cons _ (.cons _ (.cons_cons _ (.cons_cons _ (.cons_cons _ (.cons _ .slnil))))))) ?_
          refine WH.done (by kernel_rfl) ?_
          change WC _ _ _ _ _ _
          refine WC.cif h (by kernel_rfl) (fun hb131 h => ?_) (fun hb131 h => ?_)
          · skip
            refine WC.region ?_
            refine va rfl rfl rfl (q_assign (v := .bool true) rfl (by kernel_rfl)) ?_
            refine WR.nil ?_
            intro w hw
            obtain rfl := Option.some.inj h
            exact ⟨l85, _, hlen79, hgo81, Γ122, row87, row128, (sl_ (by kernel_rfl)), (hw.only (is := [3, 3, 0, 2]) rfl), ((hl70.trans hl104).trans hl123), (hit91.mono (hl104.trans hl123)), hm130, trivial⟩
          · skip
            refine WC.skip ?_
            intro w hw
            obtain rfl := Option.some.inj h
            exact ⟨l85, _, hlen79, hgo81, Γ122, row87, row128, (sl_ (by kernel_rfl)), (hw.only (is := [3, 3, 0, 2]) rfl), ((hl70.trans hl104).trans hl123), (hit91.mono (hl104.trans hl123)), hm130, trivial⟩
    · skip
      refine WC.exit ?_
      change WC _ _ _ _ _ _
      refine WC.rs ?_
      refine va rfl rfl rfl (q_move (v := .pointer (some ⟨g7, 0, none⟩)) rfl (by kernel_rfl)) ?_
      refine va rfl rfl rfl (q_assign (v := .pointer (some ⟨g7, 0, none⟩)) rfl (by kernel_rfl)) ?_
      refine WR.nil ?_
      change WC _ _ _ _ _ _
      refine WC.ret ?_
      intro w hw
      have hm132 := ho59.any (Δ := B) (fun h => h)
      have hm133 := (ho13.mono hl55).any (Δ := B) (fun h => h)
      obtain ⟨row_134, hrow_134, hob_134⟩ : ∃ rw : Rowb, rw = ([[(g7, .cells #[.slice Alist list.length clist, .map (some g1), .map (some g4)] 56 (0, 0))], row12, row58] : List Rowb).flatten ∧ Ojudge_trial.ob 56 B g7 rw (⟨list, m11, b57⟩ : Ojudge_trial) := ⟨_, rfl, Alist, clist, g1, row12, g4, row58, rfl, hlistc, hlist, hm133, hm132, trivial⟩
      have hw := hw.fold (is := [0, 1, 0]) rfl hrow_134
      obtain rfl := Option.some.inj h
      subst hF
      exact end_e (is := [0]) (by kernel_rfl) hw rfl ⟨g7, row_134, rfl, rfl, hob_134, trivial⟩
abbrev r_judge_trial_writing_l0 (r : Int) (U : List Rowb) (Γ : Gh) (v : Value) : Prop := v = .int .i64 r ∧ U = [] ∧ I64 r ∧ True
set_option maxRecDepth 100000 in
set_option maxHeartbeats 400000 in
theorem t_judge_trial_writing_l0 {Γ : Gh} {w0 : World} {B : Gh} {gt_ et_ : Nat} {rowt_ : Rowb} {t_ : Ojudge_trial} (ht_ : Ojudge_trial.ob et_ B gt_ rowt_ t_) (ht_r : ∀ p ∈ rowt_, B p.1 = some p.2) (i_ : Int) (hi_ : I64 i_) (hp : Pre [] Γ w0) (hpB : Pre [] B w0) {r : Int} (h : m_judge_trial_writing_l0 t_ i_ = some r) : Calls Try.prog 22 #[.pointer (some ⟨gt_, 0, none⟩), .int .i64 i_] w0 (Outc Γ [] w0 (r_judge_trial_writing_l0 r)) := by
  refine calls_of (N := 27) (rs := [4]) (args := [.pointer (some ⟨gt_, 0, none⟩), .int .i64 i_]) Try.func22 rfl Try.ntmps22 Try.results22 rfl ?_
  obtain ⟨F, hF⟩ : ∃ F : Fm, F = ⟨ids [], w0, Γ⟩ := ⟨_, rfl⟩
  refine WC.here (C := CC F Γ []) ?_ (hF ▸ hp.start)
  have hB : Lent F B := hF ▸ Lent.start hpB
  refine WC.rs ?_
  refine va rfl rfl rfl (q_assign (v := .int .i64 0) rfl (by kernel_rfl)) ?_
  refine WR.nil ?_
  change WC _ _ _ _ _ _
  refine WC.rs ?_
  refine va rfl rfl rfl (q_move (v := .pointer (some ⟨gt_, 0, none⟩)) rfl (by kernel_rfl)) ?_
  refine va rfl rfl rfl (q_nil (A := some ⟨gt_, 0, none⟩) rfl rfl rfl) ?_
  refine va rfl rfl rfl (q_fl 0 fld_56_0 rfl rfl rfl) ?_
  have hq := ht_
  obtain ⟨A0_1, c0_1, m1_1, r1_1, m2_1, r2_1, hrow_1, ho0_1, ho1_1, ho2_1, ho3_1, -⟩ := hq
  have hg_2 : ∀ u ∈ ([[(gt_, .cells #[.slice A0_1 t_.list.length c0_1, .map (some m1_1), .map (some m2_1)] et_ (0, 0))], r1_1, r2_1] : List Rowb), ∀ p ∈ u, B p.1 = some p.2 := fun u hu p hp => (fun p hp => (ht_r p hp)) p (hrow_1 ▸ List.mem_flatten.2 ⟨u, hu, hp⟩)
  have hgc3 := hg_2 _ (List.mem_cons_self ..) (gt_, _) (List.mem_singleton.2 rfl)
  have hgs4 := hg_2 r1_1 (by simp)
  have hgs5 := hg_2 r2_1 (by simp)
  refine va rfl rfl rfl (q_via (fun w hw => hB.sat hw) fun F => (q_ldg (v := .slice A0_1 t_.list.length c0_1) hgc3 rfl Try.isAgg24 rfl rfl)) ?_
  refine va rfl rfl rfl (q_move (v := .int .i64 i_) rfl (by kernel_rfl)) ?_
  obtain ⟨hk6, h⟩ := chk_some h
  refine va rfl rfl rfl (q_ix Try.underlying24 Try.sizeOf32 rfl rfl rfl hk6 (ho1_1.some_ (inb_lt hk6))) ?_
  refine va rfl rfl rfl (q_field_addr (i_.toNat * 8 + 3) fld_32_3 rfl rfl (ho1_1.some_ (inb_lt hk6)) rfl) ?_
  obtain ⟨A7, c8, A9, c10, hx11⟩ := ho1_1.djudge_ActT_at i_.toNat
  refine va rfl rfl rfl (q_ldaS (c := 3) (vs := [.int .i64 (gt t_.list i_.toNat).dot.s, .int .i64 (gt t_.list i_.toNat).dot.n]) (fun w hw => hB.sat hw) (hx11 (inb_lt hk6)).2 rfl Try.isAgg27 Try.sizeOf27 rfl rfl rfl) ?_
  refine e_alloc Try.zeroValue27 rfl rfl rfl rfl ?_
  intro g12
  refine e_st (i := 0) (v := .agg #[.int .i64 (gt t_.list i_.toNat).dot.s, .int .i64 (gt t_.list i_.toNat).dot.n]) (new := #[.int .i64 (gt t_.list i_.toNat).dot.s, .int .i64 (gt t_.list i_.toNat).dot.n]) rfl Try.sizeOf27 rfl rfl rfl rfl (by kernel_rfl) rfl rfl rfl rfl ?_
  refine WR.nil ?_
  change WC _ _ _ _ _ _
  refine WC.seq ?_
  refine WC.seq ?_
  refine WC.dr (by kernel_rfl) (by kernel_rfl) (fun w hw => hw.drawn _) ?_
  refine wa rfl rfl rfl (q_fl 1 fld_27_1 rfl rfl rfl) ?_
  refine wa rfl rfl rfl (q_ldl (i := 0) (v := .int .i64 (gt t_.list i_.toNat).dot.n) rfl rfl Try.isAgg2 rfl rfl) ?_
  refine wa rfl rfl rfl (q_gtr rfl rfl rfl) ?_
  refine wa rfl rfl rfl (q_move (v := .bool (decide (0 < (gt t_.list i_.toNat).dot.n))) rfl (by kernel_rfl)) ?_
  refine wg1 rfl rfl rfl rfl rfl (fun hg13 => QV.qo (q_move (v := .pointer (some ⟨gt_, 0, none⟩)) rfl (by kernel_rfl))) ?_
  refine wg1 rfl rfl rfl rfl rfl (fun hg14 => QV.qo (q_nil (A := some ⟨gt_, 0, none⟩) rfl (gu hg14 rfl) rfl)) ?_
  refine wg1 rfl rfl rfl rfl rfl (fun hg15 => QV.qo (q_fl 1 fld_56_1 rfl (gu hg15 rfl) rfl)) ?_
  refine wg1 rfl rfl rfl rfl rfl (fun hg16 => QV.qo (q_via (fun w hw => hB.sat hw) fun F => (q_ldg (v := .map (some m1_1)) hgc3 rfl Try.isAgg53 (gu hg16 rfl) rfl))) ?_
  refine wg1 rfl rfl rfl rfl rfl (fun hg17 => QV.qo (q_ldla (i := 0) (vs := [.int .i64 (gt t_.list i_.toNat).dot.s, .int .i64 (gt t_.list i_.toNat).dot.n]) rfl rfl Try.isAgg27 Try.sizeOf27 rfl rfl)) ?_
  obtain ⟨v19, ⟨hv20, hi22⟩, hat21⟩ := MapO.look ho2_1 ((gt t_.list i_.toNat).dot) (z := .int .i64 0) (zx := 0) ⟨rfl, by decide⟩
  obtain rfl : v19 = _ := List.cons.inj hv20 |>.1
  refine wg1 rfl rfl rfl rfl rfl (fun hg18 => QV.qo (q_via (fun w hw => hB.sat hw) fun F => (q_lookup1g (v := .int .i64 ((mget ((gt t_.list i_.toNat).dot) t_.first).getD 0)) (fun p hp => (hgs4 p hp)) hat21 rfl Try.underlying53 Try.zeroValue3 (gu hg18 rfl) (gu hg18 rfl)))) ?_
  refine wg1 rfl rfl rfl rfl rfl (fun hg23 => QV.qo (q_move (v := .int .i64 i_) rfl (by kernel_rfl))) ?_
  refine wg1 rfl rfl rfl rfl rfl (fun hg24 => QV.qo (q_neq rfl (gu hg24 rfl) (gu hg24 rfl))) ?_
  refine wa rfl rfl rfl (q_pick rfl rfl (pk_and' (g := (decide (0 < (gt t_.list i_.toNat).dot.n))) (y := (((mget ((gt t_.list i_.toNat).dot) t_.first).getD 0) != i_)))) ?_
  refine WQ.nil ?_
  change WC _ _ _ _ _ _
  refine WC.cif h (by kernel_rfl) (fun hb25 h => ?_) (fun hb25 h => ?_)
  · skip
    refine WC.rs ?_
    refine va rfl rfl rfl (q_assign (v := .int .i64 1) rfl (by kernel_rfl)) ?_
    refine WR.nil ?_
    change WC _ _ _ _ _ _
    refine WC.ret ?_
    intro w hw
    obtain rfl := Option.some.inj h
    subst hF
    exact end_e (is := []) (by kernel_rfl) hw rfl ⟨rfl, rfl, (show I64 1 by decide), trivial⟩
  · skip
    refine WC.skip ?_
    change WC _ _ _ _ _ _
    refine WC.rs ?_
    refine va rfl rfl rfl (q_assign (v := .int .i64 0) rfl (by kernel_rfl)) ?_
    refine WR.nil ?_
    change WC _ _ _ _ _ _
    refine WC.ret ?_
    intro w hw
    obtain rfl := Option.some.inj h
    subst hF
    exact end_e (is := []) (by kernel_rfl) hw rfl ⟨rfl, rfl, (show I64 0 by decide), trivial⟩
set_option maxRecDepth 100000 in
set_option maxHeartbeats 400000 in
theorem t_vect_Covers {Γ : Gh} {w0 : World} {Av_ : Option Addr} {cv_ : Nat} {v_ : List Int} (hv_ : Sl intT Γ Av_ v_) (hv_c : v_.length ≤ cv_) (d : Dot) (hd : Dot.fits Γ  d) (hs : Sat Γ w0) {r : Bool} (h : m_vect_Covers v_ d = some r) : Calls Try.prog 36 #[.slice Av_ v_.length cv_, .agg #[.int .i64 d.s, .int .i64 d.n]] w0 (fun e w' => e = .returned (.bool r) ∧ Fr no w0 w') := by
  refine calls_of (N := 31) (rs := [4]) (args := [.slice Av_ v_.length cv_, .agg #[.int .i64 d.s, .int .i64 d.n]]) Try.func36 rfl Try.ntmps36 Try.results36 rfl ?_
  obtain ⟨F, hF⟩ : ∃ F : Fm, F = ⟨no, w0, Γ⟩ := ⟨_, rfl⟩
  refine WC.here (C := CC F Γ []) ?_ (hF ▸ Cur.start0 hs)
  refine WC.rs ?_
  refine e_box (v := .agg #[.int .i64 d.s, .int .i64 d.n]) rfl rfl rfl rfl (by kernel_rfl) ?_
  intro g1
  refine va rfl rfl rfl (q_assign (v := .bool false) rfl (by kernel_rfl)) ?_
  refine WR.nil ?_
  change WC _ _ _ _ _ _
  refine WC.seq ?_
  refine WC.dr (by kernel_rfl) (by kernel_rfl) (fun w hw => hw.drawn _) ?_
  refine wa rfl rfl rfl (q_fl 0 fld_27_0 rfl rfl rfl) ?_
  refine wa rfl rfl rfl (q_ldl (i := 0) (v := .int .i64 d.s) rfl rfl Try.isAgg3 rfl rfl) ?_
  refine wa rfl rfl rfl (q_geq rfl rfl rfl) ?_
  refine wa rfl rfl rfl (q_move (v := .bool (decide (1 ≤ d.s))) rfl (by kernel_rfl)) ?_
  refine wg1 rfl rfl rfl rfl rfl (fun hg2 => QV.qo (q_fl 0 fld_27_0 rfl rfl rfl)) ?_
  refine wg1 rfl rfl rfl rfl rfl (fun hg3 => QV.qo (q_ldl (i := 0) (v := .int .i64 d.s) rfl rfl Try.isAgg3 (gu hg3 rfl) rfl)) ?_
  refine wg1 rfl rfl rfl rfl rfl (fun hg4 => QV.qo (q_move (v := .slice Av_ v_.length cv_) rfl (by kernel_rfl))) ?_
  refine wg1 rfl rfl rfl rfl rfl (fun hg5 => QV.qo (q_len_slice rfl Try.underlying30 (gu hg5 rfl))) ?_
  refine wg1 rfl rfl rfl rfl rfl (fun hg6 => QV.qo (q_leq rfl (gu hg6 rfl) (gu hg6 rfl))) ?_
  refine wa rfl rfl rfl (q_pick rfl rfl (pk_and' (g := (decide (1 ≤ d.s))) (y := (decide (d.s ≤ ((v_.length : Nat) : Int)))))) ?_
  refine wa rfl rfl rfl (q_move (v := .bool ((decide (1 ≤ d.s)) && (decide (d.s ≤ ((v_.length : Nat) : Int))))) rfl (by kernel_rfl)) ?_
  refine wg1 rfl rfl rfl rfl rfl (fun hg7 => QV.qo (q_fl 1 fld_27_1 rfl rfl rfl)) ?_
  refine wg1 rfl rfl rfl rfl rfl (fun hg8 => QV.qo (q_ldl (i := 0) (v := .int .i64 d.n) rfl rfl Try.isAgg2 (gu hg8 rfl) rfl)) ?_
  refine wg1 rfl rfl rfl rfl rfl (fun hg9 => QV.qo (q_geq rfl (gu hg9 rfl) rfl)) ?_
  refine wa rfl rfl rfl (q_pick rfl rfl (pk_and' (g := ((decide (1 ≤ d.s)) && (decide (d.s ≤ ((v_.length : Nat) : Int))))) (y := (decide (1 ≤ d.n))))) ?_
  refine wa rfl rfl rfl (q_move (v := .bool (((decide (1 ≤ d.s)) && (decide (d.s ≤ ((v_.length : Nat) : Int)))) && (decide (1 ≤ d.n)))) rfl (by kernel_rfl)) ?_
  refine wg1 rfl rfl rfl rfl rfl (fun hg10 => QV.qo (q_fl 1 fld_27_1 rfl rfl rfl)) ?_
  refine wg1 rfl rfl rfl rfl rfl (fun hg11 => QV.qo (q_ldl (i := 0) (v := .int .i64 d.n) rfl rfl Try.isAgg2 (gu hg11 rfl) rfl)) ?_
  refine wg1 rfl rfl rfl rfl rfl (fun hg12 => QV.qo (q_move (v := .slice Av_ v_.length cv_) rfl (by kernel_rfl))) ?_
  refine wg1 rfl rfl rfl rfl rfl (fun hg13 => QV.qo (q_fl 0 fld_27_0 rfl rfl rfl)) ?_
  refine wg1 rfl rfl rfl rfl rfl (fun hg14 => QV.qo (q_ldl (i := 0) (v := .int .i64 d.s) rfl rfl Try.isAgg3 (gu hg14 rfl) rfl)) ?_
  refine wg1 rfl rfl rfl rfl rfl (fun hg15 => QV.qo (q_sub rfl (gu hg15 rfl) rfl)) ?_
  obtain ⟨hk17, h⟩ := chk_some h
  refine wg1 rfl rfl rfl rfl rfl (fun hg16 => QV.qo (q_ix Try.underlying30 Try.sizeOf2 rfl (gu hg16 rfl) (gu hg16 rfl) (imp_of hk17 hg16) (hv_.some_ (inb_lt (imp_of hk17 hg16))))) ?_
  refine wg1 rfl rfl rfl rfl rfl (fun hg18 => QV.qo (q_ld (c := 0) (v := .int .i64 (gt v_ ((w64 (d.s - 1)).toNat))) (hv_.intT_at (inb_lt (imp_of hk17 hg18))).2 rfl Try.isAgg2 (gu hg18 rfl) rfl)) ?_
  refine wg1 rfl rfl rfl rfl rfl (fun hg19 => QV.qo (q_leq rfl (gu hg19 rfl) (gu hg19 rfl))) ?_
  refine wa rfl rfl rfl (q_pick rfl rfl (pk_and' (g := (((decide (1 ≤ d.s)) && (decide (d.s ≤ ((v_.length : Nat) : Int)))) && (decide (1 ≤ d.n)))) (y := (decide (d.n ≤ (gt v_ ((w64 (d.s - 1)).toNat))))))) ?_
  refine wa rfl rfl rfl (q_assign (v := .bool ((((decide (1 ≤ d.s)) && (decide (d.s ≤ ((v_.length : Nat) : Int)))) && (decide (1 ≤ d.n))) && (decide (d.n ≤ (gt v_ ((w64 (d.s - 1)).toNat)))))) rfl (by kernel_rfl)) ?_
  refine WQ.nil ?_
  change WC _ _ _ _ _ _
  refine WC.ret ?_
  intro w hw
  obtain rfl := Option.some.inj h
  subst hF
  exact ⟨by kernel_rfl, hw.fr⟩
set_option maxRecDepth 100000 in
set_option maxHeartbeats 400000 in
theorem t_judge_covers {Γ : Gh} {w0 : World} {Av_ : Option Addr} {cv_ : Nat} {v_ : List Int} (hv_ : Sl intT Γ Av_ v_) (hv_c : v_.length ≤ cv_) {vl : Value} {l : List ((Dot) × Unit)} (hl : ZM kk27 trueV Γ vl l) (hs : Sat Γ w0) {r : Bool} (h : m_judge_covers v_ l = some r) : Calls Try.prog 37 #[.slice Av_ v_.length cv_, vl] w0 (fun e w' => e = .returned (.bool r) ∧ Fr no w0 w') := by
  refine calls_of (N := 16) (rs := [4]) (args := [.slice Av_ v_.length cv_, vl]) Try.func37 rfl Try.ntmps37 Try.results37 rfl ?_
  obtain ⟨F, hF⟩ : ∃ F : Fm, F = ⟨no, w0, Γ⟩ := ⟨_, rfl⟩
  refine WC.here (C := CC F Γ []) ?_ (hF ▸ Cur.start0 hs)
  refine WC.rs ?_
  refine va rfl rfl rfl (q_assign (v := .bool false) rfl (by kernel_rfl)) ?_
  refine WR.nil ?_
  change WC _ _ _ _ _ _
  refine WC.seq ?_
  refine WC.rs ?_
  refine va rfl rfl rfl (q_move (v := vl) rfl (by kernel_rfl)) ?_
  refine e_rangeZ hl (fun w hw => hw.sat) rfl rfl rfl Try.underlying52 rfl ?_
  intro g1 row2 hi3
  change WR _ _ _ (CC F Γ [row2]) _ _ (upd _ 7 (.pointer (some ⟨g1, 0, none⟩)))
  refine WR.nil ?_
  change WC _ _ _ _ _ _
  refine WC.block ?_
  refine WC.anyX h (fun (l4 : List ((Dot) × Unit)) (s : Unit) σ w => match s with | () => ∃ (row5 : Rowb), slots σ [(0, .slice Av_ v_.length cv_), (7, .pointer (some ⟨g1, 0, none⟩))] ∧ CC F Γ [row5] w ∧ ItZ kk27 trueV Γ row5 g1 vl l l4 ∧ True) ?_ ?_
  · skip
    intro w hw
    exact ⟨row2, (sl_ (by kernel_rfl)), hw, hi3, trivial⟩
  rintro G12 l4 ⟨⟩ σ w hstep7 hK8 ⟨row5, hsl, hw, hi6, -⟩
  refine Wpt.slots hsl ?_
  refine WC.here (C := CC F Γ [row5]) ?_ hw
  clear hw hsl
  refine WC.rs ?_
  refine e_nextZ (i := 0) rfl hl.ks hi6 (fun w hw => hw.sat) rfl rfl rfl rfl (fun hl13 => ?_) (fun en14 l15 v16 row17 hp18 hok19 hv20 hit21 he22 => ?_)
  · skip
    have h := hK8 hl13
    change WR _ _ _ (CC F Γ [row5]) _ _ (upd _ 8 (.tuple #[.bool false]))
    refine va rfl rfl rfl (q_extract (v := .bool false) rfl rfl rfl) ?_
    refine WR.nil ?_
    change WC _ _ _ _ _ _
    refine WC.seq ?_
    refine WC.cfk (b := false) (by kernel_rfl) rfl ?_
    refine WC.exit ?_
    change WC _ _ _ _ _ _
    refine WC.rs ?_
    refine va rfl rfl rfl (q_assign (v := .bool true) rfl (by kernel_rfl)) ?_
    refine WR.nil ?_
    change WC _ _ _ _ _ _
    refine WC.ret ?_
    intro w hw
    obtain rfl := Option.some.inj h
    subst hF
    exact ⟨by kernel_rfl, hw.fr⟩
  · skip
    obtain ⟨hlen9, o23, h, hgo11⟩ := hstep7 en14 l15 hp18
    obtain rfl : v16 = .bool true := hv20
    change WR _ _ _ (CC F Γ [row17]) _ _ (upd _ 8 (.tuple #[.bool true, .agg #[.int .i64 en14.1.s, .int .i64 en14.1.n], .bool true]))
    refine va rfl rfl rfl (q_extract (v := .bool true) rfl rfl rfl) ?_
    refine WR.nil ?_
    change WC _ _ _ _ _ _
    refine WC.seq ?_
    refine WC.ctk (b := true) (by kernel_rfl) rfl ?_
    refine WC.skip ?_
    change WC _ _ _ _ _ _
    refine WC.block ?_
    refine WC.rs ?_
    refine va rfl rfl rfl (q_entryZ (kv := .agg #[.int .i64 en14.1.s, .int .i64 en14.1.n]) (v := .bool true) (i := 0) rfl he22 (fun w hw => hw.sat) rfl rfl) ?_
    refine va rfl rfl rfl (q_extract (v := .agg #[.int .i64 en14.1.s, .int .i64 en14.1.n]) rfl rfl rfl) ?_
    refine e_alloc Try.zeroValue27 rfl rfl rfl rfl ?_
    intro g24
    refine e_st (i := 0) (v := .agg #[.int .i64 en14.1.s, .int .i64 en14.1.n]) (new := #[.int .i64 en14.1.s, .int .i64 en14.1.n]) rfl Try.sizeOf27 rfl rfl rfl rfl (by kernel_rfl) rfl rfl rfl rfl ?_
    refine WR.nil ?_
    change WC _ _ _ _ _ _
    refine WC.rs ?_
    refine va rfl rfl rfl (q_move (v := .slice Av_ v_.length cv_) rfl (by kernel_rfl)) ?_
    refine va rfl rfl rfl (q_ldla (i := 0) (vs := [.int .i64 en14.1.s, .int .i64 en14.1.n]) rfl rfl Try.isAgg27 Try.sizeOf27 rfl rfl) ?_
    obtain ⟨z25, hz26, h⟩ := bnd h
    refine vc rfl rfl rfl (q_call (call_run Try.call36 rfl rfl (by kernel_rfl)) (fun w hw => t_vect_Covers (Γ := Gh.all w) (hv_.mono hw.sat.le_all) hv_c en14.1 ⟨(hok19.1), (hok19.2)⟩ (Sat.all w) hz26)) ?_
    refine va rfl rfl rfl (q_not rfl rfl) ?_
    refine WR.nil ?_
    change WC _ _ _ _ _ _
    refine WC.cif h (by kernel_rfl) (fun hb27 h => ?_) (fun hb27 h => ?_)
    · skip
      refine WC.rs ?_
      refine va rfl rfl rfl (q_assign (v := .bool false) rfl (by kernel_rfl)) ?_
      refine WR.nil ?_
      change WC _ _ _ _ _ _
      refine WC.ret ?_
      obtain rfl := Option.some.inj h
      have h : _ = some r := hgo11
      intro w hw
      obtain rfl := Option.some.inj h
      subst hF
      exact ⟨by kernel_rfl, hw.fr⟩
    · skip
      refine WC.skip ?_
      intro w hw
      obtain rfl := Option.some.inj h
      exact ⟨l15, _, hlen9, hgo11, row17, (sl_ (by kernel_rfl)), (hw.only (is := [1]) rfl), hit21, trivial⟩
abbrev r_judge_trial_greatest_l1 (r : List ((Dot) × Unit)) (U : List Rowb) (Γ : Gh) (v : Value) : Prop := ∃ (g0 : Nat), ∃ (row0 : Rowb), v = .map (some g0) ∧ U = [row0] ∧ MapO kk27 trueV Γ row0 g0 r ∧ True
set_option maxRecDepth 100000 in
set_option maxHeartbeats 400000 in
theorem t_judge_trial_greatest_l1 {Γ : Gh} {w0 : World} {B : Gh} {gt_ et_ : Nat} {rowt_ : Rowb} {t_ : Ojudge_trial} (ht_ : Ojudge_trial.ob et_ B gt_ rowt_ t_) (ht_r : ∀ p ∈ rowt_, B p.1 = some p.2) {vh_ : Value} {h_ : List ((Dot) × Unit)} (hh_ : ZM kk27 trueV B vh_ h_) (key : ByteArray) (hkey : key.size ≤ lim) (hp : Pre [] Γ w0) (hpB : Pre [] B w0) {r : List ((Dot) × Unit)} (h : m_judge_trial_greatest_l1 t_ h_ key = some r) : Calls Try.prog 40 #[.pointer (some ⟨gt_, 0, none⟩), vh_, .string key] w0 (Outc Γ [] w0 (r_judge_trial_greatest_l1 r)) := by
  refine calls_of (N := 68) (rs := [6]) (args := [.pointer (some ⟨gt_, 0, none⟩), vh_, .string key]) Try.func40 rfl Try.ntmps40 Try.results40 rfl ?_
  obtain ⟨F, hF⟩ : ∃ F : Fm, F = ⟨ids [], w0, Γ⟩ := ⟨_, rfl⟩
  refine WC.here (C := CC F Γ []) ?_ (hF ▸ hp.start)
  have hB : Lent F B := hF ▸ Lent.start hpB
  refine WC.rs ?_
  refine va rfl rfl rfl (q_assign (v := .map none) rfl (by kernel_rfl)) ?_
  refine WR.nil ?_
  change WC _ _ _ _ _ _
  refine WC.rs ?_
  refine e_makeMap kk27 trueV rfl rfl rfl rfl ?_
  intro g1 row2 hm3
  refine e_makeMap kk27 trueV rfl rfl rfl rfl ?_
  intro g4 row5 hm6
  refine va rfl rfl rfl (q_assign (v := .map (some g1)) rfl (by kernel_rfl)) ?_
  refine va rfl rfl rfl (q_assign (v := .map (some g4)) rfl (by kernel_rfl)) ?_
  refine WR.nil ?_
  change WC _ _ _ _ _ _
  refine WC.rs ?_
  refine e_makeMap kk27 trueV rfl rfl rfl rfl ?_
  intro g7 row8 hm9
  refine va rfl rfl rfl (q_assign (v := .map (some g7)) rfl (by kernel_rfl)) ?_
  refine WR.nil ?_
  change WC _ _ _ _ _ _
  refine WC.seq ?_
  refine WC.rs ?_
  refine va rfl rfl rfl (q_move (v := vh_) rfl (by kernel_rfl)) ?_
  refine e_rangeZ hh_ (fun w hw => hB.sat hw) rfl rfl rfl Try.underlying52 rfl ?_
  intro g10 row11 hi12
  change WR _ _ _ (CC F Γ [row11, row8, row5, row2]) _ _ (upd _ 18 (.pointer (some ⟨g10, 0, none⟩)))
  refine WR.nil ?_
  change WC _ _ _ _ _ _
  refine WC.block ?_
  refine WC.anyX h (fun (l13 : List ((Dot) × Unit)) (s : (List ((Dot) × Unit)) × (List ((Dot) × Unit))) σ w => match s with | (m18, m21) => ∃ (Γ14 : Gh), ∃ (row16 : Rowb), ∃ (row19 : Rowb), ∃ (row22 : Rowb), slots σ [(0, .pointer (some ⟨gt_, 0, none⟩)), (2, .string key), (7, .map (some g1)), (8, .map (some g4)), (9, .map (some g7)), (18, .pointer (some ⟨g10, 0, none⟩))] ∧ CC F Γ14 [row16, row19, row5, row22] w ∧ Gh.le Γ Γ14 ∧ ItZ kk27 trueV B row16 g10 vh_ h_ l13 ∧ MapO kk27 trueV Γ14 row19 g7 m18 ∧ MapO kk27 trueV Γ14 row22 g1 m21 ∧ True) ?_ ?_
  · skip
    intro w hw
    exact ⟨Γ, row11, row8, row2, (sl_ (by kernel_rfl)), hw, (Gh.refl _), hi12, hm9, hm3, trivial⟩
  rintro G29 l13 ⟨m18, m21⟩ σ w hstep24 hK25 ⟨Γ14, row16, row19, row22, hsl, hw, hl15, hi17, ho20, ho23, -⟩
  refine Wpt.slots hsl ?_
  refine WC.here (C := CC F Γ14 [row16, row19, row5, row22]) ?_ hw
  clear hw hsl
  refine WC.rs ?_
  refine e_nextZ (i := 0) rfl hh_.ks hi17 (fun w hw => hB.sat hw) rfl rfl rfl rfl (fun hl30 => ?_) (fun en31 l32 v33 row34 hp35 hok36 hv37 hit38 he39 => ?_)
  · skip
    have h := hK25 hl30
    change WR _ _ _ (CC F Γ14 [row16, row19, row5, row22]) _ _ (upd _ 19 (.tuple #[.bool false]))
    refine va rfl rfl rfl (q_extract (v := .bool false) rfl rfl rfl) ?_
    refine WR.nil ?_
    change WC _ _ _ _ _ _
    refine WC.seq ?_
    refine WC.cfk (b := false) (by kernel_rfl) rfl ?_
    refine WC.exit ?_
    change WC _ _ _ _ _ _
    refine WC.seq ?_
    refine WC.rs ?_
    refine va rfl rfl rfl (q_move (v := .map (some g1)) rfl (by kernel_rfl)) ?_
    refine e_range ho23 (fun w hw p hp => hw.at_ (i := 3) rfl hp) rfl rfl rfl Try.underlying52 rfl ?_
    intro g40 row41 hi42
    change WR _ _ _ (CC F Γ14 [row41, row16, row19, row5, row22]) _ _ (upd _ 56 (.pointer (some ⟨g40, 0, none⟩)))
    refine WR.nil ?_
    change WC _ _ _ _ _ _
    refine WC.block ?_
    refine WC.anyX h (fun (l43 : List ((Dot) × Unit)) (m46 : List ((Dot) × Unit)) σ w => ∃ (row44 : Rowb), ∃ (row47 : Rowb), slots σ [(8, .map (some g4)), (9, .map (some g7)), (56, .pointer (some ⟨g40, 0, none⟩))] ∧ CC F Γ14 [row44, row19, row47, row22] w ∧ ItO kk27 trueV Γ14 row44 g40 g1 row22 m21 l43 ∧ MapO kk27 trueV Γ14 row47 g4 m46 ∧ True) ?_ ?_
    · skip
      intro w hw
      exact ⟨row41, row5, (sl_ (by kernel_rfl)), (hw.only (is := [0, 1, 1, 1]) rfl), hi42, (hm6.mono hl15), trivial⟩
    rintro G54 l43 m46 σ w hstep49 hK50 ⟨row44, row47, hsl, hw, hi45, ho48, -⟩
    refine Wpt.slots hsl ?_
    refine WC.here (C := CC F Γ14 [row44, row19, row47, row22]) ?_ hw
    clear hw hsl
    refine WC.rs ?_
    refine e_next (i := 0) rfl ho23.ks hi45 (fun w hw p hp => hw.at_ (i := 3) rfl hp) rfl rfl rfl rfl (fun hl55 => ?_) (fun en56 l57 v58 row59 hp60 hok61 hv62 hit63 he64 => ?_)
    · skip
      have h := hK50 hl55
      change WR _ _ _ (CC F Γ14 [row44, row19, row47, row22]) _ _ (upd _ 57 (.tuple #[.bool false]))
      refine va rfl rfl rfl (q_extract (v := .bool false) rfl rfl rfl) ?_
      refine WR.nil ?_
      change WC _ _ _ _ _ _
      refine WC.seq ?_
      refine WC.cfk (b := false) (by kernel_rfl) rfl ?_
      refine WC.exit ?_
      change WC _ _ _ _ _ _
      refine WC.rs ?_
      refine va rfl rfl rfl (q_move (v := .map (some g4)) rfl (by kernel_rfl)) ?_
      refine va rfl rfl rfl (q_assign (v := .map (some g4)) rfl (by kernel_rfl)) ?_
      refine WR.nil ?_
      change WC _ _ _ _ _ _
      refine WC.ret ?_
      intro w hw
      obtain rfl := Option.some.inj h
      subst hF
      exact end_e (is := [2]) (by kernel_rfl) hw rfl ⟨g4, row47, rfl, rfl, ho48, trivial⟩
    · skip
      obtain ⟨hlen51, o65, h, hgo53⟩ := hstep49 en56 l57 hp60
      obtain rfl : v58 = .bool true := hv62
      change WR _ _ _ (CC F Γ14 [row59, row19, row47, row22]) _ _ (upd _ 57 (.tuple #[.bool true, .agg #[.int .i64 en56.1.s, .int .i64 en56.1.n], .bool true]))
      refine va rfl rfl rfl (q_extract (v := .bool true) rfl rfl rfl) ?_
      refine WR.nil ?_
      change WC _ _ _ _ _ _
      refine WC.seq ?_
      refine WC.ctk (b := true) (by kernel_rfl) rfl ?_
      refine WC.skip ?_
      change WC _ _ _ _ _ _
      refine WC.block ?_
      refine WC.rs ?_
      refine va rfl rfl rfl (q_entry (kv := .agg #[.int .i64 en56.1.s, .int .i64 en56.1.n]) (v := .bool true) (i := 0) rfl he64 (fun w hw p hp => hw.at_ (i := 3) rfl hp) rfl rfl) ?_
      refine va rfl rfl rfl (q_extract (v := .agg #[.int .i64 en56.1.s, .int .i64 en56.1.n]) rfl rfl rfl) ?_
      refine e_alloc Try.zeroValue27 rfl rfl rfl rfl ?_
      intro g66
      refine e_st (i := 0) (v := .agg #[.int .i64 en56.1.s, .int .i64 en56.1.n]) (new := #[.int .i64 en56.1.s, .int .i64 en56.1.n]) rfl Try.sizeOf27 rfl rfl rfl rfl (by kernel_rfl) rfl rfl rfl rfl ?_
      refine WR.nil ?_
      change WC _ _ _ _ _ _
      refine WC.rs ?_
      refine va rfl rfl rfl (q_move (v := .map (some g7)) rfl (by kernel_rfl)) ?_
      refine va rfl rfl rfl (q_ldla (i := 0) (vs := [.int .i64 en56.1.s, .int .i64 en56.1.n]) rfl rfl Try.isAgg27 Try.sizeOf27 rfl rfl) ?_
      refine va rfl rfl rfl (q_lookup1 (MapO.slook ho20 en56.1) rfl Try.underlying52 Try.zeroValue4 rfl rfl (i := 2) rfl) ?_
      refine va rfl rfl rfl (q_not rfl rfl) ?_
      refine WR.nil ?_
      change WC _ _ _ _ _ _
      refine WC.cif h (by kernel_rfl) (fun hb67 h => ?_) (fun hb67 h => ?_)
      · skip
        refine WC.region ?_
        refine va rfl rfl rfl (q_move (v := .map (some g4)) rfl (by kernel_rfl)) ?_
        refine va rfl rfl rfl (q_ldla (i := 0) (vs := [.int .i64 en56.1.s, .int .i64 en56.1.n]) rfl rfl Try.isAgg27 Try.sizeOf27 rfl rfl) ?_
        refine e_mapUpdate (i := 3) (x := en56.1) (v := .bool true) (a := ()) rfl rfl rfl Try.underlying52 rfl rfl (by kernel_rfl) rfl ho48 (by exact rfl) ⟨(hok61.1), (hok61.2)⟩ ?_
        intro row68 hm69
        have hm69 := hm69.perm (sput_perm kl27 _ _)
        refine WR.nil ?_
        intro w hw
        obtain rfl := Option.some.inj h
        exact ⟨l57, _, hlen51, hgo53, row59, row68, (sl_ (by kernel_rfl)), (hw.only (is := [1, 1, 1, 1]) rfl), hit63, hm69, trivial⟩
      · skip
        refine WC.skip ?_
        intro w hw
        obtain rfl := Option.some.inj h
        exact ⟨l57, _, hlen51, hgo53, row59, row47, (sl_ (by kernel_rfl)), (hw.only (is := [1, 1, 1, 1]) rfl), hit63, ho48, trivial⟩
  · skip
    obtain ⟨hlen26, o70, h, hgo28⟩ := hstep24 en31 l32 hp35
    obtain rfl : v33 = .bool true := hv37
    change WR _ _ _ (CC F Γ14 [row34, row19, row5, row22]) _ _ (upd _ 19 (.tuple #[.bool true, .agg #[.int .i64 en31.1.s, .int .i64 en31.1.n], .bool true]))
    refine va rfl rfl rfl (q_extract (v := .bool true) rfl rfl rfl) ?_
    refine WR.nil ?_
    change WC _ _ _ _ _ _
    refine WC.seq ?_
    refine WC.ctk (b := true) (by kernel_rfl) rfl ?_
    refine WC.skip ?_
    change WC _ _ _ _ _ _
    refine WC.block ?_
    refine WC.rs ?_
    refine va rfl rfl rfl (q_entryZ (kv := .agg #[.int .i64 en31.1.s, .int .i64 en31.1.n]) (v := .bool true) (i := 0) rfl he39 (fun w hw => hB.sat hw) rfl rfl) ?_
    refine va rfl rfl rfl (q_extract (v := .agg #[.int .i64 en31.1.s, .int .i64 en31.1.n]) rfl rfl rfl) ?_
    refine e_alloc Try.zeroValue27 rfl rfl rfl rfl ?_
    intro g71
    refine e_st (i := 0) (v := .agg #[.int .i64 en31.1.s, .int .i64 en31.1.n]) (new := #[.int .i64 en31.1.s, .int .i64 en31.1.n]) rfl Try.sizeOf27 rfl rfl rfl rfl (by kernel_rfl) rfl rfl rfl rfl ?_
    refine WR.nil ?_
    change WC _ _ _ _ _ _
    refine WC.seq ?_
    refine WC.dr (by kernel_rfl) (by kernel_rfl) (fun w hw => hw.drawn _) ?_
    refine wa rfl rfl rfl (q_move (v := .pointer (some ⟨gt_, 0, none⟩)) rfl (by kernel_rfl)) ?_
    refine wa rfl rfl rfl (q_nil (A := some ⟨gt_, 0, none⟩) rfl rfl rfl) ?_
    refine wa rfl rfl rfl (q_fl 1 fld_56_1 rfl rfl rfl) ?_
    have hq := ht_
    obtain ⟨A0_72, c0_72, m1_72, r1_72, m2_72, r2_72, hrow_72, ho0_72, ho1_72, ho2_72, ho3_72, -⟩ := hq
    have hg_73 : ∀ u ∈ ([[(gt_, .cells #[.slice A0_72 t_.list.length c0_72, .map (some m1_72), .map (some m2_72)] et_ (0, 0))], r1_72, r2_72] : List Rowb), ∀ p ∈ u, B p.1 = some p.2 := fun u hu p hp => (fun p hp => (ht_r p hp)) p (hrow_72 ▸ List.mem_flatten.2 ⟨u, hu, hp⟩)
    have hgc74 := hg_73 _ (List.mem_cons_self ..) (gt_, _) (List.mem_singleton.2 rfl)
    have hgs75 := hg_73 r1_72 (by simp)
    have hgs76 := hg_73 r2_72 (by simp)
    refine wa rfl rfl rfl (q_via (fun w hw => hB.sat hw) fun F => (q_ldg (v := .map (some m1_72)) hgc74 rfl Try.isAgg53 rfl rfl)) ?_
    refine wa rfl rfl rfl (q_ldla (i := 0) (vs := [.int .i64 en31.1.s, .int .i64 en31.1.n]) rfl rfl Try.isAgg27 Try.sizeOf27 rfl rfl) ?_
    obtain ⟨v77, ⟨hv78, hi80⟩, hat79⟩ := MapO.look ho2_72 en31.1 (z := .int .i64 0) (zx := 0) ⟨rfl, by decide⟩
    obtain rfl : v77 = _ := List.cons.inj hv78 |>.1
    refine wa rfl rfl rfl (q_via (fun w hw => hB.sat hw) fun F => (q_lookup2g (v := .int .i64 ((mget en31.1 t_.first).getD 0)) (fun p hp => (hgs75 p hp)) hat79 rfl Try.underlying53 Try.zeroValue3 rfl rfl)) ?_
    refine wa rfl rfl rfl (q_move (v := .tuple #[.int .i64 ((mget en31.1 t_.first).getD 0), .bool ((mget en31.1 t_.first).isSome)]) rfl (by kernel_rfl)) ?_
    refine wa rfl rfl rfl (q_extract (v := .int .i64 ((mget en31.1 t_.first).getD 0)) rfl rfl rfl) ?_
    refine wa rfl rfl rfl (q_extract (v := .bool ((mget en31.1 t_.first).isSome)) rfl rfl rfl) ?_
    refine wa rfl rfl rfl (q_assign (v := .int .i64 ((mget en31.1 t_.first).getD 0)) rfl (by kernel_rfl)) ?_
    refine wa rfl rfl rfl (q_assign (v := .bool ((mget en31.1 t_.first).isSome)) rfl (by kernel_rfl)) ?_
    refine WQ.nil ?_
    change WC _ _ _ _ _ _
    refine WC.rs ?_
    refine va rfl rfl rfl (q_move (v := .bool ((mget en31.1 t_.first).isSome)) rfl (by kernel_rfl)) ?_
    refine va rfl rfl rfl (q_move (v := .bool ((mget en31.1 t_.first).isSome)) rfl (by kernel_rfl)) ?_
    refine vg1 rfl rfl rfl rfl rfl (fun hg81 => QV.qo (q_move (v := .pointer (some ⟨gt_, 0, none⟩)) rfl (by kernel_rfl))) ?_
    refine vg1 rfl rfl rfl rfl rfl (fun hg82 => QV.qo (q_nil (A := some ⟨gt_, 0, none⟩) rfl (gu hg82 rfl) rfl)) ?_
    refine vg1 rfl rfl rfl rfl rfl (fun hg83 => QV.qo (q_fl 0 fld_56_0 rfl (gu hg83 rfl) rfl)) ?_
    refine vg1 rfl rfl rfl rfl rfl (fun hg84 => QV.qo (q_via (fun w hw => hB.sat hw) fun F => (q_ldg (v := .slice A0_72 t_.list.length c0_72) hgc74 rfl Try.isAgg24 (gu hg84 rfl) rfl))) ?_
    refine vg1 rfl rfl rfl rfl rfl (fun hg85 => QV.qo (q_move (v := .int .i64 ((mget en31.1 t_.first).getD 0)) rfl (by kernel_rfl))) ?_
    obtain ⟨hk87, h⟩ := chk_some h
    refine vg1 rfl rfl rfl rfl rfl (fun hg86 => QV.qo (q_ix Try.underlying24 Try.sizeOf32 rfl (gu hg86 rfl) (gu hg86 rfl) (imp_of hk87 hg86) (ho1_72.some_ (inb_lt (imp_of hk87 hg86))))) ?_
    refine vg1 rfl rfl rfl rfl rfl (fun hg88 => QV.qo (q_field_addr ((((mget en31.1 t_.first).getD 0).toNat) * 8 + 2) fld_32_2 rfl (gu hg88 rfl) (ho1_72.some_ (inb_lt (imp_of hk87 hg88))) rfl)) ?_
    obtain ⟨A90, c91, A92, c93, hx94⟩ := ho1_72.djudge_ActT_at (((mget en31.1 t_.first).getD 0).toNat)
    refine vg1 rfl rfl rfl rfl rfl (fun hg89 => QV.qo (q_ldS (c := 2) (v := .string (gt t_.list (((mget en31.1 t_.first).getD 0).toNat)).key) (fun w hw => hB.sat hw) (hx94 (inb_lt (imp_of hk87 hg89))).2 rfl Try.isAgg9 (gu hg89 rfl) rfl)) ?_
    refine vg1 rfl rfl rfl rfl rfl (fun hg95 => QV.qo (q_move (v := .string key) rfl (by kernel_rfl))) ?_
    refine vg1 rfl rfl rfl rfl rfl (fun hg96 => QV.qo (q_seql rfl (gu hg96 rfl) (gu hg96 rfl))) ?_
    refine va rfl rfl rfl (q_pick rfl rfl (pk_and' (g := ((mget en31.1 t_.first).isSome)) (y := ((gt t_.list (((mget en31.1 t_.first).getD 0).toNat)).key == key)))) ?_
    refine WR.nil ?_
    change WC _ _ _ _ _ _
    refine WC.cif h (by kernel_rfl) (fun hb97 h => ?_) (fun hb97 h => ?_)
    · skip
      refine WC.rs ?_
      refine va rfl rfl rfl (q_move (v := .map (some g1)) rfl (by kernel_rfl)) ?_
      refine va rfl rfl rfl (q_ldla (i := 0) (vs := [.int .i64 en31.1.s, .int .i64 en31.1.n]) rfl rfl Try.isAgg27 Try.sizeOf27 rfl rfl) ?_
      refine e_mapUpdate (i := 4) (x := en31.1) (v := .bool true) (a := ()) rfl rfl rfl Try.underlying52 rfl rfl (by kernel_rfl) rfl ho23 (by exact rfl) ⟨(hok36.1), (hok36.2)⟩ ?_
      intro row98 hm99
      have hm99 := hm99.perm (sput_perm kl27 _ _)
      refine WR.nil ?_
      change WC _ _ _ _ _ _
      intro w hw; have h0100 := hw.le
      refine WC.here (C := CC F Γ14 [[(g71, .cells #[.int .i64 en31.1.s, .int .i64 en31.1.n] 27 (0, 0))], row34, row19, row5, row98]) ?_ hw; clear hw
      refine WC.held (CC F Γ14 [[(g71, .cells #[.int .i64 en31.1.s, .int .i64 en31.1.n] 27 (0, 0))], row34]) (by kernel_rfl) (fun w hw => hw.drawn _) ?_
      change WH _ _ _ _ (CC F Γ14 [[(g71, .cells #[.int .i64 en31.1.s, .int .i64 en31.1.n] 27 (0, 0))], row34, row19, row5, row98]) _ 8 #[false, false, false, false, false, false, false, false] _
      refine ht (i := 0) rfl (by kernel_rfl) rfl rfl rfl (fun w hw => hw.back (Gh.refl _) h0100 (.cons_cons _ (.cons_cons _ (.cons _ (.cons _ (.cons _ .slnil)))))) (q_move (v := .map (some g7)) rfl (by kernel_rfl)) ?_
      refine ht (i := 1) rfl (by kernel_rfl) rfl rfl rfl (fun w hw => hw.back (Gh.refl _) h0100 (.cons_cons _ (.cons_cons _ (.cons _ (.cons _ (.cons _ .slnil)))))) (q_move (v := .pointer (some ⟨gt_, 0, none⟩)) rfl (by kernel_rfl)) ?_
      refine ht (i := 2) rfl (by kernel_rfl) rfl rfl rfl (fun w hw => hw.back (Gh.refl _) h0100 (.cons_cons _ (.cons_cons _ (.cons _ (.cons _ (.cons _ .slnil)))))) (q_nil (A := some ⟨gt_, 0, none⟩) rfl rfl rfl) ?_
      refine ht (i := 3) rfl (by kernel_rfl) rfl rfl rfl (fun w hw => hw.back (Gh.refl _) h0100 (.cons_cons _ (.cons_cons _ (.cons _ (.cons _ (.cons _ .slnil)))))) (q_fl 2 fld_56_2 rfl rfl rfl) ?_
      refine ht (i := 4) rfl (by kernel_rfl) rfl rfl rfl (fun w hw => hw.back (Gh.refl _) h0100 (.cons_cons _ (.cons_cons _ (.cons _ (.cons _ (.cons _ .slnil)))))) (q_via (fun w hw => hB.sat hw) fun F => (q_ldg (v := .map (some m2_72)) hgc74 rfl Try.isAgg54 rfl rfl)) ?_
      refine ht (i := 5) rfl (by kernel_rfl) rfl rfl rfl (fun w hw => hw.back (Gh.refl _) h0100 (.cons_cons _ (.cons_cons _ (.cons _ (.cons _ (.cons _ .slnil)))))) (q_ldla (i := 0) (vs := [.int .i64 en31.1.s, .int .i64 en31.1.n]) rfl rfl Try.isAgg27 Try.sizeOf27 rfl rfl) ?_
      obtain ⟨v101, rowM102, hat103, hr104, hz105⟩ := MapM.lookZ ho3_72 (fun p hp => (hgs76 p hp)) en31.1
      refine ht (i := 6) rfl (by kernel_rfl) rfl rfl rfl (fun w hw => hw.back (Gh.refl _) h0100 (.cons_cons _ (.cons_cons _ (.cons _ (.cons _ (.cons _ .slnil)))))) (q_via (fun w hw => hB.sat hw) fun F => (q_lookup1g (v := v101) hr104 hat103 rfl Try.underlying54 Try.zeroValue52 rfl rfl)) ?_
      refine WH.lone (i := 7) (by kernel_rfl) rfl ?_
      obtain ⟨z106, hz107, h⟩ := bnd h
      refine e_callB (is := [2]) hB rfl rfl (call_run Try.call27 rfl rfl (by kernel_rfl)) rfl (fun w Θ hp hpB hle hleB hR => t_judge_dots_join ho20 (hz105.mono hleB) hp hpB hz107) ?_
      rintro Γ108 U110 v111 hl109 ⟨row112, rfl, rfl, hr113, _⟩
      change WR _ _ _ (CC F Γ108 [row112, [(g71, .cells #[.int .i64 en31.1.s, .int .i64 en31.1.n] 27 (0, 0))], row34, row5, row98]) _ _ (upd _ 54 (.bool z106.2))
      refine WR.nil ?_
      refine WH.next (fun w hw => hw.back hl109 h0100 (.cons _ (.cons_cons _ (.cons_cons _ (.cons _ (.cons _ .slnil)))))) ?_
      refine WH.done (by kernel_rfl) ?_
      intro w hw
      obtain rfl := Option.some.inj h
      exact ⟨l32, _, hlen26, hgo28, Γ108, row34, row112, row98, (sl_ (by kernel_rfl)), (hw.only (is := [2, 0, 1, 1]) rfl), (hl15.trans hl109), hit38, hr113, (hm99.mono hl109), trivial⟩
    · skip
      refine WC.skip ?_
      intro w hw
      obtain rfl := Option.some.inj h
      exact ⟨l32, _, hlen26, hgo28, Γ14, row34, row19, row22, (sl_ (by kernel_rfl)), (hw.only (is := [1, 1, 1, 1]) rfl), hl15, hit38, ho20, ho23, trivial⟩
set_option maxRecDepth 100000 in
set_option maxHeartbeats 400000 in
theorem t_maps_Equal_judge_dots_judge_dots_api_Dot_bool {Γ : Gh} {w0 : World} {vm1 : Value} {m1 : List ((Dot) × Unit)} (hm1 : ZM kk27 trueV Γ vm1 m1) {vm2 : Value} {m2 : List ((Dot) × Unit)} (hm2 : ZM kk27 trueV Γ vm2 m2) (hs : Sat Γ w0) {r : Bool} (h : m_maps_Equal_judge_dots_judge_dots_api_Dot_bool m1 m2 = some r) : Calls Try.prog 39 #[vm1, vm2] w0 (fun e w' => e = .returned (.bool r) ∧ Fr no w0 w') := by
  refine calls_of (N := 34) (rs := [4]) (args := [vm1, vm2]) Try.func39 rfl Try.ntmps39 Try.results39 rfl ?_
  obtain ⟨F, hF⟩ : ∃ F : Fm, F = ⟨no, w0, Γ⟩ := ⟨_, rfl⟩
  refine WC.here (C := CC F Γ []) ?_ (hF ▸ Cur.start0 hs)
  refine WC.rs ?_
  refine va rfl rfl rfl (q_assign (v := .bool false) rfl (by kernel_rfl)) ?_
  refine WR.nil ?_
  change WC _ _ _ _ _ _
  refine WC.seq ?_
  refine WC.rs ?_
  refine va rfl rfl rfl (q_move (v := vm1) rfl (by kernel_rfl)) ?_
  refine va rfl rfl rfl (q_lenZ (fun w hw => hw.sat) hm1 rfl Try.underlying52 rfl) ?_
  refine va rfl rfl rfl (q_move (v := vm2) rfl (by kernel_rfl)) ?_
  refine va rfl rfl rfl (q_lenZ (fun w hw => hw.sat) hm2 rfl Try.underlying52 rfl) ?_
  refine va rfl rfl rfl (q_neq rfl rfl rfl) ?_
  refine WR.nil ?_
  change WC _ _ _ _ _ _
  refine WC.cif h (by kernel_rfl) (fun hb1 h => ?_) (fun hb1 h => ?_)
  · skip
    refine WC.rs ?_
    refine va rfl rfl rfl (q_assign (v := .bool false) rfl (by kernel_rfl)) ?_
    refine WR.nil ?_
    change WC _ _ _ _ _ _
    refine WC.ret ?_
    intro w hw
    obtain rfl := Option.some.inj h
    subst hF
    exact ⟨by kernel_rfl, hw.fr⟩
  · skip
    refine WC.skip ?_
    change WC _ _ _ _ _ _
    refine WC.seq ?_
    refine WC.rs ?_
    refine va rfl rfl rfl (q_move (v := vm1) rfl (by kernel_rfl)) ?_
    refine e_rangeZ hm1 (fun w hw => hw.sat) rfl rfl rfl Try.underlying52 rfl ?_
    intro g2 row3 hi4
    change WR _ _ _ (CC F Γ [row3]) _ _ (upd _ 15 (.pointer (some ⟨g2, 0, none⟩)))
    refine WR.nil ?_
    change WC _ _ _ _ _ _
    refine WC.block ?_
    refine WC.anyX h (fun (l5 : List ((Dot) × Unit)) (s : Unit) σ w => match s with | () => ∃ (row6 : Rowb), slots σ [(1, vm2), (15, .pointer (some ⟨g2, 0, none⟩))] ∧ CC F Γ [row6] w ∧ ItZ kk27 trueV Γ row6 g2 vm1 m1 l5 ∧ True) ?_ ?_
    · skip
      intro w hw
      exact ⟨row3, (sl_ (by kernel_rfl)), hw, hi4, trivial⟩
    rintro G13 l5 ⟨⟩ σ w hstep8 hK9 ⟨row6, hsl, hw, hi7, -⟩
    refine Wpt.slots hsl ?_
    refine WC.here (C := CC F Γ [row6]) ?_ hw
    clear hw hsl
    refine WC.rs ?_
    refine e_nextZ (i := 0) rfl hm1.ks hi7 (fun w hw => hw.sat) rfl rfl rfl rfl (fun hl14 => ?_) (fun en15 l16 v17 row18 hp19 hok20 hv21 hit22 he23 => ?_)
    · skip
      have h := hK9 hl14
      change WR _ _ _ (CC F Γ [row6]) _ _ (upd _ 16 (.tuple #[.bool false]))
      refine va rfl rfl rfl (q_extract (v := .bool false) rfl rfl rfl) ?_
      refine WR.nil ?_
      change WC _ _ _ _ _ _
      refine WC.seq ?_
      refine WC.cfk (b := false) (by kernel_rfl) rfl ?_
      refine WC.exit ?_
      change WC _ _ _ _ _ _
      refine WC.rs ?_
      refine va rfl rfl rfl (q_assign (v := .bool true) rfl (by kernel_rfl)) ?_
      refine WR.nil ?_
      change WC _ _ _ _ _ _
      refine WC.ret ?_
      intro w hw
      obtain rfl := Option.some.inj h
      subst hF
      exact ⟨by kernel_rfl, hw.fr⟩
    · skip
      obtain ⟨hlen10, o24, h, hgo12⟩ := hstep8 en15 l16 hp19
      obtain rfl : v17 = .bool true := hv21
      change WR _ _ _ (CC F Γ [row18]) _ _ (upd _ 16 (.tuple #[.bool true, .agg #[.int .i64 en15.1.s, .int .i64 en15.1.n], .bool true]))
      refine va rfl rfl rfl (q_extract (v := .bool true) rfl rfl rfl) ?_
      refine WR.nil ?_
      change WC _ _ _ _ _ _
      refine WC.seq ?_
      refine WC.ctk (b := true) (by kernel_rfl) rfl ?_
      refine WC.skip ?_
      change WC _ _ _ _ _ _
      refine WC.block ?_
      refine WC.rs ?_
      refine va rfl rfl rfl (q_entryZ (kv := .agg #[.int .i64 en15.1.s, .int .i64 en15.1.n]) (v := .bool true) (i := 0) rfl he23 (fun w hw => hw.sat) rfl rfl) ?_
      refine va rfl rfl rfl (q_extract (v := .agg #[.int .i64 en15.1.s, .int .i64 en15.1.n]) rfl rfl rfl) ?_
      refine va rfl rfl rfl (q_extract (v := .bool true) rfl rfl rfl) ?_
      refine e_alloc Try.zeroValue27 rfl rfl rfl rfl ?_
      intro g25
      refine e_st (i := 0) (v := .agg #[.int .i64 en15.1.s, .int .i64 en15.1.n]) (new := #[.int .i64 en15.1.s, .int .i64 en15.1.n]) rfl Try.sizeOf27 rfl rfl rfl rfl (by kernel_rfl) rfl rfl rfl rfl ?_
      refine va rfl rfl rfl (q_assign (v := .bool true) rfl (by kernel_rfl)) ?_
      refine WR.nil ?_
      change WC _ _ _ _ _ _
      refine WC.rs ?_
      refine va rfl rfl rfl (q_move (v := vm2) rfl (by kernel_rfl)) ?_
      refine va rfl rfl rfl (q_ldla (i := 0) (vs := [.int .i64 en15.1.s, .int .i64 en15.1.n]) rfl rfl Try.isAgg27 Try.sizeOf27 rfl rfl) ?_
      refine va rfl rfl rfl (q_lookup2Z (x := en15.1) (fun w hw => hw.sat) hm2 rfl Try.underlying52 Try.zeroValue4 rfl rfl) ?_
      refine va rfl rfl rfl (q_move (v := .tuple #[.bool ((mget en15.1 m2).isSome), .bool ((mget en15.1 m2).isSome)]) rfl (by kernel_rfl)) ?_
      refine va rfl rfl rfl (q_extract (v := .bool ((mget en15.1 m2).isSome)) rfl rfl rfl) ?_
      refine va rfl rfl rfl (q_extract (v := .bool ((mget en15.1 m2).isSome)) rfl rfl rfl) ?_
      refine va rfl rfl rfl (q_assign (v := .bool ((mget en15.1 m2).isSome)) rfl (by kernel_rfl)) ?_
      refine va rfl rfl rfl (q_assign (v := .bool ((mget en15.1 m2).isSome)) rfl (by kernel_rfl)) ?_
      refine WR.nil ?_
      change WC _ _ _ _ _ _
      refine WC.rs ?_
      refine va rfl rfl rfl (q_move (v := .bool ((mget en15.1 m2).isSome)) rfl (by kernel_rfl)) ?_
      refine va rfl rfl rfl (q_not rfl rfl) ?_
      refine va rfl rfl rfl (q_move (v := .bool (!((mget en15.1 m2).isSome))) rfl (by kernel_rfl)) ?_
      refine vg0 rfl rfl rfl rfl rfl (fun hg26 => QV.qo (q_move (v := .bool true) rfl (by kernel_rfl))) ?_
      refine vg0 rfl rfl rfl rfl rfl (fun hg27 => QV.qo (q_move (v := .bool ((mget en15.1 m2).isSome)) rfl (by kernel_rfl))) ?_
      refine vg0 rfl rfl rfl rfl rfl (fun hg28 => QV.qo (q_bneq Try.underlying4 rfl (gu hg28 rfl) (gu hg28 rfl))) ?_
      refine va rfl rfl rfl (q_pick rfl rfl (pk_or' (g := (!((mget en15.1 m2).isSome))) (y := (true != ((mget en15.1 m2).isSome))))) ?_
      refine WR.nil ?_
      change WC _ _ _ _ _ _
      refine WC.cif h (by kernel_rfl) (fun hb29 h => ?_) (fun hb29 h => ?_)
      · skip
        refine WC.rs ?_
        refine va rfl rfl rfl (q_assign (v := .bool false) rfl (by kernel_rfl)) ?_
        refine WR.nil ?_
        change WC _ _ _ _ _ _
        refine WC.ret ?_
        obtain rfl := Option.some.inj h
        have h : _ = some r := hgo12
        intro w hw
        obtain rfl := Option.some.inj h
        subst hF
        exact ⟨by kernel_rfl, hw.fr⟩
      · skip
        refine WC.skip ?_
        intro w hw
        obtain rfl := Option.some.inj h
        exact ⟨l16, _, hlen10, hgo12, row18, (sl_ (by kernel_rfl)), (hw.only (is := [1]) rfl), hit22, trivial⟩
abbrev r_judge_trial_reading_l0 (r : Int) (U : List Rowb) (Γ : Gh) (v : Value) : Prop := v = .int .i64 r ∧ U = [] ∧ I64 r ∧ True
set_option maxRecDepth 100000 in
set_option maxHeartbeats 400000 in
theorem t_judge_trial_reading_l0 {Γ : Gh} {w0 : World} {B : Gh} {gt_ et_ : Nat} {rowt_ : Rowb} {t_ : Ojudge_trial} (ht_ : Ojudge_trial.ob et_ B gt_ rowt_ t_) (ht_r : ∀ p ∈ rowt_, B p.1 = some p.2) (i_ : Int) (hi_ : I64 i_) (hp : Pre [] Γ w0) (hpB : Pre [] B w0) {r : Int} (h : m_judge_trial_reading_l0 t_ i_ = some r) : Calls Try.prog 23 #[.pointer (some ⟨gt_, 0, none⟩), .int .i64 i_] w0 (Outc Γ [] w0 (r_judge_trial_reading_l0 r)) := by
  refine calls_of (N := 122) (rs := [4]) (args := [.pointer (some ⟨gt_, 0, none⟩), .int .i64 i_]) Try.func23 rfl Try.ntmps23 Try.results23 rfl ?_
  obtain ⟨F, hF⟩ : ∃ F : Fm, F = ⟨ids [], w0, Γ⟩ := ⟨_, rfl⟩
  refine WC.here (C := CC F Γ []) ?_ (hF ▸ hp.start)
  have hB : Lent F B := hF ▸ Lent.start hpB
  refine WC.rs ?_
  refine va rfl rfl rfl (q_assign (v := .int .i64 0) rfl (by kernel_rfl)) ?_
  refine WR.nil ?_
  change WC _ _ _ _ _ _
  refine WC.rs ?_
  refine va rfl rfl rfl (q_move (v := .pointer (some ⟨gt_, 0, none⟩)) rfl (by kernel_rfl)) ?_
  refine va rfl rfl rfl (q_nil (A := some ⟨gt_, 0, none⟩) rfl rfl rfl) ?_
  refine va rfl rfl rfl (q_fl 0 fld_56_0 rfl rfl rfl) ?_
  have hq := ht_
  obtain ⟨A0_1, c0_1, m1_1, r1_1, m2_1, r2_1, hrow_1, ho0_1, ho1_1, ho2_1, ho3_1, -⟩ := hq
  have hg_2 : ∀ u ∈ ([[(gt_, .cells #[.slice A0_1 t_.list.length c0_1, .map (some m1_1), .map (some m2_1)] et_ (0, 0))], r1_1, r2_1] : List Rowb), ∀ p ∈ u, B p.1 = some p.2 := fun u hu p hp => (fun p hp => (ht_r p hp)) p (hrow_1 ▸ List.mem_flatten.2 ⟨u, hu, hp⟩)
  have hgc3 := hg_2 _ (List.mem_cons_self ..) (gt_, _) (List.mem_singleton.2 rfl)
  have hgs4 := hg_2 r1_1 (by simp)
  have hgs5 := hg_2 r2_1 (by simp)
  refine va rfl rfl rfl (q_via (fun w hw => hB.sat hw) fun F => (q_ldg (v := .slice A0_1 t_.list.length c0_1) hgc3 rfl Try.isAgg24 rfl rfl)) ?_
  refine va rfl rfl rfl (q_move (v := .int .i64 i_) rfl (by kernel_rfl)) ?_
  obtain ⟨hk6, h⟩ := chk_some h
  refine va rfl rfl rfl (q_ix Try.underlying24 Try.sizeOf32 rfl rfl rfl hk6 (ho1_1.some_ (inb_lt hk6))) ?_
  obtain ⟨A7, c8, A9, c10, hx11⟩ := ho1_1.djudge_ActT_at i_.toNat
  refine va rfl rfl rfl (q_ldaS (c := 0) (vs := [.bool (gt t_.list i_.toNat).read, .int .i64 (gt t_.list i_.toNat).sess, .string (gt t_.list i_.toNat).key, .int .i64 (gt t_.list i_.toNat).dot.s, .int .i64 (gt t_.list i_.toNat).dot.n, .bool (gt t_.list i_.toNat).oK, .slice A7 ((gt t_.list i_.toNat).reads).length c8, .slice A9 ((gt t_.list i_.toNat).seen).length c10]) (fun w hw => hB.sat hw) (hx11 (inb_lt hk6)).2 rfl Try.isAgg32 Try.sizeOf32 rfl rfl rfl) ?_
  refine e_alloc Try.zeroValue32 rfl rfl rfl rfl ?_
  intro g12
  refine e_st (i := 0) (v := .agg #[.bool (gt t_.list i_.toNat).read, .int .i64 (gt t_.list i_.toNat).sess, .string (gt t_.list i_.toNat).key, .int .i64 (gt t_.list i_.toNat).dot.s, .int .i64 (gt t_.list i_.toNat).dot.n, .bool (gt t_.list i_.toNat).oK, .slice A7 ((gt t_.list i_.toNat).reads).length c8, .slice A9 ((gt t_.list i_.toNat).seen).length c10]) (new := #[.bool (gt t_.list i_.toNat).read, .int .i64 (gt t_.list i_.toNat).sess, .string (gt t_.list i_.toNat).key, .int .i64 (gt t_.list i_.toNat).dot.s, .int .i64 (gt t_.list i_.toNat).dot.n, .bool (gt t_.list i_.toNat).oK, .slice A7 ((gt t_.list i_.toNat).reads).length c8, .slice A9 ((gt t_.list i_.toNat).seen).length c10]) rfl Try.sizeOf32 rfl rfl rfl rfl (by kernel_rfl) rfl rfl rfl rfl ?_
  refine WR.nil ?_
  change WC _ _ _ _ _ _
  refine WC.rs ?_
  refine e_makeMap kk27 trueV rfl rfl rfl rfl ?_
  intro g13 row14 hm15
  refine va rfl rfl rfl (q_assign (v := .map (some g13)) rfl (by kernel_rfl)) ?_
  refine WR.nil ?_
  change WC _ _ _ _ _ _
  refine WC.seq ?_
  refine WC.rs ?_
  refine va rfl rfl rfl (q_fl 6 fld_32_5 rfl rfl rfl) ?_
  refine va rfl rfl rfl (q_ldl (i := 1) (v := .slice A7 ((gt t_.list i_.toNat).reads).length c8) rfl rfl Try.isAgg29 rfl rfl) ?_
  refine va rfl rfl rfl (q_len_slice rfl Try.underlying29 rfl) ?_
  refine va rfl rfl rfl (q_move (v := .int .i64 0) rfl (by kernel_rfl)) ?_
  refine WR.nil ?_
  change WC _ _ _ _ _ _
  refine WC.block ?_
  refine WC.forI h (fun (i20 : Nat) (m16 : List ((Dot) × Unit)) σ w => ∃ (row17 : Rowb), slots σ [(0, .pointer (some ⟨gt_, 0, none⟩)), (1, .int .i64 i_), (5, .pointer (some ⟨g12, 0, none⟩)), (6, .map (some g13)), (25, .slice A7 ((gt t_.list i_.toNat).reads).length c8), (26, .int .i64 ((((gt t_.list i_.toNat).reads).length : Nat) : Int)), (27, .int .i64 ((i20 : Nat) : Int))] ∧ CC F Γ [row17, [(g12, .cells #[.bool (gt t_.list i_.toNat).read, .int .i64 (gt t_.list i_.toNat).sess, .string (gt t_.list i_.toNat).key, .int .i64 (gt t_.list i_.toNat).dot.s, .int .i64 (gt t_.list i_.toNat).dot.n, .bool (gt t_.list i_.toNat).oK, .slice A7 ((gt t_.list i_.toNat).reads).length c8, .slice A9 ((gt t_.list i_.toNat).seen).length c10] 32 (0, 0))]] w ∧ MapO kk27 trueV Γ row17 g13 m16 ∧ True) ?_ ?_
  · skip
    intro w hw
    exact ⟨row14, (sl_ (by kernel_rfl)), hw, hm15, trivial⟩
  rintro f19 i20 m16 σ w hi21 hlt22 hge23 ⟨row17, hsl, hw, ho18, -⟩
  refine Wpt.slots hsl ?_
  refine WC.here (C := CC F Γ [row17, [(g12, .cells #[.bool (gt t_.list i_.toNat).read, .int .i64 (gt t_.list i_.toNat).sess, .string (gt t_.list i_.toNat).key, .int .i64 (gt t_.list i_.toNat).dot.s, .int .i64 (gt t_.list i_.toNat).dot.n, .bool (gt t_.list i_.toNat).oK, .slice A7 ((gt t_.list i_.toNat).reads).length c8, .slice A9 ((gt t_.list i_.toNat).seen).length c10] 32 (0, 0))]]) ?_ hw
  clear hw hsl
  refine WC.rs ?_
  refine va rfl rfl rfl (q_lss rfl rfl rfl) ?_
  refine WR.nil ?_
  change WC _ _ _ _ _ _
  refine WC.seq ?_
  refine WC.cond (b := (decide (((i20 : Nat) : Int) < ((((gt t_.list i_.toNat).reads).length : Nat) : Int)))) (by kernel_rfl) (fun hb24 => ?_) (fun hb24 => ?_)
  · skip
    have hl25 := ilt hb24
    have h := hlt22 hl25
    refine WC.skip ?_
    change WC _ _ _ _ _ _
    refine WC.seq ?_
    refine WC.block ?_
    refine WC.rs ?_
    refine va rfl rfl rfl (q_ixn (i := i20) Try.underlying29 Try.sizeOf27 rfl rfl rfl hl25 ((hx11 (inb_lt hk6)).1.2.2.2.2.1.2.some_ hl25)) ?_
    refine va rfl rfl rfl (q_ldaS (c := 0) (vs := [.int .i64 (gt ((gt t_.list i_.toNat).reads) i20).s, .int .i64 (gt ((gt t_.list i_.toNat).reads) i20).n]) (fun w hw => hB.sat hw) ((hx11 (inb_lt hk6)).1.2.2.2.2.1.2.dotT_at hl25).2 rfl Try.isAgg27 Try.sizeOf27 rfl rfl rfl) ?_
    refine e_alloc Try.zeroValue27 rfl rfl rfl rfl ?_
    intro g26
    refine e_st (i := 0) (v := .agg #[.int .i64 (gt ((gt t_.list i_.toNat).reads) i20).s, .int .i64 (gt ((gt t_.list i_.toNat).reads) i20).n]) (new := #[.int .i64 (gt ((gt t_.list i_.toNat).reads) i20).s, .int .i64 (gt ((gt t_.list i_.toNat).reads) i20).n]) rfl Try.sizeOf27 rfl rfl rfl rfl (by kernel_rfl) rfl rfl rfl rfl ?_
    refine WR.nil ?_
    change WC _ _ _ _ _ _
    refine WC.seq ?_
    refine WC.seq ?_
    refine WC.dr (by kernel_rfl) (by kernel_rfl) (fun w hw => hw.drawn _) ?_
    refine wa rfl rfl rfl (q_move (v := .pointer (some ⟨gt_, 0, none⟩)) rfl (by kernel_rfl)) ?_
    refine wa rfl rfl rfl (q_nil (A := some ⟨gt_, 0, none⟩) rfl rfl rfl) ?_
    refine wa rfl rfl rfl (q_fl 1 fld_56_1 rfl rfl rfl) ?_
    refine wa rfl rfl rfl (q_via (fun w hw => hB.sat hw) fun F => (q_ldg (v := .map (some m1_1)) hgc3 rfl Try.isAgg53 rfl rfl)) ?_
    refine wa rfl rfl rfl (q_ldla (i := 0) (vs := [.int .i64 (gt ((gt t_.list i_.toNat).reads) i20).s, .int .i64 (gt ((gt t_.list i_.toNat).reads) i20).n]) rfl rfl Try.isAgg27 Try.sizeOf27 rfl rfl) ?_
    obtain ⟨v27, ⟨hv28, hi30⟩, hat29⟩ := MapO.look ho2_1 (gt ((gt t_.list i_.toNat).reads) i20) (z := .int .i64 0) (zx := 0) ⟨rfl, by decide⟩
    obtain rfl : v27 = _ := List.cons.inj hv28 |>.1
    refine wa rfl rfl rfl (q_via (fun w hw => hB.sat hw) fun F => (q_lookup2g (v := .int .i64 ((mget (gt ((gt t_.list i_.toNat).reads) i20) t_.first).getD 0)) (fun p hp => (hgs4 p hp)) hat29 rfl Try.underlying53 Try.zeroValue3 rfl rfl)) ?_
    refine wa rfl rfl rfl (q_move (v := .tuple #[.int .i64 ((mget (gt ((gt t_.list i_.toNat).reads) i20) t_.first).getD 0), .bool ((mget (gt ((gt t_.list i_.toNat).reads) i20) t_.first).isSome)]) rfl (by kernel_rfl)) ?_
    refine wa rfl rfl rfl (q_extract (v := .int .i64 ((mget (gt ((gt t_.list i_.toNat).reads) i20) t_.first).getD 0)) rfl rfl rfl) ?_
    refine wa rfl rfl rfl (q_extract (v := .bool ((mget (gt ((gt t_.list i_.toNat).reads) i20) t_.first).isSome)) rfl rfl rfl) ?_
    refine wa rfl rfl rfl (q_assign (v := .int .i64 ((mget (gt ((gt t_.list i_.toNat).reads) i20) t_.first).getD 0)) rfl (by kernel_rfl)) ?_
    refine wa rfl rfl rfl (q_assign (v := .bool ((mget (gt ((gt t_.list i_.toNat).reads) i20) t_.first).isSome)) rfl (by kernel_rfl)) ?_
    refine WQ.nil ?_
    change WC _ _ _ _ _ _
    refine WC.rs ?_
    refine va rfl rfl rfl (q_move (v := .bool ((mget (gt ((gt t_.list i_.toNat).reads) i20) t_.first).isSome)) rfl (by kernel_rfl)) ?_
    refine va rfl rfl rfl (q_not rfl rfl) ?_
    refine WR.nil ?_
    change WC _ _ _ _ _ _
    refine WC.cif h (by kernel_rfl) (fun hb31 h => ?_) (fun hb31 h => ?_)
    · skip
      refine WC.rs ?_
      refine va rfl rfl rfl (q_assign (v := .int .i64 2) rfl (by kernel_rfl)) ?_
      refine WR.nil ?_
      change WC _ _ _ _ _ _
      refine WC.ret ?_
      intro w hw
      obtain rfl := Option.some.inj h
      subst hF
      exact end_e (is := []) (by kernel_rfl) hw rfl ⟨rfl, rfl, (show I64 2 by decide), trivial⟩
    · skip
      refine WC.skip ?_
      change WC _ _ _ _ _ _
      refine WC.region ?_
      refine va rfl rfl rfl (q_move (v := .map (some g13)) rfl (by kernel_rfl)) ?_
      refine va rfl rfl rfl (q_ldla (i := 0) (vs := [.int .i64 (gt ((gt t_.list i_.toNat).reads) i20).s, .int .i64 (gt ((gt t_.list i_.toNat).reads) i20).n]) rfl rfl Try.isAgg27 Try.sizeOf27 rfl rfl) ?_
      refine e_mapUpdate (i := 1) (x := (gt ((gt t_.list i_.toNat).reads) i20)) (v := .bool true) (a := ()) rfl rfl rfl Try.underlying52 rfl rfl (by kernel_rfl) rfl ho18 (by exact rfl) ⟨((hx11 (inb_lt hk6)).1.2.2.2.2.1.2.dotT_at hl25).1.1, ((hx11 (inb_lt hk6)).1.2.2.2.2.1.2.dotT_at hl25).1.2⟩ ?_
      intro row32 hm33
      have hm33 := hm33.perm (sput_perm kl27 _ _)
      refine WR.nil ?_
      change WC _ _ _ _ _ _
      refine WC.region ?_
      refine va rfl rfl rfl (q_add_r (r := ((i20 + 1 : Nat) : Int)) rfl rfl rfl (ctr_len hl25 (hx11 (inb_lt hk6)).1.2.2.2.2.1.2.le)) ?_
      refine va rfl rfl rfl (q_move (v := .int .i64 ((i20 + 1 : Nat) : Int)) rfl (by kernel_rfl)) ?_
      refine WR.nil ?_
      intro w hw
      exact ⟨hl25, (sput kl27 (gt ((gt t_.list i_.toNat).reads) i20) m16), h, row32, (sl_ (by kernel_rfl)), (hw.only (is := [1, 1]) rfl), hm33, trivial⟩
  · skip
    have h := hge23 (ige hb24)
    refine WC.exit ?_
    change WC _ _ _ _ _ _
    refine WC.seq ?_
    refine WC.rs ?_
    refine va rfl rfl rfl (q_move (v := .map (some g13)) rfl (by kernel_rfl)) ?_
    refine e_range ho18 (fun w hw p hp => hw.at_ (i := 0) rfl hp) rfl rfl rfl Try.underlying52 rfl ?_
    intro g34 row35 hi36
    change WR _ _ _ (CC F Γ [row35, row17, [(g12, .cells #[.bool (gt t_.list i_.toNat).read, .int .i64 (gt t_.list i_.toNat).sess, .string (gt t_.list i_.toNat).key, .int .i64 (gt t_.list i_.toNat).dot.s, .int .i64 (gt t_.list i_.toNat).dot.n, .bool (gt t_.list i_.toNat).oK, .slice A7 ((gt t_.list i_.toNat).reads).length c8, .slice A9 ((gt t_.list i_.toNat).seen).length c10] 32 (0, 0))]]) _ _ (upd _ 46 (.pointer (some ⟨g34, 0, none⟩)))
    refine WR.nil ?_
    change WC _ _ _ _ _ _
    refine WC.block ?_
    refine WC.anyX h (fun (l37 : List ((Dot) × Unit)) (s : Unit) σ w => match s with | () => ∃ (row38 : Rowb), slots σ [(0, .pointer (some ⟨gt_, 0, none⟩)), (1, .int .i64 i_), (5, .pointer (some ⟨g12, 0, none⟩)), (6, .map (some g13)), (46, .pointer (some ⟨g34, 0, none⟩))] ∧ CC F Γ [row38, row17, [(g12, .cells #[.bool (gt t_.list i_.toNat).read, .int .i64 (gt t_.list i_.toNat).sess, .string (gt t_.list i_.toNat).key, .int .i64 (gt t_.list i_.toNat).dot.s, .int .i64 (gt t_.list i_.toNat).dot.n, .bool (gt t_.list i_.toNat).oK, .slice A7 ((gt t_.list i_.toNat).reads).length c8, .slice A9 ((gt t_.list i_.toNat).seen).length c10] 32 (0, 0))]] w ∧ ItO kk27 trueV Γ row38 g34 g13 row17 m16 l37 ∧ True) ?_ ?_
    · skip
      intro w hw
      exact ⟨row35, (sl_ (by kernel_rfl)), hw, hi36, trivial⟩
    rintro G45 l37 ⟨⟩ σ w hstep40 hK41 ⟨row38, hsl, hw, hi39, -⟩
    refine Wpt.slots hsl ?_
    refine WC.here (C := CC F Γ [row38, row17, [(g12, .cells #[.bool (gt t_.list i_.toNat).read, .int .i64 (gt t_.list i_.toNat).sess, .string (gt t_.list i_.toNat).key, .int .i64 (gt t_.list i_.toNat).dot.s, .int .i64 (gt t_.list i_.toNat).dot.n, .bool (gt t_.list i_.toNat).oK, .slice A7 ((gt t_.list i_.toNat).reads).length c8, .slice A9 ((gt t_.list i_.toNat).seen).length c10] 32 (0, 0))]]) ?_ hw
    clear hw hsl
    refine WC.rs ?_
    refine e_next (i := 0) rfl ho18.ks hi39 (fun w hw p hp => hw.at_ (i := 1) rfl hp) rfl rfl rfl rfl (fun hl46 => ?_) (fun en47 l48 v49 row50 hp51 hok52 hv53 hit54 he55 => ?_)
    · skip
      have h := hK41 hl46
      change WR _ _ _ (CC F Γ [row38, row17, [(g12, .cells #[.bool (gt t_.list i_.toNat).read, .int .i64 (gt t_.list i_.toNat).sess, .string (gt t_.list i_.toNat).key, .int .i64 (gt t_.list i_.toNat).dot.s, .int .i64 (gt t_.list i_.toNat).dot.n, .bool (gt t_.list i_.toNat).oK, .slice A7 ((gt t_.list i_.toNat).reads).length c8, .slice A9 ((gt t_.list i_.toNat).seen).length c10] 32 (0, 0))]]) _ _ (upd _ 47 (.tuple #[.bool false]))
      refine va rfl rfl rfl (q_extract (v := .bool false) rfl rfl rfl) ?_
      refine WR.nil ?_
      change WC _ _ _ _ _ _
      refine WC.seq ?_
      refine WC.cfk (b := false) (by kernel_rfl) rfl ?_
      refine WC.exit ?_
      change WC _ _ _ _ _ _
      refine WC.rs ?_
      refine va rfl rfl rfl (q_move (v := .pointer (some ⟨gt_, 0, none⟩)) rfl (by kernel_rfl)) ?_
      refine va rfl rfl rfl (q_move (v := .int .i64 i_) rfl (by kernel_rfl)) ?_
      obtain ⟨z56, hz57, h⟩ := bnd h
      refine e_callB (is := []) hB rfl rfl (call_run Try.call28 rfl rfl (by kernel_rfl)) rfl (fun w Θ hp hpB hle hleB hR => t_judge_trial_saw_l1 (ht_.mono hleB) (fun p hp => hleB _ _ (ht_r p hp)) i_ hi_ hp hpB hz57) ?_
      rintro Γ58 U60 v61 hl59 ⟨g62, row63, rfl, rfl, hr64, _⟩
      change WR _ _ _ (CC F Γ58 [row63, row38, row17, [(g12, .cells #[.bool (gt t_.list i_.toNat).read, .int .i64 (gt t_.list i_.toNat).sess, .string (gt t_.list i_.toNat).key, .int .i64 (gt t_.list i_.toNat).dot.s, .int .i64 (gt t_.list i_.toNat).dot.n, .bool (gt t_.list i_.toNat).oK, .slice A7 ((gt t_.list i_.toNat).reads).length c8, .slice A9 ((gt t_.list i_.toNat).seen).length c10] 32 (0, 0))]]) _ _ (upd _ 69 (.map (some g62)))
      refine va rfl rfl rfl (q_assign (v := .map (some g62)) rfl (by kernel_rfl)) ?_
      refine WR.nil ?_
      change WC _ _ _ _ _ _
      refine WC.rs ?_
      refine va rfl rfl rfl (q_move (v := .map (some g62)) rfl (by kernel_rfl)) ?_
      refine e_clone clone35 (i := 0) rfl hr64 rfl rfl (call_run Try.call35 rfl rfl (by kernel_rfl)) ?_
      intro g65 row66 hm67
      change WR _ _ _ (CC F Γ58 [row66, row63, row38, row17, [(g12, .cells #[.bool (gt t_.list i_.toNat).read, .int .i64 (gt t_.list i_.toNat).sess, .string (gt t_.list i_.toNat).key, .int .i64 (gt t_.list i_.toNat).dot.s, .int .i64 (gt t_.list i_.toNat).dot.n, .bool (gt t_.list i_.toNat).oK, .slice A7 ((gt t_.list i_.toNat).reads).length c8, .slice A9 ((gt t_.list i_.toNat).seen).length c10] 32 (0, 0))]]) _ _ (upd _ 71 (.map (some g65)))
      refine va rfl rfl rfl (q_assign (v := .map (some g65)) rfl (by kernel_rfl)) ?_
      refine WR.nil ?_
      change WC _ _ _ _ _ _
      refine WC.seq ?_
      refine WC.rs ?_
      refine va rfl rfl rfl (q_move (v := .pointer (some ⟨gt_, 0, none⟩)) rfl (by kernel_rfl)) ?_
      refine va rfl rfl rfl (q_nil (A := some ⟨gt_, 0, none⟩) rfl rfl rfl) ?_
      refine va rfl rfl rfl (q_fl 1 fld_56_1 rfl rfl rfl) ?_
      refine va rfl rfl rfl (q_via (fun w hw => hB.sat hw) fun F => (q_ldg (v := .map (some m1_1)) hgc3 rfl Try.isAgg53 rfl rfl)) ?_
      have hz68 := ZM.of ho2_1 (fun p hp => (hgs4 p hp))
      refine e_rangeZ hz68 (fun w hw => hB.sat hw) rfl rfl rfl Try.underlying53 rfl ?_
      intro g69 row70 hi71
      change WR _ _ _ (CC F Γ58 [row70, row66, row63, row38, row17, [(g12, .cells #[.bool (gt t_.list i_.toNat).read, .int .i64 (gt t_.list i_.toNat).sess, .string (gt t_.list i_.toNat).key, .int .i64 (gt t_.list i_.toNat).dot.s, .int .i64 (gt t_.list i_.toNat).dot.n, .bool (gt t_.list i_.toNat).oK, .slice A7 ((gt t_.list i_.toNat).reads).length c8, .slice A9 ((gt t_.list i_.toNat).seen).length c10] 32 (0, 0))]]) _ _ (upd _ 76 (.pointer (some ⟨g69, 0, none⟩)))
      refine WR.nil ?_
      change WC _ _ _ _ _ _
      refine WC.block ?_
      refine WC.anyX h (fun (l72 : List ((Dot) × Int)) (m77 : List ((Dot) × Unit)) σ w => ∃ (Γ73 : Gh), ∃ (row75 : Rowb), ∃ (row78 : Rowb), slots σ [(0, .pointer (some ⟨gt_, 0, none⟩)), (5, .pointer (some ⟨g12, 0, none⟩)), (6, .map (some g13)), (12, .map (some g62)), (13, .map (some g65)), (76, .pointer (some ⟨g69, 0, none⟩))] ∧ CC F Γ73 [row75, row78, row63, row17, [(g12, .cells #[.bool (gt t_.list i_.toNat).read, .int .i64 (gt t_.list i_.toNat).sess, .string (gt t_.list i_.toNat).key, .int .i64 (gt t_.list i_.toNat).dot.s, .int .i64 (gt t_.list i_.toNat).dot.n, .bool (gt t_.list i_.toNat).oK, .slice A7 ((gt t_.list i_.toNat).reads).length c8, .slice A9 ((gt t_.list i_.toNat).seen).length c10] 32 (0, 0))]] w ∧ Gh.le Γ58 Γ73 ∧ ItZ kk27 intT.v B row75 g69 (.map (some m1_1)) t_.first l72 ∧ MapO kk27 trueV Γ73 row78 g65 m77 ∧ True) ?_ ?_
      · skip
        intro w hw
        exact ⟨Γ58, row70, row66, (sl_ (by kernel_rfl)), (hw.only (is := [0, 0, 0, 1, 1]) rfl), (Gh.refl _), hi71, hm67, trivial⟩
      rintro G85 l72 m77 σ w hstep80 hK81 ⟨Γ73, row75, row78, hsl, hw, hl74, hi76, ho79, -⟩
      refine Wpt.slots hsl ?_
      refine WC.here (C := CC F Γ73 [row75, row78, row63, row17, [(g12, .cells #[.bool (gt t_.list i_.toNat).read, .int .i64 (gt t_.list i_.toNat).sess, .string (gt t_.list i_.toNat).key, .int .i64 (gt t_.list i_.toNat).dot.s, .int .i64 (gt t_.list i_.toNat).dot.n, .bool (gt t_.list i_.toNat).oK, .slice A7 ((gt t_.list i_.toNat).reads).length c8, .slice A9 ((gt t_.list i_.toNat).seen).length c10] 32 (0, 0))]]) ?_ hw
      clear hw hsl
      refine WC.rs ?_
      refine e_nextZ (i := 0) rfl hz68.ks hi76 (fun w hw => hB.sat hw) rfl rfl rfl rfl (fun hl86 => ?_) (fun en87 l88 v89 row90 hp91 hok92 hv93 hit94 he95 => ?_)
      · skip
        have h := hK81 hl86
        change WR _ _ _ (CC F Γ73 [row75, row78, row63, row17, [(g12, .cells #[.bool (gt t_.list i_.toNat).read, .int .i64 (gt t_.list i_.toNat).sess, .string (gt t_.list i_.toNat).key, .int .i64 (gt t_.list i_.toNat).dot.s, .int .i64 (gt t_.list i_.toNat).dot.n, .bool (gt t_.list i_.toNat).oK, .slice A7 ((gt t_.list i_.toNat).reads).length c8, .slice A9 ((gt t_.list i_.toNat).seen).length c10] 32 (0, 0))]]) _ _ (upd _ 77 (.tuple #[.bool false]))
        refine va rfl rfl rfl (q_extract (v := .bool false) rfl rfl rfl) ?_
        refine WR.nil ?_
        change WC _ _ _ _ _ _
        refine WC.seq ?_
        refine WC.cfk (b := false) (by kernel_rfl) rfl ?_
        refine WC.exit ?_
        change WC _ _ _ _ _ _
        refine WC.seq ?_
        refine WC.rs ?_
        refine va rfl rfl rfl (q_fl 7 fld_32_6 rfl rfl rfl) ?_
        refine va rfl rfl rfl (q_ldl (i := 4) (v := .slice A9 ((gt t_.list i_.toNat).seen).length c10) rfl rfl Try.isAgg30 rfl rfl) ?_
        refine va rfl rfl rfl (q_move (v := .map (some g62)) rfl (by kernel_rfl)) ?_
        obtain ⟨z96, hz97, h⟩ := bnd h
        refine vc rfl rfl rfl (q_call (call_run Try.call37 rfl rfl (by kernel_rfl)) (fun w hw => t_judge_covers (Γ := Gh.all w) ((hx11 (inb_lt hk6)).1.2.2.2.2.2.2.mono ((fun w hw => hB.sat hw) w hw).le_all) (hx11 (inb_lt hk6)).1.2.2.2.2.2.1 (ZM.of ((hr64.mono hl74).mono hw.sat.le_all) (hw.ra 2 rfl)) (Sat.all w) hz97)) ?_
        refine va rfl rfl rfl (q_not rfl rfl) ?_
        refine WR.nil ?_
        change WC _ _ _ _ _ _
        refine WC.cif h (by kernel_rfl) (fun hb98 h => ?_) (fun hb98 h => ?_)
        · skip
          refine WC.rs ?_
          refine va rfl rfl rfl (q_assign (v := .int .i64 5) rfl (by kernel_rfl)) ?_
          refine WR.nil ?_
          change WC _ _ _ _ _ _
          refine WC.ret ?_
          intro w hw
          obtain rfl := Option.some.inj h
          subst hF
          exact end_e (is := []) (by kernel_rfl) hw rfl ⟨rfl, rfl, (show I64 5 by decide), trivial⟩
        · skip
          refine WC.skip ?_
          change WC _ _ _ _ _ _
          refine WC.seq ?_
          refine WC.rs ?_
          refine va rfl rfl rfl (q_move (v := .map (some g13)) rfl (by kernel_rfl)) ?_
          refine e_range (ho18.mono (hl59.trans hl74)) (fun w hw p hp => hw.at_ (i := 3) rfl hp) rfl rfl rfl Try.underlying52 rfl ?_
          intro g99 row100 hi101
          change WR _ _ _ (CC F Γ73 [row100, row75, row78, row63, row17, [(g12, .cells #[.bool (gt t_.list i_.toNat).read, .int .i64 (gt t_.list i_.toNat).sess, .string (gt t_.list i_.toNat).key, .int .i64 (gt t_.list i_.toNat).dot.s, .int .i64 (gt t_.list i_.toNat).dot.n, .bool (gt t_.list i_.toNat).oK, .slice A7 ((gt t_.list i_.toNat).reads).length c8, .slice A9 ((gt t_.list i_.toNat).seen).length c10] 32 (0, 0))]]) _ _ (upd _ 105 (.pointer (some ⟨g99, 0, none⟩)))
          refine WR.nil ?_
          change WC _ _ _ _ _ _
          refine WC.block ?_
          refine WC.anyX h (fun (l102 : List ((Dot) × Unit)) (m107 : List ((Dot) × Unit)) σ w => ∃ (Γ103 : Gh), ∃ (row105 : Rowb), ∃ (row108 : Rowb), slots σ [(0, .pointer (some ⟨gt_, 0, none⟩)), (5, .pointer (some ⟨g12, 0, none⟩)), (6, .map (some g13)), (13, .map (some g65)), (105, .pointer (some ⟨g99, 0, none⟩))] ∧ CC F Γ103 [row105, row108, row63, row17, [(g12, .cells #[.bool (gt t_.list i_.toNat).read, .int .i64 (gt t_.list i_.toNat).sess, .string (gt t_.list i_.toNat).key, .int .i64 (gt t_.list i_.toNat).dot.s, .int .i64 (gt t_.list i_.toNat).dot.n, .bool (gt t_.list i_.toNat).oK, .slice A7 ((gt t_.list i_.toNat).reads).length c8, .slice A9 ((gt t_.list i_.toNat).seen).length c10] 32 (0, 0))]] w ∧ Gh.le Γ73 Γ103 ∧ ItO kk27 trueV Γ103 row105 g99 g13 row17 m16 l102 ∧ MapO kk27 trueV Γ103 row108 g65 m107 ∧ True) ?_ ?_
          · skip
            intro w hw
            exact ⟨Γ73, row100, row78, (sl_ (by kernel_rfl)), (hw.only (is := [0, 1, 1, 1, 1]) rfl), (Gh.refl _), hi101, ho79, trivial⟩
          rintro G115 l102 m107 σ w hstep110 hK111 ⟨Γ103, row105, row108, hsl, hw, hl104, hi106, ho109, -⟩
          refine Wpt.slots hsl ?_
          refine WC.here (C := CC F Γ103 [row105, row108, row63, row17, [(g12, .cells #[.bool (gt t_.list i_.toNat).read, .int .i64 (gt t_.list i_.toNat).sess, .string (gt t_.list i_.toNat).key, .int .i64 (gt t_.list i_.toNat).dot.s, .int .i64 (gt t_.list i_.toNat).dot.n, .bool (gt t_.list i_.toNat).oK, .slice A7 ((gt t_.list i_.toNat).reads).length c8, .slice A9 ((gt t_.list i_.toNat).seen).length c10] 32 (0, 0))]]) ?_ hw
          clear hw hsl
          refine WC.rs ?_
          refine e_next (i := 0) rfl (ho18.mono ((hl59.trans hl74).trans hl104)).ks hi106 (fun w hw p hp => hw.at_ (i := 3) rfl hp) rfl rfl rfl rfl (fun hl116 => ?_) (fun en117 l118 v119 row120 hp121 hok122 hv123 hit124 he125 => ?_)
          · skip
            have h := hK111 hl116
            change WR _ _ _ (CC F Γ103 [row105, row108, row63, row17, [(g12, .cells #[.bool (gt t_.list i_.toNat).read, .int .i64 (gt t_.list i_.toNat).sess, .string (gt t_.list i_.toNat).key, .int .i64 (gt t_.list i_.toNat).dot.s, .int .i64 (gt t_.list i_.toNat).dot.n, .bool (gt t_.list i_.toNat).oK, .slice A7 ((gt t_.list i_.toNat).reads).length c8, .slice A9 ((gt t_.list i_.toNat).seen).length c10] 32 (0, 0))]]) _ _ (upd _ 106 (.tuple #[.bool false]))
            refine va rfl rfl rfl (q_extract (v := .bool false) rfl rfl rfl) ?_
            refine WR.nil ?_
            change WC _ _ _ _ _ _
            refine WC.seq ?_
            refine WC.cfk (b := false) (by kernel_rfl) rfl ?_
            refine WC.exit ?_
            change WC _ _ _ _ _ _
            refine WC.seq ?_
            refine WC.rs ?_
            refine va rfl rfl rfl (q_move (v := .map (some g13)) rfl (by kernel_rfl)) ?_
            refine va rfl rfl rfl (q_move (v := .pointer (some ⟨gt_, 0, none⟩)) rfl (by kernel_rfl)) ?_
            refine va rfl rfl rfl (q_move (v := .map (some g65)) rfl (by kernel_rfl)) ?_
            refine va rfl rfl rfl (q_fl 2 fld_32_2 rfl rfl rfl) ?_
            refine va rfl rfl rfl (q_ldl (i := 4) (v := .string (gt t_.list i_.toNat).key) rfl rfl Try.isAgg9 rfl rfl) ?_
            obtain ⟨z126, hz127, h⟩ := bnd h
            refine e_callB (is := []) hB rfl rfl (call_run Try.call40 rfl rfl (by kernel_rfl)) rfl (fun w Θ hp hpB hle hleB hR => t_judge_trial_greatest_l1 (ht_.mono hleB) (fun p hp => hleB _ _ (ht_r p hp)) (ZM.of (ho109.mono hle) (fun p hp => hR _ (List.mem_of_getElem? (i := 1) rfl) p hp)) ((gt t_.list i_.toNat).key) (hx11 (inb_lt hk6)).1.2.1 hp hpB hz127) ?_
            rintro Γ128 U130 v131 hl129 ⟨g132, row133, rfl, rfl, hr134, _⟩
            change WR _ _ _ (CC F Γ128 [row133, row105, row108, row63, row17, [(g12, .cells #[.bool (gt t_.list i_.toNat).read, .int .i64 (gt t_.list i_.toNat).sess, .string (gt t_.list i_.toNat).key, .int .i64 (gt t_.list i_.toNat).dot.s, .int .i64 (gt t_.list i_.toNat).dot.n, .bool (gt t_.list i_.toNat).oK, .slice A7 ((gt t_.list i_.toNat).reads).length c8, .slice A9 ((gt t_.list i_.toNat).seen).length c10] 32 (0, 0))]]) _ _ (upd _ 119 (.map (some g132)))
            obtain ⟨z135, hz136, h⟩ := bnd h
            refine vc rfl rfl rfl (q_call (call_run Try.call39 rfl rfl (by kernel_rfl)) (fun w hw => t_maps_Equal_judge_dots_judge_dots_api_Dot_bool (Γ := Gh.all w) (ZM.of ((ho18.mono (((hl59.trans hl74).trans hl104).trans hl129)).mono hw.sat.le_all) (hw.ra 4 rfl)) (ZM.of (hr134.mono hw.sat.le_all) (hw.ra 0 rfl)) (Sat.all w) hz136)) ?_
            refine va rfl rfl rfl (q_not rfl rfl) ?_
            refine WR.nil ?_
            change WC _ _ _ _ _ _
            refine WC.cif h (by kernel_rfl) (fun hb137 h => ?_) (fun hb137 h => ?_)
            · skip
              refine WC.rs ?_
              refine va rfl rfl rfl (q_assign (v := .int .i64 6) rfl (by kernel_rfl)) ?_
              refine WR.nil ?_
              change WC _ _ _ _ _ _
              refine WC.ret ?_
              intro w hw
              obtain rfl := Option.some.inj h
              subst hF
              exact end_e (is := []) (by kernel_rfl) hw rfl ⟨rfl, rfl, (show I64 6 by decide), trivial⟩
            · skip
              refine WC.skip ?_
              change WC _ _ _ _ _ _
              refine WC.rs ?_
              refine va rfl rfl rfl (q_assign (v := .int .i64 0) rfl (by kernel_rfl)) ?_
              refine WR.nil ?_
              change WC _ _ _ _ _ _
              refine WC.ret ?_
              intro w hw
              obtain rfl := Option.some.inj h
              subst hF
              exact end_e (is := []) (by kernel_rfl) hw rfl ⟨rfl, rfl, (show I64 0 by decide), trivial⟩
          · skip
            obtain ⟨hlen112, o138, h, hgo114⟩ := hstep110 en117 l118 hp121
            obtain rfl : v119 = .bool true := hv123
            change WR _ _ _ (CC F Γ103 [row120, row108, row63, row17, [(g12, .cells #[.bool (gt t_.list i_.toNat).read, .int .i64 (gt t_.list i_.toNat).sess, .string (gt t_.list i_.toNat).key, .int .i64 (gt t_.list i_.toNat).dot.s, .int .i64 (gt t_.list i_.toNat).dot.n, .bool (gt t_.list i_.toNat).oK, .slice A7 ((gt t_.list i_.toNat).reads).length c8, .slice A9 ((gt t_.list i_.toNat).seen).length c10] 32 (0, 0))]]) _ _ (upd _ 106 (.tuple #[.bool true, .agg #[.int .i64 en117.1.s, .int .i64 en117.1.n], .bool true]))
            refine va rfl rfl rfl (q_extract (v := .bool true) rfl rfl rfl) ?_
            refine WR.nil ?_
            change WC _ _ _ _ _ _
            refine WC.seq ?_
            refine WC.ctk (b := true) (by kernel_rfl) rfl ?_
            refine WC.skip ?_
            change WC _ _ _ _ _ _
            refine WC.block ?_
            refine WC.rs ?_
            refine va rfl rfl rfl (q_entry (kv := .agg #[.int .i64 en117.1.s, .int .i64 en117.1.n]) (v := .bool true) (i := 0) rfl he125 (fun w hw p hp => hw.at_ (i := 3) rfl hp) rfl rfl) ?_
            refine va rfl rfl rfl (q_extract (v := .agg #[.int .i64 en117.1.s, .int .i64 en117.1.n]) rfl rfl rfl) ?_
            refine e_alloc Try.zeroValue27 rfl rfl rfl rfl ?_
            intro g139
            refine e_st (i := 0) (v := .agg #[.int .i64 en117.1.s, .int .i64 en117.1.n]) (new := #[.int .i64 en117.1.s, .int .i64 en117.1.n]) rfl Try.sizeOf27 rfl rfl rfl rfl (by kernel_rfl) rfl rfl rfl rfl ?_
            refine WR.nil ?_
            change WC _ _ _ _ _ _
            refine WC.region ?_
            refine va rfl rfl rfl (q_move (v := .pointer (some ⟨gt_, 0, none⟩)) rfl (by kernel_rfl)) ?_
            refine va rfl rfl rfl (q_move (v := .map (some g65)) rfl (by kernel_rfl)) ?_
            refine va rfl rfl rfl (q_ldla (i := 0) (vs := [.int .i64 en117.1.s, .int .i64 en117.1.n]) rfl rfl Try.isAgg27 Try.sizeOf27 rfl rfl) ?_
            obtain ⟨z140, hz141, h⟩ := bnd h
            refine e_callB (is := [2]) hB rfl rfl (call_run Try.call38 rfl rfl (by kernel_rfl)) rfl (fun w Θ hp hpB hle hleB hR => t_judge_trial_put_l1 (ht_.mono hleB) (fun p hp => hleB _ _ (ht_r p hp)) ho109 en117.1 ⟨(hok122.1), (hok122.2)⟩ hp hpB hz141) ?_
            rintro Γ142 U144 v145 hl143 ⟨row146, rfl, rfl, hr147, _⟩
            change WR _ _ _ (CC F Γ142 [row146, [(g139, .cells #[.int .i64 en117.1.s, .int .i64 en117.1.n] 27 (0, 0))], row120, row63, row17, [(g12, .cells #[.bool (gt t_.list i_.toNat).read, .int .i64 (gt t_.list i_.toNat).sess, .string (gt t_.list i_.toNat).key, .int .i64 (gt t_.list i_.toNat).dot.s, .int .i64 (gt t_.list i_.toNat).dot.n, .bool (gt t_.list i_.toNat).oK, .slice A7 ((gt t_.list i_.toNat).reads).length c8, .slice A9 ((gt t_.list i_.toNat).seen).length c10] 32 (0, 0))]]) _ _ (upd _ 113 (.tuple #[]))
            refine WR.nil ?_
            intro w hw
            obtain rfl := Option.some.inj h
            exact ⟨l118, _, hlen112, hgo114, Γ142, row120, row146, (sl_ (by kernel_rfl)), (hw.only (is := [2, 0, 1, 1, 1]) rfl), (hl104.trans hl143), (hit124.mono hl143), hr147, trivial⟩
      · skip
        obtain ⟨hlen82, o148, h, hgo84⟩ := hstep80 en87 l88 hp91
        obtain ⟨hv93, hi149⟩ := hv93
        obtain rfl : v89 = _ := List.cons.inj hv93 |>.1
        change WR _ _ _ (CC F Γ73 [row90, row78, row63, row17, [(g12, .cells #[.bool (gt t_.list i_.toNat).read, .int .i64 (gt t_.list i_.toNat).sess, .string (gt t_.list i_.toNat).key, .int .i64 (gt t_.list i_.toNat).dot.s, .int .i64 (gt t_.list i_.toNat).dot.n, .bool (gt t_.list i_.toNat).oK, .slice A7 ((gt t_.list i_.toNat).reads).length c8, .slice A9 ((gt t_.list i_.toNat).seen).length c10] 32 (0, 0))]]) _ _ (upd _ 77 (.tuple #[.bool true, .agg #[.int .i64 en87.1.s, .int .i64 en87.1.n], .int .i64 en87.2]))
        refine va rfl rfl rfl (q_extract (v := .bool true) rfl rfl rfl) ?_
        refine WR.nil ?_
        change WC _ _ _ _ _ _
        refine WC.seq ?_
        refine WC.ctk (b := true) (by kernel_rfl) rfl ?_
        refine WC.skip ?_
        change WC _ _ _ _ _ _
        refine WC.block ?_
        refine WC.rs ?_
        refine va rfl rfl rfl (q_entryZ (kv := .agg #[.int .i64 en87.1.s, .int .i64 en87.1.n]) (v := .int .i64 en87.2) (i := 0) rfl he95 (fun w hw => hB.sat hw) rfl rfl) ?_
        refine va rfl rfl rfl (q_extract (v := .agg #[.int .i64 en87.1.s, .int .i64 en87.1.n]) rfl rfl rfl) ?_
        refine e_alloc Try.zeroValue27 rfl rfl rfl rfl ?_
        intro g150
        refine e_st (i := 0) (v := .agg #[.int .i64 en87.1.s, .int .i64 en87.1.n]) (new := #[.int .i64 en87.1.s, .int .i64 en87.1.n]) rfl Try.sizeOf27 rfl rfl rfl rfl (by kernel_rfl) rfl rfl rfl rfl ?_
        refine WR.nil ?_
        change WC _ _ _ _ _ _
        refine WC.rs ?_
        refine va rfl rfl rfl (q_fl 7 fld_32_6 rfl rfl rfl) ?_
        refine va rfl rfl rfl (q_ldl (i := 5) (v := .slice A9 ((gt t_.list i_.toNat).seen).length c10) rfl rfl Try.isAgg30 rfl rfl) ?_
        refine va rfl rfl rfl (q_ldla (i := 0) (vs := [.int .i64 en87.1.s, .int .i64 en87.1.n]) rfl rfl Try.isAgg27 Try.sizeOf27 rfl rfl) ?_
        obtain ⟨z151, hz152, h⟩ := bnd h
        refine vc rfl rfl rfl (q_call (call_run Try.call36 rfl rfl (by kernel_rfl)) (fun w hw => t_vect_Covers (Γ := Gh.all w) ((hx11 (inb_lt hk6)).1.2.2.2.2.2.2.mono ((fun w hw => hB.sat hw) w hw).le_all) (hx11 (inb_lt hk6)).1.2.2.2.2.2.1 en87.1 ⟨(hok92.1), (hok92.2)⟩ (Sat.all w) hz152)) ?_
        refine WR.nil ?_
        change WC _ _ _ _ _ _
        refine WC.cif h (by kernel_rfl) (fun hb153 h => ?_) (fun hb153 h => ?_)
        · skip
          refine WC.seq ?_
          refine WC.seq ?_
          refine WC.dr (by kernel_rfl) (by kernel_rfl) (fun w hw => hw.drawn _) ?_
          refine wa rfl rfl rfl (q_fl 7 fld_32_6 rfl rfl rfl) ?_
          refine wa rfl rfl rfl (q_ldl (i := 5) (v := .slice A9 ((gt t_.list i_.toNat).seen).length c10) rfl rfl Try.isAgg30 rfl rfl) ?_
          refine wa rfl rfl rfl (q_move (v := .pointer (some ⟨gt_, 0, none⟩)) rfl (by kernel_rfl)) ?_
          refine wa rfl rfl rfl (q_nil (A := some ⟨gt_, 0, none⟩) rfl rfl rfl) ?_
          refine wa rfl rfl rfl (q_fl 2 fld_56_2 rfl rfl rfl) ?_
          refine wa rfl rfl rfl (q_via (fun w hw => hB.sat hw) fun F => (q_ldg (v := .map (some m2_1)) hgc3 rfl Try.isAgg54 rfl rfl)) ?_
          refine wa rfl rfl rfl (q_ldla (i := 0) (vs := [.int .i64 en87.1.s, .int .i64 en87.1.n]) rfl rfl Try.isAgg27 Try.sizeOf27 rfl rfl) ?_
          obtain ⟨v154, rowM155, hat156, hr157, hz158⟩ := MapM.lookZ ho3_1 (fun p hp => (hgs5 p hp)) en87.1
          refine wa rfl rfl rfl (q_via (fun w hw => hB.sat hw) fun F => (q_lookup1g (v := v154) hr157 hat156 rfl Try.underlying54 Try.zeroValue52 rfl rfl)) ?_
          obtain ⟨z159, hz160, h⟩ := bnd h
          refine wc rfl rfl rfl (q_call (call_run Try.call37 rfl rfl (by kernel_rfl)) (fun w hw => t_judge_covers (Γ := Gh.all w) ((hx11 (inb_lt hk6)).1.2.2.2.2.2.2.mono ((fun w hw => hB.sat hw) w hw).le_all) (hx11 (inb_lt hk6)).1.2.2.2.2.2.1 (hz158.mono ((fun w hw => hB.sat hw) w hw).le_all) (Sat.all w) hz160)) ?_
          refine wa rfl rfl rfl (q_not rfl rfl) ?_
          refine WQ.nil ?_
          change WC _ _ _ _ _ _
          refine WC.cif h (by kernel_rfl) (fun hb161 h => ?_) (fun hb161 h => ?_)
          · skip
            refine WC.rs ?_
            refine va rfl rfl rfl (q_assign (v := .int .i64 4) rfl (by kernel_rfl)) ?_
            refine WR.nil ?_
            change WC _ _ _ _ _ _
            refine WC.ret ?_
            obtain rfl := Option.some.inj h
            have h : _ = some r := hgo84
            intro w hw
            obtain rfl := Option.some.inj h
            subst hF
            exact end_e (is := []) (by kernel_rfl) hw rfl ⟨rfl, rfl, (show I64 4 by decide), trivial⟩
          · skip
            refine WC.skip ?_
            change WC _ _ _ _ _ _
            refine WC.region ?_
            refine va rfl rfl rfl (q_move (v := .pointer (some ⟨gt_, 0, none⟩)) rfl (by kernel_rfl)) ?_
            refine va rfl rfl rfl (q_move (v := .map (some g65)) rfl (by kernel_rfl)) ?_
            refine va rfl rfl rfl (q_ldla (i := 0) (vs := [.int .i64 en87.1.s, .int .i64 en87.1.n]) rfl rfl Try.isAgg27 Try.sizeOf27 rfl rfl) ?_
            obtain ⟨z162, hz163, h⟩ := bnd h
            refine e_callB (is := [2]) hB rfl rfl (call_run Try.call38 rfl rfl (by kernel_rfl)) rfl (fun w Θ hp hpB hle hleB hR => t_judge_trial_put_l1 (ht_.mono hleB) (fun p hp => hleB _ _ (ht_r p hp)) ho79 en87.1 ⟨(hok92.1), (hok92.2)⟩ hp hpB hz163) ?_
            rintro Γ164 U166 v167 hl165 ⟨row168, rfl, rfl, hr169, _⟩
            change WR _ _ _ (CC F Γ164 [row168, [(g150, .cells #[.int .i64 en87.1.s, .int .i64 en87.1.n] 27 (0, 0))], row90, row63, row17, [(g12, .cells #[.bool (gt t_.list i_.toNat).read, .int .i64 (gt t_.list i_.toNat).sess, .string (gt t_.list i_.toNat).key, .int .i64 (gt t_.list i_.toNat).dot.s, .int .i64 (gt t_.list i_.toNat).dot.n, .bool (gt t_.list i_.toNat).oK, .slice A7 ((gt t_.list i_.toNat).reads).length c8, .slice A9 ((gt t_.list i_.toNat).seen).length c10] 32 (0, 0))]]) _ _ (upd _ 98 (.tuple #[]))
            refine WR.nil ?_
            intro w hw
            obtain rfl := Option.some.inj h
            exact ⟨l88, _, hlen82, hgo84, Γ164, row90, row168, (sl_ (by kernel_rfl)), (hw.only (is := [2, 0, 1, 1, 1]) rfl), (hl74.trans hl165), hit94, hr169, trivial⟩
        · skip
          refine WC.skip ?_
          intro w hw
          obtain rfl := Option.some.inj h
          exact ⟨l88, _, hlen82, hgo84, Γ73, row90, row78, (sl_ (by kernel_rfl)), (hw.only (is := [1, 1, 1, 1, 1]) rfl), hl74, hit94, ho79, trivial⟩
    · skip
      obtain ⟨hlen42, o170, h, hgo44⟩ := hstep40 en47 l48 hp51
      obtain rfl : v49 = .bool true := hv53
      change WR _ _ _ (CC F Γ [row50, row17, [(g12, .cells #[.bool (gt t_.list i_.toNat).read, .int .i64 (gt t_.list i_.toNat).sess, .string (gt t_.list i_.toNat).key, .int .i64 (gt t_.list i_.toNat).dot.s, .int .i64 (gt t_.list i_.toNat).dot.n, .bool (gt t_.list i_.toNat).oK, .slice A7 ((gt t_.list i_.toNat).reads).length c8, .slice A9 ((gt t_.list i_.toNat).seen).length c10] 32 (0, 0))]]) _ _ (upd _ 47 (.tuple #[.bool true, .agg #[.int .i64 en47.1.s, .int .i64 en47.1.n], .bool true]))
      refine va rfl rfl rfl (q_extract (v := .bool true) rfl rfl rfl) ?_
      refine WR.nil ?_
      change WC _ _ _ _ _ _
      refine WC.seq ?_
      refine WC.ctk (b := true) (by kernel_rfl) rfl ?_
      refine WC.skip ?_
      change WC _ _ _ _ _ _
      refine WC.block ?_
      refine WC.rs ?_
      refine va rfl rfl rfl (q_entry (kv := .agg #[.int .i64 en47.1.s, .int .i64 en47.1.n]) (v := .bool true) (i := 0) rfl he55 (fun w hw p hp => hw.at_ (i := 1) rfl hp) rfl rfl) ?_
      refine va rfl rfl rfl (q_extract (v := .agg #[.int .i64 en47.1.s, .int .i64 en47.1.n]) rfl rfl rfl) ?_
      refine e_alloc Try.zeroValue27 rfl rfl rfl rfl ?_
      intro g171
      refine e_st (i := 0) (v := .agg #[.int .i64 en47.1.s, .int .i64 en47.1.n]) (new := #[.int .i64 en47.1.s, .int .i64 en47.1.n]) rfl Try.sizeOf27 rfl rfl rfl rfl (by kernel_rfl) rfl rfl rfl rfl ?_
      refine WR.nil ?_
      change WC _ _ _ _ _ _
      refine WC.seq ?_
      refine WC.dr (by kernel_rfl) (by kernel_rfl) (fun w hw => hw.drawn _) ?_
      refine wa rfl rfl rfl (q_move (v := .pointer (some ⟨gt_, 0, none⟩)) rfl (by kernel_rfl)) ?_
      refine wa rfl rfl rfl (q_nil (A := some ⟨gt_, 0, none⟩) rfl rfl rfl) ?_
      refine wa rfl rfl rfl (q_fl 0 fld_56_0 rfl rfl rfl) ?_
      refine wa rfl rfl rfl (q_via (fun w hw => hB.sat hw) fun F => (q_ldg (v := .slice A0_1 t_.list.length c0_1) hgc3 rfl Try.isAgg24 rfl rfl)) ?_
      refine wa rfl rfl rfl (q_move (v := .pointer (some ⟨gt_, 0, none⟩)) rfl (by kernel_rfl)) ?_
      refine wa rfl rfl rfl (q_nil (A := some ⟨gt_, 0, none⟩) rfl rfl rfl) ?_
      refine wa rfl rfl rfl (q_fl 1 fld_56_1 rfl rfl rfl) ?_
      refine wa rfl rfl rfl (q_via (fun w hw => hB.sat hw) fun F => (q_ldg (v := .map (some m1_1)) hgc3 rfl Try.isAgg53 rfl rfl)) ?_
      refine wa rfl rfl rfl (q_ldla (i := 0) (vs := [.int .i64 en47.1.s, .int .i64 en47.1.n]) rfl rfl Try.isAgg27 Try.sizeOf27 rfl rfl) ?_
      obtain ⟨v172, ⟨hv173, hi175⟩, hat174⟩ := MapO.look ho2_1 en47.1 (z := .int .i64 0) (zx := 0) ⟨rfl, by decide⟩
      obtain rfl : v172 = _ := List.cons.inj hv173 |>.1
      refine wa rfl rfl rfl (q_via (fun w hw => hB.sat hw) fun F => (q_lookup1g (v := .int .i64 ((mget en47.1 t_.first).getD 0)) (fun p hp => (hgs4 p hp)) hat174 rfl Try.underlying53 Try.zeroValue3 rfl rfl)) ?_
      obtain ⟨hk176, h⟩ := chk_some h
      refine wa rfl rfl rfl (q_ix Try.underlying24 Try.sizeOf32 rfl rfl rfl hk176 (ho1_1.some_ (inb_lt hk176))) ?_
      refine wa rfl rfl rfl (q_field_addr ((((mget en47.1 t_.first).getD 0).toNat) * 8 + 2) fld_32_2 rfl rfl (ho1_1.some_ (inb_lt hk176)) rfl) ?_
      obtain ⟨A177, c178, A179, c180, hx181⟩ := ho1_1.djudge_ActT_at (((mget en47.1 t_.first).getD 0).toNat)
      refine wa rfl rfl rfl (q_ldS (c := 2) (v := .string (gt t_.list (((mget en47.1 t_.first).getD 0).toNat)).key) (fun w hw => hB.sat hw) (hx181 (inb_lt hk176)).2 rfl Try.isAgg9 rfl rfl) ?_
      refine wa rfl rfl rfl (q_fl 2 fld_32_2 rfl rfl rfl) ?_
      refine wa rfl rfl rfl (q_ldl (i := 3) (v := .string (gt t_.list i_.toNat).key) rfl rfl Try.isAgg9 rfl rfl) ?_
      refine wa rfl rfl rfl (q_sneq rfl rfl rfl) ?_
      refine WQ.nil ?_
      change WC _ _ _ _ _ _
      refine WC.cif h (by kernel_rfl) (fun hb182 h => ?_) (fun hb182 h => ?_)
      · skip
        refine WC.rs ?_
        refine va rfl rfl rfl (q_assign (v := .int .i64 3) rfl (by kernel_rfl)) ?_
        refine WR.nil ?_
        change WC _ _ _ _ _ _
        refine WC.ret ?_
        obtain rfl := Option.some.inj h
        have h : _ = some r := hgo44
        intro w hw
        obtain rfl := Option.some.inj h
        subst hF
        exact end_e (is := []) (by kernel_rfl) hw rfl ⟨rfl, rfl, (show I64 3 by decide), trivial⟩
      · skip
        refine WC.skip ?_
        intro w hw
        obtain rfl := Option.some.inj h
        exact ⟨l48, _, hlen42, hgo44, row50, (sl_ (by kernel_rfl)), (hw.only (is := [1, 1, 1]) rfl), hit54, trivial⟩
abbrev r_judge_Judge_l0 (r : Int × Int) (U : List Rowb) (Γ : Gh) (v : Value) : Prop := v = .tuple #[.int .i64 r.1, .int .i64 r.2] ∧ U = [] ∧ I64 r.1 ∧ I64 r.2 ∧ True
set_option maxRecDepth 100000 in
set_option maxHeartbeats 400000 in
theorem t_judge_Judge_l0 {Γ : Gh} {w0 : World} {B : Gh} {Alist : Option Addr} {clist : Nat} {list : List Djudge_Act} (hlist : Sl djudge_ActT B Alist list) (hlistc : list.length ≤ clist) (hp : Pre [] Γ w0) (hpB : Pre [] B w0) {r : Int × Int} (h : m_judge_Judge_l0 list = some r) : Calls Try.prog 14 #[.slice Alist list.length clist] w0 (Outc Γ [] w0 (r_judge_Judge_l0 r)) := by
  refine calls_of (N := 33) (rs := [2, 3]) (args := [.slice Alist list.length clist]) Try.func14 rfl Try.ntmps14 Try.results14 rfl ?_
  obtain ⟨F, hF⟩ : ∃ F : Fm, F = ⟨ids [], w0, Γ⟩ := ⟨_, rfl⟩
  refine WC.here (C := CC F Γ []) ?_ (hF ▸ hp.start)
  have hB : Lent F B := hF ▸ Lent.start hpB
  refine WC.rs ?_
  refine va rfl rfl rfl (q_assign (v := .int .i64 0) rfl (by kernel_rfl)) ?_
  refine va rfl rfl rfl (q_assign (v := .int .i64 0) rfl (by kernel_rfl)) ?_
  refine WR.nil ?_
  change WC _ _ _ _ _ _
  refine WC.rs ?_
  refine va rfl rfl rfl (q_move (v := .slice Alist list.length clist) rfl (by kernel_rfl)) ?_
  obtain ⟨z1, hz2, h⟩ := bnd h
  refine e_callW (is := []) rfl rfl (call_run Try.call20 rfl rfl (by kernel_rfl)) rfl (fun w hw hp => t_judge_try_l0 hlist hlistc hp (hB.pre (is := []) hw rfl) hz2) ?_
  rintro Γ3 U5 v6 hl4 ⟨g7, row8, rfl, rfl, hr9, _⟩
  change WR _ _ _ (CC F Γ3 [row8]) _ _ (upd _ 9 (.pointer (some ⟨g7, 0, none⟩)))
  refine va rfl rfl rfl (q_assign (v := .pointer (some ⟨g7, 0, none⟩)) rfl (by kernel_rfl)) ?_
  refine WR.nil ?_
  change WC _ _ _ _ _ _
  refine WC.seq ?_
  refine WC.rs ?_
  refine va rfl rfl rfl (q_move (v := .slice Alist list.length clist) rfl (by kernel_rfl)) ?_
  refine va rfl rfl rfl (q_len_slice rfl Try.underlying24 rfl) ?_
  refine va rfl rfl rfl (q_move (v := .int .i64 0) rfl (by kernel_rfl)) ?_
  refine WR.nil ?_
  change WC _ _ _ _ _ _
  refine WC.block ?_
  refine WC.forI h (fun (i13 : Nat) (s : Unit) σ w => match s with | () => ∃ (Γ10 : Gh), slots σ [(4, .pointer (some ⟨g7, 0, none⟩)), (10, .slice Alist list.length clist), (11, .int .i64 ((list.length : Nat) : Int)), (12, .int .i64 ((i13 : Nat) : Int))] ∧ CC F Γ10 [row8] w ∧ Gh.le Γ3 Γ10 ∧ True) ?_ ?_
  · skip
    intro w hw
    exact ⟨Γ3, (sl_ (by kernel_rfl)), hw, (Gh.refl _), trivial⟩
  rintro f12 i13 ⟨⟩ σ w hi14 hlt15 hge16 ⟨Γ10, hsl, hw, hl11, -⟩
  refine Wpt.slots hsl ?_
  refine WC.here (C := CC F Γ10 [row8]) ?_ hw
  clear hw hsl
  refine WC.rs ?_
  refine va rfl rfl rfl (q_lss rfl rfl rfl) ?_
  refine WR.nil ?_
  change WC _ _ _ _ _ _
  refine WC.seq ?_
  refine WC.cond (b := (decide (((i13 : Nat) : Int) < ((list.length : Nat) : Int)))) (by kernel_rfl) (fun hb17 => ?_) (fun hb17 => ?_)
  · skip
    have hl18 := ilt hb17
    have h := hlt15 hl18
    refine WC.skip ?_
    change WC _ _ _ _ _ _
    refine WC.seq ?_
    refine WC.block ?_
    refine WC.rs ?_
    refine va rfl rfl rfl (q_move (v := .int .i64 ((i13 : Nat) : Int)) rfl (by kernel_rfl)) ?_
    refine va rfl rfl rfl (q_ixn (i := i13) Try.underlying24 Try.sizeOf32 rfl rfl rfl hl18 (hlist.some_ hl18)) ?_
    obtain ⟨A19, c20, A21, c22, hx23⟩ := hlist.djudge_ActT_at i13
    refine va rfl rfl rfl (q_ldaS (c := 0) (vs := [.bool (gt list i13).read, .int .i64 (gt list i13).sess, .string (gt list i13).key, .int .i64 (gt list i13).dot.s, .int .i64 (gt list i13).dot.n, .bool (gt list i13).oK, .slice A19 ((gt list i13).reads).length c20, .slice A21 ((gt list i13).seen).length c22]) (fun w hw => hB.sat hw) (hx23 hl18).2 rfl Try.isAgg32 Try.sizeOf32 rfl rfl rfl) ?_
    refine e_alloc Try.zeroValue32 rfl rfl rfl rfl ?_
    intro g24
    refine va rfl rfl rfl (q_assign (v := .int .i64 ((i13 : Nat) : Int)) rfl (by kernel_rfl)) ?_
    refine e_st (i := 0) (v := .agg #[.bool (gt list i13).read, .int .i64 (gt list i13).sess, .string (gt list i13).key, .int .i64 (gt list i13).dot.s, .int .i64 (gt list i13).dot.n, .bool (gt list i13).oK, .slice A19 ((gt list i13).reads).length c20, .slice A21 ((gt list i13).seen).length c22]) (new := #[.bool (gt list i13).read, .int .i64 (gt list i13).sess, .string (gt list i13).key, .int .i64 (gt list i13).dot.s, .int .i64 (gt list i13).dot.n, .bool (gt list i13).oK, .slice A19 ((gt list i13).reads).length c20, .slice A21 ((gt list i13).seen).length c22]) rfl Try.sizeOf32 rfl rfl rfl rfl (by kernel_rfl) rfl rfl rfl rfl ?_
    refine WR.nil ?_
    change WC _ _ _ _ _ _
    refine WC.rs ?_
    refine va rfl rfl rfl (q_assign (v := .int .i64 0) rfl (by kernel_rfl)) ?_
    refine WR.nil ?_
    change WC _ _ _ _ _ _
    refine WC.cut (fun σ w => ∃ (v_27 : Int), ∃ (Γ25 : Gh), m_judge_Judge_l0_j5 f12 i13 v_27 = some r ∧ slots σ [(4, .pointer (some ⟨g7, 0, none⟩)), (5, .int .i64 ((i13 : Nat) : Int)), (7, .int .i64 v_27), (10, .slice Alist list.length clist), (11, .int .i64 ((list.length : Nat) : Int)), (12, .int .i64 ((i13 : Nat) : Int))] ∧ CC F Γ25 [row8] w ∧ Gh.le Γ10 Γ25 ∧ I64 v_27 ∧ True) ?_ ?_
    · skip
      refine WC.rs ?_
      refine va rfl rfl rfl (q_fl 0 fld_32_0 rfl rfl rfl) ?_
      refine va rfl rfl rfl (q_ldl (i := 0) (v := .bool (gt list i13).read) rfl rfl Try.isAgg4 rfl rfl) ?_
      refine va rfl rfl rfl (q_not rfl rfl) ?_
      refine WR.nil ?_
      change WC _ _ _ _ _ _
      refine WC.cif h (by kernel_rfl) (fun hb29 h => ?_) (fun hb29 h => ?_)
      · skip
        refine WC.region ?_
        refine va rfl rfl rfl (q_move (v := .pointer (some ⟨g7, 0, none⟩)) rfl (by kernel_rfl)) ?_
        refine va rfl rfl rfl (q_move (v := .int .i64 ((i13 : Nat) : Int)) rfl (by kernel_rfl)) ?_
        obtain ⟨z30, hz31, h⟩ := bnd h
        refine e_callB (is := []) hB rfl rfl (call_run Try.call22 rfl rfl (by kernel_rfl)) rfl (fun w Θ hp hpB hle hleB hR => t_judge_trial_writing_l0 (hr9.mono hleB) (fun p hp => hR _ (List.mem_of_getElem? (i := 1) rfl) p hp) ((i13 : Nat) : Int) (ctr_r0 hl18 hlist.le) hp hpB hz31) ?_
        rintro Γ32 U34 v35 hl33 ⟨rfl, rfl, hr36, _⟩
        change WR _ _ _ (CC F Γ32 [[(g24, .cells #[.bool (gt list i13).read, .int .i64 (gt list i13).sess, .string (gt list i13).key, .int .i64 (gt list i13).dot.s, .int .i64 (gt list i13).dot.n, .bool (gt list i13).oK, .slice A19 ((gt list i13).reads).length c20, .slice A21 ((gt list i13).seen).length c22] 32 (0, 0))], row8]) _ _ (upd _ 22 (.int .i64 z30))
        refine va rfl rfl rfl (q_assign (v := .int .i64 z30) rfl (by kernel_rfl)) ?_
        refine WR.nil ?_
        intro w hw
        exact ⟨z30, Γ32, h, (sl_ (by kernel_rfl)), (hw.only (is := [1]) rfl), hl33, hr36, trivial⟩
      · skip
        refine WC.rs ?_
        refine va rfl rfl rfl (q_fl 5 fld_32_4 rfl rfl rfl) ?_
        refine va rfl rfl rfl (q_ldl (i := 0) (v := .bool (gt list i13).oK) rfl rfl Try.isAgg4 rfl rfl) ?_
        refine WR.nil ?_
        change WC _ _ _ _ _ _
        refine WC.cif h (by kernel_rfl) (fun hb37 h => ?_) (fun hb37 h => ?_)
        · skip
          refine WC.region ?_
          refine va rfl rfl rfl (q_move (v := .pointer (some ⟨g7, 0, none⟩)) rfl (by kernel_rfl)) ?_
          refine va rfl rfl rfl (q_move (v := .int .i64 ((i13 : Nat) : Int)) rfl (by kernel_rfl)) ?_
          obtain ⟨z38, hz39, h⟩ := bnd h
          refine e_callB (is := []) hB rfl rfl (call_run Try.call23 rfl rfl (by kernel_rfl)) rfl (fun w Θ hp hpB hle hleB hR => t_judge_trial_reading_l0 (hr9.mono hleB) (fun p hp => hR _ (List.mem_of_getElem? (i := 1) rfl) p hp) ((i13 : Nat) : Int) (ctr_r0 hl18 hlist.le) hp hpB hz39) ?_
          rintro Γ40 U42 v43 hl41 ⟨rfl, rfl, hr44, _⟩
          change WR _ _ _ (CC F Γ40 [[(g24, .cells #[.bool (gt list i13).read, .int .i64 (gt list i13).sess, .string (gt list i13).key, .int .i64 (gt list i13).dot.s, .int .i64 (gt list i13).dot.n, .bool (gt list i13).oK, .slice A19 ((gt list i13).reads).length c20, .slice A21 ((gt list i13).seen).length c22] 32 (0, 0))], row8]) _ _ (upd _ 27 (.int .i64 z38))
          refine va rfl rfl rfl (q_assign (v := .int .i64 z38) rfl (by kernel_rfl)) ?_
          refine WR.nil ?_
          intro w hw
          exact ⟨z38, Γ40, h, (sl_ (by kernel_rfl)), (hw.only (is := [1]) rfl), hl41, hr44, trivial⟩
        · skip
          refine WC.skip ?_
          intro w hw
          exact ⟨0, Γ10, h, (sl_ (by kernel_rfl)), (hw.only (is := [1]) rfl), (Gh.refl _), (show I64 0 by decide), trivial⟩
    · skip
      rintro σ w ⟨v_27, Γ25, h, hsl, hw, hl26, hr28, -⟩
      refine Wpt.slots hsl ?_
      refine WC.here (C := CC F Γ25 [row8]) ?_ hw
      clear hw hsl
      refine WC.rs ?_
      refine va rfl rfl rfl (q_move (v := .int .i64 v_27) rfl (by kernel_rfl)) ?_
      refine va rfl rfl rfl (q_neq rfl rfl rfl) ?_
      refine WR.nil ?_
      change WC _ _ _ _ _ _
      refine WC.cif h (by kernel_rfl) (fun hb45 h => ?_) (fun hb45 h => ?_)
      · skip
        refine WC.rs ?_
        refine va rfl rfl rfl (q_move (v := .int .i64 ((i13 : Nat) : Int)) rfl (by kernel_rfl)) ?_
        refine va rfl rfl rfl (q_move (v := .int .i64 v_27) rfl (by kernel_rfl)) ?_
        refine va rfl rfl rfl (q_assign (v := .int .i64 ((i13 : Nat) : Int)) rfl (by kernel_rfl)) ?_
        refine va rfl rfl rfl (q_assign (v := .int .i64 v_27) rfl (by kernel_rfl)) ?_
        refine WR.nil ?_
        change WC _ _ _ _ _ _
        refine WC.ret ?_
        intro w hw
        obtain rfl := Option.some.inj h
        subst hF
        exact end_e (is := []) (by kernel_rfl) hw rfl ⟨rfl, rfl, (ctr_r0 hl18 hlist.le), hr28, trivial⟩
      · skip
        refine WC.skip ?_
        change WC _ _ _ _ _ _
        refine WC.region ?_
        refine va rfl rfl rfl (q_add_r (r := ((i13 + 1 : Nat) : Int)) rfl rfl rfl (ctr_len hl18 hlist.le)) ?_
        refine va rfl rfl rfl (q_move (v := .int .i64 ((i13 + 1 : Nat) : Int)) rfl (by kernel_rfl)) ?_
        refine WR.nil ?_
        intro w hw
        exact ⟨hl18, (), h, Γ25, (sl_ (by kernel_rfl)), hw, (hl11.trans hl26), trivial⟩
  · skip
    have h := hge16 (ige hb17)
    refine WC.exit ?_
    change WC _ _ _ _ _ _
    refine WC.rs ?_
    refine va rfl rfl rfl (q_assign (v := .int .i64 (-1)) rfl (by kernel_rfl)) ?_
    refine va rfl rfl rfl (q_assign (v := .int .i64 0) rfl (by kernel_rfl)) ?_
    refine WR.nil ?_
    change WC _ _ _ _ _ _
    refine WC.ret ?_
    intro w hw
    obtain rfl := Option.some.inj h
    subst hF
    exact end_e (is := []) (by kernel_rfl) hw rfl ⟨rfl, rfl, (show I64 (-1) by decide), (show I64 0 by decide), trivial⟩
set_option maxRecDepth 100000 in
set_option maxHeartbeats 400000 in
theorem t_cmp_isNaN_int {Γ : Gh} {w0 : World} (x_ : Int) (hx_ : I64 x_) (hs : Sat Γ w0) {r : Bool} (h : m_cmp_isNaN_int x_ = some r) : Calls Try.prog 46 #[.int .i64 x_] w0 (fun e w' => e = .returned (.bool r) ∧ Fr no w0 w') := by
  refine calls_of (N := 6) (rs := [2]) (args := [.int .i64 x_]) Try.func46 rfl Try.ntmps46 Try.results46 rfl ?_
  obtain ⟨F, hF⟩ : ∃ F : Fm, F = ⟨no, w0, Γ⟩ := ⟨_, rfl⟩
  refine WC.here (C := CC F Γ []) ?_ (hF ▸ Cur.start0 hs)
  refine WC.rs ?_
  refine va rfl rfl rfl (q_assign (v := .bool false) rfl (by kernel_rfl)) ?_
  refine WR.nil ?_
  change WC _ _ _ _ _ _
  refine WC.rs ?_
  refine va rfl rfl rfl (q_move (v := .int .i64 x_) rfl (by kernel_rfl)) ?_
  refine va rfl rfl rfl (q_move (v := .int .i64 x_) rfl (by kernel_rfl)) ?_
  refine va rfl rfl rfl (q_neq rfl rfl rfl) ?_
  refine va rfl rfl rfl (q_assign (v := .bool (x_ != x_)) rfl (by kernel_rfl)) ?_
  refine WR.nil ?_
  change WC _ _ _ _ _ _
  refine WC.ret ?_
  intro w hw
  obtain rfl := Option.some.inj h
  subst hF
  exact ⟨by kernel_rfl, hw.fr⟩
set_option maxRecDepth 100000 in
set_option maxHeartbeats 400000 in
theorem t_cmp_Compare_int {Γ : Gh} {w0 : World} (x_ : Int) (hx_ : I64 x_) (y : Int) (hy : I64 y) (hs : Sat Γ w0) {r : Int} (h : m_cmp_Compare_int x_ y = some r) : Calls Try.prog 33 #[.int .i64 x_, .int .i64 y] w0 (fun e w' => e = .returned (.int .i64 r) ∧ Fr no w0 w') := by
  refine calls_of (N := 20) (rs := [4]) (args := [.int .i64 x_, .int .i64 y]) Try.func33 rfl Try.ntmps33 Try.results33 rfl ?_
  obtain ⟨F, hF⟩ : ∃ F : Fm, F = ⟨no, w0, Γ⟩ := ⟨_, rfl⟩
  refine WC.here (C := CC F Γ []) ?_ (hF ▸ Cur.start0 hs)
  refine WC.rs ?_
  refine va rfl rfl rfl (q_assign (v := .int .i64 0) rfl (by kernel_rfl)) ?_
  refine WR.nil ?_
  change WC _ _ _ _ _ _
  refine WC.rs ?_
  refine va rfl rfl rfl (q_move (v := .int .i64 x_) rfl (by kernel_rfl)) ?_
  obtain ⟨z1, hz2, h⟩ := bnd h
  refine vc rfl rfl rfl (q_call (call_run Try.call46 rfl rfl (by kernel_rfl)) (fun w hw => t_cmp_isNaN_int (Γ := Gh.all w) x_ hx_ (Sat.all w) hz2)) ?_
  refine va rfl rfl rfl (q_assign (v := .bool z1) rfl (by kernel_rfl)) ?_
  refine WR.nil ?_
  change WC _ _ _ _ _ _
  refine WC.rs ?_
  refine va rfl rfl rfl (q_move (v := .int .i64 y) rfl (by kernel_rfl)) ?_
  obtain ⟨z3, hz4, h⟩ := bnd h
  refine vc rfl rfl rfl (q_call (call_run Try.call46 rfl rfl (by kernel_rfl)) (fun w hw => t_cmp_isNaN_int (Γ := Gh.all w) y hy (Sat.all w) hz4)) ?_
  refine va rfl rfl rfl (q_assign (v := .bool z3) rfl (by kernel_rfl)) ?_
  refine WR.nil ?_
  change WC _ _ _ _ _ _
  refine WC.seq ?_
  refine WC.rs ?_
  refine va rfl rfl rfl (q_move (v := .bool z1) rfl (by kernel_rfl)) ?_
  refine WR.nil ?_
  change WC _ _ _ _ _ _
  refine WC.cif h (by kernel_rfl) (fun hb5 h => ?_) (fun hb5 h => ?_)
  · skip
    refine WC.seq ?_
    refine WC.rs ?_
    refine va rfl rfl rfl (q_move (v := .bool z3) rfl (by kernel_rfl)) ?_
    refine WR.nil ?_
    change WC _ _ _ _ _ _
    refine WC.cif h (by kernel_rfl) (fun hb6 h => ?_) (fun hb6 h => ?_)
    · skip
      refine WC.rs ?_
      refine va rfl rfl rfl (q_assign (v := .int .i64 0) rfl (by kernel_rfl)) ?_
      refine WR.nil ?_
      change WC _ _ _ _ _ _
      refine WC.ret ?_
      intro w hw
      obtain rfl := Option.some.inj h
      subst hF
      exact ⟨by kernel_rfl, hw.fr⟩
    · skip
      refine WC.skip ?_
      change WC _ _ _ _ _ _
      refine WC.rs ?_
      refine va rfl rfl rfl (q_assign (v := .int .i64 (-1)) rfl (by kernel_rfl)) ?_
      refine WR.nil ?_
      change WC _ _ _ _ _ _
      refine WC.ret ?_
      intro w hw
      obtain rfl := Option.some.inj h
      subst hF
      exact ⟨by kernel_rfl, hw.fr⟩
  · skip
    refine WC.skip ?_
    change WC _ _ _ _ _ _
    refine WC.seq ?_
    refine WC.rs ?_
    refine va rfl rfl rfl (q_move (v := .bool z3) rfl (by kernel_rfl)) ?_
    refine WR.nil ?_
    change WC _ _ _ _ _ _
    refine WC.cif h (by kernel_rfl) (fun hb7 h => ?_) (fun hb7 h => ?_)
    · skip
      refine WC.rs ?_
      refine va rfl rfl rfl (q_assign (v := .int .i64 1) rfl (by kernel_rfl)) ?_
      refine WR.nil ?_
      change WC _ _ _ _ _ _
      refine WC.ret ?_
      intro w hw
      obtain rfl := Option.some.inj h
      subst hF
      exact ⟨by kernel_rfl, hw.fr⟩
    · skip
      refine WC.skip ?_
      change WC _ _ _ _ _ _
      refine WC.seq ?_
      refine WC.rs ?_
      refine va rfl rfl rfl (q_move (v := .int .i64 x_) rfl (by kernel_rfl)) ?_
      refine va rfl rfl rfl (q_move (v := .int .i64 y) rfl (by kernel_rfl)) ?_
      refine va rfl rfl rfl (q_lss rfl rfl rfl) ?_
      refine WR.nil ?_
      change WC _ _ _ _ _ _
      refine WC.cif h (by kernel_rfl) (fun hb8 h => ?_) (fun hb8 h => ?_)
      · skip
        refine WC.rs ?_
        refine va rfl rfl rfl (q_assign (v := .int .i64 (-1)) rfl (by kernel_rfl)) ?_
        refine WR.nil ?_
        change WC _ _ _ _ _ _
        refine WC.ret ?_
        intro w hw
        obtain rfl := Option.some.inj h
        subst hF
        exact ⟨by kernel_rfl, hw.fr⟩
      · skip
        refine WC.skip ?_
        change WC _ _ _ _ _ _
        refine WC.seq ?_
        refine WC.rs ?_
        refine va rfl rfl rfl (q_move (v := .int .i64 x_) rfl (by kernel_rfl)) ?_
        refine va rfl rfl rfl (q_move (v := .int .i64 y) rfl (by kernel_rfl)) ?_
        refine va rfl rfl rfl (q_gtr rfl rfl rfl) ?_
        refine WR.nil ?_
        change WC _ _ _ _ _ _
        refine WC.cif h (by kernel_rfl) (fun hb9 h => ?_) (fun hb9 h => ?_)
        · skip
          refine WC.rs ?_
          refine va rfl rfl rfl (q_assign (v := .int .i64 1) rfl (by kernel_rfl)) ?_
          refine WR.nil ?_
          change WC _ _ _ _ _ _
          refine WC.ret ?_
          intro w hw
          obtain rfl := Option.some.inj h
          subst hF
          exact ⟨by kernel_rfl, hw.fr⟩
        · skip
          refine WC.skip ?_
          change WC _ _ _ _ _ _
          refine WC.rs ?_
          refine va rfl rfl rfl (q_assign (v := .int .i64 0) rfl (by kernel_rfl)) ?_
          refine WR.nil ?_
          change WC _ _ _ _ _ _
          refine WC.ret ?_
          intro w hw
          obtain rfl := Option.some.inj h
          subst hF
          exact ⟨by kernel_rfl, hw.fr⟩
set_option maxRecDepth 100000 in
set_option maxHeartbeats 400000 in
theorem t_cmp_isNaN_int64 {Γ : Gh} {w0 : World} (x_ : Int) (hx_ : I64 x_) (hs : Sat Γ w0) {r : Bool} (h : m_cmp_isNaN_int64 x_ = some r) : Calls Try.prog 47 #[.int .i64 x_] w0 (fun e w' => e = .returned (.bool r) ∧ Fr no w0 w') := by
  refine calls_of (N := 6) (rs := [2]) (args := [.int .i64 x_]) Try.func47 rfl Try.ntmps47 Try.results47 rfl ?_
  obtain ⟨F, hF⟩ : ∃ F : Fm, F = ⟨no, w0, Γ⟩ := ⟨_, rfl⟩
  refine WC.here (C := CC F Γ []) ?_ (hF ▸ Cur.start0 hs)
  refine WC.rs ?_
  refine va rfl rfl rfl (q_assign (v := .bool false) rfl (by kernel_rfl)) ?_
  refine WR.nil ?_
  change WC _ _ _ _ _ _
  refine WC.rs ?_
  refine va rfl rfl rfl (q_move (v := .int .i64 x_) rfl (by kernel_rfl)) ?_
  refine va rfl rfl rfl (q_move (v := .int .i64 x_) rfl (by kernel_rfl)) ?_
  refine va rfl rfl rfl (q_neq rfl rfl rfl) ?_
  refine va rfl rfl rfl (q_assign (v := .bool (x_ != x_)) rfl (by kernel_rfl)) ?_
  refine WR.nil ?_
  change WC _ _ _ _ _ _
  refine WC.ret ?_
  intro w hw
  obtain rfl := Option.some.inj h
  subst hF
  exact ⟨by kernel_rfl, hw.fr⟩
set_option maxRecDepth 100000 in
set_option maxHeartbeats 400000 in
theorem t_cmp_Compare_int64 {Γ : Gh} {w0 : World} (x_ : Int) (hx_ : I64 x_) (y : Int) (hy : I64 y) (hs : Sat Γ w0) {r : Int} (h : m_cmp_Compare_int64 x_ y = some r) : Calls Try.prog 34 #[.int .i64 x_, .int .i64 y] w0 (fun e w' => e = .returned (.int .i64 r) ∧ Fr no w0 w') := by
  refine calls_of (N := 20) (rs := [4]) (args := [.int .i64 x_, .int .i64 y]) Try.func34 rfl Try.ntmps34 Try.results34 rfl ?_
  obtain ⟨F, hF⟩ : ∃ F : Fm, F = ⟨no, w0, Γ⟩ := ⟨_, rfl⟩
  refine WC.here (C := CC F Γ []) ?_ (hF ▸ Cur.start0 hs)
  refine WC.rs ?_
  refine va rfl rfl rfl (q_assign (v := .int .i64 0) rfl (by kernel_rfl)) ?_
  refine WR.nil ?_
  change WC _ _ _ _ _ _
  refine WC.rs ?_
  refine va rfl rfl rfl (q_move (v := .int .i64 x_) rfl (by kernel_rfl)) ?_
  obtain ⟨z1, hz2, h⟩ := bnd h
  refine vc rfl rfl rfl (q_call (call_run Try.call47 rfl rfl (by kernel_rfl)) (fun w hw => t_cmp_isNaN_int64 (Γ := Gh.all w) x_ hx_ (Sat.all w) hz2)) ?_
  refine va rfl rfl rfl (q_assign (v := .bool z1) rfl (by kernel_rfl)) ?_
  refine WR.nil ?_
  change WC _ _ _ _ _ _
  refine WC.rs ?_
  refine va rfl rfl rfl (q_move (v := .int .i64 y) rfl (by kernel_rfl)) ?_
  obtain ⟨z3, hz4, h⟩ := bnd h
  refine vc rfl rfl rfl (q_call (call_run Try.call47 rfl rfl (by kernel_rfl)) (fun w hw => t_cmp_isNaN_int64 (Γ := Gh.all w) y hy (Sat.all w) hz4)) ?_
  refine va rfl rfl rfl (q_assign (v := .bool z3) rfl (by kernel_rfl)) ?_
  refine WR.nil ?_
  change WC _ _ _ _ _ _
  refine WC.seq ?_
  refine WC.rs ?_
  refine va rfl rfl rfl (q_move (v := .bool z1) rfl (by kernel_rfl)) ?_
  refine WR.nil ?_
  change WC _ _ _ _ _ _
  refine WC.cif h (by kernel_rfl) (fun hb5 h => ?_) (fun hb5 h => ?_)
  · skip
    refine WC.seq ?_
    refine WC.rs ?_
    refine va rfl rfl rfl (q_move (v := .bool z3) rfl (by kernel_rfl)) ?_
    refine WR.nil ?_
    change WC _ _ _ _ _ _
    refine WC.cif h (by kernel_rfl) (fun hb6 h => ?_) (fun hb6 h => ?_)
    · skip
      refine WC.rs ?_
      refine va rfl rfl rfl (q_assign (v := .int .i64 0) rfl (by kernel_rfl)) ?_
      refine WR.nil ?_
      change WC _ _ _ _ _ _
      refine WC.ret ?_
      intro w hw
      obtain rfl := Option.some.inj h
      subst hF
      exact ⟨by kernel_rfl, hw.fr⟩
    · skip
      refine WC.skip ?_
      change WC _ _ _ _ _ _
      refine WC.rs ?_
      refine va rfl rfl rfl (q_assign (v := .int .i64 (-1)) rfl (by kernel_rfl)) ?_
      refine WR.nil ?_
      change WC _ _ _ _ _ _
      refine WC.ret ?_
      intro w hw
      obtain rfl := Option.some.inj h
      subst hF
      exact ⟨by kernel_rfl, hw.fr⟩
  · skip
    refine WC.skip ?_
    change WC _ _ _ _ _ _
    refine WC.seq ?_
    refine WC.rs ?_
    refine va rfl rfl rfl (q_move (v := .bool z3) rfl (by kernel_rfl)) ?_
    refine WR.nil ?_
    change WC _ _ _ _ _ _
    refine WC.cif h (by kernel_rfl) (fun hb7 h => ?_) (fun hb7 h => ?_)
    · skip
      refine WC.rs ?_
      refine va rfl rfl rfl (q_assign (v := .int .i64 1) rfl (by kernel_rfl)) ?_
      refine WR.nil ?_
      change WC _ _ _ _ _ _
      refine WC.ret ?_
      intro w hw
      obtain rfl := Option.some.inj h
      subst hF
      exact ⟨by kernel_rfl, hw.fr⟩
    · skip
      refine WC.skip ?_
      change WC _ _ _ _ _ _
      refine WC.seq ?_
      refine WC.rs ?_
      refine va rfl rfl rfl (q_move (v := .int .i64 x_) rfl (by kernel_rfl)) ?_
      refine va rfl rfl rfl (q_move (v := .int .i64 y) rfl (by kernel_rfl)) ?_
      refine va rfl rfl rfl (q_lss rfl rfl rfl) ?_
      refine WR.nil ?_
      change WC _ _ _ _ _ _
      refine WC.cif h (by kernel_rfl) (fun hb8 h => ?_) (fun hb8 h => ?_)
      · skip
        refine WC.rs ?_
        refine va rfl rfl rfl (q_assign (v := .int .i64 (-1)) rfl (by kernel_rfl)) ?_
        refine WR.nil ?_
        change WC _ _ _ _ _ _
        refine WC.ret ?_
        intro w hw
        obtain rfl := Option.some.inj h
        subst hF
        exact ⟨by kernel_rfl, hw.fr⟩
      · skip
        refine WC.skip ?_
        change WC _ _ _ _ _ _
        refine WC.seq ?_
        refine WC.rs ?_
        refine va rfl rfl rfl (q_move (v := .int .i64 x_) rfl (by kernel_rfl)) ?_
        refine va rfl rfl rfl (q_move (v := .int .i64 y) rfl (by kernel_rfl)) ?_
        refine va rfl rfl rfl (q_gtr rfl rfl rfl) ?_
        refine WR.nil ?_
        change WC _ _ _ _ _ _
        refine WC.cif h (by kernel_rfl) (fun hb9 h => ?_) (fun hb9 h => ?_)
        · skip
          refine WC.rs ?_
          refine va rfl rfl rfl (q_assign (v := .int .i64 1) rfl (by kernel_rfl)) ?_
          refine WR.nil ?_
          change WC _ _ _ _ _ _
          refine WC.ret ?_
          intro w hw
          obtain rfl := Option.some.inj h
          subst hF
          exact ⟨by kernel_rfl, hw.fr⟩
        · skip
          refine WC.skip ?_
          change WC _ _ _ _ _ _
          refine WC.rs ?_
          refine va rfl rfl rfl (q_assign (v := .int .i64 0) rfl (by kernel_rfl)) ?_
          refine WR.nil ?_
          change WC _ _ _ _ _ _
          refine WC.ret ?_
          intro w hw
          obtain rfl := Option.some.inj h
          subst hF
          exact ⟨by kernel_rfl, hw.fr⟩
set_option maxRecDepth 100000 in
set_option maxHeartbeats 400000 in
theorem t_cmp_Or_int {Γ : Gh} {w0 : World} {Avals : Option Addr} {cvals : Nat} {vals : List Int} (hvals : Sl intT Γ Avals vals) (hvalsc : vals.length ≤ cvals) (hs : Sat Γ w0) {r : Int} (h : m_cmp_Or_int vals = some r) : Calls Try.prog 32 #[.slice Avals vals.length cvals] w0 (fun e w' => e = .returned (.int .i64 r) ∧ Fr no w0 w') := by
  refine calls_of (N := 18) (rs := [2]) (args := [.slice Avals vals.length cvals]) Try.func32 rfl Try.ntmps32 Try.results32 rfl ?_
  obtain ⟨F, hF⟩ : ∃ F : Fm, F = ⟨no, w0, Γ⟩ := ⟨_, rfl⟩
  refine WC.here (C := CC F Γ []) ?_ (hF ▸ Cur.start0 hs)
  refine WC.rs ?_
  refine va rfl rfl rfl (q_assign (v := .int .i64 0) rfl (by kernel_rfl)) ?_
  refine WR.nil ?_
  change WC _ _ _ _ _ _
  refine WC.rs ?_
  refine va rfl rfl rfl (q_assign (v := .int .i64 0) rfl (by kernel_rfl)) ?_
  refine WR.nil ?_
  change WC _ _ _ _ _ _
  refine WC.seq ?_
  refine WC.rs ?_
  refine va rfl rfl rfl (q_move (v := .slice Avals vals.length cvals) rfl (by kernel_rfl)) ?_
  refine va rfl rfl rfl (q_len_slice rfl Try.underlying84 rfl) ?_
  refine va rfl rfl rfl (q_move (v := .int .i64 0) rfl (by kernel_rfl)) ?_
  refine WR.nil ?_
  change WC _ _ _ _ _ _
  refine WC.block ?_
  refine WC.forI h (fun (i2 : Nat) (s : Unit) σ w => match s with | () => slots σ [(3, .int .i64 0), (6, .slice Avals vals.length cvals), (7, .int .i64 ((vals.length : Nat) : Int)), (8, .int .i64 ((i2 : Nat) : Int))] ∧ CC F Γ [] w ∧ True) ?_ ?_
  · skip
    intro w hw
    exact ⟨(sl_ (by kernel_rfl)), hw, trivial⟩
  rintro f1 i2 ⟨⟩ σ w hi3 hlt4 hge5 ⟨hsl, hw, -⟩
  refine Wpt.slots hsl ?_
  refine WC.here (C := CC F Γ []) ?_ hw
  clear hw hsl
  refine WC.rs ?_
  refine va rfl rfl rfl (q_lss rfl rfl rfl) ?_
  refine WR.nil ?_
  change WC _ _ _ _ _ _
  refine WC.seq ?_
  refine WC.cond (b := (decide (((i2 : Nat) : Int) < ((vals.length : Nat) : Int)))) (by kernel_rfl) (fun hb6 => ?_) (fun hb6 => ?_)
  · skip
    have hl7 := ilt hb6
    have h := hlt4 hl7
    refine WC.skip ?_
    change WC _ _ _ _ _ _
    refine WC.seq ?_
    refine WC.block ?_
    refine WC.rs ?_
    refine va rfl rfl rfl (q_ixn (i := i2) Try.underlying84 Try.sizeOf3 rfl rfl rfl hl7 (hvals.some_ hl7)) ?_
    refine va rfl rfl rfl (q_ld (c := 0) (v := .int .i64 (gt vals i2)) (hvals.intT_at hl7).2 rfl Try.isAgg3 rfl rfl) ?_
    refine va rfl rfl rfl (q_assign (v := .int .i64 (gt vals i2)) rfl (by kernel_rfl)) ?_
    refine WR.nil ?_
    change WC _ _ _ _ _ _
    refine WC.rs ?_
    refine va rfl rfl rfl (q_move (v := .int .i64 (gt vals i2)) rfl (by kernel_rfl)) ?_
    refine va rfl rfl rfl (q_move (v := .int .i64 0) rfl (by kernel_rfl)) ?_
    refine va rfl rfl rfl (q_neq rfl rfl rfl) ?_
    refine WR.nil ?_
    change WC _ _ _ _ _ _
    refine WC.cif h (by kernel_rfl) (fun hb8 h => ?_) (fun hb8 h => ?_)
    · skip
      refine WC.rs ?_
      refine va rfl rfl rfl (q_move (v := .int .i64 (gt vals i2)) rfl (by kernel_rfl)) ?_
      refine va rfl rfl rfl (q_assign (v := .int .i64 (gt vals i2)) rfl (by kernel_rfl)) ?_
      refine WR.nil ?_
      change WC _ _ _ _ _ _
      refine WC.ret ?_
      intro w hw
      obtain rfl := Option.some.inj h
      subst hF
      exact ⟨by kernel_rfl, hw.fr⟩
    · skip
      refine WC.skip ?_
      change WC _ _ _ _ _ _
      refine WC.region ?_
      refine va rfl rfl rfl (q_add_r (r := ((i2 + 1 : Nat) : Int)) rfl rfl rfl (ctr_len hl7 hvals.le)) ?_
      refine va rfl rfl rfl (q_move (v := .int .i64 ((i2 + 1 : Nat) : Int)) rfl (by kernel_rfl)) ?_
      refine WR.nil ?_
      intro w hw
      exact ⟨hl7, (), h, (sl_ (by kernel_rfl)), hw, trivial⟩
  · skip
    have h := hge5 (ige hb6)
    refine WC.exit ?_
    change WC _ _ _ _ _ _
    refine WC.rs ?_
    refine va rfl rfl rfl (q_move (v := .int .i64 0) rfl (by kernel_rfl)) ?_
    refine va rfl rfl rfl (q_assign (v := .int .i64 0) rfl (by kernel_rfl)) ?_
    refine WR.nil ?_
    change WC _ _ _ _ _ _
    refine WC.ret ?_
    intro w hw
    obtain rfl := Option.some.inj h
    subst hF
    exact ⟨by kernel_rfl, hw.fr⟩
set_option maxRecDepth 100000 in
set_option maxHeartbeats 400000 in
theorem t_judge_dots_sorted_1 {Γ : Gh} {w0 : World} (a : Dot) (ha : Dot.fits Γ  a) (b : Dot) (hb : Dot.fits Γ  b) (hs : Sat Γ w0) {r : Int} (h : m_judge_dots_sorted_1 a b = some r) : Calls Try.prog 31 #[.agg #[.int .i64 a.s, .int .i64 a.n], .agg #[.int .i64 b.s, .int .i64 b.n]] w0 (fun e w' => e = .returned (.int .i64 r) ∧ Fr no w0 w') := by
  refine calls_of (N := 17) (rs := [4]) (args := [.agg #[.int .i64 a.s, .int .i64 a.n], .agg #[.int .i64 b.s, .int .i64 b.n]]) Try.func31 rfl Try.ntmps31 Try.results31 rfl ?_
  obtain ⟨F, hF⟩ : ∃ F : Fm, F = ⟨no, w0, Γ⟩ := ⟨_, rfl⟩
  refine WC.here (C := CC F Γ []) ?_ (hF ▸ Cur.start0 hs)
  refine WC.rs ?_
  refine e_box (v := .agg #[.int .i64 a.s, .int .i64 a.n]) rfl rfl rfl rfl (by kernel_rfl) ?_
  intro g1
  refine e_box (v := .agg #[.int .i64 b.s, .int .i64 b.n]) rfl rfl rfl rfl (by kernel_rfl) ?_
  intro g2
  refine va rfl rfl rfl (q_assign (v := .int .i64 0) rfl (by kernel_rfl)) ?_
  refine WR.nil ?_
  change WC _ _ _ _ _ _
  refine WC.seq ?_
  intro w hw; have h03 := hw.le
  refine WC.here (C := CC F Γ [[(g2, .cells #[.int .i64 b.s, .int .i64 b.n] 27 (0, 0))], [(g1, .cells #[.int .i64 a.s, .int .i64 a.n] 27 (0, 0))]]) ?_ hw; clear hw
  refine WC.held (CC F Γ [[(g2, .cells #[.int .i64 b.s, .int .i64 b.n] 27 (0, 0))], [(g1, .cells #[.int .i64 a.s, .int .i64 a.n] 27 (0, 0))]]) (by kernel_rfl) (fun w hw => hw.drawn _) ?_
  change WH _ _ _ _ (CC F Γ [[(g2, .cells #[.int .i64 b.s, .int .i64 b.n] 27 (0, 0))], [(g1, .cells #[.int .i64 a.s, .int .i64 a.n] 27 (0, 0))]]) _ 13 #[false, false, false, false, false, false, false, false, false, false, false, false, false] _
  refine ht (i := 0) rfl (by kernel_rfl) rfl rfl rfl (fun w hw => hw.back (Gh.refl _) h03 (.cons_cons _ (.cons_cons _ .slnil))) (q_fl 0 fld_27_0 rfl rfl rfl) ?_
  refine ht (i := 1) rfl (by kernel_rfl) rfl rfl rfl (fun w hw => hw.back (Gh.refl _) h03 (.cons_cons _ (.cons_cons _ .slnil))) (q_ldl (i := 1) (v := .int .i64 a.s) rfl rfl Try.isAgg3 rfl rfl) ?_
  refine ht (i := 2) rfl (by kernel_rfl) rfl rfl rfl (fun w hw => hw.back (Gh.refl _) h03 (.cons_cons _ (.cons_cons _ .slnil))) (q_fl 0 fld_27_0 rfl rfl rfl) ?_
  refine ht (i := 3) rfl (by kernel_rfl) rfl rfl rfl (fun w hw => hw.back (Gh.refl _) h03 (.cons_cons _ (.cons_cons _ .slnil))) (q_ldl (i := 0) (v := .int .i64 b.s) rfl rfl Try.isAgg3 rfl rfl) ?_
  refine ht (i := 5) rfl (by kernel_rfl) rfl rfl rfl (fun w hw => hw.back (Gh.refl _) h03 (.cons_cons _ (.cons_cons _ .slnil))) (q_fl 1 fld_27_1 rfl rfl rfl) ?_
  refine ht (i := 6) rfl (by kernel_rfl) rfl rfl rfl (fun w hw => hw.back (Gh.refl _) h03 (.cons_cons _ (.cons_cons _ .slnil))) (q_ldl (i := 1) (v := .int .i64 a.n) rfl rfl Try.isAgg2 rfl rfl) ?_
  refine ht (i := 7) rfl (by kernel_rfl) rfl rfl rfl (fun w hw => hw.back (Gh.refl _) h03 (.cons_cons _ (.cons_cons _ .slnil))) (q_fl 1 fld_27_1 rfl rfl rfl) ?_
  refine ht (i := 8) rfl (by kernel_rfl) rfl rfl rfl (fun w hw => hw.back (Gh.refl _) h03 (.cons_cons _ (.cons_cons _ .slnil))) (q_ldl (i := 0) (v := .int .i64 b.n) rfl rfl Try.isAgg2 rfl rfl) ?_
  refine WH.lone (i := 4) (by kernel_rfl) rfl ?_
  obtain ⟨z4, hz5, h⟩ := bnd h
  refine vc rfl rfl rfl (q_call (call_run Try.call33 rfl rfl (by kernel_rfl)) (fun w hw => t_cmp_Compare_int (Γ := Gh.all w) a.s ha.1 b.s hb.1 (Sat.all w) hz5)) ?_
  refine WR.nil ?_
  refine WH.next (fun w hw => hw.back (Gh.refl _) h03 (.cons_cons _ (.cons_cons _ .slnil))) ?_
  refine WH.lone (i := 9) (by kernel_rfl) rfl ?_
  obtain ⟨z6, hz7, h⟩ := bnd h
  refine vc rfl rfl rfl (q_call (call_run Try.call34 rfl rfl (by kernel_rfl)) (fun w hw => t_cmp_Compare_int64 (Γ := Gh.all w) a.n ha.2 b.n hb.2 (Sat.all w) hz7)) ?_
  refine WR.nil ?_
  refine WH.next (fun w hw => hw.back (Gh.refl _) h03 (.cons_cons _ (.cons_cons _ .slnil))) ?_
  refine WH.lone (i := 10) (by kernel_rfl) rfl ?_
  refine e_buildSlice (cs := #[.int .i64 z4, .int .i64 z6]) (e := 3) rfl rfl rfl rfl (fun w => by kernel_rfl) ?_
  intro g8
  refine WR.nil ?_
  refine WH.next (fun w hw => hw.back (Gh.refl _) h03 (.cons _ (.cons_cons _ (.cons_cons _ .slnil)))) ?_
  refine WH.lone (i := 11) (by kernel_rfl) rfl ?_
  obtain ⟨hk9, h⟩ := chk_some h
  obtain ⟨hk10, h⟩ := chk_some h
  have ho11 : Own intT Γ 3 [(g8, .cells #[.int .i64 z4, .int .i64 z6] 3 (0, 0))] (some ⟨g8, 0, none⟩) 2 [z4, z6] := Own.of_blockL (T := intT) (ys := [z4, z6]) [[.int .i64 z4], [.int .i64 z6]] rfl (show 2 ≤ lim by decide) (show Ty.rd intT Γ [.int .i64 z4] z4 ∧ Ty.rd intT Γ [.int .i64 z6] z6 ∧ True from ⟨⟨rfl, (i64b_of hk9)⟩, ⟨rfl, (i64b_of hk10)⟩, trivial⟩)
  obtain ⟨z12, hz13, h⟩ := bnd h
  refine vc rfl rfl rfl (q_call (call_run Try.call32 rfl rfl (by kernel_rfl)) (fun w hw => t_cmp_Or_int (Γ := Gh.all w) (ho11.sl hw.sat.le_all (hw.ra 0 rfl)) ho11.capz (Sat.all w) hz13)) ?_
  refine WR.nil ?_
  refine WH.next (fun w hw => hw.back (Gh.refl _) h03 (.cons _ (.cons_cons _ (.cons_cons _ .slnil)))) ?_
  refine ht (i := 12) rfl (by kernel_rfl) rfl rfl rfl (fun w hw => hw.back (Gh.refl _) h03 (.cons _ (.cons_cons _ (.cons_cons _ .slnil)))) (q_assign (v := .int .i64 z12) rfl (by kernel_rfl)) ?_
  refine WH.done (by kernel_rfl) ?_
  change WC _ _ _ _ _ _
  refine WC.ret ?_
  intro w hw
  obtain rfl := Option.some.inj h
  subst hF
  exact ⟨by kernel_rfl, hw.fr⟩
def JKeys (l gs : Nat) (rec : Loop) (Γ : Gh) (row : Rowb) (s : List Dot) : Prop := ∃ (A : Option Addr) (c : Nat) (rowo : Rowb), row = ([[(l, .loop rec)], [(gs, .cells #[.slice A s.length c] 29 (0, 0))], rowo] : List Rowb).flatten ∧ Own dotT Γ 27 rowo A c s
set_option maxRecDepth 100000 in
set_option maxHeartbeats 400000 in
theorem t_keys_dots {Γ : Gh} {w0 : World} {B : Gh} {J : Gh → Rowb → List Dot → Prop} {lY : Nat}
    (hY : ∀ {Γ : Gh} {w : World} {row : Rowb} {s : List Dot} (k : Dot) (hk : Dot.fits Γ k) (hl : (s ++ [k]).length ≤ lim) (hs : YS.ob J Γ lY row s) (hp : Pre [row] Γ w), YieldAt (FR none) 0 Try.prog lY #[.agg #[.int .i64 k.s, .int .i64 k.n]] w (Outc Γ [row] w fun U Δ v => ∃ row' : Rowb, v = .bool true ∧ U = [row'] ∧ YS.ob J Δ lY row' (s ++ [k])))
    {rowsY : Rowb} (hsY : YS.ob J Γ lY rowsY []) {gb0 : Nat} {vd : Value} {d : List (Dot × Unit)} (hd : ZM kk27 trueV B vd d) (hlen : d.length ≤ lim)
    (hp : Pre [rowsY, [(gb0, .cells #[vd] 52 (0, 0))]] Γ w0) (hpB : Pre [rowsY, [(gb0, .cells #[vd] 52 (0, 0))]] B w0) :
    Calls Try.prog 45 #[.func (.yield lY) #[] #[], .pointer (some ⟨gb0, 0, none⟩)] w0 (Outc Γ [rowsY, [(gb0, .cells #[vd] 52 (0, 0))]] w0 fun U Δ v => ∃ row' ks, v = .tuple #[] ∧ U = [row', [(gb0, .cells #[vd] 52 (0, 0))]] ∧ ks.Perm (d.map (·.1)) ∧ YS.ob J Δ lY row' ks) := by
  refine calls_of (N := 14) (rs := []) (args := [.func (.yield lY) #[] #[], .pointer (some ⟨gb0, 0, none⟩)]) Try.func45 rfl Try.ntmps45 Try.results45 rfl ?_
  obtain ⟨F, hF⟩ : ∃ F : Fm, F = ⟨ids [rowsY, [(gb0, .cells #[vd] 52 (0, 0))]], w0, Γ⟩ := ⟨_, rfl⟩
  refine WC.here (C := CC F Γ [rowsY, [(gb0, .cells #[vd] 52 (0, 0))]]) ?_ (hF ▸ hp.start)
  have hB : Lent F B := hF ▸ Lent.start hpB
  refine WC.rs ?_
  refine va rfl rfl rfl (q_ldl (i := 1) (v := vd) rfl rfl Try.isAgg52 rfl rfl) ?_
  refine e_rangeZ hd (fun w hw => hB.sat hw) rfl rfl rfl Try.underlying52 rfl ?_
  intro g1 row2 hi3
  change WR _ _ _ (CC F Γ [row2, rowsY, [(gb0, .cells #[vd] 52 (0, 0))]]) _ _ (upd _ 5 (.pointer (some ⟨g1, 0, none⟩)))
  refine WR.nil ?_
  change WC _ _ _ _ _ _
  refine WC.block ?_
  refine WC.loop (fun m σ w => ∃ (l : List (Dot × Unit)) (s : List Dot) (Γ1 : Gh) (row5 row8 : Rowb), m = l.length ∧ (s ++ l.map (·.1)).Perm (d.map (·.1)) ∧ slots σ [(0, .func (.yield lY) #[] #[]), (1, .pointer (some ⟨gb0, 0, none⟩)), (5, .pointer (some ⟨g1, 0, none⟩))] ∧ CC F Γ1 [row5, row8, [(gb0, .cells #[vd] 52 (0, 0))]] w ∧ Gh.le Γ Γ1 ∧ ItZ kk27 trueV B row5 g1 vd d l ∧ YS.ob J Γ1 lY row8 s) ?_ ?_
  · skip
    intro w hw
    exact ⟨_, d, [], Γ, row2, rowsY, rfl, by simp, (sl_ (by kernel_rfl)), hw, Gh.refl _, hi3, hsY⟩
  rintro m σ w ⟨l, s, Γ1, row5, row8, rfl, hpm, hsl, hw, hle, hit, hob⟩
  refine Wpt.slots hsl ?_
  refine WC.here (C := CC F Γ1 [row5, row8, [(gb0, .cells #[vd] 52 (0, 0))]]) ?_ hw
  clear hw hsl
  refine WC.rs ?_
  refine e_nextZ (i := 0) rfl hd.ks hit (fun w hw => hB.sat hw) rfl rfl rfl rfl (fun hl0 => ?_) (fun en l2 vv row20 hp2 hok hv hit2 he => ?_)
  · skip
    change WR _ _ _ (CC F Γ1 [row5, row8, [(gb0, .cells #[vd] 52 (0, 0))]]) _ _ (upd _ 6 (.tuple #[.bool false]))
    refine va rfl rfl rfl (q_extract (v := .bool false) rfl rfl rfl) ?_
    refine WR.nil ?_
    change WC _ _ _ _ _ _
    refine WC.seq ?_
    refine WC.cfk (b := false) (by kernel_rfl) rfl ?_
    refine WC.exit ?_
    intro w hw
    subst hF
    exact end_e (is := [1, 1]) (by kernel_rfl) hw rfl ⟨row8, s, rfl, rfl, by simpa [hl0] using hpm, hob⟩
  · skip
    obtain rfl : vv = .bool true := hv
    change WR _ _ _ (CC F Γ1 [row20, row8, [(gb0, .cells #[vd] 52 (0, 0))]]) _ _ (upd _ 6 (.tuple #[.bool true, .agg #[.int .i64 en.1.s, .int .i64 en.1.n], .bool true]))
    refine va rfl rfl rfl (q_extract (v := .bool true) rfl rfl rfl) ?_
    refine WR.nil ?_
    change WC _ _ _ _ _ _
    refine WC.seq ?_
    refine WC.ctk (b := true) (by kernel_rfl) rfl ?_
    refine WC.skip ?_
    change WC _ _ _ _ _ _
    refine WC.block ?_
    refine WC.rs ?_
    refine va rfl rfl rfl (q_entryZ (kv := .agg #[.int .i64 en.1.s, .int .i64 en.1.n]) (v := .bool true) (i := 0) rfl he (fun w hw => hB.sat hw) rfl rfl) ?_
    refine va rfl rfl rfl (q_extract (v := .agg #[.int .i64 en.1.s, .int .i64 en.1.n]) rfl rfl rfl) ?_
    refine e_alloc Try.zeroValue27 rfl rfl rfl rfl ?_
    intro g27
    refine e_st (i := 0) (v := .agg #[.int .i64 en.1.s, .int .i64 en.1.n]) (new := #[.int .i64 en.1.s, .int .i64 en.1.n]) rfl Try.sizeOf27 rfl rfl rfl rfl (by kernel_rfl) rfl rfl rfl rfl ?_
    refine WR.nil ?_
    change WC _ _ _ _ _ _
    refine WC.seq ?_
    refine WC.ofI (WCI.region ?_)
    refine WI.op (fun _ h => nomatch h) ?_
    refine va rfl rfl rfl (q_move (v := .func (.yield lY) #[] #[]) rfl (by kernel_rfl)) ?_
    refine WI.nx ?_
    refine WI.op (fun _ h => nomatch h) ?_
    refine va rfl rfl rfl (q_ldla (i := 0) (vs := [.int .i64 en.1.s, .int .i64 en.1.n]) rfl rfl Try.isAgg27 Try.sizeOf27 rfl rfl) ?_
    refine WI.nx ?_
    have hpm2 : ((s ++ [en.1]) ++ l2.map (·.1)).Perm (d.map (·.1)) := by
      refine List.Perm.trans ?_ hpm
      rw [List.append_assoc]
      have h9 := (hp2.map (fun p : Dot × Unit => p.1)).symm
      exact List.Perm.append_left s h9
    have hlen2 : (s ++ [en.1]).length ≤ lim := by
      have h1 := hpm2.length_eq
      rw [List.length_append, List.length_map, List.length_map] at h1
      omega
    refine WI.yield (is := [2]) rfl rfl (fun _ h => nomatch h) (yield_run rfl (by kernel_rfl) (by kernel_rfl)) rfl (fun w hp => hY en.1 ⟨hok.1, hok.2⟩ hlen2 hob hp) ?_
    rintro Γ38 U40 v41 hl39 ⟨row42, rfl, rfl, hr43⟩
    change WI _ _ _ _ (CC F Γ38 [row42, [(g27, .cells #[.int .i64 en.1.s, .int .i64 en.1.n] 27 (0, 0))], row20, [(gb0, .cells #[vd] 52 (0, 0))]]) _ _ (upd _ 12 (.bool true))
    refine WI.op (fun _ h => nomatch h) ?_
    refine va rfl rfl rfl (q_not rfl rfl) ?_
    refine WI.nx ?_
    refine WI.nil ?_
    change WC _ _ _ _ _ _
    refine WC.cfk (b := (!true)) (by kernel_rfl) (nott rfl) ?_
    refine WC.skip ?_
    intro w hw
    exact ⟨l2.length, by rw [hp2.length_eq]; simp, l2, s ++ [en.1], Γ38, row20, row42, rfl, hpm2, (sl_ (by kernel_rfl)), hw.only (is := [2, 0, 1]) rfl, hle.trans hl39, hit2, hr43⟩
set_option maxRecDepth 100000 in
set_option maxHeartbeats 400000 in
theorem t_keysf_dots {Γ : Gh} {w0 : World} {B : Gh} {vd : Value} {d : List (Dot × Unit)} (hd : ZM kk27 trueV B vd d) (hp : Pre [] Γ w0) : Calls Try.prog 30 #[vd] w0 (Outc Γ [] w0 fun U Δ v => ∃ gb0 : Nat, v = .func (.func 45) #[] #[.pointer (some ⟨gb0, 0, none⟩)] ∧ U = [[(gb0, .cells #[vd] 52 (0, 0))]]) := by
  refine calls_of (N := 4) (rs := [2]) (args := [vd]) Try.func30 rfl Try.ntmps30 Try.results30 rfl ?_
  obtain ⟨F, hF⟩ : ∃ F : Fm, F = ⟨ids [], w0, Γ⟩ := ⟨_, rfl⟩
  refine WC.here (C := CC F Γ []) ?_ (hF ▸ hp.start)
  refine WC.rs ?_
  have hvd : vd.cells = #[vd] := by rcases hd.is with ⟨rfl, _⟩ | ⟨g, row, rfl, _⟩ <;> rfl
  refine e_box (v := vd) rfl rfl rfl rfl (by kernel_rfl) ?_
  intro g1
  rw [hvd]
  refine va rfl rfl rfl (q_assign (v := .nilFunc) rfl (by kernel_rfl)) ?_
  refine WR.nil ?_
  change WC _ _ _ _ _ _
  refine WC.rs ?_
  refine va rfl rfl rfl (q_mkfn (v := .func (.func 45) #[] #[.pointer (some ⟨g1, 0, none⟩)]) rfl (by kernel_rfl)) ?_
  refine va rfl rfl rfl (q_assign (v := .func (.func 45) #[] #[.pointer (some ⟨g1, 0, none⟩)]) rfl (by kernel_rfl)) ?_
  refine WR.nil ?_
  change WC _ _ _ _ _ _
  refine WC.ret ?_
  intro w hw
  subst hF
  exact end_e (is := [0]) (by kernel_rfl) hw rfl ⟨g1, rfl, rfl⟩
set_option maxRecDepth 100000 in
set_option maxHeartbeats 400000 in
theorem t_append_dots {Γ : Gh} {w0 : World} {B : Gh} {gb0 : Nat} {vd : Value} {d : List (Dot × Unit)} (hd : ZM kk27 trueV B vd d) (hlen : d.length ≤ lim)
    (hp : Pre [[(gb0, .cells #[vd] 52 (0, 0))]] Γ w0) (hpB : Pre [[(gb0, .cells #[vd] 52 (0, 0))]] B w0) :
    Calls Try.prog 49 #[.slice none 0 0, .func (.func 45) #[] #[.pointer (some ⟨gb0, 0, none⟩)]] w0 (Outc Γ [[(gb0, .cells #[vd] 52 (0, 0))]] w0 fun U Δ v => ∃ (A : Option Addr) (c : Nat) (row : Rowb) (ks : List Dot), v = .slice A ks.length c ∧ U = [row] ∧ ks.Perm (d.map (·.1)) ∧ Own dotT Δ 27 row A c ks) := by
  refine calls_of2 (n := 13) (rs := [4]) (args := [.slice none 0 0, .func (.func 45) #[] #[.pointer (some ⟨gb0, 0, none⟩)]]) Try.func49 rfl Try.ntmps49 Try.results49 rfl ?_
  obtain ⟨F, hF⟩ : ∃ F : Fm, F = ⟨ids [[(gb0, .cells #[vd] 52 (0, 0))]], w0, Γ⟩ := ⟨_, rfl⟩
  refine WC2.here (C := CC F Γ [[(gb0, .cells #[vd] 52 (0, 0))]]) ?_ (hF ▸ hp.start)
  have hB : Lent F B := hF ▸ Lent.start hpB
  refine WC2.seq ?_
  refine WC.region ?_
  refine e_box (v := .slice none 0 0) rfl rfl rfl rfl (by kernel_rfl) ?_
  intro gs
  refine va rfl rfl rfl (q_assign (v := .slice none 0 0) rfl (by kernel_rfl)) ?_
  refine WR.nil ?_
  change WC2 _ _ _ _ _ _
  refine WC2.seq3 ?_
  refine WC.region ?_
  refine va rfl rfl rfl (q_move (v := .func (.func 45) #[] #[.pointer (some ⟨gb0, 0, none⟩)]) rfl (by kernel_rfl)) ?_
  refine WR.nil ?_
  change WC3 _ _ _ _ _ _ _
  refine WC3.rangeF (n := 13) (gf := 45) (lb := #[.pointer (some ⟨gb0, 0, none⟩)]) (by kernel_rfl) Try.call45 ?_
  intro l D rec w hst hpe hps has hbo hagr hw
  have hY : ∀ {Γ : Gh} {w : World} {row : Rowb} {s : List Dot} (k : Dot) (hk : Dot.fits Γ k) (hl : (s ++ [k]).length ≤ lim) (hs : YS.ob (JKeys l gs rec) Γ l row s) (hp : Pre [row] Γ w), YieldAt (FR none) 0 Try.prog l #[.agg #[.int .i64 k.s, .int .i64 k.n]] w (Outc Γ [row] w fun U Δ v => ∃ row' : Rowb, v = .bool true ∧ U = [row'] ∧ YS.ob (JKeys l gs rec) Δ l row' (s ++ [k])) := by
    intro Γ w row s k hk hl hs hp
    obtain ⟨Γ', hle, Ao, co, rowo, rfl, ho⟩ := hs
    have ho := ho.mono hle
    refine YieldAt.mono (R := Outc Γ [[(l, .loop rec)], [(gs, .cells #[.slice Ao s.length co] 29 (0, 0))], rowo] w fun U Δ v => ∃ A2 c2 row2, v = .bool true ∧ U = [[(l, .loop rec)], [(gs, .cells #[.slice A2 (s ++ [k]).length c2] 29 (0, 0))], row2] ∧ Own dotT Δ 27 row2 A2 c2 (s ++ [k])) ?_ ?_
    · refine yield_of has hbo hp.parts hst hpe (by rw [hps]; rfl) (N := ⟨13, []⟩) (σ1 := _) (by rw [hps]; exact hagr.par1 rfl) ?_
      intro F hF
      refine WCI.region ?_
      refine WI.op (fun _ h => nomatch h) ?_
      refine e_alloc Try.zeroValue27 rfl rfl rfl rfl ?_
      intro g5
      refine WI.nx ?_
      refine WI.op (fun _ h => nomatch h) ?_
      refine e_st (i := 0) (v := .agg #[.int .i64 k.s, .int .i64 k.n]) (new := #[.int .i64 k.s, .int .i64 k.n]) rfl Try.sizeOf27 rfl rfl rfl rfl (by kernel_rfl) rfl rfl rfl rfl ?_
      refine WI.nx ?_
      refine WI.nil ?_
      intro w hw
      refine ⟨Γ, [[(g5, .cells #[.int .i64 k.s, .int .i64 k.n] 27 (0, 0))], [(gs, .cells #[.slice Ao s.length co] 29 (0, 0))], rowo], hw.only (is := [1, 0, 0, 0]) rfl, ?_⟩
      refine WCI.block ?_
      refine WCI.region ?_
      refine WI.op (fun _ h => nomatch h) ?_
      refine va rfl rfl rfl (q_ldl (i := 2) (v := .slice Ao s.length co) rfl rfl Try.isAgg29 rfl rfl) ?_
      refine WI.nx ?_
      refine WI.op (fun _ h => nomatch h) ?_
      refine va rfl rfl rfl (q_ldla (i := 1) (vs := [.int .i64 k.s, .int .i64 k.n]) rfl rfl Try.isAgg27 Try.sizeOf27 rfl rfl) ?_
      refine WI.nx ?_
      refine WI.op (fun _ h => nomatch h) ?_
      refine e_buildSlice (cs := #[.int .i64 k.s, .int .i64 k.n]) (e := 27) rfl rfl rfl rfl (fun w => by kernel_rfl) ?_
      intro gb
      refine WI.nx ?_
      refine WI.op (fun _ h => nomatch h) ?_
      refine e_append (T := dotT) (xs := s) (ys := [k]) elem_29 (i := 4) rfl rfl rfl rfl rfl rfl rfl ho (by simpa using hl) (fun w hw => src_one (T := dotT) (y := k) (i := 0) rfl (by exact ⟨rfl, hk⟩) hw) ?_
      intro row2 A2 c2 ho2
      refine WI.nx ?_
      refine WI.op (fun _ h => nomatch h) ?_
      refine e_st (i := 3) (v := .slice A2 (s ++ [k]).length c2) (new := #[.slice A2 (s ++ [k]).length c2]) rfl Try.sizeOf29 rfl rfl rfl rfl (by kernel_rfl) rfl rfl rfl rfl ?_
      refine WI.nx ?_
      refine WI.nil ?_
      intro w hw
      exact ⟨Γ, _, hw.only (is := [1, 2, 2]) rfl, A2, c2, row2, rfl, rfl, ho2⟩
    · rintro e w2 ⟨v, rfl, Δ, U, he, A2, c2, row2, rfl, rfl, ho2⟩
      exact ⟨_, rfl, Δ, _, he.glue, _, rfl, rfl, YS.of ⟨A2, c2, row2, rfl, ho2⟩⟩
  have hw := hw.pad
  have h2 := hw.fold (is := [1, 2, 0]) rfl rfl
  have h3 : Cur F Γ ([([[(l, .loop rec)], [(gs, .cells #[.slice none 0 0] 29 (0, 0))], []] : List Rowb).flatten, [(gb0, .cells #[vd] 52 (0, 0))]] ++ [[(D, .deferred (some []))]]) w := h2.pick (is := [0, 1]) rfl
  refine (t_keys_dots (J := JKeys l gs rec) (lY := l) hY (YS.of ⟨none, 0, [], rfl, Own.nil _ _ _⟩) hd hlen (h2.only (is := [0, 1]) rfl).pre (hB.pre (is := [0, 1]) h2 rfl)).mono ?_
  rintro e w' ⟨v, rfl, Δ, U', he, rowY', ks, rfl, rfl, hpm, hJ'⟩
  have h4 := h3.eff he
  obtain ⟨Γ', hle, A', c', rowo', hrow, ho'⟩ := hJ'
  have h5 := h4.unfold (i := 0) rfl hrow
  refine ⟨_, rfl, Δ, [[(gs, .cells #[.slice A' ks.length c'] 29 (0, 0))], rowo'], h5.only (is := [0, 3, 0, 0]) rfl, ?_⟩
  refine WC2.of ?_
  refine WC.rs ?_
  refine va rfl rfl rfl (q_ldl (i := 1) (v := .slice A' ks.length c') rfl rfl Try.isAgg29 rfl rfl) ?_
  refine va rfl rfl rfl (q_assign (v := .slice A' ks.length c') rfl (by kernel_rfl)) ?_
  refine WR.nil ?_
  change WC _ _ _ _ _ _
  refine WC.ret ?_
  intro w hw
  subst hF
  exact end_2 (N := ⟨13, []⟩) (is := [1]) (by kernel_rfl) hw rfl ⟨A', c', rowo', ks, rfl, rfl, hpm, ho'.mono hle⟩
set_option maxRecDepth 100000 in
set_option maxHeartbeats 400000 in
theorem t_collect_dots {Γ : Gh} {w0 : World} {B : Gh} {gb0 : Nat} {vd : Value} {d : List (Dot × Unit)} (hd : ZM kk27 trueV B vd d) (hlen : d.length ≤ lim)
    (hp : Pre [[(gb0, .cells #[vd] 52 (0, 0))]] Γ w0) (hpB : Pre [[(gb0, .cells #[vd] 52 (0, 0))]] B w0) :
    Calls Try.prog 43 #[.func (.func 45) #[] #[.pointer (some ⟨gb0, 0, none⟩)]] w0 (Outc Γ [[(gb0, .cells #[vd] 52 (0, 0))]] w0 fun U Δ v => ∃ (A : Option Addr) (c : Nat) (row : Rowb) (ks : List Dot), v = .slice A ks.length c ∧ U = [row] ∧ ks.Perm (d.map (·.1)) ∧ Own dotT Δ 27 row A c ks) := by
  refine calls_of (N := 5) (rs := [2]) (args := [.func (.func 45) #[] #[.pointer (some ⟨gb0, 0, none⟩)]]) Try.func43 rfl Try.ntmps43 Try.results43 rfl ?_
  obtain ⟨F, hF⟩ : ∃ F : Fm, F = ⟨ids [[(gb0, .cells #[vd] 52 (0, 0))]], w0, Γ⟩ := ⟨_, rfl⟩
  refine WC.here (C := CC F Γ [[(gb0, .cells #[vd] 52 (0, 0))]]) ?_ (hF ▸ hp.start)
  have hB : Lent F B := hF ▸ Lent.start hpB
  refine WC.rs ?_
  refine va rfl rfl rfl (q_assign (v := .slice none 0 0) rfl (by kernel_rfl)) ?_
  refine WR.nil ?_
  change WC _ _ _ _ _ _
  refine WC.rs ?_
  refine va rfl rfl rfl (q_move (v := .func (.func 45) #[] #[.pointer (some ⟨gb0, 0, none⟩)]) rfl (by kernel_rfl)) ?_
  refine e_callW (is := [0]) rfl rfl (call_run Try.call49 rfl rfl (by kernel_rfl)) rfl (fun w hw hp => t_append_dots hd hlen hp (hB.pre (is := [0]) hw rfl)) ?_
  rintro Γ3 U5 v6 hl4 ⟨A, c, row, ks, rfl, rfl, hpm, ho⟩
  change WR _ _ _ (CC F Γ3 [row]) _ _ (upd _ 4 (.slice A ks.length c))
  refine va rfl rfl rfl (q_assign (v := .slice A ks.length c) rfl (by kernel_rfl)) ?_
  refine WR.nil ?_
  change WC _ _ _ _ _ _
  refine WC.ret ?_
  intro w hw
  subst hF
  exact end_e (is := [0]) (by kernel_rfl) hw rfl ⟨A, c, row, ks, rfl, rfl, hpm, ho⟩
set_option maxRecDepth 100000 in
set_option maxHeartbeats 400000 in
theorem t_sortedf_dots {Γ : Gh} {w0 : World} {B : Gh} {gb0 : Nat} {vd : Value} {d : List (Dot × Unit)} (hd : ZM kk27 trueV B vd d)
    (hp : Pre [[(gb0, .cells #[vd] 52 (0, 0))]] Γ w0) (hpB : Pre [[(gb0, .cells #[vd] 52 (0, 0))]] B w0) {r : List Dot} (h : m_judge_dots_sorted d = some r) :
    Calls Try.prog 29 #[.func (.func 45) #[] #[.pointer (some ⟨gb0, 0, none⟩)], .func (.func 31) #[] #[]] w0 (Outc Γ [[(gb0, .cells #[vd] 52 (0, 0))]] w0 fun U Δ v => ∃ (A : Option Addr) (c : Nat) (row : Rowb), v = .slice A r.length c ∧ U = [row] ∧ Own dotT Δ 27 row A c r) := by
  obtain ⟨hlen, h⟩ := chk_some h
  have hall := anyP_all h
  refine calls_of (N := 12) (rs := [4]) (args := [.func (.func 45) #[] #[.pointer (some ⟨gb0, 0, none⟩)], .func (.func 31) #[] #[]]) Try.func29 rfl Try.ntmps29 Try.results29 rfl ?_
  obtain ⟨F, hF⟩ : ∃ F : Fm, F = ⟨ids [[(gb0, .cells #[vd] 52 (0, 0))]], w0, Γ⟩ := ⟨_, rfl⟩
  refine WC.here (C := CC F Γ [[(gb0, .cells #[vd] 52 (0, 0))]]) ?_ (hF ▸ hp.start)
  have hB : Lent F B := hF ▸ Lent.start hpB
  refine WC.rs ?_
  refine va rfl rfl rfl (q_assign (v := .slice none 0 0) rfl (by kernel_rfl)) ?_
  refine WR.nil ?_
  change WC _ _ _ _ _ _
  refine WC.rs ?_
  refine va rfl rfl rfl (q_move (v := .func (.func 45) #[] #[.pointer (some ⟨gb0, 0, none⟩)]) rfl (by kernel_rfl)) ?_
  refine e_callW (is := [0]) rfl rfl (call_run Try.call43 rfl rfl (by kernel_rfl)) rfl (fun w hw hp => t_collect_dots hd (of_decide_eq_true hlen) hp (hB.pre (is := [0]) hw rfl)) ?_
  rintro Γ3 U5 v6 hl4 ⟨A, c, row, ks, rfl, rfl, hpm, ho⟩
  have hm := hall ks hpm
  have hkl : ks.length = r.length := by
    unfold m_sort0 at hm
    cases ks with
    | nil => injection hm with hm; rw [← hm]
    | cons k ks => exact (m_sort_len hm).symm
  change WR _ _ _ (CC F Γ3 [row]) _ _ (upd _ 7 (.slice A ks.length c))
  refine va rfl rfl rfl (q_assign (v := .slice A ks.length c) rfl (by kernel_rfl)) ?_
  refine WR.nil ?_
  change WC _ _ _ _ _ _
  refine WC.rs ?_
  refine va rfl rfl rfl (q_move (v := .slice A ks.length c) rfl (by kernel_rfl)) ?_
  refine va rfl rfl rfl (q_move (v := .func (.func 31) #[] #[]) rfl (by kernel_rfl)) ?_
  refine e_call (is := [0]) rfl rfl (call_run Try.call44 rfl rfl (by kernel_rfl)) rfl (fun w hp => sort_own0 (T := dotT) sort44 Try.isAgg27 Try.sizeOf27 (enters_of Try.func31 (by kernel_rfl) rfl) (fun hx hy hr => by obtain ⟨rfl, f1⟩ := hx; obtain ⟨rfl, f2⟩ := hy; exact t_judge_dots_sorted_1 _ f1 _ f2 (Sat.all _) hr) ho hp hm) ?_
  rintro Γ7 U8 v9 hl10 ⟨rfl, row11, rfl, ho12⟩
  change WR _ _ _ (CC F Γ7 [row11]) _ _ (upd _ 10 (.tuple #[]))
  refine WR.nil ?_
  change WC _ _ _ _ _ _
  refine WC.rs ?_
  refine va rfl rfl rfl (q_move (v := .slice A ks.length c) rfl (by kernel_rfl)) ?_
  refine va rfl rfl rfl (q_assign (v := .slice A ks.length c) rfl (by kernel_rfl)) ?_
  refine WR.nil ?_
  change WC _ _ _ _ _ _
  refine WC.ret ?_
  intro w hw
  subst hF
  rw [hkl] at *
  exact end_e (is := [0]) (by kernel_rfl) hw rfl ⟨A, c, row11, rfl, rfl, ho12⟩
abbrev r_judge_dots_sorted (r : List Dot) (U : List Rowb) (Γ : Gh) (v : Value) : Prop := ∃ (A0 : Option Addr), ∃ (c0 : Nat), ∃ (row0 : Rowb), v = .slice A0 r.length c0 ∧ U = [row0] ∧ Own dotT Γ 27 row0 A0 c0 r ∧ True
set_option maxRecDepth 100000 in
set_option maxHeartbeats 400000 in
theorem t_judge_dots_sorted {Γ : Gh} {w0 : World} {B : Gh} {vd : Value} {d : List (Dot × Unit)} (hd : ZM kk27 trueV B vd d) (hp : Pre [] Γ w0) (hpB : Pre [] B w0) {r : List Dot} (h : m_judge_dots_sorted d = some r) : Calls Try.prog 21 #[vd] w0 (Outc Γ [] w0 (r_judge_dots_sorted r)) := by
  refine calls_of (N := 6) (rs := [2]) (args := [vd]) Try.func21 rfl Try.ntmps21 Try.results21 rfl ?_
  obtain ⟨F, hF⟩ : ∃ F : Fm, F = ⟨ids [], w0, Γ⟩ := ⟨_, rfl⟩
  refine WC.here (C := CC F Γ []) ?_ (hF ▸ hp.start)
  have hB : Lent F B := hF ▸ Lent.start hpB
  refine WC.rs ?_
  refine va rfl rfl rfl (q_assign (v := .slice none 0 0) rfl (by kernel_rfl)) ?_
  refine WR.nil ?_
  change WC _ _ _ _ _ _
  refine WC.rs ?_
  refine va rfl rfl rfl (q_move (v := vd) rfl (by kernel_rfl)) ?_
  refine e_call (is := []) rfl rfl (call_run Try.call30 rfl rfl (by kernel_rfl)) rfl (fun w hp => t_keysf_dots hd hp) ?_
  rintro Γ1 U1 v1 hl1 ⟨gb0, rfl, rfl⟩
  change WR _ _ _ (CC F Γ1 [[(gb0, .cells #[vd] 52 (0, 0))]]) _ _ (upd _ 4 (.func (.func 45) #[] #[.pointer (some ⟨gb0, 0, none⟩)]))
  refine e_callW (is := [0]) rfl rfl (call_run Try.call29 rfl rfl (by kernel_rfl)) rfl (fun w hw hp => t_sortedf_dots hd hp (hB.pre (is := [0]) hw rfl) h) ?_
  rintro Γ3 U5 v6 hl4 ⟨A, c, row, rfl, rfl, ho⟩
  change WR _ _ _ (CC F Γ3 [row]) _ _ (upd _ 5 (.slice A r.length c))
  refine va rfl rfl rfl (q_assign (v := .slice A r.length c) rfl (by kernel_rfl)) ?_
  refine WR.nil ?_
  change WC _ _ _ _ _ _
  refine WC.ret ?_
  intro w hw
  subst hF
  exact end_e (is := [0]) (by kernel_rfl) hw rfl ⟨A, c, row, rfl, rfl, ho, trivial⟩
abbrev r_judge_Behind_l0 (r : List Dot) (U : List Rowb) (Γ : Gh) (v : Value) : Prop := ∃ (A0 : Option Addr), ∃ (c0 : Nat), ∃ (row0 : Rowb), v = .slice A0 r.length c0 ∧ U = [row0] ∧ Own dotT Γ 27 row0 A0 c0 r ∧ True
set_option maxRecDepth 100000 in
set_option maxHeartbeats 400000 in
theorem t_judge_Behind_l0 {Γ : Gh} {w0 : World} {B : Gh} {Alist : Option Addr} {clist : Nat} {list : List Djudge_Act} (hlist : Sl djudge_ActT B Alist list) (hlistc : list.length ≤ clist) (d : Dot) (hd : Dot.fits B  d) (hp : Pre [] Γ w0) (hpB : Pre [] B w0) {r : List Dot} (h : m_judge_Behind_l0 list d = some r) : Calls Try.prog 9 #[.slice Alist list.length clist, .agg #[.int .i64 d.s, .int .i64 d.n]] w0 (Outc Γ [] w0 (r_judge_Behind_l0 r)) := by
  refine calls_of (N := 13) (rs := [4]) (args := [.slice Alist list.length clist, .agg #[.int .i64 d.s, .int .i64 d.n]]) Try.func9 rfl Try.ntmps9 Try.results9 rfl ?_
  obtain ⟨F, hF⟩ : ∃ F : Fm, F = ⟨ids [], w0, Γ⟩ := ⟨_, rfl⟩
  refine WC.here (C := CC F Γ []) ?_ (hF ▸ hp.start)
  have hB : Lent F B := hF ▸ Lent.start hpB
  refine WC.rs ?_
  refine e_box (v := .agg #[.int .i64 d.s, .int .i64 d.n]) rfl rfl rfl rfl (by kernel_rfl) ?_
  intro g1
  refine va rfl rfl rfl (q_assign (v := .slice none 0 0) rfl (by kernel_rfl)) ?_
  refine WR.nil ?_
  change WC _ _ _ _ _ _
  refine WC.seq ?_
  intro w hw; have h02 := hw.le
  refine WC.here (C := CC F Γ [[(g1, .cells #[.int .i64 d.s, .int .i64 d.n] 27 (0, 0))]]) ?_ hw; clear hw
  refine WC.held (CC F Γ [[(g1, .cells #[.int .i64 d.s, .int .i64 d.n] 27 (0, 0))]]) (by kernel_rfl) (fun w hw => hw.drawn _) ?_
  change WH _ _ _ _ (CC F Γ [[(g1, .cells #[.int .i64 d.s, .int .i64 d.n] 27 (0, 0))]]) _ 9 #[false, false, false, false, false, false, false, false, false] _
  refine ht (i := 0) rfl (by kernel_rfl) rfl rfl rfl (fun w hw => hw.back (Gh.refl _) h02 (.cons_cons _ .slnil)) (q_move (v := .slice Alist list.length clist) rfl (by kernel_rfl)) ?_
  refine ht (i := 5) rfl (by kernel_rfl) rfl rfl rfl (fun w hw => hw.back (Gh.refl _) h02 (.cons_cons _ .slnil)) (q_ldla (i := 0) (vs := [.int .i64 d.s, .int .i64 d.n]) rfl rfl Try.isAgg27 Try.sizeOf27 rfl rfl) ?_
  refine WH.lone (i := 1) (by kernel_rfl) rfl ?_
  obtain ⟨z3, hz4, h⟩ := bnd h
  refine e_callW (is := []) rfl rfl (call_run Try.call20 rfl rfl (by kernel_rfl)) rfl (fun w hw hp => t_judge_try_l0 hlist hlistc hp (hB.pre (is := []) hw rfl) hz4) ?_
  rintro Γ5 U7 v8 hl6 ⟨g9, row10, rfl, rfl, hr11, _⟩
  change WR _ _ _ (CC F Γ5 [row10, [(g1, .cells #[.int .i64 d.s, .int .i64 d.n] 27 (0, 0))]]) _ _ (upd _ 6 (.pointer (some ⟨g9, 0, none⟩)))
  refine WR.nil ?_
  refine WH.next (fun w hw => hw.back hl6 h02 (.cons _ (.cons_cons _ .slnil))) ?_
  refine ht (i := 2) rfl (by kernel_rfl) rfl rfl rfl (fun w hw => hw.back hl6 h02 (.cons _ (.cons_cons _ .slnil))) (q_nil (A := some ⟨g9, 0, none⟩) rfl rfl rfl) ?_
  refine ht (i := 3) rfl (by kernel_rfl) rfl rfl rfl (fun w hw => hw.back hl6 h02 (.cons _ (.cons_cons _ .slnil))) (q_fl 2 fld_56_2 rfl rfl rfl) ?_
  refine WH.lone (i := 4) (by kernel_rfl) rfl ?_
  have hq := hr11
  obtain ⟨A0_12, c0_12, m1_12, r1_12, m2_12, r2_12, hrow_12, ho0_12, ho1_12, ho2_12, ho3_12, -⟩ := hq
  intro w hw; have hw := hw.unfold (i := 0) rfl hrow_12
  refine WR.here (C := CC F Γ5 [[(g9, .cells #[.slice A0_12 z3.list.length c0_12, .map (some m1_12), .map (some m2_12)] 56 (0, 0))], r1_12, r2_12, [(g1, .cells #[.int .i64 d.s, .int .i64 d.n] 27 (0, 0))]]) ?_ hw
  clear hw
  refine va rfl rfl rfl (q_ldl (i := 0) (v := .map (some m2_12)) rfl rfl Try.isAgg54 rfl rfl) ?_
  refine WR.nil ?_
  refine WH.next (fun w hw => hw.back hl6 h02 (.cons _ (.cons _ (.cons _ (.cons_cons _ .slnil))))) ?_
  refine WH.lone (i := 6) (by kernel_rfl) rfl ?_
  obtain ⟨v13, rowM14, hat15, hr16, hz17⟩ := MapM.look ho3_12 d
  refine va rfl rfl rfl (q_lookup1r (v := v13) (fun w hw p hp => hw.at_ (i := 2) rfl (hr16 p hp)) hat15 rfl Try.underlying54 Try.zeroValue52 rfl rfl) ?_
  refine WR.nil ?_
  refine WH.next (fun w hw => hw.back hl6 h02 (.cons _ (.cons _ (.cons _ (.cons_cons _ .slnil))))) ?_
  refine WH.lone (i := 7) (by kernel_rfl) rfl ?_
  obtain ⟨z18, hz19, h⟩ := bnd h
  refine e_callB (is := []) hB rfl rfl (call_run Try.call21 rfl rfl (by kernel_rfl)) rfl (fun w Θ hp hpB hle hleB hR => t_judge_dots_sorted ((hz17.mono hleB).zm (fun p hp => hR _ (List.mem_of_getElem? (i := 2) rfl) p hp)) hp hpB hz19) ?_
  rintro Γ20 U22 v23 hl21 ⟨A24, c25, row26, rfl, rfl, hr27, _⟩
  change WR _ _ _ (CC F Γ20 [row26, [(g9, .cells #[.slice A0_12 z3.list.length c0_12, .map (some m1_12), .map (some m2_12)] 56 (0, 0))], r1_12, r2_12, [(g1, .cells #[.int .i64 d.s, .int .i64 d.n] 27 (0, 0))]]) _ _ (upd _ 12 (.slice A24 z18.length c25))
  refine WR.nil ?_
  refine WH.next (fun w hw => hw.back (hl6.trans hl21) h02 (.cons _ (.cons _ (.cons _ (.cons _ (.cons_cons _ .slnil)))))) ?_
  refine ht (i := 8) rfl (by kernel_rfl) rfl rfl rfl (fun w hw => hw.back (hl6.trans hl21) h02 (.cons _ (.cons _ (.cons _ (.cons _ (.cons_cons _ .slnil)))))) (q_assign (v := .slice A24 z18.length c25) rfl (by kernel_rfl)) ?_
  refine WH.done (by kernel_rfl) ?_
  change WC _ _ _ _ _ _
  refine WC.ret ?_
  intro w hw
  obtain rfl := Option.some.inj h
  subst hF
  exact end_e (is := [0]) (by kernel_rfl) hw rfl ⟨A24, c25, row26, rfl, rfl, hr27, trivial⟩
set_option maxRecDepth 100000 in
set_option maxHeartbeats 400000 in
theorem t_firthref23_Same {Γ : Gh} {w0 : World} {Aa : Option Addr} {ca : Nat} {a : List Dot} (ha : Sl dotT Γ Aa a) (hac : a.length ≤ ca) {Ab : Option Addr} {cb : Nat} {b : List Dot} (hb : Sl dotT Γ Ab b) (hbc : b.length ≤ cb) (hs : Sat Γ w0) {r : Bool} (h : m_firthref23_Same a b = some r) : Calls Try.prog 12 #[.slice Aa a.length ca, .slice Ab b.length cb] w0 (fun e w' => e = .returned (.bool r) ∧ Fr no w0 w') := by
  refine calls_of (N := 26) (rs := [4]) (args := [.slice Aa a.length ca, .slice Ab b.length cb]) Try.func12 rfl Try.ntmps12 Try.results12 rfl ?_
  obtain ⟨F, hF⟩ : ∃ F : Fm, F = ⟨no, w0, Γ⟩ := ⟨_, rfl⟩
  refine WC.here (C := CC F Γ []) ?_ (hF ▸ Cur.start0 hs)
  refine WC.rs ?_
  refine va rfl rfl rfl (q_assign (v := .bool false) rfl (by kernel_rfl)) ?_
  refine WR.nil ?_
  change WC _ _ _ _ _ _
  refine WC.seq ?_
  refine WC.rs ?_
  refine va rfl rfl rfl (q_move (v := .slice Aa a.length ca) rfl (by kernel_rfl)) ?_
  refine va rfl rfl rfl (q_len_slice rfl Try.underlying29 rfl) ?_
  refine va rfl rfl rfl (q_move (v := .slice Ab b.length cb) rfl (by kernel_rfl)) ?_
  refine va rfl rfl rfl (q_len_slice rfl Try.underlying29 rfl) ?_
  refine va rfl rfl rfl (q_neq rfl rfl rfl) ?_
  refine WR.nil ?_
  change WC _ _ _ _ _ _
  refine WC.cif h (by kernel_rfl) (fun hb1 h => ?_) (fun hb1 h => ?_)
  · skip
    refine WC.rs ?_
    refine va rfl rfl rfl (q_assign (v := .bool false) rfl (by kernel_rfl)) ?_
    refine WR.nil ?_
    change WC _ _ _ _ _ _
    refine WC.ret ?_
    intro w hw
    obtain rfl := Option.some.inj h
    subst hF
    exact ⟨by kernel_rfl, hw.fr⟩
  · skip
    refine WC.skip ?_
    change WC _ _ _ _ _ _
    refine WC.seq ?_
    refine WC.rs ?_
    refine va rfl rfl rfl (q_assign (v := .int .i64 0) rfl (by kernel_rfl)) ?_
    refine WR.nil ?_
    change WC _ _ _ _ _ _
    refine WC.block ?_
    refine WC.forI h (fun (i3 : Nat) (s : Unit) σ w => match s with | () => slots σ [(0, .slice Aa a.length ca), (1, .slice Ab b.length cb), (5, .int .i64 ((i3 : Nat) : Int))] ∧ CC F Γ [] w ∧ True) ?_ ?_
    · skip
      intro w hw
      exact ⟨(sl_ (by kernel_rfl)), hw, trivial⟩
    rintro f2 i3 ⟨⟩ σ w hi4 hlt5 hge6 ⟨hsl, hw, -⟩
    refine Wpt.slots hsl ?_
    refine WC.here (C := CC F Γ []) ?_ hw
    clear hw hsl
    refine WC.seq ?_
    refine WC.rs ?_
    refine va rfl rfl rfl (q_move (v := .int .i64 ((i3 : Nat) : Int)) rfl (by kernel_rfl)) ?_
    refine va rfl rfl rfl (q_move (v := .slice Aa a.length ca) rfl (by kernel_rfl)) ?_
    refine va rfl rfl rfl (q_len_slice rfl Try.underlying29 rfl) ?_
    refine va rfl rfl rfl (q_lss rfl rfl rfl) ?_
    refine WR.nil ?_
    change WC _ _ _ _ _ _
    refine WC.cond (b := (decide (((i3 : Nat) : Int) < ((a.length : Nat) : Int)))) (by kernel_rfl) (fun hb7 => ?_) (fun hb7 => ?_)
    · skip
      have hl8 := ilt hb7
      have h := hlt5 hl8
      refine WC.skip ?_
      change WC _ _ _ _ _ _
      refine WC.seq ?_
      refine WC.block ?_
      refine WC.seq ?_
      refine WC.dr (by kernel_rfl) (by kernel_rfl) (fun w hw => hw.drawn _) ?_
      refine wa rfl rfl rfl (q_move (v := .slice Aa a.length ca) rfl (by kernel_rfl)) ?_
      refine wa rfl rfl rfl (q_move (v := .int .i64 ((i3 : Nat) : Int)) rfl (by kernel_rfl)) ?_
      refine wa rfl rfl rfl (q_ixn (i := i3) Try.underlying29 Try.sizeOf27 rfl rfl rfl hl8 (ha.some_ hl8)) ?_
      refine wa rfl rfl rfl (q_lda (c := 0) (vs := [.int .i64 (gt a i3).s, .int .i64 (gt a i3).n]) (ha.dotT_at hl8).2 rfl Try.isAgg27 Try.sizeOf27 rfl rfl rfl) ?_
      refine wa rfl rfl rfl (q_move (v := .slice Ab b.length cb) rfl (by kernel_rfl)) ?_
      refine wa rfl rfl rfl (q_move (v := .int .i64 ((i3 : Nat) : Int)) rfl (by kernel_rfl)) ?_
      obtain ⟨hk9, h⟩ := chk_some h
      refine wa rfl rfl rfl (q_ixn (i := i3) Try.underlying29 Try.sizeOf27 rfl rfl rfl (of_decide_eq_true hk9) (hb.some_ (of_decide_eq_true hk9))) ?_
      refine wa rfl rfl rfl (q_lda (c := 0) (vs := [.int .i64 (gt b i3).s, .int .i64 (gt b i3).n]) (hb.dotT_at (of_decide_eq_true hk9)).2 rfl Try.isAgg27 Try.sizeOf27 rfl rfl rfl) ?_
      refine wa rfl rfl rfl (q_neq_Dot (a := (gt a i3)) (b := (gt b i3)) rfl rfl rfl) ?_
      refine WQ.nil ?_
      change WC _ _ _ _ _ _
      refine WC.cif h (by kernel_rfl) (fun hb10 h => ?_) (fun hb10 h => ?_)
      · skip
        refine WC.rs ?_
        refine va rfl rfl rfl (q_assign (v := .bool false) rfl (by kernel_rfl)) ?_
        refine WR.nil ?_
        change WC _ _ _ _ _ _
        refine WC.ret ?_
        intro w hw
        obtain rfl := Option.some.inj h
        subst hF
        exact ⟨by kernel_rfl, hw.fr⟩
      · skip
        refine WC.skip ?_
        change WC _ _ _ _ _ _
        refine WC.region ?_
        refine va rfl rfl rfl (q_move (v := .int .i64 ((i3 : Nat) : Int)) rfl (by kernel_rfl)) ?_
        refine va rfl rfl rfl (q_add_r (r := ((i3 + 1 : Nat) : Int)) rfl rfl rfl (ctr_len hl8 ha.le)) ?_
        refine va rfl rfl rfl (q_assign (v := .int .i64 ((i3 + 1 : Nat) : Int)) rfl (by kernel_rfl)) ?_
        refine WR.nil ?_
        intro w hw
        exact ⟨hl8, (), h, (sl_ (by kernel_rfl)), hw, trivial⟩
    · skip
      have h := hge6 (ige hb7)
      refine WC.exit ?_
      change WC _ _ _ _ _ _
      refine WC.rs ?_
      refine va rfl rfl rfl (q_assign (v := .bool true) rfl (by kernel_rfl)) ?_
      refine WR.nil ?_
      change WC _ _ _ _ _ _
      refine WC.ret ?_
      intro w hw
      obtain rfl := Option.some.inj h
      subst hF
      exact ⟨by kernel_rfl, hw.fr⟩
end Fw
end Go.Proofs.Ytldpanjodokefaa
