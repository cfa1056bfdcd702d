/- Walks through the functions that the law reaches (printed by a program). No condition. -/
import Derived.Test.YtmafjpdiplfcmaaGreatW3
namespace Go.Proofs.YtmafjpdiplfcmaaGreat
namespace Fw
set_option linter.unusedVariables false
set_option linter.unusedSimpArgs false
set_option linter.unusedSectionVars false
set_option maxRecDepth 100000
set_option maxHeartbeats 400000
open Go.RowKit
theorem t_firthref05_RightOne {Γ : Gh} {w0 : World} {Av_2 : Option Addr} {cv_2 : Nat} (v_ : Ver) (hv_ : Ver.fits Γ Av_2 cv_2 v_) (hs : Sat Γ w0) {r : Bool} (h : m_firthref05_RightOne v_ = some r) : Calls Tryz.prog 64 #[.agg #[.int .i64 v_.dot.s, .int .i64 v_.dot.n, .slice Av_2 v_.past.length cv_2, .bool v_.gone, .string v_.val]] w0 (fun e w' => e = .returned (.bool r) ∧ Fr no w0 w') := by
 refine calls_of (N := 34) (rs := [2]) (args := [.agg #[.int .i64 v_.dot.s, .int .i64 v_.dot.n, .slice Av_2 v_.past.length cv_2, .bool v_.gone, .string v_.val]]) Tryz.func64 rfl Tryz.ntmps64 Tryz.results64 rfl ?_
 obtain ⟨F, hF⟩ : ∃ F : Fm, F = ⟨no, w0, Γ⟩ := ⟨_, rfl⟩
 refine WC.here (C := CC F Γ []) ?_ (hF ▸ Cur.start0 hs)
 refine WC.rs ?_
 refine e_box (v := .agg #[.int .i64 v_.dot.s, .int .i64 v_.dot.n, .slice Av_2 v_.past.length cv_2, .bool v_.gone, .string v_.val]) rfl rfl rfl rfl (by kernel_rfl) ?_
 intro g1
 refine as_ (v := .bool false) ?_
 refine WR.done ?_
 refine WC.seq ?_
 refine WC.seq ?_
 refine WC.dr (by kernel_rfl) (by kernel_rfl) (fun w hw => hw.drawn _) ?_
 refine wa rfl rfl rfl (q_fl 0 fld_39_0 rfl rfl rfl) ?_
 refine wa rfl rfl rfl (q_ldla (i := 0) (vs := [.int .i64 v_.dot.s, .int .i64 v_.dot.n]) rfl rfl Tryz.isAgg36 Tryz.sizeOf36 rfl rfl) ?_
 obtain ⟨z2, hz3, h⟩ := bnd h
 refine wc rfl rfl rfl (q_call (call_run Tryz.call112 rfl rfl (by kernel_rfl)) (fun w hw => t_firthref03_Dot (Γ := Gh.all w) v_.dot ⟨hv_.1, hv_.2.1⟩ (Sat.all w) hz3)) ?_
 refine wa rfl rfl rfl (q_not rfl rfl) ?_
 refine wa rfl rfl rfl (q_move (v := .bool (!z2)) rfl (by kernel_rfl)) ?_
 refine wg0 rfl rfl rfl rfl rfl (fun hg4 => QV.qo (q_fl 2 fld_39_1 rfl rfl rfl)) ?_
 refine wg0 rfl rfl rfl rfl rfl (fun hg5 => QV.qo (q_ldl (i := 0) (v := .slice Av_2 v_.past.length cv_2) rfl rfl Tryz.isAgg37 (gu hg5 rfl) rfl)) ?_
 obtain ⟨z7, hz8, h⟩ := bnd h
 refine wg0 rfl rfl rfl rfl rfl (fun hg6 => (q_call (call_run Tryz.call113 rfl rfl (args1 (gu hg6 rfl))) (fun w hw => t_firthref03_Right (Γ := Gh.all w) (hv_.2.2.1.2.mono hw.sat.le_all) hv_.2.2.1.1 (Sat.all w) (gc_of hz8 hg6)))) ?_
 refine wg0 rfl rfl rfl rfl rfl (fun hg9 => QV.qo (q_not rfl (gu hg9 rfl))) ?_
 refine wa rfl rfl rfl (q_pick rfl rfl (pk_or' (g := (!z2)) (y := (!z7)))) ?_
 refine wa rfl rfl rfl (q_move (v := .bool ((!z2) || (!z7))) rfl (by kernel_rfl)) ?_
 refine wg0 rfl rfl rfl rfl rfl (fun hg10 => QV.qo (q_fl 2 fld_39_1 rfl rfl rfl)) ?_
 refine wg0 rfl rfl rfl rfl rfl (fun hg11 => QV.qo (q_ldl (i := 0) (v := .slice Av_2 v_.past.length cv_2) rfl rfl Tryz.isAgg37 (gu hg11 rfl) rfl)) ?_
 refine wg0 rfl rfl rfl rfl rfl (fun hg12 => QV.qo (q_fl 0 fld_39_0 rfl rfl rfl)) ?_
 refine wg0 rfl rfl rfl rfl rfl (fun hg13 => QV.qo (q_fl 0 fld_36_0 rfl (gu hg13 rfl) rfl)) ?_
 refine wg0 rfl rfl rfl rfl rfl (fun hg14 => QV.qo (q_ldl (i := 0) (v := .int .i64 v_.dot.s) rfl rfl Tryz.isAgg3 (gu hg14 rfl) rfl)) ?_
 obtain ⟨z16, hz17, h⟩ := bnd h
 refine wg0 rfl rfl rfl rfl rfl (fun hg15 => (q_call (call_run Tryz.call114 rfl rfl (args2 (gu hg15 rfl) (gu hg15 rfl))) (fun w hw => t_firthref03_Top (Γ := Gh.all w) (hv_.2.2.1.2.mono hw.sat.le_all) hv_.2.2.1.1 v_.dot.s hv_.1 (Sat.all w) (gc_of hz17 hg15)))) ?_
 refine wg0 rfl rfl rfl rfl rfl (fun hg18 => QV.qo (q_fl 0 fld_39_0 rfl rfl rfl)) ?_
 refine wg0 rfl rfl rfl rfl rfl (fun hg19 => QV.qo (q_fl 1 fld_36_1 rfl (gu hg19 rfl) rfl)) ?_
 refine wg0 rfl rfl rfl rfl rfl (fun hg20 => QV.qo (q_ldl (i := 0) (v := .int .i64 v_.dot.n) rfl rfl Tryz.isAgg2 (gu hg20 rfl) rfl)) ?_
 refine wg0 rfl rfl rfl rfl rfl (fun hg21 => QV.qo (q_geq rfl (gu hg21 rfl) (gu hg21 rfl))) ?_
 refine wa rfl rfl rfl (q_pick rfl rfl (pk_or' (g := ((!z2) || (!z7))) (y := (decide (v_.dot.n ≤ z16))))) ?_
 refine WQ.nil ?_
 change WC _ _ _ _ _ _
 refine WC.cif h (by kernel_rfl) (fun hb22 h => ?_) (fun hb22 h => ?_)
 ·
  refine WC.rs ?_
  refine as_ (v := .bool false) ?_
  refine WR.done ?_
  refine WC.ret ?_
  intro w hw
  obtain rfl := Option.some.inj h
  subst hF
  exact ⟨by kernel_rfl, hw.fr⟩
 ·
  refine WC.skip ?_
  change WC _ _ _ _ _ _
  refine WC.seq ?_
  refine WC.rs ?_
  refine vb (q_fl 3 fld_39_2 rfl rfl rfl) ?_
  refine vb (q_ldl (i := 0) (v := .bool v_.gone) rfl rfl Tryz.isAgg4 rfl rfl) ?_
  refine WR.done ?_
  refine WC.cif h (by kernel_rfl) (fun hb23 h => ?_) (fun hb23 h => ?_)
  ·
   refine WC.rs ?_
   refine vb (q_fl 4 fld_39_3 rfl rfl rfl) ?_
   refine vb (q_ldl (i := 0) (v := .string v_.val) rfl rfl Tryz.isAgg9 rfl rfl) ?_
   refine vb (q_seql rfl rfl rfl) ?_
   refine as_ (v := .bool (v_.val == ByteArray.empty)) ?_
   refine WR.done ?_
   refine WC.ret ?_
   intro w hw
   obtain rfl := Option.some.inj h
   subst hF
   exact ⟨by kernel_rfl, hw.fr⟩
  ·
   refine WC.skip ?_
   change WC _ _ _ _ _ _
   refine WC.rs ?_
   refine vb (q_fl 4 fld_39_3 rfl rfl rfl) ?_
   refine vb (q_ldl (i := 0) (v := .string v_.val) rfl rfl Tryz.isAgg9 rfl rfl) ?_
   refine vb (q_len_str rfl Tryz.underlying9 rfl) ?_
   refine vb (q_leq rfl rfl rfl) ?_
   refine as_ (v := .bool (decide (((v_.val.size : Nat) : Int) ≤ 256))) ?_
   refine WR.done ?_
   refine WC.ret ?_
   intro w hw
   obtain rfl := Option.some.inj h
   subst hF
   exact ⟨by kernel_rfl, hw.fr⟩
theorem t_firthref03_Has {Γ : Gh} {w0 : World} {Al : Option Addr} {cl : Nat} {l : List Span} (hl : Sl spanT Γ Al l) (hlc : l.length ≤ cl) (d : Dot) (hd : Dot.fits Γ  d) (hs : Sat Γ w0) {r : Bool} (h : m_firthref03_Has l d = some r) : Calls Tryz.prog 115 #[.slice Al l.length cl, .agg #[.int .i64 d.s, .int .i64 d.n]] w0 (fun e w' => e = .returned (.bool r) ∧ Fr no w0 w') := by
 refine calls_of (N := 40) (rs := [4]) (args := [.slice Al l.length cl, .agg #[.int .i64 d.s, .int .i64 d.n]]) Tryz.func115 rfl Tryz.ntmps115 Tryz.results115 rfl ?_
 obtain ⟨F, hF⟩ : ∃ F : Fm, F = ⟨no, w0, Γ⟩ := ⟨_, rfl⟩
 refine WC.here (C := CC F Γ []) ?_ (hF ▸ Cur.start0 hs)
 refine WC.rs ?_
 refine e_box (v := .agg #[.int .i64 d.s, .int .i64 d.n]) rfl rfl rfl rfl (by kernel_rfl) ?_
 intro g1
 refine as_ (v := .bool false) ?_
 refine WR.done ?_
 refine WC.seq ?_
 refine WC.rs ?_
 refine as_ (v := .int .i64 0) ?_
 refine WR.done ?_
 refine WC.block ?_
 refine WC.forI h (fun (i3 : Nat) (s : Unit) σ w => match s with | () => slots σ [(0, .slice Al l.length cl), (3, (pq g1)), (5, .int .i64 ((i3 : Nat) : Int))] ∧ CC F Γ [[(g1, .cells #[.int .i64 d.s, .int .i64 d.n] 36 (0, 0))]] w ∧ True) ?_ ?_
 ·
  intro w hw
  exact ⟨(sl_ (by kernel_rfl)), hw, trivial⟩
 rintro f2 i3 ⟨⟩ σ w hi4 hlt5 hge6 ⟨hsl, hw, -⟩
 refine Wpt.slots hsl ?_
 refine WC.here (C := CC F Γ [[(g1, .cells #[.int .i64 d.s, .int .i64 d.n] 36 (0, 0))]]) ?_ hw
 clear hw hsl
 refine WC.seq ?_
 refine WC.rs ?_
 refine mv (v := .int .i64 ((i3 : Nat) : Int)) ?_
 refine mv (v := .slice Al l.length cl) ?_
 refine vb (q_len_slice rfl Tryz.underlying37 rfl) ?_
 refine vb (q_lss rfl rfl rfl) ?_
 refine WR.done ?_
 refine WC.cond (b := (decide (((i3 : Nat) : Int) < ((l.length : Nat) : Int)))) (by kernel_rfl) (fun hb7 => ?_) (fun hb7 => ?_)
 ·
  have hl8 := ilt hb7
  have h := hlt5 hl8
  refine WC.skip ?_
  change WC _ _ _ _ _ _
  refine WC.seq ?_
  refine WC.block ?_
  refine WC.seq ?_
  refine WC.dr (by kernel_rfl) (by kernel_rfl) (fun w hw => hw.drawn _) ?_
  refine wa rfl rfl rfl (q_move (v := .slice Al l.length cl) rfl (by kernel_rfl)) ?_
  refine wa rfl rfl rfl (q_move (v := .int .i64 ((i3 : Nat) : Int)) rfl (by kernel_rfl)) ?_
  refine wa rfl rfl rfl (q_ixn (i := i3) Tryz.underlying37 Tryz.sizeOf41 rfl rfl rfl hl8 (hl.some_ hl8)) ?_
  refine wa rfl rfl rfl (q_field_addr (i3 * 3) fld_41_0 rfl rfl (hl.some_ hl8) rfl) ?_
  refine wa rfl rfl rfl (q_ld (c := 0) (v := .int .i64 (gt l i3).s) (hl.spanT_at hl8).2 rfl Tryz.isAgg3 rfl rfl) ?_
  refine wa rfl rfl rfl (q_fl 0 fld_36_0 rfl rfl rfl) ?_
  refine wa rfl rfl rfl (q_ldl (i := 0) (v := .int .i64 d.s) rfl rfl Tryz.isAgg3 rfl rfl) ?_
  refine wa rfl rfl rfl (q_eql rfl rfl rfl) ?_
  refine wa rfl rfl rfl (q_move (v := .bool ((gt l i3).s == d.s)) rfl (by kernel_rfl)) ?_
  refine wg1 rfl rfl rfl rfl rfl (fun hg9 => QV.qo (q_fl 1 fld_36_1 rfl rfl rfl)) ?_
  refine wg1 rfl rfl rfl rfl rfl (fun hg10 => QV.qo (q_ldl (i := 0) (v := .int .i64 d.n) rfl rfl Tryz.isAgg2 (gu hg10 rfl) rfl)) ?_
  refine wg1 rfl rfl rfl rfl rfl (fun hg11 => QV.qo (q_move (v := .slice Al l.length cl) rfl (by kernel_rfl))) ?_
  refine wg1 rfl rfl rfl rfl rfl (fun hg12 => QV.qo (q_move (v := .int .i64 ((i3 : Nat) : Int)) rfl (by kernel_rfl))) ?_
  refine wg1 rfl rfl rfl rfl rfl (fun hg13 => QV.qo (q_ixn (i := i3) Tryz.underlying37 Tryz.sizeOf41 rfl (gu hg13 rfl) (gu hg13 rfl) hl8 (hl.some_ hl8))) ?_
  refine wg1 rfl rfl rfl rfl rfl (fun hg14 => QV.qo (q_field_addr (i3 * 3 + 1) fld_41_1 rfl (gu hg14 rfl) (hl.some_ hl8) rfl)) ?_
  refine wg1 rfl rfl rfl rfl rfl (fun hg15 => QV.qo (q_ld (c := 1) (v := .int .i64 (gt l i3).f) (hl.spanT_at hl8).2 rfl Tryz.isAgg2 (gu hg15 rfl) rfl)) ?_
  refine wg1 rfl rfl rfl rfl rfl (fun hg16 => QV.qo (q_geq rfl (gu hg16 rfl) (gu hg16 rfl))) ?_
  refine wa rfl rfl rfl (q_pick rfl rfl (pk_and' (g := ((gt l i3).s == d.s)) (y := (decide ((gt l i3).f ≤ d.n))))) ?_
  refine wa rfl rfl rfl (q_move (v := .bool (((gt l i3).s == d.s) && (decide ((gt l i3).f ≤ d.n)))) rfl (by kernel_rfl)) ?_
  refine wg1 rfl rfl rfl rfl rfl (fun hg17 => QV.qo (q_fl 1 fld_36_1 rfl rfl rfl)) ?_
  refine wg1 rfl rfl rfl rfl rfl (fun hg18 => QV.qo (q_ldl (i := 0) (v := .int .i64 d.n) rfl rfl Tryz.isAgg2 (gu hg18 rfl) rfl)) ?_
  refine wg1 rfl rfl rfl rfl rfl (fun hg19 => QV.qo (q_move (v := .slice Al l.length cl) rfl (by kernel_rfl))) ?_
  refine wg1 rfl rfl rfl rfl rfl (fun hg20 => QV.qo (q_move (v := .int .i64 ((i3 : Nat) : Int)) rfl (by kernel_rfl))) ?_
  refine wg1 rfl rfl rfl rfl rfl (fun hg21 => QV.qo (q_ixn (i := i3) Tryz.underlying37 Tryz.sizeOf41 rfl (gu hg21 rfl) (gu hg21 rfl) hl8 (hl.some_ hl8))) ?_
  refine wg1 rfl rfl rfl rfl rfl (fun hg22 => QV.qo (q_field_addr (i3 * 3 + 2) fld_41_2 rfl (gu hg22 rfl) (hl.some_ hl8) rfl)) ?_
  refine wg1 rfl rfl rfl rfl rfl (fun hg23 => QV.qo (q_ld (c := 2) (v := .int .i64 (gt l i3).t) (hl.spanT_at hl8).2 rfl Tryz.isAgg2 (gu hg23 rfl) rfl)) ?_
  refine wg1 rfl rfl rfl rfl rfl (fun hg24 => QV.qo (q_leq rfl (gu hg24 rfl) (gu hg24 rfl))) ?_
  refine wa rfl rfl rfl (q_pick rfl rfl (pk_and' (g := (((gt l i3).s == d.s) && (decide ((gt l i3).f ≤ d.n)))) (y := (decide (d.n ≤ (gt l i3).t))))) ?_
  refine WQ.nil ?_
  change WC _ _ _ _ _ _
  refine WC.cif h (by kernel_rfl) (fun hb25 h => ?_) (fun hb25 h => ?_)
  ·
   refine WC.rs ?_
   refine as_ (v := .bool true) ?_
   refine WR.done ?_
   refine WC.ret ?_
   intro w hw
   obtain rfl := Option.some.inj h
   subst hF
   exact ⟨by kernel_rfl, hw.fr⟩
  ·
   refine WC.skip ?_
   change WC _ _ _ _ _ _
   refine WC.region ?_
   refine mv (v := .int .i64 ((i3 : Nat) : Int)) ?_
   refine vb (q_add_r (r := ((i3 + 1 : Nat) : Int)) rfl rfl rfl (ctr_len hl8 hl.le)) ?_
   refine as_ (v := .int .i64 ((i3 + 1 : Nat) : Int)) ?_
   refine WR.nil ?_
   intro w hw
   exact ⟨hl8, (), h, (sl_ (by kernel_rfl)), hw, trivial⟩
 ·
  have h := hge6 (ige hb7)
  refine WC.exit ?_
  change WC _ _ _ _ _ _
  refine WC.rs ?_
  refine as_ (v := .bool false) ?_
  refine WR.done ?_
  refine WC.ret ?_
  intro w hw
  obtain rfl := Option.some.inj h
  subst hF
  exact ⟨by kernel_rfl, hw.fr⟩
theorem t_firthref05_Behind {Γ : Gh} {w0 : World} {Al : Option Addr} {cl : Nat} {l : List Ver} (hl : Sl verT Γ Al l) (hlc : l.length ≤ cl) (d : Dot) (hd : Dot.fits Γ  d) (hs : Sat Γ w0) {r : Bool} (h : m_firthref05_Behind l d = some r) : Calls Tryz.prog 65 #[.slice Al l.length cl, .agg #[.int .i64 d.s, .int .i64 d.n]] w0 (fun e w' => e = .returned (.bool r) ∧ Fr no w0 w') := by
 refine calls_of (N := 19) (rs := [4]) (args := [.slice Al l.length cl, .agg #[.int .i64 d.s, .int .i64 d.n]]) Tryz.func65 rfl Tryz.ntmps65 Tryz.results65 rfl ?_
 obtain ⟨F, hF⟩ : ∃ F : Fm, F = ⟨no, w0, Γ⟩ := ⟨_, rfl⟩
 refine WC.here (C := CC F Γ []) ?_ (hF ▸ Cur.start0 hs)
 refine WC.rs ?_
 refine e_box (v := .agg #[.int .i64 d.s, .int .i64 d.n]) rfl rfl rfl rfl (by kernel_rfl) ?_
 intro g1
 refine as_ (v := .bool false) ?_
 refine WR.done ?_
 refine WC.seq ?_
 refine WC.rs ?_
 refine as_ (v := .int .i64 0) ?_
 refine WR.done ?_
 refine WC.block ?_
 refine WC.forI h (fun (i3 : Nat) (s : Unit) σ w => match s with | () => slots σ [(0, .slice Al l.length cl), (3, (pq g1)), (5, .int .i64 ((i3 : Nat) : Int))] ∧ CC F Γ [[(g1, .cells #[.int .i64 d.s, .int .i64 d.n] 36 (0, 0))]] w ∧ True) ?_ ?_
 ·
  intro w hw
  exact ⟨(sl_ (by kernel_rfl)), hw, trivial⟩
 rintro f2 i3 ⟨⟩ σ w hi4 hlt5 hge6 ⟨hsl, hw, -⟩
 refine Wpt.slots hsl ?_
 refine WC.here (C := CC F Γ [[(g1, .cells #[.int .i64 d.s, .int .i64 d.n] 36 (0, 0))]]) ?_ hw
 clear hw hsl
 refine WC.seq ?_
 refine WC.rs ?_
 refine mv (v := .int .i64 ((i3 : Nat) : Int)) ?_
 refine mv (v := .slice Al l.length cl) ?_
 refine vb (q_len_slice rfl Tryz.underlying22 rfl) ?_
 refine vb (q_lss rfl rfl rfl) ?_
 refine WR.done ?_
 refine WC.cond (b := (decide (((i3 : Nat) : Int) < ((l.length : Nat) : Int)))) (by kernel_rfl) (fun hb7 => ?_) (fun hb7 => ?_)
 ·
  have hl8 := ilt hb7
  have h := hlt5 hl8
  refine WC.skip ?_
  change WC _ _ _ _ _ _
  refine WC.seq ?_
  refine WC.block ?_
  refine WC.seq ?_
  refine WC.dr (by kernel_rfl) (by kernel_rfl) (fun w hw => hw.drawn _) ?_
  refine wa rfl rfl rfl (q_move (v := .slice Al l.length cl) rfl (by kernel_rfl)) ?_
  refine wa rfl rfl rfl (q_move (v := .int .i64 ((i3 : Nat) : Int)) rfl (by kernel_rfl)) ?_
  refine wa rfl rfl rfl (q_ixn (i := i3) Tryz.underlying22 Tryz.sizeOf39 rfl rfl rfl hl8 (hl.some_ hl8)) ?_
  refine wa rfl rfl rfl (q_field_addr (i3 * 5 + 2) fld_39_1 rfl rfl (hl.some_ hl8) rfl) ?_
  obtain ⟨A9, c10, hx11⟩ := hl.verT_at i3
  refine wa rfl rfl rfl (q_ld (c := 2) (v := .slice A9 ((gt l i3).past).length c10) (hx11 hl8).2 rfl Tryz.isAgg37 rfl rfl) ?_
  refine wa rfl rfl rfl (q_ldla (i := 0) (vs := [.int .i64 d.s, .int .i64 d.n]) rfl rfl Tryz.isAgg36 Tryz.sizeOf36 rfl rfl) ?_
  obtain ⟨z12, hz13, h⟩ := bnd h
  refine wc rfl rfl rfl (q_call (call_run Tryz.call115 rfl rfl (by kernel_rfl)) (fun w hw => t_firthref03_Has (Γ := Gh.all w) ((hx11 hl8).1.2.2.1.2.mono hw.sat.le_all) (hx11 hl8).1.2.2.1.1 d hd (Sat.all w) hz13)) ?_
  refine WQ.nil ?_
  change WC _ _ _ _ _ _
  refine WC.cif h (by kernel_rfl) (fun hb14 h => ?_) (fun hb14 h => ?_)
  ·
   refine WC.rs ?_
   refine as_ (v := .bool true) ?_
   refine WR.done ?_
   refine WC.ret ?_
   intro w hw
   obtain rfl := Option.some.inj h
   subst hF
   exact ⟨by kernel_rfl, hw.fr⟩
  ·
   refine WC.skip ?_
   change WC _ _ _ _ _ _
   refine WC.region ?_
   refine mv (v := .int .i64 ((i3 : Nat) : Int)) ?_
   refine vb (q_add_r (r := ((i3 + 1 : Nat) : Int)) rfl rfl rfl (ctr_len hl8 hl.le)) ?_
   refine as_ (v := .int .i64 ((i3 + 1 : Nat) : Int)) ?_
   refine WR.nil ?_
   intro w hw
   exact ⟨hl8, (), h, (sl_ (by kernel_rfl)), hw, trivial⟩
 ·
  have h := hge6 (ige hb7)
  refine WC.exit ?_
  change WC _ _ _ _ _ _
  refine WC.rs ?_
  refine as_ (v := .bool false) ?_
  refine WR.done ?_
  refine WC.ret ?_
  intro w hw
  obtain rfl := Option.some.inj h
  subst hF
  exact ⟨by kernel_rfl, hw.fr⟩
theorem t_firthref05_Less {Γ : Gh} {w0 : World} (a : Dot) (ha : Dot.fits Γ  a) (b : Dot) (hb : Dot.fits Γ  b) (hs : Sat Γ w0) {r : Bool} (h : m_firthref05_Less a b = some r) : Calls Tryz.prog 66 #[.agg #[.int .i64 a.s, .int .i64 a.n], .agg #[.int .i64 b.s, .int .i64 b.n]] w0 (fun e w' => e = .returned (.bool r) ∧ Fr no w0 w') := by
 refine calls_of (N := 20) (rs := [4]) (args := [.agg #[.int .i64 a.s, .int .i64 a.n], .agg #[.int .i64 b.s, .int .i64 b.n]]) Tryz.func66 rfl Tryz.ntmps66 Tryz.results66 rfl ?_
 obtain ⟨F, hF⟩ : ∃ F : Fm, F = ⟨no, w0, Γ⟩ := ⟨_, rfl⟩
 refine WC.here (C := CC F Γ []) ?_ (hF ▸ Cur.start0 hs)
 refine WC.rs ?_
 refine e_box (v := .agg #[.int .i64 a.s, .int .i64 a.n]) rfl rfl rfl rfl (by kernel_rfl) ?_
 intro g1
 refine e_box (v := .agg #[.int .i64 b.s, .int .i64 b.n]) rfl rfl rfl rfl (by kernel_rfl) ?_
 intro g2
 refine as_ (v := .bool false) ?_
 refine WR.done ?_
 refine WC.seq ?_
 refine WC.rs ?_
 refine vb (q_fl 0 fld_36_0 rfl rfl rfl) ?_
 refine vb (q_ldl (i := 1) (v := .int .i64 a.s) rfl rfl Tryz.isAgg3 rfl rfl) ?_
 refine vb (q_fl 0 fld_36_0 rfl rfl rfl) ?_
 refine vb (q_ldl (i := 0) (v := .int .i64 b.s) rfl rfl Tryz.isAgg3 rfl rfl) ?_
 refine vb (q_neq rfl rfl rfl) ?_
 refine WR.done ?_
 refine WC.cif h (by kernel_rfl) (fun hb3 h => ?_) (fun hb3 h => ?_)
 ·
  refine WC.rs ?_
  refine vb (q_fl 0 fld_36_0 rfl rfl rfl) ?_
  refine vb (q_ldl (i := 1) (v := .int .i64 a.s) rfl rfl Tryz.isAgg3 rfl rfl) ?_
  refine vb (q_fl 0 fld_36_0 rfl rfl rfl) ?_
  refine vb (q_ldl (i := 0) (v := .int .i64 b.s) rfl rfl Tryz.isAgg3 rfl rfl) ?_
  refine vb (q_lss rfl rfl rfl) ?_
  refine as_ (v := .bool (decide (a.s < b.s))) ?_
  refine WR.done ?_
  refine WC.ret ?_
  intro w hw
  obtain rfl := Option.some.inj h
  subst hF
  exact ⟨by kernel_rfl, hw.fr⟩
 ·
  refine WC.skip ?_
  change WC _ _ _ _ _ _
  refine WC.rs ?_
  refine vb (q_fl 1 fld_36_1 rfl rfl rfl) ?_
  refine vb (q_ldl (i := 1) (v := .int .i64 a.n) rfl rfl Tryz.isAgg2 rfl rfl) ?_
  refine vb (q_fl 1 fld_36_1 rfl rfl rfl) ?_
  refine vb (q_ldl (i := 0) (v := .int .i64 b.n) rfl rfl Tryz.isAgg2 rfl rfl) ?_
  refine vb (q_lss rfl rfl rfl) ?_
  refine as_ (v := .bool (decide (a.n < b.n))) ?_
  refine WR.done ?_
  refine WC.ret ?_
  intro w hw
  obtain rfl := Option.some.inj h
  subst hF
  exact ⟨by kernel_rfl, hw.fr⟩
theorem t_firthref05_Right {Γ : Gh} {w0 : World} {Al : Option Addr} {cl : Nat} {l : List Ver} (hl : Sl verT Γ Al l) (hlc : l.length ≤ cl) (hs : Sat Γ w0) {r : Bool} (h : m_firthref05_Right l = some r) : Calls Tryz.prog 32 #[.slice Al l.length cl] w0 (fun e w' => e = .returned (.bool r) ∧ Fr no w0 w') := by
 refine calls_of (N := 45) (rs := [2]) (args := [.slice Al l.length cl]) Tryz.func32 rfl Tryz.ntmps32 Tryz.results32 rfl ?_
 obtain ⟨F, hF⟩ : ∃ F : Fm, F = ⟨no, w0, Γ⟩ := ⟨_, rfl⟩
 refine WC.here (C := CC F Γ []) ?_ (hF ▸ Cur.start0 hs)
 refine WC.rs ?_
 refine as_ (v := .bool false) ?_
 refine WR.done ?_
 refine WC.seq ?_
 refine WC.rs ?_
 refine mv (v := .slice Al l.length cl) ?_
 refine vb (q_len_slice rfl Tryz.underlying22 rfl) ?_
 refine vb (q_gtr rfl rfl rfl) ?_
 refine WR.done ?_
 refine WC.cif h (by kernel_rfl) (fun hb1 h => ?_) (fun hb1 h => ?_)
 ·
  refine WC.rs ?_
  refine as_ (v := .bool false) ?_
  refine WR.done ?_
  refine WC.ret ?_
  intro w hw
  obtain rfl := Option.some.inj h
  subst hF
  exact ⟨by kernel_rfl, hw.fr⟩
 ·
  refine WC.skip ?_
  change WC _ _ _ _ _ _
  refine WC.seq ?_
  refine WC.rs ?_
  refine as_ (v := .int .i64 0) ?_
  refine WR.done ?_
  refine WC.block ?_
  refine WC.forI h (fun (i3 : Nat) (s : Unit) σ w => match s with | () => slots σ [(0, .slice Al l.length cl), (3, .int .i64 ((i3 : Nat) : Int))] ∧ CC F Γ [] w ∧ True) ?_ ?_
  ·
   intro w hw
   exact ⟨(sl_ (by kernel_rfl)), hw, trivial⟩
  rintro f2 i3 ⟨⟩ σ w hi4 hlt5 hge6 ⟨hsl, hw, -⟩
  refine Wpt.slots hsl ?_
  refine WC.here (C := CC F Γ []) ?_ hw
  clear hw hsl
  refine WC.seq ?_
  refine WC.rs ?_
  refine mv (v := .int .i64 ((i3 : Nat) : Int)) ?_
  refine mv (v := .slice Al l.length cl) ?_
  refine vb (q_len_slice rfl Tryz.underlying22 rfl) ?_
  refine vb (q_lss rfl rfl rfl) ?_
  refine WR.done ?_
  refine WC.cond (b := (decide (((i3 : Nat) : Int) < ((l.length : Nat) : Int)))) (by kernel_rfl) (fun hb7 => ?_) (fun hb7 => ?_)
  ·
   have hl8 := ilt hb7
   have h := hlt5 hl8
   refine WC.skip ?_
   change WC _ _ _ _ _ _
   refine WC.seq ?_
   refine WC.block ?_
   refine WC.seq ?_
   refine WC.rs ?_
   refine mv (v := .slice Al l.length cl) ?_
   refine mv (v := .int .i64 ((i3 : Nat) : Int)) ?_
   refine vb (q_ixn (i := i3) Tryz.underlying22 Tryz.sizeOf39 rfl rfl rfl hl8 (hl.some_ hl8)) ?_
   obtain ⟨A9, c10, hx11⟩ := hl.verT_at i3
   refine vb (q_lda (c := 0) (vs := [.int .i64 (gt l i3).dot.s, .int .i64 (gt l i3).dot.n, .slice A9 ((gt l i3).past).length c10, .bool (gt l i3).gone, .string (gt l i3).val]) (hx11 hl8).2 rfl Tryz.isAgg39 Tryz.sizeOf39 rfl rfl rfl) ?_
   obtain ⟨z12, hz13, h⟩ := bnd h
   refine vc rfl rfl rfl (q_call (call_run Tryz.call64 rfl rfl (by kernel_rfl)) (fun w hw => t_firthref05_RightOne (Γ := Gh.all w) (gt l i3) (Ver.fits_mono (hx11 hl8).1 hw.sat.le_all) (Sat.all w) hz13)) ?_
   refine vb (q_not rfl rfl) ?_
   refine mv (v := .bool (!z12)) ?_
   refine vg0 rfl rfl rfl rfl rfl (fun hg14 => QV.qo (q_move (v := .slice Al l.length cl) rfl (by kernel_rfl))) ?_
   refine vg0 rfl rfl rfl rfl rfl (fun hg15 => QV.qo (q_move (v := .slice Al l.length cl) rfl (by kernel_rfl))) ?_
   refine vg0 rfl rfl rfl rfl rfl (fun hg16 => QV.qo (q_move (v := .int .i64 ((i3 : Nat) : Int)) rfl (by kernel_rfl))) ?_
   refine vg0 rfl rfl rfl rfl rfl (fun hg17 => QV.qo (q_ixn (i := i3) Tryz.underlying22 Tryz.sizeOf39 rfl (gu hg17 rfl) (gu hg17 rfl) hl8 (hl.some_ hl8))) ?_
   refine vg0 rfl rfl rfl rfl rfl (fun hg18 => QV.qo (q_field_addr (i3 * 5) fld_39_0 rfl (gu hg18 rfl) (hl.some_ hl8) rfl)) ?_
   refine vg0 rfl rfl rfl rfl rfl (fun hg19 => QV.qo (q_lda (c := 0) (vs := [.int .i64 (gt l i3).dot.s, .int .i64 (gt l i3).dot.n]) (hx11 hl8).2 rfl Tryz.isAgg36 Tryz.sizeOf36 (gu hg19 rfl) rfl rfl)) ?_
   obtain ⟨z21, hz22, h⟩ := bnd h
   refine vg0 rfl rfl rfl rfl rfl (fun hg20 => (q_call (call_run Tryz.call65 rfl rfl (args2 (gu hg20 rfl) (gu hg20 rfl))) (fun w hw => t_firthref05_Behind (Γ := Gh.all w) (hl.mono hw.sat.le_all) hlc ((gt l i3).dot) ⟨(hx11 hl8).1.1, (hx11 hl8).1.2.1⟩ (Sat.all w) (gc_of hz22 hg20)))) ?_
   refine vb (q_pick rfl rfl (pk_or' (g := (!z12)) (y := z21))) ?_
   refine WR.done ?_
   refine WC.cif h (by kernel_rfl) (fun hb23 h => ?_) (fun hb23 h => ?_)
   ·
    refine WC.rs ?_
    refine as_ (v := .bool false) ?_
    refine WR.done ?_
    refine WC.ret ?_
    intro w hw
    obtain rfl := Option.some.inj h
    subst hF
    exact ⟨by kernel_rfl, hw.fr⟩
   ·
    refine WC.skip ?_
    change WC _ _ _ _ _ _
    refine WC.seq ?_
    refine WC.dr (by kernel_rfl) (by kernel_rfl) (fun w hw => hw.drawn _) ?_
    refine wa rfl rfl rfl (q_move (v := .int .i64 ((i3 : Nat) : Int)) rfl (by kernel_rfl)) ?_
    refine wa rfl rfl rfl (q_gtr rfl rfl rfl) ?_
    refine wa rfl rfl rfl (q_move (v := .bool (decide (0 < ((i3 : Nat) : Int)))) rfl (by kernel_rfl)) ?_
    refine wg1 rfl rfl rfl rfl rfl (fun hg24 => QV.qo (q_move (v := .slice Al l.length cl) rfl (by kernel_rfl))) ?_
    refine wg1 rfl rfl rfl rfl rfl (fun hg25 => QV.qo (q_move (v := .int .i64 ((i3 : Nat) : Int)) rfl (by kernel_rfl))) ?_
    refine wg1 rfl rfl rfl rfl rfl (fun hg26 => QV.qo (q_sub rfl (gu hg26 rfl) rfl)) ?_
    obtain ⟨hk28, h⟩ := chk_some h
    refine wg1 rfl rfl rfl rfl rfl (fun hg27 => QV.qo (q_ix Tryz.underlying22 Tryz.sizeOf39 rfl (gu hg27 rfl) (gu hg27 rfl) (imp_of hk28 hg27) (hl.some_ (inb_lt (imp_of hk28 hg27))))) ?_
    refine wg1 rfl rfl rfl rfl rfl (fun hg29 => QV.qo (q_field_addr (((w64 (((i3 : Nat) : Int) - 1)).toNat) * 5) fld_39_0 rfl (gu hg29 rfl) (hl.some_ (inb_lt (imp_of hk28 hg29))) rfl)) ?_
    obtain ⟨A31, c32, hx33⟩ := hl.verT_at ((w64 (((i3 : Nat) : Int) - 1)).toNat)
    refine wg1 rfl rfl rfl rfl rfl (fun hg30 => QV.qo (q_lda (c := 0) (vs := [.int .i64 (gt l ((w64 (((i3 : Nat) : Int) - 1)).toNat)).dot.s, .int .i64 (gt l ((w64 (((i3 : Nat) : Int) - 1)).toNat)).dot.n]) (hx33 (inb_lt (imp_of hk28 hg30))).2 rfl Tryz.isAgg36 Tryz.sizeOf36 (gu hg30 rfl) rfl rfl)) ?_
    refine wg1 rfl rfl rfl rfl rfl (fun hg34 => QV.qo (q_move (v := .slice Al l.length cl) rfl (by kernel_rfl))) ?_
    refine wg1 rfl rfl rfl rfl rfl (fun hg35 => QV.qo (q_move (v := .int .i64 ((i3 : Nat) : Int)) rfl (by kernel_rfl))) ?_
    refine wg1 rfl rfl rfl rfl rfl (fun hg36 => QV.qo (q_ixn (i := i3) Tryz.underlying22 Tryz.sizeOf39 rfl (gu hg36 rfl) (gu hg36 rfl) hl8 (hl.some_ hl8))) ?_
    refine wg1 rfl rfl rfl rfl rfl (fun hg37 => QV.qo (q_field_addr (i3 * 5) fld_39_0 rfl (gu hg37 rfl) (hl.some_ hl8) rfl)) ?_
    refine wg1 rfl rfl rfl rfl rfl (fun hg38 => QV.qo (q_lda (c := 0) (vs := [.int .i64 (gt l i3).dot.s, .int .i64 (gt l i3).dot.n]) (hx11 hl8).2 rfl Tryz.isAgg36 Tryz.sizeOf36 (gu hg38 rfl) rfl rfl)) ?_
    obtain ⟨z40, hz41, h⟩ := bnd h
    refine wg1 rfl rfl rfl rfl rfl (fun hg39 => (q_call (call_run Tryz.call66 rfl rfl (args2 (gu hg39 rfl) (gu hg39 rfl))) (fun w hw => t_firthref05_Less (Γ := Gh.all w) ((gt l ((w64 (((i3 : Nat) : Int) - 1)).toNat)).dot) ⟨(hx33 (inb_lt (imp_of hk28 hg39))).1.1, (hx33 (inb_lt (imp_of hk28 hg39))).1.2.1⟩ ((gt l i3).dot) ⟨(hx11 hl8).1.1, (hx11 hl8).1.2.1⟩ (Sat.all w) (gc_of hz41 hg39)))) ?_
    refine wg1 rfl rfl rfl rfl rfl (fun hg42 => QV.qo (q_not rfl (gu hg42 rfl))) ?_
    refine wa rfl rfl rfl (q_pick rfl rfl (pk_and' (g := (decide (0 < ((i3 : Nat) : Int)))) (y := (!z40)))) ?_
    refine WQ.nil ?_
    change WC _ _ _ _ _ _
    refine WC.cif h (by kernel_rfl) (fun hb43 h => ?_) (fun hb43 h => ?_)
    ·
     refine WC.rs ?_
     refine as_ (v := .bool false) ?_
     refine WR.done ?_
     refine WC.ret ?_
     intro w hw
     obtain rfl := Option.some.inj h
     subst hF
     exact ⟨by kernel_rfl, hw.fr⟩
    ·
     refine WC.skip ?_
     change WC _ _ _ _ _ _
     refine WC.region ?_
     refine mv (v := .int .i64 ((i3 : Nat) : Int)) ?_
     refine vb (q_add_r (r := ((i3 + 1 : Nat) : Int)) rfl rfl rfl (ctr_len hl8 hl.le)) ?_
     refine as_ (v := .int .i64 ((i3 + 1 : Nat) : Int)) ?_
     refine WR.nil ?_
     intro w hw
     exact ⟨hl8, (), h, (sl_ (by kernel_rfl)), hw, trivial⟩
  ·
   have h := hge6 (ige hb7)
   refine WC.exit ?_
   change WC _ _ _ _ _ _
   refine WC.rs ?_
   refine as_ (v := .bool true) ?_
   refine WR.done ?_
   refine WC.ret ?_
   intro w hw
   obtain rfl := Option.some.inj h
   subst hF
   exact ⟨by kernel_rfl, hw.fr⟩
theorem t_firthref06_RightRec {Γ : Gh} {w0 : World} {Ar_1 : Option Addr} {cr_1 : Nat} (r_ : Rec) (hr_ : Rec.fits Γ Ar_1 cr_1 r_) (hs : Sat Γ w0) {r : Bool} (h : m_firthref06_RightRec r_ = some r) : Calls Tryz.prog 7 #[.agg #[.string r_.key, .slice Ar_1 r_.vers.length cr_1]] w0 (fun e w' => e = .returned (.bool r) ∧ Fr no w0 w') := by
 refine calls_of (N := 17) (rs := [2]) (args := [.agg #[.string r_.key, .slice Ar_1 r_.vers.length cr_1]]) Tryz.func7 rfl Tryz.ntmps7 Tryz.results7 rfl ?_
 obtain ⟨F, hF⟩ : ∃ F : Fm, F = ⟨no, w0, Γ⟩ := ⟨_, rfl⟩
 refine WC.here (C := CC F Γ []) ?_ (hF ▸ Cur.start0 hs)
 refine WC.rs ?_
 refine e_box (v := .agg #[.string r_.key, .slice Ar_1 r_.vers.length cr_1]) rfl rfl rfl rfl (by kernel_rfl) ?_
 intro g1
 refine as_ (v := .bool false) ?_
 refine WR.done ?_
 refine WC.rs ?_
 refine vb (q_fl 0 fld_24_0 rfl rfl rfl) ?_
 refine vb (q_ldl (i := 0) (v := .string r_.key) rfl rfl Tryz.isAgg9 rfl rfl) ?_
 refine vb (q_sneq rfl rfl rfl) ?_
 refine mv (v := .bool (r_.key != ByteArray.empty)) ?_
 refine vg1 rfl rfl rfl rfl rfl (fun hg2 => QV.qo (q_fl 0 fld_24_0 rfl rfl rfl)) ?_
 refine vg1 rfl rfl rfl rfl rfl (fun hg3 => QV.qo (q_ldl (i := 0) (v := .string r_.key) rfl rfl Tryz.isAgg9 (gu hg3 rfl) rfl)) ?_
 refine vg1 rfl rfl rfl rfl rfl (fun hg4 => QV.qo (q_len_str rfl Tryz.underlying9 (gu hg4 rfl))) ?_
 refine vg1 rfl rfl rfl rfl rfl (fun hg5 => QV.qo (q_leq rfl (gu hg5 rfl) rfl)) ?_
 refine vb (q_pick rfl rfl (pk_and' (g := (r_.key != ByteArray.empty)) (y := (decide (((r_.key.size : Nat) : Int) ≤ 32))))) ?_
 refine mv (v := .bool ((r_.key != ByteArray.empty) && (decide (((r_.key.size : Nat) : Int) ≤ 32)))) ?_
 refine vg1 rfl rfl rfl rfl rfl (fun hg6 => QV.qo (q_fl 1 fld_24_1 rfl rfl rfl)) ?_
 refine vg1 rfl rfl rfl rfl rfl (fun hg7 => QV.qo (q_ldl (i := 0) (v := .slice Ar_1 r_.vers.length cr_1) rfl rfl Tryz.isAgg22 (gu hg7 rfl) rfl)) ?_
 obtain ⟨z9, hz10, h⟩ := bnd h
 refine vg1 rfl rfl rfl rfl rfl (fun hg8 => (q_call (call_run Tryz.call32 rfl rfl (args1 (gu hg8 rfl))) (fun w hw => t_firthref05_Right (Γ := Gh.all w) (hr_.2.2.mono hw.sat.le_all) hr_.2.1 (Sat.all w) (gc_of hz10 hg8)))) ?_
 refine vb (q_pick rfl rfl (pk_and' (g := ((r_.key != ByteArray.empty) && (decide (((r_.key.size : Nat) : Int) ≤ 32)))) (y := z9))) ?_
 refine as_ (v := .bool (((r_.key != ByteArray.empty) && (decide (((r_.key.size : Nat) : Int) ≤ 32))) && z9)) ?_
 refine WR.done ?_
 refine WC.ret ?_
 intro w hw
 obtain rfl := Option.some.inj h
 subst hF
 exact ⟨by kernel_rfl, hw.fr⟩
abbrev r_firthref10_Own_l0 (r : Rec) (U : List Rowb) (Γ : Gh) (v : Value) : Prop := ∃ (A0_1 : Option Addr), ∃ (c0_1 : Nat), v = .agg #[.string r.key, .slice A0_1 r.vers.length c0_1] ∧ U = [] ∧ Rec.fits Γ A0_1 c0_1 r ∧ True
theorem t_firthref10_Own_l0 {Γ : Gh} {w0 : World} {B : Gh} {Ar_1 : Option Addr} {cr_1 : Nat} (r_ : Rec) (hr_ : Rec.fits B Ar_1 cr_1 r_) (hp : Pre [] Γ w0) (hpB : Pre [] B w0) {r : Rec} (h : m_firthref10_Own r_ = some r) : Calls Tryz.prog 10 #[.agg #[.string r_.key, .slice Ar_1 r_.vers.length cr_1]] w0 (Outc Γ [] w0 (r_firthref10_Own_l0 r)) := by
 refine calls_of_r (N := 35) (rs := [.cell 2 24]) (args := [.agg #[.string r_.key, .slice Ar_1 r_.vers.length cr_1]]) Tryz.func10 rfl Tryz.ntmps10 Tryz.results10 rfl ?_
 obtain ⟨F, hF⟩ : ∃ F : Fm, F = ⟨ids [], w0, Γ⟩ := ⟨_, rfl⟩
 refine WC.here (C := CC F Γ []) ?_ (hF ▸ hp.start)
 have hB : Lent F B := hF ▸ Lent.start hpB
 refine WC.rs ?_
 refine e_box (v := .agg #[.string r_.key, .slice Ar_1 r_.vers.length cr_1]) rfl rfl rfl rfl (by kernel_rfl) ?_
 intro g1
 refine e_alloc Tryz.zeroValue24 rfl rfl rfl rfl ?_
 intro g2
 refine WR.done ?_
 refine WC.rs ?_
 refine vb (q_fl 0 fld_24_0 rfl rfl rfl) ?_
 refine vb (q_ldl (i := 1) (v := .string r_.key) rfl rfl Tryz.isAgg9 rfl rfl) ?_
 refine vb (q_build' (v := .agg #[.string r_.key, .slice none 0 0]) rfl (bargs1 rfl) (fun w => by kernel_rfl)) ?_
 refine e_alloc Tryz.zeroValue24 rfl rfl rfl rfl ?_
 intro g3
 refine e_st (i := 0) (v := .agg #[.string r_.key, .slice none 0 0]) (new := #[.string r_.key, .slice none 0 0]) rfl Tryz.sizeOf24 rfl rfl rfl rfl (by kernel_rfl) rfl rfl rfl rfl ?_
 refine WR.done ?_
 refine WC.seq ?_
 refine WC.rs ?_
 refine as_ (v := .int .i64 0) ?_
 refine WR.done ?_
 refine WC.block ?_
 refine WC.forI h (fun (i12 : Nat) (x6 : List Ver) σ w => ∃ (Γ4 : Gh), ∃ (A7 : Option Addr), ∃ (c8 : Nat), ∃ (row9 : Rowb), slots σ [(1, (pq g1)), (2, (pq g2)), (3, (pq g3)), (4, .int .i64 ((i12 : Nat) : Int))] ∧ CC F Γ4 [row9, [(g3, .cells #[.string r_.key, .slice A7 x6.length c8] 24 (0, 0))], [(g2, .cells #[.string ByteArray.empty, .slice none 0 0] 24 (0, 0))], [(g1, .cells #[.string r_.key, .slice Ar_1 r_.vers.length cr_1] 24 (0, 0))]] w ∧ Gh.le Γ Γ4 ∧ Own verT Γ4 39 row9 A7 c8 x6 ∧ True) ?_ ?_
 ·
  intro w hw
  have hw := hw.pad
  exact ⟨Γ, none, 0, [], (sl_ (by kernel_rfl)), hw, (Gh.refl _), (Own.nil verT _ 39), trivial⟩
 rintro f11 i12 x6 σ w hi13 hlt14 hge15 ⟨Γ4, A7, c8, row9, hsl, hw, hl5, ho10, -⟩
 refine Wpt.slots hsl ?_
 refine WC.here (C := CC F Γ4 [row9, [(g3, .cells #[.string r_.key, .slice A7 x6.length c8] 24 (0, 0))], [(g2, .cells #[.string ByteArray.empty, .slice none 0 0] 24 (0, 0))], [(g1, .cells #[.string r_.key, .slice Ar_1 r_.vers.length cr_1] 24 (0, 0))]]) ?_ hw
 clear hw hsl
 refine WC.seq ?_
 refine WC.rs ?_
 refine mv (v := .int .i64 ((i12 : Nat) : Int)) ?_
 refine vb (q_fl 1 fld_24_1 rfl rfl rfl) ?_
 refine vb (q_ldl (i := 3) (v := .slice Ar_1 r_.vers.length cr_1) rfl rfl Tryz.isAgg22 rfl rfl) ?_
 refine vb (q_len_slice rfl Tryz.underlying22 rfl) ?_
 refine vb (q_lss rfl rfl rfl) ?_
 refine WR.done ?_
 refine WC.cond (b := (decide (((i12 : Nat) : Int) < ((r_.vers.length : Nat) : Int)))) (by kernel_rfl) (fun hb16 => ?_) (fun hb16 => ?_)
 ·
  have hl17 := ilt hb16
  have h := hlt14 hl17
  refine WC.skip ?_
  change WC _ _ _ _ _ _
  refine WC.seq ?_
  refine WC.block ?_
  refine WC.rs ?_
  refine vb (q_fl 1 fld_24_1 rfl rfl rfl) ?_
  refine vb (q_ldl (i := 3) (v := .slice Ar_1 r_.vers.length cr_1) rfl rfl Tryz.isAgg22 rfl rfl) ?_
  refine mv (v := .int .i64 ((i12 : Nat) : Int)) ?_
  refine vb (q_ixn (i := i12) Tryz.underlying22 Tryz.sizeOf39 rfl rfl rfl hl17 (hr_.2.2.some_ hl17)) ?_
  obtain ⟨A18, c19, hx20⟩ := hr_.2.2.verT_at i12
  refine vb (q_ldaS (c := 0) (vs := [.int .i64 (gt r_.vers i12).dot.s, .int .i64 (gt r_.vers i12).dot.n, .slice A18 ((gt r_.vers i12).past).length c19, .bool (gt r_.vers i12).gone, .string (gt r_.vers i12).val]) (fun w hw => hB.sat hw) (hx20 hl17).2 rfl Tryz.isAgg39 Tryz.sizeOf39 rfl rfl rfl) ?_
  refine e_alloc Tryz.zeroValue39 rfl rfl rfl rfl ?_
  intro g21
  refine e_st (i := 0) (v := .agg #[.int .i64 (gt r_.vers i12).dot.s, .int .i64 (gt r_.vers i12).dot.n, .slice A18 ((gt r_.vers i12).past).length c19, .bool (gt r_.vers i12).gone, .string (gt r_.vers i12).val]) (new := #[.int .i64 (gt r_.vers i12).dot.s, .int .i64 (gt r_.vers i12).dot.n, .slice A18 ((gt r_.vers i12).past).length c19, .bool (gt r_.vers i12).gone, .string (gt r_.vers i12).val]) rfl Tryz.sizeOf39 rfl rfl rfl rfl (by kernel_rfl) rfl rfl rfl rfl ?_
  refine WR.done ?_
  refine WC.rs ?_
  refine as_ (v := .slice none 0 0) ?_
  refine WR.done ?_
  refine WC.rs ?_
  refine mv (v := .slice none 0 0) ?_
  refine vb (q_fl 2 fld_39_1 rfl rfl rfl) ?_
  refine vb (q_ldl (i := 0) (v := .slice A18 ((gt r_.vers i12).past).length c19) rfl rfl Tryz.isAgg37 rfl rfl) ?_
  refine WR.sub (fun w hw => hw.pad) ?_
  obtain ⟨hk22, h⟩ := chk_some h
  refine e_append (T := spanT) (xs := []) (ys := (gt r_.vers i12).past) elem_37 (i := 0) rfl rfl rfl rfl (by kernel_rfl) rfl rfl (Own.nil spanT Γ4 41) (of_decide_eq_true hk22) (fun w hw => src_slS (Γ := Γ4) (fun w hw => hB.sat hw) (fun _ _ h => h) (hx20 hl17).1.2.2.1.2 hw) ?_
  intro row23 A24 c25 ho26
  refine as_ (v := .slice A24 (gt r_.vers i12).past.length c25) ?_
  refine WR.done ?_
  refine WC.rs ?_
  refine mv (v := .slice A24 (gt r_.vers i12).past.length c25) ?_
  refine vb (q_fl 2 fld_39_1 rfl rfl rfl) ?_
  refine e_st (i := 1) (v := .slice A24 (gt r_.vers i12).past.length c25) (new := #[.int .i64 (gt r_.vers i12).dot.s, .int .i64 (gt r_.vers i12).dot.n, .slice A24 (gt r_.vers i12).past.length c25, .bool (gt r_.vers i12).gone, .string (gt r_.vers i12).val]) rfl Tryz.sizeOf37 rfl rfl rfl rfl (by kernel_rfl) rfl rfl rfl rfl ?_
  refine WR.done ?_
  refine WC.region ?_
  refine vb (q_fl 1 fld_24_1 rfl rfl rfl) ?_
  refine vb (q_ldl (i := 3) (v := .slice A7 x6.length c8) rfl rfl Tryz.isAgg22 rfl rfl) ?_
  refine vb (q_ldla (i := 1) (vs := [.int .i64 (gt r_.vers i12).dot.s, .int .i64 (gt r_.vers i12).dot.n, .slice A24 (gt r_.vers i12).past.length c25, .bool (gt r_.vers i12).gone, .string (gt r_.vers i12).val]) rfl rfl Tryz.isAgg39 Tryz.sizeOf39 rfl rfl) ?_
  have hc31 := ho26.capz
  intro w hw; obtain ⟨Γ27, hw, hl28, hr29⟩ := hw.seal (i := 0) rfl; have hs30 := ho26.sl hl28 hr29
  refine WR.here (C := CC F Γ27 [[], [(g21, .cells #[.int .i64 (gt r_.vers i12).dot.s, .int .i64 (gt r_.vers i12).dot.n, .slice A24 ((gt r_.vers i12).past).length c25, .bool (gt r_.vers i12).gone, .string (gt r_.vers i12).val] 39 (0, 0))], row9, [(g3, .cells #[.string r_.key, .slice A7 x6.length c8] 24 (0, 0))], [(g2, .cells #[.string ByteArray.empty, .slice none 0 0] 24 (0, 0))], [(g1, .cells #[.string r_.key, .slice Ar_1 r_.vers.length cr_1] 24 (0, 0))]]) ?_ hw
  clear hw
  refine e_buildSlice (cs := #[.int .i64 (gt r_.vers i12).dot.s, .int .i64 (gt r_.vers i12).dot.n, .slice A24 ((gt r_.vers i12).past).length c25, .bool (gt r_.vers i12).gone, .string (gt r_.vers i12).val]) (e := 39) rfl rfl rfl rfl (fun w => by kernel_rfl) ?_
  intro g32
  obtain ⟨hk33, h⟩ := chk_some h
  refine e_append (T := verT) (xs := x6) (ys := [(gt r_.vers i12)]) elem_22 (i := 3) rfl rfl rfl rfl rfl rfl rfl (ho10.mono hl28) (of_decide_eq_true hk33) (fun w hw => src_one (T := verT) (y := (gt r_.vers i12)) (i := 0) rfl (by exact ⟨A24, c25, rfl, ⟨(hx20 hl17).1.1, (hx20 hl17).1.2.1, ⟨hc31, hs30⟩, (hx20 hl17).1.2.2.2⟩⟩) hw) ?_
  intro row34 A35 c36 ho37
  refine vb (q_fl 1 fld_24_1 rfl rfl rfl) ?_
  refine e_st (i := 4) (v := .slice A35 (x6 ++ [(gt r_.vers i12)]).length c36) (new := #[.string r_.key, .slice A35 (x6 ++ [(gt r_.vers i12)]).length c36]) rfl Tryz.sizeOf22 rfl rfl rfl rfl (by kernel_rfl) rfl rfl rfl rfl ?_
  refine WR.nil ?_
  change WC _ _ _ _ _ _
  refine WC.region ?_
  refine mv (v := .int .i64 ((i12 : Nat) : Int)) ?_
  refine vb (q_add_r (r := ((i12 + 1 : Nat) : Int)) rfl rfl rfl (ctr_len hl17 hr_.2.2.le)) ?_
  refine as_ (v := .int .i64 ((i12 + 1 : Nat) : Int)) ?_
  refine WR.nil ?_
  intro w hw
  exact ⟨hl17, (x6 ++ [(gt r_.vers i12)]), h, Γ27, A35, c36, row34, (sl_ (by kernel_rfl)), (hw.only (is := [3, 3, 3, 3]) rfl), (hl5.trans hl28), ho37, trivial⟩
 ·
  have h := hge15 (ige hb16)
  refine WC.exit ?_
  change WC _ _ _ _ _ _
  refine WC.rs ?_
  refine vb (q_ldla (i := 1) (vs := [.string r_.key, .slice A7 x6.length c8]) rfl rfl Tryz.isAgg24 Tryz.sizeOf24 rfl rfl) ?_
  refine e_st (i := 2) (v := .agg #[.string r_.key, .slice A7 x6.length c8]) (new := #[.string r_.key, .slice A7 x6.length c8]) rfl Tryz.sizeOf24 rfl rfl rfl rfl (by kernel_rfl) rfl rfl rfl rfl ?_
  refine WR.done ?_
  refine WC.ret ?_
  intro w hw
  have hc42 := ho10.capz
  obtain ⟨Γ38, hw, hl39, hr40⟩ := hw.seal (i := 0) rfl; have hs41 := ho10.sl hl39 hr40
  obtain rfl := Option.some.inj h
  subst hF
  exact ⟨[.agg #[.string r_.key, .slice A7 x6.length c8]], (rr_agg (i := 2) (us := [.string r_.key, .slice A7 x6.length c8]) hw rfl Tryz.isAgg24 Tryz.sizeOf24 (by kernel_rfl) rfl rr_nil), end_e (is := []) (by kernel_rfl) hw rfl ⟨A7, c8, rfl, rfl, ⟨hr_.1, ⟨hc42, hs41⟩⟩, trivial⟩⟩
abbrev r_code_put_api_Span_l1 (gw_ : Nat) (ew_ : Nat) (r : Ocode_writer) (U : List Rowb) (Γ : Gh) (v : Value) : Prop := ∃ (roww_' : Rowb), v = .tuple #[] ∧ U = [roww_'] ∧ Ocode_writer.ob ew_ Γ gw_ roww_' r ∧ True
theorem t_code_put_api_Span_l1 {Γ : Gh} {w0 : World} {B : Gh} {gw_ ew_ : Nat} {roww_ : Rowb} {w_ : Ocode_writer} (hw_ : Ocode_writer.ob ew_ Γ gw_ roww_ w_) {Al : Option Addr} {cl : Nat} {l : List Span} (hl : Sl spanT B Al l) (hlc : l.length ≤ cl) (hp : Pre [roww_] Γ w0) (hpB : Pre [roww_] B w0) {r : Ocode_writer} (h : m_code_put_api_Span w_ l = some r) : Calls Tryz.prog 171 #[(pq gw_), .slice Al l.length cl, .func (.func 172) #[(pq gw_)] #[]] w0 (Outc Γ [roww_] w0 (r_code_put_api_Span_l1 gw_ ew_ r)) := by
 refine calls_of (N := 22) (rs := []) (args := [(pq gw_), .slice Al l.length cl, .func (.func 172) #[(pq gw_)] #[]]) Tryz.func171 rfl Tryz.ntmps171 Tryz.results171 rfl ?_
 obtain ⟨F, hF⟩ : ∃ F : Fm, F = ⟨ids [roww_], w0, Γ⟩ := ⟨_, rfl⟩
 refine WC.here (C := CC F Γ [roww_]) ?_ (hF ▸ hp.start)
 have hB : Lent F B := hF ▸ Lent.start hpB
 refine WC.rs ?_
 refine mv (v := (pq gw_)) ?_
 refine mv (v := .slice Al l.length cl) ?_
 refine vb (q_len_slice rfl Tryz.underlying37 rfl) ?_
 obtain ⟨z1, hz2, h⟩ := bnd h
 refine e_call (is := [0]) rfl rfl (call_run Tryz.call169 rfl rfl (by kernel_rfl)) rfl (fun w hp => t_code_writer_int hw_ ((l.length : Nat) : Int) (len_r hl.le) hp hz2) ?_
 rintro Γ3 U5 v6 hl4 ⟨row7, rfl, rfl, hr8, _⟩
 change WR _ _ _ (CC F Γ3 [row7]) _ _ (upd _ 11 (.tuple #[]))
 refine WR.done ?_
 refine WC.rs ?_
 refine mv (v := .slice Al l.length cl) ?_
 refine vb (q_len_slice rfl Tryz.underlying37 rfl) ?_
 refine mv (v := .int .i64 0) ?_
 refine WR.done ?_
 refine WC.block ?_
 refine WC.forI h (fun (i15 : Nat) (o11 : Ocode_writer) σ w => ∃ (Γ9 : Gh), ∃ (row12 : Rowb), slots σ [(2, .func (.func 172) #[(pq gw_)] #[]), (12, .slice Al l.length cl), (13, .int .i64 ((l.length : Nat) : Int)), (14, .int .i64 ((i15 : Nat) : Int))] ∧ CC F Γ9 [row12] w ∧ Gh.le Γ3 Γ9 ∧ Ocode_writer.ob ew_ Γ9 gw_ row12 o11 ∧ True) ?_ ?_
 ·
  intro w hw
  exact ⟨Γ3, row7, (sl_ (by kernel_rfl)), hw, (Gh.refl _), hr8, trivial⟩
 rintro f14 i15 o11 σ w hi16 hlt17 hge18 ⟨Γ9, row12, hsl, hw, hl10, ho13, -⟩
 refine Wpt.slots hsl ?_
 refine WC.here (C := CC F Γ9 [row12]) ?_ hw
 clear hw hsl
 refine WC.rs ?_
 refine vb (q_lss rfl rfl rfl) ?_
 refine WR.done ?_
 refine WC.seq ?_
 refine WC.cond (b := (decide (((i15 : Nat) : Int) < ((l.length : Nat) : Int)))) (by kernel_rfl) (fun hb19 => ?_) (fun hb19 => ?_)
 ·
  have hl20 := ilt hb19
  have h := hlt17 hl20
  refine WC.skip ?_
  change WC _ _ _ _ _ _
  refine WC.seq ?_
  refine WC.block ?_
  refine WC.rs ?_
  refine vb (q_ixn (i := i15) Tryz.underlying37 Tryz.sizeOf41 rfl rfl rfl hl20 (hl.some_ hl20)) ?_
  refine vb (q_ldaS (c := 0) (vs := [.int .i64 (gt l i15).s, .int .i64 (gt l i15).f, .int .i64 (gt l i15).t]) (fun w hw => hB.sat hw) (hl.spanT_at hl20).2 rfl Tryz.isAgg41 Tryz.sizeOf41 rfl rfl rfl) ?_
  refine e_alloc Tryz.zeroValue41 rfl rfl rfl rfl ?_
  intro g21
  refine e_st (i := 0) (v := .agg #[.int .i64 (gt l i15).s, .int .i64 (gt l i15).f, .int .i64 (gt l i15).t]) (new := #[.int .i64 (gt l i15).s, .int .i64 (gt l i15).f, .int .i64 (gt l i15).t]) rfl Tryz.sizeOf41 rfl rfl rfl rfl (by kernel_rfl) rfl rfl rfl rfl ?_
  refine WR.done ?_
  refine WC.region ?_
  refine mv (v := .func (.func 172) #[(pq gw_)] #[]) ?_
  refine vb (q_ldla (i := 0) (vs := [.int .i64 (gt l i15).s, .int .i64 (gt l i15).f, .int .i64 (gt l i15).t]) rfl rfl Tryz.isAgg41 Tryz.sizeOf41 rfl rfl) ?_
  obtain ⟨z22, hz23, h⟩ := bnd h
  refine e_call (is := [1]) rfl rfl (call_run_fb (first := #[(pq gw_)]) Tryz.call172 rfl (by kernel_rfl) (by kernel_rfl)) rfl (fun w hp => t_code_writer_span ho13 (gt l i15) (hl.spanT_at hl20).1 hp hz23) ?_
  rintro Γ24 U26 v27 hl25 ⟨row28, rfl, rfl, hr29, _⟩
  change WR _ _ _ (CC F Γ24 [row28, [(g21, .cells #[.int .i64 (gt l i15).s, .int .i64 (gt l i15).f, .int .i64 (gt l i15).t] 41 (0, 0))]]) _ _ (upd _ 20 (.tuple #[]))
  refine WR.nil ?_
  change WC _ _ _ _ _ _
  refine WC.region ?_
  refine vb (q_add_r (r := ((i15 + 1 : Nat) : Int)) rfl rfl rfl (ctr_len hl20 hl.le)) ?_
  refine mv (v := .int .i64 ((i15 + 1 : Nat) : Int)) ?_
  refine WR.nil ?_
  intro w hw
  exact ⟨hl20, z22, h, Γ24, row28, (sl_ (by kernel_rfl)), (hw.only (is := [0]) rfl), (hl10.trans hl25), hr29, trivial⟩
 ·
  have h := hge18 (ige hb19)
  refine WC.exit ?_
  intro w hw
  obtain rfl := Option.some.inj h
  subst hF
  exact end_e (is := [0]) (by kernel_rfl) hw rfl ⟨row12, rfl, rfl, ho13, trivial⟩
abbrev r_code_writer_ver_l1 (gw_ : Nat) (ew_ : Nat) (r : Ocode_writer) (U : List Rowb) (Γ : Gh) (v : Value) : Prop := ∃ (roww_' : Rowb), v = .tuple #[] ∧ U = [roww_'] ∧ Ocode_writer.ob ew_ Γ gw_ roww_' r ∧ True
theorem t_code_writer_ver_l1 {Γ : Gh} {w0 : World} {B : Gh} {gw_ ew_ : Nat} {roww_ : Rowb} {w_ : Ocode_writer} (hw_ : Ocode_writer.ob ew_ Γ gw_ roww_ w_) {Av_2 : Option Addr} {cv_2 : Nat} (v_ : Ver) (hv_ : Ver.fits B Av_2 cv_2 v_) (hp : Pre [roww_] Γ w0) (hpB : Pre [roww_] B w0) {r : Ocode_writer} (h : m_code_writer_ver w_ v_ = some r) : Calls Tryz.prog 129 #[(pq gw_), .agg #[.int .i64 v_.dot.s, .int .i64 v_.dot.n, .slice Av_2 v_.past.length cv_2, .bool v_.gone, .string v_.val]] w0 (Outc Γ [roww_] w0 (r_code_writer_ver_l1 gw_ ew_ r)) := by
 refine calls_of (N := 30) (rs := []) (args := [(pq gw_), .agg #[.int .i64 v_.dot.s, .int .i64 v_.dot.n, .slice Av_2 v_.past.length cv_2, .bool v_.gone, .string v_.val]]) Tryz.func129 rfl Tryz.ntmps129 Tryz.results129 rfl ?_
 obtain ⟨F, hF⟩ : ∃ F : Fm, F = ⟨ids [roww_], w0, Γ⟩ := ⟨_, rfl⟩
 refine WC.here (C := CC F Γ [roww_]) ?_ (hF ▸ hp.start)
 have hB : Lent F B := hF ▸ Lent.start hpB
 refine WC.rs ?_
 refine e_box (v := .agg #[.int .i64 v_.dot.s, .int .i64 v_.dot.n, .slice Av_2 v_.past.length cv_2, .bool v_.gone, .string v_.val]) rfl rfl rfl rfl (by kernel_rfl) ?_
 intro g1
 refine WR.done ?_
 refine WC.rs ?_
 refine mv (v := (pq gw_)) ?_
 refine vb (q_fl 0 fld_39_0 rfl rfl rfl) ?_
 refine vb (q_fl 0 fld_36_0 rfl rfl rfl) ?_
 refine vb (q_ldl (i := 0) (v := .int .i64 v_.dot.s) rfl rfl Tryz.isAgg3 rfl rfl) ?_
 obtain ⟨z2, hz3, h⟩ := bnd h
 refine e_call (is := [1]) rfl rfl (call_run Tryz.call169 rfl rfl (by kernel_rfl)) rfl (fun w hp => t_code_writer_int hw_ v_.dot.s hv_.1 hp hz3) ?_
 rintro Γ4 U6 v7 hl5 ⟨row8, rfl, rfl, hr9, _⟩
 change WR _ _ _ (CC F Γ4 [row8, [(g1, .cells #[.int .i64 v_.dot.s, .int .i64 v_.dot.n, .slice Av_2 v_.past.length cv_2, .bool v_.gone, .string v_.val] 39 (0, 0))]]) _ _ (upd _ 8 (.tuple #[]))
 refine WR.done ?_
 refine WC.rs ?_
 refine mv (v := (pq gw_)) ?_
 refine vb (q_fl 0 fld_39_0 rfl rfl rfl) ?_
 refine vb (q_fl 1 fld_36_1 rfl rfl rfl) ?_
 refine vb (q_ldl (i := 1) (v := .int .i64 v_.dot.n) rfl rfl Tryz.isAgg2 rfl rfl) ?_
 obtain ⟨z10, hz11, h⟩ := bnd h
 refine e_call (is := [0]) rfl rfl (call_run Tryz.call170 rfl rfl (by kernel_rfl)) rfl (fun w hp => t_code_writer_num hr9 v_.dot.n hv_.2.1 hp hz11) ?_
 rintro Γ12 U14 v15 hl13 ⟨row16, rfl, rfl, hr17, _⟩
 change WR _ _ _ (CC F Γ12 [row16, [(g1, .cells #[.int .i64 v_.dot.s, .int .i64 v_.dot.n, .slice Av_2 v_.past.length cv_2, .bool v_.gone, .string v_.val] 39 (0, 0))]]) _ _ (upd _ 13 (.tuple #[]))
 refine WR.done ?_
 refine WC.rs ?_
 refine mv (v := (pq gw_)) ?_
 refine vb (q_fl 2 fld_39_1 rfl rfl rfl) ?_
 refine vb (q_ldl (i := 1) (v := .slice Av_2 v_.past.length cv_2) rfl rfl Tryz.isAgg37 rfl rfl) ?_
 refine mv (v := (pq gw_)) ?_
 refine vb (q_mkfn (v := .func (.func 172) #[(pq gw_)] #[]) rfl (by kernel_rfl)) ?_
 obtain ⟨z18, hz19, h⟩ := bnd h
 refine e_callB (is := [0]) hB rfl rfl (call_run Tryz.call171 rfl rfl (by kernel_rfl)) rfl (fun w Θ hp hpB hle hleB hR => t_code_put_api_Span_l1 hr17 (hv_.2.2.1.2.mono hleB) hv_.2.2.1.1 hp hpB hz19) ?_
 rintro Γ20 U22 v23 hl21 ⟨row24, rfl, rfl, hr25, _⟩
 change WR _ _ _ (CC F Γ20 [row24, [(g1, .cells #[.int .i64 v_.dot.s, .int .i64 v_.dot.n, .slice Av_2 v_.past.length cv_2, .bool v_.gone, .string v_.val] 39 (0, 0))]]) _ _ (upd _ 19 (.tuple #[]))
 refine WR.done ?_
 refine WC.seq ?_
 refine WC.rs ?_
 refine vb (q_fl 3 fld_39_2 rfl rfl rfl) ?_
 refine vb (q_ldl (i := 1) (v := .bool v_.gone) rfl rfl Tryz.isAgg4 rfl rfl) ?_
 refine WR.done ?_
 refine WC.cif h (by kernel_rfl) (fun hb26 h => ?_) (fun hb26 h => ?_)
 ·
  refine WC.rs ?_
  refine mv (v := (pq gw_)) ?_
  obtain ⟨z27, hz28, h⟩ := bnd h
  refine e_call (is := [0]) rfl rfl (call_run Tryz.call169 rfl rfl (by kernel_rfl)) rfl (fun w hp => t_code_writer_int hr25 1 (show I64 1 by decide) hp hz28) ?_
  rintro Γ29 U31 v32 hl30 ⟨row33, rfl, rfl, hr34, _⟩
  change WR _ _ _ (CC F Γ29 [row33, [(g1, .cells #[.int .i64 v_.dot.s, .int .i64 v_.dot.n, .slice Av_2 v_.past.length cv_2, .bool v_.gone, .string v_.val] 39 (0, 0))]]) _ _ (upd _ 23 (.tuple #[]))
  refine WR.done ?_
  refine WC.ret ?_
  intro w hw
  obtain rfl := Option.some.inj h
  subst hF
  exact end_e (is := [0]) (by kernel_rfl) hw rfl ⟨row33, rfl, rfl, hr34, trivial⟩
 ·
  refine WC.skip ?_
  change WC _ _ _ _ _ _
  refine WC.rs ?_
  refine mv (v := (pq gw_)) ?_
  obtain ⟨z35, hz36, h⟩ := bnd h
  refine e_call (is := [0]) rfl rfl (call_run Tryz.call169 rfl rfl (by kernel_rfl)) rfl (fun w hp => t_code_writer_int hr25 0 (show I64 0 by decide) hp hz36) ?_
  rintro Γ37 U39 v40 hl38 ⟨row41, rfl, rfl, hr42, _⟩
  change WR _ _ _ (CC F Γ37 [row41, [(g1, .cells #[.int .i64 v_.dot.s, .int .i64 v_.dot.n, .slice Av_2 v_.past.length cv_2, .bool v_.gone, .string v_.val] 39 (0, 0))]]) _ _ (upd _ 25 (.tuple #[]))
  refine WR.done ?_
  refine WC.region ?_
  refine mv (v := (pq gw_)) ?_
  refine vb (q_fl 4 fld_39_3 rfl rfl rfl) ?_
  refine vb (q_ldl (i := 1) (v := .string v_.val) rfl rfl Tryz.isAgg9 rfl rfl) ?_
  obtain ⟨z43, hz44, h⟩ := bnd h
  refine e_call (is := [0]) rfl rfl (call_run Tryz.call127 rfl rfl (by kernel_rfl)) rfl (fun w hp => t_code_writer_text hr42 v_.val hv_.2.2.2 hp hz44) ?_
  rintro Γ45 U47 v48 hl46 ⟨row49, rfl, rfl, hr50, _⟩
  change WR _ _ _ (CC F Γ45 [row49, [(g1, .cells #[.int .i64 v_.dot.s, .int .i64 v_.dot.n, .slice Av_2 v_.past.length cv_2, .bool v_.gone, .string v_.val] 39 (0, 0))]]) _ _ (upd _ 29 (.tuple #[]))
  refine WR.nil ?_
  intro w hw
  obtain rfl := Option.some.inj h
  subst hF
  exact end_e (is := [0]) (by kernel_rfl) hw rfl ⟨row49, rfl, rfl, hr50, trivial⟩
abbrev r_code_put_api_Ver_l1 (gw_ : Nat) (ew_ : Nat) (r : Ocode_writer) (U : List Rowb) (Γ : Gh) (v : Value) : Prop := ∃ (roww_' : Rowb), v = .tuple #[] ∧ U = [roww_'] ∧ Ocode_writer.ob ew_ Γ gw_ roww_' r ∧ True
theorem t_code_put_api_Ver_l1 {Γ : Gh} {w0 : World} {B : Gh} {gw_ ew_ : Nat} {roww_ : Rowb} {w_ : Ocode_writer} (hw_ : Ocode_writer.ob ew_ Γ gw_ roww_ w_) {Al : Option Addr} {cl : Nat} {l : List Ver} (hl : Sl verT B Al l) (hlc : l.length ≤ cl) (hp : Pre [roww_] Γ w0) (hpB : Pre [roww_] B w0) {r : Ocode_writer} (h : m_code_put_api_Ver w_ l = some r) : Calls Tryz.prog 128 #[(pq gw_), .slice Al l.length cl, .func (.func 129) #[(pq gw_)] #[]] w0 (Outc Γ [roww_] w0 (r_code_put_api_Ver_l1 gw_ ew_ r)) := by
 refine calls_of (N := 22) (rs := []) (args := [(pq gw_), .slice Al l.length cl, .func (.func 129) #[(pq gw_)] #[]]) Tryz.func128 rfl Tryz.ntmps128 Tryz.results128 rfl ?_
 obtain ⟨F, hF⟩ : ∃ F : Fm, F = ⟨ids [roww_], w0, Γ⟩ := ⟨_, rfl⟩
 refine WC.here (C := CC F Γ [roww_]) ?_ (hF ▸ hp.start)
 have hB : Lent F B := hF ▸ Lent.start hpB
 refine WC.rs ?_
 refine mv (v := (pq gw_)) ?_
 refine mv (v := .slice Al l.length cl) ?_
 refine vb (q_len_slice rfl Tryz.underlying22 rfl) ?_
 obtain ⟨z1, hz2, h⟩ := bnd h
 refine e_call (is := [0]) rfl rfl (call_run Tryz.call169 rfl rfl (by kernel_rfl)) rfl (fun w hp => t_code_writer_int hw_ ((l.length : Nat) : Int) (len_r hl.le) hp hz2) ?_
 rintro Γ3 U5 v6 hl4 ⟨row7, rfl, rfl, hr8, _⟩
 change WR _ _ _ (CC F Γ3 [row7]) _ _ (upd _ 11 (.tuple #[]))
 refine WR.done ?_
 refine WC.rs ?_
 refine mv (v := .slice Al l.length cl) ?_
 refine vb (q_len_slice rfl Tryz.underlying22 rfl) ?_
 refine mv (v := .int .i64 0) ?_
 refine WR.done ?_
 refine WC.block ?_
 refine WC.forI h (fun (i15 : Nat) (o11 : Ocode_writer) σ w => ∃ (Γ9 : Gh), ∃ (row12 : Rowb), slots σ [(2, .func (.func 129) #[(pq gw_)] #[]), (12, .slice Al l.length cl), (13, .int .i64 ((l.length : Nat) : Int)), (14, .int .i64 ((i15 : Nat) : Int))] ∧ CC F Γ9 [row12] w ∧ Gh.le Γ3 Γ9 ∧ Ocode_writer.ob ew_ Γ9 gw_ row12 o11 ∧ True) ?_ ?_
 ·
  intro w hw
  exact ⟨Γ3, row7, (sl_ (by kernel_rfl)), hw, (Gh.refl _), hr8, trivial⟩
 rintro f14 i15 o11 σ w hi16 hlt17 hge18 ⟨Γ9, row12, hsl, hw, hl10, ho13, -⟩
 refine Wpt.slots hsl ?_
 refine WC.here (C := CC F Γ9 [row12]) ?_ hw
 clear hw hsl
 refine WC.rs ?_
 refine vb (q_lss rfl rfl rfl) ?_
 refine WR.done ?_
 refine WC.seq ?_
 refine WC.cond (b := (decide (((i15 : Nat) : Int) < ((l.length : Nat) : Int)))) (by kernel_rfl) (fun hb19 => ?_) (fun hb19 => ?_)
 ·
  have hl20 := ilt hb19
  have h := hlt17 hl20
  refine WC.skip ?_
  change WC _ _ _ _ _ _
  refine WC.seq ?_
  refine WC.block ?_
  refine WC.rs ?_
  refine vb (q_ixn (i := i15) Tryz.underlying22 Tryz.sizeOf39 rfl rfl rfl hl20 (hl.some_ hl20)) ?_
  obtain ⟨A21, c22, hx23⟩ := hl.verT_at i15
  refine vb (q_ldaS (c := 0) (vs := [.int .i64 (gt l i15).dot.s, .int .i64 (gt l i15).dot.n, .slice A21 ((gt l i15).past).length c22, .bool (gt l i15).gone, .string (gt l i15).val]) (fun w hw => hB.sat hw) (hx23 hl20).2 rfl Tryz.isAgg39 Tryz.sizeOf39 rfl rfl rfl) ?_
  refine e_alloc Tryz.zeroValue39 rfl rfl rfl rfl ?_
  intro g24
  refine e_st (i := 0) (v := .agg #[.int .i64 (gt l i15).dot.s, .int .i64 (gt l i15).dot.n, .slice A21 ((gt l i15).past).length c22, .bool (gt l i15).gone, .string (gt l i15).val]) (new := #[.int .i64 (gt l i15).dot.s, .int .i64 (gt l i15).dot.n, .slice A21 ((gt l i15).past).length c22, .bool (gt l i15).gone, .string (gt l i15).val]) rfl Tryz.sizeOf39 rfl rfl rfl rfl (by kernel_rfl) rfl rfl rfl rfl ?_
  refine WR.done ?_
  refine WC.region ?_
  refine mv (v := .func (.func 129) #[(pq gw_)] #[]) ?_
  refine vb (q_ldla (i := 0) (vs := [.int .i64 (gt l i15).dot.s, .int .i64 (gt l i15).dot.n, .slice A21 ((gt l i15).past).length c22, .bool (gt l i15).gone, .string (gt l i15).val]) rfl rfl Tryz.isAgg39 Tryz.sizeOf39 rfl rfl) ?_
  obtain ⟨z25, hz26, h⟩ := bnd h
  refine e_callB (is := [1]) hB rfl rfl (call_run_fb (first := #[(pq gw_)]) Tryz.call129 rfl (by kernel_rfl) (by kernel_rfl)) rfl (fun w Θ hp hpB hle hleB hR => t_code_writer_ver_l1 ho13 (gt l i15) (Ver.fits_mono (hx23 hl20).1 hleB) hp hpB hz26) ?_
  rintro Γ27 U29 v30 hl28 ⟨row31, rfl, rfl, hr32, _⟩
  change WR _ _ _ (CC F Γ27 [row31, [(g24, .cells #[.int .i64 (gt l i15).dot.s, .int .i64 (gt l i15).dot.n, .slice A21 ((gt l i15).past).length c22, .bool (gt l i15).gone, .string (gt l i15).val] 39 (0, 0))]]) _ _ (upd _ 20 (.tuple #[]))
  refine WR.nil ?_
  change WC _ _ _ _ _ _
  refine WC.region ?_
  refine vb (q_add_r (r := ((i15 + 1 : Nat) : Int)) rfl rfl rfl (ctr_len hl20 hl.le)) ?_
  refine mv (v := .int .i64 ((i15 + 1 : Nat) : Int)) ?_
  refine WR.nil ?_
  intro w hw
  exact ⟨hl20, z25, h, Γ27, row31, (sl_ (by kernel_rfl)), (hw.only (is := [0]) rfl), (hl10.trans hl28), hr32, trivial⟩
 ·
  have h := hge18 (ige hb19)
  refine WC.exit ?_
  intro w hw
  obtain rfl := Option.some.inj h
  subst hF
  exact end_e (is := [0]) (by kernel_rfl) hw rfl ⟨row12, rfl, rfl, ho13, trivial⟩
abbrev r_code_writer_rec_l1 (gw_ : Nat) (ew_ : Nat) (r : Ocode_writer) (U : List Rowb) (Γ : Gh) (v : Value) : Prop := ∃ (roww_' : Rowb), v = .tuple #[] ∧ U = [roww_'] ∧ Ocode_writer.ob ew_ Γ gw_ roww_' r ∧ True
theorem t_code_writer_rec_l1 {Γ : Gh} {w0 : World} {B : Gh} {gw_ ew_ : Nat} {roww_ : Rowb} {w_ : Ocode_writer} (hw_ : Ocode_writer.ob ew_ Γ gw_ roww_ w_) {Ar_1 : Option Addr} {cr_1 : Nat} (r_ : Rec) (hr_ : Rec.fits B Ar_1 cr_1 r_) (hp : Pre [roww_] Γ w0) (hpB : Pre [roww_] B w0) {r : Ocode_writer} (h : m_code_writer_rec w_ r_ = some r) : Calls Tryz.prog 80 #[(pq gw_), .agg #[.string r_.key, .slice Ar_1 r_.vers.length cr_1]] w0 (Outc Γ [roww_] w0 (r_code_writer_rec_l1 gw_ ew_ r)) := by
 refine calls_of (N := 14) (rs := []) (args := [(pq gw_), .agg #[.string r_.key, .slice Ar_1 r_.vers.length cr_1]]) Tryz.func80 rfl Tryz.ntmps80 Tryz.results80 rfl ?_
 obtain ⟨F, hF⟩ : ∃ F : Fm, F = ⟨ids [roww_], w0, Γ⟩ := ⟨_, rfl⟩
 refine WC.here (C := CC F Γ [roww_]) ?_ (hF ▸ hp.start)
 have hB : Lent F B := hF ▸ Lent.start hpB
 refine WC.rs ?_
 refine e_box (v := .agg #[.string r_.key, .slice Ar_1 r_.vers.length cr_1]) rfl rfl rfl rfl (by kernel_rfl) ?_
 intro g1
 refine WR.done ?_
 refine WC.rs ?_
 refine mv (v := (pq gw_)) ?_
 refine vb (q_fl 0 fld_24_0 rfl rfl rfl) ?_
 refine vb (q_ldl (i := 0) (v := .string r_.key) rfl rfl Tryz.isAgg9 rfl rfl) ?_
 obtain ⟨z2, hz3, h⟩ := bnd h
 refine e_call (is := [1]) rfl rfl (call_run Tryz.call127 rfl rfl (by kernel_rfl)) rfl (fun w hp => t_code_writer_text hw_ r_.key hr_.1 hp hz3) ?_
 rintro Γ4 U6 v7 hl5 ⟨row8, rfl, rfl, hr9, _⟩
 change WR _ _ _ (CC F Γ4 [row8, [(g1, .cells #[.string r_.key, .slice Ar_1 r_.vers.length cr_1] 24 (0, 0))]]) _ _ (upd _ 7 (.tuple #[]))
 refine WR.done ?_
 refine WC.region ?_
 refine mv (v := (pq gw_)) ?_
 refine vb (q_fl 1 fld_24_1 rfl rfl rfl) ?_
 refine vb (q_ldl (i := 1) (v := .slice Ar_1 r_.vers.length cr_1) rfl rfl Tryz.isAgg22 rfl rfl) ?_
 refine mv (v := (pq gw_)) ?_
 refine vb (q_mkfn (v := .func (.func 129) #[(pq gw_)] #[]) rfl (by kernel_rfl)) ?_
 obtain ⟨z10, hz11, h⟩ := bnd h
 refine e_callB (is := [0]) hB rfl rfl (call_run Tryz.call128 rfl rfl (by kernel_rfl)) rfl (fun w Θ hp hpB hle hleB hR => t_code_put_api_Ver_l1 hr9 (hr_.2.2.mono hleB) hr_.2.1 hp hpB hz11) ?_
 rintro Γ12 U14 v15 hl13 ⟨row16, rfl, rfl, hr17, _⟩
 change WR _ _ _ (CC F Γ12 [row16, [(g1, .cells #[.string r_.key, .slice Ar_1 r_.vers.length cr_1] 24 (0, 0))]]) _ _ (upd _ 13 (.tuple #[]))
 refine WR.nil ?_
 intro w hw
 obtain rfl := Option.some.inj h
 subst hF
 exact end_e (is := [0]) (by kernel_rfl) hw rfl ⟨row16, rfl, rfl, hr17, trivial⟩
abbrev r_code_PutRec_l1 (r : (List UInt8) × Int) (U : List Rowb) (Γ : Gh) (v : Value) : Prop := ∃ (A0 : Option Addr), ∃ (c0 : Nat), ∃ (row0 : Rowb), v = .tuple #[.slice A0 r.1.length c0, .int .i64 r.2] ∧ U = [row0] ∧ Own byteT Γ 5 row0 A0 c0 r.1 ∧ I64 r.2 ∧ True
theorem t_code_PutRec_l1 {Γ : Gh} {w0 : World} {B : Gh} {Ar_1 : Option Addr} {cr_1 : Nat} (r_ : Rec) (hr_ : Rec.fits B Ar_1 cr_1 r_) (hp : Pre [] Γ w0) (hpB : Pre [] B w0) {r : (List UInt8) × Int} (h : m_code_PutRec r_ = some r) : Calls Tryz.prog 36 #[.agg #[.string r_.key, .slice Ar_1 r_.vers.length cr_1]] w0 (Outc Γ [] w0 (r_code_PutRec_l1 r)) := by
 refine calls_of (N := 17) (rs := [2, 3]) (args := [.agg #[.string r_.key, .slice Ar_1 r_.vers.length cr_1]]) Tryz.func36 rfl Tryz.ntmps36 Tryz.results36 rfl ?_
 obtain ⟨F, hF⟩ : ∃ F : Fm, F = ⟨ids [], w0, Γ⟩ := ⟨_, rfl⟩
 refine WC.here (C := CC F Γ []) ?_ (hF ▸ hp.start)
 have hB : Lent F B := hF ▸ Lent.start hpB
 refine WC.rs ?_
 refine e_box (v := .agg #[.string r_.key, .slice Ar_1 r_.vers.length cr_1]) rfl rfl rfl rfl (by kernel_rfl) ?_
 intro g1
 refine as_ (v := .slice none 0 0) ?_
 refine as_ (v := .int .i64 0) ?_
 refine WR.done ?_
 refine WC.seq ?_
 refine WC.rs ?_
 refine vb (q_ldla (i := 0) (vs := [.string r_.key, .slice Ar_1 r_.vers.length cr_1]) rfl rfl Tryz.isAgg24 Tryz.sizeOf24 rfl rfl) ?_
 obtain ⟨z2, hz3, h⟩ := bnd h
 refine vc rfl rfl rfl (q_call (call_run Tryz.call79 rfl rfl (by kernel_rfl)) (fun w hw => t_code_RightRec (Γ := Gh.all w) r_ (Rec.fits_mono hr_ ((fun w hw => hB.sat hw) w hw).le_all) (Sat.all w) hz3)) ?_
 refine vb (q_not rfl rfl) ?_
 refine WR.done ?_
 refine WC.cif h (by kernel_rfl) (fun hb4 h => ?_) (fun hb4 h => ?_)
 ·
  refine WC.rs ?_
  refine as_ (v := .slice none 0 0) ?_
  refine as_ (v := .int .i64 1) ?_
  refine WR.done ?_
  refine WC.ret ?_
  intro w hw
  have hw := hw.pad
  obtain rfl := Option.some.inj h
  subst hF
  exact end_e (is := [0]) (by kernel_rfl) hw rfl ⟨none, 0, [], rfl, rfl, (Own.nil byteT _ 5), (show I64 1 by decide), trivial⟩
 ·
  refine WC.skip ?_
  change WC _ _ _ _ _ _
  refine WC.rs ?_
  refine vb (q_build (v := .agg #[.slice none 0 0]) rfl (fun w => by kernel_rfl)) ?_
  refine e_box (v := .agg #[.slice none 0 0]) rfl rfl rfl rfl (by kernel_rfl) ?_
  intro g5
  refine as_ (v := (pq g5)) ?_
  refine WR.done ?_
  refine WC.rs ?_
  refine mv (v := (pq g5)) ?_
  refine vb (q_ldla (i := 1) (vs := [.string r_.key, .slice Ar_1 r_.vers.length cr_1]) rfl rfl Tryz.isAgg24 Tryz.sizeOf24 rfl rfl) ?_
  refine WR.sub (fun w hw => hw.pad) ?_
  obtain ⟨row_6, hrow_6, hob_6⟩ : ∃ rw : Rowb, rw = ([[(g5, .cells #[.slice none 0 0] 154 (0, 0))], []] : List Rowb).flatten ∧ Ocode_writer.ob 154 Γ g5 rw (⟨[]⟩ : Ocode_writer) := ⟨_, rfl, none, 0, [], rfl, (Own.nil byteT Γ 5), trivial⟩
  intro w hw; have hw := hw.fold (is := [1, 0]) rfl hrow_6
  refine WR.here (C := CC F Γ [row_6, [(g1, .cells #[.string r_.key, .slice Ar_1 r_.vers.length cr_1] 24 (0, 0))]]) ?_ hw
  clear hw
  obtain ⟨z7, hz8, h⟩ := bnd h
  refine e_callB (is := [0]) hB rfl rfl (call_run Tryz.call80 rfl rfl (by kernel_rfl)) rfl (fun w Θ hp hpB hle hleB hR => t_code_writer_rec_l1 hob_6 r_ (Rec.fits_mono hr_ hleB) hp hpB hz8) ?_
  rintro Γ9 U11 v12 hl10 ⟨row13, rfl, rfl, hr14, _⟩
  change WR _ _ _ (CC F Γ9 [row13, [(g1, .cells #[.string r_.key, .slice Ar_1 r_.vers.length cr_1] 24 (0, 0))]]) _ _ (upd _ 12 (.tuple #[]))
  refine WR.done ?_
  refine WC.rs ?_
  refine mv (v := (pq g5)) ?_
  refine vb (q_nil (A := some ⟨g5, 0, none⟩) rfl rfl rfl) ?_
  refine vb (q_fl 0 fld_154_0 rfl rfl rfl) ?_
  have hq := hr14
  obtain ⟨A0_15, c0_15, r0_15, hrow_15, ho0_15, -⟩ := hq
  intro w hw; have hw := hw.unfold (i := 0) rfl hrow_15
  refine WR.here (C := CC F Γ9 [[(g5, .cells #[.slice A0_15 z7.b.length c0_15] 154 (0, 0))], r0_15, [(g1, .cells #[.string r_.key, .slice Ar_1 r_.vers.length cr_1] 24 (0, 0))]]) ?_ hw
  clear hw
  refine vb (q_ldl (i := 0) (v := .slice A0_15 z7.b.length c0_15) rfl rfl Tryz.isAgg51 rfl rfl) ?_
  refine as_ (v := .slice A0_15 z7.b.length c0_15) ?_
  refine as_ (v := .int .i64 0) ?_
  refine WR.done ?_
  refine WC.ret ?_
  intro w hw
  obtain rfl := Option.some.inj h
  subst hF
  exact end_e (is := [1]) (by kernel_rfl) hw rfl ⟨A0_15, c0_15, r0_15, rfl, rfl, ho0_15, (show I64 0 by decide), trivial⟩
abbrev r_store_Store_lay_l1 (gs_ : Nat) (es_ : Nat × Nat) (r : Ostore_Store) (U : List Rowb) (Γ : Gh) (v : Value) : Prop := ∃ (rows_' : Rowb), v = .tuple #[] ∧ U = [rows_'] ∧ Ostore_Store.ob es_ Γ gs_ rows_' r ∧ True
theorem t_store_Store_lay_l1 {Γ : Gh} {w0 : World} {B : Gh} {gs_ : Nat} {es_ : Nat × Nat} {rows_ : Rowb} {s_ : Ostore_Store} (hs_ : Ostore_Store.ob es_ Γ gs_ rows_ s_) {Ar_1 : Option Addr} {cr_1 : Nat} (r_ : Rec) (hr_ : Rec.fits B Ar_1 cr_1 r_) {Ab : Option Addr} {cb : Nat} {b : List UInt8} (hb : Sl byteT Γ Ab b) (hbc : b.length ≤ cb) (hp : Pre [rows_] Γ w0) (hpB : Pre [rows_] B w0) {r : Ostore_Store} (h : m_store_Store_lay s_ r_ b = some r) : Calls Tryz.prog 35 #[(pq gs_), .agg #[.string r_.key, .slice Ar_1 r_.vers.length cr_1], .slice Ab b.length cb] w0 (Outc Γ [rows_] w0 (r_store_Store_lay_l1 gs_ es_ r)) := by
 refine calls_of (N := 23) (rs := []) (args := [(pq gs_), .agg #[.string r_.key, .slice Ar_1 r_.vers.length cr_1], .slice Ab b.length cb]) Tryz.func35 rfl Tryz.ntmps35 Tryz.results35 rfl ?_
 obtain ⟨F, hF⟩ : ∃ F : Fm, F = ⟨ids [rows_], w0, Γ⟩ := ⟨_, rfl⟩
 refine WC.here (C := CC F Γ [rows_]) ?_ (hF ▸ hp.start)
 have hB : Lent F B := hF ▸ Lent.start hpB
 refine WC.rs ?_
 refine e_box (v := .agg #[.string r_.key, .slice Ar_1 r_.vers.length cr_1]) rfl rfl rfl rfl (by kernel_rfl) ?_
 intro g1
 refine WR.done ?_
 refine WC.seq ?_
 intro w hw; have h02 := hw.le
 refine WC.here (C := CC F Γ [[(g1, .cells #[.string r_.key, .slice Ar_1 r_.vers.length cr_1] 24 (0, 0))], rows_]) ?_ hw; clear hw
 refine WC.held (CC F Γ [[(g1, .cells #[.string r_.key, .slice Ar_1 r_.vers.length cr_1] 24 (0, 0))]]) (by kernel_rfl) (fun w hw => hw.drawn _) ?_
 change WH _ _ _ _ (CC F Γ [[(g1, .cells #[.string r_.key, .slice Ar_1 r_.vers.length cr_1] 24 (0, 0))], rows_]) _ 7 #[false, false, false, false, false, false, false] _
 refine hu 0 rfl (bk_ (Gh.refl _) h02 (.cons_cons _ (.cons _ .slnil))) (q_move (v := (pq gs_)) rfl (by kernel_rfl)) ?_
 refine hu 1 rfl (bk_ (Gh.refl _) h02 (.cons_cons _ (.cons _ .slnil))) (q_nil (A := some ⟨gs_, 0, none⟩) rfl rfl rfl) ?_
 refine hu 2 rfl (bk_ (Gh.refl _) h02 (.cons_cons _ (.cons _ .slnil))) (q_fl 1 fld_86_1 rfl rfl rfl) ?_
 refine hu 4 rfl (bk_ (Gh.refl _) h02 (.cons_cons _ (.cons _ .slnil))) (q_fl 0 fld_24_0 rfl rfl rfl) ?_
 refine hu 5 rfl (bk_ (Gh.refl _) h02 (.cons_cons _ (.cons _ .slnil))) (q_ldl (i := 0) (v := .string r_.key) rfl rfl Tryz.isAgg9 rfl rfl) ?_
 refine WH.lone (i := 3) (by kernel_rfl) rfl ?_
 have hq := hs_
 obtain ⟨g0_3, r0_3, m1_3, r1_3, hrow_3, ho0_3, ho1_3, -⟩ := hq
 intro w hw; have hw := hw.unfold (i := 1) rfl hrow_3
 refine WR.here (C := CC F Γ [[(gs_, .cells #[(pq g0_3), .map (some m1_3)] es_.1 (0, 0))], r0_3, r1_3, [(g1, .cells #[.string r_.key, .slice Ar_1 r_.vers.length cr_1] 24 (0, 0))]]) ?_ hw
 clear hw
 refine vb (q_ldl (i := 0) (v := .map (some m1_3)) rfl rfl Tryz.isAgg76 rfl rfl) ?_
 refine WR.nil ?_
 refine WH.next (bk_ (Gh.refl _) h02 (.cons _ (.cons _ (.cons _ (.cons_cons _ .slnil))))) ?_
 refine WH.lone (i := 6) (by kernel_rfl) rfl ?_
 refine e_delete (i := 2) (x := r_.key) rfl ho1_3 rfl rfl rfl Tryz.underlying76 rfl rfl ?_
 intro row4 hm5
 refine WR.nil ?_
 refine WH.next (bk_ (Gh.refl _) h02 (.cons _ (.cons _ (.cons _ (.cons_cons _ .slnil))))) ?_
 refine WH.done (by kernel_rfl) ?_
 change WC _ _ _ _ _ _
 refine WC.rs ?_
 refine vb (q_fl 1 fld_24_1 rfl rfl rfl) ?_
 refine vb (q_ldl (i := 3) (v := .slice Ar_1 r_.vers.length cr_1) rfl rfl Tryz.isAgg22 rfl rfl) ?_
 refine vb (q_len_slice rfl Tryz.underlying22 rfl) ?_
 refine vb (q_gtr rfl rfl rfl) ?_
 refine WR.done ?_
 refine WC.cif h (by kernel_rfl) (fun hb6 h => ?_) (fun hb6 h => ?_)
 ·
  intro w hw; have h07 := hw.le
  refine WC.here (C := CC F Γ [[(gs_, .cells #[(pq g0_3), .map (some m1_3)] es_.1 (0, 0))], r0_3, row4, [(g1, .cells #[.string r_.key, .slice Ar_1 r_.vers.length cr_1] 24 (0, 0))]]) ?_ hw; clear hw
  refine WC.held (CC F Γ [[(gs_, .cells #[(pq g0_3), .map (some m1_3)] es_.1 (0, 0))], [(g1, .cells #[.string r_.key, .slice Ar_1 r_.vers.length cr_1] 24 (0, 0))]]) (by kernel_rfl) (fun w hw => hw.drawn _) ?_
  change WH _ _ _ _ (CC F Γ [[(gs_, .cells #[(pq g0_3), .map (some m1_3)] es_.1 (0, 0))], r0_3, row4, [(g1, .cells #[.string r_.key, .slice Ar_1 r_.vers.length cr_1] 24 (0, 0))]]) _ 8 #[false, false, false, false, false, false, false, false] _
  refine hu 0 rfl (bk_ (Gh.refl _) h07 (.cons_cons _ (.cons _ (.cons _ (.cons_cons _ .slnil))))) (q_move (v := (pq gs_)) rfl (by kernel_rfl)) ?_
  refine hu 1 rfl (bk_ (Gh.refl _) h07 (.cons_cons _ (.cons _ (.cons _ (.cons_cons _ .slnil))))) (q_nil (A := some ⟨gs_, 0, none⟩) rfl rfl rfl) ?_
  refine hu 2 rfl (bk_ (Gh.refl _) h07 (.cons_cons _ (.cons _ (.cons _ (.cons_cons _ .slnil))))) (q_fl 1 fld_86_1 rfl rfl rfl) ?_
  refine hu 3 rfl (bk_ (Gh.refl _) h07 (.cons_cons _ (.cons _ (.cons _ (.cons_cons _ .slnil))))) (q_ldl (i := 0) (v := .map (some m1_3)) rfl rfl Tryz.isAgg76 rfl rfl) ?_
  refine hu 4 rfl (bk_ (Gh.refl _) h07 (.cons_cons _ (.cons _ (.cons _ (.cons_cons _ .slnil))))) (q_fl 0 fld_24_0 rfl rfl rfl) ?_
  refine hu 5 rfl (bk_ (Gh.refl _) h07 (.cons_cons _ (.cons _ (.cons _ (.cons_cons _ .slnil))))) (q_ldl (i := 1) (v := .string r_.key) rfl rfl Tryz.isAgg9 rfl rfl) ?_
  refine hu 6 rfl (bk_ (Gh.refl _) h07 (.cons_cons _ (.cons _ (.cons _ (.cons_cons _ .slnil))))) (q_move (v := .slice Ab b.length cb) rfl (by kernel_rfl)) ?_
  refine WH.lone (i := 7) (by kernel_rfl) rfl ?_
  refine e_mapUpdate (i := 2) (x := r_.key) (v := .slice Ab b.length cb) (a := b) rfl rfl rfl Tryz.underlying76 rfl rfl (by kernel_rfl) rfl hm5 (by exact ⟨Ab, cb, rfl, hbc, hb⟩) hr_.1 ?_
  intro row8 hm9
  refine WR.nil ?_
  refine WH.next (bk_ (Gh.refl _) h07 (.cons_cons _ (.cons _ (.cons _ (.cons_cons _ .slnil))))) ?_
  refine WH.done (by kernel_rfl) ?_
  intro w hw
  obtain ⟨row_10, hrow_10, hob_10⟩ : ∃ rw : Rowb, rw = ([[(gs_, .cells #[(pq g0_3), .map (some m1_3)] es_.1 (0, 0))], r0_3, row8] : List Rowb).flatten ∧ Ostore_Store.ob es_ Γ gs_ rw (⟨s_.log, (mput r_.key b (mdel r_.key s_.keys))⟩ : Ostore_Store) := ⟨_, rfl, g0_3, r0_3, m1_3, row8, rfl, ho0_3, hm9, trivial⟩
  have hw := hw.fold (is := [0, 0, 0]) rfl hrow_10
  obtain rfl := Option.some.inj h
  subst hF
  exact end_e (is := [0]) (by kernel_rfl) hw rfl ⟨row_10, rfl, rfl, hob_10, trivial⟩
 ·
  refine WC.skip ?_
  intro w hw
  obtain ⟨row_11, hrow_11, hob_11⟩ : ∃ rw : Rowb, rw = ([[(gs_, .cells #[(pq g0_3), .map (some m1_3)] es_.1 (0, 0))], r0_3, row4] : List Rowb).flatten ∧ Ostore_Store.ob es_ Γ gs_ rw (⟨s_.log, (mdel r_.key s_.keys)⟩ : Ostore_Store) := ⟨_, rfl, g0_3, r0_3, m1_3, row4, rfl, ho0_3, hm5, trivial⟩
  have hw := hw.fold (is := [0, 0, 0]) rfl hrow_11
  obtain rfl := Option.some.inj h
  subst hF
  exact end_e (is := [0]) (by kernel_rfl) hw rfl ⟨row_11, rfl, rfl, hob_11, trivial⟩
abbrev r_store_Store_Put_l1 (gs_ : Nat) (es_ : Nat × Nat) (edk0 : Nat) (r : Ostore_Store × Odisk_Disk × Int) (U : List Rowb) (Γ : Gh) (v : Value) : Prop := ∃ (rows_' : Rowb), ∃ (rowdk0' : Rowb), v = .int .i64 r.2.2 ∧ U = [rows_', rowdk0'] ∧ Ostore_Store.ob es_ Γ gs_ rows_' r.1 ∧ Odisk_Disk.ob edk0 Γ es_.2 rowdk0' r.2.1 ∧ I64 r.2.2 ∧ True
theorem t_store_Store_Put_l1 {Γ : Gh} {w0 : World} {B : Gh} {gs_ : Nat} {es_ : Nat × Nat} {rows_ : Rowb} {s_ : Ostore_Store} (hs_ : Ostore_Store.ob es_ Γ gs_ rows_ s_) {Ar_1 : Option Addr} {cr_1 : Nat} (r_ : Rec) (hr_ : Rec.fits B Ar_1 cr_1 r_) {edk0 : Nat} {rowdk0 : Rowb} {dk0 : Odisk_Disk} (hdk0 : Odisk_Disk.ob edk0 Γ es_.2 rowdk0 dk0) (hp : Pre [rows_, rowdk0] Γ w0) (hpB : Pre [rows_, rowdk0] B w0) {r : Ostore_Store × Odisk_Disk × Int} (h : m_store_Store_Put s_ r_ dk0 = some r) : Calls Tryz.prog 11 #[(pq gs_), .agg #[.string r_.key, .slice Ar_1 r_.vers.length cr_1]] w0 (Outc Γ [rows_, rowdk0] w0 (r_store_Store_Put_l1 gs_ es_ edk0 r)) := by
 refine calls_of (N := 32) (rs := [4]) (args := [(pq gs_), .agg #[.string r_.key, .slice Ar_1 r_.vers.length cr_1]]) Tryz.func11 rfl Tryz.ntmps11 Tryz.results11 rfl ?_
 obtain ⟨F, hF⟩ : ∃ F : Fm, F = ⟨ids [rows_, rowdk0], w0, Γ⟩ := ⟨_, rfl⟩
 refine WC.here (C := CC F Γ [rows_, rowdk0]) ?_ (hF ▸ hp.start)
 have hB : Lent F B := hF ▸ Lent.start hpB
 refine WC.rs ?_
 refine e_box (v := .agg #[.string r_.key, .slice Ar_1 r_.vers.length cr_1]) rfl rfl rfl rfl (by kernel_rfl) ?_
 intro g1
 refine as_ (v := .int .i64 0) ?_
 refine WR.done ?_
 refine WC.rs ?_
 refine vb (q_ldla (i := 0) (vs := [.string r_.key, .slice Ar_1 r_.vers.length cr_1]) rfl rfl Tryz.isAgg24 Tryz.sizeOf24 rfl rfl) ?_
 obtain ⟨z2, hz3, h⟩ := bnd h
 refine e_callB (is := []) hB rfl rfl (call_run Tryz.call36 rfl rfl (by kernel_rfl)) rfl (fun w Θ hp hpB hle hleB hR => t_code_PutRec_l1 r_ (Rec.fits_mono hr_ hleB) hp hpB hz3) ?_
 rintro Γ4 U6 v7 hl5 ⟨A8, c9, row10, rfl, rfl, hr11, hr12, _⟩
 change WR _ _ _ (CC F Γ4 [row10, [(g1, .cells #[.string r_.key, .slice Ar_1 r_.vers.length cr_1] 24 (0, 0))], rows_, rowdk0]) _ _ (upd _ 9 (.tuple #[.slice A8 z2.1.length c9, .int .i64 z2.2]))
 refine mv (v := .tuple #[.slice A8 z2.1.length c9, .int .i64 z2.2]) ?_
 refine vb (q_extract (v := .slice A8 z2.1.length c9) rfl rfl rfl) ?_
 refine vb (q_extract (v := .int .i64 z2.2) rfl rfl rfl) ?_
 refine as_ (v := .slice A8 z2.1.length c9) ?_
 refine as_ (v := .int .i64 z2.2) ?_
 refine WR.done ?_
 refine WC.cut (fun σ w => ∃ (b_15 : List UInt8), ∃ (e_20 : Int), ∃ (o22 : Ostore_Store), ∃ (o25 : Odisk_Disk), ∃ (Γ13 : Gh), ∃ (A16 : Option Addr), ∃ (c17 : Nat), ∃ (row23 : Rowb), ∃ (row26 : Rowb), m_store_Store_Put_j1 r_ b_15 e_20 o22 o25 = some r ∧ slots σ [(0, (pq gs_)), (3, (pq g1)), (5, .slice A16 b_15.length c17), (6, .int .i64 e_20)] ∧ CC F Γ13 [[(g1, .cells #[.string r_.key, .slice Ar_1 r_.vers.length cr_1] 24 (0, 0))], row23, row26] w ∧ Gh.le Γ4 Γ13 ∧ b_15.length ≤ c17 ∧ Sl byteT Γ13 A16 b_15 ∧ I64 e_20 ∧ Ostore_Store.ob es_ Γ13 gs_ row23 o22 ∧ Odisk_Disk.ob edk0 Γ13 es_.2 row26 o25 ∧ True) ?_ ?_
 ·
  refine WC.rs ?_
  refine mv (v := .int .i64 z2.2) ?_
  refine vb (q_eql rfl rfl rfl) ?_
  refine WR.done ?_
  refine WC.cif h (by kernel_rfl) (fun hb28 h => ?_) (fun hb28 h => ?_)
  ·
   refine WC.region ?_
   refine mv (v := (pq gs_)) ?_
   refine vb (q_nil (A := some ⟨gs_, 0, none⟩) rfl rfl rfl) ?_
   refine vb (q_fl 0 fld_86_0 rfl rfl rfl) ?_
   have hq := (hs_.mono hl5)
   obtain ⟨g0_29, r0_29, m1_29, r1_29, hrow_29, ho0_29, ho1_29, -⟩ := hq
   intro w hw; have hw := hw.unfold (i := 2) rfl hrow_29
   refine WR.here (C := CC F Γ4 [[(gs_, .cells #[(pq g0_29), .map (some m1_29)] es_.1 (0, 0))], r0_29, r1_29, row10, [(g1, .cells #[.string r_.key, .slice Ar_1 r_.vers.length cr_1] 24 (0, 0))], rowdk0]) ?_ hw
   clear hw
   refine vb (q_ldl (i := 0) (v := (pq g0_29)) rfl rfl Tryz.isAgg81 rfl rfl) ?_
   refine mv (v := .slice A8 z2.1.length c9) ?_
   have hc34 := hr11.capz
   intro w hw; obtain ⟨Γ30, hw, hl31, hr32⟩ := hw.seal (i := 3) rfl; have hs33 := hr11.sl hl31 hr32
   refine WR.here (C := CC F Γ30 [[(gs_, .cells #[(pq g0_29), .map (some m1_29)] es_.1 (0, 0))], r0_29, r1_29, [], [(g1, .cells #[.string r_.key, .slice Ar_1 r_.vers.length cr_1] 24 (0, 0))], rowdk0]) ?_ hw
   clear hw
   obtain ⟨z35, hz36, h⟩ := bnd h
   refine e_call (is := [1, 4]) rfl rfl (call_run Tryz.call37 rfl rfl (by kernel_rfl)) rfl (fun w hp => t_seglog_Log_Append (ho0_29.mono hl31) hs33 hc34 (hdk0.mono (hl5.trans hl31)) hp hz36) ?_
   rintro Γ37 U39 v40 hl38 ⟨row41, row43, rfl, rfl, hr42, hr44, hr45, _⟩
   change WR _ _ _ (CC F Γ37 [row41, row43, [(gs_, .cells #[(pq g0_29), .map (some m1_29)] es_.1 (0, 0))], r1_29, [], [(g1, .cells #[.string r_.key, .slice Ar_1 r_.vers.length cr_1] 24 (0, 0))]]) _ _ (upd _ 19 (.int .i64 z35.2.2))
   refine as_ (v := .int .i64 z35.2.2) ?_
   refine WR.nil ?_
   intro w hw
   obtain ⟨row_46, hrow_46, hob_46⟩ : ∃ rw : Rowb, rw = ([[(gs_, .cells #[(pq g0_29), .map (some m1_29)] es_.1 (0, 0))], row41, r1_29] : List Rowb).flatten ∧ Ostore_Store.ob es_ Γ37 gs_ rw (⟨z35.1, s_.keys⟩ : Ostore_Store) := ⟨_, rfl, g0_29, row41, m1_29, r1_29, rfl, hr42, (ho1_29.mono (hl31.trans hl38)), trivial⟩
   have hw := hw.fold (is := [2, 0, 1]) rfl hrow_46
   exact ⟨z2.1, z35.2.2, (⟨z35.1, s_.keys⟩ : Ostore_Store), z35.2.1, Γ37, A8, c9, row_46, row43, h, (sl_ (by kernel_rfl)), (hw.only (is := [3, 0, 0]) rfl), (hl31.trans hl38), hc34, (hs33.mono hl38), hr45, hob_46, hr44, trivial⟩
  ·
   refine WC.skip ?_
   intro w hw
   have hc51 := hr11.capz
   obtain ⟨Γ47, hw, hl48, hr49⟩ := hw.seal (i := 0) rfl; have hs50 := hr11.sl hl48 hr49
   exact ⟨z2.1, z2.2, s_, dk0, Γ47, A8, c9, rows_, rowdk0, h, (sl_ (by kernel_rfl)), (hw.only (is := [1, 1, 1]) rfl), hl48, hc51, hs50, hr12, (hs_.mono (hl5.trans hl48)), (hdk0.mono (hl5.trans hl48)), trivial⟩
 ·
  rintro σ w ⟨b_15, e_20, o22, o25, Γ13, A16, c17, row23, row26, h, hsl, hw, hl14, hc19, hs18, hr21, ho24, ho27, -⟩
  refine Wpt.slots hsl ?_
  refine WC.here (C := CC F Γ13 [[(g1, .cells #[.string r_.key, .slice Ar_1 r_.vers.length cr_1] 24 (0, 0))], row23, row26]) ?_ hw
  clear hw hsl
  refine WC.seq ?_
  refine WC.rs ?_
  refine mv (v := .int .i64 e_20) ?_
  refine vb (q_neq rfl rfl rfl) ?_
  refine WR.done ?_
  refine WC.cif h (by kernel_rfl) (fun hb52 h => ?_) (fun hb52 h => ?_)
  ·
   refine WC.rs ?_
   refine mv (v := .int .i64 e_20) ?_
   refine as_ (v := .int .i64 e_20) ?_
   refine WR.done ?_
   refine WC.ret ?_
   intro w hw
   obtain rfl := Option.some.inj h
   subst hF
   exact end_e (is := [1, 1]) (by kernel_rfl) hw rfl ⟨row23, row26, rfl, rfl, ho24, ho27, hr21, trivial⟩
  ·
   refine WC.skip ?_
   change WC _ _ _ _ _ _
   refine WC.rs ?_
   refine mv (v := (pq gs_)) ?_
   refine vb (q_nil (A := some ⟨gs_, 0, none⟩) rfl rfl rfl) ?_
   refine vb (q_fl 0 fld_86_0 rfl rfl rfl) ?_
   have hq := ho24
   obtain ⟨g0_53, r0_53, m1_53, r1_53, hrow_53, ho0_53, ho1_53, -⟩ := hq
   intro w hw; have hw := hw.unfold (i := 1) rfl hrow_53
   refine WR.here (C := CC F Γ13 [[(gs_, .cells #[(pq g0_53), .map (some m1_53)] es_.1 (0, 0))], r0_53, r1_53, [(g1, .cells #[.string r_.key, .slice Ar_1 r_.vers.length cr_1] 24 (0, 0))], row26]) ?_ hw
   clear hw
   refine vb (q_ldl (i := 0) (v := (pq g0_53)) rfl rfl Tryz.isAgg81 rfl rfl) ?_
   obtain ⟨z54, hz55, h⟩ := bnd h
   refine e_call (is := [1, 3]) rfl rfl (call_run Tryz.call38 rfl rfl (by kernel_rfl)) rfl (fun w hp => t_seglog_Log_Sync ho0_53 ho27 hp hz55) ?_
   rintro Γ56 U58 v59 hl57 ⟨row60, rfl, rfl, hr61, _⟩
   change WR _ _ _ (CC F Γ56 [r0_53, row60, [(gs_, .cells #[(pq g0_53), .map (some m1_53)] es_.1 (0, 0))], r1_53, [(g1, .cells #[.string r_.key, .slice Ar_1 r_.vers.length cr_1] 24 (0, 0))]]) _ _ (upd _ 27 (.tuple #[]))
   refine WR.done ?_
   refine WC.rs ?_
   refine mv (v := (pq gs_)) ?_
   refine vb (q_ldla (i := 4) (vs := [.string r_.key, .slice Ar_1 r_.vers.length cr_1]) rfl rfl Tryz.isAgg24 Tryz.sizeOf24 rfl rfl) ?_
   refine mv (v := .slice A16 b_15.length c17) ?_
   intro w hw; have hw := hw.fold (is := [2, 0, 1]) rfl hrow_53
   refine WR.here (C := CC F Γ56 [row23, row60, [(g1, .cells #[.string r_.key, .slice Ar_1 r_.vers.length cr_1] 24 (0, 0))]]) ?_ hw
   clear hw
   obtain ⟨z63, hz64, h⟩ := bnd h
   refine e_callB (is := [0]) hB rfl rfl (call_run Tryz.call35 rfl rfl (by kernel_rfl)) rfl (fun w Θ hp hpB hle hleB hR => t_store_Store_lay_l1 (ho24.mono hl57) r_ (Rec.fits_mono hr_ hleB) (hs18.mono hl57) hc19 hp hpB hz64) ?_
   rintro Γ65 U67 v68 hl66 ⟨row69, rfl, rfl, hr70, _⟩
   change WR _ _ _ (CC F Γ65 [row69, row60, [(g1, .cells #[.string r_.key, .slice Ar_1 r_.vers.length cr_1] 24 (0, 0))]]) _ _ (upd _ 31 (.tuple #[]))
   refine WR.done ?_
   refine WC.rs ?_
   refine as_ (v := .int .i64 0) ?_
   refine WR.done ?_
   refine WC.ret ?_
   intro w hw
   obtain rfl := Option.some.inj h
   subst hF
   exact end_e (is := [0, 0]) (by kernel_rfl) hw rfl ⟨row69, row60, rfl, rfl, hr70, (hr61.mono hl66), (show I64 0 by decide), trivial⟩
abbrev r_code_reader_text_l1 (Bo : Gh) (gr_ : Nat) (er_ : Nat) (r : Ocode_reader × ByteArray) (U : List Rowb) (Γ : Gh) (v : Value) : Prop := ∃ (rowr_' : Rowb), v = .string r.2 ∧ U = [rowr_'] ∧ Ocode_reader.ob er_ Bo gr_ rowr_' r.1 ∧ r.2.size ≤ lim ∧ True
theorem t_code_reader_text_l1 {Γ : Gh} {w0 : World} {Bo : Gh} {gr_ er_ : Nat} {rowr_ : Rowb} {r_ : Ocode_reader} (hr_ : Ocode_reader.ob er_ Bo gr_ rowr_ r_) (hp : Pre [rowr_] Γ w0) (hpO : Pre [rowr_] Bo w0) {r : Option (Ocode_reader × ByteArray)} (h : m_code_reader_text r_ = some r) : Calls Tryz.prog 123 #[(pq gr_)] w0 (OutcT [{ v := (.iface 194 (.agg #[])), recovered := false }] Γ [rowr_] w0 (fun r => r_code_reader_text_l1 Bo gr_ er_ r) r) := by
 refine calls_of (N := 33) (rs := [2]) (args := [(pq gr_)]) Tryz.func123 rfl Tryz.ntmps123 Tryz.results123 rfl ?_
 obtain ⟨F, hF⟩ : ∃ F : Fm, F = ⟨ids [rowr_], w0, Γ⟩ := ⟨_, rfl⟩
 refine WC.here (C := CC F Γ [rowr_]) ?_ (hF ▸ hp.start)
 have hO : Lent F Bo := hF ▸ Lent.start hpO
 refine WC.rs ?_
 refine as_ (v := .string ByteArray.empty) ?_
 refine WR.done ?_
 refine WC.seq ?_
 have hq := hr_
 obtain ⟨A0_1, c0_1, hrow_1, ho0_1, ho1_1, ho2_1, -⟩ := hq
 intro w hw; have hw := hw.unfold (i := 0) rfl hrow_1
 refine WC.here (C := CC F Γ [[(gr_, .cells #[.slice A0_1 r_.b.length c0_1, .int .i64 r_.at_] er_ (0, 0))]]) ?_ hw
 clear hw
 refine WC.dr (by kernel_rfl) (by kernel_rfl) (fun w hw => hw.drawn _) ?_
 refine wa rfl rfl rfl (q_move (v := (pq gr_)) rfl (by kernel_rfl)) ?_
 refine wa rfl rfl rfl (q_nil (A := some ⟨gr_, 0, none⟩) rfl rfl rfl) ?_
 refine wa rfl rfl rfl (q_fl 0 fld_196_0 rfl rfl rfl) ?_
 refine wa rfl rfl rfl (q_ldl (i := 0) (v := .slice A0_1 r_.b.length c0_1) rfl rfl Tryz.isAgg51 rfl rfl) ?_
 refine wa rfl rfl rfl (q_move (v := (pq gr_)) rfl (by kernel_rfl)) ?_
 refine wa rfl rfl rfl (q_nil (A := some ⟨gr_, 0, none⟩) rfl rfl rfl) ?_
 refine wa rfl rfl rfl (q_fl 1 fld_196_1 rfl rfl rfl) ?_
 refine wa rfl rfl rfl (q_ldl (i := 0) (v := .int .i64 r_.at_) rfl rfl Tryz.isAgg3 rfl rfl) ?_
 refine wa rfl rfl rfl (q_move (v := (pq gr_)) rfl (by kernel_rfl)) ?_
 refine wa rfl rfl rfl (q_nil (A := some ⟨gr_, 0, none⟩) rfl rfl rfl) ?_
 refine wa rfl rfl rfl (q_fl 0 fld_196_0 rfl rfl rfl) ?_
 refine wa rfl rfl rfl (q_ldl (i := 0) (v := .slice A0_1 r_.b.length c0_1) rfl rfl Tryz.isAgg51 rfl rfl) ?_
 refine wa rfl rfl rfl (q_len_slice rfl Tryz.underlying51 rfl) ?_
 obtain ⟨z2, hz3, h⟩ := bnd h
 refine wc rfl rfl rfl (q_call (call_run Tryz.call160 rfl rfl (by kernel_rfl)) (fun w hw => t_num_Text (Γ := Gh.all w) (ho1_1.mono ((fun w hw => hO.sat hw) w hw).le_all) ho0_1 r_.at_ ho2_1 ((r_.b.length : Nat) : Int) (len_r ho1_1.le) (Sat.all w) hz3)) ?_
 refine wa rfl rfl rfl (q_move (v := .tuple #[.string z2.1, .int .i64 z2.2.1, .int .i64 z2.2.2]) rfl (by kernel_rfl)) ?_
 refine wa rfl rfl rfl (q_extract (v := .string z2.1) rfl rfl rfl) ?_
 refine wa rfl rfl rfl (q_extract (v := .int .i64 z2.2.1) rfl rfl rfl) ?_
 refine wa rfl rfl rfl (q_extract (v := .int .i64 z2.2.2) rfl rfl rfl) ?_
 refine wa rfl rfl rfl (q_assign (v := .string z2.1) rfl (by kernel_rfl)) ?_
 refine wa rfl rfl rfl (q_assign (v := .int .i64 z2.2.1) rfl (by kernel_rfl)) ?_
 refine wa rfl rfl rfl (q_assign (v := .int .i64 z2.2.2) rfl (by kernel_rfl)) ?_
 refine WQ.nil ?_
 change WC _ _ _ _ _ _
 intro w hw; have hw := hw.fold (is := [0]) rfl hrow_1
 refine WC.here (C := CC F Γ [rowr_]) ?_ hw
 clear hw
 refine WC.cut (fun σ w => m_code_reader_text_j1 r_ z2  = some r ∧ slots σ [(0, (pq gr_)), (3, .string z2.1), (4, .int .i64 z2.2.1)] ∧ CC F Γ [rowr_] w ∧ True) ?_ ?_
 ·
  refine WC.rs ?_
  refine mv (v := .int .i64 z2.2.2) ?_
  refine vb (q_neq rfl rfl rfl) ?_
  refine WR.done ?_
  refine WC.cif h (by kernel_rfl) (fun hb5 h => ?_) (fun hb5 h => ?_)
  ·
   refine WC.region ?_
   refine vb (q_build (v := .agg #[]) rfl (fun w => by kernel_rfl)) ?_
   refine vb (q_iface rfl rfl (fun w => mkif Tryz.underlying194 w)) ?_
   refine e_panic (v := .iface 194 (.agg #[])) rfl (run_panicop rfl rfl) ?_
   intro w hw
   obtain rfl := Option.some.inj h
   subst hF
   first | exact end_t hw | exact fun _ => end_t hw
  ·
   refine WC.skip ?_
   intro w hw
   exact ⟨h, (sl_ (by kernel_rfl)), hw, trivial⟩
 ·
  rintro σ w ⟨h, hsl, hw, -⟩
  refine Wpt.slots hsl ?_
  refine WC.here (C := CC F Γ [rowr_]) ?_ hw
  clear hw hsl
  refine WC.rs ?_
  refine mv (v := (pq gr_)) ?_
  refine mv (v := .int .i64 z2.2.1) ?_
  refine vb (q_nil (A := some ⟨gr_, 0, none⟩) rfl rfl rfl) ?_
  refine vb (q_fl 1 fld_196_1 rfl rfl rfl) ?_
  have hq := hr_
  obtain ⟨A0_8, c0_8, hrow_8, ho0_8, ho1_8, ho2_8, -⟩ := hq
  intro w hw; have hw := hw.unfold (i := 0) rfl hrow_8
  refine WR.here (C := CC F Γ [[(gr_, .cells #[.slice A0_8 r_.b.length c0_8, .int .i64 r_.at_] er_ (0, 0))]]) ?_ hw
  clear hw
  refine e_st (i := 0) (v := .int .i64 z2.2.1) (new := #[.slice A0_8 r_.b.length c0_8, .int .i64 z2.2.1]) rfl Tryz.sizeOf3 rfl rfl rfl rfl (by kernel_rfl) rfl rfl rfl rfl ?_
  refine WR.done ?_
  refine WC.rs ?_
  refine mv (v := .string z2.1) ?_
  refine as_ (v := .string z2.1) ?_
  refine WR.done ?_
  refine WC.ret ?_
  intro w hw
  obtain ⟨hk10, h⟩ := chk_some h
  obtain ⟨row_9, hrow_9, hob_9⟩ : ∃ rw : Rowb, rw = ([[(gr_, .cells #[.slice A0_8 r_.b.length c0_8, .int .i64 z2.2.1] er_ (0, 0))]] : List Rowb).flatten ∧ Ocode_reader.ob er_ Bo gr_ rw (⟨r_.b, z2.2.1⟩ : Ocode_reader) := ⟨_, rfl, A0_8, c0_8, rfl, ho0_8, ho1_8, (i64b_of hk10), trivial⟩
  have hw := hw.fold (is := [0]) rfl hrow_9
  obtain ⟨hk11, h⟩ := chk_some h
  obtain rfl := Option.some.inj h
  subst hF
  exact end_e (is := [0]) (by kernel_rfl) hw rfl ⟨row_9, rfl, rfl, hob_9, (of_decide_eq_true hk11), trivial⟩
abbrev r_code_reader_num_l1 (Bo : Gh) (gr_ : Nat) (er_ : Nat) (r : Ocode_reader × Int) (U : List Rowb) (Γ : Gh) (v : Value) : Prop := ∃ (rowr_' : Rowb), v = .int .i64 r.2 ∧ U = [rowr_'] ∧ Ocode_reader.ob er_ Bo gr_ rowr_' r.1 ∧ I64 r.2 ∧ True
theorem t_code_reader_num_l1 {Γ : Gh} {w0 : World} {Bo : Gh} {gr_ er_ : Nat} {rowr_ : Rowb} {r_ : Ocode_reader} (hr_ : Ocode_reader.ob er_ Bo gr_ rowr_ r_) (hp : Pre [rowr_] Γ w0) (hpO : Pre [rowr_] Bo w0) {r : Option (Ocode_reader × Int)} (h : m_code_reader_num r_ = some r) : Calls Tryz.prog 161 #[(pq gr_)] w0 (OutcT [{ v := (.iface 194 (.agg #[])), recovered := false }] Γ [rowr_] w0 (fun r => r_code_reader_num_l1 Bo gr_ er_ r) r) := by
 refine calls_of (N := 28) (rs := [2]) (args := [(pq gr_)]) Tryz.func161 rfl Tryz.ntmps161 Tryz.results161 rfl ?_
 obtain ⟨F, hF⟩ : ∃ F : Fm, F = ⟨ids [rowr_], w0, Γ⟩ := ⟨_, rfl⟩
 refine WC.here (C := CC F Γ [rowr_]) ?_ (hF ▸ hp.start)
 have hO : Lent F Bo := hF ▸ Lent.start hpO
 refine WC.rs ?_
 refine as_ (v := .int .i64 0) ?_
 refine WR.done ?_
 refine WC.seq ?_
 have hq := hr_
 obtain ⟨A0_1, c0_1, hrow_1, ho0_1, ho1_1, ho2_1, -⟩ := hq
 intro w hw; have hw := hw.unfold (i := 0) rfl hrow_1
 refine WC.here (C := CC F Γ [[(gr_, .cells #[.slice A0_1 r_.b.length c0_1, .int .i64 r_.at_] er_ (0, 0))]]) ?_ hw
 clear hw
 refine WC.dr (by kernel_rfl) (by kernel_rfl) (fun w hw => hw.drawn _) ?_
 refine wa rfl rfl rfl (q_move (v := (pq gr_)) rfl (by kernel_rfl)) ?_
 refine wa rfl rfl rfl (q_nil (A := some ⟨gr_, 0, none⟩) rfl rfl rfl) ?_
 refine wa rfl rfl rfl (q_fl 0 fld_196_0 rfl rfl rfl) ?_
 refine wa rfl rfl rfl (q_ldl (i := 0) (v := .slice A0_1 r_.b.length c0_1) rfl rfl Tryz.isAgg51 rfl rfl) ?_
 refine wa rfl rfl rfl (q_move (v := (pq gr_)) rfl (by kernel_rfl)) ?_
 refine wa rfl rfl rfl (q_nil (A := some ⟨gr_, 0, none⟩) rfl rfl rfl) ?_
 refine wa rfl rfl rfl (q_fl 1 fld_196_1 rfl rfl rfl) ?_
 refine wa rfl rfl rfl (q_ldl (i := 0) (v := .int .i64 r_.at_) rfl rfl Tryz.isAgg3 rfl rfl) ?_
 obtain ⟨z2, hz3, h⟩ := bnd h
 refine wc rfl rfl rfl (q_call (call_run Tryz.call118 rfl rfl (by kernel_rfl)) (fun w hw => t_num_Num (Γ := Gh.all w) (ho1_1.mono ((fun w hw => hO.sat hw) w hw).le_all) ho0_1 r_.at_ ho2_1 (Sat.all w) hz3)) ?_
 refine wa rfl rfl rfl (q_move (v := .tuple #[.int .i64 z2.1, .int .i64 z2.2.1, .int .i64 z2.2.2]) rfl (by kernel_rfl)) ?_
 refine wa rfl rfl rfl (q_extract (v := .int .i64 z2.1) rfl rfl rfl) ?_
 refine wa rfl rfl rfl (q_extract (v := .int .i64 z2.2.1) rfl rfl rfl) ?_
 refine wa rfl rfl rfl (q_extract (v := .int .i64 z2.2.2) rfl rfl rfl) ?_
 refine wa rfl rfl rfl (q_assign (v := .int .i64 z2.1) rfl (by kernel_rfl)) ?_
 refine wa rfl rfl rfl (q_assign (v := .int .i64 z2.2.1) rfl (by kernel_rfl)) ?_
 refine wa rfl rfl rfl (q_assign (v := .int .i64 z2.2.2) rfl (by kernel_rfl)) ?_
 refine WQ.nil ?_
 change WC _ _ _ _ _ _
 intro w hw; have hw := hw.fold (is := [0]) rfl hrow_1
 refine WC.here (C := CC F Γ [rowr_]) ?_ hw
 clear hw
 refine WC.cut (fun σ w => m_code_reader_num_j1 r_ z2  = some r ∧ slots σ [(0, (pq gr_)), (3, .int .i64 z2.1), (4, .int .i64 z2.2.1)] ∧ CC F Γ [rowr_] w ∧ True) ?_ ?_
 ·
  refine WC.rs ?_
  refine mv (v := .int .i64 z2.2.2) ?_
  refine vb (q_neq rfl rfl rfl) ?_
  refine WR.done ?_
  refine WC.cif h (by kernel_rfl) (fun hb5 h => ?_) (fun hb5 h => ?_)
  ·
   refine WC.region ?_
   refine vb (q_build (v := .agg #[]) rfl (fun w => by kernel_rfl)) ?_
   refine vb (q_iface rfl rfl (fun w => mkif Tryz.underlying194 w)) ?_
   refine e_panic (v := .iface 194 (.agg #[])) rfl (run_panicop rfl rfl) ?_
   intro w hw
   obtain rfl := Option.some.inj h
   subst hF
   first | exact end_t hw | exact fun _ => end_t hw
  ·
   refine WC.skip ?_
   intro w hw
   exact ⟨h, (sl_ (by kernel_rfl)), hw, trivial⟩
 ·
  rintro σ w ⟨h, hsl, hw, -⟩
  refine Wpt.slots hsl ?_
  refine WC.here (C := CC F Γ [rowr_]) ?_ hw
  clear hw hsl
  refine WC.rs ?_
  refine mv (v := (pq gr_)) ?_
  refine mv (v := .int .i64 z2.2.1) ?_
  refine vb (q_nil (A := some ⟨gr_, 0, none⟩) rfl rfl rfl) ?_
  refine vb (q_fl 1 fld_196_1 rfl rfl rfl) ?_
  have hq := hr_
  obtain ⟨A0_8, c0_8, hrow_8, ho0_8, ho1_8, ho2_8, -⟩ := hq
  intro w hw; have hw := hw.unfold (i := 0) rfl hrow_8
  refine WR.here (C := CC F Γ [[(gr_, .cells #[.slice A0_8 r_.b.length c0_8, .int .i64 r_.at_] er_ (0, 0))]]) ?_ hw
  clear hw
  refine e_st (i := 0) (v := .int .i64 z2.2.1) (new := #[.slice A0_8 r_.b.length c0_8, .int .i64 z2.2.1]) rfl Tryz.sizeOf3 rfl rfl rfl rfl (by kernel_rfl) rfl rfl rfl rfl ?_
  refine WR.done ?_
  refine WC.rs ?_
  refine mv (v := .int .i64 z2.1) ?_
  refine as_ (v := .int .i64 z2.1) ?_
  refine WR.done ?_
  refine WC.ret ?_
  intro w hw
  obtain ⟨hk10, h⟩ := chk_some h
  obtain ⟨row_9, hrow_9, hob_9⟩ : ∃ rw : Rowb, rw = ([[(gr_, .cells #[.slice A0_8 r_.b.length c0_8, .int .i64 z2.2.1] er_ (0, 0))]] : List Rowb).flatten ∧ Ocode_reader.ob er_ Bo gr_ rw (⟨r_.b, z2.2.1⟩ : Ocode_reader) := ⟨_, rfl, A0_8, c0_8, rfl, ho0_8, ho1_8, (i64b_of hk10), trivial⟩
  have hw := hw.fold (is := [0]) rfl hrow_9
  obtain ⟨hk11, h⟩ := chk_some h
  obtain rfl := Option.some.inj h
  subst hF
  exact end_e (is := [0]) (by kernel_rfl) hw rfl ⟨row_9, rfl, rfl, hob_9, (i64b_of hk11), trivial⟩
abbrev r_code_reader_int_l1 (Bo : Gh) (gr_ : Nat) (er_ : Nat) (r : Ocode_reader × Int) (U : List Rowb) (Γ : Gh) (v : Value) : Prop := ∃ (rowr_' : Rowb), v = .int .i64 r.2 ∧ U = [rowr_'] ∧ Ocode_reader.ob er_ Bo gr_ rowr_' r.1 ∧ I64 r.2 ∧ True
theorem t_code_reader_int_l1 {Γ : Gh} {w0 : World} {Bo : Gh} {gr_ er_ : Nat} {rowr_ : Rowb} {r_ : Ocode_reader} (hr_ : Ocode_reader.ob er_ Bo gr_ rowr_ r_) (hp : Pre [rowr_] Γ w0) (hpO : Pre [rowr_] Bo w0) {r : Option (Ocode_reader × Int)} (h : m_code_reader_int r_ = some r) : Calls Tryz.prog 162 #[(pq gr_)] w0 (OutcT [{ v := (.iface 194 (.agg #[])), recovered := false }] Γ [rowr_] w0 (fun r => r_code_reader_int_l1 Bo gr_ er_ r) r) := by
 refine calls_of (N := 5) (rs := [2]) (args := [(pq gr_)]) Tryz.func162 rfl Tryz.ntmps162 Tryz.results162 rfl ?_
 obtain ⟨F, hF⟩ : ∃ F : Fm, F = ⟨ids [rowr_], w0, Γ⟩ := ⟨_, rfl⟩
 refine WC.here (C := CC F Γ [rowr_]) ?_ (hF ▸ hp.start)
 have hO : Lent F Bo := hF ▸ Lent.start hpO
 refine WC.rs ?_
 refine as_ (v := .int .i64 0) ?_
 refine WR.done ?_
 refine WC.rs ?_
 refine mv (v := (pq gr_)) ?_
 obtain ⟨z1, hz2, h⟩ := bnd h
 rcases z1 with _ | o3
 ·
  have h := optm_n rfl h
  refine e_callNW (is := [0]) rfl (call_run Tryz.call161 rfl rfl (by kernel_rfl)) rfl (fun w hw hp => t_code_reader_num_l1 hr_ hp (hO.pre (is := [0]) hw rfl) hz2) ?_
  intro Γ4 hl5
  intro w hw
  obtain rfl := Option.some.inj h
  subst hF
  first | exact end_t hw | exact fun _ => end_t hw
 ·
  have h := optm_s rfl h
  refine e_callW (is := [0]) rfl rfl (call_run Tryz.call161 rfl rfl (by kernel_rfl)) rfl (fun w hw hp => t_code_reader_num_l1 hr_ hp (hO.pre (is := [0]) hw rfl) hz2) ?_
  rintro Γ6 U8 v9 hl7 ⟨row10, rfl, rfl, hr11, hr12, _⟩
  change WR _ _ _ (CC F Γ6 [row10]) _ _ (upd _ 4 (.int .i64 o3.2))
  refine as_ (v := .int .i64 o3.2) ?_
  refine WR.done ?_
  refine WC.ret ?_
  intro w hw
  obtain rfl := Option.some.inj h
  subst hF
  exact end_e (is := [0]) (by kernel_rfl) hw rfl ⟨row10, rfl, rfl, hr11, hr12, trivial⟩
abbrev r_code_reader_span_l1 (Bo : Gh) (gr_ : Nat) (er_ : Nat) (r : Ocode_reader × Span) (U : List Rowb) (Γ : Gh) (v : Value) : Prop := ∃ (rowr_' : Rowb), v = .agg #[.int .i64 r.2.s, .int .i64 r.2.f, .int .i64 r.2.t] ∧ U = [rowr_'] ∧ Ocode_reader.ob er_ Bo gr_ rowr_' r.1 ∧ Span.fits Γ  r.2 ∧ True
theorem t_code_reader_span_l1 {Γ : Gh} {w0 : World} {Bo : Gh} {gr_ er_ : Nat} {rowr_ : Rowb} {r_ : Ocode_reader} (hr_ : Ocode_reader.ob er_ Bo gr_ rowr_ r_) (hp : Pre [rowr_] Γ w0) (hpO : Pre [rowr_] Bo w0) {r : Option (Ocode_reader × Span)} (h : m_code_reader_span r_ = some r) : Calls Tryz.prog 164 #[(pq gr_)] w0 (OutcT [{ v := (.iface 194 (.agg #[])), recovered := false }] Γ [rowr_] w0 (fun r => r_code_reader_span_l1 Bo gr_ er_ r) r) := by
 refine calls_of_r (N := 24) (rs := [.cell 2 41]) (args := [(pq gr_)]) Tryz.func164 rfl Tryz.ntmps164 Tryz.results164 rfl ?_
 obtain ⟨F, hF⟩ : ∃ F : Fm, F = ⟨ids [rowr_], w0, Γ⟩ := ⟨_, rfl⟩
 refine WC.here (C := CC F Γ [rowr_]) ?_ (hF ▸ hp.start)
 have hO : Lent F Bo := hF ▸ Lent.start hpO
 refine WC.rs ?_
 refine e_alloc Tryz.zeroValue41 rfl rfl rfl rfl ?_
 intro g1
 refine WR.done ?_
 refine WC.rs ?_
 refine mv (v := (pq gr_)) ?_
 obtain ⟨z2, hz3, h⟩ := bnd h
 rcases z2 with _ | o4
 ·
  have h := optm_n rfl h
  refine e_callNW (is := [1]) rfl (call_run Tryz.call162 rfl rfl (by kernel_rfl)) rfl (fun w hw hp => t_code_reader_int_l1 hr_ hp (hO.pre (is := [1]) hw rfl) hz3) ?_
  intro Γ5 hl6
  intro w hw
  obtain rfl := Option.some.inj h
  subst hF
  first | exact end_t hw | exact fun _ => end_t hw
 ·
  have h := optm_s rfl h
  refine e_callW (is := [1]) rfl rfl (call_run Tryz.call162 rfl rfl (by kernel_rfl)) rfl (fun w hw hp => t_code_reader_int_l1 hr_ hp (hO.pre (is := [1]) hw rfl) hz3) ?_
  rintro Γ7 U9 v10 hl8 ⟨row11, rfl, rfl, hr12, hr13, _⟩
  change WR _ _ _ (CC F Γ7 [row11, [(g1, .cells #[.int .i64 0, .int .i64 0, .int .i64 0] 41 (0, 0))]]) _ _ (upd _ 5 (.int .i64 o4.2))
  refine vb (q_build' (v := .agg #[.int .i64 o4.2, .int .i64 0, .int .i64 0]) rfl (bargs1 rfl) (fun w => by kernel_rfl)) ?_
  refine e_alloc Tryz.zeroValue41 rfl rfl rfl rfl ?_
  intro g14
  refine e_st (i := 0) (v := .agg #[.int .i64 o4.2, .int .i64 0, .int .i64 0]) (new := #[.int .i64 o4.2, .int .i64 0, .int .i64 0]) rfl Tryz.sizeOf41 rfl rfl rfl rfl (by kernel_rfl) rfl rfl rfl rfl ?_
  refine WR.done ?_
  refine WC.rs ?_
  refine mv (v := (pq gr_)) ?_
  obtain ⟨z15, hz16, h⟩ := bnd h
  rcases z15 with _ | o17
  ·
   have h := optm_n rfl h
   refine e_callNW (is := [1]) rfl (call_run Tryz.call161 rfl rfl (by kernel_rfl)) rfl (fun w hw hp => t_code_reader_num_l1 hr12 hp (hO.pre (is := [1]) hw rfl) hz16) ?_
   intro Γ18 hl19
   intro w hw
   obtain rfl := Option.some.inj h
   subst hF
   first | exact end_t hw | exact fun _ => end_t hw
  ·
   have h := optm_s rfl h
   refine e_callW (is := [1]) rfl rfl (call_run Tryz.call161 rfl rfl (by kernel_rfl)) rfl (fun w hw hp => t_code_reader_num_l1 hr12 hp (hO.pre (is := [1]) hw rfl) hz16) ?_
   rintro Γ20 U22 v23 hl21 ⟨row24, rfl, rfl, hr25, hr26, _⟩
   change WR _ _ _ (CC F Γ20 [row24, [(g14, .cells #[.int .i64 o4.2, .int .i64 0, .int .i64 0] 41 (0, 0))], [(g1, .cells #[.int .i64 0, .int .i64 0, .int .i64 0] 41 (0, 0))]]) _ _ (upd _ 8 (.int .i64 o17.2))
   refine vb (q_fl 1 fld_41_1 rfl rfl rfl) ?_
   refine e_st (i := 1) (v := .int .i64 o17.2) (new := #[.int .i64 o4.2, .int .i64 o17.2, .int .i64 0]) rfl Tryz.sizeOf2 rfl rfl rfl rfl (by kernel_rfl) rfl rfl rfl rfl ?_
   refine WR.done ?_
   refine WC.cut (fun σ w => ∃ (x29 : Span), ∃ (o31 : Ocode_reader), ∃ (Γ27 : Gh), ∃ (row32 : Rowb), m_code_reader_span_j1 x29 o31 = some r ∧ slots σ [(2, (pq g1)), (3, (pq g14))] ∧ CC F Γ27 [row32, [(g14, .cells #[.int .i64 x29.s, .int .i64 x29.f, .int .i64 x29.t] 41 (0, 0))], [(g1, .cells #[.int .i64 0, .int .i64 0, .int .i64 0] 41 (0, 0))]] w ∧ Gh.le Γ20 Γ27 ∧ Span.fits Γ27  x29 ∧ Ocode_reader.ob er_ Bo gr_ row32 o31 ∧ True) ?_ ?_
   ·
    intro w hw; have h034 := hw.le
    refine WC.here (C := CC F Γ20 [row24, [(g14, .cells #[.int .i64 o4.2, .int .i64 o17.2, .int .i64 0] 41 (0, 0))], [(g1, .cells #[.int .i64 0, .int .i64 0, .int .i64 0] 41 (0, 0))]]) ?_ hw; clear hw
    refine WC.held (CC F Γ20 [[(g1, .cells #[.int .i64 0, .int .i64 0, .int .i64 0] 41 (0, 0))]]) (by kernel_rfl) (fun w hw => hw.drawn _) ?_
    change WH _ _ _ _ (CC F Γ20 [row24, [(g14, .cells #[.int .i64 o4.2, .int .i64 o17.2, .int .i64 0] 41 (0, 0))], [(g1, .cells #[.int .i64 0, .int .i64 0, .int .i64 0] 41 (0, 0))]]) _ 7 #[false, false, false, false, false, false, false] _
    refine hu 0 rfl (bk_ (Gh.refl _) h034 (.cons _ (.cons _ (.cons_cons _ .slnil)))) (q_fl 1 fld_41_1 rfl rfl rfl) ?_
    refine hu 2 rfl (bk_ (Gh.refl _) h034 (.cons _ (.cons _ (.cons_cons _ .slnil)))) (q_move (v := (pq gr_)) rfl (by kernel_rfl)) ?_
    obtain ⟨z35, hz36, h⟩ := bnd h
    refine WH.each (l := [1, 3]) (by kernel_rfl) (by simp) ?_
    intro i hi; simp only [List.mem_cons, List.not_mem_nil, or_false] at hi
    rcases hi with rfl | rfl
    ·
     refine ⟨_, rfl, ?_⟩
     refine vb (q_ldl (i := 1) (v := .int .i64 o17.2) rfl rfl Tryz.isAgg2 rfl rfl) ?_
     refine WR.nil ?_
     refine WH.next (bk_ (Gh.refl _) h034 (.cons _ (.cons _ (.cons_cons _ .slnil)))) ?_
     refine WH.lone (i := 3) (by kernel_rfl) rfl ?_
     rcases z35 with _ | o37
     ·
      have h := optm_n rfl h
      refine e_callNW (is := [0]) rfl (call_run Tryz.call161 rfl rfl (by kernel_rfl)) rfl (fun w hw hp => t_code_reader_num_l1 hr25 hp (hO.pre (is := [0]) hw rfl) hz36) ?_
      intro Γ38 hl39
      intro w hw
      obtain rfl := Option.some.inj h
      subst hF
      first | exact end_t hw | exact fun _ => end_t hw
     ·
      have h := optm_s rfl h
      refine e_callW (is := [0]) rfl rfl (call_run Tryz.call161 rfl rfl (by kernel_rfl)) rfl (fun w hw hp => t_code_reader_num_l1 hr25 hp (hO.pre (is := [0]) hw rfl) hz36) ?_
      rintro Γ40 U42 v43 hl41 ⟨row44, rfl, rfl, hr45, hr46, _⟩
      change WR _ _ _ (CC F Γ40 [row44, [(g14, .cells #[.int .i64 o4.2, .int .i64 o17.2, .int .i64 0] 41 (0, 0))], [(g1, .cells #[.int .i64 0, .int .i64 0, .int .i64 0] 41 (0, 0))]]) _ _ (upd _ 13 (.int .i64 o37.2))
      refine WR.nil ?_
      refine WH.next (bk_ hl41 h034 (.cons _ (.cons _ (.cons_cons _ .slnil)))) ?_
      refine hu 4 rfl (bk_ hl41 h034 (.cons _ (.cons _ (.cons_cons _ .slnil)))) (q_add rfl rfl rfl) ?_
      refine hu 5 rfl (bk_ hl41 h034 (.cons _ (.cons _ (.cons_cons _ .slnil)))) (q_fl 2 fld_41_2 rfl rfl rfl) ?_
      refine WH.lone (i := 6) (by kernel_rfl) rfl ?_
      refine e_st (i := 1) (v := .int .i64 (w64 (o17.2 + o37.2))) (new := #[.int .i64 o4.2, .int .i64 o17.2, .int .i64 (w64 (o17.2 + o37.2))]) rfl Tryz.sizeOf2 rfl rfl rfl rfl (by kernel_rfl) rfl rfl rfl rfl ?_
      refine WR.nil ?_
      refine WH.next (bk_ hl41 h034 (.cons _ (.cons _ (.cons_cons _ .slnil)))) ?_
      refine WH.done (by kernel_rfl) ?_
      intro w hw
      exact ⟨(⟨o4.2, o17.2, (w64 (o17.2 + o37.2))⟩ : Span), o37.1, Γ40, row44, h, (sl_ (by kernel_rfl)), hw, hl41, ⟨hr13, hr26, (w64_r _)⟩, hr45, trivial⟩
    ·
     refine ⟨_, rfl, ?_⟩
     rcases z35 with _ | o37
     ·
      have h := optm_n rfl h
      refine e_callNW (is := [0]) rfl (call_run Tryz.call161 rfl rfl (by kernel_rfl)) rfl (fun w hw hp => t_code_reader_num_l1 hr25 hp (hO.pre (is := [0]) hw rfl) hz36) ?_
      intro Γ38 hl39
      intro w hw
      obtain rfl := Option.some.inj h
      subst hF
      first | exact end_t hw | exact fun _ => end_t hw
     ·
      have h := optm_s rfl h
      refine e_callW (is := [0]) rfl rfl (call_run Tryz.call161 rfl rfl (by kernel_rfl)) rfl (fun w hw hp => t_code_reader_num_l1 hr25 hp (hO.pre (is := [0]) hw rfl) hz36) ?_
      rintro Γ40 U42 v43 hl41 ⟨row44, rfl, rfl, hr45, hr46, _⟩
      change WR _ _ _ (CC F Γ40 [row44, [(g14, .cells #[.int .i64 o4.2, .int .i64 o17.2, .int .i64 0] 41 (0, 0))], [(g1, .cells #[.int .i64 0, .int .i64 0, .int .i64 0] 41 (0, 0))]]) _ _ (upd _ 13 (.int .i64 o37.2))
      refine WR.nil ?_
      refine WH.next (bk_ hl41 h034 (.cons _ (.cons _ (.cons_cons _ .slnil)))) ?_
      refine WH.lone (i := 1) (by kernel_rfl) rfl ?_
      refine vb (q_ldl (i := 1) (v := .int .i64 o17.2) rfl rfl Tryz.isAgg2 rfl rfl) ?_
      refine WR.nil ?_
      refine WH.next (bk_ hl41 h034 (.cons _ (.cons _ (.cons_cons _ .slnil)))) ?_
      refine hu 4 rfl (bk_ hl41 h034 (.cons _ (.cons _ (.cons_cons _ .slnil)))) (q_add rfl rfl rfl) ?_
      refine hu 5 rfl (bk_ hl41 h034 (.cons _ (.cons _ (.cons_cons _ .slnil)))) (q_fl 2 fld_41_2 rfl rfl rfl) ?_
      refine WH.lone (i := 6) (by kernel_rfl) rfl ?_
      refine e_st (i := 1) (v := .int .i64 (w64 (o17.2 + o37.2))) (new := #[.int .i64 o4.2, .int .i64 o17.2, .int .i64 (w64 (o17.2 + o37.2))]) rfl Tryz.sizeOf2 rfl rfl rfl rfl (by kernel_rfl) rfl rfl rfl rfl ?_
      refine WR.nil ?_
      refine WH.next (bk_ hl41 h034 (.cons _ (.cons _ (.cons_cons _ .slnil)))) ?_
      refine WH.done (by kernel_rfl) ?_
      intro w hw
      exact ⟨(⟨o4.2, o17.2, (w64 (o17.2 + o37.2))⟩ : Span), o37.1, Γ40, row44, h, (sl_ (by kernel_rfl)), hw, hl41, ⟨hr13, hr26, (w64_r _)⟩, hr45, trivial⟩
   ·
    rintro σ w ⟨x29, o31, Γ27, row32, h, hsl, hw, hl28, hf30, ho33, -⟩
    refine Wpt.slots hsl ?_
    refine WC.here (C := CC F Γ27 [row32, [(g14, .cells #[.int .i64 x29.s, .int .i64 x29.f, .int .i64 x29.t] 41 (0, 0))], [(g1, .cells #[.int .i64 0, .int .i64 0, .int .i64 0] 41 (0, 0))]]) ?_ hw
    clear hw hsl
    refine WC.cut (fun σ w => m_code_reader_span_j2 x29 o31  = some r ∧ slots σ [(2, (pq g1)), (3, (pq g14))] ∧ CC F Γ27 [row32, [(g14, .cells #[.int .i64 x29.s, .int .i64 x29.f, .int .i64 x29.t] 41 (0, 0))], [(g1, .cells #[.int .i64 0, .int .i64 0, .int .i64 0] 41 (0, 0))]] w ∧ True) ?_ ?_
    ·
     refine WC.rs ?_
     refine vb (q_fl 2 fld_41_2 rfl rfl rfl) ?_
     refine vb (q_ldl (i := 1) (v := .int .i64 x29.t) rfl rfl Tryz.isAgg2 rfl rfl) ?_
     refine vb (q_fl 1 fld_41_1 rfl rfl rfl) ?_
     refine vb (q_ldl (i := 1) (v := .int .i64 x29.f) rfl rfl Tryz.isAgg2 rfl rfl) ?_
     refine vb (q_lss rfl rfl rfl) ?_
     refine WR.done ?_
     refine WC.cif h (by kernel_rfl) (fun hb47 h => ?_) (fun hb47 h => ?_)
     ·
      refine WC.region ?_
      refine vb (q_build (v := .agg #[]) rfl (fun w => by kernel_rfl)) ?_
      refine vb (q_iface rfl rfl (fun w => mkif Tryz.underlying194 w)) ?_
      refine e_panic (v := .iface 194 (.agg #[])) rfl (run_panicop rfl rfl) ?_
      intro w hw
      obtain rfl := Option.some.inj h
      subst hF
      first | exact end_t hw | exact fun _ => end_t hw
     ·
      refine WC.skip ?_
      intro w hw
      exact ⟨h, (sl_ (by kernel_rfl)), hw, trivial⟩
    ·
     rintro σ w ⟨h, hsl, hw, -⟩
     refine Wpt.slots hsl ?_
     refine WC.here (C := CC F Γ27 [row32, [(g14, .cells #[.int .i64 x29.s, .int .i64 x29.f, .int .i64 x29.t] 41 (0, 0))], [(g1, .cells #[.int .i64 0, .int .i64 0, .int .i64 0] 41 (0, 0))]]) ?_ hw
     clear hw hsl
     refine WC.rs ?_
     refine vb (q_ldla (i := 1) (vs := [.int .i64 x29.s, .int .i64 x29.f, .int .i64 x29.t]) rfl rfl Tryz.isAgg41 Tryz.sizeOf41 rfl rfl) ?_
     refine e_st (i := 2) (v := .agg #[.int .i64 x29.s, .int .i64 x29.f, .int .i64 x29.t]) (new := #[.int .i64 x29.s, .int .i64 x29.f, .int .i64 x29.t]) rfl Tryz.sizeOf41 rfl rfl rfl rfl (by kernel_rfl) rfl rfl rfl rfl ?_
     refine WR.done ?_
     refine WC.ret ?_
     intro w hw
     obtain rfl := Option.some.inj h
     subst hF
     exact ⟨[.agg #[.int .i64 x29.s, .int .i64 x29.f, .int .i64 x29.t]], (rr_agg (i := 2) (us := [.int .i64 x29.s, .int .i64 x29.f, .int .i64 x29.t]) hw rfl Tryz.isAgg41 Tryz.sizeOf41 (by kernel_rfl) rfl rr_nil), end_e (is := [0]) (by kernel_rfl) hw rfl ⟨row32, rfl, rfl, ho33, hf30, trivial⟩⟩
abbrev r_code_take_api_Span_l1 (Bo : Gh) (gr_ : Nat) (er_ : Nat) (r : Ocode_reader × (List Span)) (U : List Rowb) (Γ : Gh) (v : Value) : Prop := ∃ (rowr_' : Rowb), ∃ (A0 : Option Addr), ∃ (c0 : Nat), ∃ (row0 : Rowb), v = .slice A0 r.2.length c0 ∧ U = [rowr_', row0] ∧ Ocode_reader.ob er_ Bo gr_ rowr_' r.1 ∧ Own spanT Γ 41 row0 A0 c0 r.2 ∧ True
theorem t_code_take_api_Span_l1 {Γ : Gh} {w0 : World} {Bo : Gh} {gr_ er_ : Nat} {rowr_ : Rowb} {r_ : Ocode_reader} (hr_ : Ocode_reader.ob er_ Bo gr_ rowr_ r_) (hp : Pre [rowr_] Γ w0) (hpO : Pre [rowr_] Bo w0) {r : Option (Ocode_reader × (List Span))} (h : m_code_take_api_Span r_ = some r) : Calls Tryz.prog 163 #[(pq gr_), .func (.func 164) #[(pq gr_)] #[]] w0 (OutcT [{ v := (.iface 194 (.agg #[])), recovered := false }] Γ [rowr_] w0 (fun r => r_code_take_api_Span_l1 Bo gr_ er_ r) r) := by
 refine calls_of (N := 33) (rs := [4]) (args := [(pq gr_), .func (.func 164) #[(pq gr_)] #[]]) Tryz.func163 rfl Tryz.ntmps163 Tryz.results163 rfl ?_
 obtain ⟨F, hF⟩ : ∃ F : Fm, F = ⟨ids [rowr_], w0, Γ⟩ := ⟨_, rfl⟩
 refine WC.here (C := CC F Γ [rowr_]) ?_ (hF ▸ hp.start)
 have hO : Lent F Bo := hF ▸ Lent.start hpO
 refine WC.rs ?_
 refine as_ (v := .slice none 0 0) ?_
 refine WR.done ?_
 refine WC.rs ?_
 refine mv (v := (pq gr_)) ?_
 obtain ⟨z1, hz2, h⟩ := bnd h
 rcases z1 with _ | o3
 ·
  have h := optm_n rfl h
  refine e_callNW (is := [0]) rfl (call_run Tryz.call161 rfl rfl (by kernel_rfl)) rfl (fun w hw hp => t_code_reader_num_l1 hr_ hp (hO.pre (is := [0]) hw rfl) hz2) ?_
  intro Γ4 hl5
  intro w hw
  obtain rfl := Option.some.inj h
  subst hF
  first | exact end_t hw | exact fun _ => end_t hw
 ·
  have h := optm_s rfl h
  refine e_callW (is := [0]) rfl rfl (call_run Tryz.call161 rfl rfl (by kernel_rfl)) rfl (fun w hw hp => t_code_reader_num_l1 hr_ hp (hO.pre (is := [0]) hw rfl) hz2) ?_
  rintro Γ6 U8 v9 hl7 ⟨row10, rfl, rfl, hr11, hr12, _⟩
  change WR _ _ _ (CC F Γ6 [row10]) _ _ (upd _ 8 (.int .i64 o3.2))
  refine as_ (v := .int .i64 o3.2) ?_
  refine WR.done ?_
  refine WC.cut (fun σ w => m_code_take_api_Span_j1 o3  = some r ∧ slots σ [(1, .func (.func 164) #[(pq gr_)] #[]), (5, .int .i64 o3.2)] ∧ CC F Γ6 [row10] w ∧ True) ?_ ?_
  ·
   refine WC.seq ?_
   have hq := hr11
   obtain ⟨A0_13, c0_13, hrow_13, ho0_13, ho1_13, ho2_13, -⟩ := hq
   intro w hw; have hw := hw.unfold (i := 0) rfl hrow_13
   refine WC.here (C := CC F Γ6 [[(gr_, .cells #[.slice A0_13 o3.1.b.length c0_13, .int .i64 o3.1.at_] er_ (0, 0))]]) ?_ hw
   clear hw
   refine WC.dr (by kernel_rfl) (by kernel_rfl) (fun w hw => hw.drawn _) ?_
   refine wa rfl rfl rfl (q_move (v := .int .i64 o3.2) rfl (by kernel_rfl)) ?_
   refine wa rfl rfl rfl (q_move (v := (pq gr_)) rfl (by kernel_rfl)) ?_
   refine wa rfl rfl rfl (q_nil (A := some ⟨gr_, 0, none⟩) rfl rfl rfl) ?_
   refine wa rfl rfl rfl (q_fl 0 fld_196_0 rfl rfl rfl) ?_
   refine wa rfl rfl rfl (q_ldl (i := 0) (v := .slice A0_13 o3.1.b.length c0_13) rfl rfl Tryz.isAgg51 rfl rfl) ?_
   refine wa rfl rfl rfl (q_len_slice rfl Tryz.underlying51 rfl) ?_
   refine wa rfl rfl rfl (q_move (v := (pq gr_)) rfl (by kernel_rfl)) ?_
   refine wa rfl rfl rfl (q_nil (A := some ⟨gr_, 0, none⟩) rfl rfl rfl) ?_
   refine wa rfl rfl rfl (q_fl 1 fld_196_1 rfl rfl rfl) ?_
   refine wa rfl rfl rfl (q_ldl (i := 0) (v := .int .i64 o3.1.at_) rfl rfl Tryz.isAgg3 rfl rfl) ?_
   refine wa rfl rfl rfl (q_sub rfl rfl rfl) ?_
   refine wa rfl rfl rfl (q_gtr rfl rfl rfl) ?_
   refine WQ.nil ?_
   change WC _ _ _ _ _ _
   refine WC.cif h (by kernel_rfl) (fun hb14 h => ?_) (fun hb14 h => ?_)
   ·
    refine WC.region ?_
    refine vb (q_build (v := .agg #[]) rfl (fun w => by kernel_rfl)) ?_
    refine vb (q_iface rfl rfl (fun w => mkif Tryz.underlying194 w)) ?_
    refine e_panic (v := .iface 194 (.agg #[])) rfl (run_panicop rfl rfl) ?_
    intro w hw
    obtain rfl := Option.some.inj h
    subst hF
    first | exact end_t hw | exact fun _ => end_t hw
   ·
    refine WC.skip ?_
    intro w hw
    have hw := hw.fold (is := [0]) rfl hrow_13
    exact ⟨h, (sl_ (by kernel_rfl)), hw, trivial⟩
  ·
   rintro σ w ⟨h, hsl, hw, -⟩
   refine Wpt.slots hsl ?_
   refine WC.here (C := CC F Γ6 [row10]) ?_ hw
   clear hw hsl
   refine WC.rs ?_
   refine as_ (v := .slice none 0 0) ?_
   refine WR.done ?_
   refine WC.seq ?_
   refine WC.rs ?_
   refine mv (v := .int .i64 o3.2) ?_
   refine mv (v := .int .i64 0) ?_
   refine WR.done ?_
   refine WC.block ?_
   refine WC.forU h (fun (i29 : Nat) (s : (List Span) × Ocode_reader) σ w => match s with | (out_20, o25) => ∃ (Γ18 : Gh), ∃ (A21 : Option Addr), ∃ (c22 : Nat), ∃ (row23 : Rowb), ∃ (row26 : Rowb), slots σ [(1, .func (.func 164) #[(pq gr_)] #[]), (6, .slice A21 out_20.length c22), (23, .int .i64 o3.2), (24, .int .i64 ((i29 : Nat) : Int))] ∧ CC F Γ18 [row23, row26] w ∧ Gh.le Γ6 Γ18 ∧ Own spanT Γ18 41 row23 A21 c22 out_20 ∧ Ocode_reader.ob er_ Bo gr_ row26 o25 ∧ True) ?_ ?_
   ·
    intro w hw
    have hw := hw.pad
    exact ⟨Γ6, none, 0, [], row10, (sl_ (by kernel_rfl)), hw, (Gh.refl _), (Own.nil spanT _ 41), hr11, trivial⟩
   rintro f28 i29 ⟨out_20, o25⟩ σ w hi30 hlt31 hge32 ⟨Γ18, A21, c22, row23, row26, hsl, hw, hl19, ho24, ho27, -⟩
   refine Wpt.slots hsl ?_
   refine WC.here (C := CC F Γ18 [row23, row26]) ?_ hw
   clear hw hsl
   refine WC.rs ?_
   refine vb (q_lss rfl rfl rfl) ?_
   refine WR.done ?_
   refine WC.seq ?_
   refine WC.cond (b := (decide (((i29 : Nat) : Int) < o3.2))) (by kernel_rfl) (fun hb33 => ?_) (fun hb33 => ?_)
   ·
    have hl34 := ilti hb33
    have h := hlt31 hl34
    refine WC.skip ?_
    change WC _ _ _ _ _ _
    refine WC.seq ?_
    refine WC.block ?_
    refine WC.region ?_
    refine mv (v := .slice A21 out_20.length c22) ?_
    refine mv (v := .func (.func 164) #[(pq gr_)] #[]) ?_
    obtain ⟨z35, hz36, h⟩ := bnd h
    rcases z35 with _ | o37
    ·
     have h := optm_n rfl h
     refine e_callNW (is := [1]) rfl (call_run_fb (first := #[(pq gr_)]) Tryz.call164 rfl (by kernel_rfl) (by kernel_rfl)) rfl (fun w hw hp => t_code_reader_span_l1 ho27 hp (hO.pre (is := [1]) hw rfl) hz36) ?_
     intro Γ38 hl39
     intro w hw
     obtain rfl := Option.some.inj h
     subst hF
     first | exact end_t hw | exact fun _ => end_t hw
    ·
     have h := optm_s rfl h
     refine e_callW (is := [1]) rfl rfl (call_run_fb (first := #[(pq gr_)]) Tryz.call164 rfl (by kernel_rfl) (by kernel_rfl)) rfl (fun w hw hp => t_code_reader_span_l1 ho27 hp (hO.pre (is := [1]) hw rfl) hz36) ?_
     rintro Γ40 U42 v43 hl41 ⟨row44, rfl, rfl, hr45, hr46, _⟩
     change WR _ _ _ (CC F Γ40 [row44, row23]) _ _ (upd _ 28 (.agg #[.int .i64 o37.2.s, .int .i64 o37.2.f, .int .i64 o37.2.t]))
     refine e_buildSlice (cs := #[.int .i64 o37.2.s, .int .i64 o37.2.f, .int .i64 o37.2.t]) (e := 41) rfl rfl rfl rfl (fun w => by kernel_rfl) ?_
     intro g47
     obtain ⟨hk48, h⟩ := chk_some h
     refine e_append (T := spanT) (xs := out_20) (ys := [o37.2]) elem_37 (i := 2) rfl rfl rfl rfl rfl rfl rfl (ho24.mono hl41) (of_decide_eq_true hk48) (fun w hw => src_one (T := spanT) (y := o37.2) (i := 0) rfl (by exact ⟨rfl, hr46⟩) hw) ?_
     intro row49 A50 c51 ho52
     refine as_ (v := .slice A50 (out_20 ++ [o37.2]).length c51) ?_
     refine WR.nil ?_
     change WC _ _ _ _ _ _
     refine WC.region ?_
     refine vb (q_add_r (r := ((i29 + 1 : Nat) : Int)) rfl rfl rfl (ctr_int hl34 hr12)) ?_
     refine mv (v := .int .i64 ((i29 + 1 : Nat) : Int)) ?_
     refine WR.nil ?_
     intro w hw
     exact ⟨hl34, ((out_20 ++ [o37.2]), o37.1), h, Γ40, A50, c51, row49, row44, (sl_ (by kernel_rfl)), (hw.only (is := [2, 1]) rfl), (hl19.trans hl41), ho52, hr45, trivial⟩
   ·
    have h := hge32 (igei hb33)
    refine WC.exit ?_
    change WC _ _ _ _ _ _
    refine WC.rs ?_
    refine mv (v := .slice A21 out_20.length c22) ?_
    refine as_ (v := .slice A21 out_20.length c22) ?_
    refine WR.done ?_
    refine WC.ret ?_
    intro w hw
    obtain rfl := Option.some.inj h
    subst hF
    exact end_e (is := [1, 0]) (by kernel_rfl) hw rfl ⟨row26, A21, c22, row23, rfl, rfl, ho27, ho24, trivial⟩
abbrev r_code_reader_ver_l1 (Bo : Gh) (gr_ : Nat) (er_ : Nat) (r : Ocode_reader × Ver) (U : List Rowb) (Γ : Gh) (v : Value) : Prop := ∃ (rowr_' : Rowb), ∃ (A0_2 : Option Addr), ∃ (c0_2 : Nat), v = .agg #[.int .i64 r.2.dot.s, .int .i64 r.2.dot.n, .slice A0_2 r.2.past.length c0_2, .bool r.2.gone, .string r.2.val] ∧ U = [rowr_'] ∧ Ocode_reader.ob er_ Bo gr_ rowr_' r.1 ∧ Ver.fits Γ A0_2 c0_2 r.2 ∧ True
theorem t_code_reader_ver_l1 {Γ : Gh} {w0 : World} {Bo : Gh} {gr_ er_ : Nat} {rowr_ : Rowb} {r_ : Ocode_reader} (hr_ : Ocode_reader.ob er_ Bo gr_ rowr_ r_) (hp : Pre [rowr_] Γ w0) (hpO : Pre [rowr_] Bo w0) {r : Option (Ocode_reader × Ver)} (h : m_code_reader_ver r_ = some r) : Calls Tryz.prog 125 #[(pq gr_)] w0 (OutcT [{ v := (.iface 194 (.agg #[])), recovered := false }] Γ [rowr_] w0 (fun r => r_code_reader_ver_l1 Bo gr_ er_ r) r) := by
 refine calls_of_r (N := 30) (rs := [.cell 2 39]) (args := [(pq gr_)]) Tryz.func125 rfl Tryz.ntmps125 Tryz.results125 rfl ?_
 obtain ⟨F, hF⟩ : ∃ F : Fm, F = ⟨ids [rowr_], w0, Γ⟩ := ⟨_, rfl⟩
 refine WC.here (C := CC F Γ [rowr_]) ?_ (hF ▸ hp.start)
 have hO : Lent F Bo := hF ▸ Lent.start hpO
 refine WC.rs ?_
 refine e_alloc Tryz.zeroValue39 rfl rfl rfl rfl ?_
 intro g1
 refine WR.done ?_
 refine WC.rs ?_
 refine mv (v := (pq gr_)) ?_
 obtain ⟨z2, hz3, h⟩ := bnd h
 rcases z2 with _ | o4
 ·
  have h := optm_n rfl h
  refine e_callNW (is := [1]) rfl (call_run Tryz.call162 rfl rfl (by kernel_rfl)) rfl (fun w hw hp => t_code_reader_int_l1 hr_ hp (hO.pre (is := [1]) hw rfl) hz3) ?_
  intro Γ5 hl6
  intro w hw
  obtain rfl := Option.some.inj h
  subst hF
  first | exact end_t hw | exact fun _ => end_t hw
 ·
  have h := optm_s rfl h
  refine e_callW (is := [1]) rfl rfl (call_run Tryz.call162 rfl rfl (by kernel_rfl)) rfl (fun w hw hp => t_code_reader_int_l1 hr_ hp (hO.pre (is := [1]) hw rfl) hz3) ?_
  rintro Γ7 U9 v10 hl8 ⟨row11, rfl, rfl, hr12, hr13, _⟩
  change WR _ _ _ (CC F Γ7 [row11, [(g1, .cells #[.int .i64 0, .int .i64 0, .slice none 0 0, .bool false, .string ByteArray.empty] 39 (0, 0))]]) _ _ (upd _ 5 (.int .i64 o4.2))
  refine vb (q_build' (v := .agg #[.int .i64 o4.2, .int .i64 0]) rfl (bargs1 rfl) (fun w => by kernel_rfl)) ?_
  refine vb (q_build' (v := .agg #[.int .i64 o4.2, .int .i64 0, .slice none 0 0, .bool false, .string ByteArray.empty]) rfl (bargs1 rfl) (fun w => by kernel_rfl)) ?_
  refine e_alloc Tryz.zeroValue39 rfl rfl rfl rfl ?_
  intro g14
  refine e_st (i := 0) (v := .agg #[.int .i64 o4.2, .int .i64 0, .slice none 0 0, .bool false, .string ByteArray.empty]) (new := #[.int .i64 o4.2, .int .i64 0, .slice none 0 0, .bool false, .string ByteArray.empty]) rfl Tryz.sizeOf39 rfl rfl rfl rfl (by kernel_rfl) rfl rfl rfl rfl ?_
  refine WR.done ?_
  refine WC.rs ?_
  refine mv (v := (pq gr_)) ?_
  obtain ⟨z15, hz16, h⟩ := bnd h
  rcases z15 with _ | o17
  ·
   have h := optm_n rfl h
   refine e_callNW (is := [1]) rfl (call_run Tryz.call161 rfl rfl (by kernel_rfl)) rfl (fun w hw hp => t_code_reader_num_l1 hr12 hp (hO.pre (is := [1]) hw rfl) hz16) ?_
   intro Γ18 hl19
   intro w hw
   obtain rfl := Option.some.inj h
   subst hF
   first | exact end_t hw | exact fun _ => end_t hw
  ·
   have h := optm_s rfl h
   refine e_callW (is := [1]) rfl rfl (call_run Tryz.call161 rfl rfl (by kernel_rfl)) rfl (fun w hw hp => t_code_reader_num_l1 hr12 hp (hO.pre (is := [1]) hw rfl) hz16) ?_
   rintro Γ20 U22 v23 hl21 ⟨row24, rfl, rfl, hr25, hr26, _⟩
   change WR _ _ _ (CC F Γ20 [row24, [(g14, .cells #[.int .i64 o4.2, .int .i64 0, .slice none 0 0, .bool false, .string ByteArray.empty] 39 (0, 0))], [(g1, .cells #[.int .i64 0, .int .i64 0, .slice none 0 0, .bool false, .string ByteArray.empty] 39 (0, 0))]]) _ _ (upd _ 9 (.int .i64 o17.2))
   refine vb (q_fl 0 fld_39_0 rfl rfl rfl) ?_
   refine vb (q_fl 1 fld_36_1 rfl rfl rfl) ?_
   refine e_st (i := 1) (v := .int .i64 o17.2) (new := #[.int .i64 o4.2, .int .i64 o17.2, .slice none 0 0, .bool false, .string ByteArray.empty]) rfl Tryz.sizeOf2 rfl rfl rfl rfl (by kernel_rfl) rfl rfl rfl rfl ?_
   refine WR.done ?_
   refine WC.rs ?_
   refine mv (v := (pq gr_)) ?_
   refine mv (v := (pq gr_)) ?_
   refine vb (q_mkfn (v := .func (.func 164) #[(pq gr_)] #[]) rfl (by kernel_rfl)) ?_
   obtain ⟨z27, hz28, h⟩ := bnd h
   rcases z27 with _ | o29
   ·
    have h := optm_n rfl h
    refine e_callNW (is := [0]) rfl (call_run Tryz.call163 rfl rfl (by kernel_rfl)) rfl (fun w hw hp => t_code_take_api_Span_l1 hr25 hp (hO.pre (is := [0]) hw rfl) hz28) ?_
    intro Γ30 hl31
    intro w hw
    obtain rfl := Option.some.inj h
    subst hF
    first | exact end_t hw | exact fun _ => end_t hw
   ·
    have h := optm_s rfl h
    refine e_callW (is := [0]) rfl rfl (call_run Tryz.call163 rfl rfl (by kernel_rfl)) rfl (fun w hw hp => t_code_take_api_Span_l1 hr25 hp (hO.pre (is := [0]) hw rfl) hz28) ?_
    rintro Γ32 U34 v35 hl33 ⟨row36, A38, c39, row40, rfl, rfl, hr37, hr41, _⟩
    change WR _ _ _ (CC F Γ32 [row36, row40, [(g14, .cells #[.int .i64 o4.2, .int .i64 o17.2, .slice none 0 0, .bool false, .string ByteArray.empty] 39 (0, 0))], [(g1, .cells #[.int .i64 0, .int .i64 0, .slice none 0 0, .bool false, .string ByteArray.empty] 39 (0, 0))]]) _ _ (upd _ 15 (.slice A38 o29.2.length c39))
    refine vb (q_fl 2 fld_39_1 rfl rfl rfl) ?_
    refine e_st (i := 2) (v := .slice A38 o29.2.length c39) (new := #[.int .i64 o4.2, .int .i64 o17.2, .slice A38 o29.2.length c39, .bool false, .string ByteArray.empty]) rfl Tryz.sizeOf37 rfl rfl rfl rfl (by kernel_rfl) rfl rfl rfl rfl ?_
    refine WR.done ?_
    refine WC.cut (fun σ w => ∃ (x44 : Bool), ∃ (x45 : ByteArray), ∃ (o47 : Ocode_reader), ∃ (Γ42 : Gh), ∃ (row48 : Rowb), m_code_reader_ver_j1 o4 o17 o29 x44 x45 o47 = some r ∧ slots σ [(2, (pq g1)), (3, (pq g14))] ∧ CC F Γ42 [row48, row40, [(g14, .cells #[.int .i64 o4.2, .int .i64 o17.2, .slice A38 o29.2.length c39, .bool x44, .string x45] 39 (0, 0))], [(g1, .cells #[.int .i64 0, .int .i64 0, .slice none 0 0, .bool false, .string ByteArray.empty] 39 (0, 0))]] w ∧ Gh.le Γ32 Γ42 ∧ x45.size ≤ lim ∧ Ocode_reader.ob er_ Bo gr_ row48 o47 ∧ True) ?_ ?_
    ·
     refine WC.rs ?_
     refine mv (v := (pq gr_)) ?_
     obtain ⟨z50, hz51, h⟩ := bnd h
     rcases z50 with _ | o52
     ·
      have h := optm_n rfl h
      refine e_callNW (is := [0]) rfl (call_run Tryz.call161 rfl rfl (by kernel_rfl)) rfl (fun w hw hp => t_code_reader_num_l1 hr37 hp (hO.pre (is := [0]) hw rfl) hz51) ?_
      intro Γ53 hl54
      intro w hw
      obtain rfl := Option.some.inj h
      subst hF
      first | exact end_t hw | exact fun _ => end_t hw
     ·
      have h := optm_s rfl h
      refine e_callW (is := [0]) rfl rfl (call_run Tryz.call161 rfl rfl (by kernel_rfl)) rfl (fun w hw hp => t_code_reader_num_l1 hr37 hp (hO.pre (is := [0]) hw rfl) hz51) ?_
      rintro Γ55 U57 v58 hl56 ⟨row59, rfl, rfl, hr60, hr61, _⟩
      change WR _ _ _ (CC F Γ55 [row59, row40, [(g14, .cells #[.int .i64 o4.2, .int .i64 o17.2, .slice A38 o29.2.length c39, .bool false, .string ByteArray.empty] 39 (0, 0))], [(g1, .cells #[.int .i64 0, .int .i64 0, .slice none 0 0, .bool false, .string ByteArray.empty] 39 (0, 0))]]) _ _ (upd _ 18 (.int .i64 o52.2))
      refine WR.done ?_
      refine WC.block ?_
      refine WC.rs ?_
      refine vb (q_eql rfl rfl rfl) ?_
      refine as_ (v := .bool (o52.2 == 0)) ?_
      refine WR.done ?_
      refine WC.cif h (by kernel_rfl) (fun hb62 h => ?_) (fun hb62 h => ?_)
      ·
       refine WC.region ?_
       refine mv (v := (pq gr_)) ?_
       obtain ⟨z63, hz64, h⟩ := bnd h
       rcases z63 with _ | o65
       ·
        have h := optm_n rfl h
        refine e_callNW (is := [0]) rfl (call_run Tryz.call123 rfl rfl (by kernel_rfl)) rfl (fun w hw hp => t_code_reader_text_l1 hr60 hp (hO.pre (is := [0]) hw rfl) hz64) ?_
        intro Γ66 hl67
        intro w hw
        obtain rfl := Option.some.inj h
        subst hF
        first | exact end_t hw | exact fun _ => end_t hw
       ·
        have h := optm_s rfl h
        refine e_callW (is := [0]) rfl rfl (call_run Tryz.call123 rfl rfl (by kernel_rfl)) rfl (fun w hw hp => t_code_reader_text_l1 hr60 hp (hO.pre (is := [0]) hw rfl) hz64) ?_
        rintro Γ68 U70 v71 hl69 ⟨row72, rfl, rfl, hr73, hr74, _⟩
        change WR _ _ _ (CC F Γ68 [row72, row40, [(g14, .cells #[.int .i64 o4.2, .int .i64 o17.2, .slice A38 o29.2.length c39, .bool false, .string ByteArray.empty] 39 (0, 0))], [(g1, .cells #[.int .i64 0, .int .i64 0, .slice none 0 0, .bool false, .string ByteArray.empty] 39 (0, 0))]]) _ _ (upd _ 24 (.string o65.2))
        refine vb (q_fl 4 fld_39_3 rfl rfl rfl) ?_
        refine e_st (i := 2) (v := .string o65.2) (new := #[.int .i64 o4.2, .int .i64 o17.2, .slice A38 o29.2.length c39, .bool false, .string o65.2]) rfl Tryz.sizeOf9 rfl rfl rfl rfl (by kernel_rfl) rfl rfl rfl rfl ?_
        refine WR.nil ?_
        intro w hw
        exact ⟨false, o65.2, o65.1, Γ68, row72, h, (sl_ (by kernel_rfl)), hw, (hl56.trans hl69), hr74, hr73, trivial⟩
      ·
       refine WC.rs ?_
       refine vb (q_eql rfl rfl rfl) ?_
       refine as_ (v := .bool (o52.2 == 1)) ?_
       refine WR.done ?_
       refine WC.cif h (by kernel_rfl) (fun hb75 h => ?_) (fun hb75 h => ?_)
       ·
        refine WC.region ?_
        refine vb (q_fl 3 fld_39_2 rfl rfl rfl) ?_
        refine e_st (i := 2) (v := .bool true) (new := #[.int .i64 o4.2, .int .i64 o17.2, .slice A38 o29.2.length c39, .bool true, .string ByteArray.empty]) rfl Tryz.sizeOf4 rfl rfl rfl rfl (by kernel_rfl) rfl rfl rfl rfl ?_
        refine WR.nil ?_
        intro w hw
        exact ⟨true, ByteArray.empty, o52.1, Γ55, row59, h, (sl_ (by kernel_rfl)), hw, hl56, (show (ByteArray.empty : ByteArray).size ≤ lim by decide), hr60, trivial⟩
       ·
        refine WC.region ?_
        refine vb (q_build (v := .agg #[]) rfl (fun w => by kernel_rfl)) ?_
        refine vb (q_iface rfl rfl (fun w => mkif Tryz.underlying194 w)) ?_
        refine e_panic (v := .iface 194 (.agg #[])) rfl (run_panicop rfl rfl) ?_
        intro w hw
        obtain rfl := Option.some.inj h
        subst hF
        first | exact end_t hw | exact fun _ => end_t hw
    ·
     rintro σ w ⟨x44, x45, o47, Γ42, row48, h, hsl, hw, hl43, hr46, ho49, -⟩
     refine Wpt.slots hsl ?_
     refine WC.here (C := CC F Γ42 [row48, row40, [(g14, .cells #[.int .i64 o4.2, .int .i64 o17.2, .slice A38 o29.2.length c39, .bool x44, .string x45] 39 (0, 0))], [(g1, .cells #[.int .i64 0, .int .i64 0, .slice none 0 0, .bool false, .string ByteArray.empty] 39 (0, 0))]]) ?_ hw
     clear hw hsl
     refine WC.rs ?_
     refine vb (q_ldla (i := 2) (vs := [.int .i64 o4.2, .int .i64 o17.2, .slice A38 o29.2.length c39, .bool x44, .string x45]) rfl rfl Tryz.isAgg39 Tryz.sizeOf39 rfl rfl) ?_
     refine e_st (i := 3) (v := .agg #[.int .i64 o4.2, .int .i64 o17.2, .slice A38 o29.2.length c39, .bool x44, .string x45]) (new := #[.int .i64 o4.2, .int .i64 o17.2, .slice A38 o29.2.length c39, .bool x44, .string x45]) rfl Tryz.sizeOf39 rfl rfl rfl rfl (by kernel_rfl) rfl rfl rfl rfl ?_
     refine WR.done ?_
     refine WC.ret ?_
     intro w hw
     have hc82 := (hr41.mono hl43).capz
     obtain ⟨Γ78, hw, hl79, hr80⟩ := hw.seal (i := 1) rfl; have hs81 := (hr41.mono hl43).sl hl79 hr80
     obtain rfl := Option.some.inj h
     subst hF
     exact ⟨[.agg #[.int .i64 o4.2, .int .i64 o17.2, .slice A38 o29.2.length c39, .bool x44, .string x45]], (rr_agg (i := 3) (us := [.int .i64 o4.2, .int .i64 o17.2, .slice A38 o29.2.length c39, .bool x44, .string x45]) hw rfl Tryz.isAgg39 Tryz.sizeOf39 (by kernel_rfl) rfl rr_nil), end_e (is := [0]) (by kernel_rfl) hw rfl ⟨row48, A38, c39, rfl, rfl, ho49, ⟨hr13, hr26, ⟨hc82, hs81⟩, hr46⟩, trivial⟩⟩
abbrev r_code_take_api_Ver_l1 (Bo : Gh) (gr_ : Nat) (er_ : Nat) (r : Ocode_reader × (List Ver)) (U : List Rowb) (Γ : Gh) (v : Value) : Prop := ∃ (rowr_' : Rowb), ∃ (A0 : Option Addr), ∃ (c0 : Nat), ∃ (row0 : Rowb), v = .slice A0 r.2.length c0 ∧ U = [rowr_', row0] ∧ Ocode_reader.ob er_ Bo gr_ rowr_' r.1 ∧ Own verT Γ 39 row0 A0 c0 r.2 ∧ True
theorem t_code_take_api_Ver_l1 {Γ : Gh} {w0 : World} {Bo : Gh} {gr_ er_ : Nat} {rowr_ : Rowb} {r_ : Ocode_reader} (hr_ : Ocode_reader.ob er_ Bo gr_ rowr_ r_) (hp : Pre [rowr_] Γ w0) (hpO : Pre [rowr_] Bo w0) {r : Option (Ocode_reader × (List Ver))} (h : m_code_take_api_Ver r_ = some r) : Calls Tryz.prog 124 #[(pq gr_), .func (.func 125) #[(pq gr_)] #[]] w0 (OutcT [{ v := (.iface 194 (.agg #[])), recovered := false }] Γ [rowr_] w0 (fun r => r_code_take_api_Ver_l1 Bo gr_ er_ r) r) := by
 refine calls_of (N := 33) (rs := [4]) (args := [(pq gr_), .func (.func 125) #[(pq gr_)] #[]]) Tryz.func124 rfl Tryz.ntmps124 Tryz.results124 rfl ?_
 obtain ⟨F, hF⟩ : ∃ F : Fm, F = ⟨ids [rowr_], w0, Γ⟩ := ⟨_, rfl⟩
 refine WC.here (C := CC F Γ [rowr_]) ?_ (hF ▸ hp.start)
 have hO : Lent F Bo := hF ▸ Lent.start hpO
 refine WC.rs ?_
 refine as_ (v := .slice none 0 0) ?_
 refine WR.done ?_
 refine WC.rs ?_
 refine mv (v := (pq gr_)) ?_
 obtain ⟨z1, hz2, h⟩ := bnd h
 rcases z1 with _ | o3
 ·
  have h := optm_n rfl h
  refine e_callNW (is := [0]) rfl (call_run Tryz.call161 rfl rfl (by kernel_rfl)) rfl (fun w hw hp => t_code_reader_num_l1 hr_ hp (hO.pre (is := [0]) hw rfl) hz2) ?_
  intro Γ4 hl5
  intro w hw
  obtain rfl := Option.some.inj h
  subst hF
  first | exact end_t hw | exact fun _ => end_t hw
 ·
  have h := optm_s rfl h
  refine e_callW (is := [0]) rfl rfl (call_run Tryz.call161 rfl rfl (by kernel_rfl)) rfl (fun w hw hp => t_code_reader_num_l1 hr_ hp (hO.pre (is := [0]) hw rfl) hz2) ?_
  rintro Γ6 U8 v9 hl7 ⟨row10, rfl, rfl, hr11, hr12, _⟩
  change WR _ _ _ (CC F Γ6 [row10]) _ _ (upd _ 8 (.int .i64 o3.2))
  refine as_ (v := .int .i64 o3.2) ?_
  refine WR.done ?_
  refine WC.cut (fun σ w => m_code_take_api_Ver_j1 o3  = some r ∧ slots σ [(1, .func (.func 125) #[(pq gr_)] #[]), (5, .int .i64 o3.2)] ∧ CC F Γ6 [row10] w ∧ True) ?_ ?_
  ·
   refine WC.seq ?_
   have hq := hr11
   obtain ⟨A0_13, c0_13, hrow_13, ho0_13, ho1_13, ho2_13, -⟩ := hq
   intro w hw; have hw := hw.unfold (i := 0) rfl hrow_13
   refine WC.here (C := CC F Γ6 [[(gr_, .cells #[.slice A0_13 o3.1.b.length c0_13, .int .i64 o3.1.at_] er_ (0, 0))]]) ?_ hw
   clear hw
   refine WC.dr (by kernel_rfl) (by kernel_rfl) (fun w hw => hw.drawn _) ?_
   refine wa rfl rfl rfl (q_move (v := .int .i64 o3.2) rfl (by kernel_rfl)) ?_
   refine wa rfl rfl rfl (q_move (v := (pq gr_)) rfl (by kernel_rfl)) ?_
   refine wa rfl rfl rfl (q_nil (A := some ⟨gr_, 0, none⟩) rfl rfl rfl) ?_
   refine wa rfl rfl rfl (q_fl 0 fld_196_0 rfl rfl rfl) ?_
   refine wa rfl rfl rfl (q_ldl (i := 0) (v := .slice A0_13 o3.1.b.length c0_13) rfl rfl Tryz.isAgg51 rfl rfl) ?_
   refine wa rfl rfl rfl (q_len_slice rfl Tryz.underlying51 rfl) ?_
   refine wa rfl rfl rfl (q_move (v := (pq gr_)) rfl (by kernel_rfl)) ?_
   refine wa rfl rfl rfl (q_nil (A := some ⟨gr_, 0, none⟩) rfl rfl rfl) ?_
   refine wa rfl rfl rfl (q_fl 1 fld_196_1 rfl rfl rfl) ?_
   refine wa rfl rfl rfl (q_ldl (i := 0) (v := .int .i64 o3.1.at_) rfl rfl Tryz.isAgg3 rfl rfl) ?_
   refine wa rfl rfl rfl (q_sub rfl rfl rfl) ?_
   refine wa rfl rfl rfl (q_gtr rfl rfl rfl) ?_
   refine WQ.nil ?_
   change WC _ _ _ _ _ _
   refine WC.cif h (by kernel_rfl) (fun hb14 h => ?_) (fun hb14 h => ?_)
   ·
    refine WC.region ?_
    refine vb (q_build (v := .agg #[]) rfl (fun w => by kernel_rfl)) ?_
    refine vb (q_iface rfl rfl (fun w => mkif Tryz.underlying194 w)) ?_
    refine e_panic (v := .iface 194 (.agg #[])) rfl (run_panicop rfl rfl) ?_
    intro w hw
    obtain rfl := Option.some.inj h
    subst hF
    first | exact end_t hw | exact fun _ => end_t hw
   ·
    refine WC.skip ?_
    intro w hw
    have hw := hw.fold (is := [0]) rfl hrow_13
    exact ⟨h, (sl_ (by kernel_rfl)), hw, trivial⟩
  ·
   rintro σ w ⟨h, hsl, hw, -⟩
   refine Wpt.slots hsl ?_
   refine WC.here (C := CC F Γ6 [row10]) ?_ hw
   clear hw hsl
   refine WC.rs ?_
   refine as_ (v := .slice none 0 0) ?_
   refine WR.done ?_
   refine WC.seq ?_
   refine WC.rs ?_
   refine mv (v := .int .i64 o3.2) ?_
   refine mv (v := .int .i64 0) ?_
   refine WR.done ?_
   refine WC.block ?_
   refine WC.forU h (fun (i29 : Nat) (s : (List Ver) × Ocode_reader) σ w => match s with | (out_20, o25) => ∃ (Γ18 : Gh), ∃ (A21 : Option Addr), ∃ (c22 : Nat), ∃ (row23 : Rowb), ∃ (row26 : Rowb), slots σ [(1, .func (.func 125) #[(pq gr_)] #[]), (6, .slice A21 out_20.length c22), (23, .int .i64 o3.2), (24, .int .i64 ((i29 : Nat) : Int))] ∧ CC F Γ18 [row23, row26] w ∧ Gh.le Γ6 Γ18 ∧ Own verT Γ18 39 row23 A21 c22 out_20 ∧ Ocode_reader.ob er_ Bo gr_ row26 o25 ∧ True) ?_ ?_
   ·
    intro w hw
    have hw := hw.pad
    exact ⟨Γ6, none, 0, [], row10, (sl_ (by kernel_rfl)), hw, (Gh.refl _), (Own.nil verT _ 39), hr11, trivial⟩
   rintro f28 i29 ⟨out_20, o25⟩ σ w hi30 hlt31 hge32 ⟨Γ18, A21, c22, row23, row26, hsl, hw, hl19, ho24, ho27, -⟩
   refine Wpt.slots hsl ?_
   refine WC.here (C := CC F Γ18 [row23, row26]) ?_ hw
   clear hw hsl
   refine WC.rs ?_
   refine vb (q_lss rfl rfl rfl) ?_
   refine WR.done ?_
   refine WC.seq ?_
   refine WC.cond (b := (decide (((i29 : Nat) : Int) < o3.2))) (by kernel_rfl) (fun hb33 => ?_) (fun hb33 => ?_)
   ·
    have hl34 := ilti hb33
    have h := hlt31 hl34
    refine WC.skip ?_
    change WC _ _ _ _ _ _
    refine WC.seq ?_
    refine WC.block ?_
    refine WC.region ?_
    refine mv (v := .slice A21 out_20.length c22) ?_
    refine mv (v := .func (.func 125) #[(pq gr_)] #[]) ?_
    obtain ⟨z35, hz36, h⟩ := bnd h
    rcases z35 with _ | o37
    ·
     have h := optm_n rfl h
     refine e_callNW (is := [1]) rfl (call_run_fb (first := #[(pq gr_)]) Tryz.call125 rfl (by kernel_rfl) (by kernel_rfl)) rfl (fun w hw hp => t_code_reader_ver_l1 ho27 hp (hO.pre (is := [1]) hw rfl) hz36) ?_
     intro Γ38 hl39
     intro w hw
     obtain rfl := Option.some.inj h
     subst hF
     first | exact end_t hw | exact fun _ => end_t hw
    ·
     have h := optm_s rfl h
     refine e_callW (is := [1]) rfl rfl (call_run_fb (first := #[(pq gr_)]) Tryz.call125 rfl (by kernel_rfl) (by kernel_rfl)) rfl (fun w hw hp => t_code_reader_ver_l1 ho27 hp (hO.pre (is := [1]) hw rfl) hz36) ?_
     rintro Γ40 U42 v43 hl41 ⟨row44, A46, c47, rfl, rfl, hr45, hr48, _⟩
     change WR _ _ _ (CC F Γ40 [row44, row23]) _ _ (upd _ 28 (.agg #[.int .i64 o37.2.dot.s, .int .i64 o37.2.dot.n, .slice A46 o37.2.past.length c47, .bool o37.2.gone, .string o37.2.val]))
     refine e_buildSlice (cs := #[.int .i64 o37.2.dot.s, .int .i64 o37.2.dot.n, .slice A46 o37.2.past.length c47, .bool o37.2.gone, .string o37.2.val]) (e := 39) rfl rfl rfl rfl (fun w => by kernel_rfl) ?_
     intro g49
     obtain ⟨hk50, h⟩ := chk_some h
     refine e_append (T := verT) (xs := out_20) (ys := [o37.2]) elem_22 (i := 2) rfl rfl rfl rfl rfl rfl rfl (ho24.mono hl41) (of_decide_eq_true hk50) (fun w hw => src_one (T := verT) (y := o37.2) (i := 0) rfl (by exact ⟨A46, c47, rfl, hr48⟩) hw) ?_
     intro row51 A52 c53 ho54
     refine as_ (v := .slice A52 (out_20 ++ [o37.2]).length c53) ?_
     refine WR.nil ?_
     change WC _ _ _ _ _ _
     refine WC.region ?_
     refine vb (q_add_r (r := ((i29 + 1 : Nat) : Int)) rfl rfl rfl (ctr_int hl34 hr12)) ?_
     refine mv (v := .int .i64 ((i29 + 1 : Nat) : Int)) ?_
     refine WR.nil ?_
     intro w hw
     exact ⟨hl34, ((out_20 ++ [o37.2]), o37.1), h, Γ40, A52, c53, row51, row44, (sl_ (by kernel_rfl)), (hw.only (is := [2, 1]) rfl), (hl19.trans hl41), ho54, hr45, trivial⟩
   ·
    have h := hge32 (igei hb33)
    refine WC.exit ?_
    change WC _ _ _ _ _ _
    refine WC.rs ?_
    refine mv (v := .slice A21 out_20.length c22) ?_
    refine as_ (v := .slice A21 out_20.length c22) ?_
    refine WR.done ?_
    refine WC.ret ?_
    intro w hw
    obtain rfl := Option.some.inj h
    subst hF
    exact end_e (is := [1, 0]) (by kernel_rfl) hw rfl ⟨row26, A21, c22, row23, rfl, rfl, ho27, ho24, trivial⟩
abbrev r_code_reader_rec_l1 (Bo : Gh) (gr_ : Nat) (er_ : Nat) (r : Ocode_reader × Rec) (U : List Rowb) (Γ : Gh) (v : Value) : Prop := ∃ (rowr_' : Rowb), ∃ (A0_1 : Option Addr), ∃ (c0_1 : Nat), v = .agg #[.string r.2.key, .slice A0_1 r.2.vers.length c0_1] ∧ U = [rowr_'] ∧ Ocode_reader.ob er_ Bo gr_ rowr_' r.1 ∧ Rec.fits Γ A0_1 c0_1 r.2 ∧ True
theorem t_code_reader_rec_l1 {Γ : Gh} {w0 : World} {Bo : Gh} {gr_ er_ : Nat} {rowr_ : Rowb} {r_ : Ocode_reader} (hr_ : Ocode_reader.ob er_ Bo gr_ rowr_ r_) (hp : Pre [rowr_] Γ w0) (hpO : Pre [rowr_] Bo w0) {r : Option (Ocode_reader × Rec)} (h : m_code_reader_rec r_ = some r) : Calls Tryz.prog 78 #[(pq gr_)] w0 (OutcT [{ v := (.iface 194 (.agg #[])), recovered := false }] Γ [rowr_] w0 (fun r => r_code_reader_rec_l1 Bo gr_ er_ r) r) := by
 refine calls_of_r (N := 12) (rs := [.cell 2 24]) (args := [(pq gr_)]) Tryz.func78 rfl Tryz.ntmps78 Tryz.results78 rfl ?_
 obtain ⟨F, hF⟩ : ∃ F : Fm, F = ⟨ids [rowr_], w0, Γ⟩ := ⟨_, rfl⟩
 refine WC.here (C := CC F Γ [rowr_]) ?_ (hF ▸ hp.start)
 have hO : Lent F Bo := hF ▸ Lent.start hpO
 refine WC.rs ?_
 refine e_alloc Tryz.zeroValue24 rfl rfl rfl rfl ?_
 intro g1
 refine WR.done ?_
 refine WC.rs ?_
 refine mv (v := (pq gr_)) ?_
 obtain ⟨z2, hz3, h⟩ := bnd h
 rcases z2 with _ | o4
 ·
  have h := optm_n rfl h
  refine e_callNW (is := [1]) rfl (call_run Tryz.call123 rfl rfl (by kernel_rfl)) rfl (fun w hw hp => t_code_reader_text_l1 hr_ hp (hO.pre (is := [1]) hw rfl) hz3) ?_
  intro Γ5 hl6
  intro w hw
  obtain rfl := Option.some.inj h
  subst hF
  first | exact end_t hw | exact fun _ => end_t hw
 ·
  have h := optm_s rfl h
  refine e_callW (is := [1]) rfl rfl (call_run Tryz.call123 rfl rfl (by kernel_rfl)) rfl (fun w hw hp => t_code_reader_text_l1 hr_ hp (hO.pre (is := [1]) hw rfl) hz3) ?_
  rintro Γ7 U9 v10 hl8 ⟨row11, rfl, rfl, hr12, hr13, _⟩
  change WR _ _ _ (CC F Γ7 [row11, [(g1, .cells #[.string ByteArray.empty, .slice none 0 0] 24 (0, 0))]]) _ _ (upd _ 5 (.string o4.2))
  refine as_ (v := .string o4.2) ?_
  refine WR.done ?_
  refine WC.rs ?_
  refine mv (v := .string o4.2) ?_
  refine mv (v := (pq gr_)) ?_
  refine mv (v := (pq gr_)) ?_
  refine vb (q_mkfn (v := .func (.func 125) #[(pq gr_)] #[]) rfl (by kernel_rfl)) ?_
  obtain ⟨z14, hz15, h⟩ := bnd h
  rcases z14 with _ | o16
  ·
   have h := optm_n rfl h
   refine e_callNW (is := [0]) rfl (call_run Tryz.call124 rfl rfl (by kernel_rfl)) rfl (fun w hw hp => t_code_take_api_Ver_l1 hr12 hp (hO.pre (is := [0]) hw rfl) hz15) ?_
   intro Γ17 hl18
   intro w hw
   obtain rfl := Option.some.inj h
   subst hF
   first | exact end_t hw | exact fun _ => end_t hw
  ·
   have h := optm_s rfl h
   refine e_callW (is := [0]) rfl rfl (call_run Tryz.call124 rfl rfl (by kernel_rfl)) rfl (fun w hw hp => t_code_take_api_Ver_l1 hr12 hp (hO.pre (is := [0]) hw rfl) hz15) ?_
   rintro Γ19 U21 v22 hl20 ⟨row23, A25, c26, row27, rfl, rfl, hr24, hr28, _⟩
   change WR _ _ _ (CC F Γ19 [row23, row27, [(g1, .cells #[.string ByteArray.empty, .slice none 0 0] 24 (0, 0))]]) _ _ (upd _ 10 (.slice A25 o16.2.length c26))
   refine vb (q_build' (v := .agg #[.string o4.2, .slice A25 o16.2.length c26]) rfl (bargs2 rfl rfl) (fun w => by kernel_rfl)) ?_
   refine e_st (i := 2) (v := .agg #[.string o4.2, .slice A25 o16.2.length c26]) (new := #[.string o4.2, .slice A25 o16.2.length c26]) rfl Tryz.sizeOf24 rfl rfl rfl rfl (by kernel_rfl) rfl rfl rfl rfl ?_
   refine WR.done ?_
   refine WC.ret ?_
   intro w hw
   have hc33 := hr28.capz
   obtain ⟨Γ29, hw, hl30, hr31⟩ := hw.seal (i := 1) rfl; have hs32 := hr28.sl hl30 hr31
   obtain rfl := Option.some.inj h
   subst hF
   exact ⟨[.agg #[.string o4.2, .slice A25 o16.2.length c26]], (rr_agg (i := 2) (us := [.string o4.2, .slice A25 o16.2.length c26]) hw rfl Tryz.isAgg24 Tryz.sizeOf24 (by kernel_rfl) rfl rr_nil), end_e (is := [0]) (by kernel_rfl) hw rfl ⟨row23, A25, c26, rfl, rfl, hr24, ⟨hr13, ⟨hc33, hs32⟩⟩, trivial⟩⟩
abbrev r_code_whole_api_Rec_l1 (r : Rec × Int) (U : List Rowb) (Γ : Gh) (v : Value) : Prop := ∃ (A0_1 : Option Addr), ∃ (c0_1 : Nat), v = .tuple #[.agg #[.string r.1.key, .slice A0_1 r.1.vers.length c0_1], .int .i64 r.2] ∧ U = [] ∧ Rec.fits Γ A0_1 c0_1 r.1 ∧ I64 r.2 ∧ True
theorem t_code_whole_api_Rec_l1 {Γ : Gh} {w0 : World} {B : Gh} {Ab : Option Addr} {cb : Nat} {b : List UInt8} (hb : Sl byteT B Ab b) (hbc : b.length ≤ cb) (hp : Pre [] Γ w0) (hpB : Pre [] B w0) {r : Rec × Int} (h : m_code_whole_api_Rec b = some r) : Calls Tryz.prog 77 #[.slice Ab b.length cb, .func (.func 78) #[] #[], .func (.func 79) #[] #[]] w0 (Outc Γ [] w0 (r_code_whole_api_Rec_l1 r)) := by
 refine calls_door (n := 32) (args := [.slice Ab b.length cb, .func (.func 78) #[] #[], .func (.func 79) #[] #[]]) Tryz.func77 rfl Tryz.ntmps77 rfl ?_
 obtain ⟨F, hF⟩ : ∃ F : Fm, F = ⟨ids [], w0, Γ⟩ := ⟨_, rfl⟩
 refine WX.here (C := CC F Γ []) ?_ (hF ▸ hp.start)
 have hB : Lent F B := hF ▸ Lent.start hpB
 refine WX.seq ?_
 refine WC.region ?_
 refine e_alloc Tryz.zeroValue24 rfl rfl rfl rfl ?_
 intro g1
 refine e_alloc Tryz.zeroValue30 rfl rfl rfl rfl ?_
 intro g2
 refine WR.nil ?_
 change WX _ _ _ _ _ _ _
 refine WX.defer (v := .func (.func 122) #[] #[(pq g1), (pq g2)]) (d := ⟨.fn (.func 122) #[(pq g1), (pq g2)], #[]⟩) rfl rfl rfl rfl (q_mkfn (v := .func (.func 122) #[] #[(pq g1), (pq g2)]) rfl (by kernel_rfl)) (run_defer rfl rfl) ?_
 refine WX.last ?_
 change WC _ _ _ _ _ _
 refine WC.rs ?_
 refine mv (v := .slice Ab b.length cb) ?_
 refine vb (q_build' (v := .agg #[.slice Ab b.length cb, .int .i64 0]) rfl (bargs1 rfl) (fun w => by kernel_rfl)) ?_
 refine e_box (v := .agg #[.slice Ab b.length cb, .int .i64 0]) rfl rfl rfl rfl (by kernel_rfl) ?_
 intro g3
 refine as_ (v := (pq g3)) ?_
 refine WR.done ?_
 refine WC.rs ?_
 refine mv (v := .func (.func 78) #[] #[]) ?_
 refine mv (v := (pq g3)) ?_
 obtain ⟨row_4, hrow_4, hob_4⟩ : ∃ rw : Rowb, rw = ([[(g3, .cells #[.slice Ab b.length cb, .int .i64 0] 196 (0, 0))]] : List Rowb).flatten ∧ Ocode_reader.ob 196 B g3 rw (⟨b, 0⟩ : Ocode_reader) := ⟨_, rfl, Ab, cb, rfl, hbc, hb, (show I64 0 by decide), trivial⟩
 intro w hw; have hw := hw.fold (is := [0]) rfl hrow_4
 refine WR.here (C := CC F Γ [row_4, [(g2, .cells #[.int .i64 0] 30 (0, 0))], [(g1, .cells #[.string ByteArray.empty, .slice none 0 0] 24 (0, 0))]]) ?_ hw
 clear hw
 obtain ⟨z5, hz6, h⟩ := bnd h
 rcases z5 with _ | o7
 ·
  have h := optm_n rfl h
  refine e_callNW (is := [0]) rfl (call_run_fv (caps := #[]) Tryz.call78 rfl (by kernel_rfl) (by kernel_rfl)) rfl (fun w hw hp => t_code_reader_rec_l1 hob_4 hp (hB.pre (is := [0]) hw rfl) hz6) ?_
  intro Γ8 hl9
  change ∀ w, CC F Γ8 [[(g2, .cells #[.int .i64 0] 30 (0, 0))], [(g1, .cells #[.string ByteArray.empty, .slice none 0 0] 24 (0, 0))]] w → _
  obtain ⟨z10, hz11, h⟩ := bnd h
  refine door_panic (rs := [.cell 6 24, .cell 7 30]) (is := [1, 0]) Tryz.results77 (invoke_fn Tryz.call122) rfl rfl (fun w hp => t_code_whole_api_Rec_1 ByteArray.empty (show (ByteArray.empty : ByteArray).size ≤ lim by decide) (Sl.nil verT _ none) (Nat.zero_le 0) 0 (show I64 0 by decide) hp hz11) ?_
  rintro Γ12 U14 v15 hl13 ⟨A17, c18, rfl, rfl, hr16, hc20, hr19, hr21, _⟩
  change WRt _ _ _ (CC F Γ12 [[(g1, .cells #[.string z10.1, .slice A17 z10.2.1.length c18] 24 (0, 0))], [(g2, .cells #[.int .i64 z10.2.2] 30 (0, 0))]]) _
  unfold WRt
  intro w hw
  obtain rfl := Option.some.inj h
  subst hF
  exact ⟨[.agg #[.string z10.1, .slice A17 z10.2.1.length c18], .int .i64 z10.2.2], (rr_agg (i := 0) (us := [.string z10.1, .slice A17 z10.2.1.length c18]) hw rfl Tryz.isAgg24 Tryz.sizeOf24 (by kernel_rfl) rfl (rr_cell (i := 1) hw rfl Tryz.isAgg30 (by kernel_rfl) rfl rr_nil)), end_e (is := []) (by kernel_rfl) hw rfl ⟨A17, c18, rfl, rfl, ⟨hr16, ⟨hc20, hr19⟩⟩, hr21, trivial⟩⟩
 ·
  have h := optm_s rfl h
  refine e_callW (is := [0]) rfl rfl (call_run_fv (caps := #[]) Tryz.call78 rfl (by kernel_rfl) (by kernel_rfl)) rfl (fun w hw hp => t_code_reader_rec_l1 hob_4 hp (hB.pre (is := [0]) hw rfl) hz6) ?_
  rintro Γ22 U24 v25 hl23 ⟨row26, A28, c29, rfl, rfl, hr27, hr30, _⟩
  change WR _ _ _ (CC F Γ22 [row26, [(g2, .cells #[.int .i64 0] 30 (0, 0))], [(g1, .cells #[.string ByteArray.empty, .slice none 0 0] 24 (0, 0))]]) _ _ (upd _ 15 (.agg #[.string o7.2.key, .slice A28 o7.2.vers.length c29]))
  refine e_st (i := 2) (v := .agg #[.string o7.2.key, .slice A28 o7.2.vers.length c29]) (new := #[.string o7.2.key, .slice A28 o7.2.vers.length c29]) rfl Tryz.sizeOf24 rfl rfl rfl rfl (by kernel_rfl) rfl rfl rfl rfl ?_
  refine WR.done ?_
  refine WC.cut (fun σ w => m_code_whole_api_Rec_j1 o7  = some r ∧ slots σ [(6, (pq g1)), (7, (pq g2))] ∧ CC F Γ22 [row26, [(g2, .cells #[.int .i64 0] 30 (0, 0))], [(g1, .cells #[.string o7.2.key, .slice A28 o7.2.vers.length c29] 24 (0, 0))]] w ∧ True) ?_ ?_
  ·
   refine WC.rs ?_
   refine mv (v := (pq g3)) ?_
   refine vb (q_nil (A := some ⟨g3, 0, none⟩) rfl rfl rfl) ?_
   refine vb (q_fl 1 fld_196_1 rfl rfl rfl) ?_
   have hq := hr27
   obtain ⟨A0_31, c0_31, hrow_31, ho0_31, ho1_31, ho2_31, -⟩ := hq
   intro w hw; have hw := hw.unfold (i := 0) rfl hrow_31
   refine WR.here (C := CC F Γ22 [[(g3, .cells #[.slice A0_31 o7.1.b.length c0_31, .int .i64 o7.1.at_] 196 (0, 0))], [(g2, .cells #[.int .i64 0] 30 (0, 0))], [(g1, .cells #[.string o7.2.key, .slice A28 o7.2.vers.length c29] 24 (0, 0))]]) ?_ hw
   clear hw
   refine vb (q_ldl (i := 0) (v := .int .i64 o7.1.at_) rfl rfl Tryz.isAgg3 rfl rfl) ?_
   refine mv (v := .slice Ab b.length cb) ?_
   refine vb (q_len_slice rfl Tryz.underlying51 rfl) ?_
   refine vb (q_neq rfl rfl rfl) ?_
   refine mv (v := .bool (o7.1.at_ != ((b.length : Nat) : Int))) ?_
   refine vg0 rfl rfl rfl rfl rfl (fun hg32 => QV.qo (q_move (v := .func (.func 79) #[] #[]) rfl (by kernel_rfl))) ?_
   refine vg0 rfl rfl rfl rfl rfl (fun hg33 => QV.qo (q_ldla (i := 2) (vs := [.string o7.2.key, .slice A28 o7.2.vers.length c29]) rfl rfl Tryz.isAgg24 Tryz.sizeOf24 rfl rfl)) ?_
   obtain ⟨z35, hz36, h⟩ := bnd h
   refine vg0 rfl rfl rfl rfl rfl (fun hg34 => (q_call (call_run_fv (caps := #[]) (args := #[.agg #[.string o7.2.key, .slice A28 o7.2.vers.length c29]]) Tryz.call79 rfl (gu hg34 rfl) ((congrArg (· ++ #[]) (args1 (gu hg34 rfl))).trans (by kernel_rfl))) (fun w hw => t_code_RightRec (Γ := Gh.all w) o7.2 (Rec.fits_mono hr30 hw.sat.le_all) (Sat.all w) (gc_of hz36 hg34)))) ?_
   refine vg0 rfl rfl rfl rfl rfl (fun hg37 => QV.qo (q_not rfl (gu hg37 rfl))) ?_
   refine vb (q_pick rfl rfl (pk_or' (g := (o7.1.at_ != ((b.length : Nat) : Int))) (y := (!z35)))) ?_
   refine WR.done ?_
   refine WC.cif h (by kernel_rfl) (fun hb38 h => ?_) (fun hb38 h => ?_)
   ·
    refine WC.region ?_
    refine vb (q_build (v := .agg #[]) rfl (fun w => by kernel_rfl)) ?_
    refine vb (q_iface rfl rfl (fun w => mkif Tryz.underlying194 w)) ?_
    refine e_panic (v := .iface 194 (.agg #[])) rfl (run_panicop rfl rfl) ?_
    change ∀ w, CC F Γ22 [[(g3, .cells #[.slice A0_31 o7.1.b.length c0_31, .int .i64 o7.1.at_] 196 (0, 0))], [(g2, .cells #[.int .i64 0] 30 (0, 0))], [(g1, .cells #[.string o7.2.key, .slice A28 o7.2.vers.length c29] 24 (0, 0))]] w → _
    obtain ⟨z41, hz42, h⟩ := bnd h
    refine door_panic (rs := [.cell 6 24, .cell 7 30]) (is := [2, 1]) Tryz.results77 (invoke_fn Tryz.call122) rfl rfl (fun w hp => t_code_whole_api_Rec_1 o7.2.key hr30.1 hr30.2.2 hr30.2.1 0 (show I64 0 by decide) hp hz42) ?_
    rintro Γ43 U45 v46 hl44 ⟨A48, c49, rfl, rfl, hr47, hc51, hr50, hr52, _⟩
    change WRt _ _ _ (CC F Γ43 [[(g1, .cells #[.string z41.1, .slice A48 z41.2.1.length c49] 24 (0, 0))], [(g2, .cells #[.int .i64 z41.2.2] 30 (0, 0))], [(g3, .cells #[.slice A0_31 o7.1.b.length c0_31, .int .i64 o7.1.at_] 196 (0, 0))]]) _
    unfold WRt
    intro w hw
    obtain rfl := Option.some.inj h
    subst hF
    exact ⟨[.agg #[.string z41.1, .slice A48 z41.2.1.length c49], .int .i64 z41.2.2], (rr_agg (i := 0) (us := [.string z41.1, .slice A48 z41.2.1.length c49]) hw rfl Tryz.isAgg24 Tryz.sizeOf24 (by kernel_rfl) rfl (rr_cell (i := 1) hw rfl Tryz.isAgg30 (by kernel_rfl) rfl rr_nil)), end_e (is := []) (by kernel_rfl) hw rfl ⟨A48, c49, rfl, rfl, ⟨hr47, ⟨hc51, hr50⟩⟩, hr52, trivial⟩⟩
   ·
    refine WC.skip ?_
    intro w hw
    have hw := hw.fold (is := [0]) rfl hrow_31
    exact ⟨h, (sl_ (by kernel_rfl)), hw, trivial⟩
  ·
   rintro σ w ⟨h, hsl, hw, -⟩
   refine Wpt.slots hsl ?_
   refine WC.here (C := CC F Γ22 [row26, [(g2, .cells #[.int .i64 0] 30 (0, 0))], [(g1, .cells #[.string o7.2.key, .slice A28 o7.2.vers.length c29] 24 (0, 0))]]) ?_ hw
   clear hw hsl
   refine WC.rs ?_
   refine vb (q_ldla (i := 2) (vs := [.string o7.2.key, .slice A28 o7.2.vers.length c29]) rfl rfl Tryz.isAgg24 Tryz.sizeOf24 rfl rfl) ?_
   refine e_st (i := 2) (v := .agg #[.string o7.2.key, .slice A28 o7.2.vers.length c29]) (new := #[.string o7.2.key, .slice A28 o7.2.vers.length c29]) rfl Tryz.sizeOf24 rfl rfl rfl rfl (by kernel_rfl) rfl rfl rfl rfl ?_
   refine e_st (i := 1) (v := .int .i64 0) (new := #[.int .i64 0]) rfl Tryz.sizeOf30 rfl rfl rfl rfl (by kernel_rfl) rfl rfl rfl rfl ?_
   refine WR.done ?_
   refine WC.ret ?_
   refine door_ret (rs := [.cell 6 24, .cell 7 30]) Tryz.results77 (invoke_fn Tryz.call122) (idle_122 ((pq g1)) ((pq g2))) ?_
   unfold WRt
   intro w hw
   obtain rfl := Option.some.inj h
   subst hF
   exact ⟨[.agg #[.string o7.2.key, .slice A28 o7.2.vers.length c29], .int .i64 0], (rr_agg (i := 2) (us := [.string o7.2.key, .slice A28 o7.2.vers.length c29]) hw rfl Tryz.isAgg24 Tryz.sizeOf24 (by kernel_rfl) rfl (rr_cell (i := 1) hw rfl Tryz.isAgg30 (by kernel_rfl) rfl rr_nil)), end_e (is := []) (by kernel_rfl) hw rfl ⟨A28, c29, rfl, rfl, hr30, (show I64 0 by decide), trivial⟩⟩
abbrev r_code_Rec_l1 (r : Rec × Int) (U : List Rowb) (Γ : Gh) (v : Value) : Prop := ∃ (A0_1 : Option Addr), ∃ (c0_1 : Nat), v = .tuple #[.agg #[.string r.1.key, .slice A0_1 r.1.vers.length c0_1], .int .i64 r.2] ∧ U = [] ∧ Rec.fits Γ A0_1 c0_1 r.1 ∧ I64 r.2 ∧ True
theorem t_code_Rec_l1 {Γ : Gh} {w0 : World} {B : Gh} {Ab : Option Addr} {cb : Nat} {b : List UInt8} (hb : Sl byteT B Ab b) (hbc : b.length ≤ cb) (hp : Pre [] Γ w0) (hpB : Pre [] B w0) {r : Rec × Int} (h : m_code_Rec b = some r) : Calls Tryz.prog 34 #[.slice Ab b.length cb] w0 (Outc Γ [] w0 (r_code_Rec_l1 r)) := by
 refine calls_of_r (N := 8) (rs := [.cell 2 24, .tmp 3]) (args := [.slice Ab b.length cb]) Tryz.func34 rfl Tryz.ntmps34 Tryz.results34 rfl ?_
 obtain ⟨F, hF⟩ : ∃ F : Fm, F = ⟨ids [], w0, Γ⟩ := ⟨_, rfl⟩
 refine WC.here (C := CC F Γ []) ?_ (hF ▸ hp.start)
 have hB : Lent F B := hF ▸ Lent.start hpB
 refine WC.rs ?_
 refine e_alloc Tryz.zeroValue24 rfl rfl rfl rfl ?_
 intro g1
 refine as_ (v := .int .i64 0) ?_
 refine WR.done ?_
 refine WC.rs ?_
 refine mv (v := .slice Ab b.length cb) ?_
 obtain ⟨z2, hz3, h⟩ := bnd h
 refine e_callB (is := []) hB rfl rfl (call_run Tryz.call77 rfl rfl (by kernel_rfl)) rfl (fun w Θ hp hpB hle hleB hR => t_code_whole_api_Rec_l1 (hb.mono hleB) hbc hp hpB hz3) ?_
 rintro Γ4 U6 v7 hl5 ⟨A8, c9, rfl, rfl, hr10, hr11, _⟩
 change WR _ _ _ (CC F Γ4 [[(g1, .cells #[.string ByteArray.empty, .slice none 0 0] 24 (0, 0))]]) _ _ (upd _ 5 (.tuple #[.agg #[.string z2.1.key, .slice A8 z2.1.vers.length c9], .int .i64 z2.2]))
 refine vb (q_extract (v := .agg #[.string z2.1.key, .slice A8 z2.1.vers.length c9]) rfl rfl rfl) ?_
 refine vb (q_extract (v := .int .i64 z2.2) rfl rfl rfl) ?_
 refine e_st (i := 0) (v := .agg #[.string z2.1.key, .slice A8 z2.1.vers.length c9]) (new := #[.string z2.1.key, .slice A8 z2.1.vers.length c9]) rfl Tryz.sizeOf24 rfl rfl rfl rfl (by kernel_rfl) rfl rfl rfl rfl ?_
 refine as_ (v := .int .i64 z2.2) ?_
 refine WR.done ?_
 refine WC.ret ?_
 intro w hw
 obtain rfl := Option.some.inj h
 subst hF
 exact ⟨[.agg #[.string z2.1.key, .slice A8 z2.1.vers.length c9], .int .i64 z2.2], (rr_agg (i := 0) (us := [.string z2.1.key, .slice A8 z2.1.vers.length c9]) hw rfl Tryz.isAgg24 Tryz.sizeOf24 (by kernel_rfl) rfl (rr_tmp (by kernel_rfl) rr_nil)), end_e (is := []) (by kernel_rfl) hw rfl ⟨A8, c9, rfl, rfl, hr10, hr11, trivial⟩⟩
abbrev r_store_Store_Get_l1 (r : List Ver) (U : List Rowb) (Γ : Gh) (v : Value) : Prop := ∃ (A0 : Option Addr), ∃ (c0 : Nat), v = .slice A0 r.length c0 ∧ U = [] ∧ r.length ≤ c0 ∧ Sl verT Γ A0 r ∧ True
theorem t_store_Store_Get_l1 {Γ : Gh} {w0 : World} {B : Gh} {gs_ : Nat} {es_ : Nat × Nat} {rows_ : Rowb} {s_ : Ostore_Store} (hs_ : Ostore_Store.ob es_ B gs_ rows_ s_) (hs_r : ∀ p ∈ rows_, B p.1 = some p.2) (key : ByteArray) (hkey : key.size ≤ lim) (hp : Pre [] Γ w0) (hpB : Pre [] B w0) {r : List Ver} (h : m_store_Store_Get_l1 s_ key = some r) : Calls Tryz.prog 12 #[(pq gs_), .string key] w0 (Outc Γ [] w0 (r_store_Store_Get_l1 r)) := by
 refine calls_of (N := 19) (rs := [4]) (args := [(pq gs_), .string key]) Tryz.func12 rfl Tryz.ntmps12 Tryz.results12 rfl ?_
 obtain ⟨F, hF⟩ : ∃ F : Fm, F = ⟨ids [], w0, Γ⟩ := ⟨_, rfl⟩
 refine WC.here (C := CC F Γ []) ?_ (hF ▸ hp.start)
 have hB : Lent F B := hF ▸ Lent.start hpB
 refine WC.rs ?_
 refine as_ (v := .slice none 0 0) ?_
 refine WR.done ?_
 refine WC.rs ?_
 refine mv (v := (pq gs_)) ?_
 refine vb (q_nil (A := some ⟨gs_, 0, none⟩) rfl rfl rfl) ?_
 refine vb (q_fl 1 fld_86_1 rfl rfl rfl) ?_
 have hq := hs_
 obtain ⟨g0_1, r0_1, m1_1, r1_1, hrow_1, ho0_1, ho1_1, -⟩ := hq
 have hg_2 : ∀ u ∈ ([[(gs_, .cells #[(pq g0_1), .map (some m1_1)] es_.1 (0, 0))], r0_1, r1_1] : List Rowb), ∀ p ∈ u, B p.1 = some p.2 := fun u hu p hp => (fun p hp => (hs_r p hp)) p (hrow_1 ▸ List.mem_flatten.2 ⟨u, hu, hp⟩)
 have hgc3 := hg_2 _ (List.mem_cons_self ..) (gs_, _) (List.mem_singleton.2 rfl)
 have hgs4 := hg_2 r0_1 (by simp)
 have hgs5 := hg_2 r1_1 (by simp)
 refine vb (q_via (fun w hw => hB.sat hw) fun F => (q_ldg (v := .map (some m1_1)) hgc3 rfl Tryz.isAgg76 rfl rfl)) ?_
 refine mv (v := .string key) ?_
 obtain ⟨v6, ⟨A9, c10, hv7, hc11, hs12⟩, hat8⟩ := MapO.look ho1_1 key (z := .slice none 0 0) (zx := []) ⟨none, 0, rfl, Nat.zero_le _, Sl.nil _ _ _⟩
 obtain rfl : v6 = _ := List.cons.inj hv7 |>.1
 refine vb (q_via (fun w hw => hB.sat hw) fun F => (q_lookup1g (v := .slice A9 ((mget key s_.keys).getD []).length c10) (fun p hp => (hgs5 p hp)) hat8 rfl Tryz.underlying76 Tryz.zeroValue51 rfl rfl)) ?_
 obtain ⟨z13, hz14, h⟩ := bnd h
 refine e_callB (is := []) hB rfl rfl (call_run Tryz.call34 rfl rfl (by kernel_rfl)) rfl (fun w Θ hp hpB hle hleB hR => t_code_Rec_l1 (hs12.mono hleB) hc11 hp hpB hz14) ?_
 rintro Γ15 U17 v18 hl16 ⟨A19, c20, rfl, rfl, hr21, hr22, _⟩
 change WR _ _ _ (CC F Γ15 []) _ _ (upd _ 14 (.tuple #[.agg #[.string z13.1.key, .slice A19 z13.1.vers.length c20], .int .i64 z13.2]))
 refine mv (v := .tuple #[.agg #[.string z13.1.key, .slice A19 z13.1.vers.length c20], .int .i64 z13.2]) ?_
 refine vb (q_extract (v := .agg #[.string z13.1.key, .slice A19 z13.1.vers.length c20]) rfl rfl rfl) ?_
 refine vb (q_extract (v := .int .i64 z13.2) rfl rfl rfl) ?_
 refine e_alloc Tryz.zeroValue24 rfl rfl rfl rfl ?_
 intro g23
 refine e_st (i := 0) (v := .agg #[.string z13.1.key, .slice A19 z13.1.vers.length c20]) (new := #[.string z13.1.key, .slice A19 z13.1.vers.length c20]) rfl Tryz.sizeOf24 rfl rfl rfl rfl (by kernel_rfl) rfl rfl rfl rfl ?_
 refine as_ (v := .int .i64 z13.2) ?_
 refine WR.done ?_
 refine WC.rs ?_
 refine vb (q_fl 1 fld_24_1 rfl rfl rfl) ?_
 refine vb (q_ldl (i := 0) (v := .slice A19 z13.1.vers.length c20) rfl rfl Tryz.isAgg22 rfl rfl) ?_
 refine as_ (v := .slice A19 z13.1.vers.length c20) ?_
 refine WR.done ?_
 refine WC.ret ?_
 intro w hw
 obtain rfl := Option.some.inj h
 subst hF
 exact end_e (is := []) (by kernel_rfl) hw rfl ⟨A19, c20, rfl, rfl, hr21.2.1, hr21.2.2, trivial⟩
theorem t_firthlaw10_StoreKeeps {Γ : Gh} {w0 : World} {Ar_1 : Option Addr} {cr_1 : Nat} (r_ : Rec) (hr_ : Rec.fits Γ Ar_1 cr_1 r_) (hs : Sat Γ w0) {r : Bool} (h : m_firthlaw10_StoreKeeps r_ = some r) : Calls Tryz.prog 3 #[.agg #[.string r_.key, .slice Ar_1 r_.vers.length cr_1]] w0 (fun e w' => e = .returned (.bool r) ∧ Fr no w0 w') := by
 refine calls_of (N := 109) (rs := [2]) (args := [.agg #[.string r_.key, .slice Ar_1 r_.vers.length cr_1]]) Tryz.func3 rfl Tryz.ntmps3 Tryz.results3 rfl ?_
 obtain ⟨F, hF⟩ : ∃ F : Fm, F = ⟨no, w0, Γ⟩ := ⟨_, rfl⟩
 refine WC.here (C := CC F Γ []) ?_ (hF ▸ Cur.start0 hs)
 refine WC.rs ?_
 refine e_box (v := .agg #[.string r_.key, .slice Ar_1 r_.vers.length cr_1]) rfl rfl rfl rfl (by kernel_rfl) ?_
 intro g1
 refine as_ (v := .bool false) ?_
 refine WR.done ?_
 refine WC.seq ?_
 refine WC.rs ?_
 obtain ⟨z2, hz3, h⟩ := bnd h
 refine vc rfl rfl rfl (q_call (call_run Tryz.call6 rfl rfl (by kernel_rfl)) (fun w hw => t_firthlaw10_awake (Γ := Gh.all w)  (Sat.all w) hz3)) ?_
 refine vb (q_not rfl rfl) ?_
 refine mv (v := .bool (!z2)) ?_
 refine vg0 rfl rfl rfl rfl rfl (fun hg4 => QV.qo (q_ldla (i := 0) (vs := [.string r_.key, .slice Ar_1 r_.vers.length cr_1]) rfl rfl Tryz.isAgg24 Tryz.sizeOf24 rfl rfl)) ?_
 obtain ⟨z6, hz7, h⟩ := bnd h
 refine vg0 rfl rfl rfl rfl rfl (fun hg5 => (q_call (call_run Tryz.call7 rfl rfl (args1 (gu hg5 rfl))) (fun w hw => t_firthref06_RightRec (Γ := Gh.all w) r_ (Rec.fits_mono hr_ hw.sat.le_all) (Sat.all w) (gc_of hz7 hg5)))) ?_
 refine vg0 rfl rfl rfl rfl rfl (fun hg8 => QV.qo (q_not rfl (gu hg8 rfl))) ?_
 refine vb (q_pick rfl rfl (pk_or' (g := (!z2)) (y := (!z6)))) ?_
 refine WR.done ?_
 refine WC.cif h (by kernel_rfl) (fun hb9 h => ?_) (fun hb9 h => ?_)
 ·
  refine WC.rs ?_
  obtain ⟨z10, hz11, h⟩ := bnd h
  refine vc rfl rfl rfl (q_call (call_run Tryz.call6 rfl rfl (by kernel_rfl)) (fun w hw => t_firthlaw10_awake (Γ := Gh.all w)  (Sat.all w) hz11)) ?_
  refine as_ (v := .bool z10) ?_
  refine WR.done ?_
  refine WC.ret ?_
  intro w hw
  obtain rfl := Option.some.inj h
  subst hF
  exact ⟨by kernel_rfl, hw.fr⟩
 ·
  refine WC.skip ?_
  change WC _ _ _ _ _ _
  refine WC.rs ?_
  obtain ⟨z12, hz13, h⟩ := bnd h
  refine e_call (is := []) rfl rfl (call_run Tryz.call8 rfl rfl (by kernel_rfl)) rfl (fun w hp => t_disk_New 4194304 (show I64 4194304 by decide) hp hz13) ?_
  rintro Γ14 U16 v17 hl15 ⟨g18, row19, rfl, rfl, hr20, _⟩
  change WR _ _ _ (CC F Γ14 [row19, [(g1, .cells #[.string r_.key, .slice Ar_1 r_.vers.length cr_1] 24 (0, 0))]]) _ _ (upd _ 20 ((pq g18)))
  refine as_ (v := (pq g18)) ?_
  refine WR.done ?_
  refine WC.rs ?_
  refine mv (v := (pq g18)) ?_
  obtain ⟨z21, hz22, h⟩ := bnd h
  refine e_call (is := [0]) rfl rfl (call_run Tryz.call9 rfl rfl (by kernel_rfl)) rfl (fun w hp => t_store_Open hr20 (⟨#[115]⟩ : ByteArray) (show (⟨#[115]⟩ : ByteArray).size ≤ lim by decide) 64 (show I64 64 by decide) hp hz22) ?_
  rintro Γ23 U25 v26 hl24 ⟨row27, g29, row30, rfl, rfl, hr28, hr31, hr32, _⟩
  change WR _ _ _ (CC F Γ23 [row27, row30, [(g1, .cells #[.string r_.key, .slice Ar_1 r_.vers.length cr_1] 24 (0, 0))]]) _ _ (upd _ 23 (.tuple #[optp z21.2.1 g29, .int .i64 z21.2.2]))
  refine mv (v := .tuple #[optp z21.2.1 g29, .int .i64 z21.2.2]) ?_
  refine vb (q_extract (v := optp z21.2.1 g29) rfl rfl rfl) ?_
  refine vb (q_extract (v := .int .i64 z21.2.2) rfl rfl rfl) ?_
  refine as_ (v := optp z21.2.1 g29) ?_
  refine as_ (v := .int .i64 z21.2.2) ?_
  refine WR.done ?_
  refine WC.seq ?_
  refine WC.rs ?_
  refine mv (v := optp z21.2.1 g29) ?_
  refine vb (q_opt_eql Tryz.underlying29 rfl rfl rfl) ?_
  refine mv (v := .bool (Option.isNone z21.2.1)) ?_
  refine vg0 rfl rfl rfl rfl rfl (fun hg33 => QV.qo (q_move (v := .int .i64 z21.2.2) rfl (by kernel_rfl))) ?_
  refine vg0 rfl rfl rfl rfl rfl (fun hg34 => QV.qo (q_neq rfl (gu hg34 rfl) rfl)) ?_
  refine vb (q_pick rfl rfl (pk_or' (g := (Option.isNone z21.2.1)) (y := (z21.2.2 != 0)))) ?_
  refine WR.done ?_
  refine WC.cif h (by kernel_rfl) (fun hb35 h => ?_) (fun hb35 h => ?_)
  ·
   refine WC.rs ?_
   refine as_ (v := .bool false) ?_
   refine WR.done ?_
   refine WC.ret ?_
   intro w hw
   obtain rfl := Option.some.inj h
   subst hF
   exact ⟨by kernel_rfl, hw.fr⟩
  ·
   obtain ⟨z36, hz37, h⟩ := bnd h
   have ho38 := optob_some hr31 hz37
   refine WC.skip ?_
   change WC _ _ _ _ _ _
   refine WC.rs ?_
   refine vb (q_ldla (i := 2) (vs := [.string r_.key, .slice Ar_1 r_.vers.length cr_1]) rfl rfl Tryz.isAgg24 Tryz.sizeOf24 rfl rfl) ?_
   obtain ⟨z39, hz40, h⟩ := bnd h
   refine e_callF (is := []) (Lent.nil F) rfl rfl (call_run Tryz.call10 rfl rfl (by kernel_rfl)) rfl (fun w Θ hp hpB hle hleB hR => t_firthref10_Own_l0 r_ (Rec.fits_mono (Rec.fits_mono hr_ (hl15.trans hl24)) hle) hp hpB hz40) ?_
   rintro J41 U43 v44 hn42 ⟨A45, c46, rfl, rfl, hr47, _⟩
   change WR _ _ _ (CC F Γ23 [J41, row27, row30, [(g1, .cells #[.string r_.key, .slice Ar_1 r_.vers.length cr_1] 24 (0, 0))]]) _ _ (upd _ 33 (.agg #[.string z39.key, .slice A45 z39.vers.length c46]))
   refine e_alloc Tryz.zeroValue24 rfl rfl rfl rfl ?_
   intro g48
   refine e_st (i := 0) (v := .agg #[.string z39.key, .slice A45 z39.vers.length c46]) (new := #[.string z39.key, .slice A45 z39.vers.length c46]) rfl Tryz.sizeOf24 rfl rfl rfl rfl (by kernel_rfl) rfl rfl rfl rfl ?_
   refine WR.done ?_
   refine WC.seq ?_
   refine WC.rs ?_
   refine vb (q_move (v := (pq g29)) rfl (optp_some rfl hz37)) ?_
   refine vb (q_ldla (i := 0) (vs := [.string z39.key, .slice A45 z39.vers.length c46]) rfl rfl Tryz.isAgg24 Tryz.sizeOf24 rfl rfl) ?_
   obtain ⟨z49, hz50, h⟩ := bnd h
   refine e_callB (is := [3, 2]) (Lent.nil F) rfl rfl (call_run Tryz.call11 rfl rfl (by kernel_rfl)) rfl (fun w Θ hp hpB hle hleB hR => t_store_Store_Put_l1 ho38 z39 (Rec.fits_mono hr47 (ghr_le hR hn42 (List.mem_of_getElem? (i := 1) rfl))) hr28 hp hpB hz50) ?_
   rintro Γ51 U53 v54 hl52 ⟨row55, row57, rfl, rfl, hr56, hr58, hr59, _⟩
   change WR _ _ _ (CC F Γ51 [row55, row57, [(g48, .cells #[.string z39.key, .slice A45 z39.vers.length c46] 24 (0, 0))], J41, [(g1, .cells #[.string r_.key, .slice Ar_1 r_.vers.length cr_1] 24 (0, 0))]]) _ _ (upd _ 36 (.int .i64 z49.2.2))
   refine vb (q_neq rfl rfl rfl) ?_
   refine WR.done ?_
   refine WC.cif h (by kernel_rfl) (fun hb60 h => ?_) (fun hb60 h => ?_)
   ·
    refine WC.rs ?_
    refine as_ (v := .bool true) ?_
    refine WR.done ?_
    refine WC.ret ?_
    intro w hw
    obtain rfl := Option.some.inj h
    subst hF
    exact ⟨by kernel_rfl, hw.fr⟩
   ·
    refine WC.skip ?_
    change WC _ _ _ _ _ _
    refine WC.seq ?_
    refine WC.rs ?_
    refine as_ (v := .int .i64 0) ?_
    refine WR.done ?_
    refine WC.block ?_
    have hj61 := hr47.2.2
    refine WC.loopJ (z39.vers.length) (fun (i62 : Nat) σ w => ∃ (J63 : Rowb) (ys65 : List Ver), (J63.map (·.1)).Nodup ∧ Sl verT (ghr J63) A45 ys65 ∧ shL Ver.sh ys65 = shL Ver.sh z39.vers ∧ slots σ [(1, (pq g1)), (4, optp z21.2.1 g29), (6, (pq g48)), (7, .int .i64 ((i62 : Nat) : Int))] ∧ CC F Γ51 [row55, row57, [(g48, .cells #[.string z39.key, .slice A45 z39.vers.length c46] 24 (0, 0))], J63, [(g1, .cells #[.string r_.key, .slice Ar_1 r_.vers.length cr_1] 24 (0, 0))]] w) ?_ ?_
    ·
     intro w hw; exact ⟨J41, z39.vers, hn42, hj61, rfl, (sl_ (by kernel_rfl)), hw⟩
    rintro i62 σ w ⟨J63, ys65, hn64, hj66, hs67, hsl, hw⟩
    have hq68 := shL_eq_len hs67
    refine Wpt.slots hsl ?_
    refine WC.here (C := CC F Γ51 [row55, row57, [(g48, .cells #[.string z39.key, .slice A45 z39.vers.length c46] 24 (0, 0))], J63, [(g1, .cells #[.string r_.key, .slice Ar_1 r_.vers.length cr_1] 24 (0, 0))]]) ?_ hw
    clear hw hsl
    refine WC.seq ?_
    refine WC.rs ?_
    refine mv (v := .int .i64 ((i62 : Nat) : Int)) ?_
    refine vb (q_fl 1 fld_24_1 rfl rfl rfl) ?_
    refine vb (q_ldl (i := 2) (v := .slice A45 z39.vers.length c46) rfl rfl Tryz.isAgg22 rfl rfl) ?_
    refine vb (q_len_slice rfl Tryz.underlying22 rfl) ?_
    refine vb (q_lss rfl rfl rfl) ?_
    refine WR.done ?_
    refine WC.cond (b := (decide (((i62 : Nat) : Int) < ((z39.vers.length : Nat) : Int)))) (by kernel_rfl) (fun hb69 => ?_) (fun hb69 => ?_)
    ·
     have hl70 := ilt hb69
     have hq71 := jlt hs67 (ltq hl70 hq68.symm)
     refine WC.skip ?_
     change WC _ _ _ _ _ _
     refine WC.seq ?_
     refine WC.block ?_
     refine WC.rs ?_
     refine vb (q_fl 1 fld_24_1 rfl rfl rfl) ?_
     refine vb (q_ldl (i := 2) (v := .slice A45 z39.vers.length c46) rfl rfl Tryz.isAgg22 rfl rfl) ?_
     refine mv (v := .int .i64 ((i62 : Nat) : Int)) ?_
     refine vb (q_ixn (i := i62) Tryz.underlying22 Tryz.sizeOf39 rfl rfl rfl hl70 (hj66.some_ (ltq hl70 hq68.symm))) ?_
     refine vb (q_field_addr (i62 * 5 + 4) fld_39_3 rfl rfl (hj66.some_ (ltq hl70 hq68.symm)) rfl) ?_
     obtain ⟨A72, c73, hx74⟩ := hj66.verT_at i62
     refine e_store_J (c := 4) (u := .string (gt ys65 i62).val) (v := .string (⟨#[115, 112, 111, 105, 108, 116]⟩ : ByteArray)) rfl rfl rfl rfl (by kernel_rfl) Tryz.sizeOf9 rfl rfl (hx74 (ltq hl70 hq68.symm)).2 rfl (.str _ _ (show (⟨#[115, 112, 111, 105, 108, 116]⟩ : ByteArray).size ≤ lim by decide)) (i := 3) rfl hn64 ?_
     intro J75 hn76 hl77
     obtain ⟨ys78, hj79, hs80⟩ := hj66.like like_Ver hl77
     have hs80 := hs80.trans hs67
     have hq81 := shL_eq_len hs80
     refine WR.done ?_
     refine WC.rs ?_
     refine as_ (v := .int .i64 0) ?_
     refine WR.done ?_
     refine WC.block ?_
     refine WC.loopJ (((gt ys78 i62).past).length) (fun (i82 : Nat) σ w => ∃ (J83 : Rowb) (ys85 : List Ver), (J83.map (·.1)).Nodup ∧ Sl verT (ghr J83) A45 ys85 ∧ shL Ver.sh ys85 = shL Ver.sh z39.vers ∧ slots σ [(1, (pq g1)), (4, optp z21.2.1 g29), (6, (pq g48)), (7, .int .i64 ((i62 : Nat) : Int)), (8, .int .i64 ((i82 : Nat) : Int))] ∧ CC F Γ51 [row55, row57, [(g48, .cells #[.string z39.key, .slice A45 z39.vers.length c46] 24 (0, 0))], J83, [(g1, .cells #[.string r_.key, .slice Ar_1 r_.vers.length cr_1] 24 (0, 0))]] w) ?_ ?_
     ·
      intro w hw; exact ⟨J75, ys78, hn76, hj79, hs80, (sl_ (by kernel_rfl)), hw⟩
     rintro i82 σ w ⟨J83, ys85, hn84, hj86, hs87, hsl, hw⟩
     have hq88 := shL_eq_len hs87
     refine Wpt.slots hsl ?_
     refine WC.here (C := CC F Γ51 [row55, row57, [(g48, .cells #[.string z39.key, .slice A45 z39.vers.length c46] 24 (0, 0))], J83, [(g1, .cells #[.string r_.key, .slice Ar_1 r_.vers.length cr_1] 24 (0, 0))]]) ?_ hw
     clear hw hsl
     refine WC.seq ?_
     refine WC.rs ?_
     refine mv (v := .int .i64 ((i82 : Nat) : Int)) ?_
     refine vb (q_fl 1 fld_24_1 rfl rfl rfl) ?_
     refine vb (q_ldl (i := 2) (v := .slice A45 z39.vers.length c46) rfl rfl Tryz.isAgg22 rfl rfl) ?_
     refine mv (v := .int .i64 ((i62 : Nat) : Int)) ?_
     refine vb (q_ixn (i := i62) Tryz.underlying22 Tryz.sizeOf39 rfl rfl rfl hl70 (hj86.some_ (ltq hl70 hq88.symm))) ?_
     refine vb (q_field_addr (i62 * 5 + 2) fld_39_1 rfl rfl (hj86.some_ (ltq hl70 hq88.symm)) rfl) ?_
     obtain ⟨A89, c90, hx91⟩ := hj86.verT_at i62
     refine vb (q_ldS (c := 2) (v := .slice A89 ((gt ys85 i62).past).length c90) (satJ (i := 3) rfl hn84) (hx91 (ltq hl70 hq88.symm)).2 rfl Tryz.isAgg37 rfl rfl) ?_
     refine vb (q_len_slice rfl Tryz.underlying37 rfl) ?_
     refine vb (q_lss rfl rfl rfl) ?_
     refine WR.done ?_
     refine WC.cond (b := (decide (((i82 : Nat) : Int) < ((((gt ys85 i62).past).length : Nat) : Int)))) (by kernel_rfl) (fun hb92 => ?_) (fun hb92 => ?_)
     ·
      have hl93 := ilt hb92
      have hq94 := jlt (shL_kid hs87 hq71) hl93
      refine WC.skip ?_
      change WC _ _ _ _ _ _
      refine WC.seq ?_
      refine WC.block ?_
      refine WC.region ?_
      refine vb (q_fl 1 fld_24_1 rfl rfl rfl) ?_
      refine vb (q_ldl (i := 2) (v := .slice A45 z39.vers.length c46) rfl rfl Tryz.isAgg22 rfl rfl) ?_
      refine mv (v := .int .i64 ((i62 : Nat) : Int)) ?_
      refine vb (q_ixn (i := i62) Tryz.underlying22 Tryz.sizeOf39 rfl rfl rfl hl70 (hj86.some_ (ltq hl70 hq88.symm))) ?_
      refine vb (q_field_addr (i62 * 5 + 2) fld_39_1 rfl rfl (hj86.some_ (ltq hl70 hq88.symm)) rfl) ?_
      refine vb (q_ldS (c := 2) (v := .slice A89 ((gt ys85 i62).past).length c90) (satJ (i := 3) rfl hn84) (hx91 (ltq hl70 hq88.symm)).2 rfl Tryz.isAgg37 rfl rfl) ?_
      refine mv (v := .int .i64 ((i82 : Nat) : Int)) ?_
      refine vb (q_ixn (i := i82) Tryz.underlying37 Tryz.sizeOf41 rfl rfl rfl hl93 ((hx91 (ltq hl70 hq88.symm)).1.2.2.1.2.some_ hl93)) ?_
      refine vb (q_field_addr (i82 * 3 + 2) fld_41_2 rfl rfl ((hx91 (ltq hl70 hq88.symm)).1.2.2.1.2.some_ hl93) rfl) ?_
      refine e_store_J (c := 2) (u := .int .i64 (gt ((gt ys85 i62).past) i82).t) (v := .int .i64 (-3)) rfl rfl rfl rfl (by kernel_rfl) Tryz.sizeOf2 rfl rfl ((hx91 (ltq hl70 hq88.symm)).1.2.2.1.2.spanT_at hl93).2 rfl (.int _ _ (show I64 (-3) by decide)) (i := 3) rfl hn84 ?_
      intro J95 hn96 hl97
      obtain ⟨ys98, hj99, hs100⟩ := hj86.like like_Ver hl97
      have hs100 := hs100.trans hs87
      have hq101 := shL_eq_len hs100
      have hlt102 := jtl (shL_kid hs100 hq71) hq94
      refine WR.nil ?_
      change WC _ _ _ _ _ _
      refine WC.region ?_
      refine mv (v := .int .i64 ((i82 : Nat) : Int)) ?_
      refine vb (q_add_r (r := ((i82 + 1 : Nat) : Int)) rfl rfl rfl (ctr_len hl93 (hx91 (ltq hl70 hq88.symm)).1.2.2.1.2.le)) ?_
      refine as_ (v := .int .i64 ((i82 + 1 : Nat) : Int)) ?_
      refine WR.nil ?_
      intro w hw; exact ⟨(jtl (shL_kid hs80 hq71) hq94), J95, ys98, hn96, hj99, hs100, (sl_ (by kernel_rfl)), hw⟩
     ·
      refine WC.exit ?_
      change WC _ _ _ _ _ _
      refine WC.region ?_
      refine mv (v := .int .i64 ((i62 : Nat) : Int)) ?_
      refine vb (q_add_r (r := ((i62 + 1 : Nat) : Int)) rfl rfl rfl (ctr_len hl70 (hq68 ▸ hj66.le))) ?_
      refine as_ (v := .int .i64 ((i62 + 1 : Nat) : Int)) ?_
      refine WR.nil ?_
      intro w hw; exact ⟨hl70, J83, ys85, hn84, hj86, hs87, (sl_ (by kernel_rfl)), hw⟩
    ·
     refine WC.exit ?_
     change WC _ _ _ _ _ _
     refine WC.rs ?_
     refine vb (q_move (v := (pq g29)) rfl (optp_some rfl hz37)) ?_
     refine vb (q_fl 0 fld_24_0 rfl rfl rfl) ?_
     refine vb (q_ldl (i := 4) (v := .string r_.key) rfl rfl Tryz.isAgg9 rfl rfl) ?_
     obtain ⟨z103, hz104, h⟩ := bnd h
     refine e_callF (is := []) (Lent.nil F) rfl rfl (call_run Tryz.call12 rfl rfl (by kernel_rfl)) rfl (fun w Θ hp hpB hle hleB hR => t_store_Store_Get_l1 (hr56.mono hle) (fun p hp => hR _ (List.mem_of_getElem? (i := 0) rfl) p hp) r_.key hr_.1 hp hpB hz104) ?_
     rintro J105 U107 v108 hn106 ⟨A109, c110, rfl, rfl, hc112, hr111, _⟩
     change WR _ _ _ (CC F Γ51 [J105, row55, row57, [(g48, .cells #[.string z39.key, .slice A45 z39.vers.length c46] 24 (0, 0))], J63, [(g1, .cells #[.string r_.key, .slice Ar_1 r_.vers.length cr_1] 24 (0, 0))]]) _ _ (upd _ 73 (.slice A109 z103.length c110))
     refine as_ (v := .slice A109 z103.length c110) ?_
     refine WR.done ?_
     refine WC.seq ?_
     refine WC.rs ?_
     refine as_ (v := .int .i64 0) ?_
     refine WR.done ?_
     refine WC.block ?_
     refine WC.loopJ (z103.length) (fun (i113 : Nat) σ w => ∃ (J114 : Rowb) (ys116 : List Ver), (J114.map (·.1)).Nodup ∧ Sl verT (ghr J114) A109 ys116 ∧ shL Ver.sh ys116 = shL Ver.sh z103 ∧ slots σ [(1, (pq g1)), (4, optp z21.2.1 g29), (9, .slice A109 z103.length c110), (10, .int .i64 ((i113 : Nat) : Int))] ∧ CC F Γ51 [J114, row55, row57, [(g48, .cells #[.string z39.key, .slice A45 z39.vers.length c46] 24 (0, 0))], J63, [(g1, .cells #[.string r_.key, .slice Ar_1 r_.vers.length cr_1] 24 (0, 0))]] w) ?_ ?_
     ·
      intro w hw; exact ⟨J105, z103, hn106, hr111, rfl, (sl_ (by kernel_rfl)), hw⟩
     rintro i113 σ w ⟨J114, ys116, hn115, hj117, hs118, hsl, hw⟩
     have hq119 := shL_eq_len hs118
     refine Wpt.slots hsl ?_
     refine WC.here (C := CC F Γ51 [J114, row55, row57, [(g48, .cells #[.string z39.key, .slice A45 z39.vers.length c46] 24 (0, 0))], J63, [(g1, .cells #[.string r_.key, .slice Ar_1 r_.vers.length cr_1] 24 (0, 0))]]) ?_ hw
     clear hw hsl
     refine WC.seq ?_
     refine WC.rs ?_
     refine mv (v := .int .i64 ((i113 : Nat) : Int)) ?_
     refine mv (v := .slice A109 z103.length c110) ?_
     refine vb (q_len_slice rfl Tryz.underlying22 rfl) ?_
     refine vb (q_lss rfl rfl rfl) ?_
     refine WR.done ?_
     refine WC.cond (b := (decide (((i113 : Nat) : Int) < ((z103.length : Nat) : Int)))) (by kernel_rfl) (fun hb120 => ?_) (fun hb120 => ?_)
     ·
      have hl121 := ilt hb120
      have hq122 := jlt hs118 (ltq hl121 hq119.symm)
      refine WC.skip ?_
      change WC _ _ _ _ _ _
      refine WC.seq ?_
      refine WC.block ?_
      refine WC.seq ?_
      refine WC.rs ?_
      refine as_ (v := .int .i64 0) ?_
      refine WR.done ?_
      refine WC.block ?_
      refine WC.loopJ (((gt ys116 i113).past).length) (fun (i123 : Nat) σ w => ∃ (J124 : Rowb) (ys126 : List Ver), (J124.map (·.1)).Nodup ∧ Sl verT (ghr J124) A109 ys126 ∧ shL Ver.sh ys126 = shL Ver.sh z103 ∧ slots σ [(1, (pq g1)), (4, optp z21.2.1 g29), (9, .slice A109 z103.length c110), (10, .int .i64 ((i113 : Nat) : Int)), (11, .int .i64 ((i123 : Nat) : Int))] ∧ CC F Γ51 [J124, row55, row57, [(g48, .cells #[.string z39.key, .slice A45 z39.vers.length c46] 24 (0, 0))], J63, [(g1, .cells #[.string r_.key, .slice Ar_1 r_.vers.length cr_1] 24 (0, 0))]] w) ?_ ?_
      ·
       intro w hw; exact ⟨J114, ys116, hn115, hj117, hs118, (sl_ (by kernel_rfl)), hw⟩
      rintro i123 σ w ⟨J124, ys126, hn125, hj127, hs128, hsl, hw⟩
      have hq129 := shL_eq_len hs128
      refine Wpt.slots hsl ?_
      refine WC.here (C := CC F Γ51 [J124, row55, row57, [(g48, .cells #[.string z39.key, .slice A45 z39.vers.length c46] 24 (0, 0))], J63, [(g1, .cells #[.string r_.key, .slice Ar_1 r_.vers.length cr_1] 24 (0, 0))]]) ?_ hw
      clear hw hsl
      refine WC.seq ?_
      refine WC.rs ?_
      refine mv (v := .int .i64 ((i123 : Nat) : Int)) ?_
      refine mv (v := .slice A109 z103.length c110) ?_
      refine mv (v := .int .i64 ((i113 : Nat) : Int)) ?_
      refine vb (q_ixn (i := i113) Tryz.underlying22 Tryz.sizeOf39 rfl rfl rfl hl121 (hj127.some_ (ltq hl121 hq129.symm))) ?_
      refine vb (q_field_addr (i113 * 5 + 2) fld_39_1 rfl rfl (hj127.some_ (ltq hl121 hq129.symm)) rfl) ?_
      obtain ⟨A130, c131, hx132⟩ := hj127.verT_at i113
      refine vb (q_ldS (c := 2) (v := .slice A130 ((gt ys126 i113).past).length c131) (satJ (i := 0) rfl hn125) (hx132 (ltq hl121 hq129.symm)).2 rfl Tryz.isAgg37 rfl rfl) ?_
      refine vb (q_len_slice rfl Tryz.underlying37 rfl) ?_
      refine vb (q_lss rfl rfl rfl) ?_
      refine WR.done ?_
      refine WC.cond (b := (decide (((i123 : Nat) : Int) < ((((gt ys126 i113).past).length : Nat) : Int)))) (by kernel_rfl) (fun hb133 => ?_) (fun hb133 => ?_)
      ·
       have hl134 := ilt hb133
       have hq135 := jlt (shL_kid hs128 hq122) hl134
       refine WC.skip ?_
       change WC _ _ _ _ _ _
       refine WC.seq ?_
       refine WC.block ?_
       refine WC.region ?_
       refine mv (v := .slice A109 z103.length c110) ?_
       refine mv (v := .int .i64 ((i113 : Nat) : Int)) ?_
       refine vb (q_ixn (i := i113) Tryz.underlying22 Tryz.sizeOf39 rfl rfl rfl hl121 (hj127.some_ (ltq hl121 hq129.symm))) ?_
       refine vb (q_field_addr (i113 * 5 + 2) fld_39_1 rfl rfl (hj127.some_ (ltq hl121 hq129.symm)) rfl) ?_
       refine vb (q_ldS (c := 2) (v := .slice A130 ((gt ys126 i113).past).length c131) (satJ (i := 0) rfl hn125) (hx132 (ltq hl121 hq129.symm)).2 rfl Tryz.isAgg37 rfl rfl) ?_
       refine mv (v := .int .i64 ((i123 : Nat) : Int)) ?_
       refine vb (q_ixn (i := i123) Tryz.underlying37 Tryz.sizeOf41 rfl rfl rfl hl134 ((hx132 (ltq hl121 hq129.symm)).1.2.2.1.2.some_ hl134)) ?_
       refine vb (q_field_addr (i123 * 3 + 2) fld_41_2 rfl rfl ((hx132 (ltq hl121 hq129.symm)).1.2.2.1.2.some_ hl134) rfl) ?_
       refine e_store_J (c := 2) (u := .int .i64 (gt ((gt ys126 i113).past) i123).t) (v := .int .i64 (-4)) rfl rfl rfl rfl (by kernel_rfl) Tryz.sizeOf2 rfl rfl ((hx132 (ltq hl121 hq129.symm)).1.2.2.1.2.spanT_at hl134).2 rfl (.int _ _ (show I64 (-4) by decide)) (i := 0) rfl hn125 ?_
       intro J136 hn137 hl138
       obtain ⟨ys139, hj140, hs141⟩ := hj127.like like_Ver hl138
       have hs141 := hs141.trans hs128
       have hq142 := shL_eq_len hs141
       have hlt143 := jtl (shL_kid hs141 hq122) hq135
       refine WR.nil ?_
       change WC _ _ _ _ _ _
       refine WC.region ?_
       refine mv (v := .int .i64 ((i123 : Nat) : Int)) ?_
       refine vb (q_add_r (r := ((i123 + 1 : Nat) : Int)) rfl rfl rfl (ctr_len hl134 (hx132 (ltq hl121 hq129.symm)).1.2.2.1.2.le)) ?_
       refine as_ (v := .int .i64 ((i123 + 1 : Nat) : Int)) ?_
       refine WR.nil ?_
       intro w hw; exact ⟨(jtl (shL_kid hs118 hq122) hq135), J136, ys139, hn137, hj140, hs141, (sl_ (by kernel_rfl)), hw⟩
      ·
       refine WC.exit ?_
       change WC _ _ _ _ _ _
       refine WC.region ?_
       refine mv (v := .slice A109 z103.length c110) ?_
       refine mv (v := .int .i64 ((i113 : Nat) : Int)) ?_
       refine vb (q_ixn (i := i113) Tryz.underlying22 Tryz.sizeOf39 rfl rfl rfl hl121 (hj127.some_ (ltq hl121 hq129.symm))) ?_
       refine vb (q_field_addr (i113 * 5 + 4) fld_39_3 rfl rfl (hj127.some_ (ltq hl121 hq129.symm)) rfl) ?_
       refine e_store_J (c := 4) (u := .string (gt ys126 i113).val) (v := .string (⟨#[115, 112, 111, 105, 108, 116]⟩ : ByteArray)) rfl rfl rfl rfl (by kernel_rfl) Tryz.sizeOf9 rfl rfl (hx132 (ltq hl121 hq129.symm)).2 rfl (.str _ _ (show (⟨#[115, 112, 111, 105, 108, 116]⟩ : ByteArray).size ≤ lim by decide)) (i := 0) rfl hn125 ?_
       intro J144 hn145 hl146
       obtain ⟨ys147, hj148, hs149⟩ := hj127.like like_Ver hl146
       have hs149 := hs149.trans hs128
       have hq150 := shL_eq_len hs149
       refine WR.nil ?_
       change WC _ _ _ _ _ _
       refine WC.region ?_
       refine mv (v := .int .i64 ((i113 : Nat) : Int)) ?_
       refine vb (q_add_r (r := ((i113 + 1 : Nat) : Int)) rfl rfl rfl (ctr_len hl121 (hq119 ▸ hj117.le))) ?_
       refine as_ (v := .int .i64 ((i113 + 1 : Nat) : Int)) ?_
       refine WR.nil ?_
       intro w hw; exact ⟨hl121, J144, ys147, hn145, hj148, hs149, (sl_ (by kernel_rfl)), hw⟩
     ·
      refine WC.exit ?_
      change WC _ _ _ _ _ _
      refine WC.seq ?_
      intro w hw; have h0151 := hw.le
      refine WC.here (C := CC F Γ51 [J114, row55, row57, [(g48, .cells #[.string z39.key, .slice A45 z39.vers.length c46] 24 (0, 0))], J63, [(g1, .cells #[.string r_.key, .slice Ar_1 r_.vers.length cr_1] 24 (0, 0))]]) ?_ hw; clear hw
      refine WC.held (CC F Γ51 [J114, [(g48, .cells #[.string z39.key, .slice A45 z39.vers.length c46] 24 (0, 0))], J63, [(g1, .cells #[.string r_.key, .slice Ar_1 r_.vers.length cr_1] 24 (0, 0))]]) (by kernel_rfl) (fun w hw => hw.drawn _) ?_
      change WH _ _ _ _ (CC F Γ51 [J114, row55, row57, [(g48, .cells #[.string z39.key, .slice A45 z39.vers.length c46] 24 (0, 0))], J63, [(g1, .cells #[.string r_.key, .slice Ar_1 r_.vers.length cr_1] 24 (0, 0))]]) _ 8 #[false, false, false, false, false, false, false, false] _
      refine hu 0 rfl (bk_ (Gh.refl _) h0151 (.cons_cons _ (.cons _ (.cons _ (.cons_cons _ (.cons_cons _ (.cons_cons _ .slnil))))))) (q_move (v := (pq g29)) rfl (optp_some rfl hz37)) ?_
      refine hu 1 rfl (bk_ (Gh.refl _) h0151 (.cons_cons _ (.cons _ (.cons _ (.cons_cons _ (.cons_cons _ (.cons_cons _ .slnil))))))) (q_fl 0 fld_24_0 rfl rfl rfl) ?_
      refine hu 2 rfl (bk_ (Gh.refl _) h0151 (.cons_cons _ (.cons _ (.cons _ (.cons_cons _ (.cons_cons _ (.cons_cons _ .slnil))))))) (q_ldl (i := 3) (v := .string r_.key) rfl rfl Tryz.isAgg9 rfl rfl) ?_
      refine hu 4 rfl (bk_ (Gh.refl _) h0151 (.cons_cons _ (.cons _ (.cons _ (.cons_cons _ (.cons_cons _ (.cons_cons _ .slnil))))))) (q_fl 1 fld_24_1 rfl rfl rfl) ?_
      refine hu 5 rfl (bk_ (Gh.refl _) h0151 (.cons_cons _ (.cons _ (.cons _ (.cons_cons _ (.cons_cons _ (.cons_cons _ .slnil))))))) (q_ldl (i := 3) (v := .slice Ar_1 r_.vers.length cr_1) rfl rfl Tryz.isAgg22 rfl rfl) ?_
      refine WH.lone (i := 3) (by kernel_rfl) rfl ?_
      obtain ⟨z152, hz153, h⟩ := bnd h
      refine e_callF (is := []) (Lent.nil F) rfl rfl (call_run Tryz.call12 rfl rfl (by kernel_rfl)) rfl (fun w Θ hp hpB hle hleB hR => t_store_Store_Get_l1 (hr56.mono hle) (fun p hp => hR _ (List.mem_of_getElem? (i := 1) rfl) p hp) r_.key hr_.1 hp hpB hz153) ?_
      rintro J154 U156 v157 hn155 ⟨A158, c159, rfl, rfl, hc161, hr160, _⟩
      change WR _ _ _ (CC F Γ51 [J154, J114, row55, row57, [(g48, .cells #[.string z39.key, .slice A45 z39.vers.length c46] 24 (0, 0))], J63, [(g1, .cells #[.string r_.key, .slice Ar_1 r_.vers.length cr_1] 24 (0, 0))]]) _ _ (upd _ 105 (.slice A158 z152.length c159))
      refine WR.nil ?_
      refine WH.next (bk_ (Gh.refl _) h0151 (.cons _ (.cons_cons _ (.cons _ (.cons _ (.cons_cons _ (.cons_cons _ (.cons_cons _ .slnil)))))))) ?_
      refine WH.lone (i := 6) (by kernel_rfl) rfl ?_
      obtain ⟨z162, hz163, h⟩ := bnd h
      refine vc rfl rfl rfl (q_call (call_run Tryz.call13 rfl rfl (by kernel_rfl)) (fun w hw => t_firthref05_Same (Γ := Gh.all w) (hr160.mono ((satJ (i := 0) rfl hn155) w hw).le_all) hc161 ((hr_.2.2.mono ((hl15.trans hl24).trans hl52)).mono hw.sat.le_all) hr_.2.1 (Sat.all w) hz163)) ?_
      refine WR.nil ?_
      refine WH.next (bk_ (Gh.refl _) h0151 (.cons _ (.cons_cons _ (.cons _ (.cons _ (.cons_cons _ (.cons_cons _ (.cons_cons _ .slnil)))))))) ?_
      refine hu 7 rfl (bk_ (Gh.refl _) h0151 (.cons _ (.cons_cons _ (.cons _ (.cons _ (.cons_cons _ (.cons_cons _ (.cons_cons _ .slnil)))))))) (q_assign (v := .bool z162) rfl (by kernel_rfl)) ?_
      refine WH.done (by kernel_rfl) ?_
      change WC _ _ _ _ _ _
      refine WC.ret ?_
      intro w hw
      obtain rfl := Option.some.inj h
      subst hF
      exact ⟨by kernel_rfl, hw.fr⟩
end Fw
end Go.Proofs.YtmafjpdiplfcmaaGreat
