/- Walks through the functions that the law reaches (printed by a program). No condition. -/
import Derived.Test.YtckindfllegbgaaGreatW5
namespace Go.Proofs.YtckindfllegbgaaGreat
namespace Fw
set_option linter.unusedVariables false
set_option linter.unusedSimpArgs false
set_option linter.unusedSectionVars false
set_option maxRecDepth 100000
set_option maxHeartbeats 400000
open Go.RowKit
theorem t_firthref03_Has {Γ : Gh} {w0 : World} {Al : Option Addr} {cl : Nat} {l : List Span} (hl : Sl spanT Γ Al l) (hlc : l.length ≤ cl) (d : Dot) (hd : Dot.fits Γ  d) (hs : Sat Γ w0) {r : Bool} (h : m_firthref03_Has l d = some r) : Calls Tryz.prog 82 #[.slice Al l.length cl, .agg #[.int .i64 d.s, .int .i64 d.n]] w0 (fun e w' => e = .returned (.bool r) ∧ Fr no w0 w') := by
 refine calls_of (N := 40) (rs := [4]) (args := [.slice Al l.length cl, .agg #[.int .i64 d.s, .int .i64 d.n]]) Tryz.func82 rfl Tryz.ntmps82 Tryz.results82 rfl ?_
 obtain ⟨F, hF⟩ : ∃ F : Fm, F = ⟨no, w0, Γ⟩ := ⟨_, rfl⟩
 refine WC.here (C := CC F Γ []) ?_ (hF ▸ Cur.start0 hs)
 refine WC.rs ?_
 refine e_box (v := .agg #[.int .i64 d.s, .int .i64 d.n]) rfl rfl rfl rfl (by kernel_rfl) ?_
 intro g1
 refine as_ (v := .bool false) ?_
 refine WR.done ?_
 refine WC.seq ?_
 refine WC.rs ?_
 refine as_ (v := .int .i64 0) ?_
 refine WR.done ?_
 refine WC.block ?_
 refine WC.forI h (fun (i3 : Nat) (s : Unit) σ w => match s with | () => slots σ [(0, .slice Al l.length cl), (3, (pq g1)), (5, .int .i64 ((i3 : Nat) : Int))] ∧ CC F Γ [[(g1, .cells #[.int .i64 d.s, .int .i64 d.n] 86 (0, 0))]] w ∧ True) ?_ ?_
 ·
  intro w hw
  exact ⟨(sl_ (by kernel_rfl)), hw, trivial⟩
 rintro f2 i3 ⟨⟩ σ w hi4 hlt5 hge6 ⟨hsl, hw, -⟩
 refine Wpt.slots hsl ?_
 refine WC.here (C := CC F Γ [[(g1, .cells #[.int .i64 d.s, .int .i64 d.n] 86 (0, 0))]]) ?_ hw
 clear hw hsl
 refine WC.seq ?_
 refine WC.rs ?_
 refine mv (v := .int .i64 ((i3 : Nat) : Int)) ?_
 refine mv (v := .slice Al l.length cl) ?_
 refine vb (q_len_slice rfl Tryz.underlying87 rfl) ?_
 refine vb (q_lss rfl rfl rfl) ?_
 refine WR.done ?_
 refine WC.cond (b := (decide (((i3 : Nat) : Int) < ((l.length : Nat) : Int)))) (by kernel_rfl) (fun hb7 => ?_) (fun hb7 => ?_)
 ·
  have hl8 := ilt hb7
  have h := hlt5 hl8
  refine WC.skip ?_
  change WC _ _ _ _ _ _
  refine WC.seq ?_
  refine WC.block ?_
  refine WC.seq ?_
  refine WC.dr (by kernel_rfl) (by kernel_rfl) (fun w hw => hw.drawn _) ?_
  refine wa rfl rfl rfl (q_move (v := .slice Al l.length cl) rfl (by kernel_rfl)) ?_
  refine wa rfl rfl rfl (q_move (v := .int .i64 ((i3 : Nat) : Int)) rfl (by kernel_rfl)) ?_
  refine wa rfl rfl rfl (q_ixn (i := i3) Tryz.underlying87 Tryz.sizeOf93 rfl rfl rfl hl8 (hl.some_ hl8)) ?_
  refine wa rfl rfl rfl (q_field_addr (i3 * 3) fld_93_0 rfl rfl (hl.some_ hl8) rfl) ?_
  refine wa rfl rfl rfl (q_ld (c := 0) (v := .int .i64 (gt l i3).s) (hl.spanT_at hl8).2 rfl Tryz.isAgg3 rfl rfl) ?_
  refine wa rfl rfl rfl (q_fl 0 fld_86_0 rfl rfl rfl) ?_
  refine wa rfl rfl rfl (q_ldl (i := 0) (v := .int .i64 d.s) rfl rfl Tryz.isAgg3 rfl rfl) ?_
  refine wa rfl rfl rfl (q_eql rfl rfl rfl) ?_
  refine wa rfl rfl rfl (q_move (v := .bool ((gt l i3).s == d.s)) rfl (by kernel_rfl)) ?_
  refine wg1 rfl rfl rfl rfl rfl (fun hg9 => QV.qo (q_fl 1 fld_86_1 rfl rfl rfl)) ?_
  refine wg1 rfl rfl rfl rfl rfl (fun hg10 => QV.qo (q_ldl (i := 0) (v := .int .i64 d.n) rfl rfl Tryz.isAgg2 (gu hg10 rfl) rfl)) ?_
  refine wg1 rfl rfl rfl rfl rfl (fun hg11 => QV.qo (q_move (v := .slice Al l.length cl) rfl (by kernel_rfl))) ?_
  refine wg1 rfl rfl rfl rfl rfl (fun hg12 => QV.qo (q_move (v := .int .i64 ((i3 : Nat) : Int)) rfl (by kernel_rfl))) ?_
  refine wg1 rfl rfl rfl rfl rfl (fun hg13 => QV.qo (q_ixn (i := i3) Tryz.underlying87 Tryz.sizeOf93 rfl (gu hg13 rfl) (gu hg13 rfl) hl8 (hl.some_ hl8))) ?_
  refine wg1 rfl rfl rfl rfl rfl (fun hg14 => QV.qo (q_field_addr (i3 * 3 + 1) fld_93_1 rfl (gu hg14 rfl) (hl.some_ hl8) rfl)) ?_
  refine wg1 rfl rfl rfl rfl rfl (fun hg15 => QV.qo (q_ld (c := 1) (v := .int .i64 (gt l i3).f) (hl.spanT_at hl8).2 rfl Tryz.isAgg2 (gu hg15 rfl) rfl)) ?_
  refine wg1 rfl rfl rfl rfl rfl (fun hg16 => QV.qo (q_geq rfl (gu hg16 rfl) (gu hg16 rfl))) ?_
  refine wa rfl rfl rfl (q_pick rfl rfl (pk_and' (g := ((gt l i3).s == d.s)) (y := (decide ((gt l i3).f ≤ d.n))))) ?_
  refine wa rfl rfl rfl (q_move (v := .bool (((gt l i3).s == d.s) && (decide ((gt l i3).f ≤ d.n)))) rfl (by kernel_rfl)) ?_
  refine wg1 rfl rfl rfl rfl rfl (fun hg17 => QV.qo (q_fl 1 fld_86_1 rfl rfl rfl)) ?_
  refine wg1 rfl rfl rfl rfl rfl (fun hg18 => QV.qo (q_ldl (i := 0) (v := .int .i64 d.n) rfl rfl Tryz.isAgg2 (gu hg18 rfl) rfl)) ?_
  refine wg1 rfl rfl rfl rfl rfl (fun hg19 => QV.qo (q_move (v := .slice Al l.length cl) rfl (by kernel_rfl))) ?_
  refine wg1 rfl rfl rfl rfl rfl (fun hg20 => QV.qo (q_move (v := .int .i64 ((i3 : Nat) : Int)) rfl (by kernel_rfl))) ?_
  refine wg1 rfl rfl rfl rfl rfl (fun hg21 => QV.qo (q_ixn (i := i3) Tryz.underlying87 Tryz.sizeOf93 rfl (gu hg21 rfl) (gu hg21 rfl) hl8 (hl.some_ hl8))) ?_
  refine wg1 rfl rfl rfl rfl rfl (fun hg22 => QV.qo (q_field_addr (i3 * 3 + 2) fld_93_2 rfl (gu hg22 rfl) (hl.some_ hl8) rfl)) ?_
  refine wg1 rfl rfl rfl rfl rfl (fun hg23 => QV.qo (q_ld (c := 2) (v := .int .i64 (gt l i3).t) (hl.spanT_at hl8).2 rfl Tryz.isAgg2 (gu hg23 rfl) rfl)) ?_
  refine wg1 rfl rfl rfl rfl rfl (fun hg24 => QV.qo (q_leq rfl (gu hg24 rfl) (gu hg24 rfl))) ?_
  refine wa rfl rfl rfl (q_pick rfl rfl (pk_and' (g := (((gt l i3).s == d.s) && (decide ((gt l i3).f ≤ d.n)))) (y := (decide (d.n ≤ (gt l i3).t))))) ?_
  refine WQ.nil ?_
  change WC _ _ _ _ _ _
  refine WC.cif h (by kernel_rfl) (fun hb25 h => ?_) (fun hb25 h => ?_)
  ·
   refine WC.rs ?_
   refine as_ (v := .bool true) ?_
   refine WR.done ?_
   refine WC.ret ?_
   intro w hw
   obtain rfl := Option.some.inj h
   subst hF
   exact ⟨by kernel_rfl, hw.fr⟩
  ·
   refine WC.skip ?_
   change WC _ _ _ _ _ _
   refine WC.region ?_
   refine mv (v := .int .i64 ((i3 : Nat) : Int)) ?_
   refine vb (q_add_r (r := ((i3 + 1 : Nat) : Int)) rfl rfl rfl (ctr_len hl8 hl.le)) ?_
   refine as_ (v := .int .i64 ((i3 + 1 : Nat) : Int)) ?_
   refine WR.nil ?_
   intro w hw
   exact ⟨hl8, (), h, (sl_ (by kernel_rfl)), hw, trivial⟩
 ·
  have h := hge6 (ige hb7)
  refine WC.exit ?_
  change WC _ _ _ _ _ _
  refine WC.rs ?_
  refine as_ (v := .bool false) ?_
  refine WR.done ?_
  refine WC.ret ?_
  intro w hw
  obtain rfl := Option.some.inj h
  subst hF
  exact ⟨by kernel_rfl, hw.fr⟩
theorem t_firthref05_Behind {Γ : Gh} {w0 : World} {Al : Option Addr} {cl : Nat} {l : List Ver} (hl : Sl verT Γ Al l) (hlc : l.length ≤ cl) (d : Dot) (hd : Dot.fits Γ  d) (hs : Sat Γ w0) {r : Bool} (h : m_firthref05_Behind l d = some r) : Calls Tryz.prog 51 #[.slice Al l.length cl, .agg #[.int .i64 d.s, .int .i64 d.n]] w0 (fun e w' => e = .returned (.bool r) ∧ Fr no w0 w') := by
 refine calls_of (N := 19) (rs := [4]) (args := [.slice Al l.length cl, .agg #[.int .i64 d.s, .int .i64 d.n]]) Tryz.func51 rfl Tryz.ntmps51 Tryz.results51 rfl ?_
 obtain ⟨F, hF⟩ : ∃ F : Fm, F = ⟨no, w0, Γ⟩ := ⟨_, rfl⟩
 refine WC.here (C := CC F Γ []) ?_ (hF ▸ Cur.start0 hs)
 refine WC.rs ?_
 refine e_box (v := .agg #[.int .i64 d.s, .int .i64 d.n]) rfl rfl rfl rfl (by kernel_rfl) ?_
 intro g1
 refine as_ (v := .bool false) ?_
 refine WR.done ?_
 refine WC.seq ?_
 refine WC.rs ?_
 refine as_ (v := .int .i64 0) ?_
 refine WR.done ?_
 refine WC.block ?_
 refine WC.forI h (fun (i3 : Nat) (s : Unit) σ w => match s with | () => slots σ [(0, .slice Al l.length cl), (3, (pq g1)), (5, .int .i64 ((i3 : Nat) : Int))] ∧ CC F Γ [[(g1, .cells #[.int .i64 d.s, .int .i64 d.n] 86 (0, 0))]] w ∧ True) ?_ ?_
 ·
  intro w hw
  exact ⟨(sl_ (by kernel_rfl)), hw, trivial⟩
 rintro f2 i3 ⟨⟩ σ w hi4 hlt5 hge6 ⟨hsl, hw, -⟩
 refine Wpt.slots hsl ?_
 refine WC.here (C := CC F Γ [[(g1, .cells #[.int .i64 d.s, .int .i64 d.n] 86 (0, 0))]]) ?_ hw
 clear hw hsl
 refine WC.seq ?_
 refine WC.rs ?_
 refine mv (v := .int .i64 ((i3 : Nat) : Int)) ?_
 refine mv (v := .slice Al l.length cl) ?_
 refine vb (q_len_slice rfl Tryz.underlying43 rfl) ?_
 refine vb (q_lss rfl rfl rfl) ?_
 refine WR.done ?_
 refine WC.cond (b := (decide (((i3 : Nat) : Int) < ((l.length : Nat) : Int)))) (by kernel_rfl) (fun hb7 => ?_) (fun hb7 => ?_)
 ·
  have hl8 := ilt hb7
  have h := hlt5 hl8
  refine WC.skip ?_
  change WC _ _ _ _ _ _
  refine WC.seq ?_
  refine WC.block ?_
  refine WC.seq ?_
  refine WC.dr (by kernel_rfl) (by kernel_rfl) (fun w hw => hw.drawn _) ?_
  refine wa rfl rfl rfl (q_move (v := .slice Al l.length cl) rfl (by kernel_rfl)) ?_
  refine wa rfl rfl rfl (q_move (v := .int .i64 ((i3 : Nat) : Int)) rfl (by kernel_rfl)) ?_
  refine wa rfl rfl rfl (q_ixn (i := i3) Tryz.underlying43 Tryz.sizeOf89 rfl rfl rfl hl8 (hl.some_ hl8)) ?_
  refine wa rfl rfl rfl (q_field_addr (i3 * 5 + 2) fld_89_1 rfl rfl (hl.some_ hl8) rfl) ?_
  obtain ⟨A9, c10, hx11⟩ := hl.verT_at i3
  refine wa rfl rfl rfl (q_ld (c := 2) (v := .slice A9 ((gt l i3).past).length c10) (hx11 hl8).2 rfl Tryz.isAgg87 rfl rfl) ?_
  refine wa rfl rfl rfl (q_ldla (i := 0) (vs := [.int .i64 d.s, .int .i64 d.n]) rfl rfl Tryz.isAgg86 Tryz.sizeOf86 rfl rfl) ?_
  obtain ⟨z12, hz13, h⟩ := bnd h
  refine wc rfl rfl rfl (q_call (call_run Tryz.call82 rfl rfl (by kernel_rfl)) (fun w hw => t_firthref03_Has (Γ := Gh.all w) ((hx11 hl8).1.2.2.1.2.mono hw.sat.le_all) (hx11 hl8).1.2.2.1.1 d hd (Sat.all w) hz13)) ?_
  refine WQ.nil ?_
  change WC _ _ _ _ _ _
  refine WC.cif h (by kernel_rfl) (fun hb14 h => ?_) (fun hb14 h => ?_)
  ·
   refine WC.rs ?_
   refine as_ (v := .bool true) ?_
   refine WR.done ?_
   refine WC.ret ?_
   intro w hw
   obtain rfl := Option.some.inj h
   subst hF
   exact ⟨by kernel_rfl, hw.fr⟩
  ·
   refine WC.skip ?_
   change WC _ _ _ _ _ _
   refine WC.region ?_
   refine mv (v := .int .i64 ((i3 : Nat) : Int)) ?_
   refine vb (q_add_r (r := ((i3 + 1 : Nat) : Int)) rfl rfl rfl (ctr_len hl8 hl.le)) ?_
   refine as_ (v := .int .i64 ((i3 + 1 : Nat) : Int)) ?_
   refine WR.nil ?_
   intro w hw
   exact ⟨hl8, (), h, (sl_ (by kernel_rfl)), hw, trivial⟩
 ·
  have h := hge6 (ige hb7)
  refine WC.exit ?_
  change WC _ _ _ _ _ _
  refine WC.rs ?_
  refine as_ (v := .bool false) ?_
  refine WR.done ?_
  refine WC.ret ?_
  intro w hw
  obtain rfl := Option.some.inj h
  subst hF
  exact ⟨by kernel_rfl, hw.fr⟩
theorem t_firthref05_Less {Γ : Gh} {w0 : World} (a : Dot) (ha : Dot.fits Γ  a) (b : Dot) (hb : Dot.fits Γ  b) (hs : Sat Γ w0) {r : Bool} (h : m_firthref05_Less a b = some r) : Calls Tryz.prog 81 #[.agg #[.int .i64 a.s, .int .i64 a.n], .agg #[.int .i64 b.s, .int .i64 b.n]] w0 (fun e w' => e = .returned (.bool r) ∧ Fr no w0 w') := by
 refine calls_of (N := 20) (rs := [4]) (args := [.agg #[.int .i64 a.s, .int .i64 a.n], .agg #[.int .i64 b.s, .int .i64 b.n]]) Tryz.func81 rfl Tryz.ntmps81 Tryz.results81 rfl ?_
 obtain ⟨F, hF⟩ : ∃ F : Fm, F = ⟨no, w0, Γ⟩ := ⟨_, rfl⟩
 refine WC.here (C := CC F Γ []) ?_ (hF ▸ Cur.start0 hs)
 refine WC.rs ?_
 refine e_box (v := .agg #[.int .i64 a.s, .int .i64 a.n]) rfl rfl rfl rfl (by kernel_rfl) ?_
 intro g1
 refine e_box (v := .agg #[.int .i64 b.s, .int .i64 b.n]) rfl rfl rfl rfl (by kernel_rfl) ?_
 intro g2
 refine as_ (v := .bool false) ?_
 refine WR.done ?_
 refine WC.seq ?_
 refine WC.rs ?_
 refine vb (q_fl 0 fld_86_0 rfl rfl rfl) ?_
 refine vb (q_ldl (i := 1) (v := .int .i64 a.s) rfl rfl Tryz.isAgg3 rfl rfl) ?_
 refine vb (q_fl 0 fld_86_0 rfl rfl rfl) ?_
 refine vb (q_ldl (i := 0) (v := .int .i64 b.s) rfl rfl Tryz.isAgg3 rfl rfl) ?_
 refine vb (q_neq rfl rfl rfl) ?_
 refine WR.done ?_
 refine WC.cif h (by kernel_rfl) (fun hb3 h => ?_) (fun hb3 h => ?_)
 ·
  refine WC.rs ?_
  refine vb (q_fl 0 fld_86_0 rfl rfl rfl) ?_
  refine vb (q_ldl (i := 1) (v := .int .i64 a.s) rfl rfl Tryz.isAgg3 rfl rfl) ?_
  refine vb (q_fl 0 fld_86_0 rfl rfl rfl) ?_
  refine vb (q_ldl (i := 0) (v := .int .i64 b.s) rfl rfl Tryz.isAgg3 rfl rfl) ?_
  refine vb (q_lss rfl rfl rfl) ?_
  refine as_ (v := .bool (decide (a.s < b.s))) ?_
  refine WR.done ?_
  refine WC.ret ?_
  intro w hw
  obtain rfl := Option.some.inj h
  subst hF
  exact ⟨by kernel_rfl, hw.fr⟩
 ·
  refine WC.skip ?_
  change WC _ _ _ _ _ _
  refine WC.rs ?_
  refine vb (q_fl 1 fld_86_1 rfl rfl rfl) ?_
  refine vb (q_ldl (i := 1) (v := .int .i64 a.n) rfl rfl Tryz.isAgg2 rfl rfl) ?_
  refine vb (q_fl 1 fld_86_1 rfl rfl rfl) ?_
  refine vb (q_ldl (i := 0) (v := .int .i64 b.n) rfl rfl Tryz.isAgg2 rfl rfl) ?_
  refine vb (q_lss rfl rfl rfl) ?_
  refine as_ (v := .bool (decide (a.n < b.n))) ?_
  refine WR.done ?_
  refine WC.ret ?_
  intro w hw
  obtain rfl := Option.some.inj h
  subst hF
  exact ⟨by kernel_rfl, hw.fr⟩
theorem t_firthref05_Right {Γ : Gh} {w0 : World} {Al : Option Addr} {cl : Nat} {l : List Ver} (hl : Sl verT Γ Al l) (hlc : l.length ≤ cl) (hs : Sat Γ w0) {r : Bool} (h : m_firthref05_Right l = some r) : Calls Tryz.prog 50 #[.slice Al l.length cl] w0 (fun e w' => e = .returned (.bool r) ∧ Fr no w0 w') := by
 refine calls_of (N := 45) (rs := [2]) (args := [.slice Al l.length cl]) Tryz.func50 rfl Tryz.ntmps50 Tryz.results50 rfl ?_
 obtain ⟨F, hF⟩ : ∃ F : Fm, F = ⟨no, w0, Γ⟩ := ⟨_, rfl⟩
 refine WC.here (C := CC F Γ []) ?_ (hF ▸ Cur.start0 hs)
 refine WC.rs ?_
 refine as_ (v := .bool false) ?_
 refine WR.done ?_
 refine WC.seq ?_
 refine WC.rs ?_
 refine mv (v := .slice Al l.length cl) ?_
 refine vb (q_len_slice rfl Tryz.underlying43 rfl) ?_
 refine vb (q_gtr rfl rfl rfl) ?_
 refine WR.done ?_
 refine WC.cif h (by kernel_rfl) (fun hb1 h => ?_) (fun hb1 h => ?_)
 ·
  refine WC.rs ?_
  refine as_ (v := .bool false) ?_
  refine WR.done ?_
  refine WC.ret ?_
  intro w hw
  obtain rfl := Option.some.inj h
  subst hF
  exact ⟨by kernel_rfl, hw.fr⟩
 ·
  refine WC.skip ?_
  change WC _ _ _ _ _ _
  refine WC.seq ?_
  refine WC.rs ?_
  refine as_ (v := .int .i64 0) ?_
  refine WR.done ?_
  refine WC.block ?_
  refine WC.forI h (fun (i3 : Nat) (s : Unit) σ w => match s with | () => slots σ [(0, .slice Al l.length cl), (3, .int .i64 ((i3 : Nat) : Int))] ∧ CC F Γ [] w ∧ True) ?_ ?_
  ·
   intro w hw
   exact ⟨(sl_ (by kernel_rfl)), hw, trivial⟩
  rintro f2 i3 ⟨⟩ σ w hi4 hlt5 hge6 ⟨hsl, hw, -⟩
  refine Wpt.slots hsl ?_
  refine WC.here (C := CC F Γ []) ?_ hw
  clear hw hsl
  refine WC.seq ?_
  refine WC.rs ?_
  refine mv (v := .int .i64 ((i3 : Nat) : Int)) ?_
  refine mv (v := .slice Al l.length cl) ?_
  refine vb (q_len_slice rfl Tryz.underlying43 rfl) ?_
  refine vb (q_lss rfl rfl rfl) ?_
  refine WR.done ?_
  refine WC.cond (b := (decide (((i3 : Nat) : Int) < ((l.length : Nat) : Int)))) (by kernel_rfl) (fun hb7 => ?_) (fun hb7 => ?_)
  ·
   have hl8 := ilt hb7
   have h := hlt5 hl8
   refine WC.skip ?_
   change WC _ _ _ _ _ _
   refine WC.seq ?_
   refine WC.block ?_
   refine WC.seq ?_
   refine WC.rs ?_
   refine mv (v := .slice Al l.length cl) ?_
   refine mv (v := .int .i64 ((i3 : Nat) : Int)) ?_
   refine vb (q_ixn (i := i3) Tryz.underlying43 Tryz.sizeOf89 rfl rfl rfl hl8 (hl.some_ hl8)) ?_
   obtain ⟨A9, c10, hx11⟩ := hl.verT_at i3
   refine vb (q_lda (c := 0) (vs := [.int .i64 (gt l i3).dot.s, .int .i64 (gt l i3).dot.n, .slice A9 ((gt l i3).past).length c10, .bool (gt l i3).gone, .string (gt l i3).val]) (hx11 hl8).2 rfl Tryz.isAgg89 Tryz.sizeOf89 rfl rfl rfl) ?_
   obtain ⟨z12, hz13, h⟩ := bnd h
   refine vc rfl rfl rfl (q_call (call_run Tryz.call80 rfl rfl (by kernel_rfl)) (fun w hw => t_firthref05_RightOne (Γ := Gh.all w) (gt l i3) (Ver.fits_mono (hx11 hl8).1 hw.sat.le_all) (Sat.all w) hz13)) ?_
   refine vb (q_not rfl rfl) ?_
   refine mv (v := .bool (!z12)) ?_
   refine vg0 rfl rfl rfl rfl rfl (fun hg14 => QV.qo (q_move (v := .slice Al l.length cl) rfl (by kernel_rfl))) ?_
   refine vg0 rfl rfl rfl rfl rfl (fun hg15 => QV.qo (q_move (v := .slice Al l.length cl) rfl (by kernel_rfl))) ?_
   refine vg0 rfl rfl rfl rfl rfl (fun hg16 => QV.qo (q_move (v := .int .i64 ((i3 : Nat) : Int)) rfl (by kernel_rfl))) ?_
   refine vg0 rfl rfl rfl rfl rfl (fun hg17 => QV.qo (q_ixn (i := i3) Tryz.underlying43 Tryz.sizeOf89 rfl (gu hg17 rfl) (gu hg17 rfl) hl8 (hl.some_ hl8))) ?_
   refine vg0 rfl rfl rfl rfl rfl (fun hg18 => QV.qo (q_field_addr (i3 * 5) fld_89_0 rfl (gu hg18 rfl) (hl.some_ hl8) rfl)) ?_
   refine vg0 rfl rfl rfl rfl rfl (fun hg19 => QV.qo (q_lda (c := 0) (vs := [.int .i64 (gt l i3).dot.s, .int .i64 (gt l i3).dot.n]) (hx11 hl8).2 rfl Tryz.isAgg86 Tryz.sizeOf86 (gu hg19 rfl) rfl rfl)) ?_
   obtain ⟨z21, hz22, h⟩ := bnd h
   refine vg0 rfl rfl rfl rfl rfl (fun hg20 => (q_call (call_run Tryz.call51 rfl rfl (args2 (gu hg20 rfl) (gu hg20 rfl))) (fun w hw => t_firthref05_Behind (Γ := Gh.all w) (hl.mono hw.sat.le_all) hlc ((gt l i3).dot) ⟨(hx11 hl8).1.1, (hx11 hl8).1.2.1⟩ (Sat.all w) (gc_of hz22 hg20)))) ?_
   refine vb (q_pick rfl rfl (pk_or' (g := (!z12)) (y := z21))) ?_
   refine WR.done ?_
   refine WC.cif h (by kernel_rfl) (fun hb23 h => ?_) (fun hb23 h => ?_)
   ·
    refine WC.rs ?_
    refine as_ (v := .bool false) ?_
    refine WR.done ?_
    refine WC.ret ?_
    intro w hw
    obtain rfl := Option.some.inj h
    subst hF
    exact ⟨by kernel_rfl, hw.fr⟩
   ·
    refine WC.skip ?_
    change WC _ _ _ _ _ _
    refine WC.seq ?_
    refine WC.dr (by kernel_rfl) (by kernel_rfl) (fun w hw => hw.drawn _) ?_
    refine wa rfl rfl rfl (q_move (v := .int .i64 ((i3 : Nat) : Int)) rfl (by kernel_rfl)) ?_
    refine wa rfl rfl rfl (q_gtr rfl rfl rfl) ?_
    refine wa rfl rfl rfl (q_move (v := .bool (decide (0 < ((i3 : Nat) : Int)))) rfl (by kernel_rfl)) ?_
    refine wg1 rfl rfl rfl rfl rfl (fun hg24 => QV.qo (q_move (v := .slice Al l.length cl) rfl (by kernel_rfl))) ?_
    refine wg1 rfl rfl rfl rfl rfl (fun hg25 => QV.qo (q_move (v := .int .i64 ((i3 : Nat) : Int)) rfl (by kernel_rfl))) ?_
    refine wg1 rfl rfl rfl rfl rfl (fun hg26 => QV.qo (q_sub rfl (gu hg26 rfl) rfl)) ?_
    obtain ⟨hk28, h⟩ := chk_some h
    refine wg1 rfl rfl rfl rfl rfl (fun hg27 => QV.qo (q_ix Tryz.underlying43 Tryz.sizeOf89 rfl (gu hg27 rfl) (gu hg27 rfl) (imp_of hk28 hg27) (hl.some_ (inb_lt (imp_of hk28 hg27))))) ?_
    refine wg1 rfl rfl rfl rfl rfl (fun hg29 => QV.qo (q_field_addr (((w64 (((i3 : Nat) : Int) - 1)).toNat) * 5) fld_89_0 rfl (gu hg29 rfl) (hl.some_ (inb_lt (imp_of hk28 hg29))) rfl)) ?_
    obtain ⟨A31, c32, hx33⟩ := hl.verT_at ((w64 (((i3 : Nat) : Int) - 1)).toNat)
    refine wg1 rfl rfl rfl rfl rfl (fun hg30 => QV.qo (q_lda (c := 0) (vs := [.int .i64 (gt l ((w64 (((i3 : Nat) : Int) - 1)).toNat)).dot.s, .int .i64 (gt l ((w64 (((i3 : Nat) : Int) - 1)).toNat)).dot.n]) (hx33 (inb_lt (imp_of hk28 hg30))).2 rfl Tryz.isAgg86 Tryz.sizeOf86 (gu hg30 rfl) rfl rfl)) ?_
    refine wg1 rfl rfl rfl rfl rfl (fun hg34 => QV.qo (q_move (v := .slice Al l.length cl) rfl (by kernel_rfl))) ?_
    refine wg1 rfl rfl rfl rfl rfl (fun hg35 => QV.qo (q_move (v := .int .i64 ((i3 : Nat) : Int)) rfl (by kernel_rfl))) ?_
    refine wg1 rfl rfl rfl rfl rfl (fun hg36 => QV.qo (q_ixn (i := i3) Tryz.underlying43 Tryz.sizeOf89 rfl (gu hg36 rfl) (gu hg36 rfl) hl8 (hl.some_ hl8))) ?_
    refine wg1 rfl rfl rfl rfl rfl (fun hg37 => QV.qo (q_field_addr (i3 * 5) fld_89_0 rfl (gu hg37 rfl) (hl.some_ hl8) rfl)) ?_
    refine wg1 rfl rfl rfl rfl rfl (fun hg38 => QV.qo (q_lda (c := 0) (vs := [.int .i64 (gt l i3).dot.s, .int .i64 (gt l i3).dot.n]) (hx11 hl8).2 rfl Tryz.isAgg86 Tryz.sizeOf86 (gu hg38 rfl) rfl rfl)) ?_
    obtain ⟨z40, hz41, h⟩ := bnd h
    refine wg1 rfl rfl rfl rfl rfl (fun hg39 => (q_call (call_run Tryz.call81 rfl rfl (args2 (gu hg39 rfl) (gu hg39 rfl))) (fun w hw => t_firthref05_Less (Γ := Gh.all w) ((gt l ((w64 (((i3 : Nat) : Int) - 1)).toNat)).dot) ⟨(hx33 (inb_lt (imp_of hk28 hg39))).1.1, (hx33 (inb_lt (imp_of hk28 hg39))).1.2.1⟩ ((gt l i3).dot) ⟨(hx11 hl8).1.1, (hx11 hl8).1.2.1⟩ (Sat.all w) (gc_of hz41 hg39)))) ?_
    refine wg1 rfl rfl rfl rfl rfl (fun hg42 => QV.qo (q_not rfl (gu hg42 rfl))) ?_
    refine wa rfl rfl rfl (q_pick rfl rfl (pk_and' (g := (decide (0 < ((i3 : Nat) : Int)))) (y := (!z40)))) ?_
    refine WQ.nil ?_
    change WC _ _ _ _ _ _
    refine WC.cif h (by kernel_rfl) (fun hb43 h => ?_) (fun hb43 h => ?_)
    ·
     refine WC.rs ?_
     refine as_ (v := .bool false) ?_
     refine WR.done ?_
     refine WC.ret ?_
     intro w hw
     obtain rfl := Option.some.inj h
     subst hF
     exact ⟨by kernel_rfl, hw.fr⟩
    ·
     refine WC.skip ?_
     change WC _ _ _ _ _ _
     refine WC.region ?_
     refine mv (v := .int .i64 ((i3 : Nat) : Int)) ?_
     refine vb (q_add_r (r := ((i3 + 1 : Nat) : Int)) rfl rfl rfl (ctr_len hl8 hl.le)) ?_
     refine as_ (v := .int .i64 ((i3 + 1 : Nat) : Int)) ?_
     refine WR.nil ?_
     intro w hw
     exact ⟨hl8, (), h, (sl_ (by kernel_rfl)), hw, trivial⟩
  ·
   have h := hge6 (ige hb7)
   refine WC.exit ?_
   change WC _ _ _ _ _ _
   refine WC.rs ?_
   refine as_ (v := .bool true) ?_
   refine WR.done ?_
   refine WC.ret ?_
   intro w hw
   obtain rfl := Option.some.inj h
   subst hF
   exact ⟨by kernel_rfl, hw.fr⟩
theorem t_firthref06_RightRec {Γ : Gh} {w0 : World} {Ar_1 : Option Addr} {cr_1 : Nat} (r_ : Rec) (hr_ : Rec.fits Γ Ar_1 cr_1 r_) (hs : Sat Γ w0) {r : Bool} (h : m_firthref06_RightRec r_ = some r) : Calls Tryz.prog 28 #[.agg #[.string r_.key, .slice Ar_1 r_.vers.length cr_1]] w0 (fun e w' => e = .returned (.bool r) ∧ Fr no w0 w') := by
 refine calls_of (N := 17) (rs := [2]) (args := [.agg #[.string r_.key, .slice Ar_1 r_.vers.length cr_1]]) Tryz.func28 rfl Tryz.ntmps28 Tryz.results28 rfl ?_
 obtain ⟨F, hF⟩ : ∃ F : Fm, F = ⟨no, w0, Γ⟩ := ⟨_, rfl⟩
 refine WC.here (C := CC F Γ []) ?_ (hF ▸ Cur.start0 hs)
 refine WC.rs ?_
 refine e_box (v := .agg #[.string r_.key, .slice Ar_1 r_.vers.length cr_1]) rfl rfl rfl rfl (by kernel_rfl) ?_
 intro g1
 refine as_ (v := .bool false) ?_
 refine WR.done ?_
 refine WC.rs ?_
 refine vb (q_fl 0 fld_45_0 rfl rfl rfl) ?_
 refine vb (q_ldl (i := 0) (v := .string r_.key) rfl rfl Tryz.isAgg9 rfl rfl) ?_
 refine vb (q_sneq rfl rfl rfl) ?_
 refine mv (v := .bool (r_.key != ByteArray.empty)) ?_
 refine vg1 rfl rfl rfl rfl rfl (fun hg2 => QV.qo (q_fl 0 fld_45_0 rfl rfl rfl)) ?_
 refine vg1 rfl rfl rfl rfl rfl (fun hg3 => QV.qo (q_ldl (i := 0) (v := .string r_.key) rfl rfl Tryz.isAgg9 (gu hg3 rfl) rfl)) ?_
 refine vg1 rfl rfl rfl rfl rfl (fun hg4 => QV.qo (q_len_str rfl Tryz.underlying9 (gu hg4 rfl))) ?_
 refine vg1 rfl rfl rfl rfl rfl (fun hg5 => QV.qo (q_leq rfl (gu hg5 rfl) rfl)) ?_
 refine vb (q_pick rfl rfl (pk_and' (g := (r_.key != ByteArray.empty)) (y := (decide (((r_.key.size : Nat) : Int) ≤ 32))))) ?_
 refine mv (v := .bool ((r_.key != ByteArray.empty) && (decide (((r_.key.size : Nat) : Int) ≤ 32)))) ?_
 refine vg1 rfl rfl rfl rfl rfl (fun hg6 => QV.qo (q_fl 1 fld_45_1 rfl rfl rfl)) ?_
 refine vg1 rfl rfl rfl rfl rfl (fun hg7 => QV.qo (q_ldl (i := 0) (v := .slice Ar_1 r_.vers.length cr_1) rfl rfl Tryz.isAgg43 (gu hg7 rfl) rfl)) ?_
 obtain ⟨z9, hz10, h⟩ := bnd h
 refine vg1 rfl rfl rfl rfl rfl (fun hg8 => (q_call (call_run Tryz.call50 rfl rfl (args1 (gu hg8 rfl))) (fun w hw => t_firthref05_Right (Γ := Gh.all w) (hr_.2.2.mono hw.sat.le_all) hr_.2.1 (Sat.all w) (gc_of hz10 hg8)))) ?_
 refine vb (q_pick rfl rfl (pk_and' (g := ((r_.key != ByteArray.empty) && (decide (((r_.key.size : Nat) : Int) ≤ 32)))) (y := z9))) ?_
 refine as_ (v := .bool (((r_.key != ByteArray.empty) && (decide (((r_.key.size : Nat) : Int) ≤ 32))) && z9)) ?_
 refine WR.done ?_
 refine WC.ret ?_
 intro w hw
 obtain rfl := Option.some.inj h
 subst hF
 exact ⟨by kernel_rfl, hw.fr⟩
theorem t_firthref03_Same {Γ : Gh} {w0 : World} {Aa : Option Addr} {ca : Nat} {a : List Span} (ha : Sl spanT Γ Aa a) (hac : a.length ≤ ca) {Ab : Option Addr} {cb : Nat} {b : List Span} (hb : Sl spanT Γ Ab b) (hbc : b.length ≤ cb) (hs : Sat Γ w0) {r : Bool} (h : m_firthref03_Same a b = some r) : Calls Tryz.prog 76 #[.slice Aa a.length ca, .slice Ab b.length cb] w0 (fun e w' => e = .returned (.bool r) ∧ Fr no w0 w') := by
 refine calls_of (N := 26) (rs := [4]) (args := [.slice Aa a.length ca, .slice Ab b.length cb]) Tryz.func76 rfl Tryz.ntmps76 Tryz.results76 rfl ?_
 obtain ⟨F, hF⟩ : ∃ F : Fm, F = ⟨no, w0, Γ⟩ := ⟨_, rfl⟩
 refine WC.here (C := CC F Γ []) ?_ (hF ▸ Cur.start0 hs)
 refine WC.rs ?_
 refine as_ (v := .bool false) ?_
 refine WR.done ?_
 refine WC.seq ?_
 refine WC.rs ?_
 refine mv (v := .slice Aa a.length ca) ?_
 refine vb (q_len_slice rfl Tryz.underlying87 rfl) ?_
 refine mv (v := .slice Ab b.length cb) ?_
 refine vb (q_len_slice rfl Tryz.underlying87 rfl) ?_
 refine vb (q_neq rfl rfl rfl) ?_
 refine WR.done ?_
 refine WC.cif h (by kernel_rfl) (fun hb1 h => ?_) (fun hb1 h => ?_)
 ·
  refine WC.rs ?_
  refine as_ (v := .bool false) ?_
  refine WR.done ?_
  refine WC.ret ?_
  intro w hw
  obtain rfl := Option.some.inj h
  subst hF
  exact ⟨by kernel_rfl, hw.fr⟩
 ·
  refine WC.skip ?_
  change WC _ _ _ _ _ _
  refine WC.seq ?_
  refine WC.rs ?_
  refine as_ (v := .int .i64 0) ?_
  refine WR.done ?_
  refine WC.block ?_
  refine WC.forI h (fun (i3 : Nat) (s : Unit) σ w => match s with | () => slots σ [(0, .slice Aa a.length ca), (1, .slice Ab b.length cb), (5, .int .i64 ((i3 : Nat) : Int))] ∧ CC F Γ [] w ∧ True) ?_ ?_
  ·
   intro w hw
   exact ⟨(sl_ (by kernel_rfl)), hw, trivial⟩
  rintro f2 i3 ⟨⟩ σ w hi4 hlt5 hge6 ⟨hsl, hw, -⟩
  refine Wpt.slots hsl ?_
  refine WC.here (C := CC F Γ []) ?_ hw
  clear hw hsl
  refine WC.seq ?_
  refine WC.rs ?_
  refine mv (v := .int .i64 ((i3 : Nat) : Int)) ?_
  refine mv (v := .slice Aa a.length ca) ?_
  refine vb (q_len_slice rfl Tryz.underlying87 rfl) ?_
  refine vb (q_lss rfl rfl rfl) ?_
  refine WR.done ?_
  refine WC.cond (b := (decide (((i3 : Nat) : Int) < ((a.length : Nat) : Int)))) (by kernel_rfl) (fun hb7 => ?_) (fun hb7 => ?_)
  ·
   have hl8 := ilt hb7
   have h := hlt5 hl8
   refine WC.skip ?_
   change WC _ _ _ _ _ _
   refine WC.seq ?_
   refine WC.block ?_
   refine WC.seq ?_
   refine WC.dr (by kernel_rfl) (by kernel_rfl) (fun w hw => hw.drawn _) ?_
   refine wa rfl rfl rfl (q_move (v := .slice Aa a.length ca) rfl (by kernel_rfl)) ?_
   refine wa rfl rfl rfl (q_move (v := .int .i64 ((i3 : Nat) : Int)) rfl (by kernel_rfl)) ?_
   refine wa rfl rfl rfl (q_ixn (i := i3) Tryz.underlying87 Tryz.sizeOf93 rfl rfl rfl hl8 (ha.some_ hl8)) ?_
   refine wa rfl rfl rfl (q_lda (c := 0) (vs := [.int .i64 (gt a i3).s, .int .i64 (gt a i3).f, .int .i64 (gt a i3).t]) (ha.spanT_at hl8).2 rfl Tryz.isAgg93 Tryz.sizeOf93 rfl rfl rfl) ?_
   refine wa rfl rfl rfl (q_move (v := .slice Ab b.length cb) rfl (by kernel_rfl)) ?_
   refine wa rfl rfl rfl (q_move (v := .int .i64 ((i3 : Nat) : Int)) rfl (by kernel_rfl)) ?_
   obtain ⟨hk9, h⟩ := chk_some h
   refine wa rfl rfl rfl (q_ixn (i := i3) Tryz.underlying87 Tryz.sizeOf93 rfl rfl rfl (of_decide_eq_true hk9) (hb.some_ (of_decide_eq_true hk9))) ?_
   refine wa rfl rfl rfl (q_lda (c := 0) (vs := [.int .i64 (gt b i3).s, .int .i64 (gt b i3).f, .int .i64 (gt b i3).t]) (hb.spanT_at (of_decide_eq_true hk9)).2 rfl Tryz.isAgg93 Tryz.sizeOf93 rfl rfl rfl) ?_
   refine wa rfl rfl rfl (q_neq_Span (a := (gt a i3)) (b := (gt b i3)) rfl rfl rfl) ?_
   refine WQ.nil ?_
   change WC _ _ _ _ _ _
   refine WC.cif h (by kernel_rfl) (fun hb10 h => ?_) (fun hb10 h => ?_)
   ·
    refine WC.rs ?_
    refine as_ (v := .bool false) ?_
    refine WR.done ?_
    refine WC.ret ?_
    intro w hw
    obtain rfl := Option.some.inj h
    subst hF
    exact ⟨by kernel_rfl, hw.fr⟩
   ·
    refine WC.skip ?_
    change WC _ _ _ _ _ _
    refine WC.region ?_
    refine mv (v := .int .i64 ((i3 : Nat) : Int)) ?_
    refine vb (q_add_r (r := ((i3 + 1 : Nat) : Int)) rfl rfl rfl (ctr_len hl8 ha.le)) ?_
    refine as_ (v := .int .i64 ((i3 + 1 : Nat) : Int)) ?_
    refine WR.nil ?_
    intro w hw
    exact ⟨hl8, (), h, (sl_ (by kernel_rfl)), hw, trivial⟩
  ·
   have h := hge6 (ige hb7)
   refine WC.exit ?_
   change WC _ _ _ _ _ _
   refine WC.rs ?_
   refine as_ (v := .bool true) ?_
   refine WR.done ?_
   refine WC.ret ?_
   intro w hw
   obtain rfl := Option.some.inj h
   subst hF
   exact ⟨by kernel_rfl, hw.fr⟩
theorem t_firthref05_SameOne {Γ : Gh} {w0 : World} {Aa2 : Option Addr} {ca2 : Nat} (a : Ver) (ha : Ver.fits Γ Aa2 ca2 a) {Ab2 : Option Addr} {cb2 : Nat} (b : Ver) (hb : Ver.fits Γ Ab2 cb2 b) (hs : Sat Γ w0) {r : Bool} (h : m_firthref05_SameOne a b = some r) : Calls Tryz.prog 45 #[.agg #[.int .i64 a.dot.s, .int .i64 a.dot.n, .slice Aa2 a.past.length ca2, .bool a.gone, .string a.val], .agg #[.int .i64 b.dot.s, .int .i64 b.dot.n, .slice Ab2 b.past.length cb2, .bool b.gone, .string b.val]] w0 (fun e w' => e = .returned (.bool r) ∧ Fr no w0 w') := by
 refine calls_of (N := 31) (rs := [4]) (args := [.agg #[.int .i64 a.dot.s, .int .i64 a.dot.n, .slice Aa2 a.past.length ca2, .bool a.gone, .string a.val], .agg #[.int .i64 b.dot.s, .int .i64 b.dot.n, .slice Ab2 b.past.length cb2, .bool b.gone, .string b.val]]) Tryz.func45 rfl Tryz.ntmps45 Tryz.results45 rfl ?_
 obtain ⟨F, hF⟩ : ∃ F : Fm, F = ⟨no, w0, Γ⟩ := ⟨_, rfl⟩
 refine WC.here (C := CC F Γ []) ?_ (hF ▸ Cur.start0 hs)
 refine WC.rs ?_
 refine e_box (v := .agg #[.int .i64 a.dot.s, .int .i64 a.dot.n, .slice Aa2 a.past.length ca2, .bool a.gone, .string a.val]) rfl rfl rfl rfl (by kernel_rfl) ?_
 intro g1
 refine e_box (v := .agg #[.int .i64 b.dot.s, .int .i64 b.dot.n, .slice Ab2 b.past.length cb2, .bool b.gone, .string b.val]) rfl rfl rfl rfl (by kernel_rfl) ?_
 intro g2
 refine as_ (v := .bool false) ?_
 refine WR.done ?_
 refine WC.rs ?_
 refine vb (q_fl 0 fld_89_0 rfl rfl rfl) ?_
 refine vb (q_ldla (i := 1) (vs := [.int .i64 a.dot.s, .int .i64 a.dot.n]) rfl rfl Tryz.isAgg86 Tryz.sizeOf86 rfl rfl) ?_
 refine vb (q_fl 0 fld_89_0 rfl rfl rfl) ?_
 refine vb (q_ldla (i := 0) (vs := [.int .i64 b.dot.s, .int .i64 b.dot.n]) rfl rfl Tryz.isAgg86 Tryz.sizeOf86 rfl rfl) ?_
 refine vb (q_eql_Dot (a := a.dot) (b := b.dot) rfl rfl rfl) ?_
 refine mv (v := .bool (a.dot == b.dot)) ?_
 refine vg1 rfl rfl rfl rfl rfl (fun hg3 => QV.qo (q_fl 3 fld_89_2 rfl rfl rfl)) ?_
 refine vg1 rfl rfl rfl rfl rfl (fun hg4 => QV.qo (q_ldl (i := 1) (v := .bool a.gone) rfl rfl Tryz.isAgg4 (gu hg4 rfl) rfl)) ?_
 refine vg1 rfl rfl rfl rfl rfl (fun hg5 => QV.qo (q_fl 3 fld_89_2 rfl rfl rfl)) ?_
 refine vg1 rfl rfl rfl rfl rfl (fun hg6 => QV.qo (q_ldl (i := 0) (v := .bool b.gone) rfl rfl Tryz.isAgg4 (gu hg6 rfl) rfl)) ?_
 refine vg1 rfl rfl rfl rfl rfl (fun hg7 => QV.qo (q_beql Tryz.underlying4 rfl (gu hg7 rfl) (gu hg7 rfl))) ?_
 refine vb (q_pick rfl rfl (pk_and' (g := (a.dot == b.dot)) (y := (a.gone == b.gone)))) ?_
 refine mv (v := .bool ((a.dot == b.dot) && (a.gone == b.gone))) ?_
 refine vg1 rfl rfl rfl rfl rfl (fun hg8 => QV.qo (q_fl 4 fld_89_3 rfl rfl rfl)) ?_
 refine vg1 rfl rfl rfl rfl rfl (fun hg9 => QV.qo (q_ldl (i := 1) (v := .string a.val) rfl rfl Tryz.isAgg9 (gu hg9 rfl) rfl)) ?_
 refine vg1 rfl rfl rfl rfl rfl (fun hg10 => QV.qo (q_fl 4 fld_89_3 rfl rfl rfl)) ?_
 refine vg1 rfl rfl rfl rfl rfl (fun hg11 => QV.qo (q_ldl (i := 0) (v := .string b.val) rfl rfl Tryz.isAgg9 (gu hg11 rfl) rfl)) ?_
 refine vg1 rfl rfl rfl rfl rfl (fun hg12 => QV.qo (q_seql rfl (gu hg12 rfl) (gu hg12 rfl))) ?_
 refine vb (q_pick rfl rfl (pk_and' (g := ((a.dot == b.dot) && (a.gone == b.gone))) (y := (a.val == b.val)))) ?_
 refine mv (v := .bool (((a.dot == b.dot) && (a.gone == b.gone)) && (a.val == b.val))) ?_
 refine vg1 rfl rfl rfl rfl rfl (fun hg13 => QV.qo (q_fl 2 fld_89_1 rfl rfl rfl)) ?_
 refine vg1 rfl rfl rfl rfl rfl (fun hg14 => QV.qo (q_ldl (i := 1) (v := .slice Aa2 a.past.length ca2) rfl rfl Tryz.isAgg87 (gu hg14 rfl) rfl)) ?_
 refine vg1 rfl rfl rfl rfl rfl (fun hg15 => QV.qo (q_fl 2 fld_89_1 rfl rfl rfl)) ?_
 refine vg1 rfl rfl rfl rfl rfl (fun hg16 => QV.qo (q_ldl (i := 0) (v := .slice Ab2 b.past.length cb2) rfl rfl Tryz.isAgg87 (gu hg16 rfl) rfl)) ?_
 obtain ⟨z18, hz19, h⟩ := bnd h
 refine vg1 rfl rfl rfl rfl rfl (fun hg17 => (q_call (call_run Tryz.call76 rfl rfl (args2 (gu hg17 rfl) (gu hg17 rfl))) (fun w hw => t_firthref03_Same (Γ := Gh.all w) (ha.2.2.1.2.mono hw.sat.le_all) ha.2.2.1.1 (hb.2.2.1.2.mono hw.sat.le_all) hb.2.2.1.1 (Sat.all w) (gc_of hz19 hg17)))) ?_
 refine vb (q_pick rfl rfl (pk_and' (g := (((a.dot == b.dot) && (a.gone == b.gone)) && (a.val == b.val))) (y := z18))) ?_
 refine as_ (v := .bool ((((a.dot == b.dot) && (a.gone == b.gone)) && (a.val == b.val)) && z18)) ?_
 refine WR.done ?_
 refine WC.ret ?_
 intro w hw
 obtain rfl := Option.some.inj h
 subst hF
 exact ⟨by kernel_rfl, hw.fr⟩
theorem t_firthlaw15_under {Γ : Gh} {w0 : World} {Aa : Option Addr} {ca : Nat} {a : List Span} (ha : Sl spanT Γ Aa a) (hac : a.length ≤ ca) {Ab : Option Addr} {cb : Nat} {b : List Span} (hb : Sl spanT Γ Ab b) (hbc : b.length ≤ cb) (hs : Sat Γ w0) {r : Bool} (h : m_firthlaw15_under a b = some r) : Calls Tryz.prog 52 #[.slice Aa a.length ca, .slice Ab b.length cb] w0 (fun e w' => e = .returned (.bool r) ∧ Fr no w0 w') := by
 refine calls_of (N := 62) (rs := [4]) (args := [.slice Aa a.length ca, .slice Ab b.length cb]) Tryz.func52 rfl Tryz.ntmps52 Tryz.results52 rfl ?_
 obtain ⟨F, hF⟩ : ∃ F : Fm, F = ⟨no, w0, Γ⟩ := ⟨_, rfl⟩
 refine WC.here (C := CC F Γ []) ?_ (hF ▸ Cur.start0 hs)
 refine WC.rs ?_
 refine as_ (v := .bool false) ?_
 refine WR.done ?_
 refine WC.seq ?_
 refine WC.rs ?_
 refine as_ (v := .int .i64 0) ?_
 refine WR.done ?_
 refine WC.block ?_
 refine WC.forI h (fun (i2 : Nat) (s : Unit) σ w => match s with | () => slots σ [(0, .slice Aa a.length ca), (1, .slice Ab b.length cb), (5, .int .i64 ((i2 : Nat) : Int))] ∧ CC F Γ [] w ∧ True) ?_ ?_
 ·
  intro w hw
  exact ⟨(sl_ (by kernel_rfl)), hw, trivial⟩
 rintro f1 i2 ⟨⟩ σ w hi3 hlt4 hge5 ⟨hsl, hw, -⟩
 refine Wpt.slots hsl ?_
 refine WC.here (C := CC F Γ []) ?_ hw
 clear hw hsl
 refine WC.seq ?_
 refine WC.rs ?_
 refine mv (v := .int .i64 ((i2 : Nat) : Int)) ?_
 refine mv (v := .slice Aa a.length ca) ?_
 refine vb (q_len_slice rfl Tryz.underlying87 rfl) ?_
 refine vb (q_lss rfl rfl rfl) ?_
 refine WR.done ?_
 refine WC.cond (b := (decide (((i2 : Nat) : Int) < ((a.length : Nat) : Int)))) (by kernel_rfl) (fun hb6 => ?_) (fun hb6 => ?_)
 ·
  have hl7 := ilt hb6
  have h := hlt4 hl7
  refine WC.skip ?_
  change WC _ _ _ _ _ _
  refine WC.seq ?_
  refine WC.block ?_
  refine WC.rs ?_
  refine as_ (v := .bool false) ?_
  refine WR.done ?_
  refine WC.seq ?_
  refine WC.rs ?_
  refine as_ (v := .int .i64 0) ?_
  refine WR.done ?_
  refine WC.block ?_
  refine WC.forI h (fun (i10 : Nat) (in_8 : Bool) σ w => slots σ [(0, .slice Aa a.length ca), (1, .slice Ab b.length cb), (5, .int .i64 ((i2 : Nat) : Int)), (6, .bool in_8), (7, .int .i64 ((i10 : Nat) : Int))] ∧ CC F Γ [] w ∧ True) ?_ ?_
  ·
   intro w hw
   exact ⟨(sl_ (by kernel_rfl)), hw, trivial⟩
  rintro f9 i10 in_8 σ w hi11 hlt12 hge13 ⟨hsl, hw, -⟩
  refine Wpt.slots hsl ?_
  refine WC.here (C := CC F Γ []) ?_ hw
  clear hw hsl
  refine WC.seq ?_
  refine WC.rs ?_
  refine mv (v := .int .i64 ((i10 : Nat) : Int)) ?_
  refine mv (v := .slice Ab b.length cb) ?_
  refine vb (q_len_slice rfl Tryz.underlying87 rfl) ?_
  refine vb (q_lss rfl rfl rfl) ?_
  refine WR.done ?_
  refine WC.cond (b := (decide (((i10 : Nat) : Int) < ((b.length : Nat) : Int)))) (by kernel_rfl) (fun hb14 => ?_) (fun hb14 => ?_)
  ·
   have hl15 := ilt hb14
   have h := hlt12 hl15
   refine WC.skip ?_
   change WC _ _ _ _ _ _
   refine WC.seq ?_
   refine WC.block ?_
   refine WC.dr (by kernel_rfl) (by kernel_rfl) (fun w hw => hw.drawn _) ?_
   refine wa rfl rfl rfl (q_move (v := .bool in_8) rfl (by kernel_rfl)) ?_
   refine wa rfl rfl rfl (q_move (v := .bool in_8) rfl (by kernel_rfl)) ?_
   refine wg0 rfl rfl rfl rfl rfl (fun hg16 => QV.qo (q_move (v := .slice Aa a.length ca) rfl (by kernel_rfl))) ?_
   refine wg0 rfl rfl rfl rfl rfl (fun hg17 => QV.qo (q_move (v := .int .i64 ((i2 : Nat) : Int)) rfl (by kernel_rfl))) ?_
   refine wg0 rfl rfl rfl rfl rfl (fun hg18 => QV.qo (q_ixn (i := i2) Tryz.underlying87 Tryz.sizeOf93 rfl (gu hg18 rfl) (gu hg18 rfl) hl7 (ha.some_ hl7))) ?_
   refine wg0 rfl rfl rfl rfl rfl (fun hg19 => QV.qo (q_field_addr (i2 * 3) fld_93_0 rfl (gu hg19 rfl) (ha.some_ hl7) rfl)) ?_
   refine wg0 rfl rfl rfl rfl rfl (fun hg20 => QV.qo (q_ld (c := 0) (v := .int .i64 (gt a i2).s) (ha.spanT_at hl7).2 rfl Tryz.isAgg3 (gu hg20 rfl) rfl)) ?_
   refine wg0 rfl rfl rfl rfl rfl (fun hg21 => QV.qo (q_move (v := .slice Ab b.length cb) rfl (by kernel_rfl))) ?_
   refine wg0 rfl rfl rfl rfl rfl (fun hg22 => QV.qo (q_move (v := .int .i64 ((i10 : Nat) : Int)) rfl (by kernel_rfl))) ?_
   refine wg0 rfl rfl rfl rfl rfl (fun hg23 => QV.qo (q_ixn (i := i10) Tryz.underlying87 Tryz.sizeOf93 rfl (gu hg23 rfl) (gu hg23 rfl) hl15 (hb.some_ hl15))) ?_
   refine wg0 rfl rfl rfl rfl rfl (fun hg24 => QV.qo (q_field_addr (i10 * 3) fld_93_0 rfl (gu hg24 rfl) (hb.some_ hl15) rfl)) ?_
   refine wg0 rfl rfl rfl rfl rfl (fun hg25 => QV.qo (q_ld (c := 0) (v := .int .i64 (gt b i10).s) (hb.spanT_at hl15).2 rfl Tryz.isAgg3 (gu hg25 rfl) rfl)) ?_
   refine wg0 rfl rfl rfl rfl rfl (fun hg26 => QV.qo (q_eql rfl (gu hg26 rfl) (gu hg26 rfl))) ?_
   refine wg0 rfl rfl rfl rfl rfl (fun hg27 => QV.qo (q_move (v := .bool ((gt a i2).s == (gt b i10).s)) rfl (gu hg27 rfl))) ?_
   refine wh1 (c0 := (!in_8)) (g := ((gt a i2).s == (gt b i10).s)) rfl rfl rfl rfl rfl (fun hg28 => QV.qo (q_move (v := .slice Ab b.length cb) rfl (by kernel_rfl))) ?_
   refine wh1 (c0 := (!in_8)) (g := ((gt a i2).s == (gt b i10).s)) rfl rfl rfl rfl rfl (fun hg29 => QV.qo (q_move (v := .int .i64 ((i10 : Nat) : Int)) rfl (by kernel_rfl))) ?_
   refine wh1 (c0 := (!in_8)) (g := ((gt a i2).s == (gt b i10).s)) rfl rfl rfl rfl rfl (fun hg30 => QV.qo (q_ixn (i := i10) Tryz.underlying87 Tryz.sizeOf93 rfl (gu hg30 rfl) (gu hg30 rfl) hl15 (hb.some_ hl15))) ?_
   refine wh1 (c0 := (!in_8)) (g := ((gt a i2).s == (gt b i10).s)) rfl rfl rfl rfl rfl (fun hg31 => QV.qo (q_field_addr (i10 * 3 + 1) fld_93_1 rfl (gu hg31 rfl) (hb.some_ hl15) rfl)) ?_
   refine wh1 (c0 := (!in_8)) (g := ((gt a i2).s == (gt b i10).s)) rfl rfl rfl rfl rfl (fun hg32 => QV.qo (q_ld (c := 1) (v := .int .i64 (gt b i10).f) (hb.spanT_at hl15).2 rfl Tryz.isAgg2 (gu hg32 rfl) rfl)) ?_
   refine wh1 (c0 := (!in_8)) (g := ((gt a i2).s == (gt b i10).s)) rfl rfl rfl rfl rfl (fun hg33 => QV.qo (q_move (v := .slice Aa a.length ca) rfl (by kernel_rfl))) ?_
   refine wh1 (c0 := (!in_8)) (g := ((gt a i2).s == (gt b i10).s)) rfl rfl rfl rfl rfl (fun hg34 => QV.qo (q_move (v := .int .i64 ((i2 : Nat) : Int)) rfl (by kernel_rfl))) ?_
   refine wh1 (c0 := (!in_8)) (g := ((gt a i2).s == (gt b i10).s)) rfl rfl rfl rfl rfl (fun hg35 => QV.qo (q_ixn (i := i2) Tryz.underlying87 Tryz.sizeOf93 rfl (gu hg35 rfl) (gu hg35 rfl) hl7 (ha.some_ hl7))) ?_
   refine wh1 (c0 := (!in_8)) (g := ((gt a i2).s == (gt b i10).s)) rfl rfl rfl rfl rfl (fun hg36 => QV.qo (q_field_addr (i2 * 3 + 1) fld_93_1 rfl (gu hg36 rfl) (ha.some_ hl7) rfl)) ?_
   refine wh1 (c0 := (!in_8)) (g := ((gt a i2).s == (gt b i10).s)) rfl rfl rfl rfl rfl (fun hg37 => QV.qo (q_ld (c := 1) (v := .int .i64 (gt a i2).f) (ha.spanT_at hl7).2 rfl Tryz.isAgg2 (gu hg37 rfl) rfl)) ?_
   refine wh1 (c0 := (!in_8)) (g := ((gt a i2).s == (gt b i10).s)) rfl rfl rfl rfl rfl (fun hg38 => QV.qo (q_leq rfl (gu hg38 rfl) (gu hg38 rfl))) ?_
   refine wg0 rfl rfl rfl rfl rfl (fun hg39 => QV.qo (q_pick rfl (gu hg39 rfl) (pk_and (c := (!in_8)) (g := ((gt a i2).s == (gt b i10).s)) (y := (decide ((gt b i10).f ≤ (gt a i2).f))) hg39))) ?_
   refine wg0 rfl rfl rfl rfl rfl (fun hg40 => QV.qo (q_move (v := .bool (((gt a i2).s == (gt b i10).s) && (decide ((gt b i10).f ≤ (gt a i2).f)))) rfl (gu hg40 rfl))) ?_
   refine wh1 (c0 := (!in_8)) (g := (((gt a i2).s == (gt b i10).s) && (decide ((gt b i10).f ≤ (gt a i2).f)))) rfl rfl rfl rfl rfl (fun hg41 => QV.qo (q_move (v := .slice Aa a.length ca) rfl (by kernel_rfl))) ?_
   refine wh1 (c0 := (!in_8)) (g := (((gt a i2).s == (gt b i10).s) && (decide ((gt b i10).f ≤ (gt a i2).f)))) rfl rfl rfl rfl rfl (fun hg42 => QV.qo (q_move (v := .int .i64 ((i2 : Nat) : Int)) rfl (by kernel_rfl))) ?_
   refine wh1 (c0 := (!in_8)) (g := (((gt a i2).s == (gt b i10).s) && (decide ((gt b i10).f ≤ (gt a i2).f)))) rfl rfl rfl rfl rfl (fun hg43 => QV.qo (q_ixn (i := i2) Tryz.underlying87 Tryz.sizeOf93 rfl (gu hg43 rfl) (gu hg43 rfl) hl7 (ha.some_ hl7))) ?_
   refine wh1 (c0 := (!in_8)) (g := (((gt a i2).s == (gt b i10).s) && (decide ((gt b i10).f ≤ (gt a i2).f)))) rfl rfl rfl rfl rfl (fun hg44 => QV.qo (q_field_addr (i2 * 3 + 2) fld_93_2 rfl (gu hg44 rfl) (ha.some_ hl7) rfl)) ?_
   refine wh1 (c0 := (!in_8)) (g := (((gt a i2).s == (gt b i10).s) && (decide ((gt b i10).f ≤ (gt a i2).f)))) rfl rfl rfl rfl rfl (fun hg45 => QV.qo (q_ld (c := 2) (v := .int .i64 (gt a i2).t) (ha.spanT_at hl7).2 rfl Tryz.isAgg2 (gu hg45 rfl) rfl)) ?_
   refine wh1 (c0 := (!in_8)) (g := (((gt a i2).s == (gt b i10).s) && (decide ((gt b i10).f ≤ (gt a i2).f)))) rfl rfl rfl rfl rfl (fun hg46 => QV.qo (q_move (v := .slice Ab b.length cb) rfl (by kernel_rfl))) ?_
   refine wh1 (c0 := (!in_8)) (g := (((gt a i2).s == (gt b i10).s) && (decide ((gt b i10).f ≤ (gt a i2).f)))) rfl rfl rfl rfl rfl (fun hg47 => QV.qo (q_move (v := .int .i64 ((i10 : Nat) : Int)) rfl (by kernel_rfl))) ?_
   refine wh1 (c0 := (!in_8)) (g := (((gt a i2).s == (gt b i10).s) && (decide ((gt b i10).f ≤ (gt a i2).f)))) rfl rfl rfl rfl rfl (fun hg48 => QV.qo (q_ixn (i := i10) Tryz.underlying87 Tryz.sizeOf93 rfl (gu hg48 rfl) (gu hg48 rfl) hl15 (hb.some_ hl15))) ?_
   refine wh1 (c0 := (!in_8)) (g := (((gt a i2).s == (gt b i10).s) && (decide ((gt b i10).f ≤ (gt a i2).f)))) rfl rfl rfl rfl rfl (fun hg49 => QV.qo (q_field_addr (i10 * 3 + 2) fld_93_2 rfl (gu hg49 rfl) (hb.some_ hl15) rfl)) ?_
   refine wh1 (c0 := (!in_8)) (g := (((gt a i2).s == (gt b i10).s) && (decide ((gt b i10).f ≤ (gt a i2).f)))) rfl rfl rfl rfl rfl (fun hg50 => QV.qo (q_ld (c := 2) (v := .int .i64 (gt b i10).t) (hb.spanT_at hl15).2 rfl Tryz.isAgg2 (gu hg50 rfl) rfl)) ?_
   refine wh1 (c0 := (!in_8)) (g := (((gt a i2).s == (gt b i10).s) && (decide ((gt b i10).f ≤ (gt a i2).f)))) rfl rfl rfl rfl rfl (fun hg51 => QV.qo (q_leq rfl (gu hg51 rfl) (gu hg51 rfl))) ?_
   refine wg0 rfl rfl rfl rfl rfl (fun hg52 => QV.qo (q_pick rfl (gu hg52 rfl) (pk_and (c := (!in_8)) (g := (((gt a i2).s == (gt b i10).s) && (decide ((gt b i10).f ≤ (gt a i2).f)))) (y := (decide ((gt a i2).t ≤ (gt b i10).t))) hg52))) ?_
   refine wa rfl rfl rfl (q_pick rfl rfl (pk_or' (g := in_8) (y := ((((gt a i2).s == (gt b i10).s) && (decide ((gt b i10).f ≤ (gt a i2).f))) && (decide ((gt a i2).t ≤ (gt b i10).t)))))) ?_
   refine wa rfl rfl rfl (q_assign (v := .bool (in_8 || ((((gt a i2).s == (gt b i10).s) && (decide ((gt b i10).f ≤ (gt a i2).f))) && (decide ((gt a i2).t ≤ (gt b i10).t))))) rfl (by kernel_rfl)) ?_
   refine WQ.nil ?_
   change WC _ _ _ _ _ _
   refine WC.region ?_
   refine mv (v := .int .i64 ((i10 : Nat) : Int)) ?_
   refine vb (q_add_r (r := ((i10 + 1 : Nat) : Int)) rfl rfl rfl (ctr_len hl15 hb.le)) ?_
   refine as_ (v := .int .i64 ((i10 + 1 : Nat) : Int)) ?_
   refine WR.nil ?_
   intro w hw
   exact ⟨hl15, (in_8 || ((((gt a i2).s == (gt b i10).s) && (decide ((gt b i10).f ≤ (gt a i2).f))) && (decide ((gt a i2).t ≤ (gt b i10).t)))), h, (sl_ (by kernel_rfl)), hw, trivial⟩
  ·
   have h := hge13 (ige hb14)
   refine WC.exit ?_
   change WC _ _ _ _ _ _
   refine WC.rs ?_
   refine mv (v := .bool in_8) ?_
   refine vb (q_not rfl rfl) ?_
   refine WR.done ?_
   refine WC.cif h (by kernel_rfl) (fun hb53 h => ?_) (fun hb53 h => ?_)
   ·
    refine WC.rs ?_
    refine as_ (v := .bool false) ?_
    refine WR.done ?_
    refine WC.ret ?_
    intro w hw
    obtain rfl := Option.some.inj h
    subst hF
    exact ⟨by kernel_rfl, hw.fr⟩
   ·
    refine WC.skip ?_
    change WC _ _ _ _ _ _
    refine WC.region ?_
    refine mv (v := .int .i64 ((i2 : Nat) : Int)) ?_
    refine vb (q_add_r (r := ((i2 + 1 : Nat) : Int)) rfl rfl rfl (ctr_len hl7 ha.le)) ?_
    refine as_ (v := .int .i64 ((i2 + 1 : Nat) : Int)) ?_
    refine WR.nil ?_
    intro w hw
    exact ⟨hl7, (), h, (sl_ (by kernel_rfl)), hw, trivial⟩
 ·
  have h := hge5 (ige hb6)
  refine WC.exit ?_
  change WC _ _ _ _ _ _
  refine WC.rs ?_
  refine as_ (v := .bool true) ?_
  refine WR.done ?_
  refine WC.ret ?_
  intro w hw
  obtain rfl := Option.some.inj h
  subst hF
  exact ⟨by kernel_rfl, hw.fr⟩
theorem t_firthlaw15_written {Γ : Gh} {w0 : World} {Aa : Option Addr} {ca : Nat} {a : List Ver} (ha : Sl verT Γ Aa a) (hac : a.length ≤ ca) {Ab : Option Addr} {cb : Nat} {b : List Ver} (hb : Sl verT Γ Ab b) (hbc : b.length ≤ cb) (hs : Sat Γ w0) {r : Bool} (h : m_firthlaw15_written a b = some r) : Calls Tryz.prog 29 #[.slice Aa a.length ca, .slice Ab b.length cb] w0 (fun e w' => e = .returned (.bool r) ∧ Fr no w0 w') := by
 refine calls_of (N := 80) (rs := [4]) (args := [.slice Aa a.length ca, .slice Ab b.length cb]) Tryz.func29 rfl Tryz.ntmps29 Tryz.results29 rfl ?_
 obtain ⟨F, hF⟩ : ∃ F : Fm, F = ⟨no, w0, Γ⟩ := ⟨_, rfl⟩
 refine WC.here (C := CC F Γ []) ?_ (hF ▸ Cur.start0 hs)
 refine WC.rs ?_
 refine as_ (v := .bool false) ?_
 refine WR.done ?_
 refine WC.seq ?_
 refine WC.rs ?_
 refine as_ (v := .int .i64 0) ?_
 refine WR.done ?_
 refine WC.block ?_
 refine WC.forI h (fun (i2 : Nat) (s : Unit) σ w => match s with | () => slots σ [(0, .slice Aa a.length ca), (1, .slice Ab b.length cb), (5, .int .i64 ((i2 : Nat) : Int))] ∧ CC F Γ [] w ∧ True) ?_ ?_
 ·
  intro w hw
  exact ⟨(sl_ (by kernel_rfl)), hw, trivial⟩
 rintro f1 i2 ⟨⟩ σ w hi3 hlt4 hge5 ⟨hsl, hw, -⟩
 refine Wpt.slots hsl ?_
 refine WC.here (C := CC F Γ []) ?_ hw
 clear hw hsl
 refine WC.seq ?_
 refine WC.rs ?_
 refine mv (v := .int .i64 ((i2 : Nat) : Int)) ?_
 refine mv (v := .slice Aa a.length ca) ?_
 refine vb (q_len_slice rfl Tryz.underlying43 rfl) ?_
 refine vb (q_lss rfl rfl rfl) ?_
 refine WR.done ?_
 refine WC.cond (b := (decide (((i2 : Nat) : Int) < ((a.length : Nat) : Int)))) (by kernel_rfl) (fun hb6 => ?_) (fun hb6 => ?_)
 ·
  have hl7 := ilt hb6
  have h := hlt4 hl7
  refine WC.skip ?_
  change WC _ _ _ _ _ _
  refine WC.seq ?_
  refine WC.block ?_
  refine WC.rs ?_
  refine as_ (v := .int .i64 0) ?_
  refine WR.done ?_
  refine WC.block ?_
  refine WC.forI h (fun (i9 : Nat) (s : Unit) σ w => match s with | () => slots σ [(0, .slice Aa a.length ca), (1, .slice Ab b.length cb), (5, .int .i64 ((i2 : Nat) : Int)), (6, .int .i64 ((i9 : Nat) : Int))] ∧ CC F Γ [] w ∧ True) ?_ ?_
  ·
   intro w hw
   exact ⟨(sl_ (by kernel_rfl)), hw, trivial⟩
  rintro f8 i9 ⟨⟩ σ w hi10 hlt11 hge12 ⟨hsl, hw, -⟩
  refine Wpt.slots hsl ?_
  refine WC.here (C := CC F Γ []) ?_ hw
  clear hw hsl
  refine WC.seq ?_
  refine WC.rs ?_
  refine mv (v := .int .i64 ((i9 : Nat) : Int)) ?_
  refine mv (v := .slice Ab b.length cb) ?_
  refine vb (q_len_slice rfl Tryz.underlying43 rfl) ?_
  refine vb (q_lss rfl rfl rfl) ?_
  refine WR.done ?_
  refine WC.cond (b := (decide (((i9 : Nat) : Int) < ((b.length : Nat) : Int)))) (by kernel_rfl) (fun hb13 => ?_) (fun hb13 => ?_)
  ·
   have hl14 := ilt hb13
   have h := hlt11 hl14
   refine WC.skip ?_
   change WC _ _ _ _ _ _
   refine WC.seq ?_
   refine WC.block ?_
   refine WC.seq ?_
   refine WC.seq ?_
   refine WC.dr (by kernel_rfl) (by kernel_rfl) (fun w hw => hw.drawn _) ?_
   refine wa rfl rfl rfl (q_move (v := .slice Aa a.length ca) rfl (by kernel_rfl)) ?_
   refine wa rfl rfl rfl (q_move (v := .int .i64 ((i2 : Nat) : Int)) rfl (by kernel_rfl)) ?_
   refine wa rfl rfl rfl (q_ixn (i := i2) Tryz.underlying43 Tryz.sizeOf89 rfl rfl rfl hl7 (ha.some_ hl7)) ?_
   refine wa rfl rfl rfl (q_field_addr (i2 * 5) fld_89_0 rfl rfl (ha.some_ hl7) rfl) ?_
   obtain ⟨A15, c16, hx17⟩ := ha.verT_at i2
   refine wa rfl rfl rfl (q_lda (c := 0) (vs := [.int .i64 (gt a i2).dot.s, .int .i64 (gt a i2).dot.n]) (hx17 hl7).2 rfl Tryz.isAgg86 Tryz.sizeOf86 rfl rfl rfl) ?_
   refine wa rfl rfl rfl (q_move (v := .slice Ab b.length cb) rfl (by kernel_rfl)) ?_
   refine wa rfl rfl rfl (q_move (v := .int .i64 ((i9 : Nat) : Int)) rfl (by kernel_rfl)) ?_
   refine wa rfl rfl rfl (q_ixn (i := i9) Tryz.underlying43 Tryz.sizeOf89 rfl rfl rfl hl14 (hb.some_ hl14)) ?_
   refine wa rfl rfl rfl (q_field_addr (i9 * 5) fld_89_0 rfl rfl (hb.some_ hl14) rfl) ?_
   obtain ⟨A18, c19, hx20⟩ := hb.verT_at i9
   refine wa rfl rfl rfl (q_lda (c := 0) (vs := [.int .i64 (gt b i9).dot.s, .int .i64 (gt b i9).dot.n]) (hx20 hl14).2 rfl Tryz.isAgg86 Tryz.sizeOf86 rfl rfl rfl) ?_
   refine wa rfl rfl rfl (q_eql_Dot (a := (gt a i2).dot) (b := (gt b i9).dot) rfl rfl rfl) ?_
   refine wa rfl rfl rfl (q_move (v := .bool ((gt a i2).dot == (gt b i9).dot)) rfl (by kernel_rfl)) ?_
   refine wg1 rfl rfl rfl rfl rfl (fun hg21 => QV.qo (q_move (v := .slice Aa a.length ca) rfl (by kernel_rfl))) ?_
   refine wg1 rfl rfl rfl rfl rfl (fun hg22 => QV.qo (q_move (v := .int .i64 ((i2 : Nat) : Int)) rfl (by kernel_rfl))) ?_
   refine wg1 rfl rfl rfl rfl rfl (fun hg23 => QV.qo (q_ixn (i := i2) Tryz.underlying43 Tryz.sizeOf89 rfl (gu hg23 rfl) (gu hg23 rfl) hl7 (ha.some_ hl7))) ?_
   refine wg1 rfl rfl rfl rfl rfl (fun hg24 => QV.qo (q_lda (c := 0) (vs := [.int .i64 (gt a i2).dot.s, .int .i64 (gt a i2).dot.n, .slice A15 ((gt a i2).past).length c16, .bool (gt a i2).gone, .string (gt a i2).val]) (hx17 hl7).2 rfl Tryz.isAgg89 Tryz.sizeOf89 (gu hg24 rfl) rfl rfl)) ?_
   refine wg1 rfl rfl rfl rfl rfl (fun hg25 => QV.qo (q_move (v := .slice Ab b.length cb) rfl (by kernel_rfl))) ?_
   refine wg1 rfl rfl rfl rfl rfl (fun hg26 => QV.qo (q_move (v := .int .i64 ((i9 : Nat) : Int)) rfl (by kernel_rfl))) ?_
   refine wg1 rfl rfl rfl rfl rfl (fun hg27 => QV.qo (q_ixn (i := i9) Tryz.underlying43 Tryz.sizeOf89 rfl (gu hg27 rfl) (gu hg27 rfl) hl14 (hb.some_ hl14))) ?_
   refine wg1 rfl rfl rfl rfl rfl (fun hg28 => QV.qo (q_lda (c := 0) (vs := [.int .i64 (gt b i9).dot.s, .int .i64 (gt b i9).dot.n, .slice A18 ((gt b i9).past).length c19, .bool (gt b i9).gone, .string (gt b i9).val]) (hx20 hl14).2 rfl Tryz.isAgg89 Tryz.sizeOf89 (gu hg28 rfl) rfl rfl)) ?_
   obtain ⟨z30, hz31, h⟩ := bnd h
   refine wg1 rfl rfl rfl rfl rfl (fun hg29 => (q_call (call_run Tryz.call45 rfl rfl (args2 (gu hg29 rfl) (gu hg29 rfl))) (fun w hw => t_firthref05_SameOne (Γ := Gh.all w) (gt a i2) (Ver.fits_mono (hx17 hl7).1 hw.sat.le_all) (gt b i9) (Ver.fits_mono (hx20 hl14).1 hw.sat.le_all) (Sat.all w) (gc_of hz31 hg29)))) ?_
   refine wg1 rfl rfl rfl rfl rfl (fun hg32 => QV.qo (q_not rfl (gu hg32 rfl))) ?_
   refine wa rfl rfl rfl (q_pick rfl rfl (pk_and' (g := ((gt a i2).dot == (gt b i9).dot)) (y := (!z30)))) ?_
   refine WQ.nil ?_
   change WC _ _ _ _ _ _
   refine WC.cif h (by kernel_rfl) (fun hb33 h => ?_) (fun hb33 h => ?_)
   ·
    refine WC.rs ?_
    refine as_ (v := .bool false) ?_
    refine WR.done ?_
    refine WC.ret ?_
    intro w hw
    obtain rfl := Option.some.inj h
    subst hF
    exact ⟨by kernel_rfl, hw.fr⟩
   ·
    refine WC.skip ?_
    change WC _ _ _ _ _ _
    refine WC.seq ?_
    refine WC.dr (by kernel_rfl) (by kernel_rfl) (fun w hw => hw.drawn _) ?_
    refine wa rfl rfl rfl (q_move (v := .slice Aa a.length ca) rfl (by kernel_rfl)) ?_
    refine wa rfl rfl rfl (q_move (v := .int .i64 ((i2 : Nat) : Int)) rfl (by kernel_rfl)) ?_
    refine wa rfl rfl rfl (q_move (v := .int .i64 ((i2 : Nat) : Int)) rfl (by kernel_rfl)) ?_
    refine wa rfl rfl rfl (q_add_r (r := ((i2 + 1 : Nat) : Int)) rfl rfl rfl (ctr_len hl7 ha.le)) ?_
    obtain ⟨hk34, h⟩ := chk_some h
    refine wa rfl rfl rfl (q_cut (c := ca) (lo := i2) (hi := i2 + 1) (xs := a) Tryz.underlying43 Tryz.sizeOf89 rfl rfl rfl rfl (Nat.le_succ _) (of_decide_eq_true hk34) hac) ?_
    refine wa rfl rfl rfl (q_move (v := .slice Ab b.length cb) rfl (by kernel_rfl)) ?_
    refine wa rfl rfl rfl (q_move (v := .int .i64 ((i9 : Nat) : Int)) rfl (by kernel_rfl)) ?_
    refine wa rfl rfl rfl (q_ixn (i := i9) Tryz.underlying43 Tryz.sizeOf89 rfl rfl rfl hl14 (hb.some_ hl14)) ?_
    refine wa rfl rfl rfl (q_field_addr (i9 * 5) fld_89_0 rfl rfl (hb.some_ hl14) rfl) ?_
    refine wa rfl rfl rfl (q_lda (c := 0) (vs := [.int .i64 (gt b i9).dot.s, .int .i64 (gt b i9).dot.n]) (hx20 hl14).2 rfl Tryz.isAgg86 Tryz.sizeOf86 rfl rfl rfl) ?_
    obtain ⟨z35, hz36, h⟩ := bnd h
    refine wc rfl rfl rfl (q_call (call_run Tryz.call51 rfl rfl (by kernel_rfl)) (fun w hw => t_firthref05_Behind (Γ := Gh.all w) ((ha.cut (cap := ca) (lo := i2) (hi := i2 + 1) (Nat.le_succ _) (of_decide_eq_true hk34) hac).mono hw.sat.le_all) (cut2_cap hac i2 (i2 + 1)) ((gt b i9).dot) ⟨(hx20 hl14).1.1, (hx20 hl14).1.2.1⟩ (Sat.all w) hz36)) ?_
    refine wa rfl rfl rfl (q_move (v := .bool z35) rfl (by kernel_rfl)) ?_
    refine wg1 rfl rfl rfl rfl rfl (fun hg37 => QV.qo (q_move (v := .slice Ab b.length cb) rfl (by kernel_rfl))) ?_
    refine wg1 rfl rfl rfl rfl rfl (fun hg38 => QV.qo (q_move (v := .int .i64 ((i9 : Nat) : Int)) rfl (by kernel_rfl))) ?_
    refine wg1 rfl rfl rfl rfl rfl (fun hg39 => QV.qo (q_move (v := .int .i64 ((i9 : Nat) : Int)) rfl (by kernel_rfl))) ?_
    refine wg1 rfl rfl rfl rfl rfl (fun hg40 => QV.qo (q_add_r (r := ((i9 + 1 : Nat) : Int)) rfl (gu hg40 rfl) rfl (ctr_len hl14 hb.le))) ?_
    obtain ⟨hk42, h⟩ := chk_some h
    refine wg1 rfl rfl rfl rfl rfl (fun hg41 => QV.qo (q_cut (c := cb) (lo := i9) (hi := i9 + 1) (xs := b) Tryz.underlying43 Tryz.sizeOf89 rfl (gu hg41 rfl) (gu hg41 rfl) (gu hg41 rfl) (Nat.le_succ _) (of_decide_eq_true (imp_of hk42 hg41)) hbc)) ?_
    refine wg1 rfl rfl rfl rfl rfl (fun hg43 => QV.qo (q_move (v := .slice Aa a.length ca) rfl (by kernel_rfl))) ?_
    refine wg1 rfl rfl rfl rfl rfl (fun hg44 => QV.qo (q_move (v := .int .i64 ((i2 : Nat) : Int)) rfl (by kernel_rfl))) ?_
    refine wg1 rfl rfl rfl rfl rfl (fun hg45 => QV.qo (q_ixn (i := i2) Tryz.underlying43 Tryz.sizeOf89 rfl (gu hg45 rfl) (gu hg45 rfl) hl7 (ha.some_ hl7))) ?_
    refine wg1 rfl rfl rfl rfl rfl (fun hg46 => QV.qo (q_field_addr (i2 * 5) fld_89_0 rfl (gu hg46 rfl) (ha.some_ hl7) rfl)) ?_
    refine wg1 rfl rfl rfl rfl rfl (fun hg47 => QV.qo (q_lda (c := 0) (vs := [.int .i64 (gt a i2).dot.s, .int .i64 (gt a i2).dot.n]) (hx17 hl7).2 rfl Tryz.isAgg86 Tryz.sizeOf86 (gu hg47 rfl) rfl rfl)) ?_
    obtain ⟨z49, hz50, h⟩ := bnd h
    refine wg1 rfl rfl rfl rfl rfl (fun hg48 => (q_call (call_run Tryz.call51 rfl rfl (args2 (gu hg48 rfl) (gu hg48 rfl))) (fun w hw => t_firthref05_Behind (Γ := Gh.all w) ((hb.cut (cap := cb) (lo := i9) (hi := i9 + 1) (Nat.le_succ _) (of_decide_eq_true (imp_of hk42 hg48)) hbc).mono hw.sat.le_all) (cut2_cap hbc i9 (i9 + 1)) ((gt a i2).dot) ⟨(hx17 hl7).1.1, (hx17 hl7).1.2.1⟩ (Sat.all w) (gc_of hz50 hg48)))) ?_
    refine wg1 rfl rfl rfl rfl rfl (fun hg51 => QV.qo (q_move (v := .bool z49) rfl (gu hg51 rfl))) ?_
    refine wh0 (c0 := z35) (g := z49) rfl rfl rfl rfl rfl (fun hg52 => QV.qo (q_move (v := .slice Ab b.length cb) rfl (by kernel_rfl))) ?_
    refine wh0 (c0 := z35) (g := z49) rfl rfl rfl rfl rfl (fun hg53 => QV.qo (q_move (v := .int .i64 ((i9 : Nat) : Int)) rfl (by kernel_rfl))) ?_
    refine wh0 (c0 := z35) (g := z49) rfl rfl rfl rfl rfl (fun hg54 => QV.qo (q_ixn (i := i9) Tryz.underlying43 Tryz.sizeOf89 rfl (gu hg54 rfl) (gu hg54 rfl) hl14 (hb.some_ hl14))) ?_
    refine wh0 (c0 := z35) (g := z49) rfl rfl rfl rfl rfl (fun hg55 => QV.qo (q_field_addr (i9 * 5 + 2) fld_89_1 rfl (gu hg55 rfl) (hb.some_ hl14) rfl)) ?_
    refine wh0 (c0 := z35) (g := z49) rfl rfl rfl rfl rfl (fun hg56 => QV.qo (q_ld (c := 2) (v := .slice A18 ((gt b i9).past).length c19) (hx20 hl14).2 rfl Tryz.isAgg87 (gu hg56 rfl) rfl)) ?_
    refine wh0 (c0 := z35) (g := z49) rfl rfl rfl rfl rfl (fun hg57 => QV.qo (q_move (v := .slice Aa a.length ca) rfl (by kernel_rfl))) ?_
    refine wh0 (c0 := z35) (g := z49) rfl rfl rfl rfl rfl (fun hg58 => QV.qo (q_move (v := .int .i64 ((i2 : Nat) : Int)) rfl (by kernel_rfl))) ?_
    refine wh0 (c0 := z35) (g := z49) rfl rfl rfl rfl rfl (fun hg59 => QV.qo (q_ixn (i := i2) Tryz.underlying43 Tryz.sizeOf89 rfl (gu hg59 rfl) (gu hg59 rfl) hl7 (ha.some_ hl7))) ?_
    refine wh0 (c0 := z35) (g := z49) rfl rfl rfl rfl rfl (fun hg60 => QV.qo (q_field_addr (i2 * 5 + 2) fld_89_1 rfl (gu hg60 rfl) (ha.some_ hl7) rfl)) ?_
    refine wh0 (c0 := z35) (g := z49) rfl rfl rfl rfl rfl (fun hg61 => QV.qo (q_ld (c := 2) (v := .slice A15 ((gt a i2).past).length c16) (hx17 hl7).2 rfl Tryz.isAgg87 (gu hg61 rfl) rfl)) ?_
    obtain ⟨z63, hz64, h⟩ := bnd h
    refine wh0 (c0 := z35) (g := z49) rfl rfl rfl rfl rfl (fun hg62 => (q_call (call_run Tryz.call52 rfl rfl (args2 (gu hg62 rfl) (gu hg62 rfl))) (fun w hw => t_firthlaw15_under (Γ := Gh.all w) ((hx20 hl14).1.2.2.1.2.mono hw.sat.le_all) (hx20 hl14).1.2.2.1.1 ((hx17 hl7).1.2.2.1.2.mono hw.sat.le_all) (hx17 hl7).1.2.2.1.1 (Sat.all w) (gc_of hz64 hg62)))) ?_
    refine wh0 (c0 := z35) (g := z49) rfl rfl rfl rfl rfl (fun hg65 => QV.qo (q_not rfl (gu hg65 rfl))) ?_
    refine wg1 rfl rfl rfl rfl rfl (fun hg66 => QV.qo (q_pick rfl (gu hg66 rfl) (pk_or (c := z35) (g := z49) (y := (!z63)) hg66))) ?_
    refine wa rfl rfl rfl (q_pick rfl rfl (pk_and' (g := z35) (y := (z49 || (!z63))))) ?_
    refine WQ.nil ?_
    change WC _ _ _ _ _ _
    refine WC.cif h (by kernel_rfl) (fun hb67 h => ?_) (fun hb67 h => ?_)
    ·
     refine WC.rs ?_
     refine as_ (v := .bool false) ?_
     refine WR.done ?_
     refine WC.ret ?_
     intro w hw
     obtain rfl := Option.some.inj h
     subst hF
     exact ⟨by kernel_rfl, hw.fr⟩
    ·
     refine WC.skip ?_
     change WC _ _ _ _ _ _
     refine WC.region ?_
     refine mv (v := .int .i64 ((i9 : Nat) : Int)) ?_
     refine vb (q_add_r (r := ((i9 + 1 : Nat) : Int)) rfl rfl rfl (ctr_len hl14 hb.le)) ?_
     refine as_ (v := .int .i64 ((i9 + 1 : Nat) : Int)) ?_
     refine WR.nil ?_
     intro w hw
     exact ⟨hl14, (), h, (sl_ (by kernel_rfl)), hw, trivial⟩
  ·
   have h := hge12 (ige hb13)
   refine WC.exit ?_
   change WC _ _ _ _ _ _
   refine WC.region ?_
   refine mv (v := .int .i64 ((i2 : Nat) : Int)) ?_
   refine vb (q_add_r (r := ((i2 + 1 : Nat) : Int)) rfl rfl rfl (ctr_len hl7 ha.le)) ?_
   refine as_ (v := .int .i64 ((i2 + 1 : Nat) : Int)) ?_
   refine WR.nil ?_
   intro w hw
   exact ⟨hl7, (), h, (sl_ (by kernel_rfl)), hw, trivial⟩
 ·
  have h := hge5 (ige hb6)
  refine WC.exit ?_
  change WC _ _ _ _ _ _
  refine WC.rs ?_
  refine as_ (v := .bool true) ?_
  refine WR.done ?_
  refine WC.ret ?_
  intro w hw
  obtain rfl := Option.some.inj h
  subst hF
  exact ⟨by kernel_rfl, hw.fr⟩
theorem t_firthlaw15_plain {Γ : Gh} {w0 : World} {Alist : Option Addr} {clist : Nat} {list : List Rec} (hlist : Sl recT Γ Alist list) (hlistc : list.length ≤ clist) (hs : Sat Γ w0) {r : Bool} (h : m_firthlaw15_plain list = some r) : Calls Tryz.prog 8 #[.slice Alist list.length clist] w0 (fun e w' => e = .returned (.bool r) ∧ Fr no w0 w') := by
 refine calls_of (N := 64) (rs := [2]) (args := [.slice Alist list.length clist]) Tryz.func8 rfl Tryz.ntmps8 Tryz.results8 rfl ?_
 obtain ⟨F, hF⟩ : ∃ F : Fm, F = ⟨no, w0, Γ⟩ := ⟨_, rfl⟩
 refine WC.here (C := CC F Γ []) ?_ (hF ▸ Cur.start0 hs)
 refine WC.rs ?_
 refine as_ (v := .bool false) ?_
 refine WR.done ?_
 refine WC.rs ?_
 refine as_ (v := .int .i64 0) ?_
 refine WR.done ?_
 refine WC.seq ?_
 refine WC.rs ?_
 refine mv (v := .slice Alist list.length clist) ?_
 obtain ⟨z1, hz2, h⟩ := bnd h
 refine vc rfl rfl rfl (q_call (call_run Tryz.call27 rfl rfl (by kernel_rfl)) (fun w hw => t_firthlaw15_heavy (Γ := Gh.all w) (hlist.mono hw.sat.le_all) hlistc (Sat.all w) hz2)) ?_
 refine vb (q_gtr rfl rfl rfl) ?_
 refine WR.done ?_
 refine WC.cif h (by kernel_rfl) (fun hb3 h => ?_) (fun hb3 h => ?_)
 ·
  refine WC.rs ?_
  refine as_ (v := .bool false) ?_
  refine WR.done ?_
  refine WC.ret ?_
  intro w hw
  obtain rfl := Option.some.inj h
  subst hF
  exact ⟨by kernel_rfl, hw.fr⟩
 ·
  refine WC.skip ?_
  change WC _ _ _ _ _ _
  refine WC.seq ?_
  refine WC.rs ?_
  refine as_ (v := .int .i64 0) ?_
  refine WR.done ?_
  refine WC.block ?_
  refine WC.forI h (fun (i7 : Nat) (n_4 : Int) σ w => slots σ [(0, .slice Alist list.length clist), (3, .int .i64 n_4), (4, .int .i64 ((i7 : Nat) : Int))] ∧ CC F Γ [] w ∧ I64 n_4 ∧ True) ?_ ?_
  ·
   intro w hw
   exact ⟨(sl_ (by kernel_rfl)), hw, (show I64 0 by decide), trivial⟩
  rintro f6 i7 n_4 σ w hi8 hlt9 hge10 ⟨hsl, hw, hr5, -⟩
  refine Wpt.slots hsl ?_
  refine WC.here (C := CC F Γ []) ?_ hw
  clear hw hsl
  refine WC.seq ?_
  refine WC.rs ?_
  refine mv (v := .int .i64 ((i7 : Nat) : Int)) ?_
  refine mv (v := .slice Alist list.length clist) ?_
  refine vb (q_len_slice rfl Tryz.underlying22 rfl) ?_
  refine vb (q_lss rfl rfl rfl) ?_
  refine WR.done ?_
  refine WC.cond (b := (decide (((i7 : Nat) : Int) < ((list.length : Nat) : Int)))) (by kernel_rfl) (fun hb11 => ?_) (fun hb11 => ?_)
  ·
   have hl12 := ilt hb11
   have h := hlt9 hl12
   refine WC.skip ?_
   change WC _ _ _ _ _ _
   refine WC.seq ?_
   refine WC.block ?_
   refine WC.rs ?_
   refine mv (v := .int .i64 n_4) ?_
   refine mv (v := .slice Alist list.length clist) ?_
   refine mv (v := .int .i64 ((i7 : Nat) : Int)) ?_
   refine vb (q_ixn (i := i7) Tryz.underlying22 Tryz.sizeOf45 rfl rfl rfl hl12 (hlist.some_ hl12)) ?_
   refine vb (q_field_addr (i7 * 2 + 1) fld_45_1 rfl rfl (hlist.some_ hl12) rfl) ?_
   obtain ⟨A13, c14, hx15⟩ := hlist.recT_at i7
   refine vb (q_ld (c := 1) (v := .slice A13 ((gt list i7).vers).length c14) (hx15 hl12).2 rfl Tryz.isAgg43 rfl rfl) ?_
   refine vb (q_len_slice rfl Tryz.underlying43 rfl) ?_
   refine vb (q_add rfl rfl rfl) ?_
   refine as_ (v := .int .i64 (w64 (n_4 + ((((gt list i7).vers).length : Nat) : Int)))) ?_
   refine WR.done ?_
   refine WC.seq ?_
   refine WC.rs ?_
   refine mv (v := .slice Alist list.length clist) ?_
   refine mv (v := .int .i64 ((i7 : Nat) : Int)) ?_
   refine vb (q_ixn (i := i7) Tryz.underlying22 Tryz.sizeOf45 rfl rfl rfl hl12 (hlist.some_ hl12)) ?_
   refine vb (q_lda (c := 0) (vs := [.string (gt list i7).key, .slice A13 ((gt list i7).vers).length c14]) (hx15 hl12).2 rfl Tryz.isAgg45 Tryz.sizeOf45 rfl rfl rfl) ?_
   obtain ⟨z16, hz17, h⟩ := bnd h
   refine vc rfl rfl rfl (q_call (call_run Tryz.call28 rfl rfl (by kernel_rfl)) (fun w hw => t_firthref06_RightRec (Γ := Gh.all w) (gt list i7) (Rec.fits_mono (hx15 hl12).1 hw.sat.le_all) (Sat.all w) hz17)) ?_
   refine vb (q_not rfl rfl) ?_
   refine mv (v := .bool (!z16)) ?_
   refine vg0 rfl rfl rfl rfl rfl (fun hg18 => QV.qo (q_move (v := .int .i64 (w64 (n_4 + ((((gt list i7).vers).length : Nat) : Int)))) rfl (by kernel_rfl))) ?_
   refine vg0 rfl rfl rfl rfl rfl (fun hg19 => QV.qo (q_gtr rfl (gu hg19 rfl) rfl)) ?_
   refine vb (q_pick rfl rfl (pk_or' (g := (!z16)) (y := (decide (512 < (w64 (n_4 + ((((gt list i7).vers).length : Nat) : Int)))))))) ?_
   refine WR.done ?_
   refine WC.cif h (by kernel_rfl) (fun hb20 h => ?_) (fun hb20 h => ?_)
   ·
    refine WC.rs ?_
    refine as_ (v := .bool false) ?_
    refine WR.done ?_
    refine WC.ret ?_
    intro w hw
    obtain rfl := Option.some.inj h
    subst hF
    exact ⟨by kernel_rfl, hw.fr⟩
   ·
    refine WC.skip ?_
    change WC _ _ _ _ _ _
    refine WC.rs ?_
    refine as_ (v := .int .i64 0) ?_
    refine WR.done ?_
    refine WC.block ?_
    refine WC.forI h (fun (i22 : Nat) (s : Unit) σ w => match s with | () => slots σ [(0, .slice Alist list.length clist), (3, .int .i64 (w64 (n_4 + ((((gt list i7).vers).length : Nat) : Int)))), (4, .int .i64 ((i7 : Nat) : Int)), (5, .int .i64 ((i22 : Nat) : Int))] ∧ CC F Γ [] w ∧ True) ?_ ?_
    ·
     intro w hw
     exact ⟨(sl_ (by kernel_rfl)), hw, trivial⟩
    rintro f21 i22 ⟨⟩ σ w hi23 hlt24 hge25 ⟨hsl, hw, -⟩
    refine Wpt.slots hsl ?_
    refine WC.here (C := CC F Γ []) ?_ hw
    clear hw hsl
    refine WC.seq ?_
    refine WC.rs ?_
    refine mv (v := .int .i64 ((i22 : Nat) : Int)) ?_
    refine mv (v := .slice Alist list.length clist) ?_
    refine vb (q_len_slice rfl Tryz.underlying22 rfl) ?_
    refine vb (q_lss rfl rfl rfl) ?_
    refine WR.done ?_
    refine WC.cond (b := (decide (((i22 : Nat) : Int) < ((list.length : Nat) : Int)))) (by kernel_rfl) (fun hb26 => ?_) (fun hb26 => ?_)
    ·
     have hl27 := ilt hb26
     have h := hlt24 hl27
     refine WC.skip ?_
     change WC _ _ _ _ _ _
     refine WC.seq ?_
     refine WC.block ?_
     refine WC.seq ?_
     refine WC.dr (by kernel_rfl) (by kernel_rfl) (fun w hw => hw.drawn _) ?_
     refine wa rfl rfl rfl (q_move (v := .slice Alist list.length clist) rfl (by kernel_rfl)) ?_
     refine wa rfl rfl rfl (q_move (v := .int .i64 ((i7 : Nat) : Int)) rfl (by kernel_rfl)) ?_
     refine wa rfl rfl rfl (q_ixn (i := i7) Tryz.underlying22 Tryz.sizeOf45 rfl rfl rfl hl12 (hlist.some_ hl12)) ?_
     refine wa rfl rfl rfl (q_field_addr (i7 * 2) fld_45_0 rfl rfl (hlist.some_ hl12) rfl) ?_
     obtain ⟨A28, c29, hx30⟩ := hlist.recT_at i7
     refine wa rfl rfl rfl (q_ld (c := 0) (v := .string (gt list i7).key) (hx30 hl12).2 rfl Tryz.isAgg9 rfl rfl) ?_
     refine wa rfl rfl rfl (q_move (v := .slice Alist list.length clist) rfl (by kernel_rfl)) ?_
     refine wa rfl rfl rfl (q_move (v := .int .i64 ((i22 : Nat) : Int)) rfl (by kernel_rfl)) ?_
     refine wa rfl rfl rfl (q_ixn (i := i22) Tryz.underlying22 Tryz.sizeOf45 rfl rfl rfl hl27 (hlist.some_ hl27)) ?_
     refine wa rfl rfl rfl (q_field_addr (i22 * 2) fld_45_0 rfl rfl (hlist.some_ hl27) rfl) ?_
     obtain ⟨A31, c32, hx33⟩ := hlist.recT_at i22
     refine wa rfl rfl rfl (q_ld (c := 0) (v := .string (gt list i22).key) (hx33 hl27).2 rfl Tryz.isAgg9 rfl rfl) ?_
     refine wa rfl rfl rfl (q_seql rfl rfl rfl) ?_
     refine wa rfl rfl rfl (q_move (v := .bool ((gt list i7).key == (gt list i22).key)) rfl (by kernel_rfl)) ?_
     refine wg1 rfl rfl rfl rfl rfl (fun hg34 => QV.qo (q_move (v := .slice Alist list.length clist) rfl (by kernel_rfl))) ?_
     refine wg1 rfl rfl rfl rfl rfl (fun hg35 => QV.qo (q_move (v := .int .i64 ((i7 : Nat) : Int)) rfl (by kernel_rfl))) ?_
     refine wg1 rfl rfl rfl rfl rfl (fun hg36 => QV.qo (q_ixn (i := i7) Tryz.underlying22 Tryz.sizeOf45 rfl (gu hg36 rfl) (gu hg36 rfl) hl12 (hlist.some_ hl12))) ?_
     refine wg1 rfl rfl rfl rfl rfl (fun hg37 => QV.qo (q_field_addr (i7 * 2 + 1) fld_45_1 rfl (gu hg37 rfl) (hlist.some_ hl12) rfl)) ?_
     refine wg1 rfl rfl rfl rfl rfl (fun hg38 => QV.qo (q_ld (c := 1) (v := .slice A28 ((gt list i7).vers).length c29) (hx30 hl12).2 rfl Tryz.isAgg43 (gu hg38 rfl) rfl)) ?_
     refine wg1 rfl rfl rfl rfl rfl (fun hg39 => QV.qo (q_move (v := .slice Alist list.length clist) rfl (by kernel_rfl))) ?_
     refine wg1 rfl rfl rfl rfl rfl (fun hg40 => QV.qo (q_move (v := .int .i64 ((i22 : Nat) : Int)) rfl (by kernel_rfl))) ?_
     refine wg1 rfl rfl rfl rfl rfl (fun hg41 => QV.qo (q_ixn (i := i22) Tryz.underlying22 Tryz.sizeOf45 rfl (gu hg41 rfl) (gu hg41 rfl) hl27 (hlist.some_ hl27))) ?_
     refine wg1 rfl rfl rfl rfl rfl (fun hg42 => QV.qo (q_field_addr (i22 * 2 + 1) fld_45_1 rfl (gu hg42 rfl) (hlist.some_ hl27) rfl)) ?_
     refine wg1 rfl rfl rfl rfl rfl (fun hg43 => QV.qo (q_ld (c := 1) (v := .slice A31 ((gt list i22).vers).length c32) (hx33 hl27).2 rfl Tryz.isAgg43 (gu hg43 rfl) rfl)) ?_
     obtain ⟨z45, hz46, h⟩ := bnd h
     refine wg1 rfl rfl rfl rfl rfl (fun hg44 => (q_call (call_run Tryz.call29 rfl rfl (args2 (gu hg44 rfl) (gu hg44 rfl))) (fun w hw => t_firthlaw15_written (Γ := Gh.all w) ((hx30 hl12).1.2.2.mono hw.sat.le_all) (hx30 hl12).1.2.1 ((hx33 hl27).1.2.2.mono hw.sat.le_all) (hx33 hl27).1.2.1 (Sat.all w) (gc_of hz46 hg44)))) ?_
     refine wg1 rfl rfl rfl rfl rfl (fun hg47 => QV.qo (q_not rfl (gu hg47 rfl))) ?_
     refine wa rfl rfl rfl (q_pick rfl rfl (pk_and' (g := ((gt list i7).key == (gt list i22).key)) (y := (!z45)))) ?_
     refine WQ.nil ?_
     change WC _ _ _ _ _ _
     refine WC.cif h (by kernel_rfl) (fun hb48 h => ?_) (fun hb48 h => ?_)
     ·
      refine WC.rs ?_
      refine as_ (v := .bool false) ?_
      refine WR.done ?_
      refine WC.ret ?_
      intro w hw
      obtain rfl := Option.some.inj h
      subst hF
      exact ⟨by kernel_rfl, hw.fr⟩
     ·
      refine WC.skip ?_
      change WC _ _ _ _ _ _
      refine WC.region ?_
      refine mv (v := .int .i64 ((i22 : Nat) : Int)) ?_
      refine vb (q_add_r (r := ((i22 + 1 : Nat) : Int)) rfl rfl rfl (ctr_len hl27 hlist.le)) ?_
      refine as_ (v := .int .i64 ((i22 + 1 : Nat) : Int)) ?_
      refine WR.nil ?_
      intro w hw
      exact ⟨hl27, (), h, (sl_ (by kernel_rfl)), hw, trivial⟩
    ·
     have h := hge25 (ige hb26)
     refine WC.exit ?_
     change WC _ _ _ _ _ _
     refine WC.region ?_
     refine mv (v := .int .i64 ((i7 : Nat) : Int)) ?_
     refine vb (q_add_r (r := ((i7 + 1 : Nat) : Int)) rfl rfl rfl (ctr_len hl12 hlist.le)) ?_
     refine as_ (v := .int .i64 ((i7 + 1 : Nat) : Int)) ?_
     refine WR.nil ?_
     intro w hw
     exact ⟨hl12, (w64 (n_4 + ((((gt list i7).vers).length : Nat) : Int))), h, (sl_ (by kernel_rfl)), hw, (w64_r _), trivial⟩
  ·
   have h := hge10 (ige hb11)
   refine WC.exit ?_
   change WC _ _ _ _ _ _
   refine WC.rs ?_
   refine as_ (v := .bool true) ?_
   refine WR.done ?_
   refine WC.ret ?_
   intro w hw
   obtain rfl := Option.some.inj h
   subst hF
   exact ⟨by kernel_rfl, hw.fr⟩
theorem t_firthref01_Hash {Γ : Gh} {w0 : World} {Ab : Option Addr} {cb : Nat} {b : List UInt8} (hb : Sl byteT Γ Ab b) (hbc : b.length ≤ cb) (hs : Sat Γ w0) {r : Int} (h : m_firthref01_Hash b = some r) : Calls Tryz.prog 44 #[.slice Ab b.length cb] w0 (fun e w' => e = .returned (.int .u64 r) ∧ Fr no w0 w') := by
 refine calls_of (N := 30) (rs := [2]) (args := [.slice Ab b.length cb]) Tryz.func44 rfl Tryz.ntmps44 Tryz.results44 rfl ?_
 obtain ⟨F, hF⟩ : ∃ F : Fm, F = ⟨no, w0, Γ⟩ := ⟨_, rfl⟩
 refine WC.here (C := CC F Γ []) ?_ (hF ▸ Cur.start0 hs)
 refine WC.rs ?_
 refine as_ (v := .int .u64 0) ?_
 refine WR.done ?_
 refine WC.rs ?_
 refine as_ (v := .int .u64 14695981039346656037) ?_
 refine WR.done ?_
 refine WC.seq ?_
 refine WC.rs ?_
 refine as_ (v := .int .i64 0) ?_
 refine WR.done ?_
 refine WC.block ?_
 refine WC.forI h (fun (i4 : Nat) (h_1 : Int) σ w => slots σ [(0, .slice Ab b.length cb), (3, .int .u64 h_1), (4, .int .i64 ((i4 : Nat) : Int))] ∧ CC F Γ [] w ∧ U64 h_1 ∧ True) ?_ ?_
 ·
  intro w hw
  exact ⟨(sl_ (by kernel_rfl)), hw, (show U64 14695981039346656037 by decide), trivial⟩
 rintro f3 i4 h_1 σ w hi5 hlt6 hge7 ⟨hsl, hw, hr2, -⟩
 refine Wpt.slots hsl ?_
 refine WC.here (C := CC F Γ []) ?_ hw
 clear hw hsl
 refine WC.seq ?_
 refine WC.rs ?_
 refine mv (v := .int .i64 ((i4 : Nat) : Int)) ?_
 refine mv (v := .slice Ab b.length cb) ?_
 refine vb (q_len_slice rfl Tryz.underlying77 rfl) ?_
 refine vb (q_lss rfl rfl rfl) ?_
 refine WR.done ?_
 refine WC.cond (b := (decide (((i4 : Nat) : Int) < ((b.length : Nat) : Int)))) (by kernel_rfl) (fun hb8 => ?_) (fun hb8 => ?_)
 ·
  have hl9 := ilt hb8
  have h := hlt6 hl9
  refine WC.skip ?_
  change WC _ _ _ _ _ _
  refine WC.seq ?_
  refine WC.block ?_
  refine WC.rs ?_
  refine mv (v := .int .u64 h_1) ?_
  refine mv (v := .slice Ab b.length cb) ?_
  refine mv (v := .int .i64 ((i4 : Nat) : Int)) ?_
  refine vb (q_ixn (i := i4) Tryz.underlying77 Tryz.sizeOf5 rfl rfl rfl hl9 (hb.some_ hl9)) ?_
  refine vb (q_ld (c := 0) (v := .int .u8 (((gt b i4).toNat : Nat) : Int)) (hb.byteT_at hl9).2 rfl Tryz.isAgg5 rfl rfl) ?_
  refine vb (q_conv Tryz.underlying82 Tryz.underlying5 rfl rfl) ?_
  refine vb (q_xor rfl rfl rfl) ?_
  refine as_ (v := .int .u64 (ixor .u64 h_1 (wu64 (((gt b i4).toNat : Nat) : Int)))) ?_
  refine WR.done ?_
  refine WC.region ?_
  refine mv (v := .int .u64 (ixor .u64 h_1 (wu64 (((gt b i4).toNat : Nat) : Int)))) ?_
  refine vb (q_mul rfl rfl rfl) ?_
  refine as_ (v := .int .u64 (wu64 ((ixor .u64 h_1 (wu64 (((gt b i4).toNat : Nat) : Int))) * 1099511628211))) ?_
  refine WR.nil ?_
  change WC _ _ _ _ _ _
  refine WC.region ?_
  refine mv (v := .int .i64 ((i4 : Nat) : Int)) ?_
  refine vb (q_add_r (r := ((i4 + 1 : Nat) : Int)) rfl rfl rfl (ctr_len hl9 hb.le)) ?_
  refine as_ (v := .int .i64 ((i4 + 1 : Nat) : Int)) ?_
  refine WR.nil ?_
  intro w hw
  exact ⟨hl9, (wu64 ((ixor .u64 h_1 (wu64 (((gt b i4).toNat : Nat) : Int))) * 1099511628211)), h, (sl_ (by kernel_rfl)), hw, (wu64_r _), trivial⟩
 ·
  have h := hge7 (ige hb8)
  refine WC.exit ?_
  change WC _ _ _ _ _ _
  refine WC.rs ?_
  refine mv (v := .int .u64 h_1) ?_
  refine mv (v := .int .u64 h_1) ?_
  refine vb (q_quo rfl rfl rfl (by decide)) ?_
  refine vb (q_xor rfl rfl rfl) ?_
  refine as_ (v := .int .u64 (ixor .u64 h_1 (wu64 (h_1.tdiv 8589934592)))) ?_
  refine WR.done ?_
  refine WC.rs ?_
  refine mv (v := .int .u64 (ixor .u64 h_1 (wu64 (h_1.tdiv 8589934592)))) ?_
  refine vb (q_mul rfl rfl rfl) ?_
  refine as_ (v := .int .u64 (wu64 ((ixor .u64 h_1 (wu64 (h_1.tdiv 8589934592))) * 18397679294719823053))) ?_
  refine WR.done ?_
  refine WC.rs ?_
  refine mv (v := .int .u64 (wu64 ((ixor .u64 h_1 (wu64 (h_1.tdiv 8589934592))) * 18397679294719823053))) ?_
  refine mv (v := .int .u64 (wu64 ((ixor .u64 h_1 (wu64 (h_1.tdiv 8589934592))) * 18397679294719823053))) ?_
  refine vb (q_quo rfl rfl rfl (by decide)) ?_
  refine vb (q_xor rfl rfl rfl) ?_
  refine as_ (v := .int .u64 (ixor .u64 (wu64 ((ixor .u64 h_1 (wu64 (h_1.tdiv 8589934592))) * 18397679294719823053)) (wu64 ((wu64 ((ixor .u64 h_1 (wu64 (h_1.tdiv 8589934592))) * 18397679294719823053)).tdiv 8589934592)))) ?_
  refine WR.done ?_
  refine WC.ret ?_
  intro w hw
  obtain rfl := Option.some.inj h
  subst hF
  exact ⟨by kernel_rfl, hw.fr⟩
theorem t_firthref12_Part {Γ : Gh} {w0 : World} (key : ByteArray) (hkey : key.size ≤ lim) (hs : Sat Γ w0) {r : Int} (h : m_firthref12_Part key = some r) : Calls Tryz.prog 16 #[.string key] w0 (fun e w' => e = .returned (.int .i64 r) ∧ Fr no w0 w') := by
 refine calls_of (N := 8) (rs := [2]) (args := [.string key]) Tryz.func16 rfl Tryz.ntmps16 Tryz.results16 rfl ?_
 obtain ⟨F, hF⟩ : ∃ F : Fm, F = ⟨no, w0, Γ⟩ := ⟨_, rfl⟩
 refine WC.here (C := CC F Γ []) ?_ (hF ▸ Cur.start0 hs)
 refine WC.rs ?_
 refine as_ (v := .int .i64 0) ?_
 refine WR.done ?_
 refine WC.rs ?_
 refine mv (v := .string key) ?_
 refine e_convB (src := 9) (dst := 77) (s := key) Tryz.underlying9 Tryz.underlying77 Tryz.underlying5 hkey rfl rfl rfl rfl rfl ?_
 intro Γ1 A2 c3 hl4 hs5 hc6
 obtain ⟨z7, hz8, h⟩ := bnd h
 refine vc rfl rfl rfl (q_call (call_run Tryz.call44 rfl rfl (by kernel_rfl)) (fun w hw => t_firthref01_Hash (Γ := Gh.all w) (hs5.mono hw.sat.le_all) hc6 (Sat.all w) hz8)) ?_
 refine vb (q_rem rfl rfl rfl (by decide)) ?_
 refine vb (q_conv Tryz.underlying3 Tryz.underlying82 rfl rfl) ?_
 refine as_ (v := .int .i64 (w64 (z7.tmod 8))) ?_
 refine WR.done ?_
 refine WC.ret ?_
 intro w hw
 obtain rfl := Option.some.inj h
 subst hF
 exact ⟨by kernel_rfl, hw.fr⟩
abbrev r_firthref14_Get (r : List Ver) (U : List Rowb) (Γ : Gh) (v : Value) : Prop := ∃ (A0 : Option Addr), ∃ (c0 : Nat), v = .slice A0 r.length c0 ∧ U = [] ∧ r.length ≤ c0 ∧ Sl verT Γ A0 r ∧ True
theorem t_firthref14_Get {Γ : Gh} {w0 : World} {Al : Option Addr} {cl : Nat} {l : List Rec} (hl : Sl recT Γ Al l) (hlc : l.length ≤ cl) (key : ByteArray) (hkey : key.size ≤ lim) (hp : Pre [] Γ w0) {r : List Ver} (h : m_firthref14_Get l key = some r) : Calls Tryz.prog 18 #[.slice Al l.length cl, .string key] w0 (Outc Γ [] w0 (r_firthref14_Get r)) := by
 refine calls_of (N := 24) (rs := [4]) (args := [.slice Al l.length cl, .string key]) Tryz.func18 rfl Tryz.ntmps18 Tryz.results18 rfl ?_
 obtain ⟨F, hF⟩ : ∃ F : Fm, F = ⟨ids [], w0, Γ⟩ := ⟨_, rfl⟩
 refine WC.here (C := CC F Γ []) ?_ (hF ▸ hp.start)
 refine WC.rs ?_
 refine as_ (v := .slice none 0 0) ?_
 refine WR.done ?_
 refine WC.seq ?_
 refine WC.rs ?_
 refine as_ (v := .int .i64 0) ?_
 refine WR.done ?_
 refine WC.block ?_
 refine WC.forI h (fun (i2 : Nat) (s : Unit) σ w => match s with | () => slots σ [(0, .slice Al l.length cl), (1, .string key), (5, .int .i64 ((i2 : Nat) : Int))] ∧ CC F Γ [] w ∧ True) ?_ ?_
 ·
  intro w hw
  exact ⟨(sl_ (by kernel_rfl)), hw, trivial⟩
 rintro f1 i2 ⟨⟩ σ w hi3 hlt4 hge5 ⟨hsl, hw, -⟩
 refine Wpt.slots hsl ?_
 refine WC.here (C := CC F Γ []) ?_ hw
 clear hw hsl
 refine WC.seq ?_
 refine WC.rs ?_
 refine mv (v := .int .i64 ((i2 : Nat) : Int)) ?_
 refine mv (v := .slice Al l.length cl) ?_
 refine vb (q_len_slice rfl Tryz.underlying22 rfl) ?_
 refine vb (q_lss rfl rfl rfl) ?_
 refine WR.done ?_
 refine WC.cond (b := (decide (((i2 : Nat) : Int) < ((l.length : Nat) : Int)))) (by kernel_rfl) (fun hb6 => ?_) (fun hb6 => ?_)
 ·
  have hl7 := ilt hb6
  have h := hlt4 hl7
  refine WC.skip ?_
  change WC _ _ _ _ _ _
  refine WC.seq ?_
  refine WC.block ?_
  refine WC.rs ?_
  refine mv (v := .slice Al l.length cl) ?_
  refine mv (v := .int .i64 ((i2 : Nat) : Int)) ?_
  refine vb (q_ixn (i := i2) Tryz.underlying22 Tryz.sizeOf45 rfl rfl rfl hl7 (hl.some_ hl7)) ?_
  refine vb (q_field_addr (i2 * 2) fld_45_0 rfl rfl (hl.some_ hl7) rfl) ?_
  obtain ⟨A8, c9, hx10⟩ := hl.recT_at i2
  refine vb (q_ld (c := 0) (v := .string (gt l i2).key) (hx10 hl7).2 rfl Tryz.isAgg9 rfl rfl) ?_
  refine mv (v := .string key) ?_
  refine vb (q_seql rfl rfl rfl) ?_
  refine WR.done ?_
  refine WC.cif h (by kernel_rfl) (fun hb11 h => ?_) (fun hb11 h => ?_)
  ·
   refine WC.rs ?_
   refine mv (v := .slice Al l.length cl) ?_
   refine mv (v := .int .i64 ((i2 : Nat) : Int)) ?_
   refine vb (q_ixn (i := i2) Tryz.underlying22 Tryz.sizeOf45 rfl rfl rfl hl7 (hl.some_ hl7)) ?_
   refine vb (q_field_addr (i2 * 2 + 1) fld_45_1 rfl rfl (hl.some_ hl7) rfl) ?_
   refine vb (q_ld (c := 1) (v := .slice A8 ((gt l i2).vers).length c9) (hx10 hl7).2 rfl Tryz.isAgg43 rfl rfl) ?_
   refine as_ (v := .slice A8 ((gt l i2).vers).length c9) ?_
   refine WR.done ?_
   refine WC.ret ?_
   intro w hw
   obtain rfl := Option.some.inj h
   subst hF
   exact end_e (is := []) (by kernel_rfl) hw rfl ⟨A8, c9, rfl, rfl, (hx10 hl7).1.2.1, (hx10 hl7).1.2.2, trivial⟩
  ·
   refine WC.skip ?_
   change WC _ _ _ _ _ _
   refine WC.region ?_
   refine mv (v := .int .i64 ((i2 : Nat) : Int)) ?_
   refine vb (q_add_r (r := ((i2 + 1 : Nat) : Int)) rfl rfl rfl (ctr_len hl7 hl.le)) ?_
   refine as_ (v := .int .i64 ((i2 + 1 : Nat) : Int)) ?_
   refine WR.nil ?_
   intro w hw
   exact ⟨hl7, (), h, (sl_ (by kernel_rfl)), hw, trivial⟩
 ·
  have h := hge5 (ige hb6)
  refine WC.exit ?_
  change WC _ _ _ _ _ _
  refine WC.rs ?_
  refine as_ (v := .slice none 0 0) ?_
  refine WR.done ?_
  refine WC.ret ?_
  intro w hw
  obtain rfl := Option.some.inj h
  subst hF
  exact end_e (is := []) (by kernel_rfl) hw rfl ⟨none, 0, rfl, rfl, (Nat.zero_le 0), (Sl.nil verT _ none), trivial⟩
theorem t_firthref05_Same {Γ : Gh} {w0 : World} {Aa : Option Addr} {ca : Nat} {a : List Ver} (ha : Sl verT Γ Aa a) (hac : a.length ≤ ca) {Ab : Option Addr} {cb : Nat} {b : List Ver} (hb : Sl verT Γ Ab b) (hbc : b.length ≤ cb) (hs : Sat Γ w0) {r : Bool} (h : m_firthref05_Same a b = some r) : Calls Tryz.prog 17 #[.slice Aa a.length ca, .slice Ab b.length cb] w0 (fun e w' => e = .returned (.bool r) ∧ Fr no w0 w') := by
 refine calls_of (N := 27) (rs := [4]) (args := [.slice Aa a.length ca, .slice Ab b.length cb]) Tryz.func17 rfl Tryz.ntmps17 Tryz.results17 rfl ?_
 obtain ⟨F, hF⟩ : ∃ F : Fm, F = ⟨no, w0, Γ⟩ := ⟨_, rfl⟩
 refine WC.here (C := CC F Γ []) ?_ (hF ▸ Cur.start0 hs)
 refine WC.rs ?_
 refine as_ (v := .bool false) ?_
 refine WR.done ?_
 refine WC.seq ?_
 refine WC.rs ?_
 refine mv (v := .slice Aa a.length ca) ?_
 refine vb (q_len_slice rfl Tryz.underlying43 rfl) ?_
 refine mv (v := .slice Ab b.length cb) ?_
 refine vb (q_len_slice rfl Tryz.underlying43 rfl) ?_
 refine vb (q_neq rfl rfl rfl) ?_
 refine WR.done ?_
 refine WC.cif h (by kernel_rfl) (fun hb1 h => ?_) (fun hb1 h => ?_)
 ·
  refine WC.rs ?_
  refine as_ (v := .bool false) ?_
  refine WR.done ?_
  refine WC.ret ?_
  intro w hw
  obtain rfl := Option.some.inj h
  subst hF
  exact ⟨by kernel_rfl, hw.fr⟩
 ·
  refine WC.skip ?_
  change WC _ _ _ _ _ _
  refine WC.seq ?_
  refine WC.rs ?_
  refine as_ (v := .int .i64 0) ?_
  refine WR.done ?_
  refine WC.block ?_
  refine WC.forI h (fun (i3 : Nat) (s : Unit) σ w => match s with | () => slots σ [(0, .slice Aa a.length ca), (1, .slice Ab b.length cb), (5, .int .i64 ((i3 : Nat) : Int))] ∧ CC F Γ [] w ∧ True) ?_ ?_
  ·
   intro w hw
   exact ⟨(sl_ (by kernel_rfl)), hw, trivial⟩
  rintro f2 i3 ⟨⟩ σ w hi4 hlt5 hge6 ⟨hsl, hw, -⟩
  refine Wpt.slots hsl ?_
  refine WC.here (C := CC F Γ []) ?_ hw
  clear hw hsl
  refine WC.seq ?_
  refine WC.rs ?_
  refine mv (v := .int .i64 ((i3 : Nat) : Int)) ?_
  refine mv (v := .slice Aa a.length ca) ?_
  refine vb (q_len_slice rfl Tryz.underlying43 rfl) ?_
  refine vb (q_lss rfl rfl rfl) ?_
  refine WR.done ?_
  refine WC.cond (b := (decide (((i3 : Nat) : Int) < ((a.length : Nat) : Int)))) (by kernel_rfl) (fun hb7 => ?_) (fun hb7 => ?_)
  ·
   have hl8 := ilt hb7
   have h := hlt5 hl8
   refine WC.skip ?_
   change WC _ _ _ _ _ _
   refine WC.seq ?_
   refine WC.block ?_
   refine WC.seq ?_
   refine WC.dr (by kernel_rfl) (by kernel_rfl) (fun w hw => hw.drawn _) ?_
   refine wa rfl rfl rfl (q_move (v := .slice Aa a.length ca) rfl (by kernel_rfl)) ?_
   refine wa rfl rfl rfl (q_move (v := .int .i64 ((i3 : Nat) : Int)) rfl (by kernel_rfl)) ?_
   refine wa rfl rfl rfl (q_ixn (i := i3) Tryz.underlying43 Tryz.sizeOf89 rfl rfl rfl hl8 (ha.some_ hl8)) ?_
   obtain ⟨A9, c10, hx11⟩ := ha.verT_at i3
   refine wa rfl rfl rfl (q_lda (c := 0) (vs := [.int .i64 (gt a i3).dot.s, .int .i64 (gt a i3).dot.n, .slice A9 ((gt a i3).past).length c10, .bool (gt a i3).gone, .string (gt a i3).val]) (hx11 hl8).2 rfl Tryz.isAgg89 Tryz.sizeOf89 rfl rfl rfl) ?_
   refine wa rfl rfl rfl (q_move (v := .slice Ab b.length cb) rfl (by kernel_rfl)) ?_
   refine wa rfl rfl rfl (q_move (v := .int .i64 ((i3 : Nat) : Int)) rfl (by kernel_rfl)) ?_
   obtain ⟨hk12, h⟩ := chk_some h
   refine wa rfl rfl rfl (q_ixn (i := i3) Tryz.underlying43 Tryz.sizeOf89 rfl rfl rfl (of_decide_eq_true hk12) (hb.some_ (of_decide_eq_true hk12))) ?_
   obtain ⟨A13, c14, hx15⟩ := hb.verT_at i3
   refine wa rfl rfl rfl (q_lda (c := 0) (vs := [.int .i64 (gt b i3).dot.s, .int .i64 (gt b i3).dot.n, .slice A13 ((gt b i3).past).length c14, .bool (gt b i3).gone, .string (gt b i3).val]) (hx15 (of_decide_eq_true hk12)).2 rfl Tryz.isAgg89 Tryz.sizeOf89 rfl rfl rfl) ?_
   obtain ⟨z16, hz17, h⟩ := bnd h
   refine wc rfl rfl rfl (q_call (call_run Tryz.call45 rfl rfl (by kernel_rfl)) (fun w hw => t_firthref05_SameOne (Γ := Gh.all w) (gt a i3) (Ver.fits_mono (hx11 hl8).1 hw.sat.le_all) (gt b i3) (Ver.fits_mono (hx15 (of_decide_eq_true hk12)).1 hw.sat.le_all) (Sat.all w) hz17)) ?_
   refine wa rfl rfl rfl (q_not rfl rfl) ?_
   refine WQ.nil ?_
   change WC _ _ _ _ _ _
   refine WC.cif h (by kernel_rfl) (fun hb18 h => ?_) (fun hb18 h => ?_)
   ·
    refine WC.rs ?_
    refine as_ (v := .bool false) ?_
    refine WR.done ?_
    refine WC.ret ?_
    intro w hw
    obtain rfl := Option.some.inj h
    subst hF
    exact ⟨by kernel_rfl, hw.fr⟩
   ·
    refine WC.skip ?_
    change WC _ _ _ _ _ _
    refine WC.region ?_
    refine mv (v := .int .i64 ((i3 : Nat) : Int)) ?_
    refine vb (q_add_r (r := ((i3 + 1 : Nat) : Int)) rfl rfl rfl (ctr_len hl8 ha.le)) ?_
    refine as_ (v := .int .i64 ((i3 + 1 : Nat) : Int)) ?_
    refine WR.nil ?_
    intro w hw
    exact ⟨hl8, (), h, (sl_ (by kernel_rfl)), hw, trivial⟩
  ·
   have h := hge6 (ige hb7)
   refine WC.exit ?_
   change WC _ _ _ _ _ _
   refine WC.rs ?_
   refine as_ (v := .bool true) ?_
   refine WR.done ?_
   refine WC.ret ?_
   intro w hw
   obtain rfl := Option.some.inj h
   subst hF
   exact ⟨by kernel_rfl, hw.fr⟩
theorem t_firthref06_SameRecs {Γ : Gh} {w0 : World} {Aa : Option Addr} {ca : Nat} {a : List Rec} (ha : Sl recT Γ Aa a) (hac : a.length ≤ ca) {Ab : Option Addr} {cb : Nat} {b : List Rec} (hb : Sl recT Γ Ab b) (hbc : b.length ≤ cb) (hs : Sat Γ w0) {r : Bool} (h : m_firthref06_SameRecs a b = some r) : Calls Tryz.prog 19 #[.slice Aa a.length ca, .slice Ab b.length cb] w0 (fun e w' => e = .returned (.bool r) ∧ Fr no w0 w') := by
 refine calls_of (N := 42) (rs := [4]) (args := [.slice Aa a.length ca, .slice Ab b.length cb]) Tryz.func19 rfl Tryz.ntmps19 Tryz.results19 rfl ?_
 obtain ⟨F, hF⟩ : ∃ F : Fm, F = ⟨no, w0, Γ⟩ := ⟨_, rfl⟩
 refine WC.here (C := CC F Γ []) ?_ (hF ▸ Cur.start0 hs)
 refine WC.rs ?_
 refine as_ (v := .bool false) ?_
 refine WR.done ?_
 refine WC.seq ?_
 refine WC.rs ?_
 refine mv (v := .slice Aa a.length ca) ?_
 refine vb (q_len_slice rfl Tryz.underlying22 rfl) ?_
 refine mv (v := .slice Ab b.length cb) ?_
 refine vb (q_len_slice rfl Tryz.underlying22 rfl) ?_
 refine vb (q_neq rfl rfl rfl) ?_
 refine WR.done ?_
 refine WC.cif h (by kernel_rfl) (fun hb1 h => ?_) (fun hb1 h => ?_)
 ·
  refine WC.rs ?_
  refine as_ (v := .bool false) ?_
  refine WR.done ?_
  refine WC.ret ?_
  intro w hw
  obtain rfl := Option.some.inj h
  subst hF
  exact ⟨by kernel_rfl, hw.fr⟩
 ·
  refine WC.skip ?_
  change WC _ _ _ _ _ _
  refine WC.seq ?_
  refine WC.rs ?_
  refine as_ (v := .int .i64 0) ?_
  refine WR.done ?_
  refine WC.block ?_
  refine WC.forI h (fun (i3 : Nat) (s : Unit) σ w => match s with | () => slots σ [(0, .slice Aa a.length ca), (1, .slice Ab b.length cb), (5, .int .i64 ((i3 : Nat) : Int))] ∧ CC F Γ [] w ∧ True) ?_ ?_
  ·
   intro w hw
   exact ⟨(sl_ (by kernel_rfl)), hw, trivial⟩
  rintro f2 i3 ⟨⟩ σ w hi4 hlt5 hge6 ⟨hsl, hw, -⟩
  refine Wpt.slots hsl ?_
  refine WC.here (C := CC F Γ []) ?_ hw
  clear hw hsl
  refine WC.seq ?_
  refine WC.rs ?_
  refine mv (v := .int .i64 ((i3 : Nat) : Int)) ?_
  refine mv (v := .slice Aa a.length ca) ?_
  refine vb (q_len_slice rfl Tryz.underlying22 rfl) ?_
  refine vb (q_lss rfl rfl rfl) ?_
  refine WR.done ?_
  refine WC.cond (b := (decide (((i3 : Nat) : Int) < ((a.length : Nat) : Int)))) (by kernel_rfl) (fun hb7 => ?_) (fun hb7 => ?_)
  ·
   have hl8 := ilt hb7
   have h := hlt5 hl8
   refine WC.skip ?_
   change WC _ _ _ _ _ _
   refine WC.seq ?_
   refine WC.block ?_
   refine WC.seq ?_
   refine WC.dr (by kernel_rfl) (by kernel_rfl) (fun w hw => hw.drawn _) ?_
   refine wa rfl rfl rfl (q_move (v := .slice Aa a.length ca) rfl (by kernel_rfl)) ?_
   refine wa rfl rfl rfl (q_move (v := .int .i64 ((i3 : Nat) : Int)) rfl (by kernel_rfl)) ?_
   refine wa rfl rfl rfl (q_ixn (i := i3) Tryz.underlying22 Tryz.sizeOf45 rfl rfl rfl hl8 (ha.some_ hl8)) ?_
   refine wa rfl rfl rfl (q_field_addr (i3 * 2) fld_45_0 rfl rfl (ha.some_ hl8) rfl) ?_
   obtain ⟨A9, c10, hx11⟩ := ha.recT_at i3
   refine wa rfl rfl rfl (q_ld (c := 0) (v := .string (gt a i3).key) (hx11 hl8).2 rfl Tryz.isAgg9 rfl rfl) ?_
   refine wa rfl rfl rfl (q_move (v := .slice Ab b.length cb) rfl (by kernel_rfl)) ?_
   refine wa rfl rfl rfl (q_move (v := .int .i64 ((i3 : Nat) : Int)) rfl (by kernel_rfl)) ?_
   obtain ⟨hk12, h⟩ := chk_some h
   refine wa rfl rfl rfl (q_ixn (i := i3) Tryz.underlying22 Tryz.sizeOf45 rfl rfl rfl (of_decide_eq_true hk12) (hb.some_ (of_decide_eq_true hk12))) ?_
   refine wa rfl rfl rfl (q_field_addr (i3 * 2) fld_45_0 rfl rfl (hb.some_ (of_decide_eq_true hk12)) rfl) ?_
   obtain ⟨A13, c14, hx15⟩ := hb.recT_at i3
   refine wa rfl rfl rfl (q_ld (c := 0) (v := .string (gt b i3).key) (hx15 (of_decide_eq_true hk12)).2 rfl Tryz.isAgg9 rfl rfl) ?_
   refine wa rfl rfl rfl (q_sneq rfl rfl rfl) ?_
   refine wa rfl rfl rfl (q_move (v := .bool ((gt a i3).key != (gt b i3).key)) rfl (by kernel_rfl)) ?_
   refine wg0 rfl rfl rfl rfl rfl (fun hg16 => QV.qo (q_move (v := .slice Aa a.length ca) rfl (by kernel_rfl))) ?_
   refine wg0 rfl rfl rfl rfl rfl (fun hg17 => QV.qo (q_move (v := .int .i64 ((i3 : Nat) : Int)) rfl (by kernel_rfl))) ?_
   refine wg0 rfl rfl rfl rfl rfl (fun hg18 => QV.qo (q_ixn (i := i3) Tryz.underlying22 Tryz.sizeOf45 rfl (gu hg18 rfl) (gu hg18 rfl) hl8 (ha.some_ hl8))) ?_
   refine wg0 rfl rfl rfl rfl rfl (fun hg19 => QV.qo (q_field_addr (i3 * 2 + 1) fld_45_1 rfl (gu hg19 rfl) (ha.some_ hl8) rfl)) ?_
   refine wg0 rfl rfl rfl rfl rfl (fun hg20 => QV.qo (q_ld (c := 1) (v := .slice A9 ((gt a i3).vers).length c10) (hx11 hl8).2 rfl Tryz.isAgg43 (gu hg20 rfl) rfl)) ?_
   refine wg0 rfl rfl rfl rfl rfl (fun hg21 => QV.qo (q_move (v := .slice Ab b.length cb) rfl (by kernel_rfl))) ?_
   refine wg0 rfl rfl rfl rfl rfl (fun hg22 => QV.qo (q_move (v := .int .i64 ((i3 : Nat) : Int)) rfl (by kernel_rfl))) ?_
   refine wg0 rfl rfl rfl rfl rfl (fun hg23 => QV.qo (q_ixn (i := i3) Tryz.underlying22 Tryz.sizeOf45 rfl (gu hg23 rfl) (gu hg23 rfl) (of_decide_eq_true hk12) (hb.some_ (of_decide_eq_true hk12)))) ?_
   refine wg0 rfl rfl rfl rfl rfl (fun hg24 => QV.qo (q_field_addr (i3 * 2 + 1) fld_45_1 rfl (gu hg24 rfl) (hb.some_ (of_decide_eq_true hk12)) rfl)) ?_
   refine wg0 rfl rfl rfl rfl rfl (fun hg25 => QV.qo (q_ld (c := 1) (v := .slice A13 ((gt b i3).vers).length c14) (hx15 (of_decide_eq_true hk12)).2 rfl Tryz.isAgg43 (gu hg25 rfl) rfl)) ?_
   obtain ⟨z27, hz28, h⟩ := bnd h
   refine wg0 rfl rfl rfl rfl rfl (fun hg26 => (q_call (call_run Tryz.call17 rfl rfl (args2 (gu hg26 rfl) (gu hg26 rfl))) (fun w hw => t_firthref05_Same (Γ := Gh.all w) ((hx11 hl8).1.2.2.mono hw.sat.le_all) (hx11 hl8).1.2.1 ((hx15 (of_decide_eq_true hk12)).1.2.2.mono hw.sat.le_all) (hx15 (of_decide_eq_true hk12)).1.2.1 (Sat.all w) (gc_of hz28 hg26)))) ?_
   refine wg0 rfl rfl rfl rfl rfl (fun hg29 => QV.qo (q_not rfl (gu hg29 rfl))) ?_
   refine wa rfl rfl rfl (q_pick rfl rfl (pk_or' (g := ((gt a i3).key != (gt b i3).key)) (y := (!z27)))) ?_
   refine WQ.nil ?_
   change WC _ _ _ _ _ _
   refine WC.cif h (by kernel_rfl) (fun hb30 h => ?_) (fun hb30 h => ?_)
   ·
    refine WC.rs ?_
    refine as_ (v := .bool false) ?_
    refine WR.done ?_
    refine WC.ret ?_
    intro w hw
    obtain rfl := Option.some.inj h
    subst hF
    exact ⟨by kernel_rfl, hw.fr⟩
   ·
    refine WC.skip ?_
    change WC _ _ _ _ _ _
    refine WC.region ?_
    refine mv (v := .int .i64 ((i3 : Nat) : Int)) ?_
    refine vb (q_add_r (r := ((i3 + 1 : Nat) : Int)) rfl rfl rfl (ctr_len hl8 ha.le)) ?_
    refine as_ (v := .int .i64 ((i3 + 1 : Nat) : Int)) ?_
    refine WR.nil ?_
    intro w hw
    exact ⟨hl8, (), h, (sl_ (by kernel_rfl)), hw, trivial⟩
  ·
   have h := hge6 (ige hb7)
   refine WC.exit ?_
   change WC _ _ _ _ _ _
   refine WC.rs ?_
   refine as_ (v := .bool true) ?_
   refine WR.done ?_
   refine WC.ret ?_
   intro w hw
   obtain rfl := Option.some.inj h
   subst hF
   exact ⟨by kernel_rfl, hw.fr⟩
theorem t_firthlaw15_NodeReads {Γ : Gh} {w0 : World} {Alist : Option Addr} {clist : Nat} {list : List Rec} (hlist : Sl recT Γ Alist list) (hlistc : list.length ≤ clist) (key : ByteArray) (hkey : key.size ≤ lim) (part : Int) (hpart : I64 part) (hs : Sat Γ w0) {r : Bool} (h : m_firthlaw15_NodeReads list key part = some r) : Calls Tryz.prog 3 #[.slice Alist list.length clist, .string key, .int .i64 part] w0 (fun e w' => e = .returned (.bool r) ∧ Fr no w0 w') := by
 refine calls_of (N := 268) (rs := [6]) (args := [.slice Alist list.length clist, .string key, .int .i64 part]) Tryz.func3 rfl Tryz.ntmps3 Tryz.results3 rfl ?_
 obtain ⟨F, hF⟩ : ∃ F : Fm, F = ⟨no, w0, Γ⟩ := ⟨_, rfl⟩
 refine WC.here (C := CC F Γ []) ?_ (hF ▸ Cur.start0 hs)
 refine WC.rs ?_
 refine as_ (v := .bool false) ?_
 refine WR.done ?_
 refine WC.rs ?_
 refine mv (v := .int .i64 part) ?_
 refine as_ (v := .int .i64 part) ?_
 refine WR.done ?_
 refine WC.seq ?_
 refine WC.rs ?_
 obtain ⟨z1, hz2, h⟩ := bnd h
 refine vc rfl rfl rfl (q_call (call_run Tryz.call7 rfl rfl (by kernel_rfl)) (fun w hw => t_firthlaw15_awake (Γ := Gh.all w)  (Sat.all w) hz2)) ?_
 refine vb (q_not rfl rfl) ?_
 refine mv (v := .bool (!z1)) ?_
 refine vg0 rfl rfl rfl rfl rfl (fun hg3 => QV.qo (q_move (v := .slice Alist list.length clist) rfl (by kernel_rfl))) ?_
 obtain ⟨z5, hz6, h⟩ := bnd h
 refine vg0 rfl rfl rfl rfl rfl (fun hg4 => (q_call (call_run Tryz.call8 rfl rfl (args1 (gu hg4 rfl))) (fun w hw => t_firthlaw15_plain (Γ := Gh.all w) (hlist.mono hw.sat.le_all) hlistc (Sat.all w) (gc_of hz6 hg4)))) ?_
 refine vg0 rfl rfl rfl rfl rfl (fun hg7 => QV.qo (q_not rfl (gu hg7 rfl))) ?_
 refine vb (q_pick rfl rfl (pk_or' (g := (!z1)) (y := (!z5)))) ?_
 refine mv (v := .bool ((!z1) || (!z5))) ?_
 refine vg0 rfl rfl rfl rfl rfl (fun hg8 => QV.qo (q_move (v := .string key) rfl (by kernel_rfl))) ?_
 refine vg0 rfl rfl rfl rfl rfl (fun hg9 => QV.qo (q_seql rfl (gu hg9 rfl) rfl)) ?_
 refine vb (q_pick rfl rfl (pk_or' (g := ((!z1) || (!z5))) (y := (key == ByteArray.empty)))) ?_
 refine mv (v := .bool (((!z1) || (!z5)) || (key == ByteArray.empty))) ?_
 refine vg0 rfl rfl rfl rfl rfl (fun hg10 => QV.qo (q_move (v := .string key) rfl (by kernel_rfl))) ?_
 refine vg0 rfl rfl rfl rfl rfl (fun hg11 => QV.qo (q_len_str rfl Tryz.underlying9 (gu hg11 rfl))) ?_
 refine vg0 rfl rfl rfl rfl rfl (fun hg12 => QV.qo (q_gtr rfl (gu hg12 rfl) rfl)) ?_
 refine vb (q_pick rfl rfl (pk_or' (g := (((!z1) || (!z5)) || (key == ByteArray.empty))) (y := (decide (32 < ((key.size : Nat) : Int)))))) ?_
 refine mv (v := .bool ((((!z1) || (!z5)) || (key == ByteArray.empty)) || (decide (32 < ((key.size : Nat) : Int))))) ?_
 refine vg0 rfl rfl rfl rfl rfl (fun hg13 => QV.qo (q_move (v := .int .i64 part) rfl (by kernel_rfl))) ?_
 refine vg0 rfl rfl rfl rfl rfl (fun hg14 => QV.qo (q_lss rfl (gu hg14 rfl) rfl)) ?_
 refine vb (q_pick rfl rfl (pk_or' (g := ((((!z1) || (!z5)) || (key == ByteArray.empty)) || (decide (32 < ((key.size : Nat) : Int))))) (y := (decide (part < 0))))) ?_
 refine mv (v := .bool (((((!z1) || (!z5)) || (key == ByteArray.empty)) || (decide (32 < ((key.size : Nat) : Int)))) || (decide (part < 0)))) ?_
 refine vg0 rfl rfl rfl rfl rfl (fun hg15 => QV.qo (q_move (v := .int .i64 part) rfl (by kernel_rfl))) ?_
 refine vg0 rfl rfl rfl rfl rfl (fun hg16 => QV.qo (q_lss rfl (gu hg16 rfl) rfl)) ?_
 refine vb (q_pick rfl rfl (pk_or' (g := (((((!z1) || (!z5)) || (key == ByteArray.empty)) || (decide (32 < ((key.size : Nat) : Int)))) || (decide (part < 0)))) (y := (decide (part < 0))))) ?_
 refine WR.done ?_
 refine WC.cif h (by kernel_rfl) (fun hb17 h => ?_) (fun hb17 h => ?_)
 ·
  refine WC.rs ?_
  obtain ⟨z18, hz19, h⟩ := bnd h
  refine vc rfl rfl rfl (q_call (call_run Tryz.call7 rfl rfl (by kernel_rfl)) (fun w hw => t_firthlaw15_awake (Γ := Gh.all w)  (Sat.all w) hz19)) ?_
  refine as_ (v := .bool z18) ?_
  refine WR.done ?_
  refine WC.ret ?_
  intro w hw
  obtain rfl := Option.some.inj h
  subst hF
  exact ⟨by kernel_rfl, hw.fr⟩
 ·
  refine WC.skip ?_
  change WC _ _ _ _ _ _
  refine WC.rs ?_
  obtain ⟨z20, hz21, h⟩ := bnd h
  refine e_call (is := []) rfl rfl (call_run Tryz.call9 rfl rfl (by kernel_rfl)) rfl (fun w hp => t_disk_New 16777216 (show I64 16777216 by decide) hp hz21) ?_
  rintro Γ22 U24 v25 hl23 ⟨g26, row27, rfl, rfl, hr28, _⟩
  change WR _ _ _ (CC F Γ22 [row27]) _ _ (upd _ 45 ((pq g26)))
  refine as_ (v := (pq g26)) ?_
  refine WR.done ?_
  refine WC.rs ?_
  refine mv (v := (pq g26)) ?_
  obtain ⟨z29, hz30, h⟩ := bnd h
  refine vc rfl rfl rfl (q_call (call_run Tryz.call11 rfl rfl (by kernel_rfl)) (fun w hw => t_firthlaw15_at (Γ := Gh.all w) 3 (show I64 3 by decide) (Sat.all w) hz30)) ?_
  obtain ⟨hk31, h⟩ := chk_some h
  obtain ⟨hk32, h⟩ := chk_some h
  obtain ⟨z33, hz34, h⟩ := bnd h
  refine e_call (is := [0]) rfl rfl (call_run Tryz.call10 rfl rfl (by kernel_rfl)) rfl (fun w hp => t_node_Open hr28 z29 ⟨(i64b_of hk31), (i64b_of hk32)⟩ 500 (show I64 500 by decide) 3 (show I64 3 by decide) hp hz34) ?_
  rintro Γ35 U37 v38 hl36 ⟨row39, g41, row42, rfl, rfl, hr40, hr43, hr44, _⟩
  change WR _ _ _ (CC F Γ35 [row39, row42]) _ _ (upd _ 49 (.tuple #[optp z33.2.1 g41, .int .i64 z33.2.2]))
  refine mv (v := .tuple #[optp z33.2.1 g41, .int .i64 z33.2.2]) ?_
  refine vb (q_extract (v := optp z33.2.1 g41) rfl rfl rfl) ?_
  refine vb (q_extract (v := .int .i64 z33.2.2) rfl rfl rfl) ?_
  refine as_ (v := optp z33.2.1 g41) ?_
  refine as_ (v := .int .i64 z33.2.2) ?_
  refine WR.done ?_
  refine WC.seq ?_
  refine WC.rs ?_
  refine mv (v := optp z33.2.1 g41) ?_
  refine vb (q_opt_eql Tryz.underlying27 rfl rfl rfl) ?_
  refine mv (v := .bool (Option.isNone z33.2.1)) ?_
  refine vg0 rfl rfl rfl rfl rfl (fun hg45 => QV.qo (q_move (v := .int .i64 z33.2.2) rfl (by kernel_rfl))) ?_
  refine vg0 rfl rfl rfl rfl rfl (fun hg46 => QV.qo (q_neq rfl (gu hg46 rfl) rfl)) ?_
  refine vb (q_pick rfl rfl (pk_or' (g := (Option.isNone z33.2.1)) (y := (z33.2.2 != 0)))) ?_
  refine mv (v := .bool ((Option.isNone z33.2.1) || (z33.2.2 != 0))) ?_
  refine vg0 rfl rfl rfl rfl rfl (fun hg47 => QV.qo (q_move (v := optp z33.2.1 g41) rfl (by kernel_rfl))) ?_
  refine (Bool.eq_false_or_eq_true (!((Option.isNone z33.2.1) || (z33.2.2 != 0)))).elim (fun hb48 => ?_) (fun hb48 => ?_)
  ·
   have h := bt hb48 h
   obtain ⟨z49, hz50, h⟩ := bnd h
   have ho51 := optob_some hr43 hz50
   refine WR.sat (c0 := true) (g := ((Option.isNone z33.2.1) || (z33.2.2 != 0))) rfl rfl rfl hb48 ?_
   obtain ⟨z52, hz53, h⟩ := bnd h
   refine e_call (is := [1, 0]) rfl rfl (call_run Tryz.call12 rfl rfl (args1 (optp_some (gu hb48 rfl) hz50))) rfl (fun w hp => t_node_Node_Intact ho51 hr40 hp hz53) ?_
   rintro Γ54 U56 v57 hl55 ⟨rfl, rfl, _⟩
   change WR _ _ _ (CC F Γ54 [row42, row39]) _ _ (upd _ 60 (.bool z52))
   refine vb (q_pick_f (v := .bool z52) rfl rfl (not_t hb48) (by kernel_rfl)) ?_
   refine mv (v := .bool z52) ?_
   refine vg0 rfl rfl rfl rfl rfl (fun hg58 => QV.qo (q_move (v := (pq g41)) rfl (optp_some rfl hz50))) ?_
   obtain ⟨z60, hz61, h⟩ := bnd h
   refine vg0 rfl rfl rfl rfl rfl (fun hg59 => (q_call (call_run Tryz.call11 rfl rfl (by kernel_rfl)) (fun w hw => t_firthlaw15_at (Γ := Gh.all w) 0 (show I64 0 by decide) (Sat.all w) (gc_of hz61 hg59)))) ?_
   obtain ⟨z63, hz64, h⟩ := bnd h
   refine vg0 rfl rfl rfl rfl rfl (fun hg62 => (q_call (call_run Tryz.call11 rfl rfl (by kernel_rfl)) (fun w hw => t_firthlaw15_at (Γ := Gh.all w) 3 (show I64 3 by decide) (Sat.all w) (gc_of hz64 hg62)))) ?_
   refine vg0 rfl rfl rfl rfl rfl (fun hg65 => QV.qo (q_move (v := .string key) rfl (by kernel_rfl))) ?_
   refine vg0 rfl rfl rfl rfl rfl (fun hg66 => QV.qo (q_build' (v := .agg #[.int .i64 4, .int .i64 z60.site, .int .i64 z60.node, .int .i64 z63.site, .int .i64 z63.node, .int .i64 0, .int .i64 0, .int .i64 0, .int .i64 0, .string key, .slice none 0 0, .slice none 0 0, .slice none 0 0, .slice none 0 0, .slice none 0 0]) rfl (bargs4 rfl (gu hg66 rfl) (gu hg66 rfl) (gu hg66 rfl)) (fun w => by kernel_rfl))) ?_
   refine (Bool.eq_false_or_eq_true (!z52)).elim (fun hb67 => ?_) (fun hb67 => ?_)
   ·
    have h := bt hb67 h
    refine WR.sat (c0 := true) (g := z52) rfl rfl rfl hb67 ?_
    obtain ⟨hk68, h⟩ := chk_some h
    obtain ⟨hk69, h⟩ := chk_some h
    obtain ⟨hk70, h⟩ := chk_some h
    obtain ⟨hk71, h⟩ := chk_some h
    obtain ⟨z72, hz73, h⟩ := bnd h
    refine e_call (is := [0, 0]) rfl rfl (call_run Tryz.call13 rfl rfl (args2 (gu hb67 rfl) (gu hb67 rfl))) rfl (fun w hp => t_node_Node_Handle (ho51.mono hl55) (Am10 := none) (cm10 := 0) (Am11 := none) (cm11 := 0) (Am12 := none) (cm12 := 0) (Am13 := none) (cm13 := 0) (Am14 := none) (cm14 := 0) (⟨4, (⟨z60.site, z60.node⟩ : Adr), (⟨z63.site, z63.node⟩ : Adr), 0, 0, 0, 0, key, [], [], [], [], []⟩ : Dapi_Msg) ⟨(show I64 4 by decide), (i64b_of hk68), (i64b_of hk69), (i64b_of hk70), (i64b_of hk71), (show I64 0 by decide), (show I64 0 by decide), (show I64 0 by decide), (show I64 0 by decide), hkey, ⟨Nat.zero_le _, Sl.nil _ _ _⟩, ⟨Nat.zero_le _, Sl.nil _ _ _⟩, ⟨Nat.zero_le _, Sl.nil _ _ _⟩, ⟨Nat.zero_le _, Sl.nil _ _ _⟩, ⟨Nat.zero_le _, Sl.nil _ _ _⟩⟩ (hr40.mono hl55) hp hz73) ?_
    rintro Γ74 U76 v77 hl75 ⟨row78, row80, A82, c83, row84, rfl, rfl, hr79, hr81, hr85, _⟩
    change WR _ _ _ (CC F Γ74 [row78, row80, row84]) _ _ (upd _ 68 (.slice A82 z72.2.2.length c83))
    refine WR.sat (c0 := true) (g := z52) rfl rfl rfl hb67 ?_
    refine vb (q_len_slice rfl Tryz.underlying34 rfl) ?_
    refine WR.sat (c0 := true) (g := z52) rfl rfl rfl hb67 ?_
    refine vb (q_neq rfl rfl rfl) ?_
    refine vb (q_pick_f (v := .bool (((z72.2.2.length : Nat) : Int) != 0)) rfl rfl (not_t hb67) (by kernel_rfl)) ?_
    refine WR.done ?_
    refine WC.cif h (by kernel_rfl) (fun hb86 h => ?_) (fun hb86 h => ?_)
    ·
     refine WC.rs ?_
     refine as_ (v := .bool false) ?_
     refine WR.done ?_
     refine WC.ret ?_
     intro w hw
     obtain rfl := Option.some.inj h
     subst hF
     exact ⟨by kernel_rfl, hw.fr⟩
    ·
     refine WC.skip ?_
     change WC _ _ _ _ _ _
     refine WC.rs ?_
     refine vb (q_move (v := (pq g41)) rfl (optp_some rfl hz50)) ?_
     obtain ⟨z87, hz88, h⟩ := bnd h
     refine vc rfl rfl rfl (q_call (call_run Tryz.call11 rfl rfl (by kernel_rfl)) (fun w hw => t_firthlaw15_at (Γ := Gh.all w) 0 (show I64 0 by decide) (Sat.all w) hz88)) ?_
     obtain ⟨z89, hz90, h⟩ := bnd h
     refine vc rfl rfl rfl (q_call (call_run Tryz.call11 rfl rfl (by kernel_rfl)) (fun w hw => t_firthlaw15_at (Γ := Gh.all w) 3 (show I64 3 by decide) (Sat.all w) hz90)) ?_
     refine mv (v := .int .i64 part) ?_
     refine vb (q_build' (v := .agg #[.int .i64 17, .int .i64 z87.site, .int .i64 z87.node, .int .i64 z89.site, .int .i64 z89.node, .int .i64 part, .int .i64 2, .int .i64 0, .int .i64 0, .string ByteArray.empty, .slice none 0 0, .slice none 0 0, .slice none 0 0, .slice none 0 0, .slice none 0 0]) rfl (bargs5 rfl rfl rfl rfl rfl) (fun w => by kernel_rfl)) ?_
     obtain ⟨hk91, h⟩ := chk_some h
     obtain ⟨hk92, h⟩ := chk_some h
     obtain ⟨hk93, h⟩ := chk_some h
     obtain ⟨hk94, h⟩ := chk_some h
     obtain ⟨z95, hz96, h⟩ := bnd h
     refine e_call (is := [0, 0]) rfl rfl (call_run Tryz.call13 rfl rfl (by kernel_rfl)) rfl (fun w hp => t_node_Node_Handle hr79 (Am10 := none) (cm10 := 0) (Am11 := none) (cm11 := 0) (Am12 := none) (cm12 := 0) (Am13 := none) (cm13 := 0) (Am14 := none) (cm14 := 0) (⟨17, (⟨z87.site, z87.node⟩ : Adr), (⟨z89.site, z89.node⟩ : Adr), part, 2, 0, 0, ByteArray.empty, [], [], [], [], []⟩ : Dapi_Msg) ⟨(show I64 17 by decide), (i64b_of hk91), (i64b_of hk92), (i64b_of hk93), (i64b_of hk94), hpart, (show I64 2 by decide), (show I64 0 by decide), (show I64 0 by decide), (show (ByteArray.empty : ByteArray).size ≤ lim by decide), ⟨Nat.zero_le _, Sl.nil _ _ _⟩, ⟨Nat.zero_le _, Sl.nil _ _ _⟩, ⟨Nat.zero_le _, Sl.nil _ _ _⟩, ⟨Nat.zero_le _, Sl.nil _ _ _⟩, ⟨Nat.zero_le _, Sl.nil _ _ _⟩⟩ hr81 hp hz96) ?_
     rintro Γ97 U99 v100 hl98 ⟨row101, row103, A105, c106, row107, rfl, rfl, hr102, hr104, hr108, _⟩
     change WR _ _ _ (CC F Γ97 [row101, row103, row107, row84]) _ _ (upd _ 77 (.slice A105 z95.2.2.length c106))
     refine as_ (v := .slice A105 z95.2.2.length c106) ?_
     refine WR.done ?_
     refine WC.seq ?_
     refine WC.rs ?_
     refine mv (v := .slice A105 z95.2.2.length c106) ?_
     refine vb (q_len_slice rfl Tryz.underlying34 rfl) ?_
     refine vb (q_neq rfl rfl rfl) ?_
     refine mv (v := .bool (((z95.2.2.length : Nat) : Int) != 0)) ?_
     refine vg0 rfl rfl rfl rfl rfl (fun hg109 => QV.qo (q_move (v := (pq g41)) rfl (optp_some rfl hz50))) ?_
     refine (Bool.eq_false_or_eq_true (!(((z95.2.2.length : Nat) : Int) != 0))).elim (fun hb110 => ?_) (fun hb110 => ?_)
     ·
      have h := bt hb110 h
      refine WR.sat (c0 := true) (g := (((z95.2.2.length : Nat) : Int) != 0)) rfl rfl rfl hb110 ?_
      obtain ⟨z111, hz112, h⟩ := bnd h
      refine e_call (is := [0, 0]) rfl rfl (call_run Tryz.call12 rfl rfl (args1 (gu hb110 rfl))) rfl (fun w hp => t_node_Node_Intact hr102 hr104 hp hz112) ?_
      rintro Γ113 U115 v116 hl114 ⟨rfl, rfl, _⟩
      change WR _ _ _ (CC F Γ113 [row101, row103, row107, row84]) _ _ (upd _ 83 (.bool z111))
      refine vb (q_pick_f (v := .bool z111) rfl rfl (not_t hb110) (by kernel_rfl)) ?_
      refine WR.done ?_
      refine WC.cif h (by kernel_rfl) (fun hb117 h => ?_) (fun hb117 h => ?_)
      ·
       refine WC.rs ?_
       refine as_ (v := .bool false) ?_
       refine WR.done ?_
       refine WC.ret ?_
       intro w hw
       obtain rfl := Option.some.inj h
       subst hF
       exact ⟨by kernel_rfl, hw.fr⟩
      ·
       refine WC.skip ?_
       change WC _ _ _ _ _ _
       refine WC.rs ?_
       refine vb (q_move (v := (pq g41)) rfl (optp_some rfl hz50)) ?_
       obtain ⟨z118, hz119, h⟩ := bnd h
       refine vc rfl rfl rfl (q_call (call_run Tryz.call11 rfl rfl (by kernel_rfl)) (fun w hw => t_firthlaw15_at (Γ := Gh.all w) 0 (show I64 0 by decide) (Sat.all w) hz119)) ?_
       obtain ⟨z120, hz121, h⟩ := bnd h
       refine vc rfl rfl rfl (q_call (call_run Tryz.call11 rfl rfl (by kernel_rfl)) (fun w hw => t_firthlaw15_at (Γ := Gh.all w) 3 (show I64 3 by decide) (Sat.all w) hz121)) ?_
       refine mv (v := .int .i64 part) ?_
       refine vb (q_build' (v := .agg #[.int .i64 17, .int .i64 z118.site, .int .i64 z118.node, .int .i64 z120.site, .int .i64 z120.node, .int .i64 part, .int .i64 3, .int .i64 0, .int .i64 0, .string ByteArray.empty, .slice none 0 0, .slice none 0 0, .slice none 0 0, .slice none 0 0, .slice none 0 0]) rfl (bargs5 rfl rfl rfl rfl rfl) (fun w => by kernel_rfl)) ?_
       obtain ⟨hk122, h⟩ := chk_some h
       obtain ⟨hk123, h⟩ := chk_some h
       obtain ⟨hk124, h⟩ := chk_some h
       obtain ⟨hk125, h⟩ := chk_some h
       obtain ⟨z126, hz127, h⟩ := bnd h
       refine e_call (is := [0, 0]) rfl rfl (call_run Tryz.call13 rfl rfl (by kernel_rfl)) rfl (fun w hp => t_node_Node_Handle (hr102.mono hl114) (Am10 := none) (cm10 := 0) (Am11 := none) (cm11 := 0) (Am12 := none) (cm12 := 0) (Am13 := none) (cm13 := 0) (Am14 := none) (cm14 := 0) (⟨17, (⟨z118.site, z118.node⟩ : Adr), (⟨z120.site, z120.node⟩ : Adr), part, 3, 0, 0, ByteArray.empty, [], [], [], [], []⟩ : Dapi_Msg) ⟨(show I64 17 by decide), (i64b_of hk122), (i64b_of hk123), (i64b_of hk124), (i64b_of hk125), hpart, (show I64 3 by decide), (show I64 0 by decide), (show I64 0 by decide), (show (ByteArray.empty : ByteArray).size ≤ lim by decide), ⟨Nat.zero_le _, Sl.nil _ _ _⟩, ⟨Nat.zero_le _, Sl.nil _ _ _⟩, ⟨Nat.zero_le _, Sl.nil _ _ _⟩, ⟨Nat.zero_le _, Sl.nil _ _ _⟩, ⟨Nat.zero_le _, Sl.nil _ _ _⟩⟩ (hr104.mono hl114) hp hz127) ?_
       rintro Γ128 U130 v131 hl129 ⟨row132, row134, A136, c137, row138, rfl, rfl, hr133, hr135, hr139, _⟩
       change WR _ _ _ (CC F Γ128 [row132, row134, row138, row107, row84]) _ _ (upd _ 90 (.slice A136 z126.2.2.length c137))
       refine as_ (v := .slice A136 z126.2.2.length c137) ?_
       refine WR.done ?_
       refine WC.seq ?_
       refine WC.rs ?_
       refine mv (v := .slice A136 z126.2.2.length c137) ?_
       refine vb (q_len_slice rfl Tryz.underlying34 rfl) ?_
       refine vb (q_neq rfl rfl rfl) ?_
       refine mv (v := .bool (((z126.2.2.length : Nat) : Int) != 1)) ?_
       refine vg0 rfl rfl rfl rfl rfl (fun hg140 => QV.qo (q_move (v := .slice A136 z126.2.2.length c137) rfl (by kernel_rfl))) ?_
       obtain ⟨hk142, h⟩ := chk_some h
       refine vg0 rfl rfl rfl rfl rfl (fun hg141 => QV.qo (q_ixn (i := 0) Tryz.underlying34 Tryz.sizeOf40 rfl (gu hg141 rfl) rfl (of_decide_eq_true (imp_of hk142 hg141)) (hr139.some_ (of_decide_eq_true (imp_of hk142 hg141))))) ?_
       refine vg0 rfl rfl rfl rfl rfl (fun hg143 => QV.qo (q_field_addr (0 * 15 + 6) fld_40_4 rfl (gu hg143 rfl) (hr139.some_ (of_decide_eq_true (imp_of hk142 hg143))) rfl)) ?_
       obtain ⟨A145, c146, A147, c148, A149, c150, A151, c152, A153, c154, hx155⟩ := hr139.dapi_MsgT_at 0
       refine vg0 rfl rfl rfl rfl rfl (fun hg144 => QV.qo (q_ldo (c := 6) (v := .int .i64 (gt z126.2.2 0).n) (i := 2) rfl (hx155 (of_decide_eq_true (imp_of hk142 hg144))).2 rfl Tryz.isAgg2 (gu hg144 rfl) rfl)) ?_
       refine vg0 rfl rfl rfl rfl rfl (fun hg156 => QV.qo (q_neq rfl (gu hg156 rfl) rfl)) ?_
       refine vb (q_pick rfl rfl (pk_or' (g := (((z126.2.2.length : Nat) : Int) != 1)) (y := ((gt z126.2.2 0).n != 3)))) ?_
       refine mv (v := .bool ((((z126.2.2.length : Nat) : Int) != 1) || ((gt z126.2.2 0).n != 3))) ?_
       refine vg0 rfl rfl rfl rfl rfl (fun hg157 => QV.qo (q_move (v := .slice A136 z126.2.2.length c137) rfl (by kernel_rfl))) ?_
       obtain ⟨hk159, h⟩ := chk_some h
       refine vg0 rfl rfl rfl rfl rfl (fun hg158 => QV.qo (q_ixn (i := 0) Tryz.underlying34 Tryz.sizeOf40 rfl (gu hg158 rfl) rfl (of_decide_eq_true (imp_of hk159 hg158)) (hr139.some_ (of_decide_eq_true (imp_of hk159 hg158))))) ?_
       refine vg0 rfl rfl rfl rfl rfl (fun hg160 => QV.qo (q_field_addr (0 * 15) fld_40_0 rfl (gu hg160 rfl) (hr139.some_ (of_decide_eq_true (imp_of hk159 hg160))) rfl)) ?_
       refine vg0 rfl rfl rfl rfl rfl (fun hg161 => QV.qo (q_ldo (c := 0) (v := .int .i64 (gt z126.2.2 0).kind) (i := 2) rfl (hx155 (of_decide_eq_true (imp_of hk159 hg161))).2 rfl Tryz.isAgg3 (gu hg161 rfl) rfl)) ?_
       refine vg0 rfl rfl rfl rfl rfl (fun hg162 => QV.qo (q_neq rfl (gu hg162 rfl) rfl)) ?_
       refine vb (q_pick rfl rfl (pk_or' (g := ((((z126.2.2.length : Nat) : Int) != 1) || ((gt z126.2.2 0).n != 3))) (y := ((gt z126.2.2 0).kind != 2)))) ?_
       refine mv (v := .bool (((((z126.2.2.length : Nat) : Int) != 1) || ((gt z126.2.2 0).n != 3)) || ((gt z126.2.2 0).kind != 2))) ?_
       refine vg0 rfl rfl rfl rfl rfl (fun hg163 => QV.qo (q_move (v := .slice A136 z126.2.2.length c137) rfl (by kernel_rfl))) ?_
       obtain ⟨hk165, h⟩ := chk_some h
       refine vg0 rfl rfl rfl rfl rfl (fun hg164 => QV.qo (q_ixn (i := 0) Tryz.underlying34 Tryz.sizeOf40 rfl (gu hg164 rfl) rfl (of_decide_eq_true (imp_of hk165 hg164)) (hr139.some_ (of_decide_eq_true (imp_of hk165 hg164))))) ?_
       refine vg0 rfl rfl rfl rfl rfl (fun hg166 => QV.qo (q_field_addr (0 * 15 + 5) fld_40_3 rfl (gu hg166 rfl) (hr139.some_ (of_decide_eq_true (imp_of hk165 hg166))) rfl)) ?_
       refine vg0 rfl rfl rfl rfl rfl (fun hg167 => QV.qo (q_ldo (c := 5) (v := .int .i64 (gt z126.2.2 0).id) (i := 2) rfl (hx155 (of_decide_eq_true (imp_of hk165 hg167))).2 rfl Tryz.isAgg2 (gu hg167 rfl) rfl)) ?_
       refine vg0 rfl rfl rfl rfl rfl (fun hg168 => QV.qo (q_move (v := .int .i64 part) rfl (by kernel_rfl))) ?_
       refine vg0 rfl rfl rfl rfl rfl (fun hg169 => QV.qo (q_neq rfl (gu hg169 rfl) (gu hg169 rfl))) ?_
       refine vb (q_pick rfl rfl (pk_or' (g := (((((z126.2.2.length : Nat) : Int) != 1) || ((gt z126.2.2 0).n != 3)) || ((gt z126.2.2 0).kind != 2))) (y := ((gt z126.2.2 0).id != part)))) ?_
       refine mv (v := .bool ((((((z126.2.2.length : Nat) : Int) != 1) || ((gt z126.2.2 0).n != 3)) || ((gt z126.2.2 0).kind != 2)) || ((gt z126.2.2 0).id != part))) ?_
       refine vg0 rfl rfl rfl rfl rfl (fun hg170 => QV.qo (q_move (v := (pq g41)) rfl (optp_some rfl hz50))) ?_
       refine (Bool.eq_false_or_eq_true (!((((((z126.2.2.length : Nat) : Int) != 1) || ((gt z126.2.2 0).n != 3)) || ((gt z126.2.2 0).kind != 2)) || ((gt z126.2.2 0).id != part)))).elim (fun hb171 => ?_) (fun hb171 => ?_)
       ·
        have h := bt hb171 h
        refine WR.sat (c0 := true) (g := ((((((z126.2.2.length : Nat) : Int) != 1) || ((gt z126.2.2 0).n != 3)) || ((gt z126.2.2 0).kind != 2)) || ((gt z126.2.2 0).id != part))) rfl rfl rfl hb171 ?_
        obtain ⟨z172, hz173, h⟩ := bnd h
        refine e_call (is := [0, 0]) rfl rfl (call_run Tryz.call12 rfl rfl (args1 (gu hb171 rfl))) rfl (fun w hp => t_node_Node_Intact hr133 hr135 hp hz173) ?_
        rintro Γ174 U176 v177 hl175 ⟨rfl, rfl, _⟩
        change WR _ _ _ (CC F Γ174 [row132, row134, row138, row107, row84]) _ _ (upd _ 118 (.bool z172))
        refine WR.sat (c0 := true) (g := ((((((z126.2.2.length : Nat) : Int) != 1) || ((gt z126.2.2 0).n != 3)) || ((gt z126.2.2 0).kind != 2)) || ((gt z126.2.2 0).id != part))) rfl rfl rfl hb171 ?_
        refine vb (q_not rfl rfl) ?_
        refine vb (q_pick_f (v := .bool (!z172)) rfl rfl (not_t hb171) (by kernel_rfl)) ?_
        refine WR.done ?_
        refine WC.cif h (by kernel_rfl) (fun hb178 h => ?_) (fun hb178 h => ?_)
        ·
         refine WC.rs ?_
         refine as_ (v := .bool false) ?_
         refine WR.done ?_
         refine WC.ret ?_
         intro w hw
         obtain rfl := Option.some.inj h
         subst hF
         exact ⟨by kernel_rfl, hw.fr⟩
        ·
         refine WC.skip ?_
         change WC _ _ _ _ _ _
         refine WC.rs ?_
         refine vb (q_move (v := (pq g41)) rfl (optp_some rfl hz50)) ?_
         refine mv (v := .slice Alist list.length clist) ?_
         obtain ⟨z179, hz180, h⟩ := bnd h
         refine e_call (is := []) rfl rfl (call_run Tryz.call14 rfl rfl (by kernel_rfl)) rfl (fun w hp => t_firthlaw15_put 3 (show I64 3 by decide) (hlist.mono (((((((hl23.trans hl36).trans hl55).trans hl75).trans hl98).trans hl114).trans hl129).trans hl175)) hlistc hp hz180) ?_
         rintro Γ181 U183 v184 hl182 ⟨A185, c186, A187, c188, A189, c190, A191, c192, A193, c194, rfl, rfl, hr195, _⟩
         change WR _ _ _ (CC F Γ181 [row132, row134, row138, row107, row84]) _ _ (upd _ 123 (.agg #[.int .i64 z179.kind, .int .i64 z179.from_.site, .int .i64 z179.from_.node, .int .i64 z179.to_.site, .int .i64 z179.to_.node, .int .i64 z179.id, .int .i64 z179.n, .int .i64 z179.for_, .int .i64 z179.code, .string z179.key, .slice A185 z179.recs.length c186, .slice A187 z179.vec.length c188, .slice A189 z179.path.length c190, .slice A191 z179.hashes.length c192, .slice A193 z179.route.length c194]))
         obtain ⟨z196, hz197, h⟩ := bnd h
         refine e_call (is := [0, 0]) rfl rfl (call_run Tryz.call13 rfl rfl (by kernel_rfl)) rfl (fun w hp => t_node_Node_Handle (hr133.mono (hl175.trans hl182)) z179 hr195 (hr135.mono (hl175.trans hl182)) hp hz197) ?_
         rintro Γ198 U200 v201 hl199 ⟨row202, row204, A206, c207, row208, rfl, rfl, hr203, hr205, hr209, _⟩
         change WR _ _ _ (CC F Γ198 [row202, row204, row208, row138, row107, row84]) _ _ (upd _ 124 (.slice A206 z196.2.2.length c207))
         refine WR.done ?_
         refine WC.rs ?_
         refine vb (q_move (v := (pq g41)) rfl (optp_some rfl hz50)) ?_
         obtain ⟨z210, hz211, h⟩ := bnd h
         refine e_call (is := [0]) rfl rfl (call_run Tryz.call15 rfl rfl (by kernel_rfl)) rfl (fun w hp => t_node_Node_Recs hr203 (-1) (show I64 (-1) by decide) hp hz211) ?_
         rintro Γ212 U214 v215 hl213 ⟨A216, c217, row218, rfl, rfl, hr219, _⟩
         change WR _ _ _ (CC F Γ212 [row202, row218, row204, row208, row138, row107, row84]) _ _ (upd _ 126 (.slice A216 z210.length c217))
         refine as_ (v := .slice A216 z210.length c217) ?_
         refine WR.done ?_
         refine WC.rs ?_
         refine vb (q_move (v := (pq g41)) rfl (optp_some rfl hz50)) ?_
         obtain ⟨z220, hz221, h⟩ := bnd h
         refine vc rfl rfl rfl (q_call (call_run Tryz.call11 rfl rfl (by kernel_rfl)) (fun w hw => t_firthlaw15_at (Γ := Gh.all w) 0 (show I64 0 by decide) (Sat.all w) hz221)) ?_
         obtain ⟨z222, hz223, h⟩ := bnd h
         refine vc rfl rfl rfl (q_call (call_run Tryz.call11 rfl rfl (by kernel_rfl)) (fun w hw => t_firthlaw15_at (Γ := Gh.all w) 3 (show I64 3 by decide) (Sat.all w) hz223)) ?_
         refine mv (v := .int .i64 part) ?_
         refine mv (v := .string key) ?_
         refine vb (q_build' (v := .agg #[.int .i64 4, .int .i64 z220.site, .int .i64 z220.node, .int .i64 z222.site, .int .i64 z222.node, .int .i64 part, .int .i64 0, .int .i64 0, .int .i64 0, .string key, .slice none 0 0, .slice none 0 0, .slice none 0 0, .slice none 0 0, .slice none 0 0]) rfl (bargs5 rfl rfl rfl rfl rfl) (fun w => by kernel_rfl)) ?_
         obtain ⟨hk224, h⟩ := chk_some h
         obtain ⟨hk225, h⟩ := chk_some h
         obtain ⟨hk226, h⟩ := chk_some h
         obtain ⟨hk227, h⟩ := chk_some h
         obtain ⟨z228, hz229, h⟩ := bnd h
         refine e_call (is := [0, 1]) rfl rfl (call_run Tryz.call13 rfl rfl (by kernel_rfl)) rfl (fun w hp => t_node_Node_Handle (hr203.mono hl213) (Am10 := none) (cm10 := 0) (Am11 := none) (cm11 := 0) (Am12 := none) (cm12 := 0) (Am13 := none) (cm13 := 0) (Am14 := none) (cm14 := 0) (⟨4, (⟨z220.site, z220.node⟩ : Adr), (⟨z222.site, z222.node⟩ : Adr), part, 0, 0, 0, key, [], [], [], [], []⟩ : Dapi_Msg) ⟨(show I64 4 by decide), (i64b_of hk224), (i64b_of hk225), (i64b_of hk226), (i64b_of hk227), hpart, (show I64 0 by decide), (show I64 0 by decide), (show I64 0 by decide), hkey, ⟨Nat.zero_le _, Sl.nil _ _ _⟩, ⟨Nat.zero_le _, Sl.nil _ _ _⟩, ⟨Nat.zero_le _, Sl.nil _ _ _⟩, ⟨Nat.zero_le _, Sl.nil _ _ _⟩, ⟨Nat.zero_le _, Sl.nil _ _ _⟩⟩ (hr205.mono hl213) hp hz229) ?_
         rintro Γ230 U232 v233 hl231 ⟨row234, row236, A238, c239, row240, rfl, rfl, hr235, hr237, hr241, _⟩
         change WR _ _ _ (CC F Γ230 [row234, row236, row240, row218, row208, row138, row107, row84]) _ _ (upd _ 133 (.slice A238 z228.2.2.length c239))
         refine as_ (v := .slice A238 z228.2.2.length c239) ?_
         refine WR.done ?_
         refine WC.rs ?_
         refine vb (q_move (v := (pq g41)) rfl (optp_some rfl hz50)) ?_
         obtain ⟨z242, hz243, h⟩ := bnd h
         refine vc rfl rfl rfl (q_call (call_run Tryz.call11 rfl rfl (by kernel_rfl)) (fun w hw => t_firthlaw15_at (Γ := Gh.all w) 7 (show I64 7 by decide) (Sat.all w) hz243)) ?_
         obtain ⟨z244, hz245, h⟩ := bnd h
         refine vc rfl rfl rfl (q_call (call_run Tryz.call11 rfl rfl (by kernel_rfl)) (fun w hw => t_firthlaw15_at (Γ := Gh.all w) 3 (show I64 3 by decide) (Sat.all w) hz245)) ?_
         refine mv (v := .int .i64 part) ?_
         refine mv (v := .int .i64 part) ?_
         refine vb (q_build' (v := .agg #[.int .i64 6, .int .i64 z242.site, .int .i64 z242.node, .int .i64 z244.site, .int .i64 z244.node, .int .i64 part, .int .i64 part, .int .i64 0, .int .i64 0, .string ByteArray.empty, .slice none 0 0, .slice none 0 0, .slice none 0 0, .slice none 0 0, .slice none 0 0]) rfl (bargs5 rfl rfl rfl rfl rfl) (fun w => by kernel_rfl)) ?_
         obtain ⟨hk246, h⟩ := chk_some h
         obtain ⟨hk247, h⟩ := chk_some h
         obtain ⟨hk248, h⟩ := chk_some h
         obtain ⟨hk249, h⟩ := chk_some h
         obtain ⟨z250, hz251, h⟩ := bnd h
         refine e_call (is := [0, 0]) rfl rfl (call_run Tryz.call13 rfl rfl (by kernel_rfl)) rfl (fun w hp => t_node_Node_Handle hr235 (Am10 := none) (cm10 := 0) (Am11 := none) (cm11 := 0) (Am12 := none) (cm12 := 0) (Am13 := none) (cm13 := 0) (Am14 := none) (cm14 := 0) (⟨6, (⟨z242.site, z242.node⟩ : Adr), (⟨z244.site, z244.node⟩ : Adr), part, part, 0, 0, ByteArray.empty, [], [], [], [], []⟩ : Dapi_Msg) ⟨(show I64 6 by decide), (i64b_of hk246), (i64b_of hk247), (i64b_of hk248), (i64b_of hk249), hpart, hpart, (show I64 0 by decide), (show I64 0 by decide), (show (ByteArray.empty : ByteArray).size ≤ lim by decide), ⟨Nat.zero_le _, Sl.nil _ _ _⟩, ⟨Nat.zero_le _, Sl.nil _ _ _⟩, ⟨Nat.zero_le _, Sl.nil _ _ _⟩, ⟨Nat.zero_le _, Sl.nil _ _ _⟩, ⟨Nat.zero_le _, Sl.nil _ _ _⟩⟩ hr237 hp hz251) ?_
         rintro Γ252 U254 v255 hl253 ⟨row256, row258, A260, c261, row262, rfl, rfl, hr257, hr259, hr263, _⟩
         change WR _ _ _ (CC F Γ252 [row256, row258, row262, row240, row218, row208, row138, row107, row84]) _ _ (upd _ 140 (.slice A260 z250.2.2.length c261))
         refine as_ (v := .slice A260 z250.2.2.length c261) ?_
         refine WR.done ?_
         refine WC.seq ?_
         refine WC.seq ?_
         refine WC.dr (by kernel_rfl) (by kernel_rfl) (fun w hw => hw.drawn _) ?_
         refine wa rfl rfl rfl (q_move (v := .slice A238 z228.2.2.length c239) rfl (by kernel_rfl)) ?_
         refine wa rfl rfl rfl (q_len_slice rfl Tryz.underlying34 rfl) ?_
         refine wa rfl rfl rfl (q_neq rfl rfl rfl) ?_
         refine wa rfl rfl rfl (q_move (v := .bool (((z228.2.2.length : Nat) : Int) != 1)) rfl (by kernel_rfl)) ?_
         refine wg0 rfl rfl rfl rfl rfl (fun hg264 => QV.qo (q_move (v := .slice A260 z250.2.2.length c261) rfl (by kernel_rfl))) ?_
         refine wg0 rfl rfl rfl rfl rfl (fun hg265 => QV.qo (q_len_slice rfl Tryz.underlying34 (gu hg265 rfl))) ?_
         refine wg0 rfl rfl rfl rfl rfl (fun hg266 => QV.qo (q_neq rfl (gu hg266 rfl) rfl)) ?_
         refine wa rfl rfl rfl (q_pick rfl rfl (pk_or' (g := (((z228.2.2.length : Nat) : Int) != 1)) (y := (((z250.2.2.length : Nat) : Int) != 1)))) ?_
         refine wa rfl rfl rfl (q_move (v := .bool ((((z228.2.2.length : Nat) : Int) != 1) || (((z250.2.2.length : Nat) : Int) != 1))) rfl (by kernel_rfl)) ?_
         refine wg0 rfl rfl rfl rfl rfl (fun hg267 => QV.qo (q_move (v := .slice A238 z228.2.2.length c239) rfl (by kernel_rfl))) ?_
         obtain ⟨hk269, h⟩ := chk_some h
         refine wg0 rfl rfl rfl rfl rfl (fun hg268 => QV.qo (q_ixn (i := 0) Tryz.underlying34 Tryz.sizeOf40 rfl (gu hg268 rfl) rfl (of_decide_eq_true (imp_of hk269 hg268)) ((hr241.mono hl253).some_ (of_decide_eq_true (imp_of hk269 hg268))))) ?_
         refine wg0 rfl rfl rfl rfl rfl (fun hg270 => QV.qo (q_field_addr (0 * 15) fld_40_0 rfl (gu hg270 rfl) ((hr241.mono hl253).some_ (of_decide_eq_true (imp_of hk269 hg270))) rfl)) ?_
         obtain ⟨A272, c273, A274, c275, A276, c277, A278, c279, A280, c281, hx282⟩ := (hr241.mono hl253).dapi_MsgT_at 0
         refine wg0 rfl rfl rfl rfl rfl (fun hg271 => QV.qo (q_ldo (c := 0) (v := .int .i64 (gt z228.2.2 0).kind) (i := 3) rfl (hx282 (of_decide_eq_true (imp_of hk269 hg271))).2 rfl Tryz.isAgg3 (gu hg271 rfl) rfl)) ?_
         refine wg0 rfl rfl rfl rfl rfl (fun hg283 => QV.qo (q_neq rfl (gu hg283 rfl) rfl)) ?_
         refine wa rfl rfl rfl (q_pick rfl rfl (pk_or' (g := ((((z228.2.2.length : Nat) : Int) != 1) || (((z250.2.2.length : Nat) : Int) != 1))) (y := ((gt z228.2.2 0).kind != 5)))) ?_
         refine wa rfl rfl rfl (q_move (v := .bool (((((z228.2.2.length : Nat) : Int) != 1) || (((z250.2.2.length : Nat) : Int) != 1)) || ((gt z228.2.2 0).kind != 5))) rfl (by kernel_rfl)) ?_
         refine wg0 rfl rfl rfl rfl rfl (fun hg284 => QV.qo (q_move (v := .slice A260 z250.2.2.length c261) rfl (by kernel_rfl))) ?_
         obtain ⟨hk286, h⟩ := chk_some h
         refine wg0 rfl rfl rfl rfl rfl (fun hg285 => QV.qo (q_ixn (i := 0) Tryz.underlying34 Tryz.sizeOf40 rfl (gu hg285 rfl) rfl (of_decide_eq_true (imp_of hk286 hg285)) (hr263.some_ (of_decide_eq_true (imp_of hk286 hg285))))) ?_
         refine wg0 rfl rfl rfl rfl rfl (fun hg287 => QV.qo (q_field_addr (0 * 15) fld_40_0 rfl (gu hg287 rfl) (hr263.some_ (of_decide_eq_true (imp_of hk286 hg287))) rfl)) ?_
         obtain ⟨A289, c290, A291, c292, A293, c294, A295, c296, A297, c298, hx299⟩ := hr263.dapi_MsgT_at 0
         refine wg0 rfl rfl rfl rfl rfl (fun hg288 => QV.qo (q_ldo (c := 0) (v := .int .i64 (gt z250.2.2 0).kind) (i := 2) rfl (hx299 (of_decide_eq_true (imp_of hk286 hg288))).2 rfl Tryz.isAgg3 (gu hg288 rfl) rfl)) ?_
         refine wg0 rfl rfl rfl rfl rfl (fun hg300 => QV.qo (q_neq rfl (gu hg300 rfl) rfl)) ?_
         refine wa rfl rfl rfl (q_pick rfl rfl (pk_or' (g := (((((z228.2.2.length : Nat) : Int) != 1) || (((z250.2.2.length : Nat) : Int) != 1)) || ((gt z228.2.2 0).kind != 5))) (y := ((gt z250.2.2 0).kind != 7)))) ?_
         refine wa rfl rfl rfl (q_move (v := .bool ((((((z228.2.2.length : Nat) : Int) != 1) || (((z250.2.2.length : Nat) : Int) != 1)) || ((gt z228.2.2 0).kind != 5)) || ((gt z250.2.2 0).kind != 7))) rfl (by kernel_rfl)) ?_
         refine wg0 rfl rfl rfl rfl rfl (fun hg301 => QV.qo (q_move (v := .slice A238 z228.2.2.length c239) rfl (by kernel_rfl))) ?_
         obtain ⟨hk303, h⟩ := chk_some h
         refine wg0 rfl rfl rfl rfl rfl (fun hg302 => QV.qo (q_ixn (i := 0) Tryz.underlying34 Tryz.sizeOf40 rfl (gu hg302 rfl) rfl (of_decide_eq_true (imp_of hk303 hg302)) ((hr241.mono hl253).some_ (of_decide_eq_true (imp_of hk303 hg302))))) ?_
         refine wg0 rfl rfl rfl rfl rfl (fun hg304 => QV.qo (q_field_addr (0 * 15 + 5) fld_40_3 rfl (gu hg304 rfl) ((hr241.mono hl253).some_ (of_decide_eq_true (imp_of hk303 hg304))) rfl)) ?_
         refine wg0 rfl rfl rfl rfl rfl (fun hg305 => QV.qo (q_ldo (c := 5) (v := .int .i64 (gt z228.2.2 0).id) (i := 3) rfl (hx282 (of_decide_eq_true (imp_of hk303 hg305))).2 rfl Tryz.isAgg2 (gu hg305 rfl) rfl)) ?_
         refine wg0 rfl rfl rfl rfl rfl (fun hg306 => QV.qo (q_move (v := .int .i64 part) rfl (by kernel_rfl))) ?_
         refine wg0 rfl rfl rfl rfl rfl (fun hg307 => QV.qo (q_neq rfl (gu hg307 rfl) (gu hg307 rfl))) ?_
         refine wa rfl rfl rfl (q_pick rfl rfl (pk_or' (g := ((((((z228.2.2.length : Nat) : Int) != 1) || (((z250.2.2.length : Nat) : Int) != 1)) || ((gt z228.2.2 0).kind != 5)) || ((gt z250.2.2 0).kind != 7))) (y := ((gt z228.2.2 0).id != part)))) ?_
         refine wa rfl rfl rfl (q_move (v := .bool (((((((z228.2.2.length : Nat) : Int) != 1) || (((z250.2.2.length : Nat) : Int) != 1)) || ((gt z228.2.2 0).kind != 5)) || ((gt z250.2.2 0).kind != 7)) || ((gt z228.2.2 0).id != part))) rfl (by kernel_rfl)) ?_
         refine wg0 rfl rfl rfl rfl rfl (fun hg308 => QV.qo (q_move (v := .slice A260 z250.2.2.length c261) rfl (by kernel_rfl))) ?_
         obtain ⟨hk310, h⟩ := chk_some h
         refine wg0 rfl rfl rfl rfl rfl (fun hg309 => QV.qo (q_ixn (i := 0) Tryz.underlying34 Tryz.sizeOf40 rfl (gu hg309 rfl) rfl (of_decide_eq_true (imp_of hk310 hg309)) (hr263.some_ (of_decide_eq_true (imp_of hk310 hg309))))) ?_
         refine wg0 rfl rfl rfl rfl rfl (fun hg311 => QV.qo (q_field_addr (0 * 15 + 5) fld_40_3 rfl (gu hg311 rfl) (hr263.some_ (of_decide_eq_true (imp_of hk310 hg311))) rfl)) ?_
         refine wg0 rfl rfl rfl rfl rfl (fun hg312 => QV.qo (q_ldo (c := 5) (v := .int .i64 (gt z250.2.2 0).id) (i := 2) rfl (hx299 (of_decide_eq_true (imp_of hk310 hg312))).2 rfl Tryz.isAgg2 (gu hg312 rfl) rfl)) ?_
         refine wg0 rfl rfl rfl rfl rfl (fun hg313 => QV.qo (q_move (v := .int .i64 part) rfl (by kernel_rfl))) ?_
         refine wg0 rfl rfl rfl rfl rfl (fun hg314 => QV.qo (q_neq rfl (gu hg314 rfl) (gu hg314 rfl))) ?_
         refine wa rfl rfl rfl (q_pick rfl rfl (pk_or' (g := (((((((z228.2.2.length : Nat) : Int) != 1) || (((z250.2.2.length : Nat) : Int) != 1)) || ((gt z228.2.2 0).kind != 5)) || ((gt z250.2.2 0).kind != 7)) || ((gt z228.2.2 0).id != part))) (y := ((gt z250.2.2 0).id != part)))) ?_
         refine wa rfl rfl rfl (q_move (v := .bool ((((((((z228.2.2.length : Nat) : Int) != 1) || (((z250.2.2.length : Nat) : Int) != 1)) || ((gt z228.2.2 0).kind != 5)) || ((gt z250.2.2 0).kind != 7)) || ((gt z228.2.2 0).id != part)) || ((gt z250.2.2 0).id != part))) rfl (by kernel_rfl)) ?_
         refine wg0 rfl rfl rfl rfl rfl (fun hg315 => QV.qo (q_move (v := .slice A238 z228.2.2.length c239) rfl (by kernel_rfl))) ?_
         obtain ⟨hk317, h⟩ := chk_some h
         refine wg0 rfl rfl rfl rfl rfl (fun hg316 => QV.qo (q_ixn (i := 0) Tryz.underlying34 Tryz.sizeOf40 rfl (gu hg316 rfl) rfl (of_decide_eq_true (imp_of hk317 hg316)) ((hr241.mono hl253).some_ (of_decide_eq_true (imp_of hk317 hg316))))) ?_
         refine wg0 rfl rfl rfl rfl rfl (fun hg318 => QV.qo (q_field_addr (0 * 15 + 9) fld_40_7 rfl (gu hg318 rfl) ((hr241.mono hl253).some_ (of_decide_eq_true (imp_of hk317 hg318))) rfl)) ?_
         refine wg0 rfl rfl rfl rfl rfl (fun hg319 => QV.qo (q_ldo (c := 9) (v := .string (gt z228.2.2 0).key) (i := 3) rfl (hx282 (of_decide_eq_true (imp_of hk317 hg319))).2 rfl Tryz.isAgg9 (gu hg319 rfl) rfl)) ?_
         refine wg0 rfl rfl rfl rfl rfl (fun hg320 => QV.qo (q_move (v := .string key) rfl (by kernel_rfl))) ?_
         refine wg0 rfl rfl rfl rfl rfl (fun hg321 => QV.qo (q_sneq rfl (gu hg321 rfl) (gu hg321 rfl))) ?_
         refine wa rfl rfl rfl (q_pick rfl rfl (pk_or' (g := ((((((((z228.2.2.length : Nat) : Int) != 1) || (((z250.2.2.length : Nat) : Int) != 1)) || ((gt z228.2.2 0).kind != 5)) || ((gt z250.2.2 0).kind != 7)) || ((gt z228.2.2 0).id != part)) || ((gt z250.2.2 0).id != part))) (y := ((gt z228.2.2 0).key != key)))) ?_
         refine wa rfl rfl rfl (q_move (v := .bool (((((((((z228.2.2.length : Nat) : Int) != 1) || (((z250.2.2.length : Nat) : Int) != 1)) || ((gt z228.2.2 0).kind != 5)) || ((gt z250.2.2 0).kind != 7)) || ((gt z228.2.2 0).id != part)) || ((gt z250.2.2 0).id != part)) || ((gt z228.2.2 0).key != key))) rfl (by kernel_rfl)) ?_
         refine wg0 rfl rfl rfl rfl rfl (fun hg322 => QV.qo (q_move (v := .slice A260 z250.2.2.length c261) rfl (by kernel_rfl))) ?_
         obtain ⟨hk324, h⟩ := chk_some h
         refine wg0 rfl rfl rfl rfl rfl (fun hg323 => QV.qo (q_ixn (i := 0) Tryz.underlying34 Tryz.sizeOf40 rfl (gu hg323 rfl) rfl (of_decide_eq_true (imp_of hk324 hg323)) (hr263.some_ (of_decide_eq_true (imp_of hk324 hg323))))) ?_
         refine wg0 rfl rfl rfl rfl rfl (fun hg325 => QV.qo (q_field_addr (0 * 15 + 3) fld_40_2 rfl (gu hg325 rfl) (hr263.some_ (of_decide_eq_true (imp_of hk324 hg325))) rfl)) ?_
         refine wg0 rfl rfl rfl rfl rfl (fun hg326 => QV.qo (q_ldoa (c := 3) (vs := [.int .i64 (gt z250.2.2 0).to_.site, .int .i64 (gt z250.2.2 0).to_.node]) (i := 2) rfl (hx299 (of_decide_eq_true (imp_of hk324 hg326))).2 rfl Tryz.isAgg32 Tryz.sizeOf32 (gu hg326 rfl) rfl)) ?_
         obtain ⟨z328, hz329, h⟩ := bnd h
         refine wg0 rfl rfl rfl rfl rfl (fun hg327 => (q_call (call_run Tryz.call11 rfl rfl (by kernel_rfl)) (fun w hw => t_firthlaw15_at (Γ := Gh.all w) 7 (show I64 7 by decide) (Sat.all w) (gc_of hz329 hg327)))) ?_
         refine wg0 rfl rfl rfl rfl rfl (fun hg330 => QV.qo (q_neq_Adr (a := (gt z250.2.2 0).to_) (b := z328) rfl (gu hg330 rfl) (gu hg330 rfl))) ?_
         refine wa rfl rfl rfl (q_pick rfl rfl (pk_or' (g := (((((((((z228.2.2.length : Nat) : Int) != 1) || (((z250.2.2.length : Nat) : Int) != 1)) || ((gt z228.2.2 0).kind != 5)) || ((gt z250.2.2 0).kind != 7)) || ((gt z228.2.2 0).id != part)) || ((gt z250.2.2 0).id != part)) || ((gt z228.2.2 0).key != key))) (y := ((gt z250.2.2 0).to_ != z328)))) ?_
         refine wa rfl rfl rfl (q_move (v := .bool ((((((((((z228.2.2.length : Nat) : Int) != 1) || (((z250.2.2.length : Nat) : Int) != 1)) || ((gt z228.2.2 0).kind != 5)) || ((gt z250.2.2 0).kind != 7)) || ((gt z228.2.2 0).id != part)) || ((gt z250.2.2 0).id != part)) || ((gt z228.2.2 0).key != key)) || ((gt z250.2.2 0).to_ != z328))) rfl (by kernel_rfl)) ?_
         refine wg0 rfl rfl rfl rfl rfl (fun hg331 => QV.qo (q_move (v := .slice A260 z250.2.2.length c261) rfl (by kernel_rfl))) ?_
         obtain ⟨hk333, h⟩ := chk_some h
         refine wg0 rfl rfl rfl rfl rfl (fun hg332 => QV.qo (q_ixn (i := 0) Tryz.underlying34 Tryz.sizeOf40 rfl (gu hg332 rfl) rfl (of_decide_eq_true (imp_of hk333 hg332)) (hr263.some_ (of_decide_eq_true (imp_of hk333 hg332))))) ?_
         refine wg0 rfl rfl rfl rfl rfl (fun hg334 => QV.qo (q_field_addr (0 * 15 + 6) fld_40_4 rfl (gu hg334 rfl) (hr263.some_ (of_decide_eq_true (imp_of hk333 hg334))) rfl)) ?_
         refine wg0 rfl rfl rfl rfl rfl (fun hg335 => QV.qo (q_ldo (c := 6) (v := .int .i64 (gt z250.2.2 0).n) (i := 2) rfl (hx299 (of_decide_eq_true (imp_of hk333 hg335))).2 rfl Tryz.isAgg2 (gu hg335 rfl) rfl)) ?_
         refine wg0 rfl rfl rfl rfl rfl (fun hg336 => QV.qo (q_move (v := .int .i64 part) rfl (by kernel_rfl))) ?_
         refine wg0 rfl rfl rfl rfl rfl (fun hg337 => QV.qo (q_neq rfl (gu hg337 rfl) (gu hg337 rfl))) ?_
         refine wa rfl rfl rfl (q_pick rfl rfl (pk_or' (g := ((((((((((z228.2.2.length : Nat) : Int) != 1) || (((z250.2.2.length : Nat) : Int) != 1)) || ((gt z228.2.2 0).kind != 5)) || ((gt z250.2.2 0).kind != 7)) || ((gt z228.2.2 0).id != part)) || ((gt z250.2.2 0).id != part)) || ((gt z228.2.2 0).key != key)) || ((gt z250.2.2 0).to_ != z328))) (y := ((gt z250.2.2 0).n != part)))) ?_
         refine WQ.nil ?_
         change WC _ _ _ _ _ _
         refine WC.cif h (by kernel_rfl) (fun hb338 h => ?_) (fun hb338 h => ?_)
         ·
          refine WC.rs ?_
          refine as_ (v := .bool false) ?_
          refine WR.done ?_
          refine WC.ret ?_
          intro w hw
          obtain rfl := Option.some.inj h
          subst hF
          exact ⟨by kernel_rfl, hw.fr⟩
         ·
          refine WC.skip ?_
          change WC _ _ _ _ _ _
          refine WC.rs ?_
          refine as_ (v := .slice none 0 0) ?_
          refine WR.done ?_
          refine WC.cut (fun σ w => ∃ (v_339 : List Ver), ∃ (A340 : Option Addr), ∃ (c341 : Nat), m_firthlaw15_NodeReads_j1 key part z210 z228 z250 v_339 = some r ∧ slots σ [(1, .string key), (2, .int .i64 part), (9, optp z33.2.1 g41), (13, .slice A216 z210.length c217), (14, .slice A238 z228.2.2.length c239), (15, .slice A260 z250.2.2.length c261), (16, .slice A340 v_339.length c341)] ∧ CC F Γ252 [row256, row258, row262, row240, row218] w ∧ v_339.length ≤ c341 ∧ Sl verT Γ252 A340 v_339 ∧ True) ?_ ?_
          ·
           refine WC.rs ?_
           refine mv (v := .slice A238 z228.2.2.length c239) ?_
           obtain ⟨hk344, h⟩ := chk_some h
           refine vb (q_ixn (i := 0) Tryz.underlying34 Tryz.sizeOf40 rfl rfl rfl (of_decide_eq_true hk344) ((hr241.mono hl253).some_ (of_decide_eq_true hk344))) ?_
           refine vb (q_field_addr (0 * 15 + 10) fld_40_8 rfl rfl ((hr241.mono hl253).some_ (of_decide_eq_true hk344)) rfl) ?_
           refine vb (q_ldo (c := 10) (v := .slice A272 ((gt z228.2.2 0).recs).length c273) (i := 3) rfl (hx282 (of_decide_eq_true hk344)).2 rfl Tryz.isAgg22 rfl rfl) ?_
           refine vb (q_len_slice rfl Tryz.underlying22 rfl) ?_
           refine vb (q_eql rfl rfl rfl) ?_
           refine WR.done ?_
           refine WC.cif h (by kernel_rfl) (fun hb345 h => ?_) (fun hb345 h => ?_)
           ·
            refine WC.region ?_
            refine mv (v := .slice A238 z228.2.2.length c239) ?_
            refine vb (q_ixn (i := 0) Tryz.underlying34 Tryz.sizeOf40 rfl rfl rfl (of_decide_eq_true hk344) ((hr241.mono hl253).some_ (of_decide_eq_true hk344))) ?_
            refine vb (q_field_addr (0 * 15 + 10) fld_40_8 rfl rfl ((hr241.mono hl253).some_ (of_decide_eq_true hk344)) rfl) ?_
            refine vb (q_ldo (c := 10) (v := .slice A272 ((gt z228.2.2 0).recs).length c273) (i := 3) rfl (hx282 (of_decide_eq_true hk344)).2 rfl Tryz.isAgg22 rfl rfl) ?_
            obtain ⟨hk346, h⟩ := chk_some h
            refine vb (q_ixn (i := 0) Tryz.underlying22 Tryz.sizeOf45 rfl rfl rfl (of_decide_eq_true hk346) ((hx282 (of_decide_eq_true hk344)).1.2.2.2.2.2.2.2.2.2.2.1.2.some_ (of_decide_eq_true hk346))) ?_
            refine vb (q_field_addr (0 * 2 + 1) fld_45_1 rfl rfl ((hx282 (of_decide_eq_true hk344)).1.2.2.2.2.2.2.2.2.2.2.1.2.some_ (of_decide_eq_true hk346)) rfl) ?_
            obtain ⟨A347, c348, hx349⟩ := (hx282 (of_decide_eq_true hk344)).1.2.2.2.2.2.2.2.2.2.2.1.2.recT_at 0
            refine vb (q_ld (c := 1) (v := .slice A347 ((gt ((gt z228.2.2 0).recs) 0).vers).length c348) (hx349 (of_decide_eq_true hk346)).2 rfl Tryz.isAgg43 rfl rfl) ?_
            refine as_ (v := .slice A347 ((gt ((gt z228.2.2 0).recs) 0).vers).length c348) ?_
            refine WR.nil ?_
            intro w hw
            exact ⟨(gt ((gt z228.2.2 0).recs) 0).vers, A347, c348, h, (sl_ (by kernel_rfl)), (hw.only (is := [0, 0, 0, 0, 0]) rfl), (hx349 (of_decide_eq_true hk346)).1.2.1, (hx349 (of_decide_eq_true hk346)).1.2.2, trivial⟩
           ·
            refine WC.skip ?_
            intro w hw
            exact ⟨[], none, 0, h, (sl_ (by kernel_rfl)), (hw.only (is := [0, 0, 0, 0, 0]) rfl), (Nat.zero_le 0), (Sl.nil verT _ none), trivial⟩
          ·
           rintro σ w ⟨v_339, A340, c341, h, hsl, hw, hc343, hs342, -⟩
           refine Wpt.slots hsl ?_
           refine WC.here (C := CC F Γ252 [row256, row258, row262, row240, row218]) ?_ hw
           clear hw hsl
           refine WC.rs ?_
           refine as_ (v := .slice none 0 0) ?_
           refine WR.done ?_
           refine WC.seq ?_
           refine WC.rs ?_
           refine as_ (v := .int .i64 0) ?_
           refine WR.done ?_
           refine WC.block ?_
           refine WC.forI h (fun (i356 : Nat) (in_350 : List Rec) σ w => ∃ (A351 : Option Addr), ∃ (c352 : Nat), ∃ (row353 : Rowb), slots σ [(1, .string key), (2, .int .i64 part), (9, optp z33.2.1 g41), (13, .slice A216 z210.length c217), (14, .slice A238 z228.2.2.length c239), (15, .slice A260 z250.2.2.length c261), (16, .slice A340 v_339.length c341), (17, .slice A351 in_350.length c352), (18, .int .i64 ((i356 : Nat) : Int))] ∧ CC F Γ252 [row353, row256, row258, row262, row240, row218] w ∧ Own recT Γ252 45 row353 A351 c352 in_350 ∧ True) ?_ ?_
           ·
            intro w hw
            have hw := hw.pad
            exact ⟨none, 0, [], (sl_ (by kernel_rfl)), hw, (Own.nil recT _ 45), trivial⟩
           rintro f355 i356 in_350 σ w hi357 hlt358 hge359 ⟨A351, c352, row353, hsl, hw, ho354, -⟩
           refine Wpt.slots hsl ?_
           refine WC.here (C := CC F Γ252 [row353, row256, row258, row262, row240, row218]) ?_ hw
           clear hw hsl
           refine WC.seq ?_
           refine WC.rs ?_
           refine mv (v := .int .i64 ((i356 : Nat) : Int)) ?_
           refine mv (v := .slice A216 z210.length c217) ?_
           refine vb (q_len_slice rfl Tryz.underlying22 rfl) ?_
           refine vb (q_lss rfl rfl rfl) ?_
           refine WR.done ?_
           refine WC.cond (b := (decide (((i356 : Nat) : Int) < ((z210.length : Nat) : Int)))) (by kernel_rfl) (fun hb360 => ?_) (fun hb360 => ?_)
           ·
            have hl361 := ilt hb360
            have h := hlt358 hl361
            refine WC.skip ?_
            change WC _ _ _ _ _ _
            refine WC.cut (fun σ w => ∃ (in_362 : List Rec), ∃ (A363 : Option Addr), ∃ (c364 : Nat), ∃ (row365 : Rowb), m_firthlaw15_NodeReads_j6 f355 in_362 = some r ∧ slots σ [(1, .string key), (2, .int .i64 part), (9, optp z33.2.1 g41), (13, .slice A216 z210.length c217), (14, .slice A238 z228.2.2.length c239), (15, .slice A260 z250.2.2.length c261), (16, .slice A340 v_339.length c341), (17, .slice A363 in_362.length c364), (18, .int .i64 ((i356 : Nat) : Int))] ∧ CC F Γ252 [row365, row256, row258, row262, row240, row218] w ∧ Own recT Γ252 45 row365 A363 c364 in_362 ∧ True) ?_ ?_
            ·
             refine WC.block ?_
             refine WC.rs ?_
             refine mv (v := .slice A216 z210.length c217) ?_
             refine mv (v := .int .i64 ((i356 : Nat) : Int)) ?_
             refine vb (q_ixn (i := i356) Tryz.underlying22 Tryz.sizeOf45 rfl rfl rfl hl361 ((hr219.mono (hl231.trans hl253)).some_ hl361)) ?_
             refine vb (q_field_addr (i356 * 2) fld_45_0 rfl rfl ((hr219.mono (hl231.trans hl253)).some_ hl361) rfl) ?_
             obtain ⟨A367, c368, hx369⟩ := (hr219.mono (hl231.trans hl253)).recT_at i356
             refine vb (q_ldo (c := 0) (v := .string (gt z210 i356).key) (i := 5) rfl (hx369 hl361).2 rfl Tryz.isAgg9 rfl rfl) ?_
             obtain ⟨z370, hz371, h⟩ := bnd h
             refine vc rfl rfl rfl (q_call (call_run Tryz.call16 rfl rfl (by kernel_rfl)) (fun w hw => t_firthref12_Part (Γ := Gh.all w) ((gt z210 i356).key) (hx369 hl361).1.1 (Sat.all w) hz371)) ?_
             refine mv (v := .int .i64 part) ?_
             refine vb (q_eql rfl rfl rfl) ?_
             refine WR.done ?_
             refine WC.cif h (by kernel_rfl) (fun hb372 h => ?_) (fun hb372 h => ?_)
             ·
              refine WC.region ?_
              refine mv (v := .slice A351 in_350.length c352) ?_
              refine mv (v := .slice A216 z210.length c217) ?_
              refine mv (v := .int .i64 ((i356 : Nat) : Int)) ?_
              refine vb (q_ixn (i := i356) Tryz.underlying22 Tryz.sizeOf45 rfl rfl rfl hl361 ((hr219.mono (hl231.trans hl253)).some_ hl361)) ?_
              refine vb (q_ldoa (c := 0) (vs := [.string (gt z210 i356).key, .slice A367 ((gt z210 i356).vers).length c368]) (i := 5) rfl (hx369 hl361).2 rfl Tryz.isAgg45 Tryz.sizeOf45 rfl rfl) ?_
              refine e_buildSlice (cs := #[.string (gt z210 i356).key, .slice A367 ((gt z210 i356).vers).length c368]) (e := 45) rfl rfl rfl rfl (fun w => by kernel_rfl) ?_
              intro g373
              obtain ⟨hk374, h⟩ := chk_some h
              refine e_append (T := recT) (xs := in_350) (ys := [(gt z210 i356)]) elem_22 (i := 1) rfl rfl rfl rfl rfl rfl rfl ho354 (of_decide_eq_true hk374) (fun w hw => src_one (T := recT) (y := (gt z210 i356)) (i := 0) rfl (by exact ⟨A367, c368, rfl, (hx369 hl361).1⟩) hw) ?_
              intro row375 A376 c377 ho378
              refine as_ (v := .slice A376 (in_350 ++ [(gt z210 i356)]).length c377) ?_
              refine WR.nil ?_
              intro w hw
              exact ⟨(in_350 ++ [(gt z210 i356)]), A376, c377, row375, h, (sl_ (by kernel_rfl)), (hw.only (is := [1, 1, 1, 1, 1, 1]) rfl), ho378, trivial⟩
             ·
              refine WC.skip ?_
              intro w hw
              exact ⟨in_350, A351, c352, row353, h, (sl_ (by kernel_rfl)), hw, ho354, trivial⟩
            ·
             rintro σ w ⟨in_362, A363, c364, row365, h, hsl, hw, ho366, -⟩
             refine Wpt.slots hsl ?_
             refine WC.here (C := CC F Γ252 [row365, row256, row258, row262, row240, row218]) ?_ hw
             clear hw hsl
             refine WC.region ?_
             refine mv (v := .int .i64 ((i356 : Nat) : Int)) ?_
             refine vb (q_add_r (r := ((i356 + 1 : Nat) : Int)) rfl rfl rfl (ctr_len hl361 (hr219.mono (hl231.trans hl253)).le)) ?_
             refine as_ (v := .int .i64 ((i356 + 1 : Nat) : Int)) ?_
             refine WR.nil ?_
             intro w hw
             exact ⟨hl361, in_362, h, A363, c364, row365, (sl_ (by kernel_rfl)), hw, ho366, trivial⟩
           ·
            have h := hge359 (ige hb360)
            refine WC.exit ?_
            change WC _ _ _ _ _ _
            refine WC.rs ?_
            refine mv (v := .slice A340 v_339.length c341) ?_
            refine mv (v := .slice A216 z210.length c217) ?_
            refine mv (v := .string key) ?_
            have hc383 := (hr219.mono (hl231.trans hl253)).capz
            intro w hw; obtain ⟨Γ379, hw, hl380, hr381⟩ := hw.seal (i := 5) rfl; have hs382 := (hr219.mono (hl231.trans hl253)).sl hl380 hr381
            refine WR.here (C := CC F Γ379 [row353, row256, row258, row262, row240, []]) ?_ hw
            clear hw
            obtain ⟨z384, hz385, h⟩ := bnd h
            refine e_call (is := []) rfl rfl (call_run Tryz.call18 rfl rfl (by kernel_rfl)) rfl (fun w hp => t_firthref14_Get hs382 hc383 key hkey hp hz385) ?_
            rintro Γ386 U388 v389 hl387 ⟨A390, c391, rfl, rfl, hc393, hr392, _⟩
            change WR _ _ _ (CC F Γ386 [row353, row256, row258, row262, row240, []]) _ _ (upd _ 240 (.slice A390 z384.length c391))
            obtain ⟨z394, hz395, h⟩ := bnd h
            refine vc rfl rfl rfl (q_call (call_run Tryz.call17 rfl rfl (by kernel_rfl)) (fun w hw => t_firthref05_Same (Γ := Gh.all w) ((hs342.mono (hl380.trans hl387)).mono hw.sat.le_all) hc343 (hr392.mono hw.sat.le_all) hc393 (Sat.all w) hz395)) ?_
            refine mv (v := .bool z394) ?_
            refine vg1 rfl rfl rfl rfl rfl (fun hg396 => QV.qo (q_move (v := .slice A238 z228.2.2.length c239) rfl (by kernel_rfl))) ?_
            obtain ⟨hk398, h⟩ := chk_some h
            refine vg1 rfl rfl rfl rfl rfl (fun hg397 => QV.qo (q_ixn (i := 0) Tryz.underlying34 Tryz.sizeOf40 rfl (gu hg397 rfl) rfl (of_decide_eq_true (imp_of hk398 hg397)) ((hr241.mono ((hl253.trans hl380).trans hl387)).some_ (of_decide_eq_true (imp_of hk398 hg397))))) ?_
            refine vg1 rfl rfl rfl rfl rfl (fun hg399 => QV.qo (q_field_addr (0 * 15 + 10) fld_40_8 rfl (gu hg399 rfl) ((hr241.mono ((hl253.trans hl380).trans hl387)).some_ (of_decide_eq_true (imp_of hk398 hg399))) rfl)) ?_
            obtain ⟨A401, c402, A403, c404, A405, c406, A407, c408, A409, c410, hx411⟩ := (hr241.mono ((hl253.trans hl380).trans hl387)).dapi_MsgT_at 0
            refine vg1 rfl rfl rfl rfl rfl (fun hg400 => QV.qo (q_ldo (c := 10) (v := .slice A401 ((gt z228.2.2 0).recs).length c402) (i := 4) rfl (hx411 (of_decide_eq_true (imp_of hk398 hg400))).2 rfl Tryz.isAgg22 (gu hg400 rfl) rfl)) ?_
            refine vg1 rfl rfl rfl rfl rfl (fun hg412 => QV.qo (q_len_slice rfl Tryz.underlying22 (gu hg412 rfl))) ?_
            refine vg1 rfl rfl rfl rfl rfl (fun hg413 => QV.qo (q_eql rfl (gu hg413 rfl) rfl)) ?_
            refine vg1 rfl rfl rfl rfl rfl (fun hg414 => QV.qo (q_move (v := .slice A340 v_339.length c341) rfl (by kernel_rfl))) ?_
            refine vg1 rfl rfl rfl rfl rfl (fun hg415 => QV.qo (q_len_slice rfl Tryz.underlying43 (gu hg415 rfl))) ?_
            refine vg1 rfl rfl rfl rfl rfl (fun hg416 => QV.qo (q_eql rfl (gu hg416 rfl) rfl)) ?_
            refine vg1 rfl rfl rfl rfl rfl (fun hg417 => QV.qo (q_beql Tryz.underlying4 rfl (gu hg417 rfl) (gu hg417 rfl))) ?_
            refine vb (q_pick rfl rfl (pk_and' (g := z394) (y := ((((((gt z228.2.2 0).recs).length : Nat) : Int) == 0) == (((v_339.length : Nat) : Int) == 0))))) ?_
            refine mv (v := .bool (z394 && ((((((gt z228.2.2 0).recs).length : Nat) : Int) == 0) == (((v_339.length : Nat) : Int) == 0)))) ?_
            refine vg1 rfl rfl rfl rfl rfl (fun hg418 => QV.qo (q_move (v := .slice A260 z250.2.2.length c261) rfl (by kernel_rfl))) ?_
            obtain ⟨hk420, h⟩ := chk_some h
            refine vg1 rfl rfl rfl rfl rfl (fun hg419 => QV.qo (q_ixn (i := 0) Tryz.underlying34 Tryz.sizeOf40 rfl (gu hg419 rfl) rfl (of_decide_eq_true (imp_of hk420 hg419)) ((hr263.mono (hl380.trans hl387)).some_ (of_decide_eq_true (imp_of hk420 hg419))))) ?_
            refine vg1 rfl rfl rfl rfl rfl (fun hg421 => QV.qo (q_field_addr (0 * 15 + 10) fld_40_8 rfl (gu hg421 rfl) ((hr263.mono (hl380.trans hl387)).some_ (of_decide_eq_true (imp_of hk420 hg421))) rfl)) ?_
            obtain ⟨A423, c424, A425, c426, A427, c428, A429, c430, A431, c432, hx433⟩ := (hr263.mono (hl380.trans hl387)).dapi_MsgT_at 0
            refine vg1 rfl rfl rfl rfl rfl (fun hg422 => QV.qo (q_ldo (c := 10) (v := .slice A423 ((gt z250.2.2 0).recs).length c424) (i := 3) rfl (hx433 (of_decide_eq_true (imp_of hk420 hg422))).2 rfl Tryz.isAgg22 (gu hg422 rfl) rfl)) ?_
            refine vg1 rfl rfl rfl rfl rfl (fun hg434 => QV.qo (q_move (v := .slice A351 in_350.length c352) rfl (by kernel_rfl))) ?_
            obtain ⟨z436, hz437, h⟩ := bnd h
            refine vg1 rfl rfl rfl rfl rfl (fun hg435 => (q_call (call_run Tryz.call19 rfl rfl (args2 (gu hg435 rfl) (gu hg435 rfl))) (fun w hw => t_firthref06_SameRecs (Γ := Gh.all w) ((hx433 (of_decide_eq_true (imp_of hk420 hg435))).1.2.2.2.2.2.2.2.2.2.2.1.2.mono hw.sat.le_all) (hx433 (of_decide_eq_true (imp_of hk420 hg435))).1.2.2.2.2.2.2.2.2.2.2.1.1 ((ho354.mono (hl380.trans hl387)).sl hw.sat.le_all (hw.ra 0 rfl)) (ho354.mono (hl380.trans hl387)).capz (Sat.all w) (gc_of hz437 hg435)))) ?_
            refine vb (q_pick rfl rfl (pk_and' (g := (z394 && ((((((gt z228.2.2 0).recs).length : Nat) : Int) == 0) == (((v_339.length : Nat) : Int) == 0)))) (y := z436))) ?_
            refine mv (v := .bool ((z394 && ((((((gt z228.2.2 0).recs).length : Nat) : Int) == 0) == (((v_339.length : Nat) : Int) == 0))) && z436)) ?_
            refine vg1 rfl rfl rfl rfl rfl (fun hg438 => QV.qo (q_move (v := (pq g41)) rfl (optp_some rfl hz50))) ?_
            refine (Bool.eq_false_or_eq_true ((z394 && ((((((gt z228.2.2 0).recs).length : Nat) : Int) == 0) == (((v_339.length : Nat) : Int) == 0))) && z436)).elim (fun hb439 => ?_) (fun hb439 => ?_)
            ·
             have h := bt hb439 h
             refine WR.sat (c0 := true) (g := ((z394 && ((((((gt z228.2.2 0).recs).length : Nat) : Int) == 0) == (((v_339.length : Nat) : Int) == 0))) && z436)) rfl rfl rfl hb439 ?_
             obtain ⟨z440, hz441, h⟩ := bnd h
             refine e_call (is := [1]) rfl rfl (call_run Tryz.call15 rfl rfl (args2 (gu hb439 rfl) rfl)) rfl (fun w hp => t_node_Node_Recs (hr257.mono (hl380.trans hl387)) (-1) (show I64 (-1) by decide) hp hz441) ?_
             rintro Γ442 U444 v445 hl443 ⟨A446, c447, row448, rfl, rfl, hr449, _⟩
             change WR _ _ _ (CC F Γ442 [row256, row448, row353, row258, row262, row240, []]) _ _ (upd _ 264 (.slice A446 z440.length c447))
             refine WR.sat (c0 := true) (g := ((z394 && ((((((gt z228.2.2 0).recs).length : Nat) : Int) == 0) == (((v_339.length : Nat) : Int) == 0))) && z436)) rfl rfl rfl hb439 ?_
             refine mv (v := .slice A216 z210.length c217) ?_
             refine WR.sat (c0 := true) (g := ((z394 && ((((((gt z228.2.2 0).recs).length : Nat) : Int) == 0) == (((v_339.length : Nat) : Int) == 0))) && z436)) rfl rfl rfl hb439 ?_
             obtain ⟨z450, hz451, h⟩ := bnd h
             refine vc rfl rfl rfl (q_call (call_run Tryz.call19 rfl rfl (by kernel_rfl)) (fun w hw => t_firthref06_SameRecs (Γ := Gh.all w) (hr449.sl hw.sat.le_all (hw.ra 1 rfl)) hr449.capz ((hs382.mono (hl387.trans hl443)).mono hw.sat.le_all) hc383 (Sat.all w) hz451)) ?_
             refine vb (q_pick_t (v := .bool z450) rfl rfl hb439 (by kernel_rfl)) ?_
             refine as_ (v := .bool z450) ?_
             refine WR.done ?_
             refine WC.ret ?_
             intro w hw
             obtain rfl := Option.some.inj h
             subst hF
             exact ⟨by kernel_rfl, hw.fr⟩
            ·
             have h := bf hb439 h
             refine WR.unsat (c0 := true) (g := ((z394 && ((((((gt z228.2.2 0).recs).length : Nat) : Int) == 0) == (((v_339.length : Nat) : Int) == 0))) && z436)) rfl rfl rfl hb439 rfl ?_
             refine WR.unsat (c0 := true) (g := ((z394 && ((((((gt z228.2.2 0).recs).length : Nat) : Int) == 0) == (((v_339.length : Nat) : Int) == 0))) && z436)) rfl rfl rfl hb439 rfl ?_
             refine WR.unsat (c0 := true) (g := ((z394 && ((((((gt z228.2.2 0).recs).length : Nat) : Int) == 0) == (((v_339.length : Nat) : Int) == 0))) && z436)) rfl rfl rfl hb439 rfl ?_
             refine vb (q_pick_f (v := .bool false) rfl rfl hb439 (by kernel_rfl)) ?_
             refine as_ (v := .bool false) ?_
             refine WR.done ?_
             refine WC.ret ?_
             intro w hw
             obtain rfl := Option.some.inj h
             subst hF
             exact ⟨by kernel_rfl, hw.fr⟩
       ·
        have h := bf hb171 h
        refine WR.unsat (c0 := true) (g := ((((((z126.2.2.length : Nat) : Int) != 1) || ((gt z126.2.2 0).n != 3)) || ((gt z126.2.2 0).kind != 2)) || ((gt z126.2.2 0).id != part))) rfl rfl rfl hb171 rfl ?_
        refine WR.unsat (c0 := true) (g := ((((((z126.2.2.length : Nat) : Int) != 1) || ((gt z126.2.2 0).n != 3)) || ((gt z126.2.2 0).kind != 2)) || ((gt z126.2.2 0).id != part))) rfl rfl rfl hb171 rfl ?_
        refine vb (q_pick_t (v := .bool true) rfl rfl (not_f hb171) (by kernel_rfl)) ?_
        refine WR.done ?_
        refine WC.ctk (b := true) (by kernel_rfl) rfl ?_
        refine WC.rs ?_
        refine as_ (v := .bool false) ?_
        refine WR.done ?_
        refine WC.ret ?_
        intro w hw
        obtain rfl := Option.some.inj h
        subst hF
        exact ⟨by kernel_rfl, hw.fr⟩
     ·
      have h := bf hb110 h
      refine WR.unsat (c0 := true) (g := (((z95.2.2.length : Nat) : Int) != 0)) rfl rfl rfl hb110 rfl ?_
      refine vb (q_pick_t (v := .bool true) rfl rfl (not_f hb110) (by kernel_rfl)) ?_
      refine WR.done ?_
      refine WC.ctk (b := true) (by kernel_rfl) rfl ?_
      refine WC.rs ?_
      refine as_ (v := .bool false) ?_
      refine WR.done ?_
      refine WC.ret ?_
      intro w hw
      obtain rfl := Option.some.inj h
      subst hF
      exact ⟨by kernel_rfl, hw.fr⟩
   ·
    have h := bf hb67 h
    refine WR.unsat (c0 := true) (g := z52) rfl rfl rfl hb67 rfl ?_
    refine WR.unsat (c0 := true) (g := z52) rfl rfl rfl hb67 rfl ?_
    refine WR.unsat (c0 := true) (g := z52) rfl rfl rfl hb67 rfl ?_
    refine vb (q_pick_t (v := .bool true) rfl rfl (not_f hb67) (by kernel_rfl)) ?_
    refine WR.done ?_
    refine WC.ctk (b := true) (by kernel_rfl) rfl ?_
    refine WC.rs ?_
    refine as_ (v := .bool false) ?_
    refine WR.done ?_
    refine WC.ret ?_
    intro w hw
    obtain rfl := Option.some.inj h
    subst hF
    exact ⟨by kernel_rfl, hw.fr⟩
  ·
   have h := bf hb48 h
   refine WR.unsat (c0 := true) (g := ((Option.isNone z33.2.1) || (z33.2.2 != 0))) rfl rfl rfl hb48 rfl ?_
   refine vb (q_pick_t (v := .bool true) rfl rfl (not_f hb48) (by kernel_rfl)) ?_
   refine mv (v := .bool true) ?_
   refine WR.unsat (c0 := true) (g := true) rfl rfl rfl (nott rfl) rfl ?_
   refine WR.unsat (c0 := true) (g := true) rfl rfl rfl (nott rfl) rfl ?_
   refine WR.unsat (c0 := true) (g := true) rfl rfl rfl (nott rfl) rfl ?_
   refine WR.unsat (c0 := true) (g := true) rfl rfl rfl (nott rfl) rfl ?_
   refine WR.unsat (c0 := true) (g := true) rfl rfl rfl (nott rfl) rfl ?_
   refine WR.unsat (c0 := true) (g := true) rfl rfl rfl (nott rfl) rfl ?_
   refine WR.unsat (c0 := true) (g := true) rfl rfl rfl (nott rfl) rfl ?_
   refine WR.unsat (c0 := true) (g := true) rfl rfl rfl (nott rfl) rfl ?_
   refine vb (q_pickt (v := .bool true) rfl rfl rfl) ?_
   refine WR.done ?_
   refine WC.ctk (b := true) (by kernel_rfl) rfl ?_
   refine WC.rs ?_
   refine as_ (v := .bool false) ?_
   refine WR.done ?_
   refine WC.ret ?_
   intro w hw
   obtain rfl := Option.some.inj h
   subst hF
   exact ⟨by kernel_rfl, hw.fr⟩
end Fw
end Go.Proofs.YtckindfllegbgaaGreat
