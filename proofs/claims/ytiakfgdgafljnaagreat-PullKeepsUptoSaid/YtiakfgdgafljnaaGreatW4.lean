/- Walks through the functions that the law reaches (printed by a program). No condition. -/
import Derived.Test.YtiakfgdgafljnaaGreatW3
namespace Go.Proofs.YtiakfgdgafljnaaGreat
namespace Fw
set_option linter.unusedVariables false
set_option linter.unusedSimpArgs false
set_option linter.unusedSectionVars false
open Go.RowKit
set_option maxRecDepth 100000 in
set_option maxHeartbeats 400000 in
theorem t_firthref03_Has {Γ : Gh} {w0 : World} {Al : Option Addr} {cl : Nat} {l : List Span} (hl : Sl spanT Γ Al l) (hlc : l.length ≤ cl) (d : Dot) (hd : Dot.fits Γ  d) (hs : Sat Γ w0) {r : Bool} (h : m_firthref03_Has l d = some r) : Calls Tryz.prog 119 #[.slice Al l.length cl, .agg #[.int .i64 d.s, .int .i64 d.n]] w0 (fun e w' => e = .returned (.bool r) ∧ Fr no w0 w') := by
  refine calls_of (N := 40) (rs := [4]) (args := [.slice Al l.length cl, .agg #[.int .i64 d.s, .int .i64 d.n]]) Tryz.func119 rfl Tryz.ntmps119 Tryz.results119 rfl ?_
  obtain ⟨F, hF⟩ : ∃ F : Fm, F = ⟨no, w0, Γ⟩ := ⟨_, rfl⟩
  refine WC.here (C := CC F Γ []) ?_ (hF ▸ Cur.start0 hs)
  refine WC.rs ?_
  refine e_box (v := .agg #[.int .i64 d.s, .int .i64 d.n]) rfl rfl rfl rfl (by kernel_rfl) ?_
  intro g1
  refine va rfl rfl rfl (q_assign (v := .bool false) rfl (by kernel_rfl)) ?_
  refine WR.nil ?_
  change WC _ _ _ _ _ _
  refine WC.seq ?_
  refine WC.rs ?_
  refine va rfl rfl rfl (q_assign (v := .int .i64 0) rfl (by kernel_rfl)) ?_
  refine WR.nil ?_
  change WC _ _ _ _ _ _
  refine WC.block ?_
  refine WC.forI h (fun (i3 : Nat) (s : Unit) σ w => match s with | () => slots σ [(0, .slice Al l.length cl), (3, .pointer (some ⟨g1, 0, none⟩)), (5, .int .i64 ((i3 : Nat) : Int))] ∧ CC F Γ [[(g1, .cells #[.int .i64 d.s, .int .i64 d.n] 112 (0, 0))]] w ∧ True) ?_ ?_
  · skip
    intro w hw
    exact ⟨(sl_ (by kernel_rfl)), hw, trivial⟩
  rintro f2 i3 ⟨⟩ σ w hi4 hlt5 hge6 ⟨hsl, hw, -⟩
  refine Wpt.slots hsl ?_
  refine WC.here (C := CC F Γ [[(g1, .cells #[.int .i64 d.s, .int .i64 d.n] 112 (0, 0))]]) ?_ hw
  clear hw hsl
  refine WC.seq ?_
  refine WC.rs ?_
  refine va rfl rfl rfl (q_move (v := .int .i64 ((i3 : Nat) : Int)) rfl (by kernel_rfl)) ?_
  refine va rfl rfl rfl (q_move (v := .slice Al l.length cl) rfl (by kernel_rfl)) ?_
  refine va rfl rfl rfl (q_len_slice rfl Tryz.underlying113 rfl) ?_
  refine va rfl rfl rfl (q_lss rfl rfl rfl) ?_
  refine WR.nil ?_
  change WC _ _ _ _ _ _
  refine WC.cond (b := (decide (((i3 : Nat) : Int) < ((l.length : Nat) : Int)))) (by kernel_rfl) (fun hb7 => ?_) (fun hb7 => ?_)
  · skip
    have hl8 := ilt hb7
    have h := hlt5 hl8
    refine WC.skip ?_
    change WC _ _ _ _ _ _
    refine WC.seq ?_
    refine WC.block ?_
    refine WC.seq ?_
    refine WC.dr (by kernel_rfl) (by kernel_rfl) (fun w hw => hw.drawn _) ?_
    refine wa rfl rfl rfl (q_move (v := .slice Al l.length cl) rfl (by kernel_rfl)) ?_
    refine wa rfl rfl rfl (q_move (v := .int .i64 ((i3 : Nat) : Int)) rfl (by kernel_rfl)) ?_
    refine wa rfl rfl rfl (q_ixn (i := i3) Tryz.underlying113 Tryz.sizeOf117 rfl rfl rfl hl8 (hl.some_ hl8)) ?_
    refine wa rfl rfl rfl (q_field_addr (i3 * 3) fld_117_0 rfl rfl (hl.some_ hl8) rfl) ?_
    refine wa rfl rfl rfl (q_ld (c := 0) (v := .int .i64 (gt l i3).s) (hl.spanT_at hl8).2 rfl Tryz.isAgg3 rfl rfl) ?_
    refine wa rfl rfl rfl (q_fl 0 fld_112_0 rfl rfl rfl) ?_
    refine wa rfl rfl rfl (q_ldl (i := 0) (v := .int .i64 d.s) rfl rfl Tryz.isAgg3 rfl rfl) ?_
    refine wa rfl rfl rfl (q_eql rfl rfl rfl) ?_
    refine wa rfl rfl rfl (q_move (v := .bool ((gt l i3).s == d.s)) rfl (by kernel_rfl)) ?_
    refine wg1 rfl rfl rfl rfl rfl (fun hg9 => QV.qo (q_fl 1 fld_112_1 rfl rfl rfl)) ?_
    refine wg1 rfl rfl rfl rfl rfl (fun hg10 => QV.qo (q_ldl (i := 0) (v := .int .i64 d.n) rfl rfl Tryz.isAgg2 (gu hg10 rfl) rfl)) ?_
    refine wg1 rfl rfl rfl rfl rfl (fun hg11 => QV.qo (q_move (v := .slice Al l.length cl) rfl (by kernel_rfl))) ?_
    refine wg1 rfl rfl rfl rfl rfl (fun hg12 => QV.qo (q_move (v := .int .i64 ((i3 : Nat) : Int)) rfl (by kernel_rfl))) ?_
    refine wg1 rfl rfl rfl rfl rfl (fun hg13 => QV.qo (q_ixn (i := i3) Tryz.underlying113 Tryz.sizeOf117 rfl (gu hg13 rfl) (gu hg13 rfl) hl8 (hl.some_ hl8))) ?_
    refine wg1 rfl rfl rfl rfl rfl (fun hg14 => QV.qo (q_field_addr (i3 * 3 + 1) fld_117_1 rfl (gu hg14 rfl) (hl.some_ hl8) rfl)) ?_
    refine wg1 rfl rfl rfl rfl rfl (fun hg15 => QV.qo (q_ld (c := 1) (v := .int .i64 (gt l i3).f) (hl.spanT_at hl8).2 rfl Tryz.isAgg2 (gu hg15 rfl) rfl)) ?_
    refine wg1 rfl rfl rfl rfl rfl (fun hg16 => QV.qo (q_geq rfl (gu hg16 rfl) (gu hg16 rfl))) ?_
    refine wa rfl rfl rfl (q_pick rfl rfl (pk_and' (g := ((gt l i3).s == d.s)) (y := (decide ((gt l i3).f ≤ d.n))))) ?_
    refine wa rfl rfl rfl (q_move (v := .bool (((gt l i3).s == d.s) && (decide ((gt l i3).f ≤ d.n)))) rfl (by kernel_rfl)) ?_
    refine wg1 rfl rfl rfl rfl rfl (fun hg17 => QV.qo (q_fl 1 fld_112_1 rfl rfl rfl)) ?_
    refine wg1 rfl rfl rfl rfl rfl (fun hg18 => QV.qo (q_ldl (i := 0) (v := .int .i64 d.n) rfl rfl Tryz.isAgg2 (gu hg18 rfl) rfl)) ?_
    refine wg1 rfl rfl rfl rfl rfl (fun hg19 => QV.qo (q_move (v := .slice Al l.length cl) rfl (by kernel_rfl))) ?_
    refine wg1 rfl rfl rfl rfl rfl (fun hg20 => QV.qo (q_move (v := .int .i64 ((i3 : Nat) : Int)) rfl (by kernel_rfl))) ?_
    refine wg1 rfl rfl rfl rfl rfl (fun hg21 => QV.qo (q_ixn (i := i3) Tryz.underlying113 Tryz.sizeOf117 rfl (gu hg21 rfl) (gu hg21 rfl) hl8 (hl.some_ hl8))) ?_
    refine wg1 rfl rfl rfl rfl rfl (fun hg22 => QV.qo (q_field_addr (i3 * 3 + 2) fld_117_2 rfl (gu hg22 rfl) (hl.some_ hl8) rfl)) ?_
    refine wg1 rfl rfl rfl rfl rfl (fun hg23 => QV.qo (q_ld (c := 2) (v := .int .i64 (gt l i3).t) (hl.spanT_at hl8).2 rfl Tryz.isAgg2 (gu hg23 rfl) rfl)) ?_
    refine wg1 rfl rfl rfl rfl rfl (fun hg24 => QV.qo (q_leq rfl (gu hg24 rfl) (gu hg24 rfl))) ?_
    refine wa rfl rfl rfl (q_pick rfl rfl (pk_and' (g := (((gt l i3).s == d.s) && (decide ((gt l i3).f ≤ d.n)))) (y := (decide (d.n ≤ (gt l i3).t))))) ?_
    refine WQ.nil ?_
    change WC _ _ _ _ _ _
    refine WC.cif h (by kernel_rfl) (fun hb25 h => ?_) (fun hb25 h => ?_)
    · skip
      refine WC.rs ?_
      refine va rfl rfl rfl (q_assign (v := .bool true) rfl (by kernel_rfl)) ?_
      refine WR.nil ?_
      change WC _ _ _ _ _ _
      refine WC.ret ?_
      intro w hw
      obtain rfl := Option.some.inj h
      subst hF
      exact ⟨by kernel_rfl, hw.fr⟩
    · skip
      refine WC.skip ?_
      change WC _ _ _ _ _ _
      refine WC.region ?_
      refine va rfl rfl rfl (q_move (v := .int .i64 ((i3 : Nat) : Int)) rfl (by kernel_rfl)) ?_
      refine va rfl rfl rfl (q_add_r (r := ((i3 + 1 : Nat) : Int)) rfl rfl rfl (ctr_len hl8 hl.le)) ?_
      refine va rfl rfl rfl (q_assign (v := .int .i64 ((i3 + 1 : Nat) : Int)) rfl (by kernel_rfl)) ?_
      refine WR.nil ?_
      intro w hw
      exact ⟨hl8, (), h, (sl_ (by kernel_rfl)), hw, trivial⟩
  · skip
    have h := hge6 (ige hb7)
    refine WC.exit ?_
    change WC _ _ _ _ _ _
    refine WC.rs ?_
    refine va rfl rfl rfl (q_assign (v := .bool false) rfl (by kernel_rfl)) ?_
    refine WR.nil ?_
    change WC _ _ _ _ _ _
    refine WC.ret ?_
    intro w hw
    obtain rfl := Option.some.inj h
    subst hF
    exact ⟨by kernel_rfl, hw.fr⟩
set_option maxRecDepth 100000 in
set_option maxHeartbeats 400000 in
theorem t_firthref05_Behind {Γ : Gh} {w0 : World} {Al : Option Addr} {cl : Nat} {l : List Ver} (hl : Sl verT Γ Al l) (hlc : l.length ≤ cl) (d : Dot) (hd : Dot.fits Γ  d) (hs : Sat Γ w0) {r : Bool} (h : m_firthref05_Behind l d = some r) : Calls Tryz.prog 102 #[.slice Al l.length cl, .agg #[.int .i64 d.s, .int .i64 d.n]] w0 (fun e w' => e = .returned (.bool r) ∧ Fr no w0 w') := by
  refine calls_of (N := 19) (rs := [4]) (args := [.slice Al l.length cl, .agg #[.int .i64 d.s, .int .i64 d.n]]) Tryz.func102 rfl Tryz.ntmps102 Tryz.results102 rfl ?_
  obtain ⟨F, hF⟩ : ∃ F : Fm, F = ⟨no, w0, Γ⟩ := ⟨_, rfl⟩
  refine WC.here (C := CC F Γ []) ?_ (hF ▸ Cur.start0 hs)
  refine WC.rs ?_
  refine e_box (v := .agg #[.int .i64 d.s, .int .i64 d.n]) rfl rfl rfl rfl (by kernel_rfl) ?_
  intro g1
  refine va rfl rfl rfl (q_assign (v := .bool false) rfl (by kernel_rfl)) ?_
  refine WR.nil ?_
  change WC _ _ _ _ _ _
  refine WC.seq ?_
  refine WC.rs ?_
  refine va rfl rfl rfl (q_assign (v := .int .i64 0) rfl (by kernel_rfl)) ?_
  refine WR.nil ?_
  change WC _ _ _ _ _ _
  refine WC.block ?_
  refine WC.forI h (fun (i3 : Nat) (s : Unit) σ w => match s with | () => slots σ [(0, .slice Al l.length cl), (3, .pointer (some ⟨g1, 0, none⟩)), (5, .int .i64 ((i3 : Nat) : Int))] ∧ CC F Γ [[(g1, .cells #[.int .i64 d.s, .int .i64 d.n] 112 (0, 0))]] w ∧ True) ?_ ?_
  · skip
    intro w hw
    exact ⟨(sl_ (by kernel_rfl)), hw, trivial⟩
  rintro f2 i3 ⟨⟩ σ w hi4 hlt5 hge6 ⟨hsl, hw, -⟩
  refine Wpt.slots hsl ?_
  refine WC.here (C := CC F Γ [[(g1, .cells #[.int .i64 d.s, .int .i64 d.n] 112 (0, 0))]]) ?_ hw
  clear hw hsl
  refine WC.seq ?_
  refine WC.rs ?_
  refine va rfl rfl rfl (q_move (v := .int .i64 ((i3 : Nat) : Int)) rfl (by kernel_rfl)) ?_
  refine va rfl rfl rfl (q_move (v := .slice Al l.length cl) rfl (by kernel_rfl)) ?_
  refine va rfl rfl rfl (q_len_slice rfl Tryz.underlying67 rfl) ?_
  refine va rfl rfl rfl (q_lss rfl rfl rfl) ?_
  refine WR.nil ?_
  change WC _ _ _ _ _ _
  refine WC.cond (b := (decide (((i3 : Nat) : Int) < ((l.length : Nat) : Int)))) (by kernel_rfl) (fun hb7 => ?_) (fun hb7 => ?_)
  · skip
    have hl8 := ilt hb7
    have h := hlt5 hl8
    refine WC.skip ?_
    change WC _ _ _ _ _ _
    refine WC.seq ?_
    refine WC.block ?_
    refine WC.seq ?_
    refine WC.dr (by kernel_rfl) (by kernel_rfl) (fun w hw => hw.drawn _) ?_
    refine wa rfl rfl rfl (q_move (v := .slice Al l.length cl) rfl (by kernel_rfl)) ?_
    refine wa rfl rfl rfl (q_move (v := .int .i64 ((i3 : Nat) : Int)) rfl (by kernel_rfl)) ?_
    refine wa rfl rfl rfl (q_ixn (i := i3) Tryz.underlying67 Tryz.sizeOf115 rfl rfl rfl hl8 (hl.some_ hl8)) ?_
    refine wa rfl rfl rfl (q_field_addr (i3 * 5 + 2) fld_115_1 rfl rfl (hl.some_ hl8) rfl) ?_
    obtain ⟨A9, c10, hx11⟩ := hl.verT_at i3
    refine wa rfl rfl rfl (q_ld (c := 2) (v := .slice A9 ((gt l i3).past).length c10) (hx11 hl8).2 rfl Tryz.isAgg113 rfl rfl) ?_
    refine wa rfl rfl rfl (q_ldla (i := 0) (vs := [.int .i64 d.s, .int .i64 d.n]) rfl rfl Tryz.isAgg112 Tryz.sizeOf112 rfl rfl) ?_
    obtain ⟨z12, hz13, h⟩ := bnd h
    refine wc rfl rfl rfl (q_call (call_run Tryz.call119 rfl rfl (by kernel_rfl)) (fun w hw => t_firthref03_Has (Γ := Gh.all w) ((hx11 hl8).1.2.2.1.2.mono hw.sat.le_all) (hx11 hl8).1.2.2.1.1 d hd (Sat.all w) hz13)) ?_
    refine WQ.nil ?_
    change WC _ _ _ _ _ _
    refine WC.cif h (by kernel_rfl) (fun hb14 h => ?_) (fun hb14 h => ?_)
    · skip
      refine WC.rs ?_
      refine va rfl rfl rfl (q_assign (v := .bool true) rfl (by kernel_rfl)) ?_
      refine WR.nil ?_
      change WC _ _ _ _ _ _
      refine WC.ret ?_
      intro w hw
      obtain rfl := Option.some.inj h
      subst hF
      exact ⟨by kernel_rfl, hw.fr⟩
    · skip
      refine WC.skip ?_
      change WC _ _ _ _ _ _
      refine WC.region ?_
      refine va rfl rfl rfl (q_move (v := .int .i64 ((i3 : Nat) : Int)) rfl (by kernel_rfl)) ?_
      refine va rfl rfl rfl (q_add_r (r := ((i3 + 1 : Nat) : Int)) rfl rfl rfl (ctr_len hl8 hl.le)) ?_
      refine va rfl rfl rfl (q_assign (v := .int .i64 ((i3 + 1 : Nat) : Int)) rfl (by kernel_rfl)) ?_
      refine WR.nil ?_
      intro w hw
      exact ⟨hl8, (), h, (sl_ (by kernel_rfl)), hw, trivial⟩
  · skip
    have h := hge6 (ige hb7)
    refine WC.exit ?_
    change WC _ _ _ _ _ _
    refine WC.rs ?_
    refine va rfl rfl rfl (q_assign (v := .bool false) rfl (by kernel_rfl)) ?_
    refine WR.nil ?_
    change WC _ _ _ _ _ _
    refine WC.ret ?_
    intro w hw
    obtain rfl := Option.some.inj h
    subst hF
    exact ⟨by kernel_rfl, hw.fr⟩
set_option maxRecDepth 100000 in
set_option maxHeartbeats 400000 in
theorem t_firthref05_Less {Γ : Gh} {w0 : World} (a : Dot) (ha : Dot.fits Γ  a) (b : Dot) (hb : Dot.fits Γ  b) (hs : Sat Γ w0) {r : Bool} (h : m_firthref05_Less a b = some r) : Calls Tryz.prog 103 #[.agg #[.int .i64 a.s, .int .i64 a.n], .agg #[.int .i64 b.s, .int .i64 b.n]] w0 (fun e w' => e = .returned (.bool r) ∧ Fr no w0 w') := by
  refine calls_of (N := 20) (rs := [4]) (args := [.agg #[.int .i64 a.s, .int .i64 a.n], .agg #[.int .i64 b.s, .int .i64 b.n]]) Tryz.func103 rfl Tryz.ntmps103 Tryz.results103 rfl ?_
  obtain ⟨F, hF⟩ : ∃ F : Fm, F = ⟨no, w0, Γ⟩ := ⟨_, rfl⟩
  refine WC.here (C := CC F Γ []) ?_ (hF ▸ Cur.start0 hs)
  refine WC.rs ?_
  refine e_box (v := .agg #[.int .i64 a.s, .int .i64 a.n]) rfl rfl rfl rfl (by kernel_rfl) ?_
  intro g1
  refine e_box (v := .agg #[.int .i64 b.s, .int .i64 b.n]) rfl rfl rfl rfl (by kernel_rfl) ?_
  intro g2
  refine va rfl rfl rfl (q_assign (v := .bool false) rfl (by kernel_rfl)) ?_
  refine WR.nil ?_
  change WC _ _ _ _ _ _
  refine WC.seq ?_
  refine WC.rs ?_
  refine va rfl rfl rfl (q_fl 0 fld_112_0 rfl rfl rfl) ?_
  refine va rfl rfl rfl (q_ldl (i := 1) (v := .int .i64 a.s) rfl rfl Tryz.isAgg3 rfl rfl) ?_
  refine va rfl rfl rfl (q_fl 0 fld_112_0 rfl rfl rfl) ?_
  refine va rfl rfl rfl (q_ldl (i := 0) (v := .int .i64 b.s) rfl rfl Tryz.isAgg3 rfl rfl) ?_
  refine va rfl rfl rfl (q_neq rfl rfl rfl) ?_
  refine WR.nil ?_
  change WC _ _ _ _ _ _
  refine WC.cif h (by kernel_rfl) (fun hb3 h => ?_) (fun hb3 h => ?_)
  · skip
    refine WC.rs ?_
    refine va rfl rfl rfl (q_fl 0 fld_112_0 rfl rfl rfl) ?_
    refine va rfl rfl rfl (q_ldl (i := 1) (v := .int .i64 a.s) rfl rfl Tryz.isAgg3 rfl rfl) ?_
    refine va rfl rfl rfl (q_fl 0 fld_112_0 rfl rfl rfl) ?_
    refine va rfl rfl rfl (q_ldl (i := 0) (v := .int .i64 b.s) rfl rfl Tryz.isAgg3 rfl rfl) ?_
    refine va rfl rfl rfl (q_lss rfl rfl rfl) ?_
    refine va rfl rfl rfl (q_assign (v := .bool (decide (a.s < b.s))) rfl (by kernel_rfl)) ?_
    refine WR.nil ?_
    change WC _ _ _ _ _ _
    refine WC.ret ?_
    intro w hw
    obtain rfl := Option.some.inj h
    subst hF
    exact ⟨by kernel_rfl, hw.fr⟩
  · skip
    refine WC.skip ?_
    change WC _ _ _ _ _ _
    refine WC.rs ?_
    refine va rfl rfl rfl (q_fl 1 fld_112_1 rfl rfl rfl) ?_
    refine va rfl rfl rfl (q_ldl (i := 1) (v := .int .i64 a.n) rfl rfl Tryz.isAgg2 rfl rfl) ?_
    refine va rfl rfl rfl (q_fl 1 fld_112_1 rfl rfl rfl) ?_
    refine va rfl rfl rfl (q_ldl (i := 0) (v := .int .i64 b.n) rfl rfl Tryz.isAgg2 rfl rfl) ?_
    refine va rfl rfl rfl (q_lss rfl rfl rfl) ?_
    refine va rfl rfl rfl (q_assign (v := .bool (decide (a.n < b.n))) rfl (by kernel_rfl)) ?_
    refine WR.nil ?_
    change WC _ _ _ _ _ _
    refine WC.ret ?_
    intro w hw
    obtain rfl := Option.some.inj h
    subst hF
    exact ⟨by kernel_rfl, hw.fr⟩
set_option maxRecDepth 100000 in
set_option maxHeartbeats 400000 in
theorem t_firthref05_Right {Γ : Gh} {w0 : World} {Al : Option Addr} {cl : Nat} {l : List Ver} (hl : Sl verT Γ Al l) (hlc : l.length ≤ cl) (hs : Sat Γ w0) {r : Bool} (h : m_firthref05_Right l = some r) : Calls Tryz.prog 87 #[.slice Al l.length cl] w0 (fun e w' => e = .returned (.bool r) ∧ Fr no w0 w') := by
  refine calls_of (N := 45) (rs := [2]) (args := [.slice Al l.length cl]) Tryz.func87 rfl Tryz.ntmps87 Tryz.results87 rfl ?_
  obtain ⟨F, hF⟩ : ∃ F : Fm, F = ⟨no, w0, Γ⟩ := ⟨_, rfl⟩
  refine WC.here (C := CC F Γ []) ?_ (hF ▸ Cur.start0 hs)
  refine WC.rs ?_
  refine va rfl rfl rfl (q_assign (v := .bool false) rfl (by kernel_rfl)) ?_
  refine WR.nil ?_
  change WC _ _ _ _ _ _
  refine WC.seq ?_
  refine WC.rs ?_
  refine va rfl rfl rfl (q_move (v := .slice Al l.length cl) rfl (by kernel_rfl)) ?_
  refine va rfl rfl rfl (q_len_slice rfl Tryz.underlying67 rfl) ?_
  refine va rfl rfl rfl (q_gtr rfl rfl rfl) ?_
  refine WR.nil ?_
  change WC _ _ _ _ _ _
  refine WC.cif h (by kernel_rfl) (fun hb1 h => ?_) (fun hb1 h => ?_)
  · skip
    refine WC.rs ?_
    refine va rfl rfl rfl (q_assign (v := .bool false) rfl (by kernel_rfl)) ?_
    refine WR.nil ?_
    change WC _ _ _ _ _ _
    refine WC.ret ?_
    intro w hw
    obtain rfl := Option.some.inj h
    subst hF
    exact ⟨by kernel_rfl, hw.fr⟩
  · skip
    refine WC.skip ?_
    change WC _ _ _ _ _ _
    refine WC.seq ?_
    refine WC.rs ?_
    refine va rfl rfl rfl (q_assign (v := .int .i64 0) rfl (by kernel_rfl)) ?_
    refine WR.nil ?_
    change WC _ _ _ _ _ _
    refine WC.block ?_
    refine WC.forI h (fun (i3 : Nat) (s : Unit) σ w => match s with | () => slots σ [(0, .slice Al l.length cl), (3, .int .i64 ((i3 : Nat) : Int))] ∧ CC F Γ [] w ∧ True) ?_ ?_
    · skip
      intro w hw
      exact ⟨(sl_ (by kernel_rfl)), hw, trivial⟩
    rintro f2 i3 ⟨⟩ σ w hi4 hlt5 hge6 ⟨hsl, hw, -⟩
    refine Wpt.slots hsl ?_
    refine WC.here (C := CC F Γ []) ?_ hw
    clear hw hsl
    refine WC.seq ?_
    refine WC.rs ?_
    refine va rfl rfl rfl (q_move (v := .int .i64 ((i3 : Nat) : Int)) rfl (by kernel_rfl)) ?_
    refine va rfl rfl rfl (q_move (v := .slice Al l.length cl) rfl (by kernel_rfl)) ?_
    refine va rfl rfl rfl (q_len_slice rfl Tryz.underlying67 rfl) ?_
    refine va rfl rfl rfl (q_lss rfl rfl rfl) ?_
    refine WR.nil ?_
    change WC _ _ _ _ _ _
    refine WC.cond (b := (decide (((i3 : Nat) : Int) < ((l.length : Nat) : Int)))) (by kernel_rfl) (fun hb7 => ?_) (fun hb7 => ?_)
    · skip
      have hl8 := ilt hb7
      have h := hlt5 hl8
      refine WC.skip ?_
      change WC _ _ _ _ _ _
      refine WC.seq ?_
      refine WC.block ?_
      refine WC.seq ?_
      refine WC.rs ?_
      refine va rfl rfl rfl (q_move (v := .slice Al l.length cl) rfl (by kernel_rfl)) ?_
      refine va rfl rfl rfl (q_move (v := .int .i64 ((i3 : Nat) : Int)) rfl (by kernel_rfl)) ?_
      refine va rfl rfl rfl (q_ixn (i := i3) Tryz.underlying67 Tryz.sizeOf115 rfl rfl rfl hl8 (hl.some_ hl8)) ?_
      obtain ⟨A9, c10, hx11⟩ := hl.verT_at i3
      refine va rfl rfl rfl (q_lda (c := 0) (vs := [.int .i64 (gt l i3).dot.s, .int .i64 (gt l i3).dot.n, .slice A9 ((gt l i3).past).length c10, .bool (gt l i3).gone, .string (gt l i3).val]) (hx11 hl8).2 rfl Tryz.isAgg115 Tryz.sizeOf115 rfl rfl rfl) ?_
      obtain ⟨z12, hz13, h⟩ := bnd h
      refine vc rfl rfl rfl (q_call (call_run Tryz.call101 rfl rfl (by kernel_rfl)) (fun w hw => t_firthref05_RightOne (Γ := Gh.all w) (gt l i3) (Ver.fits_mono (hx11 hl8).1 hw.sat.le_all) (Sat.all w) hz13)) ?_
      refine va rfl rfl rfl (q_not rfl rfl) ?_
      refine va rfl rfl rfl (q_move (v := .bool (!z12)) rfl (by kernel_rfl)) ?_
      refine vg0 rfl rfl rfl rfl rfl (fun hg14 => QV.qo (q_move (v := .slice Al l.length cl) rfl (by kernel_rfl))) ?_
      refine vg0 rfl rfl rfl rfl rfl (fun hg15 => QV.qo (q_move (v := .slice Al l.length cl) rfl (by kernel_rfl))) ?_
      refine vg0 rfl rfl rfl rfl rfl (fun hg16 => QV.qo (q_move (v := .int .i64 ((i3 : Nat) : Int)) rfl (by kernel_rfl))) ?_
      refine vg0 rfl rfl rfl rfl rfl (fun hg17 => QV.qo (q_ixn (i := i3) Tryz.underlying67 Tryz.sizeOf115 rfl (gu hg17 rfl) (gu hg17 rfl) hl8 (hl.some_ hl8))) ?_
      refine vg0 rfl rfl rfl rfl rfl (fun hg18 => QV.qo (q_field_addr (i3 * 5) fld_115_0 rfl (gu hg18 rfl) (hl.some_ hl8) rfl)) ?_
      refine vg0 rfl rfl rfl rfl rfl (fun hg19 => QV.qo (q_lda (c := 0) (vs := [.int .i64 (gt l i3).dot.s, .int .i64 (gt l i3).dot.n]) (hx11 hl8).2 rfl Tryz.isAgg112 Tryz.sizeOf112 (gu hg19 rfl) rfl rfl)) ?_
      obtain ⟨z21, hz22, h⟩ := bnd h
      refine vg0 rfl rfl rfl rfl rfl (fun hg20 => (q_call (call_run Tryz.call102 rfl rfl (args2 (gu hg20 rfl) (gu hg20 rfl))) (fun w hw => t_firthref05_Behind (Γ := Gh.all w) (hl.mono hw.sat.le_all) hlc ((gt l i3).dot) ⟨(hx11 hl8).1.1, (hx11 hl8).1.2.1⟩ (Sat.all w) (gc_of hz22 hg20)))) ?_
      refine va rfl rfl rfl (q_pick rfl rfl (pk_or' (g := (!z12)) (y := z21))) ?_
      refine WR.nil ?_
      change WC _ _ _ _ _ _
      refine WC.cif h (by kernel_rfl) (fun hb23 h => ?_) (fun hb23 h => ?_)
      · skip
        refine WC.rs ?_
        refine va rfl rfl rfl (q_assign (v := .bool false) rfl (by kernel_rfl)) ?_
        refine WR.nil ?_
        change WC _ _ _ _ _ _
        refine WC.ret ?_
        intro w hw
        obtain rfl := Option.some.inj h
        subst hF
        exact ⟨by kernel_rfl, hw.fr⟩
      · skip
        refine WC.skip ?_
        change WC _ _ _ _ _ _
        refine WC.seq ?_
        refine WC.dr (by kernel_rfl) (by kernel_rfl) (fun w hw => hw.drawn _) ?_
        refine wa rfl rfl rfl (q_move (v := .int .i64 ((i3 : Nat) : Int)) rfl (by kernel_rfl)) ?_
        refine wa rfl rfl rfl (q_gtr rfl rfl rfl) ?_
        refine wa rfl rfl rfl (q_move (v := .bool (decide (0 < ((i3 : Nat) : Int)))) rfl (by kernel_rfl)) ?_
        refine wg1 rfl rfl rfl rfl rfl (fun hg24 => QV.qo (q_move (v := .slice Al l.length cl) rfl (by kernel_rfl))) ?_
        refine wg1 rfl rfl rfl rfl rfl (fun hg25 => QV.qo (q_move (v := .int .i64 ((i3 : Nat) : Int)) rfl (by kernel_rfl))) ?_
        refine wg1 rfl rfl rfl rfl rfl (fun hg26 => QV.qo (q_sub rfl (gu hg26 rfl) rfl)) ?_
        obtain ⟨hk28, h⟩ := chk_some h
        refine wg1 rfl rfl rfl rfl rfl (fun hg27 => QV.qo (q_ix Tryz.underlying67 Tryz.sizeOf115 rfl (gu hg27 rfl) (gu hg27 rfl) (imp_of hk28 hg27) (hl.some_ (inb_lt (imp_of hk28 hg27))))) ?_
        refine wg1 rfl rfl rfl rfl rfl (fun hg29 => QV.qo (q_field_addr (((w64 (((i3 : Nat) : Int) - 1)).toNat) * 5) fld_115_0 rfl (gu hg29 rfl) (hl.some_ (inb_lt (imp_of hk28 hg29))) rfl)) ?_
        obtain ⟨A31, c32, hx33⟩ := hl.verT_at ((w64 (((i3 : Nat) : Int) - 1)).toNat)
        refine wg1 rfl rfl rfl rfl rfl (fun hg30 => QV.qo (q_lda (c := 0) (vs := [.int .i64 (gt l ((w64 (((i3 : Nat) : Int) - 1)).toNat)).dot.s, .int .i64 (gt l ((w64 (((i3 : Nat) : Int) - 1)).toNat)).dot.n]) (hx33 (inb_lt (imp_of hk28 hg30))).2 rfl Tryz.isAgg112 Tryz.sizeOf112 (gu hg30 rfl) rfl rfl)) ?_
        refine wg1 rfl rfl rfl rfl rfl (fun hg34 => QV.qo (q_move (v := .slice Al l.length cl) rfl (by kernel_rfl))) ?_
        refine wg1 rfl rfl rfl rfl rfl (fun hg35 => QV.qo (q_move (v := .int .i64 ((i3 : Nat) : Int)) rfl (by kernel_rfl))) ?_
        refine wg1 rfl rfl rfl rfl rfl (fun hg36 => QV.qo (q_ixn (i := i3) Tryz.underlying67 Tryz.sizeOf115 rfl (gu hg36 rfl) (gu hg36 rfl) hl8 (hl.some_ hl8))) ?_
        refine wg1 rfl rfl rfl rfl rfl (fun hg37 => QV.qo (q_field_addr (i3 * 5) fld_115_0 rfl (gu hg37 rfl) (hl.some_ hl8) rfl)) ?_
        refine wg1 rfl rfl rfl rfl rfl (fun hg38 => QV.qo (q_lda (c := 0) (vs := [.int .i64 (gt l i3).dot.s, .int .i64 (gt l i3).dot.n]) (hx11 hl8).2 rfl Tryz.isAgg112 Tryz.sizeOf112 (gu hg38 rfl) rfl rfl)) ?_
        obtain ⟨z40, hz41, h⟩ := bnd h
        refine wg1 rfl rfl rfl rfl rfl (fun hg39 => (q_call (call_run Tryz.call103 rfl rfl (args2 (gu hg39 rfl) (gu hg39 rfl))) (fun w hw => t_firthref05_Less (Γ := Gh.all w) ((gt l ((w64 (((i3 : Nat) : Int) - 1)).toNat)).dot) ⟨(hx33 (inb_lt (imp_of hk28 hg39))).1.1, (hx33 (inb_lt (imp_of hk28 hg39))).1.2.1⟩ ((gt l i3).dot) ⟨(hx11 hl8).1.1, (hx11 hl8).1.2.1⟩ (Sat.all w) (gc_of hz41 hg39)))) ?_
        refine wg1 rfl rfl rfl rfl rfl (fun hg42 => QV.qo (q_not rfl (gu hg42 rfl))) ?_
        refine wa rfl rfl rfl (q_pick rfl rfl (pk_and' (g := (decide (0 < ((i3 : Nat) : Int)))) (y := (!z40)))) ?_
        refine WQ.nil ?_
        change WC _ _ _ _ _ _
        refine WC.cif h (by kernel_rfl) (fun hb43 h => ?_) (fun hb43 h => ?_)
        · skip
          refine WC.rs ?_
          refine va rfl rfl rfl (q_assign (v := .bool false) rfl (by kernel_rfl)) ?_
          refine WR.nil ?_
          change WC _ _ _ _ _ _
          refine WC.ret ?_
          intro w hw
          obtain rfl := Option.some.inj h
          subst hF
          exact ⟨by kernel_rfl, hw.fr⟩
        · skip
          refine WC.skip ?_
          change WC _ _ _ _ _ _
          refine WC.region ?_
          refine va rfl rfl rfl (q_move (v := .int .i64 ((i3 : Nat) : Int)) rfl (by kernel_rfl)) ?_
          refine va rfl rfl rfl (q_add_r (r := ((i3 + 1 : Nat) : Int)) rfl rfl rfl (ctr_len hl8 hl.le)) ?_
          refine va rfl rfl rfl (q_assign (v := .int .i64 ((i3 + 1 : Nat) : Int)) rfl (by kernel_rfl)) ?_
          refine WR.nil ?_
          intro w hw
          exact ⟨hl8, (), h, (sl_ (by kernel_rfl)), hw, trivial⟩
    · skip
      have h := hge6 (ige hb7)
      refine WC.exit ?_
      change WC _ _ _ _ _ _
      refine WC.rs ?_
      refine va rfl rfl rfl (q_assign (v := .bool true) rfl (by kernel_rfl)) ?_
      refine WR.nil ?_
      change WC _ _ _ _ _ _
      refine WC.ret ?_
      intro w hw
      obtain rfl := Option.some.inj h
      subst hF
      exact ⟨by kernel_rfl, hw.fr⟩
set_option maxRecDepth 100000 in
set_option maxHeartbeats 400000 in
theorem t_firthref06_RightRec {Γ : Gh} {w0 : World} {Ar_1 : Option Addr} {cr_1 : Nat} (r_ : Rec) (hr_ : Rec.fits Γ Ar_1 cr_1 r_) (hs : Sat Γ w0) {r : Bool} (h : m_firthref06_RightRec r_ = some r) : Calls Tryz.prog 67 #[.agg #[.string r_.key, .slice Ar_1 r_.vers.length cr_1]] w0 (fun e w' => e = .returned (.bool r) ∧ Fr no w0 w') := by
  refine calls_of (N := 17) (rs := [2]) (args := [.agg #[.string r_.key, .slice Ar_1 r_.vers.length cr_1]]) Tryz.func67 rfl Tryz.ntmps67 Tryz.results67 rfl ?_
  obtain ⟨F, hF⟩ : ∃ F : Fm, F = ⟨no, w0, Γ⟩ := ⟨_, rfl⟩
  refine WC.here (C := CC F Γ []) ?_ (hF ▸ Cur.start0 hs)
  refine WC.rs ?_
  refine e_box (v := .agg #[.string r_.key, .slice Ar_1 r_.vers.length cr_1]) rfl rfl rfl rfl (by kernel_rfl) ?_
  intro g1
  refine va rfl rfl rfl (q_assign (v := .bool false) rfl (by kernel_rfl)) ?_
  refine WR.nil ?_
  change WC _ _ _ _ _ _
  refine WC.rs ?_
  refine va rfl rfl rfl (q_fl 0 fld_70_0 rfl rfl rfl) ?_
  refine va rfl rfl rfl (q_ldl (i := 0) (v := .string r_.key) rfl rfl Tryz.isAgg9 rfl rfl) ?_
  refine va rfl rfl rfl (q_sneq rfl rfl rfl) ?_
  refine va rfl rfl rfl (q_move (v := .bool (r_.key != ByteArray.empty)) rfl (by kernel_rfl)) ?_
  refine vg1 rfl rfl rfl rfl rfl (fun hg2 => QV.qo (q_fl 0 fld_70_0 rfl rfl rfl)) ?_
  refine vg1 rfl rfl rfl rfl rfl (fun hg3 => QV.qo (q_ldl (i := 0) (v := .string r_.key) rfl rfl Tryz.isAgg9 (gu hg3 rfl) rfl)) ?_
  refine vg1 rfl rfl rfl rfl rfl (fun hg4 => QV.qo (q_len_str rfl Tryz.underlying9 (gu hg4 rfl))) ?_
  refine vg1 rfl rfl rfl rfl rfl (fun hg5 => QV.qo (q_leq rfl (gu hg5 rfl) rfl)) ?_
  refine va rfl rfl rfl (q_pick rfl rfl (pk_and' (g := (r_.key != ByteArray.empty)) (y := (decide (((r_.key.size : Nat) : Int) ≤ 32))))) ?_
  refine va rfl rfl rfl (q_move (v := .bool ((r_.key != ByteArray.empty) && (decide (((r_.key.size : Nat) : Int) ≤ 32)))) rfl (by kernel_rfl)) ?_
  refine vg1 rfl rfl rfl rfl rfl (fun hg6 => QV.qo (q_fl 1 fld_70_1 rfl rfl rfl)) ?_
  refine vg1 rfl rfl rfl rfl rfl (fun hg7 => QV.qo (q_ldl (i := 0) (v := .slice Ar_1 r_.vers.length cr_1) rfl rfl Tryz.isAgg67 (gu hg7 rfl) rfl)) ?_
  obtain ⟨z9, hz10, h⟩ := bnd h
  refine vg1 rfl rfl rfl rfl rfl (fun hg8 => (q_call (call_run Tryz.call87 rfl rfl (args1 (gu hg8 rfl))) (fun w hw => t_firthref05_Right (Γ := Gh.all w) (hr_.2.2.mono hw.sat.le_all) hr_.2.1 (Sat.all w) (gc_of hz10 hg8)))) ?_
  refine va rfl rfl rfl (q_pick rfl rfl (pk_and' (g := ((r_.key != ByteArray.empty) && (decide (((r_.key.size : Nat) : Int) ≤ 32)))) (y := z9))) ?_
  refine va rfl rfl rfl (q_assign (v := .bool (((r_.key != ByteArray.empty) && (decide (((r_.key.size : Nat) : Int) ≤ 32))) && z9)) rfl (by kernel_rfl)) ?_
  refine WR.nil ?_
  change WC _ _ _ _ _ _
  refine WC.ret ?_
  intro w hw
  obtain rfl := Option.some.inj h
  subst hF
  exact ⟨by kernel_rfl, hw.fr⟩
abbrev r_firthref10_With (r : List Rec) (U : List Rowb) (Γ : Gh) (v : Value) : Prop := ∃ (A0 : Option Addr), ∃ (c0 : Nat), ∃ (row0 : Rowb), v = .slice A0 r.length c0 ∧ U = [row0] ∧ Own recT Γ 70 row0 A0 c0 r ∧ True
set_option maxRecDepth 100000 in
set_option maxHeartbeats 400000 in
theorem t_firthref10_With {Γ : Gh} {w0 : World} {Al : Option Addr} {cl : Nat} {l : List Rec} (hl : Sl recT Γ Al l) (hlc : l.length ≤ cl) {Ar_1 : Option Addr} {cr_1 : Nat} (r_ : Rec) (hr_ : Rec.fits Γ Ar_1 cr_1 r_) (hp : Pre [] Γ w0) {r : List Rec} (h : m_firthref10_With l r_ = some r) : Calls Tryz.prog 40 #[.slice Al l.length cl, .agg #[.string r_.key, .slice Ar_1 r_.vers.length cr_1]] w0 (Outc Γ [] w0 (r_firthref10_With r)) := by
  refine calls_of (N := 56) (rs := [4]) (args := [.slice Al l.length cl, .agg #[.string r_.key, .slice Ar_1 r_.vers.length cr_1]]) Tryz.func40 rfl Tryz.ntmps40 Tryz.results40 rfl ?_
  obtain ⟨F, hF⟩ : ∃ F : Fm, F = ⟨ids [], w0, Γ⟩ := ⟨_, rfl⟩
  refine WC.here (C := CC F Γ []) ?_ (hF ▸ hp.start)
  refine WC.rs ?_
  refine e_box (v := .agg #[.string r_.key, .slice Ar_1 r_.vers.length cr_1]) rfl rfl rfl rfl (by kernel_rfl) ?_
  intro g1
  refine va rfl rfl rfl (q_assign (v := .slice none 0 0) rfl (by kernel_rfl)) ?_
  refine WR.nil ?_
  change WC _ _ _ _ _ _
  refine WC.rs ?_
  refine va rfl rfl rfl (q_assign (v := .slice none 0 0) rfl (by kernel_rfl)) ?_
  refine WR.nil ?_
  change WC _ _ _ _ _ _
  refine WC.rs ?_
  refine va rfl rfl rfl (q_fl 1 fld_70_1 rfl rfl rfl) ?_
  refine va rfl rfl rfl (q_ldl (i := 0) (v := .slice Ar_1 r_.vers.length cr_1) rfl rfl Tryz.isAgg67 rfl rfl) ?_
  refine va rfl rfl rfl (q_len_slice rfl Tryz.underlying67 rfl) ?_
  refine va rfl rfl rfl (q_eql rfl rfl rfl) ?_
  refine va rfl rfl rfl (q_assign (v := .bool (((r_.vers.length : Nat) : Int) == 0)) rfl (by kernel_rfl)) ?_
  refine WR.nil ?_
  change WC _ _ _ _ _ _
  refine WC.seq ?_
  refine WC.rs ?_
  refine va rfl rfl rfl (q_assign (v := .int .i64 0) rfl (by kernel_rfl)) ?_
  refine WR.nil ?_
  change WC _ _ _ _ _ _
  refine WC.block ?_
  refine WC.forI h (fun (i9 : Nat) (s : (List Rec) × Bool) σ w => match s with | (out_2, laid_7) => ∃ (A3 : Option Addr), ∃ (c4 : Nat), ∃ (row5 : Rowb), slots σ [(0, .slice Al l.length cl), (3, .pointer (some ⟨g1, 0, none⟩)), (5, .slice A3 out_2.length c4), (6, .bool laid_7), (7, .int .i64 ((i9 : Nat) : Int))] ∧ CC F Γ [row5, [(g1, .cells #[.string r_.key, .slice Ar_1 r_.vers.length cr_1] 70 (0, 0))]] w ∧ Own recT Γ 70 row5 A3 c4 out_2 ∧ True) ?_ ?_
  · skip
    intro w hw
    have hw := hw.pad
    exact ⟨none, 0, [], (sl_ (by kernel_rfl)), hw, (Own.nil recT _ 70), trivial⟩
  rintro f8 i9 ⟨out_2, laid_7⟩ σ w hi10 hlt11 hge12 ⟨A3, c4, row5, hsl, hw, ho6, -⟩
  refine Wpt.slots hsl ?_
  refine WC.here (C := CC F Γ [row5, [(g1, .cells #[.string r_.key, .slice Ar_1 r_.vers.length cr_1] 70 (0, 0))]]) ?_ hw
  clear hw hsl
  refine WC.seq ?_
  refine WC.rs ?_
  refine va rfl rfl rfl (q_move (v := .int .i64 ((i9 : Nat) : Int)) rfl (by kernel_rfl)) ?_
  refine va rfl rfl rfl (q_move (v := .slice Al l.length cl) rfl (by kernel_rfl)) ?_
  refine va rfl rfl rfl (q_len_slice rfl Tryz.underlying23 rfl) ?_
  refine va rfl rfl rfl (q_lss rfl rfl rfl) ?_
  refine WR.nil ?_
  change WC _ _ _ _ _ _
  refine WC.cond (b := (decide (((i9 : Nat) : Int) < ((l.length : Nat) : Int)))) (by kernel_rfl) (fun hb13 => ?_) (fun hb13 => ?_)
  · skip
    have hl14 := ilt hb13
    have h := hlt11 hl14
    refine WC.skip ?_
    change WC _ _ _ _ _ _
    refine WC.cut (fun σ w => ∃ (out_15 : List Rec), ∃ (laid_20 : Bool), ∃ (A16 : Option Addr), ∃ (c17 : Nat), ∃ (row18 : Rowb), m_firthref10_With_j11 f8 out_15 laid_20 = some r ∧ slots σ [(0, .slice Al l.length cl), (3, .pointer (some ⟨g1, 0, none⟩)), (5, .slice A16 out_15.length c17), (6, .bool laid_20), (7, .int .i64 ((i9 : Nat) : Int))] ∧ CC F Γ [row18, [(g1, .cells #[.string r_.key, .slice Ar_1 r_.vers.length cr_1] 70 (0, 0))]] w ∧ Own recT Γ 70 row18 A16 c17 out_15 ∧ True) ?_ ?_
    · skip
      refine WC.block ?_
      refine WC.seq ?_
      refine WC.seq ?_
      refine WC.dr (by kernel_rfl) (by kernel_rfl) (fun w hw => hw.drawn _) ?_
      refine wa rfl rfl rfl (q_move (v := .slice Al l.length cl) rfl (by kernel_rfl)) ?_
      refine wa rfl rfl rfl (q_move (v := .int .i64 ((i9 : Nat) : Int)) rfl (by kernel_rfl)) ?_
      refine wa rfl rfl rfl (q_ixn (i := i9) Tryz.underlying23 Tryz.sizeOf70 rfl rfl rfl hl14 (hl.some_ hl14)) ?_
      refine wa rfl rfl rfl (q_field_addr (i9 * 2) fld_70_0 rfl rfl (hl.some_ hl14) rfl) ?_
      obtain ⟨A21, c22, hx23⟩ := hl.recT_at i9
      refine wa rfl rfl rfl (q_ld (c := 0) (v := .string (gt l i9).key) (hx23 hl14).2 rfl Tryz.isAgg9 rfl rfl) ?_
      refine wa rfl rfl rfl (q_fl 0 fld_70_0 rfl rfl rfl) ?_
      refine wa rfl rfl rfl (q_ldl (i := 1) (v := .string r_.key) rfl rfl Tryz.isAgg9 rfl rfl) ?_
      refine wa rfl rfl rfl (q_seql rfl rfl rfl) ?_
      refine WQ.nil ?_
      change WC _ _ _ _ _ _
      refine WC.cif h (by kernel_rfl) (fun hb24 h => ?_) (fun hb24 h => ?_)
      · skip
        refine WC.exit ?_
        intro w hw
        exact ⟨out_2, laid_7, A3, c4, row5, h, (sl_ (by kernel_rfl)), hw, ho6, trivial⟩
      · skip
        refine WC.skip ?_
        change WC _ _ _ _ _ _
        refine WC.cut (fun σ w => ∃ (out_25 : List Rec), ∃ (laid_30 : Bool), ∃ (A26 : Option Addr), ∃ (c27 : Nat), ∃ (row28 : Rowb), m_firthref10_With_j13 l f8 i9 out_25 laid_30 = some r ∧ slots σ [(0, .slice Al l.length cl), (3, .pointer (some ⟨g1, 0, none⟩)), (5, .slice A26 out_25.length c27), (6, .bool laid_30), (7, .int .i64 ((i9 : Nat) : Int))] ∧ CC F Γ [row28, [(g1, .cells #[.string r_.key, .slice Ar_1 r_.vers.length cr_1] 70 (0, 0))]] w ∧ Own recT Γ 70 row28 A26 c27 out_25 ∧ True) ?_ ?_
        · skip
          refine WC.seq ?_
          refine WC.dr (by kernel_rfl) (by kernel_rfl) (fun w hw => hw.drawn _) ?_
          refine wa rfl rfl rfl (q_move (v := .bool laid_7) rfl (by kernel_rfl)) ?_
          refine wa rfl rfl rfl (q_not rfl rfl) ?_
          refine wa rfl rfl rfl (q_move (v := .bool (!laid_7)) rfl (by kernel_rfl)) ?_
          refine wg1 rfl rfl rfl rfl rfl (fun hg31 => QV.qo (q_fl 0 fld_70_0 rfl rfl rfl)) ?_
          refine wg1 rfl rfl rfl rfl rfl (fun hg32 => QV.qo (q_ldl (i := 1) (v := .string r_.key) rfl rfl Tryz.isAgg9 (gu hg32 rfl) rfl)) ?_
          refine wg1 rfl rfl rfl rfl rfl (fun hg33 => QV.qo (q_move (v := .slice Al l.length cl) rfl (by kernel_rfl))) ?_
          refine wg1 rfl rfl rfl rfl rfl (fun hg34 => QV.qo (q_move (v := .int .i64 ((i9 : Nat) : Int)) rfl (by kernel_rfl))) ?_
          refine wg1 rfl rfl rfl rfl rfl (fun hg35 => QV.qo (q_ixn (i := i9) Tryz.underlying23 Tryz.sizeOf70 rfl (gu hg35 rfl) (gu hg35 rfl) hl14 (hl.some_ hl14))) ?_
          refine wg1 rfl rfl rfl rfl rfl (fun hg36 => QV.qo (q_field_addr (i9 * 2) fld_70_0 rfl (gu hg36 rfl) (hl.some_ hl14) rfl)) ?_
          refine wg1 rfl rfl rfl rfl rfl (fun hg37 => QV.qo (q_ld (c := 0) (v := .string (gt l i9).key) (hx23 hl14).2 rfl Tryz.isAgg9 (gu hg37 rfl) rfl)) ?_
          refine wg1 rfl rfl rfl rfl rfl (fun hg38 => QV.qo (q_slss rfl (gu hg38 rfl) (gu hg38 rfl))) ?_
          refine wa rfl rfl rfl (q_pick rfl rfl (pk_and' (g := (!laid_7)) (y := (strLt r_.key ((gt l i9).key))))) ?_
          refine WQ.nil ?_
          change WC _ _ _ _ _ _
          refine WC.cif h (by kernel_rfl) (fun hb39 h => ?_) (fun hb39 h => ?_)
          · skip
            refine WC.rs ?_
            refine va rfl rfl rfl (q_move (v := .slice A3 out_2.length c4) rfl (by kernel_rfl)) ?_
            refine va rfl rfl rfl (q_ldla (i := 1) (vs := [.string r_.key, .slice Ar_1 r_.vers.length cr_1]) rfl rfl Tryz.isAgg70 Tryz.sizeOf70 rfl rfl) ?_
            refine e_buildSlice (cs := #[.string r_.key, .slice Ar_1 r_.vers.length cr_1]) (e := 70) rfl rfl rfl rfl (fun w => by kernel_rfl) ?_
            intro g40
            obtain ⟨hk41, h⟩ := chk_some h
            refine e_append (T := recT) (xs := out_2) (ys := [r_]) elem_23 (i := 1) rfl rfl rfl rfl rfl rfl rfl ho6 (of_decide_eq_true hk41) (fun w hw => src_one (T := recT) (y := r_) (i := 0) rfl (by exact ⟨Ar_1, cr_1, rfl, hr_⟩) hw) ?_
            intro row42 A43 c44 ho45
            refine va rfl rfl rfl (q_assign (v := .slice A43 (out_2 ++ [r_]).length c44) rfl (by kernel_rfl)) ?_
            refine WR.nil ?_
            change WC _ _ _ _ _ _
            refine WC.region ?_
            refine va rfl rfl rfl (q_assign (v := .bool true) rfl (by kernel_rfl)) ?_
            refine WR.nil ?_
            intro w hw
            exact ⟨(out_2 ++ [r_]), true, A43, c44, row42, h, (sl_ (by kernel_rfl)), (hw.only (is := [1, 1]) rfl), ho45, trivial⟩
          · skip
            refine WC.skip ?_
            intro w hw
            exact ⟨out_2, laid_7, A3, c4, row5, h, (sl_ (by kernel_rfl)), hw, ho6, trivial⟩
        · skip
          rintro σ w ⟨out_25, laid_30, A26, c27, row28, h, hsl, hw, ho29, -⟩
          refine Wpt.slots hsl ?_
          refine WC.here (C := CC F Γ [row28, [(g1, .cells #[.string r_.key, .slice Ar_1 r_.vers.length cr_1] 70 (0, 0))]]) ?_ hw
          clear hw hsl
          refine WC.region ?_
          refine va rfl rfl rfl (q_move (v := .slice A26 out_25.length c27) rfl (by kernel_rfl)) ?_
          refine va rfl rfl rfl (q_move (v := .slice Al l.length cl) rfl (by kernel_rfl)) ?_
          refine va rfl rfl rfl (q_move (v := .int .i64 ((i9 : Nat) : Int)) rfl (by kernel_rfl)) ?_
          refine va rfl rfl rfl (q_ixn (i := i9) Tryz.underlying23 Tryz.sizeOf70 rfl rfl rfl hl14 (hl.some_ hl14)) ?_
          obtain ⟨A46, c47, hx48⟩ := hl.recT_at i9
          refine va rfl rfl rfl (q_lda (c := 0) (vs := [.string (gt l i9).key, .slice A46 ((gt l i9).vers).length c47]) (hx48 hl14).2 rfl Tryz.isAgg70 Tryz.sizeOf70 rfl rfl rfl) ?_
          refine e_buildSlice (cs := #[.string (gt l i9).key, .slice A46 ((gt l i9).vers).length c47]) (e := 70) rfl rfl rfl rfl (fun w => by kernel_rfl) ?_
          intro g49
          obtain ⟨hk50, h⟩ := chk_some h
          refine e_append (T := recT) (xs := out_25) (ys := [(gt l i9)]) elem_23 (i := 1) rfl rfl rfl rfl rfl rfl rfl ho29 (of_decide_eq_true hk50) (fun w hw => src_one (T := recT) (y := (gt l i9)) (i := 0) rfl (by exact ⟨A46, c47, rfl, (hx48 hl14).1⟩) hw) ?_
          intro row51 A52 c53 ho54
          refine va rfl rfl rfl (q_assign (v := .slice A52 (out_25 ++ [(gt l i9)]).length c53) rfl (by kernel_rfl)) ?_
          refine WR.nil ?_
          intro w hw
          exact ⟨(out_25 ++ [(gt l i9)]), laid_30, A52, c53, row51, h, (sl_ (by kernel_rfl)), (hw.only (is := [1, 1]) rfl), ho54, trivial⟩
    · skip
      rintro σ w ⟨out_15, laid_20, A16, c17, row18, h, hsl, hw, ho19, -⟩
      refine Wpt.slots hsl ?_
      refine WC.here (C := CC F Γ [row18, [(g1, .cells #[.string r_.key, .slice Ar_1 r_.vers.length cr_1] 70 (0, 0))]]) ?_ hw
      clear hw hsl
      refine WC.region ?_
      refine va rfl rfl rfl (q_move (v := .int .i64 ((i9 : Nat) : Int)) rfl (by kernel_rfl)) ?_
      refine va rfl rfl rfl (q_add_r (r := ((i9 + 1 : Nat) : Int)) rfl rfl rfl (ctr_len hl14 hl.le)) ?_
      refine va rfl rfl rfl (q_assign (v := .int .i64 ((i9 + 1 : Nat) : Int)) rfl (by kernel_rfl)) ?_
      refine WR.nil ?_
      intro w hw
      exact ⟨hl14, (out_15, laid_20), h, A16, c17, row18, (sl_ (by kernel_rfl)), hw, ho19, trivial⟩
  · skip
    have h := hge12 (ige hb13)
    refine WC.exit ?_
    change WC _ _ _ _ _ _
    refine WC.seq ?_
    refine WC.rs ?_
    refine va rfl rfl rfl (q_move (v := .bool laid_7) rfl (by kernel_rfl)) ?_
    refine va rfl rfl rfl (q_not rfl rfl) ?_
    refine WR.nil ?_
    change WC _ _ _ _ _ _
    refine WC.cif h (by kernel_rfl) (fun hb55 h => ?_) (fun hb55 h => ?_)
    · skip
      refine WC.region ?_
      refine va rfl rfl rfl (q_move (v := .slice A3 out_2.length c4) rfl (by kernel_rfl)) ?_
      refine va rfl rfl rfl (q_ldla (i := 1) (vs := [.string r_.key, .slice Ar_1 r_.vers.length cr_1]) rfl rfl Tryz.isAgg70 Tryz.sizeOf70 rfl rfl) ?_
      refine e_buildSlice (cs := #[.string r_.key, .slice Ar_1 r_.vers.length cr_1]) (e := 70) rfl rfl rfl rfl (fun w => by kernel_rfl) ?_
      intro g56
      obtain ⟨hk57, h⟩ := chk_some h
      refine e_append (T := recT) (xs := out_2) (ys := [r_]) elem_23 (i := 1) rfl rfl rfl rfl rfl rfl rfl ho6 (of_decide_eq_true hk57) (fun w hw => src_one (T := recT) (y := r_) (i := 0) rfl (by exact ⟨Ar_1, cr_1, rfl, hr_⟩) hw) ?_
      intro row58 A59 c60 ho61
      refine va rfl rfl rfl (q_assign (v := .slice A59 (out_2 ++ [r_]).length c60) rfl (by kernel_rfl)) ?_
      refine WR.nil ?_
      change WC _ _ _ _ _ _
      refine WC.rs ?_
      refine va rfl rfl rfl (q_move (v := .slice A59 (out_2 ++ [r_]).length c60) rfl (by kernel_rfl)) ?_
      refine va rfl rfl rfl (q_assign (v := .slice A59 (out_2 ++ [r_]).length c60) rfl (by kernel_rfl)) ?_
      refine WR.nil ?_
      change WC _ _ _ _ _ _
      refine WC.ret ?_
      intro w hw
      obtain rfl := Option.some.inj h
      subst hF
      exact end_e (is := [1]) (by kernel_rfl) hw rfl ⟨A59, c60, row58, rfl, rfl, ho61, trivial⟩
    · skip
      refine WC.skip ?_
      change WC _ _ _ _ _ _
      refine WC.rs ?_
      refine va rfl rfl rfl (q_move (v := .slice A3 out_2.length c4) rfl (by kernel_rfl)) ?_
      refine va rfl rfl rfl (q_assign (v := .slice A3 out_2.length c4) rfl (by kernel_rfl)) ?_
      refine WR.nil ?_
      change WC _ _ _ _ _ _
      refine WC.ret ?_
      intro w hw
      obtain rfl := Option.some.inj h
      subst hF
      exact end_e (is := [0]) (by kernel_rfl) hw rfl ⟨A3, c4, row5, rfl, rfl, ho6, trivial⟩
abbrev r_firthref14_Held (r : (List Rec) × Bool) (U : List Rowb) (Γ : Gh) (v : Value) : Prop := ∃ (A0 : Option Addr), ∃ (c0 : Nat), ∃ (row0 : Rowb), v = .tuple #[.slice A0 r.1.length c0, .bool r.2] ∧ U = [row0] ∧ Own recT Γ 70 row0 A0 c0 r.1 ∧ True
set_option maxRecDepth 100000 in
set_option maxHeartbeats 400000 in
theorem t_firthref14_Held {Γ : Gh} {w0 : World} {Al : Option Addr} {cl : Nat} {l : List Rec} (hl : Sl recT Γ Al l) (hlc : l.length ≤ cl) (hp : Pre [] Γ w0) {r : (List Rec) × Bool} (h : m_firthref14_Held l = some r) : Calls Tryz.prog 35 #[.slice Al l.length cl] w0 (Outc Γ [] w0 (r_firthref14_Held r)) := by
  refine calls_of (N := 25) (rs := [2, 3]) (args := [.slice Al l.length cl]) Tryz.func35 rfl Tryz.ntmps35 Tryz.results35 rfl ?_
  obtain ⟨F, hF⟩ : ∃ F : Fm, F = ⟨ids [], w0, Γ⟩ := ⟨_, rfl⟩
  refine WC.here (C := CC F Γ []) ?_ (hF ▸ hp.start)
  refine WC.rs ?_
  refine va rfl rfl rfl (q_assign (v := .slice none 0 0) rfl (by kernel_rfl)) ?_
  refine va rfl rfl rfl (q_assign (v := .bool false) rfl (by kernel_rfl)) ?_
  refine WR.nil ?_
  change WC _ _ _ _ _ _
  refine WC.rs ?_
  refine va rfl rfl rfl (q_assign (v := .slice none 0 0) rfl (by kernel_rfl)) ?_
  refine WR.nil ?_
  change WC _ _ _ _ _ _
  refine WC.seq ?_
  refine WC.rs ?_
  refine va rfl rfl rfl (q_assign (v := .int .i64 0) rfl (by kernel_rfl)) ?_
  refine WR.nil ?_
  change WC _ _ _ _ _ _
  refine WC.block ?_
  refine WC.forI h (fun (i9 : Nat) (out_3 : List Rec) σ w => ∃ (Γ1 : Gh), ∃ (A4 : Option Addr), ∃ (c5 : Nat), ∃ (row6 : Rowb), slots σ [(0, .slice Al l.length cl), (4, .slice A4 out_3.length c5), (5, .int .i64 ((i9 : Nat) : Int))] ∧ CC F Γ1 [row6] w ∧ Gh.le Γ Γ1 ∧ Own recT Γ1 70 row6 A4 c5 out_3 ∧ True) ?_ ?_
  · skip
    intro w hw
    have hw := hw.pad
    exact ⟨Γ, none, 0, [], (sl_ (by kernel_rfl)), hw, (Gh.refl _), (Own.nil recT _ 70), trivial⟩
  rintro f8 i9 out_3 σ w hi10 hlt11 hge12 ⟨Γ1, A4, c5, row6, hsl, hw, hl2, ho7, -⟩
  refine Wpt.slots hsl ?_
  refine WC.here (C := CC F Γ1 [row6]) ?_ hw
  clear hw hsl
  refine WC.seq ?_
  refine WC.rs ?_
  refine va rfl rfl rfl (q_move (v := .int .i64 ((i9 : Nat) : Int)) rfl (by kernel_rfl)) ?_
  refine va rfl rfl rfl (q_move (v := .slice Al l.length cl) rfl (by kernel_rfl)) ?_
  refine va rfl rfl rfl (q_len_slice rfl Tryz.underlying23 rfl) ?_
  refine va rfl rfl rfl (q_lss rfl rfl rfl) ?_
  refine WR.nil ?_
  change WC _ _ _ _ _ _
  refine WC.cond (b := (decide (((i9 : Nat) : Int) < ((l.length : Nat) : Int)))) (by kernel_rfl) (fun hb13 => ?_) (fun hb13 => ?_)
  · skip
    have hl14 := ilt hb13
    have h := hlt11 hl14
    refine WC.skip ?_
    change WC _ _ _ _ _ _
    refine WC.seq ?_
    refine WC.block ?_
    refine WC.seq ?_
    refine WC.rs ?_
    refine va rfl rfl rfl (q_move (v := .slice Al l.length cl) rfl (by kernel_rfl)) ?_
    refine va rfl rfl rfl (q_move (v := .int .i64 ((i9 : Nat) : Int)) rfl (by kernel_rfl)) ?_
    refine va rfl rfl rfl (q_ixn (i := i9) Tryz.underlying23 Tryz.sizeOf70 rfl rfl rfl hl14 ((hl.mono hl2).some_ hl14)) ?_
    obtain ⟨A15, c16, hx17⟩ := (hl.mono hl2).recT_at i9
    refine va rfl rfl rfl (q_lda (c := 0) (vs := [.string (gt l i9).key, .slice A15 ((gt l i9).vers).length c16]) (hx17 hl14).2 rfl Tryz.isAgg70 Tryz.sizeOf70 rfl rfl rfl) ?_
    obtain ⟨z18, hz19, h⟩ := bnd h
    refine vc rfl rfl rfl (q_call (call_run Tryz.call67 rfl rfl (by kernel_rfl)) (fun w hw => t_firthref06_RightRec (Γ := Gh.all w) (gt l i9) (Rec.fits_mono (hx17 hl14).1 hw.sat.le_all) (Sat.all w) hz19)) ?_
    refine va rfl rfl rfl (q_not rfl rfl) ?_
    refine WR.nil ?_
    change WC _ _ _ _ _ _
    refine WC.cif h (by kernel_rfl) (fun hb20 h => ?_) (fun hb20 h => ?_)
    · skip
      refine WC.rs ?_
      refine va rfl rfl rfl (q_assign (v := .slice none 0 0) rfl (by kernel_rfl)) ?_
      refine va rfl rfl rfl (q_assign (v := .bool false) rfl (by kernel_rfl)) ?_
      refine WR.nil ?_
      change WC _ _ _ _ _ _
      refine WC.ret ?_
      intro w hw
      have hw := hw.pad
      obtain rfl := Option.some.inj h
      subst hF
      exact end_e (is := [0]) (by kernel_rfl) hw rfl ⟨none, 0, [], rfl, rfl, (Own.nil recT _ 70), trivial⟩
    · skip
      refine WC.skip ?_
      change WC _ _ _ _ _ _
      refine WC.region ?_
      refine va rfl rfl rfl (q_move (v := .slice A4 out_3.length c5) rfl (by kernel_rfl)) ?_
      refine va rfl rfl rfl (q_move (v := .slice Al l.length cl) rfl (by kernel_rfl)) ?_
      refine va rfl rfl rfl (q_move (v := .int .i64 ((i9 : Nat) : Int)) rfl (by kernel_rfl)) ?_
      refine va rfl rfl rfl (q_ixn (i := i9) Tryz.underlying23 Tryz.sizeOf70 rfl rfl rfl hl14 ((hl.mono hl2).some_ hl14)) ?_
      refine va rfl rfl rfl (q_lda (c := 0) (vs := [.string (gt l i9).key, .slice A15 ((gt l i9).vers).length c16]) (hx17 hl14).2 rfl Tryz.isAgg70 Tryz.sizeOf70 rfl rfl rfl) ?_
      have hc25 := ho7.capz
      intro w hw; obtain ⟨Γ21, hw, hl22, hr23⟩ := hw.seal (i := 0) rfl; have hs24 := ho7.sl hl22 hr23
      refine WR.here (C := CC F Γ21 [[]]) ?_ hw
      clear hw
      obtain ⟨z26, hz27, h⟩ := bnd h
      refine e_call (is := []) rfl rfl (call_run Tryz.call40 rfl rfl (by kernel_rfl)) rfl (fun w hp => t_firthref10_With hs24 hc25 (gt l i9) (Rec.fits_mono (hx17 hl14).1 hl22) hp hz27) ?_
      rintro Γ28 U30 v31 hl29 ⟨A32, c33, row34, rfl, rfl, hr35, _⟩
      change WR _ _ _ (CC F Γ28 [row34, []]) _ _ (upd _ 23 (.slice A32 z26.length c33))
      refine va rfl rfl rfl (q_assign (v := .slice A32 z26.length c33) rfl (by kernel_rfl)) ?_
      refine WR.nil ?_
      change WC _ _ _ _ _ _
      refine WC.region ?_
      refine va rfl rfl rfl (q_move (v := .int .i64 ((i9 : Nat) : Int)) rfl (by kernel_rfl)) ?_
      refine va rfl rfl rfl (q_add_r (r := ((i9 + 1 : Nat) : Int)) rfl rfl rfl (ctr_len hl14 (hl.mono hl2).le)) ?_
      refine va rfl rfl rfl (q_assign (v := .int .i64 ((i9 + 1 : Nat) : Int)) rfl (by kernel_rfl)) ?_
      refine WR.nil ?_
      intro w hw
      exact ⟨hl14, z26, h, Γ28, A32, c33, row34, (sl_ (by kernel_rfl)), (hw.only (is := [0]) rfl), ((hl2.trans hl22).trans hl29), hr35, trivial⟩
  · skip
    have h := hge12 (ige hb13)
    refine WC.exit ?_
    change WC _ _ _ _ _ _
    refine WC.rs ?_
    refine va rfl rfl rfl (q_move (v := .slice A4 out_3.length c5) rfl (by kernel_rfl)) ?_
    refine va rfl rfl rfl (q_assign (v := .slice A4 out_3.length c5) rfl (by kernel_rfl)) ?_
    refine va rfl rfl rfl (q_assign (v := .bool true) rfl (by kernel_rfl)) ?_
    refine WR.nil ?_
    change WC _ _ _ _ _ _
    refine WC.ret ?_
    intro w hw
    obtain rfl := Option.some.inj h
    subst hF
    exact end_e (is := [0]) (by kernel_rfl) hw rfl ⟨A4, c5, row6, rfl, rfl, ho7, trivial⟩
abbrev r_firthref14_Get (r : List Ver) (U : List Rowb) (Γ : Gh) (v : Value) : Prop := ∃ (A0 : Option Addr), ∃ (c0 : Nat), v = .slice A0 r.length c0 ∧ U = [] ∧ r.length ≤ c0 ∧ Sl verT Γ A0 r ∧ True
set_option maxRecDepth 100000 in
set_option maxHeartbeats 400000 in
theorem t_firthref14_Get {Γ : Gh} {w0 : World} {Al : Option Addr} {cl : Nat} {l : List Rec} (hl : Sl recT Γ Al l) (hlc : l.length ≤ cl) (key : ByteArray) (hkey : key.size ≤ lim) (hp : Pre [] Γ w0) {r : List Ver} (h : m_firthref14_Get l key = some r) : Calls Tryz.prog 38 #[.slice Al l.length cl, .string key] w0 (Outc Γ [] w0 (r_firthref14_Get r)) := by
  refine calls_of (N := 24) (rs := [4]) (args := [.slice Al l.length cl, .string key]) Tryz.func38 rfl Tryz.ntmps38 Tryz.results38 rfl ?_
  obtain ⟨F, hF⟩ : ∃ F : Fm, F = ⟨ids [], w0, Γ⟩ := ⟨_, rfl⟩
  refine WC.here (C := CC F Γ []) ?_ (hF ▸ hp.start)
  refine WC.rs ?_
  refine va rfl rfl rfl (q_assign (v := .slice none 0 0) rfl (by kernel_rfl)) ?_
  refine WR.nil ?_
  change WC _ _ _ _ _ _
  refine WC.seq ?_
  refine WC.rs ?_
  refine va rfl rfl rfl (q_assign (v := .int .i64 0) rfl (by kernel_rfl)) ?_
  refine WR.nil ?_
  change WC _ _ _ _ _ _
  refine WC.block ?_
  refine WC.forI h (fun (i2 : Nat) (s : Unit) σ w => match s with | () => slots σ [(0, .slice Al l.length cl), (1, .string key), (5, .int .i64 ((i2 : Nat) : Int))] ∧ CC F Γ [] w ∧ True) ?_ ?_
  · skip
    intro w hw
    exact ⟨(sl_ (by kernel_rfl)), hw, trivial⟩
  rintro f1 i2 ⟨⟩ σ w hi3 hlt4 hge5 ⟨hsl, hw, -⟩
  refine Wpt.slots hsl ?_
  refine WC.here (C := CC F Γ []) ?_ hw
  clear hw hsl
  refine WC.seq ?_
  refine WC.rs ?_
  refine va rfl rfl rfl (q_move (v := .int .i64 ((i2 : Nat) : Int)) rfl (by kernel_rfl)) ?_
  refine va rfl rfl rfl (q_move (v := .slice Al l.length cl) rfl (by kernel_rfl)) ?_
  refine va rfl rfl rfl (q_len_slice rfl Tryz.underlying23 rfl) ?_
  refine va rfl rfl rfl (q_lss rfl rfl rfl) ?_
  refine WR.nil ?_
  change WC _ _ _ _ _ _
  refine WC.cond (b := (decide (((i2 : Nat) : Int) < ((l.length : Nat) : Int)))) (by kernel_rfl) (fun hb6 => ?_) (fun hb6 => ?_)
  · skip
    have hl7 := ilt hb6
    have h := hlt4 hl7
    refine WC.skip ?_
    change WC _ _ _ _ _ _
    refine WC.seq ?_
    refine WC.block ?_
    refine WC.rs ?_
    refine va rfl rfl rfl (q_move (v := .slice Al l.length cl) rfl (by kernel_rfl)) ?_
    refine va rfl rfl rfl (q_move (v := .int .i64 ((i2 : Nat) : Int)) rfl (by kernel_rfl)) ?_
    refine va rfl rfl rfl (q_ixn (i := i2) Tryz.underlying23 Tryz.sizeOf70 rfl rfl rfl hl7 (hl.some_ hl7)) ?_
    refine va rfl rfl rfl (q_field_addr (i2 * 2) fld_70_0 rfl rfl (hl.some_ hl7) rfl) ?_
    obtain ⟨A8, c9, hx10⟩ := hl.recT_at i2
    refine va rfl rfl rfl (q_ld (c := 0) (v := .string (gt l i2).key) (hx10 hl7).2 rfl Tryz.isAgg9 rfl rfl) ?_
    refine va rfl rfl rfl (q_move (v := .string key) rfl (by kernel_rfl)) ?_
    refine va rfl rfl rfl (q_seql rfl rfl rfl) ?_
    refine WR.nil ?_
    change WC _ _ _ _ _ _
    refine WC.cif h (by kernel_rfl) (fun hb11 h => ?_) (fun hb11 h => ?_)
    · skip
      refine WC.rs ?_
      refine va rfl rfl rfl (q_move (v := .slice Al l.length cl) rfl (by kernel_rfl)) ?_
      refine va rfl rfl rfl (q_move (v := .int .i64 ((i2 : Nat) : Int)) rfl (by kernel_rfl)) ?_
      refine va rfl rfl rfl (q_ixn (i := i2) Tryz.underlying23 Tryz.sizeOf70 rfl rfl rfl hl7 (hl.some_ hl7)) ?_
      refine va rfl rfl rfl (q_field_addr (i2 * 2 + 1) fld_70_1 rfl rfl (hl.some_ hl7) rfl) ?_
      refine va rfl rfl rfl (q_ld (c := 1) (v := .slice A8 ((gt l i2).vers).length c9) (hx10 hl7).2 rfl Tryz.isAgg67 rfl rfl) ?_
      refine va rfl rfl rfl (q_assign (v := .slice A8 ((gt l i2).vers).length c9) rfl (by kernel_rfl)) ?_
      refine WR.nil ?_
      change WC _ _ _ _ _ _
      refine WC.ret ?_
      intro w hw
      obtain rfl := Option.some.inj h
      subst hF
      exact end_e (is := []) (by kernel_rfl) hw rfl ⟨A8, c9, rfl, rfl, (hx10 hl7).1.2.1, (hx10 hl7).1.2.2, trivial⟩
    · skip
      refine WC.skip ?_
      change WC _ _ _ _ _ _
      refine WC.region ?_
      refine va rfl rfl rfl (q_move (v := .int .i64 ((i2 : Nat) : Int)) rfl (by kernel_rfl)) ?_
      refine va rfl rfl rfl (q_add_r (r := ((i2 + 1 : Nat) : Int)) rfl rfl rfl (ctr_len hl7 hl.le)) ?_
      refine va rfl rfl rfl (q_assign (v := .int .i64 ((i2 + 1 : Nat) : Int)) rfl (by kernel_rfl)) ?_
      refine WR.nil ?_
      intro w hw
      exact ⟨hl7, (), h, (sl_ (by kernel_rfl)), hw, trivial⟩
  · skip
    have h := hge5 (ige hb6)
    refine WC.exit ?_
    change WC _ _ _ _ _ _
    refine WC.rs ?_
    refine va rfl rfl rfl (q_assign (v := .slice none 0 0) rfl (by kernel_rfl)) ?_
    refine WR.nil ?_
    change WC _ _ _ _ _ _
    refine WC.ret ?_
    intro w hw
    obtain rfl := Option.some.inj h
    subst hF
    exact end_e (is := []) (by kernel_rfl) hw rfl ⟨none, 0, rfl, rfl, (Nat.zero_le 0), (Sl.nil verT _ none), trivial⟩
set_option maxRecDepth 100000 in
set_option maxHeartbeats 400000 in
theorem t_firthlaw19_PullKeeps {Γ : Gh} {w0 : World} {Aown : Option Addr} {cown : Nat} {own : List Rec} (hown : Sl recT Γ Aown own) (hownc : own.length ≤ cown) {Acut : Option Addr} {ccut : Nat} {cut : List Rec} (hcut : Sl recT Γ Acut cut) (hcutc : cut.length ≤ ccut) (hs : Sat Γ w0) {r : Bool} (h : m_firthlaw19_PullKeeps own cut = some r) : Calls Tryz.prog 9 #[.slice Aown own.length cown, .slice Acut cut.length ccut] w0 (fun e w' => e = .returned (.bool r) ∧ Fr no w0 w') := by
  refine calls_of (N := 183) (rs := [4]) (args := [.slice Aown own.length cown, .slice Acut cut.length ccut]) Tryz.func9 rfl Tryz.ntmps9 Tryz.results9 rfl ?_
  obtain ⟨F, hF⟩ : ∃ F : Fm, F = ⟨no, w0, Γ⟩ := ⟨_, rfl⟩
  refine WC.here (C := CC F Γ []) ?_ (hF ▸ Cur.start0 hs)
  refine WC.rs ?_
  refine va rfl rfl rfl (q_assign (v := .bool false) rfl (by kernel_rfl)) ?_
  refine WR.nil ?_
  change WC _ _ _ _ _ _
  refine WC.seq ?_
  refine WC.rs ?_
  obtain ⟨z1, hz2, h⟩ := bnd h
  refine vc rfl rfl rfl (q_call (call_run Tryz.call12 rfl rfl (by kernel_rfl)) (fun w hw => t_firthlaw19_awake (Γ := Gh.all w)  (Sat.all w) hz2)) ?_
  refine va rfl rfl rfl (q_not rfl rfl) ?_
  refine WR.nil ?_
  change WC _ _ _ _ _ _
  refine WC.cif h (by kernel_rfl) (fun hb3 h => ?_) (fun hb3 h => ?_)
  · skip
    refine WC.rs ?_
    refine va rfl rfl rfl (q_assign (v := .bool false) rfl (by kernel_rfl)) ?_
    refine WR.nil ?_
    change WC _ _ _ _ _ _
    refine WC.ret ?_
    intro w hw
    obtain rfl := Option.some.inj h
    subst hF
    exact ⟨by kernel_rfl, hw.fr⟩
  · skip
    refine WC.skip ?_
    change WC _ _ _ _ _ _
    refine WC.rs ?_
    refine WR.sub (fun w hw => hw.pad) ?_
    refine WR.sub (fun w hw => hw.pad) ?_
    refine va rfl rfl rfl (q_assign (v := .slice none 0 0) rfl (by kernel_rfl)) ?_
    refine WR.nil ?_
    change WC _ _ _ _ _ _
    refine WC.seq ?_
    refine WC.rs ?_
    refine va rfl rfl rfl (q_assign (v := .int .i64 0) rfl (by kernel_rfl)) ?_
    refine WR.nil ?_
    change WC _ _ _ _ _ _
    refine WC.block ?_
    refine WC.forI h (fun (i12 : Nat) (mine_6 : List Rec) σ w => ∃ (J4 : Rowb), ∃ (A7 : Option Addr), ∃ (c8 : Nat), ∃ (row9 : Rowb), slots σ [(0, .slice Aown own.length cown), (1, .slice Acut cut.length ccut), (5, .slice A7 mine_6.length c8), (6, .int .i64 ((i12 : Nat) : Int))] ∧ CC F Γ [row9, J4] w ∧ (J4.map (·.1)).Nodup ∧ Own recT (ghr J4) 70 row9 A7 c8 mine_6 ∧ True) ?_ ?_
    · skip
      intro w hw
      exact ⟨[], none, 0, [], (sl_ (by kernel_rfl)), (hw.only (is := [1, 0]) rfl), List.nodup_nil, (Own.nil recT (ghr []) 70), trivial⟩
    rintro f11 i12 mine_6 σ w hi13 hlt14 hge15 ⟨J4, A7, c8, row9, hsl, hw, hn5, ho10, -⟩
    refine Wpt.slots hsl ?_
    refine WC.here (C := CC F Γ [row9, J4]) ?_ hw
    clear hw hsl
    refine WC.seq ?_
    refine WC.rs ?_
    refine va rfl rfl rfl (q_move (v := .int .i64 ((i12 : Nat) : Int)) rfl (by kernel_rfl)) ?_
    refine va rfl rfl rfl (q_move (v := .slice Acut cut.length ccut) rfl (by kernel_rfl)) ?_
    refine va rfl rfl rfl (q_len_slice rfl Tryz.underlying23 rfl) ?_
    refine va rfl rfl rfl (q_lss rfl rfl rfl) ?_
    refine WR.nil ?_
    change WC _ _ _ _ _ _
    refine WC.cond (b := (decide (((i12 : Nat) : Int) < ((cut.length : Nat) : Int)))) (by kernel_rfl) (fun hb16 => ?_) (fun hb16 => ?_)
    · skip
      have hl17 := ilt hb16
      have h := hlt14 hl17
      refine WC.skip ?_
      change WC _ _ _ _ _ _
      refine WC.seq ?_
      refine WC.block ?_
      refine WC.region ?_
      refine va rfl rfl rfl (q_move (v := .slice A7 mine_6.length c8) rfl (by kernel_rfl)) ?_
      refine va rfl rfl rfl (q_move (v := .slice Acut cut.length ccut) rfl (by kernel_rfl)) ?_
      refine va rfl rfl rfl (q_move (v := .int .i64 ((i12 : Nat) : Int)) rfl (by kernel_rfl)) ?_
      refine va rfl rfl rfl (q_ixn (i := i12) Tryz.underlying23 Tryz.sizeOf70 rfl rfl rfl hl17 (hcut.some_ hl17)) ?_
      obtain ⟨A18, c19, hx20⟩ := hcut.recT_at i12
      refine va rfl rfl rfl (q_lda (c := 0) (vs := [.string (gt cut i12).key, .slice A18 ((gt cut i12).vers).length c19]) (hx20 hl17).2 rfl Tryz.isAgg70 Tryz.sizeOf70 rfl rfl rfl) ?_
      obtain ⟨z21, hz22, h⟩ := bnd h
      refine e_callF (is := []) (Lent.nil F) rfl rfl (call_run Tryz.call42 rfl rfl (by kernel_rfl)) rfl (fun w Θ hp hpB hle hleB hR => t_firthref10_Own_l0 (gt cut i12) (Rec.fits_mono (hx20 hl17).1 hle) hp hpB hz22) ?_
      rintro J23 U25 v26 hn24 ⟨A27, c28, rfl, rfl, hr29, _⟩
      change WR _ _ _ (CC F Γ [J23, row9, J4]) _ _ (upd _ 38 (.agg #[.string z21.key, .slice A27 z21.vers.length c28]))
      refine e_buildSlice (cs := #[.string z21.key, .slice A27 z21.vers.length c28]) (e := 70) rfl rfl rfl rfl (fun w => by kernel_rfl) ?_
      intro g30
      refine WR.sub (fun w hw => hw.only (is := [1, 2, 0, 0]) rfl) ?_
      change WR _ _ _ (CC F Γ [J23, J4, [(g30, .cells #[.string z21.key, .slice A27 z21.vers.length c28] 70 (0, 0))], row9]) _ _ _
      refine WR.join2 fun hn31 => ?_
      change WR _ _ _ (CC F Γ [(J23 ++ J4), [(g30, .cells #[.string z21.key, .slice A27 z21.vers.length c28] 70 (0, 0))], row9]) _ _ _
      obtain ⟨hk32, h⟩ := chk_some h
      refine e_append (T := (atT recT (ghr (J23 ++ J4)))) (xs := mine_6) (ys := [z21]) (elem_23.at (ghr (J23 ++ J4))) (i := 2) rfl rfl rfl rfl rfl rfl rfl (ho10.mono (ghr_rle hn31)).toat (of_decide_eq_true hk32) (fun w hw => src_one (T := (atT recT (ghr (J23 ++ J4)))) (y := z21) (i := 1) rfl (by exact ⟨A27, c28, rfl, ⟨hr29.1, ⟨hr29.2.1, (hr29.2.2.mono (ghr_left hn31))⟩⟩⟩) hw) ?_
      intro row33 A34 c35 ho36
      have ho37 := ho36.unat
      refine va rfl rfl rfl (q_assign (v := .slice A34 (mine_6 ++ [z21]).length c35) rfl (by kernel_rfl)) ?_
      refine WR.nil ?_
      change WC _ _ _ _ _ _
      refine WC.region ?_
      refine va rfl rfl rfl (q_move (v := .int .i64 ((i12 : Nat) : Int)) rfl (by kernel_rfl)) ?_
      refine va rfl rfl rfl (q_add_r (r := ((i12 + 1 : Nat) : Int)) rfl rfl rfl (ctr_len hl17 hcut.le)) ?_
      refine va rfl rfl rfl (q_assign (v := .int .i64 ((i12 + 1 : Nat) : Int)) rfl (by kernel_rfl)) ?_
      refine WR.nil ?_
      intro w hw
      exact ⟨hl17, (mine_6 ++ [z21]), h, (J23 ++ J4), A34, c35, row33, (sl_ (by kernel_rfl)), (hw.only (is := [2, 0]) rfl), hn31, ho37, trivial⟩
    · skip
      have h := hge15 (ige hb16)
      refine WC.exit ?_
      change WC _ _ _ _ _ _
      refine WC.rs ?_
      refine e_buildSlice (cs := #[.int .i64 3, .int .i64 4]) (e := 2) rfl rfl rfl rfl (fun w => by kernel_rfl) ?_
      intro g38
      refine va rfl rfl rfl (q_assign (v := .slice (some ⟨g38, 0, none⟩) 2 2) rfl (by kernel_rfl)) ?_
      refine WR.nil ?_
      change WC _ _ _ _ _ _
      refine WC.rs ?_
      refine va rfl rfl rfl (q_move (v := .slice (some ⟨g38, 0, none⟩) 2 2) rfl (by kernel_rfl)) ?_
      refine va rfl rfl rfl (q_move (v := .slice A7 mine_6.length c8) rfl (by kernel_rfl)) ?_
      have ho39 : Own intT Γ 2 [(g38, .cells #[.int .i64 3, .int .i64 4] 2 (0, 0))] (some ⟨g38, 0, none⟩) 2 [3, 4] := Own.of_blockL (T := intT) (ys := [3, 4]) [[.int .i64 3], [.int .i64 4]] rfl (show 2 ≤ lim by decide) (show Ty.rd intT Γ [.int .i64 3] 3 ∧ Ty.rd intT Γ [.int .i64 4] 4 ∧ True from ⟨⟨rfl, (show I64 3 by decide)⟩, ⟨rfl, (show I64 4 by decide)⟩, trivial⟩)
      obtain ⟨z40, hz41, h⟩ := bnd h
      refine e_callB (is := []) (Lent.nil F) rfl rfl (call_run Tryz.call10 rfl rfl (by kernel_rfl)) rfl (fun w Θ hp hpB hle hleB hR => t_pull_NewCut_l0 1 (show I64 1 by decide) (own_lent ho39 hR (List.mem_of_getElem? (i := 0) rfl) hle) ho39.capz (own_lent ho10 hR (List.mem_of_getElem? (i := 1) rfl) (ghr_le hR hn5 (List.mem_of_getElem? (i := 2) rfl))) ho10.capz hp hpB hz41) ?_
      rintro Γ42 U44 v45 hl43 ⟨g46, row47, rfl, rfl, hr48, hr49, _⟩
      change WR _ _ _ (CC F Γ42 [row47, [(g38, .cells #[.int .i64 3, .int .i64 4] 2 (0, 0))], row9, J4]) _ _ (upd _ 45 (.tuple #[optp z40.1 g46, .int .i64 z40.2]))
      refine va rfl rfl rfl (q_move (v := .tuple #[optp z40.1 g46, .int .i64 z40.2]) rfl (by kernel_rfl)) ?_
      refine va rfl rfl rfl (q_extract (v := optp z40.1 g46) rfl rfl rfl) ?_
      refine va rfl rfl rfl (q_extract (v := .int .i64 z40.2) rfl rfl rfl) ?_
      refine va rfl rfl rfl (q_assign (v := optp z40.1 g46) rfl (by kernel_rfl)) ?_
      refine va rfl rfl rfl (q_assign (v := .int .i64 z40.2) rfl (by kernel_rfl)) ?_
      refine WR.nil ?_
      change WC _ _ _ _ _ _
      refine WC.rs ?_
      refine va rfl rfl rfl (q_move (v := .slice Aown own.length cown) rfl (by kernel_rfl)) ?_
      obtain ⟨z50, hz51, h⟩ := bnd h
      refine e_call (is := []) rfl rfl (call_run Tryz.call22 rfl rfl (by kernel_rfl)) rfl (fun w hp => t_pull_NewPull 1 (show I64 1 by decide) (hown.mono hl43) hownc hp hz51) ?_
      rintro Γ52 U54 v55 hl53 ⟨g56, row57, rfl, rfl, hr58, hr59, _⟩
      change WR _ _ _ (CC F Γ52 [row57, row47, [(g38, .cells #[.int .i64 3, .int .i64 4] 2 (0, 0))], row9, J4]) _ _ (upd _ 50 (.tuple #[optp z50.1 g56, .int .i64 z50.2]))
      refine va rfl rfl rfl (q_move (v := .tuple #[optp z50.1 g56, .int .i64 z50.2]) rfl (by kernel_rfl)) ?_
      refine va rfl rfl rfl (q_extract (v := optp z50.1 g56) rfl rfl rfl) ?_
      refine va rfl rfl rfl (q_extract (v := .int .i64 z50.2) rfl rfl rfl) ?_
      refine va rfl rfl rfl (q_assign (v := optp z50.1 g56) rfl (by kernel_rfl)) ?_
      refine va rfl rfl rfl (q_assign (v := .int .i64 z50.2) rfl (by kernel_rfl)) ?_
      refine WR.nil ?_
      change WC _ _ _ _ _ _
      refine WC.seq ?_
      refine WC.rs ?_
      refine va rfl rfl rfl (q_move (v := optp z40.1 g46) rfl (by kernel_rfl)) ?_
      refine va rfl rfl rfl (q_opt_eql Tryz.underlying25 rfl rfl rfl) ?_
      refine va rfl rfl rfl (q_move (v := .bool (Option.isNone z40.1)) rfl (by kernel_rfl)) ?_
      refine vg0 rfl rfl rfl rfl rfl (fun hg60 => QV.qo (q_move (v := optp z50.1 g56) rfl (by kernel_rfl))) ?_
      refine vg0 rfl rfl rfl rfl rfl (fun hg61 => QV.qo (q_opt_eql Tryz.underlying47 rfl (gu hg61 rfl) rfl)) ?_
      refine va rfl rfl rfl (q_pick rfl rfl (pk_or' (g := (Option.isNone z40.1)) (y := (Option.isNone z50.1)))) ?_
      refine va rfl rfl rfl (q_move (v := .bool ((Option.isNone z40.1) || (Option.isNone z50.1))) rfl (by kernel_rfl)) ?_
      refine vg0 rfl rfl rfl rfl rfl (fun hg62 => QV.qo (q_move (v := .int .i64 z40.2) rfl (by kernel_rfl))) ?_
      refine vg0 rfl rfl rfl rfl rfl (fun hg63 => QV.qo (q_neq rfl (gu hg63 rfl) rfl)) ?_
      refine va rfl rfl rfl (q_pick rfl rfl (pk_or' (g := ((Option.isNone z40.1) || (Option.isNone z50.1))) (y := (z40.2 != 0)))) ?_
      refine va rfl rfl rfl (q_move (v := .bool (((Option.isNone z40.1) || (Option.isNone z50.1)) || (z40.2 != 0))) rfl (by kernel_rfl)) ?_
      refine vg0 rfl rfl rfl rfl rfl (fun hg64 => QV.qo (q_move (v := .int .i64 z50.2) rfl (by kernel_rfl))) ?_
      refine vg0 rfl rfl rfl rfl rfl (fun hg65 => QV.qo (q_neq rfl (gu hg65 rfl) rfl)) ?_
      refine va rfl rfl rfl (q_pick rfl rfl (pk_or' (g := (((Option.isNone z40.1) || (Option.isNone z50.1)) || (z40.2 != 0))) (y := (z50.2 != 0)))) ?_
      refine WR.nil ?_
      change WC _ _ _ _ _ _
      refine WC.cif h (by kernel_rfl) (fun hb66 h => ?_) (fun hb66 h => ?_)
      · skip
        refine WC.rs ?_
        refine va rfl rfl rfl (q_move (v := .int .i64 z40.2) rfl (by kernel_rfl)) ?_
        refine va rfl rfl rfl (q_eql rfl rfl rfl) ?_
        refine va rfl rfl rfl (q_move (v := .bool (z40.2 == 1)) rfl (by kernel_rfl)) ?_
        refine vg0 rfl rfl rfl rfl rfl (fun hg67 => QV.qo (q_move (v := .int .i64 z50.2) rfl (by kernel_rfl))) ?_
        refine vg0 rfl rfl rfl rfl rfl (fun hg68 => QV.qo (q_eql rfl (gu hg68 rfl) rfl)) ?_
        refine va rfl rfl rfl (q_pick rfl rfl (pk_or' (g := (z40.2 == 1)) (y := (z50.2 == 1)))) ?_
        refine va rfl rfl rfl (q_assign (v := .bool ((z40.2 == 1) || (z50.2 == 1))) rfl (by kernel_rfl)) ?_
        refine WR.nil ?_
        change WC _ _ _ _ _ _
        refine WC.ret ?_
        intro w hw
        obtain rfl := Option.some.inj h
        subst hF
        exact ⟨by kernel_rfl, hw.fr⟩
      · skip
        obtain ⟨z69, hz70, h⟩ := bnd h
        have ho71 := optob_some hr58 hz70
        obtain ⟨z72, hz73, h⟩ := bnd h
        have ho74 := optob_some (optob_mono hr48 (fun _ h => h.mono hl53)) hz73
        refine WC.skip ?_
        change WC _ _ _ _ _ _
        refine WC.rs ?_
        refine va rfl rfl rfl (q_move (v := .slice (some ⟨g38, 0, none⟩) 2 2) rfl (by kernel_rfl)) ?_
        refine va rfl rfl rfl (q_ixn (i := 0) Tryz.underlying22 Tryz.sizeOf2 rfl rfl rfl (by decide) ((ho39.mono (hl43.trans hl53)).some_ (show 0 < List.length [3, 4] from by decide))) ?_
        refine e_store_own (T := intT) (q := 0) (v := .int .i64 (-1)) (y := (-1)) rfl rfl rfl rfl (by kernel_rfl) Tryz.sizeOf2 (by exact ⟨rfl, (show I64 (-1) by decide)⟩) (i := 2) rfl (ho39.mono (hl43.trans hl53)) (show 0 < List.length [3, 4] from by decide) ?_
        intro row75 ho76
        refine WR.nil ?_
        change WC _ _ _ _ _ _
        refine WC.rs ?_
        refine va rfl rfl rfl (q_move (v := .slice A7 mine_6.length c8) rfl (by kernel_rfl)) ?_
        refine WR.sub (fun w hw => hw.only (is := [4, 3, 0, 0, 0]) rfl) ?_
        change WR _ _ _ (CC F Γ52 [J4, row9, row57, row47, row75]) _ _ _
        refine WR.join2 fun hn77 => ?_
        have hr78 := ho10.sl (ghr_left hn77) (ghr_right hn77)
        have hc79 := ho10.capz
        change WR _ _ _ (CC F Γ52 [(J4 ++ row9), row57, row47, row75]) _ _ _
        obtain ⟨z80, hz81, h⟩ := bnd h
        refine e_call (is := [0]) rfl rfl (call_run Tryz.call43 rfl rfl (by kernel_rfl)) rfl (fun w hp => t_firthlaw19_spoil hn77 hr78 hc79 hp hz81) ?_
        rintro Γ82 U84 v85 hl83 ⟨J86, rfl, rfl, _⟩
        change WR _ _ _ (CC F Γ82 [J86, row57, row47, row75]) _ _ (upd _ 76 (.tuple #[]))
        refine WR.nil ?_
        change WC _ _ _ _ _ _
        refine WC.rs ?_
        refine va rfl rfl rfl (q_move (v := .pointer (some ⟨g46, 0, none⟩)) rfl (optp_some rfl hz73)) ?_
        obtain ⟨z87, hz88, h⟩ := bnd h
        refine e_call (is := [2]) rfl rfl (call_run Tryz.call18 rfl rfl (by kernel_rfl)) rfl (fun w hp => t_pull_Cut_Vec (ho74.mono hl83) hp hz88) ?_
        rintro Γ89 U91 v92 hl90 ⟨A93, c94, row95, rfl, rfl, hr96, _⟩
        change WR _ _ _ (CC F Γ89 [row47, row95, J86, row57, row75]) _ _ (upd _ 78 (.slice A93 z87.length c94))
        refine va rfl rfl rfl (q_assign (v := .slice A93 z87.length c94) rfl (by kernel_rfl)) ?_
        refine WR.nil ?_
        change WC _ _ _ _ _ _
        refine WC.rs ?_
        refine va rfl rfl rfl (q_move (v := .slice A93 z87.length c94) rfl (by kernel_rfl)) ?_
        obtain ⟨hk97, h⟩ := chk_some h
        refine va rfl rfl rfl (q_ixn (i := 1) Tryz.underlying22 Tryz.sizeOf2 rfl rfl rfl (of_decide_eq_true hk97) (hr96.some_ (of_decide_eq_true hk97))) ?_
        refine e_store_own (T := intT) (q := 1) (v := .int .i64 (-1)) (y := (-1)) rfl rfl rfl rfl (by kernel_rfl) Tryz.sizeOf2 (by exact ⟨rfl, (show I64 (-1) by decide)⟩) (i := 1) rfl hr96 (of_decide_eq_true hk97) ?_
        intro row98 ho99
        refine WR.nil ?_
        change WC _ _ _ _ _ _
        refine WC.rs ?_
        refine va rfl rfl rfl (q_move (v := .pointer (some ⟨g46, 0, none⟩)) rfl (optp_some rfl hz73)) ?_
        obtain ⟨z100, hz101, h⟩ := bnd h
        refine e_call (is := [0]) rfl rfl (call_run Tryz.call19 rfl rfl (by kernel_rfl)) rfl (fun w hp => t_pull_Cut_Open (ho74.mono (hl83.trans hl90)) hp hz101) ?_
        rintro Γ102 U104 v105 hl103 ⟨row106, A108, c109, row110, rfl, rfl, hr107, hr111, _⟩
        change WR _ _ _ (CC F Γ102 [row106, row110, row98, J86, row57, row75]) _ _ (upd _ 82 (.slice A108 z100.2.length c109))
        refine va rfl rfl rfl (q_assign (v := .slice A108 z100.2.length c109) rfl (by kernel_rfl)) ?_
        refine WR.nil ?_
        change WC _ _ _ _ _ _
        refine WC.rs ?_
        refine va rfl rfl rfl (q_move (v := .pointer (some ⟨g56, 0, none⟩)) rfl (optp_some rfl hz70)) ?_
        refine va rfl rfl rfl (q_move (v := .pointer (some ⟨g46, 0, none⟩)) rfl (optp_some rfl hz73)) ?_
        obtain ⟨z112, hz113, h⟩ := bnd h
        refine e_call (is := [0]) rfl rfl (call_run Tryz.call18 rfl rfl (by kernel_rfl)) rfl (fun w hp => t_pull_Cut_Vec hr107 hp hz113) ?_
        rintro Γ114 U116 v117 hl115 ⟨A118, c119, row120, rfl, rfl, hr121, _⟩
        change WR _ _ _ (CC F Γ114 [row106, row120, row110, row98, J86, row57, row75]) _ _ (upd _ 85 (.slice A118 z112.length c119))
        refine va rfl rfl rfl (q_move (v := .slice A108 z100.2.length c109) rfl (by kernel_rfl)) ?_
        obtain ⟨z122, hz123, h⟩ := bnd h
        refine e_callB (is := [5]) (Lent.nil F) rfl rfl (call_run Tryz.call24 rfl rfl (by kernel_rfl)) rfl (fun w Θ hp hpB hle hleB hR => t_pull_Pull_Begin_l0 (ho71.mono (((hl83.trans hl90).trans hl103).trans hl115)) (own_lent hr121 hR (List.mem_of_getElem? (i := 1) rfl) hle) hr121.capz (own_lent (hr111.mono hl115) hR (List.mem_of_getElem? (i := 2) rfl) hle) (hr111.mono hl115).capz hp hpB hz123) ?_
        rintro Γ124 U126 v127 hl125 ⟨row128, rfl, rfl, hr129, _⟩
        change WR _ _ _ (CC F Γ124 [row128, row106, row120, row110, row98, J86, row75]) _ _ (upd _ 87 (.bool z122.2))
        refine WR.nil ?_
        change WC _ _ _ _ _ _
        refine WC.seq ?_
        refine WC.rs ?_
        refine va rfl rfl rfl (q_assign (v := .int .i64 0) rfl (by kernel_rfl)) ?_
        refine WR.nil ?_
        change WC _ _ _ _ _ _
        refine WC.block ?_
        refine WC.forU h (fun (i135 : Nat) (x130 : List Int) σ w => ∃ (row131 : Rowb), slots σ [(1, .slice Acut cut.length ccut), (8, optp z40.1 g46), (10, optp z50.1 g56), (13, .slice A108 z100.2.length c109), (14, .int .i64 ((i135 : Nat) : Int))] ∧ CC F Γ124 [row128, row106, row131] w ∧ x130.length = z100.2.length ∧ Own u64T Γ124 78 row131 A108 c109 x130 ∧ True) ?_ ?_
        · skip
          intro w hw
          exact ⟨row110, (sl_ (by kernel_rfl)), (hw.only (is := [0, 0, 1]) rfl), rfl, (hr111.mono (hl115.trans hl125)), trivial⟩
        rintro f134 i135 x130 σ w hi136 hlt137 hge138 ⟨row131, hsl, hw, hn133, ho132, -⟩
        refine Wpt.slots hsl ?_
        refine WC.here (C := CC F Γ124 [row128, row106, row131]) ?_ hw
        clear hw hsl
        refine WC.seq ?_
        refine WC.rs ?_
        refine va rfl rfl rfl (q_move (v := .int .i64 ((i135 : Nat) : Int)) rfl (by kernel_rfl)) ?_
        refine va rfl rfl rfl (q_move (v := .slice A108 z100.2.length c109) rfl (by kernel_rfl)) ?_
        refine va rfl rfl rfl (q_len_slice rfl Tryz.underlying33 rfl) ?_
        refine va rfl rfl rfl (q_lss rfl rfl rfl) ?_
        refine WR.nil ?_
        change WC _ _ _ _ _ _
        refine WC.cond (b := (decide (((i135 : Nat) : Int) < ((z100.2.length : Nat) : Int)))) (by kernel_rfl) (fun hb139 => ?_) (fun hb139 => ?_)
        · skip
          have hl140 := ilt hb139
          have h := hlt137 hl140
          refine WC.skip ?_
          change WC _ _ _ _ _ _
          refine WC.seq ?_
          refine WC.block ?_
          refine WC.region ?_
          refine va rfl rfl rfl (q_move (v := .slice A108 z100.2.length c109) rfl (by kernel_rfl)) ?_
          refine va rfl rfl rfl (q_move (v := .int .i64 ((i135 : Nat) : Int)) rfl (by kernel_rfl)) ?_
          refine va rfl rfl rfl (q_ixn (i := i135) Tryz.underlying33 Tryz.sizeOf78 rfl rfl rfl hl140 (ho132.some_ (ltq hl140 hn133.symm))) ?_
          refine e_store_own (T := u64T) (q := i135) (v := .int .u64 1) (y := 1) rfl rfl rfl rfl (by kernel_rfl) Tryz.sizeOf78 (by exact ⟨rfl, (show U64 1 by decide)⟩) (i := 2) rfl ho132 (ltq hl140 hn133.symm) ?_
          intro row141 ho142
          refine WR.nil ?_
          change WC _ _ _ _ _ _
          refine WC.region ?_
          refine va rfl rfl rfl (q_move (v := .int .i64 ((i135 : Nat) : Int)) rfl (by kernel_rfl)) ?_
          refine va rfl rfl rfl (q_add_r (r := ((i135 + 1 : Nat) : Int)) rfl rfl rfl (ctr_len hl140 (hn133 ▸ ho132.le))) ?_
          refine va rfl rfl rfl (q_assign (v := .int .i64 ((i135 + 1 : Nat) : Int)) rfl (by kernel_rfl)) ?_
          refine WR.nil ?_
          intro w hw
          exact ⟨hl140, (List.set x130 i135 1), h, row141, (sl_ (by kernel_rfl)), hw, (List.length_set.trans hn133), ho142, trivial⟩
        · skip
          have h := hge138 (ige hb139)
          refine WC.exit ?_
          change WC _ _ _ _ _ _
          refine WC.cut (fun σ w => ∃ (o145 : Opull_Pull), ∃ (o148 : Opull_Cut), ∃ (Γ143 : Gh), ∃ (row146 : Rowb), ∃ (row149 : Rowb), m_firthlaw19_PullKeeps_j3 cut o145 o148 = some r ∧ slots σ [(1, .slice Acut cut.length ccut), (8, optp z40.1 g46), (10, optp z50.1 g56)] ∧ CC F Γ143 [row146, row149] w ∧ Gh.le Γ124 Γ143 ∧ Opull_Pull.ob 97 Γ143 g56 row146 o145 ∧ Opull_Cut.ob 85 Γ143 g46 row149 o148 ∧ True) ?_ ?_
          · skip
            refine WC.rs ?_
            refine va rfl rfl rfl (q_assign (v := .int .i64 0) rfl (by kernel_rfl)) ?_
            refine WR.nil ?_
            change WC _ _ _ _ _ _
            refine WC.block ?_
            refine WC.forU h (fun (i160 : Nat) (s : Opull_Pull × Opull_Cut) σ w => match s with | (o153, o156) => ∃ (Γ151 : Gh), ∃ (row154 : Rowb), ∃ (row157 : Rowb), slots σ [(1, .slice Acut cut.length ccut), (8, optp z40.1 g46), (10, optp z50.1 g56), (15, .int .i64 ((i160 : Nat) : Int))] ∧ CC F Γ151 [row154, row157] w ∧ Gh.le Γ124 Γ151 ∧ Opull_Pull.ob 97 Γ151 g56 row154 o153 ∧ Opull_Cut.ob 85 Γ151 g46 row157 o156 ∧ True) ?_ ?_
            · skip
              intro w hw
              exact ⟨Γ124, row128, row106, (sl_ (by kernel_rfl)), (hw.only (is := [0, 0]) rfl), (Gh.refl _), hr129, (hr107.mono (hl115.trans hl125)), trivial⟩
            rintro f159 i160 ⟨o153, o156⟩ σ w hi161 hlt162 hge163 ⟨Γ151, row154, row157, hsl, hw, hl152, ho155, ho158, -⟩
            refine Wpt.slots hsl ?_
            refine WC.here (C := CC F Γ151 [row154, row157]) ?_ hw
            clear hw hsl
            refine WC.seq ?_
            refine WC.rs ?_
            refine va rfl rfl rfl (q_move (v := .int .i64 ((i160 : Nat) : Int)) rfl (by kernel_rfl)) ?_
            refine va rfl rfl rfl (q_lss rfl rfl rfl) ?_
            refine WR.nil ?_
            change WC _ _ _ _ _ _
            refine WC.cond (b := (decide (((i160 : Nat) : Int) < 300))) (by kernel_rfl) (fun hb164 => ?_) (fun hb164 => ?_)
            · skip
              have hl165 := ilt hb164
              have h := hlt162 hl165
              refine WC.skip ?_
              change WC _ _ _ _ _ _
              refine WC.seq ?_
              refine WC.block ?_
              refine WC.rs ?_
              refine va rfl rfl rfl (q_move (v := .pointer (some ⟨g56, 0, none⟩)) rfl (optp_some rfl hz70)) ?_
              obtain ⟨z166, hz167, h⟩ := bnd h
              refine e_callF (is := []) (Lent.nil F) rfl rfl (call_run Tryz.call31 rfl rfl (by kernel_rfl)) rfl (fun w Θ hp hpB hle hleB hR => t_pull_Pull_Wants_l1 (ho155.mono hle) (fun p hp => hR _ (List.mem_of_getElem? (i := 0) rfl) p hp) hp hpB hz167) ?_
              rintro J168 U170 v171 hn169 ⟨A172, c173, row174, rfl, rfl, hr175, _⟩
              refine WR.join2 fun hn176 => ?_
              have hr177 := hr175.sl (ghr_left hn176) (ghr_right hn176)
              have hc178 := hr175.capz
              change WR _ _ _ (CC F Γ151 [(J168 ++ row174), row154, row157]) _ _ (upd _ 102 (.slice A172 z166.length c173))
              refine va rfl rfl rfl (q_assign (v := .slice A172 z166.length c173) rfl (by kernel_rfl)) ?_
              refine WR.nil ?_
              change WC _ _ _ _ _ _
              refine WC.seq ?_
              refine WC.rs ?_
              refine va rfl rfl rfl (q_move (v := .slice A172 z166.length c173) rfl (by kernel_rfl)) ?_
              refine va rfl rfl rfl (q_len_slice rfl Tryz.underlying57 rfl) ?_
              refine va rfl rfl rfl (q_eql rfl rfl rfl) ?_
              refine WR.nil ?_
              change WC _ _ _ _ _ _
              refine WC.cif h (by kernel_rfl) (fun hb179 h => ?_) (fun hb179 h => ?_)
              · skip
                refine WC.exit ?_
                intro w hw
                exact ⟨o153, o156, Γ151, row154, row157, h, (sl_ (by kernel_rfl)), (hw.only (is := [1, 1]) rfl), hl152, ho155, ho158, trivial⟩
              · skip
                refine WC.skip ?_
                change WC _ _ _ _ _ _
                refine WC.rs ?_
                refine va rfl rfl rfl (q_assign (v := .slice none 0 0) rfl (by kernel_rfl)) ?_
                refine WR.nil ?_
                change WC _ _ _ _ _ _
                refine WC.rs ?_
                refine va rfl rfl rfl (q_move (v := .slice none 0 0) rfl (by kernel_rfl)) ?_
                refine va rfl rfl rfl (q_move (v := .slice A172 z166.length c173) rfl (by kernel_rfl)) ?_
                obtain ⟨hk180, h⟩ := chk_some h
                refine va rfl rfl rfl (q_ixn (i := 0) Tryz.underlying57 Tryz.sizeOf24 rfl rfl rfl (of_decide_eq_true hk180) (hr177.some_ (of_decide_eq_true hk180))) ?_
                obtain ⟨A181, c182, hx183⟩ := hr177.slT_at 0
                refine va rfl rfl rfl (q_ldS (c := 0) (v := .slice A181 (gt z166 0).length c182) (satJ (i := 0) rfl hn176) (hx183 (of_decide_eq_true hk180)).2 rfl Tryz.isAgg24 rfl rfl) ?_
                refine WR.sub (fun w hw => hw.pad) ?_
                obtain ⟨hk184, h⟩ := chk_some h
                refine e_append (T := intT) (xs := []) (ys := (gt z166 0)) elem_24 (i := 0) rfl rfl rfl rfl (by kernel_rfl) rfl rfl (Own.nil intT Γ151 3) (of_decide_eq_true hk184) (fun w hw => src_slS (Γ := Γ151) (satJ (i := 1) rfl hn176) (fun _ _ h => h) (hx183 (of_decide_eq_true hk180)).1.2 hw) ?_
                intro row185 A186 c187 ho188
                refine va rfl rfl rfl (q_assign (v := .slice A186 (gt z166 0).length c187) rfl (by kernel_rfl)) ?_
                refine WR.nil ?_
                change WC _ _ _ _ _ _
                refine WC.rs ?_
                refine va rfl rfl rfl (q_move (v := .pointer (some ⟨g46, 0, none⟩)) rfl (optp_some rfl hz73)) ?_
                refine va rfl rfl rfl (q_move (v := .slice A172 z166.length c173) rfl (by kernel_rfl)) ?_
                refine va rfl rfl rfl (q_ixn (i := 0) Tryz.underlying57 Tryz.sizeOf24 rfl rfl rfl (of_decide_eq_true hk180) (hr177.some_ (of_decide_eq_true hk180))) ?_
                refine va rfl rfl rfl (q_ldS (c := 0) (v := .slice A181 (gt z166 0).length c182) (satJ (i := 1) rfl hn176) (hx183 (of_decide_eq_true hk180)).2 rfl Tryz.isAgg24 rfl rfl) ?_
                obtain ⟨z189, hz190, h⟩ := bnd h
                refine e_callB (is := [3]) (Lent.nil F) rfl rfl (call_run Tryz.call13 rfl rfl (by kernel_rfl)) rfl (fun w Θ hp hpB hle hleB hR => t_pull_Cut_Want_l0 ho158 ((hx183 (of_decide_eq_true hk180)).1.2.mono (ghr_le hR hn176 (List.mem_of_getElem? (i := 1) rfl))) (hx183 (of_decide_eq_true hk180)).1.1 hp hpB hz190) ?_
                rintro Γ191 U193 v194 hl192 ⟨row195, A197, c198, row199, A201, c202, J203, rfl, rfl, hr196, hr200, hn204, hc205, hr206, _⟩
                change WR _ _ _ (CC F Γ191 [row195, row199, J203, row185, (J168 ++ row174), row154]) _ _ (upd _ 116 (.tuple #[.slice A197 z189.2.1.length c198, .slice A201 z189.2.2.1.length c202, .bool z189.2.2.2]))
                refine va rfl rfl rfl (q_move (v := .tuple #[.slice A197 z189.2.1.length c198, .slice A201 z189.2.2.1.length c202, .bool z189.2.2.2]) rfl (by kernel_rfl)) ?_
                refine va rfl rfl rfl (q_extract (v := .slice A197 z189.2.1.length c198) rfl rfl rfl) ?_
                refine va rfl rfl rfl (q_extract (v := .slice A201 z189.2.2.1.length c202) rfl rfl rfl) ?_
                refine va rfl rfl rfl (q_extract (v := .bool z189.2.2.2) rfl rfl rfl) ?_
                refine va rfl rfl rfl (q_assign (v := .slice A197 z189.2.1.length c198) rfl (by kernel_rfl)) ?_
                refine va rfl rfl rfl (q_assign (v := .slice A201 z189.2.2.1.length c202) rfl (by kernel_rfl)) ?_
                refine va rfl rfl rfl (q_assign (v := .bool z189.2.2.2) rfl (by kernel_rfl)) ?_
                refine WR.nil ?_
                change WC _ _ _ _ _ _
                refine WC.seq ?_
                refine WC.rs ?_
                refine va rfl rfl rfl (q_move (v := .bool z189.2.2.2) rfl (by kernel_rfl)) ?_
                refine va rfl rfl rfl (q_not rfl rfl) ?_
                refine va rfl rfl rfl (q_move (v := .bool (!z189.2.2.2)) rfl (by kernel_rfl)) ?_
                refine vg0 rfl rfl rfl rfl rfl (fun hg207 => QV.qo (q_move (v := .pointer (some ⟨g56, 0, none⟩)) rfl (optp_some rfl hz70))) ?_
                refine vg0 rfl rfl rfl rfl rfl (fun hg208 => QV.qo (q_move (v := .slice A186 (gt z166 0).length c187) rfl (by kernel_rfl))) ?_
                refine vg0 rfl rfl rfl rfl rfl (fun hg209 => QV.qo (q_move (v := .slice A197 z189.2.1.length c198) rfl (by kernel_rfl))) ?_
                refine vg0 rfl rfl rfl rfl rfl (fun hg210 => QV.qo (q_move (v := .slice A201 z189.2.2.1.length c202) rfl (by kernel_rfl))) ?_
                refine (Bool.eq_false_or_eq_true (!(!z189.2.2.2))).elim (fun hb211 => ?_) (fun hb211 => ?_)
                · skip
                  have h := bt hb211 h
                  refine WR.sat (c0 := true) (g := (!z189.2.2.2)) rfl rfl rfl hb211 ?_
                  obtain ⟨z212, hz213, h⟩ := bnd h
                  refine e_callB (is := [5]) (Lent.nil F) rfl rfl (call_run Tryz.call26 rfl rfl (args4 (gu hb211 rfl) (gu hb211 rfl) (gu hb211 rfl) (gu hb211 rfl))) rfl (fun w Θ hp hpB hle hleB hR => t_pull_Pull_Tell_l1 (ho155.mono hl192) (own_lent (ho188.mono hl192) hR (List.mem_of_getElem? (i := 3) rfl) hle) (ho188.mono hl192).capz (own_lent hr200 hR (List.mem_of_getElem? (i := 1) rfl) hle) hr200.capz (hr206.mono (ghr_le hR hn204 (List.mem_of_getElem? (i := 2) rfl))) hc205 hp hpB hz213) ?_
                  rintro Γ214 U216 v217 hl215 ⟨row218, rfl, rfl, hr219, _⟩
                  change WR _ _ _ (CC F Γ214 [row218, row195, row199, J203, row185, (J168 ++ row174)]) _ _ (upd _ 127 (.bool z212.2))
                  refine WR.sat (c0 := true) (g := (!z189.2.2.2)) rfl rfl rfl hb211 ?_
                  refine va rfl rfl rfl (q_not rfl rfl) ?_
                  refine va rfl rfl rfl (q_pick_f (v := .bool (!z212.2)) rfl rfl (not_t hb211) (by kernel_rfl)) ?_
                  refine WR.nil ?_
                  change WC _ _ _ _ _ _
                  refine WC.cif h (by kernel_rfl) (fun hb220 h => ?_) (fun hb220 h => ?_)
                  · skip
                    refine WC.rs ?_
                    refine va rfl rfl rfl (q_assign (v := .bool false) rfl (by kernel_rfl)) ?_
                    refine WR.nil ?_
                    change WC _ _ _ _ _ _
                    refine WC.ret ?_
                    intro w hw
                    obtain rfl := Option.some.inj h
                    subst hF
                    exact ⟨by kernel_rfl, hw.fr⟩
                  · skip
                    refine WC.skip ?_
                    change WC _ _ _ _ _ _
                    refine WC.rs ?_
                    refine va rfl rfl rfl (q_move (v := .slice A201 z189.2.2.1.length c202) rfl (by kernel_rfl)) ?_
                    obtain ⟨z221, hz222, h⟩ := bnd h
                    refine e_call (is := [3]) rfl rfl (call_run Tryz.call43 rfl rfl (by kernel_rfl)) rfl (fun w hp => t_firthlaw19_spoil hn204 hr206 hc205 hp hz222) ?_
                    rintro Γ223 U225 v226 hl224 ⟨J227, rfl, rfl, _⟩
                    change WR _ _ _ (CC F Γ223 [J227, row218, row195, row199, row185, (J168 ++ row174)]) _ _ (upd _ 131 (.tuple #[]))
                    refine WR.nil ?_
                    change WC _ _ _ _ _ _
                    refine WC.rs ?_
                    refine va rfl rfl rfl (q_move (v := .slice A186 (gt z166 0).length c187) rfl (by kernel_rfl)) ?_
                    obtain ⟨hk228, h⟩ := chk_some h
                    refine va rfl rfl rfl (q_ixn (i := 0) Tryz.underlying24 Tryz.sizeOf3 rfl rfl rfl (of_decide_eq_true hk228) ((ho188.mono ((hl192.trans hl215).trans hl224)).some_ (of_decide_eq_true hk228))) ?_
                    refine e_store_own (T := intT) (q := 0) (v := .int .i64 99) (y := 99) rfl rfl rfl rfl (by kernel_rfl) Tryz.sizeOf3 (by exact ⟨rfl, (show I64 99 by decide)⟩) (i := 4) rfl (ho188.mono ((hl192.trans hl215).trans hl224)) (of_decide_eq_true hk228) ?_
                    intro row229 ho230
                    refine WR.nil ?_
                    change WC _ _ _ _ _ _
                    refine WC.region ?_
                    refine va rfl rfl rfl (q_move (v := .slice A172 z166.length c173) rfl (by kernel_rfl)) ?_
                    refine va rfl rfl rfl (q_ixn (i := 0) Tryz.underlying57 Tryz.sizeOf24 rfl rfl rfl (of_decide_eq_true hk180) (hr177.some_ (of_decide_eq_true hk180))) ?_
                    refine va rfl rfl rfl (q_ldS (c := 0) (v := .slice A181 (gt z166 0).length c182) (satJ (i := 5) rfl hn176) (hx183 (of_decide_eq_true hk180)).2 rfl Tryz.isAgg24 rfl rfl) ?_
                    refine va rfl rfl rfl (q_ixn (i := 0) Tryz.underlying24 Tryz.sizeOf3 rfl rfl rfl (of_decide_eq_true hk228) ((hx183 (of_decide_eq_true hk180)).1.2.some_ (of_decide_eq_true hk228))) ?_
                    have hj231 := (hx183 (of_decide_eq_true hk180)).1.2
                    refine e_store_J (c := 0) (u := .int .i64 (gt (gt z166 0) 0)) (v := .int .i64 98) rfl rfl rfl rfl (by kernel_rfl) Tryz.sizeOf3 rfl rfl ((hx183 (of_decide_eq_true hk180)).1.2.intT_at (of_decide_eq_true hk228)).2 rfl (.int _ _ (show I64 98 by decide)) (i := 5) rfl hn176 ?_
                    intro J232 hn233 hl234
                    obtain ⟨ys235, hj236, hs237⟩ := hr177.like (like_sl like_int) hl234
                    have hq238 := shL_eq_len hs237
                    obtain ⟨ys239, hj240, hs241⟩ := hj231.like like_int hl234
                    have hq242 := shL_eq_len hs241
                    refine WR.nil ?_
                    change WC _ _ _ _ _ _
                    refine WC.region ?_
                    refine va rfl rfl rfl (q_move (v := .int .i64 ((i160 : Nat) : Int)) rfl (by kernel_rfl)) ?_
                    refine va rfl rfl rfl (q_add_r (r := ((i160 + 1 : Nat) : Int)) rfl rfl rfl (ctr_lit hl165 (by decide))) ?_
                    refine va rfl rfl rfl (q_assign (v := .int .i64 ((i160 + 1 : Nat) : Int)) rfl (by kernel_rfl)) ?_
                    refine WR.nil ?_
                    intro w hw
                    exact ⟨hl165, (z212.1, z189.1), h, Γ223, row218, row195, (sl_ (by kernel_rfl)), (hw.only (is := [1, 1]) rfl), (((hl152.trans hl192).trans hl215).trans hl224), (hr219.mono hl224), (hr196.mono (hl215.trans hl224)), trivial⟩
                · skip
                  have h := bf hb211 h
                  refine WR.unsat (c0 := true) (g := (!z189.2.2.2)) rfl rfl rfl hb211 rfl ?_
                  refine WR.unsat (c0 := true) (g := (!z189.2.2.2)) rfl rfl rfl hb211 rfl ?_
                  refine va rfl rfl rfl (q_pick_t (v := .bool true) rfl rfl (not_f hb211) (by kernel_rfl)) ?_
                  refine WR.nil ?_
                  change WC _ _ _ _ _ _
                  refine WC.ctk (b := true) (by kernel_rfl) rfl ?_
                  refine WC.rs ?_
                  refine va rfl rfl rfl (q_assign (v := .bool false) rfl (by kernel_rfl)) ?_
                  refine WR.nil ?_
                  change WC _ _ _ _ _ _
                  refine WC.ret ?_
                  intro w hw
                  obtain rfl := Option.some.inj h
                  subst hF
                  exact ⟨by kernel_rfl, hw.fr⟩
            · skip
              have h := hge163 (ige hb164)
              refine WC.exit ?_
              intro w hw
              exact ⟨o153, o156, Γ151, row154, row157, h, (sl_ (by kernel_rfl)), hw, hl152, ho155, ho158, trivial⟩
          · skip
            rintro σ w ⟨o145, o148, Γ143, row146, row149, h, hsl, hw, hl144, ho147, ho150, -⟩
            refine Wpt.slots hsl ?_
            refine WC.here (C := CC F Γ143 [row146, row149]) ?_ hw
            clear hw hsl
            refine WC.rs ?_
            refine va rfl rfl rfl (q_move (v := .pointer (some ⟨g56, 0, none⟩)) rfl (optp_some rfl hz70)) ?_
            obtain ⟨z243, hz244, h⟩ := bnd h
            refine e_call (is := [0]) rfl rfl (call_run Tryz.call32 rfl rfl (by kernel_rfl)) rfl (fun w hp => t_pull_Pull_Staged ho147 hp hz244) ?_
            rintro Γ245 U247 v248 hl246 ⟨A249, c250, J251, rfl, rfl, hn252, hc253, hr254, _⟩
            change WR _ _ _ (CC F Γ245 [row146, J251, row149]) _ _ (upd _ 139 (.slice A249 z243.length c250))
            refine va rfl rfl rfl (q_assign (v := .slice A249 z243.length c250) rfl (by kernel_rfl)) ?_
            refine WR.nil ?_
            change WC _ _ _ _ _ _
            refine WC.rs ?_
            refine va rfl rfl rfl (q_move (v := .slice A249 z243.length c250) rfl (by kernel_rfl)) ?_
            obtain ⟨z255, hz256, h⟩ := bnd h
            refine e_call (is := [1]) rfl rfl (call_run Tryz.call43 rfl rfl (by kernel_rfl)) rfl (fun w hp => t_firthlaw19_spoil hn252 hr254 hc253 hp hz256) ?_
            rintro Γ257 U259 v260 hl258 ⟨J261, rfl, rfl, _⟩
            change WR _ _ _ (CC F Γ257 [J261, row146, row149]) _ _ (upd _ 141 (.tuple #[]))
            refine WR.nil ?_
            change WC _ _ _ _ _ _
            refine WC.rs ?_
            refine va rfl rfl rfl (q_move (v := .pointer (some ⟨g56, 0, none⟩)) rfl (optp_some rfl hz70)) ?_
            obtain ⟨z262, hz263, h⟩ := bnd h
            refine e_call (is := [1]) rfl rfl (call_run Tryz.call32 rfl rfl (by kernel_rfl)) rfl (fun w hp => t_pull_Pull_Staged (ho147.mono (hl246.trans hl258)) hp hz263) ?_
            rintro Γ264 U266 v267 hl265 ⟨A268, c269, J270, rfl, rfl, hn271, hc272, hr273, _⟩
            change WR _ _ _ (CC F Γ264 [row146, J270, J261, row149]) _ _ (upd _ 143 (.slice A268 z262.length c269))
            refine va rfl rfl rfl (q_assign (v := .slice A268 z262.length c269) rfl (by kernel_rfl)) ?_
            refine WR.nil ?_
            change WC _ _ _ _ _ _
            refine WC.rs ?_
            refine va rfl rfl rfl (q_move (v := .slice Acut cut.length ccut) rfl (by kernel_rfl)) ?_
            obtain ⟨z274, hz275, h⟩ := bnd h
            refine e_call (is := []) rfl rfl (call_run Tryz.call35 rfl rfl (by kernel_rfl)) rfl (fun w hp => t_firthref14_Held (hcut.mono ((((((((((hl43.trans hl53).trans hl83).trans hl90).trans hl103).trans hl115).trans hl125).trans hl144).trans hl246).trans hl258).trans hl265)) hcutc hp hz275) ?_
            rintro Γ276 U278 v279 hl277 ⟨A280, c281, row282, rfl, rfl, hr283, _⟩
            change WR _ _ _ (CC F Γ276 [row282, row146, J270, J261, row149]) _ _ (upd _ 146 (.tuple #[.slice A280 z274.1.length c281, .bool z274.2]))
            refine va rfl rfl rfl (q_move (v := .tuple #[.slice A280 z274.1.length c281, .bool z274.2]) rfl (by kernel_rfl)) ?_
            refine va rfl rfl rfl (q_extract (v := .slice A280 z274.1.length c281) rfl rfl rfl) ?_
            refine va rfl rfl rfl (q_extract (v := .bool z274.2) rfl rfl rfl) ?_
            refine va rfl rfl rfl (q_assign (v := .slice A280 z274.1.length c281) rfl (by kernel_rfl)) ?_
            refine va rfl rfl rfl (q_assign (v := .bool z274.2) rfl (by kernel_rfl)) ?_
            refine WR.nil ?_
            change WC _ _ _ _ _ _
            refine WC.seq ?_
            refine WC.rs ?_
            refine va rfl rfl rfl (q_assign (v := .int .i64 0) rfl (by kernel_rfl)) ?_
            refine WR.nil ?_
            change WC _ _ _ _ _ _
            refine WC.block ?_
            have hc288 := hr283.capz
            intro w hw; obtain ⟨Γ284, hw, hl285, hr286⟩ := hw.seal (i := 0) rfl; have hs287 := hr283.sl hl285 hr286
            refine WC.here (C := CC F Γ284 [[], row146, J270, J261, row149]) ?_ hw
            clear hw
            refine WC.forI h (fun (i292 : Nat) (s : Unit) σ w => match s with | () => ∃ (Γ289 : Gh), slots σ [(8, optp z40.1 g46), (10, optp z50.1 g56), (21, .slice A268 z262.length c269), (22, .slice A280 z274.1.length c281), (24, .int .i64 ((i292 : Nat) : Int))] ∧ CC F Γ289 [row146, J270, row149] w ∧ Gh.le Γ284 Γ289 ∧ True) ?_ ?_
            · skip
              intro w hw
              exact ⟨Γ284, (sl_ (by kernel_rfl)), (hw.only (is := [1, 1, 2]) rfl), (Gh.refl _), trivial⟩
            rintro f291 i292 ⟨⟩ σ w hi293 hlt294 hge295 ⟨Γ289, hsl, hw, hl290, -⟩
            refine Wpt.slots hsl ?_
            refine WC.here (C := CC F Γ289 [row146, J270, row149]) ?_ hw
            clear hw hsl
            refine WC.seq ?_
            refine WC.rs ?_
            refine va rfl rfl rfl (q_move (v := .int .i64 ((i292 : Nat) : Int)) rfl (by kernel_rfl)) ?_
            refine va rfl rfl rfl (q_move (v := .slice A268 z262.length c269) rfl (by kernel_rfl)) ?_
            refine va rfl rfl rfl (q_len_slice rfl Tryz.underlying23 rfl) ?_
            refine va rfl rfl rfl (q_lss rfl rfl rfl) ?_
            refine WR.nil ?_
            change WC _ _ _ _ _ _
            refine WC.cond (b := (decide (((i292 : Nat) : Int) < ((z262.length : Nat) : Int)))) (by kernel_rfl) (fun hb296 => ?_) (fun hb296 => ?_)
            · skip
              have hl297 := ilt hb296
              have h := hlt294 hl297
              refine WC.skip ?_
              change WC _ _ _ _ _ _
              refine WC.seq ?_
              refine WC.block ?_
              refine WC.seq ?_
              intro w hw; have h0298 := hw.le
              refine WC.here (C := CC F Γ289 [row146, J270, row149]) ?_ hw; clear hw
              refine WC.held (CC F Γ289 [J270]) (by kernel_rfl) (fun w hw => hw.drawn _) ?_
              change WH _ _ _ _ (CC F Γ289 [row146, J270, row149]) _ 14 #[false, false, false, false, false, false, false, false, false, false, false, false, false, false] _
              refine ht (i := 0) rfl (by kernel_rfl) rfl rfl rfl (fun w hw => hw.back (Gh.refl _) h0298 (.cons _ (.cons_cons _ (.cons _ .slnil)))) (q_move (v := .slice A280 z274.1.length c281) rfl (by kernel_rfl)) ?_
              refine ht (i := 1) rfl (by kernel_rfl) rfl rfl rfl (fun w hw => hw.back (Gh.refl _) h0298 (.cons _ (.cons_cons _ (.cons _ .slnil)))) (q_move (v := .slice A268 z262.length c269) rfl (by kernel_rfl)) ?_
              refine ht (i := 2) rfl (by kernel_rfl) rfl rfl rfl (fun w hw => hw.back (Gh.refl _) h0298 (.cons _ (.cons_cons _ (.cons _ .slnil)))) (q_move (v := .int .i64 ((i292 : Nat) : Int)) rfl (by kernel_rfl)) ?_
              refine ht (i := 3) rfl (by kernel_rfl) rfl rfl rfl (fun w hw => hw.back (Gh.refl _) h0298 (.cons _ (.cons_cons _ (.cons _ .slnil)))) (q_ixn (i := i292) Tryz.underlying23 Tryz.sizeOf70 rfl rfl rfl hl297 (hr273.some_ hl297)) ?_
              refine ht (i := 4) rfl (by kernel_rfl) rfl rfl rfl (fun w hw => hw.back (Gh.refl _) h0298 (.cons _ (.cons_cons _ (.cons _ .slnil)))) (q_field_addr (i292 * 2) fld_70_0 rfl rfl (hr273.some_ hl297) rfl) ?_
              obtain ⟨A299, c300, hx301⟩ := hr273.recT_at i292
              refine ht (i := 5) rfl (by kernel_rfl) rfl rfl rfl (fun w hw => hw.back (Gh.refl _) h0298 (.cons _ (.cons_cons _ (.cons _ .slnil)))) (q_ldS (c := 0) (v := .string (gt z262 i292).key) (satJ (i := 0) rfl hn271) (hx301 hl297).2 rfl Tryz.isAgg9 rfl rfl) ?_
              refine ht (i := 7) rfl (by kernel_rfl) rfl rfl rfl (fun w hw => hw.back (Gh.refl _) h0298 (.cons _ (.cons_cons _ (.cons _ .slnil)))) (q_move (v := .slice A268 z262.length c269) rfl (by kernel_rfl)) ?_
              refine ht (i := 8) rfl (by kernel_rfl) rfl rfl rfl (fun w hw => hw.back (Gh.refl _) h0298 (.cons _ (.cons_cons _ (.cons _ .slnil)))) (q_move (v := .int .i64 ((i292 : Nat) : Int)) rfl (by kernel_rfl)) ?_
              refine ht (i := 9) rfl (by kernel_rfl) rfl rfl rfl (fun w hw => hw.back (Gh.refl _) h0298 (.cons _ (.cons_cons _ (.cons _ .slnil)))) (q_ixn (i := i292) Tryz.underlying23 Tryz.sizeOf70 rfl rfl rfl hl297 (hr273.some_ hl297)) ?_
              refine ht (i := 10) rfl (by kernel_rfl) rfl rfl rfl (fun w hw => hw.back (Gh.refl _) h0298 (.cons _ (.cons_cons _ (.cons _ .slnil)))) (q_field_addr (i292 * 2 + 1) fld_70_1 rfl rfl (hr273.some_ hl297) rfl) ?_
              refine ht (i := 11) rfl (by kernel_rfl) rfl rfl rfl (fun w hw => hw.back (Gh.refl _) h0298 (.cons _ (.cons_cons _ (.cons _ .slnil)))) (q_ldS (c := 1) (v := .slice A299 ((gt z262 i292).vers).length c300) (satJ (i := 0) rfl hn271) (hx301 hl297).2 rfl Tryz.isAgg67 rfl rfl) ?_
              refine WH.lone (i := 6) (by kernel_rfl) rfl ?_
              obtain ⟨z302, hz303, h⟩ := bnd h
              refine e_call (is := []) rfl rfl (call_run Tryz.call38 rfl rfl (by kernel_rfl)) rfl (fun w hp => t_firthref14_Get (hs287.mono hl290) hc288 ((gt z262 i292).key) (hx301 hl297).1.1 hp hz303) ?_
              rintro Γ304 U306 v307 hl305 ⟨A308, c309, rfl, rfl, hc311, hr310, _⟩
              change WR _ _ _ (CC F Γ304 [row146, J270, row149]) _ _ (upd _ 161 (.slice A308 z302.length c309))
              refine WR.nil ?_
              refine WH.next (fun w hw => hw.back hl305 h0298 (.cons _ (.cons_cons _ (.cons _ .slnil)))) ?_
              refine WH.lone (i := 12) (by kernel_rfl) rfl ?_
              obtain ⟨z312, hz313, h⟩ := bnd h
              refine vc rfl rfl rfl (q_call (call_run Tryz.call39 rfl rfl (by kernel_rfl)) (fun w hw => t_firthref05_Same (Γ := Gh.all w) (hr310.mono hw.sat.le_all) hc311 ((hx301 hl297).1.2.2.mono ((satJ (i := 1) rfl hn271) w hw).le_all) (hx301 hl297).1.2.1 (Sat.all w) hz313)) ?_
              refine WR.nil ?_
              refine WH.next (fun w hw => hw.back hl305 h0298 (.cons _ (.cons_cons _ (.cons _ .slnil)))) ?_
              refine ht (i := 13) rfl (by kernel_rfl) rfl rfl rfl (fun w hw => hw.back hl305 h0298 (.cons _ (.cons_cons _ (.cons _ .slnil)))) (q_not rfl rfl) ?_
              refine WH.done (by kernel_rfl) ?_
              change WC _ _ _ _ _ _
              refine WC.cif h (by kernel_rfl) (fun hb314 h => ?_) (fun hb314 h => ?_)
              · skip
                refine WC.rs ?_
                refine va rfl rfl rfl (q_assign (v := .bool false) rfl (by kernel_rfl)) ?_
                refine WR.nil ?_
                change WC _ _ _ _ _ _
                refine WC.ret ?_
                intro w hw
                obtain rfl := Option.some.inj h
                subst hF
                exact ⟨by kernel_rfl, hw.fr⟩
              · skip
                refine WC.skip ?_
                change WC _ _ _ _ _ _
                refine WC.region ?_
                refine va rfl rfl rfl (q_move (v := .int .i64 ((i292 : Nat) : Int)) rfl (by kernel_rfl)) ?_
                refine va rfl rfl rfl (q_add_r (r := ((i292 + 1 : Nat) : Int)) rfl rfl rfl (ctr_len hl297 hr273.le)) ?_
                refine va rfl rfl rfl (q_assign (v := .int .i64 ((i292 + 1 : Nat) : Int)) rfl (by kernel_rfl)) ?_
                refine WR.nil ?_
                intro w hw
                exact ⟨hl297, (), h, Γ304, (sl_ (by kernel_rfl)), hw, (hl290.trans hl305), trivial⟩
            · skip
              have h := hge295 (ige hb296)
              refine WC.exit ?_
              change WC _ _ _ _ _ _
              refine WC.rs ?_
              refine va rfl rfl rfl (q_move (v := .pointer (some ⟨g56, 0, none⟩)) rfl (optp_some rfl hz70)) ?_
              obtain ⟨z315, hz316, h⟩ := bnd h
              refine vc rfl rfl rfl (q_call (call_run Tryz.call28 rfl rfl (by kernel_rfl)) (fun w hw => t_pull_Pull_Done (Γ := Gh.all w) ((ho147.mono (((((hl246.trans hl258).trans hl265).trans hl277).trans hl285).trans hl290)).mono hw.sat.le_all) (hw.ra 0 rfl) (Sat.all w) hz316)) ?_
              refine va rfl rfl rfl (q_move (v := .bool z315) rfl (by kernel_rfl)) ?_
              refine vg1 rfl rfl rfl rfl rfl (fun hg317 => QV.qo (q_move (v := .pointer (some ⟨g46, 0, none⟩)) rfl (optp_some rfl hz73))) ?_
              refine (Bool.eq_false_or_eq_true z315).elim (fun hb318 => ?_) (fun hb318 => ?_)
              · skip
                have h := bt hb318 h
                refine WR.sat (c0 := true) (g := z315) rfl rfl rfl hb318 ?_
                obtain ⟨z319, hz320, h⟩ := bnd h
                refine e_call (is := [2]) rfl rfl (call_run Tryz.call18 rfl rfl (args1 (gu hb318 rfl))) rfl (fun w hp => t_pull_Cut_Vec (ho150.mono (((((hl246.trans hl258).trans hl265).trans hl277).trans hl285).trans hl290)) hp hz320) ?_
                rintro Γ321 U323 v324 hl322 ⟨A325, c326, row327, rfl, rfl, hr328, _⟩
                change WR _ _ _ (CC F Γ321 [row149, row327, row146, J270]) _ _ (upd _ 173 (.slice A325 z319.length c326))
                refine WR.sat (c0 := true) (g := z315) rfl rfl rfl hb318 ?_
                refine e_buildSlice (cs := #[.int .i64 3, .int .i64 4]) (e := 2) rfl rfl rfl rfl (fun w => by kernel_rfl) ?_
                intro g329
                refine WR.sat (c0 := true) (g := z315) rfl rfl rfl hb318 ?_
                have ho330 : Own intT Γ321 2 [(g329, .cells #[.int .i64 3, .int .i64 4] 2 (0, 0))] (some ⟨g329, 0, none⟩) 2 [3, 4] := Own.of_blockL (T := intT) (ys := [3, 4]) [[.int .i64 3], [.int .i64 4]] rfl (show 2 ≤ lim by decide) (show Ty.rd intT Γ321 [.int .i64 3] 3 ∧ Ty.rd intT Γ321 [.int .i64 4] 4 ∧ True from ⟨⟨rfl, (show I64 3 by decide)⟩, ⟨rfl, (show I64 4 by decide)⟩, trivial⟩)
                obtain ⟨z331, hz332, h⟩ := bnd h
                refine vc rfl rfl rfl (q_call (call_run Tryz.call17 rfl rfl (by kernel_rfl)) (fun w hw => t_firthref04_Same (Γ := Gh.all w) (hr328.sl hw.sat.le_all (hw.ra 2 rfl)) hr328.capz (ho330.sl hw.sat.le_all (hw.ra 0 rfl)) ho330.capz (Sat.all w) hz332)) ?_
                refine va rfl rfl rfl (q_pick_t (v := .bool z331) rfl rfl hb318 (by kernel_rfl)) ?_
                refine va rfl rfl rfl (q_move (v := .bool z331) rfl (by kernel_rfl)) ?_
                refine vg1 rfl rfl rfl rfl rfl (fun hg333 => QV.qo (q_move (v := .pointer (some ⟨g56, 0, none⟩)) rfl (optp_some rfl hz70))) ?_
                refine (Bool.eq_false_or_eq_true z331).elim (fun hb334 => ?_) (fun hb334 => ?_)
                · skip
                  have h := bt hb334 h
                  refine WR.sat (c0 := true) (g := z331) rfl rfl rfl hb334 ?_
                  obtain ⟨z335, hz336, h⟩ := bnd h
                  refine e_call (is := [3]) rfl rfl (call_run Tryz.call33 rfl rfl (args1 (gu hb334 rfl))) rfl (fun w hp => t_pull_Pull_Vec (ho147.mono ((((((hl246.trans hl258).trans hl265).trans hl277).trans hl285).trans hl290).trans hl322)) hp hz336) ?_
                  rintro Γ337 U339 v340 hl338 ⟨A341, c342, row343, rfl, rfl, hr344, _⟩
                  change WR _ _ _ (CC F Γ337 [row146, row343, [(g329, .cells #[.int .i64 3, .int .i64 4] 2 (0, 0))], row149, row327, J270]) _ _ (upd _ 179 (.slice A341 z335.length c342))
                  refine WR.sat (c0 := true) (g := z331) rfl rfl rfl hb334 ?_
                  refine e_buildSlice (cs := #[.int .i64 3, .int .i64 4]) (e := 2) rfl rfl rfl rfl (fun w => by kernel_rfl) ?_
                  intro g345
                  refine WR.sat (c0 := true) (g := z331) rfl rfl rfl hb334 ?_
                  have ho346 : Own intT Γ337 2 [(g345, .cells #[.int .i64 3, .int .i64 4] 2 (0, 0))] (some ⟨g345, 0, none⟩) 2 [3, 4] := Own.of_blockL (T := intT) (ys := [3, 4]) [[.int .i64 3], [.int .i64 4]] rfl (show 2 ≤ lim by decide) (show Ty.rd intT Γ337 [.int .i64 3] 3 ∧ Ty.rd intT Γ337 [.int .i64 4] 4 ∧ True from ⟨⟨rfl, (show I64 3 by decide)⟩, ⟨rfl, (show I64 4 by decide)⟩, trivial⟩)
                  obtain ⟨z347, hz348, h⟩ := bnd h
                  refine vc rfl rfl rfl (q_call (call_run Tryz.call17 rfl rfl (by kernel_rfl)) (fun w hw => t_firthref04_Same (Γ := Gh.all w) (hr344.sl hw.sat.le_all (hw.ra 2 rfl)) hr344.capz (ho346.sl hw.sat.le_all (hw.ra 0 rfl)) ho346.capz (Sat.all w) hz348)) ?_
                  refine va rfl rfl rfl (q_pick_t (v := .bool z347) rfl rfl hb334 (by kernel_rfl)) ?_
                  refine va rfl rfl rfl (q_assign (v := .bool z347) rfl (by kernel_rfl)) ?_
                  refine WR.nil ?_
                  change WC _ _ _ _ _ _
                  refine WC.ret ?_
                  intro w hw
                  obtain rfl := Option.some.inj h
                  subst hF
                  exact ⟨by kernel_rfl, hw.fr⟩
                · skip
                  have h := bf hb334 h
                  refine WR.unsat (c0 := true) (g := z331) rfl rfl rfl hb334 rfl ?_
                  refine WR.unsat (c0 := true) (g := z331) rfl rfl rfl hb334 rfl ?_
                  refine WR.unsat (c0 := true) (g := z331) rfl rfl rfl hb334 rfl ?_
                  refine va rfl rfl rfl (q_pick_f (v := .bool false) rfl rfl hb334 (by kernel_rfl)) ?_
                  refine va rfl rfl rfl (q_assign (v := .bool false) rfl (by kernel_rfl)) ?_
                  refine WR.nil ?_
                  change WC _ _ _ _ _ _
                  refine WC.ret ?_
                  intro w hw
                  obtain rfl := Option.some.inj h
                  subst hF
                  exact ⟨by kernel_rfl, hw.fr⟩
              · skip
                have h := bf hb318 h
                refine WR.unsat (c0 := true) (g := z315) rfl rfl rfl hb318 rfl ?_
                refine WR.unsat (c0 := true) (g := z315) rfl rfl rfl hb318 rfl ?_
                refine WR.unsat (c0 := true) (g := z315) rfl rfl rfl hb318 rfl ?_
                refine va rfl rfl rfl (q_pick_f (v := .bool false) rfl rfl hb318 (by kernel_rfl)) ?_
                refine va rfl rfl rfl (q_move (v := .bool false) rfl (by kernel_rfl)) ?_
                refine WR.unsat (c0 := true) (g := false) rfl rfl rfl rfl rfl ?_
                refine WR.unsat (c0 := true) (g := false) rfl rfl rfl rfl rfl ?_
                refine WR.unsat (c0 := true) (g := false) rfl rfl rfl rfl rfl ?_
                refine WR.unsat (c0 := true) (g := false) rfl rfl rfl rfl rfl ?_
                refine va rfl rfl rfl (q_pickf (v := .bool false) rfl rfl rfl) ?_
                refine va rfl rfl rfl (q_assign (v := .bool false) rfl (by kernel_rfl)) ?_
                refine WR.nil ?_
                change WC _ _ _ _ _ _
                refine WC.ret ?_
                intro w hw
                obtain rfl := Option.some.inj h
                subst hF
                exact ⟨by kernel_rfl, hw.fr⟩
end Fw
end Go.Proofs.YtiakfgdgafljnaaGreat
