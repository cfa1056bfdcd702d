/- Walks through the functions that the law reaches (printed by a program). No condition. -/
import Derived.Test.YtlbdlkgboliikaaW2
namespace Go.Proofs.Ytlbdlkgboliikaa
namespace Fw
set_option linter.unusedVariables false
set_option linter.unusedSimpArgs false
set_option linter.unusedSectionVars false
open Go.RowKit
abbrev r_firthref05_Merge (r : (List Ver) × Int) (U : List Rowb) (Γ : Gh) (v : Value) : Prop := ∃ (A0 : Option Addr), ∃ (c0 : Nat), v = .tuple #[.slice A0 r.1.length c0, .int .i64 r.2] ∧ U = [] ∧ r.1.length ≤ c0 ∧ Sl verT Γ A0 r.1 ∧ I64 r.2 ∧ True
set_option maxRecDepth 100000 in
set_option maxHeartbeats 400000 in
theorem t_firthref05_Merge {Γ : Gh} {w0 : World} {Aa : Option Addr} {ca : Nat} {a : List Ver} (ha : Sl verT Γ Aa a) (hac : a.length ≤ ca) {Ab : Option Addr} {cb : Nat} {b : List Ver} (hb : Sl verT Γ Ab b) (hbc : b.length ≤ cb) (hp : Pre [] Γ w0) {r : (List Ver) × Int} (h : m_firthref05_Merge a b = some r) : Calls Try.prog 31 #[.slice Aa a.length ca, .slice Ab b.length cb] w0 (Outc Γ [] w0 (r_firthref05_Merge r)) := by
  refine calls_of (N := 98) (rs := [4, 5]) (args := [.slice Aa a.length ca, .slice Ab b.length cb]) Try.func31 rfl Try.ntmps31 Try.results31 rfl ?_
  obtain ⟨F, hF⟩ : ∃ F : Fm, F = ⟨ids [], w0, Γ⟩ := ⟨_, rfl⟩
  refine WC.here (C := CC F Γ []) ?_ (hF ▸ hp.start)
  refine WC.rs ?_
  refine va rfl rfl rfl (q_assign (v := .slice none 0 0) rfl (by kernel_rfl)) ?_
  refine va rfl rfl rfl (q_assign (v := .int .i64 0) rfl (by kernel_rfl)) ?_
  refine WR.nil ?_
  change WC _ _ _ _ _ _
  refine WC.seq ?_
  refine WC.rs ?_
  refine va rfl rfl rfl (q_move (v := .slice Aa a.length ca) rfl (by kernel_rfl)) ?_
  obtain ⟨z1, hz2, h⟩ := bnd h
  refine vc rfl rfl rfl (q_call (call_run Try.call29 rfl rfl (by kernel_rfl)) (fun w hw => t_firthref05_Right (ha.mono hw.sat.le_all) hac (Sat.all w) hz2)) ?_
  refine va rfl rfl rfl (q_not rfl rfl) ?_
  refine va rfl rfl rfl (q_move (v := .bool (!z1)) rfl (by kernel_rfl)) ?_
  refine vg0 rfl rfl rfl rfl rfl (fun hg3 => QV.qo (q_move (v := .slice Ab b.length cb) rfl (by kernel_rfl))) ?_
  obtain ⟨z5, hz6, h⟩ := bnd h
  refine vg0 rfl rfl rfl rfl rfl (fun hg4 => (q_call (call_run Try.call29 rfl rfl (args1 (gu hg4 rfl))) (fun w hw => t_firthref05_Right (hb.mono hw.sat.le_all) hbc (Sat.all w) (gc_of hz6 hg4)))) ?_
  refine vg0 rfl rfl rfl rfl rfl (fun hg7 => QV.qo (q_not rfl (gu hg7 rfl))) ?_
  refine va rfl rfl rfl (q_pick rfl rfl (pk_or' (g := (!z1)) (y := (!z5)))) ?_
  refine WR.nil ?_
  change WC _ _ _ _ _ _
  refine WC.cif h (by kernel_rfl) (fun hb8 h => ?_) (fun hb8 h => ?_)
  · skip
    refine WC.rs ?_
    refine va rfl rfl rfl (q_assign (v := .slice none 0 0) rfl (by kernel_rfl)) ?_
    refine va rfl rfl rfl (q_assign (v := .int .i64 1) rfl (by kernel_rfl)) ?_
    refine WR.nil ?_
    change WC _ _ _ _ _ _
    refine WC.ret ?_
    intro w hw
    obtain rfl := Option.some.inj h
    subst hF
    exact end_e (is := []) (by kernel_rfl) hw rfl ⟨none, 0, rfl, rfl, (Nat.zero_le 0), (Sl.nil verT _ none), (show I64 1 by decide), trivial⟩
  · skip
    refine WC.skip ?_
    change WC _ _ _ _ _ _
    refine WC.seq ?_
    refine WC.rs ?_
    refine va rfl rfl rfl (q_assign (v := .int .i64 0) rfl (by kernel_rfl)) ?_
    refine WR.nil ?_
    change WC _ _ _ _ _ _
    refine WC.block ?_
    refine WC.forI h (fun (i10 : Nat) (s : Unit) σ w => match s with | () => slots σ [(0, .slice Aa a.length ca), (1, .slice Ab b.length cb), (6, .int .i64 ((i10 : Nat) : Int))] ∧ CC F Γ [] w ∧ True) ?_ ?_
    · skip
      intro w hw
      exact ⟨(sl_ (by kernel_rfl)), hw, trivial⟩
    rintro f9 i10 ⟨⟩ σ w hi11 hlt12 hge13 ⟨hsl, hw, -⟩
    refine Wpt.slots hsl ?_
    refine WC.here (C := CC F Γ []) ?_ hw
    clear hw hsl
    refine WC.seq ?_
    refine WC.rs ?_
    refine va rfl rfl rfl (q_move (v := .int .i64 ((i10 : Nat) : Int)) rfl (by kernel_rfl)) ?_
    refine va rfl rfl rfl (q_move (v := .slice Aa a.length ca) rfl (by kernel_rfl)) ?_
    refine va rfl rfl rfl (q_len_slice rfl Try.underlying40 rfl) ?_
    refine va rfl rfl rfl (q_lss rfl rfl rfl) ?_
    refine WR.nil ?_
    change WC _ _ _ _ _ _
    refine WC.cond (b := (decide (((i10 : Nat) : Int) < ((a.length : Nat) : Int)))) (by kernel_rfl) (fun hb14 => ?_) (fun hb14 => ?_)
    · skip
      have hl15 := ilt hb14
      have h := hlt12 hl15
      refine WC.skip ?_
      change WC _ _ _ _ _ _
      refine WC.seq ?_
      refine WC.block ?_
      refine WC.rs ?_
      refine va rfl rfl rfl (q_assign (v := .int .i64 0) rfl (by kernel_rfl)) ?_
      refine WR.nil ?_
      change WC _ _ _ _ _ _
      refine WC.block ?_
      refine WC.forI h (fun (i17 : Nat) (s : Unit) σ w => match s with | () => slots σ [(0, .slice Aa a.length ca), (1, .slice Ab b.length cb), (6, .int .i64 ((i10 : Nat) : Int)), (7, .int .i64 ((i17 : Nat) : Int))] ∧ CC F Γ [] w ∧ True) ?_ ?_
      · skip
        intro w hw
        exact ⟨(sl_ (by kernel_rfl)), hw, trivial⟩
      rintro f16 i17 ⟨⟩ σ w hi18 hlt19 hge20 ⟨hsl, hw, -⟩
      refine Wpt.slots hsl ?_
      refine WC.here (C := CC F Γ []) ?_ hw
      clear hw hsl
      refine WC.seq ?_
      refine WC.rs ?_
      refine va rfl rfl rfl (q_move (v := .int .i64 ((i17 : Nat) : Int)) rfl (by kernel_rfl)) ?_
      refine va rfl rfl rfl (q_move (v := .slice Ab b.length cb) rfl (by kernel_rfl)) ?_
      refine va rfl rfl rfl (q_len_slice rfl Try.underlying40 rfl) ?_
      refine va rfl rfl rfl (q_lss rfl rfl rfl) ?_
      refine WR.nil ?_
      change WC _ _ _ _ _ _
      refine WC.cond (b := (decide (((i17 : Nat) : Int) < ((b.length : Nat) : Int)))) (by kernel_rfl) (fun hb21 => ?_) (fun hb21 => ?_)
      · skip
        have hl22 := ilt hb21
        have h := hlt19 hl22
        refine WC.skip ?_
        change WC _ _ _ _ _ _
        refine WC.seq ?_
        refine WC.block ?_
        refine WC.seq ?_
        refine WC.dr (by kernel_rfl) (by kernel_rfl) (fun w hw => hw.drawn _) ?_
        refine wa rfl rfl rfl (q_move (v := .slice Aa a.length ca) rfl (by kernel_rfl)) ?_
        refine wa rfl rfl rfl (q_move (v := .int .i64 ((i10 : Nat) : Int)) rfl (by kernel_rfl)) ?_
        refine wa rfl rfl rfl (q_ixn (i := i10) Try.underlying40 Try.sizeOf58 rfl rfl rfl hl15 (ha.some_ hl15)) ?_
        refine wa rfl rfl rfl (q_field_addr (i10 * 5) fld_58_0 rfl rfl (ha.some_ hl15) rfl) ?_
        obtain ⟨A23, c24, hx25⟩ := ha.verT_at i10
        refine wa rfl rfl rfl (q_lda (c := 0) (vs := [.int .i64 (gt a i10).dot.s, .int .i64 (gt a i10).dot.n]) (hx25 hl15).2 rfl Try.isAgg55 Try.sizeOf55 rfl rfl rfl) ?_
        refine wa rfl rfl rfl (q_move (v := .slice Ab b.length cb) rfl (by kernel_rfl)) ?_
        refine wa rfl rfl rfl (q_move (v := .int .i64 ((i17 : Nat) : Int)) rfl (by kernel_rfl)) ?_
        refine wa rfl rfl rfl (q_ixn (i := i17) Try.underlying40 Try.sizeOf58 rfl rfl rfl hl22 (hb.some_ hl22)) ?_
        refine wa rfl rfl rfl (q_field_addr (i17 * 5) fld_58_0 rfl rfl (hb.some_ hl22) rfl) ?_
        obtain ⟨A26, c27, hx28⟩ := hb.verT_at i17
        refine wa rfl rfl rfl (q_lda (c := 0) (vs := [.int .i64 (gt b i17).dot.s, .int .i64 (gt b i17).dot.n]) (hx28 hl22).2 rfl Try.isAgg55 Try.sizeOf55 rfl rfl rfl) ?_
        refine wa rfl rfl rfl (q_eql_Dot (a := (gt a i10).dot) (b := (gt b i17).dot) rfl rfl rfl) ?_
        refine wa rfl rfl rfl (q_move (v := .bool ((gt a i10).dot == (gt b i17).dot)) rfl (by kernel_rfl)) ?_
        refine wg1 rfl rfl rfl rfl rfl (fun hg29 => QV.qo (q_move (v := .slice Aa a.length ca) rfl (by kernel_rfl))) ?_
        refine wg1 rfl rfl rfl rfl rfl (fun hg30 => QV.qo (q_move (v := .int .i64 ((i10 : Nat) : Int)) rfl (by kernel_rfl))) ?_
        refine wg1 rfl rfl rfl rfl rfl (fun hg31 => QV.qo (q_ixn (i := i10) Try.underlying40 Try.sizeOf58 rfl (gu hg31 rfl) (gu hg31 rfl) hl15 (ha.some_ hl15))) ?_
        refine wg1 rfl rfl rfl rfl rfl (fun hg32 => QV.qo (q_lda (c := 0) (vs := [.int .i64 (gt a i10).dot.s, .int .i64 (gt a i10).dot.n, .slice A23 ((gt a i10).past).length c24, .bool (gt a i10).gone, .string (gt a i10).val]) (hx25 hl15).2 rfl Try.isAgg58 Try.sizeOf58 (gu hg32 rfl) rfl rfl)) ?_
        refine wg1 rfl rfl rfl rfl rfl (fun hg33 => QV.qo (q_move (v := .slice Ab b.length cb) rfl (by kernel_rfl))) ?_
        refine wg1 rfl rfl rfl rfl rfl (fun hg34 => QV.qo (q_move (v := .int .i64 ((i17 : Nat) : Int)) rfl (by kernel_rfl))) ?_
        refine wg1 rfl rfl rfl rfl rfl (fun hg35 => QV.qo (q_ixn (i := i17) Try.underlying40 Try.sizeOf58 rfl (gu hg35 rfl) (gu hg35 rfl) hl22 (hb.some_ hl22))) ?_
        refine wg1 rfl rfl rfl rfl rfl (fun hg36 => QV.qo (q_lda (c := 0) (vs := [.int .i64 (gt b i17).dot.s, .int .i64 (gt b i17).dot.n, .slice A26 ((gt b i17).past).length c27, .bool (gt b i17).gone, .string (gt b i17).val]) (hx28 hl22).2 rfl Try.isAgg58 Try.sizeOf58 (gu hg36 rfl) rfl rfl)) ?_
        obtain ⟨z38, hz39, h⟩ := bnd h
        refine wg1 rfl rfl rfl rfl rfl (fun hg37 => (q_call (call_run Try.call46 rfl rfl (args2 (gu hg37 rfl) (gu hg37 rfl))) (fun w hw => t_firthref05_SameOne (gt a i10) (Ver.fits_mono (hx25 hl15).1 hw.sat.le_all) (gt b i17) (Ver.fits_mono (hx28 hl22).1 hw.sat.le_all) (Sat.all w) (gc_of hz39 hg37)))) ?_
        refine wg1 rfl rfl rfl rfl rfl (fun hg40 => QV.qo (q_not rfl (gu hg40 rfl))) ?_
        refine wa rfl rfl rfl (q_pick rfl rfl (pk_and' (g := ((gt a i10).dot == (gt b i17).dot)) (y := (!z38)))) ?_
        refine WQ.nil ?_
        change WC _ _ _ _ _ _
        refine WC.cif h (by kernel_rfl) (fun hb41 h => ?_) (fun hb41 h => ?_)
        · skip
          refine WC.rs ?_
          refine va rfl rfl rfl (q_assign (v := .slice none 0 0) rfl (by kernel_rfl)) ?_
          refine va rfl rfl rfl (q_assign (v := .int .i64 50) rfl (by kernel_rfl)) ?_
          refine WR.nil ?_
          change WC _ _ _ _ _ _
          refine WC.ret ?_
          intro w hw
          obtain rfl := Option.some.inj h
          subst hF
          exact end_e (is := []) (by kernel_rfl) hw rfl ⟨none, 0, rfl, rfl, (Nat.zero_le 0), (Sl.nil verT _ none), (show I64 50 by decide), trivial⟩
        · skip
          refine WC.skip ?_
          change WC _ _ _ _ _ _
          refine WC.region ?_
          refine va rfl rfl rfl (q_move (v := .int .i64 ((i17 : Nat) : Int)) rfl (by kernel_rfl)) ?_
          refine va rfl rfl rfl (q_add_r (r := ((i17 + 1 : Nat) : Int)) rfl rfl rfl (ctr_len hl22 hb.le)) ?_
          refine va rfl rfl rfl (q_assign (v := .int .i64 ((i17 + 1 : Nat) : Int)) rfl (by kernel_rfl)) ?_
          refine WR.nil ?_
          intro w hw
          exact ⟨hl22, (), h, (sl_ (by kernel_rfl)), hw, trivial⟩
      · skip
        have h := hge20 (ige hb21)
        refine WC.exit ?_
        change WC _ _ _ _ _ _
        refine WC.region ?_
        refine va rfl rfl rfl (q_move (v := .int .i64 ((i10 : Nat) : Int)) rfl (by kernel_rfl)) ?_
        refine va rfl rfl rfl (q_add_r (r := ((i10 + 1 : Nat) : Int)) rfl rfl rfl (ctr_len hl15 ha.le)) ?_
        refine va rfl rfl rfl (q_assign (v := .int .i64 ((i10 + 1 : Nat) : Int)) rfl (by kernel_rfl)) ?_
        refine WR.nil ?_
        intro w hw
        exact ⟨hl15, (), h, (sl_ (by kernel_rfl)), hw, trivial⟩
    · skip
      have h := hge13 (ige hb14)
      refine WC.exit ?_
      change WC _ _ _ _ _ _
      refine WC.rs ?_
      refine va rfl rfl rfl (q_assign (v := .slice none 0 0) rfl (by kernel_rfl)) ?_
      refine WR.nil ?_
      change WC _ _ _ _ _ _
      refine WC.seq ?_
      refine WC.rs ?_
      refine va rfl rfl rfl (q_assign (v := .int .i64 0) rfl (by kernel_rfl)) ?_
      refine WR.nil ?_
      change WC _ _ _ _ _ _
      refine WC.block ?_
      refine WC.forI h (fun (i50 : Nat) (out_44 : List Ver) σ w => ∃ (Γ42 : Gh), ∃ (A45 : Option Addr), ∃ (c46 : Nat), slots σ [(0, .slice Aa a.length ca), (1, .slice Ab b.length cb), (8, .slice A45 out_44.length c46), (9, .int .i64 ((i50 : Nat) : Int))] ∧ CC F Γ42 [] w ∧ Gh.le Γ Γ42 ∧ out_44.length ≤ c46 ∧ Sl verT Γ42 A45 out_44 ∧ True) ?_ ?_
      · skip
        intro w hw
        exact ⟨Γ, none, 0, (sl_ (by kernel_rfl)), hw, (Gh.refl _), (Nat.zero_le 0), (Sl.nil verT _ none), trivial⟩
      rintro f49 i50 out_44 σ w hi51 hlt52 hge53 ⟨Γ42, A45, c46, hsl, hw, hl43, hc48, hs47, -⟩
      refine Wpt.slots hsl ?_
      refine WC.here (C := CC F Γ42 []) ?_ hw
      clear hw hsl
      refine WC.seq ?_
      refine WC.rs ?_
      refine va rfl rfl rfl (q_move (v := .int .i64 ((i50 : Nat) : Int)) rfl (by kernel_rfl)) ?_
      refine va rfl rfl rfl (q_move (v := .slice Aa a.length ca) rfl (by kernel_rfl)) ?_
      refine va rfl rfl rfl (q_len_slice rfl Try.underlying40 rfl) ?_
      refine va rfl rfl rfl (q_lss rfl rfl rfl) ?_
      refine WR.nil ?_
      change WC _ _ _ _ _ _
      refine WC.cond (b := (decide (((i50 : Nat) : Int) < ((a.length : Nat) : Int)))) (by kernel_rfl) (fun hb54 => ?_) (fun hb54 => ?_)
      · skip
        have hl55 := ilt hb54
        have h := hlt52 hl55
        refine WC.skip ?_
        change WC _ _ _ _ _ _
        refine WC.cut (fun σ w => ∃ (out_58 : List Ver), ∃ (Γ56 : Gh), ∃ (A59 : Option Addr), ∃ (c60 : Nat), m_firthref05_Merge_j10 f49 out_58 = some r ∧ slots σ [(0, .slice Aa a.length ca), (1, .slice Ab b.length cb), (8, .slice A59 out_58.length c60), (9, .int .i64 ((i50 : Nat) : Int))] ∧ CC F Γ56 [] w ∧ Gh.le Γ42 Γ56 ∧ out_58.length ≤ c60 ∧ Sl verT Γ56 A59 out_58 ∧ True) ?_ ?_
        · skip
          refine WC.block ?_
          refine WC.rs ?_
          refine va rfl rfl rfl (q_move (v := .slice Ab b.length cb) rfl (by kernel_rfl)) ?_
          refine va rfl rfl rfl (q_move (v := .slice Aa a.length ca) rfl (by kernel_rfl)) ?_
          refine va rfl rfl rfl (q_move (v := .int .i64 ((i50 : Nat) : Int)) rfl (by kernel_rfl)) ?_
          refine va rfl rfl rfl (q_ixn (i := i50) Try.underlying40 Try.sizeOf58 rfl rfl rfl hl55 ((ha.mono hl43).some_ hl55)) ?_
          refine va rfl rfl rfl (q_field_addr (i50 * 5) fld_58_0 rfl rfl ((ha.mono hl43).some_ hl55) rfl) ?_
          obtain ⟨A63, c64, hx65⟩ := (ha.mono hl43).verT_at i50
          refine va rfl rfl rfl (q_lda (c := 0) (vs := [.int .i64 (gt a i50).dot.s, .int .i64 (gt a i50).dot.n]) (hx65 hl55).2 rfl Try.isAgg55 Try.sizeOf55 rfl rfl rfl) ?_
          obtain ⟨z66, hz67, h⟩ := bnd h
          refine vc rfl rfl rfl (q_call (call_run Try.call32 rfl rfl (by kernel_rfl)) (fun w hw => t_firthref05_Behind ((hb.mono hl43).mono hw.sat.le_all) hbc ((gt a i50).dot) ⟨(hx65 hl55).1.1, (hx65 hl55).1.2.1⟩ (Sat.all w) hz67)) ?_
          refine va rfl rfl rfl (q_not rfl rfl) ?_
          refine WR.nil ?_
          change WC _ _ _ _ _ _
          refine WC.cif h (by kernel_rfl) (fun hb68 h => ?_) (fun hb68 h => ?_)
          · skip
            refine WC.region ?_
            refine va rfl rfl rfl (q_move (v := .slice A45 out_44.length c46) rfl (by kernel_rfl)) ?_
            refine va rfl rfl rfl (q_move (v := .slice Aa a.length ca) rfl (by kernel_rfl)) ?_
            refine va rfl rfl rfl (q_move (v := .int .i64 ((i50 : Nat) : Int)) rfl (by kernel_rfl)) ?_
            refine va rfl rfl rfl (q_ixn (i := i50) Try.underlying40 Try.sizeOf58 rfl rfl rfl hl55 ((ha.mono hl43).some_ hl55)) ?_
            refine va rfl rfl rfl (q_lda (c := 0) (vs := [.int .i64 (gt a i50).dot.s, .int .i64 (gt a i50).dot.n, .slice A63 ((gt a i50).past).length c64, .bool (gt a i50).gone, .string (gt a i50).val]) (hx65 hl55).2 rfl Try.isAgg58 Try.sizeOf58 rfl rfl rfl) ?_
            obtain ⟨z69, hz70, h⟩ := bnd h
            refine e_call (is := []) rfl rfl (call_run Try.call54 rfl rfl (by kernel_rfl)) rfl (fun w hp => t_firthref05_put hs47 hc48 (gt a i50) (hx65 hl55).1 hp hz70) ?_
            rintro Γ71 U73 v74 hl72 ⟨A75, c76, rfl, rfl, hc78, hr77, _⟩
            change WR _ _ _ (CC F Γ71 []) _ _ (upd _ 73 (.slice A75 z69.length c76))
            refine va rfl rfl rfl (q_assign (v := .slice A75 z69.length c76) rfl (by kernel_rfl)) ?_
            refine WR.nil ?_
            intro w hw
            exact ⟨z69, Γ71, A75, c76, h, (sl_ (by kernel_rfl)), hw, hl72, hc78, hr77, trivial⟩
          · skip
            refine WC.skip ?_
            intro w hw
            exact ⟨out_44, Γ42, A45, c46, h, (sl_ (by kernel_rfl)), hw, (Gh.refl _), hc48, hs47, trivial⟩
        · skip
          rintro σ w ⟨out_58, Γ56, A59, c60, h, hsl, hw, hl57, hc62, hs61, -⟩
          refine Wpt.slots hsl ?_
          refine WC.here (C := CC F Γ56 []) ?_ hw
          clear hw hsl
          refine WC.region ?_
          refine va rfl rfl rfl (q_move (v := .int .i64 ((i50 : Nat) : Int)) rfl (by kernel_rfl)) ?_
          refine va rfl rfl rfl (q_add_r (r := ((i50 + 1 : Nat) : Int)) rfl rfl rfl (ctr_len hl55 (ha.mono hl43).le)) ?_
          refine va rfl rfl rfl (q_assign (v := .int .i64 ((i50 + 1 : Nat) : Int)) rfl (by kernel_rfl)) ?_
          refine WR.nil ?_
          intro w hw
          exact ⟨hl55, out_58, h, Γ56, A59, c60, (sl_ (by kernel_rfl)), hw, (hl43.trans hl57), hc62, hs61, trivial⟩
      · skip
        have h := hge53 (ige hb54)
        refine WC.exit ?_
        change WC _ _ _ _ _ _
        refine WC.seq ?_
        refine WC.rs ?_
        refine va rfl rfl rfl (q_assign (v := .int .i64 0) rfl (by kernel_rfl)) ?_
        refine WR.nil ?_
        change WC _ _ _ _ _ _
        refine WC.block ?_
        refine WC.forI h (fun (i87 : Nat) (out_81 : List Ver) σ w => ∃ (Γ79 : Gh), ∃ (A82 : Option Addr), ∃ (c83 : Nat), slots σ [(0, .slice Aa a.length ca), (1, .slice Ab b.length cb), (8, .slice A82 out_81.length c83), (10, .int .i64 ((i87 : Nat) : Int))] ∧ CC F Γ79 [] w ∧ Gh.le Γ42 Γ79 ∧ out_81.length ≤ c83 ∧ Sl verT Γ79 A82 out_81 ∧ True) ?_ ?_
        · skip
          intro w hw
          exact ⟨Γ42, A45, c46, (sl_ (by kernel_rfl)), hw, (Gh.refl _), hc48, hs47, trivial⟩
        rintro f86 i87 out_81 σ w hi88 hlt89 hge90 ⟨Γ79, A82, c83, hsl, hw, hl80, hc85, hs84, -⟩
        refine Wpt.slots hsl ?_
        refine WC.here (C := CC F Γ79 []) ?_ hw
        clear hw hsl
        refine WC.seq ?_
        refine WC.rs ?_
        refine va rfl rfl rfl (q_move (v := .int .i64 ((i87 : Nat) : Int)) rfl (by kernel_rfl)) ?_
        refine va rfl rfl rfl (q_move (v := .slice Ab b.length cb) rfl (by kernel_rfl)) ?_
        refine va rfl rfl rfl (q_len_slice rfl Try.underlying40 rfl) ?_
        refine va rfl rfl rfl (q_lss rfl rfl rfl) ?_
        refine WR.nil ?_
        change WC _ _ _ _ _ _
        refine WC.cond (b := (decide (((i87 : Nat) : Int) < ((b.length : Nat) : Int)))) (by kernel_rfl) (fun hb91 => ?_) (fun hb91 => ?_)
        · skip
          have hl92 := ilt hb91
          have h := hlt89 hl92
          refine WC.skip ?_
          change WC _ _ _ _ _ _
          refine WC.cut (fun σ w => ∃ (out_95 : List Ver), ∃ (Γ93 : Gh), ∃ (A96 : Option Addr), ∃ (c97 : Nat), m_firthref05_Merge_j15 f86 out_95 = some r ∧ slots σ [(0, .slice Aa a.length ca), (1, .slice Ab b.length cb), (8, .slice A96 out_95.length c97), (10, .int .i64 ((i87 : Nat) : Int))] ∧ CC F Γ93 [] w ∧ Gh.le Γ79 Γ93 ∧ out_95.length ≤ c97 ∧ Sl verT Γ93 A96 out_95 ∧ True) ?_ ?_
          · skip
            refine WC.block ?_
            refine WC.rs ?_
            refine va rfl rfl rfl (q_move (v := .slice Aa a.length ca) rfl (by kernel_rfl)) ?_
            refine va rfl rfl rfl (q_move (v := .slice Ab b.length cb) rfl (by kernel_rfl)) ?_
            refine va rfl rfl rfl (q_move (v := .int .i64 ((i87 : Nat) : Int)) rfl (by kernel_rfl)) ?_
            refine va rfl rfl rfl (q_ixn (i := i87) Try.underlying40 Try.sizeOf58 rfl rfl rfl hl92 ((hb.mono (hl43.trans hl80)).some_ hl92)) ?_
            refine va rfl rfl rfl (q_field_addr (i87 * 5) fld_58_0 rfl rfl ((hb.mono (hl43.trans hl80)).some_ hl92) rfl) ?_
            obtain ⟨A100, c101, hx102⟩ := (hb.mono (hl43.trans hl80)).verT_at i87
            refine va rfl rfl rfl (q_lda (c := 0) (vs := [.int .i64 (gt b i87).dot.s, .int .i64 (gt b i87).dot.n]) (hx102 hl92).2 rfl Try.isAgg55 Try.sizeOf55 rfl rfl rfl) ?_
            obtain ⟨z103, hz104, h⟩ := bnd h
            refine vc rfl rfl rfl (q_call (call_run Try.call32 rfl rfl (by kernel_rfl)) (fun w hw => t_firthref05_Behind ((ha.mono (hl43.trans hl80)).mono hw.sat.le_all) hac ((gt b i87).dot) ⟨(hx102 hl92).1.1, (hx102 hl92).1.2.1⟩ (Sat.all w) hz104)) ?_
            refine va rfl rfl rfl (q_not rfl rfl) ?_
            refine WR.nil ?_
            change WC _ _ _ _ _ _
            refine WC.cif h (by kernel_rfl) (fun hb105 h => ?_) (fun hb105 h => ?_)
            · skip
              refine WC.region ?_
              refine va rfl rfl rfl (q_move (v := .slice A82 out_81.length c83) rfl (by kernel_rfl)) ?_
              refine va rfl rfl rfl (q_move (v := .slice Ab b.length cb) rfl (by kernel_rfl)) ?_
              refine va rfl rfl rfl (q_move (v := .int .i64 ((i87 : Nat) : Int)) rfl (by kernel_rfl)) ?_
              refine va rfl rfl rfl (q_ixn (i := i87) Try.underlying40 Try.sizeOf58 rfl rfl rfl hl92 ((hb.mono (hl43.trans hl80)).some_ hl92)) ?_
              refine va rfl rfl rfl (q_lda (c := 0) (vs := [.int .i64 (gt b i87).dot.s, .int .i64 (gt b i87).dot.n, .slice A100 ((gt b i87).past).length c101, .bool (gt b i87).gone, .string (gt b i87).val]) (hx102 hl92).2 rfl Try.isAgg58 Try.sizeOf58 rfl rfl rfl) ?_
              obtain ⟨z106, hz107, h⟩ := bnd h
              refine e_call (is := []) rfl rfl (call_run Try.call54 rfl rfl (by kernel_rfl)) rfl (fun w hp => t_firthref05_put hs84 hc85 (gt b i87) (hx102 hl92).1 hp hz107) ?_
              rintro Γ108 U110 v111 hl109 ⟨A112, c113, rfl, rfl, hc115, hr114, _⟩
              change WR _ _ _ (CC F Γ108 []) _ _ (upd _ 93 (.slice A112 z106.length c113))
              refine va rfl rfl rfl (q_assign (v := .slice A112 z106.length c113) rfl (by kernel_rfl)) ?_
              refine WR.nil ?_
              intro w hw
              exact ⟨z106, Γ108, A112, c113, h, (sl_ (by kernel_rfl)), hw, hl109, hc115, hr114, trivial⟩
            · skip
              refine WC.skip ?_
              intro w hw
              exact ⟨out_81, Γ79, A82, c83, h, (sl_ (by kernel_rfl)), hw, (Gh.refl _), hc85, hs84, trivial⟩
          · skip
            rintro σ w ⟨out_95, Γ93, A96, c97, h, hsl, hw, hl94, hc99, hs98, -⟩
            refine Wpt.slots hsl ?_
            refine WC.here (C := CC F Γ93 []) ?_ hw
            clear hw hsl
            refine WC.region ?_
            refine va rfl rfl rfl (q_move (v := .int .i64 ((i87 : Nat) : Int)) rfl (by kernel_rfl)) ?_
            refine va rfl rfl rfl (q_add_r (r := ((i87 + 1 : Nat) : Int)) rfl rfl rfl (ctr_len hl92 (hb.mono (hl43.trans hl80)).le)) ?_
            refine va rfl rfl rfl (q_assign (v := .int .i64 ((i87 + 1 : Nat) : Int)) rfl (by kernel_rfl)) ?_
            refine WR.nil ?_
            intro w hw
            exact ⟨hl92, out_95, h, Γ93, A96, c97, (sl_ (by kernel_rfl)), hw, (hl80.trans hl94), hc99, hs98, trivial⟩
        · skip
          have h := hge90 (ige hb91)
          refine WC.exit ?_
          change WC _ _ _ _ _ _
          refine WC.seq ?_
          refine WC.rs ?_
          refine va rfl rfl rfl (q_move (v := .slice A82 out_81.length c83) rfl (by kernel_rfl)) ?_
          refine va rfl rfl rfl (q_len_slice rfl Try.underlying40 rfl) ?_
          refine va rfl rfl rfl (q_gtr rfl rfl rfl) ?_
          refine WR.nil ?_
          change WC _ _ _ _ _ _
          refine WC.cif h (by kernel_rfl) (fun hb116 h => ?_) (fun hb116 h => ?_)
          · skip
            refine WC.rs ?_
            refine va rfl rfl rfl (q_assign (v := .slice none 0 0) rfl (by kernel_rfl)) ?_
            refine va rfl rfl rfl (q_assign (v := .int .i64 3) rfl (by kernel_rfl)) ?_
            refine WR.nil ?_
            change WC _ _ _ _ _ _
            refine WC.ret ?_
            intro w hw
            obtain rfl := Option.some.inj h
            subst hF
            exact end_e (is := []) (by kernel_rfl) hw rfl ⟨none, 0, rfl, rfl, (Nat.zero_le 0), (Sl.nil verT _ none), (show I64 3 by decide), trivial⟩
          · skip
            refine WC.skip ?_
            change WC _ _ _ _ _ _
            refine WC.rs ?_
            refine va rfl rfl rfl (q_move (v := .slice A82 out_81.length c83) rfl (by kernel_rfl)) ?_
            refine va rfl rfl rfl (q_assign (v := .slice A82 out_81.length c83) rfl (by kernel_rfl)) ?_
            refine va rfl rfl rfl (q_assign (v := .int .i64 0) rfl (by kernel_rfl)) ?_
            refine WR.nil ?_
            change WC _ _ _ _ _ _
            refine WC.ret ?_
            intro w hw
            obtain rfl := Option.some.inj h
            subst hF
            exact end_e (is := []) (by kernel_rfl) hw rfl ⟨A82, c83, rfl, rfl, hc85, hs84, (show I64 0 by decide), trivial⟩
abbrev r_firthref16_Ask_All (ga ea : Nat) (rowa : Rowb) (r : List Ver) (U : List Rowb) (Γ : Gh) (v : Value) : Prop := ∃ (A0 : Option Addr), ∃ (c0 : Nat), v = .slice A0 r.length c0 ∧ U = [rowa] ∧ r.length ≤ c0 ∧ Sl verT Γ A0 r ∧ True
set_option maxRecDepth 100000 in
set_option maxHeartbeats 400000 in
theorem t_firthref16_Ask_All {Γ : Gh} {w0 : World} {ga ea : Nat} {rowa : Rowb} {a : Ofirthref16_Ask} (ha : Ofirthref16_Ask.ob ea Γ ga rowa a) (hp : Pre [rowa] Γ w0) {r : List Ver} (h : m_firthref16_Ask_All a = some r) : Calls Try.prog 25 #[.pointer (some ⟨ga, 0, none⟩)] w0 (Outc Γ [rowa] w0 (r_firthref16_Ask_All ga ea rowa r)) := by
  refine calls_of (N := 32) (rs := [2]) (args := [.pointer (some ⟨ga, 0, none⟩)]) Try.func25 rfl Try.ntmps25 Try.results25 rfl ?_
  obtain ⟨F, hF⟩ : ∃ F : Fm, F = ⟨ids [rowa], w0, Γ⟩ := ⟨_, rfl⟩
  refine WC.here (C := CC F Γ [rowa]) ?_ (hF ▸ hp.start)
  refine WC.rs ?_
  refine va rfl rfl rfl (q_assign (v := .slice none 0 0) rfl (by kernel_rfl)) ?_
  refine WR.nil ?_
  change WC _ _ _ _ _ _
  refine WC.rs ?_
  refine va rfl rfl rfl (q_assign (v := .slice none 0 0) rfl (by kernel_rfl)) ?_
  refine WR.nil ?_
  change WC _ _ _ _ _ _
  refine WC.seq ?_
  refine WC.rs ?_
  refine va rfl rfl rfl (q_assign (v := .int .i64 0) rfl (by kernel_rfl)) ?_
  refine WR.nil ?_
  change WC _ _ _ _ _ _
  refine WC.block ?_
  refine WC.forI h (fun (i9 : Nat) (out_3 : List Ver) σ w => ∃ (Γ1 : Gh), ∃ (A4 : Option Addr), ∃ (c5 : Nat), slots σ [(0, .pointer (some ⟨ga, 0, none⟩)), (3, .slice A4 out_3.length c5), (4, .int .i64 ((i9 : Nat) : Int))] ∧ CC F Γ1 [rowa] w ∧ Gh.le Γ Γ1 ∧ out_3.length ≤ c5 ∧ Sl verT Γ1 A4 out_3 ∧ True) ?_ ?_
  · skip
    intro w hw
    exact ⟨Γ, none, 0, (sl_ (by kernel_rfl)), hw, (Gh.refl _), (Nat.zero_le 0), (Sl.nil verT _ none), trivial⟩
  rintro f8 i9 out_3 σ w hi10 hlt11 hge12 ⟨Γ1, A4, c5, hsl, hw, hl2, hc7, hs6, -⟩
  refine Wpt.slots hsl ?_
  refine WC.here (C := CC F Γ1 [rowa]) ?_ hw
  clear hw hsl
  refine WC.seq ?_
  refine WC.rs ?_
  refine va rfl rfl rfl (q_move (v := .int .i64 ((i9 : Nat) : Int)) rfl (by kernel_rfl)) ?_
  refine va rfl rfl rfl (q_move (v := .pointer (some ⟨ga, 0, none⟩)) rfl (by kernel_rfl)) ?_
  refine va rfl rfl rfl (q_nil (A := some ⟨ga, 0, none⟩) rfl rfl rfl) ?_
  refine va rfl rfl rfl (q_fl 0 fld_76_0 rfl rfl rfl) ?_
  have hq := (ha.mono hl2)
  obtain ⟨A0_13, c0_13, r0_13, A2_13, c2_13, r2_13, A3_13, c3_13, r3_13, A4_13, c4_13, r4_13, hrow_13, ho0_13, ho1_13, ho2_13, ho3_13, ho4_13, -⟩ := hq
  intro w hw; have hw := hw.unfold (i := 0) rfl hrow_13
  refine WR.here (C := CC F Γ1 [[(ga, .cells #[.slice A0_13 a.list.length c0_13, .int .i64 a.need, .slice A2_13 a.in_.length c2_13, .slice A3_13 a.vers.length c3_13, .slice A4_13 a.recs.length c4_13] ea (0, 0))], r0_13, r2_13, r3_13, r4_13]) ?_ hw
  clear hw
  refine va rfl rfl rfl (q_ldl (i := 0) (v := .slice A0_13 a.list.length c0_13) rfl rfl Try.isAgg22 rfl rfl) ?_
  refine va rfl rfl rfl (q_len_slice rfl Try.underlying22 rfl) ?_
  refine va rfl rfl rfl (q_lss rfl rfl rfl) ?_
  refine WR.nil ?_
  change WC _ _ _ _ _ _
  refine WC.cond (b := (decide (((i9 : Nat) : Int) < ((a.list.length : Nat) : Int)))) (by kernel_rfl) (fun hb14 => ?_) (fun hb14 => ?_)
  · skip
    have hl15 := ilt hb14
    have h := hlt11 hl15
    refine WC.skip ?_
    change WC _ _ _ _ _ _
    intro w hw; have hw := hw.fold (is := [0, 0, 0, 0, 0]) rfl hrow_13
    refine WC.here (C := CC F Γ1 [rowa]) ?_ hw
    clear hw
    refine WC.cut (fun σ w => ∃ (out_19 : List Ver), ∃ (Γ17 : Gh), ∃ (A20 : Option Addr), ∃ (c21 : Nat), m_firthref16_Ask_All_j5 f8 out_19 = some r ∧ slots σ [(0, .pointer (some ⟨ga, 0, none⟩)), (3, .slice A20 out_19.length c21), (4, .int .i64 ((i9 : Nat) : Int))] ∧ CC F Γ17 [rowa] w ∧ Gh.le Γ1 Γ17 ∧ out_19.length ≤ c21 ∧ Sl verT Γ17 A20 out_19 ∧ True) ?_ ?_
    · skip
      refine WC.block ?_
      refine WC.rs ?_
      refine va rfl rfl rfl (q_move (v := .slice A4 out_3.length c5) rfl (by kernel_rfl)) ?_
      refine va rfl rfl rfl (q_move (v := .pointer (some ⟨ga, 0, none⟩)) rfl (by kernel_rfl)) ?_
      refine va rfl rfl rfl (q_nil (A := some ⟨ga, 0, none⟩) rfl rfl rfl) ?_
      refine va rfl rfl rfl (q_fl 3 fld_76_3 rfl rfl rfl) ?_
      have hq := (ha.mono hl2)
      obtain ⟨A0_24, c0_24, r0_24, A2_24, c2_24, r2_24, A3_24, c3_24, r3_24, A4_24, c4_24, r4_24, hrow_24, ho0_24, ho1_24, ho2_24, ho3_24, ho4_24, -⟩ := hq
      intro w hw; have hw := hw.unfold (i := 0) rfl hrow_24
      refine WR.here (C := CC F Γ1 [[(ga, .cells #[.slice A0_24 a.list.length c0_24, .int .i64 a.need, .slice A2_24 a.in_.length c2_24, .slice A3_24 a.vers.length c3_24, .slice A4_24 a.recs.length c4_24] ea (0, 0))], r0_24, r2_24, r3_24, r4_24]) ?_ hw
      clear hw
      refine va rfl rfl rfl (q_ldl (i := 0) (v := .slice A3_24 a.vers.length c3_24) rfl rfl Try.isAgg53 rfl rfl) ?_
      refine va rfl rfl rfl (q_move (v := .int .i64 ((i9 : Nat) : Int)) rfl (by kernel_rfl)) ?_
      obtain ⟨hk25, h⟩ := chk_some h
      refine va rfl rfl rfl (q_ixn (i := i9) Try.underlying53 Try.sizeOf40 rfl rfl rfl (of_decide_eq_true hk25) (ho3_24.some_ (of_decide_eq_true hk25))) ?_
      obtain ⟨A26, c27, hx28⟩ := ho3_24.slT_at i9
      refine va rfl rfl rfl (q_ldo (c := 0) (v := .slice A26 (gt a.vers i9).length c27) (i := 3) rfl (hx28 (of_decide_eq_true hk25)).2 rfl Try.isAgg40 rfl rfl) ?_
      obtain ⟨z29, hz30, h⟩ := bnd h
      refine e_call (is := []) rfl rfl (call_run Try.call31 rfl rfl (by kernel_rfl)) rfl (fun w hp => t_firthref05_Merge hs6 hc7 (hx28 (of_decide_eq_true hk25)).1.2 (hx28 (of_decide_eq_true hk25)).1.1 hp hz30) ?_
      rintro Γ31 U33 v34 hl32 ⟨A35, c36, rfl, rfl, hc38, hr37, hr39, _⟩
      change WR _ _ _ (CC F Γ31 [[(ga, .cells #[.slice A0_24 a.list.length c0_24, .int .i64 a.need, .slice A2_24 a.in_.length c2_24, .slice A3_24 a.vers.length c3_24, .slice A4_24 a.recs.length c4_24] ea (0, 0))], r0_24, r2_24, r3_24, r4_24]) _ _ (upd _ 25 (.tuple #[.slice A35 z29.1.length c36, .int .i64 z29.2]))
      refine va rfl rfl rfl (q_move (v := .tuple #[.slice A35 z29.1.length c36, .int .i64 z29.2]) rfl (by kernel_rfl)) ?_
      refine va rfl rfl rfl (q_extract (v := .slice A35 z29.1.length c36) rfl rfl rfl) ?_
      refine va rfl rfl rfl (q_extract (v := .int .i64 z29.2) rfl rfl rfl) ?_
      refine va rfl rfl rfl (q_assign (v := .slice A35 z29.1.length c36) rfl (by kernel_rfl)) ?_
      refine va rfl rfl rfl (q_assign (v := .int .i64 z29.2) rfl (by kernel_rfl)) ?_
      refine WR.nil ?_
      change WC _ _ _ _ _ _
      refine WC.rs ?_
      refine va rfl rfl rfl (q_move (v := .int .i64 z29.2) rfl (by kernel_rfl)) ?_
      refine va rfl rfl rfl (q_eql rfl rfl rfl) ?_
      refine WR.nil ?_
      change WC _ _ _ _ _ _
      refine WC.cif h (by kernel_rfl) (fun hb40 h => ?_) (fun hb40 h => ?_)
      · skip
        refine WC.region ?_
        refine va rfl rfl rfl (q_move (v := .slice A35 z29.1.length c36) rfl (by kernel_rfl)) ?_
        refine va rfl rfl rfl (q_assign (v := .slice A35 z29.1.length c36) rfl (by kernel_rfl)) ?_
        refine WR.nil ?_
        intro w hw
        have hw := hw.fold (is := [0, 0, 0, 0, 0]) rfl hrow_24
        exact ⟨z29.1, Γ31, A35, c36, h, (sl_ (by kernel_rfl)), hw, hl32, hc38, hr37, trivial⟩
      · skip
        refine WC.skip ?_
        intro w hw
        have hw := hw.fold (is := [0, 0, 0, 0, 0]) rfl hrow_24
        exact ⟨out_3, Γ31, A4, c5, h, (sl_ (by kernel_rfl)), hw, hl32, hc7, (hs6.mono hl32), trivial⟩
    · skip
      rintro σ w ⟨out_19, Γ17, A20, c21, h, hsl, hw, hl18, hc23, hs22, -⟩
      refine Wpt.slots hsl ?_
      refine WC.here (C := CC F Γ17 [rowa]) ?_ hw
      clear hw hsl
      refine WC.region ?_
      refine va rfl rfl rfl (q_move (v := .int .i64 ((i9 : Nat) : Int)) rfl (by kernel_rfl)) ?_
      refine va rfl rfl rfl (q_add_r (r := ((i9 + 1 : Nat) : Int)) rfl rfl rfl (ctr_len hl15 ho0_13.le)) ?_
      refine va rfl rfl rfl (q_assign (v := .int .i64 ((i9 + 1 : Nat) : Int)) rfl (by kernel_rfl)) ?_
      refine WR.nil ?_
      intro w hw
      exact ⟨hl15, out_19, h, Γ17, A20, c21, (sl_ (by kernel_rfl)), hw, (hl2.trans hl18), hc23, hs22, trivial⟩
  · skip
    have h := hge12 (ige hb14)
    refine WC.exit ?_
    change WC _ _ _ _ _ _
    refine WC.rs ?_
    refine va rfl rfl rfl (q_move (v := .slice A4 out_3.length c5) rfl (by kernel_rfl)) ?_
    refine va rfl rfl rfl (q_assign (v := .slice A4 out_3.length c5) rfl (by kernel_rfl)) ?_
    refine WR.nil ?_
    change WC _ _ _ _ _ _
    refine WC.ret ?_
    intro w hw
    have hw := hw.fold (is := [0, 0, 0, 0, 0]) rfl hrow_13
    obtain rfl := Option.some.inj h
    subst hF
    exact end_e (is := [0]) (by kernel_rfl) hw rfl ⟨A4, c5, rfl, rfl, hc7, hs6, trivial⟩
set_option maxRecDepth 100000 in
set_option maxHeartbeats 400000 in
theorem t_firthref05_Lacks {Γ : Gh} {w0 : World} {Aa : Option Addr} {ca : Nat} {a : List Ver} (ha : Sl verT Γ Aa a) (hac : a.length ≤ ca) {Ab : Option Addr} {cb : Nat} {b : List Ver} (hb : Sl verT Γ Ab b) (hbc : b.length ≤ cb) (hs : Sat Γ w0) {r : Bool} (h : m_firthref05_Lacks a b = some r) : Calls Try.prog 48 #[.slice Aa a.length ca, .slice Ab b.length cb] w0 (fun e w' => e = .returned (.bool r) ∧ Fr no w0 w') := by
  refine calls_of (N := 21) (rs := [4]) (args := [.slice Aa a.length ca, .slice Ab b.length cb]) Try.func48 rfl Try.ntmps48 Try.results48 rfl ?_
  obtain ⟨F, hF⟩ : ∃ F : Fm, F = ⟨no, w0, Γ⟩ := ⟨_, rfl⟩
  refine WC.here (C := CC F Γ []) ?_ (hF ▸ Cur.start0 hs)
  refine WC.rs ?_
  refine va rfl rfl rfl (q_assign (v := .bool false) rfl (by kernel_rfl)) ?_
  refine WR.nil ?_
  change WC _ _ _ _ _ _
  refine WC.rs ?_
  refine va rfl rfl rfl (q_move (v := .slice Aa a.length ca) rfl (by kernel_rfl)) ?_
  refine va rfl rfl rfl (q_move (v := .slice Ab b.length cb) rfl (by kernel_rfl)) ?_
  obtain ⟨z1, hz2, h⟩ := bnd h
  refine e_call (is := []) rfl rfl (call_run Try.call31 rfl rfl (by kernel_rfl)) rfl (fun w hp => t_firthref05_Merge ha hac hb hbc hp hz2) ?_
  rintro Γ3 U5 v6 hl4 ⟨A7, c8, rfl, rfl, hc10, hr9, hr11, _⟩
  change WR _ _ _ (CC F Γ3 []) _ _ (upd _ 10 (.tuple #[.slice A7 z1.1.length c8, .int .i64 z1.2]))
  refine va rfl rfl rfl (q_move (v := .tuple #[.slice A7 z1.1.length c8, .int .i64 z1.2]) rfl (by kernel_rfl)) ?_
  refine va rfl rfl rfl (q_extract (v := .slice A7 z1.1.length c8) rfl rfl rfl) ?_
  refine va rfl rfl rfl (q_extract (v := .int .i64 z1.2) rfl rfl rfl) ?_
  refine va rfl rfl rfl (q_assign (v := .slice A7 z1.1.length c8) rfl (by kernel_rfl)) ?_
  refine va rfl rfl rfl (q_assign (v := .int .i64 z1.2) rfl (by kernel_rfl)) ?_
  refine WR.nil ?_
  change WC _ _ _ _ _ _
  refine WC.rs ?_
  refine va rfl rfl rfl (q_move (v := .int .i64 z1.2) rfl (by kernel_rfl)) ?_
  refine va rfl rfl rfl (q_eql rfl rfl rfl) ?_
  refine va rfl rfl rfl (q_move (v := .bool (z1.2 == 0)) rfl (by kernel_rfl)) ?_
  refine vg1 rfl rfl rfl rfl rfl (fun hg12 => QV.qo (q_move (v := .slice A7 z1.1.length c8) rfl (by kernel_rfl))) ?_
  refine vg1 rfl rfl rfl rfl rfl (fun hg13 => QV.qo (q_move (v := .slice Aa a.length ca) rfl (by kernel_rfl))) ?_
  obtain ⟨z15, hz16, h⟩ := bnd h
  refine vg1 rfl rfl rfl rfl rfl (fun hg14 => (q_call (call_run Try.call23 rfl rfl (args2 (gu hg14 rfl) (gu hg14 rfl))) (fun w hw => t_firthref05_Same (hr9.mono hw.sat.le_all) hc10 ((ha.mono hl4).mono hw.sat.le_all) hac (Sat.all w) (gc_of hz16 hg14)))) ?_
  refine vg1 rfl rfl rfl rfl rfl (fun hg17 => QV.qo (q_not rfl (gu hg17 rfl))) ?_
  refine va rfl rfl rfl (q_pick rfl rfl (pk_and' (g := (z1.2 == 0)) (y := (!z15)))) ?_
  refine va rfl rfl rfl (q_assign (v := .bool ((z1.2 == 0) && (!z15))) rfl (by kernel_rfl)) ?_
  refine WR.nil ?_
  change WC _ _ _ _ _ _
  refine WC.ret ?_
  intro w hw
  obtain rfl := Option.some.inj h
  subst hF
  exact ⟨by kernel_rfl, hw.fr⟩
abbrev r_firthref16_Ask_Behind (ga ea : Nat) (rowa : Rowb) (r : List Int) (U : List Rowb) (Γ : Gh) (v : Value) : Prop := ∃ (A0 : Option Addr), ∃ (c0 : Nat), ∃ (row0 : Rowb), v = .slice A0 r.length c0 ∧ U = [rowa, row0] ∧ Own intT Γ 3 row0 A0 c0 r ∧ True
set_option maxRecDepth 100000 in
set_option maxHeartbeats 400000 in
theorem t_firthref16_Ask_Behind {Γ : Gh} {w0 : World} {ga ea : Nat} {rowa : Rowb} {a : Ofirthref16_Ask} (ha : Ofirthref16_Ask.ob ea Γ ga rowa a) (hp : Pre [rowa] Γ w0) {r : List Int} (h : m_firthref16_Ask_Behind a = some r) : Calls Try.prog 27 #[.pointer (some ⟨ga, 0, none⟩)] w0 (Outc Γ [rowa] w0 (r_firthref16_Ask_Behind ga ea rowa r)) := by
  refine calls_of (N := 46) (rs := [2]) (args := [.pointer (some ⟨ga, 0, none⟩)]) Try.func27 rfl Try.ntmps27 Try.results27 rfl ?_
  obtain ⟨F, hF⟩ : ∃ F : Fm, F = ⟨ids [rowa], w0, Γ⟩ := ⟨_, rfl⟩
  refine WC.here (C := CC F Γ [rowa]) ?_ (hF ▸ hp.start)
  refine WC.rs ?_
  refine va rfl rfl rfl (q_assign (v := .slice none 0 0) rfl (by kernel_rfl)) ?_
  refine WR.nil ?_
  change WC _ _ _ _ _ _
  refine WC.rs ?_
  refine va rfl rfl rfl (q_move (v := .pointer (some ⟨ga, 0, none⟩)) rfl (by kernel_rfl)) ?_
  obtain ⟨z1, hz2, h⟩ := bnd h
  refine e_call (is := [0]) rfl rfl (call_run Try.call25 rfl rfl (by kernel_rfl)) rfl (fun w hp => t_firthref16_Ask_All ha hp hz2) ?_
  rintro Γ3 U5 v6 hl4 ⟨A7, c8, rfl, rfl, hc10, hr9, _⟩
  change WR _ _ _ (CC F Γ3 [rowa]) _ _ (upd _ 7 (.slice A7 z1.length c8))
  refine va rfl rfl rfl (q_assign (v := .slice A7 z1.length c8) rfl (by kernel_rfl)) ?_
  refine WR.nil ?_
  change WC _ _ _ _ _ _
  refine WC.rs ?_
  refine va rfl rfl rfl (q_assign (v := .slice none 0 0) rfl (by kernel_rfl)) ?_
  refine WR.nil ?_
  change WC _ _ _ _ _ _
  refine WC.seq ?_
  refine WC.rs ?_
  refine va rfl rfl rfl (q_assign (v := .int .i64 0) rfl (by kernel_rfl)) ?_
  refine WR.nil ?_
  change WC _ _ _ _ _ _
  refine WC.block ?_
  refine WC.forI h (fun (i17 : Nat) (out_11 : List Int) σ w => ∃ (A12 : Option Addr), ∃ (c13 : Nat), ∃ (row14 : Rowb), slots σ [(0, .pointer (some ⟨ga, 0, none⟩)), (3, .slice A7 z1.length c8), (4, .slice A12 out_11.length c13), (5, .int .i64 ((i17 : Nat) : Int))] ∧ CC F Γ3 [row14, rowa] w ∧ Own intT Γ3 3 row14 A12 c13 out_11 ∧ True) ?_ ?_
  · skip
    intro w hw
    have hw := hw.pad
    exact ⟨none, 0, [], (sl_ (by kernel_rfl)), hw, (Own.nil intT _ 3), trivial⟩
  rintro f16 i17 out_11 σ w hi18 hlt19 hge20 ⟨A12, c13, row14, hsl, hw, ho15, -⟩
  refine Wpt.slots hsl ?_
  refine WC.here (C := CC F Γ3 [row14, rowa]) ?_ hw
  clear hw hsl
  refine WC.seq ?_
  refine WC.rs ?_
  refine va rfl rfl rfl (q_move (v := .int .i64 ((i17 : Nat) : Int)) rfl (by kernel_rfl)) ?_
  refine va rfl rfl rfl (q_move (v := .pointer (some ⟨ga, 0, none⟩)) rfl (by kernel_rfl)) ?_
  refine va rfl rfl rfl (q_nil (A := some ⟨ga, 0, none⟩) rfl rfl rfl) ?_
  refine va rfl rfl rfl (q_fl 0 fld_76_0 rfl rfl rfl) ?_
  have hq := (ha.mono hl4)
  obtain ⟨A0_21, c0_21, r0_21, A2_21, c2_21, r2_21, A3_21, c3_21, r3_21, A4_21, c4_21, r4_21, hrow_21, ho0_21, ho1_21, ho2_21, ho3_21, ho4_21, -⟩ := hq
  intro w hw; have hw := hw.unfold (i := 1) rfl hrow_21
  refine WR.here (C := CC F Γ3 [[(ga, .cells #[.slice A0_21 a.list.length c0_21, .int .i64 a.need, .slice A2_21 a.in_.length c2_21, .slice A3_21 a.vers.length c3_21, .slice A4_21 a.recs.length c4_21] ea (0, 0))], r0_21, r2_21, r3_21, r4_21, row14]) ?_ hw
  clear hw
  refine va rfl rfl rfl (q_ldl (i := 0) (v := .slice A0_21 a.list.length c0_21) rfl rfl Try.isAgg22 rfl rfl) ?_
  refine va rfl rfl rfl (q_len_slice rfl Try.underlying22 rfl) ?_
  refine va rfl rfl rfl (q_lss rfl rfl rfl) ?_
  refine WR.nil ?_
  change WC _ _ _ _ _ _
  refine WC.cond (b := (decide (((i17 : Nat) : Int) < ((a.list.length : Nat) : Int)))) (by kernel_rfl) (fun hb22 => ?_) (fun hb22 => ?_)
  · skip
    have hl23 := ilt hb22
    have h := hlt19 hl23
    refine WC.skip ?_
    change WC _ _ _ _ _ _
    intro w hw; have hw := hw.fold (is := [0, 0, 0, 0, 0]) rfl hrow_21
    refine WC.here (C := CC F Γ3 [rowa, row14]) ?_ hw
    clear hw
    refine WC.cut (fun σ w => ∃ (out_25 : List Int), ∃ (A26 : Option Addr), ∃ (c27 : Nat), ∃ (row28 : Rowb), m_firthref16_Ask_Behind_j5 f16 out_25 = some r ∧ slots σ [(0, .pointer (some ⟨ga, 0, none⟩)), (3, .slice A7 z1.length c8), (4, .slice A26 out_25.length c27), (5, .int .i64 ((i17 : Nat) : Int))] ∧ CC F Γ3 [row28, rowa] w ∧ Own intT Γ3 3 row28 A26 c27 out_25 ∧ True) ?_ ?_
    · skip
      refine WC.block ?_
      refine WC.rs ?_
      refine va rfl rfl rfl (q_move (v := .pointer (some ⟨ga, 0, none⟩)) rfl (by kernel_rfl)) ?_
      refine va rfl rfl rfl (q_nil (A := some ⟨ga, 0, none⟩) rfl rfl rfl) ?_
      refine va rfl rfl rfl (q_fl 2 fld_76_2 rfl rfl rfl) ?_
      have hq := (ha.mono hl4)
      obtain ⟨A0_30, c0_30, r0_30, A2_30, c2_30, r2_30, A3_30, c3_30, r3_30, A4_30, c4_30, r4_30, hrow_30, ho0_30, ho1_30, ho2_30, ho3_30, ho4_30, -⟩ := hq
      intro w hw; have hw := hw.unfold (i := 0) rfl hrow_30
      refine WR.here (C := CC F Γ3 [[(ga, .cells #[.slice A0_30 a.list.length c0_30, .int .i64 a.need, .slice A2_30 a.in_.length c2_30, .slice A3_30 a.vers.length c3_30, .slice A4_30 a.recs.length c4_30] ea (0, 0))], r0_30, r2_30, r3_30, r4_30, row14]) ?_ hw
      clear hw
      refine va rfl rfl rfl (q_ldl (i := 0) (v := .slice A2_30 a.in_.length c2_30) rfl rfl Try.isAgg73 rfl rfl) ?_
      refine va rfl rfl rfl (q_move (v := .int .i64 ((i17 : Nat) : Int)) rfl (by kernel_rfl)) ?_
      obtain ⟨hk31, h⟩ := chk_some h
      refine va rfl rfl rfl (q_ixn (i := i17) Try.underlying73 Try.sizeOf4 rfl rfl rfl (of_decide_eq_true hk31) (ho2_30.some_ (of_decide_eq_true hk31))) ?_
      refine va rfl rfl rfl (q_ldo (c := 0) (v := .bool (gt a.in_ i17)) (i := 2) rfl (ho2_30.boolT_at (of_decide_eq_true hk31)).2 rfl Try.isAgg4 rfl rfl) ?_
      refine va rfl rfl rfl (q_move (v := .bool (gt a.in_ i17)) rfl (by kernel_rfl)) ?_
      refine vg1 rfl rfl rfl rfl rfl (fun hg32 => QV.qo (q_move (v := .pointer (some ⟨ga, 0, none⟩)) rfl (by kernel_rfl))) ?_
      refine vg1 rfl rfl rfl rfl rfl (fun hg33 => QV.qo (q_nil (A := some ⟨ga, 0, none⟩) rfl (gu hg33 rfl) rfl)) ?_
      refine vg1 rfl rfl rfl rfl rfl (fun hg34 => QV.qo (q_fl 3 fld_76_3 rfl (gu hg34 rfl) rfl)) ?_
      refine vg1 rfl rfl rfl rfl rfl (fun hg35 => QV.qo (q_ldl (i := 0) (v := .slice A3_30 a.vers.length c3_30) rfl rfl Try.isAgg53 (gu hg35 rfl) rfl)) ?_
      refine vg1 rfl rfl rfl rfl rfl (fun hg36 => QV.qo (q_move (v := .int .i64 ((i17 : Nat) : Int)) rfl (by kernel_rfl))) ?_
      obtain ⟨hk38, h⟩ := chk_some h
      refine vg1 rfl rfl rfl rfl rfl (fun hg37 => QV.qo (q_ixn (i := i17) Try.underlying53 Try.sizeOf40 rfl (gu hg37 rfl) (gu hg37 rfl) (of_decide_eq_true (imp_of hk38 hg37)) (ho3_30.some_ (of_decide_eq_true (imp_of hk38 hg37))))) ?_
      obtain ⟨A40, c41, hx42⟩ := ho3_30.slT_at i17
      refine vg1 rfl rfl rfl rfl rfl (fun hg39 => QV.qo (q_ldo (c := 0) (v := .slice A40 (gt a.vers i17).length c41) (i := 3) rfl (hx42 (of_decide_eq_true (imp_of hk38 hg39))).2 rfl Try.isAgg40 (gu hg39 rfl) rfl)) ?_
      refine vg1 rfl rfl rfl rfl rfl (fun hg43 => QV.qo (q_move (v := .slice A7 z1.length c8) rfl (by kernel_rfl))) ?_
      obtain ⟨z45, hz46, h⟩ := bnd h
      refine vg1 rfl rfl rfl rfl rfl (fun hg44 => (q_call (call_run Try.call48 rfl rfl (args2 (gu hg44 rfl) (gu hg44 rfl))) (fun w hw => t_firthref05_Lacks ((hx42 (of_decide_eq_true (imp_of hk38 hg44))).1.2.mono hw.sat.le_all) (hx42 (of_decide_eq_true (imp_of hk38 hg44))).1.1 (hr9.mono hw.sat.le_all) hc10 (Sat.all w) (gc_of hz46 hg44)))) ?_
      refine va rfl rfl rfl (q_pick rfl rfl (pk_and' (g := (gt a.in_ i17)) (y := z45))) ?_
      refine WR.nil ?_
      change WC _ _ _ _ _ _
      refine WC.cif h (by kernel_rfl) (fun hb47 h => ?_) (fun hb47 h => ?_)
      · skip
        refine WC.region ?_
        refine va rfl rfl rfl (q_move (v := .slice A12 out_11.length c13) rfl (by kernel_rfl)) ?_
        refine va rfl rfl rfl (q_move (v := .pointer (some ⟨ga, 0, none⟩)) rfl (by kernel_rfl)) ?_
        refine va rfl rfl rfl (q_nil (A := some ⟨ga, 0, none⟩) rfl rfl rfl) ?_
        refine va rfl rfl rfl (q_fl 0 fld_76_0 rfl rfl rfl) ?_
        refine va rfl rfl rfl (q_ldl (i := 0) (v := .slice A0_30 a.list.length c0_30) rfl rfl Try.isAgg22 rfl rfl) ?_
        refine va rfl rfl rfl (q_move (v := .int .i64 ((i17 : Nat) : Int)) rfl (by kernel_rfl)) ?_
        refine va rfl rfl rfl (q_ixn (i := i17) Try.underlying22 Try.sizeOf3 rfl rfl rfl hl23 (ho0_30.some_ hl23)) ?_
        refine va rfl rfl rfl (q_ldo (c := 0) (v := .int .i64 (gt a.list i17)) (i := 1) rfl (ho0_30.intT_at hl23).2 rfl Try.isAgg3 rfl rfl) ?_
        refine e_buildSlice (cs := #[.int .i64 (gt a.list i17)]) (e := 3) rfl rfl rfl rfl (fun w => by kernel_rfl) ?_
        intro g48
        obtain ⟨hk49, h⟩ := chk_some h
        refine e_append (T := intT) (xs := out_11) (ys := [(gt a.list i17)]) elem_22 (i := 6) rfl rfl rfl rfl rfl rfl rfl ho15 (of_decide_eq_true hk49) (fun w hw => src_one (T := intT) (y := (gt a.list i17)) (i := 0) rfl (by exact ⟨rfl, (ho0_30.intT_at hl23).1⟩) hw) ?_
        intro row50 A51 c52 ho53
        refine va rfl rfl rfl (q_assign (v := .slice A51 (out_11 ++ [(gt a.list i17)]).length c52) rfl (by kernel_rfl)) ?_
        refine WR.nil ?_
        intro w hw
        have hw := hw.fold (is := [1, 1, 1, 1, 1]) rfl hrow_30
        exact ⟨(out_11 ++ [(gt a.list i17)]), A51, c52, row50, h, (sl_ (by kernel_rfl)), (hw.only (is := [2, 0]) rfl), ho53, trivial⟩
      · skip
        refine WC.skip ?_
        intro w hw
        have hw := hw.fold (is := [0, 0, 0, 0, 0]) rfl hrow_30
        exact ⟨out_11, A12, c13, row14, h, (sl_ (by kernel_rfl)), (hw.only (is := [1, 0]) rfl), ho15, trivial⟩
    · skip
      rintro σ w ⟨out_25, A26, c27, row28, h, hsl, hw, ho29, -⟩
      refine Wpt.slots hsl ?_
      refine WC.here (C := CC F Γ3 [row28, rowa]) ?_ hw
      clear hw hsl
      refine WC.region ?_
      refine va rfl rfl rfl (q_move (v := .int .i64 ((i17 : Nat) : Int)) rfl (by kernel_rfl)) ?_
      refine va rfl rfl rfl (q_add_r (r := ((i17 + 1 : Nat) : Int)) rfl rfl rfl (ctr_len hl23 ho0_21.le)) ?_
      refine va rfl rfl rfl (q_assign (v := .int .i64 ((i17 + 1 : Nat) : Int)) rfl (by kernel_rfl)) ?_
      refine WR.nil ?_
      intro w hw
      exact ⟨hl23, out_25, h, A26, c27, row28, (sl_ (by kernel_rfl)), hw, ho29, trivial⟩
  · skip
    have h := hge20 (ige hb22)
    refine WC.exit ?_
    change WC _ _ _ _ _ _
    refine WC.rs ?_
    refine va rfl rfl rfl (q_move (v := .slice A12 out_11.length c13) rfl (by kernel_rfl)) ?_
    refine va rfl rfl rfl (q_assign (v := .slice A12 out_11.length c13) rfl (by kernel_rfl)) ?_
    refine WR.nil ?_
    change WC _ _ _ _ _ _
    refine WC.ret ?_
    intro w hw
    have hw := hw.fold (is := [0, 0, 0, 0, 0]) rfl hrow_21
    obtain rfl := Option.some.inj h
    subst hF
    exact end_e (is := [0, 0]) (by kernel_rfl) hw rfl ⟨A12, c13, row14, rfl, rfl, ho15, trivial⟩
set_option maxRecDepth 100000 in
set_option maxHeartbeats 400000 in
theorem t_firthlaw16_QuorumReads {Γ : Gh} {w0 : World} {Alist : Option Addr} {clist : Nat} {list : List Int} (hlist : Sl intT Γ Alist list) (hlistc : list.length ≤ clist) (need : Int) (hneed : I64 need) {Areplies : Option Addr} {creplies : Nat} {replies : List Dfirthlaw16_Reply} (hreplies : Sl dfirthlaw16_ReplyT Γ Areplies replies) (hrepliesc : replies.length ≤ creplies) (hs : Sat Γ w0) {r : Bool} (h : m_firthlaw16_QuorumReads list need replies = some r) : Calls Try.prog 4 #[.slice Alist list.length clist, .int .i64 need, .slice Areplies replies.length creplies] w0 (fun e w' => e = .returned (.bool r) ∧ Fr no w0 w') := by
  refine calls_of (N := 103) (rs := [6]) (args := [.slice Alist list.length clist, .int .i64 need, .slice Areplies replies.length creplies]) Try.func4 rfl Try.ntmps4 Try.results4 rfl ?_
  obtain ⟨F, hF⟩ : ∃ F : Fm, F = ⟨no, w0, Γ⟩ := ⟨_, rfl⟩
  refine WC.here (C := CC F Γ []) ?_ (hF ▸ Cur.start0 hs)
  refine WC.rs ?_
  refine va rfl rfl rfl (q_assign (v := .bool false) rfl (by kernel_rfl)) ?_
  refine WR.nil ?_
  change WC _ _ _ _ _ _
  refine WC.rs ?_
  refine va rfl rfl rfl (q_move (v := .slice Alist list.length clist) rfl (by kernel_rfl)) ?_
  refine va rfl rfl rfl (q_move (v := .int .i64 need) rfl (by kernel_rfl)) ?_
  obtain ⟨z1, hz2, h⟩ := bnd h
  refine e_call (is := []) rfl rfl (call_run Try.call18 rfl rfl (by kernel_rfl)) rfl (fun w hp => t_quorum_NewRead hlist hlistc need hneed hp hz2) ?_
  rintro Γ3 U5 v6 hl4 ⟨g7, row8, rfl, rfl, hr9, hr10, _⟩
  change WR _ _ _ (CC F Γ3 [row8]) _ _ (upd _ 14 (.tuple #[optp z1.1 g7, .int .i64 z1.2]))
  refine va rfl rfl rfl (q_move (v := .tuple #[optp z1.1 g7, .int .i64 z1.2]) rfl (by kernel_rfl)) ?_
  refine va rfl rfl rfl (q_extract (v := optp z1.1 g7) rfl rfl rfl) ?_
  refine va rfl rfl rfl (q_extract (v := .int .i64 z1.2) rfl rfl rfl) ?_
  refine va rfl rfl rfl (q_assign (v := optp z1.1 g7) rfl (by kernel_rfl)) ?_
  refine va rfl rfl rfl (q_assign (v := .int .i64 z1.2) rfl (by kernel_rfl)) ?_
  refine WR.nil ?_
  change WC _ _ _ _ _ _
  refine WC.seq ?_
  refine WC.rs ?_
  obtain ⟨z11, hz12, h⟩ := bnd h
  refine vc rfl rfl rfl (q_call (call_run Try.call8 rfl rfl (by kernel_rfl)) (fun w hw => t_firthlaw16_awake  (Sat.all w) hz12)) ?_
  refine va rfl rfl rfl (q_not rfl rfl) ?_
  refine va rfl rfl rfl (q_move (v := .bool (!z11)) rfl (by kernel_rfl)) ?_
  refine vg0 rfl rfl rfl rfl rfl (fun hg13 => QV.qo (q_move (v := .slice Alist list.length clist) rfl (by kernel_rfl))) ?_
  refine vg0 rfl rfl rfl rfl rfl (fun hg14 => QV.qo (q_move (v := .int .i64 need) rfl (by kernel_rfl))) ?_
  obtain ⟨z16, hz17, h⟩ := bnd h
  refine vg0 rfl rfl rfl rfl rfl (fun hg15 => (q_call (call_run Try.call9 rfl rfl (args2 (gu hg15 rfl) (gu hg15 rfl))) (fun w hw => t_firthref16_Right ((hlist.mono hl4).mono hw.sat.le_all) hlistc need hneed (Sat.all w) (gc_of hz17 hg15)))) ?_
  refine vg0 rfl rfl rfl rfl rfl (fun hg18 => QV.qo (q_not rfl (gu hg18 rfl))) ?_
  refine va rfl rfl rfl (q_pick rfl rfl (pk_or' (g := (!z11)) (y := (!z16)))) ?_
  refine WR.nil ?_
  change WC _ _ _ _ _ _
  refine WC.cif h (by kernel_rfl) (fun hb19 h => ?_) (fun hb19 h => ?_)
  · skip
    refine WC.rs ?_
    obtain ⟨z20, hz21, h⟩ := bnd h
    refine vc rfl rfl rfl (q_call (call_run Try.call8 rfl rfl (by kernel_rfl)) (fun w hw => t_firthlaw16_awake  (Sat.all w) hz21)) ?_
    refine va rfl rfl rfl (q_move (v := .bool z20) rfl (by kernel_rfl)) ?_
    refine vg1 rfl rfl rfl rfl rfl (fun hg22 => QV.qo (q_move (v := optp z1.1 g7) rfl (by kernel_rfl))) ?_
    refine vg1 rfl rfl rfl rfl rfl (fun hg23 => QV.qo (q_opt_eql Try.underlying36 rfl (gu hg23 rfl) rfl)) ?_
    refine va rfl rfl rfl (q_pick rfl rfl (pk_and' (g := z20) (y := (Option.isNone z1.1)))) ?_
    refine va rfl rfl rfl (q_move (v := .bool (z20 && (Option.isNone z1.1))) rfl (by kernel_rfl)) ?_
    refine vg1 rfl rfl rfl rfl rfl (fun hg24 => QV.qo (q_move (v := .int .i64 z1.2) rfl (by kernel_rfl))) ?_
    refine vg1 rfl rfl rfl rfl rfl (fun hg25 => QV.qo (q_eql rfl (gu hg25 rfl) rfl)) ?_
    refine va rfl rfl rfl (q_pick rfl rfl (pk_and' (g := (z20 && (Option.isNone z1.1))) (y := (z1.2 == 1)))) ?_
    refine va rfl rfl rfl (q_assign (v := .bool ((z20 && (Option.isNone z1.1)) && (z1.2 == 1))) rfl (by kernel_rfl)) ?_
    refine WR.nil ?_
    change WC _ _ _ _ _ _
    refine WC.ret ?_
    intro w hw
    obtain rfl := Option.some.inj h
    subst hF
    exact ⟨by kernel_rfl, hw.fr⟩
  · skip
    refine WC.skip ?_
    change WC _ _ _ _ _ _
    refine WC.seq ?_
    refine WC.rs ?_
    refine va rfl rfl rfl (q_move (v := optp z1.1 g7) rfl (by kernel_rfl)) ?_
    refine va rfl rfl rfl (q_opt_eql Try.underlying36 rfl rfl rfl) ?_
    refine va rfl rfl rfl (q_move (v := .bool (Option.isNone z1.1)) rfl (by kernel_rfl)) ?_
    refine vg0 rfl rfl rfl rfl rfl (fun hg26 => QV.qo (q_move (v := .int .i64 z1.2) rfl (by kernel_rfl))) ?_
    refine vg0 rfl rfl rfl rfl rfl (fun hg27 => QV.qo (q_neq rfl (gu hg27 rfl) rfl)) ?_
    refine va rfl rfl rfl (q_pick rfl rfl (pk_or' (g := (Option.isNone z1.1)) (y := (z1.2 != 0)))) ?_
    refine WR.nil ?_
    change WC _ _ _ _ _ _
    refine WC.cif h (by kernel_rfl) (fun hb28 h => ?_) (fun hb28 h => ?_)
    · skip
      refine WC.rs ?_
      refine va rfl rfl rfl (q_assign (v := .bool false) rfl (by kernel_rfl)) ?_
      refine WR.nil ?_
      change WC _ _ _ _ _ _
      refine WC.ret ?_
      intro w hw
      obtain rfl := Option.some.inj h
      subst hF
      exact ⟨by kernel_rfl, hw.fr⟩
    · skip
      obtain ⟨z29, hz30, h⟩ := bnd h
      have ho31 := optob_some hr9 hz30
      refine WC.skip ?_
      change WC _ _ _ _ _ _
      refine WC.rs ?_
      refine va rfl rfl rfl (q_move (v := .slice Alist list.length clist) rfl (by kernel_rfl)) ?_
      refine va rfl rfl rfl (q_move (v := .int .i64 need) rfl (by kernel_rfl)) ?_
      obtain ⟨z32, hz33, h⟩ := bnd h
      refine e_call (is := []) rfl rfl (call_run Try.call10 rfl rfl (by kernel_rfl)) rfl (fun w hp => t_firthref16_New (hlist.mono hl4) hlistc need hneed hp hz33) ?_
      rintro Γ34 U36 v37 hl35 ⟨g38, row39, rfl, rfl, hr40, _⟩
      change WR _ _ _ (CC F Γ34 [row39, row8]) _ _ (upd _ 42 (.pointer (some ⟨g38, 0, none⟩)))
      refine va rfl rfl rfl (q_assign (v := .pointer (some ⟨g38, 0, none⟩)) rfl (by kernel_rfl)) ?_
      refine WR.nil ?_
      change WC _ _ _ _ _ _
      refine WC.seq ?_
      refine WC.rs ?_
      refine va rfl rfl rfl (q_assign (v := .int .i64 0) rfl (by kernel_rfl)) ?_
      refine WR.nil ?_
      change WC _ _ _ _ _ _
      refine WC.block ?_
      refine WC.forI h (fun (i50 : Nat) (s : Ofirthref16_Ask × Oquorum_asking_api_Ver) σ w => match s with | (o43, o46) => ∃ (Γ41 : Gh), ∃ (row44 : Rowb), ∃ (row47 : Rowb), slots σ [(2, .slice Areplies replies.length creplies), (7, optp z1.1 g7), (9, .pointer (some ⟨g38, 0, none⟩)), (10, .int .i64 ((i50 : Nat) : Int))] ∧ CC F Γ41 [row44, row47] w ∧ Gh.le Γ34 Γ41 ∧ Ofirthref16_Ask.ob 76 Γ41 g38 row44 o43 ∧ Oquorum_asking_api_Ver.ob 85 Γ41 g7 row47 o46 ∧ True) ?_ ?_
      · skip
        intro w hw
        exact ⟨Γ34, row39, row8, (sl_ (by kernel_rfl)), hw, (Gh.refl _), hr40, (ho31.mono hl35), trivial⟩
      rintro f49 i50 ⟨o43, o46⟩ σ w hi51 hlt52 hge53 ⟨Γ41, row44, row47, hsl, hw, hl42, ho45, ho48, -⟩
      refine Wpt.slots hsl ?_
      refine WC.here (C := CC F Γ41 [row44, row47]) ?_ hw
      clear hw hsl
      refine WC.seq ?_
      refine WC.rs ?_
      refine va rfl rfl rfl (q_move (v := .int .i64 ((i50 : Nat) : Int)) rfl (by kernel_rfl)) ?_
      refine va rfl rfl rfl (q_move (v := .slice Areplies replies.length creplies) rfl (by kernel_rfl)) ?_
      refine va rfl rfl rfl (q_len_slice rfl Try.underlying35 rfl) ?_
      refine va rfl rfl rfl (q_lss rfl rfl rfl) ?_
      refine WR.nil ?_
      change WC _ _ _ _ _ _
      refine WC.cond (b := (decide (((i50 : Nat) : Int) < ((replies.length : Nat) : Int)))) (by kernel_rfl) (fun hb54 => ?_) (fun hb54 => ?_)
      · skip
        have hl55 := ilt hb54
        have h := hlt52 hl55
        refine WC.skip ?_
        change WC _ _ _ _ _ _
        refine WC.seq ?_
        refine WC.block ?_
        refine WC.seq ?_
        refine WC.seq ?_
        intro w hw; have h056 := hw.le
        refine WC.here (C := CC F Γ41 [row44, row47]) ?_ hw; clear hw
        refine WC.held (CC F Γ41 []) (by kernel_rfl) (fun w hw => hw.drawn _) ?_
        change WH _ _ _ _ (CC F Γ41 [row44, row47]) _ 40 #[false, false, false, false, false, false, false, false, false, false, false, false, false, false, false, false, false, false, false, false, false, false, false, false, false, false, false, false, false, false, false, false, false, false, false, false, false, false, false, false] _
        refine ht (i := 0) rfl (by kernel_rfl) rfl rfl rfl (fun w hw => hw.back (Gh.refl _) h056 (.cons _ (.cons _ .slnil))) (q_move (v := .pointer (some ⟨g7, 0, none⟩)) rfl (optp_some rfl hz30)) ?_
        refine ht (i := 1) rfl (by kernel_rfl) rfl rfl rfl (fun w hw => hw.back (Gh.refl _) h056 (.cons _ (.cons _ .slnil))) (q_move (v := .slice Areplies replies.length creplies) rfl (by kernel_rfl)) ?_
        refine ht (i := 2) rfl (by kernel_rfl) rfl rfl rfl (fun w hw => hw.back (Gh.refl _) h056 (.cons _ (.cons _ .slnil))) (q_move (v := .int .i64 ((i50 : Nat) : Int)) rfl (by kernel_rfl)) ?_
        refine ht (i := 3) rfl (by kernel_rfl) rfl rfl rfl (fun w hw => hw.back (Gh.refl _) h056 (.cons _ (.cons _ .slnil))) (q_ixn (i := i50) Try.underlying35 Try.sizeOf43 rfl rfl rfl hl55 ((hreplies.mono ((hl4.trans hl35).trans hl42)).some_ hl55)) ?_
        refine ht (i := 4) rfl (by kernel_rfl) rfl rfl rfl (fun w hw => hw.back (Gh.refl _) h056 (.cons _ (.cons _ .slnil))) (q_field_addr (i50 * 3) fld_43_0 rfl rfl ((hreplies.mono ((hl4.trans hl35).trans hl42)).some_ hl55) rfl) ?_
        obtain ⟨A57, c58, A59, c60, hx61⟩ := (hreplies.mono ((hl4.trans hl35).trans hl42)).dfirthlaw16_ReplyT_at i50
        refine ht (i := 5) rfl (by kernel_rfl) rfl rfl rfl (fun w hw => hw.back (Gh.refl _) h056 (.cons _ (.cons _ .slnil))) (q_ld (c := 0) (v := .int .i64 (gt replies i50).node) (hx61 hl55).2 rfl Try.isAgg3 rfl rfl) ?_
        refine ht (i := 6) rfl (by kernel_rfl) rfl rfl rfl (fun w hw => hw.back (Gh.refl _) h056 (.cons _ (.cons _ .slnil))) (q_move (v := .slice Areplies replies.length creplies) rfl (by kernel_rfl)) ?_
        refine ht (i := 7) rfl (by kernel_rfl) rfl rfl rfl (fun w hw => hw.back (Gh.refl _) h056 (.cons _ (.cons _ .slnil))) (q_move (v := .int .i64 ((i50 : Nat) : Int)) rfl (by kernel_rfl)) ?_
        refine ht (i := 8) rfl (by kernel_rfl) rfl rfl rfl (fun w hw => hw.back (Gh.refl _) h056 (.cons _ (.cons _ .slnil))) (q_ixn (i := i50) Try.underlying35 Try.sizeOf43 rfl rfl rfl hl55 ((hreplies.mono ((hl4.trans hl35).trans hl42)).some_ hl55)) ?_
        refine ht (i := 9) rfl (by kernel_rfl) rfl rfl rfl (fun w hw => hw.back (Gh.refl _) h056 (.cons _ (.cons _ .slnil))) (q_field_addr (i50 * 3 + 1) fld_43_1 rfl rfl ((hreplies.mono ((hl4.trans hl35).trans hl42)).some_ hl55) rfl) ?_
        refine ht (i := 10) rfl (by kernel_rfl) rfl rfl rfl (fun w hw => hw.back (Gh.refl _) h056 (.cons _ (.cons _ .slnil))) (q_ld (c := 1) (v := .slice A57 ((gt replies i50).vers).length c58) (hx61 hl55).2 rfl Try.isAgg40 rfl rfl) ?_
        refine ht (i := 12) rfl (by kernel_rfl) rfl rfl rfl (fun w hw => hw.back (Gh.refl _) h056 (.cons _ (.cons _ .slnil))) (q_move (v := .pointer (some ⟨g38, 0, none⟩)) rfl (by kernel_rfl)) ?_
        refine ht (i := 13) rfl (by kernel_rfl) rfl rfl rfl (fun w hw => hw.back (Gh.refl _) h056 (.cons _ (.cons _ .slnil))) (q_move (v := .slice Areplies replies.length creplies) rfl (by kernel_rfl)) ?_
        refine ht (i := 14) rfl (by kernel_rfl) rfl rfl rfl (fun w hw => hw.back (Gh.refl _) h056 (.cons _ (.cons _ .slnil))) (q_move (v := .int .i64 ((i50 : Nat) : Int)) rfl (by kernel_rfl)) ?_
        refine ht (i := 15) rfl (by kernel_rfl) rfl rfl rfl (fun w hw => hw.back (Gh.refl _) h056 (.cons _ (.cons _ .slnil))) (q_ixn (i := i50) Try.underlying35 Try.sizeOf43 rfl rfl rfl hl55 ((hreplies.mono ((hl4.trans hl35).trans hl42)).some_ hl55)) ?_
        refine ht (i := 16) rfl (by kernel_rfl) rfl rfl rfl (fun w hw => hw.back (Gh.refl _) h056 (.cons _ (.cons _ .slnil))) (q_field_addr (i50 * 3) fld_43_0 rfl rfl ((hreplies.mono ((hl4.trans hl35).trans hl42)).some_ hl55) rfl) ?_
        refine ht (i := 17) rfl (by kernel_rfl) rfl rfl rfl (fun w hw => hw.back (Gh.refl _) h056 (.cons _ (.cons _ .slnil))) (q_ld (c := 0) (v := .int .i64 (gt replies i50).node) (hx61 hl55).2 rfl Try.isAgg3 rfl rfl) ?_
        refine ht (i := 18) rfl (by kernel_rfl) rfl rfl rfl (fun w hw => hw.back (Gh.refl _) h056 (.cons _ (.cons _ .slnil))) (q_move (v := .slice Areplies replies.length creplies) rfl (by kernel_rfl)) ?_
        refine ht (i := 19) rfl (by kernel_rfl) rfl rfl rfl (fun w hw => hw.back (Gh.refl _) h056 (.cons _ (.cons _ .slnil))) (q_move (v := .int .i64 ((i50 : Nat) : Int)) rfl (by kernel_rfl)) ?_
        refine ht (i := 20) rfl (by kernel_rfl) rfl rfl rfl (fun w hw => hw.back (Gh.refl _) h056 (.cons _ (.cons _ .slnil))) (q_ixn (i := i50) Try.underlying35 Try.sizeOf43 rfl rfl rfl hl55 ((hreplies.mono ((hl4.trans hl35).trans hl42)).some_ hl55)) ?_
        refine ht (i := 21) rfl (by kernel_rfl) rfl rfl rfl (fun w hw => hw.back (Gh.refl _) h056 (.cons _ (.cons _ .slnil))) (q_field_addr (i50 * 3 + 1) fld_43_1 rfl rfl ((hreplies.mono ((hl4.trans hl35).trans hl42)).some_ hl55) rfl) ?_
        refine ht (i := 22) rfl (by kernel_rfl) rfl rfl rfl (fun w hw => hw.back (Gh.refl _) h056 (.cons _ (.cons _ .slnil))) (q_ld (c := 1) (v := .slice A57 ((gt replies i50).vers).length c58) (hx61 hl55).2 rfl Try.isAgg40 rfl rfl) ?_
        refine WH.lone (i := 11) (by kernel_rfl) rfl ?_
        obtain ⟨z62, hz63, h⟩ := bnd h
        refine e_call (is := [1]) rfl rfl (call_run Try.call19 rfl rfl (by kernel_rfl)) rfl (fun w hp => t_quorum_Read_Got ho48 ((gt replies i50).node) (hx61 hl55).1.1 (hx61 hl55).1.2.1.2 (hx61 hl55).1.2.1.1 hp hz63) ?_
        rintro Γ64 U66 v67 hl65 ⟨row68, rfl, rfl, hr69, _⟩
        change WR _ _ _ (CC F Γ64 [row68, row44]) _ _ (upd _ 60 (.bool z62.2))
        refine WR.nil ?_
        refine WH.next (fun w hw => hw.back hl65 h056 (.cons _ (.cons _ .slnil))) ?_
        refine WH.lone (i := 23) (by kernel_rfl) rfl ?_
        obtain ⟨z70, hz71, h⟩ := bnd h
        refine e_call (is := [1]) rfl rfl (call_run Try.call20 rfl rfl (by kernel_rfl)) rfl (fun w hp => t_firthref16_Ask_GotVers (ho45.mono hl65) ((gt replies i50).node) (hx61 hl55).1.1 ((hx61 hl55).1.2.1.2.mono hl65) (hx61 hl55).1.2.1.1 hp hz71) ?_
        rintro Γ72 U74 v75 hl73 ⟨row76, rfl, rfl, hr77, _⟩
        change WR _ _ _ (CC F Γ72 [row76, row68]) _ _ (upd _ 72 (.bool z70.2))
        refine WR.nil ?_
        refine WH.next (fun w hw => hw.back (hl65.trans hl73) h056 (.cons _ (.cons _ .slnil))) ?_
        refine ht (i := 24) rfl (by kernel_rfl) rfl rfl rfl (fun w hw => hw.back (hl65.trans hl73) h056 (.cons _ (.cons _ .slnil))) (q_bneq Try.underlying4 rfl rfl rfl) ?_
        refine ht (i := 25) rfl (by kernel_rfl) rfl rfl rfl (fun w hw => hw.back (hl65.trans hl73) h056 (.cons _ (.cons _ .slnil))) (q_move (v := .bool (z62.2 != z70.2)) rfl (by kernel_rfl)) ?_
        refine hg0 (i := 26) rfl (by kernel_rfl) rfl rfl rfl rfl rfl (fun w hw => hw.back (hl65.trans hl73) h056 (.cons _ (.cons _ .slnil))) (fun hg78 => (q_move (v := .pointer (some ⟨g7, 0, none⟩)) rfl (optp_some rfl hz30))) ?_
        refine hg0 (i := 28) rfl (by kernel_rfl) rfl rfl rfl rfl rfl (fun w hw => hw.back (hl65.trans hl73) h056 (.cons _ (.cons _ .slnil))) (fun hg79 => (q_move (v := .pointer (some ⟨g38, 0, none⟩)) rfl (by kernel_rfl))) ?_
        refine WH.lone (i := 27) (by kernel_rfl) rfl ?_
        obtain ⟨z81, hz82, h⟩ := bnd h
        refine vg0 rfl rfl rfl rfl rfl (fun hg80 => (q_call (call_run Try.call21 rfl rfl (args1 (gu hg80 rfl))) (fun w hw => t_quorum_Read_Done ((hr69.mono hl73).mono hw.sat.le_all) (hw.ra 1 rfl) (Sat.all w) (gc_of hz82 hg80)))) ?_
        refine WR.nil ?_
        refine WH.next (fun w hw => hw.back (hl65.trans hl73) h056 (.cons _ (.cons _ .slnil))) ?_
        refine (Bool.eq_false_or_eq_true (!(z62.2 != z70.2))).elim (fun hb83 => ?_) (fun hb83 => ?_)
        · skip
          have h := bt hb83 h
          refine WH.lone (i := 29) (by kernel_rfl) rfl ?_
          refine WR.sat (c0 := true) (g := (z62.2 != z70.2)) rfl rfl rfl hb83 ?_
          obtain ⟨z84, hz85, h⟩ := bnd h
          refine e_call (is := [0]) rfl rfl (call_run Try.call14 rfl rfl (args1 (gu hb83 rfl))) rfl (fun w hp => t_firthref16_Ask_Done hr77 hp hz85) ?_
          rintro Γ86 U88 v89 hl87 ⟨rfl, rfl, _⟩
          change WR _ _ _ (CC F Γ86 [row76, row68]) _ _ (upd _ 78 (.bool z84))
          refine WR.nil ?_
          refine WH.next (fun w hw => hw.back ((hl65.trans hl73).trans hl87) h056 (.cons _ (.cons _ .slnil))) ?_
          refine hg0 (i := 30) rfl (by kernel_rfl) rfl rfl rfl rfl rfl (fun w hw => hw.back ((hl65.trans hl73).trans hl87) h056 (.cons _ (.cons _ .slnil))) (fun hg90 => (q_bneq Try.underlying4 rfl (gu hg90 rfl) rfl)) ?_
          refine ht (i := 31) rfl (by kernel_rfl) rfl rfl rfl (fun w hw => hw.back ((hl65.trans hl73).trans hl87) h056 (.cons _ (.cons _ .slnil))) (q_pick_f (v := .bool (z81 != z84)) rfl rfl (not_t hb83) (gu hb83 rfl)) ?_
          refine ht (i := 32) rfl (by kernel_rfl) rfl rfl rfl (fun w hw => hw.back ((hl65.trans hl73).trans hl87) h056 (.cons _ (.cons _ .slnil))) (q_move (v := .bool (z81 != z84)) rfl (by kernel_rfl)) ?_
          refine hg0 (i := 33) rfl (by kernel_rfl) rfl rfl rfl rfl rfl (fun w hw => hw.back ((hl65.trans hl73).trans hl87) h056 (.cons _ (.cons _ .slnil))) (fun hg91 => (q_move (v := .pointer (some ⟨g7, 0, none⟩)) rfl (optp_some rfl hz30))) ?_
          refine hg0 (i := 35) rfl (by kernel_rfl) rfl rfl rfl rfl rfl (fun w hw => hw.back ((hl65.trans hl73).trans hl87) h056 (.cons _ (.cons _ .slnil))) (fun hg92 => (q_move (v := .pointer (some ⟨g38, 0, none⟩)) rfl (by kernel_rfl))) ?_
          refine (Bool.eq_false_or_eq_true (!(z81 != z84))).elim (fun hb93 => ?_) (fun hb93 => ?_)
          · skip
            have h := bt hb93 h
            refine WH.lone (i := 34) (by kernel_rfl) rfl ?_
            refine WR.sat (c0 := true) (g := (z81 != z84)) rfl rfl rfl hb93 ?_
            obtain ⟨z94, hz95, h⟩ := bnd h
            refine e_call (is := [1]) rfl rfl (call_run Try.call22 rfl rfl (args1 (gu hb93 rfl))) rfl (fun w hp => t_quorum_Read_Waits (hr69.mono (hl73.trans hl87)) hp hz95) ?_
            rintro Γ96 U98 v99 hl97 ⟨A100, c101, row102, rfl, rfl, hr103, _⟩
            change WR _ _ _ (CC F Γ96 [row68, row102, row76]) _ _ (upd _ 83 (.slice A100 z94.length c101))
            refine WR.nil ?_
            refine WH.next (fun w hw => hw.back (((hl65.trans hl73).trans hl87).trans hl97) h056 (.cons _ (.cons _ (.cons _ .slnil)))) ?_
            refine WH.lone (i := 36) (by kernel_rfl) rfl ?_
            refine WR.sat (c0 := true) (g := (z81 != z84)) rfl rfl rfl hb93 ?_
            obtain ⟨z104, hz105, h⟩ := bnd h
            refine e_call (is := [2]) rfl rfl (call_run Try.call17 rfl rfl (args1 (gu hb93 rfl))) rfl (fun w hp => t_firthref16_Ask_Waits (hr77.mono (hl87.trans hl97)) hp hz105) ?_
            rintro Γ106 U108 v109 hl107 ⟨A110, c111, row112, rfl, rfl, hr113, _⟩
            change WR _ _ _ (CC F Γ106 [row76, row112, row68, row102]) _ _ (upd _ 85 (.slice A110 z104.length c111))
            refine WR.nil ?_
            refine WH.next (fun w hw => hw.back ((((hl65.trans hl73).trans hl87).trans hl97).trans hl107) h056 (.cons _ (.cons _ (.cons _ (.cons _ .slnil))))) ?_
            refine WH.lone (i := 37) (by kernel_rfl) rfl ?_
            obtain ⟨z115, hz116, h⟩ := bnd h
            refine vg0 rfl rfl rfl rfl rfl (fun hg114 => (q_call (call_run Try.call15 rfl rfl (by kernel_rfl)) (fun w hw => t_firthref06_Ints ((hr103.mono hl107).sl hw.sat.le_all (hw.ra 3 rfl)) (hr103.mono hl107).capz (hr113.sl hw.sat.le_all (hw.ra 1 rfl)) hr113.capz (Sat.all w) (gc_of hz116 hg114)))) ?_
            refine WR.nil ?_
            refine WH.next (fun w hw => hw.back ((((hl65.trans hl73).trans hl87).trans hl97).trans hl107) h056 (.cons _ (.cons _ (.cons _ (.cons _ .slnil))))) ?_
            refine hg0 (i := 38) rfl (by kernel_rfl) rfl rfl rfl rfl rfl (fun w hw => hw.back ((((hl65.trans hl73).trans hl87).trans hl97).trans hl107) h056 (.cons _ (.cons _ (.cons _ (.cons _ .slnil))))) (fun hg117 => (q_not rfl (gu hg117 rfl))) ?_
            refine ht (i := 39) rfl (by kernel_rfl) rfl rfl rfl (fun w hw => hw.back ((((hl65.trans hl73).trans hl87).trans hl97).trans hl107) h056 (.cons _ (.cons _ (.cons _ (.cons _ .slnil))))) (q_pick_f (v := .bool (!z115)) rfl rfl (not_t hb93) (gu hb93 rfl)) ?_
            refine WH.done (by kernel_rfl) ?_
            change WC _ _ _ _ _ _
            refine WC.cif h (by kernel_rfl) (fun hb118 h => ?_) (fun hb118 h => ?_)
            · skip
              refine WC.rs ?_
              refine va rfl rfl rfl (q_assign (v := .bool false) rfl (by kernel_rfl)) ?_
              refine WR.nil ?_
              change WC _ _ _ _ _ _
              refine WC.ret ?_
              intro w hw
              obtain rfl := Option.some.inj h
              subst hF
              exact ⟨by kernel_rfl, hw.fr⟩
            · skip
              refine WC.skip ?_
              change WC _ _ _ _ _ _
              refine WC.rs ?_
              refine va rfl rfl rfl (q_move (v := .pointer (some ⟨g7, 0, none⟩)) rfl (optp_some rfl hz30)) ?_
              obtain ⟨z119, hz120, h⟩ := bnd h
              refine e_call (is := [2]) rfl rfl (call_run Try.call24 rfl rfl (by kernel_rfl)) rfl (fun w hp => t_quorum_Read_Vers (hr69.mono (((hl73.trans hl87).trans hl97).trans hl107)) hp hz120) ?_
              rintro Γ121 U123 v124 hl122 ⟨A125, c126, rfl, rfl, hc128, hr127, _⟩
              change WR _ _ _ (CC F Γ121 [row68, row76, row112, row102]) _ _ (upd _ 90 (.slice A125 z119.length c126))
              refine va rfl rfl rfl (q_move (v := .pointer (some ⟨g38, 0, none⟩)) rfl (by kernel_rfl)) ?_
              obtain ⟨z129, hz130, h⟩ := bnd h
              refine e_call (is := [1]) rfl rfl (call_run Try.call25 rfl rfl (by kernel_rfl)) rfl (fun w hp => t_firthref16_Ask_All (hr77.mono (((hl87.trans hl97).trans hl107).trans hl122)) hp hz130) ?_
              rintro Γ131 U133 v134 hl132 ⟨A135, c136, rfl, rfl, hc138, hr137, _⟩
              change WR _ _ _ (CC F Γ131 [row76, row68, row112, row102]) _ _ (upd _ 92 (.slice A135 z129.length c136))
              obtain ⟨z139, hz140, h⟩ := bnd h
              refine vc rfl rfl rfl (q_call (call_run Try.call23 rfl rfl (by kernel_rfl)) (fun w hw => t_firthref05_Same ((hr127.mono hl132).mono hw.sat.le_all) hc128 (hr137.mono hw.sat.le_all) hc138 (Sat.all w) hz140)) ?_
              refine va rfl rfl rfl (q_not rfl rfl) ?_
              refine va rfl rfl rfl (q_move (v := .bool (!z139)) rfl (by kernel_rfl)) ?_
              refine vg0 rfl rfl rfl rfl rfl (fun hg141 => QV.qo (q_move (v := .pointer (some ⟨g7, 0, none⟩)) rfl (optp_some rfl hz30))) ?_
              refine (Bool.eq_false_or_eq_true (!(!z139))).elim (fun hb142 => ?_) (fun hb142 => ?_)
              · skip
                have h := bt hb142 h
                refine WR.sat (c0 := true) (g := (!z139)) rfl rfl rfl hb142 ?_
                obtain ⟨z143, hz144, h⟩ := bnd h
                refine e_call (is := [1]) rfl rfl (call_run Try.call26 rfl rfl (args1 (gu hb142 rfl))) rfl (fun w hp => t_quorum_Read_Behind (hr69.mono (((((hl73.trans hl87).trans hl97).trans hl107).trans hl122).trans hl132)) hp hz144) ?_
                rintro Γ145 U147 v148 hl146 ⟨A149, c150, row151, rfl, rfl, hr152, _⟩
                change WR _ _ _ (CC F Γ145 [row68, row151, row76, row112, row102]) _ _ (upd _ 97 (.slice A149 z143.length c150))
                refine WR.sat (c0 := true) (g := (!z139)) rfl rfl rfl hb142 ?_
                refine va rfl rfl rfl (q_move (v := .pointer (some ⟨g38, 0, none⟩)) rfl (by kernel_rfl)) ?_
                refine WR.sat (c0 := true) (g := (!z139)) rfl rfl rfl hb142 ?_
                obtain ⟨z153, hz154, h⟩ := bnd h
                refine e_call (is := [2]) rfl rfl (call_run Try.call27 rfl rfl (by kernel_rfl)) rfl (fun w hp => t_firthref16_Ask_Behind (hr77.mono (((((hl87.trans hl97).trans hl107).trans hl122).trans hl132).trans hl146)) hp hz154) ?_
                rintro Γ155 U157 v158 hl156 ⟨A159, c160, row161, rfl, rfl, hr162, _⟩
                change WR _ _ _ (CC F Γ155 [row76, row161, row68, row151, row112, row102]) _ _ (upd _ 99 (.slice A159 z153.length c160))
                refine WR.sat (c0 := true) (g := (!z139)) rfl rfl rfl hb142 ?_
                obtain ⟨z163, hz164, h⟩ := bnd h
                refine vc rfl rfl rfl (q_call (call_run Try.call15 rfl rfl (by kernel_rfl)) (fun w hw => t_firthref06_Ints ((hr152.mono hl156).sl hw.sat.le_all (hw.ra 3 rfl)) (hr152.mono hl156).capz (hr162.sl hw.sat.le_all (hw.ra 1 rfl)) hr162.capz (Sat.all w) hz164)) ?_
                refine WR.sat (c0 := true) (g := (!z139)) rfl rfl rfl hb142 ?_
                refine va rfl rfl rfl (q_not rfl rfl) ?_
                refine va rfl rfl rfl (q_pick_f (v := .bool (!z163)) rfl rfl (not_t hb142) (by kernel_rfl)) ?_
                refine WR.nil ?_
                change WC _ _ _ _ _ _
                refine WC.cif h (by kernel_rfl) (fun hb165 h => ?_) (fun hb165 h => ?_)
                · skip
                  refine WC.rs ?_
                  refine va rfl rfl rfl (q_assign (v := .bool false) rfl (by kernel_rfl)) ?_
                  refine WR.nil ?_
                  change WC _ _ _ _ _ _
                  refine WC.ret ?_
                  intro w hw
                  obtain rfl := Option.some.inj h
                  subst hF
                  exact ⟨by kernel_rfl, hw.fr⟩
                · skip
                  refine WC.skip ?_
                  change WC _ _ _ _ _ _
                  refine WC.region ?_
                  refine va rfl rfl rfl (q_move (v := .int .i64 ((i50 : Nat) : Int)) rfl (by kernel_rfl)) ?_
                  refine va rfl rfl rfl (q_add_r (r := ((i50 + 1 : Nat) : Int)) rfl rfl rfl (ctr_len hl55 (hreplies.mono ((hl4.trans hl35).trans hl42)).le)) ?_
                  refine va rfl rfl rfl (q_assign (v := .int .i64 ((i50 + 1 : Nat) : Int)) rfl (by kernel_rfl)) ?_
                  refine WR.nil ?_
                  intro w hw
                  exact ⟨hl55, (z70.1, z62.1), h, Γ155, row76, row68, (sl_ (by kernel_rfl)), (hw.only (is := [0, 1]) rfl), (((((((((hl42.trans hl65).trans hl73).trans hl87).trans hl97).trans hl107).trans hl122).trans hl132).trans hl146).trans hl156), (hr77.mono ((((((hl87.trans hl97).trans hl107).trans hl122).trans hl132).trans hl146).trans hl156)), (hr69.mono (((((((hl73.trans hl87).trans hl97).trans hl107).trans hl122).trans hl132).trans hl146).trans hl156)), trivial⟩
              · skip
                have h := bf hb142 h
                refine WR.unsat (c0 := true) (g := (!z139)) rfl rfl rfl hb142 rfl ?_
                refine WR.unsat (c0 := true) (g := (!z139)) rfl rfl rfl hb142 rfl ?_
                refine WR.unsat (c0 := true) (g := (!z139)) rfl rfl rfl hb142 rfl ?_
                refine WR.unsat (c0 := true) (g := (!z139)) rfl rfl rfl hb142 rfl ?_
                refine WR.unsat (c0 := true) (g := (!z139)) rfl rfl rfl hb142 rfl ?_
                refine va rfl rfl rfl (q_pick_t (v := .bool true) rfl rfl (not_f hb142) (by kernel_rfl)) ?_
                refine WR.nil ?_
                change WC _ _ _ _ _ _
                refine WC.ctk (b := true) (by kernel_rfl) rfl ?_
                refine WC.rs ?_
                refine va rfl rfl rfl (q_assign (v := .bool false) rfl (by kernel_rfl)) ?_
                refine WR.nil ?_
                change WC _ _ _ _ _ _
                refine WC.ret ?_
                intro w hw
                obtain rfl := Option.some.inj h
                subst hF
                exact ⟨by kernel_rfl, hw.fr⟩
          · skip
            have h := bf hb93 h
            refine hg0 (g := (z81 != z84)) (i := 34) (v := undef) rfl (by kernel_rfl) rfl rfl rfl rfl rfl (fun w hw => hw.back ((hl65.trans hl73).trans hl87) h056 (.cons _ (.cons _ .slnil))) (no_tf hb93) ?_
            refine WH.env (v := undef) (gv_false hb93) ?_
            refine hg0 (g := (z81 != z84)) (i := 36) (v := undef) rfl (by kernel_rfl) rfl rfl rfl rfl rfl (fun w hw => hw.back ((hl65.trans hl73).trans hl87) h056 (.cons _ (.cons _ .slnil))) (no_tf hb93) ?_
            refine WH.env (v := undef) (gv_false hb93) ?_
            refine hg0 (g := (z81 != z84)) (i := 37) (v := undef) rfl (by kernel_rfl) rfl rfl rfl rfl rfl (fun w hw => hw.back ((hl65.trans hl73).trans hl87) h056 (.cons _ (.cons _ .slnil))) (no_tf hb93) ?_
            refine WH.env (v := undef) (gv_false hb93) ?_
            refine hg0 (g := (z81 != z84)) (i := 38) (v := undef) rfl (by kernel_rfl) rfl rfl rfl rfl rfl (fun w hw => hw.back ((hl65.trans hl73).trans hl87) h056 (.cons _ (.cons _ .slnil))) (no_tf hb93) ?_
            refine WH.env (v := undef) (gv_false hb93) ?_
            refine ht (i := 39) rfl (by kernel_rfl) rfl rfl rfl (fun w hw => hw.back ((hl65.trans hl73).trans hl87) h056 (.cons _ (.cons _ .slnil))) (q_pick_t (v := .bool true) rfl rfl (not_f hb93) (by kernel_rfl)) ?_
            refine WH.done (by kernel_rfl) ?_
            change WC _ _ _ _ _ _
            refine WC.ctk (b := true) (by kernel_rfl) rfl ?_
            refine WC.rs ?_
            refine va rfl rfl rfl (q_assign (v := .bool false) rfl (by kernel_rfl)) ?_
            refine WR.nil ?_
            change WC _ _ _ _ _ _
            refine WC.ret ?_
            intro w hw
            obtain rfl := Option.some.inj h
            subst hF
            exact ⟨by kernel_rfl, hw.fr⟩
        · skip
          have h := bf hb83 h
          refine hg0 (g := (z62.2 != z70.2)) (i := 29) (v := undef) rfl (by kernel_rfl) rfl rfl rfl rfl rfl (fun w hw => hw.back (hl65.trans hl73) h056 (.cons _ (.cons _ .slnil))) (no_tf hb83) ?_
          refine WH.env (v := undef) (gv_false hb83) ?_
          refine hg0 (g := (z62.2 != z70.2)) (i := 30) (v := undef) rfl (by kernel_rfl) rfl rfl rfl rfl rfl (fun w hw => hw.back (hl65.trans hl73) h056 (.cons _ (.cons _ .slnil))) (no_tf hb83) ?_
          refine WH.env (v := undef) (gv_false hb83) ?_
          refine ht (i := 31) rfl (by kernel_rfl) rfl rfl rfl (fun w hw => hw.back (hl65.trans hl73) h056 (.cons _ (.cons _ .slnil))) (q_pick_t (v := .bool true) rfl rfl (not_f hb83) (by kernel_rfl)) ?_
          refine ht (i := 32) rfl (by kernel_rfl) rfl rfl rfl (fun w hw => hw.back (hl65.trans hl73) h056 (.cons _ (.cons _ .slnil))) (q_move (v := .bool true) rfl (by kernel_rfl)) ?_
          refine hg0 (g := true) (i := 33) (v := undef) rfl (by kernel_rfl) rfl rfl rfl rfl rfl (fun w hw => hw.back (hl65.trans hl73) h056 (.cons _ (.cons _ .slnil))) (no_tf (nott rfl)) ?_
          refine WH.env (v := undef) (gv_false (nott rfl)) ?_
          refine hg0 (g := true) (i := 34) (v := undef) rfl (by kernel_rfl) rfl rfl rfl rfl rfl (fun w hw => hw.back (hl65.trans hl73) h056 (.cons _ (.cons _ .slnil))) (no_tf (nott rfl)) ?_
          refine WH.env (v := undef) (gv_false (nott rfl)) ?_
          refine hg0 (g := true) (i := 35) (v := undef) rfl (by kernel_rfl) rfl rfl rfl rfl rfl (fun w hw => hw.back (hl65.trans hl73) h056 (.cons _ (.cons _ .slnil))) (no_tf (nott rfl)) ?_
          refine WH.env (v := undef) (gv_false (nott rfl)) ?_
          refine hg0 (g := true) (i := 36) (v := undef) rfl (by kernel_rfl) rfl rfl rfl rfl rfl (fun w hw => hw.back (hl65.trans hl73) h056 (.cons _ (.cons _ .slnil))) (no_tf (nott rfl)) ?_
          refine WH.env (v := undef) (gv_false (nott rfl)) ?_
          refine hg0 (g := true) (i := 37) (v := undef) rfl (by kernel_rfl) rfl rfl rfl rfl rfl (fun w hw => hw.back (hl65.trans hl73) h056 (.cons _ (.cons _ .slnil))) (no_tf (nott rfl)) ?_
          refine WH.env (v := undef) (gv_false (nott rfl)) ?_
          refine hg0 (g := true) (i := 38) (v := undef) rfl (by kernel_rfl) rfl rfl rfl rfl rfl (fun w hw => hw.back (hl65.trans hl73) h056 (.cons _ (.cons _ .slnil))) (no_tf (nott rfl)) ?_
          refine WH.env (v := undef) (gv_false (nott rfl)) ?_
          refine ht (i := 39) rfl (by kernel_rfl) rfl rfl rfl (fun w hw => hw.back (hl65.trans hl73) h056 (.cons _ (.cons _ .slnil))) (q_pickt (v := .bool true) rfl rfl rfl) ?_
          refine WH.done (by kernel_rfl) ?_
          change WC _ _ _ _ _ _
          refine WC.ctk (b := true) (by kernel_rfl) rfl ?_
          refine WC.rs ?_
          refine va rfl rfl rfl (q_assign (v := .bool false) rfl (by kernel_rfl)) ?_
          refine WR.nil ?_
          change WC _ _ _ _ _ _
          refine WC.ret ?_
          intro w hw
          obtain rfl := Option.some.inj h
          subst hF
          exact ⟨by kernel_rfl, hw.fr⟩
      · skip
        have h := hge53 (ige hb54)
        refine WC.exit ?_
        change WC _ _ _ _ _ _
        refine WC.rs ?_
        refine va rfl rfl rfl (q_assign (v := .bool true) rfl (by kernel_rfl)) ?_
        refine WR.nil ?_
        change WC _ _ _ _ _ _
        refine WC.ret ?_
        intro w hw
        obtain rfl := Option.some.inj h
        subst hF
        exact ⟨by kernel_rfl, hw.fr⟩
end Fw
end Go.Proofs.Ytlbdlkgboliikaa
