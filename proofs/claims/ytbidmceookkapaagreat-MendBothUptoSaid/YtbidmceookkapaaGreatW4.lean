/- Walks through the functions that the law reaches (printed by a program). No condition. -/
import Derived.Test.YtbidmceookkapaaGreatW3
namespace Go.Proofs.YtbidmceookkapaaGreat
namespace Fw
set_option linter.unusedVariables false
set_option linter.unusedSimpArgs false
set_option linter.unusedSectionVars false
open Go.RowKit
abbrev r_firthref05_Merge (r : (List Ver) × Int) (U : List Rowb) (Γ : Gh) (v : Value) : Prop := ∃ (A0 : Option Addr), ∃ (c0 : Nat), v = .tuple #[.slice A0 r.1.length c0, .int .i64 r.2] ∧ U = [] ∧ r.1.length ≤ c0 ∧ Sl verT Γ A0 r.1 ∧ I64 r.2 ∧ True
set_option maxRecDepth 100000 in
set_option maxHeartbeats 400000 in
theorem t_firthref05_Merge {Γ : Gh} {w0 : World} {Aa : Option Addr} {ca : Nat} {a : List Ver} (ha : Sl verT Γ Aa a) (hac : a.length ≤ ca) {Ab : Option Addr} {cb : Nat} {b : List Ver} (hb : Sl verT Γ Ab b) (hbc : b.length ≤ cb) (hp : Pre [] Γ w0) {r : (List Ver) × Int} (h : m_firthref05_Merge a b = some r) : Calls Tryz.prog 51 #[.slice Aa a.length ca, .slice Ab b.length cb] w0 (Outc Γ [] w0 (r_firthref05_Merge r)) := by
  refine calls_of (N := 98) (rs := [4, 5]) (args := [.slice Aa a.length ca, .slice Ab b.length cb]) Tryz.func51 rfl Tryz.ntmps51 Tryz.results51 rfl ?_
  obtain ⟨F, hF⟩ : ∃ F : Fm, F = ⟨ids [], w0, Γ⟩ := ⟨_, rfl⟩
  refine WC.here (C := CC F Γ []) ?_ (hF ▸ hp.start)
  refine WC.rs ?_
  refine va rfl rfl rfl (q_assign (v := .slice none 0 0) rfl (by kernel_rfl)) ?_
  refine va rfl rfl rfl (q_assign (v := .int .i64 0) rfl (by kernel_rfl)) ?_
  refine WR.nil ?_
  change WC _ _ _ _ _ _
  refine WC.seq ?_
  refine WC.rs ?_
  refine va rfl rfl rfl (q_move (v := .slice Aa a.length ca) rfl (by kernel_rfl)) ?_
  obtain ⟨z1, hz2, h⟩ := bnd h
  refine vc rfl rfl rfl (q_call (call_run Tryz.call59 rfl rfl (by kernel_rfl)) (fun w hw => t_firthref05_Right (Γ := Gh.all w) (ha.mono hw.sat.le_all) hac (Sat.all w) hz2)) ?_
  refine va rfl rfl rfl (q_not rfl rfl) ?_
  refine va rfl rfl rfl (q_move (v := .bool (!z1)) rfl (by kernel_rfl)) ?_
  refine vg0 rfl rfl rfl rfl rfl (fun hg3 => QV.qo (q_move (v := .slice Ab b.length cb) rfl (by kernel_rfl))) ?_
  obtain ⟨z5, hz6, h⟩ := bnd h
  refine vg0 rfl rfl rfl rfl rfl (fun hg4 => (q_call (call_run Tryz.call59 rfl rfl (args1 (gu hg4 rfl))) (fun w hw => t_firthref05_Right (Γ := Gh.all w) (hb.mono hw.sat.le_all) hbc (Sat.all w) (gc_of hz6 hg4)))) ?_
  refine vg0 rfl rfl rfl rfl rfl (fun hg7 => QV.qo (q_not rfl (gu hg7 rfl))) ?_
  refine va rfl rfl rfl (q_pick rfl rfl (pk_or' (g := (!z1)) (y := (!z5)))) ?_
  refine WR.nil ?_
  change WC _ _ _ _ _ _
  refine WC.cif h (by kernel_rfl) (fun hb8 h => ?_) (fun hb8 h => ?_)
  · skip
    refine WC.rs ?_
    refine va rfl rfl rfl (q_assign (v := .slice none 0 0) rfl (by kernel_rfl)) ?_
    refine va rfl rfl rfl (q_assign (v := .int .i64 1) rfl (by kernel_rfl)) ?_
    refine WR.nil ?_
    change WC _ _ _ _ _ _
    refine WC.ret ?_
    intro w hw
    obtain rfl := Option.some.inj h
    subst hF
    exact end_e (is := []) (by kernel_rfl) hw rfl ⟨none, 0, rfl, rfl, (Nat.zero_le 0), (Sl.nil verT _ none), (show I64 1 by decide), trivial⟩
  · skip
    refine WC.skip ?_
    change WC _ _ _ _ _ _
    refine WC.seq ?_
    refine WC.rs ?_
    refine va rfl rfl rfl (q_assign (v := .int .i64 0) rfl (by kernel_rfl)) ?_
    refine WR.nil ?_
    change WC _ _ _ _ _ _
    refine WC.block ?_
    refine WC.forI h (fun (i10 : Nat) (s : Unit) σ w => match s with | () => slots σ [(0, .slice Aa a.length ca), (1, .slice Ab b.length cb), (6, .int .i64 ((i10 : Nat) : Int))] ∧ CC F Γ [] w ∧ True) ?_ ?_
    · skip
      intro w hw
      exact ⟨(sl_ (by kernel_rfl)), hw, trivial⟩
    rintro f9 i10 ⟨⟩ σ w hi11 hlt12 hge13 ⟨hsl, hw, -⟩
    refine Wpt.slots hsl ?_
    refine WC.here (C := CC F Γ []) ?_ hw
    clear hw hsl
    refine WC.seq ?_
    refine WC.rs ?_
    refine va rfl rfl rfl (q_move (v := .int .i64 ((i10 : Nat) : Int)) rfl (by kernel_rfl)) ?_
    refine va rfl rfl rfl (q_move (v := .slice Aa a.length ca) rfl (by kernel_rfl)) ?_
    refine va rfl rfl rfl (q_len_slice rfl Tryz.underlying48 rfl) ?_
    refine va rfl rfl rfl (q_lss rfl rfl rfl) ?_
    refine WR.nil ?_
    change WC _ _ _ _ _ _
    refine WC.cond (b := (decide (((i10 : Nat) : Int) < ((a.length : Nat) : Int)))) (by kernel_rfl) (fun hb14 => ?_) (fun hb14 => ?_)
    · skip
      have hl15 := ilt hb14
      have h := hlt12 hl15
      refine WC.skip ?_
      change WC _ _ _ _ _ _
      refine WC.seq ?_
      refine WC.block ?_
      refine WC.rs ?_
      refine va rfl rfl rfl (q_assign (v := .int .i64 0) rfl (by kernel_rfl)) ?_
      refine WR.nil ?_
      change WC _ _ _ _ _ _
      refine WC.block ?_
      refine WC.forI h (fun (i17 : Nat) (s : Unit) σ w => match s with | () => slots σ [(0, .slice Aa a.length ca), (1, .slice Ab b.length cb), (6, .int .i64 ((i10 : Nat) : Int)), (7, .int .i64 ((i17 : Nat) : Int))] ∧ CC F Γ [] w ∧ True) ?_ ?_
      · skip
        intro w hw
        exact ⟨(sl_ (by kernel_rfl)), hw, trivial⟩
      rintro f16 i17 ⟨⟩ σ w hi18 hlt19 hge20 ⟨hsl, hw, -⟩
      refine Wpt.slots hsl ?_
      refine WC.here (C := CC F Γ []) ?_ hw
      clear hw hsl
      refine WC.seq ?_
      refine WC.rs ?_
      refine va rfl rfl rfl (q_move (v := .int .i64 ((i17 : Nat) : Int)) rfl (by kernel_rfl)) ?_
      refine va rfl rfl rfl (q_move (v := .slice Ab b.length cb) rfl (by kernel_rfl)) ?_
      refine va rfl rfl rfl (q_len_slice rfl Tryz.underlying48 rfl) ?_
      refine va rfl rfl rfl (q_lss rfl rfl rfl) ?_
      refine WR.nil ?_
      change WC _ _ _ _ _ _
      refine WC.cond (b := (decide (((i17 : Nat) : Int) < ((b.length : Nat) : Int)))) (by kernel_rfl) (fun hb21 => ?_) (fun hb21 => ?_)
      · skip
        have hl22 := ilt hb21
        have h := hlt19 hl22
        refine WC.skip ?_
        change WC _ _ _ _ _ _
        refine WC.seq ?_
        refine WC.block ?_
        refine WC.seq ?_
        refine WC.dr (by kernel_rfl) (by kernel_rfl) (fun w hw => hw.drawn _) ?_
        refine wa rfl rfl rfl (q_move (v := .slice Aa a.length ca) rfl (by kernel_rfl)) ?_
        refine wa rfl rfl rfl (q_move (v := .int .i64 ((i10 : Nat) : Int)) rfl (by kernel_rfl)) ?_
        refine wa rfl rfl rfl (q_ixn (i := i10) Tryz.underlying48 Tryz.sizeOf57 rfl rfl rfl hl15 (ha.some_ hl15)) ?_
        refine wa rfl rfl rfl (q_field_addr (i10 * 5) fld_57_0 rfl rfl (ha.some_ hl15) rfl) ?_
        obtain ⟨A23, c24, hx25⟩ := ha.verT_at i10
        refine wa rfl rfl rfl (q_lda (c := 0) (vs := [.int .i64 (gt a i10).dot.s, .int .i64 (gt a i10).dot.n]) (hx25 hl15).2 rfl Tryz.isAgg54 Tryz.sizeOf54 rfl rfl rfl) ?_
        refine wa rfl rfl rfl (q_move (v := .slice Ab b.length cb) rfl (by kernel_rfl)) ?_
        refine wa rfl rfl rfl (q_move (v := .int .i64 ((i17 : Nat) : Int)) rfl (by kernel_rfl)) ?_
        refine wa rfl rfl rfl (q_ixn (i := i17) Tryz.underlying48 Tryz.sizeOf57 rfl rfl rfl hl22 (hb.some_ hl22)) ?_
        refine wa rfl rfl rfl (q_field_addr (i17 * 5) fld_57_0 rfl rfl (hb.some_ hl22) rfl) ?_
        obtain ⟨A26, c27, hx28⟩ := hb.verT_at i17
        refine wa rfl rfl rfl (q_lda (c := 0) (vs := [.int .i64 (gt b i17).dot.s, .int .i64 (gt b i17).dot.n]) (hx28 hl22).2 rfl Tryz.isAgg54 Tryz.sizeOf54 rfl rfl rfl) ?_
        refine wa rfl rfl rfl (q_eql_Dot (a := (gt a i10).dot) (b := (gt b i17).dot) rfl rfl rfl) ?_
        refine wa rfl rfl rfl (q_move (v := .bool ((gt a i10).dot == (gt b i17).dot)) rfl (by kernel_rfl)) ?_
        refine wg1 rfl rfl rfl rfl rfl (fun hg29 => QV.qo (q_move (v := .slice Aa a.length ca) rfl (by kernel_rfl))) ?_
        refine wg1 rfl rfl rfl rfl rfl (fun hg30 => QV.qo (q_move (v := .int .i64 ((i10 : Nat) : Int)) rfl (by kernel_rfl))) ?_
        refine wg1 rfl rfl rfl rfl rfl (fun hg31 => QV.qo (q_ixn (i := i10) Tryz.underlying48 Tryz.sizeOf57 rfl (gu hg31 rfl) (gu hg31 rfl) hl15 (ha.some_ hl15))) ?_
        refine wg1 rfl rfl rfl rfl rfl (fun hg32 => QV.qo (q_lda (c := 0) (vs := [.int .i64 (gt a i10).dot.s, .int .i64 (gt a i10).dot.n, .slice A23 ((gt a i10).past).length c24, .bool (gt a i10).gone, .string (gt a i10).val]) (hx25 hl15).2 rfl Tryz.isAgg57 Tryz.sizeOf57 (gu hg32 rfl) rfl rfl)) ?_
        refine wg1 rfl rfl rfl rfl rfl (fun hg33 => QV.qo (q_move (v := .slice Ab b.length cb) rfl (by kernel_rfl))) ?_
        refine wg1 rfl rfl rfl rfl rfl (fun hg34 => QV.qo (q_move (v := .int .i64 ((i17 : Nat) : Int)) rfl (by kernel_rfl))) ?_
        refine wg1 rfl rfl rfl rfl rfl (fun hg35 => QV.qo (q_ixn (i := i17) Tryz.underlying48 Tryz.sizeOf57 rfl (gu hg35 rfl) (gu hg35 rfl) hl22 (hb.some_ hl22))) ?_
        refine wg1 rfl rfl rfl rfl rfl (fun hg36 => QV.qo (q_lda (c := 0) (vs := [.int .i64 (gt b i17).dot.s, .int .i64 (gt b i17).dot.n, .slice A26 ((gt b i17).past).length c27, .bool (gt b i17).gone, .string (gt b i17).val]) (hx28 hl22).2 rfl Tryz.isAgg57 Tryz.sizeOf57 (gu hg36 rfl) rfl rfl)) ?_
        obtain ⟨z38, hz39, h⟩ := bnd h
        refine wg1 rfl rfl rfl rfl rfl (fun hg37 => (q_call (call_run Tryz.call68 rfl rfl (args2 (gu hg37 rfl) (gu hg37 rfl))) (fun w hw => t_firthref05_SameOne (Γ := Gh.all w) (gt a i10) (Ver.fits_mono (hx25 hl15).1 hw.sat.le_all) (gt b i17) (Ver.fits_mono (hx28 hl22).1 hw.sat.le_all) (Sat.all w) (gc_of hz39 hg37)))) ?_
        refine wg1 rfl rfl rfl rfl rfl (fun hg40 => QV.qo (q_not rfl (gu hg40 rfl))) ?_
        refine wa rfl rfl rfl (q_pick rfl rfl (pk_and' (g := ((gt a i10).dot == (gt b i17).dot)) (y := (!z38)))) ?_
        refine WQ.nil ?_
        change WC _ _ _ _ _ _
        refine WC.cif h (by kernel_rfl) (fun hb41 h => ?_) (fun hb41 h => ?_)
        · skip
          refine WC.rs ?_
          refine va rfl rfl rfl (q_assign (v := .slice none 0 0) rfl (by kernel_rfl)) ?_
          refine va rfl rfl rfl (q_assign (v := .int .i64 50) rfl (by kernel_rfl)) ?_
          refine WR.nil ?_
          change WC _ _ _ _ _ _
          refine WC.ret ?_
          intro w hw
          obtain rfl := Option.some.inj h
          subst hF
          exact end_e (is := []) (by kernel_rfl) hw rfl ⟨none, 0, rfl, rfl, (Nat.zero_le 0), (Sl.nil verT _ none), (show I64 50 by decide), trivial⟩
        · skip
          refine WC.skip ?_
          change WC _ _ _ _ _ _
          refine WC.region ?_
          refine va rfl rfl rfl (q_move (v := .int .i64 ((i17 : Nat) : Int)) rfl (by kernel_rfl)) ?_
          refine va rfl rfl rfl (q_add_r (r := ((i17 + 1 : Nat) : Int)) rfl rfl rfl (ctr_len hl22 hb.le)) ?_
          refine va rfl rfl rfl (q_assign (v := .int .i64 ((i17 + 1 : Nat) : Int)) rfl (by kernel_rfl)) ?_
          refine WR.nil ?_
          intro w hw
          exact ⟨hl22, (), h, (sl_ (by kernel_rfl)), hw, trivial⟩
      · skip
        have h := hge20 (ige hb21)
        refine WC.exit ?_
        change WC _ _ _ _ _ _
        refine WC.region ?_
        refine va rfl rfl rfl (q_move (v := .int .i64 ((i10 : Nat) : Int)) rfl (by kernel_rfl)) ?_
        refine va rfl rfl rfl (q_add_r (r := ((i10 + 1 : Nat) : Int)) rfl rfl rfl (ctr_len hl15 ha.le)) ?_
        refine va rfl rfl rfl (q_assign (v := .int .i64 ((i10 + 1 : Nat) : Int)) rfl (by kernel_rfl)) ?_
        refine WR.nil ?_
        intro w hw
        exact ⟨hl15, (), h, (sl_ (by kernel_rfl)), hw, trivial⟩
    · skip
      have h := hge13 (ige hb14)
      refine WC.exit ?_
      change WC _ _ _ _ _ _
      refine WC.rs ?_
      refine va rfl rfl rfl (q_assign (v := .slice none 0 0) rfl (by kernel_rfl)) ?_
      refine WR.nil ?_
      change WC _ _ _ _ _ _
      refine WC.seq ?_
      refine WC.rs ?_
      refine va rfl rfl rfl (q_assign (v := .int .i64 0) rfl (by kernel_rfl)) ?_
      refine WR.nil ?_
      change WC _ _ _ _ _ _
      refine WC.block ?_
      refine WC.forI h (fun (i50 : Nat) (out_44 : List Ver) σ w => ∃ (Γ42 : Gh), ∃ (A45 : Option Addr), ∃ (c46 : Nat), slots σ [(0, .slice Aa a.length ca), (1, .slice Ab b.length cb), (8, .slice A45 out_44.length c46), (9, .int .i64 ((i50 : Nat) : Int))] ∧ CC F Γ42 [] w ∧ Gh.le Γ Γ42 ∧ out_44.length ≤ c46 ∧ Sl verT Γ42 A45 out_44 ∧ True) ?_ ?_
      · skip
        intro w hw
        exact ⟨Γ, none, 0, (sl_ (by kernel_rfl)), hw, (Gh.refl _), (Nat.zero_le 0), (Sl.nil verT _ none), trivial⟩
      rintro f49 i50 out_44 σ w hi51 hlt52 hge53 ⟨Γ42, A45, c46, hsl, hw, hl43, hc48, hs47, -⟩
      refine Wpt.slots hsl ?_
      refine WC.here (C := CC F Γ42 []) ?_ hw
      clear hw hsl
      refine WC.seq ?_
      refine WC.rs ?_
      refine va rfl rfl rfl (q_move (v := .int .i64 ((i50 : Nat) : Int)) rfl (by kernel_rfl)) ?_
      refine va rfl rfl rfl (q_move (v := .slice Aa a.length ca) rfl (by kernel_rfl)) ?_
      refine va rfl rfl rfl (q_len_slice rfl Tryz.underlying48 rfl) ?_
      refine va rfl rfl rfl (q_lss rfl rfl rfl) ?_
      refine WR.nil ?_
      change WC _ _ _ _ _ _
      refine WC.cond (b := (decide (((i50 : Nat) : Int) < ((a.length : Nat) : Int)))) (by kernel_rfl) (fun hb54 => ?_) (fun hb54 => ?_)
      · skip
        have hl55 := ilt hb54
        have h := hlt52 hl55
        refine WC.skip ?_
        change WC _ _ _ _ _ _
        refine WC.cut (fun σ w => ∃ (out_58 : List Ver), ∃ (Γ56 : Gh), ∃ (A59 : Option Addr), ∃ (c60 : Nat), m_firthref05_Merge_j10 f49 out_58 = some r ∧ slots σ [(0, .slice Aa a.length ca), (1, .slice Ab b.length cb), (8, .slice A59 out_58.length c60), (9, .int .i64 ((i50 : Nat) : Int))] ∧ CC F Γ56 [] w ∧ Gh.le Γ42 Γ56 ∧ out_58.length ≤ c60 ∧ Sl verT Γ56 A59 out_58 ∧ True) ?_ ?_
        · skip
          refine WC.block ?_
          refine WC.rs ?_
          refine va rfl rfl rfl (q_move (v := .slice Ab b.length cb) rfl (by kernel_rfl)) ?_
          refine va rfl rfl rfl (q_move (v := .slice Aa a.length ca) rfl (by kernel_rfl)) ?_
          refine va rfl rfl rfl (q_move (v := .int .i64 ((i50 : Nat) : Int)) rfl (by kernel_rfl)) ?_
          refine va rfl rfl rfl (q_ixn (i := i50) Tryz.underlying48 Tryz.sizeOf57 rfl rfl rfl hl55 ((ha.mono hl43).some_ hl55)) ?_
          refine va rfl rfl rfl (q_field_addr (i50 * 5) fld_57_0 rfl rfl ((ha.mono hl43).some_ hl55) rfl) ?_
          obtain ⟨A63, c64, hx65⟩ := (ha.mono hl43).verT_at i50
          refine va rfl rfl rfl (q_lda (c := 0) (vs := [.int .i64 (gt a i50).dot.s, .int .i64 (gt a i50).dot.n]) (hx65 hl55).2 rfl Tryz.isAgg54 Tryz.sizeOf54 rfl rfl rfl) ?_
          obtain ⟨z66, hz67, h⟩ := bnd h
          refine vc rfl rfl rfl (q_call (call_run Tryz.call56 rfl rfl (by kernel_rfl)) (fun w hw => t_firthref05_Behind (Γ := Gh.all w) ((hb.mono hl43).mono hw.sat.le_all) hbc ((gt a i50).dot) ⟨(hx65 hl55).1.1, (hx65 hl55).1.2.1⟩ (Sat.all w) hz67)) ?_
          refine va rfl rfl rfl (q_not rfl rfl) ?_
          refine WR.nil ?_
          change WC _ _ _ _ _ _
          refine WC.cif h (by kernel_rfl) (fun hb68 h => ?_) (fun hb68 h => ?_)
          · skip
            refine WC.region ?_
            refine va rfl rfl rfl (q_move (v := .slice A45 out_44.length c46) rfl (by kernel_rfl)) ?_
            refine va rfl rfl rfl (q_move (v := .slice Aa a.length ca) rfl (by kernel_rfl)) ?_
            refine va rfl rfl rfl (q_move (v := .int .i64 ((i50 : Nat) : Int)) rfl (by kernel_rfl)) ?_
            refine va rfl rfl rfl (q_ixn (i := i50) Tryz.underlying48 Tryz.sizeOf57 rfl rfl rfl hl55 ((ha.mono hl43).some_ hl55)) ?_
            refine va rfl rfl rfl (q_lda (c := 0) (vs := [.int .i64 (gt a i50).dot.s, .int .i64 (gt a i50).dot.n, .slice A63 ((gt a i50).past).length c64, .bool (gt a i50).gone, .string (gt a i50).val]) (hx65 hl55).2 rfl Tryz.isAgg57 Tryz.sizeOf57 rfl rfl rfl) ?_
            obtain ⟨z69, hz70, h⟩ := bnd h
            refine e_call (is := []) rfl rfl (call_run Tryz.call72 rfl rfl (by kernel_rfl)) rfl (fun w hp => t_firthref05_put hs47 hc48 (gt a i50) (hx65 hl55).1 hp hz70) ?_
            rintro Γ71 U73 v74 hl72 ⟨A75, c76, rfl, rfl, hc78, hr77, _⟩
            change WR _ _ _ (CC F Γ71 []) _ _ (upd _ 73 (.slice A75 z69.length c76))
            refine va rfl rfl rfl (q_assign (v := .slice A75 z69.length c76) rfl (by kernel_rfl)) ?_
            refine WR.nil ?_
            intro w hw
            exact ⟨z69, Γ71, A75, c76, h, (sl_ (by kernel_rfl)), hw, hl72, hc78, hr77, trivial⟩
          · skip
            refine WC.skip ?_
            intro w hw
            exact ⟨out_44, Γ42, A45, c46, h, (sl_ (by kernel_rfl)), hw, (Gh.refl _), hc48, hs47, trivial⟩
        · skip
          rintro σ w ⟨out_58, Γ56, A59, c60, h, hsl, hw, hl57, hc62, hs61, -⟩
          refine Wpt.slots hsl ?_
          refine WC.here (C := CC F Γ56 []) ?_ hw
          clear hw hsl
          refine WC.region ?_
          refine va rfl rfl rfl (q_move (v := .int .i64 ((i50 : Nat) : Int)) rfl (by kernel_rfl)) ?_
          refine va rfl rfl rfl (q_add_r (r := ((i50 + 1 : Nat) : Int)) rfl rfl rfl (ctr_len hl55 (ha.mono hl43).le)) ?_
          refine va rfl rfl rfl (q_assign (v := .int .i64 ((i50 + 1 : Nat) : Int)) rfl (by kernel_rfl)) ?_
          refine WR.nil ?_
          intro w hw
          exact ⟨hl55, out_58, h, Γ56, A59, c60, (sl_ (by kernel_rfl)), hw, (hl43.trans hl57), hc62, hs61, trivial⟩
      · skip
        have h := hge53 (ige hb54)
        refine WC.exit ?_
        change WC _ _ _ _ _ _
        refine WC.seq ?_
        refine WC.rs ?_
        refine va rfl rfl rfl (q_assign (v := .int .i64 0) rfl (by kernel_rfl)) ?_
        refine WR.nil ?_
        change WC _ _ _ _ _ _
        refine WC.block ?_
        refine WC.forI h (fun (i87 : Nat) (out_81 : List Ver) σ w => ∃ (Γ79 : Gh), ∃ (A82 : Option Addr), ∃ (c83 : Nat), slots σ [(0, .slice Aa a.length ca), (1, .slice Ab b.length cb), (8, .slice A82 out_81.length c83), (10, .int .i64 ((i87 : Nat) : Int))] ∧ CC F Γ79 [] w ∧ Gh.le Γ42 Γ79 ∧ out_81.length ≤ c83 ∧ Sl verT Γ79 A82 out_81 ∧ True) ?_ ?_
        · skip
          intro w hw
          exact ⟨Γ42, A45, c46, (sl_ (by kernel_rfl)), hw, (Gh.refl _), hc48, hs47, trivial⟩
        rintro f86 i87 out_81 σ w hi88 hlt89 hge90 ⟨Γ79, A82, c83, hsl, hw, hl80, hc85, hs84, -⟩
        refine Wpt.slots hsl ?_
        refine WC.here (C := CC F Γ79 []) ?_ hw
        clear hw hsl
        refine WC.seq ?_
        refine WC.rs ?_
        refine va rfl rfl rfl (q_move (v := .int .i64 ((i87 : Nat) : Int)) rfl (by kernel_rfl)) ?_
        refine va rfl rfl rfl (q_move (v := .slice Ab b.length cb) rfl (by kernel_rfl)) ?_
        refine va rfl rfl rfl (q_len_slice rfl Tryz.underlying48 rfl) ?_
        refine va rfl rfl rfl (q_lss rfl rfl rfl) ?_
        refine WR.nil ?_
        change WC _ _ _ _ _ _
        refine WC.cond (b := (decide (((i87 : Nat) : Int) < ((b.length : Nat) : Int)))) (by kernel_rfl) (fun hb91 => ?_) (fun hb91 => ?_)
        · skip
          have hl92 := ilt hb91
          have h := hlt89 hl92
          refine WC.skip ?_
          change WC _ _ _ _ _ _
          refine WC.cut (fun σ w => ∃ (out_95 : List Ver), ∃ (Γ93 : Gh), ∃ (A96 : Option Addr), ∃ (c97 : Nat), m_firthref05_Merge_j15 f86 out_95 = some r ∧ slots σ [(0, .slice Aa a.length ca), (1, .slice Ab b.length cb), (8, .slice A96 out_95.length c97), (10, .int .i64 ((i87 : Nat) : Int))] ∧ CC F Γ93 [] w ∧ Gh.le Γ79 Γ93 ∧ out_95.length ≤ c97 ∧ Sl verT Γ93 A96 out_95 ∧ True) ?_ ?_
          · skip
            refine WC.block ?_
            refine WC.rs ?_
            refine va rfl rfl rfl (q_move (v := .slice Aa a.length ca) rfl (by kernel_rfl)) ?_
            refine va rfl rfl rfl (q_move (v := .slice Ab b.length cb) rfl (by kernel_rfl)) ?_
            refine va rfl rfl rfl (q_move (v := .int .i64 ((i87 : Nat) : Int)) rfl (by kernel_rfl)) ?_
            refine va rfl rfl rfl (q_ixn (i := i87) Tryz.underlying48 Tryz.sizeOf57 rfl rfl rfl hl92 ((hb.mono (hl43.trans hl80)).some_ hl92)) ?_
            refine va rfl rfl rfl (q_field_addr (i87 * 5) fld_57_0 rfl rfl ((hb.mono (hl43.trans hl80)).some_ hl92) rfl) ?_
            obtain ⟨A100, c101, hx102⟩ := (hb.mono (hl43.trans hl80)).verT_at i87
            refine va rfl rfl rfl (q_lda (c := 0) (vs := [.int .i64 (gt b i87).dot.s, .int .i64 (gt b i87).dot.n]) (hx102 hl92).2 rfl Tryz.isAgg54 Tryz.sizeOf54 rfl rfl rfl) ?_
            obtain ⟨z103, hz104, h⟩ := bnd h
            refine vc rfl rfl rfl (q_call (call_run Tryz.call56 rfl rfl (by kernel_rfl)) (fun w hw => t_firthref05_Behind (Γ := Gh.all w) ((ha.mono (hl43.trans hl80)).mono hw.sat.le_all) hac ((gt b i87).dot) ⟨(hx102 hl92).1.1, (hx102 hl92).1.2.1⟩ (Sat.all w) hz104)) ?_
            refine va rfl rfl rfl (q_not rfl rfl) ?_
            refine WR.nil ?_
            change WC _ _ _ _ _ _
            refine WC.cif h (by kernel_rfl) (fun hb105 h => ?_) (fun hb105 h => ?_)
            · skip
              refine WC.region ?_
              refine va rfl rfl rfl (q_move (v := .slice A82 out_81.length c83) rfl (by kernel_rfl)) ?_
              refine va rfl rfl rfl (q_move (v := .slice Ab b.length cb) rfl (by kernel_rfl)) ?_
              refine va rfl rfl rfl (q_move (v := .int .i64 ((i87 : Nat) : Int)) rfl (by kernel_rfl)) ?_
              refine va rfl rfl rfl (q_ixn (i := i87) Tryz.underlying48 Tryz.sizeOf57 rfl rfl rfl hl92 ((hb.mono (hl43.trans hl80)).some_ hl92)) ?_
              refine va rfl rfl rfl (q_lda (c := 0) (vs := [.int .i64 (gt b i87).dot.s, .int .i64 (gt b i87).dot.n, .slice A100 ((gt b i87).past).length c101, .bool (gt b i87).gone, .string (gt b i87).val]) (hx102 hl92).2 rfl Tryz.isAgg57 Tryz.sizeOf57 rfl rfl rfl) ?_
              obtain ⟨z106, hz107, h⟩ := bnd h
              refine e_call (is := []) rfl rfl (call_run Tryz.call72 rfl rfl (by kernel_rfl)) rfl (fun w hp => t_firthref05_put hs84 hc85 (gt b i87) (hx102 hl92).1 hp hz107) ?_
              rintro Γ108 U110 v111 hl109 ⟨A112, c113, rfl, rfl, hc115, hr114, _⟩
              change WR _ _ _ (CC F Γ108 []) _ _ (upd _ 93 (.slice A112 z106.length c113))
              refine va rfl rfl rfl (q_assign (v := .slice A112 z106.length c113) rfl (by kernel_rfl)) ?_
              refine WR.nil ?_
              intro w hw
              exact ⟨z106, Γ108, A112, c113, h, (sl_ (by kernel_rfl)), hw, hl109, hc115, hr114, trivial⟩
            · skip
              refine WC.skip ?_
              intro w hw
              exact ⟨out_81, Γ79, A82, c83, h, (sl_ (by kernel_rfl)), hw, (Gh.refl _), hc85, hs84, trivial⟩
          · skip
            rintro σ w ⟨out_95, Γ93, A96, c97, h, hsl, hw, hl94, hc99, hs98, -⟩
            refine Wpt.slots hsl ?_
            refine WC.here (C := CC F Γ93 []) ?_ hw
            clear hw hsl
            refine WC.region ?_
            refine va rfl rfl rfl (q_move (v := .int .i64 ((i87 : Nat) : Int)) rfl (by kernel_rfl)) ?_
            refine va rfl rfl rfl (q_add_r (r := ((i87 + 1 : Nat) : Int)) rfl rfl rfl (ctr_len hl92 (hb.mono (hl43.trans hl80)).le)) ?_
            refine va rfl rfl rfl (q_assign (v := .int .i64 ((i87 + 1 : Nat) : Int)) rfl (by kernel_rfl)) ?_
            refine WR.nil ?_
            intro w hw
            exact ⟨hl92, out_95, h, Γ93, A96, c97, (sl_ (by kernel_rfl)), hw, (hl80.trans hl94), hc99, hs98, trivial⟩
        · skip
          have h := hge90 (ige hb91)
          refine WC.exit ?_
          change WC _ _ _ _ _ _
          refine WC.seq ?_
          refine WC.rs ?_
          refine va rfl rfl rfl (q_move (v := .slice A82 out_81.length c83) rfl (by kernel_rfl)) ?_
          refine va rfl rfl rfl (q_len_slice rfl Tryz.underlying48 rfl) ?_
          refine va rfl rfl rfl (q_gtr rfl rfl rfl) ?_
          refine WR.nil ?_
          change WC _ _ _ _ _ _
          refine WC.cif h (by kernel_rfl) (fun hb116 h => ?_) (fun hb116 h => ?_)
          · skip
            refine WC.rs ?_
            refine va rfl rfl rfl (q_assign (v := .slice none 0 0) rfl (by kernel_rfl)) ?_
            refine va rfl rfl rfl (q_assign (v := .int .i64 3) rfl (by kernel_rfl)) ?_
            refine WR.nil ?_
            change WC _ _ _ _ _ _
            refine WC.ret ?_
            intro w hw
            obtain rfl := Option.some.inj h
            subst hF
            exact end_e (is := []) (by kernel_rfl) hw rfl ⟨none, 0, rfl, rfl, (Nat.zero_le 0), (Sl.nil verT _ none), (show I64 3 by decide), trivial⟩
          · skip
            refine WC.skip ?_
            change WC _ _ _ _ _ _
            refine WC.rs ?_
            refine va rfl rfl rfl (q_move (v := .slice A82 out_81.length c83) rfl (by kernel_rfl)) ?_
            refine va rfl rfl rfl (q_assign (v := .slice A82 out_81.length c83) rfl (by kernel_rfl)) ?_
            refine va rfl rfl rfl (q_assign (v := .int .i64 0) rfl (by kernel_rfl)) ?_
            refine WR.nil ?_
            change WC _ _ _ _ _ _
            refine WC.ret ?_
            intro w hw
            obtain rfl := Option.some.inj h
            subst hF
            exact end_e (is := []) (by kernel_rfl) hw rfl ⟨A82, c83, rfl, rfl, hc85, hs84, (show I64 0 by decide), trivial⟩
abbrev r_firthlaw14_laid (r : List Rec) (U : List Rowb) (Γ : Gh) (v : Value) : Prop := ∃ (A0 : Option Addr), ∃ (c0 : Nat), v = .slice A0 r.length c0 ∧ U = [] ∧ r.length ≤ c0 ∧ Sl recT Γ A0 r ∧ True
set_option maxRecDepth 100000 in
set_option maxHeartbeats 400000 in
theorem t_firthlaw14_laid {Γ : Gh} {w0 : World} {Al : Option Addr} {cl : Nat} {l : List Rec} (hl : Sl recT Γ Al l) (hlc : l.length ≤ cl) {Amore : Option Addr} {cmore : Nat} {more : List Rec} (hmore : Sl recT Γ Amore more) (hmorec : more.length ≤ cmore) (hp : Pre [] Γ w0) {r : List Rec} (h : m_firthlaw14_laid l more = some r) : Calls Tryz.prog 24 #[.slice Al l.length cl, .slice Amore more.length cmore] w0 (Outc Γ [] w0 (r_firthlaw14_laid r)) := by
  refine calls_of (N := 19) (rs := [4]) (args := [.slice Al l.length cl, .slice Amore more.length cmore]) Tryz.func24 rfl Tryz.ntmps24 Tryz.results24 rfl ?_
  obtain ⟨F, hF⟩ : ∃ F : Fm, F = ⟨ids [], w0, Γ⟩ := ⟨_, rfl⟩
  refine WC.here (C := CC F Γ []) ?_ (hF ▸ hp.start)
  refine WC.rs ?_
  refine va rfl rfl rfl (q_assign (v := .slice none 0 0) rfl (by kernel_rfl)) ?_
  refine WR.nil ?_
  change WC _ _ _ _ _ _
  refine WC.seq ?_
  refine WC.rs ?_
  refine va rfl rfl rfl (q_assign (v := .int .i64 0) rfl (by kernel_rfl)) ?_
  refine WR.nil ?_
  change WC _ _ _ _ _ _
  refine WC.block ?_
  refine WC.forI h (fun (i9 : Nat) (l_3 : List Rec) σ w => ∃ (Γ1 : Gh), ∃ (A4 : Option Addr), ∃ (c5 : Nat), slots σ [(0, .slice A4 l_3.length c5), (1, .slice Amore more.length cmore), (5, .int .i64 ((i9 : Nat) : Int))] ∧ CC F Γ1 [] w ∧ Gh.le Γ Γ1 ∧ l_3.length ≤ c5 ∧ Sl recT Γ1 A4 l_3 ∧ True) ?_ ?_
  · skip
    intro w hw
    exact ⟨Γ, Al, cl, (sl_ (by kernel_rfl)), hw, (Gh.refl _), hlc, hl, trivial⟩
  rintro f8 i9 l_3 σ w hi10 hlt11 hge12 ⟨Γ1, A4, c5, hsl, hw, hl2, hc7, hs6, -⟩
  refine Wpt.slots hsl ?_
  refine WC.here (C := CC F Γ1 []) ?_ hw
  clear hw hsl
  refine WC.seq ?_
  refine WC.rs ?_
  refine va rfl rfl rfl (q_move (v := .int .i64 ((i9 : Nat) : Int)) rfl (by kernel_rfl)) ?_
  refine va rfl rfl rfl (q_move (v := .slice Amore more.length cmore) rfl (by kernel_rfl)) ?_
  refine va rfl rfl rfl (q_len_slice rfl Tryz.underlying22 rfl) ?_
  refine va rfl rfl rfl (q_lss rfl rfl rfl) ?_
  refine WR.nil ?_
  change WC _ _ _ _ _ _
  refine WC.cond (b := (decide (((i9 : Nat) : Int) < ((more.length : Nat) : Int)))) (by kernel_rfl) (fun hb13 => ?_) (fun hb13 => ?_)
  · skip
    have hl14 := ilt hb13
    have h := hlt11 hl14
    refine WC.skip ?_
    change WC _ _ _ _ _ _
    refine WC.seq ?_
    refine WC.block ?_
    refine WC.region ?_
    refine va rfl rfl rfl (q_move (v := .slice A4 l_3.length c5) rfl (by kernel_rfl)) ?_
    refine va rfl rfl rfl (q_move (v := .slice Amore more.length cmore) rfl (by kernel_rfl)) ?_
    refine va rfl rfl rfl (q_move (v := .int .i64 ((i9 : Nat) : Int)) rfl (by kernel_rfl)) ?_
    refine va rfl rfl rfl (q_ixn (i := i9) Tryz.underlying22 Tryz.sizeOf51 rfl rfl rfl hl14 ((hmore.mono hl2).some_ hl14)) ?_
    obtain ⟨A15, c16, hx17⟩ := (hmore.mono hl2).recT_at i9
    refine va rfl rfl rfl (q_lda (c := 0) (vs := [.string (gt more i9).key, .slice A15 ((gt more i9).vers).length c16]) (hx17 hl14).2 rfl Tryz.isAgg51 Tryz.sizeOf51 rfl rfl rfl) ?_
    obtain ⟨z18, hz19, h⟩ := bnd h
    refine e_call (is := []) rfl rfl (call_run Tryz.call33 rfl rfl (by kernel_rfl)) rfl (fun w hp => t_firthref10_With hs6 hc7 (gt more i9) (hx17 hl14).1 hp hz19) ?_
    rintro Γ20 U22 v23 hl21 ⟨A24, c25, row26, rfl, rfl, hr27, _⟩
    change WR _ _ _ (CC F Γ20 [row26]) _ _ (upd _ 17 (.slice A24 z18.length c25))
    refine va rfl rfl rfl (q_assign (v := .slice A24 z18.length c25) rfl (by kernel_rfl)) ?_
    refine WR.nil ?_
    change WC _ _ _ _ _ _
    refine WC.region ?_
    refine va rfl rfl rfl (q_move (v := .int .i64 ((i9 : Nat) : Int)) rfl (by kernel_rfl)) ?_
    refine va rfl rfl rfl (q_add_r (r := ((i9 + 1 : Nat) : Int)) rfl rfl rfl (ctr_len hl14 (hmore.mono hl2).le)) ?_
    refine va rfl rfl rfl (q_assign (v := .int .i64 ((i9 + 1 : Nat) : Int)) rfl (by kernel_rfl)) ?_
    refine WR.nil ?_
    intro w hw
    have hc32 := hr27.capz
    obtain ⟨Γ28, hw, hl29, hr30⟩ := hw.seal (i := 0) rfl; have hs31 := hr27.sl hl29 hr30
    exact ⟨hl14, z18, h, Γ28, A24, c25, (sl_ (by kernel_rfl)), (hw.only (is := []) rfl), ((hl2.trans hl21).trans hl29), hc32, hs31, trivial⟩
  · skip
    have h := hge12 (ige hb13)
    refine WC.exit ?_
    change WC _ _ _ _ _ _
    refine WC.rs ?_
    refine va rfl rfl rfl (q_move (v := .slice A4 l_3.length c5) rfl (by kernel_rfl)) ?_
    refine va rfl rfl rfl (q_assign (v := .slice A4 l_3.length c5) rfl (by kernel_rfl)) ?_
    refine WR.nil ?_
    change WC _ _ _ _ _ _
    refine WC.ret ?_
    intro w hw
    obtain rfl := Option.some.inj h
    subst hF
    exact end_e (is := []) (by kernel_rfl) hw rfl ⟨A4, c5, rfl, rfl, hc7, hs6, trivial⟩
abbrev r_firthlaw14_both (r : (List Rec) × Bool) (U : List Rowb) (Γ : Gh) (v : Value) : Prop := ∃ (A0 : Option Addr), ∃ (c0 : Nat), v = .tuple #[.slice A0 r.1.length c0, .bool r.2] ∧ U = [] ∧ r.1.length ≤ c0 ∧ Sl recT Γ A0 r.1 ∧ True
set_option maxRecDepth 100000 in
set_option maxHeartbeats 400000 in
theorem t_firthlaw14_both {Γ : Gh} {w0 : World} {Aa : Option Addr} {ca : Nat} {a : List Rec} (ha : Sl recT Γ Aa a) (hac : a.length ≤ ca) {Ab : Option Addr} {cb : Nat} {b : List Rec} (hb : Sl recT Γ Ab b) (hbc : b.length ≤ cb) (hp : Pre [] Γ w0) {r : (List Rec) × Bool} (h : m_firthlaw14_both a b = some r) : Calls Tryz.prog 21 #[.slice Aa a.length ca, .slice Ab b.length cb] w0 (Outc Γ [] w0 (r_firthlaw14_both r)) := by
  refine calls_of (N := 45) (rs := [4, 5]) (args := [.slice Aa a.length ca, .slice Ab b.length cb]) Tryz.func21 rfl Tryz.ntmps21 Tryz.results21 rfl ?_
  obtain ⟨F, hF⟩ : ∃ F : Fm, F = ⟨ids [], w0, Γ⟩ := ⟨_, rfl⟩
  refine WC.here (C := CC F Γ []) ?_ (hF ▸ hp.start)
  refine WC.rs ?_
  refine va rfl rfl rfl (q_assign (v := .slice none 0 0) rfl (by kernel_rfl)) ?_
  refine va rfl rfl rfl (q_assign (v := .bool false) rfl (by kernel_rfl)) ?_
  refine WR.nil ?_
  change WC _ _ _ _ _ _
  refine WC.rs ?_
  refine va rfl rfl rfl (q_move (v := .slice Aa a.length ca) rfl (by kernel_rfl)) ?_
  refine va rfl rfl rfl (q_assign (v := .slice Aa a.length ca) rfl (by kernel_rfl)) ?_
  refine WR.nil ?_
  change WC _ _ _ _ _ _
  refine WC.seq ?_
  refine WC.rs ?_
  refine va rfl rfl rfl (q_assign (v := .int .i64 0) rfl (by kernel_rfl)) ?_
  refine WR.nil ?_
  change WC _ _ _ _ _ _
  refine WC.block ?_
  refine WC.forI h (fun (i9 : Nat) (out_3 : List Rec) σ w => ∃ (Γ1 : Gh), ∃ (A4 : Option Addr), ∃ (c5 : Nat), slots σ [(1, .slice Ab b.length cb), (6, .slice A4 out_3.length c5), (7, .int .i64 ((i9 : Nat) : Int))] ∧ CC F Γ1 [] w ∧ Gh.le Γ Γ1 ∧ out_3.length ≤ c5 ∧ Sl recT Γ1 A4 out_3 ∧ True) ?_ ?_
  · skip
    intro w hw
    exact ⟨Γ, Aa, ca, (sl_ (by kernel_rfl)), hw, (Gh.refl _), hac, ha, trivial⟩
  rintro f8 i9 out_3 σ w hi10 hlt11 hge12 ⟨Γ1, A4, c5, hsl, hw, hl2, hc7, hs6, -⟩
  refine Wpt.slots hsl ?_
  refine WC.here (C := CC F Γ1 []) ?_ hw
  clear hw hsl
  refine WC.seq ?_
  refine WC.rs ?_
  refine va rfl rfl rfl (q_move (v := .int .i64 ((i9 : Nat) : Int)) rfl (by kernel_rfl)) ?_
  refine va rfl rfl rfl (q_move (v := .slice Ab b.length cb) rfl (by kernel_rfl)) ?_
  refine va rfl rfl rfl (q_len_slice rfl Tryz.underlying22 rfl) ?_
  refine va rfl rfl rfl (q_lss rfl rfl rfl) ?_
  refine WR.nil ?_
  change WC _ _ _ _ _ _
  refine WC.cond (b := (decide (((i9 : Nat) : Int) < ((b.length : Nat) : Int)))) (by kernel_rfl) (fun hb13 => ?_) (fun hb13 => ?_)
  · skip
    have hl14 := ilt hb13
    have h := hlt11 hl14
    refine WC.skip ?_
    change WC _ _ _ _ _ _
    refine WC.seq ?_
    refine WC.block ?_
    refine WC.seq ?_
    intro w hw; have h015 := hw.le
    refine WC.here (C := CC F Γ1 []) ?_ hw; clear hw
    refine WC.held (CC F Γ1 []) (by kernel_rfl) (fun w hw => hw.drawn _) ?_
    change WH _ _ _ _ (CC F Γ1 []) _ 18 #[false, false, false, false, false, false, false, false, false, false, false, false, false, false, false, false, false, false] _
    refine ht (i := 0) rfl (by kernel_rfl) rfl rfl rfl (fun w hw => hw.back (Gh.refl _) h015 .slnil) (q_move (v := .slice A4 out_3.length c5) rfl (by kernel_rfl)) ?_
    refine ht (i := 1) rfl (by kernel_rfl) rfl rfl rfl (fun w hw => hw.back (Gh.refl _) h015 .slnil) (q_move (v := .slice Ab b.length cb) rfl (by kernel_rfl)) ?_
    refine ht (i := 2) rfl (by kernel_rfl) rfl rfl rfl (fun w hw => hw.back (Gh.refl _) h015 .slnil) (q_move (v := .int .i64 ((i9 : Nat) : Int)) rfl (by kernel_rfl)) ?_
    refine ht (i := 3) rfl (by kernel_rfl) rfl rfl rfl (fun w hw => hw.back (Gh.refl _) h015 .slnil) (q_ixn (i := i9) Tryz.underlying22 Tryz.sizeOf51 rfl rfl rfl hl14 ((hb.mono hl2).some_ hl14)) ?_
    refine ht (i := 4) rfl (by kernel_rfl) rfl rfl rfl (fun w hw => hw.back (Gh.refl _) h015 .slnil) (q_field_addr (i9 * 2) fld_51_0 rfl rfl ((hb.mono hl2).some_ hl14) rfl) ?_
    obtain ⟨A16, c17, hx18⟩ := (hb.mono hl2).recT_at i9
    refine ht (i := 5) rfl (by kernel_rfl) rfl rfl rfl (fun w hw => hw.back (Gh.refl _) h015 .slnil) (q_ld (c := 0) (v := .string (gt b i9).key) (hx18 hl14).2 rfl Tryz.isAgg9 rfl rfl) ?_
    refine ht (i := 7) rfl (by kernel_rfl) rfl rfl rfl (fun w hw => hw.back (Gh.refl _) h015 .slnil) (q_move (v := .slice Ab b.length cb) rfl (by kernel_rfl)) ?_
    refine ht (i := 8) rfl (by kernel_rfl) rfl rfl rfl (fun w hw => hw.back (Gh.refl _) h015 .slnil) (q_move (v := .int .i64 ((i9 : Nat) : Int)) rfl (by kernel_rfl)) ?_
    refine ht (i := 9) rfl (by kernel_rfl) rfl rfl rfl (fun w hw => hw.back (Gh.refl _) h015 .slnil) (q_ixn (i := i9) Tryz.underlying22 Tryz.sizeOf51 rfl rfl rfl hl14 ((hb.mono hl2).some_ hl14)) ?_
    refine ht (i := 10) rfl (by kernel_rfl) rfl rfl rfl (fun w hw => hw.back (Gh.refl _) h015 .slnil) (q_field_addr (i9 * 2 + 1) fld_51_1 rfl rfl ((hb.mono hl2).some_ hl14) rfl) ?_
    refine ht (i := 11) rfl (by kernel_rfl) rfl rfl rfl (fun w hw => hw.back (Gh.refl _) h015 .slnil) (q_ld (c := 1) (v := .slice A16 ((gt b i9).vers).length c17) (hx18 hl14).2 rfl Tryz.isAgg48 rfl rfl) ?_
    refine WH.lone (i := 6) (by kernel_rfl) rfl ?_
    obtain ⟨z19, hz20, h⟩ := bnd h
    refine e_call (is := []) rfl rfl (call_run Tryz.call26 rfl rfl (by kernel_rfl)) rfl (fun w hp => t_firthref14_Get hs6 hc7 ((gt b i9).key) (hx18 hl14).1.1 hp hz20) ?_
    rintro Γ21 U23 v24 hl22 ⟨A25, c26, rfl, rfl, hc28, hr27, _⟩
    change WR _ _ _ (CC F Γ21 []) _ _ (upd _ 24 (.slice A25 z19.length c26))
    refine WR.nil ?_
    refine WH.next (fun w hw => hw.back hl22 h015 .slnil) ?_
    refine WH.lone (i := 12) (by kernel_rfl) rfl ?_
    obtain ⟨z29, hz30, h⟩ := bnd h
    refine e_call (is := []) rfl rfl (call_run Tryz.call51 rfl rfl (by kernel_rfl)) rfl (fun w hp => t_firthref05_Merge hr27 hc28 ((hx18 hl14).1.2.2.mono hl22) (hx18 hl14).1.2.1 hp hz30) ?_
    rintro Γ31 U33 v34 hl32 ⟨A35, c36, rfl, rfl, hc38, hr37, hr39, _⟩
    change WR _ _ _ (CC F Γ31 []) _ _ (upd _ 30 (.tuple #[.slice A35 z29.1.length c36, .int .i64 z29.2]))
    refine WR.nil ?_
    refine WH.next (fun w hw => hw.back (hl22.trans hl32) h015 .slnil) ?_
    refine ht (i := 13) rfl (by kernel_rfl) rfl rfl rfl (fun w hw => hw.back (hl22.trans hl32) h015 .slnil) (q_move (v := .tuple #[.slice A35 z29.1.length c36, .int .i64 z29.2]) rfl (by kernel_rfl)) ?_
    refine ht (i := 14) rfl (by kernel_rfl) rfl rfl rfl (fun w hw => hw.back (hl22.trans hl32) h015 .slnil) (q_extract (v := .slice A35 z29.1.length c36) rfl rfl rfl) ?_
    refine ht (i := 15) rfl (by kernel_rfl) rfl rfl rfl (fun w hw => hw.back (hl22.trans hl32) h015 .slnil) (q_extract (v := .int .i64 z29.2) rfl rfl rfl) ?_
    refine ht (i := 16) rfl (by kernel_rfl) rfl rfl rfl (fun w hw => hw.back (hl22.trans hl32) h015 .slnil) (q_assign (v := .slice A35 z29.1.length c36) rfl (by kernel_rfl)) ?_
    refine ht (i := 17) rfl (by kernel_rfl) rfl rfl rfl (fun w hw => hw.back (hl22.trans hl32) h015 .slnil) (q_assign (v := .int .i64 z29.2) rfl (by kernel_rfl)) ?_
    refine WH.done (by kernel_rfl) ?_
    change WC _ _ _ _ _ _
    refine WC.seq ?_
    refine WC.rs ?_
    refine va rfl rfl rfl (q_move (v := .int .i64 z29.2) rfl (by kernel_rfl)) ?_
    refine va rfl rfl rfl (q_neq rfl rfl rfl) ?_
    refine WR.nil ?_
    change WC _ _ _ _ _ _
    refine WC.cif h (by kernel_rfl) (fun hb40 h => ?_) (fun hb40 h => ?_)
    · skip
      refine WC.rs ?_
      refine va rfl rfl rfl (q_assign (v := .slice none 0 0) rfl (by kernel_rfl)) ?_
      refine va rfl rfl rfl (q_assign (v := .bool false) rfl (by kernel_rfl)) ?_
      refine WR.nil ?_
      change WC _ _ _ _ _ _
      refine WC.ret ?_
      intro w hw
      obtain rfl := Option.some.inj h
      subst hF
      exact end_e (is := []) (by kernel_rfl) hw rfl ⟨none, 0, rfl, rfl, (Nat.zero_le 0), (Sl.nil recT _ none), trivial⟩
    · skip
      refine WC.skip ?_
      change WC _ _ _ _ _ _
      refine WC.region ?_
      refine va rfl rfl rfl (q_move (v := .slice A4 out_3.length c5) rfl (by kernel_rfl)) ?_
      refine va rfl rfl rfl (q_move (v := .slice Ab b.length cb) rfl (by kernel_rfl)) ?_
      refine va rfl rfl rfl (q_move (v := .int .i64 ((i9 : Nat) : Int)) rfl (by kernel_rfl)) ?_
      refine va rfl rfl rfl (q_ixn (i := i9) Tryz.underlying22 Tryz.sizeOf51 rfl rfl rfl hl14 ((hb.mono ((hl2.trans hl22).trans hl32)).some_ hl14)) ?_
      refine va rfl rfl rfl (q_field_addr (i9 * 2) fld_51_0 rfl rfl ((hb.mono ((hl2.trans hl22).trans hl32)).some_ hl14) rfl) ?_
      refine va rfl rfl rfl (q_ld (c := 0) (v := .string (gt b i9).key) ((hx18 hl14).2.mono (hl22.trans hl32)) rfl Tryz.isAgg9 rfl rfl) ?_
      refine va rfl rfl rfl (q_move (v := .slice A35 z29.1.length c36) rfl (by kernel_rfl)) ?_
      refine va rfl rfl rfl (q_build' (v := .agg #[.string (gt b i9).key, .slice A35 z29.1.length c36]) rfl (bargs2 rfl rfl) (fun w => by kernel_rfl)) ?_
      obtain ⟨z41, hz42, h⟩ := bnd h
      refine e_call (is := []) rfl rfl (call_run Tryz.call33 rfl rfl (by kernel_rfl)) rfl (fun w hp => t_firthref10_With (hs6.mono (hl22.trans hl32)) hc7 (⟨(gt b i9).key, z29.1⟩ : Rec) ⟨(hx18 hl14).1.1, ⟨hc38, hr37⟩⟩ hp hz42) ?_
      rintro Γ43 U45 v46 hl44 ⟨A47, c48, row49, rfl, rfl, hr50, _⟩
      change WR _ _ _ (CC F Γ43 [row49]) _ _ (upd _ 43 (.slice A47 z41.length c48))
      refine va rfl rfl rfl (q_assign (v := .slice A47 z41.length c48) rfl (by kernel_rfl)) ?_
      refine WR.nil ?_
      change WC _ _ _ _ _ _
      refine WC.region ?_
      refine va rfl rfl rfl (q_move (v := .int .i64 ((i9 : Nat) : Int)) rfl (by kernel_rfl)) ?_
      refine va rfl rfl rfl (q_add_r (r := ((i9 + 1 : Nat) : Int)) rfl rfl rfl (ctr_len hl14 (hb.mono hl2).le)) ?_
      refine va rfl rfl rfl (q_assign (v := .int .i64 ((i9 + 1 : Nat) : Int)) rfl (by kernel_rfl)) ?_
      refine WR.nil ?_
      intro w hw
      have hc55 := hr50.capz
      obtain ⟨Γ51, hw, hl52, hr53⟩ := hw.seal (i := 0) rfl; have hs54 := hr50.sl hl52 hr53
      exact ⟨hl14, z41, h, Γ51, A47, c48, (sl_ (by kernel_rfl)), (hw.only (is := []) rfl), ((((hl2.trans hl22).trans hl32).trans hl44).trans hl52), hc55, hs54, trivial⟩
  · skip
    have h := hge12 (ige hb13)
    refine WC.exit ?_
    change WC _ _ _ _ _ _
    refine WC.rs ?_
    refine va rfl rfl rfl (q_move (v := .slice A4 out_3.length c5) rfl (by kernel_rfl)) ?_
    refine va rfl rfl rfl (q_assign (v := .slice A4 out_3.length c5) rfl (by kernel_rfl)) ?_
    refine va rfl rfl rfl (q_assign (v := .bool true) rfl (by kernel_rfl)) ?_
    refine WR.nil ?_
    change WC _ _ _ _ _ _
    refine WC.ret ?_
    intro w hw
    obtain rfl := Option.some.inj h
    subst hF
    exact end_e (is := []) (by kernel_rfl) hw rfl ⟨A4, c5, rfl, rfl, hc7, hs6, trivial⟩
set_option maxRecDepth 100000 in
set_option maxHeartbeats 400000 in
theorem t_firthlaw14_under {Γ : Gh} {w0 : World} {Aa2 : Option Addr} {ca2 : Nat} (a : Ver) (ha : Ver.fits Γ Aa2 ca2 a) {Ab2 : Option Addr} {cb2 : Nat} (b : Ver) (hb : Ver.fits Γ Ab2 cb2 b) (hs : Sat Γ w0) {r : Bool} (h : m_firthlaw14_under a b = some r) : Calls Tryz.prog 57 #[.agg #[.int .i64 a.dot.s, .int .i64 a.dot.n, .slice Aa2 a.past.length ca2, .bool a.gone, .string a.val], .agg #[.int .i64 b.dot.s, .int .i64 b.dot.n, .slice Ab2 b.past.length cb2, .bool b.gone, .string b.val]] w0 (fun e w' => e = .returned (.bool r) ∧ Fr no w0 w') := by
  refine calls_of (N := 58) (rs := [4]) (args := [.agg #[.int .i64 a.dot.s, .int .i64 a.dot.n, .slice Aa2 a.past.length ca2, .bool a.gone, .string a.val], .agg #[.int .i64 b.dot.s, .int .i64 b.dot.n, .slice Ab2 b.past.length cb2, .bool b.gone, .string b.val]]) Tryz.func57 rfl Tryz.ntmps57 Tryz.results57 rfl ?_
  obtain ⟨F, hF⟩ : ∃ F : Fm, F = ⟨no, w0, Γ⟩ := ⟨_, rfl⟩
  refine WC.here (C := CC F Γ []) ?_ (hF ▸ Cur.start0 hs)
  refine WC.rs ?_
  refine e_box (v := .agg #[.int .i64 a.dot.s, .int .i64 a.dot.n, .slice Aa2 a.past.length ca2, .bool a.gone, .string a.val]) rfl rfl rfl rfl (by kernel_rfl) ?_
  intro g1
  refine e_box (v := .agg #[.int .i64 b.dot.s, .int .i64 b.dot.n, .slice Ab2 b.past.length cb2, .bool b.gone, .string b.val]) rfl rfl rfl rfl (by kernel_rfl) ?_
  intro g2
  refine va rfl rfl rfl (q_assign (v := .bool false) rfl (by kernel_rfl)) ?_
  refine WR.nil ?_
  change WC _ _ _ _ _ _
  refine WC.seq ?_
  refine WC.rs ?_
  refine va rfl rfl rfl (q_assign (v := .int .i64 0) rfl (by kernel_rfl)) ?_
  refine WR.nil ?_
  change WC _ _ _ _ _ _
  refine WC.block ?_
  refine WC.forI h (fun (i4 : Nat) (s : Unit) σ w => match s with | () => slots σ [(2, .pointer (some ⟨g1, 0, none⟩)), (3, .pointer (some ⟨g2, 0, none⟩)), (5, .int .i64 ((i4 : Nat) : Int))] ∧ CC F Γ [[(g2, .cells #[.int .i64 b.dot.s, .int .i64 b.dot.n, .slice Ab2 b.past.length cb2, .bool b.gone, .string b.val] 57 (0, 0))], [(g1, .cells #[.int .i64 a.dot.s, .int .i64 a.dot.n, .slice Aa2 a.past.length ca2, .bool a.gone, .string a.val] 57 (0, 0))]] w ∧ True) ?_ ?_
  · skip
    intro w hw
    exact ⟨(sl_ (by kernel_rfl)), hw, trivial⟩
  rintro f3 i4 ⟨⟩ σ w hi5 hlt6 hge7 ⟨hsl, hw, -⟩
  refine Wpt.slots hsl ?_
  refine WC.here (C := CC F Γ [[(g2, .cells #[.int .i64 b.dot.s, .int .i64 b.dot.n, .slice Ab2 b.past.length cb2, .bool b.gone, .string b.val] 57 (0, 0))], [(g1, .cells #[.int .i64 a.dot.s, .int .i64 a.dot.n, .slice Aa2 a.past.length ca2, .bool a.gone, .string a.val] 57 (0, 0))]]) ?_ hw
  clear hw hsl
  refine WC.seq ?_
  refine WC.rs ?_
  refine va rfl rfl rfl (q_move (v := .int .i64 ((i4 : Nat) : Int)) rfl (by kernel_rfl)) ?_
  refine va rfl rfl rfl (q_fl 2 fld_57_1 rfl rfl rfl) ?_
  refine va rfl rfl rfl (q_ldl (i := 1) (v := .slice Aa2 a.past.length ca2) rfl rfl Tryz.isAgg55 rfl rfl) ?_
  refine va rfl rfl rfl (q_len_slice rfl Tryz.underlying55 rfl) ?_
  refine va rfl rfl rfl (q_lss rfl rfl rfl) ?_
  refine WR.nil ?_
  change WC _ _ _ _ _ _
  refine WC.cond (b := (decide (((i4 : Nat) : Int) < ((a.past.length : Nat) : Int)))) (by kernel_rfl) (fun hb8 => ?_) (fun hb8 => ?_)
  · skip
    have hl9 := ilt hb8
    have h := hlt6 hl9
    refine WC.skip ?_
    change WC _ _ _ _ _ _
    refine WC.seq ?_
    refine WC.block ?_
    refine WC.rs ?_
    refine va rfl rfl rfl (q_fl 2 fld_57_1 rfl rfl rfl) ?_
    refine va rfl rfl rfl (q_ldl (i := 1) (v := .slice Aa2 a.past.length ca2) rfl rfl Tryz.isAgg55 rfl rfl) ?_
    refine va rfl rfl rfl (q_move (v := .int .i64 ((i4 : Nat) : Int)) rfl (by kernel_rfl)) ?_
    refine va rfl rfl rfl (q_ixn (i := i4) Tryz.underlying55 Tryz.sizeOf59 rfl rfl rfl hl9 (ha.2.2.1.2.some_ hl9)) ?_
    refine va rfl rfl rfl (q_lda (c := 0) (vs := [.int .i64 (gt a.past i4).s, .int .i64 (gt a.past i4).f, .int .i64 (gt a.past i4).t]) (ha.2.2.1.2.spanT_at hl9).2 rfl Tryz.isAgg59 Tryz.sizeOf59 rfl rfl rfl) ?_
    refine e_alloc Tryz.zeroValue59 rfl rfl rfl rfl ?_
    intro g10
    refine e_st (i := 0) (v := .agg #[.int .i64 (gt a.past i4).s, .int .i64 (gt a.past i4).f, .int .i64 (gt a.past i4).t]) (new := #[.int .i64 (gt a.past i4).s, .int .i64 (gt a.past i4).f, .int .i64 (gt a.past i4).t]) rfl Tryz.sizeOf59 rfl rfl rfl rfl (by kernel_rfl) rfl rfl rfl rfl ?_
    refine WR.nil ?_
    change WC _ _ _ _ _ _
    refine WC.rs ?_
    refine va rfl rfl rfl (q_assign (v := .bool false) rfl (by kernel_rfl)) ?_
    refine WR.nil ?_
    change WC _ _ _ _ _ _
    refine WC.seq ?_
    refine WC.rs ?_
    refine va rfl rfl rfl (q_assign (v := .int .i64 0) rfl (by kernel_rfl)) ?_
    refine WR.nil ?_
    change WC _ _ _ _ _ _
    refine WC.block ?_
    refine WC.forI h (fun (i13 : Nat) (in_11 : Bool) σ w => slots σ [(2, .pointer (some ⟨g1, 0, none⟩)), (3, .pointer (some ⟨g2, 0, none⟩)), (5, .int .i64 ((i4 : Nat) : Int)), (6, .pointer (some ⟨g10, 0, none⟩)), (7, .bool in_11), (8, .int .i64 ((i13 : Nat) : Int))] ∧ CC F Γ [[(g10, .cells #[.int .i64 (gt a.past i4).s, .int .i64 (gt a.past i4).f, .int .i64 (gt a.past i4).t] 59 (0, 0))], [(g2, .cells #[.int .i64 b.dot.s, .int .i64 b.dot.n, .slice Ab2 b.past.length cb2, .bool b.gone, .string b.val] 57 (0, 0))], [(g1, .cells #[.int .i64 a.dot.s, .int .i64 a.dot.n, .slice Aa2 a.past.length ca2, .bool a.gone, .string a.val] 57 (0, 0))]] w ∧ True) ?_ ?_
    · skip
      intro w hw
      exact ⟨(sl_ (by kernel_rfl)), hw, trivial⟩
    rintro f12 i13 in_11 σ w hi14 hlt15 hge16 ⟨hsl, hw, -⟩
    refine Wpt.slots hsl ?_
    refine WC.here (C := CC F Γ [[(g10, .cells #[.int .i64 (gt a.past i4).s, .int .i64 (gt a.past i4).f, .int .i64 (gt a.past i4).t] 59 (0, 0))], [(g2, .cells #[.int .i64 b.dot.s, .int .i64 b.dot.n, .slice Ab2 b.past.length cb2, .bool b.gone, .string b.val] 57 (0, 0))], [(g1, .cells #[.int .i64 a.dot.s, .int .i64 a.dot.n, .slice Aa2 a.past.length ca2, .bool a.gone, .string a.val] 57 (0, 0))]]) ?_ hw
    clear hw hsl
    refine WC.seq ?_
    refine WC.rs ?_
    refine va rfl rfl rfl (q_move (v := .int .i64 ((i13 : Nat) : Int)) rfl (by kernel_rfl)) ?_
    refine va rfl rfl rfl (q_fl 2 fld_57_1 rfl rfl rfl) ?_
    refine va rfl rfl rfl (q_ldl (i := 1) (v := .slice Ab2 b.past.length cb2) rfl rfl Tryz.isAgg55 rfl rfl) ?_
    refine va rfl rfl rfl (q_len_slice rfl Tryz.underlying55 rfl) ?_
    refine va rfl rfl rfl (q_lss rfl rfl rfl) ?_
    refine WR.nil ?_
    change WC _ _ _ _ _ _
    refine WC.cond (b := (decide (((i13 : Nat) : Int) < ((b.past.length : Nat) : Int)))) (by kernel_rfl) (fun hb17 => ?_) (fun hb17 => ?_)
    · skip
      have hl18 := ilt hb17
      have h := hlt15 hl18
      refine WC.skip ?_
      change WC _ _ _ _ _ _
      refine WC.seq ?_
      refine WC.block ?_
      refine WC.rs ?_
      refine va rfl rfl rfl (q_fl 2 fld_57_1 rfl rfl rfl) ?_
      refine va rfl rfl rfl (q_ldl (i := 1) (v := .slice Ab2 b.past.length cb2) rfl rfl Tryz.isAgg55 rfl rfl) ?_
      refine va rfl rfl rfl (q_move (v := .int .i64 ((i13 : Nat) : Int)) rfl (by kernel_rfl)) ?_
      refine va rfl rfl rfl (q_ixn (i := i13) Tryz.underlying55 Tryz.sizeOf59 rfl rfl rfl hl18 (hb.2.2.1.2.some_ hl18)) ?_
      refine va rfl rfl rfl (q_lda (c := 0) (vs := [.int .i64 (gt b.past i13).s, .int .i64 (gt b.past i13).f, .int .i64 (gt b.past i13).t]) (hb.2.2.1.2.spanT_at hl18).2 rfl Tryz.isAgg59 Tryz.sizeOf59 rfl rfl rfl) ?_
      refine e_alloc Tryz.zeroValue59 rfl rfl rfl rfl ?_
      intro g19
      refine e_st (i := 0) (v := .agg #[.int .i64 (gt b.past i13).s, .int .i64 (gt b.past i13).f, .int .i64 (gt b.past i13).t]) (new := #[.int .i64 (gt b.past i13).s, .int .i64 (gt b.past i13).f, .int .i64 (gt b.past i13).t]) rfl Tryz.sizeOf59 rfl rfl rfl rfl (by kernel_rfl) rfl rfl rfl rfl ?_
      refine WR.nil ?_
      change WC _ _ _ _ _ _
      refine WC.region ?_
      refine va rfl rfl rfl (q_move (v := .bool in_11) rfl (by kernel_rfl)) ?_
      refine va rfl rfl rfl (q_move (v := .bool in_11) rfl (by kernel_rfl)) ?_
      refine vg0 rfl rfl rfl rfl rfl (fun hg20 => QV.qo (q_fl 0 fld_59_0 rfl rfl rfl)) ?_
      refine vg0 rfl rfl rfl rfl rfl (fun hg21 => QV.qo (q_ldl (i := 1) (v := .int .i64 (gt a.past i4).s) rfl rfl Tryz.isAgg3 (gu hg21 rfl) rfl)) ?_
      refine vg0 rfl rfl rfl rfl rfl (fun hg22 => QV.qo (q_fl 0 fld_59_0 rfl rfl rfl)) ?_
      refine vg0 rfl rfl rfl rfl rfl (fun hg23 => QV.qo (q_ldl (i := 0) (v := .int .i64 (gt b.past i13).s) rfl rfl Tryz.isAgg3 (gu hg23 rfl) rfl)) ?_
      refine vg0 rfl rfl rfl rfl rfl (fun hg24 => QV.qo (q_eql rfl (gu hg24 rfl) (gu hg24 rfl))) ?_
      refine vg0 rfl rfl rfl rfl rfl (fun hg25 => QV.qo (q_move (v := .bool ((gt a.past i4).s == (gt b.past i13).s)) rfl (gu hg25 rfl))) ?_
      refine vh1 (c0 := (!in_11)) (g := ((gt a.past i4).s == (gt b.past i13).s)) rfl rfl rfl rfl rfl (fun hg26 => QV.qo (q_fl 1 fld_59_1 rfl rfl rfl)) ?_
      refine vh1 (c0 := (!in_11)) (g := ((gt a.past i4).s == (gt b.past i13).s)) rfl rfl rfl rfl rfl (fun hg27 => QV.qo (q_ldl (i := 0) (v := .int .i64 (gt b.past i13).f) rfl rfl Tryz.isAgg2 (gu hg27 rfl) rfl)) ?_
      refine vh1 (c0 := (!in_11)) (g := ((gt a.past i4).s == (gt b.past i13).s)) rfl rfl rfl rfl rfl (fun hg28 => QV.qo (q_fl 1 fld_59_1 rfl rfl rfl)) ?_
      refine vh1 (c0 := (!in_11)) (g := ((gt a.past i4).s == (gt b.past i13).s)) rfl rfl rfl rfl rfl (fun hg29 => QV.qo (q_ldl (i := 1) (v := .int .i64 (gt a.past i4).f) rfl rfl Tryz.isAgg2 (gu hg29 rfl) rfl)) ?_
      refine vh1 (c0 := (!in_11)) (g := ((gt a.past i4).s == (gt b.past i13).s)) rfl rfl rfl rfl rfl (fun hg30 => QV.qo (q_leq rfl (gu hg30 rfl) (gu hg30 rfl))) ?_
      refine vg0 rfl rfl rfl rfl rfl (fun hg31 => QV.qo (q_pick rfl (gu hg31 rfl) (pk_and (c := (!in_11)) (g := ((gt a.past i4).s == (gt b.past i13).s)) (y := (decide ((gt b.past i13).f ≤ (gt a.past i4).f))) hg31))) ?_
      refine vg0 rfl rfl rfl rfl rfl (fun hg32 => QV.qo (q_move (v := .bool (((gt a.past i4).s == (gt b.past i13).s) && (decide ((gt b.past i13).f ≤ (gt a.past i4).f)))) rfl (gu hg32 rfl))) ?_
      refine vh1 (c0 := (!in_11)) (g := (((gt a.past i4).s == (gt b.past i13).s) && (decide ((gt b.past i13).f ≤ (gt a.past i4).f)))) rfl rfl rfl rfl rfl (fun hg33 => QV.qo (q_fl 2 fld_59_2 rfl rfl rfl)) ?_
      refine vh1 (c0 := (!in_11)) (g := (((gt a.past i4).s == (gt b.past i13).s) && (decide ((gt b.past i13).f ≤ (gt a.past i4).f)))) rfl rfl rfl rfl rfl (fun hg34 => QV.qo (q_ldl (i := 1) (v := .int .i64 (gt a.past i4).t) rfl rfl Tryz.isAgg2 (gu hg34 rfl) rfl)) ?_
      refine vh1 (c0 := (!in_11)) (g := (((gt a.past i4).s == (gt b.past i13).s) && (decide ((gt b.past i13).f ≤ (gt a.past i4).f)))) rfl rfl rfl rfl rfl (fun hg35 => QV.qo (q_fl 2 fld_59_2 rfl rfl rfl)) ?_
      refine vh1 (c0 := (!in_11)) (g := (((gt a.past i4).s == (gt b.past i13).s) && (decide ((gt b.past i13).f ≤ (gt a.past i4).f)))) rfl rfl rfl rfl rfl (fun hg36 => QV.qo (q_ldl (i := 0) (v := .int .i64 (gt b.past i13).t) rfl rfl Tryz.isAgg2 (gu hg36 rfl) rfl)) ?_
      refine vh1 (c0 := (!in_11)) (g := (((gt a.past i4).s == (gt b.past i13).s) && (decide ((gt b.past i13).f ≤ (gt a.past i4).f)))) rfl rfl rfl rfl rfl (fun hg37 => QV.qo (q_leq rfl (gu hg37 rfl) (gu hg37 rfl))) ?_
      refine vg0 rfl rfl rfl rfl rfl (fun hg38 => QV.qo (q_pick rfl (gu hg38 rfl) (pk_and (c := (!in_11)) (g := (((gt a.past i4).s == (gt b.past i13).s) && (decide ((gt b.past i13).f ≤ (gt a.past i4).f)))) (y := (decide ((gt a.past i4).t ≤ (gt b.past i13).t))) hg38))) ?_
      refine va rfl rfl rfl (q_pick rfl rfl (pk_or' (g := in_11) (y := ((((gt a.past i4).s == (gt b.past i13).s) && (decide ((gt b.past i13).f ≤ (gt a.past i4).f))) && (decide ((gt a.past i4).t ≤ (gt b.past i13).t)))))) ?_
      refine va rfl rfl rfl (q_assign (v := .bool (in_11 || ((((gt a.past i4).s == (gt b.past i13).s) && (decide ((gt b.past i13).f ≤ (gt a.past i4).f))) && (decide ((gt a.past i4).t ≤ (gt b.past i13).t))))) rfl (by kernel_rfl)) ?_
      refine WR.nil ?_
      change WC _ _ _ _ _ _
      refine WC.region ?_
      refine va rfl rfl rfl (q_move (v := .int .i64 ((i13 : Nat) : Int)) rfl (by kernel_rfl)) ?_
      refine va rfl rfl rfl (q_add_r (r := ((i13 + 1 : Nat) : Int)) rfl rfl rfl (ctr_len hl18 hb.2.2.1.2.le)) ?_
      refine va rfl rfl rfl (q_assign (v := .int .i64 ((i13 + 1 : Nat) : Int)) rfl (by kernel_rfl)) ?_
      refine WR.nil ?_
      intro w hw
      exact ⟨hl18, (in_11 || ((((gt a.past i4).s == (gt b.past i13).s) && (decide ((gt b.past i13).f ≤ (gt a.past i4).f))) && (decide ((gt a.past i4).t ≤ (gt b.past i13).t)))), h, (sl_ (by kernel_rfl)), (hw.only (is := [1, 1, 1]) rfl), trivial⟩
    · skip
      have h := hge16 (ige hb17)
      refine WC.exit ?_
      change WC _ _ _ _ _ _
      refine WC.rs ?_
      refine va rfl rfl rfl (q_move (v := .bool in_11) rfl (by kernel_rfl)) ?_
      refine va rfl rfl rfl (q_not rfl rfl) ?_
      refine WR.nil ?_
      change WC _ _ _ _ _ _
      refine WC.cif h (by kernel_rfl) (fun hb39 h => ?_) (fun hb39 h => ?_)
      · skip
        refine WC.rs ?_
        refine va rfl rfl rfl (q_assign (v := .bool false) rfl (by kernel_rfl)) ?_
        refine WR.nil ?_
        change WC _ _ _ _ _ _
        refine WC.ret ?_
        intro w hw
        obtain rfl := Option.some.inj h
        subst hF
        exact ⟨by kernel_rfl, hw.fr⟩
      · skip
        refine WC.skip ?_
        change WC _ _ _ _ _ _
        refine WC.region ?_
        refine va rfl rfl rfl (q_move (v := .int .i64 ((i4 : Nat) : Int)) rfl (by kernel_rfl)) ?_
        refine va rfl rfl rfl (q_add_r (r := ((i4 + 1 : Nat) : Int)) rfl rfl rfl (ctr_len hl9 ha.2.2.1.2.le)) ?_
        refine va rfl rfl rfl (q_assign (v := .int .i64 ((i4 + 1 : Nat) : Int)) rfl (by kernel_rfl)) ?_
        refine WR.nil ?_
        intro w hw
        exact ⟨hl9, (), h, (sl_ (by kernel_rfl)), (hw.only (is := [1, 1]) rfl), trivial⟩
  · skip
    have h := hge7 (ige hb8)
    refine WC.exit ?_
    change WC _ _ _ _ _ _
    refine WC.rs ?_
    refine va rfl rfl rfl (q_assign (v := .bool true) rfl (by kernel_rfl)) ?_
    refine WR.nil ?_
    change WC _ _ _ _ _ _
    refine WC.ret ?_
    intro w hw
    obtain rfl := Option.some.inj h
    subst hF
    exact ⟨by kernel_rfl, hw.fr⟩
set_option maxRecDepth 100000 in
set_option maxHeartbeats 400000 in
theorem t_firthlaw14_plain {Γ : Gh} {w0 : World} {Aa : Option Addr} {ca : Nat} {a : List Ver} (ha : Sl verT Γ Aa a) (hac : a.length ≤ ca) {Ab : Option Addr} {cb : Nat} {b : List Ver} (hb : Sl verT Γ Ab b) (hbc : b.length ≤ cb) (hs : Sat Γ w0) {r : Bool} (h : m_firthlaw14_plain a b = some r) : Calls Tryz.prog 27 #[.slice Aa a.length ca, .slice Ab b.length cb] w0 (fun e w' => e = .returned (.bool r) ∧ Fr no w0 w') := by
  refine calls_of (N := 62) (rs := [4]) (args := [.slice Aa a.length ca, .slice Ab b.length cb]) Tryz.func27 rfl Tryz.ntmps27 Tryz.results27 rfl ?_
  obtain ⟨F, hF⟩ : ∃ F : Fm, F = ⟨no, w0, Γ⟩ := ⟨_, rfl⟩
  refine WC.here (C := CC F Γ []) ?_ (hF ▸ Cur.start0 hs)
  refine WC.rs ?_
  refine va rfl rfl rfl (q_assign (v := .bool false) rfl (by kernel_rfl)) ?_
  refine WR.nil ?_
  change WC _ _ _ _ _ _
  refine WC.rs ?_
  refine va rfl rfl rfl (q_assign (v := .slice none 0 0) rfl (by kernel_rfl)) ?_
  refine WR.nil ?_
  change WC _ _ _ _ _ _
  refine WC.rs ?_
  refine va rfl rfl rfl (q_move (v := .slice none 0 0) rfl (by kernel_rfl)) ?_
  refine va rfl rfl rfl (q_move (v := .slice Aa a.length ca) rfl (by kernel_rfl)) ?_
  refine WR.sub (fun w hw => hw.pad) ?_
  obtain ⟨hk1, h⟩ := chk_some h
  refine e_append (T := verT) (xs := []) (ys := a) elem_48 (i := 0) rfl rfl rfl rfl (by kernel_rfl) rfl rfl (Own.nil verT Γ 57) (of_decide_eq_true hk1) (fun w hw => src_sl ha hw) ?_
  intro row2 A3 c4 ho5
  refine va rfl rfl rfl (q_assign (v := .slice A3 a.length c4) rfl (by kernel_rfl)) ?_
  refine WR.nil ?_
  change WC _ _ _ _ _ _
  refine WC.rs ?_
  refine va rfl rfl rfl (q_move (v := .slice A3 a.length c4) rfl (by kernel_rfl)) ?_
  refine va rfl rfl rfl (q_move (v := .slice Ab b.length cb) rfl (by kernel_rfl)) ?_
  obtain ⟨hk6, h⟩ := chk_some h
  refine e_append (T := verT) (xs := a) (ys := b) elem_48 (i := 0) rfl rfl rfl rfl rfl rfl rfl ho5 (of_decide_eq_true hk6) (fun w hw => src_sl hb hw) ?_
  intro row7 A8 c9 ho10
  refine va rfl rfl rfl (q_assign (v := .slice A8 (a ++ b).length c9) rfl (by kernel_rfl)) ?_
  refine WR.nil ?_
  change WC _ _ _ _ _ _
  refine WC.seq ?_
  refine WC.rs ?_
  refine va rfl rfl rfl (q_assign (v := .int .i64 0) rfl (by kernel_rfl)) ?_
  refine WR.nil ?_
  change WC _ _ _ _ _ _
  refine WC.block ?_
  have hc15 := ho10.capz
  intro w hw; obtain ⟨Γ11, hw, hl12, hr13⟩ := hw.seal (i := 0) rfl; have hs14 := ho10.sl hl12 hr13
  refine WC.here (C := CC F Γ11 [[]]) ?_ hw
  clear hw
  refine WC.forI h (fun (i17 : Nat) (s : Unit) σ w => match s with | () => slots σ [(5, .slice A8 (a ++ b).length c9), (6, .int .i64 ((i17 : Nat) : Int))] ∧ CC F Γ11 [] w ∧ True) ?_ ?_
  · skip
    intro w hw
    exact ⟨(sl_ (by kernel_rfl)), (hw.only (is := []) rfl), trivial⟩
  rintro f16 i17 ⟨⟩ σ w hi18 hlt19 hge20 ⟨hsl, hw, -⟩
  refine Wpt.slots hsl ?_
  refine WC.here (C := CC F Γ11 []) ?_ hw
  clear hw hsl
  refine WC.seq ?_
  refine WC.rs ?_
  refine va rfl rfl rfl (q_move (v := .int .i64 ((i17 : Nat) : Int)) rfl (by kernel_rfl)) ?_
  refine va rfl rfl rfl (q_move (v := .slice A8 (a ++ b).length c9) rfl (by kernel_rfl)) ?_
  refine va rfl rfl rfl (q_len_slice rfl Tryz.underlying48 rfl) ?_
  refine va rfl rfl rfl (q_lss rfl rfl rfl) ?_
  refine WR.nil ?_
  change WC _ _ _ _ _ _
  refine WC.cond (b := (decide (((i17 : Nat) : Int) < (((a ++ b).length : Nat) : Int)))) (by kernel_rfl) (fun hb21 => ?_) (fun hb21 => ?_)
  · skip
    have hl22 := ilt hb21
    have h := hlt19 hl22
    refine WC.skip ?_
    change WC _ _ _ _ _ _
    refine WC.seq ?_
    refine WC.block ?_
    refine WC.rs ?_
    refine va rfl rfl rfl (q_assign (v := .int .i64 0) rfl (by kernel_rfl)) ?_
    refine WR.nil ?_
    change WC _ _ _ _ _ _
    refine WC.block ?_
    refine WC.forI h (fun (i24 : Nat) (s : Unit) σ w => match s with | () => slots σ [(5, .slice A8 (a ++ b).length c9), (6, .int .i64 ((i17 : Nat) : Int)), (7, .int .i64 ((i24 : Nat) : Int))] ∧ CC F Γ11 [] w ∧ True) ?_ ?_
    · skip
      intro w hw
      exact ⟨(sl_ (by kernel_rfl)), hw, trivial⟩
    rintro f23 i24 ⟨⟩ σ w hi25 hlt26 hge27 ⟨hsl, hw, -⟩
    refine Wpt.slots hsl ?_
    refine WC.here (C := CC F Γ11 []) ?_ hw
    clear hw hsl
    refine WC.seq ?_
    refine WC.rs ?_
    refine va rfl rfl rfl (q_move (v := .int .i64 ((i24 : Nat) : Int)) rfl (by kernel_rfl)) ?_
    refine va rfl rfl rfl (q_move (v := .slice A8 (a ++ b).length c9) rfl (by kernel_rfl)) ?_
    refine va rfl rfl rfl (q_len_slice rfl Tryz.underlying48 rfl) ?_
    refine va rfl rfl rfl (q_lss rfl rfl rfl) ?_
    refine WR.nil ?_
    change WC _ _ _ _ _ _
    refine WC.cond (b := (decide (((i24 : Nat) : Int) < (((a ++ b).length : Nat) : Int)))) (by kernel_rfl) (fun hb28 => ?_) (fun hb28 => ?_)
    · skip
      have hl29 := ilt hb28
      have h := hlt26 hl29
      refine WC.skip ?_
      change WC _ _ _ _ _ _
      refine WC.seq ?_
      refine WC.block ?_
      refine WC.seq ?_
      refine WC.dr (by kernel_rfl) (by kernel_rfl) (fun w hw => hw.drawn _) ?_
      refine wa rfl rfl rfl (q_move (v := .slice A8 (a ++ b).length c9) rfl (by kernel_rfl)) ?_
      refine wa rfl rfl rfl (q_move (v := .int .i64 ((i17 : Nat) : Int)) rfl (by kernel_rfl)) ?_
      refine wa rfl rfl rfl (q_move (v := .int .i64 ((i17 : Nat) : Int)) rfl (by kernel_rfl)) ?_
      refine wa rfl rfl rfl (q_add_r (r := ((i17 + 1 : Nat) : Int)) rfl rfl rfl (ctr_len hl22 hs14.le)) ?_
      obtain ⟨hk30, h⟩ := chk_some h
      refine wa rfl rfl rfl (q_cut (c := c9) (lo := i17) (hi := i17 + 1) (xs := (a ++ b)) Tryz.underlying48 Tryz.sizeOf57 rfl rfl rfl rfl (Nat.le_succ _) (of_decide_eq_true hk30) hc15) ?_
      refine wa rfl rfl rfl (q_move (v := .slice A8 (a ++ b).length c9) rfl (by kernel_rfl)) ?_
      refine wa rfl rfl rfl (q_move (v := .int .i64 ((i24 : Nat) : Int)) rfl (by kernel_rfl)) ?_
      refine wa rfl rfl rfl (q_ixn (i := i24) Tryz.underlying48 Tryz.sizeOf57 rfl rfl rfl hl29 (hs14.some_ hl29)) ?_
      refine wa rfl rfl rfl (q_field_addr (i24 * 5) fld_57_0 rfl rfl (hs14.some_ hl29) rfl) ?_
      obtain ⟨A31, c32, hx33⟩ := hs14.verT_at i24
      refine wa rfl rfl rfl (q_lda (c := 0) (vs := [.int .i64 (gt (a ++ b) i24).dot.s, .int .i64 (gt (a ++ b) i24).dot.n]) (hx33 hl29).2 rfl Tryz.isAgg54 Tryz.sizeOf54 rfl rfl rfl) ?_
      obtain ⟨z34, hz35, h⟩ := bnd h
      refine wc rfl rfl rfl (q_call (call_run Tryz.call56 rfl rfl (by kernel_rfl)) (fun w hw => t_firthref05_Behind (Γ := Gh.all w) ((hs14.cut (cap := c9) (lo := i17) (hi := i17 + 1) (Nat.le_succ _) (of_decide_eq_true hk30) hc15).mono hw.sat.le_all) (cut2_cap hc15 i17 (i17 + 1)) ((gt (a ++ b) i24).dot) ⟨(hx33 hl29).1.1, (hx33 hl29).1.2.1⟩ (Sat.all w) hz35)) ?_
      refine wa rfl rfl rfl (q_move (v := .bool z34) rfl (by kernel_rfl)) ?_
      refine wg1 rfl rfl rfl rfl rfl (fun hg36 => QV.qo (q_move (v := .slice A8 (a ++ b).length c9) rfl (by kernel_rfl))) ?_
      refine wg1 rfl rfl rfl rfl rfl (fun hg37 => QV.qo (q_move (v := .int .i64 ((i24 : Nat) : Int)) rfl (by kernel_rfl))) ?_
      refine wg1 rfl rfl rfl rfl rfl (fun hg38 => QV.qo (q_move (v := .int .i64 ((i24 : Nat) : Int)) rfl (by kernel_rfl))) ?_
      refine wg1 rfl rfl rfl rfl rfl (fun hg39 => QV.qo (q_add_r (r := ((i24 + 1 : Nat) : Int)) rfl (gu hg39 rfl) rfl (ctr_len hl29 hs14.le))) ?_
      obtain ⟨hk41, h⟩ := chk_some h
      refine wg1 rfl rfl rfl rfl rfl (fun hg40 => QV.qo (q_cut (c := c9) (lo := i24) (hi := i24 + 1) (xs := (a ++ b)) Tryz.underlying48 Tryz.sizeOf57 rfl (gu hg40 rfl) (gu hg40 rfl) (gu hg40 rfl) (Nat.le_succ _) (of_decide_eq_true (imp_of hk41 hg40)) hc15)) ?_
      refine wg1 rfl rfl rfl rfl rfl (fun hg42 => QV.qo (q_move (v := .slice A8 (a ++ b).length c9) rfl (by kernel_rfl))) ?_
      refine wg1 rfl rfl rfl rfl rfl (fun hg43 => QV.qo (q_move (v := .int .i64 ((i17 : Nat) : Int)) rfl (by kernel_rfl))) ?_
      refine wg1 rfl rfl rfl rfl rfl (fun hg44 => QV.qo (q_ixn (i := i17) Tryz.underlying48 Tryz.sizeOf57 rfl (gu hg44 rfl) (gu hg44 rfl) hl22 (hs14.some_ hl22))) ?_
      refine wg1 rfl rfl rfl rfl rfl (fun hg45 => QV.qo (q_field_addr (i17 * 5) fld_57_0 rfl (gu hg45 rfl) (hs14.some_ hl22) rfl)) ?_
      obtain ⟨A47, c48, hx49⟩ := hs14.verT_at i17
      refine wg1 rfl rfl rfl rfl rfl (fun hg46 => QV.qo (q_lda (c := 0) (vs := [.int .i64 (gt (a ++ b) i17).dot.s, .int .i64 (gt (a ++ b) i17).dot.n]) (hx49 hl22).2 rfl Tryz.isAgg54 Tryz.sizeOf54 (gu hg46 rfl) rfl rfl)) ?_
      obtain ⟨z51, hz52, h⟩ := bnd h
      refine wg1 rfl rfl rfl rfl rfl (fun hg50 => (q_call (call_run Tryz.call56 rfl rfl (args2 (gu hg50 rfl) (gu hg50 rfl))) (fun w hw => t_firthref05_Behind (Γ := Gh.all w) ((hs14.cut (cap := c9) (lo := i24) (hi := i24 + 1) (Nat.le_succ _) (of_decide_eq_true (imp_of hk41 hg50)) hc15).mono hw.sat.le_all) (cut2_cap hc15 i24 (i24 + 1)) ((gt (a ++ b) i17).dot) ⟨(hx49 hl22).1.1, (hx49 hl22).1.2.1⟩ (Sat.all w) (gc_of hz52 hg50)))) ?_
      refine wg1 rfl rfl rfl rfl rfl (fun hg53 => QV.qo (q_move (v := .bool z51) rfl (gu hg53 rfl))) ?_
      refine wh0 (c0 := z34) (g := z51) rfl rfl rfl rfl rfl (fun hg54 => QV.qo (q_move (v := .slice A8 (a ++ b).length c9) rfl (by kernel_rfl))) ?_
      refine wh0 (c0 := z34) (g := z51) rfl rfl rfl rfl rfl (fun hg55 => QV.qo (q_move (v := .int .i64 ((i24 : Nat) : Int)) rfl (by kernel_rfl))) ?_
      refine wh0 (c0 := z34) (g := z51) rfl rfl rfl rfl rfl (fun hg56 => QV.qo (q_ixn (i := i24) Tryz.underlying48 Tryz.sizeOf57 rfl (gu hg56 rfl) (gu hg56 rfl) hl29 (hs14.some_ hl29))) ?_
      refine wh0 (c0 := z34) (g := z51) rfl rfl rfl rfl rfl (fun hg57 => QV.qo (q_lda (c := 0) (vs := [.int .i64 (gt (a ++ b) i24).dot.s, .int .i64 (gt (a ++ b) i24).dot.n, .slice A31 ((gt (a ++ b) i24).past).length c32, .bool (gt (a ++ b) i24).gone, .string (gt (a ++ b) i24).val]) (hx33 hl29).2 rfl Tryz.isAgg57 Tryz.sizeOf57 (gu hg57 rfl) rfl rfl)) ?_
      refine wh0 (c0 := z34) (g := z51) rfl rfl rfl rfl rfl (fun hg58 => QV.qo (q_move (v := .slice A8 (a ++ b).length c9) rfl (by kernel_rfl))) ?_
      refine wh0 (c0 := z34) (g := z51) rfl rfl rfl rfl rfl (fun hg59 => QV.qo (q_move (v := .int .i64 ((i17 : Nat) : Int)) rfl (by kernel_rfl))) ?_
      refine wh0 (c0 := z34) (g := z51) rfl rfl rfl rfl rfl (fun hg60 => QV.qo (q_ixn (i := i17) Tryz.underlying48 Tryz.sizeOf57 rfl (gu hg60 rfl) (gu hg60 rfl) hl22 (hs14.some_ hl22))) ?_
      refine wh0 (c0 := z34) (g := z51) rfl rfl rfl rfl rfl (fun hg61 => QV.qo (q_lda (c := 0) (vs := [.int .i64 (gt (a ++ b) i17).dot.s, .int .i64 (gt (a ++ b) i17).dot.n, .slice A47 ((gt (a ++ b) i17).past).length c48, .bool (gt (a ++ b) i17).gone, .string (gt (a ++ b) i17).val]) (hx49 hl22).2 rfl Tryz.isAgg57 Tryz.sizeOf57 (gu hg61 rfl) rfl rfl)) ?_
      obtain ⟨z63, hz64, h⟩ := bnd h
      refine wh0 (c0 := z34) (g := z51) rfl rfl rfl rfl rfl (fun hg62 => (q_call (call_run Tryz.call57 rfl rfl (args2 (gu hg62 rfl) (gu hg62 rfl))) (fun w hw => t_firthlaw14_under (Γ := Gh.all w) (gt (a ++ b) i24) (Ver.fits_mono (hx33 hl29).1 hw.sat.le_all) (gt (a ++ b) i17) (Ver.fits_mono (hx49 hl22).1 hw.sat.le_all) (Sat.all w) (gc_of hz64 hg62)))) ?_
      refine wh0 (c0 := z34) (g := z51) rfl rfl rfl rfl rfl (fun hg65 => QV.qo (q_not rfl (gu hg65 rfl))) ?_
      refine wg1 rfl rfl rfl rfl rfl (fun hg66 => QV.qo (q_pick rfl (gu hg66 rfl) (pk_or (c := z34) (g := z51) (y := (!z63)) hg66))) ?_
      refine wa rfl rfl rfl (q_pick rfl rfl (pk_and' (g := z34) (y := (z51 || (!z63))))) ?_
      refine WQ.nil ?_
      change WC _ _ _ _ _ _
      refine WC.cif h (by kernel_rfl) (fun hb67 h => ?_) (fun hb67 h => ?_)
      · skip
        refine WC.rs ?_
        refine va rfl rfl rfl (q_assign (v := .bool false) rfl (by kernel_rfl)) ?_
        refine WR.nil ?_
        change WC _ _ _ _ _ _
        refine WC.ret ?_
        intro w hw
        obtain rfl := Option.some.inj h
        subst hF
        exact ⟨by kernel_rfl, hw.fr⟩
      · skip
        refine WC.skip ?_
        change WC _ _ _ _ _ _
        refine WC.region ?_
        refine va rfl rfl rfl (q_move (v := .int .i64 ((i24 : Nat) : Int)) rfl (by kernel_rfl)) ?_
        refine va rfl rfl rfl (q_add_r (r := ((i24 + 1 : Nat) : Int)) rfl rfl rfl (ctr_len hl29 hs14.le)) ?_
        refine va rfl rfl rfl (q_assign (v := .int .i64 ((i24 + 1 : Nat) : Int)) rfl (by kernel_rfl)) ?_
        refine WR.nil ?_
        intro w hw
        exact ⟨hl29, (), h, (sl_ (by kernel_rfl)), hw, trivial⟩
    · skip
      have h := hge27 (ige hb28)
      refine WC.exit ?_
      change WC _ _ _ _ _ _
      refine WC.region ?_
      refine va rfl rfl rfl (q_move (v := .int .i64 ((i17 : Nat) : Int)) rfl (by kernel_rfl)) ?_
      refine va rfl rfl rfl (q_add_r (r := ((i17 + 1 : Nat) : Int)) rfl rfl rfl (ctr_len hl22 hs14.le)) ?_
      refine va rfl rfl rfl (q_assign (v := .int .i64 ((i17 + 1 : Nat) : Int)) rfl (by kernel_rfl)) ?_
      refine WR.nil ?_
      intro w hw
      exact ⟨hl22, (), h, (sl_ (by kernel_rfl)), hw, trivial⟩
  · skip
    have h := hge20 (ige hb21)
    refine WC.exit ?_
    change WC _ _ _ _ _ _
    refine WC.rs ?_
    refine va rfl rfl rfl (q_assign (v := .bool true) rfl (by kernel_rfl)) ?_
    refine WR.nil ?_
    change WC _ _ _ _ _ _
    refine WC.ret ?_
    intro w hw
    obtain rfl := Option.some.inj h
    subst hF
    exact ⟨by kernel_rfl, hw.fr⟩
set_option maxRecDepth 100000 in
set_option maxHeartbeats 400000 in
theorem t_firthref14_doubt {Γ : Gh} {w0 : World} {Ax_ : Option Addr} {cx_ : Nat} {x_ : List Rec} (hx_ : Sl recT Γ Ax_ x_) (hx_c : x_.length ≤ cx_) {Ay : Option Addr} {cy : Nat} {y : List Rec} (hy : Sl recT Γ Ay y) (hyc : y.length ≤ cy) {Apath : Option Addr} {cpath : Nat} {path : List Int} (hpath : Sl intT Γ Apath path) (hpathc : path.length ≤ cpath) (hs : Sat Γ w0) {r : Bool} (h : m_firthref14_doubt x_ y path = some r) : Calls Tryz.prog 50 #[.slice Ax_ x_.length cx_, .slice Ay y.length cy, .slice Apath path.length cpath] w0 (fun e w' => e = .returned (.bool r) ∧ Fr no w0 w') := by
  refine calls_of (N := 24) (rs := [6]) (args := [.slice Ax_ x_.length cx_, .slice Ay y.length cy, .slice Apath path.length cpath]) Tryz.func50 rfl Tryz.ntmps50 Tryz.results50 rfl ?_
  obtain ⟨F, hF⟩ : ∃ F : Fm, F = ⟨no, w0, Γ⟩ := ⟨_, rfl⟩
  refine WC.here (C := CC F Γ []) ?_ (hF ▸ Cur.start0 hs)
  refine WC.rs ?_
  refine va rfl rfl rfl (q_assign (v := .bool false) rfl (by kernel_rfl)) ?_
  refine WR.nil ?_
  change WC _ _ _ _ _ _
  refine WC.rs ?_
  refine va rfl rfl rfl (q_move (v := .slice Ax_ x_.length cx_) rfl (by kernel_rfl)) ?_
  refine va rfl rfl rfl (q_move (v := .slice Apath path.length cpath) rfl (by kernel_rfl)) ?_
  obtain ⟨z1, hz2, h⟩ := bnd h
  refine vc rfl rfl rfl (q_call (call_run Tryz.call35 rfl rfl (by kernel_rfl)) (fun w hw => t_firthref11_Hash (Γ := Gh.all w) (hx_.mono hw.sat.le_all) hx_c (hpath.mono hw.sat.le_all) hpathc (Sat.all w) hz2)) ?_
  refine va rfl rfl rfl (q_move (v := .slice Ay y.length cy) rfl (by kernel_rfl)) ?_
  refine va rfl rfl rfl (q_move (v := .slice Apath path.length cpath) rfl (by kernel_rfl)) ?_
  obtain ⟨z3, hz4, h⟩ := bnd h
  refine vc rfl rfl rfl (q_call (call_run Tryz.call35 rfl rfl (by kernel_rfl)) (fun w hw => t_firthref11_Hash (Γ := Gh.all w) (hy.mono hw.sat.le_all) hyc (hpath.mono hw.sat.le_all) hpathc (Sat.all w) hz4)) ?_
  refine va rfl rfl rfl (q_eql rfl rfl rfl) ?_
  refine va rfl rfl rfl (q_move (v := .bool (z1 == z3)) rfl (by kernel_rfl)) ?_
  refine vg1 rfl rfl rfl rfl rfl (fun hg5 => QV.qo (q_move (v := .slice Ax_ x_.length cx_) rfl (by kernel_rfl))) ?_
  refine vg1 rfl rfl rfl rfl rfl (fun hg6 => QV.qo (q_move (v := .slice Apath path.length cpath) rfl (by kernel_rfl))) ?_
  refine (Bool.eq_false_or_eq_true (z1 == z3)).elim (fun hb7 => ?_) (fun hb7 => ?_)
  · skip
    have h := bt hb7 h
    refine WR.sat (c0 := true) (g := (z1 == z3)) rfl rfl rfl hb7 ?_
    obtain ⟨z8, hz9, h⟩ := bnd h
    refine e_call (is := []) rfl rfl (call_run Tryz.call45 rfl rfl (args2 (gu hb7 rfl) (gu hb7 rfl))) rfl (fun w hp => t_firthref11_Recs hx_ hx_c hpath hpathc hp hz9) ?_
    rintro Γ10 U12 v13 hl11 ⟨A14, c15, row16, rfl, rfl, hr17, _⟩
    change WR _ _ _ (CC F Γ10 [row16]) _ _ (upd _ 17 (.slice A14 z8.length c15))
    refine WR.sat (c0 := true) (g := (z1 == z3)) rfl rfl rfl hb7 ?_
    refine va rfl rfl rfl (q_move (v := .slice Ay y.length cy) rfl (by kernel_rfl)) ?_
    refine WR.sat (c0 := true) (g := (z1 == z3)) rfl rfl rfl hb7 ?_
    refine va rfl rfl rfl (q_move (v := .slice Apath path.length cpath) rfl (by kernel_rfl)) ?_
    refine WR.sat (c0 := true) (g := (z1 == z3)) rfl rfl rfl hb7 ?_
    obtain ⟨z18, hz19, h⟩ := bnd h
    refine e_call (is := []) rfl rfl (call_run Tryz.call45 rfl rfl (by kernel_rfl)) rfl (fun w hp => t_firthref11_Recs (hy.mono hl11) hyc (hpath.mono hl11) hpathc hp hz19) ?_
    rintro Γ20 U22 v23 hl21 ⟨A24, c25, row26, rfl, rfl, hr27, _⟩
    change WR _ _ _ (CC F Γ20 [row26, row16]) _ _ (upd _ 20 (.slice A24 z18.length c25))
    refine WR.sat (c0 := true) (g := (z1 == z3)) rfl rfl rfl hb7 ?_
    obtain ⟨z28, hz29, h⟩ := bnd h
    refine vc rfl rfl rfl (q_call (call_run Tryz.call17 rfl rfl (by kernel_rfl)) (fun w hw => t_firthref06_SameRecs (Γ := Gh.all w) ((hr17.mono hl21).sl hw.sat.le_all (hw.ra 1 rfl)) (hr17.mono hl21).capz (hr27.sl hw.sat.le_all (hw.ra 0 rfl)) hr27.capz (Sat.all w) hz29)) ?_
    refine WR.sat (c0 := true) (g := (z1 == z3)) rfl rfl rfl hb7 ?_
    refine va rfl rfl rfl (q_not rfl rfl) ?_
    refine va rfl rfl rfl (q_pick_t (v := .bool (!z28)) rfl rfl hb7 (by kernel_rfl)) ?_
    refine va rfl rfl rfl (q_assign (v := .bool (!z28)) rfl (by kernel_rfl)) ?_
    refine WR.nil ?_
    change WC _ _ _ _ _ _
    refine WC.ret ?_
    intro w hw
    obtain rfl := Option.some.inj h
    subst hF
    exact ⟨by kernel_rfl, hw.fr⟩
  · skip
    have h := bf hb7 h
    refine WR.unsat (c0 := true) (g := (z1 == z3)) rfl rfl rfl hb7 rfl ?_
    refine WR.unsat (c0 := true) (g := (z1 == z3)) rfl rfl rfl hb7 rfl ?_
    refine WR.unsat (c0 := true) (g := (z1 == z3)) rfl rfl rfl hb7 rfl ?_
    refine WR.unsat (c0 := true) (g := (z1 == z3)) rfl rfl rfl hb7 rfl ?_
    refine WR.unsat (c0 := true) (g := (z1 == z3)) rfl rfl rfl hb7 rfl ?_
    refine WR.unsat (c0 := true) (g := (z1 == z3)) rfl rfl rfl hb7 rfl ?_
    refine va rfl rfl rfl (q_pick_f (v := .bool false) rfl rfl hb7 (by kernel_rfl)) ?_
    refine va rfl rfl rfl (q_assign (v := .bool false) rfl (by kernel_rfl)) ?_
    refine WR.nil ?_
    change WC _ _ _ _ _ _
    refine WC.ret ?_
    intro w hw
    obtain rfl := Option.some.inj h
    subst hF
    exact ⟨by kernel_rfl, hw.fr⟩
set_option maxRecDepth 100000 in
set_option maxHeartbeats 400000 in
theorem t_firthref14_Doubt {Γ : Gh} {w0 : World} {Aa : Option Addr} {ca : Nat} {a : List Rec} (ha : Sl recT Γ Aa a) (hac : a.length ≤ ca) {Ab : Option Addr} {cb : Nat} {b : List Rec} (hb : Sl recT Γ Ab b) (hbc : b.length ≤ cb) (hs : Sat Γ w0) {r : Bool} (h : m_firthref14_Doubt a b = some r) : Calls Tryz.prog 20 #[.slice Aa a.length ca, .slice Ab b.length cb] w0 (fun e w' => e = .returned (.bool r) ∧ Fr no w0 w') := by
  refine calls_of (N := 43) (rs := [4]) (args := [.slice Aa a.length ca, .slice Ab b.length cb]) Tryz.func20 rfl Tryz.ntmps20 Tryz.results20 rfl ?_
  obtain ⟨F, hF⟩ : ∃ F : Fm, F = ⟨no, w0, Γ⟩ := ⟨_, rfl⟩
  refine WC.here (C := CC F Γ []) ?_ (hF ▸ Cur.start0 hs)
  refine WC.rs ?_
  refine va rfl rfl rfl (q_assign (v := .bool false) rfl (by kernel_rfl)) ?_
  refine WR.nil ?_
  change WC _ _ _ _ _ _
  refine WC.rs ?_
  refine va rfl rfl rfl (q_move (v := .slice Aa a.length ca) rfl (by kernel_rfl)) ?_
  obtain ⟨z1, hz2, h⟩ := bnd h
  refine e_call (is := []) rfl rfl (call_run Tryz.call10 rfl rfl (by kernel_rfl)) rfl (fun w hp => t_firthref14_Held ha hac hp hz2) ?_
  rintro Γ3 U5 v6 hl4 ⟨A7, c8, row9, rfl, rfl, hr10, _⟩
  change WR _ _ _ (CC F Γ3 [row9]) _ _ (upd _ 13 (.tuple #[.slice A7 z1.1.length c8, .bool z1.2]))
  refine va rfl rfl rfl (q_move (v := .tuple #[.slice A7 z1.1.length c8, .bool z1.2]) rfl (by kernel_rfl)) ?_
  refine va rfl rfl rfl (q_extract (v := .slice A7 z1.1.length c8) rfl rfl rfl) ?_
  refine va rfl rfl rfl (q_extract (v := .bool z1.2) rfl rfl rfl) ?_
  refine va rfl rfl rfl (q_assign (v := .slice A7 z1.1.length c8) rfl (by kernel_rfl)) ?_
  refine va rfl rfl rfl (q_assign (v := .bool z1.2) rfl (by kernel_rfl)) ?_
  refine WR.nil ?_
  change WC _ _ _ _ _ _
  refine WC.rs ?_
  refine va rfl rfl rfl (q_move (v := .slice Ab b.length cb) rfl (by kernel_rfl)) ?_
  obtain ⟨z11, hz12, h⟩ := bnd h
  refine e_call (is := []) rfl rfl (call_run Tryz.call10 rfl rfl (by kernel_rfl)) rfl (fun w hp => t_firthref14_Held (hb.mono hl4) hbc hp hz12) ?_
  rintro Γ13 U15 v16 hl14 ⟨A17, c18, row19, rfl, rfl, hr20, _⟩
  change WR _ _ _ (CC F Γ13 [row19, row9]) _ _ (upd _ 18 (.tuple #[.slice A17 z11.1.length c18, .bool z11.2]))
  refine va rfl rfl rfl (q_move (v := .tuple #[.slice A17 z11.1.length c18, .bool z11.2]) rfl (by kernel_rfl)) ?_
  refine va rfl rfl rfl (q_extract (v := .slice A17 z11.1.length c18) rfl rfl rfl) ?_
  refine va rfl rfl rfl (q_extract (v := .bool z11.2) rfl rfl rfl) ?_
  refine va rfl rfl rfl (q_assign (v := .slice A17 z11.1.length c18) rfl (by kernel_rfl)) ?_
  refine va rfl rfl rfl (q_assign (v := .bool z11.2) rfl (by kernel_rfl)) ?_
  refine WR.nil ?_
  change WC _ _ _ _ _ _
  refine WC.seq ?_
  refine WC.rs ?_
  refine va rfl rfl rfl (q_move (v := .slice A7 z1.1.length c8) rfl (by kernel_rfl)) ?_
  refine va rfl rfl rfl (q_move (v := .slice A17 z11.1.length c18) rfl (by kernel_rfl)) ?_
  obtain ⟨z21, hz22, h⟩ := bnd h
  refine vc rfl rfl rfl (q_call (call_run Tryz.call50 rfl rfl (by kernel_rfl)) (fun w hw => t_firthref14_doubt (Γ := Gh.all w) ((hr10.mono hl14).sl hw.sat.le_all (hw.ra 1 rfl)) (hr10.mono hl14).capz (hr20.sl hw.sat.le_all (hw.ra 0 rfl)) hr20.capz (Sl.nil intT _ none) (Nat.zero_le 0) (Sat.all w) hz22)) ?_
  refine WR.nil ?_
  change WC _ _ _ _ _ _
  refine WC.cif h (by kernel_rfl) (fun hb23 h => ?_) (fun hb23 h => ?_)
  · skip
    refine WC.rs ?_
    refine va rfl rfl rfl (q_assign (v := .bool true) rfl (by kernel_rfl)) ?_
    refine WR.nil ?_
    change WC _ _ _ _ _ _
    refine WC.ret ?_
    intro w hw
    obtain rfl := Option.some.inj h
    subst hF
    exact ⟨by kernel_rfl, hw.fr⟩
  · skip
    refine WC.skip ?_
    change WC _ _ _ _ _ _
    refine WC.seq ?_
    refine WC.rs ?_
    refine va rfl rfl rfl (q_assign (v := .int .i64 0) rfl (by kernel_rfl)) ?_
    refine WR.nil ?_
    change WC _ _ _ _ _ _
    refine WC.block ?_
    refine WC.forU h (fun (i25 : Nat) (s : Unit) σ w => match s with | () => slots σ [(5, .slice A7 z1.1.length c8), (7, .slice A17 z11.1.length c18), (9, .int .i64 ((i25 : Nat) : Int))] ∧ CC F Γ13 [row19, row9] w ∧ True) ?_ ?_
    · skip
      intro w hw
      exact ⟨(sl_ (by kernel_rfl)), hw, trivial⟩
    rintro f24 i25 ⟨⟩ σ w hi26 hlt27 hge28 ⟨hsl, hw, -⟩
    refine Wpt.slots hsl ?_
    refine WC.here (C := CC F Γ13 [row19, row9]) ?_ hw
    clear hw hsl
    refine WC.seq ?_
    refine WC.rs ?_
    refine va rfl rfl rfl (q_move (v := .int .i64 ((i25 : Nat) : Int)) rfl (by kernel_rfl)) ?_
    refine va rfl rfl rfl (q_lss rfl rfl rfl) ?_
    refine WR.nil ?_
    change WC _ _ _ _ _ _
    refine WC.cond (b := (decide (((i25 : Nat) : Int) < 16))) (by kernel_rfl) (fun hb29 => ?_) (fun hb29 => ?_)
    · skip
      have hl30 := ilt hb29
      have h := hlt27 hl30
      refine WC.skip ?_
      change WC _ _ _ _ _ _
      refine WC.seq ?_
      refine WC.block ?_
      refine WC.seq ?_
      refine WC.rs ?_
      refine va rfl rfl rfl (q_move (v := .slice A7 z1.1.length c8) rfl (by kernel_rfl)) ?_
      refine va rfl rfl rfl (q_move (v := .slice A17 z11.1.length c18) rfl (by kernel_rfl)) ?_
      refine va rfl rfl rfl (q_move (v := .int .i64 ((i25 : Nat) : Int)) rfl (by kernel_rfl)) ?_
      refine e_buildSlice (cs := #[.int .i64 ((i25 : Nat) : Int)]) (e := 3) rfl rfl rfl rfl (fun w => by kernel_rfl) ?_
      intro g31
      have ho32 : Own intT Γ13 3 [(g31, .cells #[.int .i64 ((i25 : Nat) : Int)] 3 (0, 0))] (some ⟨g31, 0, none⟩) 1 [((i25 : Nat) : Int)] := Own.of_blockL (T := intT) (ys := [((i25 : Nat) : Int)]) [[.int .i64 ((i25 : Nat) : Int)]] rfl (show 1 ≤ lim by decide) (show Ty.rd intT Γ13 [.int .i64 ((i25 : Nat) : Int)] ((i25 : Nat) : Int) ∧ True from ⟨⟨rfl, (ctr_lit0 hl30 (by decide))⟩, trivial⟩)
      obtain ⟨z33, hz34, h⟩ := bnd h
      refine vc rfl rfl rfl (q_call (call_run Tryz.call50 rfl rfl (by kernel_rfl)) (fun w hw => t_firthref14_doubt (Γ := Gh.all w) ((hr10.mono hl14).sl hw.sat.le_all (hw.ra 2 rfl)) (hr10.mono hl14).capz (hr20.sl hw.sat.le_all (hw.ra 1 rfl)) hr20.capz (ho32.sl hw.sat.le_all (hw.ra 0 rfl)) ho32.capz (Sat.all w) hz34)) ?_
      refine WR.nil ?_
      change WC _ _ _ _ _ _
      refine WC.cif h (by kernel_rfl) (fun hb35 h => ?_) (fun hb35 h => ?_)
      · skip
        refine WC.rs ?_
        refine va rfl rfl rfl (q_assign (v := .bool true) rfl (by kernel_rfl)) ?_
        refine WR.nil ?_
        change WC _ _ _ _ _ _
        refine WC.ret ?_
        intro w hw
        obtain rfl := Option.some.inj h
        subst hF
        exact ⟨by kernel_rfl, hw.fr⟩
      · skip
        refine WC.skip ?_
        change WC _ _ _ _ _ _
        refine WC.rs ?_
        refine va rfl rfl rfl (q_assign (v := .int .i64 0) rfl (by kernel_rfl)) ?_
        refine WR.nil ?_
        change WC _ _ _ _ _ _
        refine WC.block ?_
        refine WC.forU h (fun (i37 : Nat) (s : Unit) σ w => match s with | () => slots σ [(5, .slice A7 z1.1.length c8), (7, .slice A17 z11.1.length c18), (9, .int .i64 ((i25 : Nat) : Int)), (10, .int .i64 ((i37 : Nat) : Int))] ∧ CC F Γ13 [row19, row9] w ∧ True) ?_ ?_
        · skip
          intro w hw
          exact ⟨(sl_ (by kernel_rfl)), (hw.only (is := [1, 1]) rfl), trivial⟩
        rintro f36 i37 ⟨⟩ σ w hi38 hlt39 hge40 ⟨hsl, hw, -⟩
        refine Wpt.slots hsl ?_
        refine WC.here (C := CC F Γ13 [row19, row9]) ?_ hw
        clear hw hsl
        refine WC.seq ?_
        refine WC.rs ?_
        refine va rfl rfl rfl (q_move (v := .int .i64 ((i37 : Nat) : Int)) rfl (by kernel_rfl)) ?_
        refine va rfl rfl rfl (q_lss rfl rfl rfl) ?_
        refine WR.nil ?_
        change WC _ _ _ _ _ _
        refine WC.cond (b := (decide (((i37 : Nat) : Int) < 16))) (by kernel_rfl) (fun hb41 => ?_) (fun hb41 => ?_)
        · skip
          have hl42 := ilt hb41
          have h := hlt39 hl42
          refine WC.skip ?_
          change WC _ _ _ _ _ _
          refine WC.seq ?_
          refine WC.block ?_
          refine WC.rs ?_
          refine va rfl rfl rfl (q_move (v := .slice A7 z1.1.length c8) rfl (by kernel_rfl)) ?_
          refine va rfl rfl rfl (q_move (v := .slice A17 z11.1.length c18) rfl (by kernel_rfl)) ?_
          refine va rfl rfl rfl (q_move (v := .int .i64 ((i25 : Nat) : Int)) rfl (by kernel_rfl)) ?_
          refine va rfl rfl rfl (q_move (v := .int .i64 ((i37 : Nat) : Int)) rfl (by kernel_rfl)) ?_
          refine e_buildSlice (cs := #[.int .i64 ((i25 : Nat) : Int), .int .i64 ((i37 : Nat) : Int)]) (e := 3) rfl rfl rfl rfl (fun w => by kernel_rfl) ?_
          intro g43
          have ho44 : Own intT Γ13 3 [(g43, .cells #[.int .i64 ((i25 : Nat) : Int), .int .i64 ((i37 : Nat) : Int)] 3 (0, 0))] (some ⟨g43, 0, none⟩) 2 [((i25 : Nat) : Int), ((i37 : Nat) : Int)] := Own.of_blockL (T := intT) (ys := [((i25 : Nat) : Int), ((i37 : Nat) : Int)]) [[.int .i64 ((i25 : Nat) : Int)], [.int .i64 ((i37 : Nat) : Int)]] rfl (show 2 ≤ lim by decide) (show Ty.rd intT Γ13 [.int .i64 ((i25 : Nat) : Int)] ((i25 : Nat) : Int) ∧ Ty.rd intT Γ13 [.int .i64 ((i37 : Nat) : Int)] ((i37 : Nat) : Int) ∧ True from ⟨⟨rfl, (ctr_lit0 hl30 (by decide))⟩, ⟨rfl, (ctr_lit0 hl42 (by decide))⟩, trivial⟩)
          obtain ⟨z45, hz46, h⟩ := bnd h
          refine vc rfl rfl rfl (q_call (call_run Tryz.call50 rfl rfl (by kernel_rfl)) (fun w hw => t_firthref14_doubt (Γ := Gh.all w) ((hr10.mono hl14).sl hw.sat.le_all (hw.ra 2 rfl)) (hr10.mono hl14).capz (hr20.sl hw.sat.le_all (hw.ra 1 rfl)) hr20.capz (ho44.sl hw.sat.le_all (hw.ra 0 rfl)) ho44.capz (Sat.all w) hz46)) ?_
          refine WR.nil ?_
          change WC _ _ _ _ _ _
          refine WC.cif h (by kernel_rfl) (fun hb47 h => ?_) (fun hb47 h => ?_)
          · skip
            refine WC.rs ?_
            refine va rfl rfl rfl (q_assign (v := .bool true) rfl (by kernel_rfl)) ?_
            refine WR.nil ?_
            change WC _ _ _ _ _ _
            refine WC.ret ?_
            intro w hw
            obtain rfl := Option.some.inj h
            subst hF
            exact ⟨by kernel_rfl, hw.fr⟩
          · skip
            refine WC.skip ?_
            change WC _ _ _ _ _ _
            refine WC.region ?_
            refine va rfl rfl rfl (q_move (v := .int .i64 ((i37 : Nat) : Int)) rfl (by kernel_rfl)) ?_
            refine va rfl rfl rfl (q_add_r (r := ((i37 + 1 : Nat) : Int)) rfl rfl rfl (ctr_lit hl42 (by decide))) ?_
            refine va rfl rfl rfl (q_assign (v := .int .i64 ((i37 + 1 : Nat) : Int)) rfl (by kernel_rfl)) ?_
            refine WR.nil ?_
            intro w hw
            exact ⟨hl42, (), h, (sl_ (by kernel_rfl)), (hw.only (is := [1, 1]) rfl), trivial⟩
        · skip
          have h := hge40 (ige hb41)
          refine WC.exit ?_
          change WC _ _ _ _ _ _
          refine WC.region ?_
          refine va rfl rfl rfl (q_move (v := .int .i64 ((i25 : Nat) : Int)) rfl (by kernel_rfl)) ?_
          refine va rfl rfl rfl (q_add_r (r := ((i25 + 1 : Nat) : Int)) rfl rfl rfl (ctr_lit hl30 (by decide))) ?_
          refine va rfl rfl rfl (q_assign (v := .int .i64 ((i25 + 1 : Nat) : Int)) rfl (by kernel_rfl)) ?_
          refine WR.nil ?_
          intro w hw
          exact ⟨hl30, (), h, (sl_ (by kernel_rfl)), hw, trivial⟩
    · skip
      have h := hge28 (ige hb29)
      refine WC.exit ?_
      change WC _ _ _ _ _ _
      refine WC.rs ?_
      refine va rfl rfl rfl (q_assign (v := .bool false) rfl (by kernel_rfl)) ?_
      refine WR.nil ?_
      change WC _ _ _ _ _ _
      refine WC.ret ?_
      intro w hw
      obtain rfl := Option.some.inj h
      subst hF
      exact ⟨by kernel_rfl, hw.fr⟩
set_option maxRecDepth 100000 in
set_option maxHeartbeats 400000 in
theorem t_firthlaw14_written {Γ : Gh} {w0 : World} {Aa : Option Addr} {ca : Nat} {a : List Rec} (ha : Sl recT Γ Aa a) (hac : a.length ≤ ca) {Ab : Option Addr} {cb : Nat} {b : List Rec} (hb : Sl recT Γ Ab b) (hbc : b.length ≤ cb) (hs : Sat Γ w0) {r : Bool} (h : m_firthlaw14_written a b = some r) : Calls Tryz.prog 22 #[.slice Aa a.length ca, .slice Ab b.length cb] w0 (fun e w' => e = .returned (.bool r) ∧ Fr no w0 w') := by
  refine calls_of (N := 44) (rs := [4]) (args := [.slice Aa a.length ca, .slice Ab b.length cb]) Tryz.func22 rfl Tryz.ntmps22 Tryz.results22 rfl ?_
  obtain ⟨F, hF⟩ : ∃ F : Fm, F = ⟨no, w0, Γ⟩ := ⟨_, rfl⟩
  refine WC.here (C := CC F Γ []) ?_ (hF ▸ Cur.start0 hs)
  refine WC.rs ?_
  refine va rfl rfl rfl (q_assign (v := .bool false) rfl (by kernel_rfl)) ?_
  refine WR.nil ?_
  change WC _ _ _ _ _ _
  refine WC.seq ?_
  refine WC.rs ?_
  refine va rfl rfl rfl (q_assign (v := .int .i64 0) rfl (by kernel_rfl)) ?_
  refine WR.nil ?_
  change WC _ _ _ _ _ _
  refine WC.block ?_
  refine WC.forI h (fun (i4 : Nat) (s : Unit) σ w => match s with | () => ∃ (Γ1 : Gh), slots σ [(0, .slice Aa a.length ca), (1, .slice Ab b.length cb), (5, .int .i64 ((i4 : Nat) : Int))] ∧ CC F Γ1 [] w ∧ Gh.le Γ Γ1 ∧ True) ?_ ?_
  · skip
    intro w hw
    exact ⟨Γ, (sl_ (by kernel_rfl)), hw, (Gh.refl _), trivial⟩
  rintro f3 i4 ⟨⟩ σ w hi5 hlt6 hge7 ⟨Γ1, hsl, hw, hl2, -⟩
  refine Wpt.slots hsl ?_
  refine WC.here (C := CC F Γ1 []) ?_ hw
  clear hw hsl
  refine WC.seq ?_
  refine WC.rs ?_
  refine va rfl rfl rfl (q_move (v := .int .i64 ((i4 : Nat) : Int)) rfl (by kernel_rfl)) ?_
  refine va rfl rfl rfl (q_move (v := .slice Aa a.length ca) rfl (by kernel_rfl)) ?_
  refine va rfl rfl rfl (q_len_slice rfl Tryz.underlying22 rfl) ?_
  refine va rfl rfl rfl (q_lss rfl rfl rfl) ?_
  refine WR.nil ?_
  change WC _ _ _ _ _ _
  refine WC.cond (b := (decide (((i4 : Nat) : Int) < ((a.length : Nat) : Int)))) (by kernel_rfl) (fun hb8 => ?_) (fun hb8 => ?_)
  · skip
    have hl9 := ilt hb8
    have h := hlt6 hl9
    refine WC.skip ?_
    change WC _ _ _ _ _ _
    refine WC.seq ?_
    refine WC.block ?_
    refine WC.seq ?_
    intro w hw; have h010 := hw.le
    refine WC.here (C := CC F Γ1 []) ?_ hw; clear hw
    refine WC.held (CC F Γ1 []) (by kernel_rfl) (fun w hw => hw.drawn _) ?_
    change WH _ _ _ _ (CC F Γ1 []) _ 32 #[false, false, false, false, false, false, false, false, false, false, false, false, false, false, false, false, false, false, false, false, false, false, false, false, false, false, false, false, false, false, false, false] _
    refine ht (i := 0) rfl (by kernel_rfl) rfl rfl rfl (fun w hw => hw.back (Gh.refl _) h010 .slnil) (q_move (v := .slice Aa a.length ca) rfl (by kernel_rfl)) ?_
    refine ht (i := 1) rfl (by kernel_rfl) rfl rfl rfl (fun w hw => hw.back (Gh.refl _) h010 .slnil) (q_move (v := .int .i64 ((i4 : Nat) : Int)) rfl (by kernel_rfl)) ?_
    refine ht (i := 2) rfl (by kernel_rfl) rfl rfl rfl (fun w hw => hw.back (Gh.refl _) h010 .slnil) (q_ixn (i := i4) Tryz.underlying22 Tryz.sizeOf51 rfl rfl rfl hl9 ((ha.mono hl2).some_ hl9)) ?_
    refine ht (i := 3) rfl (by kernel_rfl) rfl rfl rfl (fun w hw => hw.back (Gh.refl _) h010 .slnil) (q_field_addr (i4 * 2 + 1) fld_51_1 rfl rfl ((ha.mono hl2).some_ hl9) rfl) ?_
    obtain ⟨A11, c12, hx13⟩ := (ha.mono hl2).recT_at i4
    refine ht (i := 4) rfl (by kernel_rfl) rfl rfl rfl (fun w hw => hw.back (Gh.refl _) h010 .slnil) (q_ld (c := 1) (v := .slice A11 ((gt a i4).vers).length c12) (hx13 hl9).2 rfl Tryz.isAgg48 rfl rfl) ?_
    refine ht (i := 5) rfl (by kernel_rfl) rfl rfl rfl (fun w hw => hw.back (Gh.refl _) h010 .slnil) (q_len_slice rfl Tryz.underlying48 rfl) ?_
    refine ht (i := 6) rfl (by kernel_rfl) rfl rfl rfl (fun w hw => hw.back (Gh.refl _) h010 .slnil) (q_move (v := .slice Ab b.length cb) rfl (by kernel_rfl)) ?_
    refine ht (i := 7) rfl (by kernel_rfl) rfl rfl rfl (fun w hw => hw.back (Gh.refl _) h010 .slnil) (q_move (v := .slice Aa a.length ca) rfl (by kernel_rfl)) ?_
    refine ht (i := 8) rfl (by kernel_rfl) rfl rfl rfl (fun w hw => hw.back (Gh.refl _) h010 .slnil) (q_move (v := .int .i64 ((i4 : Nat) : Int)) rfl (by kernel_rfl)) ?_
    refine ht (i := 9) rfl (by kernel_rfl) rfl rfl rfl (fun w hw => hw.back (Gh.refl _) h010 .slnil) (q_ixn (i := i4) Tryz.underlying22 Tryz.sizeOf51 rfl rfl rfl hl9 ((ha.mono hl2).some_ hl9)) ?_
    refine ht (i := 10) rfl (by kernel_rfl) rfl rfl rfl (fun w hw => hw.back (Gh.refl _) h010 .slnil) (q_field_addr (i4 * 2) fld_51_0 rfl rfl ((ha.mono hl2).some_ hl9) rfl) ?_
    refine ht (i := 11) rfl (by kernel_rfl) rfl rfl rfl (fun w hw => hw.back (Gh.refl _) h010 .slnil) (q_ld (c := 0) (v := .string (gt a i4).key) (hx13 hl9).2 rfl Tryz.isAgg9 rfl rfl) ?_
    refine WH.lone (i := 12) (by kernel_rfl) rfl ?_
    obtain ⟨z14, hz15, h⟩ := bnd h
    refine e_call (is := []) rfl rfl (call_run Tryz.call26 rfl rfl (by kernel_rfl)) rfl (fun w hp => t_firthref14_Get (hb.mono hl2) hbc ((gt a i4).key) (hx13 hl9).1.1 hp hz15) ?_
    rintro Γ16 U18 v19 hl17 ⟨A20, c21, rfl, rfl, hc23, hr22, _⟩
    change WR _ _ _ (CC F Γ16 []) _ _ (upd _ 24 (.slice A20 z14.length c21))
    refine WR.nil ?_
    refine WH.next (fun w hw => hw.back hl17 h010 .slnil) ?_
    refine WH.lone (i := 13) (by kernel_rfl) rfl ?_
    refine va rfl rfl rfl (q_len_slice rfl Tryz.underlying48 rfl) ?_
    refine WR.nil ?_
    refine WH.next (fun w hw => hw.back hl17 h010 .slnil) ?_
    refine ht (i := 14) rfl (by kernel_rfl) rfl rfl rfl (fun w hw => hw.back hl17 h010 .slnil) (q_add rfl rfl rfl) ?_
    obtain ⟨z24, hz25, h⟩ := bnd h
    refine ht (i := 15) rfl (by kernel_rfl) rfl rfl rfl (fun w hw => hw.back hl17 h010 .slnil) (qv_eq (Option.some.inj hz25) (q_gtr rfl rfl rfl)) ?_
    refine ht (i := 16) rfl (by kernel_rfl) rfl rfl rfl (fun w hw => hw.back hl17 h010 .slnil) (q_move (v := .bool z24) rfl (by kernel_rfl)) ?_
    refine hg0 (i := 17) rfl (by kernel_rfl) rfl rfl rfl rfl rfl (fun w hw => hw.back hl17 h010 .slnil) (fun hg26 => (q_move (v := .slice Aa a.length ca) rfl (by kernel_rfl))) ?_
    refine hg0 (i := 18) rfl (by kernel_rfl) rfl rfl rfl rfl rfl (fun w hw => hw.back hl17 h010 .slnil) (fun hg27 => (q_move (v := .int .i64 ((i4 : Nat) : Int)) rfl (by kernel_rfl))) ?_
    refine hg0 (i := 19) rfl (by kernel_rfl) rfl rfl rfl rfl rfl (fun w hw => hw.back hl17 h010 .slnil) (fun hg28 => (q_ixn (i := i4) Tryz.underlying22 Tryz.sizeOf51 rfl (gu hg28 rfl) (gu hg28 rfl) hl9 ((ha.mono hl2).some_ hl9))) ?_
    refine hg0 (i := 20) rfl (by kernel_rfl) rfl rfl rfl rfl rfl (fun w hw => hw.back hl17 h010 .slnil) (fun hg29 => (q_field_addr (i4 * 2 + 1) fld_51_1 rfl (gu hg29 rfl) ((ha.mono hl2).some_ hl9) rfl)) ?_
    refine hg0 (i := 21) rfl (by kernel_rfl) rfl rfl rfl rfl rfl (fun w hw => hw.back hl17 h010 .slnil) (fun hg30 => (q_ld (c := 1) (v := .slice A11 ((gt a i4).vers).length c12) (hx13 hl9).2 rfl Tryz.isAgg48 (gu hg30 rfl) rfl)) ?_
    refine hg0 (i := 22) rfl (by kernel_rfl) rfl rfl rfl rfl rfl (fun w hw => hw.back hl17 h010 .slnil) (fun hg31 => (q_move (v := .slice Ab b.length cb) rfl (by kernel_rfl))) ?_
    refine hg0 (i := 23) rfl (by kernel_rfl) rfl rfl rfl rfl rfl (fun w hw => hw.back hl17 h010 .slnil) (fun hg32 => (q_move (v := .slice Aa a.length ca) rfl (by kernel_rfl))) ?_
    refine hg0 (i := 24) rfl (by kernel_rfl) rfl rfl rfl rfl rfl (fun w hw => hw.back hl17 h010 .slnil) (fun hg33 => (q_move (v := .int .i64 ((i4 : Nat) : Int)) rfl (by kernel_rfl))) ?_
    refine hg0 (i := 25) rfl (by kernel_rfl) rfl rfl rfl rfl rfl (fun w hw => hw.back hl17 h010 .slnil) (fun hg34 => (q_ixn (i := i4) Tryz.underlying22 Tryz.sizeOf51 rfl (gu hg34 rfl) (gu hg34 rfl) hl9 ((ha.mono hl2).some_ hl9))) ?_
    refine hg0 (i := 26) rfl (by kernel_rfl) rfl rfl rfl rfl rfl (fun w hw => hw.back hl17 h010 .slnil) (fun hg35 => (q_field_addr (i4 * 2) fld_51_0 rfl (gu hg35 rfl) ((ha.mono hl2).some_ hl9) rfl)) ?_
    refine hg0 (i := 27) rfl (by kernel_rfl) rfl rfl rfl rfl rfl (fun w hw => hw.back hl17 h010 .slnil) (fun hg36 => (q_ld (c := 0) (v := .string (gt a i4).key) (hx13 hl9).2 rfl Tryz.isAgg9 (gu hg36 rfl) rfl)) ?_
    refine (Bool.eq_false_or_eq_true (!z24)).elim (fun hb37 => ?_) (fun hb37 => ?_)
    · skip
      have h := bt hb37 h
      refine WH.lone (i := 28) (by kernel_rfl) rfl ?_
      refine WR.sat (c0 := true) (g := z24) rfl rfl rfl hb37 ?_
      obtain ⟨z38, hz39, h⟩ := bnd h
      refine e_call (is := []) rfl rfl (call_run Tryz.call26 rfl rfl (args2 (gu hb37 rfl) (gu hb37 rfl))) rfl (fun w hp => t_firthref14_Get (hb.mono (hl2.trans hl17)) hbc ((gt a i4).key) (hx13 hl9).1.1 hp hz39) ?_
      rintro Γ40 U42 v43 hl41 ⟨A44, c45, rfl, rfl, hc47, hr46, _⟩
      change WR _ _ _ (CC F Γ40 []) _ _ (upd _ 40 (.slice A44 z38.length c45))
      refine WR.nil ?_
      refine WH.next (fun w hw => hw.back (hl17.trans hl41) h010 .slnil) ?_
      refine WH.lone (i := 29) (by kernel_rfl) rfl ?_
      obtain ⟨z49, hz50, h⟩ := bnd h
      refine vg0 rfl rfl rfl rfl rfl (fun hg48 => (q_call (call_run Tryz.call27 rfl rfl (args2 (gu hg48 rfl) rfl)) (fun w hw => t_firthlaw14_plain (Γ := Gh.all w) (((hx13 hl9).1.2.2.mono (hl17.trans hl41)).mono hw.sat.le_all) (hx13 hl9).1.2.1 (hr46.mono hw.sat.le_all) hc47 (Sat.all w) (gc_of hz50 hg48)))) ?_
      refine WR.nil ?_
      refine WH.next (fun w hw => hw.back (hl17.trans hl41) h010 .slnil) ?_
      refine hg0 (i := 30) rfl (by kernel_rfl) rfl rfl rfl rfl rfl (fun w hw => hw.back (hl17.trans hl41) h010 .slnil) (fun hg51 => (q_not rfl (gu hg51 rfl))) ?_
      refine ht (i := 31) rfl (by kernel_rfl) rfl rfl rfl (fun w hw => hw.back (hl17.trans hl41) h010 .slnil) (q_pick_f (v := .bool (!z49)) rfl rfl (not_t hb37) (gu hb37 rfl)) ?_
      refine WH.done (by kernel_rfl) ?_
      change WC _ _ _ _ _ _
      refine WC.cif h (by kernel_rfl) (fun hb52 h => ?_) (fun hb52 h => ?_)
      · skip
        refine WC.rs ?_
        refine va rfl rfl rfl (q_assign (v := .bool false) rfl (by kernel_rfl)) ?_
        refine WR.nil ?_
        change WC _ _ _ _ _ _
        refine WC.ret ?_
        intro w hw
        obtain rfl := Option.some.inj h
        subst hF
        exact ⟨by kernel_rfl, hw.fr⟩
      · skip
        refine WC.skip ?_
        change WC _ _ _ _ _ _
        refine WC.region ?_
        refine va rfl rfl rfl (q_move (v := .int .i64 ((i4 : Nat) : Int)) rfl (by kernel_rfl)) ?_
        refine va rfl rfl rfl (q_add_r (r := ((i4 + 1 : Nat) : Int)) rfl rfl rfl (ctr_len hl9 (ha.mono hl2).le)) ?_
        refine va rfl rfl rfl (q_assign (v := .int .i64 ((i4 + 1 : Nat) : Int)) rfl (by kernel_rfl)) ?_
        refine WR.nil ?_
        intro w hw
        exact ⟨hl9, (), h, Γ40, (sl_ (by kernel_rfl)), hw, ((hl2.trans hl17).trans hl41), trivial⟩
    · skip
      have h := bf hb37 h
      refine hg0 (g := z24) (i := 28) (v := undef) rfl (by kernel_rfl) rfl rfl rfl rfl rfl (fun w hw => hw.back hl17 h010 .slnil) (no_tf hb37) ?_
      refine WH.env (v := undef) (gv_false hb37) ?_
      refine hg0 (g := z24) (i := 29) (v := undef) rfl (by kernel_rfl) rfl rfl rfl rfl rfl (fun w hw => hw.back hl17 h010 .slnil) (no_tf hb37) ?_
      refine WH.env (v := undef) (gv_false hb37) ?_
      refine hg0 (g := z24) (i := 30) (v := undef) rfl (by kernel_rfl) rfl rfl rfl rfl rfl (fun w hw => hw.back hl17 h010 .slnil) (no_tf hb37) ?_
      refine WH.env (v := undef) (gv_false hb37) ?_
      refine ht (i := 31) rfl (by kernel_rfl) rfl rfl rfl (fun w hw => hw.back hl17 h010 .slnil) (q_pick_t (v := .bool true) rfl rfl (not_f hb37) (by kernel_rfl)) ?_
      refine WH.done (by kernel_rfl) ?_
      change WC _ _ _ _ _ _
      refine WC.ctk (b := true) (by kernel_rfl) rfl ?_
      refine WC.rs ?_
      refine va rfl rfl rfl (q_assign (v := .bool false) rfl (by kernel_rfl)) ?_
      refine WR.nil ?_
      change WC _ _ _ _ _ _
      refine WC.ret ?_
      intro w hw
      obtain rfl := Option.some.inj h
      subst hF
      exact ⟨by kernel_rfl, hw.fr⟩
  · skip
    have h := hge7 (ige hb8)
    refine WC.exit ?_
    change WC _ _ _ _ _ _
    refine WC.rs ?_
    refine va rfl rfl rfl (q_assign (v := .bool true) rfl (by kernel_rfl)) ?_
    refine WR.nil ?_
    change WC _ _ _ _ _ _
    refine WC.ret ?_
    intro w hw
    obtain rfl := Option.some.inj h
    subst hF
    exact ⟨by kernel_rfl, hw.fr⟩
set_option maxRecDepth 100000 in
set_option maxHeartbeats 400000 in
theorem t_firthlaw14_MendBoth {Γ : Gh} {w0 : World} {Aleft : Option Addr} {cleft : Nat} {left : List Rec} (hleft : Sl recT Γ Aleft left) (hleftc : left.length ≤ cleft) {Aright : Option Addr} {cright : Nat} {right : List Rec} (hright : Sl recT Γ Aright right) (hrightc : right.length ≤ cright) (hs : Sat Γ w0) {r : Bool} (h : m_firthlaw14_MendBoth left right = some r) : Calls Tryz.prog 5 #[.slice Aleft left.length cleft, .slice Aright right.length cright] w0 (fun e w' => e = .returned (.bool r) ∧ Fr no w0 w') := by
  refine calls_of (N := 130) (rs := [4]) (args := [.slice Aleft left.length cleft, .slice Aright right.length cright]) Tryz.func5 rfl Tryz.ntmps5 Tryz.results5 rfl ?_
  obtain ⟨F, hF⟩ : ∃ F : Fm, F = ⟨no, w0, Γ⟩ := ⟨_, rfl⟩
  refine WC.here (C := CC F Γ []) ?_ (hF ▸ Cur.start0 hs)
  refine WC.rs ?_
  refine va rfl rfl rfl (q_assign (v := .bool false) rfl (by kernel_rfl)) ?_
  refine WR.nil ?_
  change WC _ _ _ _ _ _
  refine WC.seq ?_
  refine WC.rs ?_
  obtain ⟨z1, hz2, h⟩ := bnd h
  refine vc rfl rfl rfl (q_call (call_run Tryz.call9 rfl rfl (by kernel_rfl)) (fun w hw => t_firthlaw14_awake (Γ := Gh.all w)  (Sat.all w) hz2)) ?_
  refine va rfl rfl rfl (q_not rfl rfl) ?_
  refine WR.nil ?_
  change WC _ _ _ _ _ _
  refine WC.cif h (by kernel_rfl) (fun hb3 h => ?_) (fun hb3 h => ?_)
  · skip
    refine WC.rs ?_
    refine va rfl rfl rfl (q_assign (v := .bool false) rfl (by kernel_rfl)) ?_
    refine WR.nil ?_
    change WC _ _ _ _ _ _
    refine WC.ret ?_
    intro w hw
    obtain rfl := Option.some.inj h
    subst hF
    exact ⟨by kernel_rfl, hw.fr⟩
  · skip
    refine WC.skip ?_
    change WC _ _ _ _ _ _
    refine WC.rs ?_
    refine va rfl rfl rfl (q_move (v := .slice Aleft left.length cleft) rfl (by kernel_rfl)) ?_
    obtain ⟨z4, hz5, h⟩ := bnd h
    refine e_call (is := []) rfl rfl (call_run Tryz.call10 rfl rfl (by kernel_rfl)) rfl (fun w hp => t_firthref14_Held hleft hleftc hp hz5) ?_
    rintro Γ6 U8 v9 hl7 ⟨A10, c11, row12, rfl, rfl, hr13, _⟩
    change WR _ _ _ (CC F Γ6 [row12]) _ _ (upd _ 23 (.tuple #[.slice A10 z4.1.length c11, .bool z4.2]))
    refine va rfl rfl rfl (q_move (v := .tuple #[.slice A10 z4.1.length c11, .bool z4.2]) rfl (by kernel_rfl)) ?_
    refine va rfl rfl rfl (q_extract (v := .slice A10 z4.1.length c11) rfl rfl rfl) ?_
    refine va rfl rfl rfl (q_extract (v := .bool z4.2) rfl rfl rfl) ?_
    refine va rfl rfl rfl (q_assign (v := .slice A10 z4.1.length c11) rfl (by kernel_rfl)) ?_
    refine va rfl rfl rfl (q_assign (v := .bool z4.2) rfl (by kernel_rfl)) ?_
    refine WR.nil ?_
    change WC _ _ _ _ _ _
    refine WC.rs ?_
    refine va rfl rfl rfl (q_move (v := .slice Aright right.length cright) rfl (by kernel_rfl)) ?_
    obtain ⟨z14, hz15, h⟩ := bnd h
    refine e_call (is := []) rfl rfl (call_run Tryz.call10 rfl rfl (by kernel_rfl)) rfl (fun w hp => t_firthref14_Held (hright.mono hl7) hrightc hp hz15) ?_
    rintro Γ16 U18 v19 hl17 ⟨A20, c21, row22, rfl, rfl, hr23, _⟩
    change WR _ _ _ (CC F Γ16 [row22, row12]) _ _ (upd _ 28 (.tuple #[.slice A20 z14.1.length c21, .bool z14.2]))
    refine va rfl rfl rfl (q_move (v := .tuple #[.slice A20 z14.1.length c21, .bool z14.2]) rfl (by kernel_rfl)) ?_
    refine va rfl rfl rfl (q_extract (v := .slice A20 z14.1.length c21) rfl rfl rfl) ?_
    refine va rfl rfl rfl (q_extract (v := .bool z14.2) rfl rfl rfl) ?_
    refine va rfl rfl rfl (q_assign (v := .slice A20 z14.1.length c21) rfl (by kernel_rfl)) ?_
    refine va rfl rfl rfl (q_assign (v := .bool z14.2) rfl (by kernel_rfl)) ?_
    refine WR.nil ?_
    change WC _ _ _ _ _ _
    refine WC.seq ?_
    refine WC.rs ?_
    refine va rfl rfl rfl (q_move (v := .bool z4.2) rfl (by kernel_rfl)) ?_
    refine va rfl rfl rfl (q_not rfl rfl) ?_
    refine va rfl rfl rfl (q_move (v := .bool (!z4.2)) rfl (by kernel_rfl)) ?_
    refine vg0 rfl rfl rfl rfl rfl (fun hg24 => QV.qo (q_move (v := .bool z14.2) rfl (by kernel_rfl))) ?_
    refine vg0 rfl rfl rfl rfl rfl (fun hg25 => QV.qo (q_not rfl (gu hg25 rfl))) ?_
    refine va rfl rfl rfl (q_pick rfl rfl (pk_or' (g := (!z4.2)) (y := (!z14.2)))) ?_
    refine va rfl rfl rfl (q_move (v := .bool ((!z4.2) || (!z14.2))) rfl (by kernel_rfl)) ?_
    refine vg0 rfl rfl rfl rfl rfl (fun hg26 => QV.qo (q_move (v := .slice A10 z4.1.length c11) rfl (by kernel_rfl))) ?_
    refine vg0 rfl rfl rfl rfl rfl (fun hg27 => QV.qo (q_move (v := .slice A20 z14.1.length c21) rfl (by kernel_rfl))) ?_
    obtain ⟨z29, hz30, h⟩ := bnd h
    refine vg0 rfl rfl rfl rfl rfl (fun hg28 => (q_call (call_run Tryz.call20 rfl rfl (args2 (gu hg28 rfl) (gu hg28 rfl))) (fun w hw => t_firthref14_Doubt (Γ := Gh.all w) ((hr13.mono hl17).sl hw.sat.le_all (hw.ra 1 rfl)) (hr13.mono hl17).capz (hr23.sl hw.sat.le_all (hw.ra 0 rfl)) hr23.capz (Sat.all w) (gc_of hz30 hg28)))) ?_
    refine va rfl rfl rfl (q_pick rfl rfl (pk_or' (g := ((!z4.2) || (!z14.2))) (y := z29))) ?_
    refine WR.nil ?_
    change WC _ _ _ _ _ _
    refine WC.cif h (by kernel_rfl) (fun hb31 h => ?_) (fun hb31 h => ?_)
    · skip
      refine WC.rs ?_
      refine va rfl rfl rfl (q_assign (v := .bool true) rfl (by kernel_rfl)) ?_
      refine WR.nil ?_
      change WC _ _ _ _ _ _
      refine WC.ret ?_
      intro w hw
      obtain rfl := Option.some.inj h
      subst hF
      exact ⟨by kernel_rfl, hw.fr⟩
    · skip
      refine WC.skip ?_
      change WC _ _ _ _ _ _
      refine WC.rs ?_
      refine va rfl rfl rfl (q_move (v := .slice A10 z4.1.length c11) rfl (by kernel_rfl)) ?_
      refine va rfl rfl rfl (q_move (v := .slice A20 z14.1.length c21) rfl (by kernel_rfl)) ?_
      have hc36 := (hr13.mono hl17).capz
      intro w hw; obtain ⟨Γ32, hw, hl33, hr34⟩ := hw.seal (i := 1) rfl; have hs35 := (hr13.mono hl17).sl hl33 hr34
      refine WR.here (C := CC F Γ32 [row22, []]) ?_ hw
      clear hw
      have hc41 := (hr23.mono hl33).capz
      intro w hw; obtain ⟨Γ37, hw, hl38, hr39⟩ := hw.seal (i := 0) rfl; have hs40 := (hr23.mono hl33).sl hl38 hr39
      refine WR.here (C := CC F Γ37 [[], []]) ?_ hw
      clear hw
      obtain ⟨z42, hz43, h⟩ := bnd h
      refine e_call (is := []) rfl rfl (call_run Tryz.call21 rfl rfl (by kernel_rfl)) rfl (fun w hp => t_firthlaw14_both (hs35.mono hl38) hc36 hs40 hc41 hp hz43) ?_
      rintro Γ44 U46 v47 hl45 ⟨A48, c49, rfl, rfl, hc51, hr50, _⟩
      change WR _ _ _ (CC F Γ44 [[], []]) _ _ (upd _ 45 (.tuple #[.slice A48 z42.1.length c49, .bool z42.2]))
      refine va rfl rfl rfl (q_move (v := .tuple #[.slice A48 z42.1.length c49, .bool z42.2]) rfl (by kernel_rfl)) ?_
      refine va rfl rfl rfl (q_extract (v := .slice A48 z42.1.length c49) rfl rfl rfl) ?_
      refine va rfl rfl rfl (q_extract (v := .bool z42.2) rfl rfl rfl) ?_
      refine va rfl rfl rfl (q_assign (v := .slice A48 z42.1.length c49) rfl (by kernel_rfl)) ?_
      refine va rfl rfl rfl (q_assign (v := .bool z42.2) rfl (by kernel_rfl)) ?_
      refine WR.nil ?_
      change WC _ _ _ _ _ _
      refine WC.seq ?_
      refine WC.rs ?_
      refine va rfl rfl rfl (q_move (v := .bool z42.2) rfl (by kernel_rfl)) ?_
      refine va rfl rfl rfl (q_not rfl rfl) ?_
      refine va rfl rfl rfl (q_move (v := .bool (!z42.2)) rfl (by kernel_rfl)) ?_
      refine vg0 rfl rfl rfl rfl rfl (fun hg52 => QV.qo (q_move (v := .slice A10 z4.1.length c11) rfl (by kernel_rfl))) ?_
      refine vg0 rfl rfl rfl rfl rfl (fun hg53 => QV.qo (q_move (v := .slice A20 z14.1.length c21) rfl (by kernel_rfl))) ?_
      obtain ⟨z55, hz56, h⟩ := bnd h
      refine vg0 rfl rfl rfl rfl rfl (fun hg54 => (q_call (call_run Tryz.call22 rfl rfl (args2 (gu hg54 rfl) (gu hg54 rfl))) (fun w hw => t_firthlaw14_written (Γ := Gh.all w) ((hs35.mono (hl38.trans hl45)).mono hw.sat.le_all) hc36 ((hs40.mono hl45).mono hw.sat.le_all) hc41 (Sat.all w) (gc_of hz56 hg54)))) ?_
      refine vg0 rfl rfl rfl rfl rfl (fun hg57 => QV.qo (q_not rfl (gu hg57 rfl))) ?_
      refine va rfl rfl rfl (q_pick rfl rfl (pk_or' (g := (!z42.2)) (y := (!z55)))) ?_
      refine va rfl rfl rfl (q_move (v := .bool ((!z42.2) || (!z55))) rfl (by kernel_rfl)) ?_
      refine vg0 rfl rfl rfl rfl rfl (fun hg58 => QV.qo (q_move (v := .slice A20 z14.1.length c21) rfl (by kernel_rfl))) ?_
      refine vg0 rfl rfl rfl rfl rfl (fun hg59 => QV.qo (q_move (v := .slice A10 z4.1.length c11) rfl (by kernel_rfl))) ?_
      obtain ⟨z61, hz62, h⟩ := bnd h
      refine vg0 rfl rfl rfl rfl rfl (fun hg60 => (q_call (call_run Tryz.call22 rfl rfl (args2 (gu hg60 rfl) (gu hg60 rfl))) (fun w hw => t_firthlaw14_written (Γ := Gh.all w) ((hs40.mono hl45).mono hw.sat.le_all) hc41 ((hs35.mono (hl38.trans hl45)).mono hw.sat.le_all) hc36 (Sat.all w) (gc_of hz62 hg60)))) ?_
      refine vg0 rfl rfl rfl rfl rfl (fun hg63 => QV.qo (q_not rfl (gu hg63 rfl))) ?_
      refine va rfl rfl rfl (q_pick rfl rfl (pk_or' (g := ((!z42.2) || (!z55))) (y := (!z61)))) ?_
      refine WR.nil ?_
      change WC _ _ _ _ _ _
      refine WC.cif h (by kernel_rfl) (fun hb64 h => ?_) (fun hb64 h => ?_)
      · skip
        refine WC.rs ?_
        refine va rfl rfl rfl (q_assign (v := .bool true) rfl (by kernel_rfl)) ?_
        refine WR.nil ?_
        change WC _ _ _ _ _ _
        refine WC.ret ?_
        intro w hw
        obtain rfl := Option.some.inj h
        subst hF
        exact ⟨by kernel_rfl, hw.fr⟩
      · skip
        refine WC.skip ?_
        change WC _ _ _ _ _ _
        refine WC.rs ?_
        refine va rfl rfl rfl (q_move (v := .slice A20 z14.1.length c21) rfl (by kernel_rfl)) ?_
        refine va rfl rfl rfl (q_move (v := .slice A10 z4.1.length c11) rfl (by kernel_rfl)) ?_
        obtain ⟨z65, hz66, h⟩ := bnd h
        refine e_call (is := []) rfl rfl (call_run Tryz.call13 rfl rfl (by kernel_rfl)) rfl (fun w hp => t_mend_Open (hs35.mono (hl38.trans hl45)) hc36 hp hz66) ?_
        rintro Γ67 U69 v70 hl68 ⟨A71, c72, row73, rfl, rfl, hr74, _⟩
        change WR _ _ _ (CC F Γ67 [row73, [], []]) _ _ (upd _ 64 (.slice A71 z65.length c72))
        have hc79 := hr74.capz
        intro w hw; obtain ⟨Γ75, hw, hl76, hr77⟩ := hw.seal (i := 0) rfl; have hs78 := hr74.sl hl76 hr77
        refine WR.here (C := CC F Γ75 [[], [], []]) ?_ hw
        clear hw
        obtain ⟨z80, hz81, h⟩ := bnd h
        refine e_call (is := []) rfl rfl (call_run Tryz.call15 rfl rfl (by kernel_rfl)) rfl (fun w hp => t_mend_Answer (hs40.mono ((hl45.trans hl68).trans hl76)) hc41 (Sl.nil intT _ none) (Nat.zero_le 0) hs78 hc79 hp hz81) ?_
        rintro Γ82 U84 v85 hl83 ⟨A86, c87, row88, rfl, rfl, hr89, _⟩
        change WR _ _ _ (CC F Γ82 [row88, [], [], []]) _ _ (upd _ 65 (.slice A86 z80.length c87))
        refine va rfl rfl rfl (q_assign (v := .slice A86 z80.length c87) rfl (by kernel_rfl)) ?_
        refine WR.nil ?_
        change WC _ _ _ _ _ _
        refine WC.seq ?_
        refine WC.rs ?_
        refine va rfl rfl rfl (q_assign (v := .int .i64 0) rfl (by kernel_rfl)) ?_
        refine WR.nil ?_
        change WC _ _ _ _ _ _
        refine WC.block ?_
        refine WC.forI h (fun (i103 : Nat) (s : (List Rec) × (List Rec)) σ w => match s with | (a_92, b_97) => ∃ (Γ90 : Gh), ∃ (A93 : Option Addr), ∃ (c94 : Nat), ∃ (A98 : Option Addr), ∃ (c99 : Nat), slots σ [(5, .slice A93 a_92.length c94), (7, .slice A98 b_97.length c99), (9, .slice A48 z42.1.length c49), (11, .slice A86 z80.length c87), (12, .int .i64 ((i103 : Nat) : Int))] ∧ CC F Γ90 [row88] w ∧ Gh.le Γ82 Γ90 ∧ a_92.length ≤ c94 ∧ Sl recT Γ90 A93 a_92 ∧ b_97.length ≤ c99 ∧ Sl recT Γ90 A98 b_97 ∧ True) ?_ ?_
        · skip
          intro w hw
          exact ⟨Γ82, A10, c11, A20, c21, (sl_ (by kernel_rfl)), (hw.only (is := [0]) rfl), (Gh.refl _), hc36, (hs35.mono ((((hl38.trans hl45).trans hl68).trans hl76).trans hl83)), hc41, (hs40.mono (((hl45.trans hl68).trans hl76).trans hl83)), trivial⟩
        rintro f102 i103 ⟨a_92, b_97⟩ σ w hi104 hlt105 hge106 ⟨Γ90, A93, c94, A98, c99, hsl, hw, hl91, hc96, hs95, hc101, hs100, -⟩
        refine Wpt.slots hsl ?_
        refine WC.here (C := CC F Γ90 [row88]) ?_ hw
        clear hw hsl
        refine WC.seq ?_
        refine WC.rs ?_
        refine va rfl rfl rfl (q_move (v := .int .i64 ((i103 : Nat) : Int)) rfl (by kernel_rfl)) ?_
        refine va rfl rfl rfl (q_move (v := .slice A86 z80.length c87) rfl (by kernel_rfl)) ?_
        refine va rfl rfl rfl (q_len_slice rfl Tryz.underlying32 rfl) ?_
        refine va rfl rfl rfl (q_lss rfl rfl rfl) ?_
        refine WR.nil ?_
        change WC _ _ _ _ _ _
        refine WC.cond (b := (decide (((i103 : Nat) : Int) < ((z80.length : Nat) : Int)))) (by kernel_rfl) (fun hb107 => ?_) (fun hb107 => ?_)
        · skip
          have hl108 := ilt hb107
          have h := hlt105 hl108
          refine WC.skip ?_
          change WC _ _ _ _ _ _
          refine WC.seq ?_
          refine WC.block ?_
          refine WC.seq ?_
          intro w hw; have h0109 := hw.le
          refine WC.here (C := CC F Γ90 [row88]) ?_ hw; clear hw
          refine WC.held (CC F Γ90 [row88]) (by kernel_rfl) (fun w hw => hw.drawn _) ?_
          change WH _ _ _ _ (CC F Γ90 [row88]) _ 13 #[false, false, false, false, false, false, false, false, false, false, false, false, false] _
          refine ht (i := 0) rfl (by kernel_rfl) rfl rfl rfl (fun w hw => hw.back (Gh.refl _) h0109 (.cons_cons _ .slnil)) (q_move (v := .slice A93 a_92.length c94) rfl (by kernel_rfl)) ?_
          refine ht (i := 1) rfl (by kernel_rfl) rfl rfl rfl (fun w hw => hw.back (Gh.refl _) h0109 (.cons_cons _ .slnil)) (q_move (v := .slice A86 z80.length c87) rfl (by kernel_rfl)) ?_
          refine ht (i := 2) rfl (by kernel_rfl) rfl rfl rfl (fun w hw => hw.back (Gh.refl _) h0109 (.cons_cons _ .slnil)) (q_move (v := .int .i64 ((i103 : Nat) : Int)) rfl (by kernel_rfl)) ?_
          refine ht (i := 3) rfl (by kernel_rfl) rfl rfl rfl (fun w hw => hw.back (Gh.refl _) h0109 (.cons_cons _ .slnil)) (q_ixn (i := i103) Tryz.underlying32 Tryz.sizeOf42 rfl rfl rfl hl108 ((hr89.mono hl91).some_ hl108)) ?_
          refine ht (i := 4) rfl (by kernel_rfl) rfl rfl rfl (fun w hw => hw.back (Gh.refl _) h0109 (.cons_cons _ .slnil)) (q_field_addr (i103 * 3) fld_42_0 rfl rfl ((hr89.mono hl91).some_ hl108) rfl) ?_
          obtain ⟨A110, c111, A112, c113, A114, c115, hx116⟩ := (hr89.mono hl91).dmend_StepT_at i103
          refine ht (i := 5) rfl (by kernel_rfl) rfl rfl rfl (fun w hw => hw.back (Gh.refl _) h0109 (.cons_cons _ .slnil)) (q_ldo (c := 0) (v := .slice A110 ((gt z80 i103).path).length c111) (i := 0) rfl (hx116 hl108).2 rfl Tryz.isAgg23 rfl rfl) ?_
          refine ht (i := 6) rfl (by kernel_rfl) rfl rfl rfl (fun w hw => hw.back (Gh.refl _) h0109 (.cons_cons _ .slnil)) (q_move (v := .slice A86 z80.length c87) rfl (by kernel_rfl)) ?_
          refine ht (i := 7) rfl (by kernel_rfl) rfl rfl rfl (fun w hw => hw.back (Gh.refl _) h0109 (.cons_cons _ .slnil)) (q_move (v := .int .i64 ((i103 : Nat) : Int)) rfl (by kernel_rfl)) ?_
          refine ht (i := 8) rfl (by kernel_rfl) rfl rfl rfl (fun w hw => hw.back (Gh.refl _) h0109 (.cons_cons _ .slnil)) (q_ixn (i := i103) Tryz.underlying32 Tryz.sizeOf42 rfl rfl rfl hl108 ((hr89.mono hl91).some_ hl108)) ?_
          refine ht (i := 9) rfl (by kernel_rfl) rfl rfl rfl (fun w hw => hw.back (Gh.refl _) h0109 (.cons_cons _ .slnil)) (q_field_addr (i103 * 3 + 1) fld_42_1 rfl rfl ((hr89.mono hl91).some_ hl108) rfl) ?_
          refine ht (i := 10) rfl (by kernel_rfl) rfl rfl rfl (fun w hw => hw.back (Gh.refl _) h0109 (.cons_cons _ .slnil)) (q_ldo (c := 1) (v := .slice A112 ((gt z80 i103).hashes).length c113) (i := 0) rfl (hx116 hl108).2 rfl Tryz.isAgg24 rfl rfl) ?_
          refine WH.lone (i := 11) (by kernel_rfl) rfl ?_
          obtain ⟨z117, hz118, h⟩ := bnd h
          refine e_call (is := []) rfl rfl (call_run Tryz.call15 rfl rfl (by kernel_rfl)) rfl (fun w hp => t_mend_Answer hs95 hc96 (hx116 hl108).1.1.2 (hx116 hl108).1.1.1 (hx116 hl108).1.2.1.2 (hx116 hl108).1.2.1.1 hp hz118) ?_
          rintro Γ119 U121 v122 hl120 ⟨A123, c124, row125, rfl, rfl, hr126, _⟩
          change WR _ _ _ (CC F Γ119 [row125, row88]) _ _ (upd _ 83 (.slice A123 z117.length c124))
          refine WR.nil ?_
          refine WH.next (fun w hw => hw.back hl120 h0109 (.cons _ (.cons_cons _ .slnil))) ?_
          refine ht (i := 12) rfl (by kernel_rfl) rfl rfl rfl (fun w hw => hw.back hl120 h0109 (.cons _ (.cons_cons _ .slnil))) (q_assign (v := .slice A123 z117.length c124) rfl (by kernel_rfl)) ?_
          refine WH.done (by kernel_rfl) ?_
          change WC _ _ _ _ _ _
          refine WC.rs ?_
          refine va rfl rfl rfl (q_assign (v := .int .i64 0) rfl (by kernel_rfl)) ?_
          refine WR.nil ?_
          change WC _ _ _ _ _ _
          refine WC.block ?_
          refine WC.forI h (fun (i140 : Nat) (s : (List Rec) × (List Rec)) σ w => match s with | (a_129, b_134) => ∃ (Γ127 : Gh), ∃ (A130 : Option Addr), ∃ (c131 : Nat), ∃ (A135 : Option Addr), ∃ (c136 : Nat), slots σ [(5, .slice A130 a_129.length c131), (7, .slice A135 b_134.length c136), (9, .slice A48 z42.1.length c49), (11, .slice A86 z80.length c87), (12, .int .i64 ((i103 : Nat) : Int)), (13, .slice A123 z117.length c124), (14, .int .i64 ((i140 : Nat) : Int))] ∧ CC F Γ127 [row125, row88] w ∧ Gh.le Γ119 Γ127 ∧ a_129.length ≤ c131 ∧ Sl recT Γ127 A130 a_129 ∧ b_134.length ≤ c136 ∧ Sl recT Γ127 A135 b_134 ∧ True) ?_ ?_
          · skip
            intro w hw
            exact ⟨Γ119, A93, c94, A98, c99, (sl_ (by kernel_rfl)), hw, (Gh.refl _), hc96, (hs95.mono hl120), hc101, (hs100.mono hl120), trivial⟩
          rintro f139 i140 ⟨a_129, b_134⟩ σ w hi141 hlt142 hge143 ⟨Γ127, A130, c131, A135, c136, hsl, hw, hl128, hc133, hs132, hc138, hs137, -⟩
          refine Wpt.slots hsl ?_
          refine WC.here (C := CC F Γ127 [row125, row88]) ?_ hw
          clear hw hsl
          refine WC.seq ?_
          refine WC.rs ?_
          refine va rfl rfl rfl (q_move (v := .int .i64 ((i140 : Nat) : Int)) rfl (by kernel_rfl)) ?_
          refine va rfl rfl rfl (q_move (v := .slice A123 z117.length c124) rfl (by kernel_rfl)) ?_
          refine va rfl rfl rfl (q_len_slice rfl Tryz.underlying32 rfl) ?_
          refine va rfl rfl rfl (q_lss rfl rfl rfl) ?_
          refine WR.nil ?_
          change WC _ _ _ _ _ _
          refine WC.cond (b := (decide (((i140 : Nat) : Int) < ((z117.length : Nat) : Int)))) (by kernel_rfl) (fun hb144 => ?_) (fun hb144 => ?_)
          · skip
            have hl145 := ilt hb144
            have h := hlt142 hl145
            refine WC.skip ?_
            change WC _ _ _ _ _ _
            refine WC.seq ?_
            refine WC.block ?_
            refine WC.rs ?_
            refine va rfl rfl rfl (q_move (v := .slice A123 z117.length c124) rfl (by kernel_rfl)) ?_
            refine va rfl rfl rfl (q_move (v := .int .i64 ((i140 : Nat) : Int)) rfl (by kernel_rfl)) ?_
            refine va rfl rfl rfl (q_ixn (i := i140) Tryz.underlying32 Tryz.sizeOf42 rfl rfl rfl hl145 ((hr126.mono hl128).some_ hl145)) ?_
            obtain ⟨A146, c147, A148, c149, A150, c151, hx152⟩ := (hr126.mono hl128).dmend_StepT_at i140
            refine va rfl rfl rfl (q_ldoa (c := 0) (vs := [.slice A146 ((gt z117 i140).path).length c147, .slice A148 ((gt z117 i140).hashes).length c149, .slice A150 ((gt z117 i140).recs).length c151]) (i := 0) rfl (hx152 hl145).2 rfl Tryz.isAgg42 Tryz.sizeOf42 rfl rfl) ?_
            refine e_alloc Tryz.zeroValue42 rfl rfl rfl rfl ?_
            intro g153
            refine e_st (i := 0) (v := .agg #[.slice A146 ((gt z117 i140).path).length c147, .slice A148 ((gt z117 i140).hashes).length c149, .slice A150 ((gt z117 i140).recs).length c151]) (new := #[.slice A146 ((gt z117 i140).path).length c147, .slice A148 ((gt z117 i140).hashes).length c149, .slice A150 ((gt z117 i140).recs).length c151]) rfl Tryz.sizeOf42 rfl rfl rfl rfl (by kernel_rfl) rfl rfl rfl rfl ?_
            refine WR.nil ?_
            change WC _ _ _ _ _ _
            refine WC.rs ?_
            refine va rfl rfl rfl (q_move (v := .slice A135 b_134.length c136) rfl (by kernel_rfl)) ?_
            refine va rfl rfl rfl (q_fl 2 fld_42_2 rfl rfl rfl) ?_
            refine va rfl rfl rfl (q_ldl (i := 0) (v := .slice A150 ((gt z117 i140).recs).length c151) rfl rfl Tryz.isAgg22 rfl rfl) ?_
            obtain ⟨z154, hz155, h⟩ := bnd h
            refine e_call (is := []) rfl rfl (call_run Tryz.call23 rfl rfl (by kernel_rfl)) rfl (fun w hp => t_mend_Take hs137 hc138 (hx152 hl145).1.2.2.2 (hx152 hl145).1.2.2.1 hp hz155) ?_
            rintro Γ156 U158 v159 hl157 ⟨A160, c161, row162, rfl, rfl, hr163, hr164, _⟩
            change WR _ _ _ (CC F Γ156 [row162, [(g153, .cells #[.slice A146 ((gt z117 i140).path).length c147, .slice A148 ((gt z117 i140).hashes).length c149, .slice A150 ((gt z117 i140).recs).length c151] 42 (0, 0))], row125, row88]) _ _ (upd _ 98 (.tuple #[.slice A160 z154.1.length c161, .int .i64 z154.2]))
            refine va rfl rfl rfl (q_move (v := .tuple #[.slice A160 z154.1.length c161, .int .i64 z154.2]) rfl (by kernel_rfl)) ?_
            refine va rfl rfl rfl (q_extract (v := .slice A160 z154.1.length c161) rfl rfl rfl) ?_
            refine va rfl rfl rfl (q_extract (v := .int .i64 z154.2) rfl rfl rfl) ?_
            refine va rfl rfl rfl (q_assign (v := .slice A160 z154.1.length c161) rfl (by kernel_rfl)) ?_
            refine va rfl rfl rfl (q_assign (v := .int .i64 z154.2) rfl (by kernel_rfl)) ?_
            refine WR.nil ?_
            change WC _ _ _ _ _ _
            refine WC.seq ?_
            refine WC.rs ?_
            refine va rfl rfl rfl (q_move (v := .int .i64 z154.2) rfl (by kernel_rfl)) ?_
            refine va rfl rfl rfl (q_neq rfl rfl rfl) ?_
            refine WR.nil ?_
            change WC _ _ _ _ _ _
            refine WC.cif h (by kernel_rfl) (fun hb165 h => ?_) (fun hb165 h => ?_)
            · skip
              refine WC.rs ?_
              refine va rfl rfl rfl (q_assign (v := .bool false) rfl (by kernel_rfl)) ?_
              refine WR.nil ?_
              change WC _ _ _ _ _ _
              refine WC.ret ?_
              intro w hw
              obtain rfl := Option.some.inj h
              subst hF
              exact ⟨by kernel_rfl, hw.fr⟩
            · skip
              refine WC.skip ?_
              change WC _ _ _ _ _ _
              refine WC.rs ?_
              refine va rfl rfl rfl (q_move (v := .slice A135 b_134.length c136) rfl (by kernel_rfl)) ?_
              refine va rfl rfl rfl (q_move (v := .slice A160 z154.1.length c161) rfl (by kernel_rfl)) ?_
              have hc170 := hr163.capz
              intro w hw; obtain ⟨Γ166, hw, hl167, hr168⟩ := hw.seal (i := 0) rfl; have hs169 := hr163.sl hl167 hr168
              refine WR.here (C := CC F Γ166 [[], [(g153, .cells #[.slice A146 ((gt z117 i140).path).length c147, .slice A148 ((gt z117 i140).hashes).length c149, .slice A150 ((gt z117 i140).recs).length c151] 42 (0, 0))], row125, row88]) ?_ hw
              clear hw
              obtain ⟨z171, hz172, h⟩ := bnd h
              refine e_call (is := []) rfl rfl (call_run Tryz.call24 rfl rfl (by kernel_rfl)) rfl (fun w hp => t_firthlaw14_laid (hs137.mono (hl157.trans hl167)) hc138 hs169 hc170 hp hz172) ?_
              rintro Γ173 U175 v176 hl174 ⟨A177, c178, rfl, rfl, hc180, hr179, _⟩
              change WR _ _ _ (CC F Γ173 [[], [(g153, .cells #[.slice A146 ((gt z117 i140).path).length c147, .slice A148 ((gt z117 i140).hashes).length c149, .slice A150 ((gt z117 i140).recs).length c151] 42 (0, 0))], row125, row88]) _ _ (upd _ 105 (.slice A177 z171.length c178))
              refine va rfl rfl rfl (q_assign (v := .slice A177 z171.length c178) rfl (by kernel_rfl)) ?_
              refine WR.nil ?_
              change WC _ _ _ _ _ _
              refine WC.rs ?_
              refine va rfl rfl rfl (q_move (v := .slice A130 a_129.length c131) rfl (by kernel_rfl)) ?_
              refine va rfl rfl rfl (q_move (v := .slice A177 z171.length c178) rfl (by kernel_rfl)) ?_
              refine va rfl rfl rfl (q_fl 0 fld_42_0 rfl rfl rfl) ?_
              refine va rfl rfl rfl (q_ldl (i := 1) (v := .slice A146 ((gt z117 i140).path).length c147) rfl rfl Tryz.isAgg23 rfl rfl) ?_
              refine va rfl rfl rfl (q_fl 2 fld_42_2 rfl rfl rfl) ?_
              refine va rfl rfl rfl (q_ldl (i := 1) (v := .slice A150 ((gt z117 i140).recs).length c151) rfl rfl Tryz.isAgg22 rfl rfl) ?_
              obtain ⟨z181, hz182, h⟩ := bnd h
              refine e_call (is := []) rfl rfl (call_run Tryz.call18 rfl rfl (by kernel_rfl)) rfl (fun w hp => t_mend_Give hr179 hc180 ((hx152 hl145).1.1.2.mono ((hl157.trans hl167).trans hl174)) (hx152 hl145).1.1.1 ((hx152 hl145).1.2.2.2.mono ((hl157.trans hl167).trans hl174)) (hx152 hl145).1.2.2.1 hp hz182) ?_
              rintro Γ183 U185 v186 hl184 ⟨A187, c188, row189, rfl, rfl, hr190, _⟩
              change WR _ _ _ (CC F Γ183 [row189, [], [(g153, .cells #[.slice A146 ((gt z117 i140).path).length c147, .slice A148 ((gt z117 i140).hashes).length c149, .slice A150 ((gt z117 i140).recs).length c151] 42 (0, 0))], row125, row88]) _ _ (upd _ 113 (.slice A187 z181.length c188))
              have hc195 := hr190.capz
              intro w hw; obtain ⟨Γ191, hw, hl192, hr193⟩ := hw.seal (i := 0) rfl; have hs194 := hr190.sl hl192 hr193
              refine WR.here (C := CC F Γ191 [[], [], [(g153, .cells #[.slice A146 ((gt z117 i140).path).length c147, .slice A148 ((gt z117 i140).hashes).length c149, .slice A150 ((gt z117 i140).recs).length c151] 42 (0, 0))], row125, row88]) ?_ hw
              clear hw
              obtain ⟨z196, hz197, h⟩ := bnd h
              refine e_call (is := []) rfl rfl (call_run Tryz.call23 rfl rfl (by kernel_rfl)) rfl (fun w hp => t_mend_Take (hs132.mono ((((hl157.trans hl167).trans hl174).trans hl184).trans hl192)) hc133 hs194 hc195 hp hz197) ?_
              rintro Γ198 U200 v201 hl199 ⟨A202, c203, row204, rfl, rfl, hr205, hr206, _⟩
              change WR _ _ _ (CC F Γ198 [row204, [], [], [(g153, .cells #[.slice A146 ((gt z117 i140).path).length c147, .slice A148 ((gt z117 i140).hashes).length c149, .slice A150 ((gt z117 i140).recs).length c151] 42 (0, 0))], row125, row88]) _ _ (upd _ 114 (.tuple #[.slice A202 z196.1.length c203, .int .i64 z196.2]))
              refine va rfl rfl rfl (q_move (v := .tuple #[.slice A202 z196.1.length c203, .int .i64 z196.2]) rfl (by kernel_rfl)) ?_
              refine va rfl rfl rfl (q_extract (v := .slice A202 z196.1.length c203) rfl rfl rfl) ?_
              refine va rfl rfl rfl (q_extract (v := .int .i64 z196.2) rfl rfl rfl) ?_
              refine va rfl rfl rfl (q_assign (v := .slice A202 z196.1.length c203) rfl (by kernel_rfl)) ?_
              refine va rfl rfl rfl (q_assign (v := .int .i64 z196.2) rfl (by kernel_rfl)) ?_
              refine WR.nil ?_
              change WC _ _ _ _ _ _
              refine WC.seq ?_
              refine WC.rs ?_
              refine va rfl rfl rfl (q_move (v := .int .i64 z196.2) rfl (by kernel_rfl)) ?_
              refine va rfl rfl rfl (q_neq rfl rfl rfl) ?_
              refine WR.nil ?_
              change WC _ _ _ _ _ _
              refine WC.cif h (by kernel_rfl) (fun hb207 h => ?_) (fun hb207 h => ?_)
              · skip
                refine WC.rs ?_
                refine va rfl rfl rfl (q_assign (v := .bool false) rfl (by kernel_rfl)) ?_
                refine WR.nil ?_
                change WC _ _ _ _ _ _
                refine WC.ret ?_
                intro w hw
                obtain rfl := Option.some.inj h
                subst hF
                exact ⟨by kernel_rfl, hw.fr⟩
              · skip
                refine WC.skip ?_
                change WC _ _ _ _ _ _
                refine WC.region ?_
                refine va rfl rfl rfl (q_move (v := .slice A130 a_129.length c131) rfl (by kernel_rfl)) ?_
                refine va rfl rfl rfl (q_move (v := .slice A202 z196.1.length c203) rfl (by kernel_rfl)) ?_
                have hc212 := hr205.capz
                intro w hw; obtain ⟨Γ208, hw, hl209, hr210⟩ := hw.seal (i := 0) rfl; have hs211 := hr205.sl hl209 hr210
                refine WR.here (C := CC F Γ208 [[], [], [], [(g153, .cells #[.slice A146 ((gt z117 i140).path).length c147, .slice A148 ((gt z117 i140).hashes).length c149, .slice A150 ((gt z117 i140).recs).length c151] 42 (0, 0))], row125, row88]) ?_ hw
                clear hw
                obtain ⟨z213, hz214, h⟩ := bnd h
                refine e_call (is := []) rfl rfl (call_run Tryz.call24 rfl rfl (by kernel_rfl)) rfl (fun w hp => t_firthlaw14_laid (hs132.mono ((((((hl157.trans hl167).trans hl174).trans hl184).trans hl192).trans hl199).trans hl209)) hc133 hs211 hc212 hp hz214) ?_
                rintro Γ215 U217 v218 hl216 ⟨A219, c220, rfl, rfl, hc222, hr221, _⟩
                change WR _ _ _ (CC F Γ215 [[], [], [], [(g153, .cells #[.slice A146 ((gt z117 i140).path).length c147, .slice A148 ((gt z117 i140).hashes).length c149, .slice A150 ((gt z117 i140).recs).length c151] 42 (0, 0))], row125, row88]) _ _ (upd _ 121 (.slice A219 z213.length c220))
                refine va rfl rfl rfl (q_assign (v := .slice A219 z213.length c220) rfl (by kernel_rfl)) ?_
                refine WR.nil ?_
                change WC _ _ _ _ _ _
                refine WC.region ?_
                refine va rfl rfl rfl (q_move (v := .int .i64 ((i140 : Nat) : Int)) rfl (by kernel_rfl)) ?_
                refine va rfl rfl rfl (q_add_r (r := ((i140 + 1 : Nat) : Int)) rfl rfl rfl (ctr_len hl145 (hr126.mono hl128).le)) ?_
                refine va rfl rfl rfl (q_assign (v := .int .i64 ((i140 + 1 : Nat) : Int)) rfl (by kernel_rfl)) ?_
                refine WR.nil ?_
                intro w hw
                exact ⟨hl145, (z213, z171), h, Γ215, A219, c220, A177, c178, (sl_ (by kernel_rfl)), (hw.only (is := [4, 4]) rfl), ((((((((hl128.trans hl157).trans hl167).trans hl174).trans hl184).trans hl192).trans hl199).trans hl209).trans hl216), hc222, hr221, hc180, (hr179.mono ((((hl184.trans hl192).trans hl199).trans hl209).trans hl216)), trivial⟩
          · skip
            have h := hge143 (ige hb144)
            refine WC.exit ?_
            change WC _ _ _ _ _ _
            refine WC.region ?_
            refine va rfl rfl rfl (q_move (v := .int .i64 ((i103 : Nat) : Int)) rfl (by kernel_rfl)) ?_
            refine va rfl rfl rfl (q_add_r (r := ((i103 + 1 : Nat) : Int)) rfl rfl rfl (ctr_len hl108 (hr89.mono hl91).le)) ?_
            refine va rfl rfl rfl (q_assign (v := .int .i64 ((i103 + 1 : Nat) : Int)) rfl (by kernel_rfl)) ?_
            refine WR.nil ?_
            intro w hw
            exact ⟨hl108, (a_129, b_134), h, Γ127, A130, c131, A135, c136, (sl_ (by kernel_rfl)), (hw.only (is := [1]) rfl), ((hl91.trans hl120).trans hl128), hc133, hs132, hc138, hs137, trivial⟩
        · skip
          have h := hge106 (ige hb107)
          refine WC.exit ?_
          change WC _ _ _ _ _ _
          refine WC.rs ?_
          refine va rfl rfl rfl (q_move (v := .slice A93 a_92.length c94) rfl (by kernel_rfl)) ?_
          refine va rfl rfl rfl (q_move (v := .slice A98 b_97.length c99) rfl (by kernel_rfl)) ?_
          obtain ⟨z223, hz224, h⟩ := bnd h
          refine vc rfl rfl rfl (q_call (call_run Tryz.call17 rfl rfl (by kernel_rfl)) (fun w hw => t_firthref06_SameRecs (Γ := Gh.all w) (hs95.mono hw.sat.le_all) hc96 (hs100.mono hw.sat.le_all) hc101 (Sat.all w) hz224)) ?_
          refine va rfl rfl rfl (q_move (v := .bool z223) rfl (by kernel_rfl)) ?_
          refine vg1 rfl rfl rfl rfl rfl (fun hg225 => QV.qo (q_move (v := .slice A93 a_92.length c94) rfl (by kernel_rfl))) ?_
          refine vg1 rfl rfl rfl rfl rfl (fun hg226 => QV.qo (q_move (v := .slice A48 z42.1.length c49) rfl (by kernel_rfl))) ?_
          obtain ⟨z228, hz229, h⟩ := bnd h
          refine vg1 rfl rfl rfl rfl rfl (fun hg227 => (q_call (call_run Tryz.call17 rfl rfl (args2 (gu hg227 rfl) (gu hg227 rfl))) (fun w hw => t_firthref06_SameRecs (Γ := Gh.all w) (hs95.mono hw.sat.le_all) hc96 ((hr50.mono (((hl68.trans hl76).trans hl83).trans hl91)).mono hw.sat.le_all) hc51 (Sat.all w) (gc_of hz229 hg227)))) ?_
          refine va rfl rfl rfl (q_pick rfl rfl (pk_and' (g := z223) (y := z228))) ?_
          refine va rfl rfl rfl (q_assign (v := .bool (z223 && z228)) rfl (by kernel_rfl)) ?_
          refine WR.nil ?_
          change WC _ _ _ _ _ _
          refine WC.ret ?_
          intro w hw
          obtain rfl := Option.some.inj h
          subst hF
          exact ⟨by kernel_rfl, hw.fr⟩
end Fw
end Go.Proofs.YtbidmceookkapaaGreat
