/- Walks through the functions that the law reaches (printed by a program). No condition. -/
import Derived.Test.YtiakfgdgafljnaaGreatW4
namespace Go.Proofs.YtiakfgdgafljnaaGreat
namespace Fw
set_option linter.unusedVariables false
set_option linter.unusedSimpArgs false
set_option linter.unusedSectionVars false
open Go.RowKit
set_option maxRecDepth 100000 in
set_option maxHeartbeats 400000 in
theorem t_firthlaw19_PullPlays {Γ : Gh} {w0 : World} {Aown : Option Addr} {cown : Nat} {own : List Rec} (hown : Sl recT Γ Aown own) (hownc : own.length ≤ cown) {Acut : Option Addr} {ccut : Nat} {cut : List Rec} (hcut : Sl recT Γ Acut cut) (hcutc : cut.length ≤ ccut) {Ascript : Option Addr} {cscript : Nat} {script : List Dfirthlaw19_Op} (hscript : Sl dfirthlaw19_OpT Γ Ascript script) (hscriptc : script.length ≤ cscript) (hs : Sat Γ w0) {r : Bool} (h : m_firthlaw19_PullPlays own cut script = some r) : Calls Tryz.prog 4 #[.slice Aown own.length cown, .slice Acut cut.length ccut, .slice Ascript script.length cscript] w0 (fun e w' => e = .returned (.bool r) ∧ Fr no w0 w') := by
  refine calls_of (N := 206) (rs := [6]) (args := [.slice Aown own.length cown, .slice Acut cut.length ccut, .slice Ascript script.length cscript]) Tryz.func4 rfl Tryz.ntmps4 Tryz.results4 rfl ?_
  obtain ⟨F, hF⟩ : ∃ F : Fm, F = ⟨no, w0, Γ⟩ := ⟨_, rfl⟩
  refine WC.here (C := CC F Γ []) ?_ (hF ▸ Cur.start0 hs)
  refine WC.rs ?_
  refine va rfl rfl rfl (q_assign (v := .bool false) rfl (by kernel_rfl)) ?_
  refine WR.nil ?_
  change WC _ _ _ _ _ _
  refine WC.rs ?_
  refine va rfl rfl rfl (q_move (v := .slice Aown own.length cown) rfl (by kernel_rfl)) ?_
  obtain ⟨z1, hz2, h⟩ := bnd h
  refine e_call (is := []) rfl rfl (call_run Tryz.call22 rfl rfl (by kernel_rfl)) rfl (fun w hp => t_pull_NewPull 5 (show I64 5 by decide) hown hownc hp hz2) ?_
  rintro Γ3 U5 v6 hl4 ⟨g7, row8, rfl, rfl, hr9, hr10, _⟩
  change WR _ _ _ (CC F Γ3 [row8]) _ _ (upd _ 22 (.tuple #[optp z1.1 g7, .int .i64 z1.2]))
  refine va rfl rfl rfl (q_move (v := .tuple #[optp z1.1 g7, .int .i64 z1.2]) rfl (by kernel_rfl)) ?_
  refine va rfl rfl rfl (q_extract (v := optp z1.1 g7) rfl rfl rfl) ?_
  refine va rfl rfl rfl (q_extract (v := .int .i64 z1.2) rfl rfl rfl) ?_
  refine va rfl rfl rfl (q_assign (v := optp z1.1 g7) rfl (by kernel_rfl)) ?_
  refine va rfl rfl rfl (q_assign (v := .int .i64 z1.2) rfl (by kernel_rfl)) ?_
  refine WR.nil ?_
  change WC _ _ _ _ _ _
  refine WC.rs ?_
  refine va rfl rfl rfl (q_move (v := .slice Aown own.length cown) rfl (by kernel_rfl)) ?_
  obtain ⟨z11, hz12, h⟩ := bnd h
  refine e_call (is := []) rfl rfl (call_run Tryz.call23 rfl rfl (by kernel_rfl)) rfl (fun w hp => t_firthref19_NewPull 5 (show I64 5 by decide) (hown.mono hl4) hownc hp hz12) ?_
  rintro Γ13 U15 v16 hl14 ⟨g17, row18, rfl, rfl, hr19, hr20, _⟩
  change WR _ _ _ (CC F Γ13 [row18, row8]) _ _ (upd _ 27 (.tuple #[optp z11.1 g17, .int .i64 z11.2]))
  refine va rfl rfl rfl (q_move (v := .tuple #[optp z11.1 g17, .int .i64 z11.2]) rfl (by kernel_rfl)) ?_
  refine va rfl rfl rfl (q_extract (v := optp z11.1 g17) rfl rfl rfl) ?_
  refine va rfl rfl rfl (q_extract (v := .int .i64 z11.2) rfl rfl rfl) ?_
  refine va rfl rfl rfl (q_assign (v := optp z11.1 g17) rfl (by kernel_rfl)) ?_
  refine va rfl rfl rfl (q_assign (v := .int .i64 z11.2) rfl (by kernel_rfl)) ?_
  refine WR.nil ?_
  change WC _ _ _ _ _ _
  refine WC.seq ?_
  refine WC.rs ?_
  obtain ⟨z21, hz22, h⟩ := bnd h
  refine vc rfl rfl rfl (q_call (call_run Tryz.call12 rfl rfl (by kernel_rfl)) (fun w hw => t_firthlaw19_awake (Γ := Gh.all w)  (Sat.all w) hz22)) ?_
  refine va rfl rfl rfl (q_not rfl rfl) ?_
  refine va rfl rfl rfl (q_move (v := .bool (!z21)) rfl (by kernel_rfl)) ?_
  refine vg0 rfl rfl rfl rfl rfl (fun hg23 => QV.qo (q_move (v := .int .i64 z1.2) rfl (by kernel_rfl))) ?_
  refine vg0 rfl rfl rfl rfl rfl (fun hg24 => QV.qo (q_move (v := .int .i64 z11.2) rfl (by kernel_rfl))) ?_
  refine vg0 rfl rfl rfl rfl rfl (fun hg25 => QV.qo (q_neq rfl (gu hg25 rfl) (gu hg25 rfl))) ?_
  refine va rfl rfl rfl (q_pick rfl rfl (pk_or' (g := (!z21)) (y := (z1.2 != z11.2)))) ?_
  refine va rfl rfl rfl (q_move (v := .bool ((!z21) || (z1.2 != z11.2))) rfl (by kernel_rfl)) ?_
  refine vg0 rfl rfl rfl rfl rfl (fun hg26 => QV.qo (q_move (v := optp z1.1 g7) rfl (by kernel_rfl))) ?_
  refine vg0 rfl rfl rfl rfl rfl (fun hg27 => QV.qo (q_opt_eql Tryz.underlying47 rfl (gu hg27 rfl) rfl)) ?_
  refine vg0 rfl rfl rfl rfl rfl (fun hg28 => QV.qo (q_move (v := optp z11.1 g17) rfl (by kernel_rfl))) ?_
  refine vg0 rfl rfl rfl rfl rfl (fun hg29 => QV.qo (q_opt_eql Tryz.underlying50 rfl (gu hg29 rfl) rfl)) ?_
  refine vg0 rfl rfl rfl rfl rfl (fun hg30 => QV.qo (q_bneq Tryz.underlying4 rfl (gu hg30 rfl) (gu hg30 rfl))) ?_
  refine va rfl rfl rfl (q_pick rfl rfl (pk_or' (g := ((!z21) || (z1.2 != z11.2))) (y := ((Option.isNone z1.1) != (Option.isNone z11.1))))) ?_
  refine WR.nil ?_
  change WC _ _ _ _ _ _
  refine WC.cif h (by kernel_rfl) (fun hb31 h => ?_) (fun hb31 h => ?_)
  · skip
    refine WC.rs ?_
    refine va rfl rfl rfl (q_assign (v := .bool false) rfl (by kernel_rfl)) ?_
    refine WR.nil ?_
    change WC _ _ _ _ _ _
    refine WC.ret ?_
    intro w hw
    obtain rfl := Option.some.inj h
    subst hF
    exact ⟨by kernel_rfl, hw.fr⟩
  · skip
    refine WC.skip ?_
    change WC _ _ _ _ _ _
    refine WC.rs ?_
    refine e_buildSlice (cs := #[.int .i64 1]) (e := 2) rfl rfl rfl rfl (fun w => by kernel_rfl) ?_
    intro g32
    refine va rfl rfl rfl (q_move (v := .slice Acut cut.length ccut) rfl (by kernel_rfl)) ?_
    have ho33 : Own intT Γ13 2 [(g32, .cells #[.int .i64 1] 2 (0, 0))] (some ⟨g32, 0, none⟩) 1 [1] := Own.of_blockL (T := intT) (ys := [1]) [[.int .i64 1]] rfl (show 1 ≤ lim by decide) (show Ty.rd intT Γ13 [.int .i64 1] 1 ∧ True from ⟨⟨rfl, (show I64 1 by decide)⟩, trivial⟩)
    have hc38 := ho33.capz
    intro w hw; obtain ⟨Γ34, hw, hl35, hr36⟩ := hw.seal (i := 0) rfl; have hs37 := ho33.sl hl35 hr36
    refine WR.here (C := CC F Γ34 [[], row18, row8]) ?_ hw
    clear hw
    obtain ⟨z39, hz40, h⟩ := bnd h
    refine e_call (is := []) rfl rfl (call_run Tryz.call11 rfl rfl (by kernel_rfl)) rfl (fun w hp => t_firthref19_NewCut 5 (show I64 5 by decide) hs37 hc38 (hcut.mono ((hl4.trans hl14).trans hl35)) hcutc hp hz40) ?_
    rintro Γ41 U43 v44 hl42 ⟨g45, row46, rfl, rfl, hr47, hr48, _⟩
    change WR _ _ _ (CC F Γ41 [row46, [], row18, row8]) _ _ (upd _ 47 (.tuple #[optp z39.1 g45, .int .i64 z39.2]))
    refine va rfl rfl rfl (q_move (v := .tuple #[optp z39.1 g45, .int .i64 z39.2]) rfl (by kernel_rfl)) ?_
    refine va rfl rfl rfl (q_extract (v := optp z39.1 g45) rfl rfl rfl) ?_
    refine va rfl rfl rfl (q_extract (v := .int .i64 z39.2) rfl rfl rfl) ?_
    refine va rfl rfl rfl (q_assign (v := optp z39.1 g45) rfl (by kernel_rfl)) ?_
    refine va rfl rfl rfl (q_assign (v := .int .i64 z39.2) rfl (by kernel_rfl)) ?_
    refine WR.nil ?_
    change WC _ _ _ _ _ _
    refine WC.seq ?_
    refine WC.rs ?_
    refine va rfl rfl rfl (q_move (v := optp z1.1 g7) rfl (by kernel_rfl)) ?_
    refine va rfl rfl rfl (q_opt_eql Tryz.underlying47 rfl rfl rfl) ?_
    refine va rfl rfl rfl (q_move (v := .bool (Option.isNone z1.1)) rfl (by kernel_rfl)) ?_
    refine vg0 rfl rfl rfl rfl rfl (fun hg49 => QV.qo (q_move (v := optp z11.1 g17) rfl (by kernel_rfl))) ?_
    refine vg0 rfl rfl rfl rfl rfl (fun hg50 => QV.qo (q_opt_eql Tryz.underlying50 rfl (gu hg50 rfl) rfl)) ?_
    refine va rfl rfl rfl (q_pick rfl rfl (pk_or' (g := (Option.isNone z1.1)) (y := (Option.isNone z11.1)))) ?_
    refine va rfl rfl rfl (q_move (v := .bool ((Option.isNone z1.1) || (Option.isNone z11.1))) rfl (by kernel_rfl)) ?_
    refine vg0 rfl rfl rfl rfl rfl (fun hg51 => QV.qo (q_move (v := optp z39.1 g45) rfl (by kernel_rfl))) ?_
    refine vg0 rfl rfl rfl rfl rfl (fun hg52 => QV.qo (q_opt_eql Tryz.underlying29 rfl (gu hg52 rfl) rfl)) ?_
    refine va rfl rfl rfl (q_pick rfl rfl (pk_or' (g := ((Option.isNone z1.1) || (Option.isNone z11.1))) (y := (Option.isNone z39.1)))) ?_
    refine WR.nil ?_
    change WC _ _ _ _ _ _
    refine WC.cif h (by kernel_rfl) (fun hb53 h => ?_) (fun hb53 h => ?_)
    · skip
      refine WC.rs ?_
      refine va rfl rfl rfl (q_assign (v := .bool true) rfl (by kernel_rfl)) ?_
      refine WR.nil ?_
      change WC _ _ _ _ _ _
      refine WC.ret ?_
      intro w hw
      obtain rfl := Option.some.inj h
      subst hF
      exact ⟨by kernel_rfl, hw.fr⟩
    · skip
      obtain ⟨z54, hz55, h⟩ := bnd h
      have ho56 := optob_some hr47 hz55
      obtain ⟨z57, hz58, h⟩ := bnd h
      have ho59 := optob_some (optob_mono hr19 (fun _ h => h.mono (hl35.trans hl42))) hz58
      obtain ⟨z60, hz61, h⟩ := bnd h
      have ho62 := optob_some (optob_mono hr9 (fun _ h => h.mono ((hl14.trans hl35).trans hl42))) hz61
      refine WC.skip ?_
      change WC _ _ _ _ _ _
      refine WC.seq ?_
      refine WC.rs ?_
      refine va rfl rfl rfl (q_assign (v := .int .i64 0) rfl (by kernel_rfl)) ?_
      refine WR.nil ?_
      change WC _ _ _ _ _ _
      refine WC.block ?_
      refine WC.forI h (fun (i72 : Nat) (s : Ofirthref19_Pull × Opull_Pull) σ w => match s with | (o65, o68) => ∃ (Γ63 : Gh), ∃ (row66 : Rowb), ∃ (row69 : Rowb), slots σ [(2, .slice Ascript script.length cscript), (7, optp z1.1 g7), (9, optp z11.1 g17), (11, optp z39.1 g45), (13, .int .i64 ((i72 : Nat) : Int))] ∧ CC F Γ63 [row46, row66, row69] w ∧ Gh.le Γ41 Γ63 ∧ Ofirthref19_Pull.ob 59 Γ63 g17 row66 o65 ∧ Opull_Pull.ob 97 Γ63 g7 row69 o68 ∧ True) ?_ ?_
      · skip
        intro w hw
        exact ⟨Γ41, row18, row8, (sl_ (by kernel_rfl)), (hw.only (is := [0, 1, 1]) rfl), (Gh.refl _), ho59, ho62, trivial⟩
      rintro f71 i72 ⟨o65, o68⟩ σ w hi73 hlt74 hge75 ⟨Γ63, row66, row69, hsl, hw, hl64, ho67, ho70, -⟩
      refine Wpt.slots hsl ?_
      refine WC.here (C := CC F Γ63 [row46, row66, row69]) ?_ hw
      clear hw hsl
      refine WC.seq ?_
      refine WC.rs ?_
      refine va rfl rfl rfl (q_move (v := .int .i64 ((i72 : Nat) : Int)) rfl (by kernel_rfl)) ?_
      refine va rfl rfl rfl (q_move (v := .slice Ascript script.length cscript) rfl (by kernel_rfl)) ?_
      refine va rfl rfl rfl (q_len_slice rfl Tryz.underlying46 rfl) ?_
      refine va rfl rfl rfl (q_lss rfl rfl rfl) ?_
      refine WR.nil ?_
      change WC _ _ _ _ _ _
      refine WC.cond (b := (decide (((i72 : Nat) : Int) < ((script.length : Nat) : Int)))) (by kernel_rfl) (fun hb76 => ?_) (fun hb76 => ?_)
      · skip
        have hl77 := ilt hb76
        have h := hlt74 hl77
        refine WC.skip ?_
        change WC _ _ _ _ _ _
        refine WC.seq ?_
        refine WC.block ?_
        refine WC.rs ?_
        refine va rfl rfl rfl (q_move (v := .slice Ascript script.length cscript) rfl (by kernel_rfl)) ?_
        refine va rfl rfl rfl (q_move (v := .int .i64 ((i72 : Nat) : Int)) rfl (by kernel_rfl)) ?_
        refine va rfl rfl rfl (q_ixn (i := i72) Tryz.underlying46 Tryz.sizeOf54 rfl rfl rfl hl77 ((hscript.mono ((((hl4.trans hl14).trans hl35).trans hl42).trans hl64)).some_ hl77)) ?_
        obtain ⟨A78, c79, A80, c81, A82, c83, A84, c85, hx86⟩ := (hscript.mono ((((hl4.trans hl14).trans hl35).trans hl42).trans hl64)).dfirthlaw19_OpT_at i72
        refine va rfl rfl rfl (q_lda (c := 0) (vs := [.int .i64 (gt script i72).kind, .slice A78 ((gt script i72).vec).length c79, .slice A80 ((gt script i72).path).length c81, .slice A82 ((gt script i72).hashes).length c83, .slice A84 ((gt script i72).list).length c85]) (hx86 hl77).2 rfl Tryz.isAgg54 Tryz.sizeOf54 rfl rfl rfl) ?_
        refine e_alloc Tryz.zeroValue54 rfl rfl rfl rfl ?_
        intro g87
        refine e_st (i := 0) (v := .agg #[.int .i64 (gt script i72).kind, .slice A78 ((gt script i72).vec).length c79, .slice A80 ((gt script i72).path).length c81, .slice A82 ((gt script i72).hashes).length c83, .slice A84 ((gt script i72).list).length c85]) (new := #[.int .i64 (gt script i72).kind, .slice A78 ((gt script i72).vec).length c79, .slice A80 ((gt script i72).path).length c81, .slice A82 ((gt script i72).hashes).length c83, .slice A84 ((gt script i72).list).length c85]) rfl Tryz.sizeOf54 rfl rfl rfl rfl (by kernel_rfl) rfl rfl rfl rfl ?_
        refine WR.nil ?_
        change WC _ _ _ _ _ _
        refine WC.seq ?_
        refine WC.seq ?_
        intro w hw; have h088 := hw.le
        refine WC.here (C := CC F Γ63 [[(g87, .cells #[.int .i64 (gt script i72).kind, .slice A78 ((gt script i72).vec).length c79, .slice A80 ((gt script i72).path).length c81, .slice A82 ((gt script i72).hashes).length c83, .slice A84 ((gt script i72).list).length c85] 54 (0, 0))], row46, row66, row69]) ?_ hw; clear hw
        refine WC.held (CC F Γ63 [[(g87, .cells #[.int .i64 (gt script i72).kind, .slice A78 ((gt script i72).vec).length c79, .slice A80 ((gt script i72).path).length c81, .slice A82 ((gt script i72).hashes).length c83, .slice A84 ((gt script i72).list).length c85] 54 (0, 0))]]) (by kernel_rfl) (fun w hw => hw.drawn _) ?_
        change WH _ _ _ _ (CC F Γ63 [[(g87, .cells #[.int .i64 (gt script i72).kind, .slice A78 ((gt script i72).vec).length c79, .slice A80 ((gt script i72).path).length c81, .slice A82 ((gt script i72).hashes).length c83, .slice A84 ((gt script i72).list).length c85] 54 (0, 0))], row46, row66, row69]) _ 18 #[false, false, false, false, false, false, false, false, false, false, false, false, false, false, false, false, false, false] _
        refine ht (i := 0) rfl (by kernel_rfl) rfl rfl rfl (fun w hw => hw.back (Gh.refl _) h088 (.cons_cons _ (.cons _ (.cons _ (.cons _ .slnil))))) (q_fl 0 fld_54_0 rfl rfl rfl) ?_
        refine ht (i := 1) rfl (by kernel_rfl) rfl rfl rfl (fun w hw => hw.back (Gh.refl _) h088 (.cons_cons _ (.cons _ (.cons _ (.cons _ .slnil))))) (q_ldl (i := 0) (v := .int .i64 (gt script i72).kind) rfl rfl Tryz.isAgg3 rfl rfl) ?_
        refine ht (i := 2) rfl (by kernel_rfl) rfl rfl rfl (fun w hw => hw.back (Gh.refl _) h088 (.cons_cons _ (.cons _ (.cons _ (.cons _ .slnil))))) (q_eql rfl rfl rfl) ?_
        refine ht (i := 3) rfl (by kernel_rfl) rfl rfl rfl (fun w hw => hw.back (Gh.refl _) h088 (.cons_cons _ (.cons _ (.cons _ (.cons _ .slnil))))) (q_move (v := .bool ((gt script i72).kind == 1)) rfl (by kernel_rfl)) ?_
        refine hg1 (i := 4) rfl (by kernel_rfl) rfl rfl rfl rfl rfl (fun w hw => hw.back (Gh.refl _) h088 (.cons_cons _ (.cons _ (.cons _ (.cons _ .slnil))))) (fun hg89 => (q_move (v := .pointer (some ⟨g7, 0, none⟩)) rfl (optp_some rfl hz61))) ?_
        refine hg1 (i := 5) rfl (by kernel_rfl) rfl rfl rfl rfl rfl (fun w hw => hw.back (Gh.refl _) h088 (.cons_cons _ (.cons _ (.cons _ (.cons _ .slnil))))) (fun hg90 => (q_fl 1 fld_54_1 rfl rfl rfl)) ?_
        refine hg1 (i := 6) rfl (by kernel_rfl) rfl rfl rfl rfl rfl (fun w hw => hw.back (Gh.refl _) h088 (.cons_cons _ (.cons _ (.cons _ (.cons _ .slnil))))) (fun hg91 => (q_ldl (i := 0) (v := .slice A78 ((gt script i72).vec).length c79) rfl rfl Tryz.isAgg22 (gu hg91 rfl) rfl)) ?_
        refine hg1 (i := 7) rfl (by kernel_rfl) rfl rfl rfl rfl rfl (fun w hw => hw.back (Gh.refl _) h088 (.cons_cons _ (.cons _ (.cons _ (.cons _ .slnil))))) (fun hg92 => (q_fl 3 fld_54_3 rfl rfl rfl)) ?_
        refine hg1 (i := 8) rfl (by kernel_rfl) rfl rfl rfl rfl rfl (fun w hw => hw.back (Gh.refl _) h088 (.cons_cons _ (.cons _ (.cons _ (.cons _ .slnil))))) (fun hg93 => (q_ldl (i := 0) (v := .slice A82 ((gt script i72).hashes).length c83) rfl rfl Tryz.isAgg33 (gu hg93 rfl) rfl)) ?_
        refine hg1 (i := 10) rfl (by kernel_rfl) rfl rfl rfl rfl rfl (fun w hw => hw.back (Gh.refl _) h088 (.cons_cons _ (.cons _ (.cons _ (.cons _ .slnil))))) (fun hg94 => (q_move (v := .pointer (some ⟨g17, 0, none⟩)) rfl (optp_some rfl hz58))) ?_
        refine hg1 (i := 11) rfl (by kernel_rfl) rfl rfl rfl rfl rfl (fun w hw => hw.back (Gh.refl _) h088 (.cons_cons _ (.cons _ (.cons _ (.cons _ .slnil))))) (fun hg95 => (q_fl 1 fld_54_1 rfl rfl rfl)) ?_
        refine hg1 (i := 12) rfl (by kernel_rfl) rfl rfl rfl rfl rfl (fun w hw => hw.back (Gh.refl _) h088 (.cons_cons _ (.cons _ (.cons _ (.cons _ .slnil))))) (fun hg96 => (q_ldl (i := 0) (v := .slice A78 ((gt script i72).vec).length c79) rfl rfl Tryz.isAgg22 (gu hg96 rfl) rfl)) ?_
        refine hg1 (i := 13) rfl (by kernel_rfl) rfl rfl rfl rfl rfl (fun w hw => hw.back (Gh.refl _) h088 (.cons_cons _ (.cons _ (.cons _ (.cons _ .slnil))))) (fun hg97 => (q_fl 3 fld_54_3 rfl rfl rfl)) ?_
        refine hg1 (i := 14) rfl (by kernel_rfl) rfl rfl rfl rfl rfl (fun w hw => hw.back (Gh.refl _) h088 (.cons_cons _ (.cons _ (.cons _ (.cons _ .slnil))))) (fun hg98 => (q_ldl (i := 0) (v := .slice A82 ((gt script i72).hashes).length c83) rfl rfl Tryz.isAgg33 (gu hg98 rfl) rfl)) ?_
        refine (Bool.eq_false_or_eq_true ((gt script i72).kind == 1)).elim (fun hb99 => ?_) (fun hb99 => ?_)
        · skip
          have h := bt hb99 h
          refine WH.lone (i := 9) (by kernel_rfl) rfl ?_
          refine WR.sat (c0 := true) (g := ((gt script i72).kind == 1)) rfl rfl rfl hb99 ?_
          obtain ⟨z100, hz101, h⟩ := bnd h
          refine e_call (is := [3]) rfl rfl (call_run Tryz.call24 rfl rfl (args3 (gu hb99 rfl) (gu hb99 rfl) (gu hb99 rfl))) rfl (fun w hp => t_pull_Pull_Begin ho70 (hx86 hl77).1.2.1.2 (hx86 hl77).1.2.1.1 (hx86 hl77).1.2.2.2.1.2 (hx86 hl77).1.2.2.2.1.1 hp hz101) ?_
          rintro Γ102 U104 v105 hl103 ⟨row106, rfl, rfl, hr107, _⟩
          change WR _ _ _ (CC F Γ102 [row106, [(g87, .cells #[.int .i64 (gt script i72).kind, .slice A78 ((gt script i72).vec).length c79, .slice A80 ((gt script i72).path).length c81, .slice A82 ((gt script i72).hashes).length c83, .slice A84 ((gt script i72).list).length c85] 54 (0, 0))], row46, row66]) _ _ (upd _ 79 (.bool z100.2))
          refine WR.nil ?_
          refine WH.next (fun w hw => hw.back hl103 h088 (.cons _ (.cons_cons _ (.cons _ (.cons _ .slnil))))) ?_
          refine WH.lone (i := 15) (by kernel_rfl) rfl ?_
          refine WR.sat (c0 := true) (g := ((gt script i72).kind == 1)) rfl rfl rfl hb99 ?_
          obtain ⟨z108, hz109, h⟩ := bnd h
          refine e_call (is := [3]) rfl rfl (call_run Tryz.call25 rfl rfl (args3 (gu hb99 rfl) (gu hb99 rfl) (gu hb99 rfl))) rfl (fun w hp => t_firthref19_Pull_Begin (ho67.mono hl103) ((hx86 hl77).1.2.1.2.mono hl103) (hx86 hl77).1.2.1.1 ((hx86 hl77).1.2.2.2.1.2.mono hl103) (hx86 hl77).1.2.2.2.1.1 hp hz109) ?_
          rintro Γ110 U112 v113 hl111 ⟨row114, rfl, rfl, hr115, _⟩
          change WR _ _ _ (CC F Γ110 [row114, row106, [(g87, .cells #[.int .i64 (gt script i72).kind, .slice A78 ((gt script i72).vec).length c79, .slice A80 ((gt script i72).path).length c81, .slice A82 ((gt script i72).hashes).length c83, .slice A84 ((gt script i72).list).length c85] 54 (0, 0))], row46]) _ _ (upd _ 85 (.bool z108.2))
          refine WR.nil ?_
          refine WH.next (fun w hw => hw.back (hl103.trans hl111) h088 (.cons _ (.cons _ (.cons_cons _ (.cons _ .slnil))))) ?_
          refine hg1 (i := 16) rfl (by kernel_rfl) rfl rfl rfl rfl rfl (fun w hw => hw.back (hl103.trans hl111) h088 (.cons _ (.cons _ (.cons_cons _ (.cons _ .slnil))))) (fun hg116 => (q_bneq Tryz.underlying4 rfl rfl rfl)) ?_
          refine ht (i := 17) rfl (by kernel_rfl) rfl rfl rfl (fun w hw => hw.back (hl103.trans hl111) h088 (.cons _ (.cons _ (.cons_cons _ (.cons _ .slnil))))) (q_pick_t (v := .bool (z100.2 != z108.2)) rfl rfl hb99 (gu hb99 rfl)) ?_
          refine WH.done (by kernel_rfl) ?_
          change WC _ _ _ _ _ _
          refine WC.cif h (by kernel_rfl) (fun hb117 h => ?_) (fun hb117 h => ?_)
          · skip
            refine WC.rs ?_
            refine va rfl rfl rfl (q_assign (v := .bool false) rfl (by kernel_rfl)) ?_
            refine WR.nil ?_
            change WC _ _ _ _ _ _
            refine WC.ret ?_
            intro w hw
            obtain rfl := Option.some.inj h
            subst hF
            exact ⟨by kernel_rfl, hw.fr⟩
          · skip
            refine WC.skip ?_
            change WC _ _ _ _ _ _
            refine WC.seq ?_
            refine WC.seq ?_
            intro w hw; have h0118 := hw.le
            refine WC.here (C := CC F Γ110 [row114, row106, [(g87, .cells #[.int .i64 (gt script i72).kind, .slice A78 ((gt script i72).vec).length c79, .slice A80 ((gt script i72).path).length c81, .slice A82 ((gt script i72).hashes).length c83, .slice A84 ((gt script i72).list).length c85] 54 (0, 0))], row46]) ?_ hw; clear hw
            refine WC.held (CC F Γ110 [[(g87, .cells #[.int .i64 (gt script i72).kind, .slice A78 ((gt script i72).vec).length c79, .slice A80 ((gt script i72).path).length c81, .slice A82 ((gt script i72).hashes).length c83, .slice A84 ((gt script i72).list).length c85] 54 (0, 0))]]) (by kernel_rfl) (fun w hw => hw.drawn _) ?_
            change WH _ _ _ _ (CC F Γ110 [row114, row106, [(g87, .cells #[.int .i64 (gt script i72).kind, .slice A78 ((gt script i72).vec).length c79, .slice A80 ((gt script i72).path).length c81, .slice A82 ((gt script i72).hashes).length c83, .slice A84 ((gt script i72).list).length c85] 54 (0, 0))], row46]) _ 22 #[false, false, false, false, false, false, false, false, false, false, false, false, false, false, false, false, false, false, false, false, false, false] _
            refine ht (i := 0) rfl (by kernel_rfl) rfl rfl rfl (fun w hw => hw.back (Gh.refl _) h0118 (.cons _ (.cons _ (.cons_cons _ (.cons _ .slnil))))) (q_fl 0 fld_54_0 rfl rfl rfl) ?_
            refine ht (i := 1) rfl (by kernel_rfl) rfl rfl rfl (fun w hw => hw.back (Gh.refl _) h0118 (.cons _ (.cons _ (.cons_cons _ (.cons _ .slnil))))) (q_ldl (i := 0) (v := .int .i64 (gt script i72).kind) rfl rfl Tryz.isAgg3 rfl rfl) ?_
            refine ht (i := 2) rfl (by kernel_rfl) rfl rfl rfl (fun w hw => hw.back (Gh.refl _) h0118 (.cons _ (.cons _ (.cons_cons _ (.cons _ .slnil))))) (q_eql rfl rfl rfl) ?_
            refine ht (i := 3) rfl (by kernel_rfl) rfl rfl rfl (fun w hw => hw.back (Gh.refl _) h0118 (.cons _ (.cons _ (.cons_cons _ (.cons _ .slnil))))) (q_move (v := .bool ((gt script i72).kind == 2)) rfl (by kernel_rfl)) ?_
            refine hg1 (i := 4) rfl (by kernel_rfl) rfl rfl rfl rfl rfl (fun w hw => hw.back (Gh.refl _) h0118 (.cons _ (.cons _ (.cons_cons _ (.cons _ .slnil))))) (fun hg119 => (q_move (v := .pointer (some ⟨g7, 0, none⟩)) rfl (optp_some rfl hz61))) ?_
            refine hg1 (i := 5) rfl (by kernel_rfl) rfl rfl rfl rfl rfl (fun w hw => hw.back (Gh.refl _) h0118 (.cons _ (.cons _ (.cons_cons _ (.cons _ .slnil))))) (fun hg120 => (q_fl 2 fld_54_2 rfl rfl rfl)) ?_
            refine hg1 (i := 6) rfl (by kernel_rfl) rfl rfl rfl rfl rfl (fun w hw => hw.back (Gh.refl _) h0118 (.cons _ (.cons _ (.cons_cons _ (.cons _ .slnil))))) (fun hg121 => (q_ldl (i := 0) (v := .slice A80 ((gt script i72).path).length c81) rfl rfl Tryz.isAgg24 (gu hg121 rfl) rfl)) ?_
            refine hg1 (i := 7) rfl (by kernel_rfl) rfl rfl rfl rfl rfl (fun w hw => hw.back (Gh.refl _) h0118 (.cons _ (.cons _ (.cons_cons _ (.cons _ .slnil))))) (fun hg122 => (q_fl 3 fld_54_3 rfl rfl rfl)) ?_
            refine hg1 (i := 8) rfl (by kernel_rfl) rfl rfl rfl rfl rfl (fun w hw => hw.back (Gh.refl _) h0118 (.cons _ (.cons _ (.cons_cons _ (.cons _ .slnil))))) (fun hg123 => (q_ldl (i := 0) (v := .slice A82 ((gt script i72).hashes).length c83) rfl rfl Tryz.isAgg33 (gu hg123 rfl) rfl)) ?_
            refine hg1 (i := 9) rfl (by kernel_rfl) rfl rfl rfl rfl rfl (fun w hw => hw.back (Gh.refl _) h0118 (.cons _ (.cons _ (.cons_cons _ (.cons _ .slnil))))) (fun hg124 => (q_fl 4 fld_54_4 rfl rfl rfl)) ?_
            refine hg1 (i := 10) rfl (by kernel_rfl) rfl rfl rfl rfl rfl (fun w hw => hw.back (Gh.refl _) h0118 (.cons _ (.cons _ (.cons_cons _ (.cons _ .slnil))))) (fun hg125 => (q_ldl (i := 0) (v := .slice A84 ((gt script i72).list).length c85) rfl rfl Tryz.isAgg23 (gu hg125 rfl) rfl)) ?_
            refine hg1 (i := 12) rfl (by kernel_rfl) rfl rfl rfl rfl rfl (fun w hw => hw.back (Gh.refl _) h0118 (.cons _ (.cons _ (.cons_cons _ (.cons _ .slnil))))) (fun hg126 => (q_move (v := .pointer (some ⟨g17, 0, none⟩)) rfl (optp_some rfl hz58))) ?_
            refine hg1 (i := 13) rfl (by kernel_rfl) rfl rfl rfl rfl rfl (fun w hw => hw.back (Gh.refl _) h0118 (.cons _ (.cons _ (.cons_cons _ (.cons _ .slnil))))) (fun hg127 => (q_fl 2 fld_54_2 rfl rfl rfl)) ?_
            refine hg1 (i := 14) rfl (by kernel_rfl) rfl rfl rfl rfl rfl (fun w hw => hw.back (Gh.refl _) h0118 (.cons _ (.cons _ (.cons_cons _ (.cons _ .slnil))))) (fun hg128 => (q_ldl (i := 0) (v := .slice A80 ((gt script i72).path).length c81) rfl rfl Tryz.isAgg24 (gu hg128 rfl) rfl)) ?_
            refine hg1 (i := 15) rfl (by kernel_rfl) rfl rfl rfl rfl rfl (fun w hw => hw.back (Gh.refl _) h0118 (.cons _ (.cons _ (.cons_cons _ (.cons _ .slnil))))) (fun hg129 => (q_fl 3 fld_54_3 rfl rfl rfl)) ?_
            refine hg1 (i := 16) rfl (by kernel_rfl) rfl rfl rfl rfl rfl (fun w hw => hw.back (Gh.refl _) h0118 (.cons _ (.cons _ (.cons_cons _ (.cons _ .slnil))))) (fun hg130 => (q_ldl (i := 0) (v := .slice A82 ((gt script i72).hashes).length c83) rfl rfl Tryz.isAgg33 (gu hg130 rfl) rfl)) ?_
            refine hg1 (i := 17) rfl (by kernel_rfl) rfl rfl rfl rfl rfl (fun w hw => hw.back (Gh.refl _) h0118 (.cons _ (.cons _ (.cons_cons _ (.cons _ .slnil))))) (fun hg131 => (q_fl 4 fld_54_4 rfl rfl rfl)) ?_
            refine hg1 (i := 18) rfl (by kernel_rfl) rfl rfl rfl rfl rfl (fun w hw => hw.back (Gh.refl _) h0118 (.cons _ (.cons _ (.cons_cons _ (.cons _ .slnil))))) (fun hg132 => (q_ldl (i := 0) (v := .slice A84 ((gt script i72).list).length c85) rfl rfl Tryz.isAgg23 (gu hg132 rfl) rfl)) ?_
            refine (Bool.eq_false_or_eq_true ((gt script i72).kind == 2)).elim (fun hb133 => ?_) (fun hb133 => ?_)
            · skip
              have h := bt hb133 h
              refine WH.lone (i := 11) (by kernel_rfl) rfl ?_
              refine WR.sat (c0 := true) (g := ((gt script i72).kind == 2)) rfl rfl rfl hb133 ?_
              obtain ⟨z134, hz135, h⟩ := bnd h
              refine e_call (is := [1]) rfl rfl (call_run Tryz.call26 rfl rfl (args4 (gu hb133 rfl) (gu hb133 rfl) (gu hb133 rfl) (gu hb133 rfl))) rfl (fun w hp => t_pull_Pull_Tell (hr107.mono hl111) ((hx86 hl77).1.2.2.1.2.mono (hl103.trans hl111)) (hx86 hl77).1.2.2.1.1 ((hx86 hl77).1.2.2.2.1.2.mono (hl103.trans hl111)) (hx86 hl77).1.2.2.2.1.1 ((hx86 hl77).1.2.2.2.2.2.mono (hl103.trans hl111)) (hx86 hl77).1.2.2.2.2.1 hp hz135) ?_
              rintro Γ136 U138 v139 hl137 ⟨row140, rfl, rfl, hr141, _⟩
              change WR _ _ _ (CC F Γ136 [row140, row114, [(g87, .cells #[.int .i64 (gt script i72).kind, .slice A78 ((gt script i72).vec).length c79, .slice A80 ((gt script i72).path).length c81, .slice A82 ((gt script i72).hashes).length c83, .slice A84 ((gt script i72).list).length c85] 54 (0, 0))], row46]) _ _ (upd _ 99 (.bool z134.2))
              refine WR.nil ?_
              refine WH.next (fun w hw => hw.back hl137 h0118 (.cons _ (.cons _ (.cons_cons _ (.cons _ .slnil))))) ?_
              refine WH.lone (i := 19) (by kernel_rfl) rfl ?_
              refine WR.sat (c0 := true) (g := ((gt script i72).kind == 2)) rfl rfl rfl hb133 ?_
              obtain ⟨z142, hz143, h⟩ := bnd h
              refine e_call (is := [1]) rfl rfl (call_run Tryz.call27 rfl rfl (args4 (gu hb133 rfl) (gu hb133 rfl) (gu hb133 rfl) (gu hb133 rfl))) rfl (fun w hp => t_firthref19_Pull_Tell (hr115.mono hl137) ((hx86 hl77).1.2.2.1.2.mono ((hl103.trans hl111).trans hl137)) (hx86 hl77).1.2.2.1.1 ((hx86 hl77).1.2.2.2.1.2.mono ((hl103.trans hl111).trans hl137)) (hx86 hl77).1.2.2.2.1.1 ((hx86 hl77).1.2.2.2.2.2.mono ((hl103.trans hl111).trans hl137)) (hx86 hl77).1.2.2.2.2.1 hp hz143) ?_
              rintro Γ144 U146 v147 hl145 ⟨row148, rfl, rfl, hr149, _⟩
              change WR _ _ _ (CC F Γ144 [row148, row140, [(g87, .cells #[.int .i64 (gt script i72).kind, .slice A78 ((gt script i72).vec).length c79, .slice A80 ((gt script i72).path).length c81, .slice A82 ((gt script i72).hashes).length c83, .slice A84 ((gt script i72).list).length c85] 54 (0, 0))], row46]) _ _ (upd _ 107 (.bool z142.2))
              refine WR.nil ?_
              refine WH.next (fun w hw => hw.back (hl137.trans hl145) h0118 (.cons _ (.cons _ (.cons_cons _ (.cons _ .slnil))))) ?_
              refine hg1 (i := 20) rfl (by kernel_rfl) rfl rfl rfl rfl rfl (fun w hw => hw.back (hl137.trans hl145) h0118 (.cons _ (.cons _ (.cons_cons _ (.cons _ .slnil))))) (fun hg150 => (q_bneq Tryz.underlying4 rfl rfl rfl)) ?_
              refine ht (i := 21) rfl (by kernel_rfl) rfl rfl rfl (fun w hw => hw.back (hl137.trans hl145) h0118 (.cons _ (.cons _ (.cons_cons _ (.cons _ .slnil))))) (q_pick_t (v := .bool (z134.2 != z142.2)) rfl rfl hb133 (gu hb133 rfl)) ?_
              refine WH.done (by kernel_rfl) ?_
              change WC _ _ _ _ _ _
              refine WC.cif h (by kernel_rfl) (fun hb151 h => ?_) (fun hb151 h => ?_)
              · skip
                refine WC.rs ?_
                refine va rfl rfl rfl (q_assign (v := .bool false) rfl (by kernel_rfl)) ?_
                refine WR.nil ?_
                change WC _ _ _ _ _ _
                refine WC.ret ?_
                intro w hw
                obtain rfl := Option.some.inj h
                subst hF
                exact ⟨by kernel_rfl, hw.fr⟩
              · skip
                refine WC.skip ?_
                change WC _ _ _ _ _ _
                refine WC.cut (fun σ w => ∃ (o154 : Ofirthref19_Pull), ∃ (o157 : Opull_Pull), ∃ (Γ152 : Gh), ∃ (row155 : Rowb), ∃ (row158 : Rowb), m_firthlaw19_PullPlays_j50 f71 o154 o157 = some r ∧ slots σ [(2, .slice Ascript script.length cscript), (7, optp z1.1 g7), (9, optp z11.1 g17), (11, optp z39.1 g45), (13, .int .i64 ((i72 : Nat) : Int))] ∧ CC F Γ152 [row155, row158, row46] w ∧ Gh.le Γ144 Γ152 ∧ Ofirthref19_Pull.ob 59 Γ152 g17 row155 o154 ∧ Opull_Pull.ob 97 Γ152 g7 row158 o157 ∧ True) ?_ ?_
                · skip
                  refine WC.rs ?_
                  refine va rfl rfl rfl (q_fl 0 fld_54_0 rfl rfl rfl) ?_
                  refine va rfl rfl rfl (q_ldl (i := 2) (v := .int .i64 (gt script i72).kind) rfl rfl Tryz.isAgg3 rfl rfl) ?_
                  refine va rfl rfl rfl (q_eql rfl rfl rfl) ?_
                  refine va rfl rfl rfl (q_move (v := .bool ((gt script i72).kind == 3)) rfl (by kernel_rfl)) ?_
                  refine vg0 rfl rfl rfl rfl rfl (fun hg160 => QV.qo (q_fl 0 fld_54_0 rfl rfl rfl)) ?_
                  refine vg0 rfl rfl rfl rfl rfl (fun hg161 => QV.qo (q_ldl (i := 2) (v := .int .i64 (gt script i72).kind) rfl rfl Tryz.isAgg3 (gu hg161 rfl) rfl)) ?_
                  refine vg0 rfl rfl rfl rfl rfl (fun hg162 => QV.qo (q_eql rfl (gu hg162 rfl) rfl)) ?_
                  refine va rfl rfl rfl (q_pick rfl rfl (pk_or' (g := ((gt script i72).kind == 3)) (y := ((gt script i72).kind == 4)))) ?_
                  refine va rfl rfl rfl (q_move (v := .bool (((gt script i72).kind == 3) || ((gt script i72).kind == 4))) rfl (by kernel_rfl)) ?_
                  refine vg1 rfl rfl rfl rfl rfl (fun hg163 => QV.qo (q_move (v := .pointer (some ⟨g17, 0, none⟩)) rfl (optp_some rfl hz58))) ?_
                  refine vg1 rfl rfl rfl rfl rfl (fun hg164 => QV.qo (q_nil (A := some ⟨g17, 0, none⟩) rfl (gu hg164 rfl) rfl)) ?_
                  refine vg1 rfl rfl rfl rfl rfl (fun hg165 => QV.qo (q_fl 4 fld_59_4 rfl (gu hg165 rfl) rfl)) ?_
                  have hq := hr149
                  obtain ⟨A1_167, c1_167, A3_167, c3_167, r3_167, A4_167, c4_167, r4_167, A5_167, c5_167, hrow_167, ho0_167, ho1_167, ho2_167, ho3_167, ho4_167, ho5_167, ho6_167, -⟩ := hq
                  intro w hw; have hw := hw.unfold (i := 0) rfl hrow_167
                  refine WR.here (C := CC F Γ144 [[(g17, .cells #[.int .i64 z142.1.id, .slice A1_167 z142.1.own.length c1_167, .bool z142.1.begun, .slice A3_167 z142.1.vec.length c3_167, .slice A4_167 z142.1.paths.length c4_167, .slice A5_167 z142.1.in_.length c5_167] 59 (0, 0))], r3_167, r4_167, row140, [(g87, .cells #[.int .i64 (gt script i72).kind, .slice A78 ((gt script i72).vec).length c79, .slice A80 ((gt script i72).path).length c81, .slice A82 ((gt script i72).hashes).length c83, .slice A84 ((gt script i72).list).length c85] 54 (0, 0))], row46]) ?_ hw
                  clear hw
                  refine vg1 rfl rfl rfl rfl rfl (fun hg168 => QV.qo (q_ldl (i := 0) (v := .slice A4_167 z142.1.paths.length c4_167) rfl rfl Tryz.isAgg57 (gu hg168 rfl) rfl)) ?_
                  refine vg1 rfl rfl rfl rfl rfl (fun hg169 => QV.qo (q_len_slice rfl Tryz.underlying57 (gu hg169 rfl))) ?_
                  refine vg1 rfl rfl rfl rfl rfl (fun hg170 => QV.qo (q_gtr rfl (gu hg170 rfl) rfl)) ?_
                  refine va rfl rfl rfl (q_pick rfl rfl (pk_and' (g := (((gt script i72).kind == 3) || ((gt script i72).kind == 4))) (y := (decide (0 < ((z142.1.paths.length : Nat) : Int)))))) ?_
                  refine WR.nil ?_
                  change WC _ _ _ _ _ _
                  refine WC.cif h (by kernel_rfl) (fun hb171 h => ?_) (fun hb171 h => ?_)
                  · skip
                    refine WC.rs ?_
                    refine va rfl rfl rfl (q_assign (v := .int .i64 0) rfl (by kernel_rfl)) ?_
                    refine WR.nil ?_
                    change WC _ _ _ _ _ _
                    intro w hw; have hw := hw.fold (is := [0, 0, 0]) rfl hrow_167
                    refine WC.here (C := CC F Γ144 [row148, row140, [(g87, .cells #[.int .i64 (gt script i72).kind, .slice A78 ((gt script i72).vec).length c79, .slice A80 ((gt script i72).path).length c81, .slice A82 ((gt script i72).hashes).length c83, .slice A84 ((gt script i72).list).length c85] 54 (0, 0))], row46]) ?_ hw
                    clear hw
                    refine WC.cut (fun σ w => ∃ (at_173 : Int), m_firthlaw19_PullPlays_j52 z54 f71 z134 z142 at_173 = some r ∧ slots σ [(2, .slice Ascript script.length cscript), (7, optp z1.1 g7), (9, optp z11.1 g17), (11, optp z39.1 g45), (13, .int .i64 ((i72 : Nat) : Int)), (15, .int .i64 at_173)] ∧ CC F Γ144 [row148, row140, row46] w ∧ I64 at_173 ∧ True) ?_ ?_
                    · skip
                      refine WC.rs ?_
                      refine va rfl rfl rfl (q_fl 0 fld_54_0 rfl rfl rfl) ?_
                      refine va rfl rfl rfl (q_ldl (i := 2) (v := .int .i64 (gt script i72).kind) rfl rfl Tryz.isAgg3 rfl rfl) ?_
                      refine va rfl rfl rfl (q_eql rfl rfl rfl) ?_
                      refine WR.nil ?_
                      change WC _ _ _ _ _ _
                      refine WC.cif h (by kernel_rfl) (fun hb175 h => ?_) (fun hb175 h => ?_)
                      · skip
                        refine WC.region ?_
                        refine va rfl rfl rfl (q_move (v := .pointer (some ⟨g17, 0, none⟩)) rfl (optp_some rfl hz58)) ?_
                        refine va rfl rfl rfl (q_nil (A := some ⟨g17, 0, none⟩) rfl rfl rfl) ?_
                        refine va rfl rfl rfl (q_fl 4 fld_59_4 rfl rfl rfl) ?_
                        have hq := hr149
                        obtain ⟨A1_176, c1_176, A3_176, c3_176, r3_176, A4_176, c4_176, r4_176, A5_176, c5_176, hrow_176, ho0_176, ho1_176, ho2_176, ho3_176, ho4_176, ho5_176, ho6_176, -⟩ := hq
                        intro w hw; have hw := hw.unfold (i := 0) rfl hrow_176
                        refine WR.here (C := CC F Γ144 [[(g17, .cells #[.int .i64 z142.1.id, .slice A1_176 z142.1.own.length c1_176, .bool z142.1.begun, .slice A3_176 z142.1.vec.length c3_176, .slice A4_176 z142.1.paths.length c4_176, .slice A5_176 z142.1.in_.length c5_176] 59 (0, 0))], r3_176, r4_176, row140, [(g87, .cells #[.int .i64 (gt script i72).kind, .slice A78 ((gt script i72).vec).length c79, .slice A80 ((gt script i72).path).length c81, .slice A82 ((gt script i72).hashes).length c83, .slice A84 ((gt script i72).list).length c85] 54 (0, 0))], row46]) ?_ hw
                        clear hw
                        refine va rfl rfl rfl (q_ldl (i := 0) (v := .slice A4_176 z142.1.paths.length c4_176) rfl rfl Tryz.isAgg57 rfl rfl) ?_
                        refine va rfl rfl rfl (q_len_slice rfl Tryz.underlying57 rfl) ?_
                        refine va rfl rfl rfl (q_sub rfl rfl rfl) ?_
                        refine va rfl rfl rfl (q_assign (v := .int .i64 (w64 (((z142.1.paths.length : Nat) : Int) - 1))) rfl (by kernel_rfl)) ?_
                        refine WR.nil ?_
                        intro w hw
                        have hw := hw.fold (is := [0, 0, 0]) rfl hrow_176
                        exact ⟨(w64 (((z142.1.paths.length : Nat) : Int) - 1)), h, (sl_ (by kernel_rfl)), (hw.only (is := [0, 0, 1]) rfl), (w64_r _), trivial⟩
                      · skip
                        refine WC.skip ?_
                        intro w hw
                        exact ⟨0, h, (sl_ (by kernel_rfl)), (hw.only (is := [0, 0, 1]) rfl), (show I64 0 by decide), trivial⟩
                    · skip
                      rintro σ w ⟨at_173, h, hsl, hw, hr174, -⟩
                      refine Wpt.slots hsl ?_
                      refine WC.here (C := CC F Γ144 [row148, row140, row46]) ?_ hw
                      clear hw hsl
                      refine WC.rs ?_
                      refine va rfl rfl rfl (q_move (v := .pointer (some ⟨g45, 0, none⟩)) rfl (optp_some rfl hz55)) ?_
                      refine va rfl rfl rfl (q_move (v := .pointer (some ⟨g17, 0, none⟩)) rfl (optp_some rfl hz58)) ?_
                      refine va rfl rfl rfl (q_nil (A := some ⟨g17, 0, none⟩) rfl rfl rfl) ?_
                      refine va rfl rfl rfl (q_fl 4 fld_59_4 rfl rfl rfl) ?_
                      have hq := hr149
                      obtain ⟨A1_178, c1_178, A3_178, c3_178, r3_178, A4_178, c4_178, r4_178, A5_178, c5_178, hrow_178, ho0_178, ho1_178, ho2_178, ho3_178, ho4_178, ho5_178, ho6_178, -⟩ := hq
                      intro w hw; have hw := hw.unfold (i := 0) rfl hrow_178
                      refine WR.here (C := CC F Γ144 [[(g17, .cells #[.int .i64 z142.1.id, .slice A1_178 z142.1.own.length c1_178, .bool z142.1.begun, .slice A3_178 z142.1.vec.length c3_178, .slice A4_178 z142.1.paths.length c4_178, .slice A5_178 z142.1.in_.length c5_178] 59 (0, 0))], r3_178, r4_178, row140, row46]) ?_ hw
                      clear hw
                      refine va rfl rfl rfl (q_ldl (i := 0) (v := .slice A4_178 z142.1.paths.length c4_178) rfl rfl Tryz.isAgg57 rfl rfl) ?_
                      refine va rfl rfl rfl (q_move (v := .int .i64 at_173) rfl (by kernel_rfl)) ?_
                      obtain ⟨hk179, h⟩ := chk_some h
                      refine va rfl rfl rfl (q_ix Tryz.underlying57 Tryz.sizeOf24 rfl rfl rfl hk179 (ho4_178.some_ (inb_lt hk179))) ?_
                      obtain ⟨A180, c181, hx182⟩ := ho4_178.slT_at at_173.toNat
                      refine va rfl rfl rfl (q_ldo (c := 0) (v := .slice A180 (gt z142.1.paths at_173.toNat).length c181) (i := 2) rfl (hx182 (inb_lt hk179)).2 rfl Tryz.isAgg24 rfl rfl) ?_
                      obtain ⟨z183, hz184, h⟩ := bnd h
                      refine e_call (is := [4]) rfl rfl (call_run Tryz.call14 rfl rfl (by kernel_rfl)) rfl (fun w hp => t_firthref19_Cut_Want (ho56.mono ((((hl64.trans hl103).trans hl111).trans hl137).trans hl145)) (hx182 (inb_lt hk179)).1.2 (hx182 (inb_lt hk179)).1.1 hp hz184) ?_
                      rintro Γ185 U187 v188 hl186 ⟨A189, c190, row191, A193, c194, row195, rfl, rfl, hr192, hr196, _⟩
                      change WR _ _ _ (CC F Γ185 [row46, row191, row195, [(g17, .cells #[.int .i64 z142.1.id, .slice A1_178 z142.1.own.length c1_178, .bool z142.1.begun, .slice A3_178 z142.1.vec.length c3_178, .slice A4_178 z142.1.paths.length c4_178, .slice A5_178 z142.1.in_.length c5_178] 59 (0, 0))], r3_178, r4_178, row140]) _ _ (upd _ 144 (.tuple #[.slice A189 z183.1.length c190, .slice A193 z183.2.1.length c194, .bool z183.2.2]))
                      refine va rfl rfl rfl (q_move (v := .tuple #[.slice A189 z183.1.length c190, .slice A193 z183.2.1.length c194, .bool z183.2.2]) rfl (by kernel_rfl)) ?_
                      refine va rfl rfl rfl (q_extract (v := .slice A189 z183.1.length c190) rfl rfl rfl) ?_
                      refine va rfl rfl rfl (q_extract (v := .slice A193 z183.2.1.length c194) rfl rfl rfl) ?_
                      refine va rfl rfl rfl (q_extract (v := .bool z183.2.2) rfl rfl rfl) ?_
                      refine va rfl rfl rfl (q_assign (v := .slice A189 z183.1.length c190) rfl (by kernel_rfl)) ?_
                      refine va rfl rfl rfl (q_assign (v := .slice A193 z183.2.1.length c194) rfl (by kernel_rfl)) ?_
                      refine va rfl rfl rfl (q_assign (v := .bool z183.2.2) rfl (by kernel_rfl)) ?_
                      refine WR.nil ?_
                      change WC _ _ _ _ _ _
                      refine WC.rs ?_
                      refine va rfl rfl rfl (q_assign (v := .slice none 0 0) rfl (by kernel_rfl)) ?_
                      refine WR.nil ?_
                      change WC _ _ _ _ _ _
                      refine WC.rs ?_
                      refine va rfl rfl rfl (q_move (v := .slice none 0 0) rfl (by kernel_rfl)) ?_
                      refine va rfl rfl rfl (q_move (v := .pointer (some ⟨g17, 0, none⟩)) rfl (optp_some rfl hz58)) ?_
                      refine va rfl rfl rfl (q_nil (A := some ⟨g17, 0, none⟩) rfl rfl rfl) ?_
                      refine va rfl rfl rfl (q_fl 4 fld_59_4 rfl rfl rfl) ?_
                      refine va rfl rfl rfl (q_ldl (i := 3) (v := .slice A4_178 z142.1.paths.length c4_178) rfl rfl Tryz.isAgg57 rfl rfl) ?_
                      refine va rfl rfl rfl (q_move (v := .int .i64 at_173) rfl (by kernel_rfl)) ?_
                      refine va rfl rfl rfl (q_ix Tryz.underlying57 Tryz.sizeOf24 rfl rfl rfl hk179 ((ho4_178.mono hl186).some_ (inb_lt hk179))) ?_
                      refine va rfl rfl rfl (q_ldo (c := 0) (v := .slice A180 (gt z142.1.paths at_173.toNat).length c181) (i := 5) rfl (hx182 (inb_lt hk179)).2 rfl Tryz.isAgg24 rfl rfl) ?_
                      refine WR.sub (fun w hw => hw.pad) ?_
                      obtain ⟨hk197, h⟩ := chk_some h
                      refine e_append (T := intT) (xs := []) (ys := (gt z142.1.paths at_173.toNat)) elem_24 (i := 0) rfl rfl rfl rfl (by kernel_rfl) rfl rfl (Own.nil intT Γ185 3) (of_decide_eq_true hk197) (fun w hw => src_sl ((hx182 (inb_lt hk179)).1.2.mono hl186) hw) ?_
                      intro row198 A199 c200 ho201
                      refine va rfl rfl rfl (q_assign (v := .slice A199 (gt z142.1.paths at_173.toNat).length c200) rfl (by kernel_rfl)) ?_
                      refine WR.nil ?_
                      change WC _ _ _ _ _ _
                      refine WC.rs ?_
                      refine va rfl rfl rfl (q_move (v := .pointer (some ⟨g7, 0, none⟩)) rfl (optp_some rfl hz61)) ?_
                      refine va rfl rfl rfl (q_move (v := .slice A199 (gt z142.1.paths at_173.toNat).length c200) rfl (by kernel_rfl)) ?_
                      refine va rfl rfl rfl (q_move (v := .slice A189 z183.1.length c190) rfl (by kernel_rfl)) ?_
                      refine va rfl rfl rfl (q_move (v := .slice A193 z183.2.1.length c194) rfl (by kernel_rfl)) ?_
                      have hc206 := ho201.capz
                      intro w hw; obtain ⟨Γ202, hw, hl203, hr204⟩ := hw.seal (i := 0) rfl; have hs205 := ho201.sl hl203 hr204
                      refine WR.here (C := CC F Γ202 [[], row46, row191, row195, [(g17, .cells #[.int .i64 z142.1.id, .slice A1_178 z142.1.own.length c1_178, .bool z142.1.begun, .slice A3_178 z142.1.vec.length c3_178, .slice A4_178 z142.1.paths.length c4_178, .slice A5_178 z142.1.in_.length c5_178] 59 (0, 0))], r3_178, r4_178, row140]) ?_ hw
                      clear hw
                      have hc211 := (hr192.mono hl203).capz
                      intro w hw; obtain ⟨Γ207, hw, hl208, hr209⟩ := hw.seal (i := 2) rfl; have hs210 := (hr192.mono hl203).sl hl208 hr209
                      refine WR.here (C := CC F Γ207 [[], row46, [], row195, [(g17, .cells #[.int .i64 z142.1.id, .slice A1_178 z142.1.own.length c1_178, .bool z142.1.begun, .slice A3_178 z142.1.vec.length c3_178, .slice A4_178 z142.1.paths.length c4_178, .slice A5_178 z142.1.in_.length c5_178] 59 (0, 0))], r3_178, r4_178, row140]) ?_ hw
                      clear hw
                      have hc216 := (hr196.mono (hl203.trans hl208)).capz
                      intro w hw; obtain ⟨Γ212, hw, hl213, hr214⟩ := hw.seal (i := 3) rfl; have hs215 := (hr196.mono (hl203.trans hl208)).sl hl213 hr214
                      refine WR.here (C := CC F Γ212 [[], row46, [], [], [(g17, .cells #[.int .i64 z142.1.id, .slice A1_178 z142.1.own.length c1_178, .bool z142.1.begun, .slice A3_178 z142.1.vec.length c3_178, .slice A4_178 z142.1.paths.length c4_178, .slice A5_178 z142.1.in_.length c5_178] 59 (0, 0))], r3_178, r4_178, row140]) ?_ hw
                      clear hw
                      obtain ⟨z217, hz218, h⟩ := bnd h
                      refine e_call (is := [7]) rfl rfl (call_run Tryz.call26 rfl rfl (by kernel_rfl)) rfl (fun w hp => t_pull_Pull_Tell (hr141.mono ((((hl145.trans hl186).trans hl203).trans hl208).trans hl213)) (hs205.mono (hl208.trans hl213)) hc206 (hs210.mono hl213) hc211 hs215 hc216 hp hz218) ?_
                      rintro Γ219 U221 v222 hl220 ⟨row223, rfl, rfl, hr224, _⟩
                      change WR _ _ _ (CC F Γ219 [row223, [], row46, [], [], [(g17, .cells #[.int .i64 z142.1.id, .slice A1_178 z142.1.own.length c1_178, .bool z142.1.begun, .slice A3_178 z142.1.vec.length c3_178, .slice A4_178 z142.1.paths.length c4_178, .slice A5_178 z142.1.in_.length c5_178] 59 (0, 0))], r3_178, r4_178]) _ _ (upd _ 161 (.bool z217.2))
                      refine va rfl rfl rfl (q_move (v := .pointer (some ⟨g17, 0, none⟩)) rfl (optp_some rfl hz58)) ?_
                      refine va rfl rfl rfl (q_move (v := .slice A199 (gt z142.1.paths at_173.toNat).length c200) rfl (by kernel_rfl)) ?_
                      refine va rfl rfl rfl (q_move (v := .slice A189 z183.1.length c190) rfl (by kernel_rfl)) ?_
                      refine va rfl rfl rfl (q_move (v := .slice A193 z183.2.1.length c194) rfl (by kernel_rfl)) ?_
                      intro w hw; have hw := hw.fold (is := [5, 5, 5]) rfl hrow_178
                      refine WR.here (C := CC F Γ219 [row148, row223, [], row46, [], []]) ?_ hw
                      clear hw
                      obtain ⟨z226, hz227, h⟩ := bnd h
                      refine e_call (is := [0]) rfl rfl (call_run Tryz.call27 rfl rfl (by kernel_rfl)) rfl (fun w hp => t_firthref19_Pull_Tell (hr149.mono ((((hl186.trans hl203).trans hl208).trans hl213).trans hl220)) (hs205.mono ((hl208.trans hl213).trans hl220)) hc206 (hs210.mono (hl213.trans hl220)) hc211 (hs215.mono hl220) hc216 hp hz227) ?_
                      rintro Γ228 U230 v231 hl229 ⟨row232, rfl, rfl, hr233, _⟩
                      change WR _ _ _ (CC F Γ228 [row232, row223, [], row46, [], []]) _ _ (upd _ 166 (.bool z226.2))
                      refine va rfl rfl rfl (q_bneq Tryz.underlying4 rfl rfl rfl) ?_
                      refine WR.nil ?_
                      change WC _ _ _ _ _ _
                      refine WC.cif h (by kernel_rfl) (fun hb234 h => ?_) (fun hb234 h => ?_)
                      · skip
                        refine WC.rs ?_
                        refine va rfl rfl rfl (q_assign (v := .bool false) rfl (by kernel_rfl)) ?_
                        refine WR.nil ?_
                        change WC _ _ _ _ _ _
                        refine WC.ret ?_
                        intro w hw
                        obtain rfl := Option.some.inj h
                        subst hF
                        exact ⟨by kernel_rfl, hw.fr⟩
                      · skip
                        refine WC.skip ?_
                        intro w hw
                        exact ⟨z226.1, z217.1, Γ228, row232, row223, h, (sl_ (by kernel_rfl)), (hw.only (is := [0, 0, 1]) rfl), (((((hl186.trans hl203).trans hl208).trans hl213).trans hl220).trans hl229), hr233, (hr224.mono hl229), trivial⟩
                  · skip
                    refine WC.skip ?_
                    intro w hw
                    have hw := hw.fold (is := [0, 0, 0]) rfl hrow_167
                    exact ⟨z142.1, z134.1, Γ144, row148, row140, h, (sl_ (by kernel_rfl)), (hw.only (is := [0, 0, 1]) rfl), (Gh.refl _), hr149, (hr141.mono hl145), trivial⟩
                · skip
                  rintro σ w ⟨o154, o157, Γ152, row155, row158, h, hsl, hw, hl153, ho156, ho159, -⟩
                  refine Wpt.slots hsl ?_
                  refine WC.here (C := CC F Γ152 [row155, row158, row46]) ?_ hw
                  clear hw hsl
                  refine WC.cut (fun σ w => ∃ (x_238 : Bool), ∃ (Γ236 : Gh), m_firthlaw19_PullPlays_j53 f71 o154 o157 x_238 = some r ∧ slots σ [(2, .slice Ascript script.length cscript), (7, optp z1.1 g7), (9, optp z11.1 g17), (11, optp z39.1 g45), (13, .int .i64 ((i72 : Nat) : Int)), (202, .bool x_238)] ∧ CC F Γ236 [row155, row158, row46] w ∧ Gh.le Γ152 Γ236 ∧ True) ?_ ?_
                  · skip
                    have hq := ho156
                    obtain ⟨A1_239, c1_239, A3_239, c3_239, r3_239, A4_239, c4_239, r4_239, A5_239, c5_239, hrow_239, ho0_239, ho1_239, ho2_239, ho3_239, ho4_239, ho5_239, ho6_239, -⟩ := hq
                    intro w hw; have hw := hw.unfold (i := 0) rfl hrow_239
                    refine WC.here (C := CC F Γ152 [[(g17, .cells #[.int .i64 o154.id, .slice A1_239 o154.own.length c1_239, .bool o154.begun, .slice A3_239 o154.vec.length c3_239, .slice A4_239 o154.paths.length c4_239, .slice A5_239 o154.in_.length c5_239] 59 (0, 0))], r3_239, r4_239, row158, row46]) ?_ hw
                    clear hw
                    intro w hw; have h0240 := hw.le
                    refine WC.here (C := CC F Γ152 [[(g17, .cells #[.int .i64 o154.id, .slice A1_239 o154.own.length c1_239, .bool o154.begun, .slice A3_239 o154.vec.length c3_239, .slice A4_239 o154.paths.length c4_239, .slice A5_239 o154.in_.length c5_239] 59 (0, 0))], r3_239, r4_239, row158, row46]) ?_ hw; clear hw
                    refine WC.held (CC F Γ152 [[(g17, .cells #[.int .i64 o154.id, .slice A1_239 o154.own.length c1_239, .bool o154.begun, .slice A3_239 o154.vec.length c3_239, .slice A4_239 o154.paths.length c4_239, .slice A5_239 o154.in_.length c5_239] 59 (0, 0))], r3_239, r4_239]) (by kernel_rfl) (fun w hw => hw.drawn _) ?_
                    change WH _ _ _ _ (CC F Γ152 [[(g17, .cells #[.int .i64 o154.id, .slice A1_239 o154.own.length c1_239, .bool o154.begun, .slice A3_239 o154.vec.length c3_239, .slice A4_239 o154.paths.length c4_239, .slice A5_239 o154.in_.length c5_239] 59 (0, 0))], r3_239, r4_239, row158, row46]) _ 35 #[false, false, false, false, false, false, false, false, false, false, false, false, false, false, false, false, false, false, false, false, false, false, false, false, false, false, false, false, false, false, false, false, false, false, false] _
                    refine ht (i := 0) rfl (by kernel_rfl) rfl rfl rfl (fun w hw => hw.back (Gh.refl _) h0240 (.cons_cons _ (.cons_cons _ (.cons_cons _ (.cons _ (.cons _ .slnil)))))) (q_move (v := .pointer (some ⟨g7, 0, none⟩)) rfl (optp_some rfl hz61)) ?_
                    refine ht (i := 2) rfl (by kernel_rfl) rfl rfl rfl (fun w hw => hw.back (Gh.refl _) h0240 (.cons_cons _ (.cons_cons _ (.cons_cons _ (.cons _ (.cons _ .slnil)))))) (q_move (v := .pointer (some ⟨g17, 0, none⟩)) rfl (optp_some rfl hz58)) ?_
                    refine WH.lone (i := 1) (by kernel_rfl) rfl ?_
                    obtain ⟨z241, hz242, h⟩ := bnd h
                    refine vc rfl rfl rfl (q_call (call_run Tryz.call28 rfl rfl (by kernel_rfl)) (fun w hw => t_pull_Pull_Done (Γ := Gh.all w) (ho159.mono hw.sat.le_all) (hw.ra 3 rfl) (Sat.all w) hz242)) ?_
                    refine WR.nil ?_
                    refine WH.next (fun w hw => hw.back (Gh.refl _) h0240 (.cons_cons _ (.cons_cons _ (.cons_cons _ (.cons _ (.cons _ .slnil)))))) ?_
                    refine WH.lone (i := 3) (by kernel_rfl) rfl ?_
                    obtain ⟨z243, hz244, h⟩ := bnd h
                    refine vc rfl rfl rfl (q_call (call_run Tryz.call29 rfl rfl (by kernel_rfl)) (fun w hw => t_firthref19_Pull_Done (Γ := Gh.all w) (ho156.mono hw.sat.le_all) (hw.raU [0, 0, 0] rfl hrow_239) (Sat.all w) hz244)) ?_
                    refine WR.nil ?_
                    refine WH.next (fun w hw => hw.back (Gh.refl _) h0240 (.cons_cons _ (.cons_cons _ (.cons_cons _ (.cons _ (.cons _ .slnil)))))) ?_
                    refine ht (i := 4) rfl (by kernel_rfl) rfl rfl rfl (fun w hw => hw.back (Gh.refl _) h0240 (.cons_cons _ (.cons_cons _ (.cons_cons _ (.cons _ (.cons _ .slnil)))))) (q_bneq Tryz.underlying4 rfl rfl rfl) ?_
                    refine ht (i := 5) rfl (by kernel_rfl) rfl rfl rfl (fun w hw => hw.back (Gh.refl _) h0240 (.cons_cons _ (.cons_cons _ (.cons_cons _ (.cons _ (.cons _ .slnil)))))) (q_move (v := .bool (z241 != z243)) rfl (by kernel_rfl)) ?_
                    refine hg0 (i := 6) rfl (by kernel_rfl) rfl rfl rfl rfl rfl (fun w hw => hw.back (Gh.refl _) h0240 (.cons_cons _ (.cons_cons _ (.cons_cons _ (.cons _ (.cons _ .slnil)))))) (fun hg245 => (q_move (v := .pointer (some ⟨g7, 0, none⟩)) rfl (optp_some rfl hz61))) ?_
                    refine hg0 (i := 8) rfl (by kernel_rfl) rfl rfl rfl rfl rfl (fun w hw => hw.back (Gh.refl _) h0240 (.cons_cons _ (.cons_cons _ (.cons_cons _ (.cons _ (.cons _ .slnil)))))) (fun hg246 => (q_move (v := .pointer (some ⟨g17, 0, none⟩)) rfl (optp_some rfl hz58))) ?_
                    refine hg0 (i := 9) rfl (by kernel_rfl) rfl rfl rfl rfl rfl (fun w hw => hw.back (Gh.refl _) h0240 (.cons_cons _ (.cons_cons _ (.cons_cons _ (.cons _ (.cons _ .slnil)))))) (fun hg247 => (q_nil (A := some ⟨g17, 0, none⟩) rfl (gu hg247 rfl) rfl)) ?_
                    refine hg0 (i := 10) rfl (by kernel_rfl) rfl rfl rfl rfl rfl (fun w hw => hw.back (Gh.refl _) h0240 (.cons_cons _ (.cons_cons _ (.cons_cons _ (.cons _ (.cons _ .slnil)))))) (fun hg248 => (q_fl 4 fld_59_4 rfl (gu hg248 rfl) rfl)) ?_
                    refine hg0 (i := 11) rfl (by kernel_rfl) rfl rfl rfl rfl rfl (fun w hw => hw.back (Gh.refl _) h0240 (.cons_cons _ (.cons_cons _ (.cons_cons _ (.cons _ (.cons _ .slnil)))))) (fun hg249 => (q_ldl (i := 0) (v := .slice A4_239 o154.paths.length c4_239) rfl rfl Tryz.isAgg57 (gu hg249 rfl) rfl)) ?_
                    refine (Bool.eq_false_or_eq_true (!(z241 != z243))).elim (fun hb250 => ?_) (fun hb250 => ?_)
                    · skip
                      have h := bt hb250 h
                      refine WH.lone (i := 7) (by kernel_rfl) rfl ?_
                      refine WR.sat (c0 := true) (g := (z241 != z243)) rfl rfl rfl hb250 ?_
                      obtain ⟨z251, hz252, h⟩ := bnd h
                      refine e_call (is := [3]) rfl rfl (call_run Tryz.call31 rfl rfl (args1 (gu hb250 rfl))) rfl (fun w hp => t_pull_Pull_Wants ho159 hp hz252) ?_
                      rintro Γ253 U255 v256 hl254 ⟨A257, c258, row259, rfl, rfl, hr260, _⟩
                      change WR _ _ _ (CC F Γ253 [row158, row259, [(g17, .cells #[.int .i64 o154.id, .slice A1_239 o154.own.length c1_239, .bool o154.begun, .slice A3_239 o154.vec.length c3_239, .slice A4_239 o154.paths.length c4_239, .slice A5_239 o154.in_.length c5_239] 59 (0, 0))], r3_239, r4_239, row46]) _ _ (upd _ 175 (.slice A257 z251.length c258))
                      refine WR.nil ?_
                      refine WH.next (fun w hw => hw.back hl254 h0240 (.cons _ (.cons _ (.cons_cons _ (.cons_cons _ (.cons_cons _ (.cons _ .slnil))))))) ?_
                      refine WH.lone (i := 12) (by kernel_rfl) rfl ?_
                      obtain ⟨z262, hz263, h⟩ := bnd h
                      refine vg0 rfl rfl rfl rfl rfl (fun hg261 => (q_call (call_run Tryz.call30 rfl rfl (args2 rfl (gu hg261 rfl))) (fun w hw => t_firthlaw19_paths (Γ := Gh.all w) (hr260.sl hw.sat.le_all (hw.ra 1 rfl)) hr260.capz ((ho4_239.mono hl254).sl hw.sat.le_all (hw.ra 4 rfl)) (ho4_239.mono hl254).capz (Sat.all w) (gc_of hz263 hg261)))) ?_
                      refine WR.nil ?_
                      refine WH.next (fun w hw => hw.back hl254 h0240 (.cons _ (.cons _ (.cons_cons _ (.cons_cons _ (.cons_cons _ (.cons _ .slnil))))))) ?_
                      refine hg0 (i := 13) rfl (by kernel_rfl) rfl rfl rfl rfl rfl (fun w hw => hw.back hl254 h0240 (.cons _ (.cons _ (.cons_cons _ (.cons_cons _ (.cons_cons _ (.cons _ .slnil))))))) (fun hg264 => (q_not rfl (gu hg264 rfl))) ?_
                      refine ht (i := 14) rfl (by kernel_rfl) rfl rfl rfl (fun w hw => hw.back hl254 h0240 (.cons _ (.cons _ (.cons_cons _ (.cons_cons _ (.cons_cons _ (.cons _ .slnil))))))) (q_pick_f (v := .bool (!z262)) rfl rfl (not_t hb250) (gu hb250 rfl)) ?_
                      refine ht (i := 15) rfl (by kernel_rfl) rfl rfl rfl (fun w hw => hw.back hl254 h0240 (.cons _ (.cons _ (.cons_cons _ (.cons_cons _ (.cons_cons _ (.cons _ .slnil))))))) (q_move (v := .bool (!z262)) rfl (by kernel_rfl)) ?_
                      refine hg0 (i := 16) rfl (by kernel_rfl) rfl rfl rfl rfl rfl (fun w hw => hw.back hl254 h0240 (.cons _ (.cons _ (.cons_cons _ (.cons_cons _ (.cons_cons _ (.cons _ .slnil))))))) (fun hg265 => (q_move (v := .pointer (some ⟨g7, 0, none⟩)) rfl (optp_some rfl hz61))) ?_
                      refine hg0 (i := 18) rfl (by kernel_rfl) rfl rfl rfl rfl rfl (fun w hw => hw.back hl254 h0240 (.cons _ (.cons _ (.cons_cons _ (.cons_cons _ (.cons_cons _ (.cons _ .slnil))))))) (fun hg266 => (q_move (v := .pointer (some ⟨g17, 0, none⟩)) rfl (optp_some rfl hz58))) ?_
                      refine hg0 (i := 19) rfl (by kernel_rfl) rfl rfl rfl rfl rfl (fun w hw => hw.back hl254 h0240 (.cons _ (.cons _ (.cons_cons _ (.cons_cons _ (.cons_cons _ (.cons _ .slnil))))))) (fun hg267 => (q_nil (A := some ⟨g17, 0, none⟩) rfl (gu hg267 rfl) rfl)) ?_
                      refine hg0 (i := 20) rfl (by kernel_rfl) rfl rfl rfl rfl rfl (fun w hw => hw.back hl254 h0240 (.cons _ (.cons _ (.cons_cons _ (.cons_cons _ (.cons_cons _ (.cons _ .slnil))))))) (fun hg268 => (q_fl 5 fld_59_5 rfl (gu hg268 rfl) rfl)) ?_
                      refine hg0 (i := 21) rfl (by kernel_rfl) rfl rfl rfl rfl rfl (fun w hw => hw.back hl254 h0240 (.cons _ (.cons _ (.cons_cons _ (.cons_cons _ (.cons_cons _ (.cons _ .slnil))))))) (fun hg269 => (q_ldl (i := 0) (v := .slice A5_239 o154.in_.length c5_239) rfl rfl Tryz.isAgg23 (gu hg269 rfl) rfl)) ?_
                      refine (Bool.eq_false_or_eq_true (!(!z262))).elim (fun hb270 => ?_) (fun hb270 => ?_)
                      · skip
                        have h := bt hb270 h
                        refine WH.lone (i := 17) (by kernel_rfl) rfl ?_
                        refine WR.sat (c0 := true) (g := (!z262)) rfl rfl rfl hb270 ?_
                        obtain ⟨z271, hz272, h⟩ := bnd h
                        refine e_call (is := [0]) rfl rfl (call_run Tryz.call32 rfl rfl (args1 (gu hb270 rfl))) rfl (fun w hp => t_pull_Pull_Staged (ho159.mono hl254) hp hz272) ?_
                        rintro Γ273 U275 v276 hl274 ⟨A277, c278, row279, rfl, rfl, hr280, _⟩
                        change WR _ _ _ (CC F Γ273 [row158, row279, row259, [(g17, .cells #[.int .i64 o154.id, .slice A1_239 o154.own.length c1_239, .bool o154.begun, .slice A3_239 o154.vec.length c3_239, .slice A4_239 o154.paths.length c4_239, .slice A5_239 o154.in_.length c5_239] 59 (0, 0))], r3_239, r4_239, row46]) _ _ (upd _ 185 (.slice A277 z271.length c278))
                        refine WR.nil ?_
                        refine WH.next (fun w hw => hw.back (hl254.trans hl274) h0240 (.cons _ (.cons _ (.cons _ (.cons_cons _ (.cons_cons _ (.cons_cons _ (.cons _ .slnil)))))))) ?_
                        refine WH.lone (i := 22) (by kernel_rfl) rfl ?_
                        obtain ⟨z282, hz283, h⟩ := bnd h
                        refine vg0 rfl rfl rfl rfl rfl (fun hg281 => (q_call (call_run Tryz.call16 rfl rfl (args2 rfl (gu hg281 rfl))) (fun w hw => t_firthref06_SameRecs (Γ := Gh.all w) (hr280.sl hw.sat.le_all (hw.ra 1 rfl)) hr280.capz ((ho6_239.mono (hl254.trans hl274)).mono hw.sat.le_all) ho5_239 (Sat.all w) (gc_of hz283 hg281)))) ?_
                        refine WR.nil ?_
                        refine WH.next (fun w hw => hw.back (hl254.trans hl274) h0240 (.cons _ (.cons _ (.cons _ (.cons_cons _ (.cons_cons _ (.cons_cons _ (.cons _ .slnil)))))))) ?_
                        refine hg0 (i := 23) rfl (by kernel_rfl) rfl rfl rfl rfl rfl (fun w hw => hw.back (hl254.trans hl274) h0240 (.cons _ (.cons _ (.cons _ (.cons_cons _ (.cons_cons _ (.cons_cons _ (.cons _ .slnil)))))))) (fun hg284 => (q_not rfl (gu hg284 rfl))) ?_
                        refine ht (i := 24) rfl (by kernel_rfl) rfl rfl rfl (fun w hw => hw.back (hl254.trans hl274) h0240 (.cons _ (.cons _ (.cons _ (.cons_cons _ (.cons_cons _ (.cons_cons _ (.cons _ .slnil)))))))) (q_pick_f (v := .bool (!z282)) rfl rfl (not_t hb270) (gu hb270 rfl)) ?_
                        refine ht (i := 25) rfl (by kernel_rfl) rfl rfl rfl (fun w hw => hw.back (hl254.trans hl274) h0240 (.cons _ (.cons _ (.cons _ (.cons_cons _ (.cons_cons _ (.cons_cons _ (.cons _ .slnil)))))))) (q_move (v := .bool (!z282)) rfl (by kernel_rfl)) ?_
                        refine hg0 (i := 26) rfl (by kernel_rfl) rfl rfl rfl rfl rfl (fun w hw => hw.back (hl254.trans hl274) h0240 (.cons _ (.cons _ (.cons _ (.cons_cons _ (.cons_cons _ (.cons_cons _ (.cons _ .slnil)))))))) (fun hg285 => (q_move (v := .pointer (some ⟨g7, 0, none⟩)) rfl (optp_some rfl hz61))) ?_
                        refine hg0 (i := 28) rfl (by kernel_rfl) rfl rfl rfl rfl rfl (fun w hw => hw.back (hl254.trans hl274) h0240 (.cons _ (.cons _ (.cons _ (.cons_cons _ (.cons_cons _ (.cons_cons _ (.cons _ .slnil)))))))) (fun hg286 => (q_move (v := .pointer (some ⟨g17, 0, none⟩)) rfl (optp_some rfl hz58))) ?_
                        refine hg0 (i := 29) rfl (by kernel_rfl) rfl rfl rfl rfl rfl (fun w hw => hw.back (hl254.trans hl274) h0240 (.cons _ (.cons _ (.cons _ (.cons_cons _ (.cons_cons _ (.cons_cons _ (.cons _ .slnil)))))))) (fun hg287 => (q_nil (A := some ⟨g17, 0, none⟩) rfl (gu hg287 rfl) rfl)) ?_
                        refine hg0 (i := 30) rfl (by kernel_rfl) rfl rfl rfl rfl rfl (fun w hw => hw.back (hl254.trans hl274) h0240 (.cons _ (.cons _ (.cons _ (.cons_cons _ (.cons_cons _ (.cons_cons _ (.cons _ .slnil)))))))) (fun hg288 => (q_fl 3 fld_59_3 rfl (gu hg288 rfl) rfl)) ?_
                        refine hg0 (i := 31) rfl (by kernel_rfl) rfl rfl rfl rfl rfl (fun w hw => hw.back (hl254.trans hl274) h0240 (.cons _ (.cons _ (.cons _ (.cons_cons _ (.cons_cons _ (.cons_cons _ (.cons _ .slnil)))))))) (fun hg289 => (q_ldl (i := 0) (v := .slice A3_239 o154.vec.length c3_239) rfl rfl Tryz.isAgg22 (gu hg289 rfl) rfl)) ?_
                        refine (Bool.eq_false_or_eq_true (!(!z282))).elim (fun hb290 => ?_) (fun hb290 => ?_)
                        · skip
                          have h := bt hb290 h
                          refine WH.lone (i := 27) (by kernel_rfl) rfl ?_
                          refine WR.sat (c0 := true) (g := (!z282)) rfl rfl rfl hb290 ?_
                          obtain ⟨z291, hz292, h⟩ := bnd h
                          refine e_call (is := [0]) rfl rfl (call_run Tryz.call33 rfl rfl (args1 (gu hb290 rfl))) rfl (fun w hp => t_pull_Pull_Vec (ho159.mono (hl254.trans hl274)) hp hz292) ?_
                          rintro Γ293 U295 v296 hl294 ⟨A297, c298, row299, rfl, rfl, hr300, _⟩
                          change WR _ _ _ (CC F Γ293 [row158, row299, row279, row259, [(g17, .cells #[.int .i64 o154.id, .slice A1_239 o154.own.length c1_239, .bool o154.begun, .slice A3_239 o154.vec.length c3_239, .slice A4_239 o154.paths.length c4_239, .slice A5_239 o154.in_.length c5_239] 59 (0, 0))], r3_239, r4_239, row46]) _ _ (upd _ 195 (.slice A297 z291.length c298))
                          refine WR.nil ?_
                          refine WH.next (fun w hw => hw.back ((hl254.trans hl274).trans hl294) h0240 (.cons _ (.cons _ (.cons _ (.cons _ (.cons_cons _ (.cons_cons _ (.cons_cons _ (.cons _ .slnil))))))))) ?_
                          refine WH.lone (i := 32) (by kernel_rfl) rfl ?_
                          obtain ⟨z302, hz303, h⟩ := bnd h
                          refine vg0 rfl rfl rfl rfl rfl (fun hg301 => (q_call (call_run Tryz.call17 rfl rfl (args2 rfl (gu hg301 rfl))) (fun w hw => t_firthref04_Same (Γ := Gh.all w) (hr300.sl hw.sat.le_all (hw.ra 1 rfl)) hr300.capz ((ho3_239.mono ((hl254.trans hl274).trans hl294)).sl hw.sat.le_all (hw.ra 5 rfl)) (ho3_239.mono ((hl254.trans hl274).trans hl294)).capz (Sat.all w) (gc_of hz303 hg301)))) ?_
                          refine WR.nil ?_
                          refine WH.next (fun w hw => hw.back ((hl254.trans hl274).trans hl294) h0240 (.cons _ (.cons _ (.cons _ (.cons _ (.cons_cons _ (.cons_cons _ (.cons_cons _ (.cons _ .slnil))))))))) ?_
                          refine hg0 (i := 33) rfl (by kernel_rfl) rfl rfl rfl rfl rfl (fun w hw => hw.back ((hl254.trans hl274).trans hl294) h0240 (.cons _ (.cons _ (.cons _ (.cons _ (.cons_cons _ (.cons_cons _ (.cons_cons _ (.cons _ .slnil))))))))) (fun hg304 => (q_not rfl (gu hg304 rfl))) ?_
                          refine ht (i := 34) rfl (by kernel_rfl) rfl rfl rfl (fun w hw => hw.back ((hl254.trans hl274).trans hl294) h0240 (.cons _ (.cons _ (.cons _ (.cons _ (.cons_cons _ (.cons_cons _ (.cons_cons _ (.cons _ .slnil))))))))) (q_pick_f (v := .bool (!z302)) rfl rfl (not_t hb290) (gu hb290 rfl)) ?_
                          refine WH.done (by kernel_rfl) ?_
                          intro w hw
                          have hw := hw.fold (is := [4, 4, 4]) rfl hrow_239
                          exact ⟨(!z302), Γ293, h, (sl_ (by kernel_rfl)), (hw.only (is := [0, 0, 3]) rfl), ((hl254.trans hl274).trans hl294), trivial⟩
                        · skip
                          have h := bf hb290 h
                          refine hg0 (g := (!z282)) (i := 27) (v := undef) rfl (by kernel_rfl) rfl rfl rfl rfl rfl (fun w hw => hw.back (hl254.trans hl274) h0240 (.cons _ (.cons _ (.cons _ (.cons_cons _ (.cons_cons _ (.cons_cons _ (.cons _ .slnil)))))))) (no_tf hb290) ?_
                          refine WH.env (v := undef) (gv_false hb290) ?_
                          refine hg0 (g := (!z282)) (i := 32) (v := undef) rfl (by kernel_rfl) rfl rfl rfl rfl rfl (fun w hw => hw.back (hl254.trans hl274) h0240 (.cons _ (.cons _ (.cons _ (.cons_cons _ (.cons_cons _ (.cons_cons _ (.cons _ .slnil)))))))) (no_tf hb290) ?_
                          refine WH.env (v := undef) (gv_false hb290) ?_
                          refine hg0 (g := (!z282)) (i := 33) (v := undef) rfl (by kernel_rfl) rfl rfl rfl rfl rfl (fun w hw => hw.back (hl254.trans hl274) h0240 (.cons _ (.cons _ (.cons _ (.cons_cons _ (.cons_cons _ (.cons_cons _ (.cons _ .slnil)))))))) (no_tf hb290) ?_
                          refine WH.env (v := undef) (gv_false hb290) ?_
                          refine ht (i := 34) rfl (by kernel_rfl) rfl rfl rfl (fun w hw => hw.back (hl254.trans hl274) h0240 (.cons _ (.cons _ (.cons _ (.cons_cons _ (.cons_cons _ (.cons_cons _ (.cons _ .slnil)))))))) (q_pick_t (v := .bool true) rfl rfl (not_f hb290) (by kernel_rfl)) ?_
                          refine WH.done (by kernel_rfl) ?_
                          intro w hw
                          have hw := hw.fold (is := [3, 3, 3]) rfl hrow_239
                          exact ⟨true, Γ273, h, (sl_ (by kernel_rfl)), (hw.only (is := [0, 0, 2]) rfl), (hl254.trans hl274), trivial⟩
                      · skip
                        have h := bf hb270 h
                        refine hg0 (g := (!z262)) (i := 17) (v := undef) rfl (by kernel_rfl) rfl rfl rfl rfl rfl (fun w hw => hw.back hl254 h0240 (.cons _ (.cons _ (.cons_cons _ (.cons_cons _ (.cons_cons _ (.cons _ .slnil))))))) (no_tf hb270) ?_
                        refine WH.env (v := undef) (gv_false hb270) ?_
                        refine hg0 (g := (!z262)) (i := 22) (v := undef) rfl (by kernel_rfl) rfl rfl rfl rfl rfl (fun w hw => hw.back hl254 h0240 (.cons _ (.cons _ (.cons_cons _ (.cons_cons _ (.cons_cons _ (.cons _ .slnil))))))) (no_tf hb270) ?_
                        refine WH.env (v := undef) (gv_false hb270) ?_
                        refine hg0 (g := (!z262)) (i := 23) (v := undef) rfl (by kernel_rfl) rfl rfl rfl rfl rfl (fun w hw => hw.back hl254 h0240 (.cons _ (.cons _ (.cons_cons _ (.cons_cons _ (.cons_cons _ (.cons _ .slnil))))))) (no_tf hb270) ?_
                        refine WH.env (v := undef) (gv_false hb270) ?_
                        refine ht (i := 24) rfl (by kernel_rfl) rfl rfl rfl (fun w hw => hw.back hl254 h0240 (.cons _ (.cons _ (.cons_cons _ (.cons_cons _ (.cons_cons _ (.cons _ .slnil))))))) (q_pick_t (v := .bool true) rfl rfl (not_f hb270) (by kernel_rfl)) ?_
                        refine ht (i := 25) rfl (by kernel_rfl) rfl rfl rfl (fun w hw => hw.back hl254 h0240 (.cons _ (.cons _ (.cons_cons _ (.cons_cons _ (.cons_cons _ (.cons _ .slnil))))))) (q_move (v := .bool true) rfl (by kernel_rfl)) ?_
                        refine hg0 (g := true) (i := 26) (v := undef) rfl (by kernel_rfl) rfl rfl rfl rfl rfl (fun w hw => hw.back hl254 h0240 (.cons _ (.cons _ (.cons_cons _ (.cons_cons _ (.cons_cons _ (.cons _ .slnil))))))) (no_tf (nott rfl)) ?_
                        refine WH.env (v := undef) (gv_false (nott rfl)) ?_
                        refine hg0 (g := true) (i := 27) (v := undef) rfl (by kernel_rfl) rfl rfl rfl rfl rfl (fun w hw => hw.back hl254 h0240 (.cons _ (.cons _ (.cons_cons _ (.cons_cons _ (.cons_cons _ (.cons _ .slnil))))))) (no_tf (nott rfl)) ?_
                        refine WH.env (v := undef) (gv_false (nott rfl)) ?_
                        refine hg0 (g := true) (i := 28) (v := undef) rfl (by kernel_rfl) rfl rfl rfl rfl rfl (fun w hw => hw.back hl254 h0240 (.cons _ (.cons _ (.cons_cons _ (.cons_cons _ (.cons_cons _ (.cons _ .slnil))))))) (no_tf (nott rfl)) ?_
                        refine WH.env (v := undef) (gv_false (nott rfl)) ?_
                        refine hg0 (g := true) (i := 29) (v := undef) rfl (by kernel_rfl) rfl rfl rfl rfl rfl (fun w hw => hw.back hl254 h0240 (.cons _ (.cons _ (.cons_cons _ (.cons_cons _ (.cons_cons _ (.cons _ .slnil))))))) (no_tf (nott rfl)) ?_
                        refine WH.env (v := undef) (gv_false (nott rfl)) ?_
                        refine hg0 (g := true) (i := 30) (v := undef) rfl (by kernel_rfl) rfl rfl rfl rfl rfl (fun w hw => hw.back hl254 h0240 (.cons _ (.cons _ (.cons_cons _ (.cons_cons _ (.cons_cons _ (.cons _ .slnil))))))) (no_tf (nott rfl)) ?_
                        refine WH.env (v := undef) (gv_false (nott rfl)) ?_
                        refine hg0 (g := true) (i := 31) (v := undef) rfl (by kernel_rfl) rfl rfl rfl rfl rfl (fun w hw => hw.back hl254 h0240 (.cons _ (.cons _ (.cons_cons _ (.cons_cons _ (.cons_cons _ (.cons _ .slnil))))))) (no_tf (nott rfl)) ?_
                        refine WH.env (v := undef) (gv_false (nott rfl)) ?_
                        refine hg0 (g := true) (i := 32) (v := undef) rfl (by kernel_rfl) rfl rfl rfl rfl rfl (fun w hw => hw.back hl254 h0240 (.cons _ (.cons _ (.cons_cons _ (.cons_cons _ (.cons_cons _ (.cons _ .slnil))))))) (no_tf (nott rfl)) ?_
                        refine WH.env (v := undef) (gv_false (nott rfl)) ?_
                        refine hg0 (g := true) (i := 33) (v := undef) rfl (by kernel_rfl) rfl rfl rfl rfl rfl (fun w hw => hw.back hl254 h0240 (.cons _ (.cons _ (.cons_cons _ (.cons_cons _ (.cons_cons _ (.cons _ .slnil))))))) (no_tf (nott rfl)) ?_
                        refine WH.env (v := undef) (gv_false (nott rfl)) ?_
                        refine ht (i := 34) rfl (by kernel_rfl) rfl rfl rfl (fun w hw => hw.back hl254 h0240 (.cons _ (.cons _ (.cons_cons _ (.cons_cons _ (.cons_cons _ (.cons _ .slnil))))))) (q_pickt (v := .bool true) rfl rfl rfl) ?_
                        refine WH.done (by kernel_rfl) ?_
                        intro w hw
                        have hw := hw.fold (is := [2, 2, 2]) rfl hrow_239
                        exact ⟨true, Γ253, h, (sl_ (by kernel_rfl)), (hw.only (is := [0, 0, 1]) rfl), hl254, trivial⟩
                    · skip
                      have h := bf hb250 h
                      refine hg0 (g := (z241 != z243)) (i := 7) (v := undef) rfl (by kernel_rfl) rfl rfl rfl rfl rfl (fun w hw => hw.back (Gh.refl _) h0240 (.cons_cons _ (.cons_cons _ (.cons_cons _ (.cons _ (.cons _ .slnil)))))) (no_tf hb250) ?_
                      refine WH.env (v := undef) (gv_false hb250) ?_
                      refine hg0 (g := (z241 != z243)) (i := 12) (v := undef) rfl (by kernel_rfl) rfl rfl rfl rfl rfl (fun w hw => hw.back (Gh.refl _) h0240 (.cons_cons _ (.cons_cons _ (.cons_cons _ (.cons _ (.cons _ .slnil)))))) (no_tf hb250) ?_
                      refine WH.env (v := undef) (gv_false hb250) ?_
                      refine hg0 (g := (z241 != z243)) (i := 13) (v := undef) rfl (by kernel_rfl) rfl rfl rfl rfl rfl (fun w hw => hw.back (Gh.refl _) h0240 (.cons_cons _ (.cons_cons _ (.cons_cons _ (.cons _ (.cons _ .slnil)))))) (no_tf hb250) ?_
                      refine WH.env (v := undef) (gv_false hb250) ?_
                      refine ht (i := 14) rfl (by kernel_rfl) rfl rfl rfl (fun w hw => hw.back (Gh.refl _) h0240 (.cons_cons _ (.cons_cons _ (.cons_cons _ (.cons _ (.cons _ .slnil)))))) (q_pick_t (v := .bool true) rfl rfl (not_f hb250) (by kernel_rfl)) ?_
                      refine ht (i := 15) rfl (by kernel_rfl) rfl rfl rfl (fun w hw => hw.back (Gh.refl _) h0240 (.cons_cons _ (.cons_cons _ (.cons_cons _ (.cons _ (.cons _ .slnil)))))) (q_move (v := .bool true) rfl (by kernel_rfl)) ?_
                      refine hg0 (g := true) (i := 16) (v := undef) rfl (by kernel_rfl) rfl rfl rfl rfl rfl (fun w hw => hw.back (Gh.refl _) h0240 (.cons_cons _ (.cons_cons _ (.cons_cons _ (.cons _ (.cons _ .slnil)))))) (no_tf (nott rfl)) ?_
                      refine WH.env (v := undef) (gv_false (nott rfl)) ?_
                      refine hg0 (g := true) (i := 17) (v := undef) rfl (by kernel_rfl) rfl rfl rfl rfl rfl (fun w hw => hw.back (Gh.refl _) h0240 (.cons_cons _ (.cons_cons _ (.cons_cons _ (.cons _ (.cons _ .slnil)))))) (no_tf (nott rfl)) ?_
                      refine WH.env (v := undef) (gv_false (nott rfl)) ?_
                      refine hg0 (g := true) (i := 18) (v := undef) rfl (by kernel_rfl) rfl rfl rfl rfl rfl (fun w hw => hw.back (Gh.refl _) h0240 (.cons_cons _ (.cons_cons _ (.cons_cons _ (.cons _ (.cons _ .slnil)))))) (no_tf (nott rfl)) ?_
                      refine WH.env (v := undef) (gv_false (nott rfl)) ?_
                      refine hg0 (g := true) (i := 19) (v := undef) rfl (by kernel_rfl) rfl rfl rfl rfl rfl (fun w hw => hw.back (Gh.refl _) h0240 (.cons_cons _ (.cons_cons _ (.cons_cons _ (.cons _ (.cons _ .slnil)))))) (no_tf (nott rfl)) ?_
                      refine WH.env (v := undef) (gv_false (nott rfl)) ?_
                      refine hg0 (g := true) (i := 20) (v := undef) rfl (by kernel_rfl) rfl rfl rfl rfl rfl (fun w hw => hw.back (Gh.refl _) h0240 (.cons_cons _ (.cons_cons _ (.cons_cons _ (.cons _ (.cons _ .slnil)))))) (no_tf (nott rfl)) ?_
                      refine WH.env (v := undef) (gv_false (nott rfl)) ?_
                      refine hg0 (g := true) (i := 21) (v := undef) rfl (by kernel_rfl) rfl rfl rfl rfl rfl (fun w hw => hw.back (Gh.refl _) h0240 (.cons_cons _ (.cons_cons _ (.cons_cons _ (.cons _ (.cons _ .slnil)))))) (no_tf (nott rfl)) ?_
                      refine WH.env (v := undef) (gv_false (nott rfl)) ?_
                      refine hg0 (g := true) (i := 22) (v := undef) rfl (by kernel_rfl) rfl rfl rfl rfl rfl (fun w hw => hw.back (Gh.refl _) h0240 (.cons_cons _ (.cons_cons _ (.cons_cons _ (.cons _ (.cons _ .slnil)))))) (no_tf (nott rfl)) ?_
                      refine WH.env (v := undef) (gv_false (nott rfl)) ?_
                      refine hg0 (g := true) (i := 23) (v := undef) rfl (by kernel_rfl) rfl rfl rfl rfl rfl (fun w hw => hw.back (Gh.refl _) h0240 (.cons_cons _ (.cons_cons _ (.cons_cons _ (.cons _ (.cons _ .slnil)))))) (no_tf (nott rfl)) ?_
                      refine WH.env (v := undef) (gv_false (nott rfl)) ?_
                      refine ht (i := 24) rfl (by kernel_rfl) rfl rfl rfl (fun w hw => hw.back (Gh.refl _) h0240 (.cons_cons _ (.cons_cons _ (.cons_cons _ (.cons _ (.cons _ .slnil)))))) (q_pickt (v := .bool true) rfl rfl rfl) ?_
                      refine ht (i := 25) rfl (by kernel_rfl) rfl rfl rfl (fun w hw => hw.back (Gh.refl _) h0240 (.cons_cons _ (.cons_cons _ (.cons_cons _ (.cons _ (.cons _ .slnil)))))) (q_move (v := .bool true) rfl (by kernel_rfl)) ?_
                      refine hg0 (g := true) (i := 26) (v := undef) rfl (by kernel_rfl) rfl rfl rfl rfl rfl (fun w hw => hw.back (Gh.refl _) h0240 (.cons_cons _ (.cons_cons _ (.cons_cons _ (.cons _ (.cons _ .slnil)))))) (no_tf (nott rfl)) ?_
                      refine WH.env (v := undef) (gv_false (nott rfl)) ?_
                      refine hg0 (g := true) (i := 27) (v := undef) rfl (by kernel_rfl) rfl rfl rfl rfl rfl (fun w hw => hw.back (Gh.refl _) h0240 (.cons_cons _ (.cons_cons _ (.cons_cons _ (.cons _ (.cons _ .slnil)))))) (no_tf (nott rfl)) ?_
                      refine WH.env (v := undef) (gv_false (nott rfl)) ?_
                      refine hg0 (g := true) (i := 28) (v := undef) rfl (by kernel_rfl) rfl rfl rfl rfl rfl (fun w hw => hw.back (Gh.refl _) h0240 (.cons_cons _ (.cons_cons _ (.cons_cons _ (.cons _ (.cons _ .slnil)))))) (no_tf (nott rfl)) ?_
                      refine WH.env (v := undef) (gv_false (nott rfl)) ?_
                      refine hg0 (g := true) (i := 29) (v := undef) rfl (by kernel_rfl) rfl rfl rfl rfl rfl (fun w hw => hw.back (Gh.refl _) h0240 (.cons_cons _ (.cons_cons _ (.cons_cons _ (.cons _ (.cons _ .slnil)))))) (no_tf (nott rfl)) ?_
                      refine WH.env (v := undef) (gv_false (nott rfl)) ?_
                      refine hg0 (g := true) (i := 30) (v := undef) rfl (by kernel_rfl) rfl rfl rfl rfl rfl (fun w hw => hw.back (Gh.refl _) h0240 (.cons_cons _ (.cons_cons _ (.cons_cons _ (.cons _ (.cons _ .slnil)))))) (no_tf (nott rfl)) ?_
                      refine WH.env (v := undef) (gv_false (nott rfl)) ?_
                      refine hg0 (g := true) (i := 31) (v := undef) rfl (by kernel_rfl) rfl rfl rfl rfl rfl (fun w hw => hw.back (Gh.refl _) h0240 (.cons_cons _ (.cons_cons _ (.cons_cons _ (.cons _ (.cons _ .slnil)))))) (no_tf (nott rfl)) ?_
                      refine WH.env (v := undef) (gv_false (nott rfl)) ?_
                      refine hg0 (g := true) (i := 32) (v := undef) rfl (by kernel_rfl) rfl rfl rfl rfl rfl (fun w hw => hw.back (Gh.refl _) h0240 (.cons_cons _ (.cons_cons _ (.cons_cons _ (.cons _ (.cons _ .slnil)))))) (no_tf (nott rfl)) ?_
                      refine WH.env (v := undef) (gv_false (nott rfl)) ?_
                      refine hg0 (g := true) (i := 33) (v := undef) rfl (by kernel_rfl) rfl rfl rfl rfl rfl (fun w hw => hw.back (Gh.refl _) h0240 (.cons_cons _ (.cons_cons _ (.cons_cons _ (.cons _ (.cons _ .slnil)))))) (no_tf (nott rfl)) ?_
                      refine WH.env (v := undef) (gv_false (nott rfl)) ?_
                      refine ht (i := 34) rfl (by kernel_rfl) rfl rfl rfl (fun w hw => hw.back (Gh.refl _) h0240 (.cons_cons _ (.cons_cons _ (.cons_cons _ (.cons _ (.cons _ .slnil)))))) (q_pickt (v := .bool true) rfl rfl rfl) ?_
                      refine WH.done (by kernel_rfl) ?_
                      intro w hw
                      have hw := hw.fold (is := [0, 0, 0]) rfl hrow_239
                      exact ⟨true, Γ152, h, (sl_ (by kernel_rfl)), hw, (Gh.refl _), trivial⟩
                  · skip
                    rintro σ w ⟨x_238, Γ236, h, hsl, hw, hl237, -⟩
                    refine Wpt.slots hsl ?_
                    refine WC.here (C := CC F Γ236 [row155, row158, row46]) ?_ hw
                    clear hw hsl
                    refine WC.cif h (by kernel_rfl) (fun hb309 h => ?_) (fun hb309 h => ?_)
                    · skip
                      refine WC.rs ?_
                      refine va rfl rfl rfl (q_assign (v := .bool false) rfl (by kernel_rfl)) ?_
                      refine WR.nil ?_
                      change WC _ _ _ _ _ _
                      refine WC.ret ?_
                      intro w hw
                      obtain rfl := Option.some.inj h
                      subst hF
                      exact ⟨by kernel_rfl, hw.fr⟩
                    · skip
                      refine WC.skip ?_
                      change WC _ _ _ _ _ _
                      refine WC.region ?_
                      refine va rfl rfl rfl (q_move (v := .int .i64 ((i72 : Nat) : Int)) rfl (by kernel_rfl)) ?_
                      refine va rfl rfl rfl (q_add_r (r := ((i72 + 1 : Nat) : Int)) rfl rfl rfl (ctr_len hl77 (hscript.mono ((((hl4.trans hl14).trans hl35).trans hl42).trans hl64)).le)) ?_
                      refine va rfl rfl rfl (q_assign (v := .int .i64 ((i72 + 1 : Nat) : Int)) rfl (by kernel_rfl)) ?_
                      refine WR.nil ?_
                      intro w hw
                      exact ⟨hl77, (o154, o157), h, Γ236, row155, row158, (sl_ (by kernel_rfl)), (hw.only (is := [2, 0, 0]) rfl), ((((((hl64.trans hl103).trans hl111).trans hl137).trans hl145).trans hl153).trans hl237), (ho156.mono hl237), (ho159.mono hl237), trivial⟩
            · skip
              have h := bf hb133 h
              refine hg1 (g := ((gt script i72).kind == 2)) (i := 11) (v := undef) rfl (by kernel_rfl) rfl rfl rfl rfl rfl (fun w hw => hw.back (Gh.refl _) h0118 (.cons _ (.cons _ (.cons_cons _ (.cons _ .slnil))))) (no_tf hb133) ?_
              refine WH.env (v := undef) (gv_false hb133) ?_
              refine hg1 (g := ((gt script i72).kind == 2)) (i := 19) (v := undef) rfl (by kernel_rfl) rfl rfl rfl rfl rfl (fun w hw => hw.back (Gh.refl _) h0118 (.cons _ (.cons _ (.cons_cons _ (.cons _ .slnil))))) (no_tf hb133) ?_
              refine WH.env (v := undef) (gv_false hb133) ?_
              refine hg1 (g := ((gt script i72).kind == 2)) (i := 20) (v := undef) rfl (by kernel_rfl) rfl rfl rfl rfl rfl (fun w hw => hw.back (Gh.refl _) h0118 (.cons _ (.cons _ (.cons_cons _ (.cons _ .slnil))))) (no_tf hb133) ?_
              refine WH.env (v := undef) (gv_false hb133) ?_
              refine ht (i := 21) rfl (by kernel_rfl) rfl rfl rfl (fun w hw => hw.back (Gh.refl _) h0118 (.cons _ (.cons _ (.cons_cons _ (.cons _ .slnil))))) (q_pick_f (v := .bool false) rfl rfl hb133 (by kernel_rfl)) ?_
              refine WH.done (by kernel_rfl) ?_
              change WC _ _ _ _ _ _
              refine WC.cfk (b := false) (by kernel_rfl) rfl ?_
              refine WC.skip ?_
              change WC _ _ _ _ _ _
              refine WC.cut (fun σ w => ∃ (o312 : Ofirthref19_Pull), ∃ (o315 : Opull_Pull), ∃ (Γ310 : Gh), ∃ (row313 : Rowb), ∃ (row316 : Rowb), m_firthlaw19_PullPlays_j54 f71 o312 o315 = some r ∧ slots σ [(2, .slice Ascript script.length cscript), (7, optp z1.1 g7), (9, optp z11.1 g17), (11, optp z39.1 g45), (13, .int .i64 ((i72 : Nat) : Int))] ∧ CC F Γ310 [row313, row316, row46] w ∧ Gh.le Γ110 Γ310 ∧ Ofirthref19_Pull.ob 59 Γ310 g17 row313 o312 ∧ Opull_Pull.ob 97 Γ310 g7 row316 o315 ∧ True) ?_ ?_
              · skip
                refine WC.rs ?_
                refine va rfl rfl rfl (q_fl 0 fld_54_0 rfl rfl rfl) ?_
                refine va rfl rfl rfl (q_ldl (i := 2) (v := .int .i64 (gt script i72).kind) rfl rfl Tryz.isAgg3 rfl rfl) ?_
                refine va rfl rfl rfl (q_eql rfl rfl rfl) ?_
                refine va rfl rfl rfl (q_move (v := .bool ((gt script i72).kind == 3)) rfl (by kernel_rfl)) ?_
                refine vg0 rfl rfl rfl rfl rfl (fun hg318 => QV.qo (q_fl 0 fld_54_0 rfl rfl rfl)) ?_
                refine vg0 rfl rfl rfl rfl rfl (fun hg319 => QV.qo (q_ldl (i := 2) (v := .int .i64 (gt script i72).kind) rfl rfl Tryz.isAgg3 (gu hg319 rfl) rfl)) ?_
                refine vg0 rfl rfl rfl rfl rfl (fun hg320 => QV.qo (q_eql rfl (gu hg320 rfl) rfl)) ?_
                refine va rfl rfl rfl (q_pick rfl rfl (pk_or' (g := ((gt script i72).kind == 3)) (y := ((gt script i72).kind == 4)))) ?_
                refine va rfl rfl rfl (q_move (v := .bool (((gt script i72).kind == 3) || ((gt script i72).kind == 4))) rfl (by kernel_rfl)) ?_
                refine vg1 rfl rfl rfl rfl rfl (fun hg321 => QV.qo (q_move (v := .pointer (some ⟨g17, 0, none⟩)) rfl (optp_some rfl hz58))) ?_
                refine vg1 rfl rfl rfl rfl rfl (fun hg322 => QV.qo (q_nil (A := some ⟨g17, 0, none⟩) rfl (gu hg322 rfl) rfl)) ?_
                refine vg1 rfl rfl rfl rfl rfl (fun hg323 => QV.qo (q_fl 4 fld_59_4 rfl (gu hg323 rfl) rfl)) ?_
                have hq := hr115
                obtain ⟨A1_325, c1_325, A3_325, c3_325, r3_325, A4_325, c4_325, r4_325, A5_325, c5_325, hrow_325, ho0_325, ho1_325, ho2_325, ho3_325, ho4_325, ho5_325, ho6_325, -⟩ := hq
                intro w hw; have hw := hw.unfold (i := 0) rfl hrow_325
                refine WR.here (C := CC F Γ110 [[(g17, .cells #[.int .i64 z108.1.id, .slice A1_325 z108.1.own.length c1_325, .bool z108.1.begun, .slice A3_325 z108.1.vec.length c3_325, .slice A4_325 z108.1.paths.length c4_325, .slice A5_325 z108.1.in_.length c5_325] 59 (0, 0))], r3_325, r4_325, row106, [(g87, .cells #[.int .i64 (gt script i72).kind, .slice A78 ((gt script i72).vec).length c79, .slice A80 ((gt script i72).path).length c81, .slice A82 ((gt script i72).hashes).length c83, .slice A84 ((gt script i72).list).length c85] 54 (0, 0))], row46]) ?_ hw
                clear hw
                refine vg1 rfl rfl rfl rfl rfl (fun hg326 => QV.qo (q_ldl (i := 0) (v := .slice A4_325 z108.1.paths.length c4_325) rfl rfl Tryz.isAgg57 (gu hg326 rfl) rfl)) ?_
                refine vg1 rfl rfl rfl rfl rfl (fun hg327 => QV.qo (q_len_slice rfl Tryz.underlying57 (gu hg327 rfl))) ?_
                refine vg1 rfl rfl rfl rfl rfl (fun hg328 => QV.qo (q_gtr rfl (gu hg328 rfl) rfl)) ?_
                refine va rfl rfl rfl (q_pick rfl rfl (pk_and' (g := (((gt script i72).kind == 3) || ((gt script i72).kind == 4))) (y := (decide (0 < ((z108.1.paths.length : Nat) : Int)))))) ?_
                refine WR.nil ?_
                change WC _ _ _ _ _ _
                refine WC.cif h (by kernel_rfl) (fun hb329 h => ?_) (fun hb329 h => ?_)
                · skip
                  refine WC.rs ?_
                  refine va rfl rfl rfl (q_assign (v := .int .i64 0) rfl (by kernel_rfl)) ?_
                  refine WR.nil ?_
                  change WC _ _ _ _ _ _
                  intro w hw; have hw := hw.fold (is := [0, 0, 0]) rfl hrow_325
                  refine WC.here (C := CC F Γ110 [row114, row106, [(g87, .cells #[.int .i64 (gt script i72).kind, .slice A78 ((gt script i72).vec).length c79, .slice A80 ((gt script i72).path).length c81, .slice A82 ((gt script i72).hashes).length c83, .slice A84 ((gt script i72).list).length c85] 54 (0, 0))], row46]) ?_ hw
                  clear hw
                  refine WC.cut (fun σ w => ∃ (at_331 : Int), m_firthlaw19_PullPlays_j56 z54 f71 z100 z108 at_331 = some r ∧ slots σ [(2, .slice Ascript script.length cscript), (7, optp z1.1 g7), (9, optp z11.1 g17), (11, optp z39.1 g45), (13, .int .i64 ((i72 : Nat) : Int)), (15, .int .i64 at_331)] ∧ CC F Γ110 [row114, row106, row46] w ∧ I64 at_331 ∧ True) ?_ ?_
                  · skip
                    refine WC.rs ?_
                    refine va rfl rfl rfl (q_fl 0 fld_54_0 rfl rfl rfl) ?_
                    refine va rfl rfl rfl (q_ldl (i := 2) (v := .int .i64 (gt script i72).kind) rfl rfl Tryz.isAgg3 rfl rfl) ?_
                    refine va rfl rfl rfl (q_eql rfl rfl rfl) ?_
                    refine WR.nil ?_
                    change WC _ _ _ _ _ _
                    refine WC.cif h (by kernel_rfl) (fun hb333 h => ?_) (fun hb333 h => ?_)
                    · skip
                      refine WC.region ?_
                      refine va rfl rfl rfl (q_move (v := .pointer (some ⟨g17, 0, none⟩)) rfl (optp_some rfl hz58)) ?_
                      refine va rfl rfl rfl (q_nil (A := some ⟨g17, 0, none⟩) rfl rfl rfl) ?_
                      refine va rfl rfl rfl (q_fl 4 fld_59_4 rfl rfl rfl) ?_
                      have hq := hr115
                      obtain ⟨A1_334, c1_334, A3_334, c3_334, r3_334, A4_334, c4_334, r4_334, A5_334, c5_334, hrow_334, ho0_334, ho1_334, ho2_334, ho3_334, ho4_334, ho5_334, ho6_334, -⟩ := hq
                      intro w hw; have hw := hw.unfold (i := 0) rfl hrow_334
                      refine WR.here (C := CC F Γ110 [[(g17, .cells #[.int .i64 z108.1.id, .slice A1_334 z108.1.own.length c1_334, .bool z108.1.begun, .slice A3_334 z108.1.vec.length c3_334, .slice A4_334 z108.1.paths.length c4_334, .slice A5_334 z108.1.in_.length c5_334] 59 (0, 0))], r3_334, r4_334, row106, [(g87, .cells #[.int .i64 (gt script i72).kind, .slice A78 ((gt script i72).vec).length c79, .slice A80 ((gt script i72).path).length c81, .slice A82 ((gt script i72).hashes).length c83, .slice A84 ((gt script i72).list).length c85] 54 (0, 0))], row46]) ?_ hw
                      clear hw
                      refine va rfl rfl rfl (q_ldl (i := 0) (v := .slice A4_334 z108.1.paths.length c4_334) rfl rfl Tryz.isAgg57 rfl rfl) ?_
                      refine va rfl rfl rfl (q_len_slice rfl Tryz.underlying57 rfl) ?_
                      refine va rfl rfl rfl (q_sub rfl rfl rfl) ?_
                      refine va rfl rfl rfl (q_assign (v := .int .i64 (w64 (((z108.1.paths.length : Nat) : Int) - 1))) rfl (by kernel_rfl)) ?_
                      refine WR.nil ?_
                      intro w hw
                      have hw := hw.fold (is := [0, 0, 0]) rfl hrow_334
                      exact ⟨(w64 (((z108.1.paths.length : Nat) : Int) - 1)), h, (sl_ (by kernel_rfl)), (hw.only (is := [0, 0, 1]) rfl), (w64_r _), trivial⟩
                    · skip
                      refine WC.skip ?_
                      intro w hw
                      exact ⟨0, h, (sl_ (by kernel_rfl)), (hw.only (is := [0, 0, 1]) rfl), (show I64 0 by decide), trivial⟩
                  · skip
                    rintro σ w ⟨at_331, h, hsl, hw, hr332, -⟩
                    refine Wpt.slots hsl ?_
                    refine WC.here (C := CC F Γ110 [row114, row106, row46]) ?_ hw
                    clear hw hsl
                    refine WC.rs ?_
                    refine va rfl rfl rfl (q_move (v := .pointer (some ⟨g45, 0, none⟩)) rfl (optp_some rfl hz55)) ?_
                    refine va rfl rfl rfl (q_move (v := .pointer (some ⟨g17, 0, none⟩)) rfl (optp_some rfl hz58)) ?_
                    refine va rfl rfl rfl (q_nil (A := some ⟨g17, 0, none⟩) rfl rfl rfl) ?_
                    refine va rfl rfl rfl (q_fl 4 fld_59_4 rfl rfl rfl) ?_
                    have hq := hr115
                    obtain ⟨A1_336, c1_336, A3_336, c3_336, r3_336, A4_336, c4_336, r4_336, A5_336, c5_336, hrow_336, ho0_336, ho1_336, ho2_336, ho3_336, ho4_336, ho5_336, ho6_336, -⟩ := hq
                    intro w hw; have hw := hw.unfold (i := 0) rfl hrow_336
                    refine WR.here (C := CC F Γ110 [[(g17, .cells #[.int .i64 z108.1.id, .slice A1_336 z108.1.own.length c1_336, .bool z108.1.begun, .slice A3_336 z108.1.vec.length c3_336, .slice A4_336 z108.1.paths.length c4_336, .slice A5_336 z108.1.in_.length c5_336] 59 (0, 0))], r3_336, r4_336, row106, row46]) ?_ hw
                    clear hw
                    refine va rfl rfl rfl (q_ldl (i := 0) (v := .slice A4_336 z108.1.paths.length c4_336) rfl rfl Tryz.isAgg57 rfl rfl) ?_
                    refine va rfl rfl rfl (q_move (v := .int .i64 at_331) rfl (by kernel_rfl)) ?_
                    obtain ⟨hk337, h⟩ := chk_some h
                    refine va rfl rfl rfl (q_ix Tryz.underlying57 Tryz.sizeOf24 rfl rfl rfl hk337 (ho4_336.some_ (inb_lt hk337))) ?_
                    obtain ⟨A338, c339, hx340⟩ := ho4_336.slT_at at_331.toNat
                    refine va rfl rfl rfl (q_ldo (c := 0) (v := .slice A338 (gt z108.1.paths at_331.toNat).length c339) (i := 2) rfl (hx340 (inb_lt hk337)).2 rfl Tryz.isAgg24 rfl rfl) ?_
                    obtain ⟨z341, hz342, h⟩ := bnd h
                    refine e_call (is := [4]) rfl rfl (call_run Tryz.call14 rfl rfl (by kernel_rfl)) rfl (fun w hp => t_firthref19_Cut_Want (ho56.mono ((hl64.trans hl103).trans hl111)) (hx340 (inb_lt hk337)).1.2 (hx340 (inb_lt hk337)).1.1 hp hz342) ?_
                    rintro Γ343 U345 v346 hl344 ⟨A347, c348, row349, A351, c352, row353, rfl, rfl, hr350, hr354, _⟩
                    change WR _ _ _ (CC F Γ343 [row46, row349, row353, [(g17, .cells #[.int .i64 z108.1.id, .slice A1_336 z108.1.own.length c1_336, .bool z108.1.begun, .slice A3_336 z108.1.vec.length c3_336, .slice A4_336 z108.1.paths.length c4_336, .slice A5_336 z108.1.in_.length c5_336] 59 (0, 0))], r3_336, r4_336, row106]) _ _ (upd _ 144 (.tuple #[.slice A347 z341.1.length c348, .slice A351 z341.2.1.length c352, .bool z341.2.2]))
                    refine va rfl rfl rfl (q_move (v := .tuple #[.slice A347 z341.1.length c348, .slice A351 z341.2.1.length c352, .bool z341.2.2]) rfl (by kernel_rfl)) ?_
                    refine va rfl rfl rfl (q_extract (v := .slice A347 z341.1.length c348) rfl rfl rfl) ?_
                    refine va rfl rfl rfl (q_extract (v := .slice A351 z341.2.1.length c352) rfl rfl rfl) ?_
                    refine va rfl rfl rfl (q_extract (v := .bool z341.2.2) rfl rfl rfl) ?_
                    refine va rfl rfl rfl (q_assign (v := .slice A347 z341.1.length c348) rfl (by kernel_rfl)) ?_
                    refine va rfl rfl rfl (q_assign (v := .slice A351 z341.2.1.length c352) rfl (by kernel_rfl)) ?_
                    refine va rfl rfl rfl (q_assign (v := .bool z341.2.2) rfl (by kernel_rfl)) ?_
                    refine WR.nil ?_
                    change WC _ _ _ _ _ _
                    refine WC.rs ?_
                    refine va rfl rfl rfl (q_assign (v := .slice none 0 0) rfl (by kernel_rfl)) ?_
                    refine WR.nil ?_
                    change WC _ _ _ _ _ _
                    refine WC.rs ?_
                    refine va rfl rfl rfl (q_move (v := .slice none 0 0) rfl (by kernel_rfl)) ?_
                    refine va rfl rfl rfl (q_move (v := .pointer (some ⟨g17, 0, none⟩)) rfl (optp_some rfl hz58)) ?_
                    refine va rfl rfl rfl (q_nil (A := some ⟨g17, 0, none⟩) rfl rfl rfl) ?_
                    refine va rfl rfl rfl (q_fl 4 fld_59_4 rfl rfl rfl) ?_
                    refine va rfl rfl rfl (q_ldl (i := 3) (v := .slice A4_336 z108.1.paths.length c4_336) rfl rfl Tryz.isAgg57 rfl rfl) ?_
                    refine va rfl rfl rfl (q_move (v := .int .i64 at_331) rfl (by kernel_rfl)) ?_
                    refine va rfl rfl rfl (q_ix Tryz.underlying57 Tryz.sizeOf24 rfl rfl rfl hk337 ((ho4_336.mono hl344).some_ (inb_lt hk337))) ?_
                    refine va rfl rfl rfl (q_ldo (c := 0) (v := .slice A338 (gt z108.1.paths at_331.toNat).length c339) (i := 5) rfl (hx340 (inb_lt hk337)).2 rfl Tryz.isAgg24 rfl rfl) ?_
                    refine WR.sub (fun w hw => hw.pad) ?_
                    obtain ⟨hk355, h⟩ := chk_some h
                    refine e_append (T := intT) (xs := []) (ys := (gt z108.1.paths at_331.toNat)) elem_24 (i := 0) rfl rfl rfl rfl (by kernel_rfl) rfl rfl (Own.nil intT Γ343 3) (of_decide_eq_true hk355) (fun w hw => src_sl ((hx340 (inb_lt hk337)).1.2.mono hl344) hw) ?_
                    intro row356 A357 c358 ho359
                    refine va rfl rfl rfl (q_assign (v := .slice A357 (gt z108.1.paths at_331.toNat).length c358) rfl (by kernel_rfl)) ?_
                    refine WR.nil ?_
                    change WC _ _ _ _ _ _
                    refine WC.rs ?_
                    refine va rfl rfl rfl (q_move (v := .pointer (some ⟨g7, 0, none⟩)) rfl (optp_some rfl hz61)) ?_
                    refine va rfl rfl rfl (q_move (v := .slice A357 (gt z108.1.paths at_331.toNat).length c358) rfl (by kernel_rfl)) ?_
                    refine va rfl rfl rfl (q_move (v := .slice A347 z341.1.length c348) rfl (by kernel_rfl)) ?_
                    refine va rfl rfl rfl (q_move (v := .slice A351 z341.2.1.length c352) rfl (by kernel_rfl)) ?_
                    have hc364 := ho359.capz
                    intro w hw; obtain ⟨Γ360, hw, hl361, hr362⟩ := hw.seal (i := 0) rfl; have hs363 := ho359.sl hl361 hr362
                    refine WR.here (C := CC F Γ360 [[], row46, row349, row353, [(g17, .cells #[.int .i64 z108.1.id, .slice A1_336 z108.1.own.length c1_336, .bool z108.1.begun, .slice A3_336 z108.1.vec.length c3_336, .slice A4_336 z108.1.paths.length c4_336, .slice A5_336 z108.1.in_.length c5_336] 59 (0, 0))], r3_336, r4_336, row106]) ?_ hw
                    clear hw
                    have hc369 := (hr350.mono hl361).capz
                    intro w hw; obtain ⟨Γ365, hw, hl366, hr367⟩ := hw.seal (i := 2) rfl; have hs368 := (hr350.mono hl361).sl hl366 hr367
                    refine WR.here (C := CC F Γ365 [[], row46, [], row353, [(g17, .cells #[.int .i64 z108.1.id, .slice A1_336 z108.1.own.length c1_336, .bool z108.1.begun, .slice A3_336 z108.1.vec.length c3_336, .slice A4_336 z108.1.paths.length c4_336, .slice A5_336 z108.1.in_.length c5_336] 59 (0, 0))], r3_336, r4_336, row106]) ?_ hw
                    clear hw
                    have hc374 := (hr354.mono (hl361.trans hl366)).capz
                    intro w hw; obtain ⟨Γ370, hw, hl371, hr372⟩ := hw.seal (i := 3) rfl; have hs373 := (hr354.mono (hl361.trans hl366)).sl hl371 hr372
                    refine WR.here (C := CC F Γ370 [[], row46, [], [], [(g17, .cells #[.int .i64 z108.1.id, .slice A1_336 z108.1.own.length c1_336, .bool z108.1.begun, .slice A3_336 z108.1.vec.length c3_336, .slice A4_336 z108.1.paths.length c4_336, .slice A5_336 z108.1.in_.length c5_336] 59 (0, 0))], r3_336, r4_336, row106]) ?_ hw
                    clear hw
                    obtain ⟨z375, hz376, h⟩ := bnd h
                    refine e_call (is := [7]) rfl rfl (call_run Tryz.call26 rfl rfl (by kernel_rfl)) rfl (fun w hp => t_pull_Pull_Tell (hr107.mono ((((hl111.trans hl344).trans hl361).trans hl366).trans hl371)) (hs363.mono (hl366.trans hl371)) hc364 (hs368.mono hl371) hc369 hs373 hc374 hp hz376) ?_
                    rintro Γ377 U379 v380 hl378 ⟨row381, rfl, rfl, hr382, _⟩
                    change WR _ _ _ (CC F Γ377 [row381, [], row46, [], [], [(g17, .cells #[.int .i64 z108.1.id, .slice A1_336 z108.1.own.length c1_336, .bool z108.1.begun, .slice A3_336 z108.1.vec.length c3_336, .slice A4_336 z108.1.paths.length c4_336, .slice A5_336 z108.1.in_.length c5_336] 59 (0, 0))], r3_336, r4_336]) _ _ (upd _ 161 (.bool z375.2))
                    refine va rfl rfl rfl (q_move (v := .pointer (some ⟨g17, 0, none⟩)) rfl (optp_some rfl hz58)) ?_
                    refine va rfl rfl rfl (q_move (v := .slice A357 (gt z108.1.paths at_331.toNat).length c358) rfl (by kernel_rfl)) ?_
                    refine va rfl rfl rfl (q_move (v := .slice A347 z341.1.length c348) rfl (by kernel_rfl)) ?_
                    refine va rfl rfl rfl (q_move (v := .slice A351 z341.2.1.length c352) rfl (by kernel_rfl)) ?_
                    intro w hw; have hw := hw.fold (is := [5, 5, 5]) rfl hrow_336
                    refine WR.here (C := CC F Γ377 [row114, row381, [], row46, [], []]) ?_ hw
                    clear hw
                    obtain ⟨z384, hz385, h⟩ := bnd h
                    refine e_call (is := [0]) rfl rfl (call_run Tryz.call27 rfl rfl (by kernel_rfl)) rfl (fun w hp => t_firthref19_Pull_Tell (hr115.mono ((((hl344.trans hl361).trans hl366).trans hl371).trans hl378)) (hs363.mono ((hl366.trans hl371).trans hl378)) hc364 (hs368.mono (hl371.trans hl378)) hc369 (hs373.mono hl378) hc374 hp hz385) ?_
                    rintro Γ386 U388 v389 hl387 ⟨row390, rfl, rfl, hr391, _⟩
                    change WR _ _ _ (CC F Γ386 [row390, row381, [], row46, [], []]) _ _ (upd _ 166 (.bool z384.2))
                    refine va rfl rfl rfl (q_bneq Tryz.underlying4 rfl rfl rfl) ?_
                    refine WR.nil ?_
                    change WC _ _ _ _ _ _
                    refine WC.cif h (by kernel_rfl) (fun hb392 h => ?_) (fun hb392 h => ?_)
                    · skip
                      refine WC.rs ?_
                      refine va rfl rfl rfl (q_assign (v := .bool false) rfl (by kernel_rfl)) ?_
                      refine WR.nil ?_
                      change WC _ _ _ _ _ _
                      refine WC.ret ?_
                      intro w hw
                      obtain rfl := Option.some.inj h
                      subst hF
                      exact ⟨by kernel_rfl, hw.fr⟩
                    · skip
                      refine WC.skip ?_
                      intro w hw
                      exact ⟨z384.1, z375.1, Γ386, row390, row381, h, (sl_ (by kernel_rfl)), (hw.only (is := [0, 0, 1]) rfl), (((((hl344.trans hl361).trans hl366).trans hl371).trans hl378).trans hl387), hr391, (hr382.mono hl387), trivial⟩
                · skip
                  refine WC.skip ?_
                  intro w hw
                  have hw := hw.fold (is := [0, 0, 0]) rfl hrow_325
                  exact ⟨z108.1, z100.1, Γ110, row114, row106, h, (sl_ (by kernel_rfl)), (hw.only (is := [0, 0, 1]) rfl), (Gh.refl _), hr115, (hr107.mono hl111), trivial⟩
              · skip
                rintro σ w ⟨o312, o315, Γ310, row313, row316, h, hsl, hw, hl311, ho314, ho317, -⟩
                refine Wpt.slots hsl ?_
                refine WC.here (C := CC F Γ310 [row313, row316, row46]) ?_ hw
                clear hw hsl
                refine WC.cut (fun σ w => ∃ (x_396 : Bool), ∃ (Γ394 : Gh), m_firthlaw19_PullPlays_j57 f71 o312 o315 x_396 = some r ∧ slots σ [(2, .slice Ascript script.length cscript), (7, optp z1.1 g7), (9, optp z11.1 g17), (11, optp z39.1 g45), (13, .int .i64 ((i72 : Nat) : Int)), (202, .bool x_396)] ∧ CC F Γ394 [row313, row316, row46] w ∧ Gh.le Γ310 Γ394 ∧ True) ?_ ?_
                · skip
                  have hq := ho314
                  obtain ⟨A1_397, c1_397, A3_397, c3_397, r3_397, A4_397, c4_397, r4_397, A5_397, c5_397, hrow_397, ho0_397, ho1_397, ho2_397, ho3_397, ho4_397, ho5_397, ho6_397, -⟩ := hq
                  intro w hw; have hw := hw.unfold (i := 0) rfl hrow_397
                  refine WC.here (C := CC F Γ310 [[(g17, .cells #[.int .i64 o312.id, .slice A1_397 o312.own.length c1_397, .bool o312.begun, .slice A3_397 o312.vec.length c3_397, .slice A4_397 o312.paths.length c4_397, .slice A5_397 o312.in_.length c5_397] 59 (0, 0))], r3_397, r4_397, row316, row46]) ?_ hw
                  clear hw
                  intro w hw; have h0398 := hw.le
                  refine WC.here (C := CC F Γ310 [[(g17, .cells #[.int .i64 o312.id, .slice A1_397 o312.own.length c1_397, .bool o312.begun, .slice A3_397 o312.vec.length c3_397, .slice A4_397 o312.paths.length c4_397, .slice A5_397 o312.in_.length c5_397] 59 (0, 0))], r3_397, r4_397, row316, row46]) ?_ hw; clear hw
                  refine WC.held (CC F Γ310 [[(g17, .cells #[.int .i64 o312.id, .slice A1_397 o312.own.length c1_397, .bool o312.begun, .slice A3_397 o312.vec.length c3_397, .slice A4_397 o312.paths.length c4_397, .slice A5_397 o312.in_.length c5_397] 59 (0, 0))], r3_397, r4_397]) (by kernel_rfl) (fun w hw => hw.drawn _) ?_
                  change WH _ _ _ _ (CC F Γ310 [[(g17, .cells #[.int .i64 o312.id, .slice A1_397 o312.own.length c1_397, .bool o312.begun, .slice A3_397 o312.vec.length c3_397, .slice A4_397 o312.paths.length c4_397, .slice A5_397 o312.in_.length c5_397] 59 (0, 0))], r3_397, r4_397, row316, row46]) _ 35 #[false, false, false, false, false, false, false, false, false, false, false, false, false, false, false, false, false, false, false, false, false, false, false, false, false, false, false, false, false, false, false, false, false, false, false] _
                  refine ht (i := 0) rfl (by kernel_rfl) rfl rfl rfl (fun w hw => hw.back (Gh.refl _) h0398 (.cons_cons _ (.cons_cons _ (.cons_cons _ (.cons _ (.cons _ .slnil)))))) (q_move (v := .pointer (some ⟨g7, 0, none⟩)) rfl (optp_some rfl hz61)) ?_
                  refine ht (i := 2) rfl (by kernel_rfl) rfl rfl rfl (fun w hw => hw.back (Gh.refl _) h0398 (.cons_cons _ (.cons_cons _ (.cons_cons _ (.cons _ (.cons _ .slnil)))))) (q_move (v := .pointer (some ⟨g17, 0, none⟩)) rfl (optp_some rfl hz58)) ?_
                  refine WH.lone (i := 1) (by kernel_rfl) rfl ?_
                  obtain ⟨z399, hz400, h⟩ := bnd h
                  refine vc rfl rfl rfl (q_call (call_run Tryz.call28 rfl rfl (by kernel_rfl)) (fun w hw => t_pull_Pull_Done (Γ := Gh.all w) (ho317.mono hw.sat.le_all) (hw.ra 3 rfl) (Sat.all w) hz400)) ?_
                  refine WR.nil ?_
                  refine WH.next (fun w hw => hw.back (Gh.refl _) h0398 (.cons_cons _ (.cons_cons _ (.cons_cons _ (.cons _ (.cons _ .slnil)))))) ?_
                  refine WH.lone (i := 3) (by kernel_rfl) rfl ?_
                  obtain ⟨z401, hz402, h⟩ := bnd h
                  refine vc rfl rfl rfl (q_call (call_run Tryz.call29 rfl rfl (by kernel_rfl)) (fun w hw => t_firthref19_Pull_Done (Γ := Gh.all w) (ho314.mono hw.sat.le_all) (hw.raU [0, 0, 0] rfl hrow_397) (Sat.all w) hz402)) ?_
                  refine WR.nil ?_
                  refine WH.next (fun w hw => hw.back (Gh.refl _) h0398 (.cons_cons _ (.cons_cons _ (.cons_cons _ (.cons _ (.cons _ .slnil)))))) ?_
                  refine ht (i := 4) rfl (by kernel_rfl) rfl rfl rfl (fun w hw => hw.back (Gh.refl _) h0398 (.cons_cons _ (.cons_cons _ (.cons_cons _ (.cons _ (.cons _ .slnil)))))) (q_bneq Tryz.underlying4 rfl rfl rfl) ?_
                  refine ht (i := 5) rfl (by kernel_rfl) rfl rfl rfl (fun w hw => hw.back (Gh.refl _) h0398 (.cons_cons _ (.cons_cons _ (.cons_cons _ (.cons _ (.cons _ .slnil)))))) (q_move (v := .bool (z399 != z401)) rfl (by kernel_rfl)) ?_
                  refine hg0 (i := 6) rfl (by kernel_rfl) rfl rfl rfl rfl rfl (fun w hw => hw.back (Gh.refl _) h0398 (.cons_cons _ (.cons_cons _ (.cons_cons _ (.cons _ (.cons _ .slnil)))))) (fun hg403 => (q_move (v := .pointer (some ⟨g7, 0, none⟩)) rfl (optp_some rfl hz61))) ?_
                  refine hg0 (i := 8) rfl (by kernel_rfl) rfl rfl rfl rfl rfl (fun w hw => hw.back (Gh.refl _) h0398 (.cons_cons _ (.cons_cons _ (.cons_cons _ (.cons _ (.cons _ .slnil)))))) (fun hg404 => (q_move (v := .pointer (some ⟨g17, 0, none⟩)) rfl (optp_some rfl hz58))) ?_
                  refine hg0 (i := 9) rfl (by kernel_rfl) rfl rfl rfl rfl rfl (fun w hw => hw.back (Gh.refl _) h0398 (.cons_cons _ (.cons_cons _ (.cons_cons _ (.cons _ (.cons _ .slnil)))))) (fun hg405 => (q_nil (A := some ⟨g17, 0, none⟩) rfl (gu hg405 rfl) rfl)) ?_
                  refine hg0 (i := 10) rfl (by kernel_rfl) rfl rfl rfl rfl rfl (fun w hw => hw.back (Gh.refl _) h0398 (.cons_cons _ (.cons_cons _ (.cons_cons _ (.cons _ (.cons _ .slnil)))))) (fun hg406 => (q_fl 4 fld_59_4 rfl (gu hg406 rfl) rfl)) ?_
                  refine hg0 (i := 11) rfl (by kernel_rfl) rfl rfl rfl rfl rfl (fun w hw => hw.back (Gh.refl _) h0398 (.cons_cons _ (.cons_cons _ (.cons_cons _ (.cons _ (.cons _ .slnil)))))) (fun hg407 => (q_ldl (i := 0) (v := .slice A4_397 o312.paths.length c4_397) rfl rfl Tryz.isAgg57 (gu hg407 rfl) rfl)) ?_
                  refine (Bool.eq_false_or_eq_true (!(z399 != z401))).elim (fun hb408 => ?_) (fun hb408 => ?_)
                  · skip
                    have h := bt hb408 h
                    refine WH.lone (i := 7) (by kernel_rfl) rfl ?_
                    refine WR.sat (c0 := true) (g := (z399 != z401)) rfl rfl rfl hb408 ?_
                    obtain ⟨z409, hz410, h⟩ := bnd h
                    refine e_call (is := [3]) rfl rfl (call_run Tryz.call31 rfl rfl (args1 (gu hb408 rfl))) rfl (fun w hp => t_pull_Pull_Wants ho317 hp hz410) ?_
                    rintro Γ411 U413 v414 hl412 ⟨A415, c416, row417, rfl, rfl, hr418, _⟩
                    change WR _ _ _ (CC F Γ411 [row316, row417, [(g17, .cells #[.int .i64 o312.id, .slice A1_397 o312.own.length c1_397, .bool o312.begun, .slice A3_397 o312.vec.length c3_397, .slice A4_397 o312.paths.length c4_397, .slice A5_397 o312.in_.length c5_397] 59 (0, 0))], r3_397, r4_397, row46]) _ _ (upd _ 175 (.slice A415 z409.length c416))
                    refine WR.nil ?_
                    refine WH.next (fun w hw => hw.back hl412 h0398 (.cons _ (.cons _ (.cons_cons _ (.cons_cons _ (.cons_cons _ (.cons _ .slnil))))))) ?_
                    refine WH.lone (i := 12) (by kernel_rfl) rfl ?_
                    obtain ⟨z420, hz421, h⟩ := bnd h
                    refine vg0 rfl rfl rfl rfl rfl (fun hg419 => (q_call (call_run Tryz.call30 rfl rfl (args2 rfl (gu hg419 rfl))) (fun w hw => t_firthlaw19_paths (Γ := Gh.all w) (hr418.sl hw.sat.le_all (hw.ra 1 rfl)) hr418.capz ((ho4_397.mono hl412).sl hw.sat.le_all (hw.ra 4 rfl)) (ho4_397.mono hl412).capz (Sat.all w) (gc_of hz421 hg419)))) ?_
                    refine WR.nil ?_
                    refine WH.next (fun w hw => hw.back hl412 h0398 (.cons _ (.cons _ (.cons_cons _ (.cons_cons _ (.cons_cons _ (.cons _ .slnil))))))) ?_
                    refine hg0 (i := 13) rfl (by kernel_rfl) rfl rfl rfl rfl rfl (fun w hw => hw.back hl412 h0398 (.cons _ (.cons _ (.cons_cons _ (.cons_cons _ (.cons_cons _ (.cons _ .slnil))))))) (fun hg422 => (q_not rfl (gu hg422 rfl))) ?_
                    refine ht (i := 14) rfl (by kernel_rfl) rfl rfl rfl (fun w hw => hw.back hl412 h0398 (.cons _ (.cons _ (.cons_cons _ (.cons_cons _ (.cons_cons _ (.cons _ .slnil))))))) (q_pick_f (v := .bool (!z420)) rfl rfl (not_t hb408) (gu hb408 rfl)) ?_
                    refine ht (i := 15) rfl (by kernel_rfl) rfl rfl rfl (fun w hw => hw.back hl412 h0398 (.cons _ (.cons _ (.cons_cons _ (.cons_cons _ (.cons_cons _ (.cons _ .slnil))))))) (q_move (v := .bool (!z420)) rfl (by kernel_rfl)) ?_
                    refine hg0 (i := 16) rfl (by kernel_rfl) rfl rfl rfl rfl rfl (fun w hw => hw.back hl412 h0398 (.cons _ (.cons _ (.cons_cons _ (.cons_cons _ (.cons_cons _ (.cons _ .slnil))))))) (fun hg423 => (q_move (v := .pointer (some ⟨g7, 0, none⟩)) rfl (optp_some rfl hz61))) ?_
                    refine hg0 (i := 18) rfl (by kernel_rfl) rfl rfl rfl rfl rfl (fun w hw => hw.back hl412 h0398 (.cons _ (.cons _ (.cons_cons _ (.cons_cons _ (.cons_cons _ (.cons _ .slnil))))))) (fun hg424 => (q_move (v := .pointer (some ⟨g17, 0, none⟩)) rfl (optp_some rfl hz58))) ?_
                    refine hg0 (i := 19) rfl (by kernel_rfl) rfl rfl rfl rfl rfl (fun w hw => hw.back hl412 h0398 (.cons _ (.cons _ (.cons_cons _ (.cons_cons _ (.cons_cons _ (.cons _ .slnil))))))) (fun hg425 => (q_nil (A := some ⟨g17, 0, none⟩) rfl (gu hg425 rfl) rfl)) ?_
                    refine hg0 (i := 20) rfl (by kernel_rfl) rfl rfl rfl rfl rfl (fun w hw => hw.back hl412 h0398 (.cons _ (.cons _ (.cons_cons _ (.cons_cons _ (.cons_cons _ (.cons _ .slnil))))))) (fun hg426 => (q_fl 5 fld_59_5 rfl (gu hg426 rfl) rfl)) ?_
                    refine hg0 (i := 21) rfl (by kernel_rfl) rfl rfl rfl rfl rfl (fun w hw => hw.back hl412 h0398 (.cons _ (.cons _ (.cons_cons _ (.cons_cons _ (.cons_cons _ (.cons _ .slnil))))))) (fun hg427 => (q_ldl (i := 0) (v := .slice A5_397 o312.in_.length c5_397) rfl rfl Tryz.isAgg23 (gu hg427 rfl) rfl)) ?_
                    refine (Bool.eq_false_or_eq_true (!(!z420))).elim (fun hb428 => ?_) (fun hb428 => ?_)
                    · skip
                      have h := bt hb428 h
                      refine WH.lone (i := 17) (by kernel_rfl) rfl ?_
                      refine WR.sat (c0 := true) (g := (!z420)) rfl rfl rfl hb428 ?_
                      obtain ⟨z429, hz430, h⟩ := bnd h
                      refine e_call (is := [0]) rfl rfl (call_run Tryz.call32 rfl rfl (args1 (gu hb428 rfl))) rfl (fun w hp => t_pull_Pull_Staged (ho317.mono hl412) hp hz430) ?_
                      rintro Γ431 U433 v434 hl432 ⟨A435, c436, row437, rfl, rfl, hr438, _⟩
                      change WR _ _ _ (CC F Γ431 [row316, row437, row417, [(g17, .cells #[.int .i64 o312.id, .slice A1_397 o312.own.length c1_397, .bool o312.begun, .slice A3_397 o312.vec.length c3_397, .slice A4_397 o312.paths.length c4_397, .slice A5_397 o312.in_.length c5_397] 59 (0, 0))], r3_397, r4_397, row46]) _ _ (upd _ 185 (.slice A435 z429.length c436))
                      refine WR.nil ?_
                      refine WH.next (fun w hw => hw.back (hl412.trans hl432) h0398 (.cons _ (.cons _ (.cons _ (.cons_cons _ (.cons_cons _ (.cons_cons _ (.cons _ .slnil)))))))) ?_
                      refine WH.lone (i := 22) (by kernel_rfl) rfl ?_
                      obtain ⟨z440, hz441, h⟩ := bnd h
                      refine vg0 rfl rfl rfl rfl rfl (fun hg439 => (q_call (call_run Tryz.call16 rfl rfl (args2 rfl (gu hg439 rfl))) (fun w hw => t_firthref06_SameRecs (Γ := Gh.all w) (hr438.sl hw.sat.le_all (hw.ra 1 rfl)) hr438.capz ((ho6_397.mono (hl412.trans hl432)).mono hw.sat.le_all) ho5_397 (Sat.all w) (gc_of hz441 hg439)))) ?_
                      refine WR.nil ?_
                      refine WH.next (fun w hw => hw.back (hl412.trans hl432) h0398 (.cons _ (.cons _ (.cons _ (.cons_cons _ (.cons_cons _ (.cons_cons _ (.cons _ .slnil)))))))) ?_
                      refine hg0 (i := 23) rfl (by kernel_rfl) rfl rfl rfl rfl rfl (fun w hw => hw.back (hl412.trans hl432) h0398 (.cons _ (.cons _ (.cons _ (.cons_cons _ (.cons_cons _ (.cons_cons _ (.cons _ .slnil)))))))) (fun hg442 => (q_not rfl (gu hg442 rfl))) ?_
                      refine ht (i := 24) rfl (by kernel_rfl) rfl rfl rfl (fun w hw => hw.back (hl412.trans hl432) h0398 (.cons _ (.cons _ (.cons _ (.cons_cons _ (.cons_cons _ (.cons_cons _ (.cons _ .slnil)))))))) (q_pick_f (v := .bool (!z440)) rfl rfl (not_t hb428) (gu hb428 rfl)) ?_
                      refine ht (i := 25) rfl (by kernel_rfl) rfl rfl rfl (fun w hw => hw.back (hl412.trans hl432) h0398 (.cons _ (.cons _ (.cons _ (.cons_cons _ (.cons_cons _ (.cons_cons _ (.cons _ .slnil)))))))) (q_move (v := .bool (!z440)) rfl (by kernel_rfl)) ?_
                      refine hg0 (i := 26) rfl (by kernel_rfl) rfl rfl rfl rfl rfl (fun w hw => hw.back (hl412.trans hl432) h0398 (.cons _ (.cons _ (.cons _ (.cons_cons _ (.cons_cons _ (.cons_cons _ (.cons _ .slnil)))))))) (fun hg443 => (q_move (v := .pointer (some ⟨g7, 0, none⟩)) rfl (optp_some rfl hz61))) ?_
                      refine hg0 (i := 28) rfl (by kernel_rfl) rfl rfl rfl rfl rfl (fun w hw => hw.back (hl412.trans hl432) h0398 (.cons _ (.cons _ (.cons _ (.cons_cons _ (.cons_cons _ (.cons_cons _ (.cons _ .slnil)))))))) (fun hg444 => (q_move (v := .pointer (some ⟨g17, 0, none⟩)) rfl (optp_some rfl hz58))) ?_
                      refine hg0 (i := 29) rfl (by kernel_rfl) rfl rfl rfl rfl rfl (fun w hw => hw.back (hl412.trans hl432) h0398 (.cons _ (.cons _ (.cons _ (.cons_cons _ (.cons_cons _ (.cons_cons _ (.cons _ .slnil)))))))) (fun hg445 => (q_nil (A := some ⟨g17, 0, none⟩) rfl (gu hg445 rfl) rfl)) ?_
                      refine hg0 (i := 30) rfl (by kernel_rfl) rfl rfl rfl rfl rfl (fun w hw => hw.back (hl412.trans hl432) h0398 (.cons _ (.cons _ (.cons _ (.cons_cons _ (.cons_cons _ (.cons_cons _ (.cons _ .slnil)))))))) (fun hg446 => (q_fl 3 fld_59_3 rfl (gu hg446 rfl) rfl)) ?_
                      refine hg0 (i := 31) rfl (by kernel_rfl) rfl rfl rfl rfl rfl (fun w hw => hw.back (hl412.trans hl432) h0398 (.cons _ (.cons _ (.cons _ (.cons_cons _ (.cons_cons _ (.cons_cons _ (.cons _ .slnil)))))))) (fun hg447 => (q_ldl (i := 0) (v := .slice A3_397 o312.vec.length c3_397) rfl rfl Tryz.isAgg22 (gu hg447 rfl) rfl)) ?_
                      refine (Bool.eq_false_or_eq_true (!(!z440))).elim (fun hb448 => ?_) (fun hb448 => ?_)
                      · skip
                        have h := bt hb448 h
                        refine WH.lone (i := 27) (by kernel_rfl) rfl ?_
                        refine WR.sat (c0 := true) (g := (!z440)) rfl rfl rfl hb448 ?_
                        obtain ⟨z449, hz450, h⟩ := bnd h
                        refine e_call (is := [0]) rfl rfl (call_run Tryz.call33 rfl rfl (args1 (gu hb448 rfl))) rfl (fun w hp => t_pull_Pull_Vec (ho317.mono (hl412.trans hl432)) hp hz450) ?_
                        rintro Γ451 U453 v454 hl452 ⟨A455, c456, row457, rfl, rfl, hr458, _⟩
                        change WR _ _ _ (CC F Γ451 [row316, row457, row437, row417, [(g17, .cells #[.int .i64 o312.id, .slice A1_397 o312.own.length c1_397, .bool o312.begun, .slice A3_397 o312.vec.length c3_397, .slice A4_397 o312.paths.length c4_397, .slice A5_397 o312.in_.length c5_397] 59 (0, 0))], r3_397, r4_397, row46]) _ _ (upd _ 195 (.slice A455 z449.length c456))
                        refine WR.nil ?_
                        refine WH.next (fun w hw => hw.back ((hl412.trans hl432).trans hl452) h0398 (.cons _ (.cons _ (.cons _ (.cons _ (.cons_cons _ (.cons_cons _ (.cons_cons _ (.cons _ .slnil))))))))) ?_
                        refine WH.lone (i := 32) (by kernel_rfl) rfl ?_
                        obtain ⟨z460, hz461, h⟩ := bnd h
                        refine vg0 rfl rfl rfl rfl rfl (fun hg459 => (q_call (call_run Tryz.call17 rfl rfl (args2 rfl (gu hg459 rfl))) (fun w hw => t_firthref04_Same (Γ := Gh.all w) (hr458.sl hw.sat.le_all (hw.ra 1 rfl)) hr458.capz ((ho3_397.mono ((hl412.trans hl432).trans hl452)).sl hw.sat.le_all (hw.ra 5 rfl)) (ho3_397.mono ((hl412.trans hl432).trans hl452)).capz (Sat.all w) (gc_of hz461 hg459)))) ?_
                        refine WR.nil ?_
                        refine WH.next (fun w hw => hw.back ((hl412.trans hl432).trans hl452) h0398 (.cons _ (.cons _ (.cons _ (.cons _ (.cons_cons _ (.cons_cons _ (.cons_cons _ (.cons _ .slnil))))))))) ?_
                        refine hg0 (i := 33) rfl (by kernel_rfl) rfl rfl rfl rfl rfl (fun w hw => hw.back ((hl412.trans hl432).trans hl452) h0398 (.cons _ (.cons _ (.cons _ (.cons _ (.cons_cons _ (.cons_cons _ (.cons_cons _ (.cons _ .slnil))))))))) (fun hg462 => (q_not rfl (gu hg462 rfl))) ?_
                        refine ht (i := 34) rfl (by kernel_rfl) rfl rfl rfl (fun w hw => hw.back ((hl412.trans hl432).trans hl452) h0398 (.cons _ (.cons _ (.cons _ (.cons _ (.cons_cons _ (.cons_cons _ (.cons_cons _ (.cons _ .slnil))))))))) (q_pick_f (v := .bool (!z460)) rfl rfl (not_t hb448) (gu hb448 rfl)) ?_
                        refine WH.done (by kernel_rfl) ?_
                        intro w hw
                        have hw := hw.fold (is := [4, 4, 4]) rfl hrow_397
                        exact ⟨(!z460), Γ451, h, (sl_ (by kernel_rfl)), (hw.only (is := [0, 0, 3]) rfl), ((hl412.trans hl432).trans hl452), trivial⟩
                      · skip
                        have h := bf hb448 h
                        refine hg0 (g := (!z440)) (i := 27) (v := undef) rfl (by kernel_rfl) rfl rfl rfl rfl rfl (fun w hw => hw.back (hl412.trans hl432) h0398 (.cons _ (.cons _ (.cons _ (.cons_cons _ (.cons_cons _ (.cons_cons _ (.cons _ .slnil)))))))) (no_tf hb448) ?_
                        refine WH.env (v := undef) (gv_false hb448) ?_
                        refine hg0 (g := (!z440)) (i := 32) (v := undef) rfl (by kernel_rfl) rfl rfl rfl rfl rfl (fun w hw => hw.back (hl412.trans hl432) h0398 (.cons _ (.cons _ (.cons _ (.cons_cons _ (.cons_cons _ (.cons_cons _ (.cons _ .slnil)))))))) (no_tf hb448) ?_
                        refine WH.env (v := undef) (gv_false hb448) ?_
                        refine hg0 (g := (!z440)) (i := 33) (v := undef) rfl (by kernel_rfl) rfl rfl rfl rfl rfl (fun w hw => hw.back (hl412.trans hl432) h0398 (.cons _ (.cons _ (.cons _ (.cons_cons _ (.cons_cons _ (.cons_cons _ (.cons _ .slnil)))))))) (no_tf hb448) ?_
                        refine WH.env (v := undef) (gv_false hb448) ?_
                        refine ht (i := 34) rfl (by kernel_rfl) rfl rfl rfl (fun w hw => hw.back (hl412.trans hl432) h0398 (.cons _ (.cons _ (.cons _ (.cons_cons _ (.cons_cons _ (.cons_cons _ (.cons _ .slnil)))))))) (q_pick_t (v := .bool true) rfl rfl (not_f hb448) (by kernel_rfl)) ?_
                        refine WH.done (by kernel_rfl) ?_
                        intro w hw
                        have hw := hw.fold (is := [3, 3, 3]) rfl hrow_397
                        exact ⟨true, Γ431, h, (sl_ (by kernel_rfl)), (hw.only (is := [0, 0, 2]) rfl), (hl412.trans hl432), trivial⟩
                    · skip
                      have h := bf hb428 h
                      refine hg0 (g := (!z420)) (i := 17) (v := undef) rfl (by kernel_rfl) rfl rfl rfl rfl rfl (fun w hw => hw.back hl412 h0398 (.cons _ (.cons _ (.cons_cons _ (.cons_cons _ (.cons_cons _ (.cons _ .slnil))))))) (no_tf hb428) ?_
                      refine WH.env (v := undef) (gv_false hb428) ?_
                      refine hg0 (g := (!z420)) (i := 22) (v := undef) rfl (by kernel_rfl) rfl rfl rfl rfl rfl (fun w hw => hw.back hl412 h0398 (.cons _ (.cons _ (.cons_cons _ (.cons_cons _ (.cons_cons _ (.cons _ .slnil))))))) (no_tf hb428) ?_
                      refine WH.env (v := undef) (gv_false hb428) ?_
                      refine hg0 (g := (!z420)) (i := 23) (v := undef) rfl (by kernel_rfl) rfl rfl rfl rfl rfl (fun w hw => hw.back hl412 h0398 (.cons _ (.cons _ (.cons_cons _ (.cons_cons _ (.cons_cons _ (.cons _ .slnil))))))) (no_tf hb428) ?_
                      refine WH.env (v := undef) (gv_false hb428) ?_
                      refine ht (i := 24) rfl (by kernel_rfl) rfl rfl rfl (fun w hw => hw.back hl412 h0398 (.cons _ (.cons _ (.cons_cons _ (.cons_cons _ (.cons_cons _ (.cons _ .slnil))))))) (q_pick_t (v := .bool true) rfl rfl (not_f hb428) (by kernel_rfl)) ?_
                      refine ht (i := 25) rfl (by kernel_rfl) rfl rfl rfl (fun w hw => hw.back hl412 h0398 (.cons _ (.cons _ (.cons_cons _ (.cons_cons _ (.cons_cons _ (.cons _ .slnil))))))) (q_move (v := .bool true) rfl (by kernel_rfl)) ?_
                      refine hg0 (g := true) (i := 26) (v := undef) rfl (by kernel_rfl) rfl rfl rfl rfl rfl (fun w hw => hw.back hl412 h0398 (.cons _ (.cons _ (.cons_cons _ (.cons_cons _ (.cons_cons _ (.cons _ .slnil))))))) (no_tf (nott rfl)) ?_
                      refine WH.env (v := undef) (gv_false (nott rfl)) ?_
                      refine hg0 (g := true) (i := 27) (v := undef) rfl (by kernel_rfl) rfl rfl rfl rfl rfl (fun w hw => hw.back hl412 h0398 (.cons _ (.cons _ (.cons_cons _ (.cons_cons _ (.cons_cons _ (.cons _ .slnil))))))) (no_tf (nott rfl)) ?_
                      refine WH.env (v := undef) (gv_false (nott rfl)) ?_
                      refine hg0 (g := true) (i := 28) (v := undef) rfl (by kernel_rfl) rfl rfl rfl rfl rfl (fun w hw => hw.back hl412 h0398 (.cons _ (.cons _ (.cons_cons _ (.cons_cons _ (.cons_cons _ (.cons _ .slnil))))))) (no_tf (nott rfl)) ?_
                      refine WH.env (v := undef) (gv_false (nott rfl)) ?_
                      refine hg0 (g := true) (i := 29) (v := undef) rfl (by kernel_rfl) rfl rfl rfl rfl rfl (fun w hw => hw.back hl412 h0398 (.cons _ (.cons _ (.cons_cons _ (.cons_cons _ (.cons_cons _ (.cons _ .slnil))))))) (no_tf (nott rfl)) ?_
                      refine WH.env (v := undef) (gv_false (nott rfl)) ?_
                      refine hg0 (g := true) (i := 30) (v := undef) rfl (by kernel_rfl) rfl rfl rfl rfl rfl (fun w hw => hw.back hl412 h0398 (.cons _ (.cons _ (.cons_cons _ (.cons_cons _ (.cons_cons _ (.cons _ .slnil))))))) (no_tf (nott rfl)) ?_
                      refine WH.env (v := undef) (gv_false (nott rfl)) ?_
                      refine hg0 (g := true) (i := 31) (v := undef) rfl (by kernel_rfl) rfl rfl rfl rfl rfl (fun w hw => hw.back hl412 h0398 (.cons _ (.cons _ (.cons_cons _ (.cons_cons _ (.cons_cons _ (.cons _ .slnil))))))) (no_tf (nott rfl)) ?_
                      refine WH.env (v := undef) (gv_false (nott rfl)) ?_
                      refine hg0 (g := true) (i := 32) (v := undef) rfl (by kernel_rfl) rfl rfl rfl rfl rfl (fun w hw => hw.back hl412 h0398 (.cons _ (.cons _ (.cons_cons _ (.cons_cons _ (.cons_cons _ (.cons _ .slnil))))))) (no_tf (nott rfl)) ?_
                      refine WH.env (v := undef) (gv_false (nott rfl)) ?_
                      refine hg0 (g := true) (i := 33) (v := undef) rfl (by kernel_rfl) rfl rfl rfl rfl rfl (fun w hw => hw.back hl412 h0398 (.cons _ (.cons _ (.cons_cons _ (.cons_cons _ (.cons_cons _ (.cons _ .slnil))))))) (no_tf (nott rfl)) ?_
                      refine WH.env (v := undef) (gv_false (nott rfl)) ?_
                      refine ht (i := 34) rfl (by kernel_rfl) rfl rfl rfl (fun w hw => hw.back hl412 h0398 (.cons _ (.cons _ (.cons_cons _ (.cons_cons _ (.cons_cons _ (.cons _ .slnil))))))) (q_pickt (v := .bool true) rfl rfl rfl) ?_
                      refine WH.done (by kernel_rfl) ?_
                      intro w hw
                      have hw := hw.fold (is := [2, 2, 2]) rfl hrow_397
                      exact ⟨true, Γ411, h, (sl_ (by kernel_rfl)), (hw.only (is := [0, 0, 1]) rfl), hl412, trivial⟩
                  · skip
                    have h := bf hb408 h
                    refine hg0 (g := (z399 != z401)) (i := 7) (v := undef) rfl (by kernel_rfl) rfl rfl rfl rfl rfl (fun w hw => hw.back (Gh.refl _) h0398 (.cons_cons _ (.cons_cons _ (.cons_cons _ (.cons _ (.cons _ .slnil)))))) (no_tf hb408) ?_
                    refine WH.env (v := undef) (gv_false hb408) ?_
                    refine hg0 (g := (z399 != z401)) (i := 12) (v := undef) rfl (by kernel_rfl) rfl rfl rfl rfl rfl (fun w hw => hw.back (Gh.refl _) h0398 (.cons_cons _ (.cons_cons _ (.cons_cons _ (.cons _ (.cons _ .slnil)))))) (no_tf hb408) ?_
                    refine WH.env (v := undef) (gv_false hb408) ?_
                    refine hg0 (g := (z399 != z401)) (i := 13) (v := undef) rfl (by kernel_rfl) rfl rfl rfl rfl rfl (fun w hw => hw.back (Gh.refl _) h0398 (.cons_cons _ (.cons_cons _ (.cons_cons _ (.cons _ (.cons _ .slnil)))))) (no_tf hb408) ?_
                    refine WH.env (v := undef) (gv_false hb408) ?_
                    refine ht (i := 14) rfl (by kernel_rfl) rfl rfl rfl (fun w hw => hw.back (Gh.refl _) h0398 (.cons_cons _ (.cons_cons _ (.cons_cons _ (.cons _ (.cons _ .slnil)))))) (q_pick_t (v := .bool true) rfl rfl (not_f hb408) (by kernel_rfl)) ?_
                    refine ht (i := 15) rfl (by kernel_rfl) rfl rfl rfl (fun w hw => hw.back (Gh.refl _) h0398 (.cons_cons _ (.cons_cons _ (.cons_cons _ (.cons _ (.cons _ .slnil)))))) (q_move (v := .bool true) rfl (by kernel_rfl)) ?_
                    refine hg0 (g := true) (i := 16) (v := undef) rfl (by kernel_rfl) rfl rfl rfl rfl rfl (fun w hw => hw.back (Gh.refl _) h0398 (.cons_cons _ (.cons_cons _ (.cons_cons _ (.cons _ (.cons _ .slnil)))))) (no_tf (nott rfl)) ?_
                    refine WH.env (v := undef) (gv_false (nott rfl)) ?_
                    refine hg0 (g := true) (i := 17) (v := undef) rfl (by kernel_rfl) rfl rfl rfl rfl rfl (fun w hw => hw.back (Gh.refl _) h0398 (.cons_cons _ (.cons_cons _ (.cons_cons _ (.cons _ (.cons _ .slnil)))))) (no_tf (nott rfl)) ?_
                    refine WH.env (v := undef) (gv_false (nott rfl)) ?_
                    refine hg0 (g := true) (i := 18) (v := undef) rfl (by kernel_rfl) rfl rfl rfl rfl rfl (fun w hw => hw.back (Gh.refl _) h0398 (.cons_cons _ (.cons_cons _ (.cons_cons _ (.cons _ (.cons _ .slnil)))))) (no_tf (nott rfl)) ?_
                    refine WH.env (v := undef) (gv_false (nott rfl)) ?_
                    refine hg0 (g := true) (i := 19) (v := undef) rfl (by kernel_rfl) rfl rfl rfl rfl rfl (fun w hw => hw.back (Gh.refl _) h0398 (.cons_cons _ (.cons_cons _ (.cons_cons _ (.cons _ (.cons _ .slnil)))))) (no_tf (nott rfl)) ?_
                    refine WH.env (v := undef) (gv_false (nott rfl)) ?_
                    refine hg0 (g := true) (i := 20) (v := undef) rfl (by kernel_rfl) rfl rfl rfl rfl rfl (fun w hw => hw.back (Gh.refl _) h0398 (.cons_cons _ (.cons_cons _ (.cons_cons _ (.cons _ (.cons _ .slnil)))))) (no_tf (nott rfl)) ?_
                    refine WH.env (v := undef) (gv_false (nott rfl)) ?_
                    refine hg0 (g := true) (i := 21) (v := undef) rfl (by kernel_rfl) rfl rfl rfl rfl rfl (fun w hw => hw.back (Gh.refl _) h0398 (.cons_cons _ (.cons_cons _ (.cons_cons _ (.cons _ (.cons _ .slnil)))))) (no_tf (nott rfl)) ?_
                    refine WH.env (v := undef) (gv_false (nott rfl)) ?_
                    refine hg0 (g := true) (i := 22) (v := undef) rfl (by kernel_rfl) rfl rfl rfl rfl rfl (fun w hw => hw.back (Gh.refl _) h0398 (.cons_cons _ (.cons_cons _ (.cons_cons _ (.cons _ (.cons _ .slnil)))))) (no_tf (nott rfl)) ?_
                    refine WH.env (v := undef) (gv_false (nott rfl)) ?_
                    refine hg0 (g := true) (i := 23) (v := undef) rfl (by kernel_rfl) rfl rfl rfl rfl rfl (fun w hw => hw.back (Gh.refl _) h0398 (.cons_cons _ (.cons_cons _ (.cons_cons _ (.cons _ (.cons _ .slnil)))))) (no_tf (nott rfl)) ?_
                    refine WH.env (v := undef) (gv_false (nott rfl)) ?_
                    refine ht (i := 24) rfl (by kernel_rfl) rfl rfl rfl (fun w hw => hw.back (Gh.refl _) h0398 (.cons_cons _ (.cons_cons _ (.cons_cons _ (.cons _ (.cons _ .slnil)))))) (q_pickt (v := .bool true) rfl rfl rfl) ?_
                    refine ht (i := 25) rfl (by kernel_rfl) rfl rfl rfl (fun w hw => hw.back (Gh.refl _) h0398 (.cons_cons _ (.cons_cons _ (.cons_cons _ (.cons _ (.cons _ .slnil)))))) (q_move (v := .bool true) rfl (by kernel_rfl)) ?_
                    refine hg0 (g := true) (i := 26) (v := undef) rfl (by kernel_rfl) rfl rfl rfl rfl rfl (fun w hw => hw.back (Gh.refl _) h0398 (.cons_cons _ (.cons_cons _ (.cons_cons _ (.cons _ (.cons _ .slnil)))))) (no_tf (nott rfl)) ?_
                    refine WH.env (v := undef) (gv_false (nott rfl)) ?_
                    refine hg0 (g := true) (i := 27) (v := undef) rfl (by kernel_rfl) rfl rfl rfl rfl rfl (fun w hw => hw.back (Gh.refl _) h0398 (.cons_cons _ (.cons_cons _ (.cons_cons _ (.cons _ (.cons _ .slnil)))))) (no_tf (nott rfl)) ?_
                    refine WH.env (v := undef) (gv_false (nott rfl)) ?_
                    refine hg0 (g := true) (i := 28) (v := undef) rfl (by kernel_rfl) rfl rfl rfl rfl rfl (fun w hw => hw.back (Gh.refl _) h0398 (.cons_cons _ (.cons_cons _ (.cons_cons _ (.cons _ (.cons _ .slnil)))))) (no_tf (nott rfl)) ?_
                    refine WH.env (v := undef) (gv_false (nott rfl)) ?_
                    refine hg0 (g := true) (i := 29) (v := undef) rfl (by kernel_rfl) rfl rfl rfl rfl rfl (fun w hw => hw.back (Gh.refl _) h0398 (.cons_cons _ (.cons_cons _ (.cons_cons _ (.cons _ (.cons _ .slnil)))))) (no_tf (nott rfl)) ?_
                    refine WH.env (v := undef) (gv_false (nott rfl)) ?_
                    refine hg0 (g := true) (i := 30) (v := undef) rfl (by kernel_rfl) rfl rfl rfl rfl rfl (fun w hw => hw.back (Gh.refl _) h0398 (.cons_cons _ (.cons_cons _ (.cons_cons _ (.cons _ (.cons _ .slnil)))))) (no_tf (nott rfl)) ?_
                    refine WH.env (v := undef) (gv_false (nott rfl)) ?_
                    refine hg0 (g := true) (i := 31) (v := undef) rfl (by kernel_rfl) rfl rfl rfl rfl rfl (fun w hw => hw.back (Gh.refl _) h0398 (.cons_cons _ (.cons_cons _ (.cons_cons _ (.cons _ (.cons _ .slnil)))))) (no_tf (nott rfl)) ?_
                    refine WH.env (v := undef) (gv_false (nott rfl)) ?_
                    refine hg0 (g := true) (i := 32) (v := undef) rfl (by kernel_rfl) rfl rfl rfl rfl rfl (fun w hw => hw.back (Gh.refl _) h0398 (.cons_cons _ (.cons_cons _ (.cons_cons _ (.cons _ (.cons _ .slnil)))))) (no_tf (nott rfl)) ?_
                    refine WH.env (v := undef) (gv_false (nott rfl)) ?_
                    refine hg0 (g := true) (i := 33) (v := undef) rfl (by kernel_rfl) rfl rfl rfl rfl rfl (fun w hw => hw.back (Gh.refl _) h0398 (.cons_cons _ (.cons_cons _ (.cons_cons _ (.cons _ (.cons _ .slnil)))))) (no_tf (nott rfl)) ?_
                    refine WH.env (v := undef) (gv_false (nott rfl)) ?_
                    refine ht (i := 34) rfl (by kernel_rfl) rfl rfl rfl (fun w hw => hw.back (Gh.refl _) h0398 (.cons_cons _ (.cons_cons _ (.cons_cons _ (.cons _ (.cons _ .slnil)))))) (q_pickt (v := .bool true) rfl rfl rfl) ?_
                    refine WH.done (by kernel_rfl) ?_
                    intro w hw
                    have hw := hw.fold (is := [0, 0, 0]) rfl hrow_397
                    exact ⟨true, Γ310, h, (sl_ (by kernel_rfl)), hw, (Gh.refl _), trivial⟩
                · skip
                  rintro σ w ⟨x_396, Γ394, h, hsl, hw, hl395, -⟩
                  refine Wpt.slots hsl ?_
                  refine WC.here (C := CC F Γ394 [row313, row316, row46]) ?_ hw
                  clear hw hsl
                  refine WC.cif h (by kernel_rfl) (fun hb467 h => ?_) (fun hb467 h => ?_)
                  · skip
                    refine WC.rs ?_
                    refine va rfl rfl rfl (q_assign (v := .bool false) rfl (by kernel_rfl)) ?_
                    refine WR.nil ?_
                    change WC _ _ _ _ _ _
                    refine WC.ret ?_
                    intro w hw
                    obtain rfl := Option.some.inj h
                    subst hF
                    exact ⟨by kernel_rfl, hw.fr⟩
                  · skip
                    refine WC.skip ?_
                    change WC _ _ _ _ _ _
                    refine WC.region ?_
                    refine va rfl rfl rfl (q_move (v := .int .i64 ((i72 : Nat) : Int)) rfl (by kernel_rfl)) ?_
                    refine va rfl rfl rfl (q_add_r (r := ((i72 + 1 : Nat) : Int)) rfl rfl rfl (ctr_len hl77 (hscript.mono ((((hl4.trans hl14).trans hl35).trans hl42).trans hl64)).le)) ?_
                    refine va rfl rfl rfl (q_assign (v := .int .i64 ((i72 + 1 : Nat) : Int)) rfl (by kernel_rfl)) ?_
                    refine WR.nil ?_
                    intro w hw
                    exact ⟨hl77, (o312, o315), h, Γ394, row313, row316, (sl_ (by kernel_rfl)), (hw.only (is := [2, 0, 0]) rfl), ((((hl64.trans hl103).trans hl111).trans hl311).trans hl395), (ho314.mono hl395), (ho317.mono hl395), trivial⟩
        · skip
          have h := bf hb99 h
          refine hg1 (g := ((gt script i72).kind == 1)) (i := 9) (v := undef) rfl (by kernel_rfl) rfl rfl rfl rfl rfl (fun w hw => hw.back (Gh.refl _) h088 (.cons_cons _ (.cons _ (.cons _ (.cons _ .slnil))))) (no_tf hb99) ?_
          refine WH.env (v := undef) (gv_false hb99) ?_
          refine hg1 (g := ((gt script i72).kind == 1)) (i := 15) (v := undef) rfl (by kernel_rfl) rfl rfl rfl rfl rfl (fun w hw => hw.back (Gh.refl _) h088 (.cons_cons _ (.cons _ (.cons _ (.cons _ .slnil))))) (no_tf hb99) ?_
          refine WH.env (v := undef) (gv_false hb99) ?_
          refine hg1 (g := ((gt script i72).kind == 1)) (i := 16) (v := undef) rfl (by kernel_rfl) rfl rfl rfl rfl rfl (fun w hw => hw.back (Gh.refl _) h088 (.cons_cons _ (.cons _ (.cons _ (.cons _ .slnil))))) (no_tf hb99) ?_
          refine WH.env (v := undef) (gv_false hb99) ?_
          refine ht (i := 17) rfl (by kernel_rfl) rfl rfl rfl (fun w hw => hw.back (Gh.refl _) h088 (.cons_cons _ (.cons _ (.cons _ (.cons _ .slnil))))) (q_pick_f (v := .bool false) rfl rfl hb99 (by kernel_rfl)) ?_
          refine WH.done (by kernel_rfl) ?_
          change WC _ _ _ _ _ _
          refine WC.cfk (b := false) (by kernel_rfl) rfl ?_
          refine WC.skip ?_
          change WC _ _ _ _ _ _
          refine WC.seq ?_
          refine WC.seq ?_
          intro w hw; have h0468 := hw.le
          refine WC.here (C := CC F Γ63 [[(g87, .cells #[.int .i64 (gt script i72).kind, .slice A78 ((gt script i72).vec).length c79, .slice A80 ((gt script i72).path).length c81, .slice A82 ((gt script i72).hashes).length c83, .slice A84 ((gt script i72).list).length c85] 54 (0, 0))], row46, row66, row69]) ?_ hw; clear hw
          refine WC.held (CC F Γ63 [[(g87, .cells #[.int .i64 (gt script i72).kind, .slice A78 ((gt script i72).vec).length c79, .slice A80 ((gt script i72).path).length c81, .slice A82 ((gt script i72).hashes).length c83, .slice A84 ((gt script i72).list).length c85] 54 (0, 0))]]) (by kernel_rfl) (fun w hw => hw.drawn _) ?_
          change WH _ _ _ _ (CC F Γ63 [[(g87, .cells #[.int .i64 (gt script i72).kind, .slice A78 ((gt script i72).vec).length c79, .slice A80 ((gt script i72).path).length c81, .slice A82 ((gt script i72).hashes).length c83, .slice A84 ((gt script i72).list).length c85] 54 (0, 0))], row46, row66, row69]) _ 22 #[false, false, false, false, false, false, false, false, false, false, false, false, false, false, false, false, false, false, false, false, false, false] _
          refine ht (i := 0) rfl (by kernel_rfl) rfl rfl rfl (fun w hw => hw.back (Gh.refl _) h0468 (.cons_cons _ (.cons _ (.cons _ (.cons _ .slnil))))) (q_fl 0 fld_54_0 rfl rfl rfl) ?_
          refine ht (i := 1) rfl (by kernel_rfl) rfl rfl rfl (fun w hw => hw.back (Gh.refl _) h0468 (.cons_cons _ (.cons _ (.cons _ (.cons _ .slnil))))) (q_ldl (i := 0) (v := .int .i64 (gt script i72).kind) rfl rfl Tryz.isAgg3 rfl rfl) ?_
          refine ht (i := 2) rfl (by kernel_rfl) rfl rfl rfl (fun w hw => hw.back (Gh.refl _) h0468 (.cons_cons _ (.cons _ (.cons _ (.cons _ .slnil))))) (q_eql rfl rfl rfl) ?_
          refine ht (i := 3) rfl (by kernel_rfl) rfl rfl rfl (fun w hw => hw.back (Gh.refl _) h0468 (.cons_cons _ (.cons _ (.cons _ (.cons _ .slnil))))) (q_move (v := .bool ((gt script i72).kind == 2)) rfl (by kernel_rfl)) ?_
          refine hg1 (i := 4) rfl (by kernel_rfl) rfl rfl rfl rfl rfl (fun w hw => hw.back (Gh.refl _) h0468 (.cons_cons _ (.cons _ (.cons _ (.cons _ .slnil))))) (fun hg469 => (q_move (v := .pointer (some ⟨g7, 0, none⟩)) rfl (optp_some rfl hz61))) ?_
          refine hg1 (i := 5) rfl (by kernel_rfl) rfl rfl rfl rfl rfl (fun w hw => hw.back (Gh.refl _) h0468 (.cons_cons _ (.cons _ (.cons _ (.cons _ .slnil))))) (fun hg470 => (q_fl 2 fld_54_2 rfl rfl rfl)) ?_
          refine hg1 (i := 6) rfl (by kernel_rfl) rfl rfl rfl rfl rfl (fun w hw => hw.back (Gh.refl _) h0468 (.cons_cons _ (.cons _ (.cons _ (.cons _ .slnil))))) (fun hg471 => (q_ldl (i := 0) (v := .slice A80 ((gt script i72).path).length c81) rfl rfl Tryz.isAgg24 (gu hg471 rfl) rfl)) ?_
          refine hg1 (i := 7) rfl (by kernel_rfl) rfl rfl rfl rfl rfl (fun w hw => hw.back (Gh.refl _) h0468 (.cons_cons _ (.cons _ (.cons _ (.cons _ .slnil))))) (fun hg472 => (q_fl 3 fld_54_3 rfl rfl rfl)) ?_
          refine hg1 (i := 8) rfl (by kernel_rfl) rfl rfl rfl rfl rfl (fun w hw => hw.back (Gh.refl _) h0468 (.cons_cons _ (.cons _ (.cons _ (.cons _ .slnil))))) (fun hg473 => (q_ldl (i := 0) (v := .slice A82 ((gt script i72).hashes).length c83) rfl rfl Tryz.isAgg33 (gu hg473 rfl) rfl)) ?_
          refine hg1 (i := 9) rfl (by kernel_rfl) rfl rfl rfl rfl rfl (fun w hw => hw.back (Gh.refl _) h0468 (.cons_cons _ (.cons _ (.cons _ (.cons _ .slnil))))) (fun hg474 => (q_fl 4 fld_54_4 rfl rfl rfl)) ?_
          refine hg1 (i := 10) rfl (by kernel_rfl) rfl rfl rfl rfl rfl (fun w hw => hw.back (Gh.refl _) h0468 (.cons_cons _ (.cons _ (.cons _ (.cons _ .slnil))))) (fun hg475 => (q_ldl (i := 0) (v := .slice A84 ((gt script i72).list).length c85) rfl rfl Tryz.isAgg23 (gu hg475 rfl) rfl)) ?_
          refine hg1 (i := 12) rfl (by kernel_rfl) rfl rfl rfl rfl rfl (fun w hw => hw.back (Gh.refl _) h0468 (.cons_cons _ (.cons _ (.cons _ (.cons _ .slnil))))) (fun hg476 => (q_move (v := .pointer (some ⟨g17, 0, none⟩)) rfl (optp_some rfl hz58))) ?_
          refine hg1 (i := 13) rfl (by kernel_rfl) rfl rfl rfl rfl rfl (fun w hw => hw.back (Gh.refl _) h0468 (.cons_cons _ (.cons _ (.cons _ (.cons _ .slnil))))) (fun hg477 => (q_fl 2 fld_54_2 rfl rfl rfl)) ?_
          refine hg1 (i := 14) rfl (by kernel_rfl) rfl rfl rfl rfl rfl (fun w hw => hw.back (Gh.refl _) h0468 (.cons_cons _ (.cons _ (.cons _ (.cons _ .slnil))))) (fun hg478 => (q_ldl (i := 0) (v := .slice A80 ((gt script i72).path).length c81) rfl rfl Tryz.isAgg24 (gu hg478 rfl) rfl)) ?_
          refine hg1 (i := 15) rfl (by kernel_rfl) rfl rfl rfl rfl rfl (fun w hw => hw.back (Gh.refl _) h0468 (.cons_cons _ (.cons _ (.cons _ (.cons _ .slnil))))) (fun hg479 => (q_fl 3 fld_54_3 rfl rfl rfl)) ?_
          refine hg1 (i := 16) rfl (by kernel_rfl) rfl rfl rfl rfl rfl (fun w hw => hw.back (Gh.refl _) h0468 (.cons_cons _ (.cons _ (.cons _ (.cons _ .slnil))))) (fun hg480 => (q_ldl (i := 0) (v := .slice A82 ((gt script i72).hashes).length c83) rfl rfl Tryz.isAgg33 (gu hg480 rfl) rfl)) ?_
          refine hg1 (i := 17) rfl (by kernel_rfl) rfl rfl rfl rfl rfl (fun w hw => hw.back (Gh.refl _) h0468 (.cons_cons _ (.cons _ (.cons _ (.cons _ .slnil))))) (fun hg481 => (q_fl 4 fld_54_4 rfl rfl rfl)) ?_
          refine hg1 (i := 18) rfl (by kernel_rfl) rfl rfl rfl rfl rfl (fun w hw => hw.back (Gh.refl _) h0468 (.cons_cons _ (.cons _ (.cons _ (.cons _ .slnil))))) (fun hg482 => (q_ldl (i := 0) (v := .slice A84 ((gt script i72).list).length c85) rfl rfl Tryz.isAgg23 (gu hg482 rfl) rfl)) ?_
          refine (Bool.eq_false_or_eq_true ((gt script i72).kind == 2)).elim (fun hb483 => ?_) (fun hb483 => ?_)
          · skip
            have h := bt hb483 h
            refine WH.lone (i := 11) (by kernel_rfl) rfl ?_
            refine WR.sat (c0 := true) (g := ((gt script i72).kind == 2)) rfl rfl rfl hb483 ?_
            obtain ⟨z484, hz485, h⟩ := bnd h
            refine e_call (is := [3]) rfl rfl (call_run Tryz.call26 rfl rfl (args4 (gu hb483 rfl) (gu hb483 rfl) (gu hb483 rfl) (gu hb483 rfl))) rfl (fun w hp => t_pull_Pull_Tell ho70 (hx86 hl77).1.2.2.1.2 (hx86 hl77).1.2.2.1.1 (hx86 hl77).1.2.2.2.1.2 (hx86 hl77).1.2.2.2.1.1 (hx86 hl77).1.2.2.2.2.2 (hx86 hl77).1.2.2.2.2.1 hp hz485) ?_
            rintro Γ486 U488 v489 hl487 ⟨row490, rfl, rfl, hr491, _⟩
            change WR _ _ _ (CC F Γ486 [row490, [(g87, .cells #[.int .i64 (gt script i72).kind, .slice A78 ((gt script i72).vec).length c79, .slice A80 ((gt script i72).path).length c81, .slice A82 ((gt script i72).hashes).length c83, .slice A84 ((gt script i72).list).length c85] 54 (0, 0))], row46, row66]) _ _ (upd _ 99 (.bool z484.2))
            refine WR.nil ?_
            refine WH.next (fun w hw => hw.back hl487 h0468 (.cons _ (.cons_cons _ (.cons _ (.cons _ .slnil))))) ?_
            refine WH.lone (i := 19) (by kernel_rfl) rfl ?_
            refine WR.sat (c0 := true) (g := ((gt script i72).kind == 2)) rfl rfl rfl hb483 ?_
            obtain ⟨z492, hz493, h⟩ := bnd h
            refine e_call (is := [3]) rfl rfl (call_run Tryz.call27 rfl rfl (args4 (gu hb483 rfl) (gu hb483 rfl) (gu hb483 rfl) (gu hb483 rfl))) rfl (fun w hp => t_firthref19_Pull_Tell (ho67.mono hl487) ((hx86 hl77).1.2.2.1.2.mono hl487) (hx86 hl77).1.2.2.1.1 ((hx86 hl77).1.2.2.2.1.2.mono hl487) (hx86 hl77).1.2.2.2.1.1 ((hx86 hl77).1.2.2.2.2.2.mono hl487) (hx86 hl77).1.2.2.2.2.1 hp hz493) ?_
            rintro Γ494 U496 v497 hl495 ⟨row498, rfl, rfl, hr499, _⟩
            change WR _ _ _ (CC F Γ494 [row498, row490, [(g87, .cells #[.int .i64 (gt script i72).kind, .slice A78 ((gt script i72).vec).length c79, .slice A80 ((gt script i72).path).length c81, .slice A82 ((gt script i72).hashes).length c83, .slice A84 ((gt script i72).list).length c85] 54 (0, 0))], row46]) _ _ (upd _ 107 (.bool z492.2))
            refine WR.nil ?_
            refine WH.next (fun w hw => hw.back (hl487.trans hl495) h0468 (.cons _ (.cons _ (.cons_cons _ (.cons _ .slnil))))) ?_
            refine hg1 (i := 20) rfl (by kernel_rfl) rfl rfl rfl rfl rfl (fun w hw => hw.back (hl487.trans hl495) h0468 (.cons _ (.cons _ (.cons_cons _ (.cons _ .slnil))))) (fun hg500 => (q_bneq Tryz.underlying4 rfl rfl rfl)) ?_
            refine ht (i := 21) rfl (by kernel_rfl) rfl rfl rfl (fun w hw => hw.back (hl487.trans hl495) h0468 (.cons _ (.cons _ (.cons_cons _ (.cons _ .slnil))))) (q_pick_t (v := .bool (z484.2 != z492.2)) rfl rfl hb483 (gu hb483 rfl)) ?_
            refine WH.done (by kernel_rfl) ?_
            change WC _ _ _ _ _ _
            refine WC.cif h (by kernel_rfl) (fun hb501 h => ?_) (fun hb501 h => ?_)
            · skip
              refine WC.rs ?_
              refine va rfl rfl rfl (q_assign (v := .bool false) rfl (by kernel_rfl)) ?_
              refine WR.nil ?_
              change WC _ _ _ _ _ _
              refine WC.ret ?_
              intro w hw
              obtain rfl := Option.some.inj h
              subst hF
              exact ⟨by kernel_rfl, hw.fr⟩
            · skip
              refine WC.skip ?_
              change WC _ _ _ _ _ _
              refine WC.cut (fun σ w => ∃ (o504 : Ofirthref19_Pull), ∃ (o507 : Opull_Pull), ∃ (Γ502 : Gh), ∃ (row505 : Rowb), ∃ (row508 : Rowb), m_firthlaw19_PullPlays_j58 f71 o504 o507 = some r ∧ slots σ [(2, .slice Ascript script.length cscript), (7, optp z1.1 g7), (9, optp z11.1 g17), (11, optp z39.1 g45), (13, .int .i64 ((i72 : Nat) : Int))] ∧ CC F Γ502 [row505, row508, row46] w ∧ Gh.le Γ494 Γ502 ∧ Ofirthref19_Pull.ob 59 Γ502 g17 row505 o504 ∧ Opull_Pull.ob 97 Γ502 g7 row508 o507 ∧ True) ?_ ?_
              · skip
                refine WC.rs ?_
                refine va rfl rfl rfl (q_fl 0 fld_54_0 rfl rfl rfl) ?_
                refine va rfl rfl rfl (q_ldl (i := 2) (v := .int .i64 (gt script i72).kind) rfl rfl Tryz.isAgg3 rfl rfl) ?_
                refine va rfl rfl rfl (q_eql rfl rfl rfl) ?_
                refine va rfl rfl rfl (q_move (v := .bool ((gt script i72).kind == 3)) rfl (by kernel_rfl)) ?_
                refine vg0 rfl rfl rfl rfl rfl (fun hg510 => QV.qo (q_fl 0 fld_54_0 rfl rfl rfl)) ?_
                refine vg0 rfl rfl rfl rfl rfl (fun hg511 => QV.qo (q_ldl (i := 2) (v := .int .i64 (gt script i72).kind) rfl rfl Tryz.isAgg3 (gu hg511 rfl) rfl)) ?_
                refine vg0 rfl rfl rfl rfl rfl (fun hg512 => QV.qo (q_eql rfl (gu hg512 rfl) rfl)) ?_
                refine va rfl rfl rfl (q_pick rfl rfl (pk_or' (g := ((gt script i72).kind == 3)) (y := ((gt script i72).kind == 4)))) ?_
                refine va rfl rfl rfl (q_move (v := .bool (((gt script i72).kind == 3) || ((gt script i72).kind == 4))) rfl (by kernel_rfl)) ?_
                refine vg1 rfl rfl rfl rfl rfl (fun hg513 => QV.qo (q_move (v := .pointer (some ⟨g17, 0, none⟩)) rfl (optp_some rfl hz58))) ?_
                refine vg1 rfl rfl rfl rfl rfl (fun hg514 => QV.qo (q_nil (A := some ⟨g17, 0, none⟩) rfl (gu hg514 rfl) rfl)) ?_
                refine vg1 rfl rfl rfl rfl rfl (fun hg515 => QV.qo (q_fl 4 fld_59_4 rfl (gu hg515 rfl) rfl)) ?_
                have hq := hr499
                obtain ⟨A1_517, c1_517, A3_517, c3_517, r3_517, A4_517, c4_517, r4_517, A5_517, c5_517, hrow_517, ho0_517, ho1_517, ho2_517, ho3_517, ho4_517, ho5_517, ho6_517, -⟩ := hq
                intro w hw; have hw := hw.unfold (i := 0) rfl hrow_517
                refine WR.here (C := CC F Γ494 [[(g17, .cells #[.int .i64 z492.1.id, .slice A1_517 z492.1.own.length c1_517, .bool z492.1.begun, .slice A3_517 z492.1.vec.length c3_517, .slice A4_517 z492.1.paths.length c4_517, .slice A5_517 z492.1.in_.length c5_517] 59 (0, 0))], r3_517, r4_517, row490, [(g87, .cells #[.int .i64 (gt script i72).kind, .slice A78 ((gt script i72).vec).length c79, .slice A80 ((gt script i72).path).length c81, .slice A82 ((gt script i72).hashes).length c83, .slice A84 ((gt script i72).list).length c85] 54 (0, 0))], row46]) ?_ hw
                clear hw
                refine vg1 rfl rfl rfl rfl rfl (fun hg518 => QV.qo (q_ldl (i := 0) (v := .slice A4_517 z492.1.paths.length c4_517) rfl rfl Tryz.isAgg57 (gu hg518 rfl) rfl)) ?_
                refine vg1 rfl rfl rfl rfl rfl (fun hg519 => QV.qo (q_len_slice rfl Tryz.underlying57 (gu hg519 rfl))) ?_
                refine vg1 rfl rfl rfl rfl rfl (fun hg520 => QV.qo (q_gtr rfl (gu hg520 rfl) rfl)) ?_
                refine va rfl rfl rfl (q_pick rfl rfl (pk_and' (g := (((gt script i72).kind == 3) || ((gt script i72).kind == 4))) (y := (decide (0 < ((z492.1.paths.length : Nat) : Int)))))) ?_
                refine WR.nil ?_
                change WC _ _ _ _ _ _
                refine WC.cif h (by kernel_rfl) (fun hb521 h => ?_) (fun hb521 h => ?_)
                · skip
                  refine WC.rs ?_
                  refine va rfl rfl rfl (q_assign (v := .int .i64 0) rfl (by kernel_rfl)) ?_
                  refine WR.nil ?_
                  change WC _ _ _ _ _ _
                  intro w hw; have hw := hw.fold (is := [0, 0, 0]) rfl hrow_517
                  refine WC.here (C := CC F Γ494 [row498, row490, [(g87, .cells #[.int .i64 (gt script i72).kind, .slice A78 ((gt script i72).vec).length c79, .slice A80 ((gt script i72).path).length c81, .slice A82 ((gt script i72).hashes).length c83, .slice A84 ((gt script i72).list).length c85] 54 (0, 0))], row46]) ?_ hw
                  clear hw
                  refine WC.cut (fun σ w => ∃ (at_523 : Int), m_firthlaw19_PullPlays_j60 z54 f71 z484 z492 at_523 = some r ∧ slots σ [(2, .slice Ascript script.length cscript), (7, optp z1.1 g7), (9, optp z11.1 g17), (11, optp z39.1 g45), (13, .int .i64 ((i72 : Nat) : Int)), (15, .int .i64 at_523)] ∧ CC F Γ494 [row498, row490, row46] w ∧ I64 at_523 ∧ True) ?_ ?_
                  · skip
                    refine WC.rs ?_
                    refine va rfl rfl rfl (q_fl 0 fld_54_0 rfl rfl rfl) ?_
                    refine va rfl rfl rfl (q_ldl (i := 2) (v := .int .i64 (gt script i72).kind) rfl rfl Tryz.isAgg3 rfl rfl) ?_
                    refine va rfl rfl rfl (q_eql rfl rfl rfl) ?_
                    refine WR.nil ?_
                    change WC _ _ _ _ _ _
                    refine WC.cif h (by kernel_rfl) (fun hb525 h => ?_) (fun hb525 h => ?_)
                    · skip
                      refine WC.region ?_
                      refine va rfl rfl rfl (q_move (v := .pointer (some ⟨g17, 0, none⟩)) rfl (optp_some rfl hz58)) ?_
                      refine va rfl rfl rfl (q_nil (A := some ⟨g17, 0, none⟩) rfl rfl rfl) ?_
                      refine va rfl rfl rfl (q_fl 4 fld_59_4 rfl rfl rfl) ?_
                      have hq := hr499
                      obtain ⟨A1_526, c1_526, A3_526, c3_526, r3_526, A4_526, c4_526, r4_526, A5_526, c5_526, hrow_526, ho0_526, ho1_526, ho2_526, ho3_526, ho4_526, ho5_526, ho6_526, -⟩ := hq
                      intro w hw; have hw := hw.unfold (i := 0) rfl hrow_526
                      refine WR.here (C := CC F Γ494 [[(g17, .cells #[.int .i64 z492.1.id, .slice A1_526 z492.1.own.length c1_526, .bool z492.1.begun, .slice A3_526 z492.1.vec.length c3_526, .slice A4_526 z492.1.paths.length c4_526, .slice A5_526 z492.1.in_.length c5_526] 59 (0, 0))], r3_526, r4_526, row490, [(g87, .cells #[.int .i64 (gt script i72).kind, .slice A78 ((gt script i72).vec).length c79, .slice A80 ((gt script i72).path).length c81, .slice A82 ((gt script i72).hashes).length c83, .slice A84 ((gt script i72).list).length c85] 54 (0, 0))], row46]) ?_ hw
                      clear hw
                      refine va rfl rfl rfl (q_ldl (i := 0) (v := .slice A4_526 z492.1.paths.length c4_526) rfl rfl Tryz.isAgg57 rfl rfl) ?_
                      refine va rfl rfl rfl (q_len_slice rfl Tryz.underlying57 rfl) ?_
                      refine va rfl rfl rfl (q_sub rfl rfl rfl) ?_
                      refine va rfl rfl rfl (q_assign (v := .int .i64 (w64 (((z492.1.paths.length : Nat) : Int) - 1))) rfl (by kernel_rfl)) ?_
                      refine WR.nil ?_
                      intro w hw
                      have hw := hw.fold (is := [0, 0, 0]) rfl hrow_526
                      exact ⟨(w64 (((z492.1.paths.length : Nat) : Int) - 1)), h, (sl_ (by kernel_rfl)), (hw.only (is := [0, 0, 1]) rfl), (w64_r _), trivial⟩
                    · skip
                      refine WC.skip ?_
                      intro w hw
                      exact ⟨0, h, (sl_ (by kernel_rfl)), (hw.only (is := [0, 0, 1]) rfl), (show I64 0 by decide), trivial⟩
                  · skip
                    rintro σ w ⟨at_523, h, hsl, hw, hr524, -⟩
                    refine Wpt.slots hsl ?_
                    refine WC.here (C := CC F Γ494 [row498, row490, row46]) ?_ hw
                    clear hw hsl
                    refine WC.rs ?_
                    refine va rfl rfl rfl (q_move (v := .pointer (some ⟨g45, 0, none⟩)) rfl (optp_some rfl hz55)) ?_
                    refine va rfl rfl rfl (q_move (v := .pointer (some ⟨g17, 0, none⟩)) rfl (optp_some rfl hz58)) ?_
                    refine va rfl rfl rfl (q_nil (A := some ⟨g17, 0, none⟩) rfl rfl rfl) ?_
                    refine va rfl rfl rfl (q_fl 4 fld_59_4 rfl rfl rfl) ?_
                    have hq := hr499
                    obtain ⟨A1_528, c1_528, A3_528, c3_528, r3_528, A4_528, c4_528, r4_528, A5_528, c5_528, hrow_528, ho0_528, ho1_528, ho2_528, ho3_528, ho4_528, ho5_528, ho6_528, -⟩ := hq
                    intro w hw; have hw := hw.unfold (i := 0) rfl hrow_528
                    refine WR.here (C := CC F Γ494 [[(g17, .cells #[.int .i64 z492.1.id, .slice A1_528 z492.1.own.length c1_528, .bool z492.1.begun, .slice A3_528 z492.1.vec.length c3_528, .slice A4_528 z492.1.paths.length c4_528, .slice A5_528 z492.1.in_.length c5_528] 59 (0, 0))], r3_528, r4_528, row490, row46]) ?_ hw
                    clear hw
                    refine va rfl rfl rfl (q_ldl (i := 0) (v := .slice A4_528 z492.1.paths.length c4_528) rfl rfl Tryz.isAgg57 rfl rfl) ?_
                    refine va rfl rfl rfl (q_move (v := .int .i64 at_523) rfl (by kernel_rfl)) ?_
                    obtain ⟨hk529, h⟩ := chk_some h
                    refine va rfl rfl rfl (q_ix Tryz.underlying57 Tryz.sizeOf24 rfl rfl rfl hk529 (ho4_528.some_ (inb_lt hk529))) ?_
                    obtain ⟨A530, c531, hx532⟩ := ho4_528.slT_at at_523.toNat
                    refine va rfl rfl rfl (q_ldo (c := 0) (v := .slice A530 (gt z492.1.paths at_523.toNat).length c531) (i := 2) rfl (hx532 (inb_lt hk529)).2 rfl Tryz.isAgg24 rfl rfl) ?_
                    obtain ⟨z533, hz534, h⟩ := bnd h
                    refine e_call (is := [4]) rfl rfl (call_run Tryz.call14 rfl rfl (by kernel_rfl)) rfl (fun w hp => t_firthref19_Cut_Want (ho56.mono ((hl64.trans hl487).trans hl495)) (hx532 (inb_lt hk529)).1.2 (hx532 (inb_lt hk529)).1.1 hp hz534) ?_
                    rintro Γ535 U537 v538 hl536 ⟨A539, c540, row541, A543, c544, row545, rfl, rfl, hr542, hr546, _⟩
                    change WR _ _ _ (CC F Γ535 [row46, row541, row545, [(g17, .cells #[.int .i64 z492.1.id, .slice A1_528 z492.1.own.length c1_528, .bool z492.1.begun, .slice A3_528 z492.1.vec.length c3_528, .slice A4_528 z492.1.paths.length c4_528, .slice A5_528 z492.1.in_.length c5_528] 59 (0, 0))], r3_528, r4_528, row490]) _ _ (upd _ 144 (.tuple #[.slice A539 z533.1.length c540, .slice A543 z533.2.1.length c544, .bool z533.2.2]))
                    refine va rfl rfl rfl (q_move (v := .tuple #[.slice A539 z533.1.length c540, .slice A543 z533.2.1.length c544, .bool z533.2.2]) rfl (by kernel_rfl)) ?_
                    refine va rfl rfl rfl (q_extract (v := .slice A539 z533.1.length c540) rfl rfl rfl) ?_
                    refine va rfl rfl rfl (q_extract (v := .slice A543 z533.2.1.length c544) rfl rfl rfl) ?_
                    refine va rfl rfl rfl (q_extract (v := .bool z533.2.2) rfl rfl rfl) ?_
                    refine va rfl rfl rfl (q_assign (v := .slice A539 z533.1.length c540) rfl (by kernel_rfl)) ?_
                    refine va rfl rfl rfl (q_assign (v := .slice A543 z533.2.1.length c544) rfl (by kernel_rfl)) ?_
                    refine va rfl rfl rfl (q_assign (v := .bool z533.2.2) rfl (by kernel_rfl)) ?_
                    refine WR.nil ?_
                    change WC _ _ _ _ _ _
                    refine WC.rs ?_
                    refine va rfl rfl rfl (q_assign (v := .slice none 0 0) rfl (by kernel_rfl)) ?_
                    refine WR.nil ?_
                    change WC _ _ _ _ _ _
                    refine WC.rs ?_
                    refine va rfl rfl rfl (q_move (v := .slice none 0 0) rfl (by kernel_rfl)) ?_
                    refine va rfl rfl rfl (q_move (v := .pointer (some ⟨g17, 0, none⟩)) rfl (optp_some rfl hz58)) ?_
                    refine va rfl rfl rfl (q_nil (A := some ⟨g17, 0, none⟩) rfl rfl rfl) ?_
                    refine va rfl rfl rfl (q_fl 4 fld_59_4 rfl rfl rfl) ?_
                    refine va rfl rfl rfl (q_ldl (i := 3) (v := .slice A4_528 z492.1.paths.length c4_528) rfl rfl Tryz.isAgg57 rfl rfl) ?_
                    refine va rfl rfl rfl (q_move (v := .int .i64 at_523) rfl (by kernel_rfl)) ?_
                    refine va rfl rfl rfl (q_ix Tryz.underlying57 Tryz.sizeOf24 rfl rfl rfl hk529 ((ho4_528.mono hl536).some_ (inb_lt hk529))) ?_
                    refine va rfl rfl rfl (q_ldo (c := 0) (v := .slice A530 (gt z492.1.paths at_523.toNat).length c531) (i := 5) rfl (hx532 (inb_lt hk529)).2 rfl Tryz.isAgg24 rfl rfl) ?_
                    refine WR.sub (fun w hw => hw.pad) ?_
                    obtain ⟨hk547, h⟩ := chk_some h
                    refine e_append (T := intT) (xs := []) (ys := (gt z492.1.paths at_523.toNat)) elem_24 (i := 0) rfl rfl rfl rfl (by kernel_rfl) rfl rfl (Own.nil intT Γ535 3) (of_decide_eq_true hk547) (fun w hw => src_sl ((hx532 (inb_lt hk529)).1.2.mono hl536) hw) ?_
                    intro row548 A549 c550 ho551
                    refine va rfl rfl rfl (q_assign (v := .slice A549 (gt z492.1.paths at_523.toNat).length c550) rfl (by kernel_rfl)) ?_
                    refine WR.nil ?_
                    change WC _ _ _ _ _ _
                    refine WC.rs ?_
                    refine va rfl rfl rfl (q_move (v := .pointer (some ⟨g7, 0, none⟩)) rfl (optp_some rfl hz61)) ?_
                    refine va rfl rfl rfl (q_move (v := .slice A549 (gt z492.1.paths at_523.toNat).length c550) rfl (by kernel_rfl)) ?_
                    refine va rfl rfl rfl (q_move (v := .slice A539 z533.1.length c540) rfl (by kernel_rfl)) ?_
                    refine va rfl rfl rfl (q_move (v := .slice A543 z533.2.1.length c544) rfl (by kernel_rfl)) ?_
                    have hc556 := ho551.capz
                    intro w hw; obtain ⟨Γ552, hw, hl553, hr554⟩ := hw.seal (i := 0) rfl; have hs555 := ho551.sl hl553 hr554
                    refine WR.here (C := CC F Γ552 [[], row46, row541, row545, [(g17, .cells #[.int .i64 z492.1.id, .slice A1_528 z492.1.own.length c1_528, .bool z492.1.begun, .slice A3_528 z492.1.vec.length c3_528, .slice A4_528 z492.1.paths.length c4_528, .slice A5_528 z492.1.in_.length c5_528] 59 (0, 0))], r3_528, r4_528, row490]) ?_ hw
                    clear hw
                    have hc561 := (hr542.mono hl553).capz
                    intro w hw; obtain ⟨Γ557, hw, hl558, hr559⟩ := hw.seal (i := 2) rfl; have hs560 := (hr542.mono hl553).sl hl558 hr559
                    refine WR.here (C := CC F Γ557 [[], row46, [], row545, [(g17, .cells #[.int .i64 z492.1.id, .slice A1_528 z492.1.own.length c1_528, .bool z492.1.begun, .slice A3_528 z492.1.vec.length c3_528, .slice A4_528 z492.1.paths.length c4_528, .slice A5_528 z492.1.in_.length c5_528] 59 (0, 0))], r3_528, r4_528, row490]) ?_ hw
                    clear hw
                    have hc566 := (hr546.mono (hl553.trans hl558)).capz
                    intro w hw; obtain ⟨Γ562, hw, hl563, hr564⟩ := hw.seal (i := 3) rfl; have hs565 := (hr546.mono (hl553.trans hl558)).sl hl563 hr564
                    refine WR.here (C := CC F Γ562 [[], row46, [], [], [(g17, .cells #[.int .i64 z492.1.id, .slice A1_528 z492.1.own.length c1_528, .bool z492.1.begun, .slice A3_528 z492.1.vec.length c3_528, .slice A4_528 z492.1.paths.length c4_528, .slice A5_528 z492.1.in_.length c5_528] 59 (0, 0))], r3_528, r4_528, row490]) ?_ hw
                    clear hw
                    obtain ⟨z567, hz568, h⟩ := bnd h
                    refine e_call (is := [7]) rfl rfl (call_run Tryz.call26 rfl rfl (by kernel_rfl)) rfl (fun w hp => t_pull_Pull_Tell (hr491.mono ((((hl495.trans hl536).trans hl553).trans hl558).trans hl563)) (hs555.mono (hl558.trans hl563)) hc556 (hs560.mono hl563) hc561 hs565 hc566 hp hz568) ?_
                    rintro Γ569 U571 v572 hl570 ⟨row573, rfl, rfl, hr574, _⟩
                    change WR _ _ _ (CC F Γ569 [row573, [], row46, [], [], [(g17, .cells #[.int .i64 z492.1.id, .slice A1_528 z492.1.own.length c1_528, .bool z492.1.begun, .slice A3_528 z492.1.vec.length c3_528, .slice A4_528 z492.1.paths.length c4_528, .slice A5_528 z492.1.in_.length c5_528] 59 (0, 0))], r3_528, r4_528]) _ _ (upd _ 161 (.bool z567.2))
                    refine va rfl rfl rfl (q_move (v := .pointer (some ⟨g17, 0, none⟩)) rfl (optp_some rfl hz58)) ?_
                    refine va rfl rfl rfl (q_move (v := .slice A549 (gt z492.1.paths at_523.toNat).length c550) rfl (by kernel_rfl)) ?_
                    refine va rfl rfl rfl (q_move (v := .slice A539 z533.1.length c540) rfl (by kernel_rfl)) ?_
                    refine va rfl rfl rfl (q_move (v := .slice A543 z533.2.1.length c544) rfl (by kernel_rfl)) ?_
                    intro w hw; have hw := hw.fold (is := [5, 5, 5]) rfl hrow_528
                    refine WR.here (C := CC F Γ569 [row498, row573, [], row46, [], []]) ?_ hw
                    clear hw
                    obtain ⟨z576, hz577, h⟩ := bnd h
                    refine e_call (is := [0]) rfl rfl (call_run Tryz.call27 rfl rfl (by kernel_rfl)) rfl (fun w hp => t_firthref19_Pull_Tell (hr499.mono ((((hl536.trans hl553).trans hl558).trans hl563).trans hl570)) (hs555.mono ((hl558.trans hl563).trans hl570)) hc556 (hs560.mono (hl563.trans hl570)) hc561 (hs565.mono hl570) hc566 hp hz577) ?_
                    rintro Γ578 U580 v581 hl579 ⟨row582, rfl, rfl, hr583, _⟩
                    change WR _ _ _ (CC F Γ578 [row582, row573, [], row46, [], []]) _ _ (upd _ 166 (.bool z576.2))
                    refine va rfl rfl rfl (q_bneq Tryz.underlying4 rfl rfl rfl) ?_
                    refine WR.nil ?_
                    change WC _ _ _ _ _ _
                    refine WC.cif h (by kernel_rfl) (fun hb584 h => ?_) (fun hb584 h => ?_)
                    · skip
                      refine WC.rs ?_
                      refine va rfl rfl rfl (q_assign (v := .bool false) rfl (by kernel_rfl)) ?_
                      refine WR.nil ?_
                      change WC _ _ _ _ _ _
                      refine WC.ret ?_
                      intro w hw
                      obtain rfl := Option.some.inj h
                      subst hF
                      exact ⟨by kernel_rfl, hw.fr⟩
                    · skip
                      refine WC.skip ?_
                      intro w hw
                      exact ⟨z576.1, z567.1, Γ578, row582, row573, h, (sl_ (by kernel_rfl)), (hw.only (is := [0, 0, 1]) rfl), (((((hl536.trans hl553).trans hl558).trans hl563).trans hl570).trans hl579), hr583, (hr574.mono hl579), trivial⟩
                · skip
                  refine WC.skip ?_
                  intro w hw
                  have hw := hw.fold (is := [0, 0, 0]) rfl hrow_517
                  exact ⟨z492.1, z484.1, Γ494, row498, row490, h, (sl_ (by kernel_rfl)), (hw.only (is := [0, 0, 1]) rfl), (Gh.refl _), hr499, (hr491.mono hl495), trivial⟩
              · skip
                rintro σ w ⟨o504, o507, Γ502, row505, row508, h, hsl, hw, hl503, ho506, ho509, -⟩
                refine Wpt.slots hsl ?_
                refine WC.here (C := CC F Γ502 [row505, row508, row46]) ?_ hw
                clear hw hsl
                refine WC.cut (fun σ w => ∃ (x_588 : Bool), ∃ (Γ586 : Gh), m_firthlaw19_PullPlays_j61 f71 o504 o507 x_588 = some r ∧ slots σ [(2, .slice Ascript script.length cscript), (7, optp z1.1 g7), (9, optp z11.1 g17), (11, optp z39.1 g45), (13, .int .i64 ((i72 : Nat) : Int)), (202, .bool x_588)] ∧ CC F Γ586 [row505, row508, row46] w ∧ Gh.le Γ502 Γ586 ∧ True) ?_ ?_
                · skip
                  have hq := ho506
                  obtain ⟨A1_589, c1_589, A3_589, c3_589, r3_589, A4_589, c4_589, r4_589, A5_589, c5_589, hrow_589, ho0_589, ho1_589, ho2_589, ho3_589, ho4_589, ho5_589, ho6_589, -⟩ := hq
                  intro w hw; have hw := hw.unfold (i := 0) rfl hrow_589
                  refine WC.here (C := CC F Γ502 [[(g17, .cells #[.int .i64 o504.id, .slice A1_589 o504.own.length c1_589, .bool o504.begun, .slice A3_589 o504.vec.length c3_589, .slice A4_589 o504.paths.length c4_589, .slice A5_589 o504.in_.length c5_589] 59 (0, 0))], r3_589, r4_589, row508, row46]) ?_ hw
                  clear hw
                  intro w hw; have h0590 := hw.le
                  refine WC.here (C := CC F Γ502 [[(g17, .cells #[.int .i64 o504.id, .slice A1_589 o504.own.length c1_589, .bool o504.begun, .slice A3_589 o504.vec.length c3_589, .slice A4_589 o504.paths.length c4_589, .slice A5_589 o504.in_.length c5_589] 59 (0, 0))], r3_589, r4_589, row508, row46]) ?_ hw; clear hw
                  refine WC.held (CC F Γ502 [[(g17, .cells #[.int .i64 o504.id, .slice A1_589 o504.own.length c1_589, .bool o504.begun, .slice A3_589 o504.vec.length c3_589, .slice A4_589 o504.paths.length c4_589, .slice A5_589 o504.in_.length c5_589] 59 (0, 0))], r3_589, r4_589]) (by kernel_rfl) (fun w hw => hw.drawn _) ?_
                  change WH _ _ _ _ (CC F Γ502 [[(g17, .cells #[.int .i64 o504.id, .slice A1_589 o504.own.length c1_589, .bool o504.begun, .slice A3_589 o504.vec.length c3_589, .slice A4_589 o504.paths.length c4_589, .slice A5_589 o504.in_.length c5_589] 59 (0, 0))], r3_589, r4_589, row508, row46]) _ 35 #[false, false, false, false, false, false, false, false, false, false, false, false, false, false, false, false, false, false, false, false, false, false, false, false, false, false, false, false, false, false, false, false, false, false, false] _
                  refine ht (i := 0) rfl (by kernel_rfl) rfl rfl rfl (fun w hw => hw.back (Gh.refl _) h0590 (.cons_cons _ (.cons_cons _ (.cons_cons _ (.cons _ (.cons _ .slnil)))))) (q_move (v := .pointer (some ⟨g7, 0, none⟩)) rfl (optp_some rfl hz61)) ?_
                  refine ht (i := 2) rfl (by kernel_rfl) rfl rfl rfl (fun w hw => hw.back (Gh.refl _) h0590 (.cons_cons _ (.cons_cons _ (.cons_cons _ (.cons _ (.cons _ .slnil)))))) (q_move (v := .pointer (some ⟨g17, 0, none⟩)) rfl (optp_some rfl hz58)) ?_
                  refine WH.lone (i := 1) (by kernel_rfl) rfl ?_
                  obtain ⟨z591, hz592, h⟩ := bnd h
                  refine vc rfl rfl rfl (q_call (call_run Tryz.call28 rfl rfl (by kernel_rfl)) (fun w hw => t_pull_Pull_Done (Γ := Gh.all w) (ho509.mono hw.sat.le_all) (hw.ra 3 rfl) (Sat.all w) hz592)) ?_
                  refine WR.nil ?_
                  refine WH.next (fun w hw => hw.back (Gh.refl _) h0590 (.cons_cons _ (.cons_cons _ (.cons_cons _ (.cons _ (.cons _ .slnil)))))) ?_
                  refine WH.lone (i := 3) (by kernel_rfl) rfl ?_
                  obtain ⟨z593, hz594, h⟩ := bnd h
                  refine vc rfl rfl rfl (q_call (call_run Tryz.call29 rfl rfl (by kernel_rfl)) (fun w hw => t_firthref19_Pull_Done (Γ := Gh.all w) (ho506.mono hw.sat.le_all) (hw.raU [0, 0, 0] rfl hrow_589) (Sat.all w) hz594)) ?_
                  refine WR.nil ?_
                  refine WH.next (fun w hw => hw.back (Gh.refl _) h0590 (.cons_cons _ (.cons_cons _ (.cons_cons _ (.cons _ (.cons _ .slnil)))))) ?_
                  refine ht (i := 4) rfl (by kernel_rfl) rfl rfl rfl (fun w hw => hw.back (Gh.refl _) h0590 (.cons_cons _ (.cons_cons _ (.cons_cons _ (.cons _ (.cons _ .slnil)))))) (q_bneq Tryz.underlying4 rfl rfl rfl) ?_
                  refine ht (i := 5) rfl (by kernel_rfl) rfl rfl rfl (fun w hw => hw.back (Gh.refl _) h0590 (.cons_cons _ (.cons_cons _ (.cons_cons _ (.cons _ (.cons _ .slnil)))))) (q_move (v := .bool (z591 != z593)) rfl (by kernel_rfl)) ?_
                  refine hg0 (i := 6) rfl (by kernel_rfl) rfl rfl rfl rfl rfl (fun w hw => hw.back (Gh.refl _) h0590 (.cons_cons _ (.cons_cons _ (.cons_cons _ (.cons _ (.cons _ .slnil)))))) (fun hg595 => (q_move (v := .pointer (some ⟨g7, 0, none⟩)) rfl (optp_some rfl hz61))) ?_
                  refine hg0 (i := 8) rfl (by kernel_rfl) rfl rfl rfl rfl rfl (fun w hw => hw.back (Gh.refl _) h0590 (.cons_cons _ (.cons_cons _ (.cons_cons _ (.cons _ (.cons _ .slnil)))))) (fun hg596 => (q_move (v := .pointer (some ⟨g17, 0, none⟩)) rfl (optp_some rfl hz58))) ?_
                  refine hg0 (i := 9) rfl (by kernel_rfl) rfl rfl rfl rfl rfl (fun w hw => hw.back (Gh.refl _) h0590 (.cons_cons _ (.cons_cons _ (.cons_cons _ (.cons _ (.cons _ .slnil)))))) (fun hg597 => (q_nil (A := some ⟨g17, 0, none⟩) rfl (gu hg597 rfl) rfl)) ?_
                  refine hg0 (i := 10) rfl (by kernel_rfl) rfl rfl rfl rfl rfl (fun w hw => hw.back (Gh.refl _) h0590 (.cons_cons _ (.cons_cons _ (.cons_cons _ (.cons _ (.cons _ .slnil)))))) (fun hg598 => (q_fl 4 fld_59_4 rfl (gu hg598 rfl) rfl)) ?_
                  refine hg0 (i := 11) rfl (by kernel_rfl) rfl rfl rfl rfl rfl (fun w hw => hw.back (Gh.refl _) h0590 (.cons_cons _ (.cons_cons _ (.cons_cons _ (.cons _ (.cons _ .slnil)))))) (fun hg599 => (q_ldl (i := 0) (v := .slice A4_589 o504.paths.length c4_589) rfl rfl Tryz.isAgg57 (gu hg599 rfl) rfl)) ?_
                  refine (Bool.eq_false_or_eq_true (!(z591 != z593))).elim (fun hb600 => ?_) (fun hb600 => ?_)
                  · skip
                    have h := bt hb600 h
                    refine WH.lone (i := 7) (by kernel_rfl) rfl ?_
                    refine WR.sat (c0 := true) (g := (z591 != z593)) rfl rfl rfl hb600 ?_
                    obtain ⟨z601, hz602, h⟩ := bnd h
                    refine e_call (is := [3]) rfl rfl (call_run Tryz.call31 rfl rfl (args1 (gu hb600 rfl))) rfl (fun w hp => t_pull_Pull_Wants ho509 hp hz602) ?_
                    rintro Γ603 U605 v606 hl604 ⟨A607, c608, row609, rfl, rfl, hr610, _⟩
                    change WR _ _ _ (CC F Γ603 [row508, row609, [(g17, .cells #[.int .i64 o504.id, .slice A1_589 o504.own.length c1_589, .bool o504.begun, .slice A3_589 o504.vec.length c3_589, .slice A4_589 o504.paths.length c4_589, .slice A5_589 o504.in_.length c5_589] 59 (0, 0))], r3_589, r4_589, row46]) _ _ (upd _ 175 (.slice A607 z601.length c608))
                    refine WR.nil ?_
                    refine WH.next (fun w hw => hw.back hl604 h0590 (.cons _ (.cons _ (.cons_cons _ (.cons_cons _ (.cons_cons _ (.cons _ .slnil))))))) ?_
                    refine WH.lone (i := 12) (by kernel_rfl) rfl ?_
                    obtain ⟨z612, hz613, h⟩ := bnd h
                    refine vg0 rfl rfl rfl rfl rfl (fun hg611 => (q_call (call_run Tryz.call30 rfl rfl (args2 rfl (gu hg611 rfl))) (fun w hw => t_firthlaw19_paths (Γ := Gh.all w) (hr610.sl hw.sat.le_all (hw.ra 1 rfl)) hr610.capz ((ho4_589.mono hl604).sl hw.sat.le_all (hw.ra 4 rfl)) (ho4_589.mono hl604).capz (Sat.all w) (gc_of hz613 hg611)))) ?_
                    refine WR.nil ?_
                    refine WH.next (fun w hw => hw.back hl604 h0590 (.cons _ (.cons _ (.cons_cons _ (.cons_cons _ (.cons_cons _ (.cons _ .slnil))))))) ?_
                    refine hg0 (i := 13) rfl (by kernel_rfl) rfl rfl rfl rfl rfl (fun w hw => hw.back hl604 h0590 (.cons _ (.cons _ (.cons_cons _ (.cons_cons _ (.cons_cons _ (.cons _ .slnil))))))) (fun hg614 => (q_not rfl (gu hg614 rfl))) ?_
                    refine ht (i := 14) rfl (by kernel_rfl) rfl rfl rfl (fun w hw => hw.back hl604 h0590 (.cons _ (.cons _ (.cons_cons _ (.cons_cons _ (.cons_cons _ (.cons _ .slnil))))))) (q_pick_f (v := .bool (!z612)) rfl rfl (not_t hb600) (gu hb600 rfl)) ?_
                    refine ht (i := 15) rfl (by kernel_rfl) rfl rfl rfl (fun w hw => hw.back hl604 h0590 (.cons _ (.cons _ (.cons_cons _ (.cons_cons _ (.cons_cons _ (.cons _ .slnil))))))) (q_move (v := .bool (!z612)) rfl (by kernel_rfl)) ?_
                    refine hg0 (i := 16) rfl (by kernel_rfl) rfl rfl rfl rfl rfl (fun w hw => hw.back hl604 h0590 (.cons _ (.cons _ (.cons_cons _ (.cons_cons _ (.cons_cons _ (.cons _ .slnil))))))) (fun hg615 => (q_move (v := .pointer (some ⟨g7, 0, none⟩)) rfl (optp_some rfl hz61))) ?_
                    refine hg0 (i := 18) rfl (by kernel_rfl) rfl rfl rfl rfl rfl (fun w hw => hw.back hl604 h0590 (.cons _ (.cons _ (.cons_cons _ (.cons_cons _ (.cons_cons _ (.cons _ .slnil))))))) (fun hg616 => (q_move (v := .pointer (some ⟨g17, 0, none⟩)) rfl (optp_some rfl hz58))) ?_
                    refine hg0 (i := 19) rfl (by kernel_rfl) rfl rfl rfl rfl rfl (fun w hw => hw.back hl604 h0590 (.cons _ (.cons _ (.cons_cons _ (.cons_cons _ (.cons_cons _ (.cons _ .slnil))))))) (fun hg617 => (q_nil (A := some ⟨g17, 0, none⟩) rfl (gu hg617 rfl) rfl)) ?_
                    refine hg0 (i := 20) rfl (by kernel_rfl) rfl rfl rfl rfl rfl (fun w hw => hw.back hl604 h0590 (.cons _ (.cons _ (.cons_cons _ (.cons_cons _ (.cons_cons _ (.cons _ .slnil))))))) (fun hg618 => (q_fl 5 fld_59_5 rfl (gu hg618 rfl) rfl)) ?_
                    refine hg0 (i := 21) rfl (by kernel_rfl) rfl rfl rfl rfl rfl (fun w hw => hw.back hl604 h0590 (.cons _ (.cons _ (.cons_cons _ (.cons_cons _ (.cons_cons _ (.cons _ .slnil))))))) (fun hg619 => (q_ldl (i := 0) (v := .slice A5_589 o504.in_.length c5_589) rfl rfl Tryz.isAgg23 (gu hg619 rfl) rfl)) ?_
                    refine (Bool.eq_false_or_eq_true (!(!z612))).elim (fun hb620 => ?_) (fun hb620 => ?_)
                    · skip
                      have h := bt hb620 h
                      refine WH.lone (i := 17) (by kernel_rfl) rfl ?_
                      refine WR.sat (c0 := true) (g := (!z612)) rfl rfl rfl hb620 ?_
                      obtain ⟨z621, hz622, h⟩ := bnd h
                      refine e_call (is := [0]) rfl rfl (call_run Tryz.call32 rfl rfl (args1 (gu hb620 rfl))) rfl (fun w hp => t_pull_Pull_Staged (ho509.mono hl604) hp hz622) ?_
                      rintro Γ623 U625 v626 hl624 ⟨A627, c628, row629, rfl, rfl, hr630, _⟩
                      change WR _ _ _ (CC F Γ623 [row508, row629, row609, [(g17, .cells #[.int .i64 o504.id, .slice A1_589 o504.own.length c1_589, .bool o504.begun, .slice A3_589 o504.vec.length c3_589, .slice A4_589 o504.paths.length c4_589, .slice A5_589 o504.in_.length c5_589] 59 (0, 0))], r3_589, r4_589, row46]) _ _ (upd _ 185 (.slice A627 z621.length c628))
                      refine WR.nil ?_
                      refine WH.next (fun w hw => hw.back (hl604.trans hl624) h0590 (.cons _ (.cons _ (.cons _ (.cons_cons _ (.cons_cons _ (.cons_cons _ (.cons _ .slnil)))))))) ?_
                      refine WH.lone (i := 22) (by kernel_rfl) rfl ?_
                      obtain ⟨z632, hz633, h⟩ := bnd h
                      refine vg0 rfl rfl rfl rfl rfl (fun hg631 => (q_call (call_run Tryz.call16 rfl rfl (args2 rfl (gu hg631 rfl))) (fun w hw => t_firthref06_SameRecs (Γ := Gh.all w) (hr630.sl hw.sat.le_all (hw.ra 1 rfl)) hr630.capz ((ho6_589.mono (hl604.trans hl624)).mono hw.sat.le_all) ho5_589 (Sat.all w) (gc_of hz633 hg631)))) ?_
                      refine WR.nil ?_
                      refine WH.next (fun w hw => hw.back (hl604.trans hl624) h0590 (.cons _ (.cons _ (.cons _ (.cons_cons _ (.cons_cons _ (.cons_cons _ (.cons _ .slnil)))))))) ?_
                      refine hg0 (i := 23) rfl (by kernel_rfl) rfl rfl rfl rfl rfl (fun w hw => hw.back (hl604.trans hl624) h0590 (.cons _ (.cons _ (.cons _ (.cons_cons _ (.cons_cons _ (.cons_cons _ (.cons _ .slnil)))))))) (fun hg634 => (q_not rfl (gu hg634 rfl))) ?_
                      refine ht (i := 24) rfl (by kernel_rfl) rfl rfl rfl (fun w hw => hw.back (hl604.trans hl624) h0590 (.cons _ (.cons _ (.cons _ (.cons_cons _ (.cons_cons _ (.cons_cons _ (.cons _ .slnil)))))))) (q_pick_f (v := .bool (!z632)) rfl rfl (not_t hb620) (gu hb620 rfl)) ?_
                      refine ht (i := 25) rfl (by kernel_rfl) rfl rfl rfl (fun w hw => hw.back (hl604.trans hl624) h0590 (.cons _ (.cons _ (.cons _ (.cons_cons _ (.cons_cons _ (.cons_cons _ (.cons _ .slnil)))))))) (q_move (v := .bool (!z632)) rfl (by kernel_rfl)) ?_
                      refine hg0 (i := 26) rfl (by kernel_rfl) rfl rfl rfl rfl rfl (fun w hw => hw.back (hl604.trans hl624) h0590 (.cons _ (.cons _ (.cons _ (.cons_cons _ (.cons_cons _ (.cons_cons _ (.cons _ .slnil)))))))) (fun hg635 => (q_move (v := .pointer (some ⟨g7, 0, none⟩)) rfl (optp_some rfl hz61))) ?_
                      refine hg0 (i := 28) rfl (by kernel_rfl) rfl rfl rfl rfl rfl (fun w hw => hw.back (hl604.trans hl624) h0590 (.cons _ (.cons _ (.cons _ (.cons_cons _ (.cons_cons _ (.cons_cons _ (.cons _ .slnil)))))))) (fun hg636 => (q_move (v := .pointer (some ⟨g17, 0, none⟩)) rfl (optp_some rfl hz58))) ?_
                      refine hg0 (i := 29) rfl (by kernel_rfl) rfl rfl rfl rfl rfl (fun w hw => hw.back (hl604.trans hl624) h0590 (.cons _ (.cons _ (.cons _ (.cons_cons _ (.cons_cons _ (.cons_cons _ (.cons _ .slnil)))))))) (fun hg637 => (q_nil (A := some ⟨g17, 0, none⟩) rfl (gu hg637 rfl) rfl)) ?_
                      refine hg0 (i := 30) rfl (by kernel_rfl) rfl rfl rfl rfl rfl (fun w hw => hw.back (hl604.trans hl624) h0590 (.cons _ (.cons _ (.cons _ (.cons_cons _ (.cons_cons _ (.cons_cons _ (.cons _ .slnil)))))))) (fun hg638 => (q_fl 3 fld_59_3 rfl (gu hg638 rfl) rfl)) ?_
                      refine hg0 (i := 31) rfl (by kernel_rfl) rfl rfl rfl rfl rfl (fun w hw => hw.back (hl604.trans hl624) h0590 (.cons _ (.cons _ (.cons _ (.cons_cons _ (.cons_cons _ (.cons_cons _ (.cons _ .slnil)))))))) (fun hg639 => (q_ldl (i := 0) (v := .slice A3_589 o504.vec.length c3_589) rfl rfl Tryz.isAgg22 (gu hg639 rfl) rfl)) ?_
                      refine (Bool.eq_false_or_eq_true (!(!z632))).elim (fun hb640 => ?_) (fun hb640 => ?_)
                      · skip
                        have h := bt hb640 h
                        refine WH.lone (i := 27) (by kernel_rfl) rfl ?_
                        refine WR.sat (c0 := true) (g := (!z632)) rfl rfl rfl hb640 ?_
                        obtain ⟨z641, hz642, h⟩ := bnd h
                        refine e_call (is := [0]) rfl rfl (call_run Tryz.call33 rfl rfl (args1 (gu hb640 rfl))) rfl (fun w hp => t_pull_Pull_Vec (ho509.mono (hl604.trans hl624)) hp hz642) ?_
                        rintro Γ643 U645 v646 hl644 ⟨A647, c648, row649, rfl, rfl, hr650, _⟩
                        change WR _ _ _ (CC F Γ643 [row508, row649, row629, row609, [(g17, .cells #[.int .i64 o504.id, .slice A1_589 o504.own.length c1_589, .bool o504.begun, .slice A3_589 o504.vec.length c3_589, .slice A4_589 o504.paths.length c4_589, .slice A5_589 o504.in_.length c5_589] 59 (0, 0))], r3_589, r4_589, row46]) _ _ (upd _ 195 (.slice A647 z641.length c648))
                        refine WR.nil ?_
                        refine WH.next (fun w hw => hw.back ((hl604.trans hl624).trans hl644) h0590 (.cons _ (.cons _ (.cons _ (.cons _ (.cons_cons _ (.cons_cons _ (.cons_cons _ (.cons _ .slnil))))))))) ?_
                        refine WH.lone (i := 32) (by kernel_rfl) rfl ?_
                        obtain ⟨z652, hz653, h⟩ := bnd h
                        refine vg0 rfl rfl rfl rfl rfl (fun hg651 => (q_call (call_run Tryz.call17 rfl rfl (args2 rfl (gu hg651 rfl))) (fun w hw => t_firthref04_Same (Γ := Gh.all w) (hr650.sl hw.sat.le_all (hw.ra 1 rfl)) hr650.capz ((ho3_589.mono ((hl604.trans hl624).trans hl644)).sl hw.sat.le_all (hw.ra 5 rfl)) (ho3_589.mono ((hl604.trans hl624).trans hl644)).capz (Sat.all w) (gc_of hz653 hg651)))) ?_
                        refine WR.nil ?_
                        refine WH.next (fun w hw => hw.back ((hl604.trans hl624).trans hl644) h0590 (.cons _ (.cons _ (.cons _ (.cons _ (.cons_cons _ (.cons_cons _ (.cons_cons _ (.cons _ .slnil))))))))) ?_
                        refine hg0 (i := 33) rfl (by kernel_rfl) rfl rfl rfl rfl rfl (fun w hw => hw.back ((hl604.trans hl624).trans hl644) h0590 (.cons _ (.cons _ (.cons _ (.cons _ (.cons_cons _ (.cons_cons _ (.cons_cons _ (.cons _ .slnil))))))))) (fun hg654 => (q_not rfl (gu hg654 rfl))) ?_
                        refine ht (i := 34) rfl (by kernel_rfl) rfl rfl rfl (fun w hw => hw.back ((hl604.trans hl624).trans hl644) h0590 (.cons _ (.cons _ (.cons _ (.cons _ (.cons_cons _ (.cons_cons _ (.cons_cons _ (.cons _ .slnil))))))))) (q_pick_f (v := .bool (!z652)) rfl rfl (not_t hb640) (gu hb640 rfl)) ?_
                        refine WH.done (by kernel_rfl) ?_
                        intro w hw
                        have hw := hw.fold (is := [4, 4, 4]) rfl hrow_589
                        exact ⟨(!z652), Γ643, h, (sl_ (by kernel_rfl)), (hw.only (is := [0, 0, 3]) rfl), ((hl604.trans hl624).trans hl644), trivial⟩
                      · skip
                        have h := bf hb640 h
                        refine hg0 (g := (!z632)) (i := 27) (v := undef) rfl (by kernel_rfl) rfl rfl rfl rfl rfl (fun w hw => hw.back (hl604.trans hl624) h0590 (.cons _ (.cons _ (.cons _ (.cons_cons _ (.cons_cons _ (.cons_cons _ (.cons _ .slnil)))))))) (no_tf hb640) ?_
                        refine WH.env (v := undef) (gv_false hb640) ?_
                        refine hg0 (g := (!z632)) (i := 32) (v := undef) rfl (by kernel_rfl) rfl rfl rfl rfl rfl (fun w hw => hw.back (hl604.trans hl624) h0590 (.cons _ (.cons _ (.cons _ (.cons_cons _ (.cons_cons _ (.cons_cons _ (.cons _ .slnil)))))))) (no_tf hb640) ?_
                        refine WH.env (v := undef) (gv_false hb640) ?_
                        refine hg0 (g := (!z632)) (i := 33) (v := undef) rfl (by kernel_rfl) rfl rfl rfl rfl rfl (fun w hw => hw.back (hl604.trans hl624) h0590 (.cons _ (.cons _ (.cons _ (.cons_cons _ (.cons_cons _ (.cons_cons _ (.cons _ .slnil)))))))) (no_tf hb640) ?_
                        refine WH.env (v := undef) (gv_false hb640) ?_
                        refine ht (i := 34) rfl (by kernel_rfl) rfl rfl rfl (fun w hw => hw.back (hl604.trans hl624) h0590 (.cons _ (.cons _ (.cons _ (.cons_cons _ (.cons_cons _ (.cons_cons _ (.cons _ .slnil)))))))) (q_pick_t (v := .bool true) rfl rfl (not_f hb640) (by kernel_rfl)) ?_
                        refine WH.done (by kernel_rfl) ?_
                        intro w hw
                        have hw := hw.fold (is := [3, 3, 3]) rfl hrow_589
                        exact ⟨true, Γ623, h, (sl_ (by kernel_rfl)), (hw.only (is := [0, 0, 2]) rfl), (hl604.trans hl624), trivial⟩
                    · skip
                      have h := bf hb620 h
                      refine hg0 (g := (!z612)) (i := 17) (v := undef) rfl (by kernel_rfl) rfl rfl rfl rfl rfl (fun w hw => hw.back hl604 h0590 (.cons _ (.cons _ (.cons_cons _ (.cons_cons _ (.cons_cons _ (.cons _ .slnil))))))) (no_tf hb620) ?_
                      refine WH.env (v := undef) (gv_false hb620) ?_
                      refine hg0 (g := (!z612)) (i := 22) (v := undef) rfl (by kernel_rfl) rfl rfl rfl rfl rfl (fun w hw => hw.back hl604 h0590 (.cons _ (.cons _ (.cons_cons _ (.cons_cons _ (.cons_cons _ (.cons _ .slnil))))))) (no_tf hb620) ?_
                      refine WH.env (v := undef) (gv_false hb620) ?_
                      refine hg0 (g := (!z612)) (i := 23) (v := undef) rfl (by kernel_rfl) rfl rfl rfl rfl rfl (fun w hw => hw.back hl604 h0590 (.cons _ (.cons _ (.cons_cons _ (.cons_cons _ (.cons_cons _ (.cons _ .slnil))))))) (no_tf hb620) ?_
                      refine WH.env (v := undef) (gv_false hb620) ?_
                      refine ht (i := 24) rfl (by kernel_rfl) rfl rfl rfl (fun w hw => hw.back hl604 h0590 (.cons _ (.cons _ (.cons_cons _ (.cons_cons _ (.cons_cons _ (.cons _ .slnil))))))) (q_pick_t (v := .bool true) rfl rfl (not_f hb620) (by kernel_rfl)) ?_
                      refine ht (i := 25) rfl (by kernel_rfl) rfl rfl rfl (fun w hw => hw.back hl604 h0590 (.cons _ (.cons _ (.cons_cons _ (.cons_cons _ (.cons_cons _ (.cons _ .slnil))))))) (q_move (v := .bool true) rfl (by kernel_rfl)) ?_
                      refine hg0 (g := true) (i := 26) (v := undef) rfl (by kernel_rfl) rfl rfl rfl rfl rfl (fun w hw => hw.back hl604 h0590 (.cons _ (.cons _ (.cons_cons _ (.cons_cons _ (.cons_cons _ (.cons _ .slnil))))))) (no_tf (nott rfl)) ?_
                      refine WH.env (v := undef) (gv_false (nott rfl)) ?_
                      refine hg0 (g := true) (i := 27) (v := undef) rfl (by kernel_rfl) rfl rfl rfl rfl rfl (fun w hw => hw.back hl604 h0590 (.cons _ (.cons _ (.cons_cons _ (.cons_cons _ (.cons_cons _ (.cons _ .slnil))))))) (no_tf (nott rfl)) ?_
                      refine WH.env (v := undef) (gv_false (nott rfl)) ?_
                      refine hg0 (g := true) (i := 28) (v := undef) rfl (by kernel_rfl) rfl rfl rfl rfl rfl (fun w hw => hw.back hl604 h0590 (.cons _ (.cons _ (.cons_cons _ (.cons_cons _ (.cons_cons _ (.cons _ .slnil))))))) (no_tf (nott rfl)) ?_
                      refine WH.env (v := undef) (gv_false (nott rfl)) ?_
                      refine hg0 (g := true) (i := 29) (v := undef) rfl (by kernel_rfl) rfl rfl rfl rfl rfl (fun w hw => hw.back hl604 h0590 (.cons _ (.cons _ (.cons_cons _ (.cons_cons _ (.cons_cons _ (.cons _ .slnil))))))) (no_tf (nott rfl)) ?_
                      refine WH.env (v := undef) (gv_false (nott rfl)) ?_
                      refine hg0 (g := true) (i := 30) (v := undef) rfl (by kernel_rfl) rfl rfl rfl rfl rfl (fun w hw => hw.back hl604 h0590 (.cons _ (.cons _ (.cons_cons _ (.cons_cons _ (.cons_cons _ (.cons _ .slnil))))))) (no_tf (nott rfl)) ?_
                      refine WH.env (v := undef) (gv_false (nott rfl)) ?_
                      refine hg0 (g := true) (i := 31) (v := undef) rfl (by kernel_rfl) rfl rfl rfl rfl rfl (fun w hw => hw.back hl604 h0590 (.cons _ (.cons _ (.cons_cons _ (.cons_cons _ (.cons_cons _ (.cons _ .slnil))))))) (no_tf (nott rfl)) ?_
                      refine WH.env (v := undef) (gv_false (nott rfl)) ?_
                      refine hg0 (g := true) (i := 32) (v := undef) rfl (by kernel_rfl) rfl rfl rfl rfl rfl (fun w hw => hw.back hl604 h0590 (.cons _ (.cons _ (.cons_cons _ (.cons_cons _ (.cons_cons _ (.cons _ .slnil))))))) (no_tf (nott rfl)) ?_
                      refine WH.env (v := undef) (gv_false (nott rfl)) ?_
                      refine hg0 (g := true) (i := 33) (v := undef) rfl (by kernel_rfl) rfl rfl rfl rfl rfl (fun w hw => hw.back hl604 h0590 (.cons _ (.cons _ (.cons_cons _ (.cons_cons _ (.cons_cons _ (.cons _ .slnil))))))) (no_tf (nott rfl)) ?_
                      refine WH.env (v := undef) (gv_false (nott rfl)) ?_
                      refine ht (i := 34) rfl (by kernel_rfl) rfl rfl rfl (fun w hw => hw.back hl604 h0590 (.cons _ (.cons _ (.cons_cons _ (.cons_cons _ (.cons_cons _ (.cons _ .slnil))))))) (q_pickt (v := .bool true) rfl rfl rfl) ?_
                      refine WH.done (by kernel_rfl) ?_
                      intro w hw
                      have hw := hw.fold (is := [2, 2, 2]) rfl hrow_589
                      exact ⟨true, Γ603, h, (sl_ (by kernel_rfl)), (hw.only (is := [0, 0, 1]) rfl), hl604, trivial⟩
                  · skip
                    have h := bf hb600 h
                    refine hg0 (g := (z591 != z593)) (i := 7) (v := undef) rfl (by kernel_rfl) rfl rfl rfl rfl rfl (fun w hw => hw.back (Gh.refl _) h0590 (.cons_cons _ (.cons_cons _ (.cons_cons _ (.cons _ (.cons _ .slnil)))))) (no_tf hb600) ?_
                    refine WH.env (v := undef) (gv_false hb600) ?_
                    refine hg0 (g := (z591 != z593)) (i := 12) (v := undef) rfl (by kernel_rfl) rfl rfl rfl rfl rfl (fun w hw => hw.back (Gh.refl _) h0590 (.cons_cons _ (.cons_cons _ (.cons_cons _ (.cons _ (.cons _ .slnil)))))) (no_tf hb600) ?_
                    refine WH.env (v := undef) (gv_false hb600) ?_
                    refine hg0 (g := (z591 != z593)) (i := 13) (v := undef) rfl (by kernel_rfl) rfl rfl rfl rfl rfl (fun w hw => hw.back (Gh.refl _) h0590 (.cons_cons _ (.cons_cons _ (.cons_cons _ (.cons _ (.cons _ .slnil)))))) (no_tf hb600) ?_
                    refine WH.env (v := undef) (gv_false hb600) ?_
                    refine ht (i := 14) rfl (by kernel_rfl) rfl rfl rfl (fun w hw => hw.back (Gh.refl _) h0590 (.cons_cons _ (.cons_cons _ (.cons_cons _ (.cons _ (.cons _ .slnil)))))) (q_pick_t (v := .bool true) rfl rfl (not_f hb600) (by kernel_rfl)) ?_
                    refine ht (i := 15) rfl (by kernel_rfl) rfl rfl rfl (fun w hw => hw.back (Gh.refl _) h0590 (.cons_cons _ (.cons_cons _ (.cons_cons _ (.cons _ (.cons _ .slnil)))))) (q_move (v := .bool true) rfl (by kernel_rfl)) ?_
                    refine hg0 (g := true) (i := 16) (v := undef) rfl (by kernel_rfl) rfl rfl rfl rfl rfl (fun w hw => hw.back (Gh.refl _) h0590 (.cons_cons _ (.cons_cons _ (.cons_cons _ (.cons _ (.cons _ .slnil)))))) (no_tf (nott rfl)) ?_
                    refine WH.env (v := undef) (gv_false (nott rfl)) ?_
                    refine hg0 (g := true) (i := 17) (v := undef) rfl (by kernel_rfl) rfl rfl rfl rfl rfl (fun w hw => hw.back (Gh.refl _) h0590 (.cons_cons _ (.cons_cons _ (.cons_cons _ (.cons _ (.cons _ .slnil)))))) (no_tf (nott rfl)) ?_
                    refine WH.env (v := undef) (gv_false (nott rfl)) ?_
                    refine hg0 (g := true) (i := 18) (v := undef) rfl (by kernel_rfl) rfl rfl rfl rfl rfl (fun w hw => hw.back (Gh.refl _) h0590 (.cons_cons _ (.cons_cons _ (.cons_cons _ (.cons _ (.cons _ .slnil)))))) (no_tf (nott rfl)) ?_
                    refine WH.env (v := undef) (gv_false (nott rfl)) ?_
                    refine hg0 (g := true) (i := 19) (v := undef) rfl (by kernel_rfl) rfl rfl rfl rfl rfl (fun w hw => hw.back (Gh.refl _) h0590 (.cons_cons _ (.cons_cons _ (.cons_cons _ (.cons _ (.cons _ .slnil)))))) (no_tf (nott rfl)) ?_
                    refine WH.env (v := undef) (gv_false (nott rfl)) ?_
                    refine hg0 (g := true) (i := 20) (v := undef) rfl (by kernel_rfl) rfl rfl rfl rfl rfl (fun w hw => hw.back (Gh.refl _) h0590 (.cons_cons _ (.cons_cons _ (.cons_cons _ (.cons _ (.cons _ .slnil)))))) (no_tf (nott rfl)) ?_
                    refine WH.env (v := undef) (gv_false (nott rfl)) ?_
                    refine hg0 (g := true) (i := 21) (v := undef) rfl (by kernel_rfl) rfl rfl rfl rfl rfl (fun w hw => hw.back (Gh.refl _) h0590 (.cons_cons _ (.cons_cons _ (.cons_cons _ (.cons _ (.cons _ .slnil)))))) (no_tf (nott rfl)) ?_
                    refine WH.env (v := undef) (gv_false (nott rfl)) ?_
                    refine hg0 (g := true) (i := 22) (v := undef) rfl (by kernel_rfl) rfl rfl rfl rfl rfl (fun w hw => hw.back (Gh.refl _) h0590 (.cons_cons _ (.cons_cons _ (.cons_cons _ (.cons _ (.cons _ .slnil)))))) (no_tf (nott rfl)) ?_
                    refine WH.env (v := undef) (gv_false (nott rfl)) ?_
                    refine hg0 (g := true) (i := 23) (v := undef) rfl (by kernel_rfl) rfl rfl rfl rfl rfl (fun w hw => hw.back (Gh.refl _) h0590 (.cons_cons _ (.cons_cons _ (.cons_cons _ (.cons _ (.cons _ .slnil)))))) (no_tf (nott rfl)) ?_
                    refine WH.env (v := undef) (gv_false (nott rfl)) ?_
                    refine ht (i := 24) rfl (by kernel_rfl) rfl rfl rfl (fun w hw => hw.back (Gh.refl _) h0590 (.cons_cons _ (.cons_cons _ (.cons_cons _ (.cons _ (.cons _ .slnil)))))) (q_pickt (v := .bool true) rfl rfl rfl) ?_
                    refine ht (i := 25) rfl (by kernel_rfl) rfl rfl rfl (fun w hw => hw.back (Gh.refl _) h0590 (.cons_cons _ (.cons_cons _ (.cons_cons _ (.cons _ (.cons _ .slnil)))))) (q_move (v := .bool true) rfl (by kernel_rfl)) ?_
                    refine hg0 (g := true) (i := 26) (v := undef) rfl (by kernel_rfl) rfl rfl rfl rfl rfl (fun w hw => hw.back (Gh.refl _) h0590 (.cons_cons _ (.cons_cons _ (.cons_cons _ (.cons _ (.cons _ .slnil)))))) (no_tf (nott rfl)) ?_
                    refine WH.env (v := undef) (gv_false (nott rfl)) ?_
                    refine hg0 (g := true) (i := 27) (v := undef) rfl (by kernel_rfl) rfl rfl rfl rfl rfl (fun w hw => hw.back (Gh.refl _) h0590 (.cons_cons _ (.cons_cons _ (.cons_cons _ (.cons _ (.cons _ .slnil)))))) (no_tf (nott rfl)) ?_
                    refine WH.env (v := undef) (gv_false (nott rfl)) ?_
                    refine hg0 (g := true) (i := 28) (v := undef) rfl (by kernel_rfl) rfl rfl rfl rfl rfl (fun w hw => hw.back (Gh.refl _) h0590 (.cons_cons _ (.cons_cons _ (.cons_cons _ (.cons _ (.cons _ .slnil)))))) (no_tf (nott rfl)) ?_
                    refine WH.env (v := undef) (gv_false (nott rfl)) ?_
                    refine hg0 (g := true) (i := 29) (v := undef) rfl (by kernel_rfl) rfl rfl rfl rfl rfl (fun w hw => hw.back (Gh.refl _) h0590 (.cons_cons _ (.cons_cons _ (.cons_cons _ (.cons _ (.cons _ .slnil)))))) (no_tf (nott rfl)) ?_
                    refine WH.env (v := undef) (gv_false (nott rfl)) ?_
                    refine hg0 (g := true) (i := 30) (v := undef) rfl (by kernel_rfl) rfl rfl rfl rfl rfl (fun w hw => hw.back (Gh.refl _) h0590 (.cons_cons _ (.cons_cons _ (.cons_cons _ (.cons _ (.cons _ .slnil)))))) (no_tf (nott rfl)) ?_
                    refine WH.env (v := undef) (gv_false (nott rfl)) ?_
                    refine hg0 (g := true) (i := 31) (v := undef) rfl (by kernel_rfl) rfl rfl rfl rfl rfl (fun w hw => hw.back (Gh.refl _) h0590 (.cons_cons _ (.cons_cons _ (.cons_cons _ (.cons _ (.cons _ .slnil)))))) (no_tf (nott rfl)) ?_
                    refine WH.env (v := undef) (gv_false (nott rfl)) ?_
                    refine hg0 (g := true) (i := 32) (v := undef) rfl (by kernel_rfl) rfl rfl rfl rfl rfl (fun w hw => hw.back (Gh.refl _) h0590 (.cons_cons _ (.cons_cons _ (.cons_cons _ (.cons _ (.cons _ .slnil)))))) (no_tf (nott rfl)) ?_
                    refine WH.env (v := undef) (gv_false (nott rfl)) ?_
                    refine hg0 (g := true) (i := 33) (v := undef) rfl (by kernel_rfl) rfl rfl rfl rfl rfl (fun w hw => hw.back (Gh.refl _) h0590 (.cons_cons _ (.cons_cons _ (.cons_cons _ (.cons _ (.cons _ .slnil)))))) (no_tf (nott rfl)) ?_
                    refine WH.env (v := undef) (gv_false (nott rfl)) ?_
                    refine ht (i := 34) rfl (by kernel_rfl) rfl rfl rfl (fun w hw => hw.back (Gh.refl _) h0590 (.cons_cons _ (.cons_cons _ (.cons_cons _ (.cons _ (.cons _ .slnil)))))) (q_pickt (v := .bool true) rfl rfl rfl) ?_
                    refine WH.done (by kernel_rfl) ?_
                    intro w hw
                    have hw := hw.fold (is := [0, 0, 0]) rfl hrow_589
                    exact ⟨true, Γ502, h, (sl_ (by kernel_rfl)), hw, (Gh.refl _), trivial⟩
                · skip
                  rintro σ w ⟨x_588, Γ586, h, hsl, hw, hl587, -⟩
                  refine Wpt.slots hsl ?_
                  refine WC.here (C := CC F Γ586 [row505, row508, row46]) ?_ hw
                  clear hw hsl
                  refine WC.cif h (by kernel_rfl) (fun hb659 h => ?_) (fun hb659 h => ?_)
                  · skip
                    refine WC.rs ?_
                    refine va rfl rfl rfl (q_assign (v := .bool false) rfl (by kernel_rfl)) ?_
                    refine WR.nil ?_
                    change WC _ _ _ _ _ _
                    refine WC.ret ?_
                    intro w hw
                    obtain rfl := Option.some.inj h
                    subst hF
                    exact ⟨by kernel_rfl, hw.fr⟩
                  · skip
                    refine WC.skip ?_
                    change WC _ _ _ _ _ _
                    refine WC.region ?_
                    refine va rfl rfl rfl (q_move (v := .int .i64 ((i72 : Nat) : Int)) rfl (by kernel_rfl)) ?_
                    refine va rfl rfl rfl (q_add_r (r := ((i72 + 1 : Nat) : Int)) rfl rfl rfl (ctr_len hl77 (hscript.mono ((((hl4.trans hl14).trans hl35).trans hl42).trans hl64)).le)) ?_
                    refine va rfl rfl rfl (q_assign (v := .int .i64 ((i72 + 1 : Nat) : Int)) rfl (by kernel_rfl)) ?_
                    refine WR.nil ?_
                    intro w hw
                    exact ⟨hl77, (o504, o507), h, Γ586, row505, row508, (sl_ (by kernel_rfl)), (hw.only (is := [2, 0, 0]) rfl), ((((hl64.trans hl487).trans hl495).trans hl503).trans hl587), (ho506.mono hl587), (ho509.mono hl587), trivial⟩
          · skip
            have h := bf hb483 h
            refine hg1 (g := ((gt script i72).kind == 2)) (i := 11) (v := undef) rfl (by kernel_rfl) rfl rfl rfl rfl rfl (fun w hw => hw.back (Gh.refl _) h0468 (.cons_cons _ (.cons _ (.cons _ (.cons _ .slnil))))) (no_tf hb483) ?_
            refine WH.env (v := undef) (gv_false hb483) ?_
            refine hg1 (g := ((gt script i72).kind == 2)) (i := 19) (v := undef) rfl (by kernel_rfl) rfl rfl rfl rfl rfl (fun w hw => hw.back (Gh.refl _) h0468 (.cons_cons _ (.cons _ (.cons _ (.cons _ .slnil))))) (no_tf hb483) ?_
            refine WH.env (v := undef) (gv_false hb483) ?_
            refine hg1 (g := ((gt script i72).kind == 2)) (i := 20) (v := undef) rfl (by kernel_rfl) rfl rfl rfl rfl rfl (fun w hw => hw.back (Gh.refl _) h0468 (.cons_cons _ (.cons _ (.cons _ (.cons _ .slnil))))) (no_tf hb483) ?_
            refine WH.env (v := undef) (gv_false hb483) ?_
            refine ht (i := 21) rfl (by kernel_rfl) rfl rfl rfl (fun w hw => hw.back (Gh.refl _) h0468 (.cons_cons _ (.cons _ (.cons _ (.cons _ .slnil))))) (q_pick_f (v := .bool false) rfl rfl hb483 (by kernel_rfl)) ?_
            refine WH.done (by kernel_rfl) ?_
            change WC _ _ _ _ _ _
            refine WC.cfk (b := false) (by kernel_rfl) rfl ?_
            refine WC.skip ?_
            change WC _ _ _ _ _ _
            refine WC.cut (fun σ w => ∃ (o662 : Ofirthref19_Pull), ∃ (o665 : Opull_Pull), ∃ (Γ660 : Gh), ∃ (row663 : Rowb), ∃ (row666 : Rowb), m_firthlaw19_PullPlays_j62 f71 o662 o665 = some r ∧ slots σ [(2, .slice Ascript script.length cscript), (7, optp z1.1 g7), (9, optp z11.1 g17), (11, optp z39.1 g45), (13, .int .i64 ((i72 : Nat) : Int))] ∧ CC F Γ660 [row46, row663, row666] w ∧ Gh.le Γ63 Γ660 ∧ Ofirthref19_Pull.ob 59 Γ660 g17 row663 o662 ∧ Opull_Pull.ob 97 Γ660 g7 row666 o665 ∧ True) ?_ ?_
            · skip
              refine WC.rs ?_
              refine va rfl rfl rfl (q_fl 0 fld_54_0 rfl rfl rfl) ?_
              refine va rfl rfl rfl (q_ldl (i := 0) (v := .int .i64 (gt script i72).kind) rfl rfl Tryz.isAgg3 rfl rfl) ?_
              refine va rfl rfl rfl (q_eql rfl rfl rfl) ?_
              refine va rfl rfl rfl (q_move (v := .bool ((gt script i72).kind == 3)) rfl (by kernel_rfl)) ?_
              refine vg0 rfl rfl rfl rfl rfl (fun hg668 => QV.qo (q_fl 0 fld_54_0 rfl rfl rfl)) ?_
              refine vg0 rfl rfl rfl rfl rfl (fun hg669 => QV.qo (q_ldl (i := 0) (v := .int .i64 (gt script i72).kind) rfl rfl Tryz.isAgg3 (gu hg669 rfl) rfl)) ?_
              refine vg0 rfl rfl rfl rfl rfl (fun hg670 => QV.qo (q_eql rfl (gu hg670 rfl) rfl)) ?_
              refine va rfl rfl rfl (q_pick rfl rfl (pk_or' (g := ((gt script i72).kind == 3)) (y := ((gt script i72).kind == 4)))) ?_
              refine va rfl rfl rfl (q_move (v := .bool (((gt script i72).kind == 3) || ((gt script i72).kind == 4))) rfl (by kernel_rfl)) ?_
              refine vg1 rfl rfl rfl rfl rfl (fun hg671 => QV.qo (q_move (v := .pointer (some ⟨g17, 0, none⟩)) rfl (optp_some rfl hz58))) ?_
              refine vg1 rfl rfl rfl rfl rfl (fun hg672 => QV.qo (q_nil (A := some ⟨g17, 0, none⟩) rfl (gu hg672 rfl) rfl)) ?_
              refine vg1 rfl rfl rfl rfl rfl (fun hg673 => QV.qo (q_fl 4 fld_59_4 rfl (gu hg673 rfl) rfl)) ?_
              have hq := ho67
              obtain ⟨A1_675, c1_675, A3_675, c3_675, r3_675, A4_675, c4_675, r4_675, A5_675, c5_675, hrow_675, ho0_675, ho1_675, ho2_675, ho3_675, ho4_675, ho5_675, ho6_675, -⟩ := hq
              intro w hw; have hw := hw.unfold (i := 2) rfl hrow_675
              refine WR.here (C := CC F Γ63 [[(g17, .cells #[.int .i64 o65.id, .slice A1_675 o65.own.length c1_675, .bool o65.begun, .slice A3_675 o65.vec.length c3_675, .slice A4_675 o65.paths.length c4_675, .slice A5_675 o65.in_.length c5_675] 59 (0, 0))], r3_675, r4_675, [(g87, .cells #[.int .i64 (gt script i72).kind, .slice A78 ((gt script i72).vec).length c79, .slice A80 ((gt script i72).path).length c81, .slice A82 ((gt script i72).hashes).length c83, .slice A84 ((gt script i72).list).length c85] 54 (0, 0))], row46, row69]) ?_ hw
              clear hw
              refine vg1 rfl rfl rfl rfl rfl (fun hg676 => QV.qo (q_ldl (i := 0) (v := .slice A4_675 o65.paths.length c4_675) rfl rfl Tryz.isAgg57 (gu hg676 rfl) rfl)) ?_
              refine vg1 rfl rfl rfl rfl rfl (fun hg677 => QV.qo (q_len_slice rfl Tryz.underlying57 (gu hg677 rfl))) ?_
              refine vg1 rfl rfl rfl rfl rfl (fun hg678 => QV.qo (q_gtr rfl (gu hg678 rfl) rfl)) ?_
              refine va rfl rfl rfl (q_pick rfl rfl (pk_and' (g := (((gt script i72).kind == 3) || ((gt script i72).kind == 4))) (y := (decide (0 < ((o65.paths.length : Nat) : Int)))))) ?_
              refine WR.nil ?_
              change WC _ _ _ _ _ _
              refine WC.cif h (by kernel_rfl) (fun hb679 h => ?_) (fun hb679 h => ?_)
              · skip
                refine WC.rs ?_
                refine va rfl rfl rfl (q_assign (v := .int .i64 0) rfl (by kernel_rfl)) ?_
                refine WR.nil ?_
                change WC _ _ _ _ _ _
                intro w hw; have hw := hw.fold (is := [0, 0, 0]) rfl hrow_675
                refine WC.here (C := CC F Γ63 [row66, [(g87, .cells #[.int .i64 (gt script i72).kind, .slice A78 ((gt script i72).vec).length c79, .slice A80 ((gt script i72).path).length c81, .slice A82 ((gt script i72).hashes).length c83, .slice A84 ((gt script i72).list).length c85] 54 (0, 0))], row46, row69]) ?_ hw
                clear hw
                refine WC.cut (fun σ w => ∃ (at_681 : Int), m_firthlaw19_PullPlays_j64 z54 o65 o68 f71 at_681 = some r ∧ slots σ [(2, .slice Ascript script.length cscript), (7, optp z1.1 g7), (9, optp z11.1 g17), (11, optp z39.1 g45), (13, .int .i64 ((i72 : Nat) : Int)), (15, .int .i64 at_681)] ∧ CC F Γ63 [row66, row46, row69] w ∧ I64 at_681 ∧ True) ?_ ?_
                · skip
                  refine WC.rs ?_
                  refine va rfl rfl rfl (q_fl 0 fld_54_0 rfl rfl rfl) ?_
                  refine va rfl rfl rfl (q_ldl (i := 1) (v := .int .i64 (gt script i72).kind) rfl rfl Tryz.isAgg3 rfl rfl) ?_
                  refine va rfl rfl rfl (q_eql rfl rfl rfl) ?_
                  refine WR.nil ?_
                  change WC _ _ _ _ _ _
                  refine WC.cif h (by kernel_rfl) (fun hb683 h => ?_) (fun hb683 h => ?_)
                  · skip
                    refine WC.region ?_
                    refine va rfl rfl rfl (q_move (v := .pointer (some ⟨g17, 0, none⟩)) rfl (optp_some rfl hz58)) ?_
                    refine va rfl rfl rfl (q_nil (A := some ⟨g17, 0, none⟩) rfl rfl rfl) ?_
                    refine va rfl rfl rfl (q_fl 4 fld_59_4 rfl rfl rfl) ?_
                    have hq := ho67
                    obtain ⟨A1_684, c1_684, A3_684, c3_684, r3_684, A4_684, c4_684, r4_684, A5_684, c5_684, hrow_684, ho0_684, ho1_684, ho2_684, ho3_684, ho4_684, ho5_684, ho6_684, -⟩ := hq
                    intro w hw; have hw := hw.unfold (i := 0) rfl hrow_684
                    refine WR.here (C := CC F Γ63 [[(g17, .cells #[.int .i64 o65.id, .slice A1_684 o65.own.length c1_684, .bool o65.begun, .slice A3_684 o65.vec.length c3_684, .slice A4_684 o65.paths.length c4_684, .slice A5_684 o65.in_.length c5_684] 59 (0, 0))], r3_684, r4_684, [(g87, .cells #[.int .i64 (gt script i72).kind, .slice A78 ((gt script i72).vec).length c79, .slice A80 ((gt script i72).path).length c81, .slice A82 ((gt script i72).hashes).length c83, .slice A84 ((gt script i72).list).length c85] 54 (0, 0))], row46, row69]) ?_ hw
                    clear hw
                    refine va rfl rfl rfl (q_ldl (i := 0) (v := .slice A4_684 o65.paths.length c4_684) rfl rfl Tryz.isAgg57 rfl rfl) ?_
                    refine va rfl rfl rfl (q_len_slice rfl Tryz.underlying57 rfl) ?_
                    refine va rfl rfl rfl (q_sub rfl rfl rfl) ?_
                    refine va rfl rfl rfl (q_assign (v := .int .i64 (w64 (((o65.paths.length : Nat) : Int) - 1))) rfl (by kernel_rfl)) ?_
                    refine WR.nil ?_
                    intro w hw
                    have hw := hw.fold (is := [0, 0, 0]) rfl hrow_684
                    exact ⟨(w64 (((o65.paths.length : Nat) : Int) - 1)), h, (sl_ (by kernel_rfl)), (hw.only (is := [0, 1, 1]) rfl), (w64_r _), trivial⟩
                  · skip
                    refine WC.skip ?_
                    intro w hw
                    exact ⟨0, h, (sl_ (by kernel_rfl)), (hw.only (is := [0, 1, 1]) rfl), (show I64 0 by decide), trivial⟩
                · skip
                  rintro σ w ⟨at_681, h, hsl, hw, hr682, -⟩
                  refine Wpt.slots hsl ?_
                  refine WC.here (C := CC F Γ63 [row66, row46, row69]) ?_ hw
                  clear hw hsl
                  refine WC.rs ?_
                  refine va rfl rfl rfl (q_move (v := .pointer (some ⟨g45, 0, none⟩)) rfl (optp_some rfl hz55)) ?_
                  refine va rfl rfl rfl (q_move (v := .pointer (some ⟨g17, 0, none⟩)) rfl (optp_some rfl hz58)) ?_
                  refine va rfl rfl rfl (q_nil (A := some ⟨g17, 0, none⟩) rfl rfl rfl) ?_
                  refine va rfl rfl rfl (q_fl 4 fld_59_4 rfl rfl rfl) ?_
                  have hq := ho67
                  obtain ⟨A1_686, c1_686, A3_686, c3_686, r3_686, A4_686, c4_686, r4_686, A5_686, c5_686, hrow_686, ho0_686, ho1_686, ho2_686, ho3_686, ho4_686, ho5_686, ho6_686, -⟩ := hq
                  intro w hw; have hw := hw.unfold (i := 0) rfl hrow_686
                  refine WR.here (C := CC F Γ63 [[(g17, .cells #[.int .i64 o65.id, .slice A1_686 o65.own.length c1_686, .bool o65.begun, .slice A3_686 o65.vec.length c3_686, .slice A4_686 o65.paths.length c4_686, .slice A5_686 o65.in_.length c5_686] 59 (0, 0))], r3_686, r4_686, row46, row69]) ?_ hw
                  clear hw
                  refine va rfl rfl rfl (q_ldl (i := 0) (v := .slice A4_686 o65.paths.length c4_686) rfl rfl Tryz.isAgg57 rfl rfl) ?_
                  refine va rfl rfl rfl (q_move (v := .int .i64 at_681) rfl (by kernel_rfl)) ?_
                  obtain ⟨hk687, h⟩ := chk_some h
                  refine va rfl rfl rfl (q_ix Tryz.underlying57 Tryz.sizeOf24 rfl rfl rfl hk687 (ho4_686.some_ (inb_lt hk687))) ?_
                  obtain ⟨A688, c689, hx690⟩ := ho4_686.slT_at at_681.toNat
                  refine va rfl rfl rfl (q_ldo (c := 0) (v := .slice A688 (gt o65.paths at_681.toNat).length c689) (i := 2) rfl (hx690 (inb_lt hk687)).2 rfl Tryz.isAgg24 rfl rfl) ?_
                  obtain ⟨z691, hz692, h⟩ := bnd h
                  refine e_call (is := [3]) rfl rfl (call_run Tryz.call14 rfl rfl (by kernel_rfl)) rfl (fun w hp => t_firthref19_Cut_Want (ho56.mono hl64) (hx690 (inb_lt hk687)).1.2 (hx690 (inb_lt hk687)).1.1 hp hz692) ?_
                  rintro Γ693 U695 v696 hl694 ⟨A697, c698, row699, A701, c702, row703, rfl, rfl, hr700, hr704, _⟩
                  change WR _ _ _ (CC F Γ693 [row46, row699, row703, [(g17, .cells #[.int .i64 o65.id, .slice A1_686 o65.own.length c1_686, .bool o65.begun, .slice A3_686 o65.vec.length c3_686, .slice A4_686 o65.paths.length c4_686, .slice A5_686 o65.in_.length c5_686] 59 (0, 0))], r3_686, r4_686, row69]) _ _ (upd _ 144 (.tuple #[.slice A697 z691.1.length c698, .slice A701 z691.2.1.length c702, .bool z691.2.2]))
                  refine va rfl rfl rfl (q_move (v := .tuple #[.slice A697 z691.1.length c698, .slice A701 z691.2.1.length c702, .bool z691.2.2]) rfl (by kernel_rfl)) ?_
                  refine va rfl rfl rfl (q_extract (v := .slice A697 z691.1.length c698) rfl rfl rfl) ?_
                  refine va rfl rfl rfl (q_extract (v := .slice A701 z691.2.1.length c702) rfl rfl rfl) ?_
                  refine va rfl rfl rfl (q_extract (v := .bool z691.2.2) rfl rfl rfl) ?_
                  refine va rfl rfl rfl (q_assign (v := .slice A697 z691.1.length c698) rfl (by kernel_rfl)) ?_
                  refine va rfl rfl rfl (q_assign (v := .slice A701 z691.2.1.length c702) rfl (by kernel_rfl)) ?_
                  refine va rfl rfl rfl (q_assign (v := .bool z691.2.2) rfl (by kernel_rfl)) ?_
                  refine WR.nil ?_
                  change WC _ _ _ _ _ _
                  refine WC.rs ?_
                  refine va rfl rfl rfl (q_assign (v := .slice none 0 0) rfl (by kernel_rfl)) ?_
                  refine WR.nil ?_
                  change WC _ _ _ _ _ _
                  refine WC.rs ?_
                  refine va rfl rfl rfl (q_move (v := .slice none 0 0) rfl (by kernel_rfl)) ?_
                  refine va rfl rfl rfl (q_move (v := .pointer (some ⟨g17, 0, none⟩)) rfl (optp_some rfl hz58)) ?_
                  refine va rfl rfl rfl (q_nil (A := some ⟨g17, 0, none⟩) rfl rfl rfl) ?_
                  refine va rfl rfl rfl (q_fl 4 fld_59_4 rfl rfl rfl) ?_
                  refine va rfl rfl rfl (q_ldl (i := 3) (v := .slice A4_686 o65.paths.length c4_686) rfl rfl Tryz.isAgg57 rfl rfl) ?_
                  refine va rfl rfl rfl (q_move (v := .int .i64 at_681) rfl (by kernel_rfl)) ?_
                  refine va rfl rfl rfl (q_ix Tryz.underlying57 Tryz.sizeOf24 rfl rfl rfl hk687 ((ho4_686.mono hl694).some_ (inb_lt hk687))) ?_
                  refine va rfl rfl rfl (q_ldo (c := 0) (v := .slice A688 (gt o65.paths at_681.toNat).length c689) (i := 5) rfl (hx690 (inb_lt hk687)).2 rfl Tryz.isAgg24 rfl rfl) ?_
                  refine WR.sub (fun w hw => hw.pad) ?_
                  obtain ⟨hk705, h⟩ := chk_some h
                  refine e_append (T := intT) (xs := []) (ys := (gt o65.paths at_681.toNat)) elem_24 (i := 0) rfl rfl rfl rfl (by kernel_rfl) rfl rfl (Own.nil intT Γ693 3) (of_decide_eq_true hk705) (fun w hw => src_sl ((hx690 (inb_lt hk687)).1.2.mono hl694) hw) ?_
                  intro row706 A707 c708 ho709
                  refine va rfl rfl rfl (q_assign (v := .slice A707 (gt o65.paths at_681.toNat).length c708) rfl (by kernel_rfl)) ?_
                  refine WR.nil ?_
                  change WC _ _ _ _ _ _
                  refine WC.rs ?_
                  refine va rfl rfl rfl (q_move (v := .pointer (some ⟨g7, 0, none⟩)) rfl (optp_some rfl hz61)) ?_
                  refine va rfl rfl rfl (q_move (v := .slice A707 (gt o65.paths at_681.toNat).length c708) rfl (by kernel_rfl)) ?_
                  refine va rfl rfl rfl (q_move (v := .slice A697 z691.1.length c698) rfl (by kernel_rfl)) ?_
                  refine va rfl rfl rfl (q_move (v := .slice A701 z691.2.1.length c702) rfl (by kernel_rfl)) ?_
                  have hc714 := ho709.capz
                  intro w hw; obtain ⟨Γ710, hw, hl711, hr712⟩ := hw.seal (i := 0) rfl; have hs713 := ho709.sl hl711 hr712
                  refine WR.here (C := CC F Γ710 [[], row46, row699, row703, [(g17, .cells #[.int .i64 o65.id, .slice A1_686 o65.own.length c1_686, .bool o65.begun, .slice A3_686 o65.vec.length c3_686, .slice A4_686 o65.paths.length c4_686, .slice A5_686 o65.in_.length c5_686] 59 (0, 0))], r3_686, r4_686, row69]) ?_ hw
                  clear hw
                  have hc719 := (hr700.mono hl711).capz
                  intro w hw; obtain ⟨Γ715, hw, hl716, hr717⟩ := hw.seal (i := 2) rfl; have hs718 := (hr700.mono hl711).sl hl716 hr717
                  refine WR.here (C := CC F Γ715 [[], row46, [], row703, [(g17, .cells #[.int .i64 o65.id, .slice A1_686 o65.own.length c1_686, .bool o65.begun, .slice A3_686 o65.vec.length c3_686, .slice A4_686 o65.paths.length c4_686, .slice A5_686 o65.in_.length c5_686] 59 (0, 0))], r3_686, r4_686, row69]) ?_ hw
                  clear hw
                  have hc724 := (hr704.mono (hl711.trans hl716)).capz
                  intro w hw; obtain ⟨Γ720, hw, hl721, hr722⟩ := hw.seal (i := 3) rfl; have hs723 := (hr704.mono (hl711.trans hl716)).sl hl721 hr722
                  refine WR.here (C := CC F Γ720 [[], row46, [], [], [(g17, .cells #[.int .i64 o65.id, .slice A1_686 o65.own.length c1_686, .bool o65.begun, .slice A3_686 o65.vec.length c3_686, .slice A4_686 o65.paths.length c4_686, .slice A5_686 o65.in_.length c5_686] 59 (0, 0))], r3_686, r4_686, row69]) ?_ hw
                  clear hw
                  obtain ⟨z725, hz726, h⟩ := bnd h
                  refine e_call (is := [7]) rfl rfl (call_run Tryz.call26 rfl rfl (by kernel_rfl)) rfl (fun w hp => t_pull_Pull_Tell (ho70.mono (((hl694.trans hl711).trans hl716).trans hl721)) (hs713.mono (hl716.trans hl721)) hc714 (hs718.mono hl721) hc719 hs723 hc724 hp hz726) ?_
                  rintro Γ727 U729 v730 hl728 ⟨row731, rfl, rfl, hr732, _⟩
                  change WR _ _ _ (CC F Γ727 [row731, [], row46, [], [], [(g17, .cells #[.int .i64 o65.id, .slice A1_686 o65.own.length c1_686, .bool o65.begun, .slice A3_686 o65.vec.length c3_686, .slice A4_686 o65.paths.length c4_686, .slice A5_686 o65.in_.length c5_686] 59 (0, 0))], r3_686, r4_686]) _ _ (upd _ 161 (.bool z725.2))
                  refine va rfl rfl rfl (q_move (v := .pointer (some ⟨g17, 0, none⟩)) rfl (optp_some rfl hz58)) ?_
                  refine va rfl rfl rfl (q_move (v := .slice A707 (gt o65.paths at_681.toNat).length c708) rfl (by kernel_rfl)) ?_
                  refine va rfl rfl rfl (q_move (v := .slice A697 z691.1.length c698) rfl (by kernel_rfl)) ?_
                  refine va rfl rfl rfl (q_move (v := .slice A701 z691.2.1.length c702) rfl (by kernel_rfl)) ?_
                  intro w hw; have hw := hw.fold (is := [5, 5, 5]) rfl hrow_686
                  refine WR.here (C := CC F Γ727 [row66, row731, [], row46, [], []]) ?_ hw
                  clear hw
                  obtain ⟨z734, hz735, h⟩ := bnd h
                  refine e_call (is := [0]) rfl rfl (call_run Tryz.call27 rfl rfl (by kernel_rfl)) rfl (fun w hp => t_firthref19_Pull_Tell (ho67.mono ((((hl694.trans hl711).trans hl716).trans hl721).trans hl728)) (hs713.mono ((hl716.trans hl721).trans hl728)) hc714 (hs718.mono (hl721.trans hl728)) hc719 (hs723.mono hl728) hc724 hp hz735) ?_
                  rintro Γ736 U738 v739 hl737 ⟨row740, rfl, rfl, hr741, _⟩
                  change WR _ _ _ (CC F Γ736 [row740, row731, [], row46, [], []]) _ _ (upd _ 166 (.bool z734.2))
                  refine va rfl rfl rfl (q_bneq Tryz.underlying4 rfl rfl rfl) ?_
                  refine WR.nil ?_
                  change WC _ _ _ _ _ _
                  refine WC.cif h (by kernel_rfl) (fun hb742 h => ?_) (fun hb742 h => ?_)
                  · skip
                    refine WC.rs ?_
                    refine va rfl rfl rfl (q_assign (v := .bool false) rfl (by kernel_rfl)) ?_
                    refine WR.nil ?_
                    change WC _ _ _ _ _ _
                    refine WC.ret ?_
                    intro w hw
                    obtain rfl := Option.some.inj h
                    subst hF
                    exact ⟨by kernel_rfl, hw.fr⟩
                  · skip
                    refine WC.skip ?_
                    intro w hw
                    exact ⟨z734.1, z725.1, Γ736, row740, row731, h, (sl_ (by kernel_rfl)), (hw.only (is := [3, 0, 0]) rfl), (((((hl694.trans hl711).trans hl716).trans hl721).trans hl728).trans hl737), hr741, (hr732.mono hl737), trivial⟩
              · skip
                refine WC.skip ?_
                intro w hw
                have hw := hw.fold (is := [0, 0, 0]) rfl hrow_675
                exact ⟨o65, o68, Γ63, row66, row69, h, (sl_ (by kernel_rfl)), (hw.only (is := [2, 0, 1]) rfl), (Gh.refl _), ho67, ho70, trivial⟩
            · skip
              rintro σ w ⟨o662, o665, Γ660, row663, row666, h, hsl, hw, hl661, ho664, ho667, -⟩
              refine Wpt.slots hsl ?_
              refine WC.here (C := CC F Γ660 [row46, row663, row666]) ?_ hw
              clear hw hsl
              refine WC.cut (fun σ w => ∃ (x_746 : Bool), ∃ (Γ744 : Gh), m_firthlaw19_PullPlays_j65 f71 o662 o665 x_746 = some r ∧ slots σ [(2, .slice Ascript script.length cscript), (7, optp z1.1 g7), (9, optp z11.1 g17), (11, optp z39.1 g45), (13, .int .i64 ((i72 : Nat) : Int)), (202, .bool x_746)] ∧ CC F Γ744 [row46, row663, row666] w ∧ Gh.le Γ660 Γ744 ∧ True) ?_ ?_
              · skip
                have hq := ho664
                obtain ⟨A1_747, c1_747, A3_747, c3_747, r3_747, A4_747, c4_747, r4_747, A5_747, c5_747, hrow_747, ho0_747, ho1_747, ho2_747, ho3_747, ho4_747, ho5_747, ho6_747, -⟩ := hq
                intro w hw; have hw := hw.unfold (i := 1) rfl hrow_747
                refine WC.here (C := CC F Γ660 [[(g17, .cells #[.int .i64 o662.id, .slice A1_747 o662.own.length c1_747, .bool o662.begun, .slice A3_747 o662.vec.length c3_747, .slice A4_747 o662.paths.length c4_747, .slice A5_747 o662.in_.length c5_747] 59 (0, 0))], r3_747, r4_747, row46, row666]) ?_ hw
                clear hw
                intro w hw; have h0748 := hw.le
                refine WC.here (C := CC F Γ660 [[(g17, .cells #[.int .i64 o662.id, .slice A1_747 o662.own.length c1_747, .bool o662.begun, .slice A3_747 o662.vec.length c3_747, .slice A4_747 o662.paths.length c4_747, .slice A5_747 o662.in_.length c5_747] 59 (0, 0))], r3_747, r4_747, row46, row666]) ?_ hw; clear hw
                refine WC.held (CC F Γ660 [[(g17, .cells #[.int .i64 o662.id, .slice A1_747 o662.own.length c1_747, .bool o662.begun, .slice A3_747 o662.vec.length c3_747, .slice A4_747 o662.paths.length c4_747, .slice A5_747 o662.in_.length c5_747] 59 (0, 0))], r3_747, r4_747]) (by kernel_rfl) (fun w hw => hw.drawn _) ?_
                change WH _ _ _ _ (CC F Γ660 [[(g17, .cells #[.int .i64 o662.id, .slice A1_747 o662.own.length c1_747, .bool o662.begun, .slice A3_747 o662.vec.length c3_747, .slice A4_747 o662.paths.length c4_747, .slice A5_747 o662.in_.length c5_747] 59 (0, 0))], r3_747, r4_747, row46, row666]) _ 35 #[false, false, false, false, false, false, false, false, false, false, false, false, false, false, false, false, false, false, false, false, false, false, false, false, false, false, false, false, false, false, false, false, false, false, false] _
                refine ht (i := 0) rfl (by kernel_rfl) rfl rfl rfl (fun w hw => hw.back (Gh.refl _) h0748 (.cons_cons _ (.cons_cons _ (.cons_cons _ (.cons _ (.cons _ .slnil)))))) (q_move (v := .pointer (some ⟨g7, 0, none⟩)) rfl (optp_some rfl hz61)) ?_
                refine ht (i := 2) rfl (by kernel_rfl) rfl rfl rfl (fun w hw => hw.back (Gh.refl _) h0748 (.cons_cons _ (.cons_cons _ (.cons_cons _ (.cons _ (.cons _ .slnil)))))) (q_move (v := .pointer (some ⟨g17, 0, none⟩)) rfl (optp_some rfl hz58)) ?_
                refine WH.lone (i := 1) (by kernel_rfl) rfl ?_
                obtain ⟨z749, hz750, h⟩ := bnd h
                refine vc rfl rfl rfl (q_call (call_run Tryz.call28 rfl rfl (by kernel_rfl)) (fun w hw => t_pull_Pull_Done (Γ := Gh.all w) (ho667.mono hw.sat.le_all) (hw.ra 4 rfl) (Sat.all w) hz750)) ?_
                refine WR.nil ?_
                refine WH.next (fun w hw => hw.back (Gh.refl _) h0748 (.cons_cons _ (.cons_cons _ (.cons_cons _ (.cons _ (.cons _ .slnil)))))) ?_
                refine WH.lone (i := 3) (by kernel_rfl) rfl ?_
                obtain ⟨z751, hz752, h⟩ := bnd h
                refine vc rfl rfl rfl (q_call (call_run Tryz.call29 rfl rfl (by kernel_rfl)) (fun w hw => t_firthref19_Pull_Done (Γ := Gh.all w) (ho664.mono hw.sat.le_all) (hw.raU [0, 0, 0] rfl hrow_747) (Sat.all w) hz752)) ?_
                refine WR.nil ?_
                refine WH.next (fun w hw => hw.back (Gh.refl _) h0748 (.cons_cons _ (.cons_cons _ (.cons_cons _ (.cons _ (.cons _ .slnil)))))) ?_
                refine ht (i := 4) rfl (by kernel_rfl) rfl rfl rfl (fun w hw => hw.back (Gh.refl _) h0748 (.cons_cons _ (.cons_cons _ (.cons_cons _ (.cons _ (.cons _ .slnil)))))) (q_bneq Tryz.underlying4 rfl rfl rfl) ?_
                refine ht (i := 5) rfl (by kernel_rfl) rfl rfl rfl (fun w hw => hw.back (Gh.refl _) h0748 (.cons_cons _ (.cons_cons _ (.cons_cons _ (.cons _ (.cons _ .slnil)))))) (q_move (v := .bool (z749 != z751)) rfl (by kernel_rfl)) ?_
                refine hg0 (i := 6) rfl (by kernel_rfl) rfl rfl rfl rfl rfl (fun w hw => hw.back (Gh.refl _) h0748 (.cons_cons _ (.cons_cons _ (.cons_cons _ (.cons _ (.cons _ .slnil)))))) (fun hg753 => (q_move (v := .pointer (some ⟨g7, 0, none⟩)) rfl (optp_some rfl hz61))) ?_
                refine hg0 (i := 8) rfl (by kernel_rfl) rfl rfl rfl rfl rfl (fun w hw => hw.back (Gh.refl _) h0748 (.cons_cons _ (.cons_cons _ (.cons_cons _ (.cons _ (.cons _ .slnil)))))) (fun hg754 => (q_move (v := .pointer (some ⟨g17, 0, none⟩)) rfl (optp_some rfl hz58))) ?_
                refine hg0 (i := 9) rfl (by kernel_rfl) rfl rfl rfl rfl rfl (fun w hw => hw.back (Gh.refl _) h0748 (.cons_cons _ (.cons_cons _ (.cons_cons _ (.cons _ (.cons _ .slnil)))))) (fun hg755 => (q_nil (A := some ⟨g17, 0, none⟩) rfl (gu hg755 rfl) rfl)) ?_
                refine hg0 (i := 10) rfl (by kernel_rfl) rfl rfl rfl rfl rfl (fun w hw => hw.back (Gh.refl _) h0748 (.cons_cons _ (.cons_cons _ (.cons_cons _ (.cons _ (.cons _ .slnil)))))) (fun hg756 => (q_fl 4 fld_59_4 rfl (gu hg756 rfl) rfl)) ?_
                refine hg0 (i := 11) rfl (by kernel_rfl) rfl rfl rfl rfl rfl (fun w hw => hw.back (Gh.refl _) h0748 (.cons_cons _ (.cons_cons _ (.cons_cons _ (.cons _ (.cons _ .slnil)))))) (fun hg757 => (q_ldl (i := 0) (v := .slice A4_747 o662.paths.length c4_747) rfl rfl Tryz.isAgg57 (gu hg757 rfl) rfl)) ?_
                refine (Bool.eq_false_or_eq_true (!(z749 != z751))).elim (fun hb758 => ?_) (fun hb758 => ?_)
                · skip
                  have h := bt hb758 h
                  refine WH.lone (i := 7) (by kernel_rfl) rfl ?_
                  refine WR.sat (c0 := true) (g := (z749 != z751)) rfl rfl rfl hb758 ?_
                  obtain ⟨z759, hz760, h⟩ := bnd h
                  refine e_call (is := [4]) rfl rfl (call_run Tryz.call31 rfl rfl (args1 (gu hb758 rfl))) rfl (fun w hp => t_pull_Pull_Wants ho667 hp hz760) ?_
                  rintro Γ761 U763 v764 hl762 ⟨A765, c766, row767, rfl, rfl, hr768, _⟩
                  change WR _ _ _ (CC F Γ761 [row666, row767, [(g17, .cells #[.int .i64 o662.id, .slice A1_747 o662.own.length c1_747, .bool o662.begun, .slice A3_747 o662.vec.length c3_747, .slice A4_747 o662.paths.length c4_747, .slice A5_747 o662.in_.length c5_747] 59 (0, 0))], r3_747, r4_747, row46]) _ _ (upd _ 175 (.slice A765 z759.length c766))
                  refine WR.nil ?_
                  refine WH.next (fun w hw => hw.back hl762 h0748 (.cons _ (.cons _ (.cons_cons _ (.cons_cons _ (.cons_cons _ (.cons _ .slnil))))))) ?_
                  refine WH.lone (i := 12) (by kernel_rfl) rfl ?_
                  obtain ⟨z770, hz771, h⟩ := bnd h
                  refine vg0 rfl rfl rfl rfl rfl (fun hg769 => (q_call (call_run Tryz.call30 rfl rfl (args2 rfl (gu hg769 rfl))) (fun w hw => t_firthlaw19_paths (Γ := Gh.all w) (hr768.sl hw.sat.le_all (hw.ra 1 rfl)) hr768.capz ((ho4_747.mono hl762).sl hw.sat.le_all (hw.ra 4 rfl)) (ho4_747.mono hl762).capz (Sat.all w) (gc_of hz771 hg769)))) ?_
                  refine WR.nil ?_
                  refine WH.next (fun w hw => hw.back hl762 h0748 (.cons _ (.cons _ (.cons_cons _ (.cons_cons _ (.cons_cons _ (.cons _ .slnil))))))) ?_
                  refine hg0 (i := 13) rfl (by kernel_rfl) rfl rfl rfl rfl rfl (fun w hw => hw.back hl762 h0748 (.cons _ (.cons _ (.cons_cons _ (.cons_cons _ (.cons_cons _ (.cons _ .slnil))))))) (fun hg772 => (q_not rfl (gu hg772 rfl))) ?_
                  refine ht (i := 14) rfl (by kernel_rfl) rfl rfl rfl (fun w hw => hw.back hl762 h0748 (.cons _ (.cons _ (.cons_cons _ (.cons_cons _ (.cons_cons _ (.cons _ .slnil))))))) (q_pick_f (v := .bool (!z770)) rfl rfl (not_t hb758) (gu hb758 rfl)) ?_
                  refine ht (i := 15) rfl (by kernel_rfl) rfl rfl rfl (fun w hw => hw.back hl762 h0748 (.cons _ (.cons _ (.cons_cons _ (.cons_cons _ (.cons_cons _ (.cons _ .slnil))))))) (q_move (v := .bool (!z770)) rfl (by kernel_rfl)) ?_
                  refine hg0 (i := 16) rfl (by kernel_rfl) rfl rfl rfl rfl rfl (fun w hw => hw.back hl762 h0748 (.cons _ (.cons _ (.cons_cons _ (.cons_cons _ (.cons_cons _ (.cons _ .slnil))))))) (fun hg773 => (q_move (v := .pointer (some ⟨g7, 0, none⟩)) rfl (optp_some rfl hz61))) ?_
                  refine hg0 (i := 18) rfl (by kernel_rfl) rfl rfl rfl rfl rfl (fun w hw => hw.back hl762 h0748 (.cons _ (.cons _ (.cons_cons _ (.cons_cons _ (.cons_cons _ (.cons _ .slnil))))))) (fun hg774 => (q_move (v := .pointer (some ⟨g17, 0, none⟩)) rfl (optp_some rfl hz58))) ?_
                  refine hg0 (i := 19) rfl (by kernel_rfl) rfl rfl rfl rfl rfl (fun w hw => hw.back hl762 h0748 (.cons _ (.cons _ (.cons_cons _ (.cons_cons _ (.cons_cons _ (.cons _ .slnil))))))) (fun hg775 => (q_nil (A := some ⟨g17, 0, none⟩) rfl (gu hg775 rfl) rfl)) ?_
                  refine hg0 (i := 20) rfl (by kernel_rfl) rfl rfl rfl rfl rfl (fun w hw => hw.back hl762 h0748 (.cons _ (.cons _ (.cons_cons _ (.cons_cons _ (.cons_cons _ (.cons _ .slnil))))))) (fun hg776 => (q_fl 5 fld_59_5 rfl (gu hg776 rfl) rfl)) ?_
                  refine hg0 (i := 21) rfl (by kernel_rfl) rfl rfl rfl rfl rfl (fun w hw => hw.back hl762 h0748 (.cons _ (.cons _ (.cons_cons _ (.cons_cons _ (.cons_cons _ (.cons _ .slnil))))))) (fun hg777 => (q_ldl (i := 0) (v := .slice A5_747 o662.in_.length c5_747) rfl rfl Tryz.isAgg23 (gu hg777 rfl) rfl)) ?_
                  refine (Bool.eq_false_or_eq_true (!(!z770))).elim (fun hb778 => ?_) (fun hb778 => ?_)
                  · skip
                    have h := bt hb778 h
                    refine WH.lone (i := 17) (by kernel_rfl) rfl ?_
                    refine WR.sat (c0 := true) (g := (!z770)) rfl rfl rfl hb778 ?_
                    obtain ⟨z779, hz780, h⟩ := bnd h
                    refine e_call (is := [0]) rfl rfl (call_run Tryz.call32 rfl rfl (args1 (gu hb778 rfl))) rfl (fun w hp => t_pull_Pull_Staged (ho667.mono hl762) hp hz780) ?_
                    rintro Γ781 U783 v784 hl782 ⟨A785, c786, row787, rfl, rfl, hr788, _⟩
                    change WR _ _ _ (CC F Γ781 [row666, row787, row767, [(g17, .cells #[.int .i64 o662.id, .slice A1_747 o662.own.length c1_747, .bool o662.begun, .slice A3_747 o662.vec.length c3_747, .slice A4_747 o662.paths.length c4_747, .slice A5_747 o662.in_.length c5_747] 59 (0, 0))], r3_747, r4_747, row46]) _ _ (upd _ 185 (.slice A785 z779.length c786))
                    refine WR.nil ?_
                    refine WH.next (fun w hw => hw.back (hl762.trans hl782) h0748 (.cons _ (.cons _ (.cons _ (.cons_cons _ (.cons_cons _ (.cons_cons _ (.cons _ .slnil)))))))) ?_
                    refine WH.lone (i := 22) (by kernel_rfl) rfl ?_
                    obtain ⟨z790, hz791, h⟩ := bnd h
                    refine vg0 rfl rfl rfl rfl rfl (fun hg789 => (q_call (call_run Tryz.call16 rfl rfl (args2 rfl (gu hg789 rfl))) (fun w hw => t_firthref06_SameRecs (Γ := Gh.all w) (hr788.sl hw.sat.le_all (hw.ra 1 rfl)) hr788.capz ((ho6_747.mono (hl762.trans hl782)).mono hw.sat.le_all) ho5_747 (Sat.all w) (gc_of hz791 hg789)))) ?_
                    refine WR.nil ?_
                    refine WH.next (fun w hw => hw.back (hl762.trans hl782) h0748 (.cons _ (.cons _ (.cons _ (.cons_cons _ (.cons_cons _ (.cons_cons _ (.cons _ .slnil)))))))) ?_
                    refine hg0 (i := 23) rfl (by kernel_rfl) rfl rfl rfl rfl rfl (fun w hw => hw.back (hl762.trans hl782) h0748 (.cons _ (.cons _ (.cons _ (.cons_cons _ (.cons_cons _ (.cons_cons _ (.cons _ .slnil)))))))) (fun hg792 => (q_not rfl (gu hg792 rfl))) ?_
                    refine ht (i := 24) rfl (by kernel_rfl) rfl rfl rfl (fun w hw => hw.back (hl762.trans hl782) h0748 (.cons _ (.cons _ (.cons _ (.cons_cons _ (.cons_cons _ (.cons_cons _ (.cons _ .slnil)))))))) (q_pick_f (v := .bool (!z790)) rfl rfl (not_t hb778) (gu hb778 rfl)) ?_
                    refine ht (i := 25) rfl (by kernel_rfl) rfl rfl rfl (fun w hw => hw.back (hl762.trans hl782) h0748 (.cons _ (.cons _ (.cons _ (.cons_cons _ (.cons_cons _ (.cons_cons _ (.cons _ .slnil)))))))) (q_move (v := .bool (!z790)) rfl (by kernel_rfl)) ?_
                    refine hg0 (i := 26) rfl (by kernel_rfl) rfl rfl rfl rfl rfl (fun w hw => hw.back (hl762.trans hl782) h0748 (.cons _ (.cons _ (.cons _ (.cons_cons _ (.cons_cons _ (.cons_cons _ (.cons _ .slnil)))))))) (fun hg793 => (q_move (v := .pointer (some ⟨g7, 0, none⟩)) rfl (optp_some rfl hz61))) ?_
                    refine hg0 (i := 28) rfl (by kernel_rfl) rfl rfl rfl rfl rfl (fun w hw => hw.back (hl762.trans hl782) h0748 (.cons _ (.cons _ (.cons _ (.cons_cons _ (.cons_cons _ (.cons_cons _ (.cons _ .slnil)))))))) (fun hg794 => (q_move (v := .pointer (some ⟨g17, 0, none⟩)) rfl (optp_some rfl hz58))) ?_
                    refine hg0 (i := 29) rfl (by kernel_rfl) rfl rfl rfl rfl rfl (fun w hw => hw.back (hl762.trans hl782) h0748 (.cons _ (.cons _ (.cons _ (.cons_cons _ (.cons_cons _ (.cons_cons _ (.cons _ .slnil)))))))) (fun hg795 => (q_nil (A := some ⟨g17, 0, none⟩) rfl (gu hg795 rfl) rfl)) ?_
                    refine hg0 (i := 30) rfl (by kernel_rfl) rfl rfl rfl rfl rfl (fun w hw => hw.back (hl762.trans hl782) h0748 (.cons _ (.cons _ (.cons _ (.cons_cons _ (.cons_cons _ (.cons_cons _ (.cons _ .slnil)))))))) (fun hg796 => (q_fl 3 fld_59_3 rfl (gu hg796 rfl) rfl)) ?_
                    refine hg0 (i := 31) rfl (by kernel_rfl) rfl rfl rfl rfl rfl (fun w hw => hw.back (hl762.trans hl782) h0748 (.cons _ (.cons _ (.cons _ (.cons_cons _ (.cons_cons _ (.cons_cons _ (.cons _ .slnil)))))))) (fun hg797 => (q_ldl (i := 0) (v := .slice A3_747 o662.vec.length c3_747) rfl rfl Tryz.isAgg22 (gu hg797 rfl) rfl)) ?_
                    refine (Bool.eq_false_or_eq_true (!(!z790))).elim (fun hb798 => ?_) (fun hb798 => ?_)
                    · skip
                      have h := bt hb798 h
                      refine WH.lone (i := 27) (by kernel_rfl) rfl ?_
                      refine WR.sat (c0 := true) (g := (!z790)) rfl rfl rfl hb798 ?_
                      obtain ⟨z799, hz800, h⟩ := bnd h
                      refine e_call (is := [0]) rfl rfl (call_run Tryz.call33 rfl rfl (args1 (gu hb798 rfl))) rfl (fun w hp => t_pull_Pull_Vec (ho667.mono (hl762.trans hl782)) hp hz800) ?_
                      rintro Γ801 U803 v804 hl802 ⟨A805, c806, row807, rfl, rfl, hr808, _⟩
                      change WR _ _ _ (CC F Γ801 [row666, row807, row787, row767, [(g17, .cells #[.int .i64 o662.id, .slice A1_747 o662.own.length c1_747, .bool o662.begun, .slice A3_747 o662.vec.length c3_747, .slice A4_747 o662.paths.length c4_747, .slice A5_747 o662.in_.length c5_747] 59 (0, 0))], r3_747, r4_747, row46]) _ _ (upd _ 195 (.slice A805 z799.length c806))
                      refine WR.nil ?_
                      refine WH.next (fun w hw => hw.back ((hl762.trans hl782).trans hl802) h0748 (.cons _ (.cons _ (.cons _ (.cons _ (.cons_cons _ (.cons_cons _ (.cons_cons _ (.cons _ .slnil))))))))) ?_
                      refine WH.lone (i := 32) (by kernel_rfl) rfl ?_
                      obtain ⟨z810, hz811, h⟩ := bnd h
                      refine vg0 rfl rfl rfl rfl rfl (fun hg809 => (q_call (call_run Tryz.call17 rfl rfl (args2 rfl (gu hg809 rfl))) (fun w hw => t_firthref04_Same (Γ := Gh.all w) (hr808.sl hw.sat.le_all (hw.ra 1 rfl)) hr808.capz ((ho3_747.mono ((hl762.trans hl782).trans hl802)).sl hw.sat.le_all (hw.ra 5 rfl)) (ho3_747.mono ((hl762.trans hl782).trans hl802)).capz (Sat.all w) (gc_of hz811 hg809)))) ?_
                      refine WR.nil ?_
                      refine WH.next (fun w hw => hw.back ((hl762.trans hl782).trans hl802) h0748 (.cons _ (.cons _ (.cons _ (.cons _ (.cons_cons _ (.cons_cons _ (.cons_cons _ (.cons _ .slnil))))))))) ?_
                      refine hg0 (i := 33) rfl (by kernel_rfl) rfl rfl rfl rfl rfl (fun w hw => hw.back ((hl762.trans hl782).trans hl802) h0748 (.cons _ (.cons _ (.cons _ (.cons _ (.cons_cons _ (.cons_cons _ (.cons_cons _ (.cons _ .slnil))))))))) (fun hg812 => (q_not rfl (gu hg812 rfl))) ?_
                      refine ht (i := 34) rfl (by kernel_rfl) rfl rfl rfl (fun w hw => hw.back ((hl762.trans hl782).trans hl802) h0748 (.cons _ (.cons _ (.cons _ (.cons _ (.cons_cons _ (.cons_cons _ (.cons_cons _ (.cons _ .slnil))))))))) (q_pick_f (v := .bool (!z810)) rfl rfl (not_t hb798) (gu hb798 rfl)) ?_
                      refine WH.done (by kernel_rfl) ?_
                      intro w hw
                      have hw := hw.fold (is := [4, 4, 4]) rfl hrow_747
                      exact ⟨(!z810), Γ801, h, (sl_ (by kernel_rfl)), (hw.only (is := [5, 0, 0]) rfl), ((hl762.trans hl782).trans hl802), trivial⟩
                    · skip
                      have h := bf hb798 h
                      refine hg0 (g := (!z790)) (i := 27) (v := undef) rfl (by kernel_rfl) rfl rfl rfl rfl rfl (fun w hw => hw.back (hl762.trans hl782) h0748 (.cons _ (.cons _ (.cons _ (.cons_cons _ (.cons_cons _ (.cons_cons _ (.cons _ .slnil)))))))) (no_tf hb798) ?_
                      refine WH.env (v := undef) (gv_false hb798) ?_
                      refine hg0 (g := (!z790)) (i := 32) (v := undef) rfl (by kernel_rfl) rfl rfl rfl rfl rfl (fun w hw => hw.back (hl762.trans hl782) h0748 (.cons _ (.cons _ (.cons _ (.cons_cons _ (.cons_cons _ (.cons_cons _ (.cons _ .slnil)))))))) (no_tf hb798) ?_
                      refine WH.env (v := undef) (gv_false hb798) ?_
                      refine hg0 (g := (!z790)) (i := 33) (v := undef) rfl (by kernel_rfl) rfl rfl rfl rfl rfl (fun w hw => hw.back (hl762.trans hl782) h0748 (.cons _ (.cons _ (.cons _ (.cons_cons _ (.cons_cons _ (.cons_cons _ (.cons _ .slnil)))))))) (no_tf hb798) ?_
                      refine WH.env (v := undef) (gv_false hb798) ?_
                      refine ht (i := 34) rfl (by kernel_rfl) rfl rfl rfl (fun w hw => hw.back (hl762.trans hl782) h0748 (.cons _ (.cons _ (.cons _ (.cons_cons _ (.cons_cons _ (.cons_cons _ (.cons _ .slnil)))))))) (q_pick_t (v := .bool true) rfl rfl (not_f hb798) (by kernel_rfl)) ?_
                      refine WH.done (by kernel_rfl) ?_
                      intro w hw
                      have hw := hw.fold (is := [3, 3, 3]) rfl hrow_747
                      exact ⟨true, Γ781, h, (sl_ (by kernel_rfl)), (hw.only (is := [4, 0, 0]) rfl), (hl762.trans hl782), trivial⟩
                  · skip
                    have h := bf hb778 h
                    refine hg0 (g := (!z770)) (i := 17) (v := undef) rfl (by kernel_rfl) rfl rfl rfl rfl rfl (fun w hw => hw.back hl762 h0748 (.cons _ (.cons _ (.cons_cons _ (.cons_cons _ (.cons_cons _ (.cons _ .slnil))))))) (no_tf hb778) ?_
                    refine WH.env (v := undef) (gv_false hb778) ?_
                    refine hg0 (g := (!z770)) (i := 22) (v := undef) rfl (by kernel_rfl) rfl rfl rfl rfl rfl (fun w hw => hw.back hl762 h0748 (.cons _ (.cons _ (.cons_cons _ (.cons_cons _ (.cons_cons _ (.cons _ .slnil))))))) (no_tf hb778) ?_
                    refine WH.env (v := undef) (gv_false hb778) ?_
                    refine hg0 (g := (!z770)) (i := 23) (v := undef) rfl (by kernel_rfl) rfl rfl rfl rfl rfl (fun w hw => hw.back hl762 h0748 (.cons _ (.cons _ (.cons_cons _ (.cons_cons _ (.cons_cons _ (.cons _ .slnil))))))) (no_tf hb778) ?_
                    refine WH.env (v := undef) (gv_false hb778) ?_
                    refine ht (i := 24) rfl (by kernel_rfl) rfl rfl rfl (fun w hw => hw.back hl762 h0748 (.cons _ (.cons _ (.cons_cons _ (.cons_cons _ (.cons_cons _ (.cons _ .slnil))))))) (q_pick_t (v := .bool true) rfl rfl (not_f hb778) (by kernel_rfl)) ?_
                    refine ht (i := 25) rfl (by kernel_rfl) rfl rfl rfl (fun w hw => hw.back hl762 h0748 (.cons _ (.cons _ (.cons_cons _ (.cons_cons _ (.cons_cons _ (.cons _ .slnil))))))) (q_move (v := .bool true) rfl (by kernel_rfl)) ?_
                    refine hg0 (g := true) (i := 26) (v := undef) rfl (by kernel_rfl) rfl rfl rfl rfl rfl (fun w hw => hw.back hl762 h0748 (.cons _ (.cons _ (.cons_cons _ (.cons_cons _ (.cons_cons _ (.cons _ .slnil))))))) (no_tf (nott rfl)) ?_
                    refine WH.env (v := undef) (gv_false (nott rfl)) ?_
                    refine hg0 (g := true) (i := 27) (v := undef) rfl (by kernel_rfl) rfl rfl rfl rfl rfl (fun w hw => hw.back hl762 h0748 (.cons _ (.cons _ (.cons_cons _ (.cons_cons _ (.cons_cons _ (.cons _ .slnil))))))) (no_tf (nott rfl)) ?_
                    refine WH.env (v := undef) (gv_false (nott rfl)) ?_
                    refine hg0 (g := true) (i := 28) (v := undef) rfl (by kernel_rfl) rfl rfl rfl rfl rfl (fun w hw => hw.back hl762 h0748 (.cons _ (.cons _ (.cons_cons _ (.cons_cons _ (.cons_cons _ (.cons _ .slnil))))))) (no_tf (nott rfl)) ?_
                    refine WH.env (v := undef) (gv_false (nott rfl)) ?_
                    refine hg0 (g := true) (i := 29) (v := undef) rfl (by kernel_rfl) rfl rfl rfl rfl rfl (fun w hw => hw.back hl762 h0748 (.cons _ (.cons _ (.cons_cons _ (.cons_cons _ (.cons_cons _ (.cons _ .slnil))))))) (no_tf (nott rfl)) ?_
                    refine WH.env (v := undef) (gv_false (nott rfl)) ?_
                    refine hg0 (g := true) (i := 30) (v := undef) rfl (by kernel_rfl) rfl rfl rfl rfl rfl (fun w hw => hw.back hl762 h0748 (.cons _ (.cons _ (.cons_cons _ (.cons_cons _ (.cons_cons _ (.cons _ .slnil))))))) (no_tf (nott rfl)) ?_
                    refine WH.env (v := undef) (gv_false (nott rfl)) ?_
                    refine hg0 (g := true) (i := 31) (v := undef) rfl (by kernel_rfl) rfl rfl rfl rfl rfl (fun w hw => hw.back hl762 h0748 (.cons _ (.cons _ (.cons_cons _ (.cons_cons _ (.cons_cons _ (.cons _ .slnil))))))) (no_tf (nott rfl)) ?_
                    refine WH.env (v := undef) (gv_false (nott rfl)) ?_
                    refine hg0 (g := true) (i := 32) (v := undef) rfl (by kernel_rfl) rfl rfl rfl rfl rfl (fun w hw => hw.back hl762 h0748 (.cons _ (.cons _ (.cons_cons _ (.cons_cons _ (.cons_cons _ (.cons _ .slnil))))))) (no_tf (nott rfl)) ?_
                    refine WH.env (v := undef) (gv_false (nott rfl)) ?_
                    refine hg0 (g := true) (i := 33) (v := undef) rfl (by kernel_rfl) rfl rfl rfl rfl rfl (fun w hw => hw.back hl762 h0748 (.cons _ (.cons _ (.cons_cons _ (.cons_cons _ (.cons_cons _ (.cons _ .slnil))))))) (no_tf (nott rfl)) ?_
                    refine WH.env (v := undef) (gv_false (nott rfl)) ?_
                    refine ht (i := 34) rfl (by kernel_rfl) rfl rfl rfl (fun w hw => hw.back hl762 h0748 (.cons _ (.cons _ (.cons_cons _ (.cons_cons _ (.cons_cons _ (.cons _ .slnil))))))) (q_pickt (v := .bool true) rfl rfl rfl) ?_
                    refine WH.done (by kernel_rfl) ?_
                    intro w hw
                    have hw := hw.fold (is := [2, 2, 2]) rfl hrow_747
                    exact ⟨true, Γ761, h, (sl_ (by kernel_rfl)), (hw.only (is := [3, 0, 0]) rfl), hl762, trivial⟩
                · skip
                  have h := bf hb758 h
                  refine hg0 (g := (z749 != z751)) (i := 7) (v := undef) rfl (by kernel_rfl) rfl rfl rfl rfl rfl (fun w hw => hw.back (Gh.refl _) h0748 (.cons_cons _ (.cons_cons _ (.cons_cons _ (.cons _ (.cons _ .slnil)))))) (no_tf hb758) ?_
                  refine WH.env (v := undef) (gv_false hb758) ?_
                  refine hg0 (g := (z749 != z751)) (i := 12) (v := undef) rfl (by kernel_rfl) rfl rfl rfl rfl rfl (fun w hw => hw.back (Gh.refl _) h0748 (.cons_cons _ (.cons_cons _ (.cons_cons _ (.cons _ (.cons _ .slnil)))))) (no_tf hb758) ?_
                  refine WH.env (v := undef) (gv_false hb758) ?_
                  refine hg0 (g := (z749 != z751)) (i := 13) (v := undef) rfl (by kernel_rfl) rfl rfl rfl rfl rfl (fun w hw => hw.back (Gh.refl _) h0748 (.cons_cons _ (.cons_cons _ (.cons_cons _ (.cons _ (.cons _ .slnil)))))) (no_tf hb758) ?_
                  refine WH.env (v := undef) (gv_false hb758) ?_
                  refine ht (i := 14) rfl (by kernel_rfl) rfl rfl rfl (fun w hw => hw.back (Gh.refl _) h0748 (.cons_cons _ (.cons_cons _ (.cons_cons _ (.cons _ (.cons _ .slnil)))))) (q_pick_t (v := .bool true) rfl rfl (not_f hb758) (by kernel_rfl)) ?_
                  refine ht (i := 15) rfl (by kernel_rfl) rfl rfl rfl (fun w hw => hw.back (Gh.refl _) h0748 (.cons_cons _ (.cons_cons _ (.cons_cons _ (.cons _ (.cons _ .slnil)))))) (q_move (v := .bool true) rfl (by kernel_rfl)) ?_
                  refine hg0 (g := true) (i := 16) (v := undef) rfl (by kernel_rfl) rfl rfl rfl rfl rfl (fun w hw => hw.back (Gh.refl _) h0748 (.cons_cons _ (.cons_cons _ (.cons_cons _ (.cons _ (.cons _ .slnil)))))) (no_tf (nott rfl)) ?_
                  refine WH.env (v := undef) (gv_false (nott rfl)) ?_
                  refine hg0 (g := true) (i := 17) (v := undef) rfl (by kernel_rfl) rfl rfl rfl rfl rfl (fun w hw => hw.back (Gh.refl _) h0748 (.cons_cons _ (.cons_cons _ (.cons_cons _ (.cons _ (.cons _ .slnil)))))) (no_tf (nott rfl)) ?_
                  refine WH.env (v := undef) (gv_false (nott rfl)) ?_
                  refine hg0 (g := true) (i := 18) (v := undef) rfl (by kernel_rfl) rfl rfl rfl rfl rfl (fun w hw => hw.back (Gh.refl _) h0748 (.cons_cons _ (.cons_cons _ (.cons_cons _ (.cons _ (.cons _ .slnil)))))) (no_tf (nott rfl)) ?_
                  refine WH.env (v := undef) (gv_false (nott rfl)) ?_
                  refine hg0 (g := true) (i := 19) (v := undef) rfl (by kernel_rfl) rfl rfl rfl rfl rfl (fun w hw => hw.back (Gh.refl _) h0748 (.cons_cons _ (.cons_cons _ (.cons_cons _ (.cons _ (.cons _ .slnil)))))) (no_tf (nott rfl)) ?_
                  refine WH.env (v := undef) (gv_false (nott rfl)) ?_
                  refine hg0 (g := true) (i := 20) (v := undef) rfl (by kernel_rfl) rfl rfl rfl rfl rfl (fun w hw => hw.back (Gh.refl _) h0748 (.cons_cons _ (.cons_cons _ (.cons_cons _ (.cons _ (.cons _ .slnil)))))) (no_tf (nott rfl)) ?_
                  refine WH.env (v := undef) (gv_false (nott rfl)) ?_
                  refine hg0 (g := true) (i := 21) (v := undef) rfl (by kernel_rfl) rfl rfl rfl rfl rfl (fun w hw => hw.back (Gh.refl _) h0748 (.cons_cons _ (.cons_cons _ (.cons_cons _ (.cons _ (.cons _ .slnil)))))) (no_tf (nott rfl)) ?_
                  refine WH.env (v := undef) (gv_false (nott rfl)) ?_
                  refine hg0 (g := true) (i := 22) (v := undef) rfl (by kernel_rfl) rfl rfl rfl rfl rfl (fun w hw => hw.back (Gh.refl _) h0748 (.cons_cons _ (.cons_cons _ (.cons_cons _ (.cons _ (.cons _ .slnil)))))) (no_tf (nott rfl)) ?_
                  refine WH.env (v := undef) (gv_false (nott rfl)) ?_
                  refine hg0 (g := true) (i := 23) (v := undef) rfl (by kernel_rfl) rfl rfl rfl rfl rfl (fun w hw => hw.back (Gh.refl _) h0748 (.cons_cons _ (.cons_cons _ (.cons_cons _ (.cons _ (.cons _ .slnil)))))) (no_tf (nott rfl)) ?_
                  refine WH.env (v := undef) (gv_false (nott rfl)) ?_
                  refine ht (i := 24) rfl (by kernel_rfl) rfl rfl rfl (fun w hw => hw.back (Gh.refl _) h0748 (.cons_cons _ (.cons_cons _ (.cons_cons _ (.cons _ (.cons _ .slnil)))))) (q_pickt (v := .bool true) rfl rfl rfl) ?_
                  refine ht (i := 25) rfl (by kernel_rfl) rfl rfl rfl (fun w hw => hw.back (Gh.refl _) h0748 (.cons_cons _ (.cons_cons _ (.cons_cons _ (.cons _ (.cons _ .slnil)))))) (q_move (v := .bool true) rfl (by kernel_rfl)) ?_
                  refine hg0 (g := true) (i := 26) (v := undef) rfl (by kernel_rfl) rfl rfl rfl rfl rfl (fun w hw => hw.back (Gh.refl _) h0748 (.cons_cons _ (.cons_cons _ (.cons_cons _ (.cons _ (.cons _ .slnil)))))) (no_tf (nott rfl)) ?_
                  refine WH.env (v := undef) (gv_false (nott rfl)) ?_
                  refine hg0 (g := true) (i := 27) (v := undef) rfl (by kernel_rfl) rfl rfl rfl rfl rfl (fun w hw => hw.back (Gh.refl _) h0748 (.cons_cons _ (.cons_cons _ (.cons_cons _ (.cons _ (.cons _ .slnil)))))) (no_tf (nott rfl)) ?_
                  refine WH.env (v := undef) (gv_false (nott rfl)) ?_
                  refine hg0 (g := true) (i := 28) (v := undef) rfl (by kernel_rfl) rfl rfl rfl rfl rfl (fun w hw => hw.back (Gh.refl _) h0748 (.cons_cons _ (.cons_cons _ (.cons_cons _ (.cons _ (.cons _ .slnil)))))) (no_tf (nott rfl)) ?_
                  refine WH.env (v := undef) (gv_false (nott rfl)) ?_
                  refine hg0 (g := true) (i := 29) (v := undef) rfl (by kernel_rfl) rfl rfl rfl rfl rfl (fun w hw => hw.back (Gh.refl _) h0748 (.cons_cons _ (.cons_cons _ (.cons_cons _ (.cons _ (.cons _ .slnil)))))) (no_tf (nott rfl)) ?_
                  refine WH.env (v := undef) (gv_false (nott rfl)) ?_
                  refine hg0 (g := true) (i := 30) (v := undef) rfl (by kernel_rfl) rfl rfl rfl rfl rfl (fun w hw => hw.back (Gh.refl _) h0748 (.cons_cons _ (.cons_cons _ (.cons_cons _ (.cons _ (.cons _ .slnil)))))) (no_tf (nott rfl)) ?_
                  refine WH.env (v := undef) (gv_false (nott rfl)) ?_
                  refine hg0 (g := true) (i := 31) (v := undef) rfl (by kernel_rfl) rfl rfl rfl rfl rfl (fun w hw => hw.back (Gh.refl _) h0748 (.cons_cons _ (.cons_cons _ (.cons_cons _ (.cons _ (.cons _ .slnil)))))) (no_tf (nott rfl)) ?_
                  refine WH.env (v := undef) (gv_false (nott rfl)) ?_
                  refine hg0 (g := true) (i := 32) (v := undef) rfl (by kernel_rfl) rfl rfl rfl rfl rfl (fun w hw => hw.back (Gh.refl _) h0748 (.cons_cons _ (.cons_cons _ (.cons_cons _ (.cons _ (.cons _ .slnil)))))) (no_tf (nott rfl)) ?_
                  refine WH.env (v := undef) (gv_false (nott rfl)) ?_
                  refine hg0 (g := true) (i := 33) (v := undef) rfl (by kernel_rfl) rfl rfl rfl rfl rfl (fun w hw => hw.back (Gh.refl _) h0748 (.cons_cons _ (.cons_cons _ (.cons_cons _ (.cons _ (.cons _ .slnil)))))) (no_tf (nott rfl)) ?_
                  refine WH.env (v := undef) (gv_false (nott rfl)) ?_
                  refine ht (i := 34) rfl (by kernel_rfl) rfl rfl rfl (fun w hw => hw.back (Gh.refl _) h0748 (.cons_cons _ (.cons_cons _ (.cons_cons _ (.cons _ (.cons _ .slnil)))))) (q_pickt (v := .bool true) rfl rfl rfl) ?_
                  refine WH.done (by kernel_rfl) ?_
                  intro w hw
                  have hw := hw.fold (is := [0, 0, 0]) rfl hrow_747
                  exact ⟨true, Γ660, h, (sl_ (by kernel_rfl)), (hw.only (is := [1, 0, 0]) rfl), (Gh.refl _), trivial⟩
              · skip
                rintro σ w ⟨x_746, Γ744, h, hsl, hw, hl745, -⟩
                refine Wpt.slots hsl ?_
                refine WC.here (C := CC F Γ744 [row46, row663, row666]) ?_ hw
                clear hw hsl
                refine WC.cif h (by kernel_rfl) (fun hb817 h => ?_) (fun hb817 h => ?_)
                · skip
                  refine WC.rs ?_
                  refine va rfl rfl rfl (q_assign (v := .bool false) rfl (by kernel_rfl)) ?_
                  refine WR.nil ?_
                  change WC _ _ _ _ _ _
                  refine WC.ret ?_
                  intro w hw
                  obtain rfl := Option.some.inj h
                  subst hF
                  exact ⟨by kernel_rfl, hw.fr⟩
                · skip
                  refine WC.skip ?_
                  change WC _ _ _ _ _ _
                  refine WC.region ?_
                  refine va rfl rfl rfl (q_move (v := .int .i64 ((i72 : Nat) : Int)) rfl (by kernel_rfl)) ?_
                  refine va rfl rfl rfl (q_add_r (r := ((i72 + 1 : Nat) : Int)) rfl rfl rfl (ctr_len hl77 (hscript.mono ((((hl4.trans hl14).trans hl35).trans hl42).trans hl64)).le)) ?_
                  refine va rfl rfl rfl (q_assign (v := .int .i64 ((i72 + 1 : Nat) : Int)) rfl (by kernel_rfl)) ?_
                  refine WR.nil ?_
                  intro w hw
                  exact ⟨hl77, (o662, o665), h, Γ744, row663, row666, (sl_ (by kernel_rfl)), hw, ((hl64.trans hl661).trans hl745), (ho664.mono hl745), (ho667.mono hl745), trivial⟩
      · skip
        have h := hge75 (ige hb76)
        refine WC.exit ?_
        change WC _ _ _ _ _ _
        refine WC.rs ?_
        refine va rfl rfl rfl (q_move (v := .pointer (some ⟨g7, 0, none⟩)) rfl (optp_some rfl hz61)) ?_
        obtain ⟨z818, hz819, h⟩ := bnd h
        refine vc rfl rfl rfl (q_call (call_run Tryz.call34 rfl rfl (by kernel_rfl)) (fun w hw => t_pull_Pull_Id (Γ := Gh.all w) (ho70.mono hw.sat.le_all) (hw.ra 2 rfl) (Sat.all w) hz819)) ?_
        refine va rfl rfl rfl (q_eql rfl rfl rfl) ?_
        refine va rfl rfl rfl (q_assign (v := .bool (z818 == 5)) rfl (by kernel_rfl)) ?_
        refine WR.nil ?_
        change WC _ _ _ _ _ _
        refine WC.ret ?_
        intro w hw
        obtain rfl := Option.some.inj h
        subst hF
        exact ⟨by kernel_rfl, hw.fr⟩
end Fw
end Go.Proofs.YtiakfgdgafljnaaGreat
