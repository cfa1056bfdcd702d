/- Walks through the functions that the law reaches (printed by a program). No condition. -/
import Derived.Test.YtbidmceookkapaaGreatW3
namespace Go.Proofs.YtbidmceookkapaaGreat
namespace Fw
set_option linter.unusedVariables false
set_option linter.unusedSimpArgs false
set_option linter.unusedSectionVars false
open Go.RowKit
set_option maxRecDepth 100000 in
set_option maxHeartbeats 400000 in
theorem t_firthlaw14_MendTwice {Γ : Gh} {w0 : World} {Aown : Option Addr} {cown : Nat} {own : List Rec} (hown : Sl recT Γ Aown own) (hownc : own.length ≤ cown) {Atheirs : Option Addr} {ctheirs : Nat} {theirs : List Rec} (htheirs : Sl recT Γ Atheirs theirs) (htheirsc : theirs.length ≤ ctheirs) (hs : Sat Γ w0) {r : Bool} (h : m_firthlaw14_MendTwice own theirs = some r) : Calls Tryz.prog 7 #[.slice Aown own.length cown, .slice Atheirs theirs.length ctheirs] w0 (fun e w' => e = .returned (.bool r) ∧ Fr no w0 w') := by
  refine calls_of (N := 122) (rs := [4]) (args := [.slice Aown own.length cown, .slice Atheirs theirs.length ctheirs]) Tryz.func7 rfl Tryz.ntmps7 Tryz.results7 rfl ?_
  obtain ⟨F, hF⟩ : ∃ F : Fm, F = ⟨no, w0, Γ⟩ := ⟨_, rfl⟩
  refine WC.here (C := CC F Γ []) ?_ (hF ▸ Cur.start0 hs)
  refine WC.rs ?_
  refine va rfl rfl rfl (q_assign (v := .bool false) rfl (by kernel_rfl)) ?_
  refine WR.nil ?_
  change WC _ _ _ _ _ _
  refine WC.seq ?_
  refine WC.rs ?_
  obtain ⟨z1, hz2, h⟩ := bnd h
  refine vc rfl rfl rfl (q_call (call_run Tryz.call9 rfl rfl (by kernel_rfl)) (fun w hw => t_firthlaw14_awake (Γ := Gh.all w)  (Sat.all w) hz2)) ?_
  refine va rfl rfl rfl (q_not rfl rfl) ?_
  refine WR.nil ?_
  change WC _ _ _ _ _ _
  refine WC.cif h (by kernel_rfl) (fun hb3 h => ?_) (fun hb3 h => ?_)
  · skip
    refine WC.rs ?_
    refine va rfl rfl rfl (q_assign (v := .bool false) rfl (by kernel_rfl)) ?_
    refine WR.nil ?_
    change WC _ _ _ _ _ _
    refine WC.ret ?_
    intro w hw
    obtain rfl := Option.some.inj h
    subst hF
    exact ⟨by kernel_rfl, hw.fr⟩
  · skip
    refine WC.skip ?_
    change WC _ _ _ _ _ _
    refine WC.rs ?_
    refine va rfl rfl rfl (q_move (v := .slice Aown own.length cown) rfl (by kernel_rfl)) ?_
    obtain ⟨z4, hz5, h⟩ := bnd h
    refine e_call (is := []) rfl rfl (call_run Tryz.call10 rfl rfl (by kernel_rfl)) rfl (fun w hp => t_firthref14_Held hown hownc hp hz5) ?_
    rintro Γ6 U8 v9 hl7 ⟨A10, c11, row12, rfl, rfl, hr13, _⟩
    change WR _ _ _ (CC F Γ6 [row12]) _ _ (upd _ 22 (.tuple #[.slice A10 z4.1.length c11, .bool z4.2]))
    refine va rfl rfl rfl (q_move (v := .tuple #[.slice A10 z4.1.length c11, .bool z4.2]) rfl (by kernel_rfl)) ?_
    refine va rfl rfl rfl (q_extract (v := .slice A10 z4.1.length c11) rfl rfl rfl) ?_
    refine va rfl rfl rfl (q_extract (v := .bool z4.2) rfl rfl rfl) ?_
    refine va rfl rfl rfl (q_assign (v := .slice A10 z4.1.length c11) rfl (by kernel_rfl)) ?_
    refine va rfl rfl rfl (q_assign (v := .bool z4.2) rfl (by kernel_rfl)) ?_
    refine WR.nil ?_
    change WC _ _ _ _ _ _
    refine WC.rs ?_
    refine va rfl rfl rfl (q_move (v := .slice Atheirs theirs.length ctheirs) rfl (by kernel_rfl)) ?_
    obtain ⟨z14, hz15, h⟩ := bnd h
    refine e_call (is := []) rfl rfl (call_run Tryz.call10 rfl rfl (by kernel_rfl)) rfl (fun w hp => t_firthref14_Held (htheirs.mono hl7) htheirsc hp hz15) ?_
    rintro Γ16 U18 v19 hl17 ⟨A20, c21, row22, rfl, rfl, hr23, _⟩
    change WR _ _ _ (CC F Γ16 [row22, row12]) _ _ (upd _ 27 (.tuple #[.slice A20 z14.1.length c21, .bool z14.2]))
    refine va rfl rfl rfl (q_move (v := .tuple #[.slice A20 z14.1.length c21, .bool z14.2]) rfl (by kernel_rfl)) ?_
    refine va rfl rfl rfl (q_extract (v := .slice A20 z14.1.length c21) rfl rfl rfl) ?_
    refine va rfl rfl rfl (q_extract (v := .bool z14.2) rfl rfl rfl) ?_
    refine va rfl rfl rfl (q_assign (v := .slice A20 z14.1.length c21) rfl (by kernel_rfl)) ?_
    refine va rfl rfl rfl (q_assign (v := .bool z14.2) rfl (by kernel_rfl)) ?_
    refine WR.nil ?_
    change WC _ _ _ _ _ _
    refine WC.seq ?_
    refine WC.rs ?_
    refine va rfl rfl rfl (q_move (v := .bool z4.2) rfl (by kernel_rfl)) ?_
    refine va rfl rfl rfl (q_not rfl rfl) ?_
    refine va rfl rfl rfl (q_move (v := .bool (!z4.2)) rfl (by kernel_rfl)) ?_
    refine vg0 rfl rfl rfl rfl rfl (fun hg24 => QV.qo (q_move (v := .bool z14.2) rfl (by kernel_rfl))) ?_
    refine vg0 rfl rfl rfl rfl rfl (fun hg25 => QV.qo (q_not rfl (gu hg25 rfl))) ?_
    refine va rfl rfl rfl (q_pick rfl rfl (pk_or' (g := (!z4.2)) (y := (!z14.2)))) ?_
    refine WR.nil ?_
    change WC _ _ _ _ _ _
    refine WC.cif h (by kernel_rfl) (fun hb26 h => ?_) (fun hb26 h => ?_)
    · skip
      refine WC.rs ?_
      refine va rfl rfl rfl (q_assign (v := .bool true) rfl (by kernel_rfl)) ?_
      refine WR.nil ?_
      change WC _ _ _ _ _ _
      refine WC.ret ?_
      intro w hw
      obtain rfl := Option.some.inj h
      subst hF
      exact ⟨by kernel_rfl, hw.fr⟩
    · skip
      refine WC.skip ?_
      change WC _ _ _ _ _ _
      refine WC.rs ?_
      refine va rfl rfl rfl (q_move (v := .slice A10 z4.1.length c11) rfl (by kernel_rfl)) ?_
      refine va rfl rfl rfl (q_move (v := .slice A20 z14.1.length c21) rfl (by kernel_rfl)) ?_
      have hc31 := (hr13.mono hl17).capz
      intro w hw; obtain ⟨Γ27, hw, hl28, hr29⟩ := hw.seal (i := 1) rfl; have hs30 := (hr13.mono hl17).sl hl28 hr29
      refine WR.here (C := CC F Γ27 [row22, []]) ?_ hw
      clear hw
      have hc36 := (hr23.mono hl28).capz
      intro w hw; obtain ⟨Γ32, hw, hl33, hr34⟩ := hw.seal (i := 0) rfl; have hs35 := (hr23.mono hl28).sl hl33 hr34
      refine WR.here (C := CC F Γ32 [[], []]) ?_ hw
      clear hw
      obtain ⟨z37, hz38, h⟩ := bnd h
      refine e_call (is := []) rfl rfl (call_run Tryz.call21 rfl rfl (by kernel_rfl)) rfl (fun w hp => t_firthlaw14_both (hs30.mono hl33) hc31 hs35 hc36 hp hz38) ?_
      rintro Γ39 U41 v42 hl40 ⟨A43, c44, rfl, rfl, hc46, hr45, _⟩
      change WR _ _ _ (CC F Γ39 [[], []]) _ _ (upd _ 39 (.tuple #[.slice A43 z37.1.length c44, .bool z37.2]))
      refine va rfl rfl rfl (q_move (v := .tuple #[.slice A43 z37.1.length c44, .bool z37.2]) rfl (by kernel_rfl)) ?_
      refine va rfl rfl rfl (q_extract (v := .slice A43 z37.1.length c44) rfl rfl rfl) ?_
      refine va rfl rfl rfl (q_extract (v := .bool z37.2) rfl rfl rfl) ?_
      refine va rfl rfl rfl (q_assign (v := .slice A43 z37.1.length c44) rfl (by kernel_rfl)) ?_
      refine va rfl rfl rfl (q_assign (v := .bool z37.2) rfl (by kernel_rfl)) ?_
      refine WR.nil ?_
      change WC _ _ _ _ _ _
      refine WC.rs ?_
      refine va rfl rfl rfl (q_move (v := .slice A10 z4.1.length c11) rfl (by kernel_rfl)) ?_
      refine va rfl rfl rfl (q_move (v := .slice A20 z14.1.length c21) rfl (by kernel_rfl)) ?_
      obtain ⟨z47, hz48, h⟩ := bnd h
      refine e_call (is := []) rfl rfl (call_run Tryz.call23 rfl rfl (by kernel_rfl)) rfl (fun w hp => t_mend_Take (hs30.mono (hl33.trans hl40)) hc31 (hs35.mono hl40) hc36 hp hz48) ?_
      rintro Γ49 U51 v52 hl50 ⟨A53, c54, row55, rfl, rfl, hr56, hr57, _⟩
      change WR _ _ _ (CC F Γ49 [row55, [], []]) _ _ (upd _ 45 (.tuple #[.slice A53 z47.1.length c54, .int .i64 z47.2]))
      refine va rfl rfl rfl (q_move (v := .tuple #[.slice A53 z47.1.length c54, .int .i64 z47.2]) rfl (by kernel_rfl)) ?_
      refine va rfl rfl rfl (q_extract (v := .slice A53 z47.1.length c54) rfl rfl rfl) ?_
      refine va rfl rfl rfl (q_extract (v := .int .i64 z47.2) rfl rfl rfl) ?_
      refine va rfl rfl rfl (q_assign (v := .slice A53 z47.1.length c54) rfl (by kernel_rfl)) ?_
      refine va rfl rfl rfl (q_assign (v := .int .i64 z47.2) rfl (by kernel_rfl)) ?_
      refine WR.nil ?_
      change WC _ _ _ _ _ _
      refine WC.seq ?_
      refine WC.rs ?_
      refine va rfl rfl rfl (q_move (v := .int .i64 z47.2) rfl (by kernel_rfl)) ?_
      refine va rfl rfl rfl (q_neq rfl rfl rfl) ?_
      refine va rfl rfl rfl (q_move (v := .bool (z47.2 != 0)) rfl (by kernel_rfl)) ?_
      refine vg0 rfl rfl rfl rfl rfl (fun hg58 => QV.qo (q_move (v := .bool z37.2) rfl (by kernel_rfl))) ?_
      refine vg0 rfl rfl rfl rfl rfl (fun hg59 => QV.qo (q_not rfl (gu hg59 rfl))) ?_
      refine va rfl rfl rfl (q_pick rfl rfl (pk_or' (g := (z47.2 != 0)) (y := (!z37.2)))) ?_
      refine WR.nil ?_
      change WC _ _ _ _ _ _
      refine WC.cif h (by kernel_rfl) (fun hb60 h => ?_) (fun hb60 h => ?_)
      · skip
        refine WC.rs ?_
        refine va rfl rfl rfl (q_move (v := .int .i64 z47.2) rfl (by kernel_rfl)) ?_
        refine va rfl rfl rfl (q_eql rfl rfl rfl) ?_
        refine va rfl rfl rfl (q_assign (v := .bool (z47.2 == 0)) rfl (by kernel_rfl)) ?_
        refine WR.nil ?_
        change WC _ _ _ _ _ _
        refine WC.ret ?_
        intro w hw
        obtain rfl := Option.some.inj h
        subst hF
        exact ⟨by kernel_rfl, hw.fr⟩
      · skip
        refine WC.skip ?_
        change WC _ _ _ _ _ _
        refine WC.rs ?_
        refine va rfl rfl rfl (q_move (v := .slice A10 z4.1.length c11) rfl (by kernel_rfl)) ?_
        refine va rfl rfl rfl (q_move (v := .slice A53 z47.1.length c54) rfl (by kernel_rfl)) ?_
        have hc65 := hr56.capz
        intro w hw; obtain ⟨Γ61, hw, hl62, hr63⟩ := hw.seal (i := 0) rfl; have hs64 := hr56.sl hl62 hr63
        refine WR.here (C := CC F Γ61 [[], [], []]) ?_ hw
        clear hw
        obtain ⟨z66, hz67, h⟩ := bnd h
        refine e_call (is := []) rfl rfl (call_run Tryz.call24 rfl rfl (by kernel_rfl)) rfl (fun w hp => t_firthlaw14_laid (hs30.mono (((hl33.trans hl40).trans hl50).trans hl62)) hc31 hs64 hc65 hp hz67) ?_
        rintro Γ68 U70 v71 hl69 ⟨A72, c73, rfl, rfl, hc75, hr74, _⟩
        change WR _ _ _ (CC F Γ68 [[], [], []]) _ _ (upd _ 58 (.slice A72 z66.length c73))
        refine va rfl rfl rfl (q_assign (v := .slice A72 z66.length c73) rfl (by kernel_rfl)) ?_
        refine WR.nil ?_
        change WC _ _ _ _ _ _
        refine WC.seq ?_
        refine WC.rs ?_
        refine va rfl rfl rfl (q_assign (v := .int .i64 0) rfl (by kernel_rfl)) ?_
        refine WR.nil ?_
        change WC _ _ _ _ _ _
        refine WC.block ?_
        refine WC.forI h (fun (i79 : Nat) (s : Unit) σ w => match s with | () => ∃ (Γ76 : Gh), slots σ [(5, .slice A10 z4.1.length c11), (7, .slice A20 z14.1.length c21), (13, .slice A72 z66.length c73), (14, .int .i64 ((i79 : Nat) : Int))] ∧ CC F Γ76 [] w ∧ Gh.le Γ68 Γ76 ∧ True) ?_ ?_
        · skip
          intro w hw
          exact ⟨Γ68, (sl_ (by kernel_rfl)), (hw.only (is := []) rfl), (Gh.refl _), trivial⟩
        rintro f78 i79 ⟨⟩ σ w hi80 hlt81 hge82 ⟨Γ76, hsl, hw, hl77, -⟩
        refine Wpt.slots hsl ?_
        refine WC.here (C := CC F Γ76 []) ?_ hw
        clear hw hsl
        refine WC.seq ?_
        refine WC.rs ?_
        refine va rfl rfl rfl (q_move (v := .int .i64 ((i79 : Nat) : Int)) rfl (by kernel_rfl)) ?_
        refine va rfl rfl rfl (q_move (v := .slice A10 z4.1.length c11) rfl (by kernel_rfl)) ?_
        refine va rfl rfl rfl (q_len_slice rfl Tryz.underlying22 rfl) ?_
        refine va rfl rfl rfl (q_lss rfl rfl rfl) ?_
        refine WR.nil ?_
        change WC _ _ _ _ _ _
        refine WC.cond (b := (decide (((i79 : Nat) : Int) < ((z4.1.length : Nat) : Int)))) (by kernel_rfl) (fun hb83 => ?_) (fun hb83 => ?_)
        · skip
          have hl84 := ilt hb83
          have h := hlt81 hl84
          refine WC.skip ?_
          change WC _ _ _ _ _ _
          refine WC.seq ?_
          refine WC.block ?_
          refine WC.seq ?_
          intro w hw; have h085 := hw.le
          refine WC.here (C := CC F Γ76 []) ?_ hw; clear hw
          refine WC.held (CC F Γ76 []) (by kernel_rfl) (fun w hw => hw.drawn _) ?_
          change WH _ _ _ _ (CC F Γ76 []) _ 28 #[false, false, false, false, false, false, false, false, false, false, false, false, false, false, false, false, false, false, false, false, false, false, false, false, false, false, false, false] _
          refine ht (i := 0) rfl (by kernel_rfl) rfl rfl rfl (fun w hw => hw.back (Gh.refl _) h085 .slnil) (q_move (v := .slice A72 z66.length c73) rfl (by kernel_rfl)) ?_
          refine ht (i := 1) rfl (by kernel_rfl) rfl rfl rfl (fun w hw => hw.back (Gh.refl _) h085 .slnil) (q_move (v := .slice A10 z4.1.length c11) rfl (by kernel_rfl)) ?_
          refine ht (i := 2) rfl (by kernel_rfl) rfl rfl rfl (fun w hw => hw.back (Gh.refl _) h085 .slnil) (q_move (v := .int .i64 ((i79 : Nat) : Int)) rfl (by kernel_rfl)) ?_
          refine ht (i := 3) rfl (by kernel_rfl) rfl rfl rfl (fun w hw => hw.back (Gh.refl _) h085 .slnil) (q_ixn (i := i79) Tryz.underlying22 Tryz.sizeOf51 rfl rfl rfl hl84 ((hs30.mono (((((hl33.trans hl40).trans hl50).trans hl62).trans hl69).trans hl77)).some_ hl84)) ?_
          refine ht (i := 4) rfl (by kernel_rfl) rfl rfl rfl (fun w hw => hw.back (Gh.refl _) h085 .slnil) (q_field_addr (i79 * 2) fld_51_0 rfl rfl ((hs30.mono (((((hl33.trans hl40).trans hl50).trans hl62).trans hl69).trans hl77)).some_ hl84) rfl) ?_
          obtain ⟨A86, c87, hx88⟩ := (hs30.mono (((((hl33.trans hl40).trans hl50).trans hl62).trans hl69).trans hl77)).recT_at i79
          refine ht (i := 5) rfl (by kernel_rfl) rfl rfl rfl (fun w hw => hw.back (Gh.refl _) h085 .slnil) (q_ld (c := 0) (v := .string (gt z4.1 i79).key) (hx88 hl84).2 rfl Tryz.isAgg9 rfl rfl) ?_
          refine ht (i := 7) rfl (by kernel_rfl) rfl rfl rfl (fun w hw => hw.back (Gh.refl _) h085 .slnil) (q_move (v := .slice A10 z4.1.length c11) rfl (by kernel_rfl)) ?_
          refine ht (i := 8) rfl (by kernel_rfl) rfl rfl rfl (fun w hw => hw.back (Gh.refl _) h085 .slnil) (q_move (v := .int .i64 ((i79 : Nat) : Int)) rfl (by kernel_rfl)) ?_
          refine ht (i := 9) rfl (by kernel_rfl) rfl rfl rfl (fun w hw => hw.back (Gh.refl _) h085 .slnil) (q_ixn (i := i79) Tryz.underlying22 Tryz.sizeOf51 rfl rfl rfl hl84 ((hs30.mono (((((hl33.trans hl40).trans hl50).trans hl62).trans hl69).trans hl77)).some_ hl84)) ?_
          refine ht (i := 10) rfl (by kernel_rfl) rfl rfl rfl (fun w hw => hw.back (Gh.refl _) h085 .slnil) (q_field_addr (i79 * 2 + 1) fld_51_1 rfl rfl ((hs30.mono (((((hl33.trans hl40).trans hl50).trans hl62).trans hl69).trans hl77)).some_ hl84) rfl) ?_
          refine ht (i := 11) rfl (by kernel_rfl) rfl rfl rfl (fun w hw => hw.back (Gh.refl _) h085 .slnil) (q_ld (c := 1) (v := .slice A86 ((gt z4.1 i79).vers).length c87) (hx88 hl84).2 rfl Tryz.isAgg48 rfl rfl) ?_
          refine WH.lone (i := 6) (by kernel_rfl) rfl ?_
          obtain ⟨z89, hz90, h⟩ := bnd h
          refine e_call (is := []) rfl rfl (call_run Tryz.call26 rfl rfl (by kernel_rfl)) rfl (fun w hp => t_firthref14_Get (hr74.mono hl77) hc75 ((gt z4.1 i79).key) (hx88 hl84).1.1 hp hz90) ?_
          rintro Γ91 U93 v94 hl92 ⟨A95, c96, rfl, rfl, hc98, hr97, _⟩
          change WR _ _ _ (CC F Γ91 []) _ _ (upd _ 71 (.slice A95 z89.length c96))
          refine WR.nil ?_
          refine WH.next (fun w hw => hw.back hl92 h085 .slnil) ?_
          refine WH.lone (i := 12) (by kernel_rfl) rfl ?_
          obtain ⟨z99, hz100, h⟩ := bnd h
          refine vc rfl rfl rfl (q_call (call_run Tryz.call25 rfl rfl (by kernel_rfl)) (fun w hw => t_firthref05_Lacks (Γ := Gh.all w) (hr97.mono hw.sat.le_all) hc98 (((hx88 hl84).1.2.2.mono hl92).mono hw.sat.le_all) (hx88 hl84).1.2.1 (Sat.all w) hz100)) ?_
          refine WR.nil ?_
          refine WH.next (fun w hw => hw.back hl92 h085 .slnil) ?_
          refine ht (i := 13) rfl (by kernel_rfl) rfl rfl rfl (fun w hw => hw.back hl92 h085 .slnil) (q_move (v := .bool z99) rfl (by kernel_rfl)) ?_
          refine hg1 (i := 14) rfl (by kernel_rfl) rfl rfl rfl rfl rfl (fun w hw => hw.back hl92 h085 .slnil) (fun hg101 => (q_move (v := .slice A10 z4.1.length c11) rfl (by kernel_rfl))) ?_
          refine hg1 (i := 15) rfl (by kernel_rfl) rfl rfl rfl rfl rfl (fun w hw => hw.back hl92 h085 .slnil) (fun hg102 => (q_move (v := .int .i64 ((i79 : Nat) : Int)) rfl (by kernel_rfl))) ?_
          refine hg1 (i := 16) rfl (by kernel_rfl) rfl rfl rfl rfl rfl (fun w hw => hw.back hl92 h085 .slnil) (fun hg103 => (q_ixn (i := i79) Tryz.underlying22 Tryz.sizeOf51 rfl (gu hg103 rfl) (gu hg103 rfl) hl84 ((hs30.mono (((((hl33.trans hl40).trans hl50).trans hl62).trans hl69).trans hl77)).some_ hl84))) ?_
          refine hg1 (i := 17) rfl (by kernel_rfl) rfl rfl rfl rfl rfl (fun w hw => hw.back hl92 h085 .slnil) (fun hg104 => (q_field_addr (i79 * 2 + 1) fld_51_1 rfl (gu hg104 rfl) ((hs30.mono (((((hl33.trans hl40).trans hl50).trans hl62).trans hl69).trans hl77)).some_ hl84) rfl)) ?_
          refine hg1 (i := 18) rfl (by kernel_rfl) rfl rfl rfl rfl rfl (fun w hw => hw.back hl92 h085 .slnil) (fun hg105 => (q_ld (c := 1) (v := .slice A86 ((gt z4.1 i79).vers).length c87) (hx88 hl84).2 rfl Tryz.isAgg48 (gu hg105 rfl) rfl)) ?_
          refine hg1 (i := 19) rfl (by kernel_rfl) rfl rfl rfl rfl rfl (fun w hw => hw.back hl92 h085 .slnil) (fun hg106 => (q_move (v := .slice A20 z14.1.length c21) rfl (by kernel_rfl))) ?_
          refine hg1 (i := 20) rfl (by kernel_rfl) rfl rfl rfl rfl rfl (fun w hw => hw.back hl92 h085 .slnil) (fun hg107 => (q_move (v := .slice A10 z4.1.length c11) rfl (by kernel_rfl))) ?_
          refine hg1 (i := 21) rfl (by kernel_rfl) rfl rfl rfl rfl rfl (fun w hw => hw.back hl92 h085 .slnil) (fun hg108 => (q_move (v := .int .i64 ((i79 : Nat) : Int)) rfl (by kernel_rfl))) ?_
          refine hg1 (i := 22) rfl (by kernel_rfl) rfl rfl rfl rfl rfl (fun w hw => hw.back hl92 h085 .slnil) (fun hg109 => (q_ixn (i := i79) Tryz.underlying22 Tryz.sizeOf51 rfl (gu hg109 rfl) (gu hg109 rfl) hl84 ((hs30.mono (((((hl33.trans hl40).trans hl50).trans hl62).trans hl69).trans hl77)).some_ hl84))) ?_
          refine hg1 (i := 23) rfl (by kernel_rfl) rfl rfl rfl rfl rfl (fun w hw => hw.back hl92 h085 .slnil) (fun hg110 => (q_field_addr (i79 * 2) fld_51_0 rfl (gu hg110 rfl) ((hs30.mono (((((hl33.trans hl40).trans hl50).trans hl62).trans hl69).trans hl77)).some_ hl84) rfl)) ?_
          refine hg1 (i := 24) rfl (by kernel_rfl) rfl rfl rfl rfl rfl (fun w hw => hw.back hl92 h085 .slnil) (fun hg111 => (q_ld (c := 0) (v := .string (gt z4.1 i79).key) (hx88 hl84).2 rfl Tryz.isAgg9 (gu hg111 rfl) rfl)) ?_
          refine (Bool.eq_false_or_eq_true z99).elim (fun hb112 => ?_) (fun hb112 => ?_)
          · skip
            have h := bt hb112 h
            refine WH.lone (i := 25) (by kernel_rfl) rfl ?_
            refine WR.sat (c0 := true) (g := z99) rfl rfl rfl hb112 ?_
            obtain ⟨z113, hz114, h⟩ := bnd h
            refine e_call (is := []) rfl rfl (call_run Tryz.call26 rfl rfl (args2 (gu hb112 rfl) (gu hb112 rfl))) rfl (fun w hp => t_firthref14_Get (hs35.mono (((((hl40.trans hl50).trans hl62).trans hl69).trans hl77).trans hl92)) hc36 ((gt z4.1 i79).key) (hx88 hl84).1.1 hp hz114) ?_
            rintro Γ115 U117 v118 hl116 ⟨A119, c120, rfl, rfl, hc122, hr121, _⟩
            change WR _ _ _ (CC F Γ115 []) _ _ (upd _ 90 (.slice A119 z113.length c120))
            refine WR.nil ?_
            refine WH.next (fun w hw => hw.back (hl92.trans hl116) h085 .slnil) ?_
            refine WH.lone (i := 26) (by kernel_rfl) rfl ?_
            obtain ⟨z124, hz125, h⟩ := bnd h
            refine vg1 rfl rfl rfl rfl rfl (fun hg123 => (q_call (call_run Tryz.call27 rfl rfl (args2 (gu hg123 rfl) rfl)) (fun w hw => t_firthlaw14_plain (Γ := Gh.all w) (((hx88 hl84).1.2.2.mono (hl92.trans hl116)).mono hw.sat.le_all) (hx88 hl84).1.2.1 (hr121.mono hw.sat.le_all) hc122 (Sat.all w) (gc_of hz125 hg123)))) ?_
            refine WR.nil ?_
            refine WH.next (fun w hw => hw.back (hl92.trans hl116) h085 .slnil) ?_
            refine ht (i := 27) rfl (by kernel_rfl) rfl rfl rfl (fun w hw => hw.back (hl92.trans hl116) h085 .slnil) (q_pick_t (v := .bool z124) rfl rfl hb112 (gu hb112 rfl)) ?_
            refine WH.done (by kernel_rfl) ?_
            change WC _ _ _ _ _ _
            refine WC.cif h (by kernel_rfl) (fun hb126 h => ?_) (fun hb126 h => ?_)
            · skip
              refine WC.rs ?_
              refine va rfl rfl rfl (q_assign (v := .bool false) rfl (by kernel_rfl)) ?_
              refine WR.nil ?_
              change WC _ _ _ _ _ _
              refine WC.ret ?_
              intro w hw
              obtain rfl := Option.some.inj h
              subst hF
              exact ⟨by kernel_rfl, hw.fr⟩
            · skip
              refine WC.skip ?_
              change WC _ _ _ _ _ _
              refine WC.region ?_
              refine va rfl rfl rfl (q_move (v := .int .i64 ((i79 : Nat) : Int)) rfl (by kernel_rfl)) ?_
              refine va rfl rfl rfl (q_add_r (r := ((i79 + 1 : Nat) : Int)) rfl rfl rfl (ctr_len hl84 (hs30.mono (((((hl33.trans hl40).trans hl50).trans hl62).trans hl69).trans hl77)).le)) ?_
              refine va rfl rfl rfl (q_assign (v := .int .i64 ((i79 + 1 : Nat) : Int)) rfl (by kernel_rfl)) ?_
              refine WR.nil ?_
              intro w hw
              exact ⟨hl84, (), h, Γ115, (sl_ (by kernel_rfl)), hw, ((hl77.trans hl92).trans hl116), trivial⟩
          · skip
            have h := bf hb112 h
            refine hg1 (g := z99) (i := 25) (v := undef) rfl (by kernel_rfl) rfl rfl rfl rfl rfl (fun w hw => hw.back hl92 h085 .slnil) (no_tf hb112) ?_
            refine WH.env (v := undef) (gv_false hb112) ?_
            refine hg1 (g := z99) (i := 26) (v := undef) rfl (by kernel_rfl) rfl rfl rfl rfl rfl (fun w hw => hw.back hl92 h085 .slnil) (no_tf hb112) ?_
            refine WH.env (v := undef) (gv_false hb112) ?_
            refine ht (i := 27) rfl (by kernel_rfl) rfl rfl rfl (fun w hw => hw.back hl92 h085 .slnil) (q_pick_f (v := .bool false) rfl rfl hb112 (by kernel_rfl)) ?_
            refine WH.done (by kernel_rfl) ?_
            change WC _ _ _ _ _ _
            refine WC.cfk (b := false) (by kernel_rfl) rfl ?_
            refine WC.skip ?_
            change WC _ _ _ _ _ _
            refine WC.region ?_
            refine va rfl rfl rfl (q_move (v := .int .i64 ((i79 : Nat) : Int)) rfl (by kernel_rfl)) ?_
            refine va rfl rfl rfl (q_add_r (r := ((i79 + 1 : Nat) : Int)) rfl rfl rfl (ctr_len hl84 (hs30.mono (((((hl33.trans hl40).trans hl50).trans hl62).trans hl69).trans hl77)).le)) ?_
            refine va rfl rfl rfl (q_assign (v := .int .i64 ((i79 + 1 : Nat) : Int)) rfl (by kernel_rfl)) ?_
            refine WR.nil ?_
            intro w hw
            exact ⟨hl84, (), h, Γ91, (sl_ (by kernel_rfl)), hw, (hl77.trans hl92), trivial⟩
        · skip
          have h := hge82 (ige hb83)
          refine WC.exit ?_
          change WC _ _ _ _ _ _
          refine WC.rs ?_
          refine va rfl rfl rfl (q_move (v := .slice A72 z66.length c73) rfl (by kernel_rfl)) ?_
          refine va rfl rfl rfl (q_move (v := .slice A20 z14.1.length c21) rfl (by kernel_rfl)) ?_
          obtain ⟨z127, hz128, h⟩ := bnd h
          refine e_call (is := []) rfl rfl (call_run Tryz.call23 rfl rfl (by kernel_rfl)) rfl (fun w hp => t_mend_Take (hr74.mono hl77) hc75 (hs35.mono ((((hl40.trans hl50).trans hl62).trans hl69).trans hl77)) hc36 hp hz128) ?_
          rintro Γ129 U131 v132 hl130 ⟨A133, c134, row135, rfl, rfl, hr136, hr137, _⟩
          change WR _ _ _ (CC F Γ129 [row135]) _ _ (upd _ 96 (.tuple #[.slice A133 z127.1.length c134, .int .i64 z127.2]))
          refine va rfl rfl rfl (q_move (v := .tuple #[.slice A133 z127.1.length c134, .int .i64 z127.2]) rfl (by kernel_rfl)) ?_
          refine va rfl rfl rfl (q_extract (v := .slice A133 z127.1.length c134) rfl rfl rfl) ?_
          refine va rfl rfl rfl (q_extract (v := .int .i64 z127.2) rfl rfl rfl) ?_
          refine va rfl rfl rfl (q_assign (v := .slice A133 z127.1.length c134) rfl (by kernel_rfl)) ?_
          refine va rfl rfl rfl (q_assign (v := .int .i64 z127.2) rfl (by kernel_rfl)) ?_
          refine WR.nil ?_
          change WC _ _ _ _ _ _
          refine WC.seq ?_
          refine WC.rs ?_
          refine va rfl rfl rfl (q_assign (v := .int .i64 0) rfl (by kernel_rfl)) ?_
          refine WR.nil ?_
          change WC _ _ _ _ _ _
          refine WC.block ?_
          refine WC.forI h (fun (i141 : Nat) (s : Unit) σ w => match s with | () => ∃ (Γ138 : Gh), slots σ [(5, .slice A10 z4.1.length c11), (7, .slice A20 z14.1.length c21), (15, .slice A133 z127.1.length c134), (16, .int .i64 z127.2), (17, .int .i64 ((i141 : Nat) : Int))] ∧ CC F Γ138 [row135] w ∧ Gh.le Γ129 Γ138 ∧ True) ?_ ?_
          · skip
            intro w hw
            exact ⟨Γ129, (sl_ (by kernel_rfl)), hw, (Gh.refl _), trivial⟩
          rintro f140 i141 ⟨⟩ σ w hi142 hlt143 hge144 ⟨Γ138, hsl, hw, hl139, -⟩
          refine Wpt.slots hsl ?_
          refine WC.here (C := CC F Γ138 [row135]) ?_ hw
          clear hw hsl
          refine WC.seq ?_
          refine WC.rs ?_
          refine va rfl rfl rfl (q_move (v := .int .i64 ((i141 : Nat) : Int)) rfl (by kernel_rfl)) ?_
          refine va rfl rfl rfl (q_move (v := .slice A133 z127.1.length c134) rfl (by kernel_rfl)) ?_
          refine va rfl rfl rfl (q_len_slice rfl Tryz.underlying22 rfl) ?_
          refine va rfl rfl rfl (q_lss rfl rfl rfl) ?_
          refine WR.nil ?_
          change WC _ _ _ _ _ _
          refine WC.cond (b := (decide (((i141 : Nat) : Int) < ((z127.1.length : Nat) : Int)))) (by kernel_rfl) (fun hb145 => ?_) (fun hb145 => ?_)
          · skip
            have hl146 := ilt hb145
            have h := hlt143 hl146
            refine WC.skip ?_
            change WC _ _ _ _ _ _
            refine WC.seq ?_
            refine WC.block ?_
            refine WC.seq ?_
            intro w hw; have h0147 := hw.le
            refine WC.here (C := CC F Γ138 [row135]) ?_ hw; clear hw
            refine WC.held (CC F Γ138 [row135]) (by kernel_rfl) (fun w hw => hw.drawn _) ?_
            change WH _ _ _ _ (CC F Γ138 [row135]) _ 15 #[false, false, false, false, false, false, false, false, false, false, false, false, false, false, false] _
            refine ht (i := 0) rfl (by kernel_rfl) rfl rfl rfl (fun w hw => hw.back (Gh.refl _) h0147 (.cons_cons _ .slnil)) (q_move (v := .slice A10 z4.1.length c11) rfl (by kernel_rfl)) ?_
            refine ht (i := 1) rfl (by kernel_rfl) rfl rfl rfl (fun w hw => hw.back (Gh.refl _) h0147 (.cons_cons _ .slnil)) (q_move (v := .slice A133 z127.1.length c134) rfl (by kernel_rfl)) ?_
            refine ht (i := 2) rfl (by kernel_rfl) rfl rfl rfl (fun w hw => hw.back (Gh.refl _) h0147 (.cons_cons _ .slnil)) (q_move (v := .int .i64 ((i141 : Nat) : Int)) rfl (by kernel_rfl)) ?_
            refine ht (i := 3) rfl (by kernel_rfl) rfl rfl rfl (fun w hw => hw.back (Gh.refl _) h0147 (.cons_cons _ .slnil)) (q_ixn (i := i141) Tryz.underlying22 Tryz.sizeOf51 rfl rfl rfl hl146 ((hr136.mono hl139).some_ hl146)) ?_
            refine ht (i := 4) rfl (by kernel_rfl) rfl rfl rfl (fun w hw => hw.back (Gh.refl _) h0147 (.cons_cons _ .slnil)) (q_field_addr (i141 * 2) fld_51_0 rfl rfl ((hr136.mono hl139).some_ hl146) rfl) ?_
            obtain ⟨A148, c149, hx150⟩ := (hr136.mono hl139).recT_at i141
            refine ht (i := 5) rfl (by kernel_rfl) rfl rfl rfl (fun w hw => hw.back (Gh.refl _) h0147 (.cons_cons _ .slnil)) (q_ldo (c := 0) (v := .string (gt z127.1 i141).key) (i := 0) rfl (hx150 hl146).2 rfl Tryz.isAgg9 rfl rfl) ?_
            refine ht (i := 7) rfl (by kernel_rfl) rfl rfl rfl (fun w hw => hw.back (Gh.refl _) h0147 (.cons_cons _ .slnil)) (q_move (v := .slice A20 z14.1.length c21) rfl (by kernel_rfl)) ?_
            refine ht (i := 8) rfl (by kernel_rfl) rfl rfl rfl (fun w hw => hw.back (Gh.refl _) h0147 (.cons_cons _ .slnil)) (q_move (v := .slice A133 z127.1.length c134) rfl (by kernel_rfl)) ?_
            refine ht (i := 9) rfl (by kernel_rfl) rfl rfl rfl (fun w hw => hw.back (Gh.refl _) h0147 (.cons_cons _ .slnil)) (q_move (v := .int .i64 ((i141 : Nat) : Int)) rfl (by kernel_rfl)) ?_
            refine ht (i := 10) rfl (by kernel_rfl) rfl rfl rfl (fun w hw => hw.back (Gh.refl _) h0147 (.cons_cons _ .slnil)) (q_ixn (i := i141) Tryz.underlying22 Tryz.sizeOf51 rfl rfl rfl hl146 ((hr136.mono hl139).some_ hl146)) ?_
            refine ht (i := 11) rfl (by kernel_rfl) rfl rfl rfl (fun w hw => hw.back (Gh.refl _) h0147 (.cons_cons _ .slnil)) (q_field_addr (i141 * 2) fld_51_0 rfl rfl ((hr136.mono hl139).some_ hl146) rfl) ?_
            refine ht (i := 12) rfl (by kernel_rfl) rfl rfl rfl (fun w hw => hw.back (Gh.refl _) h0147 (.cons_cons _ .slnil)) (q_ldo (c := 0) (v := .string (gt z127.1 i141).key) (i := 0) rfl (hx150 hl146).2 rfl Tryz.isAgg9 rfl rfl) ?_
            refine WH.lone (i := 6) (by kernel_rfl) rfl ?_
            obtain ⟨z151, hz152, h⟩ := bnd h
            refine e_call (is := []) rfl rfl (call_run Tryz.call26 rfl rfl (by kernel_rfl)) rfl (fun w hp => t_firthref14_Get (hs30.mono (((((((hl33.trans hl40).trans hl50).trans hl62).trans hl69).trans hl77).trans hl130).trans hl139)) hc31 ((gt z127.1 i141).key) (hx150 hl146).1.1 hp hz152) ?_
            rintro Γ153 U155 v156 hl154 ⟨A157, c158, rfl, rfl, hc160, hr159, _⟩
            change WR _ _ _ (CC F Γ153 [row135]) _ _ (upd _ 111 (.slice A157 z151.length c158))
            refine WR.nil ?_
            refine WH.next (fun w hw => hw.back hl154 h0147 (.cons_cons _ .slnil)) ?_
            refine WH.lone (i := 13) (by kernel_rfl) rfl ?_
            obtain ⟨z161, hz162, h⟩ := bnd h
            refine e_call (is := []) rfl rfl (call_run Tryz.call26 rfl rfl (by kernel_rfl)) rfl (fun w hp => t_firthref14_Get (hs35.mono (((((((hl40.trans hl50).trans hl62).trans hl69).trans hl77).trans hl130).trans hl139).trans hl154)) hc36 ((gt z127.1 i141).key) (hx150 hl146).1.1 hp hz162) ?_
            rintro Γ163 U165 v166 hl164 ⟨A167, c168, rfl, rfl, hc170, hr169, _⟩
            change WR _ _ _ (CC F Γ163 [row135]) _ _ (upd _ 118 (.slice A167 z161.length c168))
            refine WR.nil ?_
            refine WH.next (fun w hw => hw.back (hl154.trans hl164) h0147 (.cons_cons _ .slnil)) ?_
            refine WH.lone (i := 14) (by kernel_rfl) rfl ?_
            obtain ⟨z171, hz172, h⟩ := bnd h
            refine vc rfl rfl rfl (q_call (call_run Tryz.call27 rfl rfl (by kernel_rfl)) (fun w hw => t_firthlaw14_plain (Γ := Gh.all w) ((hr159.mono hl164).mono hw.sat.le_all) hc160 (hr169.mono hw.sat.le_all) hc170 (Sat.all w) hz172)) ?_
            refine WR.nil ?_
            refine WH.next (fun w hw => hw.back (hl154.trans hl164) h0147 (.cons_cons _ .slnil)) ?_
            refine WH.done (by kernel_rfl) ?_
            change WC _ _ _ _ _ _
            refine WC.cif h (by kernel_rfl) (fun hb173 h => ?_) (fun hb173 h => ?_)
            · skip
              refine WC.rs ?_
              refine va rfl rfl rfl (q_assign (v := .bool false) rfl (by kernel_rfl)) ?_
              refine WR.nil ?_
              change WC _ _ _ _ _ _
              refine WC.ret ?_
              intro w hw
              obtain rfl := Option.some.inj h
              subst hF
              exact ⟨by kernel_rfl, hw.fr⟩
            · skip
              refine WC.skip ?_
              change WC _ _ _ _ _ _
              refine WC.region ?_
              refine va rfl rfl rfl (q_move (v := .int .i64 ((i141 : Nat) : Int)) rfl (by kernel_rfl)) ?_
              refine va rfl rfl rfl (q_add_r (r := ((i141 + 1 : Nat) : Int)) rfl rfl rfl (ctr_len hl146 (hr136.mono hl139).le)) ?_
              refine va rfl rfl rfl (q_assign (v := .int .i64 ((i141 + 1 : Nat) : Int)) rfl (by kernel_rfl)) ?_
              refine WR.nil ?_
              intro w hw
              exact ⟨hl146, (), h, Γ163, (sl_ (by kernel_rfl)), hw, ((hl139.trans hl154).trans hl164), trivial⟩
          · skip
            have h := hge144 (ige hb145)
            refine WC.exit ?_
            change WC _ _ _ _ _ _
            refine WC.rs ?_
            refine va rfl rfl rfl (q_move (v := .int .i64 z127.2) rfl (by kernel_rfl)) ?_
            refine va rfl rfl rfl (q_eql rfl rfl rfl) ?_
            refine va rfl rfl rfl (q_assign (v := .bool (z127.2 == 0)) rfl (by kernel_rfl)) ?_
            refine WR.nil ?_
            change WC _ _ _ _ _ _
            refine WC.ret ?_
            intro w hw
            obtain rfl := Option.some.inj h
            subst hF
            exact ⟨by kernel_rfl, hw.fr⟩
end Fw
end Go.Proofs.YtbidmceookkapaaGreat
