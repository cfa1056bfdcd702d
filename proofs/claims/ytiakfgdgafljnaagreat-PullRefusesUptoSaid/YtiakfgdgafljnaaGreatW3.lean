/- Walks through the functions that the law reaches (printed by a program). No condition. -/
import Derived.Test.YtiakfgdgafljnaaGreatW2
namespace Go.Proofs.YtiakfgdgafljnaaGreat
namespace Fw
set_option linter.unusedVariables false
set_option linter.unusedSimpArgs false
set_option linter.unusedSectionVars false
set_option maxRecDepth 100000
set_option maxHeartbeats 400000
open Go.RowKit
theorem t_firthlaw19_paths {Γ : Gh} {w0 : World} {Aa : Option Addr} {ca : Nat} {a : List (List Int)} (ha : Sl (slT intT) Γ Aa a) (hac : a.length ≤ ca) {Ab : Option Addr} {cb : Nat} {b : List (List Int)} (hb : Sl (slT intT) Γ Ab b) (hbc : b.length ≤ cb) (hs : Sat Γ w0) {r : Bool} (h : m_firthlaw19_paths a b = some r) : Calls Tryz.prog 30 #[.slice Aa a.length ca, .slice Ab b.length cb] w0 (fun e w' => e = .returned (.bool r) ∧ Fr no w0 w') := by
 refine calls_of (N := 27) (rs := [4]) (args := [.slice Aa a.length ca, .slice Ab b.length cb]) Tryz.func30 rfl Tryz.ntmps30 Tryz.results30 rfl ?_
 obtain ⟨F, hF⟩ : ∃ F : Fm, F = ⟨no, w0, Γ⟩ := ⟨_, rfl⟩
 refine WC.here (C := CC F Γ []) ?_ (hF ▸ Cur.start0 hs)
 refine WC.rs ?_
 refine as_ (v := .bool false) ?_
 refine WR.done ?_
 refine WC.seq ?_
 refine WC.rs ?_
 refine mv (v := .slice Aa a.length ca) ?_
 refine vb (q_len_slice rfl Tryz.underlying57 rfl) ?_
 refine mv (v := .slice Ab b.length cb) ?_
 refine vb (q_len_slice rfl Tryz.underlying57 rfl) ?_
 refine vb (q_neq rfl rfl rfl) ?_
 refine WR.done ?_
 refine WC.cif h (by kernel_rfl) (fun hb1 h => ?_) (fun hb1 h => ?_)
 ·
  refine WC.rs ?_
  refine as_ (v := .bool false) ?_
  refine WR.done ?_
  refine WC.ret ?_
  intro w hw
  obtain rfl := Option.some.inj h
  subst hF
  exact ⟨by kernel_rfl, hw.fr⟩
 ·
  refine WC.skip ?_
  change WC _ _ _ _ _ _
  refine WC.seq ?_
  refine WC.rs ?_
  refine as_ (v := .int .i64 0) ?_
  refine WR.done ?_
  refine WC.block ?_
  refine WC.forI h (fun (i3 : Nat) (s : Unit) σ w => match s with | () => slots σ [(0, .slice Aa a.length ca), (1, .slice Ab b.length cb), (5, .int .i64 ((i3 : Nat) : Int))] ∧ CC F Γ [] w ∧ True) ?_ ?_
  ·
   intro w hw
   exact ⟨(sl_ (by kernel_rfl)), hw, trivial⟩
  rintro f2 i3 ⟨⟩ σ w hi4 hlt5 hge6 ⟨hsl, hw, -⟩
  refine Wpt.slots hsl ?_
  refine WC.here (C := CC F Γ []) ?_ hw
  clear hw hsl
  refine WC.seq ?_
  refine WC.rs ?_
  refine mv (v := .int .i64 ((i3 : Nat) : Int)) ?_
  refine mv (v := .slice Aa a.length ca) ?_
  refine vb (q_len_slice rfl Tryz.underlying57 rfl) ?_
  refine vb (q_lss rfl rfl rfl) ?_
  refine WR.done ?_
  refine WC.cond (b := (decide (((i3 : Nat) : Int) < ((a.length : Nat) : Int)))) (by kernel_rfl) (fun hb7 => ?_) (fun hb7 => ?_)
  ·
   have hl8 := ilt hb7
   have h := hlt5 hl8
   refine WC.skip ?_
   change WC _ _ _ _ _ _
   refine WC.seq ?_
   refine WC.block ?_
   refine WC.seq ?_
   refine WC.dr (by kernel_rfl) (by kernel_rfl) (fun w hw => hw.drawn _) ?_
   refine wa rfl rfl rfl (q_move (v := .slice Aa a.length ca) rfl (by kernel_rfl)) ?_
   refine wa rfl rfl rfl (q_move (v := .int .i64 ((i3 : Nat) : Int)) rfl (by kernel_rfl)) ?_
   refine wa rfl rfl rfl (q_ixn (i := i3) Tryz.underlying57 Tryz.sizeOf24 rfl rfl rfl hl8 (ha.some_ hl8)) ?_
   obtain ⟨A9, c10, hx11⟩ := ha.slT_at i3
   refine wa rfl rfl rfl (q_ld (c := 0) (v := .slice A9 (gt a i3).length c10) (hx11 hl8).2 rfl Tryz.isAgg24 rfl rfl) ?_
   refine wa rfl rfl rfl (q_move (v := .slice Ab b.length cb) rfl (by kernel_rfl)) ?_
   refine wa rfl rfl rfl (q_move (v := .int .i64 ((i3 : Nat) : Int)) rfl (by kernel_rfl)) ?_
   obtain ⟨hk12, h⟩ := chk_some h
   refine wa rfl rfl rfl (q_ixn (i := i3) Tryz.underlying57 Tryz.sizeOf24 rfl rfl rfl (of_decide_eq_true hk12) (hb.some_ (of_decide_eq_true hk12))) ?_
   obtain ⟨A13, c14, hx15⟩ := hb.slT_at i3
   refine wa rfl rfl rfl (q_ld (c := 0) (v := .slice A13 (gt b i3).length c14) (hx15 (of_decide_eq_true hk12)).2 rfl Tryz.isAgg24 rfl rfl) ?_
   obtain ⟨z16, hz17, h⟩ := bnd h
   refine wc rfl rfl rfl (q_call (call_run Tryz.call41 rfl rfl (by kernel_rfl)) (fun w hw => t_firthref06_Ints (Γ := Gh.all w) ((hx11 hl8).1.2.mono hw.sat.le_all) (hx11 hl8).1.1 ((hx15 (of_decide_eq_true hk12)).1.2.mono hw.sat.le_all) (hx15 (of_decide_eq_true hk12)).1.1 (Sat.all w) hz17)) ?_
   refine wa rfl rfl rfl (q_not rfl rfl) ?_
   refine WQ.nil ?_
   change WC _ _ _ _ _ _
   refine WC.cif h (by kernel_rfl) (fun hb18 h => ?_) (fun hb18 h => ?_)
   ·
    refine WC.rs ?_
    refine as_ (v := .bool false) ?_
    refine WR.done ?_
    refine WC.ret ?_
    intro w hw
    obtain rfl := Option.some.inj h
    subst hF
    exact ⟨by kernel_rfl, hw.fr⟩
   ·
    refine WC.skip ?_
    change WC _ _ _ _ _ _
    refine WC.region ?_
    refine mv (v := .int .i64 ((i3 : Nat) : Int)) ?_
    refine vb (q_add_r (r := ((i3 + 1 : Nat) : Int)) rfl rfl rfl (ctr_len hl8 ha.le)) ?_
    refine as_ (v := .int .i64 ((i3 + 1 : Nat) : Int)) ?_
    refine WR.nil ?_
    intro w hw
    exact ⟨hl8, (), h, (sl_ (by kernel_rfl)), hw, trivial⟩
  ·
   have h := hge6 (ige hb7)
   refine WC.exit ?_
   change WC _ _ _ _ _ _
   refine WC.rs ?_
   refine as_ (v := .bool true) ?_
   refine WR.done ?_
   refine WC.ret ?_
   intro w hw
   obtain rfl := Option.some.inj h
   subst hF
   exact ⟨by kernel_rfl, hw.fr⟩
theorem t_firthlaw19_PullRefuses {Γ : Gh} {w0 : World} {Aown : Option Addr} {cown : Nat} {own : List Rec} (hown : Sl recT Γ Aown own) (hownc : own.length ≤ cown) {Acut : Option Addr} {ccut : Nat} {cut : List Rec} (hcut : Sl recT Γ Acut cut) (hcutc : cut.length ≤ ccut) {Ao1 : Option Addr} {co1 : Nat} {Ao2 : Option Addr} {co2 : Nat} {Ao3 : Option Addr} {co3 : Nat} {Ao4 : Option Addr} {co4 : Nat} (o : Dfirthlaw19_Op) (ho : Dfirthlaw19_Op.fits Γ Ao1 co1 Ao2 co2 Ao3 co3 Ao4 co4 o) (hs : Sat Γ w0) {r : Bool} (h : m_firthlaw19_PullRefuses own cut o = some r) : Calls Tryz.prog 8 #[.slice Aown own.length cown, .slice Acut cut.length ccut, .agg #[.int .i64 o.kind, .slice Ao1 o.vec.length co1, .slice Ao2 o.path.length co2, .slice Ao3 o.hashes.length co3, .slice Ao4 o.list.length co4]] w0 (fun e w' => e = .returned (.bool r) ∧ Fr no w0 w') := by
 refine calls_of (N := 133) (rs := [6]) (args := [.slice Aown own.length cown, .slice Acut cut.length ccut, .agg #[.int .i64 o.kind, .slice Ao1 o.vec.length co1, .slice Ao2 o.path.length co2, .slice Ao3 o.hashes.length co3, .slice Ao4 o.list.length co4]]) Tryz.func8 rfl Tryz.ntmps8 Tryz.results8 rfl ?_
 obtain ⟨F, hF⟩ : ∃ F : Fm, F = ⟨no, w0, Γ⟩ := ⟨_, rfl⟩
 refine WC.here (C := CC F Γ []) ?_ (hF ▸ Cur.start0 hs)
 refine WC.rs ?_
 refine e_box (v := .agg #[.int .i64 o.kind, .slice Ao1 o.vec.length co1, .slice Ao2 o.path.length co2, .slice Ao3 o.hashes.length co3, .slice Ao4 o.list.length co4]) rfl rfl rfl rfl (by kernel_rfl) ?_
 intro g1
 refine as_ (v := .bool false) ?_
 refine WR.done ?_
 refine WC.seq ?_
 refine WC.rs ?_
 obtain ⟨z2, hz3, h⟩ := bnd h
 refine vc rfl rfl rfl (q_call (call_run Tryz.call12 rfl rfl (by kernel_rfl)) (fun w hw => t_firthlaw19_awake (Γ := Gh.all w)  (Sat.all w) hz3)) ?_
 refine vb (q_not rfl rfl) ?_
 refine WR.done ?_
 refine WC.cif h (by kernel_rfl) (fun hb4 h => ?_) (fun hb4 h => ?_)
 ·
  refine WC.rs ?_
  refine as_ (v := .bool false) ?_
  refine WR.done ?_
  refine WC.ret ?_
  intro w hw
  obtain rfl := Option.some.inj h
  subst hF
  exact ⟨by kernel_rfl, hw.fr⟩
 ·
  refine WC.skip ?_
  change WC _ _ _ _ _ _
  refine WC.rs ?_
  refine e_buildSlice (cs := #[.int .i64 5]) (e := 2) rfl rfl rfl rfl (fun w => by kernel_rfl) ?_
  intro g5
  refine mv (v := .slice Acut cut.length ccut) ?_
  have ho6 : Own intT Γ 2 [(g5, .cells #[.int .i64 5] 2 (0, 0))] (some ⟨g5, 0, none⟩) 1 [5] := Own.of_blockL (T := intT) (ys := [5]) [[.int .i64 5]] rfl (show 1 ≤ lim by decide) (show Ty.rd intT Γ [.int .i64 5] 5 ∧ True from ⟨⟨rfl, (show I64 5 by decide)⟩, trivial⟩)
  have hc11 := ho6.capz
  intro w hw; obtain ⟨Γ7, hw, hl8, hr9⟩ := hw.seal (i := 0) rfl; have hs10 := ho6.sl hl8 hr9
  refine WR.here (C := CC F Γ7 [[], [(g1, .cells #[.int .i64 o.kind, .slice Ao1 o.vec.length co1, .slice Ao2 o.path.length co2, .slice Ao3 o.hashes.length co3, .slice Ao4 o.list.length co4] 54 (0, 0))]]) ?_ hw
  clear hw
  obtain ⟨z12, hz13, h⟩ := bnd h
  refine e_call (is := []) rfl rfl (call_run Tryz.call10 rfl rfl (by kernel_rfl)) rfl (fun w hp => t_pull_NewCut 1 (show I64 1 by decide) hs10 hc11 (hcut.mono hl8) hcutc hp hz13) ?_
  rintro Γ14 U16 v17 hl15 ⟨g18, row19, rfl, rfl, hr20, hr21, _⟩
  change WR _ _ _ (CC F Γ14 [row19, [], [(g1, .cells #[.int .i64 o.kind, .slice Ao1 o.vec.length co1, .slice Ao2 o.path.length co2, .slice Ao3 o.hashes.length co3, .slice Ao4 o.list.length co4] 54 (0, 0))]]) _ _ (upd _ 19 (.tuple #[optp z12.1 g18, .int .i64 z12.2]))
  refine mv (v := .tuple #[optp z12.1 g18, .int .i64 z12.2]) ?_
  refine vb (q_extract (v := optp z12.1 g18) rfl rfl rfl) ?_
  refine vb (q_extract (v := .int .i64 z12.2) rfl rfl rfl) ?_
  refine as_ (v := optp z12.1 g18) ?_
  refine as_ (v := .int .i64 z12.2) ?_
  refine WR.done ?_
  refine WC.rs ?_
  refine mv (v := .slice Aown own.length cown) ?_
  obtain ⟨z22, hz23, h⟩ := bnd h
  refine e_call (is := []) rfl rfl (call_run Tryz.call22 rfl rfl (by kernel_rfl)) rfl (fun w hp => t_pull_NewPull 1 (show I64 1 by decide) (hown.mono (hl8.trans hl15)) hownc hp hz23) ?_
  rintro Γ24 U26 v27 hl25 ⟨g28, row29, rfl, rfl, hr30, hr31, _⟩
  change WR _ _ _ (CC F Γ24 [row29, row19, [], [(g1, .cells #[.int .i64 o.kind, .slice Ao1 o.vec.length co1, .slice Ao2 o.path.length co2, .slice Ao3 o.hashes.length co3, .slice Ao4 o.list.length co4] 54 (0, 0))]]) _ _ (upd _ 24 (.tuple #[optp z22.1 g28, .int .i64 z22.2]))
  refine mv (v := .tuple #[optp z22.1 g28, .int .i64 z22.2]) ?_
  refine vb (q_extract (v := optp z22.1 g28) rfl rfl rfl) ?_
  refine vb (q_extract (v := .int .i64 z22.2) rfl rfl rfl) ?_
  refine as_ (v := optp z22.1 g28) ?_
  refine as_ (v := .int .i64 z22.2) ?_
  refine WR.done ?_
  refine WC.seq ?_
  refine WC.rs ?_
  refine mv (v := optp z12.1 g18) ?_
  refine vb (q_opt_eql Tryz.underlying25 rfl rfl rfl) ?_
  refine mv (v := .bool (Option.isNone z12.1)) ?_
  refine vg0 rfl rfl rfl rfl rfl (fun hg32 => QV.qo (q_move (v := optp z22.1 g28) rfl (by kernel_rfl))) ?_
  refine vg0 rfl rfl rfl rfl rfl (fun hg33 => QV.qo (q_opt_eql Tryz.underlying47 rfl (gu hg33 rfl) rfl)) ?_
  refine vb (q_pick rfl rfl (pk_or' (g := (Option.isNone z12.1)) (y := (Option.isNone z22.1)))) ?_
  refine mv (v := .bool ((Option.isNone z12.1) || (Option.isNone z22.1))) ?_
  refine vg0 rfl rfl rfl rfl rfl (fun hg34 => QV.qo (q_move (v := .int .i64 z12.2) rfl (by kernel_rfl))) ?_
  refine vg0 rfl rfl rfl rfl rfl (fun hg35 => QV.qo (q_neq rfl (gu hg35 rfl) rfl)) ?_
  refine vb (q_pick rfl rfl (pk_or' (g := ((Option.isNone z12.1) || (Option.isNone z22.1))) (y := (z12.2 != 0)))) ?_
  refine mv (v := .bool (((Option.isNone z12.1) || (Option.isNone z22.1)) || (z12.2 != 0))) ?_
  refine vg0 rfl rfl rfl rfl rfl (fun hg36 => QV.qo (q_move (v := .int .i64 z22.2) rfl (by kernel_rfl))) ?_
  refine vg0 rfl rfl rfl rfl rfl (fun hg37 => QV.qo (q_neq rfl (gu hg37 rfl) rfl)) ?_
  refine vb (q_pick rfl rfl (pk_or' (g := (((Option.isNone z12.1) || (Option.isNone z22.1)) || (z12.2 != 0))) (y := (z22.2 != 0)))) ?_
  refine WR.done ?_
  refine WC.cif h (by kernel_rfl) (fun hb38 h => ?_) (fun hb38 h => ?_)
  ·
   refine WC.rs ?_
   refine mv (v := .int .i64 z12.2) ?_
   refine vb (q_eql rfl rfl rfl) ?_
   refine mv (v := .bool (z12.2 == 1)) ?_
   refine vg0 rfl rfl rfl rfl rfl (fun hg39 => QV.qo (q_move (v := .int .i64 z22.2) rfl (by kernel_rfl))) ?_
   refine vg0 rfl rfl rfl rfl rfl (fun hg40 => QV.qo (q_eql rfl (gu hg40 rfl) rfl)) ?_
   refine vb (q_pick rfl rfl (pk_or' (g := (z12.2 == 1)) (y := (z22.2 == 1)))) ?_
   refine as_ (v := .bool ((z12.2 == 1) || (z22.2 == 1))) ?_
   refine WR.done ?_
   refine WC.ret ?_
   intro w hw
   obtain rfl := Option.some.inj h
   subst hF
   exact ⟨by kernel_rfl, hw.fr⟩
  ·
   obtain ⟨z41, hz42, h⟩ := bnd h
   have ho43 := optob_some hr30 hz42
   obtain ⟨z44, hz45, h⟩ := bnd h
   have ho46 := optob_some (optob_mono hr20 (fun _ h => h.mono hl25)) hz45
   refine WC.skip ?_
   change WC _ _ _ _ _ _
   refine WC.seq ?_
   refine WC.rs ?_
   refine vb (q_move (v := (pq g28)) rfl (optp_some rfl hz42)) ?_
   refine vb (q_fl 2 fld_54_2 rfl rfl rfl) ?_
   refine vb (q_ldl (i := 3) (v := .slice Ao2 o.path.length co2) rfl rfl Tryz.isAgg24 rfl rfl) ?_
   refine vb (q_fl 3 fld_54_3 rfl rfl rfl) ?_
   refine vb (q_ldl (i := 3) (v := .slice Ao3 o.hashes.length co3) rfl rfl Tryz.isAgg33 rfl rfl) ?_
   refine vb (q_fl 4 fld_54_4 rfl rfl rfl) ?_
   refine vb (q_ldl (i := 3) (v := .slice Ao4 o.list.length co4) rfl rfl Tryz.isAgg23 rfl rfl) ?_
   obtain ⟨z47, hz48, h⟩ := bnd h
   refine e_call (is := [0]) rfl rfl (call_run Tryz.call26 rfl rfl (by kernel_rfl)) rfl (fun w hp => t_pull_Pull_Tell ho43 (ho.2.2.1.2.mono ((hl8.trans hl15).trans hl25)) ho.2.2.1.1 (ho.2.2.2.1.2.mono ((hl8.trans hl15).trans hl25)) ho.2.2.2.1.1 (ho.2.2.2.2.2.mono ((hl8.trans hl15).trans hl25)) ho.2.2.2.2.1 hp hz48) ?_
   rintro Γ49 U51 v52 hl50 ⟨row53, rfl, rfl, hr54, _⟩
   change WR _ _ _ (CC F Γ49 [row53, row19, [], [(g1, .cells #[.int .i64 o.kind, .slice Ao1 o.vec.length co1, .slice Ao2 o.path.length co2, .slice Ao3 o.hashes.length co3, .slice Ao4 o.list.length co4] 54 (0, 0))]]) _ _ (upd _ 54 (.bool z47.2))
   refine mv (v := .bool z47.2) ?_
   refine vg0 rfl rfl rfl rfl rfl (fun hg55 => QV.qo (q_move (v := (pq g28)) rfl (optp_some rfl hz42))) ?_
   obtain ⟨z57, hz58, h⟩ := bnd h
   refine vg0 rfl rfl rfl rfl rfl (fun hg56 => (q_call (call_run Tryz.call28 rfl rfl (args1 (gu hg56 rfl))) (fun w hw => t_pull_Pull_Done (Γ := Gh.all w) (hr54.mono hw.sat.le_all) (hw.ra 0 rfl) (Sat.all w) (gc_of hz58 hg56)))) ?_
   refine vb (q_pick rfl rfl (pk_or' (g := z47.2) (y := z57))) ?_
   refine mv (v := .bool (z47.2 || z57)) ?_
   refine vg0 rfl rfl rfl rfl rfl (fun hg59 => QV.qo (q_move (v := (pq g28)) rfl (optp_some rfl hz42))) ?_
   refine (Bool.eq_false_or_eq_true (!(z47.2 || z57))).elim (fun hb60 => ?_) (fun hb60 => ?_)
   ·
    have h := bt hb60 h
    refine WR.sat (c0 := true) (g := (z47.2 || z57)) rfl rfl rfl hb60 ?_
    obtain ⟨z61, hz62, h⟩ := bnd h
    refine e_call (is := [0]) rfl rfl (call_run Tryz.call31 rfl rfl (args1 (gu hb60 rfl))) rfl (fun w hp => t_pull_Pull_Wants hr54 hp hz62) ?_
    rintro Γ63 U65 v66 hl64 ⟨A67, c68, row69, rfl, rfl, hr70, _⟩
    change WR _ _ _ (CC F Γ63 [row53, row69, row19, [], [(g1, .cells #[.int .i64 o.kind, .slice Ao1 o.vec.length co1, .slice Ao2 o.path.length co2, .slice Ao3 o.hashes.length co3, .slice Ao4 o.list.length co4] 54 (0, 0))]]) _ _ (upd _ 61 (.slice A67 z61.length c68))
    refine WR.sat (c0 := true) (g := (z47.2 || z57)) rfl rfl rfl hb60 ?_
    refine vb (q_len_slice rfl Tryz.underlying57 rfl) ?_
    refine WR.sat (c0 := true) (g := (z47.2 || z57)) rfl rfl rfl hb60 ?_
    refine vb (q_neq rfl rfl rfl) ?_
    refine vb (q_pick_f (v := .bool (((z61.length : Nat) : Int) != 0)) rfl rfl (not_t hb60) (by kernel_rfl)) ?_
    refine mv (v := .bool (((z61.length : Nat) : Int) != 0)) ?_
    refine vg0 rfl rfl rfl rfl rfl (fun hg71 => QV.qo (q_move (v := (pq g28)) rfl (optp_some rfl hz42))) ?_
    refine vg0 rfl rfl rfl rfl rfl (fun hg72 => QV.qo (q_move (v := (pq g18)) rfl (optp_some rfl hz45))) ?_
    refine (Bool.eq_false_or_eq_true (!(((z61.length : Nat) : Int) != 0))).elim (fun hb73 => ?_) (fun hb73 => ?_)
    ·
     have h := bt hb73 h
     refine WR.sat (c0 := true) (g := (((z61.length : Nat) : Int) != 0)) rfl rfl rfl hb73 ?_
     obtain ⟨z74, hz75, h⟩ := bnd h
     refine e_call (is := [2]) rfl rfl (call_run Tryz.call18 rfl rfl (args1 (gu hb73 rfl))) rfl (fun w hp => t_pull_Cut_Vec (ho46.mono (hl50.trans hl64)) hp hz75) ?_
     rintro Γ76 U78 v79 hl77 ⟨A80, c81, row82, rfl, rfl, hr83, _⟩
     change WR _ _ _ (CC F Γ76 [row19, row82, row53, row69, [], [(g1, .cells #[.int .i64 o.kind, .slice Ao1 o.vec.length co1, .slice Ao2 o.path.length co2, .slice Ao3 o.hashes.length co3, .slice Ao4 o.list.length co4] 54 (0, 0))]]) _ _ (upd _ 68 (.slice A80 z74.length c81))
     refine WR.sat (c0 := true) (g := (((z61.length : Nat) : Int) != 0)) rfl rfl rfl hb73 ?_
     refine vb (q_move (v := (pq g18)) rfl (optp_some rfl hz45)) ?_
     refine WR.sat (c0 := true) (g := (((z61.length : Nat) : Int) != 0)) rfl rfl rfl hb73 ?_
     obtain ⟨z84, hz85, h⟩ := bnd h
     refine e_call (is := [0]) rfl rfl (call_run Tryz.call19 rfl rfl (by kernel_rfl)) rfl (fun w hp => t_pull_Cut_Open (ho46.mono ((hl50.trans hl64).trans hl77)) hp hz85) ?_
     rintro Γ86 U88 v89 hl87 ⟨row90, A92, c93, row94, rfl, rfl, hr91, hr95, _⟩
     change WR _ _ _ (CC F Γ86 [row90, row94, row82, row53, row69, [], [(g1, .cells #[.int .i64 o.kind, .slice Ao1 o.vec.length co1, .slice Ao2 o.path.length co2, .slice Ao3 o.hashes.length co3, .slice Ao4 o.list.length co4] 54 (0, 0))]]) _ _ (upd _ 70 (.slice A92 z84.2.length c93))
     refine WR.sat (c0 := true) (g := (((z61.length : Nat) : Int) != 0)) rfl rfl rfl hb73 ?_
     have hc100 := (hr83.mono hl87).capz
     intro w hw; obtain ⟨Γ96, hw, hl97, hr98⟩ := hw.seal (i := 2) rfl; have hs99 := (hr83.mono hl87).sl hl97 hr98
     refine WR.here (C := CC F Γ96 [row90, row94, [], row53, row69, [], [(g1, .cells #[.int .i64 o.kind, .slice Ao1 o.vec.length co1, .slice Ao2 o.path.length co2, .slice Ao3 o.hashes.length co3, .slice Ao4 o.list.length co4] 54 (0, 0))]]) ?_ hw
     clear hw
     have hc105 := (hr95.mono hl97).capz
     intro w hw; obtain ⟨Γ101, hw, hl102, hr103⟩ := hw.seal (i := 1) rfl; have hs104 := (hr95.mono hl97).sl hl102 hr103
     refine WR.here (C := CC F Γ101 [row90, [], [], row53, row69, [], [(g1, .cells #[.int .i64 o.kind, .slice Ao1 o.vec.length co1, .slice Ao2 o.path.length co2, .slice Ao3 o.hashes.length co3, .slice Ao4 o.list.length co4] 54 (0, 0))]]) ?_ hw
     clear hw
     obtain ⟨z106, hz107, h⟩ := bnd h
     refine e_call (is := [3]) rfl rfl (call_run Tryz.call24 rfl rfl (args3 (gu hb73 rfl) rfl rfl)) rfl (fun w hp => t_pull_Pull_Begin (hr54.mono ((((hl64.trans hl77).trans hl87).trans hl97).trans hl102)) (hs99.mono hl102) hc100 hs104 hc105 hp hz107) ?_
     rintro Γ108 U110 v111 hl109 ⟨row112, rfl, rfl, hr113, _⟩
     change WR _ _ _ (CC F Γ108 [row112, row90, [], [], row69, [], [(g1, .cells #[.int .i64 o.kind, .slice Ao1 o.vec.length co1, .slice Ao2 o.path.length co2, .slice Ao3 o.hashes.length co3, .slice Ao4 o.list.length co4] 54 (0, 0))]]) _ _ (upd _ 71 (.bool z106.2))
     refine WR.sat (c0 := true) (g := (((z61.length : Nat) : Int) != 0)) rfl rfl rfl hb73 ?_
     refine vb (q_not rfl rfl) ?_
     refine vb (q_pick_f (v := .bool (!z106.2)) rfl rfl (not_t hb73) (by kernel_rfl)) ?_
     refine WR.done ?_
     refine WC.cif h (by kernel_rfl) (fun hb114 h => ?_) (fun hb114 h => ?_)
     ·
      refine WC.rs ?_
      refine as_ (v := .bool false) ?_
      refine WR.done ?_
      refine WC.ret ?_
      intro w hw
      obtain rfl := Option.some.inj h
      subst hF
      exact ⟨by kernel_rfl, hw.fr⟩
     ·
      refine WC.skip ?_
      change WC _ _ _ _ _ _
      refine WC.rs ?_
      refine vb (q_move (v := (pq g28)) rfl (optp_some rfl hz42)) ?_
      obtain ⟨z115, hz116, h⟩ := bnd h
      refine e_call (is := [0]) rfl rfl (call_run Tryz.call31 rfl rfl (by kernel_rfl)) rfl (fun w hp => t_pull_Pull_Wants hr113 hp hz116) ?_
      rintro Γ117 U119 v120 hl118 ⟨A121, c122, row123, rfl, rfl, hr124, _⟩
      change WR _ _ _ (CC F Γ117 [row112, row123, row90, [], [], row69, [], [(g1, .cells #[.int .i64 o.kind, .slice Ao1 o.vec.length co1, .slice Ao2 o.path.length co2, .slice Ao3 o.hashes.length co3, .slice Ao4 o.list.length co4] 54 (0, 0))]]) _ _ (upd _ 75 (.slice A121 z115.length c122))
      refine as_ (v := .slice A121 z115.length c122) ?_
      refine WR.done ?_
      refine WC.rs ?_
      refine as_ (v := .bool false) ?_
      refine WR.done ?_
      refine WC.seq ?_
      refine WC.rs ?_
      refine as_ (v := .int .i64 0) ?_
      refine WR.done ?_
      refine WC.block ?_
      refine WC.forI h (fun (i127 : Nat) (wanted_125 : Bool) σ w => slots σ [(5, (pq g1)), (9, optp z22.1 g28), (11, .slice A121 z115.length c122), (12, .bool wanted_125), (13, .int .i64 ((i127 : Nat) : Int))] ∧ CC F Γ117 [row112, row123, row90, [(g1, .cells #[.int .i64 o.kind, .slice Ao1 o.vec.length co1, .slice Ao2 o.path.length co2, .slice Ao3 o.hashes.length co3, .slice Ao4 o.list.length co4] 54 (0, 0))]] w ∧ True) ?_ ?_
      ·
       intro w hw
       exact ⟨(sl_ (by kernel_rfl)), (hw.only (is := [0, 0, 0, 4]) rfl), trivial⟩
      rintro f126 i127 wanted_125 σ w hi128 hlt129 hge130 ⟨hsl, hw, -⟩
      refine Wpt.slots hsl ?_
      refine WC.here (C := CC F Γ117 [row112, row123, row90, [(g1, .cells #[.int .i64 o.kind, .slice Ao1 o.vec.length co1, .slice Ao2 o.path.length co2, .slice Ao3 o.hashes.length co3, .slice Ao4 o.list.length co4] 54 (0, 0))]]) ?_ hw
      clear hw hsl
      refine WC.seq ?_
      refine WC.rs ?_
      refine mv (v := .int .i64 ((i127 : Nat) : Int)) ?_
      refine mv (v := .slice A121 z115.length c122) ?_
      refine vb (q_len_slice rfl Tryz.underlying57 rfl) ?_
      refine vb (q_lss rfl rfl rfl) ?_
      refine WR.done ?_
      refine WC.cond (b := (decide (((i127 : Nat) : Int) < ((z115.length : Nat) : Int)))) (by kernel_rfl) (fun hb131 => ?_) (fun hb131 => ?_)
      ·
       have hl132 := ilt hb131
       have h := hlt129 hl132
       refine WC.skip ?_
       change WC _ _ _ _ _ _
       refine WC.seq ?_
       refine WC.block ?_
       refine WC.dr (by kernel_rfl) (by kernel_rfl) (fun w hw => hw.drawn _) ?_
       refine wa rfl rfl rfl (q_move (v := .bool wanted_125) rfl (by kernel_rfl)) ?_
       refine wa rfl rfl rfl (q_move (v := .bool wanted_125) rfl (by kernel_rfl)) ?_
       refine wg0 rfl rfl rfl rfl rfl (fun hg133 => QV.qo (q_move (v := .slice A121 z115.length c122) rfl (by kernel_rfl))) ?_
       refine wg0 rfl rfl rfl rfl rfl (fun hg134 => QV.qo (q_move (v := .int .i64 ((i127 : Nat) : Int)) rfl (by kernel_rfl))) ?_
       refine wg0 rfl rfl rfl rfl rfl (fun hg135 => QV.qo (q_ixn (i := i127) Tryz.underlying57 Tryz.sizeOf24 rfl (gu hg135 rfl) (gu hg135 rfl) hl132 (hr124.some_ hl132))) ?_
       obtain ⟨A137, c138, hx139⟩ := hr124.slT_at i127
       refine wg0 rfl rfl rfl rfl rfl (fun hg136 => QV.qo (q_ldo (c := 0) (v := .slice A137 (gt z115 i127).length c138) (i := 1) rfl (hx139 hl132).2 rfl Tryz.isAgg24 (gu hg136 rfl) rfl)) ?_
       refine wg0 rfl rfl rfl rfl rfl (fun hg140 => QV.qo (q_fl 2 fld_54_2 rfl rfl rfl)) ?_
       refine wg0 rfl rfl rfl rfl rfl (fun hg141 => QV.qo (q_ldl (i := 3) (v := .slice Ao2 o.path.length co2) rfl rfl Tryz.isAgg24 (gu hg141 rfl) rfl)) ?_
       obtain ⟨z143, hz144, h⟩ := bnd h
       refine wg0 rfl rfl rfl rfl rfl (fun hg142 => (q_call (call_run Tryz.call41 rfl rfl (args2 (gu hg142 rfl) (gu hg142 rfl))) (fun w hw => t_firthref06_Ints (Γ := Gh.all w) ((hx139 hl132).1.2.mono hw.sat.le_all) (hx139 hl132).1.1 ((ho.2.2.1.2.mono ((((((((((hl8.trans hl15).trans hl25).trans hl50).trans hl64).trans hl77).trans hl87).trans hl97).trans hl102).trans hl109).trans hl118)).mono hw.sat.le_all) ho.2.2.1.1 (Sat.all w) (gc_of hz144 hg142)))) ?_
       refine wa rfl rfl rfl (q_pick rfl rfl (pk_or' (g := wanted_125) (y := z143))) ?_
       refine wa rfl rfl rfl (q_assign (v := .bool (wanted_125 || z143)) rfl (by kernel_rfl)) ?_
       refine WQ.nil ?_
       change WC _ _ _ _ _ _
       refine WC.region ?_
       refine mv (v := .int .i64 ((i127 : Nat) : Int)) ?_
       refine vb (q_add_r (r := ((i127 + 1 : Nat) : Int)) rfl rfl rfl (ctr_len hl132 hr124.le)) ?_
       refine as_ (v := .int .i64 ((i127 + 1 : Nat) : Int)) ?_
       refine WR.nil ?_
       intro w hw
       exact ⟨hl132, (wanted_125 || z143), h, (sl_ (by kernel_rfl)), hw, trivial⟩
      ·
       have h := hge130 (ige hb131)
       refine WC.exit ?_
       change WC _ _ _ _ _ _
       refine WC.seq ?_
       refine WC.rs ?_
       refine mv (v := .bool wanted_125) ?_
       refine WR.done ?_
       refine WC.cif h (by kernel_rfl) (fun hb145 h => ?_) (fun hb145 h => ?_)
       ·
        refine WC.rs ?_
        refine vb (q_move (v := (pq g28)) rfl (optp_some rfl hz42)) ?_
        refine vb (q_fl 2 fld_54_2 rfl rfl rfl) ?_
        refine vb (q_ldl (i := 3) (v := .slice Ao2 o.path.length co2) rfl rfl Tryz.isAgg24 rfl rfl) ?_
        refine vb (q_fl 3 fld_54_3 rfl rfl rfl) ?_
        refine vb (q_ldl (i := 3) (v := .slice Ao3 o.hashes.length co3) rfl rfl Tryz.isAgg33 rfl rfl) ?_
        refine vb (q_fl 4 fld_54_4 rfl rfl rfl) ?_
        refine vb (q_ldl (i := 3) (v := .slice Ao4 o.list.length co4) rfl rfl Tryz.isAgg23 rfl rfl) ?_
        obtain ⟨z146, hz147, h⟩ := bnd h
        refine e_call (is := [0]) rfl rfl (call_run Tryz.call26 rfl rfl (by kernel_rfl)) rfl (fun w hp => t_pull_Pull_Tell (hr113.mono hl118) (ho.2.2.1.2.mono ((((((((((hl8.trans hl15).trans hl25).trans hl50).trans hl64).trans hl77).trans hl87).trans hl97).trans hl102).trans hl109).trans hl118)) ho.2.2.1.1 (ho.2.2.2.1.2.mono ((((((((((hl8.trans hl15).trans hl25).trans hl50).trans hl64).trans hl77).trans hl87).trans hl97).trans hl102).trans hl109).trans hl118)) ho.2.2.2.1.1 (ho.2.2.2.2.2.mono ((((((((((hl8.trans hl15).trans hl25).trans hl50).trans hl64).trans hl77).trans hl87).trans hl97).trans hl102).trans hl109).trans hl118)) ho.2.2.2.2.1 hp hz147) ?_
        rintro Γ148 U150 v151 hl149 ⟨row152, rfl, rfl, hr153, _⟩
        change WR _ _ _ (CC F Γ148 [row152, row123, row90, [(g1, .cells #[.int .i64 o.kind, .slice Ao1 o.vec.length co1, .slice Ao2 o.path.length co2, .slice Ao3 o.hashes.length co3, .slice Ao4 o.list.length co4] 54 (0, 0))]]) _ _ (upd _ 100 (.bool z146.2))
        refine mv (v := .bool z146.2) ?_
        refine vg1 rfl rfl rfl rfl rfl (fun hg154 => QV.qo (q_move (v := (pq g28)) rfl (optp_some rfl hz42))) ?_
        refine vg1 rfl rfl rfl rfl rfl (fun hg155 => QV.qo (q_fl 2 fld_54_2 rfl rfl rfl)) ?_
        refine vg1 rfl rfl rfl rfl rfl (fun hg156 => QV.qo (q_ldl (i := 3) (v := .slice Ao2 o.path.length co2) rfl rfl Tryz.isAgg24 (gu hg156 rfl) rfl)) ?_
        refine vg1 rfl rfl rfl rfl rfl (fun hg157 => QV.qo (q_fl 3 fld_54_3 rfl rfl rfl)) ?_
        refine vg1 rfl rfl rfl rfl rfl (fun hg158 => QV.qo (q_ldl (i := 3) (v := .slice Ao3 o.hashes.length co3) rfl rfl Tryz.isAgg33 (gu hg158 rfl) rfl)) ?_
        refine vg1 rfl rfl rfl rfl rfl (fun hg159 => QV.qo (q_fl 4 fld_54_4 rfl rfl rfl)) ?_
        refine vg1 rfl rfl rfl rfl rfl (fun hg160 => QV.qo (q_ldl (i := 3) (v := .slice Ao4 o.list.length co4) rfl rfl Tryz.isAgg23 (gu hg160 rfl) rfl)) ?_
        refine (Bool.eq_false_or_eq_true z146.2).elim (fun hb161 => ?_) (fun hb161 => ?_)
        ·
         have h := bt hb161 h
         refine WR.sat (c0 := true) (g := z146.2) rfl rfl rfl hb161 ?_
         obtain ⟨z162, hz163, h⟩ := bnd h
         refine e_call (is := [0]) rfl rfl (call_run Tryz.call26 rfl rfl (args4 (gu hb161 rfl) (gu hb161 rfl) (gu hb161 rfl) (gu hb161 rfl))) rfl (fun w hp => t_pull_Pull_Tell hr153 (ho.2.2.1.2.mono (((((((((((hl8.trans hl15).trans hl25).trans hl50).trans hl64).trans hl77).trans hl87).trans hl97).trans hl102).trans hl109).trans hl118).trans hl149)) ho.2.2.1.1 (ho.2.2.2.1.2.mono (((((((((((hl8.trans hl15).trans hl25).trans hl50).trans hl64).trans hl77).trans hl87).trans hl97).trans hl102).trans hl109).trans hl118).trans hl149)) ho.2.2.2.1.1 (ho.2.2.2.2.2.mono (((((((((((hl8.trans hl15).trans hl25).trans hl50).trans hl64).trans hl77).trans hl87).trans hl97).trans hl102).trans hl109).trans hl118).trans hl149)) ho.2.2.2.2.1 hp hz163) ?_
         rintro Γ164 U166 v167 hl165 ⟨row168, rfl, rfl, hr169, _⟩
         change WR _ _ _ (CC F Γ164 [row168, row123, row90, [(g1, .cells #[.int .i64 o.kind, .slice Ao1 o.vec.length co1, .slice Ao2 o.path.length co2, .slice Ao3 o.hashes.length co3, .slice Ao4 o.list.length co4] 54 (0, 0))]]) _ _ (upd _ 109 (.bool z162.2))
         refine WR.sat (c0 := true) (g := z146.2) rfl rfl rfl hb161 ?_
         refine vb (q_not rfl rfl) ?_
         refine vb (q_pick_t (v := .bool (!z162.2)) rfl rfl hb161 (by kernel_rfl)) ?_
         refine as_ (v := .bool (!z162.2)) ?_
         refine WR.done ?_
         refine WC.ret ?_
         intro w hw
         obtain rfl := Option.some.inj h
         subst hF
         exact ⟨by kernel_rfl, hw.fr⟩
        ·
         have h := bf hb161 h
         refine WR.unsat (c0 := true) (g := z146.2) rfl rfl rfl hb161 rfl ?_
         refine WR.unsat (c0 := true) (g := z146.2) rfl rfl rfl hb161 rfl ?_
         refine vb (q_pick_f (v := .bool false) rfl rfl hb161 (by kernel_rfl)) ?_
         refine as_ (v := .bool false) ?_
         refine WR.done ?_
         refine WC.ret ?_
         intro w hw
         obtain rfl := Option.some.inj h
         subst hF
         exact ⟨by kernel_rfl, hw.fr⟩
       ·
        refine WC.skip ?_
        change WC _ _ _ _ _ _
        refine WC.rs ?_
        refine vb (q_move (v := (pq g28)) rfl (optp_some rfl hz42)) ?_
        refine vb (q_fl 2 fld_54_2 rfl rfl rfl) ?_
        refine vb (q_ldl (i := 3) (v := .slice Ao2 o.path.length co2) rfl rfl Tryz.isAgg24 rfl rfl) ?_
        refine vb (q_fl 3 fld_54_3 rfl rfl rfl) ?_
        refine vb (q_ldl (i := 3) (v := .slice Ao3 o.hashes.length co3) rfl rfl Tryz.isAgg33 rfl rfl) ?_
        refine vb (q_fl 4 fld_54_4 rfl rfl rfl) ?_
        refine vb (q_ldl (i := 3) (v := .slice Ao4 o.list.length co4) rfl rfl Tryz.isAgg23 rfl rfl) ?_
        obtain ⟨z170, hz171, h⟩ := bnd h
        refine e_call (is := [0]) rfl rfl (call_run Tryz.call26 rfl rfl (by kernel_rfl)) rfl (fun w hp => t_pull_Pull_Tell (hr113.mono hl118) (ho.2.2.1.2.mono ((((((((((hl8.trans hl15).trans hl25).trans hl50).trans hl64).trans hl77).trans hl87).trans hl97).trans hl102).trans hl109).trans hl118)) ho.2.2.1.1 (ho.2.2.2.1.2.mono ((((((((((hl8.trans hl15).trans hl25).trans hl50).trans hl64).trans hl77).trans hl87).trans hl97).trans hl102).trans hl109).trans hl118)) ho.2.2.2.1.1 (ho.2.2.2.2.2.mono ((((((((((hl8.trans hl15).trans hl25).trans hl50).trans hl64).trans hl77).trans hl87).trans hl97).trans hl102).trans hl109).trans hl118)) ho.2.2.2.2.1 hp hz171) ?_
        rintro Γ172 U174 v175 hl173 ⟨row176, rfl, rfl, hr177, _⟩
        change WR _ _ _ (CC F Γ172 [row176, row123, row90, [(g1, .cells #[.int .i64 o.kind, .slice Ao1 o.vec.length co1, .slice Ao2 o.path.length co2, .slice Ao3 o.hashes.length co3, .slice Ao4 o.list.length co4] 54 (0, 0))]]) _ _ (upd _ 119 (.bool z170.2))
        refine vb (q_not rfl rfl) ?_
        refine mv (v := .bool (!z170.2)) ?_
        refine vg1 rfl rfl rfl rfl rfl (fun hg178 => QV.qo (q_move (v := (pq g28)) rfl (optp_some rfl hz42))) ?_
        refine (Bool.eq_false_or_eq_true (!z170.2)).elim (fun hb179 => ?_) (fun hb179 => ?_)
        ·
         have h := bt hb179 h
         refine WR.sat (c0 := true) (g := (!z170.2)) rfl rfl rfl hb179 ?_
         obtain ⟨z180, hz181, h⟩ := bnd h
         refine e_call (is := [0]) rfl rfl (call_run Tryz.call31 rfl rfl (args1 (gu hb179 rfl))) rfl (fun w hp => t_pull_Pull_Wants hr177 hp hz181) ?_
         rintro Γ182 U184 v185 hl183 ⟨A186, c187, row188, rfl, rfl, hr189, _⟩
         change WR _ _ _ (CC F Γ182 [row176, row188, row123, row90, [(g1, .cells #[.int .i64 o.kind, .slice Ao1 o.vec.length co1, .slice Ao2 o.path.length co2, .slice Ao3 o.hashes.length co3, .slice Ao4 o.list.length co4] 54 (0, 0))]]) _ _ (upd _ 123 (.slice A186 z180.length c187))
         refine WR.sat (c0 := true) (g := (!z170.2)) rfl rfl rfl hb179 ?_
         refine mv (v := .slice A121 z115.length c122) ?_
         refine WR.sat (c0 := true) (g := (!z170.2)) rfl rfl rfl hb179 ?_
         obtain ⟨z190, hz191, h⟩ := bnd h
         refine vc rfl rfl rfl (q_call (call_run Tryz.call30 rfl rfl (by kernel_rfl)) (fun w hw => t_firthlaw19_paths (Γ := Gh.all w) (hr189.sl hw.sat.le_all (hw.ra 1 rfl)) hr189.capz ((hr124.mono (hl173.trans hl183)).sl hw.sat.le_all (hw.ra 2 rfl)) (hr124.mono (hl173.trans hl183)).capz (Sat.all w) hz191)) ?_
         refine vb (q_pick_t (v := .bool z190) rfl rfl hb179 (by kernel_rfl)) ?_
         refine mv (v := .bool z190) ?_
         refine vg1 rfl rfl rfl rfl rfl (fun hg192 => QV.qo (q_move (v := (pq g28)) rfl (optp_some rfl hz42))) ?_
         refine (Bool.eq_false_or_eq_true z190).elim (fun hb193 => ?_) (fun hb193 => ?_)
         ·
          have h := bt hb193 h
          refine WR.sat (c0 := true) (g := z190) rfl rfl rfl hb193 ?_
          obtain ⟨z194, hz195, h⟩ := bnd h
          refine e_call (is := [0]) rfl rfl (call_run Tryz.call32 rfl rfl (args1 (gu hb193 rfl))) rfl (fun w hp => t_pull_Pull_Staged (hr177.mono hl183) hp hz195) ?_
          rintro Γ196 U198 v199 hl197 ⟨A200, c201, row202, rfl, rfl, hr203, _⟩
          change WR _ _ _ (CC F Γ196 [row176, row202, row188, row123, row90, [(g1, .cells #[.int .i64 o.kind, .slice Ao1 o.vec.length co1, .slice Ao2 o.path.length co2, .slice Ao3 o.hashes.length co3, .slice Ao4 o.list.length co4] 54 (0, 0))]]) _ _ (upd _ 129 (.slice A200 z194.length c201))
          refine WR.sat (c0 := true) (g := z190) rfl rfl rfl hb193 ?_
          refine vb (q_len_slice rfl Tryz.underlying23 rfl) ?_
          refine WR.sat (c0 := true) (g := z190) rfl rfl rfl hb193 ?_
          refine vb (q_eql rfl rfl rfl) ?_
          refine vb (q_pick_t (v := .bool (((z194.length : Nat) : Int) == 0)) rfl rfl hb193 (by kernel_rfl)) ?_
          refine as_ (v := .bool (((z194.length : Nat) : Int) == 0)) ?_
          refine WR.done ?_
          refine WC.ret ?_
          intro w hw
          obtain rfl := Option.some.inj h
          subst hF
          exact ⟨by kernel_rfl, hw.fr⟩
         ·
          have h := bf hb193 h
          refine WR.unsat (c0 := true) (g := z190) rfl rfl rfl hb193 rfl ?_
          refine WR.unsat (c0 := true) (g := z190) rfl rfl rfl hb193 rfl ?_
          refine WR.unsat (c0 := true) (g := z190) rfl rfl rfl hb193 rfl ?_
          refine vb (q_pick_f (v := .bool false) rfl rfl hb193 (by kernel_rfl)) ?_
          refine as_ (v := .bool false) ?_
          refine WR.done ?_
          refine WC.ret ?_
          intro w hw
          obtain rfl := Option.some.inj h
          subst hF
          exact ⟨by kernel_rfl, hw.fr⟩
        ·
         have h := bf hb179 h
         refine WR.unsat (c0 := true) (g := (!z170.2)) rfl rfl rfl hb179 rfl ?_
         refine WR.unsat (c0 := true) (g := (!z170.2)) rfl rfl rfl hb179 rfl ?_
         refine WR.unsat (c0 := true) (g := (!z170.2)) rfl rfl rfl hb179 rfl ?_
         refine vb (q_pick_f (v := .bool false) rfl rfl hb179 (by kernel_rfl)) ?_
         refine mv (v := .bool false) ?_
         refine WR.unsat (c0 := true) (g := false) rfl rfl rfl rfl rfl ?_
         refine WR.unsat (c0 := true) (g := false) rfl rfl rfl rfl rfl ?_
         refine WR.unsat (c0 := true) (g := false) rfl rfl rfl rfl rfl ?_
         refine WR.unsat (c0 := true) (g := false) rfl rfl rfl rfl rfl ?_
         refine vb (q_pickf (v := .bool false) rfl rfl rfl) ?_
         refine as_ (v := .bool false) ?_
         refine WR.done ?_
         refine WC.ret ?_
         intro w hw
         obtain rfl := Option.some.inj h
         subst hF
         exact ⟨by kernel_rfl, hw.fr⟩
    ·
     have h := bf hb73 h
     refine WR.unsat (c0 := true) (g := (((z61.length : Nat) : Int) != 0)) rfl rfl rfl hb73 rfl ?_
     refine WR.unsat (c0 := true) (g := (((z61.length : Nat) : Int) != 0)) rfl rfl rfl hb73 rfl ?_
     refine WR.unsat (c0 := true) (g := (((z61.length : Nat) : Int) != 0)) rfl rfl rfl hb73 rfl ?_
     refine WR.unsat (c0 := true) (g := (((z61.length : Nat) : Int) != 0)) rfl rfl rfl hb73 rfl ?_
     refine WR.unsat (c0 := true) (g := (((z61.length : Nat) : Int) != 0)) rfl rfl rfl hb73 rfl ?_
     refine vb (q_pick_t (v := .bool true) rfl rfl (not_f hb73) (by kernel_rfl)) ?_
     refine WR.done ?_
     refine WC.ctk (b := true) (by kernel_rfl) rfl ?_
     refine WC.rs ?_
     refine as_ (v := .bool false) ?_
     refine WR.done ?_
     refine WC.ret ?_
     intro w hw
     obtain rfl := Option.some.inj h
     subst hF
     exact ⟨by kernel_rfl, hw.fr⟩
   ·
    have h := bf hb60 h
    refine WR.unsat (c0 := true) (g := (z47.2 || z57)) rfl rfl rfl hb60 rfl ?_
    refine WR.unsat (c0 := true) (g := (z47.2 || z57)) rfl rfl rfl hb60 rfl ?_
    refine WR.unsat (c0 := true) (g := (z47.2 || z57)) rfl rfl rfl hb60 rfl ?_
    refine vb (q_pick_t (v := .bool true) rfl rfl (not_f hb60) (by kernel_rfl)) ?_
    refine mv (v := .bool true) ?_
    refine WR.unsat (c0 := true) (g := true) rfl rfl rfl (nott rfl) rfl ?_
    refine WR.unsat (c0 := true) (g := true) rfl rfl rfl (nott rfl) rfl ?_
    refine WR.unsat (c0 := true) (g := true) rfl rfl rfl (nott rfl) rfl ?_
    refine WR.unsat (c0 := true) (g := true) rfl rfl rfl (nott rfl) rfl ?_
    refine WR.unsat (c0 := true) (g := true) rfl rfl rfl (nott rfl) rfl ?_
    refine WR.unsat (c0 := true) (g := true) rfl rfl rfl (nott rfl) rfl ?_
    refine WR.unsat (c0 := true) (g := true) rfl rfl rfl (nott rfl) rfl ?_
    refine vb (q_pickt (v := .bool true) rfl rfl rfl) ?_
    refine WR.done ?_
    refine WC.ctk (b := true) (by kernel_rfl) rfl ?_
    refine WC.rs ?_
    refine as_ (v := .bool false) ?_
    refine WR.done ?_
    refine WC.ret ?_
    intro w hw
    obtain rfl := Option.some.inj h
    subst hF
    exact ⟨by kernel_rfl, hw.fr⟩
end Fw
end Go.Proofs.YtiakfgdgafljnaaGreat
