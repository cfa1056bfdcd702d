/- Walks through the functions that the law reaches (printed by a program). No condition. -/
import Derived.Test.YtiakfgdgafljnaaGreatW2
namespace Go.Proofs.YtiakfgdgafljnaaGreat
namespace Fw
set_option linter.unusedVariables false
set_option linter.unusedSimpArgs false
set_option linter.unusedSectionVars false
set_option maxRecDepth 100000
set_option maxHeartbeats 400000
open Go.RowKit
theorem t_firthlaw19_PullOrder {Γ : Gh} {w0 : World} {Aown : Option Addr} {cown : Nat} {own : List Rec} (hown : Sl recT Γ Aown own) (hownc : own.length ≤ cown) {Acut : Option Addr} {ccut : Nat} {cut : List Rec} (hcut : Sl recT Γ Acut cut) (hcutc : cut.length ≤ ccut) {Aorder : Option Addr} {corder : Nat} {order : List Int} (horder : Sl intT Γ Aorder order) (horderc : order.length ≤ corder) (hs : Sat Γ w0) {r : Bool} (h : m_firthlaw19_PullOrder own cut order = some r) : Calls Tryz.prog 6 #[.slice Aown own.length cown, .slice Acut cut.length ccut, .slice Aorder order.length corder] w0 (fun e w' => e = .returned (.bool r) ∧ Fr no w0 w') := by
 refine calls_of (N := 91) (rs := [6]) (args := [.slice Aown own.length cown, .slice Acut cut.length ccut, .slice Aorder order.length corder]) Tryz.func6 rfl Tryz.ntmps6 Tryz.results6 rfl ?_
 obtain ⟨F, hF⟩ : ∃ F : Fm, F = ⟨no, w0, Γ⟩ := ⟨_, rfl⟩
 refine WC.here (C := CC F Γ []) ?_ (hF ▸ Cur.start0 hs)
 refine WC.rs ?_
 refine as_ (v := .bool false) ?_
 refine WR.done ?_
 refine WC.seq ?_
 refine WC.rs ?_
 obtain ⟨z1, hz2, h⟩ := bnd h
 refine vc rfl rfl rfl (q_call (call_run Tryz.call12 rfl rfl (by kernel_rfl)) (fun w hw => t_firthlaw19_awake (Γ := Gh.all w)  (Sat.all w) hz2)) ?_
 refine vb (q_not rfl rfl) ?_
 refine WR.done ?_
 refine WC.cif h (by kernel_rfl) (fun hb3 h => ?_) (fun hb3 h => ?_)
 ·
  refine WC.rs ?_
  refine as_ (v := .bool false) ?_
  refine WR.done ?_
  refine WC.ret ?_
  intro w hw
  obtain rfl := Option.some.inj h
  subst hF
  exact ⟨by kernel_rfl, hw.fr⟩
 ·
  refine WC.skip ?_
  change WC _ _ _ _ _ _
  refine WC.rs ?_
  refine e_buildSlice (cs := #[.int .i64 5]) (e := 2) rfl rfl rfl rfl (fun w => by kernel_rfl) ?_
  intro g4
  refine mv (v := .slice Acut cut.length ccut) ?_
  have ho5 : Own intT Γ 2 [(g4, .cells #[.int .i64 5] 2 (0, 0))] (some ⟨g4, 0, none⟩) 1 [5] := Own.of_blockL (T := intT) (ys := [5]) [[.int .i64 5]] rfl (show 1 ≤ lim by decide) (show Ty.rd intT Γ [.int .i64 5] 5 ∧ True from ⟨⟨rfl, (show I64 5 by decide)⟩, trivial⟩)
  have hc10 := ho5.capz
  intro w hw; obtain ⟨Γ6, hw, hl7, hr8⟩ := hw.seal (i := 0) rfl; have hs9 := ho5.sl hl7 hr8
  refine WR.here (C := CC F Γ6 [[]]) ?_ hw
  clear hw
  obtain ⟨z11, hz12, h⟩ := bnd h
  refine e_call (is := []) rfl rfl (call_run Tryz.call10 rfl rfl (by kernel_rfl)) rfl (fun w hp => t_pull_NewCut 1 (show I64 1 by decide) hs9 hc10 (hcut.mono hl7) hcutc hp hz12) ?_
  rintro Γ13 U15 v16 hl14 ⟨g17, row18, rfl, rfl, hr19, hr20, _⟩
  change WR _ _ _ (CC F Γ13 [row18, []]) _ _ (upd _ 18 (.tuple #[optp z11.1 g17, .int .i64 z11.2]))
  refine mv (v := .tuple #[optp z11.1 g17, .int .i64 z11.2]) ?_
  refine vb (q_extract (v := optp z11.1 g17) rfl rfl rfl) ?_
  refine vb (q_extract (v := .int .i64 z11.2) rfl rfl rfl) ?_
  refine as_ (v := optp z11.1 g17) ?_
  refine as_ (v := .int .i64 z11.2) ?_
  refine WR.done ?_
  refine WC.rs ?_
  refine mv (v := .slice Aown own.length cown) ?_
  obtain ⟨z21, hz22, h⟩ := bnd h
  refine e_call (is := []) rfl rfl (call_run Tryz.call22 rfl rfl (by kernel_rfl)) rfl (fun w hp => t_pull_NewPull 1 (show I64 1 by decide) (hown.mono (hl7.trans hl14)) hownc hp hz22) ?_
  rintro Γ23 U25 v26 hl24 ⟨g27, row28, rfl, rfl, hr29, hr30, _⟩
  change WR _ _ _ (CC F Γ23 [row28, row18, []]) _ _ (upd _ 23 (.tuple #[optp z21.1 g27, .int .i64 z21.2]))
  refine mv (v := .tuple #[optp z21.1 g27, .int .i64 z21.2]) ?_
  refine vb (q_extract (v := optp z21.1 g27) rfl rfl rfl) ?_
  refine vb (q_extract (v := .int .i64 z21.2) rfl rfl rfl) ?_
  refine as_ (v := optp z21.1 g27) ?_
  refine as_ (v := .int .i64 z21.2) ?_
  refine WR.done ?_
  refine WC.rs ?_
  refine mv (v := .slice Aown own.length cown) ?_
  obtain ⟨z31, hz32, h⟩ := bnd h
  refine e_call (is := []) rfl rfl (call_run Tryz.call22 rfl rfl (by kernel_rfl)) rfl (fun w hp => t_pull_NewPull 1 (show I64 1 by decide) (hown.mono ((hl7.trans hl14).trans hl24)) hownc hp hz32) ?_
  rintro Γ33 U35 v36 hl34 ⟨g37, row38, rfl, rfl, hr39, hr40, _⟩
  change WR _ _ _ (CC F Γ33 [row38, row28, row18, []]) _ _ (upd _ 28 (.tuple #[optp z31.1 g37, .int .i64 z31.2]))
  refine mv (v := .tuple #[optp z31.1 g37, .int .i64 z31.2]) ?_
  refine vb (q_extract (v := optp z31.1 g37) rfl rfl rfl) ?_
  refine vb (q_extract (v := .int .i64 z31.2) rfl rfl rfl) ?_
  refine as_ (v := optp z31.1 g37) ?_
  refine as_ (v := .int .i64 z31.2) ?_
  refine WR.done ?_
  refine WC.seq ?_
  refine WC.rs ?_
  refine mv (v := optp z11.1 g17) ?_
  refine vb (q_opt_eql Tryz.underlying25 rfl rfl rfl) ?_
  refine mv (v := .bool (Option.isNone z11.1)) ?_
  refine vg0 rfl rfl rfl rfl rfl (fun hg41 => QV.qo (q_move (v := optp z21.1 g27) rfl (by kernel_rfl))) ?_
  refine vg0 rfl rfl rfl rfl rfl (fun hg42 => QV.qo (q_opt_eql Tryz.underlying47 rfl (gu hg42 rfl) rfl)) ?_
  refine vb (q_pick rfl rfl (pk_or' (g := (Option.isNone z11.1)) (y := (Option.isNone z21.1)))) ?_
  refine mv (v := .bool ((Option.isNone z11.1) || (Option.isNone z21.1))) ?_
  refine vg0 rfl rfl rfl rfl rfl (fun hg43 => QV.qo (q_move (v := optp z31.1 g37) rfl (by kernel_rfl))) ?_
  refine vg0 rfl rfl rfl rfl rfl (fun hg44 => QV.qo (q_opt_eql Tryz.underlying47 rfl (gu hg44 rfl) rfl)) ?_
  refine vb (q_pick rfl rfl (pk_or' (g := ((Option.isNone z11.1) || (Option.isNone z21.1))) (y := (Option.isNone z31.1)))) ?_
  refine mv (v := .bool (((Option.isNone z11.1) || (Option.isNone z21.1)) || (Option.isNone z31.1))) ?_
  refine vg0 rfl rfl rfl rfl rfl (fun hg45 => QV.qo (q_move (v := .int .i64 z11.2) rfl (by kernel_rfl))) ?_
  refine vg0 rfl rfl rfl rfl rfl (fun hg46 => QV.qo (q_neq rfl (gu hg46 rfl) rfl)) ?_
  refine vb (q_pick rfl rfl (pk_or' (g := (((Option.isNone z11.1) || (Option.isNone z21.1)) || (Option.isNone z31.1))) (y := (z11.2 != 0)))) ?_
  refine mv (v := .bool ((((Option.isNone z11.1) || (Option.isNone z21.1)) || (Option.isNone z31.1)) || (z11.2 != 0))) ?_
  refine vg0 rfl rfl rfl rfl rfl (fun hg47 => QV.qo (q_move (v := .int .i64 z21.2) rfl (by kernel_rfl))) ?_
  refine vg0 rfl rfl rfl rfl rfl (fun hg48 => QV.qo (q_neq rfl (gu hg48 rfl) rfl)) ?_
  refine vb (q_pick rfl rfl (pk_or' (g := ((((Option.isNone z11.1) || (Option.isNone z21.1)) || (Option.isNone z31.1)) || (z11.2 != 0))) (y := (z21.2 != 0)))) ?_
  refine mv (v := .bool (((((Option.isNone z11.1) || (Option.isNone z21.1)) || (Option.isNone z31.1)) || (z11.2 != 0)) || (z21.2 != 0))) ?_
  refine vg0 rfl rfl rfl rfl rfl (fun hg49 => QV.qo (q_move (v := .int .i64 z31.2) rfl (by kernel_rfl))) ?_
  refine vg0 rfl rfl rfl rfl rfl (fun hg50 => QV.qo (q_neq rfl (gu hg50 rfl) rfl)) ?_
  refine vb (q_pick rfl rfl (pk_or' (g := (((((Option.isNone z11.1) || (Option.isNone z21.1)) || (Option.isNone z31.1)) || (z11.2 != 0)) || (z21.2 != 0))) (y := (z31.2 != 0)))) ?_
  refine WR.done ?_
  refine WC.cif h (by kernel_rfl) (fun hb51 h => ?_) (fun hb51 h => ?_)
  ·
   refine WC.rs ?_
   refine mv (v := .int .i64 z11.2) ?_
   refine vb (q_eql rfl rfl rfl) ?_
   refine mv (v := .bool (z11.2 == 1)) ?_
   refine vg0 rfl rfl rfl rfl rfl (fun hg52 => QV.qo (q_move (v := .int .i64 z21.2) rfl (by kernel_rfl))) ?_
   refine vg0 rfl rfl rfl rfl rfl (fun hg53 => QV.qo (q_eql rfl (gu hg53 rfl) rfl)) ?_
   refine vb (q_pick rfl rfl (pk_or' (g := (z11.2 == 1)) (y := (z21.2 == 1)))) ?_
   refine as_ (v := .bool ((z11.2 == 1) || (z21.2 == 1))) ?_
   refine WR.done ?_
   refine WC.ret ?_
   intro w hw
   obtain rfl := Option.some.inj h
   subst hF
   exact ⟨by kernel_rfl, hw.fr⟩
  ·
   obtain ⟨z54, hz55, h⟩ := bnd h
   have ho56 := optob_some hr39 hz55
   obtain ⟨z57, hz58, h⟩ := bnd h
   have ho59 := optob_some (optob_mono hr29 (fun _ h => h.mono hl34)) hz58
   obtain ⟨z60, hz61, h⟩ := bnd h
   have ho62 := optob_some (optob_mono hr19 (fun _ h => h.mono (hl24.trans hl34))) hz61
   refine WC.skip ?_
   change WC _ _ _ _ _ _
   refine WC.rs ?_
   refine vb (q_move (v := (pq g27)) rfl (optp_some rfl hz58)) ?_
   refine vb (q_move (v := (pq g17)) rfl (optp_some rfl hz61)) ?_
   obtain ⟨z63, hz64, h⟩ := bnd h
   refine e_call (is := [2]) rfl rfl (call_run Tryz.call18 rfl rfl (by kernel_rfl)) rfl (fun w hp => t_pull_Cut_Vec ho62 hp hz64) ?_
   rintro Γ65 U67 v68 hl66 ⟨A69, c70, row71, rfl, rfl, hr72, _⟩
   change WR _ _ _ (CC F Γ65 [row18, row71, row38, row28, []]) _ _ (upd _ 61 (.slice A69 z63.length c70))
   refine vb (q_move (v := (pq g17)) rfl (optp_some rfl hz61)) ?_
   obtain ⟨z73, hz74, h⟩ := bnd h
   refine e_call (is := [0]) rfl rfl (call_run Tryz.call19 rfl rfl (by kernel_rfl)) rfl (fun w hp => t_pull_Cut_Open (ho62.mono hl66) hp hz74) ?_
   rintro Γ75 U77 v78 hl76 ⟨row79, A81, c82, row83, rfl, rfl, hr80, hr84, _⟩
   change WR _ _ _ (CC F Γ75 [row79, row83, row71, row38, row28, []]) _ _ (upd _ 63 (.slice A81 z73.2.length c82))
   have hc89 := (hr72.mono hl76).capz
   intro w hw; obtain ⟨Γ85, hw, hl86, hr87⟩ := hw.seal (i := 2) rfl; have hs88 := (hr72.mono hl76).sl hl86 hr87
   refine WR.here (C := CC F Γ85 [row79, row83, [], row38, row28, []]) ?_ hw
   clear hw
   have hc94 := (hr84.mono hl86).capz
   intro w hw; obtain ⟨Γ90, hw, hl91, hr92⟩ := hw.seal (i := 1) rfl; have hs93 := (hr84.mono hl86).sl hl91 hr92
   refine WR.here (C := CC F Γ90 [row79, [], [], row38, row28, []]) ?_ hw
   clear hw
   obtain ⟨z95, hz96, h⟩ := bnd h
   refine e_call (is := [4]) rfl rfl (call_run Tryz.call24 rfl rfl (by kernel_rfl)) rfl (fun w hp => t_pull_Pull_Begin (ho59.mono (((hl66.trans hl76).trans hl86).trans hl91)) (hs88.mono hl91) hc89 hs93 hc94 hp hz96) ?_
   rintro Γ97 U99 v100 hl98 ⟨row101, rfl, rfl, hr102, _⟩
   change WR _ _ _ (CC F Γ97 [row101, row79, [], [], row38, []]) _ _ (upd _ 64 (.bool z95.2))
   refine mv (v := .bool z95.2) ?_
   refine vg1 rfl rfl rfl rfl rfl (fun hg103 => QV.qo (q_move (v := (pq g37)) rfl (optp_some rfl hz55))) ?_
   refine vg1 rfl rfl rfl rfl rfl (fun hg104 => QV.qo (q_move (v := (pq g17)) rfl (optp_some rfl hz61))) ?_
   refine (Bool.eq_false_or_eq_true z95.2).elim (fun hb105 => ?_) (fun hb105 => ?_)
   ·
    have h := bt hb105 h
    refine WR.sat (c0 := true) (g := z95.2) rfl rfl rfl hb105 ?_
    obtain ⟨z106, hz107, h⟩ := bnd h
    refine e_call (is := [1]) rfl rfl (call_run Tryz.call18 rfl rfl (args1 (gu hb105 rfl))) rfl (fun w hp => t_pull_Cut_Vec (hr80.mono ((hl86.trans hl91).trans hl98)) hp hz107) ?_
    rintro Γ108 U110 v111 hl109 ⟨A112, c113, row114, rfl, rfl, hr115, _⟩
    change WR _ _ _ (CC F Γ108 [row79, row114, row101, [], [], row38, []]) _ _ (upd _ 68 (.slice A112 z106.length c113))
    refine WR.sat (c0 := true) (g := z95.2) rfl rfl rfl hb105 ?_
    refine vb (q_move (v := (pq g17)) rfl (optp_some rfl hz61)) ?_
    refine WR.sat (c0 := true) (g := z95.2) rfl rfl rfl hb105 ?_
    obtain ⟨z116, hz117, h⟩ := bnd h
    refine e_call (is := [0]) rfl rfl (call_run Tryz.call19 rfl rfl (by kernel_rfl)) rfl (fun w hp => t_pull_Cut_Open (hr80.mono (((hl86.trans hl91).trans hl98).trans hl109)) hp hz117) ?_
    rintro Γ118 U120 v121 hl119 ⟨row122, A124, c125, row126, rfl, rfl, hr123, hr127, _⟩
    change WR _ _ _ (CC F Γ118 [row122, row126, row114, row101, [], [], row38, []]) _ _ (upd _ 70 (.slice A124 z116.2.length c125))
    refine WR.sat (c0 := true) (g := z95.2) rfl rfl rfl hb105 ?_
    have hc132 := (hr115.mono hl119).capz
    intro w hw; obtain ⟨Γ128, hw, hl129, hr130⟩ := hw.seal (i := 2) rfl; have hs131 := (hr115.mono hl119).sl hl129 hr130
    refine WR.here (C := CC F Γ128 [row122, row126, [], row101, [], [], row38, []]) ?_ hw
    clear hw
    have hc137 := (hr127.mono hl129).capz
    intro w hw; obtain ⟨Γ133, hw, hl134, hr135⟩ := hw.seal (i := 1) rfl; have hs136 := (hr127.mono hl129).sl hl134 hr135
    refine WR.here (C := CC F Γ133 [row122, [], [], row101, [], [], row38, []]) ?_ hw
    clear hw
    obtain ⟨z138, hz139, h⟩ := bnd h
    refine e_call (is := [6]) rfl rfl (call_run Tryz.call24 rfl rfl (args3 (gu hb105 rfl) rfl rfl)) rfl (fun w hp => t_pull_Pull_Begin (ho56.mono ((((((((hl66.trans hl76).trans hl86).trans hl91).trans hl98).trans hl109).trans hl119).trans hl129).trans hl134)) (hs131.mono hl134) hc132 hs136 hc137 hp hz139) ?_
    rintro Γ140 U142 v143 hl141 ⟨row144, rfl, rfl, hr145, _⟩
    change WR _ _ _ (CC F Γ140 [row144, row122, [], [], row101, [], [], []]) _ _ (upd _ 71 (.bool z138.2))
    refine vb (q_pick_t (v := .bool z138.2) rfl rfl hb105 (by kernel_rfl)) ?_
    refine mv (v := .bool z138.2) ?_
    refine vg1 rfl rfl rfl rfl rfl (fun hg146 => QV.qo (q_move (v := (pq g17)) rfl (optp_some rfl hz61))) ?_
    refine vg1 rfl rfl rfl rfl rfl (fun hg147 => QV.qo (q_move (v := (pq g27)) rfl (optp_some rfl hz58))) ?_
    refine vg1 rfl rfl rfl rfl rfl (fun hg148 => QV.qo (q_move (v := .slice Aorder order.length corder) rfl (by kernel_rfl))) ?_
    refine (Bool.eq_false_or_eq_true z138.2).elim (fun hb149 => ?_) (fun hb149 => ?_)
    ·
     have h := bt hb149 h
     refine WR.sat (c0 := true) (g := z138.2) rfl rfl rfl hb149 ?_
     obtain ⟨z150, hz151, h⟩ := bnd h
     refine e_call (is := [1, 3]) rfl rfl (call_run Tryz.call37 rfl rfl (args3 (gu hb149 rfl) (gu hb149 rfl) (gu hb149 rfl))) rfl (fun w hp => t_firthlaw19_told (hr123.mono ((hl129.trans hl134).trans hl141)) (hr102.mono ((((hl109.trans hl119).trans hl129).trans hl134).trans hl141)) (horder.mono (((((((((((((hl7.trans hl14).trans hl24).trans hl34).trans hl66).trans hl76).trans hl86).trans hl91).trans hl98).trans hl109).trans hl119).trans hl129).trans hl134).trans hl141)) horderc hp hz151) ?_
     rintro Γ152 U154 v155 hl153 ⟨row156, row158, rfl, rfl, hr157, hr159, _⟩
     change WR _ _ _ (CC F Γ152 [row156, row158, row144, [], [], [], [], []]) _ _ (upd _ 77 (.bool z150.2.2))
     refine vb (q_pick_t (v := .bool z150.2.2) rfl rfl hb149 (by kernel_rfl)) ?_
     refine mv (v := .bool z150.2.2) ?_
     refine vg1 rfl rfl rfl rfl rfl (fun hg160 => QV.qo (q_move (v := (pq g17)) rfl (optp_some rfl hz61))) ?_
     refine vg1 rfl rfl rfl rfl rfl (fun hg161 => QV.qo (q_move (v := (pq g37)) rfl (optp_some rfl hz55))) ?_
     refine (Bool.eq_false_or_eq_true z150.2.2).elim (fun hb162 => ?_) (fun hb162 => ?_)
     ·
      have h := bt hb162 h
      refine WR.sat (c0 := true) (g := z150.2.2) rfl rfl rfl hb162 ?_
      obtain ⟨z163, hz164, h⟩ := bnd h
      refine e_call (is := [0, 1]) rfl rfl (call_run Tryz.call37 rfl rfl (args3 (gu hb162 rfl) (gu hb162 rfl) rfl)) rfl (fun w hp => t_firthlaw19_told hr157 (hr145.mono hl153) (Sl.nil intT _ none) (Nat.zero_le 0) hp hz164) ?_
      rintro Γ165 U167 v168 hl166 ⟨row169, row171, rfl, rfl, hr170, hr172, _⟩
      change WR _ _ _ (CC F Γ165 [row169, row171, row158, [], [], [], [], []]) _ _ (upd _ 82 (.bool z163.2.2))
      refine vb (q_pick_t (v := .bool z163.2.2) rfl rfl hb162 (by kernel_rfl)) ?_
      refine mv (v := .bool z163.2.2) ?_
      refine vg1 rfl rfl rfl rfl rfl (fun hg173 => QV.qo (q_move (v := (pq g27)) rfl (optp_some rfl hz58))) ?_
      refine (Bool.eq_false_or_eq_true z163.2.2).elim (fun hb174 => ?_) (fun hb174 => ?_)
      ·
       have h := bt hb174 h
       refine WR.sat (c0 := true) (g := z163.2.2) rfl rfl rfl hb174 ?_
       obtain ⟨z175, hz176, h⟩ := bnd h
       refine e_call (is := [2]) rfl rfl (call_run Tryz.call32 rfl rfl (args1 (gu hb174 rfl))) rfl (fun w hp => t_pull_Pull_Staged (hr159.mono hl166) hp hz176) ?_
       rintro Γ177 U179 v180 hl178 ⟨A181, c182, row183, rfl, rfl, hr184, _⟩
       change WR _ _ _ (CC F Γ177 [row158, row183, row169, row171, [], [], [], [], []]) _ _ (upd _ 86 (.slice A181 z175.length c182))
       refine WR.sat (c0 := true) (g := z163.2.2) rfl rfl rfl hb174 ?_
       refine vb (q_move (v := (pq g37)) rfl (optp_some rfl hz55)) ?_
       refine WR.sat (c0 := true) (g := z163.2.2) rfl rfl rfl hb174 ?_
       obtain ⟨z185, hz186, h⟩ := bnd h
       refine e_call (is := [3]) rfl rfl (call_run Tryz.call32 rfl rfl (by kernel_rfl)) rfl (fun w hp => t_pull_Pull_Staged (hr172.mono hl178) hp hz186) ?_
       rintro Γ187 U189 v190 hl188 ⟨A191, c192, row193, rfl, rfl, hr194, _⟩
       change WR _ _ _ (CC F Γ187 [row171, row193, row158, row183, row169, [], [], [], [], []]) _ _ (upd _ 88 (.slice A191 z185.length c192))
       refine WR.sat (c0 := true) (g := z163.2.2) rfl rfl rfl hb174 ?_
       obtain ⟨z195, hz196, h⟩ := bnd h
       refine vc rfl rfl rfl (q_call (call_run Tryz.call16 rfl rfl (by kernel_rfl)) (fun w hw => t_firthref06_SameRecs (Γ := Gh.all w) ((hr184.mono hl188).sl hw.sat.le_all (hw.ra 3 rfl)) (hr184.mono hl188).capz (hr194.sl hw.sat.le_all (hw.ra 1 rfl)) hr194.capz (Sat.all w) hz196)) ?_
       refine vb (q_pick_t (v := .bool z195) rfl rfl hb174 (by kernel_rfl)) ?_
       refine as_ (v := .bool z195) ?_
       refine WR.done ?_
       refine WC.ret ?_
       intro w hw
       obtain rfl := Option.some.inj h
       subst hF
       exact ⟨by kernel_rfl, hw.fr⟩
      ·
       have h := bf hb174 h
       refine WR.unsat (c0 := true) (g := z163.2.2) rfl rfl rfl hb174 rfl ?_
       refine WR.unsat (c0 := true) (g := z163.2.2) rfl rfl rfl hb174 rfl ?_
       refine WR.unsat (c0 := true) (g := z163.2.2) rfl rfl rfl hb174 rfl ?_
       refine WR.unsat (c0 := true) (g := z163.2.2) rfl rfl rfl hb174 rfl ?_
       refine vb (q_pick_f (v := .bool false) rfl rfl hb174 (by kernel_rfl)) ?_
       refine as_ (v := .bool false) ?_
       refine WR.done ?_
       refine WC.ret ?_
       intro w hw
       obtain rfl := Option.some.inj h
       subst hF
       exact ⟨by kernel_rfl, hw.fr⟩
     ·
      have h := bf hb162 h
      refine WR.unsat (c0 := true) (g := z150.2.2) rfl rfl rfl hb162 rfl ?_
      refine vb (q_pick_f (v := .bool false) rfl rfl hb162 (by kernel_rfl)) ?_
      refine mv (v := .bool false) ?_
      refine WR.unsat (c0 := true) (g := false) rfl rfl rfl rfl rfl ?_
      refine WR.unsat (c0 := true) (g := false) rfl rfl rfl rfl rfl ?_
      refine WR.unsat (c0 := true) (g := false) rfl rfl rfl rfl rfl ?_
      refine WR.unsat (c0 := true) (g := false) rfl rfl rfl rfl rfl ?_
      refine WR.unsat (c0 := true) (g := false) rfl rfl rfl rfl rfl ?_
      refine vb (q_pickf (v := .bool false) rfl rfl rfl) ?_
      refine as_ (v := .bool false) ?_
      refine WR.done ?_
      refine WC.ret ?_
      intro w hw
      obtain rfl := Option.some.inj h
      subst hF
      exact ⟨by kernel_rfl, hw.fr⟩
    ·
     have h := bf hb149 h
     refine WR.unsat (c0 := true) (g := z138.2) rfl rfl rfl hb149 rfl ?_
     refine vb (q_pick_f (v := .bool false) rfl rfl hb149 (by kernel_rfl)) ?_
     refine mv (v := .bool false) ?_
     refine WR.unsat (c0 := true) (g := false) rfl rfl rfl rfl rfl ?_
     refine WR.unsat (c0 := true) (g := false) rfl rfl rfl rfl rfl ?_
     refine WR.unsat (c0 := true) (g := false) rfl rfl rfl rfl rfl ?_
     refine vb (q_pickf (v := .bool false) rfl rfl rfl) ?_
     refine mv (v := .bool false) ?_
     refine WR.unsat (c0 := true) (g := false) rfl rfl rfl rfl rfl ?_
     refine WR.unsat (c0 := true) (g := false) rfl rfl rfl rfl rfl ?_
     refine WR.unsat (c0 := true) (g := false) rfl rfl rfl rfl rfl ?_
     refine WR.unsat (c0 := true) (g := false) rfl rfl rfl rfl rfl ?_
     refine WR.unsat (c0 := true) (g := false) rfl rfl rfl rfl rfl ?_
     refine vb (q_pickf (v := .bool false) rfl rfl rfl) ?_
     refine as_ (v := .bool false) ?_
     refine WR.done ?_
     refine WC.ret ?_
     intro w hw
     obtain rfl := Option.some.inj h
     subst hF
     exact ⟨by kernel_rfl, hw.fr⟩
   ·
    have h := bf hb105 h
    refine WR.unsat (c0 := true) (g := z95.2) rfl rfl rfl hb105 rfl ?_
    refine WR.unsat (c0 := true) (g := z95.2) rfl rfl rfl hb105 rfl ?_
    refine WR.unsat (c0 := true) (g := z95.2) rfl rfl rfl hb105 rfl ?_
    refine WR.unsat (c0 := true) (g := z95.2) rfl rfl rfl hb105 rfl ?_
    refine vb (q_pick_f (v := .bool false) rfl rfl hb105 (by kernel_rfl)) ?_
    refine mv (v := .bool false) ?_
    refine WR.unsat (c0 := true) (g := false) rfl rfl rfl rfl rfl ?_
    refine WR.unsat (c0 := true) (g := false) rfl rfl rfl rfl rfl ?_
    refine WR.unsat (c0 := true) (g := false) rfl rfl rfl rfl rfl ?_
    refine WR.unsat (c0 := true) (g := false) rfl rfl rfl rfl rfl ?_
    refine vb (q_pickf (v := .bool false) rfl rfl rfl) ?_
    refine mv (v := .bool false) ?_
    refine WR.unsat (c0 := true) (g := false) rfl rfl rfl rfl rfl ?_
    refine WR.unsat (c0 := true) (g := false) rfl rfl rfl rfl rfl ?_
    refine WR.unsat (c0 := true) (g := false) rfl rfl rfl rfl rfl ?_
    refine vb (q_pickf (v := .bool false) rfl rfl rfl) ?_
    refine mv (v := .bool false) ?_
    refine WR.unsat (c0 := true) (g := false) rfl rfl rfl rfl rfl ?_
    refine WR.unsat (c0 := true) (g := false) rfl rfl rfl rfl rfl ?_
    refine WR.unsat (c0 := true) (g := false) rfl rfl rfl rfl rfl ?_
    refine WR.unsat (c0 := true) (g := false) rfl rfl rfl rfl rfl ?_
    refine WR.unsat (c0 := true) (g := false) rfl rfl rfl rfl rfl ?_
    refine vb (q_pickf (v := .bool false) rfl rfl rfl) ?_
    refine as_ (v := .bool false) ?_
    refine WR.done ?_
    refine WC.ret ?_
    intro w hw
    obtain rfl := Option.some.inj h
    subst hF
    exact ⟨by kernel_rfl, hw.fr⟩
end Fw
end Go.Proofs.YtiakfgdgafljnaaGreat
