/- Walks through the functions that the law reaches (printed by a program). No condition. -/
import Derived.Test.YtiakfgdgafljnaaGreatW3
namespace Go.Proofs.YtiakfgdgafljnaaGreat
namespace Fw
set_option linter.unusedVariables false
set_option linter.unusedSimpArgs false
set_option linter.unusedSectionVars false
open Go.RowKit
set_option maxRecDepth 100000 in
set_option maxHeartbeats 400000 in
theorem t_firthref11_Hash_o {Γ : Gh} {w0 : World} {H : List Rec → List Int → Option Int} (hH : C_firthref11_Hash H) {Aall : Option Addr} {call : Nat} {all : List Rec} (hall : Sl recT Γ Aall all) (hallc : all.length ≤ call) {Apath : Option Addr} {cpath : Nat} {path : List Int} (hpath : Sl intT Γ Apath path) (hpathc : path.length ≤ cpath) (hs : Sat Γ w0) {r : Int} (h : m_firthref11_Hash_o H all path = some r) : Calls Tryz.prog 56 #[.slice Aall all.length call, .slice Apath path.length cpath] w0 (fun e w' => e = .returned (.int .u64 r) ∧ Fr no w0 w') := by
  refine calls_of (N := 19) (rs := [4]) (args := [.slice Aall all.length call, .slice Apath path.length cpath]) Tryz.func56 rfl Tryz.ntmps56 Tryz.results56 rfl ?_
  obtain ⟨F, hF⟩ : ∃ F : Fm, F = ⟨no, w0, Γ⟩ := ⟨_, rfl⟩
  refine WC.here (C := CC F Γ []) ?_ (hF ▸ Cur.start0 hs)
  refine WC.rs ?_
  refine va rfl rfl rfl (q_assign (v := .int .u64 0) rfl (by kernel_rfl)) ?_
  refine WR.nil ?_
  change WC _ _ _ _ _ _
  refine WC.seq ?_
  refine WC.rs ?_
  refine va rfl rfl rfl (q_move (v := .slice Apath path.length cpath) rfl (by kernel_rfl)) ?_
  obtain ⟨z1, hz2, h⟩ := bnd h
  refine vc rfl rfl rfl (q_call (call_run Tryz.call54 rfl rfl (by kernel_rfl)) (fun w hw => t_firthref11_Path (Γ := Gh.all w) (hpath.mono hw.sat.le_all) hpathc (Sat.all w) hz2)) ?_
  refine va rfl rfl rfl (q_not rfl rfl) ?_
  refine va rfl rfl rfl (q_move (v := .bool (!z1)) rfl (by kernel_rfl)) ?_
  refine vg0 rfl rfl rfl rfl rfl (fun hg3 => QV.qo (q_move (v := .slice Aall all.length call) rfl (by kernel_rfl))) ?_
  refine vg0 rfl rfl rfl rfl rfl (fun hg4 => QV.qo (q_move (v := .slice Apath path.length cpath) rfl (by kernel_rfl))) ?_
  refine (Bool.eq_false_or_eq_true (!(!z1))).elim (fun hb5 => ?_) (fun hb5 => ?_)
  · skip
    have h := bt hb5 h
    refine WR.sat (c0 := true) (g := (!z1)) rfl rfl rfl hb5 ?_
    obtain ⟨z6, hz7, h⟩ := bnd h
    refine e_call (is := []) rfl rfl (call_run Tryz.call55 rfl rfl (args2 (gu hb5 rfl) (gu hb5 rfl))) rfl (fun w hp => t_firthref11_Recs hall hallc hpath hpathc hp hz7) ?_
    rintro Γ8 U10 v11 hl9 ⟨A12, c13, row14, rfl, rfl, hr15, _⟩
    change WR _ _ _ (CC F Γ8 [row14]) _ _ (upd _ 11 (.slice A12 z6.length c13))
    refine WR.sat (c0 := true) (g := (!z1)) rfl rfl rfl hb5 ?_
    refine va rfl rfl rfl (q_len_slice rfl Tryz.underlying23 rfl) ?_
    refine WR.sat (c0 := true) (g := (!z1)) rfl rfl rfl hb5 ?_
    refine va rfl rfl rfl (q_eql rfl rfl rfl) ?_
    refine va rfl rfl rfl (q_pick_f (v := .bool (((z6.length : Nat) : Int) == 0)) rfl rfl (not_t hb5) (by kernel_rfl)) ?_
    refine WR.nil ?_
    change WC _ _ _ _ _ _
    refine WC.cif h (by kernel_rfl) (fun hb16 h => ?_) (fun hb16 h => ?_)
    · skip
      refine WC.rs ?_
      refine va rfl rfl rfl (q_assign (v := .int .u64 0) rfl (by kernel_rfl)) ?_
      refine WR.nil ?_
      change WC _ _ _ _ _ _
      refine WC.ret ?_
      intro w hw
      obtain rfl := Option.some.inj h
      subst hF
      exact ⟨by kernel_rfl, hw.fr⟩
    · skip
      refine WC.skip ?_
      change WC _ _ _ _ _ _
      refine WC.rs ?_
      refine va rfl rfl rfl (q_move (v := .slice Aall all.length call) rfl (by kernel_rfl)) ?_
      refine va rfl rfl rfl (q_move (v := .slice Apath path.length cpath) rfl (by kernel_rfl)) ?_
      obtain ⟨z17, hz18, h⟩ := bnd h
      refine e_call (is := []) rfl rfl (call_run Tryz.call81 rfl rfl (by kernel_rfl)) rfl (fun w hp => t_firthref11_Text hH (hall.mono hl9) hallc (hpath.mono hl9) hpathc hp hz18) ?_
      rintro Γ19 U21 v22 hl20 ⟨A23, c24, row25, rfl, rfl, hr26, _⟩
      change WR _ _ _ (CC F Γ19 [row25, row14]) _ _ (upd _ 17 (.slice A23 z17.length c24))
      obtain ⟨z27, hz28, h⟩ := bnd h
      refine vc rfl rfl rfl (q_call (call_run Tryz.call80 rfl rfl (by kernel_rfl)) (fun w hw => t_firthref01_Hash (Γ := Gh.all w) (hr26.sl hw.sat.le_all (hw.ra 0 rfl)) hr26.capz (Sat.all w) hz28)) ?_
      refine va rfl rfl rfl (q_assign (v := .int .u64 z27) rfl (by kernel_rfl)) ?_
      refine WR.nil ?_
      change WC _ _ _ _ _ _
      refine WC.ret ?_
      intro w hw
      obtain rfl := Option.some.inj h
      subst hF
      exact ⟨by kernel_rfl, hw.fr⟩
  · skip
    have h := bf hb5 h
    refine WR.unsat (c0 := true) (g := (!z1)) rfl rfl rfl hb5 rfl ?_
    refine WR.unsat (c0 := true) (g := (!z1)) rfl rfl rfl hb5 rfl ?_
    refine WR.unsat (c0 := true) (g := (!z1)) rfl rfl rfl hb5 rfl ?_
    refine va rfl rfl rfl (q_pick_t (v := .bool true) rfl rfl (not_f hb5) (by kernel_rfl)) ?_
    refine WR.nil ?_
    change WC _ _ _ _ _ _
    refine WC.ctk (b := true) (by kernel_rfl) rfl ?_
    refine WC.rs ?_
    refine va rfl rfl rfl (q_assign (v := .int .u64 0) rfl (by kernel_rfl)) ?_
    refine WR.nil ?_
    change WC _ _ _ _ _ _
    refine WC.ret ?_
    intro w hw
    obtain rfl := Option.some.inj h
    subst hF
    exact ⟨by kernel_rfl, hw.fr⟩
theorem t_firthref11_Hash_n (n : Nat) : C_firthref11_Hash (m_firthref11_Hash_n n) := by
  induction n with
  | zero => intro Γ w0 Aall call all hall hallc Apath cpath path hpath hpathc hs r h; exact absurd h (by simp [m_firthref11_Hash_n])
  | succ n ih => intro Γ w0 Aall call all hall hallc Apath cpath path hpath hpathc hs r h; exact t_firthref11_Hash_o ih hall hallc hpath hpathc hs h

theorem t_firthref11_Hash {Γ : Gh} {w0 : World} {Aall : Option Addr} {call : Nat} {all : List Rec} (hall : Sl recT Γ Aall all) (hallc : all.length ≤ call) {Apath : Option Addr} {cpath : Nat} {path : List Int} (hpath : Sl intT Γ Apath path) (hpathc : path.length ≤ cpath) (hs : Sat Γ w0) {r : Int} (h : m_firthref11_Hash all path = some r) : Calls Tryz.prog 56 #[.slice Aall all.length call, .slice Apath path.length cpath] w0 (fun e w' => e = .returned (.int .u64 r) ∧ Fr no w0 w') := by
  exact t_firthref11_Hash_n 3 hall hallc hpath hpathc hs h

abbrev r_firthref11_Kids (r : List Int) (U : List Rowb) (Γ : Gh) (v : Value) : Prop := ∃ (A0 : Option Addr), ∃ (c0 : Nat), ∃ (row0 : Rowb), v = .slice A0 r.length c0 ∧ U = [row0] ∧ Own u64T Γ 78 row0 A0 c0 r ∧ True
set_option maxRecDepth 100000 in
set_option maxHeartbeats 400000 in
theorem t_firthref11_Kids {Γ : Gh} {w0 : World} {Aall : Option Addr} {call : Nat} {all : List Rec} (hall : Sl recT Γ Aall all) (hallc : all.length ≤ call) {Apath : Option Addr} {cpath : Nat} {path : List Int} (hpath : Sl intT Γ Apath path) (hpathc : path.length ≤ cpath) (hp : Pre [] Γ w0) {r : List Int} (h : m_firthref11_Kids all path = some r) : Calls Tryz.prog 20 #[.slice Aall all.length call, .slice Apath path.length cpath] w0 (Outc Γ [] w0 (r_firthref11_Kids r)) := by
  refine calls_of (N := 29) (rs := [4]) (args := [.slice Aall all.length call, .slice Apath path.length cpath]) Tryz.func20 rfl Tryz.ntmps20 Tryz.results20 rfl ?_
  obtain ⟨F, hF⟩ : ∃ F : Fm, F = ⟨ids [], w0, Γ⟩ := ⟨_, rfl⟩
  refine WC.here (C := CC F Γ []) ?_ (hF ▸ hp.start)
  refine WC.rs ?_
  refine va rfl rfl rfl (q_assign (v := .slice none 0 0) rfl (by kernel_rfl)) ?_
  refine WR.nil ?_
  change WC _ _ _ _ _ _
  refine WC.rs ?_
  refine va rfl rfl rfl (q_assign (v := .slice none 0 0) rfl (by kernel_rfl)) ?_
  refine WR.nil ?_
  change WC _ _ _ _ _ _
  refine WC.seq ?_
  refine WC.rs ?_
  refine va rfl rfl rfl (q_assign (v := .int .i64 0) rfl (by kernel_rfl)) ?_
  refine WR.nil ?_
  change WC _ _ _ _ _ _
  refine WC.block ?_
  refine WC.loopN h (fun (s : (List Int) × Int) σ w => match s with | (out_3, d_8) => ∃ (Γ1 : Gh), ∃ (A4 : Option Addr), ∃ (c5 : Nat), ∃ (row6 : Rowb), slots σ [(0, .slice Aall all.length call), (1, .slice Apath path.length cpath), (5, .slice A4 out_3.length c5), (6, .int .i64 d_8)] ∧ CC F Γ1 [row6] w ∧ Gh.le Γ Γ1 ∧ Own u64T Γ1 78 row6 A4 c5 out_3 ∧ I64 d_8 ∧ True) ?_ ?_
  · skip
    intro w hw
    have hw := hw.pad
    exact ⟨Γ, none, 0, [], (sl_ (by kernel_rfl)), hw, (Gh.refl _), (Own.nil u64T _ 78), (show I64 0 by decide), trivial⟩
  rintro f10 ⟨out_3, d_8⟩ σ w h ⟨Γ1, A4, c5, row6, hsl, hw, hl2, ho7, hr9, -⟩
  refine Wpt.slots hsl ?_
  refine WC.here (C := CC F Γ1 [row6]) ?_ hw
  clear hw hsl
  refine WC.seq ?_
  refine WC.rs ?_
  refine va rfl rfl rfl (q_move (v := .int .i64 d_8) rfl (by kernel_rfl)) ?_
  refine va rfl rfl rfl (q_lss rfl rfl rfl) ?_
  refine va rfl rfl rfl (q_move (v := .bool (decide (d_8 < 16))) rfl (by kernel_rfl)) ?_
  refine vg1 rfl rfl rfl rfl rfl (fun hg14 => QV.qo (q_move (v := .slice Apath path.length cpath) rfl (by kernel_rfl))) ?_
  obtain ⟨z16, hz17, h⟩ := bnd h
  refine vg1 rfl rfl rfl rfl rfl (fun hg15 => (q_call (call_run Tryz.call54 rfl rfl (args1 (gu hg15 rfl))) (fun w hw => t_firthref11_Path (Γ := Gh.all w) ((hpath.mono hl2).mono hw.sat.le_all) hpathc (Sat.all w) (gc_of hz17 hg15)))) ?_
  refine va rfl rfl rfl (q_pick rfl rfl (pk_and' (g := (decide (d_8 < 16))) (y := z16))) ?_
  refine va rfl rfl rfl (q_move (v := .bool ((decide (d_8 < 16)) && z16)) rfl (by kernel_rfl)) ?_
  refine vg1 rfl rfl rfl rfl rfl (fun hg18 => QV.qo (q_move (v := .slice Apath path.length cpath) rfl (by kernel_rfl))) ?_
  refine vg1 rfl rfl rfl rfl rfl (fun hg19 => QV.qo (q_len_slice rfl Tryz.underlying24 (gu hg19 rfl))) ?_
  refine vg1 rfl rfl rfl rfl rfl (fun hg20 => QV.qo (q_lss rfl (gu hg20 rfl) rfl)) ?_
  refine va rfl rfl rfl (q_pick rfl rfl (pk_and' (g := ((decide (d_8 < 16)) && z16)) (y := (decide (((path.length : Nat) : Int) < 2))))) ?_
  refine WR.nil ?_
  change WC _ _ _ _ _ _
  refine WC.cif h (by kernel_rfl) (fun hb21 h => ?_) (fun hb21 h => ?_)
  · skip
    refine WC.skip ?_
    change WC _ _ _ _ _ _
    refine WC.seq ?_
    refine WC.block ?_
    refine WC.region ?_
    refine va rfl rfl rfl (q_move (v := .slice A4 out_3.length c5) rfl (by kernel_rfl)) ?_
    refine va rfl rfl rfl (q_move (v := .slice Aall all.length call) rfl (by kernel_rfl)) ?_
    refine va rfl rfl rfl (q_move (v := .slice Apath path.length cpath) rfl (by kernel_rfl)) ?_
    refine va rfl rfl rfl (q_move (v := .int .i64 d_8) rfl (by kernel_rfl)) ?_
    obtain ⟨z22, hz23, h⟩ := bnd h
    refine e_call (is := []) rfl rfl (call_run Tryz.call57 rfl rfl (by kernel_rfl)) rfl (fun w hp => t_firthref11_longer (hpath.mono hl2) hpathc d_8 hr9 hp hz23) ?_
    rintro Γ24 U26 v27 hl25 ⟨A28, c29, row30, rfl, rfl, hr31, _⟩
    change WR _ _ _ (CC F Γ24 [row30, row6]) _ _ (upd _ 24 (.slice A28 z22.length c29))
    obtain ⟨z32, hz33, h⟩ := bnd h
    refine vc rfl rfl rfl (q_call (call_run Tryz.call56 rfl rfl (by kernel_rfl)) (fun w hw => t_firthref11_Hash (Γ := Gh.all w) ((hall.mono (hl2.trans hl25)).mono hw.sat.le_all) hallc (hr31.sl hw.sat.le_all (hw.ra 0 rfl)) hr31.capz (Sat.all w) hz33)) ?_
    refine e_buildSlice (cs := #[.int .u64 z32]) (e := 78) rfl rfl rfl rfl (fun w => by kernel_rfl) ?_
    intro g34
    obtain ⟨hk35, h⟩ := chk_some h
    obtain ⟨hk36, h⟩ := chk_some h
    refine e_append (T := u64T) (xs := out_3) (ys := [z32]) elem_33 (i := 2) rfl rfl rfl rfl rfl rfl rfl (ho7.mono hl25) (of_decide_eq_true hk36) (fun w hw => src_one (T := u64T) (y := z32) (i := 0) rfl (by exact ⟨rfl, (u64b_of hk35)⟩) hw) ?_
    intro row37 A38 c39 ho40
    refine va rfl rfl rfl (q_assign (v := .slice A38 (out_3 ++ [z32]).length c39) rfl (by kernel_rfl)) ?_
    refine WR.nil ?_
    change WC _ _ _ _ _ _
    refine WC.region ?_
    refine va rfl rfl rfl (q_move (v := .int .i64 d_8) rfl (by kernel_rfl)) ?_
    refine va rfl rfl rfl (q_add rfl rfl rfl) ?_
    refine va rfl rfl rfl (q_assign (v := .int .i64 (w64 (d_8 + 1))) rfl (by kernel_rfl)) ?_
    refine WR.nil ?_
    intro w hw
    exact ⟨((out_3 ++ [z32]), (w64 (d_8 + 1))), h, Γ24, A38, c39, row37, (sl_ (by kernel_rfl)), (hw.only (is := [2]) rfl), (hl2.trans hl25), ho40, (w64_r _), trivial⟩
  · skip
    refine WC.exit ?_
    change WC _ _ _ _ _ _
    refine WC.rs ?_
    refine va rfl rfl rfl (q_move (v := .slice A4 out_3.length c5) rfl (by kernel_rfl)) ?_
    refine va rfl rfl rfl (q_assign (v := .slice A4 out_3.length c5) rfl (by kernel_rfl)) ?_
    refine WR.nil ?_
    change WC _ _ _ _ _ _
    refine WC.ret ?_
    intro w hw
    obtain rfl := Option.some.inj h
    subst hF
    exact end_e (is := [0]) (by kernel_rfl) hw rfl ⟨A4, c5, row6, rfl, rfl, ho7, trivial⟩
abbrev r_firthref19_Cut_Want (gc_ : Nat) (ec_ : Nat) (rowc_ : Rowb) (r : (List Int) × (List Rec) × Bool) (U : List Rowb) (Γ : Gh) (v : Value) : Prop := ∃ (A0 : Option Addr), ∃ (c0 : Nat), ∃ (row0 : Rowb), ∃ (A1 : Option Addr), ∃ (c1 : Nat), ∃ (row1 : Rowb), v = .tuple #[.slice A0 r.1.length c0, .slice A1 r.2.1.length c1, .bool r.2.2] ∧ U = [rowc_, row0, row1] ∧ Own u64T Γ 78 row0 A0 c0 r.1 ∧ Own recT Γ 70 row1 A1 c1 r.2.1 ∧ True
set_option maxRecDepth 100000 in
set_option maxHeartbeats 400000 in
theorem t_firthref19_Cut_Want {Γ : Gh} {w0 : World} {gc_ ec_ : Nat} {rowc_ : Rowb} {c_ : Ofirthref19_Cut} (hc_ : Ofirthref19_Cut.ob ec_ Γ gc_ rowc_ c_) {Apath : Option Addr} {cpath : Nat} {path : List Int} (hpath : Sl intT Γ Apath path) (hpathc : path.length ≤ cpath) (hp : Pre [rowc_] Γ w0) {r : (List Int) × (List Rec) × Bool} (h : m_firthref19_Cut_Want c_ path = some r) : Calls Tryz.prog 14 #[.pointer (some ⟨gc_, 0, none⟩), .slice Apath path.length cpath] w0 (Outc Γ [rowc_] w0 (r_firthref19_Cut_Want gc_ ec_ rowc_ r)) := by
  refine calls_of (N := 30) (rs := [4, 5, 6]) (args := [.pointer (some ⟨gc_, 0, none⟩), .slice Apath path.length cpath]) Tryz.func14 rfl Tryz.ntmps14 Tryz.results14 rfl ?_
  obtain ⟨F, hF⟩ : ∃ F : Fm, F = ⟨ids [rowc_], w0, Γ⟩ := ⟨_, rfl⟩
  refine WC.here (C := CC F Γ [rowc_]) ?_ (hF ▸ hp.start)
  refine WC.rs ?_
  refine va rfl rfl rfl (q_assign (v := .slice none 0 0) rfl (by kernel_rfl)) ?_
  refine va rfl rfl rfl (q_assign (v := .slice none 0 0) rfl (by kernel_rfl)) ?_
  refine va rfl rfl rfl (q_assign (v := .bool false) rfl (by kernel_rfl)) ?_
  refine WR.nil ?_
  change WC _ _ _ _ _ _
  refine WC.seq ?_
  refine WC.rs ?_
  refine va rfl rfl rfl (q_move (v := .slice Apath path.length cpath) rfl (by kernel_rfl)) ?_
  obtain ⟨z1, hz2, h⟩ := bnd h
  refine vc rfl rfl rfl (q_call (call_run Tryz.call54 rfl rfl (by kernel_rfl)) (fun w hw => t_firthref11_Path (Γ := Gh.all w) (hpath.mono hw.sat.le_all) hpathc (Sat.all w) hz2)) ?_
  refine va rfl rfl rfl (q_not rfl rfl) ?_
  refine va rfl rfl rfl (q_move (v := .bool (!z1)) rfl (by kernel_rfl)) ?_
  refine vg0 rfl rfl rfl rfl rfl (fun hg3 => QV.qo (q_move (v := .slice Apath path.length cpath) rfl (by kernel_rfl))) ?_
  refine vg0 rfl rfl rfl rfl rfl (fun hg4 => QV.qo (q_len_slice rfl Tryz.underlying24 (gu hg4 rfl))) ?_
  refine vg0 rfl rfl rfl rfl rfl (fun hg5 => QV.qo (q_eql rfl (gu hg5 rfl) rfl)) ?_
  refine va rfl rfl rfl (q_pick rfl rfl (pk_or' (g := (!z1)) (y := (((path.length : Nat) : Int) == 0)))) ?_
  refine WR.nil ?_
  change WC _ _ _ _ _ _
  refine WC.cif h (by kernel_rfl) (fun hb6 h => ?_) (fun hb6 h => ?_)
  · skip
    refine WC.rs ?_
    refine va rfl rfl rfl (q_assign (v := .slice none 0 0) rfl (by kernel_rfl)) ?_
    refine va rfl rfl rfl (q_assign (v := .slice none 0 0) rfl (by kernel_rfl)) ?_
    refine va rfl rfl rfl (q_assign (v := .bool false) rfl (by kernel_rfl)) ?_
    refine WR.nil ?_
    change WC _ _ _ _ _ _
    refine WC.ret ?_
    intro w hw
    have hw := hw.pad
    have hw := hw.pad
    obtain rfl := Option.some.inj h
    subst hF
    exact end_e (is := [2, 1, 0]) (by kernel_rfl) hw rfl ⟨none, 0, [], none, 0, [], rfl, rfl, (Own.nil u64T _ 78), (Own.nil recT _ 70), trivial⟩
  · skip
    refine WC.skip ?_
    change WC _ _ _ _ _ _
    refine WC.seq ?_
    refine WC.rs ?_
    refine va rfl rfl rfl (q_move (v := .slice Apath path.length cpath) rfl (by kernel_rfl)) ?_
    refine va rfl rfl rfl (q_len_slice rfl Tryz.underlying24 rfl) ?_
    refine va rfl rfl rfl (q_eql rfl rfl rfl) ?_
    refine WR.nil ?_
    change WC _ _ _ _ _ _
    refine WC.cif h (by kernel_rfl) (fun hb7 h => ?_) (fun hb7 h => ?_)
    · skip
      refine WC.rs ?_
      refine va rfl rfl rfl (q_move (v := .pointer (some ⟨gc_, 0, none⟩)) rfl (by kernel_rfl)) ?_
      refine va rfl rfl rfl (q_nil (A := some ⟨gc_, 0, none⟩) rfl rfl rfl) ?_
      refine va rfl rfl rfl (q_fl 2 fld_41_2 rfl rfl rfl) ?_
      have hq := hc_
      obtain ⟨A1_8, c1_8, A2_8, c2_8, hrow_8, ho0_8, ho1_8, ho2_8, ho3_8, ho4_8, -⟩ := hq
      intro w hw; have hw := hw.unfold (i := 0) rfl hrow_8
      refine WR.here (C := CC F Γ [[(gc_, .cells #[.int .i64 c_.id, .slice A1_8 c_.vec.length c1_8, .slice A2_8 c_.all.length c2_8] ec_ (0, 0))]]) ?_ hw
      clear hw
      refine va rfl rfl rfl (q_ldl (i := 0) (v := .slice A2_8 c_.all.length c2_8) rfl rfl Tryz.isAgg23 rfl rfl) ?_
      refine va rfl rfl rfl (q_move (v := .slice Apath path.length cpath) rfl (by kernel_rfl)) ?_
      obtain ⟨z9, hz10, h⟩ := bnd h
      refine e_call (is := []) rfl rfl (call_run Tryz.call20 rfl rfl (by kernel_rfl)) rfl (fun w hp => t_firthref11_Kids ho4_8 ho3_8 hpath hpathc hp hz10) ?_
      rintro Γ11 U13 v14 hl12 ⟨A15, c16, row17, rfl, rfl, hr18, _⟩
      change WR _ _ _ (CC F Γ11 [row17, [(gc_, .cells #[.int .i64 c_.id, .slice A1_8 c_.vec.length c1_8, .slice A2_8 c_.all.length c2_8] ec_ (0, 0))]]) _ _ (upd _ 23 (.slice A15 z9.length c16))
      refine va rfl rfl rfl (q_assign (v := .slice A15 z9.length c16) rfl (by kernel_rfl)) ?_
      refine va rfl rfl rfl (q_assign (v := .slice none 0 0) rfl (by kernel_rfl)) ?_
      refine va rfl rfl rfl (q_assign (v := .bool true) rfl (by kernel_rfl)) ?_
      refine WR.nil ?_
      change WC _ _ _ _ _ _
      refine WC.ret ?_
      intro w hw
      have hw := hw.fold (is := [1]) rfl hrow_8
      have hw := hw.pad
      obtain rfl := Option.some.inj h
      subst hF
      exact end_e (is := [1, 1, 0]) (by kernel_rfl) hw rfl ⟨A15, c16, row17, none, 0, [], rfl, rfl, hr18, (Own.nil recT _ 70), trivial⟩
    · skip
      refine WC.skip ?_
      change WC _ _ _ _ _ _
      refine WC.rs ?_
      refine va rfl rfl rfl (q_move (v := .pointer (some ⟨gc_, 0, none⟩)) rfl (by kernel_rfl)) ?_
      refine va rfl rfl rfl (q_nil (A := some ⟨gc_, 0, none⟩) rfl rfl rfl) ?_
      refine va rfl rfl rfl (q_fl 2 fld_41_2 rfl rfl rfl) ?_
      have hq := hc_
      obtain ⟨A1_20, c1_20, A2_20, c2_20, hrow_20, ho0_20, ho1_20, ho2_20, ho3_20, ho4_20, -⟩ := hq
      intro w hw; have hw := hw.unfold (i := 0) rfl hrow_20
      refine WR.here (C := CC F Γ [[(gc_, .cells #[.int .i64 c_.id, .slice A1_20 c_.vec.length c1_20, .slice A2_20 c_.all.length c2_20] ec_ (0, 0))]]) ?_ hw
      clear hw
      refine va rfl rfl rfl (q_ldl (i := 0) (v := .slice A2_20 c_.all.length c2_20) rfl rfl Tryz.isAgg23 rfl rfl) ?_
      refine va rfl rfl rfl (q_move (v := .slice Apath path.length cpath) rfl (by kernel_rfl)) ?_
      obtain ⟨z21, hz22, h⟩ := bnd h
      refine e_call (is := []) rfl rfl (call_run Tryz.call55 rfl rfl (by kernel_rfl)) rfl (fun w hp => t_firthref11_Recs ho4_20 ho3_20 hpath hpathc hp hz22) ?_
      rintro Γ23 U25 v26 hl24 ⟨A27, c28, row29, rfl, rfl, hr30, _⟩
      change WR _ _ _ (CC F Γ23 [row29, [(gc_, .cells #[.int .i64 c_.id, .slice A1_20 c_.vec.length c1_20, .slice A2_20 c_.all.length c2_20] ec_ (0, 0))]]) _ _ (upd _ 29 (.slice A27 z21.length c28))
      refine va rfl rfl rfl (q_assign (v := .slice none 0 0) rfl (by kernel_rfl)) ?_
      refine va rfl rfl rfl (q_assign (v := .slice A27 z21.length c28) rfl (by kernel_rfl)) ?_
      refine va rfl rfl rfl (q_assign (v := .bool true) rfl (by kernel_rfl)) ?_
      refine WR.nil ?_
      change WC _ _ _ _ _ _
      refine WC.ret ?_
      intro w hw
      have hw := hw.fold (is := [1]) rfl hrow_20
      have hw := hw.pad
      obtain rfl := Option.some.inj h
      subst hF
      exact end_e (is := [1, 0, 0]) (by kernel_rfl) hw rfl ⟨none, 0, [], A27, c28, row29, rfl, rfl, (Own.nil u64T _ 78), hr30, trivial⟩
set_option maxRecDepth 100000 in
set_option maxHeartbeats 400000 in
theorem t_firthref06_Hashes {Γ : Gh} {w0 : World} {Aa : Option Addr} {ca : Nat} {a : List Int} (ha : Sl u64T Γ Aa a) (hac : a.length ≤ ca) {Ab : Option Addr} {cb : Nat} {b : List Int} (hb : Sl u64T Γ Ab b) (hbc : b.length ≤ cb) (hs : Sat Γ w0) {r : Bool} (h : m_firthref06_Hashes a b = some r) : Calls Tryz.prog 15 #[.slice Aa a.length ca, .slice Ab b.length cb] w0 (fun e w' => e = .returned (.bool r) ∧ Fr no w0 w') := by
  refine calls_of (N := 26) (rs := [4]) (args := [.slice Aa a.length ca, .slice Ab b.length cb]) Tryz.func15 rfl Tryz.ntmps15 Tryz.results15 rfl ?_
  obtain ⟨F, hF⟩ : ∃ F : Fm, F = ⟨no, w0, Γ⟩ := ⟨_, rfl⟩
  refine WC.here (C := CC F Γ []) ?_ (hF ▸ Cur.start0 hs)
  refine WC.rs ?_
  refine va rfl rfl rfl (q_assign (v := .bool false) rfl (by kernel_rfl)) ?_
  refine WR.nil ?_
  change WC _ _ _ _ _ _
  refine WC.seq ?_
  refine WC.rs ?_
  refine va rfl rfl rfl (q_move (v := .slice Aa a.length ca) rfl (by kernel_rfl)) ?_
  refine va rfl rfl rfl (q_len_slice rfl Tryz.underlying33 rfl) ?_
  refine va rfl rfl rfl (q_move (v := .slice Ab b.length cb) rfl (by kernel_rfl)) ?_
  refine va rfl rfl rfl (q_len_slice rfl Tryz.underlying33 rfl) ?_
  refine va rfl rfl rfl (q_neq rfl rfl rfl) ?_
  refine WR.nil ?_
  change WC _ _ _ _ _ _
  refine WC.cif h (by kernel_rfl) (fun hb1 h => ?_) (fun hb1 h => ?_)
  · skip
    refine WC.rs ?_
    refine va rfl rfl rfl (q_assign (v := .bool false) rfl (by kernel_rfl)) ?_
    refine WR.nil ?_
    change WC _ _ _ _ _ _
    refine WC.ret ?_
    intro w hw
    obtain rfl := Option.some.inj h
    subst hF
    exact ⟨by kernel_rfl, hw.fr⟩
  · skip
    refine WC.skip ?_
    change WC _ _ _ _ _ _
    refine WC.seq ?_
    refine WC.rs ?_
    refine va rfl rfl rfl (q_assign (v := .int .i64 0) rfl (by kernel_rfl)) ?_
    refine WR.nil ?_
    change WC _ _ _ _ _ _
    refine WC.block ?_
    refine WC.forI h (fun (i3 : Nat) (s : Unit) σ w => match s with | () => slots σ [(0, .slice Aa a.length ca), (1, .slice Ab b.length cb), (5, .int .i64 ((i3 : Nat) : Int))] ∧ CC F Γ [] w ∧ True) ?_ ?_
    · skip
      intro w hw
      exact ⟨(sl_ (by kernel_rfl)), hw, trivial⟩
    rintro f2 i3 ⟨⟩ σ w hi4 hlt5 hge6 ⟨hsl, hw, -⟩
    refine Wpt.slots hsl ?_
    refine WC.here (C := CC F Γ []) ?_ hw
    clear hw hsl
    refine WC.seq ?_
    refine WC.rs ?_
    refine va rfl rfl rfl (q_move (v := .int .i64 ((i3 : Nat) : Int)) rfl (by kernel_rfl)) ?_
    refine va rfl rfl rfl (q_move (v := .slice Aa a.length ca) rfl (by kernel_rfl)) ?_
    refine va rfl rfl rfl (q_len_slice rfl Tryz.underlying33 rfl) ?_
    refine va rfl rfl rfl (q_lss rfl rfl rfl) ?_
    refine WR.nil ?_
    change WC _ _ _ _ _ _
    refine WC.cond (b := (decide (((i3 : Nat) : Int) < ((a.length : Nat) : Int)))) (by kernel_rfl) (fun hb7 => ?_) (fun hb7 => ?_)
    · skip
      have hl8 := ilt hb7
      have h := hlt5 hl8
      refine WC.skip ?_
      change WC _ _ _ _ _ _
      refine WC.seq ?_
      refine WC.block ?_
      refine WC.seq ?_
      refine WC.dr (by kernel_rfl) (by kernel_rfl) (fun w hw => hw.drawn _) ?_
      refine wa rfl rfl rfl (q_move (v := .slice Aa a.length ca) rfl (by kernel_rfl)) ?_
      refine wa rfl rfl rfl (q_move (v := .int .i64 ((i3 : Nat) : Int)) rfl (by kernel_rfl)) ?_
      refine wa rfl rfl rfl (q_ixn (i := i3) Tryz.underlying33 Tryz.sizeOf78 rfl rfl rfl hl8 (ha.some_ hl8)) ?_
      refine wa rfl rfl rfl (q_ld (c := 0) (v := .int .u64 (gt a i3)) (ha.u64T_at hl8).2 rfl Tryz.isAgg78 rfl rfl) ?_
      refine wa rfl rfl rfl (q_move (v := .slice Ab b.length cb) rfl (by kernel_rfl)) ?_
      refine wa rfl rfl rfl (q_move (v := .int .i64 ((i3 : Nat) : Int)) rfl (by kernel_rfl)) ?_
      obtain ⟨hk9, h⟩ := chk_some h
      refine wa rfl rfl rfl (q_ixn (i := i3) Tryz.underlying33 Tryz.sizeOf78 rfl rfl rfl (of_decide_eq_true hk9) (hb.some_ (of_decide_eq_true hk9))) ?_
      refine wa rfl rfl rfl (q_ld (c := 0) (v := .int .u64 (gt b i3)) (hb.u64T_at (of_decide_eq_true hk9)).2 rfl Tryz.isAgg78 rfl rfl) ?_
      refine wa rfl rfl rfl (q_neq rfl rfl rfl) ?_
      refine WQ.nil ?_
      change WC _ _ _ _ _ _
      refine WC.cif h (by kernel_rfl) (fun hb10 h => ?_) (fun hb10 h => ?_)
      · skip
        refine WC.rs ?_
        refine va rfl rfl rfl (q_assign (v := .bool false) rfl (by kernel_rfl)) ?_
        refine WR.nil ?_
        change WC _ _ _ _ _ _
        refine WC.ret ?_
        intro w hw
        obtain rfl := Option.some.inj h
        subst hF
        exact ⟨by kernel_rfl, hw.fr⟩
      · skip
        refine WC.skip ?_
        change WC _ _ _ _ _ _
        refine WC.region ?_
        refine va rfl rfl rfl (q_move (v := .int .i64 ((i3 : Nat) : Int)) rfl (by kernel_rfl)) ?_
        refine va rfl rfl rfl (q_add_r (r := ((i3 + 1 : Nat) : Int)) rfl rfl rfl (ctr_len hl8 ha.le)) ?_
        refine va rfl rfl rfl (q_assign (v := .int .i64 ((i3 + 1 : Nat) : Int)) rfl (by kernel_rfl)) ?_
        refine WR.nil ?_
        intro w hw
        exact ⟨hl8, (), h, (sl_ (by kernel_rfl)), hw, trivial⟩
    · skip
      have h := hge6 (ige hb7)
      refine WC.exit ?_
      change WC _ _ _ _ _ _
      refine WC.rs ?_
      refine va rfl rfl rfl (q_assign (v := .bool true) rfl (by kernel_rfl)) ?_
      refine WR.nil ?_
      change WC _ _ _ _ _ _
      refine WC.ret ?_
      intro w hw
      obtain rfl := Option.some.inj h
      subst hF
      exact ⟨by kernel_rfl, hw.fr⟩
set_option maxRecDepth 100000 in
set_option maxHeartbeats 400000 in
theorem t_firthlaw19_PullCuts {Γ : Gh} {w0 : World} {Avec : Option Addr} {cvec : Nat} {vec : List Int} (hvec : Sl intT Γ Avec vec) (hvecc : vec.length ≤ cvec) {Alist : Option Addr} {clist : Nat} {list : List Rec} (hlist : Sl recT Γ Alist list) (hlistc : list.length ≤ clist) {Apath : Option Addr} {cpath : Nat} {path : List Int} (hpath : Sl intT Γ Apath path) (hpathc : path.length ≤ cpath) (hs : Sat Γ w0) {r : Bool} (h : m_firthlaw19_PullCuts vec list path = some r) : Calls Tryz.prog 3 #[.slice Avec vec.length cvec, .slice Alist list.length clist, .slice Apath path.length cpath] w0 (fun e w' => e = .returned (.bool r) ∧ Fr no w0 w') := by
  refine calls_of (N := 100) (rs := [6]) (args := [.slice Avec vec.length cvec, .slice Alist list.length clist, .slice Apath path.length cpath]) Tryz.func3 rfl Tryz.ntmps3 Tryz.results3 rfl ?_
  obtain ⟨F, hF⟩ : ∃ F : Fm, F = ⟨no, w0, Γ⟩ := ⟨_, rfl⟩
  refine WC.here (C := CC F Γ []) ?_ (hF ▸ Cur.start0 hs)
  refine WC.rs ?_
  refine va rfl rfl rfl (q_assign (v := .bool false) rfl (by kernel_rfl)) ?_
  refine WR.nil ?_
  change WC _ _ _ _ _ _
  refine WC.rs ?_
  refine va rfl rfl rfl (q_move (v := .slice Avec vec.length cvec) rfl (by kernel_rfl)) ?_
  refine va rfl rfl rfl (q_move (v := .slice Alist list.length clist) rfl (by kernel_rfl)) ?_
  obtain ⟨z1, hz2, h⟩ := bnd h
  refine e_call (is := []) rfl rfl (call_run Tryz.call10 rfl rfl (by kernel_rfl)) rfl (fun w hp => t_pull_NewCut 7 (show I64 7 by decide) hvec hvecc hlist hlistc hp hz2) ?_
  rintro Γ3 U5 v6 hl4 ⟨g7, row8, rfl, rfl, hr9, hr10, _⟩
  change WR _ _ _ (CC F Γ3 [row8]) _ _ (upd _ 20 (.tuple #[optp z1.1 g7, .int .i64 z1.2]))
  refine va rfl rfl rfl (q_move (v := .tuple #[optp z1.1 g7, .int .i64 z1.2]) rfl (by kernel_rfl)) ?_
  refine va rfl rfl rfl (q_extract (v := optp z1.1 g7) rfl rfl rfl) ?_
  refine va rfl rfl rfl (q_extract (v := .int .i64 z1.2) rfl rfl rfl) ?_
  refine va rfl rfl rfl (q_assign (v := optp z1.1 g7) rfl (by kernel_rfl)) ?_
  refine va rfl rfl rfl (q_assign (v := .int .i64 z1.2) rfl (by kernel_rfl)) ?_
  refine WR.nil ?_
  change WC _ _ _ _ _ _
  refine WC.rs ?_
  refine va rfl rfl rfl (q_move (v := .slice Avec vec.length cvec) rfl (by kernel_rfl)) ?_
  refine va rfl rfl rfl (q_move (v := .slice Alist list.length clist) rfl (by kernel_rfl)) ?_
  obtain ⟨z11, hz12, h⟩ := bnd h
  refine e_call (is := []) rfl rfl (call_run Tryz.call11 rfl rfl (by kernel_rfl)) rfl (fun w hp => t_firthref19_NewCut 7 (show I64 7 by decide) (hvec.mono hl4) hvecc (hlist.mono hl4) hlistc hp hz12) ?_
  rintro Γ13 U15 v16 hl14 ⟨g17, row18, rfl, rfl, hr19, hr20, _⟩
  change WR _ _ _ (CC F Γ13 [row18, row8]) _ _ (upd _ 26 (.tuple #[optp z11.1 g17, .int .i64 z11.2]))
  refine va rfl rfl rfl (q_move (v := .tuple #[optp z11.1 g17, .int .i64 z11.2]) rfl (by kernel_rfl)) ?_
  refine va rfl rfl rfl (q_extract (v := optp z11.1 g17) rfl rfl rfl) ?_
  refine va rfl rfl rfl (q_extract (v := .int .i64 z11.2) rfl rfl rfl) ?_
  refine va rfl rfl rfl (q_assign (v := optp z11.1 g17) rfl (by kernel_rfl)) ?_
  refine va rfl rfl rfl (q_assign (v := .int .i64 z11.2) rfl (by kernel_rfl)) ?_
  refine WR.nil ?_
  change WC _ _ _ _ _ _
  refine WC.seq ?_
  refine WC.rs ?_
  obtain ⟨z21, hz22, h⟩ := bnd h
  refine vc rfl rfl rfl (q_call (call_run Tryz.call12 rfl rfl (by kernel_rfl)) (fun w hw => t_firthlaw19_awake (Γ := Gh.all w)  (Sat.all w) hz22)) ?_
  refine va rfl rfl rfl (q_not rfl rfl) ?_
  refine va rfl rfl rfl (q_move (v := .bool (!z21)) rfl (by kernel_rfl)) ?_
  refine vg0 rfl rfl rfl rfl rfl (fun hg23 => QV.qo (q_move (v := .int .i64 z1.2) rfl (by kernel_rfl))) ?_
  refine vg0 rfl rfl rfl rfl rfl (fun hg24 => QV.qo (q_move (v := .int .i64 z11.2) rfl (by kernel_rfl))) ?_
  refine vg0 rfl rfl rfl rfl rfl (fun hg25 => QV.qo (q_neq rfl (gu hg25 rfl) (gu hg25 rfl))) ?_
  refine va rfl rfl rfl (q_pick rfl rfl (pk_or' (g := (!z21)) (y := (z1.2 != z11.2)))) ?_
  refine va rfl rfl rfl (q_move (v := .bool ((!z21) || (z1.2 != z11.2))) rfl (by kernel_rfl)) ?_
  refine vg0 rfl rfl rfl rfl rfl (fun hg26 => QV.qo (q_move (v := optp z1.1 g7) rfl (by kernel_rfl))) ?_
  refine vg0 rfl rfl rfl rfl rfl (fun hg27 => QV.qo (q_opt_eql Tryz.underlying25 rfl (gu hg27 rfl) rfl)) ?_
  refine vg0 rfl rfl rfl rfl rfl (fun hg28 => QV.qo (q_move (v := optp z11.1 g17) rfl (by kernel_rfl))) ?_
  refine vg0 rfl rfl rfl rfl rfl (fun hg29 => QV.qo (q_opt_eql Tryz.underlying29 rfl (gu hg29 rfl) rfl)) ?_
  refine vg0 rfl rfl rfl rfl rfl (fun hg30 => QV.qo (q_bneq Tryz.underlying4 rfl (gu hg30 rfl) (gu hg30 rfl))) ?_
  refine va rfl rfl rfl (q_pick rfl rfl (pk_or' (g := ((!z21) || (z1.2 != z11.2))) (y := ((Option.isNone z1.1) != (Option.isNone z11.1))))) ?_
  refine WR.nil ?_
  change WC _ _ _ _ _ _
  refine WC.cif h (by kernel_rfl) (fun hb31 h => ?_) (fun hb31 h => ?_)
  · skip
    refine WC.rs ?_
    refine va rfl rfl rfl (q_assign (v := .bool false) rfl (by kernel_rfl)) ?_
    refine WR.nil ?_
    change WC _ _ _ _ _ _
    refine WC.ret ?_
    intro w hw
    obtain rfl := Option.some.inj h
    subst hF
    exact ⟨by kernel_rfl, hw.fr⟩
  · skip
    refine WC.skip ?_
    change WC _ _ _ _ _ _
    refine WC.seq ?_
    refine WC.rs ?_
    refine va rfl rfl rfl (q_move (v := optp z1.1 g7) rfl (by kernel_rfl)) ?_
    refine va rfl rfl rfl (q_opt_eql Tryz.underlying25 rfl rfl rfl) ?_
    refine va rfl rfl rfl (q_move (v := .bool (Option.isNone z1.1)) rfl (by kernel_rfl)) ?_
    refine vg0 rfl rfl rfl rfl rfl (fun hg32 => QV.qo (q_move (v := optp z11.1 g17) rfl (by kernel_rfl))) ?_
    refine vg0 rfl rfl rfl rfl rfl (fun hg33 => QV.qo (q_opt_eql Tryz.underlying29 rfl (gu hg33 rfl) rfl)) ?_
    refine va rfl rfl rfl (q_pick rfl rfl (pk_or' (g := (Option.isNone z1.1)) (y := (Option.isNone z11.1)))) ?_
    refine WR.nil ?_
    change WC _ _ _ _ _ _
    refine WC.cif h (by kernel_rfl) (fun hb34 h => ?_) (fun hb34 h => ?_)
    · skip
      refine WC.rs ?_
      refine va rfl rfl rfl (q_assign (v := .bool true) rfl (by kernel_rfl)) ?_
      refine WR.nil ?_
      change WC _ _ _ _ _ _
      refine WC.ret ?_
      intro w hw
      obtain rfl := Option.some.inj h
      subst hF
      exact ⟨by kernel_rfl, hw.fr⟩
    · skip
      obtain ⟨z35, hz36, h⟩ := bnd h
      have ho37 := optob_some hr19 hz36
      obtain ⟨z38, hz39, h⟩ := bnd h
      have ho40 := optob_some (optob_mono hr9 (fun _ h => h.mono hl14)) hz39
      refine WC.skip ?_
      change WC _ _ _ _ _ _
      refine WC.rs ?_
      refine va rfl rfl rfl (q_move (v := .pointer (some ⟨g7, 0, none⟩)) rfl (optp_some rfl hz39)) ?_
      refine va rfl rfl rfl (q_move (v := .slice Apath path.length cpath) rfl (by kernel_rfl)) ?_
      obtain ⟨z41, hz42, h⟩ := bnd h
      refine e_call (is := [1]) rfl rfl (call_run Tryz.call13 rfl rfl (by kernel_rfl)) rfl (fun w hp => t_pull_Cut_Want ho40 (hpath.mono (hl4.trans hl14)) hpathc hp hz42) ?_
      rintro Γ43 U45 v46 hl44 ⟨row47, A49, c50, row51, A53, c54, row55, rfl, rfl, hr48, hr52, hr56, _⟩
      change WR _ _ _ (CC F Γ43 [row47, row51, row55, row18]) _ _ (upd _ 52 (.tuple #[.slice A49 z41.2.1.length c50, .slice A53 z41.2.2.1.length c54, .bool z41.2.2.2]))
      refine va rfl rfl rfl (q_move (v := .tuple #[.slice A49 z41.2.1.length c50, .slice A53 z41.2.2.1.length c54, .bool z41.2.2.2]) rfl (by kernel_rfl)) ?_
      refine va rfl rfl rfl (q_extract (v := .slice A49 z41.2.1.length c50) rfl rfl rfl) ?_
      refine va rfl rfl rfl (q_extract (v := .slice A53 z41.2.2.1.length c54) rfl rfl rfl) ?_
      refine va rfl rfl rfl (q_extract (v := .bool z41.2.2.2) rfl rfl rfl) ?_
      refine va rfl rfl rfl (q_assign (v := .slice A49 z41.2.1.length c50) rfl (by kernel_rfl)) ?_
      refine va rfl rfl rfl (q_assign (v := .slice A53 z41.2.2.1.length c54) rfl (by kernel_rfl)) ?_
      refine va rfl rfl rfl (q_assign (v := .bool z41.2.2.2) rfl (by kernel_rfl)) ?_
      refine WR.nil ?_
      change WC _ _ _ _ _ _
      refine WC.rs ?_
      refine va rfl rfl rfl (q_move (v := .pointer (some ⟨g17, 0, none⟩)) rfl (optp_some rfl hz36)) ?_
      refine va rfl rfl rfl (q_move (v := .slice Apath path.length cpath) rfl (by kernel_rfl)) ?_
      obtain ⟨z57, hz58, h⟩ := bnd h
      refine e_call (is := [3]) rfl rfl (call_run Tryz.call14 rfl rfl (by kernel_rfl)) rfl (fun w hp => t_firthref19_Cut_Want (ho37.mono hl44) (hpath.mono ((hl4.trans hl14).trans hl44)) hpathc hp hz58) ?_
      rintro Γ59 U61 v62 hl60 ⟨A63, c64, row65, A67, c68, row69, rfl, rfl, hr66, hr70, _⟩
      change WR _ _ _ (CC F Γ59 [row18, row65, row69, row47, row51, row55]) _ _ (upd _ 59 (.tuple #[.slice A63 z57.1.length c64, .slice A67 z57.2.1.length c68, .bool z57.2.2]))
      refine va rfl rfl rfl (q_move (v := .tuple #[.slice A63 z57.1.length c64, .slice A67 z57.2.1.length c68, .bool z57.2.2]) rfl (by kernel_rfl)) ?_
      refine va rfl rfl rfl (q_extract (v := .slice A63 z57.1.length c64) rfl rfl rfl) ?_
      refine va rfl rfl rfl (q_extract (v := .slice A67 z57.2.1.length c68) rfl rfl rfl) ?_
      refine va rfl rfl rfl (q_extract (v := .bool z57.2.2) rfl rfl rfl) ?_
      refine va rfl rfl rfl (q_assign (v := .slice A63 z57.1.length c64) rfl (by kernel_rfl)) ?_
      refine va rfl rfl rfl (q_assign (v := .slice A67 z57.2.1.length c68) rfl (by kernel_rfl)) ?_
      refine va rfl rfl rfl (q_assign (v := .bool z57.2.2) rfl (by kernel_rfl)) ?_
      refine WR.nil ?_
      change WC _ _ _ _ _ _
      refine WC.seq ?_
      have hq := (ho37.mono (hl44.trans hl60))
      obtain ⟨A1_71, c1_71, A2_71, c2_71, hrow_71, ho0_71, ho1_71, ho2_71, ho3_71, ho4_71, -⟩ := hq
      intro w hw; have hw := hw.unfold (i := 0) rfl hrow_71
      refine WC.here (C := CC F Γ59 [[(g17, .cells #[.int .i64 z35.id, .slice A1_71 z35.vec.length c1_71, .slice A2_71 z35.all.length c2_71] 41 (0, 0))], row65, row69, row47, row51, row55]) ?_ hw
      clear hw
      intro w hw; have h072 := hw.le
      refine WC.here (C := CC F Γ59 [[(g17, .cells #[.int .i64 z35.id, .slice A1_71 z35.vec.length c1_71, .slice A2_71 z35.all.length c2_71] 41 (0, 0))], row65, row69, row47, row51, row55]) ?_ hw; clear hw
      refine WC.held (CC F Γ59 [[(g17, .cells #[.int .i64 z35.id, .slice A1_71 z35.vec.length c1_71, .slice A2_71 z35.all.length c2_71] 41 (0, 0))], row65, row69, row51, row55]) (by kernel_rfl) (fun w hw => hw.drawn _) ?_
      change WH _ _ _ _ (CC F Γ59 [[(g17, .cells #[.int .i64 z35.id, .slice A1_71 z35.vec.length c1_71, .slice A2_71 z35.all.length c2_71] 41 (0, 0))], row65, row69, row47, row51, row55]) _ 38 #[false, false, false, false, false, false, false, false, false, false, false, false, false, false, false, false, false, false, false, false, false, false, false, false, false, false, false, false, false, false, false, false, false, false, false, false, false, false] _
      refine ht (i := 0) rfl (by kernel_rfl) rfl rfl rfl (fun w hw => hw.back (Gh.refl _) h072 (.cons_cons _ (.cons_cons _ (.cons_cons _ (.cons _ (.cons_cons _ (.cons_cons _ .slnil))))))) (q_move (v := .bool z41.2.2.2) rfl (by kernel_rfl)) ?_
      refine ht (i := 1) rfl (by kernel_rfl) rfl rfl rfl (fun w hw => hw.back (Gh.refl _) h072 (.cons_cons _ (.cons_cons _ (.cons_cons _ (.cons _ (.cons_cons _ (.cons_cons _ .slnil))))))) (q_move (v := .bool z57.2.2) rfl (by kernel_rfl)) ?_
      refine ht (i := 2) rfl (by kernel_rfl) rfl rfl rfl (fun w hw => hw.back (Gh.refl _) h072 (.cons_cons _ (.cons_cons _ (.cons_cons _ (.cons _ (.cons_cons _ (.cons_cons _ .slnil))))))) (q_beql Tryz.underlying4 rfl rfl rfl) ?_
      refine ht (i := 3) rfl (by kernel_rfl) rfl rfl rfl (fun w hw => hw.back (Gh.refl _) h072 (.cons_cons _ (.cons_cons _ (.cons_cons _ (.cons _ (.cons_cons _ (.cons_cons _ .slnil))))))) (q_move (v := .bool (z41.2.2.2 == z57.2.2)) rfl (by kernel_rfl)) ?_
      refine hg1 (i := 4) rfl (by kernel_rfl) rfl rfl rfl rfl rfl (fun w hw => hw.back (Gh.refl _) h072 (.cons_cons _ (.cons_cons _ (.cons_cons _ (.cons _ (.cons_cons _ (.cons_cons _ .slnil))))))) (fun hg73 => (q_move (v := .slice A49 z41.2.1.length c50) rfl (by kernel_rfl))) ?_
      refine hg1 (i := 5) rfl (by kernel_rfl) rfl rfl rfl rfl rfl (fun w hw => hw.back (Gh.refl _) h072 (.cons_cons _ (.cons_cons _ (.cons_cons _ (.cons _ (.cons_cons _ (.cons_cons _ .slnil))))))) (fun hg74 => (q_move (v := .slice A63 z57.1.length c64) rfl (by kernel_rfl))) ?_
      refine WH.lone (i := 6) (by kernel_rfl) rfl ?_
      obtain ⟨z76, hz77, h⟩ := bnd h
      refine vg1 rfl rfl rfl rfl rfl (fun hg75 => (q_call (call_run Tryz.call15 rfl rfl (args2 (gu hg75 rfl) (gu hg75 rfl))) (fun w hw => t_firthref06_Hashes (Γ := Gh.all w) ((hr52.mono hl60).sl hw.sat.le_all (hw.ra 4 rfl)) (hr52.mono hl60).capz (hr66.sl hw.sat.le_all (hw.ra 1 rfl)) hr66.capz (Sat.all w) (gc_of hz77 hg75)))) ?_
      refine WR.nil ?_
      refine WH.next (fun w hw => hw.back (Gh.refl _) h072 (.cons_cons _ (.cons_cons _ (.cons_cons _ (.cons _ (.cons_cons _ (.cons_cons _ .slnil))))))) ?_
      refine ht (i := 7) rfl (by kernel_rfl) rfl rfl rfl (fun w hw => hw.back (Gh.refl _) h072 (.cons_cons _ (.cons_cons _ (.cons_cons _ (.cons _ (.cons_cons _ (.cons_cons _ .slnil))))))) (q_pick rfl rfl (pk_and' (g := (z41.2.2.2 == z57.2.2)) (y := z76))) ?_
      refine ht (i := 8) rfl (by kernel_rfl) rfl rfl rfl (fun w hw => hw.back (Gh.refl _) h072 (.cons_cons _ (.cons_cons _ (.cons_cons _ (.cons _ (.cons_cons _ (.cons_cons _ .slnil))))))) (q_move (v := .bool ((z41.2.2.2 == z57.2.2) && z76)) rfl (by kernel_rfl)) ?_
      refine hg1 (i := 9) rfl (by kernel_rfl) rfl rfl rfl rfl rfl (fun w hw => hw.back (Gh.refl _) h072 (.cons_cons _ (.cons_cons _ (.cons_cons _ (.cons _ (.cons_cons _ (.cons_cons _ .slnil))))))) (fun hg78 => (q_move (v := .slice A53 z41.2.2.1.length c54) rfl (by kernel_rfl))) ?_
      refine hg1 (i := 10) rfl (by kernel_rfl) rfl rfl rfl rfl rfl (fun w hw => hw.back (Gh.refl _) h072 (.cons_cons _ (.cons_cons _ (.cons_cons _ (.cons _ (.cons_cons _ (.cons_cons _ .slnil))))))) (fun hg79 => (q_move (v := .slice A67 z57.2.1.length c68) rfl (by kernel_rfl))) ?_
      refine WH.lone (i := 11) (by kernel_rfl) rfl ?_
      obtain ⟨z81, hz82, h⟩ := bnd h
      refine vg1 rfl rfl rfl rfl rfl (fun hg80 => (q_call (call_run Tryz.call16 rfl rfl (args2 (gu hg80 rfl) (gu hg80 rfl))) (fun w hw => t_firthref06_SameRecs (Γ := Gh.all w) ((hr56.mono hl60).sl hw.sat.le_all (hw.ra 5 rfl)) (hr56.mono hl60).capz (hr70.sl hw.sat.le_all (hw.ra 2 rfl)) hr70.capz (Sat.all w) (gc_of hz82 hg80)))) ?_
      refine WR.nil ?_
      refine WH.next (fun w hw => hw.back (Gh.refl _) h072 (.cons_cons _ (.cons_cons _ (.cons_cons _ (.cons _ (.cons_cons _ (.cons_cons _ .slnil))))))) ?_
      refine ht (i := 12) rfl (by kernel_rfl) rfl rfl rfl (fun w hw => hw.back (Gh.refl _) h072 (.cons_cons _ (.cons_cons _ (.cons_cons _ (.cons _ (.cons_cons _ (.cons_cons _ .slnil))))))) (q_pick rfl rfl (pk_and' (g := ((z41.2.2.2 == z57.2.2) && z76)) (y := z81))) ?_
      refine ht (i := 13) rfl (by kernel_rfl) rfl rfl rfl (fun w hw => hw.back (Gh.refl _) h072 (.cons_cons _ (.cons_cons _ (.cons_cons _ (.cons _ (.cons_cons _ (.cons_cons _ .slnil))))))) (q_move (v := .bool (((z41.2.2.2 == z57.2.2) && z76) && z81)) rfl (by kernel_rfl)) ?_
      refine hg1 (i := 14) rfl (by kernel_rfl) rfl rfl rfl rfl rfl (fun w hw => hw.back (Gh.refl _) h072 (.cons_cons _ (.cons_cons _ (.cons_cons _ (.cons _ (.cons_cons _ (.cons_cons _ .slnil))))))) (fun hg83 => (q_move (v := .pointer (some ⟨g7, 0, none⟩)) rfl (optp_some rfl hz39))) ?_
      refine hg1 (i := 16) rfl (by kernel_rfl) rfl rfl rfl rfl rfl (fun w hw => hw.back (Gh.refl _) h072 (.cons_cons _ (.cons_cons _ (.cons_cons _ (.cons _ (.cons_cons _ (.cons_cons _ .slnil))))))) (fun hg84 => (q_move (v := .pointer (some ⟨g17, 0, none⟩)) rfl (optp_some rfl hz36))) ?_
      refine hg1 (i := 17) rfl (by kernel_rfl) rfl rfl rfl rfl rfl (fun w hw => hw.back (Gh.refl _) h072 (.cons_cons _ (.cons_cons _ (.cons_cons _ (.cons _ (.cons_cons _ (.cons_cons _ .slnil))))))) (fun hg85 => (q_nil (A := some ⟨g17, 0, none⟩) rfl (gu hg85 rfl) rfl)) ?_
      refine hg1 (i := 18) rfl (by kernel_rfl) rfl rfl rfl rfl rfl (fun w hw => hw.back (Gh.refl _) h072 (.cons_cons _ (.cons_cons _ (.cons_cons _ (.cons _ (.cons_cons _ (.cons_cons _ .slnil))))))) (fun hg86 => (q_fl 1 fld_41_1 rfl (gu hg86 rfl) rfl)) ?_
      refine hg1 (i := 19) rfl (by kernel_rfl) rfl rfl rfl rfl rfl (fun w hw => hw.back (Gh.refl _) h072 (.cons_cons _ (.cons_cons _ (.cons_cons _ (.cons _ (.cons_cons _ (.cons_cons _ .slnil))))))) (fun hg87 => (q_ldl (i := 0) (v := .slice A1_71 z35.vec.length c1_71) rfl rfl Tryz.isAgg22 (gu hg87 rfl) rfl)) ?_
      refine (Bool.eq_false_or_eq_true (((z41.2.2.2 == z57.2.2) && z76) && z81)).elim (fun hb88 => ?_) (fun hb88 => ?_)
      · skip
        have h := bt hb88 h
        refine WH.lone (i := 15) (by kernel_rfl) rfl ?_
        refine WR.sat (c0 := true) (g := (((z41.2.2.2 == z57.2.2) && z76) && z81)) rfl rfl rfl hb88 ?_
        obtain ⟨z89, hz90, h⟩ := bnd h
        refine e_call (is := [3]) rfl rfl (call_run Tryz.call18 rfl rfl (args1 (gu hb88 rfl))) rfl (fun w hp => t_pull_Cut_Vec (hr48.mono hl60) hp hz90) ?_
        rintro Γ91 U93 v94 hl92 ⟨A95, c96, row97, rfl, rfl, hr98, _⟩
        change WR _ _ _ (CC F Γ91 [row47, row97, [(g17, .cells #[.int .i64 z35.id, .slice A1_71 z35.vec.length c1_71, .slice A2_71 z35.all.length c2_71] 41 (0, 0))], row65, row69, row51, row55]) _ _ (upd _ 78 (.slice A95 z89.length c96))
        refine WR.nil ?_
        refine WH.next (fun w hw => hw.back hl92 h072 (.cons _ (.cons _ (.cons_cons _ (.cons_cons _ (.cons_cons _ (.cons_cons _ (.cons_cons _ .slnil)))))))) ?_
        refine WH.lone (i := 20) (by kernel_rfl) rfl ?_
        obtain ⟨z100, hz101, h⟩ := bnd h
        refine vg1 rfl rfl rfl rfl rfl (fun hg99 => (q_call (call_run Tryz.call17 rfl rfl (args2 rfl (gu hg99 rfl))) (fun w hw => t_firthref04_Same (Γ := Gh.all w) (hr98.sl hw.sat.le_all (hw.ra 1 rfl)) hr98.capz ((ho2_71.mono hl92).mono hw.sat.le_all) ho1_71 (Sat.all w) (gc_of hz101 hg99)))) ?_
        refine WR.nil ?_
        refine WH.next (fun w hw => hw.back hl92 h072 (.cons _ (.cons _ (.cons_cons _ (.cons_cons _ (.cons_cons _ (.cons_cons _ (.cons_cons _ .slnil)))))))) ?_
        refine ht (i := 21) rfl (by kernel_rfl) rfl rfl rfl (fun w hw => hw.back hl92 h072 (.cons _ (.cons _ (.cons_cons _ (.cons_cons _ (.cons_cons _ (.cons_cons _ (.cons_cons _ .slnil)))))))) (q_pick_t (v := .bool z100) rfl rfl hb88 (gu hb88 rfl)) ?_
        refine ht (i := 22) rfl (by kernel_rfl) rfl rfl rfl (fun w hw => hw.back hl92 h072 (.cons _ (.cons _ (.cons_cons _ (.cons_cons _ (.cons_cons _ (.cons_cons _ (.cons_cons _ .slnil)))))))) (q_move (v := .bool z100) rfl (by kernel_rfl)) ?_
        refine hg1 (i := 23) rfl (by kernel_rfl) rfl rfl rfl rfl rfl (fun w hw => hw.back hl92 h072 (.cons _ (.cons _ (.cons_cons _ (.cons_cons _ (.cons_cons _ (.cons_cons _ (.cons_cons _ .slnil)))))))) (fun hg102 => (q_move (v := .pointer (some ⟨g7, 0, none⟩)) rfl (optp_some rfl hz39))) ?_
        refine hg1 (i := 25) rfl (by kernel_rfl) rfl rfl rfl rfl rfl (fun w hw => hw.back hl92 h072 (.cons _ (.cons _ (.cons_cons _ (.cons_cons _ (.cons_cons _ (.cons_cons _ (.cons_cons _ .slnil)))))))) (fun hg103 => (q_move (v := .pointer (some ⟨g17, 0, none⟩)) rfl (optp_some rfl hz36))) ?_
        refine hg1 (i := 26) rfl (by kernel_rfl) rfl rfl rfl rfl rfl (fun w hw => hw.back hl92 h072 (.cons _ (.cons _ (.cons_cons _ (.cons_cons _ (.cons_cons _ (.cons_cons _ (.cons_cons _ .slnil)))))))) (fun hg104 => (q_nil (A := some ⟨g17, 0, none⟩) rfl (gu hg104 rfl) rfl)) ?_
        refine hg1 (i := 27) rfl (by kernel_rfl) rfl rfl rfl rfl rfl (fun w hw => hw.back hl92 h072 (.cons _ (.cons _ (.cons_cons _ (.cons_cons _ (.cons_cons _ (.cons_cons _ (.cons_cons _ .slnil)))))))) (fun hg105 => (q_fl 2 fld_41_2 rfl (gu hg105 rfl) rfl)) ?_
        refine hg1 (i := 28) rfl (by kernel_rfl) rfl rfl rfl rfl rfl (fun w hw => hw.back hl92 h072 (.cons _ (.cons _ (.cons_cons _ (.cons_cons _ (.cons_cons _ (.cons_cons _ (.cons_cons _ .slnil)))))))) (fun hg106 => (q_ldl (i := 0) (v := .slice A2_71 z35.all.length c2_71) rfl rfl Tryz.isAgg23 (gu hg106 rfl) rfl)) ?_
        refine (Bool.eq_false_or_eq_true z100).elim (fun hb107 => ?_) (fun hb107 => ?_)
        · skip
          have h := bt hb107 h
          refine WH.lone (i := 24) (by kernel_rfl) rfl ?_
          refine WR.sat (c0 := true) (g := z100) rfl rfl rfl hb107 ?_
          obtain ⟨z108, hz109, h⟩ := bnd h
          refine e_call (is := [0]) rfl rfl (call_run Tryz.call19 rfl rfl (args1 (gu hb107 rfl))) rfl (fun w hp => t_pull_Cut_Open (hr48.mono (hl60.trans hl92)) hp hz109) ?_
          rintro Γ110 U112 v113 hl111 ⟨row114, A116, c117, row118, rfl, rfl, hr115, hr119, _⟩
          change WR _ _ _ (CC F Γ110 [row114, row118, row97, [(g17, .cells #[.int .i64 z35.id, .slice A1_71 z35.vec.length c1_71, .slice A2_71 z35.all.length c2_71] 41 (0, 0))], row65, row69, row51, row55]) _ _ (upd _ 87 (.slice A116 z108.2.length c117))
          refine WR.nil ?_
          refine WH.next (fun w hw => hw.back (hl92.trans hl111) h072 (.cons _ (.cons _ (.cons _ (.cons_cons _ (.cons_cons _ (.cons_cons _ (.cons_cons _ (.cons_cons _ .slnil))))))))) ?_
          refine WH.lone (i := 29) (by kernel_rfl) rfl ?_
          refine WR.sat (c0 := true) (g := z100) rfl rfl rfl hb107 ?_
          obtain ⟨z120, hz121, h⟩ := bnd h
          refine e_call (is := []) rfl rfl (call_run Tryz.call20 rfl rfl (args2 (gu hb107 rfl) rfl)) rfl (fun w hp => t_firthref11_Kids (ho4_71.mono (hl92.trans hl111)) ho3_71 (Sl.nil intT _ none) (Nat.zero_le 0) hp hz121) ?_
          rintro Γ122 U124 v125 hl123 ⟨A126, c127, row128, rfl, rfl, hr129, _⟩
          change WR _ _ _ (CC F Γ122 [row128, row114, row118, row97, [(g17, .cells #[.int .i64 z35.id, .slice A1_71 z35.vec.length c1_71, .slice A2_71 z35.all.length c2_71] 41 (0, 0))], row65, row69, row51, row55]) _ _ (upd _ 92 (.slice A126 z120.length c127))
          refine WR.nil ?_
          refine WH.next (fun w hw => hw.back ((hl92.trans hl111).trans hl123) h072 (.cons _ (.cons _ (.cons _ (.cons _ (.cons_cons _ (.cons_cons _ (.cons_cons _ (.cons_cons _ (.cons_cons _ .slnil)))))))))) ?_
          refine WH.lone (i := 30) (by kernel_rfl) rfl ?_
          obtain ⟨z131, hz132, h⟩ := bnd h
          refine vg1 rfl rfl rfl rfl rfl (fun hg130 => (q_call (call_run Tryz.call15 rfl rfl (by kernel_rfl)) (fun w hw => t_firthref06_Hashes (Γ := Gh.all w) ((hr119.mono hl123).sl hw.sat.le_all (hw.ra 2 rfl)) (hr119.mono hl123).capz (hr129.sl hw.sat.le_all (hw.ra 0 rfl)) hr129.capz (Sat.all w) (gc_of hz132 hg130)))) ?_
          refine WR.nil ?_
          refine WH.next (fun w hw => hw.back ((hl92.trans hl111).trans hl123) h072 (.cons _ (.cons _ (.cons _ (.cons _ (.cons_cons _ (.cons_cons _ (.cons_cons _ (.cons_cons _ (.cons_cons _ .slnil)))))))))) ?_
          refine ht (i := 31) rfl (by kernel_rfl) rfl rfl rfl (fun w hw => hw.back ((hl92.trans hl111).trans hl123) h072 (.cons _ (.cons _ (.cons _ (.cons _ (.cons_cons _ (.cons_cons _ (.cons_cons _ (.cons_cons _ (.cons_cons _ .slnil)))))))))) (q_pick_t (v := .bool z131) rfl rfl hb107 (gu hb107 rfl)) ?_
          refine ht (i := 32) rfl (by kernel_rfl) rfl rfl rfl (fun w hw => hw.back ((hl92.trans hl111).trans hl123) h072 (.cons _ (.cons _ (.cons _ (.cons _ (.cons_cons _ (.cons_cons _ (.cons_cons _ (.cons_cons _ (.cons_cons _ .slnil)))))))))) (q_move (v := .bool z131) rfl (by kernel_rfl)) ?_
          refine hg1 (i := 33) rfl (by kernel_rfl) rfl rfl rfl rfl rfl (fun w hw => hw.back ((hl92.trans hl111).trans hl123) h072 (.cons _ (.cons _ (.cons _ (.cons _ (.cons_cons _ (.cons_cons _ (.cons_cons _ (.cons_cons _ (.cons_cons _ .slnil)))))))))) (fun hg133 => (q_move (v := .pointer (some ⟨g7, 0, none⟩)) rfl (optp_some rfl hz39))) ?_
          refine WH.lone (i := 34) (by kernel_rfl) rfl ?_
          obtain ⟨z135, hz136, h⟩ := bnd h
          refine vg1 rfl rfl rfl rfl rfl (fun hg134 => (q_call (call_run Tryz.call21 rfl rfl (args1 (gu hg134 rfl))) (fun w hw => t_pull_Cut_Id (Γ := Gh.all w) ((hr115.mono hl123).mono hw.sat.le_all) (hw.ra 1 rfl) (Sat.all w) (gc_of hz136 hg134)))) ?_
          refine WR.nil ?_
          refine WH.next (fun w hw => hw.back ((hl92.trans hl111).trans hl123) h072 (.cons _ (.cons _ (.cons _ (.cons _ (.cons_cons _ (.cons_cons _ (.cons_cons _ (.cons_cons _ (.cons_cons _ .slnil)))))))))) ?_
          refine hg1 (i := 35) rfl (by kernel_rfl) rfl rfl rfl rfl rfl (fun w hw => hw.back ((hl92.trans hl111).trans hl123) h072 (.cons _ (.cons _ (.cons _ (.cons _ (.cons_cons _ (.cons_cons _ (.cons_cons _ (.cons_cons _ (.cons_cons _ .slnil)))))))))) (fun hg137 => (q_eql rfl (gu hg137 rfl) rfl)) ?_
          refine ht (i := 36) rfl (by kernel_rfl) rfl rfl rfl (fun w hw => hw.back ((hl92.trans hl111).trans hl123) h072 (.cons _ (.cons _ (.cons _ (.cons _ (.cons_cons _ (.cons_cons _ (.cons_cons _ (.cons_cons _ (.cons_cons _ .slnil)))))))))) (q_pick rfl rfl (pk_and' (g := z131) (y := (z135 == 7)))) ?_
          refine ht (i := 37) rfl (by kernel_rfl) rfl rfl rfl (fun w hw => hw.back ((hl92.trans hl111).trans hl123) h072 (.cons _ (.cons _ (.cons _ (.cons _ (.cons_cons _ (.cons_cons _ (.cons_cons _ (.cons_cons _ (.cons_cons _ .slnil)))))))))) (q_assign (v := .bool (z131 && (z135 == 7))) rfl (by kernel_rfl)) ?_
          refine WH.done (by kernel_rfl) ?_
          change WC _ _ _ _ _ _
          refine WC.ret ?_
          intro w hw
          obtain rfl := Option.some.inj h
          subst hF
          exact ⟨by kernel_rfl, hw.fr⟩
        · skip
          have h := bf hb107 h
          refine hg1 (g := z100) (i := 24) (v := undef) rfl (by kernel_rfl) rfl rfl rfl rfl rfl (fun w hw => hw.back hl92 h072 (.cons _ (.cons _ (.cons_cons _ (.cons_cons _ (.cons_cons _ (.cons_cons _ (.cons_cons _ .slnil)))))))) (no_tf hb107) ?_
          refine WH.env (v := undef) (gv_false hb107) ?_
          refine hg1 (g := z100) (i := 29) (v := undef) rfl (by kernel_rfl) rfl rfl rfl rfl rfl (fun w hw => hw.back hl92 h072 (.cons _ (.cons _ (.cons_cons _ (.cons_cons _ (.cons_cons _ (.cons_cons _ (.cons_cons _ .slnil)))))))) (no_tf hb107) ?_
          refine WH.env (v := undef) (gv_false hb107) ?_
          refine hg1 (g := z100) (i := 30) (v := undef) rfl (by kernel_rfl) rfl rfl rfl rfl rfl (fun w hw => hw.back hl92 h072 (.cons _ (.cons _ (.cons_cons _ (.cons_cons _ (.cons_cons _ (.cons_cons _ (.cons_cons _ .slnil)))))))) (no_tf hb107) ?_
          refine WH.env (v := undef) (gv_false hb107) ?_
          refine ht (i := 31) rfl (by kernel_rfl) rfl rfl rfl (fun w hw => hw.back hl92 h072 (.cons _ (.cons _ (.cons_cons _ (.cons_cons _ (.cons_cons _ (.cons_cons _ (.cons_cons _ .slnil)))))))) (q_pick_f (v := .bool false) rfl rfl hb107 (by kernel_rfl)) ?_
          refine ht (i := 32) rfl (by kernel_rfl) rfl rfl rfl (fun w hw => hw.back hl92 h072 (.cons _ (.cons _ (.cons_cons _ (.cons_cons _ (.cons_cons _ (.cons_cons _ (.cons_cons _ .slnil)))))))) (q_move (v := .bool false) rfl (by kernel_rfl)) ?_
          refine hg1 (g := false) (i := 33) (v := undef) rfl (by kernel_rfl) rfl rfl rfl rfl rfl (fun w hw => hw.back hl92 h072 (.cons _ (.cons _ (.cons_cons _ (.cons_cons _ (.cons_cons _ (.cons_cons _ (.cons_cons _ .slnil)))))))) (no_tf rfl) ?_
          refine WH.env (v := undef) (gv_false rfl) ?_
          refine hg1 (g := false) (i := 34) (v := undef) rfl (by kernel_rfl) rfl rfl rfl rfl rfl (fun w hw => hw.back hl92 h072 (.cons _ (.cons _ (.cons_cons _ (.cons_cons _ (.cons_cons _ (.cons_cons _ (.cons_cons _ .slnil)))))))) (no_tf rfl) ?_
          refine WH.env (v := undef) (gv_false rfl) ?_
          refine hg1 (g := false) (i := 35) (v := undef) rfl (by kernel_rfl) rfl rfl rfl rfl rfl (fun w hw => hw.back hl92 h072 (.cons _ (.cons _ (.cons_cons _ (.cons_cons _ (.cons_cons _ (.cons_cons _ (.cons_cons _ .slnil)))))))) (no_tf rfl) ?_
          refine WH.env (v := undef) (gv_false rfl) ?_
          refine ht (i := 36) rfl (by kernel_rfl) rfl rfl rfl (fun w hw => hw.back hl92 h072 (.cons _ (.cons _ (.cons_cons _ (.cons_cons _ (.cons_cons _ (.cons_cons _ (.cons_cons _ .slnil)))))))) (q_pickf (v := .bool false) rfl rfl rfl) ?_
          refine ht (i := 37) rfl (by kernel_rfl) rfl rfl rfl (fun w hw => hw.back hl92 h072 (.cons _ (.cons _ (.cons_cons _ (.cons_cons _ (.cons_cons _ (.cons_cons _ (.cons_cons _ .slnil)))))))) (q_assign (v := .bool false) rfl (by kernel_rfl)) ?_
          refine WH.done (by kernel_rfl) ?_
          change WC _ _ _ _ _ _
          refine WC.ret ?_
          intro w hw
          obtain rfl := Option.some.inj h
          subst hF
          exact ⟨by kernel_rfl, hw.fr⟩
      · skip
        have h := bf hb88 h
        refine hg1 (g := (((z41.2.2.2 == z57.2.2) && z76) && z81)) (i := 15) (v := undef) rfl (by kernel_rfl) rfl rfl rfl rfl rfl (fun w hw => hw.back (Gh.refl _) h072 (.cons_cons _ (.cons_cons _ (.cons_cons _ (.cons _ (.cons_cons _ (.cons_cons _ .slnil))))))) (no_tf hb88) ?_
        refine WH.env (v := undef) (gv_false hb88) ?_
        refine hg1 (g := (((z41.2.2.2 == z57.2.2) && z76) && z81)) (i := 20) (v := undef) rfl (by kernel_rfl) rfl rfl rfl rfl rfl (fun w hw => hw.back (Gh.refl _) h072 (.cons_cons _ (.cons_cons _ (.cons_cons _ (.cons _ (.cons_cons _ (.cons_cons _ .slnil))))))) (no_tf hb88) ?_
        refine WH.env (v := undef) (gv_false hb88) ?_
        refine ht (i := 21) rfl (by kernel_rfl) rfl rfl rfl (fun w hw => hw.back (Gh.refl _) h072 (.cons_cons _ (.cons_cons _ (.cons_cons _ (.cons _ (.cons_cons _ (.cons_cons _ .slnil))))))) (q_pick_f (v := .bool false) rfl rfl hb88 (by kernel_rfl)) ?_
        refine ht (i := 22) rfl (by kernel_rfl) rfl rfl rfl (fun w hw => hw.back (Gh.refl _) h072 (.cons_cons _ (.cons_cons _ (.cons_cons _ (.cons _ (.cons_cons _ (.cons_cons _ .slnil))))))) (q_move (v := .bool false) rfl (by kernel_rfl)) ?_
        refine hg1 (g := false) (i := 23) (v := undef) rfl (by kernel_rfl) rfl rfl rfl rfl rfl (fun w hw => hw.back (Gh.refl _) h072 (.cons_cons _ (.cons_cons _ (.cons_cons _ (.cons _ (.cons_cons _ (.cons_cons _ .slnil))))))) (no_tf rfl) ?_
        refine WH.env (v := undef) (gv_false rfl) ?_
        refine hg1 (g := false) (i := 24) (v := undef) rfl (by kernel_rfl) rfl rfl rfl rfl rfl (fun w hw => hw.back (Gh.refl _) h072 (.cons_cons _ (.cons_cons _ (.cons_cons _ (.cons _ (.cons_cons _ (.cons_cons _ .slnil))))))) (no_tf rfl) ?_
        refine WH.env (v := undef) (gv_false rfl) ?_
        refine hg1 (g := false) (i := 25) (v := undef) rfl (by kernel_rfl) rfl rfl rfl rfl rfl (fun w hw => hw.back (Gh.refl _) h072 (.cons_cons _ (.cons_cons _ (.cons_cons _ (.cons _ (.cons_cons _ (.cons_cons _ .slnil))))))) (no_tf rfl) ?_
        refine WH.env (v := undef) (gv_false rfl) ?_
        refine hg1 (g := false) (i := 26) (v := undef) rfl (by kernel_rfl) rfl rfl rfl rfl rfl (fun w hw => hw.back (Gh.refl _) h072 (.cons_cons _ (.cons_cons _ (.cons_cons _ (.cons _ (.cons_cons _ (.cons_cons _ .slnil))))))) (no_tf rfl) ?_
        refine WH.env (v := undef) (gv_false rfl) ?_
        refine hg1 (g := false) (i := 27) (v := undef) rfl (by kernel_rfl) rfl rfl rfl rfl rfl (fun w hw => hw.back (Gh.refl _) h072 (.cons_cons _ (.cons_cons _ (.cons_cons _ (.cons _ (.cons_cons _ (.cons_cons _ .slnil))))))) (no_tf rfl) ?_
        refine WH.env (v := undef) (gv_false rfl) ?_
        refine hg1 (g := false) (i := 28) (v := undef) rfl (by kernel_rfl) rfl rfl rfl rfl rfl (fun w hw => hw.back (Gh.refl _) h072 (.cons_cons _ (.cons_cons _ (.cons_cons _ (.cons _ (.cons_cons _ (.cons_cons _ .slnil))))))) (no_tf rfl) ?_
        refine WH.env (v := undef) (gv_false rfl) ?_
        refine hg1 (g := false) (i := 29) (v := undef) rfl (by kernel_rfl) rfl rfl rfl rfl rfl (fun w hw => hw.back (Gh.refl _) h072 (.cons_cons _ (.cons_cons _ (.cons_cons _ (.cons _ (.cons_cons _ (.cons_cons _ .slnil))))))) (no_tf rfl) ?_
        refine WH.env (v := undef) (gv_false rfl) ?_
        refine hg1 (g := false) (i := 30) (v := undef) rfl (by kernel_rfl) rfl rfl rfl rfl rfl (fun w hw => hw.back (Gh.refl _) h072 (.cons_cons _ (.cons_cons _ (.cons_cons _ (.cons _ (.cons_cons _ (.cons_cons _ .slnil))))))) (no_tf rfl) ?_
        refine WH.env (v := undef) (gv_false rfl) ?_
        refine ht (i := 31) rfl (by kernel_rfl) rfl rfl rfl (fun w hw => hw.back (Gh.refl _) h072 (.cons_cons _ (.cons_cons _ (.cons_cons _ (.cons _ (.cons_cons _ (.cons_cons _ .slnil))))))) (q_pickf (v := .bool false) rfl rfl rfl) ?_
        refine ht (i := 32) rfl (by kernel_rfl) rfl rfl rfl (fun w hw => hw.back (Gh.refl _) h072 (.cons_cons _ (.cons_cons _ (.cons_cons _ (.cons _ (.cons_cons _ (.cons_cons _ .slnil))))))) (q_move (v := .bool false) rfl (by kernel_rfl)) ?_
        refine hg1 (g := false) (i := 33) (v := undef) rfl (by kernel_rfl) rfl rfl rfl rfl rfl (fun w hw => hw.back (Gh.refl _) h072 (.cons_cons _ (.cons_cons _ (.cons_cons _ (.cons _ (.cons_cons _ (.cons_cons _ .slnil))))))) (no_tf rfl) ?_
        refine WH.env (v := undef) (gv_false rfl) ?_
        refine hg1 (g := false) (i := 34) (v := undef) rfl (by kernel_rfl) rfl rfl rfl rfl rfl (fun w hw => hw.back (Gh.refl _) h072 (.cons_cons _ (.cons_cons _ (.cons_cons _ (.cons _ (.cons_cons _ (.cons_cons _ .slnil))))))) (no_tf rfl) ?_
        refine WH.env (v := undef) (gv_false rfl) ?_
        refine hg1 (g := false) (i := 35) (v := undef) rfl (by kernel_rfl) rfl rfl rfl rfl rfl (fun w hw => hw.back (Gh.refl _) h072 (.cons_cons _ (.cons_cons _ (.cons_cons _ (.cons _ (.cons_cons _ (.cons_cons _ .slnil))))))) (no_tf rfl) ?_
        refine WH.env (v := undef) (gv_false rfl) ?_
        refine ht (i := 36) rfl (by kernel_rfl) rfl rfl rfl (fun w hw => hw.back (Gh.refl _) h072 (.cons_cons _ (.cons_cons _ (.cons_cons _ (.cons _ (.cons_cons _ (.cons_cons _ .slnil))))))) (q_pickf (v := .bool false) rfl rfl rfl) ?_
        refine ht (i := 37) rfl (by kernel_rfl) rfl rfl rfl (fun w hw => hw.back (Gh.refl _) h072 (.cons_cons _ (.cons_cons _ (.cons_cons _ (.cons _ (.cons_cons _ (.cons_cons _ .slnil))))))) (q_assign (v := .bool false) rfl (by kernel_rfl)) ?_
        refine WH.done (by kernel_rfl) ?_
        change WC _ _ _ _ _ _
        refine WC.ret ?_
        intro w hw
        obtain rfl := Option.some.inj h
        subst hF
        exact ⟨by kernel_rfl, hw.fr⟩
end Fw
end Go.Proofs.YtiakfgdgafljnaaGreat
