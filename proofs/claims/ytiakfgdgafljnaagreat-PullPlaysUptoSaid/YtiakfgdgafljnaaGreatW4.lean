/- Walks through the functions that the law reaches (printed by a program). No condition. -/
import Derived.Test.YtiakfgdgafljnaaGreatW3
namespace Go.Proofs.YtiakfgdgafljnaaGreat
namespace Fw
set_option linter.unusedVariables false
set_option linter.unusedSimpArgs false
set_option linter.unusedSectionVars false
open Go.RowKit
set_option maxRecDepth 100000 in
set_option maxHeartbeats 400000 in
theorem t_firthref11_Hash_o {Γ : Gh} {w0 : World} {H : List Rec → List Int → Option Int} (hH : C_firthref11_Hash H) {Aall : Option Addr} {call : Nat} {all : List Rec} (hall : Sl recT Γ Aall all) (hallc : all.length ≤ call) {Apath : Option Addr} {cpath : Nat} {path : List Int} (hpath : Sl intT Γ Apath path) (hpathc : path.length ≤ cpath) (hs : Sat Γ w0) {r : Int} (h : m_firthref11_Hash_o H all path = some r) : Calls Tryz.prog 56 #[.slice Aall all.length call, .slice Apath path.length cpath] w0 (fun e w' => e = .returned (.int .u64 r) ∧ Fr no w0 w') := by
  refine calls_of (N := 19) (rs := [4]) (args := [.slice Aall all.length call, .slice Apath path.length cpath]) Tryz.func56 rfl Tryz.ntmps56 Tryz.results56 rfl ?_
  obtain ⟨F, hF⟩ : ∃ F : Fm, F = ⟨no, w0, Γ⟩ := ⟨_, rfl⟩
  refine WC.here (C := CC F Γ []) ?_ (hF ▸ Cur.start0 hs)
  refine WC.rs ?_
  refine va rfl rfl rfl (q_assign (v := .int .u64 0) rfl (by kernel_rfl)) ?_
  refine WR.nil ?_
  change WC _ _ _ _ _ _
  refine WC.seq ?_
  refine WC.rs ?_
  refine va rfl rfl rfl (q_move (v := .slice Apath path.length cpath) rfl (by kernel_rfl)) ?_
  obtain ⟨z1, hz2, h⟩ := bnd h
  refine vc rfl rfl rfl (q_call (call_run Tryz.call54 rfl rfl (by kernel_rfl)) (fun w hw => t_firthref11_Path (Γ := Gh.all w) (hpath.mono hw.sat.le_all) hpathc (Sat.all w) hz2)) ?_
  refine va rfl rfl rfl (q_not rfl rfl) ?_
  refine va rfl rfl rfl (q_move (v := .bool (!z1)) rfl (by kernel_rfl)) ?_
  refine vg0 rfl rfl rfl rfl rfl (fun hg3 => QV.qo (q_move (v := .slice Aall all.length call) rfl (by kernel_rfl))) ?_
  refine vg0 rfl rfl rfl rfl rfl (fun hg4 => QV.qo (q_move (v := .slice Apath path.length cpath) rfl (by kernel_rfl))) ?_
  refine (Bool.eq_false_or_eq_true (!(!z1))).elim (fun hb5 => ?_) (fun hb5 => ?_)
  · skip
    have h := bt hb5 h
    refine WR.sat (c0 := true) (g := (!z1)) rfl rfl rfl hb5 ?_
    obtain ⟨z6, hz7, h⟩ := bnd h
    refine e_call (is := []) rfl rfl (call_run Tryz.call55 rfl rfl (args2 (gu hb5 rfl) (gu hb5 rfl))) rfl (fun w hp => t_firthref11_Recs hall hallc hpath hpathc hp hz7) ?_
    rintro Γ8 U10 v11 hl9 ⟨A12, c13, row14, rfl, rfl, hr15, _⟩
    change WR _ _ _ (CC F Γ8 [row14]) _ _ (upd _ 11 (.slice A12 z6.length c13))
    refine WR.sat (c0 := true) (g := (!z1)) rfl rfl rfl hb5 ?_
    refine va rfl rfl rfl (q_len_slice rfl Tryz.underlying23 rfl) ?_
    refine WR.sat (c0 := true) (g := (!z1)) rfl rfl rfl hb5 ?_
    refine va rfl rfl rfl (q_eql rfl rfl rfl) ?_
    refine va rfl rfl rfl (q_pick_f (v := .bool (((z6.length : Nat) : Int) == 0)) rfl rfl (not_t hb5) (by kernel_rfl)) ?_
    refine WR.nil ?_
    change WC _ _ _ _ _ _
    refine WC.cif h (by kernel_rfl) (fun hb16 h => ?_) (fun hb16 h => ?_)
    · skip
      refine WC.rs ?_
      refine va rfl rfl rfl (q_assign (v := .int .u64 0) rfl (by kernel_rfl)) ?_
      refine WR.nil ?_
      change WC _ _ _ _ _ _
      refine WC.ret ?_
      intro w hw
      obtain rfl := Option.some.inj h
      subst hF
      exact ⟨by kernel_rfl, hw.fr⟩
    · skip
      refine WC.skip ?_
      change WC _ _ _ _ _ _
      refine WC.rs ?_
      refine va rfl rfl rfl (q_move (v := .slice Aall all.length call) rfl (by kernel_rfl)) ?_
      refine va rfl rfl rfl (q_move (v := .slice Apath path.length cpath) rfl (by kernel_rfl)) ?_
      obtain ⟨z17, hz18, h⟩ := bnd h
      refine e_call (is := []) rfl rfl (call_run Tryz.call81 rfl rfl (by kernel_rfl)) rfl (fun w hp => t_firthref11_Text hH (hall.mono hl9) hallc (hpath.mono hl9) hpathc hp hz18) ?_
      rintro Γ19 U21 v22 hl20 ⟨A23, c24, row25, rfl, rfl, hr26, _⟩
      change WR _ _ _ (CC F Γ19 [row25, row14]) _ _ (upd _ 17 (.slice A23 z17.length c24))
      obtain ⟨z27, hz28, h⟩ := bnd h
      refine vc rfl rfl rfl (q_call (call_run Tryz.call80 rfl rfl (by kernel_rfl)) (fun w hw => t_firthref01_Hash (Γ := Gh.all w) (hr26.sl hw.sat.le_all (hw.ra 0 rfl)) hr26.capz (Sat.all w) hz28)) ?_
      refine va rfl rfl rfl (q_assign (v := .int .u64 z27) rfl (by kernel_rfl)) ?_
      refine WR.nil ?_
      change WC _ _ _ _ _ _
      refine WC.ret ?_
      intro w hw
      obtain rfl := Option.some.inj h
      subst hF
      exact ⟨by kernel_rfl, hw.fr⟩
  · skip
    have h := bf hb5 h
    refine WR.unsat (c0 := true) (g := (!z1)) rfl rfl rfl hb5 rfl ?_
    refine WR.unsat (c0 := true) (g := (!z1)) rfl rfl rfl hb5 rfl ?_
    refine WR.unsat (c0 := true) (g := (!z1)) rfl rfl rfl hb5 rfl ?_
    refine va rfl rfl rfl (q_pick_t (v := .bool true) rfl rfl (not_f hb5) (by kernel_rfl)) ?_
    refine WR.nil ?_
    change WC _ _ _ _ _ _
    refine WC.ctk (b := true) (by kernel_rfl) rfl ?_
    refine WC.rs ?_
    refine va rfl rfl rfl (q_assign (v := .int .u64 0) rfl (by kernel_rfl)) ?_
    refine WR.nil ?_
    change WC _ _ _ _ _ _
    refine WC.ret ?_
    intro w hw
    obtain rfl := Option.some.inj h
    subst hF
    exact ⟨by kernel_rfl, hw.fr⟩
theorem t_firthref11_Hash_n (n : Nat) : C_firthref11_Hash (m_firthref11_Hash_n n) := by
  induction n with
  | zero => intro Γ w0 Aall call all hall hallc Apath cpath path hpath hpathc hs r h; exact absurd h (by simp [m_firthref11_Hash_n])
  | succ n ih => intro Γ w0 Aall call all hall hallc Apath cpath path hpath hpathc hs r h; exact t_firthref11_Hash_o ih hall hallc hpath hpathc hs h

theorem t_firthref11_Hash {Γ : Gh} {w0 : World} {Aall : Option Addr} {call : Nat} {all : List Rec} (hall : Sl recT Γ Aall all) (hallc : all.length ≤ call) {Apath : Option Addr} {cpath : Nat} {path : List Int} (hpath : Sl intT Γ Apath path) (hpathc : path.length ≤ cpath) (hs : Sat Γ w0) {r : Int} (h : m_firthref11_Hash all path = some r) : Calls Tryz.prog 56 #[.slice Aall all.length call, .slice Apath path.length cpath] w0 (fun e w' => e = .returned (.int .u64 r) ∧ Fr no w0 w') := by
  exact t_firthref11_Hash_n 3 hall hallc hpath hpathc hs h

abbrev r_firthref11_Kids (r : List Int) (U : List Rowb) (Γ : Gh) (v : Value) : Prop := ∃ (A0 : Option Addr), ∃ (c0 : Nat), ∃ (row0 : Rowb), v = .slice A0 r.length c0 ∧ U = [row0] ∧ Own u64T Γ 78 row0 A0 c0 r ∧ True
set_option maxRecDepth 100000 in
set_option maxHeartbeats 400000 in
theorem t_firthref11_Kids {Γ : Gh} {w0 : World} {Aall : Option Addr} {call : Nat} {all : List Rec} (hall : Sl recT Γ Aall all) (hallc : all.length ≤ call) {Apath : Option Addr} {cpath : Nat} {path : List Int} (hpath : Sl intT Γ Apath path) (hpathc : path.length ≤ cpath) (hp : Pre [] Γ w0) {r : List Int} (h : m_firthref11_Kids all path = some r) : Calls Tryz.prog 20 #[.slice Aall all.length call, .slice Apath path.length cpath] w0 (Outc Γ [] w0 (r_firthref11_Kids r)) := by
  refine calls_of (N := 29) (rs := [4]) (args := [.slice Aall all.length call, .slice Apath path.length cpath]) Tryz.func20 rfl Tryz.ntmps20 Tryz.results20 rfl ?_
  obtain ⟨F, hF⟩ : ∃ F : Fm, F = ⟨ids [], w0, Γ⟩ := ⟨_, rfl⟩
  refine WC.here (C := CC F Γ []) ?_ (hF ▸ hp.start)
  refine WC.rs ?_
  refine va rfl rfl rfl (q_assign (v := .slice none 0 0) rfl (by kernel_rfl)) ?_
  refine WR.nil ?_
  change WC _ _ _ _ _ _
  refine WC.rs ?_
  refine va rfl rfl rfl (q_assign (v := .slice none 0 0) rfl (by kernel_rfl)) ?_
  refine WR.nil ?_
  change WC _ _ _ _ _ _
  refine WC.seq ?_
  refine WC.rs ?_
  refine va rfl rfl rfl (q_assign (v := .int .i64 0) rfl (by kernel_rfl)) ?_
  refine WR.nil ?_
  change WC _ _ _ _ _ _
  refine WC.block ?_
  refine WC.loopN h (fun (s : (List Int) × Int) σ w => match s with | (out_3, d_8) => ∃ (Γ1 : Gh), ∃ (A4 : Option Addr), ∃ (c5 : Nat), ∃ (row6 : Rowb), slots σ [(0, .slice Aall all.length call), (1, .slice Apath path.length cpath), (5, .slice A4 out_3.length c5), (6, .int .i64 d_8)] ∧ CC F Γ1 [row6] w ∧ Gh.le Γ Γ1 ∧ Own u64T Γ1 78 row6 A4 c5 out_3 ∧ I64 d_8 ∧ True) ?_ ?_
  · skip
    intro w hw
    have hw := hw.pad
    exact ⟨Γ, none, 0, [], (sl_ (by kernel_rfl)), hw, (Gh.refl _), (Own.nil u64T _ 78), (show I64 0 by decide), trivial⟩
  rintro f10 ⟨out_3, d_8⟩ σ w h ⟨Γ1, A4, c5, row6, hsl, hw, hl2, ho7, hr9, -⟩
  refine Wpt.slots hsl ?_
  refine WC.here (C := CC F Γ1 [row6]) ?_ hw
  clear hw hsl
  refine WC.seq ?_
  refine WC.rs ?_
  refine va rfl rfl rfl (q_move (v := .int .i64 d_8) rfl (by kernel_rfl)) ?_
  refine va rfl rfl rfl (q_lss rfl rfl rfl) ?_
  refine va rfl rfl rfl (q_move (v := .bool (decide (d_8 < 16))) rfl (by kernel_rfl)) ?_
  refine vg1 rfl rfl rfl rfl rfl (fun hg14 => QV.qo (q_move (v := .slice Apath path.length cpath) rfl (by kernel_rfl))) ?_
  obtain ⟨z16, hz17, h⟩ := bnd h
  refine vg1 rfl rfl rfl rfl rfl (fun hg15 => (q_call (call_run Tryz.call54 rfl rfl (args1 (gu hg15 rfl))) (fun w hw => t_firthref11_Path (Γ := Gh.all w) ((hpath.mono hl2).mono hw.sat.le_all) hpathc (Sat.all w) (gc_of hz17 hg15)))) ?_
  refine va rfl rfl rfl (q_pick rfl rfl (pk_and' (g := (decide (d_8 < 16))) (y := z16))) ?_
  refine va rfl rfl rfl (q_move (v := .bool ((decide (d_8 < 16)) && z16)) rfl (by kernel_rfl)) ?_
  refine vg1 rfl rfl rfl rfl rfl (fun hg18 => QV.qo (q_move (v := .slice Apath path.length cpath) rfl (by kernel_rfl))) ?_
  refine vg1 rfl rfl rfl rfl rfl (fun hg19 => QV.qo (q_len_slice rfl Tryz.underlying24 (gu hg19 rfl))) ?_
  refine vg1 rfl rfl rfl rfl rfl (fun hg20 => QV.qo (q_lss rfl (gu hg20 rfl) rfl)) ?_
  refine va rfl rfl rfl (q_pick rfl rfl (pk_and' (g := ((decide (d_8 < 16)) && z16)) (y := (decide (((path.length : Nat) : Int) < 2))))) ?_
  refine WR.nil ?_
  change WC _ _ _ _ _ _
  refine WC.cif h (by kernel_rfl) (fun hb21 h => ?_) (fun hb21 h => ?_)
  · skip
    refine WC.skip ?_
    change WC _ _ _ _ _ _
    refine WC.seq ?_
    refine WC.block ?_
    refine WC.region ?_
    refine va rfl rfl rfl (q_move (v := .slice A4 out_3.length c5) rfl (by kernel_rfl)) ?_
    refine va rfl rfl rfl (q_move (v := .slice Aall all.length call) rfl (by kernel_rfl)) ?_
    refine va rfl rfl rfl (q_move (v := .slice Apath path.length cpath) rfl (by kernel_rfl)) ?_
    refine va rfl rfl rfl (q_move (v := .int .i64 d_8) rfl (by kernel_rfl)) ?_
    obtain ⟨z22, hz23, h⟩ := bnd h
    refine e_call (is := []) rfl rfl (call_run Tryz.call57 rfl rfl (by kernel_rfl)) rfl (fun w hp => t_firthref11_longer (hpath.mono hl2) hpathc d_8 hr9 hp hz23) ?_
    rintro Γ24 U26 v27 hl25 ⟨A28, c29, row30, rfl, rfl, hr31, _⟩
    change WR _ _ _ (CC F Γ24 [row30, row6]) _ _ (upd _ 24 (.slice A28 z22.length c29))
    obtain ⟨z32, hz33, h⟩ := bnd h
    refine vc rfl rfl rfl (q_call (call_run Tryz.call56 rfl rfl (by kernel_rfl)) (fun w hw => t_firthref11_Hash (Γ := Gh.all w) ((hall.mono (hl2.trans hl25)).mono hw.sat.le_all) hallc (hr31.sl hw.sat.le_all (hw.ra 0 rfl)) hr31.capz (Sat.all w) hz33)) ?_
    refine e_buildSlice (cs := #[.int .u64 z32]) (e := 78) rfl rfl rfl rfl (fun w => by kernel_rfl) ?_
    intro g34
    obtain ⟨hk35, h⟩ := chk_some h
    obtain ⟨hk36, h⟩ := chk_some h
    refine e_append (T := u64T) (xs := out_3) (ys := [z32]) elem_33 (i := 2) rfl rfl rfl rfl rfl rfl rfl (ho7.mono hl25) (of_decide_eq_true hk36) (fun w hw => src_one (T := u64T) (y := z32) (i := 0) rfl (by exact ⟨rfl, (u64b_of hk35)⟩) hw) ?_
    intro row37 A38 c39 ho40
    refine va rfl rfl rfl (q_assign (v := .slice A38 (out_3 ++ [z32]).length c39) rfl (by kernel_rfl)) ?_
    refine WR.nil ?_
    change WC _ _ _ _ _ _
    refine WC.region ?_
    refine va rfl rfl rfl (q_move (v := .int .i64 d_8) rfl (by kernel_rfl)) ?_
    refine va rfl rfl rfl (q_add rfl rfl rfl) ?_
    refine va rfl rfl rfl (q_assign (v := .int .i64 (w64 (d_8 + 1))) rfl (by kernel_rfl)) ?_
    refine WR.nil ?_
    intro w hw
    exact ⟨((out_3 ++ [z32]), (w64 (d_8 + 1))), h, Γ24, A38, c39, row37, (sl_ (by kernel_rfl)), (hw.only (is := [2]) rfl), (hl2.trans hl25), ho40, (w64_r _), trivial⟩
  · skip
    refine WC.exit ?_
    change WC _ _ _ _ _ _
    refine WC.rs ?_
    refine va rfl rfl rfl (q_move (v := .slice A4 out_3.length c5) rfl (by kernel_rfl)) ?_
    refine va rfl rfl rfl (q_assign (v := .slice A4 out_3.length c5) rfl (by kernel_rfl)) ?_
    refine WR.nil ?_
    change WC _ _ _ _ _ _
    refine WC.ret ?_
    intro w hw
    obtain rfl := Option.some.inj h
    subst hF
    exact end_e (is := [0]) (by kernel_rfl) hw rfl ⟨A4, c5, row6, rfl, rfl, ho7, trivial⟩
abbrev r_firthref19_Cut_Want (gc_ : Nat) (ec_ : Nat) (rowc_ : Rowb) (r : (List Int) × (List Rec) × Bool) (U : List Rowb) (Γ : Gh) (v : Value) : Prop := ∃ (A0 : Option Addr), ∃ (c0 : Nat), ∃ (row0 : Rowb), ∃ (A1 : Option Addr), ∃ (c1 : Nat), ∃ (row1 : Rowb), v = .tuple #[.slice A0 r.1.length c0, .slice A1 r.2.1.length c1, .bool r.2.2] ∧ U = [rowc_, row0, row1] ∧ Own u64T Γ 78 row0 A0 c0 r.1 ∧ Own recT Γ 70 row1 A1 c1 r.2.1 ∧ True
set_option maxRecDepth 100000 in
set_option maxHeartbeats 400000 in
theorem t_firthref19_Cut_Want {Γ : Gh} {w0 : World} {gc_ ec_ : Nat} {rowc_ : Rowb} {c_ : Ofirthref19_Cut} (hc_ : Ofirthref19_Cut.ob ec_ Γ gc_ rowc_ c_) {Apath : Option Addr} {cpath : Nat} {path : List Int} (hpath : Sl intT Γ Apath path) (hpathc : path.length ≤ cpath) (hp : Pre [rowc_] Γ w0) {r : (List Int) × (List Rec) × Bool} (h : m_firthref19_Cut_Want c_ path = some r) : Calls Tryz.prog 14 #[.pointer (some ⟨gc_, 0, none⟩), .slice Apath path.length cpath] w0 (Outc Γ [rowc_] w0 (r_firthref19_Cut_Want gc_ ec_ rowc_ r)) := by
  refine calls_of (N := 30) (rs := [4, 5, 6]) (args := [.pointer (some ⟨gc_, 0, none⟩), .slice Apath path.length cpath]) Tryz.func14 rfl Tryz.ntmps14 Tryz.results14 rfl ?_
  obtain ⟨F, hF⟩ : ∃ F : Fm, F = ⟨ids [rowc_], w0, Γ⟩ := ⟨_, rfl⟩
  refine WC.here (C := CC F Γ [rowc_]) ?_ (hF ▸ hp.start)
  refine WC.rs ?_
  refine va rfl rfl rfl (q_assign (v := .slice none 0 0) rfl (by kernel_rfl)) ?_
  refine va rfl rfl rfl (q_assign (v := .slice none 0 0) rfl (by kernel_rfl)) ?_
  refine va rfl rfl rfl (q_assign (v := .bool false) rfl (by kernel_rfl)) ?_
  refine WR.nil ?_
  change WC _ _ _ _ _ _
  refine WC.seq ?_
  refine WC.rs ?_
  refine va rfl rfl rfl (q_move (v := .slice Apath path.length cpath) rfl (by kernel_rfl)) ?_
  obtain ⟨z1, hz2, h⟩ := bnd h
  refine vc rfl rfl rfl (q_call (call_run Tryz.call54 rfl rfl (by kernel_rfl)) (fun w hw => t_firthref11_Path (Γ := Gh.all w) (hpath.mono hw.sat.le_all) hpathc (Sat.all w) hz2)) ?_
  refine va rfl rfl rfl (q_not rfl rfl) ?_
  refine va rfl rfl rfl (q_move (v := .bool (!z1)) rfl (by kernel_rfl)) ?_
  refine vg0 rfl rfl rfl rfl rfl (fun hg3 => QV.qo (q_move (v := .slice Apath path.length cpath) rfl (by kernel_rfl))) ?_
  refine vg0 rfl rfl rfl rfl rfl (fun hg4 => QV.qo (q_len_slice rfl Tryz.underlying24 (gu hg4 rfl))) ?_
  refine vg0 rfl rfl rfl rfl rfl (fun hg5 => QV.qo (q_eql rfl (gu hg5 rfl) rfl)) ?_
  refine va rfl rfl rfl (q_pick rfl rfl (pk_or' (g := (!z1)) (y := (((path.length : Nat) : Int) == 0)))) ?_
  refine WR.nil ?_
  change WC _ _ _ _ _ _
  refine WC.cif h (by kernel_rfl) (fun hb6 h => ?_) (fun hb6 h => ?_)
  · skip
    refine WC.rs ?_
    refine va rfl rfl rfl (q_assign (v := .slice none 0 0) rfl (by kernel_rfl)) ?_
    refine va rfl rfl rfl (q_assign (v := .slice none 0 0) rfl (by kernel_rfl)) ?_
    refine va rfl rfl rfl (q_assign (v := .bool false) rfl (by kernel_rfl)) ?_
    refine WR.nil ?_
    change WC _ _ _ _ _ _
    refine WC.ret ?_
    intro w hw
    have hw := hw.pad
    have hw := hw.pad
    obtain rfl := Option.some.inj h
    subst hF
    exact end_e (is := [2, 1, 0]) (by kernel_rfl) hw rfl ⟨none, 0, [], none, 0, [], rfl, rfl, (Own.nil u64T _ 78), (Own.nil recT _ 70), trivial⟩
  · skip
    refine WC.skip ?_
    change WC _ _ _ _ _ _
    refine WC.seq ?_
    refine WC.rs ?_
    refine va rfl rfl rfl (q_move (v := .slice Apath path.length cpath) rfl (by kernel_rfl)) ?_
    refine va rfl rfl rfl (q_len_slice rfl Tryz.underlying24 rfl) ?_
    refine va rfl rfl rfl (q_eql rfl rfl rfl) ?_
    refine WR.nil ?_
    change WC _ _ _ _ _ _
    refine WC.cif h (by kernel_rfl) (fun hb7 h => ?_) (fun hb7 h => ?_)
    · skip
      refine WC.rs ?_
      refine va rfl rfl rfl (q_move (v := .pointer (some ⟨gc_, 0, none⟩)) rfl (by kernel_rfl)) ?_
      refine va rfl rfl rfl (q_nil (A := some ⟨gc_, 0, none⟩) rfl rfl rfl) ?_
      refine va rfl rfl rfl (q_fl 2 fld_41_2 rfl rfl rfl) ?_
      have hq := hc_
      obtain ⟨A1_8, c1_8, A2_8, c2_8, hrow_8, ho0_8, ho1_8, ho2_8, ho3_8, ho4_8, -⟩ := hq
      intro w hw; have hw := hw.unfold (i := 0) rfl hrow_8
      refine WR.here (C := CC F Γ [[(gc_, .cells #[.int .i64 c_.id, .slice A1_8 c_.vec.length c1_8, .slice A2_8 c_.all.length c2_8] ec_ (0, 0))]]) ?_ hw
      clear hw
      refine va rfl rfl rfl (q_ldl (i := 0) (v := .slice A2_8 c_.all.length c2_8) rfl rfl Tryz.isAgg23 rfl rfl) ?_
      refine va rfl rfl rfl (q_move (v := .slice Apath path.length cpath) rfl (by kernel_rfl)) ?_
      obtain ⟨z9, hz10, h⟩ := bnd h
      refine e_call (is := []) rfl rfl (call_run Tryz.call20 rfl rfl (by kernel_rfl)) rfl (fun w hp => t_firthref11_Kids ho4_8 ho3_8 hpath hpathc hp hz10) ?_
      rintro Γ11 U13 v14 hl12 ⟨A15, c16, row17, rfl, rfl, hr18, _⟩
      change WR _ _ _ (CC F Γ11 [row17, [(gc_, .cells #[.int .i64 c_.id, .slice A1_8 c_.vec.length c1_8, .slice A2_8 c_.all.length c2_8] ec_ (0, 0))]]) _ _ (upd _ 23 (.slice A15 z9.length c16))
      refine va rfl rfl rfl (q_assign (v := .slice A15 z9.length c16) rfl (by kernel_rfl)) ?_
      refine va rfl rfl rfl (q_assign (v := .slice none 0 0) rfl (by kernel_rfl)) ?_
      refine va rfl rfl rfl (q_assign (v := .bool true) rfl (by kernel_rfl)) ?_
      refine WR.nil ?_
      change WC _ _ _ _ _ _
      refine WC.ret ?_
      intro w hw
      have hw := hw.fold (is := [1]) rfl hrow_8
      have hw := hw.pad
      obtain rfl := Option.some.inj h
      subst hF
      exact end_e (is := [1, 1, 0]) (by kernel_rfl) hw rfl ⟨A15, c16, row17, none, 0, [], rfl, rfl, hr18, (Own.nil recT _ 70), trivial⟩
    · skip
      refine WC.skip ?_
      change WC _ _ _ _ _ _
      refine WC.rs ?_
      refine va rfl rfl rfl (q_move (v := .pointer (some ⟨gc_, 0, none⟩)) rfl (by kernel_rfl)) ?_
      refine va rfl rfl rfl (q_nil (A := some ⟨gc_, 0, none⟩) rfl rfl rfl) ?_
      refine va rfl rfl rfl (q_fl 2 fld_41_2 rfl rfl rfl) ?_
      have hq := hc_
      obtain ⟨A1_20, c1_20, A2_20, c2_20, hrow_20, ho0_20, ho1_20, ho2_20, ho3_20, ho4_20, -⟩ := hq
      intro w hw; have hw := hw.unfold (i := 0) rfl hrow_20
      refine WR.here (C := CC F Γ [[(gc_, .cells #[.int .i64 c_.id, .slice A1_20 c_.vec.length c1_20, .slice A2_20 c_.all.length c2_20] ec_ (0, 0))]]) ?_ hw
      clear hw
      refine va rfl rfl rfl (q_ldl (i := 0) (v := .slice A2_20 c_.all.length c2_20) rfl rfl Tryz.isAgg23 rfl rfl) ?_
      refine va rfl rfl rfl (q_move (v := .slice Apath path.length cpath) rfl (by kernel_rfl)) ?_
      obtain ⟨z21, hz22, h⟩ := bnd h
      refine e_call (is := []) rfl rfl (call_run Tryz.call55 rfl rfl (by kernel_rfl)) rfl (fun w hp => t_firthref11_Recs ho4_20 ho3_20 hpath hpathc hp hz22) ?_
      rintro Γ23 U25 v26 hl24 ⟨A27, c28, row29, rfl, rfl, hr30, _⟩
      change WR _ _ _ (CC F Γ23 [row29, [(gc_, .cells #[.int .i64 c_.id, .slice A1_20 c_.vec.length c1_20, .slice A2_20 c_.all.length c2_20] ec_ (0, 0))]]) _ _ (upd _ 29 (.slice A27 z21.length c28))
      refine va rfl rfl rfl (q_assign (v := .slice none 0 0) rfl (by kernel_rfl)) ?_
      refine va rfl rfl rfl (q_assign (v := .slice A27 z21.length c28) rfl (by kernel_rfl)) ?_
      refine va rfl rfl rfl (q_assign (v := .bool true) rfl (by kernel_rfl)) ?_
      refine WR.nil ?_
      change WC _ _ _ _ _ _
      refine WC.ret ?_
      intro w hw
      have hw := hw.fold (is := [1]) rfl hrow_20
      have hw := hw.pad
      obtain rfl := Option.some.inj h
      subst hF
      exact end_e (is := [1, 0, 0]) (by kernel_rfl) hw rfl ⟨none, 0, [], A27, c28, row29, rfl, rfl, (Own.nil u64T _ 78), hr30, trivial⟩
abbrev r_firthref19_NewPull (r : (Option Ofirthref19_Pull) × Int) (U : List Rowb) (Γ : Gh) (v : Value) : Prop := ∃ (g0 : Nat), ∃ (row0 : Rowb), v = .tuple #[optp r.1 g0, .int .i64 r.2] ∧ U = [row0] ∧ optob (Ofirthref19_Pull.ob 59 Γ g0) row0 r.1 ∧ I64 r.2 ∧ True
set_option maxRecDepth 100000 in
set_option maxHeartbeats 400000 in
theorem t_firthref19_NewPull {Γ : Gh} {w0 : World} (id : Int) (hid : I64 id) {Aown : Option Addr} {cown : Nat} {own : List Rec} (hown : Sl recT Γ Aown own) (hownc : own.length ≤ cown) (hp : Pre [] Γ w0) {r : (Option Ofirthref19_Pull) × Int} (h : m_firthref19_NewPull id own = some r) : Calls Tryz.prog 23 #[.int .i64 id, .slice Aown own.length cown] w0 (Outc Γ [] w0 (r_firthref19_NewPull r)) := by
  refine calls_of (N := 20) (rs := [4, 5]) (args := [.int .i64 id, .slice Aown own.length cown]) Tryz.func23 rfl Tryz.ntmps23 Tryz.results23 rfl ?_
  obtain ⟨F, hF⟩ : ∃ F : Fm, F = ⟨ids [], w0, Γ⟩ := ⟨_, rfl⟩
  refine WC.here (C := CC F Γ []) ?_ (hF ▸ hp.start)
  refine WC.rs ?_
  refine va rfl rfl rfl (q_assign (v := .pointer none) rfl (by kernel_rfl)) ?_
  refine va rfl rfl rfl (q_assign (v := .int .i64 0) rfl (by kernel_rfl)) ?_
  refine WR.nil ?_
  change WC _ _ _ _ _ _
  refine WC.rs ?_
  refine va rfl rfl rfl (q_move (v := .slice Aown own.length cown) rfl (by kernel_rfl)) ?_
  obtain ⟨z1, hz2, h⟩ := bnd h
  refine e_call (is := []) rfl rfl (call_run Tryz.call35 rfl rfl (by kernel_rfl)) rfl (fun w hp => t_firthref14_Held hown hownc hp hz2) ?_
  rintro Γ3 U5 v6 hl4 ⟨A7, c8, row9, rfl, rfl, hr10, _⟩
  change WR _ _ _ (CC F Γ3 [row9]) _ _ (upd _ 10 (.tuple #[.slice A7 z1.1.length c8, .bool z1.2]))
  refine va rfl rfl rfl (q_move (v := .tuple #[.slice A7 z1.1.length c8, .bool z1.2]) rfl (by kernel_rfl)) ?_
  refine va rfl rfl rfl (q_extract (v := .slice A7 z1.1.length c8) rfl rfl rfl) ?_
  refine va rfl rfl rfl (q_extract (v := .bool z1.2) rfl rfl rfl) ?_
  refine va rfl rfl rfl (q_assign (v := .slice A7 z1.1.length c8) rfl (by kernel_rfl)) ?_
  refine va rfl rfl rfl (q_assign (v := .bool z1.2) rfl (by kernel_rfl)) ?_
  refine WR.nil ?_
  change WC _ _ _ _ _ _
  refine WC.seq ?_
  refine WC.rs ?_
  refine va rfl rfl rfl (q_move (v := .bool z1.2) rfl (by kernel_rfl)) ?_
  refine va rfl rfl rfl (q_not rfl rfl) ?_
  refine WR.nil ?_
  change WC _ _ _ _ _ _
  refine WC.cif h (by kernel_rfl) (fun hb11 h => ?_) (fun hb11 h => ?_)
  · skip
    refine WC.rs ?_
    refine va rfl rfl rfl (q_assign (v := .pointer none) rfl (by kernel_rfl)) ?_
    refine va rfl rfl rfl (q_assign (v := .int .i64 1) rfl (by kernel_rfl)) ?_
    refine WR.nil ?_
    change WC _ _ _ _ _ _
    refine WC.ret ?_
    intro w hw
    have hw := hw.pad
    obtain rfl := Option.some.inj h
    subst hF
    exact end_e (is := [0]) (by kernel_rfl) hw rfl ⟨0, [], rfl, rfl, rfl, (show I64 1 by decide), trivial⟩
  · skip
    refine WC.skip ?_
    change WC _ _ _ _ _ _
    refine WC.rs ?_
    refine va rfl rfl rfl (q_move (v := .int .i64 id) rfl (by kernel_rfl)) ?_
    refine va rfl rfl rfl (q_move (v := .slice A7 z1.1.length c8) rfl (by kernel_rfl)) ?_
    have hc16 := hr10.capz
    intro w hw; obtain ⟨Γ12, hw, hl13, hr14⟩ := hw.seal (i := 0) rfl; have hs15 := hr10.sl hl13 hr14
    refine WR.here (C := CC F Γ12 [[]]) ?_ hw
    clear hw
    obtain ⟨z17, hz18, h⟩ := bnd h
    refine e_call (is := []) rfl rfl (call_run Tryz.call48 rfl rfl (by kernel_rfl)) rfl (fun w hp => t_firthref19_recs hs15 hc16 hp hz18) ?_
    rintro Γ19 U21 v22 hl20 ⟨A23, c24, row25, rfl, rfl, hr26, _⟩
    change WR _ _ _ (CC F Γ19 [row25, []]) _ _ (upd _ 17 (.slice A23 z17.length c24))
    refine va rfl rfl rfl (q_build' (v := .agg #[.int .i64 id, .slice A23 z17.length c24, .bool false, .slice none 0 0, .slice none 0 0, .slice none 0 0]) rfl (bargs2 rfl rfl) (fun w => by kernel_rfl)) ?_
    refine e_box (v := .agg #[.int .i64 id, .slice A23 z17.length c24, .bool false, .slice none 0 0, .slice none 0 0, .slice none 0 0]) rfl rfl rfl rfl (by kernel_rfl) ?_
    intro g27
    refine va rfl rfl rfl (q_assign (v := .pointer (some ⟨g27, 0, none⟩)) rfl (by kernel_rfl)) ?_
    refine va rfl rfl rfl (q_assign (v := .int .i64 0) rfl (by kernel_rfl)) ?_
    refine WR.nil ?_
    change WC _ _ _ _ _ _
    refine WC.ret ?_
    intro w hw
    have hc32 := hr26.capz
    obtain ⟨Γ28, hw, hl29, hr30⟩ := hw.seal (i := 1) rfl; have hs31 := hr26.sl hl29 hr30
    have hw := hw.pad
    have hw := hw.pad
    obtain ⟨row_33, hrow_33, hob_33⟩ : ∃ rw : Rowb, rw = ([[(g27, .cells #[.int .i64 id, .slice A23 z17.length c24, .bool false, .slice none 0 0, .slice none 0 0, .slice none 0 0] 59 (0, 0))], [], []] : List Rowb).flatten ∧ Ofirthref19_Pull.ob 59 Γ28 g27 rw (⟨id, z17, false, [], [], []⟩ : Ofirthref19_Pull) := ⟨_, rfl, A23, c24, none, 0, [], none, 0, [], none, 0, rfl, hid, hc32, hs31, (Own.nil intT Γ28 2), (Own.nil (slT intT) Γ28 24), (Nat.zero_le 0), (Sl.nil _ _ none), trivial⟩
    have hw := hw.fold (is := [2, 1, 0]) rfl hrow_33
    obtain rfl := Option.some.inj h
    subst hF
    exact end_e (is := [0]) (by kernel_rfl) hw rfl ⟨g27, row_33, rfl, rfl, hob_33, (show I64 0 by decide), trivial⟩
set_option maxRecDepth 100000 in
set_option maxHeartbeats 400000 in
theorem t_firthref11_at {Γ : Gh} {w0 : World} {Al : Option Addr} {cl : Nat} {l : List Int} (hl : Sl u64T Γ Al l) (hlc : l.length ≤ cl) (i_ : Int) (hi_ : I64 i_) (hs : Sat Γ w0) {r : Int} (h : m_firthref11_at l i_ = some r) : Calls Tryz.prog 82 #[.slice Al l.length cl, .int .i64 i_] w0 (fun e w' => e = .returned (.int .u64 r) ∧ Fr no w0 w') := by
  refine calls_of (N := 13) (rs := [4]) (args := [.slice Al l.length cl, .int .i64 i_]) Tryz.func82 rfl Tryz.ntmps82 Tryz.results82 rfl ?_
  obtain ⟨F, hF⟩ : ∃ F : Fm, F = ⟨no, w0, Γ⟩ := ⟨_, rfl⟩
  refine WC.here (C := CC F Γ []) ?_ (hF ▸ Cur.start0 hs)
  refine WC.rs ?_
  refine va rfl rfl rfl (q_assign (v := .int .u64 0) rfl (by kernel_rfl)) ?_
  refine WR.nil ?_
  change WC _ _ _ _ _ _
  refine WC.seq ?_
  refine WC.rs ?_
  refine va rfl rfl rfl (q_move (v := .int .i64 i_) rfl (by kernel_rfl)) ?_
  refine va rfl rfl rfl (q_move (v := .slice Al l.length cl) rfl (by kernel_rfl)) ?_
  refine va rfl rfl rfl (q_len_slice rfl Tryz.underlying33 rfl) ?_
  refine va rfl rfl rfl (q_lss rfl rfl rfl) ?_
  refine WR.nil ?_
  change WC _ _ _ _ _ _
  refine WC.cif h (by kernel_rfl) (fun hb1 h => ?_) (fun hb1 h => ?_)
  · skip
    refine WC.rs ?_
    refine va rfl rfl rfl (q_move (v := .slice Al l.length cl) rfl (by kernel_rfl)) ?_
    refine va rfl rfl rfl (q_move (v := .int .i64 i_) rfl (by kernel_rfl)) ?_
    obtain ⟨hk2, h⟩ := chk_some h
    refine va rfl rfl rfl (q_ix Tryz.underlying33 Tryz.sizeOf78 rfl rfl rfl hk2 (hl.some_ (inb_lt hk2))) ?_
    refine va rfl rfl rfl (q_ld (c := 0) (v := .int .u64 (gt l i_.toNat)) (hl.u64T_at (inb_lt hk2)).2 rfl Tryz.isAgg78 rfl rfl) ?_
    refine va rfl rfl rfl (q_assign (v := .int .u64 (gt l i_.toNat)) rfl (by kernel_rfl)) ?_
    refine WR.nil ?_
    change WC _ _ _ _ _ _
    refine WC.ret ?_
    intro w hw
    obtain rfl := Option.some.inj h
    subst hF
    exact ⟨by kernel_rfl, hw.fr⟩
  · skip
    refine WC.skip ?_
    change WC _ _ _ _ _ _
    refine WC.rs ?_
    refine va rfl rfl rfl (q_assign (v := .int .u64 0) rfl (by kernel_rfl)) ?_
    refine WR.nil ?_
    change WC _ _ _ _ _ _
    refine WC.ret ?_
    intro w hw
    obtain rfl := Option.some.inj h
    subst hF
    exact ⟨by kernel_rfl, hw.fr⟩
abbrev r_firthref11_Differ (r : List Int) (U : List Rowb) (Γ : Gh) (v : Value) : Prop := ∃ (A0 : Option Addr), ∃ (c0 : Nat), ∃ (row0 : Rowb), v = .slice A0 r.length c0 ∧ U = [row0] ∧ Own intT Γ 3 row0 A0 c0 r ∧ True
set_option maxRecDepth 100000 in
set_option maxHeartbeats 400000 in
theorem t_firthref11_Differ {Γ : Gh} {w0 : World} {Aa : Option Addr} {ca : Nat} {a : List Int} (ha : Sl u64T Γ Aa a) (hac : a.length ≤ ca) {Ab : Option Addr} {cb : Nat} {b : List Int} (hb : Sl u64T Γ Ab b) (hbc : b.length ≤ cb) (hp : Pre [] Γ w0) {r : List Int} (h : m_firthref11_Differ a b = some r) : Calls Tryz.prog 59 #[.slice Aa a.length ca, .slice Ab b.length cb] w0 (Outc Γ [] w0 (r_firthref11_Differ r)) := by
  refine calls_of (N := 23) (rs := [4]) (args := [.slice Aa a.length ca, .slice Ab b.length cb]) Tryz.func59 rfl Tryz.ntmps59 Tryz.results59 rfl ?_
  obtain ⟨F, hF⟩ : ∃ F : Fm, F = ⟨ids [], w0, Γ⟩ := ⟨_, rfl⟩
  refine WC.here (C := CC F Γ []) ?_ (hF ▸ hp.start)
  refine WC.rs ?_
  refine va rfl rfl rfl (q_assign (v := .slice none 0 0) rfl (by kernel_rfl)) ?_
  refine WR.nil ?_
  change WC _ _ _ _ _ _
  refine WC.rs ?_
  refine va rfl rfl rfl (q_assign (v := .slice none 0 0) rfl (by kernel_rfl)) ?_
  refine WR.nil ?_
  change WC _ _ _ _ _ _
  refine WC.seq ?_
  refine WC.rs ?_
  refine va rfl rfl rfl (q_assign (v := .int .i64 0) rfl (by kernel_rfl)) ?_
  refine WR.nil ?_
  change WC _ _ _ _ _ _
  refine WC.block ?_
  refine WC.forU h (fun (i7 : Nat) (out_1 : List Int) σ w => ∃ (A2 : Option Addr), ∃ (c3 : Nat), ∃ (row4 : Rowb), slots σ [(0, .slice Aa a.length ca), (1, .slice Ab b.length cb), (5, .slice A2 out_1.length c3), (6, .int .i64 ((i7 : Nat) : Int))] ∧ CC F Γ [row4] w ∧ Own intT Γ 3 row4 A2 c3 out_1 ∧ True) ?_ ?_
  · skip
    intro w hw
    have hw := hw.pad
    exact ⟨none, 0, [], (sl_ (by kernel_rfl)), hw, (Own.nil intT _ 3), trivial⟩
  rintro f6 i7 out_1 σ w hi8 hlt9 hge10 ⟨A2, c3, row4, hsl, hw, ho5, -⟩
  refine Wpt.slots hsl ?_
  refine WC.here (C := CC F Γ [row4]) ?_ hw
  clear hw hsl
  refine WC.seq ?_
  refine WC.rs ?_
  refine va rfl rfl rfl (q_move (v := .int .i64 ((i7 : Nat) : Int)) rfl (by kernel_rfl)) ?_
  refine va rfl rfl rfl (q_lss rfl rfl rfl) ?_
  refine WR.nil ?_
  change WC _ _ _ _ _ _
  refine WC.cond (b := (decide (((i7 : Nat) : Int) < 16))) (by kernel_rfl) (fun hb11 => ?_) (fun hb11 => ?_)
  · skip
    have hl12 := ilt hb11
    have h := hlt9 hl12
    refine WC.skip ?_
    change WC _ _ _ _ _ _
    refine WC.cut (fun σ w => ∃ (out_13 : List Int), ∃ (A14 : Option Addr), ∃ (c15 : Nat), ∃ (row16 : Rowb), m_firthref11_Differ_j5 f6 out_13 = some r ∧ slots σ [(0, .slice Aa a.length ca), (1, .slice Ab b.length cb), (5, .slice A14 out_13.length c15), (6, .int .i64 ((i7 : Nat) : Int))] ∧ CC F Γ [row16] w ∧ Own intT Γ 3 row16 A14 c15 out_13 ∧ True) ?_ ?_
    · skip
      refine WC.block ?_
      refine WC.rs ?_
      refine va rfl rfl rfl (q_move (v := .slice Aa a.length ca) rfl (by kernel_rfl)) ?_
      refine va rfl rfl rfl (q_move (v := .int .i64 ((i7 : Nat) : Int)) rfl (by kernel_rfl)) ?_
      obtain ⟨z18, hz19, h⟩ := bnd h
      refine vc rfl rfl rfl (q_call (call_run Tryz.call82 rfl rfl (by kernel_rfl)) (fun w hw => t_firthref11_at (Γ := Gh.all w) (ha.mono hw.sat.le_all) hac ((i7 : Nat) : Int) (ctr_lit0 hl12 (by decide)) (Sat.all w) hz19)) ?_
      refine va rfl rfl rfl (q_move (v := .slice Ab b.length cb) rfl (by kernel_rfl)) ?_
      refine va rfl rfl rfl (q_move (v := .int .i64 ((i7 : Nat) : Int)) rfl (by kernel_rfl)) ?_
      obtain ⟨z20, hz21, h⟩ := bnd h
      refine vc rfl rfl rfl (q_call (call_run Tryz.call82 rfl rfl (by kernel_rfl)) (fun w hw => t_firthref11_at (Γ := Gh.all w) (hb.mono hw.sat.le_all) hbc ((i7 : Nat) : Int) (ctr_lit0 hl12 (by decide)) (Sat.all w) hz21)) ?_
      refine va rfl rfl rfl (q_neq rfl rfl rfl) ?_
      refine WR.nil ?_
      change WC _ _ _ _ _ _
      refine WC.cif h (by kernel_rfl) (fun hb22 h => ?_) (fun hb22 h => ?_)
      · skip
        refine WC.region ?_
        refine va rfl rfl rfl (q_move (v := .slice A2 out_1.length c3) rfl (by kernel_rfl)) ?_
        refine va rfl rfl rfl (q_move (v := .int .i64 ((i7 : Nat) : Int)) rfl (by kernel_rfl)) ?_
        refine e_buildSlice (cs := #[.int .i64 ((i7 : Nat) : Int)]) (e := 3) rfl rfl rfl rfl (fun w => by kernel_rfl) ?_
        intro g23
        obtain ⟨hk24, h⟩ := chk_some h
        refine e_append (T := intT) (xs := out_1) (ys := [((i7 : Nat) : Int)]) elem_24 (i := 1) rfl rfl rfl rfl rfl rfl rfl ho5 (of_decide_eq_true hk24) (fun w hw => src_one (T := intT) (y := ((i7 : Nat) : Int)) (i := 0) rfl (by exact ⟨rfl, (ctr_lit0 hl12 (by decide))⟩) hw) ?_
        intro row25 A26 c27 ho28
        refine va rfl rfl rfl (q_assign (v := .slice A26 (out_1 ++ [((i7 : Nat) : Int)]).length c27) rfl (by kernel_rfl)) ?_
        refine WR.nil ?_
        intro w hw
        exact ⟨(out_1 ++ [((i7 : Nat) : Int)]), A26, c27, row25, h, (sl_ (by kernel_rfl)), (hw.only (is := [1]) rfl), ho28, trivial⟩
      · skip
        refine WC.skip ?_
        intro w hw
        exact ⟨out_1, A2, c3, row4, h, (sl_ (by kernel_rfl)), hw, ho5, trivial⟩
    · skip
      rintro σ w ⟨out_13, A14, c15, row16, h, hsl, hw, ho17, -⟩
      refine Wpt.slots hsl ?_
      refine WC.here (C := CC F Γ [row16]) ?_ hw
      clear hw hsl
      refine WC.region ?_
      refine va rfl rfl rfl (q_move (v := .int .i64 ((i7 : Nat) : Int)) rfl (by kernel_rfl)) ?_
      refine va rfl rfl rfl (q_add_r (r := ((i7 + 1 : Nat) : Int)) rfl rfl rfl (ctr_lit hl12 (by decide))) ?_
      refine va rfl rfl rfl (q_assign (v := .int .i64 ((i7 + 1 : Nat) : Int)) rfl (by kernel_rfl)) ?_
      refine WR.nil ?_
      intro w hw
      exact ⟨hl12, out_13, h, A14, c15, row16, (sl_ (by kernel_rfl)), hw, ho17, trivial⟩
  · skip
    have h := hge10 (ige hb11)
    refine WC.exit ?_
    change WC _ _ _ _ _ _
    refine WC.rs ?_
    refine va rfl rfl rfl (q_move (v := .slice A2 out_1.length c3) rfl (by kernel_rfl)) ?_
    refine va rfl rfl rfl (q_assign (v := .slice A2 out_1.length c3) rfl (by kernel_rfl)) ?_
    refine WR.nil ?_
    change WC _ _ _ _ _ _
    refine WC.ret ?_
    intro w hw
    obtain rfl := Option.some.inj h
    subst hF
    exact end_e (is := [0]) (by kernel_rfl) hw rfl ⟨A2, c3, row4, rfl, rfl, ho5, trivial⟩
abbrev r_firthref19_Pull_Begin (gp_ : Nat) (ep_ : Nat) (r : Ofirthref19_Pull × Bool) (U : List Rowb) (Γ : Gh) (v : Value) : Prop := ∃ (rowp_' : Rowb), v = .bool r.2 ∧ U = [rowp_'] ∧ Ofirthref19_Pull.ob ep_ Γ gp_ rowp_' r.1 ∧ True
set_option maxRecDepth 100000 in
set_option maxHeartbeats 400000 in
theorem t_firthref19_Pull_Begin {Γ : Gh} {w0 : World} {gp_ ep_ : Nat} {rowp_ : Rowb} {p_ : Ofirthref19_Pull} (hp_ : Ofirthref19_Pull.ob ep_ Γ gp_ rowp_ p_) {Avec : Option Addr} {cvec : Nat} {vec : List Int} (hvec : Sl intT Γ Avec vec) (hvecc : vec.length ≤ cvec) {Ahashes : Option Addr} {chashes : Nat} {hashes : List Int} (hhashes : Sl u64T Γ Ahashes hashes) (hhashesc : hashes.length ≤ chashes) (hp : Pre [rowp_] Γ w0) {r : Ofirthref19_Pull × Bool} (h : m_firthref19_Pull_Begin p_ vec hashes = some r) : Calls Tryz.prog 25 #[.pointer (some ⟨gp_, 0, none⟩), .slice Avec vec.length cvec, .slice Ahashes hashes.length chashes] w0 (Outc Γ [rowp_] w0 (r_firthref19_Pull_Begin gp_ ep_ r)) := by
  refine calls_of (N := 57) (rs := [6]) (args := [.pointer (some ⟨gp_, 0, none⟩), .slice Avec vec.length cvec, .slice Ahashes hashes.length chashes]) Tryz.func25 rfl Tryz.ntmps25 Tryz.results25 rfl ?_
  obtain ⟨F, hF⟩ : ∃ F : Fm, F = ⟨ids [rowp_], w0, Γ⟩ := ⟨_, rfl⟩
  refine WC.here (C := CC F Γ [rowp_]) ?_ (hF ▸ hp.start)
  refine WC.rs ?_
  refine va rfl rfl rfl (q_assign (v := .bool false) rfl (by kernel_rfl)) ?_
  refine WR.nil ?_
  change WC _ _ _ _ _ _
  refine WC.seq ?_
  refine WC.rs ?_
  refine va rfl rfl rfl (q_move (v := .pointer (some ⟨gp_, 0, none⟩)) rfl (by kernel_rfl)) ?_
  refine va rfl rfl rfl (q_nil (A := some ⟨gp_, 0, none⟩) rfl rfl rfl) ?_
  refine va rfl rfl rfl (q_fl 2 fld_59_2 rfl rfl rfl) ?_
  have hq := hp_
  obtain ⟨A1_1, c1_1, A3_1, c3_1, r3_1, A4_1, c4_1, r4_1, A5_1, c5_1, hrow_1, ho0_1, ho1_1, ho2_1, ho3_1, ho4_1, ho5_1, ho6_1, -⟩ := hq
  intro w hw; have hw := hw.unfold (i := 0) rfl hrow_1
  refine WR.here (C := CC F Γ [[(gp_, .cells #[.int .i64 p_.id, .slice A1_1 p_.own.length c1_1, .bool p_.begun, .slice A3_1 p_.vec.length c3_1, .slice A4_1 p_.paths.length c4_1, .slice A5_1 p_.in_.length c5_1] ep_ (0, 0))], r3_1, r4_1]) ?_ hw
  clear hw
  refine va rfl rfl rfl (q_ldl (i := 0) (v := .bool p_.begun) rfl rfl Tryz.isAgg4 rfl rfl) ?_
  refine va rfl rfl rfl (q_move (v := .bool p_.begun) rfl (by kernel_rfl)) ?_
  refine vg0 rfl rfl rfl rfl rfl (fun hg2 => QV.qo (q_move (v := .slice Avec vec.length cvec) rfl (by kernel_rfl))) ?_
  obtain ⟨z4, hz5, h⟩ := bnd h
  refine vg0 rfl rfl rfl rfl rfl (fun hg3 => (q_call (call_run Tryz.call47 rfl rfl (args1 (gu hg3 rfl))) (fun w hw => t_firthref04_Right (Γ := Gh.all w) (hvec.mono hw.sat.le_all) hvecc (Sat.all w) (gc_of hz5 hg3)))) ?_
  refine vg0 rfl rfl rfl rfl rfl (fun hg6 => QV.qo (q_not rfl (gu hg6 rfl))) ?_
  refine va rfl rfl rfl (q_pick rfl rfl (pk_or' (g := p_.begun) (y := (!z4)))) ?_
  refine WR.nil ?_
  change WC _ _ _ _ _ _
  refine WC.cif h (by kernel_rfl) (fun hb7 h => ?_) (fun hb7 h => ?_)
  · skip
    refine WC.rs ?_
    refine va rfl rfl rfl (q_assign (v := .bool false) rfl (by kernel_rfl)) ?_
    refine WR.nil ?_
    change WC _ _ _ _ _ _
    refine WC.ret ?_
    intro w hw
    have hw := hw.fold (is := [0, 0, 0]) rfl hrow_1
    obtain rfl := Option.some.inj h
    subst hF
    exact end_e (is := [0]) (by kernel_rfl) hw rfl ⟨rowp_, rfl, rfl, hp_, trivial⟩
  · skip
    refine WC.skip ?_
    change WC _ _ _ _ _ _
    refine WC.rs ?_
    refine va rfl rfl rfl (q_move (v := .pointer (some ⟨gp_, 0, none⟩)) rfl (by kernel_rfl)) ?_
    refine va rfl rfl rfl (q_nil (A := some ⟨gp_, 0, none⟩) rfl rfl rfl) ?_
    refine va rfl rfl rfl (q_fl 2 fld_59_2 rfl rfl rfl) ?_
    refine e_st (i := 0) (v := .bool true) (new := #[.int .i64 p_.id, .slice A1_1 p_.own.length c1_1, .bool true, .slice A3_1 p_.vec.length c3_1, .slice A4_1 p_.paths.length c4_1, .slice A5_1 p_.in_.length c5_1]) rfl Tryz.sizeOf4 rfl rfl rfl rfl (by kernel_rfl) rfl rfl rfl rfl ?_
    refine WR.nil ?_
    change WC _ _ _ _ _ _
    refine WC.rs ?_
    refine va rfl rfl rfl (q_move (v := .pointer (some ⟨gp_, 0, none⟩)) rfl (by kernel_rfl)) ?_
    refine va rfl rfl rfl (q_move (v := .pointer (some ⟨gp_, 0, none⟩)) rfl (by kernel_rfl)) ?_
    refine va rfl rfl rfl (q_nil (A := some ⟨gp_, 0, none⟩) rfl rfl rfl) ?_
    refine va rfl rfl rfl (q_fl 3 fld_59_3 rfl rfl rfl) ?_
    refine va rfl rfl rfl (q_ldl (i := 0) (v := .slice A3_1 p_.vec.length c3_1) rfl rfl Tryz.isAgg22 rfl rfl) ?_
    refine va rfl rfl rfl (q_move (v := .slice Avec vec.length cvec) rfl (by kernel_rfl)) ?_
    obtain ⟨hk9, h⟩ := chk_some h
    refine e_append (T := intT) (xs := p_.vec) (ys := vec) elem_22 (i := 1) rfl rfl rfl rfl rfl rfl rfl ho3_1 (of_decide_eq_true hk9) (fun w hw => src_sl hvec hw) ?_
    intro row10 A11 c12 ho13
    refine va rfl rfl rfl (q_nil (A := some ⟨gp_, 0, none⟩) rfl rfl rfl) ?_
    refine va rfl rfl rfl (q_fl 3 fld_59_3 rfl rfl rfl) ?_
    refine e_st (i := 0) (v := .slice A11 (p_.vec ++ vec).length c12) (new := #[.int .i64 p_.id, .slice A1_1 p_.own.length c1_1, .bool true, .slice A11 (p_.vec ++ vec).length c12, .slice A4_1 p_.paths.length c4_1, .slice A5_1 p_.in_.length c5_1]) rfl Tryz.sizeOf22 rfl rfl rfl rfl (by kernel_rfl) rfl rfl rfl rfl ?_
    refine WR.nil ?_
    change WC _ _ _ _ _ _
    refine WC.rs ?_
    refine va rfl rfl rfl (q_move (v := .pointer (some ⟨gp_, 0, none⟩)) rfl (by kernel_rfl)) ?_
    refine va rfl rfl rfl (q_nil (A := some ⟨gp_, 0, none⟩) rfl rfl rfl) ?_
    refine va rfl rfl rfl (q_fl 1 fld_59_1 rfl rfl rfl) ?_
    refine va rfl rfl rfl (q_ldl (i := 0) (v := .slice A1_1 p_.own.length c1_1) rfl rfl Tryz.isAgg23 rfl rfl) ?_
    obtain ⟨z14, hz15, h⟩ := bnd h
    refine e_call (is := []) rfl rfl (call_run Tryz.call20 rfl rfl (by kernel_rfl)) rfl (fun w hp => t_firthref11_Kids ho2_1 ho1_1 (Sl.nil intT _ none) (Nat.zero_le 0) hp hz15) ?_
    rintro Γ16 U18 v19 hl17 ⟨A20, c21, row22, rfl, rfl, hr23, _⟩
    change WR _ _ _ (CC F Γ16 [row22, [(gp_, .cells #[.int .i64 p_.id, .slice A1_1 p_.own.length c1_1, .bool true, .slice A11 (p_.vec ++ vec).length c12, .slice A4_1 p_.paths.length c4_1, .slice A5_1 p_.in_.length c5_1] ep_ (0, 0))], row10, r4_1]) _ _ (upd _ 34 (.slice A20 z14.length c21))
    refine va rfl rfl rfl (q_move (v := .slice Ahashes hashes.length chashes) rfl (by kernel_rfl)) ?_
    have hc28 := hr23.capz
    intro w hw; obtain ⟨Γ24, hw, hl25, hr26⟩ := hw.seal (i := 0) rfl; have hs27 := hr23.sl hl25 hr26
    refine WR.here (C := CC F Γ24 [[], [(gp_, .cells #[.int .i64 p_.id, .slice A1_1 p_.own.length c1_1, .bool true, .slice A11 (p_.vec ++ vec).length c12, .slice A4_1 p_.paths.length c4_1, .slice A5_1 p_.in_.length c5_1] ep_ (0, 0))], row10, r4_1]) ?_ hw
    clear hw
    obtain ⟨z29, hz30, h⟩ := bnd h
    refine e_call (is := []) rfl rfl (call_run Tryz.call59 rfl rfl (by kernel_rfl)) rfl (fun w hp => t_firthref11_Differ hs27 hc28 (hhashes.mono (hl17.trans hl25)) hhashesc hp hz30) ?_
    rintro Γ31 U33 v34 hl32 ⟨A35, c36, row37, rfl, rfl, hr38, _⟩
    change WR _ _ _ (CC F Γ31 [row37, [], [(gp_, .cells #[.int .i64 p_.id, .slice A1_1 p_.own.length c1_1, .bool true, .slice A11 (p_.vec ++ vec).length c12, .slice A4_1 p_.paths.length c4_1, .slice A5_1 p_.in_.length c5_1] ep_ (0, 0))], row10, r4_1]) _ _ (upd _ 36 (.slice A35 z29.length c36))
    refine va rfl rfl rfl (q_assign (v := .slice A35 z29.length c36) rfl (by kernel_rfl)) ?_
    refine WR.nil ?_
    change WC _ _ _ _ _ _
    refine WC.seq ?_
    refine WC.rs ?_
    refine va rfl rfl rfl (q_assign (v := .int .i64 0) rfl (by kernel_rfl)) ?_
    refine WR.nil ?_
    change WC _ _ _ _ _ _
    refine WC.block ?_
    obtain ⟨row_39, hrow_39, hob_39⟩ : ∃ rw : Rowb, rw = ([[(gp_, .cells #[.int .i64 p_.id, .slice A1_1 p_.own.length c1_1, .bool true, .slice A11 (p_.vec ++ vec).length c12, .slice A4_1 p_.paths.length c4_1, .slice A5_1 p_.in_.length c5_1] ep_ (0, 0))], row10, r4_1] : List Rowb).flatten ∧ Ofirthref19_Pull.ob ep_ Γ31 gp_ rw (⟨p_.id, p_.own, true, (p_.vec ++ vec), p_.paths, p_.in_⟩ : Ofirthref19_Pull) := ⟨_, rfl, A1_1, c1_1, A11, c12, row10, A4_1, c4_1, r4_1, A5_1, c5_1, rfl, ho0_1, ho1_1, (ho2_1.mono ((hl17.trans hl25).trans hl32)), (ho13.mono ((hl17.trans hl25).trans hl32)), (ho4_1.mono ((hl17.trans hl25).trans hl32)), ho5_1, (ho6_1.mono ((hl17.trans hl25).trans hl32)), trivial⟩
    intro w hw; have hw := hw.fold (is := [2, 2, 2]) rfl hrow_39
    refine WC.here (C := CC F Γ31 [row_39, row37, []]) ?_ hw
    clear hw
    refine WC.forI h (fun (i46 : Nat) (o42 : Ofirthref19_Pull) σ w => ∃ (Γ40 : Gh), ∃ (row43 : Rowb), slots σ [(0, .pointer (some ⟨gp_, 0, none⟩)), (7, .slice A35 z29.length c36), (8, .int .i64 ((i46 : Nat) : Int))] ∧ CC F Γ40 [row43, row37] w ∧ Gh.le Γ31 Γ40 ∧ Ofirthref19_Pull.ob ep_ Γ40 gp_ row43 o42 ∧ True) ?_ ?_
    · skip
      intro w hw
      exact ⟨Γ31, row_39, (sl_ (by kernel_rfl)), (hw.only (is := [0, 0]) rfl), (Gh.refl _), hob_39, trivial⟩
    rintro f45 i46 o42 σ w hi47 hlt48 hge49 ⟨Γ40, row43, hsl, hw, hl41, ho44, -⟩
    refine Wpt.slots hsl ?_
    refine WC.here (C := CC F Γ40 [row43, row37]) ?_ hw
    clear hw hsl
    refine WC.seq ?_
    refine WC.rs ?_
    refine va rfl rfl rfl (q_move (v := .int .i64 ((i46 : Nat) : Int)) rfl (by kernel_rfl)) ?_
    refine va rfl rfl rfl (q_move (v := .slice A35 z29.length c36) rfl (by kernel_rfl)) ?_
    refine va rfl rfl rfl (q_len_slice rfl Tryz.underlying24 rfl) ?_
    refine va rfl rfl rfl (q_lss rfl rfl rfl) ?_
    refine WR.nil ?_
    change WC _ _ _ _ _ _
    refine WC.cond (b := (decide (((i46 : Nat) : Int) < ((z29.length : Nat) : Int)))) (by kernel_rfl) (fun hb50 => ?_) (fun hb50 => ?_)
    · skip
      have hl51 := ilt hb50
      have h := hlt48 hl51
      refine WC.skip ?_
      change WC _ _ _ _ _ _
      refine WC.seq ?_
      refine WC.block ?_
      intro w hw; have h052 := hw.le
      refine WC.here (C := CC F Γ40 [row43, row37]) ?_ hw; clear hw
      refine WC.held (CC F Γ40 []) (by kernel_rfl) (fun w hw => hw.drawn _) ?_
      change WH _ _ _ _ (CC F Γ40 [row43, row37]) _ 15 #[false, false, false, false, false, false, false, false, false, false, false, false, false, false, false] _
      refine ht (i := 0) rfl (by kernel_rfl) rfl rfl rfl (fun w hw => hw.back (Gh.refl _) h052 (.cons _ (.cons _ .slnil))) (q_move (v := .pointer (some ⟨gp_, 0, none⟩)) rfl (by kernel_rfl)) ?_
      refine ht (i := 1) rfl (by kernel_rfl) rfl rfl rfl (fun w hw => hw.back (Gh.refl _) h052 (.cons _ (.cons _ .slnil))) (q_move (v := .pointer (some ⟨gp_, 0, none⟩)) rfl (by kernel_rfl)) ?_
      refine ht (i := 2) rfl (by kernel_rfl) rfl rfl rfl (fun w hw => hw.back (Gh.refl _) h052 (.cons _ (.cons _ .slnil))) (q_nil (A := some ⟨gp_, 0, none⟩) rfl rfl rfl) ?_
      refine ht (i := 3) rfl (by kernel_rfl) rfl rfl rfl (fun w hw => hw.back (Gh.refl _) h052 (.cons _ (.cons _ .slnil))) (q_fl 4 fld_59_4 rfl rfl rfl) ?_
      refine ht (i := 5) rfl (by kernel_rfl) rfl rfl rfl (fun w hw => hw.back (Gh.refl _) h052 (.cons _ (.cons _ .slnil))) (q_move (v := .slice A35 z29.length c36) rfl (by kernel_rfl)) ?_
      refine ht (i := 6) rfl (by kernel_rfl) rfl rfl rfl (fun w hw => hw.back (Gh.refl _) h052 (.cons _ (.cons _ .slnil))) (q_move (v := .int .i64 ((i46 : Nat) : Int)) rfl (by kernel_rfl)) ?_
      refine WH.each (l := [4, 7]) (by kernel_rfl) (by simp) ?_
      intro i hi; simp only [List.mem_cons, List.not_mem_nil, or_false] at hi
      rcases hi with rfl | rfl
      · refine ⟨_, rfl, ?_⟩
        have hq := ho44
        obtain ⟨A1_53, c1_53, A3_53, c3_53, r3_53, A4_53, c4_53, r4_53, A5_53, c5_53, hrow_53, ho0_53, ho1_53, ho2_53, ho3_53, ho4_53, ho5_53, ho6_53, -⟩ := hq
        intro w hw; have hw := hw.unfold (i := 0) rfl hrow_53
        refine WR.here (C := CC F Γ40 [[(gp_, .cells #[.int .i64 o42.id, .slice A1_53 o42.own.length c1_53, .bool o42.begun, .slice A3_53 o42.vec.length c3_53, .slice A4_53 o42.paths.length c4_53, .slice A5_53 o42.in_.length c5_53] ep_ (0, 0))], r3_53, r4_53, row37]) ?_ hw
        clear hw
        refine va rfl rfl rfl (q_ldl (i := 0) (v := .slice A4_53 o42.paths.length c4_53) rfl rfl Tryz.isAgg57 rfl rfl) ?_
        refine WR.nil ?_
        refine WH.next (fun w hw => hw.back (Gh.refl _) h052 (.cons _ (.cons _ (.cons _ (.cons _ .slnil))))) ?_
        refine WH.lone (i := 7) (by kernel_rfl) rfl ?_
        refine va rfl rfl rfl (q_ixn (i := i46) Tryz.underlying24 Tryz.sizeOf3 rfl rfl rfl hl51 ((hr38.mono hl41).some_ hl51)) ?_
        refine WR.nil ?_
        refine WH.next (fun w hw => hw.back (Gh.refl _) h052 (.cons _ (.cons _ (.cons _ (.cons _ .slnil))))) ?_
        refine WH.lone (i := 8) (by kernel_rfl) rfl ?_
        refine va rfl rfl rfl (q_ldo (c := 0) (v := .int .i64 (gt z29 i46)) (i := 3) rfl ((hr38.mono hl41).intT_at hl51).2 rfl Tryz.isAgg3 rfl rfl) ?_
        refine WR.nil ?_
        refine WH.next (fun w hw => hw.back (Gh.refl _) h052 (.cons _ (.cons _ (.cons _ (.cons _ .slnil))))) ?_
        refine WH.lone (i := 9) (by kernel_rfl) rfl ?_
        refine e_buildSlice (cs := #[.int .i64 (gt z29 i46)]) (e := 3) rfl rfl rfl rfl (fun w => by kernel_rfl) ?_
        intro g54
        refine WR.nil ?_
        refine WH.next (fun w hw => hw.back (Gh.refl _) h052 (.cons _ (.cons _ (.cons _ (.cons _ (.cons _ .slnil)))))) ?_
        refine WH.lone (i := 10) (by kernel_rfl) rfl ?_
        have ho55 : Own intT Γ40 3 [(g54, .cells #[.int .i64 (gt z29 i46)] 3 (0, 0))] (some ⟨g54, 0, none⟩) 1 [(gt z29 i46)] := Own.of_blockL (T := intT) (ys := [(gt z29 i46)]) [[.int .i64 (gt z29 i46)]] rfl (show 1 ≤ lim by decide) (show Ty.rd intT Γ40 [.int .i64 (gt z29 i46)] (gt z29 i46) ∧ True from ⟨⟨rfl, ((hr38.mono hl41).intT_at hl51).1⟩, trivial⟩)
        have hc60 := ho55.capz
        intro w hw; obtain ⟨Γ56, hw, hl57, hr58⟩ := hw.seal (i := 0) rfl; have hs59 := ho55.sl hl57 hr58
        refine WR.here (C := CC F Γ56 [[], [(gp_, .cells #[.int .i64 o42.id, .slice A1_53 o42.own.length c1_53, .bool o42.begun, .slice A3_53 o42.vec.length c3_53, .slice A4_53 o42.paths.length c4_53, .slice A5_53 o42.in_.length c5_53] ep_ (0, 0))], r3_53, r4_53, row37]) ?_ hw
        clear hw
        refine e_buildSlice (cs := #[.slice (some ⟨g54, 0, none⟩) [(gt z29 i46)].length 1]) (e := 24) rfl rfl rfl rfl (fun w => by kernel_rfl) ?_
        intro g61
        refine WR.nil ?_
        refine WH.next (fun w hw => hw.back hl57 h052 (.cons _ (.cons _ (.cons _ (.cons _ (.cons _ (.cons _ .slnil))))))) ?_
        refine WH.lone (i := 11) (by kernel_rfl) rfl ?_
        obtain ⟨hk62, h⟩ := chk_some h
        refine e_append (T := (slT intT)) (xs := o42.paths) (ys := [[(gt z29 i46)]]) elem_57 (i := 4) rfl rfl rfl rfl rfl rfl rfl (ho4_53.mono hl57) (of_decide_eq_true hk62) (fun w hw => src_one (T := (slT intT)) (y := [(gt z29 i46)]) (i := 0) rfl (by exact ⟨(some ⟨g54, 0, none⟩), 1, rfl, hc60, hs59⟩) hw) ?_
        intro row63 A64 c65 ho66
        refine WR.nil ?_
        refine WH.next (fun w hw => hw.back hl57 h052 (.cons _ (.cons _ (.cons _ (.cons _ (.cons _ (.cons _ .slnil))))))) ?_
        refine ht (i := 12) rfl (by kernel_rfl) rfl rfl rfl (fun w hw => hw.back hl57 h052 (.cons _ (.cons _ (.cons _ (.cons _ (.cons _ (.cons _ .slnil))))))) (q_nil (A := some ⟨gp_, 0, none⟩) rfl rfl rfl) ?_
        refine ht (i := 13) rfl (by kernel_rfl) rfl rfl rfl (fun w hw => hw.back hl57 h052 (.cons _ (.cons _ (.cons _ (.cons _ (.cons _ (.cons _ .slnil))))))) (q_fl 4 fld_59_4 rfl rfl rfl) ?_
        refine WH.lone (i := 14) (by kernel_rfl) rfl ?_
        refine e_st (i := 2) (v := .slice A64 (o42.paths ++ [[(gt z29 i46)]]).length c65) (new := #[.int .i64 o42.id, .slice A1_53 o42.own.length c1_53, .bool o42.begun, .slice A3_53 o42.vec.length c3_53, .slice A64 (o42.paths ++ [[(gt z29 i46)]]).length c65, .slice A5_53 o42.in_.length c5_53]) rfl Tryz.sizeOf57 rfl rfl rfl rfl (by kernel_rfl) rfl rfl rfl rfl ?_
        refine WR.nil ?_
        refine WH.next (fun w hw => hw.back hl57 h052 (.cons _ (.cons _ (.cons _ (.cons _ (.cons _ (.cons _ .slnil))))))) ?_
        refine WH.done (by kernel_rfl) ?_
        change WC _ _ _ _ _ _
        refine WC.region ?_
        refine va rfl rfl rfl (q_move (v := .int .i64 ((i46 : Nat) : Int)) rfl (by kernel_rfl)) ?_
        refine va rfl rfl rfl (q_add_r (r := ((i46 + 1 : Nat) : Int)) rfl rfl rfl (ctr_len hl51 (hr38.mono hl41).le)) ?_
        refine va rfl rfl rfl (q_assign (v := .int .i64 ((i46 + 1 : Nat) : Int)) rfl (by kernel_rfl)) ?_
        refine WR.nil ?_
        intro w hw
        obtain ⟨row_67, hrow_67, hob_67⟩ : ∃ rw : Rowb, rw = ([[(gp_, .cells #[.int .i64 o42.id, .slice A1_53 o42.own.length c1_53, .bool o42.begun, .slice A3_53 o42.vec.length c3_53, .slice A64 (o42.paths ++ [[(gt z29 i46)]]).length c65, .slice A5_53 o42.in_.length c5_53] ep_ (0, 0))], r3_53, row63] : List Rowb).flatten ∧ Ofirthref19_Pull.ob ep_ Γ56 gp_ rw (⟨o42.id, o42.own, o42.begun, o42.vec, (o42.paths ++ [[(gt z29 i46)]]), o42.in_⟩ : Ofirthref19_Pull) := ⟨_, rfl, A1_53, c1_53, A3_53, c3_53, r3_53, A64, c65, row63, A5_53, c5_53, rfl, ho0_53, ho1_53, (ho2_53.mono hl57), (ho3_53.mono hl57), ho66, ho5_53, (ho6_53.mono hl57), trivial⟩
        have hw := hw.fold (is := [2, 2, 2]) rfl hrow_67
        exact ⟨hl51, (⟨o42.id, o42.own, o42.begun, o42.vec, (o42.paths ++ [[(gt z29 i46)]]), o42.in_⟩ : Ofirthref19_Pull), h, Γ56, row_67, (sl_ (by kernel_rfl)), (hw.only (is := [0, 2]) rfl), (hl41.trans hl57), hob_67, trivial⟩
      · refine ⟨_, rfl, ?_⟩
        refine va rfl rfl rfl (q_ixn (i := i46) Tryz.underlying24 Tryz.sizeOf3 rfl rfl rfl hl51 ((hr38.mono hl41).some_ hl51)) ?_
        refine WR.nil ?_
        refine WH.next (fun w hw => hw.back (Gh.refl _) h052 (.cons _ (.cons _ .slnil))) ?_
        refine WH.each (l := [4, 8]) (by kernel_rfl) (by simp) ?_
        intro i hi; simp only [List.mem_cons, List.not_mem_nil, or_false] at hi
        rcases hi with rfl | rfl
        · refine ⟨_, rfl, ?_⟩
          have hq := ho44
          obtain ⟨A1_53, c1_53, A3_53, c3_53, r3_53, A4_53, c4_53, r4_53, A5_53, c5_53, hrow_53, ho0_53, ho1_53, ho2_53, ho3_53, ho4_53, ho5_53, ho6_53, -⟩ := hq
          intro w hw; have hw := hw.unfold (i := 0) rfl hrow_53
          refine WR.here (C := CC F Γ40 [[(gp_, .cells #[.int .i64 o42.id, .slice A1_53 o42.own.length c1_53, .bool o42.begun, .slice A3_53 o42.vec.length c3_53, .slice A4_53 o42.paths.length c4_53, .slice A5_53 o42.in_.length c5_53] ep_ (0, 0))], r3_53, r4_53, row37]) ?_ hw
          clear hw
          refine va rfl rfl rfl (q_ldl (i := 0) (v := .slice A4_53 o42.paths.length c4_53) rfl rfl Tryz.isAgg57 rfl rfl) ?_
          refine WR.nil ?_
          refine WH.next (fun w hw => hw.back (Gh.refl _) h052 (.cons _ (.cons _ (.cons _ (.cons _ .slnil))))) ?_
          refine WH.lone (i := 8) (by kernel_rfl) rfl ?_
          refine va rfl rfl rfl (q_ldo (c := 0) (v := .int .i64 (gt z29 i46)) (i := 3) rfl ((hr38.mono hl41).intT_at hl51).2 rfl Tryz.isAgg3 rfl rfl) ?_
          refine WR.nil ?_
          refine WH.next (fun w hw => hw.back (Gh.refl _) h052 (.cons _ (.cons _ (.cons _ (.cons _ .slnil))))) ?_
          refine WH.lone (i := 9) (by kernel_rfl) rfl ?_
          refine e_buildSlice (cs := #[.int .i64 (gt z29 i46)]) (e := 3) rfl rfl rfl rfl (fun w => by kernel_rfl) ?_
          intro g54
          refine WR.nil ?_
          refine WH.next (fun w hw => hw.back (Gh.refl _) h052 (.cons _ (.cons _ (.cons _ (.cons _ (.cons _ .slnil)))))) ?_
          refine WH.lone (i := 10) (by kernel_rfl) rfl ?_
          have ho55 : Own intT Γ40 3 [(g54, .cells #[.int .i64 (gt z29 i46)] 3 (0, 0))] (some ⟨g54, 0, none⟩) 1 [(gt z29 i46)] := Own.of_blockL (T := intT) (ys := [(gt z29 i46)]) [[.int .i64 (gt z29 i46)]] rfl (show 1 ≤ lim by decide) (show Ty.rd intT Γ40 [.int .i64 (gt z29 i46)] (gt z29 i46) ∧ True from ⟨⟨rfl, ((hr38.mono hl41).intT_at hl51).1⟩, trivial⟩)
          have hc60 := ho55.capz
          intro w hw; obtain ⟨Γ56, hw, hl57, hr58⟩ := hw.seal (i := 0) rfl; have hs59 := ho55.sl hl57 hr58
          refine WR.here (C := CC F Γ56 [[], [(gp_, .cells #[.int .i64 o42.id, .slice A1_53 o42.own.length c1_53, .bool o42.begun, .slice A3_53 o42.vec.length c3_53, .slice A4_53 o42.paths.length c4_53, .slice A5_53 o42.in_.length c5_53] ep_ (0, 0))], r3_53, r4_53, row37]) ?_ hw
          clear hw
          refine e_buildSlice (cs := #[.slice (some ⟨g54, 0, none⟩) [(gt z29 i46)].length 1]) (e := 24) rfl rfl rfl rfl (fun w => by kernel_rfl) ?_
          intro g61
          refine WR.nil ?_
          refine WH.next (fun w hw => hw.back hl57 h052 (.cons _ (.cons _ (.cons _ (.cons _ (.cons _ (.cons _ .slnil))))))) ?_
          refine WH.lone (i := 11) (by kernel_rfl) rfl ?_
          obtain ⟨hk62, h⟩ := chk_some h
          refine e_append (T := (slT intT)) (xs := o42.paths) (ys := [[(gt z29 i46)]]) elem_57 (i := 4) rfl rfl rfl rfl rfl rfl rfl (ho4_53.mono hl57) (of_decide_eq_true hk62) (fun w hw => src_one (T := (slT intT)) (y := [(gt z29 i46)]) (i := 0) rfl (by exact ⟨(some ⟨g54, 0, none⟩), 1, rfl, hc60, hs59⟩) hw) ?_
          intro row63 A64 c65 ho66
          refine WR.nil ?_
          refine WH.next (fun w hw => hw.back hl57 h052 (.cons _ (.cons _ (.cons _ (.cons _ (.cons _ (.cons _ .slnil))))))) ?_
          refine ht (i := 12) rfl (by kernel_rfl) rfl rfl rfl (fun w hw => hw.back hl57 h052 (.cons _ (.cons _ (.cons _ (.cons _ (.cons _ (.cons _ .slnil))))))) (q_nil (A := some ⟨gp_, 0, none⟩) rfl rfl rfl) ?_
          refine ht (i := 13) rfl (by kernel_rfl) rfl rfl rfl (fun w hw => hw.back hl57 h052 (.cons _ (.cons _ (.cons _ (.cons _ (.cons _ (.cons _ .slnil))))))) (q_fl 4 fld_59_4 rfl rfl rfl) ?_
          refine WH.lone (i := 14) (by kernel_rfl) rfl ?_
          refine e_st (i := 2) (v := .slice A64 (o42.paths ++ [[(gt z29 i46)]]).length c65) (new := #[.int .i64 o42.id, .slice A1_53 o42.own.length c1_53, .bool o42.begun, .slice A3_53 o42.vec.length c3_53, .slice A64 (o42.paths ++ [[(gt z29 i46)]]).length c65, .slice A5_53 o42.in_.length c5_53]) rfl Tryz.sizeOf57 rfl rfl rfl rfl (by kernel_rfl) rfl rfl rfl rfl ?_
          refine WR.nil ?_
          refine WH.next (fun w hw => hw.back hl57 h052 (.cons _ (.cons _ (.cons _ (.cons _ (.cons _ (.cons _ .slnil))))))) ?_
          refine WH.done (by kernel_rfl) ?_
          change WC _ _ _ _ _ _
          refine WC.region ?_
          refine va rfl rfl rfl (q_move (v := .int .i64 ((i46 : Nat) : Int)) rfl (by kernel_rfl)) ?_
          refine va rfl rfl rfl (q_add_r (r := ((i46 + 1 : Nat) : Int)) rfl rfl rfl (ctr_len hl51 (hr38.mono hl41).le)) ?_
          refine va rfl rfl rfl (q_assign (v := .int .i64 ((i46 + 1 : Nat) : Int)) rfl (by kernel_rfl)) ?_
          refine WR.nil ?_
          intro w hw
          obtain ⟨row_67, hrow_67, hob_67⟩ : ∃ rw : Rowb, rw = ([[(gp_, .cells #[.int .i64 o42.id, .slice A1_53 o42.own.length c1_53, .bool o42.begun, .slice A3_53 o42.vec.length c3_53, .slice A64 (o42.paths ++ [[(gt z29 i46)]]).length c65, .slice A5_53 o42.in_.length c5_53] ep_ (0, 0))], r3_53, row63] : List Rowb).flatten ∧ Ofirthref19_Pull.ob ep_ Γ56 gp_ rw (⟨o42.id, o42.own, o42.begun, o42.vec, (o42.paths ++ [[(gt z29 i46)]]), o42.in_⟩ : Ofirthref19_Pull) := ⟨_, rfl, A1_53, c1_53, A3_53, c3_53, r3_53, A64, c65, row63, A5_53, c5_53, rfl, ho0_53, ho1_53, (ho2_53.mono hl57), (ho3_53.mono hl57), ho66, ho5_53, (ho6_53.mono hl57), trivial⟩
          have hw := hw.fold (is := [2, 2, 2]) rfl hrow_67
          exact ⟨hl51, (⟨o42.id, o42.own, o42.begun, o42.vec, (o42.paths ++ [[(gt z29 i46)]]), o42.in_⟩ : Ofirthref19_Pull), h, Γ56, row_67, (sl_ (by kernel_rfl)), (hw.only (is := [0, 2]) rfl), (hl41.trans hl57), hob_67, trivial⟩
        · refine ⟨_, rfl, ?_⟩
          refine va rfl rfl rfl (q_ldo (c := 0) (v := .int .i64 (gt z29 i46)) (i := 1) rfl ((hr38.mono hl41).intT_at hl51).2 rfl Tryz.isAgg3 rfl rfl) ?_
          refine WR.nil ?_
          refine WH.next (fun w hw => hw.back (Gh.refl _) h052 (.cons _ (.cons _ .slnil))) ?_
          refine WH.each (l := [4, 9]) (by kernel_rfl) (by simp) ?_
          intro i hi; simp only [List.mem_cons, List.not_mem_nil, or_false] at hi
          rcases hi with rfl | rfl
          · refine ⟨_, rfl, ?_⟩
            have hq := ho44
            obtain ⟨A1_53, c1_53, A3_53, c3_53, r3_53, A4_53, c4_53, r4_53, A5_53, c5_53, hrow_53, ho0_53, ho1_53, ho2_53, ho3_53, ho4_53, ho5_53, ho6_53, -⟩ := hq
            intro w hw; have hw := hw.unfold (i := 0) rfl hrow_53
            refine WR.here (C := CC F Γ40 [[(gp_, .cells #[.int .i64 o42.id, .slice A1_53 o42.own.length c1_53, .bool o42.begun, .slice A3_53 o42.vec.length c3_53, .slice A4_53 o42.paths.length c4_53, .slice A5_53 o42.in_.length c5_53] ep_ (0, 0))], r3_53, r4_53, row37]) ?_ hw
            clear hw
            refine va rfl rfl rfl (q_ldl (i := 0) (v := .slice A4_53 o42.paths.length c4_53) rfl rfl Tryz.isAgg57 rfl rfl) ?_
            refine WR.nil ?_
            refine WH.next (fun w hw => hw.back (Gh.refl _) h052 (.cons _ (.cons _ (.cons _ (.cons _ .slnil))))) ?_
            refine WH.lone (i := 9) (by kernel_rfl) rfl ?_
            refine e_buildSlice (cs := #[.int .i64 (gt z29 i46)]) (e := 3) rfl rfl rfl rfl (fun w => by kernel_rfl) ?_
            intro g54
            refine WR.nil ?_
            refine WH.next (fun w hw => hw.back (Gh.refl _) h052 (.cons _ (.cons _ (.cons _ (.cons _ (.cons _ .slnil)))))) ?_
            refine WH.lone (i := 10) (by kernel_rfl) rfl ?_
            have ho55 : Own intT Γ40 3 [(g54, .cells #[.int .i64 (gt z29 i46)] 3 (0, 0))] (some ⟨g54, 0, none⟩) 1 [(gt z29 i46)] := Own.of_blockL (T := intT) (ys := [(gt z29 i46)]) [[.int .i64 (gt z29 i46)]] rfl (show 1 ≤ lim by decide) (show Ty.rd intT Γ40 [.int .i64 (gt z29 i46)] (gt z29 i46) ∧ True from ⟨⟨rfl, ((hr38.mono hl41).intT_at hl51).1⟩, trivial⟩)
            have hc60 := ho55.capz
            intro w hw; obtain ⟨Γ56, hw, hl57, hr58⟩ := hw.seal (i := 0) rfl; have hs59 := ho55.sl hl57 hr58
            refine WR.here (C := CC F Γ56 [[], [(gp_, .cells #[.int .i64 o42.id, .slice A1_53 o42.own.length c1_53, .bool o42.begun, .slice A3_53 o42.vec.length c3_53, .slice A4_53 o42.paths.length c4_53, .slice A5_53 o42.in_.length c5_53] ep_ (0, 0))], r3_53, r4_53, row37]) ?_ hw
            clear hw
            refine e_buildSlice (cs := #[.slice (some ⟨g54, 0, none⟩) [(gt z29 i46)].length 1]) (e := 24) rfl rfl rfl rfl (fun w => by kernel_rfl) ?_
            intro g61
            refine WR.nil ?_
            refine WH.next (fun w hw => hw.back hl57 h052 (.cons _ (.cons _ (.cons _ (.cons _ (.cons _ (.cons _ .slnil))))))) ?_
            refine WH.lone (i := 11) (by kernel_rfl) rfl ?_
            obtain ⟨hk62, h⟩ := chk_some h
            refine e_append (T := (slT intT)) (xs := o42.paths) (ys := [[(gt z29 i46)]]) elem_57 (i := 4) rfl rfl rfl rfl rfl rfl rfl (ho4_53.mono hl57) (of_decide_eq_true hk62) (fun w hw => src_one (T := (slT intT)) (y := [(gt z29 i46)]) (i := 0) rfl (by exact ⟨(some ⟨g54, 0, none⟩), 1, rfl, hc60, hs59⟩) hw) ?_
            intro row63 A64 c65 ho66
            refine WR.nil ?_
            refine WH.next (fun w hw => hw.back hl57 h052 (.cons _ (.cons _ (.cons _ (.cons _ (.cons _ (.cons _ .slnil))))))) ?_
            refine ht (i := 12) rfl (by kernel_rfl) rfl rfl rfl (fun w hw => hw.back hl57 h052 (.cons _ (.cons _ (.cons _ (.cons _ (.cons _ (.cons _ .slnil))))))) (q_nil (A := some ⟨gp_, 0, none⟩) rfl rfl rfl) ?_
            refine ht (i := 13) rfl (by kernel_rfl) rfl rfl rfl (fun w hw => hw.back hl57 h052 (.cons _ (.cons _ (.cons _ (.cons _ (.cons _ (.cons _ .slnil))))))) (q_fl 4 fld_59_4 rfl rfl rfl) ?_
            refine WH.lone (i := 14) (by kernel_rfl) rfl ?_
            refine e_st (i := 2) (v := .slice A64 (o42.paths ++ [[(gt z29 i46)]]).length c65) (new := #[.int .i64 o42.id, .slice A1_53 o42.own.length c1_53, .bool o42.begun, .slice A3_53 o42.vec.length c3_53, .slice A64 (o42.paths ++ [[(gt z29 i46)]]).length c65, .slice A5_53 o42.in_.length c5_53]) rfl Tryz.sizeOf57 rfl rfl rfl rfl (by kernel_rfl) rfl rfl rfl rfl ?_
            refine WR.nil ?_
            refine WH.next (fun w hw => hw.back hl57 h052 (.cons _ (.cons _ (.cons _ (.cons _ (.cons _ (.cons _ .slnil))))))) ?_
            refine WH.done (by kernel_rfl) ?_
            change WC _ _ _ _ _ _
            refine WC.region ?_
            refine va rfl rfl rfl (q_move (v := .int .i64 ((i46 : Nat) : Int)) rfl (by kernel_rfl)) ?_
            refine va rfl rfl rfl (q_add_r (r := ((i46 + 1 : Nat) : Int)) rfl rfl rfl (ctr_len hl51 (hr38.mono hl41).le)) ?_
            refine va rfl rfl rfl (q_assign (v := .int .i64 ((i46 + 1 : Nat) : Int)) rfl (by kernel_rfl)) ?_
            refine WR.nil ?_
            intro w hw
            obtain ⟨row_67, hrow_67, hob_67⟩ : ∃ rw : Rowb, rw = ([[(gp_, .cells #[.int .i64 o42.id, .slice A1_53 o42.own.length c1_53, .bool o42.begun, .slice A3_53 o42.vec.length c3_53, .slice A64 (o42.paths ++ [[(gt z29 i46)]]).length c65, .slice A5_53 o42.in_.length c5_53] ep_ (0, 0))], r3_53, row63] : List Rowb).flatten ∧ Ofirthref19_Pull.ob ep_ Γ56 gp_ rw (⟨o42.id, o42.own, o42.begun, o42.vec, (o42.paths ++ [[(gt z29 i46)]]), o42.in_⟩ : Ofirthref19_Pull) := ⟨_, rfl, A1_53, c1_53, A3_53, c3_53, r3_53, A64, c65, row63, A5_53, c5_53, rfl, ho0_53, ho1_53, (ho2_53.mono hl57), (ho3_53.mono hl57), ho66, ho5_53, (ho6_53.mono hl57), trivial⟩
            have hw := hw.fold (is := [2, 2, 2]) rfl hrow_67
            exact ⟨hl51, (⟨o42.id, o42.own, o42.begun, o42.vec, (o42.paths ++ [[(gt z29 i46)]]), o42.in_⟩ : Ofirthref19_Pull), h, Γ56, row_67, (sl_ (by kernel_rfl)), (hw.only (is := [0, 2]) rfl), (hl41.trans hl57), hob_67, trivial⟩
          · refine ⟨_, rfl, ?_⟩
            refine e_buildSlice (cs := #[.int .i64 (gt z29 i46)]) (e := 3) rfl rfl rfl rfl (fun w => by kernel_rfl) ?_
            intro g53
            refine WR.nil ?_
            refine WH.next (fun w hw => hw.back (Gh.refl _) h052 (.cons _ (.cons _ (.cons _ .slnil)))) ?_
            refine WH.each (l := [4, 10]) (by kernel_rfl) (by simp) ?_
            intro i hi; simp only [List.mem_cons, List.not_mem_nil, or_false] at hi
            rcases hi with rfl | rfl
            · refine ⟨_, rfl, ?_⟩
              have hq := ho44
              obtain ⟨A1_54, c1_54, A3_54, c3_54, r3_54, A4_54, c4_54, r4_54, A5_54, c5_54, hrow_54, ho0_54, ho1_54, ho2_54, ho3_54, ho4_54, ho5_54, ho6_54, -⟩ := hq
              intro w hw; have hw := hw.unfold (i := 1) rfl hrow_54
              refine WR.here (C := CC F Γ40 [[(gp_, .cells #[.int .i64 o42.id, .slice A1_54 o42.own.length c1_54, .bool o42.begun, .slice A3_54 o42.vec.length c3_54, .slice A4_54 o42.paths.length c4_54, .slice A5_54 o42.in_.length c5_54] ep_ (0, 0))], r3_54, r4_54, [(g53, .cells #[.int .i64 (gt z29 i46)] 3 (0, 0))], row37]) ?_ hw
              clear hw
              refine va rfl rfl rfl (q_ldl (i := 0) (v := .slice A4_54 o42.paths.length c4_54) rfl rfl Tryz.isAgg57 rfl rfl) ?_
              refine WR.nil ?_
              refine WH.next (fun w hw => hw.back (Gh.refl _) h052 (.cons _ (.cons _ (.cons _ (.cons _ (.cons _ .slnil)))))) ?_
              refine WH.lone (i := 10) (by kernel_rfl) rfl ?_
              have ho55 : Own intT Γ40 3 [(g53, .cells #[.int .i64 (gt z29 i46)] 3 (0, 0))] (some ⟨g53, 0, none⟩) 1 [(gt z29 i46)] := Own.of_blockL (T := intT) (ys := [(gt z29 i46)]) [[.int .i64 (gt z29 i46)]] rfl (show 1 ≤ lim by decide) (show Ty.rd intT Γ40 [.int .i64 (gt z29 i46)] (gt z29 i46) ∧ True from ⟨⟨rfl, ((hr38.mono hl41).intT_at hl51).1⟩, trivial⟩)
              have hc60 := ho55.capz
              intro w hw; obtain ⟨Γ56, hw, hl57, hr58⟩ := hw.seal (i := 3) rfl; have hs59 := ho55.sl hl57 hr58
              refine WR.here (C := CC F Γ56 [[(gp_, .cells #[.int .i64 o42.id, .slice A1_54 o42.own.length c1_54, .bool o42.begun, .slice A3_54 o42.vec.length c3_54, .slice A4_54 o42.paths.length c4_54, .slice A5_54 o42.in_.length c5_54] ep_ (0, 0))], r3_54, r4_54, [], row37]) ?_ hw
              clear hw
              refine e_buildSlice (cs := #[.slice (some ⟨g53, 0, none⟩) [(gt z29 i46)].length 1]) (e := 24) rfl rfl rfl rfl (fun w => by kernel_rfl) ?_
              intro g61
              refine WR.nil ?_
              refine WH.next (fun w hw => hw.back hl57 h052 (.cons _ (.cons _ (.cons _ (.cons _ (.cons _ (.cons _ .slnil))))))) ?_
              refine WH.lone (i := 11) (by kernel_rfl) rfl ?_
              obtain ⟨hk62, h⟩ := chk_some h
              refine e_append (T := (slT intT)) (xs := o42.paths) (ys := [[(gt z29 i46)]]) elem_57 (i := 3) rfl rfl rfl rfl rfl rfl rfl (ho4_54.mono hl57) (of_decide_eq_true hk62) (fun w hw => src_one (T := (slT intT)) (y := [(gt z29 i46)]) (i := 0) rfl (by exact ⟨(some ⟨g53, 0, none⟩), 1, rfl, hc60, hs59⟩) hw) ?_
              intro row63 A64 c65 ho66
              refine WR.nil ?_
              refine WH.next (fun w hw => hw.back hl57 h052 (.cons _ (.cons _ (.cons _ (.cons _ (.cons _ (.cons _ .slnil))))))) ?_
              refine ht (i := 12) rfl (by kernel_rfl) rfl rfl rfl (fun w hw => hw.back hl57 h052 (.cons _ (.cons _ (.cons _ (.cons _ (.cons _ (.cons _ .slnil))))))) (q_nil (A := some ⟨gp_, 0, none⟩) rfl rfl rfl) ?_
              refine ht (i := 13) rfl (by kernel_rfl) rfl rfl rfl (fun w hw => hw.back hl57 h052 (.cons _ (.cons _ (.cons _ (.cons _ (.cons _ (.cons _ .slnil))))))) (q_fl 4 fld_59_4 rfl rfl rfl) ?_
              refine WH.lone (i := 14) (by kernel_rfl) rfl ?_
              refine e_st (i := 1) (v := .slice A64 (o42.paths ++ [[(gt z29 i46)]]).length c65) (new := #[.int .i64 o42.id, .slice A1_54 o42.own.length c1_54, .bool o42.begun, .slice A3_54 o42.vec.length c3_54, .slice A64 (o42.paths ++ [[(gt z29 i46)]]).length c65, .slice A5_54 o42.in_.length c5_54]) rfl Tryz.sizeOf57 rfl rfl rfl rfl (by kernel_rfl) rfl rfl rfl rfl ?_
              refine WR.nil ?_
              refine WH.next (fun w hw => hw.back hl57 h052 (.cons _ (.cons _ (.cons _ (.cons _ (.cons _ (.cons _ .slnil))))))) ?_
              refine WH.done (by kernel_rfl) ?_
              change WC _ _ _ _ _ _
              refine WC.region ?_
              refine va rfl rfl rfl (q_move (v := .int .i64 ((i46 : Nat) : Int)) rfl (by kernel_rfl)) ?_
              refine va rfl rfl rfl (q_add_r (r := ((i46 + 1 : Nat) : Int)) rfl rfl rfl (ctr_len hl51 (hr38.mono hl41).le)) ?_
              refine va rfl rfl rfl (q_assign (v := .int .i64 ((i46 + 1 : Nat) : Int)) rfl (by kernel_rfl)) ?_
              refine WR.nil ?_
              intro w hw
              obtain ⟨row_67, hrow_67, hob_67⟩ : ∃ rw : Rowb, rw = ([[(gp_, .cells #[.int .i64 o42.id, .slice A1_54 o42.own.length c1_54, .bool o42.begun, .slice A3_54 o42.vec.length c3_54, .slice A64 (o42.paths ++ [[(gt z29 i46)]]).length c65, .slice A5_54 o42.in_.length c5_54] ep_ (0, 0))], r3_54, row63] : List Rowb).flatten ∧ Ofirthref19_Pull.ob ep_ Γ56 gp_ rw (⟨o42.id, o42.own, o42.begun, o42.vec, (o42.paths ++ [[(gt z29 i46)]]), o42.in_⟩ : Ofirthref19_Pull) := ⟨_, rfl, A1_54, c1_54, A3_54, c3_54, r3_54, A64, c65, row63, A5_54, c5_54, rfl, ho0_54, ho1_54, (ho2_54.mono hl57), (ho3_54.mono hl57), ho66, ho5_54, (ho6_54.mono hl57), trivial⟩
              have hw := hw.fold (is := [1, 1, 1]) rfl hrow_67
              exact ⟨hl51, (⟨o42.id, o42.own, o42.begun, o42.vec, (o42.paths ++ [[(gt z29 i46)]]), o42.in_⟩ : Ofirthref19_Pull), h, Γ56, row_67, (sl_ (by kernel_rfl)), (hw.only (is := [0, 2]) rfl), (hl41.trans hl57), hob_67, trivial⟩
            · refine ⟨_, rfl, ?_⟩
              have ho54 : Own intT Γ40 3 [(g53, .cells #[.int .i64 (gt z29 i46)] 3 (0, 0))] (some ⟨g53, 0, none⟩) 1 [(gt z29 i46)] := Own.of_blockL (T := intT) (ys := [(gt z29 i46)]) [[.int .i64 (gt z29 i46)]] rfl (show 1 ≤ lim by decide) (show Ty.rd intT Γ40 [.int .i64 (gt z29 i46)] (gt z29 i46) ∧ True from ⟨⟨rfl, ((hr38.mono hl41).intT_at hl51).1⟩, trivial⟩)
              have hc59 := ho54.capz
              intro w hw; obtain ⟨Γ55, hw, hl56, hr57⟩ := hw.seal (i := 0) rfl; have hs58 := ho54.sl hl56 hr57
              refine WR.here (C := CC F Γ55 [[], row43, row37]) ?_ hw
              clear hw
              refine e_buildSlice (cs := #[.slice (some ⟨g53, 0, none⟩) [(gt z29 i46)].length 1]) (e := 24) rfl rfl rfl rfl (fun w => by kernel_rfl) ?_
              intro g60
              refine WR.nil ?_
              refine WH.next (fun w hw => hw.back hl56 h052 (.cons _ (.cons _ (.cons _ (.cons _ .slnil))))) ?_
              refine WH.lone (i := 4) (by kernel_rfl) rfl ?_
              have hq := (ho44.mono hl56)
              obtain ⟨A1_61, c1_61, A3_61, c3_61, r3_61, A4_61, c4_61, r4_61, A5_61, c5_61, hrow_61, ho0_61, ho1_61, ho2_61, ho3_61, ho4_61, ho5_61, ho6_61, -⟩ := hq
              intro w hw; have hw := hw.unfold (i := 2) rfl hrow_61
              refine WR.here (C := CC F Γ55 [[(gp_, .cells #[.int .i64 o42.id, .slice A1_61 o42.own.length c1_61, .bool o42.begun, .slice A3_61 o42.vec.length c3_61, .slice A4_61 o42.paths.length c4_61, .slice A5_61 o42.in_.length c5_61] ep_ (0, 0))], r3_61, r4_61, [(g60, .cells #[.slice (some ⟨g53, 0, none⟩) [(gt z29 i46)].length 1] 24 (0, 0))], [], row37]) ?_ hw
              clear hw
              refine va rfl rfl rfl (q_ldl (i := 0) (v := .slice A4_61 o42.paths.length c4_61) rfl rfl Tryz.isAgg57 rfl rfl) ?_
              refine WR.nil ?_
              refine WH.next (fun w hw => hw.back hl56 h052 (.cons _ (.cons _ (.cons _ (.cons _ (.cons _ (.cons _ .slnil))))))) ?_
              refine WH.lone (i := 11) (by kernel_rfl) rfl ?_
              obtain ⟨hk62, h⟩ := chk_some h
              refine e_append (T := (slT intT)) (xs := o42.paths) (ys := [[(gt z29 i46)]]) elem_57 (i := 2) rfl rfl rfl rfl rfl rfl rfl ho4_61 (of_decide_eq_true hk62) (fun w hw => src_one (T := (slT intT)) (y := [(gt z29 i46)]) (i := 3) rfl (by exact ⟨(some ⟨g53, 0, none⟩), 1, rfl, hc59, hs58⟩) hw) ?_
              intro row63 A64 c65 ho66
              refine WR.nil ?_
              refine WH.next (fun w hw => hw.back hl56 h052 (.cons _ (.cons _ (.cons _ (.cons _ (.cons _ (.cons _ .slnil))))))) ?_
              refine ht (i := 12) rfl (by kernel_rfl) rfl rfl rfl (fun w hw => hw.back hl56 h052 (.cons _ (.cons _ (.cons _ (.cons _ (.cons _ (.cons _ .slnil))))))) (q_nil (A := some ⟨gp_, 0, none⟩) rfl rfl rfl) ?_
              refine ht (i := 13) rfl (by kernel_rfl) rfl rfl rfl (fun w hw => hw.back hl56 h052 (.cons _ (.cons _ (.cons _ (.cons _ (.cons _ (.cons _ .slnil))))))) (q_fl 4 fld_59_4 rfl rfl rfl) ?_
              refine WH.lone (i := 14) (by kernel_rfl) rfl ?_
              refine e_st (i := 0) (v := .slice A64 (o42.paths ++ [[(gt z29 i46)]]).length c65) (new := #[.int .i64 o42.id, .slice A1_61 o42.own.length c1_61, .bool o42.begun, .slice A3_61 o42.vec.length c3_61, .slice A64 (o42.paths ++ [[(gt z29 i46)]]).length c65, .slice A5_61 o42.in_.length c5_61]) rfl Tryz.sizeOf57 rfl rfl rfl rfl (by kernel_rfl) rfl rfl rfl rfl ?_
              refine WR.nil ?_
              refine WH.next (fun w hw => hw.back hl56 h052 (.cons _ (.cons _ (.cons _ (.cons _ (.cons _ (.cons _ .slnil))))))) ?_
              refine WH.done (by kernel_rfl) ?_
              change WC _ _ _ _ _ _
              refine WC.region ?_
              refine va rfl rfl rfl (q_move (v := .int .i64 ((i46 : Nat) : Int)) rfl (by kernel_rfl)) ?_
              refine va rfl rfl rfl (q_add_r (r := ((i46 + 1 : Nat) : Int)) rfl rfl rfl (ctr_len hl51 (hr38.mono hl41).le)) ?_
              refine va rfl rfl rfl (q_assign (v := .int .i64 ((i46 + 1 : Nat) : Int)) rfl (by kernel_rfl)) ?_
              refine WR.nil ?_
              intro w hw
              obtain ⟨row_67, hrow_67, hob_67⟩ : ∃ rw : Rowb, rw = ([[(gp_, .cells #[.int .i64 o42.id, .slice A1_61 o42.own.length c1_61, .bool o42.begun, .slice A3_61 o42.vec.length c3_61, .slice A64 (o42.paths ++ [[(gt z29 i46)]]).length c65, .slice A5_61 o42.in_.length c5_61] ep_ (0, 0))], r3_61, row63] : List Rowb).flatten ∧ Ofirthref19_Pull.ob ep_ Γ55 gp_ rw (⟨o42.id, o42.own, o42.begun, o42.vec, (o42.paths ++ [[(gt z29 i46)]]), o42.in_⟩ : Ofirthref19_Pull) := ⟨_, rfl, A1_61, c1_61, A3_61, c3_61, r3_61, A64, c65, row63, A5_61, c5_61, rfl, ho0_61, ho1_61, ho2_61, ho3_61, ho66, ho5_61, ho6_61, trivial⟩
              have hw := hw.fold (is := [0, 0, 0]) rfl hrow_67
              exact ⟨hl51, (⟨o42.id, o42.own, o42.begun, o42.vec, (o42.paths ++ [[(gt z29 i46)]]), o42.in_⟩ : Ofirthref19_Pull), h, Γ55, row_67, (sl_ (by kernel_rfl)), (hw.only (is := [0, 2]) rfl), (hl41.trans hl56), hob_67, trivial⟩
    · skip
      have h := hge49 (ige hb50)
      refine WC.exit ?_
      change WC _ _ _ _ _ _
      refine WC.rs ?_
      refine va rfl rfl rfl (q_assign (v := .bool true) rfl (by kernel_rfl)) ?_
      refine WR.nil ?_
      change WC _ _ _ _ _ _
      refine WC.ret ?_
      intro w hw
      obtain rfl := Option.some.inj h
      subst hF
      exact end_e (is := [0]) (by kernel_rfl) hw rfl ⟨row43, rfl, rfl, ho44, trivial⟩
set_option maxRecDepth 100000 in
set_option maxHeartbeats 400000 in
theorem t_firthref06_Ints {Γ : Gh} {w0 : World} {Aa : Option Addr} {ca : Nat} {a : List Int} (ha : Sl intT Γ Aa a) (hac : a.length ≤ ca) {Ab : Option Addr} {cb : Nat} {b : List Int} (hb : Sl intT Γ Ab b) (hbc : b.length ≤ cb) (hs : Sat Γ w0) {r : Bool} (h : m_firthref06_Ints a b = some r) : Calls Tryz.prog 41 #[.slice Aa a.length ca, .slice Ab b.length cb] w0 (fun e w' => e = .returned (.bool r) ∧ Fr no w0 w') := by
  refine calls_of (N := 26) (rs := [4]) (args := [.slice Aa a.length ca, .slice Ab b.length cb]) Tryz.func41 rfl Tryz.ntmps41 Tryz.results41 rfl ?_
  obtain ⟨F, hF⟩ : ∃ F : Fm, F = ⟨no, w0, Γ⟩ := ⟨_, rfl⟩
  refine WC.here (C := CC F Γ []) ?_ (hF ▸ Cur.start0 hs)
  refine WC.rs ?_
  refine va rfl rfl rfl (q_assign (v := .bool false) rfl (by kernel_rfl)) ?_
  refine WR.nil ?_
  change WC _ _ _ _ _ _
  refine WC.seq ?_
  refine WC.rs ?_
  refine va rfl rfl rfl (q_move (v := .slice Aa a.length ca) rfl (by kernel_rfl)) ?_
  refine va rfl rfl rfl (q_len_slice rfl Tryz.underlying24 rfl) ?_
  refine va rfl rfl rfl (q_move (v := .slice Ab b.length cb) rfl (by kernel_rfl)) ?_
  refine va rfl rfl rfl (q_len_slice rfl Tryz.underlying24 rfl) ?_
  refine va rfl rfl rfl (q_neq rfl rfl rfl) ?_
  refine WR.nil ?_
  change WC _ _ _ _ _ _
  refine WC.cif h (by kernel_rfl) (fun hb1 h => ?_) (fun hb1 h => ?_)
  · skip
    refine WC.rs ?_
    refine va rfl rfl rfl (q_assign (v := .bool false) rfl (by kernel_rfl)) ?_
    refine WR.nil ?_
    change WC _ _ _ _ _ _
    refine WC.ret ?_
    intro w hw
    obtain rfl := Option.some.inj h
    subst hF
    exact ⟨by kernel_rfl, hw.fr⟩
  · skip
    refine WC.skip ?_
    change WC _ _ _ _ _ _
    refine WC.seq ?_
    refine WC.rs ?_
    refine va rfl rfl rfl (q_assign (v := .int .i64 0) rfl (by kernel_rfl)) ?_
    refine WR.nil ?_
    change WC _ _ _ _ _ _
    refine WC.block ?_
    refine WC.forI h (fun (i3 : Nat) (s : Unit) σ w => match s with | () => slots σ [(0, .slice Aa a.length ca), (1, .slice Ab b.length cb), (5, .int .i64 ((i3 : Nat) : Int))] ∧ CC F Γ [] w ∧ True) ?_ ?_
    · skip
      intro w hw
      exact ⟨(sl_ (by kernel_rfl)), hw, trivial⟩
    rintro f2 i3 ⟨⟩ σ w hi4 hlt5 hge6 ⟨hsl, hw, -⟩
    refine Wpt.slots hsl ?_
    refine WC.here (C := CC F Γ []) ?_ hw
    clear hw hsl
    refine WC.seq ?_
    refine WC.rs ?_
    refine va rfl rfl rfl (q_move (v := .int .i64 ((i3 : Nat) : Int)) rfl (by kernel_rfl)) ?_
    refine va rfl rfl rfl (q_move (v := .slice Aa a.length ca) rfl (by kernel_rfl)) ?_
    refine va rfl rfl rfl (q_len_slice rfl Tryz.underlying24 rfl) ?_
    refine va rfl rfl rfl (q_lss rfl rfl rfl) ?_
    refine WR.nil ?_
    change WC _ _ _ _ _ _
    refine WC.cond (b := (decide (((i3 : Nat) : Int) < ((a.length : Nat) : Int)))) (by kernel_rfl) (fun hb7 => ?_) (fun hb7 => ?_)
    · skip
      have hl8 := ilt hb7
      have h := hlt5 hl8
      refine WC.skip ?_
      change WC _ _ _ _ _ _
      refine WC.seq ?_
      refine WC.block ?_
      refine WC.seq ?_
      refine WC.dr (by kernel_rfl) (by kernel_rfl) (fun w hw => hw.drawn _) ?_
      refine wa rfl rfl rfl (q_move (v := .slice Aa a.length ca) rfl (by kernel_rfl)) ?_
      refine wa rfl rfl rfl (q_move (v := .int .i64 ((i3 : Nat) : Int)) rfl (by kernel_rfl)) ?_
      refine wa rfl rfl rfl (q_ixn (i := i3) Tryz.underlying24 Tryz.sizeOf3 rfl rfl rfl hl8 (ha.some_ hl8)) ?_
      refine wa rfl rfl rfl (q_ld (c := 0) (v := .int .i64 (gt a i3)) (ha.intT_at hl8).2 rfl Tryz.isAgg3 rfl rfl) ?_
      refine wa rfl rfl rfl (q_move (v := .slice Ab b.length cb) rfl (by kernel_rfl)) ?_
      refine wa rfl rfl rfl (q_move (v := .int .i64 ((i3 : Nat) : Int)) rfl (by kernel_rfl)) ?_
      obtain ⟨hk9, h⟩ := chk_some h
      refine wa rfl rfl rfl (q_ixn (i := i3) Tryz.underlying24 Tryz.sizeOf3 rfl rfl rfl (of_decide_eq_true hk9) (hb.some_ (of_decide_eq_true hk9))) ?_
      refine wa rfl rfl rfl (q_ld (c := 0) (v := .int .i64 (gt b i3)) (hb.intT_at (of_decide_eq_true hk9)).2 rfl Tryz.isAgg3 rfl rfl) ?_
      refine wa rfl rfl rfl (q_neq rfl rfl rfl) ?_
      refine WQ.nil ?_
      change WC _ _ _ _ _ _
      refine WC.cif h (by kernel_rfl) (fun hb10 h => ?_) (fun hb10 h => ?_)
      · skip
        refine WC.rs ?_
        refine va rfl rfl rfl (q_assign (v := .bool false) rfl (by kernel_rfl)) ?_
        refine WR.nil ?_
        change WC _ _ _ _ _ _
        refine WC.ret ?_
        intro w hw
        obtain rfl := Option.some.inj h
        subst hF
        exact ⟨by kernel_rfl, hw.fr⟩
      · skip
        refine WC.skip ?_
        change WC _ _ _ _ _ _
        refine WC.region ?_
        refine va rfl rfl rfl (q_move (v := .int .i64 ((i3 : Nat) : Int)) rfl (by kernel_rfl)) ?_
        refine va rfl rfl rfl (q_add_r (r := ((i3 + 1 : Nat) : Int)) rfl rfl rfl (ctr_len hl8 ha.le)) ?_
        refine va rfl rfl rfl (q_assign (v := .int .i64 ((i3 + 1 : Nat) : Int)) rfl (by kernel_rfl)) ?_
        refine WR.nil ?_
        intro w hw
        exact ⟨hl8, (), h, (sl_ (by kernel_rfl)), hw, trivial⟩
    · skip
      have h := hge6 (ige hb7)
      refine WC.exit ?_
      change WC _ _ _ _ _ _
      refine WC.rs ?_
      refine va rfl rfl rfl (q_assign (v := .bool true) rfl (by kernel_rfl)) ?_
      refine WR.nil ?_
      change WC _ _ _ _ _ _
      refine WC.ret ?_
      intro w hw
      obtain rfl := Option.some.inj h
      subst hF
      exact ⟨by kernel_rfl, hw.fr⟩
abbrev r_firthref19_Pull_Tell (gp_ : Nat) (ep_ : Nat) (r : Ofirthref19_Pull × Bool) (U : List Rowb) (Γ : Gh) (v : Value) : Prop := ∃ (rowp_' : Rowb), v = .bool r.2 ∧ U = [rowp_'] ∧ Ofirthref19_Pull.ob ep_ Γ gp_ rowp_' r.1 ∧ True
set_option maxRecDepth 100000 in
set_option maxHeartbeats 400000 in
theorem t_firthref19_Pull_Tell {Γ : Gh} {w0 : World} {gp_ ep_ : Nat} {rowp_ : Rowb} {p_ : Ofirthref19_Pull} (hp_ : Ofirthref19_Pull.ob ep_ Γ gp_ rowp_ p_) {Apath : Option Addr} {cpath : Nat} {path : List Int} (hpath : Sl intT Γ Apath path) (hpathc : path.length ≤ cpath) {Ahashes : Option Addr} {chashes : Nat} {hashes : List Int} (hhashes : Sl u64T Γ Ahashes hashes) (hhashesc : hashes.length ≤ chashes) {Alist : Option Addr} {clist : Nat} {list : List Rec} (hlist : Sl recT Γ Alist list) (hlistc : list.length ≤ clist) (hp : Pre [rowp_] Γ w0) {r : Ofirthref19_Pull × Bool} (h : m_firthref19_Pull_Tell p_ path hashes list = some r) : Calls Tryz.prog 27 #[.pointer (some ⟨gp_, 0, none⟩), .slice Apath path.length cpath, .slice Ahashes hashes.length chashes, .slice Alist list.length clist] w0 (Outc Γ [rowp_] w0 (r_firthref19_Pull_Tell gp_ ep_ r)) := by
  refine calls_of (N := 138) (rs := [8]) (args := [.pointer (some ⟨gp_, 0, none⟩), .slice Apath path.length cpath, .slice Ahashes hashes.length chashes, .slice Alist list.length clist]) Tryz.func27 rfl Tryz.ntmps27 Tryz.results27 rfl ?_
  obtain ⟨F, hF⟩ : ∃ F : Fm, F = ⟨ids [rowp_], w0, Γ⟩ := ⟨_, rfl⟩
  refine WC.here (C := CC F Γ [rowp_]) ?_ (hF ▸ hp.start)
  refine WC.rs ?_
  refine va rfl rfl rfl (q_assign (v := .bool false) rfl (by kernel_rfl)) ?_
  refine WR.nil ?_
  change WC _ _ _ _ _ _
  refine WC.rs ?_
  refine va rfl rfl rfl (q_assign (v := .int .i64 (-1)) rfl (by kernel_rfl)) ?_
  refine WR.nil ?_
  change WC _ _ _ _ _ _
  refine WC.seq ?_
  refine WC.rs ?_
  refine va rfl rfl rfl (q_assign (v := .int .i64 0) rfl (by kernel_rfl)) ?_
  refine WR.nil ?_
  change WC _ _ _ _ _ _
  refine WC.block ?_
  refine WC.forI h (fun (i4 : Nat) (at_1 : Int) σ w => slots σ [(0, .pointer (some ⟨gp_, 0, none⟩)), (1, .slice Apath path.length cpath), (2, .slice Ahashes hashes.length chashes), (3, .slice Alist list.length clist), (9, .int .i64 at_1), (10, .int .i64 ((i4 : Nat) : Int))] ∧ CC F Γ [rowp_] w ∧ I64 at_1 ∧ True) ?_ ?_
  · skip
    intro w hw
    exact ⟨(sl_ (by kernel_rfl)), hw, (show I64 (-1) by decide), trivial⟩
  rintro f3 i4 at_1 σ w hi5 hlt6 hge7 ⟨hsl, hw, hr2, -⟩
  refine Wpt.slots hsl ?_
  refine WC.here (C := CC F Γ [rowp_]) ?_ hw
  clear hw hsl
  refine WC.seq ?_
  refine WC.rs ?_
  refine va rfl rfl rfl (q_move (v := .int .i64 ((i4 : Nat) : Int)) rfl (by kernel_rfl)) ?_
  refine va rfl rfl rfl (q_move (v := .pointer (some ⟨gp_, 0, none⟩)) rfl (by kernel_rfl)) ?_
  refine va rfl rfl rfl (q_nil (A := some ⟨gp_, 0, none⟩) rfl rfl rfl) ?_
  refine va rfl rfl rfl (q_fl 4 fld_59_4 rfl rfl rfl) ?_
  have hq := hp_
  obtain ⟨A1_8, c1_8, A3_8, c3_8, r3_8, A4_8, c4_8, r4_8, A5_8, c5_8, hrow_8, ho0_8, ho1_8, ho2_8, ho3_8, ho4_8, ho5_8, ho6_8, -⟩ := hq
  intro w hw; have hw := hw.unfold (i := 0) rfl hrow_8
  refine WR.here (C := CC F Γ [[(gp_, .cells #[.int .i64 p_.id, .slice A1_8 p_.own.length c1_8, .bool p_.begun, .slice A3_8 p_.vec.length c3_8, .slice A4_8 p_.paths.length c4_8, .slice A5_8 p_.in_.length c5_8] ep_ (0, 0))], r3_8, r4_8]) ?_ hw
  clear hw
  refine va rfl rfl rfl (q_ldl (i := 0) (v := .slice A4_8 p_.paths.length c4_8) rfl rfl Tryz.isAgg57 rfl rfl) ?_
  refine va rfl rfl rfl (q_len_slice rfl Tryz.underlying57 rfl) ?_
  refine va rfl rfl rfl (q_lss rfl rfl rfl) ?_
  refine WR.nil ?_
  change WC _ _ _ _ _ _
  refine WC.cond (b := (decide (((i4 : Nat) : Int) < ((p_.paths.length : Nat) : Int)))) (by kernel_rfl) (fun hb9 => ?_) (fun hb9 => ?_)
  · skip
    have hl10 := ilt hb9
    have h := hlt6 hl10
    refine WC.skip ?_
    change WC _ _ _ _ _ _
    intro w hw; have hw := hw.fold (is := [0, 0, 0]) rfl hrow_8
    refine WC.here (C := CC F Γ [rowp_]) ?_ hw
    clear hw
    refine WC.cut (fun σ w => ∃ (at_12 : Int), m_firthref19_Pull_Tell_j5 f3 at_12 = some r ∧ slots σ [(0, .pointer (some ⟨gp_, 0, none⟩)), (1, .slice Apath path.length cpath), (2, .slice Ahashes hashes.length chashes), (3, .slice Alist list.length clist), (9, .int .i64 at_12), (10, .int .i64 ((i4 : Nat) : Int))] ∧ CC F Γ [rowp_] w ∧ I64 at_12 ∧ True) ?_ ?_
    · skip
      refine WC.block ?_
      refine WC.rs ?_
      refine va rfl rfl rfl (q_move (v := .pointer (some ⟨gp_, 0, none⟩)) rfl (by kernel_rfl)) ?_
      refine va rfl rfl rfl (q_nil (A := some ⟨gp_, 0, none⟩) rfl rfl rfl) ?_
      refine va rfl rfl rfl (q_fl 4 fld_59_4 rfl rfl rfl) ?_
      have hq := hp_
      obtain ⟨A1_14, c1_14, A3_14, c3_14, r3_14, A4_14, c4_14, r4_14, A5_14, c5_14, hrow_14, ho0_14, ho1_14, ho2_14, ho3_14, ho4_14, ho5_14, ho6_14, -⟩ := hq
      intro w hw; have hw := hw.unfold (i := 0) rfl hrow_14
      refine WR.here (C := CC F Γ [[(gp_, .cells #[.int .i64 p_.id, .slice A1_14 p_.own.length c1_14, .bool p_.begun, .slice A3_14 p_.vec.length c3_14, .slice A4_14 p_.paths.length c4_14, .slice A5_14 p_.in_.length c5_14] ep_ (0, 0))], r3_14, r4_14]) ?_ hw
      clear hw
      refine va rfl rfl rfl (q_ldl (i := 0) (v := .slice A4_14 p_.paths.length c4_14) rfl rfl Tryz.isAgg57 rfl rfl) ?_
      refine va rfl rfl rfl (q_move (v := .int .i64 ((i4 : Nat) : Int)) rfl (by kernel_rfl)) ?_
      refine va rfl rfl rfl (q_ixn (i := i4) Tryz.underlying57 Tryz.sizeOf24 rfl rfl rfl hl10 (ho4_14.some_ hl10)) ?_
      obtain ⟨A15, c16, hx17⟩ := ho4_14.slT_at i4
      refine va rfl rfl rfl (q_ldo (c := 0) (v := .slice A15 (gt p_.paths i4).length c16) (i := 2) rfl (hx17 hl10).2 rfl Tryz.isAgg24 rfl rfl) ?_
      refine va rfl rfl rfl (q_move (v := .slice Apath path.length cpath) rfl (by kernel_rfl)) ?_
      obtain ⟨z18, hz19, h⟩ := bnd h
      refine vc rfl rfl rfl (q_call (call_run Tryz.call41 rfl rfl (by kernel_rfl)) (fun w hw => t_firthref06_Ints (Γ := Gh.all w) ((hx17 hl10).1.2.mono hw.sat.le_all) (hx17 hl10).1.1 (hpath.mono hw.sat.le_all) hpathc (Sat.all w) hz19)) ?_
      refine WR.nil ?_
      change WC _ _ _ _ _ _
      refine WC.cif h (by kernel_rfl) (fun hb20 h => ?_) (fun hb20 h => ?_)
      · skip
        refine WC.region ?_
        refine va rfl rfl rfl (q_move (v := .int .i64 ((i4 : Nat) : Int)) rfl (by kernel_rfl)) ?_
        refine va rfl rfl rfl (q_assign (v := .int .i64 ((i4 : Nat) : Int)) rfl (by kernel_rfl)) ?_
        refine WR.nil ?_
        intro w hw
        have hw := hw.fold (is := [0, 0, 0]) rfl hrow_14
        exact ⟨((i4 : Nat) : Int), h, (sl_ (by kernel_rfl)), hw, (ctr_r0 hl10 ho4_8.le), trivial⟩
      · skip
        refine WC.skip ?_
        intro w hw
        have hw := hw.fold (is := [0, 0, 0]) rfl hrow_14
        exact ⟨at_1, h, (sl_ (by kernel_rfl)), hw, hr2, trivial⟩
    · skip
      rintro σ w ⟨at_12, h, hsl, hw, hr13, -⟩
      refine Wpt.slots hsl ?_
      refine WC.here (C := CC F Γ [rowp_]) ?_ hw
      clear hw hsl
      refine WC.region ?_
      refine va rfl rfl rfl (q_move (v := .int .i64 ((i4 : Nat) : Int)) rfl (by kernel_rfl)) ?_
      refine va rfl rfl rfl (q_add_r (r := ((i4 + 1 : Nat) : Int)) rfl rfl rfl (ctr_len hl10 ho4_8.le)) ?_
      refine va rfl rfl rfl (q_assign (v := .int .i64 ((i4 + 1 : Nat) : Int)) rfl (by kernel_rfl)) ?_
      refine WR.nil ?_
      intro w hw
      exact ⟨hl10, at_12, h, (sl_ (by kernel_rfl)), hw, hr13, trivial⟩
  · skip
    have h := hge7 (ige hb9)
    refine WC.exit ?_
    change WC _ _ _ _ _ _
    refine WC.seq ?_
    refine WC.rs ?_
    refine va rfl rfl rfl (q_move (v := .int .i64 at_1) rfl (by kernel_rfl)) ?_
    refine va rfl rfl rfl (q_lss rfl rfl rfl) ?_
    refine WR.nil ?_
    change WC _ _ _ _ _ _
    refine WC.cif h (by kernel_rfl) (fun hb23 h => ?_) (fun hb23 h => ?_)
    · skip
      refine WC.rs ?_
      refine va rfl rfl rfl (q_assign (v := .bool false) rfl (by kernel_rfl)) ?_
      refine WR.nil ?_
      change WC _ _ _ _ _ _
      refine WC.ret ?_
      intro w hw
      have hw := hw.fold (is := [0, 0, 0]) rfl hrow_8
      obtain rfl := Option.some.inj h
      subst hF
      exact end_e (is := [0]) (by kernel_rfl) hw rfl ⟨rowp_, rfl, rfl, hp_, trivial⟩
    · skip
      refine WC.skip ?_
      change WC _ _ _ _ _ _
      refine WC.seq ?_
      refine WC.rs ?_
      refine va rfl rfl rfl (q_assign (v := .int .i64 0) rfl (by kernel_rfl)) ?_
      refine WR.nil ?_
      change WC _ _ _ _ _ _
      refine WC.block ?_
      intro w hw; have hw := hw.fold (is := [0, 0, 0]) rfl hrow_8
      refine WC.here (C := CC F Γ [rowp_]) ?_ hw
      clear hw
      refine WC.loopN h (fun (i_28 : Int) σ w => ∃ (Γ26 : Gh), slots σ [(0, .pointer (some ⟨gp_, 0, none⟩)), (1, .slice Apath path.length cpath), (2, .slice Ahashes hashes.length chashes), (3, .slice Alist list.length clist), (9, .int .i64 at_1), (11, .int .i64 i_28)] ∧ CC F Γ26 [rowp_] w ∧ Gh.le Γ Γ26 ∧ I64 i_28 ∧ True) ?_ ?_
      · skip
        intro w hw
        exact ⟨Γ, (sl_ (by kernel_rfl)), hw, (Gh.refl _), (show I64 0 by decide), trivial⟩
      rintro f30 i_28 σ w h ⟨Γ26, hsl, hw, hl27, hr29, -⟩
      refine Wpt.slots hsl ?_
      refine WC.here (C := CC F Γ26 [rowp_]) ?_ hw
      clear hw hsl
      refine WC.seq ?_
      refine WC.rs ?_
      refine va rfl rfl rfl (q_move (v := .int .i64 i_28) rfl (by kernel_rfl)) ?_
      refine va rfl rfl rfl (q_move (v := .slice Alist list.length clist) rfl (by kernel_rfl)) ?_
      refine va rfl rfl rfl (q_len_slice rfl Tryz.underlying23 rfl) ?_
      refine va rfl rfl rfl (q_lss rfl rfl rfl) ?_
      refine va rfl rfl rfl (q_move (v := .bool (decide (i_28 < ((list.length : Nat) : Int)))) rfl (by kernel_rfl)) ?_
      refine vg1 rfl rfl rfl rfl rfl (fun hg34 => QV.qo (q_move (v := .slice Apath path.length cpath) rfl (by kernel_rfl))) ?_
      refine vg1 rfl rfl rfl rfl rfl (fun hg35 => QV.qo (q_len_slice rfl Tryz.underlying24 (gu hg35 rfl))) ?_
      refine vg1 rfl rfl rfl rfl rfl (fun hg36 => QV.qo (q_eql rfl (gu hg36 rfl) rfl)) ?_
      refine va rfl rfl rfl (q_pick rfl rfl (pk_and' (g := (decide (i_28 < ((list.length : Nat) : Int)))) (y := (((path.length : Nat) : Int) == 2)))) ?_
      refine WR.nil ?_
      change WC _ _ _ _ _ _
      refine WC.cif h (by kernel_rfl) (fun hb37 h => ?_) (fun hb37 h => ?_)
      · skip
        refine WC.skip ?_
        change WC _ _ _ _ _ _
        refine WC.seq ?_
        refine WC.block ?_
        refine WC.rs ?_
        refine va rfl rfl rfl (q_move (v := .slice Alist list.length clist) rfl (by kernel_rfl)) ?_
        refine va rfl rfl rfl (q_move (v := .int .i64 i_28) rfl (by kernel_rfl)) ?_
        obtain ⟨hk38, h⟩ := chk_some h
        refine va rfl rfl rfl (q_ix Tryz.underlying23 Tryz.sizeOf70 rfl rfl rfl hk38 ((hlist.mono hl27).some_ (inb_lt hk38))) ?_
        obtain ⟨A39, c40, hx41⟩ := (hlist.mono hl27).recT_at i_28.toNat
        refine va rfl rfl rfl (q_lda (c := 0) (vs := [.string (gt list i_28.toNat).key, .slice A39 ((gt list i_28.toNat).vers).length c40]) (hx41 (inb_lt hk38)).2 rfl Tryz.isAgg70 Tryz.sizeOf70 rfl rfl rfl) ?_
        obtain ⟨z42, hz43, h⟩ := bnd h
        refine vc rfl rfl rfl (q_call (call_run Tryz.call67 rfl rfl (by kernel_rfl)) (fun w hw => t_firthref06_RightRec (Γ := Gh.all w) (gt list i_28.toNat) (Rec.fits_mono (hx41 (inb_lt hk38)).1 hw.sat.le_all) (Sat.all w) hz43)) ?_
        refine va rfl rfl rfl (q_not rfl rfl) ?_
        refine va rfl rfl rfl (q_move (v := .bool (!z42)) rfl (by kernel_rfl)) ?_
        refine vg0 rfl rfl rfl rfl rfl (fun hg44 => QV.qo (q_move (v := .slice Alist list.length clist) rfl (by kernel_rfl))) ?_
        refine vg0 rfl rfl rfl rfl rfl (fun hg45 => QV.qo (q_move (v := .int .i64 i_28) rfl (by kernel_rfl))) ?_
        refine vg0 rfl rfl rfl rfl rfl (fun hg46 => QV.qo (q_ix Tryz.underlying23 Tryz.sizeOf70 rfl (gu hg46 rfl) (gu hg46 rfl) hk38 ((hlist.mono hl27).some_ (inb_lt hk38)))) ?_
        refine vg0 rfl rfl rfl rfl rfl (fun hg47 => QV.qo (q_field_addr (i_28.toNat * 2) fld_70_0 rfl (gu hg47 rfl) ((hlist.mono hl27).some_ (inb_lt hk38)) rfl)) ?_
        refine vg0 rfl rfl rfl rfl rfl (fun hg48 => QV.qo (q_ld (c := 0) (v := .string (gt list i_28.toNat).key) (hx41 (inb_lt hk38)).2 rfl Tryz.isAgg9 (gu hg48 rfl) rfl)) ?_
        refine (Bool.eq_false_or_eq_true (!(!z42))).elim (fun hb49 => ?_) (fun hb49 => ?_)
        · skip
          have h := bt hb49 h
          refine WR.sat (c0 := true) (g := (!z42)) rfl rfl rfl hb49 ?_
          obtain ⟨z50, hz51, h⟩ := bnd h
          refine e_call (is := []) rfl rfl (call_run Tryz.call68 rfl rfl (args1 (gu hb49 rfl))) rfl (fun w hp => t_firthref11_Place ((gt list i_28.toNat).key) (hx41 (inb_lt hk38)).1.1 hp hz51) ?_
          rintro Γ52 U54 v55 hl53 ⟨A56, c57, row58, rfl, rfl, hr59, _⟩
          change WR _ _ _ (CC F Γ52 [row58, rowp_]) _ _ (upd _ 60 (.slice A56 z50.length c57))
          refine WR.sat (c0 := true) (g := (!z42)) rfl rfl rfl hb49 ?_
          refine va rfl rfl rfl (q_move (v := .slice Apath path.length cpath) rfl (by kernel_rfl)) ?_
          refine WR.sat (c0 := true) (g := (!z42)) rfl rfl rfl hb49 ?_
          obtain ⟨z60, hz61, h⟩ := bnd h
          refine vc rfl rfl rfl (q_call (call_run Tryz.call41 rfl rfl (by kernel_rfl)) (fun w hw => t_firthref06_Ints (Γ := Gh.all w) (hr59.sl hw.sat.le_all (hw.ra 0 rfl)) hr59.capz ((hpath.mono (hl27.trans hl53)).mono hw.sat.le_all) hpathc (Sat.all w) hz61)) ?_
          refine WR.sat (c0 := true) (g := (!z42)) rfl rfl rfl hb49 ?_
          refine va rfl rfl rfl (q_not rfl rfl) ?_
          refine va rfl rfl rfl (q_pick_f (v := .bool (!z60)) rfl rfl (not_t hb49) (by kernel_rfl)) ?_
          refine WR.nil ?_
          change WC _ _ _ _ _ _
          refine WC.cif h (by kernel_rfl) (fun hb62 h => ?_) (fun hb62 h => ?_)
          · skip
            refine WC.rs ?_
            refine va rfl rfl rfl (q_assign (v := .bool false) rfl (by kernel_rfl)) ?_
            refine WR.nil ?_
            change WC _ _ _ _ _ _
            refine WC.ret ?_
            intro w hw
            obtain rfl := Option.some.inj h
            subst hF
            exact end_e (is := [1]) (by kernel_rfl) hw rfl ⟨rowp_, rfl, rfl, (hp_.mono (hl27.trans hl53)), trivial⟩
          · skip
            refine WC.skip ?_
            change WC _ _ _ _ _ _
            refine WC.region ?_
            refine va rfl rfl rfl (q_move (v := .int .i64 i_28) rfl (by kernel_rfl)) ?_
            refine va rfl rfl rfl (q_add rfl rfl rfl) ?_
            refine va rfl rfl rfl (q_assign (v := .int .i64 (w64 (i_28 + 1))) rfl (by kernel_rfl)) ?_
            refine WR.nil ?_
            intro w hw
            exact ⟨(w64 (i_28 + 1)), h, Γ52, (sl_ (by kernel_rfl)), (hw.only (is := [1]) rfl), (hl27.trans hl53), (w64_r _), trivial⟩
        · skip
          have h := bf hb49 h
          refine WR.unsat (c0 := true) (g := (!z42)) rfl rfl rfl hb49 rfl ?_
          refine WR.unsat (c0 := true) (g := (!z42)) rfl rfl rfl hb49 rfl ?_
          refine WR.unsat (c0 := true) (g := (!z42)) rfl rfl rfl hb49 rfl ?_
          refine WR.unsat (c0 := true) (g := (!z42)) rfl rfl rfl hb49 rfl ?_
          refine va rfl rfl rfl (q_pick_t (v := .bool true) rfl rfl (not_f hb49) (by kernel_rfl)) ?_
          refine WR.nil ?_
          change WC _ _ _ _ _ _
          refine WC.ctk (b := true) (by kernel_rfl) rfl ?_
          refine WC.rs ?_
          refine va rfl rfl rfl (q_assign (v := .bool false) rfl (by kernel_rfl)) ?_
          refine WR.nil ?_
          change WC _ _ _ _ _ _
          refine WC.ret ?_
          intro w hw
          obtain rfl := Option.some.inj h
          subst hF
          exact end_e (is := [0]) (by kernel_rfl) hw rfl ⟨rowp_, rfl, rfl, (hp_.mono hl27), trivial⟩
      · skip
        refine WC.exit ?_
        change WC _ _ _ _ _ _
        refine WC.rs ?_
        refine va rfl rfl rfl (q_assign (v := .slice none 0 0) rfl (by kernel_rfl)) ?_
        refine WR.nil ?_
        change WC _ _ _ _ _ _
        refine WC.rs ?_
        refine va rfl rfl rfl (q_move (v := .slice none 0 0) rfl (by kernel_rfl)) ?_
        refine va rfl rfl rfl (q_move (v := .pointer (some ⟨gp_, 0, none⟩)) rfl (by kernel_rfl)) ?_
        refine va rfl rfl rfl (q_nil (A := some ⟨gp_, 0, none⟩) rfl rfl rfl) ?_
        refine va rfl rfl rfl (q_fl 4 fld_59_4 rfl rfl rfl) ?_
        have hq := (hp_.mono hl27)
        obtain ⟨A1_63, c1_63, A3_63, c3_63, r3_63, A4_63, c4_63, r4_63, A5_63, c5_63, hrow_63, ho0_63, ho1_63, ho2_63, ho3_63, ho4_63, ho5_63, ho6_63, -⟩ := hq
        intro w hw; have hw := hw.unfold (i := 0) rfl hrow_63
        refine WR.here (C := CC F Γ26 [[(gp_, .cells #[.int .i64 p_.id, .slice A1_63 p_.own.length c1_63, .bool p_.begun, .slice A3_63 p_.vec.length c3_63, .slice A4_63 p_.paths.length c4_63, .slice A5_63 p_.in_.length c5_63] ep_ (0, 0))], r3_63, r4_63]) ?_ hw
        clear hw
        refine va rfl rfl rfl (q_ldl (i := 0) (v := .slice A4_63 p_.paths.length c4_63) rfl rfl Tryz.isAgg57 rfl rfl) ?_
        refine va rfl rfl rfl (q_move (v := .int .i64 at_1) rfl (by kernel_rfl)) ?_
        have hc68 := ho4_63.capz
        intro w hw; obtain ⟨Γ64, hw, hl65, hr66⟩ := hw.seal (i := 2) rfl; have hs67 := ho4_63.sl hl65 hr66
        refine WR.here (C := CC F Γ64 [[(gp_, .cells #[.int .i64 p_.id, .slice A1_63 p_.own.length c1_63, .bool p_.begun, .slice A3_63 p_.vec.length c3_63, .slice A4_63 p_.paths.length c4_63, .slice A5_63 p_.in_.length c5_63] ep_ (0, 0))], r3_63, []]) ?_ hw
        clear hw
        obtain ⟨hk69, h⟩ := chk_some h
        refine va rfl rfl rfl (q_cut_to (c := c4_63) (hi := at_1.toNat) (xs := p_.paths) Tryz.underlying57 Tryz.sizeOf24 rfl rfl (inle_eq rfl hk69) (inle_le hk69) hc68) ?_
        refine WR.sub (fun w hw => hw.pad) ?_
        obtain ⟨hk70, h⟩ := chk_some h
        refine e_append (T := (slT intT)) (xs := []) (ys := (List.take at_1.toNat p_.paths)) elem_57 (i := 0) rfl rfl rfl rfl (by kernel_rfl) rfl rfl (Own.nil (slT intT) Γ64 24) (of_decide_eq_true hk70) (fun w hw => src_sl (hs67.cut_to (hi := at_1.toNat) (inle_le hk69)) hw) ?_
        intro row71 A72 c73 ho74
        refine va rfl rfl rfl (q_assign (v := .slice A72 (List.take at_1.toNat p_.paths).length c73) rfl (by kernel_rfl)) ?_
        refine WR.nil ?_
        change WC _ _ _ _ _ _
        refine WC.rs ?_
        refine va rfl rfl rfl (q_move (v := .slice A72 (List.take at_1.toNat p_.paths).length c73) rfl (by kernel_rfl)) ?_
        refine va rfl rfl rfl (q_move (v := .pointer (some ⟨gp_, 0, none⟩)) rfl (by kernel_rfl)) ?_
        refine va rfl rfl rfl (q_nil (A := some ⟨gp_, 0, none⟩) rfl rfl rfl) ?_
        refine va rfl rfl rfl (q_fl 4 fld_59_4 rfl rfl rfl) ?_
        refine va rfl rfl rfl (q_ldl (i := 1) (v := .slice A4_63 p_.paths.length c4_63) rfl rfl Tryz.isAgg57 rfl rfl) ?_
        refine va rfl rfl rfl (q_move (v := .int .i64 at_1) rfl (by kernel_rfl)) ?_
        refine va rfl rfl rfl (q_add rfl rfl rfl) ?_
        obtain ⟨hk75, h⟩ := chk_some h
        refine va rfl rfl rfl (q_cut_from (c := c4_63) (lo := (w64 (at_1 + 1)).toNat) (xs := p_.paths) Tryz.underlying57 Tryz.sizeOf24 rfl rfl (inle_eq rfl hk75) (inle_le hk75)) ?_
        obtain ⟨hk76, h⟩ := chk_some h
        refine e_append (T := (slT intT)) (xs := (List.take at_1.toNat p_.paths)) (ys := (List.drop ((w64 (at_1 + 1)).toNat) p_.paths)) elem_57 (i := 0) rfl rfl rfl rfl rfl rfl rfl ho74 (of_decide_eq_true hk76) (fun w hw => src_sl (hs67.cut_from (c := c4_63) (lo := (w64 (at_1 + 1)).toNat) (inle_le hk75) hc68) hw) ?_
        intro row77 A78 c79 ho80
        refine va rfl rfl rfl (q_assign (v := .slice A78 ((List.take at_1.toNat p_.paths) ++ (List.drop ((w64 (at_1 + 1)).toNat) p_.paths)).length c79) rfl (by kernel_rfl)) ?_
        refine WR.nil ?_
        change WC _ _ _ _ _ _
        refine WC.cut (fun σ w => ∃ (left_83 : List (List Int)), ∃ (Γ81 : Gh), ∃ (A84 : Option Addr), ∃ (c85 : Nat), ∃ (row86 : Rowb), m_firthref19_Pull_Tell_j7 p_ path list left_83 = some r ∧ slots σ [(0, .pointer (some ⟨gp_, 0, none⟩)), (1, .slice Apath path.length cpath), (3, .slice Alist list.length clist), (12, .slice A84 left_83.length c85)] ∧ CC F Γ81 [row86, [(gp_, .cells #[.int .i64 p_.id, .slice A1_63 p_.own.length c1_63, .bool p_.begun, .slice A3_63 p_.vec.length c3_63, .slice A4_63 p_.paths.length c4_63, .slice A5_63 p_.in_.length c5_63] ep_ (0, 0))], r3_63] w ∧ Gh.le Γ64 Γ81 ∧ Own (slT intT) Γ81 24 row86 A84 c85 left_83 ∧ True) ?_ ?_
        · skip
          refine WC.rs ?_
          refine va rfl rfl rfl (q_move (v := .slice Apath path.length cpath) rfl (by kernel_rfl)) ?_
          refine va rfl rfl rfl (q_len_slice rfl Tryz.underlying24 rfl) ?_
          refine va rfl rfl rfl (q_eql rfl rfl rfl) ?_
          refine WR.nil ?_
          change WC _ _ _ _ _ _
          refine WC.cif h (by kernel_rfl) (fun hb88 h => ?_) (fun hb88 h => ?_)
          · skip
            refine WC.rs ?_
            refine va rfl rfl rfl (q_move (v := .pointer (some ⟨gp_, 0, none⟩)) rfl (by kernel_rfl)) ?_
            refine va rfl rfl rfl (q_nil (A := some ⟨gp_, 0, none⟩) rfl rfl rfl) ?_
            refine va rfl rfl rfl (q_fl 1 fld_59_1 rfl rfl rfl) ?_
            refine va rfl rfl rfl (q_ldl (i := 1) (v := .slice A1_63 p_.own.length c1_63) rfl rfl Tryz.isAgg23 rfl rfl) ?_
            refine va rfl rfl rfl (q_move (v := .slice Apath path.length cpath) rfl (by kernel_rfl)) ?_
            obtain ⟨z89, hz90, h⟩ := bnd h
            refine e_call (is := []) rfl rfl (call_run Tryz.call20 rfl rfl (by kernel_rfl)) rfl (fun w hp => t_firthref11_Kids (ho2_63.mono hl65) ho1_63 (hpath.mono (hl27.trans hl65)) hpathc hp hz90) ?_
            rintro Γ91 U93 v94 hl92 ⟨A95, c96, row97, rfl, rfl, hr98, _⟩
            change WR _ _ _ (CC F Γ91 [row97, row77, [(gp_, .cells #[.int .i64 p_.id, .slice A1_63 p_.own.length c1_63, .bool p_.begun, .slice A3_63 p_.vec.length c3_63, .slice A4_63 p_.paths.length c4_63, .slice A5_63 p_.in_.length c5_63] ep_ (0, 0))], r3_63, []]) _ _ (upd _ 90 (.slice A95 z89.length c96))
            refine va rfl rfl rfl (q_move (v := .slice Ahashes hashes.length chashes) rfl (by kernel_rfl)) ?_
            have hc103 := hr98.capz
            intro w hw; obtain ⟨Γ99, hw, hl100, hr101⟩ := hw.seal (i := 0) rfl; have hs102 := hr98.sl hl100 hr101
            refine WR.here (C := CC F Γ99 [[], row77, [(gp_, .cells #[.int .i64 p_.id, .slice A1_63 p_.own.length c1_63, .bool p_.begun, .slice A3_63 p_.vec.length c3_63, .slice A4_63 p_.paths.length c4_63, .slice A5_63 p_.in_.length c5_63] ep_ (0, 0))], r3_63, []]) ?_ hw
            clear hw
            obtain ⟨z104, hz105, h⟩ := bnd h
            refine e_call (is := []) rfl rfl (call_run Tryz.call59 rfl rfl (by kernel_rfl)) rfl (fun w hp => t_firthref11_Differ hs102 hc103 (hhashes.mono (((hl27.trans hl65).trans hl92).trans hl100)) hhashesc hp hz105) ?_
            rintro Γ106 U108 v109 hl107 ⟨A110, c111, row112, rfl, rfl, hr113, _⟩
            change WR _ _ _ (CC F Γ106 [row112, [], row77, [(gp_, .cells #[.int .i64 p_.id, .slice A1_63 p_.own.length c1_63, .bool p_.begun, .slice A3_63 p_.vec.length c3_63, .slice A4_63 p_.paths.length c4_63, .slice A5_63 p_.in_.length c5_63] ep_ (0, 0))], r3_63, []]) _ _ (upd _ 92 (.slice A110 z104.length c111))
            refine va rfl rfl rfl (q_assign (v := .slice A110 z104.length c111) rfl (by kernel_rfl)) ?_
            refine WR.nil ?_
            change WC _ _ _ _ _ _
            refine WC.rs ?_
            refine va rfl rfl rfl (q_assign (v := .int .i64 0) rfl (by kernel_rfl)) ?_
            refine WR.nil ?_
            change WC _ _ _ _ _ _
            refine WC.block ?_
            refine WC.forI h (fun (i122 : Nat) (left_116 : List (List Int)) σ w => ∃ (Γ114 : Gh), ∃ (A117 : Option Addr), ∃ (c118 : Nat), ∃ (row119 : Rowb), slots σ [(0, .pointer (some ⟨gp_, 0, none⟩)), (1, .slice Apath path.length cpath), (3, .slice Alist list.length clist), (12, .slice A117 left_116.length c118), (13, .slice A110 z104.length c111), (14, .int .i64 ((i122 : Nat) : Int))] ∧ CC F Γ114 [row119, row112, [(gp_, .cells #[.int .i64 p_.id, .slice A1_63 p_.own.length c1_63, .bool p_.begun, .slice A3_63 p_.vec.length c3_63, .slice A4_63 p_.paths.length c4_63, .slice A5_63 p_.in_.length c5_63] ep_ (0, 0))], r3_63] w ∧ Gh.le Γ106 Γ114 ∧ Own (slT intT) Γ114 24 row119 A117 c118 left_116 ∧ True) ?_ ?_
            · skip
              intro w hw
              exact ⟨Γ106, A78, c79, row77, (sl_ (by kernel_rfl)), (hw.only (is := [2, 0, 1, 1]) rfl), (Gh.refl _), (ho80.mono ((hl92.trans hl100).trans hl107)), trivial⟩
            rintro f121 i122 left_116 σ w hi123 hlt124 hge125 ⟨Γ114, A117, c118, row119, hsl, hw, hl115, ho120, -⟩
            refine Wpt.slots hsl ?_
            refine WC.here (C := CC F Γ114 [row119, row112, [(gp_, .cells #[.int .i64 p_.id, .slice A1_63 p_.own.length c1_63, .bool p_.begun, .slice A3_63 p_.vec.length c3_63, .slice A4_63 p_.paths.length c4_63, .slice A5_63 p_.in_.length c5_63] ep_ (0, 0))], r3_63]) ?_ hw
            clear hw hsl
            refine WC.seq ?_
            refine WC.rs ?_
            refine va rfl rfl rfl (q_move (v := .int .i64 ((i122 : Nat) : Int)) rfl (by kernel_rfl)) ?_
            refine va rfl rfl rfl (q_move (v := .slice A110 z104.length c111) rfl (by kernel_rfl)) ?_
            refine va rfl rfl rfl (q_len_slice rfl Tryz.underlying24 rfl) ?_
            refine va rfl rfl rfl (q_lss rfl rfl rfl) ?_
            refine WR.nil ?_
            change WC _ _ _ _ _ _
            refine WC.cond (b := (decide (((i122 : Nat) : Int) < ((z104.length : Nat) : Int)))) (by kernel_rfl) (fun hb126 => ?_) (fun hb126 => ?_)
            · skip
              have hl127 := ilt hb126
              have h := hlt124 hl127
              refine WC.skip ?_
              change WC _ _ _ _ _ _
              refine WC.seq ?_
              refine WC.block ?_
              intro w hw; have h0128 := hw.le
              refine WC.here (C := CC F Γ114 [row119, row112, [(gp_, .cells #[.int .i64 p_.id, .slice A1_63 p_.own.length c1_63, .bool p_.begun, .slice A3_63 p_.vec.length c3_63, .slice A4_63 p_.paths.length c4_63, .slice A5_63 p_.in_.length c5_63] ep_ (0, 0))], r3_63]) ?_ hw; clear hw
              refine WC.held (CC F Γ114 [row112, [(gp_, .cells #[.int .i64 p_.id, .slice A1_63 p_.own.length c1_63, .bool p_.begun, .slice A3_63 p_.vec.length c3_63, .slice A4_63 p_.paths.length c4_63, .slice A5_63 p_.in_.length c5_63] ep_ (0, 0))]]) (by kernel_rfl) (fun w hw => hw.drawn _) ?_
              change WH _ _ _ _ (CC F Γ114 [row119, row112, [(gp_, .cells #[.int .i64 p_.id, .slice A1_63 p_.own.length c1_63, .bool p_.begun, .slice A3_63 p_.vec.length c3_63, .slice A4_63 p_.paths.length c4_63, .slice A5_63 p_.in_.length c5_63] ep_ (0, 0))], r3_63]) _ 12 #[false, false, false, false, false, false, false, false, false, false, false, false] _
              refine ht (i := 0) rfl (by kernel_rfl) rfl rfl rfl (fun w hw => hw.back (Gh.refl _) h0128 (.cons _ (.cons_cons _ (.cons_cons _ (.cons _ .slnil))))) (q_move (v := .slice A117 left_116.length c118) rfl (by kernel_rfl)) ?_
              refine ht (i := 1) rfl (by kernel_rfl) rfl rfl rfl (fun w hw => hw.back (Gh.refl _) h0128 (.cons _ (.cons_cons _ (.cons_cons _ (.cons _ .slnil))))) (q_move (v := .slice Apath path.length cpath) rfl (by kernel_rfl)) ?_
              obtain ⟨hk129, h⟩ := chk_some h
              refine ht (i := 2) rfl (by kernel_rfl) rfl rfl rfl (fun w hw => hw.back (Gh.refl _) h0128 (.cons _ (.cons_cons _ (.cons_cons _ (.cons _ .slnil))))) (q_ixn (i := 0) Tryz.underlying24 Tryz.sizeOf3 rfl rfl rfl (of_decide_eq_true hk129) ((hpath.mono (((((hl27.trans hl65).trans hl92).trans hl100).trans hl107).trans hl115)).some_ (of_decide_eq_true hk129))) ?_
              refine ht (i := 3) rfl (by kernel_rfl) rfl rfl rfl (fun w hw => hw.back (Gh.refl _) h0128 (.cons _ (.cons_cons _ (.cons_cons _ (.cons _ .slnil))))) (q_ld (c := 0) (v := .int .i64 (gt path 0)) ((hpath.mono (((((hl27.trans hl65).trans hl92).trans hl100).trans hl107).trans hl115)).intT_at (of_decide_eq_true hk129)).2 rfl Tryz.isAgg3 rfl rfl) ?_
              refine ht (i := 4) rfl (by kernel_rfl) rfl rfl rfl (fun w hw => hw.back (Gh.refl _) h0128 (.cons _ (.cons_cons _ (.cons_cons _ (.cons _ .slnil))))) (q_move (v := .slice A110 z104.length c111) rfl (by kernel_rfl)) ?_
              refine ht (i := 5) rfl (by kernel_rfl) rfl rfl rfl (fun w hw => hw.back (Gh.refl _) h0128 (.cons _ (.cons_cons _ (.cons_cons _ (.cons _ .slnil))))) (q_move (v := .int .i64 ((i122 : Nat) : Int)) rfl (by kernel_rfl)) ?_
              refine ht (i := 6) rfl (by kernel_rfl) rfl rfl rfl (fun w hw => hw.back (Gh.refl _) h0128 (.cons _ (.cons_cons _ (.cons_cons _ (.cons _ .slnil))))) (q_ixn (i := i122) Tryz.underlying24 Tryz.sizeOf3 rfl rfl rfl hl127 ((hr113.mono hl115).some_ hl127)) ?_
              refine ht (i := 7) rfl (by kernel_rfl) rfl rfl rfl (fun w hw => hw.back (Gh.refl _) h0128 (.cons _ (.cons_cons _ (.cons_cons _ (.cons _ .slnil))))) (q_ldo (c := 0) (v := .int .i64 (gt z104 i122)) (i := 0) rfl ((hr113.mono hl115).intT_at hl127).2 rfl Tryz.isAgg3 rfl rfl) ?_
              refine WH.lone (i := 8) (by kernel_rfl) rfl ?_
              refine e_buildSlice (cs := #[.int .i64 (gt path 0), .int .i64 (gt z104 i122)]) (e := 3) rfl rfl rfl rfl (fun w => by kernel_rfl) ?_
              intro g130
              refine WR.nil ?_
              refine WH.next (fun w hw => hw.back (Gh.refl _) h0128 (.cons _ (.cons _ (.cons_cons _ (.cons_cons _ (.cons _ .slnil)))))) ?_
              refine WH.lone (i := 9) (by kernel_rfl) rfl ?_
              have ho131 : Own intT Γ114 3 [(g130, .cells #[.int .i64 (gt path 0), .int .i64 (gt z104 i122)] 3 (0, 0))] (some ⟨g130, 0, none⟩) 2 [(gt path 0), (gt z104 i122)] := Own.of_blockL (T := intT) (ys := [(gt path 0), (gt z104 i122)]) [[.int .i64 (gt path 0)], [.int .i64 (gt z104 i122)]] rfl (show 2 ≤ lim by decide) (show Ty.rd intT Γ114 [.int .i64 (gt path 0)] (gt path 0) ∧ Ty.rd intT Γ114 [.int .i64 (gt z104 i122)] (gt z104 i122) ∧ True from ⟨⟨rfl, ((hpath.mono (((((hl27.trans hl65).trans hl92).trans hl100).trans hl107).trans hl115)).intT_at (of_decide_eq_true hk129)).1⟩, ⟨rfl, ((hr113.mono hl115).intT_at hl127).1⟩, trivial⟩)
              have hc136 := ho131.capz
              intro w hw; obtain ⟨Γ132, hw, hl133, hr134⟩ := hw.seal (i := 0) rfl; have hs135 := ho131.sl hl133 hr134
              refine WR.here (C := CC F Γ132 [[], row119, row112, [(gp_, .cells #[.int .i64 p_.id, .slice A1_63 p_.own.length c1_63, .bool p_.begun, .slice A3_63 p_.vec.length c3_63, .slice A4_63 p_.paths.length c4_63, .slice A5_63 p_.in_.length c5_63] ep_ (0, 0))], r3_63]) ?_ hw
              clear hw
              refine e_buildSlice (cs := #[.slice (some ⟨g130, 0, none⟩) [(gt path 0), (gt z104 i122)].length 2]) (e := 24) rfl rfl rfl rfl (fun w => by kernel_rfl) ?_
              intro g137
              refine WR.nil ?_
              refine WH.next (fun w hw => hw.back hl133 h0128 (.cons _ (.cons _ (.cons _ (.cons_cons _ (.cons_cons _ (.cons _ .slnil))))))) ?_
              refine WH.lone (i := 10) (by kernel_rfl) rfl ?_
              obtain ⟨hk138, h⟩ := chk_some h
              refine e_append (T := (slT intT)) (xs := left_116) (ys := [[(gt path 0), (gt z104 i122)]]) elem_57 (i := 2) rfl rfl rfl rfl rfl rfl rfl (ho120.mono hl133) (of_decide_eq_true hk138) (fun w hw => src_one (T := (slT intT)) (y := [(gt path 0), (gt z104 i122)]) (i := 0) rfl (by exact ⟨(some ⟨g130, 0, none⟩), 2, rfl, hc136, hs135⟩) hw) ?_
              intro row139 A140 c141 ho142
              refine WR.nil ?_
              refine WH.next (fun w hw => hw.back hl133 h0128 (.cons _ (.cons _ (.cons _ (.cons_cons _ (.cons_cons _ (.cons _ .slnil))))))) ?_
              refine ht (i := 11) rfl (by kernel_rfl) rfl rfl rfl (fun w hw => hw.back hl133 h0128 (.cons _ (.cons _ (.cons _ (.cons_cons _ (.cons_cons _ (.cons _ .slnil))))))) (q_assign (v := .slice A140 (left_116 ++ [[(gt path 0), (gt z104 i122)]]).length c141) rfl (by kernel_rfl)) ?_
              refine WH.done (by kernel_rfl) ?_
              change WC _ _ _ _ _ _
              refine WC.region ?_
              refine va rfl rfl rfl (q_move (v := .int .i64 ((i122 : Nat) : Int)) rfl (by kernel_rfl)) ?_
              refine va rfl rfl rfl (q_add_r (r := ((i122 + 1 : Nat) : Int)) rfl rfl rfl (ctr_len hl127 (hr113.mono hl115).le)) ?_
              refine va rfl rfl rfl (q_assign (v := .int .i64 ((i122 + 1 : Nat) : Int)) rfl (by kernel_rfl)) ?_
              refine WR.nil ?_
              intro w hw
              exact ⟨hl127, (left_116 ++ [[(gt path 0), (gt z104 i122)]]), h, Γ132, A140, c141, row139, (sl_ (by kernel_rfl)), (hw.only (is := [2, 2, 2, 2]) rfl), (hl115.trans hl133), ho142, trivial⟩
            · skip
              have h := hge125 (ige hb126)
              refine WC.exit ?_
              intro w hw
              exact ⟨left_116, Γ114, A117, c118, row119, h, (sl_ (by kernel_rfl)), (hw.only (is := [0, 1, 1]) rfl), (((hl92.trans hl100).trans hl107).trans hl115), ho120, trivial⟩
          · skip
            refine WC.skip ?_
            intro w hw
            exact ⟨((List.take at_1.toNat p_.paths) ++ (List.drop ((w64 (at_1 + 1)).toNat) p_.paths)), Γ64, A78, c79, row77, h, (sl_ (by kernel_rfl)), (hw.only (is := [0, 0, 0]) rfl), (Gh.refl _), ho80, trivial⟩
        · skip
          rintro σ w ⟨left_83, Γ81, A84, c85, row86, h, hsl, hw, hl82, ho87, -⟩
          refine Wpt.slots hsl ?_
          refine WC.here (C := CC F Γ81 [row86, [(gp_, .cells #[.int .i64 p_.id, .slice A1_63 p_.own.length c1_63, .bool p_.begun, .slice A3_63 p_.vec.length c3_63, .slice A4_63 p_.paths.length c4_63, .slice A5_63 p_.in_.length c5_63] ep_ (0, 0))], r3_63]) ?_ hw
          clear hw hsl
          refine WC.rs ?_
          refine va rfl rfl rfl (q_move (v := .pointer (some ⟨gp_, 0, none⟩)) rfl (by kernel_rfl)) ?_
          refine va rfl rfl rfl (q_move (v := .slice A84 left_83.length c85) rfl (by kernel_rfl)) ?_
          refine va rfl rfl rfl (q_nil (A := some ⟨gp_, 0, none⟩) rfl rfl rfl) ?_
          refine va rfl rfl rfl (q_fl 4 fld_59_4 rfl rfl rfl) ?_
          refine e_st (i := 1) (v := .slice A84 left_83.length c85) (new := #[.int .i64 p_.id, .slice A1_63 p_.own.length c1_63, .bool p_.begun, .slice A3_63 p_.vec.length c3_63, .slice A84 left_83.length c85, .slice A5_63 p_.in_.length c5_63]) rfl Tryz.sizeOf57 rfl rfl rfl rfl (by kernel_rfl) rfl rfl rfl rfl ?_
          refine WR.nil ?_
          change WC _ _ _ _ _ _
          refine WC.seq ?_
          refine WC.rs ?_
          refine va rfl rfl rfl (q_assign (v := .int .i64 0) rfl (by kernel_rfl)) ?_
          refine WR.nil ?_
          change WC _ _ _ _ _ _
          refine WC.block ?_
          obtain ⟨row_143, hrow_143, hob_143⟩ : ∃ rw : Rowb, rw = ([[(gp_, .cells #[.int .i64 p_.id, .slice A1_63 p_.own.length c1_63, .bool p_.begun, .slice A3_63 p_.vec.length c3_63, .slice A84 left_83.length c85, .slice A5_63 p_.in_.length c5_63] ep_ (0, 0))], r3_63, row86] : List Rowb).flatten ∧ Ofirthref19_Pull.ob ep_ Γ81 gp_ rw (⟨p_.id, p_.own, p_.begun, p_.vec, left_83, p_.in_⟩ : Ofirthref19_Pull) := ⟨_, rfl, A1_63, c1_63, A3_63, c3_63, r3_63, A84, c85, row86, A5_63, c5_63, rfl, ho0_63, ho1_63, (ho2_63.mono (hl65.trans hl82)), (ho3_63.mono (hl65.trans hl82)), ho87, ho5_63, (ho6_63.mono (hl65.trans hl82)), trivial⟩
          intro w hw; have hw := hw.fold (is := [1, 1, 0]) rfl hrow_143
          refine WC.here (C := CC F Γ81 [row_143]) ?_ hw
          clear hw
          refine WC.loopN h (fun (s : Int × Ofirthref19_Pull) σ w => match s with | (i_146, o148) => ∃ (Γ144 : Gh), ∃ (row149 : Rowb), slots σ [(0, .pointer (some ⟨gp_, 0, none⟩)), (1, .slice Apath path.length cpath), (3, .slice Alist list.length clist), (15, .int .i64 i_146)] ∧ CC F Γ144 [row149] w ∧ Gh.le Γ81 Γ144 ∧ I64 i_146 ∧ Ofirthref19_Pull.ob ep_ Γ144 gp_ row149 o148 ∧ True) ?_ ?_
          · skip
            intro w hw
            exact ⟨Γ81, row_143, (sl_ (by kernel_rfl)), hw, (Gh.refl _), (show I64 0 by decide), hob_143, trivial⟩
          rintro f151 ⟨i_146, o148⟩ σ w h ⟨Γ144, row149, hsl, hw, hl145, hr147, ho150, -⟩
          refine Wpt.slots hsl ?_
          refine WC.here (C := CC F Γ144 [row149]) ?_ hw
          clear hw hsl
          refine WC.seq ?_
          refine WC.rs ?_
          refine va rfl rfl rfl (q_move (v := .int .i64 i_146) rfl (by kernel_rfl)) ?_
          refine va rfl rfl rfl (q_move (v := .slice Alist list.length clist) rfl (by kernel_rfl)) ?_
          refine va rfl rfl rfl (q_len_slice rfl Tryz.underlying23 rfl) ?_
          refine va rfl rfl rfl (q_lss rfl rfl rfl) ?_
          refine va rfl rfl rfl (q_move (v := .bool (decide (i_146 < ((list.length : Nat) : Int)))) rfl (by kernel_rfl)) ?_
          refine vg1 rfl rfl rfl rfl rfl (fun hg155 => QV.qo (q_move (v := .slice Apath path.length cpath) rfl (by kernel_rfl))) ?_
          refine vg1 rfl rfl rfl rfl rfl (fun hg156 => QV.qo (q_len_slice rfl Tryz.underlying24 (gu hg156 rfl))) ?_
          refine vg1 rfl rfl rfl rfl rfl (fun hg157 => QV.qo (q_eql rfl (gu hg157 rfl) rfl)) ?_
          refine va rfl rfl rfl (q_pick rfl rfl (pk_and' (g := (decide (i_146 < ((list.length : Nat) : Int)))) (y := (((path.length : Nat) : Int) == 2)))) ?_
          refine WR.nil ?_
          change WC _ _ _ _ _ _
          refine WC.cif h (by kernel_rfl) (fun hb158 h => ?_) (fun hb158 h => ?_)
          · skip
            refine WC.skip ?_
            change WC _ _ _ _ _ _
            refine WC.seq ?_
            refine WC.block ?_
            intro w hw; have h0159 := hw.le
            refine WC.here (C := CC F Γ144 [row149]) ?_ hw; clear hw
            refine WC.held (CC F Γ144 []) (by kernel_rfl) (fun w hw => hw.drawn _) ?_
            change WH _ _ _ _ (CC F Γ144 [row149]) _ 14 #[false, false, false, false, false, false, false, false, false, false, false, false, false, false] _
            refine ht (i := 0) rfl (by kernel_rfl) rfl rfl rfl (fun w hw => hw.back (Gh.refl _) h0159 (.cons _ .slnil)) (q_move (v := .pointer (some ⟨gp_, 0, none⟩)) rfl (by kernel_rfl)) ?_
            refine ht (i := 1) rfl (by kernel_rfl) rfl rfl rfl (fun w hw => hw.back (Gh.refl _) h0159 (.cons _ .slnil)) (q_move (v := .pointer (some ⟨gp_, 0, none⟩)) rfl (by kernel_rfl)) ?_
            refine ht (i := 2) rfl (by kernel_rfl) rfl rfl rfl (fun w hw => hw.back (Gh.refl _) h0159 (.cons _ .slnil)) (q_nil (A := some ⟨gp_, 0, none⟩) rfl rfl rfl) ?_
            refine ht (i := 3) rfl (by kernel_rfl) rfl rfl rfl (fun w hw => hw.back (Gh.refl _) h0159 (.cons _ .slnil)) (q_fl 5 fld_59_5 rfl rfl rfl) ?_
            refine ht (i := 5) rfl (by kernel_rfl) rfl rfl rfl (fun w hw => hw.back (Gh.refl _) h0159 (.cons _ .slnil)) (q_move (v := .slice Alist list.length clist) rfl (by kernel_rfl)) ?_
            refine ht (i := 6) rfl (by kernel_rfl) rfl rfl rfl (fun w hw => hw.back (Gh.refl _) h0159 (.cons _ .slnil)) (q_move (v := .int .i64 i_146) rfl (by kernel_rfl)) ?_
            obtain ⟨hk160, h⟩ := chk_some h
            refine ht (i := 7) rfl (by kernel_rfl) rfl rfl rfl (fun w hw => hw.back (Gh.refl _) h0159 (.cons _ .slnil)) (q_ix Tryz.underlying23 Tryz.sizeOf70 rfl rfl rfl hk160 ((hlist.mono (((hl27.trans hl65).trans hl82).trans hl145)).some_ (inb_lt hk160))) ?_
            obtain ⟨A161, c162, hx163⟩ := (hlist.mono (((hl27.trans hl65).trans hl82).trans hl145)).recT_at i_146.toNat
            refine ht (i := 8) rfl (by kernel_rfl) rfl rfl rfl (fun w hw => hw.back (Gh.refl _) h0159 (.cons _ .slnil)) (q_lda (c := 0) (vs := [.string (gt list i_146.toNat).key, .slice A161 ((gt list i_146.toNat).vers).length c162]) (hx163 (inb_lt hk160)).2 rfl Tryz.isAgg70 Tryz.sizeOf70 rfl rfl rfl) ?_
            obtain ⟨z164, hz165, h⟩ := bnd h
            refine WH.each (l := [4, 9]) (by kernel_rfl) (by simp) ?_
            intro i hi; simp only [List.mem_cons, List.not_mem_nil, or_false] at hi
            rcases hi with rfl | rfl
            · refine ⟨_, rfl, ?_⟩
              have hq := ho150
              obtain ⟨A1_166, c1_166, A3_166, c3_166, r3_166, A4_166, c4_166, r4_166, A5_166, c5_166, hrow_166, ho0_166, ho1_166, ho2_166, ho3_166, ho4_166, ho5_166, ho6_166, -⟩ := hq
              intro w hw; have hw := hw.unfold (i := 0) rfl hrow_166
              refine WR.here (C := CC F Γ144 [[(gp_, .cells #[.int .i64 o148.id, .slice A1_166 o148.own.length c1_166, .bool o148.begun, .slice A3_166 o148.vec.length c3_166, .slice A4_166 o148.paths.length c4_166, .slice A5_166 o148.in_.length c5_166] ep_ (0, 0))], r3_166, r4_166]) ?_ hw
              clear hw
              refine va rfl rfl rfl (q_ldl (i := 0) (v := .slice A5_166 o148.in_.length c5_166) rfl rfl Tryz.isAgg23 rfl rfl) ?_
              refine WR.nil ?_
              refine WH.next (fun w hw => hw.back (Gh.refl _) h0159 (.cons _ (.cons _ (.cons _ .slnil)))) ?_
              refine WH.lone (i := 9) (by kernel_rfl) rfl ?_
              refine e_call (is := []) rfl rfl (call_run Tryz.call42 rfl rfl (by kernel_rfl)) rfl (fun w hp => t_firthref10_Own (gt list i_146.toNat) (hx163 (inb_lt hk160)).1 hp hz165) ?_
              rintro Γ167 U169 v170 hl168 ⟨A171, c172, rfl, rfl, hr173, _⟩
              change WR _ _ _ (CC F Γ167 [[(gp_, .cells #[.int .i64 o148.id, .slice A1_166 o148.own.length c1_166, .bool o148.begun, .slice A3_166 o148.vec.length c3_166, .slice A4_166 o148.paths.length c4_166, .slice A5_166 o148.in_.length c5_166] ep_ (0, 0))], r3_166, r4_166]) _ _ (upd _ 134 (.agg #[.string z164.key, .slice A171 z164.vers.length c172]))
              refine WR.nil ?_
              refine WH.next (fun w hw => hw.back hl168 h0159 (.cons _ (.cons _ (.cons _ .slnil)))) ?_
              refine WH.lone (i := 10) (by kernel_rfl) rfl ?_
              obtain ⟨z174, hz175, h⟩ := bnd h
              refine e_call (is := []) rfl rfl (call_run Tryz.call40 rfl rfl (by kernel_rfl)) rfl (fun w hp => t_firthref10_With (ho6_166.mono hl168) ho5_166 z164 hr173 hp hz175) ?_
              rintro Γ176 U178 v179 hl177 ⟨A180, c181, row182, rfl, rfl, hr183, _⟩
              change WR _ _ _ (CC F Γ176 [row182, [(gp_, .cells #[.int .i64 o148.id, .slice A1_166 o148.own.length c1_166, .bool o148.begun, .slice A3_166 o148.vec.length c3_166, .slice A4_166 o148.paths.length c4_166, .slice A5_166 o148.in_.length c5_166] ep_ (0, 0))], r3_166, r4_166]) _ _ (upd _ 135 (.slice A180 z174.length c181))
              refine WR.nil ?_
              refine WH.next (fun w hw => hw.back (hl168.trans hl177) h0159 (.cons _ (.cons _ (.cons _ (.cons _ .slnil))))) ?_
              refine ht (i := 11) rfl (by kernel_rfl) rfl rfl rfl (fun w hw => hw.back (hl168.trans hl177) h0159 (.cons _ (.cons _ (.cons _ (.cons _ .slnil))))) (q_nil (A := some ⟨gp_, 0, none⟩) rfl rfl rfl) ?_
              refine ht (i := 12) rfl (by kernel_rfl) rfl rfl rfl (fun w hw => hw.back (hl168.trans hl177) h0159 (.cons _ (.cons _ (.cons _ (.cons _ .slnil))))) (q_fl 5 fld_59_5 rfl rfl rfl) ?_
              refine WH.lone (i := 13) (by kernel_rfl) rfl ?_
              refine e_st (i := 1) (v := .slice A180 z174.length c181) (new := #[.int .i64 o148.id, .slice A1_166 o148.own.length c1_166, .bool o148.begun, .slice A3_166 o148.vec.length c3_166, .slice A4_166 o148.paths.length c4_166, .slice A180 z174.length c181]) rfl Tryz.sizeOf23 rfl rfl rfl rfl (by kernel_rfl) rfl rfl rfl rfl ?_
              refine WR.nil ?_
              refine WH.next (fun w hw => hw.back (hl168.trans hl177) h0159 (.cons _ (.cons _ (.cons _ (.cons _ .slnil))))) ?_
              refine WH.done (by kernel_rfl) ?_
              change WC _ _ _ _ _ _
              refine WC.region ?_
              refine va rfl rfl rfl (q_move (v := .int .i64 i_146) rfl (by kernel_rfl)) ?_
              refine va rfl rfl rfl (q_add rfl rfl rfl) ?_
              refine va rfl rfl rfl (q_assign (v := .int .i64 (w64 (i_146 + 1))) rfl (by kernel_rfl)) ?_
              refine WR.nil ?_
              intro w hw
              have hc188 := hr183.capz
              obtain ⟨Γ184, hw, hl185, hr186⟩ := hw.seal (i := 0) rfl; have hs187 := hr183.sl hl185 hr186
              obtain ⟨row_189, hrow_189, hob_189⟩ : ∃ rw : Rowb, rw = ([[(gp_, .cells #[.int .i64 o148.id, .slice A1_166 o148.own.length c1_166, .bool o148.begun, .slice A3_166 o148.vec.length c3_166, .slice A4_166 o148.paths.length c4_166, .slice A180 z174.length c181] ep_ (0, 0))], r3_166, r4_166] : List Rowb).flatten ∧ Ofirthref19_Pull.ob ep_ Γ184 gp_ rw (⟨o148.id, o148.own, o148.begun, o148.vec, o148.paths, z174⟩ : Ofirthref19_Pull) := ⟨_, rfl, A1_166, c1_166, A3_166, c3_166, r3_166, A4_166, c4_166, r4_166, A180, c181, rfl, ho0_166, ho1_166, (ho2_166.mono ((hl168.trans hl177).trans hl185)), (ho3_166.mono ((hl168.trans hl177).trans hl185)), (ho4_166.mono ((hl168.trans hl177).trans hl185)), hc188, hs187, trivial⟩
              have hw := hw.fold (is := [1, 1, 1]) rfl hrow_189
              exact ⟨((w64 (i_146 + 1)), (⟨o148.id, o148.own, o148.begun, o148.vec, o148.paths, z174⟩ : Ofirthref19_Pull)), h, Γ184, row_189, (sl_ (by kernel_rfl)), (hw.only (is := [0]) rfl), (((hl145.trans hl168).trans hl177).trans hl185), (w64_r _), hob_189, trivial⟩
            · refine ⟨_, rfl, ?_⟩
              refine e_call (is := []) rfl rfl (call_run Tryz.call42 rfl rfl (by kernel_rfl)) rfl (fun w hp => t_firthref10_Own (gt list i_146.toNat) (hx163 (inb_lt hk160)).1 hp hz165) ?_
              rintro Γ166 U168 v169 hl167 ⟨A170, c171, rfl, rfl, hr172, _⟩
              change WR _ _ _ (CC F Γ166 [row149]) _ _ (upd _ 134 (.agg #[.string z164.key, .slice A170 z164.vers.length c171]))
              refine WR.nil ?_
              refine WH.next (fun w hw => hw.back hl167 h0159 (.cons _ .slnil)) ?_
              refine WH.lone (i := 4) (by kernel_rfl) rfl ?_
              have hq := (ho150.mono hl167)
              obtain ⟨A1_173, c1_173, A3_173, c3_173, r3_173, A4_173, c4_173, r4_173, A5_173, c5_173, hrow_173, ho0_173, ho1_173, ho2_173, ho3_173, ho4_173, ho5_173, ho6_173, -⟩ := hq
              intro w hw; have hw := hw.unfold (i := 0) rfl hrow_173
              refine WR.here (C := CC F Γ166 [[(gp_, .cells #[.int .i64 o148.id, .slice A1_173 o148.own.length c1_173, .bool o148.begun, .slice A3_173 o148.vec.length c3_173, .slice A4_173 o148.paths.length c4_173, .slice A5_173 o148.in_.length c5_173] ep_ (0, 0))], r3_173, r4_173]) ?_ hw
              clear hw
              refine va rfl rfl rfl (q_ldl (i := 0) (v := .slice A5_173 o148.in_.length c5_173) rfl rfl Tryz.isAgg23 rfl rfl) ?_
              refine WR.nil ?_
              refine WH.next (fun w hw => hw.back hl167 h0159 (.cons _ (.cons _ (.cons _ .slnil)))) ?_
              refine WH.lone (i := 10) (by kernel_rfl) rfl ?_
              obtain ⟨z174, hz175, h⟩ := bnd h
              refine e_call (is := []) rfl rfl (call_run Tryz.call40 rfl rfl (by kernel_rfl)) rfl (fun w hp => t_firthref10_With ho6_173 ho5_173 z164 hr172 hp hz175) ?_
              rintro Γ176 U178 v179 hl177 ⟨A180, c181, row182, rfl, rfl, hr183, _⟩
              change WR _ _ _ (CC F Γ176 [row182, [(gp_, .cells #[.int .i64 o148.id, .slice A1_173 o148.own.length c1_173, .bool o148.begun, .slice A3_173 o148.vec.length c3_173, .slice A4_173 o148.paths.length c4_173, .slice A5_173 o148.in_.length c5_173] ep_ (0, 0))], r3_173, r4_173]) _ _ (upd _ 135 (.slice A180 z174.length c181))
              refine WR.nil ?_
              refine WH.next (fun w hw => hw.back (hl167.trans hl177) h0159 (.cons _ (.cons _ (.cons _ (.cons _ .slnil))))) ?_
              refine ht (i := 11) rfl (by kernel_rfl) rfl rfl rfl (fun w hw => hw.back (hl167.trans hl177) h0159 (.cons _ (.cons _ (.cons _ (.cons _ .slnil))))) (q_nil (A := some ⟨gp_, 0, none⟩) rfl rfl rfl) ?_
              refine ht (i := 12) rfl (by kernel_rfl) rfl rfl rfl (fun w hw => hw.back (hl167.trans hl177) h0159 (.cons _ (.cons _ (.cons _ (.cons _ .slnil))))) (q_fl 5 fld_59_5 rfl rfl rfl) ?_
              refine WH.lone (i := 13) (by kernel_rfl) rfl ?_
              refine e_st (i := 1) (v := .slice A180 z174.length c181) (new := #[.int .i64 o148.id, .slice A1_173 o148.own.length c1_173, .bool o148.begun, .slice A3_173 o148.vec.length c3_173, .slice A4_173 o148.paths.length c4_173, .slice A180 z174.length c181]) rfl Tryz.sizeOf23 rfl rfl rfl rfl (by kernel_rfl) rfl rfl rfl rfl ?_
              refine WR.nil ?_
              refine WH.next (fun w hw => hw.back (hl167.trans hl177) h0159 (.cons _ (.cons _ (.cons _ (.cons _ .slnil))))) ?_
              refine WH.done (by kernel_rfl) ?_
              change WC _ _ _ _ _ _
              refine WC.region ?_
              refine va rfl rfl rfl (q_move (v := .int .i64 i_146) rfl (by kernel_rfl)) ?_
              refine va rfl rfl rfl (q_add rfl rfl rfl) ?_
              refine va rfl rfl rfl (q_assign (v := .int .i64 (w64 (i_146 + 1))) rfl (by kernel_rfl)) ?_
              refine WR.nil ?_
              intro w hw
              have hc188 := hr183.capz
              obtain ⟨Γ184, hw, hl185, hr186⟩ := hw.seal (i := 0) rfl; have hs187 := hr183.sl hl185 hr186
              obtain ⟨row_189, hrow_189, hob_189⟩ : ∃ rw : Rowb, rw = ([[(gp_, .cells #[.int .i64 o148.id, .slice A1_173 o148.own.length c1_173, .bool o148.begun, .slice A3_173 o148.vec.length c3_173, .slice A4_173 o148.paths.length c4_173, .slice A180 z174.length c181] ep_ (0, 0))], r3_173, r4_173] : List Rowb).flatten ∧ Ofirthref19_Pull.ob ep_ Γ184 gp_ rw (⟨o148.id, o148.own, o148.begun, o148.vec, o148.paths, z174⟩ : Ofirthref19_Pull) := ⟨_, rfl, A1_173, c1_173, A3_173, c3_173, r3_173, A4_173, c4_173, r4_173, A180, c181, rfl, ho0_173, ho1_173, (ho2_173.mono (hl177.trans hl185)), (ho3_173.mono (hl177.trans hl185)), (ho4_173.mono (hl177.trans hl185)), hc188, hs187, trivial⟩
              have hw := hw.fold (is := [1, 1, 1]) rfl hrow_189
              exact ⟨((w64 (i_146 + 1)), (⟨o148.id, o148.own, o148.begun, o148.vec, o148.paths, z174⟩ : Ofirthref19_Pull)), h, Γ184, row_189, (sl_ (by kernel_rfl)), (hw.only (is := [0]) rfl), (((hl145.trans hl167).trans hl177).trans hl185), (w64_r _), hob_189, trivial⟩
          · skip
            refine WC.exit ?_
            change WC _ _ _ _ _ _
            refine WC.rs ?_
            refine va rfl rfl rfl (q_assign (v := .bool true) rfl (by kernel_rfl)) ?_
            refine WR.nil ?_
            change WC _ _ _ _ _ _
            refine WC.ret ?_
            intro w hw
            obtain rfl := Option.some.inj h
            subst hF
            exact end_e (is := [0]) (by kernel_rfl) hw rfl ⟨row149, rfl, rfl, ho150, trivial⟩
set_option maxRecDepth 100000 in
set_option maxHeartbeats 400000 in
theorem t_firthref19_Pull_Done {Γ : Gh} {w0 : World} {gp_ ep_ : Nat} {rowp_ : Rowb} {p_ : Ofirthref19_Pull} (hp_ : Ofirthref19_Pull.ob ep_ Γ gp_ rowp_ p_) (hp_r : ∀ p ∈ rowp_, Γ p.1 = some p.2) (hs : Sat Γ w0) {r : Bool} (h : m_firthref19_Pull_Done p_ = some r) : Calls Tryz.prog 29 #[.pointer (some ⟨gp_, 0, none⟩)] w0 (fun e w' => e = .returned (.bool r) ∧ Fr no w0 w') := by
  refine calls_of (N := 15) (rs := [2]) (args := [.pointer (some ⟨gp_, 0, none⟩)]) Tryz.func29 rfl Tryz.ntmps29 Tryz.results29 rfl ?_
  obtain ⟨F, hF⟩ : ∃ F : Fm, F = ⟨no, w0, Γ⟩ := ⟨_, rfl⟩
  refine WC.here (C := CC F Γ []) ?_ (hF ▸ Cur.start0 hs)
  refine WC.rs ?_
  refine va rfl rfl rfl (q_assign (v := .bool false) rfl (by kernel_rfl)) ?_
  refine WR.nil ?_
  change WC _ _ _ _ _ _
  refine WC.rs ?_
  refine va rfl rfl rfl (q_move (v := .pointer (some ⟨gp_, 0, none⟩)) rfl (by kernel_rfl)) ?_
  refine va rfl rfl rfl (q_nil (A := some ⟨gp_, 0, none⟩) rfl rfl rfl) ?_
  refine va rfl rfl rfl (q_fl 2 fld_59_2 rfl rfl rfl) ?_
  have hq := hp_
  obtain ⟨A1_1, c1_1, A3_1, c3_1, r3_1, A4_1, c4_1, r4_1, A5_1, c5_1, hrow_1, ho0_1, ho1_1, ho2_1, ho3_1, ho4_1, ho5_1, ho6_1, -⟩ := hq
  have hg_2 : ∀ u ∈ ([[(gp_, .cells #[.int .i64 p_.id, .slice A1_1 p_.own.length c1_1, .bool p_.begun, .slice A3_1 p_.vec.length c3_1, .slice A4_1 p_.paths.length c4_1, .slice A5_1 p_.in_.length c5_1] ep_ (0, 0))], r3_1, r4_1] : List Rowb), ∀ p ∈ u, Γ p.1 = some p.2 := fun u hu p hp => (fun p hp => (hp_r p hp)) p (hrow_1 ▸ List.mem_flatten.2 ⟨u, hu, hp⟩)
  have hgc3 := hg_2 _ (List.mem_cons_self ..) (gp_, _) (List.mem_singleton.2 rfl)
  have hgs4 := hg_2 r3_1 (by simp)
  have hgs5 := hg_2 r4_1 (by simp)
  have hs6 := ho3_1.sl (Gh.refl _) hgs4
  have hs7 := ho4_1.sl (Gh.refl _) hgs5
  refine va rfl rfl rfl (q_ldg (v := .bool p_.begun) hgc3 rfl Tryz.isAgg4 rfl rfl) ?_
  refine va rfl rfl rfl (q_move (v := .bool p_.begun) rfl (by kernel_rfl)) ?_
  refine vg1 rfl rfl rfl rfl rfl (fun hg8 => QV.qo (q_move (v := .pointer (some ⟨gp_, 0, none⟩)) rfl (by kernel_rfl))) ?_
  refine vg1 rfl rfl rfl rfl rfl (fun hg9 => QV.qo (q_nil (A := some ⟨gp_, 0, none⟩) rfl (gu hg9 rfl) rfl)) ?_
  refine vg1 rfl rfl rfl rfl rfl (fun hg10 => QV.qo (q_fl 4 fld_59_4 rfl (gu hg10 rfl) rfl)) ?_
  refine vg1 rfl rfl rfl rfl rfl (fun hg11 => QV.qo (q_ldg (v := .slice A4_1 p_.paths.length c4_1) hgc3 rfl Tryz.isAgg57 (gu hg11 rfl) rfl)) ?_
  refine vg1 rfl rfl rfl rfl rfl (fun hg12 => QV.qo (q_len_slice rfl Tryz.underlying57 (gu hg12 rfl))) ?_
  refine vg1 rfl rfl rfl rfl rfl (fun hg13 => QV.qo (q_eql rfl (gu hg13 rfl) rfl)) ?_
  refine va rfl rfl rfl (q_pick rfl rfl (pk_and' (g := p_.begun) (y := (((p_.paths.length : Nat) : Int) == 0)))) ?_
  refine va rfl rfl rfl (q_assign (v := .bool (p_.begun && (((p_.paths.length : Nat) : Int) == 0))) rfl (by kernel_rfl)) ?_
  refine WR.nil ?_
  change WC _ _ _ _ _ _
  refine WC.ret ?_
  intro w hw
  obtain rfl := Option.some.inj h
  subst hF
  exact ⟨by kernel_rfl, hw.fr⟩
set_option maxRecDepth 100000 in
set_option maxHeartbeats 400000 in
theorem t_firthlaw19_paths {Γ : Gh} {w0 : World} {Aa : Option Addr} {ca : Nat} {a : List (List Int)} (ha : Sl (slT intT) Γ Aa a) (hac : a.length ≤ ca) {Ab : Option Addr} {cb : Nat} {b : List (List Int)} (hb : Sl (slT intT) Γ Ab b) (hbc : b.length ≤ cb) (hs : Sat Γ w0) {r : Bool} (h : m_firthlaw19_paths a b = some r) : Calls Tryz.prog 30 #[.slice Aa a.length ca, .slice Ab b.length cb] w0 (fun e w' => e = .returned (.bool r) ∧ Fr no w0 w') := by
  refine calls_of (N := 27) (rs := [4]) (args := [.slice Aa a.length ca, .slice Ab b.length cb]) Tryz.func30 rfl Tryz.ntmps30 Tryz.results30 rfl ?_
  obtain ⟨F, hF⟩ : ∃ F : Fm, F = ⟨no, w0, Γ⟩ := ⟨_, rfl⟩
  refine WC.here (C := CC F Γ []) ?_ (hF ▸ Cur.start0 hs)
  refine WC.rs ?_
  refine va rfl rfl rfl (q_assign (v := .bool false) rfl (by kernel_rfl)) ?_
  refine WR.nil ?_
  change WC _ _ _ _ _ _
  refine WC.seq ?_
  refine WC.rs ?_
  refine va rfl rfl rfl (q_move (v := .slice Aa a.length ca) rfl (by kernel_rfl)) ?_
  refine va rfl rfl rfl (q_len_slice rfl Tryz.underlying57 rfl) ?_
  refine va rfl rfl rfl (q_move (v := .slice Ab b.length cb) rfl (by kernel_rfl)) ?_
  refine va rfl rfl rfl (q_len_slice rfl Tryz.underlying57 rfl) ?_
  refine va rfl rfl rfl (q_neq rfl rfl rfl) ?_
  refine WR.nil ?_
  change WC _ _ _ _ _ _
  refine WC.cif h (by kernel_rfl) (fun hb1 h => ?_) (fun hb1 h => ?_)
  · skip
    refine WC.rs ?_
    refine va rfl rfl rfl (q_assign (v := .bool false) rfl (by kernel_rfl)) ?_
    refine WR.nil ?_
    change WC _ _ _ _ _ _
    refine WC.ret ?_
    intro w hw
    obtain rfl := Option.some.inj h
    subst hF
    exact ⟨by kernel_rfl, hw.fr⟩
  · skip
    refine WC.skip ?_
    change WC _ _ _ _ _ _
    refine WC.seq ?_
    refine WC.rs ?_
    refine va rfl rfl rfl (q_assign (v := .int .i64 0) rfl (by kernel_rfl)) ?_
    refine WR.nil ?_
    change WC _ _ _ _ _ _
    refine WC.block ?_
    refine WC.forI h (fun (i3 : Nat) (s : Unit) σ w => match s with | () => slots σ [(0, .slice Aa a.length ca), (1, .slice Ab b.length cb), (5, .int .i64 ((i3 : Nat) : Int))] ∧ CC F Γ [] w ∧ True) ?_ ?_
    · skip
      intro w hw
      exact ⟨(sl_ (by kernel_rfl)), hw, trivial⟩
    rintro f2 i3 ⟨⟩ σ w hi4 hlt5 hge6 ⟨hsl, hw, -⟩
    refine Wpt.slots hsl ?_
    refine WC.here (C := CC F Γ []) ?_ hw
    clear hw hsl
    refine WC.seq ?_
    refine WC.rs ?_
    refine va rfl rfl rfl (q_move (v := .int .i64 ((i3 : Nat) : Int)) rfl (by kernel_rfl)) ?_
    refine va rfl rfl rfl (q_move (v := .slice Aa a.length ca) rfl (by kernel_rfl)) ?_
    refine va rfl rfl rfl (q_len_slice rfl Tryz.underlying57 rfl) ?_
    refine va rfl rfl rfl (q_lss rfl rfl rfl) ?_
    refine WR.nil ?_
    change WC _ _ _ _ _ _
    refine WC.cond (b := (decide (((i3 : Nat) : Int) < ((a.length : Nat) : Int)))) (by kernel_rfl) (fun hb7 => ?_) (fun hb7 => ?_)
    · skip
      have hl8 := ilt hb7
      have h := hlt5 hl8
      refine WC.skip ?_
      change WC _ _ _ _ _ _
      refine WC.seq ?_
      refine WC.block ?_
      refine WC.seq ?_
      refine WC.dr (by kernel_rfl) (by kernel_rfl) (fun w hw => hw.drawn _) ?_
      refine wa rfl rfl rfl (q_move (v := .slice Aa a.length ca) rfl (by kernel_rfl)) ?_
      refine wa rfl rfl rfl (q_move (v := .int .i64 ((i3 : Nat) : Int)) rfl (by kernel_rfl)) ?_
      refine wa rfl rfl rfl (q_ixn (i := i3) Tryz.underlying57 Tryz.sizeOf24 rfl rfl rfl hl8 (ha.some_ hl8)) ?_
      obtain ⟨A9, c10, hx11⟩ := ha.slT_at i3
      refine wa rfl rfl rfl (q_ld (c := 0) (v := .slice A9 (gt a i3).length c10) (hx11 hl8).2 rfl Tryz.isAgg24 rfl rfl) ?_
      refine wa rfl rfl rfl (q_move (v := .slice Ab b.length cb) rfl (by kernel_rfl)) ?_
      refine wa rfl rfl rfl (q_move (v := .int .i64 ((i3 : Nat) : Int)) rfl (by kernel_rfl)) ?_
      obtain ⟨hk12, h⟩ := chk_some h
      refine wa rfl rfl rfl (q_ixn (i := i3) Tryz.underlying57 Tryz.sizeOf24 rfl rfl rfl (of_decide_eq_true hk12) (hb.some_ (of_decide_eq_true hk12))) ?_
      obtain ⟨A13, c14, hx15⟩ := hb.slT_at i3
      refine wa rfl rfl rfl (q_ld (c := 0) (v := .slice A13 (gt b i3).length c14) (hx15 (of_decide_eq_true hk12)).2 rfl Tryz.isAgg24 rfl rfl) ?_
      obtain ⟨z16, hz17, h⟩ := bnd h
      refine wc rfl rfl rfl (q_call (call_run Tryz.call41 rfl rfl (by kernel_rfl)) (fun w hw => t_firthref06_Ints (Γ := Gh.all w) ((hx11 hl8).1.2.mono hw.sat.le_all) (hx11 hl8).1.1 ((hx15 (of_decide_eq_true hk12)).1.2.mono hw.sat.le_all) (hx15 (of_decide_eq_true hk12)).1.1 (Sat.all w) hz17)) ?_
      refine wa rfl rfl rfl (q_not rfl rfl) ?_
      refine WQ.nil ?_
      change WC _ _ _ _ _ _
      refine WC.cif h (by kernel_rfl) (fun hb18 h => ?_) (fun hb18 h => ?_)
      · skip
        refine WC.rs ?_
        refine va rfl rfl rfl (q_assign (v := .bool false) rfl (by kernel_rfl)) ?_
        refine WR.nil ?_
        change WC _ _ _ _ _ _
        refine WC.ret ?_
        intro w hw
        obtain rfl := Option.some.inj h
        subst hF
        exact ⟨by kernel_rfl, hw.fr⟩
      · skip
        refine WC.skip ?_
        change WC _ _ _ _ _ _
        refine WC.region ?_
        refine va rfl rfl rfl (q_move (v := .int .i64 ((i3 : Nat) : Int)) rfl (by kernel_rfl)) ?_
        refine va rfl rfl rfl (q_add_r (r := ((i3 + 1 : Nat) : Int)) rfl rfl rfl (ctr_len hl8 ha.le)) ?_
        refine va rfl rfl rfl (q_assign (v := .int .i64 ((i3 + 1 : Nat) : Int)) rfl (by kernel_rfl)) ?_
        refine WR.nil ?_
        intro w hw
        exact ⟨hl8, (), h, (sl_ (by kernel_rfl)), hw, trivial⟩
    · skip
      have h := hge6 (ige hb7)
      refine WC.exit ?_
      change WC _ _ _ _ _ _
      refine WC.rs ?_
      refine va rfl rfl rfl (q_assign (v := .bool true) rfl (by kernel_rfl)) ?_
      refine WR.nil ?_
      change WC _ _ _ _ _ _
      refine WC.ret ?_
      intro w hw
      obtain rfl := Option.some.inj h
      subst hF
      exact ⟨by kernel_rfl, hw.fr⟩
end Fw
end Go.Proofs.YtiakfgdgafljnaaGreat
