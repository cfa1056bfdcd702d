/- Walks through the functions that the law reaches (printed by a program). No condition. -/
import Derived.Test.YtmmnpinpcgidnaaGreatW2
namespace Go.Proofs.YtmmnpinpcgidnaaGreat
namespace Fw
set_option linter.unusedVariables false
set_option linter.unusedSimpArgs false
set_option linter.unusedSectionVars false
open Go.RowKit
set_option maxRecDepth 100000 in
set_option maxHeartbeats 400000 in
theorem t_firthref11_Hash_o {Γ : Gh} {w0 : World} {H : List Rec → List Int → Option Int} (hH : C_firthref11_Hash H) {Aall : Option Addr} {call : Nat} {all : List Rec} (hall : Sl recT Γ Aall all) (hallc : all.length ≤ call) {Apath : Option Addr} {cpath : Nat} {path : List Int} (hpath : Sl intT Γ Apath path) (hpathc : path.length ≤ cpath) (hs : Sat Γ w0) {r : Int} (h : m_firthref11_Hash_o H all path = some r) : Calls Tryz.prog 8 #[.slice Aall all.length call, .slice Apath path.length cpath] w0 (fun e w' => e = .returned (.int .u64 r) ∧ Fr no w0 w') := by
  refine calls_of (N := 19) (rs := [4]) (args := [.slice Aall all.length call, .slice Apath path.length cpath]) Tryz.func8 rfl Tryz.ntmps8 Tryz.results8 rfl ?_
  obtain ⟨F, hF⟩ : ∃ F : Fm, F = ⟨no, w0, Γ⟩ := ⟨_, rfl⟩
  refine WC.here (C := CC F Γ []) ?_ (hF ▸ Cur.start0 hs)
  refine WC.rs ?_
  refine va rfl rfl rfl (q_assign (v := .int .u64 0) rfl (by kernel_rfl)) ?_
  refine WR.nil ?_
  change WC _ _ _ _ _ _
  refine WC.seq ?_
  refine WC.rs ?_
  refine va rfl rfl rfl (q_move (v := .slice Apath path.length cpath) rfl (by kernel_rfl)) ?_
  obtain ⟨z1, hz2, h⟩ := bnd h
  refine vc rfl rfl rfl (q_call (call_run Tryz.call26 rfl rfl (by kernel_rfl)) (fun w hw => t_firthref11_Path (Γ := Gh.all w) (hpath.mono hw.sat.le_all) hpathc (Sat.all w) hz2)) ?_
  refine va rfl rfl rfl (q_not rfl rfl) ?_
  refine va rfl rfl rfl (q_move (v := .bool (!z1)) rfl (by kernel_rfl)) ?_
  refine vg0 rfl rfl rfl rfl rfl (fun hg3 => QV.qo (q_move (v := .slice Aall all.length call) rfl (by kernel_rfl))) ?_
  refine vg0 rfl rfl rfl rfl rfl (fun hg4 => QV.qo (q_move (v := .slice Apath path.length cpath) rfl (by kernel_rfl))) ?_
  refine (Bool.eq_false_or_eq_true (!(!z1))).elim (fun hb5 => ?_) (fun hb5 => ?_)
  · skip
    have h := bt hb5 h
    refine WR.sat (c0 := true) (g := (!z1)) rfl rfl rfl hb5 ?_
    obtain ⟨z6, hz7, h⟩ := bnd h
    refine e_call (is := []) rfl rfl (call_run Tryz.call14 rfl rfl (args2 (gu hb5 rfl) (gu hb5 rfl))) rfl (fun w hp => t_firthref11_Recs hall hallc hpath hpathc hp hz7) ?_
    rintro Γ8 U10 v11 hl9 ⟨A12, c13, row14, rfl, rfl, hr15, _⟩
    change WR _ _ _ (CC F Γ8 [row14]) _ _ (upd _ 11 (.slice A12 z6.length c13))
    refine WR.sat (c0 := true) (g := (!z1)) rfl rfl rfl hb5 ?_
    refine va rfl rfl rfl (q_len_slice rfl Tryz.underlying22 rfl) ?_
    refine WR.sat (c0 := true) (g := (!z1)) rfl rfl rfl hb5 ?_
    refine va rfl rfl rfl (q_eql rfl rfl rfl) ?_
    refine va rfl rfl rfl (q_pick_f (v := .bool (((z6.length : Nat) : Int) == 0)) rfl rfl (not_t hb5) (by kernel_rfl)) ?_
    refine WR.nil ?_
    change WC _ _ _ _ _ _
    refine WC.cif h (by kernel_rfl) (fun hb16 h => ?_) (fun hb16 h => ?_)
    · skip
      refine WC.rs ?_
      refine va rfl rfl rfl (q_assign (v := .int .u64 0) rfl (by kernel_rfl)) ?_
      refine WR.nil ?_
      change WC _ _ _ _ _ _
      refine WC.ret ?_
      intro w hw
      obtain rfl := Option.some.inj h
      subst hF
      exact ⟨by kernel_rfl, hw.fr⟩
    · skip
      refine WC.skip ?_
      change WC _ _ _ _ _ _
      refine WC.rs ?_
      refine va rfl rfl rfl (q_move (v := .slice Aall all.length call) rfl (by kernel_rfl)) ?_
      refine va rfl rfl rfl (q_move (v := .slice Apath path.length cpath) rfl (by kernel_rfl)) ?_
      obtain ⟨z17, hz18, h⟩ := bnd h
      refine e_call (is := []) rfl rfl (call_run Tryz.call28 rfl rfl (by kernel_rfl)) rfl (fun w hp => t_firthref11_Text hH (hall.mono hl9) hallc (hpath.mono hl9) hpathc hp hz18) ?_
      rintro Γ19 U21 v22 hl20 ⟨A23, c24, row25, rfl, rfl, hr26, _⟩
      change WR _ _ _ (CC F Γ19 [row25, row14]) _ _ (upd _ 17 (.slice A23 z17.length c24))
      obtain ⟨z27, hz28, h⟩ := bnd h
      refine vc rfl rfl rfl (q_call (call_run Tryz.call27 rfl rfl (by kernel_rfl)) (fun w hw => t_firthref01_Hash (Γ := Gh.all w) (hr26.sl hw.sat.le_all (hw.ra 0 rfl)) hr26.capz (Sat.all w) hz28)) ?_
      refine va rfl rfl rfl (q_assign (v := .int .u64 z27) rfl (by kernel_rfl)) ?_
      refine WR.nil ?_
      change WC _ _ _ _ _ _
      refine WC.ret ?_
      intro w hw
      obtain rfl := Option.some.inj h
      subst hF
      exact ⟨by kernel_rfl, hw.fr⟩
  · skip
    have h := bf hb5 h
    refine WR.unsat (c0 := true) (g := (!z1)) rfl rfl rfl hb5 rfl ?_
    refine WR.unsat (c0 := true) (g := (!z1)) rfl rfl rfl hb5 rfl ?_
    refine WR.unsat (c0 := true) (g := (!z1)) rfl rfl rfl hb5 rfl ?_
    refine va rfl rfl rfl (q_pick_t (v := .bool true) rfl rfl (not_f hb5) (by kernel_rfl)) ?_
    refine WR.nil ?_
    change WC _ _ _ _ _ _
    refine WC.ctk (b := true) (by kernel_rfl) rfl ?_
    refine WC.rs ?_
    refine va rfl rfl rfl (q_assign (v := .int .u64 0) rfl (by kernel_rfl)) ?_
    refine WR.nil ?_
    change WC _ _ _ _ _ _
    refine WC.ret ?_
    intro w hw
    obtain rfl := Option.some.inj h
    subst hF
    exact ⟨by kernel_rfl, hw.fr⟩
theorem t_firthref11_Hash_n (n : Nat) : C_firthref11_Hash (m_firthref11_Hash_n n) := by
  induction n with
  | zero => intro Γ w0 Aall call all hall hallc Apath cpath path hpath hpathc hs r h; exact absurd h (by simp [m_firthref11_Hash_n])
  | succ n ih => intro Γ w0 Aall call all hall hallc Apath cpath path hpath hpathc hs r h; exact t_firthref11_Hash_o ih hall hallc hpath hpathc hs h

theorem t_firthref11_Hash {Γ : Gh} {w0 : World} {Aall : Option Addr} {call : Nat} {all : List Rec} (hall : Sl recT Γ Aall all) (hallc : all.length ≤ call) {Apath : Option Addr} {cpath : Nat} {path : List Int} (hpath : Sl intT Γ Apath path) (hpathc : path.length ≤ cpath) (hs : Sat Γ w0) {r : Int} (h : m_firthref11_Hash all path = some r) : Calls Tryz.prog 8 #[.slice Aall all.length call, .slice Apath path.length cpath] w0 (fun e w' => e = .returned (.int .u64 r) ∧ Fr no w0 w') := by
  exact t_firthref11_Hash_n 3 hall hallc hpath hpathc hs h

abbrev r_firthref11_Kids (r : List Int) (U : List Rowb) (Γ : Gh) (v : Value) : Prop := ∃ (A0 : Option Addr), ∃ (c0 : Nat), ∃ (row0 : Rowb), v = .slice A0 r.length c0 ∧ U = [row0] ∧ Own u64T Γ 28 row0 A0 c0 r ∧ True
set_option maxRecDepth 100000 in
set_option maxHeartbeats 400000 in
theorem t_firthref11_Kids {Γ : Gh} {w0 : World} {Aall : Option Addr} {call : Nat} {all : List Rec} (hall : Sl recT Γ Aall all) (hallc : all.length ≤ call) {Apath : Option Addr} {cpath : Nat} {path : List Int} (hpath : Sl intT Γ Apath path) (hpathc : path.length ≤ cpath) (hp : Pre [] Γ w0) {r : List Int} (h : m_firthref11_Kids all path = some r) : Calls Tryz.prog 11 #[.slice Aall all.length call, .slice Apath path.length cpath] w0 (Outc Γ [] w0 (r_firthref11_Kids r)) := by
  refine calls_of (N := 29) (rs := [4]) (args := [.slice Aall all.length call, .slice Apath path.length cpath]) Tryz.func11 rfl Tryz.ntmps11 Tryz.results11 rfl ?_
  obtain ⟨F, hF⟩ : ∃ F : Fm, F = ⟨ids [], w0, Γ⟩ := ⟨_, rfl⟩
  refine WC.here (C := CC F Γ []) ?_ (hF ▸ hp.start)
  refine WC.rs ?_
  refine va rfl rfl rfl (q_assign (v := .slice none 0 0) rfl (by kernel_rfl)) ?_
  refine WR.nil ?_
  change WC _ _ _ _ _ _
  refine WC.rs ?_
  refine va rfl rfl rfl (q_assign (v := .slice none 0 0) rfl (by kernel_rfl)) ?_
  refine WR.nil ?_
  change WC _ _ _ _ _ _
  refine WC.seq ?_
  refine WC.rs ?_
  refine va rfl rfl rfl (q_assign (v := .int .i64 0) rfl (by kernel_rfl)) ?_
  refine WR.nil ?_
  change WC _ _ _ _ _ _
  refine WC.block ?_
  refine WC.loopN h (fun (s : (List Int) × Int) σ w => match s with | (out_3, d_8) => ∃ (Γ1 : Gh), ∃ (A4 : Option Addr), ∃ (c5 : Nat), ∃ (row6 : Rowb), slots σ [(0, .slice Aall all.length call), (1, .slice Apath path.length cpath), (5, .slice A4 out_3.length c5), (6, .int .i64 d_8)] ∧ CC F Γ1 [row6] w ∧ Gh.le Γ Γ1 ∧ Own u64T Γ1 28 row6 A4 c5 out_3 ∧ I64 d_8 ∧ True) ?_ ?_
  · skip
    intro w hw
    have hw := hw.pad
    exact ⟨Γ, none, 0, [], (sl_ (by kernel_rfl)), hw, (Gh.refl _), (Own.nil u64T _ 28), (show I64 0 by decide), trivial⟩
  rintro f10 ⟨out_3, d_8⟩ σ w h ⟨Γ1, A4, c5, row6, hsl, hw, hl2, ho7, hr9, -⟩
  refine Wpt.slots hsl ?_
  refine WC.here (C := CC F Γ1 [row6]) ?_ hw
  clear hw hsl
  refine WC.seq ?_
  refine WC.rs ?_
  refine va rfl rfl rfl (q_move (v := .int .i64 d_8) rfl (by kernel_rfl)) ?_
  refine va rfl rfl rfl (q_lss rfl rfl rfl) ?_
  refine va rfl rfl rfl (q_move (v := .bool (decide (d_8 < 16))) rfl (by kernel_rfl)) ?_
  refine vg1 rfl rfl rfl rfl rfl (fun hg14 => QV.qo (q_move (v := .slice Apath path.length cpath) rfl (by kernel_rfl))) ?_
  obtain ⟨z16, hz17, h⟩ := bnd h
  refine vg1 rfl rfl rfl rfl rfl (fun hg15 => (q_call (call_run Tryz.call26 rfl rfl (args1 (gu hg15 rfl))) (fun w hw => t_firthref11_Path (Γ := Gh.all w) ((hpath.mono hl2).mono hw.sat.le_all) hpathc (Sat.all w) (gc_of hz17 hg15)))) ?_
  refine va rfl rfl rfl (q_pick rfl rfl (pk_and' (g := (decide (d_8 < 16))) (y := z16))) ?_
  refine va rfl rfl rfl (q_move (v := .bool ((decide (d_8 < 16)) && z16)) rfl (by kernel_rfl)) ?_
  refine vg1 rfl rfl rfl rfl rfl (fun hg18 => QV.qo (q_move (v := .slice Apath path.length cpath) rfl (by kernel_rfl))) ?_
  refine vg1 rfl rfl rfl rfl rfl (fun hg19 => QV.qo (q_len_slice rfl Tryz.underlying23 (gu hg19 rfl))) ?_
  refine vg1 rfl rfl rfl rfl rfl (fun hg20 => QV.qo (q_lss rfl (gu hg20 rfl) rfl)) ?_
  refine va rfl rfl rfl (q_pick rfl rfl (pk_and' (g := ((decide (d_8 < 16)) && z16)) (y := (decide (((path.length : Nat) : Int) < 2))))) ?_
  refine WR.nil ?_
  change WC _ _ _ _ _ _
  refine WC.cif h (by kernel_rfl) (fun hb21 h => ?_) (fun hb21 h => ?_)
  · skip
    refine WC.skip ?_
    change WC _ _ _ _ _ _
    refine WC.seq ?_
    refine WC.block ?_
    refine WC.region ?_
    refine va rfl rfl rfl (q_move (v := .slice A4 out_3.length c5) rfl (by kernel_rfl)) ?_
    refine va rfl rfl rfl (q_move (v := .slice Aall all.length call) rfl (by kernel_rfl)) ?_
    refine va rfl rfl rfl (q_move (v := .slice Apath path.length cpath) rfl (by kernel_rfl)) ?_
    refine va rfl rfl rfl (q_move (v := .int .i64 d_8) rfl (by kernel_rfl)) ?_
    obtain ⟨z22, hz23, h⟩ := bnd h
    refine e_call (is := []) rfl rfl (call_run Tryz.call30 rfl rfl (by kernel_rfl)) rfl (fun w hp => t_firthref11_longer (hpath.mono hl2) hpathc d_8 hr9 hp hz23) ?_
    rintro Γ24 U26 v27 hl25 ⟨A28, c29, row30, rfl, rfl, hr31, _⟩
    change WR _ _ _ (CC F Γ24 [row30, row6]) _ _ (upd _ 24 (.slice A28 z22.length c29))
    obtain ⟨z32, hz33, h⟩ := bnd h
    refine vc rfl rfl rfl (q_call (call_run Tryz.call8 rfl rfl (by kernel_rfl)) (fun w hw => t_firthref11_Hash (Γ := Gh.all w) ((hall.mono (hl2.trans hl25)).mono hw.sat.le_all) hallc (hr31.sl hw.sat.le_all (hw.ra 0 rfl)) hr31.capz (Sat.all w) hz33)) ?_
    refine e_buildSlice (cs := #[.int .u64 z32]) (e := 28) rfl rfl rfl rfl (fun w => by kernel_rfl) ?_
    intro g34
    obtain ⟨hk35, h⟩ := chk_some h
    obtain ⟨hk36, h⟩ := chk_some h
    refine e_append (T := u64T) (xs := out_3) (ys := [z32]) elem_32 (i := 2) rfl rfl rfl rfl rfl rfl rfl (ho7.mono hl25) (of_decide_eq_true hk36) (fun w hw => src_one (T := u64T) (y := z32) (i := 0) rfl (by exact ⟨rfl, (u64b_of hk35)⟩) hw) ?_
    intro row37 A38 c39 ho40
    refine va rfl rfl rfl (q_assign (v := .slice A38 (out_3 ++ [z32]).length c39) rfl (by kernel_rfl)) ?_
    refine WR.nil ?_
    change WC _ _ _ _ _ _
    refine WC.region ?_
    refine va rfl rfl rfl (q_move (v := .int .i64 d_8) rfl (by kernel_rfl)) ?_
    refine va rfl rfl rfl (q_add rfl rfl rfl) ?_
    refine va rfl rfl rfl (q_assign (v := .int .i64 (w64 (d_8 + 1))) rfl (by kernel_rfl)) ?_
    refine WR.nil ?_
    intro w hw
    exact ⟨((out_3 ++ [z32]), (w64 (d_8 + 1))), h, Γ24, A38, c39, row37, (sl_ (by kernel_rfl)), (hw.only (is := [2]) rfl), (hl2.trans hl25), ho40, (w64_r _), trivial⟩
  · skip
    refine WC.exit ?_
    change WC _ _ _ _ _ _
    refine WC.rs ?_
    refine va rfl rfl rfl (q_move (v := .slice A4 out_3.length c5) rfl (by kernel_rfl)) ?_
    refine va rfl rfl rfl (q_assign (v := .slice A4 out_3.length c5) rfl (by kernel_rfl)) ?_
    refine WR.nil ?_
    change WC _ _ _ _ _ _
    refine WC.ret ?_
    intro w hw
    obtain rfl := Option.some.inj h
    subst hF
    exact end_e (is := [0]) (by kernel_rfl) hw rfl ⟨A4, c5, row6, rfl, rfl, ho7, trivial⟩
set_option maxRecDepth 100000 in
set_option maxHeartbeats 400000 in
theorem t_firthref06_Hashes {Γ : Gh} {w0 : World} {Aa : Option Addr} {ca : Nat} {a : List Int} (ha : Sl u64T Γ Aa a) (hac : a.length ≤ ca) {Ab : Option Addr} {cb : Nat} {b : List Int} (hb : Sl u64T Γ Ab b) (hbc : b.length ≤ cb) (hs : Sat Γ w0) {r : Bool} (h : m_firthref06_Hashes a b = some r) : Calls Tryz.prog 9 #[.slice Aa a.length ca, .slice Ab b.length cb] w0 (fun e w' => e = .returned (.bool r) ∧ Fr no w0 w') := by
  refine calls_of (N := 26) (rs := [4]) (args := [.slice Aa a.length ca, .slice Ab b.length cb]) Tryz.func9 rfl Tryz.ntmps9 Tryz.results9 rfl ?_
  obtain ⟨F, hF⟩ : ∃ F : Fm, F = ⟨no, w0, Γ⟩ := ⟨_, rfl⟩
  refine WC.here (C := CC F Γ []) ?_ (hF ▸ Cur.start0 hs)
  refine WC.rs ?_
  refine va rfl rfl rfl (q_assign (v := .bool false) rfl (by kernel_rfl)) ?_
  refine WR.nil ?_
  change WC _ _ _ _ _ _
  refine WC.seq ?_
  refine WC.rs ?_
  refine va rfl rfl rfl (q_move (v := .slice Aa a.length ca) rfl (by kernel_rfl)) ?_
  refine va rfl rfl rfl (q_len_slice rfl Tryz.underlying32 rfl) ?_
  refine va rfl rfl rfl (q_move (v := .slice Ab b.length cb) rfl (by kernel_rfl)) ?_
  refine va rfl rfl rfl (q_len_slice rfl Tryz.underlying32 rfl) ?_
  refine va rfl rfl rfl (q_neq rfl rfl rfl) ?_
  refine WR.nil ?_
  change WC _ _ _ _ _ _
  refine WC.cif h (by kernel_rfl) (fun hb1 h => ?_) (fun hb1 h => ?_)
  · skip
    refine WC.rs ?_
    refine va rfl rfl rfl (q_assign (v := .bool false) rfl (by kernel_rfl)) ?_
    refine WR.nil ?_
    change WC _ _ _ _ _ _
    refine WC.ret ?_
    intro w hw
    obtain rfl := Option.some.inj h
    subst hF
    exact ⟨by kernel_rfl, hw.fr⟩
  · skip
    refine WC.skip ?_
    change WC _ _ _ _ _ _
    refine WC.seq ?_
    refine WC.rs ?_
    refine va rfl rfl rfl (q_assign (v := .int .i64 0) rfl (by kernel_rfl)) ?_
    refine WR.nil ?_
    change WC _ _ _ _ _ _
    refine WC.block ?_
    refine WC.forI h (fun (i3 : Nat) (s : Unit) σ w => match s with | () => slots σ [(0, .slice Aa a.length ca), (1, .slice Ab b.length cb), (5, .int .i64 ((i3 : Nat) : Int))] ∧ CC F Γ [] w ∧ True) ?_ ?_
    · skip
      intro w hw
      exact ⟨(sl_ (by kernel_rfl)), hw, trivial⟩
    rintro f2 i3 ⟨⟩ σ w hi4 hlt5 hge6 ⟨hsl, hw, -⟩
    refine Wpt.slots hsl ?_
    refine WC.here (C := CC F Γ []) ?_ hw
    clear hw hsl
    refine WC.seq ?_
    refine WC.rs ?_
    refine va rfl rfl rfl (q_move (v := .int .i64 ((i3 : Nat) : Int)) rfl (by kernel_rfl)) ?_
    refine va rfl rfl rfl (q_move (v := .slice Aa a.length ca) rfl (by kernel_rfl)) ?_
    refine va rfl rfl rfl (q_len_slice rfl Tryz.underlying32 rfl) ?_
    refine va rfl rfl rfl (q_lss rfl rfl rfl) ?_
    refine WR.nil ?_
    change WC _ _ _ _ _ _
    refine WC.cond (b := (decide (((i3 : Nat) : Int) < ((a.length : Nat) : Int)))) (by kernel_rfl) (fun hb7 => ?_) (fun hb7 => ?_)
    · skip
      have hl8 := ilt hb7
      have h := hlt5 hl8
      refine WC.skip ?_
      change WC _ _ _ _ _ _
      refine WC.seq ?_
      refine WC.block ?_
      refine WC.seq ?_
      refine WC.dr (by kernel_rfl) (by kernel_rfl) (fun w hw => hw.drawn _) ?_
      refine wa rfl rfl rfl (q_move (v := .slice Aa a.length ca) rfl (by kernel_rfl)) ?_
      refine wa rfl rfl rfl (q_move (v := .int .i64 ((i3 : Nat) : Int)) rfl (by kernel_rfl)) ?_
      refine wa rfl rfl rfl (q_ixn (i := i3) Tryz.underlying32 Tryz.sizeOf28 rfl rfl rfl hl8 (ha.some_ hl8)) ?_
      refine wa rfl rfl rfl (q_ld (c := 0) (v := .int .u64 (gt a i3)) (ha.u64T_at hl8).2 rfl Tryz.isAgg28 rfl rfl) ?_
      refine wa rfl rfl rfl (q_move (v := .slice Ab b.length cb) rfl (by kernel_rfl)) ?_
      refine wa rfl rfl rfl (q_move (v := .int .i64 ((i3 : Nat) : Int)) rfl (by kernel_rfl)) ?_
      obtain ⟨hk9, h⟩ := chk_some h
      refine wa rfl rfl rfl (q_ixn (i := i3) Tryz.underlying32 Tryz.sizeOf28 rfl rfl rfl (of_decide_eq_true hk9) (hb.some_ (of_decide_eq_true hk9))) ?_
      refine wa rfl rfl rfl (q_ld (c := 0) (v := .int .u64 (gt b i3)) (hb.u64T_at (of_decide_eq_true hk9)).2 rfl Tryz.isAgg28 rfl rfl) ?_
      refine wa rfl rfl rfl (q_neq rfl rfl rfl) ?_
      refine WQ.nil ?_
      change WC _ _ _ _ _ _
      refine WC.cif h (by kernel_rfl) (fun hb10 h => ?_) (fun hb10 h => ?_)
      · skip
        refine WC.rs ?_
        refine va rfl rfl rfl (q_assign (v := .bool false) rfl (by kernel_rfl)) ?_
        refine WR.nil ?_
        change WC _ _ _ _ _ _
        refine WC.ret ?_
        intro w hw
        obtain rfl := Option.some.inj h
        subst hF
        exact ⟨by kernel_rfl, hw.fr⟩
      · skip
        refine WC.skip ?_
        change WC _ _ _ _ _ _
        refine WC.region ?_
        refine va rfl rfl rfl (q_move (v := .int .i64 ((i3 : Nat) : Int)) rfl (by kernel_rfl)) ?_
        refine va rfl rfl rfl (q_add_r (r := ((i3 + 1 : Nat) : Int)) rfl rfl rfl (ctr_len hl8 ha.le)) ?_
        refine va rfl rfl rfl (q_assign (v := .int .i64 ((i3 + 1 : Nat) : Int)) rfl (by kernel_rfl)) ?_
        refine WR.nil ?_
        intro w hw
        exact ⟨hl8, (), h, (sl_ (by kernel_rfl)), hw, trivial⟩
    · skip
      have h := hge6 (ige hb7)
      refine WC.exit ?_
      change WC _ _ _ _ _ _
      refine WC.rs ?_
      refine va rfl rfl rfl (q_assign (v := .bool true) rfl (by kernel_rfl)) ?_
      refine WR.nil ?_
      change WC _ _ _ _ _ _
      refine WC.ret ?_
      intro w hw
      obtain rfl := Option.some.inj h
      subst hF
      exact ⟨by kernel_rfl, hw.fr⟩
set_option maxRecDepth 100000 in
set_option maxHeartbeats 400000 in
theorem t_firthref03_Same {Γ : Gh} {w0 : World} {Aa : Option Addr} {ca : Nat} {a : List Span} (ha : Sl spanT Γ Aa a) (hac : a.length ≤ ca) {Ab : Option Addr} {cb : Nat} {b : List Span} (hb : Sl spanT Γ Ab b) (hbc : b.length ≤ cb) (hs : Sat Γ w0) {r : Bool} (h : m_firthref03_Same a b = some r) : Calls Tryz.prog 64 #[.slice Aa a.length ca, .slice Ab b.length cb] w0 (fun e w' => e = .returned (.bool r) ∧ Fr no w0 w') := by
  refine calls_of (N := 26) (rs := [4]) (args := [.slice Aa a.length ca, .slice Ab b.length cb]) Tryz.func64 rfl Tryz.ntmps64 Tryz.results64 rfl ?_
  obtain ⟨F, hF⟩ : ∃ F : Fm, F = ⟨no, w0, Γ⟩ := ⟨_, rfl⟩
  refine WC.here (C := CC F Γ []) ?_ (hF ▸ Cur.start0 hs)
  refine WC.rs ?_
  refine va rfl rfl rfl (q_assign (v := .bool false) rfl (by kernel_rfl)) ?_
  refine WR.nil ?_
  change WC _ _ _ _ _ _
  refine WC.seq ?_
  refine WC.rs ?_
  refine va rfl rfl rfl (q_move (v := .slice Aa a.length ca) rfl (by kernel_rfl)) ?_
  refine va rfl rfl rfl (q_len_slice rfl Tryz.underlying49 rfl) ?_
  refine va rfl rfl rfl (q_move (v := .slice Ab b.length cb) rfl (by kernel_rfl)) ?_
  refine va rfl rfl rfl (q_len_slice rfl Tryz.underlying49 rfl) ?_
  refine va rfl rfl rfl (q_neq rfl rfl rfl) ?_
  refine WR.nil ?_
  change WC _ _ _ _ _ _
  refine WC.cif h (by kernel_rfl) (fun hb1 h => ?_) (fun hb1 h => ?_)
  · skip
    refine WC.rs ?_
    refine va rfl rfl rfl (q_assign (v := .bool false) rfl (by kernel_rfl)) ?_
    refine WR.nil ?_
    change WC _ _ _ _ _ _
    refine WC.ret ?_
    intro w hw
    obtain rfl := Option.some.inj h
    subst hF
    exact ⟨by kernel_rfl, hw.fr⟩
  · skip
    refine WC.skip ?_
    change WC _ _ _ _ _ _
    refine WC.seq ?_
    refine WC.rs ?_
    refine va rfl rfl rfl (q_assign (v := .int .i64 0) rfl (by kernel_rfl)) ?_
    refine WR.nil ?_
    change WC _ _ _ _ _ _
    refine WC.block ?_
    refine WC.forI h (fun (i3 : Nat) (s : Unit) σ w => match s with | () => slots σ [(0, .slice Aa a.length ca), (1, .slice Ab b.length cb), (5, .int .i64 ((i3 : Nat) : Int))] ∧ CC F Γ [] w ∧ True) ?_ ?_
    · skip
      intro w hw
      exact ⟨(sl_ (by kernel_rfl)), hw, trivial⟩
    rintro f2 i3 ⟨⟩ σ w hi4 hlt5 hge6 ⟨hsl, hw, -⟩
    refine Wpt.slots hsl ?_
    refine WC.here (C := CC F Γ []) ?_ hw
    clear hw hsl
    refine WC.seq ?_
    refine WC.rs ?_
    refine va rfl rfl rfl (q_move (v := .int .i64 ((i3 : Nat) : Int)) rfl (by kernel_rfl)) ?_
    refine va rfl rfl rfl (q_move (v := .slice Aa a.length ca) rfl (by kernel_rfl)) ?_
    refine va rfl rfl rfl (q_len_slice rfl Tryz.underlying49 rfl) ?_
    refine va rfl rfl rfl (q_lss rfl rfl rfl) ?_
    refine WR.nil ?_
    change WC _ _ _ _ _ _
    refine WC.cond (b := (decide (((i3 : Nat) : Int) < ((a.length : Nat) : Int)))) (by kernel_rfl) (fun hb7 => ?_) (fun hb7 => ?_)
    · skip
      have hl8 := ilt hb7
      have h := hlt5 hl8
      refine WC.skip ?_
      change WC _ _ _ _ _ _
      refine WC.seq ?_
      refine WC.block ?_
      refine WC.seq ?_
      refine WC.dr (by kernel_rfl) (by kernel_rfl) (fun w hw => hw.drawn _) ?_
      refine wa rfl rfl rfl (q_move (v := .slice Aa a.length ca) rfl (by kernel_rfl)) ?_
      refine wa rfl rfl rfl (q_move (v := .int .i64 ((i3 : Nat) : Int)) rfl (by kernel_rfl)) ?_
      refine wa rfl rfl rfl (q_ixn (i := i3) Tryz.underlying49 Tryz.sizeOf53 rfl rfl rfl hl8 (ha.some_ hl8)) ?_
      refine wa rfl rfl rfl (q_lda (c := 0) (vs := [.int .i64 (gt a i3).s, .int .i64 (gt a i3).f, .int .i64 (gt a i3).t]) (ha.spanT_at hl8).2 rfl Tryz.isAgg53 Tryz.sizeOf53 rfl rfl rfl) ?_
      refine wa rfl rfl rfl (q_move (v := .slice Ab b.length cb) rfl (by kernel_rfl)) ?_
      refine wa rfl rfl rfl (q_move (v := .int .i64 ((i3 : Nat) : Int)) rfl (by kernel_rfl)) ?_
      obtain ⟨hk9, h⟩ := chk_some h
      refine wa rfl rfl rfl (q_ixn (i := i3) Tryz.underlying49 Tryz.sizeOf53 rfl rfl rfl (of_decide_eq_true hk9) (hb.some_ (of_decide_eq_true hk9))) ?_
      refine wa rfl rfl rfl (q_lda (c := 0) (vs := [.int .i64 (gt b i3).s, .int .i64 (gt b i3).f, .int .i64 (gt b i3).t]) (hb.spanT_at (of_decide_eq_true hk9)).2 rfl Tryz.isAgg53 Tryz.sizeOf53 rfl rfl rfl) ?_
      refine wa rfl rfl rfl (q_neq_Span (a := (gt a i3)) (b := (gt b i3)) rfl rfl rfl) ?_
      refine WQ.nil ?_
      change WC _ _ _ _ _ _
      refine WC.cif h (by kernel_rfl) (fun hb10 h => ?_) (fun hb10 h => ?_)
      · skip
        refine WC.rs ?_
        refine va rfl rfl rfl (q_assign (v := .bool false) rfl (by kernel_rfl)) ?_
        refine WR.nil ?_
        change WC _ _ _ _ _ _
        refine WC.ret ?_
        intro w hw
        obtain rfl := Option.some.inj h
        subst hF
        exact ⟨by kernel_rfl, hw.fr⟩
      · skip
        refine WC.skip ?_
        change WC _ _ _ _ _ _
        refine WC.region ?_
        refine va rfl rfl rfl (q_move (v := .int .i64 ((i3 : Nat) : Int)) rfl (by kernel_rfl)) ?_
        refine va rfl rfl rfl (q_add_r (r := ((i3 + 1 : Nat) : Int)) rfl rfl rfl (ctr_len hl8 ha.le)) ?_
        refine va rfl rfl rfl (q_assign (v := .int .i64 ((i3 + 1 : Nat) : Int)) rfl (by kernel_rfl)) ?_
        refine WR.nil ?_
        intro w hw
        exact ⟨hl8, (), h, (sl_ (by kernel_rfl)), hw, trivial⟩
    · skip
      have h := hge6 (ige hb7)
      refine WC.exit ?_
      change WC _ _ _ _ _ _
      refine WC.rs ?_
      refine va rfl rfl rfl (q_assign (v := .bool true) rfl (by kernel_rfl)) ?_
      refine WR.nil ?_
      change WC _ _ _ _ _ _
      refine WC.ret ?_
      intro w hw
      obtain rfl := Option.some.inj h
      subst hF
      exact ⟨by kernel_rfl, hw.fr⟩
set_option maxRecDepth 100000 in
set_option maxHeartbeats 400000 in
theorem t_firthref05_SameOne {Γ : Gh} {w0 : World} {Aa2 : Option Addr} {ca2 : Nat} (a : Ver) (ha : Ver.fits Γ Aa2 ca2 a) {Ab2 : Option Addr} {cb2 : Nat} (b : Ver) (hb : Ver.fits Γ Ab2 cb2 b) (hs : Sat Γ w0) {r : Bool} (h : m_firthref05_SameOne a b = some r) : Calls Tryz.prog 46 #[.agg #[.int .i64 a.dot.s, .int .i64 a.dot.n, .slice Aa2 a.past.length ca2, .bool a.gone, .string a.val], .agg #[.int .i64 b.dot.s, .int .i64 b.dot.n, .slice Ab2 b.past.length cb2, .bool b.gone, .string b.val]] w0 (fun e w' => e = .returned (.bool r) ∧ Fr no w0 w') := by
  refine calls_of (N := 31) (rs := [4]) (args := [.agg #[.int .i64 a.dot.s, .int .i64 a.dot.n, .slice Aa2 a.past.length ca2, .bool a.gone, .string a.val], .agg #[.int .i64 b.dot.s, .int .i64 b.dot.n, .slice Ab2 b.past.length cb2, .bool b.gone, .string b.val]]) Tryz.func46 rfl Tryz.ntmps46 Tryz.results46 rfl ?_
  obtain ⟨F, hF⟩ : ∃ F : Fm, F = ⟨no, w0, Γ⟩ := ⟨_, rfl⟩
  refine WC.here (C := CC F Γ []) ?_ (hF ▸ Cur.start0 hs)
  refine WC.rs ?_
  refine e_box (v := .agg #[.int .i64 a.dot.s, .int .i64 a.dot.n, .slice Aa2 a.past.length ca2, .bool a.gone, .string a.val]) rfl rfl rfl rfl (by kernel_rfl) ?_
  intro g1
  refine e_box (v := .agg #[.int .i64 b.dot.s, .int .i64 b.dot.n, .slice Ab2 b.past.length cb2, .bool b.gone, .string b.val]) rfl rfl rfl rfl (by kernel_rfl) ?_
  intro g2
  refine va rfl rfl rfl (q_assign (v := .bool false) rfl (by kernel_rfl)) ?_
  refine WR.nil ?_
  change WC _ _ _ _ _ _
  refine WC.rs ?_
  refine va rfl rfl rfl (q_fl 0 fld_51_0 rfl rfl rfl) ?_
  refine va rfl rfl rfl (q_ldla (i := 1) (vs := [.int .i64 a.dot.s, .int .i64 a.dot.n]) rfl rfl Tryz.isAgg48 Tryz.sizeOf48 rfl rfl) ?_
  refine va rfl rfl rfl (q_fl 0 fld_51_0 rfl rfl rfl) ?_
  refine va rfl rfl rfl (q_ldla (i := 0) (vs := [.int .i64 b.dot.s, .int .i64 b.dot.n]) rfl rfl Tryz.isAgg48 Tryz.sizeOf48 rfl rfl) ?_
  refine va rfl rfl rfl (q_eql_Dot (a := a.dot) (b := b.dot) rfl rfl rfl) ?_
  refine va rfl rfl rfl (q_move (v := .bool (a.dot == b.dot)) rfl (by kernel_rfl)) ?_
  refine vg1 rfl rfl rfl rfl rfl (fun hg3 => QV.qo (q_fl 3 fld_51_2 rfl rfl rfl)) ?_
  refine vg1 rfl rfl rfl rfl rfl (fun hg4 => QV.qo (q_ldl (i := 1) (v := .bool a.gone) rfl rfl Tryz.isAgg4 (gu hg4 rfl) rfl)) ?_
  refine vg1 rfl rfl rfl rfl rfl (fun hg5 => QV.qo (q_fl 3 fld_51_2 rfl rfl rfl)) ?_
  refine vg1 rfl rfl rfl rfl rfl (fun hg6 => QV.qo (q_ldl (i := 0) (v := .bool b.gone) rfl rfl Tryz.isAgg4 (gu hg6 rfl) rfl)) ?_
  refine vg1 rfl rfl rfl rfl rfl (fun hg7 => QV.qo (q_beql Tryz.underlying4 rfl (gu hg7 rfl) (gu hg7 rfl))) ?_
  refine va rfl rfl rfl (q_pick rfl rfl (pk_and' (g := (a.dot == b.dot)) (y := (a.gone == b.gone)))) ?_
  refine va rfl rfl rfl (q_move (v := .bool ((a.dot == b.dot) && (a.gone == b.gone))) rfl (by kernel_rfl)) ?_
  refine vg1 rfl rfl rfl rfl rfl (fun hg8 => QV.qo (q_fl 4 fld_51_3 rfl rfl rfl)) ?_
  refine vg1 rfl rfl rfl rfl rfl (fun hg9 => QV.qo (q_ldl (i := 1) (v := .string a.val) rfl rfl Tryz.isAgg9 (gu hg9 rfl) rfl)) ?_
  refine vg1 rfl rfl rfl rfl rfl (fun hg10 => QV.qo (q_fl 4 fld_51_3 rfl rfl rfl)) ?_
  refine vg1 rfl rfl rfl rfl rfl (fun hg11 => QV.qo (q_ldl (i := 0) (v := .string b.val) rfl rfl Tryz.isAgg9 (gu hg11 rfl) rfl)) ?_
  refine vg1 rfl rfl rfl rfl rfl (fun hg12 => QV.qo (q_seql rfl (gu hg12 rfl) (gu hg12 rfl))) ?_
  refine va rfl rfl rfl (q_pick rfl rfl (pk_and' (g := ((a.dot == b.dot) && (a.gone == b.gone))) (y := (a.val == b.val)))) ?_
  refine va rfl rfl rfl (q_move (v := .bool (((a.dot == b.dot) && (a.gone == b.gone)) && (a.val == b.val))) rfl (by kernel_rfl)) ?_
  refine vg1 rfl rfl rfl rfl rfl (fun hg13 => QV.qo (q_fl 2 fld_51_1 rfl rfl rfl)) ?_
  refine vg1 rfl rfl rfl rfl rfl (fun hg14 => QV.qo (q_ldl (i := 1) (v := .slice Aa2 a.past.length ca2) rfl rfl Tryz.isAgg49 (gu hg14 rfl) rfl)) ?_
  refine vg1 rfl rfl rfl rfl rfl (fun hg15 => QV.qo (q_fl 2 fld_51_1 rfl rfl rfl)) ?_
  refine vg1 rfl rfl rfl rfl rfl (fun hg16 => QV.qo (q_ldl (i := 0) (v := .slice Ab2 b.past.length cb2) rfl rfl Tryz.isAgg49 (gu hg16 rfl) rfl)) ?_
  obtain ⟨z18, hz19, h⟩ := bnd h
  refine vg1 rfl rfl rfl rfl rfl (fun hg17 => (q_call (call_run Tryz.call64 rfl rfl (args2 (gu hg17 rfl) (gu hg17 rfl))) (fun w hw => t_firthref03_Same (Γ := Gh.all w) (ha.2.2.1.2.mono hw.sat.le_all) ha.2.2.1.1 (hb.2.2.1.2.mono hw.sat.le_all) hb.2.2.1.1 (Sat.all w) (gc_of hz19 hg17)))) ?_
  refine va rfl rfl rfl (q_pick rfl rfl (pk_and' (g := (((a.dot == b.dot) && (a.gone == b.gone)) && (a.val == b.val))) (y := z18))) ?_
  refine va rfl rfl rfl (q_assign (v := .bool ((((a.dot == b.dot) && (a.gone == b.gone)) && (a.val == b.val)) && z18)) rfl (by kernel_rfl)) ?_
  refine WR.nil ?_
  change WC _ _ _ _ _ _
  refine WC.ret ?_
  intro w hw
  obtain rfl := Option.some.inj h
  subst hF
  exact ⟨by kernel_rfl, hw.fr⟩
set_option maxRecDepth 100000 in
set_option maxHeartbeats 400000 in
theorem t_firthref05_Same {Γ : Gh} {w0 : World} {Aa : Option Addr} {ca : Nat} {a : List Ver} (ha : Sl verT Γ Aa a) (hac : a.length ≤ ca) {Ab : Option Addr} {cb : Nat} {b : List Ver} (hb : Sl verT Γ Ab b) (hbc : b.length ≤ cb) (hs : Sat Γ w0) {r : Bool} (h : m_firthref05_Same a b = some r) : Calls Tryz.prog 31 #[.slice Aa a.length ca, .slice Ab b.length cb] w0 (fun e w' => e = .returned (.bool r) ∧ Fr no w0 w') := by
  refine calls_of (N := 27) (rs := [4]) (args := [.slice Aa a.length ca, .slice Ab b.length cb]) Tryz.func31 rfl Tryz.ntmps31 Tryz.results31 rfl ?_
  obtain ⟨F, hF⟩ : ∃ F : Fm, F = ⟨no, w0, Γ⟩ := ⟨_, rfl⟩
  refine WC.here (C := CC F Γ []) ?_ (hF ▸ Cur.start0 hs)
  refine WC.rs ?_
  refine va rfl rfl rfl (q_assign (v := .bool false) rfl (by kernel_rfl)) ?_
  refine WR.nil ?_
  change WC _ _ _ _ _ _
  refine WC.seq ?_
  refine WC.rs ?_
  refine va rfl rfl rfl (q_move (v := .slice Aa a.length ca) rfl (by kernel_rfl)) ?_
  refine va rfl rfl rfl (q_len_slice rfl Tryz.underlying39 rfl) ?_
  refine va rfl rfl rfl (q_move (v := .slice Ab b.length cb) rfl (by kernel_rfl)) ?_
  refine va rfl rfl rfl (q_len_slice rfl Tryz.underlying39 rfl) ?_
  refine va rfl rfl rfl (q_neq rfl rfl rfl) ?_
  refine WR.nil ?_
  change WC _ _ _ _ _ _
  refine WC.cif h (by kernel_rfl) (fun hb1 h => ?_) (fun hb1 h => ?_)
  · skip
    refine WC.rs ?_
    refine va rfl rfl rfl (q_assign (v := .bool false) rfl (by kernel_rfl)) ?_
    refine WR.nil ?_
    change WC _ _ _ _ _ _
    refine WC.ret ?_
    intro w hw
    obtain rfl := Option.some.inj h
    subst hF
    exact ⟨by kernel_rfl, hw.fr⟩
  · skip
    refine WC.skip ?_
    change WC _ _ _ _ _ _
    refine WC.seq ?_
    refine WC.rs ?_
    refine va rfl rfl rfl (q_assign (v := .int .i64 0) rfl (by kernel_rfl)) ?_
    refine WR.nil ?_
    change WC _ _ _ _ _ _
    refine WC.block ?_
    refine WC.forI h (fun (i3 : Nat) (s : Unit) σ w => match s with | () => slots σ [(0, .slice Aa a.length ca), (1, .slice Ab b.length cb), (5, .int .i64 ((i3 : Nat) : Int))] ∧ CC F Γ [] w ∧ True) ?_ ?_
    · skip
      intro w hw
      exact ⟨(sl_ (by kernel_rfl)), hw, trivial⟩
    rintro f2 i3 ⟨⟩ σ w hi4 hlt5 hge6 ⟨hsl, hw, -⟩
    refine Wpt.slots hsl ?_
    refine WC.here (C := CC F Γ []) ?_ hw
    clear hw hsl
    refine WC.seq ?_
    refine WC.rs ?_
    refine va rfl rfl rfl (q_move (v := .int .i64 ((i3 : Nat) : Int)) rfl (by kernel_rfl)) ?_
    refine va rfl rfl rfl (q_move (v := .slice Aa a.length ca) rfl (by kernel_rfl)) ?_
    refine va rfl rfl rfl (q_len_slice rfl Tryz.underlying39 rfl) ?_
    refine va rfl rfl rfl (q_lss rfl rfl rfl) ?_
    refine WR.nil ?_
    change WC _ _ _ _ _ _
    refine WC.cond (b := (decide (((i3 : Nat) : Int) < ((a.length : Nat) : Int)))) (by kernel_rfl) (fun hb7 => ?_) (fun hb7 => ?_)
    · skip
      have hl8 := ilt hb7
      have h := hlt5 hl8
      refine WC.skip ?_
      change WC _ _ _ _ _ _
      refine WC.seq ?_
      refine WC.block ?_
      refine WC.seq ?_
      refine WC.dr (by kernel_rfl) (by kernel_rfl) (fun w hw => hw.drawn _) ?_
      refine wa rfl rfl rfl (q_move (v := .slice Aa a.length ca) rfl (by kernel_rfl)) ?_
      refine wa rfl rfl rfl (q_move (v := .int .i64 ((i3 : Nat) : Int)) rfl (by kernel_rfl)) ?_
      refine wa rfl rfl rfl (q_ixn (i := i3) Tryz.underlying39 Tryz.sizeOf51 rfl rfl rfl hl8 (ha.some_ hl8)) ?_
      obtain ⟨A9, c10, hx11⟩ := ha.verT_at i3
      refine wa rfl rfl rfl (q_lda (c := 0) (vs := [.int .i64 (gt a i3).dot.s, .int .i64 (gt a i3).dot.n, .slice A9 ((gt a i3).past).length c10, .bool (gt a i3).gone, .string (gt a i3).val]) (hx11 hl8).2 rfl Tryz.isAgg51 Tryz.sizeOf51 rfl rfl rfl) ?_
      refine wa rfl rfl rfl (q_move (v := .slice Ab b.length cb) rfl (by kernel_rfl)) ?_
      refine wa rfl rfl rfl (q_move (v := .int .i64 ((i3 : Nat) : Int)) rfl (by kernel_rfl)) ?_
      obtain ⟨hk12, h⟩ := chk_some h
      refine wa rfl rfl rfl (q_ixn (i := i3) Tryz.underlying39 Tryz.sizeOf51 rfl rfl rfl (of_decide_eq_true hk12) (hb.some_ (of_decide_eq_true hk12))) ?_
      obtain ⟨A13, c14, hx15⟩ := hb.verT_at i3
      refine wa rfl rfl rfl (q_lda (c := 0) (vs := [.int .i64 (gt b i3).dot.s, .int .i64 (gt b i3).dot.n, .slice A13 ((gt b i3).past).length c14, .bool (gt b i3).gone, .string (gt b i3).val]) (hx15 (of_decide_eq_true hk12)).2 rfl Tryz.isAgg51 Tryz.sizeOf51 rfl rfl rfl) ?_
      obtain ⟨z16, hz17, h⟩ := bnd h
      refine wc rfl rfl rfl (q_call (call_run Tryz.call46 rfl rfl (by kernel_rfl)) (fun w hw => t_firthref05_SameOne (Γ := Gh.all w) (gt a i3) (Ver.fits_mono (hx11 hl8).1 hw.sat.le_all) (gt b i3) (Ver.fits_mono (hx15 (of_decide_eq_true hk12)).1 hw.sat.le_all) (Sat.all w) hz17)) ?_
      refine wa rfl rfl rfl (q_not rfl rfl) ?_
      refine WQ.nil ?_
      change WC _ _ _ _ _ _
      refine WC.cif h (by kernel_rfl) (fun hb18 h => ?_) (fun hb18 h => ?_)
      · skip
        refine WC.rs ?_
        refine va rfl rfl rfl (q_assign (v := .bool false) rfl (by kernel_rfl)) ?_
        refine WR.nil ?_
        change WC _ _ _ _ _ _
        refine WC.ret ?_
        intro w hw
        obtain rfl := Option.some.inj h
        subst hF
        exact ⟨by kernel_rfl, hw.fr⟩
      · skip
        refine WC.skip ?_
        change WC _ _ _ _ _ _
        refine WC.region ?_
        refine va rfl rfl rfl (q_move (v := .int .i64 ((i3 : Nat) : Int)) rfl (by kernel_rfl)) ?_
        refine va rfl rfl rfl (q_add_r (r := ((i3 + 1 : Nat) : Int)) rfl rfl rfl (ctr_len hl8 ha.le)) ?_
        refine va rfl rfl rfl (q_assign (v := .int .i64 ((i3 + 1 : Nat) : Int)) rfl (by kernel_rfl)) ?_
        refine WR.nil ?_
        intro w hw
        exact ⟨hl8, (), h, (sl_ (by kernel_rfl)), hw, trivial⟩
    · skip
      have h := hge6 (ige hb7)
      refine WC.exit ?_
      change WC _ _ _ _ _ _
      refine WC.rs ?_
      refine va rfl rfl rfl (q_assign (v := .bool true) rfl (by kernel_rfl)) ?_
      refine WR.nil ?_
      change WC _ _ _ _ _ _
      refine WC.ret ?_
      intro w hw
      obtain rfl := Option.some.inj h
      subst hF
      exact ⟨by kernel_rfl, hw.fr⟩
set_option maxRecDepth 100000 in
set_option maxHeartbeats 400000 in
theorem t_firthref06_SameRecs {Γ : Gh} {w0 : World} {Aa : Option Addr} {ca : Nat} {a : List Rec} (ha : Sl recT Γ Aa a) (hac : a.length ≤ ca) {Ab : Option Addr} {cb : Nat} {b : List Rec} (hb : Sl recT Γ Ab b) (hbc : b.length ≤ cb) (hs : Sat Γ w0) {r : Bool} (h : m_firthref06_SameRecs a b = some r) : Calls Tryz.prog 12 #[.slice Aa a.length ca, .slice Ab b.length cb] w0 (fun e w' => e = .returned (.bool r) ∧ Fr no w0 w') := by
  refine calls_of (N := 42) (rs := [4]) (args := [.slice Aa a.length ca, .slice Ab b.length cb]) Tryz.func12 rfl Tryz.ntmps12 Tryz.results12 rfl ?_
  obtain ⟨F, hF⟩ : ∃ F : Fm, F = ⟨no, w0, Γ⟩ := ⟨_, rfl⟩
  refine WC.here (C := CC F Γ []) ?_ (hF ▸ Cur.start0 hs)
  refine WC.rs ?_
  refine va rfl rfl rfl (q_assign (v := .bool false) rfl (by kernel_rfl)) ?_
  refine WR.nil ?_
  change WC _ _ _ _ _ _
  refine WC.seq ?_
  refine WC.rs ?_
  refine va rfl rfl rfl (q_move (v := .slice Aa a.length ca) rfl (by kernel_rfl)) ?_
  refine va rfl rfl rfl (q_len_slice rfl Tryz.underlying22 rfl) ?_
  refine va rfl rfl rfl (q_move (v := .slice Ab b.length cb) rfl (by kernel_rfl)) ?_
  refine va rfl rfl rfl (q_len_slice rfl Tryz.underlying22 rfl) ?_
  refine va rfl rfl rfl (q_neq rfl rfl rfl) ?_
  refine WR.nil ?_
  change WC _ _ _ _ _ _
  refine WC.cif h (by kernel_rfl) (fun hb1 h => ?_) (fun hb1 h => ?_)
  · skip
    refine WC.rs ?_
    refine va rfl rfl rfl (q_assign (v := .bool false) rfl (by kernel_rfl)) ?_
    refine WR.nil ?_
    change WC _ _ _ _ _ _
    refine WC.ret ?_
    intro w hw
    obtain rfl := Option.some.inj h
    subst hF
    exact ⟨by kernel_rfl, hw.fr⟩
  · skip
    refine WC.skip ?_
    change WC _ _ _ _ _ _
    refine WC.seq ?_
    refine WC.rs ?_
    refine va rfl rfl rfl (q_assign (v := .int .i64 0) rfl (by kernel_rfl)) ?_
    refine WR.nil ?_
    change WC _ _ _ _ _ _
    refine WC.block ?_
    refine WC.forI h (fun (i3 : Nat) (s : Unit) σ w => match s with | () => slots σ [(0, .slice Aa a.length ca), (1, .slice Ab b.length cb), (5, .int .i64 ((i3 : Nat) : Int))] ∧ CC F Γ [] w ∧ True) ?_ ?_
    · skip
      intro w hw
      exact ⟨(sl_ (by kernel_rfl)), hw, trivial⟩
    rintro f2 i3 ⟨⟩ σ w hi4 hlt5 hge6 ⟨hsl, hw, -⟩
    refine Wpt.slots hsl ?_
    refine WC.here (C := CC F Γ []) ?_ hw
    clear hw hsl
    refine WC.seq ?_
    refine WC.rs ?_
    refine va rfl rfl rfl (q_move (v := .int .i64 ((i3 : Nat) : Int)) rfl (by kernel_rfl)) ?_
    refine va rfl rfl rfl (q_move (v := .slice Aa a.length ca) rfl (by kernel_rfl)) ?_
    refine va rfl rfl rfl (q_len_slice rfl Tryz.underlying22 rfl) ?_
    refine va rfl rfl rfl (q_lss rfl rfl rfl) ?_
    refine WR.nil ?_
    change WC _ _ _ _ _ _
    refine WC.cond (b := (decide (((i3 : Nat) : Int) < ((a.length : Nat) : Int)))) (by kernel_rfl) (fun hb7 => ?_) (fun hb7 => ?_)
    · skip
      have hl8 := ilt hb7
      have h := hlt5 hl8
      refine WC.skip ?_
      change WC _ _ _ _ _ _
      refine WC.seq ?_
      refine WC.block ?_
      refine WC.seq ?_
      refine WC.dr (by kernel_rfl) (by kernel_rfl) (fun w hw => hw.drawn _) ?_
      refine wa rfl rfl rfl (q_move (v := .slice Aa a.length ca) rfl (by kernel_rfl)) ?_
      refine wa rfl rfl rfl (q_move (v := .int .i64 ((i3 : Nat) : Int)) rfl (by kernel_rfl)) ?_
      refine wa rfl rfl rfl (q_ixn (i := i3) Tryz.underlying22 Tryz.sizeOf41 rfl rfl rfl hl8 (ha.some_ hl8)) ?_
      refine wa rfl rfl rfl (q_field_addr (i3 * 2) fld_41_0 rfl rfl (ha.some_ hl8) rfl) ?_
      obtain ⟨A9, c10, hx11⟩ := ha.recT_at i3
      refine wa rfl rfl rfl (q_ld (c := 0) (v := .string (gt a i3).key) (hx11 hl8).2 rfl Tryz.isAgg9 rfl rfl) ?_
      refine wa rfl rfl rfl (q_move (v := .slice Ab b.length cb) rfl (by kernel_rfl)) ?_
      refine wa rfl rfl rfl (q_move (v := .int .i64 ((i3 : Nat) : Int)) rfl (by kernel_rfl)) ?_
      obtain ⟨hk12, h⟩ := chk_some h
      refine wa rfl rfl rfl (q_ixn (i := i3) Tryz.underlying22 Tryz.sizeOf41 rfl rfl rfl (of_decide_eq_true hk12) (hb.some_ (of_decide_eq_true hk12))) ?_
      refine wa rfl rfl rfl (q_field_addr (i3 * 2) fld_41_0 rfl rfl (hb.some_ (of_decide_eq_true hk12)) rfl) ?_
      obtain ⟨A13, c14, hx15⟩ := hb.recT_at i3
      refine wa rfl rfl rfl (q_ld (c := 0) (v := .string (gt b i3).key) (hx15 (of_decide_eq_true hk12)).2 rfl Tryz.isAgg9 rfl rfl) ?_
      refine wa rfl rfl rfl (q_sneq rfl rfl rfl) ?_
      refine wa rfl rfl rfl (q_move (v := .bool ((gt a i3).key != (gt b i3).key)) rfl (by kernel_rfl)) ?_
      refine wg0 rfl rfl rfl rfl rfl (fun hg16 => QV.qo (q_move (v := .slice Aa a.length ca) rfl (by kernel_rfl))) ?_
      refine wg0 rfl rfl rfl rfl rfl (fun hg17 => QV.qo (q_move (v := .int .i64 ((i3 : Nat) : Int)) rfl (by kernel_rfl))) ?_
      refine wg0 rfl rfl rfl rfl rfl (fun hg18 => QV.qo (q_ixn (i := i3) Tryz.underlying22 Tryz.sizeOf41 rfl (gu hg18 rfl) (gu hg18 rfl) hl8 (ha.some_ hl8))) ?_
      refine wg0 rfl rfl rfl rfl rfl (fun hg19 => QV.qo (q_field_addr (i3 * 2 + 1) fld_41_1 rfl (gu hg19 rfl) (ha.some_ hl8) rfl)) ?_
      refine wg0 rfl rfl rfl rfl rfl (fun hg20 => QV.qo (q_ld (c := 1) (v := .slice A9 ((gt a i3).vers).length c10) (hx11 hl8).2 rfl Tryz.isAgg39 (gu hg20 rfl) rfl)) ?_
      refine wg0 rfl rfl rfl rfl rfl (fun hg21 => QV.qo (q_move (v := .slice Ab b.length cb) rfl (by kernel_rfl))) ?_
      refine wg0 rfl rfl rfl rfl rfl (fun hg22 => QV.qo (q_move (v := .int .i64 ((i3 : Nat) : Int)) rfl (by kernel_rfl))) ?_
      refine wg0 rfl rfl rfl rfl rfl (fun hg23 => QV.qo (q_ixn (i := i3) Tryz.underlying22 Tryz.sizeOf41 rfl (gu hg23 rfl) (gu hg23 rfl) (of_decide_eq_true hk12) (hb.some_ (of_decide_eq_true hk12)))) ?_
      refine wg0 rfl rfl rfl rfl rfl (fun hg24 => QV.qo (q_field_addr (i3 * 2 + 1) fld_41_1 rfl (gu hg24 rfl) (hb.some_ (of_decide_eq_true hk12)) rfl)) ?_
      refine wg0 rfl rfl rfl rfl rfl (fun hg25 => QV.qo (q_ld (c := 1) (v := .slice A13 ((gt b i3).vers).length c14) (hx15 (of_decide_eq_true hk12)).2 rfl Tryz.isAgg39 (gu hg25 rfl) rfl)) ?_
      obtain ⟨z27, hz28, h⟩ := bnd h
      refine wg0 rfl rfl rfl rfl rfl (fun hg26 => (q_call (call_run Tryz.call31 rfl rfl (args2 (gu hg26 rfl) (gu hg26 rfl))) (fun w hw => t_firthref05_Same (Γ := Gh.all w) ((hx11 hl8).1.2.2.mono hw.sat.le_all) (hx11 hl8).1.2.1 ((hx15 (of_decide_eq_true hk12)).1.2.2.mono hw.sat.le_all) (hx15 (of_decide_eq_true hk12)).1.2.1 (Sat.all w) (gc_of hz28 hg26)))) ?_
      refine wg0 rfl rfl rfl rfl rfl (fun hg29 => QV.qo (q_not rfl (gu hg29 rfl))) ?_
      refine wa rfl rfl rfl (q_pick rfl rfl (pk_or' (g := ((gt a i3).key != (gt b i3).key)) (y := (!z27)))) ?_
      refine WQ.nil ?_
      change WC _ _ _ _ _ _
      refine WC.cif h (by kernel_rfl) (fun hb30 h => ?_) (fun hb30 h => ?_)
      · skip
        refine WC.rs ?_
        refine va rfl rfl rfl (q_assign (v := .bool false) rfl (by kernel_rfl)) ?_
        refine WR.nil ?_
        change WC _ _ _ _ _ _
        refine WC.ret ?_
        intro w hw
        obtain rfl := Option.some.inj h
        subst hF
        exact ⟨by kernel_rfl, hw.fr⟩
      · skip
        refine WC.skip ?_
        change WC _ _ _ _ _ _
        refine WC.region ?_
        refine va rfl rfl rfl (q_move (v := .int .i64 ((i3 : Nat) : Int)) rfl (by kernel_rfl)) ?_
        refine va rfl rfl rfl (q_add_r (r := ((i3 + 1 : Nat) : Int)) rfl rfl rfl (ctr_len hl8 ha.le)) ?_
        refine va rfl rfl rfl (q_assign (v := .int .i64 ((i3 + 1 : Nat) : Int)) rfl (by kernel_rfl)) ?_
        refine WR.nil ?_
        intro w hw
        exact ⟨hl8, (), h, (sl_ (by kernel_rfl)), hw, trivial⟩
    · skip
      have h := hge6 (ige hb7)
      refine WC.exit ?_
      change WC _ _ _ _ _ _
      refine WC.rs ?_
      refine va rfl rfl rfl (q_assign (v := .bool true) rfl (by kernel_rfl)) ?_
      refine WR.nil ?_
      change WC _ _ _ _ _ _
      refine WC.ret ?_
      intro w hw
      obtain rfl := Option.some.inj h
      subst hF
      exact ⟨by kernel_rfl, hw.fr⟩
set_option maxRecDepth 100000 in
set_option maxHeartbeats 400000 in
theorem t_firthlaw11_TreePlays {Γ : Gh} {w0 : World} {Alist : Option Addr} {clist : Nat} {list : List Rec} (hlist : Sl recT Γ Alist list) (hlistc : list.length ≤ clist) {Apath : Option Addr} {cpath : Nat} {path : List Int} (hpath : Sl intT Γ Apath path) (hpathc : path.length ≤ cpath) (hs : Sat Γ w0) {r : Bool} (h : m_firthlaw11_TreePlays list path = some r) : Calls Tryz.prog 3 #[.slice Alist list.length clist, .slice Apath path.length cpath] w0 (fun e w' => e = .returned (.bool r) ∧ Fr no w0 w') := by
  refine calls_of (N := 50) (rs := [4]) (args := [.slice Alist list.length clist, .slice Apath path.length cpath]) Tryz.func3 rfl Tryz.ntmps3 Tryz.results3 rfl ?_
  obtain ⟨F, hF⟩ : ∃ F : Fm, F = ⟨no, w0, Γ⟩ := ⟨_, rfl⟩
  refine WC.here (C := CC F Γ []) ?_ (hF ▸ Cur.start0 hs)
  refine WC.rs ?_
  refine va rfl rfl rfl (q_assign (v := .bool false) rfl (by kernel_rfl)) ?_
  refine WR.nil ?_
  change WC _ _ _ _ _ _
  refine WC.seq ?_
  refine WC.rs ?_
  obtain ⟨z1, hz2, h⟩ := bnd h
  refine vc rfl rfl rfl (q_call (call_run Tryz.call5 rfl rfl (by kernel_rfl)) (fun w hw => t_firthlaw11_awake (Γ := Gh.all w)  (Sat.all w) hz2)) ?_
  refine va rfl rfl rfl (q_not rfl rfl) ?_
  refine WR.nil ?_
  change WC _ _ _ _ _ _
  refine WC.cif h (by kernel_rfl) (fun hb3 h => ?_) (fun hb3 h => ?_)
  · skip
    refine WC.rs ?_
    refine va rfl rfl rfl (q_assign (v := .bool false) rfl (by kernel_rfl)) ?_
    refine WR.nil ?_
    change WC _ _ _ _ _ _
    refine WC.ret ?_
    intro w hw
    obtain rfl := Option.some.inj h
    subst hF
    exact ⟨by kernel_rfl, hw.fr⟩
  · skip
    refine WC.skip ?_
    change WC _ _ _ _ _ _
    refine WC.rs ?_
    refine va rfl rfl rfl (q_move (v := .slice Alist list.length clist) rfl (by kernel_rfl)) ?_
    obtain ⟨z4, hz5, h⟩ := bnd h
    refine e_call (is := []) rfl rfl (call_run Tryz.call6 rfl rfl (by kernel_rfl)) rfl (fun w hp => t_firthlaw11_built hlist hlistc hp hz5) ?_
    rintro Γ6 U8 v9 hl7 ⟨g10, row11, A13, c14, row15, rfl, rfl, hr12, hr16, _⟩
    change WR _ _ _ (CC F Γ6 [row11, row15]) _ _ (upd _ 12 (.tuple #[optp z4.1 g10, .slice A13 z4.2.1.length c14, .bool z4.2.2]))
    refine va rfl rfl rfl (q_move (v := .tuple #[optp z4.1 g10, .slice A13 z4.2.1.length c14, .bool z4.2.2]) rfl (by kernel_rfl)) ?_
    refine va rfl rfl rfl (q_extract (v := optp z4.1 g10) rfl rfl rfl) ?_
    refine va rfl rfl rfl (q_extract (v := .slice A13 z4.2.1.length c14) rfl rfl rfl) ?_
    refine va rfl rfl rfl (q_extract (v := .bool z4.2.2) rfl rfl rfl) ?_
    refine va rfl rfl rfl (q_assign (v := optp z4.1 g10) rfl (by kernel_rfl)) ?_
    refine va rfl rfl rfl (q_assign (v := .slice A13 z4.2.1.length c14) rfl (by kernel_rfl)) ?_
    refine va rfl rfl rfl (q_assign (v := .bool z4.2.2) rfl (by kernel_rfl)) ?_
    refine WR.nil ?_
    change WC _ _ _ _ _ _
    refine WC.seq ?_
    refine WC.rs ?_
    refine va rfl rfl rfl (q_move (v := .bool z4.2.2) rfl (by kernel_rfl)) ?_
    refine va rfl rfl rfl (q_not rfl rfl) ?_
    refine WR.nil ?_
    change WC _ _ _ _ _ _
    refine WC.cif h (by kernel_rfl) (fun hb17 h => ?_) (fun hb17 h => ?_)
    · skip
      refine WC.rs ?_
      refine va rfl rfl rfl (q_assign (v := .bool false) rfl (by kernel_rfl)) ?_
      refine WR.nil ?_
      change WC _ _ _ _ _ _
      refine WC.ret ?_
      intro w hw
      obtain rfl := Option.some.inj h
      subst hF
      exact ⟨by kernel_rfl, hw.fr⟩
    · skip
      refine WC.skip ?_
      change WC _ _ _ _ _ _
      refine WC.rs ?_
      refine va rfl rfl rfl (q_move (v := optp z4.1 g10) rfl (by kernel_rfl)) ?_
      refine va rfl rfl rfl (q_move (v := .slice Apath path.length cpath) rfl (by kernel_rfl)) ?_
      obtain ⟨z18, hz19, h⟩ := bnd h
      have ho20 := optob_some hr12 hz19
      obtain ⟨z21, hz22, h⟩ := bnd h
      refine e_call (is := [0]) rfl rfl (call_run Tryz.call7 rfl rfl (args2 (optp_some rfl hz19) rfl)) rfl (fun w hp => t_HashC ho20 (hpath.mono hl7) hpathc (fun p hp => nomatch hp) hp hz22) ?_
      rintro Γ23 U25 v26 hl24 ⟨row27, rfl, rfl, hr28, hr29, _⟩
      change WR _ _ _ (CC F Γ23 [row27, row15]) _ _ (upd _ 20 (.int .u64 z21.2))
      refine va rfl rfl rfl (q_move (v := .slice A13 z4.2.1.length c14) rfl (by kernel_rfl)) ?_
      refine va rfl rfl rfl (q_move (v := .slice Apath path.length cpath) rfl (by kernel_rfl)) ?_
      obtain ⟨z30, hz31, h⟩ := bnd h
      refine vc rfl rfl rfl (q_call (call_run Tryz.call8 rfl rfl (by kernel_rfl)) (fun w hw => t_firthref11_Hash (Γ := Gh.all w) ((hr16.mono hl24).sl hw.sat.le_all (hw.ra 1 rfl)) (hr16.mono hl24).capz ((hpath.mono (hl7.trans hl24)).mono hw.sat.le_all) hpathc (Sat.all w) hz31)) ?_
      refine va rfl rfl rfl (q_eql rfl rfl rfl) ?_
      refine va rfl rfl rfl (q_move (v := .bool (z21.2 == z30)) rfl (by kernel_rfl)) ?_
      refine vg1 rfl rfl rfl rfl rfl (fun hg32 => QV.qo (q_move (v := .pointer (some ⟨g10, 0, none⟩)) rfl (optp_some rfl hz19))) ?_
      refine vg1 rfl rfl rfl rfl rfl (fun hg33 => QV.qo (q_move (v := .slice Apath path.length cpath) rfl (by kernel_rfl))) ?_
      refine (Bool.eq_false_or_eq_true (z21.2 == z30)).elim (fun hb34 => ?_) (fun hb34 => ?_)
      · skip
        have h := bt hb34 h
        refine WR.sat (c0 := true) (g := (z21.2 == z30)) rfl rfl rfl hb34 ?_
        obtain ⟨z35, hz36, h⟩ := bnd h
        refine e_call (is := [0]) rfl rfl (call_run Tryz.call10 rfl rfl (args2 (gu hb34 rfl) (gu hb34 rfl))) rfl (fun w hp => t_tree_Tree_Kids t_HashC hr28 (hpath.mono (hl7.trans hl24)) hpathc (fun p hp => nomatch hp) hp hz36) ?_
        rintro Γ37 U39 v40 hl38 ⟨row41, A43, c44, row45, rfl, rfl, hr42, hr46, _⟩
        change WR _ _ _ (CC F Γ37 [row41, row45, row15]) _ _ (upd _ 28 (.slice A43 z35.2.length c44))
        refine WR.sat (c0 := true) (g := (z21.2 == z30)) rfl rfl rfl hb34 ?_
        refine va rfl rfl rfl (q_move (v := .slice A13 z4.2.1.length c14) rfl (by kernel_rfl)) ?_
        refine WR.sat (c0 := true) (g := (z21.2 == z30)) rfl rfl rfl hb34 ?_
        refine va rfl rfl rfl (q_move (v := .slice Apath path.length cpath) rfl (by kernel_rfl)) ?_
        refine WR.sat (c0 := true) (g := (z21.2 == z30)) rfl rfl rfl hb34 ?_
        have hc51 := (hr16.mono (hl24.trans hl38)).capz
        intro w hw; obtain ⟨Γ47, hw, hl48, hr49⟩ := hw.seal (i := 2) rfl; have hs50 := (hr16.mono (hl24.trans hl38)).sl hl48 hr49
        refine WR.here (C := CC F Γ47 [row41, row45, []]) ?_ hw
        clear hw
        obtain ⟨z52, hz53, h⟩ := bnd h
        refine e_call (is := []) rfl rfl (call_run Tryz.call11 rfl rfl (by kernel_rfl)) rfl (fun w hp => t_firthref11_Kids hs50 hc51 (hpath.mono (((hl7.trans hl24).trans hl38).trans hl48)) hpathc hp hz53) ?_
        rintro Γ54 U56 v57 hl55 ⟨A58, c59, row60, rfl, rfl, hr61, _⟩
        change WR _ _ _ (CC F Γ54 [row60, row41, row45, []]) _ _ (upd _ 31 (.slice A58 z52.length c59))
        refine WR.sat (c0 := true) (g := (z21.2 == z30)) rfl rfl rfl hb34 ?_
        obtain ⟨z62, hz63, h⟩ := bnd h
        refine vc rfl rfl rfl (q_call (call_run Tryz.call9 rfl rfl (by kernel_rfl)) (fun w hw => t_firthref06_Hashes (Γ := Gh.all w) ((hr46.mono (hl48.trans hl55)).sl hw.sat.le_all (hw.ra 2 rfl)) (hr46.mono (hl48.trans hl55)).capz (hr61.sl hw.sat.le_all (hw.ra 0 rfl)) hr61.capz (Sat.all w) hz63)) ?_
        refine va rfl rfl rfl (q_pick_t (v := .bool z62) rfl rfl hb34 (by kernel_rfl)) ?_
        refine va rfl rfl rfl (q_move (v := .bool z62) rfl (by kernel_rfl)) ?_
        refine vg1 rfl rfl rfl rfl rfl (fun hg64 => QV.qo (q_move (v := .pointer (some ⟨g10, 0, none⟩)) rfl (optp_some rfl hz19))) ?_
        refine vg1 rfl rfl rfl rfl rfl (fun hg65 => QV.qo (q_move (v := .slice Apath path.length cpath) rfl (by kernel_rfl))) ?_
        refine (Bool.eq_false_or_eq_true z62).elim (fun hb66 => ?_) (fun hb66 => ?_)
        · skip
          have h := bt hb66 h
          refine WR.sat (c0 := true) (g := z62) rfl rfl rfl hb66 ?_
          obtain ⟨z67, hz68, h⟩ := bnd h
          refine e_call (is := [1]) rfl rfl (call_run Tryz.call13 rfl rfl (args2 (gu hb66 rfl) (gu hb66 rfl))) rfl (fun w hp => t_tree_Tree_Recs (hr42.mono (hl48.trans hl55)) (hpath.mono ((((hl7.trans hl24).trans hl38).trans hl48).trans hl55)) hpathc hp hz68) ?_
          rintro Γ69 U71 v72 hl70 ⟨A73, c74, row75, rfl, rfl, hr76, _⟩
          change WR _ _ _ (CC F Γ69 [row41, row75, row60, row45, []]) _ _ (upd _ 37 (.slice A73 z67.length c74))
          refine WR.sat (c0 := true) (g := z62) rfl rfl rfl hb66 ?_
          refine va rfl rfl rfl (q_move (v := .slice A13 z4.2.1.length c14) rfl (by kernel_rfl)) ?_
          refine WR.sat (c0 := true) (g := z62) rfl rfl rfl hb66 ?_
          refine va rfl rfl rfl (q_move (v := .slice Apath path.length cpath) rfl (by kernel_rfl)) ?_
          refine WR.sat (c0 := true) (g := z62) rfl rfl rfl hb66 ?_
          obtain ⟨z77, hz78, h⟩ := bnd h
          refine e_call (is := []) rfl rfl (call_run Tryz.call14 rfl rfl (by kernel_rfl)) rfl (fun w hp => t_firthref11_Recs (hs50.mono (hl55.trans hl70)) hc51 (hpath.mono (((((hl7.trans hl24).trans hl38).trans hl48).trans hl55).trans hl70)) hpathc hp hz78) ?_
          rintro Γ79 U81 v82 hl80 ⟨A83, c84, row85, rfl, rfl, hr86, _⟩
          change WR _ _ _ (CC F Γ79 [row85, row41, row75, row60, row45, []]) _ _ (upd _ 40 (.slice A83 z77.length c84))
          refine WR.sat (c0 := true) (g := z62) rfl rfl rfl hb66 ?_
          obtain ⟨z87, hz88, h⟩ := bnd h
          refine vc rfl rfl rfl (q_call (call_run Tryz.call12 rfl rfl (by kernel_rfl)) (fun w hw => t_firthref06_SameRecs (Γ := Gh.all w) ((hr76.mono hl80).sl hw.sat.le_all (hw.ra 2 rfl)) (hr76.mono hl80).capz (hr86.sl hw.sat.le_all (hw.ra 0 rfl)) hr86.capz (Sat.all w) hz88)) ?_
          refine va rfl rfl rfl (q_pick_t (v := .bool z87) rfl rfl hb66 (by kernel_rfl)) ?_
          refine va rfl rfl rfl (q_move (v := .bool z87) rfl (by kernel_rfl)) ?_
          refine vg1 rfl rfl rfl rfl rfl (fun hg89 => QV.qo (q_move (v := .pointer (some ⟨g10, 0, none⟩)) rfl (optp_some rfl hz19))) ?_
          refine (Bool.eq_false_or_eq_true z87).elim (fun hb90 => ?_) (fun hb90 => ?_)
          · skip
            have h := bt hb90 h
            refine WR.sat (c0 := true) (g := z87) rfl rfl rfl hb90 ?_
            obtain ⟨z91, hz92, h⟩ := bnd h
            refine e_call (is := [1]) rfl rfl (call_run Tryz.call7 rfl rfl (args2 (gu hb90 rfl) rfl)) rfl (fun w hp => t_HashC (hr42.mono (((hl48.trans hl55).trans hl70).trans hl80)) (Sl.nil intT _ none) (Nat.zero_le 0) (fun p hp => nomatch hp) hp hz92) ?_
            rintro Γ93 U95 v96 hl94 ⟨row97, rfl, rfl, hr98, hr99, _⟩
            change WR _ _ _ (CC F Γ93 [row97, row85, row75, row60, row45, []]) _ _ (upd _ 45 (.int .u64 z91.2))
            refine WR.sat (c0 := true) (g := z87) rfl rfl rfl hb90 ?_
            refine va rfl rfl rfl (q_move (v := .slice A13 z4.2.1.length c14) rfl (by kernel_rfl)) ?_
            refine WR.sat (c0 := true) (g := z87) rfl rfl rfl hb90 ?_
            obtain ⟨z100, hz101, h⟩ := bnd h
            refine vc rfl rfl rfl (q_call (call_run Tryz.call8 rfl rfl (by kernel_rfl)) (fun w hw => t_firthref11_Hash (Γ := Gh.all w) ((hs50.mono (((hl55.trans hl70).trans hl80).trans hl94)).mono hw.sat.le_all) hc51 (Sl.nil intT _ none) (Nat.zero_le 0) (Sat.all w) hz101)) ?_
            refine WR.sat (c0 := true) (g := z87) rfl rfl rfl hb90 ?_
            refine va rfl rfl rfl (q_eql rfl rfl rfl) ?_
            refine va rfl rfl rfl (q_pick_t (v := .bool (z91.2 == z100)) rfl rfl hb90 (by kernel_rfl)) ?_
            refine va rfl rfl rfl (q_assign (v := .bool (z91.2 == z100)) rfl (by kernel_rfl)) ?_
            refine WR.nil ?_
            change WC _ _ _ _ _ _
            refine WC.ret ?_
            intro w hw
            obtain rfl := Option.some.inj h
            subst hF
            exact ⟨by kernel_rfl, hw.fr⟩
          · skip
            have h := bf hb90 h
            refine WR.unsat (c0 := true) (g := z87) rfl rfl rfl hb90 rfl ?_
            refine WR.unsat (c0 := true) (g := z87) rfl rfl rfl hb90 rfl ?_
            refine WR.unsat (c0 := true) (g := z87) rfl rfl rfl hb90 rfl ?_
            refine WR.unsat (c0 := true) (g := z87) rfl rfl rfl hb90 rfl ?_
            refine va rfl rfl rfl (q_pick_f (v := .bool false) rfl rfl hb90 (by kernel_rfl)) ?_
            refine va rfl rfl rfl (q_assign (v := .bool false) rfl (by kernel_rfl)) ?_
            refine WR.nil ?_
            change WC _ _ _ _ _ _
            refine WC.ret ?_
            intro w hw
            obtain rfl := Option.some.inj h
            subst hF
            exact ⟨by kernel_rfl, hw.fr⟩
        · skip
          have h := bf hb66 h
          refine WR.unsat (c0 := true) (g := z62) rfl rfl rfl hb66 rfl ?_
          refine WR.unsat (c0 := true) (g := z62) rfl rfl rfl hb66 rfl ?_
          refine WR.unsat (c0 := true) (g := z62) rfl rfl rfl hb66 rfl ?_
          refine WR.unsat (c0 := true) (g := z62) rfl rfl rfl hb66 rfl ?_
          refine WR.unsat (c0 := true) (g := z62) rfl rfl rfl hb66 rfl ?_
          refine va rfl rfl rfl (q_pick_f (v := .bool false) rfl rfl hb66 (by kernel_rfl)) ?_
          refine va rfl rfl rfl (q_move (v := .bool false) rfl (by kernel_rfl)) ?_
          refine WR.unsat (c0 := true) (g := false) rfl rfl rfl rfl rfl ?_
          refine WR.unsat (c0 := true) (g := false) rfl rfl rfl rfl rfl ?_
          refine WR.unsat (c0 := true) (g := false) rfl rfl rfl rfl rfl ?_
          refine WR.unsat (c0 := true) (g := false) rfl rfl rfl rfl rfl ?_
          refine WR.unsat (c0 := true) (g := false) rfl rfl rfl rfl rfl ?_
          refine va rfl rfl rfl (q_pickf (v := .bool false) rfl rfl rfl) ?_
          refine va rfl rfl rfl (q_assign (v := .bool false) rfl (by kernel_rfl)) ?_
          refine WR.nil ?_
          change WC _ _ _ _ _ _
          refine WC.ret ?_
          intro w hw
          obtain rfl := Option.some.inj h
          subst hF
          exact ⟨by kernel_rfl, hw.fr⟩
      · skip
        have h := bf hb34 h
        refine WR.unsat (c0 := true) (g := (z21.2 == z30)) rfl rfl rfl hb34 rfl ?_
        refine WR.unsat (c0 := true) (g := (z21.2 == z30)) rfl rfl rfl hb34 rfl ?_
        refine WR.unsat (c0 := true) (g := (z21.2 == z30)) rfl rfl rfl hb34 rfl ?_
        refine WR.unsat (c0 := true) (g := (z21.2 == z30)) rfl rfl rfl hb34 rfl ?_
        refine WR.unsat (c0 := true) (g := (z21.2 == z30)) rfl rfl rfl hb34 rfl ?_
        refine va rfl rfl rfl (q_pick_f (v := .bool false) rfl rfl hb34 (by kernel_rfl)) ?_
        refine va rfl rfl rfl (q_move (v := .bool false) rfl (by kernel_rfl)) ?_
        refine WR.unsat (c0 := true) (g := false) rfl rfl rfl rfl rfl ?_
        refine WR.unsat (c0 := true) (g := false) rfl rfl rfl rfl rfl ?_
        refine WR.unsat (c0 := true) (g := false) rfl rfl rfl rfl rfl ?_
        refine WR.unsat (c0 := true) (g := false) rfl rfl rfl rfl rfl ?_
        refine WR.unsat (c0 := true) (g := false) rfl rfl rfl rfl rfl ?_
        refine WR.unsat (c0 := true) (g := false) rfl rfl rfl rfl rfl ?_
        refine WR.unsat (c0 := true) (g := false) rfl rfl rfl rfl rfl ?_
        refine va rfl rfl rfl (q_pickf (v := .bool false) rfl rfl rfl) ?_
        refine va rfl rfl rfl (q_move (v := .bool false) rfl (by kernel_rfl)) ?_
        refine WR.unsat (c0 := true) (g := false) rfl rfl rfl rfl rfl ?_
        refine WR.unsat (c0 := true) (g := false) rfl rfl rfl rfl rfl ?_
        refine WR.unsat (c0 := true) (g := false) rfl rfl rfl rfl rfl ?_
        refine WR.unsat (c0 := true) (g := false) rfl rfl rfl rfl rfl ?_
        refine WR.unsat (c0 := true) (g := false) rfl rfl rfl rfl rfl ?_
        refine va rfl rfl rfl (q_pickf (v := .bool false) rfl rfl rfl) ?_
        refine va rfl rfl rfl (q_assign (v := .bool false) rfl (by kernel_rfl)) ?_
        refine WR.nil ?_
        change WC _ _ _ _ _ _
        refine WC.ret ?_
        intro w hw
        obtain rfl := Option.some.inj h
        subst hF
        exact ⟨by kernel_rfl, hw.fr⟩
end Fw
end Go.Proofs.YtmmnpinpcgidnaaGreat
