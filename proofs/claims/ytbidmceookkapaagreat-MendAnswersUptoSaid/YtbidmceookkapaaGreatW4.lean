/- Walks through the functions that the law reaches (printed by a program). No condition. -/
import Derived.Test.YtbidmceookkapaaGreatW3
namespace Go.Proofs.YtbidmceookkapaaGreat
namespace Fw
set_option linter.unusedVariables false
set_option linter.unusedSimpArgs false
set_option linter.unusedSectionVars false
open Go.RowKit
abbrev r_firthref14_Answer (r : List Dfirthref14_Step) (U : List Rowb) (Γ : Gh) (v : Value) : Prop := ∃ (A0 : Option Addr), ∃ (c0 : Nat), ∃ (row0 : Rowb), v = .slice A0 r.length c0 ∧ U = [row0] ∧ Own dfirthref14_StepT Γ 75 row0 A0 c0 r ∧ True
set_option maxRecDepth 100000 in
set_option maxHeartbeats 400000 in
theorem t_firthref14_Answer {Γ : Gh} {w0 : World} {Aown : Option Addr} {cown : Nat} {own : List Rec} (hown : Sl recT Γ Aown own) (hownc : own.length ≤ cown) {Apath : Option Addr} {cpath : Nat} {path : List Int} (hpath : Sl intT Γ Apath path) (hpathc : path.length ≤ cpath) {Ahashes : Option Addr} {chashes : Nat} {hashes : List Int} (hhashes : Sl u64T Γ Ahashes hashes) (hhashesc : hashes.length ≤ chashes) (hp : Pre [] Γ w0) {r : List Dfirthref14_Step} (h : m_firthref14_Answer own path hashes = some r) : Calls Tryz.prog 16 #[.slice Aown own.length cown, .slice Apath path.length cpath, .slice Ahashes hashes.length chashes] w0 (Outc Γ [] w0 (r_firthref14_Answer r)) := by
  refine calls_of (N := 70) (rs := [6]) (args := [.slice Aown own.length cown, .slice Apath path.length cpath, .slice Ahashes hashes.length chashes]) Tryz.func16 rfl Tryz.ntmps16 Tryz.results16 rfl ?_
  obtain ⟨F, hF⟩ : ∃ F : Fm, F = ⟨ids [], w0, Γ⟩ := ⟨_, rfl⟩
  refine WC.here (C := CC F Γ []) ?_ (hF ▸ hp.start)
  refine WC.rs ?_
  refine va rfl rfl rfl (q_assign (v := .slice none 0 0) rfl (by kernel_rfl)) ?_
  refine WR.nil ?_
  change WC _ _ _ _ _ _
  refine WC.rs ?_
  refine va rfl rfl rfl (q_move (v := .slice Aown own.length cown) rfl (by kernel_rfl)) ?_
  obtain ⟨z1, hz2, h⟩ := bnd h
  refine e_call (is := []) rfl rfl (call_run Tryz.call10 rfl rfl (by kernel_rfl)) rfl (fun w hp => t_firthref14_Held hown hownc hp hz2) ?_
  rintro Γ3 U5 v6 hl4 ⟨A7, c8, row9, rfl, rfl, hr10, _⟩
  change WR _ _ _ (CC F Γ3 [row9]) _ _ (upd _ 16 (.tuple #[.slice A7 z1.1.length c8, .bool z1.2]))
  refine va rfl rfl rfl (q_move (v := .tuple #[.slice A7 z1.1.length c8, .bool z1.2]) rfl (by kernel_rfl)) ?_
  refine va rfl rfl rfl (q_extract (v := .slice A7 z1.1.length c8) rfl rfl rfl) ?_
  refine va rfl rfl rfl (q_extract (v := .bool z1.2) rfl rfl rfl) ?_
  refine va rfl rfl rfl (q_assign (v := .slice A7 z1.1.length c8) rfl (by kernel_rfl)) ?_
  refine va rfl rfl rfl (q_assign (v := .bool z1.2) rfl (by kernel_rfl)) ?_
  refine WR.nil ?_
  change WC _ _ _ _ _ _
  refine WC.seq ?_
  refine WC.rs ?_
  refine va rfl rfl rfl (q_move (v := .bool z1.2) rfl (by kernel_rfl)) ?_
  refine va rfl rfl rfl (q_not rfl rfl) ?_
  refine va rfl rfl rfl (q_move (v := .bool (!z1.2)) rfl (by kernel_rfl)) ?_
  refine vg0 rfl rfl rfl rfl rfl (fun hg11 => QV.qo (q_move (v := .slice Apath path.length cpath) rfl (by kernel_rfl))) ?_
  refine vg0 rfl rfl rfl rfl rfl (fun hg12 => QV.qo (q_len_slice rfl Tryz.underlying23 (gu hg12 rfl))) ?_
  refine vg0 rfl rfl rfl rfl rfl (fun hg13 => QV.qo (q_gtr rfl (gu hg13 rfl) rfl)) ?_
  refine va rfl rfl rfl (q_pick rfl rfl (pk_or' (g := (!z1.2)) (y := (decide (1 < ((path.length : Nat) : Int)))))) ?_
  refine va rfl rfl rfl (q_move (v := .bool ((!z1.2) || (decide (1 < ((path.length : Nat) : Int))))) rfl (by kernel_rfl)) ?_
  refine vg0 rfl rfl rfl rfl rfl (fun hg14 => QV.qo (q_move (v := .slice Apath path.length cpath) rfl (by kernel_rfl))) ?_
  obtain ⟨z16, hz17, h⟩ := bnd h
  refine vg0 rfl rfl rfl rfl rfl (fun hg15 => (q_call (call_run Tryz.call34 rfl rfl (args1 (gu hg15 rfl))) (fun w hw => t_firthref11_Path (Γ := Gh.all w) ((hpath.mono hl4).mono hw.sat.le_all) hpathc (Sat.all w) (gc_of hz17 hg15)))) ?_
  refine vg0 rfl rfl rfl rfl rfl (fun hg18 => QV.qo (q_not rfl (gu hg18 rfl))) ?_
  refine va rfl rfl rfl (q_pick rfl rfl (pk_or' (g := ((!z1.2) || (decide (1 < ((path.length : Nat) : Int))))) (y := (!z16)))) ?_
  refine WR.nil ?_
  change WC _ _ _ _ _ _
  refine WC.cif h (by kernel_rfl) (fun hb19 h => ?_) (fun hb19 h => ?_)
  · skip
    refine WC.rs ?_
    refine va rfl rfl rfl (q_assign (v := .slice none 0 0) rfl (by kernel_rfl)) ?_
    refine WR.nil ?_
    change WC _ _ _ _ _ _
    refine WC.ret ?_
    intro w hw
    have hw := hw.pad
    obtain rfl := Option.some.inj h
    subst hF
    exact end_e (is := [0]) (by kernel_rfl) hw rfl ⟨none, 0, [], rfl, rfl, (Own.nil dfirthref14_StepT _ 75), trivial⟩
  · skip
    refine WC.skip ?_
    change WC _ _ _ _ _ _
    refine WC.rs ?_
    refine va rfl rfl rfl (q_move (v := .slice A7 z1.1.length c8) rfl (by kernel_rfl)) ?_
    refine va rfl rfl rfl (q_move (v := .slice Apath path.length cpath) rfl (by kernel_rfl)) ?_
    have hc24 := hr10.capz
    intro w hw; obtain ⟨Γ20, hw, hl21, hr22⟩ := hw.seal (i := 0) rfl; have hs23 := hr10.sl hl21 hr22
    refine WR.here (C := CC F Γ20 [[]]) ?_ hw
    clear hw
    obtain ⟨z25, hz26, h⟩ := bnd h
    refine e_call (is := []) rfl rfl (call_run Tryz.call11 rfl rfl (by kernel_rfl)) rfl (fun w hp => t_firthref11_Kids hs23 hc24 (hpath.mono (hl4.trans hl21)) hpathc hp hz26) ?_
    rintro Γ27 U29 v30 hl28 ⟨A31, c32, row33, rfl, rfl, hr34, _⟩
    change WR _ _ _ (CC F Γ27 [row33, []]) _ _ (upd _ 33 (.slice A31 z25.length c32))
    refine va rfl rfl rfl (q_move (v := .slice Ahashes hashes.length chashes) rfl (by kernel_rfl)) ?_
    have hc39 := hr34.capz
    intro w hw; obtain ⟨Γ35, hw, hl36, hr37⟩ := hw.seal (i := 0) rfl; have hs38 := hr34.sl hl36 hr37
    refine WR.here (C := CC F Γ35 [[], []]) ?_ hw
    clear hw
    obtain ⟨z40, hz41, h⟩ := bnd h
    refine e_call (is := []) rfl rfl (call_run Tryz.call44 rfl rfl (by kernel_rfl)) rfl (fun w hp => t_firthref11_Differ hs38 hc39 (hhashes.mono (((hl4.trans hl21).trans hl28).trans hl36)) hhashesc hp hz41) ?_
    rintro Γ42 U44 v45 hl43 ⟨A46, c47, row48, rfl, rfl, hr49, _⟩
    change WR _ _ _ (CC F Γ42 [row48, [], []]) _ _ (upd _ 35 (.slice A46 z40.length c47))
    refine va rfl rfl rfl (q_assign (v := .slice A46 z40.length c47) rfl (by kernel_rfl)) ?_
    refine WR.nil ?_
    change WC _ _ _ _ _ _
    refine WC.rs ?_
    refine va rfl rfl rfl (q_assign (v := .slice none 0 0) rfl (by kernel_rfl)) ?_
    refine WR.nil ?_
    change WC _ _ _ _ _ _
    refine WC.seq ?_
    refine WC.rs ?_
    refine va rfl rfl rfl (q_assign (v := .int .i64 0) rfl (by kernel_rfl)) ?_
    refine WR.nil ?_
    change WC _ _ _ _ _ _
    refine WC.block ?_
    refine WC.forI h (fun (i58 : Nat) (out_52 : List Dfirthref14_Step) σ w => ∃ (Γ50 : Gh), ∃ (A53 : Option Addr), ∃ (c54 : Nat), ∃ (row55 : Rowb), slots σ [(1, .slice Apath path.length cpath), (7, .slice A7 z1.1.length c8), (9, .slice A46 z40.length c47), (10, .slice A53 out_52.length c54), (11, .int .i64 ((i58 : Nat) : Int))] ∧ CC F Γ50 [row55, row48] w ∧ Gh.le Γ42 Γ50 ∧ Own dfirthref14_StepT Γ50 75 row55 A53 c54 out_52 ∧ True) ?_ ?_
    · skip
      intro w hw
      have hw := hw.pad
      exact ⟨Γ42, none, 0, [], (sl_ (by kernel_rfl)), (hw.only (is := [0, 0]) rfl), (Gh.refl _), (Own.nil dfirthref14_StepT _ 75), trivial⟩
    rintro f57 i58 out_52 σ w hi59 hlt60 hge61 ⟨Γ50, A53, c54, row55, hsl, hw, hl51, ho56, -⟩
    refine Wpt.slots hsl ?_
    refine WC.here (C := CC F Γ50 [row55, row48]) ?_ hw
    clear hw hsl
    refine WC.seq ?_
    refine WC.rs ?_
    refine va rfl rfl rfl (q_move (v := .int .i64 ((i58 : Nat) : Int)) rfl (by kernel_rfl)) ?_
    refine va rfl rfl rfl (q_move (v := .slice A46 z40.length c47) rfl (by kernel_rfl)) ?_
    refine va rfl rfl rfl (q_len_slice rfl Tryz.underlying23 rfl) ?_
    refine va rfl rfl rfl (q_lss rfl rfl rfl) ?_
    refine WR.nil ?_
    change WC _ _ _ _ _ _
    refine WC.cond (b := (decide (((i58 : Nat) : Int) < ((z40.length : Nat) : Int)))) (by kernel_rfl) (fun hb62 => ?_) (fun hb62 => ?_)
    · skip
      have hl63 := ilt hb62
      have h := hlt60 hl63
      refine WC.skip ?_
      change WC _ _ _ _ _ _
      refine WC.seq ?_
      refine WC.block ?_
      refine WC.rs ?_
      refine va rfl rfl rfl (q_assign (v := .slice none 0 0) rfl (by kernel_rfl)) ?_
      refine WR.nil ?_
      change WC _ _ _ _ _ _
      refine WC.rs ?_
      refine va rfl rfl rfl (q_move (v := .slice none 0 0) rfl (by kernel_rfl)) ?_
      refine va rfl rfl rfl (q_move (v := .slice Apath path.length cpath) rfl (by kernel_rfl)) ?_
      refine WR.sub (fun w hw => hw.pad) ?_
      obtain ⟨hk64, h⟩ := chk_some h
      refine e_append (T := intT) (xs := []) (ys := path) elem_23 (i := 0) rfl rfl rfl rfl (by kernel_rfl) rfl rfl (Own.nil intT Γ50 3) (of_decide_eq_true hk64) (fun w hw => src_sl (hpath.mono (((((hl4.trans hl21).trans hl28).trans hl36).trans hl43).trans hl51)) hw) ?_
      intro row65 A66 c67 ho68
      refine va rfl rfl rfl (q_assign (v := .slice A66 path.length c67) rfl (by kernel_rfl)) ?_
      refine WR.nil ?_
      change WC _ _ _ _ _ _
      refine WC.rs ?_
      refine va rfl rfl rfl (q_move (v := .slice A66 path.length c67) rfl (by kernel_rfl)) ?_
      refine va rfl rfl rfl (q_move (v := .slice A46 z40.length c47) rfl (by kernel_rfl)) ?_
      refine va rfl rfl rfl (q_move (v := .int .i64 ((i58 : Nat) : Int)) rfl (by kernel_rfl)) ?_
      refine va rfl rfl rfl (q_ixn (i := i58) Tryz.underlying23 Tryz.sizeOf3 rfl rfl rfl hl63 ((hr49.mono hl51).some_ hl63)) ?_
      refine va rfl rfl rfl (q_ldo (c := 0) (v := .int .i64 (gt z40 i58)) (i := 2) rfl ((hr49.mono hl51).intT_at hl63).2 rfl Tryz.isAgg3 rfl rfl) ?_
      refine e_buildSlice (cs := #[.int .i64 (gt z40 i58)]) (e := 3) rfl rfl rfl rfl (fun w => by kernel_rfl) ?_
      intro g69
      obtain ⟨hk70, h⟩ := chk_some h
      refine e_append (T := intT) (xs := path) (ys := [(gt z40 i58)]) elem_23 (i := 1) rfl rfl rfl rfl rfl rfl rfl ho68 (of_decide_eq_true hk70) (fun w hw => src_one (T := intT) (y := (gt z40 i58)) (i := 0) rfl (by exact ⟨rfl, ((hr49.mono hl51).intT_at hl63).1⟩) hw) ?_
      intro row71 A72 c73 ho74
      refine va rfl rfl rfl (q_assign (v := .slice A72 (path ++ [(gt z40 i58)]).length c73) rfl (by kernel_rfl)) ?_
      refine WR.nil ?_
      change WC _ _ _ _ _ _
      refine WC.rs ?_
      refine va rfl rfl rfl (q_move (v := .slice A72 (path ++ [(gt z40 i58)]).length c73) rfl (by kernel_rfl)) ?_
      refine va rfl rfl rfl (q_build' (v := .agg #[.slice A72 (path ++ [(gt z40 i58)]).length c73, .slice none 0 0, .slice none 0 0]) rfl (bargs1 rfl) (fun w => by kernel_rfl)) ?_
      refine e_alloc Tryz.zeroValue75 rfl rfl rfl rfl ?_
      intro g75
      refine e_st (i := 0) (v := .agg #[.slice A72 (path ++ [(gt z40 i58)]).length c73, .slice none 0 0, .slice none 0 0]) (new := #[.slice A72 (path ++ [(gt z40 i58)]).length c73, .slice none 0 0, .slice none 0 0]) rfl Tryz.sizeOf75 rfl rfl rfl rfl (by kernel_rfl) rfl rfl rfl rfl ?_
      refine WR.nil ?_
      change WC _ _ _ _ _ _
      refine WC.cut (fun σ w => ∃ (x78 : List Int), ∃ (x83 : List Int), ∃ (x88 : List Rec), ∃ (Γ76 : Gh), ∃ (A79 : Option Addr), ∃ (c80 : Nat), ∃ (A84 : Option Addr), ∃ (c85 : Nat), ∃ (row86 : Rowb), ∃ (A89 : Option Addr), ∃ (c90 : Nat), ∃ (row91 : Rowb), m_firthref14_Answer_j5 out_52 f57 x78 x83 x88 = some r ∧ slots σ [(1, .slice Apath path.length cpath), (7, .slice A7 z1.1.length c8), (9, .slice A46 z40.length c47), (10, .slice A53 out_52.length c54), (11, .int .i64 ((i58 : Nat) : Int)), (13, .pointer (some ⟨g75, 0, none⟩))] ∧ CC F Γ76 [row86, row91, [(g75, .cells #[.slice A79 x78.length c80, .slice A84 x83.length c85, .slice A89 x88.length c90] 75 (0, 0))], row55, row48] w ∧ Gh.le Γ50 Γ76 ∧ x78.length ≤ c80 ∧ Sl intT Γ76 A79 x78 ∧ Own u64T Γ76 67 row86 A84 c85 x83 ∧ Own recT Γ76 51 row91 A89 c90 x88 ∧ True) ?_ ?_
      · skip
        refine WC.rs ?_
        refine va rfl rfl rfl (q_move (v := .slice A72 (path ++ [(gt z40 i58)]).length c73) rfl (by kernel_rfl)) ?_
        refine va rfl rfl rfl (q_len_slice rfl Tryz.underlying23 rfl) ?_
        refine va rfl rfl rfl (q_eql rfl rfl rfl) ?_
        refine WR.nil ?_
        change WC _ _ _ _ _ _
        refine WC.cif h (by kernel_rfl) (fun hb93 h => ?_) (fun hb93 h => ?_)
        · skip
          refine WC.region ?_
          refine va rfl rfl rfl (q_move (v := .slice A7 z1.1.length c8) rfl (by kernel_rfl)) ?_
          refine va rfl rfl rfl (q_move (v := .slice A72 (path ++ [(gt z40 i58)]).length c73) rfl (by kernel_rfl)) ?_
          have hc98 := ho74.capz
          intro w hw; obtain ⟨Γ94, hw, hl95, hr96⟩ := hw.seal (i := 2) rfl; have hs97 := ho74.sl hl95 hr96
          refine WR.here (C := CC F Γ94 [[(g75, .cells #[.slice A72 (path ++ [(gt z40 i58)]).length c73, .slice none 0 0, .slice none 0 0] 75 (0, 0))], [(g69, .cells #[.int .i64 (gt z40 i58)] 3 (0, 0))], [], row55, row48]) ?_ hw
          clear hw
          obtain ⟨z99, hz100, h⟩ := bnd h
          refine e_call (is := []) rfl rfl (call_run Tryz.call11 rfl rfl (by kernel_rfl)) rfl (fun w hp => t_firthref11_Kids (hs23.mono ((((hl28.trans hl36).trans hl43).trans hl51).trans hl95)) hc24 hs97 hc98 hp hz100) ?_
          rintro Γ101 U103 v104 hl102 ⟨A105, c106, row107, rfl, rfl, hr108, _⟩
          change WR _ _ _ (CC F Γ101 [row107, [(g75, .cells #[.slice A72 (path ++ [(gt z40 i58)]).length c73, .slice none 0 0, .slice none 0 0] 75 (0, 0))], [(g69, .cells #[.int .i64 (gt z40 i58)] 3 (0, 0))], [], row55, row48]) _ _ (upd _ 59 (.slice A105 z99.length c106))
          refine va rfl rfl rfl (q_fl 1 fld_75_1 rfl rfl rfl) ?_
          refine e_st (i := 1) (v := .slice A105 z99.length c106) (new := #[.slice A72 (path ++ [(gt z40 i58)]).length c73, .slice A105 z99.length c106, .slice none 0 0]) rfl Tryz.sizeOf24 rfl rfl rfl rfl (by kernel_rfl) rfl rfl rfl rfl ?_
          refine WR.nil ?_
          intro w hw
          have hw := hw.pad
          exact ⟨(path ++ [(gt z40 i58)]), z99, [], Γ101, A72, c73, A105, c106, row107, none, 0, [], h, (sl_ (by kernel_rfl)), (hw.only (is := [1, 0, 0, 2, 2]) rfl), (hl95.trans hl102), hc98, (hs97.mono hl102), hr108, (Own.nil recT _ 51), trivial⟩
        · skip
          refine WC.region ?_
          refine va rfl rfl rfl (q_move (v := .slice A7 z1.1.length c8) rfl (by kernel_rfl)) ?_
          refine va rfl rfl rfl (q_move (v := .slice A72 (path ++ [(gt z40 i58)]).length c73) rfl (by kernel_rfl)) ?_
          have hc113 := ho74.capz
          intro w hw; obtain ⟨Γ109, hw, hl110, hr111⟩ := hw.seal (i := 2) rfl; have hs112 := ho74.sl hl110 hr111
          refine WR.here (C := CC F Γ109 [[(g75, .cells #[.slice A72 (path ++ [(gt z40 i58)]).length c73, .slice none 0 0, .slice none 0 0] 75 (0, 0))], [(g69, .cells #[.int .i64 (gt z40 i58)] 3 (0, 0))], [], row55, row48]) ?_ hw
          clear hw
          obtain ⟨z114, hz115, h⟩ := bnd h
          refine e_call (is := []) rfl rfl (call_run Tryz.call45 rfl rfl (by kernel_rfl)) rfl (fun w hp => t_firthref11_Recs (hs23.mono ((((hl28.trans hl36).trans hl43).trans hl51).trans hl110)) hc24 hs112 hc113 hp hz115) ?_
          rintro Γ116 U118 v119 hl117 ⟨A120, c121, row122, rfl, rfl, hr123, _⟩
          change WR _ _ _ (CC F Γ116 [row122, [(g75, .cells #[.slice A72 (path ++ [(gt z40 i58)]).length c73, .slice none 0 0, .slice none 0 0] 75 (0, 0))], [(g69, .cells #[.int .i64 (gt z40 i58)] 3 (0, 0))], [], row55, row48]) _ _ (upd _ 63 (.slice A120 z114.length c121))
          refine va rfl rfl rfl (q_fl 2 fld_75_2 rfl rfl rfl) ?_
          refine e_st (i := 1) (v := .slice A120 z114.length c121) (new := #[.slice A72 (path ++ [(gt z40 i58)]).length c73, .slice none 0 0, .slice A120 z114.length c121]) rfl Tryz.sizeOf22 rfl rfl rfl rfl (by kernel_rfl) rfl rfl rfl rfl ?_
          refine WR.nil ?_
          intro w hw
          have hw := hw.pad
          exact ⟨(path ++ [(gt z40 i58)]), [], z114, Γ116, A72, c73, none, 0, [], A120, c121, row122, h, (sl_ (by kernel_rfl)), (hw.only (is := [0, 0, 0, 2, 2]) rfl), (hl110.trans hl117), hc113, (hs112.mono hl117), (Own.nil u64T _ 67), hr123, trivial⟩
      · skip
        rintro σ w ⟨x78, x83, x88, Γ76, A79, c80, A84, c85, row86, A89, c90, row91, h, hsl, hw, hl77, hc82, hs81, ho87, ho92, -⟩
        refine Wpt.slots hsl ?_
        refine WC.here (C := CC F Γ76 [row86, row91, [(g75, .cells #[.slice A79 x78.length c80, .slice A84 x83.length c85, .slice A89 x88.length c90] 75 (0, 0))], row55, row48]) ?_ hw
        clear hw hsl
        refine WC.region ?_
        refine va rfl rfl rfl (q_move (v := .slice A53 out_52.length c54) rfl (by kernel_rfl)) ?_
        refine va rfl rfl rfl (q_ldla (i := 2) (vs := [.slice A79 x78.length c80, .slice A84 x83.length c85, .slice A89 x88.length c90]) rfl rfl Tryz.isAgg75 Tryz.sizeOf75 rfl rfl) ?_
        have hc128 := ho87.capz
        intro w hw; obtain ⟨Γ124, hw, hl125, hr126⟩ := hw.seal (i := 0) rfl; have hs127 := ho87.sl hl125 hr126
        refine WR.here (C := CC F Γ124 [[], row91, [(g75, .cells #[.slice A79 x78.length c80, .slice A84 x83.length c85, .slice A89 x88.length c90] 75 (0, 0))], row55, row48]) ?_ hw
        clear hw
        have hc133 := (ho92.mono hl125).capz
        intro w hw; obtain ⟨Γ129, hw, hl130, hr131⟩ := hw.seal (i := 1) rfl; have hs132 := (ho92.mono hl125).sl hl130 hr131
        refine WR.here (C := CC F Γ129 [[], [], [(g75, .cells #[.slice A79 x78.length c80, .slice A84 x83.length c85, .slice A89 x88.length c90] 75 (0, 0))], row55, row48]) ?_ hw
        clear hw
        refine e_buildSlice (cs := #[.slice A79 x78.length c80, .slice A84 x83.length c85, .slice A89 x88.length c90]) (e := 75) rfl rfl rfl rfl (fun w => by kernel_rfl) ?_
        intro g134
        obtain ⟨hk135, h⟩ := chk_some h
        refine e_append (T := dfirthref14_StepT) (xs := out_52) (ys := [(⟨x78, x83, x88⟩ : Dfirthref14_Step)]) elem_34 (i := 4) rfl rfl rfl rfl rfl rfl rfl (ho56.mono ((hl77.trans hl125).trans hl130)) (of_decide_eq_true hk135) (fun w hw => src_one (T := dfirthref14_StepT) (y := (⟨x78, x83, x88⟩ : Dfirthref14_Step)) (i := 0) rfl (by exact ⟨A79, c80, A84, c85, A89, c90, rfl, ⟨⟨hc82, (hs81.mono (hl125.trans hl130))⟩, ⟨hc128, (hs127.mono hl130)⟩, ⟨hc133, hs132⟩⟩⟩) hw) ?_
        intro row136 A137 c138 ho139
        refine va rfl rfl rfl (q_assign (v := .slice A137 (out_52 ++ [(⟨x78, x83, x88⟩ : Dfirthref14_Step)]).length c138) rfl (by kernel_rfl)) ?_
        refine WR.nil ?_
        change WC _ _ _ _ _ _
        refine WC.region ?_
        refine va rfl rfl rfl (q_move (v := .int .i64 ((i58 : Nat) : Int)) rfl (by kernel_rfl)) ?_
        refine va rfl rfl rfl (q_add_r (r := ((i58 + 1 : Nat) : Int)) rfl rfl rfl (ctr_len hl63 (hr49.mono hl51).le)) ?_
        refine va rfl rfl rfl (q_assign (v := .int .i64 ((i58 + 1 : Nat) : Int)) rfl (by kernel_rfl)) ?_
        refine WR.nil ?_
        intro w hw
        exact ⟨hl63, (out_52 ++ [(⟨x78, x83, x88⟩ : Dfirthref14_Step)]), h, Γ129, A137, c138, row136, (sl_ (by kernel_rfl)), (hw.only (is := [4, 4]) rfl), (((hl51.trans hl77).trans hl125).trans hl130), ho139, trivial⟩
    · skip
      have h := hge61 (ige hb62)
      refine WC.exit ?_
      change WC _ _ _ _ _ _
      refine WC.rs ?_
      refine va rfl rfl rfl (q_move (v := .slice A53 out_52.length c54) rfl (by kernel_rfl)) ?_
      refine va rfl rfl rfl (q_assign (v := .slice A53 out_52.length c54) rfl (by kernel_rfl)) ?_
      refine WR.nil ?_
      change WC _ _ _ _ _ _
      refine WC.ret ?_
      intro w hw
      obtain rfl := Option.some.inj h
      subst hF
      exact end_e (is := [0]) (by kernel_rfl) hw rfl ⟨A53, c54, row55, rfl, rfl, ho56, trivial⟩
set_option maxRecDepth 100000 in
set_option maxHeartbeats 400000 in
theorem t_firthref06_Ints {Γ : Gh} {w0 : World} {Aa : Option Addr} {ca : Nat} {a : List Int} (ha : Sl intT Γ Aa a) (hac : a.length ≤ ca) {Ab : Option Addr} {cb : Nat} {b : List Int} (hb : Sl intT Γ Ab b) (hbc : b.length ≤ cb) (hs : Sat Γ w0) {r : Bool} (h : m_firthref06_Ints a b = some r) : Calls Tryz.prog 39 #[.slice Aa a.length ca, .slice Ab b.length cb] w0 (fun e w' => e = .returned (.bool r) ∧ Fr no w0 w') := by
  refine calls_of (N := 26) (rs := [4]) (args := [.slice Aa a.length ca, .slice Ab b.length cb]) Tryz.func39 rfl Tryz.ntmps39 Tryz.results39 rfl ?_
  obtain ⟨F, hF⟩ : ∃ F : Fm, F = ⟨no, w0, Γ⟩ := ⟨_, rfl⟩
  refine WC.here (C := CC F Γ []) ?_ (hF ▸ Cur.start0 hs)
  refine WC.rs ?_
  refine va rfl rfl rfl (q_assign (v := .bool false) rfl (by kernel_rfl)) ?_
  refine WR.nil ?_
  change WC _ _ _ _ _ _
  refine WC.seq ?_
  refine WC.rs ?_
  refine va rfl rfl rfl (q_move (v := .slice Aa a.length ca) rfl (by kernel_rfl)) ?_
  refine va rfl rfl rfl (q_len_slice rfl Tryz.underlying23 rfl) ?_
  refine va rfl rfl rfl (q_move (v := .slice Ab b.length cb) rfl (by kernel_rfl)) ?_
  refine va rfl rfl rfl (q_len_slice rfl Tryz.underlying23 rfl) ?_
  refine va rfl rfl rfl (q_neq rfl rfl rfl) ?_
  refine WR.nil ?_
  change WC _ _ _ _ _ _
  refine WC.cif h (by kernel_rfl) (fun hb1 h => ?_) (fun hb1 h => ?_)
  · skip
    refine WC.rs ?_
    refine va rfl rfl rfl (q_assign (v := .bool false) rfl (by kernel_rfl)) ?_
    refine WR.nil ?_
    change WC _ _ _ _ _ _
    refine WC.ret ?_
    intro w hw
    obtain rfl := Option.some.inj h
    subst hF
    exact ⟨by kernel_rfl, hw.fr⟩
  · skip
    refine WC.skip ?_
    change WC _ _ _ _ _ _
    refine WC.seq ?_
    refine WC.rs ?_
    refine va rfl rfl rfl (q_assign (v := .int .i64 0) rfl (by kernel_rfl)) ?_
    refine WR.nil ?_
    change WC _ _ _ _ _ _
    refine WC.block ?_
    refine WC.forI h (fun (i3 : Nat) (s : Unit) σ w => match s with | () => slots σ [(0, .slice Aa a.length ca), (1, .slice Ab b.length cb), (5, .int .i64 ((i3 : Nat) : Int))] ∧ CC F Γ [] w ∧ True) ?_ ?_
    · skip
      intro w hw
      exact ⟨(sl_ (by kernel_rfl)), hw, trivial⟩
    rintro f2 i3 ⟨⟩ σ w hi4 hlt5 hge6 ⟨hsl, hw, -⟩
    refine Wpt.slots hsl ?_
    refine WC.here (C := CC F Γ []) ?_ hw
    clear hw hsl
    refine WC.seq ?_
    refine WC.rs ?_
    refine va rfl rfl rfl (q_move (v := .int .i64 ((i3 : Nat) : Int)) rfl (by kernel_rfl)) ?_
    refine va rfl rfl rfl (q_move (v := .slice Aa a.length ca) rfl (by kernel_rfl)) ?_
    refine va rfl rfl rfl (q_len_slice rfl Tryz.underlying23 rfl) ?_
    refine va rfl rfl rfl (q_lss rfl rfl rfl) ?_
    refine WR.nil ?_
    change WC _ _ _ _ _ _
    refine WC.cond (b := (decide (((i3 : Nat) : Int) < ((a.length : Nat) : Int)))) (by kernel_rfl) (fun hb7 => ?_) (fun hb7 => ?_)
    · skip
      have hl8 := ilt hb7
      have h := hlt5 hl8
      refine WC.skip ?_
      change WC _ _ _ _ _ _
      refine WC.seq ?_
      refine WC.block ?_
      refine WC.seq ?_
      refine WC.dr (by kernel_rfl) (by kernel_rfl) (fun w hw => hw.drawn _) ?_
      refine wa rfl rfl rfl (q_move (v := .slice Aa a.length ca) rfl (by kernel_rfl)) ?_
      refine wa rfl rfl rfl (q_move (v := .int .i64 ((i3 : Nat) : Int)) rfl (by kernel_rfl)) ?_
      refine wa rfl rfl rfl (q_ixn (i := i3) Tryz.underlying23 Tryz.sizeOf3 rfl rfl rfl hl8 (ha.some_ hl8)) ?_
      refine wa rfl rfl rfl (q_ld (c := 0) (v := .int .i64 (gt a i3)) (ha.intT_at hl8).2 rfl Tryz.isAgg3 rfl rfl) ?_
      refine wa rfl rfl rfl (q_move (v := .slice Ab b.length cb) rfl (by kernel_rfl)) ?_
      refine wa rfl rfl rfl (q_move (v := .int .i64 ((i3 : Nat) : Int)) rfl (by kernel_rfl)) ?_
      obtain ⟨hk9, h⟩ := chk_some h
      refine wa rfl rfl rfl (q_ixn (i := i3) Tryz.underlying23 Tryz.sizeOf3 rfl rfl rfl (of_decide_eq_true hk9) (hb.some_ (of_decide_eq_true hk9))) ?_
      refine wa rfl rfl rfl (q_ld (c := 0) (v := .int .i64 (gt b i3)) (hb.intT_at (of_decide_eq_true hk9)).2 rfl Tryz.isAgg3 rfl rfl) ?_
      refine wa rfl rfl rfl (q_neq rfl rfl rfl) ?_
      refine WQ.nil ?_
      change WC _ _ _ _ _ _
      refine WC.cif h (by kernel_rfl) (fun hb10 h => ?_) (fun hb10 h => ?_)
      · skip
        refine WC.rs ?_
        refine va rfl rfl rfl (q_assign (v := .bool false) rfl (by kernel_rfl)) ?_
        refine WR.nil ?_
        change WC _ _ _ _ _ _
        refine WC.ret ?_
        intro w hw
        obtain rfl := Option.some.inj h
        subst hF
        exact ⟨by kernel_rfl, hw.fr⟩
      · skip
        refine WC.skip ?_
        change WC _ _ _ _ _ _
        refine WC.region ?_
        refine va rfl rfl rfl (q_move (v := .int .i64 ((i3 : Nat) : Int)) rfl (by kernel_rfl)) ?_
        refine va rfl rfl rfl (q_add_r (r := ((i3 + 1 : Nat) : Int)) rfl rfl rfl (ctr_len hl8 ha.le)) ?_
        refine va rfl rfl rfl (q_assign (v := .int .i64 ((i3 + 1 : Nat) : Int)) rfl (by kernel_rfl)) ?_
        refine WR.nil ?_
        intro w hw
        exact ⟨hl8, (), h, (sl_ (by kernel_rfl)), hw, trivial⟩
    · skip
      have h := hge6 (ige hb7)
      refine WC.exit ?_
      change WC _ _ _ _ _ _
      refine WC.rs ?_
      refine va rfl rfl rfl (q_assign (v := .bool true) rfl (by kernel_rfl)) ?_
      refine WR.nil ?_
      change WC _ _ _ _ _ _
      refine WC.ret ?_
      intro w hw
      obtain rfl := Option.some.inj h
      subst hF
      exact ⟨by kernel_rfl, hw.fr⟩
set_option maxRecDepth 100000 in
set_option maxHeartbeats 400000 in
theorem t_firthlaw14_steps {Γ : Gh} {w0 : World} {Aa : Option Addr} {ca : Nat} {a : List Dmend_Step} (ha : Sl dmend_StepT Γ Aa a) (hac : a.length ≤ ca) {Ab : Option Addr} {cb : Nat} {b : List Dfirthref14_Step} (hb : Sl dfirthref14_StepT Γ Ab b) (hbc : b.length ≤ cb) (hs : Sat Γ w0) {r : Bool} (h : m_firthlaw14_steps a b = some r) : Calls Tryz.prog 14 #[.slice Aa a.length ca, .slice Ab b.length cb] w0 (fun e w' => e = .returned (.bool r) ∧ Fr no w0 w') := by
  refine calls_of (N := 57) (rs := [4]) (args := [.slice Aa a.length ca, .slice Ab b.length cb]) Tryz.func14 rfl Tryz.ntmps14 Tryz.results14 rfl ?_
  obtain ⟨F, hF⟩ : ∃ F : Fm, F = ⟨no, w0, Γ⟩ := ⟨_, rfl⟩
  refine WC.here (C := CC F Γ []) ?_ (hF ▸ Cur.start0 hs)
  refine WC.rs ?_
  refine va rfl rfl rfl (q_assign (v := .bool false) rfl (by kernel_rfl)) ?_
  refine WR.nil ?_
  change WC _ _ _ _ _ _
  refine WC.seq ?_
  refine WC.rs ?_
  refine va rfl rfl rfl (q_move (v := .slice Aa a.length ca) rfl (by kernel_rfl)) ?_
  refine va rfl rfl rfl (q_len_slice rfl Tryz.underlying32 rfl) ?_
  refine va rfl rfl rfl (q_move (v := .slice Ab b.length cb) rfl (by kernel_rfl)) ?_
  refine va rfl rfl rfl (q_len_slice rfl Tryz.underlying34 rfl) ?_
  refine va rfl rfl rfl (q_neq rfl rfl rfl) ?_
  refine WR.nil ?_
  change WC _ _ _ _ _ _
  refine WC.cif h (by kernel_rfl) (fun hb1 h => ?_) (fun hb1 h => ?_)
  · skip
    refine WC.rs ?_
    refine va rfl rfl rfl (q_assign (v := .bool false) rfl (by kernel_rfl)) ?_
    refine WR.nil ?_
    change WC _ _ _ _ _ _
    refine WC.ret ?_
    intro w hw
    obtain rfl := Option.some.inj h
    subst hF
    exact ⟨by kernel_rfl, hw.fr⟩
  · skip
    refine WC.skip ?_
    change WC _ _ _ _ _ _
    refine WC.seq ?_
    refine WC.rs ?_
    refine va rfl rfl rfl (q_assign (v := .int .i64 0) rfl (by kernel_rfl)) ?_
    refine WR.nil ?_
    change WC _ _ _ _ _ _
    refine WC.block ?_
    refine WC.forI h (fun (i3 : Nat) (s : Unit) σ w => match s with | () => slots σ [(0, .slice Aa a.length ca), (1, .slice Ab b.length cb), (5, .int .i64 ((i3 : Nat) : Int))] ∧ CC F Γ [] w ∧ True) ?_ ?_
    · skip
      intro w hw
      exact ⟨(sl_ (by kernel_rfl)), hw, trivial⟩
    rintro f2 i3 ⟨⟩ σ w hi4 hlt5 hge6 ⟨hsl, hw, -⟩
    refine Wpt.slots hsl ?_
    refine WC.here (C := CC F Γ []) ?_ hw
    clear hw hsl
    refine WC.seq ?_
    refine WC.rs ?_
    refine va rfl rfl rfl (q_move (v := .int .i64 ((i3 : Nat) : Int)) rfl (by kernel_rfl)) ?_
    refine va rfl rfl rfl (q_move (v := .slice Aa a.length ca) rfl (by kernel_rfl)) ?_
    refine va rfl rfl rfl (q_len_slice rfl Tryz.underlying32 rfl) ?_
    refine va rfl rfl rfl (q_lss rfl rfl rfl) ?_
    refine WR.nil ?_
    change WC _ _ _ _ _ _
    refine WC.cond (b := (decide (((i3 : Nat) : Int) < ((a.length : Nat) : Int)))) (by kernel_rfl) (fun hb7 => ?_) (fun hb7 => ?_)
    · skip
      have hl8 := ilt hb7
      have h := hlt5 hl8
      refine WC.skip ?_
      change WC _ _ _ _ _ _
      refine WC.seq ?_
      refine WC.block ?_
      refine WC.seq ?_
      refine WC.dr (by kernel_rfl) (by kernel_rfl) (fun w hw => hw.drawn _) ?_
      refine wa rfl rfl rfl (q_move (v := .slice Aa a.length ca) rfl (by kernel_rfl)) ?_
      refine wa rfl rfl rfl (q_move (v := .int .i64 ((i3 : Nat) : Int)) rfl (by kernel_rfl)) ?_
      refine wa rfl rfl rfl (q_ixn (i := i3) Tryz.underlying32 Tryz.sizeOf42 rfl rfl rfl hl8 (ha.some_ hl8)) ?_
      refine wa rfl rfl rfl (q_field_addr (i3 * 3) fld_42_0 rfl rfl (ha.some_ hl8) rfl) ?_
      obtain ⟨A9, c10, A11, c12, A13, c14, hx15⟩ := ha.dmend_StepT_at i3
      refine wa rfl rfl rfl (q_ld (c := 0) (v := .slice A9 ((gt a i3).path).length c10) (hx15 hl8).2 rfl Tryz.isAgg23 rfl rfl) ?_
      refine wa rfl rfl rfl (q_move (v := .slice Ab b.length cb) rfl (by kernel_rfl)) ?_
      refine wa rfl rfl rfl (q_move (v := .int .i64 ((i3 : Nat) : Int)) rfl (by kernel_rfl)) ?_
      obtain ⟨hk16, h⟩ := chk_some h
      refine wa rfl rfl rfl (q_ixn (i := i3) Tryz.underlying34 Tryz.sizeOf75 rfl rfl rfl (of_decide_eq_true hk16) (hb.some_ (of_decide_eq_true hk16))) ?_
      refine wa rfl rfl rfl (q_field_addr (i3 * 3) fld_75_0 rfl rfl (hb.some_ (of_decide_eq_true hk16)) rfl) ?_
      obtain ⟨A17, c18, A19, c20, A21, c22, hx23⟩ := hb.dfirthref14_StepT_at i3
      refine wa rfl rfl rfl (q_ld (c := 0) (v := .slice A17 ((gt b i3).path).length c18) (hx23 (of_decide_eq_true hk16)).2 rfl Tryz.isAgg23 rfl rfl) ?_
      obtain ⟨z24, hz25, h⟩ := bnd h
      refine wc rfl rfl rfl (q_call (call_run Tryz.call39 rfl rfl (by kernel_rfl)) (fun w hw => t_firthref06_Ints (Γ := Gh.all w) ((hx15 hl8).1.1.2.mono hw.sat.le_all) (hx15 hl8).1.1.1 ((hx23 (of_decide_eq_true hk16)).1.1.2.mono hw.sat.le_all) (hx23 (of_decide_eq_true hk16)).1.1.1 (Sat.all w) hz25)) ?_
      refine wa rfl rfl rfl (q_not rfl rfl) ?_
      refine wa rfl rfl rfl (q_move (v := .bool (!z24)) rfl (by kernel_rfl)) ?_
      refine wg0 rfl rfl rfl rfl rfl (fun hg26 => QV.qo (q_move (v := .slice Aa a.length ca) rfl (by kernel_rfl))) ?_
      refine wg0 rfl rfl rfl rfl rfl (fun hg27 => QV.qo (q_move (v := .int .i64 ((i3 : Nat) : Int)) rfl (by kernel_rfl))) ?_
      refine wg0 rfl rfl rfl rfl rfl (fun hg28 => QV.qo (q_ixn (i := i3) Tryz.underlying32 Tryz.sizeOf42 rfl (gu hg28 rfl) (gu hg28 rfl) hl8 (ha.some_ hl8))) ?_
      refine wg0 rfl rfl rfl rfl rfl (fun hg29 => QV.qo (q_field_addr (i3 * 3 + 1) fld_42_1 rfl (gu hg29 rfl) (ha.some_ hl8) rfl)) ?_
      refine wg0 rfl rfl rfl rfl rfl (fun hg30 => QV.qo (q_ld (c := 1) (v := .slice A11 ((gt a i3).hashes).length c12) (hx15 hl8).2 rfl Tryz.isAgg24 (gu hg30 rfl) rfl)) ?_
      refine wg0 rfl rfl rfl rfl rfl (fun hg31 => QV.qo (q_move (v := .slice Ab b.length cb) rfl (by kernel_rfl))) ?_
      refine wg0 rfl rfl rfl rfl rfl (fun hg32 => QV.qo (q_move (v := .int .i64 ((i3 : Nat) : Int)) rfl (by kernel_rfl))) ?_
      refine wg0 rfl rfl rfl rfl rfl (fun hg33 => QV.qo (q_ixn (i := i3) Tryz.underlying34 Tryz.sizeOf75 rfl (gu hg33 rfl) (gu hg33 rfl) (of_decide_eq_true hk16) (hb.some_ (of_decide_eq_true hk16)))) ?_
      refine wg0 rfl rfl rfl rfl rfl (fun hg34 => QV.qo (q_field_addr (i3 * 3 + 1) fld_75_1 rfl (gu hg34 rfl) (hb.some_ (of_decide_eq_true hk16)) rfl)) ?_
      refine wg0 rfl rfl rfl rfl rfl (fun hg35 => QV.qo (q_ld (c := 1) (v := .slice A19 ((gt b i3).hashes).length c20) (hx23 (of_decide_eq_true hk16)).2 rfl Tryz.isAgg24 (gu hg35 rfl) rfl)) ?_
      obtain ⟨z37, hz38, h⟩ := bnd h
      refine wg0 rfl rfl rfl rfl rfl (fun hg36 => (q_call (call_run Tryz.call12 rfl rfl (args2 (gu hg36 rfl) (gu hg36 rfl))) (fun w hw => t_firthref06_Hashes (Γ := Gh.all w) ((hx15 hl8).1.2.1.2.mono hw.sat.le_all) (hx15 hl8).1.2.1.1 ((hx23 (of_decide_eq_true hk16)).1.2.1.2.mono hw.sat.le_all) (hx23 (of_decide_eq_true hk16)).1.2.1.1 (Sat.all w) (gc_of hz38 hg36)))) ?_
      refine wg0 rfl rfl rfl rfl rfl (fun hg39 => QV.qo (q_not rfl (gu hg39 rfl))) ?_
      refine wa rfl rfl rfl (q_pick rfl rfl (pk_or' (g := (!z24)) (y := (!z37)))) ?_
      refine wa rfl rfl rfl (q_move (v := .bool ((!z24) || (!z37))) rfl (by kernel_rfl)) ?_
      refine wg0 rfl rfl rfl rfl rfl (fun hg40 => QV.qo (q_move (v := .slice Aa a.length ca) rfl (by kernel_rfl))) ?_
      refine wg0 rfl rfl rfl rfl rfl (fun hg41 => QV.qo (q_move (v := .int .i64 ((i3 : Nat) : Int)) rfl (by kernel_rfl))) ?_
      refine wg0 rfl rfl rfl rfl rfl (fun hg42 => QV.qo (q_ixn (i := i3) Tryz.underlying32 Tryz.sizeOf42 rfl (gu hg42 rfl) (gu hg42 rfl) hl8 (ha.some_ hl8))) ?_
      refine wg0 rfl rfl rfl rfl rfl (fun hg43 => QV.qo (q_field_addr (i3 * 3 + 2) fld_42_2 rfl (gu hg43 rfl) (ha.some_ hl8) rfl)) ?_
      refine wg0 rfl rfl rfl rfl rfl (fun hg44 => QV.qo (q_ld (c := 2) (v := .slice A13 ((gt a i3).recs).length c14) (hx15 hl8).2 rfl Tryz.isAgg22 (gu hg44 rfl) rfl)) ?_
      refine wg0 rfl rfl rfl rfl rfl (fun hg45 => QV.qo (q_move (v := .slice Ab b.length cb) rfl (by kernel_rfl))) ?_
      refine wg0 rfl rfl rfl rfl rfl (fun hg46 => QV.qo (q_move (v := .int .i64 ((i3 : Nat) : Int)) rfl (by kernel_rfl))) ?_
      refine wg0 rfl rfl rfl rfl rfl (fun hg47 => QV.qo (q_ixn (i := i3) Tryz.underlying34 Tryz.sizeOf75 rfl (gu hg47 rfl) (gu hg47 rfl) (of_decide_eq_true hk16) (hb.some_ (of_decide_eq_true hk16)))) ?_
      refine wg0 rfl rfl rfl rfl rfl (fun hg48 => QV.qo (q_field_addr (i3 * 3 + 2) fld_75_2 rfl (gu hg48 rfl) (hb.some_ (of_decide_eq_true hk16)) rfl)) ?_
      refine wg0 rfl rfl rfl rfl rfl (fun hg49 => QV.qo (q_ld (c := 2) (v := .slice A21 ((gt b i3).recs).length c22) (hx23 (of_decide_eq_true hk16)).2 rfl Tryz.isAgg22 (gu hg49 rfl) rfl)) ?_
      obtain ⟨z51, hz52, h⟩ := bnd h
      refine wg0 rfl rfl rfl rfl rfl (fun hg50 => (q_call (call_run Tryz.call17 rfl rfl (args2 (gu hg50 rfl) (gu hg50 rfl))) (fun w hw => t_firthref06_SameRecs (Γ := Gh.all w) ((hx15 hl8).1.2.2.2.mono hw.sat.le_all) (hx15 hl8).1.2.2.1 ((hx23 (of_decide_eq_true hk16)).1.2.2.2.mono hw.sat.le_all) (hx23 (of_decide_eq_true hk16)).1.2.2.1 (Sat.all w) (gc_of hz52 hg50)))) ?_
      refine wg0 rfl rfl rfl rfl rfl (fun hg53 => QV.qo (q_not rfl (gu hg53 rfl))) ?_
      refine wa rfl rfl rfl (q_pick rfl rfl (pk_or' (g := ((!z24) || (!z37))) (y := (!z51)))) ?_
      refine WQ.nil ?_
      change WC _ _ _ _ _ _
      refine WC.cif h (by kernel_rfl) (fun hb54 h => ?_) (fun hb54 h => ?_)
      · skip
        refine WC.rs ?_
        refine va rfl rfl rfl (q_assign (v := .bool false) rfl (by kernel_rfl)) ?_
        refine WR.nil ?_
        change WC _ _ _ _ _ _
        refine WC.ret ?_
        intro w hw
        obtain rfl := Option.some.inj h
        subst hF
        exact ⟨by kernel_rfl, hw.fr⟩
      · skip
        refine WC.skip ?_
        change WC _ _ _ _ _ _
        refine WC.region ?_
        refine va rfl rfl rfl (q_move (v := .int .i64 ((i3 : Nat) : Int)) rfl (by kernel_rfl)) ?_
        refine va rfl rfl rfl (q_add_r (r := ((i3 + 1 : Nat) : Int)) rfl rfl rfl (ctr_len hl8 ha.le)) ?_
        refine va rfl rfl rfl (q_assign (v := .int .i64 ((i3 + 1 : Nat) : Int)) rfl (by kernel_rfl)) ?_
        refine WR.nil ?_
        intro w hw
        exact ⟨hl8, (), h, (sl_ (by kernel_rfl)), hw, trivial⟩
    · skip
      have h := hge6 (ige hb7)
      refine WC.exit ?_
      change WC _ _ _ _ _ _
      refine WC.rs ?_
      refine va rfl rfl rfl (q_assign (v := .bool true) rfl (by kernel_rfl)) ?_
      refine WR.nil ?_
      change WC _ _ _ _ _ _
      refine WC.ret ?_
      intro w hw
      obtain rfl := Option.some.inj h
      subst hF
      exact ⟨by kernel_rfl, hw.fr⟩
set_option maxRecDepth 100000 in
set_option maxHeartbeats 400000 in
theorem t_firthlaw14_MendAnswers {Γ : Gh} {w0 : World} {Aown : Option Addr} {cown : Nat} {own : List Rec} (hown : Sl recT Γ Aown own) (hownc : own.length ≤ cown) {Apath : Option Addr} {cpath : Nat} {path : List Int} (hpath : Sl intT Γ Apath path) (hpathc : path.length ≤ cpath) {Ahashes : Option Addr} {chashes : Nat} {hashes : List Int} (hhashes : Sl u64T Γ Ahashes hashes) (hhashesc : hashes.length ≤ chashes) (hs : Sat Γ w0) {r : Bool} (h : m_firthlaw14_MendAnswers own path hashes = some r) : Calls Tryz.prog 3 #[.slice Aown own.length cown, .slice Apath path.length cpath, .slice Ahashes hashes.length chashes] w0 (fun e w' => e = .returned (.bool r) ∧ Fr no w0 w') := by
  refine calls_of (N := 35) (rs := [6]) (args := [.slice Aown own.length cown, .slice Apath path.length cpath, .slice Ahashes hashes.length chashes]) Tryz.func3 rfl Tryz.ntmps3 Tryz.results3 rfl ?_
  obtain ⟨F, hF⟩ : ∃ F : Fm, F = ⟨no, w0, Γ⟩ := ⟨_, rfl⟩
  refine WC.here (C := CC F Γ []) ?_ (hF ▸ Cur.start0 hs)
  refine WC.rs ?_
  refine va rfl rfl rfl (q_assign (v := .bool false) rfl (by kernel_rfl)) ?_
  refine WR.nil ?_
  change WC _ _ _ _ _ _
  refine WC.seq ?_
  refine WC.rs ?_
  obtain ⟨z1, hz2, h⟩ := bnd h
  refine vc rfl rfl rfl (q_call (call_run Tryz.call9 rfl rfl (by kernel_rfl)) (fun w hw => t_firthlaw14_awake (Γ := Gh.all w)  (Sat.all w) hz2)) ?_
  refine va rfl rfl rfl (q_not rfl rfl) ?_
  refine WR.nil ?_
  change WC _ _ _ _ _ _
  refine WC.cif h (by kernel_rfl) (fun hb3 h => ?_) (fun hb3 h => ?_)
  · skip
    refine WC.rs ?_
    refine va rfl rfl rfl (q_assign (v := .bool false) rfl (by kernel_rfl)) ?_
    refine WR.nil ?_
    change WC _ _ _ _ _ _
    refine WC.ret ?_
    intro w hw
    obtain rfl := Option.some.inj h
    subst hF
    exact ⟨by kernel_rfl, hw.fr⟩
  · skip
    refine WC.skip ?_
    change WC _ _ _ _ _ _
    refine WC.rs ?_
    refine va rfl rfl rfl (q_move (v := .slice Aown own.length cown) rfl (by kernel_rfl)) ?_
    obtain ⟨z4, hz5, h⟩ := bnd h
    refine e_call (is := []) rfl rfl (call_run Tryz.call10 rfl rfl (by kernel_rfl)) rfl (fun w hp => t_firthref14_Held hown hownc hp hz5) ?_
    rintro Γ6 U8 v9 hl7 ⟨A10, c11, row12, rfl, rfl, hr13, _⟩
    change WR _ _ _ (CC F Γ6 [row12]) _ _ (upd _ 14 (.tuple #[.slice A10 z4.1.length c11, .bool z4.2]))
    refine va rfl rfl rfl (q_move (v := .tuple #[.slice A10 z4.1.length c11, .bool z4.2]) rfl (by kernel_rfl)) ?_
    refine va rfl rfl rfl (q_extract (v := .slice A10 z4.1.length c11) rfl rfl rfl) ?_
    refine va rfl rfl rfl (q_extract (v := .bool z4.2) rfl rfl rfl) ?_
    refine va rfl rfl rfl (q_assign (v := .slice A10 z4.1.length c11) rfl (by kernel_rfl)) ?_
    refine va rfl rfl rfl (q_assign (v := .bool z4.2) rfl (by kernel_rfl)) ?_
    refine WR.nil ?_
    change WC _ _ _ _ _ _
    refine WC.rs ?_
    refine va rfl rfl rfl (q_assign (v := .slice none 0 0) rfl (by kernel_rfl)) ?_
    refine WR.nil ?_
    change WC _ _ _ _ _ _
    refine WC.cut (fun σ w => ∃ (first_16 : List Int), ∃ (Γ14 : Gh), ∃ (A17 : Option Addr), ∃ (c18 : Nat), ∃ (row19 : Rowb), m_firthlaw14_MendAnswers_j1 own path hashes first_16 = some r ∧ slots σ [(0, .slice Aown own.length cown), (1, .slice Apath path.length cpath), (2, .slice Ahashes hashes.length chashes), (9, .slice A17 first_16.length c18)] ∧ CC F Γ14 [row19] w ∧ Gh.le Γ6 Γ14 ∧ Own u64T Γ14 67 row19 A17 c18 first_16 ∧ True) ?_ ?_
    · skip
      refine WC.rs ?_
      refine va rfl rfl rfl (q_move (v := .bool z4.2) rfl (by kernel_rfl)) ?_
      refine WR.nil ?_
      change WC _ _ _ _ _ _
      refine WC.cif h (by kernel_rfl) (fun hb21 h => ?_) (fun hb21 h => ?_)
      · skip
        refine WC.region ?_
        refine va rfl rfl rfl (q_move (v := .slice A10 z4.1.length c11) rfl (by kernel_rfl)) ?_
        have hc26 := hr13.capz
        intro w hw; obtain ⟨Γ22, hw, hl23, hr24⟩ := hw.seal (i := 0) rfl; have hs25 := hr13.sl hl23 hr24
        refine WR.here (C := CC F Γ22 [[]]) ?_ hw
        clear hw
        obtain ⟨z27, hz28, h⟩ := bnd h
        refine e_call (is := []) rfl rfl (call_run Tryz.call11 rfl rfl (by kernel_rfl)) rfl (fun w hp => t_firthref11_Kids hs25 hc26 (Sl.nil intT _ none) (Nat.zero_le 0) hp hz28) ?_
        rintro Γ29 U31 v32 hl30 ⟨A33, c34, row35, rfl, rfl, hr36, _⟩
        change WR _ _ _ (CC F Γ29 [row35, []]) _ _ (upd _ 19 (.slice A33 z27.length c34))
        refine va rfl rfl rfl (q_assign (v := .slice A33 z27.length c34) rfl (by kernel_rfl)) ?_
        refine WR.nil ?_
        intro w hw
        exact ⟨z27, Γ29, A33, c34, row35, h, (sl_ (by kernel_rfl)), (hw.only (is := [0]) rfl), (hl23.trans hl30), hr36, trivial⟩
      · skip
        refine WC.skip ?_
        intro w hw
        have hw := hw.pad
        exact ⟨[], Γ6, none, 0, [], h, (sl_ (by kernel_rfl)), (hw.only (is := [0]) rfl), (Gh.refl _), (Own.nil u64T _ 67), trivial⟩
    · skip
      rintro σ w ⟨first_16, Γ14, A17, c18, row19, h, hsl, hw, hl15, ho20, -⟩
      refine Wpt.slots hsl ?_
      refine WC.here (C := CC F Γ14 [row19]) ?_ hw
      clear hw hsl
      refine WC.rs ?_
      refine va rfl rfl rfl (q_move (v := .slice Aown own.length cown) rfl (by kernel_rfl)) ?_
      obtain ⟨z37, hz38, h⟩ := bnd h
      refine e_call (is := []) rfl rfl (call_run Tryz.call13 rfl rfl (by kernel_rfl)) rfl (fun w hp => t_mend_Open (hown.mono (hl7.trans hl15)) hownc hp hz38) ?_
      rintro Γ39 U41 v42 hl40 ⟨A43, c44, row45, rfl, rfl, hr46, _⟩
      change WR _ _ _ (CC F Γ39 [row45, row19]) _ _ (upd _ 21 (.slice A43 z37.length c44))
      refine va rfl rfl rfl (q_move (v := .slice A17 first_16.length c18) rfl (by kernel_rfl)) ?_
      obtain ⟨z47, hz48, h⟩ := bnd h
      refine vc rfl rfl rfl (q_call (call_run Tryz.call12 rfl rfl (by kernel_rfl)) (fun w hw => t_firthref06_Hashes (Γ := Gh.all w) (hr46.sl hw.sat.le_all (hw.ra 0 rfl)) hr46.capz ((ho20.mono hl40).sl hw.sat.le_all (hw.ra 1 rfl)) (ho20.mono hl40).capz (Sat.all w) hz48)) ?_
      refine va rfl rfl rfl (q_move (v := .bool z47) rfl (by kernel_rfl)) ?_
      refine vg1 rfl rfl rfl rfl rfl (fun hg49 => QV.qo (q_move (v := .slice Aown own.length cown) rfl (by kernel_rfl))) ?_
      refine vg1 rfl rfl rfl rfl rfl (fun hg50 => QV.qo (q_move (v := .slice Apath path.length cpath) rfl (by kernel_rfl))) ?_
      refine vg1 rfl rfl rfl rfl rfl (fun hg51 => QV.qo (q_move (v := .slice Ahashes hashes.length chashes) rfl (by kernel_rfl))) ?_
      refine (Bool.eq_false_or_eq_true z47).elim (fun hb52 => ?_) (fun hb52 => ?_)
      · skip
        have h := bt hb52 h
        refine WR.sat (c0 := true) (g := z47) rfl rfl rfl hb52 ?_
        obtain ⟨z53, hz54, h⟩ := bnd h
        refine e_call (is := []) rfl rfl (call_run Tryz.call15 rfl rfl (args3 (gu hb52 rfl) (gu hb52 rfl) (gu hb52 rfl))) rfl (fun w hp => t_mend_Answer (hown.mono ((hl7.trans hl15).trans hl40)) hownc (hpath.mono ((hl7.trans hl15).trans hl40)) hpathc (hhashes.mono ((hl7.trans hl15).trans hl40)) hhashesc hp hz54) ?_
        rintro Γ55 U57 v58 hl56 ⟨A59, c60, row61, rfl, rfl, hr62, _⟩
        change WR _ _ _ (CC F Γ55 [row61, row45, row19]) _ _ (upd _ 28 (.slice A59 z53.length c60))
        refine WR.sat (c0 := true) (g := z47) rfl rfl rfl hb52 ?_
        refine va rfl rfl rfl (q_move (v := .slice Aown own.length cown) rfl (by kernel_rfl)) ?_
        refine WR.sat (c0 := true) (g := z47) rfl rfl rfl hb52 ?_
        refine va rfl rfl rfl (q_move (v := .slice Apath path.length cpath) rfl (by kernel_rfl)) ?_
        refine WR.sat (c0 := true) (g := z47) rfl rfl rfl hb52 ?_
        refine va rfl rfl rfl (q_move (v := .slice Ahashes hashes.length chashes) rfl (by kernel_rfl)) ?_
        refine WR.sat (c0 := true) (g := z47) rfl rfl rfl hb52 ?_
        obtain ⟨z63, hz64, h⟩ := bnd h
        refine e_call (is := []) rfl rfl (call_run Tryz.call16 rfl rfl (by kernel_rfl)) rfl (fun w hp => t_firthref14_Answer (hown.mono (((hl7.trans hl15).trans hl40).trans hl56)) hownc (hpath.mono (((hl7.trans hl15).trans hl40).trans hl56)) hpathc (hhashes.mono (((hl7.trans hl15).trans hl40).trans hl56)) hhashesc hp hz64) ?_
        rintro Γ65 U67 v68 hl66 ⟨A69, c70, row71, rfl, rfl, hr72, _⟩
        change WR _ _ _ (CC F Γ65 [row71, row61, row45, row19]) _ _ (upd _ 32 (.slice A69 z63.length c70))
        refine WR.sat (c0 := true) (g := z47) rfl rfl rfl hb52 ?_
        obtain ⟨z73, hz74, h⟩ := bnd h
        refine vc rfl rfl rfl (q_call (call_run Tryz.call14 rfl rfl (by kernel_rfl)) (fun w hw => t_firthlaw14_steps (Γ := Gh.all w) ((hr62.mono hl66).sl hw.sat.le_all (hw.ra 1 rfl)) (hr62.mono hl66).capz (hr72.sl hw.sat.le_all (hw.ra 0 rfl)) hr72.capz (Sat.all w) hz74)) ?_
        refine va rfl rfl rfl (q_pick_t (v := .bool z73) rfl rfl hb52 (by kernel_rfl)) ?_
        refine va rfl rfl rfl (q_assign (v := .bool z73) rfl (by kernel_rfl)) ?_
        refine WR.nil ?_
        change WC _ _ _ _ _ _
        refine WC.ret ?_
        intro w hw
        obtain rfl := Option.some.inj h
        subst hF
        exact ⟨by kernel_rfl, hw.fr⟩
      · skip
        have h := bf hb52 h
        refine WR.unsat (c0 := true) (g := z47) rfl rfl rfl hb52 rfl ?_
        refine WR.unsat (c0 := true) (g := z47) rfl rfl rfl hb52 rfl ?_
        refine WR.unsat (c0 := true) (g := z47) rfl rfl rfl hb52 rfl ?_
        refine WR.unsat (c0 := true) (g := z47) rfl rfl rfl hb52 rfl ?_
        refine WR.unsat (c0 := true) (g := z47) rfl rfl rfl hb52 rfl ?_
        refine WR.unsat (c0 := true) (g := z47) rfl rfl rfl hb52 rfl ?_
        refine va rfl rfl rfl (q_pick_f (v := .bool false) rfl rfl hb52 (by kernel_rfl)) ?_
        refine va rfl rfl rfl (q_assign (v := .bool false) rfl (by kernel_rfl)) ?_
        refine WR.nil ?_
        change WC _ _ _ _ _ _
        refine WC.ret ?_
        intro w hw
        obtain rfl := Option.some.inj h
        subst hF
        exact ⟨by kernel_rfl, hw.fr⟩
end Fw
end Go.Proofs.YtbidmceookkapaaGreat
