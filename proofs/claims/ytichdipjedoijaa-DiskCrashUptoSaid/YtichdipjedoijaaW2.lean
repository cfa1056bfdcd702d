/- Walks through the functions that the law reaches (printed by a program). No condition. -/
import Derived.Test.YtichdipjedoijaaW1
namespace Go.Proofs.Ytichdipjedoijaa
namespace Fw
set_option linter.unusedVariables false
set_option linter.unusedSimpArgs false
set_option linter.unusedSectionVars false
open Go.RowKit
abbrev r_disk_Disk_Remove (gd ed : Nat) (r : Odisk_Disk × Int) (U : List Rowb) (Γ : Gh) (v : Value) : Prop := ∃ (rowd' : Rowb), v = .int .i64 r.2 ∧ U = [rowd'] ∧ Odisk_Disk.ob ed Γ gd rowd' r.1 ∧ I64 r.2 ∧ True
set_option maxRecDepth 100000 in
set_option maxHeartbeats 400000 in
theorem t_disk_Disk_Remove {Γ : Gh} {w0 : World} {gd ed : Nat} {rowd : Rowb} {d : Odisk_Disk} (hd : Odisk_Disk.ob ed Γ gd rowd d) (name : ByteArray) (hname : name.size ≤ lim) (hp : Pre [rowd] Γ w0) {r : Odisk_Disk × Int} (h : m_disk_Disk_Remove d name = some r) : Calls Try.prog 16 #[.pointer (some ⟨gd, 0, none⟩), .string name] w0 (Outc Γ [rowd] w0 (r_disk_Disk_Remove gd ed r)) := by
  refine calls_of (N := 16) (rs := [4]) (args := [.pointer (some ⟨gd, 0, none⟩), .string name]) Try.func16 rfl Try.ntmps16 Try.results16 rfl ?_
  obtain ⟨F, hF⟩ : ∃ F : Fm, F = ⟨ids [rowd], w0, Γ⟩ := ⟨_, rfl⟩
  refine WC.here (C := CC F Γ [rowd]) ?_ (hF ▸ hp.start)
  refine WC.rs ?_
  refine e_box (v := .string name) rfl rfl rfl rfl (by kernel_rfl) ?_
  intro g1
  refine va rfl rfl rfl (q_assign (v := .int .i64 0) rfl (by kernel_rfl)) ?_
  refine WR.nil ?_
  change WC _ _ _ _ _ _
  refine WC.seq ?_
  refine WC.rs ?_
  refine va rfl rfl rfl (q_move (v := .pointer (some ⟨gd, 0, none⟩)) rfl (by kernel_rfl)) ?_
  refine va rfl rfl rfl (q_ldl (i := 0) (v := .string name) rfl rfl Try.isAgg9 rfl rfl) ?_
  obtain ⟨z2, hz3, h⟩ := bnd h
  refine vc rfl rfl rfl (q_call (call_run Try.call31 rfl rfl (by kernel_rfl)) (fun w hw => t_disk_Disk_there (Γ := Gh.all w) (hd.mono hw.sat.le_all) (hw.ra 1 rfl) name hname (Sat.all w) hz3)) ?_
  refine va rfl rfl rfl (q_assign (v := .int .i64 z2) rfl (by kernel_rfl)) ?_
  refine WR.nil ?_
  change WC _ _ _ _ _ _
  refine WC.rs ?_
  refine va rfl rfl rfl (q_move (v := .int .i64 z2) rfl (by kernel_rfl)) ?_
  refine va rfl rfl rfl (q_neq rfl rfl rfl) ?_
  refine WR.nil ?_
  change WC _ _ _ _ _ _
  refine WC.cif h (by kernel_rfl) (fun hb4 h => ?_) (fun hb4 h => ?_)
  · skip
    refine WC.rs ?_
    refine va rfl rfl rfl (q_move (v := .int .i64 z2) rfl (by kernel_rfl)) ?_
    refine va rfl rfl rfl (q_assign (v := .int .i64 z2) rfl (by kernel_rfl)) ?_
    refine WR.nil ?_
    change WC _ _ _ _ _ _
    refine WC.ret ?_
    intro w hw
    obtain ⟨hk5, h⟩ := chk_some h
    obtain rfl := Option.some.inj h
    subst hF
    exact end_e (is := [1]) (by kernel_rfl) hw rfl ⟨rowd, rfl, rfl, hd, (i64b_of hk5), trivial⟩
  · skip
    refine WC.skip ?_
    change WC _ _ _ _ _ _
    refine WC.rs ?_
    refine va rfl rfl rfl (q_move (v := .pointer (some ⟨gd, 0, none⟩)) rfl (by kernel_rfl)) ?_
    refine va rfl rfl rfl (q_mkfn (v := .func (.func 35) #[] #[.pointer (some ⟨g1, 0, none⟩)]) rfl (by kernel_rfl)) ?_
    refine va rfl rfl rfl (q_build' (v := .agg #[.func (.func 35) #[] #[.pointer (some ⟨g1, 0, none⟩)], .string ByteArray.empty, .slice none 0 0]) rfl (bargs1 rfl) (fun w => by kernel_rfl)) ?_
    intro w hw; obtain ⟨Γ6, hw, hl7, hr8⟩ := hw.seal (i := 0) rfl
    have hg9 := hr8 _ (List.mem_singleton.2 rfl)
    refine WR.here (C := CC F Γ6 [[], rowd]) ?_ hw
    clear hw
    have hf10 : Cdisk_change_do.ok Γ6 none g1 (Cdisk_change_do.disk_Disk_Remove_1 name) := ⟨⟨hg9, hname⟩, trivial⟩
    obtain ⟨z11, hz12, h⟩ := bnd h
    refine e_call (is := [1]) rfl rfl (call_run Try.call28 rfl rfl (by kernel_rfl)) rfl (fun w hp => t_disk_Disk_done (hd.mono hl7) (Ac_2 := none) (cc_2 := 0) (⟨(Cdisk_change_do.disk_Disk_Remove_1 name), ByteArray.empty, []⟩ : Ddisk_change) ⟨hf10, (show (ByteArray.empty : ByteArray).size ≤ lim by decide), ⟨Nat.zero_le _, Sl.nil _ _ _⟩⟩ hp hz12) ?_
    rintro Γ13 U15 v16 hl14 ⟨row17, rfl, rfl, hr18, hr19, _⟩
    change WR _ _ _ (CC F Γ13 [row17, []]) _ _ (upd _ 15 (.int .i64 z11.2))
    refine va rfl rfl rfl (q_assign (v := .int .i64 z11.2) rfl (by kernel_rfl)) ?_
    refine WR.nil ?_
    change WC _ _ _ _ _ _
    refine WC.ret ?_
    intro w hw
    obtain rfl := Option.some.inj h
    subst hF
    exact end_e (is := [0]) (by kernel_rfl) hw rfl ⟨row17, rfl, rfl, hr18, hr19, trivial⟩
abbrev r_firthref07_Disk_Remove (gd ed : Nat) (r : Ofirthref07_Disk × Int) (U : List Rowb) (Γ : Gh) (v : Value) : Prop := ∃ (rowd' : Rowb), v = .int .i64 r.2 ∧ U = [rowd'] ∧ Ofirthref07_Disk.ob ed Γ gd rowd' r.1 ∧ I64 r.2 ∧ True
set_option maxRecDepth 100000 in
set_option maxHeartbeats 400000 in
theorem t_firthref07_Disk_Remove {Γ : Gh} {w0 : World} {gd ed : Nat} {rowd : Rowb} {d : Ofirthref07_Disk} (hd : Ofirthref07_Disk.ob ed Γ gd rowd d) (name : ByteArray) (hname : name.size ≤ lim) (hp : Pre [rowd] Γ w0) {r : Ofirthref07_Disk × Int} (h : m_firthref07_Disk_Remove d name = some r) : Calls Try.prog 40 #[.pointer (some ⟨gd, 0, none⟩), .string name] w0 (Outc Γ [rowd] w0 (r_firthref07_Disk_Remove gd ed r)) := by
  refine calls_of (N := 9) (rs := [4]) (args := [.pointer (some ⟨gd, 0, none⟩), .string name]) Try.func40 rfl Try.ntmps40 Try.results40 rfl ?_
  obtain ⟨F, hF⟩ : ∃ F : Fm, F = ⟨ids [rowd], w0, Γ⟩ := ⟨_, rfl⟩
  refine WC.here (C := CC F Γ [rowd]) ?_ (hF ▸ hp.start)
  refine WC.rs ?_
  refine va rfl rfl rfl (q_assign (v := .int .i64 0) rfl (by kernel_rfl)) ?_
  refine WR.nil ?_
  change WC _ _ _ _ _ _
  refine WC.rs ?_
  refine va rfl rfl rfl (q_move (v := .pointer (some ⟨gd, 0, none⟩)) rfl (by kernel_rfl)) ?_
  refine va rfl rfl rfl (q_move (v := .string name) rfl (by kernel_rfl)) ?_
  refine va rfl rfl rfl (q_build' (v := .agg #[.int .i64 4, .string name, .string ByteArray.empty, .slice none 0 0, .int .i64 0]) rfl (bargs2 rfl rfl) (fun w => by kernel_rfl)) ?_
  obtain ⟨z1, hz2, h⟩ := bnd h
  refine e_call (is := [0]) rfl rfl (call_run Try.call52 rfl rfl (by kernel_rfl)) rfl (fun w hp => t_firthref07_Disk_Do hd (Ac_3 := none) (cc_3 := 0) (⟨4, name, ByteArray.empty, [], 0⟩ : Dfirthref07_Change) ⟨(show I64 4 by decide), hname, (show (ByteArray.empty : ByteArray).size ≤ lim by decide), ⟨Nat.zero_le _, Sl.nil _ _ _⟩, (show I64 0 by decide)⟩ hp hz2) ?_
  rintro Γ3 U5 v6 hl4 ⟨row7, rfl, rfl, hr8, hr9, _⟩
  change WR _ _ _ (CC F Γ3 [row7]) _ _ (upd _ 8 (.int .i64 z1.2))
  refine va rfl rfl rfl (q_assign (v := .int .i64 z1.2) rfl (by kernel_rfl)) ?_
  refine WR.nil ?_
  change WC _ _ _ _ _ _
  refine WC.ret ?_
  intro w hw
  obtain rfl := Option.some.inj h
  subst hF
  exact end_e (is := [0]) (by kernel_rfl) hw rfl ⟨row7, rfl, rfl, hr8, hr9, trivial⟩
abbrev r_firthref07_Disk_Sync (gd ed : Nat) (r : Ofirthref07_Disk) (U : List Rowb) (Γ : Gh) (v : Value) : Prop := ∃ (rowd' : Rowb), v = .tuple #[] ∧ U = [rowd'] ∧ Ofirthref07_Disk.ob ed Γ gd rowd' r ∧ True
set_option maxRecDepth 100000 in
set_option maxHeartbeats 400000 in
theorem t_firthref07_Disk_Sync {Γ : Gh} {w0 : World} {gd ed : Nat} {rowd : Rowb} {d : Ofirthref07_Disk} (hd : Ofirthref07_Disk.ob ed Γ gd rowd d) (hp : Pre [rowd] Γ w0) {r : Ofirthref07_Disk} (h : m_firthref07_Disk_Sync d = some r) : Calls Try.prog 41 #[.pointer (some ⟨gd, 0, none⟩)] w0 (Outc Γ [rowd] w0 (r_firthref07_Disk_Sync gd ed r)) := by
  refine calls_of (N := 10) (rs := []) (args := [.pointer (some ⟨gd, 0, none⟩)]) Try.func41 rfl Try.ntmps41 Try.results41 rfl ?_
  obtain ⟨F, hF⟩ : ∃ F : Fm, F = ⟨ids [rowd], w0, Γ⟩ := ⟨_, rfl⟩
  refine WC.here (C := CC F Γ [rowd]) ?_ (hF ▸ hp.start)
  refine WC.rs ?_
  refine va rfl rfl rfl (q_move (v := .pointer (some ⟨gd, 0, none⟩)) rfl (by kernel_rfl)) ?_
  refine va rfl rfl rfl (q_move (v := .pointer (some ⟨gd, 0, none⟩)) rfl (by kernel_rfl)) ?_
  obtain ⟨z1, hz2, h⟩ := bnd h
  refine e_call (is := [0]) rfl rfl (call_run Try.call24 rfl rfl (by kernel_rfl)) rfl (fun w hp => t_firthref07_Disk_Files hd hp hz2) ?_
  rintro Γ3 U5 v6 hl4 ⟨A7, c8, rfl, rfl, hc10, hr9, _⟩
  change WR _ _ _ (CC F Γ3 [rowd]) _ _ (upd _ 4 (.slice A7 z1.length c8))
  refine va rfl rfl rfl (q_nil (A := some ⟨gd, 0, none⟩) rfl rfl rfl) ?_
  refine va rfl rfl rfl (q_fl 1 fld_47_1 rfl rfl rfl) ?_
  have hq := (hd.mono hl4)
  obtain ⟨A1_11, c1_11, A2_11, c2_11, r2_11, hrow_11, ho0_11, ho1_11, ho2_11, ho3_11, -⟩ := hq
  intro w hw; have hw := hw.unfold (i := 0) rfl hrow_11
  refine WR.here (C := CC F Γ3 [[(gd, .cells #[.int .i64 d.room, .slice A1_11 d.safe_.length c1_11, .slice A2_11 d.todo.length c2_11] ed (0, 0))], r2_11]) ?_ hw
  clear hw
  refine e_st (i := 0) (v := .slice A7 z1.length c8) (new := #[.int .i64 d.room, .slice A7 z1.length c8, .slice A2_11 d.todo.length c2_11]) rfl Try.sizeOf44 rfl rfl rfl rfl (by kernel_rfl) rfl rfl rfl rfl ?_
  refine WR.nil ?_
  change WC _ _ _ _ _ _
  refine WC.region ?_
  refine va rfl rfl rfl (q_move (v := .pointer (some ⟨gd, 0, none⟩)) rfl (by kernel_rfl)) ?_
  refine va rfl rfl rfl (q_nil (A := some ⟨gd, 0, none⟩) rfl rfl rfl) ?_
  refine va rfl rfl rfl (q_fl 2 fld_47_2 rfl rfl rfl) ?_
  refine e_st (i := 0) (v := .slice none 0 0) (new := #[.int .i64 d.room, .slice A7 z1.length c8, .slice none 0 0]) rfl Try.sizeOf45 rfl rfl rfl rfl (by kernel_rfl) rfl rfl rfl rfl ?_
  refine WR.nil ?_
  intro w hw
  have hw := hw.pad
  obtain ⟨row_12, hrow_12, hob_12⟩ : ∃ rw : Rowb, rw = ([[(gd, .cells #[.int .i64 d.room, .slice A7 z1.length c8, .slice none 0 0] ed (0, 0))], []] : List Rowb).flatten ∧ Ofirthref07_Disk.ob ed Γ3 gd rw (⟨d.room, z1, []⟩ : Ofirthref07_Disk) := ⟨_, rfl, A7, c8, none, 0, [], rfl, ho0_11, hc10, hr9, (Own.nil dfirthref07_ChangeT Γ3 83), trivial⟩
  have hw := hw.fold (is := [1, 0]) rfl hrow_12
  obtain rfl := Option.some.inj h
  subst hF
  exact end_e (is := [0]) (by kernel_rfl) hw rfl ⟨row_12, rfl, rfl, hob_12, trivial⟩
abbrev r_firthref07_Disk_Crash (gd ed : Nat) (r : Ofirthref07_Disk) (U : List Rowb) (Γ : Gh) (v : Value) : Prop := ∃ (rowd' : Rowb), v = .tuple #[] ∧ U = [rowd'] ∧ Ofirthref07_Disk.ob ed Γ gd rowd' r ∧ True
set_option maxRecDepth 100000 in
set_option maxHeartbeats 400000 in
theorem t_firthref07_Disk_Crash {Γ : Gh} {w0 : World} {gd ed : Nat} {rowd : Rowb} {d : Ofirthref07_Disk} (hd : Ofirthref07_Disk.ob ed Γ gd rowd d) (keep : Int) (hkeep : I64 keep) (torn : Int) (htorn : I64 torn) (hp : Pre [rowd] Γ w0) {r : Ofirthref07_Disk} (h : m_firthref07_Disk_Crash d keep torn = some r) : Calls Try.prog 42 #[.pointer (some ⟨gd, 0, none⟩), .int .i64 keep, .int .i64 torn] w0 (Outc Γ [rowd] w0 (r_firthref07_Disk_Crash gd ed r)) := by
  refine calls_of (N := 81) (rs := []) (args := [.pointer (some ⟨gd, 0, none⟩), .int .i64 keep, .int .i64 torn]) Try.func42 rfl Try.ntmps42 Try.results42 rfl ?_
  obtain ⟨F, hF⟩ : ∃ F : Fm, F = ⟨ids [rowd], w0, Γ⟩ := ⟨_, rfl⟩
  refine WC.here (C := CC F Γ [rowd]) ?_ (hF ▸ hp.start)
  refine WC.rs ?_
  refine va rfl rfl rfl (q_move (v := .pointer (some ⟨gd, 0, none⟩)) rfl (by kernel_rfl)) ?_
  refine va rfl rfl rfl (q_nil (A := some ⟨gd, 0, none⟩) rfl rfl rfl) ?_
  refine va rfl rfl rfl (q_fl 1 fld_47_1 rfl rfl rfl) ?_
  have hq := hd
  obtain ⟨A1_1, c1_1, A2_1, c2_1, r2_1, hrow_1, ho0_1, ho1_1, ho2_1, ho3_1, -⟩ := hq
  intro w hw; have hw := hw.unfold (i := 0) rfl hrow_1
  refine WR.here (C := CC F Γ [[(gd, .cells #[.int .i64 d.room, .slice A1_1 d.safe_.length c1_1, .slice A2_1 d.todo.length c2_1] ed (0, 0))], r2_1]) ?_ hw
  clear hw
  refine va rfl rfl rfl (q_ldl (i := 0) (v := .slice A1_1 d.safe_.length c1_1) rfl rfl Try.isAgg44 rfl rfl) ?_
  refine va rfl rfl rfl (q_assign (v := .slice A1_1 d.safe_.length c1_1) rfl (by kernel_rfl)) ?_
  refine WR.nil ?_
  change WC _ _ _ _ _ _
  refine WC.seq ?_
  refine WC.rs ?_
  refine va rfl rfl rfl (q_assign (v := .int .i64 0) rfl (by kernel_rfl)) ?_
  refine WR.nil ?_
  change WC _ _ _ _ _ _
  refine WC.block ?_
  intro w hw; have hw := hw.fold (is := [0, 0]) rfl hrow_1
  refine WC.here (C := CC F Γ [rowd]) ?_ hw
  clear hw
  refine WC.forI h (fun (i11 : Nat) (l_5 : List Dfirthref07_File) σ w => ∃ (Γ3 : Gh), ∃ (A6 : Option Addr), ∃ (c7 : Nat), slots σ [(0, .pointer (some ⟨gd, 0, none⟩)), (1, .int .i64 keep), (2, .int .i64 torn), (6, .slice A6 l_5.length c7), (7, .int .i64 ((i11 : Nat) : Int))] ∧ CC F Γ3 [rowd] w ∧ Gh.le Γ Γ3 ∧ l_5.length ≤ c7 ∧ Sl dfirthref07_FileT Γ3 A6 l_5 ∧ True) ?_ ?_
  · skip
    intro w hw
    exact ⟨Γ, A1_1, c1_1, (sl_ (by kernel_rfl)), hw, (Gh.refl _), ho1_1, ho2_1, trivial⟩
  rintro f10 i11 l_5 σ w hi12 hlt13 hge14 ⟨Γ3, A6, c7, hsl, hw, hl4, hc9, hs8, -⟩
  refine Wpt.slots hsl ?_
  refine WC.here (C := CC F Γ3 [rowd]) ?_ hw
  clear hw hsl
  refine WC.seq ?_
  refine WC.rs ?_
  refine va rfl rfl rfl (q_move (v := .int .i64 ((i11 : Nat) : Int)) rfl (by kernel_rfl)) ?_
  refine va rfl rfl rfl (q_move (v := .pointer (some ⟨gd, 0, none⟩)) rfl (by kernel_rfl)) ?_
  refine va rfl rfl rfl (q_nil (A := some ⟨gd, 0, none⟩) rfl rfl rfl) ?_
  refine va rfl rfl rfl (q_fl 2 fld_47_2 rfl rfl rfl) ?_
  have hq := (hd.mono hl4)
  obtain ⟨A1_15, c1_15, A2_15, c2_15, r2_15, hrow_15, ho0_15, ho1_15, ho2_15, ho3_15, -⟩ := hq
  intro w hw; have hw := hw.unfold (i := 0) rfl hrow_15
  refine WR.here (C := CC F Γ3 [[(gd, .cells #[.int .i64 d.room, .slice A1_15 d.safe_.length c1_15, .slice A2_15 d.todo.length c2_15] ed (0, 0))], r2_15]) ?_ hw
  clear hw
  refine va rfl rfl rfl (q_ldl (i := 0) (v := .slice A2_15 d.todo.length c2_15) rfl rfl Try.isAgg45 rfl rfl) ?_
  refine va rfl rfl rfl (q_len_slice rfl Try.underlying45 rfl) ?_
  refine va rfl rfl rfl (q_lss rfl rfl rfl) ?_
  refine WR.nil ?_
  change WC _ _ _ _ _ _
  refine WC.cond (b := (decide (((i11 : Nat) : Int) < ((d.todo.length : Nat) : Int)))) (by kernel_rfl) (fun hb16 => ?_) (fun hb16 => ?_)
  · skip
    have hl17 := ilt hb16
    have h := hlt13 hl17
    refine WC.skip ?_
    change WC _ _ _ _ _ _
    intro w hw; have hw := hw.fold (is := [0, 0]) rfl hrow_15
    refine WC.here (C := CC F Γ3 [rowd]) ?_ hw
    clear hw
    refine WC.cut (fun σ w => ∃ (l_21 : List Dfirthref07_File), ∃ (Γ19 : Gh), ∃ (A22 : Option Addr), ∃ (c23 : Nat), m_firthref07_Disk_Crash_j17 f10 l_21 = some r ∧ slots σ [(0, .pointer (some ⟨gd, 0, none⟩)), (1, .int .i64 keep), (2, .int .i64 torn), (6, .slice A22 l_21.length c23), (7, .int .i64 ((i11 : Nat) : Int))] ∧ CC F Γ19 [rowd] w ∧ Gh.le Γ3 Γ19 ∧ l_21.length ≤ c23 ∧ Sl dfirthref07_FileT Γ19 A22 l_21 ∧ True) ?_ ?_
    · skip
      refine WC.block ?_
      refine WC.rs ?_
      refine va rfl rfl rfl (q_move (v := .pointer (some ⟨gd, 0, none⟩)) rfl (by kernel_rfl)) ?_
      refine va rfl rfl rfl (q_nil (A := some ⟨gd, 0, none⟩) rfl rfl rfl) ?_
      refine va rfl rfl rfl (q_fl 2 fld_47_2 rfl rfl rfl) ?_
      have hq := (hd.mono hl4)
      obtain ⟨A1_26, c1_26, A2_26, c2_26, r2_26, hrow_26, ho0_26, ho1_26, ho2_26, ho3_26, -⟩ := hq
      intro w hw; have hw := hw.unfold (i := 0) rfl hrow_26
      refine WR.here (C := CC F Γ3 [[(gd, .cells #[.int .i64 d.room, .slice A1_26 d.safe_.length c1_26, .slice A2_26 d.todo.length c2_26] ed (0, 0))], r2_26]) ?_ hw
      clear hw
      refine va rfl rfl rfl (q_ldl (i := 0) (v := .slice A2_26 d.todo.length c2_26) rfl rfl Try.isAgg45 rfl rfl) ?_
      refine va rfl rfl rfl (q_move (v := .int .i64 ((i11 : Nat) : Int)) rfl (by kernel_rfl)) ?_
      refine va rfl rfl rfl (q_ixn (i := i11) Try.underlying45 Try.sizeOf83 rfl rfl rfl hl17 (ho3_26.some_ hl17)) ?_
      obtain ⟨A27, c28, hx29⟩ := ho3_26.dfirthref07_ChangeT_at i11
      refine va rfl rfl rfl (q_ldoa (c := 0) (vs := [.int .i64 (gt d.todo i11).kind, .string (gt d.todo i11).name, .string (gt d.todo i11).to_, .slice A27 ((gt d.todo i11).data).length c28, .int .i64 (gt d.todo i11).n]) (i := 1) rfl (hx29 hl17).2 rfl Try.isAgg83 Try.sizeOf83 rfl rfl) ?_
      refine e_alloc Try.zeroValue83 rfl rfl rfl rfl ?_
      intro g30
      refine e_st (i := 0) (v := .agg #[.int .i64 (gt d.todo i11).kind, .string (gt d.todo i11).name, .string (gt d.todo i11).to_, .slice A27 ((gt d.todo i11).data).length c28, .int .i64 (gt d.todo i11).n]) (new := #[.int .i64 (gt d.todo i11).kind, .string (gt d.todo i11).name, .string (gt d.todo i11).to_, .slice A27 ((gt d.todo i11).data).length c28, .int .i64 (gt d.todo i11).n]) rfl Try.sizeOf83 rfl rfl rfl rfl (by kernel_rfl) rfl rfl rfl rfl ?_
      refine WR.nil ?_
      change WC _ _ _ _ _ _
      intro w hw; have hw := hw.fold (is := [1, 1]) rfl hrow_26
      refine WC.here (C := CC F Γ3 [rowd, [(g30, .cells #[.int .i64 (gt d.todo i11).kind, .string (gt d.todo i11).name, .string (gt d.todo i11).to_, .slice A27 ((gt d.todo i11).data).length c28, .int .i64 (gt d.todo i11).n] 83 (0, 0))]]) ?_ hw
      clear hw
      refine WC.cut (fun σ w => ∃ (l_34 : List Dfirthref07_File), ∃ (Γ32 : Gh), ∃ (A35 : Option Addr), ∃ (c36 : Nat), m_firthref07_Disk_Crash_j20 d keep torn f10 i11 l_34 = some r ∧ slots σ [(0, .pointer (some ⟨gd, 0, none⟩)), (1, .int .i64 keep), (2, .int .i64 torn), (6, .slice A35 l_34.length c36), (7, .int .i64 ((i11 : Nat) : Int)), (8, .pointer (some ⟨g30, 0, none⟩))] ∧ CC F Γ32 [rowd, [(g30, .cells #[.int .i64 (gt d.todo i11).kind, .string (gt d.todo i11).name, .string (gt d.todo i11).to_, .slice A27 ((gt d.todo i11).data).length c28, .int .i64 (gt d.todo i11).n] 83 (0, 0))]] w ∧ Gh.le Γ3 Γ32 ∧ l_34.length ≤ c36 ∧ Sl dfirthref07_FileT Γ32 A35 l_34 ∧ True) ?_ ?_
      · skip
        refine WC.rs ?_
        refine va rfl rfl rfl (q_move (v := .int .i64 ((i11 : Nat) : Int)) rfl (by kernel_rfl)) ?_
        refine va rfl rfl rfl (q_move (v := .int .i64 keep) rfl (by kernel_rfl)) ?_
        refine va rfl rfl rfl (q_lss rfl rfl rfl) ?_
        refine WR.nil ?_
        change WC _ _ _ _ _ _
        refine WC.cif h (by kernel_rfl) (fun hb39 h => ?_) (fun hb39 h => ?_)
        · skip
          refine WC.region ?_
          refine va rfl rfl rfl (q_move (v := .slice A6 l_5.length c7) rfl (by kernel_rfl)) ?_
          refine va rfl rfl rfl (q_ldla (i := 1) (vs := [.int .i64 (gt d.todo i11).kind, .string (gt d.todo i11).name, .string (gt d.todo i11).to_, .slice A27 ((gt d.todo i11).data).length c28, .int .i64 (gt d.todo i11).n]) rfl rfl Try.isAgg83 Try.sizeOf83 rfl rfl) ?_
          obtain ⟨z40, hz41, h⟩ := bnd h
          refine e_call (is := []) rfl rfl (call_run Try.call45 rfl rfl (by kernel_rfl)) rfl (fun w hp => t_firthref07_did hs8 hc9 (gt d.todo i11) (hx29 hl17).1 hp hz41) ?_
          rintro Γ42 U44 v45 hl43 ⟨A46, c47, row48, rfl, rfl, hr49, _⟩
          change WR _ _ _ (CC F Γ42 [row48, rowd, [(g30, .cells #[.int .i64 (gt d.todo i11).kind, .string (gt d.todo i11).name, .string (gt d.todo i11).to_, .slice A27 ((gt d.todo i11).data).length c28, .int .i64 (gt d.todo i11).n] 83 (0, 0))]]) _ _ (upd _ 34 (.slice A46 z40.length c47))
          refine va rfl rfl rfl (q_assign (v := .slice A46 z40.length c47) rfl (by kernel_rfl)) ?_
          refine WR.nil ?_
          intro w hw
          have hc54 := hr49.capz
          obtain ⟨Γ50, hw, hl51, hr52⟩ := hw.seal (i := 0) rfl; have hs53 := hr49.sl hl51 hr52
          exact ⟨z40, Γ50, A46, c47, h, (sl_ (by kernel_rfl)), (hw.only (is := [1, 1]) rfl), (hl43.trans hl51), hc54, hs53, trivial⟩
        · skip
          refine WC.skip ?_
          intro w hw
          exact ⟨l_5, Γ3, A6, c7, h, (sl_ (by kernel_rfl)), hw, (Gh.refl _), hc9, hs8, trivial⟩
      · skip
        rintro σ w ⟨l_34, Γ32, A35, c36, h, hsl, hw, hl33, hc38, hs37, -⟩
        refine Wpt.slots hsl ?_
        refine WC.here (C := CC F Γ32 [rowd, [(g30, .cells #[.int .i64 (gt d.todo i11).kind, .string (gt d.todo i11).name, .string (gt d.todo i11).to_, .slice A27 ((gt d.todo i11).data).length c28, .int .i64 (gt d.todo i11).n] 83 (0, 0))]]) ?_ hw
        clear hw hsl
        refine WC.rs ?_
        refine va rfl rfl rfl (q_move (v := .int .i64 ((i11 : Nat) : Int)) rfl (by kernel_rfl)) ?_
        refine va rfl rfl rfl (q_move (v := .int .i64 keep) rfl (by kernel_rfl)) ?_
        refine va rfl rfl rfl (q_eql rfl rfl rfl) ?_
        refine va rfl rfl rfl (q_move (v := .bool (((i11 : Nat) : Int) == keep)) rfl (by kernel_rfl)) ?_
        refine vg0 rfl rfl rfl rfl rfl (fun hg55 => QV.qo (q_move (v := .int .i64 ((i11 : Nat) : Int)) rfl (by kernel_rfl))) ?_
        refine vg0 rfl rfl rfl rfl rfl (fun hg56 => QV.qo (q_eql rfl (gu hg56 rfl) rfl)) ?_
        refine vg0 rfl rfl rfl rfl rfl (fun hg57 => QV.qo (q_move (v := .bool (((i11 : Nat) : Int) == 0)) rfl (gu hg57 rfl))) ?_
        refine vh1 (c0 := (!(((i11 : Nat) : Int) == keep))) (g := (((i11 : Nat) : Int) == 0)) rfl rfl rfl rfl rfl (fun hg58 => QV.qo (q_move (v := .int .i64 keep) rfl (by kernel_rfl))) ?_
        refine vh1 (c0 := (!(((i11 : Nat) : Int) == keep))) (g := (((i11 : Nat) : Int) == 0)) rfl rfl rfl rfl rfl (fun hg59 => QV.qo (q_lss rfl (gu hg59 rfl) rfl)) ?_
        refine vg0 rfl rfl rfl rfl rfl (fun hg60 => QV.qo (q_pick rfl (gu hg60 rfl) (pk_and (c := (!(((i11 : Nat) : Int) == keep))) (g := (((i11 : Nat) : Int) == 0)) (y := (decide (keep < 0))) hg60))) ?_
        refine va rfl rfl rfl (q_pick rfl rfl (pk_or' (g := (((i11 : Nat) : Int) == keep)) (y := ((((i11 : Nat) : Int) == 0) && (decide (keep < 0)))))) ?_
        refine va rfl rfl rfl (q_move (v := .bool ((((i11 : Nat) : Int) == keep) || ((((i11 : Nat) : Int) == 0) && (decide (keep < 0))))) rfl (by kernel_rfl)) ?_
        refine vg1 rfl rfl rfl rfl rfl (fun hg61 => QV.qo (q_fl 0 fld_83_0 rfl rfl rfl)) ?_
        refine vg1 rfl rfl rfl rfl rfl (fun hg62 => QV.qo (q_ldl (i := 1) (v := .int .i64 (gt d.todo i11).kind) rfl rfl Try.isAgg3 (gu hg62 rfl) rfl)) ?_
        refine vg1 rfl rfl rfl rfl rfl (fun hg63 => QV.qo (q_eql rfl (gu hg63 rfl) rfl)) ?_
        refine va rfl rfl rfl (q_pick rfl rfl (pk_and' (g := ((((i11 : Nat) : Int) == keep) || ((((i11 : Nat) : Int) == 0) && (decide (keep < 0))))) (y := ((gt d.todo i11).kind == 1)))) ?_
        refine va rfl rfl rfl (q_move (v := .bool (((((i11 : Nat) : Int) == keep) || ((((i11 : Nat) : Int) == 0) && (decide (keep < 0)))) && ((gt d.todo i11).kind == 1))) rfl (by kernel_rfl)) ?_
        refine vg1 rfl rfl rfl rfl rfl (fun hg64 => QV.qo (q_move (v := .int .i64 torn) rfl (by kernel_rfl))) ?_
        refine vg1 rfl rfl rfl rfl rfl (fun hg65 => QV.qo (q_gtr rfl (gu hg65 rfl) rfl)) ?_
        refine va rfl rfl rfl (q_pick rfl rfl (pk_and' (g := (((((i11 : Nat) : Int) == keep) || ((((i11 : Nat) : Int) == 0) && (decide (keep < 0)))) && ((gt d.todo i11).kind == 1))) (y := (decide (0 < torn))))) ?_
        refine va rfl rfl rfl (q_move (v := .bool ((((((i11 : Nat) : Int) == keep) || ((((i11 : Nat) : Int) == 0) && (decide (keep < 0)))) && ((gt d.todo i11).kind == 1)) && (decide (0 < torn)))) rfl (by kernel_rfl)) ?_
        refine vg1 rfl rfl rfl rfl rfl (fun hg66 => QV.qo (q_fl 3 fld_83_3 rfl rfl rfl)) ?_
        refine vg1 rfl rfl rfl rfl rfl (fun hg67 => QV.qo (q_ldl (i := 1) (v := .slice A27 ((gt d.todo i11).data).length c28) rfl rfl Try.isAgg22 (gu hg67 rfl) rfl)) ?_
        refine vg1 rfl rfl rfl rfl rfl (fun hg68 => QV.qo (q_len_slice rfl Try.underlying22 (gu hg68 rfl))) ?_
        refine vg1 rfl rfl rfl rfl rfl (fun hg69 => QV.qo (q_gtr rfl (gu hg69 rfl) rfl)) ?_
        refine va rfl rfl rfl (q_pick rfl rfl (pk_and' (g := ((((((i11 : Nat) : Int) == keep) || ((((i11 : Nat) : Int) == 0) && (decide (keep < 0)))) && ((gt d.todo i11).kind == 1)) && (decide (0 < torn)))) (y := (decide (0 < ((((gt d.todo i11).data).length : Nat) : Int)))))) ?_
        refine WR.nil ?_
        change WC _ _ _ _ _ _
        refine WC.cif h (by kernel_rfl) (fun hb70 h => ?_) (fun hb70 h => ?_)
        · skip
          refine WC.cut (fun σ w => ∃ (x71 : Dfirthref07_Change), ∃ (A73 : Option Addr), ∃ (c74 : Nat), m_firthref07_Disk_Crash_j21 f10 l_34 x71 = some r ∧ slots σ [(0, .pointer (some ⟨gd, 0, none⟩)), (1, .int .i64 keep), (2, .int .i64 torn), (6, .slice A35 l_34.length c36), (7, .int .i64 ((i11 : Nat) : Int)), (8, .pointer (some ⟨g30, 0, none⟩))] ∧ CC F Γ32 [rowd, [(g30, .cells #[.int .i64 x71.kind, .string x71.name, .string x71.to_, .slice A73 x71.data.length c74, .int .i64 x71.n] 83 (0, 0))]] w ∧ Dfirthref07_Change.fits Γ32 A73 c74 x71 ∧ True) ?_ ?_
          · skip
            refine WC.rs ?_
            refine va rfl rfl rfl (q_move (v := .int .i64 torn) rfl (by kernel_rfl)) ?_
            refine va rfl rfl rfl (q_fl 3 fld_83_3 rfl rfl rfl) ?_
            refine va rfl rfl rfl (q_ldl (i := 1) (v := .slice A27 ((gt d.todo i11).data).length c28) rfl rfl Try.isAgg22 rfl rfl) ?_
            refine va rfl rfl rfl (q_len_slice rfl Try.underlying22 rfl) ?_
            refine va rfl rfl rfl (q_lss rfl rfl rfl) ?_
            refine WR.nil ?_
            change WC _ _ _ _ _ _
            refine WC.cif h (by kernel_rfl) (fun hb75 h => ?_) (fun hb75 h => ?_)
            · skip
              refine WC.region ?_
              refine va rfl rfl rfl (q_fl 3 fld_83_3 rfl rfl rfl) ?_
              refine va rfl rfl rfl (q_ldl (i := 1) (v := .slice A27 ((gt d.todo i11).data).length c28) rfl rfl Try.isAgg22 rfl rfl) ?_
              refine va rfl rfl rfl (q_move (v := .int .i64 torn) rfl (by kernel_rfl)) ?_
              obtain ⟨hk76, h⟩ := chk_some h
              refine va rfl rfl rfl (q_cut_to (c := c28) (hi := torn.toNat) (xs := ((gt d.todo i11).data)) Try.underlying22 Try.sizeOf5 rfl rfl (inle_eq rfl hk76) (inle_le hk76) (hx29 hl17).1.2.2.2.1.1) ?_
              refine va rfl rfl rfl (q_fl 3 fld_83_3 rfl rfl rfl) ?_
              refine e_st (i := 1) (v := .slice A27 (List.take torn.toNat ((gt d.todo i11).data)).length c28) (new := #[.int .i64 (gt d.todo i11).kind, .string (gt d.todo i11).name, .string (gt d.todo i11).to_, .slice A27 (List.take torn.toNat ((gt d.todo i11).data)).length c28, .int .i64 (gt d.todo i11).n]) rfl Try.sizeOf22 rfl rfl rfl rfl (by kernel_rfl) rfl rfl rfl rfl ?_
              refine WR.nil ?_
              intro w hw
              exact ⟨(⟨(gt d.todo i11).kind, (gt d.todo i11).name, (gt d.todo i11).to_, (List.take torn.toNat ((gt d.todo i11).data)), (gt d.todo i11).n⟩ : Dfirthref07_Change), A27, c28, h, (sl_ (by kernel_rfl)), hw, ⟨(hx29 hl17).1.1, (hx29 hl17).1.2.1, (hx29 hl17).1.2.2.1, ⟨(take_cap (hx29 hl17).1.2.2.2.1.1 torn.toNat), (((hx29 hl17).1.2.2.2.1.2.mono hl33).cut_to (hi := torn.toNat) (inle_le hk76))⟩, (hx29 hl17).1.2.2.2.2⟩, trivial⟩
            · skip
              refine WC.skip ?_
              intro w hw
              exact ⟨(gt d.todo i11), A27, c28, h, (sl_ (by kernel_rfl)), hw, (Dfirthref07_Change.fits_mono (hx29 hl17).1 hl33), trivial⟩
          · skip
            rintro σ w ⟨x71, A73, c74, h, hsl, hw, hf72, -⟩
            refine Wpt.slots hsl ?_
            refine WC.here (C := CC F Γ32 [rowd, [(g30, .cells #[.int .i64 x71.kind, .string x71.name, .string x71.to_, .slice A73 x71.data.length c74, .int .i64 x71.n] 83 (0, 0))]]) ?_ hw
            clear hw hsl
            refine WC.region ?_
            refine va rfl rfl rfl (q_move (v := .slice A35 l_34.length c36) rfl (by kernel_rfl)) ?_
            refine va rfl rfl rfl (q_ldla (i := 1) (vs := [.int .i64 x71.kind, .string x71.name, .string x71.to_, .slice A73 x71.data.length c74, .int .i64 x71.n]) rfl rfl Try.isAgg83 Try.sizeOf83 rfl rfl) ?_
            obtain ⟨z77, hz78, h⟩ := bnd h
            refine e_call (is := []) rfl rfl (call_run Try.call45 rfl rfl (by kernel_rfl)) rfl (fun w hp => t_firthref07_did hs37 hc38 x71 hf72 hp hz78) ?_
            rintro Γ79 U81 v82 hl80 ⟨A83, c84, row85, rfl, rfl, hr86, _⟩
            change WR _ _ _ (CC F Γ79 [row85, rowd, [(g30, .cells #[.int .i64 x71.kind, .string x71.name, .string x71.to_, .slice A73 x71.data.length c74, .int .i64 x71.n] 83 (0, 0))]]) _ _ (upd _ 73 (.slice A83 z77.length c84))
            refine va rfl rfl rfl (q_assign (v := .slice A83 z77.length c84) rfl (by kernel_rfl)) ?_
            refine WR.nil ?_
            intro w hw
            have hc91 := hr86.capz
            obtain ⟨Γ87, hw, hl88, hr89⟩ := hw.seal (i := 0) rfl; have hs90 := hr86.sl hl88 hr89
            exact ⟨z77, Γ87, A83, c84, h, (sl_ (by kernel_rfl)), (hw.only (is := [1]) rfl), ((hl33.trans hl80).trans hl88), hc91, hs90, trivial⟩
        · skip
          refine WC.skip ?_
          intro w hw
          exact ⟨l_34, Γ32, A35, c36, h, (sl_ (by kernel_rfl)), (hw.only (is := [0]) rfl), hl33, hc38, hs37, trivial⟩
    · skip
      rintro σ w ⟨l_21, Γ19, A22, c23, h, hsl, hw, hl20, hc25, hs24, -⟩
      refine Wpt.slots hsl ?_
      refine WC.here (C := CC F Γ19 [rowd]) ?_ hw
      clear hw hsl
      refine WC.region ?_
      refine va rfl rfl rfl (q_move (v := .int .i64 ((i11 : Nat) : Int)) rfl (by kernel_rfl)) ?_
      refine va rfl rfl rfl (q_add_r (r := ((i11 + 1 : Nat) : Int)) rfl rfl rfl (ctr_len hl17 ho3_15.le)) ?_
      refine va rfl rfl rfl (q_assign (v := .int .i64 ((i11 + 1 : Nat) : Int)) rfl (by kernel_rfl)) ?_
      refine WR.nil ?_
      intro w hw
      exact ⟨hl17, l_21, h, Γ19, A22, c23, (sl_ (by kernel_rfl)), hw, (hl4.trans hl20), hc25, hs24, trivial⟩
  · skip
    have h := hge14 (ige hb16)
    refine WC.exit ?_
    change WC _ _ _ _ _ _
    refine WC.rs ?_
    refine va rfl rfl rfl (q_move (v := .pointer (some ⟨gd, 0, none⟩)) rfl (by kernel_rfl)) ?_
    refine va rfl rfl rfl (q_move (v := .slice A6 l_5.length c7) rfl (by kernel_rfl)) ?_
    refine va rfl rfl rfl (q_nil (A := some ⟨gd, 0, none⟩) rfl rfl rfl) ?_
    refine va rfl rfl rfl (q_fl 1 fld_47_1 rfl rfl rfl) ?_
    refine e_st (i := 0) (v := .slice A6 l_5.length c7) (new := #[.int .i64 d.room, .slice A6 l_5.length c7, .slice A2_15 d.todo.length c2_15]) rfl Try.sizeOf44 rfl rfl rfl rfl (by kernel_rfl) rfl rfl rfl rfl ?_
    refine WR.nil ?_
    change WC _ _ _ _ _ _
    refine WC.region ?_
    refine va rfl rfl rfl (q_move (v := .pointer (some ⟨gd, 0, none⟩)) rfl (by kernel_rfl)) ?_
    refine va rfl rfl rfl (q_nil (A := some ⟨gd, 0, none⟩) rfl rfl rfl) ?_
    refine va rfl rfl rfl (q_fl 2 fld_47_2 rfl rfl rfl) ?_
    refine e_st (i := 0) (v := .slice none 0 0) (new := #[.int .i64 d.room, .slice A6 l_5.length c7, .slice none 0 0]) rfl Try.sizeOf45 rfl rfl rfl rfl (by kernel_rfl) rfl rfl rfl rfl ?_
    refine WR.nil ?_
    intro w hw
    have hw := hw.pad
    obtain ⟨row_92, hrow_92, hob_92⟩ : ∃ rw : Rowb, rw = ([[(gd, .cells #[.int .i64 d.room, .slice A6 l_5.length c7, .slice none 0 0] ed (0, 0))], []] : List Rowb).flatten ∧ Ofirthref07_Disk.ob ed Γ3 gd rw (⟨d.room, l_5, []⟩ : Ofirthref07_Disk) := ⟨_, rfl, A6, c7, none, 0, [], rfl, ho0_15, hc9, hs8, (Own.nil dfirthref07_ChangeT Γ3 83), trivial⟩
    have hw := hw.fold (is := [1, 0]) rfl hrow_92
    obtain rfl := Option.some.inj h
    subst hF
    exact end_e (is := [0]) (by kernel_rfl) hw rfl ⟨row_92, rfl, rfl, hob_92, trivial⟩
abbrev r_disk_Disk_Wipe (gd ed : Nat) (r : Odisk_Disk) (U : List Rowb) (Γ : Gh) (v : Value) : Prop := ∃ (rowd' : Rowb), v = .tuple #[] ∧ U = [rowd'] ∧ Odisk_Disk.ob ed Γ gd rowd' r ∧ True
set_option maxRecDepth 100000 in
set_option maxHeartbeats 400000 in
theorem t_disk_Disk_Wipe {Γ : Gh} {w0 : World} {gd ed : Nat} {rowd : Rowb} {d : Odisk_Disk} (hd : Odisk_Disk.ob ed Γ gd rowd d) (hp : Pre [rowd] Γ w0) {r : Odisk_Disk} (h : m_disk_Disk_Wipe d = some r) : Calls Try.prog 43 #[.pointer (some ⟨gd, 0, none⟩)] w0 (Outc Γ [rowd] w0 (r_disk_Disk_Wipe gd ed r)) := by
  refine calls_of (N := 13) (rs := []) (args := [.pointer (some ⟨gd, 0, none⟩)]) Try.func43 rfl Try.ntmps43 Try.results43 rfl ?_
  obtain ⟨F, hF⟩ : ∃ F : Fm, F = ⟨ids [rowd], w0, Γ⟩ := ⟨_, rfl⟩
  refine WC.here (C := CC F Γ [rowd]) ?_ (hF ▸ hp.start)
  refine WC.region ?_
  refine va rfl rfl rfl (q_move (v := .pointer (some ⟨gd, 0, none⟩)) rfl (by kernel_rfl)) ?_
  refine va rfl rfl rfl (q_move (v := .pointer (some ⟨gd, 0, none⟩)) rfl (by kernel_rfl)) ?_
  refine va rfl rfl rfl (q_move (v := .pointer (some ⟨gd, 0, none⟩)) rfl (by kernel_rfl)) ?_
  refine e_makeMap (strK Try.underlying9) (slT byteT).v rfl rfl rfl rfl ?_
  intro g1 row2 hm3
  refine e_makeMap (strK Try.underlying9) (slT byteT).v rfl rfl rfl rfl ?_
  intro g4 row5 hm6
  refine va rfl rfl rfl (q_nil (A := some ⟨gd, 0, none⟩) rfl rfl rfl) ?_
  refine va rfl rfl rfl (q_fl 1 fld_61_1 rfl rfl rfl) ?_
  have hq := hd
  obtain ⟨m1_7, r1_7, m2_7, r2_7, A3_7, c3_7, r3_7, hrow_7, ho0_7, ho1_7, ho2_7, ho3_7, -⟩ := hq
  intro w hw; have hw := hw.unfold (i := 2) rfl hrow_7
  refine WR.here (C := CC F Γ [[(gd, .cells #[.int .i64 d.room, .map (some m1_7), .map (some m2_7), .slice A3_7 d.loose.length c3_7] ed (0, 0))], r1_7, r2_7, r3_7, row5, row2]) ?_ hw
  clear hw
  refine e_st (i := 0) (v := .map (some g1)) (new := #[.int .i64 d.room, .map (some g1), .map (some m2_7), .slice A3_7 d.loose.length c3_7]) rfl Try.sizeOf58 rfl rfl rfl rfl (by kernel_rfl) rfl rfl rfl rfl ?_
  refine va rfl rfl rfl (q_nil (A := some ⟨gd, 0, none⟩) rfl rfl rfl) ?_
  refine va rfl rfl rfl (q_fl 2 fld_61_2 rfl rfl rfl) ?_
  refine e_st (i := 0) (v := .map (some g4)) (new := #[.int .i64 d.room, .map (some g1), .map (some g4), .slice A3_7 d.loose.length c3_7]) rfl Try.sizeOf58 rfl rfl rfl rfl (by kernel_rfl) rfl rfl rfl rfl ?_
  refine va rfl rfl rfl (q_nil (A := some ⟨gd, 0, none⟩) rfl rfl rfl) ?_
  refine va rfl rfl rfl (q_fl 3 fld_61_3 rfl rfl rfl) ?_
  refine e_st (i := 0) (v := .slice none 0 0) (new := #[.int .i64 d.room, .map (some g1), .map (some g4), .slice none 0 0]) rfl Try.sizeOf59 rfl rfl rfl rfl (by kernel_rfl) rfl rfl rfl rfl ?_
  refine WR.nil ?_
  intro w hw
  have hw := hw.pad
  obtain ⟨row_8, hrow_8, hob_8⟩ : ∃ rw : Rowb, rw = ([[(gd, .cells #[.int .i64 d.room, .map (some g1), .map (some g4), .slice none 0 0] ed (0, 0))], row2, row5, []] : List Rowb).flatten ∧ Odisk_Disk.ob ed Γ gd rw (⟨d.room, ([] : List (ByteArray × (List UInt8))), ([] : List (ByteArray × (List UInt8))), []⟩ : Odisk_Disk) := ⟨_, rfl, g1, row2, g4, row5, none, 0, [], rfl, ho0_7, hm3, hm6, (Own.nil ddisk_changeT Γ 68), trivial⟩
  have hw := hw.fold (is := [1, 5, 4, 0]) rfl hrow_8
  obtain rfl := Option.some.inj h
  subst hF
  exact end_e (is := [0]) (by kernel_rfl) hw rfl ⟨row_8, rfl, rfl, hob_8, trivial⟩
abbrev r_firthref07_Disk_Wipe (gd ed : Nat) (r : Ofirthref07_Disk) (U : List Rowb) (Γ : Gh) (v : Value) : Prop := ∃ (rowd' : Rowb), v = .tuple #[] ∧ U = [rowd'] ∧ Ofirthref07_Disk.ob ed Γ gd rowd' r ∧ True
set_option maxRecDepth 100000 in
set_option maxHeartbeats 400000 in
theorem t_firthref07_Disk_Wipe {Γ : Gh} {w0 : World} {gd ed : Nat} {rowd : Rowb} {d : Ofirthref07_Disk} (hd : Ofirthref07_Disk.ob ed Γ gd rowd d) (hp : Pre [rowd] Γ w0) {r : Ofirthref07_Disk} (h : m_firthref07_Disk_Wipe d = some r) : Calls Try.prog 44 #[.pointer (some ⟨gd, 0, none⟩)] w0 (Outc Γ [rowd] w0 (r_firthref07_Disk_Wipe gd ed r)) := by
  refine calls_of (N := 8) (rs := []) (args := [.pointer (some ⟨gd, 0, none⟩)]) Try.func44 rfl Try.ntmps44 Try.results44 rfl ?_
  obtain ⟨F, hF⟩ : ∃ F : Fm, F = ⟨ids [rowd], w0, Γ⟩ := ⟨_, rfl⟩
  refine WC.here (C := CC F Γ [rowd]) ?_ (hF ▸ hp.start)
  refine WC.rs ?_
  refine va rfl rfl rfl (q_move (v := .pointer (some ⟨gd, 0, none⟩)) rfl (by kernel_rfl)) ?_
  refine va rfl rfl rfl (q_nil (A := some ⟨gd, 0, none⟩) rfl rfl rfl) ?_
  refine va rfl rfl rfl (q_fl 1 fld_47_1 rfl rfl rfl) ?_
  have hq := hd
  obtain ⟨A1_1, c1_1, A2_1, c2_1, r2_1, hrow_1, ho0_1, ho1_1, ho2_1, ho3_1, -⟩ := hq
  intro w hw; have hw := hw.unfold (i := 0) rfl hrow_1
  refine WR.here (C := CC F Γ [[(gd, .cells #[.int .i64 d.room, .slice A1_1 d.safe_.length c1_1, .slice A2_1 d.todo.length c2_1] ed (0, 0))], r2_1]) ?_ hw
  clear hw
  refine e_st (i := 0) (v := .slice none 0 0) (new := #[.int .i64 d.room, .slice none 0 0, .slice A2_1 d.todo.length c2_1]) rfl Try.sizeOf44 rfl rfl rfl rfl (by kernel_rfl) rfl rfl rfl rfl ?_
  refine WR.nil ?_
  change WC _ _ _ _ _ _
  refine WC.region ?_
  refine va rfl rfl rfl (q_move (v := .pointer (some ⟨gd, 0, none⟩)) rfl (by kernel_rfl)) ?_
  refine va rfl rfl rfl (q_nil (A := some ⟨gd, 0, none⟩) rfl rfl rfl) ?_
  refine va rfl rfl rfl (q_fl 2 fld_47_2 rfl rfl rfl) ?_
  refine e_st (i := 0) (v := .slice none 0 0) (new := #[.int .i64 d.room, .slice none 0 0, .slice none 0 0]) rfl Try.sizeOf45 rfl rfl rfl rfl (by kernel_rfl) rfl rfl rfl rfl ?_
  refine WR.nil ?_
  intro w hw
  have hw := hw.pad
  obtain ⟨row_2, hrow_2, hob_2⟩ : ∃ rw : Rowb, rw = ([[(gd, .cells #[.int .i64 d.room, .slice none 0 0, .slice none 0 0] ed (0, 0))], []] : List Rowb).flatten ∧ Ofirthref07_Disk.ob ed Γ gd rw (⟨d.room, [], []⟩ : Ofirthref07_Disk) := ⟨_, rfl, none, 0, none, 0, [], rfl, ho0_1, (Nat.zero_le 0), (Sl.nil _ _ none), (Own.nil dfirthref07_ChangeT Γ 83), trivial⟩
  have hw := hw.fold (is := [1, 0]) rfl hrow_2
  obtain rfl := Option.some.inj h
  subst hF
  exact end_e (is := [0]) (by kernel_rfl) hw rfl ⟨row_2, rfl, rfl, hob_2, trivial⟩
abbrev r_firthlaw07_does (gd ed : Nat) (gm em : Nat) (r : Odisk_Disk × Ofirthref07_Disk × Bool) (U : List Rowb) (Γ : Gh) (v : Value) : Prop := ∃ (rowd' : Rowb), ∃ (rowm' : Rowb), v = .bool r.2.2 ∧ U = [rowd', rowm'] ∧ Odisk_Disk.ob ed Γ gd rowd' r.1 ∧ Ofirthref07_Disk.ob em Γ gm rowm' r.2.1 ∧ True
set_option maxRecDepth 100000 in
set_option maxHeartbeats 400000 in
theorem t_firthlaw07_does {Γ : Gh} {w0 : World} {gd ed : Nat} {rowd : Rowb} {d : Odisk_Disk} (hd : Odisk_Disk.ob ed Γ gd rowd d) {gm em : Nat} {rowm : Rowb} {m : Ofirthref07_Disk} (hm : Ofirthref07_Disk.ob em Γ gm rowm m) {Ao3 : Option Addr} {co3 : Nat} (o : Dfirthlaw07_Op) (ho : Dfirthlaw07_Op.fits Γ Ao3 co3 o) (hp : Pre [rowd, rowm] Γ w0) {r : Odisk_Disk × Ofirthref07_Disk × Bool} (h : m_firthlaw07_does d m o = some r) : Calls Try.prog 20 #[.pointer (some ⟨gd, 0, none⟩), .pointer (some ⟨gm, 0, none⟩), .agg #[.int .i64 o.kind, .string o.name, .string o.to_, .slice Ao3 o.data.length co3, .int .i64 o.n, .int .i64 o.torn]] w0 (Outc Γ [rowd, rowm] w0 (r_firthlaw07_does gd ed gm em r)) := by
  refine calls_of (N := 91) (rs := [6]) (args := [.pointer (some ⟨gd, 0, none⟩), .pointer (some ⟨gm, 0, none⟩), .agg #[.int .i64 o.kind, .string o.name, .string o.to_, .slice Ao3 o.data.length co3, .int .i64 o.n, .int .i64 o.torn]]) Try.func20 rfl Try.ntmps20 Try.results20 rfl ?_
  obtain ⟨F, hF⟩ : ∃ F : Fm, F = ⟨ids [rowd, rowm], w0, Γ⟩ := ⟨_, rfl⟩
  refine WC.here (C := CC F Γ [rowd, rowm]) ?_ (hF ▸ hp.start)
  refine WC.rs ?_
  refine e_box (v := .agg #[.int .i64 o.kind, .string o.name, .string o.to_, .slice Ao3 o.data.length co3, .int .i64 o.n, .int .i64 o.torn]) rfl rfl rfl rfl (by kernel_rfl) ?_
  intro g1
  refine va rfl rfl rfl (q_assign (v := .bool false) rfl (by kernel_rfl)) ?_
  refine WR.nil ?_
  change WC _ _ _ _ _ _
  refine WC.seq ?_
  refine WC.rs ?_
  refine va rfl rfl rfl (q_fl 0 fld_43_0 rfl rfl rfl) ?_
  refine va rfl rfl rfl (q_ldl (i := 0) (v := .int .i64 o.kind) rfl rfl Try.isAgg3 rfl rfl) ?_
  refine WR.nil ?_
  change WC _ _ _ _ _ _
  refine WC.block ?_
  refine WC.rs ?_
  refine va rfl rfl rfl (q_eql rfl rfl rfl) ?_
  refine va rfl rfl rfl (q_assign (v := .bool (o.kind == 1)) rfl (by kernel_rfl)) ?_
  refine WR.nil ?_
  change WC _ _ _ _ _ _
  refine WC.cif h (by kernel_rfl) (fun hb2 h => ?_) (fun hb2 h => ?_)
  · skip
    refine WC.seq ?_
    intro w hw; have h03 := hw.le
    refine WC.here (C := CC F Γ [[(g1, .cells #[.int .i64 o.kind, .string o.name, .string o.to_, .slice Ao3 o.data.length co3, .int .i64 o.n, .int .i64 o.torn] 43 (0, 0))], rowd, rowm]) ?_ hw; clear hw
    refine WC.held (CC F Γ [[(g1, .cells #[.int .i64 o.kind, .string o.name, .string o.to_, .slice Ao3 o.data.length co3, .int .i64 o.n, .int .i64 o.torn] 43 (0, 0))]]) (by kernel_rfl) (fun w hw => hw.drawn _) ?_
    change WH _ _ _ _ (CC F Γ [[(g1, .cells #[.int .i64 o.kind, .string o.name, .string o.to_, .slice Ao3 o.data.length co3, .int .i64 o.n, .int .i64 o.torn] 43 (0, 0))], rowd, rowm]) _ 14 #[false, false, false, false, false, false, false, false, false, false, false, false, false, false] _
    refine ht (i := 0) rfl (by kernel_rfl) rfl rfl rfl (fun w hw => hw.back (Gh.refl _) h03 (.cons_cons _ (.cons _ (.cons _ .slnil)))) (q_move (v := .pointer (some ⟨gd, 0, none⟩)) rfl (by kernel_rfl)) ?_
    refine ht (i := 1) rfl (by kernel_rfl) rfl rfl rfl (fun w hw => hw.back (Gh.refl _) h03 (.cons_cons _ (.cons _ (.cons _ .slnil)))) (q_fl 1 fld_43_1 rfl rfl rfl) ?_
    refine ht (i := 2) rfl (by kernel_rfl) rfl rfl rfl (fun w hw => hw.back (Gh.refl _) h03 (.cons_cons _ (.cons _ (.cons _ .slnil)))) (q_ldl (i := 0) (v := .string o.name) rfl rfl Try.isAgg9 rfl rfl) ?_
    refine ht (i := 3) rfl (by kernel_rfl) rfl rfl rfl (fun w hw => hw.back (Gh.refl _) h03 (.cons_cons _ (.cons _ (.cons _ .slnil)))) (q_fl 3 fld_43_3 rfl rfl rfl) ?_
    refine ht (i := 4) rfl (by kernel_rfl) rfl rfl rfl (fun w hw => hw.back (Gh.refl _) h03 (.cons_cons _ (.cons _ (.cons _ .slnil)))) (q_ldl (i := 0) (v := .slice Ao3 o.data.length co3) rfl rfl Try.isAgg22 rfl rfl) ?_
    refine ht (i := 6) rfl (by kernel_rfl) rfl rfl rfl (fun w hw => hw.back (Gh.refl _) h03 (.cons_cons _ (.cons _ (.cons _ .slnil)))) (q_move (v := .pointer (some ⟨gm, 0, none⟩)) rfl (by kernel_rfl)) ?_
    refine ht (i := 7) rfl (by kernel_rfl) rfl rfl rfl (fun w hw => hw.back (Gh.refl _) h03 (.cons_cons _ (.cons _ (.cons _ .slnil)))) (q_fl 1 fld_43_1 rfl rfl rfl) ?_
    refine ht (i := 8) rfl (by kernel_rfl) rfl rfl rfl (fun w hw => hw.back (Gh.refl _) h03 (.cons_cons _ (.cons _ (.cons _ .slnil)))) (q_ldl (i := 0) (v := .string o.name) rfl rfl Try.isAgg9 rfl rfl) ?_
    refine ht (i := 9) rfl (by kernel_rfl) rfl rfl rfl (fun w hw => hw.back (Gh.refl _) h03 (.cons_cons _ (.cons _ (.cons _ .slnil)))) (q_fl 3 fld_43_3 rfl rfl rfl) ?_
    refine ht (i := 10) rfl (by kernel_rfl) rfl rfl rfl (fun w hw => hw.back (Gh.refl _) h03 (.cons_cons _ (.cons _ (.cons _ .slnil)))) (q_ldl (i := 0) (v := .slice Ao3 o.data.length co3) rfl rfl Try.isAgg22 rfl rfl) ?_
    refine WH.lone (i := 5) (by kernel_rfl) rfl ?_
    obtain ⟨z4, hz5, h⟩ := bnd h
    refine e_call (is := [1]) rfl rfl (call_run Try.call11 rfl rfl (by kernel_rfl)) rfl (fun w hp => t_disk_Disk_Append hd o.name ho.2.1 ho.2.2.2.1.2 ho.2.2.2.1.1 hp hz5) ?_
    rintro Γ6 U8 v9 hl7 ⟨row10, rfl, rfl, hr11, hr12, _⟩
    change WR _ _ _ (CC F Γ6 [row10, [(g1, .cells #[.int .i64 o.kind, .string o.name, .string o.to_, .slice Ao3 o.data.length co3, .int .i64 o.n, .int .i64 o.torn] 43 (0, 0))], rowm]) _ _ (upd _ 16 (.int .i64 z4.2))
    refine WR.nil ?_
    refine WH.next (fun w hw => hw.back hl7 h03 (.cons _ (.cons_cons _ (.cons _ .slnil)))) ?_
    refine WH.lone (i := 11) (by kernel_rfl) rfl ?_
    obtain ⟨z13, hz14, h⟩ := bnd h
    refine e_call (is := [2]) rfl rfl (call_run Try.call36 rfl rfl (by kernel_rfl)) rfl (fun w hp => t_firthref07_Disk_Append (hm.mono hl7) o.name ho.2.1 (ho.2.2.2.1.2.mono hl7) ho.2.2.2.1.1 hp hz14) ?_
    rintro Γ15 U17 v18 hl16 ⟨row19, rfl, rfl, hr20, hr21, _⟩
    change WR _ _ _ (CC F Γ15 [row19, row10, [(g1, .cells #[.int .i64 o.kind, .string o.name, .string o.to_, .slice Ao3 o.data.length co3, .int .i64 o.n, .int .i64 o.torn] 43 (0, 0))]]) _ _ (upd _ 22 (.int .i64 z13.2))
    refine WR.nil ?_
    refine WH.next (fun w hw => hw.back (hl7.trans hl16) h03 (.cons _ (.cons _ (.cons_cons _ .slnil)))) ?_
    refine ht (i := 12) rfl (by kernel_rfl) rfl rfl rfl (fun w hw => hw.back (hl7.trans hl16) h03 (.cons _ (.cons _ (.cons_cons _ .slnil)))) (q_eql rfl rfl rfl) ?_
    refine ht (i := 13) rfl (by kernel_rfl) rfl rfl rfl (fun w hw => hw.back (hl7.trans hl16) h03 (.cons _ (.cons _ (.cons_cons _ .slnil)))) (q_assign (v := .bool (z4.2 == z13.2)) rfl (by kernel_rfl)) ?_
    refine WH.done (by kernel_rfl) ?_
    change WC _ _ _ _ _ _
    refine WC.ret ?_
    intro w hw
    obtain rfl := Option.some.inj h
    subst hF
    exact end_e (is := [1, 0]) (by kernel_rfl) hw rfl ⟨row10, row19, rfl, rfl, (hr11.mono hl16), hr20, trivial⟩
  · skip
    refine WC.rs ?_
    refine va rfl rfl rfl (q_eql rfl rfl rfl) ?_
    refine va rfl rfl rfl (q_assign (v := .bool (o.kind == 2)) rfl (by kernel_rfl)) ?_
    refine WR.nil ?_
    change WC _ _ _ _ _ _
    refine WC.cif h (by kernel_rfl) (fun hb22 h => ?_) (fun hb22 h => ?_)
    · skip
      refine WC.seq ?_
      intro w hw; have h023 := hw.le
      refine WC.here (C := CC F Γ [[(g1, .cells #[.int .i64 o.kind, .string o.name, .string o.to_, .slice Ao3 o.data.length co3, .int .i64 o.n, .int .i64 o.torn] 43 (0, 0))], rowd, rowm]) ?_ hw; clear hw
      refine WC.held (CC F Γ [[(g1, .cells #[.int .i64 o.kind, .string o.name, .string o.to_, .slice Ao3 o.data.length co3, .int .i64 o.n, .int .i64 o.torn] 43 (0, 0))]]) (by kernel_rfl) (fun w hw => hw.drawn _) ?_
      change WH _ _ _ _ (CC F Γ [[(g1, .cells #[.int .i64 o.kind, .string o.name, .string o.to_, .slice Ao3 o.data.length co3, .int .i64 o.n, .int .i64 o.torn] 43 (0, 0))], rowd, rowm]) _ 14 #[false, false, false, false, false, false, false, false, false, false, false, false, false, false] _
      refine ht (i := 0) rfl (by kernel_rfl) rfl rfl rfl (fun w hw => hw.back (Gh.refl _) h023 (.cons_cons _ (.cons _ (.cons _ .slnil)))) (q_move (v := .pointer (some ⟨gd, 0, none⟩)) rfl (by kernel_rfl)) ?_
      refine ht (i := 1) rfl (by kernel_rfl) rfl rfl rfl (fun w hw => hw.back (Gh.refl _) h023 (.cons_cons _ (.cons _ (.cons _ .slnil)))) (q_fl 1 fld_43_1 rfl rfl rfl) ?_
      refine ht (i := 2) rfl (by kernel_rfl) rfl rfl rfl (fun w hw => hw.back (Gh.refl _) h023 (.cons_cons _ (.cons _ (.cons _ .slnil)))) (q_ldl (i := 0) (v := .string o.name) rfl rfl Try.isAgg9 rfl rfl) ?_
      refine ht (i := 3) rfl (by kernel_rfl) rfl rfl rfl (fun w hw => hw.back (Gh.refl _) h023 (.cons_cons _ (.cons _ (.cons _ .slnil)))) (q_fl 4 fld_43_4 rfl rfl rfl) ?_
      refine ht (i := 4) rfl (by kernel_rfl) rfl rfl rfl (fun w hw => hw.back (Gh.refl _) h023 (.cons_cons _ (.cons _ (.cons _ .slnil)))) (q_ldl (i := 0) (v := .int .i64 o.n) rfl rfl Try.isAgg3 rfl rfl) ?_
      refine ht (i := 6) rfl (by kernel_rfl) rfl rfl rfl (fun w hw => hw.back (Gh.refl _) h023 (.cons_cons _ (.cons _ (.cons _ .slnil)))) (q_move (v := .pointer (some ⟨gm, 0, none⟩)) rfl (by kernel_rfl)) ?_
      refine ht (i := 7) rfl (by kernel_rfl) rfl rfl rfl (fun w hw => hw.back (Gh.refl _) h023 (.cons_cons _ (.cons _ (.cons _ .slnil)))) (q_fl 1 fld_43_1 rfl rfl rfl) ?_
      refine ht (i := 8) rfl (by kernel_rfl) rfl rfl rfl (fun w hw => hw.back (Gh.refl _) h023 (.cons_cons _ (.cons _ (.cons _ .slnil)))) (q_ldl (i := 0) (v := .string o.name) rfl rfl Try.isAgg9 rfl rfl) ?_
      refine ht (i := 9) rfl (by kernel_rfl) rfl rfl rfl (fun w hw => hw.back (Gh.refl _) h023 (.cons_cons _ (.cons _ (.cons _ .slnil)))) (q_fl 4 fld_43_4 rfl rfl rfl) ?_
      refine ht (i := 10) rfl (by kernel_rfl) rfl rfl rfl (fun w hw => hw.back (Gh.refl _) h023 (.cons_cons _ (.cons _ (.cons _ .slnil)))) (q_ldl (i := 0) (v := .int .i64 o.n) rfl rfl Try.isAgg3 rfl rfl) ?_
      refine WH.lone (i := 5) (by kernel_rfl) rfl ?_
      obtain ⟨z24, hz25, h⟩ := bnd h
      refine e_call (is := [1]) rfl rfl (call_run Try.call37 rfl rfl (by kernel_rfl)) rfl (fun w hp => t_disk_Disk_Cut hd o.name ho.2.1 o.n ho.2.2.2.2.1 hp hz25) ?_
      rintro Γ26 U28 v29 hl27 ⟨row30, rfl, rfl, hr31, hr32, _⟩
      change WR _ _ _ (CC F Γ26 [row30, [(g1, .cells #[.int .i64 o.kind, .string o.name, .string o.to_, .slice Ao3 o.data.length co3, .int .i64 o.n, .int .i64 o.torn] 43 (0, 0))], rowm]) _ _ (upd _ 31 (.int .i64 z24.2))
      refine WR.nil ?_
      refine WH.next (fun w hw => hw.back hl27 h023 (.cons _ (.cons_cons _ (.cons _ .slnil)))) ?_
      refine WH.lone (i := 11) (by kernel_rfl) rfl ?_
      obtain ⟨z33, hz34, h⟩ := bnd h
      refine e_call (is := [2]) rfl rfl (call_run Try.call38 rfl rfl (by kernel_rfl)) rfl (fun w hp => t_firthref07_Disk_Cut (hm.mono hl27) o.name ho.2.1 o.n ho.2.2.2.2.1 hp hz34) ?_
      rintro Γ35 U37 v38 hl36 ⟨row39, rfl, rfl, hr40, hr41, _⟩
      change WR _ _ _ (CC F Γ35 [row39, row30, [(g1, .cells #[.int .i64 o.kind, .string o.name, .string o.to_, .slice Ao3 o.data.length co3, .int .i64 o.n, .int .i64 o.torn] 43 (0, 0))]]) _ _ (upd _ 37 (.int .i64 z33.2))
      refine WR.nil ?_
      refine WH.next (fun w hw => hw.back (hl27.trans hl36) h023 (.cons _ (.cons _ (.cons_cons _ .slnil)))) ?_
      refine ht (i := 12) rfl (by kernel_rfl) rfl rfl rfl (fun w hw => hw.back (hl27.trans hl36) h023 (.cons _ (.cons _ (.cons_cons _ .slnil)))) (q_eql rfl rfl rfl) ?_
      refine ht (i := 13) rfl (by kernel_rfl) rfl rfl rfl (fun w hw => hw.back (hl27.trans hl36) h023 (.cons _ (.cons _ (.cons_cons _ .slnil)))) (q_assign (v := .bool (z24.2 == z33.2)) rfl (by kernel_rfl)) ?_
      refine WH.done (by kernel_rfl) ?_
      change WC _ _ _ _ _ _
      refine WC.ret ?_
      intro w hw
      obtain rfl := Option.some.inj h
      subst hF
      exact end_e (is := [1, 0]) (by kernel_rfl) hw rfl ⟨row30, row39, rfl, rfl, (hr31.mono hl36), hr40, trivial⟩
    · skip
      refine WC.rs ?_
      refine va rfl rfl rfl (q_eql rfl rfl rfl) ?_
      refine va rfl rfl rfl (q_assign (v := .bool (o.kind == 3)) rfl (by kernel_rfl)) ?_
      refine WR.nil ?_
      change WC _ _ _ _ _ _
      refine WC.cif h (by kernel_rfl) (fun hb42 h => ?_) (fun hb42 h => ?_)
      · skip
        refine WC.seq ?_
        intro w hw; have h043 := hw.le
        refine WC.here (C := CC F Γ [[(g1, .cells #[.int .i64 o.kind, .string o.name, .string o.to_, .slice Ao3 o.data.length co3, .int .i64 o.n, .int .i64 o.torn] 43 (0, 0))], rowd, rowm]) ?_ hw; clear hw
        refine WC.held (CC F Γ [[(g1, .cells #[.int .i64 o.kind, .string o.name, .string o.to_, .slice Ao3 o.data.length co3, .int .i64 o.n, .int .i64 o.torn] 43 (0, 0))]]) (by kernel_rfl) (fun w hw => hw.drawn _) ?_
        change WH _ _ _ _ (CC F Γ [[(g1, .cells #[.int .i64 o.kind, .string o.name, .string o.to_, .slice Ao3 o.data.length co3, .int .i64 o.n, .int .i64 o.torn] 43 (0, 0))], rowd, rowm]) _ 14 #[false, false, false, false, false, false, false, false, false, false, false, false, false, false] _
        refine ht (i := 0) rfl (by kernel_rfl) rfl rfl rfl (fun w hw => hw.back (Gh.refl _) h043 (.cons_cons _ (.cons _ (.cons _ .slnil)))) (q_move (v := .pointer (some ⟨gd, 0, none⟩)) rfl (by kernel_rfl)) ?_
        refine ht (i := 1) rfl (by kernel_rfl) rfl rfl rfl (fun w hw => hw.back (Gh.refl _) h043 (.cons_cons _ (.cons _ (.cons _ .slnil)))) (q_fl 1 fld_43_1 rfl rfl rfl) ?_
        refine ht (i := 2) rfl (by kernel_rfl) rfl rfl rfl (fun w hw => hw.back (Gh.refl _) h043 (.cons_cons _ (.cons _ (.cons _ .slnil)))) (q_ldl (i := 0) (v := .string o.name) rfl rfl Try.isAgg9 rfl rfl) ?_
        refine ht (i := 3) rfl (by kernel_rfl) rfl rfl rfl (fun w hw => hw.back (Gh.refl _) h043 (.cons_cons _ (.cons _ (.cons _ .slnil)))) (q_fl 2 fld_43_2 rfl rfl rfl) ?_
        refine ht (i := 4) rfl (by kernel_rfl) rfl rfl rfl (fun w hw => hw.back (Gh.refl _) h043 (.cons_cons _ (.cons _ (.cons _ .slnil)))) (q_ldl (i := 0) (v := .string o.to_) rfl rfl Try.isAgg9 rfl rfl) ?_
        refine ht (i := 6) rfl (by kernel_rfl) rfl rfl rfl (fun w hw => hw.back (Gh.refl _) h043 (.cons_cons _ (.cons _ (.cons _ .slnil)))) (q_move (v := .pointer (some ⟨gm, 0, none⟩)) rfl (by kernel_rfl)) ?_
        refine ht (i := 7) rfl (by kernel_rfl) rfl rfl rfl (fun w hw => hw.back (Gh.refl _) h043 (.cons_cons _ (.cons _ (.cons _ .slnil)))) (q_fl 1 fld_43_1 rfl rfl rfl) ?_
        refine ht (i := 8) rfl (by kernel_rfl) rfl rfl rfl (fun w hw => hw.back (Gh.refl _) h043 (.cons_cons _ (.cons _ (.cons _ .slnil)))) (q_ldl (i := 0) (v := .string o.name) rfl rfl Try.isAgg9 rfl rfl) ?_
        refine ht (i := 9) rfl (by kernel_rfl) rfl rfl rfl (fun w hw => hw.back (Gh.refl _) h043 (.cons_cons _ (.cons _ (.cons _ .slnil)))) (q_fl 2 fld_43_2 rfl rfl rfl) ?_
        refine ht (i := 10) rfl (by kernel_rfl) rfl rfl rfl (fun w hw => hw.back (Gh.refl _) h043 (.cons_cons _ (.cons _ (.cons _ .slnil)))) (q_ldl (i := 0) (v := .string o.to_) rfl rfl Try.isAgg9 rfl rfl) ?_
        refine WH.lone (i := 5) (by kernel_rfl) rfl ?_
        obtain ⟨z44, hz45, h⟩ := bnd h
        refine e_call (is := [1]) rfl rfl (call_run Try.call14 rfl rfl (by kernel_rfl)) rfl (fun w hp => t_disk_Disk_Rename hd o.name ho.2.1 o.to_ ho.2.2.1 hp hz45) ?_
        rintro Γ46 U48 v49 hl47 ⟨row50, rfl, rfl, hr51, hr52, _⟩
        change WR _ _ _ (CC F Γ46 [row50, [(g1, .cells #[.int .i64 o.kind, .string o.name, .string o.to_, .slice Ao3 o.data.length co3, .int .i64 o.n, .int .i64 o.torn] 43 (0, 0))], rowm]) _ _ (upd _ 46 (.int .i64 z44.2))
        refine WR.nil ?_
        refine WH.next (fun w hw => hw.back hl47 h043 (.cons _ (.cons_cons _ (.cons _ .slnil)))) ?_
        refine WH.lone (i := 11) (by kernel_rfl) rfl ?_
        obtain ⟨z53, hz54, h⟩ := bnd h
        refine e_call (is := [2]) rfl rfl (call_run Try.call39 rfl rfl (by kernel_rfl)) rfl (fun w hp => t_firthref07_Disk_Rename (hm.mono hl47) o.name ho.2.1 o.to_ ho.2.2.1 hp hz54) ?_
        rintro Γ55 U57 v58 hl56 ⟨row59, rfl, rfl, hr60, hr61, _⟩
        change WR _ _ _ (CC F Γ55 [row59, row50, [(g1, .cells #[.int .i64 o.kind, .string o.name, .string o.to_, .slice Ao3 o.data.length co3, .int .i64 o.n, .int .i64 o.torn] 43 (0, 0))]]) _ _ (upd _ 52 (.int .i64 z53.2))
        refine WR.nil ?_
        refine WH.next (fun w hw => hw.back (hl47.trans hl56) h043 (.cons _ (.cons _ (.cons_cons _ .slnil)))) ?_
        refine ht (i := 12) rfl (by kernel_rfl) rfl rfl rfl (fun w hw => hw.back (hl47.trans hl56) h043 (.cons _ (.cons _ (.cons_cons _ .slnil)))) (q_eql rfl rfl rfl) ?_
        refine ht (i := 13) rfl (by kernel_rfl) rfl rfl rfl (fun w hw => hw.back (hl47.trans hl56) h043 (.cons _ (.cons _ (.cons_cons _ .slnil)))) (q_assign (v := .bool (z44.2 == z53.2)) rfl (by kernel_rfl)) ?_
        refine WH.done (by kernel_rfl) ?_
        change WC _ _ _ _ _ _
        refine WC.ret ?_
        intro w hw
        obtain rfl := Option.some.inj h
        subst hF
        exact end_e (is := [1, 0]) (by kernel_rfl) hw rfl ⟨row50, row59, rfl, rfl, (hr51.mono hl56), hr60, trivial⟩
      · skip
        refine WC.rs ?_
        refine va rfl rfl rfl (q_eql rfl rfl rfl) ?_
        refine va rfl rfl rfl (q_assign (v := .bool (o.kind == 4)) rfl (by kernel_rfl)) ?_
        refine WR.nil ?_
        change WC _ _ _ _ _ _
        refine WC.cif h (by kernel_rfl) (fun hb62 h => ?_) (fun hb62 h => ?_)
        · skip
          refine WC.seq ?_
          intro w hw; have h063 := hw.le
          refine WC.here (C := CC F Γ [[(g1, .cells #[.int .i64 o.kind, .string o.name, .string o.to_, .slice Ao3 o.data.length co3, .int .i64 o.n, .int .i64 o.torn] 43 (0, 0))], rowd, rowm]) ?_ hw; clear hw
          refine WC.held (CC F Γ [[(g1, .cells #[.int .i64 o.kind, .string o.name, .string o.to_, .slice Ao3 o.data.length co3, .int .i64 o.n, .int .i64 o.torn] 43 (0, 0))]]) (by kernel_rfl) (fun w hw => hw.drawn _) ?_
          change WH _ _ _ _ (CC F Γ [[(g1, .cells #[.int .i64 o.kind, .string o.name, .string o.to_, .slice Ao3 o.data.length co3, .int .i64 o.n, .int .i64 o.torn] 43 (0, 0))], rowd, rowm]) _ 10 #[false, false, false, false, false, false, false, false, false, false] _
          refine ht (i := 0) rfl (by kernel_rfl) rfl rfl rfl (fun w hw => hw.back (Gh.refl _) h063 (.cons_cons _ (.cons _ (.cons _ .slnil)))) (q_move (v := .pointer (some ⟨gd, 0, none⟩)) rfl (by kernel_rfl)) ?_
          refine ht (i := 1) rfl (by kernel_rfl) rfl rfl rfl (fun w hw => hw.back (Gh.refl _) h063 (.cons_cons _ (.cons _ (.cons _ .slnil)))) (q_fl 1 fld_43_1 rfl rfl rfl) ?_
          refine ht (i := 2) rfl (by kernel_rfl) rfl rfl rfl (fun w hw => hw.back (Gh.refl _) h063 (.cons_cons _ (.cons _ (.cons _ .slnil)))) (q_ldl (i := 0) (v := .string o.name) rfl rfl Try.isAgg9 rfl rfl) ?_
          refine ht (i := 4) rfl (by kernel_rfl) rfl rfl rfl (fun w hw => hw.back (Gh.refl _) h063 (.cons_cons _ (.cons _ (.cons _ .slnil)))) (q_move (v := .pointer (some ⟨gm, 0, none⟩)) rfl (by kernel_rfl)) ?_
          refine ht (i := 5) rfl (by kernel_rfl) rfl rfl rfl (fun w hw => hw.back (Gh.refl _) h063 (.cons_cons _ (.cons _ (.cons _ .slnil)))) (q_fl 1 fld_43_1 rfl rfl rfl) ?_
          refine ht (i := 6) rfl (by kernel_rfl) rfl rfl rfl (fun w hw => hw.back (Gh.refl _) h063 (.cons_cons _ (.cons _ (.cons _ .slnil)))) (q_ldl (i := 0) (v := .string o.name) rfl rfl Try.isAgg9 rfl rfl) ?_
          refine WH.lone (i := 3) (by kernel_rfl) rfl ?_
          obtain ⟨z64, hz65, h⟩ := bnd h
          refine e_call (is := [1]) rfl rfl (call_run Try.call16 rfl rfl (by kernel_rfl)) rfl (fun w hp => t_disk_Disk_Remove hd o.name ho.2.1 hp hz65) ?_
          rintro Γ66 U68 v69 hl67 ⟨row70, rfl, rfl, hr71, hr72, _⟩
          change WR _ _ _ (CC F Γ66 [row70, [(g1, .cells #[.int .i64 o.kind, .string o.name, .string o.to_, .slice Ao3 o.data.length co3, .int .i64 o.n, .int .i64 o.torn] 43 (0, 0))], rowm]) _ _ (upd _ 59 (.int .i64 z64.2))
          refine WR.nil ?_
          refine WH.next (fun w hw => hw.back hl67 h063 (.cons _ (.cons_cons _ (.cons _ .slnil)))) ?_
          refine WH.lone (i := 7) (by kernel_rfl) rfl ?_
          obtain ⟨z73, hz74, h⟩ := bnd h
          refine e_call (is := [2]) rfl rfl (call_run Try.call40 rfl rfl (by kernel_rfl)) rfl (fun w hp => t_firthref07_Disk_Remove (hm.mono hl67) o.name ho.2.1 hp hz74) ?_
          rintro Γ75 U77 v78 hl76 ⟨row79, rfl, rfl, hr80, hr81, _⟩
          change WR _ _ _ (CC F Γ75 [row79, row70, [(g1, .cells #[.int .i64 o.kind, .string o.name, .string o.to_, .slice Ao3 o.data.length co3, .int .i64 o.n, .int .i64 o.torn] 43 (0, 0))]]) _ _ (upd _ 63 (.int .i64 z73.2))
          refine WR.nil ?_
          refine WH.next (fun w hw => hw.back (hl67.trans hl76) h063 (.cons _ (.cons _ (.cons_cons _ .slnil)))) ?_
          refine ht (i := 8) rfl (by kernel_rfl) rfl rfl rfl (fun w hw => hw.back (hl67.trans hl76) h063 (.cons _ (.cons _ (.cons_cons _ .slnil)))) (q_eql rfl rfl rfl) ?_
          refine ht (i := 9) rfl (by kernel_rfl) rfl rfl rfl (fun w hw => hw.back (hl67.trans hl76) h063 (.cons _ (.cons _ (.cons_cons _ .slnil)))) (q_assign (v := .bool (z64.2 == z73.2)) rfl (by kernel_rfl)) ?_
          refine WH.done (by kernel_rfl) ?_
          change WC _ _ _ _ _ _
          refine WC.ret ?_
          intro w hw
          obtain rfl := Option.some.inj h
          subst hF
          exact end_e (is := [1, 0]) (by kernel_rfl) hw rfl ⟨row70, row79, rfl, rfl, (hr71.mono hl76), hr80, trivial⟩
        · skip
          refine WC.rs ?_
          refine va rfl rfl rfl (q_eql rfl rfl rfl) ?_
          refine va rfl rfl rfl (q_assign (v := .bool (o.kind == 5)) rfl (by kernel_rfl)) ?_
          refine WR.nil ?_
          change WC _ _ _ _ _ _
          refine WC.cif h (by kernel_rfl) (fun hb82 h => ?_) (fun hb82 h => ?_)
          · skip
            refine WC.rs ?_
            refine va rfl rfl rfl (q_move (v := .pointer (some ⟨gd, 0, none⟩)) rfl (by kernel_rfl)) ?_
            obtain ⟨z83, hz84, h⟩ := bnd h
            refine e_call (is := [1]) rfl rfl (call_run Try.call25 rfl rfl (by kernel_rfl)) rfl (fun w hp => t_disk_Disk_Sync hd hp hz84) ?_
            rintro Γ85 U87 v88 hl86 ⟨row89, rfl, rfl, hr90, _⟩
            change WR _ _ _ (CC F Γ85 [row89, [(g1, .cells #[.int .i64 o.kind, .string o.name, .string o.to_, .slice Ao3 o.data.length co3, .int .i64 o.n, .int .i64 o.torn] 43 (0, 0))], rowm]) _ _ (upd _ 68 (.tuple #[]))
            refine WR.nil ?_
            change WC _ _ _ _ _ _
            refine WC.region ?_
            refine va rfl rfl rfl (q_move (v := .pointer (some ⟨gm, 0, none⟩)) rfl (by kernel_rfl)) ?_
            obtain ⟨z91, hz92, h⟩ := bnd h
            refine e_call (is := [2]) rfl rfl (call_run Try.call41 rfl rfl (by kernel_rfl)) rfl (fun w hp => t_firthref07_Disk_Sync (hm.mono hl86) hp hz92) ?_
            rintro Γ93 U95 v96 hl94 ⟨row97, rfl, rfl, hr98, _⟩
            change WR _ _ _ (CC F Γ93 [row97, row89, [(g1, .cells #[.int .i64 o.kind, .string o.name, .string o.to_, .slice Ao3 o.data.length co3, .int .i64 o.n, .int .i64 o.torn] 43 (0, 0))]]) _ _ (upd _ 70 (.tuple #[]))
            refine WR.nil ?_
            change WC _ _ _ _ _ _
            refine WC.rs ?_
            refine va rfl rfl rfl (q_assign (v := .bool true) rfl (by kernel_rfl)) ?_
            refine WR.nil ?_
            change WC _ _ _ _ _ _
            refine WC.ret ?_
            intro w hw
            obtain rfl := Option.some.inj h
            subst hF
            exact end_e (is := [1, 0]) (by kernel_rfl) hw rfl ⟨row89, row97, rfl, rfl, (hr90.mono hl94), hr98, trivial⟩
          · skip
            refine WC.rs ?_
            refine va rfl rfl rfl (q_eql rfl rfl rfl) ?_
            refine va rfl rfl rfl (q_assign (v := .bool (o.kind == 6)) rfl (by kernel_rfl)) ?_
            refine WR.nil ?_
            change WC _ _ _ _ _ _
            refine WC.cif h (by kernel_rfl) (fun hb99 h => ?_) (fun hb99 h => ?_)
            · skip
              refine WC.rs ?_
              refine va rfl rfl rfl (q_move (v := .pointer (some ⟨gd, 0, none⟩)) rfl (by kernel_rfl)) ?_
              refine va rfl rfl rfl (q_fl 4 fld_43_4 rfl rfl rfl) ?_
              refine va rfl rfl rfl (q_ldl (i := 0) (v := .int .i64 o.n) rfl rfl Try.isAgg3 rfl rfl) ?_
              refine va rfl rfl rfl (q_fl 5 fld_43_5 rfl rfl rfl) ?_
              refine va rfl rfl rfl (q_ldl (i := 0) (v := .int .i64 o.torn) rfl rfl Try.isAgg3 rfl rfl) ?_
              obtain ⟨z100, hz101, h⟩ := bnd h
              refine e_call (is := [1]) rfl rfl (call_run Try.call13 rfl rfl (by kernel_rfl)) rfl (fun w hp => t_disk_Disk_Crash hd o.n ho.2.2.2.2.1 o.torn ho.2.2.2.2.2 hp hz101) ?_
              rintro Γ102 U104 v105 hl103 ⟨row106, rfl, rfl, hr107, _⟩
              change WR _ _ _ (CC F Γ102 [row106, [(g1, .cells #[.int .i64 o.kind, .string o.name, .string o.to_, .slice Ao3 o.data.length co3, .int .i64 o.n, .int .i64 o.torn] 43 (0, 0))], rowm]) _ _ (upd _ 78 (.tuple #[]))
              refine WR.nil ?_
              change WC _ _ _ _ _ _
              refine WC.region ?_
              refine va rfl rfl rfl (q_move (v := .pointer (some ⟨gm, 0, none⟩)) rfl (by kernel_rfl)) ?_
              refine va rfl rfl rfl (q_fl 4 fld_43_4 rfl rfl rfl) ?_
              refine va rfl rfl rfl (q_ldl (i := 1) (v := .int .i64 o.n) rfl rfl Try.isAgg3 rfl rfl) ?_
              refine va rfl rfl rfl (q_fl 5 fld_43_5 rfl rfl rfl) ?_
              refine va rfl rfl rfl (q_ldl (i := 1) (v := .int .i64 o.torn) rfl rfl Try.isAgg3 rfl rfl) ?_
              obtain ⟨z108, hz109, h⟩ := bnd h
              refine e_call (is := [2]) rfl rfl (call_run Try.call42 rfl rfl (by kernel_rfl)) rfl (fun w hp => t_firthref07_Disk_Crash (hm.mono hl103) o.n ho.2.2.2.2.1 o.torn ho.2.2.2.2.2 hp hz109) ?_
              rintro Γ110 U112 v113 hl111 ⟨row114, rfl, rfl, hr115, _⟩
              change WR _ _ _ (CC F Γ110 [row114, row106, [(g1, .cells #[.int .i64 o.kind, .string o.name, .string o.to_, .slice Ao3 o.data.length co3, .int .i64 o.n, .int .i64 o.torn] 43 (0, 0))]]) _ _ (upd _ 84 (.tuple #[]))
              refine WR.nil ?_
              change WC _ _ _ _ _ _
              refine WC.rs ?_
              refine va rfl rfl rfl (q_assign (v := .bool true) rfl (by kernel_rfl)) ?_
              refine WR.nil ?_
              change WC _ _ _ _ _ _
              refine WC.ret ?_
              intro w hw
              obtain rfl := Option.some.inj h
              subst hF
              exact end_e (is := [1, 0]) (by kernel_rfl) hw rfl ⟨row106, row114, rfl, rfl, (hr107.mono hl111), hr115, trivial⟩
            · skip
              refine WC.rs ?_
              refine va rfl rfl rfl (q_eql rfl rfl rfl) ?_
              refine va rfl rfl rfl (q_assign (v := .bool (o.kind == 7)) rfl (by kernel_rfl)) ?_
              refine WR.nil ?_
              change WC _ _ _ _ _ _
              refine WC.cif h (by kernel_rfl) (fun hb116 h => ?_) (fun hb116 h => ?_)
              · skip
                refine WC.rs ?_
                refine va rfl rfl rfl (q_move (v := .pointer (some ⟨gd, 0, none⟩)) rfl (by kernel_rfl)) ?_
                obtain ⟨z117, hz118, h⟩ := bnd h
                refine e_call (is := [1]) rfl rfl (call_run Try.call43 rfl rfl (by kernel_rfl)) rfl (fun w hp => t_disk_Disk_Wipe hd hp hz118) ?_
                rintro Γ119 U121 v122 hl120 ⟨row123, rfl, rfl, hr124, _⟩
                change WR _ _ _ (CC F Γ119 [row123, [(g1, .cells #[.int .i64 o.kind, .string o.name, .string o.to_, .slice Ao3 o.data.length co3, .int .i64 o.n, .int .i64 o.torn] 43 (0, 0))], rowm]) _ _ (upd _ 88 (.tuple #[]))
                refine WR.nil ?_
                change WC _ _ _ _ _ _
                refine WC.region ?_
                refine va rfl rfl rfl (q_move (v := .pointer (some ⟨gm, 0, none⟩)) rfl (by kernel_rfl)) ?_
                obtain ⟨z125, hz126, h⟩ := bnd h
                refine e_call (is := [2]) rfl rfl (call_run Try.call44 rfl rfl (by kernel_rfl)) rfl (fun w hp => t_firthref07_Disk_Wipe (hm.mono hl120) hp hz126) ?_
                rintro Γ127 U129 v130 hl128 ⟨row131, rfl, rfl, hr132, _⟩
                change WR _ _ _ (CC F Γ127 [row131, row123, [(g1, .cells #[.int .i64 o.kind, .string o.name, .string o.to_, .slice Ao3 o.data.length co3, .int .i64 o.n, .int .i64 o.torn] 43 (0, 0))]]) _ _ (upd _ 90 (.tuple #[]))
                refine WR.nil ?_
                change WC _ _ _ _ _ _
                refine WC.rs ?_
                refine va rfl rfl rfl (q_assign (v := .bool true) rfl (by kernel_rfl)) ?_
                refine WR.nil ?_
                change WC _ _ _ _ _ _
                refine WC.ret ?_
                intro w hw
                obtain rfl := Option.some.inj h
                subst hF
                exact end_e (is := [1, 0]) (by kernel_rfl) hw rfl ⟨row123, row131, rfl, rfl, (hr124.mono hl128), hr132, trivial⟩
              · skip
                refine WC.skip ?_
                change WC _ _ _ _ _ _
                refine WC.rs ?_
                refine va rfl rfl rfl (q_assign (v := .bool true) rfl (by kernel_rfl)) ?_
                refine WR.nil ?_
                change WC _ _ _ _ _ _
                refine WC.ret ?_
                intro w hw
                obtain rfl := Option.some.inj h
                subst hF
                exact end_e (is := [1, 1]) (by kernel_rfl) hw rfl ⟨rowd, rowm, rfl, rfl, hd, hm, trivial⟩
abbrev r_firthlaw07_Files (gd ed : Nat) (rowd : Rowb) (r : List Dfirthref07_File) (U : List Rowb) (Γ : Gh) (v : Value) : Prop := ∃ (A0 : Option Addr), ∃ (c0 : Nat), ∃ (row0 : Rowb), v = .slice A0 r.length c0 ∧ U = [rowd, row0] ∧ Own dfirthref07_FileT Γ 80 row0 A0 c0 r ∧ True
set_option maxRecDepth 100000 in
set_option maxHeartbeats 400000 in
theorem t_firthlaw07_Files {Γ : Gh} {w0 : World} {gd ed : Nat} {rowd : Rowb} {d : Odisk_Disk} (hd : Odisk_Disk.ob ed Γ gd rowd d) (hp : Pre [rowd] Γ w0) {r : List Dfirthref07_File} (h : m_firthlaw07_Files d = some r) : Calls Try.prog 23 #[.pointer (some ⟨gd, 0, none⟩)] w0 (Outc Γ [rowd] w0 (r_firthlaw07_Files gd ed rowd r)) := by
  refine calls_of (N := 36) (rs := [2]) (args := [.pointer (some ⟨gd, 0, none⟩)]) Try.func23 rfl Try.ntmps23 Try.results23 rfl ?_
  obtain ⟨F, hF⟩ : ∃ F : Fm, F = ⟨ids [rowd], w0, Γ⟩ := ⟨_, rfl⟩
  refine WC.here (C := CC F Γ [rowd]) ?_ (hF ▸ hp.start)
  refine WC.rs ?_
  refine va rfl rfl rfl (q_assign (v := .slice none 0 0) rfl (by kernel_rfl)) ?_
  refine WR.nil ?_
  change WC _ _ _ _ _ _
  refine WC.rs ?_
  refine va rfl rfl rfl (q_assign (v := .slice none 0 0) rfl (by kernel_rfl)) ?_
  refine WR.nil ?_
  change WC _ _ _ _ _ _
  refine WC.rs ?_
  refine va rfl rfl rfl (q_move (v := .pointer (some ⟨gd, 0, none⟩)) rfl (by kernel_rfl)) ?_
  obtain ⟨z1, hz2, h⟩ := bnd h
  refine e_call (is := [0]) rfl rfl (call_run Try.call15 rfl rfl (by kernel_rfl)) rfl (fun w hp => t_disk_Disk_Names hd hp hz2) ?_
  rintro Γ3 U5 v6 hl4 ⟨A7, c8, row9, rfl, rfl, hr10, _⟩
  change WR _ _ _ (CC F Γ3 [rowd, row9]) _ _ (upd _ 9 (.slice A7 z1.length c8))
  refine va rfl rfl rfl (q_assign (v := .slice A7 z1.length c8) rfl (by kernel_rfl)) ?_
  refine WR.nil ?_
  change WC _ _ _ _ _ _
  refine WC.seq ?_
  refine WC.rs ?_
  refine va rfl rfl rfl (q_assign (v := .int .i64 0) rfl (by kernel_rfl)) ?_
  refine WR.nil ?_
  change WC _ _ _ _ _ _
  refine WC.block ?_
  refine WC.forI h (fun (i19 : Nat) (out_13 : List Dfirthref07_File) σ w => ∃ (Γ11 : Gh), ∃ (A14 : Option Addr), ∃ (c15 : Nat), ∃ (row16 : Rowb), slots σ [(0, .pointer (some ⟨gd, 0, none⟩)), (3, .slice A14 out_13.length c15), (4, .slice A7 z1.length c8), (5, .int .i64 ((i19 : Nat) : Int))] ∧ CC F Γ11 [row16, rowd, row9] w ∧ Gh.le Γ3 Γ11 ∧ Own dfirthref07_FileT Γ11 80 row16 A14 c15 out_13 ∧ True) ?_ ?_
  · skip
    intro w hw
    have hw := hw.pad
    exact ⟨Γ3, none, 0, [], (sl_ (by kernel_rfl)), hw, (Gh.refl _), (Own.nil dfirthref07_FileT _ 80), trivial⟩
  rintro f18 i19 out_13 σ w hi20 hlt21 hge22 ⟨Γ11, A14, c15, row16, hsl, hw, hl12, ho17, -⟩
  refine Wpt.slots hsl ?_
  refine WC.here (C := CC F Γ11 [row16, rowd, row9]) ?_ hw
  clear hw hsl
  refine WC.seq ?_
  refine WC.rs ?_
  refine va rfl rfl rfl (q_move (v := .int .i64 ((i19 : Nat) : Int)) rfl (by kernel_rfl)) ?_
  refine va rfl rfl rfl (q_move (v := .slice A7 z1.length c8) rfl (by kernel_rfl)) ?_
  refine va rfl rfl rfl (q_len_slice rfl Try.underlying33 rfl) ?_
  refine va rfl rfl rfl (q_lss rfl rfl rfl) ?_
  refine WR.nil ?_
  change WC _ _ _ _ _ _
  refine WC.cond (b := (decide (((i19 : Nat) : Int) < ((z1.length : Nat) : Int)))) (by kernel_rfl) (fun hb23 => ?_) (fun hb23 => ?_)
  · skip
    have hl24 := ilt hb23
    have h := hlt21 hl24
    refine WC.skip ?_
    change WC _ _ _ _ _ _
    refine WC.cut (fun σ w => ∃ (out_27 : List Dfirthref07_File), ∃ (Γ25 : Gh), ∃ (A28 : Option Addr), ∃ (c29 : Nat), ∃ (row30 : Rowb), m_firthlaw07_Files_j5 f18 out_27 = some r ∧ slots σ [(0, .pointer (some ⟨gd, 0, none⟩)), (3, .slice A28 out_27.length c29), (4, .slice A7 z1.length c8), (5, .int .i64 ((i19 : Nat) : Int))] ∧ CC F Γ25 [row30, rowd, row9] w ∧ Gh.le Γ11 Γ25 ∧ Own dfirthref07_FileT Γ25 80 row30 A28 c29 out_27 ∧ True) ?_ ?_
    · skip
      refine WC.block ?_
      refine WC.rs ?_
      refine va rfl rfl rfl (q_move (v := .pointer (some ⟨gd, 0, none⟩)) rfl (by kernel_rfl)) ?_
      refine va rfl rfl rfl (q_move (v := .slice A7 z1.length c8) rfl (by kernel_rfl)) ?_
      refine va rfl rfl rfl (q_move (v := .int .i64 ((i19 : Nat) : Int)) rfl (by kernel_rfl)) ?_
      refine va rfl rfl rfl (q_ixn (i := i19) Try.underlying33 Try.sizeOf9 rfl rfl rfl hl24 ((hr10.mono hl12).some_ hl24)) ?_
      refine va rfl rfl rfl (q_ldo (c := 0) (v := .string (gt z1 i19)) (i := 2) rfl ((hr10.mono hl12).strT_at hl24).2 rfl Try.isAgg9 rfl rfl) ?_
      obtain ⟨z32, hz33, h⟩ := bnd h
      refine e_call (is := [1]) rfl rfl (call_run Try.call12 rfl rfl (by kernel_rfl)) rfl (fun w hp => t_disk_Disk_Read (hd.mono (hl4.trans hl12)) (gt z1 i19) ((hr10.mono hl12).strT_at hl24).1 hp hz33) ?_
      rintro Γ34 U36 v37 hl35 ⟨A38, c39, row40, rfl, rfl, hr41, _⟩
      change WR _ _ _ (CC F Γ34 [rowd, row40, row16, row9]) _ _ (upd _ 22 (.tuple #[.slice A38 z32.1.length c39, .bool z32.2]))
      refine va rfl rfl rfl (q_move (v := .tuple #[.slice A38 z32.1.length c39, .bool z32.2]) rfl (by kernel_rfl)) ?_
      refine va rfl rfl rfl (q_extract (v := .slice A38 z32.1.length c39) rfl rfl rfl) ?_
      refine va rfl rfl rfl (q_extract (v := .bool z32.2) rfl rfl rfl) ?_
      refine va rfl rfl rfl (q_assign (v := .slice A38 z32.1.length c39) rfl (by kernel_rfl)) ?_
      refine va rfl rfl rfl (q_assign (v := .bool z32.2) rfl (by kernel_rfl)) ?_
      refine WR.nil ?_
      change WC _ _ _ _ _ _
      refine WC.rs ?_
      refine va rfl rfl rfl (q_move (v := .bool z32.2) rfl (by kernel_rfl)) ?_
      refine WR.nil ?_
      change WC _ _ _ _ _ _
      refine WC.cif h (by kernel_rfl) (fun hb42 h => ?_) (fun hb42 h => ?_)
      · skip
        refine WC.region ?_
        refine va rfl rfl rfl (q_move (v := .slice A14 out_13.length c15) rfl (by kernel_rfl)) ?_
        refine va rfl rfl rfl (q_move (v := .slice A7 z1.length c8) rfl (by kernel_rfl)) ?_
        refine va rfl rfl rfl (q_move (v := .int .i64 ((i19 : Nat) : Int)) rfl (by kernel_rfl)) ?_
        refine va rfl rfl rfl (q_ixn (i := i19) Try.underlying33 Try.sizeOf9 rfl rfl rfl hl24 ((hr10.mono (hl12.trans hl35)).some_ hl24)) ?_
        refine va rfl rfl rfl (q_ldo (c := 0) (v := .string (gt z1 i19)) (i := 3) rfl ((hr10.mono (hl12.trans hl35)).strT_at hl24).2 rfl Try.isAgg9 rfl rfl) ?_
        refine va rfl rfl rfl (q_move (v := .slice A38 z32.1.length c39) rfl (by kernel_rfl)) ?_
        refine va rfl rfl rfl (q_build' (v := .agg #[.string (gt z1 i19), .slice A38 z32.1.length c39]) rfl (bargs2 rfl rfl) (fun w => by kernel_rfl)) ?_
        have hc47 := hr41.capz
        intro w hw; obtain ⟨Γ43, hw, hl44, hr45⟩ := hw.seal (i := 1) rfl; have hs46 := hr41.sl hl44 hr45
        refine WR.here (C := CC F Γ43 [rowd, [], row16, row9]) ?_ hw
        clear hw
        refine e_buildSlice (cs := #[.string (gt z1 i19), .slice A38 z32.1.length c39]) (e := 80) rfl rfl rfl rfl (fun w => by kernel_rfl) ?_
        intro g48
        obtain ⟨hk49, h⟩ := chk_some h
        refine e_append (T := dfirthref07_FileT) (xs := out_13) (ys := [(⟨(gt z1 i19), z32.1⟩ : Dfirthref07_File)]) elem_44 (i := 3) rfl rfl rfl rfl rfl rfl rfl (ho17.mono (hl35.trans hl44)) (of_decide_eq_true hk49) (fun w hw => src_one (T := dfirthref07_FileT) (y := (⟨(gt z1 i19), z32.1⟩ : Dfirthref07_File)) (i := 0) rfl (by exact ⟨A38, c39, rfl, ⟨((hr10.mono ((hl12.trans hl35).trans hl44)).strT_at hl24).1, ⟨hc47, hs46⟩⟩⟩) hw) ?_
        intro row50 A51 c52 ho53
        refine va rfl rfl rfl (q_assign (v := .slice A51 (out_13 ++ [(⟨(gt z1 i19), z32.1⟩ : Dfirthref07_File)]).length c52) rfl (by kernel_rfl)) ?_
        refine WR.nil ?_
        intro w hw
        exact ⟨(out_13 ++ [(⟨(gt z1 i19), z32.1⟩ : Dfirthref07_File)]), Γ43, A51, c52, row50, h, (sl_ (by kernel_rfl)), (hw.only (is := [3, 1, 2]) rfl), (hl35.trans hl44), ho53, trivial⟩
      · skip
        refine WC.skip ?_
        intro w hw
        exact ⟨out_13, Γ34, A14, c15, row16, h, (sl_ (by kernel_rfl)), (hw.only (is := [2, 0, 1]) rfl), hl35, (ho17.mono hl35), trivial⟩
    · skip
      rintro σ w ⟨out_27, Γ25, A28, c29, row30, h, hsl, hw, hl26, ho31, -⟩
      refine Wpt.slots hsl ?_
      refine WC.here (C := CC F Γ25 [row30, rowd, row9]) ?_ hw
      clear hw hsl
      refine WC.region ?_
      refine va rfl rfl rfl (q_move (v := .int .i64 ((i19 : Nat) : Int)) rfl (by kernel_rfl)) ?_
      refine va rfl rfl rfl (q_add_r (r := ((i19 + 1 : Nat) : Int)) rfl rfl rfl (ctr_len hl24 (hr10.mono hl12).le)) ?_
      refine va rfl rfl rfl (q_assign (v := .int .i64 ((i19 + 1 : Nat) : Int)) rfl (by kernel_rfl)) ?_
      refine WR.nil ?_
      intro w hw
      exact ⟨hl24, out_27, h, Γ25, A28, c29, row30, (sl_ (by kernel_rfl)), hw, (hl12.trans hl26), ho31, trivial⟩
  · skip
    have h := hge22 (ige hb23)
    refine WC.exit ?_
    change WC _ _ _ _ _ _
    refine WC.rs ?_
    refine va rfl rfl rfl (q_move (v := .slice A14 out_13.length c15) rfl (by kernel_rfl)) ?_
    refine va rfl rfl rfl (q_assign (v := .slice A14 out_13.length c15) rfl (by kernel_rfl)) ?_
    refine WR.nil ?_
    change WC _ _ _ _ _ _
    refine WC.ret ?_
    intro w hw
    obtain rfl := Option.some.inj h
    subst hF
    exact end_e (is := [1, 0]) (by kernel_rfl) hw rfl ⟨A14, c15, row16, rfl, rfl, ho17, trivial⟩
set_option maxRecDepth 100000 in
set_option maxHeartbeats 400000 in
theorem t_firthref07_Same {Γ : Gh} {w0 : World} {Aa : Option Addr} {ca : Nat} {a : List Dfirthref07_File} (ha : Sl dfirthref07_FileT Γ Aa a) (hac : a.length ≤ ca) {Ab : Option Addr} {cb : Nat} {b : List Dfirthref07_File} (hb : Sl dfirthref07_FileT Γ Ab b) (hbc : b.length ≤ cb) (hs : Sat Γ w0) {r : Bool} (h : m_firthref07_Same a b = some r) : Calls Try.prog 22 #[.slice Aa a.length ca, .slice Ab b.length cb] w0 (fun e w' => e = .returned (.bool r) ∧ Fr no w0 w') := by
  refine calls_of (N := 43) (rs := [4]) (args := [.slice Aa a.length ca, .slice Ab b.length cb]) Try.func22 rfl Try.ntmps22 Try.results22 rfl ?_
  obtain ⟨F, hF⟩ : ∃ F : Fm, F = ⟨no, w0, Γ⟩ := ⟨_, rfl⟩
  refine WC.here (C := CC F Γ []) ?_ (hF ▸ Cur.start0 hs)
  refine WC.rs ?_
  refine va rfl rfl rfl (q_assign (v := .bool false) rfl (by kernel_rfl)) ?_
  refine WR.nil ?_
  change WC _ _ _ _ _ _
  refine WC.seq ?_
  refine WC.rs ?_
  refine va rfl rfl rfl (q_move (v := .slice Aa a.length ca) rfl (by kernel_rfl)) ?_
  refine va rfl rfl rfl (q_len_slice rfl Try.underlying44 rfl) ?_
  refine va rfl rfl rfl (q_move (v := .slice Ab b.length cb) rfl (by kernel_rfl)) ?_
  refine va rfl rfl rfl (q_len_slice rfl Try.underlying44 rfl) ?_
  refine va rfl rfl rfl (q_neq rfl rfl rfl) ?_
  refine WR.nil ?_
  change WC _ _ _ _ _ _
  refine WC.cif h (by kernel_rfl) (fun hb1 h => ?_) (fun hb1 h => ?_)
  · skip
    refine WC.rs ?_
    refine va rfl rfl rfl (q_assign (v := .bool false) rfl (by kernel_rfl)) ?_
    refine WR.nil ?_
    change WC _ _ _ _ _ _
    refine WC.ret ?_
    intro w hw
    obtain rfl := Option.some.inj h
    subst hF
    exact ⟨by kernel_rfl, hw.fr⟩
  · skip
    refine WC.skip ?_
    change WC _ _ _ _ _ _
    refine WC.seq ?_
    refine WC.rs ?_
    refine va rfl rfl rfl (q_assign (v := .int .i64 0) rfl (by kernel_rfl)) ?_
    refine WR.nil ?_
    change WC _ _ _ _ _ _
    refine WC.block ?_
    refine WC.forI h (fun (i3 : Nat) (s : Unit) σ w => match s with | () => slots σ [(0, .slice Aa a.length ca), (1, .slice Ab b.length cb), (5, .int .i64 ((i3 : Nat) : Int))] ∧ CC F Γ [] w ∧ True) ?_ ?_
    · skip
      intro w hw
      exact ⟨(sl_ (by kernel_rfl)), hw, trivial⟩
    rintro f2 i3 ⟨⟩ σ w hi4 hlt5 hge6 ⟨hsl, hw, -⟩
    refine Wpt.slots hsl ?_
    refine WC.here (C := CC F Γ []) ?_ hw
    clear hw hsl
    refine WC.seq ?_
    refine WC.rs ?_
    refine va rfl rfl rfl (q_move (v := .int .i64 ((i3 : Nat) : Int)) rfl (by kernel_rfl)) ?_
    refine va rfl rfl rfl (q_move (v := .slice Aa a.length ca) rfl (by kernel_rfl)) ?_
    refine va rfl rfl rfl (q_len_slice rfl Try.underlying44 rfl) ?_
    refine va rfl rfl rfl (q_lss rfl rfl rfl) ?_
    refine WR.nil ?_
    change WC _ _ _ _ _ _
    refine WC.cond (b := (decide (((i3 : Nat) : Int) < ((a.length : Nat) : Int)))) (by kernel_rfl) (fun hb7 => ?_) (fun hb7 => ?_)
    · skip
      have hl8 := ilt hb7
      have h := hlt5 hl8
      refine WC.skip ?_
      change WC _ _ _ _ _ _
      refine WC.seq ?_
      refine WC.block ?_
      refine WC.seq ?_
      refine WC.dr (by kernel_rfl) (by kernel_rfl) (fun w hw => hw.drawn _) ?_
      refine wa rfl rfl rfl (q_move (v := .slice Aa a.length ca) rfl (by kernel_rfl)) ?_
      refine wa rfl rfl rfl (q_move (v := .int .i64 ((i3 : Nat) : Int)) rfl (by kernel_rfl)) ?_
      refine wa rfl rfl rfl (q_ixn (i := i3) Try.underlying44 Try.sizeOf80 rfl rfl rfl hl8 (ha.some_ hl8)) ?_
      refine wa rfl rfl rfl (q_field_addr (i3 * 2) fld_80_0 rfl rfl (ha.some_ hl8) rfl) ?_
      obtain ⟨A9, c10, hx11⟩ := ha.dfirthref07_FileT_at i3
      refine wa rfl rfl rfl (q_ld (c := 0) (v := .string (gt a i3).name) (hx11 hl8).2 rfl Try.isAgg9 rfl rfl) ?_
      refine wa rfl rfl rfl (q_move (v := .slice Ab b.length cb) rfl (by kernel_rfl)) ?_
      refine wa rfl rfl rfl (q_move (v := .int .i64 ((i3 : Nat) : Int)) rfl (by kernel_rfl)) ?_
      obtain ⟨hk12, h⟩ := chk_some h
      refine wa rfl rfl rfl (q_ixn (i := i3) Try.underlying44 Try.sizeOf80 rfl rfl rfl (of_decide_eq_true hk12) (hb.some_ (of_decide_eq_true hk12))) ?_
      refine wa rfl rfl rfl (q_field_addr (i3 * 2) fld_80_0 rfl rfl (hb.some_ (of_decide_eq_true hk12)) rfl) ?_
      obtain ⟨A13, c14, hx15⟩ := hb.dfirthref07_FileT_at i3
      refine wa rfl rfl rfl (q_ld (c := 0) (v := .string (gt b i3).name) (hx15 (of_decide_eq_true hk12)).2 rfl Try.isAgg9 rfl rfl) ?_
      refine wa rfl rfl rfl (q_sneq rfl rfl rfl) ?_
      refine wa rfl rfl rfl (q_move (v := .bool ((gt a i3).name != (gt b i3).name)) rfl (by kernel_rfl)) ?_
      refine wg0 rfl rfl rfl rfl rfl (fun hg16 => QV.qo (q_move (v := .slice Aa a.length ca) rfl (by kernel_rfl))) ?_
      refine wg0 rfl rfl rfl rfl rfl (fun hg17 => QV.qo (q_move (v := .int .i64 ((i3 : Nat) : Int)) rfl (by kernel_rfl))) ?_
      refine wg0 rfl rfl rfl rfl rfl (fun hg18 => QV.qo (q_ixn (i := i3) Try.underlying44 Try.sizeOf80 rfl (gu hg18 rfl) (gu hg18 rfl) hl8 (ha.some_ hl8))) ?_
      refine wg0 rfl rfl rfl rfl rfl (fun hg19 => QV.qo (q_field_addr (i3 * 2 + 1) fld_80_1 rfl (gu hg19 rfl) (ha.some_ hl8) rfl)) ?_
      refine wg0 rfl rfl rfl rfl rfl (fun hg20 => QV.qo (q_ld (c := 1) (v := .slice A9 ((gt a i3).data).length c10) (hx11 hl8).2 rfl Try.isAgg22 (gu hg20 rfl) rfl)) ?_
      refine wg0 rfl rfl rfl rfl rfl (fun hg21 => QV.qo (q_bstr (hx11 hl8).1.2.2 Try.underlying22 Try.underlying5 Try.underlying9 rfl (gu hg21 rfl))) ?_
      refine wg0 rfl rfl rfl rfl rfl (fun hg22 => QV.qo (q_move (v := .slice Ab b.length cb) rfl (by kernel_rfl))) ?_
      refine wg0 rfl rfl rfl rfl rfl (fun hg23 => QV.qo (q_move (v := .int .i64 ((i3 : Nat) : Int)) rfl (by kernel_rfl))) ?_
      refine wg0 rfl rfl rfl rfl rfl (fun hg24 => QV.qo (q_ixn (i := i3) Try.underlying44 Try.sizeOf80 rfl (gu hg24 rfl) (gu hg24 rfl) (of_decide_eq_true hk12) (hb.some_ (of_decide_eq_true hk12)))) ?_
      refine wg0 rfl rfl rfl rfl rfl (fun hg25 => QV.qo (q_field_addr (i3 * 2 + 1) fld_80_1 rfl (gu hg25 rfl) (hb.some_ (of_decide_eq_true hk12)) rfl)) ?_
      refine wg0 rfl rfl rfl rfl rfl (fun hg26 => QV.qo (q_ld (c := 1) (v := .slice A13 ((gt b i3).data).length c14) (hx15 (of_decide_eq_true hk12)).2 rfl Try.isAgg22 (gu hg26 rfl) rfl)) ?_
      refine wg0 rfl rfl rfl rfl rfl (fun hg27 => QV.qo (q_bstr (hx15 (of_decide_eq_true hk12)).1.2.2 Try.underlying22 Try.underlying5 Try.underlying9 rfl (gu hg27 rfl))) ?_
      refine wg0 rfl rfl rfl rfl rfl (fun hg28 => QV.qo (q_sneq rfl (gu hg28 rfl) (gu hg28 rfl))) ?_
      refine wa rfl rfl rfl (q_pick rfl rfl (pk_or' (g := ((gt a i3).name != (gt b i3).name)) (y := ((⟨((gt a i3).data).toArray⟩ : ByteArray) != (⟨((gt b i3).data).toArray⟩ : ByteArray))))) ?_
      refine WQ.nil ?_
      change WC _ _ _ _ _ _
      refine WC.cif h (by kernel_rfl) (fun hb29 h => ?_) (fun hb29 h => ?_)
      · skip
        refine WC.rs ?_
        refine va rfl rfl rfl (q_assign (v := .bool false) rfl (by kernel_rfl)) ?_
        refine WR.nil ?_
        change WC _ _ _ _ _ _
        refine WC.ret ?_
        intro w hw
        obtain rfl := Option.some.inj h
        subst hF
        exact ⟨by kernel_rfl, hw.fr⟩
      · skip
        refine WC.skip ?_
        change WC _ _ _ _ _ _
        refine WC.region ?_
        refine va rfl rfl rfl (q_move (v := .int .i64 ((i3 : Nat) : Int)) rfl (by kernel_rfl)) ?_
        refine va rfl rfl rfl (q_add_r (r := ((i3 + 1 : Nat) : Int)) rfl rfl rfl (ctr_len hl8 ha.le)) ?_
        refine va rfl rfl rfl (q_assign (v := .int .i64 ((i3 + 1 : Nat) : Int)) rfl (by kernel_rfl)) ?_
        refine WR.nil ?_
        intro w hw
        exact ⟨hl8, (), h, (sl_ (by kernel_rfl)), hw, trivial⟩
    · skip
      have h := hge6 (ige hb7)
      refine WC.exit ?_
      change WC _ _ _ _ _ _
      refine WC.rs ?_
      refine va rfl rfl rfl (q_assign (v := .bool true) rfl (by kernel_rfl)) ?_
      refine WR.nil ?_
      change WC _ _ _ _ _ _
      refine WC.ret ?_
      intro w hw
      obtain rfl := Option.some.inj h
      subst hF
      exact ⟨by kernel_rfl, hw.fr⟩
set_option maxRecDepth 100000 in
set_option maxHeartbeats 400000 in
theorem t_firthlaw07_DiskCrash {Γ : Gh} {w0 : World} {Asafe_ : Option Addr} {csafe_ : Nat} {safe_ : List Dfirthlaw07_Op} (hsafe_ : Sl dfirthlaw07_OpT Γ Asafe_ safe_) (hsafe_c : safe_.length ≤ csafe_) {Aloose : Option Addr} {cloose : Nat} {loose : List Dfirthlaw07_Op} (hloose : Sl dfirthlaw07_OpT Γ Aloose loose) (hloosec : loose.length ≤ cloose) (fate0 : Int) (hfate0 : I64 fate0) (fate1 : Int) (hfate1 : I64 fate1) (hs : Sat Γ w0) {r : Bool} (h : m_firthlaw07_DiskCrash safe_ loose fate0 fate1 = some r) : Calls Try.prog 6 #[.slice Asafe_ safe_.length csafe_, .slice Aloose loose.length cloose, .agg #[.int .i64 fate0, .int .i64 fate1]] w0 (fun e w' => e = .returned (.bool r) ∧ Fr no w0 w') := by
  refine calls_of (N := 136) (rs := [6]) (args := [.slice Asafe_ safe_.length csafe_, .slice Aloose loose.length cloose, .agg #[.int .i64 fate0, .int .i64 fate1]]) Try.func6 rfl Try.ntmps6 Try.results6 rfl ?_
  obtain ⟨F, hF⟩ : ∃ F : Fm, F = ⟨no, w0, Γ⟩ := ⟨_, rfl⟩
  refine WC.here (C := CC F Γ []) ?_ (hF ▸ Cur.start0 hs)
  refine WC.rs ?_
  refine e_box (v := .agg #[.int .i64 fate0, .int .i64 fate1]) rfl rfl rfl rfl (by kernel_rfl) ?_
  intro g1
  refine va rfl rfl rfl (q_assign (v := .bool false) rfl (by kernel_rfl)) ?_
  refine WR.nil ?_
  change WC _ _ _ _ _ _
  refine WC.seq ?_
  refine WC.rs ?_
  obtain ⟨z2, hz3, h⟩ := bnd h
  refine vc rfl rfl rfl (q_call (call_run Try.call9 rfl rfl (by kernel_rfl)) (fun w hw => t_firthlaw07_awake (Γ := Gh.all w)  (Sat.all w) hz3)) ?_
  refine va rfl rfl rfl (q_not rfl rfl) ?_
  refine WR.nil ?_
  change WC _ _ _ _ _ _
  refine WC.cif h (by kernel_rfl) (fun hb4 h => ?_) (fun hb4 h => ?_)
  · skip
    refine WC.rs ?_
    refine va rfl rfl rfl (q_assign (v := .bool false) rfl (by kernel_rfl)) ?_
    refine WR.nil ?_
    change WC _ _ _ _ _ _
    refine WC.ret ?_
    intro w hw
    obtain rfl := Option.some.inj h
    subst hF
    exact ⟨by kernel_rfl, hw.fr⟩
  · skip
    refine WC.skip ?_
    change WC _ _ _ _ _ _
    refine WC.rs ?_
    refine va rfl rfl rfl (q_ixa_ (0) Try.underlying52 Try.sizeOf3 rfl rfl rfl rfl rfl) ?_
    refine va rfl rfl rfl (q_ldl (i := 0) (v := .int .i64 fate0) rfl rfl Try.isAgg3 rfl rfl) ?_
    refine va rfl rfl rfl (q_assign (v := .int .i64 fate0) rfl (by kernel_rfl)) ?_
    refine WR.nil ?_
    change WC _ _ _ _ _ _
    refine WC.rs ?_
    refine va rfl rfl rfl (q_ixa_ (1) Try.underlying52 Try.sizeOf3 rfl rfl rfl rfl rfl) ?_
    refine va rfl rfl rfl (q_ldl (i := 0) (v := .int .i64 fate1) rfl rfl Try.isAgg3 rfl rfl) ?_
    refine va rfl rfl rfl (q_assign (v := .int .i64 fate1) rfl (by kernel_rfl)) ?_
    refine WR.nil ?_
    change WC _ _ _ _ _ _
    refine WC.rs ?_
    obtain ⟨z5, hz6, h⟩ := bnd h
    refine e_call (is := []) rfl rfl (call_run Try.call10 rfl rfl (by kernel_rfl)) rfl (fun w hp => t_disk_New 4096 (show I64 4096 by decide) hp hz6) ?_
    rintro Γ7 U9 v10 hl8 ⟨g11, row12, rfl, rfl, hr13, _⟩
    change WR _ _ _ (CC F Γ7 [row12, [(g1, .cells #[.int .i64 fate0, .int .i64 fate1] 52 (0, 0))]]) _ _ (upd _ 22 (.pointer (some ⟨g11, 0, none⟩)))
    refine va rfl rfl rfl (q_assign (v := .pointer (some ⟨g11, 0, none⟩)) rfl (by kernel_rfl)) ?_
    refine WR.nil ?_
    change WC _ _ _ _ _ _
    refine WC.rs ?_
    obtain ⟨z14, hz15, h⟩ := bnd h
    refine e_call (is := []) rfl rfl (call_run Try.call10 rfl rfl (by kernel_rfl)) rfl (fun w hp => t_disk_New 4096 (show I64 4096 by decide) hp hz15) ?_
    rintro Γ16 U18 v19 hl17 ⟨g20, row21, rfl, rfl, hr22, _⟩
    change WR _ _ _ (CC F Γ16 [row21, row12, [(g1, .cells #[.int .i64 fate0, .int .i64 fate1] 52 (0, 0))]]) _ _ (upd _ 23 (.pointer (some ⟨g20, 0, none⟩)))
    refine va rfl rfl rfl (q_assign (v := .pointer (some ⟨g20, 0, none⟩)) rfl (by kernel_rfl)) ?_
    refine WR.nil ?_
    change WC _ _ _ _ _ _
    refine WC.rs ?_
    obtain ⟨z23, hz24, h⟩ := bnd h
    refine e_call (is := []) rfl rfl (call_run Try.call19 rfl rfl (by kernel_rfl)) rfl (fun w hp => t_firthref07_New 4096 (show I64 4096 by decide) hp hz24) ?_
    rintro Γ25 U27 v28 hl26 ⟨g29, row30, rfl, rfl, hr31, _⟩
    change WR _ _ _ (CC F Γ25 [row30, row21, row12, [(g1, .cells #[.int .i64 fate0, .int .i64 fate1] 52 (0, 0))]]) _ _ (upd _ 24 (.pointer (some ⟨g29, 0, none⟩)))
    refine va rfl rfl rfl (q_assign (v := .pointer (some ⟨g29, 0, none⟩)) rfl (by kernel_rfl)) ?_
    refine WR.nil ?_
    change WC _ _ _ _ _ _
    refine WC.seq ?_
    refine WC.rs ?_
    refine va rfl rfl rfl (q_assign (v := .int .i64 0) rfl (by kernel_rfl)) ?_
    refine WR.nil ?_
    change WC _ _ _ _ _ _
    refine WC.block ?_
    refine WC.forI h (fun (i44 : Nat) (s : Ofirthref07_Disk × Odisk_Disk × Odisk_Disk) σ w => match s with | (o34, o37, o40) => ∃ (Γ32 : Gh), ∃ (row35 : Rowb), ∃ (row38 : Rowb), ∃ (row41 : Rowb), slots σ [(0, .slice Asafe_ safe_.length csafe_), (1, .slice Aloose loose.length cloose), (7, .int .i64 fate0), (8, .int .i64 fate1), (9, .pointer (some ⟨g11, 0, none⟩)), (10, .pointer (some ⟨g20, 0, none⟩)), (11, .pointer (some ⟨g29, 0, none⟩)), (12, .int .i64 ((i44 : Nat) : Int))] ∧ CC F Γ32 [row35, row38, row41] w ∧ Gh.le Γ25 Γ32 ∧ Ofirthref07_Disk.ob 47 Γ32 g29 row35 o34 ∧ Odisk_Disk.ob 61 Γ32 g20 row38 o37 ∧ Odisk_Disk.ob 61 Γ32 g11 row41 o40 ∧ True) ?_ ?_
    · skip
      intro w hw
      exact ⟨Γ25, row30, row21, row12, (sl_ (by kernel_rfl)), (hw.only (is := [0, 0, 0]) rfl), (Gh.refl _), hr31, (hr22.mono hl26), (hr13.mono (hl17.trans hl26)), trivial⟩
    rintro f43 i44 ⟨o34, o37, o40⟩ σ w hi45 hlt46 hge47 ⟨Γ32, row35, row38, row41, hsl, hw, hl33, ho36, ho39, ho42, -⟩
    refine Wpt.slots hsl ?_
    refine WC.here (C := CC F Γ32 [row35, row38, row41]) ?_ hw
    clear hw hsl
    refine WC.seq ?_
    refine WC.rs ?_
    refine va rfl rfl rfl (q_move (v := .int .i64 ((i44 : Nat) : Int)) rfl (by kernel_rfl)) ?_
    refine va rfl rfl rfl (q_move (v := .slice Asafe_ safe_.length csafe_) rfl (by kernel_rfl)) ?_
    refine va rfl rfl rfl (q_len_slice rfl Try.underlying38 rfl) ?_
    refine va rfl rfl rfl (q_lss rfl rfl rfl) ?_
    refine WR.nil ?_
    change WC _ _ _ _ _ _
    refine WC.cond (b := (decide (((i44 : Nat) : Int) < ((safe_.length : Nat) : Int)))) (by kernel_rfl) (fun hb48 => ?_) (fun hb48 => ?_)
    · skip
      have hl49 := ilt hb48
      have h := hlt46 hl49
      refine WC.skip ?_
      change WC _ _ _ _ _ _
      refine WC.seq ?_
      refine WC.block ?_
      refine WC.rs ?_
      refine va rfl rfl rfl (q_move (v := .pointer (some ⟨g11, 0, none⟩)) rfl (by kernel_rfl)) ?_
      refine va rfl rfl rfl (q_move (v := .pointer (some ⟨g29, 0, none⟩)) rfl (by kernel_rfl)) ?_
      refine va rfl rfl rfl (q_move (v := .slice Asafe_ safe_.length csafe_) rfl (by kernel_rfl)) ?_
      refine va rfl rfl rfl (q_move (v := .int .i64 ((i44 : Nat) : Int)) rfl (by kernel_rfl)) ?_
      refine va rfl rfl rfl (q_ixn (i := i44) Try.underlying38 Try.sizeOf43 rfl rfl rfl hl49 ((hsafe_.mono (((hl8.trans hl17).trans hl26).trans hl33)).some_ hl49)) ?_
      obtain ⟨A50, c51, hx52⟩ := (hsafe_.mono (((hl8.trans hl17).trans hl26).trans hl33)).dfirthlaw07_OpT_at i44
      refine va rfl rfl rfl (q_lda (c := 0) (vs := [.int .i64 (gt safe_ i44).kind, .string (gt safe_ i44).name, .string (gt safe_ i44).to_, .slice A50 ((gt safe_ i44).data).length c51, .int .i64 (gt safe_ i44).n, .int .i64 (gt safe_ i44).torn]) (hx52 hl49).2 rfl Try.isAgg43 Try.sizeOf43 rfl rfl rfl) ?_
      obtain ⟨z53, hz54, h⟩ := bnd h
      refine e_call (is := [2, 0]) rfl rfl (call_run Try.call20 rfl rfl (by kernel_rfl)) rfl (fun w hp => t_firthlaw07_does ho42 ho36 (gt safe_ i44) (hx52 hl49).1 hp hz54) ?_
      rintro Γ55 U57 v58 hl56 ⟨row59, row61, rfl, rfl, hr60, hr62, _⟩
      change WR _ _ _ (CC F Γ55 [row59, row61, row38]) _ _ (upd _ 37 (.bool z53.2.2))
      refine WR.nil ?_
      change WC _ _ _ _ _ _
      refine WC.region ?_
      refine va rfl rfl rfl (q_move (v := .pointer (some ⟨g20, 0, none⟩)) rfl (by kernel_rfl)) ?_
      refine va rfl rfl rfl (q_move (v := .pointer (some ⟨g29, 0, none⟩)) rfl (by kernel_rfl)) ?_
      refine va rfl rfl rfl (q_move (v := .slice Asafe_ safe_.length csafe_) rfl (by kernel_rfl)) ?_
      refine va rfl rfl rfl (q_move (v := .int .i64 ((i44 : Nat) : Int)) rfl (by kernel_rfl)) ?_
      refine va rfl rfl rfl (q_ixn (i := i44) Try.underlying38 Try.sizeOf43 rfl rfl rfl hl49 ((hsafe_.mono ((((hl8.trans hl17).trans hl26).trans hl33).trans hl56)).some_ hl49)) ?_
      refine va rfl rfl rfl (q_lda (c := 0) (vs := [.int .i64 (gt safe_ i44).kind, .string (gt safe_ i44).name, .string (gt safe_ i44).to_, .slice A50 ((gt safe_ i44).data).length c51, .int .i64 (gt safe_ i44).n, .int .i64 (gt safe_ i44).torn]) ((hx52 hl49).2.mono hl56) rfl Try.isAgg43 Try.sizeOf43 rfl rfl rfl) ?_
      obtain ⟨z63, hz64, h⟩ := bnd h
      refine e_call (is := [2, 1]) rfl rfl (call_run Try.call20 rfl rfl (by kernel_rfl)) rfl (fun w hp => t_firthlaw07_does (ho39.mono hl56) hr62 (gt safe_ i44) (Dfirthlaw07_Op.fits_mono (hx52 hl49).1 hl56) hp hz64) ?_
      rintro Γ65 U67 v68 hl66 ⟨row69, row71, rfl, rfl, hr70, hr72, _⟩
      change WR _ _ _ (CC F Γ65 [row69, row71, row59]) _ _ (upd _ 44 (.bool z63.2.2))
      refine WR.nil ?_
      change WC _ _ _ _ _ _
      refine WC.region ?_
      refine va rfl rfl rfl (q_move (v := .int .i64 ((i44 : Nat) : Int)) rfl (by kernel_rfl)) ?_
      refine va rfl rfl rfl (q_add_r (r := ((i44 + 1 : Nat) : Int)) rfl rfl rfl (ctr_len hl49 (hsafe_.mono (((hl8.trans hl17).trans hl26).trans hl33)).le)) ?_
      refine va rfl rfl rfl (q_assign (v := .int .i64 ((i44 + 1 : Nat) : Int)) rfl (by kernel_rfl)) ?_
      refine WR.nil ?_
      intro w hw
      exact ⟨hl49, (z63.2.1, z63.1, z53.1), h, Γ65, row71, row69, row59, (sl_ (by kernel_rfl)), (hw.only (is := [1, 0, 0]) rfl), ((hl33.trans hl56).trans hl66), hr72, hr70, (hr60.mono hl66), trivial⟩
    · skip
      have h := hge47 (ige hb48)
      refine WC.exit ?_
      change WC _ _ _ _ _ _
      refine WC.rs ?_
      refine va rfl rfl rfl (q_move (v := .pointer (some ⟨g11, 0, none⟩)) rfl (by kernel_rfl)) ?_
      obtain ⟨z73, hz74, h⟩ := bnd h
      refine e_call (is := [2]) rfl rfl (call_run Try.call25 rfl rfl (by kernel_rfl)) rfl (fun w hp => t_disk_Disk_Sync ho42 hp hz74) ?_
      rintro Γ75 U77 v78 hl76 ⟨row79, rfl, rfl, hr80, _⟩
      change WR _ _ _ (CC F Γ75 [row79, row35, row38]) _ _ (upd _ 46 (.tuple #[]))
      refine WR.nil ?_
      change WC _ _ _ _ _ _
      refine WC.rs ?_
      refine va rfl rfl rfl (q_move (v := .pointer (some ⟨g20, 0, none⟩)) rfl (by kernel_rfl)) ?_
      obtain ⟨z81, hz82, h⟩ := bnd h
      refine e_call (is := [2]) rfl rfl (call_run Try.call25 rfl rfl (by kernel_rfl)) rfl (fun w hp => t_disk_Disk_Sync (ho39.mono hl76) hp hz82) ?_
      rintro Γ83 U85 v86 hl84 ⟨row87, rfl, rfl, hr88, _⟩
      change WR _ _ _ (CC F Γ83 [row87, row79, row35]) _ _ (upd _ 48 (.tuple #[]))
      refine WR.nil ?_
      change WC _ _ _ _ _ _
      refine WC.seq ?_
      refine WC.rs ?_
      refine va rfl rfl rfl (q_assign (v := .int .i64 0) rfl (by kernel_rfl)) ?_
      refine WR.nil ?_
      change WC _ _ _ _ _ _
      refine WC.block ?_
      refine WC.forI h (fun (i101 : Nat) (s : Odisk_Disk × Odisk_Disk × Ofirthref07_Disk) σ w => match s with | (o91, o94, o97) => ∃ (Γ89 : Gh), ∃ (row92 : Rowb), ∃ (row95 : Rowb), ∃ (row98 : Rowb), slots σ [(1, .slice Aloose loose.length cloose), (7, .int .i64 fate0), (8, .int .i64 fate1), (9, .pointer (some ⟨g11, 0, none⟩)), (10, .pointer (some ⟨g20, 0, none⟩)), (11, .pointer (some ⟨g29, 0, none⟩)), (13, .int .i64 ((i101 : Nat) : Int))] ∧ CC F Γ89 [row92, row95, row98] w ∧ Gh.le Γ83 Γ89 ∧ Odisk_Disk.ob 61 Γ89 g20 row92 o91 ∧ Odisk_Disk.ob 61 Γ89 g11 row95 o94 ∧ Ofirthref07_Disk.ob 47 Γ89 g29 row98 o97 ∧ True) ?_ ?_
      · skip
        intro w hw
        exact ⟨Γ83, row87, row79, row35, (sl_ (by kernel_rfl)), hw, (Gh.refl _), hr88, (hr80.mono hl84), (ho36.mono (hl76.trans hl84)), trivial⟩
      rintro f100 i101 ⟨o91, o94, o97⟩ σ w hi102 hlt103 hge104 ⟨Γ89, row92, row95, row98, hsl, hw, hl90, ho93, ho96, ho99, -⟩
      refine Wpt.slots hsl ?_
      refine WC.here (C := CC F Γ89 [row92, row95, row98]) ?_ hw
      clear hw hsl
      refine WC.seq ?_
      refine WC.rs ?_
      refine va rfl rfl rfl (q_move (v := .int .i64 ((i101 : Nat) : Int)) rfl (by kernel_rfl)) ?_
      refine va rfl rfl rfl (q_move (v := .slice Aloose loose.length cloose) rfl (by kernel_rfl)) ?_
      refine va rfl rfl rfl (q_len_slice rfl Try.underlying38 rfl) ?_
      refine va rfl rfl rfl (q_lss rfl rfl rfl) ?_
      refine WR.nil ?_
      change WC _ _ _ _ _ _
      refine WC.cond (b := (decide (((i101 : Nat) : Int) < ((loose.length : Nat) : Int)))) (by kernel_rfl) (fun hb105 => ?_) (fun hb105 => ?_)
      · skip
        have hl106 := ilt hb105
        have h := hlt103 hl106
        refine WC.skip ?_
        change WC _ _ _ _ _ _
        refine WC.cut (fun σ w => ∃ (o109 : Odisk_Disk), ∃ (o112 : Odisk_Disk), ∃ (o115 : Ofirthref07_Disk), ∃ (Γ107 : Gh), ∃ (row110 : Rowb), ∃ (row113 : Rowb), ∃ (row116 : Rowb), m_firthlaw07_DiskCrash_j12 f100 o109 o112 o115 = some r ∧ slots σ [(1, .slice Aloose loose.length cloose), (7, .int .i64 fate0), (8, .int .i64 fate1), (9, .pointer (some ⟨g11, 0, none⟩)), (10, .pointer (some ⟨g20, 0, none⟩)), (11, .pointer (some ⟨g29, 0, none⟩)), (13, .int .i64 ((i101 : Nat) : Int))] ∧ CC F Γ107 [row110, row113, row116] w ∧ Gh.le Γ89 Γ107 ∧ Odisk_Disk.ob 61 Γ107 g20 row110 o109 ∧ Odisk_Disk.ob 61 Γ107 g11 row113 o112 ∧ Ofirthref07_Disk.ob 47 Γ107 g29 row116 o115 ∧ True) ?_ ?_
        · skip
          refine WC.block ?_
          refine WC.rs ?_
          refine va rfl rfl rfl (q_move (v := .slice Aloose loose.length cloose) rfl (by kernel_rfl)) ?_
          refine va rfl rfl rfl (q_move (v := .int .i64 ((i101 : Nat) : Int)) rfl (by kernel_rfl)) ?_
          refine va rfl rfl rfl (q_ixn (i := i101) Try.underlying38 Try.sizeOf43 rfl rfl rfl hl106 ((hloose.mono ((((((hl8.trans hl17).trans hl26).trans hl33).trans hl76).trans hl84).trans hl90)).some_ hl106)) ?_
          obtain ⟨A118, c119, hx120⟩ := (hloose.mono ((((((hl8.trans hl17).trans hl26).trans hl33).trans hl76).trans hl84).trans hl90)).dfirthlaw07_OpT_at i101
          refine va rfl rfl rfl (q_lda (c := 0) (vs := [.int .i64 (gt loose i101).kind, .string (gt loose i101).name, .string (gt loose i101).to_, .slice A118 ((gt loose i101).data).length c119, .int .i64 (gt loose i101).n, .int .i64 (gt loose i101).torn]) (hx120 hl106).2 rfl Try.isAgg43 Try.sizeOf43 rfl rfl rfl) ?_
          refine e_alloc Try.zeroValue43 rfl rfl rfl rfl ?_
          intro g121
          refine e_st (i := 0) (v := .agg #[.int .i64 (gt loose i101).kind, .string (gt loose i101).name, .string (gt loose i101).to_, .slice A118 ((gt loose i101).data).length c119, .int .i64 (gt loose i101).n, .int .i64 (gt loose i101).torn]) (new := #[.int .i64 (gt loose i101).kind, .string (gt loose i101).name, .string (gt loose i101).to_, .slice A118 ((gt loose i101).data).length c119, .int .i64 (gt loose i101).n, .int .i64 (gt loose i101).torn]) rfl Try.sizeOf43 rfl rfl rfl rfl (by kernel_rfl) rfl rfl rfl rfl ?_
          refine WR.nil ?_
          change WC _ _ _ _ _ _
          refine WC.seq ?_
          refine WC.rs ?_
          refine va rfl rfl rfl (q_fl 0 fld_43_0 rfl rfl rfl) ?_
          refine va rfl rfl rfl (q_ldl (i := 0) (v := .int .i64 (gt loose i101).kind) rfl rfl Try.isAgg3 rfl rfl) ?_
          refine va rfl rfl rfl (q_lss rfl rfl rfl) ?_
          refine va rfl rfl rfl (q_move (v := .bool (decide ((gt loose i101).kind < 1))) rfl (by kernel_rfl)) ?_
          refine vg0 rfl rfl rfl rfl rfl (fun hg122 => QV.qo (q_fl 0 fld_43_0 rfl rfl rfl)) ?_
          refine vg0 rfl rfl rfl rfl rfl (fun hg123 => QV.qo (q_ldl (i := 0) (v := .int .i64 (gt loose i101).kind) rfl rfl Try.isAgg3 (gu hg123 rfl) rfl)) ?_
          refine vg0 rfl rfl rfl rfl rfl (fun hg124 => QV.qo (q_gtr rfl (gu hg124 rfl) rfl)) ?_
          refine va rfl rfl rfl (q_pick rfl rfl (pk_or' (g := (decide ((gt loose i101).kind < 1))) (y := (decide (4 < (gt loose i101).kind))))) ?_
          refine WR.nil ?_
          change WC _ _ _ _ _ _
          refine WC.cif h (by kernel_rfl) (fun hb125 h => ?_) (fun hb125 h => ?_)
          · skip
            refine WC.exit ?_
            intro w hw
            exact ⟨o91, o94, o97, Γ89, row92, row95, row98, h, (sl_ (by kernel_rfl)), (hw.only (is := [1, 1, 1]) rfl), (Gh.refl _), ho93, ho96, ho99, trivial⟩
          · skip
            refine WC.skip ?_
            change WC _ _ _ _ _ _
            refine WC.rs ?_
            refine va rfl rfl rfl (q_move (v := .pointer (some ⟨g11, 0, none⟩)) rfl (by kernel_rfl)) ?_
            obtain ⟨z126, hz127, h⟩ := bnd h
            refine vc rfl rfl rfl (q_call (call_run Try.call17 rfl rfl (by kernel_rfl)) (fun w hw => t_disk_Disk_Loose (Γ := Gh.all w) (ho96.mono hw.sat.le_all) (hw.ra 2 rfl) (Sat.all w) hz127)) ?_
            refine va rfl rfl rfl (q_assign (v := .int .i64 z126) rfl (by kernel_rfl)) ?_
            refine WR.nil ?_
            change WC _ _ _ _ _ _
            refine WC.rs ?_
            refine va rfl rfl rfl (q_move (v := .pointer (some ⟨g11, 0, none⟩)) rfl (by kernel_rfl)) ?_
            refine va rfl rfl rfl (q_move (v := .pointer (some ⟨g29, 0, none⟩)) rfl (by kernel_rfl)) ?_
            refine va rfl rfl rfl (q_ldla (i := 0) (vs := [.int .i64 (gt loose i101).kind, .string (gt loose i101).name, .string (gt loose i101).to_, .slice A118 ((gt loose i101).data).length c119, .int .i64 (gt loose i101).n, .int .i64 (gt loose i101).torn]) rfl rfl Try.isAgg43 Try.sizeOf43 rfl rfl) ?_
            obtain ⟨z128, hz129, h⟩ := bnd h
            refine e_call (is := [2, 2]) rfl rfl (call_run Try.call20 rfl rfl (by kernel_rfl)) rfl (fun w hp => t_firthlaw07_does ho96 ho99 (gt loose i101) (hx120 hl106).1 hp hz129) ?_
            rintro Γ130 U132 v133 hl131 ⟨row134, row136, rfl, rfl, hr135, hr137, _⟩
            change WR _ _ _ (CC F Γ130 [row134, row136, [(g121, .cells #[.int .i64 (gt loose i101).kind, .string (gt loose i101).name, .string (gt loose i101).to_, .slice A118 ((gt loose i101).data).length c119, .int .i64 (gt loose i101).n, .int .i64 (gt loose i101).torn] 43 (0, 0))], row92]) _ _ (upd _ 72 (.bool z128.2.2))
            refine WR.nil ?_
            change WC _ _ _ _ _ _
            refine WC.seq ?_
            refine WC.rs ?_
            refine va rfl rfl rfl (q_move (v := .pointer (some ⟨g11, 0, none⟩)) rfl (by kernel_rfl)) ?_
            obtain ⟨z138, hz139, h⟩ := bnd h
            refine vc rfl rfl rfl (q_call (call_run Try.call17 rfl rfl (by kernel_rfl)) (fun w hw => t_disk_Disk_Loose (Γ := Gh.all w) (hr135.mono hw.sat.le_all) (hw.ra 0 rfl) (Sat.all w) hz139)) ?_
            refine va rfl rfl rfl (q_move (v := .int .i64 z126) rfl (by kernel_rfl)) ?_
            refine va rfl rfl rfl (q_eql rfl rfl rfl) ?_
            refine WR.nil ?_
            change WC _ _ _ _ _ _
            refine WC.cif h (by kernel_rfl) (fun hb140 h => ?_) (fun hb140 h => ?_)
            · skip
              refine WC.exit ?_
              intro w hw
              exact ⟨o91, z128.1, z128.2.1, Γ130, row92, row134, row136, h, (sl_ (by kernel_rfl)), (hw.only (is := [3, 0, 0]) rfl), hl131, (ho93.mono hl131), hr135, hr137, trivial⟩
            · skip
              refine WC.skip ?_
              change WC _ _ _ _ _ _
              refine WC.cut (fun σ w => ∃ (o143 : Ofirthref07_Disk), ∃ (o146 : Odisk_Disk), ∃ (Γ141 : Gh), ∃ (row144 : Rowb), ∃ (row147 : Rowb), m_firthlaw07_DiskCrash_j14 loose fate0 fate1 f100 i101 z126 z128 o143 o146 = some r ∧ slots σ [(1, .slice Aloose loose.length cloose), (7, .int .i64 fate0), (8, .int .i64 fate1), (9, .pointer (some ⟨g11, 0, none⟩)), (10, .pointer (some ⟨g20, 0, none⟩)), (11, .pointer (some ⟨g29, 0, none⟩)), (13, .int .i64 ((i101 : Nat) : Int)), (14, .pointer (some ⟨g121, 0, none⟩)), (15, .int .i64 z126)] ∧ CC F Γ141 [row134, row144, [(g121, .cells #[.int .i64 (gt loose i101).kind, .string (gt loose i101).name, .string (gt loose i101).to_, .slice A118 ((gt loose i101).data).length c119, .int .i64 (gt loose i101).n, .int .i64 (gt loose i101).torn] 43 (0, 0))], row147] w ∧ Gh.le Γ130 Γ141 ∧ Ofirthref07_Disk.ob 47 Γ141 g29 row144 o143 ∧ Odisk_Disk.ob 61 Γ141 g20 row147 o146 ∧ True) ?_ ?_
              · skip
                refine WC.rs ?_
                refine va rfl rfl rfl (q_move (v := .int .i64 z126) rfl (by kernel_rfl)) ?_
                refine va rfl rfl rfl (q_move (v := .int .i64 fate0) rfl (by kernel_rfl)) ?_
                refine va rfl rfl rfl (q_lss rfl rfl rfl) ?_
                refine WR.nil ?_
                change WC _ _ _ _ _ _
                refine WC.cif h (by kernel_rfl) (fun hb149 h => ?_) (fun hb149 h => ?_)
                · skip
                  refine WC.region ?_
                  refine va rfl rfl rfl (q_move (v := .pointer (some ⟨g20, 0, none⟩)) rfl (by kernel_rfl)) ?_
                  refine va rfl rfl rfl (q_move (v := .pointer (some ⟨g29, 0, none⟩)) rfl (by kernel_rfl)) ?_
                  refine va rfl rfl rfl (q_ldla (i := 2) (vs := [.int .i64 (gt loose i101).kind, .string (gt loose i101).name, .string (gt loose i101).to_, .slice A118 ((gt loose i101).data).length c119, .int .i64 (gt loose i101).n, .int .i64 (gt loose i101).torn]) rfl rfl Try.isAgg43 Try.sizeOf43 rfl rfl) ?_
                  obtain ⟨z150, hz151, h⟩ := bnd h
                  refine e_call (is := [3, 1]) rfl rfl (call_run Try.call20 rfl rfl (by kernel_rfl)) rfl (fun w hp => t_firthlaw07_does (ho93.mono hl131) hr137 (gt loose i101) (Dfirthlaw07_Op.fits_mono (hx120 hl106).1 hl131) hp hz151) ?_
                  rintro Γ152 U154 v155 hl153 ⟨row156, row158, rfl, rfl, hr157, hr159, _⟩
                  change WR _ _ _ (CC F Γ152 [row156, row158, row134, [(g121, .cells #[.int .i64 (gt loose i101).kind, .string (gt loose i101).name, .string (gt loose i101).to_, .slice A118 ((gt loose i101).data).length c119, .int .i64 (gt loose i101).n, .int .i64 (gt loose i101).torn] 43 (0, 0))]]) _ _ (upd _ 83 (.bool z150.2.2))
                  refine WR.nil ?_
                  intro w hw
                  exact ⟨z150.2.1, z150.1, Γ152, row158, row156, h, (sl_ (by kernel_rfl)), (hw.only (is := [2, 1, 1, 0]) rfl), hl153, hr159, hr157, trivial⟩
                · skip
                  refine WC.skip ?_
                  intro w hw
                  exact ⟨z128.2.1, o91, Γ130, row136, row92, h, (sl_ (by kernel_rfl)), hw, (Gh.refl _), hr137, (ho93.mono hl131), trivial⟩
              · skip
                rintro σ w ⟨o143, o146, Γ141, row144, row147, h, hsl, hw, hl142, ho145, ho148, -⟩
                refine Wpt.slots hsl ?_
                refine WC.here (C := CC F Γ141 [row134, row144, [(g121, .cells #[.int .i64 (gt loose i101).kind, .string (gt loose i101).name, .string (gt loose i101).to_, .slice A118 ((gt loose i101).data).length c119, .int .i64 (gt loose i101).n, .int .i64 (gt loose i101).torn] 43 (0, 0))], row147]) ?_ hw
                clear hw hsl
                refine WC.rs ?_
                refine va rfl rfl rfl (q_move (v := .int .i64 z126) rfl (by kernel_rfl)) ?_
                refine va rfl rfl rfl (q_move (v := .int .i64 fate0) rfl (by kernel_rfl)) ?_
                refine va rfl rfl rfl (q_eql rfl rfl rfl) ?_
                refine va rfl rfl rfl (q_move (v := .bool (z126 == fate0)) rfl (by kernel_rfl)) ?_
                refine vg0 rfl rfl rfl rfl rfl (fun hg160 => QV.qo (q_move (v := .int .i64 z126) rfl (by kernel_rfl))) ?_
                refine vg0 rfl rfl rfl rfl rfl (fun hg161 => QV.qo (q_eql rfl (gu hg161 rfl) rfl)) ?_
                refine vg0 rfl rfl rfl rfl rfl (fun hg162 => QV.qo (q_move (v := .bool (z126 == 0)) rfl (gu hg162 rfl))) ?_
                refine vh1 (c0 := (!(z126 == fate0))) (g := (z126 == 0)) rfl rfl rfl rfl rfl (fun hg163 => QV.qo (q_move (v := .int .i64 fate0) rfl (by kernel_rfl))) ?_
                refine vh1 (c0 := (!(z126 == fate0))) (g := (z126 == 0)) rfl rfl rfl rfl rfl (fun hg164 => QV.qo (q_lss rfl (gu hg164 rfl) rfl)) ?_
                refine vg0 rfl rfl rfl rfl rfl (fun hg165 => QV.qo (q_pick rfl (gu hg165 rfl) (pk_and (c := (!(z126 == fate0))) (g := (z126 == 0)) (y := (decide (fate0 < 0))) hg165))) ?_
                refine va rfl rfl rfl (q_pick rfl rfl (pk_or' (g := (z126 == fate0)) (y := ((z126 == 0) && (decide (fate0 < 0)))))) ?_
                refine va rfl rfl rfl (q_move (v := .bool ((z126 == fate0) || ((z126 == 0) && (decide (fate0 < 0))))) rfl (by kernel_rfl)) ?_
                refine vg1 rfl rfl rfl rfl rfl (fun hg166 => QV.qo (q_fl 0 fld_43_0 rfl rfl rfl)) ?_
                refine vg1 rfl rfl rfl rfl rfl (fun hg167 => QV.qo (q_ldl (i := 2) (v := .int .i64 (gt loose i101).kind) rfl rfl Try.isAgg3 (gu hg167 rfl) rfl)) ?_
                refine vg1 rfl rfl rfl rfl rfl (fun hg168 => QV.qo (q_eql rfl (gu hg168 rfl) rfl)) ?_
                refine va rfl rfl rfl (q_pick rfl rfl (pk_and' (g := ((z126 == fate0) || ((z126 == 0) && (decide (fate0 < 0))))) (y := ((gt loose i101).kind == 1)))) ?_
                refine va rfl rfl rfl (q_move (v := .bool (((z126 == fate0) || ((z126 == 0) && (decide (fate0 < 0)))) && ((gt loose i101).kind == 1))) rfl (by kernel_rfl)) ?_
                refine vg1 rfl rfl rfl rfl rfl (fun hg169 => QV.qo (q_move (v := .int .i64 fate1) rfl (by kernel_rfl))) ?_
                refine vg1 rfl rfl rfl rfl rfl (fun hg170 => QV.qo (q_gtr rfl (gu hg170 rfl) rfl)) ?_
                refine va rfl rfl rfl (q_pick rfl rfl (pk_and' (g := (((z126 == fate0) || ((z126 == 0) && (decide (fate0 < 0)))) && ((gt loose i101).kind == 1))) (y := (decide (0 < fate1))))) ?_
                refine va rfl rfl rfl (q_move (v := .bool ((((z126 == fate0) || ((z126 == 0) && (decide (fate0 < 0)))) && ((gt loose i101).kind == 1)) && (decide (0 < fate1)))) rfl (by kernel_rfl)) ?_
                refine vg1 rfl rfl rfl rfl rfl (fun hg171 => QV.qo (q_fl 3 fld_43_3 rfl rfl rfl)) ?_
                refine vg1 rfl rfl rfl rfl rfl (fun hg172 => QV.qo (q_ldl (i := 2) (v := .slice A118 ((gt loose i101).data).length c119) rfl rfl Try.isAgg22 (gu hg172 rfl) rfl)) ?_
                refine vg1 rfl rfl rfl rfl rfl (fun hg173 => QV.qo (q_len_slice rfl Try.underlying22 (gu hg173 rfl))) ?_
                refine vg1 rfl rfl rfl rfl rfl (fun hg174 => QV.qo (q_gtr rfl (gu hg174 rfl) rfl)) ?_
                refine va rfl rfl rfl (q_pick rfl rfl (pk_and' (g := ((((z126 == fate0) || ((z126 == 0) && (decide (fate0 < 0)))) && ((gt loose i101).kind == 1)) && (decide (0 < fate1)))) (y := (decide (0 < ((((gt loose i101).data).length : Nat) : Int)))))) ?_
                refine WR.nil ?_
                change WC _ _ _ _ _ _
                refine WC.cif h (by kernel_rfl) (fun hb175 h => ?_) (fun hb175 h => ?_)
                · skip
                  intro w hw; have h0176 := hw.le
                  refine WC.here (C := CC F Γ141 [row134, row144, [(g121, .cells #[.int .i64 (gt loose i101).kind, .string (gt loose i101).name, .string (gt loose i101).to_, .slice A118 ((gt loose i101).data).length c119, .int .i64 (gt loose i101).n, .int .i64 (gt loose i101).torn] 43 (0, 0))], row147]) ?_ hw; clear hw
                  refine WC.held (CC F Γ141 [[(g121, .cells #[.int .i64 (gt loose i101).kind, .string (gt loose i101).name, .string (gt loose i101).to_, .slice A118 ((gt loose i101).data).length c119, .int .i64 (gt loose i101).n, .int .i64 (gt loose i101).torn] 43 (0, 0))]]) (by kernel_rfl) (fun w hw => hw.drawn _) ?_
                  change WH _ _ _ _ (CC F Γ141 [row134, row144, [(g121, .cells #[.int .i64 (gt loose i101).kind, .string (gt loose i101).name, .string (gt loose i101).to_, .slice A118 ((gt loose i101).data).length c119, .int .i64 (gt loose i101).n, .int .i64 (gt loose i101).torn] 43 (0, 0))], row147]) _ 12 #[false, false, false, false, false, false, false, false, false, false, false, false] _
                  refine ht (i := 0) rfl (by kernel_rfl) rfl rfl rfl (fun w hw => hw.back (Gh.refl _) h0176 (.cons _ (.cons _ (.cons_cons _ (.cons _ .slnil))))) (q_move (v := .pointer (some ⟨g20, 0, none⟩)) rfl (by kernel_rfl)) ?_
                  refine ht (i := 1) rfl (by kernel_rfl) rfl rfl rfl (fun w hw => hw.back (Gh.refl _) h0176 (.cons _ (.cons _ (.cons_cons _ (.cons _ .slnil))))) (q_fl 1 fld_43_1 rfl rfl rfl) ?_
                  refine ht (i := 2) rfl (by kernel_rfl) rfl rfl rfl (fun w hw => hw.back (Gh.refl _) h0176 (.cons _ (.cons _ (.cons_cons _ (.cons _ .slnil))))) (q_ldl (i := 0) (v := .string (gt loose i101).name) rfl rfl Try.isAgg9 rfl rfl) ?_
                  refine ht (i := 3) rfl (by kernel_rfl) rfl rfl rfl (fun w hw => hw.back (Gh.refl _) h0176 (.cons _ (.cons _ (.cons_cons _ (.cons _ .slnil))))) (q_fl 3 fld_43_3 rfl rfl rfl) ?_
                  refine ht (i := 4) rfl (by kernel_rfl) rfl rfl rfl (fun w hw => hw.back (Gh.refl _) h0176 (.cons _ (.cons _ (.cons_cons _ (.cons _ .slnil))))) (q_ldl (i := 0) (v := .slice A118 ((gt loose i101).data).length c119) rfl rfl Try.isAgg22 rfl rfl) ?_
                  refine ht (i := 5) rfl (by kernel_rfl) rfl rfl rfl (fun w hw => hw.back (Gh.refl _) h0176 (.cons _ (.cons _ (.cons_cons _ (.cons _ .slnil))))) (q_move (v := .int .i64 fate1) rfl (by kernel_rfl)) ?_
                  refine ht (i := 6) rfl (by kernel_rfl) rfl rfl rfl (fun w hw => hw.back (Gh.refl _) h0176 (.cons _ (.cons _ (.cons_cons _ (.cons _ .slnil))))) (q_fl 3 fld_43_3 rfl rfl rfl) ?_
                  refine ht (i := 7) rfl (by kernel_rfl) rfl rfl rfl (fun w hw => hw.back (Gh.refl _) h0176 (.cons _ (.cons _ (.cons_cons _ (.cons _ .slnil))))) (q_ldl (i := 0) (v := .slice A118 ((gt loose i101).data).length c119) rfl rfl Try.isAgg22 rfl rfl) ?_
                  refine ht (i := 8) rfl (by kernel_rfl) rfl rfl rfl (fun w hw => hw.back (Gh.refl _) h0176 (.cons _ (.cons _ (.cons_cons _ (.cons _ .slnil))))) (q_len_slice rfl Try.underlying22 rfl) ?_
                  refine ht (i := 9) rfl (by kernel_rfl) rfl rfl rfl (fun w hw => hw.back (Gh.refl _) h0176 (.cons _ (.cons _ (.cons_cons _ (.cons _ .slnil))))) (q_min rfl rfl rfl) ?_
                  obtain ⟨hk177, h⟩ := chk_some h
                  refine ht (i := 10) rfl (by kernel_rfl) rfl rfl rfl (fun w hw => hw.back (Gh.refl _) h0176 (.cons _ (.cons _ (.cons_cons _ (.cons _ .slnil))))) (q_cut_to (c := c119) (hi := (min fate1 ((((gt loose i101).data).length : Nat) : Int)).toNat) (xs := ((gt loose i101).data)) Try.underlying22 Try.sizeOf5 rfl rfl (inle_eq rfl hk177) (inle_le hk177) (hx120 hl106).1.2.2.2.1.1) ?_
                  refine WH.lone (i := 11) (by kernel_rfl) rfl ?_
                  obtain ⟨z178, hz179, h⟩ := bnd h
                  refine e_call (is := [3]) rfl rfl (call_run Try.call11 rfl rfl (by kernel_rfl)) rfl (fun w hp => t_disk_Disk_Append ho148 ((gt loose i101).name) (hx120 hl106).1.2.1 (((hx120 hl106).1.2.2.2.1.2.mono (hl131.trans hl142)).cut_to (hi := (min fate1 ((((gt loose i101).data).length : Nat) : Int)).toNat) (inle_le hk177)) (take_cap (hx120 hl106).1.2.2.2.1.1 ((min fate1 ((((gt loose i101).data).length : Nat) : Int)).toNat)) hp hz179) ?_
                  rintro Γ180 U182 v183 hl181 ⟨row184, rfl, rfl, hr185, hr186, _⟩
                  change WR _ _ _ (CC F Γ180 [row184, row134, row144, [(g121, .cells #[.int .i64 (gt loose i101).kind, .string (gt loose i101).name, .string (gt loose i101).to_, .slice A118 ((gt loose i101).data).length c119, .int .i64 (gt loose i101).n, .int .i64 (gt loose i101).torn] 43 (0, 0))]]) _ _ (upd _ 121 (.int .i64 z178.2))
                  refine WR.nil ?_
                  refine WH.next (fun w hw => hw.back hl181 h0176 (.cons _ (.cons _ (.cons _ (.cons_cons _ .slnil))))) ?_
                  refine WH.done (by kernel_rfl) ?_
                  intro w hw
                  exact ⟨z178.1, z128.1, o143, Γ180, row184, row134, row144, h, (sl_ (by kernel_rfl)), (hw.only (is := [0, 0, 0]) rfl), ((hl131.trans hl142).trans hl181), hr185, (hr135.mono (hl142.trans hl181)), (ho145.mono hl181), trivial⟩
                · skip
                  refine WC.skip ?_
                  intro w hw
                  exact ⟨o146, z128.1, o143, Γ141, row147, row134, row144, h, (sl_ (by kernel_rfl)), (hw.only (is := [3, 0, 0]) rfl), (hl131.trans hl142), ho148, (hr135.mono hl142), ho145, trivial⟩
        · skip
          rintro σ w ⟨o109, o112, o115, Γ107, row110, row113, row116, h, hsl, hw, hl108, ho111, ho114, ho117, -⟩
          refine Wpt.slots hsl ?_
          refine WC.here (C := CC F Γ107 [row110, row113, row116]) ?_ hw
          clear hw hsl
          refine WC.region ?_
          refine va rfl rfl rfl (q_move (v := .int .i64 ((i101 : Nat) : Int)) rfl (by kernel_rfl)) ?_
          refine va rfl rfl rfl (q_add_r (r := ((i101 + 1 : Nat) : Int)) rfl rfl rfl (ctr_len hl106 (hloose.mono ((((((hl8.trans hl17).trans hl26).trans hl33).trans hl76).trans hl84).trans hl90)).le)) ?_
          refine va rfl rfl rfl (q_assign (v := .int .i64 ((i101 + 1 : Nat) : Int)) rfl (by kernel_rfl)) ?_
          refine WR.nil ?_
          intro w hw
          exact ⟨hl106, (o109, o112, o115), h, Γ107, row110, row113, row116, (sl_ (by kernel_rfl)), hw, (hl90.trans hl108), ho111, ho114, ho117, trivial⟩
      · skip
        have h := hge104 (ige hb105)
        refine WC.exit ?_
        change WC _ _ _ _ _ _
        refine WC.rs ?_
        refine va rfl rfl rfl (q_move (v := .pointer (some ⟨g11, 0, none⟩)) rfl (by kernel_rfl)) ?_
        refine va rfl rfl rfl (q_move (v := .int .i64 fate0) rfl (by kernel_rfl)) ?_
        refine va rfl rfl rfl (q_move (v := .int .i64 fate1) rfl (by kernel_rfl)) ?_
        obtain ⟨z187, hz188, h⟩ := bnd h
        refine e_call (is := [1]) rfl rfl (call_run Try.call13 rfl rfl (by kernel_rfl)) rfl (fun w hp => t_disk_Disk_Crash ho96 fate0 hfate0 fate1 hfate1 hp hz188) ?_
        rintro Γ189 U191 v192 hl190 ⟨row193, rfl, rfl, hr194, _⟩
        change WR _ _ _ (CC F Γ189 [row193, row92, row98]) _ _ (upd _ 125 (.tuple #[]))
        refine WR.nil ?_
        change WC _ _ _ _ _ _
        refine WC.rs ?_
        refine va rfl rfl rfl (q_move (v := .pointer (some ⟨g11, 0, none⟩)) rfl (by kernel_rfl)) ?_
        obtain ⟨z195, hz196, h⟩ := bnd h
        refine vc rfl rfl rfl (q_call (call_run Try.call17 rfl rfl (by kernel_rfl)) (fun w hw => t_disk_Disk_Loose (Γ := Gh.all w) (hr194.mono hw.sat.le_all) (hw.ra 0 rfl) (Sat.all w) hz196)) ?_
        refine va rfl rfl rfl (q_eql rfl rfl rfl) ?_
        refine va rfl rfl rfl (q_move (v := .bool (z195 == 0)) rfl (by kernel_rfl)) ?_
        refine vg1 rfl rfl rfl rfl rfl (fun hg197 => QV.qo (q_move (v := .pointer (some ⟨g11, 0, none⟩)) rfl (by kernel_rfl))) ?_
        refine (Bool.eq_false_or_eq_true (z195 == 0)).elim (fun hb198 => ?_) (fun hb198 => ?_)
        · skip
          have h := bt hb198 h
          refine WR.sat (c0 := true) (g := (z195 == 0)) rfl rfl rfl hb198 ?_
          obtain ⟨z199, hz200, h⟩ := bnd h
          refine e_call (is := [0]) rfl rfl (call_run Try.call23 rfl rfl (args1 (gu hb198 rfl))) rfl (fun w hp => t_firthlaw07_Files hr194 hp hz200) ?_
          rintro Γ201 U203 v204 hl202 ⟨A205, c206, row207, rfl, rfl, hr208, _⟩
          change WR _ _ _ (CC F Γ201 [row193, row207, row92, row98]) _ _ (upd _ 131 (.slice A205 z199.length c206))
          refine WR.sat (c0 := true) (g := (z195 == 0)) rfl rfl rfl hb198 ?_
          refine va rfl rfl rfl (q_move (v := .pointer (some ⟨g20, 0, none⟩)) rfl (by kernel_rfl)) ?_
          refine WR.sat (c0 := true) (g := (z195 == 0)) rfl rfl rfl hb198 ?_
          obtain ⟨z209, hz210, h⟩ := bnd h
          refine e_call (is := [2]) rfl rfl (call_run Try.call23 rfl rfl (by kernel_rfl)) rfl (fun w hp => t_firthlaw07_Files (ho93.mono (hl190.trans hl202)) hp hz210) ?_
          rintro Γ211 U213 v214 hl212 ⟨A215, c216, row217, rfl, rfl, hr218, _⟩
          change WR _ _ _ (CC F Γ211 [row92, row217, row193, row207, row98]) _ _ (upd _ 133 (.slice A215 z209.length c216))
          refine WR.sat (c0 := true) (g := (z195 == 0)) rfl rfl rfl hb198 ?_
          obtain ⟨z219, hz220, h⟩ := bnd h
          refine vc rfl rfl rfl (q_call (call_run Try.call22 rfl rfl (by kernel_rfl)) (fun w hw => t_firthref07_Same (Γ := Gh.all w) ((hr208.mono hl212).sl hw.sat.le_all (hw.ra 3 rfl)) (hr208.mono hl212).capz (hr218.sl hw.sat.le_all (hw.ra 1 rfl)) hr218.capz (Sat.all w) hz220)) ?_
          refine va rfl rfl rfl (q_pick_t (v := .bool z219) rfl rfl hb198 (by kernel_rfl)) ?_
          refine va rfl rfl rfl (q_assign (v := .bool z219) rfl (by kernel_rfl)) ?_
          refine WR.nil ?_
          change WC _ _ _ _ _ _
          refine WC.ret ?_
          intro w hw
          obtain rfl := Option.some.inj h
          subst hF
          exact ⟨by kernel_rfl, hw.fr⟩
        · skip
          have h := bf hb198 h
          refine WR.unsat (c0 := true) (g := (z195 == 0)) rfl rfl rfl hb198 rfl ?_
          refine WR.unsat (c0 := true) (g := (z195 == 0)) rfl rfl rfl hb198 rfl ?_
          refine WR.unsat (c0 := true) (g := (z195 == 0)) rfl rfl rfl hb198 rfl ?_
          refine WR.unsat (c0 := true) (g := (z195 == 0)) rfl rfl rfl hb198 rfl ?_
          refine va rfl rfl rfl (q_pick_f (v := .bool false) rfl rfl hb198 (by kernel_rfl)) ?_
          refine va rfl rfl rfl (q_assign (v := .bool false) rfl (by kernel_rfl)) ?_
          refine WR.nil ?_
          change WC _ _ _ _ _ _
          refine WC.ret ?_
          intro w hw
          obtain rfl := Option.some.inj h
          subst hF
          exact ⟨by kernel_rfl, hw.fr⟩
end Fw
end Go.Proofs.Ytichdipjedoijaa
