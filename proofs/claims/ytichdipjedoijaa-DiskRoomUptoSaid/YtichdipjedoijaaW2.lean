/- Walks through the functions that the law reaches (printed by a program). No condition. -/
import Derived.Test.YtichdipjedoijaaW1
namespace Go.Proofs.Ytichdipjedoijaa
namespace Fw
set_option linter.unusedVariables false
set_option linter.unusedSimpArgs false
set_option linter.unusedSectionVars false
open Go.RowKit
abbrev r_disk_Disk_Remove (gd ed : Nat) (r : Odisk_Disk × Int) (U : List Rowb) (Γ : Gh) (v : Value) : Prop := ∃ (rowd' : Rowb), v = .int .i64 r.2 ∧ U = [rowd'] ∧ Odisk_Disk.ob ed Γ gd rowd' r.1 ∧ I64 r.2 ∧ True
set_option maxRecDepth 100000 in
set_option maxHeartbeats 400000 in
theorem t_disk_Disk_Remove {Γ : Gh} {w0 : World} {gd ed : Nat} {rowd : Rowb} {d : Odisk_Disk} (hd : Odisk_Disk.ob ed Γ gd rowd d) (name : ByteArray) (hname : name.size ≤ lim) (hp : Pre [rowd] Γ w0) {r : Odisk_Disk × Int} (h : m_disk_Disk_Remove d name = some r) : Calls Try.prog 16 #[.pointer (some ⟨gd, 0, none⟩), .string name] w0 (Outc Γ [rowd] w0 (r_disk_Disk_Remove gd ed r)) := by
  refine calls_of (N := 16) (rs := [4]) (args := [.pointer (some ⟨gd, 0, none⟩), .string name]) Try.func16 rfl Try.ntmps16 Try.results16 rfl ?_
  obtain ⟨F, hF⟩ : ∃ F : Fm, F = ⟨ids [rowd], w0, Γ⟩ := ⟨_, rfl⟩
  refine WC.here (C := CC F Γ [rowd]) ?_ (hF ▸ hp.start)
  refine WC.rs ?_
  refine e_box (v := .string name) rfl rfl rfl rfl (by kernel_rfl) ?_
  intro g1
  refine va rfl rfl rfl (q_assign (v := .int .i64 0) rfl (by kernel_rfl)) ?_
  refine WR.nil ?_
  change WC _ _ _ _ _ _
  refine WC.seq ?_
  refine WC.rs ?_
  refine va rfl rfl rfl (q_move (v := .pointer (some ⟨gd, 0, none⟩)) rfl (by kernel_rfl)) ?_
  refine va rfl rfl rfl (q_ldl (i := 0) (v := .string name) rfl rfl Try.isAgg9 rfl rfl) ?_
  obtain ⟨z2, hz3, h⟩ := bnd h
  refine vc rfl rfl rfl (q_call (call_run Try.call31 rfl rfl (by kernel_rfl)) (fun w hw => t_disk_Disk_there (Γ := Gh.all w) (hd.mono hw.sat.le_all) (hw.ra 1 rfl) name hname (Sat.all w) hz3)) ?_
  refine va rfl rfl rfl (q_assign (v := .int .i64 z2) rfl (by kernel_rfl)) ?_
  refine WR.nil ?_
  change WC _ _ _ _ _ _
  refine WC.rs ?_
  refine va rfl rfl rfl (q_move (v := .int .i64 z2) rfl (by kernel_rfl)) ?_
  refine va rfl rfl rfl (q_neq rfl rfl rfl) ?_
  refine WR.nil ?_
  change WC _ _ _ _ _ _
  refine WC.cif h (by kernel_rfl) (fun hb4 h => ?_) (fun hb4 h => ?_)
  · skip
    refine WC.rs ?_
    refine va rfl rfl rfl (q_move (v := .int .i64 z2) rfl (by kernel_rfl)) ?_
    refine va rfl rfl rfl (q_assign (v := .int .i64 z2) rfl (by kernel_rfl)) ?_
    refine WR.nil ?_
    change WC _ _ _ _ _ _
    refine WC.ret ?_
    intro w hw
    obtain ⟨hk5, h⟩ := chk_some h
    obtain rfl := Option.some.inj h
    subst hF
    exact end_e (is := [1]) (by kernel_rfl) hw rfl ⟨rowd, rfl, rfl, hd, (i64b_of hk5), trivial⟩
  · skip
    refine WC.skip ?_
    change WC _ _ _ _ _ _
    refine WC.rs ?_
    refine va rfl rfl rfl (q_move (v := .pointer (some ⟨gd, 0, none⟩)) rfl (by kernel_rfl)) ?_
    refine va rfl rfl rfl (q_mkfn (v := .func (.func 35) #[] #[.pointer (some ⟨g1, 0, none⟩)]) rfl (by kernel_rfl)) ?_
    refine va rfl rfl rfl (q_build' (v := .agg #[.func (.func 35) #[] #[.pointer (some ⟨g1, 0, none⟩)], .string ByteArray.empty, .slice none 0 0]) rfl (bargs1 rfl) (fun w => by kernel_rfl)) ?_
    intro w hw; obtain ⟨Γ6, hw, hl7, hr8⟩ := hw.seal (i := 0) rfl
    have hg9 := hr8 _ (List.mem_singleton.2 rfl)
    refine WR.here (C := CC F Γ6 [[], rowd]) ?_ hw
    clear hw
    have hf10 : Cdisk_change_do.ok Γ6 none g1 (Cdisk_change_do.disk_Disk_Remove_1 name) := ⟨⟨hg9, hname⟩, trivial⟩
    obtain ⟨z11, hz12, h⟩ := bnd h
    refine e_call (is := [1]) rfl rfl (call_run Try.call28 rfl rfl (by kernel_rfl)) rfl (fun w hp => t_disk_Disk_done (hd.mono hl7) (Ac_2 := none) (cc_2 := 0) (⟨(Cdisk_change_do.disk_Disk_Remove_1 name), ByteArray.empty, []⟩ : Ddisk_change) ⟨hf10, (show (ByteArray.empty : ByteArray).size ≤ lim by decide), ⟨Nat.zero_le _, Sl.nil _ _ _⟩⟩ hp hz12) ?_
    rintro Γ13 U15 v16 hl14 ⟨row17, rfl, rfl, hr18, hr19, _⟩
    change WR _ _ _ (CC F Γ13 [row17, []]) _ _ (upd _ 15 (.int .i64 z11.2))
    refine va rfl rfl rfl (q_assign (v := .int .i64 z11.2) rfl (by kernel_rfl)) ?_
    refine WR.nil ?_
    change WC _ _ _ _ _ _
    refine WC.ret ?_
    intro w hw
    obtain rfl := Option.some.inj h
    subst hF
    exact end_e (is := [0]) (by kernel_rfl) hw rfl ⟨row17, rfl, rfl, hr18, hr19, trivial⟩
abbrev r_firthref07_Disk_Remove (gd ed : Nat) (r : Ofirthref07_Disk × Int) (U : List Rowb) (Γ : Gh) (v : Value) : Prop := ∃ (rowd' : Rowb), v = .int .i64 r.2 ∧ U = [rowd'] ∧ Ofirthref07_Disk.ob ed Γ gd rowd' r.1 ∧ I64 r.2 ∧ True
set_option maxRecDepth 100000 in
set_option maxHeartbeats 400000 in
theorem t_firthref07_Disk_Remove {Γ : Gh} {w0 : World} {gd ed : Nat} {rowd : Rowb} {d : Ofirthref07_Disk} (hd : Ofirthref07_Disk.ob ed Γ gd rowd d) (name : ByteArray) (hname : name.size ≤ lim) (hp : Pre [rowd] Γ w0) {r : Ofirthref07_Disk × Int} (h : m_firthref07_Disk_Remove d name = some r) : Calls Try.prog 40 #[.pointer (some ⟨gd, 0, none⟩), .string name] w0 (Outc Γ [rowd] w0 (r_firthref07_Disk_Remove gd ed r)) := by
  refine calls_of (N := 9) (rs := [4]) (args := [.pointer (some ⟨gd, 0, none⟩), .string name]) Try.func40 rfl Try.ntmps40 Try.results40 rfl ?_
  obtain ⟨F, hF⟩ : ∃ F : Fm, F = ⟨ids [rowd], w0, Γ⟩ := ⟨_, rfl⟩
  refine WC.here (C := CC F Γ [rowd]) ?_ (hF ▸ hp.start)
  refine WC.rs ?_
  refine va rfl rfl rfl (q_assign (v := .int .i64 0) rfl (by kernel_rfl)) ?_
  refine WR.nil ?_
  change WC _ _ _ _ _ _
  refine WC.rs ?_
  refine va rfl rfl rfl (q_move (v := .pointer (some ⟨gd, 0, none⟩)) rfl (by kernel_rfl)) ?_
  refine va rfl rfl rfl (q_move (v := .string name) rfl (by kernel_rfl)) ?_
  refine va rfl rfl rfl (q_build' (v := .agg #[.int .i64 4, .string name, .string ByteArray.empty, .slice none 0 0, .int .i64 0]) rfl (bargs2 rfl rfl) (fun w => by kernel_rfl)) ?_
  obtain ⟨z1, hz2, h⟩ := bnd h
  refine e_call (is := [0]) rfl rfl (call_run Try.call52 rfl rfl (by kernel_rfl)) rfl (fun w hp => t_firthref07_Disk_Do hd (Ac_3 := none) (cc_3 := 0) (⟨4, name, ByteArray.empty, [], 0⟩ : Dfirthref07_Change) ⟨(show I64 4 by decide), hname, (show (ByteArray.empty : ByteArray).size ≤ lim by decide), ⟨Nat.zero_le _, Sl.nil _ _ _⟩, (show I64 0 by decide)⟩ hp hz2) ?_
  rintro Γ3 U5 v6 hl4 ⟨row7, rfl, rfl, hr8, hr9, _⟩
  change WR _ _ _ (CC F Γ3 [row7]) _ _ (upd _ 8 (.int .i64 z1.2))
  refine va rfl rfl rfl (q_assign (v := .int .i64 z1.2) rfl (by kernel_rfl)) ?_
  refine WR.nil ?_
  change WC _ _ _ _ _ _
  refine WC.ret ?_
  intro w hw
  obtain rfl := Option.some.inj h
  subst hF
  exact end_e (is := [0]) (by kernel_rfl) hw rfl ⟨row7, rfl, rfl, hr8, hr9, trivial⟩
abbrev r_firthref07_Disk_Sync (gd ed : Nat) (r : Ofirthref07_Disk) (U : List Rowb) (Γ : Gh) (v : Value) : Prop := ∃ (rowd' : Rowb), v = .tuple #[] ∧ U = [rowd'] ∧ Ofirthref07_Disk.ob ed Γ gd rowd' r ∧ True
set_option maxRecDepth 100000 in
set_option maxHeartbeats 400000 in
theorem t_firthref07_Disk_Sync {Γ : Gh} {w0 : World} {gd ed : Nat} {rowd : Rowb} {d : Ofirthref07_Disk} (hd : Ofirthref07_Disk.ob ed Γ gd rowd d) (hp : Pre [rowd] Γ w0) {r : Ofirthref07_Disk} (h : m_firthref07_Disk_Sync d = some r) : Calls Try.prog 41 #[.pointer (some ⟨gd, 0, none⟩)] w0 (Outc Γ [rowd] w0 (r_firthref07_Disk_Sync gd ed r)) := by
  refine calls_of (N := 10) (rs := []) (args := [.pointer (some ⟨gd, 0, none⟩)]) Try.func41 rfl Try.ntmps41 Try.results41 rfl ?_
  obtain ⟨F, hF⟩ : ∃ F : Fm, F = ⟨ids [rowd], w0, Γ⟩ := ⟨_, rfl⟩
  refine WC.here (C := CC F Γ [rowd]) ?_ (hF ▸ hp.start)
  refine WC.rs ?_
  refine va rfl rfl rfl (q_move (v := .pointer (some ⟨gd, 0, none⟩)) rfl (by kernel_rfl)) ?_
  refine va rfl rfl rfl (q_move (v := .pointer (some ⟨gd, 0, none⟩)) rfl (by kernel_rfl)) ?_
  obtain ⟨z1, hz2, h⟩ := bnd h
  refine e_call (is := [0]) rfl rfl (call_run Try.call24 rfl rfl (by kernel_rfl)) rfl (fun w hp => t_firthref07_Disk_Files hd hp hz2) ?_
  rintro Γ3 U5 v6 hl4 ⟨A7, c8, rfl, rfl, hc10, hr9, _⟩
  change WR _ _ _ (CC F Γ3 [rowd]) _ _ (upd _ 4 (.slice A7 z1.length c8))
  refine va rfl rfl rfl (q_nil (A := some ⟨gd, 0, none⟩) rfl rfl rfl) ?_
  refine va rfl rfl rfl (q_fl 1 fld_47_1 rfl rfl rfl) ?_
  have hq := (hd.mono hl4)
  obtain ⟨A1_11, c1_11, A2_11, c2_11, r2_11, hrow_11, ho0_11, ho1_11, ho2_11, ho3_11, -⟩ := hq
  intro w hw; have hw := hw.unfold (i := 0) rfl hrow_11
  refine WR.here (C := CC F Γ3 [[(gd, .cells #[.int .i64 d.room, .slice A1_11 d.safe_.length c1_11, .slice A2_11 d.todo.length c2_11] ed (0, 0))], r2_11]) ?_ hw
  clear hw
  refine e_st (i := 0) (v := .slice A7 z1.length c8) (new := #[.int .i64 d.room, .slice A7 z1.length c8, .slice A2_11 d.todo.length c2_11]) rfl Try.sizeOf44 rfl rfl rfl rfl (by kernel_rfl) rfl rfl rfl rfl ?_
  refine WR.nil ?_
  change WC _ _ _ _ _ _
  refine WC.region ?_
  refine va rfl rfl rfl (q_move (v := .pointer (some ⟨gd, 0, none⟩)) rfl (by kernel_rfl)) ?_
  refine va rfl rfl rfl (q_nil (A := some ⟨gd, 0, none⟩) rfl rfl rfl) ?_
  refine va rfl rfl rfl (q_fl 2 fld_47_2 rfl rfl rfl) ?_
  refine e_st (i := 0) (v := .slice none 0 0) (new := #[.int .i64 d.room, .slice A7 z1.length c8, .slice none 0 0]) rfl Try.sizeOf45 rfl rfl rfl rfl (by kernel_rfl) rfl rfl rfl rfl ?_
  refine WR.nil ?_
  intro w hw
  have hw := hw.pad
  obtain ⟨row_12, hrow_12, hob_12⟩ : ∃ rw : Rowb, rw = ([[(gd, .cells #[.int .i64 d.room, .slice A7 z1.length c8, .slice none 0 0] ed (0, 0))], []] : List Rowb).flatten ∧ Ofirthref07_Disk.ob ed Γ3 gd rw (⟨d.room, z1, []⟩ : Ofirthref07_Disk) := ⟨_, rfl, A7, c8, none, 0, [], rfl, ho0_11, hc10, hr9, (Own.nil dfirthref07_ChangeT Γ3 83), trivial⟩
  have hw := hw.fold (is := [1, 0]) rfl hrow_12
  obtain rfl := Option.some.inj h
  subst hF
  exact end_e (is := [0]) (by kernel_rfl) hw rfl ⟨row_12, rfl, rfl, hob_12, trivial⟩
abbrev r_firthref07_Disk_Crash (gd ed : Nat) (r : Ofirthref07_Disk) (U : List Rowb) (Γ : Gh) (v : Value) : Prop := ∃ (rowd' : Rowb), v = .tuple #[] ∧ U = [rowd'] ∧ Ofirthref07_Disk.ob ed Γ gd rowd' r ∧ True
set_option maxRecDepth 100000 in
set_option maxHeartbeats 400000 in
theorem t_firthref07_Disk_Crash {Γ : Gh} {w0 : World} {gd ed : Nat} {rowd : Rowb} {d : Ofirthref07_Disk} (hd : Ofirthref07_Disk.ob ed Γ gd rowd d) (keep : Int) (hkeep : I64 keep) (torn : Int) (htorn : I64 torn) (hp : Pre [rowd] Γ w0) {r : Ofirthref07_Disk} (h : m_firthref07_Disk_Crash d keep torn = some r) : Calls Try.prog 42 #[.pointer (some ⟨gd, 0, none⟩), .int .i64 keep, .int .i64 torn] w0 (Outc Γ [rowd] w0 (r_firthref07_Disk_Crash gd ed r)) := by
  refine calls_of (N := 81) (rs := []) (args := [.pointer (some ⟨gd, 0, none⟩), .int .i64 keep, .int .i64 torn]) Try.func42 rfl Try.ntmps42 Try.results42 rfl ?_
  obtain ⟨F, hF⟩ : ∃ F : Fm, F = ⟨ids [rowd], w0, Γ⟩ := ⟨_, rfl⟩
  refine WC.here (C := CC F Γ [rowd]) ?_ (hF ▸ hp.start)
  refine WC.rs ?_
  refine va rfl rfl rfl (q_move (v := .pointer (some ⟨gd, 0, none⟩)) rfl (by kernel_rfl)) ?_
  refine va rfl rfl rfl (q_nil (A := some ⟨gd, 0, none⟩) rfl rfl rfl) ?_
  refine va rfl rfl rfl (q_fl 1 fld_47_1 rfl rfl rfl) ?_
  have hq := hd
  obtain ⟨A1_1, c1_1, A2_1, c2_1, r2_1, hrow_1, ho0_1, ho1_1, ho2_1, ho3_1, -⟩ := hq
  intro w hw; have hw := hw.unfold (i := 0) rfl hrow_1
  refine WR.here (C := CC F Γ [[(gd, .cells #[.int .i64 d.room, .slice A1_1 d.safe_.length c1_1, .slice A2_1 d.todo.length c2_1] ed (0, 0))], r2_1]) ?_ hw
  clear hw
  refine va rfl rfl rfl (q_ldl (i := 0) (v := .slice A1_1 d.safe_.length c1_1) rfl rfl Try.isAgg44 rfl rfl) ?_
  refine va rfl rfl rfl (q_assign (v := .slice A1_1 d.safe_.length c1_1) rfl (by kernel_rfl)) ?_
  refine WR.nil ?_
  change WC _ _ _ _ _ _
  refine WC.seq ?_
  refine WC.rs ?_
  refine va rfl rfl rfl (q_assign (v := .int .i64 0) rfl (by kernel_rfl)) ?_
  refine WR.nil ?_
  change WC _ _ _ _ _ _
  refine WC.block ?_
  intro w hw; have hw := hw.fold (is := [0, 0]) rfl hrow_1
  refine WC.here (C := CC F Γ [rowd]) ?_ hw
  clear hw
  refine WC.forI h (fun (i11 : Nat) (l_5 : List Dfirthref07_File) σ w => ∃ (Γ3 : Gh), ∃ (A6 : Option Addr), ∃ (c7 : Nat), slots σ [(0, .pointer (some ⟨gd, 0, none⟩)), (1, .int .i64 keep), (2, .int .i64 torn), (6, .slice A6 l_5.length c7), (7, .int .i64 ((i11 : Nat) : Int))] ∧ CC F Γ3 [rowd] w ∧ Gh.le Γ Γ3 ∧ l_5.length ≤ c7 ∧ Sl dfirthref07_FileT Γ3 A6 l_5 ∧ True) ?_ ?_
  · skip
    intro w hw
    exact ⟨Γ, A1_1, c1_1, (sl_ (by kernel_rfl)), hw, (Gh.refl _), ho1_1, ho2_1, trivial⟩
  rintro f10 i11 l_5 σ w hi12 hlt13 hge14 ⟨Γ3, A6, c7, hsl, hw, hl4, hc9, hs8, -⟩
  refine Wpt.slots hsl ?_
  refine WC.here (C := CC F Γ3 [rowd]) ?_ hw
  clear hw hsl
  refine WC.seq ?_
  refine WC.rs ?_
  refine va rfl rfl rfl (q_move (v := .int .i64 ((i11 : Nat) : Int)) rfl (by kernel_rfl)) ?_
  refine va rfl rfl rfl (q_move (v := .pointer (some ⟨gd, 0, none⟩)) rfl (by kernel_rfl)) ?_
  refine va rfl rfl rfl (q_nil (A := some ⟨gd, 0, none⟩) rfl rfl rfl) ?_
  refine va rfl rfl rfl (q_fl 2 fld_47_2 rfl rfl rfl) ?_
  have hq := (hd.mono hl4)
  obtain ⟨A1_15, c1_15, A2_15, c2_15, r2_15, hrow_15, ho0_15, ho1_15, ho2_15, ho3_15, -⟩ := hq
  intro w hw; have hw := hw.unfold (i := 0) rfl hrow_15
  refine WR.here (C := CC F Γ3 [[(gd, .cells #[.int .i64 d.room, .slice A1_15 d.safe_.length c1_15, .slice A2_15 d.todo.length c2_15] ed (0, 0))], r2_15]) ?_ hw
  clear hw
  refine va rfl rfl rfl (q_ldl (i := 0) (v := .slice A2_15 d.todo.length c2_15) rfl rfl Try.isAgg45 rfl rfl) ?_
  refine va rfl rfl rfl (q_len_slice rfl Try.underlying45 rfl) ?_
  refine va rfl rfl rfl (q_lss rfl rfl rfl) ?_
  refine WR.nil ?_
  change WC _ _ _ _ _ _
  refine WC.cond (b := (decide (((i11 : Nat) : Int) < ((d.todo.length : Nat) : Int)))) (by kernel_rfl) (fun hb16 => ?_) (fun hb16 => ?_)
  · skip
    have hl17 := ilt hb16
    have h := hlt13 hl17
    refine WC.skip ?_
    change WC _ _ _ _ _ _
    intro w hw; have hw := hw.fold (is := [0, 0]) rfl hrow_15
    refine WC.here (C := CC F Γ3 [rowd]) ?_ hw
    clear hw
    refine WC.cut (fun σ w => ∃ (l_21 : List Dfirthref07_File), ∃ (Γ19 : Gh), ∃ (A22 : Option Addr), ∃ (c23 : Nat), m_firthref07_Disk_Crash_j17 f10 l_21 = some r ∧ slots σ [(0, .pointer (some ⟨gd, 0, none⟩)), (1, .int .i64 keep), (2, .int .i64 torn), (6, .slice A22 l_21.length c23), (7, .int .i64 ((i11 : Nat) : Int))] ∧ CC F Γ19 [rowd] w ∧ Gh.le Γ3 Γ19 ∧ l_21.length ≤ c23 ∧ Sl dfirthref07_FileT Γ19 A22 l_21 ∧ True) ?_ ?_
    · skip
      refine WC.block ?_
      refine WC.rs ?_
      refine va rfl rfl rfl (q_move (v := .pointer (some ⟨gd, 0, none⟩)) rfl (by kernel_rfl)) ?_
      refine va rfl rfl rfl (q_nil (A := some ⟨gd, 0, none⟩) rfl rfl rfl) ?_
      refine va rfl rfl rfl (q_fl 2 fld_47_2 rfl rfl rfl) ?_
      have hq := (hd.mono hl4)
      obtain ⟨A1_26, c1_26, A2_26, c2_26, r2_26, hrow_26, ho0_26, ho1_26, ho2_26, ho3_26, -⟩ := hq
      intro w hw; have hw := hw.unfold (i := 0) rfl hrow_26
      refine WR.here (C := CC F Γ3 [[(gd, .cells #[.int .i64 d.room, .slice A1_26 d.safe_.length c1_26, .slice A2_26 d.todo.length c2_26] ed (0, 0))], r2_26]) ?_ hw
      clear hw
      refine va rfl rfl rfl (q_ldl (i := 0) (v := .slice A2_26 d.todo.length c2_26) rfl rfl Try.isAgg45 rfl rfl) ?_
      refine va rfl rfl rfl (q_move (v := .int .i64 ((i11 : Nat) : Int)) rfl (by kernel_rfl)) ?_
      refine va rfl rfl rfl (q_ixn (i := i11) Try.underlying45 Try.sizeOf83 rfl rfl rfl hl17 (ho3_26.some_ hl17)) ?_
      obtain ⟨A27, c28, hx29⟩ := ho3_26.dfirthref07_ChangeT_at i11
      refine va rfl rfl rfl (q_ldoa (c := 0) (vs := [.int .i64 (gt d.todo i11).kind, .string (gt d.todo i11).name, .string (gt d.todo i11).to_, .slice A27 ((gt d.todo i11).data).length c28, .int .i64 (gt d.todo i11).n]) (i := 1) rfl (hx29 hl17).2 rfl Try.isAgg83 Try.sizeOf83 rfl rfl) ?_
      refine e_alloc Try.zeroValue83 rfl rfl rfl rfl ?_
      intro g30
      refine e_st (i := 0) (v := .agg #[.int .i64 (gt d.todo i11).kind, .string (gt d.todo i11).name, .string (gt d.todo i11).to_, .slice A27 ((gt d.todo i11).data).length c28, .int .i64 (gt d.todo i11).n]) (new := #[.int .i64 (gt d.todo i11).kind, .string (gt d.todo i11).name, .string (gt d.todo i11).to_, .slice A27 ((gt d.todo i11).data).length c28, .int .i64 (gt d.todo i11).n]) rfl Try.sizeOf83 rfl rfl rfl rfl (by kernel_rfl) rfl rfl rfl rfl ?_
      refine WR.nil ?_
      change WC _ _ _ _ _ _
      intro w hw; have hw := hw.fold (is := [1, 1]) rfl hrow_26
      refine WC.here (C := CC F Γ3 [rowd, [(g30, .cells #[.int .i64 (gt d.todo i11).kind, .string (gt d.todo i11).name, .string (gt d.todo i11).to_, .slice A27 ((gt d.todo i11).data).length c28, .int .i64 (gt d.todo i11).n] 83 (0, 0))]]) ?_ hw
      clear hw
      refine WC.cut (fun σ w => ∃ (l_34 : List Dfirthref07_File), ∃ (Γ32 : Gh), ∃ (A35 : Option Addr), ∃ (c36 : Nat), m_firthref07_Disk_Crash_j20 d keep torn f10 i11 l_34 = some r ∧ slots σ [(0, .pointer (some ⟨gd, 0, none⟩)), (1, .int .i64 keep), (2, .int .i64 torn), (6, .slice A35 l_34.length c36), (7, .int .i64 ((i11 : Nat) : Int)), (8, .pointer (some ⟨g30, 0, none⟩))] ∧ CC F Γ32 [rowd, [(g30, .cells #[.int .i64 (gt d.todo i11).kind, .string (gt d.todo i11).name, .string (gt d.todo i11).to_, .slice A27 ((gt d.todo i11).data).length c28, .int .i64 (gt d.todo i11).n] 83 (0, 0))]] w ∧ Gh.le Γ3 Γ32 ∧ l_34.length ≤ c36 ∧ Sl dfirthref07_FileT Γ32 A35 l_34 ∧ True) ?_ ?_
      · skip
        refine WC.rs ?_
        refine va rfl rfl rfl (q_move (v := .int .i64 ((i11 : Nat) : Int)) rfl (by kernel_rfl)) ?_
        refine va rfl rfl rfl (q_move (v := .int .i64 keep) rfl (by kernel_rfl)) ?_
        refine va rfl rfl rfl (q_lss rfl rfl rfl) ?_
        refine WR.nil ?_
        change WC _ _ _ _ _ _
        refine WC.cif h (by kernel_rfl) (fun hb39 h => ?_) (fun hb39 h => ?_)
        · skip
          refine WC.region ?_
          refine va rfl rfl rfl (q_move (v := .slice A6 l_5.length c7) rfl (by kernel_rfl)) ?_
          refine va rfl rfl rfl (q_ldla (i := 1) (vs := [.int .i64 (gt d.todo i11).kind, .string (gt d.todo i11).name, .string (gt d.todo i11).to_, .slice A27 ((gt d.todo i11).data).length c28, .int .i64 (gt d.todo i11).n]) rfl rfl Try.isAgg83 Try.sizeOf83 rfl rfl) ?_
          obtain ⟨z40, hz41, h⟩ := bnd h
          refine e_call (is := []) rfl rfl (call_run Try.call45 rfl rfl (by kernel_rfl)) rfl (fun w hp => t_firthref07_did hs8 hc9 (gt d.todo i11) (hx29 hl17).1 hp hz41) ?_
          rintro Γ42 U44 v45 hl43 ⟨A46, c47, row48, rfl, rfl, hr49, _⟩
          change WR _ _ _ (CC F Γ42 [row48, rowd, [(g30, .cells #[.int .i64 (gt d.todo i11).kind, .string (gt d.todo i11).name, .string (gt d.todo i11).to_, .slice A27 ((gt d.todo i11).data).length c28, .int .i64 (gt d.todo i11).n] 83 (0, 0))]]) _ _ (upd _ 34 (.slice A46 z40.length c47))
          refine va rfl rfl rfl (q_assign (v := .slice A46 z40.length c47) rfl (by kernel_rfl)) ?_
          refine WR.nil ?_
          intro w hw
          have hc54 := hr49.capz
          obtain ⟨Γ50, hw, hl51, hr52⟩ := hw.seal (i := 0) rfl; have hs53 := hr49.sl hl51 hr52
          exact ⟨z40, Γ50, A46, c47, h, (sl_ (by kernel_rfl)), (hw.only (is := [1, 1]) rfl), (hl43.trans hl51), hc54, hs53, trivial⟩
        · skip
          refine WC.skip ?_
          intro w hw
          exact ⟨l_5, Γ3, A6, c7, h, (sl_ (by kernel_rfl)), hw, (Gh.refl _), hc9, hs8, trivial⟩
      · skip
        rintro σ w ⟨l_34, Γ32, A35, c36, h, hsl, hw, hl33, hc38, hs37, -⟩
        refine Wpt.slots hsl ?_
        refine WC.here (C := CC F Γ32 [rowd, [(g30, .cells #[.int .i64 (gt d.todo i11).kind, .string (gt d.todo i11).name, .string (gt d.todo i11).to_, .slice A27 ((gt d.todo i11).data).length c28, .int .i64 (gt d.todo i11).n] 83 (0, 0))]]) ?_ hw
        clear hw hsl
        refine WC.rs ?_
        refine va rfl rfl rfl (q_move (v := .int .i64 ((i11 : Nat) : Int)) rfl (by kernel_rfl)) ?_
        refine va rfl rfl rfl (q_move (v := .int .i64 keep) rfl (by kernel_rfl)) ?_
        refine va rfl rfl rfl (q_eql rfl rfl rfl) ?_
        refine va rfl rfl rfl (q_move (v := .bool (((i11 : Nat) : Int) == keep)) rfl (by kernel_rfl)) ?_
        refine vg0 rfl rfl rfl rfl rfl (fun hg55 => QV.qo (q_move (v := .int .i64 ((i11 : Nat) : Int)) rfl (by kernel_rfl))) ?_
        refine vg0 rfl rfl rfl rfl rfl (fun hg56 => QV.qo (q_eql rfl (gu hg56 rfl) rfl)) ?_
        refine vg0 rfl rfl rfl rfl rfl (fun hg57 => QV.qo (q_move (v := .bool (((i11 : Nat) : Int) == 0)) rfl (gu hg57 rfl))) ?_
        refine vh1 (c0 := (!(((i11 : Nat) : Int) == keep))) (g := (((i11 : Nat) : Int) == 0)) rfl rfl rfl rfl rfl (fun hg58 => QV.qo (q_move (v := .int .i64 keep) rfl (by kernel_rfl))) ?_
        refine vh1 (c0 := (!(((i11 : Nat) : Int) == keep))) (g := (((i11 : Nat) : Int) == 0)) rfl rfl rfl rfl rfl (fun hg59 => QV.qo (q_lss rfl (gu hg59 rfl) rfl)) ?_
        refine vg0 rfl rfl rfl rfl rfl (fun hg60 => QV.qo (q_pick rfl (gu hg60 rfl) (pk_and (c := (!(((i11 : Nat) : Int) == keep))) (g := (((i11 : Nat) : Int) == 0)) (y := (decide (keep < 0))) hg60))) ?_
        refine va rfl rfl rfl (q_pick rfl rfl (pk_or' (g := (((i11 : Nat) : Int) == keep)) (y := ((((i11 : Nat) : Int) == 0) && (decide (keep < 0)))))) ?_
        refine va rfl rfl rfl (q_move (v := .bool ((((i11 : Nat) : Int) == keep) || ((((i11 : Nat) : Int) == 0) && (decide (keep < 0))))) rfl (by kernel_rfl)) ?_
        refine vg1 rfl rfl rfl rfl rfl (fun hg61 => QV.qo (q_fl 0 fld_83_0 rfl rfl rfl)) ?_
        refine vg1 rfl rfl rfl rfl rfl (fun hg62 => QV.qo (q_ldl (i := 1) (v := .int .i64 (gt d.todo i11).kind) rfl rfl Try.isAgg3 (gu hg62 rfl) rfl)) ?_
        refine vg1 rfl rfl rfl rfl rfl (fun hg63 => QV.qo (q_eql rfl (gu hg63 rfl) rfl)) ?_
        refine va rfl rfl rfl (q_pick rfl rfl (pk_and' (g := ((((i11 : Nat) : Int) == keep) || ((((i11 : Nat) : Int) == 0) && (decide (keep < 0))))) (y := ((gt d.todo i11).kind == 1)))) ?_
        refine va rfl rfl rfl (q_move (v := .bool (((((i11 : Nat) : Int) == keep) || ((((i11 : Nat) : Int) == 0) && (decide (keep < 0)))) && ((gt d.todo i11).kind == 1))) rfl (by kernel_rfl)) ?_
        refine vg1 rfl rfl rfl rfl rfl (fun hg64 => QV.qo (q_move (v := .int .i64 torn) rfl (by kernel_rfl))) ?_
        refine vg1 rfl rfl rfl rfl rfl (fun hg65 => QV.qo (q_gtr rfl (gu hg65 rfl) rfl)) ?_
        refine va rfl rfl rfl (q_pick rfl rfl (pk_and' (g := (((((i11 : Nat) : Int) == keep) || ((((i11 : Nat) : Int) == 0) && (decide (keep < 0)))) && ((gt d.todo i11).kind == 1))) (y := (decide (0 < torn))))) ?_
        refine va rfl rfl rfl (q_move (v := .bool ((((((i11 : Nat) : Int) == keep) || ((((i11 : Nat) : Int) == 0) && (decide (keep < 0)))) && ((gt d.todo i11).kind == 1)) && (decide (0 < torn)))) rfl (by kernel_rfl)) ?_
        refine vg1 rfl rfl rfl rfl rfl (fun hg66 => QV.qo (q_fl 3 fld_83_3 rfl rfl rfl)) ?_
        refine vg1 rfl rfl rfl rfl rfl (fun hg67 => QV.qo (q_ldl (i := 1) (v := .slice A27 ((gt d.todo i11).data).length c28) rfl rfl Try.isAgg22 (gu hg67 rfl) rfl)) ?_
        refine vg1 rfl rfl rfl rfl rfl (fun hg68 => QV.qo (q_len_slice rfl Try.underlying22 (gu hg68 rfl))) ?_
        refine vg1 rfl rfl rfl rfl rfl (fun hg69 => QV.qo (q_gtr rfl (gu hg69 rfl) rfl)) ?_
        refine va rfl rfl rfl (q_pick rfl rfl (pk_and' (g := ((((((i11 : Nat) : Int) == keep) || ((((i11 : Nat) : Int) == 0) && (decide (keep < 0)))) && ((gt d.todo i11).kind == 1)) && (decide (0 < torn)))) (y := (decide (0 < ((((gt d.todo i11).data).length : Nat) : Int)))))) ?_
        refine WR.nil ?_
        change WC _ _ _ _ _ _
        refine WC.cif h (by kernel_rfl) (fun hb70 h => ?_) (fun hb70 h => ?_)
        · skip
          refine WC.cut (fun σ w => ∃ (x71 : Dfirthref07_Change), ∃ (A73 : Option Addr), ∃ (c74 : Nat), m_firthref07_Disk_Crash_j21 f10 l_34 x71 = some r ∧ slots σ [(0, .pointer (some ⟨gd, 0, none⟩)), (1, .int .i64 keep), (2, .int .i64 torn), (6, .slice A35 l_34.length c36), (7, .int .i64 ((i11 : Nat) : Int)), (8, .pointer (some ⟨g30, 0, none⟩))] ∧ CC F Γ32 [rowd, [(g30, .cells #[.int .i64 x71.kind, .string x71.name, .string x71.to_, .slice A73 x71.data.length c74, .int .i64 x71.n] 83 (0, 0))]] w ∧ Dfirthref07_Change.fits Γ32 A73 c74 x71 ∧ True) ?_ ?_
          · skip
            refine WC.rs ?_
            refine va rfl rfl rfl (q_move (v := .int .i64 torn) rfl (by kernel_rfl)) ?_
            refine va rfl rfl rfl (q_fl 3 fld_83_3 rfl rfl rfl) ?_
            refine va rfl rfl rfl (q_ldl (i := 1) (v := .slice A27 ((gt d.todo i11).data).length c28) rfl rfl Try.isAgg22 rfl rfl) ?_
            refine va rfl rfl rfl (q_len_slice rfl Try.underlying22 rfl) ?_
            refine va rfl rfl rfl (q_lss rfl rfl rfl) ?_
            refine WR.nil ?_
            change WC _ _ _ _ _ _
            refine WC.cif h (by kernel_rfl) (fun hb75 h => ?_) (fun hb75 h => ?_)
            · skip
              refine WC.region ?_
              refine va rfl rfl rfl (q_fl 3 fld_83_3 rfl rfl rfl) ?_
              refine va rfl rfl rfl (q_ldl (i := 1) (v := .slice A27 ((gt d.todo i11).data).length c28) rfl rfl Try.isAgg22 rfl rfl) ?_
              refine va rfl rfl rfl (q_move (v := .int .i64 torn) rfl (by kernel_rfl)) ?_
              obtain ⟨hk76, h⟩ := chk_some h
              refine va rfl rfl rfl (q_cut_to (c := c28) (hi := torn.toNat) (xs := ((gt d.todo i11).data)) Try.underlying22 Try.sizeOf5 rfl rfl (inle_eq rfl hk76) (inle_le hk76) (hx29 hl17).1.2.2.2.1.1) ?_
              refine va rfl rfl rfl (q_fl 3 fld_83_3 rfl rfl rfl) ?_
              refine e_st (i := 1) (v := .slice A27 (List.take torn.toNat ((gt d.todo i11).data)).length c28) (new := #[.int .i64 (gt d.todo i11).kind, .string (gt d.todo i11).name, .string (gt d.todo i11).to_, .slice A27 (List.take torn.toNat ((gt d.todo i11).data)).length c28, .int .i64 (gt d.todo i11).n]) rfl Try.sizeOf22 rfl rfl rfl rfl (by kernel_rfl) rfl rfl rfl rfl ?_
              refine WR.nil ?_
              intro w hw
              exact ⟨(⟨(gt d.todo i11).kind, (gt d.todo i11).name, (gt d.todo i11).to_, (List.take torn.toNat ((gt d.todo i11).data)), (gt d.todo i11).n⟩ : Dfirthref07_Change), A27, c28, h, (sl_ (by kernel_rfl)), hw, ⟨(hx29 hl17).1.1, (hx29 hl17).1.2.1, (hx29 hl17).1.2.2.1, ⟨(take_cap (hx29 hl17).1.2.2.2.1.1 torn.toNat), (((hx29 hl17).1.2.2.2.1.2.mono hl33).cut_to (hi := torn.toNat) (inle_le hk76))⟩, (hx29 hl17).1.2.2.2.2⟩, trivial⟩
            · skip
              refine WC.skip ?_
              intro w hw
              exact ⟨(gt d.todo i11), A27, c28, h, (sl_ (by kernel_rfl)), hw, (Dfirthref07_Change.fits_mono (hx29 hl17).1 hl33), trivial⟩
          · skip
            rintro σ w ⟨x71, A73, c74, h, hsl, hw, hf72, -⟩
            refine Wpt.slots hsl ?_
            refine WC.here (C := CC F Γ32 [rowd, [(g30, .cells #[.int .i64 x71.kind, .string x71.name, .string x71.to_, .slice A73 x71.data.length c74, .int .i64 x71.n] 83 (0, 0))]]) ?_ hw
            clear hw hsl
            refine WC.region ?_
            refine va rfl rfl rfl (q_move (v := .slice A35 l_34.length c36) rfl (by kernel_rfl)) ?_
            refine va rfl rfl rfl (q_ldla (i := 1) (vs := [.int .i64 x71.kind, .string x71.name, .string x71.to_, .slice A73 x71.data.length c74, .int .i64 x71.n]) rfl rfl Try.isAgg83 Try.sizeOf83 rfl rfl) ?_
            obtain ⟨z77, hz78, h⟩ := bnd h
            refine e_call (is := []) rfl rfl (call_run Try.call45 rfl rfl (by kernel_rfl)) rfl (fun w hp => t_firthref07_did hs37 hc38 x71 hf72 hp hz78) ?_
            rintro Γ79 U81 v82 hl80 ⟨A83, c84, row85, rfl, rfl, hr86, _⟩
            change WR _ _ _ (CC F Γ79 [row85, rowd, [(g30, .cells #[.int .i64 x71.kind, .string x71.name, .string x71.to_, .slice A73 x71.data.length c74, .int .i64 x71.n] 83 (0, 0))]]) _ _ (upd _ 73 (.slice A83 z77.length c84))
            refine va rfl rfl rfl (q_assign (v := .slice A83 z77.length c84) rfl (by kernel_rfl)) ?_
            refine WR.nil ?_
            intro w hw
            have hc91 := hr86.capz
            obtain ⟨Γ87, hw, hl88, hr89⟩ := hw.seal (i := 0) rfl; have hs90 := hr86.sl hl88 hr89
            exact ⟨z77, Γ87, A83, c84, h, (sl_ (by kernel_rfl)), (hw.only (is := [1]) rfl), ((hl33.trans hl80).trans hl88), hc91, hs90, trivial⟩
        · skip
          refine WC.skip ?_
          intro w hw
          exact ⟨l_34, Γ32, A35, c36, h, (sl_ (by kernel_rfl)), (hw.only (is := [0]) rfl), hl33, hc38, hs37, trivial⟩
    · skip
      rintro σ w ⟨l_21, Γ19, A22, c23, h, hsl, hw, hl20, hc25, hs24, -⟩
      refine Wpt.slots hsl ?_
      refine WC.here (C := CC F Γ19 [rowd]) ?_ hw
      clear hw hsl
      refine WC.region ?_
      refine va rfl rfl rfl (q_move (v := .int .i64 ((i11 : Nat) : Int)) rfl (by kernel_rfl)) ?_
      refine va rfl rfl rfl (q_add_r (r := ((i11 + 1 : Nat) : Int)) rfl rfl rfl (ctr_len hl17 ho3_15.le)) ?_
      refine va rfl rfl rfl (q_assign (v := .int .i64 ((i11 + 1 : Nat) : Int)) rfl (by kernel_rfl)) ?_
      refine WR.nil ?_
      intro w hw
      exact ⟨hl17, l_21, h, Γ19, A22, c23, (sl_ (by kernel_rfl)), hw, (hl4.trans hl20), hc25, hs24, trivial⟩
  · skip
    have h := hge14 (ige hb16)
    refine WC.exit ?_
    change WC _ _ _ _ _ _
    refine WC.rs ?_
    refine va rfl rfl rfl (q_move (v := .pointer (some ⟨gd, 0, none⟩)) rfl (by kernel_rfl)) ?_
    refine va rfl rfl rfl (q_move (v := .slice A6 l_5.length c7) rfl (by kernel_rfl)) ?_
    refine va rfl rfl rfl (q_nil (A := some ⟨gd, 0, none⟩) rfl rfl rfl) ?_
    refine va rfl rfl rfl (q_fl 1 fld_47_1 rfl rfl rfl) ?_
    refine e_st (i := 0) (v := .slice A6 l_5.length c7) (new := #[.int .i64 d.room, .slice A6 l_5.length c7, .slice A2_15 d.todo.length c2_15]) rfl Try.sizeOf44 rfl rfl rfl rfl (by kernel_rfl) rfl rfl rfl rfl ?_
    refine WR.nil ?_
    change WC _ _ _ _ _ _
    refine WC.region ?_
    refine va rfl rfl rfl (q_move (v := .pointer (some ⟨gd, 0, none⟩)) rfl (by kernel_rfl)) ?_
    refine va rfl rfl rfl (q_nil (A := some ⟨gd, 0, none⟩) rfl rfl rfl) ?_
    refine va rfl rfl rfl (q_fl 2 fld_47_2 rfl rfl rfl) ?_
    refine e_st (i := 0) (v := .slice none 0 0) (new := #[.int .i64 d.room, .slice A6 l_5.length c7, .slice none 0 0]) rfl Try.sizeOf45 rfl rfl rfl rfl (by kernel_rfl) rfl rfl rfl rfl ?_
    refine WR.nil ?_
    intro w hw
    have hw := hw.pad
    obtain ⟨row_92, hrow_92, hob_92⟩ : ∃ rw : Rowb, rw = ([[(gd, .cells #[.int .i64 d.room, .slice A6 l_5.length c7, .slice none 0 0] ed (0, 0))], []] : List Rowb).flatten ∧ Ofirthref07_Disk.ob ed Γ3 gd rw (⟨d.room, l_5, []⟩ : Ofirthref07_Disk) := ⟨_, rfl, A6, c7, none, 0, [], rfl, ho0_15, hc9, hs8, (Own.nil dfirthref07_ChangeT Γ3 83), trivial⟩
    have hw := hw.fold (is := [1, 0]) rfl hrow_92
    obtain rfl := Option.some.inj h
    subst hF
    exact end_e (is := [0]) (by kernel_rfl) hw rfl ⟨row_92, rfl, rfl, hob_92, trivial⟩
abbrev r_disk_Disk_Wipe (gd ed : Nat) (r : Odisk_Disk) (U : List Rowb) (Γ : Gh) (v : Value) : Prop := ∃ (rowd' : Rowb), v = .tuple #[] ∧ U = [rowd'] ∧ Odisk_Disk.ob ed Γ gd rowd' r ∧ True
set_option maxRecDepth 100000 in
set_option maxHeartbeats 400000 in
theorem t_disk_Disk_Wipe {Γ : Gh} {w0 : World} {gd ed : Nat} {rowd : Rowb} {d : Odisk_Disk} (hd : Odisk_Disk.ob ed Γ gd rowd d) (hp : Pre [rowd] Γ w0) {r : Odisk_Disk} (h : m_disk_Disk_Wipe d = some r) : Calls Try.prog 43 #[.pointer (some ⟨gd, 0, none⟩)] w0 (Outc Γ [rowd] w0 (r_disk_Disk_Wipe gd ed r)) := by
  refine calls_of (N := 13) (rs := []) (args := [.pointer (some ⟨gd, 0, none⟩)]) Try.func43 rfl Try.ntmps43 Try.results43 rfl ?_
  obtain ⟨F, hF⟩ : ∃ F : Fm, F = ⟨ids [rowd], w0, Γ⟩ := ⟨_, rfl⟩
  refine WC.here (C := CC F Γ [rowd]) ?_ (hF ▸ hp.start)
  refine WC.region ?_
  refine va rfl rfl rfl (q_move (v := .pointer (some ⟨gd, 0, none⟩)) rfl (by kernel_rfl)) ?_
  refine va rfl rfl rfl (q_move (v := .pointer (some ⟨gd, 0, none⟩)) rfl (by kernel_rfl)) ?_
  refine va rfl rfl rfl (q_move (v := .pointer (some ⟨gd, 0, none⟩)) rfl (by kernel_rfl)) ?_
  refine e_makeMap (strK Try.underlying9) (slT byteT).v rfl rfl rfl rfl ?_
  intro g1 row2 hm3
  refine e_makeMap (strK Try.underlying9) (slT byteT).v rfl rfl rfl rfl ?_
  intro g4 row5 hm6
  refine va rfl rfl rfl (q_nil (A := some ⟨gd, 0, none⟩) rfl rfl rfl) ?_
  refine va rfl rfl rfl (q_fl 1 fld_61_1 rfl rfl rfl) ?_
  have hq := hd
  obtain ⟨m1_7, r1_7, m2_7, r2_7, A3_7, c3_7, r3_7, hrow_7, ho0_7, ho1_7, ho2_7, ho3_7, -⟩ := hq
  intro w hw; have hw := hw.unfold (i := 2) rfl hrow_7
  refine WR.here (C := CC F Γ [[(gd, .cells #[.int .i64 d.room, .map (some m1_7), .map (some m2_7), .slice A3_7 d.loose.length c3_7] ed (0, 0))], r1_7, r2_7, r3_7, row5, row2]) ?_ hw
  clear hw
  refine e_st (i := 0) (v := .map (some g1)) (new := #[.int .i64 d.room, .map (some g1), .map (some m2_7), .slice A3_7 d.loose.length c3_7]) rfl Try.sizeOf58 rfl rfl rfl rfl (by kernel_rfl) rfl rfl rfl rfl ?_
  refine va rfl rfl rfl (q_nil (A := some ⟨gd, 0, none⟩) rfl rfl rfl) ?_
  refine va rfl rfl rfl (q_fl 2 fld_61_2 rfl rfl rfl) ?_
  refine e_st (i := 0) (v := .map (some g4)) (new := #[.int .i64 d.room, .map (some g1), .map (some g4), .slice A3_7 d.loose.length c3_7]) rfl Try.sizeOf58 rfl rfl rfl rfl (by kernel_rfl) rfl rfl rfl rfl ?_
  refine va rfl rfl rfl (q_nil (A := some ⟨gd, 0, none⟩) rfl rfl rfl) ?_
  refine va rfl rfl rfl (q_fl 3 fld_61_3 rfl rfl rfl) ?_
  refine e_st (i := 0) (v := .slice none 0 0) (new := #[.int .i64 d.room, .map (some g1), .map (some g4), .slice none 0 0]) rfl Try.sizeOf59 rfl rfl rfl rfl (by kernel_rfl) rfl rfl rfl rfl ?_
  refine WR.nil ?_
  intro w hw
  have hw := hw.pad
  obtain ⟨row_8, hrow_8, hob_8⟩ : ∃ rw : Rowb, rw = ([[(gd, .cells #[.int .i64 d.room, .map (some g1), .map (some g4), .slice none 0 0] ed (0, 0))], row2, row5, []] : List Rowb).flatten ∧ Odisk_Disk.ob ed Γ gd rw (⟨d.room, ([] : List (ByteArray × (List UInt8))), ([] : List (ByteArray × (List UInt8))), []⟩ : Odisk_Disk) := ⟨_, rfl, g1, row2, g4, row5, none, 0, [], rfl, ho0_7, hm3, hm6, (Own.nil ddisk_changeT Γ 68), trivial⟩
  have hw := hw.fold (is := [1, 5, 4, 0]) rfl hrow_8
  obtain rfl := Option.some.inj h
  subst hF
  exact end_e (is := [0]) (by kernel_rfl) hw rfl ⟨row_8, rfl, rfl, hob_8, trivial⟩
abbrev r_firthref07_Disk_Wipe (gd ed : Nat) (r : Ofirthref07_Disk) (U : List Rowb) (Γ : Gh) (v : Value) : Prop := ∃ (rowd' : Rowb), v = .tuple #[] ∧ U = [rowd'] ∧ Ofirthref07_Disk.ob ed Γ gd rowd' r ∧ True
set_option maxRecDepth 100000 in
set_option maxHeartbeats 400000 in
theorem t_firthref07_Disk_Wipe {Γ : Gh} {w0 : World} {gd ed : Nat} {rowd : Rowb} {d : Ofirthref07_Disk} (hd : Ofirthref07_Disk.ob ed Γ gd rowd d) (hp : Pre [rowd] Γ w0) {r : Ofirthref07_Disk} (h : m_firthref07_Disk_Wipe d = some r) : Calls Try.prog 44 #[.pointer (some ⟨gd, 0, none⟩)] w0 (Outc Γ [rowd] w0 (r_firthref07_Disk_Wipe gd ed r)) := by
  refine calls_of (N := 8) (rs := []) (args := [.pointer (some ⟨gd, 0, none⟩)]) Try.func44 rfl Try.ntmps44 Try.results44 rfl ?_
  obtain ⟨F, hF⟩ : ∃ F : Fm, F = ⟨ids [rowd], w0, Γ⟩ := ⟨_, rfl⟩
  refine WC.here (C := CC F Γ [rowd]) ?_ (hF ▸ hp.start)
  refine WC.rs ?_
  refine va rfl rfl rfl (q_move (v := .pointer (some ⟨gd, 0, none⟩)) rfl (by kernel_rfl)) ?_
  refine va rfl rfl rfl (q_nil (A := some ⟨gd, 0, none⟩) rfl rfl rfl) ?_
  refine va rfl rfl rfl (q_fl 1 fld_47_1 rfl rfl rfl) ?_
  have hq := hd
  obtain ⟨A1_1, c1_1, A2_1, c2_1, r2_1, hrow_1, ho0_1, ho1_1, ho2_1, ho3_1, -⟩ := hq
  intro w hw; have hw := hw.unfold (i := 0) rfl hrow_1
  refine WR.here (C := CC F Γ [[(gd, .cells #[.int .i64 d.room, .slice A1_1 d.safe_.length c1_1, .slice A2_1 d.todo.length c2_1] ed (0, 0))], r2_1]) ?_ hw
  clear hw
  refine e_st (i := 0) (v := .slice none 0 0) (new := #[.int .i64 d.room, .slice none 0 0, .slice A2_1 d.todo.length c2_1]) rfl Try.sizeOf44 rfl rfl rfl rfl (by kernel_rfl) rfl rfl rfl rfl ?_
  refine WR.nil ?_
  change WC _ _ _ _ _ _
  refine WC.region ?_
  refine va rfl rfl rfl (q_move (v := .pointer (some ⟨gd, 0, none⟩)) rfl (by kernel_rfl)) ?_
  refine va rfl rfl rfl (q_nil (A := some ⟨gd, 0, none⟩) rfl rfl rfl) ?_
  refine va rfl rfl rfl (q_fl 2 fld_47_2 rfl rfl rfl) ?_
  refine e_st (i := 0) (v := .slice none 0 0) (new := #[.int .i64 d.room, .slice none 0 0, .slice none 0 0]) rfl Try.sizeOf45 rfl rfl rfl rfl (by kernel_rfl) rfl rfl rfl rfl ?_
  refine WR.nil ?_
  intro w hw
  have hw := hw.pad
  obtain ⟨row_2, hrow_2, hob_2⟩ : ∃ rw : Rowb, rw = ([[(gd, .cells #[.int .i64 d.room, .slice none 0 0, .slice none 0 0] ed (0, 0))], []] : List Rowb).flatten ∧ Ofirthref07_Disk.ob ed Γ gd rw (⟨d.room, [], []⟩ : Ofirthref07_Disk) := ⟨_, rfl, none, 0, none, 0, [], rfl, ho0_1, (Nat.zero_le 0), (Sl.nil _ _ none), (Own.nil dfirthref07_ChangeT Γ 83), trivial⟩
  have hw := hw.fold (is := [1, 0]) rfl hrow_2
  obtain rfl := Option.some.inj h
  subst hF
  exact end_e (is := [0]) (by kernel_rfl) hw rfl ⟨row_2, rfl, rfl, hob_2, trivial⟩
abbrev r_firthlaw07_does (gd ed : Nat) (gm em : Nat) (r : Odisk_Disk × Ofirthref07_Disk × Bool) (U : List Rowb) (Γ : Gh) (v : Value) : Prop := ∃ (rowd' : Rowb), ∃ (rowm' : Rowb), v = .bool r.2.2 ∧ U = [rowd', rowm'] ∧ Odisk_Disk.ob ed Γ gd rowd' r.1 ∧ Ofirthref07_Disk.ob em Γ gm rowm' r.2.1 ∧ True
set_option maxRecDepth 100000 in
set_option maxHeartbeats 400000 in
theorem t_firthlaw07_does {Γ : Gh} {w0 : World} {gd ed : Nat} {rowd : Rowb} {d : Odisk_Disk} (hd : Odisk_Disk.ob ed Γ gd rowd d) {gm em : Nat} {rowm : Rowb} {m : Ofirthref07_Disk} (hm : Ofirthref07_Disk.ob em Γ gm rowm m) {Ao3 : Option Addr} {co3 : Nat} (o : Dfirthlaw07_Op) (ho : Dfirthlaw07_Op.fits Γ Ao3 co3 o) (hp : Pre [rowd, rowm] Γ w0) {r : Odisk_Disk × Ofirthref07_Disk × Bool} (h : m_firthlaw07_does d m o = some r) : Calls Try.prog 20 #[.pointer (some ⟨gd, 0, none⟩), .pointer (some ⟨gm, 0, none⟩), .agg #[.int .i64 o.kind, .string o.name, .string o.to_, .slice Ao3 o.data.length co3, .int .i64 o.n, .int .i64 o.torn]] w0 (Outc Γ [rowd, rowm] w0 (r_firthlaw07_does gd ed gm em r)) := by
  refine calls_of (N := 91) (rs := [6]) (args := [.pointer (some ⟨gd, 0, none⟩), .pointer (some ⟨gm, 0, none⟩), .agg #[.int .i64 o.kind, .string o.name, .string o.to_, .slice Ao3 o.data.length co3, .int .i64 o.n, .int .i64 o.torn]]) Try.func20 rfl Try.ntmps20 Try.results20 rfl ?_
  obtain ⟨F, hF⟩ : ∃ F : Fm, F = ⟨ids [rowd, rowm], w0, Γ⟩ := ⟨_, rfl⟩
  refine WC.here (C := CC F Γ [rowd, rowm]) ?_ (hF ▸ hp.start)
  refine WC.rs ?_
  refine e_box (v := .agg #[.int .i64 o.kind, .string o.name, .string o.to_, .slice Ao3 o.data.length co3, .int .i64 o.n, .int .i64 o.torn]) rfl rfl rfl rfl (by kernel_rfl) ?_
  intro g1
  refine va rfl rfl rfl (q_assign (v := .bool false) rfl (by kernel_rfl)) ?_
  refine WR.nil ?_
  change WC _ _ _ _ _ _
  refine WC.seq ?_
  refine WC.rs ?_
  refine va rfl rfl rfl (q_fl 0 fld_43_0 rfl rfl rfl) ?_
  refine va rfl rfl rfl (q_ldl (i := 0) (v := .int .i64 o.kind) rfl rfl Try.isAgg3 rfl rfl) ?_
  refine WR.nil ?_
  change WC _ _ _ _ _ _
  refine WC.block ?_
  refine WC.rs ?_
  refine va rfl rfl rfl (q_eql rfl rfl rfl) ?_
  refine va rfl rfl rfl (q_assign (v := .bool (o.kind == 1)) rfl (by kernel_rfl)) ?_
  refine WR.nil ?_
  change WC _ _ _ _ _ _
  refine WC.cif h (by kernel_rfl) (fun hb2 h => ?_) (fun hb2 h => ?_)
  · skip
    refine WC.seq ?_
    intro w hw; have h03 := hw.le
    refine WC.here (C := CC F Γ [[(g1, .cells #[.int .i64 o.kind, .string o.name, .string o.to_, .slice Ao3 o.data.length co3, .int .i64 o.n, .int .i64 o.torn] 43 (0, 0))], rowd, rowm]) ?_ hw; clear hw
    refine WC.held (CC F Γ [[(g1, .cells #[.int .i64 o.kind, .string o.name, .string o.to_, .slice Ao3 o.data.length co3, .int .i64 o.n, .int .i64 o.torn] 43 (0, 0))]]) (by kernel_rfl) (fun w hw => hw.drawn _) ?_
    change WH _ _ _ _ (CC F Γ [[(g1, .cells #[.int .i64 o.kind, .string o.name, .string o.to_, .slice Ao3 o.data.length co3, .int .i64 o.n, .int .i64 o.torn] 43 (0, 0))], rowd, rowm]) _ 14 #[false, false, false, false, false, false, false, false, false, false, false, false, false, false] _
    refine ht (i := 0) rfl (by kernel_rfl) rfl rfl rfl (fun w hw => hw.back (Gh.refl _) h03 (.cons_cons _ (.cons _ (.cons _ .slnil)))) (q_move (v := .pointer (some ⟨gd, 0, none⟩)) rfl (by kernel_rfl)) ?_
    refine ht (i := 1) rfl (by kernel_rfl) rfl rfl rfl (fun w hw => hw.back (Gh.refl _) h03 (.cons_cons _ (.cons _ (.cons _ .slnil)))) (q_fl 1 fld_43_1 rfl rfl rfl) ?_
    refine ht (i := 2) rfl (by kernel_rfl) rfl rfl rfl (fun w hw => hw.back (Gh.refl _) h03 (.cons_cons _ (.cons _ (.cons _ .slnil)))) (q_ldl (i := 0) (v := .string o.name) rfl rfl Try.isAgg9 rfl rfl) ?_
    refine ht (i := 3) rfl (by kernel_rfl) rfl rfl rfl (fun w hw => hw.back (Gh.refl _) h03 (.cons_cons _ (.cons _ (.cons _ .slnil)))) (q_fl 3 fld_43_3 rfl rfl rfl) ?_
    refine ht (i := 4) rfl (by kernel_rfl) rfl rfl rfl (fun w hw => hw.back (Gh.refl _) h03 (.cons_cons _ (.cons _ (.cons _ .slnil)))) (q_ldl (i := 0) (v := .slice Ao3 o.data.length co3) rfl rfl Try.isAgg22 rfl rfl) ?_
    refine ht (i := 6) rfl (by kernel_rfl) rfl rfl rfl (fun w hw => hw.back (Gh.refl _) h03 (.cons_cons _ (.cons _ (.cons _ .slnil)))) (q_move (v := .pointer (some ⟨gm, 0, none⟩)) rfl (by kernel_rfl)) ?_
    refine ht (i := 7) rfl (by kernel_rfl) rfl rfl rfl (fun w hw => hw.back (Gh.refl _) h03 (.cons_cons _ (.cons _ (.cons _ .slnil)))) (q_fl 1 fld_43_1 rfl rfl rfl) ?_
    refine ht (i := 8) rfl (by kernel_rfl) rfl rfl rfl (fun w hw => hw.back (Gh.refl _) h03 (.cons_cons _ (.cons _ (.cons _ .slnil)))) (q_ldl (i := 0) (v := .string o.name) rfl rfl Try.isAgg9 rfl rfl) ?_
    refine ht (i := 9) rfl (by kernel_rfl) rfl rfl rfl (fun w hw => hw.back (Gh.refl _) h03 (.cons_cons _ (.cons _ (.cons _ .slnil)))) (q_fl 3 fld_43_3 rfl rfl rfl) ?_
    refine ht (i := 10) rfl (by kernel_rfl) rfl rfl rfl (fun w hw => hw.back (Gh.refl _) h03 (.cons_cons _ (.cons _ (.cons _ .slnil)))) (q_ldl (i := 0) (v := .slice Ao3 o.data.length co3) rfl rfl Try.isAgg22 rfl rfl) ?_
    refine WH.lone (i := 5) (by kernel_rfl) rfl ?_
    obtain ⟨z4, hz5, h⟩ := bnd h
    refine e_call (is := [1]) rfl rfl (call_run Try.call11 rfl rfl (by kernel_rfl)) rfl (fun w hp => t_disk_Disk_Append hd o.name ho.2.1 ho.2.2.2.1.2 ho.2.2.2.1.1 hp hz5) ?_
    rintro Γ6 U8 v9 hl7 ⟨row10, rfl, rfl, hr11, hr12, _⟩
    change WR _ _ _ (CC F Γ6 [row10, [(g1, .cells #[.int .i64 o.kind, .string o.name, .string o.to_, .slice Ao3 o.data.length co3, .int .i64 o.n, .int .i64 o.torn] 43 (0, 0))], rowm]) _ _ (upd _ 16 (.int .i64 z4.2))
    refine WR.nil ?_
    refine WH.next (fun w hw => hw.back hl7 h03 (.cons _ (.cons_cons _ (.cons _ .slnil)))) ?_
    refine WH.lone (i := 11) (by kernel_rfl) rfl ?_
    obtain ⟨z13, hz14, h⟩ := bnd h
    refine e_call (is := [2]) rfl rfl (call_run Try.call36 rfl rfl (by kernel_rfl)) rfl (fun w hp => t_firthref07_Disk_Append (hm.mono hl7) o.name ho.2.1 (ho.2.2.2.1.2.mono hl7) ho.2.2.2.1.1 hp hz14) ?_
    rintro Γ15 U17 v18 hl16 ⟨row19, rfl, rfl, hr20, hr21, _⟩
    change WR _ _ _ (CC F Γ15 [row19, row10, [(g1, .cells #[.int .i64 o.kind, .string o.name, .string o.to_, .slice Ao3 o.data.length co3, .int .i64 o.n, .int .i64 o.torn] 43 (0, 0))]]) _ _ (upd _ 22 (.int .i64 z13.2))
    refine WR.nil ?_
    refine WH.next (fun w hw => hw.back (hl7.trans hl16) h03 (.cons _ (.cons _ (.cons_cons _ .slnil)))) ?_
    refine ht (i := 12) rfl (by kernel_rfl) rfl rfl rfl (fun w hw => hw.back (hl7.trans hl16) h03 (.cons _ (.cons _ (.cons_cons _ .slnil)))) (q_eql rfl rfl rfl) ?_
    refine ht (i := 13) rfl (by kernel_rfl) rfl rfl rfl (fun w hw => hw.back (hl7.trans hl16) h03 (.cons _ (.cons _ (.cons_cons _ .slnil)))) (q_assign (v := .bool (z4.2 == z13.2)) rfl (by kernel_rfl)) ?_
    refine WH.done (by kernel_rfl) ?_
    change WC _ _ _ _ _ _
    refine WC.ret ?_
    intro w hw
    obtain rfl := Option.some.inj h
    subst hF
    exact end_e (is := [1, 0]) (by kernel_rfl) hw rfl ⟨row10, row19, rfl, rfl, (hr11.mono hl16), hr20, trivial⟩
  · skip
    refine WC.rs ?_
    refine va rfl rfl rfl (q_eql rfl rfl rfl) ?_
    refine va rfl rfl rfl (q_assign (v := .bool (o.kind == 2)) rfl (by kernel_rfl)) ?_
    refine WR.nil ?_
    change WC _ _ _ _ _ _
    refine WC.cif h (by kernel_rfl) (fun hb22 h => ?_) (fun hb22 h => ?_)
    · skip
      refine WC.seq ?_
      intro w hw; have h023 := hw.le
      refine WC.here (C := CC F Γ [[(g1, .cells #[.int .i64 o.kind, .string o.name, .string o.to_, .slice Ao3 o.data.length co3, .int .i64 o.n, .int .i64 o.torn] 43 (0, 0))], rowd, rowm]) ?_ hw; clear hw
      refine WC.held (CC F Γ [[(g1, .cells #[.int .i64 o.kind, .string o.name, .string o.to_, .slice Ao3 o.data.length co3, .int .i64 o.n, .int .i64 o.torn] 43 (0, 0))]]) (by kernel_rfl) (fun w hw => hw.drawn _) ?_
      change WH _ _ _ _ (CC F Γ [[(g1, .cells #[.int .i64 o.kind, .string o.name, .string o.to_, .slice Ao3 o.data.length co3, .int .i64 o.n, .int .i64 o.torn] 43 (0, 0))], rowd, rowm]) _ 14 #[false, false, false, false, false, false, false, false, false, false, false, false, false, false] _
      refine ht (i := 0) rfl (by kernel_rfl) rfl rfl rfl (fun w hw => hw.back (Gh.refl _) h023 (.cons_cons _ (.cons _ (.cons _ .slnil)))) (q_move (v := .pointer (some ⟨gd, 0, none⟩)) rfl (by kernel_rfl)) ?_
      refine ht (i := 1) rfl (by kernel_rfl) rfl rfl rfl (fun w hw => hw.back (Gh.refl _) h023 (.cons_cons _ (.cons _ (.cons _ .slnil)))) (q_fl 1 fld_43_1 rfl rfl rfl) ?_
      refine ht (i := 2) rfl (by kernel_rfl) rfl rfl rfl (fun w hw => hw.back (Gh.refl _) h023 (.cons_cons _ (.cons _ (.cons _ .slnil)))) (q_ldl (i := 0) (v := .string o.name) rfl rfl Try.isAgg9 rfl rfl) ?_
      refine ht (i := 3) rfl (by kernel_rfl) rfl rfl rfl (fun w hw => hw.back (Gh.refl _) h023 (.cons_cons _ (.cons _ (.cons _ .slnil)))) (q_fl 4 fld_43_4 rfl rfl rfl) ?_
      refine ht (i := 4) rfl (by kernel_rfl) rfl rfl rfl (fun w hw => hw.back (Gh.refl _) h023 (.cons_cons _ (.cons _ (.cons _ .slnil)))) (q_ldl (i := 0) (v := .int .i64 o.n) rfl rfl Try.isAgg3 rfl rfl) ?_
      refine ht (i := 6) rfl (by kernel_rfl) rfl rfl rfl (fun w hw => hw.back (Gh.refl _) h023 (.cons_cons _ (.cons _ (.cons _ .slnil)))) (q_move (v := .pointer (some ⟨gm, 0, none⟩)) rfl (by kernel_rfl)) ?_
      refine ht (i := 7) rfl (by kernel_rfl) rfl rfl rfl (fun w hw => hw.back (Gh.refl _) h023 (.cons_cons _ (.cons _ (.cons _ .slnil)))) (q_fl 1 fld_43_1 rfl rfl rfl) ?_
      refine ht (i := 8) rfl (by kernel_rfl) rfl rfl rfl (fun w hw => hw.back (Gh.refl _) h023 (.cons_cons _ (.cons _ (.cons _ .slnil)))) (q_ldl (i := 0) (v := .string o.name) rfl rfl Try.isAgg9 rfl rfl) ?_
      refine ht (i := 9) rfl (by kernel_rfl) rfl rfl rfl (fun w hw => hw.back (Gh.refl _) h023 (.cons_cons _ (.cons _ (.cons _ .slnil)))) (q_fl 4 fld_43_4 rfl rfl rfl) ?_
      refine ht (i := 10) rfl (by kernel_rfl) rfl rfl rfl (fun w hw => hw.back (Gh.refl _) h023 (.cons_cons _ (.cons _ (.cons _ .slnil)))) (q_ldl (i := 0) (v := .int .i64 o.n) rfl rfl Try.isAgg3 rfl rfl) ?_
      refine WH.lone (i := 5) (by kernel_rfl) rfl ?_
      obtain ⟨z24, hz25, h⟩ := bnd h
      refine e_call (is := [1]) rfl rfl (call_run Try.call37 rfl rfl (by kernel_rfl)) rfl (fun w hp => t_disk_Disk_Cut hd o.name ho.2.1 o.n ho.2.2.2.2.1 hp hz25) ?_
      rintro Γ26 U28 v29 hl27 ⟨row30, rfl, rfl, hr31, hr32, _⟩
      change WR _ _ _ (CC F Γ26 [row30, [(g1, .cells #[.int .i64 o.kind, .string o.name, .string o.to_, .slice Ao3 o.data.length co3, .int .i64 o.n, .int .i64 o.torn] 43 (0, 0))], rowm]) _ _ (upd _ 31 (.int .i64 z24.2))
      refine WR.nil ?_
      refine WH.next (fun w hw => hw.back hl27 h023 (.cons _ (.cons_cons _ (.cons _ .slnil)))) ?_
      refine WH.lone (i := 11) (by kernel_rfl) rfl ?_
      obtain ⟨z33, hz34, h⟩ := bnd h
      refine e_call (is := [2]) rfl rfl (call_run Try.call38 rfl rfl (by kernel_rfl)) rfl (fun w hp => t_firthref07_Disk_Cut (hm.mono hl27) o.name ho.2.1 o.n ho.2.2.2.2.1 hp hz34) ?_
      rintro Γ35 U37 v38 hl36 ⟨row39, rfl, rfl, hr40, hr41, _⟩
      change WR _ _ _ (CC F Γ35 [row39, row30, [(g1, .cells #[.int .i64 o.kind, .string o.name, .string o.to_, .slice Ao3 o.data.length co3, .int .i64 o.n, .int .i64 o.torn] 43 (0, 0))]]) _ _ (upd _ 37 (.int .i64 z33.2))
      refine WR.nil ?_
      refine WH.next (fun w hw => hw.back (hl27.trans hl36) h023 (.cons _ (.cons _ (.cons_cons _ .slnil)))) ?_
      refine ht (i := 12) rfl (by kernel_rfl) rfl rfl rfl (fun w hw => hw.back (hl27.trans hl36) h023 (.cons _ (.cons _ (.cons_cons _ .slnil)))) (q_eql rfl rfl rfl) ?_
      refine ht (i := 13) rfl (by kernel_rfl) rfl rfl rfl (fun w hw => hw.back (hl27.trans hl36) h023 (.cons _ (.cons _ (.cons_cons _ .slnil)))) (q_assign (v := .bool (z24.2 == z33.2)) rfl (by kernel_rfl)) ?_
      refine WH.done (by kernel_rfl) ?_
      change WC _ _ _ _ _ _
      refine WC.ret ?_
      intro w hw
      obtain rfl := Option.some.inj h
      subst hF
      exact end_e (is := [1, 0]) (by kernel_rfl) hw rfl ⟨row30, row39, rfl, rfl, (hr31.mono hl36), hr40, trivial⟩
    · skip
      refine WC.rs ?_
      refine va rfl rfl rfl (q_eql rfl rfl rfl) ?_
      refine va rfl rfl rfl (q_assign (v := .bool (o.kind == 3)) rfl (by kernel_rfl)) ?_
      refine WR.nil ?_
      change WC _ _ _ _ _ _
      refine WC.cif h (by kernel_rfl) (fun hb42 h => ?_) (fun hb42 h => ?_)
      · skip
        refine WC.seq ?_
        intro w hw; have h043 := hw.le
        refine WC.here (C := CC F Γ [[(g1, .cells #[.int .i64 o.kind, .string o.name, .string o.to_, .slice Ao3 o.data.length co3, .int .i64 o.n, .int .i64 o.torn] 43 (0, 0))], rowd, rowm]) ?_ hw; clear hw
        refine WC.held (CC F Γ [[(g1, .cells #[.int .i64 o.kind, .string o.name, .string o.to_, .slice Ao3 o.data.length co3, .int .i64 o.n, .int .i64 o.torn] 43 (0, 0))]]) (by kernel_rfl) (fun w hw => hw.drawn _) ?_
        change WH _ _ _ _ (CC F Γ [[(g1, .cells #[.int .i64 o.kind, .string o.name, .string o.to_, .slice Ao3 o.data.length co3, .int .i64 o.n, .int .i64 o.torn] 43 (0, 0))], rowd, rowm]) _ 14 #[false, false, false, false, false, false, false, false, false, false, false, false, false, false] _
        refine ht (i := 0) rfl (by kernel_rfl) rfl rfl rfl (fun w hw => hw.back (Gh.refl _) h043 (.cons_cons _ (.cons _ (.cons _ .slnil)))) (q_move (v := .pointer (some ⟨gd, 0, none⟩)) rfl (by kernel_rfl)) ?_
        refine ht (i := 1) rfl (by kernel_rfl) rfl rfl rfl (fun w hw => hw.back (Gh.refl _) h043 (.cons_cons _ (.cons _ (.cons _ .slnil)))) (q_fl 1 fld_43_1 rfl rfl rfl) ?_
        refine ht (i := 2) rfl (by kernel_rfl) rfl rfl rfl (fun w hw => hw.back (Gh.refl _) h043 (.cons_cons _ (.cons _ (.cons _ .slnil)))) (q_ldl (i := 0) (v := .string o.name) rfl rfl Try.isAgg9 rfl rfl) ?_
        refine ht (i := 3) rfl (by kernel_rfl) rfl rfl rfl (fun w hw => hw.back (Gh.refl _) h043 (.cons_cons _ (.cons _ (.cons _ .slnil)))) (q_fl 2 fld_43_2 rfl rfl rfl) ?_
        refine ht (i := 4) rfl (by kernel_rfl) rfl rfl rfl (fun w hw => hw.back (Gh.refl _) h043 (.cons_cons _ (.cons _ (.cons _ .slnil)))) (q_ldl (i := 0) (v := .string o.to_) rfl rfl Try.isAgg9 rfl rfl) ?_
        refine ht (i := 6) rfl (by kernel_rfl) rfl rfl rfl (fun w hw => hw.back (Gh.refl _) h043 (.cons_cons _ (.cons _ (.cons _ .slnil)))) (q_move (v := .pointer (some ⟨gm, 0, none⟩)) rfl (by kernel_rfl)) ?_
        refine ht (i := 7) rfl (by kernel_rfl) rfl rfl rfl (fun w hw => hw.back (Gh.refl _) h043 (.cons_cons _ (.cons _ (.cons _ .slnil)))) (q_fl 1 fld_43_1 rfl rfl rfl) ?_
        refine ht (i := 8) rfl (by kernel_rfl) rfl rfl rfl (fun w hw => hw.back (Gh.refl _) h043 (.cons_cons _ (.cons _ (.cons _ .slnil)))) (q_ldl (i := 0) (v := .string o.name) rfl rfl Try.isAgg9 rfl rfl) ?_
        refine ht (i := 9) rfl (by kernel_rfl) rfl rfl rfl (fun w hw => hw.back (Gh.refl _) h043 (.cons_cons _ (.cons _ (.cons _ .slnil)))) (q_fl 2 fld_43_2 rfl rfl rfl) ?_
        refine ht (i := 10) rfl (by kernel_rfl) rfl rfl rfl (fun w hw => hw.back (Gh.refl _) h043 (.cons_cons _ (.cons _ (.cons _ .slnil)))) (q_ldl (i := 0) (v := .string o.to_) rfl rfl Try.isAgg9 rfl rfl) ?_
        refine WH.lone (i := 5) (by kernel_rfl) rfl ?_
        obtain ⟨z44, hz45, h⟩ := bnd h
        refine e_call (is := [1]) rfl rfl (call_run Try.call14 rfl rfl (by kernel_rfl)) rfl (fun w hp => t_disk_Disk_Rename hd o.name ho.2.1 o.to_ ho.2.2.1 hp hz45) ?_
        rintro Γ46 U48 v49 hl47 ⟨row50, rfl, rfl, hr51, hr52, _⟩
        change WR _ _ _ (CC F Γ46 [row50, [(g1, .cells #[.int .i64 o.kind, .string o.name, .string o.to_, .slice Ao3 o.data.length co3, .int .i64 o.n, .int .i64 o.torn] 43 (0, 0))], rowm]) _ _ (upd _ 46 (.int .i64 z44.2))
        refine WR.nil ?_
        refine WH.next (fun w hw => hw.back hl47 h043 (.cons _ (.cons_cons _ (.cons _ .slnil)))) ?_
        refine WH.lone (i := 11) (by kernel_rfl) rfl ?_
        obtain ⟨z53, hz54, h⟩ := bnd h
        refine e_call (is := [2]) rfl rfl (call_run Try.call39 rfl rfl (by kernel_rfl)) rfl (fun w hp => t_firthref07_Disk_Rename (hm.mono hl47) o.name ho.2.1 o.to_ ho.2.2.1 hp hz54) ?_
        rintro Γ55 U57 v58 hl56 ⟨row59, rfl, rfl, hr60, hr61, _⟩
        change WR _ _ _ (CC F Γ55 [row59, row50, [(g1, .cells #[.int .i64 o.kind, .string o.name, .string o.to_, .slice Ao3 o.data.length co3, .int .i64 o.n, .int .i64 o.torn] 43 (0, 0))]]) _ _ (upd _ 52 (.int .i64 z53.2))
        refine WR.nil ?_
        refine WH.next (fun w hw => hw.back (hl47.trans hl56) h043 (.cons _ (.cons _ (.cons_cons _ .slnil)))) ?_
        refine ht (i := 12) rfl (by kernel_rfl) rfl rfl rfl (fun w hw => hw.back (hl47.trans hl56) h043 (.cons _ (.cons _ (.cons_cons _ .slnil)))) (q_eql rfl rfl rfl) ?_
        refine ht (i := 13) rfl (by kernel_rfl) rfl rfl rfl (fun w hw => hw.back (hl47.trans hl56) h043 (.cons _ (.cons _ (.cons_cons _ .slnil)))) (q_assign (v := .bool (z44.2 == z53.2)) rfl (by kernel_rfl)) ?_
        refine WH.done (by kernel_rfl) ?_
        change WC _ _ _ _ _ _
        refine WC.ret ?_
        intro w hw
        obtain rfl := Option.some.inj h
        subst hF
        exact end_e (is := [1, 0]) (by kernel_rfl) hw rfl ⟨row50, row59, rfl, rfl, (hr51.mono hl56), hr60, trivial⟩
      · skip
        refine WC.rs ?_
        refine va rfl rfl rfl (q_eql rfl rfl rfl) ?_
        refine va rfl rfl rfl (q_assign (v := .bool (o.kind == 4)) rfl (by kernel_rfl)) ?_
        refine WR.nil ?_
        change WC _ _ _ _ _ _
        refine WC.cif h (by kernel_rfl) (fun hb62 h => ?_) (fun hb62 h => ?_)
        · skip
          refine WC.seq ?_
          intro w hw; have h063 := hw.le
          refine WC.here (C := CC F Γ [[(g1, .cells #[.int .i64 o.kind, .string o.name, .string o.to_, .slice Ao3 o.data.length co3, .int .i64 o.n, .int .i64 o.torn] 43 (0, 0))], rowd, rowm]) ?_ hw; clear hw
          refine WC.held (CC F Γ [[(g1, .cells #[.int .i64 o.kind, .string o.name, .string o.to_, .slice Ao3 o.data.length co3, .int .i64 o.n, .int .i64 o.torn] 43 (0, 0))]]) (by kernel_rfl) (fun w hw => hw.drawn _) ?_
          change WH _ _ _ _ (CC F Γ [[(g1, .cells #[.int .i64 o.kind, .string o.name, .string o.to_, .slice Ao3 o.data.length co3, .int .i64 o.n, .int .i64 o.torn] 43 (0, 0))], rowd, rowm]) _ 10 #[false, false, false, false, false, false, false, false, false, false] _
          refine ht (i := 0) rfl (by kernel_rfl) rfl rfl rfl (fun w hw => hw.back (Gh.refl _) h063 (.cons_cons _ (.cons _ (.cons _ .slnil)))) (q_move (v := .pointer (some ⟨gd, 0, none⟩)) rfl (by kernel_rfl)) ?_
          refine ht (i := 1) rfl (by kernel_rfl) rfl rfl rfl (fun w hw => hw.back (Gh.refl _) h063 (.cons_cons _ (.cons _ (.cons _ .slnil)))) (q_fl 1 fld_43_1 rfl rfl rfl) ?_
          refine ht (i := 2) rfl (by kernel_rfl) rfl rfl rfl (fun w hw => hw.back (Gh.refl _) h063 (.cons_cons _ (.cons _ (.cons _ .slnil)))) (q_ldl (i := 0) (v := .string o.name) rfl rfl Try.isAgg9 rfl rfl) ?_
          refine ht (i := 4) rfl (by kernel_rfl) rfl rfl rfl (fun w hw => hw.back (Gh.refl _) h063 (.cons_cons _ (.cons _ (.cons _ .slnil)))) (q_move (v := .pointer (some ⟨gm, 0, none⟩)) rfl (by kernel_rfl)) ?_
          refine ht (i := 5) rfl (by kernel_rfl) rfl rfl rfl (fun w hw => hw.back (Gh.refl _) h063 (.cons_cons _ (.cons _ (.cons _ .slnil)))) (q_fl 1 fld_43_1 rfl rfl rfl) ?_
          refine ht (i := 6) rfl (by kernel_rfl) rfl rfl rfl (fun w hw => hw.back (Gh.refl _) h063 (.cons_cons _ (.cons _ (.cons _ .slnil)))) (q_ldl (i := 0) (v := .string o.name) rfl rfl Try.isAgg9 rfl rfl) ?_
          refine WH.lone (i := 3) (by kernel_rfl) rfl ?_
          obtain ⟨z64, hz65, h⟩ := bnd h
          refine e_call (is := [1]) rfl rfl (call_run Try.call16 rfl rfl (by kernel_rfl)) rfl (fun w hp => t_disk_Disk_Remove hd o.name ho.2.1 hp hz65) ?_
          rintro Γ66 U68 v69 hl67 ⟨row70, rfl, rfl, hr71, hr72, _⟩
          change WR _ _ _ (CC F Γ66 [row70, [(g1, .cells #[.int .i64 o.kind, .string o.name, .string o.to_, .slice Ao3 o.data.length co3, .int .i64 o.n, .int .i64 o.torn] 43 (0, 0))], rowm]) _ _ (upd _ 59 (.int .i64 z64.2))
          refine WR.nil ?_
          refine WH.next (fun w hw => hw.back hl67 h063 (.cons _ (.cons_cons _ (.cons _ .slnil)))) ?_
          refine WH.lone (i := 7) (by kernel_rfl) rfl ?_
          obtain ⟨z73, hz74, h⟩ := bnd h
          refine e_call (is := [2]) rfl rfl (call_run Try.call40 rfl rfl (by kernel_rfl)) rfl (fun w hp => t_firthref07_Disk_Remove (hm.mono hl67) o.name ho.2.1 hp hz74) ?_
          rintro Γ75 U77 v78 hl76 ⟨row79, rfl, rfl, hr80, hr81, _⟩
          change WR _ _ _ (CC F Γ75 [row79, row70, [(g1, .cells #[.int .i64 o.kind, .string o.name, .string o.to_, .slice Ao3 o.data.length co3, .int .i64 o.n, .int .i64 o.torn] 43 (0, 0))]]) _ _ (upd _ 63 (.int .i64 z73.2))
          refine WR.nil ?_
          refine WH.next (fun w hw => hw.back (hl67.trans hl76) h063 (.cons _ (.cons _ (.cons_cons _ .slnil)))) ?_
          refine ht (i := 8) rfl (by kernel_rfl) rfl rfl rfl (fun w hw => hw.back (hl67.trans hl76) h063 (.cons _ (.cons _ (.cons_cons _ .slnil)))) (q_eql rfl rfl rfl) ?_
          refine ht (i := 9) rfl (by kernel_rfl) rfl rfl rfl (fun w hw => hw.back (hl67.trans hl76) h063 (.cons _ (.cons _ (.cons_cons _ .slnil)))) (q_assign (v := .bool (z64.2 == z73.2)) rfl (by kernel_rfl)) ?_
          refine WH.done (by kernel_rfl) ?_
          change WC _ _ _ _ _ _
          refine WC.ret ?_
          intro w hw
          obtain rfl := Option.some.inj h
          subst hF
          exact end_e (is := [1, 0]) (by kernel_rfl) hw rfl ⟨row70, row79, rfl, rfl, (hr71.mono hl76), hr80, trivial⟩
        · skip
          refine WC.rs ?_
          refine va rfl rfl rfl (q_eql rfl rfl rfl) ?_
          refine va rfl rfl rfl (q_assign (v := .bool (o.kind == 5)) rfl (by kernel_rfl)) ?_
          refine WR.nil ?_
          change WC _ _ _ _ _ _
          refine WC.cif h (by kernel_rfl) (fun hb82 h => ?_) (fun hb82 h => ?_)
          · skip
            refine WC.rs ?_
            refine va rfl rfl rfl (q_move (v := .pointer (some ⟨gd, 0, none⟩)) rfl (by kernel_rfl)) ?_
            obtain ⟨z83, hz84, h⟩ := bnd h
            refine e_call (is := [1]) rfl rfl (call_run Try.call25 rfl rfl (by kernel_rfl)) rfl (fun w hp => t_disk_Disk_Sync hd hp hz84) ?_
            rintro Γ85 U87 v88 hl86 ⟨row89, rfl, rfl, hr90, _⟩
            change WR _ _ _ (CC F Γ85 [row89, [(g1, .cells #[.int .i64 o.kind, .string o.name, .string o.to_, .slice Ao3 o.data.length co3, .int .i64 o.n, .int .i64 o.torn] 43 (0, 0))], rowm]) _ _ (upd _ 68 (.tuple #[]))
            refine WR.nil ?_
            change WC _ _ _ _ _ _
            refine WC.region ?_
            refine va rfl rfl rfl (q_move (v := .pointer (some ⟨gm, 0, none⟩)) rfl (by kernel_rfl)) ?_
            obtain ⟨z91, hz92, h⟩ := bnd h
            refine e_call (is := [2]) rfl rfl (call_run Try.call41 rfl rfl (by kernel_rfl)) rfl (fun w hp => t_firthref07_Disk_Sync (hm.mono hl86) hp hz92) ?_
            rintro Γ93 U95 v96 hl94 ⟨row97, rfl, rfl, hr98, _⟩
            change WR _ _ _ (CC F Γ93 [row97, row89, [(g1, .cells #[.int .i64 o.kind, .string o.name, .string o.to_, .slice Ao3 o.data.length co3, .int .i64 o.n, .int .i64 o.torn] 43 (0, 0))]]) _ _ (upd _ 70 (.tuple #[]))
            refine WR.nil ?_
            change WC _ _ _ _ _ _
            refine WC.rs ?_
            refine va rfl rfl rfl (q_assign (v := .bool true) rfl (by kernel_rfl)) ?_
            refine WR.nil ?_
            change WC _ _ _ _ _ _
            refine WC.ret ?_
            intro w hw
            obtain rfl := Option.some.inj h
            subst hF
            exact end_e (is := [1, 0]) (by kernel_rfl) hw rfl ⟨row89, row97, rfl, rfl, (hr90.mono hl94), hr98, trivial⟩
          · skip
            refine WC.rs ?_
            refine va rfl rfl rfl (q_eql rfl rfl rfl) ?_
            refine va rfl rfl rfl (q_assign (v := .bool (o.kind == 6)) rfl (by kernel_rfl)) ?_
            refine WR.nil ?_
            change WC _ _ _ _ _ _
            refine WC.cif h (by kernel_rfl) (fun hb99 h => ?_) (fun hb99 h => ?_)
            · skip
              refine WC.rs ?_
              refine va rfl rfl rfl (q_move (v := .pointer (some ⟨gd, 0, none⟩)) rfl (by kernel_rfl)) ?_
              refine va rfl rfl rfl (q_fl 4 fld_43_4 rfl rfl rfl) ?_
              refine va rfl rfl rfl (q_ldl (i := 0) (v := .int .i64 o.n) rfl rfl Try.isAgg3 rfl rfl) ?_
              refine va rfl rfl rfl (q_fl 5 fld_43_5 rfl rfl rfl) ?_
              refine va rfl rfl rfl (q_ldl (i := 0) (v := .int .i64 o.torn) rfl rfl Try.isAgg3 rfl rfl) ?_
              obtain ⟨z100, hz101, h⟩ := bnd h
              refine e_call (is := [1]) rfl rfl (call_run Try.call13 rfl rfl (by kernel_rfl)) rfl (fun w hp => t_disk_Disk_Crash hd o.n ho.2.2.2.2.1 o.torn ho.2.2.2.2.2 hp hz101) ?_
              rintro Γ102 U104 v105 hl103 ⟨row106, rfl, rfl, hr107, _⟩
              change WR _ _ _ (CC F Γ102 [row106, [(g1, .cells #[.int .i64 o.kind, .string o.name, .string o.to_, .slice Ao3 o.data.length co3, .int .i64 o.n, .int .i64 o.torn] 43 (0, 0))], rowm]) _ _ (upd _ 78 (.tuple #[]))
              refine WR.nil ?_
              change WC _ _ _ _ _ _
              refine WC.region ?_
              refine va rfl rfl rfl (q_move (v := .pointer (some ⟨gm, 0, none⟩)) rfl (by kernel_rfl)) ?_
              refine va rfl rfl rfl (q_fl 4 fld_43_4 rfl rfl rfl) ?_
              refine va rfl rfl rfl (q_ldl (i := 1) (v := .int .i64 o.n) rfl rfl Try.isAgg3 rfl rfl) ?_
              refine va rfl rfl rfl (q_fl 5 fld_43_5 rfl rfl rfl) ?_
              refine va rfl rfl rfl (q_ldl (i := 1) (v := .int .i64 o.torn) rfl rfl Try.isAgg3 rfl rfl) ?_
              obtain ⟨z108, hz109, h⟩ := bnd h
              refine e_call (is := [2]) rfl rfl (call_run Try.call42 rfl rfl (by kernel_rfl)) rfl (fun w hp => t_firthref07_Disk_Crash (hm.mono hl103) o.n ho.2.2.2.2.1 o.torn ho.2.2.2.2.2 hp hz109) ?_
              rintro Γ110 U112 v113 hl111 ⟨row114, rfl, rfl, hr115, _⟩
              change WR _ _ _ (CC F Γ110 [row114, row106, [(g1, .cells #[.int .i64 o.kind, .string o.name, .string o.to_, .slice Ao3 o.data.length co3, .int .i64 o.n, .int .i64 o.torn] 43 (0, 0))]]) _ _ (upd _ 84 (.tuple #[]))
              refine WR.nil ?_
              change WC _ _ _ _ _ _
              refine WC.rs ?_
              refine va rfl rfl rfl (q_assign (v := .bool true) rfl (by kernel_rfl)) ?_
              refine WR.nil ?_
              change WC _ _ _ _ _ _
              refine WC.ret ?_
              intro w hw
              obtain rfl := Option.some.inj h
              subst hF
              exact end_e (is := [1, 0]) (by kernel_rfl) hw rfl ⟨row106, row114, rfl, rfl, (hr107.mono hl111), hr115, trivial⟩
            · skip
              refine WC.rs ?_
              refine va rfl rfl rfl (q_eql rfl rfl rfl) ?_
              refine va rfl rfl rfl (q_assign (v := .bool (o.kind == 7)) rfl (by kernel_rfl)) ?_
              refine WR.nil ?_
              change WC _ _ _ _ _ _
              refine WC.cif h (by kernel_rfl) (fun hb116 h => ?_) (fun hb116 h => ?_)
              · skip
                refine WC.rs ?_
                refine va rfl rfl rfl (q_move (v := .pointer (some ⟨gd, 0, none⟩)) rfl (by kernel_rfl)) ?_
                obtain ⟨z117, hz118, h⟩ := bnd h
                refine e_call (is := [1]) rfl rfl (call_run Try.call43 rfl rfl (by kernel_rfl)) rfl (fun w hp => t_disk_Disk_Wipe hd hp hz118) ?_
                rintro Γ119 U121 v122 hl120 ⟨row123, rfl, rfl, hr124, _⟩
                change WR _ _ _ (CC F Γ119 [row123, [(g1, .cells #[.int .i64 o.kind, .string o.name, .string o.to_, .slice Ao3 o.data.length co3, .int .i64 o.n, .int .i64 o.torn] 43 (0, 0))], rowm]) _ _ (upd _ 88 (.tuple #[]))
                refine WR.nil ?_
                change WC _ _ _ _ _ _
                refine WC.region ?_
                refine va rfl rfl rfl (q_move (v := .pointer (some ⟨gm, 0, none⟩)) rfl (by kernel_rfl)) ?_
                obtain ⟨z125, hz126, h⟩ := bnd h
                refine e_call (is := [2]) rfl rfl (call_run Try.call44 rfl rfl (by kernel_rfl)) rfl (fun w hp => t_firthref07_Disk_Wipe (hm.mono hl120) hp hz126) ?_
                rintro Γ127 U129 v130 hl128 ⟨row131, rfl, rfl, hr132, _⟩
                change WR _ _ _ (CC F Γ127 [row131, row123, [(g1, .cells #[.int .i64 o.kind, .string o.name, .string o.to_, .slice Ao3 o.data.length co3, .int .i64 o.n, .int .i64 o.torn] 43 (0, 0))]]) _ _ (upd _ 90 (.tuple #[]))
                refine WR.nil ?_
                change WC _ _ _ _ _ _
                refine WC.rs ?_
                refine va rfl rfl rfl (q_assign (v := .bool true) rfl (by kernel_rfl)) ?_
                refine WR.nil ?_
                change WC _ _ _ _ _ _
                refine WC.ret ?_
                intro w hw
                obtain rfl := Option.some.inj h
                subst hF
                exact end_e (is := [1, 0]) (by kernel_rfl) hw rfl ⟨row123, row131, rfl, rfl, (hr124.mono hl128), hr132, trivial⟩
              · skip
                refine WC.skip ?_
                change WC _ _ _ _ _ _
                refine WC.rs ?_
                refine va rfl rfl rfl (q_assign (v := .bool true) rfl (by kernel_rfl)) ?_
                refine WR.nil ?_
                change WC _ _ _ _ _ _
                refine WC.ret ?_
                intro w hw
                obtain rfl := Option.some.inj h
                subst hF
                exact end_e (is := [1, 1]) (by kernel_rfl) hw rfl ⟨rowd, rowm, rfl, rfl, hd, hm, trivial⟩
abbrev r_firthlaw07_Files (gd ed : Nat) (rowd : Rowb) (r : List Dfirthref07_File) (U : List Rowb) (Γ : Gh) (v : Value) : Prop := ∃ (A0 : Option Addr), ∃ (c0 : Nat), ∃ (row0 : Rowb), v = .slice A0 r.length c0 ∧ U = [rowd, row0] ∧ Own dfirthref07_FileT Γ 80 row0 A0 c0 r ∧ True
set_option maxRecDepth 100000 in
set_option maxHeartbeats 400000 in
theorem t_firthlaw07_Files {Γ : Gh} {w0 : World} {gd ed : Nat} {rowd : Rowb} {d : Odisk_Disk} (hd : Odisk_Disk.ob ed Γ gd rowd d) (hp : Pre [rowd] Γ w0) {r : List Dfirthref07_File} (h : m_firthlaw07_Files d = some r) : Calls Try.prog 23 #[.pointer (some ⟨gd, 0, none⟩)] w0 (Outc Γ [rowd] w0 (r_firthlaw07_Files gd ed rowd r)) := by
  refine calls_of (N := 36) (rs := [2]) (args := [.pointer (some ⟨gd, 0, none⟩)]) Try.func23 rfl Try.ntmps23 Try.results23 rfl ?_
  obtain ⟨F, hF⟩ : ∃ F : Fm, F = ⟨ids [rowd], w0, Γ⟩ := ⟨_, rfl⟩
  refine WC.here (C := CC F Γ [rowd]) ?_ (hF ▸ hp.start)
  refine WC.rs ?_
  refine va rfl rfl rfl (q_assign (v := .slice none 0 0) rfl (by kernel_rfl)) ?_
  refine WR.nil ?_
  change WC _ _ _ _ _ _
  refine WC.rs ?_
  refine va rfl rfl rfl (q_assign (v := .slice none 0 0) rfl (by kernel_rfl)) ?_
  refine WR.nil ?_
  change WC _ _ _ _ _ _
  refine WC.rs ?_
  refine va rfl rfl rfl (q_move (v := .pointer (some ⟨gd, 0, none⟩)) rfl (by kernel_rfl)) ?_
  obtain ⟨z1, hz2, h⟩ := bnd h
  refine e_call (is := [0]) rfl rfl (call_run Try.call15 rfl rfl (by kernel_rfl)) rfl (fun w hp => t_disk_Disk_Names hd hp hz2) ?_
  rintro Γ3 U5 v6 hl4 ⟨A7, c8, row9, rfl, rfl, hr10, _⟩
  change WR _ _ _ (CC F Γ3 [rowd, row9]) _ _ (upd _ 9 (.slice A7 z1.length c8))
  refine va rfl rfl rfl (q_assign (v := .slice A7 z1.length c8) rfl (by kernel_rfl)) ?_
  refine WR.nil ?_
  change WC _ _ _ _ _ _
  refine WC.seq ?_
  refine WC.rs ?_
  refine va rfl rfl rfl (q_assign (v := .int .i64 0) rfl (by kernel_rfl)) ?_
  refine WR.nil ?_
  change WC _ _ _ _ _ _
  refine WC.block ?_
  refine WC.forI h (fun (i19 : Nat) (out_13 : List Dfirthref07_File) σ w => ∃ (Γ11 : Gh), ∃ (A14 : Option Addr), ∃ (c15 : Nat), ∃ (row16 : Rowb), slots σ [(0, .pointer (some ⟨gd, 0, none⟩)), (3, .slice A14 out_13.length c15), (4, .slice A7 z1.length c8), (5, .int .i64 ((i19 : Nat) : Int))] ∧ CC F Γ11 [row16, rowd, row9] w ∧ Gh.le Γ3 Γ11 ∧ Own dfirthref07_FileT Γ11 80 row16 A14 c15 out_13 ∧ True) ?_ ?_
  · skip
    intro w hw
    have hw := hw.pad
    exact ⟨Γ3, none, 0, [], (sl_ (by kernel_rfl)), hw, (Gh.refl _), (Own.nil dfirthref07_FileT _ 80), trivial⟩
  rintro f18 i19 out_13 σ w hi20 hlt21 hge22 ⟨Γ11, A14, c15, row16, hsl, hw, hl12, ho17, -⟩
  refine Wpt.slots hsl ?_
  refine WC.here (C := CC F Γ11 [row16, rowd, row9]) ?_ hw
  clear hw hsl
  refine WC.seq ?_
  refine WC.rs ?_
  refine va rfl rfl rfl (q_move (v := .int .i64 ((i19 : Nat) : Int)) rfl (by kernel_rfl)) ?_
  refine va rfl rfl rfl (q_move (v := .slice A7 z1.length c8) rfl (by kernel_rfl)) ?_
  refine va rfl rfl rfl (q_len_slice rfl Try.underlying33 rfl) ?_
  refine va rfl rfl rfl (q_lss rfl rfl rfl) ?_
  refine WR.nil ?_
  change WC _ _ _ _ _ _
  refine WC.cond (b := (decide (((i19 : Nat) : Int) < ((z1.length : Nat) : Int)))) (by kernel_rfl) (fun hb23 => ?_) (fun hb23 => ?_)
  · skip
    have hl24 := ilt hb23
    have h := hlt21 hl24
    refine WC.skip ?_
    change WC _ _ _ _ _ _
    refine WC.cut (fun σ w => ∃ (out_27 : List Dfirthref07_File), ∃ (Γ25 : Gh), ∃ (A28 : Option Addr), ∃ (c29 : Nat), ∃ (row30 : Rowb), m_firthlaw07_Files_j5 f18 out_27 = some r ∧ slots σ [(0, .pointer (some ⟨gd, 0, none⟩)), (3, .slice A28 out_27.length c29), (4, .slice A7 z1.length c8), (5, .int .i64 ((i19 : Nat) : Int))] ∧ CC F Γ25 [row30, rowd, row9] w ∧ Gh.le Γ11 Γ25 ∧ Own dfirthref07_FileT Γ25 80 row30 A28 c29 out_27 ∧ True) ?_ ?_
    · skip
      refine WC.block ?_
      refine WC.rs ?_
      refine va rfl rfl rfl (q_move (v := .pointer (some ⟨gd, 0, none⟩)) rfl (by kernel_rfl)) ?_
      refine va rfl rfl rfl (q_move (v := .slice A7 z1.length c8) rfl (by kernel_rfl)) ?_
      refine va rfl rfl rfl (q_move (v := .int .i64 ((i19 : Nat) : Int)) rfl (by kernel_rfl)) ?_
      refine va rfl rfl rfl (q_ixn (i := i19) Try.underlying33 Try.sizeOf9 rfl rfl rfl hl24 ((hr10.mono hl12).some_ hl24)) ?_
      refine va rfl rfl rfl (q_ldo (c := 0) (v := .string (gt z1 i19)) (i := 2) rfl ((hr10.mono hl12).strT_at hl24).2 rfl Try.isAgg9 rfl rfl) ?_
      obtain ⟨z32, hz33, h⟩ := bnd h
      refine e_call (is := [1]) rfl rfl (call_run Try.call12 rfl rfl (by kernel_rfl)) rfl (fun w hp => t_disk_Disk_Read (hd.mono (hl4.trans hl12)) (gt z1 i19) ((hr10.mono hl12).strT_at hl24).1 hp hz33) ?_
      rintro Γ34 U36 v37 hl35 ⟨A38, c39, row40, rfl, rfl, hr41, _⟩
      change WR _ _ _ (CC F Γ34 [rowd, row40, row16, row9]) _ _ (upd _ 22 (.tuple #[.slice A38 z32.1.length c39, .bool z32.2]))
      refine va rfl rfl rfl (q_move (v := .tuple #[.slice A38 z32.1.length c39, .bool z32.2]) rfl (by kernel_rfl)) ?_
      refine va rfl rfl rfl (q_extract (v := .slice A38 z32.1.length c39) rfl rfl rfl) ?_
      refine va rfl rfl rfl (q_extract (v := .bool z32.2) rfl rfl rfl) ?_
      refine va rfl rfl rfl (q_assign (v := .slice A38 z32.1.length c39) rfl (by kernel_rfl)) ?_
      refine va rfl rfl rfl (q_assign (v := .bool z32.2) rfl (by kernel_rfl)) ?_
      refine WR.nil ?_
      change WC _ _ _ _ _ _
      refine WC.rs ?_
      refine va rfl rfl rfl (q_move (v := .bool z32.2) rfl (by kernel_rfl)) ?_
      refine WR.nil ?_
      change WC _ _ _ _ _ _
      refine WC.cif h (by kernel_rfl) (fun hb42 h => ?_) (fun hb42 h => ?_)
      · skip
        refine WC.region ?_
        refine va rfl rfl rfl (q_move (v := .slice A14 out_13.length c15) rfl (by kernel_rfl)) ?_
        refine va rfl rfl rfl (q_move (v := .slice A7 z1.length c8) rfl (by kernel_rfl)) ?_
        refine va rfl rfl rfl (q_move (v := .int .i64 ((i19 : Nat) : Int)) rfl (by kernel_rfl)) ?_
        refine va rfl rfl rfl (q_ixn (i := i19) Try.underlying33 Try.sizeOf9 rfl rfl rfl hl24 ((hr10.mono (hl12.trans hl35)).some_ hl24)) ?_
        refine va rfl rfl rfl (q_ldo (c := 0) (v := .string (gt z1 i19)) (i := 3) rfl ((hr10.mono (hl12.trans hl35)).strT_at hl24).2 rfl Try.isAgg9 rfl rfl) ?_
        refine va rfl rfl rfl (q_move (v := .slice A38 z32.1.length c39) rfl (by kernel_rfl)) ?_
        refine va rfl rfl rfl (q_build' (v := .agg #[.string (gt z1 i19), .slice A38 z32.1.length c39]) rfl (bargs2 rfl rfl) (fun w => by kernel_rfl)) ?_
        have hc47 := hr41.capz
        intro w hw; obtain ⟨Γ43, hw, hl44, hr45⟩ := hw.seal (i := 1) rfl; have hs46 := hr41.sl hl44 hr45
        refine WR.here (C := CC F Γ43 [rowd, [], row16, row9]) ?_ hw
        clear hw
        refine e_buildSlice (cs := #[.string (gt z1 i19), .slice A38 z32.1.length c39]) (e := 80) rfl rfl rfl rfl (fun w => by kernel_rfl) ?_
        intro g48
        obtain ⟨hk49, h⟩ := chk_some h
        refine e_append (T := dfirthref07_FileT) (xs := out_13) (ys := [(⟨(gt z1 i19), z32.1⟩ : Dfirthref07_File)]) elem_44 (i := 3) rfl rfl rfl rfl rfl rfl rfl (ho17.mono (hl35.trans hl44)) (of_decide_eq_true hk49) (fun w hw => src_one (T := dfirthref07_FileT) (y := (⟨(gt z1 i19), z32.1⟩ : Dfirthref07_File)) (i := 0) rfl (by exact ⟨A38, c39, rfl, ⟨((hr10.mono ((hl12.trans hl35).trans hl44)).strT_at hl24).1, ⟨hc47, hs46⟩⟩⟩) hw) ?_
        intro row50 A51 c52 ho53
        refine va rfl rfl rfl (q_assign (v := .slice A51 (out_13 ++ [(⟨(gt z1 i19), z32.1⟩ : Dfirthref07_File)]).length c52) rfl (by kernel_rfl)) ?_
        refine WR.nil ?_
        intro w hw
        exact ⟨(out_13 ++ [(⟨(gt z1 i19), z32.1⟩ : Dfirthref07_File)]), Γ43, A51, c52, row50, h, (sl_ (by kernel_rfl)), (hw.only (is := [3, 1, 2]) rfl), (hl35.trans hl44), ho53, trivial⟩
      · skip
        refine WC.skip ?_
        intro w hw
        exact ⟨out_13, Γ34, A14, c15, row16, h, (sl_ (by kernel_rfl)), (hw.only (is := [2, 0, 1]) rfl), hl35, (ho17.mono hl35), trivial⟩
    · skip
      rintro σ w ⟨out_27, Γ25, A28, c29, row30, h, hsl, hw, hl26, ho31, -⟩
      refine Wpt.slots hsl ?_
      refine WC.here (C := CC F Γ25 [row30, rowd, row9]) ?_ hw
      clear hw hsl
      refine WC.region ?_
      refine va rfl rfl rfl (q_move (v := .int .i64 ((i19 : Nat) : Int)) rfl (by kernel_rfl)) ?_
      refine va rfl rfl rfl (q_add_r (r := ((i19 + 1 : Nat) : Int)) rfl rfl rfl (ctr_len hl24 (hr10.mono hl12).le)) ?_
      refine va rfl rfl rfl (q_assign (v := .int .i64 ((i19 + 1 : Nat) : Int)) rfl (by kernel_rfl)) ?_
      refine WR.nil ?_
      intro w hw
      exact ⟨hl24, out_27, h, Γ25, A28, c29, row30, (sl_ (by kernel_rfl)), hw, (hl12.trans hl26), ho31, trivial⟩
  · skip
    have h := hge22 (ige hb23)
    refine WC.exit ?_
    change WC _ _ _ _ _ _
    refine WC.rs ?_
    refine va rfl rfl rfl (q_move (v := .slice A14 out_13.length c15) rfl (by kernel_rfl)) ?_
    refine va rfl rfl rfl (q_assign (v := .slice A14 out_13.length c15) rfl (by kernel_rfl)) ?_
    refine WR.nil ?_
    change WC _ _ _ _ _ _
    refine WC.ret ?_
    intro w hw
    obtain rfl := Option.some.inj h
    subst hF
    exact end_e (is := [1, 0]) (by kernel_rfl) hw rfl ⟨A14, c15, row16, rfl, rfl, ho17, trivial⟩
set_option maxRecDepth 100000 in
set_option maxHeartbeats 400000 in
theorem t_firthref07_Same {Γ : Gh} {w0 : World} {Aa : Option Addr} {ca : Nat} {a : List Dfirthref07_File} (ha : Sl dfirthref07_FileT Γ Aa a) (hac : a.length ≤ ca) {Ab : Option Addr} {cb : Nat} {b : List Dfirthref07_File} (hb : Sl dfirthref07_FileT Γ Ab b) (hbc : b.length ≤ cb) (hs : Sat Γ w0) {r : Bool} (h : m_firthref07_Same a b = some r) : Calls Try.prog 22 #[.slice Aa a.length ca, .slice Ab b.length cb] w0 (fun e w' => e = .returned (.bool r) ∧ Fr no w0 w') := by
  refine calls_of (N := 43) (rs := [4]) (args := [.slice Aa a.length ca, .slice Ab b.length cb]) Try.func22 rfl Try.ntmps22 Try.results22 rfl ?_
  obtain ⟨F, hF⟩ : ∃ F : Fm, F = ⟨no, w0, Γ⟩ := ⟨_, rfl⟩
  refine WC.here (C := CC F Γ []) ?_ (hF ▸ Cur.start0 hs)
  refine WC.rs ?_
  refine va rfl rfl rfl (q_assign (v := .bool false) rfl (by kernel_rfl)) ?_
  refine WR.nil ?_
  change WC _ _ _ _ _ _
  refine WC.seq ?_
  refine WC.rs ?_
  refine va rfl rfl rfl (q_move (v := .slice Aa a.length ca) rfl (by kernel_rfl)) ?_
  refine va rfl rfl rfl (q_len_slice rfl Try.underlying44 rfl) ?_
  refine va rfl rfl rfl (q_move (v := .slice Ab b.length cb) rfl (by kernel_rfl)) ?_
  refine va rfl rfl rfl (q_len_slice rfl Try.underlying44 rfl) ?_
  refine va rfl rfl rfl (q_neq rfl rfl rfl) ?_
  refine WR.nil ?_
  change WC _ _ _ _ _ _
  refine WC.cif h (by kernel_rfl) (fun hb1 h => ?_) (fun hb1 h => ?_)
  · skip
    refine WC.rs ?_
    refine va rfl rfl rfl (q_assign (v := .bool false) rfl (by kernel_rfl)) ?_
    refine WR.nil ?_
    change WC _ _ _ _ _ _
    refine WC.ret ?_
    intro w hw
    obtain rfl := Option.some.inj h
    subst hF
    exact ⟨by kernel_rfl, hw.fr⟩
  · skip
    refine WC.skip ?_
    change WC _ _ _ _ _ _
    refine WC.seq ?_
    refine WC.rs ?_
    refine va rfl rfl rfl (q_assign (v := .int .i64 0) rfl (by kernel_rfl)) ?_
    refine WR.nil ?_
    change WC _ _ _ _ _ _
    refine WC.block ?_
    refine WC.forI h (fun (i3 : Nat) (s : Unit) σ w => match s with | () => slots σ [(0, .slice Aa a.length ca), (1, .slice Ab b.length cb), (5, .int .i64 ((i3 : Nat) : Int))] ∧ CC F Γ [] w ∧ True) ?_ ?_
    · skip
      intro w hw
      exact ⟨(sl_ (by kernel_rfl)), hw, trivial⟩
    rintro f2 i3 ⟨⟩ σ w hi4 hlt5 hge6 ⟨hsl, hw, -⟩
    refine Wpt.slots hsl ?_
    refine WC.here (C := CC F Γ []) ?_ hw
    clear hw hsl
    refine WC.seq ?_
    refine WC.rs ?_
    refine va rfl rfl rfl (q_move (v := .int .i64 ((i3 : Nat) : Int)) rfl (by kernel_rfl)) ?_
    refine va rfl rfl rfl (q_move (v := .slice Aa a.length ca) rfl (by kernel_rfl)) ?_
    refine va rfl rfl rfl (q_len_slice rfl Try.underlying44 rfl) ?_
    refine va rfl rfl rfl (q_lss rfl rfl rfl) ?_
    refine WR.nil ?_
    change WC _ _ _ _ _ _
    refine WC.cond (b := (decide (((i3 : Nat) : Int) < ((a.length : Nat) : Int)))) (by kernel_rfl) (fun hb7 => ?_) (fun hb7 => ?_)
    · skip
      have hl8 := ilt hb7
      have h := hlt5 hl8
      refine WC.skip ?_
      change WC _ _ _ _ _ _
      refine WC.seq ?_
      refine WC.block ?_
      refine WC.seq ?_
      refine WC.dr (by kernel_rfl) (by kernel_rfl) (fun w hw => hw.drawn _) ?_
      refine wa rfl rfl rfl (q_move (v := .slice Aa a.length ca) rfl (by kernel_rfl)) ?_
      refine wa rfl rfl rfl (q_move (v := .int .i64 ((i3 : Nat) : Int)) rfl (by kernel_rfl)) ?_
      refine wa rfl rfl rfl (q_ixn (i := i3) Try.underlying44 Try.sizeOf80 rfl rfl rfl hl8 (ha.some_ hl8)) ?_
      refine wa rfl rfl rfl (q_field_addr (i3 * 2) fld_80_0 rfl rfl (ha.some_ hl8) rfl) ?_
      obtain ⟨A9, c10, hx11⟩ := ha.dfirthref07_FileT_at i3
      refine wa rfl rfl rfl (q_ld (c := 0) (v := .string (gt a i3).name) (hx11 hl8).2 rfl Try.isAgg9 rfl rfl) ?_
      refine wa rfl rfl rfl (q_move (v := .slice Ab b.length cb) rfl (by kernel_rfl)) ?_
      refine wa rfl rfl rfl (q_move (v := .int .i64 ((i3 : Nat) : Int)) rfl (by kernel_rfl)) ?_
      obtain ⟨hk12, h⟩ := chk_some h
      refine wa rfl rfl rfl (q_ixn (i := i3) Try.underlying44 Try.sizeOf80 rfl rfl rfl (of_decide_eq_true hk12) (hb.some_ (of_decide_eq_true hk12))) ?_
      refine wa rfl rfl rfl (q_field_addr (i3 * 2) fld_80_0 rfl rfl (hb.some_ (of_decide_eq_true hk12)) rfl) ?_
      obtain ⟨A13, c14, hx15⟩ := hb.dfirthref07_FileT_at i3
      refine wa rfl rfl rfl (q_ld (c := 0) (v := .string (gt b i3).name) (hx15 (of_decide_eq_true hk12)).2 rfl Try.isAgg9 rfl rfl) ?_
      refine wa rfl rfl rfl (q_sneq rfl rfl rfl) ?_
      refine wa rfl rfl rfl (q_move (v := .bool ((gt a i3).name != (gt b i3).name)) rfl (by kernel_rfl)) ?_
      refine wg0 rfl rfl rfl rfl rfl (fun hg16 => QV.qo (q_move (v := .slice Aa a.length ca) rfl (by kernel_rfl))) ?_
      refine wg0 rfl rfl rfl rfl rfl (fun hg17 => QV.qo (q_move (v := .int .i64 ((i3 : Nat) : Int)) rfl (by kernel_rfl))) ?_
      refine wg0 rfl rfl rfl rfl rfl (fun hg18 => QV.qo (q_ixn (i := i3) Try.underlying44 Try.sizeOf80 rfl (gu hg18 rfl) (gu hg18 rfl) hl8 (ha.some_ hl8))) ?_
      refine wg0 rfl rfl rfl rfl rfl (fun hg19 => QV.qo (q_field_addr (i3 * 2 + 1) fld_80_1 rfl (gu hg19 rfl) (ha.some_ hl8) rfl)) ?_
      refine wg0 rfl rfl rfl rfl rfl (fun hg20 => QV.qo (q_ld (c := 1) (v := .slice A9 ((gt a i3).data).length c10) (hx11 hl8).2 rfl Try.isAgg22 (gu hg20 rfl) rfl)) ?_
      refine wg0 rfl rfl rfl rfl rfl (fun hg21 => QV.qo (q_bstr (hx11 hl8).1.2.2 Try.underlying22 Try.underlying5 Try.underlying9 rfl (gu hg21 rfl))) ?_
      refine wg0 rfl rfl rfl rfl rfl (fun hg22 => QV.qo (q_move (v := .slice Ab b.length cb) rfl (by kernel_rfl))) ?_
      refine wg0 rfl rfl rfl rfl rfl (fun hg23 => QV.qo (q_move (v := .int .i64 ((i3 : Nat) : Int)) rfl (by kernel_rfl))) ?_
      refine wg0 rfl rfl rfl rfl rfl (fun hg24 => QV.qo (q_ixn (i := i3) Try.underlying44 Try.sizeOf80 rfl (gu hg24 rfl) (gu hg24 rfl) (of_decide_eq_true hk12) (hb.some_ (of_decide_eq_true hk12)))) ?_
      refine wg0 rfl rfl rfl rfl rfl (fun hg25 => QV.qo (q_field_addr (i3 * 2 + 1) fld_80_1 rfl (gu hg25 rfl) (hb.some_ (of_decide_eq_true hk12)) rfl)) ?_
      refine wg0 rfl rfl rfl rfl rfl (fun hg26 => QV.qo (q_ld (c := 1) (v := .slice A13 ((gt b i3).data).length c14) (hx15 (of_decide_eq_true hk12)).2 rfl Try.isAgg22 (gu hg26 rfl) rfl)) ?_
      refine wg0 rfl rfl rfl rfl rfl (fun hg27 => QV.qo (q_bstr (hx15 (of_decide_eq_true hk12)).1.2.2 Try.underlying22 Try.underlying5 Try.underlying9 rfl (gu hg27 rfl))) ?_
      refine wg0 rfl rfl rfl rfl rfl (fun hg28 => QV.qo (q_sneq rfl (gu hg28 rfl) (gu hg28 rfl))) ?_
      refine wa rfl rfl rfl (q_pick rfl rfl (pk_or' (g := ((gt a i3).name != (gt b i3).name)) (y := ((⟨((gt a i3).data).toArray⟩ : ByteArray) != (⟨((gt b i3).data).toArray⟩ : ByteArray))))) ?_
      refine WQ.nil ?_
      change WC _ _ _ _ _ _
      refine WC.cif h (by kernel_rfl) (fun hb29 h => ?_) (fun hb29 h => ?_)
      · skip
        refine WC.rs ?_
        refine va rfl rfl rfl (q_assign (v := .bool false) rfl (by kernel_rfl)) ?_
        refine WR.nil ?_
        change WC _ _ _ _ _ _
        refine WC.ret ?_
        intro w hw
        obtain rfl := Option.some.inj h
        subst hF
        exact ⟨by kernel_rfl, hw.fr⟩
      · skip
        refine WC.skip ?_
        change WC _ _ _ _ _ _
        refine WC.region ?_
        refine va rfl rfl rfl (q_move (v := .int .i64 ((i3 : Nat) : Int)) rfl (by kernel_rfl)) ?_
        refine va rfl rfl rfl (q_add_r (r := ((i3 + 1 : Nat) : Int)) rfl rfl rfl (ctr_len hl8 ha.le)) ?_
        refine va rfl rfl rfl (q_assign (v := .int .i64 ((i3 + 1 : Nat) : Int)) rfl (by kernel_rfl)) ?_
        refine WR.nil ?_
        intro w hw
        exact ⟨hl8, (), h, (sl_ (by kernel_rfl)), hw, trivial⟩
    · skip
      have h := hge6 (ige hb7)
      refine WC.exit ?_
      change WC _ _ _ _ _ _
      refine WC.rs ?_
      refine va rfl rfl rfl (q_assign (v := .bool true) rfl (by kernel_rfl)) ?_
      refine WR.nil ?_
      change WC _ _ _ _ _ _
      refine WC.ret ?_
      intro w hw
      obtain rfl := Option.some.inj h
      subst hF
      exact ⟨by kernel_rfl, hw.fr⟩
set_option maxRecDepth 100000 in
set_option maxHeartbeats 400000 in
theorem t_firthlaw07_DiskRoom {Γ : Gh} {w0 : World} (room : Int) (hroom : U16 room) {Ascript : Option Addr} {cscript : Nat} {script : List Dfirthlaw07_Op} (hscript : Sl dfirthlaw07_OpT Γ Ascript script) (hscriptc : script.length ≤ cscript) (hs : Sat Γ w0) {r : Bool} (h : m_firthlaw07_DiskRoom room script = some r) : Calls Try.prog 8 #[.int .u16 room, .slice Ascript script.length cscript] w0 (fun e w' => e = .returned (.bool r) ∧ Fr no w0 w') := by
  refine calls_of (N := 113) (rs := [4]) (args := [.int .u16 room, .slice Ascript script.length cscript]) Try.func8 rfl Try.ntmps8 Try.results8 rfl ?_
  obtain ⟨F, hF⟩ : ∃ F : Fm, F = ⟨no, w0, Γ⟩ := ⟨_, rfl⟩
  refine WC.here (C := CC F Γ []) ?_ (hF ▸ Cur.start0 hs)
  refine WC.rs ?_
  refine va rfl rfl rfl (q_assign (v := .bool false) rfl (by kernel_rfl)) ?_
  refine WR.nil ?_
  change WC _ _ _ _ _ _
  refine WC.seq ?_
  refine WC.rs ?_
  obtain ⟨z1, hz2, h⟩ := bnd h
  refine vc rfl rfl rfl (q_call (call_run Try.call9 rfl rfl (by kernel_rfl)) (fun w hw => t_firthlaw07_awake (Γ := Gh.all w)  (Sat.all w) hz2)) ?_
  refine va rfl rfl rfl (q_not rfl rfl) ?_
  refine WR.nil ?_
  change WC _ _ _ _ _ _
  refine WC.cif h (by kernel_rfl) (fun hb3 h => ?_) (fun hb3 h => ?_)
  · skip
    refine WC.rs ?_
    refine va rfl rfl rfl (q_assign (v := .bool false) rfl (by kernel_rfl)) ?_
    refine WR.nil ?_
    change WC _ _ _ _ _ _
    refine WC.ret ?_
    intro w hw
    obtain rfl := Option.some.inj h
    subst hF
    exact ⟨by kernel_rfl, hw.fr⟩
  · skip
    refine WC.skip ?_
    change WC _ _ _ _ _ _
    refine WC.rs ?_
    refine va rfl rfl rfl (q_move (v := .int .u16 room) rfl (by kernel_rfl)) ?_
    refine va rfl rfl rfl (q_conv Try.underlying3 Try.underlying55 rfl rfl) ?_
    obtain ⟨z4, hz5, h⟩ := bnd h
    refine e_call (is := []) rfl rfl (call_run Try.call10 rfl rfl (by kernel_rfl)) rfl (fun w hp => t_disk_New (w64 room) (w64_r _) hp hz5) ?_
    rintro Γ6 U8 v9 hl7 ⟨g10, row11, rfl, rfl, hr12, _⟩
    change WR _ _ _ (CC F Γ6 [row11]) _ _ (upd _ 17 (.pointer (some ⟨g10, 0, none⟩)))
    refine va rfl rfl rfl (q_assign (v := .pointer (some ⟨g10, 0, none⟩)) rfl (by kernel_rfl)) ?_
    refine WR.nil ?_
    change WC _ _ _ _ _ _
    refine WC.rs ?_
    refine va rfl rfl rfl (q_move (v := .int .u16 room) rfl (by kernel_rfl)) ?_
    refine va rfl rfl rfl (q_conv Try.underlying3 Try.underlying55 rfl rfl) ?_
    obtain ⟨z13, hz14, h⟩ := bnd h
    refine e_call (is := []) rfl rfl (call_run Try.call19 rfl rfl (by kernel_rfl)) rfl (fun w hp => t_firthref07_New (w64 room) (w64_r _) hp hz14) ?_
    rintro Γ15 U17 v18 hl16 ⟨g19, row20, rfl, rfl, hr21, _⟩
    change WR _ _ _ (CC F Γ15 [row20, row11]) _ _ (upd _ 20 (.pointer (some ⟨g19, 0, none⟩)))
    refine va rfl rfl rfl (q_assign (v := .pointer (some ⟨g19, 0, none⟩)) rfl (by kernel_rfl)) ?_
    refine WR.nil ?_
    change WC _ _ _ _ _ _
    refine WC.seq ?_
    refine WC.rs ?_
    refine va rfl rfl rfl (q_assign (v := .int .i64 0) rfl (by kernel_rfl)) ?_
    refine WR.nil ?_
    change WC _ _ _ _ _ _
    refine WC.block ?_
    refine WC.forI h (fun (i31 : Nat) (s : Ofirthref07_Disk × Odisk_Disk) σ w => match s with | (o24, o27) => ∃ (Γ22 : Gh), ∃ (row25 : Rowb), ∃ (row28 : Rowb), slots σ [(0, .int .u16 room), (1, .slice Ascript script.length cscript), (5, .pointer (some ⟨g10, 0, none⟩)), (6, .pointer (some ⟨g19, 0, none⟩)), (7, .int .i64 ((i31 : Nat) : Int))] ∧ CC F Γ22 [row25, row28] w ∧ Gh.le Γ15 Γ22 ∧ Ofirthref07_Disk.ob 47 Γ22 g19 row25 o24 ∧ Odisk_Disk.ob 61 Γ22 g10 row28 o27 ∧ True) ?_ ?_
    · skip
      intro w hw
      exact ⟨Γ15, row20, row11, (sl_ (by kernel_rfl)), hw, (Gh.refl _), hr21, (hr12.mono hl16), trivial⟩
    rintro f30 i31 ⟨o24, o27⟩ σ w hi32 hlt33 hge34 ⟨Γ22, row25, row28, hsl, hw, hl23, ho26, ho29, -⟩
    refine Wpt.slots hsl ?_
    refine WC.here (C := CC F Γ22 [row25, row28]) ?_ hw
    clear hw hsl
    refine WC.seq ?_
    refine WC.rs ?_
    refine va rfl rfl rfl (q_move (v := .int .i64 ((i31 : Nat) : Int)) rfl (by kernel_rfl)) ?_
    refine va rfl rfl rfl (q_move (v := .slice Ascript script.length cscript) rfl (by kernel_rfl)) ?_
    refine va rfl rfl rfl (q_len_slice rfl Try.underlying38 rfl) ?_
    refine va rfl rfl rfl (q_lss rfl rfl rfl) ?_
    refine WR.nil ?_
    change WC _ _ _ _ _ _
    refine WC.cond (b := (decide (((i31 : Nat) : Int) < ((script.length : Nat) : Int)))) (by kernel_rfl) (fun hb35 => ?_) (fun hb35 => ?_)
    · skip
      have hl36 := ilt hb35
      have h := hlt33 hl36
      refine WC.skip ?_
      change WC _ _ _ _ _ _
      refine WC.cut (fun σ w => ∃ (o39 : Ofirthref07_Disk), ∃ (o42 : Odisk_Disk), ∃ (Γ37 : Gh), ∃ (row40 : Rowb), ∃ (row43 : Rowb), m_firthlaw07_DiskRoom_j5 f30 o39 o42 = some r ∧ slots σ [(0, .int .u16 room), (1, .slice Ascript script.length cscript), (5, .pointer (some ⟨g10, 0, none⟩)), (6, .pointer (some ⟨g19, 0, none⟩)), (7, .int .i64 ((i31 : Nat) : Int))] ∧ CC F Γ37 [row40, row43] w ∧ Gh.le Γ22 Γ37 ∧ Ofirthref07_Disk.ob 47 Γ37 g19 row40 o39 ∧ Odisk_Disk.ob 61 Γ37 g10 row43 o42 ∧ True) ?_ ?_
      · skip
        refine WC.block ?_
        refine WC.rs ?_
        refine va rfl rfl rfl (q_move (v := .pointer (some ⟨g10, 0, none⟩)) rfl (by kernel_rfl)) ?_
        obtain ⟨z45, hz46, h⟩ := bnd h
        refine e_call (is := [1]) rfl rfl (call_run Try.call23 rfl rfl (by kernel_rfl)) rfl (fun w hp => t_firthlaw07_Files ho29 hp hz46) ?_
        rintro Γ47 U49 v50 hl48 ⟨A51, c52, row53, rfl, rfl, hr54, _⟩
        change WR _ _ _ (CC F Γ47 [row28, row53, row25]) _ _ (upd _ 28 (.slice A51 z45.length c52))
        refine va rfl rfl rfl (q_assign (v := .slice A51 z45.length c52) rfl (by kernel_rfl)) ?_
        refine WR.nil ?_
        change WC _ _ _ _ _ _
        refine WC.rs ?_
        refine va rfl rfl rfl (q_move (v := .slice Ascript script.length cscript) rfl (by kernel_rfl)) ?_
        refine va rfl rfl rfl (q_move (v := .int .i64 ((i31 : Nat) : Int)) rfl (by kernel_rfl)) ?_
        refine va rfl rfl rfl (q_ixn (i := i31) Try.underlying38 Try.sizeOf43 rfl rfl rfl hl36 ((hscript.mono (((hl7.trans hl16).trans hl23).trans hl48)).some_ hl36)) ?_
        obtain ⟨A55, c56, hx57⟩ := (hscript.mono (((hl7.trans hl16).trans hl23).trans hl48)).dfirthlaw07_OpT_at i31
        refine va rfl rfl rfl (q_lda (c := 0) (vs := [.int .i64 (gt script i31).kind, .string (gt script i31).name, .string (gt script i31).to_, .slice A55 ((gt script i31).data).length c56, .int .i64 (gt script i31).n, .int .i64 (gt script i31).torn]) (hx57 hl36).2 rfl Try.isAgg43 Try.sizeOf43 rfl rfl rfl) ?_
        refine e_alloc Try.zeroValue43 rfl rfl rfl rfl ?_
        intro g58
        refine e_st (i := 0) (v := .agg #[.int .i64 (gt script i31).kind, .string (gt script i31).name, .string (gt script i31).to_, .slice A55 ((gt script i31).data).length c56, .int .i64 (gt script i31).n, .int .i64 (gt script i31).torn]) (new := #[.int .i64 (gt script i31).kind, .string (gt script i31).name, .string (gt script i31).to_, .slice A55 ((gt script i31).data).length c56, .int .i64 (gt script i31).n, .int .i64 (gt script i31).torn]) rfl Try.sizeOf43 rfl rfl rfl rfl (by kernel_rfl) rfl rfl rfl rfl ?_
        refine WR.nil ?_
        change WC _ _ _ _ _ _
        refine WC.seq ?_
        refine WC.rs ?_
        refine va rfl rfl rfl (q_fl 0 fld_43_0 rfl rfl rfl) ?_
        refine va rfl rfl rfl (q_ldl (i := 0) (v := .int .i64 (gt script i31).kind) rfl rfl Try.isAgg3 rfl rfl) ?_
        refine va rfl rfl rfl (q_eql rfl rfl rfl) ?_
        refine va rfl rfl rfl (q_move (v := .bool ((gt script i31).kind == 1)) rfl (by kernel_rfl)) ?_
        refine vg1 rfl rfl rfl rfl rfl (fun hg59 => QV.qo (q_fl 1 fld_43_1 rfl rfl rfl)) ?_
        refine vg1 rfl rfl rfl rfl rfl (fun hg60 => QV.qo (q_ldl (i := 0) (v := .string (gt script i31).name) rfl rfl Try.isAgg9 (gu hg60 rfl) rfl)) ?_
        refine vg1 rfl rfl rfl rfl rfl (fun hg61 => QV.qo (q_len_str rfl Try.underlying9 (gu hg61 rfl))) ?_
        refine vg1 rfl rfl rfl rfl rfl (fun hg62 => QV.qo (q_geq rfl (gu hg62 rfl) rfl)) ?_
        refine va rfl rfl rfl (q_pick rfl rfl (pk_and' (g := ((gt script i31).kind == 1)) (y := (decide (1 ≤ ((((gt script i31).name).size : Nat) : Int)))))) ?_
        refine va rfl rfl rfl (q_move (v := .bool (((gt script i31).kind == 1) && (decide (1 ≤ ((((gt script i31).name).size : Nat) : Int))))) rfl (by kernel_rfl)) ?_
        refine vg1 rfl rfl rfl rfl rfl (fun hg63 => QV.qo (q_fl 1 fld_43_1 rfl rfl rfl)) ?_
        refine vg1 rfl rfl rfl rfl rfl (fun hg64 => QV.qo (q_ldl (i := 0) (v := .string (gt script i31).name) rfl rfl Try.isAgg9 (gu hg64 rfl) rfl)) ?_
        refine vg1 rfl rfl rfl rfl rfl (fun hg65 => QV.qo (q_len_str rfl Try.underlying9 (gu hg65 rfl))) ?_
        refine vg1 rfl rfl rfl rfl rfl (fun hg66 => QV.qo (q_leq rfl (gu hg66 rfl) rfl)) ?_
        refine va rfl rfl rfl (q_pick rfl rfl (pk_and' (g := (((gt script i31).kind == 1) && (decide (1 ≤ ((((gt script i31).name).size : Nat) : Int))))) (y := (decide (((((gt script i31).name).size : Nat) : Int) ≤ 16))))) ?_
        refine WR.nil ?_
        change WC _ _ _ _ _ _
        refine WC.cif h (by kernel_rfl) (fun hb67 h => ?_) (fun hb67 h => ?_)
        · skip
          refine WC.rs ?_
          refine va rfl rfl rfl (q_move (v := .int .u16 room) rfl (by kernel_rfl)) ?_
          refine va rfl rfl rfl (q_conv Try.underlying3 Try.underlying55 rfl rfl) ?_
          refine va rfl rfl rfl (q_move (v := .pointer (some ⟨g10, 0, none⟩)) rfl (by kernel_rfl)) ?_
          obtain ⟨z68, hz69, h⟩ := bnd h
          refine vc rfl rfl rfl (q_call (call_run Try.call18 rfl rfl (by kernel_rfl)) (fun w hw => t_disk_Disk_Used (Γ := Gh.all w) ((ho29.mono hl48).mono hw.sat.le_all) (hw.ra 1 rfl) (Sat.all w) hz69)) ?_
          refine va rfl rfl rfl (q_sub rfl rfl rfl) ?_
          refine va rfl rfl rfl (q_assign (v := .int .i64 (w64 ((w64 room) - z68))) rfl (by kernel_rfl)) ?_
          refine WR.nil ?_
          change WC _ _ _ _ _ _
          refine WC.rs ?_
          refine va rfl rfl rfl (q_move (v := .pointer (some ⟨g10, 0, none⟩)) rfl (by kernel_rfl)) ?_
          refine va rfl rfl rfl (q_fl 1 fld_43_1 rfl rfl rfl) ?_
          refine va rfl rfl rfl (q_ldl (i := 0) (v := .string (gt script i31).name) rfl rfl Try.isAgg9 rfl rfl) ?_
          refine va rfl rfl rfl (q_fl 3 fld_43_3 rfl rfl rfl) ?_
          refine va rfl rfl rfl (q_ldl (i := 0) (v := .slice A55 ((gt script i31).data).length c56) rfl rfl Try.isAgg22 rfl rfl) ?_
          obtain ⟨z70, hz71, h⟩ := bnd h
          refine e_call (is := [1]) rfl rfl (call_run Try.call11 rfl rfl (by kernel_rfl)) rfl (fun w hp => t_disk_Disk_Append (ho29.mono hl48) ((gt script i31).name) (hx57 hl36).1.2.1 (hx57 hl36).1.2.2.2.1.2 (hx57 hl36).1.2.2.2.1.1 hp hz71) ?_
          rintro Γ72 U74 v75 hl73 ⟨row76, rfl, rfl, hr77, hr78, _⟩
          change WR _ _ _ (CC F Γ72 [row76, [(g58, .cells #[.int .i64 (gt script i31).kind, .string (gt script i31).name, .string (gt script i31).to_, .slice A55 ((gt script i31).data).length c56, .int .i64 (gt script i31).n, .int .i64 (gt script i31).torn] 43 (0, 0))], row53, row25]) _ _ (upd _ 58 (.int .i64 z70.2))
          refine va rfl rfl rfl (q_assign (v := .int .i64 z70.2) rfl (by kernel_rfl)) ?_
          refine WR.nil ?_
          change WC _ _ _ _ _ _
          refine WC.seq ?_
          refine WC.rs ?_
          refine va rfl rfl rfl (q_move (v := .int .i64 z70.2) rfl (by kernel_rfl)) ?_
          refine va rfl rfl rfl (q_eql rfl rfl rfl) ?_
          refine va rfl rfl rfl (q_fl 3 fld_43_3 rfl rfl rfl) ?_
          refine va rfl rfl rfl (q_ldl (i := 1) (v := .slice A55 ((gt script i31).data).length c56) rfl rfl Try.isAgg22 rfl rfl) ?_
          refine va rfl rfl rfl (q_len_slice rfl Try.underlying22 rfl) ?_
          refine va rfl rfl rfl (q_move (v := .int .i64 (w64 ((w64 room) - z68))) rfl (by kernel_rfl)) ?_
          refine va rfl rfl rfl (q_leq rfl rfl rfl) ?_
          refine va rfl rfl rfl (q_bneq Try.underlying4 rfl rfl rfl) ?_
          refine va rfl rfl rfl (q_move (v := .bool ((z70.2 == 0) != (decide (((((gt script i31).data).length : Nat) : Int) ≤ (w64 ((w64 room) - z68)))))) rfl (by kernel_rfl)) ?_
          refine vg0 rfl rfl rfl rfl rfl (fun hg79 => QV.qo (q_move (v := .int .i64 z70.2) rfl (by kernel_rfl))) ?_
          refine vg0 rfl rfl rfl rfl rfl (fun hg80 => QV.qo (q_neq rfl (gu hg80 rfl) rfl)) ?_
          refine vg0 rfl rfl rfl rfl rfl (fun hg81 => QV.qo (q_move (v := .bool (z70.2 != 0)) rfl (gu hg81 rfl))) ?_
          refine vh1 (c0 := (!((z70.2 == 0) != (decide (((((gt script i31).data).length : Nat) : Int) ≤ (w64 ((w64 room) - z68))))))) (g := (z70.2 != 0)) rfl rfl rfl rfl rfl (fun hg82 => QV.qo (q_move (v := .int .i64 z70.2) rfl (by kernel_rfl))) ?_
          refine vh1 (c0 := (!((z70.2 == 0) != (decide (((((gt script i31).data).length : Nat) : Int) ≤ (w64 ((w64 room) - z68))))))) (g := (z70.2 != 0)) rfl rfl rfl rfl rfl (fun hg83 => QV.qo (q_neq rfl (gu hg83 rfl) rfl)) ?_
          refine vh1 (c0 := (!((z70.2 == 0) != (decide (((((gt script i31).data).length : Nat) : Int) ≤ (w64 ((w64 room) - z68))))))) (g := (z70.2 != 0)) rfl rfl rfl rfl rfl (fun hg84 => QV.qo (q_move (v := .bool (z70.2 != 72)) rfl (gu hg84 rfl))) ?_
          refine vh0 (c0 := ((!((z70.2 == 0) != (decide (((((gt script i31).data).length : Nat) : Int) ≤ (w64 ((w64 room) - z68)))))) && (z70.2 != 0))) (g := (z70.2 != 72)) rfl rfl rfl rfl rfl (fun hg85 => QV.qo (q_move (v := .pointer (some ⟨g10, 0, none⟩)) rfl (by kernel_rfl))) ?_
          refine (Bool.eq_false_or_eq_true (((!((z70.2 == 0) != (decide (((((gt script i31).data).length : Nat) : Int) ≤ (w64 ((w64 room) - z68)))))) && (z70.2 != 0)) && (!(z70.2 != 72)))).elim (fun hb86 => ?_) (fun hb86 => ?_)
          · skip
            have h := bt hb86 h
            refine WR.sat (c0 := ((!((z70.2 == 0) != (decide (((((gt script i31).data).length : Nat) : Int) ≤ (w64 ((w64 room) - z68)))))) && (z70.2 != 0))) (g := (z70.2 != 72)) rfl rfl rfl hb86 ?_
            obtain ⟨z87, hz88, h⟩ := bnd h
            refine e_call (is := [0]) rfl rfl (call_run Try.call23 rfl rfl (args1 (gu hb86 rfl))) rfl (fun w hp => t_firthlaw07_Files hr77 hp hz88) ?_
            rintro Γ89 U91 v92 hl90 ⟨A93, c94, row95, rfl, rfl, hr96, _⟩
            change WR _ _ _ (CC F Γ89 [row76, row95, [(g58, .cells #[.int .i64 (gt script i31).kind, .string (gt script i31).name, .string (gt script i31).to_, .slice A55 ((gt script i31).data).length c56, .int .i64 (gt script i31).n, .int .i64 (gt script i31).torn] 43 (0, 0))], row53, row25]) _ _ (upd _ 75 (.slice A93 z87.length c94))
            refine WR.sat (c0 := ((!((z70.2 == 0) != (decide (((((gt script i31).data).length : Nat) : Int) ≤ (w64 ((w64 room) - z68)))))) && (z70.2 != 0))) (g := (z70.2 != 72)) rfl rfl rfl hb86 ?_
            refine va rfl rfl rfl (q_move (v := .slice A51 z45.length c52) rfl (by kernel_rfl)) ?_
            refine WR.sat (c0 := ((!((z70.2 == 0) != (decide (((((gt script i31).data).length : Nat) : Int) ≤ (w64 ((w64 room) - z68)))))) && (z70.2 != 0))) (g := (z70.2 != 72)) rfl rfl rfl hb86 ?_
            obtain ⟨z97, hz98, h⟩ := bnd h
            refine vc rfl rfl rfl (q_call (call_run Try.call22 rfl rfl (by kernel_rfl)) (fun w hw => t_firthref07_Same (Γ := Gh.all w) (hr96.sl hw.sat.le_all (hw.ra 1 rfl)) hr96.capz ((hr54.mono (hl73.trans hl90)).sl hw.sat.le_all (hw.ra 3 rfl)) (hr54.mono (hl73.trans hl90)).capz (Sat.all w) hz98)) ?_
            refine WR.sat (c0 := ((!((z70.2 == 0) != (decide (((((gt script i31).data).length : Nat) : Int) ≤ (w64 ((w64 room) - z68)))))) && (z70.2 != 0))) (g := (z70.2 != 72)) rfl rfl rfl hb86 ?_
            refine va rfl rfl rfl (q_not rfl rfl) ?_
            refine WR.sat (c0 := (!((z70.2 == 0) != (decide (((((gt script i31).data).length : Nat) : Int) ≤ (w64 ((w64 room) - z68))))))) (g := (z70.2 != 0)) rfl rfl rfl (and_l hb86) ?_
            refine va rfl rfl rfl (q_pick_f (v := .bool (!z97)) rfl (gu (and_l hb86) rfl) (not_t (and_r hb86)) (by kernel_rfl)) ?_
            refine WR.sat (c0 := true) (g := ((z70.2 == 0) != (decide (((((gt script i31).data).length : Nat) : Int) ≤ (w64 ((w64 room) - z68)))))) rfl rfl rfl (and_l (and_l hb86)) ?_
            refine va rfl rfl rfl (q_pick_t (v := .bool (!z97)) rfl (gu (and_l (and_l hb86)) rfl) (and_r (and_l hb86)) (by kernel_rfl)) ?_
            refine va rfl rfl rfl (q_pick_f (v := .bool (!z97)) rfl rfl (not_t (and_l (and_l hb86))) (by kernel_rfl)) ?_
            refine WR.nil ?_
            change WC _ _ _ _ _ _
            refine WC.cif h (by kernel_rfl) (fun hb99 h => ?_) (fun hb99 h => ?_)
            · skip
              refine WC.rs ?_
              refine va rfl rfl rfl (q_assign (v := .bool false) rfl (by kernel_rfl)) ?_
              refine WR.nil ?_
              change WC _ _ _ _ _ _
              refine WC.ret ?_
              intro w hw
              obtain rfl := Option.some.inj h
              subst hF
              exact ⟨by kernel_rfl, hw.fr⟩
            · skip
              refine WC.skip ?_
              change WC _ _ _ _ _ _
              refine WC.exit ?_
              intro w hw
              exact ⟨o24, z70.1, Γ89, row25, row76, h, (sl_ (by kernel_rfl)), (hw.only (is := [4, 0]) rfl), ((hl48.trans hl73).trans hl90), (ho26.mono ((hl48.trans hl73).trans hl90)), (hr77.mono hl90), trivial⟩
          · skip
            have h := bf hb86 h
            refine WR.unsat (c0 := ((!((z70.2 == 0) != (decide (((((gt script i31).data).length : Nat) : Int) ≤ (w64 ((w64 room) - z68)))))) && (z70.2 != 0))) (g := (z70.2 != 72)) rfl rfl rfl hb86 rfl ?_
            refine WR.unsat (c0 := ((!((z70.2 == 0) != (decide (((((gt script i31).data).length : Nat) : Int) ≤ (w64 ((w64 room) - z68)))))) && (z70.2 != 0))) (g := (z70.2 != 72)) rfl rfl rfl hb86 rfl ?_
            refine WR.unsat (c0 := ((!((z70.2 == 0) != (decide (((((gt script i31).data).length : Nat) : Int) ≤ (w64 ((w64 room) - z68)))))) && (z70.2 != 0))) (g := (z70.2 != 72)) rfl rfl rfl hb86 rfl ?_
            refine WR.unsat (c0 := ((!((z70.2 == 0) != (decide (((((gt script i31).data).length : Nat) : Int) ≤ (w64 ((w64 room) - z68)))))) && (z70.2 != 0))) (g := (z70.2 != 72)) rfl rfl rfl hb86 rfl ?_
            refine vh1 (c0 := (!((z70.2 == 0) != (decide (((((gt script i31).data).length : Nat) : Int) ≤ (w64 ((w64 room) - z68))))))) (g := (z70.2 != 0)) rfl rfl rfl rfl rfl (fun hg100 => QV.qo (q_pick_t (v := .bool true) rfl (gu hg100 rfl) (and_nt hb86 hg100) (by kernel_rfl))) ?_
            refine vg0 rfl rfl rfl rfl rfl (fun hg101 => QV.qo (q_pick rfl (gu hg101 rfl) (pk_and (c := (!((z70.2 == 0) != (decide (((((gt script i31).data).length : Nat) : Int) ≤ (w64 ((w64 room) - z68))))))) (g := (z70.2 != 0)) (y := true) hg101))) ?_
            refine va rfl rfl rfl (q_pick rfl rfl (pk_or' (g := ((z70.2 == 0) != (decide (((((gt script i31).data).length : Nat) : Int) ≤ (w64 ((w64 room) - z68)))))) (y := ((z70.2 != 0) && true)))) ?_
            refine WR.nil ?_
            change WC _ _ _ _ _ _
            refine WC.cif h (by kernel_rfl) (fun hb102 h => ?_) (fun hb102 h => ?_)
            · skip
              refine WC.rs ?_
              refine va rfl rfl rfl (q_assign (v := .bool false) rfl (by kernel_rfl)) ?_
              refine WR.nil ?_
              change WC _ _ _ _ _ _
              refine WC.ret ?_
              intro w hw
              obtain rfl := Option.some.inj h
              subst hF
              exact ⟨by kernel_rfl, hw.fr⟩
            · skip
              refine WC.skip ?_
              change WC _ _ _ _ _ _
              refine WC.exit ?_
              intro w hw
              exact ⟨o24, z70.1, Γ72, row25, row76, h, (sl_ (by kernel_rfl)), (hw.only (is := [3, 0]) rfl), (hl48.trans hl73), (ho26.mono (hl48.trans hl73)), hr77, trivial⟩
        · skip
          refine WC.skip ?_
          change WC _ _ _ _ _ _
          refine WC.rs ?_
          refine va rfl rfl rfl (q_move (v := .pointer (some ⟨g10, 0, none⟩)) rfl (by kernel_rfl)) ?_
          refine va rfl rfl rfl (q_move (v := .pointer (some ⟨g19, 0, none⟩)) rfl (by kernel_rfl)) ?_
          refine va rfl rfl rfl (q_ldla (i := 0) (vs := [.int .i64 (gt script i31).kind, .string (gt script i31).name, .string (gt script i31).to_, .slice A55 ((gt script i31).data).length c56, .int .i64 (gt script i31).n, .int .i64 (gt script i31).torn]) rfl rfl Try.isAgg43 Try.sizeOf43 rfl rfl) ?_
          obtain ⟨z103, hz104, h⟩ := bnd h
          refine e_call (is := [1, 2]) rfl rfl (call_run Try.call20 rfl rfl (by kernel_rfl)) rfl (fun w hp => t_firthlaw07_does (ho29.mono hl48) (ho26.mono hl48) (gt script i31) (hx57 hl36).1 hp hz104) ?_
          rintro Γ105 U107 v108 hl106 ⟨row109, row111, rfl, rfl, hr110, hr112, _⟩
          change WR _ _ _ (CC F Γ105 [row109, row111, [(g58, .cells #[.int .i64 (gt script i31).kind, .string (gt script i31).name, .string (gt script i31).to_, .slice A55 ((gt script i31).data).length c56, .int .i64 (gt script i31).n, .int .i64 (gt script i31).torn] 43 (0, 0))], row53]) _ _ (upd _ 85 (.bool z103.2.2))
          refine WR.nil ?_
          change WC _ _ _ _ _ _
          refine WC.rs ?_
          refine va rfl rfl rfl (q_move (v := .pointer (some ⟨g10, 0, none⟩)) rfl (by kernel_rfl)) ?_
          obtain ⟨z113, hz114, h⟩ := bnd h
          refine vc rfl rfl rfl (q_call (call_run Try.call18 rfl rfl (by kernel_rfl)) (fun w hw => t_disk_Disk_Used (Γ := Gh.all w) (hr110.mono hw.sat.le_all) (hw.ra 0 rfl) (Sat.all w) hz114)) ?_
          refine va rfl rfl rfl (q_move (v := .int .u16 room) rfl (by kernel_rfl)) ?_
          refine va rfl rfl rfl (q_conv Try.underlying3 Try.underlying55 rfl rfl) ?_
          refine va rfl rfl rfl (q_gtr rfl rfl rfl) ?_
          refine WR.nil ?_
          change WC _ _ _ _ _ _
          refine WC.cif h (by kernel_rfl) (fun hb115 h => ?_) (fun hb115 h => ?_)
          · skip
            refine WC.rs ?_
            refine va rfl rfl rfl (q_assign (v := .bool false) rfl (by kernel_rfl)) ?_
            refine WR.nil ?_
            change WC _ _ _ _ _ _
            refine WC.ret ?_
            intro w hw
            obtain rfl := Option.some.inj h
            subst hF
            exact ⟨by kernel_rfl, hw.fr⟩
          · skip
            refine WC.skip ?_
            intro w hw
            exact ⟨z103.2.1, z103.1, Γ105, row111, row109, h, (sl_ (by kernel_rfl)), (hw.only (is := [1, 0]) rfl), (hl48.trans hl106), hr112, hr110, trivial⟩
      · skip
        rintro σ w ⟨o39, o42, Γ37, row40, row43, h, hsl, hw, hl38, ho41, ho44, -⟩
        refine Wpt.slots hsl ?_
        refine WC.here (C := CC F Γ37 [row40, row43]) ?_ hw
        clear hw hsl
        refine WC.region ?_
        refine va rfl rfl rfl (q_move (v := .int .i64 ((i31 : Nat) : Int)) rfl (by kernel_rfl)) ?_
        refine va rfl rfl rfl (q_add_r (r := ((i31 + 1 : Nat) : Int)) rfl rfl rfl (ctr_len hl36 (hscript.mono ((hl7.trans hl16).trans hl23)).le)) ?_
        refine va rfl rfl rfl (q_assign (v := .int .i64 ((i31 + 1 : Nat) : Int)) rfl (by kernel_rfl)) ?_
        refine WR.nil ?_
        intro w hw
        exact ⟨hl36, (o39, o42), h, Γ37, row40, row43, (sl_ (by kernel_rfl)), hw, (hl23.trans hl38), ho41, ho44, trivial⟩
    · skip
      have h := hge34 (ige hb35)
      refine WC.exit ?_
      change WC _ _ _ _ _ _
      refine WC.rs ?_
      refine va rfl rfl rfl (q_move (v := .int .u16 room) rfl (by kernel_rfl)) ?_
      refine va rfl rfl rfl (q_conv Try.underlying3 Try.underlying55 rfl rfl) ?_
      refine va rfl rfl rfl (q_move (v := .pointer (some ⟨g10, 0, none⟩)) rfl (by kernel_rfl)) ?_
      obtain ⟨z116, hz117, h⟩ := bnd h
      refine vc rfl rfl rfl (q_call (call_run Try.call18 rfl rfl (by kernel_rfl)) (fun w hw => t_disk_Disk_Used (Γ := Gh.all w) (ho29.mono hw.sat.le_all) (hw.ra 1 rfl) (Sat.all w) hz117)) ?_
      refine va rfl rfl rfl (q_sub rfl rfl rfl) ?_
      refine va rfl rfl rfl (q_assign (v := .int .i64 (w64 ((w64 room) - z116))) rfl (by kernel_rfl)) ?_
      refine WR.nil ?_
      change WC _ _ _ _ _ _
      refine WC.rs ?_
      refine va rfl rfl rfl (q_move (v := .int .i64 (w64 ((w64 room) - z116))) rfl (by kernel_rfl)) ?_
      refine va rfl rfl rfl (q_geq rfl rfl rfl) ?_
      refine va rfl rfl rfl (q_move (v := .bool (decide (0 ≤ (w64 ((w64 room) - z116))))) rfl (by kernel_rfl)) ?_
      refine vg1 rfl rfl rfl rfl rfl (fun hg118 => QV.qo (q_move (v := .pointer (some ⟨g10, 0, none⟩)) rfl (by kernel_rfl))) ?_
      refine vg1 rfl rfl rfl rfl rfl (fun hg119 => QV.qo (q_move (v := .int .i64 (w64 ((w64 room) - z116))) rfl (by kernel_rfl))) ?_
      refine vg1 rfl rfl rfl rfl rfl (fun hg120 => QV.qo (q_add rfl (gu hg120 rfl) rfl)) ?_
      refine (Bool.eq_false_or_eq_true (decide (0 ≤ (w64 ((w64 room) - z116))))).elim (fun hb121 => ?_) (fun hb121 => ?_)
      · skip
        have h := bt hb121 h
        refine WR.sat (c0 := true) (g := (decide (0 ≤ (w64 ((w64 room) - z116))))) rfl rfl rfl hb121 ?_
        obtain ⟨hk122, h⟩ := chk_some h
        obtain ⟨hk123, h⟩ := chk_some h
        refine e_makeSlice (T := byteT) (n := (w64 ((w64 ((w64 room) - z116)) + 1)).toNat) (zx := (b8 0)) (ti := Try.t5) (z := .int .u8 0) Try.underlying22 (by kernel_rfl) (by kernel_rfl) (by kernel_rfl) (by exact (by show [Value.int .u8 0] = [Value.int .u8 _]; rw [b8_val (by decide)])) (by decide) (of_decide_eq_true hk123) rfl rfl rfl rfl (nn_eq (gu hb121 rfl) hk122) (nn_eq (gu hb121 rfl) hk122) ?_
        intro g124 row125 ho126
        refine WR.sat (c0 := true) (g := (decide (0 ≤ (w64 ((w64 room) - z116))))) rfl rfl rfl hb121 ?_
        rw [show Value.slice (some ⟨g124, 0, none⟩) ((w64 ((w64 ((w64 room) - z116)) + 1)).toNat) ((w64 ((w64 ((w64 room) - z116)) + 1)).toNat) = Value.slice (some ⟨g124, 0, none⟩) ((List.replicate ((w64 ((w64 ((w64 room) - z116)) + 1)).toNat) (b8 0)).length) ((w64 ((w64 ((w64 room) - z116)) + 1)).toNat) from by rw [List.length_replicate]]
        have hc131 := ho126.capz
        intro w hw; obtain ⟨Γ127, hw, hl128, hr129⟩ := hw.seal (i := 0) rfl; have hs130 := ho126.sl hl128 hr129
        refine WR.here (C := CC F Γ127 [[], row25, row28]) ?_ hw
        clear hw
        obtain ⟨z132, hz133, h⟩ := bnd h
        refine e_call (is := [2]) rfl rfl (call_run Try.call11 rfl rfl (args3 (gu hb121 rfl) rfl rfl)) rfl (fun w hp => t_disk_Disk_Append (ho29.mono hl128) ⟨#[122, 122]⟩ (show (⟨#[122, 122]⟩ : ByteArray).size ≤ lim by decide) hs130 hc131 hp hz133) ?_
        rintro Γ134 U136 v137 hl135 ⟨row138, rfl, rfl, hr139, hr140, _⟩
        change WR _ _ _ (CC F Γ134 [row138, [], row25]) _ _ (upd _ 103 (.int .i64 z132.2))
        refine WR.sat (c0 := true) (g := (decide (0 ≤ (w64 ((w64 room) - z116))))) rfl rfl rfl hb121 ?_
        refine va rfl rfl rfl (q_eql rfl rfl rfl) ?_
        refine va rfl rfl rfl (q_pick_t (v := .bool (z132.2 == 72)) rfl rfl hb121 (by kernel_rfl)) ?_
        refine va rfl rfl rfl (q_move (v := .bool (z132.2 == 72)) rfl (by kernel_rfl)) ?_
        refine vg1 rfl rfl rfl rfl rfl (fun hg141 => QV.qo (q_move (v := .pointer (some ⟨g10, 0, none⟩)) rfl (by kernel_rfl))) ?_
        refine vg1 rfl rfl rfl rfl rfl (fun hg142 => QV.qo (q_move (v := .int .i64 (w64 ((w64 room) - z116))) rfl (by kernel_rfl))) ?_
        refine (Bool.eq_false_or_eq_true (z132.2 == 72)).elim (fun hb143 => ?_) (fun hb143 => ?_)
        · skip
          have h := bt hb143 h
          refine WR.sat (c0 := true) (g := (z132.2 == 72)) rfl rfl rfl hb143 ?_
          obtain ⟨hk144, h⟩ := chk_some h
          obtain ⟨hk145, h⟩ := chk_some h
          refine e_makeSlice (T := byteT) (n := (w64 ((w64 room) - z116)).toNat) (zx := (b8 0)) (ti := Try.t5) (z := .int .u8 0) Try.underlying22 (by kernel_rfl) (by kernel_rfl) (by kernel_rfl) (by exact (by show [Value.int .u8 0] = [Value.int .u8 _]; rw [b8_val (by decide)])) (by decide) (of_decide_eq_true hk145) rfl rfl rfl rfl (nn_eq (gu hb143 rfl) hk144) (nn_eq (gu hb143 rfl) hk144) ?_
          intro g146 row147 ho148
          refine WR.sat (c0 := true) (g := (z132.2 == 72)) rfl rfl rfl hb143 ?_
          rw [show Value.slice (some ⟨g146, 0, none⟩) ((w64 ((w64 room) - z116)).toNat) ((w64 ((w64 room) - z116)).toNat) = Value.slice (some ⟨g146, 0, none⟩) ((List.replicate ((w64 ((w64 room) - z116)).toNat) (b8 0)).length) ((w64 ((w64 room) - z116)).toNat) from by rw [List.length_replicate]]
          have hc153 := ho148.capz
          intro w hw; obtain ⟨Γ149, hw, hl150, hr151⟩ := hw.seal (i := 0) rfl; have hs152 := ho148.sl hl150 hr151
          refine WR.here (C := CC F Γ149 [[], row138, [], row25]) ?_ hw
          clear hw
          obtain ⟨z154, hz155, h⟩ := bnd h
          refine e_call (is := [1]) rfl rfl (call_run Try.call11 rfl rfl (args3 (gu hb143 rfl) rfl rfl)) rfl (fun w hp => t_disk_Disk_Append (hr139.mono hl150) ⟨#[122, 122]⟩ (show (⟨#[122, 122]⟩ : ByteArray).size ≤ lim by decide) hs152 hc153 hp hz155) ?_
          rintro Γ156 U158 v159 hl157 ⟨row160, rfl, rfl, hr161, hr162, _⟩
          change WR _ _ _ (CC F Γ156 [row160, [], [], row25]) _ _ (upd _ 110 (.int .i64 z154.2))
          refine WR.sat (c0 := true) (g := (z132.2 == 72)) rfl rfl rfl hb143 ?_
          refine va rfl rfl rfl (q_eql rfl rfl rfl) ?_
          refine va rfl rfl rfl (q_pick_t (v := .bool (z154.2 == 0)) rfl rfl hb143 (by kernel_rfl)) ?_
          refine va rfl rfl rfl (q_assign (v := .bool (z154.2 == 0)) rfl (by kernel_rfl)) ?_
          refine WR.nil ?_
          change WC _ _ _ _ _ _
          refine WC.ret ?_
          intro w hw
          obtain rfl := Option.some.inj h
          subst hF
          exact ⟨by kernel_rfl, hw.fr⟩
        · skip
          have h := bf hb143 h
          refine WR.unsat (c0 := true) (g := (z132.2 == 72)) rfl rfl rfl hb143 rfl ?_
          refine WR.unsat (c0 := true) (g := (z132.2 == 72)) rfl rfl rfl hb143 rfl ?_
          refine WR.unsat (c0 := true) (g := (z132.2 == 72)) rfl rfl rfl hb143 rfl ?_
          refine va rfl rfl rfl (q_pick_f (v := .bool false) rfl rfl hb143 (by kernel_rfl)) ?_
          refine va rfl rfl rfl (q_assign (v := .bool false) rfl (by kernel_rfl)) ?_
          refine WR.nil ?_
          change WC _ _ _ _ _ _
          refine WC.ret ?_
          intro w hw
          obtain rfl := Option.some.inj h
          subst hF
          exact ⟨by kernel_rfl, hw.fr⟩
      · skip
        have h := bf hb121 h
        refine WR.unsat (c0 := true) (g := (decide (0 ≤ (w64 ((w64 room) - z116))))) rfl rfl rfl hb121 rfl ?_
        refine WR.unsat (c0 := true) (g := (decide (0 ≤ (w64 ((w64 room) - z116))))) rfl rfl rfl hb121 rfl ?_
        refine WR.unsat (c0 := true) (g := (decide (0 ≤ (w64 ((w64 room) - z116))))) rfl rfl rfl hb121 rfl ?_
        refine va rfl rfl rfl (q_pick_f (v := .bool false) rfl rfl hb121 (by kernel_rfl)) ?_
        refine va rfl rfl rfl (q_move (v := .bool false) rfl (by kernel_rfl)) ?_
        refine WR.unsat (c0 := true) (g := false) rfl rfl rfl rfl rfl ?_
        refine WR.unsat (c0 := true) (g := false) rfl rfl rfl rfl rfl ?_
        refine WR.unsat (c0 := true) (g := false) rfl rfl rfl rfl rfl ?_
        refine WR.unsat (c0 := true) (g := false) rfl rfl rfl rfl rfl ?_
        refine WR.unsat (c0 := true) (g := false) rfl rfl rfl rfl rfl ?_
        refine va rfl rfl rfl (q_pickf (v := .bool false) rfl rfl rfl) ?_
        refine va rfl rfl rfl (q_assign (v := .bool false) rfl (by kernel_rfl)) ?_
        refine WR.nil ?_
        change WC _ _ _ _ _ _
        refine WC.ret ?_
        intro w hw
        obtain rfl := Option.some.inj h
        subst hF
        exact ⟨by kernel_rfl, hw.fr⟩
end Fw
end Go.Proofs.Ytichdipjedoijaa
