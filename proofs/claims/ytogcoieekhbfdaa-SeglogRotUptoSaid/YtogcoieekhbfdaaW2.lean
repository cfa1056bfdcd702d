/- Walks through the functions that the law reaches (printed by a program). No condition. -/
import Derived.Test.YtogcoieekhbfdaaW1
namespace Go.Proofs.Ytogcoieekhbfdaa
namespace Fw
set_option linter.unusedVariables false
set_option linter.unusedSimpArgs false
set_option linter.unusedSectionVars false
open Go.RowKit
abbrev r_seglog_Log_scan (gl : Nat) (el : Nat × Nat) (edk0 : Nat) (r : Oseglog_Log × Odisk_Disk × (List (List UInt8))) (U : List Rowb) (Γ : Gh) (v : Value) : Prop := ∃ (rowl' : Rowb), ∃ (rowdk0' : Rowb), ∃ (A0 : Option Addr), ∃ (c0 : Nat), ∃ (row0 : Rowb), v = .slice A0 r.2.2.length c0 ∧ U = [rowl', rowdk0', row0] ∧ Oseglog_Log.ob el Γ gl rowl' r.1 ∧ Odisk_Disk.ob edk0 Γ el.2 rowdk0' r.2.1 ∧ Own (slT byteT) Γ 31 row0 A0 c0 r.2.2 ∧ True
set_option maxRecDepth 100000 in
set_option maxHeartbeats 400000 in
theorem t_seglog_Log_scan {Γ : Gh} {w0 : World} {gl : Nat} {el : Nat × Nat} {rowl : Rowb} {l : Oseglog_Log} (hl : Oseglog_Log.ob el Γ gl rowl l) {edk0 : Nat} {rowdk0 : Rowb} {dk0 : Odisk_Disk} (hdk0 : Odisk_Disk.ob edk0 Γ el.2 rowdk0 dk0) (hp : Pre [rowl, rowdk0] Γ w0) {r : Oseglog_Log × Odisk_Disk × (List (List UInt8))} (h : m_seglog_Log_scan l dk0 = some r) : Calls Try.prog 31 #[.pointer (some ⟨gl, 0, none⟩)] w0 (Outc Γ [rowl, rowdk0] w0 (r_seglog_Log_scan gl el edk0 r)) := by
  refine calls_of (N := 92) (rs := [2]) (args := [.pointer (some ⟨gl, 0, none⟩)]) Try.func31 rfl Try.ntmps31 Try.results31 rfl ?_
  obtain ⟨F, hF⟩ : ∃ F : Fm, F = ⟨ids [rowl, rowdk0], w0, Γ⟩ := ⟨_, rfl⟩
  refine WC.here (C := CC F Γ [rowl, rowdk0]) ?_ (hF ▸ hp.start)
  refine WC.rs ?_
  refine va rfl rfl rfl (q_assign (v := .slice none 0 0) rfl (by kernel_rfl)) ?_
  refine WR.nil ?_
  change WC _ _ _ _ _ _
  refine WC.rs ?_
  refine va rfl rfl rfl (q_assign (v := .slice none 0 0) rfl (by kernel_rfl)) ?_
  refine WR.nil ?_
  change WC _ _ _ _ _ _
  refine WC.cut (fun σ w => ∃ (out_3 : List (List UInt8)), ∃ (o8 : Oseglog_Log), ∃ (o11 : Odisk_Disk), ∃ (Γ1 : Gh), ∃ (A4 : Option Addr), ∃ (c5 : Nat), ∃ (row6 : Rowb), ∃ (row9 : Rowb), ∃ (row12 : Rowb), m_seglog_Log_scan_j1 out_3 o8 o11 = some r ∧ slots σ [(0, .pointer (some ⟨gl, 0, none⟩)), (3, .slice A4 out_3.length c5)] ∧ CC F Γ1 [row6, row9, row12] w ∧ Gh.le Γ Γ1 ∧ Own (slT byteT) Γ1 31 row6 A4 c5 out_3 ∧ Oseglog_Log.ob el Γ1 gl row9 o8 ∧ Odisk_Disk.ob edk0 Γ1 el.2 row12 o11 ∧ True) ?_ ?_
  · skip
    refine WC.rs ?_
    refine va rfl rfl rfl (q_assign (v := .bool true) rfl (by kernel_rfl)) ?_
    refine WR.nil ?_
    change WC _ _ _ _ _ _
    refine WC.block ?_
    refine WC.loopN h (fun (s : (List (List UInt8)) × Bool × Oseglog_Log × Odisk_Disk) σ w => match s with | (out_16, whole_21, o22, o25) => ∃ (Γ14 : Gh), ∃ (A17 : Option Addr), ∃ (c18 : Nat), ∃ (row19 : Rowb), ∃ (row23 : Rowb), ∃ (row26 : Rowb), slots σ [(0, .pointer (some ⟨gl, 0, none⟩)), (3, .slice A17 out_16.length c18), (4, .bool whole_21)] ∧ CC F Γ14 [row19, row23, row26] w ∧ Gh.le Γ Γ14 ∧ Own (slT byteT) Γ14 31 row19 A17 c18 out_16 ∧ Oseglog_Log.ob el Γ14 gl row23 o22 ∧ Odisk_Disk.ob edk0 Γ14 el.2 row26 o25 ∧ True) ?_ ?_
    · skip
      intro w hw
      have hw := hw.pad
      exact ⟨Γ, none, 0, [], rowl, rowdk0, (sl_ (by kernel_rfl)), hw, (Gh.refl _), (Own.nil (slT byteT) _ 31), hl, hdk0, trivial⟩
    rintro f28 ⟨out_16, whole_21, o22, o25⟩ σ w h ⟨Γ14, A17, c18, row19, row23, row26, hsl, hw, hl15, ho20, ho24, ho27, -⟩
    refine Wpt.slots hsl ?_
    refine WC.here (C := CC F Γ14 [row19, row23, row26]) ?_ hw
    clear hw hsl
    refine WC.seq ?_
    refine WC.rs ?_
    refine va rfl rfl rfl (q_move (v := .bool whole_21) rfl (by kernel_rfl)) ?_
    refine va rfl rfl rfl (q_move (v := .bool whole_21) rfl (by kernel_rfl)) ?_
    refine vg1 rfl rfl rfl rfl rfl (fun hg32 => QV.qo (q_move (v := .pointer (some ⟨gl, 0, none⟩)) rfl (by kernel_rfl))) ?_
    refine vg1 rfl rfl rfl rfl rfl (fun hg33 => QV.qo (q_nil (A := some ⟨gl, 0, none⟩) rfl (gu hg33 rfl) rfl)) ?_
    refine vg1 rfl rfl rfl rfl rfl (fun hg34 => QV.qo (q_fl 4 fld_63_2 rfl (gu hg34 rfl) rfl)) ?_
    have hq := ho24
    obtain ⟨hrow_36, ho0_36, ho1_36, ho2_36, ho3_36, ho4_36, ho5_36, ho6_36, -⟩ := hq
    intro w hw; have hw := hw.unfold (i := 1) rfl hrow_36
    refine WR.here (C := CC F Γ14 [[(gl, .cells #[.pointer (some ⟨el.2, 0, none⟩), .string o22.place_name, .int .i64 o22.place_gen, .int .i64 o22.size, .int .i64 o22.last, .int .i64 o22.tail, .int .i64 o22.count, .int .i64 o22.bytes] el.1 (0, 0))], row19, row26]) ?_ hw
    clear hw
    refine vg1 rfl rfl rfl rfl rfl (fun hg37 => QV.qo (q_ldl (i := 0) (v := .int .i64 o22.last) rfl rfl Try.isAgg2 (gu hg37 rfl) rfl)) ?_
    refine vg1 rfl rfl rfl rfl rfl (fun hg38 => QV.qo (q_lss rfl (gu hg38 rfl) rfl)) ?_
    refine va rfl rfl rfl (q_pick rfl rfl (pk_and' (g := whole_21) (y := (decide (o22.last < 999999))))) ?_
    refine WR.nil ?_
    change WC _ _ _ _ _ _
    refine WC.cif h (by kernel_rfl) (fun hb39 h => ?_) (fun hb39 h => ?_)
    · skip
      refine WC.skip ?_
      change WC _ _ _ _ _ _
      refine WC.block ?_
      refine WC.seq ?_
      refine WC.dr (by kernel_rfl) (by kernel_rfl) (fun w hw => hw.drawn _) ?_
      refine wa rfl rfl rfl (q_move (v := .pointer (some ⟨gl, 0, none⟩)) rfl (by kernel_rfl)) ?_
      refine wa rfl rfl rfl (q_nil (A := some ⟨gl, 0, none⟩) rfl rfl rfl) ?_
      refine wa rfl rfl rfl (q_fl 0 fld_63_0 rfl rfl rfl) ?_
      refine wa rfl rfl rfl (q_ldla (i := 0) (vs := [.pointer (some ⟨el.2, 0, none⟩), .string o22.place_name, .int .i64 o22.place_gen]) rfl rfl Try.isAgg55 Try.sizeOf55 rfl rfl) ?_
      refine wa rfl rfl rfl (q_move (v := .pointer (some ⟨gl, 0, none⟩)) rfl (by kernel_rfl)) ?_
      refine wa rfl rfl rfl (q_nil (A := some ⟨gl, 0, none⟩) rfl rfl rfl) ?_
      refine wa rfl rfl rfl (q_fl 0 fld_63_0 rfl rfl rfl) ?_
      refine wa rfl rfl rfl (q_fl 2 fld_55_2 rfl rfl rfl) ?_
      refine wa rfl rfl rfl (q_ldl (i := 0) (v := .int .i64 o22.place_gen) rfl rfl Try.isAgg2 rfl rfl) ?_
      refine wa rfl rfl rfl (q_move (v := .pointer (some ⟨gl, 0, none⟩)) rfl (by kernel_rfl)) ?_
      refine wa rfl rfl rfl (q_nil (A := some ⟨gl, 0, none⟩) rfl rfl rfl) ?_
      refine wa rfl rfl rfl (q_fl 4 fld_63_2 rfl rfl rfl) ?_
      refine wa rfl rfl rfl (q_ldl (i := 0) (v := .int .i64 o22.last) rfl rfl Try.isAgg2 rfl rfl) ?_
      refine wa rfl rfl rfl (q_add rfl rfl rfl) ?_
      obtain ⟨z40, hz41, h⟩ := bnd h
      refine wc rfl rfl rfl (q_call (call_run Try.call35 rfl rfl (by kernel_rfl)) (fun w hw => t_seglog_place_file (Γ := Gh.all w) (gp__0 := el.2) o22.place_name ho0_36 o22.place_gen ho1_36 o22.place_gen ho1_36 (w64 (o22.last + 1)) (w64_r _) (Sat.all w) hz41)) ?_
      refine wa rfl rfl rfl (q_assign (v := .string z40) rfl (by kernel_rfl)) ?_
      refine WQ.nil ?_
      change WC _ _ _ _ _ _
      refine WC.rs ?_
      refine va rfl rfl rfl (q_move (v := .pointer (some ⟨gl, 0, none⟩)) rfl (by kernel_rfl)) ?_
      refine va rfl rfl rfl (q_nil (A := some ⟨gl, 0, none⟩) rfl rfl rfl) ?_
      refine va rfl rfl rfl (q_fl 0 fld_63_0 rfl rfl rfl) ?_
      refine va rfl rfl rfl (q_fl 0 fld_55_0 rfl rfl rfl) ?_
      refine va rfl rfl rfl (q_ldl (i := 0) (v := .pointer (some ⟨el.2, 0, none⟩)) rfl rfl Try.isAgg24 rfl rfl) ?_
      refine va rfl rfl rfl (q_move (v := .string z40) rfl (by kernel_rfl)) ?_
      obtain ⟨hk42, h⟩ := chk_some h
      obtain ⟨z43, hz44, h⟩ := bnd h
      refine e_call (is := [2]) rfl rfl (call_run Try.call12 rfl rfl (by kernel_rfl)) rfl (fun w hp => t_disk_Disk_Read ho27 z40 (of_decide_eq_true hk42) hp hz44) ?_
      rintro Γ45 U47 v48 hl46 ⟨A49, c50, row51, rfl, rfl, hr52, _⟩
      change WR _ _ _ (CC F Γ45 [row26, row51, [(gl, .cells #[.pointer (some ⟨el.2, 0, none⟩), .string o22.place_name, .int .i64 o22.place_gen, .int .i64 o22.size, .int .i64 o22.last, .int .i64 o22.tail, .int .i64 o22.count, .int .i64 o22.bytes] el.1 (0, 0))], row19]) _ _ (upd _ 41 (.tuple #[.slice A49 z43.1.length c50, .bool z43.2]))
      refine va rfl rfl rfl (q_move (v := .tuple #[.slice A49 z43.1.length c50, .bool z43.2]) rfl (by kernel_rfl)) ?_
      refine va rfl rfl rfl (q_extract (v := .slice A49 z43.1.length c50) rfl rfl rfl) ?_
      refine va rfl rfl rfl (q_extract (v := .bool z43.2) rfl rfl rfl) ?_
      refine va rfl rfl rfl (q_assign (v := .slice A49 z43.1.length c50) rfl (by kernel_rfl)) ?_
      refine va rfl rfl rfl (q_assign (v := .bool z43.2) rfl (by kernel_rfl)) ?_
      refine WR.nil ?_
      change WC _ _ _ _ _ _
      refine WC.seq ?_
      refine WC.rs ?_
      refine va rfl rfl rfl (q_move (v := .bool z43.2) rfl (by kernel_rfl)) ?_
      refine va rfl rfl rfl (q_not rfl rfl) ?_
      refine WR.nil ?_
      change WC _ _ _ _ _ _
      refine WC.cif h (by kernel_rfl) (fun hb53 h => ?_) (fun hb53 h => ?_)
      · skip
        refine WC.exit ?_
        intro w hw
        have hw := hw.fold (is := [2]) rfl hrow_36
        exact ⟨out_16, o22, o25, Γ45, A17, c18, row19, row23, row26, h, (sl_ (by kernel_rfl)), (hw.only (is := [3, 0, 0]) rfl), (hl15.trans hl46), (ho20.mono hl46), (ho24.mono hl46), (ho27.mono hl46), trivial⟩
      · skip
        refine WC.skip ?_
        change WC _ _ _ _ _ _
        refine WC.rs ?_
        refine va rfl rfl rfl (q_move (v := .slice A49 z43.1.length c50) rfl (by kernel_rfl)) ?_
        have hc59 := hr52.capz
        intro w hw; obtain ⟨Γ55, hw, hl56, hr57⟩ := hw.seal (i := 1) rfl; have hs58 := hr52.sl hl56 hr57
        refine WR.here (C := CC F Γ55 [row26, [], [(gl, .cells #[.pointer (some ⟨el.2, 0, none⟩), .string o22.place_name, .int .i64 o22.place_gen, .int .i64 o22.size, .int .i64 o22.last, .int .i64 o22.tail, .int .i64 o22.count, .int .i64 o22.bytes] el.1 (0, 0))], row19]) ?_ hw
        clear hw
        obtain ⟨z60, hz61, h⟩ := bnd h
        refine e_call (is := []) rfl rfl (call_run Try.call51 rfl rfl (by kernel_rfl)) rfl (fun w hp => t_frame_All hs58 hc59 hp hz61) ?_
        rintro Γ62 U64 v65 hl63 ⟨A66, c67, row68, rfl, rfl, hr69, hr70, hr71, _⟩
        change WR _ _ _ (CC F Γ62 [row68, row26, [], [(gl, .cells #[.pointer (some ⟨el.2, 0, none⟩), .string o22.place_name, .int .i64 o22.place_gen, .int .i64 o22.size, .int .i64 o22.last, .int .i64 o22.tail, .int .i64 o22.count, .int .i64 o22.bytes] el.1 (0, 0))], row19]) _ _ (upd _ 48 (.tuple #[.slice A66 z60.1.length c67, .int .i64 z60.2.1, .int .i64 z60.2.2]))
        refine va rfl rfl rfl (q_move (v := .tuple #[.slice A66 z60.1.length c67, .int .i64 z60.2.1, .int .i64 z60.2.2]) rfl (by kernel_rfl)) ?_
        refine va rfl rfl rfl (q_extract (v := .slice A66 z60.1.length c67) rfl rfl rfl) ?_
        refine va rfl rfl rfl (q_extract (v := .int .i64 z60.2.1) rfl rfl rfl) ?_
        refine va rfl rfl rfl (q_extract (v := .int .i64 z60.2.2) rfl rfl rfl) ?_
        refine va rfl rfl rfl (q_assign (v := .slice A66 z60.1.length c67) rfl (by kernel_rfl)) ?_
        refine va rfl rfl rfl (q_assign (v := .int .i64 z60.2.1) rfl (by kernel_rfl)) ?_
        refine va rfl rfl rfl (q_assign (v := .int .i64 z60.2.2) rfl (by kernel_rfl)) ?_
        refine WR.nil ?_
        change WC _ _ _ _ _ _
        refine WC.rs ?_
        refine va rfl rfl rfl (q_move (v := .int .i64 z60.2.1) rfl (by kernel_rfl)) ?_
        refine va rfl rfl rfl (q_move (v := .slice A49 z43.1.length c50) rfl (by kernel_rfl)) ?_
        refine va rfl rfl rfl (q_len_slice rfl Try.underlying31 rfl) ?_
        refine va rfl rfl rfl (q_eql rfl rfl rfl) ?_
        refine va rfl rfl rfl (q_assign (v := .bool (z60.2.1 == ((z43.1.length : Nat) : Int))) rfl (by kernel_rfl)) ?_
        refine WR.nil ?_
        change WC _ _ _ _ _ _
        refine WC.rs ?_
        refine va rfl rfl rfl (q_move (v := .pointer (some ⟨gl, 0, none⟩)) rfl (by kernel_rfl)) ?_
        refine va rfl rfl rfl (q_nil (A := some ⟨gl, 0, none⟩) rfl rfl rfl) ?_
        refine va rfl rfl rfl (q_fl 0 fld_63_0 rfl rfl rfl) ?_
        refine va rfl rfl rfl (q_ldla (i := 3) (vs := [.pointer (some ⟨el.2, 0, none⟩), .string o22.place_name, .int .i64 o22.place_gen]) rfl rfl Try.isAgg55 Try.sizeOf55 rfl rfl) ?_
        refine va rfl rfl rfl (q_move (v := .string z40) rfl (by kernel_rfl)) ?_
        refine va rfl rfl rfl (q_move (v := .int .i64 z60.2.1) rfl (by kernel_rfl)) ?_
        obtain ⟨z72, hz73, h⟩ := bnd h
        refine e_call (is := [1]) rfl rfl (call_run Try.call27 rfl rfl (by kernel_rfl)) rfl (fun w hp => t_seglog_place_shorten (gp__0 := el.2) o22.place_name ho0_36 o22.place_gen ho1_36 z40 (of_decide_eq_true hk42) z60.2.1 hr70 (ho27.mono ((hl46.trans hl56).trans hl63)) hp hz73) ?_
        rintro Γ74 U76 v77 hl75 ⟨row78, rfl, rfl, hr79, _⟩
        change WR _ _ _ (CC F Γ74 [row78, row68, [], [(gl, .cells #[.pointer (some ⟨el.2, 0, none⟩), .string o22.place_name, .int .i64 o22.place_gen, .int .i64 o22.size, .int .i64 o22.last, .int .i64 o22.tail, .int .i64 o22.count, .int .i64 o22.bytes] el.1 (0, 0))], row19]) _ _ (upd _ 62 (.tuple #[]))
        refine WR.nil ?_
        change WC _ _ _ _ _ _
        refine WC.rs ?_
        refine va rfl rfl rfl (q_move (v := .slice A17 out_16.length c18) rfl (by kernel_rfl)) ?_
        refine va rfl rfl rfl (q_move (v := .slice A66 z60.1.length c67) rfl (by kernel_rfl)) ?_
        obtain ⟨hk80, h⟩ := chk_some h
        refine e_append (T := (slT byteT)) (xs := out_16) (ys := z60.1) elem_22 (i := 4) rfl rfl rfl rfl rfl rfl rfl (ho20.mono (((hl46.trans hl56).trans hl63).trans hl75)) (of_decide_eq_true hk80) (fun w hw => src_own (i := 1) rfl (hr69.mono hl75) hw) ?_
        intro row81 A82 c83 ho84
        refine va rfl rfl rfl (q_assign (v := .slice A82 (out_16 ++ z60.1).length c83) rfl (by kernel_rfl)) ?_
        refine WR.nil ?_
        change WC _ _ _ _ _ _
        refine WC.rs ?_
        refine va rfl rfl rfl (q_move (v := .pointer (some ⟨gl, 0, none⟩)) rfl (by kernel_rfl)) ?_
        refine va rfl rfl rfl (q_move (v := .pointer (some ⟨gl, 0, none⟩)) rfl (by kernel_rfl)) ?_
        refine va rfl rfl rfl (q_move (v := .pointer (some ⟨gl, 0, none⟩)) rfl (by kernel_rfl)) ?_
        refine va rfl rfl rfl (q_nil (A := some ⟨gl, 0, none⟩) rfl rfl rfl) ?_
        refine va rfl rfl rfl (q_fl 4 fld_63_2 rfl rfl rfl) ?_
        refine va rfl rfl rfl (q_ldl (i := 3) (v := .int .i64 o22.last) rfl rfl Try.isAgg2 rfl rfl) ?_
        refine va rfl rfl rfl (q_add rfl rfl rfl) ?_
        refine va rfl rfl rfl (q_move (v := .int .i64 z60.2.1) rfl (by kernel_rfl)) ?_
        refine va rfl rfl rfl (q_nil (A := some ⟨gl, 0, none⟩) rfl rfl rfl) ?_
        refine va rfl rfl rfl (q_fl 4 fld_63_2 rfl rfl rfl) ?_
        refine e_st (i := 3) (v := .int .i64 (w64 (o22.last + 1))) (new := #[.pointer (some ⟨el.2, 0, none⟩), .string o22.place_name, .int .i64 o22.place_gen, .int .i64 o22.size, .int .i64 (w64 (o22.last + 1)), .int .i64 o22.tail, .int .i64 o22.count, .int .i64 o22.bytes]) rfl Try.sizeOf2 rfl rfl rfl rfl (by kernel_rfl) rfl rfl rfl rfl ?_
        refine va rfl rfl rfl (q_nil (A := some ⟨gl, 0, none⟩) rfl rfl rfl) ?_
        refine va rfl rfl rfl (q_fl 5 fld_63_3 rfl rfl rfl) ?_
        refine e_st (i := 3) (v := .int .i64 z60.2.1) (new := #[.pointer (some ⟨el.2, 0, none⟩), .string o22.place_name, .int .i64 o22.place_gen, .int .i64 o22.size, .int .i64 (w64 (o22.last + 1)), .int .i64 z60.2.1, .int .i64 o22.count, .int .i64 o22.bytes]) rfl Try.sizeOf3 rfl rfl rfl rfl (by kernel_rfl) rfl rfl rfl rfl ?_
        refine WR.nil ?_
        change WC _ _ _ _ _ _
        refine WC.region ?_
        refine va rfl rfl rfl (q_move (v := .pointer (some ⟨gl, 0, none⟩)) rfl (by kernel_rfl)) ?_
        refine va rfl rfl rfl (q_nil (A := some ⟨gl, 0, none⟩) rfl rfl rfl) ?_
        refine va rfl rfl rfl (q_fl 7 fld_63_5 rfl rfl rfl) ?_
        refine va rfl rfl rfl (q_ldl (i := 3) (v := .int .i64 o22.bytes) rfl rfl Try.isAgg3 rfl rfl) ?_
        refine va rfl rfl rfl (q_move (v := .int .i64 z60.2.1) rfl (by kernel_rfl)) ?_
        refine va rfl rfl rfl (q_add rfl rfl rfl) ?_
        refine va rfl rfl rfl (q_nil (A := some ⟨gl, 0, none⟩) rfl rfl rfl) ?_
        refine va rfl rfl rfl (q_fl 7 fld_63_5 rfl rfl rfl) ?_
        refine e_st (i := 3) (v := .int .i64 (w64 (o22.bytes + z60.2.1))) (new := #[.pointer (some ⟨el.2, 0, none⟩), .string o22.place_name, .int .i64 o22.place_gen, .int .i64 o22.size, .int .i64 (w64 (o22.last + 1)), .int .i64 z60.2.1, .int .i64 o22.count, .int .i64 (w64 (o22.bytes + z60.2.1))]) rfl Try.sizeOf3 rfl rfl rfl rfl (by kernel_rfl) rfl rfl rfl rfl ?_
        refine WR.nil ?_
        intro w hw
        obtain ⟨row_85, hrow_85, hob_85⟩ : ∃ rw : Rowb, rw = ([[(gl, .cells #[.pointer (some ⟨el.2, 0, none⟩), .string o22.place_name, .int .i64 o22.place_gen, .int .i64 o22.size, .int .i64 (w64 (o22.last + 1)), .int .i64 z60.2.1, .int .i64 o22.count, .int .i64 (w64 (o22.bytes + z60.2.1))] el.1 (0, 0))]] : List Rowb).flatten ∧ Oseglog_Log.ob el Γ74 gl rw (⟨o22.place_name, o22.place_gen, o22.size, (w64 (o22.last + 1)), z60.2.1, o22.count, (w64 (o22.bytes + z60.2.1))⟩ : Oseglog_Log) := ⟨_, rfl, rfl, ho0_36, ho1_36, ho2_36, (w64_r _), hr70, ho5_36, (w64_r _), trivial⟩
        have hw := hw.fold (is := [3]) rfl hrow_85
        exact ⟨((out_16 ++ z60.1), (z60.2.1 == ((z43.1.length : Nat) : Int)), (⟨o22.place_name, o22.place_gen, o22.size, (w64 (o22.last + 1)), z60.2.1, o22.count, (w64 (o22.bytes + z60.2.1))⟩ : Oseglog_Log), z72), h, Γ74, A82, c83, row81, row_85, row78, (sl_ (by kernel_rfl)), (hw.only (is := [4, 0, 0]) rfl), ((((hl15.trans hl46).trans hl56).trans hl63).trans hl75), ho84, hob_85, hr79, trivial⟩
    · skip
      refine WC.exit ?_
      intro w hw
      have hw := hw.fold (is := [0]) rfl hrow_36
      exact ⟨out_16, o22, o25, Γ14, A17, c18, row19, row23, row26, h, (sl_ (by kernel_rfl)), (hw.only (is := [1, 0, 0]) rfl), hl15, ho20, ho24, ho27, trivial⟩
  · skip
    rintro σ w ⟨out_3, o8, o11, Γ1, A4, c5, row6, row9, row12, h, hsl, hw, hl2, ho7, ho10, ho13, -⟩
    refine Wpt.slots hsl ?_
    refine WC.here (C := CC F Γ1 [row6, row9, row12]) ?_ hw
    clear hw hsl
    refine WC.rs ?_
    refine va rfl rfl rfl (q_move (v := .pointer (some ⟨gl, 0, none⟩)) rfl (by kernel_rfl)) ?_
    refine va rfl rfl rfl (q_move (v := .slice A4 out_3.length c5) rfl (by kernel_rfl)) ?_
    refine va rfl rfl rfl (q_len_slice rfl Try.underlying22 rfl) ?_
    refine va rfl rfl rfl (q_nil (A := some ⟨gl, 0, none⟩) rfl rfl rfl) ?_
    refine va rfl rfl rfl (q_fl 6 fld_63_4 rfl rfl rfl) ?_
    have hq := ho10
    obtain ⟨hrow_87, ho0_87, ho1_87, ho2_87, ho3_87, ho4_87, ho5_87, ho6_87, -⟩ := hq
    intro w hw; have hw := hw.unfold (i := 1) rfl hrow_87
    refine WR.here (C := CC F Γ1 [[(gl, .cells #[.pointer (some ⟨el.2, 0, none⟩), .string o8.place_name, .int .i64 o8.place_gen, .int .i64 o8.size, .int .i64 o8.last, .int .i64 o8.tail, .int .i64 o8.count, .int .i64 o8.bytes] el.1 (0, 0))], row6, row12]) ?_ hw
    clear hw
    refine e_st (i := 0) (v := .int .i64 ((out_3.length : Nat) : Int)) (new := #[.pointer (some ⟨el.2, 0, none⟩), .string o8.place_name, .int .i64 o8.place_gen, .int .i64 o8.size, .int .i64 o8.last, .int .i64 o8.tail, .int .i64 ((out_3.length : Nat) : Int), .int .i64 o8.bytes]) rfl Try.sizeOf3 rfl rfl rfl rfl (by kernel_rfl) rfl rfl rfl rfl ?_
    refine WR.nil ?_
    change WC _ _ _ _ _ _
    refine WC.rs ?_
    refine va rfl rfl rfl (q_move (v := .slice A4 out_3.length c5) rfl (by kernel_rfl)) ?_
    refine va rfl rfl rfl (q_assign (v := .slice A4 out_3.length c5) rfl (by kernel_rfl)) ?_
    refine WR.nil ?_
    change WC _ _ _ _ _ _
    refine WC.ret ?_
    intro w hw
    obtain ⟨row_88, hrow_88, hob_88⟩ : ∃ rw : Rowb, rw = ([[(gl, .cells #[.pointer (some ⟨el.2, 0, none⟩), .string o8.place_name, .int .i64 o8.place_gen, .int .i64 o8.size, .int .i64 o8.last, .int .i64 o8.tail, .int .i64 ((out_3.length : Nat) : Int), .int .i64 o8.bytes] el.1 (0, 0))]] : List Rowb).flatten ∧ Oseglog_Log.ob el Γ1 gl rw (⟨o8.place_name, o8.place_gen, o8.size, o8.last, o8.tail, ((out_3.length : Nat) : Int), o8.bytes⟩ : Oseglog_Log) := ⟨_, rfl, rfl, ho0_87, ho1_87, ho2_87, ho3_87, ho4_87, (len_r ho7.le), ho6_87, trivial⟩
    have hw := hw.fold (is := [0]) rfl hrow_88
    obtain rfl := Option.some.inj h
    subst hF
    exact end_e (is := [0, 1, 0]) (by kernel_rfl) hw rfl ⟨row_88, row12, A4, c5, row6, rfl, rfl, hob_88, ho13, ho7, trivial⟩
abbrev r_seglog_Open_2 (gb0 : Nat) (gb0v : Nat) (eb0v : Nat × Nat) (b0v : Oseglog_Log) (rowb0v : Rowb) (r : Bool) (U : List Rowb) (Γ : Gh) (v : Value) : Prop := v = .bool r ∧ U = [[(gb0, .cells #[.pointer (some ⟨gb0v, 0, none⟩)] 26 (0, 0))], rowb0v] ∧ True
set_option maxRecDepth 100000 in
set_option maxHeartbeats 400000 in
theorem t_seglog_Open_2 {Γ : Gh} {w0 : World} (a0 : Int) (ha0 : I64 a0) (n : Int) (hn : I64 n) {gb0 : Nat} {gb0v : Nat} {eb0v : Nat × Nat} {rowb0v : Rowb} {b0v : Oseglog_Log} (hb0v : Oseglog_Log.ob eb0v Γ gb0v rowb0v b0v) (hp : Pre [[(gb0, .cells #[.pointer (some ⟨gb0v, 0, none⟩)] 26 (0, 0))], rowb0v] Γ w0) {r : Bool} (h : m_seglog_Open_2 a0 n b0v = some r) : Calls Try.prog 32 #[.int .i64 a0, .int .i64 n, .pointer (some ⟨gb0, 0, none⟩)] w0 (Outc Γ [[(gb0, .cells #[.pointer (some ⟨gb0v, 0, none⟩)] 26 (0, 0))], rowb0v] w0 (r_seglog_Open_2 gb0 gb0v eb0v b0v rowb0v r)) := by
  refine calls_of (N := 12) (rs := [5]) (args := [.int .i64 a0, .int .i64 n, .pointer (some ⟨gb0, 0, none⟩)]) Try.func32 rfl Try.ntmps32 Try.results32 rfl ?_
  obtain ⟨F, hF⟩ : ∃ F : Fm, F = ⟨ids [[(gb0, .cells #[.pointer (some ⟨gb0v, 0, none⟩)] 26 (0, 0))], rowb0v], w0, Γ⟩ := ⟨_, rfl⟩
  refine WC.here (C := CC F Γ [[(gb0, .cells #[.pointer (some ⟨gb0v, 0, none⟩)] 26 (0, 0))], rowb0v]) ?_ (hF ▸ hp.start)
  refine WC.rs ?_
  refine va rfl rfl rfl (q_assign (v := .bool false) rfl (by kernel_rfl)) ?_
  refine WR.nil ?_
  change WC _ _ _ _ _ _
  refine WC.rs ?_
  refine va rfl rfl rfl (q_move (v := .int .i64 n) rfl (by kernel_rfl)) ?_
  refine va rfl rfl rfl (q_ldl (i := 0) (v := .pointer (some ⟨gb0v, 0, none⟩)) rfl rfl Try.isAgg26 rfl rfl) ?_
  refine va rfl rfl rfl (q_nil (A := some ⟨gb0v, 0, none⟩) rfl rfl rfl) ?_
  refine va rfl rfl rfl (q_fl 4 fld_63_2 rfl rfl rfl) ?_
  have hq := hb0v
  obtain ⟨hrow_1, ho0_1, ho1_1, ho2_1, ho3_1, ho4_1, ho5_1, ho6_1, -⟩ := hq
  intro w hw; have hw := hw.unfold (i := 1) rfl hrow_1
  refine WR.here (C := CC F Γ [[(gb0v, .cells #[.pointer (some ⟨eb0v.2, 0, none⟩), .string b0v.place_name, .int .i64 b0v.place_gen, .int .i64 b0v.size, .int .i64 b0v.last, .int .i64 b0v.tail, .int .i64 b0v.count, .int .i64 b0v.bytes] eb0v.1 (0, 0))], [(gb0, .cells #[.pointer (some ⟨gb0v, 0, none⟩)] 26 (0, 0))]]) ?_ hw
  clear hw
  refine va rfl rfl rfl (q_ldl (i := 0) (v := .int .i64 b0v.last) rfl rfl Try.isAgg2 rfl rfl) ?_
  refine va rfl rfl rfl (q_gtr rfl rfl rfl) ?_
  refine va rfl rfl rfl (q_assign (v := .bool (decide (b0v.last < n))) rfl (by kernel_rfl)) ?_
  refine WR.nil ?_
  change WC _ _ _ _ _ _
  refine WC.ret ?_
  intro w hw
  have hw := hw.fold (is := [0]) rfl hrow_1
  obtain rfl := Option.some.inj h
  subst hF
  exact end_e (is := [1, 0]) (by kernel_rfl) hw rfl ⟨rfl, rfl, trivial⟩
abbrev r_disk_Disk_Sync (gd : Nat) (ed : Nat) (r : Odisk_Disk) (U : List Rowb) (Γ : Gh) (v : Value) : Prop := ∃ (rowd' : Rowb), v = .tuple #[] ∧ U = [rowd'] ∧ Odisk_Disk.ob ed Γ gd rowd' r ∧ True
set_option maxRecDepth 100000 in
set_option maxHeartbeats 400000 in
theorem t_disk_Disk_Sync {Γ : Gh} {w0 : World} {gd ed : Nat} {rowd : Rowb} {d : Odisk_Disk} (hd : Odisk_Disk.ob ed Γ gd rowd d) (hp : Pre [rowd] Γ w0) {r : Odisk_Disk} (h : m_disk_Disk_Sync d = some r) : Calls Try.prog 33 #[.pointer (some ⟨gd, 0, none⟩)] w0 (Outc Γ [rowd] w0 (r_disk_Disk_Sync gd ed r)) := by
  refine calls_of (N := 13) (rs := []) (args := [.pointer (some ⟨gd, 0, none⟩)]) Try.func33 rfl Try.ntmps33 Try.results33 rfl ?_
  obtain ⟨F, hF⟩ : ∃ F : Fm, F = ⟨ids [rowd], w0, Γ⟩ := ⟨_, rfl⟩
  refine WC.here (C := CC F Γ [rowd]) ?_ (hF ▸ hp.start)
  refine WC.rs ?_
  refine va rfl rfl rfl (q_move (v := .pointer (some ⟨gd, 0, none⟩)) rfl (by kernel_rfl)) ?_
  refine va rfl rfl rfl (q_move (v := .pointer (some ⟨gd, 0, none⟩)) rfl (by kernel_rfl)) ?_
  refine va rfl rfl rfl (q_nil (A := some ⟨gd, 0, none⟩) rfl rfl rfl) ?_
  refine va rfl rfl rfl (q_fl 2 fld_52_2 rfl rfl rfl) ?_
  have hq := hd
  obtain ⟨m1_1, r1_1, m2_1, r2_1, A3_1, c3_1, r3_1, hrow_1, ho0_1, ho1_1, ho2_1, ho3_1, -⟩ := hq
  intro w hw; have hw := hw.unfold (i := 0) rfl hrow_1
  refine WR.here (C := CC F Γ [[(gd, .cells #[.int .i64 d.room, .map (some m1_1), .map (some m2_1), .slice A3_1 d.loose.length c3_1] ed (0, 0))], r1_1, r2_1, r3_1]) ?_ hw
  clear hw
  refine va rfl rfl rfl (q_ldl (i := 0) (v := .map (some m2_1)) rfl rfl Try.isAgg49 rfl rfl) ?_
  refine e_clone clone49 (i := 2) rfl ho2_1 rfl rfl (call_run Try.call49 rfl rfl (by kernel_rfl)) ?_
  intro g2 row3 hm4
  change WR _ _ _ (CC F Γ [row3, [(gd, .cells #[.int .i64 d.room, .map (some m1_1), .map (some m2_1), .slice A3_1 d.loose.length c3_1] ed (0, 0))], r1_1, r2_1, r3_1]) _ _ (upd _ 7 (.map (some g2)))
  refine va rfl rfl rfl (q_nil (A := some ⟨gd, 0, none⟩) rfl rfl rfl) ?_
  refine va rfl rfl rfl (q_fl 1 fld_52_1 rfl rfl rfl) ?_
  refine e_st (i := 1) (v := .map (some g2)) (new := #[.int .i64 d.room, .map (some g2), .map (some m2_1), .slice A3_1 d.loose.length c3_1]) rfl Try.sizeOf49 rfl rfl rfl rfl (by kernel_rfl) rfl rfl rfl rfl ?_
  refine WR.nil ?_
  change WC _ _ _ _ _ _
  refine WC.region ?_
  refine va rfl rfl rfl (q_move (v := .pointer (some ⟨gd, 0, none⟩)) rfl (by kernel_rfl)) ?_
  refine va rfl rfl rfl (q_nil (A := some ⟨gd, 0, none⟩) rfl rfl rfl) ?_
  refine va rfl rfl rfl (q_fl 3 fld_52_3 rfl rfl rfl) ?_
  refine e_st (i := 1) (v := .slice none 0 0) (new := #[.int .i64 d.room, .map (some g2), .map (some m2_1), .slice none 0 0]) rfl Try.sizeOf50 rfl rfl rfl rfl (by kernel_rfl) rfl rfl rfl rfl ?_
  refine WR.nil ?_
  intro w hw
  have hw := hw.pad
  obtain ⟨row_5, hrow_5, hob_5⟩ : ∃ rw : Rowb, rw = ([[(gd, .cells #[.int .i64 d.room, .map (some g2), .map (some m2_1), .slice none 0 0] ed (0, 0))], row3, r2_1, []] : List Rowb).flatten ∧ Odisk_Disk.ob ed Γ gd rw (⟨d.room, d.seen, d.seen, []⟩ : Odisk_Disk) := ⟨_, rfl, g2, row3, m2_1, r2_1, none, 0, [], rfl, ho0_1, hm4, ho2_1, (Own.nil ddisk_changeT Γ 79), trivial⟩
  have hw := hw.fold (is := [2, 1, 2, 0]) rfl hrow_5
  obtain rfl := Option.some.inj h
  subst hF
  exact end_e (is := [0]) (by kernel_rfl) hw rfl ⟨row_5, rfl, rfl, hob_5, trivial⟩
abbrev r_seglog_Open (gd : Nat) (ed : Nat) (r : Odisk_Disk × (Option Oseglog_Log) × (List (List UInt8)) × Int) (U : List Rowb) (Γ : Gh) (v : Value) : Prop := ∃ (rowd' : Rowb), ∃ (g0 : Nat), ∃ (row0 : Rowb), ∃ (A1 : Option Addr), ∃ (c1 : Nat), ∃ (row1 : Rowb), v = .tuple #[optp r.2.1 g0, .slice A1 r.2.2.1.length c1, .int .i64 r.2.2.2] ∧ U = [rowd', row0, row1] ∧ Odisk_Disk.ob ed Γ gd rowd' r.1 ∧ optob (Oseglog_Log.ob (63, gd) Γ g0) row0 r.2.1 ∧ Own (slT byteT) Γ 31 row1 A1 c1 r.2.2.1 ∧ I64 r.2.2.2 ∧ True
set_option maxRecDepth 100000 in
set_option maxHeartbeats 400000 in
theorem t_seglog_Open {Γ : Gh} {w0 : World} {gd ed : Nat} {rowd : Rowb} {d : Odisk_Disk} (hd : Odisk_Disk.ob ed Γ gd rowd d) (name : ByteArray) (hname : name.size ≤ lim) (size : Int) (hsize : I64 size) (hp : Pre [rowd] Γ w0) {r : Odisk_Disk × (Option Oseglog_Log) × (List (List UInt8)) × Int} (h : m_seglog_Open d name size = some r) : Calls Try.prog 9 #[.pointer (some ⟨gd, 0, none⟩), .string name, .int .i64 size] w0 (Outc Γ [rowd] w0 (r_seglog_Open gd ed r)) := by
  refine calls_of (N := 70) (rs := [6, 7, 8]) (args := [.pointer (some ⟨gd, 0, none⟩), .string name, .int .i64 size]) Try.func9 rfl Try.ntmps9 Try.results9 rfl ?_
  obtain ⟨F, hF⟩ : ∃ F : Fm, F = ⟨ids [rowd], w0, Γ⟩ := ⟨_, rfl⟩
  refine WC.here (C := CC F Γ [rowd]) ?_ (hF ▸ hp.start)
  refine WC.rs ?_
  refine va rfl rfl rfl (q_assign (v := .pointer none) rfl (by kernel_rfl)) ?_
  refine va rfl rfl rfl (q_assign (v := .slice none 0 0) rfl (by kernel_rfl)) ?_
  refine va rfl rfl rfl (q_assign (v := .int .i64 0) rfl (by kernel_rfl)) ?_
  refine WR.nil ?_
  change WC _ _ _ _ _ _
  refine WC.seq ?_
  refine WC.rs ?_
  refine va rfl rfl rfl (q_move (v := .string name) rfl (by kernel_rfl)) ?_
  refine va rfl rfl rfl (q_len_str rfl Try.underlying9 rfl) ?_
  refine va rfl rfl rfl (q_lss rfl rfl rfl) ?_
  refine va rfl rfl rfl (q_move (v := .bool (decide (((name.size : Nat) : Int) < 1))) rfl (by kernel_rfl)) ?_
  refine vg0 rfl rfl rfl rfl rfl (fun hg1 => QV.qo (q_move (v := .string name) rfl (by kernel_rfl))) ?_
  refine vg0 rfl rfl rfl rfl rfl (fun hg2 => QV.qo (q_len_str rfl Try.underlying9 (gu hg2 rfl))) ?_
  refine vg0 rfl rfl rfl rfl rfl (fun hg3 => QV.qo (q_gtr rfl (gu hg3 rfl) rfl)) ?_
  refine va rfl rfl rfl (q_pick rfl rfl (pk_or' (g := (decide (((name.size : Nat) : Int) < 1))) (y := (decide (2 < ((name.size : Nat) : Int)))))) ?_
  refine va rfl rfl rfl (q_move (v := .bool ((decide (((name.size : Nat) : Int) < 1)) || (decide (2 < ((name.size : Nat) : Int))))) rfl (by kernel_rfl)) ?_
  refine vg0 rfl rfl rfl rfl rfl (fun hg4 => QV.qo (q_move (v := .string name) rfl (by kernel_rfl))) ?_
  obtain ⟨z6, hz7, h⟩ := bnd h
  refine vg0 rfl rfl rfl rfl rfl (fun hg5 => (q_call (call_run Try.call25 rfl rfl (args2 (gu hg5 rfl) rfl)) (fun w hw => t_strings_Contains (Γ := Gh.all w) name hname (Sat.all w) (gc_of hz7 hg5)))) ?_
  refine va rfl rfl rfl (q_pick rfl rfl (pk_or' (g := ((decide (((name.size : Nat) : Int) < 1)) || (decide (2 < ((name.size : Nat) : Int))))) (y := z6))) ?_
  refine WR.nil ?_
  change WC _ _ _ _ _ _
  refine WC.cif h (by kernel_rfl) (fun hb8 h => ?_) (fun hb8 h => ?_)
  · skip
    refine WC.rs ?_
    refine va rfl rfl rfl (q_assign (v := .pointer none) rfl (by kernel_rfl)) ?_
    refine va rfl rfl rfl (q_assign (v := .slice none 0 0) rfl (by kernel_rfl)) ?_
    refine va rfl rfl rfl (q_assign (v := .int .i64 1) rfl (by kernel_rfl)) ?_
    refine WR.nil ?_
    change WC _ _ _ _ _ _
    refine WC.ret ?_
    intro w hw
    have hw := hw.pad
    have hw := hw.pad
    obtain rfl := Option.some.inj h
    subst hF
    exact end_e (is := [2, 1, 0]) (by kernel_rfl) hw rfl ⟨rowd, 0, [], none, 0, [], rfl, rfl, hd, rfl, (Own.nil (slT byteT) _ 31), (show I64 1 by decide), trivial⟩
  · skip
    refine WC.skip ?_
    change WC _ _ _ _ _ _
    refine WC.rs ?_
    refine va rfl rfl rfl (q_move (v := .pointer (some ⟨gd, 0, none⟩)) rfl (by kernel_rfl)) ?_
    refine va rfl rfl rfl (q_move (v := .string name) rfl (by kernel_rfl)) ?_
    refine va rfl rfl rfl (q_build' (v := .agg #[.pointer (some ⟨gd, 0, none⟩), .string name, .int .i64 0]) rfl (bargs2 rfl rfl) (fun w => by kernel_rfl)) ?_
    refine e_alloc Try.zeroValue55 rfl rfl rfl rfl ?_
    intro g9
    refine e_st (i := 0) (v := .agg #[.pointer (some ⟨gd, 0, none⟩), .string name, .int .i64 0]) (new := #[.pointer (some ⟨gd, 0, none⟩), .string name, .int .i64 0]) rfl Try.sizeOf55 rfl rfl rfl rfl (by kernel_rfl) rfl rfl rfl rfl ?_
    refine WR.nil ?_
    change WC _ _ _ _ _ _
    refine WC.rs ?_
    refine va rfl rfl rfl (q_ldla (i := 0) (vs := [.pointer (some ⟨gd, 0, none⟩), .string name, .int .i64 0]) rfl rfl Try.isAgg55 Try.sizeOf55 rfl rfl) ?_
    obtain ⟨z10, hz11, h⟩ := bnd h
    refine e_call (is := [1]) rfl rfl (call_run Try.call26 rfl rfl (by kernel_rfl)) rfl (fun w hp => t_seglog_place_holds (gp__0 := gd) name hname 0 (show I64 0 by decide) hd hp hz11) ?_
    rintro Γ12 U14 v15 hl13 ⟨rfl, rfl, hr16, hr17, hr18, _⟩
    change WR _ _ _ (CC F Γ12 [rowd, [(g9, .cells #[.pointer (some ⟨gd, 0, none⟩), .string name, .int .i64 0] 55 (0, 0))]]) _ _ (upd _ 33 (.tuple #[.int .i64 z10.1, .int .i64 z10.2.1, .int .i64 z10.2.2]))
    refine va rfl rfl rfl (q_move (v := .tuple #[.int .i64 z10.1, .int .i64 z10.2.1, .int .i64 z10.2.2]) rfl (by kernel_rfl)) ?_
    refine va rfl rfl rfl (q_extract (v := .int .i64 z10.1) rfl rfl rfl) ?_
    refine va rfl rfl rfl (q_extract (v := .int .i64 z10.2.1) rfl rfl rfl) ?_
    refine va rfl rfl rfl (q_extract (v := .int .i64 z10.2.2) rfl rfl rfl) ?_
    refine e_alloc Try.zeroValue2 rfl rfl rfl rfl ?_
    intro g19
    refine e_st (i := 0) (v := .int .i64 z10.1) (new := #[.int .i64 z10.1]) rfl Try.sizeOf2 rfl rfl rfl rfl (by kernel_rfl) rfl rfl rfl rfl ?_
    refine va rfl rfl rfl (q_assign (v := .int .i64 z10.2.1) rfl (by kernel_rfl)) ?_
    refine va rfl rfl rfl (q_assign (v := .int .i64 z10.2.2) rfl (by kernel_rfl)) ?_
    refine WR.nil ?_
    change WC _ _ _ _ _ _
    refine WC.seq ?_
    refine WC.rs ?_
    refine va rfl rfl rfl (q_move (v := .int .i64 z10.2.2) rfl (by kernel_rfl)) ?_
    refine va rfl rfl rfl (q_neq rfl rfl rfl) ?_
    refine WR.nil ?_
    change WC _ _ _ _ _ _
    refine WC.cif h (by kernel_rfl) (fun hb20 h => ?_) (fun hb20 h => ?_)
    · skip
      refine WC.rs ?_
      refine va rfl rfl rfl (q_move (v := .int .i64 z10.2.2) rfl (by kernel_rfl)) ?_
      refine va rfl rfl rfl (q_assign (v := .pointer none) rfl (by kernel_rfl)) ?_
      refine va rfl rfl rfl (q_assign (v := .slice none 0 0) rfl (by kernel_rfl)) ?_
      refine va rfl rfl rfl (q_assign (v := .int .i64 z10.2.2) rfl (by kernel_rfl)) ?_
      refine WR.nil ?_
      change WC _ _ _ _ _ _
      refine WC.ret ?_
      intro w hw
      have hw := hw.pad
      have hw := hw.pad
      obtain rfl := Option.some.inj h
      subst hF
      exact end_e (is := [3, 1, 0]) (by kernel_rfl) hw rfl ⟨rowd, 0, [], none, 0, [], rfl, rfl, (hd.mono hl13), rfl, (Own.nil (slT byteT) _ 31), hr18, trivial⟩
    · skip
      refine WC.skip ?_
      change WC _ _ _ _ _ _
      refine WC.rs ?_
      refine va rfl rfl rfl (q_ldl (i := 0) (v := .int .i64 z10.1) rfl rfl Try.isAgg2 rfl rfl) ?_
      refine va rfl rfl rfl (q_fl 2 fld_55_2 rfl rfl rfl) ?_
      refine e_st (i := 2) (v := .int .i64 z10.1) (new := #[.pointer (some ⟨gd, 0, none⟩), .string name, .int .i64 z10.1]) rfl Try.sizeOf2 rfl rfl rfl rfl (by kernel_rfl) rfl rfl rfl rfl ?_
      refine WR.nil ?_
      change WC _ _ _ _ _ _
      refine WC.rs ?_
      refine va rfl rfl rfl (q_move (v := .pointer (some ⟨gd, 0, none⟩)) rfl (by kernel_rfl)) ?_
      obtain ⟨z21, hz22, h⟩ := bnd h
      refine vc rfl rfl rfl (q_call (call_run Try.call24 rfl rfl (by kernel_rfl)) (fun w hw => t_disk_Disk_Loose (Γ := Gh.all w) ((hd.mono hl13).mono hw.sat.le_all) (hw.ra 1 rfl) (Sat.all w) hz22)) ?_
      refine va rfl rfl rfl (q_assign (v := .int .i64 z21) rfl (by kernel_rfl)) ?_
      refine WR.nil ?_
      change WC _ _ _ _ _ _
      refine WC.seq ?_
      intro w hw; have h023 := hw.le
      refine WC.here (C := CC F Γ12 [[(g19, .cells #[.int .i64 z10.1] 2 (0, 0))], rowd, [(g9, .cells #[.pointer (some ⟨gd, 0, none⟩), .string name, .int .i64 z10.1] 55 (0, 0))]]) ?_ hw; clear hw
      refine WC.held (CC F Γ12 [[(g19, .cells #[.int .i64 z10.1] 2 (0, 0))], [(g9, .cells #[.pointer (some ⟨gd, 0, none⟩), .string name, .int .i64 z10.1] 55 (0, 0))]]) (by kernel_rfl) (fun w hw => hw.drawn _) ?_
      change WH _ _ _ _ (CC F Γ12 [[(g19, .cells #[.int .i64 z10.1] 2 (0, 0))], rowd, [(g9, .cells #[.pointer (some ⟨gd, 0, none⟩), .string name, .int .i64 z10.1] 55 (0, 0))]]) _ 5 #[false, false, false, false, false] _
      refine ht (i := 0) rfl (by kernel_rfl) rfl rfl rfl (fun w hw => hw.back (Gh.refl _) h023 (.cons_cons _ (.cons _ (.cons_cons _ .slnil)))) (q_ldla (i := 1) (vs := [.pointer (some ⟨gd, 0, none⟩), .string name, .int .i64 z10.1]) rfl rfl Try.isAgg55 Try.sizeOf55 rfl rfl) ?_
      refine ht (i := 1) rfl (by kernel_rfl) rfl rfl rfl (fun w hw => hw.back (Gh.refl _) h023 (.cons_cons _ (.cons _ (.cons_cons _ .slnil)))) (q_ldla (i := 1) (vs := [.pointer (some ⟨gd, 0, none⟩), .string name, .int .i64 z10.1]) rfl rfl Try.isAgg55 Try.sizeOf55 rfl rfl) ?_
      refine ht (i := 3) rfl (by kernel_rfl) rfl rfl rfl (fun w hw => hw.back (Gh.refl _) h023 (.cons_cons _ (.cons _ (.cons_cons _ .slnil)))) (q_move (v := .int .i64 z10.2.1) rfl (by kernel_rfl)) ?_
      refine WH.lone (i := 2) (by kernel_rfl) rfl ?_
      obtain ⟨z24, hz25, h⟩ := bnd h
      refine vc rfl rfl rfl (q_call (call_run Try.call28 rfl rfl (by kernel_rfl)) (fun w hw => t_seglog_place_list (Γ := Gh.all w) (gp__0 := gd) name hname z10.1 hr16 (Sat.all w) hz25)) ?_
      refine WR.nil ?_
      refine WH.next (fun w hw => hw.back (Gh.refl _) h023 (.cons_cons _ (.cons _ (.cons_cons _ .slnil)))) ?_
      refine WH.lone (i := 4) (by kernel_rfl) rfl ?_
      obtain ⟨hk26, h⟩ := chk_some h
      obtain ⟨z27, hz28, h⟩ := bnd h
      refine e_call (is := [1]) rfl rfl (call_run Try.call27 rfl rfl (by kernel_rfl)) rfl (fun w hp => t_seglog_place_shorten (gp__0 := gd) name hname z10.1 hr16 z24 (of_decide_eq_true hk26) z10.2.1 hr17 (hd.mono hl13) hp hz28) ?_
      rintro Γ29 U31 v32 hl30 ⟨row33, rfl, rfl, hr34, _⟩
      change WR _ _ _ (CC F Γ29 [row33, [(g19, .cells #[.int .i64 z10.1] 2 (0, 0))], [(g9, .cells #[.pointer (some ⟨gd, 0, none⟩), .string name, .int .i64 z10.1] 55 (0, 0))]]) _ _ (upd _ 48 (.tuple #[]))
      refine WR.nil ?_
      refine WH.next (fun w hw => hw.back hl30 h023 (.cons _ (.cons_cons _ (.cons_cons _ .slnil)))) ?_
      refine WH.done (by kernel_rfl) ?_
      change WC _ _ _ _ _ _
      refine WC.rs ?_
      refine va rfl rfl rfl (q_ldla (i := 2) (vs := [.pointer (some ⟨gd, 0, none⟩), .string name, .int .i64 z10.1]) rfl rfl Try.isAgg55 Try.sizeOf55 rfl rfl) ?_
      refine va rfl rfl rfl (q_mkfn (v := .func (.func 30) #[] #[.pointer (some ⟨g19, 0, none⟩)]) rfl (by kernel_rfl)) ?_
      obtain ⟨rowT35, hT36⟩ : ∃ r : Rowb, r = ([[(g19, .cells #[.int .i64 z10.1] 2 (0, 0))]] : List Rowb).flatten := ⟨_, rfl⟩
      refine WR.sub (fun w hw => hw.fold (is := [1]) rfl hT36) ?_
      obtain ⟨z37, hz38, h⟩ := bnd h
      refine e_call (is := [1, 0]) rfl rfl (call_run Try.call29 rfl rfl (by kernel_rfl)) rfl (fun w hp => t_seglog_place_remove (caps := #[.pointer (some ⟨g19, 0, none⟩)]) hr34 name hname z10.1 hr16 (fun x y => m_seglog_Open_1 x y z10.1) (fun {Γq_ wq_} x hx y hy hle hp2 {_} hq => Calls.mono (t_seglog_Open_1 (Γ := Γq_) x hx y hy z10.1 hr16 (by subst hT36; exact hp2.parts) hq) (fun e w2 ho => Outc.quiet (by subst hT36; exact hp2.parts) ho (fun _ _ _ hr => ⟨hr.1, hr.2.1⟩))) Try.call30 hp hz38) ?_
      rintro Γ39 U41 v42 hl40 ⟨row43, rfl, rfl, hd44⟩
      change WR _ _ _ (CC F Γ39 [row43, rowT35, [(g9, .cells #[.pointer (some ⟨gd, 0, none⟩), .string name, .int .i64 z10.1] 55 (0, 0))]]) _ _ (upd _ 51 (.tuple #[]))
      refine WR.sub (fun w hw => hw.unfold (i := 1) rfl hT36) ?_
      change WR _ _ _ (CC F Γ39 [[(g19, .cells #[.int .i64 z10.1] 2 (0, 0))], row43, [(g9, .cells #[.pointer (some ⟨gd, 0, none⟩), .string name, .int .i64 z10.1] 55 (0, 0))]]) _ _ _
      refine WR.nil ?_
      change WC _ _ _ _ _ _
      refine WC.rs ?_
      refine va rfl rfl rfl (q_ldla (i := 2) (vs := [.pointer (some ⟨gd, 0, none⟩), .string name, .int .i64 z10.1]) rfl rfl Try.isAgg55 Try.sizeOf55 rfl rfl) ?_
      refine va rfl rfl rfl (q_move (v := .int .i64 size) rfl (by kernel_rfl)) ?_
      refine va rfl rfl rfl (q_max rfl rfl rfl) ?_
      refine va rfl rfl rfl (q_build' (v := .agg #[.pointer (some ⟨gd, 0, none⟩), .string name, .int .i64 z10.1, .int .i64 (max size 16), .int .i64 0, .int .i64 0, .int .i64 0, .int .i64 0]) rfl (bargs2 rfl rfl) (fun w => by kernel_rfl)) ?_
      refine e_box (v := .agg #[.pointer (some ⟨gd, 0, none⟩), .string name, .int .i64 z10.1, .int .i64 (max size 16), .int .i64 0, .int .i64 0, .int .i64 0, .int .i64 0]) rfl rfl rfl rfl (by kernel_rfl) ?_
      intro g45
      refine e_alloc Try.zeroValue26 rfl rfl rfl rfl ?_
      intro g46
      refine e_st (i := 0) (v := .pointer (some ⟨g45, 0, none⟩)) (new := #[.pointer (some ⟨g45, 0, none⟩)]) rfl Try.sizeOf26 rfl rfl rfl rfl (by kernel_rfl) rfl rfl rfl rfl ?_
      refine WR.nil ?_
      change WC _ _ _ _ _ _
      refine WC.rs ?_
      refine va rfl rfl rfl (q_ldl (i := 0) (v := .pointer (some ⟨g45, 0, none⟩)) rfl rfl Try.isAgg26 rfl rfl) ?_
      obtain ⟨row_47, hrow_47, hob_47⟩ : ∃ rw : Rowb, rw = ([[(g45, .cells #[.pointer (some ⟨gd, 0, none⟩), .string name, .int .i64 z10.1, .int .i64 (max size 16), .int .i64 0, .int .i64 0, .int .i64 0, .int .i64 0] 63 (0, 0))]] : List Rowb).flatten ∧ Oseglog_Log.ob (63, gd) Γ39 g45 rw (⟨name, z10.1, (max size 16), 0, 0, 0, 0⟩ : Oseglog_Log) := ⟨_, rfl, rfl, hname, hr16, (max_r hsize (show I64 16 by decide)), (show I64 0 by decide), (show I64 0 by decide), (show I64 0 by decide), (show I64 0 by decide), trivial⟩
      intro w hw; have hw := hw.fold (is := [1]) rfl hrow_47
      refine WR.here (C := CC F Γ39 [row_47, [(g46, .cells #[.pointer (some ⟨g45, 0, none⟩)] 26 (0, 0))], [(g19, .cells #[.int .i64 z10.1] 2 (0, 0))], row43, [(g9, .cells #[.pointer (some ⟨gd, 0, none⟩), .string name, .int .i64 z10.1] 55 (0, 0))]]) ?_ hw
      clear hw
      obtain ⟨z48, hz49, h⟩ := bnd h
      refine e_call (is := [0, 2]) rfl rfl (call_run Try.call31 rfl rfl (by kernel_rfl)) rfl (fun w hp => t_seglog_Log_scan hob_47 hd44 hp hz49) ?_
      rintro Γ50 U52 v53 hl51 ⟨row54, row56, A58, c59, row60, rfl, rfl, hr55, hr57, hr61, _⟩
      change WR _ _ _ (CC F Γ50 [row54, row56, row60, [(g46, .cells #[.pointer (some ⟨g45, 0, none⟩)] 26 (0, 0))], [(g19, .cells #[.int .i64 z10.1] 2 (0, 0))], [(g9, .cells #[.pointer (some ⟨gd, 0, none⟩), .string name, .int .i64 z10.1] 55 (0, 0))]]) _ _ (upd _ 58 (.slice A58 z48.2.2.length c59))
      refine va rfl rfl rfl (q_assign (v := .slice A58 z48.2.2.length c59) rfl (by kernel_rfl)) ?_
      refine WR.nil ?_
      change WC _ _ _ _ _ _
      refine WC.rs ?_
      refine va rfl rfl rfl (q_ldla (i := 5) (vs := [.pointer (some ⟨gd, 0, none⟩), .string name, .int .i64 z10.1]) rfl rfl Try.isAgg55 Try.sizeOf55 rfl rfl) ?_
      refine va rfl rfl rfl (q_mkfn (v := .func (.func 32) #[] #[.pointer (some ⟨g46, 0, none⟩)]) rfl (by kernel_rfl)) ?_
      obtain ⟨rowT62, hT63⟩ : ∃ r : Rowb, r = ([[(g46, .cells #[.pointer (some ⟨g45, 0, none⟩)] 26 (0, 0))], row54] : List Rowb).flatten := ⟨_, rfl⟩
      refine WR.sub (fun w hw => hw.fold (is := [3, 0]) rfl hT63) ?_
      obtain ⟨z64, hz65, h⟩ := bnd h
      refine e_call (is := [1, 0]) rfl rfl (call_run Try.call29 rfl rfl (by kernel_rfl)) rfl (fun w hp => t_seglog_place_remove (caps := #[.pointer (some ⟨g46, 0, none⟩)]) hr57 name hname z10.1 hr16 (fun x y => m_seglog_Open_2 x y z48.1) (fun {Γq_ wq_} x hx y hy hle hp2 {_} hq => Calls.mono (t_seglog_Open_2 (Γ := Γq_) x hx y hy (hr55.mono hle) (by subst hT63; exact hp2.parts) hq) (fun e w2 ho => Outc.quiet (by subst hT63; exact hp2.parts) ho (fun _ _ _ hr => ⟨hr.1, hr.2.1⟩))) Try.call32 hp hz65) ?_
      rintro Γ66 U68 v69 hl67 ⟨row70, rfl, rfl, hd71⟩
      change WR _ _ _ (CC F Γ66 [row70, rowT62, row60, [(g19, .cells #[.int .i64 z10.1] 2 (0, 0))], [(g9, .cells #[.pointer (some ⟨gd, 0, none⟩), .string name, .int .i64 z10.1] 55 (0, 0))]]) _ _ (upd _ 61 (.tuple #[]))
      refine WR.sub (fun w hw => hw.unfold (i := 1) rfl hT63) ?_
      change WR _ _ _ (CC F Γ66 [[(g46, .cells #[.pointer (some ⟨g45, 0, none⟩)] 26 (0, 0))], row54, row70, row60, [(g19, .cells #[.int .i64 z10.1] 2 (0, 0))], [(g9, .cells #[.pointer (some ⟨gd, 0, none⟩), .string name, .int .i64 z10.1] 55 (0, 0))]]) _ _ _
      refine WR.nil ?_
      change WC _ _ _ _ _ _
      refine WC.cut (fun σ w => ∃ (o74 : Odisk_Disk), ∃ (Γ72 : Gh), ∃ (row75 : Rowb), m_seglog_Open_j1 z48 o74 = some r ∧ slots σ [(14, .pointer (some ⟨g46, 0, none⟩)), (15, .slice A58 z48.2.2.length c59)] ∧ CC F Γ72 [[(g46, .cells #[.pointer (some ⟨g45, 0, none⟩)] 26 (0, 0))], row54, row75, row60] w ∧ Gh.le Γ66 Γ72 ∧ Odisk_Disk.ob ed Γ72 gd row75 o74 ∧ True) ?_ ?_
      · skip
        refine WC.rs ?_
        refine va rfl rfl rfl (q_move (v := .pointer (some ⟨gd, 0, none⟩)) rfl (by kernel_rfl)) ?_
        obtain ⟨z77, hz78, h⟩ := bnd h
        refine vc rfl rfl rfl (q_call (call_run Try.call24 rfl rfl (by kernel_rfl)) (fun w hw => t_disk_Disk_Loose (Γ := Gh.all w) (hd71.mono hw.sat.le_all) (hw.ra 2 rfl) (Sat.all w) hz78)) ?_
        refine va rfl rfl rfl (q_move (v := .int .i64 z21) rfl (by kernel_rfl)) ?_
        refine va rfl rfl rfl (q_neq rfl rfl rfl) ?_
        refine WR.nil ?_
        change WC _ _ _ _ _ _
        refine WC.cif h (by kernel_rfl) (fun hb79 h => ?_) (fun hb79 h => ?_)
        · skip
          refine WC.region ?_
          refine va rfl rfl rfl (q_move (v := .pointer (some ⟨gd, 0, none⟩)) rfl (by kernel_rfl)) ?_
          obtain ⟨z80, hz81, h⟩ := bnd h
          refine e_call (is := [2]) rfl rfl (call_run Try.call33 rfl rfl (by kernel_rfl)) rfl (fun w hp => t_disk_Disk_Sync hd71 hp hz81) ?_
          rintro Γ82 U84 v85 hl83 ⟨row86, rfl, rfl, hr87, _⟩
          change WR _ _ _ (CC F Γ82 [row86, [(g46, .cells #[.pointer (some ⟨g45, 0, none⟩)] 26 (0, 0))], row54, row60, [(g19, .cells #[.int .i64 z10.1] 2 (0, 0))], [(g9, .cells #[.pointer (some ⟨gd, 0, none⟩), .string name, .int .i64 z10.1] 55 (0, 0))]]) _ _ (upd _ 67 (.tuple #[]))
          refine WR.nil ?_
          intro w hw
          exact ⟨z80, Γ82, row86, h, (sl_ (by kernel_rfl)), (hw.only (is := [1, 1, 0, 0]) rfl), hl83, hr87, trivial⟩
        · skip
          refine WC.skip ?_
          intro w hw
          exact ⟨z64, Γ66, row70, h, (sl_ (by kernel_rfl)), (hw.only (is := [0, 0, 0, 0]) rfl), (Gh.refl _), hd71, trivial⟩
      · skip
        rintro σ w ⟨o74, Γ72, row75, h, hsl, hw, hl73, ho76, -⟩
        refine Wpt.slots hsl ?_
        refine WC.here (C := CC F Γ72 [[(g46, .cells #[.pointer (some ⟨g45, 0, none⟩)] 26 (0, 0))], row54, row75, row60]) ?_ hw
        clear hw hsl
        refine WC.rs ?_
        refine va rfl rfl rfl (q_ldl (i := 0) (v := .pointer (some ⟨g45, 0, none⟩)) rfl rfl Try.isAgg26 rfl rfl) ?_
        refine va rfl rfl rfl (q_move (v := .slice A58 z48.2.2.length c59) rfl (by kernel_rfl)) ?_
        refine va rfl rfl rfl (q_assign (v := .pointer (some ⟨g45, 0, none⟩)) rfl (by kernel_rfl)) ?_
        refine va rfl rfl rfl (q_assign (v := .slice A58 z48.2.2.length c59) rfl (by kernel_rfl)) ?_
        refine va rfl rfl rfl (q_assign (v := .int .i64 0) rfl (by kernel_rfl)) ?_
        refine WR.nil ?_
        change WC _ _ _ _ _ _
        refine WC.ret ?_
        intro w hw
        obtain rfl := Option.some.inj h
        subst hF
        exact end_e (is := [2, 1, 1]) (by kernel_rfl) hw rfl ⟨row75, g45, row54, A58, c59, row60, rfl, rfl, ho76, (hr55.mono (hl67.trans hl73)), (hr61.mono (hl67.trans hl73)), (show I64 0 by decide), trivial⟩
abbrev r_num_PutNum (r : List UInt8) (U : List Rowb) (Γ : Gh) (v : Value) : Prop := ∃ (A0 : Option Addr), ∃ (c0 : Nat), ∃ (row0 : Rowb), v = .slice A0 r.length c0 ∧ U = [row0] ∧ Own byteT Γ 5 row0 A0 c0 r ∧ True
set_option maxRecDepth 100000 in
set_option maxHeartbeats 400000 in
theorem t_num_PutNum {Γ : Gh} {w0 : World} (n : Int) (hn : I64 n) (hp : Pre [] Γ w0) {r : List UInt8} (h : m_num_PutNum n = some r) : Calls Try.prog 46 #[.int .i64 n] w0 (Outc Γ [] w0 (r_num_PutNum r)) := by
  refine calls_of (N := 23) (rs := [2]) (args := [.int .i64 n]) Try.func46 rfl Try.ntmps46 Try.results46 rfl ?_
  obtain ⟨F, hF⟩ : ∃ F : Fm, F = ⟨ids [], w0, Γ⟩ := ⟨_, rfl⟩
  refine WC.here (C := CC F Γ []) ?_ (hF ▸ hp.start)
  refine WC.rs ?_
  refine va rfl rfl rfl (q_assign (v := .slice none 0 0) rfl (by kernel_rfl)) ?_
  refine WR.nil ?_
  change WC _ _ _ _ _ _
  refine WC.rs ?_
  refine va rfl rfl rfl (q_assign (v := .slice none 0 0) rfl (by kernel_rfl)) ?_
  refine WR.nil ?_
  change WC _ _ _ _ _ _
  refine WC.rs ?_
  refine va rfl rfl rfl (q_move (v := .int .i64 n) rfl (by kernel_rfl)) ?_
  refine va rfl rfl rfl (q_max rfl rfl rfl) ?_
  refine va rfl rfl rfl (q_conv Try.underlying97 Try.underlying2 rfl rfl) ?_
  refine va rfl rfl rfl (q_assign (v := .int .u64 (wu64 (max n 0))) rfl (by kernel_rfl)) ?_
  refine WR.nil ?_
  change WC _ _ _ _ _ _
  refine WC.seq ?_
  refine WC.block ?_
  refine WC.loopN h (fun (s : (List UInt8) × Int) σ w => match s with | (b_1, u_6) => ∃ (A2 : Option Addr), ∃ (c3 : Nat), ∃ (row4 : Rowb), slots σ [(3, .slice A2 b_1.length c3), (4, .int .u64 u_6)] ∧ CC F Γ [row4] w ∧ Own byteT Γ 5 row4 A2 c3 b_1 ∧ True) ?_ ?_
  · skip
    intro w hw
    have hw := hw.pad
    exact ⟨none, 0, [], (sl_ (by kernel_rfl)), hw, (Own.nil byteT _ 5), trivial⟩
  rintro f7 ⟨b_1, u_6⟩ σ w h ⟨A2, c3, row4, hsl, hw, ho5, -⟩
  refine Wpt.slots hsl ?_
  refine WC.here (C := CC F Γ [row4]) ?_ hw
  clear hw hsl
  refine WC.seq ?_
  refine WC.rs ?_
  refine va rfl rfl rfl (q_move (v := .int .u64 u_6) rfl (by kernel_rfl)) ?_
  refine va rfl rfl rfl (q_gtr rfl rfl rfl) ?_
  refine WR.nil ?_
  change WC _ _ _ _ _ _
  refine WC.cif h (by kernel_rfl) (fun hb11 h => ?_) (fun hb11 h => ?_)
  · skip
    refine WC.skip ?_
    change WC _ _ _ _ _ _
    refine WC.seq ?_
    refine WC.block ?_
    refine WC.region ?_
    refine va rfl rfl rfl (q_move (v := .slice A2 b_1.length c3) rfl (by kernel_rfl)) ?_
    refine va rfl rfl rfl (q_move (v := .int .u64 u_6) rfl (by kernel_rfl)) ?_
    refine va rfl rfl rfl (q_conv Try.underlying5 Try.underlying97 rfl rfl) ?_
    refine va rfl rfl rfl (q_or rfl rfl rfl) ?_
    refine e_buildSlice (cs := #[.int .u8 (ior .u8 (wu8 u_6) 128)]) (e := 5) rfl rfl rfl rfl (fun w => by kernel_rfl) ?_
    intro g12
    obtain ⟨hk13, h⟩ := chk_some h
    obtain ⟨hk14, h⟩ := chk_some h
    refine e_append (T := byteT) (xs := b_1) (ys := [(b8 (ior .u8 (wu8 u_6) 128))]) elem_31 (i := 1) rfl rfl rfl rfl rfl rfl rfl ho5 (of_decide_eq_true hk14) (fun w hw => src_one (T := byteT) (y := (b8 (ior .u8 (wu8 u_6) 128))) (i := 0) rfl (by exact (by show [Value.int .u8 (ior .u8 (wu8 u_6) 128)] = [Value.int .u8 _]; rw [b8_val (u8b_of hk13)])) hw) ?_
    intro row15 A16 c17 ho18
    refine va rfl rfl rfl (q_assign (v := .slice A16 (b_1 ++ [(b8 (ior .u8 (wu8 u_6) 128))]).length c17) rfl (by kernel_rfl)) ?_
    refine WR.nil ?_
    change WC _ _ _ _ _ _
    refine WC.region ?_
    refine va rfl rfl rfl (q_move (v := .int .u64 u_6) rfl (by kernel_rfl)) ?_
    refine va rfl rfl rfl (q_shr rfl rfl rfl (by decide)) ?_
    refine va rfl rfl rfl (q_assign (v := .int .u64 (ishr .u64 u_6 7)) rfl (by kernel_rfl)) ?_
    refine WR.nil ?_
    intro w hw
    exact ⟨((b_1 ++ [(b8 (ior .u8 (wu8 u_6) 128))]), (ishr .u64 u_6 7)), h, A16, c17, row15, (sl_ (by kernel_rfl)), (hw.only (is := [1]) rfl), ho18, trivial⟩
  · skip
    refine WC.exit ?_
    change WC _ _ _ _ _ _
    refine WC.rs ?_
    refine va rfl rfl rfl (q_move (v := .slice A2 b_1.length c3) rfl (by kernel_rfl)) ?_
    refine va rfl rfl rfl (q_move (v := .int .u64 u_6) rfl (by kernel_rfl)) ?_
    refine va rfl rfl rfl (q_conv Try.underlying5 Try.underlying97 rfl rfl) ?_
    refine e_buildSlice (cs := #[.int .u8 (wu8 u_6)]) (e := 5) rfl rfl rfl rfl (fun w => by kernel_rfl) ?_
    intro g19
    obtain ⟨hk20, h⟩ := chk_some h
    refine e_append (T := byteT) (xs := b_1) (ys := [(b8 (wu8 u_6))]) elem_31 (i := 1) rfl rfl rfl rfl rfl rfl rfl ho5 (of_decide_eq_true hk20) (fun w hw => src_one (T := byteT) (y := (b8 (wu8 u_6))) (i := 0) rfl (by exact (by show [Value.int .u8 (wu8 u_6)] = [Value.int .u8 _]; rw [b8_val (wu8_r _)])) hw) ?_
    intro row21 A22 c23 ho24
    refine va rfl rfl rfl (q_assign (v := .slice A22 (b_1 ++ [(b8 (wu8 u_6))]).length c23) rfl (by kernel_rfl)) ?_
    refine WR.nil ?_
    change WC _ _ _ _ _ _
    refine WC.ret ?_
    intro w hw
    obtain rfl := Option.some.inj h
    subst hF
    exact end_e (is := [1]) (by kernel_rfl) hw rfl ⟨A22, c23, row21, rfl, rfl, ho24, trivial⟩
abbrev r_frame_Put (r : (List UInt8) × Int) (U : List Rowb) (Γ : Gh) (v : Value) : Prop := ∃ (A0 : Option Addr), ∃ (c0 : Nat), ∃ (row0 : Rowb), v = .tuple #[.slice A0 r.1.length c0, .int .i64 r.2] ∧ U = [row0] ∧ Own byteT Γ 5 row0 A0 c0 r.1 ∧ I64 r.2 ∧ True
set_option maxRecDepth 100000 in
set_option maxHeartbeats 400000 in
theorem t_frame_Put {Γ : Gh} {w0 : World} {Ab : Option Addr} {cb : Nat} {b : List UInt8} (hb : Sl byteT Γ Ab b) (hbc : b.length ≤ cb) (hp : Pre [] Γ w0) {r : (List UInt8) × Int} (h : m_frame_Put b = some r) : Calls Try.prog 34 #[.slice Ab b.length cb] w0 (Outc Γ [] w0 (r_frame_Put r)) := by
  refine calls_of (N := 32) (rs := [2, 3]) (args := [.slice Ab b.length cb]) Try.func34 rfl Try.ntmps34 Try.results34 rfl ?_
  obtain ⟨F, hF⟩ : ∃ F : Fm, F = ⟨ids [], w0, Γ⟩ := ⟨_, rfl⟩
  refine WC.here (C := CC F Γ []) ?_ (hF ▸ hp.start)
  refine WC.rs ?_
  refine va rfl rfl rfl (q_assign (v := .slice none 0 0) rfl (by kernel_rfl)) ?_
  refine va rfl rfl rfl (q_assign (v := .int .i64 0) rfl (by kernel_rfl)) ?_
  refine WR.nil ?_
  change WC _ _ _ _ _ _
  refine WC.seq ?_
  refine WC.rs ?_
  refine va rfl rfl rfl (q_move (v := .slice Ab b.length cb) rfl (by kernel_rfl)) ?_
  refine va rfl rfl rfl (q_len_slice rfl Try.underlying31 rfl) ?_
  refine va rfl rfl rfl (q_gtr rfl rfl rfl) ?_
  refine WR.nil ?_
  change WC _ _ _ _ _ _
  refine WC.cif h (by kernel_rfl) (fun hb1 h => ?_) (fun hb1 h => ?_)
  · skip
    refine WC.rs ?_
    refine va rfl rfl rfl (q_assign (v := .slice none 0 0) rfl (by kernel_rfl)) ?_
    refine va rfl rfl rfl (q_assign (v := .int .i64 3) rfl (by kernel_rfl)) ?_
    refine WR.nil ?_
    change WC _ _ _ _ _ _
    refine WC.ret ?_
    intro w hw
    have hw := hw.pad
    obtain rfl := Option.some.inj h
    subst hF
    exact end_e (is := [0]) (by kernel_rfl) hw rfl ⟨none, 0, [], rfl, rfl, (Own.nil byteT _ 5), (show I64 3 by decide), trivial⟩
  · skip
    refine WC.skip ?_
    change WC _ _ _ _ _ _
    refine WC.rs ?_
    refine va rfl rfl rfl (q_move (v := .slice Ab b.length cb) rfl (by kernel_rfl)) ?_
    refine va rfl rfl rfl (q_len_slice rfl Try.underlying31 rfl) ?_
    obtain ⟨z2, hz3, h⟩ := bnd h
    refine e_call (is := []) rfl rfl (call_run Try.call46 rfl rfl (by kernel_rfl)) rfl (fun w hp => t_num_PutNum ((b.length : Nat) : Int) (len_r hb.le) hp hz3) ?_
    rintro Γ4 U6 v7 hl5 ⟨A8, c9, row10, rfl, rfl, hr11, _⟩
    change WR _ _ _ (CC F Γ4 [row10]) _ _ (upd _ 12 (.slice A8 z2.length c9))
    refine va rfl rfl rfl (q_assign (v := .slice A8 z2.length c9) rfl (by kernel_rfl)) ?_
    refine WR.nil ?_
    change WC _ _ _ _ _ _
    refine WC.rs ?_
    refine va rfl rfl rfl (q_move (v := .slice A8 z2.length c9) rfl (by kernel_rfl)) ?_
    refine va rfl rfl rfl (q_move (v := .slice Ab b.length cb) rfl (by kernel_rfl)) ?_
    refine e_buildSlice (cs := #[.slice A8 z2.length c9, .slice Ab b.length cb]) (e := 31) rfl rfl rfl rfl (fun w => by kernel_rfl) ?_
    intro g12
    obtain ⟨z13, hz14, h⟩ := bnd h
    refine vc rfl rfl rfl (q_call (call_run Try.call55 rfl rfl (by kernel_rfl)) (fun w hw => t_frame_Sum (Γ := Gh.all w) ((Own.of_blockL (T := slT byteT) (Γ := Gh.all w) (e := 31) (g := g12) (ys := ([z2, b] : List (List UInt8))) [[.slice A8 z2.length c9], [.slice Ab b.length cb]] rfl (show 2 ≤ lim by decide) (show Ty.rd (slT byteT) (Gh.all w) [.slice A8 z2.length c9] z2 ∧ Ty.rd (slT byteT) (Gh.all w) [.slice Ab b.length cb] b ∧ True from ⟨⟨A8, c9, rfl, hr11.capz, (hr11.sl hw.sat.le_all (hw.ra 1 rfl))⟩, ⟨Ab, cb, rfl, hbc, ((hb.mono hl5).mono hw.sat.le_all)⟩, trivial⟩)).sl (Gh.refl _) (hw.ra 0 rfl)) (Nat.le_refl _) (Sat.all w) hz14)) ?_
    refine va rfl rfl rfl (q_assign (v := .int .u32 z13) rfl (by kernel_rfl)) ?_
    refine WR.nil ?_
    change WC _ _ _ _ _ _
    refine WC.seq ?_
    refine WC.rs ?_
    refine va rfl rfl rfl (q_move (v := .int .i64 0) rfl (by kernel_rfl)) ?_
    refine WR.nil ?_
    change WC _ _ _ _ _ _
    refine WC.block ?_
    refine WC.forU h (fun (i21 : Nat) (out_15 : List UInt8) σ w => ∃ (A16 : Option Addr), ∃ (c17 : Nat), ∃ (row18 : Rowb), slots σ [(0, .slice Ab b.length cb), (4, .slice A16 out_15.length c17), (5, .int .u32 z13), (17, .int .i64 ((i21 : Nat) : Int))] ∧ CC F Γ4 [row18] w ∧ Own byteT Γ4 5 row18 A16 c17 out_15 ∧ True) ?_ ?_
    · skip
      intro w hw
      exact ⟨A8, c9, row10, (sl_ (by kernel_rfl)), (hw.only (is := [1]) rfl), hr11, trivial⟩
    rintro f20 i21 out_15 σ w hi22 hlt23 hge24 ⟨A16, c17, row18, hsl, hw, ho19, -⟩
    refine Wpt.slots hsl ?_
    refine WC.here (C := CC F Γ4 [row18]) ?_ hw
    clear hw hsl
    refine WC.rs ?_
    refine va rfl rfl rfl (q_lss rfl rfl rfl) ?_
    refine WR.nil ?_
    change WC _ _ _ _ _ _
    refine WC.seq ?_
    refine WC.cond (b := (decide (((i21 : Nat) : Int) < 4))) (by kernel_rfl) (fun hb25 => ?_) (fun hb25 => ?_)
    · skip
      have hl26 := ilt hb25
      have h := hlt23 hl26
      refine WC.skip ?_
      change WC _ _ _ _ _ _
      refine WC.seq ?_
      refine WC.block ?_
      refine WC.rs ?_
      refine va rfl rfl rfl (q_move (v := .int .i64 ((i21 : Nat) : Int)) rfl (by kernel_rfl)) ?_
      refine va rfl rfl rfl (q_assign (v := .int .i64 ((i21 : Nat) : Int)) rfl (by kernel_rfl)) ?_
      refine WR.nil ?_
      change WC _ _ _ _ _ _
      refine WC.region ?_
      refine va rfl rfl rfl (q_move (v := .slice A16 out_15.length c17) rfl (by kernel_rfl)) ?_
      refine va rfl rfl rfl (q_move (v := .int .u32 z13) rfl (by kernel_rfl)) ?_
      refine va rfl rfl rfl (q_move (v := .int .i64 ((i21 : Nat) : Int)) rfl (by kernel_rfl)) ?_
      refine va rfl rfl rfl (q_mul rfl rfl rfl) ?_
      obtain ⟨hk27, h⟩ := chk_some h
      refine va rfl rfl rfl (q_shr rfl rfl rfl hk27) ?_
      refine va rfl rfl rfl (q_conv Try.underlying5 Try.underlying92 rfl rfl) ?_
      refine e_buildSlice (cs := #[.int .u8 (wu8 (ishr .u32 z13 (w64 (8 * ((i21 : Nat) : Int)))))]) (e := 5) rfl rfl rfl rfl (fun w => by kernel_rfl) ?_
      intro g28
      obtain ⟨hk29, h⟩ := chk_some h
      refine e_append (T := byteT) (xs := out_15) (ys := [(b8 (wu8 (ishr .u32 z13 (w64 (8 * ((i21 : Nat) : Int))))))]) elem_31 (i := 1) rfl rfl rfl rfl rfl rfl rfl ho19 (of_decide_eq_true hk29) (fun w hw => src_one (T := byteT) (y := (b8 (wu8 (ishr .u32 z13 (w64 (8 * ((i21 : Nat) : Int))))))) (i := 0) rfl (by exact (by show [Value.int .u8 (wu8 (ishr .u32 z13 (w64 (8 * ((i21 : Nat) : Int)))))] = [Value.int .u8 _]; rw [b8_val (wu8_r _)])) hw) ?_
      intro row30 A31 c32 ho33
      refine va rfl rfl rfl (q_assign (v := .slice A31 (out_15 ++ [(b8 (wu8 (ishr .u32 z13 (w64 (8 * ((i21 : Nat) : Int))))))]).length c32) rfl (by kernel_rfl)) ?_
      refine WR.nil ?_
      change WC _ _ _ _ _ _
      refine WC.region ?_
      refine va rfl rfl rfl (q_add_r (r := ((i21 + 1 : Nat) : Int)) rfl rfl rfl (ctr_lit hl26 (by decide))) ?_
      refine va rfl rfl rfl (q_move (v := .int .i64 ((i21 + 1 : Nat) : Int)) rfl (by kernel_rfl)) ?_
      refine WR.nil ?_
      intro w hw
      exact ⟨hl26, (out_15 ++ [(b8 (wu8 (ishr .u32 z13 (w64 (8 * ((i21 : Nat) : Int))))))]), h, A31, c32, row30, (sl_ (by kernel_rfl)), (hw.only (is := [1]) rfl), ho33, trivial⟩
    · skip
      have h := hge24 (ige hb25)
      refine WC.exit ?_
      change WC _ _ _ _ _ _
      refine WC.rs ?_
      refine va rfl rfl rfl (q_move (v := .slice A16 out_15.length c17) rfl (by kernel_rfl)) ?_
      refine va rfl rfl rfl (q_move (v := .slice Ab b.length cb) rfl (by kernel_rfl)) ?_
      obtain ⟨hk34, h⟩ := chk_some h
      refine e_append (T := byteT) (xs := out_15) (ys := b) elem_31 (i := 0) rfl rfl rfl rfl rfl rfl rfl ho19 (of_decide_eq_true hk34) (fun w hw => src_sl (hb.mono hl5) hw) ?_
      intro row35 A36 c37 ho38
      refine va rfl rfl rfl (q_assign (v := .slice A36 (out_15 ++ b).length c37) rfl (by kernel_rfl)) ?_
      refine va rfl rfl rfl (q_assign (v := .int .i64 0) rfl (by kernel_rfl)) ?_
      refine WR.nil ?_
      change WC _ _ _ _ _ _
      refine WC.ret ?_
      intro w hw
      obtain rfl := Option.some.inj h
      subst hF
      exact end_e (is := [0]) (by kernel_rfl) hw rfl ⟨A36, c37, row35, rfl, rfl, ho38, (show I64 0 by decide), trivial⟩
set_option maxRecDepth 100000 in
set_option maxHeartbeats 400000 in
theorem t_disk_Disk_Used {Γ : Gh} {w0 : World} {gd ed : Nat} {rowd : Rowb} {d : Odisk_Disk} (hd : Odisk_Disk.ob ed Γ gd rowd d) (hdr : ∀ p ∈ rowd, Γ p.1 = some p.2) (hs : Sat Γ w0) {r : Int} (h : m_disk_Disk_Used d = some r) : Calls Try.prog 19 #[.pointer (some ⟨gd, 0, none⟩)] w0 (fun e w' => e = .returned (.int .i64 r) ∧ Fr no w0 w') := by
  refine calls_of (N := 20) (rs := [2]) (args := [.pointer (some ⟨gd, 0, none⟩)]) Try.func19 rfl Try.ntmps19 Try.results19 rfl ?_
  obtain ⟨F, hF⟩ : ∃ F : Fm, F = ⟨no, w0, Γ⟩ := ⟨_, rfl⟩
  refine WC.here (C := CC F Γ []) ?_ (hF ▸ Cur.start0 hs)
  refine WC.rs ?_
  refine va rfl rfl rfl (q_assign (v := .int .i64 0) rfl (by kernel_rfl)) ?_
  refine WR.nil ?_
  change WC _ _ _ _ _ _
  refine WC.rs ?_
  refine va rfl rfl rfl (q_assign (v := .int .i64 0) rfl (by kernel_rfl)) ?_
  refine WR.nil ?_
  change WC _ _ _ _ _ _
  refine WC.seq ?_
  refine WC.rs ?_
  refine va rfl rfl rfl (q_move (v := .pointer (some ⟨gd, 0, none⟩)) rfl (by kernel_rfl)) ?_
  refine va rfl rfl rfl (q_nil (A := some ⟨gd, 0, none⟩) rfl rfl rfl) ?_
  refine va rfl rfl rfl (q_fl 2 fld_52_2 rfl rfl rfl) ?_
  have hq := hd
  obtain ⟨m1_1, r1_1, m2_1, r2_1, A3_1, c3_1, r3_1, hrow_1, ho0_1, ho1_1, ho2_1, ho3_1, -⟩ := hq
  have hg_2 : ∀ u ∈ ([[(gd, .cells #[.int .i64 d.room, .map (some m1_1), .map (some m2_1), .slice A3_1 d.loose.length c3_1] ed (0, 0))], r1_1, r2_1, r3_1] : List Rowb), ∀ p ∈ u, Γ p.1 = some p.2 := fun u hu p hp => (fun p hp => (hdr p hp)) p (hrow_1 ▸ List.mem_flatten.2 ⟨u, hu, hp⟩)
  have hgc3 := hg_2 _ (List.mem_cons_self ..) (gd, _) (List.mem_singleton.2 rfl)
  have hgs4 := hg_2 r1_1 (by simp)
  have hgs5 := hg_2 r2_1 (by simp)
  have hgs6 := hg_2 r3_1 (by simp)
  have hs7 := ho3_1.sl (Gh.refl _) hgs6
  refine va rfl rfl rfl (q_ldg (v := .map (some m2_1)) hgc3 rfl Try.isAgg49 rfl rfl) ?_
  refine e_range ho2_1 (fun w hw p hp => hw.sat _ _ (hgs5 p hp)) rfl rfl rfl Try.underlying49 rfl ?_
  intro g8 row9 hi10
  change WR _ _ _ (CC F Γ [row9]) _ _ (upd _ 10 (.pointer (some ⟨g8, 0, none⟩)))
  refine WR.nil ?_
  change WC _ _ _ _ _ _
  refine WC.block ?_
  refine WC.forE h (Comm.of_tot _ (fun _ _ => rfl) (fun _ _ _ => w64_comm _ _ _)) (fun (l11 : List (ByteArray × (List UInt8))) (n_12 : Int) σ w => ∃ (row14 : Rowb), slots σ [(3, .int .i64 n_12), (10, .pointer (some ⟨g8, 0, none⟩))] ∧ CC F Γ [row14] w ∧ I64 n_12 ∧ ItO (strK Try.underlying9) (slT byteT).v Γ row14 g8 m2_1 r2_1 d.seen l11 ∧ True) ?_ ?_
  · skip
    intro w hw
    exact ⟨row9, (sl_ (by kernel_rfl)), hw, (show I64 0 by decide), hi10, trivial⟩
  rintro G21 l11 n_12 σ w hstep16 hK17 ⟨row14, hsl, hw, hr13, hi15, -⟩
  refine Wpt.slots hsl ?_
  refine WC.here (C := CC F Γ [row14]) ?_ hw
  clear hw hsl
  refine WC.rs ?_
  refine e_next (i := 0) rfl ho2_1.ks hi15 (fun w hw p hp => hw.sat _ _ (hgs5 p hp)) rfl rfl rfl rfl (fun hl22 => ?_) (fun en23 l24 v25 row26 hp27 hok28 hv29 hit30 he31 => ?_)
  · skip
    have h := hK17 hl22
    change WR _ _ _ (CC F Γ [row14]) _ _ (upd _ 11 (.tuple #[.bool false]))
    refine va rfl rfl rfl (q_extract (v := .bool false) rfl rfl rfl) ?_
    refine WR.nil ?_
    change WC _ _ _ _ _ _
    refine WC.seq ?_
    refine WC.cfk (b := false) (by kernel_rfl) rfl ?_
    refine WC.exit ?_
    change WC _ _ _ _ _ _
    refine WC.rs ?_
    refine va rfl rfl rfl (q_move (v := .int .i64 n_12) rfl (by kernel_rfl)) ?_
    refine va rfl rfl rfl (q_assign (v := .int .i64 n_12) rfl (by kernel_rfl)) ?_
    refine WR.nil ?_
    change WC _ _ _ _ _ _
    refine WC.ret ?_
    intro w hw
    obtain rfl := Option.some.inj h
    subst hF
    exact ⟨by kernel_rfl, hw.fr⟩
  · skip
    obtain ⟨hlen18, s219, h, hgo20⟩ := hstep16 en23 l24 hp27
    obtain ⟨A32, c33, hv29, hc34, hs35⟩ := hv29
    obtain rfl : v25 = _ := List.cons.inj hv29 |>.1
    change WR _ _ _ (CC F Γ [row26]) _ _ (upd _ 11 (.tuple #[.bool true, .string en23.1, .slice A32 en23.2.length c33]))
    refine va rfl rfl rfl (q_extract (v := .bool true) rfl rfl rfl) ?_
    refine WR.nil ?_
    change WC _ _ _ _ _ _
    refine WC.seq ?_
    refine WC.ctk (b := true) (by kernel_rfl) rfl ?_
    refine WC.skip ?_
    change WC _ _ _ _ _ _
    refine WC.block ?_
    refine WC.rs ?_
    refine va rfl rfl rfl (q_entry (kv := .string en23.1) (v := .slice A32 en23.2.length c33) (i := 0) rfl he31 (fun w hw p hp => hw.sat _ _ (hgs5 p hp)) rfl rfl) ?_
    refine va rfl rfl rfl (q_extract (v := .slice A32 en23.2.length c33) rfl rfl rfl) ?_
    refine va rfl rfl rfl (q_assign (v := .slice A32 en23.2.length c33) rfl (by kernel_rfl)) ?_
    refine WR.nil ?_
    change WC _ _ _ _ _ _
    refine WC.region ?_
    refine va rfl rfl rfl (q_move (v := .int .i64 n_12) rfl (by kernel_rfl)) ?_
    refine va rfl rfl rfl (q_move (v := .slice A32 en23.2.length c33) rfl (by kernel_rfl)) ?_
    refine va rfl rfl rfl (q_len_slice rfl Try.underlying31 rfl) ?_
    refine va rfl rfl rfl (q_add rfl rfl rfl) ?_
    refine va rfl rfl rfl (q_assign (v := .int .i64 (w64 (n_12 + ((en23.2.length : Nat) : Int)))) rfl (by kernel_rfl)) ?_
    refine WR.nil ?_
    intro w hw
    obtain rfl := Option.some.inj h
    exact ⟨l24, _, hlen18, hgo20, row26, (sl_ (by kernel_rfl)), hw, (w64_r _), hit30, trivial⟩
abbrev r_disk_add (r : Cdisk_change_do) (U : List Rowb) (Γ : Gh) (v : Value) : Prop := ∃ (A0 : Option Addr), ∃ (c0 : Nat), v = (Cdisk_change_do.val r A0 c0) ∧ U = [] ∧ Cdisk_change_do.ok Γ A0 c0 r ∧ True
set_option maxRecDepth 100000 in
set_option maxHeartbeats 400000 in
theorem t_disk_add {Γ : Gh} {w0 : World} (name : ByteArray) (hname : name.size ≤ lim) {Ab : Option Addr} {cb : Nat} {b : List UInt8} (hb : Sl byteT Γ Ab b) (hbc : b.length ≤ cb) (hp : Pre [] Γ w0) {r : Cdisk_change_do} (h : m_disk_add name b = some r) : Calls Try.prog 44 #[.string name, .slice Ab b.length cb] w0 (Outc Γ [] w0 (r_disk_add r)) := by
  refine calls_of (N := 6) (rs := [4]) (args := [.string name, .slice Ab b.length cb]) Try.func44 rfl Try.ntmps44 Try.results44 rfl ?_
  obtain ⟨F, hF⟩ : ∃ F : Fm, F = ⟨ids [], w0, Γ⟩ := ⟨_, rfl⟩
  refine WC.here (C := CC F Γ []) ?_ (hF ▸ hp.start)
  refine WC.rs ?_
  refine e_box (v := .string name) rfl rfl rfl rfl (by kernel_rfl) ?_
  intro g1
  refine e_box (v := .slice Ab b.length cb) rfl rfl rfl rfl (by kernel_rfl) ?_
  intro g2
  refine va rfl rfl rfl (q_assign (v := .nilFunc) rfl (by kernel_rfl)) ?_
  refine WR.nil ?_
  change WC _ _ _ _ _ _
  refine WC.rs ?_
  refine va rfl rfl rfl (q_mkfn (v := .func (.func 60) #[] #[.pointer (some ⟨g1, 0, none⟩), .pointer (some ⟨g2, 0, none⟩)]) rfl (by kernel_rfl)) ?_
  refine va rfl rfl rfl (q_assign (v := .func (.func 60) #[] #[.pointer (some ⟨g1, 0, none⟩), .pointer (some ⟨g2, 0, none⟩)]) rfl (by kernel_rfl)) ?_
  refine WR.nil ?_
  change WC _ _ _ _ _ _
  refine WC.ret ?_
  intro w hw
  obtain ⟨Γ3, hw, hl4, hr5⟩ := hw.seal (i := 1) rfl
  have hg6 := hr5 _ (List.mem_singleton.2 rfl)
  obtain ⟨Γ7, hw, hl8, hr9⟩ := hw.seal (i := 0) rfl
  have hg10 := hr9 _ (List.mem_singleton.2 rfl)
  have hf11 : Cdisk_change_do.ok Γ7 (some ⟨g2, 0, none⟩) g1 (Cdisk_change_do.disk_add_1 name b) := ⟨⟨(hl8 _ _ hg6), hname⟩, ⟨g2, Ab, cb, rfl, hg10, hbc, (hb.mono (hl4.trans hl8))⟩, trivial⟩
  obtain rfl := Option.some.inj h
  subst hF
  exact end_e (is := []) (by kernel_rfl) hw rfl ⟨(some ⟨g2, 0, none⟩), g1, rfl, rfl, hf11, trivial⟩
abbrev r_disk_Disk_Append (gd : Nat) (ed : Nat) (r : Odisk_Disk × Int) (U : List Rowb) (Γ : Gh) (v : Value) : Prop := ∃ (rowd' : Rowb), v = .int .i64 r.2 ∧ U = [rowd'] ∧ Odisk_Disk.ob ed Γ gd rowd' r.1 ∧ I64 r.2 ∧ True
set_option maxRecDepth 100000 in
set_option maxHeartbeats 400000 in
theorem t_disk_Disk_Append {Γ : Gh} {w0 : World} {gd ed : Nat} {rowd : Rowb} {d : Odisk_Disk} (hd : Odisk_Disk.ob ed Γ gd rowd d) (name : ByteArray) (hname : name.size ≤ lim) {Ab : Option Addr} {cb : Nat} {b : List UInt8} (hb : Sl byteT Γ Ab b) (hbc : b.length ≤ cb) (hp : Pre [rowd] Γ w0) {r : Odisk_Disk × Int} (h : m_disk_Disk_Append d name b = some r) : Calls Try.prog 15 #[.pointer (some ⟨gd, 0, none⟩), .string name, .slice Ab b.length cb] w0 (Outc Γ [rowd] w0 (r_disk_Disk_Append gd ed r)) := by
  refine calls_of (N := 31) (rs := [6]) (args := [.pointer (some ⟨gd, 0, none⟩), .string name, .slice Ab b.length cb]) Try.func15 rfl Try.ntmps15 Try.results15 rfl ?_
  obtain ⟨F, hF⟩ : ∃ F : Fm, F = ⟨ids [rowd], w0, Γ⟩ := ⟨_, rfl⟩
  refine WC.here (C := CC F Γ [rowd]) ?_ (hF ▸ hp.start)
  refine WC.rs ?_
  refine va rfl rfl rfl (q_assign (v := .int .i64 0) rfl (by kernel_rfl)) ?_
  refine WR.nil ?_
  change WC _ _ _ _ _ _
  refine WC.seq ?_
  refine WC.rs ?_
  refine va rfl rfl rfl (q_move (v := .string name) rfl (by kernel_rfl)) ?_
  refine e_buildSlice (cs := #[.string name]) (e := 9) rfl rfl rfl rfl (fun w => by kernel_rfl) ?_
  intro g1
  have ho2 : Own strT Γ 9 [(g1, .cells #[.string name] 9 (0, 0))] (some ⟨g1, 0, none⟩) 1 [name] := Own.of_blockL (T := strT) (ys := [name]) [[.string name]] rfl (show 1 ≤ lim by decide) (show Ty.rd strT Γ [.string name] name ∧ True from ⟨⟨rfl, hname⟩, trivial⟩)
  obtain ⟨z3, hz4, h⟩ := bnd h
  refine vc rfl rfl rfl (q_call (call_run Try.call43 rfl rfl (by kernel_rfl)) (fun w hw => t_disk_right (Γ := Gh.all w) (ho2.sl hw.sat.le_all (hw.ra 0 rfl)) ho2.capz (Sat.all w) hz4)) ?_
  refine va rfl rfl rfl (q_not rfl rfl) ?_
  refine WR.nil ?_
  change WC _ _ _ _ _ _
  refine WC.cif h (by kernel_rfl) (fun hb5 h => ?_) (fun hb5 h => ?_)
  · skip
    refine WC.rs ?_
    refine va rfl rfl rfl (q_assign (v := .int .i64 70) rfl (by kernel_rfl)) ?_
    refine WR.nil ?_
    change WC _ _ _ _ _ _
    refine WC.ret ?_
    intro w hw
    obtain rfl := Option.some.inj h
    subst hF
    exact end_e (is := [1]) (by kernel_rfl) hw rfl ⟨rowd, rfl, rfl, hd, (show I64 70 by decide), trivial⟩
  · skip
    refine WC.skip ?_
    change WC _ _ _ _ _ _
    refine WC.seq ?_
    refine WC.seq ?_
    have hq := hd
    obtain ⟨m1_6, r1_6, m2_6, r2_6, A3_6, c3_6, r3_6, hrow_6, ho0_6, ho1_6, ho2_6, ho3_6, -⟩ := hq
    intro w hw; have hw := hw.unfold (i := 1) rfl hrow_6
    refine WC.here (C := CC F Γ [[(gd, .cells #[.int .i64 d.room, .map (some m1_6), .map (some m2_6), .slice A3_6 d.loose.length c3_6] ed (0, 0))], r1_6, r2_6, r3_6, [(g1, .cells #[.string name] 9 (0, 0))]]) ?_ hw
    clear hw
    refine WC.dr (by kernel_rfl) (by kernel_rfl) (fun w hw => hw.drawn _) ?_
    refine wa rfl rfl rfl (q_move (v := .slice Ab b.length cb) rfl (by kernel_rfl)) ?_
    refine wa rfl rfl rfl (q_len_slice rfl Try.underlying31 rfl) ?_
    refine wa rfl rfl rfl (q_move (v := .pointer (some ⟨gd, 0, none⟩)) rfl (by kernel_rfl)) ?_
    refine wa rfl rfl rfl (q_nil (A := some ⟨gd, 0, none⟩) rfl rfl rfl) ?_
    refine wa rfl rfl rfl (q_fl 0 fld_52_0 rfl rfl rfl) ?_
    refine wa rfl rfl rfl (q_ldl (i := 0) (v := .int .i64 d.room) rfl rfl Try.isAgg3 rfl rfl) ?_
    refine wa rfl rfl rfl (q_move (v := .pointer (some ⟨gd, 0, none⟩)) rfl (by kernel_rfl)) ?_
    obtain ⟨z7, hz8, h⟩ := bnd h
    refine wc rfl rfl rfl (q_call (call_run Try.call19 rfl rfl (by kernel_rfl)) (fun w hw => t_disk_Disk_Used (Γ := Gh.all w) (hd.mono hw.sat.le_all) (hw.raU [0, 0, 0, 0] rfl hrow_6) (Sat.all w) hz8)) ?_
    refine wa rfl rfl rfl (q_sub rfl rfl rfl) ?_
    refine wa rfl rfl rfl (q_gtr rfl rfl rfl) ?_
    refine WQ.nil ?_
    change WC _ _ _ _ _ _
    refine WC.cif h (by kernel_rfl) (fun hb9 h => ?_) (fun hb9 h => ?_)
    · skip
      refine WC.rs ?_
      refine va rfl rfl rfl (q_assign (v := .int .i64 72) rfl (by kernel_rfl)) ?_
      refine WR.nil ?_
      change WC _ _ _ _ _ _
      refine WC.ret ?_
      intro w hw
      have hw := hw.fold (is := [0, 0, 0, 0]) rfl hrow_6
      obtain rfl := Option.some.inj h
      subst hF
      exact end_e (is := [0]) (by kernel_rfl) hw rfl ⟨rowd, rfl, rfl, hd, (show I64 72 by decide), trivial⟩
    · skip
      refine WC.skip ?_
      change WC _ _ _ _ _ _
      refine WC.rs ?_
      refine va rfl rfl rfl (q_move (v := .slice Ab b.length cb) rfl (by kernel_rfl)) ?_
      obtain ⟨z11, hz12, h⟩ := bnd h
      refine e_call (is := []) rfl rfl (call_run Try.call38 rfl rfl (by kernel_rfl)) rfl (fun w hp => t_slices_Clone_byte_byte hb hbc hp hz12) ?_
      rintro Γ13 U15 v16 hl14 ⟨A17, c18, row19, rfl, rfl, hr20, _⟩
      change WR _ _ _ (CC F Γ13 [row19, [(gd, .cells #[.int .i64 d.room, .map (some m1_6), .map (some m2_6), .slice A3_6 d.loose.length c3_6] ed (0, 0))], r1_6, r2_6, r3_6, [(g1, .cells #[.string name] 9 (0, 0))]]) _ _ (upd _ 22 (.slice A17 z11.length c18))
      refine va rfl rfl rfl (q_assign (v := .slice A17 z11.length c18) rfl (by kernel_rfl)) ?_
      refine WR.nil ?_
      change WC _ _ _ _ _ _
      refine WC.rs ?_
      refine va rfl rfl rfl (q_move (v := .pointer (some ⟨gd, 0, none⟩)) rfl (by kernel_rfl)) ?_
      refine va rfl rfl rfl (q_move (v := .string name) rfl (by kernel_rfl)) ?_
      refine va rfl rfl rfl (q_move (v := .slice A17 z11.length c18) rfl (by kernel_rfl)) ?_
      have hc25 := hr20.capz
      intro w hw; obtain ⟨Γ21, hw, hl22, hr23⟩ := hw.seal (i := 0) rfl; have hs24 := hr20.sl hl22 hr23
      refine WR.here (C := CC F Γ21 [[], [(gd, .cells #[.int .i64 d.room, .map (some m1_6), .map (some m2_6), .slice A3_6 d.loose.length c3_6] ed (0, 0))], r1_6, r2_6, r3_6, [(g1, .cells #[.string name] 9 (0, 0))]]) ?_ hw
      clear hw
      obtain ⟨z26, hz27, h⟩ := bnd h
      refine e_call (is := []) rfl rfl (call_run Try.call44 rfl rfl (by kernel_rfl)) rfl (fun w hp => t_disk_add name hname hs24 hc25 hp hz27) ?_
      rintro Γ28 U30 v31 hl29 ⟨A32, c33, rfl, rfl, hr34, _⟩
      change WR _ _ _ (CC F Γ28 [[], [(gd, .cells #[.int .i64 d.room, .map (some m1_6), .map (some m2_6), .slice A3_6 d.loose.length c3_6] ed (0, 0))], r1_6, r2_6, r3_6, [(g1, .cells #[.string name] 9 (0, 0))]]) _ _ (upd _ 26 ((Cdisk_change_do.val z26 A32 c33)))
      refine va rfl rfl rfl (q_move (v := .string name) rfl (by kernel_rfl)) ?_
      refine va rfl rfl rfl (q_move (v := .slice A17 z11.length c18) rfl (by kernel_rfl)) ?_
      refine va rfl rfl rfl (q_build' (v := .agg #[(Cdisk_change_do.val z26 A32 c33), .string name, .slice A17 z11.length c18]) rfl (bargs3 rfl rfl rfl) (fun w => by kernel_rfl)) ?_
      intro w hw; have hw := hw.fold (is := [1, 1, 1, 1]) rfl hrow_6
      refine WR.here (C := CC F Γ28 [rowd, [], [(g1, .cells #[.string name] 9 (0, 0))]]) ?_ hw
      clear hw
      obtain ⟨z36, hz37, h⟩ := bnd h
      refine e_call (is := [0]) rfl rfl (call_run Try.call41 rfl rfl (by kernel_rfl)) rfl (fun w hp => t_disk_Disk_done (hd.mono ((hl14.trans hl22).trans hl29)) (⟨z26, name, z11⟩ : Ddisk_change) ⟨hr34, hname, ⟨hc25, (hs24.mono hl29)⟩⟩ hp hz37) ?_
      rintro Γ38 U40 v41 hl39 ⟨row42, rfl, rfl, hr43, hr44, _⟩
      change WR _ _ _ (CC F Γ38 [row42, [], [(g1, .cells #[.string name] 9 (0, 0))]]) _ _ (upd _ 30 (.int .i64 z36.2))
      refine va rfl rfl rfl (q_assign (v := .int .i64 z36.2) rfl (by kernel_rfl)) ?_
      refine WR.nil ?_
      change WC _ _ _ _ _ _
      refine WC.ret ?_
      intro w hw
      obtain rfl := Option.some.inj h
      subst hF
      exact end_e (is := [0]) (by kernel_rfl) hw rfl ⟨row42, rfl, rfl, hr43, hr44, trivial⟩
abbrev r_seglog_Log_Append (gl : Nat) (el : Nat × Nat) (edk0 : Nat) (r : Oseglog_Log × Odisk_Disk × Int) (U : List Rowb) (Γ : Gh) (v : Value) : Prop := ∃ (rowl' : Rowb), ∃ (rowdk0' : Rowb), v = .int .i64 r.2.2 ∧ U = [rowl', rowdk0'] ∧ Oseglog_Log.ob el Γ gl rowl' r.1 ∧ Odisk_Disk.ob edk0 Γ el.2 rowdk0' r.2.1 ∧ I64 r.2.2 ∧ True
set_option maxRecDepth 100000 in
set_option maxHeartbeats 400000 in
theorem t_seglog_Log_Append {Γ : Gh} {w0 : World} {gl : Nat} {el : Nat × Nat} {rowl : Rowb} {l : Oseglog_Log} (hl : Oseglog_Log.ob el Γ gl rowl l) {Ab : Option Addr} {cb : Nat} {b : List UInt8} (hb : Sl byteT Γ Ab b) (hbc : b.length ≤ cb) {edk0 : Nat} {rowdk0 : Rowb} {dk0 : Odisk_Disk} (hdk0 : Odisk_Disk.ob edk0 Γ el.2 rowdk0 dk0) (hp : Pre [rowl, rowdk0] Γ w0) {r : Oseglog_Log × Odisk_Disk × Int} (h : m_seglog_Log_Append l b dk0 = some r) : Calls Try.prog 10 #[.pointer (some ⟨gl, 0, none⟩), .slice Ab b.length cb] w0 (Outc Γ [rowl, rowdk0] w0 (r_seglog_Log_Append gl el edk0 r)) := by
  refine calls_of (N := 95) (rs := [4]) (args := [.pointer (some ⟨gl, 0, none⟩), .slice Ab b.length cb]) Try.func10 rfl Try.ntmps10 Try.results10 rfl ?_
  obtain ⟨F, hF⟩ : ∃ F : Fm, F = ⟨ids [rowl, rowdk0], w0, Γ⟩ := ⟨_, rfl⟩
  refine WC.here (C := CC F Γ [rowl, rowdk0]) ?_ (hF ▸ hp.start)
  refine WC.rs ?_
  refine va rfl rfl rfl (q_assign (v := .int .i64 0) rfl (by kernel_rfl)) ?_
  refine WR.nil ?_
  change WC _ _ _ _ _ _
  refine WC.rs ?_
  refine va rfl rfl rfl (q_move (v := .slice Ab b.length cb) rfl (by kernel_rfl)) ?_
  obtain ⟨z1, hz2, h⟩ := bnd h
  refine e_call (is := []) rfl rfl (call_run Try.call34 rfl rfl (by kernel_rfl)) rfl (fun w hp => t_frame_Put hb hbc hp hz2) ?_
  rintro Γ3 U5 v6 hl4 ⟨A7, c8, row9, rfl, rfl, hr10, hr11, _⟩
  change WR _ _ _ (CC F Γ3 [row9, rowl, rowdk0]) _ _ (upd _ 12 (.tuple #[.slice A7 z1.1.length c8, .int .i64 z1.2]))
  refine va rfl rfl rfl (q_move (v := .tuple #[.slice A7 z1.1.length c8, .int .i64 z1.2]) rfl (by kernel_rfl)) ?_
  refine va rfl rfl rfl (q_extract (v := .slice A7 z1.1.length c8) rfl rfl rfl) ?_
  refine va rfl rfl rfl (q_extract (v := .int .i64 z1.2) rfl rfl rfl) ?_
  refine va rfl rfl rfl (q_assign (v := .slice A7 z1.1.length c8) rfl (by kernel_rfl)) ?_
  refine va rfl rfl rfl (q_assign (v := .int .i64 z1.2) rfl (by kernel_rfl)) ?_
  refine WR.nil ?_
  change WC _ _ _ _ _ _
  refine WC.seq ?_
  refine WC.rs ?_
  refine va rfl rfl rfl (q_move (v := .int .i64 z1.2) rfl (by kernel_rfl)) ?_
  refine va rfl rfl rfl (q_neq rfl rfl rfl) ?_
  refine WR.nil ?_
  change WC _ _ _ _ _ _
  refine WC.cif h (by kernel_rfl) (fun hb12 h => ?_) (fun hb12 h => ?_)
  · skip
    refine WC.rs ?_
    refine va rfl rfl rfl (q_move (v := .int .i64 z1.2) rfl (by kernel_rfl)) ?_
    refine va rfl rfl rfl (q_assign (v := .int .i64 z1.2) rfl (by kernel_rfl)) ?_
    refine WR.nil ?_
    change WC _ _ _ _ _ _
    refine WC.ret ?_
    intro w hw
    obtain rfl := Option.some.inj h
    subst hF
    exact end_e (is := [1, 1]) (by kernel_rfl) hw rfl ⟨rowl, rowdk0, rfl, rfl, (hl.mono hl4), (hdk0.mono hl4), hr11, trivial⟩
  · skip
    refine WC.skip ?_
    change WC _ _ _ _ _ _
    refine WC.seq ?_
    have hq := (hl.mono hl4)
    obtain ⟨hrow_13, ho0_13, ho1_13, ho2_13, ho3_13, ho4_13, ho5_13, ho6_13, -⟩ := hq
    intro w hw; have hw := hw.unfold (i := 1) rfl hrow_13
    refine WC.here (C := CC F Γ3 [[(gl, .cells #[.pointer (some ⟨el.2, 0, none⟩), .string l.place_name, .int .i64 l.place_gen, .int .i64 l.size, .int .i64 l.last, .int .i64 l.tail, .int .i64 l.count, .int .i64 l.bytes] el.1 (0, 0))], row9, rowdk0]) ?_ hw
    clear hw
    refine WC.dr (by kernel_rfl) (by kernel_rfl) (fun w hw => hw.drawn _) ?_
    refine wa rfl rfl rfl (q_move (v := .pointer (some ⟨gl, 0, none⟩)) rfl (by kernel_rfl)) ?_
    refine wa rfl rfl rfl (q_nil (A := some ⟨gl, 0, none⟩) rfl rfl rfl) ?_
    refine wa rfl rfl rfl (q_fl 4 fld_63_2 rfl rfl rfl) ?_
    refine wa rfl rfl rfl (q_ldl (i := 0) (v := .int .i64 l.last) rfl rfl Try.isAgg2 rfl rfl) ?_
    refine wa rfl rfl rfl (q_move (v := .pointer (some ⟨gl, 0, none⟩)) rfl (by kernel_rfl)) ?_
    refine wa rfl rfl rfl (q_nil (A := some ⟨gl, 0, none⟩) rfl rfl rfl) ?_
    refine wa rfl rfl rfl (q_fl 5 fld_63_3 rfl rfl rfl) ?_
    refine wa rfl rfl rfl (q_ldl (i := 0) (v := .int .i64 l.tail) rfl rfl Try.isAgg3 rfl rfl) ?_
    refine wa rfl rfl rfl (q_assign (v := .int .i64 l.last) rfl (by kernel_rfl)) ?_
    refine wa rfl rfl rfl (q_assign (v := .int .i64 l.tail) rfl (by kernel_rfl)) ?_
    refine WQ.nil ?_
    change WC _ _ _ _ _ _
    intro w hw; have hw := hw.fold (is := [0]) rfl hrow_13
    refine WC.here (C := CC F Γ3 [rowl, row9, rowdk0]) ?_ hw
    clear hw
    refine WC.cut (fun σ w => ∃ (part_15 : Int), ∃ (tail_17 : Int), m_seglog_Log_Append_j1 l dk0 z1 part_15 tail_17 = some r ∧ slots σ [(0, .pointer (some ⟨gl, 0, none⟩)), (5, .slice A7 z1.1.length c8), (7, .int .i64 part_15), (8, .int .i64 tail_17)] ∧ CC F Γ3 [rowl, row9, rowdk0] w ∧ I64 part_15 ∧ I64 tail_17 ∧ True) ?_ ?_
    · skip
      refine WC.rs ?_
      refine va rfl rfl rfl (q_move (v := .int .i64 l.last) rfl (by kernel_rfl)) ?_
      refine va rfl rfl rfl (q_eql rfl rfl rfl) ?_
      refine va rfl rfl rfl (q_move (v := .bool (l.last == 0)) rfl (by kernel_rfl)) ?_
      refine vg0 rfl rfl rfl rfl rfl (fun hg19 => QV.qo (q_move (v := .int .i64 l.tail) rfl (by kernel_rfl))) ?_
      refine vg0 rfl rfl rfl rfl rfl (fun hg20 => QV.qo (q_gtr rfl (gu hg20 rfl) rfl)) ?_
      refine vg0 rfl rfl rfl rfl rfl (fun hg21 => QV.qo (q_move (v := .bool (decide (0 < l.tail))) rfl (gu hg21 rfl))) ?_
      refine vh1 (c0 := (!(l.last == 0))) (g := (decide (0 < l.tail))) rfl rfl rfl rfl rfl (fun hg22 => QV.qo (q_move (v := .slice A7 z1.1.length c8) rfl (by kernel_rfl))) ?_
      refine vh1 (c0 := (!(l.last == 0))) (g := (decide (0 < l.tail))) rfl rfl rfl rfl rfl (fun hg23 => QV.qo (q_len_slice rfl Try.underlying31 (gu hg23 rfl))) ?_
      refine vh1 (c0 := (!(l.last == 0))) (g := (decide (0 < l.tail))) rfl rfl rfl rfl rfl (fun hg24 => QV.qo (q_move (v := .pointer (some ⟨gl, 0, none⟩)) rfl (by kernel_rfl))) ?_
      refine vh1 (c0 := (!(l.last == 0))) (g := (decide (0 < l.tail))) rfl rfl rfl rfl rfl (fun hg25 => QV.qo (q_nil (A := some ⟨gl, 0, none⟩) rfl (gu hg25 rfl) rfl)) ?_
      refine vh1 (c0 := (!(l.last == 0))) (g := (decide (0 < l.tail))) rfl rfl rfl rfl rfl (fun hg26 => QV.qo (q_fl 3 fld_63_1 rfl (gu hg26 rfl) rfl)) ?_
      have hq := (hl.mono hl4)
      obtain ⟨hrow_28, ho0_28, ho1_28, ho2_28, ho3_28, ho4_28, ho5_28, ho6_28, -⟩ := hq
      intro w hw; have hw := hw.unfold (i := 0) rfl hrow_28
      refine WR.here (C := CC F Γ3 [[(gl, .cells #[.pointer (some ⟨el.2, 0, none⟩), .string l.place_name, .int .i64 l.place_gen, .int .i64 l.size, .int .i64 l.last, .int .i64 l.tail, .int .i64 l.count, .int .i64 l.bytes] el.1 (0, 0))], row9, rowdk0]) ?_ hw
      clear hw
      refine vh1 (c0 := (!(l.last == 0))) (g := (decide (0 < l.tail))) rfl rfl rfl rfl rfl (fun hg29 => QV.qo (q_ldl (i := 0) (v := .int .i64 l.size) rfl rfl Try.isAgg3 (gu hg29 rfl) rfl)) ?_
      refine vh1 (c0 := (!(l.last == 0))) (g := (decide (0 < l.tail))) rfl rfl rfl rfl rfl (fun hg30 => QV.qo (q_move (v := .int .i64 l.tail) rfl (by kernel_rfl))) ?_
      refine vh1 (c0 := (!(l.last == 0))) (g := (decide (0 < l.tail))) rfl rfl rfl rfl rfl (fun hg31 => QV.qo (q_sub rfl (gu hg31 rfl) (gu hg31 rfl))) ?_
      refine vh1 (c0 := (!(l.last == 0))) (g := (decide (0 < l.tail))) rfl rfl rfl rfl rfl (fun hg32 => QV.qo (q_gtr rfl (gu hg32 rfl) (gu hg32 rfl))) ?_
      refine vg0 rfl rfl rfl rfl rfl (fun hg33 => QV.qo (q_pick rfl (gu hg33 rfl) (pk_and (c := (!(l.last == 0))) (g := (decide (0 < l.tail))) (y := (decide ((w64 (l.size - l.tail)) < ((z1.1.length : Nat) : Int)))) hg33))) ?_
      refine va rfl rfl rfl (q_pick rfl rfl (pk_or' (g := (l.last == 0)) (y := ((decide (0 < l.tail)) && (decide ((w64 (l.size - l.tail)) < ((z1.1.length : Nat) : Int))))))) ?_
      refine WR.nil ?_
      change WC _ _ _ _ _ _
      refine WC.cif h (by kernel_rfl) (fun hb34 h => ?_) (fun hb34 h => ?_)
      · skip
        refine WC.region ?_
        refine va rfl rfl rfl (q_move (v := .int .i64 l.last) rfl (by kernel_rfl)) ?_
        refine va rfl rfl rfl (q_add rfl rfl rfl) ?_
        refine va rfl rfl rfl (q_assign (v := .int .i64 (w64 (l.last + 1))) rfl (by kernel_rfl)) ?_
        refine va rfl rfl rfl (q_assign (v := .int .i64 0) rfl (by kernel_rfl)) ?_
        refine WR.nil ?_
        intro w hw
        have hw := hw.fold (is := [0]) rfl hrow_28
        exact ⟨(w64 (l.last + 1)), 0, h, (sl_ (by kernel_rfl)), hw, (w64_r _), (show I64 0 by decide), trivial⟩
      · skip
        refine WC.skip ?_
        intro w hw
        have hw := hw.fold (is := [0]) rfl hrow_28
        exact ⟨l.last, l.tail, h, (sl_ (by kernel_rfl)), hw, ho3_13, ho4_13, trivial⟩
    · skip
      rintro σ w ⟨part_15, tail_17, h, hsl, hw, hr16, hr18, -⟩
      refine Wpt.slots hsl ?_
      refine WC.here (C := CC F Γ3 [rowl, row9, rowdk0]) ?_ hw
      clear hw hsl
      refine WC.seq ?_
      refine WC.rs ?_
      refine va rfl rfl rfl (q_move (v := .int .i64 part_15) rfl (by kernel_rfl)) ?_
      refine va rfl rfl rfl (q_gtr rfl rfl rfl) ?_
      refine WR.nil ?_
      change WC _ _ _ _ _ _
      refine WC.cif h (by kernel_rfl) (fun hb37 h => ?_) (fun hb37 h => ?_)
      · skip
        refine WC.rs ?_
        refine va rfl rfl rfl (q_assign (v := .int .i64 72) rfl (by kernel_rfl)) ?_
        refine WR.nil ?_
        change WC _ _ _ _ _ _
        refine WC.ret ?_
        intro w hw
        obtain rfl := Option.some.inj h
        subst hF
        exact end_e (is := [0, 1]) (by kernel_rfl) hw rfl ⟨rowl, rowdk0, rfl, rfl, (hl.mono hl4), (hdk0.mono hl4), (show I64 72 by decide), trivial⟩
      · skip
        refine WC.skip ?_
        change WC _ _ _ _ _ _
        refine WC.seq ?_
        refine WC.cut (fun σ w => ∃ (f_40 : List UInt8), ∃ (e_45 : Int), ∃ (o47 : Odisk_Disk), ∃ (Γ38 : Gh), ∃ (A41 : Option Addr), ∃ (c42 : Nat), ∃ (row48 : Rowb), m_seglog_Log_Append_j2 l part_15 tail_17 f_40 e_45 o47 = some r ∧ slots σ [(0, .pointer (some ⟨gl, 0, none⟩)), (5, .slice A41 f_40.length c42), (7, .int .i64 part_15), (8, .int .i64 tail_17), (9, .int .i64 e_45)] ∧ CC F Γ38 [rowl, row48] w ∧ Gh.le Γ3 Γ38 ∧ f_40.length ≤ c42 ∧ Sl byteT Γ38 A41 f_40 ∧ I64 e_45 ∧ Odisk_Disk.ob edk0 Γ38 el.2 row48 o47 ∧ True) ?_ ?_
        · skip
          have hc54 := hr10.capz
          intro w hw; obtain ⟨Γ50, hw, hl51, hr52⟩ := hw.seal (i := 1) rfl; have hs53 := hr10.sl hl51 hr52
          refine WC.here (C := CC F Γ50 [rowl, [], rowdk0]) ?_ hw
          clear hw
          intro w hw; have h055 := hw.le
          refine WC.here (C := CC F Γ50 [rowl, [], rowdk0]) ?_ hw; clear hw
          refine WC.held (CC F Γ50 [[]]) (by kernel_rfl) (fun w hw => hw.drawn _) ?_
          change WH _ _ _ _ (CC F Γ50 [rowl, [], rowdk0]) _ 19 #[false, false, false, false, false, false, false, false, false, false, false, false, false, false, false, false, false, false, false] _
          refine ht (i := 0) rfl (by kernel_rfl) rfl rfl rfl (fun w hw => hw.back (Gh.refl _) h055 (.cons _ (.cons_cons _ (.cons _ .slnil)))) (q_move (v := .pointer (some ⟨gl, 0, none⟩)) rfl (by kernel_rfl)) ?_
          refine ht (i := 1) rfl (by kernel_rfl) rfl rfl rfl (fun w hw => hw.back (Gh.refl _) h055 (.cons _ (.cons_cons _ (.cons _ .slnil)))) (q_nil (A := some ⟨gl, 0, none⟩) rfl rfl rfl) ?_
          refine ht (i := 2) rfl (by kernel_rfl) rfl rfl rfl (fun w hw => hw.back (Gh.refl _) h055 (.cons _ (.cons_cons _ (.cons _ .slnil)))) (q_fl 0 fld_63_0 rfl rfl rfl) ?_
          refine ht (i := 3) rfl (by kernel_rfl) rfl rfl rfl (fun w hw => hw.back (Gh.refl _) h055 (.cons _ (.cons_cons _ (.cons _ .slnil)))) (q_fl 0 fld_55_0 rfl rfl rfl) ?_
          refine ht (i := 5) rfl (by kernel_rfl) rfl rfl rfl (fun w hw => hw.back (Gh.refl _) h055 (.cons _ (.cons_cons _ (.cons _ .slnil)))) (q_move (v := .pointer (some ⟨gl, 0, none⟩)) rfl (by kernel_rfl)) ?_
          refine ht (i := 6) rfl (by kernel_rfl) rfl rfl rfl (fun w hw => hw.back (Gh.refl _) h055 (.cons _ (.cons_cons _ (.cons _ .slnil)))) (q_nil (A := some ⟨gl, 0, none⟩) rfl rfl rfl) ?_
          refine ht (i := 7) rfl (by kernel_rfl) rfl rfl rfl (fun w hw => hw.back (Gh.refl _) h055 (.cons _ (.cons_cons _ (.cons _ .slnil)))) (q_fl 0 fld_63_0 rfl rfl rfl) ?_
          refine ht (i := 9) rfl (by kernel_rfl) rfl rfl rfl (fun w hw => hw.back (Gh.refl _) h055 (.cons _ (.cons_cons _ (.cons _ .slnil)))) (q_move (v := .pointer (some ⟨gl, 0, none⟩)) rfl (by kernel_rfl)) ?_
          refine ht (i := 10) rfl (by kernel_rfl) rfl rfl rfl (fun w hw => hw.back (Gh.refl _) h055 (.cons _ (.cons_cons _ (.cons _ .slnil)))) (q_nil (A := some ⟨gl, 0, none⟩) rfl rfl rfl) ?_
          refine ht (i := 11) rfl (by kernel_rfl) rfl rfl rfl (fun w hw => hw.back (Gh.refl _) h055 (.cons _ (.cons_cons _ (.cons _ .slnil)))) (q_fl 0 fld_63_0 rfl rfl rfl) ?_
          refine ht (i := 12) rfl (by kernel_rfl) rfl rfl rfl (fun w hw => hw.back (Gh.refl _) h055 (.cons _ (.cons_cons _ (.cons _ .slnil)))) (q_fl 2 fld_55_2 rfl rfl rfl) ?_
          refine ht (i := 14) rfl (by kernel_rfl) rfl rfl rfl (fun w hw => hw.back (Gh.refl _) h055 (.cons _ (.cons_cons _ (.cons _ .slnil)))) (q_move (v := .int .i64 part_15) rfl (by kernel_rfl)) ?_
          refine ht (i := 16) rfl (by kernel_rfl) rfl rfl rfl (fun w hw => hw.back (Gh.refl _) h055 (.cons _ (.cons_cons _ (.cons _ .slnil)))) (q_move (v := .slice A7 z1.1.length c8) rfl (by kernel_rfl)) ?_
          refine WH.each (l := [4, 8, 13]) (by kernel_rfl) (by simp) ?_
          intro i hi; simp only [List.mem_cons, List.not_mem_nil, or_false] at hi
          rcases hi with rfl | rfl | rfl
          · refine ⟨_, rfl, ?_⟩
            have hq := (hl.mono (hl4.trans hl51))
            obtain ⟨hrow_56, ho0_56, ho1_56, ho2_56, ho3_56, ho4_56, ho5_56, ho6_56, -⟩ := hq
            intro w hw; have hw := hw.unfold (i := 0) rfl hrow_56
            refine WR.here (C := CC F Γ50 [[(gl, .cells #[.pointer (some ⟨el.2, 0, none⟩), .string l.place_name, .int .i64 l.place_gen, .int .i64 l.size, .int .i64 l.last, .int .i64 l.tail, .int .i64 l.count, .int .i64 l.bytes] el.1 (0, 0))], [], rowdk0]) ?_ hw
            clear hw
            refine va rfl rfl rfl (q_ldl (i := 0) (v := .pointer (some ⟨el.2, 0, none⟩)) rfl rfl Try.isAgg24 rfl rfl) ?_
            refine WR.nil ?_
            refine WH.next (fun w hw => hw.back (Gh.refl _) h055 (.cons _ (.cons_cons _ (.cons _ .slnil)))) ?_
            refine WH.each (l := [8, 13]) (by kernel_rfl) (by simp) ?_
            intro i hi; simp only [List.mem_cons, List.not_mem_nil, or_false] at hi
            rcases hi with rfl | rfl
            · refine ⟨_, rfl, ?_⟩
              refine va rfl rfl rfl (q_ldla (i := 0) (vs := [.pointer (some ⟨el.2, 0, none⟩), .string l.place_name, .int .i64 l.place_gen]) rfl rfl Try.isAgg55 Try.sizeOf55 rfl rfl) ?_
              refine WR.nil ?_
              refine WH.next (fun w hw => hw.back (Gh.refl _) h055 (.cons _ (.cons_cons _ (.cons _ .slnil)))) ?_
              refine WH.lone (i := 13) (by kernel_rfl) rfl ?_
              refine va rfl rfl rfl (q_ldl (i := 0) (v := .int .i64 l.place_gen) rfl rfl Try.isAgg2 rfl rfl) ?_
              refine WR.nil ?_
              refine WH.next (fun w hw => hw.back (Gh.refl _) h055 (.cons _ (.cons_cons _ (.cons _ .slnil)))) ?_
              refine WH.lone (i := 15) (by kernel_rfl) rfl ?_
              obtain ⟨z57, hz58, h⟩ := bnd h
              refine vc rfl rfl rfl (q_call (call_run Try.call35 rfl rfl (by kernel_rfl)) (fun w hw => t_seglog_place_file (Γ := Gh.all w) (gp__0 := el.2) l.place_name ho0_56 l.place_gen ho1_56 l.place_gen ho1_56 part_15 hr16 (Sat.all w) hz58)) ?_
              refine WR.nil ?_
              refine WH.next (fun w hw => hw.back (Gh.refl _) h055 (.cons _ (.cons_cons _ (.cons _ .slnil)))) ?_
              refine WH.lone (i := 17) (by kernel_rfl) rfl ?_
              obtain ⟨hk59, h⟩ := chk_some h
              obtain ⟨z60, hz61, h⟩ := bnd h
              refine e_call (is := [2]) rfl rfl (call_run Try.call15 rfl rfl (by kernel_rfl)) rfl (fun w hp => t_disk_Disk_Append (hdk0.mono (hl4.trans hl51)) z57 (of_decide_eq_true hk59) hs53 hc54 hp hz61) ?_
              rintro Γ62 U64 v65 hl63 ⟨row66, rfl, rfl, hr67, hr68, _⟩
              change WR _ _ _ (CC F Γ62 [row66, [(gl, .cells #[.pointer (some ⟨el.2, 0, none⟩), .string l.place_name, .int .i64 l.place_gen, .int .i64 l.size, .int .i64 l.last, .int .i64 l.tail, .int .i64 l.count, .int .i64 l.bytes] el.1 (0, 0))], []]) _ _ (upd _ 64 (.int .i64 z60.2))
              refine WR.nil ?_
              refine WH.next (fun w hw => hw.back hl63 h055 (.cons _ (.cons _ (.cons_cons _ .slnil)))) ?_
              refine ht (i := 18) rfl (by kernel_rfl) rfl rfl rfl (fun w hw => hw.back hl63 h055 (.cons _ (.cons _ (.cons_cons _ .slnil)))) (q_assign (v := .int .i64 z60.2) rfl (by kernel_rfl)) ?_
              refine WH.done (by kernel_rfl) ?_
              intro w hw
              have hw := hw.fold (is := [1]) rfl hrow_56
              exact ⟨z1.1, z60.2, z60.1, Γ62, A7, c8, row66, h, (sl_ (by kernel_rfl)), (hw.only (is := [0, 0]) rfl), (hl51.trans hl63), hc54, (hs53.mono hl63), hr68, hr67, trivial⟩
            · refine ⟨_, rfl, ?_⟩
              refine va rfl rfl rfl (q_ldl (i := 0) (v := .int .i64 l.place_gen) rfl rfl Try.isAgg2 rfl rfl) ?_
              refine WR.nil ?_
              refine WH.next (fun w hw => hw.back (Gh.refl _) h055 (.cons _ (.cons_cons _ (.cons _ .slnil)))) ?_
              refine WH.lone (i := 8) (by kernel_rfl) rfl ?_
              refine va rfl rfl rfl (q_ldla (i := 0) (vs := [.pointer (some ⟨el.2, 0, none⟩), .string l.place_name, .int .i64 l.place_gen]) rfl rfl Try.isAgg55 Try.sizeOf55 rfl rfl) ?_
              refine WR.nil ?_
              refine WH.next (fun w hw => hw.back (Gh.refl _) h055 (.cons _ (.cons_cons _ (.cons _ .slnil)))) ?_
              refine WH.lone (i := 15) (by kernel_rfl) rfl ?_
              obtain ⟨z57, hz58, h⟩ := bnd h
              refine vc rfl rfl rfl (q_call (call_run Try.call35 rfl rfl (by kernel_rfl)) (fun w hw => t_seglog_place_file (Γ := Gh.all w) (gp__0 := el.2) l.place_name ho0_56 l.place_gen ho1_56 l.place_gen ho1_56 part_15 hr16 (Sat.all w) hz58)) ?_
              refine WR.nil ?_
              refine WH.next (fun w hw => hw.back (Gh.refl _) h055 (.cons _ (.cons_cons _ (.cons _ .slnil)))) ?_
              refine WH.lone (i := 17) (by kernel_rfl) rfl ?_
              obtain ⟨hk59, h⟩ := chk_some h
              obtain ⟨z60, hz61, h⟩ := bnd h
              refine e_call (is := [2]) rfl rfl (call_run Try.call15 rfl rfl (by kernel_rfl)) rfl (fun w hp => t_disk_Disk_Append (hdk0.mono (hl4.trans hl51)) z57 (of_decide_eq_true hk59) hs53 hc54 hp hz61) ?_
              rintro Γ62 U64 v65 hl63 ⟨row66, rfl, rfl, hr67, hr68, _⟩
              change WR _ _ _ (CC F Γ62 [row66, [(gl, .cells #[.pointer (some ⟨el.2, 0, none⟩), .string l.place_name, .int .i64 l.place_gen, .int .i64 l.size, .int .i64 l.last, .int .i64 l.tail, .int .i64 l.count, .int .i64 l.bytes] el.1 (0, 0))], []]) _ _ (upd _ 64 (.int .i64 z60.2))
              refine WR.nil ?_
              refine WH.next (fun w hw => hw.back hl63 h055 (.cons _ (.cons _ (.cons_cons _ .slnil)))) ?_
              refine ht (i := 18) rfl (by kernel_rfl) rfl rfl rfl (fun w hw => hw.back hl63 h055 (.cons _ (.cons _ (.cons_cons _ .slnil)))) (q_assign (v := .int .i64 z60.2) rfl (by kernel_rfl)) ?_
              refine WH.done (by kernel_rfl) ?_
              intro w hw
              have hw := hw.fold (is := [1]) rfl hrow_56
              exact ⟨z1.1, z60.2, z60.1, Γ62, A7, c8, row66, h, (sl_ (by kernel_rfl)), (hw.only (is := [0, 0]) rfl), (hl51.trans hl63), hc54, (hs53.mono hl63), hr68, hr67, trivial⟩
          · refine ⟨_, rfl, ?_⟩
            have hq := (hl.mono (hl4.trans hl51))
            obtain ⟨hrow_56, ho0_56, ho1_56, ho2_56, ho3_56, ho4_56, ho5_56, ho6_56, -⟩ := hq
            intro w hw; have hw := hw.unfold (i := 0) rfl hrow_56
            refine WR.here (C := CC F Γ50 [[(gl, .cells #[.pointer (some ⟨el.2, 0, none⟩), .string l.place_name, .int .i64 l.place_gen, .int .i64 l.size, .int .i64 l.last, .int .i64 l.tail, .int .i64 l.count, .int .i64 l.bytes] el.1 (0, 0))], [], rowdk0]) ?_ hw
            clear hw
            refine va rfl rfl rfl (q_ldla (i := 0) (vs := [.pointer (some ⟨el.2, 0, none⟩), .string l.place_name, .int .i64 l.place_gen]) rfl rfl Try.isAgg55 Try.sizeOf55 rfl rfl) ?_
            refine WR.nil ?_
            refine WH.next (fun w hw => hw.back (Gh.refl _) h055 (.cons _ (.cons_cons _ (.cons _ .slnil)))) ?_
            refine WH.each (l := [4, 13]) (by kernel_rfl) (by simp) ?_
            intro i hi; simp only [List.mem_cons, List.not_mem_nil, or_false] at hi
            rcases hi with rfl | rfl
            · refine ⟨_, rfl, ?_⟩
              refine va rfl rfl rfl (q_ldl (i := 0) (v := .pointer (some ⟨el.2, 0, none⟩)) rfl rfl Try.isAgg24 rfl rfl) ?_
              refine WR.nil ?_
              refine WH.next (fun w hw => hw.back (Gh.refl _) h055 (.cons _ (.cons_cons _ (.cons _ .slnil)))) ?_
              refine WH.lone (i := 13) (by kernel_rfl) rfl ?_
              refine va rfl rfl rfl (q_ldl (i := 0) (v := .int .i64 l.place_gen) rfl rfl Try.isAgg2 rfl rfl) ?_
              refine WR.nil ?_
              refine WH.next (fun w hw => hw.back (Gh.refl _) h055 (.cons _ (.cons_cons _ (.cons _ .slnil)))) ?_
              refine WH.lone (i := 15) (by kernel_rfl) rfl ?_
              obtain ⟨z57, hz58, h⟩ := bnd h
              refine vc rfl rfl rfl (q_call (call_run Try.call35 rfl rfl (by kernel_rfl)) (fun w hw => t_seglog_place_file (Γ := Gh.all w) (gp__0 := el.2) l.place_name ho0_56 l.place_gen ho1_56 l.place_gen ho1_56 part_15 hr16 (Sat.all w) hz58)) ?_
              refine WR.nil ?_
              refine WH.next (fun w hw => hw.back (Gh.refl _) h055 (.cons _ (.cons_cons _ (.cons _ .slnil)))) ?_
              refine WH.lone (i := 17) (by kernel_rfl) rfl ?_
              obtain ⟨hk59, h⟩ := chk_some h
              obtain ⟨z60, hz61, h⟩ := bnd h
              refine e_call (is := [2]) rfl rfl (call_run Try.call15 rfl rfl (by kernel_rfl)) rfl (fun w hp => t_disk_Disk_Append (hdk0.mono (hl4.trans hl51)) z57 (of_decide_eq_true hk59) hs53 hc54 hp hz61) ?_
              rintro Γ62 U64 v65 hl63 ⟨row66, rfl, rfl, hr67, hr68, _⟩
              change WR _ _ _ (CC F Γ62 [row66, [(gl, .cells #[.pointer (some ⟨el.2, 0, none⟩), .string l.place_name, .int .i64 l.place_gen, .int .i64 l.size, .int .i64 l.last, .int .i64 l.tail, .int .i64 l.count, .int .i64 l.bytes] el.1 (0, 0))], []]) _ _ (upd _ 64 (.int .i64 z60.2))
              refine WR.nil ?_
              refine WH.next (fun w hw => hw.back hl63 h055 (.cons _ (.cons _ (.cons_cons _ .slnil)))) ?_
              refine ht (i := 18) rfl (by kernel_rfl) rfl rfl rfl (fun w hw => hw.back hl63 h055 (.cons _ (.cons _ (.cons_cons _ .slnil)))) (q_assign (v := .int .i64 z60.2) rfl (by kernel_rfl)) ?_
              refine WH.done (by kernel_rfl) ?_
              intro w hw
              have hw := hw.fold (is := [1]) rfl hrow_56
              exact ⟨z1.1, z60.2, z60.1, Γ62, A7, c8, row66, h, (sl_ (by kernel_rfl)), (hw.only (is := [0, 0]) rfl), (hl51.trans hl63), hc54, (hs53.mono hl63), hr68, hr67, trivial⟩
            · refine ⟨_, rfl, ?_⟩
              refine va rfl rfl rfl (q_ldl (i := 0) (v := .int .i64 l.place_gen) rfl rfl Try.isAgg2 rfl rfl) ?_
              refine WR.nil ?_
              refine WH.next (fun w hw => hw.back (Gh.refl _) h055 (.cons _ (.cons_cons _ (.cons _ .slnil)))) ?_
              obtain ⟨z57, hz58, h⟩ := bnd h
              refine WH.each (l := [4, 15]) (by kernel_rfl) (by simp) ?_
              intro i hi; simp only [List.mem_cons, List.not_mem_nil, or_false] at hi
              rcases hi with rfl | rfl
              · refine ⟨_, rfl, ?_⟩
                refine va rfl rfl rfl (q_ldl (i := 0) (v := .pointer (some ⟨el.2, 0, none⟩)) rfl rfl Try.isAgg24 rfl rfl) ?_
                refine WR.nil ?_
                refine WH.next (fun w hw => hw.back (Gh.refl _) h055 (.cons _ (.cons_cons _ (.cons _ .slnil)))) ?_
                refine WH.lone (i := 15) (by kernel_rfl) rfl ?_
                refine vc rfl rfl rfl (q_call (call_run Try.call35 rfl rfl (by kernel_rfl)) (fun w hw => t_seglog_place_file (Γ := Gh.all w) (gp__0 := el.2) l.place_name ho0_56 l.place_gen ho1_56 l.place_gen ho1_56 part_15 hr16 (Sat.all w) hz58)) ?_
                refine WR.nil ?_
                refine WH.next (fun w hw => hw.back (Gh.refl _) h055 (.cons _ (.cons_cons _ (.cons _ .slnil)))) ?_
                refine WH.lone (i := 17) (by kernel_rfl) rfl ?_
                obtain ⟨hk59, h⟩ := chk_some h
                obtain ⟨z60, hz61, h⟩ := bnd h
                refine e_call (is := [2]) rfl rfl (call_run Try.call15 rfl rfl (by kernel_rfl)) rfl (fun w hp => t_disk_Disk_Append (hdk0.mono (hl4.trans hl51)) z57 (of_decide_eq_true hk59) hs53 hc54 hp hz61) ?_
                rintro Γ62 U64 v65 hl63 ⟨row66, rfl, rfl, hr67, hr68, _⟩
                change WR _ _ _ (CC F Γ62 [row66, [(gl, .cells #[.pointer (some ⟨el.2, 0, none⟩), .string l.place_name, .int .i64 l.place_gen, .int .i64 l.size, .int .i64 l.last, .int .i64 l.tail, .int .i64 l.count, .int .i64 l.bytes] el.1 (0, 0))], []]) _ _ (upd _ 64 (.int .i64 z60.2))
                refine WR.nil ?_
                refine WH.next (fun w hw => hw.back hl63 h055 (.cons _ (.cons _ (.cons_cons _ .slnil)))) ?_
                refine ht (i := 18) rfl (by kernel_rfl) rfl rfl rfl (fun w hw => hw.back hl63 h055 (.cons _ (.cons _ (.cons_cons _ .slnil)))) (q_assign (v := .int .i64 z60.2) rfl (by kernel_rfl)) ?_
                refine WH.done (by kernel_rfl) ?_
                intro w hw
                have hw := hw.fold (is := [1]) rfl hrow_56
                exact ⟨z1.1, z60.2, z60.1, Γ62, A7, c8, row66, h, (sl_ (by kernel_rfl)), (hw.only (is := [0, 0]) rfl), (hl51.trans hl63), hc54, (hs53.mono hl63), hr68, hr67, trivial⟩
              · refine ⟨_, rfl, ?_⟩
                refine vc rfl rfl rfl (q_call (call_run Try.call35 rfl rfl (by kernel_rfl)) (fun w hw => t_seglog_place_file (Γ := Gh.all w) (gp__0 := el.2) l.place_name ho0_56 l.place_gen ho1_56 l.place_gen ho1_56 part_15 hr16 (Sat.all w) hz58)) ?_
                refine WR.nil ?_
                refine WH.next (fun w hw => hw.back (Gh.refl _) h055 (.cons _ (.cons_cons _ (.cons _ .slnil)))) ?_
                refine WH.lone (i := 4) (by kernel_rfl) rfl ?_
                refine va rfl rfl rfl (q_ldl (i := 0) (v := .pointer (some ⟨el.2, 0, none⟩)) rfl rfl Try.isAgg24 rfl rfl) ?_
                refine WR.nil ?_
                refine WH.next (fun w hw => hw.back (Gh.refl _) h055 (.cons _ (.cons_cons _ (.cons _ .slnil)))) ?_
                refine WH.lone (i := 17) (by kernel_rfl) rfl ?_
                obtain ⟨hk59, h⟩ := chk_some h
                obtain ⟨z60, hz61, h⟩ := bnd h
                refine e_call (is := [2]) rfl rfl (call_run Try.call15 rfl rfl (by kernel_rfl)) rfl (fun w hp => t_disk_Disk_Append (hdk0.mono (hl4.trans hl51)) z57 (of_decide_eq_true hk59) hs53 hc54 hp hz61) ?_
                rintro Γ62 U64 v65 hl63 ⟨row66, rfl, rfl, hr67, hr68, _⟩
                change WR _ _ _ (CC F Γ62 [row66, [(gl, .cells #[.pointer (some ⟨el.2, 0, none⟩), .string l.place_name, .int .i64 l.place_gen, .int .i64 l.size, .int .i64 l.last, .int .i64 l.tail, .int .i64 l.count, .int .i64 l.bytes] el.1 (0, 0))], []]) _ _ (upd _ 64 (.int .i64 z60.2))
                refine WR.nil ?_
                refine WH.next (fun w hw => hw.back hl63 h055 (.cons _ (.cons _ (.cons_cons _ .slnil)))) ?_
                refine ht (i := 18) rfl (by kernel_rfl) rfl rfl rfl (fun w hw => hw.back hl63 h055 (.cons _ (.cons _ (.cons_cons _ .slnil)))) (q_assign (v := .int .i64 z60.2) rfl (by kernel_rfl)) ?_
                refine WH.done (by kernel_rfl) ?_
                intro w hw
                have hw := hw.fold (is := [1]) rfl hrow_56
                exact ⟨z1.1, z60.2, z60.1, Γ62, A7, c8, row66, h, (sl_ (by kernel_rfl)), (hw.only (is := [0, 0]) rfl), (hl51.trans hl63), hc54, (hs53.mono hl63), hr68, hr67, trivial⟩
          · refine ⟨_, rfl, ?_⟩
            have hq := (hl.mono (hl4.trans hl51))
            obtain ⟨hrow_56, ho0_56, ho1_56, ho2_56, ho3_56, ho4_56, ho5_56, ho6_56, -⟩ := hq
            intro w hw; have hw := hw.unfold (i := 0) rfl hrow_56
            refine WR.here (C := CC F Γ50 [[(gl, .cells #[.pointer (some ⟨el.2, 0, none⟩), .string l.place_name, .int .i64 l.place_gen, .int .i64 l.size, .int .i64 l.last, .int .i64 l.tail, .int .i64 l.count, .int .i64 l.bytes] el.1 (0, 0))], [], rowdk0]) ?_ hw
            clear hw
            refine va rfl rfl rfl (q_ldl (i := 0) (v := .int .i64 l.place_gen) rfl rfl Try.isAgg2 rfl rfl) ?_
            refine WR.nil ?_
            refine WH.next (fun w hw => hw.back (Gh.refl _) h055 (.cons _ (.cons_cons _ (.cons _ .slnil)))) ?_
            refine WH.each (l := [4, 8]) (by kernel_rfl) (by simp) ?_
            intro i hi; simp only [List.mem_cons, List.not_mem_nil, or_false] at hi
            rcases hi with rfl | rfl
            · refine ⟨_, rfl, ?_⟩
              refine va rfl rfl rfl (q_ldl (i := 0) (v := .pointer (some ⟨el.2, 0, none⟩)) rfl rfl Try.isAgg24 rfl rfl) ?_
              refine WR.nil ?_
              refine WH.next (fun w hw => hw.back (Gh.refl _) h055 (.cons _ (.cons_cons _ (.cons _ .slnil)))) ?_
              refine WH.lone (i := 8) (by kernel_rfl) rfl ?_
              refine va rfl rfl rfl (q_ldla (i := 0) (vs := [.pointer (some ⟨el.2, 0, none⟩), .string l.place_name, .int .i64 l.place_gen]) rfl rfl Try.isAgg55 Try.sizeOf55 rfl rfl) ?_
              refine WR.nil ?_
              refine WH.next (fun w hw => hw.back (Gh.refl _) h055 (.cons _ (.cons_cons _ (.cons _ .slnil)))) ?_
              refine WH.lone (i := 15) (by kernel_rfl) rfl ?_
              obtain ⟨z57, hz58, h⟩ := bnd h
              refine vc rfl rfl rfl (q_call (call_run Try.call35 rfl rfl (by kernel_rfl)) (fun w hw => t_seglog_place_file (Γ := Gh.all w) (gp__0 := el.2) l.place_name ho0_56 l.place_gen ho1_56 l.place_gen ho1_56 part_15 hr16 (Sat.all w) hz58)) ?_
              refine WR.nil ?_
              refine WH.next (fun w hw => hw.back (Gh.refl _) h055 (.cons _ (.cons_cons _ (.cons _ .slnil)))) ?_
              refine WH.lone (i := 17) (by kernel_rfl) rfl ?_
              obtain ⟨hk59, h⟩ := chk_some h
              obtain ⟨z60, hz61, h⟩ := bnd h
              refine e_call (is := [2]) rfl rfl (call_run Try.call15 rfl rfl (by kernel_rfl)) rfl (fun w hp => t_disk_Disk_Append (hdk0.mono (hl4.trans hl51)) z57 (of_decide_eq_true hk59) hs53 hc54 hp hz61) ?_
              rintro Γ62 U64 v65 hl63 ⟨row66, rfl, rfl, hr67, hr68, _⟩
              change WR _ _ _ (CC F Γ62 [row66, [(gl, .cells #[.pointer (some ⟨el.2, 0, none⟩), .string l.place_name, .int .i64 l.place_gen, .int .i64 l.size, .int .i64 l.last, .int .i64 l.tail, .int .i64 l.count, .int .i64 l.bytes] el.1 (0, 0))], []]) _ _ (upd _ 64 (.int .i64 z60.2))
              refine WR.nil ?_
              refine WH.next (fun w hw => hw.back hl63 h055 (.cons _ (.cons _ (.cons_cons _ .slnil)))) ?_
              refine ht (i := 18) rfl (by kernel_rfl) rfl rfl rfl (fun w hw => hw.back hl63 h055 (.cons _ (.cons _ (.cons_cons _ .slnil)))) (q_assign (v := .int .i64 z60.2) rfl (by kernel_rfl)) ?_
              refine WH.done (by kernel_rfl) ?_
              intro w hw
              have hw := hw.fold (is := [1]) rfl hrow_56
              exact ⟨z1.1, z60.2, z60.1, Γ62, A7, c8, row66, h, (sl_ (by kernel_rfl)), (hw.only (is := [0, 0]) rfl), (hl51.trans hl63), hc54, (hs53.mono hl63), hr68, hr67, trivial⟩
            · refine ⟨_, rfl, ?_⟩
              refine va rfl rfl rfl (q_ldla (i := 0) (vs := [.pointer (some ⟨el.2, 0, none⟩), .string l.place_name, .int .i64 l.place_gen]) rfl rfl Try.isAgg55 Try.sizeOf55 rfl rfl) ?_
              refine WR.nil ?_
              refine WH.next (fun w hw => hw.back (Gh.refl _) h055 (.cons _ (.cons_cons _ (.cons _ .slnil)))) ?_
              obtain ⟨z57, hz58, h⟩ := bnd h
              refine WH.each (l := [4, 15]) (by kernel_rfl) (by simp) ?_
              intro i hi; simp only [List.mem_cons, List.not_mem_nil, or_false] at hi
              rcases hi with rfl | rfl
              · refine ⟨_, rfl, ?_⟩
                refine va rfl rfl rfl (q_ldl (i := 0) (v := .pointer (some ⟨el.2, 0, none⟩)) rfl rfl Try.isAgg24 rfl rfl) ?_
                refine WR.nil ?_
                refine WH.next (fun w hw => hw.back (Gh.refl _) h055 (.cons _ (.cons_cons _ (.cons _ .slnil)))) ?_
                refine WH.lone (i := 15) (by kernel_rfl) rfl ?_
                refine vc rfl rfl rfl (q_call (call_run Try.call35 rfl rfl (by kernel_rfl)) (fun w hw => t_seglog_place_file (Γ := Gh.all w) (gp__0 := el.2) l.place_name ho0_56 l.place_gen ho1_56 l.place_gen ho1_56 part_15 hr16 (Sat.all w) hz58)) ?_
                refine WR.nil ?_
                refine WH.next (fun w hw => hw.back (Gh.refl _) h055 (.cons _ (.cons_cons _ (.cons _ .slnil)))) ?_
                refine WH.lone (i := 17) (by kernel_rfl) rfl ?_
                obtain ⟨hk59, h⟩ := chk_some h
                obtain ⟨z60, hz61, h⟩ := bnd h
                refine e_call (is := [2]) rfl rfl (call_run Try.call15 rfl rfl (by kernel_rfl)) rfl (fun w hp => t_disk_Disk_Append (hdk0.mono (hl4.trans hl51)) z57 (of_decide_eq_true hk59) hs53 hc54 hp hz61) ?_
                rintro Γ62 U64 v65 hl63 ⟨row66, rfl, rfl, hr67, hr68, _⟩
                change WR _ _ _ (CC F Γ62 [row66, [(gl, .cells #[.pointer (some ⟨el.2, 0, none⟩), .string l.place_name, .int .i64 l.place_gen, .int .i64 l.size, .int .i64 l.last, .int .i64 l.tail, .int .i64 l.count, .int .i64 l.bytes] el.1 (0, 0))], []]) _ _ (upd _ 64 (.int .i64 z60.2))
                refine WR.nil ?_
                refine WH.next (fun w hw => hw.back hl63 h055 (.cons _ (.cons _ (.cons_cons _ .slnil)))) ?_
                refine ht (i := 18) rfl (by kernel_rfl) rfl rfl rfl (fun w hw => hw.back hl63 h055 (.cons _ (.cons _ (.cons_cons _ .slnil)))) (q_assign (v := .int .i64 z60.2) rfl (by kernel_rfl)) ?_
                refine WH.done (by kernel_rfl) ?_
                intro w hw
                have hw := hw.fold (is := [1]) rfl hrow_56
                exact ⟨z1.1, z60.2, z60.1, Γ62, A7, c8, row66, h, (sl_ (by kernel_rfl)), (hw.only (is := [0, 0]) rfl), (hl51.trans hl63), hc54, (hs53.mono hl63), hr68, hr67, trivial⟩
              · refine ⟨_, rfl, ?_⟩
                refine vc rfl rfl rfl (q_call (call_run Try.call35 rfl rfl (by kernel_rfl)) (fun w hw => t_seglog_place_file (Γ := Gh.all w) (gp__0 := el.2) l.place_name ho0_56 l.place_gen ho1_56 l.place_gen ho1_56 part_15 hr16 (Sat.all w) hz58)) ?_
                refine WR.nil ?_
                refine WH.next (fun w hw => hw.back (Gh.refl _) h055 (.cons _ (.cons_cons _ (.cons _ .slnil)))) ?_
                refine WH.lone (i := 4) (by kernel_rfl) rfl ?_
                refine va rfl rfl rfl (q_ldl (i := 0) (v := .pointer (some ⟨el.2, 0, none⟩)) rfl rfl Try.isAgg24 rfl rfl) ?_
                refine WR.nil ?_
                refine WH.next (fun w hw => hw.back (Gh.refl _) h055 (.cons _ (.cons_cons _ (.cons _ .slnil)))) ?_
                refine WH.lone (i := 17) (by kernel_rfl) rfl ?_
                obtain ⟨hk59, h⟩ := chk_some h
                obtain ⟨z60, hz61, h⟩ := bnd h
                refine e_call (is := [2]) rfl rfl (call_run Try.call15 rfl rfl (by kernel_rfl)) rfl (fun w hp => t_disk_Disk_Append (hdk0.mono (hl4.trans hl51)) z57 (of_decide_eq_true hk59) hs53 hc54 hp hz61) ?_
                rintro Γ62 U64 v65 hl63 ⟨row66, rfl, rfl, hr67, hr68, _⟩
                change WR _ _ _ (CC F Γ62 [row66, [(gl, .cells #[.pointer (some ⟨el.2, 0, none⟩), .string l.place_name, .int .i64 l.place_gen, .int .i64 l.size, .int .i64 l.last, .int .i64 l.tail, .int .i64 l.count, .int .i64 l.bytes] el.1 (0, 0))], []]) _ _ (upd _ 64 (.int .i64 z60.2))
                refine WR.nil ?_
                refine WH.next (fun w hw => hw.back hl63 h055 (.cons _ (.cons _ (.cons_cons _ .slnil)))) ?_
                refine ht (i := 18) rfl (by kernel_rfl) rfl rfl rfl (fun w hw => hw.back hl63 h055 (.cons _ (.cons _ (.cons_cons _ .slnil)))) (q_assign (v := .int .i64 z60.2) rfl (by kernel_rfl)) ?_
                refine WH.done (by kernel_rfl) ?_
                intro w hw
                have hw := hw.fold (is := [1]) rfl hrow_56
                exact ⟨z1.1, z60.2, z60.1, Γ62, A7, c8, row66, h, (sl_ (by kernel_rfl)), (hw.only (is := [0, 0]) rfl), (hl51.trans hl63), hc54, (hs53.mono hl63), hr68, hr67, trivial⟩
        · skip
          rintro σ w ⟨f_40, e_45, o47, Γ38, A41, c42, row48, h, hsl, hw, hl39, hc44, hs43, hr46, ho49, -⟩
          refine Wpt.slots hsl ?_
          refine WC.here (C := CC F Γ38 [rowl, row48]) ?_ hw
          clear hw hsl
          refine WC.rs ?_
          refine va rfl rfl rfl (q_move (v := .int .i64 e_45) rfl (by kernel_rfl)) ?_
          refine va rfl rfl rfl (q_neq rfl rfl rfl) ?_
          refine WR.nil ?_
          change WC _ _ _ _ _ _
          refine WC.cif h (by kernel_rfl) (fun hb70 h => ?_) (fun hb70 h => ?_)
          · skip
            refine WC.rs ?_
            refine va rfl rfl rfl (q_move (v := .int .i64 e_45) rfl (by kernel_rfl)) ?_
            refine va rfl rfl rfl (q_assign (v := .int .i64 e_45) rfl (by kernel_rfl)) ?_
            refine WR.nil ?_
            change WC _ _ _ _ _ _
            refine WC.ret ?_
            intro w hw
            obtain rfl := Option.some.inj h
            subst hF
            exact end_e (is := [0, 0]) (by kernel_rfl) hw rfl ⟨rowl, row48, rfl, rfl, (hl.mono (hl4.trans hl39)), ho49, hr46, trivial⟩
          · skip
            refine WC.skip ?_
            change WC _ _ _ _ _ _
            refine WC.rs ?_
            refine va rfl rfl rfl (q_move (v := .pointer (some ⟨gl, 0, none⟩)) rfl (by kernel_rfl)) ?_
            refine va rfl rfl rfl (q_move (v := .pointer (some ⟨gl, 0, none⟩)) rfl (by kernel_rfl)) ?_
            refine va rfl rfl rfl (q_move (v := .int .i64 part_15) rfl (by kernel_rfl)) ?_
            refine va rfl rfl rfl (q_move (v := .int .i64 tail_17) rfl (by kernel_rfl)) ?_
            refine va rfl rfl rfl (q_move (v := .slice A41 f_40.length c42) rfl (by kernel_rfl)) ?_
            refine va rfl rfl rfl (q_len_slice rfl Try.underlying31 rfl) ?_
            refine va rfl rfl rfl (q_add rfl rfl rfl) ?_
            refine va rfl rfl rfl (q_nil (A := some ⟨gl, 0, none⟩) rfl rfl rfl) ?_
            refine va rfl rfl rfl (q_fl 4 fld_63_2 rfl rfl rfl) ?_
            have hq := (hl.mono (hl4.trans hl39))
            obtain ⟨hrow_71, ho0_71, ho1_71, ho2_71, ho3_71, ho4_71, ho5_71, ho6_71, -⟩ := hq
            intro w hw; have hw := hw.unfold (i := 0) rfl hrow_71
            refine WR.here (C := CC F Γ38 [[(gl, .cells #[.pointer (some ⟨el.2, 0, none⟩), .string l.place_name, .int .i64 l.place_gen, .int .i64 l.size, .int .i64 l.last, .int .i64 l.tail, .int .i64 l.count, .int .i64 l.bytes] el.1 (0, 0))], row48]) ?_ hw
            clear hw
            refine e_st (i := 0) (v := .int .i64 part_15) (new := #[.pointer (some ⟨el.2, 0, none⟩), .string l.place_name, .int .i64 l.place_gen, .int .i64 l.size, .int .i64 part_15, .int .i64 l.tail, .int .i64 l.count, .int .i64 l.bytes]) rfl Try.sizeOf2 rfl rfl rfl rfl (by kernel_rfl) rfl rfl rfl rfl ?_
            refine va rfl rfl rfl (q_nil (A := some ⟨gl, 0, none⟩) rfl rfl rfl) ?_
            refine va rfl rfl rfl (q_fl 5 fld_63_3 rfl rfl rfl) ?_
            refine e_st (i := 0) (v := .int .i64 (w64 (tail_17 + ((f_40.length : Nat) : Int)))) (new := #[.pointer (some ⟨el.2, 0, none⟩), .string l.place_name, .int .i64 l.place_gen, .int .i64 l.size, .int .i64 part_15, .int .i64 (w64 (tail_17 + ((f_40.length : Nat) : Int))), .int .i64 l.count, .int .i64 l.bytes]) rfl Try.sizeOf3 rfl rfl rfl rfl (by kernel_rfl) rfl rfl rfl rfl ?_
            refine WR.nil ?_
            change WC _ _ _ _ _ _
            refine WC.rs ?_
            refine va rfl rfl rfl (q_move (v := .pointer (some ⟨gl, 0, none⟩)) rfl (by kernel_rfl)) ?_
            refine va rfl rfl rfl (q_nil (A := some ⟨gl, 0, none⟩) rfl rfl rfl) ?_
            refine va rfl rfl rfl (q_fl 6 fld_63_4 rfl rfl rfl) ?_
            refine va rfl rfl rfl (q_ldl (i := 0) (v := .int .i64 l.count) rfl rfl Try.isAgg3 rfl rfl) ?_
            refine va rfl rfl rfl (q_add rfl rfl rfl) ?_
            refine va rfl rfl rfl (q_nil (A := some ⟨gl, 0, none⟩) rfl rfl rfl) ?_
            refine va rfl rfl rfl (q_fl 6 fld_63_4 rfl rfl rfl) ?_
            refine e_st (i := 0) (v := .int .i64 (w64 (l.count + 1))) (new := #[.pointer (some ⟨el.2, 0, none⟩), .string l.place_name, .int .i64 l.place_gen, .int .i64 l.size, .int .i64 part_15, .int .i64 (w64 (tail_17 + ((f_40.length : Nat) : Int))), .int .i64 (w64 (l.count + 1)), .int .i64 l.bytes]) rfl Try.sizeOf3 rfl rfl rfl rfl (by kernel_rfl) rfl rfl rfl rfl ?_
            refine WR.nil ?_
            change WC _ _ _ _ _ _
            refine WC.rs ?_
            refine va rfl rfl rfl (q_move (v := .pointer (some ⟨gl, 0, none⟩)) rfl (by kernel_rfl)) ?_
            refine va rfl rfl rfl (q_nil (A := some ⟨gl, 0, none⟩) rfl rfl rfl) ?_
            refine va rfl rfl rfl (q_fl 7 fld_63_5 rfl rfl rfl) ?_
            refine va rfl rfl rfl (q_ldl (i := 0) (v := .int .i64 l.bytes) rfl rfl Try.isAgg3 rfl rfl) ?_
            refine va rfl rfl rfl (q_move (v := .slice A41 f_40.length c42) rfl (by kernel_rfl)) ?_
            refine va rfl rfl rfl (q_len_slice rfl Try.underlying31 rfl) ?_
            refine va rfl rfl rfl (q_add rfl rfl rfl) ?_
            refine va rfl rfl rfl (q_nil (A := some ⟨gl, 0, none⟩) rfl rfl rfl) ?_
            refine va rfl rfl rfl (q_fl 7 fld_63_5 rfl rfl rfl) ?_
            refine e_st (i := 0) (v := .int .i64 (w64 (l.bytes + ((f_40.length : Nat) : Int)))) (new := #[.pointer (some ⟨el.2, 0, none⟩), .string l.place_name, .int .i64 l.place_gen, .int .i64 l.size, .int .i64 part_15, .int .i64 (w64 (tail_17 + ((f_40.length : Nat) : Int))), .int .i64 (w64 (l.count + 1)), .int .i64 (w64 (l.bytes + ((f_40.length : Nat) : Int)))]) rfl Try.sizeOf3 rfl rfl rfl rfl (by kernel_rfl) rfl rfl rfl rfl ?_
            refine WR.nil ?_
            change WC _ _ _ _ _ _
            refine WC.rs ?_
            refine va rfl rfl rfl (q_assign (v := .int .i64 0) rfl (by kernel_rfl)) ?_
            refine WR.nil ?_
            change WC _ _ _ _ _ _
            refine WC.ret ?_
            intro w hw
            obtain ⟨row_72, hrow_72, hob_72⟩ : ∃ rw : Rowb, rw = ([[(gl, .cells #[.pointer (some ⟨el.2, 0, none⟩), .string l.place_name, .int .i64 l.place_gen, .int .i64 l.size, .int .i64 part_15, .int .i64 (w64 (tail_17 + ((f_40.length : Nat) : Int))), .int .i64 (w64 (l.count + 1)), .int .i64 (w64 (l.bytes + ((f_40.length : Nat) : Int)))] el.1 (0, 0))]] : List Rowb).flatten ∧ Oseglog_Log.ob el Γ38 gl rw (⟨l.place_name, l.place_gen, l.size, part_15, (w64 (tail_17 + ((f_40.length : Nat) : Int))), (w64 (l.count + 1)), (w64 (l.bytes + ((f_40.length : Nat) : Int)))⟩ : Oseglog_Log) := ⟨_, rfl, rfl, ho0_71, ho1_71, ho2_71, hr16, (w64_r _), (w64_r _), (w64_r _), trivial⟩
            have hw := hw.fold (is := [0]) rfl hrow_72
            obtain rfl := Option.some.inj h
            subst hF
            exact end_e (is := [0, 0]) (by kernel_rfl) hw rfl ⟨row_72, row48, rfl, rfl, hob_72, ho49, (show I64 0 by decide), trivial⟩
set_option maxRecDepth 100000 in
set_option maxHeartbeats 400000 in
theorem t_seglog_Log_Count {Γ : Gh} {w0 : World} {gl : Nat} {el : Nat × Nat} {rowl : Rowb} {l : Oseglog_Log} (hl : Oseglog_Log.ob el Γ gl rowl l) (hlr : ∀ p ∈ rowl, Γ p.1 = some p.2) (hs : Sat Γ w0) {r : Int} (h : m_seglog_Log_Count l = some r) : Calls Try.prog 21 #[.pointer (some ⟨gl, 0, none⟩)] w0 (fun e w' => e = .returned (.int .i64 r) ∧ Fr no w0 w') := by
  refine calls_of (N := 7) (rs := [2]) (args := [.pointer (some ⟨gl, 0, none⟩)]) Try.func21 rfl Try.ntmps21 Try.results21 rfl ?_
  obtain ⟨F, hF⟩ : ∃ F : Fm, F = ⟨no, w0, Γ⟩ := ⟨_, rfl⟩
  refine WC.here (C := CC F Γ []) ?_ (hF ▸ Cur.start0 hs)
  refine WC.rs ?_
  refine va rfl rfl rfl (q_assign (v := .int .i64 0) rfl (by kernel_rfl)) ?_
  refine WR.nil ?_
  change WC _ _ _ _ _ _
  refine WC.rs ?_
  refine va rfl rfl rfl (q_move (v := .pointer (some ⟨gl, 0, none⟩)) rfl (by kernel_rfl)) ?_
  refine va rfl rfl rfl (q_nil (A := some ⟨gl, 0, none⟩) rfl rfl rfl) ?_
  refine va rfl rfl rfl (q_fl 6 fld_63_4 rfl rfl rfl) ?_
  have hq := hl
  obtain ⟨hrow_1, ho0_1, ho1_1, ho2_1, ho3_1, ho4_1, ho5_1, ho6_1, -⟩ := hq
  have hg_2 : ∀ u ∈ ([[(gl, .cells #[.pointer (some ⟨el.2, 0, none⟩), .string l.place_name, .int .i64 l.place_gen, .int .i64 l.size, .int .i64 l.last, .int .i64 l.tail, .int .i64 l.count, .int .i64 l.bytes] el.1 (0, 0))]] : List Rowb), ∀ p ∈ u, Γ p.1 = some p.2 := fun u hu p hp => (fun p hp => (hlr p hp)) p (hrow_1 ▸ List.mem_flatten.2 ⟨u, hu, hp⟩)
  have hgc3 := hg_2 _ (List.mem_cons_self ..) (gl, _) (List.mem_singleton.2 rfl)
  refine va rfl rfl rfl (q_ldg (v := .int .i64 l.count) hgc3 rfl Try.isAgg3 rfl rfl) ?_
  refine va rfl rfl rfl (q_assign (v := .int .i64 l.count) rfl (by kernel_rfl)) ?_
  refine WR.nil ?_
  change WC _ _ _ _ _ _
  refine WC.ret ?_
  intro w hw
  obtain rfl := Option.some.inj h
  subst hF
  exact ⟨by kernel_rfl, hw.fr⟩
abbrev r_seglog_Log_Rewrite_1 (gb0 : Nat) (gb0v : Nat) (eb0v : Nat × Nat) (b0v : Oseglog_Log) (rowb0v : Rowb) (r : Bool) (U : List Rowb) (Γ : Gh) (v : Value) : Prop := v = .bool r ∧ U = [[(gb0, .cells #[.pointer (some ⟨gb0v, 0, none⟩)] 26 (0, 0))], rowb0v] ∧ True
set_option maxRecDepth 100000 in
set_option maxHeartbeats 400000 in
theorem t_seglog_Log_Rewrite_1 {Γ : Gh} {w0 : World} (g_ : Int) (hg_ : I64 g_) (a1 : Int) (ha1 : I64 a1) {gb0 : Nat} {gb0v : Nat} {eb0v : Nat × Nat} {rowb0v : Rowb} {b0v : Oseglog_Log} (hb0v : Oseglog_Log.ob eb0v Γ gb0v rowb0v b0v) (hp : Pre [[(gb0, .cells #[.pointer (some ⟨gb0v, 0, none⟩)] 26 (0, 0))], rowb0v] Γ w0) {r : Bool} (h : m_seglog_Log_Rewrite_1 g_ a1 b0v = some r) : Calls Try.prog 45 #[.int .i64 g_, .int .i64 a1, .pointer (some ⟨gb0, 0, none⟩)] w0 (Outc Γ [[(gb0, .cells #[.pointer (some ⟨gb0v, 0, none⟩)] 26 (0, 0))], rowb0v] w0 (r_seglog_Log_Rewrite_1 gb0 gb0v eb0v b0v rowb0v r)) := by
  refine calls_of (N := 13) (rs := [5]) (args := [.int .i64 g_, .int .i64 a1, .pointer (some ⟨gb0, 0, none⟩)]) Try.func45 rfl Try.ntmps45 Try.results45 rfl ?_
  obtain ⟨F, hF⟩ : ∃ F : Fm, F = ⟨ids [[(gb0, .cells #[.pointer (some ⟨gb0v, 0, none⟩)] 26 (0, 0))], rowb0v], w0, Γ⟩ := ⟨_, rfl⟩
  refine WC.here (C := CC F Γ [[(gb0, .cells #[.pointer (some ⟨gb0v, 0, none⟩)] 26 (0, 0))], rowb0v]) ?_ (hF ▸ hp.start)
  refine WC.rs ?_
  refine va rfl rfl rfl (q_assign (v := .bool false) rfl (by kernel_rfl)) ?_
  refine WR.nil ?_
  change WC _ _ _ _ _ _
  refine WC.rs ?_
  refine va rfl rfl rfl (q_move (v := .int .i64 g_) rfl (by kernel_rfl)) ?_
  refine va rfl rfl rfl (q_ldl (i := 0) (v := .pointer (some ⟨gb0v, 0, none⟩)) rfl rfl Try.isAgg26 rfl rfl) ?_
  refine va rfl rfl rfl (q_nil (A := some ⟨gb0v, 0, none⟩) rfl rfl rfl) ?_
  refine va rfl rfl rfl (q_fl 0 fld_63_0 rfl rfl rfl) ?_
  refine va rfl rfl rfl (q_fl 2 fld_55_2 rfl rfl rfl) ?_
  have hq := hb0v
  obtain ⟨hrow_1, ho0_1, ho1_1, ho2_1, ho3_1, ho4_1, ho5_1, ho6_1, -⟩ := hq
  intro w hw; have hw := hw.unfold (i := 1) rfl hrow_1
  refine WR.here (C := CC F Γ [[(gb0v, .cells #[.pointer (some ⟨eb0v.2, 0, none⟩), .string b0v.place_name, .int .i64 b0v.place_gen, .int .i64 b0v.size, .int .i64 b0v.last, .int .i64 b0v.tail, .int .i64 b0v.count, .int .i64 b0v.bytes] eb0v.1 (0, 0))], [(gb0, .cells #[.pointer (some ⟨gb0v, 0, none⟩)] 26 (0, 0))]]) ?_ hw
  clear hw
  refine va rfl rfl rfl (q_ldl (i := 0) (v := .int .i64 b0v.place_gen) rfl rfl Try.isAgg2 rfl rfl) ?_
  refine va rfl rfl rfl (q_eql rfl rfl rfl) ?_
  refine va rfl rfl rfl (q_assign (v := .bool (g_ == b0v.place_gen)) rfl (by kernel_rfl)) ?_
  refine WR.nil ?_
  change WC _ _ _ _ _ _
  refine WC.ret ?_
  intro w hw
  have hw := hw.fold (is := [0]) rfl hrow_1
  obtain rfl := Option.some.inj h
  subst hF
  exact end_e (is := [1, 0]) (by kernel_rfl) hw rfl ⟨rfl, rfl, trivial⟩
abbrev r_seglog_Log_Rewrite_2 (gb0 : Nat) (gb0v : Nat) (eb0v : Nat × Nat) (b0v : Oseglog_Log) (rowb0v : Rowb) (r : Bool) (U : List Rowb) (Γ : Gh) (v : Value) : Prop := v = .bool r ∧ U = [[(gb0, .cells #[.pointer (some ⟨gb0v, 0, none⟩)] 26 (0, 0))], rowb0v] ∧ True
set_option maxRecDepth 100000 in
set_option maxHeartbeats 400000 in
theorem t_seglog_Log_Rewrite_2 {Γ : Gh} {w0 : World} (g_ : Int) (hg_ : I64 g_) (a1 : Int) (ha1 : I64 a1) {gb0 : Nat} {gb0v : Nat} {eb0v : Nat × Nat} {rowb0v : Rowb} {b0v : Oseglog_Log} (hb0v : Oseglog_Log.ob eb0v Γ gb0v rowb0v b0v) (hp : Pre [[(gb0, .cells #[.pointer (some ⟨gb0v, 0, none⟩)] 26 (0, 0))], rowb0v] Γ w0) {r : Bool} (h : m_seglog_Log_Rewrite_2 g_ a1 b0v = some r) : Calls Try.prog 47 #[.int .i64 g_, .int .i64 a1, .pointer (some ⟨gb0, 0, none⟩)] w0 (Outc Γ [[(gb0, .cells #[.pointer (some ⟨gb0v, 0, none⟩)] 26 (0, 0))], rowb0v] w0 (r_seglog_Log_Rewrite_2 gb0 gb0v eb0v b0v rowb0v r)) := by
  refine calls_of (N := 13) (rs := [5]) (args := [.int .i64 g_, .int .i64 a1, .pointer (some ⟨gb0, 0, none⟩)]) Try.func47 rfl Try.ntmps47 Try.results47 rfl ?_
  obtain ⟨F, hF⟩ : ∃ F : Fm, F = ⟨ids [[(gb0, .cells #[.pointer (some ⟨gb0v, 0, none⟩)] 26 (0, 0))], rowb0v], w0, Γ⟩ := ⟨_, rfl⟩
  refine WC.here (C := CC F Γ [[(gb0, .cells #[.pointer (some ⟨gb0v, 0, none⟩)] 26 (0, 0))], rowb0v]) ?_ (hF ▸ hp.start)
  refine WC.rs ?_
  refine va rfl rfl rfl (q_assign (v := .bool false) rfl (by kernel_rfl)) ?_
  refine WR.nil ?_
  change WC _ _ _ _ _ _
  refine WC.rs ?_
  refine va rfl rfl rfl (q_move (v := .int .i64 g_) rfl (by kernel_rfl)) ?_
  refine va rfl rfl rfl (q_ldl (i := 0) (v := .pointer (some ⟨gb0v, 0, none⟩)) rfl rfl Try.isAgg26 rfl rfl) ?_
  refine va rfl rfl rfl (q_nil (A := some ⟨gb0v, 0, none⟩) rfl rfl rfl) ?_
  refine va rfl rfl rfl (q_fl 0 fld_63_0 rfl rfl rfl) ?_
  refine va rfl rfl rfl (q_fl 2 fld_55_2 rfl rfl rfl) ?_
  have hq := hb0v
  obtain ⟨hrow_1, ho0_1, ho1_1, ho2_1, ho3_1, ho4_1, ho5_1, ho6_1, -⟩ := hq
  intro w hw; have hw := hw.unfold (i := 1) rfl hrow_1
  refine WR.here (C := CC F Γ [[(gb0v, .cells #[.pointer (some ⟨eb0v.2, 0, none⟩), .string b0v.place_name, .int .i64 b0v.place_gen, .int .i64 b0v.size, .int .i64 b0v.last, .int .i64 b0v.tail, .int .i64 b0v.count, .int .i64 b0v.bytes] eb0v.1 (0, 0))], [(gb0, .cells #[.pointer (some ⟨gb0v, 0, none⟩)] 26 (0, 0))]]) ?_ hw
  clear hw
  refine va rfl rfl rfl (q_ldl (i := 0) (v := .int .i64 b0v.place_gen) rfl rfl Try.isAgg2 rfl rfl) ?_
  refine va rfl rfl rfl (q_eql rfl rfl rfl) ?_
  refine va rfl rfl rfl (q_assign (v := .bool (g_ == b0v.place_gen)) rfl (by kernel_rfl)) ?_
  refine WR.nil ?_
  change WC _ _ _ _ _ _
  refine WC.ret ?_
  intro w hw
  have hw := hw.fold (is := [0]) rfl hrow_1
  obtain rfl := Option.some.inj h
  subst hF
  exact end_e (is := [1, 0]) (by kernel_rfl) hw rfl ⟨rfl, rfl, trivial⟩
abbrev r_seglog_Log_Rewrite_3 (gb0 : Nat) (b0v : Int) (r : Bool) (U : List Rowb) (Γ : Gh) (v : Value) : Prop := v = .bool r ∧ U = [[(gb0, .cells #[.int .i64 b0v] 2 (0, 0))]] ∧ True
set_option maxRecDepth 100000 in
set_option maxHeartbeats 400000 in
theorem t_seglog_Log_Rewrite_3 {Γ : Gh} {w0 : World} (g_ : Int) (hg_ : I64 g_) (a1 : Int) (ha1 : I64 a1) {gb0 : Nat} (b0v : Int) (hb0v : I64 b0v) (hp : Pre [[(gb0, .cells #[.int .i64 b0v] 2 (0, 0))]] Γ w0) {r : Bool} (h : m_seglog_Log_Rewrite_3 g_ a1 b0v = some r) : Calls Try.prog 48 #[.int .i64 g_, .int .i64 a1, .pointer (some ⟨gb0, 0, none⟩)] w0 (Outc Γ [[(gb0, .cells #[.int .i64 b0v] 2 (0, 0))]] w0 (r_seglog_Log_Rewrite_3 gb0 b0v r)) := by
  refine calls_of (N := 9) (rs := [5]) (args := [.int .i64 g_, .int .i64 a1, .pointer (some ⟨gb0, 0, none⟩)]) Try.func48 rfl Try.ntmps48 Try.results48 rfl ?_
  obtain ⟨F, hF⟩ : ∃ F : Fm, F = ⟨ids [[(gb0, .cells #[.int .i64 b0v] 2 (0, 0))]], w0, Γ⟩ := ⟨_, rfl⟩
  refine WC.here (C := CC F Γ [[(gb0, .cells #[.int .i64 b0v] 2 (0, 0))]]) ?_ (hF ▸ hp.start)
  refine WC.rs ?_
  refine va rfl rfl rfl (q_assign (v := .bool false) rfl (by kernel_rfl)) ?_
  refine WR.nil ?_
  change WC _ _ _ _ _ _
  refine WC.rs ?_
  refine va rfl rfl rfl (q_move (v := .int .i64 g_) rfl (by kernel_rfl)) ?_
  refine va rfl rfl rfl (q_ldl (i := 0) (v := .int .i64 b0v) rfl rfl Try.isAgg2 rfl rfl) ?_
  refine va rfl rfl rfl (q_eql rfl rfl rfl) ?_
  refine va rfl rfl rfl (q_assign (v := .bool (g_ == b0v)) rfl (by kernel_rfl)) ?_
  refine WR.nil ?_
  change WC _ _ _ _ _ _
  refine WC.ret ?_
  intro w hw
  obtain rfl := Option.some.inj h
  subst hF
  exact end_e (is := [0]) (by kernel_rfl) hw rfl ⟨rfl, rfl, trivial⟩
abbrev r_seglog_Log_Rewrite (gl : Nat) (el : Nat × Nat) (edk0 : Nat) (r : Oseglog_Log × Odisk_Disk × Int) (U : List Rowb) (Γ : Gh) (v : Value) : Prop := ∃ (rowl' : Rowb), ∃ (rowdk0' : Rowb), v = .int .i64 r.2.2 ∧ U = [rowl', rowdk0'] ∧ Oseglog_Log.ob el Γ gl rowl' r.1 ∧ Odisk_Disk.ob edk0 Γ el.2 rowdk0' r.2.1 ∧ I64 r.2.2 ∧ True
set_option maxRecDepth 100000 in
set_option maxHeartbeats 400000 in
theorem t_seglog_Log_Rewrite {Γ : Gh} {w0 : World} {gl : Nat} {el : Nat × Nat} {rowl : Rowb} {l : Oseglog_Log} (hl : Oseglog_Log.ob el Γ gl rowl l) {Alist : Option Addr} {clist : Nat} {list : List (List UInt8)} (hlist : Sl (slT byteT) Γ Alist list) (hlistc : list.length ≤ clist) {edk0 : Nat} {rowdk0 : Rowb} {dk0 : Odisk_Disk} (hdk0 : Odisk_Disk.ob edk0 Γ el.2 rowdk0 dk0) (hp : Pre [rowl, rowdk0] Γ w0) {r : Oseglog_Log × Odisk_Disk × Int} (h : m_seglog_Log_Rewrite l list dk0 = some r) : Calls Try.prog 17 #[.pointer (some ⟨gl, 0, none⟩), .slice Alist list.length clist] w0 (Outc Γ [rowl, rowdk0] w0 (r_seglog_Log_Rewrite gl el edk0 r)) := by
  refine calls_of (N := 134) (rs := [4]) (args := [.pointer (some ⟨gl, 0, none⟩), .slice Alist list.length clist]) Try.func17 rfl Try.ntmps17 Try.results17 rfl ?_
  obtain ⟨F, hF⟩ : ∃ F : Fm, F = ⟨ids [rowl, rowdk0], w0, Γ⟩ := ⟨_, rfl⟩
  refine WC.here (C := CC F Γ [rowl, rowdk0]) ?_ (hF ▸ hp.start)
  refine WC.rs ?_
  refine va rfl rfl rfl (q_assign (v := .int .i64 0) rfl (by kernel_rfl)) ?_
  refine WR.nil ?_
  change WC _ _ _ _ _ _
  refine WC.seq ?_
  refine WC.rs ?_
  refine va rfl rfl rfl (q_move (v := .slice Alist list.length clist) rfl (by kernel_rfl)) ?_
  refine va rfl rfl rfl (q_len_slice rfl Try.underlying22 rfl) ?_
  refine va rfl rfl rfl (q_move (v := .int .i64 0) rfl (by kernel_rfl)) ?_
  refine WR.nil ?_
  change WC _ _ _ _ _ _
  refine WC.block ?_
  refine WC.forI h (fun (i2 : Nat) (s : Unit) σ w => match s with | () => slots σ [(0, .pointer (some ⟨gl, 0, none⟩)), (1, .slice Alist list.length clist), (15, .slice Alist list.length clist), (16, .int .i64 ((list.length : Nat) : Int)), (17, .int .i64 ((i2 : Nat) : Int))] ∧ CC F Γ [rowl, rowdk0] w ∧ True) ?_ ?_
  · skip
    intro w hw
    exact ⟨(sl_ (by kernel_rfl)), hw, trivial⟩
  rintro f1 i2 ⟨⟩ σ w hi3 hlt4 hge5 ⟨hsl, hw, -⟩
  refine Wpt.slots hsl ?_
  refine WC.here (C := CC F Γ [rowl, rowdk0]) ?_ hw
  clear hw hsl
  refine WC.rs ?_
  refine va rfl rfl rfl (q_lss rfl rfl rfl) ?_
  refine WR.nil ?_
  change WC _ _ _ _ _ _
  refine WC.seq ?_
  refine WC.cond (b := (decide (((i2 : Nat) : Int) < ((list.length : Nat) : Int)))) (by kernel_rfl) (fun hb6 => ?_) (fun hb6 => ?_)
  · skip
    have hl7 := ilt hb6
    have h := hlt4 hl7
    refine WC.skip ?_
    change WC _ _ _ _ _ _
    refine WC.seq ?_
    refine WC.block ?_
    refine WC.rs ?_
    refine va rfl rfl rfl (q_ixn (i := i2) Try.underlying22 Try.sizeOf31 rfl rfl rfl hl7 (hlist.some_ hl7)) ?_
    obtain ⟨A8, c9, hx10⟩ := hlist.slT_at i2
    refine va rfl rfl rfl (q_ld (c := 0) (v := .slice A8 (gt list i2).length c9) (hx10 hl7).2 rfl Try.isAgg31 rfl rfl) ?_
    refine va rfl rfl rfl (q_assign (v := .slice A8 (gt list i2).length c9) rfl (by kernel_rfl)) ?_
    refine WR.nil ?_
    change WC _ _ _ _ _ _
    refine WC.rs ?_
    refine va rfl rfl rfl (q_move (v := .slice A8 (gt list i2).length c9) rfl (by kernel_rfl)) ?_
    refine va rfl rfl rfl (q_len_slice rfl Try.underlying31 rfl) ?_
    refine va rfl rfl rfl (q_gtr rfl rfl rfl) ?_
    refine WR.nil ?_
    change WC _ _ _ _ _ _
    refine WC.cif h (by kernel_rfl) (fun hb11 h => ?_) (fun hb11 h => ?_)
    · skip
      refine WC.rs ?_
      refine va rfl rfl rfl (q_assign (v := .int .i64 3) rfl (by kernel_rfl)) ?_
      refine WR.nil ?_
      change WC _ _ _ _ _ _
      refine WC.ret ?_
      intro w hw
      obtain rfl := Option.some.inj h
      subst hF
      exact end_e (is := [0, 0]) (by kernel_rfl) hw rfl ⟨rowl, rowdk0, rfl, rfl, hl, hdk0, (show I64 3 by decide), trivial⟩
    · skip
      refine WC.skip ?_
      change WC _ _ _ _ _ _
      refine WC.region ?_
      refine va rfl rfl rfl (q_add_r (r := ((i2 + 1 : Nat) : Int)) rfl rfl rfl (ctr_len hl7 hlist.le)) ?_
      refine va rfl rfl rfl (q_move (v := .int .i64 ((i2 + 1 : Nat) : Int)) rfl (by kernel_rfl)) ?_
      refine WR.nil ?_
      intro w hw
      exact ⟨hl7, (), h, (sl_ (by kernel_rfl)), hw, trivial⟩
  · skip
    have h := hge5 (ige hb6)
    refine WC.exit ?_
    change WC _ _ _ _ _ _
    refine WC.seq ?_
    refine WC.rs ?_
    refine va rfl rfl rfl (q_move (v := .pointer (some ⟨gl, 0, none⟩)) rfl (by kernel_rfl)) ?_
    refine va rfl rfl rfl (q_nil (A := some ⟨gl, 0, none⟩) rfl rfl rfl) ?_
    refine va rfl rfl rfl (q_fl 0 fld_63_0 rfl rfl rfl) ?_
    refine va rfl rfl rfl (q_fl 2 fld_55_2 rfl rfl rfl) ?_
    have hq := hl
    obtain ⟨hrow_12, ho0_12, ho1_12, ho2_12, ho3_12, ho4_12, ho5_12, ho6_12, -⟩ := hq
    intro w hw; have hw := hw.unfold (i := 0) rfl hrow_12
    refine WR.here (C := CC F Γ [[(gl, .cells #[.pointer (some ⟨el.2, 0, none⟩), .string l.place_name, .int .i64 l.place_gen, .int .i64 l.size, .int .i64 l.last, .int .i64 l.tail, .int .i64 l.count, .int .i64 l.bytes] el.1 (0, 0))], rowdk0]) ?_ hw
    clear hw
    refine va rfl rfl rfl (q_ldl (i := 0) (v := .int .i64 l.place_gen) rfl rfl Try.isAgg2 rfl rfl) ?_
    refine va rfl rfl rfl (q_eql rfl rfl rfl) ?_
    refine WR.nil ?_
    change WC _ _ _ _ _ _
    refine WC.cif h (by kernel_rfl) (fun hb13 h => ?_) (fun hb13 h => ?_)
    · skip
      refine WC.rs ?_
      refine va rfl rfl rfl (q_assign (v := .int .i64 72) rfl (by kernel_rfl)) ?_
      refine WR.nil ?_
      change WC _ _ _ _ _ _
      refine WC.ret ?_
      intro w hw
      have hw := hw.fold (is := [0]) rfl hrow_12
      obtain rfl := Option.some.inj h
      subst hF
      exact end_e (is := [0, 0]) (by kernel_rfl) hw rfl ⟨rowl, rowdk0, rfl, rfl, hl, hdk0, (show I64 72 by decide), trivial⟩
    · skip
      refine WC.skip ?_
      change WC _ _ _ _ _ _
      refine WC.seq ?_
      intro w hw; have h015 := hw.le
      refine WC.here (C := CC F Γ [[(gl, .cells #[.pointer (some ⟨el.2, 0, none⟩), .string l.place_name, .int .i64 l.place_gen, .int .i64 l.size, .int .i64 l.last, .int .i64 l.tail, .int .i64 l.count, .int .i64 l.bytes] el.1 (0, 0))], rowdk0]) ?_ hw; clear hw
      refine WC.held (CC F Γ [[(gl, .cells #[.pointer (some ⟨el.2, 0, none⟩), .string l.place_name, .int .i64 l.place_gen, .int .i64 l.size, .int .i64 l.last, .int .i64 l.tail, .int .i64 l.count, .int .i64 l.bytes] el.1 (0, 0))]]) (by kernel_rfl) (fun w hw => hw.drawn _) ?_
      change WH _ _ _ _ (CC F Γ [[(gl, .cells #[.pointer (some ⟨el.2, 0, none⟩), .string l.place_name, .int .i64 l.place_gen, .int .i64 l.size, .int .i64 l.last, .int .i64 l.tail, .int .i64 l.count, .int .i64 l.bytes] el.1 (0, 0))], rowdk0]) _ 12 #[false, false, false, false, false, false, false, false, false, false, false, false] _
      refine ht (i := 0) rfl (by kernel_rfl) rfl rfl rfl (fun w hw => hw.back (Gh.refl _) h015 (.cons_cons _ (.cons _ .slnil))) (q_move (v := .pointer (some ⟨gl, 0, none⟩)) rfl (by kernel_rfl)) ?_
      refine ht (i := 1) rfl (by kernel_rfl) rfl rfl rfl (fun w hw => hw.back (Gh.refl _) h015 (.cons_cons _ (.cons _ .slnil))) (q_nil (A := some ⟨gl, 0, none⟩) rfl rfl rfl) ?_
      refine ht (i := 2) rfl (by kernel_rfl) rfl rfl rfl (fun w hw => hw.back (Gh.refl _) h015 (.cons_cons _ (.cons _ .slnil))) (q_fl 0 fld_63_0 rfl rfl rfl) ?_
      refine ht (i := 3) rfl (by kernel_rfl) rfl rfl rfl (fun w hw => hw.back (Gh.refl _) h015 (.cons_cons _ (.cons _ .slnil))) (q_ldla (i := 0) (vs := [.pointer (some ⟨el.2, 0, none⟩), .string l.place_name, .int .i64 l.place_gen]) rfl rfl Try.isAgg55 Try.sizeOf55 rfl rfl) ?_
      refine ht (i := 4) rfl (by kernel_rfl) rfl rfl rfl (fun w hw => hw.back (Gh.refl _) h015 (.cons_cons _ (.cons _ .slnil))) (q_move (v := .pointer (some ⟨gl, 0, none⟩)) rfl (by kernel_rfl)) ?_
      refine ht (i := 5) rfl (by kernel_rfl) rfl rfl rfl (fun w hw => hw.back (Gh.refl _) h015 (.cons_cons _ (.cons _ .slnil))) (q_nil (A := some ⟨gl, 0, none⟩) rfl rfl rfl) ?_
      refine ht (i := 6) rfl (by kernel_rfl) rfl rfl rfl (fun w hw => hw.back (Gh.refl _) h015 (.cons_cons _ (.cons _ .slnil))) (q_fl 3 fld_63_1 rfl rfl rfl) ?_
      refine ht (i := 7) rfl (by kernel_rfl) rfl rfl rfl (fun w hw => hw.back (Gh.refl _) h015 (.cons_cons _ (.cons _ .slnil))) (q_ldl (i := 0) (v := .int .i64 l.size) rfl rfl Try.isAgg3 rfl rfl) ?_
      refine ht (i := 8) rfl (by kernel_rfl) rfl rfl rfl (fun w hw => hw.back (Gh.refl _) h015 (.cons_cons _ (.cons _ .slnil))) (q_build' (v := .agg #[.pointer (some ⟨el.2, 0, none⟩), .string l.place_name, .int .i64 l.place_gen, .int .i64 l.size, .int .i64 0, .int .i64 0, .int .i64 0, .int .i64 0]) rfl (bargs2 rfl rfl) (fun w => by kernel_rfl)) ?_
      refine WH.each (l := [9, 10]) (by kernel_rfl) (by simp) ?_
      intro i hi; simp only [List.mem_cons, List.not_mem_nil, or_false] at hi
      rcases hi with rfl | rfl
      · refine ⟨_, rfl, ?_⟩
        refine e_box (v := .agg #[.pointer (some ⟨el.2, 0, none⟩), .string l.place_name, .int .i64 l.place_gen, .int .i64 l.size, .int .i64 0, .int .i64 0, .int .i64 0, .int .i64 0]) rfl rfl rfl rfl (by kernel_rfl) ?_
        intro gh40_
        refine WR.nil ?_
        refine WH.next (fun w hw => hw.back (Gh.refl _) h015 (.cons _ (.cons_cons _ (.cons _ .slnil)))) ?_
        refine WH.lone (i := 10) (by kernel_rfl) rfl ?_
        refine e_alloc Try.zeroValue26 rfl rfl rfl rfl ?_
        intro gh7_
        refine WR.nil ?_
        refine WH.next (fun w hw => hw.back (Gh.refl _) h015 (.cons _ (.cons _ (.cons_cons _ (.cons _ .slnil))))) ?_
        refine WH.lone (i := 11) (by kernel_rfl) rfl ?_
        refine e_st (i := 0) (v := .pointer (some ⟨gh40_, 0, none⟩)) (new := #[.pointer (some ⟨gh40_, 0, none⟩)]) rfl Try.sizeOf26 rfl rfl rfl rfl (by kernel_rfl) rfl rfl rfl rfl ?_
        refine WR.nil ?_
        refine WH.next (fun w hw => hw.back (Gh.refl _) h015 (.cons _ (.cons _ (.cons_cons _ (.cons _ .slnil))))) ?_
        refine WH.done (by kernel_rfl) ?_
        change WC _ _ _ _ _ _
        refine WC.rs ?_
        refine va rfl rfl rfl (q_ldl (i := 0) (v := .pointer (some ⟨gh40_, 0, none⟩)) rfl rfl Try.isAgg26 rfl rfl) ?_
        refine va rfl rfl rfl (q_nil (A := some ⟨gh40_, 0, none⟩) rfl rfl rfl) ?_
        refine va rfl rfl rfl (q_fl 0 fld_63_0 rfl rfl rfl) ?_
        refine va rfl rfl rfl (q_fl 2 fld_55_2 rfl rfl rfl) ?_
        refine va rfl rfl rfl (q_ldl (i := 1) (v := .int .i64 l.place_gen) rfl rfl Try.isAgg2 rfl rfl) ?_
        refine va rfl rfl rfl (q_add rfl rfl rfl) ?_
        refine va rfl rfl rfl (q_nil (A := some ⟨gh40_, 0, none⟩) rfl rfl rfl) ?_
        refine va rfl rfl rfl (q_fl 0 fld_63_0 rfl rfl rfl) ?_
        refine va rfl rfl rfl (q_fl 2 fld_55_2 rfl rfl rfl) ?_
        refine e_st (i := 1) (v := .int .i64 (w64 (l.place_gen + 1))) (new := #[.pointer (some ⟨el.2, 0, none⟩), .string l.place_name, .int .i64 (w64 (l.place_gen + 1)), .int .i64 l.size, .int .i64 0, .int .i64 0, .int .i64 0, .int .i64 0]) rfl Try.sizeOf2 rfl rfl rfl rfl (by kernel_rfl) rfl rfl rfl rfl ?_
        refine WR.nil ?_
        change WC _ _ _ _ _ _
        refine WC.rs ?_
        refine va rfl rfl rfl (q_move (v := .pointer (some ⟨gl, 0, none⟩)) rfl (by kernel_rfl)) ?_
        refine va rfl rfl rfl (q_nil (A := some ⟨gl, 0, none⟩) rfl rfl rfl) ?_
        refine va rfl rfl rfl (q_fl 0 fld_63_0 rfl rfl rfl) ?_
        refine va rfl rfl rfl (q_fl 2 fld_55_2 rfl rfl rfl) ?_
        refine va rfl rfl rfl (q_ldl (i := 2) (v := .int .i64 l.place_gen) rfl rfl Try.isAgg2 rfl rfl) ?_
        refine e_alloc Try.zeroValue2 rfl rfl rfl rfl ?_
        intro g16
        refine e_st (i := 0) (v := .int .i64 l.place_gen) (new := #[.int .i64 l.place_gen]) rfl Try.sizeOf2 rfl rfl rfl rfl (by kernel_rfl) rfl rfl rfl rfl ?_
        refine WR.nil ?_
        change WC _ _ _ _ _ _
        refine WC.seq ?_
        refine WC.rs ?_
        refine va rfl rfl rfl (q_move (v := .slice Alist list.length clist) rfl (by kernel_rfl)) ?_
        refine va rfl rfl rfl (q_len_slice rfl Try.underlying22 rfl) ?_
        refine va rfl rfl rfl (q_move (v := .int .i64 0) rfl (by kernel_rfl)) ?_
        refine WR.nil ?_
        change WC _ _ _ _ _ _
        refine WC.block ?_
        intro w hw; have hw := hw.fold (is := [3]) rfl hrow_12
        refine WC.here (C := CC F Γ [rowl, [(g16, .cells #[.int .i64 l.place_gen] 2 (0, 0))], [(gh7_, .cells #[.pointer (some ⟨gh40_, 0, none⟩)] 26 (0, 0))], [(gh40_, .cells #[.pointer (some ⟨el.2, 0, none⟩), .string l.place_name, .int .i64 (w64 (l.place_gen + 1)), .int .i64 l.size, .int .i64 0, .int .i64 0, .int .i64 0, .int .i64 0] 63 (0, 0))], rowdk0]) ?_ hw
        clear hw
        obtain ⟨row_18, hrow_18, hob_18⟩ : ∃ rw : Rowb, rw = ([[(gh40_, .cells #[.pointer (some ⟨el.2, 0, none⟩), .string l.place_name, .int .i64 (w64 (l.place_gen + 1)), .int .i64 l.size, .int .i64 0, .int .i64 0, .int .i64 0, .int .i64 0] 63 (0, 0))]] : List Rowb).flatten ∧ Oseglog_Log.ob (63, el.2) Γ gh40_ rw (⟨l.place_name, (w64 (l.place_gen + 1)), l.size, 0, 0, 0, 0⟩ : Oseglog_Log) := ⟨_, rfl, rfl, ho0_12, (w64_r _), ho2_12, (show I64 0 by decide), (show I64 0 by decide), (show I64 0 by decide), (show I64 0 by decide), trivial⟩
        intro w hw; have hw := hw.fold (is := [3]) rfl hrow_18
        refine WC.here (C := CC F Γ [row_18, rowl, [(g16, .cells #[.int .i64 l.place_gen] 2 (0, 0))], [(gh7_, .cells #[.pointer (some ⟨gh40_, 0, none⟩)] 26 (0, 0))], rowdk0]) ?_ hw
        clear hw
        refine WC.forI h (fun (i28 : Nat) (s : Oseglog_Log × Odisk_Disk) σ w => match s with | (o21, o24) => ∃ (Γ19 : Gh), ∃ (row22 : Rowb), ∃ (row25 : Rowb), slots σ [(0, .pointer (some ⟨gl, 0, none⟩)), (7, .pointer (some ⟨gh7_, 0, none⟩)), (8, .pointer (some ⟨g16, 0, none⟩)), (55, .slice Alist list.length clist), (56, .int .i64 ((list.length : Nat) : Int)), (57, .int .i64 ((i28 : Nat) : Int))] ∧ CC F Γ19 [row22, rowl, [(g16, .cells #[.int .i64 l.place_gen] 2 (0, 0))], [(gh7_, .cells #[.pointer (some ⟨gh40_, 0, none⟩)] 26 (0, 0))], row25] w ∧ Gh.le Γ Γ19 ∧ Oseglog_Log.ob (63, el.2) Γ19 gh40_ row22 o21 ∧ Odisk_Disk.ob edk0 Γ19 el.2 row25 o24 ∧ True) ?_ ?_
        · skip
          intro w hw
          exact ⟨Γ, row_18, rowdk0, (sl_ (by kernel_rfl)), hw, (Gh.refl _), hob_18, hdk0, trivial⟩
        rintro f27 i28 ⟨o21, o24⟩ σ w hi29 hlt30 hge31 ⟨Γ19, row22, row25, hsl, hw, hl20, ho23, ho26, -⟩
        refine Wpt.slots hsl ?_
        refine WC.here (C := CC F Γ19 [row22, rowl, [(g16, .cells #[.int .i64 l.place_gen] 2 (0, 0))], [(gh7_, .cells #[.pointer (some ⟨gh40_, 0, none⟩)] 26 (0, 0))], row25]) ?_ hw
        clear hw hsl
        refine WC.rs ?_
        refine va rfl rfl rfl (q_lss rfl rfl rfl) ?_
        refine WR.nil ?_
        change WC _ _ _ _ _ _
        refine WC.seq ?_
        refine WC.cond (b := (decide (((i28 : Nat) : Int) < ((list.length : Nat) : Int)))) (by kernel_rfl) (fun hb32 => ?_) (fun hb32 => ?_)
        · skip
          have hl33 := ilt hb32
          have h := hlt30 hl33
          refine WC.skip ?_
          change WC _ _ _ _ _ _
          refine WC.seq ?_
          refine WC.block ?_
          refine WC.rs ?_
          refine va rfl rfl rfl (q_ixn (i := i28) Try.underlying22 Try.sizeOf31 rfl rfl rfl hl33 ((hlist.mono hl20).some_ hl33)) ?_
          obtain ⟨A34, c35, hx36⟩ := (hlist.mono hl20).slT_at i28
          refine va rfl rfl rfl (q_ld (c := 0) (v := .slice A34 (gt list i28).length c35) (hx36 hl33).2 rfl Try.isAgg31 rfl rfl) ?_
          refine va rfl rfl rfl (q_assign (v := .slice A34 (gt list i28).length c35) rfl (by kernel_rfl)) ?_
          refine WR.nil ?_
          change WC _ _ _ _ _ _
          refine WC.rs ?_
          refine va rfl rfl rfl (q_ldl (i := 3) (v := .pointer (some ⟨gh40_, 0, none⟩)) rfl rfl Try.isAgg26 rfl rfl) ?_
          refine va rfl rfl rfl (q_move (v := .slice A34 (gt list i28).length c35) rfl (by kernel_rfl)) ?_
          obtain ⟨z37, hz38, h⟩ := bnd h
          refine e_call (is := [0, 3]) rfl rfl (call_run Try.call10 rfl rfl (by kernel_rfl)) rfl (fun w hp => t_seglog_Log_Append ho23 (hx36 hl33).1.2 (hx36 hl33).1.1 ho26 hp hz38) ?_
          rintro Γ39 U41 v42 hl40 ⟨row43, row45, rfl, rfl, hr44, hr46, hr47, _⟩
          change WR _ _ _ (CC F Γ39 [row43, row45, rowl, [(g16, .cells #[.int .i64 l.place_gen] 2 (0, 0))], [(gh7_, .cells #[.pointer (some ⟨gh40_, 0, none⟩)] 26 (0, 0))]]) _ _ (upd _ 63 (.int .i64 z37.2.2))
          refine va rfl rfl rfl (q_assign (v := .int .i64 z37.2.2) rfl (by kernel_rfl)) ?_
          refine WR.nil ?_
          change WC _ _ _ _ _ _
          refine WC.rs ?_
          refine va rfl rfl rfl (q_move (v := .int .i64 z37.2.2) rfl (by kernel_rfl)) ?_
          refine va rfl rfl rfl (q_neq rfl rfl rfl) ?_
          refine WR.nil ?_
          change WC _ _ _ _ _ _
          refine WC.cif h (by kernel_rfl) (fun hb48 h => ?_) (fun hb48 h => ?_)
          · skip
            refine WC.rs ?_
            refine va rfl rfl rfl (q_ldl (i := 4) (v := .pointer (some ⟨gh40_, 0, none⟩)) rfl rfl Try.isAgg26 rfl rfl) ?_
            refine va rfl rfl rfl (q_nil (A := some ⟨gh40_, 0, none⟩) rfl rfl rfl) ?_
            refine va rfl rfl rfl (q_fl 0 fld_63_0 rfl rfl rfl) ?_
            have hq := hr44
            obtain ⟨hrow_49, ho0_49, ho1_49, ho2_49, ho3_49, ho4_49, ho5_49, ho6_49, -⟩ := hq
            intro w hw; have hw := hw.unfold (i := 0) rfl hrow_49
            refine WR.here (C := CC F Γ39 [[(gh40_, .cells #[.pointer (some ⟨el.2, 0, none⟩), .string z37.1.place_name, .int .i64 z37.1.place_gen, .int .i64 z37.1.size, .int .i64 z37.1.last, .int .i64 z37.1.tail, .int .i64 z37.1.count, .int .i64 z37.1.bytes] 63 (0, 0))], row45, rowl, [(g16, .cells #[.int .i64 l.place_gen] 2 (0, 0))], [(gh7_, .cells #[.pointer (some ⟨gh40_, 0, none⟩)] 26 (0, 0))]]) ?_ hw
            clear hw
            refine va rfl rfl rfl (q_ldla (i := 0) (vs := [.pointer (some ⟨el.2, 0, none⟩), .string z37.1.place_name, .int .i64 z37.1.place_gen]) rfl rfl Try.isAgg55 Try.sizeOf55 rfl rfl) ?_
            refine va rfl rfl rfl (q_mkfn (v := .func (.func 45) #[] #[.pointer (some ⟨gh7_, 0, none⟩)]) rfl (by kernel_rfl)) ?_
            intro w hw; have hw := hw.fold (is := [0]) rfl hrow_49
            refine WR.here (C := CC F Γ39 [row43, row45, rowl, [(g16, .cells #[.int .i64 l.place_gen] 2 (0, 0))], [(gh7_, .cells #[.pointer (some ⟨gh40_, 0, none⟩)] 26 (0, 0))]]) ?_ hw
            clear hw
            obtain ⟨rowT51, hT52⟩ : ∃ r : Rowb, r = ([[(gh7_, .cells #[.pointer (some ⟨gh40_, 0, none⟩)] 26 (0, 0))], row43] : List Rowb).flatten := ⟨_, rfl⟩
            refine WR.sub (fun w hw => hw.fold (is := [4, 0]) rfl hT52) ?_
            obtain ⟨z53, hz54, h⟩ := bnd h
            refine e_call (is := [1, 0]) rfl rfl (call_run Try.call29 rfl rfl (by kernel_rfl)) rfl (fun w hp => t_seglog_place_remove (caps := #[.pointer (some ⟨gh7_, 0, none⟩)]) hr46 z37.1.place_name ho0_49 z37.1.place_gen ho1_49 (fun x y => m_seglog_Log_Rewrite_1 x y z37.1) (fun {Γq_ wq_} x hx y hy hle hp2 {_} hq => Calls.mono (t_seglog_Log_Rewrite_1 (Γ := Γq_) x hx y hy (hr44.mono hle) (by subst hT52; exact hp2.parts) hq) (fun e w2 ho => Outc.quiet (by subst hT52; exact hp2.parts) ho (fun _ _ _ hr => ⟨hr.1, hr.2.1⟩))) Try.call45 hp hz54) ?_
            rintro Γ55 U57 v58 hl56 ⟨row59, rfl, rfl, hd60⟩
            change WR _ _ _ (CC F Γ55 [row59, rowT51, rowl, [(g16, .cells #[.int .i64 l.place_gen] 2 (0, 0))]]) _ _ (upd _ 71 (.tuple #[]))
            refine WR.sub (fun w hw => hw.unfold (i := 1) rfl hT52) ?_
            change WR _ _ _ (CC F Γ55 [[(gh7_, .cells #[.pointer (some ⟨gh40_, 0, none⟩)] 26 (0, 0))], row43, row59, rowl, [(g16, .cells #[.int .i64 l.place_gen] 2 (0, 0))]]) _ _ _
            refine WR.nil ?_
            change WC _ _ _ _ _ _
            refine WC.rs ?_
            refine va rfl rfl rfl (q_move (v := .int .i64 z37.2.2) rfl (by kernel_rfl)) ?_
            refine va rfl rfl rfl (q_assign (v := .int .i64 z37.2.2) rfl (by kernel_rfl)) ?_
            refine WR.nil ?_
            change WC _ _ _ _ _ _
            refine WC.ret ?_
            intro w hw
            obtain rfl := Option.some.inj h
            subst hF
            exact end_e (is := [3, 2]) (by kernel_rfl) hw rfl ⟨rowl, row59, rfl, rfl, (hl.mono ((hl20.trans hl40).trans hl56)), hd60, hr47, trivial⟩
          · skip
            refine WC.skip ?_
            change WC _ _ _ _ _ _
            refine WC.region ?_
            refine va rfl rfl rfl (q_add_r (r := ((i28 + 1 : Nat) : Int)) rfl rfl rfl (ctr_len hl33 (hlist.mono hl20).le)) ?_
            refine va rfl rfl rfl (q_move (v := .int .i64 ((i28 + 1 : Nat) : Int)) rfl (by kernel_rfl)) ?_
            refine WR.nil ?_
            intro w hw
            exact ⟨hl33, (z37.1, z37.2.1), h, Γ39, row43, row45, (sl_ (by kernel_rfl)), (hw.only (is := [0, 1, 1, 1, 0]) rfl), (hl20.trans hl40), hr44, hr46, trivial⟩
        · skip
          have h := hge31 (ige hb32)
          refine WC.exit ?_
          change WC _ _ _ _ _ _
          refine WC.rs ?_
          refine va rfl rfl rfl (q_move (v := .pointer (some ⟨gl, 0, none⟩)) rfl (by kernel_rfl)) ?_
          refine va rfl rfl rfl (q_nil (A := some ⟨gl, 0, none⟩) rfl rfl rfl) ?_
          refine va rfl rfl rfl (q_fl 0 fld_63_0 rfl rfl rfl) ?_
          refine va rfl rfl rfl (q_fl 0 fld_55_0 rfl rfl rfl) ?_
          have hq := (hl.mono hl20)
          obtain ⟨hrow_61, ho0_61, ho1_61, ho2_61, ho3_61, ho4_61, ho5_61, ho6_61, -⟩ := hq
          intro w hw; have hw := hw.unfold (i := 1) rfl hrow_61
          refine WR.here (C := CC F Γ19 [[(gl, .cells #[.pointer (some ⟨el.2, 0, none⟩), .string l.place_name, .int .i64 l.place_gen, .int .i64 l.size, .int .i64 l.last, .int .i64 l.tail, .int .i64 l.count, .int .i64 l.bytes] el.1 (0, 0))], row22, [(g16, .cells #[.int .i64 l.place_gen] 2 (0, 0))], [(gh7_, .cells #[.pointer (some ⟨gh40_, 0, none⟩)] 26 (0, 0))], row25]) ?_ hw
          clear hw
          refine va rfl rfl rfl (q_ldl (i := 0) (v := .pointer (some ⟨el.2, 0, none⟩)) rfl rfl Try.isAgg24 rfl rfl) ?_
          obtain ⟨z62, hz63, h⟩ := bnd h
          refine e_call (is := [4]) rfl rfl (call_run Try.call33 rfl rfl (by kernel_rfl)) rfl (fun w hp => t_disk_Disk_Sync ho26 hp hz63) ?_
          rintro Γ64 U66 v67 hl65 ⟨row68, rfl, rfl, hr69, _⟩
          change WR _ _ _ (CC F Γ64 [row68, [(gl, .cells #[.pointer (some ⟨el.2, 0, none⟩), .string l.place_name, .int .i64 l.place_gen, .int .i64 l.size, .int .i64 l.last, .int .i64 l.tail, .int .i64 l.count, .int .i64 l.bytes] el.1 (0, 0))], row22, [(g16, .cells #[.int .i64 l.place_gen] 2 (0, 0))], [(gh7_, .cells #[.pointer (some ⟨gh40_, 0, none⟩)] 26 (0, 0))]]) _ _ (upd _ 79 (.tuple #[]))
          refine WR.nil ?_
          change WC _ _ _ _ _ _
          refine WC.rs ?_
          refine va rfl rfl rfl (q_ldl (i := 4) (v := .pointer (some ⟨gh40_, 0, none⟩)) rfl rfl Try.isAgg26 rfl rfl) ?_
          refine va rfl rfl rfl (q_nil (A := some ⟨gh40_, 0, none⟩) rfl rfl rfl) ?_
          refine va rfl rfl rfl (q_fl 0 fld_63_0 rfl rfl rfl) ?_
          refine va rfl rfl rfl (q_fl 2 fld_55_2 rfl rfl rfl) ?_
          have hq := (ho23.mono hl65)
          obtain ⟨hrow_70, ho0_70, ho1_70, ho2_70, ho3_70, ho4_70, ho5_70, ho6_70, -⟩ := hq
          intro w hw; have hw := hw.unfold (i := 2) rfl hrow_70
          refine WR.here (C := CC F Γ64 [[(gh40_, .cells #[.pointer (some ⟨el.2, 0, none⟩), .string o21.place_name, .int .i64 o21.place_gen, .int .i64 o21.size, .int .i64 o21.last, .int .i64 o21.tail, .int .i64 o21.count, .int .i64 o21.bytes] 63 (0, 0))], row68, [(gl, .cells #[.pointer (some ⟨el.2, 0, none⟩), .string l.place_name, .int .i64 l.place_gen, .int .i64 l.size, .int .i64 l.last, .int .i64 l.tail, .int .i64 l.count, .int .i64 l.bytes] el.1 (0, 0))], [(g16, .cells #[.int .i64 l.place_gen] 2 (0, 0))], [(gh7_, .cells #[.pointer (some ⟨gh40_, 0, none⟩)] 26 (0, 0))]]) ?_ hw
          clear hw
          refine va rfl rfl rfl (q_ldl (i := 0) (v := .int .i64 o21.place_gen) rfl rfl Try.isAgg2 rfl rfl) ?_
          obtain ⟨z71, hz72, h⟩ := bnd h
          refine e_call (is := []) rfl rfl (call_run Try.call46 rfl rfl (by kernel_rfl)) rfl (fun w hp => t_num_PutNum o21.place_gen ho1_70 hp hz72) ?_
          rintro Γ73 U75 v76 hl74 ⟨A77, c78, row79, rfl, rfl, hr80, _⟩
          change WR _ _ _ (CC F Γ73 [row79, [(gh40_, .cells #[.pointer (some ⟨el.2, 0, none⟩), .string o21.place_name, .int .i64 o21.place_gen, .int .i64 o21.size, .int .i64 o21.last, .int .i64 o21.tail, .int .i64 o21.count, .int .i64 o21.bytes] 63 (0, 0))], row68, [(gl, .cells #[.pointer (some ⟨el.2, 0, none⟩), .string l.place_name, .int .i64 l.place_gen, .int .i64 l.size, .int .i64 l.last, .int .i64 l.tail, .int .i64 l.count, .int .i64 l.bytes] el.1 (0, 0))], [(g16, .cells #[.int .i64 l.place_gen] 2 (0, 0))], [(gh7_, .cells #[.pointer (some ⟨gh40_, 0, none⟩)] 26 (0, 0))]]) _ _ (upd _ 86 (.slice A77 z71.length c78))
          have hc85 := hr80.capz
          intro w hw; obtain ⟨Γ81, hw, hl82, hr83⟩ := hw.seal (i := 0) rfl; have hs84 := hr80.sl hl82 hr83
          refine WR.here (C := CC F Γ81 [[], [(gh40_, .cells #[.pointer (some ⟨el.2, 0, none⟩), .string o21.place_name, .int .i64 o21.place_gen, .int .i64 o21.size, .int .i64 o21.last, .int .i64 o21.tail, .int .i64 o21.count, .int .i64 o21.bytes] 63 (0, 0))], row68, [(gl, .cells #[.pointer (some ⟨el.2, 0, none⟩), .string l.place_name, .int .i64 l.place_gen, .int .i64 l.size, .int .i64 l.last, .int .i64 l.tail, .int .i64 l.count, .int .i64 l.bytes] el.1 (0, 0))], [(g16, .cells #[.int .i64 l.place_gen] 2 (0, 0))], [(gh7_, .cells #[.pointer (some ⟨gh40_, 0, none⟩)] 26 (0, 0))]]) ?_ hw
          clear hw
          obtain ⟨z86, hz87, h⟩ := bnd h
          refine e_call (is := []) rfl rfl (call_run Try.call34 rfl rfl (by kernel_rfl)) rfl (fun w hp => t_frame_Put hs84 hc85 hp hz87) ?_
          rintro Γ88 U90 v91 hl89 ⟨A92, c93, row94, rfl, rfl, hr95, hr96, _⟩
          change WR _ _ _ (CC F Γ88 [row94, [], [(gh40_, .cells #[.pointer (some ⟨el.2, 0, none⟩), .string o21.place_name, .int .i64 o21.place_gen, .int .i64 o21.size, .int .i64 o21.last, .int .i64 o21.tail, .int .i64 o21.count, .int .i64 o21.bytes] 63 (0, 0))], row68, [(gl, .cells #[.pointer (some ⟨el.2, 0, none⟩), .string l.place_name, .int .i64 l.place_gen, .int .i64 l.size, .int .i64 l.last, .int .i64 l.tail, .int .i64 l.count, .int .i64 l.bytes] el.1 (0, 0))], [(g16, .cells #[.int .i64 l.place_gen] 2 (0, 0))], [(gh7_, .cells #[.pointer (some ⟨gh40_, 0, none⟩)] 26 (0, 0))]]) _ _ (upd _ 87 (.tuple #[.slice A92 z86.1.length c93, .int .i64 z86.2]))
          refine va rfl rfl rfl (q_move (v := .tuple #[.slice A92 z86.1.length c93, .int .i64 z86.2]) rfl (by kernel_rfl)) ?_
          refine va rfl rfl rfl (q_extract (v := .slice A92 z86.1.length c93) rfl rfl rfl) ?_
          refine va rfl rfl rfl (q_extract (v := .int .i64 z86.2) rfl rfl rfl) ?_
          refine va rfl rfl rfl (q_assign (v := .slice A92 z86.1.length c93) rfl (by kernel_rfl)) ?_
          refine va rfl rfl rfl (q_assign (v := .int .i64 z86.2) rfl (by kernel_rfl)) ?_
          refine WR.nil ?_
          change WC _ _ _ _ _ _
          refine WC.seq ?_
          refine WC.seq ?_
          have hc101 := hr95.capz
          intro w hw; obtain ⟨Γ97, hw, hl98, hr99⟩ := hw.seal (i := 0) rfl; have hs100 := hr95.sl hl98 hr99
          refine WC.here (C := CC F Γ97 [[], [], [(gh40_, .cells #[.pointer (some ⟨el.2, 0, none⟩), .string o21.place_name, .int .i64 o21.place_gen, .int .i64 o21.size, .int .i64 o21.last, .int .i64 o21.tail, .int .i64 o21.count, .int .i64 o21.bytes] 63 (0, 0))], row68, [(gl, .cells #[.pointer (some ⟨el.2, 0, none⟩), .string l.place_name, .int .i64 l.place_gen, .int .i64 l.size, .int .i64 l.last, .int .i64 l.tail, .int .i64 l.count, .int .i64 l.bytes] el.1 (0, 0))], [(g16, .cells #[.int .i64 l.place_gen] 2 (0, 0))], [(gh7_, .cells #[.pointer (some ⟨gh40_, 0, none⟩)] 26 (0, 0))]]) ?_ hw
          clear hw
          intro w hw; have h0102 := hw.le
          refine WC.here (C := CC F Γ97 [[], [], [(gh40_, .cells #[.pointer (some ⟨el.2, 0, none⟩), .string o21.place_name, .int .i64 o21.place_gen, .int .i64 o21.size, .int .i64 o21.last, .int .i64 o21.tail, .int .i64 o21.count, .int .i64 o21.bytes] 63 (0, 0))], row68, [(gl, .cells #[.pointer (some ⟨el.2, 0, none⟩), .string l.place_name, .int .i64 l.place_gen, .int .i64 l.size, .int .i64 l.last, .int .i64 l.tail, .int .i64 l.count, .int .i64 l.bytes] el.1 (0, 0))], [(g16, .cells #[.int .i64 l.place_gen] 2 (0, 0))], [(gh7_, .cells #[.pointer (some ⟨gh40_, 0, none⟩)] 26 (0, 0))]]) ?_ hw; clear hw
          refine WC.held (CC F Γ97 [[], [], [(gh40_, .cells #[.pointer (some ⟨el.2, 0, none⟩), .string o21.place_name, .int .i64 o21.place_gen, .int .i64 o21.size, .int .i64 o21.last, .int .i64 o21.tail, .int .i64 o21.count, .int .i64 o21.bytes] 63 (0, 0))], [(gl, .cells #[.pointer (some ⟨el.2, 0, none⟩), .string l.place_name, .int .i64 l.place_gen, .int .i64 l.size, .int .i64 l.last, .int .i64 l.tail, .int .i64 l.count, .int .i64 l.bytes] el.1 (0, 0))], [(g16, .cells #[.int .i64 l.place_gen] 2 (0, 0))], [(gh7_, .cells #[.pointer (some ⟨gh40_, 0, none⟩)] 26 (0, 0))]]) (by kernel_rfl) (fun w hw => hw.drawn _) ?_
          change WH _ _ _ _ (CC F Γ97 [[], [], [(gh40_, .cells #[.pointer (some ⟨el.2, 0, none⟩), .string o21.place_name, .int .i64 o21.place_gen, .int .i64 o21.size, .int .i64 o21.last, .int .i64 o21.tail, .int .i64 o21.count, .int .i64 o21.bytes] 63 (0, 0))], row68, [(gl, .cells #[.pointer (some ⟨el.2, 0, none⟩), .string l.place_name, .int .i64 l.place_gen, .int .i64 l.size, .int .i64 l.last, .int .i64 l.tail, .int .i64 l.count, .int .i64 l.bytes] el.1 (0, 0))], [(g16, .cells #[.int .i64 l.place_gen] 2 (0, 0))], [(gh7_, .cells #[.pointer (some ⟨gh40_, 0, none⟩)] 26 (0, 0))]]) _ 13 #[false, false, false, false, false, false, false, false, false, false, false, false, false] _
          refine ht (i := 0) rfl (by kernel_rfl) rfl rfl rfl (fun w hw => hw.back (Gh.refl _) h0102 (.cons_cons _ (.cons_cons _ (.cons_cons _ (.cons _ (.cons_cons _ (.cons_cons _ (.cons_cons _ .slnil)))))))) (q_move (v := .pointer (some ⟨gl, 0, none⟩)) rfl (by kernel_rfl)) ?_
          refine ht (i := 1) rfl (by kernel_rfl) rfl rfl rfl (fun w hw => hw.back (Gh.refl _) h0102 (.cons_cons _ (.cons_cons _ (.cons_cons _ (.cons _ (.cons_cons _ (.cons_cons _ (.cons_cons _ .slnil)))))))) (q_nil (A := some ⟨gl, 0, none⟩) rfl rfl rfl) ?_
          refine ht (i := 2) rfl (by kernel_rfl) rfl rfl rfl (fun w hw => hw.back (Gh.refl _) h0102 (.cons_cons _ (.cons_cons _ (.cons_cons _ (.cons _ (.cons_cons _ (.cons_cons _ (.cons_cons _ .slnil)))))))) (q_fl 0 fld_63_0 rfl rfl rfl) ?_
          refine ht (i := 3) rfl (by kernel_rfl) rfl rfl rfl (fun w hw => hw.back (Gh.refl _) h0102 (.cons_cons _ (.cons_cons _ (.cons_cons _ (.cons _ (.cons_cons _ (.cons_cons _ (.cons_cons _ .slnil)))))))) (q_fl 0 fld_55_0 rfl rfl rfl) ?_
          refine ht (i := 4) rfl (by kernel_rfl) rfl rfl rfl (fun w hw => hw.back (Gh.refl _) h0102 (.cons_cons _ (.cons_cons _ (.cons_cons _ (.cons _ (.cons_cons _ (.cons_cons _ (.cons_cons _ .slnil)))))))) (q_ldl (i := 3) (v := .pointer (some ⟨el.2, 0, none⟩)) rfl rfl Try.isAgg24 rfl rfl) ?_
          refine ht (i := 5) rfl (by kernel_rfl) rfl rfl rfl (fun w hw => hw.back (Gh.refl _) h0102 (.cons_cons _ (.cons_cons _ (.cons_cons _ (.cons _ (.cons_cons _ (.cons_cons _ (.cons_cons _ .slnil)))))))) (q_move (v := .pointer (some ⟨gl, 0, none⟩)) rfl (by kernel_rfl)) ?_
          refine ht (i := 6) rfl (by kernel_rfl) rfl rfl rfl (fun w hw => hw.back (Gh.refl _) h0102 (.cons_cons _ (.cons_cons _ (.cons_cons _ (.cons _ (.cons_cons _ (.cons_cons _ (.cons_cons _ .slnil)))))))) (q_nil (A := some ⟨gl, 0, none⟩) rfl rfl rfl) ?_
          refine ht (i := 7) rfl (by kernel_rfl) rfl rfl rfl (fun w hw => hw.back (Gh.refl _) h0102 (.cons_cons _ (.cons_cons _ (.cons_cons _ (.cons _ (.cons_cons _ (.cons_cons _ (.cons_cons _ .slnil)))))))) (q_fl 0 fld_63_0 rfl rfl rfl) ?_
          refine ht (i := 8) rfl (by kernel_rfl) rfl rfl rfl (fun w hw => hw.back (Gh.refl _) h0102 (.cons_cons _ (.cons_cons _ (.cons_cons _ (.cons _ (.cons_cons _ (.cons_cons _ (.cons_cons _ .slnil)))))))) (q_ldla (i := 3) (vs := [.pointer (some ⟨el.2, 0, none⟩), .string l.place_name, .int .i64 l.place_gen]) rfl rfl Try.isAgg55 Try.sizeOf55 rfl rfl) ?_
          refine ht (i := 10) rfl (by kernel_rfl) rfl rfl rfl (fun w hw => hw.back (Gh.refl _) h0102 (.cons_cons _ (.cons_cons _ (.cons_cons _ (.cons _ (.cons_cons _ (.cons_cons _ (.cons_cons _ .slnil)))))))) (q_move (v := .slice A92 z86.1.length c93) rfl (by kernel_rfl)) ?_
          refine WH.lone (i := 9) (by kernel_rfl) rfl ?_
          obtain ⟨z103, hz104, h⟩ := bnd h
          refine vc rfl rfl rfl (q_call (call_run Try.call28 rfl rfl (by kernel_rfl)) (fun w hw => t_seglog_place_list (Γ := Gh.all w) (gp__0 := el.2) l.place_name ho0_61 l.place_gen ho1_61 (Sat.all w) hz104)) ?_
          refine WR.nil ?_
          refine WH.next (fun w hw => hw.back (Gh.refl _) h0102 (.cons_cons _ (.cons_cons _ (.cons_cons _ (.cons _ (.cons_cons _ (.cons_cons _ (.cons_cons _ .slnil)))))))) ?_
          refine WH.lone (i := 11) (by kernel_rfl) rfl ?_
          obtain ⟨hk105, h⟩ := chk_some h
          obtain ⟨z106, hz107, h⟩ := bnd h
          refine e_call (is := [3]) rfl rfl (call_run Try.call15 rfl rfl (by kernel_rfl)) rfl (fun w hp => t_disk_Disk_Append (hr69.mono (((hl74.trans hl82).trans hl89).trans hl98)) z103 (of_decide_eq_true hk105) hs100 hc101 hp hz107) ?_
          rintro Γ108 U110 v111 hl109 ⟨row112, rfl, rfl, hr113, hr114, _⟩
          change WR _ _ _ (CC F Γ108 [row112, [], [], [(gh40_, .cells #[.pointer (some ⟨el.2, 0, none⟩), .string o21.place_name, .int .i64 o21.place_gen, .int .i64 o21.size, .int .i64 o21.last, .int .i64 o21.tail, .int .i64 o21.count, .int .i64 o21.bytes] 63 (0, 0))], [(gl, .cells #[.pointer (some ⟨el.2, 0, none⟩), .string l.place_name, .int .i64 l.place_gen, .int .i64 l.size, .int .i64 l.last, .int .i64 l.tail, .int .i64 l.count, .int .i64 l.bytes] el.1 (0, 0))], [(g16, .cells #[.int .i64 l.place_gen] 2 (0, 0))], [(gh7_, .cells #[.pointer (some ⟨gh40_, 0, none⟩)] 26 (0, 0))]]) _ _ (upd _ 101 (.int .i64 z106.2))
          refine WR.nil ?_
          refine WH.next (fun w hw => hw.back hl109 h0102 (.cons _ (.cons_cons _ (.cons_cons _ (.cons_cons _ (.cons_cons _ (.cons_cons _ (.cons_cons _ .slnil)))))))) ?_
          refine ht (i := 12) rfl (by kernel_rfl) rfl rfl rfl (fun w hw => hw.back hl109 h0102 (.cons _ (.cons_cons _ (.cons_cons _ (.cons_cons _ (.cons_cons _ (.cons_cons _ (.cons_cons _ .slnil)))))))) (q_assign (v := .int .i64 z106.2) rfl (by kernel_rfl)) ?_
          refine WH.done (by kernel_rfl) ?_
          change WC _ _ _ _ _ _
          refine WC.rs ?_
          refine va rfl rfl rfl (q_move (v := .int .i64 z106.2) rfl (by kernel_rfl)) ?_
          refine va rfl rfl rfl (q_neq rfl rfl rfl) ?_
          refine WR.nil ?_
          change WC _ _ _ _ _ _
          refine WC.cif h (by kernel_rfl) (fun hb115 h => ?_) (fun hb115 h => ?_)
          · skip
            refine WC.rs ?_
            refine va rfl rfl rfl (q_ldl (i := 6) (v := .pointer (some ⟨gh40_, 0, none⟩)) rfl rfl Try.isAgg26 rfl rfl) ?_
            refine va rfl rfl rfl (q_nil (A := some ⟨gh40_, 0, none⟩) rfl rfl rfl) ?_
            refine va rfl rfl rfl (q_fl 0 fld_63_0 rfl rfl rfl) ?_
            refine va rfl rfl rfl (q_ldla (i := 3) (vs := [.pointer (some ⟨el.2, 0, none⟩), .string o21.place_name, .int .i64 o21.place_gen]) rfl rfl Try.isAgg55 Try.sizeOf55 rfl rfl) ?_
            refine va rfl rfl rfl (q_mkfn (v := .func (.func 47) #[] #[.pointer (some ⟨gh7_, 0, none⟩)]) rfl (by kernel_rfl)) ?_
            intro w hw; have hw := hw.fold (is := [3]) rfl hrow_70
            refine WR.here (C := CC F Γ108 [row22, row112, [], [], [(gl, .cells #[.pointer (some ⟨el.2, 0, none⟩), .string l.place_name, .int .i64 l.place_gen, .int .i64 l.size, .int .i64 l.last, .int .i64 l.tail, .int .i64 l.count, .int .i64 l.bytes] el.1 (0, 0))], [(g16, .cells #[.int .i64 l.place_gen] 2 (0, 0))], [(gh7_, .cells #[.pointer (some ⟨gh40_, 0, none⟩)] 26 (0, 0))]]) ?_ hw
            clear hw
            obtain ⟨rowT117, hT118⟩ : ∃ r : Rowb, r = ([[(gh7_, .cells #[.pointer (some ⟨gh40_, 0, none⟩)] 26 (0, 0))], row22] : List Rowb).flatten := ⟨_, rfl⟩
            refine WR.sub (fun w hw => hw.fold (is := [6, 0]) rfl hT118) ?_
            obtain ⟨z119, hz120, h⟩ := bnd h
            refine e_call (is := [1, 0]) rfl rfl (call_run Try.call29 rfl rfl (by kernel_rfl)) rfl (fun w hp => t_seglog_place_remove (caps := #[.pointer (some ⟨gh7_, 0, none⟩)]) hr113 o21.place_name ho0_70 o21.place_gen ho1_70 (fun x y => m_seglog_Log_Rewrite_2 x y o21) (fun {Γq_ wq_} x hx y hy hle hp2 {_} hq => Calls.mono (t_seglog_Log_Rewrite_2 (Γ := Γq_) x hx y hy ((ho23.mono (((((hl65.trans hl74).trans hl82).trans hl89).trans hl98).trans hl109)).mono hle) (by subst hT118; exact hp2.parts) hq) (fun e w2 ho => Outc.quiet (by subst hT118; exact hp2.parts) ho (fun _ _ _ hr => ⟨hr.1, hr.2.1⟩))) Try.call47 hp hz120) ?_
            rintro Γ121 U123 v124 hl122 ⟨row125, rfl, rfl, hd126⟩
            change WR _ _ _ (CC F Γ121 [row125, rowT117, [], [], [(gl, .cells #[.pointer (some ⟨el.2, 0, none⟩), .string l.place_name, .int .i64 l.place_gen, .int .i64 l.size, .int .i64 l.last, .int .i64 l.tail, .int .i64 l.count, .int .i64 l.bytes] el.1 (0, 0))], [(g16, .cells #[.int .i64 l.place_gen] 2 (0, 0))]]) _ _ (upd _ 109 (.tuple #[]))
            refine WR.sub (fun w hw => hw.unfold (i := 1) rfl hT118) ?_
            change WR _ _ _ (CC F Γ121 [[(gh7_, .cells #[.pointer (some ⟨gh40_, 0, none⟩)] 26 (0, 0))], row22, row125, [], [], [(gl, .cells #[.pointer (some ⟨el.2, 0, none⟩), .string l.place_name, .int .i64 l.place_gen, .int .i64 l.size, .int .i64 l.last, .int .i64 l.tail, .int .i64 l.count, .int .i64 l.bytes] el.1 (0, 0))], [(g16, .cells #[.int .i64 l.place_gen] 2 (0, 0))]]) _ _ _
            refine WR.nil ?_
            change WC _ _ _ _ _ _
            refine WC.rs ?_
            refine va rfl rfl rfl (q_move (v := .int .i64 z106.2) rfl (by kernel_rfl)) ?_
            refine va rfl rfl rfl (q_assign (v := .int .i64 z106.2) rfl (by kernel_rfl)) ?_
            refine WR.nil ?_
            change WC _ _ _ _ _ _
            refine WC.ret ?_
            intro w hw
            have hw := hw.fold (is := [5]) rfl hrow_61
            obtain rfl := Option.some.inj h
            subst hF
            exact end_e (is := [0, 2]) (by kernel_rfl) hw rfl ⟨rowl, row125, rfl, rfl, (hl.mono (((((((hl20.trans hl65).trans hl74).trans hl82).trans hl89).trans hl98).trans hl109).trans hl122)), hd126, hr114, trivial⟩
          · skip
            refine WC.skip ?_
            change WC _ _ _ _ _ _
            refine WC.rs ?_
            refine va rfl rfl rfl (q_move (v := .pointer (some ⟨gl, 0, none⟩)) rfl (by kernel_rfl)) ?_
            refine va rfl rfl rfl (q_nil (A := some ⟨gl, 0, none⟩) rfl rfl rfl) ?_
            refine va rfl rfl rfl (q_fl 0 fld_63_0 rfl rfl rfl) ?_
            refine va rfl rfl rfl (q_fl 0 fld_55_0 rfl rfl rfl) ?_
            refine va rfl rfl rfl (q_ldl (i := 4) (v := .pointer (some ⟨el.2, 0, none⟩)) rfl rfl Try.isAgg24 rfl rfl) ?_
            obtain ⟨z128, hz129, h⟩ := bnd h
            refine e_call (is := [0]) rfl rfl (call_run Try.call33 rfl rfl (by kernel_rfl)) rfl (fun w hp => t_disk_Disk_Sync hr113 hp hz129) ?_
            rintro Γ130 U132 v133 hl131 ⟨row134, rfl, rfl, hr135, _⟩
            change WR _ _ _ (CC F Γ130 [row134, [], [], [(gh40_, .cells #[.pointer (some ⟨el.2, 0, none⟩), .string o21.place_name, .int .i64 o21.place_gen, .int .i64 o21.size, .int .i64 o21.last, .int .i64 o21.tail, .int .i64 o21.count, .int .i64 o21.bytes] 63 (0, 0))], [(gl, .cells #[.pointer (some ⟨el.2, 0, none⟩), .string l.place_name, .int .i64 l.place_gen, .int .i64 l.size, .int .i64 l.last, .int .i64 l.tail, .int .i64 l.count, .int .i64 l.bytes] el.1 (0, 0))], [(g16, .cells #[.int .i64 l.place_gen] 2 (0, 0))], [(gh7_, .cells #[.pointer (some ⟨gh40_, 0, none⟩)] 26 (0, 0))]]) _ _ (upd _ 116 (.tuple #[]))
            refine WR.nil ?_
            change WC _ _ _ _ _ _
            refine WC.rs ?_
            refine va rfl rfl rfl (q_ldl (i := 6) (v := .pointer (some ⟨gh40_, 0, none⟩)) rfl rfl Try.isAgg26 rfl rfl) ?_
            refine va rfl rfl rfl (q_nil (A := some ⟨gh40_, 0, none⟩) rfl rfl rfl) ?_
            refine va rfl rfl rfl (q_fl 0 fld_63_0 rfl rfl rfl) ?_
            refine va rfl rfl rfl (q_ldla (i := 3) (vs := [.pointer (some ⟨el.2, 0, none⟩), .string o21.place_name, .int .i64 o21.place_gen]) rfl rfl Try.isAgg55 Try.sizeOf55 rfl rfl) ?_
            refine va rfl rfl rfl (q_mkfn (v := .func (.func 48) #[] #[.pointer (some ⟨g16, 0, none⟩)]) rfl (by kernel_rfl)) ?_
            obtain ⟨rowT136, hT137⟩ : ∃ r : Rowb, r = ([[(g16, .cells #[.int .i64 l.place_gen] 2 (0, 0))]] : List Rowb).flatten := ⟨_, rfl⟩
            refine WR.sub (fun w hw => hw.fold (is := [5]) rfl hT137) ?_
            obtain ⟨z138, hz139, h⟩ := bnd h
            refine e_call (is := [1, 0]) rfl rfl (call_run Try.call29 rfl rfl (by kernel_rfl)) rfl (fun w hp => t_seglog_place_remove (caps := #[.pointer (some ⟨g16, 0, none⟩)]) hr135 o21.place_name ho0_70 o21.place_gen ho1_70 (fun x y => m_seglog_Log_Rewrite_3 x y l.place_gen) (fun {Γq_ wq_} x hx y hy hle hp2 {_} hq => Calls.mono (t_seglog_Log_Rewrite_3 (Γ := Γq_) x hx y hy l.place_gen ho1_12 (by subst hT137; exact hp2.parts) hq) (fun e w2 ho => Outc.quiet (by subst hT137; exact hp2.parts) ho (fun _ _ _ hr => ⟨hr.1, hr.2.1⟩))) Try.call48 hp hz139) ?_
            rintro Γ140 U142 v143 hl141 ⟨row144, rfl, rfl, hd145⟩
            change WR _ _ _ (CC F Γ140 [row144, rowT136, [], [], [(gh40_, .cells #[.pointer (some ⟨el.2, 0, none⟩), .string o21.place_name, .int .i64 o21.place_gen, .int .i64 o21.size, .int .i64 o21.last, .int .i64 o21.tail, .int .i64 o21.count, .int .i64 o21.bytes] 63 (0, 0))], [(gl, .cells #[.pointer (some ⟨el.2, 0, none⟩), .string l.place_name, .int .i64 l.place_gen, .int .i64 l.size, .int .i64 l.last, .int .i64 l.tail, .int .i64 l.count, .int .i64 l.bytes] el.1 (0, 0))], [(gh7_, .cells #[.pointer (some ⟨gh40_, 0, none⟩)] 26 (0, 0))]]) _ _ (upd _ 122 (.tuple #[]))
            refine WR.sub (fun w hw => hw.unfold (i := 1) rfl hT137) ?_
            change WR _ _ _ (CC F Γ140 [[(g16, .cells #[.int .i64 l.place_gen] 2 (0, 0))], row144, [], [], [(gh40_, .cells #[.pointer (some ⟨el.2, 0, none⟩), .string o21.place_name, .int .i64 o21.place_gen, .int .i64 o21.size, .int .i64 o21.last, .int .i64 o21.tail, .int .i64 o21.count, .int .i64 o21.bytes] 63 (0, 0))], [(gl, .cells #[.pointer (some ⟨el.2, 0, none⟩), .string l.place_name, .int .i64 l.place_gen, .int .i64 l.size, .int .i64 l.last, .int .i64 l.tail, .int .i64 l.count, .int .i64 l.bytes] el.1 (0, 0))], [(gh7_, .cells #[.pointer (some ⟨gh40_, 0, none⟩)] 26 (0, 0))]]) _ _ _
            refine WR.nil ?_
            change WC _ _ _ _ _ _
            refine WC.rs ?_
            refine va rfl rfl rfl (q_move (v := .pointer (some ⟨gl, 0, none⟩)) rfl (by kernel_rfl)) ?_
            refine va rfl rfl rfl (q_nil (A := some ⟨gl, 0, none⟩) rfl rfl rfl) ?_
            refine va rfl rfl rfl (q_fl 0 fld_63_0 rfl rfl rfl) ?_
            refine va rfl rfl rfl (q_fl 0 fld_55_0 rfl rfl rfl) ?_
            refine va rfl rfl rfl (q_ldl (i := 5) (v := .pointer (some ⟨el.2, 0, none⟩)) rfl rfl Try.isAgg24 rfl rfl) ?_
            obtain ⟨z146, hz147, h⟩ := bnd h
            refine e_call (is := [1]) rfl rfl (call_run Try.call33 rfl rfl (by kernel_rfl)) rfl (fun w hp => t_disk_Disk_Sync hd145 hp hz147) ?_
            rintro Γ148 U150 v151 hl149 ⟨row152, rfl, rfl, hr153, _⟩
            change WR _ _ _ (CC F Γ148 [row152, [(g16, .cells #[.int .i64 l.place_gen] 2 (0, 0))], [], [], [(gh40_, .cells #[.pointer (some ⟨el.2, 0, none⟩), .string o21.place_name, .int .i64 o21.place_gen, .int .i64 o21.size, .int .i64 o21.last, .int .i64 o21.tail, .int .i64 o21.count, .int .i64 o21.bytes] 63 (0, 0))], [(gl, .cells #[.pointer (some ⟨el.2, 0, none⟩), .string l.place_name, .int .i64 l.place_gen, .int .i64 l.size, .int .i64 l.last, .int .i64 l.tail, .int .i64 l.count, .int .i64 l.bytes] el.1 (0, 0))], [(gh7_, .cells #[.pointer (some ⟨gh40_, 0, none⟩)] 26 (0, 0))]]) _ _ (upd _ 128 (.tuple #[]))
            refine WR.nil ?_
            change WC _ _ _ _ _ _
            refine WC.rs ?_
            refine va rfl rfl rfl (q_move (v := .pointer (some ⟨gl, 0, none⟩)) rfl (by kernel_rfl)) ?_
            refine va rfl rfl rfl (q_ldl (i := 6) (v := .pointer (some ⟨gh40_, 0, none⟩)) rfl rfl Try.isAgg26 rfl rfl) ?_
            refine va rfl rfl rfl (q_nil (A := some ⟨gh40_, 0, none⟩) rfl rfl rfl) ?_
            refine va rfl rfl rfl (q_ldla (i := 4) (vs := [.pointer (some ⟨el.2, 0, none⟩), .string o21.place_name, .int .i64 o21.place_gen, .int .i64 o21.size, .int .i64 o21.last, .int .i64 o21.tail, .int .i64 o21.count, .int .i64 o21.bytes]) rfl rfl Try.isAgg63 Try.sizeOf63 rfl rfl) ?_
            refine va rfl rfl rfl (q_nil (A := some ⟨gl, 0, none⟩) rfl rfl rfl) ?_
            refine e_st (i := 5) (v := .agg #[.pointer (some ⟨el.2, 0, none⟩), .string o21.place_name, .int .i64 o21.place_gen, .int .i64 o21.size, .int .i64 o21.last, .int .i64 o21.tail, .int .i64 o21.count, .int .i64 o21.bytes]) (new := #[.pointer (some ⟨el.2, 0, none⟩), .string o21.place_name, .int .i64 o21.place_gen, .int .i64 o21.size, .int .i64 o21.last, .int .i64 o21.tail, .int .i64 o21.count, .int .i64 o21.bytes]) rfl Try.sizeOf63 rfl rfl rfl rfl (by kernel_rfl) rfl rfl rfl rfl ?_
            refine WR.nil ?_
            change WC _ _ _ _ _ _
            refine WC.rs ?_
            refine va rfl rfl rfl (q_assign (v := .int .i64 0) rfl (by kernel_rfl)) ?_
            refine WR.nil ?_
            change WC _ _ _ _ _ _
            refine WC.ret ?_
            intro w hw
            obtain ⟨row_154, hrow_154, hob_154⟩ : ∃ rw : Rowb, rw = ([[(gl, .cells #[.pointer (some ⟨el.2, 0, none⟩), .string o21.place_name, .int .i64 o21.place_gen, .int .i64 o21.size, .int .i64 o21.last, .int .i64 o21.tail, .int .i64 o21.count, .int .i64 o21.bytes] el.1 (0, 0))]] : List Rowb).flatten ∧ Oseglog_Log.ob el Γ148 gl rw (⟨o21.place_name, o21.place_gen, o21.size, o21.last, o21.tail, o21.count, o21.bytes⟩ : Oseglog_Log) := ⟨_, rfl, rfl, ho0_70, ho1_70, ho2_70, ho3_70, ho4_70, ho5_70, ho6_70, trivial⟩
            have hw := hw.fold (is := [5]) rfl hrow_154
            obtain rfl := Option.some.inj h
            subst hF
            exact end_e (is := [0, 0]) (by kernel_rfl) hw rfl ⟨row_154, row152, rfl, rfl, hob_154, hr153, (show I64 0 by decide), trivial⟩
      · refine ⟨_, rfl, ?_⟩
        refine e_alloc Try.zeroValue26 rfl rfl rfl rfl ?_
        intro g16
        refine WR.nil ?_
        refine WH.next (fun w hw => hw.back (Gh.refl _) h015 (.cons _ (.cons_cons _ (.cons _ .slnil)))) ?_
        refine WH.lone (i := 9) (by kernel_rfl) rfl ?_
        refine e_box (v := .agg #[.pointer (some ⟨el.2, 0, none⟩), .string l.place_name, .int .i64 l.place_gen, .int .i64 l.size, .int .i64 0, .int .i64 0, .int .i64 0, .int .i64 0]) rfl rfl rfl rfl (by kernel_rfl) ?_
        intro gh40_
        refine WR.nil ?_
        refine WH.next (fun w hw => hw.back (Gh.refl _) h015 (.cons _ (.cons _ (.cons_cons _ (.cons _ .slnil))))) ?_
        refine WH.lone (i := 11) (by kernel_rfl) rfl ?_
        refine e_st (i := 1) (v := .pointer (some ⟨gh40_, 0, none⟩)) (new := #[.pointer (some ⟨gh40_, 0, none⟩)]) rfl Try.sizeOf26 rfl rfl rfl rfl (by kernel_rfl) rfl rfl rfl rfl ?_
        refine WR.nil ?_
        refine WH.next (fun w hw => hw.back (Gh.refl _) h015 (.cons _ (.cons _ (.cons_cons _ (.cons _ .slnil))))) ?_
        refine WH.done (by kernel_rfl) ?_
        change WC _ _ _ _ _ _
        refine WC.rs ?_
        refine va rfl rfl rfl (q_ldl (i := 1) (v := .pointer (some ⟨gh40_, 0, none⟩)) rfl rfl Try.isAgg26 rfl rfl) ?_
        refine va rfl rfl rfl (q_nil (A := some ⟨gh40_, 0, none⟩) rfl rfl rfl) ?_
        refine va rfl rfl rfl (q_fl 0 fld_63_0 rfl rfl rfl) ?_
        refine va rfl rfl rfl (q_fl 2 fld_55_2 rfl rfl rfl) ?_
        refine va rfl rfl rfl (q_ldl (i := 0) (v := .int .i64 l.place_gen) rfl rfl Try.isAgg2 rfl rfl) ?_
        refine va rfl rfl rfl (q_add rfl rfl rfl) ?_
        refine va rfl rfl rfl (q_nil (A := some ⟨gh40_, 0, none⟩) rfl rfl rfl) ?_
        refine va rfl rfl rfl (q_fl 0 fld_63_0 rfl rfl rfl) ?_
        refine va rfl rfl rfl (q_fl 2 fld_55_2 rfl rfl rfl) ?_
        refine e_st (i := 0) (v := .int .i64 (w64 (l.place_gen + 1))) (new := #[.pointer (some ⟨el.2, 0, none⟩), .string l.place_name, .int .i64 (w64 (l.place_gen + 1)), .int .i64 l.size, .int .i64 0, .int .i64 0, .int .i64 0, .int .i64 0]) rfl Try.sizeOf2 rfl rfl rfl rfl (by kernel_rfl) rfl rfl rfl rfl ?_
        refine WR.nil ?_
        change WC _ _ _ _ _ _
        refine WC.rs ?_
        refine va rfl rfl rfl (q_move (v := .pointer (some ⟨gl, 0, none⟩)) rfl (by kernel_rfl)) ?_
        refine va rfl rfl rfl (q_nil (A := some ⟨gl, 0, none⟩) rfl rfl rfl) ?_
        refine va rfl rfl rfl (q_fl 0 fld_63_0 rfl rfl rfl) ?_
        refine va rfl rfl rfl (q_fl 2 fld_55_2 rfl rfl rfl) ?_
        refine va rfl rfl rfl (q_ldl (i := 2) (v := .int .i64 l.place_gen) rfl rfl Try.isAgg2 rfl rfl) ?_
        refine e_alloc Try.zeroValue2 rfl rfl rfl rfl ?_
        intro g17
        refine e_st (i := 0) (v := .int .i64 l.place_gen) (new := #[.int .i64 l.place_gen]) rfl Try.sizeOf2 rfl rfl rfl rfl (by kernel_rfl) rfl rfl rfl rfl ?_
        refine WR.nil ?_
        change WC _ _ _ _ _ _
        refine WC.seq ?_
        refine WC.rs ?_
        refine va rfl rfl rfl (q_move (v := .slice Alist list.length clist) rfl (by kernel_rfl)) ?_
        refine va rfl rfl rfl (q_len_slice rfl Try.underlying22 rfl) ?_
        refine va rfl rfl rfl (q_move (v := .int .i64 0) rfl (by kernel_rfl)) ?_
        refine WR.nil ?_
        change WC _ _ _ _ _ _
        refine WC.block ?_
        intro w hw; have hw := hw.fold (is := [3]) rfl hrow_12
        refine WC.here (C := CC F Γ [rowl, [(g17, .cells #[.int .i64 l.place_gen] 2 (0, 0))], [(gh40_, .cells #[.pointer (some ⟨el.2, 0, none⟩), .string l.place_name, .int .i64 (w64 (l.place_gen + 1)), .int .i64 l.size, .int .i64 0, .int .i64 0, .int .i64 0, .int .i64 0] 63 (0, 0))], [(g16, .cells #[.pointer (some ⟨gh40_, 0, none⟩)] 26 (0, 0))], rowdk0]) ?_ hw
        clear hw
        obtain ⟨row_19, hrow_19, hob_19⟩ : ∃ rw : Rowb, rw = ([[(gh40_, .cells #[.pointer (some ⟨el.2, 0, none⟩), .string l.place_name, .int .i64 (w64 (l.place_gen + 1)), .int .i64 l.size, .int .i64 0, .int .i64 0, .int .i64 0, .int .i64 0] 63 (0, 0))]] : List Rowb).flatten ∧ Oseglog_Log.ob (63, el.2) Γ gh40_ rw (⟨l.place_name, (w64 (l.place_gen + 1)), l.size, 0, 0, 0, 0⟩ : Oseglog_Log) := ⟨_, rfl, rfl, ho0_12, (w64_r _), ho2_12, (show I64 0 by decide), (show I64 0 by decide), (show I64 0 by decide), (show I64 0 by decide), trivial⟩
        intro w hw; have hw := hw.fold (is := [2]) rfl hrow_19
        refine WC.here (C := CC F Γ [row_19, rowl, [(g17, .cells #[.int .i64 l.place_gen] 2 (0, 0))], [(g16, .cells #[.pointer (some ⟨gh40_, 0, none⟩)] 26 (0, 0))], rowdk0]) ?_ hw
        clear hw
        refine WC.forI h (fun (i29 : Nat) (s : Oseglog_Log × Odisk_Disk) σ w => match s with | (o22, o25) => ∃ (Γ20 : Gh), ∃ (row23 : Rowb), ∃ (row26 : Rowb), slots σ [(0, .pointer (some ⟨gl, 0, none⟩)), (7, .pointer (some ⟨g16, 0, none⟩)), (8, .pointer (some ⟨g17, 0, none⟩)), (55, .slice Alist list.length clist), (56, .int .i64 ((list.length : Nat) : Int)), (57, .int .i64 ((i29 : Nat) : Int))] ∧ CC F Γ20 [row23, rowl, [(g17, .cells #[.int .i64 l.place_gen] 2 (0, 0))], [(g16, .cells #[.pointer (some ⟨gh40_, 0, none⟩)] 26 (0, 0))], row26] w ∧ Gh.le Γ Γ20 ∧ Oseglog_Log.ob (63, el.2) Γ20 gh40_ row23 o22 ∧ Odisk_Disk.ob edk0 Γ20 el.2 row26 o25 ∧ True) ?_ ?_
        · skip
          intro w hw
          exact ⟨Γ, row_19, rowdk0, (sl_ (by kernel_rfl)), hw, (Gh.refl _), hob_19, hdk0, trivial⟩
        rintro f28 i29 ⟨o22, o25⟩ σ w hi30 hlt31 hge32 ⟨Γ20, row23, row26, hsl, hw, hl21, ho24, ho27, -⟩
        refine Wpt.slots hsl ?_
        refine WC.here (C := CC F Γ20 [row23, rowl, [(g17, .cells #[.int .i64 l.place_gen] 2 (0, 0))], [(g16, .cells #[.pointer (some ⟨gh40_, 0, none⟩)] 26 (0, 0))], row26]) ?_ hw
        clear hw hsl
        refine WC.rs ?_
        refine va rfl rfl rfl (q_lss rfl rfl rfl) ?_
        refine WR.nil ?_
        change WC _ _ _ _ _ _
        refine WC.seq ?_
        refine WC.cond (b := (decide (((i29 : Nat) : Int) < ((list.length : Nat) : Int)))) (by kernel_rfl) (fun hb33 => ?_) (fun hb33 => ?_)
        · skip
          have hl34 := ilt hb33
          have h := hlt31 hl34
          refine WC.skip ?_
          change WC _ _ _ _ _ _
          refine WC.seq ?_
          refine WC.block ?_
          refine WC.rs ?_
          refine va rfl rfl rfl (q_ixn (i := i29) Try.underlying22 Try.sizeOf31 rfl rfl rfl hl34 ((hlist.mono hl21).some_ hl34)) ?_
          obtain ⟨A35, c36, hx37⟩ := (hlist.mono hl21).slT_at i29
          refine va rfl rfl rfl (q_ld (c := 0) (v := .slice A35 (gt list i29).length c36) (hx37 hl34).2 rfl Try.isAgg31 rfl rfl) ?_
          refine va rfl rfl rfl (q_assign (v := .slice A35 (gt list i29).length c36) rfl (by kernel_rfl)) ?_
          refine WR.nil ?_
          change WC _ _ _ _ _ _
          refine WC.rs ?_
          refine va rfl rfl rfl (q_ldl (i := 3) (v := .pointer (some ⟨gh40_, 0, none⟩)) rfl rfl Try.isAgg26 rfl rfl) ?_
          refine va rfl rfl rfl (q_move (v := .slice A35 (gt list i29).length c36) rfl (by kernel_rfl)) ?_
          obtain ⟨z38, hz39, h⟩ := bnd h
          refine e_call (is := [0, 3]) rfl rfl (call_run Try.call10 rfl rfl (by kernel_rfl)) rfl (fun w hp => t_seglog_Log_Append ho24 (hx37 hl34).1.2 (hx37 hl34).1.1 ho27 hp hz39) ?_
          rintro Γ40 U42 v43 hl41 ⟨row44, row46, rfl, rfl, hr45, hr47, hr48, _⟩
          change WR _ _ _ (CC F Γ40 [row44, row46, rowl, [(g17, .cells #[.int .i64 l.place_gen] 2 (0, 0))], [(g16, .cells #[.pointer (some ⟨gh40_, 0, none⟩)] 26 (0, 0))]]) _ _ (upd _ 63 (.int .i64 z38.2.2))
          refine va rfl rfl rfl (q_assign (v := .int .i64 z38.2.2) rfl (by kernel_rfl)) ?_
          refine WR.nil ?_
          change WC _ _ _ _ _ _
          refine WC.rs ?_
          refine va rfl rfl rfl (q_move (v := .int .i64 z38.2.2) rfl (by kernel_rfl)) ?_
          refine va rfl rfl rfl (q_neq rfl rfl rfl) ?_
          refine WR.nil ?_
          change WC _ _ _ _ _ _
          refine WC.cif h (by kernel_rfl) (fun hb49 h => ?_) (fun hb49 h => ?_)
          · skip
            refine WC.rs ?_
            refine va rfl rfl rfl (q_ldl (i := 4) (v := .pointer (some ⟨gh40_, 0, none⟩)) rfl rfl Try.isAgg26 rfl rfl) ?_
            refine va rfl rfl rfl (q_nil (A := some ⟨gh40_, 0, none⟩) rfl rfl rfl) ?_
            refine va rfl rfl rfl (q_fl 0 fld_63_0 rfl rfl rfl) ?_
            have hq := hr45
            obtain ⟨hrow_50, ho0_50, ho1_50, ho2_50, ho3_50, ho4_50, ho5_50, ho6_50, -⟩ := hq
            intro w hw; have hw := hw.unfold (i := 0) rfl hrow_50
            refine WR.here (C := CC F Γ40 [[(gh40_, .cells #[.pointer (some ⟨el.2, 0, none⟩), .string z38.1.place_name, .int .i64 z38.1.place_gen, .int .i64 z38.1.size, .int .i64 z38.1.last, .int .i64 z38.1.tail, .int .i64 z38.1.count, .int .i64 z38.1.bytes] 63 (0, 0))], row46, rowl, [(g17, .cells #[.int .i64 l.place_gen] 2 (0, 0))], [(g16, .cells #[.pointer (some ⟨gh40_, 0, none⟩)] 26 (0, 0))]]) ?_ hw
            clear hw
            refine va rfl rfl rfl (q_ldla (i := 0) (vs := [.pointer (some ⟨el.2, 0, none⟩), .string z38.1.place_name, .int .i64 z38.1.place_gen]) rfl rfl Try.isAgg55 Try.sizeOf55 rfl rfl) ?_
            refine va rfl rfl rfl (q_mkfn (v := .func (.func 45) #[] #[.pointer (some ⟨g16, 0, none⟩)]) rfl (by kernel_rfl)) ?_
            intro w hw; have hw := hw.fold (is := [0]) rfl hrow_50
            refine WR.here (C := CC F Γ40 [row44, row46, rowl, [(g17, .cells #[.int .i64 l.place_gen] 2 (0, 0))], [(g16, .cells #[.pointer (some ⟨gh40_, 0, none⟩)] 26 (0, 0))]]) ?_ hw
            clear hw
            obtain ⟨rowT52, hT53⟩ : ∃ r : Rowb, r = ([[(g16, .cells #[.pointer (some ⟨gh40_, 0, none⟩)] 26 (0, 0))], row44] : List Rowb).flatten := ⟨_, rfl⟩
            refine WR.sub (fun w hw => hw.fold (is := [4, 0]) rfl hT53) ?_
            obtain ⟨z54, hz55, h⟩ := bnd h
            refine e_call (is := [1, 0]) rfl rfl (call_run Try.call29 rfl rfl (by kernel_rfl)) rfl (fun w hp => t_seglog_place_remove (caps := #[.pointer (some ⟨g16, 0, none⟩)]) hr47 z38.1.place_name ho0_50 z38.1.place_gen ho1_50 (fun x y => m_seglog_Log_Rewrite_1 x y z38.1) (fun {Γq_ wq_} x hx y hy hle hp2 {_} hq => Calls.mono (t_seglog_Log_Rewrite_1 (Γ := Γq_) x hx y hy (hr45.mono hle) (by subst hT53; exact hp2.parts) hq) (fun e w2 ho => Outc.quiet (by subst hT53; exact hp2.parts) ho (fun _ _ _ hr => ⟨hr.1, hr.2.1⟩))) Try.call45 hp hz55) ?_
            rintro Γ56 U58 v59 hl57 ⟨row60, rfl, rfl, hd61⟩
            change WR _ _ _ (CC F Γ56 [row60, rowT52, rowl, [(g17, .cells #[.int .i64 l.place_gen] 2 (0, 0))]]) _ _ (upd _ 71 (.tuple #[]))
            refine WR.sub (fun w hw => hw.unfold (i := 1) rfl hT53) ?_
            change WR _ _ _ (CC F Γ56 [[(g16, .cells #[.pointer (some ⟨gh40_, 0, none⟩)] 26 (0, 0))], row44, row60, rowl, [(g17, .cells #[.int .i64 l.place_gen] 2 (0, 0))]]) _ _ _
            refine WR.nil ?_
            change WC _ _ _ _ _ _
            refine WC.rs ?_
            refine va rfl rfl rfl (q_move (v := .int .i64 z38.2.2) rfl (by kernel_rfl)) ?_
            refine va rfl rfl rfl (q_assign (v := .int .i64 z38.2.2) rfl (by kernel_rfl)) ?_
            refine WR.nil ?_
            change WC _ _ _ _ _ _
            refine WC.ret ?_
            intro w hw
            obtain rfl := Option.some.inj h
            subst hF
            exact end_e (is := [3, 2]) (by kernel_rfl) hw rfl ⟨rowl, row60, rfl, rfl, (hl.mono ((hl21.trans hl41).trans hl57)), hd61, hr48, trivial⟩
          · skip
            refine WC.skip ?_
            change WC _ _ _ _ _ _
            refine WC.region ?_
            refine va rfl rfl rfl (q_add_r (r := ((i29 + 1 : Nat) : Int)) rfl rfl rfl (ctr_len hl34 (hlist.mono hl21).le)) ?_
            refine va rfl rfl rfl (q_move (v := .int .i64 ((i29 + 1 : Nat) : Int)) rfl (by kernel_rfl)) ?_
            refine WR.nil ?_
            intro w hw
            exact ⟨hl34, (z38.1, z38.2.1), h, Γ40, row44, row46, (sl_ (by kernel_rfl)), (hw.only (is := [0, 1, 1, 1, 0]) rfl), (hl21.trans hl41), hr45, hr47, trivial⟩
        · skip
          have h := hge32 (ige hb33)
          refine WC.exit ?_
          change WC _ _ _ _ _ _
          refine WC.rs ?_
          refine va rfl rfl rfl (q_move (v := .pointer (some ⟨gl, 0, none⟩)) rfl (by kernel_rfl)) ?_
          refine va rfl rfl rfl (q_nil (A := some ⟨gl, 0, none⟩) rfl rfl rfl) ?_
          refine va rfl rfl rfl (q_fl 0 fld_63_0 rfl rfl rfl) ?_
          refine va rfl rfl rfl (q_fl 0 fld_55_0 rfl rfl rfl) ?_
          have hq := (hl.mono hl21)
          obtain ⟨hrow_62, ho0_62, ho1_62, ho2_62, ho3_62, ho4_62, ho5_62, ho6_62, -⟩ := hq
          intro w hw; have hw := hw.unfold (i := 1) rfl hrow_62
          refine WR.here (C := CC F Γ20 [[(gl, .cells #[.pointer (some ⟨el.2, 0, none⟩), .string l.place_name, .int .i64 l.place_gen, .int .i64 l.size, .int .i64 l.last, .int .i64 l.tail, .int .i64 l.count, .int .i64 l.bytes] el.1 (0, 0))], row23, [(g17, .cells #[.int .i64 l.place_gen] 2 (0, 0))], [(g16, .cells #[.pointer (some ⟨gh40_, 0, none⟩)] 26 (0, 0))], row26]) ?_ hw
          clear hw
          refine va rfl rfl rfl (q_ldl (i := 0) (v := .pointer (some ⟨el.2, 0, none⟩)) rfl rfl Try.isAgg24 rfl rfl) ?_
          obtain ⟨z63, hz64, h⟩ := bnd h
          refine e_call (is := [4]) rfl rfl (call_run Try.call33 rfl rfl (by kernel_rfl)) rfl (fun w hp => t_disk_Disk_Sync ho27 hp hz64) ?_
          rintro Γ65 U67 v68 hl66 ⟨row69, rfl, rfl, hr70, _⟩
          change WR _ _ _ (CC F Γ65 [row69, [(gl, .cells #[.pointer (some ⟨el.2, 0, none⟩), .string l.place_name, .int .i64 l.place_gen, .int .i64 l.size, .int .i64 l.last, .int .i64 l.tail, .int .i64 l.count, .int .i64 l.bytes] el.1 (0, 0))], row23, [(g17, .cells #[.int .i64 l.place_gen] 2 (0, 0))], [(g16, .cells #[.pointer (some ⟨gh40_, 0, none⟩)] 26 (0, 0))]]) _ _ (upd _ 79 (.tuple #[]))
          refine WR.nil ?_
          change WC _ _ _ _ _ _
          refine WC.rs ?_
          refine va rfl rfl rfl (q_ldl (i := 4) (v := .pointer (some ⟨gh40_, 0, none⟩)) rfl rfl Try.isAgg26 rfl rfl) ?_
          refine va rfl rfl rfl (q_nil (A := some ⟨gh40_, 0, none⟩) rfl rfl rfl) ?_
          refine va rfl rfl rfl (q_fl 0 fld_63_0 rfl rfl rfl) ?_
          refine va rfl rfl rfl (q_fl 2 fld_55_2 rfl rfl rfl) ?_
          have hq := (ho24.mono hl66)
          obtain ⟨hrow_71, ho0_71, ho1_71, ho2_71, ho3_71, ho4_71, ho5_71, ho6_71, -⟩ := hq
          intro w hw; have hw := hw.unfold (i := 2) rfl hrow_71
          refine WR.here (C := CC F Γ65 [[(gh40_, .cells #[.pointer (some ⟨el.2, 0, none⟩), .string o22.place_name, .int .i64 o22.place_gen, .int .i64 o22.size, .int .i64 o22.last, .int .i64 o22.tail, .int .i64 o22.count, .int .i64 o22.bytes] 63 (0, 0))], row69, [(gl, .cells #[.pointer (some ⟨el.2, 0, none⟩), .string l.place_name, .int .i64 l.place_gen, .int .i64 l.size, .int .i64 l.last, .int .i64 l.tail, .int .i64 l.count, .int .i64 l.bytes] el.1 (0, 0))], [(g17, .cells #[.int .i64 l.place_gen] 2 (0, 0))], [(g16, .cells #[.pointer (some ⟨gh40_, 0, none⟩)] 26 (0, 0))]]) ?_ hw
          clear hw
          refine va rfl rfl rfl (q_ldl (i := 0) (v := .int .i64 o22.place_gen) rfl rfl Try.isAgg2 rfl rfl) ?_
          obtain ⟨z72, hz73, h⟩ := bnd h
          refine e_call (is := []) rfl rfl (call_run Try.call46 rfl rfl (by kernel_rfl)) rfl (fun w hp => t_num_PutNum o22.place_gen ho1_71 hp hz73) ?_
          rintro Γ74 U76 v77 hl75 ⟨A78, c79, row80, rfl, rfl, hr81, _⟩
          change WR _ _ _ (CC F Γ74 [row80, [(gh40_, .cells #[.pointer (some ⟨el.2, 0, none⟩), .string o22.place_name, .int .i64 o22.place_gen, .int .i64 o22.size, .int .i64 o22.last, .int .i64 o22.tail, .int .i64 o22.count, .int .i64 o22.bytes] 63 (0, 0))], row69, [(gl, .cells #[.pointer (some ⟨el.2, 0, none⟩), .string l.place_name, .int .i64 l.place_gen, .int .i64 l.size, .int .i64 l.last, .int .i64 l.tail, .int .i64 l.count, .int .i64 l.bytes] el.1 (0, 0))], [(g17, .cells #[.int .i64 l.place_gen] 2 (0, 0))], [(g16, .cells #[.pointer (some ⟨gh40_, 0, none⟩)] 26 (0, 0))]]) _ _ (upd _ 86 (.slice A78 z72.length c79))
          have hc86 := hr81.capz
          intro w hw; obtain ⟨Γ82, hw, hl83, hr84⟩ := hw.seal (i := 0) rfl; have hs85 := hr81.sl hl83 hr84
          refine WR.here (C := CC F Γ82 [[], [(gh40_, .cells #[.pointer (some ⟨el.2, 0, none⟩), .string o22.place_name, .int .i64 o22.place_gen, .int .i64 o22.size, .int .i64 o22.last, .int .i64 o22.tail, .int .i64 o22.count, .int .i64 o22.bytes] 63 (0, 0))], row69, [(gl, .cells #[.pointer (some ⟨el.2, 0, none⟩), .string l.place_name, .int .i64 l.place_gen, .int .i64 l.size, .int .i64 l.last, .int .i64 l.tail, .int .i64 l.count, .int .i64 l.bytes] el.1 (0, 0))], [(g17, .cells #[.int .i64 l.place_gen] 2 (0, 0))], [(g16, .cells #[.pointer (some ⟨gh40_, 0, none⟩)] 26 (0, 0))]]) ?_ hw
          clear hw
          obtain ⟨z87, hz88, h⟩ := bnd h
          refine e_call (is := []) rfl rfl (call_run Try.call34 rfl rfl (by kernel_rfl)) rfl (fun w hp => t_frame_Put hs85 hc86 hp hz88) ?_
          rintro Γ89 U91 v92 hl90 ⟨A93, c94, row95, rfl, rfl, hr96, hr97, _⟩
          change WR _ _ _ (CC F Γ89 [row95, [], [(gh40_, .cells #[.pointer (some ⟨el.2, 0, none⟩), .string o22.place_name, .int .i64 o22.place_gen, .int .i64 o22.size, .int .i64 o22.last, .int .i64 o22.tail, .int .i64 o22.count, .int .i64 o22.bytes] 63 (0, 0))], row69, [(gl, .cells #[.pointer (some ⟨el.2, 0, none⟩), .string l.place_name, .int .i64 l.place_gen, .int .i64 l.size, .int .i64 l.last, .int .i64 l.tail, .int .i64 l.count, .int .i64 l.bytes] el.1 (0, 0))], [(g17, .cells #[.int .i64 l.place_gen] 2 (0, 0))], [(g16, .cells #[.pointer (some ⟨gh40_, 0, none⟩)] 26 (0, 0))]]) _ _ (upd _ 87 (.tuple #[.slice A93 z87.1.length c94, .int .i64 z87.2]))
          refine va rfl rfl rfl (q_move (v := .tuple #[.slice A93 z87.1.length c94, .int .i64 z87.2]) rfl (by kernel_rfl)) ?_
          refine va rfl rfl rfl (q_extract (v := .slice A93 z87.1.length c94) rfl rfl rfl) ?_
          refine va rfl rfl rfl (q_extract (v := .int .i64 z87.2) rfl rfl rfl) ?_
          refine va rfl rfl rfl (q_assign (v := .slice A93 z87.1.length c94) rfl (by kernel_rfl)) ?_
          refine va rfl rfl rfl (q_assign (v := .int .i64 z87.2) rfl (by kernel_rfl)) ?_
          refine WR.nil ?_
          change WC _ _ _ _ _ _
          refine WC.seq ?_
          refine WC.seq ?_
          have hc102 := hr96.capz
          intro w hw; obtain ⟨Γ98, hw, hl99, hr100⟩ := hw.seal (i := 0) rfl; have hs101 := hr96.sl hl99 hr100
          refine WC.here (C := CC F Γ98 [[], [], [(gh40_, .cells #[.pointer (some ⟨el.2, 0, none⟩), .string o22.place_name, .int .i64 o22.place_gen, .int .i64 o22.size, .int .i64 o22.last, .int .i64 o22.tail, .int .i64 o22.count, .int .i64 o22.bytes] 63 (0, 0))], row69, [(gl, .cells #[.pointer (some ⟨el.2, 0, none⟩), .string l.place_name, .int .i64 l.place_gen, .int .i64 l.size, .int .i64 l.last, .int .i64 l.tail, .int .i64 l.count, .int .i64 l.bytes] el.1 (0, 0))], [(g17, .cells #[.int .i64 l.place_gen] 2 (0, 0))], [(g16, .cells #[.pointer (some ⟨gh40_, 0, none⟩)] 26 (0, 0))]]) ?_ hw
          clear hw
          intro w hw; have h0103 := hw.le
          refine WC.here (C := CC F Γ98 [[], [], [(gh40_, .cells #[.pointer (some ⟨el.2, 0, none⟩), .string o22.place_name, .int .i64 o22.place_gen, .int .i64 o22.size, .int .i64 o22.last, .int .i64 o22.tail, .int .i64 o22.count, .int .i64 o22.bytes] 63 (0, 0))], row69, [(gl, .cells #[.pointer (some ⟨el.2, 0, none⟩), .string l.place_name, .int .i64 l.place_gen, .int .i64 l.size, .int .i64 l.last, .int .i64 l.tail, .int .i64 l.count, .int .i64 l.bytes] el.1 (0, 0))], [(g17, .cells #[.int .i64 l.place_gen] 2 (0, 0))], [(g16, .cells #[.pointer (some ⟨gh40_, 0, none⟩)] 26 (0, 0))]]) ?_ hw; clear hw
          refine WC.held (CC F Γ98 [[], [], [(gh40_, .cells #[.pointer (some ⟨el.2, 0, none⟩), .string o22.place_name, .int .i64 o22.place_gen, .int .i64 o22.size, .int .i64 o22.last, .int .i64 o22.tail, .int .i64 o22.count, .int .i64 o22.bytes] 63 (0, 0))], [(gl, .cells #[.pointer (some ⟨el.2, 0, none⟩), .string l.place_name, .int .i64 l.place_gen, .int .i64 l.size, .int .i64 l.last, .int .i64 l.tail, .int .i64 l.count, .int .i64 l.bytes] el.1 (0, 0))], [(g17, .cells #[.int .i64 l.place_gen] 2 (0, 0))], [(g16, .cells #[.pointer (some ⟨gh40_, 0, none⟩)] 26 (0, 0))]]) (by kernel_rfl) (fun w hw => hw.drawn _) ?_
          change WH _ _ _ _ (CC F Γ98 [[], [], [(gh40_, .cells #[.pointer (some ⟨el.2, 0, none⟩), .string o22.place_name, .int .i64 o22.place_gen, .int .i64 o22.size, .int .i64 o22.last, .int .i64 o22.tail, .int .i64 o22.count, .int .i64 o22.bytes] 63 (0, 0))], row69, [(gl, .cells #[.pointer (some ⟨el.2, 0, none⟩), .string l.place_name, .int .i64 l.place_gen, .int .i64 l.size, .int .i64 l.last, .int .i64 l.tail, .int .i64 l.count, .int .i64 l.bytes] el.1 (0, 0))], [(g17, .cells #[.int .i64 l.place_gen] 2 (0, 0))], [(g16, .cells #[.pointer (some ⟨gh40_, 0, none⟩)] 26 (0, 0))]]) _ 13 #[false, false, false, false, false, false, false, false, false, false, false, false, false] _
          refine ht (i := 0) rfl (by kernel_rfl) rfl rfl rfl (fun w hw => hw.back (Gh.refl _) h0103 (.cons_cons _ (.cons_cons _ (.cons_cons _ (.cons _ (.cons_cons _ (.cons_cons _ (.cons_cons _ .slnil)))))))) (q_move (v := .pointer (some ⟨gl, 0, none⟩)) rfl (by kernel_rfl)) ?_
          refine ht (i := 1) rfl (by kernel_rfl) rfl rfl rfl (fun w hw => hw.back (Gh.refl _) h0103 (.cons_cons _ (.cons_cons _ (.cons_cons _ (.cons _ (.cons_cons _ (.cons_cons _ (.cons_cons _ .slnil)))))))) (q_nil (A := some ⟨gl, 0, none⟩) rfl rfl rfl) ?_
          refine ht (i := 2) rfl (by kernel_rfl) rfl rfl rfl (fun w hw => hw.back (Gh.refl _) h0103 (.cons_cons _ (.cons_cons _ (.cons_cons _ (.cons _ (.cons_cons _ (.cons_cons _ (.cons_cons _ .slnil)))))))) (q_fl 0 fld_63_0 rfl rfl rfl) ?_
          refine ht (i := 3) rfl (by kernel_rfl) rfl rfl rfl (fun w hw => hw.back (Gh.refl _) h0103 (.cons_cons _ (.cons_cons _ (.cons_cons _ (.cons _ (.cons_cons _ (.cons_cons _ (.cons_cons _ .slnil)))))))) (q_fl 0 fld_55_0 rfl rfl rfl) ?_
          refine ht (i := 4) rfl (by kernel_rfl) rfl rfl rfl (fun w hw => hw.back (Gh.refl _) h0103 (.cons_cons _ (.cons_cons _ (.cons_cons _ (.cons _ (.cons_cons _ (.cons_cons _ (.cons_cons _ .slnil)))))))) (q_ldl (i := 3) (v := .pointer (some ⟨el.2, 0, none⟩)) rfl rfl Try.isAgg24 rfl rfl) ?_
          refine ht (i := 5) rfl (by kernel_rfl) rfl rfl rfl (fun w hw => hw.back (Gh.refl _) h0103 (.cons_cons _ (.cons_cons _ (.cons_cons _ (.cons _ (.cons_cons _ (.cons_cons _ (.cons_cons _ .slnil)))))))) (q_move (v := .pointer (some ⟨gl, 0, none⟩)) rfl (by kernel_rfl)) ?_
          refine ht (i := 6) rfl (by kernel_rfl) rfl rfl rfl (fun w hw => hw.back (Gh.refl _) h0103 (.cons_cons _ (.cons_cons _ (.cons_cons _ (.cons _ (.cons_cons _ (.cons_cons _ (.cons_cons _ .slnil)))))))) (q_nil (A := some ⟨gl, 0, none⟩) rfl rfl rfl) ?_
          refine ht (i := 7) rfl (by kernel_rfl) rfl rfl rfl (fun w hw => hw.back (Gh.refl _) h0103 (.cons_cons _ (.cons_cons _ (.cons_cons _ (.cons _ (.cons_cons _ (.cons_cons _ (.cons_cons _ .slnil)))))))) (q_fl 0 fld_63_0 rfl rfl rfl) ?_
          refine ht (i := 8) rfl (by kernel_rfl) rfl rfl rfl (fun w hw => hw.back (Gh.refl _) h0103 (.cons_cons _ (.cons_cons _ (.cons_cons _ (.cons _ (.cons_cons _ (.cons_cons _ (.cons_cons _ .slnil)))))))) (q_ldla (i := 3) (vs := [.pointer (some ⟨el.2, 0, none⟩), .string l.place_name, .int .i64 l.place_gen]) rfl rfl Try.isAgg55 Try.sizeOf55 rfl rfl) ?_
          refine ht (i := 10) rfl (by kernel_rfl) rfl rfl rfl (fun w hw => hw.back (Gh.refl _) h0103 (.cons_cons _ (.cons_cons _ (.cons_cons _ (.cons _ (.cons_cons _ (.cons_cons _ (.cons_cons _ .slnil)))))))) (q_move (v := .slice A93 z87.1.length c94) rfl (by kernel_rfl)) ?_
          refine WH.lone (i := 9) (by kernel_rfl) rfl ?_
          obtain ⟨z104, hz105, h⟩ := bnd h
          refine vc rfl rfl rfl (q_call (call_run Try.call28 rfl rfl (by kernel_rfl)) (fun w hw => t_seglog_place_list (Γ := Gh.all w) (gp__0 := el.2) l.place_name ho0_62 l.place_gen ho1_62 (Sat.all w) hz105)) ?_
          refine WR.nil ?_
          refine WH.next (fun w hw => hw.back (Gh.refl _) h0103 (.cons_cons _ (.cons_cons _ (.cons_cons _ (.cons _ (.cons_cons _ (.cons_cons _ (.cons_cons _ .slnil)))))))) ?_
          refine WH.lone (i := 11) (by kernel_rfl) rfl ?_
          obtain ⟨hk106, h⟩ := chk_some h
          obtain ⟨z107, hz108, h⟩ := bnd h
          refine e_call (is := [3]) rfl rfl (call_run Try.call15 rfl rfl (by kernel_rfl)) rfl (fun w hp => t_disk_Disk_Append (hr70.mono (((hl75.trans hl83).trans hl90).trans hl99)) z104 (of_decide_eq_true hk106) hs101 hc102 hp hz108) ?_
          rintro Γ109 U111 v112 hl110 ⟨row113, rfl, rfl, hr114, hr115, _⟩
          change WR _ _ _ (CC F Γ109 [row113, [], [], [(gh40_, .cells #[.pointer (some ⟨el.2, 0, none⟩), .string o22.place_name, .int .i64 o22.place_gen, .int .i64 o22.size, .int .i64 o22.last, .int .i64 o22.tail, .int .i64 o22.count, .int .i64 o22.bytes] 63 (0, 0))], [(gl, .cells #[.pointer (some ⟨el.2, 0, none⟩), .string l.place_name, .int .i64 l.place_gen, .int .i64 l.size, .int .i64 l.last, .int .i64 l.tail, .int .i64 l.count, .int .i64 l.bytes] el.1 (0, 0))], [(g17, .cells #[.int .i64 l.place_gen] 2 (0, 0))], [(g16, .cells #[.pointer (some ⟨gh40_, 0, none⟩)] 26 (0, 0))]]) _ _ (upd _ 101 (.int .i64 z107.2))
          refine WR.nil ?_
          refine WH.next (fun w hw => hw.back hl110 h0103 (.cons _ (.cons_cons _ (.cons_cons _ (.cons_cons _ (.cons_cons _ (.cons_cons _ (.cons_cons _ .slnil)))))))) ?_
          refine ht (i := 12) rfl (by kernel_rfl) rfl rfl rfl (fun w hw => hw.back hl110 h0103 (.cons _ (.cons_cons _ (.cons_cons _ (.cons_cons _ (.cons_cons _ (.cons_cons _ (.cons_cons _ .slnil)))))))) (q_assign (v := .int .i64 z107.2) rfl (by kernel_rfl)) ?_
          refine WH.done (by kernel_rfl) ?_
          change WC _ _ _ _ _ _
          refine WC.rs ?_
          refine va rfl rfl rfl (q_move (v := .int .i64 z107.2) rfl (by kernel_rfl)) ?_
          refine va rfl rfl rfl (q_neq rfl rfl rfl) ?_
          refine WR.nil ?_
          change WC _ _ _ _ _ _
          refine WC.cif h (by kernel_rfl) (fun hb116 h => ?_) (fun hb116 h => ?_)
          · skip
            refine WC.rs ?_
            refine va rfl rfl rfl (q_ldl (i := 6) (v := .pointer (some ⟨gh40_, 0, none⟩)) rfl rfl Try.isAgg26 rfl rfl) ?_
            refine va rfl rfl rfl (q_nil (A := some ⟨gh40_, 0, none⟩) rfl rfl rfl) ?_
            refine va rfl rfl rfl (q_fl 0 fld_63_0 rfl rfl rfl) ?_
            refine va rfl rfl rfl (q_ldla (i := 3) (vs := [.pointer (some ⟨el.2, 0, none⟩), .string o22.place_name, .int .i64 o22.place_gen]) rfl rfl Try.isAgg55 Try.sizeOf55 rfl rfl) ?_
            refine va rfl rfl rfl (q_mkfn (v := .func (.func 47) #[] #[.pointer (some ⟨g16, 0, none⟩)]) rfl (by kernel_rfl)) ?_
            intro w hw; have hw := hw.fold (is := [3]) rfl hrow_71
            refine WR.here (C := CC F Γ109 [row23, row113, [], [], [(gl, .cells #[.pointer (some ⟨el.2, 0, none⟩), .string l.place_name, .int .i64 l.place_gen, .int .i64 l.size, .int .i64 l.last, .int .i64 l.tail, .int .i64 l.count, .int .i64 l.bytes] el.1 (0, 0))], [(g17, .cells #[.int .i64 l.place_gen] 2 (0, 0))], [(g16, .cells #[.pointer (some ⟨gh40_, 0, none⟩)] 26 (0, 0))]]) ?_ hw
            clear hw
            obtain ⟨rowT118, hT119⟩ : ∃ r : Rowb, r = ([[(g16, .cells #[.pointer (some ⟨gh40_, 0, none⟩)] 26 (0, 0))], row23] : List Rowb).flatten := ⟨_, rfl⟩
            refine WR.sub (fun w hw => hw.fold (is := [6, 0]) rfl hT119) ?_
            obtain ⟨z120, hz121, h⟩ := bnd h
            refine e_call (is := [1, 0]) rfl rfl (call_run Try.call29 rfl rfl (by kernel_rfl)) rfl (fun w hp => t_seglog_place_remove (caps := #[.pointer (some ⟨g16, 0, none⟩)]) hr114 o22.place_name ho0_71 o22.place_gen ho1_71 (fun x y => m_seglog_Log_Rewrite_2 x y o22) (fun {Γq_ wq_} x hx y hy hle hp2 {_} hq => Calls.mono (t_seglog_Log_Rewrite_2 (Γ := Γq_) x hx y hy ((ho24.mono (((((hl66.trans hl75).trans hl83).trans hl90).trans hl99).trans hl110)).mono hle) (by subst hT119; exact hp2.parts) hq) (fun e w2 ho => Outc.quiet (by subst hT119; exact hp2.parts) ho (fun _ _ _ hr => ⟨hr.1, hr.2.1⟩))) Try.call47 hp hz121) ?_
            rintro Γ122 U124 v125 hl123 ⟨row126, rfl, rfl, hd127⟩
            change WR _ _ _ (CC F Γ122 [row126, rowT118, [], [], [(gl, .cells #[.pointer (some ⟨el.2, 0, none⟩), .string l.place_name, .int .i64 l.place_gen, .int .i64 l.size, .int .i64 l.last, .int .i64 l.tail, .int .i64 l.count, .int .i64 l.bytes] el.1 (0, 0))], [(g17, .cells #[.int .i64 l.place_gen] 2 (0, 0))]]) _ _ (upd _ 109 (.tuple #[]))
            refine WR.sub (fun w hw => hw.unfold (i := 1) rfl hT119) ?_
            change WR _ _ _ (CC F Γ122 [[(g16, .cells #[.pointer (some ⟨gh40_, 0, none⟩)] 26 (0, 0))], row23, row126, [], [], [(gl, .cells #[.pointer (some ⟨el.2, 0, none⟩), .string l.place_name, .int .i64 l.place_gen, .int .i64 l.size, .int .i64 l.last, .int .i64 l.tail, .int .i64 l.count, .int .i64 l.bytes] el.1 (0, 0))], [(g17, .cells #[.int .i64 l.place_gen] 2 (0, 0))]]) _ _ _
            refine WR.nil ?_
            change WC _ _ _ _ _ _
            refine WC.rs ?_
            refine va rfl rfl rfl (q_move (v := .int .i64 z107.2) rfl (by kernel_rfl)) ?_
            refine va rfl rfl rfl (q_assign (v := .int .i64 z107.2) rfl (by kernel_rfl)) ?_
            refine WR.nil ?_
            change WC _ _ _ _ _ _
            refine WC.ret ?_
            intro w hw
            have hw := hw.fold (is := [5]) rfl hrow_62
            obtain rfl := Option.some.inj h
            subst hF
            exact end_e (is := [0, 2]) (by kernel_rfl) hw rfl ⟨rowl, row126, rfl, rfl, (hl.mono (((((((hl21.trans hl66).trans hl75).trans hl83).trans hl90).trans hl99).trans hl110).trans hl123)), hd127, hr115, trivial⟩
          · skip
            refine WC.skip ?_
            change WC _ _ _ _ _ _
            refine WC.rs ?_
            refine va rfl rfl rfl (q_move (v := .pointer (some ⟨gl, 0, none⟩)) rfl (by kernel_rfl)) ?_
            refine va rfl rfl rfl (q_nil (A := some ⟨gl, 0, none⟩) rfl rfl rfl) ?_
            refine va rfl rfl rfl (q_fl 0 fld_63_0 rfl rfl rfl) ?_
            refine va rfl rfl rfl (q_fl 0 fld_55_0 rfl rfl rfl) ?_
            refine va rfl rfl rfl (q_ldl (i := 4) (v := .pointer (some ⟨el.2, 0, none⟩)) rfl rfl Try.isAgg24 rfl rfl) ?_
            obtain ⟨z129, hz130, h⟩ := bnd h
            refine e_call (is := [0]) rfl rfl (call_run Try.call33 rfl rfl (by kernel_rfl)) rfl (fun w hp => t_disk_Disk_Sync hr114 hp hz130) ?_
            rintro Γ131 U133 v134 hl132 ⟨row135, rfl, rfl, hr136, _⟩
            change WR _ _ _ (CC F Γ131 [row135, [], [], [(gh40_, .cells #[.pointer (some ⟨el.2, 0, none⟩), .string o22.place_name, .int .i64 o22.place_gen, .int .i64 o22.size, .int .i64 o22.last, .int .i64 o22.tail, .int .i64 o22.count, .int .i64 o22.bytes] 63 (0, 0))], [(gl, .cells #[.pointer (some ⟨el.2, 0, none⟩), .string l.place_name, .int .i64 l.place_gen, .int .i64 l.size, .int .i64 l.last, .int .i64 l.tail, .int .i64 l.count, .int .i64 l.bytes] el.1 (0, 0))], [(g17, .cells #[.int .i64 l.place_gen] 2 (0, 0))], [(g16, .cells #[.pointer (some ⟨gh40_, 0, none⟩)] 26 (0, 0))]]) _ _ (upd _ 116 (.tuple #[]))
            refine WR.nil ?_
            change WC _ _ _ _ _ _
            refine WC.rs ?_
            refine va rfl rfl rfl (q_ldl (i := 6) (v := .pointer (some ⟨gh40_, 0, none⟩)) rfl rfl Try.isAgg26 rfl rfl) ?_
            refine va rfl rfl rfl (q_nil (A := some ⟨gh40_, 0, none⟩) rfl rfl rfl) ?_
            refine va rfl rfl rfl (q_fl 0 fld_63_0 rfl rfl rfl) ?_
            refine va rfl rfl rfl (q_ldla (i := 3) (vs := [.pointer (some ⟨el.2, 0, none⟩), .string o22.place_name, .int .i64 o22.place_gen]) rfl rfl Try.isAgg55 Try.sizeOf55 rfl rfl) ?_
            refine va rfl rfl rfl (q_mkfn (v := .func (.func 48) #[] #[.pointer (some ⟨g17, 0, none⟩)]) rfl (by kernel_rfl)) ?_
            obtain ⟨rowT137, hT138⟩ : ∃ r : Rowb, r = ([[(g17, .cells #[.int .i64 l.place_gen] 2 (0, 0))]] : List Rowb).flatten := ⟨_, rfl⟩
            refine WR.sub (fun w hw => hw.fold (is := [5]) rfl hT138) ?_
            obtain ⟨z139, hz140, h⟩ := bnd h
            refine e_call (is := [1, 0]) rfl rfl (call_run Try.call29 rfl rfl (by kernel_rfl)) rfl (fun w hp => t_seglog_place_remove (caps := #[.pointer (some ⟨g17, 0, none⟩)]) hr136 o22.place_name ho0_71 o22.place_gen ho1_71 (fun x y => m_seglog_Log_Rewrite_3 x y l.place_gen) (fun {Γq_ wq_} x hx y hy hle hp2 {_} hq => Calls.mono (t_seglog_Log_Rewrite_3 (Γ := Γq_) x hx y hy l.place_gen ho1_12 (by subst hT138; exact hp2.parts) hq) (fun e w2 ho => Outc.quiet (by subst hT138; exact hp2.parts) ho (fun _ _ _ hr => ⟨hr.1, hr.2.1⟩))) Try.call48 hp hz140) ?_
            rintro Γ141 U143 v144 hl142 ⟨row145, rfl, rfl, hd146⟩
            change WR _ _ _ (CC F Γ141 [row145, rowT137, [], [], [(gh40_, .cells #[.pointer (some ⟨el.2, 0, none⟩), .string o22.place_name, .int .i64 o22.place_gen, .int .i64 o22.size, .int .i64 o22.last, .int .i64 o22.tail, .int .i64 o22.count, .int .i64 o22.bytes] 63 (0, 0))], [(gl, .cells #[.pointer (some ⟨el.2, 0, none⟩), .string l.place_name, .int .i64 l.place_gen, .int .i64 l.size, .int .i64 l.last, .int .i64 l.tail, .int .i64 l.count, .int .i64 l.bytes] el.1 (0, 0))], [(g16, .cells #[.pointer (some ⟨gh40_, 0, none⟩)] 26 (0, 0))]]) _ _ (upd _ 122 (.tuple #[]))
            refine WR.sub (fun w hw => hw.unfold (i := 1) rfl hT138) ?_
            change WR _ _ _ (CC F Γ141 [[(g17, .cells #[.int .i64 l.place_gen] 2 (0, 0))], row145, [], [], [(gh40_, .cells #[.pointer (some ⟨el.2, 0, none⟩), .string o22.place_name, .int .i64 o22.place_gen, .int .i64 o22.size, .int .i64 o22.last, .int .i64 o22.tail, .int .i64 o22.count, .int .i64 o22.bytes] 63 (0, 0))], [(gl, .cells #[.pointer (some ⟨el.2, 0, none⟩), .string l.place_name, .int .i64 l.place_gen, .int .i64 l.size, .int .i64 l.last, .int .i64 l.tail, .int .i64 l.count, .int .i64 l.bytes] el.1 (0, 0))], [(g16, .cells #[.pointer (some ⟨gh40_, 0, none⟩)] 26 (0, 0))]]) _ _ _
            refine WR.nil ?_
            change WC _ _ _ _ _ _
            refine WC.rs ?_
            refine va rfl rfl rfl (q_move (v := .pointer (some ⟨gl, 0, none⟩)) rfl (by kernel_rfl)) ?_
            refine va rfl rfl rfl (q_nil (A := some ⟨gl, 0, none⟩) rfl rfl rfl) ?_
            refine va rfl rfl rfl (q_fl 0 fld_63_0 rfl rfl rfl) ?_
            refine va rfl rfl rfl (q_fl 0 fld_55_0 rfl rfl rfl) ?_
            refine va rfl rfl rfl (q_ldl (i := 5) (v := .pointer (some ⟨el.2, 0, none⟩)) rfl rfl Try.isAgg24 rfl rfl) ?_
            obtain ⟨z147, hz148, h⟩ := bnd h
            refine e_call (is := [1]) rfl rfl (call_run Try.call33 rfl rfl (by kernel_rfl)) rfl (fun w hp => t_disk_Disk_Sync hd146 hp hz148) ?_
            rintro Γ149 U151 v152 hl150 ⟨row153, rfl, rfl, hr154, _⟩
            change WR _ _ _ (CC F Γ149 [row153, [(g17, .cells #[.int .i64 l.place_gen] 2 (0, 0))], [], [], [(gh40_, .cells #[.pointer (some ⟨el.2, 0, none⟩), .string o22.place_name, .int .i64 o22.place_gen, .int .i64 o22.size, .int .i64 o22.last, .int .i64 o22.tail, .int .i64 o22.count, .int .i64 o22.bytes] 63 (0, 0))], [(gl, .cells #[.pointer (some ⟨el.2, 0, none⟩), .string l.place_name, .int .i64 l.place_gen, .int .i64 l.size, .int .i64 l.last, .int .i64 l.tail, .int .i64 l.count, .int .i64 l.bytes] el.1 (0, 0))], [(g16, .cells #[.pointer (some ⟨gh40_, 0, none⟩)] 26 (0, 0))]]) _ _ (upd _ 128 (.tuple #[]))
            refine WR.nil ?_
            change WC _ _ _ _ _ _
            refine WC.rs ?_
            refine va rfl rfl rfl (q_move (v := .pointer (some ⟨gl, 0, none⟩)) rfl (by kernel_rfl)) ?_
            refine va rfl rfl rfl (q_ldl (i := 6) (v := .pointer (some ⟨gh40_, 0, none⟩)) rfl rfl Try.isAgg26 rfl rfl) ?_
            refine va rfl rfl rfl (q_nil (A := some ⟨gh40_, 0, none⟩) rfl rfl rfl) ?_
            refine va rfl rfl rfl (q_ldla (i := 4) (vs := [.pointer (some ⟨el.2, 0, none⟩), .string o22.place_name, .int .i64 o22.place_gen, .int .i64 o22.size, .int .i64 o22.last, .int .i64 o22.tail, .int .i64 o22.count, .int .i64 o22.bytes]) rfl rfl Try.isAgg63 Try.sizeOf63 rfl rfl) ?_
            refine va rfl rfl rfl (q_nil (A := some ⟨gl, 0, none⟩) rfl rfl rfl) ?_
            refine e_st (i := 5) (v := .agg #[.pointer (some ⟨el.2, 0, none⟩), .string o22.place_name, .int .i64 o22.place_gen, .int .i64 o22.size, .int .i64 o22.last, .int .i64 o22.tail, .int .i64 o22.count, .int .i64 o22.bytes]) (new := #[.pointer (some ⟨el.2, 0, none⟩), .string o22.place_name, .int .i64 o22.place_gen, .int .i64 o22.size, .int .i64 o22.last, .int .i64 o22.tail, .int .i64 o22.count, .int .i64 o22.bytes]) rfl Try.sizeOf63 rfl rfl rfl rfl (by kernel_rfl) rfl rfl rfl rfl ?_
            refine WR.nil ?_
            change WC _ _ _ _ _ _
            refine WC.rs ?_
            refine va rfl rfl rfl (q_assign (v := .int .i64 0) rfl (by kernel_rfl)) ?_
            refine WR.nil ?_
            change WC _ _ _ _ _ _
            refine WC.ret ?_
            intro w hw
            obtain ⟨row_155, hrow_155, hob_155⟩ : ∃ rw : Rowb, rw = ([[(gl, .cells #[.pointer (some ⟨el.2, 0, none⟩), .string o22.place_name, .int .i64 o22.place_gen, .int .i64 o22.size, .int .i64 o22.last, .int .i64 o22.tail, .int .i64 o22.count, .int .i64 o22.bytes] el.1 (0, 0))]] : List Rowb).flatten ∧ Oseglog_Log.ob el Γ149 gl rw (⟨o22.place_name, o22.place_gen, o22.size, o22.last, o22.tail, o22.count, o22.bytes⟩ : Oseglog_Log) := ⟨_, rfl, rfl, ho0_71, ho1_71, ho2_71, ho3_71, ho4_71, ho5_71, ho6_71, trivial⟩
            have hw := hw.fold (is := [5]) rfl hrow_155
            obtain rfl := Option.some.inj h
            subst hF
            exact end_e (is := [0, 0]) (by kernel_rfl) hw rfl ⟨row_155, row153, rfl, rfl, hob_155, hr154, (show I64 0 by decide), trivial⟩
end Fw
end Go.Proofs.Ytogcoieekhbfdaa
