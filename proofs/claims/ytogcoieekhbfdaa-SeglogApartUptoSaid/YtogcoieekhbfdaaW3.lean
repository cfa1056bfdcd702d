/- Walks through the functions that the law reaches (printed by a program). No condition. -/
import Derived.Test.YtogcoieekhbfdaaW2
namespace Go.Proofs.Ytogcoieekhbfdaa
namespace Fw
set_option linter.unusedVariables false
set_option linter.unusedSimpArgs false
set_option linter.unusedSectionVars false
open Go.RowKit
set_option maxRecDepth 100000 in
set_option maxHeartbeats 400000 in
theorem t_firthlaw09_awake {Γ : Gh} {w0 : World}  (hs : Sat Γ w0) {r : Bool} (h : m_firthlaw09_awake = some r) : Calls Try.prog 7 #[] w0 (fun e w' => e = .returned (.bool r) ∧ Fr no w0 w') := by
  refine calls_of (N := 80) (rs := [0]) (args := []) Try.func7 rfl Try.ntmps7 Try.results7 rfl ?_
  obtain ⟨F, hF⟩ : ∃ F : Fm, F = ⟨no, w0, Γ⟩ := ⟨_, rfl⟩
  refine WC.here (C := CC F Γ []) ?_ (hF ▸ Cur.start0 hs)
  refine WC.rs ?_
  refine va rfl rfl rfl (q_assign (v := .bool false) rfl (by kernel_rfl)) ?_
  refine WR.nil ?_
  change WC _ _ _ _ _ _
  refine WC.rs ?_
  obtain ⟨z1, hz2, h⟩ := bnd h
  refine e_call (is := []) rfl rfl (call_run Try.call8 rfl rfl (by kernel_rfl)) rfl (fun w hp => t_disk_New 100 (show I64 100 by decide) hp hz2) ?_
  rintro Γ3 U5 v6 hl4 ⟨g7, row8, rfl, rfl, hr9, _⟩
  change WR _ _ _ (CC F Γ3 [row8]) _ _ (upd _ 7 (.pointer (some ⟨g7, 0, none⟩)))
  refine va rfl rfl rfl (q_assign (v := .pointer (some ⟨g7, 0, none⟩)) rfl (by kernel_rfl)) ?_
  refine WR.nil ?_
  change WC _ _ _ _ _ _
  refine WC.rs ?_
  refine va rfl rfl rfl (q_move (v := .pointer (some ⟨g7, 0, none⟩)) rfl (by kernel_rfl)) ?_
  obtain ⟨z10, hz11, h⟩ := bnd h
  refine e_call (is := [0]) rfl rfl (call_run Try.call9 rfl rfl (by kernel_rfl)) rfl (fun w hp => t_seglog_Open hr9 (⟨#[97]⟩ : ByteArray) (show (⟨#[97]⟩ : ByteArray).size ≤ lim by decide) 16 (show I64 16 by decide) hp hz11) ?_
  rintro Γ12 U14 v15 hl13 ⟨row16, g18, row19, A21, c22, row23, rfl, rfl, hr17, hr20, hr24, hr25, _⟩
  change WR _ _ _ (CC F Γ12 [row16, row19, row23]) _ _ (upd _ 10 (.tuple #[optp z10.2.1 g18, .slice A21 z10.2.2.1.length c22, .int .i64 z10.2.2.2]))
  refine va rfl rfl rfl (q_move (v := .tuple #[optp z10.2.1 g18, .slice A21 z10.2.2.1.length c22, .int .i64 z10.2.2.2]) rfl (by kernel_rfl)) ?_
  refine va rfl rfl rfl (q_extract (v := optp z10.2.1 g18) rfl rfl rfl) ?_
  refine va rfl rfl rfl (q_extract (v := .slice A21 z10.2.2.1.length c22) rfl rfl rfl) ?_
  refine va rfl rfl rfl (q_extract (v := .int .i64 z10.2.2.2) rfl rfl rfl) ?_
  refine va rfl rfl rfl (q_assign (v := optp z10.2.1 g18) rfl (by kernel_rfl)) ?_
  refine va rfl rfl rfl (q_assign (v := .slice A21 z10.2.2.1.length c22) rfl (by kernel_rfl)) ?_
  refine va rfl rfl rfl (q_assign (v := .int .i64 z10.2.2.2) rfl (by kernel_rfl)) ?_
  refine WR.nil ?_
  change WC _ _ _ _ _ _
  refine WC.seq ?_
  refine WC.rs ?_
  refine va rfl rfl rfl (q_move (v := optp z10.2.1 g18) rfl (by kernel_rfl)) ?_
  refine va rfl rfl rfl (q_opt_eql Try.underlying26 rfl rfl rfl) ?_
  refine va rfl rfl rfl (q_move (v := .bool (Option.isNone z10.2.1)) rfl (by kernel_rfl)) ?_
  refine vg0 rfl rfl rfl rfl rfl (fun hg26 => QV.qo (q_move (v := .int .i64 z10.2.2.2) rfl (by kernel_rfl))) ?_
  refine vg0 rfl rfl rfl rfl rfl (fun hg27 => QV.qo (q_neq rfl (gu hg27 rfl) rfl)) ?_
  refine va rfl rfl rfl (q_pick rfl rfl (pk_or' (g := (Option.isNone z10.2.1)) (y := (z10.2.2.2 != 0)))) ?_
  refine va rfl rfl rfl (q_move (v := .bool ((Option.isNone z10.2.1) || (z10.2.2.2 != 0))) rfl (by kernel_rfl)) ?_
  refine vg0 rfl rfl rfl rfl rfl (fun hg28 => QV.qo (q_move (v := .slice A21 z10.2.2.1.length c22) rfl (by kernel_rfl))) ?_
  refine vg0 rfl rfl rfl rfl rfl (fun hg29 => QV.qo (q_len_slice rfl Try.underlying22 (gu hg29 rfl))) ?_
  refine vg0 rfl rfl rfl rfl rfl (fun hg30 => QV.qo (q_neq rfl (gu hg30 rfl) rfl)) ?_
  refine va rfl rfl rfl (q_pick rfl rfl (pk_or' (g := ((Option.isNone z10.2.1) || (z10.2.2.2 != 0))) (y := (((z10.2.2.1.length : Nat) : Int) != 0)))) ?_
  refine va rfl rfl rfl (q_move (v := .bool (((Option.isNone z10.2.1) || (z10.2.2.2 != 0)) || (((z10.2.2.1.length : Nat) : Int) != 0))) rfl (by kernel_rfl)) ?_
  refine vg0 rfl rfl rfl rfl rfl (fun hg31 => QV.qo (q_move (v := optp z10.2.1 g18) rfl (by kernel_rfl))) ?_
  refine (Bool.eq_false_or_eq_true (!(((Option.isNone z10.2.1) || (z10.2.2.2 != 0)) || (((z10.2.2.1.length : Nat) : Int) != 0)))).elim (fun hb32 => ?_) (fun hb32 => ?_)
  · skip
    have h := bt hb32 h
    obtain ⟨z33, hz34, h⟩ := bnd h
    have ho35 := optob_some hr20 hz34
    refine WR.sat (c0 := true) (g := (((Option.isNone z10.2.1) || (z10.2.2.2 != 0)) || (((z10.2.2.1.length : Nat) : Int) != 0))) rfl rfl rfl hb32 ?_
    refine e_buildSlice (cs := #[.int .u8 120, .int .u8 121, .int .u8 122]) (e := 5) rfl rfl rfl rfl (fun w => by kernel_rfl) ?_
    intro g36
    refine WR.sat (c0 := true) (g := (((Option.isNone z10.2.1) || (z10.2.2.2 != 0)) || (((z10.2.2.1.length : Nat) : Int) != 0))) rfl rfl rfl hb32 ?_
    refine e_convlit (i := 0) (ys := ([120, 121, 122] : List UInt8)) Try.underlying31 Try.underlying5 rfl rfl rfl (by decide) rfl rfl rfl rfl rfl ?_
    intro Γ37 hl38 hs39
    change WR _ _ _ (CC F Γ37 [[], row16, row19, row23]) _ _ (upd _ 28 (.slice (some ⟨g36, 0, none⟩) ([120, 121, 122] : List UInt8).length 3))
    refine WR.sat (c0 := true) (g := (((Option.isNone z10.2.1) || (z10.2.2.2 != 0)) || (((z10.2.2.1.length : Nat) : Int) != 0))) rfl rfl rfl hb32 ?_
    obtain ⟨z40, hz41, h⟩ := bnd h
    refine e_call (is := [2, 1]) rfl rfl (call_run Try.call10 rfl rfl (args2 (optp_some (gu hb32 rfl) hz34) rfl)) rfl (fun w hp => t_seglog_Log_Append (ho35.mono hl38) hs39 (Nat.le_refl _) (hr17.mono hl38) hp hz41) ?_
    rintro Γ42 U44 v45 hl43 ⟨row46, row48, rfl, rfl, hr47, hr49, hr50, _⟩
    change WR _ _ _ (CC F Γ42 [row46, row48, [], row23]) _ _ (upd _ 29 (.int .i64 z40.2.2))
    refine WR.sat (c0 := true) (g := (((Option.isNone z10.2.1) || (z10.2.2.2 != 0)) || (((z10.2.2.1.length : Nat) : Int) != 0))) rfl rfl rfl hb32 ?_
    refine va rfl rfl rfl (q_neq rfl rfl rfl) ?_
    refine va rfl rfl rfl (q_pick_f (v := .bool (z40.2.2 != 0)) rfl rfl (not_t hb32) (by kernel_rfl)) ?_
    refine va rfl rfl rfl (q_move (v := .bool (z40.2.2 != 0)) rfl (by kernel_rfl)) ?_
    refine vg0 rfl rfl rfl rfl rfl (fun hg51 => QV.qo (q_move (v := .pointer (some ⟨g18, 0, none⟩)) rfl (optp_some rfl hz34))) ?_
    refine (Bool.eq_false_or_eq_true (!(z40.2.2 != 0))).elim (fun hb52 => ?_) (fun hb52 => ?_)
    · skip
      have h := bt hb52 h
      refine WR.sat (c0 := true) (g := (z40.2.2 != 0)) rfl rfl rfl hb52 ?_
      refine e_buildSlice (cs := #[.int .u8 49, .int .u8 50, .int .u8 51, .int .u8 52, .int .u8 53, .int .u8 54, .int .u8 55, .int .u8 56]) (e := 5) rfl rfl rfl rfl (fun w => by kernel_rfl) ?_
      intro g53
      refine WR.sat (c0 := true) (g := (z40.2.2 != 0)) rfl rfl rfl hb52 ?_
      refine e_convlit (i := 0) (ys := ([49, 50, 51, 52, 53, 54, 55, 56] : List UInt8)) Try.underlying31 Try.underlying5 rfl rfl rfl (by decide) rfl rfl rfl rfl rfl ?_
      intro Γ54 hl55 hs56
      change WR _ _ _ (CC F Γ54 [[], row46, row48, [], row23]) _ _ (upd _ 35 (.slice (some ⟨g53, 0, none⟩) ([49, 50, 51, 52, 53, 54, 55, 56] : List UInt8).length 8))
      refine WR.sat (c0 := true) (g := (z40.2.2 != 0)) rfl rfl rfl hb52 ?_
      obtain ⟨z57, hz58, h⟩ := bnd h
      refine e_call (is := [1, 1]) rfl rfl (call_run Try.call10 rfl rfl (args2 (gu hb52 rfl) rfl)) rfl (fun w hp => t_seglog_Log_Append (hr47.mono hl55) hs56 (Nat.le_refl _) (hr49.mono hl55) hp hz58) ?_
      rintro Γ59 U61 v62 hl60 ⟨row63, row65, rfl, rfl, hr64, hr66, hr67, _⟩
      change WR _ _ _ (CC F Γ59 [row63, row65, [], [], row23]) _ _ (upd _ 36 (.int .i64 z57.2.2))
      refine WR.sat (c0 := true) (g := (z40.2.2 != 0)) rfl rfl rfl hb52 ?_
      refine va rfl rfl rfl (q_neq rfl rfl rfl) ?_
      refine va rfl rfl rfl (q_pick_f (v := .bool (z57.2.2 != 0)) rfl rfl (not_t hb52) (by kernel_rfl)) ?_
      refine WR.nil ?_
      change WC _ _ _ _ _ _
      refine WC.cif h (by kernel_rfl) (fun hb68 h => ?_) (fun hb68 h => ?_)
      · skip
        refine WC.rs ?_
        refine va rfl rfl rfl (q_assign (v := .bool false) rfl (by kernel_rfl)) ?_
        refine WR.nil ?_
        change WC _ _ _ _ _ _
        refine WC.ret ?_
        intro w hw
        obtain rfl := Option.some.inj h
        subst hF
        exact ⟨by kernel_rfl, hw.fr⟩
      · skip
        refine WC.skip ?_
        change WC _ _ _ _ _ _
        refine WC.rs ?_
        refine va rfl rfl rfl (q_move (v := .pointer (some ⟨g18, 0, none⟩)) rfl (optp_some rfl hz34)) ?_
        obtain ⟨z69, hz70, h⟩ := bnd h
        refine vc rfl rfl rfl (q_call (call_run Try.call21 rfl rfl (by kernel_rfl)) (fun w hw => t_seglog_Log_Count (Γ := Gh.all w) (hr64.mono hw.sat.le_all) (hw.ra 0 rfl) (Sat.all w) hz70)) ?_
        refine va rfl rfl rfl (q_assign (v := .int .i64 z69) rfl (by kernel_rfl)) ?_
        refine WR.nil ?_
        change WC _ _ _ _ _ _
        refine WC.rs ?_
        refine va rfl rfl rfl (q_move (v := .pointer (some ⟨g18, 0, none⟩)) rfl (optp_some rfl hz34)) ?_
        refine e_buildSlice (cs := #[.int .u8 113]) (e := 5) rfl rfl rfl rfl (fun w => by kernel_rfl) ?_
        intro g71
        refine e_convlit (i := 0) (ys := ([113] : List UInt8)) Try.underlying31 Try.underlying5 rfl rfl rfl (by decide) rfl rfl rfl rfl rfl ?_
        intro Γ72 hl73 hs74
        change WR _ _ _ (CC F Γ72 [[], row63, row65, [], [], row23]) _ _ (upd _ 43 (.slice (some ⟨g71, 0, none⟩) ([113] : List UInt8).length 1))
        refine e_buildSlice (cs := #[.slice (some ⟨g71, 0, none⟩) ([113] : List UInt8).length 1]) (e := 31) rfl rfl rfl rfl (fun w => by kernel_rfl) ?_
        intro g75
        have ho76 : Own (slT byteT) Γ72 31 [(g75, .cells #[.slice (some ⟨g71, 0, none⟩) ([113] : List UInt8).length 1] 31 (0, 0))] (some ⟨g75, 0, none⟩) 1 [([113] : List UInt8)] := Own.of_blockL (T := (slT byteT)) (ys := [([113] : List UInt8)]) [[.slice (some ⟨g71, 0, none⟩) ([113] : List UInt8).length 1]] rfl (show 1 ≤ lim by decide) (show Ty.rd (slT byteT) Γ72 [.slice (some ⟨g71, 0, none⟩) ([113] : List UInt8).length 1] ([113] : List UInt8) ∧ True from ⟨⟨(some ⟨g71, 0, none⟩), 1, rfl, (Nat.le_refl _), hs74⟩, trivial⟩)
        have hc81 := ho76.capz
        intro w hw; obtain ⟨Γ77, hw, hl78, hr79⟩ := hw.seal (i := 0) rfl; have hs80 := ho76.sl hl78 hr79
        refine WR.here (C := CC F Γ77 [[], [], row63, row65, [], [], row23]) ?_ hw
        clear hw
        obtain ⟨z82, hz83, h⟩ := bnd h
        refine e_call (is := [2, 2]) rfl rfl (call_run Try.call17 rfl rfl (by kernel_rfl)) rfl (fun w hp => t_seglog_Log_Rewrite (hr64.mono (hl73.trans hl78)) hs80 hc81 (hr66.mono (hl73.trans hl78)) hp hz83) ?_
        rintro Γ84 U86 v87 hl85 ⟨row88, row90, rfl, rfl, hr89, hr91, hr92, _⟩
        change WR _ _ _ (CC F Γ84 [row88, row90, [], [], [], [], row23]) _ _ (upd _ 45 (.int .i64 z82.2.2))
        refine va rfl rfl rfl (q_assign (v := .int .i64 z82.2.2) rfl (by kernel_rfl)) ?_
        refine WR.nil ?_
        change WC _ _ _ _ _ _
        refine WC.rs ?_
        refine va rfl rfl rfl (q_move (v := .pointer (some ⟨g7, 0, none⟩)) rfl (by kernel_rfl)) ?_
        obtain ⟨z93, hz94, h⟩ := bnd h
        refine e_call (is := [1]) rfl rfl (call_run Try.call9 rfl rfl (by kernel_rfl)) rfl (fun w hp => t_seglog_Open hr91 (⟨#[97]⟩ : ByteArray) (show (⟨#[97]⟩ : ByteArray).size ≤ lim by decide) 16 (show I64 16 by decide) hp hz94) ?_
        rintro Γ95 U97 v98 hl96 ⟨row99, g101, row102, A104, c105, row106, rfl, rfl, hr100, hr103, hr107, hr108, _⟩
        change WR _ _ _ (CC F Γ95 [row99, row102, row106, row88, [], [], [], [], row23]) _ _ (upd _ 48 (.tuple #[optp z93.2.1 g101, .slice A104 z93.2.2.1.length c105, .int .i64 z93.2.2.2]))
        refine va rfl rfl rfl (q_move (v := .tuple #[optp z93.2.1 g101, .slice A104 z93.2.2.1.length c105, .int .i64 z93.2.2.2]) rfl (by kernel_rfl)) ?_
        refine va rfl rfl rfl (q_extract (v := optp z93.2.1 g101) rfl rfl rfl) ?_
        refine va rfl rfl rfl (q_extract (v := .slice A104 z93.2.2.1.length c105) rfl rfl rfl) ?_
        refine va rfl rfl rfl (q_extract (v := .int .i64 z93.2.2.2) rfl rfl rfl) ?_
        refine va rfl rfl rfl (q_assign (v := .slice A104 z93.2.2.1.length c105) rfl (by kernel_rfl)) ?_
        refine va rfl rfl rfl (q_assign (v := .int .i64 z93.2.2.2) rfl (by kernel_rfl)) ?_
        refine WR.nil ?_
        change WC _ _ _ _ _ _
        refine WC.rs ?_
        refine va rfl rfl rfl (q_move (v := .int .i64 z69) rfl (by kernel_rfl)) ?_
        refine va rfl rfl rfl (q_eql rfl rfl rfl) ?_
        refine va rfl rfl rfl (q_move (v := .bool (z69 == 2)) rfl (by kernel_rfl)) ?_
        refine vg1 rfl rfl rfl rfl rfl (fun hg109 => QV.qo (q_move (v := .int .i64 z82.2.2) rfl (by kernel_rfl))) ?_
        refine vg1 rfl rfl rfl rfl rfl (fun hg110 => QV.qo (q_eql rfl (gu hg110 rfl) rfl)) ?_
        refine va rfl rfl rfl (q_pick rfl rfl (pk_and' (g := (z69 == 2)) (y := (z82.2.2 == 0)))) ?_
        refine va rfl rfl rfl (q_move (v := .bool ((z69 == 2) && (z82.2.2 == 0))) rfl (by kernel_rfl)) ?_
        refine vg1 rfl rfl rfl rfl rfl (fun hg111 => QV.qo (q_move (v := .int .i64 z93.2.2.2) rfl (by kernel_rfl))) ?_
        refine vg1 rfl rfl rfl rfl rfl (fun hg112 => QV.qo (q_eql rfl (gu hg112 rfl) rfl)) ?_
        refine va rfl rfl rfl (q_pick rfl rfl (pk_and' (g := ((z69 == 2) && (z82.2.2 == 0))) (y := (z93.2.2.2 == 0)))) ?_
        refine va rfl rfl rfl (q_move (v := .bool (((z69 == 2) && (z82.2.2 == 0)) && (z93.2.2.2 == 0))) rfl (by kernel_rfl)) ?_
        refine vg1 rfl rfl rfl rfl rfl (fun hg113 => QV.qo (q_move (v := .slice A104 z93.2.2.1.length c105) rfl (by kernel_rfl))) ?_
        refine vg1 rfl rfl rfl rfl rfl (fun hg114 => QV.qo (q_len_slice rfl Try.underlying22 (gu hg114 rfl))) ?_
        refine vg1 rfl rfl rfl rfl rfl (fun hg115 => QV.qo (q_eql rfl (gu hg115 rfl) rfl)) ?_
        refine va rfl rfl rfl (q_pick rfl rfl (pk_and' (g := (((z69 == 2) && (z82.2.2 == 0)) && (z93.2.2.2 == 0))) (y := (((z93.2.2.1.length : Nat) : Int) == 1)))) ?_
        refine va rfl rfl rfl (q_move (v := .bool ((((z69 == 2) && (z82.2.2 == 0)) && (z93.2.2.2 == 0)) && (((z93.2.2.1.length : Nat) : Int) == 1))) rfl (by kernel_rfl)) ?_
        refine vg1 rfl rfl rfl rfl rfl (fun hg116 => QV.qo (q_move (v := .slice A104 z93.2.2.1.length c105) rfl (by kernel_rfl))) ?_
        obtain ⟨hk118, h⟩ := chk_some h
        refine vg1 rfl rfl rfl rfl rfl (fun hg117 => QV.qo (q_ixn (i := 0) Try.underlying22 Try.sizeOf31 rfl (gu hg117 rfl) rfl (of_decide_eq_true (imp_of hk118 hg117)) (hr107.some_ (of_decide_eq_true (imp_of hk118 hg117))))) ?_
        obtain ⟨A120, c121, hx122⟩ := hr107.slT_at 0
        refine vg1 rfl rfl rfl rfl rfl (fun hg119 => QV.qo (q_ldo (c := 0) (v := .slice A120 (gt z93.2.2.1 0).length c121) (i := 2) rfl (hx122 (of_decide_eq_true (imp_of hk118 hg119))).2 rfl Try.isAgg31 (gu hg119 rfl) rfl)) ?_
        refine vg1 rfl rfl rfl rfl rfl (fun hg123 => QV.qo (q_bstr (hx122 (of_decide_eq_true (imp_of hk118 hg123))).1.2 Try.underlying31 Try.underlying5 Try.underlying9 rfl (gu hg123 rfl))) ?_
        refine vg1 rfl rfl rfl rfl rfl (fun hg124 => QV.qo (q_seql rfl (gu hg124 rfl) rfl)) ?_
        refine va rfl rfl rfl (q_pick rfl rfl (pk_and' (g := ((((z69 == 2) && (z82.2.2 == 0)) && (z93.2.2.2 == 0)) && (((z93.2.2.1.length : Nat) : Int) == 1))) (y := ((⟨(gt z93.2.2.1 0).toArray⟩ : ByteArray) == (⟨#[113]⟩ : ByteArray))))) ?_
        refine va rfl rfl rfl (q_move (v := .bool (((((z69 == 2) && (z82.2.2 == 0)) && (z93.2.2.2 == 0)) && (((z93.2.2.1.length : Nat) : Int) == 1)) && ((⟨(gt z93.2.2.1 0).toArray⟩ : ByteArray) == (⟨#[113]⟩ : ByteArray)))) rfl (by kernel_rfl)) ?_
        refine vg1 rfl rfl rfl rfl rfl (fun hg125 => QV.qo (q_move (v := .pointer (some ⟨g7, 0, none⟩)) rfl (by kernel_rfl))) ?_
        refine (Bool.eq_false_or_eq_true (((((z69 == 2) && (z82.2.2 == 0)) && (z93.2.2.2 == 0)) && (((z93.2.2.1.length : Nat) : Int) == 1)) && ((⟨(gt z93.2.2.1 0).toArray⟩ : ByteArray) == (⟨#[113]⟩ : ByteArray)))).elim (fun hb126 => ?_) (fun hb126 => ?_)
        · skip
          have h := bt hb126 h
          refine WR.sat (c0 := true) (g := (((((z69 == 2) && (z82.2.2 == 0)) && (z93.2.2.2 == 0)) && (((z93.2.2.1.length : Nat) : Int) == 1)) && ((⟨(gt z93.2.2.1 0).toArray⟩ : ByteArray) == (⟨#[113]⟩ : ByteArray)))) rfl rfl rfl hb126 ?_
          obtain ⟨z127, hz128, h⟩ := bnd h
          refine e_call (is := [0]) rfl rfl (call_run Try.call11 rfl rfl (args1 (gu hb126 rfl))) rfl (fun w hp => t_disk_Disk_Names hr100 hp hz128) ?_
          rintro Γ129 U131 v132 hl130 ⟨A133, c134, row135, rfl, rfl, hr136, _⟩
          change WR _ _ _ (CC F Γ129 [row99, row135, row102, row106, row88, [], [], [], [], row23]) _ _ (upd _ 76 (.slice A133 z127.length c134))
          refine WR.sat (c0 := true) (g := (((((z69 == 2) && (z82.2.2 == 0)) && (z93.2.2.2 == 0)) && (((z93.2.2.1.length : Nat) : Int) == 1)) && ((⟨(gt z93.2.2.1 0).toArray⟩ : ByteArray) == (⟨#[113]⟩ : ByteArray)))) rfl rfl rfl hb126 ?_
          refine va rfl rfl rfl (q_len_slice rfl Try.underlying32 rfl) ?_
          refine WR.sat (c0 := true) (g := (((((z69 == 2) && (z82.2.2 == 0)) && (z93.2.2.2 == 0)) && (((z93.2.2.1.length : Nat) : Int) == 1)) && ((⟨(gt z93.2.2.1 0).toArray⟩ : ByteArray) == (⟨#[113]⟩ : ByteArray)))) rfl rfl rfl hb126 ?_
          refine va rfl rfl rfl (q_eql rfl rfl rfl) ?_
          refine va rfl rfl rfl (q_pick_t (v := .bool (((z127.length : Nat) : Int) == 2)) rfl rfl hb126 (by kernel_rfl)) ?_
          refine va rfl rfl rfl (q_assign (v := .bool (((z127.length : Nat) : Int) == 2)) rfl (by kernel_rfl)) ?_
          refine WR.nil ?_
          change WC _ _ _ _ _ _
          refine WC.ret ?_
          intro w hw
          obtain rfl := Option.some.inj h
          subst hF
          exact ⟨by kernel_rfl, hw.fr⟩
        · skip
          have h := bf hb126 h
          refine WR.unsat (c0 := true) (g := (((((z69 == 2) && (z82.2.2 == 0)) && (z93.2.2.2 == 0)) && (((z93.2.2.1.length : Nat) : Int) == 1)) && ((⟨(gt z93.2.2.1 0).toArray⟩ : ByteArray) == (⟨#[113]⟩ : ByteArray)))) rfl rfl rfl hb126 rfl ?_
          refine WR.unsat (c0 := true) (g := (((((z69 == 2) && (z82.2.2 == 0)) && (z93.2.2.2 == 0)) && (((z93.2.2.1.length : Nat) : Int) == 1)) && ((⟨(gt z93.2.2.1 0).toArray⟩ : ByteArray) == (⟨#[113]⟩ : ByteArray)))) rfl rfl rfl hb126 rfl ?_
          refine WR.unsat (c0 := true) (g := (((((z69 == 2) && (z82.2.2 == 0)) && (z93.2.2.2 == 0)) && (((z93.2.2.1.length : Nat) : Int) == 1)) && ((⟨(gt z93.2.2.1 0).toArray⟩ : ByteArray) == (⟨#[113]⟩ : ByteArray)))) rfl rfl rfl hb126 rfl ?_
          refine va rfl rfl rfl (q_pick_f (v := .bool false) rfl rfl hb126 (by kernel_rfl)) ?_
          refine va rfl rfl rfl (q_assign (v := .bool false) rfl (by kernel_rfl)) ?_
          refine WR.nil ?_
          change WC _ _ _ _ _ _
          refine WC.ret ?_
          intro w hw
          obtain rfl := Option.some.inj h
          subst hF
          exact ⟨by kernel_rfl, hw.fr⟩
    · skip
      have h := bf hb52 h
      refine WR.unsat (c0 := true) (g := (z40.2.2 != 0)) rfl rfl rfl hb52 rfl ?_
      refine WR.unsat (c0 := true) (g := (z40.2.2 != 0)) rfl rfl rfl hb52 rfl ?_
      refine WR.unsat (c0 := true) (g := (z40.2.2 != 0)) rfl rfl rfl hb52 rfl ?_
      refine WR.unsat (c0 := true) (g := (z40.2.2 != 0)) rfl rfl rfl hb52 rfl ?_
      refine va rfl rfl rfl (q_pick_t (v := .bool true) rfl rfl (not_f hb52) (by kernel_rfl)) ?_
      refine WR.nil ?_
      change WC _ _ _ _ _ _
      refine WC.ctk (b := true) (by kernel_rfl) rfl ?_
      refine WC.rs ?_
      refine va rfl rfl rfl (q_assign (v := .bool false) rfl (by kernel_rfl)) ?_
      refine WR.nil ?_
      change WC _ _ _ _ _ _
      refine WC.ret ?_
      intro w hw
      obtain rfl := Option.some.inj h
      subst hF
      exact ⟨by kernel_rfl, hw.fr⟩
  · skip
    have h := bf hb32 h
    refine WR.unsat (c0 := true) (g := (((Option.isNone z10.2.1) || (z10.2.2.2 != 0)) || (((z10.2.2.1.length : Nat) : Int) != 0))) rfl rfl rfl hb32 rfl ?_
    refine WR.unsat (c0 := true) (g := (((Option.isNone z10.2.1) || (z10.2.2.2 != 0)) || (((z10.2.2.1.length : Nat) : Int) != 0))) rfl rfl rfl hb32 rfl ?_
    refine WR.unsat (c0 := true) (g := (((Option.isNone z10.2.1) || (z10.2.2.2 != 0)) || (((z10.2.2.1.length : Nat) : Int) != 0))) rfl rfl rfl hb32 rfl ?_
    refine WR.unsat (c0 := true) (g := (((Option.isNone z10.2.1) || (z10.2.2.2 != 0)) || (((z10.2.2.1.length : Nat) : Int) != 0))) rfl rfl rfl hb32 rfl ?_
    refine va rfl rfl rfl (q_pick_t (v := .bool true) rfl rfl (not_f hb32) (by kernel_rfl)) ?_
    refine va rfl rfl rfl (q_move (v := .bool true) rfl (by kernel_rfl)) ?_
    refine WR.unsat (c0 := true) (g := true) rfl rfl rfl (nott rfl) rfl ?_
    refine WR.unsat (c0 := true) (g := true) rfl rfl rfl (nott rfl) rfl ?_
    refine WR.unsat (c0 := true) (g := true) rfl rfl rfl (nott rfl) rfl ?_
    refine WR.unsat (c0 := true) (g := true) rfl rfl rfl (nott rfl) rfl ?_
    refine WR.unsat (c0 := true) (g := true) rfl rfl rfl (nott rfl) rfl ?_
    refine va rfl rfl rfl (q_pickt (v := .bool true) rfl rfl rfl) ?_
    refine WR.nil ?_
    change WC _ _ _ _ _ _
    refine WC.ctk (b := true) (by kernel_rfl) rfl ?_
    refine WC.rs ?_
    refine va rfl rfl rfl (q_assign (v := .bool false) rfl (by kernel_rfl)) ?_
    refine WR.nil ?_
    change WC _ _ _ _ _ _
    refine WC.ret ?_
    intro w hw
    obtain rfl := Option.some.inj h
    subst hF
    exact ⟨by kernel_rfl, hw.fr⟩
set_option maxRecDepth 100000 in
set_option maxHeartbeats 400000 in
theorem t_firthref02_Same {Γ : Gh} {w0 : World} {Aa : Option Addr} {ca : Nat} {a : List (List UInt8)} (ha : Sl (slT byteT) Γ Aa a) (hac : a.length ≤ ca) {Ab : Option Addr} {cb : Nat} {b : List (List UInt8)} (hb : Sl (slT byteT) Γ Ab b) (hbc : b.length ≤ cb) (hs : Sat Γ w0) {r : Bool} (h : m_firthref02_Same a b = some r) : Calls Try.prog 18 #[.slice Aa a.length ca, .slice Ab b.length cb] w0 (fun e w' => e = .returned (.bool r) ∧ Fr no w0 w') := by
  refine calls_of (N := 28) (rs := [4]) (args := [.slice Aa a.length ca, .slice Ab b.length cb]) Try.func18 rfl Try.ntmps18 Try.results18 rfl ?_
  obtain ⟨F, hF⟩ : ∃ F : Fm, F = ⟨no, w0, Γ⟩ := ⟨_, rfl⟩
  refine WC.here (C := CC F Γ []) ?_ (hF ▸ Cur.start0 hs)
  refine WC.rs ?_
  refine va rfl rfl rfl (q_assign (v := .bool false) rfl (by kernel_rfl)) ?_
  refine WR.nil ?_
  change WC _ _ _ _ _ _
  refine WC.seq ?_
  refine WC.rs ?_
  refine va rfl rfl rfl (q_move (v := .slice Aa a.length ca) rfl (by kernel_rfl)) ?_
  refine va rfl rfl rfl (q_len_slice rfl Try.underlying22 rfl) ?_
  refine va rfl rfl rfl (q_move (v := .slice Ab b.length cb) rfl (by kernel_rfl)) ?_
  refine va rfl rfl rfl (q_len_slice rfl Try.underlying22 rfl) ?_
  refine va rfl rfl rfl (q_neq rfl rfl rfl) ?_
  refine WR.nil ?_
  change WC _ _ _ _ _ _
  refine WC.cif h (by kernel_rfl) (fun hb1 h => ?_) (fun hb1 h => ?_)
  · skip
    refine WC.rs ?_
    refine va rfl rfl rfl (q_assign (v := .bool false) rfl (by kernel_rfl)) ?_
    refine WR.nil ?_
    change WC _ _ _ _ _ _
    refine WC.ret ?_
    intro w hw
    obtain rfl := Option.some.inj h
    subst hF
    exact ⟨by kernel_rfl, hw.fr⟩
  · skip
    refine WC.skip ?_
    change WC _ _ _ _ _ _
    refine WC.seq ?_
    refine WC.rs ?_
    refine va rfl rfl rfl (q_assign (v := .int .i64 0) rfl (by kernel_rfl)) ?_
    refine WR.nil ?_
    change WC _ _ _ _ _ _
    refine WC.block ?_
    refine WC.forI h (fun (i3 : Nat) (s : Unit) σ w => match s with | () => slots σ [(0, .slice Aa a.length ca), (1, .slice Ab b.length cb), (5, .int .i64 ((i3 : Nat) : Int))] ∧ CC F Γ [] w ∧ True) ?_ ?_
    · skip
      intro w hw
      exact ⟨(sl_ (by kernel_rfl)), hw, trivial⟩
    rintro f2 i3 ⟨⟩ σ w hi4 hlt5 hge6 ⟨hsl, hw, -⟩
    refine Wpt.slots hsl ?_
    refine WC.here (C := CC F Γ []) ?_ hw
    clear hw hsl
    refine WC.seq ?_
    refine WC.rs ?_
    refine va rfl rfl rfl (q_move (v := .int .i64 ((i3 : Nat) : Int)) rfl (by kernel_rfl)) ?_
    refine va rfl rfl rfl (q_move (v := .slice Aa a.length ca) rfl (by kernel_rfl)) ?_
    refine va rfl rfl rfl (q_len_slice rfl Try.underlying22 rfl) ?_
    refine va rfl rfl rfl (q_lss rfl rfl rfl) ?_
    refine WR.nil ?_
    change WC _ _ _ _ _ _
    refine WC.cond (b := (decide (((i3 : Nat) : Int) < ((a.length : Nat) : Int)))) (by kernel_rfl) (fun hb7 => ?_) (fun hb7 => ?_)
    · skip
      have hl8 := ilt hb7
      have h := hlt5 hl8
      refine WC.skip ?_
      change WC _ _ _ _ _ _
      refine WC.seq ?_
      refine WC.block ?_
      refine WC.seq ?_
      refine WC.dr (by kernel_rfl) (by kernel_rfl) (fun w hw => hw.drawn _) ?_
      refine wa rfl rfl rfl (q_move (v := .slice Aa a.length ca) rfl (by kernel_rfl)) ?_
      refine wa rfl rfl rfl (q_move (v := .int .i64 ((i3 : Nat) : Int)) rfl (by kernel_rfl)) ?_
      refine wa rfl rfl rfl (q_ixn (i := i3) Try.underlying22 Try.sizeOf31 rfl rfl rfl hl8 (ha.some_ hl8)) ?_
      obtain ⟨A9, c10, hx11⟩ := ha.slT_at i3
      refine wa rfl rfl rfl (q_ld (c := 0) (v := .slice A9 (gt a i3).length c10) (hx11 hl8).2 rfl Try.isAgg31 rfl rfl) ?_
      refine wa rfl rfl rfl (q_bstr (hx11 hl8).1.2 Try.underlying31 Try.underlying5 Try.underlying9 rfl rfl) ?_
      refine wa rfl rfl rfl (q_move (v := .slice Ab b.length cb) rfl (by kernel_rfl)) ?_
      refine wa rfl rfl rfl (q_move (v := .int .i64 ((i3 : Nat) : Int)) rfl (by kernel_rfl)) ?_
      obtain ⟨hk12, h⟩ := chk_some h
      refine wa rfl rfl rfl (q_ixn (i := i3) Try.underlying22 Try.sizeOf31 rfl rfl rfl (of_decide_eq_true hk12) (hb.some_ (of_decide_eq_true hk12))) ?_
      obtain ⟨A13, c14, hx15⟩ := hb.slT_at i3
      refine wa rfl rfl rfl (q_ld (c := 0) (v := .slice A13 (gt b i3).length c14) (hx15 (of_decide_eq_true hk12)).2 rfl Try.isAgg31 rfl rfl) ?_
      refine wa rfl rfl rfl (q_bstr (hx15 (of_decide_eq_true hk12)).1.2 Try.underlying31 Try.underlying5 Try.underlying9 rfl rfl) ?_
      refine wa rfl rfl rfl (q_sneq rfl rfl rfl) ?_
      refine WQ.nil ?_
      change WC _ _ _ _ _ _
      refine WC.cif h (by kernel_rfl) (fun hb16 h => ?_) (fun hb16 h => ?_)
      · skip
        refine WC.rs ?_
        refine va rfl rfl rfl (q_assign (v := .bool false) rfl (by kernel_rfl)) ?_
        refine WR.nil ?_
        change WC _ _ _ _ _ _
        refine WC.ret ?_
        intro w hw
        obtain rfl := Option.some.inj h
        subst hF
        exact ⟨by kernel_rfl, hw.fr⟩
      · skip
        refine WC.skip ?_
        change WC _ _ _ _ _ _
        refine WC.region ?_
        refine va rfl rfl rfl (q_move (v := .int .i64 ((i3 : Nat) : Int)) rfl (by kernel_rfl)) ?_
        refine va rfl rfl rfl (q_add_r (r := ((i3 + 1 : Nat) : Int)) rfl rfl rfl (ctr_len hl8 ha.le)) ?_
        refine va rfl rfl rfl (q_assign (v := .int .i64 ((i3 + 1 : Nat) : Int)) rfl (by kernel_rfl)) ?_
        refine WR.nil ?_
        intro w hw
        exact ⟨hl8, (), h, (sl_ (by kernel_rfl)), hw, trivial⟩
    · skip
      have h := hge6 (ige hb7)
      refine WC.exit ?_
      change WC _ _ _ _ _ _
      refine WC.rs ?_
      refine va rfl rfl rfl (q_assign (v := .bool true) rfl (by kernel_rfl)) ?_
      refine WR.nil ?_
      change WC _ _ _ _ _ _
      refine WC.ret ?_
      intro w hw
      obtain rfl := Option.some.inj h
      subst hF
      exact ⟨by kernel_rfl, hw.fr⟩
set_option maxRecDepth 100000 in
set_option maxHeartbeats 400000 in
theorem t_firthlaw09_SeglogApart {Γ : Gh} {w0 : World} {Aa : Option Addr} {ca : Nat} {a : List (List UInt8)} (ha : Sl (slT byteT) Γ Aa a) (hac : a.length ≤ ca) {Ab : Option Addr} {cb : Nat} {b : List (List UInt8)} (hb : Sl (slT byteT) Γ Ab b) (hbc : b.length ≤ cb) {Aagain : Option Addr} {cagain : Nat} {again : List (List UInt8)} (hagain : Sl (slT byteT) Γ Aagain again) (hagainc : again.length ≤ cagain) (hs : Sat Γ w0) {r : Bool} (h : m_firthlaw09_SeglogApart a b again = some r) : Calls Try.prog 4 #[.slice Aa a.length ca, .slice Ab b.length cb, .slice Aagain again.length cagain] w0 (fun e w' => e = .returned (.bool r) ∧ Fr no w0 w') := by
  refine calls_of (N := 121) (rs := [6]) (args := [.slice Aa a.length ca, .slice Ab b.length cb, .slice Aagain again.length cagain]) Try.func4 rfl Try.ntmps4 Try.results4 rfl ?_
  obtain ⟨F, hF⟩ : ∃ F : Fm, F = ⟨no, w0, Γ⟩ := ⟨_, rfl⟩
  refine WC.here (C := CC F Γ []) ?_ (hF ▸ Cur.start0 hs)
  refine WC.rs ?_
  refine va rfl rfl rfl (q_assign (v := .bool false) rfl (by kernel_rfl)) ?_
  refine WR.nil ?_
  change WC _ _ _ _ _ _
  refine WC.seq ?_
  refine WC.rs ?_
  obtain ⟨z1, hz2, h⟩ := bnd h
  refine vc rfl rfl rfl (q_call (call_run Try.call7 rfl rfl (by kernel_rfl)) (fun w hw => t_firthlaw09_awake (Γ := Gh.all w)  (Sat.all w) hz2)) ?_
  refine va rfl rfl rfl (q_not rfl rfl) ?_
  refine WR.nil ?_
  change WC _ _ _ _ _ _
  refine WC.cif h (by kernel_rfl) (fun hb3 h => ?_) (fun hb3 h => ?_)
  · skip
    refine WC.rs ?_
    refine va rfl rfl rfl (q_assign (v := .bool false) rfl (by kernel_rfl)) ?_
    refine WR.nil ?_
    change WC _ _ _ _ _ _
    refine WC.ret ?_
    intro w hw
    obtain rfl := Option.some.inj h
    subst hF
    exact ⟨by kernel_rfl, hw.fr⟩
  · skip
    refine WC.skip ?_
    change WC _ _ _ _ _ _
    refine WC.rs ?_
    obtain ⟨z4, hz5, h⟩ := bnd h
    refine e_call (is := []) rfl rfl (call_run Try.call8 rfl rfl (by kernel_rfl)) rfl (fun w hp => t_disk_New 262144 (show I64 262144 by decide) hp hz5) ?_
    rintro Γ6 U8 v9 hl7 ⟨g10, row11, rfl, rfl, hr12, _⟩
    change WR _ _ _ (CC F Γ6 [row11]) _ _ (upd _ 21 (.pointer (some ⟨g10, 0, none⟩)))
    refine va rfl rfl rfl (q_assign (v := .pointer (some ⟨g10, 0, none⟩)) rfl (by kernel_rfl)) ?_
    refine WR.nil ?_
    change WC _ _ _ _ _ _
    refine WC.rs ?_
    refine va rfl rfl rfl (q_move (v := .pointer (some ⟨g10, 0, none⟩)) rfl (by kernel_rfl)) ?_
    obtain ⟨z13, hz14, h⟩ := bnd h
    refine e_call (is := [0]) rfl rfl (call_run Try.call9 rfl rfl (by kernel_rfl)) rfl (fun w hp => t_seglog_Open hr12 (⟨#[97]⟩ : ByteArray) (show (⟨#[97]⟩ : ByteArray).size ≤ lim by decide) 20 (show I64 20 by decide) hp hz14) ?_
    rintro Γ15 U17 v18 hl16 ⟨row19, g21, row22, A24, c25, row26, rfl, rfl, hr20, hr23, hr27, hr28, _⟩
    change WR _ _ _ (CC F Γ15 [row19, row22, row26]) _ _ (upd _ 24 (.tuple #[optp z13.2.1 g21, .slice A24 z13.2.2.1.length c25, .int .i64 z13.2.2.2]))
    refine va rfl rfl rfl (q_move (v := .tuple #[optp z13.2.1 g21, .slice A24 z13.2.2.1.length c25, .int .i64 z13.2.2.2]) rfl (by kernel_rfl)) ?_
    refine va rfl rfl rfl (q_extract (v := optp z13.2.1 g21) rfl rfl rfl) ?_
    refine va rfl rfl rfl (q_extract (v := .slice A24 z13.2.2.1.length c25) rfl rfl rfl) ?_
    refine va rfl rfl rfl (q_extract (v := .int .i64 z13.2.2.2) rfl rfl rfl) ?_
    refine va rfl rfl rfl (q_assign (v := optp z13.2.1 g21) rfl (by kernel_rfl)) ?_
    refine va rfl rfl rfl (q_assign (v := .slice A24 z13.2.2.1.length c25) rfl (by kernel_rfl)) ?_
    refine va rfl rfl rfl (q_assign (v := .int .i64 z13.2.2.2) rfl (by kernel_rfl)) ?_
    refine WR.nil ?_
    change WC _ _ _ _ _ _
    refine WC.rs ?_
    refine va rfl rfl rfl (q_move (v := .pointer (some ⟨g10, 0, none⟩)) rfl (by kernel_rfl)) ?_
    obtain ⟨z29, hz30, h⟩ := bnd h
    refine e_call (is := [0]) rfl rfl (call_run Try.call9 rfl rfl (by kernel_rfl)) rfl (fun w hp => t_seglog_Open hr20 (⟨#[97, 97]⟩ : ByteArray) (show (⟨#[97, 97]⟩ : ByteArray).size ≤ lim by decide) 20 (show I64 20 by decide) hp hz30) ?_
    rintro Γ31 U33 v34 hl32 ⟨row35, g37, row38, A40, c41, row42, rfl, rfl, hr36, hr39, hr43, hr44, _⟩
    change WR _ _ _ (CC F Γ31 [row35, row38, row42, row22, row26]) _ _ (upd _ 30 (.tuple #[optp z29.2.1 g37, .slice A40 z29.2.2.1.length c41, .int .i64 z29.2.2.2]))
    refine va rfl rfl rfl (q_move (v := .tuple #[optp z29.2.1 g37, .slice A40 z29.2.2.1.length c41, .int .i64 z29.2.2.2]) rfl (by kernel_rfl)) ?_
    refine va rfl rfl rfl (q_extract (v := optp z29.2.1 g37) rfl rfl rfl) ?_
    refine va rfl rfl rfl (q_extract (v := .slice A40 z29.2.2.1.length c41) rfl rfl rfl) ?_
    refine va rfl rfl rfl (q_extract (v := .int .i64 z29.2.2.2) rfl rfl rfl) ?_
    refine va rfl rfl rfl (q_assign (v := optp z29.2.1 g37) rfl (by kernel_rfl)) ?_
    refine va rfl rfl rfl (q_assign (v := .slice A40 z29.2.2.1.length c41) rfl (by kernel_rfl)) ?_
    refine va rfl rfl rfl (q_assign (v := .int .i64 z29.2.2.2) rfl (by kernel_rfl)) ?_
    refine WR.nil ?_
    change WC _ _ _ _ _ _
    refine WC.seq ?_
    refine WC.rs ?_
    refine va rfl rfl rfl (q_move (v := optp z13.2.1 g21) rfl (by kernel_rfl)) ?_
    refine va rfl rfl rfl (q_opt_eql Try.underlying26 rfl rfl rfl) ?_
    refine va rfl rfl rfl (q_move (v := .bool (Option.isNone z13.2.1)) rfl (by kernel_rfl)) ?_
    refine vg0 rfl rfl rfl rfl rfl (fun hg45 => QV.qo (q_move (v := optp z29.2.1 g37) rfl (by kernel_rfl))) ?_
    refine vg0 rfl rfl rfl rfl rfl (fun hg46 => QV.qo (q_opt_eql Try.underlying26 rfl (gu hg46 rfl) rfl)) ?_
    refine va rfl rfl rfl (q_pick rfl rfl (pk_or' (g := (Option.isNone z13.2.1)) (y := (Option.isNone z29.2.1)))) ?_
    refine va rfl rfl rfl (q_move (v := .bool ((Option.isNone z13.2.1) || (Option.isNone z29.2.1))) rfl (by kernel_rfl)) ?_
    refine vg0 rfl rfl rfl rfl rfl (fun hg47 => QV.qo (q_move (v := .int .i64 z13.2.2.2) rfl (by kernel_rfl))) ?_
    refine vg0 rfl rfl rfl rfl rfl (fun hg48 => QV.qo (q_neq rfl (gu hg48 rfl) rfl)) ?_
    refine va rfl rfl rfl (q_pick rfl rfl (pk_or' (g := ((Option.isNone z13.2.1) || (Option.isNone z29.2.1))) (y := (z13.2.2.2 != 0)))) ?_
    refine va rfl rfl rfl (q_move (v := .bool (((Option.isNone z13.2.1) || (Option.isNone z29.2.1)) || (z13.2.2.2 != 0))) rfl (by kernel_rfl)) ?_
    refine vg0 rfl rfl rfl rfl rfl (fun hg49 => QV.qo (q_move (v := .int .i64 z29.2.2.2) rfl (by kernel_rfl))) ?_
    refine vg0 rfl rfl rfl rfl rfl (fun hg50 => QV.qo (q_neq rfl (gu hg50 rfl) rfl)) ?_
    refine va rfl rfl rfl (q_pick rfl rfl (pk_or' (g := (((Option.isNone z13.2.1) || (Option.isNone z29.2.1)) || (z13.2.2.2 != 0))) (y := (z29.2.2.2 != 0)))) ?_
    refine WR.nil ?_
    change WC _ _ _ _ _ _
    refine WC.cif h (by kernel_rfl) (fun hb51 h => ?_) (fun hb51 h => ?_)
    · skip
      refine WC.rs ?_
      refine va rfl rfl rfl (q_assign (v := .bool false) rfl (by kernel_rfl)) ?_
      refine WR.nil ?_
      change WC _ _ _ _ _ _
      refine WC.ret ?_
      intro w hw
      obtain rfl := Option.some.inj h
      subst hF
      exact ⟨by kernel_rfl, hw.fr⟩
    · skip
      obtain ⟨z52, hz53, h⟩ := bnd h
      have ho54 := optob_some hr39 hz53
      obtain ⟨z55, hz56, h⟩ := bnd h
      have ho57 := optob_some (optob_mono hr23 (fun _ h => h.mono hl32)) hz56
      refine WC.skip ?_
      change WC _ _ _ _ _ _
      refine WC.seq ?_
      refine WC.rs ?_
      refine va rfl rfl rfl (q_assign (v := .int .i64 0) rfl (by kernel_rfl)) ?_
      refine WR.nil ?_
      change WC _ _ _ _ _ _
      refine WC.block ?_
      refine WC.loopN h (fun (s : Int × Odisk_Disk × Oseglog_Log × Oseglog_Log) σ w => match s with | (i_60, o62, o65, o68) => ∃ (Γ58 : Gh), ∃ (row63 : Rowb), ∃ (row66 : Rowb), ∃ (row69 : Rowb), slots σ [(0, .slice Aa a.length ca), (1, .slice Ab b.length cb), (2, .slice Aagain again.length cagain), (7, .pointer (some ⟨g10, 0, none⟩)), (8, optp z13.2.1 g21), (11, optp z29.2.1 g37), (14, .int .i64 i_60)] ∧ CC F Γ58 [row63, row66, row69] w ∧ Gh.le Γ31 Γ58 ∧ I64 i_60 ∧ Odisk_Disk.ob 52 Γ58 g10 row63 o62 ∧ Oseglog_Log.ob (63, g10) Γ58 g37 row66 o65 ∧ Oseglog_Log.ob (63, g10) Γ58 g21 row69 o68 ∧ True) ?_ ?_
      · skip
        intro w hw
        exact ⟨Γ31, row35, row38, row22, (sl_ (by kernel_rfl)), (hw.only (is := [0, 0, 1]) rfl), (Gh.refl _), (show I64 0 by decide), hr36, ho54, ho57, trivial⟩
      rintro f71 ⟨i_60, o62, o65, o68⟩ σ w h ⟨Γ58, row63, row66, row69, hsl, hw, hl59, hr61, ho64, ho67, ho70, -⟩
      refine Wpt.slots hsl ?_
      refine WC.here (C := CC F Γ58 [row63, row66, row69]) ?_ hw
      clear hw hsl
      refine WC.seq ?_
      refine WC.rs ?_
      refine va rfl rfl rfl (q_move (v := .int .i64 i_60) rfl (by kernel_rfl)) ?_
      refine va rfl rfl rfl (q_move (v := .slice Aa a.length ca) rfl (by kernel_rfl)) ?_
      refine va rfl rfl rfl (q_len_slice rfl Try.underlying22 rfl) ?_
      refine va rfl rfl rfl (q_lss rfl rfl rfl) ?_
      refine va rfl rfl rfl (q_move (v := .bool (decide (i_60 < ((a.length : Nat) : Int)))) rfl (by kernel_rfl)) ?_
      refine vg0 rfl rfl rfl rfl rfl (fun hg75 => QV.qo (q_move (v := .int .i64 i_60) rfl (by kernel_rfl))) ?_
      refine vg0 rfl rfl rfl rfl rfl (fun hg76 => QV.qo (q_move (v := .slice Ab b.length cb) rfl (by kernel_rfl))) ?_
      refine vg0 rfl rfl rfl rfl rfl (fun hg77 => QV.qo (q_len_slice rfl Try.underlying22 (gu hg77 rfl))) ?_
      refine vg0 rfl rfl rfl rfl rfl (fun hg78 => QV.qo (q_lss rfl (gu hg78 rfl) (gu hg78 rfl))) ?_
      refine va rfl rfl rfl (q_pick rfl rfl (pk_or' (g := (decide (i_60 < ((a.length : Nat) : Int)))) (y := (decide (i_60 < ((b.length : Nat) : Int)))))) ?_
      refine WR.nil ?_
      change WC _ _ _ _ _ _
      refine WC.cif h (by kernel_rfl) (fun hb79 h => ?_) (fun hb79 h => ?_)
      · skip
        refine WC.skip ?_
        change WC _ _ _ _ _ _
        refine WC.seq ?_
        refine WC.block ?_
        refine WC.rs ?_
        refine va rfl rfl rfl (q_move (v := .int .i64 i_60) rfl (by kernel_rfl)) ?_
        refine va rfl rfl rfl (q_move (v := .slice Aa a.length ca) rfl (by kernel_rfl)) ?_
        refine va rfl rfl rfl (q_len_slice rfl Try.underlying22 rfl) ?_
        refine va rfl rfl rfl (q_lss rfl rfl rfl) ?_
        refine va rfl rfl rfl (q_move (v := .bool (decide (i_60 < ((a.length : Nat) : Int)))) rfl (by kernel_rfl)) ?_
        refine vg1 rfl rfl rfl rfl rfl (fun hg80 => QV.qo (q_move (v := .pointer (some ⟨g21, 0, none⟩)) rfl (optp_some rfl hz56))) ?_
        refine vg1 rfl rfl rfl rfl rfl (fun hg81 => QV.qo (q_move (v := .slice Aa a.length ca) rfl (by kernel_rfl))) ?_
        refine vg1 rfl rfl rfl rfl rfl (fun hg82 => QV.qo (q_move (v := .int .i64 i_60) rfl (by kernel_rfl))) ?_
        obtain ⟨hk84, h⟩ := chk_some h
        refine vg1 rfl rfl rfl rfl rfl (fun hg83 => QV.qo (q_ix Try.underlying22 Try.sizeOf31 rfl (gu hg83 rfl) (gu hg83 rfl) (imp_of hk84 hg83) ((ha.mono (((hl7.trans hl16).trans hl32).trans hl59)).some_ (inb_lt (imp_of hk84 hg83))))) ?_
        obtain ⟨A86, c87, hx88⟩ := (ha.mono (((hl7.trans hl16).trans hl32).trans hl59)).slT_at i_60.toNat
        refine vg1 rfl rfl rfl rfl rfl (fun hg85 => QV.qo (q_ld (c := 0) (v := .slice A86 (gt a i_60.toNat).length c87) (hx88 (inb_lt (imp_of hk84 hg85))).2 rfl Try.isAgg31 (gu hg85 rfl) rfl)) ?_
        refine (Bool.eq_false_or_eq_true (decide (i_60 < ((a.length : Nat) : Int)))).elim (fun hb89 => ?_) (fun hb89 => ?_)
        · skip
          have h := bt hb89 h
          refine WR.sat (c0 := true) (g := (decide (i_60 < ((a.length : Nat) : Int)))) rfl rfl rfl hb89 ?_
          obtain ⟨hk90, h⟩ := chk_some h
          obtain ⟨z91, hz92, h⟩ := bnd h
          refine e_call (is := [2, 0]) rfl rfl (call_run Try.call10 rfl rfl (args2 (gu hb89 rfl) (gu hb89 rfl))) rfl (fun w hp => t_seglog_Log_Append ho70 (hx88 (inb_lt hk90)).1.2 (hx88 (inb_lt hk90)).1.1 ho64 hp hz92) ?_
          rintro Γ93 U95 v96 hl94 ⟨row97, row99, rfl, rfl, hr98, hr100, hr101, _⟩
          change WR _ _ _ (CC F Γ93 [row97, row99, row66]) _ _ (upd _ 70 (.int .i64 z91.2.2))
          refine WR.sat (c0 := true) (g := (decide (i_60 < ((a.length : Nat) : Int)))) rfl rfl rfl hb89 ?_
          refine va rfl rfl rfl (q_neq rfl rfl rfl) ?_
          refine va rfl rfl rfl (q_pick_t (v := .bool (z91.2.2 != 0)) rfl rfl hb89 (by kernel_rfl)) ?_
          refine va rfl rfl rfl (q_move (v := .bool (z91.2.2 != 0)) rfl (by kernel_rfl)) ?_
          refine vg0 rfl rfl rfl rfl rfl (fun hg102 => QV.qo (q_move (v := .int .i64 i_60) rfl (by kernel_rfl))) ?_
          refine vg0 rfl rfl rfl rfl rfl (fun hg103 => QV.qo (q_move (v := .slice Ab b.length cb) rfl (by kernel_rfl))) ?_
          refine vg0 rfl rfl rfl rfl rfl (fun hg104 => QV.qo (q_len_slice rfl Try.underlying22 (gu hg104 rfl))) ?_
          refine vg0 rfl rfl rfl rfl rfl (fun hg105 => QV.qo (q_lss rfl (gu hg105 rfl) (gu hg105 rfl))) ?_
          refine vg0 rfl rfl rfl rfl rfl (fun hg106 => QV.qo (q_move (v := .bool (decide (i_60 < ((b.length : Nat) : Int)))) rfl (gu hg106 rfl))) ?_
          refine vh1 (c0 := (!(z91.2.2 != 0))) (g := (decide (i_60 < ((b.length : Nat) : Int)))) rfl rfl rfl rfl rfl (fun hg107 => QV.qo (q_move (v := .pointer (some ⟨g37, 0, none⟩)) rfl (optp_some rfl hz53))) ?_
          refine vh1 (c0 := (!(z91.2.2 != 0))) (g := (decide (i_60 < ((b.length : Nat) : Int)))) rfl rfl rfl rfl rfl (fun hg108 => QV.qo (q_move (v := .slice Ab b.length cb) rfl (by kernel_rfl))) ?_
          refine vh1 (c0 := (!(z91.2.2 != 0))) (g := (decide (i_60 < ((b.length : Nat) : Int)))) rfl rfl rfl rfl rfl (fun hg109 => QV.qo (q_move (v := .int .i64 i_60) rfl (by kernel_rfl))) ?_
          obtain ⟨hk111, h⟩ := chk_some h
          refine vh1 (c0 := (!(z91.2.2 != 0))) (g := (decide (i_60 < ((b.length : Nat) : Int)))) rfl rfl rfl rfl rfl (fun hg110 => QV.qo (q_ix Try.underlying22 Try.sizeOf31 rfl (gu hg110 rfl) (gu hg110 rfl) (imp_of hk111 hg110) ((hb.mono ((((hl7.trans hl16).trans hl32).trans hl59).trans hl94)).some_ (inb_lt (imp_of hk111 hg110))))) ?_
          obtain ⟨A113, c114, hx115⟩ := (hb.mono ((((hl7.trans hl16).trans hl32).trans hl59).trans hl94)).slT_at i_60.toNat
          refine vh1 (c0 := (!(z91.2.2 != 0))) (g := (decide (i_60 < ((b.length : Nat) : Int)))) rfl rfl rfl rfl rfl (fun hg112 => QV.qo (q_ld (c := 0) (v := .slice A113 (gt b i_60.toNat).length c114) (hx115 (inb_lt (imp_of hk111 hg112))).2 rfl Try.isAgg31 (gu hg112 rfl) rfl)) ?_
          refine (Bool.eq_false_or_eq_true ((!(z91.2.2 != 0)) && (decide (i_60 < ((b.length : Nat) : Int))))).elim (fun hb116 => ?_) (fun hb116 => ?_)
          · skip
            have h := bt hb116 h
            refine WR.sat (c0 := (!(z91.2.2 != 0))) (g := (decide (i_60 < ((b.length : Nat) : Int)))) rfl rfl rfl hb116 ?_
            obtain ⟨hk117, h⟩ := chk_some h
            obtain ⟨z118, hz119, h⟩ := bnd h
            refine e_call (is := [2, 1]) rfl rfl (call_run Try.call10 rfl rfl (args2 (gu hb116 rfl) (gu hb116 rfl))) rfl (fun w hp => t_seglog_Log_Append (ho67.mono hl94) (hx115 (inb_lt hk117)).1.2 (hx115 (inb_lt hk117)).1.1 hr100 hp hz119) ?_
            rintro Γ120 U122 v123 hl121 ⟨row124, row126, rfl, rfl, hr125, hr127, hr128, _⟩
            change WR _ _ _ (CC F Γ120 [row124, row126, row97]) _ _ (upd _ 84 (.int .i64 z118.2.2))
            refine WR.sat (c0 := (!(z91.2.2 != 0))) (g := (decide (i_60 < ((b.length : Nat) : Int)))) rfl rfl rfl hb116 ?_
            refine va rfl rfl rfl (q_neq rfl rfl rfl) ?_
            refine WR.sat (c0 := true) (g := (z91.2.2 != 0)) rfl rfl rfl (and_l hb116) ?_
            refine va rfl rfl rfl (q_pick_t (v := .bool (z118.2.2 != 0)) rfl (gu (and_l hb116) rfl) (and_r hb116) (by kernel_rfl)) ?_
            refine va rfl rfl rfl (q_pick_f (v := .bool (z118.2.2 != 0)) rfl rfl (not_t (and_l hb116)) (by kernel_rfl)) ?_
            refine WR.nil ?_
            change WC _ _ _ _ _ _
            refine WC.cif h (by kernel_rfl) (fun hb129 h => ?_) (fun hb129 h => ?_)
            · skip
              refine WC.rs ?_
              refine va rfl rfl rfl (q_assign (v := .bool true) rfl (by kernel_rfl)) ?_
              refine WR.nil ?_
              change WC _ _ _ _ _ _
              refine WC.ret ?_
              intro w hw
              obtain rfl := Option.some.inj h
              subst hF
              exact ⟨by kernel_rfl, hw.fr⟩
            · skip
              refine WC.skip ?_
              change WC _ _ _ _ _ _
              refine WC.region ?_
              refine va rfl rfl rfl (q_move (v := .int .i64 i_60) rfl (by kernel_rfl)) ?_
              refine va rfl rfl rfl (q_add rfl rfl rfl) ?_
              refine va rfl rfl rfl (q_assign (v := .int .i64 (w64 (i_60 + 1))) rfl (by kernel_rfl)) ?_
              refine WR.nil ?_
              intro w hw
              exact ⟨((w64 (i_60 + 1)), z118.2.1, z118.1, z91.1), h, Γ120, row126, row124, row97, (sl_ (by kernel_rfl)), (hw.only (is := [1, 0, 0]) rfl), ((hl59.trans hl94).trans hl121), (w64_r _), hr127, hr125, (hr98.mono hl121), trivial⟩
          · skip
            have h := bf hb116 h
            refine WR.unsat (c0 := (!(z91.2.2 != 0))) (g := (decide (i_60 < ((b.length : Nat) : Int)))) rfl rfl rfl hb116 rfl ?_
            refine WR.unsat (c0 := (!(z91.2.2 != 0))) (g := (decide (i_60 < ((b.length : Nat) : Int)))) rfl rfl rfl hb116 rfl ?_
            refine vg0 rfl rfl rfl rfl rfl (fun hg130 => QV.qo (q_pick_f (v := .bool false) rfl (gu hg130 rfl) (and_nf hb116 hg130) (by kernel_rfl))) ?_
            refine va rfl rfl rfl (q_pick rfl rfl (pk_or' (g := (z91.2.2 != 0)) (y := false))) ?_
            refine WR.nil ?_
            change WC _ _ _ _ _ _
            refine WC.cif h (by kernel_rfl) (fun hb131 h => ?_) (fun hb131 h => ?_)
            · skip
              refine WC.rs ?_
              refine va rfl rfl rfl (q_assign (v := .bool true) rfl (by kernel_rfl)) ?_
              refine WR.nil ?_
              change WC _ _ _ _ _ _
              refine WC.ret ?_
              intro w hw
              obtain rfl := Option.some.inj h
              subst hF
              exact ⟨by kernel_rfl, hw.fr⟩
            · skip
              refine WC.skip ?_
              change WC _ _ _ _ _ _
              refine WC.region ?_
              refine va rfl rfl rfl (q_move (v := .int .i64 i_60) rfl (by kernel_rfl)) ?_
              refine va rfl rfl rfl (q_add rfl rfl rfl) ?_
              refine va rfl rfl rfl (q_assign (v := .int .i64 (w64 (i_60 + 1))) rfl (by kernel_rfl)) ?_
              refine WR.nil ?_
              intro w hw
              exact ⟨((w64 (i_60 + 1)), z91.2.1, o65, z91.1), h, Γ93, row99, row66, row97, (sl_ (by kernel_rfl)), (hw.only (is := [1, 1, 0]) rfl), (hl59.trans hl94), (w64_r _), hr100, (ho67.mono hl94), hr98, trivial⟩
        · skip
          have h := bf hb89 h
          refine WR.unsat (c0 := true) (g := (decide (i_60 < ((a.length : Nat) : Int)))) rfl rfl rfl hb89 rfl ?_
          refine WR.unsat (c0 := true) (g := (decide (i_60 < ((a.length : Nat) : Int)))) rfl rfl rfl hb89 rfl ?_
          refine va rfl rfl rfl (q_pick_f (v := .bool false) rfl rfl hb89 (by kernel_rfl)) ?_
          refine va rfl rfl rfl (q_move (v := .bool false) rfl (by kernel_rfl)) ?_
          refine WR.sat (c0 := true) (g := false) rfl rfl rfl (notf rfl) ?_
          refine va rfl rfl rfl (q_move (v := .int .i64 i_60) rfl (by kernel_rfl)) ?_
          refine WR.sat (c0 := true) (g := false) rfl rfl rfl (notf rfl) ?_
          refine va rfl rfl rfl (q_move (v := .slice Ab b.length cb) rfl (by kernel_rfl)) ?_
          refine WR.sat (c0 := true) (g := false) rfl rfl rfl (notf rfl) ?_
          refine va rfl rfl rfl (q_len_slice rfl Try.underlying22 rfl) ?_
          refine WR.sat (c0 := true) (g := false) rfl rfl rfl (notf rfl) ?_
          refine va rfl rfl rfl (q_lss rfl rfl rfl) ?_
          refine WR.sat (c0 := true) (g := false) rfl rfl rfl (notf rfl) ?_
          refine va rfl rfl rfl (q_move (v := .bool (decide (i_60 < ((b.length : Nat) : Int)))) rfl (by kernel_rfl)) ?_
          refine vg1 rfl rfl rfl rfl rfl (fun hg132 => QV.qo (q_move (v := .pointer (some ⟨g37, 0, none⟩)) rfl (optp_some rfl hz53))) ?_
          refine vg1 rfl rfl rfl rfl rfl (fun hg133 => QV.qo (q_move (v := .slice Ab b.length cb) rfl (by kernel_rfl))) ?_
          refine vg1 rfl rfl rfl rfl rfl (fun hg134 => QV.qo (q_move (v := .int .i64 i_60) rfl (by kernel_rfl))) ?_
          obtain ⟨hk136, h⟩ := chk_some h
          refine vg1 rfl rfl rfl rfl rfl (fun hg135 => QV.qo (q_ix Try.underlying22 Try.sizeOf31 rfl (gu hg135 rfl) (gu hg135 rfl) (imp_of hk136 hg135) ((hb.mono (((hl7.trans hl16).trans hl32).trans hl59)).some_ (inb_lt (imp_of hk136 hg135))))) ?_
          obtain ⟨A138, c139, hx140⟩ := (hb.mono (((hl7.trans hl16).trans hl32).trans hl59)).slT_at i_60.toNat
          refine vg1 rfl rfl rfl rfl rfl (fun hg137 => QV.qo (q_ld (c := 0) (v := .slice A138 (gt b i_60.toNat).length c139) (hx140 (inb_lt (imp_of hk136 hg137))).2 rfl Try.isAgg31 (gu hg137 rfl) rfl)) ?_
          refine (Bool.eq_false_or_eq_true (decide (i_60 < ((b.length : Nat) : Int)))).elim (fun hb141 => ?_) (fun hb141 => ?_)
          · skip
            have h := bt hb141 h
            refine WR.sat (c0 := true) (g := (decide (i_60 < ((b.length : Nat) : Int)))) rfl rfl rfl hb141 ?_
            obtain ⟨hk142, h⟩ := chk_some h
            obtain ⟨z143, hz144, h⟩ := bnd h
            refine e_call (is := [1, 0]) rfl rfl (call_run Try.call10 rfl rfl (args2 (gu hb141 rfl) (gu hb141 rfl))) rfl (fun w hp => t_seglog_Log_Append ho67 (hx140 (inb_lt hk142)).1.2 (hx140 (inb_lt hk142)).1.1 ho64 hp hz144) ?_
            rintro Γ145 U147 v148 hl146 ⟨row149, row151, rfl, rfl, hr150, hr152, hr153, _⟩
            change WR _ _ _ (CC F Γ145 [row149, row151, row69]) _ _ (upd _ 84 (.int .i64 z143.2.2))
            refine WR.sat (c0 := true) (g := (decide (i_60 < ((b.length : Nat) : Int)))) rfl rfl rfl hb141 ?_
            refine va rfl rfl rfl (q_neq rfl rfl rfl) ?_
            refine WR.sat (c0 := true) (g := false) rfl rfl rfl (notf rfl) ?_
            refine va rfl rfl rfl (q_pick_t (v := .bool (z143.2.2 != 0)) rfl rfl hb141 (by kernel_rfl)) ?_
            refine va rfl rfl rfl (q_pickf (v := .bool (z143.2.2 != 0)) rfl rfl rfl) ?_
            refine WR.nil ?_
            change WC _ _ _ _ _ _
            refine WC.cif h (by kernel_rfl) (fun hb154 h => ?_) (fun hb154 h => ?_)
            · skip
              refine WC.rs ?_
              refine va rfl rfl rfl (q_assign (v := .bool true) rfl (by kernel_rfl)) ?_
              refine WR.nil ?_
              change WC _ _ _ _ _ _
              refine WC.ret ?_
              intro w hw
              obtain rfl := Option.some.inj h
              subst hF
              exact ⟨by kernel_rfl, hw.fr⟩
            · skip
              refine WC.skip ?_
              change WC _ _ _ _ _ _
              refine WC.region ?_
              refine va rfl rfl rfl (q_move (v := .int .i64 i_60) rfl (by kernel_rfl)) ?_
              refine va rfl rfl rfl (q_add rfl rfl rfl) ?_
              refine va rfl rfl rfl (q_assign (v := .int .i64 (w64 (i_60 + 1))) rfl (by kernel_rfl)) ?_
              refine WR.nil ?_
              intro w hw
              exact ⟨((w64 (i_60 + 1)), z143.2.1, z143.1, o68), h, Γ145, row151, row149, row69, (sl_ (by kernel_rfl)), (hw.only (is := [1, 0, 0]) rfl), (hl59.trans hl146), (w64_r _), hr152, hr150, (ho70.mono hl146), trivial⟩
          · skip
            have h := bf hb141 h
            refine WR.unsat (c0 := true) (g := (decide (i_60 < ((b.length : Nat) : Int)))) rfl rfl rfl hb141 rfl ?_
            refine WR.unsat (c0 := true) (g := (decide (i_60 < ((b.length : Nat) : Int)))) rfl rfl rfl hb141 rfl ?_
            refine WR.sat (c0 := true) (g := false) rfl rfl rfl (notf rfl) ?_
            refine va rfl rfl rfl (q_pick_f (v := .bool false) rfl rfl hb141 (by kernel_rfl)) ?_
            refine va rfl rfl rfl (q_pickf (v := .bool false) rfl rfl rfl) ?_
            refine WR.nil ?_
            change WC _ _ _ _ _ _
            refine WC.cfk (b := false) (by kernel_rfl) rfl ?_
            refine WC.skip ?_
            change WC _ _ _ _ _ _
            refine WC.region ?_
            refine va rfl rfl rfl (q_move (v := .int .i64 i_60) rfl (by kernel_rfl)) ?_
            refine va rfl rfl rfl (q_add rfl rfl rfl) ?_
            refine va rfl rfl rfl (q_assign (v := .int .i64 (w64 (i_60 + 1))) rfl (by kernel_rfl)) ?_
            refine WR.nil ?_
            intro w hw
            exact ⟨((w64 (i_60 + 1)), o62, o65, o68), h, Γ58, row63, row66, row69, (sl_ (by kernel_rfl)), hw, hl59, (w64_r _), ho64, ho67, ho70, trivial⟩
      · skip
        refine WC.exit ?_
        change WC _ _ _ _ _ _
        refine WC.cut (fun σ w => ∃ (again_157 : List (List UInt8)), ∃ (o162 : Odisk_Disk), ∃ (o165 : Oseglog_Log), ∃ (Γ155 : Gh), ∃ (A158 : Option Addr), ∃ (c159 : Nat), ∃ (row163 : Rowb), ∃ (row166 : Rowb), m_firthlaw09_SeglogApart_j2 a again_157 o162 o165 = some r ∧ slots σ [(0, .slice Aa a.length ca), (2, .slice A158 again_157.length c159), (7, .pointer (some ⟨g10, 0, none⟩))] ∧ CC F Γ155 [row163, row166, row69] w ∧ Gh.le Γ58 Γ155 ∧ again_157.length ≤ c159 ∧ Sl (slT byteT) Γ155 A158 again_157 ∧ Odisk_Disk.ob 52 Γ155 g10 row163 o162 ∧ Oseglog_Log.ob (63, g10) Γ155 g37 row166 o165 ∧ True) ?_ ?_
        · skip
          refine WC.rs ?_
          refine va rfl rfl rfl (q_move (v := .pointer (some ⟨g37, 0, none⟩)) rfl (optp_some rfl hz53)) ?_
          refine va rfl rfl rfl (q_move (v := .slice Aagain again.length cagain) rfl (by kernel_rfl)) ?_
          obtain ⟨z168, hz169, h⟩ := bnd h
          refine e_call (is := [1, 0]) rfl rfl (call_run Try.call17 rfl rfl (by kernel_rfl)) rfl (fun w hp => t_seglog_Log_Rewrite ho67 (hagain.mono (((hl7.trans hl16).trans hl32).trans hl59)) hagainc ho64 hp hz169) ?_
          rintro Γ170 U172 v173 hl171 ⟨row174, row176, rfl, rfl, hr175, hr177, hr178, _⟩
          change WR _ _ _ (CC F Γ170 [row174, row176, row69]) _ _ (upd _ 90 (.int .i64 z168.2.2))
          refine va rfl rfl rfl (q_neq rfl rfl rfl) ?_
          refine WR.nil ?_
          change WC _ _ _ _ _ _
          refine WC.cif h (by kernel_rfl) (fun hb179 h => ?_) (fun hb179 h => ?_)
          · skip
            refine WC.region ?_
            refine va rfl rfl rfl (q_move (v := .slice Ab b.length cb) rfl (by kernel_rfl)) ?_
            refine va rfl rfl rfl (q_assign (v := .slice Ab b.length cb) rfl (by kernel_rfl)) ?_
            refine WR.nil ?_
            intro w hw
            exact ⟨b, z168.2.1, z168.1, Γ170, Ab, cb, row176, row174, h, (sl_ (by kernel_rfl)), (hw.only (is := [1, 0, 0]) rfl), hl171, hbc, (hb.mono ((((hl7.trans hl16).trans hl32).trans hl59).trans hl171)), hr177, hr175, trivial⟩
          · skip
            refine WC.skip ?_
            intro w hw
            exact ⟨again, z168.2.1, z168.1, Γ170, Aagain, cagain, row176, row174, h, (sl_ (by kernel_rfl)), (hw.only (is := [1, 0, 0]) rfl), hl171, hagainc, (hagain.mono ((((hl7.trans hl16).trans hl32).trans hl59).trans hl171)), hr177, hr175, trivial⟩
        · skip
          rintro σ w ⟨again_157, o162, o165, Γ155, A158, c159, row163, row166, h, hsl, hw, hl156, hc161, hs160, ho164, ho167, -⟩
          refine Wpt.slots hsl ?_
          refine WC.here (C := CC F Γ155 [row163, row166, row69]) ?_ hw
          clear hw hsl
          refine WC.rs ?_
          refine va rfl rfl rfl (q_move (v := .pointer (some ⟨g10, 0, none⟩)) rfl (by kernel_rfl)) ?_
          obtain ⟨z180, hz181, h⟩ := bnd h
          refine e_call (is := [0]) rfl rfl (call_run Try.call9 rfl rfl (by kernel_rfl)) rfl (fun w hp => t_seglog_Open ho164 (⟨#[97]⟩ : ByteArray) (show (⟨#[97]⟩ : ByteArray).size ≤ lim by decide) 20 (show I64 20 by decide) hp hz181) ?_
          rintro Γ182 U184 v185 hl183 ⟨row186, g188, row189, A191, c192, row193, rfl, rfl, hr187, hr190, hr194, hr195, _⟩
          change WR _ _ _ (CC F Γ182 [row186, row189, row193, row166, row69]) _ _ (upd _ 95 (.tuple #[optp z180.2.1 g188, .slice A191 z180.2.2.1.length c192, .int .i64 z180.2.2.2]))
          refine va rfl rfl rfl (q_move (v := .tuple #[optp z180.2.1 g188, .slice A191 z180.2.2.1.length c192, .int .i64 z180.2.2.2]) rfl (by kernel_rfl)) ?_
          refine va rfl rfl rfl (q_extract (v := optp z180.2.1 g188) rfl rfl rfl) ?_
          refine va rfl rfl rfl (q_extract (v := .slice A191 z180.2.2.1.length c192) rfl rfl rfl) ?_
          refine va rfl rfl rfl (q_extract (v := .int .i64 z180.2.2.2) rfl rfl rfl) ?_
          refine va rfl rfl rfl (q_assign (v := optp z180.2.1 g188) rfl (by kernel_rfl)) ?_
          refine va rfl rfl rfl (q_assign (v := .slice A191 z180.2.2.1.length c192) rfl (by kernel_rfl)) ?_
          refine va rfl rfl rfl (q_assign (v := .int .i64 z180.2.2.2) rfl (by kernel_rfl)) ?_
          refine WR.nil ?_
          change WC _ _ _ _ _ _
          refine WC.rs ?_
          refine va rfl rfl rfl (q_move (v := .pointer (some ⟨g10, 0, none⟩)) rfl (by kernel_rfl)) ?_
          obtain ⟨z196, hz197, h⟩ := bnd h
          refine e_call (is := [0]) rfl rfl (call_run Try.call9 rfl rfl (by kernel_rfl)) rfl (fun w hp => t_seglog_Open hr187 (⟨#[97, 97]⟩ : ByteArray) (show (⟨#[97, 97]⟩ : ByteArray).size ≤ lim by decide) 20 (show I64 20 by decide) hp hz197) ?_
          rintro Γ198 U200 v201 hl199 ⟨row202, g204, row205, A207, c208, row209, rfl, rfl, hr203, hr206, hr210, hr211, _⟩
          change WR _ _ _ (CC F Γ198 [row202, row205, row209, row189, row193, row166, row69]) _ _ (upd _ 101 (.tuple #[optp z196.2.1 g204, .slice A207 z196.2.2.1.length c208, .int .i64 z196.2.2.2]))
          refine va rfl rfl rfl (q_move (v := .tuple #[optp z196.2.1 g204, .slice A207 z196.2.2.1.length c208, .int .i64 z196.2.2.2]) rfl (by kernel_rfl)) ?_
          refine va rfl rfl rfl (q_extract (v := optp z196.2.1 g204) rfl rfl rfl) ?_
          refine va rfl rfl rfl (q_extract (v := .slice A207 z196.2.2.1.length c208) rfl rfl rfl) ?_
          refine va rfl rfl rfl (q_extract (v := .int .i64 z196.2.2.2) rfl rfl rfl) ?_
          refine va rfl rfl rfl (q_assign (v := optp z196.2.1 g204) rfl (by kernel_rfl)) ?_
          refine va rfl rfl rfl (q_assign (v := .slice A207 z196.2.2.1.length c208) rfl (by kernel_rfl)) ?_
          refine va rfl rfl rfl (q_assign (v := .int .i64 z196.2.2.2) rfl (by kernel_rfl)) ?_
          refine WR.nil ?_
          change WC _ _ _ _ _ _
          refine WC.rs ?_
          refine va rfl rfl rfl (q_move (v := .int .i64 z180.2.2.2) rfl (by kernel_rfl)) ?_
          refine va rfl rfl rfl (q_eql rfl rfl rfl) ?_
          refine va rfl rfl rfl (q_move (v := .bool (z180.2.2.2 == 0)) rfl (by kernel_rfl)) ?_
          refine vg1 rfl rfl rfl rfl rfl (fun hg212 => QV.qo (q_move (v := .int .i64 z196.2.2.2) rfl (by kernel_rfl))) ?_
          refine vg1 rfl rfl rfl rfl rfl (fun hg213 => QV.qo (q_eql rfl (gu hg213 rfl) rfl)) ?_
          refine va rfl rfl rfl (q_pick rfl rfl (pk_and' (g := (z180.2.2.2 == 0)) (y := (z196.2.2.2 == 0)))) ?_
          refine va rfl rfl rfl (q_move (v := .bool ((z180.2.2.2 == 0) && (z196.2.2.2 == 0))) rfl (by kernel_rfl)) ?_
          refine vg1 rfl rfl rfl rfl rfl (fun hg214 => QV.qo (q_move (v := .slice A191 z180.2.2.1.length c192) rfl (by kernel_rfl))) ?_
          refine vg1 rfl rfl rfl rfl rfl (fun hg215 => QV.qo (q_move (v := .slice Aa a.length ca) rfl (by kernel_rfl))) ?_
          obtain ⟨z217, hz218, h⟩ := bnd h
          refine vg1 rfl rfl rfl rfl rfl (fun hg216 => (q_call (call_run Try.call18 rfl rfl (args2 (gu hg216 rfl) (gu hg216 rfl))) (fun w hw => t_firthref02_Same (Γ := Gh.all w) ((hr194.mono hl199).sl hw.sat.le_all (hw.ra 4 rfl)) (hr194.mono hl199).capz ((ha.mono ((((((hl7.trans hl16).trans hl32).trans hl59).trans hl156).trans hl183).trans hl199)).mono hw.sat.le_all) hac (Sat.all w) (gc_of hz218 hg216)))) ?_
          refine va rfl rfl rfl (q_pick rfl rfl (pk_and' (g := ((z180.2.2.2 == 0) && (z196.2.2.2 == 0))) (y := z217))) ?_
          refine va rfl rfl rfl (q_move (v := .bool (((z180.2.2.2 == 0) && (z196.2.2.2 == 0)) && z217)) rfl (by kernel_rfl)) ?_
          refine vg1 rfl rfl rfl rfl rfl (fun hg219 => QV.qo (q_move (v := .slice A207 z196.2.2.1.length c208) rfl (by kernel_rfl))) ?_
          refine vg1 rfl rfl rfl rfl rfl (fun hg220 => QV.qo (q_move (v := .slice A158 again_157.length c159) rfl (by kernel_rfl))) ?_
          obtain ⟨z222, hz223, h⟩ := bnd h
          refine vg1 rfl rfl rfl rfl rfl (fun hg221 => (q_call (call_run Try.call18 rfl rfl (args2 (gu hg221 rfl) (gu hg221 rfl))) (fun w hw => t_firthref02_Same (Γ := Gh.all w) (hr210.sl hw.sat.le_all (hw.ra 2 rfl)) hr210.capz ((hs160.mono (hl183.trans hl199)).mono hw.sat.le_all) hc161 (Sat.all w) (gc_of hz223 hg221)))) ?_
          refine va rfl rfl rfl (q_pick rfl rfl (pk_and' (g := (((z180.2.2.2 == 0) && (z196.2.2.2 == 0)) && z217)) (y := z222))) ?_
          refine va rfl rfl rfl (q_assign (v := .bool ((((z180.2.2.2 == 0) && (z196.2.2.2 == 0)) && z217) && z222)) rfl (by kernel_rfl)) ?_
          refine WR.nil ?_
          change WC _ _ _ _ _ _
          refine WC.ret ?_
          intro w hw
          obtain rfl := Option.some.inj h
          subst hF
          exact ⟨by kernel_rfl, hw.fr⟩
end Fw
end Go.Proofs.Ytogcoieekhbfdaa
