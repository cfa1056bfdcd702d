/- Walks through the functions that the law reaches (printed by a program). No condition. -/
import Derived.Test.YtogcoieekhbfdaaW2
namespace Go.Proofs.Ytogcoieekhbfdaa
namespace Fw
set_option linter.unusedVariables false
set_option linter.unusedSimpArgs false
set_option linter.unusedSectionVars false
open Go.RowKit
set_option maxRecDepth 100000 in
set_option maxHeartbeats 400000 in
theorem t_firthlaw09_awake {Γ : Gh} {w0 : World}  (hs : Sat Γ w0) {r : Bool} (h : m_firthlaw09_awake = some r) : Calls Try.prog 7 #[] w0 (fun e w' => e = .returned (.bool r) ∧ Fr no w0 w') := by
  refine calls_of (N := 80) (rs := [0]) (args := []) Try.func7 rfl Try.ntmps7 Try.results7 rfl ?_
  obtain ⟨F, hF⟩ : ∃ F : Fm, F = ⟨no, w0, Γ⟩ := ⟨_, rfl⟩
  refine WC.here (C := CC F Γ []) ?_ (hF ▸ Cur.start0 hs)
  refine WC.rs ?_
  refine va rfl rfl rfl (q_assign (v := .bool false) rfl (by kernel_rfl)) ?_
  refine WR.nil ?_
  change WC _ _ _ _ _ _
  refine WC.rs ?_
  obtain ⟨z1, hz2, h⟩ := bnd h
  refine e_call (is := []) rfl rfl (call_run Try.call8 rfl rfl (by kernel_rfl)) rfl (fun w hp => t_disk_New 100 (show I64 100 by decide) hp hz2) ?_
  rintro Γ3 U5 v6 hl4 ⟨g7, row8, rfl, rfl, hr9, _⟩
  change WR _ _ _ (CC F Γ3 [row8]) _ _ (upd _ 7 (.pointer (some ⟨g7, 0, none⟩)))
  refine va rfl rfl rfl (q_assign (v := .pointer (some ⟨g7, 0, none⟩)) rfl (by kernel_rfl)) ?_
  refine WR.nil ?_
  change WC _ _ _ _ _ _
  refine WC.rs ?_
  refine va rfl rfl rfl (q_move (v := .pointer (some ⟨g7, 0, none⟩)) rfl (by kernel_rfl)) ?_
  obtain ⟨z10, hz11, h⟩ := bnd h
  refine e_call (is := [0]) rfl rfl (call_run Try.call9 rfl rfl (by kernel_rfl)) rfl (fun w hp => t_seglog_Open hr9 (⟨#[97]⟩ : ByteArray) (show (⟨#[97]⟩ : ByteArray).size ≤ lim by decide) 16 (show I64 16 by decide) hp hz11) ?_
  rintro Γ12 U14 v15 hl13 ⟨row16, g18, row19, A21, c22, row23, rfl, rfl, hr17, hr20, hr24, hr25, _⟩
  change WR _ _ _ (CC F Γ12 [row16, row19, row23]) _ _ (upd _ 10 (.tuple #[optp z10.2.1 g18, .slice A21 z10.2.2.1.length c22, .int .i64 z10.2.2.2]))
  refine va rfl rfl rfl (q_move (v := .tuple #[optp z10.2.1 g18, .slice A21 z10.2.2.1.length c22, .int .i64 z10.2.2.2]) rfl (by kernel_rfl)) ?_
  refine va rfl rfl rfl (q_extract (v := optp z10.2.1 g18) rfl rfl rfl) ?_
  refine va rfl rfl rfl (q_extract (v := .slice A21 z10.2.2.1.length c22) rfl rfl rfl) ?_
  refine va rfl rfl rfl (q_extract (v := .int .i64 z10.2.2.2) rfl rfl rfl) ?_
  refine va rfl rfl rfl (q_assign (v := optp z10.2.1 g18) rfl (by kernel_rfl)) ?_
  refine va rfl rfl rfl (q_assign (v := .slice A21 z10.2.2.1.length c22) rfl (by kernel_rfl)) ?_
  refine va rfl rfl rfl (q_assign (v := .int .i64 z10.2.2.2) rfl (by kernel_rfl)) ?_
  refine WR.nil ?_
  change WC _ _ _ _ _ _
  refine WC.seq ?_
  refine WC.rs ?_
  refine va rfl rfl rfl (q_move (v := optp z10.2.1 g18) rfl (by kernel_rfl)) ?_
  refine va rfl rfl rfl (q_opt_eql Try.underlying26 rfl rfl rfl) ?_
  refine va rfl rfl rfl (q_move (v := .bool (Option.isNone z10.2.1)) rfl (by kernel_rfl)) ?_
  refine vg0 rfl rfl rfl rfl rfl (fun hg26 => QV.qo (q_move (v := .int .i64 z10.2.2.2) rfl (by kernel_rfl))) ?_
  refine vg0 rfl rfl rfl rfl rfl (fun hg27 => QV.qo (q_neq rfl (gu hg27 rfl) rfl)) ?_
  refine va rfl rfl rfl (q_pick rfl rfl (pk_or' (g := (Option.isNone z10.2.1)) (y := (z10.2.2.2 != 0)))) ?_
  refine va rfl rfl rfl (q_move (v := .bool ((Option.isNone z10.2.1) || (z10.2.2.2 != 0))) rfl (by kernel_rfl)) ?_
  refine vg0 rfl rfl rfl rfl rfl (fun hg28 => QV.qo (q_move (v := .slice A21 z10.2.2.1.length c22) rfl (by kernel_rfl))) ?_
  refine vg0 rfl rfl rfl rfl rfl (fun hg29 => QV.qo (q_len_slice rfl Try.underlying22 (gu hg29 rfl))) ?_
  refine vg0 rfl rfl rfl rfl rfl (fun hg30 => QV.qo (q_neq rfl (gu hg30 rfl) rfl)) ?_
  refine va rfl rfl rfl (q_pick rfl rfl (pk_or' (g := ((Option.isNone z10.2.1) || (z10.2.2.2 != 0))) (y := (((z10.2.2.1.length : Nat) : Int) != 0)))) ?_
  refine va rfl rfl rfl (q_move (v := .bool (((Option.isNone z10.2.1) || (z10.2.2.2 != 0)) || (((z10.2.2.1.length : Nat) : Int) != 0))) rfl (by kernel_rfl)) ?_
  refine vg0 rfl rfl rfl rfl rfl (fun hg31 => QV.qo (q_move (v := optp z10.2.1 g18) rfl (by kernel_rfl))) ?_
  refine (Bool.eq_false_or_eq_true (!(((Option.isNone z10.2.1) || (z10.2.2.2 != 0)) || (((z10.2.2.1.length : Nat) : Int) != 0)))).elim (fun hb32 => ?_) (fun hb32 => ?_)
  · skip
    have h := bt hb32 h
    obtain ⟨z33, hz34, h⟩ := bnd h
    have ho35 := optob_some hr20 hz34
    refine WR.sat (c0 := true) (g := (((Option.isNone z10.2.1) || (z10.2.2.2 != 0)) || (((z10.2.2.1.length : Nat) : Int) != 0))) rfl rfl rfl hb32 ?_
    refine e_buildSlice (cs := #[.int .u8 120, .int .u8 121, .int .u8 122]) (e := 5) rfl rfl rfl rfl (fun w => by kernel_rfl) ?_
    intro g36
    refine WR.sat (c0 := true) (g := (((Option.isNone z10.2.1) || (z10.2.2.2 != 0)) || (((z10.2.2.1.length : Nat) : Int) != 0))) rfl rfl rfl hb32 ?_
    refine e_convlit (i := 0) (ys := ([120, 121, 122] : List UInt8)) Try.underlying31 Try.underlying5 rfl rfl rfl (by decide) rfl rfl rfl rfl rfl ?_
    intro Γ37 hl38 hs39
    change WR _ _ _ (CC F Γ37 [[], row16, row19, row23]) _ _ (upd _ 28 (.slice (some ⟨g36, 0, none⟩) ([120, 121, 122] : List UInt8).length 3))
    refine WR.sat (c0 := true) (g := (((Option.isNone z10.2.1) || (z10.2.2.2 != 0)) || (((z10.2.2.1.length : Nat) : Int) != 0))) rfl rfl rfl hb32 ?_
    obtain ⟨z40, hz41, h⟩ := bnd h
    refine e_call (is := [2, 1]) rfl rfl (call_run Try.call10 rfl rfl (args2 (optp_some (gu hb32 rfl) hz34) rfl)) rfl (fun w hp => t_seglog_Log_Append (ho35.mono hl38) hs39 (Nat.le_refl _) (hr17.mono hl38) hp hz41) ?_
    rintro Γ42 U44 v45 hl43 ⟨row46, row48, rfl, rfl, hr47, hr49, hr50, _⟩
    change WR _ _ _ (CC F Γ42 [row46, row48, [], row23]) _ _ (upd _ 29 (.int .i64 z40.2.2))
    refine WR.sat (c0 := true) (g := (((Option.isNone z10.2.1) || (z10.2.2.2 != 0)) || (((z10.2.2.1.length : Nat) : Int) != 0))) rfl rfl rfl hb32 ?_
    refine va rfl rfl rfl (q_neq rfl rfl rfl) ?_
    refine va rfl rfl rfl (q_pick_f (v := .bool (z40.2.2 != 0)) rfl rfl (not_t hb32) (by kernel_rfl)) ?_
    refine va rfl rfl rfl (q_move (v := .bool (z40.2.2 != 0)) rfl (by kernel_rfl)) ?_
    refine vg0 rfl rfl rfl rfl rfl (fun hg51 => QV.qo (q_move (v := .pointer (some ⟨g18, 0, none⟩)) rfl (optp_some rfl hz34))) ?_
    refine (Bool.eq_false_or_eq_true (!(z40.2.2 != 0))).elim (fun hb52 => ?_) (fun hb52 => ?_)
    · skip
      have h := bt hb52 h
      refine WR.sat (c0 := true) (g := (z40.2.2 != 0)) rfl rfl rfl hb52 ?_
      refine e_buildSlice (cs := #[.int .u8 49, .int .u8 50, .int .u8 51, .int .u8 52, .int .u8 53, .int .u8 54, .int .u8 55, .int .u8 56]) (e := 5) rfl rfl rfl rfl (fun w => by kernel_rfl) ?_
      intro g53
      refine WR.sat (c0 := true) (g := (z40.2.2 != 0)) rfl rfl rfl hb52 ?_
      refine e_convlit (i := 0) (ys := ([49, 50, 51, 52, 53, 54, 55, 56] : List UInt8)) Try.underlying31 Try.underlying5 rfl rfl rfl (by decide) rfl rfl rfl rfl rfl ?_
      intro Γ54 hl55 hs56
      change WR _ _ _ (CC F Γ54 [[], row46, row48, [], row23]) _ _ (upd _ 35 (.slice (some ⟨g53, 0, none⟩) ([49, 50, 51, 52, 53, 54, 55, 56] : List UInt8).length 8))
      refine WR.sat (c0 := true) (g := (z40.2.2 != 0)) rfl rfl rfl hb52 ?_
      obtain ⟨z57, hz58, h⟩ := bnd h
      refine e_call (is := [1, 1]) rfl rfl (call_run Try.call10 rfl rfl (args2 (gu hb52 rfl) rfl)) rfl (fun w hp => t_seglog_Log_Append (hr47.mono hl55) hs56 (Nat.le_refl _) (hr49.mono hl55) hp hz58) ?_
      rintro Γ59 U61 v62 hl60 ⟨row63, row65, rfl, rfl, hr64, hr66, hr67, _⟩
      change WR _ _ _ (CC F Γ59 [row63, row65, [], [], row23]) _ _ (upd _ 36 (.int .i64 z57.2.2))
      refine WR.sat (c0 := true) (g := (z40.2.2 != 0)) rfl rfl rfl hb52 ?_
      refine va rfl rfl rfl (q_neq rfl rfl rfl) ?_
      refine va rfl rfl rfl (q_pick_f (v := .bool (z57.2.2 != 0)) rfl rfl (not_t hb52) (by kernel_rfl)) ?_
      refine WR.nil ?_
      change WC _ _ _ _ _ _
      refine WC.cif h (by kernel_rfl) (fun hb68 h => ?_) (fun hb68 h => ?_)
      · skip
        refine WC.rs ?_
        refine va rfl rfl rfl (q_assign (v := .bool false) rfl (by kernel_rfl)) ?_
        refine WR.nil ?_
        change WC _ _ _ _ _ _
        refine WC.ret ?_
        intro w hw
        obtain rfl := Option.some.inj h
        subst hF
        exact ⟨by kernel_rfl, hw.fr⟩
      · skip
        refine WC.skip ?_
        change WC _ _ _ _ _ _
        refine WC.rs ?_
        refine va rfl rfl rfl (q_move (v := .pointer (some ⟨g18, 0, none⟩)) rfl (optp_some rfl hz34)) ?_
        obtain ⟨z69, hz70, h⟩ := bnd h
        refine vc rfl rfl rfl (q_call (call_run Try.call21 rfl rfl (by kernel_rfl)) (fun w hw => t_seglog_Log_Count (Γ := Gh.all w) (hr64.mono hw.sat.le_all) (hw.ra 0 rfl) (Sat.all w) hz70)) ?_
        refine va rfl rfl rfl (q_assign (v := .int .i64 z69) rfl (by kernel_rfl)) ?_
        refine WR.nil ?_
        change WC _ _ _ _ _ _
        refine WC.rs ?_
        refine va rfl rfl rfl (q_move (v := .pointer (some ⟨g18, 0, none⟩)) rfl (optp_some rfl hz34)) ?_
        refine e_buildSlice (cs := #[.int .u8 113]) (e := 5) rfl rfl rfl rfl (fun w => by kernel_rfl) ?_
        intro g71
        refine e_convlit (i := 0) (ys := ([113] : List UInt8)) Try.underlying31 Try.underlying5 rfl rfl rfl (by decide) rfl rfl rfl rfl rfl ?_
        intro Γ72 hl73 hs74
        change WR _ _ _ (CC F Γ72 [[], row63, row65, [], [], row23]) _ _ (upd _ 43 (.slice (some ⟨g71, 0, none⟩) ([113] : List UInt8).length 1))
        refine e_buildSlice (cs := #[.slice (some ⟨g71, 0, none⟩) ([113] : List UInt8).length 1]) (e := 31) rfl rfl rfl rfl (fun w => by kernel_rfl) ?_
        intro g75
        have ho76 : Own (slT byteT) Γ72 31 [(g75, .cells #[.slice (some ⟨g71, 0, none⟩) ([113] : List UInt8).length 1] 31 (0, 0))] (some ⟨g75, 0, none⟩) 1 [([113] : List UInt8)] := Own.of_blockL (T := (slT byteT)) (ys := [([113] : List UInt8)]) [[.slice (some ⟨g71, 0, none⟩) ([113] : List UInt8).length 1]] rfl (show 1 ≤ lim by decide) (show Ty.rd (slT byteT) Γ72 [.slice (some ⟨g71, 0, none⟩) ([113] : List UInt8).length 1] ([113] : List UInt8) ∧ True from ⟨⟨(some ⟨g71, 0, none⟩), 1, rfl, (Nat.le_refl _), hs74⟩, trivial⟩)
        have hc81 := ho76.capz
        intro w hw; obtain ⟨Γ77, hw, hl78, hr79⟩ := hw.seal (i := 0) rfl; have hs80 := ho76.sl hl78 hr79
        refine WR.here (C := CC F Γ77 [[], [], row63, row65, [], [], row23]) ?_ hw
        clear hw
        obtain ⟨z82, hz83, h⟩ := bnd h
        refine e_call (is := [2, 2]) rfl rfl (call_run Try.call17 rfl rfl (by kernel_rfl)) rfl (fun w hp => t_seglog_Log_Rewrite (hr64.mono (hl73.trans hl78)) hs80 hc81 (hr66.mono (hl73.trans hl78)) hp hz83) ?_
        rintro Γ84 U86 v87 hl85 ⟨row88, row90, rfl, rfl, hr89, hr91, hr92, _⟩
        change WR _ _ _ (CC F Γ84 [row88, row90, [], [], [], [], row23]) _ _ (upd _ 45 (.int .i64 z82.2.2))
        refine va rfl rfl rfl (q_assign (v := .int .i64 z82.2.2) rfl (by kernel_rfl)) ?_
        refine WR.nil ?_
        change WC _ _ _ _ _ _
        refine WC.rs ?_
        refine va rfl rfl rfl (q_move (v := .pointer (some ⟨g7, 0, none⟩)) rfl (by kernel_rfl)) ?_
        obtain ⟨z93, hz94, h⟩ := bnd h
        refine e_call (is := [1]) rfl rfl (call_run Try.call9 rfl rfl (by kernel_rfl)) rfl (fun w hp => t_seglog_Open hr91 (⟨#[97]⟩ : ByteArray) (show (⟨#[97]⟩ : ByteArray).size ≤ lim by decide) 16 (show I64 16 by decide) hp hz94) ?_
        rintro Γ95 U97 v98 hl96 ⟨row99, g101, row102, A104, c105, row106, rfl, rfl, hr100, hr103, hr107, hr108, _⟩
        change WR _ _ _ (CC F Γ95 [row99, row102, row106, row88, [], [], [], [], row23]) _ _ (upd _ 48 (.tuple #[optp z93.2.1 g101, .slice A104 z93.2.2.1.length c105, .int .i64 z93.2.2.2]))
        refine va rfl rfl rfl (q_move (v := .tuple #[optp z93.2.1 g101, .slice A104 z93.2.2.1.length c105, .int .i64 z93.2.2.2]) rfl (by kernel_rfl)) ?_
        refine va rfl rfl rfl (q_extract (v := optp z93.2.1 g101) rfl rfl rfl) ?_
        refine va rfl rfl rfl (q_extract (v := .slice A104 z93.2.2.1.length c105) rfl rfl rfl) ?_
        refine va rfl rfl rfl (q_extract (v := .int .i64 z93.2.2.2) rfl rfl rfl) ?_
        refine va rfl rfl rfl (q_assign (v := .slice A104 z93.2.2.1.length c105) rfl (by kernel_rfl)) ?_
        refine va rfl rfl rfl (q_assign (v := .int .i64 z93.2.2.2) rfl (by kernel_rfl)) ?_
        refine WR.nil ?_
        change WC _ _ _ _ _ _
        refine WC.rs ?_
        refine va rfl rfl rfl (q_move (v := .int .i64 z69) rfl (by kernel_rfl)) ?_
        refine va rfl rfl rfl (q_eql rfl rfl rfl) ?_
        refine va rfl rfl rfl (q_move (v := .bool (z69 == 2)) rfl (by kernel_rfl)) ?_
        refine vg1 rfl rfl rfl rfl rfl (fun hg109 => QV.qo (q_move (v := .int .i64 z82.2.2) rfl (by kernel_rfl))) ?_
        refine vg1 rfl rfl rfl rfl rfl (fun hg110 => QV.qo (q_eql rfl (gu hg110 rfl) rfl)) ?_
        refine va rfl rfl rfl (q_pick rfl rfl (pk_and' (g := (z69 == 2)) (y := (z82.2.2 == 0)))) ?_
        refine va rfl rfl rfl (q_move (v := .bool ((z69 == 2) && (z82.2.2 == 0))) rfl (by kernel_rfl)) ?_
        refine vg1 rfl rfl rfl rfl rfl (fun hg111 => QV.qo (q_move (v := .int .i64 z93.2.2.2) rfl (by kernel_rfl))) ?_
        refine vg1 rfl rfl rfl rfl rfl (fun hg112 => QV.qo (q_eql rfl (gu hg112 rfl) rfl)) ?_
        refine va rfl rfl rfl (q_pick rfl rfl (pk_and' (g := ((z69 == 2) && (z82.2.2 == 0))) (y := (z93.2.2.2 == 0)))) ?_
        refine va rfl rfl rfl (q_move (v := .bool (((z69 == 2) && (z82.2.2 == 0)) && (z93.2.2.2 == 0))) rfl (by kernel_rfl)) ?_
        refine vg1 rfl rfl rfl rfl rfl (fun hg113 => QV.qo (q_move (v := .slice A104 z93.2.2.1.length c105) rfl (by kernel_rfl))) ?_
        refine vg1 rfl rfl rfl rfl rfl (fun hg114 => QV.qo (q_len_slice rfl Try.underlying22 (gu hg114 rfl))) ?_
        refine vg1 rfl rfl rfl rfl rfl (fun hg115 => QV.qo (q_eql rfl (gu hg115 rfl) rfl)) ?_
        refine va rfl rfl rfl (q_pick rfl rfl (pk_and' (g := (((z69 == 2) && (z82.2.2 == 0)) && (z93.2.2.2 == 0))) (y := (((z93.2.2.1.length : Nat) : Int) == 1)))) ?_
        refine va rfl rfl rfl (q_move (v := .bool ((((z69 == 2) && (z82.2.2 == 0)) && (z93.2.2.2 == 0)) && (((z93.2.2.1.length : Nat) : Int) == 1))) rfl (by kernel_rfl)) ?_
        refine vg1 rfl rfl rfl rfl rfl (fun hg116 => QV.qo (q_move (v := .slice A104 z93.2.2.1.length c105) rfl (by kernel_rfl))) ?_
        obtain ⟨hk118, h⟩ := chk_some h
        refine vg1 rfl rfl rfl rfl rfl (fun hg117 => QV.qo (q_ixn (i := 0) Try.underlying22 Try.sizeOf31 rfl (gu hg117 rfl) rfl (of_decide_eq_true (imp_of hk118 hg117)) (hr107.some_ (of_decide_eq_true (imp_of hk118 hg117))))) ?_
        obtain ⟨A120, c121, hx122⟩ := hr107.slT_at 0
        refine vg1 rfl rfl rfl rfl rfl (fun hg119 => QV.qo (q_ldo (c := 0) (v := .slice A120 (gt z93.2.2.1 0).length c121) (i := 2) rfl (hx122 (of_decide_eq_true (imp_of hk118 hg119))).2 rfl Try.isAgg31 (gu hg119 rfl) rfl)) ?_
        refine vg1 rfl rfl rfl rfl rfl (fun hg123 => QV.qo (q_bstr (hx122 (of_decide_eq_true (imp_of hk118 hg123))).1.2 Try.underlying31 Try.underlying5 Try.underlying9 rfl (gu hg123 rfl))) ?_
        refine vg1 rfl rfl rfl rfl rfl (fun hg124 => QV.qo (q_seql rfl (gu hg124 rfl) rfl)) ?_
        refine va rfl rfl rfl (q_pick rfl rfl (pk_and' (g := ((((z69 == 2) && (z82.2.2 == 0)) && (z93.2.2.2 == 0)) && (((z93.2.2.1.length : Nat) : Int) == 1))) (y := ((⟨(gt z93.2.2.1 0).toArray⟩ : ByteArray) == (⟨#[113]⟩ : ByteArray))))) ?_
        refine va rfl rfl rfl (q_move (v := .bool (((((z69 == 2) && (z82.2.2 == 0)) && (z93.2.2.2 == 0)) && (((z93.2.2.1.length : Nat) : Int) == 1)) && ((⟨(gt z93.2.2.1 0).toArray⟩ : ByteArray) == (⟨#[113]⟩ : ByteArray)))) rfl (by kernel_rfl)) ?_
        refine vg1 rfl rfl rfl rfl rfl (fun hg125 => QV.qo (q_move (v := .pointer (some ⟨g7, 0, none⟩)) rfl (by kernel_rfl))) ?_
        refine (Bool.eq_false_or_eq_true (((((z69 == 2) && (z82.2.2 == 0)) && (z93.2.2.2 == 0)) && (((z93.2.2.1.length : Nat) : Int) == 1)) && ((⟨(gt z93.2.2.1 0).toArray⟩ : ByteArray) == (⟨#[113]⟩ : ByteArray)))).elim (fun hb126 => ?_) (fun hb126 => ?_)
        · skip
          have h := bt hb126 h
          refine WR.sat (c0 := true) (g := (((((z69 == 2) && (z82.2.2 == 0)) && (z93.2.2.2 == 0)) && (((z93.2.2.1.length : Nat) : Int) == 1)) && ((⟨(gt z93.2.2.1 0).toArray⟩ : ByteArray) == (⟨#[113]⟩ : ByteArray)))) rfl rfl rfl hb126 ?_
          obtain ⟨z127, hz128, h⟩ := bnd h
          refine e_call (is := [0]) rfl rfl (call_run Try.call11 rfl rfl (args1 (gu hb126 rfl))) rfl (fun w hp => t_disk_Disk_Names hr100 hp hz128) ?_
          rintro Γ129 U131 v132 hl130 ⟨A133, c134, row135, rfl, rfl, hr136, _⟩
          change WR _ _ _ (CC F Γ129 [row99, row135, row102, row106, row88, [], [], [], [], row23]) _ _ (upd _ 76 (.slice A133 z127.length c134))
          refine WR.sat (c0 := true) (g := (((((z69 == 2) && (z82.2.2 == 0)) && (z93.2.2.2 == 0)) && (((z93.2.2.1.length : Nat) : Int) == 1)) && ((⟨(gt z93.2.2.1 0).toArray⟩ : ByteArray) == (⟨#[113]⟩ : ByteArray)))) rfl rfl rfl hb126 ?_
          refine va rfl rfl rfl (q_len_slice rfl Try.underlying32 rfl) ?_
          refine WR.sat (c0 := true) (g := (((((z69 == 2) && (z82.2.2 == 0)) && (z93.2.2.2 == 0)) && (((z93.2.2.1.length : Nat) : Int) == 1)) && ((⟨(gt z93.2.2.1 0).toArray⟩ : ByteArray) == (⟨#[113]⟩ : ByteArray)))) rfl rfl rfl hb126 ?_
          refine va rfl rfl rfl (q_eql rfl rfl rfl) ?_
          refine va rfl rfl rfl (q_pick_t (v := .bool (((z127.length : Nat) : Int) == 2)) rfl rfl hb126 (by kernel_rfl)) ?_
          refine va rfl rfl rfl (q_assign (v := .bool (((z127.length : Nat) : Int) == 2)) rfl (by kernel_rfl)) ?_
          refine WR.nil ?_
          change WC _ _ _ _ _ _
          refine WC.ret ?_
          intro w hw
          obtain rfl := Option.some.inj h
          subst hF
          exact ⟨by kernel_rfl, hw.fr⟩
        · skip
          have h := bf hb126 h
          refine WR.unsat (c0 := true) (g := (((((z69 == 2) && (z82.2.2 == 0)) && (z93.2.2.2 == 0)) && (((z93.2.2.1.length : Nat) : Int) == 1)) && ((⟨(gt z93.2.2.1 0).toArray⟩ : ByteArray) == (⟨#[113]⟩ : ByteArray)))) rfl rfl rfl hb126 rfl ?_
          refine WR.unsat (c0 := true) (g := (((((z69 == 2) && (z82.2.2 == 0)) && (z93.2.2.2 == 0)) && (((z93.2.2.1.length : Nat) : Int) == 1)) && ((⟨(gt z93.2.2.1 0).toArray⟩ : ByteArray) == (⟨#[113]⟩ : ByteArray)))) rfl rfl rfl hb126 rfl ?_
          refine WR.unsat (c0 := true) (g := (((((z69 == 2) && (z82.2.2 == 0)) && (z93.2.2.2 == 0)) && (((z93.2.2.1.length : Nat) : Int) == 1)) && ((⟨(gt z93.2.2.1 0).toArray⟩ : ByteArray) == (⟨#[113]⟩ : ByteArray)))) rfl rfl rfl hb126 rfl ?_
          refine va rfl rfl rfl (q_pick_f (v := .bool false) rfl rfl hb126 (by kernel_rfl)) ?_
          refine va rfl rfl rfl (q_assign (v := .bool false) rfl (by kernel_rfl)) ?_
          refine WR.nil ?_
          change WC _ _ _ _ _ _
          refine WC.ret ?_
          intro w hw
          obtain rfl := Option.some.inj h
          subst hF
          exact ⟨by kernel_rfl, hw.fr⟩
    · skip
      have h := bf hb52 h
      refine WR.unsat (c0 := true) (g := (z40.2.2 != 0)) rfl rfl rfl hb52 rfl ?_
      refine WR.unsat (c0 := true) (g := (z40.2.2 != 0)) rfl rfl rfl hb52 rfl ?_
      refine WR.unsat (c0 := true) (g := (z40.2.2 != 0)) rfl rfl rfl hb52 rfl ?_
      refine WR.unsat (c0 := true) (g := (z40.2.2 != 0)) rfl rfl rfl hb52 rfl ?_
      refine va rfl rfl rfl (q_pick_t (v := .bool true) rfl rfl (not_f hb52) (by kernel_rfl)) ?_
      refine WR.nil ?_
      change WC _ _ _ _ _ _
      refine WC.ctk (b := true) (by kernel_rfl) rfl ?_
      refine WC.rs ?_
      refine va rfl rfl rfl (q_assign (v := .bool false) rfl (by kernel_rfl)) ?_
      refine WR.nil ?_
      change WC _ _ _ _ _ _
      refine WC.ret ?_
      intro w hw
      obtain rfl := Option.some.inj h
      subst hF
      exact ⟨by kernel_rfl, hw.fr⟩
  · skip
    have h := bf hb32 h
    refine WR.unsat (c0 := true) (g := (((Option.isNone z10.2.1) || (z10.2.2.2 != 0)) || (((z10.2.2.1.length : Nat) : Int) != 0))) rfl rfl rfl hb32 rfl ?_
    refine WR.unsat (c0 := true) (g := (((Option.isNone z10.2.1) || (z10.2.2.2 != 0)) || (((z10.2.2.1.length : Nat) : Int) != 0))) rfl rfl rfl hb32 rfl ?_
    refine WR.unsat (c0 := true) (g := (((Option.isNone z10.2.1) || (z10.2.2.2 != 0)) || (((z10.2.2.1.length : Nat) : Int) != 0))) rfl rfl rfl hb32 rfl ?_
    refine WR.unsat (c0 := true) (g := (((Option.isNone z10.2.1) || (z10.2.2.2 != 0)) || (((z10.2.2.1.length : Nat) : Int) != 0))) rfl rfl rfl hb32 rfl ?_
    refine va rfl rfl rfl (q_pick_t (v := .bool true) rfl rfl (not_f hb32) (by kernel_rfl)) ?_
    refine va rfl rfl rfl (q_move (v := .bool true) rfl (by kernel_rfl)) ?_
    refine WR.unsat (c0 := true) (g := true) rfl rfl rfl (nott rfl) rfl ?_
    refine WR.unsat (c0 := true) (g := true) rfl rfl rfl (nott rfl) rfl ?_
    refine WR.unsat (c0 := true) (g := true) rfl rfl rfl (nott rfl) rfl ?_
    refine WR.unsat (c0 := true) (g := true) rfl rfl rfl (nott rfl) rfl ?_
    refine WR.unsat (c0 := true) (g := true) rfl rfl rfl (nott rfl) rfl ?_
    refine va rfl rfl rfl (q_pickt (v := .bool true) rfl rfl rfl) ?_
    refine WR.nil ?_
    change WC _ _ _ _ _ _
    refine WC.ctk (b := true) (by kernel_rfl) rfl ?_
    refine WC.rs ?_
    refine va rfl rfl rfl (q_assign (v := .bool false) rfl (by kernel_rfl)) ?_
    refine WR.nil ?_
    change WC _ _ _ _ _ _
    refine WC.ret ?_
    intro w hw
    obtain rfl := Option.some.inj h
    subst hF
    exact ⟨by kernel_rfl, hw.fr⟩
set_option maxRecDepth 100000 in
set_option maxHeartbeats 400000 in
theorem t_firthref02_Same {Γ : Gh} {w0 : World} {Aa : Option Addr} {ca : Nat} {a : List (List UInt8)} (ha : Sl (slT byteT) Γ Aa a) (hac : a.length ≤ ca) {Ab : Option Addr} {cb : Nat} {b : List (List UInt8)} (hb : Sl (slT byteT) Γ Ab b) (hbc : b.length ≤ cb) (hs : Sat Γ w0) {r : Bool} (h : m_firthref02_Same a b = some r) : Calls Try.prog 18 #[.slice Aa a.length ca, .slice Ab b.length cb] w0 (fun e w' => e = .returned (.bool r) ∧ Fr no w0 w') := by
  refine calls_of (N := 28) (rs := [4]) (args := [.slice Aa a.length ca, .slice Ab b.length cb]) Try.func18 rfl Try.ntmps18 Try.results18 rfl ?_
  obtain ⟨F, hF⟩ : ∃ F : Fm, F = ⟨no, w0, Γ⟩ := ⟨_, rfl⟩
  refine WC.here (C := CC F Γ []) ?_ (hF ▸ Cur.start0 hs)
  refine WC.rs ?_
  refine va rfl rfl rfl (q_assign (v := .bool false) rfl (by kernel_rfl)) ?_
  refine WR.nil ?_
  change WC _ _ _ _ _ _
  refine WC.seq ?_
  refine WC.rs ?_
  refine va rfl rfl rfl (q_move (v := .slice Aa a.length ca) rfl (by kernel_rfl)) ?_
  refine va rfl rfl rfl (q_len_slice rfl Try.underlying22 rfl) ?_
  refine va rfl rfl rfl (q_move (v := .slice Ab b.length cb) rfl (by kernel_rfl)) ?_
  refine va rfl rfl rfl (q_len_slice rfl Try.underlying22 rfl) ?_
  refine va rfl rfl rfl (q_neq rfl rfl rfl) ?_
  refine WR.nil ?_
  change WC _ _ _ _ _ _
  refine WC.cif h (by kernel_rfl) (fun hb1 h => ?_) (fun hb1 h => ?_)
  · skip
    refine WC.rs ?_
    refine va rfl rfl rfl (q_assign (v := .bool false) rfl (by kernel_rfl)) ?_
    refine WR.nil ?_
    change WC _ _ _ _ _ _
    refine WC.ret ?_
    intro w hw
    obtain rfl := Option.some.inj h
    subst hF
    exact ⟨by kernel_rfl, hw.fr⟩
  · skip
    refine WC.skip ?_
    change WC _ _ _ _ _ _
    refine WC.seq ?_
    refine WC.rs ?_
    refine va rfl rfl rfl (q_assign (v := .int .i64 0) rfl (by kernel_rfl)) ?_
    refine WR.nil ?_
    change WC _ _ _ _ _ _
    refine WC.block ?_
    refine WC.forI h (fun (i3 : Nat) (s : Unit) σ w => match s with | () => slots σ [(0, .slice Aa a.length ca), (1, .slice Ab b.length cb), (5, .int .i64 ((i3 : Nat) : Int))] ∧ CC F Γ [] w ∧ True) ?_ ?_
    · skip
      intro w hw
      exact ⟨(sl_ (by kernel_rfl)), hw, trivial⟩
    rintro f2 i3 ⟨⟩ σ w hi4 hlt5 hge6 ⟨hsl, hw, -⟩
    refine Wpt.slots hsl ?_
    refine WC.here (C := CC F Γ []) ?_ hw
    clear hw hsl
    refine WC.seq ?_
    refine WC.rs ?_
    refine va rfl rfl rfl (q_move (v := .int .i64 ((i3 : Nat) : Int)) rfl (by kernel_rfl)) ?_
    refine va rfl rfl rfl (q_move (v := .slice Aa a.length ca) rfl (by kernel_rfl)) ?_
    refine va rfl rfl rfl (q_len_slice rfl Try.underlying22 rfl) ?_
    refine va rfl rfl rfl (q_lss rfl rfl rfl) ?_
    refine WR.nil ?_
    change WC _ _ _ _ _ _
    refine WC.cond (b := (decide (((i3 : Nat) : Int) < ((a.length : Nat) : Int)))) (by kernel_rfl) (fun hb7 => ?_) (fun hb7 => ?_)
    · skip
      have hl8 := ilt hb7
      have h := hlt5 hl8
      refine WC.skip ?_
      change WC _ _ _ _ _ _
      refine WC.seq ?_
      refine WC.block ?_
      refine WC.seq ?_
      refine WC.dr (by kernel_rfl) (by kernel_rfl) (fun w hw => hw.drawn _) ?_
      refine wa rfl rfl rfl (q_move (v := .slice Aa a.length ca) rfl (by kernel_rfl)) ?_
      refine wa rfl rfl rfl (q_move (v := .int .i64 ((i3 : Nat) : Int)) rfl (by kernel_rfl)) ?_
      refine wa rfl rfl rfl (q_ixn (i := i3) Try.underlying22 Try.sizeOf31 rfl rfl rfl hl8 (ha.some_ hl8)) ?_
      obtain ⟨A9, c10, hx11⟩ := ha.slT_at i3
      refine wa rfl rfl rfl (q_ld (c := 0) (v := .slice A9 (gt a i3).length c10) (hx11 hl8).2 rfl Try.isAgg31 rfl rfl) ?_
      refine wa rfl rfl rfl (q_bstr (hx11 hl8).1.2 Try.underlying31 Try.underlying5 Try.underlying9 rfl rfl) ?_
      refine wa rfl rfl rfl (q_move (v := .slice Ab b.length cb) rfl (by kernel_rfl)) ?_
      refine wa rfl rfl rfl (q_move (v := .int .i64 ((i3 : Nat) : Int)) rfl (by kernel_rfl)) ?_
      obtain ⟨hk12, h⟩ := chk_some h
      refine wa rfl rfl rfl (q_ixn (i := i3) Try.underlying22 Try.sizeOf31 rfl rfl rfl (of_decide_eq_true hk12) (hb.some_ (of_decide_eq_true hk12))) ?_
      obtain ⟨A13, c14, hx15⟩ := hb.slT_at i3
      refine wa rfl rfl rfl (q_ld (c := 0) (v := .slice A13 (gt b i3).length c14) (hx15 (of_decide_eq_true hk12)).2 rfl Try.isAgg31 rfl rfl) ?_
      refine wa rfl rfl rfl (q_bstr (hx15 (of_decide_eq_true hk12)).1.2 Try.underlying31 Try.underlying5 Try.underlying9 rfl rfl) ?_
      refine wa rfl rfl rfl (q_sneq rfl rfl rfl) ?_
      refine WQ.nil ?_
      change WC _ _ _ _ _ _
      refine WC.cif h (by kernel_rfl) (fun hb16 h => ?_) (fun hb16 h => ?_)
      · skip
        refine WC.rs ?_
        refine va rfl rfl rfl (q_assign (v := .bool false) rfl (by kernel_rfl)) ?_
        refine WR.nil ?_
        change WC _ _ _ _ _ _
        refine WC.ret ?_
        intro w hw
        obtain rfl := Option.some.inj h
        subst hF
        exact ⟨by kernel_rfl, hw.fr⟩
      · skip
        refine WC.skip ?_
        change WC _ _ _ _ _ _
        refine WC.region ?_
        refine va rfl rfl rfl (q_move (v := .int .i64 ((i3 : Nat) : Int)) rfl (by kernel_rfl)) ?_
        refine va rfl rfl rfl (q_add_r (r := ((i3 + 1 : Nat) : Int)) rfl rfl rfl (ctr_len hl8 ha.le)) ?_
        refine va rfl rfl rfl (q_assign (v := .int .i64 ((i3 + 1 : Nat) : Int)) rfl (by kernel_rfl)) ?_
        refine WR.nil ?_
        intro w hw
        exact ⟨hl8, (), h, (sl_ (by kernel_rfl)), hw, trivial⟩
    · skip
      have h := hge6 (ige hb7)
      refine WC.exit ?_
      change WC _ _ _ _ _ _
      refine WC.rs ?_
      refine va rfl rfl rfl (q_assign (v := .bool true) rfl (by kernel_rfl)) ?_
      refine WR.nil ?_
      change WC _ _ _ _ _ _
      refine WC.ret ?_
      intro w hw
      obtain rfl := Option.some.inj h
      subst hF
      exact ⟨by kernel_rfl, hw.fr⟩
set_option maxRecDepth 100000 in
set_option maxHeartbeats 400000 in
theorem t_firthlaw09_begins {Γ : Gh} {w0 : World} {Aa : Option Addr} {ca : Nat} {a : List (List UInt8)} (ha : Sl (slT byteT) Γ Aa a) (hac : a.length ≤ ca) {Ab : Option Addr} {cb : Nat} {b : List (List UInt8)} (hb : Sl (slT byteT) Γ Ab b) (hbc : b.length ≤ cb) (hs : Sat Γ w0) {r : Bool} (h : m_firthlaw09_begins a b = some r) : Calls Try.prog 16 #[.slice Aa a.length ca, .slice Ab b.length cb] w0 (fun e w' => e = .returned (.bool r) ∧ Fr no w0 w') := by
  refine calls_of (N := 18) (rs := [4]) (args := [.slice Aa a.length ca, .slice Ab b.length cb]) Try.func16 rfl Try.ntmps16 Try.results16 rfl ?_
  obtain ⟨F, hF⟩ : ∃ F : Fm, F = ⟨no, w0, Γ⟩ := ⟨_, rfl⟩
  refine WC.here (C := CC F Γ []) ?_ (hF ▸ Cur.start0 hs)
  refine WC.rs ?_
  refine va rfl rfl rfl (q_assign (v := .bool false) rfl (by kernel_rfl)) ?_
  refine WR.nil ?_
  change WC _ _ _ _ _ _
  refine WC.rs ?_
  refine va rfl rfl rfl (q_move (v := .slice Aa a.length ca) rfl (by kernel_rfl)) ?_
  refine va rfl rfl rfl (q_len_slice rfl Try.underlying22 rfl) ?_
  refine va rfl rfl rfl (q_move (v := .slice Ab b.length cb) rfl (by kernel_rfl)) ?_
  refine va rfl rfl rfl (q_len_slice rfl Try.underlying22 rfl) ?_
  refine va rfl rfl rfl (q_leq rfl rfl rfl) ?_
  refine va rfl rfl rfl (q_move (v := .bool (decide (((a.length : Nat) : Int) ≤ ((b.length : Nat) : Int)))) rfl (by kernel_rfl)) ?_
  refine vg1 rfl rfl rfl rfl rfl (fun hg1 => QV.qo (q_move (v := .slice Aa a.length ca) rfl (by kernel_rfl))) ?_
  refine vg1 rfl rfl rfl rfl rfl (fun hg2 => QV.qo (q_move (v := .slice Ab b.length cb) rfl (by kernel_rfl))) ?_
  refine vg1 rfl rfl rfl rfl rfl (fun hg3 => QV.qo (q_move (v := .slice Aa a.length ca) rfl (by kernel_rfl))) ?_
  refine vg1 rfl rfl rfl rfl rfl (fun hg4 => QV.qo (q_len_slice rfl Try.underlying22 (gu hg4 rfl))) ?_
  obtain ⟨hk6, h⟩ := chk_some h
  refine vg1 rfl rfl rfl rfl rfl (fun hg5 => QV.qo (q_cut_to (c := cb) (hi := a.length) (xs := b) Try.underlying22 Try.sizeOf31 rfl (gu hg5 rfl) (gu hg5 rfl) (of_decide_eq_true (imp_of hk6 hg5)) hbc)) ?_
  obtain ⟨z8, hz9, h⟩ := bnd h
  refine vg1 rfl rfl rfl rfl rfl (fun hg7 => (q_call (call_run Try.call18 rfl rfl (args2 (gu hg7 rfl) (gu hg7 rfl))) (fun w hw => t_firthref02_Same (Γ := Gh.all w) (ha.mono hw.sat.le_all) hac ((hb.cut_to (hi := a.length) (of_decide_eq_true (imp_of hk6 hg7))).mono hw.sat.le_all) (take_cap hbc a.length) (Sat.all w) (gc_of hz9 hg7)))) ?_
  refine va rfl rfl rfl (q_pick rfl rfl (pk_and' (g := (decide (((a.length : Nat) : Int) ≤ ((b.length : Nat) : Int)))) (y := z8))) ?_
  refine va rfl rfl rfl (q_assign (v := .bool ((decide (((a.length : Nat) : Int) ≤ ((b.length : Nat) : Int))) && z8)) rfl (by kernel_rfl)) ?_
  refine WR.nil ?_
  change WC _ _ _ _ _ _
  refine WC.ret ?_
  intro w hw
  obtain rfl := Option.some.inj h
  subst hF
  exact ⟨by kernel_rfl, hw.fr⟩
abbrev r_seglog_Log_Sync (gl : Nat) (el : Nat × Nat) (rowl : Rowb) (edk0 : Nat) (r : Odisk_Disk) (U : List Rowb) (Γ : Gh) (v : Value) : Prop := ∃ (rowdk0' : Rowb), v = .tuple #[] ∧ U = [rowl, rowdk0'] ∧ Odisk_Disk.ob edk0 Γ el.2 rowdk0' r ∧ True
set_option maxRecDepth 100000 in
set_option maxHeartbeats 400000 in
theorem t_seglog_Log_Sync {Γ : Gh} {w0 : World} {gl : Nat} {el : Nat × Nat} {rowl : Rowb} {l : Oseglog_Log} (hl : Oseglog_Log.ob el Γ gl rowl l) {edk0 : Nat} {rowdk0 : Rowb} {dk0 : Odisk_Disk} (hdk0 : Odisk_Disk.ob edk0 Γ el.2 rowdk0 dk0) (hp : Pre [rowl, rowdk0] Γ w0) {r : Odisk_Disk} (h : m_seglog_Log_Sync l dk0 = some r) : Calls Try.prog 22 #[.pointer (some ⟨gl, 0, none⟩)] w0 (Outc Γ [rowl, rowdk0] w0 (r_seglog_Log_Sync gl el rowl edk0 r)) := by
  refine calls_of (N := 8) (rs := []) (args := [.pointer (some ⟨gl, 0, none⟩)]) Try.func22 rfl Try.ntmps22 Try.results22 rfl ?_
  obtain ⟨F, hF⟩ : ∃ F : Fm, F = ⟨ids [rowl, rowdk0], w0, Γ⟩ := ⟨_, rfl⟩
  refine WC.here (C := CC F Γ [rowl, rowdk0]) ?_ (hF ▸ hp.start)
  refine WC.region ?_
  refine va rfl rfl rfl (q_move (v := .pointer (some ⟨gl, 0, none⟩)) rfl (by kernel_rfl)) ?_
  refine va rfl rfl rfl (q_nil (A := some ⟨gl, 0, none⟩) rfl rfl rfl) ?_
  refine va rfl rfl rfl (q_fl 0 fld_63_0 rfl rfl rfl) ?_
  refine va rfl rfl rfl (q_fl 0 fld_55_0 rfl rfl rfl) ?_
  have hq := hl
  obtain ⟨hrow_1, ho0_1, ho1_1, ho2_1, ho3_1, ho4_1, ho5_1, ho6_1, -⟩ := hq
  intro w hw; have hw := hw.unfold (i := 0) rfl hrow_1
  refine WR.here (C := CC F Γ [[(gl, .cells #[.pointer (some ⟨el.2, 0, none⟩), .string l.place_name, .int .i64 l.place_gen, .int .i64 l.size, .int .i64 l.last, .int .i64 l.tail, .int .i64 l.count, .int .i64 l.bytes] el.1 (0, 0))], rowdk0]) ?_ hw
  clear hw
  refine va rfl rfl rfl (q_ldl (i := 0) (v := .pointer (some ⟨el.2, 0, none⟩)) rfl rfl Try.isAgg24 rfl rfl) ?_
  obtain ⟨z2, hz3, h⟩ := bnd h
  refine e_call (is := [1]) rfl rfl (call_run Try.call33 rfl rfl (by kernel_rfl)) rfl (fun w hp => t_disk_Disk_Sync hdk0 hp hz3) ?_
  rintro Γ4 U6 v7 hl5 ⟨row8, rfl, rfl, hr9, _⟩
  change WR _ _ _ (CC F Γ4 [row8, [(gl, .cells #[.pointer (some ⟨el.2, 0, none⟩), .string l.place_name, .int .i64 l.place_gen, .int .i64 l.size, .int .i64 l.last, .int .i64 l.tail, .int .i64 l.count, .int .i64 l.bytes] el.1 (0, 0))]]) _ _ (upd _ 7 (.tuple #[]))
  refine WR.nil ?_
  intro w hw
  have hw := hw.fold (is := [1]) rfl hrow_1
  obtain rfl := Option.some.inj h
  subst hF
  exact end_e (is := [0, 0]) (by kernel_rfl) hw rfl ⟨row8, rfl, rfl, hr9, trivial⟩
abbrev r_disk_Disk_Crash (gd : Nat) (ed : Nat) (r : Odisk_Disk) (U : List Rowb) (Γ : Gh) (v : Value) : Prop := ∃ (rowd' : Rowb), v = .tuple #[] ∧ U = [rowd'] ∧ Odisk_Disk.ob ed Γ gd rowd' r ∧ True
set_option maxRecDepth 100000 in
set_option maxHeartbeats 400000 in
theorem t_disk_Disk_Crash {Γ : Gh} {w0 : World} {gd ed : Nat} {rowd : Rowb} {d : Odisk_Disk} (hd : Odisk_Disk.ob ed Γ gd rowd d) (keep : Int) (hkeep : I64 keep) (torn : Int) (htorn : I64 torn) (hp : Pre [rowd] Γ w0) {r : Odisk_Disk} (h : m_disk_Disk_Crash d keep torn = some r) : Calls Try.prog 23 #[.pointer (some ⟨gd, 0, none⟩), .int .i64 keep, .int .i64 torn] w0 (Outc Γ [rowd] w0 (r_disk_Disk_Crash gd ed r)) := by
  refine calls_of (N := 82) (rs := []) (args := [.pointer (some ⟨gd, 0, none⟩), .int .i64 keep, .int .i64 torn]) Try.func23 rfl Try.ntmps23 Try.results23 rfl ?_
  obtain ⟨F, hF⟩ : ∃ F : Fm, F = ⟨ids [rowd], w0, Γ⟩ := ⟨_, rfl⟩
  refine WC.here (C := CC F Γ [rowd]) ?_ (hF ▸ hp.start)
  refine WC.rs ?_
  refine va rfl rfl rfl (q_move (v := .int .i64 keep) rfl (by kernel_rfl)) ?_
  refine va rfl rfl rfl (q_max rfl rfl rfl) ?_
  refine va rfl rfl rfl (q_move (v := .pointer (some ⟨gd, 0, none⟩)) rfl (by kernel_rfl)) ?_
  refine va rfl rfl rfl (q_nil (A := some ⟨gd, 0, none⟩) rfl rfl rfl) ?_
  refine va rfl rfl rfl (q_fl 3 fld_52_3 rfl rfl rfl) ?_
  have hq := hd
  obtain ⟨m1_1, r1_1, m2_1, r2_1, A3_1, c3_1, r3_1, hrow_1, ho0_1, ho1_1, ho2_1, ho3_1, -⟩ := hq
  intro w hw; have hw := hw.unfold (i := 0) rfl hrow_1
  refine WR.here (C := CC F Γ [[(gd, .cells #[.int .i64 d.room, .map (some m1_1), .map (some m2_1), .slice A3_1 d.loose.length c3_1] ed (0, 0))], r1_1, r2_1, r3_1]) ?_ hw
  clear hw
  refine va rfl rfl rfl (q_ldl (i := 0) (v := .slice A3_1 d.loose.length c3_1) rfl rfl Try.isAgg50 rfl rfl) ?_
  refine va rfl rfl rfl (q_len_slice rfl Try.underlying50 rfl) ?_
  refine va rfl rfl rfl (q_min rfl rfl rfl) ?_
  refine va rfl rfl rfl (q_assign (v := .int .i64 (min (max keep 0) ((d.loose.length : Nat) : Int))) rfl (by kernel_rfl)) ?_
  refine WR.nil ?_
  change WC _ _ _ _ _ _
  refine WC.seq ?_
  refine WC.rs ?_
  refine va rfl rfl rfl (q_move (v := .pointer (some ⟨gd, 0, none⟩)) rfl (by kernel_rfl)) ?_
  refine va rfl rfl rfl (q_nil (A := some ⟨gd, 0, none⟩) rfl rfl rfl) ?_
  refine va rfl rfl rfl (q_fl 3 fld_52_3 rfl rfl rfl) ?_
  refine va rfl rfl rfl (q_ldl (i := 0) (v := .slice A3_1 d.loose.length c3_1) rfl rfl Try.isAgg50 rfl rfl) ?_
  refine va rfl rfl rfl (q_move (v := .int .i64 (min (max keep 0) ((d.loose.length : Nat) : Int))) rfl (by kernel_rfl)) ?_
  have hc6 := ho3_1.capz
  intro w hw; obtain ⟨Γ2, hw, hl3, hr4⟩ := hw.seal (i := 3) rfl; have hs5 := ho3_1.sl hl3 hr4
  refine WR.here (C := CC F Γ2 [[(gd, .cells #[.int .i64 d.room, .map (some m1_1), .map (some m2_1), .slice A3_1 d.loose.length c3_1] ed (0, 0))], r1_1, r2_1, []]) ?_ hw
  clear hw
  obtain ⟨hk7, h⟩ := chk_some h
  refine va rfl rfl rfl (q_cut_to (c := c3_1) (hi := (min (max keep 0) ((d.loose.length : Nat) : Int)).toNat) (xs := d.loose) Try.underlying50 Try.sizeOf79 rfl rfl (inle_eq rfl hk7) (inle_le hk7) hc6) ?_
  refine va rfl rfl rfl (q_len_slice rfl Try.underlying50 rfl) ?_
  refine va rfl rfl rfl (q_move (v := .int .i64 0) rfl (by kernel_rfl)) ?_
  refine WR.nil ?_
  change WC _ _ _ _ _ _
  refine WC.block ?_
  refine WC.forI h (fun (i14 : Nat) (m10 : List (ByteArray × (List UInt8))) σ w => ∃ (Γ8 : Gh), ∃ (row11 : Rowb), slots σ [(0, .pointer (some ⟨gd, 0, none⟩)), (1, .int .i64 (min (max keep 0) ((d.loose.length : Nat) : Int))), (2, .int .i64 torn), (23, .slice A3_1 (List.take ((min (max keep 0) ((d.loose.length : Nat) : Int)).toNat) d.loose).length c3_1), (24, .int .i64 (((List.take ((min (max keep 0) ((d.loose.length : Nat) : Int)).toNat) d.loose).length : Nat) : Int)), (25, .int .i64 ((i14 : Nat) : Int))] ∧ CC F Γ8 [[(gd, .cells #[.int .i64 d.room, .map (some m1_1), .map (some m2_1), .slice A3_1 d.loose.length c3_1] ed (0, 0))], row11, r2_1] w ∧ Gh.le Γ2 Γ8 ∧ MapO (strK Try.underlying9) (slT byteT).v Γ8 row11 m1_1 m10 ∧ True) ?_ ?_
  · skip
    intro w hw
    exact ⟨Γ2, r1_1, (sl_ (by kernel_rfl)), (hw.only (is := [0, 0, 0]) rfl), (Gh.refl _), (ho1_1.mono hl3), trivial⟩
  rintro f13 i14 m10 σ w hi15 hlt16 hge17 ⟨Γ8, row11, hsl, hw, hl9, ho12, -⟩
  refine Wpt.slots hsl ?_
  refine WC.here (C := CC F Γ8 [[(gd, .cells #[.int .i64 d.room, .map (some m1_1), .map (some m2_1), .slice A3_1 d.loose.length c3_1] ed (0, 0))], row11, r2_1]) ?_ hw
  clear hw hsl
  refine WC.rs ?_
  refine va rfl rfl rfl (q_lss rfl rfl rfl) ?_
  refine WR.nil ?_
  change WC _ _ _ _ _ _
  refine WC.seq ?_
  refine WC.cond (b := (decide (((i14 : Nat) : Int) < (((List.take ((min (max keep 0) ((d.loose.length : Nat) : Int)).toNat) d.loose).length : Nat) : Int)))) (by kernel_rfl) (fun hb18 => ?_) (fun hb18 => ?_)
  · skip
    have hl19 := ilt hb18
    have h := hlt16 hl19
    refine WC.skip ?_
    change WC _ _ _ _ _ _
    refine WC.seq ?_
    refine WC.block ?_
    refine WC.rs ?_
    refine va rfl rfl rfl (q_ixn (i := i14) Try.underlying50 Try.sizeOf79 rfl rfl rfl hl19 (((hs5.mono hl9).cut_to (hi := (min (max keep 0) ((d.loose.length : Nat) : Int)).toNat) (inle_le hk7)).some_ hl19)) ?_
    obtain ⟨A20, c21, A22, c23, hx24⟩ := ((hs5.mono hl9).cut_to (hi := (min (max keep 0) ((d.loose.length : Nat) : Int)).toNat) (inle_le hk7)).ddisk_changeT_at i14
    refine va rfl rfl rfl (q_lda (c := 0) (vs := [(Cdisk_change_do.val ((gt (List.take ((min (max keep 0) ((d.loose.length : Nat) : Int)).toNat) d.loose) i14).do_) A20 c21), .string (gt (List.take ((min (max keep 0) ((d.loose.length : Nat) : Int)).toNat) d.loose) i14).name, .slice A22 ((gt (List.take ((min (max keep 0) ((d.loose.length : Nat) : Int)).toNat) d.loose) i14).tail).length c23]) (hx24 hl19).2 rfl Try.isAgg79 Try.sizeOf79 rfl rfl rfl) ?_
    refine e_alloc Try.zeroValue79 rfl rfl rfl rfl ?_
    intro g25
    refine e_st (i := 0) (v := .agg #[(Cdisk_change_do.val ((gt (List.take ((min (max keep 0) ((d.loose.length : Nat) : Int)).toNat) d.loose) i14).do_) A20 c21), .string (gt (List.take ((min (max keep 0) ((d.loose.length : Nat) : Int)).toNat) d.loose) i14).name, .slice A22 ((gt (List.take ((min (max keep 0) ((d.loose.length : Nat) : Int)).toNat) d.loose) i14).tail).length c23]) (new := #[(Cdisk_change_do.val ((gt (List.take ((min (max keep 0) ((d.loose.length : Nat) : Int)).toNat) d.loose) i14).do_) A20 c21), .string (gt (List.take ((min (max keep 0) ((d.loose.length : Nat) : Int)).toNat) d.loose) i14).name, .slice A22 ((gt (List.take ((min (max keep 0) ((d.loose.length : Nat) : Int)).toNat) d.loose) i14).tail).length c23]) rfl Try.sizeOf79 rfl rfl rfl rfl (by kernel_rfl) rfl rfl rfl rfl ?_
    refine WR.nil ?_
    change WC _ _ _ _ _ _
    intro w hw; have h026 := hw.le
    refine WC.here (C := CC F Γ8 [[(g25, .cells #[(Cdisk_change_do.val ((gt (List.take ((min (max keep 0) ((d.loose.length : Nat) : Int)).toNat) d.loose) i14).do_) A20 c21), .string (gt (List.take ((min (max keep 0) ((d.loose.length : Nat) : Int)).toNat) d.loose) i14).name, .slice A22 ((gt (List.take ((min (max keep 0) ((d.loose.length : Nat) : Int)).toNat) d.loose) i14).tail).length c23] 79 (0, 0))], [(gd, .cells #[.int .i64 d.room, .map (some m1_1), .map (some m2_1), .slice A3_1 d.loose.length c3_1] ed (0, 0))], row11, r2_1]) ?_ hw; clear hw
    refine WC.held (CC F Γ8 [[(g25, .cells #[(Cdisk_change_do.val ((gt (List.take ((min (max keep 0) ((d.loose.length : Nat) : Int)).toNat) d.loose) i14).do_) A20 c21), .string (gt (List.take ((min (max keep 0) ((d.loose.length : Nat) : Int)).toNat) d.loose) i14).name, .slice A22 ((gt (List.take ((min (max keep 0) ((d.loose.length : Nat) : Int)).toNat) d.loose) i14).tail).length c23] 79 (0, 0))], [(gd, .cells #[.int .i64 d.room, .map (some m1_1), .map (some m2_1), .slice A3_1 d.loose.length c3_1] ed (0, 0))]]) (by kernel_rfl) (fun w hw => hw.drawn _) ?_
    change WH _ _ _ _ (CC F Γ8 [[(g25, .cells #[(Cdisk_change_do.val ((gt (List.take ((min (max keep 0) ((d.loose.length : Nat) : Int)).toNat) d.loose) i14).do_) A20 c21), .string (gt (List.take ((min (max keep 0) ((d.loose.length : Nat) : Int)).toNat) d.loose) i14).name, .slice A22 ((gt (List.take ((min (max keep 0) ((d.loose.length : Nat) : Int)).toNat) d.loose) i14).tail).length c23] 79 (0, 0))], [(gd, .cells #[.int .i64 d.room, .map (some m1_1), .map (some m2_1), .slice A3_1 d.loose.length c3_1] ed (0, 0))], row11, r2_1]) _ 7 #[false, false, false, false, false, false, false] _
    refine ht (i := 0) rfl (by kernel_rfl) rfl rfl rfl (fun w hw => hw.back (Gh.refl _) h026 (.cons_cons _ (.cons_cons _ (.cons _ (.cons _ .slnil))))) (q_fl 0 fld_79_0 rfl rfl rfl) ?_
    refine ht (i := 1) rfl (by kernel_rfl) rfl rfl rfl (fun w hw => hw.back (Gh.refl _) h026 (.cons_cons _ (.cons_cons _ (.cons _ (.cons _ .slnil))))) (q_ldl (i := 0) (v := (Cdisk_change_do.val ((gt (List.take ((min (max keep 0) ((d.loose.length : Nat) : Int)).toNat) d.loose) i14).do_) A20 c21)) rfl rfl Try.isAgg77 rfl rfl) ?_
    refine ht (i := 2) rfl (by kernel_rfl) rfl rfl rfl (fun w hw => hw.back (Gh.refl _) h026 (.cons_cons _ (.cons_cons _ (.cons _ (.cons _ .slnil))))) (q_move (v := .pointer (some ⟨gd, 0, none⟩)) rfl (by kernel_rfl)) ?_
    refine ht (i := 3) rfl (by kernel_rfl) rfl rfl rfl (fun w hw => hw.back (Gh.refl _) h026 (.cons_cons _ (.cons_cons _ (.cons _ (.cons _ .slnil))))) (q_nil (A := some ⟨gd, 0, none⟩) rfl rfl rfl) ?_
    refine ht (i := 4) rfl (by kernel_rfl) rfl rfl rfl (fun w hw => hw.back (Gh.refl _) h026 (.cons_cons _ (.cons_cons _ (.cons _ (.cons _ .slnil))))) (q_fl 1 fld_52_1 rfl rfl rfl) ?_
    refine ht (i := 5) rfl (by kernel_rfl) rfl rfl rfl (fun w hw => hw.back (Gh.refl _) h026 (.cons_cons _ (.cons_cons _ (.cons _ (.cons _ .slnil))))) (q_ldl (i := 1) (v := .map (some m1_1)) rfl rfl Try.isAgg49 rfl rfl) ?_
    refine WH.lone (i := 6) (by kernel_rfl) rfl ?_
    obtain ⟨z27, hz28, h⟩ := bnd h
    obtain ⟨fd29, cp30, hv31, he32, hcl33⟩ := t_call_Cdisk_change_do (x := (gt (List.take ((min (max keep 0) ((d.loose.length : Nat) : Int)).toNat) d.loose) i14).do_) (hx24 hl19).1.1 ho12 hz28
    refine e_call (is := [2]) rfl rfl (call_run_fv (caps := cp30) (args := #[.map (some m1_1)] ++ cp30) he32 rfl (Eq.trans (b := (Cdisk_change_do.val ((gt (List.take ((min (max keep 0) ((d.loose.length : Nat) : Int)).toNat) d.loose) i14).do_) A20 c21)) (by kernel_rfl) hv31) (by kernel_rfl)) rfl (fun w hp => (by exact hcl33 w hp)) ?_
    rintro Γ34 U36 v37 hl35 ⟨row38, rfl, rfl, hr39, _⟩
    change WR _ _ _ (CC F Γ34 [row38, [(g25, .cells #[(Cdisk_change_do.val ((gt (List.take ((min (max keep 0) ((d.loose.length : Nat) : Int)).toNat) d.loose) i14).do_) A20 c21), .string (gt (List.take ((min (max keep 0) ((d.loose.length : Nat) : Int)).toNat) d.loose) i14).name, .slice A22 ((gt (List.take ((min (max keep 0) ((d.loose.length : Nat) : Int)).toNat) d.loose) i14).tail).length c23] 79 (0, 0))], [(gd, .cells #[.int .i64 d.room, .map (some m1_1), .map (some m2_1), .slice A3_1 d.loose.length c3_1] ed (0, 0))], r2_1]) _ _ (upd _ 35 (.tuple #[]))
    refine WR.nil ?_
    refine WH.next (fun w hw => hw.back hl35 h026 (.cons _ (.cons_cons _ (.cons_cons _ (.cons _ .slnil))))) ?_
    refine WH.done (by kernel_rfl) ?_
    change WC _ _ _ _ _ _
    refine WC.region ?_
    refine va rfl rfl rfl (q_add_r (r := ((i14 + 1 : Nat) : Int)) rfl rfl rfl (ctr_len hl19 ((hs5.mono hl9).cut_to (hi := (min (max keep 0) ((d.loose.length : Nat) : Int)).toNat) (inle_le hk7)).le)) ?_
    refine va rfl rfl rfl (q_move (v := .int .i64 ((i14 + 1 : Nat) : Int)) rfl (by kernel_rfl)) ?_
    refine WR.nil ?_
    intro w hw
    exact ⟨hl19, z27, h, Γ34, row38, (sl_ (by kernel_rfl)), (hw.only (is := [2, 0, 1]) rfl), (hl9.trans hl35), hr39, trivial⟩
  · skip
    have h := hge17 (ige hb18)
    refine WC.exit ?_
    change WC _ _ _ _ _ _
    refine WC.cut (fun σ w => ∃ (m42 : List (ByteArray × (List UInt8))), ∃ (Γ40 : Gh), ∃ (row43 : Rowb), m_disk_Disk_Crash_j2 d m42 = some r ∧ slots σ [(0, .pointer (some ⟨gd, 0, none⟩))] ∧ CC F Γ40 [[(gd, .cells #[.int .i64 d.room, .map (some m1_1), .map (some m2_1), .slice A3_1 d.loose.length c3_1] ed (0, 0))], row43, r2_1] w ∧ Gh.le Γ8 Γ40 ∧ MapO (strK Try.underlying9) (slT byteT).v Γ40 row43 m1_1 m42 ∧ True) ?_ ?_
    · skip
      refine WC.rs ?_
      refine va rfl rfl rfl (q_move (v := .int .i64 (min (max keep 0) ((d.loose.length : Nat) : Int))) rfl (by kernel_rfl)) ?_
      refine va rfl rfl rfl (q_move (v := .pointer (some ⟨gd, 0, none⟩)) rfl (by kernel_rfl)) ?_
      refine va rfl rfl rfl (q_nil (A := some ⟨gd, 0, none⟩) rfl rfl rfl) ?_
      refine va rfl rfl rfl (q_fl 3 fld_52_3 rfl rfl rfl) ?_
      refine va rfl rfl rfl (q_ldl (i := 0) (v := .slice A3_1 d.loose.length c3_1) rfl rfl Try.isAgg50 rfl rfl) ?_
      refine va rfl rfl rfl (q_len_slice rfl Try.underlying50 rfl) ?_
      refine va rfl rfl rfl (q_lss rfl rfl rfl) ?_
      refine WR.nil ?_
      change WC _ _ _ _ _ _
      refine WC.cif h (by kernel_rfl) (fun hb45 h => ?_) (fun hb45 h => ?_)
      · skip
        refine WC.rs ?_
        refine va rfl rfl rfl (q_move (v := .pointer (some ⟨gd, 0, none⟩)) rfl (by kernel_rfl)) ?_
        refine va rfl rfl rfl (q_nil (A := some ⟨gd, 0, none⟩) rfl rfl rfl) ?_
        refine va rfl rfl rfl (q_fl 3 fld_52_3 rfl rfl rfl) ?_
        refine va rfl rfl rfl (q_ldl (i := 0) (v := .slice A3_1 d.loose.length c3_1) rfl rfl Try.isAgg50 rfl rfl) ?_
        refine va rfl rfl rfl (q_move (v := .int .i64 (min (max keep 0) ((d.loose.length : Nat) : Int))) rfl (by kernel_rfl)) ?_
        obtain ⟨hk46, h⟩ := chk_some h
        refine va rfl rfl rfl (q_ix Try.underlying50 Try.sizeOf79 rfl rfl rfl hk46 ((hs5.mono hl9).some_ (inb_lt hk46))) ?_
        obtain ⟨A47, c48, A49, c50, hx51⟩ := (hs5.mono hl9).ddisk_changeT_at ((min (max keep 0) ((d.loose.length : Nat) : Int)).toNat)
        refine va rfl rfl rfl (q_lda (c := 0) (vs := [(Cdisk_change_do.val ((gt d.loose ((min (max keep 0) ((d.loose.length : Nat) : Int)).toNat)).do_) A47 c48), .string (gt d.loose ((min (max keep 0) ((d.loose.length : Nat) : Int)).toNat)).name, .slice A49 ((gt d.loose ((min (max keep 0) ((d.loose.length : Nat) : Int)).toNat)).tail).length c50]) (hx51 (inb_lt hk46)).2 rfl Try.isAgg79 Try.sizeOf79 rfl rfl rfl) ?_
        refine e_alloc Try.zeroValue79 rfl rfl rfl rfl ?_
        intro g52
        refine e_st (i := 0) (v := .agg #[(Cdisk_change_do.val ((gt d.loose ((min (max keep 0) ((d.loose.length : Nat) : Int)).toNat)).do_) A47 c48), .string (gt d.loose ((min (max keep 0) ((d.loose.length : Nat) : Int)).toNat)).name, .slice A49 ((gt d.loose ((min (max keep 0) ((d.loose.length : Nat) : Int)).toNat)).tail).length c50]) (new := #[(Cdisk_change_do.val ((gt d.loose ((min (max keep 0) ((d.loose.length : Nat) : Int)).toNat)).do_) A47 c48), .string (gt d.loose ((min (max keep 0) ((d.loose.length : Nat) : Int)).toNat)).name, .slice A49 ((gt d.loose ((min (max keep 0) ((d.loose.length : Nat) : Int)).toNat)).tail).length c50]) rfl Try.sizeOf79 rfl rfl rfl rfl (by kernel_rfl) rfl rfl rfl rfl ?_
        refine WR.nil ?_
        change WC _ _ _ _ _ _
        refine WC.rs ?_
        refine va rfl rfl rfl (q_move (v := .int .i64 torn) rfl (by kernel_rfl)) ?_
        refine va rfl rfl rfl (q_max rfl rfl rfl) ?_
        refine va rfl rfl rfl (q_fl 2 fld_79_2 rfl rfl rfl) ?_
        refine va rfl rfl rfl (q_ldl (i := 0) (v := .slice A49 ((gt d.loose ((min (max keep 0) ((d.loose.length : Nat) : Int)).toNat)).tail).length c50) rfl rfl Try.isAgg31 rfl rfl) ?_
        refine va rfl rfl rfl (q_len_slice rfl Try.underlying31 rfl) ?_
        refine va rfl rfl rfl (q_min rfl rfl rfl) ?_
        refine va rfl rfl rfl (q_assign (v := .int .i64 (min (max torn 0) ((((gt d.loose ((min (max keep 0) ((d.loose.length : Nat) : Int)).toNat)).tail).length : Nat) : Int))) rfl (by kernel_rfl)) ?_
        refine WR.nil ?_
        change WC _ _ _ _ _ _
        refine WC.rs ?_
        refine va rfl rfl rfl (q_move (v := .int .i64 (min (max torn 0) ((((gt d.loose ((min (max keep 0) ((d.loose.length : Nat) : Int)).toNat)).tail).length : Nat) : Int))) rfl (by kernel_rfl)) ?_
        refine va rfl rfl rfl (q_gtr rfl rfl rfl) ?_
        refine WR.nil ?_
        change WC _ _ _ _ _ _
        refine WC.cif h (by kernel_rfl) (fun hb53 h => ?_) (fun hb53 h => ?_)
        · skip
          intro w hw; have h054 := hw.le
          refine WC.here (C := CC F Γ8 [[(g52, .cells #[(Cdisk_change_do.val ((gt d.loose ((min (max keep 0) ((d.loose.length : Nat) : Int)).toNat)).do_) A47 c48), .string (gt d.loose ((min (max keep 0) ((d.loose.length : Nat) : Int)).toNat)).name, .slice A49 ((gt d.loose ((min (max keep 0) ((d.loose.length : Nat) : Int)).toNat)).tail).length c50] 79 (0, 0))], [(gd, .cells #[.int .i64 d.room, .map (some m1_1), .map (some m2_1), .slice A3_1 d.loose.length c3_1] ed (0, 0))], row11, r2_1]) ?_ hw; clear hw
          refine WC.held (CC F Γ8 [[(g52, .cells #[(Cdisk_change_do.val ((gt d.loose ((min (max keep 0) ((d.loose.length : Nat) : Int)).toNat)).do_) A47 c48), .string (gt d.loose ((min (max keep 0) ((d.loose.length : Nat) : Int)).toNat)).name, .slice A49 ((gt d.loose ((min (max keep 0) ((d.loose.length : Nat) : Int)).toNat)).tail).length c50] 79 (0, 0))], [(gd, .cells #[.int .i64 d.room, .map (some m1_1), .map (some m2_1), .slice A3_1 d.loose.length c3_1] ed (0, 0))]]) (by kernel_rfl) (fun w hw => hw.drawn _) ?_
          change WH _ _ _ _ (CC F Γ8 [[(g52, .cells #[(Cdisk_change_do.val ((gt d.loose ((min (max keep 0) ((d.loose.length : Nat) : Int)).toNat)).do_) A47 c48), .string (gt d.loose ((min (max keep 0) ((d.loose.length : Nat) : Int)).toNat)).name, .slice A49 ((gt d.loose ((min (max keep 0) ((d.loose.length : Nat) : Int)).toNat)).tail).length c50] 79 (0, 0))], [(gd, .cells #[.int .i64 d.room, .map (some m1_1), .map (some m2_1), .slice A3_1 d.loose.length c3_1] ed (0, 0))], row11, r2_1]) _ 12 #[false, false, false, false, false, false, false, false, false, false, false, false] _
          refine ht (i := 0) rfl (by kernel_rfl) rfl rfl rfl (fun w hw => hw.back (Gh.refl _) h054 (.cons_cons _ (.cons_cons _ (.cons _ (.cons _ .slnil))))) (q_fl 1 fld_79_1 rfl rfl rfl) ?_
          refine ht (i := 1) rfl (by kernel_rfl) rfl rfl rfl (fun w hw => hw.back (Gh.refl _) h054 (.cons_cons _ (.cons_cons _ (.cons _ (.cons _ .slnil))))) (q_ldl (i := 0) (v := .string (gt d.loose ((min (max keep 0) ((d.loose.length : Nat) : Int)).toNat)).name) rfl rfl Try.isAgg9 rfl rfl) ?_
          refine ht (i := 2) rfl (by kernel_rfl) rfl rfl rfl (fun w hw => hw.back (Gh.refl _) h054 (.cons_cons _ (.cons_cons _ (.cons _ (.cons _ .slnil))))) (q_fl 2 fld_79_2 rfl rfl rfl) ?_
          refine ht (i := 3) rfl (by kernel_rfl) rfl rfl rfl (fun w hw => hw.back (Gh.refl _) h054 (.cons_cons _ (.cons_cons _ (.cons _ (.cons _ .slnil))))) (q_ldl (i := 0) (v := .slice A49 ((gt d.loose ((min (max keep 0) ((d.loose.length : Nat) : Int)).toNat)).tail).length c50) rfl rfl Try.isAgg31 rfl rfl) ?_
          refine ht (i := 4) rfl (by kernel_rfl) rfl rfl rfl (fun w hw => hw.back (Gh.refl _) h054 (.cons_cons _ (.cons_cons _ (.cons _ (.cons _ .slnil))))) (q_move (v := .int .i64 (min (max torn 0) ((((gt d.loose ((min (max keep 0) ((d.loose.length : Nat) : Int)).toNat)).tail).length : Nat) : Int))) rfl (by kernel_rfl)) ?_
          obtain ⟨hk55, h⟩ := chk_some h
          refine ht (i := 5) rfl (by kernel_rfl) rfl rfl rfl (fun w hw => hw.back (Gh.refl _) h054 (.cons_cons _ (.cons_cons _ (.cons _ (.cons _ .slnil))))) (q_cut_to (c := c50) (hi := (min (max torn 0) ((((gt d.loose ((min (max keep 0) ((d.loose.length : Nat) : Int)).toNat)).tail).length : Nat) : Int)).toNat) (xs := ((gt d.loose ((min (max keep 0) ((d.loose.length : Nat) : Int)).toNat)).tail)) Try.underlying31 Try.sizeOf5 rfl rfl (inle_eq rfl hk55) (inle_le hk55) (hx51 (inb_lt hk46)).1.2.2.1) ?_
          refine ht (i := 7) rfl (by kernel_rfl) rfl rfl rfl (fun w hw => hw.back (Gh.refl _) h054 (.cons_cons _ (.cons_cons _ (.cons _ (.cons _ .slnil))))) (q_move (v := .pointer (some ⟨gd, 0, none⟩)) rfl (by kernel_rfl)) ?_
          refine ht (i := 8) rfl (by kernel_rfl) rfl rfl rfl (fun w hw => hw.back (Gh.refl _) h054 (.cons_cons _ (.cons_cons _ (.cons _ (.cons _ .slnil))))) (q_nil (A := some ⟨gd, 0, none⟩) rfl rfl rfl) ?_
          refine ht (i := 9) rfl (by kernel_rfl) rfl rfl rfl (fun w hw => hw.back (Gh.refl _) h054 (.cons_cons _ (.cons_cons _ (.cons _ (.cons _ .slnil))))) (q_fl 1 fld_52_1 rfl rfl rfl) ?_
          refine ht (i := 10) rfl (by kernel_rfl) rfl rfl rfl (fun w hw => hw.back (Gh.refl _) h054 (.cons_cons _ (.cons_cons _ (.cons _ (.cons _ .slnil))))) (q_ldl (i := 1) (v := .map (some m1_1)) rfl rfl Try.isAgg49 rfl rfl) ?_
          refine WH.lone (i := 6) (by kernel_rfl) rfl ?_
          obtain ⟨z56, hz57, h⟩ := bnd h
          refine e_call (is := []) rfl rfl (call_run Try.call44 rfl rfl (by kernel_rfl)) rfl (fun w hp => t_disk_add ((gt d.loose ((min (max keep 0) ((d.loose.length : Nat) : Int)).toNat)).name) (hx51 (inb_lt hk46)).1.2.1 ((hx51 (inb_lt hk46)).1.2.2.2.cut_to (hi := (min (max torn 0) ((((gt d.loose ((min (max keep 0) ((d.loose.length : Nat) : Int)).toNat)).tail).length : Nat) : Int)).toNat) (inle_le hk55)) (take_cap (hx51 (inb_lt hk46)).1.2.2.1 ((min (max torn 0) ((((gt d.loose ((min (max keep 0) ((d.loose.length : Nat) : Int)).toNat)).tail).length : Nat) : Int)).toNat)) hp hz57) ?_
          rintro Γ58 U60 v61 hl59 ⟨A62, c63, rfl, rfl, hr64, _⟩
          change WR _ _ _ (CC F Γ58 [[(g52, .cells #[(Cdisk_change_do.val ((gt d.loose ((min (max keep 0) ((d.loose.length : Nat) : Int)).toNat)).do_) A47 c48), .string (gt d.loose ((min (max keep 0) ((d.loose.length : Nat) : Int)).toNat)).name, .slice A49 ((gt d.loose ((min (max keep 0) ((d.loose.length : Nat) : Int)).toNat)).tail).length c50] 79 (0, 0))], [(gd, .cells #[.int .i64 d.room, .map (some m1_1), .map (some m2_1), .slice A3_1 d.loose.length c3_1] ed (0, 0))], row11, r2_1]) _ _ (upd _ 65 ((Cdisk_change_do.val z56 A62 c63)))
          refine WR.nil ?_
          refine WH.next (fun w hw => hw.back hl59 h054 (.cons_cons _ (.cons_cons _ (.cons _ (.cons _ .slnil))))) ?_
          refine WH.lone (i := 11) (by kernel_rfl) rfl ?_
          obtain ⟨z65, hz66, h⟩ := bnd h
          obtain ⟨fd67, cp68, hv69, he70, hcl71⟩ := t_call_Cdisk_change_do (x := z56) hr64 (ho12.mono hl59) hz66
          refine e_call (is := [2]) rfl rfl (call_run_fv (caps := cp68) (args := #[.map (some m1_1)] ++ cp68) he70 rfl (Eq.trans (b := (Cdisk_change_do.val z56 A62 c63)) (by kernel_rfl) hv69) (by kernel_rfl)) rfl (fun w hp => (by exact hcl71 w hp)) ?_
          rintro Γ72 U74 v75 hl73 ⟨row76, rfl, rfl, hr77, _⟩
          change WR _ _ _ (CC F Γ72 [row76, [(g52, .cells #[(Cdisk_change_do.val ((gt d.loose ((min (max keep 0) ((d.loose.length : Nat) : Int)).toNat)).do_) A47 c48), .string (gt d.loose ((min (max keep 0) ((d.loose.length : Nat) : Int)).toNat)).name, .slice A49 ((gt d.loose ((min (max keep 0) ((d.loose.length : Nat) : Int)).toNat)).tail).length c50] 79 (0, 0))], [(gd, .cells #[.int .i64 d.room, .map (some m1_1), .map (some m2_1), .slice A3_1 d.loose.length c3_1] ed (0, 0))], r2_1]) _ _ (upd _ 70 (.tuple #[]))
          refine WR.nil ?_
          refine WH.next (fun w hw => hw.back (hl59.trans hl73) h054 (.cons _ (.cons_cons _ (.cons_cons _ (.cons _ .slnil))))) ?_
          refine WH.done (by kernel_rfl) ?_
          intro w hw
          exact ⟨z65, Γ72, row76, h, (sl_ (by kernel_rfl)), (hw.only (is := [2, 0, 1]) rfl), (hl59.trans hl73), hr77, trivial⟩
        · skip
          refine WC.skip ?_
          intro w hw
          exact ⟨m10, Γ8, row11, h, (sl_ (by kernel_rfl)), (hw.only (is := [1, 1, 1]) rfl), (Gh.refl _), ho12, trivial⟩
      · skip
        refine WC.skip ?_
        intro w hw
        exact ⟨m10, Γ8, row11, h, (sl_ (by kernel_rfl)), hw, (Gh.refl _), ho12, trivial⟩
    · skip
      rintro σ w ⟨m42, Γ40, row43, h, hsl, hw, hl41, ho44, -⟩
      refine Wpt.slots hsl ?_
      refine WC.here (C := CC F Γ40 [[(gd, .cells #[.int .i64 d.room, .map (some m1_1), .map (some m2_1), .slice A3_1 d.loose.length c3_1] ed (0, 0))], row43, r2_1]) ?_ hw
      clear hw hsl
      refine WC.rs ?_
      refine va rfl rfl rfl (q_move (v := .pointer (some ⟨gd, 0, none⟩)) rfl (by kernel_rfl)) ?_
      refine va rfl rfl rfl (q_move (v := .pointer (some ⟨gd, 0, none⟩)) rfl (by kernel_rfl)) ?_
      refine va rfl rfl rfl (q_nil (A := some ⟨gd, 0, none⟩) rfl rfl rfl) ?_
      refine va rfl rfl rfl (q_fl 1 fld_52_1 rfl rfl rfl) ?_
      refine va rfl rfl rfl (q_ldl (i := 0) (v := .map (some m1_1)) rfl rfl Try.isAgg49 rfl rfl) ?_
      refine e_clone clone49 (i := 1) rfl ho44 rfl rfl (call_run Try.call49 rfl rfl (by kernel_rfl)) ?_
      intro g78 row79 hm80
      change WR _ _ _ (CC F Γ40 [row79, [(gd, .cells #[.int .i64 d.room, .map (some m1_1), .map (some m2_1), .slice A3_1 d.loose.length c3_1] ed (0, 0))], row43, r2_1]) _ _ (upd _ 76 (.map (some g78)))
      refine va rfl rfl rfl (q_nil (A := some ⟨gd, 0, none⟩) rfl rfl rfl) ?_
      refine va rfl rfl rfl (q_fl 2 fld_52_2 rfl rfl rfl) ?_
      refine e_st (i := 1) (v := .map (some g78)) (new := #[.int .i64 d.room, .map (some m1_1), .map (some g78), .slice A3_1 d.loose.length c3_1]) rfl Try.sizeOf49 rfl rfl rfl rfl (by kernel_rfl) rfl rfl rfl rfl ?_
      refine WR.nil ?_
      change WC _ _ _ _ _ _
      refine WC.region ?_
      refine va rfl rfl rfl (q_move (v := .pointer (some ⟨gd, 0, none⟩)) rfl (by kernel_rfl)) ?_
      refine va rfl rfl rfl (q_nil (A := some ⟨gd, 0, none⟩) rfl rfl rfl) ?_
      refine va rfl rfl rfl (q_fl 3 fld_52_3 rfl rfl rfl) ?_
      refine e_st (i := 1) (v := .slice none 0 0) (new := #[.int .i64 d.room, .map (some m1_1), .map (some g78), .slice none 0 0]) rfl Try.sizeOf50 rfl rfl rfl rfl (by kernel_rfl) rfl rfl rfl rfl ?_
      refine WR.nil ?_
      intro w hw
      have hw := hw.pad
      obtain ⟨row_81, hrow_81, hob_81⟩ : ∃ rw : Rowb, rw = ([[(gd, .cells #[.int .i64 d.room, .map (some m1_1), .map (some g78), .slice none 0 0] ed (0, 0))], row43, row79, []] : List Rowb).flatten ∧ Odisk_Disk.ob ed Γ40 gd rw (⟨d.room, m42, m42, []⟩ : Odisk_Disk) := ⟨_, rfl, m1_1, row43, g78, row79, none, 0, [], rfl, ho0_1, ho44, hm80, (Own.nil ddisk_changeT Γ40 79), trivial⟩
      have hw := hw.fold (is := [2, 2, 1, 0]) rfl hrow_81
      obtain rfl := Option.some.inj h
      subst hF
      exact end_e (is := [0]) (by kernel_rfl) hw rfl ⟨row_81, rfl, rfl, hob_81, trivial⟩
set_option maxRecDepth 100000 in
set_option maxHeartbeats 400000 in
theorem t_firthlaw09_SeglogCrash {Γ : Gh} {w0 : World} {Alist : Option Addr} {clist : Nat} {list : List (List UInt8)} (hlist : Sl (slT byteT) Γ Alist list) (hlistc : list.length ≤ clist) (safe_ : Int) (hsafe_ : I64 safe_) (fate0 : Int) (hfate0 : I64 fate0) (fate1 : Int) (hfate1 : I64 fate1) (hs : Sat Γ w0) {r : Bool} (h : m_firthlaw09_SeglogCrash list safe_ fate0 fate1 = some r) : Calls Try.prog 6 #[.slice Alist list.length clist, .int .i64 safe_, .agg #[.int .i64 fate0, .int .i64 fate1]] w0 (fun e w' => e = .returned (.bool r) ∧ Fr no w0 w') := by
  refine calls_of (N := 83) (rs := [6]) (args := [.slice Alist list.length clist, .int .i64 safe_, .agg #[.int .i64 fate0, .int .i64 fate1]]) Try.func6 rfl Try.ntmps6 Try.results6 rfl ?_
  obtain ⟨F, hF⟩ : ∃ F : Fm, F = ⟨no, w0, Γ⟩ := ⟨_, rfl⟩
  refine WC.here (C := CC F Γ []) ?_ (hF ▸ Cur.start0 hs)
  refine WC.rs ?_
  refine e_box (v := .agg #[.int .i64 fate0, .int .i64 fate1]) rfl rfl rfl rfl (by kernel_rfl) ?_
  intro g1
  refine va rfl rfl rfl (q_assign (v := .bool false) rfl (by kernel_rfl)) ?_
  refine WR.nil ?_
  change WC _ _ _ _ _ _
  refine WC.seq ?_
  refine WC.rs ?_
  obtain ⟨z2, hz3, h⟩ := bnd h
  refine vc rfl rfl rfl (q_call (call_run Try.call7 rfl rfl (by kernel_rfl)) (fun w hw => t_firthlaw09_awake (Γ := Gh.all w)  (Sat.all w) hz3)) ?_
  refine va rfl rfl rfl (q_not rfl rfl) ?_
  refine WR.nil ?_
  change WC _ _ _ _ _ _
  refine WC.cif h (by kernel_rfl) (fun hb4 h => ?_) (fun hb4 h => ?_)
  · skip
    refine WC.rs ?_
    refine va rfl rfl rfl (q_assign (v := .bool false) rfl (by kernel_rfl)) ?_
    refine WR.nil ?_
    change WC _ _ _ _ _ _
    refine WC.ret ?_
    intro w hw
    obtain rfl := Option.some.inj h
    subst hF
    exact ⟨by kernel_rfl, hw.fr⟩
  · skip
    refine WC.skip ?_
    change WC _ _ _ _ _ _
    refine WC.rs ?_
    obtain ⟨z5, hz6, h⟩ := bnd h
    refine e_call (is := []) rfl rfl (call_run Try.call8 rfl rfl (by kernel_rfl)) rfl (fun w hp => t_disk_New 65536 (show I64 65536 by decide) hp hz6) ?_
    rintro Γ7 U9 v10 hl8 ⟨g11, row12, rfl, rfl, hr13, _⟩
    change WR _ _ _ (CC F Γ7 [row12, [(g1, .cells #[.int .i64 fate0, .int .i64 fate1] 45 (0, 0))]]) _ _ (upd _ 17 (.pointer (some ⟨g11, 0, none⟩)))
    refine va rfl rfl rfl (q_assign (v := .pointer (some ⟨g11, 0, none⟩)) rfl (by kernel_rfl)) ?_
    refine WR.nil ?_
    change WC _ _ _ _ _ _
    refine WC.rs ?_
    refine va rfl rfl rfl (q_move (v := .pointer (some ⟨g11, 0, none⟩)) rfl (by kernel_rfl)) ?_
    obtain ⟨z14, hz15, h⟩ := bnd h
    refine e_call (is := [0]) rfl rfl (call_run Try.call9 rfl rfl (by kernel_rfl)) rfl (fun w hp => t_seglog_Open hr13 (⟨#[98]⟩ : ByteArray) (show (⟨#[98]⟩ : ByteArray).size ≤ lim by decide) 40 (show I64 40 by decide) hp hz15) ?_
    rintro Γ16 U18 v19 hl17 ⟨row20, g22, row23, A25, c26, row27, rfl, rfl, hr21, hr24, hr28, hr29, _⟩
    change WR _ _ _ (CC F Γ16 [row20, row23, row27, [(g1, .cells #[.int .i64 fate0, .int .i64 fate1] 45 (0, 0))]]) _ _ (upd _ 20 (.tuple #[optp z14.2.1 g22, .slice A25 z14.2.2.1.length c26, .int .i64 z14.2.2.2]))
    refine va rfl rfl rfl (q_move (v := .tuple #[optp z14.2.1 g22, .slice A25 z14.2.2.1.length c26, .int .i64 z14.2.2.2]) rfl (by kernel_rfl)) ?_
    refine va rfl rfl rfl (q_extract (v := optp z14.2.1 g22) rfl rfl rfl) ?_
    refine va rfl rfl rfl (q_extract (v := .slice A25 z14.2.2.1.length c26) rfl rfl rfl) ?_
    refine va rfl rfl rfl (q_extract (v := .int .i64 z14.2.2.2) rfl rfl rfl) ?_
    refine va rfl rfl rfl (q_assign (v := optp z14.2.1 g22) rfl (by kernel_rfl)) ?_
    refine va rfl rfl rfl (q_assign (v := .slice A25 z14.2.2.1.length c26) rfl (by kernel_rfl)) ?_
    refine va rfl rfl rfl (q_assign (v := .int .i64 z14.2.2.2) rfl (by kernel_rfl)) ?_
    refine WR.nil ?_
    change WC _ _ _ _ _ _
    refine WC.seq ?_
    refine WC.rs ?_
    refine va rfl rfl rfl (q_move (v := optp z14.2.1 g22) rfl (by kernel_rfl)) ?_
    refine va rfl rfl rfl (q_opt_eql Try.underlying26 rfl rfl rfl) ?_
    refine va rfl rfl rfl (q_move (v := .bool (Option.isNone z14.2.1)) rfl (by kernel_rfl)) ?_
    refine vg0 rfl rfl rfl rfl rfl (fun hg30 => QV.qo (q_move (v := .int .i64 z14.2.2.2) rfl (by kernel_rfl))) ?_
    refine vg0 rfl rfl rfl rfl rfl (fun hg31 => QV.qo (q_neq rfl (gu hg31 rfl) rfl)) ?_
    refine va rfl rfl rfl (q_pick rfl rfl (pk_or' (g := (Option.isNone z14.2.1)) (y := (z14.2.2.2 != 0)))) ?_
    refine WR.nil ?_
    change WC _ _ _ _ _ _
    refine WC.cif h (by kernel_rfl) (fun hb32 h => ?_) (fun hb32 h => ?_)
    · skip
      refine WC.rs ?_
      refine va rfl rfl rfl (q_assign (v := .bool false) rfl (by kernel_rfl)) ?_
      refine WR.nil ?_
      change WC _ _ _ _ _ _
      refine WC.ret ?_
      intro w hw
      obtain rfl := Option.some.inj h
      subst hF
      exact ⟨by kernel_rfl, hw.fr⟩
    · skip
      obtain ⟨z33, hz34, h⟩ := bnd h
      have ho35 := optob_some hr24 hz34
      refine WC.skip ?_
      change WC _ _ _ _ _ _
      refine WC.rs ?_
      refine va rfl rfl rfl (q_assign (v := .int .i64 0) rfl (by kernel_rfl)) ?_
      refine WR.nil ?_
      change WC _ _ _ _ _ _
      refine WC.rs ?_
      refine va rfl rfl rfl (q_assign (v := .int .i64 0) rfl (by kernel_rfl)) ?_
      refine WR.nil ?_
      change WC _ _ _ _ _ _
      refine WC.seq ?_
      refine WC.block ?_
      refine WC.loopN h (fun (s : Int × Int × Odisk_Disk × Oseglog_Log) σ w => match s with | (n_38, kept_40, o42, o45) => ∃ (Γ36 : Gh), ∃ (row43 : Rowb), ∃ (row46 : Rowb), slots σ [(0, .slice Alist list.length clist), (1, .int .i64 safe_), (5, .pointer (some ⟨g1, 0, none⟩)), (7, .pointer (some ⟨g11, 0, none⟩)), (8, optp z14.2.1 g22), (11, .int .i64 n_38), (12, .int .i64 kept_40)] ∧ CC F Γ36 [row43, row46, [(g1, .cells #[.int .i64 fate0, .int .i64 fate1] 45 (0, 0))]] w ∧ Gh.le Γ16 Γ36 ∧ I64 n_38 ∧ I64 kept_40 ∧ Odisk_Disk.ob 52 Γ36 g11 row43 o42 ∧ Oseglog_Log.ob (63, g11) Γ36 g22 row46 o45 ∧ True) ?_ ?_
      · skip
        intro w hw
        exact ⟨Γ16, row20, row23, (sl_ (by kernel_rfl)), (hw.only (is := [0, 0, 1]) rfl), (Gh.refl _), (show I64 0 by decide), (show I64 0 by decide), hr21, ho35, trivial⟩
      rintro f48 ⟨n_38, kept_40, o42, o45⟩ σ w h ⟨Γ36, row43, row46, hsl, hw, hl37, hr39, hr41, ho44, ho47, -⟩
      refine Wpt.slots hsl ?_
      refine WC.here (C := CC F Γ36 [row43, row46, [(g1, .cells #[.int .i64 fate0, .int .i64 fate1] 45 (0, 0))]]) ?_ hw
      clear hw hsl
      refine WC.seq ?_
      refine WC.rs ?_
      refine va rfl rfl rfl (q_move (v := .int .i64 n_38) rfl (by kernel_rfl)) ?_
      refine va rfl rfl rfl (q_move (v := .slice Alist list.length clist) rfl (by kernel_rfl)) ?_
      refine va rfl rfl rfl (q_len_slice rfl Try.underlying22 rfl) ?_
      refine va rfl rfl rfl (q_lss rfl rfl rfl) ?_
      refine va rfl rfl rfl (q_move (v := .bool (decide (n_38 < ((list.length : Nat) : Int)))) rfl (by kernel_rfl)) ?_
      refine vg1 rfl rfl rfl rfl rfl (fun hg52 => QV.qo (q_move (v := .pointer (some ⟨g22, 0, none⟩)) rfl (optp_some rfl hz34))) ?_
      refine vg1 rfl rfl rfl rfl rfl (fun hg53 => QV.qo (q_move (v := .slice Alist list.length clist) rfl (by kernel_rfl))) ?_
      refine vg1 rfl rfl rfl rfl rfl (fun hg54 => QV.qo (q_move (v := .int .i64 n_38) rfl (by kernel_rfl))) ?_
      obtain ⟨hk56, h⟩ := chk_some h
      refine vg1 rfl rfl rfl rfl rfl (fun hg55 => QV.qo (q_ix Try.underlying22 Try.sizeOf31 rfl (gu hg55 rfl) (gu hg55 rfl) (imp_of hk56 hg55) ((hlist.mono ((hl8.trans hl17).trans hl37)).some_ (inb_lt (imp_of hk56 hg55))))) ?_
      obtain ⟨A58, c59, hx60⟩ := (hlist.mono ((hl8.trans hl17).trans hl37)).slT_at n_38.toNat
      refine vg1 rfl rfl rfl rfl rfl (fun hg57 => QV.qo (q_ld (c := 0) (v := .slice A58 (gt list n_38.toNat).length c59) (hx60 (inb_lt (imp_of hk56 hg57))).2 rfl Try.isAgg31 (gu hg57 rfl) rfl)) ?_
      refine (Bool.eq_false_or_eq_true (decide (n_38 < ((list.length : Nat) : Int)))).elim (fun hb61 => ?_) (fun hb61 => ?_)
      · skip
        have h := bt hb61 h
        refine WR.sat (c0 := true) (g := (decide (n_38 < ((list.length : Nat) : Int)))) rfl rfl rfl hb61 ?_
        obtain ⟨hk62, h⟩ := chk_some h
        obtain ⟨z63, hz64, h⟩ := bnd h
        refine e_call (is := [1, 0]) rfl rfl (call_run Try.call10 rfl rfl (args2 (gu hb61 rfl) (gu hb61 rfl))) rfl (fun w hp => t_seglog_Log_Append ho47 (hx60 (inb_lt hk62)).1.2 (hx60 (inb_lt hk62)).1.1 ho44 hp hz64) ?_
        rintro Γ65 U67 v68 hl66 ⟨row69, row71, rfl, rfl, hr70, hr72, hr73, _⟩
        change WR _ _ _ (CC F Γ65 [row69, row71, [(g1, .cells #[.int .i64 fate0, .int .i64 fate1] 45 (0, 0))]]) _ _ (upd _ 40 (.int .i64 z63.2.2))
        refine WR.sat (c0 := true) (g := (decide (n_38 < ((list.length : Nat) : Int)))) rfl rfl rfl hb61 ?_
        refine va rfl rfl rfl (q_eql rfl rfl rfl) ?_
        refine va rfl rfl rfl (q_pick_t (v := .bool (z63.2.2 == 0)) rfl rfl hb61 (by kernel_rfl)) ?_
        refine WR.nil ?_
        change WC _ _ _ _ _ _
        refine WC.cif h (by kernel_rfl) (fun hb74 h => ?_) (fun hb74 h => ?_)
        · skip
          refine WC.skip ?_
          change WC _ _ _ _ _ _
          refine WC.block ?_
          refine WC.rs ?_
          refine va rfl rfl rfl (q_move (v := .int .i64 n_38) rfl (by kernel_rfl)) ?_
          refine va rfl rfl rfl (q_add rfl rfl rfl) ?_
          refine va rfl rfl rfl (q_assign (v := .int .i64 (w64 (n_38 + 1))) rfl (by kernel_rfl)) ?_
          refine WR.nil ?_
          change WC _ _ _ _ _ _
          refine WC.rs ?_
          refine va rfl rfl rfl (q_move (v := .int .i64 (w64 (n_38 + 1))) rfl (by kernel_rfl)) ?_
          refine va rfl rfl rfl (q_move (v := .int .i64 safe_) rfl (by kernel_rfl)) ?_
          refine va rfl rfl rfl (q_eql rfl rfl rfl) ?_
          refine WR.nil ?_
          change WC _ _ _ _ _ _
          refine WC.cif h (by kernel_rfl) (fun hb75 h => ?_) (fun hb75 h => ?_)
          · skip
            refine WC.rs ?_
            refine va rfl rfl rfl (q_move (v := .pointer (some ⟨g22, 0, none⟩)) rfl (optp_some rfl hz34)) ?_
            obtain ⟨z76, hz77, h⟩ := bnd h
            refine e_call (is := [0, 0]) rfl rfl (call_run Try.call22 rfl rfl (by kernel_rfl)) rfl (fun w hp => t_seglog_Log_Sync hr70 hr72 hp hz77) ?_
            rintro Γ78 U80 v81 hl79 ⟨row82, rfl, rfl, hr83, _⟩
            change WR _ _ _ (CC F Γ78 [row69, row82, [(g1, .cells #[.int .i64 fate0, .int .i64 fate1] 45 (0, 0))]]) _ _ (upd _ 49 (.tuple #[]))
            refine WR.nil ?_
            change WC _ _ _ _ _ _
            refine WC.region ?_
            refine va rfl rfl rfl (q_move (v := .int .i64 (w64 (n_38 + 1))) rfl (by kernel_rfl)) ?_
            refine va rfl rfl rfl (q_assign (v := .int .i64 (w64 (n_38 + 1))) rfl (by kernel_rfl)) ?_
            refine WR.nil ?_
            intro w hw
            exact ⟨((w64 (n_38 + 1)), (w64 (n_38 + 1)), z76, z63.1), h, Γ78, row82, row69, (sl_ (by kernel_rfl)), (hw.only (is := [1, 0, 0]) rfl), ((hl37.trans hl66).trans hl79), (w64_r _), (w64_r _), hr83, (hr70.mono hl79), trivial⟩
          · skip
            refine WC.skip ?_
            intro w hw
            exact ⟨((w64 (n_38 + 1)), kept_40, z63.2.1, z63.1), h, Γ65, row71, row69, (sl_ (by kernel_rfl)), (hw.only (is := [1, 0, 0]) rfl), (hl37.trans hl66), (w64_r _), hr41, hr72, hr70, trivial⟩
        · skip
          refine WC.exit ?_
          change WC _ _ _ _ _ _
          refine WC.rs ?_
          refine va rfl rfl rfl (q_move (v := .pointer (some ⟨g11, 0, none⟩)) rfl (by kernel_rfl)) ?_
          refine va rfl rfl rfl (q_ixa_ (0) Try.underlying45 Try.sizeOf3 rfl rfl rfl rfl rfl) ?_
          refine va rfl rfl rfl (q_ldl (i := 2) (v := .int .i64 fate0) rfl rfl Try.isAgg3 rfl rfl) ?_
          refine va rfl rfl rfl (q_ixa_ (1) Try.underlying45 Try.sizeOf3 rfl rfl rfl rfl rfl) ?_
          refine va rfl rfl rfl (q_ldl (i := 2) (v := .int .i64 fate1) rfl rfl Try.isAgg3 rfl rfl) ?_
          obtain ⟨z84, hz85, h⟩ := bnd h
          refine e_call (is := [1]) rfl rfl (call_run Try.call23 rfl rfl (by kernel_rfl)) rfl (fun w hp => t_disk_Disk_Crash hr72 fate0 hfate0 fate1 hfate1 hp hz85) ?_
          rintro Γ86 U88 v89 hl87 ⟨row90, rfl, rfl, hr91, _⟩
          change WR _ _ _ (CC F Γ86 [row90, row69, [(g1, .cells #[.int .i64 fate0, .int .i64 fate1] 45 (0, 0))]]) _ _ (upd _ 56 (.tuple #[]))
          refine WR.nil ?_
          change WC _ _ _ _ _ _
          refine WC.rs ?_
          refine va rfl rfl rfl (q_move (v := .pointer (some ⟨g11, 0, none⟩)) rfl (by kernel_rfl)) ?_
          obtain ⟨z92, hz93, h⟩ := bnd h
          refine e_call (is := [0]) rfl rfl (call_run Try.call9 rfl rfl (by kernel_rfl)) rfl (fun w hp => t_seglog_Open hr91 (⟨#[98]⟩ : ByteArray) (show (⟨#[98]⟩ : ByteArray).size ≤ lim by decide) 40 (show I64 40 by decide) hp hz93) ?_
          rintro Γ94 U96 v97 hl95 ⟨row98, g100, row101, A103, c104, row105, rfl, rfl, hr99, hr102, hr106, hr107, _⟩
          change WR _ _ _ (CC F Γ94 [row98, row101, row105, row69, [(g1, .cells #[.int .i64 fate0, .int .i64 fate1] 45 (0, 0))]]) _ _ (upd _ 59 (.tuple #[optp z92.2.1 g100, .slice A103 z92.2.2.1.length c104, .int .i64 z92.2.2.2]))
          refine va rfl rfl rfl (q_move (v := .tuple #[optp z92.2.1 g100, .slice A103 z92.2.2.1.length c104, .int .i64 z92.2.2.2]) rfl (by kernel_rfl)) ?_
          refine va rfl rfl rfl (q_extract (v := optp z92.2.1 g100) rfl rfl rfl) ?_
          refine va rfl rfl rfl (q_extract (v := .slice A103 z92.2.2.1.length c104) rfl rfl rfl) ?_
          refine va rfl rfl rfl (q_extract (v := .int .i64 z92.2.2.2) rfl rfl rfl) ?_
          refine va rfl rfl rfl (q_assign (v := optp z92.2.1 g100) rfl (by kernel_rfl)) ?_
          refine va rfl rfl rfl (q_assign (v := .slice A103 z92.2.2.1.length c104) rfl (by kernel_rfl)) ?_
          refine va rfl rfl rfl (q_assign (v := .int .i64 z92.2.2.2) rfl (by kernel_rfl)) ?_
          refine WR.nil ?_
          change WC _ _ _ _ _ _
          refine WC.rs ?_
          refine va rfl rfl rfl (q_move (v := .int .i64 z92.2.2.2) rfl (by kernel_rfl)) ?_
          refine va rfl rfl rfl (q_eql rfl rfl rfl) ?_
          refine va rfl rfl rfl (q_move (v := .bool (z92.2.2.2 == 0)) rfl (by kernel_rfl)) ?_
          refine vg1 rfl rfl rfl rfl rfl (fun hg108 => QV.qo (q_move (v := .slice A103 z92.2.2.1.length c104) rfl (by kernel_rfl))) ?_
          refine vg1 rfl rfl rfl rfl rfl (fun hg109 => QV.qo (q_move (v := .slice Alist list.length clist) rfl (by kernel_rfl))) ?_
          refine vg1 rfl rfl rfl rfl rfl (fun hg110 => QV.qo (q_move (v := .int .i64 n_38) rfl (by kernel_rfl))) ?_
          obtain ⟨hk112, h⟩ := chk_some h
          refine vg1 rfl rfl rfl rfl rfl (fun hg111 => QV.qo (q_cut_to (c := clist) (hi := n_38.toNat) (xs := list) Try.underlying22 Try.sizeOf31 rfl (gu hg111 rfl) (inle_eq (gu hg111 rfl) (imp_of hk112 hg111)) (inle_le (imp_of hk112 hg111)) hlistc)) ?_
          obtain ⟨z114, hz115, h⟩ := bnd h
          refine vg1 rfl rfl rfl rfl rfl (fun hg113 => (q_call (call_run Try.call16 rfl rfl (args2 (gu hg113 rfl) (gu hg113 rfl))) (fun w hw => t_firthlaw09_begins (Γ := Gh.all w) (hr106.sl hw.sat.le_all (hw.ra 2 rfl)) hr106.capz (((hlist.mono (((((hl8.trans hl17).trans hl37).trans hl66).trans hl87).trans hl95)).cut_to (hi := n_38.toNat) (inle_le (imp_of hk112 hg113))).mono hw.sat.le_all) (take_cap hlistc n_38.toNat) (Sat.all w) (gc_of hz115 hg113)))) ?_
          refine va rfl rfl rfl (q_pick rfl rfl (pk_and' (g := (z92.2.2.2 == 0)) (y := z114))) ?_
          refine va rfl rfl rfl (q_move (v := .bool ((z92.2.2.2 == 0) && z114)) rfl (by kernel_rfl)) ?_
          refine vg1 rfl rfl rfl rfl rfl (fun hg116 => QV.qo (q_move (v := .slice A103 z92.2.2.1.length c104) rfl (by kernel_rfl))) ?_
          refine vg1 rfl rfl rfl rfl rfl (fun hg117 => QV.qo (q_len_slice rfl Try.underlying22 (gu hg117 rfl))) ?_
          refine vg1 rfl rfl rfl rfl rfl (fun hg118 => QV.qo (q_move (v := .int .i64 kept_40) rfl (by kernel_rfl))) ?_
          refine vg1 rfl rfl rfl rfl rfl (fun hg119 => QV.qo (q_geq rfl (gu hg119 rfl) (gu hg119 rfl))) ?_
          refine va rfl rfl rfl (q_pick rfl rfl (pk_and' (g := ((z92.2.2.2 == 0) && z114)) (y := (decide (kept_40 ≤ ((z92.2.2.1.length : Nat) : Int)))))) ?_
          refine va rfl rfl rfl (q_move (v := .bool (((z92.2.2.2 == 0) && z114) && (decide (kept_40 ≤ ((z92.2.2.1.length : Nat) : Int))))) rfl (by kernel_rfl)) ?_
          refine vg1 rfl rfl rfl rfl rfl (fun hg120 => QV.qo (q_move (v := .pointer (some ⟨g11, 0, none⟩)) rfl (by kernel_rfl))) ?_
          obtain ⟨z122, hz123, h⟩ := bnd h
          refine vg1 rfl rfl rfl rfl rfl (fun hg121 => (q_call (call_run Try.call24 rfl rfl (args1 (gu hg121 rfl))) (fun w hw => t_disk_Disk_Loose (Γ := Gh.all w) (hr99.mono hw.sat.le_all) (hw.ra 0 rfl) (Sat.all w) (gc_of hz123 hg121)))) ?_
          refine vg1 rfl rfl rfl rfl rfl (fun hg124 => QV.qo (q_eql rfl (gu hg124 rfl) rfl)) ?_
          refine va rfl rfl rfl (q_pick rfl rfl (pk_and' (g := (((z92.2.2.2 == 0) && z114) && (decide (kept_40 ≤ ((z92.2.2.1.length : Nat) : Int))))) (y := (z122 == 0)))) ?_
          refine va rfl rfl rfl (q_assign (v := .bool ((((z92.2.2.2 == 0) && z114) && (decide (kept_40 ≤ ((z92.2.2.1.length : Nat) : Int)))) && (z122 == 0))) rfl (by kernel_rfl)) ?_
          refine WR.nil ?_
          change WC _ _ _ _ _ _
          refine WC.ret ?_
          intro w hw
          obtain rfl := Option.some.inj h
          subst hF
          exact ⟨by kernel_rfl, hw.fr⟩
      · skip
        have h := bf hb61 h
        refine WR.unsat (c0 := true) (g := (decide (n_38 < ((list.length : Nat) : Int)))) rfl rfl rfl hb61 rfl ?_
        refine WR.unsat (c0 := true) (g := (decide (n_38 < ((list.length : Nat) : Int)))) rfl rfl rfl hb61 rfl ?_
        refine va rfl rfl rfl (q_pick_f (v := .bool false) rfl rfl hb61 (by kernel_rfl)) ?_
        refine WR.nil ?_
        change WC _ _ _ _ _ _
        refine WC.cfk (b := false) (by kernel_rfl) rfl ?_
        refine WC.exit ?_
        change WC _ _ _ _ _ _
        refine WC.rs ?_
        refine va rfl rfl rfl (q_move (v := .pointer (some ⟨g11, 0, none⟩)) rfl (by kernel_rfl)) ?_
        refine va rfl rfl rfl (q_ixa_ (0) Try.underlying45 Try.sizeOf3 rfl rfl rfl rfl rfl) ?_
        refine va rfl rfl rfl (q_ldl (i := 2) (v := .int .i64 fate0) rfl rfl Try.isAgg3 rfl rfl) ?_
        refine va rfl rfl rfl (q_ixa_ (1) Try.underlying45 Try.sizeOf3 rfl rfl rfl rfl rfl) ?_
        refine va rfl rfl rfl (q_ldl (i := 2) (v := .int .i64 fate1) rfl rfl Try.isAgg3 rfl rfl) ?_
        obtain ⟨z125, hz126, h⟩ := bnd h
        refine e_call (is := [0]) rfl rfl (call_run Try.call23 rfl rfl (by kernel_rfl)) rfl (fun w hp => t_disk_Disk_Crash ho44 fate0 hfate0 fate1 hfate1 hp hz126) ?_
        rintro Γ127 U129 v130 hl128 ⟨row131, rfl, rfl, hr132, _⟩
        change WR _ _ _ (CC F Γ127 [row131, row46, [(g1, .cells #[.int .i64 fate0, .int .i64 fate1] 45 (0, 0))]]) _ _ (upd _ 56 (.tuple #[]))
        refine WR.nil ?_
        change WC _ _ _ _ _ _
        refine WC.rs ?_
        refine va rfl rfl rfl (q_move (v := .pointer (some ⟨g11, 0, none⟩)) rfl (by kernel_rfl)) ?_
        obtain ⟨z133, hz134, h⟩ := bnd h
        refine e_call (is := [0]) rfl rfl (call_run Try.call9 rfl rfl (by kernel_rfl)) rfl (fun w hp => t_seglog_Open hr132 (⟨#[98]⟩ : ByteArray) (show (⟨#[98]⟩ : ByteArray).size ≤ lim by decide) 40 (show I64 40 by decide) hp hz134) ?_
        rintro Γ135 U137 v138 hl136 ⟨row139, g141, row142, A144, c145, row146, rfl, rfl, hr140, hr143, hr147, hr148, _⟩
        change WR _ _ _ (CC F Γ135 [row139, row142, row146, row46, [(g1, .cells #[.int .i64 fate0, .int .i64 fate1] 45 (0, 0))]]) _ _ (upd _ 59 (.tuple #[optp z133.2.1 g141, .slice A144 z133.2.2.1.length c145, .int .i64 z133.2.2.2]))
        refine va rfl rfl rfl (q_move (v := .tuple #[optp z133.2.1 g141, .slice A144 z133.2.2.1.length c145, .int .i64 z133.2.2.2]) rfl (by kernel_rfl)) ?_
        refine va rfl rfl rfl (q_extract (v := optp z133.2.1 g141) rfl rfl rfl) ?_
        refine va rfl rfl rfl (q_extract (v := .slice A144 z133.2.2.1.length c145) rfl rfl rfl) ?_
        refine va rfl rfl rfl (q_extract (v := .int .i64 z133.2.2.2) rfl rfl rfl) ?_
        refine va rfl rfl rfl (q_assign (v := optp z133.2.1 g141) rfl (by kernel_rfl)) ?_
        refine va rfl rfl rfl (q_assign (v := .slice A144 z133.2.2.1.length c145) rfl (by kernel_rfl)) ?_
        refine va rfl rfl rfl (q_assign (v := .int .i64 z133.2.2.2) rfl (by kernel_rfl)) ?_
        refine WR.nil ?_
        change WC _ _ _ _ _ _
        refine WC.rs ?_
        refine va rfl rfl rfl (q_move (v := .int .i64 z133.2.2.2) rfl (by kernel_rfl)) ?_
        refine va rfl rfl rfl (q_eql rfl rfl rfl) ?_
        refine va rfl rfl rfl (q_move (v := .bool (z133.2.2.2 == 0)) rfl (by kernel_rfl)) ?_
        refine vg1 rfl rfl rfl rfl rfl (fun hg149 => QV.qo (q_move (v := .slice A144 z133.2.2.1.length c145) rfl (by kernel_rfl))) ?_
        refine vg1 rfl rfl rfl rfl rfl (fun hg150 => QV.qo (q_move (v := .slice Alist list.length clist) rfl (by kernel_rfl))) ?_
        refine vg1 rfl rfl rfl rfl rfl (fun hg151 => QV.qo (q_move (v := .int .i64 n_38) rfl (by kernel_rfl))) ?_
        obtain ⟨hk153, h⟩ := chk_some h
        refine vg1 rfl rfl rfl rfl rfl (fun hg152 => QV.qo (q_cut_to (c := clist) (hi := n_38.toNat) (xs := list) Try.underlying22 Try.sizeOf31 rfl (gu hg152 rfl) (inle_eq (gu hg152 rfl) (imp_of hk153 hg152)) (inle_le (imp_of hk153 hg152)) hlistc)) ?_
        obtain ⟨z155, hz156, h⟩ := bnd h
        refine vg1 rfl rfl rfl rfl rfl (fun hg154 => (q_call (call_run Try.call16 rfl rfl (args2 (gu hg154 rfl) (gu hg154 rfl))) (fun w hw => t_firthlaw09_begins (Γ := Gh.all w) (hr147.sl hw.sat.le_all (hw.ra 2 rfl)) hr147.capz (((hlist.mono ((((hl8.trans hl17).trans hl37).trans hl128).trans hl136)).cut_to (hi := n_38.toNat) (inle_le (imp_of hk153 hg154))).mono hw.sat.le_all) (take_cap hlistc n_38.toNat) (Sat.all w) (gc_of hz156 hg154)))) ?_
        refine va rfl rfl rfl (q_pick rfl rfl (pk_and' (g := (z133.2.2.2 == 0)) (y := z155))) ?_
        refine va rfl rfl rfl (q_move (v := .bool ((z133.2.2.2 == 0) && z155)) rfl (by kernel_rfl)) ?_
        refine vg1 rfl rfl rfl rfl rfl (fun hg157 => QV.qo (q_move (v := .slice A144 z133.2.2.1.length c145) rfl (by kernel_rfl))) ?_
        refine vg1 rfl rfl rfl rfl rfl (fun hg158 => QV.qo (q_len_slice rfl Try.underlying22 (gu hg158 rfl))) ?_
        refine vg1 rfl rfl rfl rfl rfl (fun hg159 => QV.qo (q_move (v := .int .i64 kept_40) rfl (by kernel_rfl))) ?_
        refine vg1 rfl rfl rfl rfl rfl (fun hg160 => QV.qo (q_geq rfl (gu hg160 rfl) (gu hg160 rfl))) ?_
        refine va rfl rfl rfl (q_pick rfl rfl (pk_and' (g := ((z133.2.2.2 == 0) && z155)) (y := (decide (kept_40 ≤ ((z133.2.2.1.length : Nat) : Int)))))) ?_
        refine va rfl rfl rfl (q_move (v := .bool (((z133.2.2.2 == 0) && z155) && (decide (kept_40 ≤ ((z133.2.2.1.length : Nat) : Int))))) rfl (by kernel_rfl)) ?_
        refine vg1 rfl rfl rfl rfl rfl (fun hg161 => QV.qo (q_move (v := .pointer (some ⟨g11, 0, none⟩)) rfl (by kernel_rfl))) ?_
        obtain ⟨z163, hz164, h⟩ := bnd h
        refine vg1 rfl rfl rfl rfl rfl (fun hg162 => (q_call (call_run Try.call24 rfl rfl (args1 (gu hg162 rfl))) (fun w hw => t_disk_Disk_Loose (Γ := Gh.all w) (hr140.mono hw.sat.le_all) (hw.ra 0 rfl) (Sat.all w) (gc_of hz164 hg162)))) ?_
        refine vg1 rfl rfl rfl rfl rfl (fun hg165 => QV.qo (q_eql rfl (gu hg165 rfl) rfl)) ?_
        refine va rfl rfl rfl (q_pick rfl rfl (pk_and' (g := (((z133.2.2.2 == 0) && z155) && (decide (kept_40 ≤ ((z133.2.2.1.length : Nat) : Int))))) (y := (z163 == 0)))) ?_
        refine va rfl rfl rfl (q_assign (v := .bool ((((z133.2.2.2 == 0) && z155) && (decide (kept_40 ≤ ((z133.2.2.1.length : Nat) : Int)))) && (z163 == 0))) rfl (by kernel_rfl)) ?_
        refine WR.nil ?_
        change WC _ _ _ _ _ _
        refine WC.ret ?_
        intro w hw
        obtain rfl := Option.some.inj h
        subst hF
        exact ⟨by kernel_rfl, hw.fr⟩
end Fw
end Go.Proofs.Ytogcoieekhbfdaa
