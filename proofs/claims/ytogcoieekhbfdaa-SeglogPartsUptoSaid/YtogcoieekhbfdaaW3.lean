/- Walks through the functions that the law reaches (printed by a program). No condition. -/
import Derived.Test.YtogcoieekhbfdaaW2
namespace Go.Proofs.Ytogcoieekhbfdaa
namespace Fw
set_option linter.unusedVariables false
set_option linter.unusedSimpArgs false
set_option linter.unusedSectionVars false
open Go.RowKit
set_option maxRecDepth 100000 in
set_option maxHeartbeats 400000 in
theorem t_firthlaw09_awake {Γ : Gh} {w0 : World}  (hs : Sat Γ w0) {r : Bool} (h : m_firthlaw09_awake = some r) : Calls Try.prog 7 #[] w0 (fun e w' => e = .returned (.bool r) ∧ Fr no w0 w') := by
  refine calls_of (N := 80) (rs := [0]) (args := []) Try.func7 rfl Try.ntmps7 Try.results7 rfl ?_
  obtain ⟨F, hF⟩ : ∃ F : Fm, F = ⟨no, w0, Γ⟩ := ⟨_, rfl⟩
  refine WC.here (C := CC F Γ []) ?_ (hF ▸ Cur.start0 hs)
  refine WC.rs ?_
  refine va rfl rfl rfl (q_assign (v := .bool false) rfl (by kernel_rfl)) ?_
  refine WR.nil ?_
  change WC _ _ _ _ _ _
  refine WC.rs ?_
  obtain ⟨z1, hz2, h⟩ := bnd h
  refine e_call (is := []) rfl rfl (call_run Try.call8 rfl rfl (by kernel_rfl)) rfl (fun w hp => t_disk_New 100 (show I64 100 by decide) hp hz2) ?_
  rintro Γ3 U5 v6 hl4 ⟨g7, row8, rfl, rfl, hr9, _⟩
  change WR _ _ _ (CC F Γ3 [row8]) _ _ (upd _ 7 (.pointer (some ⟨g7, 0, none⟩)))
  refine va rfl rfl rfl (q_assign (v := .pointer (some ⟨g7, 0, none⟩)) rfl (by kernel_rfl)) ?_
  refine WR.nil ?_
  change WC _ _ _ _ _ _
  refine WC.rs ?_
  refine va rfl rfl rfl (q_move (v := .pointer (some ⟨g7, 0, none⟩)) rfl (by kernel_rfl)) ?_
  obtain ⟨z10, hz11, h⟩ := bnd h
  refine e_call (is := [0]) rfl rfl (call_run Try.call9 rfl rfl (by kernel_rfl)) rfl (fun w hp => t_seglog_Open hr9 (⟨#[97]⟩ : ByteArray) (show (⟨#[97]⟩ : ByteArray).size ≤ lim by decide) 16 (show I64 16 by decide) hp hz11) ?_
  rintro Γ12 U14 v15 hl13 ⟨row16, g18, row19, A21, c22, row23, rfl, rfl, hr17, hr20, hr24, hr25, _⟩
  change WR _ _ _ (CC F Γ12 [row16, row19, row23]) _ _ (upd _ 10 (.tuple #[optp z10.2.1 g18, .slice A21 z10.2.2.1.length c22, .int .i64 z10.2.2.2]))
  refine va rfl rfl rfl (q_move (v := .tuple #[optp z10.2.1 g18, .slice A21 z10.2.2.1.length c22, .int .i64 z10.2.2.2]) rfl (by kernel_rfl)) ?_
  refine va rfl rfl rfl (q_extract (v := optp z10.2.1 g18) rfl rfl rfl) ?_
  refine va rfl rfl rfl (q_extract (v := .slice A21 z10.2.2.1.length c22) rfl rfl rfl) ?_
  refine va rfl rfl rfl (q_extract (v := .int .i64 z10.2.2.2) rfl rfl rfl) ?_
  refine va rfl rfl rfl (q_assign (v := optp z10.2.1 g18) rfl (by kernel_rfl)) ?_
  refine va rfl rfl rfl (q_assign (v := .slice A21 z10.2.2.1.length c22) rfl (by kernel_rfl)) ?_
  refine va rfl rfl rfl (q_assign (v := .int .i64 z10.2.2.2) rfl (by kernel_rfl)) ?_
  refine WR.nil ?_
  change WC _ _ _ _ _ _
  refine WC.seq ?_
  refine WC.rs ?_
  refine va rfl rfl rfl (q_move (v := optp z10.2.1 g18) rfl (by kernel_rfl)) ?_
  refine va rfl rfl rfl (q_opt_eql Try.underlying26 rfl rfl rfl) ?_
  refine va rfl rfl rfl (q_move (v := .bool (Option.isNone z10.2.1)) rfl (by kernel_rfl)) ?_
  refine vg0 rfl rfl rfl rfl rfl (fun hg26 => QV.qo (q_move (v := .int .i64 z10.2.2.2) rfl (by kernel_rfl))) ?_
  refine vg0 rfl rfl rfl rfl rfl (fun hg27 => QV.qo (q_neq rfl (gu hg27 rfl) rfl)) ?_
  refine va rfl rfl rfl (q_pick rfl rfl (pk_or' (g := (Option.isNone z10.2.1)) (y := (z10.2.2.2 != 0)))) ?_
  refine va rfl rfl rfl (q_move (v := .bool ((Option.isNone z10.2.1) || (z10.2.2.2 != 0))) rfl (by kernel_rfl)) ?_
  refine vg0 rfl rfl rfl rfl rfl (fun hg28 => QV.qo (q_move (v := .slice A21 z10.2.2.1.length c22) rfl (by kernel_rfl))) ?_
  refine vg0 rfl rfl rfl rfl rfl (fun hg29 => QV.qo (q_len_slice rfl Try.underlying22 (gu hg29 rfl))) ?_
  refine vg0 rfl rfl rfl rfl rfl (fun hg30 => QV.qo (q_neq rfl (gu hg30 rfl) rfl)) ?_
  refine va rfl rfl rfl (q_pick rfl rfl (pk_or' (g := ((Option.isNone z10.2.1) || (z10.2.2.2 != 0))) (y := (((z10.2.2.1.length : Nat) : Int) != 0)))) ?_
  refine va rfl rfl rfl (q_move (v := .bool (((Option.isNone z10.2.1) || (z10.2.2.2 != 0)) || (((z10.2.2.1.length : Nat) : Int) != 0))) rfl (by kernel_rfl)) ?_
  refine vg0 rfl rfl rfl rfl rfl (fun hg31 => QV.qo (q_move (v := optp z10.2.1 g18) rfl (by kernel_rfl))) ?_
  refine (Bool.eq_false_or_eq_true (!(((Option.isNone z10.2.1) || (z10.2.2.2 != 0)) || (((z10.2.2.1.length : Nat) : Int) != 0)))).elim (fun hb32 => ?_) (fun hb32 => ?_)
  · skip
    have h := bt hb32 h
    obtain ⟨z33, hz34, h⟩ := bnd h
    have ho35 := optob_some hr20 hz34
    refine WR.sat (c0 := true) (g := (((Option.isNone z10.2.1) || (z10.2.2.2 != 0)) || (((z10.2.2.1.length : Nat) : Int) != 0))) rfl rfl rfl hb32 ?_
    refine e_buildSlice (cs := #[.int .u8 120, .int .u8 121, .int .u8 122]) (e := 5) rfl rfl rfl rfl (fun w => by kernel_rfl) ?_
    intro g36
    refine WR.sat (c0 := true) (g := (((Option.isNone z10.2.1) || (z10.2.2.2 != 0)) || (((z10.2.2.1.length : Nat) : Int) != 0))) rfl rfl rfl hb32 ?_
    refine e_convlit (i := 0) (ys := ([120, 121, 122] : List UInt8)) Try.underlying31 Try.underlying5 rfl rfl rfl (by decide) rfl rfl rfl rfl rfl ?_
    intro Γ37 hl38 hs39
    change WR _ _ _ (CC F Γ37 [[], row16, row19, row23]) _ _ (upd _ 28 (.slice (some ⟨g36, 0, none⟩) ([120, 121, 122] : List UInt8).length 3))
    refine WR.sat (c0 := true) (g := (((Option.isNone z10.2.1) || (z10.2.2.2 != 0)) || (((z10.2.2.1.length : Nat) : Int) != 0))) rfl rfl rfl hb32 ?_
    obtain ⟨z40, hz41, h⟩ := bnd h
    refine e_call (is := [2, 1]) rfl rfl (call_run Try.call10 rfl rfl (args2 (optp_some (gu hb32 rfl) hz34) rfl)) rfl (fun w hp => t_seglog_Log_Append (ho35.mono hl38) hs39 (Nat.le_refl _) (hr17.mono hl38) hp hz41) ?_
    rintro Γ42 U44 v45 hl43 ⟨row46, row48, rfl, rfl, hr47, hr49, hr50, _⟩
    change WR _ _ _ (CC F Γ42 [row46, row48, [], row23]) _ _ (upd _ 29 (.int .i64 z40.2.2))
    refine WR.sat (c0 := true) (g := (((Option.isNone z10.2.1) || (z10.2.2.2 != 0)) || (((z10.2.2.1.length : Nat) : Int) != 0))) rfl rfl rfl hb32 ?_
    refine va rfl rfl rfl (q_neq rfl rfl rfl) ?_
    refine va rfl rfl rfl (q_pick_f (v := .bool (z40.2.2 != 0)) rfl rfl (not_t hb32) (by kernel_rfl)) ?_
    refine va rfl rfl rfl (q_move (v := .bool (z40.2.2 != 0)) rfl (by kernel_rfl)) ?_
    refine vg0 rfl rfl rfl rfl rfl (fun hg51 => QV.qo (q_move (v := .pointer (some ⟨g18, 0, none⟩)) rfl (optp_some rfl hz34))) ?_
    refine (Bool.eq_false_or_eq_true (!(z40.2.2 != 0))).elim (fun hb52 => ?_) (fun hb52 => ?_)
    · skip
      have h := bt hb52 h
      refine WR.sat (c0 := true) (g := (z40.2.2 != 0)) rfl rfl rfl hb52 ?_
      refine e_buildSlice (cs := #[.int .u8 49, .int .u8 50, .int .u8 51, .int .u8 52, .int .u8 53, .int .u8 54, .int .u8 55, .int .u8 56]) (e := 5) rfl rfl rfl rfl (fun w => by kernel_rfl) ?_
      intro g53
      refine WR.sat (c0 := true) (g := (z40.2.2 != 0)) rfl rfl rfl hb52 ?_
      refine e_convlit (i := 0) (ys := ([49, 50, 51, 52, 53, 54, 55, 56] : List UInt8)) Try.underlying31 Try.underlying5 rfl rfl rfl (by decide) rfl rfl rfl rfl rfl ?_
      intro Γ54 hl55 hs56
      change WR _ _ _ (CC F Γ54 [[], row46, row48, [], row23]) _ _ (upd _ 35 (.slice (some ⟨g53, 0, none⟩) ([49, 50, 51, 52, 53, 54, 55, 56] : List UInt8).length 8))
      refine WR.sat (c0 := true) (g := (z40.2.2 != 0)) rfl rfl rfl hb52 ?_
      obtain ⟨z57, hz58, h⟩ := bnd h
      refine e_call (is := [1, 1]) rfl rfl (call_run Try.call10 rfl rfl (args2 (gu hb52 rfl) rfl)) rfl (fun w hp => t_seglog_Log_Append (hr47.mono hl55) hs56 (Nat.le_refl _) (hr49.mono hl55) hp hz58) ?_
      rintro Γ59 U61 v62 hl60 ⟨row63, row65, rfl, rfl, hr64, hr66, hr67, _⟩
      change WR _ _ _ (CC F Γ59 [row63, row65, [], [], row23]) _ _ (upd _ 36 (.int .i64 z57.2.2))
      refine WR.sat (c0 := true) (g := (z40.2.2 != 0)) rfl rfl rfl hb52 ?_
      refine va rfl rfl rfl (q_neq rfl rfl rfl) ?_
      refine va rfl rfl rfl (q_pick_f (v := .bool (z57.2.2 != 0)) rfl rfl (not_t hb52) (by kernel_rfl)) ?_
      refine WR.nil ?_
      change WC _ _ _ _ _ _
      refine WC.cif h (by kernel_rfl) (fun hb68 h => ?_) (fun hb68 h => ?_)
      · skip
        refine WC.rs ?_
        refine va rfl rfl rfl (q_assign (v := .bool false) rfl (by kernel_rfl)) ?_
        refine WR.nil ?_
        change WC _ _ _ _ _ _
        refine WC.ret ?_
        intro w hw
        obtain rfl := Option.some.inj h
        subst hF
        exact ⟨by kernel_rfl, hw.fr⟩
      · skip
        refine WC.skip ?_
        change WC _ _ _ _ _ _
        refine WC.rs ?_
        refine va rfl rfl rfl (q_move (v := .pointer (some ⟨g18, 0, none⟩)) rfl (optp_some rfl hz34)) ?_
        obtain ⟨z69, hz70, h⟩ := bnd h
        refine vc rfl rfl rfl (q_call (call_run Try.call21 rfl rfl (by kernel_rfl)) (fun w hw => t_seglog_Log_Count (Γ := Gh.all w) (hr64.mono hw.sat.le_all) (hw.ra 0 rfl) (Sat.all w) hz70)) ?_
        refine va rfl rfl rfl (q_assign (v := .int .i64 z69) rfl (by kernel_rfl)) ?_
        refine WR.nil ?_
        change WC _ _ _ _ _ _
        refine WC.rs ?_
        refine va rfl rfl rfl (q_move (v := .pointer (some ⟨g18, 0, none⟩)) rfl (optp_some rfl hz34)) ?_
        refine e_buildSlice (cs := #[.int .u8 113]) (e := 5) rfl rfl rfl rfl (fun w => by kernel_rfl) ?_
        intro g71
        refine e_convlit (i := 0) (ys := ([113] : List UInt8)) Try.underlying31 Try.underlying5 rfl rfl rfl (by decide) rfl rfl rfl rfl rfl ?_
        intro Γ72 hl73 hs74
        change WR _ _ _ (CC F Γ72 [[], row63, row65, [], [], row23]) _ _ (upd _ 43 (.slice (some ⟨g71, 0, none⟩) ([113] : List UInt8).length 1))
        refine e_buildSlice (cs := #[.slice (some ⟨g71, 0, none⟩) ([113] : List UInt8).length 1]) (e := 31) rfl rfl rfl rfl (fun w => by kernel_rfl) ?_
        intro g75
        have ho76 : Own (slT byteT) Γ72 31 [(g75, .cells #[.slice (some ⟨g71, 0, none⟩) ([113] : List UInt8).length 1] 31 (0, 0))] (some ⟨g75, 0, none⟩) 1 [([113] : List UInt8)] := Own.of_blockL (T := (slT byteT)) (ys := [([113] : List UInt8)]) [[.slice (some ⟨g71, 0, none⟩) ([113] : List UInt8).length 1]] rfl (show 1 ≤ lim by decide) (show Ty.rd (slT byteT) Γ72 [.slice (some ⟨g71, 0, none⟩) ([113] : List UInt8).length 1] ([113] : List UInt8) ∧ True from ⟨⟨(some ⟨g71, 0, none⟩), 1, rfl, (Nat.le_refl _), hs74⟩, trivial⟩)
        have hc81 := ho76.capz
        intro w hw; obtain ⟨Γ77, hw, hl78, hr79⟩ := hw.seal (i := 0) rfl; have hs80 := ho76.sl hl78 hr79
        refine WR.here (C := CC F Γ77 [[], [], row63, row65, [], [], row23]) ?_ hw
        clear hw
        obtain ⟨z82, hz83, h⟩ := bnd h
        refine e_call (is := [2, 2]) rfl rfl (call_run Try.call17 rfl rfl (by kernel_rfl)) rfl (fun w hp => t_seglog_Log_Rewrite (hr64.mono (hl73.trans hl78)) hs80 hc81 (hr66.mono (hl73.trans hl78)) hp hz83) ?_
        rintro Γ84 U86 v87 hl85 ⟨row88, row90, rfl, rfl, hr89, hr91, hr92, _⟩
        change WR _ _ _ (CC F Γ84 [row88, row90, [], [], [], [], row23]) _ _ (upd _ 45 (.int .i64 z82.2.2))
        refine va rfl rfl rfl (q_assign (v := .int .i64 z82.2.2) rfl (by kernel_rfl)) ?_
        refine WR.nil ?_
        change WC _ _ _ _ _ _
        refine WC.rs ?_
        refine va rfl rfl rfl (q_move (v := .pointer (some ⟨g7, 0, none⟩)) rfl (by kernel_rfl)) ?_
        obtain ⟨z93, hz94, h⟩ := bnd h
        refine e_call (is := [1]) rfl rfl (call_run Try.call9 rfl rfl (by kernel_rfl)) rfl (fun w hp => t_seglog_Open hr91 (⟨#[97]⟩ : ByteArray) (show (⟨#[97]⟩ : ByteArray).size ≤ lim by decide) 16 (show I64 16 by decide) hp hz94) ?_
        rintro Γ95 U97 v98 hl96 ⟨row99, g101, row102, A104, c105, row106, rfl, rfl, hr100, hr103, hr107, hr108, _⟩
        change WR _ _ _ (CC F Γ95 [row99, row102, row106, row88, [], [], [], [], row23]) _ _ (upd _ 48 (.tuple #[optp z93.2.1 g101, .slice A104 z93.2.2.1.length c105, .int .i64 z93.2.2.2]))
        refine va rfl rfl rfl (q_move (v := .tuple #[optp z93.2.1 g101, .slice A104 z93.2.2.1.length c105, .int .i64 z93.2.2.2]) rfl (by kernel_rfl)) ?_
        refine va rfl rfl rfl (q_extract (v := optp z93.2.1 g101) rfl rfl rfl) ?_
        refine va rfl rfl rfl (q_extract (v := .slice A104 z93.2.2.1.length c105) rfl rfl rfl) ?_
        refine va rfl rfl rfl (q_extract (v := .int .i64 z93.2.2.2) rfl rfl rfl) ?_
        refine va rfl rfl rfl (q_assign (v := .slice A104 z93.2.2.1.length c105) rfl (by kernel_rfl)) ?_
        refine va rfl rfl rfl (q_assign (v := .int .i64 z93.2.2.2) rfl (by kernel_rfl)) ?_
        refine WR.nil ?_
        change WC _ _ _ _ _ _
        refine WC.rs ?_
        refine va rfl rfl rfl (q_move (v := .int .i64 z69) rfl (by kernel_rfl)) ?_
        refine va rfl rfl rfl (q_eql rfl rfl rfl) ?_
        refine va rfl rfl rfl (q_move (v := .bool (z69 == 2)) rfl (by kernel_rfl)) ?_
        refine vg1 rfl rfl rfl rfl rfl (fun hg109 => QV.qo (q_move (v := .int .i64 z82.2.2) rfl (by kernel_rfl))) ?_
        refine vg1 rfl rfl rfl rfl rfl (fun hg110 => QV.qo (q_eql rfl (gu hg110 rfl) rfl)) ?_
        refine va rfl rfl rfl (q_pick rfl rfl (pk_and' (g := (z69 == 2)) (y := (z82.2.2 == 0)))) ?_
        refine va rfl rfl rfl (q_move (v := .bool ((z69 == 2) && (z82.2.2 == 0))) rfl (by kernel_rfl)) ?_
        refine vg1 rfl rfl rfl rfl rfl (fun hg111 => QV.qo (q_move (v := .int .i64 z93.2.2.2) rfl (by kernel_rfl))) ?_
        refine vg1 rfl rfl rfl rfl rfl (fun hg112 => QV.qo (q_eql rfl (gu hg112 rfl) rfl)) ?_
        refine va rfl rfl rfl (q_pick rfl rfl (pk_and' (g := ((z69 == 2) && (z82.2.2 == 0))) (y := (z93.2.2.2 == 0)))) ?_
        refine va rfl rfl rfl (q_move (v := .bool (((z69 == 2) && (z82.2.2 == 0)) && (z93.2.2.2 == 0))) rfl (by kernel_rfl)) ?_
        refine vg1 rfl rfl rfl rfl rfl (fun hg113 => QV.qo (q_move (v := .slice A104 z93.2.2.1.length c105) rfl (by kernel_rfl))) ?_
        refine vg1 rfl rfl rfl rfl rfl (fun hg114 => QV.qo (q_len_slice rfl Try.underlying22 (gu hg114 rfl))) ?_
        refine vg1 rfl rfl rfl rfl rfl (fun hg115 => QV.qo (q_eql rfl (gu hg115 rfl) rfl)) ?_
        refine va rfl rfl rfl (q_pick rfl rfl (pk_and' (g := (((z69 == 2) && (z82.2.2 == 0)) && (z93.2.2.2 == 0))) (y := (((z93.2.2.1.length : Nat) : Int) == 1)))) ?_
        refine va rfl rfl rfl (q_move (v := .bool ((((z69 == 2) && (z82.2.2 == 0)) && (z93.2.2.2 == 0)) && (((z93.2.2.1.length : Nat) : Int) == 1))) rfl (by kernel_rfl)) ?_
        refine vg1 rfl rfl rfl rfl rfl (fun hg116 => QV.qo (q_move (v := .slice A104 z93.2.2.1.length c105) rfl (by kernel_rfl))) ?_
        obtain ⟨hk118, h⟩ := chk_some h
        refine vg1 rfl rfl rfl rfl rfl (fun hg117 => QV.qo (q_ixn (i := 0) Try.underlying22 Try.sizeOf31 rfl (gu hg117 rfl) rfl (of_decide_eq_true (imp_of hk118 hg117)) (hr107.some_ (of_decide_eq_true (imp_of hk118 hg117))))) ?_
        obtain ⟨A120, c121, hx122⟩ := hr107.slT_at 0
        refine vg1 rfl rfl rfl rfl rfl (fun hg119 => QV.qo (q_ldo (c := 0) (v := .slice A120 (gt z93.2.2.1 0).length c121) (i := 2) rfl (hx122 (of_decide_eq_true (imp_of hk118 hg119))).2 rfl Try.isAgg31 (gu hg119 rfl) rfl)) ?_
        refine vg1 rfl rfl rfl rfl rfl (fun hg123 => QV.qo (q_bstr (hx122 (of_decide_eq_true (imp_of hk118 hg123))).1.2 Try.underlying31 Try.underlying5 Try.underlying9 rfl (gu hg123 rfl))) ?_
        refine vg1 rfl rfl rfl rfl rfl (fun hg124 => QV.qo (q_seql rfl (gu hg124 rfl) rfl)) ?_
        refine va rfl rfl rfl (q_pick rfl rfl (pk_and' (g := ((((z69 == 2) && (z82.2.2 == 0)) && (z93.2.2.2 == 0)) && (((z93.2.2.1.length : Nat) : Int) == 1))) (y := ((⟨(gt z93.2.2.1 0).toArray⟩ : ByteArray) == (⟨#[113]⟩ : ByteArray))))) ?_
        refine va rfl rfl rfl (q_move (v := .bool (((((z69 == 2) && (z82.2.2 == 0)) && (z93.2.2.2 == 0)) && (((z93.2.2.1.length : Nat) : Int) == 1)) && ((⟨(gt z93.2.2.1 0).toArray⟩ : ByteArray) == (⟨#[113]⟩ : ByteArray)))) rfl (by kernel_rfl)) ?_
        refine vg1 rfl rfl rfl rfl rfl (fun hg125 => QV.qo (q_move (v := .pointer (some ⟨g7, 0, none⟩)) rfl (by kernel_rfl))) ?_
        refine (Bool.eq_false_or_eq_true (((((z69 == 2) && (z82.2.2 == 0)) && (z93.2.2.2 == 0)) && (((z93.2.2.1.length : Nat) : Int) == 1)) && ((⟨(gt z93.2.2.1 0).toArray⟩ : ByteArray) == (⟨#[113]⟩ : ByteArray)))).elim (fun hb126 => ?_) (fun hb126 => ?_)
        · skip
          have h := bt hb126 h
          refine WR.sat (c0 := true) (g := (((((z69 == 2) && (z82.2.2 == 0)) && (z93.2.2.2 == 0)) && (((z93.2.2.1.length : Nat) : Int) == 1)) && ((⟨(gt z93.2.2.1 0).toArray⟩ : ByteArray) == (⟨#[113]⟩ : ByteArray)))) rfl rfl rfl hb126 ?_
          obtain ⟨z127, hz128, h⟩ := bnd h
          refine e_call (is := [0]) rfl rfl (call_run Try.call11 rfl rfl (args1 (gu hb126 rfl))) rfl (fun w hp => t_disk_Disk_Names hr100 hp hz128) ?_
          rintro Γ129 U131 v132 hl130 ⟨A133, c134, row135, rfl, rfl, hr136, _⟩
          change WR _ _ _ (CC F Γ129 [row99, row135, row102, row106, row88, [], [], [], [], row23]) _ _ (upd _ 76 (.slice A133 z127.length c134))
          refine WR.sat (c0 := true) (g := (((((z69 == 2) && (z82.2.2 == 0)) && (z93.2.2.2 == 0)) && (((z93.2.2.1.length : Nat) : Int) == 1)) && ((⟨(gt z93.2.2.1 0).toArray⟩ : ByteArray) == (⟨#[113]⟩ : ByteArray)))) rfl rfl rfl hb126 ?_
          refine va rfl rfl rfl (q_len_slice rfl Try.underlying32 rfl) ?_
          refine WR.sat (c0 := true) (g := (((((z69 == 2) && (z82.2.2 == 0)) && (z93.2.2.2 == 0)) && (((z93.2.2.1.length : Nat) : Int) == 1)) && ((⟨(gt z93.2.2.1 0).toArray⟩ : ByteArray) == (⟨#[113]⟩ : ByteArray)))) rfl rfl rfl hb126 ?_
          refine va rfl rfl rfl (q_eql rfl rfl rfl) ?_
          refine va rfl rfl rfl (q_pick_t (v := .bool (((z127.length : Nat) : Int) == 2)) rfl rfl hb126 (by kernel_rfl)) ?_
          refine va rfl rfl rfl (q_assign (v := .bool (((z127.length : Nat) : Int) == 2)) rfl (by kernel_rfl)) ?_
          refine WR.nil ?_
          change WC _ _ _ _ _ _
          refine WC.ret ?_
          intro w hw
          obtain rfl := Option.some.inj h
          subst hF
          exact ⟨by kernel_rfl, hw.fr⟩
        · skip
          have h := bf hb126 h
          refine WR.unsat (c0 := true) (g := (((((z69 == 2) && (z82.2.2 == 0)) && (z93.2.2.2 == 0)) && (((z93.2.2.1.length : Nat) : Int) == 1)) && ((⟨(gt z93.2.2.1 0).toArray⟩ : ByteArray) == (⟨#[113]⟩ : ByteArray)))) rfl rfl rfl hb126 rfl ?_
          refine WR.unsat (c0 := true) (g := (((((z69 == 2) && (z82.2.2 == 0)) && (z93.2.2.2 == 0)) && (((z93.2.2.1.length : Nat) : Int) == 1)) && ((⟨(gt z93.2.2.1 0).toArray⟩ : ByteArray) == (⟨#[113]⟩ : ByteArray)))) rfl rfl rfl hb126 rfl ?_
          refine WR.unsat (c0 := true) (g := (((((z69 == 2) && (z82.2.2 == 0)) && (z93.2.2.2 == 0)) && (((z93.2.2.1.length : Nat) : Int) == 1)) && ((⟨(gt z93.2.2.1 0).toArray⟩ : ByteArray) == (⟨#[113]⟩ : ByteArray)))) rfl rfl rfl hb126 rfl ?_
          refine va rfl rfl rfl (q_pick_f (v := .bool false) rfl rfl hb126 (by kernel_rfl)) ?_
          refine va rfl rfl rfl (q_assign (v := .bool false) rfl (by kernel_rfl)) ?_
          refine WR.nil ?_
          change WC _ _ _ _ _ _
          refine WC.ret ?_
          intro w hw
          obtain rfl := Option.some.inj h
          subst hF
          exact ⟨by kernel_rfl, hw.fr⟩
    · skip
      have h := bf hb52 h
      refine WR.unsat (c0 := true) (g := (z40.2.2 != 0)) rfl rfl rfl hb52 rfl ?_
      refine WR.unsat (c0 := true) (g := (z40.2.2 != 0)) rfl rfl rfl hb52 rfl ?_
      refine WR.unsat (c0 := true) (g := (z40.2.2 != 0)) rfl rfl rfl hb52 rfl ?_
      refine WR.unsat (c0 := true) (g := (z40.2.2 != 0)) rfl rfl rfl hb52 rfl ?_
      refine va rfl rfl rfl (q_pick_t (v := .bool true) rfl rfl (not_f hb52) (by kernel_rfl)) ?_
      refine WR.nil ?_
      change WC _ _ _ _ _ _
      refine WC.ctk (b := true) (by kernel_rfl) rfl ?_
      refine WC.rs ?_
      refine va rfl rfl rfl (q_assign (v := .bool false) rfl (by kernel_rfl)) ?_
      refine WR.nil ?_
      change WC _ _ _ _ _ _
      refine WC.ret ?_
      intro w hw
      obtain rfl := Option.some.inj h
      subst hF
      exact ⟨by kernel_rfl, hw.fr⟩
  · skip
    have h := bf hb32 h
    refine WR.unsat (c0 := true) (g := (((Option.isNone z10.2.1) || (z10.2.2.2 != 0)) || (((z10.2.2.1.length : Nat) : Int) != 0))) rfl rfl rfl hb32 rfl ?_
    refine WR.unsat (c0 := true) (g := (((Option.isNone z10.2.1) || (z10.2.2.2 != 0)) || (((z10.2.2.1.length : Nat) : Int) != 0))) rfl rfl rfl hb32 rfl ?_
    refine WR.unsat (c0 := true) (g := (((Option.isNone z10.2.1) || (z10.2.2.2 != 0)) || (((z10.2.2.1.length : Nat) : Int) != 0))) rfl rfl rfl hb32 rfl ?_
    refine WR.unsat (c0 := true) (g := (((Option.isNone z10.2.1) || (z10.2.2.2 != 0)) || (((z10.2.2.1.length : Nat) : Int) != 0))) rfl rfl rfl hb32 rfl ?_
    refine va rfl rfl rfl (q_pick_t (v := .bool true) rfl rfl (not_f hb32) (by kernel_rfl)) ?_
    refine va rfl rfl rfl (q_move (v := .bool true) rfl (by kernel_rfl)) ?_
    refine WR.unsat (c0 := true) (g := true) rfl rfl rfl (nott rfl) rfl ?_
    refine WR.unsat (c0 := true) (g := true) rfl rfl rfl (nott rfl) rfl ?_
    refine WR.unsat (c0 := true) (g := true) rfl rfl rfl (nott rfl) rfl ?_
    refine WR.unsat (c0 := true) (g := true) rfl rfl rfl (nott rfl) rfl ?_
    refine WR.unsat (c0 := true) (g := true) rfl rfl rfl (nott rfl) rfl ?_
    refine va rfl rfl rfl (q_pickt (v := .bool true) rfl rfl rfl) ?_
    refine WR.nil ?_
    change WC _ _ _ _ _ _
    refine WC.ctk (b := true) (by kernel_rfl) rfl ?_
    refine WC.rs ?_
    refine va rfl rfl rfl (q_assign (v := .bool false) rfl (by kernel_rfl)) ?_
    refine WR.nil ?_
    change WC _ _ _ _ _ _
    refine WC.ret ?_
    intro w hw
    obtain rfl := Option.some.inj h
    subst hF
    exact ⟨by kernel_rfl, hw.fr⟩
set_option maxRecDepth 100000 in
set_option maxHeartbeats 400000 in
theorem t_seglog_Log_Bytes {Γ : Gh} {w0 : World} {gl : Nat} {el : Nat × Nat} {rowl : Rowb} {l : Oseglog_Log} (hl : Oseglog_Log.ob el Γ gl rowl l) (hlr : ∀ p ∈ rowl, Γ p.1 = some p.2) (hs : Sat Γ w0) {r : Int} (h : m_seglog_Log_Bytes l = some r) : Calls Try.prog 20 #[.pointer (some ⟨gl, 0, none⟩)] w0 (fun e w' => e = .returned (.int .i64 r) ∧ Fr no w0 w') := by
  refine calls_of (N := 7) (rs := [2]) (args := [.pointer (some ⟨gl, 0, none⟩)]) Try.func20 rfl Try.ntmps20 Try.results20 rfl ?_
  obtain ⟨F, hF⟩ : ∃ F : Fm, F = ⟨no, w0, Γ⟩ := ⟨_, rfl⟩
  refine WC.here (C := CC F Γ []) ?_ (hF ▸ Cur.start0 hs)
  refine WC.rs ?_
  refine va rfl rfl rfl (q_assign (v := .int .i64 0) rfl (by kernel_rfl)) ?_
  refine WR.nil ?_
  change WC _ _ _ _ _ _
  refine WC.rs ?_
  refine va rfl rfl rfl (q_move (v := .pointer (some ⟨gl, 0, none⟩)) rfl (by kernel_rfl)) ?_
  refine va rfl rfl rfl (q_nil (A := some ⟨gl, 0, none⟩) rfl rfl rfl) ?_
  refine va rfl rfl rfl (q_fl 7 fld_63_5 rfl rfl rfl) ?_
  have hq := hl
  obtain ⟨hrow_1, ho0_1, ho1_1, ho2_1, ho3_1, ho4_1, ho5_1, ho6_1, -⟩ := hq
  have hg_2 : ∀ u ∈ ([[(gl, .cells #[.pointer (some ⟨el.2, 0, none⟩), .string l.place_name, .int .i64 l.place_gen, .int .i64 l.size, .int .i64 l.last, .int .i64 l.tail, .int .i64 l.count, .int .i64 l.bytes] el.1 (0, 0))]] : List Rowb), ∀ p ∈ u, Γ p.1 = some p.2 := fun u hu p hp => (fun p hp => (hlr p hp)) p (hrow_1 ▸ List.mem_flatten.2 ⟨u, hu, hp⟩)
  have hgc3 := hg_2 _ (List.mem_cons_self ..) (gl, _) (List.mem_singleton.2 rfl)
  refine va rfl rfl rfl (q_ldg (v := .int .i64 l.bytes) hgc3 rfl Try.isAgg3 rfl rfl) ?_
  refine va rfl rfl rfl (q_assign (v := .int .i64 l.bytes) rfl (by kernel_rfl)) ?_
  refine WR.nil ?_
  change WC _ _ _ _ _ _
  refine WC.ret ?_
  intro w hw
  obtain rfl := Option.some.inj h
  subst hF
  exact ⟨by kernel_rfl, hw.fr⟩
set_option maxRecDepth 100000 in
set_option maxHeartbeats 400000 in
theorem t_firthlaw09_SeglogParts {Γ : Gh} {w0 : World} {Alist : Option Addr} {clist : Nat} {list : List (List UInt8)} (hlist : Sl (slT byteT) Γ Alist list) (hlistc : list.length ≤ clist) (size : Int) (hsize : U8 size) (hs : Sat Γ w0) {r : Bool} (h : m_firthlaw09_SeglogParts list size = some r) : Calls Try.prog 5 #[.slice Alist list.length clist, .int .u8 size] w0 (fun e w' => e = .returned (.bool r) ∧ Fr no w0 w') := by
  refine calls_of (N := 114) (rs := [4]) (args := [.slice Alist list.length clist, .int .u8 size]) Try.func5 rfl Try.ntmps5 Try.results5 rfl ?_
  obtain ⟨F, hF⟩ : ∃ F : Fm, F = ⟨no, w0, Γ⟩ := ⟨_, rfl⟩
  refine WC.here (C := CC F Γ []) ?_ (hF ▸ Cur.start0 hs)
  refine WC.rs ?_
  refine va rfl rfl rfl (q_assign (v := .bool false) rfl (by kernel_rfl)) ?_
  refine WR.nil ?_
  change WC _ _ _ _ _ _
  refine WC.seq ?_
  refine WC.rs ?_
  obtain ⟨z1, hz2, h⟩ := bnd h
  refine vc rfl rfl rfl (q_call (call_run Try.call7 rfl rfl (by kernel_rfl)) (fun w hw => t_firthlaw09_awake (Γ := Gh.all w)  (Sat.all w) hz2)) ?_
  refine va rfl rfl rfl (q_not rfl rfl) ?_
  refine WR.nil ?_
  change WC _ _ _ _ _ _
  refine WC.cif h (by kernel_rfl) (fun hb3 h => ?_) (fun hb3 h => ?_)
  · skip
    refine WC.rs ?_
    refine va rfl rfl rfl (q_assign (v := .bool false) rfl (by kernel_rfl)) ?_
    refine WR.nil ?_
    change WC _ _ _ _ _ _
    refine WC.ret ?_
    intro w hw
    obtain rfl := Option.some.inj h
    subst hF
    exact ⟨by kernel_rfl, hw.fr⟩
  · skip
    refine WC.skip ?_
    change WC _ _ _ _ _ _
    refine WC.rs ?_
    obtain ⟨z4, hz5, h⟩ := bnd h
    refine e_call (is := []) rfl rfl (call_run Try.call8 rfl rfl (by kernel_rfl)) rfl (fun w hp => t_disk_New 1048576 (show I64 1048576 by decide) hp hz5) ?_
    rintro Γ6 U8 v9 hl7 ⟨g10, row11, rfl, rfl, hr12, _⟩
    change WR _ _ _ (CC F Γ6 [row11]) _ _ (upd _ 17 (.pointer (some ⟨g10, 0, none⟩)))
    refine va rfl rfl rfl (q_assign (v := .pointer (some ⟨g10, 0, none⟩)) rfl (by kernel_rfl)) ?_
    refine WR.nil ?_
    change WC _ _ _ _ _ _
    refine WC.rs ?_
    refine va rfl rfl rfl (q_move (v := .pointer (some ⟨g10, 0, none⟩)) rfl (by kernel_rfl)) ?_
    refine va rfl rfl rfl (q_move (v := .int .u8 size) rfl (by kernel_rfl)) ?_
    refine va rfl rfl rfl (q_conv Try.underlying3 Try.underlying5 rfl rfl) ?_
    obtain ⟨z13, hz14, h⟩ := bnd h
    refine e_call (is := [0]) rfl rfl (call_run Try.call9 rfl rfl (by kernel_rfl)) rfl (fun w hp => t_seglog_Open hr12 (⟨#[122]⟩ : ByteArray) (show (⟨#[122]⟩ : ByteArray).size ≤ lim by decide) (w64 size) (w64_r _) hp hz14) ?_
    rintro Γ15 U17 v18 hl16 ⟨row19, g21, row22, A24, c25, row26, rfl, rfl, hr20, hr23, hr27, hr28, _⟩
    change WR _ _ _ (CC F Γ15 [row19, row22, row26]) _ _ (upd _ 22 (.tuple #[optp z13.2.1 g21, .slice A24 z13.2.2.1.length c25, .int .i64 z13.2.2.2]))
    refine va rfl rfl rfl (q_move (v := .tuple #[optp z13.2.1 g21, .slice A24 z13.2.2.1.length c25, .int .i64 z13.2.2.2]) rfl (by kernel_rfl)) ?_
    refine va rfl rfl rfl (q_extract (v := optp z13.2.1 g21) rfl rfl rfl) ?_
    refine va rfl rfl rfl (q_extract (v := .slice A24 z13.2.2.1.length c25) rfl rfl rfl) ?_
    refine va rfl rfl rfl (q_extract (v := .int .i64 z13.2.2.2) rfl rfl rfl) ?_
    refine va rfl rfl rfl (q_assign (v := optp z13.2.1 g21) rfl (by kernel_rfl)) ?_
    refine va rfl rfl rfl (q_assign (v := .slice A24 z13.2.2.1.length c25) rfl (by kernel_rfl)) ?_
    refine va rfl rfl rfl (q_assign (v := .int .i64 z13.2.2.2) rfl (by kernel_rfl)) ?_
    refine WR.nil ?_
    change WC _ _ _ _ _ _
    refine WC.seq ?_
    refine WC.rs ?_
    refine va rfl rfl rfl (q_move (v := optp z13.2.1 g21) rfl (by kernel_rfl)) ?_
    refine va rfl rfl rfl (q_opt_eql Try.underlying26 rfl rfl rfl) ?_
    refine va rfl rfl rfl (q_move (v := .bool (Option.isNone z13.2.1)) rfl (by kernel_rfl)) ?_
    refine vg0 rfl rfl rfl rfl rfl (fun hg29 => QV.qo (q_move (v := .int .i64 z13.2.2.2) rfl (by kernel_rfl))) ?_
    refine vg0 rfl rfl rfl rfl rfl (fun hg30 => QV.qo (q_neq rfl (gu hg30 rfl) rfl)) ?_
    refine va rfl rfl rfl (q_pick rfl rfl (pk_or' (g := (Option.isNone z13.2.1)) (y := (z13.2.2.2 != 0)))) ?_
    refine WR.nil ?_
    change WC _ _ _ _ _ _
    refine WC.cif h (by kernel_rfl) (fun hb31 h => ?_) (fun hb31 h => ?_)
    · skip
      refine WC.rs ?_
      refine va rfl rfl rfl (q_assign (v := .bool false) rfl (by kernel_rfl)) ?_
      refine WR.nil ?_
      change WC _ _ _ _ _ _
      refine WC.ret ?_
      intro w hw
      obtain rfl := Option.some.inj h
      subst hF
      exact ⟨by kernel_rfl, hw.fr⟩
    · skip
      obtain ⟨z32, hz33, h⟩ := bnd h
      have ho34 := optob_some hr23 hz33
      refine WC.skip ?_
      change WC _ _ _ _ _ _
      refine WC.rs ?_
      refine va rfl rfl rfl (q_move (v := .int .u8 size) rfl (by kernel_rfl)) ?_
      refine va rfl rfl rfl (q_conv Try.underlying3 Try.underlying5 rfl rfl) ?_
      refine va rfl rfl rfl (q_max rfl rfl rfl) ?_
      refine va rfl rfl rfl (q_assign (v := .int .i64 (max (w64 size) 16)) rfl (by kernel_rfl)) ?_
      refine WR.nil ?_
      change WC _ _ _ _ _ _
      refine WC.rs ?_
      refine va rfl rfl rfl (q_assign (v := .int .i64 0) rfl (by kernel_rfl)) ?_
      refine WR.nil ?_
      change WC _ _ _ _ _ _
      refine WC.rs ?_
      refine va rfl rfl rfl (q_assign (v := .int .i64 0) rfl (by kernel_rfl)) ?_
      refine WR.nil ?_
      change WC _ _ _ _ _ _
      refine WC.rs ?_
      refine va rfl rfl rfl (q_assign (v := .int .i64 0) rfl (by kernel_rfl)) ?_
      refine WR.nil ?_
      change WC _ _ _ _ _ _
      refine WC.seq ?_
      refine WC.rs ?_
      refine va rfl rfl rfl (q_assign (v := .int .i64 0) rfl (by kernel_rfl)) ?_
      refine WR.nil ?_
      change WC _ _ _ _ _ _
      refine WC.block ?_
      refine WC.forI h (fun (i50 : Nat) (s : Int × Int × Int × Odisk_Disk × Oseglog_Log) σ w => match s with | (parts_37, tail_39, sum_41, o43, o46) => ∃ (Γ35 : Gh), ∃ (row44 : Rowb), ∃ (row47 : Rowb), slots σ [(0, .slice Alist list.length clist), (5, .pointer (some ⟨g10, 0, none⟩)), (6, optp z13.2.1 g21), (9, .int .i64 (max (w64 size) 16)), (10, .int .i64 parts_37), (11, .int .i64 tail_39), (12, .int .i64 sum_41), (13, .int .i64 ((i50 : Nat) : Int))] ∧ CC F Γ35 [row44, row47] w ∧ Gh.le Γ15 Γ35 ∧ I64 parts_37 ∧ I64 tail_39 ∧ I64 sum_41 ∧ Odisk_Disk.ob 52 Γ35 g10 row44 o43 ∧ Oseglog_Log.ob (63, g10) Γ35 g21 row47 o46 ∧ True) ?_ ?_
      · skip
        intro w hw
        exact ⟨Γ15, row19, row22, (sl_ (by kernel_rfl)), (hw.only (is := [0, 0]) rfl), (Gh.refl _), (show I64 0 by decide), (show I64 0 by decide), (show I64 0 by decide), hr20, ho34, trivial⟩
      rintro f49 i50 ⟨parts_37, tail_39, sum_41, o43, o46⟩ σ w hi51 hlt52 hge53 ⟨Γ35, row44, row47, hsl, hw, hl36, hr38, hr40, hr42, ho45, ho48, -⟩
      refine Wpt.slots hsl ?_
      refine WC.here (C := CC F Γ35 [row44, row47]) ?_ hw
      clear hw hsl
      refine WC.seq ?_
      refine WC.rs ?_
      refine va rfl rfl rfl (q_move (v := .int .i64 ((i50 : Nat) : Int)) rfl (by kernel_rfl)) ?_
      refine va rfl rfl rfl (q_move (v := .slice Alist list.length clist) rfl (by kernel_rfl)) ?_
      refine va rfl rfl rfl (q_len_slice rfl Try.underlying22 rfl) ?_
      refine va rfl rfl rfl (q_lss rfl rfl rfl) ?_
      refine WR.nil ?_
      change WC _ _ _ _ _ _
      refine WC.cond (b := (decide (((i50 : Nat) : Int) < ((list.length : Nat) : Int)))) (by kernel_rfl) (fun hb54 => ?_) (fun hb54 => ?_)
      · skip
        have hl55 := ilt hb54
        have h := hlt52 hl55
        refine WC.skip ?_
        change WC _ _ _ _ _ _
        refine WC.seq ?_
        refine WC.block ?_
        refine WC.rs ?_
        refine va rfl rfl rfl (q_move (v := .slice Alist list.length clist) rfl (by kernel_rfl)) ?_
        refine va rfl rfl rfl (q_move (v := .int .i64 ((i50 : Nat) : Int)) rfl (by kernel_rfl)) ?_
        refine va rfl rfl rfl (q_ixn (i := i50) Try.underlying22 Try.sizeOf31 rfl rfl rfl hl55 ((hlist.mono ((hl7.trans hl16).trans hl36)).some_ hl55)) ?_
        obtain ⟨A56, c57, hx58⟩ := (hlist.mono ((hl7.trans hl16).trans hl36)).slT_at i50
        refine va rfl rfl rfl (q_ld (c := 0) (v := .slice A56 (gt list i50).length c57) (hx58 hl55).2 rfl Try.isAgg31 rfl rfl) ?_
        refine va rfl rfl rfl (q_len_slice rfl Try.underlying31 rfl) ?_
        refine va rfl rfl rfl (q_add rfl rfl rfl) ?_
        refine va rfl rfl rfl (q_assign (v := .int .i64 (w64 ((((gt list i50).length : Nat) : Int) + 5))) rfl (by kernel_rfl)) ?_
        refine WR.nil ?_
        change WC _ _ _ _ _ _
        refine WC.seq ?_
        refine WC.rs ?_
        refine va rfl rfl rfl (q_move (v := .slice Alist list.length clist) rfl (by kernel_rfl)) ?_
        refine va rfl rfl rfl (q_move (v := .int .i64 ((i50 : Nat) : Int)) rfl (by kernel_rfl)) ?_
        refine va rfl rfl rfl (q_ixn (i := i50) Try.underlying22 Try.sizeOf31 rfl rfl rfl hl55 ((hlist.mono ((hl7.trans hl16).trans hl36)).some_ hl55)) ?_
        refine va rfl rfl rfl (q_ld (c := 0) (v := .slice A56 (gt list i50).length c57) (hx58 hl55).2 rfl Try.isAgg31 rfl rfl) ?_
        refine va rfl rfl rfl (q_len_slice rfl Try.underlying31 rfl) ?_
        refine va rfl rfl rfl (q_gtr rfl rfl rfl) ?_
        refine va rfl rfl rfl (q_move (v := .bool (decide (127 < (((gt list i50).length : Nat) : Int)))) rfl (by kernel_rfl)) ?_
        refine vg0 rfl rfl rfl rfl rfl (fun hg59 => QV.qo (q_move (v := .pointer (some ⟨g21, 0, none⟩)) rfl (optp_some rfl hz33))) ?_
        refine vg0 rfl rfl rfl rfl rfl (fun hg60 => QV.qo (q_move (v := .slice Alist list.length clist) rfl (by kernel_rfl))) ?_
        refine vg0 rfl rfl rfl rfl rfl (fun hg61 => QV.qo (q_move (v := .int .i64 ((i50 : Nat) : Int)) rfl (by kernel_rfl))) ?_
        refine vg0 rfl rfl rfl rfl rfl (fun hg62 => QV.qo (q_ixn (i := i50) Try.underlying22 Try.sizeOf31 rfl (gu hg62 rfl) (gu hg62 rfl) hl55 ((hlist.mono ((hl7.trans hl16).trans hl36)).some_ hl55))) ?_
        refine vg0 rfl rfl rfl rfl rfl (fun hg63 => QV.qo (q_ld (c := 0) (v := .slice A56 (gt list i50).length c57) (hx58 hl55).2 rfl Try.isAgg31 (gu hg63 rfl) rfl)) ?_
        refine (Bool.eq_false_or_eq_true (!(decide (127 < (((gt list i50).length : Nat) : Int))))).elim (fun hb64 => ?_) (fun hb64 => ?_)
        · skip
          have h := bt hb64 h
          refine WR.sat (c0 := true) (g := (decide (127 < (((gt list i50).length : Nat) : Int)))) rfl rfl rfl hb64 ?_
          obtain ⟨z65, hz66, h⟩ := bnd h
          refine e_call (is := [1, 0]) rfl rfl (call_run Try.call10 rfl rfl (args2 (gu hb64 rfl) (gu hb64 rfl))) rfl (fun w hp => t_seglog_Log_Append ho48 (hx58 hl55).1.2 (hx58 hl55).1.1 ho45 hp hz66) ?_
          rintro Γ67 U69 v70 hl68 ⟨row71, row73, rfl, rfl, hr72, hr74, hr75, _⟩
          change WR _ _ _ (CC F Γ67 [row71, row73]) _ _ (upd _ 59 (.int .i64 z65.2.2))
          refine WR.sat (c0 := true) (g := (decide (127 < (((gt list i50).length : Nat) : Int)))) rfl rfl rfl hb64 ?_
          refine va rfl rfl rfl (q_neq rfl rfl rfl) ?_
          refine va rfl rfl rfl (q_pick_f (v := .bool (z65.2.2 != 0)) rfl rfl (not_t hb64) (by kernel_rfl)) ?_
          refine WR.nil ?_
          change WC _ _ _ _ _ _
          refine WC.cif h (by kernel_rfl) (fun hb76 h => ?_) (fun hb76 h => ?_)
          · skip
            refine WC.rs ?_
            refine va rfl rfl rfl (q_move (v := .slice Alist list.length clist) rfl (by kernel_rfl)) ?_
            refine va rfl rfl rfl (q_move (v := .int .i64 ((i50 : Nat) : Int)) rfl (by kernel_rfl)) ?_
            refine va rfl rfl rfl (q_ixn (i := i50) Try.underlying22 Try.sizeOf31 rfl rfl rfl hl55 ((hlist.mono (((hl7.trans hl16).trans hl36).trans hl68)).some_ hl55)) ?_
            refine va rfl rfl rfl (q_ld (c := 0) (v := .slice A56 (gt list i50).length c57) ((hx58 hl55).2.mono hl68) rfl Try.isAgg31 rfl rfl) ?_
            refine va rfl rfl rfl (q_len_slice rfl Try.underlying31 rfl) ?_
            refine va rfl rfl rfl (q_gtr rfl rfl rfl) ?_
            refine va rfl rfl rfl (q_move (v := .bool (decide (127 < (((gt list i50).length : Nat) : Int)))) rfl (by kernel_rfl)) ?_
            refine WR.sat (c0 := true) (g := (decide (127 < (((gt list i50).length : Nat) : Int)))) rfl rfl rfl hb64 ?_
            refine va rfl rfl rfl (q_move (v := .pointer (some ⟨g10, 0, none⟩)) rfl (by kernel_rfl)) ?_
            refine WR.sat (c0 := true) (g := (decide (127 < (((gt list i50).length : Nat) : Int)))) rfl rfl rfl hb64 ?_
            obtain ⟨z77, hz78, h⟩ := bnd h
            refine vc rfl rfl rfl (q_call (call_run Try.call19 rfl rfl (by kernel_rfl)) (fun w hw => t_disk_Disk_Used (Γ := Gh.all w) (hr74.mono hw.sat.le_all) (hw.ra 1 rfl) (Sat.all w) hz78)) ?_
            refine WR.sat (c0 := true) (g := (decide (127 < (((gt list i50).length : Nat) : Int)))) rfl rfl rfl hb64 ?_
            refine va rfl rfl rfl (q_move (v := .int .i64 (w64 ((((gt list i50).length : Nat) : Int) + 5))) rfl (by kernel_rfl)) ?_
            refine WR.sat (c0 := true) (g := (decide (127 < (((gt list i50).length : Nat) : Int)))) rfl rfl rfl hb64 ?_
            refine va rfl rfl rfl (q_sub rfl rfl rfl) ?_
            refine WR.sat (c0 := true) (g := (decide (127 < (((gt list i50).length : Nat) : Int)))) rfl rfl rfl hb64 ?_
            refine va rfl rfl rfl (q_gtr rfl rfl rfl) ?_
            refine va rfl rfl rfl (q_pick_f (v := .bool (decide ((w64 (1048576 - (w64 ((((gt list i50).length : Nat) : Int) + 5)))) < z77))) rfl rfl (not_t hb64) (by kernel_rfl)) ?_
            refine va rfl rfl rfl (q_assign (v := .bool (decide ((w64 (1048576 - (w64 ((((gt list i50).length : Nat) : Int) + 5)))) < z77))) rfl (by kernel_rfl)) ?_
            refine WR.nil ?_
            change WC _ _ _ _ _ _
            refine WC.ret ?_
            intro w hw
            obtain rfl := Option.some.inj h
            subst hF
            exact ⟨by kernel_rfl, hw.fr⟩
          · skip
            refine WC.skip ?_
            change WC _ _ _ _ _ _
            refine WC.cut (fun σ w => ∃ (parts_79 : Int), ∃ (tail_81 : Int), m_firthlaw09_SeglogParts_j8 list sum_41 f49 i50 z65 parts_79 tail_81 = some r ∧ slots σ [(0, .slice Alist list.length clist), (5, .pointer (some ⟨g10, 0, none⟩)), (6, optp z13.2.1 g21), (9, .int .i64 (max (w64 size) 16)), (10, .int .i64 parts_79), (11, .int .i64 tail_81), (12, .int .i64 sum_41), (13, .int .i64 ((i50 : Nat) : Int)), (14, .int .i64 (w64 ((((gt list i50).length : Nat) : Int) + 5)))] ∧ CC F Γ67 [row71, row73] w ∧ I64 parts_79 ∧ I64 tail_81 ∧ True) ?_ ?_
            · skip
              refine WC.rs ?_
              refine va rfl rfl rfl (q_move (v := .int .i64 parts_37) rfl (by kernel_rfl)) ?_
              refine va rfl rfl rfl (q_eql rfl rfl rfl) ?_
              refine va rfl rfl rfl (q_move (v := .bool (parts_37 == 0)) rfl (by kernel_rfl)) ?_
              refine vg0 rfl rfl rfl rfl rfl (fun hg83 => QV.qo (q_move (v := .int .i64 tail_39) rfl (by kernel_rfl))) ?_
              refine vg0 rfl rfl rfl rfl rfl (fun hg84 => QV.qo (q_move (v := .int .i64 (w64 ((((gt list i50).length : Nat) : Int) + 5))) rfl (by kernel_rfl))) ?_
              refine vg0 rfl rfl rfl rfl rfl (fun hg85 => QV.qo (q_add rfl (gu hg85 rfl) (gu hg85 rfl))) ?_
              refine vg0 rfl rfl rfl rfl rfl (fun hg86 => QV.qo (q_move (v := .int .i64 (max (w64 size) 16)) rfl (by kernel_rfl))) ?_
              refine vg0 rfl rfl rfl rfl rfl (fun hg87 => QV.qo (q_gtr rfl (gu hg87 rfl) (gu hg87 rfl))) ?_
              refine va rfl rfl rfl (q_pick rfl rfl (pk_or' (g := (parts_37 == 0)) (y := (decide ((max (w64 size) 16) < (w64 (tail_39 + (w64 ((((gt list i50).length : Nat) : Int) + 5))))))))) ?_
              refine WR.nil ?_
              change WC _ _ _ _ _ _
              refine WC.cif h (by kernel_rfl) (fun hb88 h => ?_) (fun hb88 h => ?_)
              · skip
                refine WC.rs ?_
                refine va rfl rfl rfl (q_move (v := .int .i64 parts_37) rfl (by kernel_rfl)) ?_
                refine va rfl rfl rfl (q_add rfl rfl rfl) ?_
                refine va rfl rfl rfl (q_assign (v := .int .i64 (w64 (parts_37 + 1))) rfl (by kernel_rfl)) ?_
                refine WR.nil ?_
                change WC _ _ _ _ _ _
                refine WC.region ?_
                refine va rfl rfl rfl (q_assign (v := .int .i64 0) rfl (by kernel_rfl)) ?_
                refine WR.nil ?_
                intro w hw
                exact ⟨(w64 (parts_37 + 1)), 0, h, (sl_ (by kernel_rfl)), hw, (w64_r _), (show I64 0 by decide), trivial⟩
              · skip
                refine WC.skip ?_
                intro w hw
                exact ⟨parts_37, tail_39, h, (sl_ (by kernel_rfl)), hw, hr38, hr40, trivial⟩
            · skip
              rintro σ w ⟨parts_79, tail_81, h, hsl, hw, hr80, hr82, -⟩
              refine Wpt.slots hsl ?_
              refine WC.here (C := CC F Γ67 [row71, row73]) ?_ hw
              clear hw hsl
              refine WC.rs ?_
              refine va rfl rfl rfl (q_move (v := .int .i64 tail_81) rfl (by kernel_rfl)) ?_
              refine va rfl rfl rfl (q_move (v := .int .i64 (w64 ((((gt list i50).length : Nat) : Int) + 5))) rfl (by kernel_rfl)) ?_
              refine va rfl rfl rfl (q_add rfl rfl rfl) ?_
              refine va rfl rfl rfl (q_assign (v := .int .i64 (w64 (tail_81 + (w64 ((((gt list i50).length : Nat) : Int) + 5))))) rfl (by kernel_rfl)) ?_
              refine WR.nil ?_
              change WC _ _ _ _ _ _
              refine WC.rs ?_
              refine va rfl rfl rfl (q_move (v := .int .i64 sum_41) rfl (by kernel_rfl)) ?_
              refine va rfl rfl rfl (q_move (v := .int .i64 (w64 ((((gt list i50).length : Nat) : Int) + 5))) rfl (by kernel_rfl)) ?_
              refine va rfl rfl rfl (q_add rfl rfl rfl) ?_
              refine va rfl rfl rfl (q_assign (v := .int .i64 (w64 (sum_41 + (w64 ((((gt list i50).length : Nat) : Int) + 5))))) rfl (by kernel_rfl)) ?_
              refine WR.nil ?_
              change WC _ _ _ _ _ _
              refine WC.rs ?_
              refine va rfl rfl rfl (q_move (v := .pointer (some ⟨g10, 0, none⟩)) rfl (by kernel_rfl)) ?_
              obtain ⟨z89, hz90, h⟩ := bnd h
              refine e_call (is := [1]) rfl rfl (call_run Try.call11 rfl rfl (by kernel_rfl)) rfl (fun w hp => t_disk_Disk_Names hr74 hp hz90) ?_
              rintro Γ91 U93 v94 hl92 ⟨A95, c96, row97, rfl, rfl, hr98, _⟩
              change WR _ _ _ (CC F Γ91 [row73, row97, row71]) _ _ (upd _ 93 (.slice A95 z89.length c96))
              refine va rfl rfl rfl (q_len_slice rfl Try.underlying32 rfl) ?_
              refine va rfl rfl rfl (q_move (v := .int .i64 parts_79) rfl (by kernel_rfl)) ?_
              refine va rfl rfl rfl (q_neq rfl rfl rfl) ?_
              refine va rfl rfl rfl (q_move (v := .bool (((z89.length : Nat) : Int) != parts_79)) rfl (by kernel_rfl)) ?_
              refine vg0 rfl rfl rfl rfl rfl (fun hg99 => QV.qo (q_move (v := .pointer (some ⟨g21, 0, none⟩)) rfl (optp_some rfl hz33))) ?_
              obtain ⟨z101, hz102, h⟩ := bnd h
              refine vg0 rfl rfl rfl rfl rfl (fun hg100 => (q_call (call_run Try.call20 rfl rfl (args1 (gu hg100 rfl))) (fun w hw => t_seglog_Log_Bytes (Γ := Gh.all w) ((hr72.mono hl92).mono hw.sat.le_all) (hw.ra 2 rfl) (Sat.all w) (gc_of hz102 hg100)))) ?_
              refine vg0 rfl rfl rfl rfl rfl (fun hg103 => QV.qo (q_move (v := .int .i64 (w64 (sum_41 + (w64 ((((gt list i50).length : Nat) : Int) + 5))))) rfl (by kernel_rfl))) ?_
              refine vg0 rfl rfl rfl rfl rfl (fun hg104 => QV.qo (q_neq rfl (gu hg104 rfl) (gu hg104 rfl))) ?_
              refine va rfl rfl rfl (q_pick rfl rfl (pk_or' (g := (((z89.length : Nat) : Int) != parts_79)) (y := (z101 != (w64 (sum_41 + (w64 ((((gt list i50).length : Nat) : Int) + 5)))))))) ?_
              refine va rfl rfl rfl (q_move (v := .bool ((((z89.length : Nat) : Int) != parts_79) || (z101 != (w64 (sum_41 + (w64 ((((gt list i50).length : Nat) : Int) + 5))))))) rfl (by kernel_rfl)) ?_
              refine vg0 rfl rfl rfl rfl rfl (fun hg105 => QV.qo (q_move (v := .pointer (some ⟨g10, 0, none⟩)) rfl (by kernel_rfl))) ?_
              obtain ⟨z107, hz108, h⟩ := bnd h
              refine vg0 rfl rfl rfl rfl rfl (fun hg106 => (q_call (call_run Try.call19 rfl rfl (args1 (gu hg106 rfl))) (fun w hw => t_disk_Disk_Used (Γ := Gh.all w) ((hr74.mono hl92).mono hw.sat.le_all) (hw.ra 0 rfl) (Sat.all w) (gc_of hz108 hg106)))) ?_
              refine vg0 rfl rfl rfl rfl rfl (fun hg109 => QV.qo (q_move (v := .int .i64 (w64 (sum_41 + (w64 ((((gt list i50).length : Nat) : Int) + 5))))) rfl (by kernel_rfl))) ?_
              refine vg0 rfl rfl rfl rfl rfl (fun hg110 => QV.qo (q_neq rfl (gu hg110 rfl) (gu hg110 rfl))) ?_
              refine va rfl rfl rfl (q_pick rfl rfl (pk_or' (g := ((((z89.length : Nat) : Int) != parts_79) || (z101 != (w64 (sum_41 + (w64 ((((gt list i50).length : Nat) : Int) + 5))))))) (y := (z107 != (w64 (sum_41 + (w64 ((((gt list i50).length : Nat) : Int) + 5)))))))) ?_
              refine WR.nil ?_
              change WC _ _ _ _ _ _
              refine WC.cif h (by kernel_rfl) (fun hb111 h => ?_) (fun hb111 h => ?_)
              · skip
                refine WC.rs ?_
                refine va rfl rfl rfl (q_assign (v := .bool false) rfl (by kernel_rfl)) ?_
                refine WR.nil ?_
                change WC _ _ _ _ _ _
                refine WC.ret ?_
                intro w hw
                obtain rfl := Option.some.inj h
                subst hF
                exact ⟨by kernel_rfl, hw.fr⟩
              · skip
                refine WC.skip ?_
                change WC _ _ _ _ _ _
                refine WC.region ?_
                refine va rfl rfl rfl (q_move (v := .int .i64 ((i50 : Nat) : Int)) rfl (by kernel_rfl)) ?_
                refine va rfl rfl rfl (q_add_r (r := ((i50 + 1 : Nat) : Int)) rfl rfl rfl (ctr_len hl55 (hlist.mono ((hl7.trans hl16).trans hl36)).le)) ?_
                refine va rfl rfl rfl (q_assign (v := .int .i64 ((i50 + 1 : Nat) : Int)) rfl (by kernel_rfl)) ?_
                refine WR.nil ?_
                intro w hw
                exact ⟨hl55, (parts_79, (w64 (tail_81 + (w64 ((((gt list i50).length : Nat) : Int) + 5)))), (w64 (sum_41 + (w64 ((((gt list i50).length : Nat) : Int) + 5)))), z65.2.1, z65.1), h, Γ91, row73, row71, (sl_ (by kernel_rfl)), (hw.only (is := [0, 1]) rfl), ((hl36.trans hl68).trans hl92), hr80, (w64_r _), (w64_r _), (hr74.mono hl92), (hr72.mono hl92), trivial⟩
        · skip
          have h := bf hb64 h
          refine WR.unsat (c0 := true) (g := (decide (127 < (((gt list i50).length : Nat) : Int)))) rfl rfl rfl hb64 rfl ?_
          refine WR.unsat (c0 := true) (g := (decide (127 < (((gt list i50).length : Nat) : Int)))) rfl rfl rfl hb64 rfl ?_
          refine va rfl rfl rfl (q_pick_t (v := .bool true) rfl rfl (not_f hb64) (by kernel_rfl)) ?_
          refine WR.nil ?_
          change WC _ _ _ _ _ _
          refine WC.ctk (b := true) (by kernel_rfl) rfl ?_
          refine WC.rs ?_
          refine va rfl rfl rfl (q_move (v := .slice Alist list.length clist) rfl (by kernel_rfl)) ?_
          refine va rfl rfl rfl (q_move (v := .int .i64 ((i50 : Nat) : Int)) rfl (by kernel_rfl)) ?_
          refine va rfl rfl rfl (q_ixn (i := i50) Try.underlying22 Try.sizeOf31 rfl rfl rfl hl55 ((hlist.mono ((hl7.trans hl16).trans hl36)).some_ hl55)) ?_
          refine va rfl rfl rfl (q_ld (c := 0) (v := .slice A56 (gt list i50).length c57) (hx58 hl55).2 rfl Try.isAgg31 rfl rfl) ?_
          refine va rfl rfl rfl (q_len_slice rfl Try.underlying31 rfl) ?_
          refine va rfl rfl rfl (q_gtr rfl rfl rfl) ?_
          refine va rfl rfl rfl (q_move (v := .bool (decide (127 < (((gt list i50).length : Nat) : Int)))) rfl (by kernel_rfl)) ?_
          refine WR.unsat (c0 := true) (g := (decide (127 < (((gt list i50).length : Nat) : Int)))) rfl rfl rfl hb64 rfl ?_
          refine WR.unsat (c0 := true) (g := (decide (127 < (((gt list i50).length : Nat) : Int)))) rfl rfl rfl hb64 rfl ?_
          refine WR.unsat (c0 := true) (g := (decide (127 < (((gt list i50).length : Nat) : Int)))) rfl rfl rfl hb64 rfl ?_
          refine WR.unsat (c0 := true) (g := (decide (127 < (((gt list i50).length : Nat) : Int)))) rfl rfl rfl hb64 rfl ?_
          refine WR.unsat (c0 := true) (g := (decide (127 < (((gt list i50).length : Nat) : Int)))) rfl rfl rfl hb64 rfl ?_
          refine va rfl rfl rfl (q_pick_t (v := .bool true) rfl rfl (not_f hb64) (by kernel_rfl)) ?_
          refine va rfl rfl rfl (q_assign (v := .bool true) rfl (by kernel_rfl)) ?_
          refine WR.nil ?_
          change WC _ _ _ _ _ _
          refine WC.ret ?_
          intro w hw
          obtain rfl := Option.some.inj h
          subst hF
          exact ⟨by kernel_rfl, hw.fr⟩
      · skip
        have h := hge53 (ige hb54)
        refine WC.exit ?_
        change WC _ _ _ _ _ _
        refine WC.rs ?_
        refine va rfl rfl rfl (q_move (v := .pointer (some ⟨g21, 0, none⟩)) rfl (optp_some rfl hz33)) ?_
        obtain ⟨z112, hz113, h⟩ := bnd h
        refine vc rfl rfl rfl (q_call (call_run Try.call21 rfl rfl (by kernel_rfl)) (fun w hw => t_seglog_Log_Count (Γ := Gh.all w) (ho48.mono hw.sat.le_all) (hw.ra 1 rfl) (Sat.all w) hz113)) ?_
        refine va rfl rfl rfl (q_move (v := .slice Alist list.length clist) rfl (by kernel_rfl)) ?_
        refine va rfl rfl rfl (q_len_slice rfl Try.underlying22 rfl) ?_
        refine va rfl rfl rfl (q_eql rfl rfl rfl) ?_
        refine va rfl rfl rfl (q_assign (v := .bool (z112 == ((list.length : Nat) : Int))) rfl (by kernel_rfl)) ?_
        refine WR.nil ?_
        change WC _ _ _ _ _ _
        refine WC.ret ?_
        intro w hw
        obtain rfl := Option.some.inj h
        subst hF
        exact ⟨by kernel_rfl, hw.fr⟩
end Fw
end Go.Proofs.Ytogcoieekhbfdaa
