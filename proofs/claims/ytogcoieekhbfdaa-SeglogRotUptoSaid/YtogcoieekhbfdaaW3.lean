/- Walks through the functions that the law reaches (printed by a program). No condition. -/
import Derived.Test.YtogcoieekhbfdaaW2
namespace Go.Proofs.Ytogcoieekhbfdaa
namespace Fw
set_option linter.unusedVariables false
set_option linter.unusedSimpArgs false
set_option linter.unusedSectionVars false
open Go.RowKit
set_option maxRecDepth 100000 in
set_option maxHeartbeats 400000 in
theorem t_firthlaw09_awake {Γ : Gh} {w0 : World}  (hs : Sat Γ w0) {r : Bool} (h : m_firthlaw09_awake = some r) : Calls Try.prog 7 #[] w0 (fun e w' => e = .returned (.bool r) ∧ Fr no w0 w') := by
  refine calls_of (N := 80) (rs := [0]) (args := []) Try.func7 rfl Try.ntmps7 Try.results7 rfl ?_
  obtain ⟨F, hF⟩ : ∃ F : Fm, F = ⟨no, w0, Γ⟩ := ⟨_, rfl⟩
  refine WC.here (C := CC F Γ []) ?_ (hF ▸ Cur.start0 hs)
  refine WC.rs ?_
  refine va rfl rfl rfl (q_assign (v := .bool false) rfl (by kernel_rfl)) ?_
  refine WR.nil ?_
  change WC _ _ _ _ _ _
  refine WC.rs ?_
  obtain ⟨z1, hz2, h⟩ := bnd h
  refine e_call (is := []) rfl rfl (call_run Try.call8 rfl rfl (by kernel_rfl)) rfl (fun w hp => t_disk_New 100 (show I64 100 by decide) hp hz2) ?_
  rintro Γ3 U5 v6 hl4 ⟨g7, row8, rfl, rfl, hr9, _⟩
  change WR _ _ _ (CC F Γ3 [row8]) _ _ (upd _ 7 (.pointer (some ⟨g7, 0, none⟩)))
  refine va rfl rfl rfl (q_assign (v := .pointer (some ⟨g7, 0, none⟩)) rfl (by kernel_rfl)) ?_
  refine WR.nil ?_
  change WC _ _ _ _ _ _
  refine WC.rs ?_
  refine va rfl rfl rfl (q_move (v := .pointer (some ⟨g7, 0, none⟩)) rfl (by kernel_rfl)) ?_
  obtain ⟨z10, hz11, h⟩ := bnd h
  refine e_call (is := [0]) rfl rfl (call_run Try.call9 rfl rfl (by kernel_rfl)) rfl (fun w hp => t_seglog_Open hr9 (⟨#[97]⟩ : ByteArray) (show (⟨#[97]⟩ : ByteArray).size ≤ lim by decide) 16 (show I64 16 by decide) hp hz11) ?_
  rintro Γ12 U14 v15 hl13 ⟨row16, g18, row19, A21, c22, row23, rfl, rfl, hr17, hr20, hr24, hr25, _⟩
  change WR _ _ _ (CC F Γ12 [row16, row19, row23]) _ _ (upd _ 10 (.tuple #[optp z10.2.1 g18, .slice A21 z10.2.2.1.length c22, .int .i64 z10.2.2.2]))
  refine va rfl rfl rfl (q_move (v := .tuple #[optp z10.2.1 g18, .slice A21 z10.2.2.1.length c22, .int .i64 z10.2.2.2]) rfl (by kernel_rfl)) ?_
  refine va rfl rfl rfl (q_extract (v := optp z10.2.1 g18) rfl rfl rfl) ?_
  refine va rfl rfl rfl (q_extract (v := .slice A21 z10.2.2.1.length c22) rfl rfl rfl) ?_
  refine va rfl rfl rfl (q_extract (v := .int .i64 z10.2.2.2) rfl rfl rfl) ?_
  refine va rfl rfl rfl (q_assign (v := optp z10.2.1 g18) rfl (by kernel_rfl)) ?_
  refine va rfl rfl rfl (q_assign (v := .slice A21 z10.2.2.1.length c22) rfl (by kernel_rfl)) ?_
  refine va rfl rfl rfl (q_assign (v := .int .i64 z10.2.2.2) rfl (by kernel_rfl)) ?_
  refine WR.nil ?_
  change WC _ _ _ _ _ _
  refine WC.seq ?_
  refine WC.rs ?_
  refine va rfl rfl rfl (q_move (v := optp z10.2.1 g18) rfl (by kernel_rfl)) ?_
  refine va rfl rfl rfl (q_opt_eql Try.underlying26 rfl rfl rfl) ?_
  refine va rfl rfl rfl (q_move (v := .bool (Option.isNone z10.2.1)) rfl (by kernel_rfl)) ?_
  refine vg0 rfl rfl rfl rfl rfl (fun hg26 => QV.qo (q_move (v := .int .i64 z10.2.2.2) rfl (by kernel_rfl))) ?_
  refine vg0 rfl rfl rfl rfl rfl (fun hg27 => QV.qo (q_neq rfl (gu hg27 rfl) rfl)) ?_
  refine va rfl rfl rfl (q_pick rfl rfl (pk_or' (g := (Option.isNone z10.2.1)) (y := (z10.2.2.2 != 0)))) ?_
  refine va rfl rfl rfl (q_move (v := .bool ((Option.isNone z10.2.1) || (z10.2.2.2 != 0))) rfl (by kernel_rfl)) ?_
  refine vg0 rfl rfl rfl rfl rfl (fun hg28 => QV.qo (q_move (v := .slice A21 z10.2.2.1.length c22) rfl (by kernel_rfl))) ?_
  refine vg0 rfl rfl rfl rfl rfl (fun hg29 => QV.qo (q_len_slice rfl Try.underlying22 (gu hg29 rfl))) ?_
  refine vg0 rfl rfl rfl rfl rfl (fun hg30 => QV.qo (q_neq rfl (gu hg30 rfl) rfl)) ?_
  refine va rfl rfl rfl (q_pick rfl rfl (pk_or' (g := ((Option.isNone z10.2.1) || (z10.2.2.2 != 0))) (y := (((z10.2.2.1.length : Nat) : Int) != 0)))) ?_
  refine va rfl rfl rfl (q_move (v := .bool (((Option.isNone z10.2.1) || (z10.2.2.2 != 0)) || (((z10.2.2.1.length : Nat) : Int) != 0))) rfl (by kernel_rfl)) ?_
  refine vg0 rfl rfl rfl rfl rfl (fun hg31 => QV.qo (q_move (v := optp z10.2.1 g18) rfl (by kernel_rfl))) ?_
  refine (Bool.eq_false_or_eq_true (!(((Option.isNone z10.2.1) || (z10.2.2.2 != 0)) || (((z10.2.2.1.length : Nat) : Int) != 0)))).elim (fun hb32 => ?_) (fun hb32 => ?_)
  · skip
    have h := bt hb32 h
    obtain ⟨z33, hz34, h⟩ := bnd h
    have ho35 := optob_some hr20 hz34
    refine WR.sat (c0 := true) (g := (((Option.isNone z10.2.1) || (z10.2.2.2 != 0)) || (((z10.2.2.1.length : Nat) : Int) != 0))) rfl rfl rfl hb32 ?_
    refine e_buildSlice (cs := #[.int .u8 120, .int .u8 121, .int .u8 122]) (e := 5) rfl rfl rfl rfl (fun w => by kernel_rfl) ?_
    intro g36
    refine WR.sat (c0 := true) (g := (((Option.isNone z10.2.1) || (z10.2.2.2 != 0)) || (((z10.2.2.1.length : Nat) : Int) != 0))) rfl rfl rfl hb32 ?_
    refine e_convlit (i := 0) (ys := ([120, 121, 122] : List UInt8)) Try.underlying31 Try.underlying5 rfl rfl rfl (by decide) rfl rfl rfl rfl rfl ?_
    intro Γ37 hl38 hs39
    change WR _ _ _ (CC F Γ37 [[], row16, row19, row23]) _ _ (upd _ 28 (.slice (some ⟨g36, 0, none⟩) ([120, 121, 122] : List UInt8).length 3))
    refine WR.sat (c0 := true) (g := (((Option.isNone z10.2.1) || (z10.2.2.2 != 0)) || (((z10.2.2.1.length : Nat) : Int) != 0))) rfl rfl rfl hb32 ?_
    obtain ⟨z40, hz41, h⟩ := bnd h
    refine e_call (is := [2, 1]) rfl rfl (call_run Try.call10 rfl rfl (args2 (optp_some (gu hb32 rfl) hz34) rfl)) rfl (fun w hp => t_seglog_Log_Append (ho35.mono hl38) hs39 (Nat.le_refl _) (hr17.mono hl38) hp hz41) ?_
    rintro Γ42 U44 v45 hl43 ⟨row46, row48, rfl, rfl, hr47, hr49, hr50, _⟩
    change WR _ _ _ (CC F Γ42 [row46, row48, [], row23]) _ _ (upd _ 29 (.int .i64 z40.2.2))
    refine WR.sat (c0 := true) (g := (((Option.isNone z10.2.1) || (z10.2.2.2 != 0)) || (((z10.2.2.1.length : Nat) : Int) != 0))) rfl rfl rfl hb32 ?_
    refine va rfl rfl rfl (q_neq rfl rfl rfl) ?_
    refine va rfl rfl rfl (q_pick_f (v := .bool (z40.2.2 != 0)) rfl rfl (not_t hb32) (by kernel_rfl)) ?_
    refine va rfl rfl rfl (q_move (v := .bool (z40.2.2 != 0)) rfl (by kernel_rfl)) ?_
    refine vg0 rfl rfl rfl rfl rfl (fun hg51 => QV.qo (q_move (v := .pointer (some ⟨g18, 0, none⟩)) rfl (optp_some rfl hz34))) ?_
    refine (Bool.eq_false_or_eq_true (!(z40.2.2 != 0))).elim (fun hb52 => ?_) (fun hb52 => ?_)
    · skip
      have h := bt hb52 h
      refine WR.sat (c0 := true) (g := (z40.2.2 != 0)) rfl rfl rfl hb52 ?_
      refine e_buildSlice (cs := #[.int .u8 49, .int .u8 50, .int .u8 51, .int .u8 52, .int .u8 53, .int .u8 54, .int .u8 55, .int .u8 56]) (e := 5) rfl rfl rfl rfl (fun w => by kernel_rfl) ?_
      intro g53
      refine WR.sat (c0 := true) (g := (z40.2.2 != 0)) rfl rfl rfl hb52 ?_
      refine e_convlit (i := 0) (ys := ([49, 50, 51, 52, 53, 54, 55, 56] : List UInt8)) Try.underlying31 Try.underlying5 rfl rfl rfl (by decide) rfl rfl rfl rfl rfl ?_
      intro Γ54 hl55 hs56
      change WR _ _ _ (CC F Γ54 [[], row46, row48, [], row23]) _ _ (upd _ 35 (.slice (some ⟨g53, 0, none⟩) ([49, 50, 51, 52, 53, 54, 55, 56] : List UInt8).length 8))
      refine WR.sat (c0 := true) (g := (z40.2.2 != 0)) rfl rfl rfl hb52 ?_
      obtain ⟨z57, hz58, h⟩ := bnd h
      refine e_call (is := [1, 1]) rfl rfl (call_run Try.call10 rfl rfl (args2 (gu hb52 rfl) rfl)) rfl (fun w hp => t_seglog_Log_Append (hr47.mono hl55) hs56 (Nat.le_refl _) (hr49.mono hl55) hp hz58) ?_
      rintro Γ59 U61 v62 hl60 ⟨row63, row65, rfl, rfl, hr64, hr66, hr67, _⟩
      change WR _ _ _ (CC F Γ59 [row63, row65, [], [], row23]) _ _ (upd _ 36 (.int .i64 z57.2.2))
      refine WR.sat (c0 := true) (g := (z40.2.2 != 0)) rfl rfl rfl hb52 ?_
      refine va rfl rfl rfl (q_neq rfl rfl rfl) ?_
      refine va rfl rfl rfl (q_pick_f (v := .bool (z57.2.2 != 0)) rfl rfl (not_t hb52) (by kernel_rfl)) ?_
      refine WR.nil ?_
      change WC _ _ _ _ _ _
      refine WC.cif h (by kernel_rfl) (fun hb68 h => ?_) (fun hb68 h => ?_)
      · skip
        refine WC.rs ?_
        refine va rfl rfl rfl (q_assign (v := .bool false) rfl (by kernel_rfl)) ?_
        refine WR.nil ?_
        change WC _ _ _ _ _ _
        refine WC.ret ?_
        intro w hw
        obtain rfl := Option.some.inj h
        subst hF
        exact ⟨by kernel_rfl, hw.fr⟩
      · skip
        refine WC.skip ?_
        change WC _ _ _ _ _ _
        refine WC.rs ?_
        refine va rfl rfl rfl (q_move (v := .pointer (some ⟨g18, 0, none⟩)) rfl (optp_some rfl hz34)) ?_
        obtain ⟨z69, hz70, h⟩ := bnd h
        refine vc rfl rfl rfl (q_call (call_run Try.call21 rfl rfl (by kernel_rfl)) (fun w hw => t_seglog_Log_Count (Γ := Gh.all w) (hr64.mono hw.sat.le_all) (hw.ra 0 rfl) (Sat.all w) hz70)) ?_
        refine va rfl rfl rfl (q_assign (v := .int .i64 z69) rfl (by kernel_rfl)) ?_
        refine WR.nil ?_
        change WC _ _ _ _ _ _
        refine WC.rs ?_
        refine va rfl rfl rfl (q_move (v := .pointer (some ⟨g18, 0, none⟩)) rfl (optp_some rfl hz34)) ?_
        refine e_buildSlice (cs := #[.int .u8 113]) (e := 5) rfl rfl rfl rfl (fun w => by kernel_rfl) ?_
        intro g71
        refine e_convlit (i := 0) (ys := ([113] : List UInt8)) Try.underlying31 Try.underlying5 rfl rfl rfl (by decide) rfl rfl rfl rfl rfl ?_
        intro Γ72 hl73 hs74
        change WR _ _ _ (CC F Γ72 [[], row63, row65, [], [], row23]) _ _ (upd _ 43 (.slice (some ⟨g71, 0, none⟩) ([113] : List UInt8).length 1))
        refine e_buildSlice (cs := #[.slice (some ⟨g71, 0, none⟩) ([113] : List UInt8).length 1]) (e := 31) rfl rfl rfl rfl (fun w => by kernel_rfl) ?_
        intro g75
        have ho76 : Own (slT byteT) Γ72 31 [(g75, .cells #[.slice (some ⟨g71, 0, none⟩) ([113] : List UInt8).length 1] 31 (0, 0))] (some ⟨g75, 0, none⟩) 1 [([113] : List UInt8)] := Own.of_blockL (T := (slT byteT)) (ys := [([113] : List UInt8)]) [[.slice (some ⟨g71, 0, none⟩) ([113] : List UInt8).length 1]] rfl (show 1 ≤ lim by decide) (show Ty.rd (slT byteT) Γ72 [.slice (some ⟨g71, 0, none⟩) ([113] : List UInt8).length 1] ([113] : List UInt8) ∧ True from ⟨⟨(some ⟨g71, 0, none⟩), 1, rfl, (Nat.le_refl _), hs74⟩, trivial⟩)
        have hc81 := ho76.capz
        intro w hw; obtain ⟨Γ77, hw, hl78, hr79⟩ := hw.seal (i := 0) rfl; have hs80 := ho76.sl hl78 hr79
        refine WR.here (C := CC F Γ77 [[], [], row63, row65, [], [], row23]) ?_ hw
        clear hw
        obtain ⟨z82, hz83, h⟩ := bnd h
        refine e_call (is := [2, 2]) rfl rfl (call_run Try.call17 rfl rfl (by kernel_rfl)) rfl (fun w hp => t_seglog_Log_Rewrite (hr64.mono (hl73.trans hl78)) hs80 hc81 (hr66.mono (hl73.trans hl78)) hp hz83) ?_
        rintro Γ84 U86 v87 hl85 ⟨row88, row90, rfl, rfl, hr89, hr91, hr92, _⟩
        change WR _ _ _ (CC F Γ84 [row88, row90, [], [], [], [], row23]) _ _ (upd _ 45 (.int .i64 z82.2.2))
        refine va rfl rfl rfl (q_assign (v := .int .i64 z82.2.2) rfl (by kernel_rfl)) ?_
        refine WR.nil ?_
        change WC _ _ _ _ _ _
        refine WC.rs ?_
        refine va rfl rfl rfl (q_move (v := .pointer (some ⟨g7, 0, none⟩)) rfl (by kernel_rfl)) ?_
        obtain ⟨z93, hz94, h⟩ := bnd h
        refine e_call (is := [1]) rfl rfl (call_run Try.call9 rfl rfl (by kernel_rfl)) rfl (fun w hp => t_seglog_Open hr91 (⟨#[97]⟩ : ByteArray) (show (⟨#[97]⟩ : ByteArray).size ≤ lim by decide) 16 (show I64 16 by decide) hp hz94) ?_
        rintro Γ95 U97 v98 hl96 ⟨row99, g101, row102, A104, c105, row106, rfl, rfl, hr100, hr103, hr107, hr108, _⟩
        change WR _ _ _ (CC F Γ95 [row99, row102, row106, row88, [], [], [], [], row23]) _ _ (upd _ 48 (.tuple #[optp z93.2.1 g101, .slice A104 z93.2.2.1.length c105, .int .i64 z93.2.2.2]))
        refine va rfl rfl rfl (q_move (v := .tuple #[optp z93.2.1 g101, .slice A104 z93.2.2.1.length c105, .int .i64 z93.2.2.2]) rfl (by kernel_rfl)) ?_
        refine va rfl rfl rfl (q_extract (v := optp z93.2.1 g101) rfl rfl rfl) ?_
        refine va rfl rfl rfl (q_extract (v := .slice A104 z93.2.2.1.length c105) rfl rfl rfl) ?_
        refine va rfl rfl rfl (q_extract (v := .int .i64 z93.2.2.2) rfl rfl rfl) ?_
        refine va rfl rfl rfl (q_assign (v := .slice A104 z93.2.2.1.length c105) rfl (by kernel_rfl)) ?_
        refine va rfl rfl rfl (q_assign (v := .int .i64 z93.2.2.2) rfl (by kernel_rfl)) ?_
        refine WR.nil ?_
        change WC _ _ _ _ _ _
        refine WC.rs ?_
        refine va rfl rfl rfl (q_move (v := .int .i64 z69) rfl (by kernel_rfl)) ?_
        refine va rfl rfl rfl (q_eql rfl rfl rfl) ?_
        refine va rfl rfl rfl (q_move (v := .bool (z69 == 2)) rfl (by kernel_rfl)) ?_
        refine vg1 rfl rfl rfl rfl rfl (fun hg109 => QV.qo (q_move (v := .int .i64 z82.2.2) rfl (by kernel_rfl))) ?_
        refine vg1 rfl rfl rfl rfl rfl (fun hg110 => QV.qo (q_eql rfl (gu hg110 rfl) rfl)) ?_
        refine va rfl rfl rfl (q_pick rfl rfl (pk_and' (g := (z69 == 2)) (y := (z82.2.2 == 0)))) ?_
        refine va rfl rfl rfl (q_move (v := .bool ((z69 == 2) && (z82.2.2 == 0))) rfl (by kernel_rfl)) ?_
        refine vg1 rfl rfl rfl rfl rfl (fun hg111 => QV.qo (q_move (v := .int .i64 z93.2.2.2) rfl (by kernel_rfl))) ?_
        refine vg1 rfl rfl rfl rfl rfl (fun hg112 => QV.qo (q_eql rfl (gu hg112 rfl) rfl)) ?_
        refine va rfl rfl rfl (q_pick rfl rfl (pk_and' (g := ((z69 == 2) && (z82.2.2 == 0))) (y := (z93.2.2.2 == 0)))) ?_
        refine va rfl rfl rfl (q_move (v := .bool (((z69 == 2) && (z82.2.2 == 0)) && (z93.2.2.2 == 0))) rfl (by kernel_rfl)) ?_
        refine vg1 rfl rfl rfl rfl rfl (fun hg113 => QV.qo (q_move (v := .slice A104 z93.2.2.1.length c105) rfl (by kernel_rfl))) ?_
        refine vg1 rfl rfl rfl rfl rfl (fun hg114 => QV.qo (q_len_slice rfl Try.underlying22 (gu hg114 rfl))) ?_
        refine vg1 rfl rfl rfl rfl rfl (fun hg115 => QV.qo (q_eql rfl (gu hg115 rfl) rfl)) ?_
        refine va rfl rfl rfl (q_pick rfl rfl (pk_and' (g := (((z69 == 2) && (z82.2.2 == 0)) && (z93.2.2.2 == 0))) (y := (((z93.2.2.1.length : Nat) : Int) == 1)))) ?_
        refine va rfl rfl rfl (q_move (v := .bool ((((z69 == 2) && (z82.2.2 == 0)) && (z93.2.2.2 == 0)) && (((z93.2.2.1.length : Nat) : Int) == 1))) rfl (by kernel_rfl)) ?_
        refine vg1 rfl rfl rfl rfl rfl (fun hg116 => QV.qo (q_move (v := .slice A104 z93.2.2.1.length c105) rfl (by kernel_rfl))) ?_
        obtain ⟨hk118, h⟩ := chk_some h
        refine vg1 rfl rfl rfl rfl rfl (fun hg117 => QV.qo (q_ixn (i := 0) Try.underlying22 Try.sizeOf31 rfl (gu hg117 rfl) rfl (of_decide_eq_true (imp_of hk118 hg117)) (hr107.some_ (of_decide_eq_true (imp_of hk118 hg117))))) ?_
        obtain ⟨A120, c121, hx122⟩ := hr107.slT_at 0
        refine vg1 rfl rfl rfl rfl rfl (fun hg119 => QV.qo (q_ldo (c := 0) (v := .slice A120 (gt z93.2.2.1 0).length c121) (i := 2) rfl (hx122 (of_decide_eq_true (imp_of hk118 hg119))).2 rfl Try.isAgg31 (gu hg119 rfl) rfl)) ?_
        refine vg1 rfl rfl rfl rfl rfl (fun hg123 => QV.qo (q_bstr (hx122 (of_decide_eq_true (imp_of hk118 hg123))).1.2 Try.underlying31 Try.underlying5 Try.underlying9 rfl (gu hg123 rfl))) ?_
        refine vg1 rfl rfl rfl rfl rfl (fun hg124 => QV.qo (q_seql rfl (gu hg124 rfl) rfl)) ?_
        refine va rfl rfl rfl (q_pick rfl rfl (pk_and' (g := ((((z69 == 2) && (z82.2.2 == 0)) && (z93.2.2.2 == 0)) && (((z93.2.2.1.length : Nat) : Int) == 1))) (y := ((⟨(gt z93.2.2.1 0).toArray⟩ : ByteArray) == (⟨#[113]⟩ : ByteArray))))) ?_
        refine va rfl rfl rfl (q_move (v := .bool (((((z69 == 2) && (z82.2.2 == 0)) && (z93.2.2.2 == 0)) && (((z93.2.2.1.length : Nat) : Int) == 1)) && ((⟨(gt z93.2.2.1 0).toArray⟩ : ByteArray) == (⟨#[113]⟩ : ByteArray)))) rfl (by kernel_rfl)) ?_
        refine vg1 rfl rfl rfl rfl rfl (fun hg125 => QV.qo (q_move (v := .pointer (some ⟨g7, 0, none⟩)) rfl (by kernel_rfl))) ?_
        refine (Bool.eq_false_or_eq_true (((((z69 == 2) && (z82.2.2 == 0)) && (z93.2.2.2 == 0)) && (((z93.2.2.1.length : Nat) : Int) == 1)) && ((⟨(gt z93.2.2.1 0).toArray⟩ : ByteArray) == (⟨#[113]⟩ : ByteArray)))).elim (fun hb126 => ?_) (fun hb126 => ?_)
        · skip
          have h := bt hb126 h
          refine WR.sat (c0 := true) (g := (((((z69 == 2) && (z82.2.2 == 0)) && (z93.2.2.2 == 0)) && (((z93.2.2.1.length : Nat) : Int) == 1)) && ((⟨(gt z93.2.2.1 0).toArray⟩ : ByteArray) == (⟨#[113]⟩ : ByteArray)))) rfl rfl rfl hb126 ?_
          obtain ⟨z127, hz128, h⟩ := bnd h
          refine e_call (is := [0]) rfl rfl (call_run Try.call11 rfl rfl (args1 (gu hb126 rfl))) rfl (fun w hp => t_disk_Disk_Names hr100 hp hz128) ?_
          rintro Γ129 U131 v132 hl130 ⟨A133, c134, row135, rfl, rfl, hr136, _⟩
          change WR _ _ _ (CC F Γ129 [row99, row135, row102, row106, row88, [], [], [], [], row23]) _ _ (upd _ 76 (.slice A133 z127.length c134))
          refine WR.sat (c0 := true) (g := (((((z69 == 2) && (z82.2.2 == 0)) && (z93.2.2.2 == 0)) && (((z93.2.2.1.length : Nat) : Int) == 1)) && ((⟨(gt z93.2.2.1 0).toArray⟩ : ByteArray) == (⟨#[113]⟩ : ByteArray)))) rfl rfl rfl hb126 ?_
          refine va rfl rfl rfl (q_len_slice rfl Try.underlying32 rfl) ?_
          refine WR.sat (c0 := true) (g := (((((z69 == 2) && (z82.2.2 == 0)) && (z93.2.2.2 == 0)) && (((z93.2.2.1.length : Nat) : Int) == 1)) && ((⟨(gt z93.2.2.1 0).toArray⟩ : ByteArray) == (⟨#[113]⟩ : ByteArray)))) rfl rfl rfl hb126 ?_
          refine va rfl rfl rfl (q_eql rfl rfl rfl) ?_
          refine va rfl rfl rfl (q_pick_t (v := .bool (((z127.length : Nat) : Int) == 2)) rfl rfl hb126 (by kernel_rfl)) ?_
          refine va rfl rfl rfl (q_assign (v := .bool (((z127.length : Nat) : Int) == 2)) rfl (by kernel_rfl)) ?_
          refine WR.nil ?_
          change WC _ _ _ _ _ _
          refine WC.ret ?_
          intro w hw
          obtain rfl := Option.some.inj h
          subst hF
          exact ⟨by kernel_rfl, hw.fr⟩
        · skip
          have h := bf hb126 h
          refine WR.unsat (c0 := true) (g := (((((z69 == 2) && (z82.2.2 == 0)) && (z93.2.2.2 == 0)) && (((z93.2.2.1.length : Nat) : Int) == 1)) && ((⟨(gt z93.2.2.1 0).toArray⟩ : ByteArray) == (⟨#[113]⟩ : ByteArray)))) rfl rfl rfl hb126 rfl ?_
          refine WR.unsat (c0 := true) (g := (((((z69 == 2) && (z82.2.2 == 0)) && (z93.2.2.2 == 0)) && (((z93.2.2.1.length : Nat) : Int) == 1)) && ((⟨(gt z93.2.2.1 0).toArray⟩ : ByteArray) == (⟨#[113]⟩ : ByteArray)))) rfl rfl rfl hb126 rfl ?_
          refine WR.unsat (c0 := true) (g := (((((z69 == 2) && (z82.2.2 == 0)) && (z93.2.2.2 == 0)) && (((z93.2.2.1.length : Nat) : Int) == 1)) && ((⟨(gt z93.2.2.1 0).toArray⟩ : ByteArray) == (⟨#[113]⟩ : ByteArray)))) rfl rfl rfl hb126 rfl ?_
          refine va rfl rfl rfl (q_pick_f (v := .bool false) rfl rfl hb126 (by kernel_rfl)) ?_
          refine va rfl rfl rfl (q_assign (v := .bool false) rfl (by kernel_rfl)) ?_
          refine WR.nil ?_
          change WC _ _ _ _ _ _
          refine WC.ret ?_
          intro w hw
          obtain rfl := Option.some.inj h
          subst hF
          exact ⟨by kernel_rfl, hw.fr⟩
    · skip
      have h := bf hb52 h
      refine WR.unsat (c0 := true) (g := (z40.2.2 != 0)) rfl rfl rfl hb52 rfl ?_
      refine WR.unsat (c0 := true) (g := (z40.2.2 != 0)) rfl rfl rfl hb52 rfl ?_
      refine WR.unsat (c0 := true) (g := (z40.2.2 != 0)) rfl rfl rfl hb52 rfl ?_
      refine WR.unsat (c0 := true) (g := (z40.2.2 != 0)) rfl rfl rfl hb52 rfl ?_
      refine va rfl rfl rfl (q_pick_t (v := .bool true) rfl rfl (not_f hb52) (by kernel_rfl)) ?_
      refine WR.nil ?_
      change WC _ _ _ _ _ _
      refine WC.ctk (b := true) (by kernel_rfl) rfl ?_
      refine WC.rs ?_
      refine va rfl rfl rfl (q_assign (v := .bool false) rfl (by kernel_rfl)) ?_
      refine WR.nil ?_
      change WC _ _ _ _ _ _
      refine WC.ret ?_
      intro w hw
      obtain rfl := Option.some.inj h
      subst hF
      exact ⟨by kernel_rfl, hw.fr⟩
  · skip
    have h := bf hb32 h
    refine WR.unsat (c0 := true) (g := (((Option.isNone z10.2.1) || (z10.2.2.2 != 0)) || (((z10.2.2.1.length : Nat) : Int) != 0))) rfl rfl rfl hb32 rfl ?_
    refine WR.unsat (c0 := true) (g := (((Option.isNone z10.2.1) || (z10.2.2.2 != 0)) || (((z10.2.2.1.length : Nat) : Int) != 0))) rfl rfl rfl hb32 rfl ?_
    refine WR.unsat (c0 := true) (g := (((Option.isNone z10.2.1) || (z10.2.2.2 != 0)) || (((z10.2.2.1.length : Nat) : Int) != 0))) rfl rfl rfl hb32 rfl ?_
    refine WR.unsat (c0 := true) (g := (((Option.isNone z10.2.1) || (z10.2.2.2 != 0)) || (((z10.2.2.1.length : Nat) : Int) != 0))) rfl rfl rfl hb32 rfl ?_
    refine va rfl rfl rfl (q_pick_t (v := .bool true) rfl rfl (not_f hb32) (by kernel_rfl)) ?_
    refine va rfl rfl rfl (q_move (v := .bool true) rfl (by kernel_rfl)) ?_
    refine WR.unsat (c0 := true) (g := true) rfl rfl rfl (nott rfl) rfl ?_
    refine WR.unsat (c0 := true) (g := true) rfl rfl rfl (nott rfl) rfl ?_
    refine WR.unsat (c0 := true) (g := true) rfl rfl rfl (nott rfl) rfl ?_
    refine WR.unsat (c0 := true) (g := true) rfl rfl rfl (nott rfl) rfl ?_
    refine WR.unsat (c0 := true) (g := true) rfl rfl rfl (nott rfl) rfl ?_
    refine va rfl rfl rfl (q_pickt (v := .bool true) rfl rfl rfl) ?_
    refine WR.nil ?_
    change WC _ _ _ _ _ _
    refine WC.ctk (b := true) (by kernel_rfl) rfl ?_
    refine WC.rs ?_
    refine va rfl rfl rfl (q_assign (v := .bool false) rfl (by kernel_rfl)) ?_
    refine WR.nil ?_
    change WC _ _ _ _ _ _
    refine WC.ret ?_
    intro w hw
    obtain rfl := Option.some.inj h
    subst hF
    exact ⟨by kernel_rfl, hw.fr⟩
set_option maxRecDepth 100000 in
set_option maxHeartbeats 400000 in
theorem t_firthref01_Num {Γ : Gh} {w0 : World} {Ab : Option Addr} {cb : Nat} {b : List UInt8} (hb : Sl byteT Γ Ab b) (hbc : b.length ≤ cb) (at_ : Int) (hat_ : I64 at_) (hs : Sat Γ w0) {r : Int × Int × Int} (h : m_firthref01_Num b at_ = some r) : Calls Try.prog 39 #[.slice Ab b.length cb, .int .i64 at_] w0 (fun e w' => e = .returned (.tuple #[.int .i64 r.1, .int .i64 r.2.1, .int .i64 r.2.2]) ∧ Fr no w0 w') := by
  refine calls_of (N := 50) (rs := [4, 5, 6]) (args := [.slice Ab b.length cb, .int .i64 at_]) Try.func39 rfl Try.ntmps39 Try.results39 rfl ?_
  obtain ⟨F, hF⟩ : ∃ F : Fm, F = ⟨no, w0, Γ⟩ := ⟨_, rfl⟩
  refine WC.here (C := CC F Γ []) ?_ (hF ▸ Cur.start0 hs)
  refine WC.rs ?_
  refine va rfl rfl rfl (q_assign (v := .int .i64 0) rfl (by kernel_rfl)) ?_
  refine va rfl rfl rfl (q_assign (v := .int .i64 0) rfl (by kernel_rfl)) ?_
  refine va rfl rfl rfl (q_assign (v := .int .i64 0) rfl (by kernel_rfl)) ?_
  refine WR.nil ?_
  change WC _ _ _ _ _ _
  refine WC.rs ?_
  refine va rfl rfl rfl (q_assign (v := .int .i64 0) rfl (by kernel_rfl)) ?_
  refine WR.nil ?_
  change WC _ _ _ _ _ _
  refine WC.rs ?_
  refine va rfl rfl rfl (q_assign (v := .int .i64 1) rfl (by kernel_rfl)) ?_
  refine WR.nil ?_
  change WC _ _ _ _ _ _
  refine WC.seq ?_
  refine WC.rs ?_
  refine va rfl rfl rfl (q_assign (v := .int .i64 0) rfl (by kernel_rfl)) ?_
  refine WR.nil ?_
  change WC _ _ _ _ _ _
  refine WC.block ?_
  refine WC.loopN h (fun (s : Int × Int × Int × Int) σ w => match s with | (at_1, n_3, one_5, i_7) => slots σ [(0, .slice Ab b.length cb), (1, .int .i64 at_1), (7, .int .i64 n_3), (8, .int .i64 one_5), (9, .int .i64 i_7)] ∧ CC F Γ [] w ∧ I64 at_1 ∧ I64 n_3 ∧ I64 one_5 ∧ I64 i_7 ∧ True) ?_ ?_
  · skip
    intro w hw
    exact ⟨(sl_ (by kernel_rfl)), hw, hat_, (show I64 0 by decide), (show I64 1 by decide), (show I64 0 by decide), trivial⟩
  rintro f9 ⟨at_1, n_3, one_5, i_7⟩ σ w h ⟨hsl, hw, hr2, hr4, hr6, hr8, -⟩
  refine Wpt.slots hsl ?_
  refine WC.here (C := CC F Γ []) ?_ hw
  clear hw hsl
  refine WC.seq ?_
  refine WC.rs ?_
  refine va rfl rfl rfl (q_move (v := .int .i64 at_1) rfl (by kernel_rfl)) ?_
  refine va rfl rfl rfl (q_move (v := .slice Ab b.length cb) rfl (by kernel_rfl)) ?_
  refine va rfl rfl rfl (q_len_slice rfl Try.underlying31 rfl) ?_
  refine va rfl rfl rfl (q_lss rfl rfl rfl) ?_
  refine WR.nil ?_
  change WC _ _ _ _ _ _
  refine WC.cif h (by kernel_rfl) (fun hb13 h => ?_) (fun hb13 h => ?_)
  · skip
    refine WC.skip ?_
    change WC _ _ _ _ _ _
    refine WC.seq ?_
    refine WC.block ?_
    refine WC.rs ?_
    refine va rfl rfl rfl (q_move (v := .slice Ab b.length cb) rfl (by kernel_rfl)) ?_
    refine va rfl rfl rfl (q_move (v := .int .i64 at_1) rfl (by kernel_rfl)) ?_
    obtain ⟨hk14, h⟩ := chk_some h
    refine va rfl rfl rfl (q_ix Try.underlying31 Try.sizeOf5 rfl rfl rfl hk14 (hb.some_ (inb_lt hk14))) ?_
    refine va rfl rfl rfl (q_ld (c := 0) (v := .int .u8 (((gt b at_1.toNat).toNat : Nat) : Int)) (hb.byteT_at (inb_lt hk14)).2 rfl Try.isAgg5 rfl rfl) ?_
    refine va rfl rfl rfl (q_conv Try.underlying2 Try.underlying5 rfl rfl) ?_
    refine va rfl rfl rfl (q_assign (v := .int .i64 (w64 (((gt b at_1.toNat).toNat : Nat) : Int))) rfl (by kernel_rfl)) ?_
    refine WR.nil ?_
    change WC _ _ _ _ _ _
    refine WC.rs ?_
    refine va rfl rfl rfl (q_move (v := .int .i64 at_1) rfl (by kernel_rfl)) ?_
    refine va rfl rfl rfl (q_add rfl rfl rfl) ?_
    refine va rfl rfl rfl (q_assign (v := .int .i64 (w64 (at_1 + 1))) rfl (by kernel_rfl)) ?_
    refine WR.nil ?_
    change WC _ _ _ _ _ _
    refine WC.seq ?_
    refine WC.rs ?_
    refine va rfl rfl rfl (q_move (v := .int .i64 i_7) rfl (by kernel_rfl)) ?_
    refine va rfl rfl rfl (q_eql rfl rfl rfl) ?_
    refine va rfl rfl rfl (q_move (v := .bool (i_7 == 8)) rfl (by kernel_rfl)) ?_
    refine vg1 rfl rfl rfl rfl rfl (fun hg15 => QV.qo (q_move (v := .int .i64 (w64 (((gt b at_1.toNat).toNat : Nat) : Int))) rfl (by kernel_rfl))) ?_
    refine vg1 rfl rfl rfl rfl rfl (fun hg16 => QV.qo (q_gtr rfl (gu hg16 rfl) rfl)) ?_
    refine va rfl rfl rfl (q_pick rfl rfl (pk_and' (g := (i_7 == 8)) (y := (decide (127 < (w64 (((gt b at_1.toNat).toNat : Nat) : Int))))))) ?_
    refine va rfl rfl rfl (q_move (v := .bool ((i_7 == 8) && (decide (127 < (w64 (((gt b at_1.toNat).toNat : Nat) : Int)))))) rfl (by kernel_rfl)) ?_
    refine vg0 rfl rfl rfl rfl rfl (fun hg17 => QV.qo (q_move (v := .int .i64 i_7) rfl (by kernel_rfl))) ?_
    refine vg0 rfl rfl rfl rfl rfl (fun hg18 => QV.qo (q_gtr rfl (gu hg18 rfl) rfl)) ?_
    refine vg0 rfl rfl rfl rfl rfl (fun hg19 => QV.qo (q_move (v := .bool (decide (0 < i_7))) rfl (gu hg19 rfl))) ?_
    refine vh1 (c0 := (!((i_7 == 8) && (decide (127 < (w64 (((gt b at_1.toNat).toNat : Nat) : Int))))))) (g := (decide (0 < i_7))) rfl rfl rfl rfl rfl (fun hg20 => QV.qo (q_move (v := .int .i64 (w64 (((gt b at_1.toNat).toNat : Nat) : Int))) rfl (by kernel_rfl))) ?_
    refine vh1 (c0 := (!((i_7 == 8) && (decide (127 < (w64 (((gt b at_1.toNat).toNat : Nat) : Int))))))) (g := (decide (0 < i_7))) rfl rfl rfl rfl rfl (fun hg21 => QV.qo (q_eql rfl (gu hg21 rfl) rfl)) ?_
    refine vg0 rfl rfl rfl rfl rfl (fun hg22 => QV.qo (q_pick rfl (gu hg22 rfl) (pk_and (c := (!((i_7 == 8) && (decide (127 < (w64 (((gt b at_1.toNat).toNat : Nat) : Int))))))) (g := (decide (0 < i_7))) (y := ((w64 (((gt b at_1.toNat).toNat : Nat) : Int)) == 0)) hg22))) ?_
    refine va rfl rfl rfl (q_pick rfl rfl (pk_or' (g := ((i_7 == 8) && (decide (127 < (w64 (((gt b at_1.toNat).toNat : Nat) : Int)))))) (y := ((decide (0 < i_7)) && ((w64 (((gt b at_1.toNat).toNat : Nat) : Int)) == 0))))) ?_
    refine WR.nil ?_
    change WC _ _ _ _ _ _
    refine WC.cif h (by kernel_rfl) (fun hb23 h => ?_) (fun hb23 h => ?_)
    · skip
      refine WC.rs ?_
      refine va rfl rfl rfl (q_assign (v := .int .i64 0) rfl (by kernel_rfl)) ?_
      refine va rfl rfl rfl (q_assign (v := .int .i64 0) rfl (by kernel_rfl)) ?_
      refine va rfl rfl rfl (q_assign (v := .int .i64 2) rfl (by kernel_rfl)) ?_
      refine WR.nil ?_
      change WC _ _ _ _ _ _
      refine WC.ret ?_
      intro w hw
      obtain rfl := Option.some.inj h
      subst hF
      exact ⟨by kernel_rfl, hw.fr⟩
    · skip
      refine WC.skip ?_
      change WC _ _ _ _ _ _
      refine WC.rs ?_
      refine va rfl rfl rfl (q_move (v := .int .i64 n_3) rfl (by kernel_rfl)) ?_
      refine va rfl rfl rfl (q_move (v := .int .i64 (w64 (((gt b at_1.toNat).toNat : Nat) : Int))) rfl (by kernel_rfl)) ?_
      refine va rfl rfl rfl (q_rem rfl rfl rfl (by decide)) ?_
      refine va rfl rfl rfl (q_move (v := .int .i64 one_5) rfl (by kernel_rfl)) ?_
      refine va rfl rfl rfl (q_mul rfl rfl rfl) ?_
      refine va rfl rfl rfl (q_add rfl rfl rfl) ?_
      refine va rfl rfl rfl (q_assign (v := .int .i64 (w64 (n_3 + (w64 (((w64 (((gt b at_1.toNat).toNat : Nat) : Int)).tmod 128) * one_5))))) rfl (by kernel_rfl)) ?_
      refine WR.nil ?_
      change WC _ _ _ _ _ _
      refine WC.seq ?_
      refine WC.rs ?_
      refine va rfl rfl rfl (q_move (v := .int .i64 (w64 (((gt b at_1.toNat).toNat : Nat) : Int))) rfl (by kernel_rfl)) ?_
      refine va rfl rfl rfl (q_lss rfl rfl rfl) ?_
      refine WR.nil ?_
      change WC _ _ _ _ _ _
      refine WC.cif h (by kernel_rfl) (fun hb24 h => ?_) (fun hb24 h => ?_)
      · skip
        refine WC.rs ?_
        refine va rfl rfl rfl (q_move (v := .int .i64 (w64 (n_3 + (w64 (((w64 (((gt b at_1.toNat).toNat : Nat) : Int)).tmod 128) * one_5))))) rfl (by kernel_rfl)) ?_
        refine va rfl rfl rfl (q_move (v := .int .i64 (w64 (at_1 + 1))) rfl (by kernel_rfl)) ?_
        refine va rfl rfl rfl (q_assign (v := .int .i64 (w64 (n_3 + (w64 (((w64 (((gt b at_1.toNat).toNat : Nat) : Int)).tmod 128) * one_5))))) rfl (by kernel_rfl)) ?_
        refine va rfl rfl rfl (q_assign (v := .int .i64 (w64 (at_1 + 1))) rfl (by kernel_rfl)) ?_
        refine va rfl rfl rfl (q_assign (v := .int .i64 0) rfl (by kernel_rfl)) ?_
        refine WR.nil ?_
        change WC _ _ _ _ _ _
        refine WC.ret ?_
        intro w hw
        obtain rfl := Option.some.inj h
        subst hF
        exact ⟨by kernel_rfl, hw.fr⟩
      · skip
        refine WC.skip ?_
        change WC _ _ _ _ _ _
        refine WC.region ?_
        refine va rfl rfl rfl (q_move (v := .int .i64 one_5) rfl (by kernel_rfl)) ?_
        refine va rfl rfl rfl (q_mul rfl rfl rfl) ?_
        refine va rfl rfl rfl (q_assign (v := .int .i64 (w64 (one_5 * 128))) rfl (by kernel_rfl)) ?_
        refine WR.nil ?_
        change WC _ _ _ _ _ _
        refine WC.region ?_
        refine va rfl rfl rfl (q_move (v := .int .i64 i_7) rfl (by kernel_rfl)) ?_
        refine va rfl rfl rfl (q_add rfl rfl rfl) ?_
        refine va rfl rfl rfl (q_assign (v := .int .i64 (w64 (i_7 + 1))) rfl (by kernel_rfl)) ?_
        refine WR.nil ?_
        intro w hw
        exact ⟨((w64 (at_1 + 1)), (w64 (n_3 + (w64 (((w64 (((gt b at_1.toNat).toNat : Nat) : Int)).tmod 128) * one_5)))), (w64 (one_5 * 128)), (w64 (i_7 + 1))), h, (sl_ (by kernel_rfl)), hw, (w64_r _), (w64_r _), (w64_r _), (w64_r _), trivial⟩
  · skip
    refine WC.exit ?_
    change WC _ _ _ _ _ _
    refine WC.rs ?_
    refine va rfl rfl rfl (q_assign (v := .int .i64 0) rfl (by kernel_rfl)) ?_
    refine va rfl rfl rfl (q_assign (v := .int .i64 0) rfl (by kernel_rfl)) ?_
    refine va rfl rfl rfl (q_assign (v := .int .i64 4) rfl (by kernel_rfl)) ?_
    refine WR.nil ?_
    change WC _ _ _ _ _ _
    refine WC.ret ?_
    intro w hw
    obtain rfl := Option.some.inj h
    subst hF
    exact ⟨by kernel_rfl, hw.fr⟩
set_option maxRecDepth 100000 in
set_option maxHeartbeats 400000 in
theorem t_firthlaw09_measure {Γ : Gh} {w0 : World} {Ab : Option Addr} {cb : Nat} {b : List UInt8} (hb : Sl byteT Γ Ab b) (hbc : b.length ≤ cb) (at_ : Int) (hat_ : I64 at_) (hs : Sat Γ w0) {r : Bool} (h : m_firthlaw09_measure b at_ = some r) : Calls Try.prog 13 #[.slice Ab b.length cb, .int .i64 at_] w0 (fun e w' => e = .returned (.bool r) ∧ Fr no w0 w') := by
  refine calls_of (N := 30) (rs := [4]) (args := [.slice Ab b.length cb, .int .i64 at_]) Try.func13 rfl Try.ntmps13 Try.results13 rfl ?_
  obtain ⟨F, hF⟩ : ∃ F : Fm, F = ⟨no, w0, Γ⟩ := ⟨_, rfl⟩
  refine WC.here (C := CC F Γ []) ?_ (hF ▸ Cur.start0 hs)
  refine WC.rs ?_
  refine va rfl rfl rfl (q_assign (v := .bool false) rfl (by kernel_rfl)) ?_
  refine WR.nil ?_
  change WC _ _ _ _ _ _
  refine WC.seq ?_
  refine WC.rs ?_
  refine va rfl rfl rfl (q_assign (v := .int .i64 0) rfl (by kernel_rfl)) ?_
  refine WR.nil ?_
  change WC _ _ _ _ _ _
  refine WC.block ?_
  refine WC.loopN h (fun (i_1 : Int) σ w => slots σ [(0, .slice Ab b.length cb), (1, .int .i64 at_), (5, .int .i64 i_1)] ∧ CC F Γ [] w ∧ I64 i_1 ∧ True) ?_ ?_
  · skip
    intro w hw
    exact ⟨(sl_ (by kernel_rfl)), hw, (show I64 0 by decide), trivial⟩
  rintro f3 i_1 σ w h ⟨hsl, hw, hr2, -⟩
  refine Wpt.slots hsl ?_
  refine WC.here (C := CC F Γ []) ?_ hw
  clear hw hsl
  refine WC.seq ?_
  refine WC.rs ?_
  refine va rfl rfl rfl (q_move (v := .int .i64 i_1) rfl (by kernel_rfl)) ?_
  refine va rfl rfl rfl (q_move (v := .int .i64 at_) rfl (by kernel_rfl)) ?_
  refine va rfl rfl rfl (q_leq rfl rfl rfl) ?_
  refine WR.nil ?_
  change WC _ _ _ _ _ _
  refine WC.cif h (by kernel_rfl) (fun hb7 h => ?_) (fun hb7 h => ?_)
  · skip
    refine WC.skip ?_
    change WC _ _ _ _ _ _
    refine WC.block ?_
    refine WC.rs ?_
    refine va rfl rfl rfl (q_move (v := .slice Ab b.length cb) rfl (by kernel_rfl)) ?_
    refine va rfl rfl rfl (q_move (v := .int .i64 i_1) rfl (by kernel_rfl)) ?_
    obtain ⟨z8, hz9, h⟩ := bnd h
    refine vc rfl rfl rfl (q_call (call_run Try.call39 rfl rfl (by kernel_rfl)) (fun w hw => t_firthref01_Num (Γ := Gh.all w) (hb.mono hw.sat.le_all) hbc i_1 hr2 (Sat.all w) hz9)) ?_
    refine va rfl rfl rfl (q_move (v := .tuple #[.int .i64 z8.1, .int .i64 z8.2.1, .int .i64 z8.2.2]) rfl (by kernel_rfl)) ?_
    refine va rfl rfl rfl (q_extract (v := .int .i64 z8.1) rfl rfl rfl) ?_
    refine va rfl rfl rfl (q_extract (v := .int .i64 z8.2.1) rfl rfl rfl) ?_
    refine va rfl rfl rfl (q_extract (v := .int .i64 z8.2.2) rfl rfl rfl) ?_
    refine va rfl rfl rfl (q_assign (v := .int .i64 z8.1) rfl (by kernel_rfl)) ?_
    refine va rfl rfl rfl (q_assign (v := .int .i64 z8.2.1) rfl (by kernel_rfl)) ?_
    refine va rfl rfl rfl (q_assign (v := .int .i64 z8.2.2) rfl (by kernel_rfl)) ?_
    refine WR.nil ?_
    change WC _ _ _ _ _ _
    refine WC.seq ?_
    refine WC.rs ?_
    refine va rfl rfl rfl (q_move (v := .int .i64 z8.2.2) rfl (by kernel_rfl)) ?_
    refine va rfl rfl rfl (q_neq rfl rfl rfl) ?_
    refine va rfl rfl rfl (q_move (v := .bool (z8.2.2 != 0)) rfl (by kernel_rfl)) ?_
    refine vg0 rfl rfl rfl rfl rfl (fun hg10 => QV.qo (q_move (v := .int .i64 at_) rfl (by kernel_rfl))) ?_
    refine vg0 rfl rfl rfl rfl rfl (fun hg11 => QV.qo (q_move (v := .int .i64 z8.2.1) rfl (by kernel_rfl))) ?_
    refine vg0 rfl rfl rfl rfl rfl (fun hg12 => QV.qo (q_lss rfl (gu hg12 rfl) (gu hg12 rfl))) ?_
    refine va rfl rfl rfl (q_pick rfl rfl (pk_or' (g := (z8.2.2 != 0)) (y := (decide (at_ < z8.2.1))))) ?_
    refine WR.nil ?_
    change WC _ _ _ _ _ _
    refine WC.cif h (by kernel_rfl) (fun hb13 h => ?_) (fun hb13 h => ?_)
    · skip
      refine WC.rs ?_
      refine va rfl rfl rfl (q_assign (v := .bool true) rfl (by kernel_rfl)) ?_
      refine WR.nil ?_
      change WC _ _ _ _ _ _
      refine WC.ret ?_
      intro w hw
      obtain rfl := Option.some.inj h
      subst hF
      exact ⟨by kernel_rfl, hw.fr⟩
    · skip
      refine WC.skip ?_
      change WC _ _ _ _ _ _
      refine WC.region ?_
      refine va rfl rfl rfl (q_move (v := .int .i64 z8.2.1) rfl (by kernel_rfl)) ?_
      refine va rfl rfl rfl (q_add rfl rfl rfl) ?_
      refine va rfl rfl rfl (q_move (v := .int .i64 z8.1) rfl (by kernel_rfl)) ?_
      refine va rfl rfl rfl (q_add rfl rfl rfl) ?_
      refine va rfl rfl rfl (q_assign (v := .int .i64 (w64 ((w64 (z8.2.1 + 4)) + z8.1))) rfl (by kernel_rfl)) ?_
      refine WR.nil ?_
      intro w hw
      exact ⟨(w64 ((w64 (z8.2.1 + 4)) + z8.1)), h, (sl_ (by kernel_rfl)), hw, (w64_r _), trivial⟩
  · skip
    refine WC.exit ?_
    change WC _ _ _ _ _ _
    refine WC.rs ?_
    refine va rfl rfl rfl (q_assign (v := .bool false) rfl (by kernel_rfl)) ?_
    refine WR.nil ?_
    change WC _ _ _ _ _ _
    refine WC.ret ?_
    intro w hw
    obtain rfl := Option.some.inj h
    subst hF
    exact ⟨by kernel_rfl, hw.fr⟩
set_option maxRecDepth 100000 in
set_option maxHeartbeats 400000 in
theorem t_firthref02_Same {Γ : Gh} {w0 : World} {Aa : Option Addr} {ca : Nat} {a : List (List UInt8)} (ha : Sl (slT byteT) Γ Aa a) (hac : a.length ≤ ca) {Ab : Option Addr} {cb : Nat} {b : List (List UInt8)} (hb : Sl (slT byteT) Γ Ab b) (hbc : b.length ≤ cb) (hs : Sat Γ w0) {r : Bool} (h : m_firthref02_Same a b = some r) : Calls Try.prog 18 #[.slice Aa a.length ca, .slice Ab b.length cb] w0 (fun e w' => e = .returned (.bool r) ∧ Fr no w0 w') := by
  refine calls_of (N := 28) (rs := [4]) (args := [.slice Aa a.length ca, .slice Ab b.length cb]) Try.func18 rfl Try.ntmps18 Try.results18 rfl ?_
  obtain ⟨F, hF⟩ : ∃ F : Fm, F = ⟨no, w0, Γ⟩ := ⟨_, rfl⟩
  refine WC.here (C := CC F Γ []) ?_ (hF ▸ Cur.start0 hs)
  refine WC.rs ?_
  refine va rfl rfl rfl (q_assign (v := .bool false) rfl (by kernel_rfl)) ?_
  refine WR.nil ?_
  change WC _ _ _ _ _ _
  refine WC.seq ?_
  refine WC.rs ?_
  refine va rfl rfl rfl (q_move (v := .slice Aa a.length ca) rfl (by kernel_rfl)) ?_
  refine va rfl rfl rfl (q_len_slice rfl Try.underlying22 rfl) ?_
  refine va rfl rfl rfl (q_move (v := .slice Ab b.length cb) rfl (by kernel_rfl)) ?_
  refine va rfl rfl rfl (q_len_slice rfl Try.underlying22 rfl) ?_
  refine va rfl rfl rfl (q_neq rfl rfl rfl) ?_
  refine WR.nil ?_
  change WC _ _ _ _ _ _
  refine WC.cif h (by kernel_rfl) (fun hb1 h => ?_) (fun hb1 h => ?_)
  · skip
    refine WC.rs ?_
    refine va rfl rfl rfl (q_assign (v := .bool false) rfl (by kernel_rfl)) ?_
    refine WR.nil ?_
    change WC _ _ _ _ _ _
    refine WC.ret ?_
    intro w hw
    obtain rfl := Option.some.inj h
    subst hF
    exact ⟨by kernel_rfl, hw.fr⟩
  · skip
    refine WC.skip ?_
    change WC _ _ _ _ _ _
    refine WC.seq ?_
    refine WC.rs ?_
    refine va rfl rfl rfl (q_assign (v := .int .i64 0) rfl (by kernel_rfl)) ?_
    refine WR.nil ?_
    change WC _ _ _ _ _ _
    refine WC.block ?_
    refine WC.forI h (fun (i3 : Nat) (s : Unit) σ w => match s with | () => slots σ [(0, .slice Aa a.length ca), (1, .slice Ab b.length cb), (5, .int .i64 ((i3 : Nat) : Int))] ∧ CC F Γ [] w ∧ True) ?_ ?_
    · skip
      intro w hw
      exact ⟨(sl_ (by kernel_rfl)), hw, trivial⟩
    rintro f2 i3 ⟨⟩ σ w hi4 hlt5 hge6 ⟨hsl, hw, -⟩
    refine Wpt.slots hsl ?_
    refine WC.here (C := CC F Γ []) ?_ hw
    clear hw hsl
    refine WC.seq ?_
    refine WC.rs ?_
    refine va rfl rfl rfl (q_move (v := .int .i64 ((i3 : Nat) : Int)) rfl (by kernel_rfl)) ?_
    refine va rfl rfl rfl (q_move (v := .slice Aa a.length ca) rfl (by kernel_rfl)) ?_
    refine va rfl rfl rfl (q_len_slice rfl Try.underlying22 rfl) ?_
    refine va rfl rfl rfl (q_lss rfl rfl rfl) ?_
    refine WR.nil ?_
    change WC _ _ _ _ _ _
    refine WC.cond (b := (decide (((i3 : Nat) : Int) < ((a.length : Nat) : Int)))) (by kernel_rfl) (fun hb7 => ?_) (fun hb7 => ?_)
    · skip
      have hl8 := ilt hb7
      have h := hlt5 hl8
      refine WC.skip ?_
      change WC _ _ _ _ _ _
      refine WC.seq ?_
      refine WC.block ?_
      refine WC.seq ?_
      refine WC.dr (by kernel_rfl) (by kernel_rfl) (fun w hw => hw.drawn _) ?_
      refine wa rfl rfl rfl (q_move (v := .slice Aa a.length ca) rfl (by kernel_rfl)) ?_
      refine wa rfl rfl rfl (q_move (v := .int .i64 ((i3 : Nat) : Int)) rfl (by kernel_rfl)) ?_
      refine wa rfl rfl rfl (q_ixn (i := i3) Try.underlying22 Try.sizeOf31 rfl rfl rfl hl8 (ha.some_ hl8)) ?_
      obtain ⟨A9, c10, hx11⟩ := ha.slT_at i3
      refine wa rfl rfl rfl (q_ld (c := 0) (v := .slice A9 (gt a i3).length c10) (hx11 hl8).2 rfl Try.isAgg31 rfl rfl) ?_
      refine wa rfl rfl rfl (q_bstr (hx11 hl8).1.2 Try.underlying31 Try.underlying5 Try.underlying9 rfl rfl) ?_
      refine wa rfl rfl rfl (q_move (v := .slice Ab b.length cb) rfl (by kernel_rfl)) ?_
      refine wa rfl rfl rfl (q_move (v := .int .i64 ((i3 : Nat) : Int)) rfl (by kernel_rfl)) ?_
      obtain ⟨hk12, h⟩ := chk_some h
      refine wa rfl rfl rfl (q_ixn (i := i3) Try.underlying22 Try.sizeOf31 rfl rfl rfl (of_decide_eq_true hk12) (hb.some_ (of_decide_eq_true hk12))) ?_
      obtain ⟨A13, c14, hx15⟩ := hb.slT_at i3
      refine wa rfl rfl rfl (q_ld (c := 0) (v := .slice A13 (gt b i3).length c14) (hx15 (of_decide_eq_true hk12)).2 rfl Try.isAgg31 rfl rfl) ?_
      refine wa rfl rfl rfl (q_bstr (hx15 (of_decide_eq_true hk12)).1.2 Try.underlying31 Try.underlying5 Try.underlying9 rfl rfl) ?_
      refine wa rfl rfl rfl (q_sneq rfl rfl rfl) ?_
      refine WQ.nil ?_
      change WC _ _ _ _ _ _
      refine WC.cif h (by kernel_rfl) (fun hb16 h => ?_) (fun hb16 h => ?_)
      · skip
        refine WC.rs ?_
        refine va rfl rfl rfl (q_assign (v := .bool false) rfl (by kernel_rfl)) ?_
        refine WR.nil ?_
        change WC _ _ _ _ _ _
        refine WC.ret ?_
        intro w hw
        obtain rfl := Option.some.inj h
        subst hF
        exact ⟨by kernel_rfl, hw.fr⟩
      · skip
        refine WC.skip ?_
        change WC _ _ _ _ _ _
        refine WC.region ?_
        refine va rfl rfl rfl (q_move (v := .int .i64 ((i3 : Nat) : Int)) rfl (by kernel_rfl)) ?_
        refine va rfl rfl rfl (q_add_r (r := ((i3 + 1 : Nat) : Int)) rfl rfl rfl (ctr_len hl8 ha.le)) ?_
        refine va rfl rfl rfl (q_assign (v := .int .i64 ((i3 + 1 : Nat) : Int)) rfl (by kernel_rfl)) ?_
        refine WR.nil ?_
        intro w hw
        exact ⟨hl8, (), h, (sl_ (by kernel_rfl)), hw, trivial⟩
    · skip
      have h := hge6 (ige hb7)
      refine WC.exit ?_
      change WC _ _ _ _ _ _
      refine WC.rs ?_
      refine va rfl rfl rfl (q_assign (v := .bool true) rfl (by kernel_rfl)) ?_
      refine WR.nil ?_
      change WC _ _ _ _ _ _
      refine WC.ret ?_
      intro w hw
      obtain rfl := Option.some.inj h
      subst hF
      exact ⟨by kernel_rfl, hw.fr⟩
set_option maxRecDepth 100000 in
set_option maxHeartbeats 400000 in
theorem t_firthlaw09_begins {Γ : Gh} {w0 : World} {Aa : Option Addr} {ca : Nat} {a : List (List UInt8)} (ha : Sl (slT byteT) Γ Aa a) (hac : a.length ≤ ca) {Ab : Option Addr} {cb : Nat} {b : List (List UInt8)} (hb : Sl (slT byteT) Γ Ab b) (hbc : b.length ≤ cb) (hs : Sat Γ w0) {r : Bool} (h : m_firthlaw09_begins a b = some r) : Calls Try.prog 16 #[.slice Aa a.length ca, .slice Ab b.length cb] w0 (fun e w' => e = .returned (.bool r) ∧ Fr no w0 w') := by
  refine calls_of (N := 18) (rs := [4]) (args := [.slice Aa a.length ca, .slice Ab b.length cb]) Try.func16 rfl Try.ntmps16 Try.results16 rfl ?_
  obtain ⟨F, hF⟩ : ∃ F : Fm, F = ⟨no, w0, Γ⟩ := ⟨_, rfl⟩
  refine WC.here (C := CC F Γ []) ?_ (hF ▸ Cur.start0 hs)
  refine WC.rs ?_
  refine va rfl rfl rfl (q_assign (v := .bool false) rfl (by kernel_rfl)) ?_
  refine WR.nil ?_
  change WC _ _ _ _ _ _
  refine WC.rs ?_
  refine va rfl rfl rfl (q_move (v := .slice Aa a.length ca) rfl (by kernel_rfl)) ?_
  refine va rfl rfl rfl (q_len_slice rfl Try.underlying22 rfl) ?_
  refine va rfl rfl rfl (q_move (v := .slice Ab b.length cb) rfl (by kernel_rfl)) ?_
  refine va rfl rfl rfl (q_len_slice rfl Try.underlying22 rfl) ?_
  refine va rfl rfl rfl (q_leq rfl rfl rfl) ?_
  refine va rfl rfl rfl (q_move (v := .bool (decide (((a.length : Nat) : Int) ≤ ((b.length : Nat) : Int)))) rfl (by kernel_rfl)) ?_
  refine vg1 rfl rfl rfl rfl rfl (fun hg1 => QV.qo (q_move (v := .slice Aa a.length ca) rfl (by kernel_rfl))) ?_
  refine vg1 rfl rfl rfl rfl rfl (fun hg2 => QV.qo (q_move (v := .slice Ab b.length cb) rfl (by kernel_rfl))) ?_
  refine vg1 rfl rfl rfl rfl rfl (fun hg3 => QV.qo (q_move (v := .slice Aa a.length ca) rfl (by kernel_rfl))) ?_
  refine vg1 rfl rfl rfl rfl rfl (fun hg4 => QV.qo (q_len_slice rfl Try.underlying22 (gu hg4 rfl))) ?_
  obtain ⟨hk6, h⟩ := chk_some h
  refine vg1 rfl rfl rfl rfl rfl (fun hg5 => QV.qo (q_cut_to (c := cb) (hi := a.length) (xs := b) Try.underlying22 Try.sizeOf31 rfl (gu hg5 rfl) (gu hg5 rfl) (of_decide_eq_true (imp_of hk6 hg5)) hbc)) ?_
  obtain ⟨z8, hz9, h⟩ := bnd h
  refine vg1 rfl rfl rfl rfl rfl (fun hg7 => (q_call (call_run Try.call18 rfl rfl (args2 (gu hg7 rfl) (gu hg7 rfl))) (fun w hw => t_firthref02_Same (Γ := Gh.all w) (ha.mono hw.sat.le_all) hac ((hb.cut_to (hi := a.length) (of_decide_eq_true (imp_of hk6 hg7))).mono hw.sat.le_all) (take_cap hbc a.length) (Sat.all w) (gc_of hz9 hg7)))) ?_
  refine va rfl rfl rfl (q_pick rfl rfl (pk_and' (g := (decide (((a.length : Nat) : Int) ≤ ((b.length : Nat) : Int)))) (y := z8))) ?_
  refine va rfl rfl rfl (q_assign (v := .bool ((decide (((a.length : Nat) : Int) ≤ ((b.length : Nat) : Int))) && z8)) rfl (by kernel_rfl)) ?_
  refine WR.nil ?_
  change WC _ _ _ _ _ _
  refine WC.ret ?_
  intro w hw
  obtain rfl := Option.some.inj h
  subst hF
  exact ⟨by kernel_rfl, hw.fr⟩
set_option maxRecDepth 100000 in
set_option maxHeartbeats 400000 in
theorem t_firthlaw09_SeglogRot {Γ : Gh} {w0 : World} {Alist : Option Addr} {clist : Nat} {list : List (List UInt8)} (hlist : Sl (slT byteT) Γ Alist list) (hlistc : list.length ≤ clist) (which : Int) (hwhich : I64 which) (at_ : Int) (hat_ : I64 at_) (hs : Sat Γ w0) {r : Bool} (h : m_firthlaw09_SeglogRot list which at_ = some r) : Calls Try.prog 3 #[.slice Alist list.length clist, .int .i64 which, .int .i64 at_] w0 (fun e w' => e = .returned (.bool r) ∧ Fr no w0 w') := by
  refine calls_of (N := 117) (rs := [6]) (args := [.slice Alist list.length clist, .int .i64 which, .int .i64 at_]) Try.func3 rfl Try.ntmps3 Try.results3 rfl ?_
  obtain ⟨F, hF⟩ : ∃ F : Fm, F = ⟨no, w0, Γ⟩ := ⟨_, rfl⟩
  refine WC.here (C := CC F Γ []) ?_ (hF ▸ Cur.start0 hs)
  refine WC.rs ?_
  refine va rfl rfl rfl (q_assign (v := .bool false) rfl (by kernel_rfl)) ?_
  refine WR.nil ?_
  change WC _ _ _ _ _ _
  refine WC.seq ?_
  refine WC.rs ?_
  obtain ⟨z1, hz2, h⟩ := bnd h
  refine vc rfl rfl rfl (q_call (call_run Try.call7 rfl rfl (by kernel_rfl)) (fun w hw => t_firthlaw09_awake (Γ := Gh.all w)  (Sat.all w) hz2)) ?_
  refine va rfl rfl rfl (q_not rfl rfl) ?_
  refine WR.nil ?_
  change WC _ _ _ _ _ _
  refine WC.cif h (by kernel_rfl) (fun hb3 h => ?_) (fun hb3 h => ?_)
  · skip
    refine WC.rs ?_
    refine va rfl rfl rfl (q_assign (v := .bool false) rfl (by kernel_rfl)) ?_
    refine WR.nil ?_
    change WC _ _ _ _ _ _
    refine WC.ret ?_
    intro w hw
    obtain rfl := Option.some.inj h
    subst hF
    exact ⟨by kernel_rfl, hw.fr⟩
  · skip
    refine WC.skip ?_
    change WC _ _ _ _ _ _
    refine WC.rs ?_
    obtain ⟨z4, hz5, h⟩ := bnd h
    refine e_call (is := []) rfl rfl (call_run Try.call8 rfl rfl (by kernel_rfl)) rfl (fun w hp => t_disk_New 65536 (show I64 65536 by decide) hp hz5) ?_
    rintro Γ6 U8 v9 hl7 ⟨g10, row11, rfl, rfl, hr12, _⟩
    change WR _ _ _ (CC F Γ6 [row11]) _ _ (upd _ 19 (.pointer (some ⟨g10, 0, none⟩)))
    refine va rfl rfl rfl (q_assign (v := .pointer (some ⟨g10, 0, none⟩)) rfl (by kernel_rfl)) ?_
    refine WR.nil ?_
    change WC _ _ _ _ _ _
    refine WC.rs ?_
    refine va rfl rfl rfl (q_move (v := .pointer (some ⟨g10, 0, none⟩)) rfl (by kernel_rfl)) ?_
    obtain ⟨z13, hz14, h⟩ := bnd h
    refine e_call (is := [0]) rfl rfl (call_run Try.call9 rfl rfl (by kernel_rfl)) rfl (fun w hp => t_seglog_Open hr12 (⟨#[99]⟩ : ByteArray) (show (⟨#[99]⟩ : ByteArray).size ≤ lim by decide) 24 (show I64 24 by decide) hp hz14) ?_
    rintro Γ15 U17 v18 hl16 ⟨row19, g21, row22, A24, c25, row26, rfl, rfl, hr20, hr23, hr27, hr28, _⟩
    change WR _ _ _ (CC F Γ15 [row19, row22, row26]) _ _ (upd _ 22 (.tuple #[optp z13.2.1 g21, .slice A24 z13.2.2.1.length c25, .int .i64 z13.2.2.2]))
    refine va rfl rfl rfl (q_move (v := .tuple #[optp z13.2.1 g21, .slice A24 z13.2.2.1.length c25, .int .i64 z13.2.2.2]) rfl (by kernel_rfl)) ?_
    refine va rfl rfl rfl (q_extract (v := optp z13.2.1 g21) rfl rfl rfl) ?_
    refine va rfl rfl rfl (q_extract (v := .slice A24 z13.2.2.1.length c25) rfl rfl rfl) ?_
    refine va rfl rfl rfl (q_extract (v := .int .i64 z13.2.2.2) rfl rfl rfl) ?_
    refine va rfl rfl rfl (q_assign (v := optp z13.2.1 g21) rfl (by kernel_rfl)) ?_
    refine va rfl rfl rfl (q_assign (v := .slice A24 z13.2.2.1.length c25) rfl (by kernel_rfl)) ?_
    refine va rfl rfl rfl (q_assign (v := .int .i64 z13.2.2.2) rfl (by kernel_rfl)) ?_
    refine WR.nil ?_
    change WC _ _ _ _ _ _
    refine WC.seq ?_
    refine WC.rs ?_
    refine va rfl rfl rfl (q_move (v := optp z13.2.1 g21) rfl (by kernel_rfl)) ?_
    refine va rfl rfl rfl (q_opt_eql Try.underlying26 rfl rfl rfl) ?_
    refine va rfl rfl rfl (q_move (v := .bool (Option.isNone z13.2.1)) rfl (by kernel_rfl)) ?_
    refine vg0 rfl rfl rfl rfl rfl (fun hg29 => QV.qo (q_move (v := .int .i64 z13.2.2.2) rfl (by kernel_rfl))) ?_
    refine vg0 rfl rfl rfl rfl rfl (fun hg30 => QV.qo (q_neq rfl (gu hg30 rfl) rfl)) ?_
    refine va rfl rfl rfl (q_pick rfl rfl (pk_or' (g := (Option.isNone z13.2.1)) (y := (z13.2.2.2 != 0)))) ?_
    refine WR.nil ?_
    change WC _ _ _ _ _ _
    refine WC.cif h (by kernel_rfl) (fun hb31 h => ?_) (fun hb31 h => ?_)
    · skip
      refine WC.rs ?_
      refine va rfl rfl rfl (q_assign (v := .bool false) rfl (by kernel_rfl)) ?_
      refine WR.nil ?_
      change WC _ _ _ _ _ _
      refine WC.ret ?_
      intro w hw
      obtain rfl := Option.some.inj h
      subst hF
      exact ⟨by kernel_rfl, hw.fr⟩
    · skip
      obtain ⟨z32, hz33, h⟩ := bnd h
      have ho34 := optob_some hr23 hz33
      refine WC.skip ?_
      change WC _ _ _ _ _ _
      refine WC.rs ?_
      refine va rfl rfl rfl (q_assign (v := .int .i64 0) rfl (by kernel_rfl)) ?_
      refine WR.nil ?_
      change WC _ _ _ _ _ _
      refine WC.seq ?_
      refine WC.block ?_
      refine WC.loopN h (fun (s : Int × Odisk_Disk × Oseglog_Log) σ w => match s with | (n_37, o39, o42) => ∃ (Γ35 : Gh), ∃ (row40 : Rowb), ∃ (row43 : Rowb), slots σ [(0, .slice Alist list.length clist), (1, .int .i64 which), (2, .int .i64 at_), (7, .pointer (some ⟨g10, 0, none⟩)), (8, optp z13.2.1 g21), (11, .int .i64 n_37)] ∧ CC F Γ35 [row40, row43] w ∧ Gh.le Γ15 Γ35 ∧ I64 n_37 ∧ Odisk_Disk.ob 52 Γ35 g10 row40 o39 ∧ Oseglog_Log.ob (63, g10) Γ35 g21 row43 o42 ∧ True) ?_ ?_
      · skip
        intro w hw
        exact ⟨Γ15, row19, row22, (sl_ (by kernel_rfl)), (hw.only (is := [0, 0]) rfl), (Gh.refl _), (show I64 0 by decide), hr20, ho34, trivial⟩
      rintro f45 ⟨n_37, o39, o42⟩ σ w h ⟨Γ35, row40, row43, hsl, hw, hl36, hr38, ho41, ho44, -⟩
      refine Wpt.slots hsl ?_
      refine WC.here (C := CC F Γ35 [row40, row43]) ?_ hw
      clear hw hsl
      refine WC.seq ?_
      refine WC.rs ?_
      refine va rfl rfl rfl (q_move (v := .int .i64 n_37) rfl (by kernel_rfl)) ?_
      refine va rfl rfl rfl (q_move (v := .slice Alist list.length clist) rfl (by kernel_rfl)) ?_
      refine va rfl rfl rfl (q_len_slice rfl Try.underlying22 rfl) ?_
      refine va rfl rfl rfl (q_lss rfl rfl rfl) ?_
      refine va rfl rfl rfl (q_move (v := .bool (decide (n_37 < ((list.length : Nat) : Int)))) rfl (by kernel_rfl)) ?_
      refine vg1 rfl rfl rfl rfl rfl (fun hg49 => QV.qo (q_move (v := .pointer (some ⟨g21, 0, none⟩)) rfl (optp_some rfl hz33))) ?_
      refine vg1 rfl rfl rfl rfl rfl (fun hg50 => QV.qo (q_move (v := .slice Alist list.length clist) rfl (by kernel_rfl))) ?_
      refine vg1 rfl rfl rfl rfl rfl (fun hg51 => QV.qo (q_move (v := .int .i64 n_37) rfl (by kernel_rfl))) ?_
      obtain ⟨hk53, h⟩ := chk_some h
      refine vg1 rfl rfl rfl rfl rfl (fun hg52 => QV.qo (q_ix Try.underlying22 Try.sizeOf31 rfl (gu hg52 rfl) (gu hg52 rfl) (imp_of hk53 hg52) ((hlist.mono ((hl7.trans hl16).trans hl36)).some_ (inb_lt (imp_of hk53 hg52))))) ?_
      obtain ⟨A55, c56, hx57⟩ := (hlist.mono ((hl7.trans hl16).trans hl36)).slT_at n_37.toNat
      refine vg1 rfl rfl rfl rfl rfl (fun hg54 => QV.qo (q_ld (c := 0) (v := .slice A55 (gt list n_37.toNat).length c56) (hx57 (inb_lt (imp_of hk53 hg54))).2 rfl Try.isAgg31 (gu hg54 rfl) rfl)) ?_
      refine (Bool.eq_false_or_eq_true (decide (n_37 < ((list.length : Nat) : Int)))).elim (fun hb58 => ?_) (fun hb58 => ?_)
      · skip
        have h := bt hb58 h
        refine WR.sat (c0 := true) (g := (decide (n_37 < ((list.length : Nat) : Int)))) rfl rfl rfl hb58 ?_
        obtain ⟨hk59, h⟩ := chk_some h
        obtain ⟨z60, hz61, h⟩ := bnd h
        refine e_call (is := [1, 0]) rfl rfl (call_run Try.call10 rfl rfl (args2 (gu hb58 rfl) (gu hb58 rfl))) rfl (fun w hp => t_seglog_Log_Append ho44 (hx57 (inb_lt hk59)).1.2 (hx57 (inb_lt hk59)).1.1 ho41 hp hz61) ?_
        rintro Γ62 U64 v65 hl63 ⟨row66, row68, rfl, rfl, hr67, hr69, hr70, _⟩
        change WR _ _ _ (CC F Γ62 [row66, row68]) _ _ (upd _ 42 (.int .i64 z60.2.2))
        refine WR.sat (c0 := true) (g := (decide (n_37 < ((list.length : Nat) : Int)))) rfl rfl rfl hb58 ?_
        refine va rfl rfl rfl (q_eql rfl rfl rfl) ?_
        refine va rfl rfl rfl (q_pick_t (v := .bool (z60.2.2 == 0)) rfl rfl hb58 (by kernel_rfl)) ?_
        refine WR.nil ?_
        change WC _ _ _ _ _ _
        refine WC.cif h (by kernel_rfl) (fun hb71 h => ?_) (fun hb71 h => ?_)
        · skip
          refine WC.skip ?_
          change WC _ _ _ _ _ _
          refine WC.block ?_
          refine WC.region ?_
          refine va rfl rfl rfl (q_move (v := .int .i64 n_37) rfl (by kernel_rfl)) ?_
          refine va rfl rfl rfl (q_add rfl rfl rfl) ?_
          refine va rfl rfl rfl (q_assign (v := .int .i64 (w64 (n_37 + 1))) rfl (by kernel_rfl)) ?_
          refine WR.nil ?_
          intro w hw
          exact ⟨((w64 (n_37 + 1)), z60.2.1, z60.1), h, Γ62, row68, row66, (sl_ (by kernel_rfl)), (hw.only (is := [1, 0]) rfl), (hl36.trans hl63), (w64_r _), hr69, hr67, trivial⟩
        · skip
          refine WC.exit ?_
          change WC _ _ _ _ _ _
          refine WC.rs ?_
          refine va rfl rfl rfl (q_move (v := .pointer (some ⟨g10, 0, none⟩)) rfl (by kernel_rfl)) ?_
          obtain ⟨z72, hz73, h⟩ := bnd h
          refine e_call (is := [1]) rfl rfl (call_run Try.call11 rfl rfl (by kernel_rfl)) rfl (fun w hp => t_disk_Disk_Names hr69 hp hz73) ?_
          rintro Γ74 U76 v77 hl75 ⟨A78, c79, row80, rfl, rfl, hr81, _⟩
          change WR _ _ _ (CC F Γ74 [row68, row80, row66]) _ _ (upd _ 48 (.slice A78 z72.length c79))
          refine va rfl rfl rfl (q_assign (v := .slice A78 z72.length c79) rfl (by kernel_rfl)) ?_
          refine WR.nil ?_
          change WC _ _ _ _ _ _
          refine WC.seq ?_
          refine WC.rs ?_
          refine va rfl rfl rfl (q_move (v := .int .i64 which) rfl (by kernel_rfl)) ?_
          refine va rfl rfl rfl (q_lss rfl rfl rfl) ?_
          refine va rfl rfl rfl (q_move (v := .bool (decide (which < 0))) rfl (by kernel_rfl)) ?_
          refine vg0 rfl rfl rfl rfl rfl (fun hg82 => QV.qo (q_move (v := .int .i64 which) rfl (by kernel_rfl))) ?_
          refine vg0 rfl rfl rfl rfl rfl (fun hg83 => QV.qo (q_move (v := .slice A78 z72.length c79) rfl (by kernel_rfl))) ?_
          refine vg0 rfl rfl rfl rfl rfl (fun hg84 => QV.qo (q_len_slice rfl Try.underlying32 (gu hg84 rfl))) ?_
          refine vg0 rfl rfl rfl rfl rfl (fun hg85 => QV.qo (q_geq rfl (gu hg85 rfl) (gu hg85 rfl))) ?_
          refine va rfl rfl rfl (q_pick rfl rfl (pk_or' (g := (decide (which < 0))) (y := (decide (((z72.length : Nat) : Int) ≤ which))))) ?_
          refine WR.nil ?_
          change WC _ _ _ _ _ _
          refine WC.cif h (by kernel_rfl) (fun hb86 h => ?_) (fun hb86 h => ?_)
          · skip
            refine WC.rs ?_
            refine va rfl rfl rfl (q_assign (v := .bool true) rfl (by kernel_rfl)) ?_
            refine WR.nil ?_
            change WC _ _ _ _ _ _
            refine WC.ret ?_
            intro w hw
            obtain rfl := Option.some.inj h
            subst hF
            exact ⟨by kernel_rfl, hw.fr⟩
          · skip
            refine WC.skip ?_
            change WC _ _ _ _ _ _
            refine WC.rs ?_
            refine va rfl rfl rfl (q_move (v := .pointer (some ⟨g10, 0, none⟩)) rfl (by kernel_rfl)) ?_
            refine va rfl rfl rfl (q_move (v := .slice A78 z72.length c79) rfl (by kernel_rfl)) ?_
            refine va rfl rfl rfl (q_move (v := .int .i64 which) rfl (by kernel_rfl)) ?_
            obtain ⟨hk87, h⟩ := chk_some h
            refine va rfl rfl rfl (q_ix Try.underlying32 Try.sizeOf9 rfl rfl rfl hk87 (hr81.some_ (inb_lt hk87))) ?_
            refine va rfl rfl rfl (q_ldo (c := 0) (v := .string (gt z72 which.toNat)) (i := 1) rfl (hr81.strT_at (inb_lt hk87)).2 rfl Try.isAgg9 rfl rfl) ?_
            obtain ⟨z88, hz89, h⟩ := bnd h
            refine e_call (is := [0]) rfl rfl (call_run Try.call12 rfl rfl (by kernel_rfl)) rfl (fun w hp => t_disk_Disk_Read (hr69.mono hl75) (gt z72 which.toNat) (hr81.strT_at (inb_lt hk87)).1 hp hz89) ?_
            rintro Γ90 U92 v93 hl91 ⟨A94, c95, row96, rfl, rfl, hr97, _⟩
            change WR _ _ _ (CC F Γ90 [row68, row96, row80, row66]) _ _ (upd _ 63 (.tuple #[.slice A94 z88.1.length c95, .bool z88.2]))
            refine va rfl rfl rfl (q_move (v := .tuple #[.slice A94 z88.1.length c95, .bool z88.2]) rfl (by kernel_rfl)) ?_
            refine va rfl rfl rfl (q_extract (v := .slice A94 z88.1.length c95) rfl rfl rfl) ?_
            refine va rfl rfl rfl (q_extract (v := .bool z88.2) rfl rfl rfl) ?_
            refine va rfl rfl rfl (q_assign (v := .slice A94 z88.1.length c95) rfl (by kernel_rfl)) ?_
            refine va rfl rfl rfl (q_assign (v := .bool z88.2) rfl (by kernel_rfl)) ?_
            refine WR.nil ?_
            change WC _ _ _ _ _ _
            refine WC.seq ?_
            refine WC.rs ?_
            refine va rfl rfl rfl (q_move (v := .int .i64 at_) rfl (by kernel_rfl)) ?_
            refine va rfl rfl rfl (q_lss rfl rfl rfl) ?_
            refine va rfl rfl rfl (q_move (v := .bool (decide (at_ < 0))) rfl (by kernel_rfl)) ?_
            refine vg0 rfl rfl rfl rfl rfl (fun hg98 => QV.qo (q_move (v := .int .i64 at_) rfl (by kernel_rfl))) ?_
            refine vg0 rfl rfl rfl rfl rfl (fun hg99 => QV.qo (q_move (v := .slice A94 z88.1.length c95) rfl (by kernel_rfl))) ?_
            refine vg0 rfl rfl rfl rfl rfl (fun hg100 => QV.qo (q_len_slice rfl Try.underlying31 (gu hg100 rfl))) ?_
            refine vg0 rfl rfl rfl rfl rfl (fun hg101 => QV.qo (q_geq rfl (gu hg101 rfl) (gu hg101 rfl))) ?_
            refine va rfl rfl rfl (q_pick rfl rfl (pk_or' (g := (decide (at_ < 0))) (y := (decide (((z88.1.length : Nat) : Int) ≤ at_))))) ?_
            refine WR.nil ?_
            change WC _ _ _ _ _ _
            refine WC.cif h (by kernel_rfl) (fun hb102 h => ?_) (fun hb102 h => ?_)
            · skip
              refine WC.rs ?_
              refine va rfl rfl rfl (q_assign (v := .bool true) rfl (by kernel_rfl)) ?_
              refine WR.nil ?_
              change WC _ _ _ _ _ _
              refine WC.ret ?_
              intro w hw
              obtain rfl := Option.some.inj h
              subst hF
              exact ⟨by kernel_rfl, hw.fr⟩
            · skip
              refine WC.skip ?_
              change WC _ _ _ _ _ _
              refine WC.seq ?_
              refine WC.rs ?_
              refine va rfl rfl rfl (q_move (v := .slice A94 z88.1.length c95) rfl (by kernel_rfl)) ?_
              refine va rfl rfl rfl (q_move (v := .int .i64 at_) rfl (by kernel_rfl)) ?_
              obtain ⟨z103, hz104, h⟩ := bnd h
              refine vc rfl rfl rfl (q_call (call_run Try.call13 rfl rfl (by kernel_rfl)) (fun w hw => t_firthlaw09_measure (Γ := Gh.all w) (hr97.sl hw.sat.le_all (hw.ra 1 rfl)) hr97.capz at_ hat_ (Sat.all w) hz104)) ?_
              refine WR.nil ?_
              change WC _ _ _ _ _ _
              refine WC.cif h (by kernel_rfl) (fun hb105 h => ?_) (fun hb105 h => ?_)
              · skip
                refine WC.rs ?_
                refine va rfl rfl rfl (q_assign (v := .bool true) rfl (by kernel_rfl)) ?_
                refine WR.nil ?_
                change WC _ _ _ _ _ _
                refine WC.ret ?_
                intro w hw
                obtain rfl := Option.some.inj h
                subst hF
                exact ⟨by kernel_rfl, hw.fr⟩
              · skip
                refine WC.skip ?_
                change WC _ _ _ _ _ _
                refine WC.rs ?_
                refine va rfl rfl rfl (q_move (v := .slice A94 z88.1.length c95) rfl (by kernel_rfl)) ?_
                refine va rfl rfl rfl (q_move (v := .int .i64 at_) rfl (by kernel_rfl)) ?_
                refine va rfl rfl rfl (q_move (v := .slice A94 z88.1.length c95) rfl (by kernel_rfl)) ?_
                refine va rfl rfl rfl (q_move (v := .int .i64 at_) rfl (by kernel_rfl)) ?_
                obtain ⟨hk106, h⟩ := chk_some h
                refine va rfl rfl rfl (q_ix Try.underlying31 Try.sizeOf5 rfl rfl rfl hk106 (hr97.some_ (inb_lt hk106))) ?_
                refine va rfl rfl rfl (q_ldo (c := 0) (v := .int .u8 (((gt z88.1 at_.toNat).toNat : Nat) : Int)) (i := 1) rfl (hr97.byteT_at (inb_lt hk106)).2 rfl Try.isAgg5 rfl rfl) ?_
                refine va rfl rfl rfl (q_xor rfl rfl rfl) ?_
                refine va rfl rfl rfl (q_ix Try.underlying31 Try.sizeOf5 rfl rfl rfl hk106 (hr97.some_ (inb_lt hk106))) ?_
                obtain ⟨hk107, h⟩ := chk_some h
                refine e_store_own (T := byteT) (q := at_.toNat) (v := .int .u8 (ixor .u8 (((gt z88.1 at_.toNat).toNat : Nat) : Int) 1)) (y := (b8 (ixor .u8 (((gt z88.1 at_.toNat).toNat : Nat) : Int) 1))) rfl rfl rfl rfl (by kernel_rfl) Try.sizeOf5 (by exact (by show [Value.int .u8 (ixor .u8 (((gt z88.1 at_.toNat).toNat : Nat) : Int) 1)] = [Value.int .u8 _]; rw [b8_val (u8b_of hk107)])) (i := 1) rfl hr97 (inb_lt hk106) ?_
                intro row108 ho109
                refine WR.nil ?_
                change WC _ _ _ _ _ _
                refine WC.rs ?_
                refine va rfl rfl rfl (q_move (v := .pointer (some ⟨g10, 0, none⟩)) rfl (by kernel_rfl)) ?_
                refine va rfl rfl rfl (q_move (v := .slice A78 z72.length c79) rfl (by kernel_rfl)) ?_
                refine va rfl rfl rfl (q_move (v := .int .i64 which) rfl (by kernel_rfl)) ?_
                refine va rfl rfl rfl (q_ix Try.underlying32 Try.sizeOf9 rfl rfl rfl hk87 ((hr81.mono hl91).some_ (inb_lt hk87))) ?_
                refine va rfl rfl rfl (q_ldo (c := 0) (v := .string (gt z72 which.toNat)) (i := 2) rfl ((hr81.mono hl91).strT_at (inb_lt hk87)).2 rfl Try.isAgg9 rfl rfl) ?_
                refine va rfl rfl rfl (q_move (v := .int .i64 at_) rfl (by kernel_rfl)) ?_
                obtain ⟨z110, hz111, h⟩ := bnd h
                refine e_call (is := [0]) rfl rfl (call_run Try.call14 rfl rfl (by kernel_rfl)) rfl (fun w hp => t_disk_Disk_Cut (hr69.mono (hl75.trans hl91)) (gt z72 which.toNat) ((hr81.mono hl91).strT_at (inb_lt hk87)).1 at_ hat_ hp hz111) ?_
                rintro Γ112 U114 v115 hl113 ⟨row116, rfl, rfl, hr117, hr118, _⟩
                change WR _ _ _ (CC F Γ112 [row116, row108, row80, row66]) _ _ (upd _ 91 (.int .i64 z110.2))
                refine WR.nil ?_
                change WC _ _ _ _ _ _
                refine WC.seq ?_
                refine WC.seq ?_
                rw [show Value.slice A94 (z88.1.length) c95 = Value.slice A94 ((List.set z88.1 at_.toNat (b8 (ixor .u8 (((gt z88.1 at_.toNat).toNat : Nat) : Int) 1))).length) c95 from by rw [List.length_set]]
                have hc123 := (ho109.mono hl113).capz
                intro w hw; obtain ⟨Γ119, hw, hl120, hr121⟩ := hw.seal (i := 1) rfl; have hs122 := (ho109.mono hl113).sl hl120 hr121
                refine WC.here (C := CC F Γ119 [row116, [], row80, row66]) ?_ hw
                clear hw
                intro w hw; have h0124 := hw.le
                refine WC.here (C := CC F Γ119 [row116, [], row80, row66]) ?_ hw; clear hw
                refine WC.held (CC F Γ119 [[], row80]) (by kernel_rfl) (fun w hw => hw.drawn _) ?_
                change WH _ _ _ _ (CC F Γ119 [row116, [], row80, row66]) _ 10 #[false, false, false, false, false, false, false, false, false, false] _
                refine ht (i := 0) rfl (by kernel_rfl) rfl rfl rfl (fun w hw => hw.back (Gh.refl _) h0124 (.cons _ (.cons_cons _ (.cons_cons _ (.cons _ .slnil))))) (q_move (v := .pointer (some ⟨g10, 0, none⟩)) rfl (by kernel_rfl)) ?_
                refine ht (i := 1) rfl (by kernel_rfl) rfl rfl rfl (fun w hw => hw.back (Gh.refl _) h0124 (.cons _ (.cons_cons _ (.cons_cons _ (.cons _ .slnil))))) (q_move (v := .slice A78 z72.length c79) rfl (by kernel_rfl)) ?_
                refine ht (i := 2) rfl (by kernel_rfl) rfl rfl rfl (fun w hw => hw.back (Gh.refl _) h0124 (.cons _ (.cons_cons _ (.cons_cons _ (.cons _ .slnil))))) (q_move (v := .int .i64 which) rfl (by kernel_rfl)) ?_
                refine ht (i := 3) rfl (by kernel_rfl) rfl rfl rfl (fun w hw => hw.back (Gh.refl _) h0124 (.cons _ (.cons_cons _ (.cons_cons _ (.cons _ .slnil))))) (q_ix Try.underlying32 Try.sizeOf9 rfl rfl rfl hk87 ((hr81.mono ((hl91.trans hl113).trans hl120)).some_ (inb_lt hk87))) ?_
                refine ht (i := 4) rfl (by kernel_rfl) rfl rfl rfl (fun w hw => hw.back (Gh.refl _) h0124 (.cons _ (.cons_cons _ (.cons_cons _ (.cons _ .slnil))))) (q_ldo (c := 0) (v := .string (gt z72 which.toNat)) (i := 1) rfl ((hr81.mono ((hl91.trans hl113).trans hl120)).strT_at (inb_lt hk87)).2 rfl Try.isAgg9 rfl rfl) ?_
                refine ht (i := 5) rfl (by kernel_rfl) rfl rfl rfl (fun w hw => hw.back (Gh.refl _) h0124 (.cons _ (.cons_cons _ (.cons_cons _ (.cons _ .slnil))))) (q_move (v := .slice A94 (List.set z88.1 at_.toNat (b8 (ixor .u8 (((gt z88.1 at_.toNat).toNat : Nat) : Int) 1))).length c95) rfl (by kernel_rfl)) ?_
                refine ht (i := 6) rfl (by kernel_rfl) rfl rfl rfl (fun w hw => hw.back (Gh.refl _) h0124 (.cons _ (.cons_cons _ (.cons_cons _ (.cons _ .slnil))))) (q_move (v := .int .i64 at_) rfl (by kernel_rfl)) ?_
                obtain ⟨hk125, h⟩ := chk_some h
                refine ht (i := 7) rfl (by kernel_rfl) rfl rfl rfl (fun w hw => hw.back (Gh.refl _) h0124 (.cons _ (.cons_cons _ (.cons_cons _ (.cons _ .slnil))))) (q_cut_from (c := c95) (lo := at_.toNat) (xs := (List.set z88.1 at_.toNat (b8 (ixor .u8 (((gt z88.1 at_.toNat).toNat : Nat) : Int) 1)))) Try.underlying31 Try.sizeOf5 rfl rfl (inle_eq rfl hk125) (inle_le hk125)) ?_
                refine WH.lone (i := 8) (by kernel_rfl) rfl ?_
                obtain ⟨z126, hz127, h⟩ := bnd h
                refine e_call (is := [0]) rfl rfl (call_run Try.call15 rfl rfl (by kernel_rfl)) rfl (fun w hp => t_disk_Disk_Append (hr117.mono hl120) (gt z72 which.toNat) ((hr81.mono ((hl91.trans hl113).trans hl120)).strT_at (inb_lt hk87)).1 (hs122.cut_from (c := c95) (lo := at_.toNat) (inle_le hk125) hc123) (cut_cap hc123 at_.toNat) hp hz127) ?_
                rintro Γ128 U130 v131 hl129 ⟨row132, rfl, rfl, hr133, hr134, _⟩
                change WR _ _ _ (CC F Γ128 [row132, [], row80, row66]) _ _ (upd _ 100 (.int .i64 z126.2))
                refine WR.nil ?_
                refine WH.next (fun w hw => hw.back hl129 h0124 (.cons _ (.cons_cons _ (.cons_cons _ (.cons _ .slnil))))) ?_
                refine ht (i := 9) rfl (by kernel_rfl) rfl rfl rfl (fun w hw => hw.back hl129 h0124 (.cons _ (.cons_cons _ (.cons_cons _ (.cons _ .slnil))))) (q_neq rfl rfl rfl) ?_
                refine WH.done (by kernel_rfl) ?_
                change WC _ _ _ _ _ _
                refine WC.cif h (by kernel_rfl) (fun hb135 h => ?_) (fun hb135 h => ?_)
                · skip
                  refine WC.rs ?_
                  refine va rfl rfl rfl (q_assign (v := .bool true) rfl (by kernel_rfl)) ?_
                  refine WR.nil ?_
                  change WC _ _ _ _ _ _
                  refine WC.ret ?_
                  intro w hw
                  obtain rfl := Option.some.inj h
                  subst hF
                  exact ⟨by kernel_rfl, hw.fr⟩
                · skip
                  refine WC.skip ?_
                  change WC _ _ _ _ _ _
                  refine WC.rs ?_
                  refine va rfl rfl rfl (q_move (v := .pointer (some ⟨g10, 0, none⟩)) rfl (by kernel_rfl)) ?_
                  obtain ⟨z136, hz137, h⟩ := bnd h
                  refine e_call (is := [0]) rfl rfl (call_run Try.call9 rfl rfl (by kernel_rfl)) rfl (fun w hp => t_seglog_Open hr133 (⟨#[99]⟩ : ByteArray) (show (⟨#[99]⟩ : ByteArray).size ≤ lim by decide) 24 (show I64 24 by decide) hp hz137) ?_
                  rintro Γ138 U140 v141 hl139 ⟨row142, g144, row145, A147, c148, row149, rfl, rfl, hr143, hr146, hr150, hr151, _⟩
                  change WR _ _ _ (CC F Γ138 [row142, row145, row149, [], row80, row66]) _ _ (upd _ 104 (.tuple #[optp z136.2.1 g144, .slice A147 z136.2.2.1.length c148, .int .i64 z136.2.2.2]))
                  refine va rfl rfl rfl (q_move (v := .tuple #[optp z136.2.1 g144, .slice A147 z136.2.2.1.length c148, .int .i64 z136.2.2.2]) rfl (by kernel_rfl)) ?_
                  refine va rfl rfl rfl (q_extract (v := optp z136.2.1 g144) rfl rfl rfl) ?_
                  refine va rfl rfl rfl (q_extract (v := .slice A147 z136.2.2.1.length c148) rfl rfl rfl) ?_
                  refine va rfl rfl rfl (q_extract (v := .int .i64 z136.2.2.2) rfl rfl rfl) ?_
                  refine va rfl rfl rfl (q_assign (v := optp z136.2.1 g144) rfl (by kernel_rfl)) ?_
                  refine va rfl rfl rfl (q_assign (v := .slice A147 z136.2.2.1.length c148) rfl (by kernel_rfl)) ?_
                  refine va rfl rfl rfl (q_assign (v := .int .i64 z136.2.2.2) rfl (by kernel_rfl)) ?_
                  refine WR.nil ?_
                  change WC _ _ _ _ _ _
                  refine WC.rs ?_
                  refine va rfl rfl rfl (q_move (v := .int .i64 z136.2.2.2) rfl (by kernel_rfl)) ?_
                  refine va rfl rfl rfl (q_eql rfl rfl rfl) ?_
                  refine va rfl rfl rfl (q_move (v := .bool (z136.2.2.2 == 0)) rfl (by kernel_rfl)) ?_
                  refine vg1 rfl rfl rfl rfl rfl (fun hg152 => QV.qo (q_move (v := .slice A147 z136.2.2.1.length c148) rfl (by kernel_rfl))) ?_
                  refine vg1 rfl rfl rfl rfl rfl (fun hg153 => QV.qo (q_move (v := .slice Alist list.length clist) rfl (by kernel_rfl))) ?_
                  refine vg1 rfl rfl rfl rfl rfl (fun hg154 => QV.qo (q_move (v := .int .i64 n_37) rfl (by kernel_rfl))) ?_
                  obtain ⟨hk156, h⟩ := chk_some h
                  refine vg1 rfl rfl rfl rfl rfl (fun hg155 => QV.qo (q_cut_to (c := clist) (hi := n_37.toNat) (xs := list) Try.underlying22 Try.sizeOf31 rfl (gu hg155 rfl) (inle_eq (gu hg155 rfl) (imp_of hk156 hg155)) (inle_le (imp_of hk156 hg155)) hlistc)) ?_
                  obtain ⟨z158, hz159, h⟩ := bnd h
                  refine vg1 rfl rfl rfl rfl rfl (fun hg157 => (q_call (call_run Try.call16 rfl rfl (args2 (gu hg157 rfl) (gu hg157 rfl))) (fun w hw => t_firthlaw09_begins (Γ := Gh.all w) (hr150.sl hw.sat.le_all (hw.ra 2 rfl)) hr150.capz (((hlist.mono (((((((((hl7.trans hl16).trans hl36).trans hl63).trans hl75).trans hl91).trans hl113).trans hl120).trans hl129).trans hl139)).cut_to (hi := n_37.toNat) (inle_le (imp_of hk156 hg157))).mono hw.sat.le_all) (take_cap hlistc n_37.toNat) (Sat.all w) (gc_of hz159 hg157)))) ?_
                  refine va rfl rfl rfl (q_pick rfl rfl (pk_and' (g := (z136.2.2.2 == 0)) (y := z158))) ?_
                  refine va rfl rfl rfl (q_assign (v := .bool ((z136.2.2.2 == 0) && z158)) rfl (by kernel_rfl)) ?_
                  refine WR.nil ?_
                  change WC _ _ _ _ _ _
                  refine WC.ret ?_
                  intro w hw
                  obtain rfl := Option.some.inj h
                  subst hF
                  exact ⟨by kernel_rfl, hw.fr⟩
      · skip
        have h := bf hb58 h
        refine WR.unsat (c0 := true) (g := (decide (n_37 < ((list.length : Nat) : Int)))) rfl rfl rfl hb58 rfl ?_
        refine WR.unsat (c0 := true) (g := (decide (n_37 < ((list.length : Nat) : Int)))) rfl rfl rfl hb58 rfl ?_
        refine va rfl rfl rfl (q_pick_f (v := .bool false) rfl rfl hb58 (by kernel_rfl)) ?_
        refine WR.nil ?_
        change WC _ _ _ _ _ _
        refine WC.cfk (b := false) (by kernel_rfl) rfl ?_
        refine WC.exit ?_
        change WC _ _ _ _ _ _
        refine WC.rs ?_
        refine va rfl rfl rfl (q_move (v := .pointer (some ⟨g10, 0, none⟩)) rfl (by kernel_rfl)) ?_
        obtain ⟨z160, hz161, h⟩ := bnd h
        refine e_call (is := [0]) rfl rfl (call_run Try.call11 rfl rfl (by kernel_rfl)) rfl (fun w hp => t_disk_Disk_Names ho41 hp hz161) ?_
        rintro Γ162 U164 v165 hl163 ⟨A166, c167, row168, rfl, rfl, hr169, _⟩
        change WR _ _ _ (CC F Γ162 [row40, row168, row43]) _ _ (upd _ 48 (.slice A166 z160.length c167))
        refine va rfl rfl rfl (q_assign (v := .slice A166 z160.length c167) rfl (by kernel_rfl)) ?_
        refine WR.nil ?_
        change WC _ _ _ _ _ _
        refine WC.seq ?_
        refine WC.rs ?_
        refine va rfl rfl rfl (q_move (v := .int .i64 which) rfl (by kernel_rfl)) ?_
        refine va rfl rfl rfl (q_lss rfl rfl rfl) ?_
        refine va rfl rfl rfl (q_move (v := .bool (decide (which < 0))) rfl (by kernel_rfl)) ?_
        refine vg0 rfl rfl rfl rfl rfl (fun hg170 => QV.qo (q_move (v := .int .i64 which) rfl (by kernel_rfl))) ?_
        refine vg0 rfl rfl rfl rfl rfl (fun hg171 => QV.qo (q_move (v := .slice A166 z160.length c167) rfl (by kernel_rfl))) ?_
        refine vg0 rfl rfl rfl rfl rfl (fun hg172 => QV.qo (q_len_slice rfl Try.underlying32 (gu hg172 rfl))) ?_
        refine vg0 rfl rfl rfl rfl rfl (fun hg173 => QV.qo (q_geq rfl (gu hg173 rfl) (gu hg173 rfl))) ?_
        refine va rfl rfl rfl (q_pick rfl rfl (pk_or' (g := (decide (which < 0))) (y := (decide (((z160.length : Nat) : Int) ≤ which))))) ?_
        refine WR.nil ?_
        change WC _ _ _ _ _ _
        refine WC.cif h (by kernel_rfl) (fun hb174 h => ?_) (fun hb174 h => ?_)
        · skip
          refine WC.rs ?_
          refine va rfl rfl rfl (q_assign (v := .bool true) rfl (by kernel_rfl)) ?_
          refine WR.nil ?_
          change WC _ _ _ _ _ _
          refine WC.ret ?_
          intro w hw
          obtain rfl := Option.some.inj h
          subst hF
          exact ⟨by kernel_rfl, hw.fr⟩
        · skip
          refine WC.skip ?_
          change WC _ _ _ _ _ _
          refine WC.rs ?_
          refine va rfl rfl rfl (q_move (v := .pointer (some ⟨g10, 0, none⟩)) rfl (by kernel_rfl)) ?_
          refine va rfl rfl rfl (q_move (v := .slice A166 z160.length c167) rfl (by kernel_rfl)) ?_
          refine va rfl rfl rfl (q_move (v := .int .i64 which) rfl (by kernel_rfl)) ?_
          obtain ⟨hk175, h⟩ := chk_some h
          refine va rfl rfl rfl (q_ix Try.underlying32 Try.sizeOf9 rfl rfl rfl hk175 (hr169.some_ (inb_lt hk175))) ?_
          refine va rfl rfl rfl (q_ldo (c := 0) (v := .string (gt z160 which.toNat)) (i := 1) rfl (hr169.strT_at (inb_lt hk175)).2 rfl Try.isAgg9 rfl rfl) ?_
          obtain ⟨z176, hz177, h⟩ := bnd h
          refine e_call (is := [0]) rfl rfl (call_run Try.call12 rfl rfl (by kernel_rfl)) rfl (fun w hp => t_disk_Disk_Read (ho41.mono hl163) (gt z160 which.toNat) (hr169.strT_at (inb_lt hk175)).1 hp hz177) ?_
          rintro Γ178 U180 v181 hl179 ⟨A182, c183, row184, rfl, rfl, hr185, _⟩
          change WR _ _ _ (CC F Γ178 [row40, row184, row168, row43]) _ _ (upd _ 63 (.tuple #[.slice A182 z176.1.length c183, .bool z176.2]))
          refine va rfl rfl rfl (q_move (v := .tuple #[.slice A182 z176.1.length c183, .bool z176.2]) rfl (by kernel_rfl)) ?_
          refine va rfl rfl rfl (q_extract (v := .slice A182 z176.1.length c183) rfl rfl rfl) ?_
          refine va rfl rfl rfl (q_extract (v := .bool z176.2) rfl rfl rfl) ?_
          refine va rfl rfl rfl (q_assign (v := .slice A182 z176.1.length c183) rfl (by kernel_rfl)) ?_
          refine va rfl rfl rfl (q_assign (v := .bool z176.2) rfl (by kernel_rfl)) ?_
          refine WR.nil ?_
          change WC _ _ _ _ _ _
          refine WC.seq ?_
          refine WC.rs ?_
          refine va rfl rfl rfl (q_move (v := .int .i64 at_) rfl (by kernel_rfl)) ?_
          refine va rfl rfl rfl (q_lss rfl rfl rfl) ?_
          refine va rfl rfl rfl (q_move (v := .bool (decide (at_ < 0))) rfl (by kernel_rfl)) ?_
          refine vg0 rfl rfl rfl rfl rfl (fun hg186 => QV.qo (q_move (v := .int .i64 at_) rfl (by kernel_rfl))) ?_
          refine vg0 rfl rfl rfl rfl rfl (fun hg187 => QV.qo (q_move (v := .slice A182 z176.1.length c183) rfl (by kernel_rfl))) ?_
          refine vg0 rfl rfl rfl rfl rfl (fun hg188 => QV.qo (q_len_slice rfl Try.underlying31 (gu hg188 rfl))) ?_
          refine vg0 rfl rfl rfl rfl rfl (fun hg189 => QV.qo (q_geq rfl (gu hg189 rfl) (gu hg189 rfl))) ?_
          refine va rfl rfl rfl (q_pick rfl rfl (pk_or' (g := (decide (at_ < 0))) (y := (decide (((z176.1.length : Nat) : Int) ≤ at_))))) ?_
          refine WR.nil ?_
          change WC _ _ _ _ _ _
          refine WC.cif h (by kernel_rfl) (fun hb190 h => ?_) (fun hb190 h => ?_)
          · skip
            refine WC.rs ?_
            refine va rfl rfl rfl (q_assign (v := .bool true) rfl (by kernel_rfl)) ?_
            refine WR.nil ?_
            change WC _ _ _ _ _ _
            refine WC.ret ?_
            intro w hw
            obtain rfl := Option.some.inj h
            subst hF
            exact ⟨by kernel_rfl, hw.fr⟩
          · skip
            refine WC.skip ?_
            change WC _ _ _ _ _ _
            refine WC.seq ?_
            refine WC.rs ?_
            refine va rfl rfl rfl (q_move (v := .slice A182 z176.1.length c183) rfl (by kernel_rfl)) ?_
            refine va rfl rfl rfl (q_move (v := .int .i64 at_) rfl (by kernel_rfl)) ?_
            obtain ⟨z191, hz192, h⟩ := bnd h
            refine vc rfl rfl rfl (q_call (call_run Try.call13 rfl rfl (by kernel_rfl)) (fun w hw => t_firthlaw09_measure (Γ := Gh.all w) (hr185.sl hw.sat.le_all (hw.ra 1 rfl)) hr185.capz at_ hat_ (Sat.all w) hz192)) ?_
            refine WR.nil ?_
            change WC _ _ _ _ _ _
            refine WC.cif h (by kernel_rfl) (fun hb193 h => ?_) (fun hb193 h => ?_)
            · skip
              refine WC.rs ?_
              refine va rfl rfl rfl (q_assign (v := .bool true) rfl (by kernel_rfl)) ?_
              refine WR.nil ?_
              change WC _ _ _ _ _ _
              refine WC.ret ?_
              intro w hw
              obtain rfl := Option.some.inj h
              subst hF
              exact ⟨by kernel_rfl, hw.fr⟩
            · skip
              refine WC.skip ?_
              change WC _ _ _ _ _ _
              refine WC.rs ?_
              refine va rfl rfl rfl (q_move (v := .slice A182 z176.1.length c183) rfl (by kernel_rfl)) ?_
              refine va rfl rfl rfl (q_move (v := .int .i64 at_) rfl (by kernel_rfl)) ?_
              refine va rfl rfl rfl (q_move (v := .slice A182 z176.1.length c183) rfl (by kernel_rfl)) ?_
              refine va rfl rfl rfl (q_move (v := .int .i64 at_) rfl (by kernel_rfl)) ?_
              obtain ⟨hk194, h⟩ := chk_some h
              refine va rfl rfl rfl (q_ix Try.underlying31 Try.sizeOf5 rfl rfl rfl hk194 (hr185.some_ (inb_lt hk194))) ?_
              refine va rfl rfl rfl (q_ldo (c := 0) (v := .int .u8 (((gt z176.1 at_.toNat).toNat : Nat) : Int)) (i := 1) rfl (hr185.byteT_at (inb_lt hk194)).2 rfl Try.isAgg5 rfl rfl) ?_
              refine va rfl rfl rfl (q_xor rfl rfl rfl) ?_
              refine va rfl rfl rfl (q_ix Try.underlying31 Try.sizeOf5 rfl rfl rfl hk194 (hr185.some_ (inb_lt hk194))) ?_
              obtain ⟨hk195, h⟩ := chk_some h
              refine e_store_own (T := byteT) (q := at_.toNat) (v := .int .u8 (ixor .u8 (((gt z176.1 at_.toNat).toNat : Nat) : Int) 1)) (y := (b8 (ixor .u8 (((gt z176.1 at_.toNat).toNat : Nat) : Int) 1))) rfl rfl rfl rfl (by kernel_rfl) Try.sizeOf5 (by exact (by show [Value.int .u8 (ixor .u8 (((gt z176.1 at_.toNat).toNat : Nat) : Int) 1)] = [Value.int .u8 _]; rw [b8_val (u8b_of hk195)])) (i := 1) rfl hr185 (inb_lt hk194) ?_
              intro row196 ho197
              refine WR.nil ?_
              change WC _ _ _ _ _ _
              refine WC.rs ?_
              refine va rfl rfl rfl (q_move (v := .pointer (some ⟨g10, 0, none⟩)) rfl (by kernel_rfl)) ?_
              refine va rfl rfl rfl (q_move (v := .slice A166 z160.length c167) rfl (by kernel_rfl)) ?_
              refine va rfl rfl rfl (q_move (v := .int .i64 which) rfl (by kernel_rfl)) ?_
              refine va rfl rfl rfl (q_ix Try.underlying32 Try.sizeOf9 rfl rfl rfl hk175 ((hr169.mono hl179).some_ (inb_lt hk175))) ?_
              refine va rfl rfl rfl (q_ldo (c := 0) (v := .string (gt z160 which.toNat)) (i := 2) rfl ((hr169.mono hl179).strT_at (inb_lt hk175)).2 rfl Try.isAgg9 rfl rfl) ?_
              refine va rfl rfl rfl (q_move (v := .int .i64 at_) rfl (by kernel_rfl)) ?_
              obtain ⟨z198, hz199, h⟩ := bnd h
              refine e_call (is := [0]) rfl rfl (call_run Try.call14 rfl rfl (by kernel_rfl)) rfl (fun w hp => t_disk_Disk_Cut (ho41.mono (hl163.trans hl179)) (gt z160 which.toNat) ((hr169.mono hl179).strT_at (inb_lt hk175)).1 at_ hat_ hp hz199) ?_
              rintro Γ200 U202 v203 hl201 ⟨row204, rfl, rfl, hr205, hr206, _⟩
              change WR _ _ _ (CC F Γ200 [row204, row196, row168, row43]) _ _ (upd _ 91 (.int .i64 z198.2))
              refine WR.nil ?_
              change WC _ _ _ _ _ _
              refine WC.seq ?_
              refine WC.seq ?_
              rw [show Value.slice A182 (z176.1.length) c183 = Value.slice A182 ((List.set z176.1 at_.toNat (b8 (ixor .u8 (((gt z176.1 at_.toNat).toNat : Nat) : Int) 1))).length) c183 from by rw [List.length_set]]
              have hc211 := (ho197.mono hl201).capz
              intro w hw; obtain ⟨Γ207, hw, hl208, hr209⟩ := hw.seal (i := 1) rfl; have hs210 := (ho197.mono hl201).sl hl208 hr209
              refine WC.here (C := CC F Γ207 [row204, [], row168, row43]) ?_ hw
              clear hw
              intro w hw; have h0212 := hw.le
              refine WC.here (C := CC F Γ207 [row204, [], row168, row43]) ?_ hw; clear hw
              refine WC.held (CC F Γ207 [[], row168]) (by kernel_rfl) (fun w hw => hw.drawn _) ?_
              change WH _ _ _ _ (CC F Γ207 [row204, [], row168, row43]) _ 10 #[false, false, false, false, false, false, false, false, false, false] _
              refine ht (i := 0) rfl (by kernel_rfl) rfl rfl rfl (fun w hw => hw.back (Gh.refl _) h0212 (.cons _ (.cons_cons _ (.cons_cons _ (.cons _ .slnil))))) (q_move (v := .pointer (some ⟨g10, 0, none⟩)) rfl (by kernel_rfl)) ?_
              refine ht (i := 1) rfl (by kernel_rfl) rfl rfl rfl (fun w hw => hw.back (Gh.refl _) h0212 (.cons _ (.cons_cons _ (.cons_cons _ (.cons _ .slnil))))) (q_move (v := .slice A166 z160.length c167) rfl (by kernel_rfl)) ?_
              refine ht (i := 2) rfl (by kernel_rfl) rfl rfl rfl (fun w hw => hw.back (Gh.refl _) h0212 (.cons _ (.cons_cons _ (.cons_cons _ (.cons _ .slnil))))) (q_move (v := .int .i64 which) rfl (by kernel_rfl)) ?_
              refine ht (i := 3) rfl (by kernel_rfl) rfl rfl rfl (fun w hw => hw.back (Gh.refl _) h0212 (.cons _ (.cons_cons _ (.cons_cons _ (.cons _ .slnil))))) (q_ix Try.underlying32 Try.sizeOf9 rfl rfl rfl hk175 ((hr169.mono ((hl179.trans hl201).trans hl208)).some_ (inb_lt hk175))) ?_
              refine ht (i := 4) rfl (by kernel_rfl) rfl rfl rfl (fun w hw => hw.back (Gh.refl _) h0212 (.cons _ (.cons_cons _ (.cons_cons _ (.cons _ .slnil))))) (q_ldo (c := 0) (v := .string (gt z160 which.toNat)) (i := 1) rfl ((hr169.mono ((hl179.trans hl201).trans hl208)).strT_at (inb_lt hk175)).2 rfl Try.isAgg9 rfl rfl) ?_
              refine ht (i := 5) rfl (by kernel_rfl) rfl rfl rfl (fun w hw => hw.back (Gh.refl _) h0212 (.cons _ (.cons_cons _ (.cons_cons _ (.cons _ .slnil))))) (q_move (v := .slice A182 (List.set z176.1 at_.toNat (b8 (ixor .u8 (((gt z176.1 at_.toNat).toNat : Nat) : Int) 1))).length c183) rfl (by kernel_rfl)) ?_
              refine ht (i := 6) rfl (by kernel_rfl) rfl rfl rfl (fun w hw => hw.back (Gh.refl _) h0212 (.cons _ (.cons_cons _ (.cons_cons _ (.cons _ .slnil))))) (q_move (v := .int .i64 at_) rfl (by kernel_rfl)) ?_
              obtain ⟨hk213, h⟩ := chk_some h
              refine ht (i := 7) rfl (by kernel_rfl) rfl rfl rfl (fun w hw => hw.back (Gh.refl _) h0212 (.cons _ (.cons_cons _ (.cons_cons _ (.cons _ .slnil))))) (q_cut_from (c := c183) (lo := at_.toNat) (xs := (List.set z176.1 at_.toNat (b8 (ixor .u8 (((gt z176.1 at_.toNat).toNat : Nat) : Int) 1)))) Try.underlying31 Try.sizeOf5 rfl rfl (inle_eq rfl hk213) (inle_le hk213)) ?_
              refine WH.lone (i := 8) (by kernel_rfl) rfl ?_
              obtain ⟨z214, hz215, h⟩ := bnd h
              refine e_call (is := [0]) rfl rfl (call_run Try.call15 rfl rfl (by kernel_rfl)) rfl (fun w hp => t_disk_Disk_Append (hr205.mono hl208) (gt z160 which.toNat) ((hr169.mono ((hl179.trans hl201).trans hl208)).strT_at (inb_lt hk175)).1 (hs210.cut_from (c := c183) (lo := at_.toNat) (inle_le hk213) hc211) (cut_cap hc211 at_.toNat) hp hz215) ?_
              rintro Γ216 U218 v219 hl217 ⟨row220, rfl, rfl, hr221, hr222, _⟩
              change WR _ _ _ (CC F Γ216 [row220, [], row168, row43]) _ _ (upd _ 100 (.int .i64 z214.2))
              refine WR.nil ?_
              refine WH.next (fun w hw => hw.back hl217 h0212 (.cons _ (.cons_cons _ (.cons_cons _ (.cons _ .slnil))))) ?_
              refine ht (i := 9) rfl (by kernel_rfl) rfl rfl rfl (fun w hw => hw.back hl217 h0212 (.cons _ (.cons_cons _ (.cons_cons _ (.cons _ .slnil))))) (q_neq rfl rfl rfl) ?_
              refine WH.done (by kernel_rfl) ?_
              change WC _ _ _ _ _ _
              refine WC.cif h (by kernel_rfl) (fun hb223 h => ?_) (fun hb223 h => ?_)
              · skip
                refine WC.rs ?_
                refine va rfl rfl rfl (q_assign (v := .bool true) rfl (by kernel_rfl)) ?_
                refine WR.nil ?_
                change WC _ _ _ _ _ _
                refine WC.ret ?_
                intro w hw
                obtain rfl := Option.some.inj h
                subst hF
                exact ⟨by kernel_rfl, hw.fr⟩
              · skip
                refine WC.skip ?_
                change WC _ _ _ _ _ _
                refine WC.rs ?_
                refine va rfl rfl rfl (q_move (v := .pointer (some ⟨g10, 0, none⟩)) rfl (by kernel_rfl)) ?_
                obtain ⟨z224, hz225, h⟩ := bnd h
                refine e_call (is := [0]) rfl rfl (call_run Try.call9 rfl rfl (by kernel_rfl)) rfl (fun w hp => t_seglog_Open hr221 (⟨#[99]⟩ : ByteArray) (show (⟨#[99]⟩ : ByteArray).size ≤ lim by decide) 24 (show I64 24 by decide) hp hz225) ?_
                rintro Γ226 U228 v229 hl227 ⟨row230, g232, row233, A235, c236, row237, rfl, rfl, hr231, hr234, hr238, hr239, _⟩
                change WR _ _ _ (CC F Γ226 [row230, row233, row237, [], row168, row43]) _ _ (upd _ 104 (.tuple #[optp z224.2.1 g232, .slice A235 z224.2.2.1.length c236, .int .i64 z224.2.2.2]))
                refine va rfl rfl rfl (q_move (v := .tuple #[optp z224.2.1 g232, .slice A235 z224.2.2.1.length c236, .int .i64 z224.2.2.2]) rfl (by kernel_rfl)) ?_
                refine va rfl rfl rfl (q_extract (v := optp z224.2.1 g232) rfl rfl rfl) ?_
                refine va rfl rfl rfl (q_extract (v := .slice A235 z224.2.2.1.length c236) rfl rfl rfl) ?_
                refine va rfl rfl rfl (q_extract (v := .int .i64 z224.2.2.2) rfl rfl rfl) ?_
                refine va rfl rfl rfl (q_assign (v := optp z224.2.1 g232) rfl (by kernel_rfl)) ?_
                refine va rfl rfl rfl (q_assign (v := .slice A235 z224.2.2.1.length c236) rfl (by kernel_rfl)) ?_
                refine va rfl rfl rfl (q_assign (v := .int .i64 z224.2.2.2) rfl (by kernel_rfl)) ?_
                refine WR.nil ?_
                change WC _ _ _ _ _ _
                refine WC.rs ?_
                refine va rfl rfl rfl (q_move (v := .int .i64 z224.2.2.2) rfl (by kernel_rfl)) ?_
                refine va rfl rfl rfl (q_eql rfl rfl rfl) ?_
                refine va rfl rfl rfl (q_move (v := .bool (z224.2.2.2 == 0)) rfl (by kernel_rfl)) ?_
                refine vg1 rfl rfl rfl rfl rfl (fun hg240 => QV.qo (q_move (v := .slice A235 z224.2.2.1.length c236) rfl (by kernel_rfl))) ?_
                refine vg1 rfl rfl rfl rfl rfl (fun hg241 => QV.qo (q_move (v := .slice Alist list.length clist) rfl (by kernel_rfl))) ?_
                refine vg1 rfl rfl rfl rfl rfl (fun hg242 => QV.qo (q_move (v := .int .i64 n_37) rfl (by kernel_rfl))) ?_
                obtain ⟨hk244, h⟩ := chk_some h
                refine vg1 rfl rfl rfl rfl rfl (fun hg243 => QV.qo (q_cut_to (c := clist) (hi := n_37.toNat) (xs := list) Try.underlying22 Try.sizeOf31 rfl (gu hg243 rfl) (inle_eq (gu hg243 rfl) (imp_of hk244 hg243)) (inle_le (imp_of hk244 hg243)) hlistc)) ?_
                obtain ⟨z246, hz247, h⟩ := bnd h
                refine vg1 rfl rfl rfl rfl rfl (fun hg245 => (q_call (call_run Try.call16 rfl rfl (args2 (gu hg245 rfl) (gu hg245 rfl))) (fun w hw => t_firthlaw09_begins (Γ := Gh.all w) (hr238.sl hw.sat.le_all (hw.ra 2 rfl)) hr238.capz (((hlist.mono ((((((((hl7.trans hl16).trans hl36).trans hl163).trans hl179).trans hl201).trans hl208).trans hl217).trans hl227)).cut_to (hi := n_37.toNat) (inle_le (imp_of hk244 hg245))).mono hw.sat.le_all) (take_cap hlistc n_37.toNat) (Sat.all w) (gc_of hz247 hg245)))) ?_
                refine va rfl rfl rfl (q_pick rfl rfl (pk_and' (g := (z224.2.2.2 == 0)) (y := z246))) ?_
                refine va rfl rfl rfl (q_assign (v := .bool ((z224.2.2.2 == 0) && z246)) rfl (by kernel_rfl)) ?_
                refine WR.nil ?_
                change WC _ _ _ _ _ _
                refine WC.ret ?_
                intro w hw
                obtain rfl := Option.some.inj h
                subst hF
                exact ⟨by kernel_rfl, hw.fr⟩
end Fw
end Go.Proofs.Ytogcoieekhbfdaa
