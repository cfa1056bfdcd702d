/- Walks through the functions that the law reaches (printed by a program). No condition. -/
import Derived.Test.YtlbdlkgboliikaaW2
namespace Go.Proofs.Ytlbdlkgboliikaa
namespace Fw
set_option linter.unusedVariables false
set_option linter.unusedSimpArgs false
set_option linter.unusedSectionVars false
open Go.RowKit
set_option maxRecDepth 100000 in
set_option maxHeartbeats 400000 in
theorem t_firthlaw16_QuorumOrder {Γ : Gh} {w0 : World} {Alist : Option Addr} {clist : Nat} {list : List Int} (hlist : Sl intT Γ Alist list) (hlistc : list.length ≤ clist) {Areplies : Option Addr} {creplies : Nat} {replies : List Dfirthlaw16_Reply} (hreplies : Sl dfirthlaw16_ReplyT Γ Areplies replies) (hrepliesc : replies.length ≤ creplies) (turn : Int) (hturn : I64 turn) (hs : Sat Γ w0) {r : Bool} (h : m_firthlaw16_QuorumOrder list replies turn = some r) : Calls Try.prog 5 #[.slice Alist list.length clist, .slice Areplies replies.length creplies, .int .i64 turn] w0 (fun e w' => e = .returned (.bool r) ∧ Fr no w0 w') := by
  refine calls_of (N := 167) (rs := [6]) (args := [.slice Alist list.length clist, .slice Areplies replies.length creplies, .int .i64 turn]) Try.func5 rfl Try.ntmps5 Try.results5 rfl ?_
  obtain ⟨F, hF⟩ : ∃ F : Fm, F = ⟨no, w0, Γ⟩ := ⟨_, rfl⟩
  refine WC.here (C := CC F Γ []) ?_ (hF ▸ Cur.start0 hs)
  refine WC.rs ?_
  refine va rfl rfl rfl (q_assign (v := .bool false) rfl (by kernel_rfl)) ?_
  refine WR.nil ?_
  change WC _ _ _ _ _ _
  refine WC.rs ?_
  refine va rfl rfl rfl (q_move (v := .slice Alist list.length clist) rfl (by kernel_rfl)) ?_
  refine va rfl rfl rfl (q_len_slice rfl Try.underlying22 rfl) ?_
  refine va rfl rfl rfl (q_assign (v := .int .i64 ((list.length : Nat) : Int)) rfl (by kernel_rfl)) ?_
  refine WR.nil ?_
  change WC _ _ _ _ _ _
  refine WC.seq ?_
  refine WC.rs ?_
  obtain ⟨z1, hz2, h⟩ := bnd h
  refine vc rfl rfl rfl (q_call (call_run Try.call8 rfl rfl (by kernel_rfl)) (fun w hw => t_firthlaw16_awake (Γ := Gh.all w)  (Sat.all w) hz2)) ?_
  refine va rfl rfl rfl (q_not rfl rfl) ?_
  refine va rfl rfl rfl (q_move (v := .bool (!z1)) rfl (by kernel_rfl)) ?_
  refine vg0 rfl rfl rfl rfl rfl (fun hg3 => QV.qo (q_move (v := .slice Alist list.length clist) rfl (by kernel_rfl))) ?_
  refine vg0 rfl rfl rfl rfl rfl (fun hg4 => QV.qo (q_move (v := .int .i64 ((list.length : Nat) : Int)) rfl (by kernel_rfl))) ?_
  obtain ⟨z6, hz7, h⟩ := bnd h
  refine vg0 rfl rfl rfl rfl rfl (fun hg5 => (q_call (call_run Try.call9 rfl rfl (args2 (gu hg5 rfl) (gu hg5 rfl))) (fun w hw => t_firthref16_Right (Γ := Gh.all w) (hlist.mono hw.sat.le_all) hlistc ((list.length : Nat) : Int) (len_r hlist.le) (Sat.all w) (gc_of hz7 hg5)))) ?_
  refine vg0 rfl rfl rfl rfl rfl (fun hg8 => QV.qo (q_not rfl (gu hg8 rfl))) ?_
  refine va rfl rfl rfl (q_pick rfl rfl (pk_or' (g := (!z1)) (y := (!z6)))) ?_
  refine va rfl rfl rfl (q_move (v := .bool ((!z1) || (!z6))) rfl (by kernel_rfl)) ?_
  refine vg0 rfl rfl rfl rfl rfl (fun hg9 => QV.qo (q_move (v := .slice Areplies replies.length creplies) rfl (by kernel_rfl))) ?_
  obtain ⟨z11, hz12, h⟩ := bnd h
  refine vg0 rfl rfl rfl rfl rfl (fun hg10 => (q_call (call_run Try.call28 rfl rfl (args1 (gu hg10 rfl))) (fun w hw => t_firthlaw16_written (Γ := Gh.all w) (hreplies.mono hw.sat.le_all) hrepliesc (Sat.all w) (gc_of hz12 hg10)))) ?_
  refine vg0 rfl rfl rfl rfl rfl (fun hg13 => QV.qo (q_not rfl (gu hg13 rfl))) ?_
  refine va rfl rfl rfl (q_pick rfl rfl (pk_or' (g := ((!z1) || (!z6))) (y := (!z11)))) ?_
  refine WR.nil ?_
  change WC _ _ _ _ _ _
  refine WC.cif h (by kernel_rfl) (fun hb14 h => ?_) (fun hb14 h => ?_)
  · skip
    refine WC.rs ?_
    obtain ⟨z15, hz16, h⟩ := bnd h
    refine vc rfl rfl rfl (q_call (call_run Try.call8 rfl rfl (by kernel_rfl)) (fun w hw => t_firthlaw16_awake (Γ := Gh.all w)  (Sat.all w) hz16)) ?_
    refine va rfl rfl rfl (q_assign (v := .bool z15) rfl (by kernel_rfl)) ?_
    refine WR.nil ?_
    change WC _ _ _ _ _ _
    refine WC.ret ?_
    intro w hw
    obtain rfl := Option.some.inj h
    subst hF
    exact ⟨by kernel_rfl, hw.fr⟩
  · skip
    refine WC.skip ?_
    change WC _ _ _ _ _ _
    refine WC.rs ?_
    refine va rfl rfl rfl (q_move (v := .slice Alist list.length clist) rfl (by kernel_rfl)) ?_
    refine va rfl rfl rfl (q_move (v := .int .i64 ((list.length : Nat) : Int)) rfl (by kernel_rfl)) ?_
    obtain ⟨z17, hz18, h⟩ := bnd h
    refine e_call (is := []) rfl rfl (call_run Try.call18 rfl rfl (by kernel_rfl)) rfl (fun w hp => t_quorum_NewRead hlist hlistc ((list.length : Nat) : Int) (len_r hlist.le) hp hz18) ?_
    rintro Γ19 U21 v22 hl20 ⟨g23, row24, rfl, rfl, hr25, hr26, _⟩
    change WR _ _ _ (CC F Γ19 [row24]) _ _ (upd _ 38 (.tuple #[optp z17.1 g23, .int .i64 z17.2]))
    refine va rfl rfl rfl (q_move (v := .tuple #[optp z17.1 g23, .int .i64 z17.2]) rfl (by kernel_rfl)) ?_
    refine va rfl rfl rfl (q_extract (v := optp z17.1 g23) rfl rfl rfl) ?_
    refine va rfl rfl rfl (q_extract (v := .int .i64 z17.2) rfl rfl rfl) ?_
    refine va rfl rfl rfl (q_assign (v := optp z17.1 g23) rfl (by kernel_rfl)) ?_
    refine va rfl rfl rfl (q_assign (v := .int .i64 z17.2) rfl (by kernel_rfl)) ?_
    refine WR.nil ?_
    change WC _ _ _ _ _ _
    refine WC.rs ?_
    refine va rfl rfl rfl (q_move (v := .slice Alist list.length clist) rfl (by kernel_rfl)) ?_
    refine va rfl rfl rfl (q_move (v := .int .i64 ((list.length : Nat) : Int)) rfl (by kernel_rfl)) ?_
    obtain ⟨z27, hz28, h⟩ := bnd h
    refine e_call (is := []) rfl rfl (call_run Try.call18 rfl rfl (by kernel_rfl)) rfl (fun w hp => t_quorum_NewRead (hlist.mono hl20) hlistc ((list.length : Nat) : Int) (len_r hlist.le) hp hz28) ?_
    rintro Γ29 U31 v32 hl30 ⟨g33, row34, rfl, rfl, hr35, hr36, _⟩
    change WR _ _ _ (CC F Γ29 [row34, row24]) _ _ (upd _ 44 (.tuple #[optp z27.1 g33, .int .i64 z27.2]))
    refine va rfl rfl rfl (q_move (v := .tuple #[optp z27.1 g33, .int .i64 z27.2]) rfl (by kernel_rfl)) ?_
    refine va rfl rfl rfl (q_extract (v := optp z27.1 g33) rfl rfl rfl) ?_
    refine va rfl rfl rfl (q_extract (v := .int .i64 z27.2) rfl rfl rfl) ?_
    refine va rfl rfl rfl (q_assign (v := optp z27.1 g33) rfl (by kernel_rfl)) ?_
    refine va rfl rfl rfl (q_assign (v := .int .i64 z27.2) rfl (by kernel_rfl)) ?_
    refine WR.nil ?_
    change WC _ _ _ _ _ _
    refine WC.seq ?_
    refine WC.rs ?_
    refine va rfl rfl rfl (q_move (v := optp z17.1 g23) rfl (by kernel_rfl)) ?_
    refine va rfl rfl rfl (q_opt_eql Try.underlying36 rfl rfl rfl) ?_
    refine va rfl rfl rfl (q_move (v := .bool (Option.isNone z17.1)) rfl (by kernel_rfl)) ?_
    refine vg0 rfl rfl rfl rfl rfl (fun hg37 => QV.qo (q_move (v := optp z27.1 g33) rfl (by kernel_rfl))) ?_
    refine vg0 rfl rfl rfl rfl rfl (fun hg38 => QV.qo (q_opt_eql Try.underlying36 rfl (gu hg38 rfl) rfl)) ?_
    refine va rfl rfl rfl (q_pick rfl rfl (pk_or' (g := (Option.isNone z17.1)) (y := (Option.isNone z27.1)))) ?_
    refine va rfl rfl rfl (q_move (v := .bool ((Option.isNone z17.1) || (Option.isNone z27.1))) rfl (by kernel_rfl)) ?_
    refine vg0 rfl rfl rfl rfl rfl (fun hg39 => QV.qo (q_move (v := .int .i64 z17.2) rfl (by kernel_rfl))) ?_
    refine vg0 rfl rfl rfl rfl rfl (fun hg40 => QV.qo (q_neq rfl (gu hg40 rfl) rfl)) ?_
    refine va rfl rfl rfl (q_pick rfl rfl (pk_or' (g := ((Option.isNone z17.1) || (Option.isNone z27.1))) (y := (z17.2 != 0)))) ?_
    refine va rfl rfl rfl (q_move (v := .bool (((Option.isNone z17.1) || (Option.isNone z27.1)) || (z17.2 != 0))) rfl (by kernel_rfl)) ?_
    refine vg0 rfl rfl rfl rfl rfl (fun hg41 => QV.qo (q_move (v := .int .i64 z27.2) rfl (by kernel_rfl))) ?_
    refine vg0 rfl rfl rfl rfl rfl (fun hg42 => QV.qo (q_neq rfl (gu hg42 rfl) rfl)) ?_
    refine va rfl rfl rfl (q_pick rfl rfl (pk_or' (g := (((Option.isNone z17.1) || (Option.isNone z27.1)) || (z17.2 != 0))) (y := (z27.2 != 0)))) ?_
    refine WR.nil ?_
    change WC _ _ _ _ _ _
    refine WC.cif h (by kernel_rfl) (fun hb43 h => ?_) (fun hb43 h => ?_)
    · skip
      refine WC.rs ?_
      refine va rfl rfl rfl (q_assign (v := .bool false) rfl (by kernel_rfl)) ?_
      refine WR.nil ?_
      change WC _ _ _ _ _ _
      refine WC.ret ?_
      intro w hw
      obtain rfl := Option.some.inj h
      subst hF
      exact ⟨by kernel_rfl, hw.fr⟩
    · skip
      obtain ⟨z44, hz45, h⟩ := bnd h
      have ho46 := optob_some hr35 hz45
      obtain ⟨z47, hz48, h⟩ := bnd h
      have ho49 := optob_some (optob_mono hr25 (fun _ h => h.mono hl30)) hz48
      refine WC.skip ?_
      change WC _ _ _ _ _ _
      refine WC.rs ?_
      refine va rfl rfl rfl (q_move (v := .slice Areplies replies.length creplies) rfl (by kernel_rfl)) ?_
      refine va rfl rfl rfl (q_len_slice rfl Try.underlying35 rfl) ?_
      refine va rfl rfl rfl (q_assign (v := .int .i64 ((replies.length : Nat) : Int)) rfl (by kernel_rfl)) ?_
      refine WR.nil ?_
      change WC _ _ _ _ _ _
      refine WC.rs ?_
      refine e_alloc Try.zeroValue48 rfl rfl rfl rfl ?_
      intro g50
      have ho51 : Own boolT Γ29 48 [(g50, .cells #[.bool false, .bool false, .bool false, .bool false, .bool false, .bool false, .bool false, .bool false, .bool false] 48 (0, 0))] (some ⟨g50, 0, none⟩) 9 (List.replicate 9 false) := own_zero (T := boolT) 9 [.bool false] false rfl rfl (by decide)
      refine WR.nil ?_
      change WC _ _ _ _ _ _
      refine WC.rs ?_
      refine va rfl rfl rfl (q_assign (v := .slice none 0 0) rfl (by kernel_rfl)) ?_
      refine WR.nil ?_
      change WC _ _ _ _ _ _
      refine WC.seq ?_
      refine WC.rs ?_
      refine va rfl rfl rfl (q_assign (v := .int .i64 0) rfl (by kernel_rfl)) ?_
      refine WR.nil ?_
      change WC _ _ _ _ _ _
      refine WC.block ?_
      refine WC.forI h (fun (i62 : Nat) (s : (List Dfirthlaw16_Reply) × (List Bool)) σ w => match s with | (some_52, x57) => ∃ (A53 : Option Addr), ∃ (c54 : Nat), ∃ (row55 : Rowb), ∃ (row58 : Rowb), slots σ [(1, .slice Areplies replies.length creplies), (2, .int .i64 turn), (8, optp z17.1 g23), (10, optp z27.1 g33), (12, .int .i64 ((replies.length : Nat) : Int)), (13, .pointer (some ⟨g50, 0, none⟩)), (14, .slice A53 some_52.length c54), (15, .int .i64 ((i62 : Nat) : Int))] ∧ CC F Γ29 [row55, row58, row34, row24] w ∧ Own dfirthlaw16_ReplyT Γ29 43 row55 A53 c54 some_52 ∧ x57.length = 9 ∧ Own boolT Γ29 48 row58 (some ⟨g50, 0, none⟩) 9 x57 ∧ True) ?_ ?_
      · skip
        intro w hw
        have hw := hw.pad
        exact ⟨none, 0, [], [(g50, .cells #[.bool false, .bool false, .bool false, .bool false, .bool false, .bool false, .bool false, .bool false, .bool false] 48 (0, 0))], (sl_ (by kernel_rfl)), hw, (Own.nil dfirthlaw16_ReplyT _ 43), List.length_replicate, ho51, trivial⟩
      rintro f61 i62 ⟨some_52, x57⟩ σ w hi63 hlt64 hge65 ⟨A53, c54, row55, row58, hsl, hw, ho56, hn60, ho59, -⟩
      refine Wpt.slots hsl ?_
      refine WC.here (C := CC F Γ29 [row55, row58, row34, row24]) ?_ hw
      clear hw hsl
      refine WC.seq ?_
      refine WC.rs ?_
      refine va rfl rfl rfl (q_move (v := .int .i64 ((i62 : Nat) : Int)) rfl (by kernel_rfl)) ?_
      refine va rfl rfl rfl (q_move (v := .int .i64 ((replies.length : Nat) : Int)) rfl (by kernel_rfl)) ?_
      refine va rfl rfl rfl (q_lss rfl rfl rfl) ?_
      refine WR.nil ?_
      change WC _ _ _ _ _ _
      refine WC.cond (b := (decide (((i62 : Nat) : Int) < ((replies.length : Nat) : Int)))) (by kernel_rfl) (fun hb66 => ?_) (fun hb66 => ?_)
      · skip
        have hl67 := ilt hb66
        have h := hlt64 hl67
        refine WC.skip ?_
        change WC _ _ _ _ _ _
        refine WC.cut (fun σ w => ∃ (some_68 : List Dfirthlaw16_Reply), ∃ (x73 : List Bool), ∃ (A69 : Option Addr), ∃ (c70 : Nat), ∃ (row71 : Rowb), ∃ (row74 : Rowb), m_firthlaw16_QuorumOrder_j5 f61 some_68 x73 = some r ∧ slots σ [(1, .slice Areplies replies.length creplies), (2, .int .i64 turn), (8, optp z17.1 g23), (10, optp z27.1 g33), (12, .int .i64 ((replies.length : Nat) : Int)), (13, .pointer (some ⟨g50, 0, none⟩)), (14, .slice A69 some_68.length c70), (15, .int .i64 ((i62 : Nat) : Int))] ∧ CC F Γ29 [row71, row74, row34, row24] w ∧ Own dfirthlaw16_ReplyT Γ29 43 row71 A69 c70 some_68 ∧ x73.length = 9 ∧ Own boolT Γ29 48 row74 (some ⟨g50, 0, none⟩) 9 x73 ∧ True) ?_ ?_
        · skip
          refine WC.block ?_
          refine WC.rs ?_
          refine va rfl rfl rfl (q_move (v := .slice Areplies replies.length creplies) rfl (by kernel_rfl)) ?_
          refine va rfl rfl rfl (q_move (v := .int .i64 ((i62 : Nat) : Int)) rfl (by kernel_rfl)) ?_
          refine va rfl rfl rfl (q_ixn (i := i62) Try.underlying35 Try.sizeOf43 rfl rfl rfl hl67 ((hreplies.mono (hl20.trans hl30)).some_ hl67)) ?_
          refine va rfl rfl rfl (q_field_addr (i62 * 3) fld_43_0 rfl rfl ((hreplies.mono (hl20.trans hl30)).some_ hl67) rfl) ?_
          obtain ⟨A77, c78, A79, c80, hx81⟩ := (hreplies.mono (hl20.trans hl30)).dfirthlaw16_ReplyT_at i62
          refine va rfl rfl rfl (q_ld (c := 0) (v := .int .i64 (gt replies i62).node) (hx81 hl67).2 rfl Try.isAgg3 rfl rfl) ?_
          refine va rfl rfl rfl (q_assign (v := .int .i64 (gt replies i62).node) rfl (by kernel_rfl)) ?_
          refine WR.nil ?_
          change WC _ _ _ _ _ _
          refine WC.rs ?_
          refine va rfl rfl rfl (q_move (v := .int .i64 (gt replies i62).node) rfl (by kernel_rfl)) ?_
          refine va rfl rfl rfl (q_geq rfl rfl rfl) ?_
          refine va rfl rfl rfl (q_move (v := .bool (decide (1 ≤ (gt replies i62).node))) rfl (by kernel_rfl)) ?_
          refine vg1 rfl rfl rfl rfl rfl (fun hg82 => QV.qo (q_move (v := .int .i64 (gt replies i62).node) rfl (by kernel_rfl))) ?_
          refine vg1 rfl rfl rfl rfl rfl (fun hg83 => QV.qo (q_leq rfl (gu hg83 rfl) rfl)) ?_
          refine va rfl rfl rfl (q_pick rfl rfl (pk_and' (g := (decide (1 ≤ (gt replies i62).node))) (y := (decide ((gt replies i62).node ≤ 8))))) ?_
          refine va rfl rfl rfl (q_move (v := .bool ((decide (1 ≤ (gt replies i62).node)) && (decide ((gt replies i62).node ≤ 8)))) rfl (by kernel_rfl)) ?_
          refine vg1 rfl rfl rfl rfl rfl (fun hg84 => QV.qo (q_move (v := .int .i64 (gt replies i62).node) rfl (by kernel_rfl))) ?_
          obtain ⟨hk86, h⟩ := chk_some h
          refine vg1 rfl rfl rfl rfl rfl (fun hg85 => QV.qo (q_ixao Try.underlying48 Try.sizeOf4 rfl rfl (gu hg85 rfl) (imp_of hk86 hg85))) ?_
          refine vg1 rfl rfl rfl rfl rfl (fun hg87 => QV.qo (q_ldo (c := 0) (v := .bool (gt x57 (((gt replies i62).node).toNat))) (i := 1) rfl (ho59.boolT_at (ltq (inb_lt (imp_of hk86 hg87)) hn60.symm)).2 rfl Try.isAgg4 (gu hg87 rfl) rfl)) ?_
          refine vg1 rfl rfl rfl rfl rfl (fun hg88 => QV.qo (q_not rfl (gu hg88 rfl))) ?_
          refine va rfl rfl rfl (q_pick rfl rfl (pk_and' (g := ((decide (1 ≤ (gt replies i62).node)) && (decide ((gt replies i62).node ≤ 8)))) (y := (!(gt x57 (((gt replies i62).node).toNat)))))) ?_
          refine va rfl rfl rfl (q_move (v := .bool (((decide (1 ≤ (gt replies i62).node)) && (decide ((gt replies i62).node ≤ 8))) && (!(gt x57 (((gt replies i62).node).toNat))))) rfl (by kernel_rfl)) ?_
          refine vg1 rfl rfl rfl rfl rfl (fun hg89 => QV.qo (q_move (v := .slice Areplies replies.length creplies) rfl (by kernel_rfl))) ?_
          refine vg1 rfl rfl rfl rfl rfl (fun hg90 => QV.qo (q_move (v := .int .i64 ((i62 : Nat) : Int)) rfl (by kernel_rfl))) ?_
          refine vg1 rfl rfl rfl rfl rfl (fun hg91 => QV.qo (q_ixn (i := i62) Try.underlying35 Try.sizeOf43 rfl (gu hg91 rfl) (gu hg91 rfl) hl67 ((hreplies.mono (hl20.trans hl30)).some_ hl67))) ?_
          refine vg1 rfl rfl rfl rfl rfl (fun hg92 => QV.qo (q_field_addr (i62 * 3 + 1) fld_43_1 rfl (gu hg92 rfl) ((hreplies.mono (hl20.trans hl30)).some_ hl67) rfl)) ?_
          refine vg1 rfl rfl rfl rfl rfl (fun hg93 => QV.qo (q_ld (c := 1) (v := .slice A77 ((gt replies i62).vers).length c78) (hx81 hl67).2 rfl Try.isAgg40 (gu hg93 rfl) rfl)) ?_
          obtain ⟨z95, hz96, h⟩ := bnd h
          refine vg1 rfl rfl rfl rfl rfl (fun hg94 => (q_call (call_run Try.call29 rfl rfl (args1 (gu hg94 rfl))) (fun w hw => t_firthref05_Right (Γ := Gh.all w) ((hx81 hl67).1.2.1.2.mono hw.sat.le_all) (hx81 hl67).1.2.1.1 (Sat.all w) (gc_of hz96 hg94)))) ?_
          refine va rfl rfl rfl (q_pick rfl rfl (pk_and' (g := (((decide (1 ≤ (gt replies i62).node)) && (decide ((gt replies i62).node ≤ 8))) && (!(gt x57 (((gt replies i62).node).toNat))))) (y := z95))) ?_
          refine WR.nil ?_
          change WC _ _ _ _ _ _
          refine WC.cif h (by kernel_rfl) (fun hb97 h => ?_) (fun hb97 h => ?_)
          · skip
            refine WC.rs ?_
            refine va rfl rfl rfl (q_move (v := .int .i64 (gt replies i62).node) rfl (by kernel_rfl)) ?_
            obtain ⟨hk98, h⟩ := chk_some h
            refine va rfl rfl rfl (q_ixao Try.underlying48 Try.sizeOf4 rfl rfl rfl hk98) ?_
            refine e_store_own (T := boolT) (q := ((gt replies i62).node).toNat) (v := .bool true) (y := true) rfl rfl rfl rfl (by kernel_rfl) Try.sizeOf4 (by exact rfl) (i := 1) rfl ho59 (ltq (inb_lt hk98) hn60.symm) ?_
            intro row99 ho100
            refine WR.nil ?_
            change WC _ _ _ _ _ _
            refine WC.region ?_
            refine va rfl rfl rfl (q_move (v := .slice A53 some_52.length c54) rfl (by kernel_rfl)) ?_
            refine va rfl rfl rfl (q_move (v := .slice Areplies replies.length creplies) rfl (by kernel_rfl)) ?_
            refine va rfl rfl rfl (q_move (v := .int .i64 ((i62 : Nat) : Int)) rfl (by kernel_rfl)) ?_
            refine va rfl rfl rfl (q_ixn (i := i62) Try.underlying35 Try.sizeOf43 rfl rfl rfl hl67 ((hreplies.mono (hl20.trans hl30)).some_ hl67)) ?_
            refine va rfl rfl rfl (q_lda (c := 0) (vs := [.int .i64 (gt replies i62).node, .slice A77 ((gt replies i62).vers).length c78, .slice A79 ((gt replies i62).recs).length c80]) (hx81 hl67).2 rfl Try.isAgg43 Try.sizeOf43 rfl rfl rfl) ?_
            refine e_buildSlice (cs := #[.int .i64 (gt replies i62).node, .slice A77 ((gt replies i62).vers).length c78, .slice A79 ((gt replies i62).recs).length c80]) (e := 43) rfl rfl rfl rfl (fun w => by kernel_rfl) ?_
            intro g101
            obtain ⟨hk102, h⟩ := chk_some h
            refine e_append (T := dfirthlaw16_ReplyT) (xs := some_52) (ys := [(gt replies i62)]) elem_35 (i := 1) rfl rfl rfl rfl rfl rfl rfl ho56 (of_decide_eq_true hk102) (fun w hw => src_one (T := dfirthlaw16_ReplyT) (y := (gt replies i62)) (i := 0) rfl (by exact ⟨A77, c78, A79, c80, rfl, (hx81 hl67).1⟩) hw) ?_
            intro row103 A104 c105 ho106
            refine va rfl rfl rfl (q_assign (v := .slice A104 (some_52 ++ [(gt replies i62)]).length c105) rfl (by kernel_rfl)) ?_
            refine WR.nil ?_
            intro w hw
            exact ⟨(some_52 ++ [(gt replies i62)]), (List.set x57 (((gt replies i62).node).toNat) true), A104, c105, row103, row99, h, (sl_ (by kernel_rfl)), (hw.only (is := [1, 1, 1, 1]) rfl), ho106, (List.length_set.trans hn60), ho100, trivial⟩
          · skip
            refine WC.skip ?_
            intro w hw
            exact ⟨some_52, x57, A53, c54, row55, row58, h, (sl_ (by kernel_rfl)), hw, ho56, hn60, ho59, trivial⟩
        · skip
          rintro σ w ⟨some_68, x73, A69, c70, row71, row74, h, hsl, hw, ho72, hn76, ho75, -⟩
          refine Wpt.slots hsl ?_
          refine WC.here (C := CC F Γ29 [row71, row74, row34, row24]) ?_ hw
          clear hw hsl
          refine WC.region ?_
          refine va rfl rfl rfl (q_move (v := .int .i64 ((i62 : Nat) : Int)) rfl (by kernel_rfl)) ?_
          refine va rfl rfl rfl (q_add_r (r := ((i62 + 1 : Nat) : Int)) rfl rfl rfl (ctr_len hl67 (hreplies.mono (hl20.trans hl30)).le)) ?_
          refine va rfl rfl rfl (q_assign (v := .int .i64 ((i62 + 1 : Nat) : Int)) rfl (by kernel_rfl)) ?_
          refine WR.nil ?_
          intro w hw
          exact ⟨hl67, (some_68, x73), h, A69, c70, row71, row74, (sl_ (by kernel_rfl)), hw, ho72, hn76, ho75, trivial⟩
      · skip
        have h := hge65 (ige hb66)
        refine WC.exit ?_
        change WC _ _ _ _ _ _
        refine WC.seq ?_
        refine WC.rs ?_
        refine va rfl rfl rfl (q_assign (v := .int .i64 0) rfl (by kernel_rfl)) ?_
        refine WR.nil ?_
        change WC _ _ _ _ _ _
        refine WC.block ?_
        refine WC.forI h (fun (i116 : Nat) (s : Oquorum_asking_api_Ver × Oquorum_asking_api_Ver) σ w => match s with | (o109, o112) => ∃ (Γ107 : Gh), ∃ (row110 : Rowb), ∃ (row113 : Rowb), slots σ [(2, .int .i64 turn), (8, optp z17.1 g23), (10, optp z27.1 g33), (14, .slice A53 some_52.length c54), (17, .int .i64 ((i116 : Nat) : Int))] ∧ CC F Γ107 [row55, row110, row113] w ∧ Gh.le Γ29 Γ107 ∧ Oquorum_asking_api_Ver.ob 85 Γ107 g33 row110 o109 ∧ Oquorum_asking_api_Ver.ob 85 Γ107 g23 row113 o112 ∧ True) ?_ ?_
        · skip
          intro w hw
          exact ⟨Γ29, row34, row24, (sl_ (by kernel_rfl)), (hw.only (is := [0, 1, 1]) rfl), (Gh.refl _), ho46, ho49, trivial⟩
        rintro f115 i116 ⟨o109, o112⟩ σ w hi117 hlt118 hge119 ⟨Γ107, row110, row113, hsl, hw, hl108, ho111, ho114, -⟩
        refine Wpt.slots hsl ?_
        refine WC.here (C := CC F Γ107 [row55, row110, row113]) ?_ hw
        clear hw hsl
        refine WC.seq ?_
        refine WC.rs ?_
        refine va rfl rfl rfl (q_move (v := .int .i64 ((i116 : Nat) : Int)) rfl (by kernel_rfl)) ?_
        refine va rfl rfl rfl (q_move (v := .slice A53 some_52.length c54) rfl (by kernel_rfl)) ?_
        refine va rfl rfl rfl (q_len_slice rfl Try.underlying35 rfl) ?_
        refine va rfl rfl rfl (q_lss rfl rfl rfl) ?_
        refine WR.nil ?_
        change WC _ _ _ _ _ _
        refine WC.cond (b := (decide (((i116 : Nat) : Int) < ((some_52.length : Nat) : Int)))) (by kernel_rfl) (fun hb120 => ?_) (fun hb120 => ?_)
        · skip
          have hl121 := ilt hb120
          have h := hlt118 hl121
          refine WC.skip ?_
          change WC _ _ _ _ _ _
          refine WC.seq ?_
          refine WC.block ?_
          refine WC.cut (fun σ w => ∃ (o124 : Oquorum_asking_api_Ver), ∃ (Γ122 : Gh), ∃ (row125 : Rowb), m_firthlaw16_QuorumOrder_j13 turn some_52 o109 f115 i116 o124 = some r ∧ slots σ [(2, .int .i64 turn), (8, optp z17.1 g23), (10, optp z27.1 g33), (14, .slice A53 some_52.length c54), (17, .int .i64 ((i116 : Nat) : Int))] ∧ CC F Γ122 [row55, row110, row125] w ∧ Gh.le Γ107 Γ122 ∧ Oquorum_asking_api_Ver.ob 85 Γ122 g23 row125 o124 ∧ True) ?_ ?_
          · skip
            intro w hw; have h0127 := hw.le
            refine WC.here (C := CC F Γ107 [row55, row110, row113]) ?_ hw; clear hw
            refine WC.held (CC F Γ107 []) (by kernel_rfl) (fun w hw => hw.drawn _) ?_
            change WH _ _ _ _ (CC F Γ107 [row55, row110, row113]) _ 12 #[false, false, false, false, false, false, false, false, false, false, false, false] _
            refine ht (i := 0) rfl (by kernel_rfl) rfl rfl rfl (fun w hw => hw.back (Gh.refl _) h0127 (.cons _ (.cons _ (.cons _ .slnil)))) (q_move (v := .pointer (some ⟨g23, 0, none⟩)) rfl (optp_some rfl hz48)) ?_
            refine ht (i := 1) rfl (by kernel_rfl) rfl rfl rfl (fun w hw => hw.back (Gh.refl _) h0127 (.cons _ (.cons _ (.cons _ .slnil)))) (q_move (v := .slice A53 some_52.length c54) rfl (by kernel_rfl)) ?_
            refine ht (i := 2) rfl (by kernel_rfl) rfl rfl rfl (fun w hw => hw.back (Gh.refl _) h0127 (.cons _ (.cons _ (.cons _ .slnil)))) (q_move (v := .int .i64 ((i116 : Nat) : Int)) rfl (by kernel_rfl)) ?_
            refine ht (i := 6) rfl (by kernel_rfl) rfl rfl rfl (fun w hw => hw.back (Gh.refl _) h0127 (.cons _ (.cons _ (.cons _ .slnil)))) (q_move (v := .slice A53 some_52.length c54) rfl (by kernel_rfl)) ?_
            refine ht (i := 7) rfl (by kernel_rfl) rfl rfl rfl (fun w hw => hw.back (Gh.refl _) h0127 (.cons _ (.cons _ (.cons _ .slnil)))) (q_move (v := .int .i64 ((i116 : Nat) : Int)) rfl (by kernel_rfl)) ?_
            refine WH.each (l := [3, 8]) (by kernel_rfl) (by simp) ?_
            intro i hi; simp only [List.mem_cons, List.not_mem_nil, or_false] at hi
            rcases hi with rfl | rfl
            · refine ⟨_, rfl, ?_⟩
              refine va rfl rfl rfl (q_ixn (i := i116) Try.underlying35 Try.sizeOf43 rfl rfl rfl hl121 ((ho56.mono hl108).some_ hl121)) ?_
              refine WR.nil ?_
              refine WH.next (fun w hw => hw.back (Gh.refl _) h0127 (.cons _ (.cons _ (.cons _ .slnil)))) ?_
              refine WH.each (l := [4, 8]) (by kernel_rfl) (by simp) ?_
              intro i hi; simp only [List.mem_cons, List.not_mem_nil, or_false] at hi
              rcases hi with rfl | rfl
              · refine ⟨_, rfl, ?_⟩
                refine va rfl rfl rfl (q_field_addr (i116 * 3) fld_43_0 rfl rfl ((ho56.mono hl108).some_ hl121) rfl) ?_
                refine WR.nil ?_
                refine WH.next (fun w hw => hw.back (Gh.refl _) h0127 (.cons _ (.cons _ (.cons _ .slnil)))) ?_
                refine WH.each (l := [5, 8]) (by kernel_rfl) (by simp) ?_
                intro i hi; simp only [List.mem_cons, List.not_mem_nil, or_false] at hi
                rcases hi with rfl | rfl
                · refine ⟨_, rfl, ?_⟩
                  obtain ⟨A128, c129, A130, c131, hx132⟩ := (ho56.mono hl108).dfirthlaw16_ReplyT_at i116
                  refine va rfl rfl rfl (q_ldo (c := 0) (v := .int .i64 (gt some_52 i116).node) (i := 0) rfl (hx132 hl121).2 rfl Try.isAgg3 rfl rfl) ?_
                  refine WR.nil ?_
                  refine WH.next (fun w hw => hw.back (Gh.refl _) h0127 (.cons _ (.cons _ (.cons _ .slnil)))) ?_
                  refine WH.lone (i := 8) (by kernel_rfl) rfl ?_
                  refine va rfl rfl rfl (q_ixn (i := i116) Try.underlying35 Try.sizeOf43 rfl rfl rfl hl121 ((ho56.mono hl108).some_ hl121)) ?_
                  refine WR.nil ?_
                  refine WH.next (fun w hw => hw.back (Gh.refl _) h0127 (.cons _ (.cons _ (.cons _ .slnil)))) ?_
                  refine WH.lone (i := 9) (by kernel_rfl) rfl ?_
                  refine va rfl rfl rfl (q_field_addr (i116 * 3 + 1) fld_43_1 rfl rfl ((ho56.mono hl108).some_ hl121) rfl) ?_
                  refine WR.nil ?_
                  refine WH.next (fun w hw => hw.back (Gh.refl _) h0127 (.cons _ (.cons _ (.cons _ .slnil)))) ?_
                  refine WH.lone (i := 10) (by kernel_rfl) rfl ?_
                  refine va rfl rfl rfl (q_ldo (c := 1) (v := .slice A128 ((gt some_52 i116).vers).length c129) (i := 0) rfl (hx132 hl121).2 rfl Try.isAgg40 rfl rfl) ?_
                  refine WR.nil ?_
                  refine WH.next (fun w hw => hw.back (Gh.refl _) h0127 (.cons _ (.cons _ (.cons _ .slnil)))) ?_
                  refine WH.lone (i := 11) (by kernel_rfl) rfl ?_
                  obtain ⟨z133, hz134, h⟩ := bnd h
                  refine e_call (is := [2]) rfl rfl (call_run Try.call19 rfl rfl (by kernel_rfl)) rfl (fun w hp => t_quorum_Read_Got ho114 ((gt some_52 i116).node) (hx132 hl121).1.1 (hx132 hl121).1.2.1.2 (hx132 hl121).1.2.1.1 hp hz134) ?_
                  rintro Γ135 U137 v138 hl136 ⟨row139, rfl, rfl, hr140, _⟩
                  change WR _ _ _ (CC F Γ135 [row139, row55, row110]) _ _ (upd _ 119 (.bool z133.2))
                  refine WR.nil ?_
                  refine WH.next (fun w hw => hw.back hl136 h0127 (.cons _ (.cons _ (.cons _ .slnil)))) ?_
                  refine WH.done (by kernel_rfl) ?_
                  intro w hw
                  exact ⟨z133.1, Γ135, row139, h, (sl_ (by kernel_rfl)), (hw.only (is := [1, 1, 0]) rfl), hl136, hr140, trivial⟩
                · refine ⟨_, rfl, ?_⟩
                  refine va rfl rfl rfl (q_ixn (i := i116) Try.underlying35 Try.sizeOf43 rfl rfl rfl hl121 ((ho56.mono hl108).some_ hl121)) ?_
                  refine WR.nil ?_
                  refine WH.next (fun w hw => hw.back (Gh.refl _) h0127 (.cons _ (.cons _ (.cons _ .slnil)))) ?_
                  refine WH.each (l := [5, 9]) (by kernel_rfl) (by simp) ?_
                  intro i hi; simp only [List.mem_cons, List.not_mem_nil, or_false] at hi
                  rcases hi with rfl | rfl
                  · refine ⟨_, rfl, ?_⟩
                    obtain ⟨A128, c129, A130, c131, hx132⟩ := (ho56.mono hl108).dfirthlaw16_ReplyT_at i116
                    refine va rfl rfl rfl (q_ldo (c := 0) (v := .int .i64 (gt some_52 i116).node) (i := 0) rfl (hx132 hl121).2 rfl Try.isAgg3 rfl rfl) ?_
                    refine WR.nil ?_
                    refine WH.next (fun w hw => hw.back (Gh.refl _) h0127 (.cons _ (.cons _ (.cons _ .slnil)))) ?_
                    refine WH.lone (i := 9) (by kernel_rfl) rfl ?_
                    refine va rfl rfl rfl (q_field_addr (i116 * 3 + 1) fld_43_1 rfl rfl ((ho56.mono hl108).some_ hl121) rfl) ?_
                    refine WR.nil ?_
                    refine WH.next (fun w hw => hw.back (Gh.refl _) h0127 (.cons _ (.cons _ (.cons _ .slnil)))) ?_
                    refine WH.lone (i := 10) (by kernel_rfl) rfl ?_
                    refine va rfl rfl rfl (q_ldo (c := 1) (v := .slice A128 ((gt some_52 i116).vers).length c129) (i := 0) rfl (hx132 hl121).2 rfl Try.isAgg40 rfl rfl) ?_
                    refine WR.nil ?_
                    refine WH.next (fun w hw => hw.back (Gh.refl _) h0127 (.cons _ (.cons _ (.cons _ .slnil)))) ?_
                    refine WH.lone (i := 11) (by kernel_rfl) rfl ?_
                    obtain ⟨z133, hz134, h⟩ := bnd h
                    refine e_call (is := [2]) rfl rfl (call_run Try.call19 rfl rfl (by kernel_rfl)) rfl (fun w hp => t_quorum_Read_Got ho114 ((gt some_52 i116).node) (hx132 hl121).1.1 (hx132 hl121).1.2.1.2 (hx132 hl121).1.2.1.1 hp hz134) ?_
                    rintro Γ135 U137 v138 hl136 ⟨row139, rfl, rfl, hr140, _⟩
                    change WR _ _ _ (CC F Γ135 [row139, row55, row110]) _ _ (upd _ 119 (.bool z133.2))
                    refine WR.nil ?_
                    refine WH.next (fun w hw => hw.back hl136 h0127 (.cons _ (.cons _ (.cons _ .slnil)))) ?_
                    refine WH.done (by kernel_rfl) ?_
                    intro w hw
                    exact ⟨z133.1, Γ135, row139, h, (sl_ (by kernel_rfl)), (hw.only (is := [1, 1, 0]) rfl), hl136, hr140, trivial⟩
                  · refine ⟨_, rfl, ?_⟩
                    refine va rfl rfl rfl (q_field_addr (i116 * 3 + 1) fld_43_1 rfl rfl ((ho56.mono hl108).some_ hl121) rfl) ?_
                    refine WR.nil ?_
                    refine WH.next (fun w hw => hw.back (Gh.refl _) h0127 (.cons _ (.cons _ (.cons _ .slnil)))) ?_
                    refine WH.each (l := [5, 10]) (by kernel_rfl) (by simp) ?_
                    intro i hi; simp only [List.mem_cons, List.not_mem_nil, or_false] at hi
                    rcases hi with rfl | rfl
                    · refine ⟨_, rfl, ?_⟩
                      obtain ⟨A128, c129, A130, c131, hx132⟩ := (ho56.mono hl108).dfirthlaw16_ReplyT_at i116
                      refine va rfl rfl rfl (q_ldo (c := 0) (v := .int .i64 (gt some_52 i116).node) (i := 0) rfl (hx132 hl121).2 rfl Try.isAgg3 rfl rfl) ?_
                      refine WR.nil ?_
                      refine WH.next (fun w hw => hw.back (Gh.refl _) h0127 (.cons _ (.cons _ (.cons _ .slnil)))) ?_
                      refine WH.lone (i := 10) (by kernel_rfl) rfl ?_
                      refine va rfl rfl rfl (q_ldo (c := 1) (v := .slice A128 ((gt some_52 i116).vers).length c129) (i := 0) rfl (hx132 hl121).2 rfl Try.isAgg40 rfl rfl) ?_
                      refine WR.nil ?_
                      refine WH.next (fun w hw => hw.back (Gh.refl _) h0127 (.cons _ (.cons _ (.cons _ .slnil)))) ?_
                      refine WH.lone (i := 11) (by kernel_rfl) rfl ?_
                      obtain ⟨z133, hz134, h⟩ := bnd h
                      refine e_call (is := [2]) rfl rfl (call_run Try.call19 rfl rfl (by kernel_rfl)) rfl (fun w hp => t_quorum_Read_Got ho114 ((gt some_52 i116).node) (hx132 hl121).1.1 (hx132 hl121).1.2.1.2 (hx132 hl121).1.2.1.1 hp hz134) ?_
                      rintro Γ135 U137 v138 hl136 ⟨row139, rfl, rfl, hr140, _⟩
                      change WR _ _ _ (CC F Γ135 [row139, row55, row110]) _ _ (upd _ 119 (.bool z133.2))
                      refine WR.nil ?_
                      refine WH.next (fun w hw => hw.back hl136 h0127 (.cons _ (.cons _ (.cons _ .slnil)))) ?_
                      refine WH.done (by kernel_rfl) ?_
                      intro w hw
                      exact ⟨z133.1, Γ135, row139, h, (sl_ (by kernel_rfl)), (hw.only (is := [1, 1, 0]) rfl), hl136, hr140, trivial⟩
                    · refine ⟨_, rfl, ?_⟩
                      obtain ⟨A128, c129, A130, c131, hx132⟩ := (ho56.mono hl108).dfirthlaw16_ReplyT_at i116
                      refine va rfl rfl rfl (q_ldo (c := 1) (v := .slice A128 ((gt some_52 i116).vers).length c129) (i := 0) rfl (hx132 hl121).2 rfl Try.isAgg40 rfl rfl) ?_
                      refine WR.nil ?_
                      refine WH.next (fun w hw => hw.back (Gh.refl _) h0127 (.cons _ (.cons _ (.cons _ .slnil)))) ?_
                      refine WH.lone (i := 5) (by kernel_rfl) rfl ?_
                      refine va rfl rfl rfl (q_ldo (c := 0) (v := .int .i64 (gt some_52 i116).node) (i := 0) rfl (hx132 hl121).2 rfl Try.isAgg3 rfl rfl) ?_
                      refine WR.nil ?_
                      refine WH.next (fun w hw => hw.back (Gh.refl _) h0127 (.cons _ (.cons _ (.cons _ .slnil)))) ?_
                      refine WH.lone (i := 11) (by kernel_rfl) rfl ?_
                      obtain ⟨z133, hz134, h⟩ := bnd h
                      refine e_call (is := [2]) rfl rfl (call_run Try.call19 rfl rfl (by kernel_rfl)) rfl (fun w hp => t_quorum_Read_Got ho114 ((gt some_52 i116).node) (hx132 hl121).1.1 (hx132 hl121).1.2.1.2 (hx132 hl121).1.2.1.1 hp hz134) ?_
                      rintro Γ135 U137 v138 hl136 ⟨row139, rfl, rfl, hr140, _⟩
                      change WR _ _ _ (CC F Γ135 [row139, row55, row110]) _ _ (upd _ 119 (.bool z133.2))
                      refine WR.nil ?_
                      refine WH.next (fun w hw => hw.back hl136 h0127 (.cons _ (.cons _ (.cons _ .slnil)))) ?_
                      refine WH.done (by kernel_rfl) ?_
                      intro w hw
                      exact ⟨z133.1, Γ135, row139, h, (sl_ (by kernel_rfl)), (hw.only (is := [1, 1, 0]) rfl), hl136, hr140, trivial⟩
              · refine ⟨_, rfl, ?_⟩
                refine va rfl rfl rfl (q_ixn (i := i116) Try.underlying35 Try.sizeOf43 rfl rfl rfl hl121 ((ho56.mono hl108).some_ hl121)) ?_
                refine WR.nil ?_
                refine WH.next (fun w hw => hw.back (Gh.refl _) h0127 (.cons _ (.cons _ (.cons _ .slnil)))) ?_
                refine WH.each (l := [4, 9]) (by kernel_rfl) (by simp) ?_
                intro i hi; simp only [List.mem_cons, List.not_mem_nil, or_false] at hi
                rcases hi with rfl | rfl
                · refine ⟨_, rfl, ?_⟩
                  refine va rfl rfl rfl (q_field_addr (i116 * 3) fld_43_0 rfl rfl ((ho56.mono hl108).some_ hl121) rfl) ?_
                  refine WR.nil ?_
                  refine WH.next (fun w hw => hw.back (Gh.refl _) h0127 (.cons _ (.cons _ (.cons _ .slnil)))) ?_
                  refine WH.each (l := [5, 9]) (by kernel_rfl) (by simp) ?_
                  intro i hi; simp only [List.mem_cons, List.not_mem_nil, or_false] at hi
                  rcases hi with rfl | rfl
                  · refine ⟨_, rfl, ?_⟩
                    obtain ⟨A128, c129, A130, c131, hx132⟩ := (ho56.mono hl108).dfirthlaw16_ReplyT_at i116
                    refine va rfl rfl rfl (q_ldo (c := 0) (v := .int .i64 (gt some_52 i116).node) (i := 0) rfl (hx132 hl121).2 rfl Try.isAgg3 rfl rfl) ?_
                    refine WR.nil ?_
                    refine WH.next (fun w hw => hw.back (Gh.refl _) h0127 (.cons _ (.cons _ (.cons _ .slnil)))) ?_
                    refine WH.lone (i := 9) (by kernel_rfl) rfl ?_
                    refine va rfl rfl rfl (q_field_addr (i116 * 3 + 1) fld_43_1 rfl rfl ((ho56.mono hl108).some_ hl121) rfl) ?_
                    refine WR.nil ?_
                    refine WH.next (fun w hw => hw.back (Gh.refl _) h0127 (.cons _ (.cons _ (.cons _ .slnil)))) ?_
                    refine WH.lone (i := 10) (by kernel_rfl) rfl ?_
                    refine va rfl rfl rfl (q_ldo (c := 1) (v := .slice A128 ((gt some_52 i116).vers).length c129) (i := 0) rfl (hx132 hl121).2 rfl Try.isAgg40 rfl rfl) ?_
                    refine WR.nil ?_
                    refine WH.next (fun w hw => hw.back (Gh.refl _) h0127 (.cons _ (.cons _ (.cons _ .slnil)))) ?_
                    refine WH.lone (i := 11) (by kernel_rfl) rfl ?_
                    obtain ⟨z133, hz134, h⟩ := bnd h
                    refine e_call (is := [2]) rfl rfl (call_run Try.call19 rfl rfl (by kernel_rfl)) rfl (fun w hp => t_quorum_Read_Got ho114 ((gt some_52 i116).node) (hx132 hl121).1.1 (hx132 hl121).1.2.1.2 (hx132 hl121).1.2.1.1 hp hz134) ?_
                    rintro Γ135 U137 v138 hl136 ⟨row139, rfl, rfl, hr140, _⟩
                    change WR _ _ _ (CC F Γ135 [row139, row55, row110]) _ _ (upd _ 119 (.bool z133.2))
                    refine WR.nil ?_
                    refine WH.next (fun w hw => hw.back hl136 h0127 (.cons _ (.cons _ (.cons _ .slnil)))) ?_
                    refine WH.done (by kernel_rfl) ?_
                    intro w hw
                    exact ⟨z133.1, Γ135, row139, h, (sl_ (by kernel_rfl)), (hw.only (is := [1, 1, 0]) rfl), hl136, hr140, trivial⟩
                  · refine ⟨_, rfl, ?_⟩
                    refine va rfl rfl rfl (q_field_addr (i116 * 3 + 1) fld_43_1 rfl rfl ((ho56.mono hl108).some_ hl121) rfl) ?_
                    refine WR.nil ?_
                    refine WH.next (fun w hw => hw.back (Gh.refl _) h0127 (.cons _ (.cons _ (.cons _ .slnil)))) ?_
                    refine WH.each (l := [5, 10]) (by kernel_rfl) (by simp) ?_
                    intro i hi; simp only [List.mem_cons, List.not_mem_nil, or_false] at hi
                    rcases hi with rfl | rfl
                    · refine ⟨_, rfl, ?_⟩
                      obtain ⟨A128, c129, A130, c131, hx132⟩ := (ho56.mono hl108).dfirthlaw16_ReplyT_at i116
                      refine va rfl rfl rfl (q_ldo (c := 0) (v := .int .i64 (gt some_52 i116).node) (i := 0) rfl (hx132 hl121).2 rfl Try.isAgg3 rfl rfl) ?_
                      refine WR.nil ?_
                      refine WH.next (fun w hw => hw.back (Gh.refl _) h0127 (.cons _ (.cons _ (.cons _ .slnil)))) ?_
                      refine WH.lone (i := 10) (by kernel_rfl) rfl ?_
                      refine va rfl rfl rfl (q_ldo (c := 1) (v := .slice A128 ((gt some_52 i116).vers).length c129) (i := 0) rfl (hx132 hl121).2 rfl Try.isAgg40 rfl rfl) ?_
                      refine WR.nil ?_
                      refine WH.next (fun w hw => hw.back (Gh.refl _) h0127 (.cons _ (.cons _ (.cons _ .slnil)))) ?_
                      refine WH.lone (i := 11) (by kernel_rfl) rfl ?_
                      obtain ⟨z133, hz134, h⟩ := bnd h
                      refine e_call (is := [2]) rfl rfl (call_run Try.call19 rfl rfl (by kernel_rfl)) rfl (fun w hp => t_quorum_Read_Got ho114 ((gt some_52 i116).node) (hx132 hl121).1.1 (hx132 hl121).1.2.1.2 (hx132 hl121).1.2.1.1 hp hz134) ?_
                      rintro Γ135 U137 v138 hl136 ⟨row139, rfl, rfl, hr140, _⟩
                      change WR _ _ _ (CC F Γ135 [row139, row55, row110]) _ _ (upd _ 119 (.bool z133.2))
                      refine WR.nil ?_
                      refine WH.next (fun w hw => hw.back hl136 h0127 (.cons _ (.cons _ (.cons _ .slnil)))) ?_
                      refine WH.done (by kernel_rfl) ?_
                      intro w hw
                      exact ⟨z133.1, Γ135, row139, h, (sl_ (by kernel_rfl)), (hw.only (is := [1, 1, 0]) rfl), hl136, hr140, trivial⟩
                    · refine ⟨_, rfl, ?_⟩
                      obtain ⟨A128, c129, A130, c131, hx132⟩ := (ho56.mono hl108).dfirthlaw16_ReplyT_at i116
                      refine va rfl rfl rfl (q_ldo (c := 1) (v := .slice A128 ((gt some_52 i116).vers).length c129) (i := 0) rfl (hx132 hl121).2 rfl Try.isAgg40 rfl rfl) ?_
                      refine WR.nil ?_
                      refine WH.next (fun w hw => hw.back (Gh.refl _) h0127 (.cons _ (.cons _ (.cons _ .slnil)))) ?_
                      refine WH.lone (i := 5) (by kernel_rfl) rfl ?_
                      refine va rfl rfl rfl (q_ldo (c := 0) (v := .int .i64 (gt some_52 i116).node) (i := 0) rfl (hx132 hl121).2 rfl Try.isAgg3 rfl rfl) ?_
                      refine WR.nil ?_
                      refine WH.next (fun w hw => hw.back (Gh.refl _) h0127 (.cons _ (.cons _ (.cons _ .slnil)))) ?_
                      refine WH.lone (i := 11) (by kernel_rfl) rfl ?_
                      obtain ⟨z133, hz134, h⟩ := bnd h
                      refine e_call (is := [2]) rfl rfl (call_run Try.call19 rfl rfl (by kernel_rfl)) rfl (fun w hp => t_quorum_Read_Got ho114 ((gt some_52 i116).node) (hx132 hl121).1.1 (hx132 hl121).1.2.1.2 (hx132 hl121).1.2.1.1 hp hz134) ?_
                      rintro Γ135 U137 v138 hl136 ⟨row139, rfl, rfl, hr140, _⟩
                      change WR _ _ _ (CC F Γ135 [row139, row55, row110]) _ _ (upd _ 119 (.bool z133.2))
                      refine WR.nil ?_
                      refine WH.next (fun w hw => hw.back hl136 h0127 (.cons _ (.cons _ (.cons _ .slnil)))) ?_
                      refine WH.done (by kernel_rfl) ?_
                      intro w hw
                      exact ⟨z133.1, Γ135, row139, h, (sl_ (by kernel_rfl)), (hw.only (is := [1, 1, 0]) rfl), hl136, hr140, trivial⟩
                · refine ⟨_, rfl, ?_⟩
                  refine va rfl rfl rfl (q_field_addr (i116 * 3 + 1) fld_43_1 rfl rfl ((ho56.mono hl108).some_ hl121) rfl) ?_
                  refine WR.nil ?_
                  refine WH.next (fun w hw => hw.back (Gh.refl _) h0127 (.cons _ (.cons _ (.cons _ .slnil)))) ?_
                  refine WH.each (l := [4, 10]) (by kernel_rfl) (by simp) ?_
                  intro i hi; simp only [List.mem_cons, List.not_mem_nil, or_false] at hi
                  rcases hi with rfl | rfl
                  · refine ⟨_, rfl, ?_⟩
                    refine va rfl rfl rfl (q_field_addr (i116 * 3) fld_43_0 rfl rfl ((ho56.mono hl108).some_ hl121) rfl) ?_
                    refine WR.nil ?_
                    refine WH.next (fun w hw => hw.back (Gh.refl _) h0127 (.cons _ (.cons _ (.cons _ .slnil)))) ?_
                    refine WH.each (l := [5, 10]) (by kernel_rfl) (by simp) ?_
                    intro i hi; simp only [List.mem_cons, List.not_mem_nil, or_false] at hi
                    rcases hi with rfl | rfl
                    · refine ⟨_, rfl, ?_⟩
                      obtain ⟨A128, c129, A130, c131, hx132⟩ := (ho56.mono hl108).dfirthlaw16_ReplyT_at i116
                      refine va rfl rfl rfl (q_ldo (c := 0) (v := .int .i64 (gt some_52 i116).node) (i := 0) rfl (hx132 hl121).2 rfl Try.isAgg3 rfl rfl) ?_
                      refine WR.nil ?_
                      refine WH.next (fun w hw => hw.back (Gh.refl _) h0127 (.cons _ (.cons _ (.cons _ .slnil)))) ?_
                      refine WH.lone (i := 10) (by kernel_rfl) rfl ?_
                      refine va rfl rfl rfl (q_ldo (c := 1) (v := .slice A128 ((gt some_52 i116).vers).length c129) (i := 0) rfl (hx132 hl121).2 rfl Try.isAgg40 rfl rfl) ?_
                      refine WR.nil ?_
                      refine WH.next (fun w hw => hw.back (Gh.refl _) h0127 (.cons _ (.cons _ (.cons _ .slnil)))) ?_
                      refine WH.lone (i := 11) (by kernel_rfl) rfl ?_
                      obtain ⟨z133, hz134, h⟩ := bnd h
                      refine e_call (is := [2]) rfl rfl (call_run Try.call19 rfl rfl (by kernel_rfl)) rfl (fun w hp => t_quorum_Read_Got ho114 ((gt some_52 i116).node) (hx132 hl121).1.1 (hx132 hl121).1.2.1.2 (hx132 hl121).1.2.1.1 hp hz134) ?_
                      rintro Γ135 U137 v138 hl136 ⟨row139, rfl, rfl, hr140, _⟩
                      change WR _ _ _ (CC F Γ135 [row139, row55, row110]) _ _ (upd _ 119 (.bool z133.2))
                      refine WR.nil ?_
                      refine WH.next (fun w hw => hw.back hl136 h0127 (.cons _ (.cons _ (.cons _ .slnil)))) ?_
                      refine WH.done (by kernel_rfl) ?_
                      intro w hw
                      exact ⟨z133.1, Γ135, row139, h, (sl_ (by kernel_rfl)), (hw.only (is := [1, 1, 0]) rfl), hl136, hr140, trivial⟩
                    · refine ⟨_, rfl, ?_⟩
                      obtain ⟨A128, c129, A130, c131, hx132⟩ := (ho56.mono hl108).dfirthlaw16_ReplyT_at i116
                      refine va rfl rfl rfl (q_ldo (c := 1) (v := .slice A128 ((gt some_52 i116).vers).length c129) (i := 0) rfl (hx132 hl121).2 rfl Try.isAgg40 rfl rfl) ?_
                      refine WR.nil ?_
                      refine WH.next (fun w hw => hw.back (Gh.refl _) h0127 (.cons _ (.cons _ (.cons _ .slnil)))) ?_
                      refine WH.lone (i := 5) (by kernel_rfl) rfl ?_
                      refine va rfl rfl rfl (q_ldo (c := 0) (v := .int .i64 (gt some_52 i116).node) (i := 0) rfl (hx132 hl121).2 rfl Try.isAgg3 rfl rfl) ?_
                      refine WR.nil ?_
                      refine WH.next (fun w hw => hw.back (Gh.refl _) h0127 (.cons _ (.cons _ (.cons _ .slnil)))) ?_
                      refine WH.lone (i := 11) (by kernel_rfl) rfl ?_
                      obtain ⟨z133, hz134, h⟩ := bnd h
                      refine e_call (is := [2]) rfl rfl (call_run Try.call19 rfl rfl (by kernel_rfl)) rfl (fun w hp => t_quorum_Read_Got ho114 ((gt some_52 i116).node) (hx132 hl121).1.1 (hx132 hl121).1.2.1.2 (hx132 hl121).1.2.1.1 hp hz134) ?_
                      rintro Γ135 U137 v138 hl136 ⟨row139, rfl, rfl, hr140, _⟩
                      change WR _ _ _ (CC F Γ135 [row139, row55, row110]) _ _ (upd _ 119 (.bool z133.2))
                      refine WR.nil ?_
                      refine WH.next (fun w hw => hw.back hl136 h0127 (.cons _ (.cons _ (.cons _ .slnil)))) ?_
                      refine WH.done (by kernel_rfl) ?_
                      intro w hw
                      exact ⟨z133.1, Γ135, row139, h, (sl_ (by kernel_rfl)), (hw.only (is := [1, 1, 0]) rfl), hl136, hr140, trivial⟩
                  · refine ⟨_, rfl, ?_⟩
                    obtain ⟨A128, c129, A130, c131, hx132⟩ := (ho56.mono hl108).dfirthlaw16_ReplyT_at i116
                    refine va rfl rfl rfl (q_ldo (c := 1) (v := .slice A128 ((gt some_52 i116).vers).length c129) (i := 0) rfl (hx132 hl121).2 rfl Try.isAgg40 rfl rfl) ?_
                    refine WR.nil ?_
                    refine WH.next (fun w hw => hw.back (Gh.refl _) h0127 (.cons _ (.cons _ (.cons _ .slnil)))) ?_
                    refine WH.lone (i := 4) (by kernel_rfl) rfl ?_
                    refine va rfl rfl rfl (q_field_addr (i116 * 3) fld_43_0 rfl rfl ((ho56.mono hl108).some_ hl121) rfl) ?_
                    refine WR.nil ?_
                    refine WH.next (fun w hw => hw.back (Gh.refl _) h0127 (.cons _ (.cons _ (.cons _ .slnil)))) ?_
                    refine WH.lone (i := 5) (by kernel_rfl) rfl ?_
                    refine va rfl rfl rfl (q_ldo (c := 0) (v := .int .i64 (gt some_52 i116).node) (i := 0) rfl (hx132 hl121).2 rfl Try.isAgg3 rfl rfl) ?_
                    refine WR.nil ?_
                    refine WH.next (fun w hw => hw.back (Gh.refl _) h0127 (.cons _ (.cons _ (.cons _ .slnil)))) ?_
                    refine WH.lone (i := 11) (by kernel_rfl) rfl ?_
                    obtain ⟨z133, hz134, h⟩ := bnd h
                    refine e_call (is := [2]) rfl rfl (call_run Try.call19 rfl rfl (by kernel_rfl)) rfl (fun w hp => t_quorum_Read_Got ho114 ((gt some_52 i116).node) (hx132 hl121).1.1 (hx132 hl121).1.2.1.2 (hx132 hl121).1.2.1.1 hp hz134) ?_
                    rintro Γ135 U137 v138 hl136 ⟨row139, rfl, rfl, hr140, _⟩
                    change WR _ _ _ (CC F Γ135 [row139, row55, row110]) _ _ (upd _ 119 (.bool z133.2))
                    refine WR.nil ?_
                    refine WH.next (fun w hw => hw.back hl136 h0127 (.cons _ (.cons _ (.cons _ .slnil)))) ?_
                    refine WH.done (by kernel_rfl) ?_
                    intro w hw
                    exact ⟨z133.1, Γ135, row139, h, (sl_ (by kernel_rfl)), (hw.only (is := [1, 1, 0]) rfl), hl136, hr140, trivial⟩
            · refine ⟨_, rfl, ?_⟩
              refine va rfl rfl rfl (q_ixn (i := i116) Try.underlying35 Try.sizeOf43 rfl rfl rfl hl121 ((ho56.mono hl108).some_ hl121)) ?_
              refine WR.nil ?_
              refine WH.next (fun w hw => hw.back (Gh.refl _) h0127 (.cons _ (.cons _ (.cons _ .slnil)))) ?_
              refine WH.each (l := [3, 9]) (by kernel_rfl) (by simp) ?_
              intro i hi; simp only [List.mem_cons, List.not_mem_nil, or_false] at hi
              rcases hi with rfl | rfl
              · refine ⟨_, rfl, ?_⟩
                refine va rfl rfl rfl (q_ixn (i := i116) Try.underlying35 Try.sizeOf43 rfl rfl rfl hl121 ((ho56.mono hl108).some_ hl121)) ?_
                refine WR.nil ?_
                refine WH.next (fun w hw => hw.back (Gh.refl _) h0127 (.cons _ (.cons _ (.cons _ .slnil)))) ?_
                refine WH.each (l := [4, 9]) (by kernel_rfl) (by simp) ?_
                intro i hi; simp only [List.mem_cons, List.not_mem_nil, or_false] at hi
                rcases hi with rfl | rfl
                · refine ⟨_, rfl, ?_⟩
                  refine va rfl rfl rfl (q_field_addr (i116 * 3) fld_43_0 rfl rfl ((ho56.mono hl108).some_ hl121) rfl) ?_
                  refine WR.nil ?_
                  refine WH.next (fun w hw => hw.back (Gh.refl _) h0127 (.cons _ (.cons _ (.cons _ .slnil)))) ?_
                  refine WH.each (l := [5, 9]) (by kernel_rfl) (by simp) ?_
                  intro i hi; simp only [List.mem_cons, List.not_mem_nil, or_false] at hi
                  rcases hi with rfl | rfl
                  · refine ⟨_, rfl, ?_⟩
                    obtain ⟨A128, c129, A130, c131, hx132⟩ := (ho56.mono hl108).dfirthlaw16_ReplyT_at i116
                    refine va rfl rfl rfl (q_ldo (c := 0) (v := .int .i64 (gt some_52 i116).node) (i := 0) rfl (hx132 hl121).2 rfl Try.isAgg3 rfl rfl) ?_
                    refine WR.nil ?_
                    refine WH.next (fun w hw => hw.back (Gh.refl _) h0127 (.cons _ (.cons _ (.cons _ .slnil)))) ?_
                    refine WH.lone (i := 9) (by kernel_rfl) rfl ?_
                    refine va rfl rfl rfl (q_field_addr (i116 * 3 + 1) fld_43_1 rfl rfl ((ho56.mono hl108).some_ hl121) rfl) ?_
                    refine WR.nil ?_
                    refine WH.next (fun w hw => hw.back (Gh.refl _) h0127 (.cons _ (.cons _ (.cons _ .slnil)))) ?_
                    refine WH.lone (i := 10) (by kernel_rfl) rfl ?_
                    refine va rfl rfl rfl (q_ldo (c := 1) (v := .slice A128 ((gt some_52 i116).vers).length c129) (i := 0) rfl (hx132 hl121).2 rfl Try.isAgg40 rfl rfl) ?_
                    refine WR.nil ?_
                    refine WH.next (fun w hw => hw.back (Gh.refl _) h0127 (.cons _ (.cons _ (.cons _ .slnil)))) ?_
                    refine WH.lone (i := 11) (by kernel_rfl) rfl ?_
                    obtain ⟨z133, hz134, h⟩ := bnd h
                    refine e_call (is := [2]) rfl rfl (call_run Try.call19 rfl rfl (by kernel_rfl)) rfl (fun w hp => t_quorum_Read_Got ho114 ((gt some_52 i116).node) (hx132 hl121).1.1 (hx132 hl121).1.2.1.2 (hx132 hl121).1.2.1.1 hp hz134) ?_
                    rintro Γ135 U137 v138 hl136 ⟨row139, rfl, rfl, hr140, _⟩
                    change WR _ _ _ (CC F Γ135 [row139, row55, row110]) _ _ (upd _ 119 (.bool z133.2))
                    refine WR.nil ?_
                    refine WH.next (fun w hw => hw.back hl136 h0127 (.cons _ (.cons _ (.cons _ .slnil)))) ?_
                    refine WH.done (by kernel_rfl) ?_
                    intro w hw
                    exact ⟨z133.1, Γ135, row139, h, (sl_ (by kernel_rfl)), (hw.only (is := [1, 1, 0]) rfl), hl136, hr140, trivial⟩
                  · refine ⟨_, rfl, ?_⟩
                    refine va rfl rfl rfl (q_field_addr (i116 * 3 + 1) fld_43_1 rfl rfl ((ho56.mono hl108).some_ hl121) rfl) ?_
                    refine WR.nil ?_
                    refine WH.next (fun w hw => hw.back (Gh.refl _) h0127 (.cons _ (.cons _ (.cons _ .slnil)))) ?_
                    refine WH.each (l := [5, 10]) (by kernel_rfl) (by simp) ?_
                    intro i hi; simp only [List.mem_cons, List.not_mem_nil, or_false] at hi
                    rcases hi with rfl | rfl
                    · refine ⟨_, rfl, ?_⟩
                      obtain ⟨A128, c129, A130, c131, hx132⟩ := (ho56.mono hl108).dfirthlaw16_ReplyT_at i116
                      refine va rfl rfl rfl (q_ldo (c := 0) (v := .int .i64 (gt some_52 i116).node) (i := 0) rfl (hx132 hl121).2 rfl Try.isAgg3 rfl rfl) ?_
                      refine WR.nil ?_
                      refine WH.next (fun w hw => hw.back (Gh.refl _) h0127 (.cons _ (.cons _ (.cons _ .slnil)))) ?_
                      refine WH.lone (i := 10) (by kernel_rfl) rfl ?_
                      refine va rfl rfl rfl (q_ldo (c := 1) (v := .slice A128 ((gt some_52 i116).vers).length c129) (i := 0) rfl (hx132 hl121).2 rfl Try.isAgg40 rfl rfl) ?_
                      refine WR.nil ?_
                      refine WH.next (fun w hw => hw.back (Gh.refl _) h0127 (.cons _ (.cons _ (.cons _ .slnil)))) ?_
                      refine WH.lone (i := 11) (by kernel_rfl) rfl ?_
                      obtain ⟨z133, hz134, h⟩ := bnd h
                      refine e_call (is := [2]) rfl rfl (call_run Try.call19 rfl rfl (by kernel_rfl)) rfl (fun w hp => t_quorum_Read_Got ho114 ((gt some_52 i116).node) (hx132 hl121).1.1 (hx132 hl121).1.2.1.2 (hx132 hl121).1.2.1.1 hp hz134) ?_
                      rintro Γ135 U137 v138 hl136 ⟨row139, rfl, rfl, hr140, _⟩
                      change WR _ _ _ (CC F Γ135 [row139, row55, row110]) _ _ (upd _ 119 (.bool z133.2))
                      refine WR.nil ?_
                      refine WH.next (fun w hw => hw.back hl136 h0127 (.cons _ (.cons _ (.cons _ .slnil)))) ?_
                      refine WH.done (by kernel_rfl) ?_
                      intro w hw
                      exact ⟨z133.1, Γ135, row139, h, (sl_ (by kernel_rfl)), (hw.only (is := [1, 1, 0]) rfl), hl136, hr140, trivial⟩
                    · refine ⟨_, rfl, ?_⟩
                      obtain ⟨A128, c129, A130, c131, hx132⟩ := (ho56.mono hl108).dfirthlaw16_ReplyT_at i116
                      refine va rfl rfl rfl (q_ldo (c := 1) (v := .slice A128 ((gt some_52 i116).vers).length c129) (i := 0) rfl (hx132 hl121).2 rfl Try.isAgg40 rfl rfl) ?_
                      refine WR.nil ?_
                      refine WH.next (fun w hw => hw.back (Gh.refl _) h0127 (.cons _ (.cons _ (.cons _ .slnil)))) ?_
                      refine WH.lone (i := 5) (by kernel_rfl) rfl ?_
                      refine va rfl rfl rfl (q_ldo (c := 0) (v := .int .i64 (gt some_52 i116).node) (i := 0) rfl (hx132 hl121).2 rfl Try.isAgg3 rfl rfl) ?_
                      refine WR.nil ?_
                      refine WH.next (fun w hw => hw.back (Gh.refl _) h0127 (.cons _ (.cons _ (.cons _ .slnil)))) ?_
                      refine WH.lone (i := 11) (by kernel_rfl) rfl ?_
                      obtain ⟨z133, hz134, h⟩ := bnd h
                      refine e_call (is := [2]) rfl rfl (call_run Try.call19 rfl rfl (by kernel_rfl)) rfl (fun w hp => t_quorum_Read_Got ho114 ((gt some_52 i116).node) (hx132 hl121).1.1 (hx132 hl121).1.2.1.2 (hx132 hl121).1.2.1.1 hp hz134) ?_
                      rintro Γ135 U137 v138 hl136 ⟨row139, rfl, rfl, hr140, _⟩
                      change WR _ _ _ (CC F Γ135 [row139, row55, row110]) _ _ (upd _ 119 (.bool z133.2))
                      refine WR.nil ?_
                      refine WH.next (fun w hw => hw.back hl136 h0127 (.cons _ (.cons _ (.cons _ .slnil)))) ?_
                      refine WH.done (by kernel_rfl) ?_
                      intro w hw
                      exact ⟨z133.1, Γ135, row139, h, (sl_ (by kernel_rfl)), (hw.only (is := [1, 1, 0]) rfl), hl136, hr140, trivial⟩
                · refine ⟨_, rfl, ?_⟩
                  refine va rfl rfl rfl (q_field_addr (i116 * 3 + 1) fld_43_1 rfl rfl ((ho56.mono hl108).some_ hl121) rfl) ?_
                  refine WR.nil ?_
                  refine WH.next (fun w hw => hw.back (Gh.refl _) h0127 (.cons _ (.cons _ (.cons _ .slnil)))) ?_
                  refine WH.each (l := [4, 10]) (by kernel_rfl) (by simp) ?_
                  intro i hi; simp only [List.mem_cons, List.not_mem_nil, or_false] at hi
                  rcases hi with rfl | rfl
                  · refine ⟨_, rfl, ?_⟩
                    refine va rfl rfl rfl (q_field_addr (i116 * 3) fld_43_0 rfl rfl ((ho56.mono hl108).some_ hl121) rfl) ?_
                    refine WR.nil ?_
                    refine WH.next (fun w hw => hw.back (Gh.refl _) h0127 (.cons _ (.cons _ (.cons _ .slnil)))) ?_
                    refine WH.each (l := [5, 10]) (by kernel_rfl) (by simp) ?_
                    intro i hi; simp only [List.mem_cons, List.not_mem_nil, or_false] at hi
                    rcases hi with rfl | rfl
                    · refine ⟨_, rfl, ?_⟩
                      obtain ⟨A128, c129, A130, c131, hx132⟩ := (ho56.mono hl108).dfirthlaw16_ReplyT_at i116
                      refine va rfl rfl rfl (q_ldo (c := 0) (v := .int .i64 (gt some_52 i116).node) (i := 0) rfl (hx132 hl121).2 rfl Try.isAgg3 rfl rfl) ?_
                      refine WR.nil ?_
                      refine WH.next (fun w hw => hw.back (Gh.refl _) h0127 (.cons _ (.cons _ (.cons _ .slnil)))) ?_
                      refine WH.lone (i := 10) (by kernel_rfl) rfl ?_
                      refine va rfl rfl rfl (q_ldo (c := 1) (v := .slice A128 ((gt some_52 i116).vers).length c129) (i := 0) rfl (hx132 hl121).2 rfl Try.isAgg40 rfl rfl) ?_
                      refine WR.nil ?_
                      refine WH.next (fun w hw => hw.back (Gh.refl _) h0127 (.cons _ (.cons _ (.cons _ .slnil)))) ?_
                      refine WH.lone (i := 11) (by kernel_rfl) rfl ?_
                      obtain ⟨z133, hz134, h⟩ := bnd h
                      refine e_call (is := [2]) rfl rfl (call_run Try.call19 rfl rfl (by kernel_rfl)) rfl (fun w hp => t_quorum_Read_Got ho114 ((gt some_52 i116).node) (hx132 hl121).1.1 (hx132 hl121).1.2.1.2 (hx132 hl121).1.2.1.1 hp hz134) ?_
                      rintro Γ135 U137 v138 hl136 ⟨row139, rfl, rfl, hr140, _⟩
                      change WR _ _ _ (CC F Γ135 [row139, row55, row110]) _ _ (upd _ 119 (.bool z133.2))
                      refine WR.nil ?_
                      refine WH.next (fun w hw => hw.back hl136 h0127 (.cons _ (.cons _ (.cons _ .slnil)))) ?_
                      refine WH.done (by kernel_rfl) ?_
                      intro w hw
                      exact ⟨z133.1, Γ135, row139, h, (sl_ (by kernel_rfl)), (hw.only (is := [1, 1, 0]) rfl), hl136, hr140, trivial⟩
                    · refine ⟨_, rfl, ?_⟩
                      obtain ⟨A128, c129, A130, c131, hx132⟩ := (ho56.mono hl108).dfirthlaw16_ReplyT_at i116
                      refine va rfl rfl rfl (q_ldo (c := 1) (v := .slice A128 ((gt some_52 i116).vers).length c129) (i := 0) rfl (hx132 hl121).2 rfl Try.isAgg40 rfl rfl) ?_
                      refine WR.nil ?_
                      refine WH.next (fun w hw => hw.back (Gh.refl _) h0127 (.cons _ (.cons _ (.cons _ .slnil)))) ?_
                      refine WH.lone (i := 5) (by kernel_rfl) rfl ?_
                      refine va rfl rfl rfl (q_ldo (c := 0) (v := .int .i64 (gt some_52 i116).node) (i := 0) rfl (hx132 hl121).2 rfl Try.isAgg3 rfl rfl) ?_
                      refine WR.nil ?_
                      refine WH.next (fun w hw => hw.back (Gh.refl _) h0127 (.cons _ (.cons _ (.cons _ .slnil)))) ?_
                      refine WH.lone (i := 11) (by kernel_rfl) rfl ?_
                      obtain ⟨z133, hz134, h⟩ := bnd h
                      refine e_call (is := [2]) rfl rfl (call_run Try.call19 rfl rfl (by kernel_rfl)) rfl (fun w hp => t_quorum_Read_Got ho114 ((gt some_52 i116).node) (hx132 hl121).1.1 (hx132 hl121).1.2.1.2 (hx132 hl121).1.2.1.1 hp hz134) ?_
                      rintro Γ135 U137 v138 hl136 ⟨row139, rfl, rfl, hr140, _⟩
                      change WR _ _ _ (CC F Γ135 [row139, row55, row110]) _ _ (upd _ 119 (.bool z133.2))
                      refine WR.nil ?_
                      refine WH.next (fun w hw => hw.back hl136 h0127 (.cons _ (.cons _ (.cons _ .slnil)))) ?_
                      refine WH.done (by kernel_rfl) ?_
                      intro w hw
                      exact ⟨z133.1, Γ135, row139, h, (sl_ (by kernel_rfl)), (hw.only (is := [1, 1, 0]) rfl), hl136, hr140, trivial⟩
                  · refine ⟨_, rfl, ?_⟩
                    obtain ⟨A128, c129, A130, c131, hx132⟩ := (ho56.mono hl108).dfirthlaw16_ReplyT_at i116
                    refine va rfl rfl rfl (q_ldo (c := 1) (v := .slice A128 ((gt some_52 i116).vers).length c129) (i := 0) rfl (hx132 hl121).2 rfl Try.isAgg40 rfl rfl) ?_
                    refine WR.nil ?_
                    refine WH.next (fun w hw => hw.back (Gh.refl _) h0127 (.cons _ (.cons _ (.cons _ .slnil)))) ?_
                    refine WH.lone (i := 4) (by kernel_rfl) rfl ?_
                    refine va rfl rfl rfl (q_field_addr (i116 * 3) fld_43_0 rfl rfl ((ho56.mono hl108).some_ hl121) rfl) ?_
                    refine WR.nil ?_
                    refine WH.next (fun w hw => hw.back (Gh.refl _) h0127 (.cons _ (.cons _ (.cons _ .slnil)))) ?_
                    refine WH.lone (i := 5) (by kernel_rfl) rfl ?_
                    refine va rfl rfl rfl (q_ldo (c := 0) (v := .int .i64 (gt some_52 i116).node) (i := 0) rfl (hx132 hl121).2 rfl Try.isAgg3 rfl rfl) ?_
                    refine WR.nil ?_
                    refine WH.next (fun w hw => hw.back (Gh.refl _) h0127 (.cons _ (.cons _ (.cons _ .slnil)))) ?_
                    refine WH.lone (i := 11) (by kernel_rfl) rfl ?_
                    obtain ⟨z133, hz134, h⟩ := bnd h
                    refine e_call (is := [2]) rfl rfl (call_run Try.call19 rfl rfl (by kernel_rfl)) rfl (fun w hp => t_quorum_Read_Got ho114 ((gt some_52 i116).node) (hx132 hl121).1.1 (hx132 hl121).1.2.1.2 (hx132 hl121).1.2.1.1 hp hz134) ?_
                    rintro Γ135 U137 v138 hl136 ⟨row139, rfl, rfl, hr140, _⟩
                    change WR _ _ _ (CC F Γ135 [row139, row55, row110]) _ _ (upd _ 119 (.bool z133.2))
                    refine WR.nil ?_
                    refine WH.next (fun w hw => hw.back hl136 h0127 (.cons _ (.cons _ (.cons _ .slnil)))) ?_
                    refine WH.done (by kernel_rfl) ?_
                    intro w hw
                    exact ⟨z133.1, Γ135, row139, h, (sl_ (by kernel_rfl)), (hw.only (is := [1, 1, 0]) rfl), hl136, hr140, trivial⟩
              · refine ⟨_, rfl, ?_⟩
                refine va rfl rfl rfl (q_field_addr (i116 * 3 + 1) fld_43_1 rfl rfl ((ho56.mono hl108).some_ hl121) rfl) ?_
                refine WR.nil ?_
                refine WH.next (fun w hw => hw.back (Gh.refl _) h0127 (.cons _ (.cons _ (.cons _ .slnil)))) ?_
                refine WH.each (l := [3, 10]) (by kernel_rfl) (by simp) ?_
                intro i hi; simp only [List.mem_cons, List.not_mem_nil, or_false] at hi
                rcases hi with rfl | rfl
                · refine ⟨_, rfl, ?_⟩
                  refine va rfl rfl rfl (q_ixn (i := i116) Try.underlying35 Try.sizeOf43 rfl rfl rfl hl121 ((ho56.mono hl108).some_ hl121)) ?_
                  refine WR.nil ?_
                  refine WH.next (fun w hw => hw.back (Gh.refl _) h0127 (.cons _ (.cons _ (.cons _ .slnil)))) ?_
                  refine WH.each (l := [4, 10]) (by kernel_rfl) (by simp) ?_
                  intro i hi; simp only [List.mem_cons, List.not_mem_nil, or_false] at hi
                  rcases hi with rfl | rfl
                  · refine ⟨_, rfl, ?_⟩
                    refine va rfl rfl rfl (q_field_addr (i116 * 3) fld_43_0 rfl rfl ((ho56.mono hl108).some_ hl121) rfl) ?_
                    refine WR.nil ?_
                    refine WH.next (fun w hw => hw.back (Gh.refl _) h0127 (.cons _ (.cons _ (.cons _ .slnil)))) ?_
                    refine WH.each (l := [5, 10]) (by kernel_rfl) (by simp) ?_
                    intro i hi; simp only [List.mem_cons, List.not_mem_nil, or_false] at hi
                    rcases hi with rfl | rfl
                    · refine ⟨_, rfl, ?_⟩
                      obtain ⟨A128, c129, A130, c131, hx132⟩ := (ho56.mono hl108).dfirthlaw16_ReplyT_at i116
                      refine va rfl rfl rfl (q_ldo (c := 0) (v := .int .i64 (gt some_52 i116).node) (i := 0) rfl (hx132 hl121).2 rfl Try.isAgg3 rfl rfl) ?_
                      refine WR.nil ?_
                      refine WH.next (fun w hw => hw.back (Gh.refl _) h0127 (.cons _ (.cons _ (.cons _ .slnil)))) ?_
                      refine WH.lone (i := 10) (by kernel_rfl) rfl ?_
                      refine va rfl rfl rfl (q_ldo (c := 1) (v := .slice A128 ((gt some_52 i116).vers).length c129) (i := 0) rfl (hx132 hl121).2 rfl Try.isAgg40 rfl rfl) ?_
                      refine WR.nil ?_
                      refine WH.next (fun w hw => hw.back (Gh.refl _) h0127 (.cons _ (.cons _ (.cons _ .slnil)))) ?_
                      refine WH.lone (i := 11) (by kernel_rfl) rfl ?_
                      obtain ⟨z133, hz134, h⟩ := bnd h
                      refine e_call (is := [2]) rfl rfl (call_run Try.call19 rfl rfl (by kernel_rfl)) rfl (fun w hp => t_quorum_Read_Got ho114 ((gt some_52 i116).node) (hx132 hl121).1.1 (hx132 hl121).1.2.1.2 (hx132 hl121).1.2.1.1 hp hz134) ?_
                      rintro Γ135 U137 v138 hl136 ⟨row139, rfl, rfl, hr140, _⟩
                      change WR _ _ _ (CC F Γ135 [row139, row55, row110]) _ _ (upd _ 119 (.bool z133.2))
                      refine WR.nil ?_
                      refine WH.next (fun w hw => hw.back hl136 h0127 (.cons _ (.cons _ (.cons _ .slnil)))) ?_
                      refine WH.done (by kernel_rfl) ?_
                      intro w hw
                      exact ⟨z133.1, Γ135, row139, h, (sl_ (by kernel_rfl)), (hw.only (is := [1, 1, 0]) rfl), hl136, hr140, trivial⟩
                    · refine ⟨_, rfl, ?_⟩
                      obtain ⟨A128, c129, A130, c131, hx132⟩ := (ho56.mono hl108).dfirthlaw16_ReplyT_at i116
                      refine va rfl rfl rfl (q_ldo (c := 1) (v := .slice A128 ((gt some_52 i116).vers).length c129) (i := 0) rfl (hx132 hl121).2 rfl Try.isAgg40 rfl rfl) ?_
                      refine WR.nil ?_
                      refine WH.next (fun w hw => hw.back (Gh.refl _) h0127 (.cons _ (.cons _ (.cons _ .slnil)))) ?_
                      refine WH.lone (i := 5) (by kernel_rfl) rfl ?_
                      refine va rfl rfl rfl (q_ldo (c := 0) (v := .int .i64 (gt some_52 i116).node) (i := 0) rfl (hx132 hl121).2 rfl Try.isAgg3 rfl rfl) ?_
                      refine WR.nil ?_
                      refine WH.next (fun w hw => hw.back (Gh.refl _) h0127 (.cons _ (.cons _ (.cons _ .slnil)))) ?_
                      refine WH.lone (i := 11) (by kernel_rfl) rfl ?_
                      obtain ⟨z133, hz134, h⟩ := bnd h
                      refine e_call (is := [2]) rfl rfl (call_run Try.call19 rfl rfl (by kernel_rfl)) rfl (fun w hp => t_quorum_Read_Got ho114 ((gt some_52 i116).node) (hx132 hl121).1.1 (hx132 hl121).1.2.1.2 (hx132 hl121).1.2.1.1 hp hz134) ?_
                      rintro Γ135 U137 v138 hl136 ⟨row139, rfl, rfl, hr140, _⟩
                      change WR _ _ _ (CC F Γ135 [row139, row55, row110]) _ _ (upd _ 119 (.bool z133.2))
                      refine WR.nil ?_
                      refine WH.next (fun w hw => hw.back hl136 h0127 (.cons _ (.cons _ (.cons _ .slnil)))) ?_
                      refine WH.done (by kernel_rfl) ?_
                      intro w hw
                      exact ⟨z133.1, Γ135, row139, h, (sl_ (by kernel_rfl)), (hw.only (is := [1, 1, 0]) rfl), hl136, hr140, trivial⟩
                  · refine ⟨_, rfl, ?_⟩
                    obtain ⟨A128, c129, A130, c131, hx132⟩ := (ho56.mono hl108).dfirthlaw16_ReplyT_at i116
                    refine va rfl rfl rfl (q_ldo (c := 1) (v := .slice A128 ((gt some_52 i116).vers).length c129) (i := 0) rfl (hx132 hl121).2 rfl Try.isAgg40 rfl rfl) ?_
                    refine WR.nil ?_
                    refine WH.next (fun w hw => hw.back (Gh.refl _) h0127 (.cons _ (.cons _ (.cons _ .slnil)))) ?_
                    refine WH.lone (i := 4) (by kernel_rfl) rfl ?_
                    refine va rfl rfl rfl (q_field_addr (i116 * 3) fld_43_0 rfl rfl ((ho56.mono hl108).some_ hl121) rfl) ?_
                    refine WR.nil ?_
                    refine WH.next (fun w hw => hw.back (Gh.refl _) h0127 (.cons _ (.cons _ (.cons _ .slnil)))) ?_
                    refine WH.lone (i := 5) (by kernel_rfl) rfl ?_
                    refine va rfl rfl rfl (q_ldo (c := 0) (v := .int .i64 (gt some_52 i116).node) (i := 0) rfl (hx132 hl121).2 rfl Try.isAgg3 rfl rfl) ?_
                    refine WR.nil ?_
                    refine WH.next (fun w hw => hw.back (Gh.refl _) h0127 (.cons _ (.cons _ (.cons _ .slnil)))) ?_
                    refine WH.lone (i := 11) (by kernel_rfl) rfl ?_
                    obtain ⟨z133, hz134, h⟩ := bnd h
                    refine e_call (is := [2]) rfl rfl (call_run Try.call19 rfl rfl (by kernel_rfl)) rfl (fun w hp => t_quorum_Read_Got ho114 ((gt some_52 i116).node) (hx132 hl121).1.1 (hx132 hl121).1.2.1.2 (hx132 hl121).1.2.1.1 hp hz134) ?_
                    rintro Γ135 U137 v138 hl136 ⟨row139, rfl, rfl, hr140, _⟩
                    change WR _ _ _ (CC F Γ135 [row139, row55, row110]) _ _ (upd _ 119 (.bool z133.2))
                    refine WR.nil ?_
                    refine WH.next (fun w hw => hw.back hl136 h0127 (.cons _ (.cons _ (.cons _ .slnil)))) ?_
                    refine WH.done (by kernel_rfl) ?_
                    intro w hw
                    exact ⟨z133.1, Γ135, row139, h, (sl_ (by kernel_rfl)), (hw.only (is := [1, 1, 0]) rfl), hl136, hr140, trivial⟩
                · refine ⟨_, rfl, ?_⟩
                  obtain ⟨A128, c129, A130, c131, hx132⟩ := (ho56.mono hl108).dfirthlaw16_ReplyT_at i116
                  refine va rfl rfl rfl (q_ldo (c := 1) (v := .slice A128 ((gt some_52 i116).vers).length c129) (i := 0) rfl (hx132 hl121).2 rfl Try.isAgg40 rfl rfl) ?_
                  refine WR.nil ?_
                  refine WH.next (fun w hw => hw.back (Gh.refl _) h0127 (.cons _ (.cons _ (.cons _ .slnil)))) ?_
                  refine WH.lone (i := 3) (by kernel_rfl) rfl ?_
                  refine va rfl rfl rfl (q_ixn (i := i116) Try.underlying35 Try.sizeOf43 rfl rfl rfl hl121 ((ho56.mono hl108).some_ hl121)) ?_
                  refine WR.nil ?_
                  refine WH.next (fun w hw => hw.back (Gh.refl _) h0127 (.cons _ (.cons _ (.cons _ .slnil)))) ?_
                  refine WH.lone (i := 4) (by kernel_rfl) rfl ?_
                  refine va rfl rfl rfl (q_field_addr (i116 * 3) fld_43_0 rfl rfl ((ho56.mono hl108).some_ hl121) rfl) ?_
                  refine WR.nil ?_
                  refine WH.next (fun w hw => hw.back (Gh.refl _) h0127 (.cons _ (.cons _ (.cons _ .slnil)))) ?_
                  refine WH.lone (i := 5) (by kernel_rfl) rfl ?_
                  refine va rfl rfl rfl (q_ldo (c := 0) (v := .int .i64 (gt some_52 i116).node) (i := 0) rfl (hx132 hl121).2 rfl Try.isAgg3 rfl rfl) ?_
                  refine WR.nil ?_
                  refine WH.next (fun w hw => hw.back (Gh.refl _) h0127 (.cons _ (.cons _ (.cons _ .slnil)))) ?_
                  refine WH.lone (i := 11) (by kernel_rfl) rfl ?_
                  obtain ⟨z133, hz134, h⟩ := bnd h
                  refine e_call (is := [2]) rfl rfl (call_run Try.call19 rfl rfl (by kernel_rfl)) rfl (fun w hp => t_quorum_Read_Got ho114 ((gt some_52 i116).node) (hx132 hl121).1.1 (hx132 hl121).1.2.1.2 (hx132 hl121).1.2.1.1 hp hz134) ?_
                  rintro Γ135 U137 v138 hl136 ⟨row139, rfl, rfl, hr140, _⟩
                  change WR _ _ _ (CC F Γ135 [row139, row55, row110]) _ _ (upd _ 119 (.bool z133.2))
                  refine WR.nil ?_
                  refine WH.next (fun w hw => hw.back hl136 h0127 (.cons _ (.cons _ (.cons _ .slnil)))) ?_
                  refine WH.done (by kernel_rfl) ?_
                  intro w hw
                  exact ⟨z133.1, Γ135, row139, h, (sl_ (by kernel_rfl)), (hw.only (is := [1, 1, 0]) rfl), hl136, hr140, trivial⟩
          · skip
            rintro σ w ⟨o124, Γ122, row125, h, hsl, hw, hl123, ho126, -⟩
            refine Wpt.slots hsl ?_
            refine WC.here (C := CC F Γ122 [row55, row110, row125]) ?_ hw
            clear hw hsl
            refine WC.rs ?_
            refine va rfl rfl rfl (q_move (v := .slice A53 some_52.length c54) rfl (by kernel_rfl)) ?_
            refine va rfl rfl rfl (q_len_slice rfl Try.underlying35 rfl) ?_
            refine va rfl rfl rfl (q_sub rfl rfl rfl) ?_
            refine va rfl rfl rfl (q_move (v := .int .i64 ((i116 : Nat) : Int)) rfl (by kernel_rfl)) ?_
            refine va rfl rfl rfl (q_sub rfl rfl rfl) ?_
            refine va rfl rfl rfl (q_assign (v := .int .i64 (w64 ((w64 (((some_52.length : Nat) : Int) - 1)) - ((i116 : Nat) : Int)))) rfl (by kernel_rfl)) ?_
            refine WR.nil ?_
            change WC _ _ _ _ _ _
            refine WC.cut (fun σ w => ∃ (k_141 : Int), m_firthlaw16_QuorumOrder_j14 some_52 o109 f115 o124 k_141 = some r ∧ slots σ [(2, .int .i64 turn), (8, optp z17.1 g23), (10, optp z27.1 g33), (14, .slice A53 some_52.length c54), (17, .int .i64 ((i116 : Nat) : Int)), (18, .int .i64 k_141)] ∧ CC F Γ122 [row55, row110, row125] w ∧ True) ?_ ?_
            · skip
              refine WC.rs ?_
              refine va rfl rfl rfl (q_move (v := .int .i64 turn) rfl (by kernel_rfl)) ?_
              refine va rfl rfl rfl (q_rem rfl rfl rfl (by decide)) ?_
              refine va rfl rfl rfl (q_neq rfl rfl rfl) ?_
              refine WR.nil ?_
              change WC _ _ _ _ _ _
              refine WC.cif h (by kernel_rfl) (fun hb142 h => ?_) (fun hb142 h => ?_)
              · skip
                refine WC.region ?_
                refine va rfl rfl rfl (q_move (v := .int .i64 ((i116 : Nat) : Int)) rfl (by kernel_rfl)) ?_
                refine va rfl rfl rfl (q_move (v := .slice A53 some_52.length c54) rfl (by kernel_rfl)) ?_
                refine va rfl rfl rfl (q_len_slice rfl Try.underlying35 rfl) ?_
                refine va rfl rfl rfl (q_quo rfl rfl rfl (by decide)) ?_
                refine va rfl rfl rfl (q_add rfl rfl rfl) ?_
                refine va rfl rfl rfl (q_move (v := .slice A53 some_52.length c54) rfl (by kernel_rfl)) ?_
                refine va rfl rfl rfl (q_len_slice rfl Try.underlying35 rfl) ?_
                obtain ⟨hk143, h⟩ := chk_some h
                refine va rfl rfl rfl (q_rem rfl rfl rfl hk143) ?_
                refine va rfl rfl rfl (q_assign (v := .int .i64 ((w64 (((i116 : Nat) : Int) + (w64 (((some_52.length : Nat) : Int).tdiv 2)))).tmod ((some_52.length : Nat) : Int))) rfl (by kernel_rfl)) ?_
                refine WR.nil ?_
                intro w hw
                exact ⟨((w64 (((i116 : Nat) : Int) + (w64 (((some_52.length : Nat) : Int).tdiv 2)))).tmod ((some_52.length : Nat) : Int)), h, (sl_ (by kernel_rfl)), hw, trivial⟩
              · skip
                refine WC.skip ?_
                intro w hw
                exact ⟨(w64 ((w64 (((some_52.length : Nat) : Int) - 1)) - ((i116 : Nat) : Int))), h, (sl_ (by kernel_rfl)), hw, trivial⟩
            · skip
              rintro σ w ⟨k_141, h, hsl, hw, -⟩
              refine Wpt.slots hsl ?_
              refine WC.here (C := CC F Γ122 [row55, row110, row125]) ?_ hw
              clear hw hsl
              intro w hw; have h0144 := hw.le
              refine WC.here (C := CC F Γ122 [row55, row110, row125]) ?_ hw; clear hw
              refine WC.held (CC F Γ122 []) (by kernel_rfl) (fun w hw => hw.drawn _) ?_
              change WH _ _ _ _ (CC F Γ122 [row55, row110, row125]) _ 12 #[false, false, false, false, false, false, false, false, false, false, false, false] _
              refine ht (i := 0) rfl (by kernel_rfl) rfl rfl rfl (fun w hw => hw.back (Gh.refl _) h0144 (.cons _ (.cons _ (.cons _ .slnil)))) (q_move (v := .pointer (some ⟨g33, 0, none⟩)) rfl (optp_some rfl hz45)) ?_
              refine ht (i := 1) rfl (by kernel_rfl) rfl rfl rfl (fun w hw => hw.back (Gh.refl _) h0144 (.cons _ (.cons _ (.cons _ .slnil)))) (q_move (v := .slice A53 some_52.length c54) rfl (by kernel_rfl)) ?_
              refine ht (i := 2) rfl (by kernel_rfl) rfl rfl rfl (fun w hw => hw.back (Gh.refl _) h0144 (.cons _ (.cons _ (.cons _ .slnil)))) (q_move (v := .int .i64 k_141) rfl (by kernel_rfl)) ?_
              refine ht (i := 6) rfl (by kernel_rfl) rfl rfl rfl (fun w hw => hw.back (Gh.refl _) h0144 (.cons _ (.cons _ (.cons _ .slnil)))) (q_move (v := .slice A53 some_52.length c54) rfl (by kernel_rfl)) ?_
              refine ht (i := 7) rfl (by kernel_rfl) rfl rfl rfl (fun w hw => hw.back (Gh.refl _) h0144 (.cons _ (.cons _ (.cons _ .slnil)))) (q_move (v := .int .i64 k_141) rfl (by kernel_rfl)) ?_
              obtain ⟨hk149, h⟩ := chk_some h
              refine WH.each (l := [3, 8]) (by kernel_rfl) (by simp) ?_
              intro i hi; simp only [List.mem_cons, List.not_mem_nil, or_false] at hi
              rcases hi with rfl | rfl
              · refine ⟨_, rfl, ?_⟩
                refine va rfl rfl rfl (q_ix Try.underlying35 Try.sizeOf43 rfl rfl rfl hk149 ((ho56.mono (hl108.trans hl123)).some_ (inb_lt hk149))) ?_
                refine WR.nil ?_
                refine WH.next (fun w hw => hw.back (Gh.refl _) h0144 (.cons _ (.cons _ (.cons _ .slnil)))) ?_
                refine WH.each (l := [4, 8]) (by kernel_rfl) (by simp) ?_
                intro i hi; simp only [List.mem_cons, List.not_mem_nil, or_false] at hi
                rcases hi with rfl | rfl
                · refine ⟨_, rfl, ?_⟩
                  refine va rfl rfl rfl (q_field_addr (k_141.toNat * 3) fld_43_0 rfl rfl ((ho56.mono (hl108.trans hl123)).some_ (inb_lt hk149)) rfl) ?_
                  refine WR.nil ?_
                  refine WH.next (fun w hw => hw.back (Gh.refl _) h0144 (.cons _ (.cons _ (.cons _ .slnil)))) ?_
                  refine WH.each (l := [5, 8]) (by kernel_rfl) (by simp) ?_
                  intro i hi; simp only [List.mem_cons, List.not_mem_nil, or_false] at hi
                  rcases hi with rfl | rfl
                  · refine ⟨_, rfl, ?_⟩
                    obtain ⟨A150, c151, A152, c153, hx154⟩ := (ho56.mono (hl108.trans hl123)).dfirthlaw16_ReplyT_at k_141.toNat
                    refine va rfl rfl rfl (q_ldo (c := 0) (v := .int .i64 (gt some_52 k_141.toNat).node) (i := 0) rfl (hx154 (inb_lt hk149)).2 rfl Try.isAgg3 rfl rfl) ?_
                    refine WR.nil ?_
                    refine WH.next (fun w hw => hw.back (Gh.refl _) h0144 (.cons _ (.cons _ (.cons _ .slnil)))) ?_
                    refine WH.lone (i := 8) (by kernel_rfl) rfl ?_
                    refine va rfl rfl rfl (q_ix Try.underlying35 Try.sizeOf43 rfl rfl rfl hk149 ((ho56.mono (hl108.trans hl123)).some_ (inb_lt hk149))) ?_
                    refine WR.nil ?_
                    refine WH.next (fun w hw => hw.back (Gh.refl _) h0144 (.cons _ (.cons _ (.cons _ .slnil)))) ?_
                    refine WH.lone (i := 9) (by kernel_rfl) rfl ?_
                    refine va rfl rfl rfl (q_field_addr (k_141.toNat * 3 + 1) fld_43_1 rfl rfl ((ho56.mono (hl108.trans hl123)).some_ (inb_lt hk149)) rfl) ?_
                    refine WR.nil ?_
                    refine WH.next (fun w hw => hw.back (Gh.refl _) h0144 (.cons _ (.cons _ (.cons _ .slnil)))) ?_
                    refine WH.lone (i := 10) (by kernel_rfl) rfl ?_
                    refine va rfl rfl rfl (q_ldo (c := 1) (v := .slice A150 ((gt some_52 k_141.toNat).vers).length c151) (i := 0) rfl (hx154 (inb_lt hk149)).2 rfl Try.isAgg40 rfl rfl) ?_
                    refine WR.nil ?_
                    refine WH.next (fun w hw => hw.back (Gh.refl _) h0144 (.cons _ (.cons _ (.cons _ .slnil)))) ?_
                    refine WH.lone (i := 11) (by kernel_rfl) rfl ?_
                    obtain ⟨z155, hz156, h⟩ := bnd h
                    refine e_call (is := [1]) rfl rfl (call_run Try.call19 rfl rfl (by kernel_rfl)) rfl (fun w hp => t_quorum_Read_Got (ho111.mono hl123) ((gt some_52 k_141.toNat).node) (hx154 (inb_lt hk149)).1.1 (hx154 (inb_lt hk149)).1.2.1.2 (hx154 (inb_lt hk149)).1.2.1.1 hp hz156) ?_
                    rintro Γ157 U159 v160 hl158 ⟨row161, rfl, rfl, hr162, _⟩
                    change WR _ _ _ (CC F Γ157 [row161, row55, row125]) _ _ (upd _ 147 (.bool z155.2))
                    refine WR.nil ?_
                    refine WH.next (fun w hw => hw.back hl158 h0144 (.cons _ (.cons _ (.cons _ .slnil)))) ?_
                    refine WH.done (by kernel_rfl) ?_
                    change WC _ _ _ _ _ _
                    refine WC.region ?_
                    refine va rfl rfl rfl (q_move (v := .int .i64 ((i116 : Nat) : Int)) rfl (by kernel_rfl)) ?_
                    refine va rfl rfl rfl (q_add_r (r := ((i116 + 1 : Nat) : Int)) rfl rfl rfl (ctr_len hl121 (ho56.mono hl108).le)) ?_
                    refine va rfl rfl rfl (q_assign (v := .int .i64 ((i116 + 1 : Nat) : Int)) rfl (by kernel_rfl)) ?_
                    refine WR.nil ?_
                    intro w hw
                    exact ⟨hl121, (z155.1, o124), h, Γ157, row161, row125, (sl_ (by kernel_rfl)), (hw.only (is := [1, 0, 0]) rfl), ((hl108.trans hl123).trans hl158), hr162, (ho126.mono hl158), trivial⟩
                  · refine ⟨_, rfl, ?_⟩
                    refine va rfl rfl rfl (q_ix Try.underlying35 Try.sizeOf43 rfl rfl rfl hk149 ((ho56.mono (hl108.trans hl123)).some_ (inb_lt hk149))) ?_
                    refine WR.nil ?_
                    refine WH.next (fun w hw => hw.back (Gh.refl _) h0144 (.cons _ (.cons _ (.cons _ .slnil)))) ?_
                    refine WH.each (l := [5, 9]) (by kernel_rfl) (by simp) ?_
                    intro i hi; simp only [List.mem_cons, List.not_mem_nil, or_false] at hi
                    rcases hi with rfl | rfl
                    · refine ⟨_, rfl, ?_⟩
                      obtain ⟨A150, c151, A152, c153, hx154⟩ := (ho56.mono (hl108.trans hl123)).dfirthlaw16_ReplyT_at k_141.toNat
                      refine va rfl rfl rfl (q_ldo (c := 0) (v := .int .i64 (gt some_52 k_141.toNat).node) (i := 0) rfl (hx154 (inb_lt hk149)).2 rfl Try.isAgg3 rfl rfl) ?_
                      refine WR.nil ?_
                      refine WH.next (fun w hw => hw.back (Gh.refl _) h0144 (.cons _ (.cons _ (.cons _ .slnil)))) ?_
                      refine WH.lone (i := 9) (by kernel_rfl) rfl ?_
                      refine va rfl rfl rfl (q_field_addr (k_141.toNat * 3 + 1) fld_43_1 rfl rfl ((ho56.mono (hl108.trans hl123)).some_ (inb_lt hk149)) rfl) ?_
                      refine WR.nil ?_
                      refine WH.next (fun w hw => hw.back (Gh.refl _) h0144 (.cons _ (.cons _ (.cons _ .slnil)))) ?_
                      refine WH.lone (i := 10) (by kernel_rfl) rfl ?_
                      refine va rfl rfl rfl (q_ldo (c := 1) (v := .slice A150 ((gt some_52 k_141.toNat).vers).length c151) (i := 0) rfl (hx154 (inb_lt hk149)).2 rfl Try.isAgg40 rfl rfl) ?_
                      refine WR.nil ?_
                      refine WH.next (fun w hw => hw.back (Gh.refl _) h0144 (.cons _ (.cons _ (.cons _ .slnil)))) ?_
                      refine WH.lone (i := 11) (by kernel_rfl) rfl ?_
                      obtain ⟨z155, hz156, h⟩ := bnd h
                      refine e_call (is := [1]) rfl rfl (call_run Try.call19 rfl rfl (by kernel_rfl)) rfl (fun w hp => t_quorum_Read_Got (ho111.mono hl123) ((gt some_52 k_141.toNat).node) (hx154 (inb_lt hk149)).1.1 (hx154 (inb_lt hk149)).1.2.1.2 (hx154 (inb_lt hk149)).1.2.1.1 hp hz156) ?_
                      rintro Γ157 U159 v160 hl158 ⟨row161, rfl, rfl, hr162, _⟩
                      change WR _ _ _ (CC F Γ157 [row161, row55, row125]) _ _ (upd _ 147 (.bool z155.2))
                      refine WR.nil ?_
                      refine WH.next (fun w hw => hw.back hl158 h0144 (.cons _ (.cons _ (.cons _ .slnil)))) ?_
                      refine WH.done (by kernel_rfl) ?_
                      change WC _ _ _ _ _ _
                      refine WC.region ?_
                      refine va rfl rfl rfl (q_move (v := .int .i64 ((i116 : Nat) : Int)) rfl (by kernel_rfl)) ?_
                      refine va rfl rfl rfl (q_add_r (r := ((i116 + 1 : Nat) : Int)) rfl rfl rfl (ctr_len hl121 (ho56.mono hl108).le)) ?_
                      refine va rfl rfl rfl (q_assign (v := .int .i64 ((i116 + 1 : Nat) : Int)) rfl (by kernel_rfl)) ?_
                      refine WR.nil ?_
                      intro w hw
                      exact ⟨hl121, (z155.1, o124), h, Γ157, row161, row125, (sl_ (by kernel_rfl)), (hw.only (is := [1, 0, 0]) rfl), ((hl108.trans hl123).trans hl158), hr162, (ho126.mono hl158), trivial⟩
                    · refine ⟨_, rfl, ?_⟩
                      refine va rfl rfl rfl (q_field_addr (k_141.toNat * 3 + 1) fld_43_1 rfl rfl ((ho56.mono (hl108.trans hl123)).some_ (inb_lt hk149)) rfl) ?_
                      refine WR.nil ?_
                      refine WH.next (fun w hw => hw.back (Gh.refl _) h0144 (.cons _ (.cons _ (.cons _ .slnil)))) ?_
                      refine WH.each (l := [5, 10]) (by kernel_rfl) (by simp) ?_
                      intro i hi; simp only [List.mem_cons, List.not_mem_nil, or_false] at hi
                      rcases hi with rfl | rfl
                      · refine ⟨_, rfl, ?_⟩
                        obtain ⟨A150, c151, A152, c153, hx154⟩ := (ho56.mono (hl108.trans hl123)).dfirthlaw16_ReplyT_at k_141.toNat
                        refine va rfl rfl rfl (q_ldo (c := 0) (v := .int .i64 (gt some_52 k_141.toNat).node) (i := 0) rfl (hx154 (inb_lt hk149)).2 rfl Try.isAgg3 rfl rfl) ?_
                        refine WR.nil ?_
                        refine WH.next (fun w hw => hw.back (Gh.refl _) h0144 (.cons _ (.cons _ (.cons _ .slnil)))) ?_
                        refine WH.lone (i := 10) (by kernel_rfl) rfl ?_
                        refine va rfl rfl rfl (q_ldo (c := 1) (v := .slice A150 ((gt some_52 k_141.toNat).vers).length c151) (i := 0) rfl (hx154 (inb_lt hk149)).2 rfl Try.isAgg40 rfl rfl) ?_
                        refine WR.nil ?_
                        refine WH.next (fun w hw => hw.back (Gh.refl _) h0144 (.cons _ (.cons _ (.cons _ .slnil)))) ?_
                        refine WH.lone (i := 11) (by kernel_rfl) rfl ?_
                        obtain ⟨z155, hz156, h⟩ := bnd h
                        refine e_call (is := [1]) rfl rfl (call_run Try.call19 rfl rfl (by kernel_rfl)) rfl (fun w hp => t_quorum_Read_Got (ho111.mono hl123) ((gt some_52 k_141.toNat).node) (hx154 (inb_lt hk149)).1.1 (hx154 (inb_lt hk149)).1.2.1.2 (hx154 (inb_lt hk149)).1.2.1.1 hp hz156) ?_
                        rintro Γ157 U159 v160 hl158 ⟨row161, rfl, rfl, hr162, _⟩
                        change WR _ _ _ (CC F Γ157 [row161, row55, row125]) _ _ (upd _ 147 (.bool z155.2))
                        refine WR.nil ?_
                        refine WH.next (fun w hw => hw.back hl158 h0144 (.cons _ (.cons _ (.cons _ .slnil)))) ?_
                        refine WH.done (by kernel_rfl) ?_
                        change WC _ _ _ _ _ _
                        refine WC.region ?_
                        refine va rfl rfl rfl (q_move (v := .int .i64 ((i116 : Nat) : Int)) rfl (by kernel_rfl)) ?_
                        refine va rfl rfl rfl (q_add_r (r := ((i116 + 1 : Nat) : Int)) rfl rfl rfl (ctr_len hl121 (ho56.mono hl108).le)) ?_
                        refine va rfl rfl rfl (q_assign (v := .int .i64 ((i116 + 1 : Nat) : Int)) rfl (by kernel_rfl)) ?_
                        refine WR.nil ?_
                        intro w hw
                        exact ⟨hl121, (z155.1, o124), h, Γ157, row161, row125, (sl_ (by kernel_rfl)), (hw.only (is := [1, 0, 0]) rfl), ((hl108.trans hl123).trans hl158), hr162, (ho126.mono hl158), trivial⟩
                      · refine ⟨_, rfl, ?_⟩
                        obtain ⟨A150, c151, A152, c153, hx154⟩ := (ho56.mono (hl108.trans hl123)).dfirthlaw16_ReplyT_at k_141.toNat
                        refine va rfl rfl rfl (q_ldo (c := 1) (v := .slice A150 ((gt some_52 k_141.toNat).vers).length c151) (i := 0) rfl (hx154 (inb_lt hk149)).2 rfl Try.isAgg40 rfl rfl) ?_
                        refine WR.nil ?_
                        refine WH.next (fun w hw => hw.back (Gh.refl _) h0144 (.cons _ (.cons _ (.cons _ .slnil)))) ?_
                        refine WH.lone (i := 5) (by kernel_rfl) rfl ?_
                        refine va rfl rfl rfl (q_ldo (c := 0) (v := .int .i64 (gt some_52 k_141.toNat).node) (i := 0) rfl (hx154 (inb_lt hk149)).2 rfl Try.isAgg3 rfl rfl) ?_
                        refine WR.nil ?_
                        refine WH.next (fun w hw => hw.back (Gh.refl _) h0144 (.cons _ (.cons _ (.cons _ .slnil)))) ?_
                        refine WH.lone (i := 11) (by kernel_rfl) rfl ?_
                        obtain ⟨z155, hz156, h⟩ := bnd h
                        refine e_call (is := [1]) rfl rfl (call_run Try.call19 rfl rfl (by kernel_rfl)) rfl (fun w hp => t_quorum_Read_Got (ho111.mono hl123) ((gt some_52 k_141.toNat).node) (hx154 (inb_lt hk149)).1.1 (hx154 (inb_lt hk149)).1.2.1.2 (hx154 (inb_lt hk149)).1.2.1.1 hp hz156) ?_
                        rintro Γ157 U159 v160 hl158 ⟨row161, rfl, rfl, hr162, _⟩
                        change WR _ _ _ (CC F Γ157 [row161, row55, row125]) _ _ (upd _ 147 (.bool z155.2))
                        refine WR.nil ?_
                        refine WH.next (fun w hw => hw.back hl158 h0144 (.cons _ (.cons _ (.cons _ .slnil)))) ?_
                        refine WH.done (by kernel_rfl) ?_
                        change WC _ _ _ _ _ _
                        refine WC.region ?_
                        refine va rfl rfl rfl (q_move (v := .int .i64 ((i116 : Nat) : Int)) rfl (by kernel_rfl)) ?_
                        refine va rfl rfl rfl (q_add_r (r := ((i116 + 1 : Nat) : Int)) rfl rfl rfl (ctr_len hl121 (ho56.mono hl108).le)) ?_
                        refine va rfl rfl rfl (q_assign (v := .int .i64 ((i116 + 1 : Nat) : Int)) rfl (by kernel_rfl)) ?_
                        refine WR.nil ?_
                        intro w hw
                        exact ⟨hl121, (z155.1, o124), h, Γ157, row161, row125, (sl_ (by kernel_rfl)), (hw.only (is := [1, 0, 0]) rfl), ((hl108.trans hl123).trans hl158), hr162, (ho126.mono hl158), trivial⟩
                · refine ⟨_, rfl, ?_⟩
                  refine va rfl rfl rfl (q_ix Try.underlying35 Try.sizeOf43 rfl rfl rfl hk149 ((ho56.mono (hl108.trans hl123)).some_ (inb_lt hk149))) ?_
                  refine WR.nil ?_
                  refine WH.next (fun w hw => hw.back (Gh.refl _) h0144 (.cons _ (.cons _ (.cons _ .slnil)))) ?_
                  refine WH.each (l := [4, 9]) (by kernel_rfl) (by simp) ?_
                  intro i hi; simp only [List.mem_cons, List.not_mem_nil, or_false] at hi
                  rcases hi with rfl | rfl
                  · refine ⟨_, rfl, ?_⟩
                    refine va rfl rfl rfl (q_field_addr (k_141.toNat * 3) fld_43_0 rfl rfl ((ho56.mono (hl108.trans hl123)).some_ (inb_lt hk149)) rfl) ?_
                    refine WR.nil ?_
                    refine WH.next (fun w hw => hw.back (Gh.refl _) h0144 (.cons _ (.cons _ (.cons _ .slnil)))) ?_
                    refine WH.each (l := [5, 9]) (by kernel_rfl) (by simp) ?_
                    intro i hi; simp only [List.mem_cons, List.not_mem_nil, or_false] at hi
                    rcases hi with rfl | rfl
                    · refine ⟨_, rfl, ?_⟩
                      obtain ⟨A150, c151, A152, c153, hx154⟩ := (ho56.mono (hl108.trans hl123)).dfirthlaw16_ReplyT_at k_141.toNat
                      refine va rfl rfl rfl (q_ldo (c := 0) (v := .int .i64 (gt some_52 k_141.toNat).node) (i := 0) rfl (hx154 (inb_lt hk149)).2 rfl Try.isAgg3 rfl rfl) ?_
                      refine WR.nil ?_
                      refine WH.next (fun w hw => hw.back (Gh.refl _) h0144 (.cons _ (.cons _ (.cons _ .slnil)))) ?_
                      refine WH.lone (i := 9) (by kernel_rfl) rfl ?_
                      refine va rfl rfl rfl (q_field_addr (k_141.toNat * 3 + 1) fld_43_1 rfl rfl ((ho56.mono (hl108.trans hl123)).some_ (inb_lt hk149)) rfl) ?_
                      refine WR.nil ?_
                      refine WH.next (fun w hw => hw.back (Gh.refl _) h0144 (.cons _ (.cons _ (.cons _ .slnil)))) ?_
                      refine WH.lone (i := 10) (by kernel_rfl) rfl ?_
                      refine va rfl rfl rfl (q_ldo (c := 1) (v := .slice A150 ((gt some_52 k_141.toNat).vers).length c151) (i := 0) rfl (hx154 (inb_lt hk149)).2 rfl Try.isAgg40 rfl rfl) ?_
                      refine WR.nil ?_
                      refine WH.next (fun w hw => hw.back (Gh.refl _) h0144 (.cons _ (.cons _ (.cons _ .slnil)))) ?_
                      refine WH.lone (i := 11) (by kernel_rfl) rfl ?_
                      obtain ⟨z155, hz156, h⟩ := bnd h
                      refine e_call (is := [1]) rfl rfl (call_run Try.call19 rfl rfl (by kernel_rfl)) rfl (fun w hp => t_quorum_Read_Got (ho111.mono hl123) ((gt some_52 k_141.toNat).node) (hx154 (inb_lt hk149)).1.1 (hx154 (inb_lt hk149)).1.2.1.2 (hx154 (inb_lt hk149)).1.2.1.1 hp hz156) ?_
                      rintro Γ157 U159 v160 hl158 ⟨row161, rfl, rfl, hr162, _⟩
                      change WR _ _ _ (CC F Γ157 [row161, row55, row125]) _ _ (upd _ 147 (.bool z155.2))
                      refine WR.nil ?_
                      refine WH.next (fun w hw => hw.back hl158 h0144 (.cons _ (.cons _ (.cons _ .slnil)))) ?_
                      refine WH.done (by kernel_rfl) ?_
                      change WC _ _ _ _ _ _
                      refine WC.region ?_
                      refine va rfl rfl rfl (q_move (v := .int .i64 ((i116 : Nat) : Int)) rfl (by kernel_rfl)) ?_
                      refine va rfl rfl rfl (q_add_r (r := ((i116 + 1 : Nat) : Int)) rfl rfl rfl (ctr_len hl121 (ho56.mono hl108).le)) ?_
                      refine va rfl rfl rfl (q_assign (v := .int .i64 ((i116 + 1 : Nat) : Int)) rfl (by kernel_rfl)) ?_
                      refine WR.nil ?_
                      intro w hw
                      exact ⟨hl121, (z155.1, o124), h, Γ157, row161, row125, (sl_ (by kernel_rfl)), (hw.only (is := [1, 0, 0]) rfl), ((hl108.trans hl123).trans hl158), hr162, (ho126.mono hl158), trivial⟩
                    · refine ⟨_, rfl, ?_⟩
                      refine va rfl rfl rfl (q_field_addr (k_141.toNat * 3 + 1) fld_43_1 rfl rfl ((ho56.mono (hl108.trans hl123)).some_ (inb_lt hk149)) rfl) ?_
                      refine WR.nil ?_
                      refine WH.next (fun w hw => hw.back (Gh.refl _) h0144 (.cons _ (.cons _ (.cons _ .slnil)))) ?_
                      refine WH.each (l := [5, 10]) (by kernel_rfl) (by simp) ?_
                      intro i hi; simp only [List.mem_cons, List.not_mem_nil, or_false] at hi
                      rcases hi with rfl | rfl
                      · refine ⟨_, rfl, ?_⟩
                        obtain ⟨A150, c151, A152, c153, hx154⟩ := (ho56.mono (hl108.trans hl123)).dfirthlaw16_ReplyT_at k_141.toNat
                        refine va rfl rfl rfl (q_ldo (c := 0) (v := .int .i64 (gt some_52 k_141.toNat).node) (i := 0) rfl (hx154 (inb_lt hk149)).2 rfl Try.isAgg3 rfl rfl) ?_
                        refine WR.nil ?_
                        refine WH.next (fun w hw => hw.back (Gh.refl _) h0144 (.cons _ (.cons _ (.cons _ .slnil)))) ?_
                        refine WH.lone (i := 10) (by kernel_rfl) rfl ?_
                        refine va rfl rfl rfl (q_ldo (c := 1) (v := .slice A150 ((gt some_52 k_141.toNat).vers).length c151) (i := 0) rfl (hx154 (inb_lt hk149)).2 rfl Try.isAgg40 rfl rfl) ?_
                        refine WR.nil ?_
                        refine WH.next (fun w hw => hw.back (Gh.refl _) h0144 (.cons _ (.cons _ (.cons _ .slnil)))) ?_
                        refine WH.lone (i := 11) (by kernel_rfl) rfl ?_
                        obtain ⟨z155, hz156, h⟩ := bnd h
                        refine e_call (is := [1]) rfl rfl (call_run Try.call19 rfl rfl (by kernel_rfl)) rfl (fun w hp => t_quorum_Read_Got (ho111.mono hl123) ((gt some_52 k_141.toNat).node) (hx154 (inb_lt hk149)).1.1 (hx154 (inb_lt hk149)).1.2.1.2 (hx154 (inb_lt hk149)).1.2.1.1 hp hz156) ?_
                        rintro Γ157 U159 v160 hl158 ⟨row161, rfl, rfl, hr162, _⟩
                        change WR _ _ _ (CC F Γ157 [row161, row55, row125]) _ _ (upd _ 147 (.bool z155.2))
                        refine WR.nil ?_
                        refine WH.next (fun w hw => hw.back hl158 h0144 (.cons _ (.cons _ (.cons _ .slnil)))) ?_
                        refine WH.done (by kernel_rfl) ?_
                        change WC _ _ _ _ _ _
                        refine WC.region ?_
                        refine va rfl rfl rfl (q_move (v := .int .i64 ((i116 : Nat) : Int)) rfl (by kernel_rfl)) ?_
                        refine va rfl rfl rfl (q_add_r (r := ((i116 + 1 : Nat) : Int)) rfl rfl rfl (ctr_len hl121 (ho56.mono hl108).le)) ?_
                        refine va rfl rfl rfl (q_assign (v := .int .i64 ((i116 + 1 : Nat) : Int)) rfl (by kernel_rfl)) ?_
                        refine WR.nil ?_
                        intro w hw
                        exact ⟨hl121, (z155.1, o124), h, Γ157, row161, row125, (sl_ (by kernel_rfl)), (hw.only (is := [1, 0, 0]) rfl), ((hl108.trans hl123).trans hl158), hr162, (ho126.mono hl158), trivial⟩
                      · refine ⟨_, rfl, ?_⟩
                        obtain ⟨A150, c151, A152, c153, hx154⟩ := (ho56.mono (hl108.trans hl123)).dfirthlaw16_ReplyT_at k_141.toNat
                        refine va rfl rfl rfl (q_ldo (c := 1) (v := .slice A150 ((gt some_52 k_141.toNat).vers).length c151) (i := 0) rfl (hx154 (inb_lt hk149)).2 rfl Try.isAgg40 rfl rfl) ?_
                        refine WR.nil ?_
                        refine WH.next (fun w hw => hw.back (Gh.refl _) h0144 (.cons _ (.cons _ (.cons _ .slnil)))) ?_
                        refine WH.lone (i := 5) (by kernel_rfl) rfl ?_
                        refine va rfl rfl rfl (q_ldo (c := 0) (v := .int .i64 (gt some_52 k_141.toNat).node) (i := 0) rfl (hx154 (inb_lt hk149)).2 rfl Try.isAgg3 rfl rfl) ?_
                        refine WR.nil ?_
                        refine WH.next (fun w hw => hw.back (Gh.refl _) h0144 (.cons _ (.cons _ (.cons _ .slnil)))) ?_
                        refine WH.lone (i := 11) (by kernel_rfl) rfl ?_
                        obtain ⟨z155, hz156, h⟩ := bnd h
                        refine e_call (is := [1]) rfl rfl (call_run Try.call19 rfl rfl (by kernel_rfl)) rfl (fun w hp => t_quorum_Read_Got (ho111.mono hl123) ((gt some_52 k_141.toNat).node) (hx154 (inb_lt hk149)).1.1 (hx154 (inb_lt hk149)).1.2.1.2 (hx154 (inb_lt hk149)).1.2.1.1 hp hz156) ?_
                        rintro Γ157 U159 v160 hl158 ⟨row161, rfl, rfl, hr162, _⟩
                        change WR _ _ _ (CC F Γ157 [row161, row55, row125]) _ _ (upd _ 147 (.bool z155.2))
                        refine WR.nil ?_
                        refine WH.next (fun w hw => hw.back hl158 h0144 (.cons _ (.cons _ (.cons _ .slnil)))) ?_
                        refine WH.done (by kernel_rfl) ?_
                        change WC _ _ _ _ _ _
                        refine WC.region ?_
                        refine va rfl rfl rfl (q_move (v := .int .i64 ((i116 : Nat) : Int)) rfl (by kernel_rfl)) ?_
                        refine va rfl rfl rfl (q_add_r (r := ((i116 + 1 : Nat) : Int)) rfl rfl rfl (ctr_len hl121 (ho56.mono hl108).le)) ?_
                        refine va rfl rfl rfl (q_assign (v := .int .i64 ((i116 + 1 : Nat) : Int)) rfl (by kernel_rfl)) ?_
                        refine WR.nil ?_
                        intro w hw
                        exact ⟨hl121, (z155.1, o124), h, Γ157, row161, row125, (sl_ (by kernel_rfl)), (hw.only (is := [1, 0, 0]) rfl), ((hl108.trans hl123).trans hl158), hr162, (ho126.mono hl158), trivial⟩
                  · refine ⟨_, rfl, ?_⟩
                    refine va rfl rfl rfl (q_field_addr (k_141.toNat * 3 + 1) fld_43_1 rfl rfl ((ho56.mono (hl108.trans hl123)).some_ (inb_lt hk149)) rfl) ?_
                    refine WR.nil ?_
                    refine WH.next (fun w hw => hw.back (Gh.refl _) h0144 (.cons _ (.cons _ (.cons _ .slnil)))) ?_
                    refine WH.each (l := [4, 10]) (by kernel_rfl) (by simp) ?_
                    intro i hi; simp only [List.mem_cons, List.not_mem_nil, or_false] at hi
                    rcases hi with rfl | rfl
                    · refine ⟨_, rfl, ?_⟩
                      refine va rfl rfl rfl (q_field_addr (k_141.toNat * 3) fld_43_0 rfl rfl ((ho56.mono (hl108.trans hl123)).some_ (inb_lt hk149)) rfl) ?_
                      refine WR.nil ?_
                      refine WH.next (fun w hw => hw.back (Gh.refl _) h0144 (.cons _ (.cons _ (.cons _ .slnil)))) ?_
                      refine WH.each (l := [5, 10]) (by kernel_rfl) (by simp) ?_
                      intro i hi; simp only [List.mem_cons, List.not_mem_nil, or_false] at hi
                      rcases hi with rfl | rfl
                      · refine ⟨_, rfl, ?_⟩
                        obtain ⟨A150, c151, A152, c153, hx154⟩ := (ho56.mono (hl108.trans hl123)).dfirthlaw16_ReplyT_at k_141.toNat
                        refine va rfl rfl rfl (q_ldo (c := 0) (v := .int .i64 (gt some_52 k_141.toNat).node) (i := 0) rfl (hx154 (inb_lt hk149)).2 rfl Try.isAgg3 rfl rfl) ?_
                        refine WR.nil ?_
                        refine WH.next (fun w hw => hw.back (Gh.refl _) h0144 (.cons _ (.cons _ (.cons _ .slnil)))) ?_
                        refine WH.lone (i := 10) (by kernel_rfl) rfl ?_
                        refine va rfl rfl rfl (q_ldo (c := 1) (v := .slice A150 ((gt some_52 k_141.toNat).vers).length c151) (i := 0) rfl (hx154 (inb_lt hk149)).2 rfl Try.isAgg40 rfl rfl) ?_
                        refine WR.nil ?_
                        refine WH.next (fun w hw => hw.back (Gh.refl _) h0144 (.cons _ (.cons _ (.cons _ .slnil)))) ?_
                        refine WH.lone (i := 11) (by kernel_rfl) rfl ?_
                        obtain ⟨z155, hz156, h⟩ := bnd h
                        refine e_call (is := [1]) rfl rfl (call_run Try.call19 rfl rfl (by kernel_rfl)) rfl (fun w hp => t_quorum_Read_Got (ho111.mono hl123) ((gt some_52 k_141.toNat).node) (hx154 (inb_lt hk149)).1.1 (hx154 (inb_lt hk149)).1.2.1.2 (hx154 (inb_lt hk149)).1.2.1.1 hp hz156) ?_
                        rintro Γ157 U159 v160 hl158 ⟨row161, rfl, rfl, hr162, _⟩
                        change WR _ _ _ (CC F Γ157 [row161, row55, row125]) _ _ (upd _ 147 (.bool z155.2))
                        refine WR.nil ?_
                        refine WH.next (fun w hw => hw.back hl158 h0144 (.cons _ (.cons _ (.cons _ .slnil)))) ?_
                        refine WH.done (by kernel_rfl) ?_
                        change WC _ _ _ _ _ _
                        refine WC.region ?_
                        refine va rfl rfl rfl (q_move (v := .int .i64 ((i116 : Nat) : Int)) rfl (by kernel_rfl)) ?_
                        refine va rfl rfl rfl (q_add_r (r := ((i116 + 1 : Nat) : Int)) rfl rfl rfl (ctr_len hl121 (ho56.mono hl108).le)) ?_
                        refine va rfl rfl rfl (q_assign (v := .int .i64 ((i116 + 1 : Nat) : Int)) rfl (by kernel_rfl)) ?_
                        refine WR.nil ?_
                        intro w hw
                        exact ⟨hl121, (z155.1, o124), h, Γ157, row161, row125, (sl_ (by kernel_rfl)), (hw.only (is := [1, 0, 0]) rfl), ((hl108.trans hl123).trans hl158), hr162, (ho126.mono hl158), trivial⟩
                      · refine ⟨_, rfl, ?_⟩
                        obtain ⟨A150, c151, A152, c153, hx154⟩ := (ho56.mono (hl108.trans hl123)).dfirthlaw16_ReplyT_at k_141.toNat
                        refine va rfl rfl rfl (q_ldo (c := 1) (v := .slice A150 ((gt some_52 k_141.toNat).vers).length c151) (i := 0) rfl (hx154 (inb_lt hk149)).2 rfl Try.isAgg40 rfl rfl) ?_
                        refine WR.nil ?_
                        refine WH.next (fun w hw => hw.back (Gh.refl _) h0144 (.cons _ (.cons _ (.cons _ .slnil)))) ?_
                        refine WH.lone (i := 5) (by kernel_rfl) rfl ?_
                        refine va rfl rfl rfl (q_ldo (c := 0) (v := .int .i64 (gt some_52 k_141.toNat).node) (i := 0) rfl (hx154 (inb_lt hk149)).2 rfl Try.isAgg3 rfl rfl) ?_
                        refine WR.nil ?_
                        refine WH.next (fun w hw => hw.back (Gh.refl _) h0144 (.cons _ (.cons _ (.cons _ .slnil)))) ?_
                        refine WH.lone (i := 11) (by kernel_rfl) rfl ?_
                        obtain ⟨z155, hz156, h⟩ := bnd h
                        refine e_call (is := [1]) rfl rfl (call_run Try.call19 rfl rfl (by kernel_rfl)) rfl (fun w hp => t_quorum_Read_Got (ho111.mono hl123) ((gt some_52 k_141.toNat).node) (hx154 (inb_lt hk149)).1.1 (hx154 (inb_lt hk149)).1.2.1.2 (hx154 (inb_lt hk149)).1.2.1.1 hp hz156) ?_
                        rintro Γ157 U159 v160 hl158 ⟨row161, rfl, rfl, hr162, _⟩
                        change WR _ _ _ (CC F Γ157 [row161, row55, row125]) _ _ (upd _ 147 (.bool z155.2))
                        refine WR.nil ?_
                        refine WH.next (fun w hw => hw.back hl158 h0144 (.cons _ (.cons _ (.cons _ .slnil)))) ?_
                        refine WH.done (by kernel_rfl) ?_
                        change WC _ _ _ _ _ _
                        refine WC.region ?_
                        refine va rfl rfl rfl (q_move (v := .int .i64 ((i116 : Nat) : Int)) rfl (by kernel_rfl)) ?_
                        refine va rfl rfl rfl (q_add_r (r := ((i116 + 1 : Nat) : Int)) rfl rfl rfl (ctr_len hl121 (ho56.mono hl108).le)) ?_
                        refine va rfl rfl rfl (q_assign (v := .int .i64 ((i116 + 1 : Nat) : Int)) rfl (by kernel_rfl)) ?_
                        refine WR.nil ?_
                        intro w hw
                        exact ⟨hl121, (z155.1, o124), h, Γ157, row161, row125, (sl_ (by kernel_rfl)), (hw.only (is := [1, 0, 0]) rfl), ((hl108.trans hl123).trans hl158), hr162, (ho126.mono hl158), trivial⟩
                    · refine ⟨_, rfl, ?_⟩
                      obtain ⟨A150, c151, A152, c153, hx154⟩ := (ho56.mono (hl108.trans hl123)).dfirthlaw16_ReplyT_at k_141.toNat
                      refine va rfl rfl rfl (q_ldo (c := 1) (v := .slice A150 ((gt some_52 k_141.toNat).vers).length c151) (i := 0) rfl (hx154 (inb_lt hk149)).2 rfl Try.isAgg40 rfl rfl) ?_
                      refine WR.nil ?_
                      refine WH.next (fun w hw => hw.back (Gh.refl _) h0144 (.cons _ (.cons _ (.cons _ .slnil)))) ?_
                      refine WH.lone (i := 4) (by kernel_rfl) rfl ?_
                      refine va rfl rfl rfl (q_field_addr (k_141.toNat * 3) fld_43_0 rfl rfl ((ho56.mono (hl108.trans hl123)).some_ (inb_lt hk149)) rfl) ?_
                      refine WR.nil ?_
                      refine WH.next (fun w hw => hw.back (Gh.refl _) h0144 (.cons _ (.cons _ (.cons _ .slnil)))) ?_
                      refine WH.lone (i := 5) (by kernel_rfl) rfl ?_
                      refine va rfl rfl rfl (q_ldo (c := 0) (v := .int .i64 (gt some_52 k_141.toNat).node) (i := 0) rfl (hx154 (inb_lt hk149)).2 rfl Try.isAgg3 rfl rfl) ?_
                      refine WR.nil ?_
                      refine WH.next (fun w hw => hw.back (Gh.refl _) h0144 (.cons _ (.cons _ (.cons _ .slnil)))) ?_
                      refine WH.lone (i := 11) (by kernel_rfl) rfl ?_
                      obtain ⟨z155, hz156, h⟩ := bnd h
                      refine e_call (is := [1]) rfl rfl (call_run Try.call19 rfl rfl (by kernel_rfl)) rfl (fun w hp => t_quorum_Read_Got (ho111.mono hl123) ((gt some_52 k_141.toNat).node) (hx154 (inb_lt hk149)).1.1 (hx154 (inb_lt hk149)).1.2.1.2 (hx154 (inb_lt hk149)).1.2.1.1 hp hz156) ?_
                      rintro Γ157 U159 v160 hl158 ⟨row161, rfl, rfl, hr162, _⟩
                      change WR _ _ _ (CC F Γ157 [row161, row55, row125]) _ _ (upd _ 147 (.bool z155.2))
                      refine WR.nil ?_
                      refine WH.next (fun w hw => hw.back hl158 h0144 (.cons _ (.cons _ (.cons _ .slnil)))) ?_
                      refine WH.done (by kernel_rfl) ?_
                      change WC _ _ _ _ _ _
                      refine WC.region ?_
                      refine va rfl rfl rfl (q_move (v := .int .i64 ((i116 : Nat) : Int)) rfl (by kernel_rfl)) ?_
                      refine va rfl rfl rfl (q_add_r (r := ((i116 + 1 : Nat) : Int)) rfl rfl rfl (ctr_len hl121 (ho56.mono hl108).le)) ?_
                      refine va rfl rfl rfl (q_assign (v := .int .i64 ((i116 + 1 : Nat) : Int)) rfl (by kernel_rfl)) ?_
                      refine WR.nil ?_
                      intro w hw
                      exact ⟨hl121, (z155.1, o124), h, Γ157, row161, row125, (sl_ (by kernel_rfl)), (hw.only (is := [1, 0, 0]) rfl), ((hl108.trans hl123).trans hl158), hr162, (ho126.mono hl158), trivial⟩
              · refine ⟨_, rfl, ?_⟩
                refine va rfl rfl rfl (q_ix Try.underlying35 Try.sizeOf43 rfl rfl rfl hk149 ((ho56.mono (hl108.trans hl123)).some_ (inb_lt hk149))) ?_
                refine WR.nil ?_
                refine WH.next (fun w hw => hw.back (Gh.refl _) h0144 (.cons _ (.cons _ (.cons _ .slnil)))) ?_
                refine WH.each (l := [3, 9]) (by kernel_rfl) (by simp) ?_
                intro i hi; simp only [List.mem_cons, List.not_mem_nil, or_false] at hi
                rcases hi with rfl | rfl
                · refine ⟨_, rfl, ?_⟩
                  refine va rfl rfl rfl (q_ix Try.underlying35 Try.sizeOf43 rfl rfl rfl hk149 ((ho56.mono (hl108.trans hl123)).some_ (inb_lt hk149))) ?_
                  refine WR.nil ?_
                  refine WH.next (fun w hw => hw.back (Gh.refl _) h0144 (.cons _ (.cons _ (.cons _ .slnil)))) ?_
                  refine WH.each (l := [4, 9]) (by kernel_rfl) (by simp) ?_
                  intro i hi; simp only [List.mem_cons, List.not_mem_nil, or_false] at hi
                  rcases hi with rfl | rfl
                  · refine ⟨_, rfl, ?_⟩
                    refine va rfl rfl rfl (q_field_addr (k_141.toNat * 3) fld_43_0 rfl rfl ((ho56.mono (hl108.trans hl123)).some_ (inb_lt hk149)) rfl) ?_
                    refine WR.nil ?_
                    refine WH.next (fun w hw => hw.back (Gh.refl _) h0144 (.cons _ (.cons _ (.cons _ .slnil)))) ?_
                    refine WH.each (l := [5, 9]) (by kernel_rfl) (by simp) ?_
                    intro i hi; simp only [List.mem_cons, List.not_mem_nil, or_false] at hi
                    rcases hi with rfl | rfl
                    · refine ⟨_, rfl, ?_⟩
                      obtain ⟨A150, c151, A152, c153, hx154⟩ := (ho56.mono (hl108.trans hl123)).dfirthlaw16_ReplyT_at k_141.toNat
                      refine va rfl rfl rfl (q_ldo (c := 0) (v := .int .i64 (gt some_52 k_141.toNat).node) (i := 0) rfl (hx154 (inb_lt hk149)).2 rfl Try.isAgg3 rfl rfl) ?_
                      refine WR.nil ?_
                      refine WH.next (fun w hw => hw.back (Gh.refl _) h0144 (.cons _ (.cons _ (.cons _ .slnil)))) ?_
                      refine WH.lone (i := 9) (by kernel_rfl) rfl ?_
                      refine va rfl rfl rfl (q_field_addr (k_141.toNat * 3 + 1) fld_43_1 rfl rfl ((ho56.mono (hl108.trans hl123)).some_ (inb_lt hk149)) rfl) ?_
                      refine WR.nil ?_
                      refine WH.next (fun w hw => hw.back (Gh.refl _) h0144 (.cons _ (.cons _ (.cons _ .slnil)))) ?_
                      refine WH.lone (i := 10) (by kernel_rfl) rfl ?_
                      refine va rfl rfl rfl (q_ldo (c := 1) (v := .slice A150 ((gt some_52 k_141.toNat).vers).length c151) (i := 0) rfl (hx154 (inb_lt hk149)).2 rfl Try.isAgg40 rfl rfl) ?_
                      refine WR.nil ?_
                      refine WH.next (fun w hw => hw.back (Gh.refl _) h0144 (.cons _ (.cons _ (.cons _ .slnil)))) ?_
                      refine WH.lone (i := 11) (by kernel_rfl) rfl ?_
                      obtain ⟨z155, hz156, h⟩ := bnd h
                      refine e_call (is := [1]) rfl rfl (call_run Try.call19 rfl rfl (by kernel_rfl)) rfl (fun w hp => t_quorum_Read_Got (ho111.mono hl123) ((gt some_52 k_141.toNat).node) (hx154 (inb_lt hk149)).1.1 (hx154 (inb_lt hk149)).1.2.1.2 (hx154 (inb_lt hk149)).1.2.1.1 hp hz156) ?_
                      rintro Γ157 U159 v160 hl158 ⟨row161, rfl, rfl, hr162, _⟩
                      change WR _ _ _ (CC F Γ157 [row161, row55, row125]) _ _ (upd _ 147 (.bool z155.2))
                      refine WR.nil ?_
                      refine WH.next (fun w hw => hw.back hl158 h0144 (.cons _ (.cons _ (.cons _ .slnil)))) ?_
                      refine WH.done (by kernel_rfl) ?_
                      change WC _ _ _ _ _ _
                      refine WC.region ?_
                      refine va rfl rfl rfl (q_move (v := .int .i64 ((i116 : Nat) : Int)) rfl (by kernel_rfl)) ?_
                      refine va rfl rfl rfl (q_add_r (r := ((i116 + 1 : Nat) : Int)) rfl rfl rfl (ctr_len hl121 (ho56.mono hl108).le)) ?_
                      refine va rfl rfl rfl (q_assign (v := .int .i64 ((i116 + 1 : Nat) : Int)) rfl (by kernel_rfl)) ?_
                      refine WR.nil ?_
                      intro w hw
                      exact ⟨hl121, (z155.1, o124), h, Γ157, row161, row125, (sl_ (by kernel_rfl)), (hw.only (is := [1, 0, 0]) rfl), ((hl108.trans hl123).trans hl158), hr162, (ho126.mono hl158), trivial⟩
                    · refine ⟨_, rfl, ?_⟩
                      refine va rfl rfl rfl (q_field_addr (k_141.toNat * 3 + 1) fld_43_1 rfl rfl ((ho56.mono (hl108.trans hl123)).some_ (inb_lt hk149)) rfl) ?_
                      refine WR.nil ?_
                      refine WH.next (fun w hw => hw.back (Gh.refl _) h0144 (.cons _ (.cons _ (.cons _ .slnil)))) ?_
                      refine WH.each (l := [5, 10]) (by kernel_rfl) (by simp) ?_
                      intro i hi; simp only [List.mem_cons, List.not_mem_nil, or_false] at hi
                      rcases hi with rfl | rfl
                      · refine ⟨_, rfl, ?_⟩
                        obtain ⟨A150, c151, A152, c153, hx154⟩ := (ho56.mono (hl108.trans hl123)).dfirthlaw16_ReplyT_at k_141.toNat
                        refine va rfl rfl rfl (q_ldo (c := 0) (v := .int .i64 (gt some_52 k_141.toNat).node) (i := 0) rfl (hx154 (inb_lt hk149)).2 rfl Try.isAgg3 rfl rfl) ?_
                        refine WR.nil ?_
                        refine WH.next (fun w hw => hw.back (Gh.refl _) h0144 (.cons _ (.cons _ (.cons _ .slnil)))) ?_
                        refine WH.lone (i := 10) (by kernel_rfl) rfl ?_
                        refine va rfl rfl rfl (q_ldo (c := 1) (v := .slice A150 ((gt some_52 k_141.toNat).vers).length c151) (i := 0) rfl (hx154 (inb_lt hk149)).2 rfl Try.isAgg40 rfl rfl) ?_
                        refine WR.nil ?_
                        refine WH.next (fun w hw => hw.back (Gh.refl _) h0144 (.cons _ (.cons _ (.cons _ .slnil)))) ?_
                        refine WH.lone (i := 11) (by kernel_rfl) rfl ?_
                        obtain ⟨z155, hz156, h⟩ := bnd h
                        refine e_call (is := [1]) rfl rfl (call_run Try.call19 rfl rfl (by kernel_rfl)) rfl (fun w hp => t_quorum_Read_Got (ho111.mono hl123) ((gt some_52 k_141.toNat).node) (hx154 (inb_lt hk149)).1.1 (hx154 (inb_lt hk149)).1.2.1.2 (hx154 (inb_lt hk149)).1.2.1.1 hp hz156) ?_
                        rintro Γ157 U159 v160 hl158 ⟨row161, rfl, rfl, hr162, _⟩
                        change WR _ _ _ (CC F Γ157 [row161, row55, row125]) _ _ (upd _ 147 (.bool z155.2))
                        refine WR.nil ?_
                        refine WH.next (fun w hw => hw.back hl158 h0144 (.cons _ (.cons _ (.cons _ .slnil)))) ?_
                        refine WH.done (by kernel_rfl) ?_
                        change WC _ _ _ _ _ _
                        refine WC.region ?_
                        refine va rfl rfl rfl (q_move (v := .int .i64 ((i116 : Nat) : Int)) rfl (by kernel_rfl)) ?_
                        refine va rfl rfl rfl (q_add_r (r := ((i116 + 1 : Nat) : Int)) rfl rfl rfl (ctr_len hl121 (ho56.mono hl108).le)) ?_
                        refine va rfl rfl rfl (q_assign (v := .int .i64 ((i116 + 1 : Nat) : Int)) rfl (by kernel_rfl)) ?_
                        refine WR.nil ?_
                        intro w hw
                        exact ⟨hl121, (z155.1, o124), h, Γ157, row161, row125, (sl_ (by kernel_rfl)), (hw.only (is := [1, 0, 0]) rfl), ((hl108.trans hl123).trans hl158), hr162, (ho126.mono hl158), trivial⟩
                      · refine ⟨_, rfl, ?_⟩
                        obtain ⟨A150, c151, A152, c153, hx154⟩ := (ho56.mono (hl108.trans hl123)).dfirthlaw16_ReplyT_at k_141.toNat
                        refine va rfl rfl rfl (q_ldo (c := 1) (v := .slice A150 ((gt some_52 k_141.toNat).vers).length c151) (i := 0) rfl (hx154 (inb_lt hk149)).2 rfl Try.isAgg40 rfl rfl) ?_
                        refine WR.nil ?_
                        refine WH.next (fun w hw => hw.back (Gh.refl _) h0144 (.cons _ (.cons _ (.cons _ .slnil)))) ?_
                        refine WH.lone (i := 5) (by kernel_rfl) rfl ?_
                        refine va rfl rfl rfl (q_ldo (c := 0) (v := .int .i64 (gt some_52 k_141.toNat).node) (i := 0) rfl (hx154 (inb_lt hk149)).2 rfl Try.isAgg3 rfl rfl) ?_
                        refine WR.nil ?_
                        refine WH.next (fun w hw => hw.back (Gh.refl _) h0144 (.cons _ (.cons _ (.cons _ .slnil)))) ?_
                        refine WH.lone (i := 11) (by kernel_rfl) rfl ?_
                        obtain ⟨z155, hz156, h⟩ := bnd h
                        refine e_call (is := [1]) rfl rfl (call_run Try.call19 rfl rfl (by kernel_rfl)) rfl (fun w hp => t_quorum_Read_Got (ho111.mono hl123) ((gt some_52 k_141.toNat).node) (hx154 (inb_lt hk149)).1.1 (hx154 (inb_lt hk149)).1.2.1.2 (hx154 (inb_lt hk149)).1.2.1.1 hp hz156) ?_
                        rintro Γ157 U159 v160 hl158 ⟨row161, rfl, rfl, hr162, _⟩
                        change WR _ _ _ (CC F Γ157 [row161, row55, row125]) _ _ (upd _ 147 (.bool z155.2))
                        refine WR.nil ?_
                        refine WH.next (fun w hw => hw.back hl158 h0144 (.cons _ (.cons _ (.cons _ .slnil)))) ?_
                        refine WH.done (by kernel_rfl) ?_
                        change WC _ _ _ _ _ _
                        refine WC.region ?_
                        refine va rfl rfl rfl (q_move (v := .int .i64 ((i116 : Nat) : Int)) rfl (by kernel_rfl)) ?_
                        refine va rfl rfl rfl (q_add_r (r := ((i116 + 1 : Nat) : Int)) rfl rfl rfl (ctr_len hl121 (ho56.mono hl108).le)) ?_
                        refine va rfl rfl rfl (q_assign (v := .int .i64 ((i116 + 1 : Nat) : Int)) rfl (by kernel_rfl)) ?_
                        refine WR.nil ?_
                        intro w hw
                        exact ⟨hl121, (z155.1, o124), h, Γ157, row161, row125, (sl_ (by kernel_rfl)), (hw.only (is := [1, 0, 0]) rfl), ((hl108.trans hl123).trans hl158), hr162, (ho126.mono hl158), trivial⟩
                  · refine ⟨_, rfl, ?_⟩
                    refine va rfl rfl rfl (q_field_addr (k_141.toNat * 3 + 1) fld_43_1 rfl rfl ((ho56.mono (hl108.trans hl123)).some_ (inb_lt hk149)) rfl) ?_
                    refine WR.nil ?_
                    refine WH.next (fun w hw => hw.back (Gh.refl _) h0144 (.cons _ (.cons _ (.cons _ .slnil)))) ?_
                    refine WH.each (l := [4, 10]) (by kernel_rfl) (by simp) ?_
                    intro i hi; simp only [List.mem_cons, List.not_mem_nil, or_false] at hi
                    rcases hi with rfl | rfl
                    · refine ⟨_, rfl, ?_⟩
                      refine va rfl rfl rfl (q_field_addr (k_141.toNat * 3) fld_43_0 rfl rfl ((ho56.mono (hl108.trans hl123)).some_ (inb_lt hk149)) rfl) ?_
                      refine WR.nil ?_
                      refine WH.next (fun w hw => hw.back (Gh.refl _) h0144 (.cons _ (.cons _ (.cons _ .slnil)))) ?_
                      refine WH.each (l := [5, 10]) (by kernel_rfl) (by simp) ?_
                      intro i hi; simp only [List.mem_cons, List.not_mem_nil, or_false] at hi
                      rcases hi with rfl | rfl
                      · refine ⟨_, rfl, ?_⟩
                        obtain ⟨A150, c151, A152, c153, hx154⟩ := (ho56.mono (hl108.trans hl123)).dfirthlaw16_ReplyT_at k_141.toNat
                        refine va rfl rfl rfl (q_ldo (c := 0) (v := .int .i64 (gt some_52 k_141.toNat).node) (i := 0) rfl (hx154 (inb_lt hk149)).2 rfl Try.isAgg3 rfl rfl) ?_
                        refine WR.nil ?_
                        refine WH.next (fun w hw => hw.back (Gh.refl _) h0144 (.cons _ (.cons _ (.cons _ .slnil)))) ?_
                        refine WH.lone (i := 10) (by kernel_rfl) rfl ?_
                        refine va rfl rfl rfl (q_ldo (c := 1) (v := .slice A150 ((gt some_52 k_141.toNat).vers).length c151) (i := 0) rfl (hx154 (inb_lt hk149)).2 rfl Try.isAgg40 rfl rfl) ?_
                        refine WR.nil ?_
                        refine WH.next (fun w hw => hw.back (Gh.refl _) h0144 (.cons _ (.cons _ (.cons _ .slnil)))) ?_
                        refine WH.lone (i := 11) (by kernel_rfl) rfl ?_
                        obtain ⟨z155, hz156, h⟩ := bnd h
                        refine e_call (is := [1]) rfl rfl (call_run Try.call19 rfl rfl (by kernel_rfl)) rfl (fun w hp => t_quorum_Read_Got (ho111.mono hl123) ((gt some_52 k_141.toNat).node) (hx154 (inb_lt hk149)).1.1 (hx154 (inb_lt hk149)).1.2.1.2 (hx154 (inb_lt hk149)).1.2.1.1 hp hz156) ?_
                        rintro Γ157 U159 v160 hl158 ⟨row161, rfl, rfl, hr162, _⟩
                        change WR _ _ _ (CC F Γ157 [row161, row55, row125]) _ _ (upd _ 147 (.bool z155.2))
                        refine WR.nil ?_
                        refine WH.next (fun w hw => hw.back hl158 h0144 (.cons _ (.cons _ (.cons _ .slnil)))) ?_
                        refine WH.done (by kernel_rfl) ?_
                        change WC _ _ _ _ _ _
                        refine WC.region ?_
                        refine va rfl rfl rfl (q_move (v := .int .i64 ((i116 : Nat) : Int)) rfl (by kernel_rfl)) ?_
                        refine va rfl rfl rfl (q_add_r (r := ((i116 + 1 : Nat) : Int)) rfl rfl rfl (ctr_len hl121 (ho56.mono hl108).le)) ?_
                        refine va rfl rfl rfl (q_assign (v := .int .i64 ((i116 + 1 : Nat) : Int)) rfl (by kernel_rfl)) ?_
                        refine WR.nil ?_
                        intro w hw
                        exact ⟨hl121, (z155.1, o124), h, Γ157, row161, row125, (sl_ (by kernel_rfl)), (hw.only (is := [1, 0, 0]) rfl), ((hl108.trans hl123).trans hl158), hr162, (ho126.mono hl158), trivial⟩
                      · refine ⟨_, rfl, ?_⟩
                        obtain ⟨A150, c151, A152, c153, hx154⟩ := (ho56.mono (hl108.trans hl123)).dfirthlaw16_ReplyT_at k_141.toNat
                        refine va rfl rfl rfl (q_ldo (c := 1) (v := .slice A150 ((gt some_52 k_141.toNat).vers).length c151) (i := 0) rfl (hx154 (inb_lt hk149)).2 rfl Try.isAgg40 rfl rfl) ?_
                        refine WR.nil ?_
                        refine WH.next (fun w hw => hw.back (Gh.refl _) h0144 (.cons _ (.cons _ (.cons _ .slnil)))) ?_
                        refine WH.lone (i := 5) (by kernel_rfl) rfl ?_
                        refine va rfl rfl rfl (q_ldo (c := 0) (v := .int .i64 (gt some_52 k_141.toNat).node) (i := 0) rfl (hx154 (inb_lt hk149)).2 rfl Try.isAgg3 rfl rfl) ?_
                        refine WR.nil ?_
                        refine WH.next (fun w hw => hw.back (Gh.refl _) h0144 (.cons _ (.cons _ (.cons _ .slnil)))) ?_
                        refine WH.lone (i := 11) (by kernel_rfl) rfl ?_
                        obtain ⟨z155, hz156, h⟩ := bnd h
                        refine e_call (is := [1]) rfl rfl (call_run Try.call19 rfl rfl (by kernel_rfl)) rfl (fun w hp => t_quorum_Read_Got (ho111.mono hl123) ((gt some_52 k_141.toNat).node) (hx154 (inb_lt hk149)).1.1 (hx154 (inb_lt hk149)).1.2.1.2 (hx154 (inb_lt hk149)).1.2.1.1 hp hz156) ?_
                        rintro Γ157 U159 v160 hl158 ⟨row161, rfl, rfl, hr162, _⟩
                        change WR _ _ _ (CC F Γ157 [row161, row55, row125]) _ _ (upd _ 147 (.bool z155.2))
                        refine WR.nil ?_
                        refine WH.next (fun w hw => hw.back hl158 h0144 (.cons _ (.cons _ (.cons _ .slnil)))) ?_
                        refine WH.done (by kernel_rfl) ?_
                        change WC _ _ _ _ _ _
                        refine WC.region ?_
                        refine va rfl rfl rfl (q_move (v := .int .i64 ((i116 : Nat) : Int)) rfl (by kernel_rfl)) ?_
                        refine va rfl rfl rfl (q_add_r (r := ((i116 + 1 : Nat) : Int)) rfl rfl rfl (ctr_len hl121 (ho56.mono hl108).le)) ?_
                        refine va rfl rfl rfl (q_assign (v := .int .i64 ((i116 + 1 : Nat) : Int)) rfl (by kernel_rfl)) ?_
                        refine WR.nil ?_
                        intro w hw
                        exact ⟨hl121, (z155.1, o124), h, Γ157, row161, row125, (sl_ (by kernel_rfl)), (hw.only (is := [1, 0, 0]) rfl), ((hl108.trans hl123).trans hl158), hr162, (ho126.mono hl158), trivial⟩
                    · refine ⟨_, rfl, ?_⟩
                      obtain ⟨A150, c151, A152, c153, hx154⟩ := (ho56.mono (hl108.trans hl123)).dfirthlaw16_ReplyT_at k_141.toNat
                      refine va rfl rfl rfl (q_ldo (c := 1) (v := .slice A150 ((gt some_52 k_141.toNat).vers).length c151) (i := 0) rfl (hx154 (inb_lt hk149)).2 rfl Try.isAgg40 rfl rfl) ?_
                      refine WR.nil ?_
                      refine WH.next (fun w hw => hw.back (Gh.refl _) h0144 (.cons _ (.cons _ (.cons _ .slnil)))) ?_
                      refine WH.lone (i := 4) (by kernel_rfl) rfl ?_
                      refine va rfl rfl rfl (q_field_addr (k_141.toNat * 3) fld_43_0 rfl rfl ((ho56.mono (hl108.trans hl123)).some_ (inb_lt hk149)) rfl) ?_
                      refine WR.nil ?_
                      refine WH.next (fun w hw => hw.back (Gh.refl _) h0144 (.cons _ (.cons _ (.cons _ .slnil)))) ?_
                      refine WH.lone (i := 5) (by kernel_rfl) rfl ?_
                      refine va rfl rfl rfl (q_ldo (c := 0) (v := .int .i64 (gt some_52 k_141.toNat).node) (i := 0) rfl (hx154 (inb_lt hk149)).2 rfl Try.isAgg3 rfl rfl) ?_
                      refine WR.nil ?_
                      refine WH.next (fun w hw => hw.back (Gh.refl _) h0144 (.cons _ (.cons _ (.cons _ .slnil)))) ?_
                      refine WH.lone (i := 11) (by kernel_rfl) rfl ?_
                      obtain ⟨z155, hz156, h⟩ := bnd h
                      refine e_call (is := [1]) rfl rfl (call_run Try.call19 rfl rfl (by kernel_rfl)) rfl (fun w hp => t_quorum_Read_Got (ho111.mono hl123) ((gt some_52 k_141.toNat).node) (hx154 (inb_lt hk149)).1.1 (hx154 (inb_lt hk149)).1.2.1.2 (hx154 (inb_lt hk149)).1.2.1.1 hp hz156) ?_
                      rintro Γ157 U159 v160 hl158 ⟨row161, rfl, rfl, hr162, _⟩
                      change WR _ _ _ (CC F Γ157 [row161, row55, row125]) _ _ (upd _ 147 (.bool z155.2))
                      refine WR.nil ?_
                      refine WH.next (fun w hw => hw.back hl158 h0144 (.cons _ (.cons _ (.cons _ .slnil)))) ?_
                      refine WH.done (by kernel_rfl) ?_
                      change WC _ _ _ _ _ _
                      refine WC.region ?_
                      refine va rfl rfl rfl (q_move (v := .int .i64 ((i116 : Nat) : Int)) rfl (by kernel_rfl)) ?_
                      refine va rfl rfl rfl (q_add_r (r := ((i116 + 1 : Nat) : Int)) rfl rfl rfl (ctr_len hl121 (ho56.mono hl108).le)) ?_
                      refine va rfl rfl rfl (q_assign (v := .int .i64 ((i116 + 1 : Nat) : Int)) rfl (by kernel_rfl)) ?_
                      refine WR.nil ?_
                      intro w hw
                      exact ⟨hl121, (z155.1, o124), h, Γ157, row161, row125, (sl_ (by kernel_rfl)), (hw.only (is := [1, 0, 0]) rfl), ((hl108.trans hl123).trans hl158), hr162, (ho126.mono hl158), trivial⟩
                · refine ⟨_, rfl, ?_⟩
                  refine va rfl rfl rfl (q_field_addr (k_141.toNat * 3 + 1) fld_43_1 rfl rfl ((ho56.mono (hl108.trans hl123)).some_ (inb_lt hk149)) rfl) ?_
                  refine WR.nil ?_
                  refine WH.next (fun w hw => hw.back (Gh.refl _) h0144 (.cons _ (.cons _ (.cons _ .slnil)))) ?_
                  refine WH.each (l := [3, 10]) (by kernel_rfl) (by simp) ?_
                  intro i hi; simp only [List.mem_cons, List.not_mem_nil, or_false] at hi
                  rcases hi with rfl | rfl
                  · refine ⟨_, rfl, ?_⟩
                    refine va rfl rfl rfl (q_ix Try.underlying35 Try.sizeOf43 rfl rfl rfl hk149 ((ho56.mono (hl108.trans hl123)).some_ (inb_lt hk149))) ?_
                    refine WR.nil ?_
                    refine WH.next (fun w hw => hw.back (Gh.refl _) h0144 (.cons _ (.cons _ (.cons _ .slnil)))) ?_
                    refine WH.each (l := [4, 10]) (by kernel_rfl) (by simp) ?_
                    intro i hi; simp only [List.mem_cons, List.not_mem_nil, or_false] at hi
                    rcases hi with rfl | rfl
                    · refine ⟨_, rfl, ?_⟩
                      refine va rfl rfl rfl (q_field_addr (k_141.toNat * 3) fld_43_0 rfl rfl ((ho56.mono (hl108.trans hl123)).some_ (inb_lt hk149)) rfl) ?_
                      refine WR.nil ?_
                      refine WH.next (fun w hw => hw.back (Gh.refl _) h0144 (.cons _ (.cons _ (.cons _ .slnil)))) ?_
                      refine WH.each (l := [5, 10]) (by kernel_rfl) (by simp) ?_
                      intro i hi; simp only [List.mem_cons, List.not_mem_nil, or_false] at hi
                      rcases hi with rfl | rfl
                      · refine ⟨_, rfl, ?_⟩
                        obtain ⟨A150, c151, A152, c153, hx154⟩ := (ho56.mono (hl108.trans hl123)).dfirthlaw16_ReplyT_at k_141.toNat
                        refine va rfl rfl rfl (q_ldo (c := 0) (v := .int .i64 (gt some_52 k_141.toNat).node) (i := 0) rfl (hx154 (inb_lt hk149)).2 rfl Try.isAgg3 rfl rfl) ?_
                        refine WR.nil ?_
                        refine WH.next (fun w hw => hw.back (Gh.refl _) h0144 (.cons _ (.cons _ (.cons _ .slnil)))) ?_
                        refine WH.lone (i := 10) (by kernel_rfl) rfl ?_
                        refine va rfl rfl rfl (q_ldo (c := 1) (v := .slice A150 ((gt some_52 k_141.toNat).vers).length c151) (i := 0) rfl (hx154 (inb_lt hk149)).2 rfl Try.isAgg40 rfl rfl) ?_
                        refine WR.nil ?_
                        refine WH.next (fun w hw => hw.back (Gh.refl _) h0144 (.cons _ (.cons _ (.cons _ .slnil)))) ?_
                        refine WH.lone (i := 11) (by kernel_rfl) rfl ?_
                        obtain ⟨z155, hz156, h⟩ := bnd h
                        refine e_call (is := [1]) rfl rfl (call_run Try.call19 rfl rfl (by kernel_rfl)) rfl (fun w hp => t_quorum_Read_Got (ho111.mono hl123) ((gt some_52 k_141.toNat).node) (hx154 (inb_lt hk149)).1.1 (hx154 (inb_lt hk149)).1.2.1.2 (hx154 (inb_lt hk149)).1.2.1.1 hp hz156) ?_
                        rintro Γ157 U159 v160 hl158 ⟨row161, rfl, rfl, hr162, _⟩
                        change WR _ _ _ (CC F Γ157 [row161, row55, row125]) _ _ (upd _ 147 (.bool z155.2))
                        refine WR.nil ?_
                        refine WH.next (fun w hw => hw.back hl158 h0144 (.cons _ (.cons _ (.cons _ .slnil)))) ?_
                        refine WH.done (by kernel_rfl) ?_
                        change WC _ _ _ _ _ _
                        refine WC.region ?_
                        refine va rfl rfl rfl (q_move (v := .int .i64 ((i116 : Nat) : Int)) rfl (by kernel_rfl)) ?_
                        refine va rfl rfl rfl (q_add_r (r := ((i116 + 1 : Nat) : Int)) rfl rfl rfl (ctr_len hl121 (ho56.mono hl108).le)) ?_
                        refine va rfl rfl rfl (q_assign (v := .int .i64 ((i116 + 1 : Nat) : Int)) rfl (by kernel_rfl)) ?_
                        refine WR.nil ?_
                        intro w hw
                        exact ⟨hl121, (z155.1, o124), h, Γ157, row161, row125, (sl_ (by kernel_rfl)), (hw.only (is := [1, 0, 0]) rfl), ((hl108.trans hl123).trans hl158), hr162, (ho126.mono hl158), trivial⟩
                      · refine ⟨_, rfl, ?_⟩
                        obtain ⟨A150, c151, A152, c153, hx154⟩ := (ho56.mono (hl108.trans hl123)).dfirthlaw16_ReplyT_at k_141.toNat
                        refine va rfl rfl rfl (q_ldo (c := 1) (v := .slice A150 ((gt some_52 k_141.toNat).vers).length c151) (i := 0) rfl (hx154 (inb_lt hk149)).2 rfl Try.isAgg40 rfl rfl) ?_
                        refine WR.nil ?_
                        refine WH.next (fun w hw => hw.back (Gh.refl _) h0144 (.cons _ (.cons _ (.cons _ .slnil)))) ?_
                        refine WH.lone (i := 5) (by kernel_rfl) rfl ?_
                        refine va rfl rfl rfl (q_ldo (c := 0) (v := .int .i64 (gt some_52 k_141.toNat).node) (i := 0) rfl (hx154 (inb_lt hk149)).2 rfl Try.isAgg3 rfl rfl) ?_
                        refine WR.nil ?_
                        refine WH.next (fun w hw => hw.back (Gh.refl _) h0144 (.cons _ (.cons _ (.cons _ .slnil)))) ?_
                        refine WH.lone (i := 11) (by kernel_rfl) rfl ?_
                        obtain ⟨z155, hz156, h⟩ := bnd h
                        refine e_call (is := [1]) rfl rfl (call_run Try.call19 rfl rfl (by kernel_rfl)) rfl (fun w hp => t_quorum_Read_Got (ho111.mono hl123) ((gt some_52 k_141.toNat).node) (hx154 (inb_lt hk149)).1.1 (hx154 (inb_lt hk149)).1.2.1.2 (hx154 (inb_lt hk149)).1.2.1.1 hp hz156) ?_
                        rintro Γ157 U159 v160 hl158 ⟨row161, rfl, rfl, hr162, _⟩
                        change WR _ _ _ (CC F Γ157 [row161, row55, row125]) _ _ (upd _ 147 (.bool z155.2))
                        refine WR.nil ?_
                        refine WH.next (fun w hw => hw.back hl158 h0144 (.cons _ (.cons _ (.cons _ .slnil)))) ?_
                        refine WH.done (by kernel_rfl) ?_
                        change WC _ _ _ _ _ _
                        refine WC.region ?_
                        refine va rfl rfl rfl (q_move (v := .int .i64 ((i116 : Nat) : Int)) rfl (by kernel_rfl)) ?_
                        refine va rfl rfl rfl (q_add_r (r := ((i116 + 1 : Nat) : Int)) rfl rfl rfl (ctr_len hl121 (ho56.mono hl108).le)) ?_
                        refine va rfl rfl rfl (q_assign (v := .int .i64 ((i116 + 1 : Nat) : Int)) rfl (by kernel_rfl)) ?_
                        refine WR.nil ?_
                        intro w hw
                        exact ⟨hl121, (z155.1, o124), h, Γ157, row161, row125, (sl_ (by kernel_rfl)), (hw.only (is := [1, 0, 0]) rfl), ((hl108.trans hl123).trans hl158), hr162, (ho126.mono hl158), trivial⟩
                    · refine ⟨_, rfl, ?_⟩
                      obtain ⟨A150, c151, A152, c153, hx154⟩ := (ho56.mono (hl108.trans hl123)).dfirthlaw16_ReplyT_at k_141.toNat
                      refine va rfl rfl rfl (q_ldo (c := 1) (v := .slice A150 ((gt some_52 k_141.toNat).vers).length c151) (i := 0) rfl (hx154 (inb_lt hk149)).2 rfl Try.isAgg40 rfl rfl) ?_
                      refine WR.nil ?_
                      refine WH.next (fun w hw => hw.back (Gh.refl _) h0144 (.cons _ (.cons _ (.cons _ .slnil)))) ?_
                      refine WH.lone (i := 4) (by kernel_rfl) rfl ?_
                      refine va rfl rfl rfl (q_field_addr (k_141.toNat * 3) fld_43_0 rfl rfl ((ho56.mono (hl108.trans hl123)).some_ (inb_lt hk149)) rfl) ?_
                      refine WR.nil ?_
                      refine WH.next (fun w hw => hw.back (Gh.refl _) h0144 (.cons _ (.cons _ (.cons _ .slnil)))) ?_
                      refine WH.lone (i := 5) (by kernel_rfl) rfl ?_
                      refine va rfl rfl rfl (q_ldo (c := 0) (v := .int .i64 (gt some_52 k_141.toNat).node) (i := 0) rfl (hx154 (inb_lt hk149)).2 rfl Try.isAgg3 rfl rfl) ?_
                      refine WR.nil ?_
                      refine WH.next (fun w hw => hw.back (Gh.refl _) h0144 (.cons _ (.cons _ (.cons _ .slnil)))) ?_
                      refine WH.lone (i := 11) (by kernel_rfl) rfl ?_
                      obtain ⟨z155, hz156, h⟩ := bnd h
                      refine e_call (is := [1]) rfl rfl (call_run Try.call19 rfl rfl (by kernel_rfl)) rfl (fun w hp => t_quorum_Read_Got (ho111.mono hl123) ((gt some_52 k_141.toNat).node) (hx154 (inb_lt hk149)).1.1 (hx154 (inb_lt hk149)).1.2.1.2 (hx154 (inb_lt hk149)).1.2.1.1 hp hz156) ?_
                      rintro Γ157 U159 v160 hl158 ⟨row161, rfl, rfl, hr162, _⟩
                      change WR _ _ _ (CC F Γ157 [row161, row55, row125]) _ _ (upd _ 147 (.bool z155.2))
                      refine WR.nil ?_
                      refine WH.next (fun w hw => hw.back hl158 h0144 (.cons _ (.cons _ (.cons _ .slnil)))) ?_
                      refine WH.done (by kernel_rfl) ?_
                      change WC _ _ _ _ _ _
                      refine WC.region ?_
                      refine va rfl rfl rfl (q_move (v := .int .i64 ((i116 : Nat) : Int)) rfl (by kernel_rfl)) ?_
                      refine va rfl rfl rfl (q_add_r (r := ((i116 + 1 : Nat) : Int)) rfl rfl rfl (ctr_len hl121 (ho56.mono hl108).le)) ?_
                      refine va rfl rfl rfl (q_assign (v := .int .i64 ((i116 + 1 : Nat) : Int)) rfl (by kernel_rfl)) ?_
                      refine WR.nil ?_
                      intro w hw
                      exact ⟨hl121, (z155.1, o124), h, Γ157, row161, row125, (sl_ (by kernel_rfl)), (hw.only (is := [1, 0, 0]) rfl), ((hl108.trans hl123).trans hl158), hr162, (ho126.mono hl158), trivial⟩
                  · refine ⟨_, rfl, ?_⟩
                    obtain ⟨A150, c151, A152, c153, hx154⟩ := (ho56.mono (hl108.trans hl123)).dfirthlaw16_ReplyT_at k_141.toNat
                    refine va rfl rfl rfl (q_ldo (c := 1) (v := .slice A150 ((gt some_52 k_141.toNat).vers).length c151) (i := 0) rfl (hx154 (inb_lt hk149)).2 rfl Try.isAgg40 rfl rfl) ?_
                    refine WR.nil ?_
                    refine WH.next (fun w hw => hw.back (Gh.refl _) h0144 (.cons _ (.cons _ (.cons _ .slnil)))) ?_
                    refine WH.lone (i := 3) (by kernel_rfl) rfl ?_
                    refine va rfl rfl rfl (q_ix Try.underlying35 Try.sizeOf43 rfl rfl rfl hk149 ((ho56.mono (hl108.trans hl123)).some_ (inb_lt hk149))) ?_
                    refine WR.nil ?_
                    refine WH.next (fun w hw => hw.back (Gh.refl _) h0144 (.cons _ (.cons _ (.cons _ .slnil)))) ?_
                    refine WH.lone (i := 4) (by kernel_rfl) rfl ?_
                    refine va rfl rfl rfl (q_field_addr (k_141.toNat * 3) fld_43_0 rfl rfl ((ho56.mono (hl108.trans hl123)).some_ (inb_lt hk149)) rfl) ?_
                    refine WR.nil ?_
                    refine WH.next (fun w hw => hw.back (Gh.refl _) h0144 (.cons _ (.cons _ (.cons _ .slnil)))) ?_
                    refine WH.lone (i := 5) (by kernel_rfl) rfl ?_
                    refine va rfl rfl rfl (q_ldo (c := 0) (v := .int .i64 (gt some_52 k_141.toNat).node) (i := 0) rfl (hx154 (inb_lt hk149)).2 rfl Try.isAgg3 rfl rfl) ?_
                    refine WR.nil ?_
                    refine WH.next (fun w hw => hw.back (Gh.refl _) h0144 (.cons _ (.cons _ (.cons _ .slnil)))) ?_
                    refine WH.lone (i := 11) (by kernel_rfl) rfl ?_
                    obtain ⟨z155, hz156, h⟩ := bnd h
                    refine e_call (is := [1]) rfl rfl (call_run Try.call19 rfl rfl (by kernel_rfl)) rfl (fun w hp => t_quorum_Read_Got (ho111.mono hl123) ((gt some_52 k_141.toNat).node) (hx154 (inb_lt hk149)).1.1 (hx154 (inb_lt hk149)).1.2.1.2 (hx154 (inb_lt hk149)).1.2.1.1 hp hz156) ?_
                    rintro Γ157 U159 v160 hl158 ⟨row161, rfl, rfl, hr162, _⟩
                    change WR _ _ _ (CC F Γ157 [row161, row55, row125]) _ _ (upd _ 147 (.bool z155.2))
                    refine WR.nil ?_
                    refine WH.next (fun w hw => hw.back hl158 h0144 (.cons _ (.cons _ (.cons _ .slnil)))) ?_
                    refine WH.done (by kernel_rfl) ?_
                    change WC _ _ _ _ _ _
                    refine WC.region ?_
                    refine va rfl rfl rfl (q_move (v := .int .i64 ((i116 : Nat) : Int)) rfl (by kernel_rfl)) ?_
                    refine va rfl rfl rfl (q_add_r (r := ((i116 + 1 : Nat) : Int)) rfl rfl rfl (ctr_len hl121 (ho56.mono hl108).le)) ?_
                    refine va rfl rfl rfl (q_assign (v := .int .i64 ((i116 + 1 : Nat) : Int)) rfl (by kernel_rfl)) ?_
                    refine WR.nil ?_
                    intro w hw
                    exact ⟨hl121, (z155.1, o124), h, Γ157, row161, row125, (sl_ (by kernel_rfl)), (hw.only (is := [1, 0, 0]) rfl), ((hl108.trans hl123).trans hl158), hr162, (ho126.mono hl158), trivial⟩
        · skip
          have h := hge119 (ige hb120)
          refine WC.exit ?_
          change WC _ _ _ _ _ _
          refine WC.rs ?_
          refine va rfl rfl rfl (q_move (v := .pointer (some ⟨g23, 0, none⟩)) rfl (optp_some rfl hz48)) ?_
          obtain ⟨z163, hz164, h⟩ := bnd h
          refine e_call (is := [2]) rfl rfl (call_run Try.call24 rfl rfl (by kernel_rfl)) rfl (fun w hp => t_quorum_Read_Vers ho114 hp hz164) ?_
          rintro Γ165 U167 v168 hl166 ⟨A169, c170, rfl, rfl, hc172, hr171, _⟩
          change WR _ _ _ (CC F Γ165 [row113, row55, row110]) _ _ (upd _ 149 (.slice A169 z163.length c170))
          refine va rfl rfl rfl (q_move (v := .pointer (some ⟨g33, 0, none⟩)) rfl (optp_some rfl hz45)) ?_
          obtain ⟨z173, hz174, h⟩ := bnd h
          refine e_call (is := [2]) rfl rfl (call_run Try.call24 rfl rfl (by kernel_rfl)) rfl (fun w hp => t_quorum_Read_Vers (ho111.mono hl166) hp hz174) ?_
          rintro Γ175 U177 v178 hl176 ⟨A179, c180, rfl, rfl, hc182, hr181, _⟩
          change WR _ _ _ (CC F Γ175 [row110, row113, row55]) _ _ (upd _ 151 (.slice A179 z173.length c180))
          obtain ⟨z183, hz184, h⟩ := bnd h
          refine vc rfl rfl rfl (q_call (call_run Try.call23 rfl rfl (by kernel_rfl)) (fun w hw => t_firthref05_Same (Γ := Gh.all w) ((hr171.mono hl176).mono hw.sat.le_all) hc172 (hr181.mono hw.sat.le_all) hc182 (Sat.all w) hz184)) ?_
          refine va rfl rfl rfl (q_move (v := .bool z183) rfl (by kernel_rfl)) ?_
          refine vg1 rfl rfl rfl rfl rfl (fun hg185 => QV.qo (q_move (v := .pointer (some ⟨g23, 0, none⟩)) rfl (optp_some rfl hz48))) ?_
          refine (Bool.eq_false_or_eq_true z183).elim (fun hb186 => ?_) (fun hb186 => ?_)
          · skip
            have h := bt hb186 h
            refine WR.sat (c0 := true) (g := z183) rfl rfl rfl hb186 ?_
            obtain ⟨z187, hz188, h⟩ := bnd h
            refine e_call (is := [1]) rfl rfl (call_run Try.call22 rfl rfl (args1 (gu hb186 rfl))) rfl (fun w hp => t_quorum_Read_Waits (ho114.mono (hl166.trans hl176)) hp hz188) ?_
            rintro Γ189 U191 v192 hl190 ⟨A193, c194, row195, rfl, rfl, hr196, _⟩
            change WR _ _ _ (CC F Γ189 [row113, row195, row110, row55]) _ _ (upd _ 155 (.slice A193 z187.length c194))
            refine WR.sat (c0 := true) (g := z183) rfl rfl rfl hb186 ?_
            refine va rfl rfl rfl (q_move (v := .pointer (some ⟨g33, 0, none⟩)) rfl (optp_some rfl hz45)) ?_
            refine WR.sat (c0 := true) (g := z183) rfl rfl rfl hb186 ?_
            obtain ⟨z197, hz198, h⟩ := bnd h
            refine e_call (is := [2]) rfl rfl (call_run Try.call22 rfl rfl (by kernel_rfl)) rfl (fun w hp => t_quorum_Read_Waits (ho111.mono ((hl166.trans hl176).trans hl190)) hp hz198) ?_
            rintro Γ199 U201 v202 hl200 ⟨A203, c204, row205, rfl, rfl, hr206, _⟩
            change WR _ _ _ (CC F Γ199 [row110, row205, row113, row195, row55]) _ _ (upd _ 157 (.slice A203 z197.length c204))
            refine WR.sat (c0 := true) (g := z183) rfl rfl rfl hb186 ?_
            obtain ⟨z207, hz208, h⟩ := bnd h
            refine vc rfl rfl rfl (q_call (call_run Try.call15 rfl rfl (by kernel_rfl)) (fun w hw => t_firthref06_Ints (Γ := Gh.all w) ((hr196.mono hl200).sl hw.sat.le_all (hw.ra 3 rfl)) (hr196.mono hl200).capz (hr206.sl hw.sat.le_all (hw.ra 1 rfl)) hr206.capz (Sat.all w) hz208)) ?_
            refine va rfl rfl rfl (q_pick_t (v := .bool z207) rfl rfl hb186 (by kernel_rfl)) ?_
            refine va rfl rfl rfl (q_move (v := .bool z207) rfl (by kernel_rfl)) ?_
            refine vg1 rfl rfl rfl rfl rfl (fun hg209 => QV.qo (q_move (v := .pointer (some ⟨g23, 0, none⟩)) rfl (optp_some rfl hz48))) ?_
            obtain ⟨z211, hz212, h⟩ := bnd h
            refine vg1 rfl rfl rfl rfl rfl (fun hg210 => (q_call (call_run Try.call21 rfl rfl (args1 (gu hg210 rfl))) (fun w hw => t_quorum_Read_Done (Γ := Gh.all w) ((ho114.mono (((hl166.trans hl176).trans hl190).trans hl200)).mono hw.sat.le_all) (hw.ra 2 rfl) (Sat.all w) (gc_of hz212 hg210)))) ?_
            refine vg1 rfl rfl rfl rfl rfl (fun hg213 => QV.qo (q_move (v := .pointer (some ⟨g33, 0, none⟩)) rfl (optp_some rfl hz45))) ?_
            obtain ⟨z215, hz216, h⟩ := bnd h
            refine vg1 rfl rfl rfl rfl rfl (fun hg214 => (q_call (call_run Try.call21 rfl rfl (args1 (gu hg214 rfl))) (fun w hw => t_quorum_Read_Done (Γ := Gh.all w) ((ho111.mono (((hl166.trans hl176).trans hl190).trans hl200)).mono hw.sat.le_all) (hw.ra 0 rfl) (Sat.all w) (gc_of hz216 hg214)))) ?_
            refine vg1 rfl rfl rfl rfl rfl (fun hg217 => QV.qo (q_beql Try.underlying4 rfl (gu hg217 rfl) (gu hg217 rfl))) ?_
            refine va rfl rfl rfl (q_pick rfl rfl (pk_and' (g := z207) (y := (z211 == z215)))) ?_
            refine va rfl rfl rfl (q_assign (v := .bool (z207 && (z211 == z215))) rfl (by kernel_rfl)) ?_
            refine WR.nil ?_
            change WC _ _ _ _ _ _
            refine WC.ret ?_
            intro w hw
            obtain rfl := Option.some.inj h
            subst hF
            exact ⟨by kernel_rfl, hw.fr⟩
          · skip
            have h := bf hb186 h
            refine WR.unsat (c0 := true) (g := z183) rfl rfl rfl hb186 rfl ?_
            refine WR.unsat (c0 := true) (g := z183) rfl rfl rfl hb186 rfl ?_
            refine WR.unsat (c0 := true) (g := z183) rfl rfl rfl hb186 rfl ?_
            refine WR.unsat (c0 := true) (g := z183) rfl rfl rfl hb186 rfl ?_
            refine va rfl rfl rfl (q_pick_f (v := .bool false) rfl rfl hb186 (by kernel_rfl)) ?_
            refine va rfl rfl rfl (q_move (v := .bool false) rfl (by kernel_rfl)) ?_
            refine WR.unsat (c0 := true) (g := false) rfl rfl rfl rfl rfl ?_
            refine WR.unsat (c0 := true) (g := false) rfl rfl rfl rfl rfl ?_
            refine WR.unsat (c0 := true) (g := false) rfl rfl rfl rfl rfl ?_
            refine WR.unsat (c0 := true) (g := false) rfl rfl rfl rfl rfl ?_
            refine WR.unsat (c0 := true) (g := false) rfl rfl rfl rfl rfl ?_
            refine va rfl rfl rfl (q_pickf (v := .bool false) rfl rfl rfl) ?_
            refine va rfl rfl rfl (q_assign (v := .bool false) rfl (by kernel_rfl)) ?_
            refine WR.nil ?_
            change WC _ _ _ _ _ _
            refine WC.ret ?_
            intro w hw
            obtain rfl := Option.some.inj h
            subst hF
            exact ⟨by kernel_rfl, hw.fr⟩
end Fw
end Go.Proofs.Ytlbdlkgboliikaa
