/- Walks through the functions that the law reaches (printed by a program). No condition. -/
import Derived.Test.YtbidmceookkapaaGreatW3
namespace Go.Proofs.YtbidmceookkapaaGreat
namespace Fw
set_option linter.unusedVariables false
set_option linter.unusedSimpArgs false
set_option linter.unusedSectionVars false
open Go.RowKit
theorem vers_same_self {a : Ver} {b : Bool} (h : m_vers_same a a = some b) : b = true := by
  unfold m_vers_same at h
  have hv : (a.val != a.val) = false := by rw [bne, bytes_beq]; simp
  simp only [bne_self_eq_false, hv, Bool.or_false, cond_false] at h
  have key : ∀ (l : List Span) (i : Nat), (∀ j, j < l.length → gt l j = gt a.past (i + j)) → forI (m_vers_same_b1 a) (fun _ => some true) i l () = some b → b = true := by
    intro l
    induction l with
    | nil => intro i _ h; injection h with h; exact h.symm
    | cons x l ih =>
      intro i hl h
      have h0 := hl 0 (by simp)
      simp only [gt_zero, Nat.add_zero] at h0
      have h : m_vers_same_b1 a (forI (m_vers_same_b1 a) (fun _ => some true) (i + 1) l) i x () = some b := h
      have ih2 := ih (i + 1) (fun j hj => by
        have := hl (j + 1) (by simpa using hj)
        rw [gt_succ] at this
        rw [this]; congr 1; omega)
      generalize forI (m_vers_same_b1 a) (fun _ => some true) (i + 1) l = G at h ih2
      unfold m_vers_same_b1 at h
      obtain ⟨_, h⟩ := chk_some h
      rw [h0, bne_self_eq_false, cond_false] at h
      exact ih2 h
  exact key a.past 0 (fun j _ => by rw [Nat.zero_add]) h
theorem vers_Same_self {a : List Ver} {b : Bool} (h : m_vers_Same a a = some b) : b = true := by
  unfold m_vers_Same at h
  have key : ∀ (t i : Nat), forU (m_vers_Same_b1 a a) (fun _ => some (((a.length : Nat) : Int) == ((a.length : Nat) : Int))) t i () = some b → b = true := by
    intro t
    induction t with
    | zero =>
      intro i h
      have h : some (((a.length : Nat) : Int) == ((a.length : Nat) : Int)) = some b := h
      injection h with h
      rw [← h]; exact beq_self_eq_true _
    | succ t ih =>
      intro i h
      have h : m_vers_Same_b1 a a (forU (m_vers_Same_b1 a a) (fun _ => some (((a.length : Nat) : Int) == ((a.length : Nat) : Int))) t (i + 1)) i () = some b := h
      have ih2 := ih (i + 1)
      generalize forU (m_vers_Same_b1 a a) (fun _ => some (((a.length : Nat) : Int) == ((a.length : Nat) : Int))) t (i + 1) = G at h ih2
      unfold m_vers_Same_b1 at h
      obtain ⟨_, h⟩ := chk_some h
      obtain ⟨_, h⟩ := chk_some h
      obtain ⟨z, hz, h⟩ := bnd h
      have := vers_same_self hz
      subst this
      rw [Bool.not_true, cond_false] at h
      exact ih2 h
  exact key _ _ h

set_option maxRecDepth 100000 in
set_option maxHeartbeats 400000 in
theorem t_mend_Take_x {Γ : Gh} {w0 : World} {B : Gh} {Aown : Option Addr} {cown : Nat} {own : List Rec} (hown : Sl recT B Aown own) (hownc : own.length ≤ cown) {Atheirs : Option Addr} {ctheirs : Nat} {theirs : List Rec} (htheirs : Sl recT B Atheirs theirs) (htheirsc : theirs.length ≤ ctheirs) (hp : Pre [] Γ w0) (hpB : Pre [] B w0) {r : (List Rec) × Int} (h : m_mend_Take own theirs = some r) : Calls Tryz.prog 23 #[.slice Aown own.length cown, .slice Atheirs theirs.length ctheirs] w0 (Outc Γ [] w0 (r_mend_Take r)) := by
  refine calls_of (N := 83) (rs := [4, 5]) (args := [.slice Aown own.length cown, .slice Atheirs theirs.length ctheirs]) Tryz.func23 rfl Tryz.ntmps23 Tryz.results23 rfl ?_
  obtain ⟨F, hF⟩ : ∃ F : Fm, F = ⟨ids [], w0, Γ⟩ := ⟨_, rfl⟩
  refine WC.here (C := CC F Γ []) ?_ (hF ▸ hp.start)
  have hB : Lent F B := hF ▸ Lent.start hpB
  refine WC.rs ?_
  refine va rfl rfl rfl (q_assign (v := .slice none 0 0) rfl (by kernel_rfl)) ?_
  refine va rfl rfl rfl (q_assign (v := .int .i64 0) rfl (by kernel_rfl)) ?_
  refine WR.nil ?_
  change WC _ _ _ _ _ _
  refine WC.seq ?_
  refine WC.rs ?_
  refine va rfl rfl rfl (q_move (v := .slice Aown own.length cown) rfl (by kernel_rfl)) ?_
  obtain ⟨z1, hz2, h⟩ := bnd h
  refine vc rfl rfl rfl (q_call (call_run Tryz.call47 rfl rfl (by kernel_rfl)) (fun w hw => t_mend_right (Γ := Gh.all w) (hown.mono (hB.sat hw).le_all) hownc (Sat.all w) hz2)) ?_
  refine va rfl rfl rfl (q_not rfl rfl) ?_
  refine va rfl rfl rfl (q_move (v := .bool (!z1)) rfl (by kernel_rfl)) ?_
  refine vg0 rfl rfl rfl rfl rfl (fun hg3 => QV.qo (q_move (v := .slice Atheirs theirs.length ctheirs) rfl (by kernel_rfl))) ?_
  obtain ⟨z5, hz6, h⟩ := bnd h
  refine vg0 rfl rfl rfl rfl rfl (fun hg4 => (q_call (call_run Tryz.call47 rfl rfl (args1 (gu hg4 rfl))) (fun w hw => t_mend_right (Γ := Gh.all w) (htheirs.mono (hB.sat hw).le_all) htheirsc (Sat.all w) (gc_of hz6 hg4)))) ?_
  refine vg0 rfl rfl rfl rfl rfl (fun hg7 => QV.qo (q_not rfl (gu hg7 rfl))) ?_
  refine va rfl rfl rfl (q_pick rfl rfl (pk_or' (g := (!z1)) (y := (!z5)))) ?_
  refine WR.nil ?_
  change WC _ _ _ _ _ _
  refine WC.cif h (by kernel_rfl) (fun hb8 h => ?_) (fun hb8 h => ?_)
  · skip
    refine WC.rs ?_
    refine va rfl rfl rfl (q_assign (v := .slice none 0 0) rfl (by kernel_rfl)) ?_
    refine va rfl rfl rfl (q_assign (v := .int .i64 1) rfl (by kernel_rfl)) ?_
    refine WR.nil ?_
    change WC _ _ _ _ _ _
    refine WC.ret ?_
    intro w hw
    have hw := hw.pad
    obtain rfl := Option.some.inj h
    subst hF
    exact end_e (is := [0]) (by kernel_rfl) hw rfl ⟨none, 0, [], rfl, rfl, (Own.nil recT _ 51), (show I64 1 by decide), trivial⟩
  · skip
    refine WC.skip ?_
    change WC _ _ _ _ _ _
    refine WC.rs ?_
    refine va rfl rfl rfl (q_move (v := .slice Aown own.length cown) rfl (by kernel_rfl)) ?_
    obtain ⟨z9, hz10, h⟩ := bnd h
    refine e_callW (is := []) rfl rfl (call_run Tryz.call48 rfl rfl (by kernel_rfl)) rfl (fun w hw hp => t_mend_held_x (B := B) hown hownc hp (hB.pre (is := []) hw rfl) hz10) ?_
    rintro Γ11 U13 v14 hl12 ⟨g15, row16, rfl, rfl, hr17, _⟩
    change WR _ _ _ (CC F Γ11 [row16]) _ _ (upd _ 24 (.map (some g15)))
    refine va rfl rfl rfl (q_move (v := .slice Aown own.length cown) rfl (by kernel_rfl)) ?_
    obtain ⟨z18, hz19, h⟩ := bnd h
    refine e_callW (is := []) rfl rfl (call_run Tryz.call48 rfl rfl (by kernel_rfl)) rfl (fun w hw hp => t_mend_held_x (B := B) hown hownc hp (hB.pre (is := []) hw rfl) hz19) ?_
    rintro Γ20 U22 v23 hl21 ⟨g24, row25, rfl, rfl, hr26, _⟩
    have hzz : z9 = z18 := Option.some.inj (hz10.symm.trans hz19)
    have hr17 := hr17.mixv
    change WR _ _ _ (CC F Γ20 [row25, row16]) _ _ (upd _ 26 (.map (some g24)))
    refine va rfl rfl rfl (q_assign (v := .map (some g15)) rfl (by kernel_rfl)) ?_
    refine va rfl rfl rfl (q_assign (v := .map (some g24)) rfl (by kernel_rfl)) ?_
    refine WR.nil ?_
    change WC _ _ _ _ _ _
    refine WC.seq ?_
    refine WC.rs ?_
    refine va rfl rfl rfl (q_move (v := .slice Atheirs theirs.length ctheirs) rfl (by kernel_rfl)) ?_
    refine va rfl rfl rfl (q_len_slice rfl Tryz.underlying22 rfl) ?_
    refine va rfl rfl rfl (q_move (v := .int .i64 0) rfl (by kernel_rfl)) ?_
    refine WR.nil ?_
    change WC _ _ _ _ _ _
    refine WC.block ?_
    refine WC.forI h (fun (i33 : Nat) (m29 : List (ByteArray × (List Ver))) σ w => ∃ (Γ27 : Gh), ∃ (row30 : Rowb), slots σ [(6, .map (some g15)), (7, .map (some g24)), (27, .slice Atheirs theirs.length ctheirs), (28, .int .i64 ((theirs.length : Nat) : Int)), (29, .int .i64 ((i33 : Nat) : Int))] ∧ CC F Γ27 [row25, row30] w ∧ Gh.le Γ20 Γ27 ∧ MapO (strK Tryz.underlying9) (mixV (slT verT).v B z9) Γ27 row30 g15 (kt m29) ∧ True) ?_ ?_
    · skip
      intro w hw
      exact ⟨Γ20, row16, (sl_ (by kernel_rfl)), hw, (Gh.refl _), (hr17.mono hl21), trivial⟩
    rintro f32 i33 m29 σ w hi34 hlt35 hge36 ⟨Γ27, row30, hsl, hw, hl28, ho31, -⟩
    refine Wpt.slots hsl ?_
    refine WC.here (C := CC F Γ27 [row25, row30]) ?_ hw
    clear hw hsl
    refine WC.rs ?_
    refine va rfl rfl rfl (q_lss rfl rfl rfl) ?_
    refine WR.nil ?_
    change WC _ _ _ _ _ _
    refine WC.seq ?_
    refine WC.cond (b := (decide (((i33 : Nat) : Int) < ((theirs.length : Nat) : Int)))) (by kernel_rfl) (fun hb37 => ?_) (fun hb37 => ?_)
    · skip
      have hl38 := ilt hb37
      have h := hlt35 hl38
      refine WC.skip ?_
      change WC _ _ _ _ _ _
      refine WC.cut (fun σ w => ∃ (m41 : List (ByteArray × (List Ver))), ∃ (Γ39 : Gh), ∃ (row42 : Rowb), m_mend_Take_j5 f32 m41 = some r ∧ slots σ [(6, .map (some g15)), (7, .map (some g24)), (27, .slice Atheirs theirs.length ctheirs), (28, .int .i64 ((theirs.length : Nat) : Int)), (29, .int .i64 ((i33 : Nat) : Int))] ∧ CC F Γ39 [row25, row42] w ∧ Gh.le Γ27 Γ39 ∧ MapO (strK Tryz.underlying9) (mixV (slT verT).v B z9) Γ39 row42 g15 (kt m41) ∧ True) ?_ ?_
      · skip
        refine WC.block ?_
        refine WC.rs ?_
        refine va rfl rfl rfl (q_ixn (i := i33) Tryz.underlying22 Tryz.sizeOf51 rfl rfl rfl hl38 (htheirs.some_ hl38)) ?_
        obtain ⟨A44, c45, hx46⟩ := htheirs.recT_at i33
        refine va rfl rfl rfl (q_ldaS (c := 0) (vs := [.string (gt theirs i33).key, .slice A44 ((gt theirs i33).vers).length c45]) (fun w hw => hB.sat hw) (hx46 hl38).2 rfl Tryz.isAgg51 Tryz.sizeOf51 rfl rfl rfl) ?_
        refine e_alloc Tryz.zeroValue51 rfl rfl rfl rfl ?_
        intro g47
        refine e_st (i := 0) (v := .agg #[.string (gt theirs i33).key, .slice A44 ((gt theirs i33).vers).length c45]) (new := #[.string (gt theirs i33).key, .slice A44 ((gt theirs i33).vers).length c45]) rfl Tryz.sizeOf51 rfl rfl rfl rfl (by kernel_rfl) rfl rfl rfl rfl ?_
        refine WR.nil ?_
        change WC _ _ _ _ _ _
        refine WC.rs ?_
        refine va rfl rfl rfl (q_move (v := .map (some g15)) rfl (by kernel_rfl)) ?_
        refine va rfl rfl rfl (q_fl 0 fld_51_0 rfl rfl rfl) ?_
        refine va rfl rfl rfl (q_ldl (i := 0) (v := .string (gt theirs i33).key) rfl rfl Tryz.isAgg9 rfl rfl) ?_
        obtain ⟨v48, ⟨A51, c52, hv49, hc53, hs54⟩, hat50⟩ := mix_look ho31 ((gt theirs i33).key)
        obtain rfl : v48 = _ := List.cons.inj hv49 |>.1
        refine va rfl rfl rfl (q_lookup1 (v := .slice A51 ((mget ((gt theirs i33).key) m29).getD []).length c52) hat50 rfl Tryz.underlying82 Tryz.zeroValue48 rfl rfl (i := 2) rfl) ?_
        refine va rfl rfl rfl (q_fl 1 fld_51_1 rfl rfl rfl) ?_
        refine va rfl rfl rfl (q_ldl (i := 0) (v := .slice A44 ((gt theirs i33).vers).length c45) rfl rfl Tryz.isAgg48 rfl rfl) ?_
        obtain ⟨z55, hz56, h⟩ := bnd h
        refine e_callB (is := []) hB rfl rfl (call_run Tryz.call52 rfl rfl (by kernel_rfl)) rfl (fun w Θ hp hpB hle hleB hR => t_vers_Merge_x (hs54.elim (fun q => q.mono hle) (fun q => q.1.mono hleB)) hc53 ((hx46 hl38).1.2.2.mono hleB) (hx46 hl38).1.2.1 hp hpB hz56) ?_
        rintro Γ57 U59 v60 hl58 ⟨A61, c62, row63, rfl, rfl, hr64, hr65, _⟩
        change WR _ _ _ (CC F Γ57 [row63, [(g47, .cells #[.string (gt theirs i33).key, .slice A44 ((gt theirs i33).vers).length c45] 51 (0, 0))], row25, row30]) _ _ (upd _ 40 (.tuple #[.slice A61 z55.1.length c62, .int .i64 z55.2]))
        refine va rfl rfl rfl (q_move (v := .tuple #[.slice A61 z55.1.length c62, .int .i64 z55.2]) rfl (by kernel_rfl)) ?_
        refine va rfl rfl rfl (q_extract (v := .slice A61 z55.1.length c62) rfl rfl rfl) ?_
        refine va rfl rfl rfl (q_extract (v := .int .i64 z55.2) rfl rfl rfl) ?_
        refine va rfl rfl rfl (q_assign (v := .slice A61 z55.1.length c62) rfl (by kernel_rfl)) ?_
        refine va rfl rfl rfl (q_assign (v := .int .i64 z55.2) rfl (by kernel_rfl)) ?_
        refine WR.nil ?_
        change WC _ _ _ _ _ _
        refine WC.rs ?_
        refine va rfl rfl rfl (q_move (v := .int .i64 z55.2) rfl (by kernel_rfl)) ?_
        refine va rfl rfl rfl (q_eql rfl rfl rfl) ?_
        refine WR.nil ?_
        change WC _ _ _ _ _ _
        refine WC.cif h (by kernel_rfl) (fun hb66 h => ?_) (fun hb66 h => ?_)
        · skip
          refine WC.region ?_
          refine va rfl rfl rfl (q_move (v := .map (some g15)) rfl (by kernel_rfl)) ?_
          refine va rfl rfl rfl (q_fl 0 fld_51_0 rfl rfl rfl) ?_
          refine va rfl rfl rfl (q_ldl (i := 1) (v := .string (gt theirs i33).key) rfl rfl Tryz.isAgg9 rfl rfl) ?_
          refine va rfl rfl rfl (q_move (v := .slice A61 z55.1.length c62) rfl (by kernel_rfl)) ?_
          have hc71 := hr64.capz
          intro w hw; obtain ⟨Γ67, hw, hl68, hr69⟩ := hw.seal (i := 0) rfl; have hs70 := hr64.sl hl68 hr69
          refine WR.here (C := CC F Γ67 [[], [(g47, .cells #[.string (gt theirs i33).key, .slice A44 ((gt theirs i33).vers).length c45] 51 (0, 0))], row25, row30]) ?_ hw
          clear hw
          refine e_mapUpdate (i := 3) (x := ((gt theirs i33).key)) (v := .slice A61 z55.1.length c62) (a := (((gt theirs i33).key), z55.1)) rfl rfl rfl Tryz.underlying82 rfl rfl (by kernel_rfl) rfl (ho31.mono (hl58.trans hl68)) (by exact .inl ⟨A61, c62, rfl, hc71, hs70⟩) (hx46 hl38).1.1 ?_
          intro row72 hm73
          have hm73 := mix_put hm73
          refine WR.nil ?_
          intro w hw
          exact ⟨(mput ((gt theirs i33).key) z55.1 m29), Γ67, row72, h, (sl_ (by kernel_rfl)), (hw.only (is := [2, 2]) rfl), (hl58.trans hl68), hm73, trivial⟩
        · skip
          refine WC.skip ?_
          intro w hw
          exact ⟨m29, Γ57, row30, h, (sl_ (by kernel_rfl)), (hw.only (is := [2, 2]) rfl), hl58, (ho31.mono hl58), trivial⟩
      · skip
        rintro σ w ⟨m41, Γ39, row42, h, hsl, hw, hl40, ho43, -⟩
        refine Wpt.slots hsl ?_
        refine WC.here (C := CC F Γ39 [row25, row42]) ?_ hw
        clear hw hsl
        refine WC.region ?_
        refine va rfl rfl rfl (q_add_r (r := ((i33 + 1 : Nat) : Int)) rfl rfl rfl (ctr_len hl38 htheirs.le)) ?_
        refine va rfl rfl rfl (q_move (v := .int .i64 ((i33 + 1 : Nat) : Int)) rfl (by kernel_rfl)) ?_
        refine WR.nil ?_
        intro w hw
        exact ⟨hl38, m41, h, Γ39, row42, (sl_ (by kernel_rfl)), hw, (hl28.trans hl40), ho43, trivial⟩
    · skip
      have h := hge36 (ige hb37)
      refine WC.exit ?_
      change WC _ _ _ _ _ _
      refine WC.rs ?_
      refine va rfl rfl rfl (q_assign (v := .slice none 0 0) rfl (by kernel_rfl)) ?_
      refine WR.nil ?_
      change WC _ _ _ _ _ _
      refine WC.seq ?_
      refine WC.rs ?_
      refine va rfl rfl rfl (q_move (v := .map (some g15)) rfl (by kernel_rfl)) ?_
      refine e_keys (ρ := keys54_ren) keys54 (mb := some g15) rfl rfl (call_run Tryz.call54 rfl rfl (by kernel_rfl)) ?_
      intro g74
      change WR _ _ _ (CC F Γ27 [[(g74, .cells #[.map (some g15)] 82 (0, 0))], row25, row30]) _ _ (upd _ 51 (.func (.func 81) #[] #[.pointer (some ⟨g74, 0, none⟩)]))
      obtain ⟨hk75, h⟩ := chk_some h
      refine e_call (is := [0, 1]) rfl rfl (call_run Tryz.call53 rfl rfl (by kernel_rfl)) rfl (fun w hp => by have hq := sk53_54 ho31 (by rw [kt_len]; exact of_decide_eq_true hk75) hp; rw [kt_skeys] at hq; exact hq) ?_
      rintro Γ76 U78 v79 hl77 ⟨A80, c81, row82, rfl, rfl, ho83⟩
      change WR _ _ _ (CC F Γ76 [[(g74, .cells #[.map (some g15)] 82 (0, 0))], row30, row82, row25]) _ _ (upd _ 52 (.slice A80 (skeys m29).length c81))
      refine va rfl rfl rfl (q_len_slice rfl Tryz.underlying89 rfl) ?_
      refine va rfl rfl rfl (q_move (v := .int .i64 0) rfl (by kernel_rfl)) ?_
      refine WR.nil ?_
      change WC _ _ _ _ _ _
      refine WC.block ?_
      refine WC.forI h (fun (i90 : Nat) (out_84 : List Rec) σ w => ∃ (A85 : Option Addr), ∃ (c86 : Nat), ∃ (row87 : Rowb), slots σ [(6, .map (some g15)), (7, .map (some g24)), (12, .slice A85 out_84.length c86), (52, .slice A80 (skeys m29).length c81), (53, .int .i64 (((skeys m29).length : Nat) : Int)), (54, .int .i64 ((i90 : Nat) : Int))] ∧ CC F Γ76 [row87, row30, row82, row25] w ∧ Own recT Γ76 51 row87 A85 c86 out_84 ∧ True) ?_ ?_
      · skip
        intro w hw
        have hw := hw.pad
        exact ⟨none, 0, [], (sl_ (by kernel_rfl)), (hw.only (is := [0, 1, 1, 1]) rfl), (Own.nil recT _ 51), trivial⟩
      rintro f89 i90 out_84 σ w hi91 hlt92 hge93 ⟨A85, c86, row87, hsl, hw, ho88, -⟩
      refine Wpt.slots hsl ?_
      refine WC.here (C := CC F Γ76 [row87, row30, row82, row25]) ?_ hw
      clear hw hsl
      refine WC.rs ?_
      refine va rfl rfl rfl (q_lss rfl rfl rfl) ?_
      refine WR.nil ?_
      change WC _ _ _ _ _ _
      refine WC.seq ?_
      refine WC.cond (b := (decide (((i90 : Nat) : Int) < (((skeys m29).length : Nat) : Int)))) (by kernel_rfl) (fun hb94 => ?_) (fun hb94 => ?_)
      · skip
        have hl95 := ilt hb94
        have h := hlt92 hl95
        refine WC.skip ?_
        change WC _ _ _ _ _ _
        refine WC.cut (fun σ w => ∃ (out_96 : List Rec), ∃ (A97 : Option Addr), ∃ (c98 : Nat), ∃ (row99 : Rowb), m_mend_Take_j10 f89 out_96 = some r ∧ slots σ [(6, .map (some g15)), (7, .map (some g24)), (12, .slice A97 out_96.length c98), (52, .slice A80 (skeys m29).length c81), (53, .int .i64 (((skeys m29).length : Nat) : Int)), (54, .int .i64 ((i90 : Nat) : Int))] ∧ CC F Γ76 [row99, row30, row82, row25] w ∧ Own recT Γ76 51 row99 A97 c98 out_96 ∧ True) ?_ ?_
        · skip
          refine WC.block ?_
          refine WC.rs ?_
          refine va rfl rfl rfl (q_ixn (i := i90) Tryz.underlying89 Tryz.sizeOf9 rfl rfl rfl hl95 (ho83.some_ hl95)) ?_
          refine va rfl rfl rfl (q_ldo (c := 0) (v := .string (gt (skeys m29) i90)) (i := 2) rfl (ho83.strT_at hl95).2 rfl Tryz.isAgg9 rfl rfl) ?_
          refine va rfl rfl rfl (q_assign (v := .string (gt (skeys m29) i90)) rfl (by kernel_rfl)) ?_
          refine WR.nil ?_
          change WC _ _ _ _ _ _
          refine WC.rs ?_
          refine va rfl rfl rfl (q_move (v := .map (some g15)) rfl (by kernel_rfl)) ?_
          refine va rfl rfl rfl (q_move (v := .string (gt (skeys m29) i90)) rfl (by kernel_rfl)) ?_
          obtain ⟨v101, ⟨A104, c105, hv102, hc106, hs107⟩, hat103⟩ := mix_look (ho31.mono hl77) (gt (skeys m29) i90)
          obtain rfl : v101 = _ := List.cons.inj hv102 |>.1
          refine va rfl rfl rfl (q_lookup1 (v := .slice A104 ((mget (gt (skeys m29) i90) m29).getD []).length c105) hat103 rfl Tryz.underlying82 Tryz.zeroValue48 rfl rfl (i := 1) rfl) ?_
          refine va rfl rfl rfl (q_len_slice rfl Tryz.underlying48 rfl) ?_
          refine va rfl rfl rfl (q_gtr rfl rfl rfl) ?_
          refine va rfl rfl rfl (q_move (v := .bool (decide (0 < ((((mget (gt (skeys m29) i90) m29).getD []).length : Nat) : Int)))) rfl (by kernel_rfl)) ?_
          refine vg1 rfl rfl rfl rfl rfl (fun hg108 => QV.qo (q_move (v := .map (some g15)) rfl (by kernel_rfl))) ?_
          refine vg1 rfl rfl rfl rfl rfl (fun hg109 => QV.qo (q_move (v := .string (gt (skeys m29) i90)) rfl (by kernel_rfl))) ?_
          obtain ⟨v111, ⟨A114, c115, hv112, hc116, hs117⟩, hat113⟩ := mix_look (ho31.mono hl77) (gt (skeys m29) i90)
          obtain rfl : v111 = _ := List.cons.inj hv112 |>.1
          refine vg1 rfl rfl rfl rfl rfl (fun hg110 => QV.qo (q_lookup1 (v := .slice A114 ((mget (gt (skeys m29) i90) m29).getD []).length c115) hat113 rfl Tryz.underlying82 Tryz.zeroValue48 (gu hg110 rfl) (gu hg110 rfl) (i := 1) rfl)) ?_
          refine vg1 rfl rfl rfl rfl rfl (fun hg118 => QV.qo (q_move (v := .map (some g24)) rfl (by kernel_rfl))) ?_
          refine vg1 rfl rfl rfl rfl rfl (fun hg119 => QV.qo (q_move (v := .string (gt (skeys m29) i90)) rfl (by kernel_rfl))) ?_
          obtain ⟨v121, ⟨A124, c125, hv122, hc126, hs127⟩, hat123⟩ := MapO.look (hr26.mono (hl28.trans hl77)) (gt (skeys m29) i90) (z := .slice none 0 0) (zx := []) ⟨none, 0, rfl, Nat.zero_le _, Sl.nil _ _ _⟩
          obtain rfl : v121 = _ := List.cons.inj hv122 |>.1
          refine vg1 rfl rfl rfl rfl rfl (fun hg120 => QV.qo (q_lookup1 (v := .slice A124 ((mget (gt (skeys m29) i90) z18).getD []).length c125) hat123 rfl Tryz.underlying82 Tryz.zeroValue48 (gu hg120 rfl) (gu hg120 rfl) (i := 3) rfl)) ?_
          obtain ⟨z129, hz130, h⟩ := bnd h
          refine vg1 rfl rfl rfl rfl rfl (fun hg128 => (q_call (call_run Tryz.call55 rfl rfl (args2 (gu hg128 rfl) (gu hg128 rfl))) (fun w hw => t_vers_Same (Γ := Gh.all w) (hs117.elim (fun q => q.mono hw.sat.le_all) (fun q => q.1.mono (hB.sat hw).le_all)) hc116 (hs127.mono (hB.sat hw).le_all) hc126 (Sat.all w) (gc_of hz130 hg128)))) ?_
          refine vg1 rfl rfl rfl rfl rfl (fun hg131 => QV.qo (q_not rfl (gu hg131 rfl))) ?_
          refine va rfl rfl rfl (q_pick rfl rfl (pk_and' (g := (decide (0 < ((((mget (gt (skeys m29) i90) m29).getD []).length : Nat) : Int)))) (y := (!z129)))) ?_
          refine WR.nil ?_
          change WC _ _ _ _ _ _
          refine WC.cif h (by kernel_rfl) (fun hb132 h => ?_) (fun hb132 h => ?_)
          · skip
            refine WC.region ?_
            refine va rfl rfl rfl (q_move (v := .slice A85 out_84.length c86) rfl (by kernel_rfl)) ?_
            refine va rfl rfl rfl (q_move (v := .string (gt (skeys m29) i90)) rfl (by kernel_rfl)) ?_
            refine va rfl rfl rfl (q_move (v := .map (some g15)) rfl (by kernel_rfl)) ?_
            refine va rfl rfl rfl (q_move (v := .string (gt (skeys m29) i90)) rfl (by kernel_rfl)) ?_
            obtain ⟨v133, ⟨A136, c137, hv134, hc138, hs139⟩, hat135⟩ := mix_look (ho31.mono hl77) (gt (skeys m29) i90)
            obtain rfl : v133 = _ := List.cons.inj hv134 |>.1
            have hs139 := hs139.elim id (fun q => by
              exfalso
              have hb_ := hb132
              simp only [Bool.and_eq_true] at hb_
              have hz_ := gc_of hz130 hb_.1
              have hq := q.2
              rw [hzz] at hq
              rw [hq] at hz_
              have hz_ := vers_Same_self hz_
              rw [hz_] at hb_
              exact absurd hb_.2 (by decide))
            refine va rfl rfl rfl (q_lookup1 (v := .slice A136 ((mget (gt (skeys m29) i90) m29).getD []).length c137) hat135 rfl Tryz.underlying82 Tryz.zeroValue48 rfl rfl (i := 1) rfl) ?_
            refine va rfl rfl rfl (q_build' (v := .agg #[.string (gt (skeys m29) i90), .slice A136 ((mget (gt (skeys m29) i90) m29).getD []).length c137]) rfl (bargs2 rfl rfl) (fun w => by kernel_rfl)) ?_
            refine e_buildSlice (cs := #[.string (gt (skeys m29) i90), .slice A136 ((mget (gt (skeys m29) i90) m29).getD []).length c137]) (e := 51) rfl rfl rfl rfl (fun w => by kernel_rfl) ?_
            intro g140
            obtain ⟨hk141, h⟩ := chk_some h
            refine e_append (T := recT) (xs := out_84) (ys := [(⟨(gt (skeys m29) i90), ((mget (gt (skeys m29) i90) m29).getD [])⟩ : Rec)]) elem_22 (i := 1) rfl rfl rfl rfl rfl rfl rfl ho88 (of_decide_eq_true hk141) (fun w hw => src_one (T := recT) (y := (⟨(gt (skeys m29) i90), ((mget (gt (skeys m29) i90) m29).getD [])⟩ : Rec)) (i := 0) rfl (by exact ⟨A136, c137, rfl, ⟨(ho83.strT_at hl95).1, ⟨hc138, hs139⟩⟩⟩) hw) ?_
            intro row142 A143 c144 ho145
            refine va rfl rfl rfl (q_assign (v := .slice A143 (out_84 ++ [(⟨(gt (skeys m29) i90), ((mget (gt (skeys m29) i90) m29).getD [])⟩ : Rec)]).length c144) rfl (by kernel_rfl)) ?_
            refine WR.nil ?_
            intro w hw
            exact ⟨(out_84 ++ [(⟨(gt (skeys m29) i90), ((mget (gt (skeys m29) i90) m29).getD [])⟩ : Rec)]), A143, c144, row142, h, (sl_ (by kernel_rfl)), (hw.only (is := [1, 1, 1, 1]) rfl), ho145, trivial⟩
          · skip
            refine WC.skip ?_
            intro w hw
            exact ⟨out_84, A85, c86, row87, h, (sl_ (by kernel_rfl)), hw, ho88, trivial⟩
        · skip
          rintro σ w ⟨out_96, A97, c98, row99, h, hsl, hw, ho100, -⟩
          refine Wpt.slots hsl ?_
          refine WC.here (C := CC F Γ76 [row99, row30, row82, row25]) ?_ hw
          clear hw hsl
          refine WC.region ?_
          refine va rfl rfl rfl (q_add_r (r := ((i90 + 1 : Nat) : Int)) rfl rfl rfl (ctr_len hl95 ho83.le)) ?_
          refine va rfl rfl rfl (q_move (v := .int .i64 ((i90 + 1 : Nat) : Int)) rfl (by kernel_rfl)) ?_
          refine WR.nil ?_
          intro w hw
          exact ⟨hl95, out_96, h, A97, c98, row99, (sl_ (by kernel_rfl)), hw, ho100, trivial⟩
      · skip
        have h := hge93 (ige hb94)
        refine WC.exit ?_
        change WC _ _ _ _ _ _
        refine WC.rs ?_
        refine va rfl rfl rfl (q_move (v := .slice A85 out_84.length c86) rfl (by kernel_rfl)) ?_
        refine va rfl rfl rfl (q_assign (v := .slice A85 out_84.length c86) rfl (by kernel_rfl)) ?_
        refine va rfl rfl rfl (q_assign (v := .int .i64 0) rfl (by kernel_rfl)) ?_
        refine WR.nil ?_
        change WC _ _ _ _ _ _
        refine WC.ret ?_
        intro w hw
        obtain rfl := Option.some.inj h
        subst hF
        exact end_e (is := [0]) (by kernel_rfl) hw rfl ⟨A85, c86, row87, rfl, rfl, ho88, (show I64 0 by decide), trivial⟩
abbrev r_firthref14_Take (r : (List Rec) × Int) (U : List Rowb) (Γ : Gh) (v : Value) : Prop := ∃ (A0 : Option Addr), ∃ (c0 : Nat), ∃ (row0 : Rowb), v = .tuple #[.slice A0 r.1.length c0, .int .i64 r.2] ∧ U = [row0] ∧ Own recT Γ 51 row0 A0 c0 r.1 ∧ I64 r.2 ∧ True
set_option maxRecDepth 100000 in
set_option maxHeartbeats 400000 in
theorem t_firthref14_Take {Γ : Gh} {w0 : World} {Aown : Option Addr} {cown : Nat} {own : List Rec} (hown : Sl recT Γ Aown own) (hownc : own.length ≤ cown) {Atheirs : Option Addr} {ctheirs : Nat} {theirs : List Rec} (htheirs : Sl recT Γ Atheirs theirs) (htheirsc : theirs.length ≤ ctheirs) (hp : Pre [] Γ w0) {r : (List Rec) × Int} (h : m_firthref14_Take own theirs = some r) : Calls Tryz.prog 29 #[.slice Aown own.length cown, .slice Atheirs theirs.length ctheirs] w0 (Outc Γ [] w0 (r_firthref14_Take r)) := by
  refine calls_of (N := 90) (rs := [4, 5]) (args := [.slice Aown own.length cown, .slice Atheirs theirs.length ctheirs]) Tryz.func29 rfl Tryz.ntmps29 Tryz.results29 rfl ?_
  obtain ⟨F, hF⟩ : ∃ F : Fm, F = ⟨ids [], w0, Γ⟩ := ⟨_, rfl⟩
  refine WC.here (C := CC F Γ []) ?_ (hF ▸ hp.start)
  refine WC.rs ?_
  refine va rfl rfl rfl (q_assign (v := .slice none 0 0) rfl (by kernel_rfl)) ?_
  refine va rfl rfl rfl (q_assign (v := .int .i64 0) rfl (by kernel_rfl)) ?_
  refine WR.nil ?_
  change WC _ _ _ _ _ _
  refine WC.rs ?_
  refine va rfl rfl rfl (q_move (v := .slice Aown own.length cown) rfl (by kernel_rfl)) ?_
  obtain ⟨z1, hz2, h⟩ := bnd h
  refine e_call (is := []) rfl rfl (call_run Tryz.call10 rfl rfl (by kernel_rfl)) rfl (fun w hp => t_firthref14_Held hown hownc hp hz2) ?_
  rintro Γ3 U5 v6 hl4 ⟨A7, c8, row9, rfl, rfl, hr10, _⟩
  change WR _ _ _ (CC F Γ3 [row9]) _ _ (upd _ 16 (.tuple #[.slice A7 z1.1.length c8, .bool z1.2]))
  refine va rfl rfl rfl (q_move (v := .tuple #[.slice A7 z1.1.length c8, .bool z1.2]) rfl (by kernel_rfl)) ?_
  refine va rfl rfl rfl (q_extract (v := .slice A7 z1.1.length c8) rfl rfl rfl) ?_
  refine va rfl rfl rfl (q_extract (v := .bool z1.2) rfl rfl rfl) ?_
  refine va rfl rfl rfl (q_assign (v := .slice A7 z1.1.length c8) rfl (by kernel_rfl)) ?_
  refine va rfl rfl rfl (q_assign (v := .bool z1.2) rfl (by kernel_rfl)) ?_
  refine WR.nil ?_
  change WC _ _ _ _ _ _
  refine WC.seq ?_
  refine WC.rs ?_
  refine va rfl rfl rfl (q_move (v := .bool z1.2) rfl (by kernel_rfl)) ?_
  refine va rfl rfl rfl (q_not rfl rfl) ?_
  refine WR.nil ?_
  change WC _ _ _ _ _ _
  refine WC.cif h (by kernel_rfl) (fun hb11 h => ?_) (fun hb11 h => ?_)
  · skip
    refine WC.rs ?_
    refine va rfl rfl rfl (q_assign (v := .slice none 0 0) rfl (by kernel_rfl)) ?_
    refine va rfl rfl rfl (q_assign (v := .int .i64 1) rfl (by kernel_rfl)) ?_
    refine WR.nil ?_
    change WC _ _ _ _ _ _
    refine WC.ret ?_
    intro w hw
    have hw := hw.pad
    obtain rfl := Option.some.inj h
    subst hF
    exact end_e (is := [0]) (by kernel_rfl) hw rfl ⟨none, 0, [], rfl, rfl, (Own.nil recT _ 51), (show I64 1 by decide), trivial⟩
  · skip
    refine WC.skip ?_
    change WC _ _ _ _ _ _
    refine WC.rs ?_
    refine va rfl rfl rfl (q_move (v := .slice Atheirs theirs.length ctheirs) rfl (by kernel_rfl)) ?_
    obtain ⟨z12, hz13, h⟩ := bnd h
    refine e_call (is := []) rfl rfl (call_run Tryz.call10 rfl rfl (by kernel_rfl)) rfl (fun w hp => t_firthref14_Held (htheirs.mono hl4) htheirsc hp hz13) ?_
    rintro Γ14 U16 v17 hl15 ⟨A18, c19, row20, rfl, rfl, hr21, _⟩
    change WR _ _ _ (CC F Γ14 [row20, row9]) _ _ (upd _ 23 (.tuple #[.slice A18 z12.1.length c19, .bool z12.2]))
    refine va rfl rfl rfl (q_move (v := .tuple #[.slice A18 z12.1.length c19, .bool z12.2]) rfl (by kernel_rfl)) ?_
    refine va rfl rfl rfl (q_extract (v := .slice A18 z12.1.length c19) rfl rfl rfl) ?_
    refine va rfl rfl rfl (q_extract (v := .bool z12.2) rfl rfl rfl) ?_
    refine va rfl rfl rfl (q_assign (v := .bool z12.2) rfl (by kernel_rfl)) ?_
    refine WR.nil ?_
    change WC _ _ _ _ _ _
    refine WC.seq ?_
    refine WC.rs ?_
    refine va rfl rfl rfl (q_move (v := .bool z12.2) rfl (by kernel_rfl)) ?_
    refine va rfl rfl rfl (q_not rfl rfl) ?_
    refine WR.nil ?_
    change WC _ _ _ _ _ _
    refine WC.cif h (by kernel_rfl) (fun hb22 h => ?_) (fun hb22 h => ?_)
    · skip
      refine WC.rs ?_
      refine va rfl rfl rfl (q_assign (v := .slice none 0 0) rfl (by kernel_rfl)) ?_
      refine va rfl rfl rfl (q_assign (v := .int .i64 1) rfl (by kernel_rfl)) ?_
      refine WR.nil ?_
      change WC _ _ _ _ _ _
      refine WC.ret ?_
      intro w hw
      have hw := hw.pad
      obtain rfl := Option.some.inj h
      subst hF
      exact end_e (is := [0]) (by kernel_rfl) hw rfl ⟨none, 0, [], rfl, rfl, (Own.nil recT _ 51), (show I64 1 by decide), trivial⟩
    · skip
      refine WC.skip ?_
      change WC _ _ _ _ _ _
      refine WC.rs ?_
      refine va rfl rfl rfl (q_move (v := .slice A7 z1.1.length c8) rfl (by kernel_rfl)) ?_
      refine va rfl rfl rfl (q_assign (v := .slice A7 z1.1.length c8) rfl (by kernel_rfl)) ?_
      refine WR.nil ?_
      change WC _ _ _ _ _ _
      refine WC.seq ?_
      refine WC.rs ?_
      refine va rfl rfl rfl (q_assign (v := .int .i64 0) rfl (by kernel_rfl)) ?_
      refine WR.nil ?_
      change WC _ _ _ _ _ _
      refine WC.block ?_
      refine WC.forI h (fun (i36 : Nat) (s : (List Rec) × (List Rec)) σ w => match s with | (was_25, now_30) => ∃ (Γ23 : Gh), ∃ (A26 : Option Addr), ∃ (c27 : Nat), ∃ (A31 : Option Addr), ∃ (c32 : Nat), slots σ [(1, .slice Atheirs theirs.length ctheirs), (6, .slice A26 was_25.length c27), (8, .slice A31 now_30.length c32), (9, .int .i64 ((i36 : Nat) : Int))] ∧ CC F Γ23 [] w ∧ Gh.le Γ14 Γ23 ∧ was_25.length ≤ c27 ∧ Sl recT Γ23 A26 was_25 ∧ now_30.length ≤ c32 ∧ Sl recT Γ23 A31 now_30 ∧ True) ?_ ?_
      · skip
        intro w hw
        have hc41 := (hr10.mono hl15).capz
        obtain ⟨Γ37, hw, hl38, hr39⟩ := hw.seal (i := 1) rfl; have hs40 := (hr10.mono hl15).sl hl38 hr39
        exact ⟨Γ37, A7, c8, A7, c8, (sl_ (by kernel_rfl)), (hw.only (is := []) rfl), hl38, hc41, hs40, hc41, hs40, trivial⟩
      rintro f35 i36 ⟨was_25, now_30⟩ σ w hi42 hlt43 hge44 ⟨Γ23, A26, c27, A31, c32, hsl, hw, hl24, hc29, hs28, hc34, hs33, -⟩
      refine Wpt.slots hsl ?_
      refine WC.here (C := CC F Γ23 []) ?_ hw
      clear hw hsl
      refine WC.seq ?_
      refine WC.rs ?_
      refine va rfl rfl rfl (q_move (v := .int .i64 ((i36 : Nat) : Int)) rfl (by kernel_rfl)) ?_
      refine va rfl rfl rfl (q_move (v := .slice Atheirs theirs.length ctheirs) rfl (by kernel_rfl)) ?_
      refine va rfl rfl rfl (q_len_slice rfl Tryz.underlying22 rfl) ?_
      refine va rfl rfl rfl (q_lss rfl rfl rfl) ?_
      refine WR.nil ?_
      change WC _ _ _ _ _ _
      refine WC.cond (b := (decide (((i36 : Nat) : Int) < ((theirs.length : Nat) : Int)))) (by kernel_rfl) (fun hb45 => ?_) (fun hb45 => ?_)
      · skip
        have hl46 := ilt hb45
        have h := hlt43 hl46
        refine WC.skip ?_
        change WC _ _ _ _ _ _
        refine WC.cut (fun σ w => ∃ (now_49 : List Rec), ∃ (Γ47 : Gh), ∃ (A50 : Option Addr), ∃ (c51 : Nat), m_firthref14_Take_j5 was_25 f35 now_49 = some r ∧ slots σ [(1, .slice Atheirs theirs.length ctheirs), (6, .slice A26 was_25.length c27), (8, .slice A50 now_49.length c51), (9, .int .i64 ((i36 : Nat) : Int))] ∧ CC F Γ47 [] w ∧ Gh.le Γ23 Γ47 ∧ now_49.length ≤ c51 ∧ Sl recT Γ47 A50 now_49 ∧ True) ?_ ?_
        · skip
          refine WC.block ?_
          refine WC.seq ?_
          intro w hw; have h054 := hw.le
          refine WC.here (C := CC F Γ23 []) ?_ hw; clear hw
          refine WC.held (CC F Γ23 []) (by kernel_rfl) (fun w hw => hw.drawn _) ?_
          change WH _ _ _ _ (CC F Γ23 []) _ 18 #[false, false, false, false, false, false, false, false, false, false, false, false, false, false, false, false, false, false] _
          refine ht (i := 0) rfl (by kernel_rfl) rfl rfl rfl (fun w hw => hw.back (Gh.refl _) h054 .slnil) (q_move (v := .slice A31 now_30.length c32) rfl (by kernel_rfl)) ?_
          refine ht (i := 1) rfl (by kernel_rfl) rfl rfl rfl (fun w hw => hw.back (Gh.refl _) h054 .slnil) (q_move (v := .slice Atheirs theirs.length ctheirs) rfl (by kernel_rfl)) ?_
          refine ht (i := 2) rfl (by kernel_rfl) rfl rfl rfl (fun w hw => hw.back (Gh.refl _) h054 .slnil) (q_move (v := .int .i64 ((i36 : Nat) : Int)) rfl (by kernel_rfl)) ?_
          refine ht (i := 3) rfl (by kernel_rfl) rfl rfl rfl (fun w hw => hw.back (Gh.refl _) h054 .slnil) (q_ixn (i := i36) Tryz.underlying22 Tryz.sizeOf51 rfl rfl rfl hl46 ((htheirs.mono ((hl4.trans hl15).trans hl24)).some_ hl46)) ?_
          refine ht (i := 4) rfl (by kernel_rfl) rfl rfl rfl (fun w hw => hw.back (Gh.refl _) h054 .slnil) (q_field_addr (i36 * 2) fld_51_0 rfl rfl ((htheirs.mono ((hl4.trans hl15).trans hl24)).some_ hl46) rfl) ?_
          obtain ⟨A55, c56, hx57⟩ := (htheirs.mono ((hl4.trans hl15).trans hl24)).recT_at i36
          refine ht (i := 5) rfl (by kernel_rfl) rfl rfl rfl (fun w hw => hw.back (Gh.refl _) h054 .slnil) (q_ld (c := 0) (v := .string (gt theirs i36).key) (hx57 hl46).2 rfl Tryz.isAgg9 rfl rfl) ?_
          refine ht (i := 7) rfl (by kernel_rfl) rfl rfl rfl (fun w hw => hw.back (Gh.refl _) h054 .slnil) (q_move (v := .slice Atheirs theirs.length ctheirs) rfl (by kernel_rfl)) ?_
          refine ht (i := 8) rfl (by kernel_rfl) rfl rfl rfl (fun w hw => hw.back (Gh.refl _) h054 .slnil) (q_move (v := .int .i64 ((i36 : Nat) : Int)) rfl (by kernel_rfl)) ?_
          refine ht (i := 9) rfl (by kernel_rfl) rfl rfl rfl (fun w hw => hw.back (Gh.refl _) h054 .slnil) (q_ixn (i := i36) Tryz.underlying22 Tryz.sizeOf51 rfl rfl rfl hl46 ((htheirs.mono ((hl4.trans hl15).trans hl24)).some_ hl46)) ?_
          refine ht (i := 10) rfl (by kernel_rfl) rfl rfl rfl (fun w hw => hw.back (Gh.refl _) h054 .slnil) (q_field_addr (i36 * 2 + 1) fld_51_1 rfl rfl ((htheirs.mono ((hl4.trans hl15).trans hl24)).some_ hl46) rfl) ?_
          refine ht (i := 11) rfl (by kernel_rfl) rfl rfl rfl (fun w hw => hw.back (Gh.refl _) h054 .slnil) (q_ld (c := 1) (v := .slice A55 ((gt theirs i36).vers).length c56) (hx57 hl46).2 rfl Tryz.isAgg48 rfl rfl) ?_
          refine WH.lone (i := 6) (by kernel_rfl) rfl ?_
          obtain ⟨z58, hz59, h⟩ := bnd h
          refine e_call (is := []) rfl rfl (call_run Tryz.call26 rfl rfl (by kernel_rfl)) rfl (fun w hp => t_firthref14_Get hs33 hc34 ((gt theirs i36).key) (hx57 hl46).1.1 hp hz59) ?_
          rintro Γ60 U62 v63 hl61 ⟨A64, c65, rfl, rfl, hc67, hr66, _⟩
          change WR _ _ _ (CC F Γ60 []) _ _ (upd _ 42 (.slice A64 z58.length c65))
          refine WR.nil ?_
          refine WH.next (fun w hw => hw.back hl61 h054 .slnil) ?_
          refine WH.lone (i := 12) (by kernel_rfl) rfl ?_
          obtain ⟨z68, hz69, h⟩ := bnd h
          refine e_call (is := []) rfl rfl (call_run Tryz.call51 rfl rfl (by kernel_rfl)) rfl (fun w hp => t_firthref05_Merge hr66 hc67 ((hx57 hl46).1.2.2.mono hl61) (hx57 hl46).1.2.1 hp hz69) ?_
          rintro Γ70 U72 v73 hl71 ⟨A74, c75, rfl, rfl, hc77, hr76, hr78, _⟩
          change WR _ _ _ (CC F Γ70 []) _ _ (upd _ 48 (.tuple #[.slice A74 z68.1.length c75, .int .i64 z68.2]))
          refine WR.nil ?_
          refine WH.next (fun w hw => hw.back (hl61.trans hl71) h054 .slnil) ?_
          refine ht (i := 13) rfl (by kernel_rfl) rfl rfl rfl (fun w hw => hw.back (hl61.trans hl71) h054 .slnil) (q_move (v := .tuple #[.slice A74 z68.1.length c75, .int .i64 z68.2]) rfl (by kernel_rfl)) ?_
          refine ht (i := 14) rfl (by kernel_rfl) rfl rfl rfl (fun w hw => hw.back (hl61.trans hl71) h054 .slnil) (q_extract (v := .slice A74 z68.1.length c75) rfl rfl rfl) ?_
          refine ht (i := 15) rfl (by kernel_rfl) rfl rfl rfl (fun w hw => hw.back (hl61.trans hl71) h054 .slnil) (q_extract (v := .int .i64 z68.2) rfl rfl rfl) ?_
          refine ht (i := 16) rfl (by kernel_rfl) rfl rfl rfl (fun w hw => hw.back (hl61.trans hl71) h054 .slnil) (q_assign (v := .slice A74 z68.1.length c75) rfl (by kernel_rfl)) ?_
          refine ht (i := 17) rfl (by kernel_rfl) rfl rfl rfl (fun w hw => hw.back (hl61.trans hl71) h054 .slnil) (q_assign (v := .int .i64 z68.2) rfl (by kernel_rfl)) ?_
          refine WH.done (by kernel_rfl) ?_
          change WC _ _ _ _ _ _
          refine WC.rs ?_
          refine va rfl rfl rfl (q_move (v := .int .i64 z68.2) rfl (by kernel_rfl)) ?_
          refine va rfl rfl rfl (q_eql rfl rfl rfl) ?_
          refine WR.nil ?_
          change WC _ _ _ _ _ _
          refine WC.cif h (by kernel_rfl) (fun hb79 h => ?_) (fun hb79 h => ?_)
          · skip
            refine WC.region ?_
            refine va rfl rfl rfl (q_move (v := .slice A31 now_30.length c32) rfl (by kernel_rfl)) ?_
            refine va rfl rfl rfl (q_move (v := .slice Atheirs theirs.length ctheirs) rfl (by kernel_rfl)) ?_
            refine va rfl rfl rfl (q_move (v := .int .i64 ((i36 : Nat) : Int)) rfl (by kernel_rfl)) ?_
            refine va rfl rfl rfl (q_ixn (i := i36) Tryz.underlying22 Tryz.sizeOf51 rfl rfl rfl hl46 ((htheirs.mono ((((hl4.trans hl15).trans hl24).trans hl61).trans hl71)).some_ hl46)) ?_
            refine va rfl rfl rfl (q_field_addr (i36 * 2) fld_51_0 rfl rfl ((htheirs.mono ((((hl4.trans hl15).trans hl24).trans hl61).trans hl71)).some_ hl46) rfl) ?_
            refine va rfl rfl rfl (q_ld (c := 0) (v := .string (gt theirs i36).key) ((hx57 hl46).2.mono (hl61.trans hl71)) rfl Tryz.isAgg9 rfl rfl) ?_
            refine va rfl rfl rfl (q_move (v := .slice A74 z68.1.length c75) rfl (by kernel_rfl)) ?_
            refine va rfl rfl rfl (q_build' (v := .agg #[.string (gt theirs i36).key, .slice A74 z68.1.length c75]) rfl (bargs2 rfl rfl) (fun w => by kernel_rfl)) ?_
            obtain ⟨z80, hz81, h⟩ := bnd h
            refine e_call (is := []) rfl rfl (call_run Tryz.call33 rfl rfl (by kernel_rfl)) rfl (fun w hp => t_firthref10_With (hs33.mono (hl61.trans hl71)) hc34 (⟨(gt theirs i36).key, z68.1⟩ : Rec) ⟨(hx57 hl46).1.1, ⟨hc77, hr76⟩⟩ hp hz81) ?_
            rintro Γ82 U84 v85 hl83 ⟨A86, c87, row88, rfl, rfl, hr89, _⟩
            change WR _ _ _ (CC F Γ82 [row88]) _ _ (upd _ 61 (.slice A86 z80.length c87))
            refine va rfl rfl rfl (q_assign (v := .slice A86 z80.length c87) rfl (by kernel_rfl)) ?_
            refine WR.nil ?_
            intro w hw
            have hc94 := hr89.capz
            obtain ⟨Γ90, hw, hl91, hr92⟩ := hw.seal (i := 0) rfl; have hs93 := hr89.sl hl91 hr92
            exact ⟨z80, Γ90, A86, c87, h, (sl_ (by kernel_rfl)), (hw.only (is := []) rfl), (((hl61.trans hl71).trans hl83).trans hl91), hc94, hs93, trivial⟩
          · skip
            refine WC.skip ?_
            intro w hw
            exact ⟨now_30, Γ70, A31, c32, h, (sl_ (by kernel_rfl)), hw, (hl61.trans hl71), hc34, (hs33.mono (hl61.trans hl71)), trivial⟩
        · skip
          rintro σ w ⟨now_49, Γ47, A50, c51, h, hsl, hw, hl48, hc53, hs52, -⟩
          refine Wpt.slots hsl ?_
          refine WC.here (C := CC F Γ47 []) ?_ hw
          clear hw hsl
          refine WC.region ?_
          refine va rfl rfl rfl (q_move (v := .int .i64 ((i36 : Nat) : Int)) rfl (by kernel_rfl)) ?_
          refine va rfl rfl rfl (q_add_r (r := ((i36 + 1 : Nat) : Int)) rfl rfl rfl (ctr_len hl46 (htheirs.mono ((hl4.trans hl15).trans hl24)).le)) ?_
          refine va rfl rfl rfl (q_assign (v := .int .i64 ((i36 + 1 : Nat) : Int)) rfl (by kernel_rfl)) ?_
          refine WR.nil ?_
          intro w hw
          exact ⟨hl46, (was_25, now_49), h, Γ47, A26, c27, A50, c51, (sl_ (by kernel_rfl)), hw, (hl24.trans hl48), hc29, (hs28.mono hl48), hc53, hs52, trivial⟩
      · skip
        have h := hge44 (ige hb45)
        refine WC.exit ?_
        change WC _ _ _ _ _ _
        refine WC.rs ?_
        refine va rfl rfl rfl (q_assign (v := .slice none 0 0) rfl (by kernel_rfl)) ?_
        refine WR.nil ?_
        change WC _ _ _ _ _ _
        refine WC.seq ?_
        refine WC.rs ?_
        refine va rfl rfl rfl (q_assign (v := .int .i64 0) rfl (by kernel_rfl)) ?_
        refine WR.nil ?_
        change WC _ _ _ _ _ _
        refine WC.block ?_
        refine WC.forI h (fun (i103 : Nat) (out_97 : List Rec) σ w => ∃ (Γ95 : Gh), ∃ (A98 : Option Addr), ∃ (c99 : Nat), ∃ (row100 : Rowb), slots σ [(6, .slice A26 was_25.length c27), (8, .slice A31 now_30.length c32), (12, .slice A98 out_97.length c99), (13, .int .i64 ((i103 : Nat) : Int))] ∧ CC F Γ95 [row100] w ∧ Gh.le Γ23 Γ95 ∧ Own recT Γ95 51 row100 A98 c99 out_97 ∧ True) ?_ ?_
        · skip
          intro w hw
          have hw := hw.pad
          exact ⟨Γ23, none, 0, [], (sl_ (by kernel_rfl)), hw, (Gh.refl _), (Own.nil recT _ 51), trivial⟩
        rintro f102 i103 out_97 σ w hi104 hlt105 hge106 ⟨Γ95, A98, c99, row100, hsl, hw, hl96, ho101, -⟩
        refine Wpt.slots hsl ?_
        refine WC.here (C := CC F Γ95 [row100]) ?_ hw
        clear hw hsl
        refine WC.seq ?_
        refine WC.rs ?_
        refine va rfl rfl rfl (q_move (v := .int .i64 ((i103 : Nat) : Int)) rfl (by kernel_rfl)) ?_
        refine va rfl rfl rfl (q_move (v := .slice A31 now_30.length c32) rfl (by kernel_rfl)) ?_
        refine va rfl rfl rfl (q_len_slice rfl Tryz.underlying22 rfl) ?_
        refine va rfl rfl rfl (q_lss rfl rfl rfl) ?_
        refine WR.nil ?_
        change WC _ _ _ _ _ _
        refine WC.cond (b := (decide (((i103 : Nat) : Int) < ((now_30.length : Nat) : Int)))) (by kernel_rfl) (fun hb107 => ?_) (fun hb107 => ?_)
        · skip
          have hl108 := ilt hb107
          have h := hlt105 hl108
          refine WC.skip ?_
          change WC _ _ _ _ _ _
          refine WC.cut (fun σ w => ∃ (out_111 : List Rec), ∃ (Γ109 : Gh), ∃ (A112 : Option Addr), ∃ (c113 : Nat), ∃ (row114 : Rowb), m_firthref14_Take_j10 f102 out_111 = some r ∧ slots σ [(6, .slice A26 was_25.length c27), (8, .slice A31 now_30.length c32), (12, .slice A112 out_111.length c113), (13, .int .i64 ((i103 : Nat) : Int))] ∧ CC F Γ109 [row114] w ∧ Gh.le Γ95 Γ109 ∧ Own recT Γ109 51 row114 A112 c113 out_111 ∧ True) ?_ ?_
          · skip
            refine WC.block ?_
            refine WC.seq ?_
            intro w hw; have h0116 := hw.le
            refine WC.here (C := CC F Γ95 [row100]) ?_ hw; clear hw
            refine WC.held (CC F Γ95 [row100]) (by kernel_rfl) (fun w hw => hw.drawn _) ?_
            change WH _ _ _ _ (CC F Γ95 [row100]) _ 14 #[false, false, false, false, false, false, false, false, false, false, false, false, false, false] _
            refine ht (i := 0) rfl (by kernel_rfl) rfl rfl rfl (fun w hw => hw.back (Gh.refl _) h0116 (.cons_cons _ .slnil)) (q_move (v := .slice A31 now_30.length c32) rfl (by kernel_rfl)) ?_
            refine ht (i := 1) rfl (by kernel_rfl) rfl rfl rfl (fun w hw => hw.back (Gh.refl _) h0116 (.cons_cons _ .slnil)) (q_move (v := .int .i64 ((i103 : Nat) : Int)) rfl (by kernel_rfl)) ?_
            refine ht (i := 2) rfl (by kernel_rfl) rfl rfl rfl (fun w hw => hw.back (Gh.refl _) h0116 (.cons_cons _ .slnil)) (q_ixn (i := i103) Tryz.underlying22 Tryz.sizeOf51 rfl rfl rfl hl108 ((hs33.mono hl96).some_ hl108)) ?_
            refine ht (i := 3) rfl (by kernel_rfl) rfl rfl rfl (fun w hw => hw.back (Gh.refl _) h0116 (.cons_cons _ .slnil)) (q_field_addr (i103 * 2 + 1) fld_51_1 rfl rfl ((hs33.mono hl96).some_ hl108) rfl) ?_
            obtain ⟨A117, c118, hx119⟩ := (hs33.mono hl96).recT_at i103
            refine ht (i := 4) rfl (by kernel_rfl) rfl rfl rfl (fun w hw => hw.back (Gh.refl _) h0116 (.cons_cons _ .slnil)) (q_ld (c := 1) (v := .slice A117 ((gt now_30 i103).vers).length c118) (hx119 hl108).2 rfl Tryz.isAgg48 rfl rfl) ?_
            refine ht (i := 5) rfl (by kernel_rfl) rfl rfl rfl (fun w hw => hw.back (Gh.refl _) h0116 (.cons_cons _ .slnil)) (q_move (v := .slice A26 was_25.length c27) rfl (by kernel_rfl)) ?_
            refine ht (i := 6) rfl (by kernel_rfl) rfl rfl rfl (fun w hw => hw.back (Gh.refl _) h0116 (.cons_cons _ .slnil)) (q_move (v := .slice A31 now_30.length c32) rfl (by kernel_rfl)) ?_
            refine ht (i := 7) rfl (by kernel_rfl) rfl rfl rfl (fun w hw => hw.back (Gh.refl _) h0116 (.cons_cons _ .slnil)) (q_move (v := .int .i64 ((i103 : Nat) : Int)) rfl (by kernel_rfl)) ?_
            refine ht (i := 8) rfl (by kernel_rfl) rfl rfl rfl (fun w hw => hw.back (Gh.refl _) h0116 (.cons_cons _ .slnil)) (q_ixn (i := i103) Tryz.underlying22 Tryz.sizeOf51 rfl rfl rfl hl108 ((hs33.mono hl96).some_ hl108)) ?_
            refine ht (i := 9) rfl (by kernel_rfl) rfl rfl rfl (fun w hw => hw.back (Gh.refl _) h0116 (.cons_cons _ .slnil)) (q_field_addr (i103 * 2) fld_51_0 rfl rfl ((hs33.mono hl96).some_ hl108) rfl) ?_
            refine ht (i := 10) rfl (by kernel_rfl) rfl rfl rfl (fun w hw => hw.back (Gh.refl _) h0116 (.cons_cons _ .slnil)) (q_ld (c := 0) (v := .string (gt now_30 i103).key) (hx119 hl108).2 rfl Tryz.isAgg9 rfl rfl) ?_
            refine WH.lone (i := 11) (by kernel_rfl) rfl ?_
            obtain ⟨z120, hz121, h⟩ := bnd h
            refine e_call (is := []) rfl rfl (call_run Tryz.call26 rfl rfl (by kernel_rfl)) rfl (fun w hp => t_firthref14_Get (hs28.mono hl96) hc29 ((gt now_30 i103).key) (hx119 hl108).1.1 hp hz121) ?_
            rintro Γ122 U124 v125 hl123 ⟨A126, c127, rfl, rfl, hc129, hr128, _⟩
            change WR _ _ _ (CC F Γ122 [row100]) _ _ (upd _ 79 (.slice A126 z120.length c127))
            refine WR.nil ?_
            refine WH.next (fun w hw => hw.back hl123 h0116 (.cons_cons _ .slnil)) ?_
            refine WH.lone (i := 12) (by kernel_rfl) rfl ?_
            obtain ⟨z130, hz131, h⟩ := bnd h
            refine vc rfl rfl rfl (q_call (call_run Tryz.call46 rfl rfl (by kernel_rfl)) (fun w hw => t_firthref05_Same (Γ := Gh.all w) (((hx119 hl108).1.2.2.mono hl123).mono hw.sat.le_all) (hx119 hl108).1.2.1 (hr128.mono hw.sat.le_all) hc129 (Sat.all w) hz131)) ?_
            refine WR.nil ?_
            refine WH.next (fun w hw => hw.back hl123 h0116 (.cons_cons _ .slnil)) ?_
            refine ht (i := 13) rfl (by kernel_rfl) rfl rfl rfl (fun w hw => hw.back hl123 h0116 (.cons_cons _ .slnil)) (q_not rfl rfl) ?_
            refine WH.done (by kernel_rfl) ?_
            change WC _ _ _ _ _ _
            refine WC.cif h (by kernel_rfl) (fun hb132 h => ?_) (fun hb132 h => ?_)
            · skip
              refine WC.region ?_
              refine va rfl rfl rfl (q_move (v := .slice A98 out_97.length c99) rfl (by kernel_rfl)) ?_
              refine va rfl rfl rfl (q_move (v := .slice A31 now_30.length c32) rfl (by kernel_rfl)) ?_
              refine va rfl rfl rfl (q_move (v := .int .i64 ((i103 : Nat) : Int)) rfl (by kernel_rfl)) ?_
              refine va rfl rfl rfl (q_ixn (i := i103) Tryz.underlying22 Tryz.sizeOf51 rfl rfl rfl hl108 ((hs33.mono (hl96.trans hl123)).some_ hl108)) ?_
              refine va rfl rfl rfl (q_lda (c := 0) (vs := [.string (gt now_30 i103).key, .slice A117 ((gt now_30 i103).vers).length c118]) ((hx119 hl108).2.mono hl123) rfl Tryz.isAgg51 Tryz.sizeOf51 rfl rfl rfl) ?_
              refine e_buildSlice (cs := #[.string (gt now_30 i103).key, .slice A117 ((gt now_30 i103).vers).length c118]) (e := 51) rfl rfl rfl rfl (fun w => by kernel_rfl) ?_
              intro g133
              obtain ⟨hk134, h⟩ := chk_some h
              refine e_append (T := recT) (xs := out_97) (ys := [(gt now_30 i103)]) elem_22 (i := 1) rfl rfl rfl rfl rfl rfl rfl (ho101.mono hl123) (of_decide_eq_true hk134) (fun w hw => src_one (T := recT) (y := (gt now_30 i103)) (i := 0) rfl (by exact ⟨A117, c118, rfl, (Rec.fits_mono (hx119 hl108).1 hl123)⟩) hw) ?_
              intro row135 A136 c137 ho138
              refine va rfl rfl rfl (q_assign (v := .slice A136 (out_97 ++ [(gt now_30 i103)]).length c137) rfl (by kernel_rfl)) ?_
              refine WR.nil ?_
              intro w hw
              exact ⟨(out_97 ++ [(gt now_30 i103)]), Γ122, A136, c137, row135, h, (sl_ (by kernel_rfl)), (hw.only (is := [1]) rfl), hl123, ho138, trivial⟩
            · skip
              refine WC.skip ?_
              intro w hw
              exact ⟨out_97, Γ122, A98, c99, row100, h, (sl_ (by kernel_rfl)), hw, hl123, (ho101.mono hl123), trivial⟩
          · skip
            rintro σ w ⟨out_111, Γ109, A112, c113, row114, h, hsl, hw, hl110, ho115, -⟩
            refine Wpt.slots hsl ?_
            refine WC.here (C := CC F Γ109 [row114]) ?_ hw
            clear hw hsl
            refine WC.region ?_
            refine va rfl rfl rfl (q_move (v := .int .i64 ((i103 : Nat) : Int)) rfl (by kernel_rfl)) ?_
            refine va rfl rfl rfl (q_add_r (r := ((i103 + 1 : Nat) : Int)) rfl rfl rfl (ctr_len hl108 (hs33.mono hl96).le)) ?_
            refine va rfl rfl rfl (q_assign (v := .int .i64 ((i103 + 1 : Nat) : Int)) rfl (by kernel_rfl)) ?_
            refine WR.nil ?_
            intro w hw
            exact ⟨hl108, out_111, h, Γ109, A112, c113, row114, (sl_ (by kernel_rfl)), hw, (hl96.trans hl110), ho115, trivial⟩
        · skip
          have h := hge106 (ige hb107)
          refine WC.exit ?_
          change WC _ _ _ _ _ _
          refine WC.rs ?_
          refine va rfl rfl rfl (q_move (v := .slice A98 out_97.length c99) rfl (by kernel_rfl)) ?_
          refine va rfl rfl rfl (q_assign (v := .slice A98 out_97.length c99) rfl (by kernel_rfl)) ?_
          refine va rfl rfl rfl (q_assign (v := .int .i64 0) rfl (by kernel_rfl)) ?_
          refine WR.nil ?_
          change WC _ _ _ _ _ _
          refine WC.ret ?_
          intro w hw
          obtain rfl := Option.some.inj h
          subst hF
          exact end_e (is := [0]) (by kernel_rfl) hw rfl ⟨A98, c99, row100, rfl, rfl, ho101, (show I64 0 by decide), trivial⟩
set_option maxRecDepth 100000 in
set_option maxHeartbeats 400000 in
theorem t_firthlaw14_MendKeeps {Γ : Gh} {w0 : World} {Aown : Option Addr} {cown : Nat} {own : List Rec} (hown : Sl recT Γ Aown own) (hownc : own.length ≤ cown) {Atheirs : Option Addr} {ctheirs : Nat} {theirs : List Rec} (htheirs : Sl recT Γ Atheirs theirs) (htheirsc : theirs.length ≤ ctheirs) (hs : Sat Γ w0) {r : Bool} (h : m_firthlaw14_MendKeeps own theirs = some r) : Calls Tryz.prog 8 #[.slice Aown own.length cown, .slice Atheirs theirs.length ctheirs] w0 (fun e w' => e = .returned (.bool r) ∧ Fr no w0 w') := by
  refine calls_of (N := 118) (rs := [4]) (args := [.slice Aown own.length cown, .slice Atheirs theirs.length ctheirs]) Tryz.func8 rfl Tryz.ntmps8 Tryz.results8 rfl ?_
  obtain ⟨F, hF⟩ : ∃ F : Fm, F = ⟨no, w0, Γ⟩ := ⟨_, rfl⟩
  refine WC.here (C := CC F Γ []) ?_ (hF ▸ Cur.start0 hs)
  refine WC.rs ?_
  refine va rfl rfl rfl (q_assign (v := .bool false) rfl (by kernel_rfl)) ?_
  refine WR.nil ?_
  change WC _ _ _ _ _ _
  refine WC.seq ?_
  refine WC.rs ?_
  obtain ⟨z1, hz2, h⟩ := bnd h
  refine vc rfl rfl rfl (q_call (call_run Tryz.call9 rfl rfl (by kernel_rfl)) (fun w hw => t_firthlaw14_awake (Γ := Gh.all w)  (Sat.all w) hz2)) ?_
  refine va rfl rfl rfl (q_not rfl rfl) ?_
  refine WR.nil ?_
  change WC _ _ _ _ _ _
  refine WC.cif h (by kernel_rfl) (fun hb3 h => ?_) (fun hb3 h => ?_)
  · skip
    refine WC.rs ?_
    refine va rfl rfl rfl (q_assign (v := .bool false) rfl (by kernel_rfl)) ?_
    refine WR.nil ?_
    change WC _ _ _ _ _ _
    refine WC.ret ?_
    intro w hw
    obtain rfl := Option.some.inj h
    subst hF
    exact ⟨by kernel_rfl, hw.fr⟩
  · skip
    refine WC.skip ?_
    change WC _ _ _ _ _ _
    refine WC.rs ?_
    refine va rfl rfl rfl (q_assign (v := .slice none 0 0) rfl (by kernel_rfl)) ?_
    refine WR.nil ?_
    change WC _ _ _ _ _ _
    refine WC.seq ?_
    refine WC.rs ?_
    refine va rfl rfl rfl (q_assign (v := .int .i64 0) rfl (by kernel_rfl)) ?_
    refine WR.nil ?_
    change WC _ _ _ _ _ _
    refine WC.block ?_
    refine WC.forI h (fun (i12 : Nat) (mine_6 : List Rec) σ w => ∃ (Γ4 : Gh), ∃ (A7 : Option Addr), ∃ (c8 : Nat), ∃ (row9 : Rowb), slots σ [(0, .slice Aown own.length cown), (1, .slice Atheirs theirs.length ctheirs), (5, .slice A7 mine_6.length c8), (6, .int .i64 ((i12 : Nat) : Int))] ∧ CC F Γ4 [row9] w ∧ Gh.le Γ Γ4 ∧ Own recT Γ4 51 row9 A7 c8 mine_6 ∧ True) ?_ ?_
    · skip
      intro w hw
      have hw := hw.pad
      exact ⟨Γ, none, 0, [], (sl_ (by kernel_rfl)), hw, (Gh.refl _), (Own.nil recT _ 51), trivial⟩
    rintro f11 i12 mine_6 σ w hi13 hlt14 hge15 ⟨Γ4, A7, c8, row9, hsl, hw, hl5, ho10, -⟩
    refine Wpt.slots hsl ?_
    refine WC.here (C := CC F Γ4 [row9]) ?_ hw
    clear hw hsl
    refine WC.seq ?_
    refine WC.rs ?_
    refine va rfl rfl rfl (q_move (v := .int .i64 ((i12 : Nat) : Int)) rfl (by kernel_rfl)) ?_
    refine va rfl rfl rfl (q_move (v := .slice Aown own.length cown) rfl (by kernel_rfl)) ?_
    refine va rfl rfl rfl (q_len_slice rfl Tryz.underlying22 rfl) ?_
    refine va rfl rfl rfl (q_lss rfl rfl rfl) ?_
    refine WR.nil ?_
    change WC _ _ _ _ _ _
    refine WC.cond (b := (decide (((i12 : Nat) : Int) < ((own.length : Nat) : Int)))) (by kernel_rfl) (fun hb16 => ?_) (fun hb16 => ?_)
    · skip
      have hl17 := ilt hb16
      have h := hlt14 hl17
      refine WC.skip ?_
      change WC _ _ _ _ _ _
      refine WC.seq ?_
      refine WC.block ?_
      refine WC.region ?_
      refine va rfl rfl rfl (q_move (v := .slice A7 mine_6.length c8) rfl (by kernel_rfl)) ?_
      refine va rfl rfl rfl (q_move (v := .slice Aown own.length cown) rfl (by kernel_rfl)) ?_
      refine va rfl rfl rfl (q_move (v := .int .i64 ((i12 : Nat) : Int)) rfl (by kernel_rfl)) ?_
      refine va rfl rfl rfl (q_ixn (i := i12) Tryz.underlying22 Tryz.sizeOf51 rfl rfl rfl hl17 ((hown.mono hl5).some_ hl17)) ?_
      obtain ⟨A18, c19, hx20⟩ := (hown.mono hl5).recT_at i12
      refine va rfl rfl rfl (q_lda (c := 0) (vs := [.string (gt own i12).key, .slice A18 ((gt own i12).vers).length c19]) (hx20 hl17).2 rfl Tryz.isAgg51 Tryz.sizeOf51 rfl rfl rfl) ?_
      obtain ⟨z21, hz22, h⟩ := bnd h
      refine e_call (is := []) rfl rfl (call_run Tryz.call28 rfl rfl (by kernel_rfl)) rfl (fun w hp => t_firthref10_Own (gt own i12) (hx20 hl17).1 hp hz22) ?_
      rintro Γ23 U25 v26 hl24 ⟨A27, c28, rfl, rfl, hr29, _⟩
      change WR _ _ _ (CC F Γ23 [row9]) _ _ (upd _ 29 (.agg #[.string z21.key, .slice A27 z21.vers.length c28]))
      refine e_buildSlice (cs := #[.string z21.key, .slice A27 z21.vers.length c28]) (e := 51) rfl rfl rfl rfl (fun w => by kernel_rfl) ?_
      intro g30
      obtain ⟨hk31, h⟩ := chk_some h
      refine e_append (T := recT) (xs := mine_6) (ys := [z21]) elem_22 (i := 1) rfl rfl rfl rfl rfl rfl rfl (ho10.mono hl24) (of_decide_eq_true hk31) (fun w hw => src_one (T := recT) (y := z21) (i := 0) rfl (by exact ⟨A27, c28, rfl, hr29⟩) hw) ?_
      intro row32 A33 c34 ho35
      refine va rfl rfl rfl (q_assign (v := .slice A33 (mine_6 ++ [z21]).length c34) rfl (by kernel_rfl)) ?_
      refine WR.nil ?_
      change WC _ _ _ _ _ _
      refine WC.region ?_
      refine va rfl rfl rfl (q_move (v := .int .i64 ((i12 : Nat) : Int)) rfl (by kernel_rfl)) ?_
      refine va rfl rfl rfl (q_add_r (r := ((i12 + 1 : Nat) : Int)) rfl rfl rfl (ctr_len hl17 (hown.mono hl5).le)) ?_
      refine va rfl rfl rfl (q_assign (v := .int .i64 ((i12 + 1 : Nat) : Int)) rfl (by kernel_rfl)) ?_
      refine WR.nil ?_
      intro w hw
      exact ⟨hl17, (mine_6 ++ [z21]), h, Γ23, A33, c34, row32, (sl_ (by kernel_rfl)), (hw.only (is := [1]) rfl), (hl5.trans hl24), ho35, trivial⟩
    · skip
      have h := hge15 (ige hb16)
      refine WC.exit ?_
      change WC _ _ _ _ _ _
      refine WC.rs ?_
      refine va rfl rfl rfl (q_move (v := .slice A7 mine_6.length c8) rfl (by kernel_rfl)) ?_
      refine va rfl rfl rfl (q_move (v := .slice Atheirs theirs.length ctheirs) rfl (by kernel_rfl)) ?_
      obtain ⟨z36, hz37, h⟩ := bnd h
      refine e_callF (is := []) (Lent.nil F) rfl rfl (call_run Tryz.call23 rfl rfl (by kernel_rfl)) rfl (fun w Θ hp hpB hle hleB hR => t_mend_Take_x (own_lent ho10 hR (List.mem_of_getElem? (i := 0) rfl) hle) ho10.capz ((htheirs.mono hl5).mono hle) htheirsc hp hpB hz37) ?_
      rintro J38 U40 v41 hn39 ⟨A42, c43, row44, rfl, rfl, hr45, hr46, _⟩
      refine WR.join2 fun hn47 => ?_
      have hr48 := hr45.sl (ghr_left hn47) (ghr_right hn47)
      have hc49 := hr45.capz
      change WR _ _ _ (CC F Γ4 [(J38 ++ row44), row9]) _ _ (upd _ 35 (.tuple #[.slice A42 z36.1.length c43, .int .i64 z36.2]))
      refine va rfl rfl rfl (q_move (v := .tuple #[.slice A42 z36.1.length c43, .int .i64 z36.2]) rfl (by kernel_rfl)) ?_
      refine va rfl rfl rfl (q_extract (v := .slice A42 z36.1.length c43) rfl rfl rfl) ?_
      refine va rfl rfl rfl (q_extract (v := .int .i64 z36.2) rfl rfl rfl) ?_
      refine va rfl rfl rfl (q_assign (v := .slice A42 z36.1.length c43) rfl (by kernel_rfl)) ?_
      refine va rfl rfl rfl (q_assign (v := .int .i64 z36.2) rfl (by kernel_rfl)) ?_
      refine WR.nil ?_
      change WC _ _ _ _ _ _
      refine WC.seq ?_
      refine WC.rs ?_
      refine va rfl rfl rfl (q_assign (v := .int .i64 0) rfl (by kernel_rfl)) ?_
      refine WR.nil ?_
      change WC _ _ _ _ _ _
      refine WC.block ?_
      refine WC.loopJ (z36.1.length) (fun (i50 : Nat) σ w => ∃ (J51 : Rowb) (ys53 : List Rec), (J51.map (·.1)).Nodup ∧ Sl recT (ghr J51) A42 ys53 ∧ shL Rec.sh ys53 = shL Rec.sh z36.1 ∧ slots σ [(0, .slice Aown own.length cown), (1, .slice Atheirs theirs.length ctheirs), (5, .slice A7 mine_6.length c8), (7, .slice A42 z36.1.length c43), (8, .int .i64 z36.2), (9, .int .i64 ((i50 : Nat) : Int))] ∧ CC F Γ4 [J51, row9] w) ?_ ?_
      · skip
        intro w hw; exact ⟨(J38 ++ row44), z36.1, hn47, hr48, rfl, (sl_ (by kernel_rfl)), hw⟩
      rintro i50 σ w ⟨J51, ys53, hn52, hj54, hs55, hsl, hw⟩
      have hq56 := shL_eq_len hs55
      refine Wpt.slots hsl ?_
      refine WC.here (C := CC F Γ4 [J51, row9]) ?_ hw
      clear hw hsl
      refine WC.seq ?_
      refine WC.rs ?_
      refine va rfl rfl rfl (q_move (v := .int .i64 ((i50 : Nat) : Int)) rfl (by kernel_rfl)) ?_
      refine va rfl rfl rfl (q_move (v := .slice A42 z36.1.length c43) rfl (by kernel_rfl)) ?_
      refine va rfl rfl rfl (q_len_slice rfl Tryz.underlying22 rfl) ?_
      refine va rfl rfl rfl (q_lss rfl rfl rfl) ?_
      refine WR.nil ?_
      change WC _ _ _ _ _ _
      refine WC.cond (b := (decide (((i50 : Nat) : Int) < ((z36.1.length : Nat) : Int)))) (by kernel_rfl) (fun hb57 => ?_) (fun hb57 => ?_)
      · skip
        have hl58 := ilt hb57
        have hq59 := jlt hs55 (ltq hl58 hq56.symm)
        refine WC.skip ?_
        change WC _ _ _ _ _ _
        refine WC.seq ?_
        refine WC.block ?_
        refine WC.rs ?_
        refine va rfl rfl rfl (q_assign (v := .int .i64 0) rfl (by kernel_rfl)) ?_
        refine WR.nil ?_
        change WC _ _ _ _ _ _
        refine WC.block ?_
        refine WC.loopJ (((gt ys53 i50).vers).length) (fun (i60 : Nat) σ w => ∃ (J61 : Rowb) (ys63 : List Rec), (J61.map (·.1)).Nodup ∧ Sl recT (ghr J61) A42 ys63 ∧ shL Rec.sh ys63 = shL Rec.sh z36.1 ∧ slots σ [(0, .slice Aown own.length cown), (1, .slice Atheirs theirs.length ctheirs), (5, .slice A7 mine_6.length c8), (7, .slice A42 z36.1.length c43), (8, .int .i64 z36.2), (9, .int .i64 ((i50 : Nat) : Int)), (10, .int .i64 ((i60 : Nat) : Int))] ∧ CC F Γ4 [J61, row9] w) ?_ ?_
        · skip
          intro w hw; exact ⟨J51, ys53, hn52, hj54, hs55, (sl_ (by kernel_rfl)), hw⟩
        rintro i60 σ w ⟨J61, ys63, hn62, hj64, hs65, hsl, hw⟩
        have hq66 := shL_eq_len hs65
        refine Wpt.slots hsl ?_
        refine WC.here (C := CC F Γ4 [J61, row9]) ?_ hw
        clear hw hsl
        refine WC.seq ?_
        refine WC.rs ?_
        refine va rfl rfl rfl (q_move (v := .int .i64 ((i60 : Nat) : Int)) rfl (by kernel_rfl)) ?_
        refine va rfl rfl rfl (q_move (v := .slice A42 z36.1.length c43) rfl (by kernel_rfl)) ?_
        refine va rfl rfl rfl (q_move (v := .int .i64 ((i50 : Nat) : Int)) rfl (by kernel_rfl)) ?_
        refine va rfl rfl rfl (q_ixn (i := i50) Tryz.underlying22 Tryz.sizeOf51 rfl rfl rfl hl58 (hj64.some_ (ltq hl58 hq66.symm))) ?_
        refine va rfl rfl rfl (q_field_addr (i50 * 2 + 1) fld_51_1 rfl rfl (hj64.some_ (ltq hl58 hq66.symm)) rfl) ?_
        obtain ⟨A67, c68, hx69⟩ := hj64.recT_at i50
        refine va rfl rfl rfl (q_ldS (c := 1) (v := .slice A67 ((gt ys63 i50).vers).length c68) (satJ (i := 0) rfl hn62) (hx69 (ltq hl58 hq66.symm)).2 rfl Tryz.isAgg48 rfl rfl) ?_
        refine va rfl rfl rfl (q_len_slice rfl Tryz.underlying48 rfl) ?_
        refine va rfl rfl rfl (q_lss rfl rfl rfl) ?_
        refine WR.nil ?_
        change WC _ _ _ _ _ _
        refine WC.cond (b := (decide (((i60 : Nat) : Int) < ((((gt ys63 i50).vers).length : Nat) : Int)))) (by kernel_rfl) (fun hb70 => ?_) (fun hb70 => ?_)
        · skip
          have hl71 := ilt hb70
          have hq72 := jlt (shL_kid hs65 hq59) hl71
          refine WC.skip ?_
          change WC _ _ _ _ _ _
          refine WC.seq ?_
          refine WC.block ?_
          refine WC.rs ?_
          refine va rfl rfl rfl (q_move (v := .slice A42 z36.1.length c43) rfl (by kernel_rfl)) ?_
          refine va rfl rfl rfl (q_move (v := .int .i64 ((i50 : Nat) : Int)) rfl (by kernel_rfl)) ?_
          refine va rfl rfl rfl (q_ixn (i := i50) Tryz.underlying22 Tryz.sizeOf51 rfl rfl rfl hl58 (hj64.some_ (ltq hl58 hq66.symm))) ?_
          refine va rfl rfl rfl (q_field_addr (i50 * 2 + 1) fld_51_1 rfl rfl (hj64.some_ (ltq hl58 hq66.symm)) rfl) ?_
          refine va rfl rfl rfl (q_ldS (c := 1) (v := .slice A67 ((gt ys63 i50).vers).length c68) (satJ (i := 0) rfl hn62) (hx69 (ltq hl58 hq66.symm)).2 rfl Tryz.isAgg48 rfl rfl) ?_
          refine va rfl rfl rfl (q_move (v := .int .i64 ((i60 : Nat) : Int)) rfl (by kernel_rfl)) ?_
          refine va rfl rfl rfl (q_ixn (i := i60) Tryz.underlying48 Tryz.sizeOf57 rfl rfl rfl hl71 ((hx69 (ltq hl58 hq66.symm)).1.2.2.some_ hl71)) ?_
          refine va rfl rfl rfl (q_field_addr (i60 * 5 + 4) fld_57_3 rfl rfl ((hx69 (ltq hl58 hq66.symm)).1.2.2.some_ hl71) rfl) ?_
          obtain ⟨A73, c74, hx75⟩ := (hx69 (ltq hl58 hq66.symm)).1.2.2.verT_at i60
          refine e_store_J (c := 4) (u := .string (gt ((gt ys63 i50).vers) i60).val) (v := .string (⟨#[115, 112, 111, 105, 108, 116]⟩ : ByteArray)) rfl rfl rfl rfl (by kernel_rfl) Tryz.sizeOf9 rfl rfl (hx75 hl71).2 rfl (.str _ _ (show (⟨#[115, 112, 111, 105, 108, 116]⟩ : ByteArray).size ≤ lim by decide)) (i := 0) rfl hn62 ?_
          intro J76 hn77 hl78
          obtain ⟨ys79, hj80, hs81⟩ := hj64.like like_Rec hl78
          have hs81 := hs81.trans hs65
          have hq82 := shL_eq_len hs81
          have hlt83 := jtl (shL_kid hs81 hq59) hq72
          refine WR.nil ?_
          change WC _ _ _ _ _ _
          refine WC.rs ?_
          refine va rfl rfl rfl (q_assign (v := .int .i64 0) rfl (by kernel_rfl)) ?_
          refine WR.nil ?_
          change WC _ _ _ _ _ _
          refine WC.block ?_
          refine WC.loopJ (((gt ((gt ys79 i50).vers) i60).past).length) (fun (i84 : Nat) σ w => ∃ (J85 : Rowb) (ys87 : List Rec), (J85.map (·.1)).Nodup ∧ Sl recT (ghr J85) A42 ys87 ∧ shL Rec.sh ys87 = shL Rec.sh z36.1 ∧ slots σ [(0, .slice Aown own.length cown), (1, .slice Atheirs theirs.length ctheirs), (5, .slice A7 mine_6.length c8), (7, .slice A42 z36.1.length c43), (8, .int .i64 z36.2), (9, .int .i64 ((i50 : Nat) : Int)), (10, .int .i64 ((i60 : Nat) : Int)), (11, .int .i64 ((i84 : Nat) : Int))] ∧ CC F Γ4 [J85, row9] w) ?_ ?_
          · skip
            intro w hw; exact ⟨J76, ys79, hn77, hj80, hs81, (sl_ (by kernel_rfl)), hw⟩
          rintro i84 σ w ⟨J85, ys87, hn86, hj88, hs89, hsl, hw⟩
          have hq90 := shL_eq_len hs89
          refine Wpt.slots hsl ?_
          refine WC.here (C := CC F Γ4 [J85, row9]) ?_ hw
          clear hw hsl
          have hlt91 := jtl (shL_kid hs89 hq59) hq72
          refine WC.seq ?_
          refine WC.rs ?_
          refine va rfl rfl rfl (q_move (v := .int .i64 ((i84 : Nat) : Int)) rfl (by kernel_rfl)) ?_
          refine va rfl rfl rfl (q_move (v := .slice A42 z36.1.length c43) rfl (by kernel_rfl)) ?_
          refine va rfl rfl rfl (q_move (v := .int .i64 ((i50 : Nat) : Int)) rfl (by kernel_rfl)) ?_
          refine va rfl rfl rfl (q_ixn (i := i50) Tryz.underlying22 Tryz.sizeOf51 rfl rfl rfl hl58 (hj88.some_ (ltq hl58 hq90.symm))) ?_
          refine va rfl rfl rfl (q_field_addr (i50 * 2 + 1) fld_51_1 rfl rfl (hj88.some_ (ltq hl58 hq90.symm)) rfl) ?_
          obtain ⟨A92, c93, hx94⟩ := hj88.recT_at i50
          refine va rfl rfl rfl (q_ldS (c := 1) (v := .slice A92 ((gt ys87 i50).vers).length c93) (satJ (i := 0) rfl hn86) (hx94 (ltq hl58 hq90.symm)).2 rfl Tryz.isAgg48 rfl rfl) ?_
          refine va rfl rfl rfl (q_move (v := .int .i64 ((i60 : Nat) : Int)) rfl (by kernel_rfl)) ?_
          refine va rfl rfl rfl (q_ixn (i := i60) Tryz.underlying48 Tryz.sizeOf57 rfl rfl rfl hlt91 ((hx94 (ltq hl58 hq90.symm)).1.2.2.some_ hlt91)) ?_
          refine va rfl rfl rfl (q_field_addr (i60 * 5 + 2) fld_57_1 rfl rfl ((hx94 (ltq hl58 hq90.symm)).1.2.2.some_ hlt91) rfl) ?_
          obtain ⟨A95, c96, hx97⟩ := (hx94 (ltq hl58 hq90.symm)).1.2.2.verT_at i60
          refine va rfl rfl rfl (q_ldS (c := 2) (v := .slice A95 ((gt ((gt ys87 i50).vers) i60).past).length c96) (satJ (i := 0) rfl hn86) (hx97 hlt91).2 rfl Tryz.isAgg55 rfl rfl) ?_
          refine va rfl rfl rfl (q_len_slice rfl Tryz.underlying55 rfl) ?_
          refine va rfl rfl rfl (q_lss rfl rfl rfl) ?_
          refine WR.nil ?_
          change WC _ _ _ _ _ _
          refine WC.cond (b := (decide (((i84 : Nat) : Int) < ((((gt ((gt ys87 i50).vers) i60).past).length : Nat) : Int)))) (by kernel_rfl) (fun hb98 => ?_) (fun hb98 => ?_)
          · skip
            have hl99 := ilt hb98
            have hq100 := jlt (shL_kid (shL_kid hs89 hq59) hq72) hl99
            refine WC.skip ?_
            change WC _ _ _ _ _ _
            refine WC.seq ?_
            refine WC.block ?_
            refine WC.region ?_
            refine va rfl rfl rfl (q_move (v := .slice A42 z36.1.length c43) rfl (by kernel_rfl)) ?_
            refine va rfl rfl rfl (q_move (v := .int .i64 ((i50 : Nat) : Int)) rfl (by kernel_rfl)) ?_
            refine va rfl rfl rfl (q_ixn (i := i50) Tryz.underlying22 Tryz.sizeOf51 rfl rfl rfl hl58 (hj88.some_ (ltq hl58 hq90.symm))) ?_
            refine va rfl rfl rfl (q_field_addr (i50 * 2 + 1) fld_51_1 rfl rfl (hj88.some_ (ltq hl58 hq90.symm)) rfl) ?_
            refine va rfl rfl rfl (q_ldS (c := 1) (v := .slice A92 ((gt ys87 i50).vers).length c93) (satJ (i := 0) rfl hn86) (hx94 (ltq hl58 hq90.symm)).2 rfl Tryz.isAgg48 rfl rfl) ?_
            refine va rfl rfl rfl (q_move (v := .int .i64 ((i60 : Nat) : Int)) rfl (by kernel_rfl)) ?_
            refine va rfl rfl rfl (q_ixn (i := i60) Tryz.underlying48 Tryz.sizeOf57 rfl rfl rfl hlt91 ((hx94 (ltq hl58 hq90.symm)).1.2.2.some_ hlt91)) ?_
            refine va rfl rfl rfl (q_field_addr (i60 * 5 + 2) fld_57_1 rfl rfl ((hx94 (ltq hl58 hq90.symm)).1.2.2.some_ hlt91) rfl) ?_
            obtain ⟨A101, c102, hx103⟩ := (hx94 (ltq hl58 hq90.symm)).1.2.2.verT_at i60
            refine va rfl rfl rfl (q_ldS (c := 2) (v := .slice A101 ((gt ((gt ys87 i50).vers) i60).past).length c102) (satJ (i := 0) rfl hn86) (hx103 hlt91).2 rfl Tryz.isAgg55 rfl rfl) ?_
            refine va rfl rfl rfl (q_move (v := .int .i64 ((i84 : Nat) : Int)) rfl (by kernel_rfl)) ?_
            refine va rfl rfl rfl (q_ixn (i := i84) Tryz.underlying55 Tryz.sizeOf59 rfl rfl rfl hl99 ((hx103 hlt91).1.2.2.1.2.some_ hl99)) ?_
            refine va rfl rfl rfl (q_field_addr (i84 * 3 + 2) fld_59_2 rfl rfl ((hx103 hlt91).1.2.2.1.2.some_ hl99) rfl) ?_
            refine e_store_J (c := 2) (u := .int .i64 (gt ((gt ((gt ys87 i50).vers) i60).past) i84).t) (v := .int .i64 (-4)) rfl rfl rfl rfl (by kernel_rfl) Tryz.sizeOf2 rfl rfl ((hx103 hlt91).1.2.2.1.2.spanT_at hl99).2 rfl (.int _ _ (show I64 (-4) by decide)) (i := 0) rfl hn86 ?_
            intro J104 hn105 hl106
            obtain ⟨ys107, hj108, hs109⟩ := hj88.like like_Rec hl106
            have hs109 := hs109.trans hs89
            have hq110 := shL_eq_len hs109
            have hlt111 := jtl (shL_kid hs109 hq59) hq72
            have hlt112 := jtl (shL_kid (shL_kid hs109 hq59) hq72) hq100
            refine WR.nil ?_
            change WC _ _ _ _ _ _
            refine WC.region ?_
            refine va rfl rfl rfl (q_move (v := .int .i64 ((i84 : Nat) : Int)) rfl (by kernel_rfl)) ?_
            refine va rfl rfl rfl (q_add_r (r := ((i84 + 1 : Nat) : Int)) rfl rfl rfl (ctr_len hl99 (hx97 hlt91).1.2.2.1.2.le)) ?_
            refine va rfl rfl rfl (q_assign (v := .int .i64 ((i84 + 1 : Nat) : Int)) rfl (by kernel_rfl)) ?_
            refine WR.nil ?_
            intro w hw; exact ⟨(jtl (shL_kid (shL_kid hs81 hq59) hq72) hq100), J104, ys107, hn105, hj108, hs109, (sl_ (by kernel_rfl)), hw⟩
          · skip
            refine WC.exit ?_
            change WC _ _ _ _ _ _
            refine WC.region ?_
            refine va rfl rfl rfl (q_move (v := .int .i64 ((i60 : Nat) : Int)) rfl (by kernel_rfl)) ?_
            refine va rfl rfl rfl (q_add_r (r := ((i60 + 1 : Nat) : Int)) rfl rfl rfl (ctr_len hl71 (hx69 (ltq hl58 hq66.symm)).1.2.2.le)) ?_
            refine va rfl rfl rfl (q_assign (v := .int .i64 ((i60 + 1 : Nat) : Int)) rfl (by kernel_rfl)) ?_
            refine WR.nil ?_
            intro w hw; exact ⟨(jtl (shL_kid hs55 hq59) hq72), J85, ys87, hn86, hj88, hs89, (sl_ (by kernel_rfl)), hw⟩
        · skip
          refine WC.exit ?_
          change WC _ _ _ _ _ _
          refine WC.region ?_
          refine va rfl rfl rfl (q_move (v := .int .i64 ((i50 : Nat) : Int)) rfl (by kernel_rfl)) ?_
          refine va rfl rfl rfl (q_add_r (r := ((i50 + 1 : Nat) : Int)) rfl rfl rfl (ctr_len hl58 (hq56 ▸ hj54.le))) ?_
          refine va rfl rfl rfl (q_assign (v := .int .i64 ((i50 + 1 : Nat) : Int)) rfl (by kernel_rfl)) ?_
          refine WR.nil ?_
          intro w hw; exact ⟨hl58, J61, ys63, hn62, hj64, hs65, (sl_ (by kernel_rfl)), hw⟩
      · skip
        refine WC.exit ?_
        change WC _ _ _ _ _ _
        refine WC.rs ?_
        refine va rfl rfl rfl (q_move (v := .slice A7 mine_6.length c8) rfl (by kernel_rfl)) ?_
        refine va rfl rfl rfl (q_move (v := .slice Atheirs theirs.length ctheirs) rfl (by kernel_rfl)) ?_
        obtain ⟨z113, hz114, h⟩ := bnd h
        refine e_callF (is := []) (Lent.nil F) rfl rfl (call_run Tryz.call23 rfl rfl (by kernel_rfl)) rfl (fun w Θ hp hpB hle hleB hR => t_mend_Take_x (own_lent ho10 hR (List.mem_of_getElem? (i := 1) rfl) hle) ho10.capz ((htheirs.mono hl5).mono hle) htheirsc hp hpB hz114) ?_
        rintro J115 U117 v118 hn116 ⟨A119, c120, row121, rfl, rfl, hr122, hr123, _⟩
        refine WR.join2 fun hn124 => ?_
        have hr125 := hr122.sl (ghr_left hn124) (ghr_right hn124)
        have hc126 := hr122.capz
        change WR _ _ _ (CC F Γ4 [(J115 ++ row121), J51, row9]) _ _ (upd _ 91 (.tuple #[.slice A119 z113.1.length c120, .int .i64 z113.2]))
        refine va rfl rfl rfl (q_move (v := .tuple #[.slice A119 z113.1.length c120, .int .i64 z113.2]) rfl (by kernel_rfl)) ?_
        refine va rfl rfl rfl (q_extract (v := .slice A119 z113.1.length c120) rfl rfl rfl) ?_
        refine va rfl rfl rfl (q_extract (v := .int .i64 z113.2) rfl rfl rfl) ?_
        refine va rfl rfl rfl (q_assign (v := .slice A119 z113.1.length c120) rfl (by kernel_rfl)) ?_
        refine va rfl rfl rfl (q_assign (v := .int .i64 z113.2) rfl (by kernel_rfl)) ?_
        refine WR.nil ?_
        change WC _ _ _ _ _ _
        refine WC.rs ?_
        refine va rfl rfl rfl (q_move (v := .slice Aown own.length cown) rfl (by kernel_rfl)) ?_
        refine va rfl rfl rfl (q_move (v := .slice Atheirs theirs.length ctheirs) rfl (by kernel_rfl)) ?_
        obtain ⟨z127, hz128, h⟩ := bnd h
        refine e_call (is := []) rfl rfl (call_run Tryz.call29 rfl rfl (by kernel_rfl)) rfl (fun w hp => t_firthref14_Take (hown.mono hl5) hownc (htheirs.mono hl5) htheirsc hp hz128) ?_
        rintro Γ129 U131 v132 hl130 ⟨A133, c134, row135, rfl, rfl, hr136, hr137, _⟩
        change WR _ _ _ (CC F Γ129 [row135, (J115 ++ row121), J51, row9]) _ _ (upd _ 97 (.tuple #[.slice A133 z127.1.length c134, .int .i64 z127.2]))
        refine va rfl rfl rfl (q_move (v := .tuple #[.slice A133 z127.1.length c134, .int .i64 z127.2]) rfl (by kernel_rfl)) ?_
        refine va rfl rfl rfl (q_extract (v := .slice A133 z127.1.length c134) rfl rfl rfl) ?_
        refine va rfl rfl rfl (q_extract (v := .int .i64 z127.2) rfl rfl rfl) ?_
        refine va rfl rfl rfl (q_assign (v := .slice A133 z127.1.length c134) rfl (by kernel_rfl)) ?_
        refine va rfl rfl rfl (q_assign (v := .int .i64 z127.2) rfl (by kernel_rfl)) ?_
        refine WR.nil ?_
        change WC _ _ _ _ _ _
        refine WC.rs ?_
        refine va rfl rfl rfl (q_move (v := .int .i64 z36.2) rfl (by kernel_rfl)) ?_
        refine va rfl rfl rfl (q_move (v := .int .i64 z113.2) rfl (by kernel_rfl)) ?_
        refine va rfl rfl rfl (q_eql rfl rfl rfl) ?_
        refine va rfl rfl rfl (q_move (v := .bool (z36.2 == z113.2)) rfl (by kernel_rfl)) ?_
        refine vg1 rfl rfl rfl rfl rfl (fun hg138 => QV.qo (q_move (v := .int .i64 z36.2) rfl (by kernel_rfl))) ?_
        refine vg1 rfl rfl rfl rfl rfl (fun hg139 => QV.qo (q_move (v := .int .i64 z127.2) rfl (by kernel_rfl))) ?_
        refine vg1 rfl rfl rfl rfl rfl (fun hg140 => QV.qo (q_eql rfl (gu hg140 rfl) (gu hg140 rfl))) ?_
        refine va rfl rfl rfl (q_pick rfl rfl (pk_and' (g := (z36.2 == z113.2)) (y := (z36.2 == z127.2)))) ?_
        refine va rfl rfl rfl (q_move (v := .bool ((z36.2 == z113.2) && (z36.2 == z127.2))) rfl (by kernel_rfl)) ?_
        refine vg1 rfl rfl rfl rfl rfl (fun hg141 => QV.qo (q_move (v := .slice A119 z113.1.length c120) rfl (by kernel_rfl))) ?_
        refine vg1 rfl rfl rfl rfl rfl (fun hg142 => QV.qo (q_move (v := .slice A133 z127.1.length c134) rfl (by kernel_rfl))) ?_
        obtain ⟨z144, hz145, h⟩ := bnd h
        refine vg1 rfl rfl rfl rfl rfl (fun hg143 => (q_call (call_run Tryz.call17 rfl rfl (args2 (gu hg143 rfl) (gu hg143 rfl))) (fun w hw => t_firthref06_SameRecs (Γ := Gh.all w) (hr125.mono ((satJ (i := 1) rfl hn124) w hw).le_all) hc126 (hr136.sl hw.sat.le_all (hw.ra 0 rfl)) hr136.capz (Sat.all w) (gc_of hz145 hg143)))) ?_
        refine va rfl rfl rfl (q_pick rfl rfl (pk_and' (g := ((z36.2 == z113.2) && (z36.2 == z127.2))) (y := z144))) ?_
        refine va rfl rfl rfl (q_move (v := .bool (((z36.2 == z113.2) && (z36.2 == z127.2)) && z144)) rfl (by kernel_rfl)) ?_
        refine vg1 rfl rfl rfl rfl rfl (fun hg146 => QV.qo (q_move (v := .slice A7 mine_6.length c8) rfl (by kernel_rfl))) ?_
        refine vg1 rfl rfl rfl rfl rfl (fun hg147 => QV.qo (q_move (v := .slice Aown own.length cown) rfl (by kernel_rfl))) ?_
        obtain ⟨z149, hz150, h⟩ := bnd h
        refine vg1 rfl rfl rfl rfl rfl (fun hg148 => (q_call (call_run Tryz.call17 rfl rfl (args2 (gu hg148 rfl) (gu hg148 rfl))) (fun w hw => t_firthref06_SameRecs (Γ := Gh.all w) ((ho10.mono hl130).sl hw.sat.le_all (hw.ra 3 rfl)) (ho10.mono hl130).capz ((hown.mono (hl5.trans hl130)).mono hw.sat.le_all) hownc (Sat.all w) (gc_of hz150 hg148)))) ?_
        refine va rfl rfl rfl (q_pick rfl rfl (pk_and' (g := (((z36.2 == z113.2) && (z36.2 == z127.2)) && z144)) (y := z149))) ?_
        refine va rfl rfl rfl (q_assign (v := .bool ((((z36.2 == z113.2) && (z36.2 == z127.2)) && z144) && z149)) rfl (by kernel_rfl)) ?_
        refine WR.nil ?_
        change WC _ _ _ _ _ _
        refine WC.ret ?_
        intro w hw
        obtain rfl := Option.some.inj h
        subst hF
        exact ⟨by kernel_rfl, hw.fr⟩
end Fw
end Go.Proofs.YtbidmceookkapaaGreat
