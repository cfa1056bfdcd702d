/- Walks through the functions that the law reaches (printed by a program). No condition. -/
import Derived.Test.YtlgahohnbkkoiaaW2
namespace Go.Proofs.Ytlgahohnbkkoiaa
namespace Fw
set_option linter.unusedVariables false
set_option linter.unusedSimpArgs false
set_option linter.unusedSectionVars false
open Go.RowKit
theorem vers_same_self {a : Ver} {b : Bool} (h : m_vers_same a a = some b) : b = true := by
  unfold m_vers_same at h
  have hv : (a.val != a.val) = false := by rw [bne, bytes_beq]; simp
  simp only [bne_self_eq_false, hv, Bool.or_false, cond_false] at h
  have key : ∀ (l : List Span) (i : Nat), (∀ j, j < l.length → gt l j = gt a.past (i + j)) → forI (m_vers_same_b1 a) (fun _ => some true) i l () = some b → b = true := by
    intro l
    induction l with
    | nil => intro i _ h; injection h with h; exact h.symm
    | cons x l ih =>
      intro i hl h
      have h0 := hl 0 (by simp)
      simp only [gt_zero, Nat.add_zero] at h0
      have h : m_vers_same_b1 a (forI (m_vers_same_b1 a) (fun _ => some true) (i + 1) l) i x () = some b := h
      have ih2 := ih (i + 1) (fun j hj => by
        have := hl (j + 1) (by simpa using hj)
        rw [gt_succ] at this
        rw [this]; congr 1; omega)
      generalize forI (m_vers_same_b1 a) (fun _ => some true) (i + 1) l = G at h ih2
      unfold m_vers_same_b1 at h
      obtain ⟨_, h⟩ := chk_some h
      rw [h0, bne_self_eq_false, cond_false] at h
      exact ih2 h
  exact key a.past 0 (fun j _ => by rw [Nat.zero_add]) h
theorem vers_Same_self {a : List Ver} {b : Bool} (h : m_vers_Same a a = some b) : b = true := by
  unfold m_vers_Same at h
  have key : ∀ (t i : Nat), forU (m_vers_Same_b1 a a) (fun _ => some (((a.length : Nat) : Int) == ((a.length : Nat) : Int))) t i () = some b → b = true := by
    intro t
    induction t with
    | zero =>
      intro i h
      have h : some (((a.length : Nat) : Int) == ((a.length : Nat) : Int)) = some b := h
      injection h with h
      rw [← h]; exact beq_self_eq_true _
    | succ t ih =>
      intro i h
      have h : m_vers_Same_b1 a a (forU (m_vers_Same_b1 a a) (fun _ => some (((a.length : Nat) : Int) == ((a.length : Nat) : Int))) t (i + 1)) i () = some b := h
      have ih2 := ih (i + 1)
      generalize forU (m_vers_Same_b1 a a) (fun _ => some (((a.length : Nat) : Int) == ((a.length : Nat) : Int))) t (i + 1) = G at h ih2
      unfold m_vers_Same_b1 at h
      obtain ⟨_, h⟩ := chk_some h
      obtain ⟨_, h⟩ := chk_some h
      obtain ⟨z, hz, h⟩ := bnd h
      have := vers_same_self hz
      subst this
      rw [Bool.not_true, cond_false] at h
      exact ih2 h
  exact key _ _ h

set_option maxRecDepth 100000 in
set_option maxHeartbeats 400000 in
theorem t_mend_Take_x {Γ : Gh} {w0 : World} {B : Gh} {Aown : Option Addr} {cown : Nat} {own : List Rec} (hown : Sl recT B Aown own) (hownc : own.length ≤ cown) {Atheirs : Option Addr} {ctheirs : Nat} {theirs : List Rec} (htheirs : Sl recT B Atheirs theirs) (htheirsc : theirs.length ≤ ctheirs) (hp : Pre [] Γ w0) (hpB : Pre [] B w0) {r : (List Rec) × Int} (h : m_mend_Take own theirs = some r) : Calls Try.prog 65 #[.slice Aown own.length cown, .slice Atheirs theirs.length ctheirs] w0 (Outc Γ [] w0 (r_mend_Take r)) := by
  refine calls_of (N := 83) (rs := [4, 5]) (args := [.slice Aown own.length cown, .slice Atheirs theirs.length ctheirs]) Try.func65 rfl Try.ntmps65 Try.results65 rfl ?_
  obtain ⟨F, hF⟩ : ∃ F : Fm, F = ⟨ids [], w0, Γ⟩ := ⟨_, rfl⟩
  refine WC.here (C := CC F Γ []) ?_ (hF ▸ hp.start)
  have hB : Lent F B := hF ▸ Lent.start hpB
  refine WC.rs ?_
  refine va rfl rfl rfl (q_assign (v := .slice none 0 0) rfl (by kernel_rfl)) ?_
  refine va rfl rfl rfl (q_assign (v := .int .i64 0) rfl (by kernel_rfl)) ?_
  refine WR.nil ?_
  change WC _ _ _ _ _ _
  refine WC.seq ?_
  refine WC.rs ?_
  refine va rfl rfl rfl (q_move (v := .slice Aown own.length cown) rfl (by kernel_rfl)) ?_
  obtain ⟨z1, hz2, h⟩ := bnd h
  refine vc rfl rfl rfl (q_call (call_run Try.call80 rfl rfl (by kernel_rfl)) (fun w hw => t_mend_right (Γ := Gh.all w) (hown.mono (hB.sat hw).le_all) hownc (Sat.all w) hz2)) ?_
  refine va rfl rfl rfl (q_not rfl rfl) ?_
  refine va rfl rfl rfl (q_move (v := .bool (!z1)) rfl (by kernel_rfl)) ?_
  refine vg0 rfl rfl rfl rfl rfl (fun hg3 => QV.qo (q_move (v := .slice Atheirs theirs.length ctheirs) rfl (by kernel_rfl))) ?_
  obtain ⟨z5, hz6, h⟩ := bnd h
  refine vg0 rfl rfl rfl rfl rfl (fun hg4 => (q_call (call_run Try.call80 rfl rfl (args1 (gu hg4 rfl))) (fun w hw => t_mend_right (Γ := Gh.all w) (htheirs.mono (hB.sat hw).le_all) htheirsc (Sat.all w) (gc_of hz6 hg4)))) ?_
  refine vg0 rfl rfl rfl rfl rfl (fun hg7 => QV.qo (q_not rfl (gu hg7 rfl))) ?_
  refine va rfl rfl rfl (q_pick rfl rfl (pk_or' (g := (!z1)) (y := (!z5)))) ?_
  refine WR.nil ?_
  change WC _ _ _ _ _ _
  refine WC.cif h (by kernel_rfl) (fun hb8 h => ?_) (fun hb8 h => ?_)
  · skip
    refine WC.rs ?_
    refine va rfl rfl rfl (q_assign (v := .slice none 0 0) rfl (by kernel_rfl)) ?_
    refine va rfl rfl rfl (q_assign (v := .int .i64 1) rfl (by kernel_rfl)) ?_
    refine WR.nil ?_
    change WC _ _ _ _ _ _
    refine WC.ret ?_
    intro w hw
    have hw := hw.pad
    obtain rfl := Option.some.inj h
    subst hF
    exact end_e (is := [0]) (by kernel_rfl) hw rfl ⟨none, 0, [], rfl, rfl, (Own.nil recT _ 74), (show I64 1 by decide), trivial⟩
  · skip
    refine WC.skip ?_
    change WC _ _ _ _ _ _
    refine WC.rs ?_
    refine va rfl rfl rfl (q_move (v := .slice Aown own.length cown) rfl (by kernel_rfl)) ?_
    obtain ⟨z9, hz10, h⟩ := bnd h
    refine e_callW (is := []) rfl rfl (call_run Try.call81 rfl rfl (by kernel_rfl)) rfl (fun w hw hp => t_mend_held_x (B := B) hown hownc hp (hB.pre (is := []) hw rfl) hz10) ?_
    rintro Γ11 U13 v14 hl12 ⟨g15, row16, rfl, rfl, hr17, _⟩
    change WR _ _ _ (CC F Γ11 [row16]) _ _ (upd _ 24 (.map (some g15)))
    refine va rfl rfl rfl (q_move (v := .slice Aown own.length cown) rfl (by kernel_rfl)) ?_
    obtain ⟨z18, hz19, h⟩ := bnd h
    refine e_callW (is := []) rfl rfl (call_run Try.call81 rfl rfl (by kernel_rfl)) rfl (fun w hw hp => t_mend_held_x (B := B) hown hownc hp (hB.pre (is := []) hw rfl) hz19) ?_
    rintro Γ20 U22 v23 hl21 ⟨g24, row25, rfl, rfl, hr26, _⟩
    have hzz : z9 = z18 := Option.some.inj (hz10.symm.trans hz19)
    have hr17 := hr17.mixv
    change WR _ _ _ (CC F Γ20 [row25, row16]) _ _ (upd _ 26 (.map (some g24)))
    refine va rfl rfl rfl (q_assign (v := .map (some g15)) rfl (by kernel_rfl)) ?_
    refine va rfl rfl rfl (q_assign (v := .map (some g24)) rfl (by kernel_rfl)) ?_
    refine WR.nil ?_
    change WC _ _ _ _ _ _
    refine WC.seq ?_
    refine WC.rs ?_
    refine va rfl rfl rfl (q_move (v := .slice Atheirs theirs.length ctheirs) rfl (by kernel_rfl)) ?_
    refine va rfl rfl rfl (q_len_slice rfl Try.underlying41 rfl) ?_
    refine va rfl rfl rfl (q_move (v := .int .i64 0) rfl (by kernel_rfl)) ?_
    refine WR.nil ?_
    change WC _ _ _ _ _ _
    refine WC.block ?_
    refine WC.forI h (fun (i33 : Nat) (m29 : List (ByteArray × (List Ver))) σ w => ∃ (Γ27 : Gh), ∃ (row30 : Rowb), slots σ [(6, .map (some g15)), (7, .map (some g24)), (27, .slice Atheirs theirs.length ctheirs), (28, .int .i64 ((theirs.length : Nat) : Int)), (29, .int .i64 ((i33 : Nat) : Int))] ∧ CC F Γ27 [row25, row30] w ∧ Gh.le Γ20 Γ27 ∧ MapO (strK Try.underlying9) (mixV (slT verT).v B z9) Γ27 row30 g15 (kt m29) ∧ True) ?_ ?_
    · skip
      intro w hw
      exact ⟨Γ20, row16, (sl_ (by kernel_rfl)), hw, (Gh.refl _), (hr17.mono hl21), trivial⟩
    rintro f32 i33 m29 σ w hi34 hlt35 hge36 ⟨Γ27, row30, hsl, hw, hl28, ho31, -⟩
    refine Wpt.slots hsl ?_
    refine WC.here (C := CC F Γ27 [row25, row30]) ?_ hw
    clear hw hsl
    refine WC.rs ?_
    refine va rfl rfl rfl (q_lss rfl rfl rfl) ?_
    refine WR.nil ?_
    change WC _ _ _ _ _ _
    refine WC.seq ?_
    refine WC.cond (b := (decide (((i33 : Nat) : Int) < ((theirs.length : Nat) : Int)))) (by kernel_rfl) (fun hb37 => ?_) (fun hb37 => ?_)
    · skip
      have hl38 := ilt hb37
      have h := hlt35 hl38
      refine WC.skip ?_
      change WC _ _ _ _ _ _
      refine WC.cut (fun σ w => ∃ (m41 : List (ByteArray × (List Ver))), ∃ (Γ39 : Gh), ∃ (row42 : Rowb), m_mend_Take_j5 f32 m41 = some r ∧ slots σ [(6, .map (some g15)), (7, .map (some g24)), (27, .slice Atheirs theirs.length ctheirs), (28, .int .i64 ((theirs.length : Nat) : Int)), (29, .int .i64 ((i33 : Nat) : Int))] ∧ CC F Γ39 [row25, row42] w ∧ Gh.le Γ27 Γ39 ∧ MapO (strK Try.underlying9) (mixV (slT verT).v B z9) Γ39 row42 g15 (kt m41) ∧ True) ?_ ?_
      · skip
        refine WC.block ?_
        refine WC.rs ?_
        refine va rfl rfl rfl (q_ixn (i := i33) Try.underlying41 Try.sizeOf74 rfl rfl rfl hl38 (htheirs.some_ hl38)) ?_
        obtain ⟨A44, c45, hx46⟩ := htheirs.recT_at i33
        refine va rfl rfl rfl (q_ldaS (c := 0) (vs := [.string (gt theirs i33).key, .slice A44 ((gt theirs i33).vers).length c45]) (fun w hw => hB.sat hw) (hx46 hl38).2 rfl Try.isAgg74 Try.sizeOf74 rfl rfl rfl) ?_
        refine e_alloc Try.zeroValue74 rfl rfl rfl rfl ?_
        intro g47
        refine e_st (i := 0) (v := .agg #[.string (gt theirs i33).key, .slice A44 ((gt theirs i33).vers).length c45]) (new := #[.string (gt theirs i33).key, .slice A44 ((gt theirs i33).vers).length c45]) rfl Try.sizeOf74 rfl rfl rfl rfl (by kernel_rfl) rfl rfl rfl rfl ?_
        refine WR.nil ?_
        change WC _ _ _ _ _ _
        refine WC.rs ?_
        refine va rfl rfl rfl (q_move (v := .map (some g15)) rfl (by kernel_rfl)) ?_
        refine va rfl rfl rfl (q_fl 0 fld_74_0 rfl rfl rfl) ?_
        refine va rfl rfl rfl (q_ldl (i := 0) (v := .string (gt theirs i33).key) rfl rfl Try.isAgg9 rfl rfl) ?_
        obtain ⟨v48, ⟨A51, c52, hv49, hc53, hs54⟩, hat50⟩ := mix_look ho31 ((gt theirs i33).key)
        obtain rfl : v48 = _ := List.cons.inj hv49 |>.1
        refine va rfl rfl rfl (q_lookup1 (v := .slice A51 ((mget ((gt theirs i33).key) m29).getD []).length c52) hat50 rfl Try.underlying135 Try.zeroValue40 rfl rfl (i := 2) rfl) ?_
        refine va rfl rfl rfl (q_fl 1 fld_74_1 rfl rfl rfl) ?_
        refine va rfl rfl rfl (q_ldl (i := 0) (v := .slice A44 ((gt theirs i33).vers).length c45) rfl rfl Try.isAgg40 rfl rfl) ?_
        obtain ⟨z55, hz56, h⟩ := bnd h
        refine e_callB (is := []) hB rfl rfl (call_run Try.call47 rfl rfl (by kernel_rfl)) rfl (fun w Θ hp hpB hle hleB hR => t_vers_Merge_x (hs54.elim (fun q => q.mono hle) (fun q => q.1.mono hleB)) hc53 ((hx46 hl38).1.2.2.mono hleB) (hx46 hl38).1.2.1 hp hpB hz56) ?_
        rintro Γ57 U59 v60 hl58 ⟨A61, c62, row63, rfl, rfl, hr64, hr65, _⟩
        change WR _ _ _ (CC F Γ57 [row63, [(g47, .cells #[.string (gt theirs i33).key, .slice A44 ((gt theirs i33).vers).length c45] 74 (0, 0))], row25, row30]) _ _ (upd _ 40 (.tuple #[.slice A61 z55.1.length c62, .int .i64 z55.2]))
        refine va rfl rfl rfl (q_move (v := .tuple #[.slice A61 z55.1.length c62, .int .i64 z55.2]) rfl (by kernel_rfl)) ?_
        refine va rfl rfl rfl (q_extract (v := .slice A61 z55.1.length c62) rfl rfl rfl) ?_
        refine va rfl rfl rfl (q_extract (v := .int .i64 z55.2) rfl rfl rfl) ?_
        refine va rfl rfl rfl (q_assign (v := .slice A61 z55.1.length c62) rfl (by kernel_rfl)) ?_
        refine va rfl rfl rfl (q_assign (v := .int .i64 z55.2) rfl (by kernel_rfl)) ?_
        refine WR.nil ?_
        change WC _ _ _ _ _ _
        refine WC.rs ?_
        refine va rfl rfl rfl (q_move (v := .int .i64 z55.2) rfl (by kernel_rfl)) ?_
        refine va rfl rfl rfl (q_eql rfl rfl rfl) ?_
        refine WR.nil ?_
        change WC _ _ _ _ _ _
        refine WC.cif h (by kernel_rfl) (fun hb66 h => ?_) (fun hb66 h => ?_)
        · skip
          refine WC.region ?_
          refine va rfl rfl rfl (q_move (v := .map (some g15)) rfl (by kernel_rfl)) ?_
          refine va rfl rfl rfl (q_fl 0 fld_74_0 rfl rfl rfl) ?_
          refine va rfl rfl rfl (q_ldl (i := 1) (v := .string (gt theirs i33).key) rfl rfl Try.isAgg9 rfl rfl) ?_
          refine va rfl rfl rfl (q_move (v := .slice A61 z55.1.length c62) rfl (by kernel_rfl)) ?_
          have hc71 := hr64.capz
          intro w hw; obtain ⟨Γ67, hw, hl68, hr69⟩ := hw.seal (i := 0) rfl; have hs70 := hr64.sl hl68 hr69
          refine WR.here (C := CC F Γ67 [[], [(g47, .cells #[.string (gt theirs i33).key, .slice A44 ((gt theirs i33).vers).length c45] 74 (0, 0))], row25, row30]) ?_ hw
          clear hw
          refine e_mapUpdate (i := 3) (x := ((gt theirs i33).key)) (v := .slice A61 z55.1.length c62) (a := (((gt theirs i33).key), z55.1)) rfl rfl rfl Try.underlying135 rfl rfl (by kernel_rfl) rfl (ho31.mono (hl58.trans hl68)) (by exact .inl ⟨A61, c62, rfl, hc71, hs70⟩) (hx46 hl38).1.1 ?_
          intro row72 hm73
          have hm73 := mix_put hm73
          refine WR.nil ?_
          intro w hw
          exact ⟨(mput ((gt theirs i33).key) z55.1 m29), Γ67, row72, h, (sl_ (by kernel_rfl)), (hw.only (is := [2, 2]) rfl), (hl58.trans hl68), hm73, trivial⟩
        · skip
          refine WC.skip ?_
          intro w hw
          exact ⟨m29, Γ57, row30, h, (sl_ (by kernel_rfl)), (hw.only (is := [2, 2]) rfl), hl58, (ho31.mono hl58), trivial⟩
      · skip
        rintro σ w ⟨m41, Γ39, row42, h, hsl, hw, hl40, ho43, -⟩
        refine Wpt.slots hsl ?_
        refine WC.here (C := CC F Γ39 [row25, row42]) ?_ hw
        clear hw hsl
        refine WC.region ?_
        refine va rfl rfl rfl (q_add_r (r := ((i33 + 1 : Nat) : Int)) rfl rfl rfl (ctr_len hl38 htheirs.le)) ?_
        refine va rfl rfl rfl (q_move (v := .int .i64 ((i33 + 1 : Nat) : Int)) rfl (by kernel_rfl)) ?_
        refine WR.nil ?_
        intro w hw
        exact ⟨hl38, m41, h, Γ39, row42, (sl_ (by kernel_rfl)), hw, (hl28.trans hl40), ho43, trivial⟩
    · skip
      have h := hge36 (ige hb37)
      refine WC.exit ?_
      change WC _ _ _ _ _ _
      refine WC.rs ?_
      refine va rfl rfl rfl (q_assign (v := .slice none 0 0) rfl (by kernel_rfl)) ?_
      refine WR.nil ?_
      change WC _ _ _ _ _ _
      refine WC.seq ?_
      refine WC.rs ?_
      refine va rfl rfl rfl (q_move (v := .map (some g15)) rfl (by kernel_rfl)) ?_
      refine e_keys (ρ := keys83_ren) keys83 (mb := some g15) rfl rfl (call_run Try.call83 rfl rfl (by kernel_rfl)) ?_
      intro g74
      change WR _ _ _ (CC F Γ27 [[(g74, .cells #[.map (some g15)] 135 (0, 0))], row25, row30]) _ _ (upd _ 51 (.func (.func 93) #[] #[.pointer (some ⟨g74, 0, none⟩)]))
      obtain ⟨hk75, h⟩ := chk_some h
      refine e_call (is := [0, 1]) rfl rfl (call_run Try.call82 rfl rfl (by kernel_rfl)) rfl (fun w hp => by have hq := sk82_83 ho31 (by rw [kt_len]; exact of_decide_eq_true hk75) hp; rw [kt_skeys] at hq; exact hq) ?_
      rintro Γ76 U78 v79 hl77 ⟨A80, c81, row82, rfl, rfl, ho83⟩
      change WR _ _ _ (CC F Γ76 [[(g74, .cells #[.map (some g15)] 135 (0, 0))], row30, row82, row25]) _ _ (upd _ 52 (.slice A80 (skeys m29).length c81))
      refine va rfl rfl rfl (q_len_slice rfl Try.underlying137 rfl) ?_
      refine va rfl rfl rfl (q_move (v := .int .i64 0) rfl (by kernel_rfl)) ?_
      refine WR.nil ?_
      change WC _ _ _ _ _ _
      refine WC.block ?_
      refine WC.forI h (fun (i90 : Nat) (out_84 : List Rec) σ w => ∃ (A85 : Option Addr), ∃ (c86 : Nat), ∃ (row87 : Rowb), slots σ [(6, .map (some g15)), (7, .map (some g24)), (12, .slice A85 out_84.length c86), (52, .slice A80 (skeys m29).length c81), (53, .int .i64 (((skeys m29).length : Nat) : Int)), (54, .int .i64 ((i90 : Nat) : Int))] ∧ CC F Γ76 [row87, row30, row82, row25] w ∧ Own recT Γ76 74 row87 A85 c86 out_84 ∧ True) ?_ ?_
      · skip
        intro w hw
        have hw := hw.pad
        exact ⟨none, 0, [], (sl_ (by kernel_rfl)), (hw.only (is := [0, 1, 1, 1]) rfl), (Own.nil recT _ 74), trivial⟩
      rintro f89 i90 out_84 σ w hi91 hlt92 hge93 ⟨A85, c86, row87, hsl, hw, ho88, -⟩
      refine Wpt.slots hsl ?_
      refine WC.here (C := CC F Γ76 [row87, row30, row82, row25]) ?_ hw
      clear hw hsl
      refine WC.rs ?_
      refine va rfl rfl rfl (q_lss rfl rfl rfl) ?_
      refine WR.nil ?_
      change WC _ _ _ _ _ _
      refine WC.seq ?_
      refine WC.cond (b := (decide (((i90 : Nat) : Int) < (((skeys m29).length : Nat) : Int)))) (by kernel_rfl) (fun hb94 => ?_) (fun hb94 => ?_)
      · skip
        have hl95 := ilt hb94
        have h := hlt92 hl95
        refine WC.skip ?_
        change WC _ _ _ _ _ _
        refine WC.cut (fun σ w => ∃ (out_96 : List Rec), ∃ (A97 : Option Addr), ∃ (c98 : Nat), ∃ (row99 : Rowb), m_mend_Take_j10 f89 out_96 = some r ∧ slots σ [(6, .map (some g15)), (7, .map (some g24)), (12, .slice A97 out_96.length c98), (52, .slice A80 (skeys m29).length c81), (53, .int .i64 (((skeys m29).length : Nat) : Int)), (54, .int .i64 ((i90 : Nat) : Int))] ∧ CC F Γ76 [row99, row30, row82, row25] w ∧ Own recT Γ76 74 row99 A97 c98 out_96 ∧ True) ?_ ?_
        · skip
          refine WC.block ?_
          refine WC.rs ?_
          refine va rfl rfl rfl (q_ixn (i := i90) Try.underlying137 Try.sizeOf9 rfl rfl rfl hl95 (ho83.some_ hl95)) ?_
          refine va rfl rfl rfl (q_ldo (c := 0) (v := .string (gt (skeys m29) i90)) (i := 2) rfl (ho83.strT_at hl95).2 rfl Try.isAgg9 rfl rfl) ?_
          refine va rfl rfl rfl (q_assign (v := .string (gt (skeys m29) i90)) rfl (by kernel_rfl)) ?_
          refine WR.nil ?_
          change WC _ _ _ _ _ _
          refine WC.rs ?_
          refine va rfl rfl rfl (q_move (v := .map (some g15)) rfl (by kernel_rfl)) ?_
          refine va rfl rfl rfl (q_move (v := .string (gt (skeys m29) i90)) rfl (by kernel_rfl)) ?_
          obtain ⟨v101, ⟨A104, c105, hv102, hc106, hs107⟩, hat103⟩ := mix_look (ho31.mono hl77) (gt (skeys m29) i90)
          obtain rfl : v101 = _ := List.cons.inj hv102 |>.1
          refine va rfl rfl rfl (q_lookup1 (v := .slice A104 ((mget (gt (skeys m29) i90) m29).getD []).length c105) hat103 rfl Try.underlying135 Try.zeroValue40 rfl rfl (i := 1) rfl) ?_
          refine va rfl rfl rfl (q_len_slice rfl Try.underlying40 rfl) ?_
          refine va rfl rfl rfl (q_gtr rfl rfl rfl) ?_
          refine va rfl rfl rfl (q_move (v := .bool (decide (0 < ((((mget (gt (skeys m29) i90) m29).getD []).length : Nat) : Int)))) rfl (by kernel_rfl)) ?_
          refine vg1 rfl rfl rfl rfl rfl (fun hg108 => QV.qo (q_move (v := .map (some g15)) rfl (by kernel_rfl))) ?_
          refine vg1 rfl rfl rfl rfl rfl (fun hg109 => QV.qo (q_move (v := .string (gt (skeys m29) i90)) rfl (by kernel_rfl))) ?_
          obtain ⟨v111, ⟨A114, c115, hv112, hc116, hs117⟩, hat113⟩ := mix_look (ho31.mono hl77) (gt (skeys m29) i90)
          obtain rfl : v111 = _ := List.cons.inj hv112 |>.1
          refine vg1 rfl rfl rfl rfl rfl (fun hg110 => QV.qo (q_lookup1 (v := .slice A114 ((mget (gt (skeys m29) i90) m29).getD []).length c115) hat113 rfl Try.underlying135 Try.zeroValue40 (gu hg110 rfl) (gu hg110 rfl) (i := 1) rfl)) ?_
          refine vg1 rfl rfl rfl rfl rfl (fun hg118 => QV.qo (q_move (v := .map (some g24)) rfl (by kernel_rfl))) ?_
          refine vg1 rfl rfl rfl rfl rfl (fun hg119 => QV.qo (q_move (v := .string (gt (skeys m29) i90)) rfl (by kernel_rfl))) ?_
          obtain ⟨v121, ⟨A124, c125, hv122, hc126, hs127⟩, hat123⟩ := MapO.look (hr26.mono (hl28.trans hl77)) (gt (skeys m29) i90) (z := .slice none 0 0) (zx := []) ⟨none, 0, rfl, Nat.zero_le _, Sl.nil _ _ _⟩
          obtain rfl : v121 = _ := List.cons.inj hv122 |>.1
          refine vg1 rfl rfl rfl rfl rfl (fun hg120 => QV.qo (q_lookup1 (v := .slice A124 ((mget (gt (skeys m29) i90) z18).getD []).length c125) hat123 rfl Try.underlying135 Try.zeroValue40 (gu hg120 rfl) (gu hg120 rfl) (i := 3) rfl)) ?_
          obtain ⟨z129, hz130, h⟩ := bnd h
          refine vg1 rfl rfl rfl rfl rfl (fun hg128 => (q_call (call_run Try.call79 rfl rfl (args2 (gu hg128 rfl) (gu hg128 rfl))) (fun w hw => t_vers_Same (Γ := Gh.all w) (hs117.elim (fun q => q.mono hw.sat.le_all) (fun q => q.1.mono (hB.sat hw).le_all)) hc116 (hs127.mono (hB.sat hw).le_all) hc126 (Sat.all w) (gc_of hz130 hg128)))) ?_
          refine vg1 rfl rfl rfl rfl rfl (fun hg131 => QV.qo (q_not rfl (gu hg131 rfl))) ?_
          refine va rfl rfl rfl (q_pick rfl rfl (pk_and' (g := (decide (0 < ((((mget (gt (skeys m29) i90) m29).getD []).length : Nat) : Int)))) (y := (!z129)))) ?_
          refine WR.nil ?_
          change WC _ _ _ _ _ _
          refine WC.cif h (by kernel_rfl) (fun hb132 h => ?_) (fun hb132 h => ?_)
          · skip
            refine WC.region ?_
            refine va rfl rfl rfl (q_move (v := .slice A85 out_84.length c86) rfl (by kernel_rfl)) ?_
            refine va rfl rfl rfl (q_move (v := .string (gt (skeys m29) i90)) rfl (by kernel_rfl)) ?_
            refine va rfl rfl rfl (q_move (v := .map (some g15)) rfl (by kernel_rfl)) ?_
            refine va rfl rfl rfl (q_move (v := .string (gt (skeys m29) i90)) rfl (by kernel_rfl)) ?_
            obtain ⟨v133, ⟨A136, c137, hv134, hc138, hs139⟩, hat135⟩ := mix_look (ho31.mono hl77) (gt (skeys m29) i90)
            obtain rfl : v133 = _ := List.cons.inj hv134 |>.1
            have hs139 := hs139.elim id (fun q => by
              exfalso
              have hb_ := hb132
              simp only [Bool.and_eq_true] at hb_
              have hz_ := gc_of hz130 hb_.1
              have hq := q.2
              rw [hzz] at hq
              rw [hq] at hz_
              have hz_ := vers_Same_self hz_
              rw [hz_] at hb_
              exact absurd hb_.2 (by decide))
            refine va rfl rfl rfl (q_lookup1 (v := .slice A136 ((mget (gt (skeys m29) i90) m29).getD []).length c137) hat135 rfl Try.underlying135 Try.zeroValue40 rfl rfl (i := 1) rfl) ?_
            refine va rfl rfl rfl (q_build' (v := .agg #[.string (gt (skeys m29) i90), .slice A136 ((mget (gt (skeys m29) i90) m29).getD []).length c137]) rfl (bargs2 rfl rfl) (fun w => by kernel_rfl)) ?_
            refine e_buildSlice (cs := #[.string (gt (skeys m29) i90), .slice A136 ((mget (gt (skeys m29) i90) m29).getD []).length c137]) (e := 74) rfl rfl rfl rfl (fun w => by kernel_rfl) ?_
            intro g140
            obtain ⟨hk141, h⟩ := chk_some h
            refine e_append (T := recT) (xs := out_84) (ys := [(⟨(gt (skeys m29) i90), ((mget (gt (skeys m29) i90) m29).getD [])⟩ : Rec)]) elem_41 (i := 1) rfl rfl rfl rfl rfl rfl rfl ho88 (of_decide_eq_true hk141) (fun w hw => src_one (T := recT) (y := (⟨(gt (skeys m29) i90), ((mget (gt (skeys m29) i90) m29).getD [])⟩ : Rec)) (i := 0) rfl (by exact ⟨A136, c137, rfl, ⟨(ho83.strT_at hl95).1, ⟨hc138, hs139⟩⟩⟩) hw) ?_
            intro row142 A143 c144 ho145
            refine va rfl rfl rfl (q_assign (v := .slice A143 (out_84 ++ [(⟨(gt (skeys m29) i90), ((mget (gt (skeys m29) i90) m29).getD [])⟩ : Rec)]).length c144) rfl (by kernel_rfl)) ?_
            refine WR.nil ?_
            intro w hw
            exact ⟨(out_84 ++ [(⟨(gt (skeys m29) i90), ((mget (gt (skeys m29) i90) m29).getD [])⟩ : Rec)]), A143, c144, row142, h, (sl_ (by kernel_rfl)), (hw.only (is := [1, 1, 1, 1]) rfl), ho145, trivial⟩
          · skip
            refine WC.skip ?_
            intro w hw
            exact ⟨out_84, A85, c86, row87, h, (sl_ (by kernel_rfl)), hw, ho88, trivial⟩
        · skip
          rintro σ w ⟨out_96, A97, c98, row99, h, hsl, hw, ho100, -⟩
          refine Wpt.slots hsl ?_
          refine WC.here (C := CC F Γ76 [row99, row30, row82, row25]) ?_ hw
          clear hw hsl
          refine WC.region ?_
          refine va rfl rfl rfl (q_add_r (r := ((i90 + 1 : Nat) : Int)) rfl rfl rfl (ctr_len hl95 ho83.le)) ?_
          refine va rfl rfl rfl (q_move (v := .int .i64 ((i90 + 1 : Nat) : Int)) rfl (by kernel_rfl)) ?_
          refine WR.nil ?_
          intro w hw
          exact ⟨hl95, out_96, h, A97, c98, row99, (sl_ (by kernel_rfl)), hw, ho100, trivial⟩
      · skip
        have h := hge93 (ige hb94)
        refine WC.exit ?_
        change WC _ _ _ _ _ _
        refine WC.rs ?_
        refine va rfl rfl rfl (q_move (v := .slice A85 out_84.length c86) rfl (by kernel_rfl)) ?_
        refine va rfl rfl rfl (q_assign (v := .slice A85 out_84.length c86) rfl (by kernel_rfl)) ?_
        refine va rfl rfl rfl (q_assign (v := .int .i64 0) rfl (by kernel_rfl)) ?_
        refine WR.nil ?_
        change WC _ _ _ _ _ _
        refine WC.ret ?_
        intro w hw
        obtain rfl := Option.some.inj h
        subst hF
        exact end_e (is := [0]) (by kernel_rfl) hw rfl ⟨A85, c86, row87, rfl, rfl, ho88, (show I64 0 by decide), trivial⟩
abbrev r_quorum_last_1 (gb0 : Nat) (b0v0 : ByteArray) (Ab0v1 : Option Addr) (cb0v1 : Nat) (b0v1 : List Ver) (r : Bool) (U : List Rowb) (Γ : Gh) (v : Value) : Prop := v = .bool r ∧ U = [[(gb0, .cells #[.string b0v0, .slice Ab0v1 b0v1.length cb0v1] 74 (0, 0))]] ∧ True
set_option maxRecDepth 100000 in
set_option maxHeartbeats 400000 in
theorem t_quorum_last_1 {Γ : Gh} {w0 : World} {Ax_1 : Option Addr} {cx_1 : Nat} (x_ : Rec) (hx_ : Rec.fits Γ Ax_1 cx_1 x_) {gb0 : Nat} (b0v0 : ByteArray) (hb0v0 : b0v0.size ≤ lim) {Ab0v1 : Option Addr} {cb0v1 : Nat} {b0v1 : List Ver} (hb0v1 : Sl verT Γ Ab0v1 b0v1) (hb0v1c : b0v1.length ≤ cb0v1) (hp : Pre [[(gb0, .cells #[.string b0v0, .slice Ab0v1 b0v1.length cb0v1] 74 (0, 0))]] Γ w0) {r : Bool} (h : m_quorum_last_1 x_ b0v0 b0v1 = some r) : Calls Try.prog 85 #[.agg #[.string x_.key, .slice Ax_1 x_.vers.length cx_1], .pointer (some ⟨gb0, 0, none⟩)] w0 (Outc Γ [[(gb0, .cells #[.string b0v0, .slice Ab0v1 b0v1.length cb0v1] 74 (0, 0))]] w0 (r_quorum_last_1 gb0 b0v0 Ab0v1 cb0v1 b0v1 r)) := by
  refine calls_of (N := 9) (rs := [3]) (args := [.agg #[.string x_.key, .slice Ax_1 x_.vers.length cx_1], .pointer (some ⟨gb0, 0, none⟩)]) Try.func85 rfl Try.ntmps85 Try.results85 rfl ?_
  obtain ⟨F, hF⟩ : ∃ F : Fm, F = ⟨ids [[(gb0, .cells #[.string b0v0, .slice Ab0v1 b0v1.length cb0v1] 74 (0, 0))]], w0, Γ⟩ := ⟨_, rfl⟩
  refine WC.here (C := CC F Γ [[(gb0, .cells #[.string b0v0, .slice Ab0v1 b0v1.length cb0v1] 74 (0, 0))]]) ?_ (hF ▸ hp.start)
  refine WC.rs ?_
  refine e_box (v := .agg #[.string x_.key, .slice Ax_1 x_.vers.length cx_1]) rfl rfl rfl rfl (by kernel_rfl) ?_
  intro g1
  refine va rfl rfl rfl (q_assign (v := .bool false) rfl (by kernel_rfl)) ?_
  refine WR.nil ?_
  change WC _ _ _ _ _ _
  refine WC.rs ?_
  refine va rfl rfl rfl (q_fl 0 fld_74_0 rfl rfl rfl) ?_
  refine va rfl rfl rfl (q_ldl (i := 0) (v := .string x_.key) rfl rfl Try.isAgg9 rfl rfl) ?_
  refine va rfl rfl rfl (q_fl 0 fld_74_0 rfl rfl rfl) ?_
  refine va rfl rfl rfl (q_ldl (i := 1) (v := .string b0v0) rfl rfl Try.isAgg9 rfl rfl) ?_
  refine va rfl rfl rfl (q_seql rfl rfl rfl) ?_
  refine va rfl rfl rfl (q_assign (v := .bool (x_.key == b0v0)) rfl (by kernel_rfl)) ?_
  refine WR.nil ?_
  change WC _ _ _ _ _ _
  refine WC.ret ?_
  intro w hw
  obtain rfl := Option.some.inj h
  subst hF
  exact end_e (is := [1]) (by kernel_rfl) hw rfl ⟨rfl, rfl, trivial⟩
abbrev r_slices_IndexFunc_api_Rec_api_Rec_s1 (gf_0 : Nat) (f_0v0 : ByteArray) (Af_0v1 : Option Addr) (cf_0v1 : Nat) (f_0v1 : List Ver) (r : Int) (U : List Rowb) (Γ : Gh) (v : Value) : Prop := v = .int .i64 r ∧ U = [[(gf_0, .cells #[.string f_0v0, .slice Af_0v1 f_0v1.length cf_0v1] 74 (0, 0))]] ∧ I64 r ∧ True
set_option maxRecDepth 100000 in
set_option maxHeartbeats 400000 in
theorem t_slices_IndexFunc_api_Rec_api_Rec_s1 {Γ : Gh} {w0 : World} {As_ : Option Addr} {cs_ : Nat} {s_ : List Rec} (hs_ : Sl recT Γ As_ s_) (hs_c : s_.length ≤ cs_) {gf_0 : Nat} (f_0v0 : ByteArray) (hf_0v0 : f_0v0.size ≤ lim) {Af_0v1 : Option Addr} {cf_0v1 : Nat} {f_0v1 : List Ver} (hf_0v1 : Sl verT Γ Af_0v1 f_0v1) (hf_0v1c : f_0v1.length ≤ cf_0v1) (hp : Pre [[(gf_0, .cells #[.string f_0v0, .slice Af_0v1 f_0v1.length cf_0v1] 74 (0, 0))]] Γ w0) {r : Int} (h : m_slices_IndexFunc_api_Rec_api_Rec_s1 s_ f_0v0 f_0v1 = some r) : Calls Try.prog 94 #[.slice As_ s_.length cs_, .func (.func 85) #[] #[.pointer (some ⟨gf_0, 0, none⟩)]] w0 (Outc Γ [[(gf_0, .cells #[.string f_0v0, .slice Af_0v1 f_0v1.length cf_0v1] 74 (0, 0))]] w0 (r_slices_IndexFunc_api_Rec_api_Rec_s1 gf_0 f_0v0 Af_0v1 cf_0v1 f_0v1 r)) := by
  refine calls_of (N := 19) (rs := [4]) (args := [.slice As_ s_.length cs_, .func (.func 85) #[] #[.pointer (some ⟨gf_0, 0, none⟩)]]) Try.func94 rfl Try.ntmps94 Try.results94 rfl ?_
  obtain ⟨F, hF⟩ : ∃ F : Fm, F = ⟨ids [[(gf_0, .cells #[.string f_0v0, .slice Af_0v1 f_0v1.length cf_0v1] 74 (0, 0))]], w0, Γ⟩ := ⟨_, rfl⟩
  refine WC.here (C := CC F Γ [[(gf_0, .cells #[.string f_0v0, .slice Af_0v1 f_0v1.length cf_0v1] 74 (0, 0))]]) ?_ (hF ▸ hp.start)
  refine WC.rs ?_
  refine va rfl rfl rfl (q_assign (v := .int .i64 0) rfl (by kernel_rfl)) ?_
  refine WR.nil ?_
  change WC _ _ _ _ _ _
  refine WC.seq ?_
  refine WC.rs ?_
  refine va rfl rfl rfl (q_move (v := .slice As_ s_.length cs_) rfl (by kernel_rfl)) ?_
  refine va rfl rfl rfl (q_len_slice rfl Try.underlying41 rfl) ?_
  refine va rfl rfl rfl (q_move (v := .int .i64 0) rfl (by kernel_rfl)) ?_
  refine WR.nil ?_
  change WC _ _ _ _ _ _
  refine WC.block ?_
  refine WC.forI h (fun (i4 : Nat) (s : Unit) σ w => match s with | () => ∃ (Γ1 : Gh), slots σ [(0, .slice As_ s_.length cs_), (1, .func (.func 85) #[] #[.pointer (some ⟨gf_0, 0, none⟩)]), (7, .int .i64 ((s_.length : Nat) : Int)), (8, .int .i64 ((i4 : Nat) : Int))] ∧ CC F Γ1 [[(gf_0, .cells #[.string f_0v0, .slice Af_0v1 f_0v1.length cf_0v1] 74 (0, 0))]] w ∧ Gh.le Γ Γ1 ∧ True) ?_ ?_
  · skip
    intro w hw
    exact ⟨Γ, (sl_ (by kernel_rfl)), hw, (Gh.refl _), trivial⟩
  rintro f3 i4 ⟨⟩ σ w hi5 hlt6 hge7 ⟨Γ1, hsl, hw, hl2, -⟩
  refine Wpt.slots hsl ?_
  refine WC.here (C := CC F Γ1 [[(gf_0, .cells #[.string f_0v0, .slice Af_0v1 f_0v1.length cf_0v1] 74 (0, 0))]]) ?_ hw
  clear hw hsl
  refine WC.rs ?_
  refine va rfl rfl rfl (q_lss rfl rfl rfl) ?_
  refine WR.nil ?_
  change WC _ _ _ _ _ _
  refine WC.seq ?_
  refine WC.cond (b := (decide (((i4 : Nat) : Int) < ((s_.length : Nat) : Int)))) (by kernel_rfl) (fun hb8 => ?_) (fun hb8 => ?_)
  · skip
    have hl9 := ilt hb8
    have h := hlt6 hl9
    refine WC.skip ?_
    change WC _ _ _ _ _ _
    refine WC.seq ?_
    refine WC.block ?_
    refine WC.rs ?_
    refine va rfl rfl rfl (q_move (v := .int .i64 ((i4 : Nat) : Int)) rfl (by kernel_rfl)) ?_
    refine va rfl rfl rfl (q_assign (v := .int .i64 ((i4 : Nat) : Int)) rfl (by kernel_rfl)) ?_
    refine WR.nil ?_
    change WC _ _ _ _ _ _
    refine WC.rs ?_
    refine va rfl rfl rfl (q_move (v := .func (.func 85) #[] #[.pointer (some ⟨gf_0, 0, none⟩)]) rfl (by kernel_rfl)) ?_
    refine va rfl rfl rfl (q_move (v := .slice As_ s_.length cs_) rfl (by kernel_rfl)) ?_
    refine va rfl rfl rfl (q_move (v := .int .i64 ((i4 : Nat) : Int)) rfl (by kernel_rfl)) ?_
    refine va rfl rfl rfl (q_ixn (i := i4) Try.underlying41 Try.sizeOf74 rfl rfl rfl hl9 ((hs_.mono hl2).some_ hl9)) ?_
    obtain ⟨A10, c11, hx12⟩ := (hs_.mono hl2).recT_at i4
    refine va rfl rfl rfl (q_lda (c := 0) (vs := [.string (gt s_ i4).key, .slice A10 ((gt s_ i4).vers).length c11]) (hx12 hl9).2 rfl Try.isAgg74 Try.sizeOf74 rfl rfl rfl) ?_
    obtain ⟨z13, hz14, h⟩ := bnd h
    refine e_call (is := [0]) rfl rfl (call_run_fv (caps := #[.pointer (some ⟨gf_0, 0, none⟩)]) Try.call85 rfl (by kernel_rfl) (by kernel_rfl)) rfl (fun w hp => t_quorum_last_1 (gt s_ i4) (hx12 hl9).1 f_0v0 hf_0v0 (hf_0v1.mono hl2) hf_0v1c hp hz14) ?_
    rintro Γ15 U17 v18 hl16 ⟨rfl, rfl, _⟩
    change WR _ _ _ (CC F Γ15 [[(gf_0, .cells #[.string f_0v0, .slice Af_0v1 f_0v1.length cf_0v1] 74 (0, 0))]]) _ _ (upd _ 16 (.bool z13))
    refine WR.nil ?_
    change WC _ _ _ _ _ _
    refine WC.cif h (by kernel_rfl) (fun hb19 h => ?_) (fun hb19 h => ?_)
    · skip
      refine WC.rs ?_
      refine va rfl rfl rfl (q_move (v := .int .i64 ((i4 : Nat) : Int)) rfl (by kernel_rfl)) ?_
      refine va rfl rfl rfl (q_assign (v := .int .i64 ((i4 : Nat) : Int)) rfl (by kernel_rfl)) ?_
      refine WR.nil ?_
      change WC _ _ _ _ _ _
      refine WC.ret ?_
      intro w hw
      obtain rfl := Option.some.inj h
      subst hF
      exact end_e (is := [0]) (by kernel_rfl) hw rfl ⟨rfl, rfl, (ctr_r0 hl9 (hs_.mono hl2).le), trivial⟩
    · skip
      refine WC.skip ?_
      change WC _ _ _ _ _ _
      refine WC.region ?_
      refine va rfl rfl rfl (q_add_r (r := ((i4 + 1 : Nat) : Int)) rfl rfl rfl (ctr_len hl9 (hs_.mono hl2).le)) ?_
      refine va rfl rfl rfl (q_move (v := .int .i64 ((i4 + 1 : Nat) : Int)) rfl (by kernel_rfl)) ?_
      refine WR.nil ?_
      intro w hw
      exact ⟨hl9, (), h, Γ15, (sl_ (by kernel_rfl)), hw, (hl2.trans hl16), trivial⟩
  · skip
    have h := hge7 (ige hb8)
    refine WC.exit ?_
    change WC _ _ _ _ _ _
    refine WC.rs ?_
    refine va rfl rfl rfl (q_assign (v := .int .i64 (-1)) rfl (by kernel_rfl)) ?_
    refine WR.nil ?_
    change WC _ _ _ _ _ _
    refine WC.ret ?_
    intro w hw
    obtain rfl := Option.some.inj h
    subst hF
    exact end_e (is := [0]) (by kernel_rfl) hw rfl ⟨rfl, rfl, (show I64 (-1) by decide), trivial⟩
abbrev r_slices_ContainsFunc_api_Rec_api_Rec_s1 (gf_0 : Nat) (f_0v0 : ByteArray) (Af_0v1 : Option Addr) (cf_0v1 : Nat) (f_0v1 : List Ver) (r : Bool) (U : List Rowb) (Γ : Gh) (v : Value) : Prop := v = .bool r ∧ U = [[(gf_0, .cells #[.string f_0v0, .slice Af_0v1 f_0v1.length cf_0v1] 74 (0, 0))]] ∧ True
set_option maxRecDepth 100000 in
set_option maxHeartbeats 400000 in
theorem t_slices_ContainsFunc_api_Rec_api_Rec_s1 {Γ : Gh} {w0 : World} {As_ : Option Addr} {cs_ : Nat} {s_ : List Rec} (hs_ : Sl recT Γ As_ s_) (hs_c : s_.length ≤ cs_) {gf_0 : Nat} (f_0v0 : ByteArray) (hf_0v0 : f_0v0.size ≤ lim) {Af_0v1 : Option Addr} {cf_0v1 : Nat} {f_0v1 : List Ver} (hf_0v1 : Sl verT Γ Af_0v1 f_0v1) (hf_0v1c : f_0v1.length ≤ cf_0v1) (hp : Pre [[(gf_0, .cells #[.string f_0v0, .slice Af_0v1 f_0v1.length cf_0v1] 74 (0, 0))]] Γ w0) {r : Bool} (h : m_slices_ContainsFunc_api_Rec_api_Rec_s1 s_ f_0v0 f_0v1 = some r) : Calls Try.prog 84 #[.slice As_ s_.length cs_, .func (.func 85) #[] #[.pointer (some ⟨gf_0, 0, none⟩)]] w0 (Outc Γ [[(gf_0, .cells #[.string f_0v0, .slice Af_0v1 f_0v1.length cf_0v1] 74 (0, 0))]] w0 (r_slices_ContainsFunc_api_Rec_api_Rec_s1 gf_0 f_0v0 Af_0v1 cf_0v1 f_0v1 r)) := by
  refine calls_of (N := 9) (rs := [4]) (args := [.slice As_ s_.length cs_, .func (.func 85) #[] #[.pointer (some ⟨gf_0, 0, none⟩)]]) Try.func84 rfl Try.ntmps84 Try.results84 rfl ?_
  obtain ⟨F, hF⟩ : ∃ F : Fm, F = ⟨ids [[(gf_0, .cells #[.string f_0v0, .slice Af_0v1 f_0v1.length cf_0v1] 74 (0, 0))]], w0, Γ⟩ := ⟨_, rfl⟩
  refine WC.here (C := CC F Γ [[(gf_0, .cells #[.string f_0v0, .slice Af_0v1 f_0v1.length cf_0v1] 74 (0, 0))]]) ?_ (hF ▸ hp.start)
  refine WC.rs ?_
  refine va rfl rfl rfl (q_assign (v := .bool false) rfl (by kernel_rfl)) ?_
  refine WR.nil ?_
  change WC _ _ _ _ _ _
  refine WC.rs ?_
  refine va rfl rfl rfl (q_move (v := .slice As_ s_.length cs_) rfl (by kernel_rfl)) ?_
  refine va rfl rfl rfl (q_move (v := .func (.func 85) #[] #[.pointer (some ⟨gf_0, 0, none⟩)]) rfl (by kernel_rfl)) ?_
  obtain ⟨z1, hz2, h⟩ := bnd h
  refine e_call (is := [0]) rfl rfl (call_run Try.call94 rfl rfl (by kernel_rfl)) rfl (fun w hp => t_slices_IndexFunc_api_Rec_api_Rec_s1 hs_ hs_c f_0v0 hf_0v0 hf_0v1 hf_0v1c hp hz2) ?_
  rintro Γ3 U5 v6 hl4 ⟨rfl, rfl, hr7, _⟩
  change WR _ _ _ (CC F Γ3 [[(gf_0, .cells #[.string f_0v0, .slice Af_0v1 f_0v1.length cf_0v1] 74 (0, 0))]]) _ _ (upd _ 7 (.int .i64 z1))
  refine va rfl rfl rfl (q_geq rfl rfl rfl) ?_
  refine va rfl rfl rfl (q_assign (v := .bool (decide (0 ≤ z1))) rfl (by kernel_rfl)) ?_
  refine WR.nil ?_
  change WC _ _ _ _ _ _
  refine WC.ret ?_
  intro w hw
  obtain rfl := Option.some.inj h
  subst hF
  exact end_e (is := [0]) (by kernel_rfl) hw rfl ⟨rfl, rfl, trivial⟩
abbrev r_quorum_last (r : List Rec) (U : List Rowb) (Γ : Gh) (v : Value) : Prop := ∃ (A0 : Option Addr), ∃ (c0 : Nat), ∃ (row0 : Rowb), v = .slice A0 r.length c0 ∧ U = [row0] ∧ Own recT Γ 74 row0 A0 c0 r ∧ True
set_option maxRecDepth 100000 in
set_option maxHeartbeats 400000 in
theorem t_quorum_last {Γ : Gh} {w0 : World} {Al : Option Addr} {cl : Nat} {l : List Rec} (hl : Sl recT Γ Al l) (hlc : l.length ≤ cl) (hp : Pre [] Γ w0) {r : List Rec} (h : m_quorum_last l = some r) : Calls Try.prog 66 #[.slice Al l.length cl] w0 (Outc Γ [] w0 (r_quorum_last r)) := by
  refine calls_of (N := 26) (rs := [2]) (args := [.slice Al l.length cl]) Try.func66 rfl Try.ntmps66 Try.results66 rfl ?_
  obtain ⟨F, hF⟩ : ∃ F : Fm, F = ⟨ids [], w0, Γ⟩ := ⟨_, rfl⟩
  refine WC.here (C := CC F Γ []) ?_ (hF ▸ hp.start)
  refine WC.rs ?_
  refine va rfl rfl rfl (q_assign (v := .slice none 0 0) rfl (by kernel_rfl)) ?_
  refine WR.nil ?_
  change WC _ _ _ _ _ _
  refine WC.rs ?_
  refine va rfl rfl rfl (q_assign (v := .slice none 0 0) rfl (by kernel_rfl)) ?_
  refine WR.nil ?_
  change WC _ _ _ _ _ _
  refine WC.seq ?_
  refine WC.rs ?_
  refine va rfl rfl rfl (q_move (v := .slice Al l.length cl) rfl (by kernel_rfl)) ?_
  refine va rfl rfl rfl (q_len_slice rfl Try.underlying41 rfl) ?_
  refine va rfl rfl rfl (q_move (v := .int .i64 0) rfl (by kernel_rfl)) ?_
  refine WR.nil ?_
  change WC _ _ _ _ _ _
  refine WC.block ?_
  refine WC.forI h (fun (i9 : Nat) (out_3 : List Rec) σ w => ∃ (Γ1 : Gh), ∃ (A4 : Option Addr), ∃ (c5 : Nat), ∃ (row6 : Rowb), slots σ [(0, .slice Al l.length cl), (3, .slice A4 out_3.length c5), (6, .slice Al l.length cl), (7, .int .i64 ((l.length : Nat) : Int)), (8, .int .i64 ((i9 : Nat) : Int))] ∧ CC F Γ1 [row6] w ∧ Gh.le Γ Γ1 ∧ Own recT Γ1 74 row6 A4 c5 out_3 ∧ True) ?_ ?_
  · skip
    intro w hw
    have hw := hw.pad
    exact ⟨Γ, none, 0, [], (sl_ (by kernel_rfl)), hw, (Gh.refl _), (Own.nil recT _ 74), trivial⟩
  rintro f8 i9 out_3 σ w hi10 hlt11 hge12 ⟨Γ1, A4, c5, row6, hsl, hw, hl2, ho7, -⟩
  refine Wpt.slots hsl ?_
  refine WC.here (C := CC F Γ1 [row6]) ?_ hw
  clear hw hsl
  refine WC.rs ?_
  refine va rfl rfl rfl (q_lss rfl rfl rfl) ?_
  refine WR.nil ?_
  change WC _ _ _ _ _ _
  refine WC.seq ?_
  refine WC.cond (b := (decide (((i9 : Nat) : Int) < ((l.length : Nat) : Int)))) (by kernel_rfl) (fun hb13 => ?_) (fun hb13 => ?_)
  · skip
    have hl14 := ilt hb13
    have h := hlt11 hl14
    refine WC.skip ?_
    change WC _ _ _ _ _ _
    refine WC.cut (fun σ w => ∃ (out_17 : List Rec), ∃ (Γ15 : Gh), ∃ (A18 : Option Addr), ∃ (c19 : Nat), ∃ (row20 : Rowb), m_quorum_last_j5 f8 out_17 = some r ∧ slots σ [(0, .slice Al l.length cl), (3, .slice A18 out_17.length c19), (6, .slice Al l.length cl), (7, .int .i64 ((l.length : Nat) : Int)), (8, .int .i64 ((i9 : Nat) : Int))] ∧ CC F Γ15 [row20] w ∧ Gh.le Γ1 Γ15 ∧ Own recT Γ15 74 row20 A18 c19 out_17 ∧ True) ?_ ?_
    · skip
      refine WC.block ?_
      refine WC.rs ?_
      refine va rfl rfl rfl (q_move (v := .int .i64 ((i9 : Nat) : Int)) rfl (by kernel_rfl)) ?_
      refine va rfl rfl rfl (q_ixn (i := i9) Try.underlying41 Try.sizeOf74 rfl rfl rfl hl14 ((hl.mono hl2).some_ hl14)) ?_
      obtain ⟨A22, c23, hx24⟩ := (hl.mono hl2).recT_at i9
      refine va rfl rfl rfl (q_lda (c := 0) (vs := [.string (gt l i9).key, .slice A22 ((gt l i9).vers).length c23]) (hx24 hl14).2 rfl Try.isAgg74 Try.sizeOf74 rfl rfl rfl) ?_
      refine e_alloc Try.zeroValue74 rfl rfl rfl rfl ?_
      intro g25
      refine va rfl rfl rfl (q_assign (v := .int .i64 ((i9 : Nat) : Int)) rfl (by kernel_rfl)) ?_
      refine e_st (i := 0) (v := .agg #[.string (gt l i9).key, .slice A22 ((gt l i9).vers).length c23]) (new := #[.string (gt l i9).key, .slice A22 ((gt l i9).vers).length c23]) rfl Try.sizeOf74 rfl rfl rfl rfl (by kernel_rfl) rfl rfl rfl rfl ?_
      refine WR.nil ?_
      change WC _ _ _ _ _ _
      refine WC.rs ?_
      refine va rfl rfl rfl (q_move (v := .slice Al l.length cl) rfl (by kernel_rfl)) ?_
      refine va rfl rfl rfl (q_move (v := .int .i64 ((i9 : Nat) : Int)) rfl (by kernel_rfl)) ?_
      refine va rfl rfl rfl (q_add_r (r := ((i9 + 1 : Nat) : Int)) rfl rfl rfl (ctr_len hl14 (hl.mono hl2).le)) ?_
      obtain ⟨hk26, h⟩ := chk_some h
      refine va rfl rfl rfl (q_cut_from (c := cl) (lo := i9 + 1) (xs := l) Try.underlying41 Try.sizeOf74 rfl rfl rfl (of_decide_eq_true hk26)) ?_
      refine va rfl rfl rfl (q_mkfn (v := .func (.func 85) #[] #[.pointer (some ⟨g25, 0, none⟩)]) rfl (by kernel_rfl)) ?_
      obtain ⟨z27, hz28, h⟩ := bnd h
      refine e_call (is := [0]) rfl rfl (call_run Try.call84 rfl rfl (by kernel_rfl)) rfl (fun w hp => t_slices_ContainsFunc_api_Rec_api_Rec_s1 ((hl.mono hl2).cut_from (c := cl) (lo := i9 + 1) (of_decide_eq_true hk26) hlc) (cut_cap hlc (i9 + 1)) ((gt l i9).key) (hx24 hl14).1.1 (hx24 hl14).1.2.2 (hx24 hl14).1.2.1 hp hz28) ?_
      rintro Γ29 U31 v32 hl30 ⟨rfl, rfl, _⟩
      change WR _ _ _ (CC F Γ29 [[(g25, .cells #[.string (gt l i9).key, .slice A22 ((gt l i9).vers).length c23] 74 (0, 0))], row6]) _ _ (upd _ 18 (.bool z27))
      refine va rfl rfl rfl (q_not rfl rfl) ?_
      refine WR.nil ?_
      change WC _ _ _ _ _ _
      refine WC.cif h (by kernel_rfl) (fun hb33 h => ?_) (fun hb33 h => ?_)
      · skip
        refine WC.region ?_
        refine va rfl rfl rfl (q_move (v := .slice A4 out_3.length c5) rfl (by kernel_rfl)) ?_
        refine va rfl rfl rfl (q_ldla (i := 0) (vs := [.string (gt l i9).key, .slice A22 ((gt l i9).vers).length c23]) rfl rfl Try.isAgg74 Try.sizeOf74 rfl rfl) ?_
        refine e_buildSlice (cs := #[.string (gt l i9).key, .slice A22 ((gt l i9).vers).length c23]) (e := 74) rfl rfl rfl rfl (fun w => by kernel_rfl) ?_
        intro g34
        obtain ⟨hk35, h⟩ := chk_some h
        refine e_append (T := recT) (xs := out_3) (ys := [(gt l i9)]) elem_41 (i := 2) rfl rfl rfl rfl rfl rfl rfl (ho7.mono hl30) (of_decide_eq_true hk35) (fun w hw => src_one (T := recT) (y := (gt l i9)) (i := 0) rfl (by exact ⟨A22, c23, rfl, (Rec.fits_mono (hx24 hl14).1 hl30)⟩) hw) ?_
        intro row36 A37 c38 ho39
        refine va rfl rfl rfl (q_assign (v := .slice A37 (out_3 ++ [(gt l i9)]).length c38) rfl (by kernel_rfl)) ?_
        refine WR.nil ?_
        intro w hw
        exact ⟨(out_3 ++ [(gt l i9)]), Γ29, A37, c38, row36, h, (sl_ (by kernel_rfl)), (hw.only (is := [2]) rfl), hl30, ho39, trivial⟩
      · skip
        refine WC.skip ?_
        intro w hw
        exact ⟨out_3, Γ29, A4, c5, row6, h, (sl_ (by kernel_rfl)), (hw.only (is := [1]) rfl), hl30, (ho7.mono hl30), trivial⟩
    · skip
      rintro σ w ⟨out_17, Γ15, A18, c19, row20, h, hsl, hw, hl16, ho21, -⟩
      refine Wpt.slots hsl ?_
      refine WC.here (C := CC F Γ15 [row20]) ?_ hw
      clear hw hsl
      refine WC.region ?_
      refine va rfl rfl rfl (q_add_r (r := ((i9 + 1 : Nat) : Int)) rfl rfl rfl (ctr_len hl14 (hl.mono hl2).le)) ?_
      refine va rfl rfl rfl (q_move (v := .int .i64 ((i9 + 1 : Nat) : Int)) rfl (by kernel_rfl)) ?_
      refine WR.nil ?_
      intro w hw
      exact ⟨hl14, out_17, h, Γ15, A18, c19, row20, (sl_ (by kernel_rfl)), hw, (hl2.trans hl16), ho21, trivial⟩
  · skip
    have h := hge12 (ige hb13)
    refine WC.exit ?_
    change WC _ _ _ _ _ _
    refine WC.rs ?_
    refine va rfl rfl rfl (q_move (v := .slice A4 out_3.length c5) rfl (by kernel_rfl)) ?_
    refine va rfl rfl rfl (q_assign (v := .slice A4 out_3.length c5) rfl (by kernel_rfl)) ?_
    refine WR.nil ?_
    change WC _ _ _ _ _ _
    refine WC.ret ?_
    intro w hw
    obtain rfl := Option.some.inj h
    subst hF
    exact end_e (is := [0]) (by kernel_rfl) hw rfl ⟨A4, c5, row6, rfl, rfl, ho7, trivial⟩
abbrev r_quorum_Scan_Recs_l0 (r : List Rec) (U : List Rowb) (Γ : Gh) (v : Value) : Prop := ∃ (A0 : Option Addr), ∃ (c0 : Nat), ∃ (row0 : Rowb), v = .slice A0 r.length c0 ∧ U = [row0] ∧ Own recT Γ 74 row0 A0 c0 r ∧ True
set_option maxRecDepth 100000 in
set_option maxHeartbeats 400000 in
theorem t_quorum_Scan_Recs_l0 {Γ : Gh} {w0 : World} {B : Gh} {gs_ es_ : Nat} {rows_ : Rowb} {s_ : Oquorum_asking_api_Rec} (hs_ : Oquorum_asking_api_Rec.ob es_ B gs_ rows_ s_) (hs_r : ∀ p ∈ rows_, B p.1 = some p.2) (hp : Pre [] Γ w0) (hpB : Pre [] B w0) {r : List Rec} (h : m_quorum_Scan_Recs_l0 s_ = some r) : Calls Try.prog 38 #[.pointer (some ⟨gs_, 0, none⟩)] w0 (Outc Γ [] w0 (r_quorum_Scan_Recs_l0 r)) := by
  refine calls_of (N := 43) (rs := [2]) (args := [.pointer (some ⟨gs_, 0, none⟩)]) Try.func38 rfl Try.ntmps38 Try.results38 rfl ?_
  obtain ⟨F, hF⟩ : ∃ F : Fm, F = ⟨ids [], w0, Γ⟩ := ⟨_, rfl⟩
  refine WC.here (C := CC F Γ []) ?_ (hF ▸ hp.start)
  have hB : Lent F B := hF ▸ Lent.start hpB
  refine WC.rs ?_
  refine va rfl rfl rfl (q_assign (v := .slice none 0 0) rfl (by kernel_rfl)) ?_
  refine WR.nil ?_
  change WC _ _ _ _ _ _
  refine WC.rs ?_
  refine va rfl rfl rfl (q_assign (v := .slice none 0 0) rfl (by kernel_rfl)) ?_
  refine WR.nil ?_
  change WC _ _ _ _ _ _
  refine WC.seq ?_
  refine WC.rs ?_
  refine va rfl rfl rfl (q_move (v := .pointer (some ⟨gs_, 0, none⟩)) rfl (by kernel_rfl)) ?_
  refine va rfl rfl rfl (q_nil (A := some ⟨gs_, 0, none⟩) rfl rfl rfl) ?_
  refine va rfl rfl rfl (q_fl 0 fld_117_0 rfl rfl rfl) ?_
  refine va rfl rfl rfl (q_fl 0 fld_113_0 rfl rfl rfl) ?_
  have hq := hs_
  obtain ⟨A0_1, c0_1, m2_1, r2_1, hrow_1, ho0_1, ho1_1, ho2_1, ho3_1, -⟩ := hq
  have hg_2 : ∀ u ∈ ([[(gs_, .cells #[.slice A0_1 s_.list.length c0_1, .int .i64 s_.need, .map (some m2_1)] es_ (0, 0))], r2_1] : List Rowb), ∀ p ∈ u, B p.1 = some p.2 := fun u hu p hp => (fun p hp => (hs_r p hp)) p (hrow_1 ▸ List.mem_flatten.2 ⟨u, hu, hp⟩)
  have hgc3 := hg_2 _ (List.mem_cons_self ..) (gs_, _) (List.mem_singleton.2 rfl)
  have hgs4 := hg_2 r2_1 (by simp)
  refine va rfl rfl rfl (q_via (fun w hw => hB.sat hw) fun F => (q_ldg (v := .slice A0_1 s_.list.length c0_1) hgc3 rfl Try.isAgg22 rfl rfl)) ?_
  refine va rfl rfl rfl (q_len_slice rfl Try.underlying22 rfl) ?_
  refine va rfl rfl rfl (q_move (v := .int .i64 0) rfl (by kernel_rfl)) ?_
  refine WR.nil ?_
  change WC _ _ _ _ _ _
  refine WC.block ?_
  refine WC.forI h (fun (i13 : Nat) (all_7 : List Rec) σ w => ∃ (Γ5 : Gh), ∃ (A8 : Option Addr), ∃ (c9 : Nat), ∃ (row10 : Rowb), slots σ [(0, .pointer (some ⟨gs_, 0, none⟩)), (3, .slice A8 all_7.length c9), (14, .slice A0_1 s_.list.length c0_1), (15, .int .i64 ((s_.list.length : Nat) : Int)), (16, .int .i64 ((i13 : Nat) : Int))] ∧ CC F Γ5 [row10] w ∧ Gh.le Γ Γ5 ∧ Own recT Γ5 74 row10 A8 c9 all_7 ∧ True) ?_ ?_
  · skip
    intro w hw
    have hw := hw.pad
    exact ⟨Γ, none, 0, [], (sl_ (by kernel_rfl)), hw, (Gh.refl _), (Own.nil recT _ 74), trivial⟩
  rintro f12 i13 all_7 σ w hi14 hlt15 hge16 ⟨Γ5, A8, c9, row10, hsl, hw, hl6, ho11, -⟩
  refine Wpt.slots hsl ?_
  refine WC.here (C := CC F Γ5 [row10]) ?_ hw
  clear hw hsl
  refine WC.rs ?_
  refine va rfl rfl rfl (q_lss rfl rfl rfl) ?_
  refine WR.nil ?_
  change WC _ _ _ _ _ _
  refine WC.seq ?_
  refine WC.cond (b := (decide (((i13 : Nat) : Int) < ((s_.list.length : Nat) : Int)))) (by kernel_rfl) (fun hb17 => ?_) (fun hb17 => ?_)
  · skip
    have hl18 := ilt hb17
    have h := hlt15 hl18
    refine WC.skip ?_
    change WC _ _ _ _ _ _
    refine WC.seq ?_
    refine WC.block ?_
    refine WC.rs ?_
    refine va rfl rfl rfl (q_ixn (i := i13) Try.underlying22 Try.sizeOf3 rfl rfl rfl hl18 (ho1_1.some_ hl18)) ?_
    refine va rfl rfl rfl (q_ldS (c := 0) (v := .int .i64 (gt s_.list i13)) (fun w hw => hB.sat hw) (ho1_1.intT_at hl18).2 rfl Try.isAgg3 rfl rfl) ?_
    refine va rfl rfl rfl (q_assign (v := .int .i64 (gt s_.list i13)) rfl (by kernel_rfl)) ?_
    refine WR.nil ?_
    change WC _ _ _ _ _ _
    refine WC.rs ?_
    refine va rfl rfl rfl (q_move (v := .slice A8 all_7.length c9) rfl (by kernel_rfl)) ?_
    refine va rfl rfl rfl (q_move (v := .pointer (some ⟨gs_, 0, none⟩)) rfl (by kernel_rfl)) ?_
    refine va rfl rfl rfl (q_nil (A := some ⟨gs_, 0, none⟩) rfl rfl rfl) ?_
    refine va rfl rfl rfl (q_fl 0 fld_117_0 rfl rfl rfl) ?_
    refine va rfl rfl rfl (q_fl 2 fld_113_2 rfl rfl rfl) ?_
    refine va rfl rfl rfl (q_via (fun w hw => hB.sat hw) fun F => (q_ldg (v := .map (some m2_1)) hgc3 rfl Try.isAgg111 rfl rfl)) ?_
    refine va rfl rfl rfl (q_move (v := .int .i64 (gt s_.list i13)) rfl (by kernel_rfl)) ?_
    obtain ⟨v19, ⟨A22, c23, hv20, hc24, hs25⟩, hat21⟩ := MapO.look ho3_1 (gt s_.list i13) (z := .slice none 0 0) (zx := []) ⟨none, 0, rfl, Nat.zero_le _, Sl.nil _ _ _⟩
    obtain rfl : v19 = _ := List.cons.inj hv20 |>.1
    refine va rfl rfl rfl (q_via (fun w hw => hB.sat hw) fun F => (q_lookup1g (v := .slice A22 ((mget (gt s_.list i13) s_.got).getD []).length c23) (fun p hp => (hgs4 p hp)) hat21 rfl Try.underlying111 Try.zeroValue41 rfl rfl)) ?_
    obtain ⟨z26, hz27, h⟩ := bnd h
    refine e_callB (is := []) hB rfl rfl (call_run Try.call65 rfl rfl (by kernel_rfl)) rfl (fun w Θ hp hpB hle hleB hR => t_mend_Take_x (own_lent ho11 hR (List.mem_of_getElem? (i := 0) rfl) hle) ho11.capz (hs25.mono hleB) hc24 hp hpB hz27) ?_
    rintro Γ28 U30 v31 hl29 ⟨A32, c33, row34, rfl, rfl, hr35, hr36, _⟩
    change WR _ _ _ (CC F Γ28 [row34, row10]) _ _ (upd _ 29 (.tuple #[.slice A32 z26.1.length c33, .int .i64 z26.2]))
    refine va rfl rfl rfl (q_move (v := .tuple #[.slice A32 z26.1.length c33, .int .i64 z26.2]) rfl (by kernel_rfl)) ?_
    refine va rfl rfl rfl (q_extract (v := .slice A32 z26.1.length c33) rfl rfl rfl) ?_
    refine va rfl rfl rfl (q_extract (v := .int .i64 z26.2) rfl rfl rfl) ?_
    refine va rfl rfl rfl (q_assign (v := .slice A32 z26.1.length c33) rfl (by kernel_rfl)) ?_
    refine va rfl rfl rfl (q_assign (v := .int .i64 z26.2) rfl (by kernel_rfl)) ?_
    refine WR.nil ?_
    change WC _ _ _ _ _ _
    refine WC.region ?_
    refine va rfl rfl rfl (q_move (v := .slice A8 all_7.length c9) rfl (by kernel_rfl)) ?_
    refine va rfl rfl rfl (q_move (v := .slice A32 z26.1.length c33) rfl (by kernel_rfl)) ?_
    obtain ⟨hk37, h⟩ := chk_some h
    refine e_append (T := recT) (xs := all_7) (ys := z26.1) elem_41 (i := 1) rfl rfl rfl rfl rfl rfl rfl (ho11.mono hl29) (of_decide_eq_true hk37) (fun w hw => src_own (i := 0) rfl hr35 hw) ?_
    intro row38 A39 c40 ho41
    refine va rfl rfl rfl (q_assign (v := .slice A39 (all_7 ++ z26.1).length c40) rfl (by kernel_rfl)) ?_
    refine WR.nil ?_
    change WC _ _ _ _ _ _
    refine WC.region ?_
    refine va rfl rfl rfl (q_add_r (r := ((i13 + 1 : Nat) : Int)) rfl rfl rfl (ctr_len hl18 ho1_1.le)) ?_
    refine va rfl rfl rfl (q_move (v := .int .i64 ((i13 + 1 : Nat) : Int)) rfl (by kernel_rfl)) ?_
    refine WR.nil ?_
    intro w hw
    exact ⟨hl18, (all_7 ++ z26.1), h, Γ28, A39, c40, row38, (sl_ (by kernel_rfl)), (hw.only (is := [1]) rfl), (hl6.trans hl29), ho41, trivial⟩
  · skip
    have h := hge16 (ige hb17)
    refine WC.exit ?_
    change WC _ _ _ _ _ _
    refine WC.rs ?_
    refine va rfl rfl rfl (q_move (v := .slice A8 all_7.length c9) rfl (by kernel_rfl)) ?_
    have hc46 := ho11.capz
    intro w hw; obtain ⟨Γ42, hw, hl43, hr44⟩ := hw.seal (i := 0) rfl; have hs45 := ho11.sl hl43 hr44
    refine WR.here (C := CC F Γ42 [[]]) ?_ hw
    clear hw
    obtain ⟨z47, hz48, h⟩ := bnd h
    refine e_call (is := []) rfl rfl (call_run Try.call66 rfl rfl (by kernel_rfl)) rfl (fun w hp => t_quorum_last hs45 hc46 hp hz48) ?_
    rintro Γ49 U51 v52 hl50 ⟨A53, c54, row55, rfl, rfl, hr56, _⟩
    change WR _ _ _ (CC F Γ49 [row55, []]) _ _ (upd _ 38 (.slice A53 z47.length c54))
    obtain ⟨z57, hz58, h⟩ := bnd h
    refine e_callB (is := []) hB rfl rfl (call_run Try.call65 rfl rfl (by kernel_rfl)) rfl (fun w Θ hp hpB hle hleB hR => t_mend_Take_x (Sl.nil recT _ none) (Nat.zero_le 0) (own_lent hr56 hR (List.mem_of_getElem? (i := 0) rfl) hle) hr56.capz hp hpB hz58) ?_
    rintro Γ59 U61 v62 hl60 ⟨A63, c64, row65, rfl, rfl, hr66, hr67, _⟩
    change WR _ _ _ (CC F Γ59 [row65, row55, []]) _ _ (upd _ 39 (.tuple #[.slice A63 z57.1.length c64, .int .i64 z57.2]))
    refine va rfl rfl rfl (q_move (v := .tuple #[.slice A63 z57.1.length c64, .int .i64 z57.2]) rfl (by kernel_rfl)) ?_
    refine va rfl rfl rfl (q_extract (v := .slice A63 z57.1.length c64) rfl rfl rfl) ?_
    refine va rfl rfl rfl (q_extract (v := .int .i64 z57.2) rfl rfl rfl) ?_
    refine va rfl rfl rfl (q_assign (v := .slice A63 z57.1.length c64) rfl (by kernel_rfl)) ?_
    refine va rfl rfl rfl (q_assign (v := .int .i64 z57.2) rfl (by kernel_rfl)) ?_
    refine WR.nil ?_
    change WC _ _ _ _ _ _
    refine WC.rs ?_
    refine va rfl rfl rfl (q_move (v := .slice A63 z57.1.length c64) rfl (by kernel_rfl)) ?_
    refine va rfl rfl rfl (q_assign (v := .slice A63 z57.1.length c64) rfl (by kernel_rfl)) ?_
    refine WR.nil ?_
    change WC _ _ _ _ _ _
    refine WC.ret ?_
    intro w hw
    obtain rfl := Option.some.inj h
    subst hF
    exact end_e (is := [0]) (by kernel_rfl) hw rfl ⟨A63, c64, row65, rfl, rfl, hr66, trivial⟩
set_option maxRecDepth 100000 in
set_option maxHeartbeats 400000 in
theorem t_firthref06_RightRec {Γ : Gh} {w0 : World} {Ar_1 : Option Addr} {cr_1 : Nat} (r_ : Rec) (hr_ : Rec.fits Γ Ar_1 cr_1 r_) (hs : Sat Γ w0) {r : Bool} (h : m_firthref06_RightRec r_ = some r) : Calls Try.prog 86 #[.agg #[.string r_.key, .slice Ar_1 r_.vers.length cr_1]] w0 (fun e w' => e = .returned (.bool r) ∧ Fr no w0 w') := by
  refine calls_of (N := 17) (rs := [2]) (args := [.agg #[.string r_.key, .slice Ar_1 r_.vers.length cr_1]]) Try.func86 rfl Try.ntmps86 Try.results86 rfl ?_
  obtain ⟨F, hF⟩ : ∃ F : Fm, F = ⟨no, w0, Γ⟩ := ⟨_, rfl⟩
  refine WC.here (C := CC F Γ []) ?_ (hF ▸ Cur.start0 hs)
  refine WC.rs ?_
  refine e_box (v := .agg #[.string r_.key, .slice Ar_1 r_.vers.length cr_1]) rfl rfl rfl rfl (by kernel_rfl) ?_
  intro g1
  refine va rfl rfl rfl (q_assign (v := .bool false) rfl (by kernel_rfl)) ?_
  refine WR.nil ?_
  change WC _ _ _ _ _ _
  refine WC.rs ?_
  refine va rfl rfl rfl (q_fl 0 fld_74_0 rfl rfl rfl) ?_
  refine va rfl rfl rfl (q_ldl (i := 0) (v := .string r_.key) rfl rfl Try.isAgg9 rfl rfl) ?_
  refine va rfl rfl rfl (q_sneq rfl rfl rfl) ?_
  refine va rfl rfl rfl (q_move (v := .bool (r_.key != ByteArray.empty)) rfl (by kernel_rfl)) ?_
  refine vg1 rfl rfl rfl rfl rfl (fun hg2 => QV.qo (q_fl 0 fld_74_0 rfl rfl rfl)) ?_
  refine vg1 rfl rfl rfl rfl rfl (fun hg3 => QV.qo (q_ldl (i := 0) (v := .string r_.key) rfl rfl Try.isAgg9 (gu hg3 rfl) rfl)) ?_
  refine vg1 rfl rfl rfl rfl rfl (fun hg4 => QV.qo (q_len_str rfl Try.underlying9 (gu hg4 rfl))) ?_
  refine vg1 rfl rfl rfl rfl rfl (fun hg5 => QV.qo (q_leq rfl (gu hg5 rfl) rfl)) ?_
  refine va rfl rfl rfl (q_pick rfl rfl (pk_and' (g := (r_.key != ByteArray.empty)) (y := (decide (((r_.key.size : Nat) : Int) ≤ 32))))) ?_
  refine va rfl rfl rfl (q_move (v := .bool ((r_.key != ByteArray.empty) && (decide (((r_.key.size : Nat) : Int) ≤ 32)))) rfl (by kernel_rfl)) ?_
  refine vg1 rfl rfl rfl rfl rfl (fun hg6 => QV.qo (q_fl 1 fld_74_1 rfl rfl rfl)) ?_
  refine vg1 rfl rfl rfl rfl rfl (fun hg7 => QV.qo (q_ldl (i := 0) (v := .slice Ar_1 r_.vers.length cr_1) rfl rfl Try.isAgg40 (gu hg7 rfl) rfl)) ?_
  obtain ⟨z9, hz10, h⟩ := bnd h
  refine vg1 rfl rfl rfl rfl rfl (fun hg8 => (q_call (call_run Try.call30 rfl rfl (args1 (gu hg8 rfl))) (fun w hw => t_firthref05_Right (Γ := Gh.all w) (hr_.2.2.mono hw.sat.le_all) hr_.2.1 (Sat.all w) (gc_of hz10 hg8)))) ?_
  refine va rfl rfl rfl (q_pick rfl rfl (pk_and' (g := ((r_.key != ByteArray.empty) && (decide (((r_.key.size : Nat) : Int) ≤ 32)))) (y := z9))) ?_
  refine va rfl rfl rfl (q_assign (v := .bool (((r_.key != ByteArray.empty) && (decide (((r_.key.size : Nat) : Int) ≤ 32))) && z9)) rfl (by kernel_rfl)) ?_
  refine WR.nil ?_
  change WC _ _ _ _ _ _
  refine WC.ret ?_
  intro w hw
  obtain rfl := Option.some.inj h
  subst hF
  exact ⟨by kernel_rfl, hw.fr⟩
abbrev r_firthref10_With (r : List Rec) (U : List Rowb) (Γ : Gh) (v : Value) : Prop := ∃ (A0 : Option Addr), ∃ (c0 : Nat), ∃ (row0 : Rowb), v = .slice A0 r.length c0 ∧ U = [row0] ∧ Own recT Γ 74 row0 A0 c0 r ∧ True
set_option maxRecDepth 100000 in
set_option maxHeartbeats 400000 in
theorem t_firthref10_With {Γ : Gh} {w0 : World} {Al : Option Addr} {cl : Nat} {l : List Rec} (hl : Sl recT Γ Al l) (hlc : l.length ≤ cl) {Ar_1 : Option Addr} {cr_1 : Nat} (r_ : Rec) (hr_ : Rec.fits Γ Ar_1 cr_1 r_) (hp : Pre [] Γ w0) {r : List Rec} (h : m_firthref10_With l r_ = some r) : Calls Try.prog 69 #[.slice Al l.length cl, .agg #[.string r_.key, .slice Ar_1 r_.vers.length cr_1]] w0 (Outc Γ [] w0 (r_firthref10_With r)) := by
  refine calls_of (N := 56) (rs := [4]) (args := [.slice Al l.length cl, .agg #[.string r_.key, .slice Ar_1 r_.vers.length cr_1]]) Try.func69 rfl Try.ntmps69 Try.results69 rfl ?_
  obtain ⟨F, hF⟩ : ∃ F : Fm, F = ⟨ids [], w0, Γ⟩ := ⟨_, rfl⟩
  refine WC.here (C := CC F Γ []) ?_ (hF ▸ hp.start)
  refine WC.rs ?_
  refine e_box (v := .agg #[.string r_.key, .slice Ar_1 r_.vers.length cr_1]) rfl rfl rfl rfl (by kernel_rfl) ?_
  intro g1
  refine va rfl rfl rfl (q_assign (v := .slice none 0 0) rfl (by kernel_rfl)) ?_
  refine WR.nil ?_
  change WC _ _ _ _ _ _
  refine WC.rs ?_
  refine va rfl rfl rfl (q_assign (v := .slice none 0 0) rfl (by kernel_rfl)) ?_
  refine WR.nil ?_
  change WC _ _ _ _ _ _
  refine WC.rs ?_
  refine va rfl rfl rfl (q_fl 1 fld_74_1 rfl rfl rfl) ?_
  refine va rfl rfl rfl (q_ldl (i := 0) (v := .slice Ar_1 r_.vers.length cr_1) rfl rfl Try.isAgg40 rfl rfl) ?_
  refine va rfl rfl rfl (q_len_slice rfl Try.underlying40 rfl) ?_
  refine va rfl rfl rfl (q_eql rfl rfl rfl) ?_
  refine va rfl rfl rfl (q_assign (v := .bool (((r_.vers.length : Nat) : Int) == 0)) rfl (by kernel_rfl)) ?_
  refine WR.nil ?_
  change WC _ _ _ _ _ _
  refine WC.seq ?_
  refine WC.rs ?_
  refine va rfl rfl rfl (q_assign (v := .int .i64 0) rfl (by kernel_rfl)) ?_
  refine WR.nil ?_
  change WC _ _ _ _ _ _
  refine WC.block ?_
  refine WC.forI h (fun (i9 : Nat) (s : (List Rec) × Bool) σ w => match s with | (out_2, laid_7) => ∃ (A3 : Option Addr), ∃ (c4 : Nat), ∃ (row5 : Rowb), slots σ [(0, .slice Al l.length cl), (3, .pointer (some ⟨g1, 0, none⟩)), (5, .slice A3 out_2.length c4), (6, .bool laid_7), (7, .int .i64 ((i9 : Nat) : Int))] ∧ CC F Γ [row5, [(g1, .cells #[.string r_.key, .slice Ar_1 r_.vers.length cr_1] 74 (0, 0))]] w ∧ Own recT Γ 74 row5 A3 c4 out_2 ∧ True) ?_ ?_
  · skip
    intro w hw
    have hw := hw.pad
    exact ⟨none, 0, [], (sl_ (by kernel_rfl)), hw, (Own.nil recT _ 74), trivial⟩
  rintro f8 i9 ⟨out_2, laid_7⟩ σ w hi10 hlt11 hge12 ⟨A3, c4, row5, hsl, hw, ho6, -⟩
  refine Wpt.slots hsl ?_
  refine WC.here (C := CC F Γ [row5, [(g1, .cells #[.string r_.key, .slice Ar_1 r_.vers.length cr_1] 74 (0, 0))]]) ?_ hw
  clear hw hsl
  refine WC.seq ?_
  refine WC.rs ?_
  refine va rfl rfl rfl (q_move (v := .int .i64 ((i9 : Nat) : Int)) rfl (by kernel_rfl)) ?_
  refine va rfl rfl rfl (q_move (v := .slice Al l.length cl) rfl (by kernel_rfl)) ?_
  refine va rfl rfl rfl (q_len_slice rfl Try.underlying41 rfl) ?_
  refine va rfl rfl rfl (q_lss rfl rfl rfl) ?_
  refine WR.nil ?_
  change WC _ _ _ _ _ _
  refine WC.cond (b := (decide (((i9 : Nat) : Int) < ((l.length : Nat) : Int)))) (by kernel_rfl) (fun hb13 => ?_) (fun hb13 => ?_)
  · skip
    have hl14 := ilt hb13
    have h := hlt11 hl14
    refine WC.skip ?_
    change WC _ _ _ _ _ _
    refine WC.cut (fun σ w => ∃ (out_15 : List Rec), ∃ (laid_20 : Bool), ∃ (A16 : Option Addr), ∃ (c17 : Nat), ∃ (row18 : Rowb), m_firthref10_With_j11 f8 out_15 laid_20 = some r ∧ slots σ [(0, .slice Al l.length cl), (3, .pointer (some ⟨g1, 0, none⟩)), (5, .slice A16 out_15.length c17), (6, .bool laid_20), (7, .int .i64 ((i9 : Nat) : Int))] ∧ CC F Γ [row18, [(g1, .cells #[.string r_.key, .slice Ar_1 r_.vers.length cr_1] 74 (0, 0))]] w ∧ Own recT Γ 74 row18 A16 c17 out_15 ∧ True) ?_ ?_
    · skip
      refine WC.block ?_
      refine WC.seq ?_
      refine WC.seq ?_
      refine WC.dr (by kernel_rfl) (by kernel_rfl) (fun w hw => hw.drawn _) ?_
      refine wa rfl rfl rfl (q_move (v := .slice Al l.length cl) rfl (by kernel_rfl)) ?_
      refine wa rfl rfl rfl (q_move (v := .int .i64 ((i9 : Nat) : Int)) rfl (by kernel_rfl)) ?_
      refine wa rfl rfl rfl (q_ixn (i := i9) Try.underlying41 Try.sizeOf74 rfl rfl rfl hl14 (hl.some_ hl14)) ?_
      refine wa rfl rfl rfl (q_field_addr (i9 * 2) fld_74_0 rfl rfl (hl.some_ hl14) rfl) ?_
      obtain ⟨A21, c22, hx23⟩ := hl.recT_at i9
      refine wa rfl rfl rfl (q_ld (c := 0) (v := .string (gt l i9).key) (hx23 hl14).2 rfl Try.isAgg9 rfl rfl) ?_
      refine wa rfl rfl rfl (q_fl 0 fld_74_0 rfl rfl rfl) ?_
      refine wa rfl rfl rfl (q_ldl (i := 1) (v := .string r_.key) rfl rfl Try.isAgg9 rfl rfl) ?_
      refine wa rfl rfl rfl (q_seql rfl rfl rfl) ?_
      refine WQ.nil ?_
      change WC _ _ _ _ _ _
      refine WC.cif h (by kernel_rfl) (fun hb24 h => ?_) (fun hb24 h => ?_)
      · skip
        refine WC.exit ?_
        intro w hw
        exact ⟨out_2, laid_7, A3, c4, row5, h, (sl_ (by kernel_rfl)), hw, ho6, trivial⟩
      · skip
        refine WC.skip ?_
        change WC _ _ _ _ _ _
        refine WC.cut (fun σ w => ∃ (out_25 : List Rec), ∃ (laid_30 : Bool), ∃ (A26 : Option Addr), ∃ (c27 : Nat), ∃ (row28 : Rowb), m_firthref10_With_j13 l f8 i9 out_25 laid_30 = some r ∧ slots σ [(0, .slice Al l.length cl), (3, .pointer (some ⟨g1, 0, none⟩)), (5, .slice A26 out_25.length c27), (6, .bool laid_30), (7, .int .i64 ((i9 : Nat) : Int))] ∧ CC F Γ [row28, [(g1, .cells #[.string r_.key, .slice Ar_1 r_.vers.length cr_1] 74 (0, 0))]] w ∧ Own recT Γ 74 row28 A26 c27 out_25 ∧ True) ?_ ?_
        · skip
          refine WC.seq ?_
          refine WC.dr (by kernel_rfl) (by kernel_rfl) (fun w hw => hw.drawn _) ?_
          refine wa rfl rfl rfl (q_move (v := .bool laid_7) rfl (by kernel_rfl)) ?_
          refine wa rfl rfl rfl (q_not rfl rfl) ?_
          refine wa rfl rfl rfl (q_move (v := .bool (!laid_7)) rfl (by kernel_rfl)) ?_
          refine wg1 rfl rfl rfl rfl rfl (fun hg31 => QV.qo (q_fl 0 fld_74_0 rfl rfl rfl)) ?_
          refine wg1 rfl rfl rfl rfl rfl (fun hg32 => QV.qo (q_ldl (i := 1) (v := .string r_.key) rfl rfl Try.isAgg9 (gu hg32 rfl) rfl)) ?_
          refine wg1 rfl rfl rfl rfl rfl (fun hg33 => QV.qo (q_move (v := .slice Al l.length cl) rfl (by kernel_rfl))) ?_
          refine wg1 rfl rfl rfl rfl rfl (fun hg34 => QV.qo (q_move (v := .int .i64 ((i9 : Nat) : Int)) rfl (by kernel_rfl))) ?_
          refine wg1 rfl rfl rfl rfl rfl (fun hg35 => QV.qo (q_ixn (i := i9) Try.underlying41 Try.sizeOf74 rfl (gu hg35 rfl) (gu hg35 rfl) hl14 (hl.some_ hl14))) ?_
          refine wg1 rfl rfl rfl rfl rfl (fun hg36 => QV.qo (q_field_addr (i9 * 2) fld_74_0 rfl (gu hg36 rfl) (hl.some_ hl14) rfl)) ?_
          refine wg1 rfl rfl rfl rfl rfl (fun hg37 => QV.qo (q_ld (c := 0) (v := .string (gt l i9).key) (hx23 hl14).2 rfl Try.isAgg9 (gu hg37 rfl) rfl)) ?_
          refine wg1 rfl rfl rfl rfl rfl (fun hg38 => QV.qo (q_slss rfl (gu hg38 rfl) (gu hg38 rfl))) ?_
          refine wa rfl rfl rfl (q_pick rfl rfl (pk_and' (g := (!laid_7)) (y := (strLt r_.key ((gt l i9).key))))) ?_
          refine WQ.nil ?_
          change WC _ _ _ _ _ _
          refine WC.cif h (by kernel_rfl) (fun hb39 h => ?_) (fun hb39 h => ?_)
          · skip
            refine WC.rs ?_
            refine va rfl rfl rfl (q_move (v := .slice A3 out_2.length c4) rfl (by kernel_rfl)) ?_
            refine va rfl rfl rfl (q_ldla (i := 1) (vs := [.string r_.key, .slice Ar_1 r_.vers.length cr_1]) rfl rfl Try.isAgg74 Try.sizeOf74 rfl rfl) ?_
            refine e_buildSlice (cs := #[.string r_.key, .slice Ar_1 r_.vers.length cr_1]) (e := 74) rfl rfl rfl rfl (fun w => by kernel_rfl) ?_
            intro g40
            obtain ⟨hk41, h⟩ := chk_some h
            refine e_append (T := recT) (xs := out_2) (ys := [r_]) elem_41 (i := 1) rfl rfl rfl rfl rfl rfl rfl ho6 (of_decide_eq_true hk41) (fun w hw => src_one (T := recT) (y := r_) (i := 0) rfl (by exact ⟨Ar_1, cr_1, rfl, hr_⟩) hw) ?_
            intro row42 A43 c44 ho45
            refine va rfl rfl rfl (q_assign (v := .slice A43 (out_2 ++ [r_]).length c44) rfl (by kernel_rfl)) ?_
            refine WR.nil ?_
            change WC _ _ _ _ _ _
            refine WC.region ?_
            refine va rfl rfl rfl (q_assign (v := .bool true) rfl (by kernel_rfl)) ?_
            refine WR.nil ?_
            intro w hw
            exact ⟨(out_2 ++ [r_]), true, A43, c44, row42, h, (sl_ (by kernel_rfl)), (hw.only (is := [1, 1]) rfl), ho45, trivial⟩
          · skip
            refine WC.skip ?_
            intro w hw
            exact ⟨out_2, laid_7, A3, c4, row5, h, (sl_ (by kernel_rfl)), hw, ho6, trivial⟩
        · skip
          rintro σ w ⟨out_25, laid_30, A26, c27, row28, h, hsl, hw, ho29, -⟩
          refine Wpt.slots hsl ?_
          refine WC.here (C := CC F Γ [row28, [(g1, .cells #[.string r_.key, .slice Ar_1 r_.vers.length cr_1] 74 (0, 0))]]) ?_ hw
          clear hw hsl
          refine WC.region ?_
          refine va rfl rfl rfl (q_move (v := .slice A26 out_25.length c27) rfl (by kernel_rfl)) ?_
          refine va rfl rfl rfl (q_move (v := .slice Al l.length cl) rfl (by kernel_rfl)) ?_
          refine va rfl rfl rfl (q_move (v := .int .i64 ((i9 : Nat) : Int)) rfl (by kernel_rfl)) ?_
          refine va rfl rfl rfl (q_ixn (i := i9) Try.underlying41 Try.sizeOf74 rfl rfl rfl hl14 (hl.some_ hl14)) ?_
          obtain ⟨A46, c47, hx48⟩ := hl.recT_at i9
          refine va rfl rfl rfl (q_lda (c := 0) (vs := [.string (gt l i9).key, .slice A46 ((gt l i9).vers).length c47]) (hx48 hl14).2 rfl Try.isAgg74 Try.sizeOf74 rfl rfl rfl) ?_
          refine e_buildSlice (cs := #[.string (gt l i9).key, .slice A46 ((gt l i9).vers).length c47]) (e := 74) rfl rfl rfl rfl (fun w => by kernel_rfl) ?_
          intro g49
          obtain ⟨hk50, h⟩ := chk_some h
          refine e_append (T := recT) (xs := out_25) (ys := [(gt l i9)]) elem_41 (i := 1) rfl rfl rfl rfl rfl rfl rfl ho29 (of_decide_eq_true hk50) (fun w hw => src_one (T := recT) (y := (gt l i9)) (i := 0) rfl (by exact ⟨A46, c47, rfl, (hx48 hl14).1⟩) hw) ?_
          intro row51 A52 c53 ho54
          refine va rfl rfl rfl (q_assign (v := .slice A52 (out_25 ++ [(gt l i9)]).length c53) rfl (by kernel_rfl)) ?_
          refine WR.nil ?_
          intro w hw
          exact ⟨(out_25 ++ [(gt l i9)]), laid_30, A52, c53, row51, h, (sl_ (by kernel_rfl)), (hw.only (is := [1, 1]) rfl), ho54, trivial⟩
    · skip
      rintro σ w ⟨out_15, laid_20, A16, c17, row18, h, hsl, hw, ho19, -⟩
      refine Wpt.slots hsl ?_
      refine WC.here (C := CC F Γ [row18, [(g1, .cells #[.string r_.key, .slice Ar_1 r_.vers.length cr_1] 74 (0, 0))]]) ?_ hw
      clear hw hsl
      refine WC.region ?_
      refine va rfl rfl rfl (q_move (v := .int .i64 ((i9 : Nat) : Int)) rfl (by kernel_rfl)) ?_
      refine va rfl rfl rfl (q_add_r (r := ((i9 + 1 : Nat) : Int)) rfl rfl rfl (ctr_len hl14 hl.le)) ?_
      refine va rfl rfl rfl (q_assign (v := .int .i64 ((i9 + 1 : Nat) : Int)) rfl (by kernel_rfl)) ?_
      refine WR.nil ?_
      intro w hw
      exact ⟨hl14, (out_15, laid_20), h, A16, c17, row18, (sl_ (by kernel_rfl)), hw, ho19, trivial⟩
  · skip
    have h := hge12 (ige hb13)
    refine WC.exit ?_
    change WC _ _ _ _ _ _
    refine WC.seq ?_
    refine WC.rs ?_
    refine va rfl rfl rfl (q_move (v := .bool laid_7) rfl (by kernel_rfl)) ?_
    refine va rfl rfl rfl (q_not rfl rfl) ?_
    refine WR.nil ?_
    change WC _ _ _ _ _ _
    refine WC.cif h (by kernel_rfl) (fun hb55 h => ?_) (fun hb55 h => ?_)
    · skip
      refine WC.region ?_
      refine va rfl rfl rfl (q_move (v := .slice A3 out_2.length c4) rfl (by kernel_rfl)) ?_
      refine va rfl rfl rfl (q_ldla (i := 1) (vs := [.string r_.key, .slice Ar_1 r_.vers.length cr_1]) rfl rfl Try.isAgg74 Try.sizeOf74 rfl rfl) ?_
      refine e_buildSlice (cs := #[.string r_.key, .slice Ar_1 r_.vers.length cr_1]) (e := 74) rfl rfl rfl rfl (fun w => by kernel_rfl) ?_
      intro g56
      obtain ⟨hk57, h⟩ := chk_some h
      refine e_append (T := recT) (xs := out_2) (ys := [r_]) elem_41 (i := 1) rfl rfl rfl rfl rfl rfl rfl ho6 (of_decide_eq_true hk57) (fun w hw => src_one (T := recT) (y := r_) (i := 0) rfl (by exact ⟨Ar_1, cr_1, rfl, hr_⟩) hw) ?_
      intro row58 A59 c60 ho61
      refine va rfl rfl rfl (q_assign (v := .slice A59 (out_2 ++ [r_]).length c60) rfl (by kernel_rfl)) ?_
      refine WR.nil ?_
      change WC _ _ _ _ _ _
      refine WC.rs ?_
      refine va rfl rfl rfl (q_move (v := .slice A59 (out_2 ++ [r_]).length c60) rfl (by kernel_rfl)) ?_
      refine va rfl rfl rfl (q_assign (v := .slice A59 (out_2 ++ [r_]).length c60) rfl (by kernel_rfl)) ?_
      refine WR.nil ?_
      change WC _ _ _ _ _ _
      refine WC.ret ?_
      intro w hw
      obtain rfl := Option.some.inj h
      subst hF
      exact end_e (is := [1]) (by kernel_rfl) hw rfl ⟨A59, c60, row58, rfl, rfl, ho61, trivial⟩
    · skip
      refine WC.skip ?_
      change WC _ _ _ _ _ _
      refine WC.rs ?_
      refine va rfl rfl rfl (q_move (v := .slice A3 out_2.length c4) rfl (by kernel_rfl)) ?_
      refine va rfl rfl rfl (q_assign (v := .slice A3 out_2.length c4) rfl (by kernel_rfl)) ?_
      refine WR.nil ?_
      change WC _ _ _ _ _ _
      refine WC.ret ?_
      intro w hw
      obtain rfl := Option.some.inj h
      subst hF
      exact end_e (is := [0]) (by kernel_rfl) hw rfl ⟨A3, c4, row5, rfl, rfl, ho6, trivial⟩
abbrev r_firthref14_Held (r : (List Rec) × Bool) (U : List Rowb) (Γ : Gh) (v : Value) : Prop := ∃ (A0 : Option Addr), ∃ (c0 : Nat), ∃ (row0 : Rowb), v = .tuple #[.slice A0 r.1.length c0, .bool r.2] ∧ U = [row0] ∧ Own recT Γ 74 row0 A0 c0 r.1 ∧ True
set_option maxRecDepth 100000 in
set_option maxHeartbeats 400000 in
theorem t_firthref14_Held {Γ : Gh} {w0 : World} {Al : Option Addr} {cl : Nat} {l : List Rec} (hl : Sl recT Γ Al l) (hlc : l.length ≤ cl) (hp : Pre [] Γ w0) {r : (List Rec) × Bool} (h : m_firthref14_Held l = some r) : Calls Try.prog 67 #[.slice Al l.length cl] w0 (Outc Γ [] w0 (r_firthref14_Held r)) := by
  refine calls_of (N := 25) (rs := [2, 3]) (args := [.slice Al l.length cl]) Try.func67 rfl Try.ntmps67 Try.results67 rfl ?_
  obtain ⟨F, hF⟩ : ∃ F : Fm, F = ⟨ids [], w0, Γ⟩ := ⟨_, rfl⟩
  refine WC.here (C := CC F Γ []) ?_ (hF ▸ hp.start)
  refine WC.rs ?_
  refine va rfl rfl rfl (q_assign (v := .slice none 0 0) rfl (by kernel_rfl)) ?_
  refine va rfl rfl rfl (q_assign (v := .bool false) rfl (by kernel_rfl)) ?_
  refine WR.nil ?_
  change WC _ _ _ _ _ _
  refine WC.rs ?_
  refine va rfl rfl rfl (q_assign (v := .slice none 0 0) rfl (by kernel_rfl)) ?_
  refine WR.nil ?_
  change WC _ _ _ _ _ _
  refine WC.seq ?_
  refine WC.rs ?_
  refine va rfl rfl rfl (q_assign (v := .int .i64 0) rfl (by kernel_rfl)) ?_
  refine WR.nil ?_
  change WC _ _ _ _ _ _
  refine WC.block ?_
  refine WC.forI h (fun (i9 : Nat) (out_3 : List Rec) σ w => ∃ (Γ1 : Gh), ∃ (A4 : Option Addr), ∃ (c5 : Nat), ∃ (row6 : Rowb), slots σ [(0, .slice Al l.length cl), (4, .slice A4 out_3.length c5), (5, .int .i64 ((i9 : Nat) : Int))] ∧ CC F Γ1 [row6] w ∧ Gh.le Γ Γ1 ∧ Own recT Γ1 74 row6 A4 c5 out_3 ∧ True) ?_ ?_
  · skip
    intro w hw
    have hw := hw.pad
    exact ⟨Γ, none, 0, [], (sl_ (by kernel_rfl)), hw, (Gh.refl _), (Own.nil recT _ 74), trivial⟩
  rintro f8 i9 out_3 σ w hi10 hlt11 hge12 ⟨Γ1, A4, c5, row6, hsl, hw, hl2, ho7, -⟩
  refine Wpt.slots hsl ?_
  refine WC.here (C := CC F Γ1 [row6]) ?_ hw
  clear hw hsl
  refine WC.seq ?_
  refine WC.rs ?_
  refine va rfl rfl rfl (q_move (v := .int .i64 ((i9 : Nat) : Int)) rfl (by kernel_rfl)) ?_
  refine va rfl rfl rfl (q_move (v := .slice Al l.length cl) rfl (by kernel_rfl)) ?_
  refine va rfl rfl rfl (q_len_slice rfl Try.underlying41 rfl) ?_
  refine va rfl rfl rfl (q_lss rfl rfl rfl) ?_
  refine WR.nil ?_
  change WC _ _ _ _ _ _
  refine WC.cond (b := (decide (((i9 : Nat) : Int) < ((l.length : Nat) : Int)))) (by kernel_rfl) (fun hb13 => ?_) (fun hb13 => ?_)
  · skip
    have hl14 := ilt hb13
    have h := hlt11 hl14
    refine WC.skip ?_
    change WC _ _ _ _ _ _
    refine WC.seq ?_
    refine WC.block ?_
    refine WC.seq ?_
    refine WC.rs ?_
    refine va rfl rfl rfl (q_move (v := .slice Al l.length cl) rfl (by kernel_rfl)) ?_
    refine va rfl rfl rfl (q_move (v := .int .i64 ((i9 : Nat) : Int)) rfl (by kernel_rfl)) ?_
    refine va rfl rfl rfl (q_ixn (i := i9) Try.underlying41 Try.sizeOf74 rfl rfl rfl hl14 ((hl.mono hl2).some_ hl14)) ?_
    obtain ⟨A15, c16, hx17⟩ := (hl.mono hl2).recT_at i9
    refine va rfl rfl rfl (q_lda (c := 0) (vs := [.string (gt l i9).key, .slice A15 ((gt l i9).vers).length c16]) (hx17 hl14).2 rfl Try.isAgg74 Try.sizeOf74 rfl rfl rfl) ?_
    obtain ⟨z18, hz19, h⟩ := bnd h
    refine vc rfl rfl rfl (q_call (call_run Try.call86 rfl rfl (by kernel_rfl)) (fun w hw => t_firthref06_RightRec (Γ := Gh.all w) (gt l i9) (Rec.fits_mono (hx17 hl14).1 hw.sat.le_all) (Sat.all w) hz19)) ?_
    refine va rfl rfl rfl (q_not rfl rfl) ?_
    refine WR.nil ?_
    change WC _ _ _ _ _ _
    refine WC.cif h (by kernel_rfl) (fun hb20 h => ?_) (fun hb20 h => ?_)
    · skip
      refine WC.rs ?_
      refine va rfl rfl rfl (q_assign (v := .slice none 0 0) rfl (by kernel_rfl)) ?_
      refine va rfl rfl rfl (q_assign (v := .bool false) rfl (by kernel_rfl)) ?_
      refine WR.nil ?_
      change WC _ _ _ _ _ _
      refine WC.ret ?_
      intro w hw
      have hw := hw.pad
      obtain rfl := Option.some.inj h
      subst hF
      exact end_e (is := [0]) (by kernel_rfl) hw rfl ⟨none, 0, [], rfl, rfl, (Own.nil recT _ 74), trivial⟩
    · skip
      refine WC.skip ?_
      change WC _ _ _ _ _ _
      refine WC.region ?_
      refine va rfl rfl rfl (q_move (v := .slice A4 out_3.length c5) rfl (by kernel_rfl)) ?_
      refine va rfl rfl rfl (q_move (v := .slice Al l.length cl) rfl (by kernel_rfl)) ?_
      refine va rfl rfl rfl (q_move (v := .int .i64 ((i9 : Nat) : Int)) rfl (by kernel_rfl)) ?_
      refine va rfl rfl rfl (q_ixn (i := i9) Try.underlying41 Try.sizeOf74 rfl rfl rfl hl14 ((hl.mono hl2).some_ hl14)) ?_
      refine va rfl rfl rfl (q_lda (c := 0) (vs := [.string (gt l i9).key, .slice A15 ((gt l i9).vers).length c16]) (hx17 hl14).2 rfl Try.isAgg74 Try.sizeOf74 rfl rfl rfl) ?_
      have hc25 := ho7.capz
      intro w hw; obtain ⟨Γ21, hw, hl22, hr23⟩ := hw.seal (i := 0) rfl; have hs24 := ho7.sl hl22 hr23
      refine WR.here (C := CC F Γ21 [[]]) ?_ hw
      clear hw
      obtain ⟨z26, hz27, h⟩ := bnd h
      refine e_call (is := []) rfl rfl (call_run Try.call69 rfl rfl (by kernel_rfl)) rfl (fun w hp => t_firthref10_With hs24 hc25 (gt l i9) (Rec.fits_mono (hx17 hl14).1 hl22) hp hz27) ?_
      rintro Γ28 U30 v31 hl29 ⟨A32, c33, row34, rfl, rfl, hr35, _⟩
      change WR _ _ _ (CC F Γ28 [row34, []]) _ _ (upd _ 23 (.slice A32 z26.length c33))
      refine va rfl rfl rfl (q_assign (v := .slice A32 z26.length c33) rfl (by kernel_rfl)) ?_
      refine WR.nil ?_
      change WC _ _ _ _ _ _
      refine WC.region ?_
      refine va rfl rfl rfl (q_move (v := .int .i64 ((i9 : Nat) : Int)) rfl (by kernel_rfl)) ?_
      refine va rfl rfl rfl (q_add_r (r := ((i9 + 1 : Nat) : Int)) rfl rfl rfl (ctr_len hl14 (hl.mono hl2).le)) ?_
      refine va rfl rfl rfl (q_assign (v := .int .i64 ((i9 + 1 : Nat) : Int)) rfl (by kernel_rfl)) ?_
      refine WR.nil ?_
      intro w hw
      exact ⟨hl14, z26, h, Γ28, A32, c33, row34, (sl_ (by kernel_rfl)), (hw.only (is := [0]) rfl), ((hl2.trans hl22).trans hl29), hr35, trivial⟩
  · skip
    have h := hge12 (ige hb13)
    refine WC.exit ?_
    change WC _ _ _ _ _ _
    refine WC.rs ?_
    refine va rfl rfl rfl (q_move (v := .slice A4 out_3.length c5) rfl (by kernel_rfl)) ?_
    refine va rfl rfl rfl (q_assign (v := .slice A4 out_3.length c5) rfl (by kernel_rfl)) ?_
    refine va rfl rfl rfl (q_assign (v := .bool true) rfl (by kernel_rfl)) ?_
    refine WR.nil ?_
    change WC _ _ _ _ _ _
    refine WC.ret ?_
    intro w hw
    obtain rfl := Option.some.inj h
    subst hF
    exact end_e (is := [0]) (by kernel_rfl) hw rfl ⟨A4, c5, row6, rfl, rfl, ho7, trivial⟩
abbrev r_firthref14_Get (r : List Ver) (U : List Rowb) (Γ : Gh) (v : Value) : Prop := ∃ (A0 : Option Addr), ∃ (c0 : Nat), v = .slice A0 r.length c0 ∧ U = [] ∧ r.length ≤ c0 ∧ Sl verT Γ A0 r ∧ True
set_option maxRecDepth 100000 in
set_option maxHeartbeats 400000 in
theorem t_firthref14_Get {Γ : Gh} {w0 : World} {Al : Option Addr} {cl : Nat} {l : List Rec} (hl : Sl recT Γ Al l) (hlc : l.length ≤ cl) (key : ByteArray) (hkey : key.size ≤ lim) (hp : Pre [] Γ w0) {r : List Ver} (h : m_firthref14_Get l key = some r) : Calls Try.prog 68 #[.slice Al l.length cl, .string key] w0 (Outc Γ [] w0 (r_firthref14_Get r)) := by
  refine calls_of (N := 24) (rs := [4]) (args := [.slice Al l.length cl, .string key]) Try.func68 rfl Try.ntmps68 Try.results68 rfl ?_
  obtain ⟨F, hF⟩ : ∃ F : Fm, F = ⟨ids [], w0, Γ⟩ := ⟨_, rfl⟩
  refine WC.here (C := CC F Γ []) ?_ (hF ▸ hp.start)
  refine WC.rs ?_
  refine va rfl rfl rfl (q_assign (v := .slice none 0 0) rfl (by kernel_rfl)) ?_
  refine WR.nil ?_
  change WC _ _ _ _ _ _
  refine WC.seq ?_
  refine WC.rs ?_
  refine va rfl rfl rfl (q_assign (v := .int .i64 0) rfl (by kernel_rfl)) ?_
  refine WR.nil ?_
  change WC _ _ _ _ _ _
  refine WC.block ?_
  refine WC.forI h (fun (i2 : Nat) (s : Unit) σ w => match s with | () => slots σ [(0, .slice Al l.length cl), (1, .string key), (5, .int .i64 ((i2 : Nat) : Int))] ∧ CC F Γ [] w ∧ True) ?_ ?_
  · skip
    intro w hw
    exact ⟨(sl_ (by kernel_rfl)), hw, trivial⟩
  rintro f1 i2 ⟨⟩ σ w hi3 hlt4 hge5 ⟨hsl, hw, -⟩
  refine Wpt.slots hsl ?_
  refine WC.here (C := CC F Γ []) ?_ hw
  clear hw hsl
  refine WC.seq ?_
  refine WC.rs ?_
  refine va rfl rfl rfl (q_move (v := .int .i64 ((i2 : Nat) : Int)) rfl (by kernel_rfl)) ?_
  refine va rfl rfl rfl (q_move (v := .slice Al l.length cl) rfl (by kernel_rfl)) ?_
  refine va rfl rfl rfl (q_len_slice rfl Try.underlying41 rfl) ?_
  refine va rfl rfl rfl (q_lss rfl rfl rfl) ?_
  refine WR.nil ?_
  change WC _ _ _ _ _ _
  refine WC.cond (b := (decide (((i2 : Nat) : Int) < ((l.length : Nat) : Int)))) (by kernel_rfl) (fun hb6 => ?_) (fun hb6 => ?_)
  · skip
    have hl7 := ilt hb6
    have h := hlt4 hl7
    refine WC.skip ?_
    change WC _ _ _ _ _ _
    refine WC.seq ?_
    refine WC.block ?_
    refine WC.rs ?_
    refine va rfl rfl rfl (q_move (v := .slice Al l.length cl) rfl (by kernel_rfl)) ?_
    refine va rfl rfl rfl (q_move (v := .int .i64 ((i2 : Nat) : Int)) rfl (by kernel_rfl)) ?_
    refine va rfl rfl rfl (q_ixn (i := i2) Try.underlying41 Try.sizeOf74 rfl rfl rfl hl7 (hl.some_ hl7)) ?_
    refine va rfl rfl rfl (q_field_addr (i2 * 2) fld_74_0 rfl rfl (hl.some_ hl7) rfl) ?_
    obtain ⟨A8, c9, hx10⟩ := hl.recT_at i2
    refine va rfl rfl rfl (q_ld (c := 0) (v := .string (gt l i2).key) (hx10 hl7).2 rfl Try.isAgg9 rfl rfl) ?_
    refine va rfl rfl rfl (q_move (v := .string key) rfl (by kernel_rfl)) ?_
    refine va rfl rfl rfl (q_seql rfl rfl rfl) ?_
    refine WR.nil ?_
    change WC _ _ _ _ _ _
    refine WC.cif h (by kernel_rfl) (fun hb11 h => ?_) (fun hb11 h => ?_)
    · skip
      refine WC.rs ?_
      refine va rfl rfl rfl (q_move (v := .slice Al l.length cl) rfl (by kernel_rfl)) ?_
      refine va rfl rfl rfl (q_move (v := .int .i64 ((i2 : Nat) : Int)) rfl (by kernel_rfl)) ?_
      refine va rfl rfl rfl (q_ixn (i := i2) Try.underlying41 Try.sizeOf74 rfl rfl rfl hl7 (hl.some_ hl7)) ?_
      refine va rfl rfl rfl (q_field_addr (i2 * 2 + 1) fld_74_1 rfl rfl (hl.some_ hl7) rfl) ?_
      refine va rfl rfl rfl (q_ld (c := 1) (v := .slice A8 ((gt l i2).vers).length c9) (hx10 hl7).2 rfl Try.isAgg40 rfl rfl) ?_
      refine va rfl rfl rfl (q_assign (v := .slice A8 ((gt l i2).vers).length c9) rfl (by kernel_rfl)) ?_
      refine WR.nil ?_
      change WC _ _ _ _ _ _
      refine WC.ret ?_
      intro w hw
      obtain rfl := Option.some.inj h
      subst hF
      exact end_e (is := []) (by kernel_rfl) hw rfl ⟨A8, c9, rfl, rfl, (hx10 hl7).1.2.1, (hx10 hl7).1.2.2, trivial⟩
    · skip
      refine WC.skip ?_
      change WC _ _ _ _ _ _
      refine WC.region ?_
      refine va rfl rfl rfl (q_move (v := .int .i64 ((i2 : Nat) : Int)) rfl (by kernel_rfl)) ?_
      refine va rfl rfl rfl (q_add_r (r := ((i2 + 1 : Nat) : Int)) rfl rfl rfl (ctr_len hl7 hl.le)) ?_
      refine va rfl rfl rfl (q_assign (v := .int .i64 ((i2 + 1 : Nat) : Int)) rfl (by kernel_rfl)) ?_
      refine WR.nil ?_
      intro w hw
      exact ⟨hl7, (), h, (sl_ (by kernel_rfl)), hw, trivial⟩
  · skip
    have h := hge5 (ige hb6)
    refine WC.exit ?_
    change WC _ _ _ _ _ _
    refine WC.rs ?_
    refine va rfl rfl rfl (q_assign (v := .slice none 0 0) rfl (by kernel_rfl)) ?_
    refine WR.nil ?_
    change WC _ _ _ _ _ _
    refine WC.ret ?_
    intro w hw
    obtain rfl := Option.some.inj h
    subst hF
    exact end_e (is := []) (by kernel_rfl) hw rfl ⟨none, 0, rfl, rfl, (Nat.zero_le 0), (Sl.nil verT _ none), trivial⟩
abbrev r_firthref05_put (r : List Ver) (U : List Rowb) (Γ : Gh) (v : Value) : Prop := ∃ (A0 : Option Addr), ∃ (c0 : Nat), v = .slice A0 r.length c0 ∧ U = [] ∧ r.length ≤ c0 ∧ Sl verT Γ A0 r ∧ True
set_option maxRecDepth 100000 in
set_option maxHeartbeats 400000 in
theorem t_firthref05_put {Γ : Gh} {w0 : World} {Al : Option Addr} {cl : Nat} {l : List Ver} (hl : Sl verT Γ Al l) (hlc : l.length ≤ cl) {Av_2 : Option Addr} {cv_2 : Nat} (v_ : Ver) (hv_ : Ver.fits Γ Av_2 cv_2 v_) (hp : Pre [] Γ w0) {r : List Ver} (h : m_firthref05_put l v_ = some r) : Calls Try.prog 60 #[.slice Al l.length cl, .agg #[.int .i64 v_.dot.s, .int .i64 v_.dot.n, .slice Av_2 v_.past.length cv_2, .bool v_.gone, .string v_.val]] w0 (Outc Γ [] w0 (r_firthref05_put r)) := by
  refine calls_of (N := 52) (rs := [4]) (args := [.slice Al l.length cl, .agg #[.int .i64 v_.dot.s, .int .i64 v_.dot.n, .slice Av_2 v_.past.length cv_2, .bool v_.gone, .string v_.val]]) Try.func60 rfl Try.ntmps60 Try.results60 rfl ?_
  obtain ⟨F, hF⟩ : ∃ F : Fm, F = ⟨ids [], w0, Γ⟩ := ⟨_, rfl⟩
  refine WC.here (C := CC F Γ []) ?_ (hF ▸ hp.start)
  refine WC.rs ?_
  refine e_box (v := .agg #[.int .i64 v_.dot.s, .int .i64 v_.dot.n, .slice Av_2 v_.past.length cv_2, .bool v_.gone, .string v_.val]) rfl rfl rfl rfl (by kernel_rfl) ?_
  intro g1
  refine va rfl rfl rfl (q_assign (v := .slice none 0 0) rfl (by kernel_rfl)) ?_
  refine WR.nil ?_
  change WC _ _ _ _ _ _
  refine WC.rs ?_
  refine va rfl rfl rfl (q_assign (v := .int .i64 0) rfl (by kernel_rfl)) ?_
  refine WR.nil ?_
  change WC _ _ _ _ _ _
  refine WC.seq ?_
  refine WC.block ?_
  refine WC.loopN h (fun (at_2 : Int) σ w => slots σ [(0, .slice Al l.length cl), (3, .pointer (some ⟨g1, 0, none⟩)), (5, .int .i64 at_2)] ∧ CC F Γ [[(g1, .cells #[.int .i64 v_.dot.s, .int .i64 v_.dot.n, .slice Av_2 v_.past.length cv_2, .bool v_.gone, .string v_.val] 58 (0, 0))]] w ∧ I64 at_2 ∧ True) ?_ ?_
  · skip
    intro w hw
    exact ⟨(sl_ (by kernel_rfl)), hw, (show I64 0 by decide), trivial⟩
  rintro f4 at_2 σ w h ⟨hsl, hw, hr3, -⟩
  refine Wpt.slots hsl ?_
  refine WC.here (C := CC F Γ [[(g1, .cells #[.int .i64 v_.dot.s, .int .i64 v_.dot.n, .slice Av_2 v_.past.length cv_2, .bool v_.gone, .string v_.val] 58 (0, 0))]]) ?_ hw
  clear hw hsl
  refine WC.seq ?_
  refine WC.seq ?_
  refine WC.dr (by kernel_rfl) (by kernel_rfl) (fun w hw => hw.drawn _) ?_
  refine wa rfl rfl rfl (q_move (v := .int .i64 at_2) rfl (by kernel_rfl)) ?_
  refine wa rfl rfl rfl (q_move (v := .slice Al l.length cl) rfl (by kernel_rfl)) ?_
  refine wa rfl rfl rfl (q_len_slice rfl Try.underlying40 rfl) ?_
  refine wa rfl rfl rfl (q_lss rfl rfl rfl) ?_
  refine wa rfl rfl rfl (q_move (v := .bool (decide (at_2 < ((l.length : Nat) : Int)))) rfl (by kernel_rfl)) ?_
  refine wg1 rfl rfl rfl rfl rfl (fun hg8 => QV.qo (q_move (v := .slice Al l.length cl) rfl (by kernel_rfl))) ?_
  refine wg1 rfl rfl rfl rfl rfl (fun hg9 => QV.qo (q_move (v := .int .i64 at_2) rfl (by kernel_rfl))) ?_
  obtain ⟨hk11, h⟩ := chk_some h
  refine wg1 rfl rfl rfl rfl rfl (fun hg10 => QV.qo (q_ix Try.underlying40 Try.sizeOf58 rfl (gu hg10 rfl) (gu hg10 rfl) (imp_of hk11 hg10) (hl.some_ (inb_lt (imp_of hk11 hg10))))) ?_
  refine wg1 rfl rfl rfl rfl rfl (fun hg12 => QV.qo (q_field_addr (at_2.toNat * 5) fld_58_0 rfl (gu hg12 rfl) (hl.some_ (inb_lt (imp_of hk11 hg12))) rfl)) ?_
  obtain ⟨A14, c15, hx16⟩ := hl.verT_at at_2.toNat
  refine wg1 rfl rfl rfl rfl rfl (fun hg13 => QV.qo (q_lda (c := 0) (vs := [.int .i64 (gt l at_2.toNat).dot.s, .int .i64 (gt l at_2.toNat).dot.n]) (hx16 (inb_lt (imp_of hk11 hg13))).2 rfl Try.isAgg55 Try.sizeOf55 (gu hg13 rfl) rfl rfl)) ?_
  refine wg1 rfl rfl rfl rfl rfl (fun hg17 => QV.qo (q_fl 0 fld_58_0 rfl rfl rfl)) ?_
  refine wg1 rfl rfl rfl rfl rfl (fun hg18 => QV.qo (q_ldla (i := 0) (vs := [.int .i64 v_.dot.s, .int .i64 v_.dot.n]) rfl rfl Try.isAgg55 Try.sizeOf55 (gu hg18 rfl) rfl)) ?_
  obtain ⟨z20, hz21, h⟩ := bnd h
  refine wg1 rfl rfl rfl rfl rfl (fun hg19 => (q_call (call_run Try.call56 rfl rfl (args2 (gu hg19 rfl) (gu hg19 rfl))) (fun w hw => t_firthref05_Less (Γ := Gh.all w) ((gt l at_2.toNat).dot) ⟨(hx16 (inb_lt (imp_of hk11 hg19))).1.1, (hx16 (inb_lt (imp_of hk11 hg19))).1.2.1⟩ v_.dot ⟨hv_.1, hv_.2.1⟩ (Sat.all w) (gc_of hz21 hg19)))) ?_
  refine wa rfl rfl rfl (q_pick rfl rfl (pk_and' (g := (decide (at_2 < ((l.length : Nat) : Int)))) (y := z20))) ?_
  refine WQ.nil ?_
  change WC _ _ _ _ _ _
  refine WC.cif h (by kernel_rfl) (fun hb22 h => ?_) (fun hb22 h => ?_)
  · skip
    refine WC.skip ?_
    change WC _ _ _ _ _ _
    refine WC.block ?_
    refine WC.region ?_
    refine va rfl rfl rfl (q_move (v := .int .i64 at_2) rfl (by kernel_rfl)) ?_
    refine va rfl rfl rfl (q_add rfl rfl rfl) ?_
    refine va rfl rfl rfl (q_assign (v := .int .i64 (w64 (at_2 + 1))) rfl (by kernel_rfl)) ?_
    refine WR.nil ?_
    intro w hw
    exact ⟨(w64 (at_2 + 1)), h, (sl_ (by kernel_rfl)), hw, (w64_r _), trivial⟩
  · skip
    refine WC.exit ?_
    change WC _ _ _ _ _ _
    refine WC.seq ?_
    refine WC.seq ?_
    refine WC.dr (by kernel_rfl) (by kernel_rfl) (fun w hw => hw.drawn _) ?_
    refine wa rfl rfl rfl (q_move (v := .int .i64 at_2) rfl (by kernel_rfl)) ?_
    refine wa rfl rfl rfl (q_move (v := .slice Al l.length cl) rfl (by kernel_rfl)) ?_
    refine wa rfl rfl rfl (q_len_slice rfl Try.underlying40 rfl) ?_
    refine wa rfl rfl rfl (q_lss rfl rfl rfl) ?_
    refine wa rfl rfl rfl (q_move (v := .bool (decide (at_2 < ((l.length : Nat) : Int)))) rfl (by kernel_rfl)) ?_
    refine wg1 rfl rfl rfl rfl rfl (fun hg23 => QV.qo (q_move (v := .slice Al l.length cl) rfl (by kernel_rfl))) ?_
    refine wg1 rfl rfl rfl rfl rfl (fun hg24 => QV.qo (q_move (v := .int .i64 at_2) rfl (by kernel_rfl))) ?_
    refine wg1 rfl rfl rfl rfl rfl (fun hg25 => QV.qo (q_ix Try.underlying40 Try.sizeOf58 rfl (gu hg25 rfl) (gu hg25 rfl) (imp_of hk11 hg25) (hl.some_ (inb_lt (imp_of hk11 hg25))))) ?_
    refine wg1 rfl rfl rfl rfl rfl (fun hg26 => QV.qo (q_field_addr (at_2.toNat * 5) fld_58_0 rfl (gu hg26 rfl) (hl.some_ (inb_lt (imp_of hk11 hg26))) rfl)) ?_
    refine wg1 rfl rfl rfl rfl rfl (fun hg27 => QV.qo (q_lda (c := 0) (vs := [.int .i64 (gt l at_2.toNat).dot.s, .int .i64 (gt l at_2.toNat).dot.n]) (hx16 (inb_lt (imp_of hk11 hg27))).2 rfl Try.isAgg55 Try.sizeOf55 (gu hg27 rfl) rfl rfl)) ?_
    refine wg1 rfl rfl rfl rfl rfl (fun hg28 => QV.qo (q_fl 0 fld_58_0 rfl rfl rfl)) ?_
    refine wg1 rfl rfl rfl rfl rfl (fun hg29 => QV.qo (q_ldla (i := 0) (vs := [.int .i64 v_.dot.s, .int .i64 v_.dot.n]) rfl rfl Try.isAgg55 Try.sizeOf55 (gu hg29 rfl) rfl)) ?_
    refine wg1 rfl rfl rfl rfl rfl (fun hg30 => QV.qo (q_eql_Dot (a := (gt l at_2.toNat).dot) (b := v_.dot) rfl (gu hg30 rfl) (gu hg30 rfl))) ?_
    refine wa rfl rfl rfl (q_pick rfl rfl (pk_and' (g := (decide (at_2 < ((l.length : Nat) : Int)))) (y := ((gt l at_2.toNat).dot == v_.dot)))) ?_
    refine WQ.nil ?_
    change WC _ _ _ _ _ _
    refine WC.cif h (by kernel_rfl) (fun hb31 h => ?_) (fun hb31 h => ?_)
    · skip
      refine WC.rs ?_
      refine va rfl rfl rfl (q_move (v := .slice Al l.length cl) rfl (by kernel_rfl)) ?_
      refine va rfl rfl rfl (q_assign (v := .slice Al l.length cl) rfl (by kernel_rfl)) ?_
      refine WR.nil ?_
      change WC _ _ _ _ _ _
      refine WC.ret ?_
      intro w hw
      obtain rfl := Option.some.inj h
      subst hF
      exact end_e (is := []) (by kernel_rfl) hw rfl ⟨Al, cl, rfl, rfl, hlc, hl, trivial⟩
    · skip
      refine WC.skip ?_
      change WC _ _ _ _ _ _
      refine WC.rs ?_
      refine va rfl rfl rfl (q_assign (v := .slice none 0 0) rfl (by kernel_rfl)) ?_
      refine WR.nil ?_
      change WC _ _ _ _ _ _
      refine WC.rs ?_
      refine va rfl rfl rfl (q_move (v := .slice none 0 0) rfl (by kernel_rfl)) ?_
      refine va rfl rfl rfl (q_move (v := .slice Al l.length cl) rfl (by kernel_rfl)) ?_
      refine va rfl rfl rfl (q_move (v := .int .i64 at_2) rfl (by kernel_rfl)) ?_
      obtain ⟨hk32, h⟩ := chk_some h
      refine va rfl rfl rfl (q_cut_to (c := cl) (hi := at_2.toNat) (xs := l) Try.underlying40 Try.sizeOf58 rfl rfl (inle_eq rfl hk32) (inle_le hk32) hlc) ?_
      refine WR.sub (fun w hw => hw.pad) ?_
      obtain ⟨hk33, h⟩ := chk_some h
      refine e_append (T := verT) (xs := []) (ys := (List.take at_2.toNat l)) elem_40 (i := 0) rfl rfl rfl rfl (by kernel_rfl) rfl rfl (Own.nil verT Γ 58) (of_decide_eq_true hk33) (fun w hw => src_sl (hl.cut_to (hi := at_2.toNat) (inle_le hk32)) hw) ?_
      intro row34 A35 c36 ho37
      refine va rfl rfl rfl (q_assign (v := .slice A35 (List.take at_2.toNat l).length c36) rfl (by kernel_rfl)) ?_
      refine WR.nil ?_
      change WC _ _ _ _ _ _
      refine WC.rs ?_
      refine va rfl rfl rfl (q_move (v := .slice A35 (List.take at_2.toNat l).length c36) rfl (by kernel_rfl)) ?_
      refine va rfl rfl rfl (q_ldla (i := 1) (vs := [.int .i64 v_.dot.s, .int .i64 v_.dot.n, .slice Av_2 v_.past.length cv_2, .bool v_.gone, .string v_.val]) rfl rfl Try.isAgg58 Try.sizeOf58 rfl rfl) ?_
      refine e_buildSlice (cs := #[.int .i64 v_.dot.s, .int .i64 v_.dot.n, .slice Av_2 v_.past.length cv_2, .bool v_.gone, .string v_.val]) (e := 58) rfl rfl rfl rfl (fun w => by kernel_rfl) ?_
      intro g38
      obtain ⟨hk39, h⟩ := chk_some h
      refine e_append (T := verT) (xs := (List.take at_2.toNat l)) (ys := [v_]) elem_40 (i := 1) rfl rfl rfl rfl rfl rfl rfl ho37 (of_decide_eq_true hk39) (fun w hw => src_one (T := verT) (y := v_) (i := 0) rfl (by exact ⟨Av_2, cv_2, rfl, hv_⟩) hw) ?_
      intro row40 A41 c42 ho43
      refine va rfl rfl rfl (q_assign (v := .slice A41 ((List.take at_2.toNat l) ++ [v_]).length c42) rfl (by kernel_rfl)) ?_
      refine WR.nil ?_
      change WC _ _ _ _ _ _
      refine WC.rs ?_
      refine va rfl rfl rfl (q_move (v := .slice A41 ((List.take at_2.toNat l) ++ [v_]).length c42) rfl (by kernel_rfl)) ?_
      refine va rfl rfl rfl (q_move (v := .slice Al l.length cl) rfl (by kernel_rfl)) ?_
      refine va rfl rfl rfl (q_move (v := .int .i64 at_2) rfl (by kernel_rfl)) ?_
      refine va rfl rfl rfl (q_cut_from (c := cl) (lo := at_2.toNat) (xs := l) Try.underlying40 Try.sizeOf58 rfl rfl (inle_eq rfl hk32) (inle_le hk32)) ?_
      obtain ⟨hk44, h⟩ := chk_some h
      refine e_append (T := verT) (xs := ((List.take at_2.toNat l) ++ [v_])) (ys := (List.drop at_2.toNat l)) elem_40 (i := 1) rfl rfl rfl rfl rfl rfl rfl ho43 (of_decide_eq_true hk44) (fun w hw => src_sl (hl.cut_from (c := cl) (lo := at_2.toNat) (inle_le hk32) hlc) hw) ?_
      intro row45 A46 c47 ho48
      refine va rfl rfl rfl (q_assign (v := .slice A46 (((List.take at_2.toNat l) ++ [v_]) ++ (List.drop at_2.toNat l)).length c47) rfl (by kernel_rfl)) ?_
      refine WR.nil ?_
      change WC _ _ _ _ _ _
      refine WC.ret ?_
      intro w hw
      have hc53 := ho48.capz
      obtain ⟨Γ49, hw, hl50, hr51⟩ := hw.seal (i := 1) rfl; have hs52 := ho48.sl hl50 hr51
      obtain rfl := Option.some.inj h
      subst hF
      exact end_e (is := []) (by kernel_rfl) hw rfl ⟨A46, c47, rfl, rfl, hc53, hs52, trivial⟩
abbrev r_firthref05_Merge (r : (List Ver) × Int) (U : List Rowb) (Γ : Gh) (v : Value) : Prop := ∃ (A0 : Option Addr), ∃ (c0 : Nat), v = .tuple #[.slice A0 r.1.length c0, .int .i64 r.2] ∧ U = [] ∧ r.1.length ≤ c0 ∧ Sl verT Γ A0 r.1 ∧ I64 r.2 ∧ True
set_option maxRecDepth 100000 in
set_option maxHeartbeats 400000 in
theorem t_firthref05_Merge {Γ : Gh} {w0 : World} {Aa : Option Addr} {ca : Nat} {a : List Ver} (ha : Sl verT Γ Aa a) (hac : a.length ≤ ca) {Ab : Option Addr} {cb : Nat} {b : List Ver} (hb : Sl verT Γ Ab b) (hbc : b.length ≤ cb) (hp : Pre [] Γ w0) {r : (List Ver) × Int} (h : m_firthref05_Merge a b = some r) : Calls Try.prog 32 #[.slice Aa a.length ca, .slice Ab b.length cb] w0 (Outc Γ [] w0 (r_firthref05_Merge r)) := by
  refine calls_of (N := 98) (rs := [4, 5]) (args := [.slice Aa a.length ca, .slice Ab b.length cb]) Try.func32 rfl Try.ntmps32 Try.results32 rfl ?_
  obtain ⟨F, hF⟩ : ∃ F : Fm, F = ⟨ids [], w0, Γ⟩ := ⟨_, rfl⟩
  refine WC.here (C := CC F Γ []) ?_ (hF ▸ hp.start)
  refine WC.rs ?_
  refine va rfl rfl rfl (q_assign (v := .slice none 0 0) rfl (by kernel_rfl)) ?_
  refine va rfl rfl rfl (q_assign (v := .int .i64 0) rfl (by kernel_rfl)) ?_
  refine WR.nil ?_
  change WC _ _ _ _ _ _
  refine WC.seq ?_
  refine WC.rs ?_
  refine va rfl rfl rfl (q_move (v := .slice Aa a.length ca) rfl (by kernel_rfl)) ?_
  obtain ⟨z1, hz2, h⟩ := bnd h
  refine vc rfl rfl rfl (q_call (call_run Try.call30 rfl rfl (by kernel_rfl)) (fun w hw => t_firthref05_Right (Γ := Gh.all w) (ha.mono hw.sat.le_all) hac (Sat.all w) hz2)) ?_
  refine va rfl rfl rfl (q_not rfl rfl) ?_
  refine va rfl rfl rfl (q_move (v := .bool (!z1)) rfl (by kernel_rfl)) ?_
  refine vg0 rfl rfl rfl rfl rfl (fun hg3 => QV.qo (q_move (v := .slice Ab b.length cb) rfl (by kernel_rfl))) ?_
  obtain ⟨z5, hz6, h⟩ := bnd h
  refine vg0 rfl rfl rfl rfl rfl (fun hg4 => (q_call (call_run Try.call30 rfl rfl (args1 (gu hg4 rfl))) (fun w hw => t_firthref05_Right (Γ := Gh.all w) (hb.mono hw.sat.le_all) hbc (Sat.all w) (gc_of hz6 hg4)))) ?_
  refine vg0 rfl rfl rfl rfl rfl (fun hg7 => QV.qo (q_not rfl (gu hg7 rfl))) ?_
  refine va rfl rfl rfl (q_pick rfl rfl (pk_or' (g := (!z1)) (y := (!z5)))) ?_
  refine WR.nil ?_
  change WC _ _ _ _ _ _
  refine WC.cif h (by kernel_rfl) (fun hb8 h => ?_) (fun hb8 h => ?_)
  · skip
    refine WC.rs ?_
    refine va rfl rfl rfl (q_assign (v := .slice none 0 0) rfl (by kernel_rfl)) ?_
    refine va rfl rfl rfl (q_assign (v := .int .i64 1) rfl (by kernel_rfl)) ?_
    refine WR.nil ?_
    change WC _ _ _ _ _ _
    refine WC.ret ?_
    intro w hw
    obtain rfl := Option.some.inj h
    subst hF
    exact end_e (is := []) (by kernel_rfl) hw rfl ⟨none, 0, rfl, rfl, (Nat.zero_le 0), (Sl.nil verT _ none), (show I64 1 by decide), trivial⟩
  · skip
    refine WC.skip ?_
    change WC _ _ _ _ _ _
    refine WC.seq ?_
    refine WC.rs ?_
    refine va rfl rfl rfl (q_assign (v := .int .i64 0) rfl (by kernel_rfl)) ?_
    refine WR.nil ?_
    change WC _ _ _ _ _ _
    refine WC.block ?_
    refine WC.forI h (fun (i10 : Nat) (s : Unit) σ w => match s with | () => slots σ [(0, .slice Aa a.length ca), (1, .slice Ab b.length cb), (6, .int .i64 ((i10 : Nat) : Int))] ∧ CC F Γ [] w ∧ True) ?_ ?_
    · skip
      intro w hw
      exact ⟨(sl_ (by kernel_rfl)), hw, trivial⟩
    rintro f9 i10 ⟨⟩ σ w hi11 hlt12 hge13 ⟨hsl, hw, -⟩
    refine Wpt.slots hsl ?_
    refine WC.here (C := CC F Γ []) ?_ hw
    clear hw hsl
    refine WC.seq ?_
    refine WC.rs ?_
    refine va rfl rfl rfl (q_move (v := .int .i64 ((i10 : Nat) : Int)) rfl (by kernel_rfl)) ?_
    refine va rfl rfl rfl (q_move (v := .slice Aa a.length ca) rfl (by kernel_rfl)) ?_
    refine va rfl rfl rfl (q_len_slice rfl Try.underlying40 rfl) ?_
    refine va rfl rfl rfl (q_lss rfl rfl rfl) ?_
    refine WR.nil ?_
    change WC _ _ _ _ _ _
    refine WC.cond (b := (decide (((i10 : Nat) : Int) < ((a.length : Nat) : Int)))) (by kernel_rfl) (fun hb14 => ?_) (fun hb14 => ?_)
    · skip
      have hl15 := ilt hb14
      have h := hlt12 hl15
      refine WC.skip ?_
      change WC _ _ _ _ _ _
      refine WC.seq ?_
      refine WC.block ?_
      refine WC.rs ?_
      refine va rfl rfl rfl (q_assign (v := .int .i64 0) rfl (by kernel_rfl)) ?_
      refine WR.nil ?_
      change WC _ _ _ _ _ _
      refine WC.block ?_
      refine WC.forI h (fun (i17 : Nat) (s : Unit) σ w => match s with | () => slots σ [(0, .slice Aa a.length ca), (1, .slice Ab b.length cb), (6, .int .i64 ((i10 : Nat) : Int)), (7, .int .i64 ((i17 : Nat) : Int))] ∧ CC F Γ [] w ∧ True) ?_ ?_
      · skip
        intro w hw
        exact ⟨(sl_ (by kernel_rfl)), hw, trivial⟩
      rintro f16 i17 ⟨⟩ σ w hi18 hlt19 hge20 ⟨hsl, hw, -⟩
      refine Wpt.slots hsl ?_
      refine WC.here (C := CC F Γ []) ?_ hw
      clear hw hsl
      refine WC.seq ?_
      refine WC.rs ?_
      refine va rfl rfl rfl (q_move (v := .int .i64 ((i17 : Nat) : Int)) rfl (by kernel_rfl)) ?_
      refine va rfl rfl rfl (q_move (v := .slice Ab b.length cb) rfl (by kernel_rfl)) ?_
      refine va rfl rfl rfl (q_len_slice rfl Try.underlying40 rfl) ?_
      refine va rfl rfl rfl (q_lss rfl rfl rfl) ?_
      refine WR.nil ?_
      change WC _ _ _ _ _ _
      refine WC.cond (b := (decide (((i17 : Nat) : Int) < ((b.length : Nat) : Int)))) (by kernel_rfl) (fun hb21 => ?_) (fun hb21 => ?_)
      · skip
        have hl22 := ilt hb21
        have h := hlt19 hl22
        refine WC.skip ?_
        change WC _ _ _ _ _ _
        refine WC.seq ?_
        refine WC.block ?_
        refine WC.seq ?_
        refine WC.dr (by kernel_rfl) (by kernel_rfl) (fun w hw => hw.drawn _) ?_
        refine wa rfl rfl rfl (q_move (v := .slice Aa a.length ca) rfl (by kernel_rfl)) ?_
        refine wa rfl rfl rfl (q_move (v := .int .i64 ((i10 : Nat) : Int)) rfl (by kernel_rfl)) ?_
        refine wa rfl rfl rfl (q_ixn (i := i10) Try.underlying40 Try.sizeOf58 rfl rfl rfl hl15 (ha.some_ hl15)) ?_
        refine wa rfl rfl rfl (q_field_addr (i10 * 5) fld_58_0 rfl rfl (ha.some_ hl15) rfl) ?_
        obtain ⟨A23, c24, hx25⟩ := ha.verT_at i10
        refine wa rfl rfl rfl (q_lda (c := 0) (vs := [.int .i64 (gt a i10).dot.s, .int .i64 (gt a i10).dot.n]) (hx25 hl15).2 rfl Try.isAgg55 Try.sizeOf55 rfl rfl rfl) ?_
        refine wa rfl rfl rfl (q_move (v := .slice Ab b.length cb) rfl (by kernel_rfl)) ?_
        refine wa rfl rfl rfl (q_move (v := .int .i64 ((i17 : Nat) : Int)) rfl (by kernel_rfl)) ?_
        refine wa rfl rfl rfl (q_ixn (i := i17) Try.underlying40 Try.sizeOf58 rfl rfl rfl hl22 (hb.some_ hl22)) ?_
        refine wa rfl rfl rfl (q_field_addr (i17 * 5) fld_58_0 rfl rfl (hb.some_ hl22) rfl) ?_
        obtain ⟨A26, c27, hx28⟩ := hb.verT_at i17
        refine wa rfl rfl rfl (q_lda (c := 0) (vs := [.int .i64 (gt b i17).dot.s, .int .i64 (gt b i17).dot.n]) (hx28 hl22).2 rfl Try.isAgg55 Try.sizeOf55 rfl rfl rfl) ?_
        refine wa rfl rfl rfl (q_eql_Dot (a := (gt a i10).dot) (b := (gt b i17).dot) rfl rfl rfl) ?_
        refine wa rfl rfl rfl (q_move (v := .bool ((gt a i10).dot == (gt b i17).dot)) rfl (by kernel_rfl)) ?_
        refine wg1 rfl rfl rfl rfl rfl (fun hg29 => QV.qo (q_move (v := .slice Aa a.length ca) rfl (by kernel_rfl))) ?_
        refine wg1 rfl rfl rfl rfl rfl (fun hg30 => QV.qo (q_move (v := .int .i64 ((i10 : Nat) : Int)) rfl (by kernel_rfl))) ?_
        refine wg1 rfl rfl rfl rfl rfl (fun hg31 => QV.qo (q_ixn (i := i10) Try.underlying40 Try.sizeOf58 rfl (gu hg31 rfl) (gu hg31 rfl) hl15 (ha.some_ hl15))) ?_
        refine wg1 rfl rfl rfl rfl rfl (fun hg32 => QV.qo (q_lda (c := 0) (vs := [.int .i64 (gt a i10).dot.s, .int .i64 (gt a i10).dot.n, .slice A23 ((gt a i10).past).length c24, .bool (gt a i10).gone, .string (gt a i10).val]) (hx25 hl15).2 rfl Try.isAgg58 Try.sizeOf58 (gu hg32 rfl) rfl rfl)) ?_
        refine wg1 rfl rfl rfl rfl rfl (fun hg33 => QV.qo (q_move (v := .slice Ab b.length cb) rfl (by kernel_rfl))) ?_
        refine wg1 rfl rfl rfl rfl rfl (fun hg34 => QV.qo (q_move (v := .int .i64 ((i17 : Nat) : Int)) rfl (by kernel_rfl))) ?_
        refine wg1 rfl rfl rfl rfl rfl (fun hg35 => QV.qo (q_ixn (i := i17) Try.underlying40 Try.sizeOf58 rfl (gu hg35 rfl) (gu hg35 rfl) hl22 (hb.some_ hl22))) ?_
        refine wg1 rfl rfl rfl rfl rfl (fun hg36 => QV.qo (q_lda (c := 0) (vs := [.int .i64 (gt b i17).dot.s, .int .i64 (gt b i17).dot.n, .slice A26 ((gt b i17).past).length c27, .bool (gt b i17).gone, .string (gt b i17).val]) (hx28 hl22).2 rfl Try.isAgg58 Try.sizeOf58 (gu hg36 rfl) rfl rfl)) ?_
        obtain ⟨z38, hz39, h⟩ := bnd h
        refine wg1 rfl rfl rfl rfl rfl (fun hg37 => (q_call (call_run Try.call52 rfl rfl (args2 (gu hg37 rfl) (gu hg37 rfl))) (fun w hw => t_firthref05_SameOne (Γ := Gh.all w) (gt a i10) (Ver.fits_mono (hx25 hl15).1 hw.sat.le_all) (gt b i17) (Ver.fits_mono (hx28 hl22).1 hw.sat.le_all) (Sat.all w) (gc_of hz39 hg37)))) ?_
        refine wg1 rfl rfl rfl rfl rfl (fun hg40 => QV.qo (q_not rfl (gu hg40 rfl))) ?_
        refine wa rfl rfl rfl (q_pick rfl rfl (pk_and' (g := ((gt a i10).dot == (gt b i17).dot)) (y := (!z38)))) ?_
        refine WQ.nil ?_
        change WC _ _ _ _ _ _
        refine WC.cif h (by kernel_rfl) (fun hb41 h => ?_) (fun hb41 h => ?_)
        · skip
          refine WC.rs ?_
          refine va rfl rfl rfl (q_assign (v := .slice none 0 0) rfl (by kernel_rfl)) ?_
          refine va rfl rfl rfl (q_assign (v := .int .i64 50) rfl (by kernel_rfl)) ?_
          refine WR.nil ?_
          change WC _ _ _ _ _ _
          refine WC.ret ?_
          intro w hw
          obtain rfl := Option.some.inj h
          subst hF
          exact end_e (is := []) (by kernel_rfl) hw rfl ⟨none, 0, rfl, rfl, (Nat.zero_le 0), (Sl.nil verT _ none), (show I64 50 by decide), trivial⟩
        · skip
          refine WC.skip ?_
          change WC _ _ _ _ _ _
          refine WC.region ?_
          refine va rfl rfl rfl (q_move (v := .int .i64 ((i17 : Nat) : Int)) rfl (by kernel_rfl)) ?_
          refine va rfl rfl rfl (q_add_r (r := ((i17 + 1 : Nat) : Int)) rfl rfl rfl (ctr_len hl22 hb.le)) ?_
          refine va rfl rfl rfl (q_assign (v := .int .i64 ((i17 + 1 : Nat) : Int)) rfl (by kernel_rfl)) ?_
          refine WR.nil ?_
          intro w hw
          exact ⟨hl22, (), h, (sl_ (by kernel_rfl)), hw, trivial⟩
      · skip
        have h := hge20 (ige hb21)
        refine WC.exit ?_
        change WC _ _ _ _ _ _
        refine WC.region ?_
        refine va rfl rfl rfl (q_move (v := .int .i64 ((i10 : Nat) : Int)) rfl (by kernel_rfl)) ?_
        refine va rfl rfl rfl (q_add_r (r := ((i10 + 1 : Nat) : Int)) rfl rfl rfl (ctr_len hl15 ha.le)) ?_
        refine va rfl rfl rfl (q_assign (v := .int .i64 ((i10 + 1 : Nat) : Int)) rfl (by kernel_rfl)) ?_
        refine WR.nil ?_
        intro w hw
        exact ⟨hl15, (), h, (sl_ (by kernel_rfl)), hw, trivial⟩
    · skip
      have h := hge13 (ige hb14)
      refine WC.exit ?_
      change WC _ _ _ _ _ _
      refine WC.rs ?_
      refine va rfl rfl rfl (q_assign (v := .slice none 0 0) rfl (by kernel_rfl)) ?_
      refine WR.nil ?_
      change WC _ _ _ _ _ _
      refine WC.seq ?_
      refine WC.rs ?_
      refine va rfl rfl rfl (q_assign (v := .int .i64 0) rfl (by kernel_rfl)) ?_
      refine WR.nil ?_
      change WC _ _ _ _ _ _
      refine WC.block ?_
      refine WC.forI h (fun (i50 : Nat) (out_44 : List Ver) σ w => ∃ (Γ42 : Gh), ∃ (A45 : Option Addr), ∃ (c46 : Nat), slots σ [(0, .slice Aa a.length ca), (1, .slice Ab b.length cb), (8, .slice A45 out_44.length c46), (9, .int .i64 ((i50 : Nat) : Int))] ∧ CC F Γ42 [] w ∧ Gh.le Γ Γ42 ∧ out_44.length ≤ c46 ∧ Sl verT Γ42 A45 out_44 ∧ True) ?_ ?_
      · skip
        intro w hw
        exact ⟨Γ, none, 0, (sl_ (by kernel_rfl)), hw, (Gh.refl _), (Nat.zero_le 0), (Sl.nil verT _ none), trivial⟩
      rintro f49 i50 out_44 σ w hi51 hlt52 hge53 ⟨Γ42, A45, c46, hsl, hw, hl43, hc48, hs47, -⟩
      refine Wpt.slots hsl ?_
      refine WC.here (C := CC F Γ42 []) ?_ hw
      clear hw hsl
      refine WC.seq ?_
      refine WC.rs ?_
      refine va rfl rfl rfl (q_move (v := .int .i64 ((i50 : Nat) : Int)) rfl (by kernel_rfl)) ?_
      refine va rfl rfl rfl (q_move (v := .slice Aa a.length ca) rfl (by kernel_rfl)) ?_
      refine va rfl rfl rfl (q_len_slice rfl Try.underlying40 rfl) ?_
      refine va rfl rfl rfl (q_lss rfl rfl rfl) ?_
      refine WR.nil ?_
      change WC _ _ _ _ _ _
      refine WC.cond (b := (decide (((i50 : Nat) : Int) < ((a.length : Nat) : Int)))) (by kernel_rfl) (fun hb54 => ?_) (fun hb54 => ?_)
      · skip
        have hl55 := ilt hb54
        have h := hlt52 hl55
        refine WC.skip ?_
        change WC _ _ _ _ _ _
        refine WC.cut (fun σ w => ∃ (out_58 : List Ver), ∃ (Γ56 : Gh), ∃ (A59 : Option Addr), ∃ (c60 : Nat), m_firthref05_Merge_j10 f49 out_58 = some r ∧ slots σ [(0, .slice Aa a.length ca), (1, .slice Ab b.length cb), (8, .slice A59 out_58.length c60), (9, .int .i64 ((i50 : Nat) : Int))] ∧ CC F Γ56 [] w ∧ Gh.le Γ42 Γ56 ∧ out_58.length ≤ c60 ∧ Sl verT Γ56 A59 out_58 ∧ True) ?_ ?_
        · skip
          refine WC.block ?_
          refine WC.rs ?_
          refine va rfl rfl rfl (q_move (v := .slice Ab b.length cb) rfl (by kernel_rfl)) ?_
          refine va rfl rfl rfl (q_move (v := .slice Aa a.length ca) rfl (by kernel_rfl)) ?_
          refine va rfl rfl rfl (q_move (v := .int .i64 ((i50 : Nat) : Int)) rfl (by kernel_rfl)) ?_
          refine va rfl rfl rfl (q_ixn (i := i50) Try.underlying40 Try.sizeOf58 rfl rfl rfl hl55 ((ha.mono hl43).some_ hl55)) ?_
          refine va rfl rfl rfl (q_field_addr (i50 * 5) fld_58_0 rfl rfl ((ha.mono hl43).some_ hl55) rfl) ?_
          obtain ⟨A63, c64, hx65⟩ := (ha.mono hl43).verT_at i50
          refine va rfl rfl rfl (q_lda (c := 0) (vs := [.int .i64 (gt a i50).dot.s, .int .i64 (gt a i50).dot.n]) (hx65 hl55).2 rfl Try.isAgg55 Try.sizeOf55 rfl rfl rfl) ?_
          obtain ⟨z66, hz67, h⟩ := bnd h
          refine vc rfl rfl rfl (q_call (call_run Try.call33 rfl rfl (by kernel_rfl)) (fun w hw => t_firthref05_Behind (Γ := Gh.all w) ((hb.mono hl43).mono hw.sat.le_all) hbc ((gt a i50).dot) ⟨(hx65 hl55).1.1, (hx65 hl55).1.2.1⟩ (Sat.all w) hz67)) ?_
          refine va rfl rfl rfl (q_not rfl rfl) ?_
          refine WR.nil ?_
          change WC _ _ _ _ _ _
          refine WC.cif h (by kernel_rfl) (fun hb68 h => ?_) (fun hb68 h => ?_)
          · skip
            refine WC.region ?_
            refine va rfl rfl rfl (q_move (v := .slice A45 out_44.length c46) rfl (by kernel_rfl)) ?_
            refine va rfl rfl rfl (q_move (v := .slice Aa a.length ca) rfl (by kernel_rfl)) ?_
            refine va rfl rfl rfl (q_move (v := .int .i64 ((i50 : Nat) : Int)) rfl (by kernel_rfl)) ?_
            refine va rfl rfl rfl (q_ixn (i := i50) Try.underlying40 Try.sizeOf58 rfl rfl rfl hl55 ((ha.mono hl43).some_ hl55)) ?_
            refine va rfl rfl rfl (q_lda (c := 0) (vs := [.int .i64 (gt a i50).dot.s, .int .i64 (gt a i50).dot.n, .slice A63 ((gt a i50).past).length c64, .bool (gt a i50).gone, .string (gt a i50).val]) (hx65 hl55).2 rfl Try.isAgg58 Try.sizeOf58 rfl rfl rfl) ?_
            obtain ⟨z69, hz70, h⟩ := bnd h
            refine e_call (is := []) rfl rfl (call_run Try.call60 rfl rfl (by kernel_rfl)) rfl (fun w hp => t_firthref05_put hs47 hc48 (gt a i50) (hx65 hl55).1 hp hz70) ?_
            rintro Γ71 U73 v74 hl72 ⟨A75, c76, rfl, rfl, hc78, hr77, _⟩
            change WR _ _ _ (CC F Γ71 []) _ _ (upd _ 73 (.slice A75 z69.length c76))
            refine va rfl rfl rfl (q_assign (v := .slice A75 z69.length c76) rfl (by kernel_rfl)) ?_
            refine WR.nil ?_
            intro w hw
            exact ⟨z69, Γ71, A75, c76, h, (sl_ (by kernel_rfl)), hw, hl72, hc78, hr77, trivial⟩
          · skip
            refine WC.skip ?_
            intro w hw
            exact ⟨out_44, Γ42, A45, c46, h, (sl_ (by kernel_rfl)), hw, (Gh.refl _), hc48, hs47, trivial⟩
        · skip
          rintro σ w ⟨out_58, Γ56, A59, c60, h, hsl, hw, hl57, hc62, hs61, -⟩
          refine Wpt.slots hsl ?_
          refine WC.here (C := CC F Γ56 []) ?_ hw
          clear hw hsl
          refine WC.region ?_
          refine va rfl rfl rfl (q_move (v := .int .i64 ((i50 : Nat) : Int)) rfl (by kernel_rfl)) ?_
          refine va rfl rfl rfl (q_add_r (r := ((i50 + 1 : Nat) : Int)) rfl rfl rfl (ctr_len hl55 (ha.mono hl43).le)) ?_
          refine va rfl rfl rfl (q_assign (v := .int .i64 ((i50 + 1 : Nat) : Int)) rfl (by kernel_rfl)) ?_
          refine WR.nil ?_
          intro w hw
          exact ⟨hl55, out_58, h, Γ56, A59, c60, (sl_ (by kernel_rfl)), hw, (hl43.trans hl57), hc62, hs61, trivial⟩
      · skip
        have h := hge53 (ige hb54)
        refine WC.exit ?_
        change WC _ _ _ _ _ _
        refine WC.seq ?_
        refine WC.rs ?_
        refine va rfl rfl rfl (q_assign (v := .int .i64 0) rfl (by kernel_rfl)) ?_
        refine WR.nil ?_
        change WC _ _ _ _ _ _
        refine WC.block ?_
        refine WC.forI h (fun (i87 : Nat) (out_81 : List Ver) σ w => ∃ (Γ79 : Gh), ∃ (A82 : Option Addr), ∃ (c83 : Nat), slots σ [(0, .slice Aa a.length ca), (1, .slice Ab b.length cb), (8, .slice A82 out_81.length c83), (10, .int .i64 ((i87 : Nat) : Int))] ∧ CC F Γ79 [] w ∧ Gh.le Γ42 Γ79 ∧ out_81.length ≤ c83 ∧ Sl verT Γ79 A82 out_81 ∧ True) ?_ ?_
        · skip
          intro w hw
          exact ⟨Γ42, A45, c46, (sl_ (by kernel_rfl)), hw, (Gh.refl _), hc48, hs47, trivial⟩
        rintro f86 i87 out_81 σ w hi88 hlt89 hge90 ⟨Γ79, A82, c83, hsl, hw, hl80, hc85, hs84, -⟩
        refine Wpt.slots hsl ?_
        refine WC.here (C := CC F Γ79 []) ?_ hw
        clear hw hsl
        refine WC.seq ?_
        refine WC.rs ?_
        refine va rfl rfl rfl (q_move (v := .int .i64 ((i87 : Nat) : Int)) rfl (by kernel_rfl)) ?_
        refine va rfl rfl rfl (q_move (v := .slice Ab b.length cb) rfl (by kernel_rfl)) ?_
        refine va rfl rfl rfl (q_len_slice rfl Try.underlying40 rfl) ?_
        refine va rfl rfl rfl (q_lss rfl rfl rfl) ?_
        refine WR.nil ?_
        change WC _ _ _ _ _ _
        refine WC.cond (b := (decide (((i87 : Nat) : Int) < ((b.length : Nat) : Int)))) (by kernel_rfl) (fun hb91 => ?_) (fun hb91 => ?_)
        · skip
          have hl92 := ilt hb91
          have h := hlt89 hl92
          refine WC.skip ?_
          change WC _ _ _ _ _ _
          refine WC.cut (fun σ w => ∃ (out_95 : List Ver), ∃ (Γ93 : Gh), ∃ (A96 : Option Addr), ∃ (c97 : Nat), m_firthref05_Merge_j15 f86 out_95 = some r ∧ slots σ [(0, .slice Aa a.length ca), (1, .slice Ab b.length cb), (8, .slice A96 out_95.length c97), (10, .int .i64 ((i87 : Nat) : Int))] ∧ CC F Γ93 [] w ∧ Gh.le Γ79 Γ93 ∧ out_95.length ≤ c97 ∧ Sl verT Γ93 A96 out_95 ∧ True) ?_ ?_
          · skip
            refine WC.block ?_
            refine WC.rs ?_
            refine va rfl rfl rfl (q_move (v := .slice Aa a.length ca) rfl (by kernel_rfl)) ?_
            refine va rfl rfl rfl (q_move (v := .slice Ab b.length cb) rfl (by kernel_rfl)) ?_
            refine va rfl rfl rfl (q_move (v := .int .i64 ((i87 : Nat) : Int)) rfl (by kernel_rfl)) ?_
            refine va rfl rfl rfl (q_ixn (i := i87) Try.underlying40 Try.sizeOf58 rfl rfl rfl hl92 ((hb.mono (hl43.trans hl80)).some_ hl92)) ?_
            refine va rfl rfl rfl (q_field_addr (i87 * 5) fld_58_0 rfl rfl ((hb.mono (hl43.trans hl80)).some_ hl92) rfl) ?_
            obtain ⟨A100, c101, hx102⟩ := (hb.mono (hl43.trans hl80)).verT_at i87
            refine va rfl rfl rfl (q_lda (c := 0) (vs := [.int .i64 (gt b i87).dot.s, .int .i64 (gt b i87).dot.n]) (hx102 hl92).2 rfl Try.isAgg55 Try.sizeOf55 rfl rfl rfl) ?_
            obtain ⟨z103, hz104, h⟩ := bnd h
            refine vc rfl rfl rfl (q_call (call_run Try.call33 rfl rfl (by kernel_rfl)) (fun w hw => t_firthref05_Behind (Γ := Gh.all w) ((ha.mono (hl43.trans hl80)).mono hw.sat.le_all) hac ((gt b i87).dot) ⟨(hx102 hl92).1.1, (hx102 hl92).1.2.1⟩ (Sat.all w) hz104)) ?_
            refine va rfl rfl rfl (q_not rfl rfl) ?_
            refine WR.nil ?_
            change WC _ _ _ _ _ _
            refine WC.cif h (by kernel_rfl) (fun hb105 h => ?_) (fun hb105 h => ?_)
            · skip
              refine WC.region ?_
              refine va rfl rfl rfl (q_move (v := .slice A82 out_81.length c83) rfl (by kernel_rfl)) ?_
              refine va rfl rfl rfl (q_move (v := .slice Ab b.length cb) rfl (by kernel_rfl)) ?_
              refine va rfl rfl rfl (q_move (v := .int .i64 ((i87 : Nat) : Int)) rfl (by kernel_rfl)) ?_
              refine va rfl rfl rfl (q_ixn (i := i87) Try.underlying40 Try.sizeOf58 rfl rfl rfl hl92 ((hb.mono (hl43.trans hl80)).some_ hl92)) ?_
              refine va rfl rfl rfl (q_lda (c := 0) (vs := [.int .i64 (gt b i87).dot.s, .int .i64 (gt b i87).dot.n, .slice A100 ((gt b i87).past).length c101, .bool (gt b i87).gone, .string (gt b i87).val]) (hx102 hl92).2 rfl Try.isAgg58 Try.sizeOf58 rfl rfl rfl) ?_
              obtain ⟨z106, hz107, h⟩ := bnd h
              refine e_call (is := []) rfl rfl (call_run Try.call60 rfl rfl (by kernel_rfl)) rfl (fun w hp => t_firthref05_put hs84 hc85 (gt b i87) (hx102 hl92).1 hp hz107) ?_
              rintro Γ108 U110 v111 hl109 ⟨A112, c113, rfl, rfl, hc115, hr114, _⟩
              change WR _ _ _ (CC F Γ108 []) _ _ (upd _ 93 (.slice A112 z106.length c113))
              refine va rfl rfl rfl (q_assign (v := .slice A112 z106.length c113) rfl (by kernel_rfl)) ?_
              refine WR.nil ?_
              intro w hw
              exact ⟨z106, Γ108, A112, c113, h, (sl_ (by kernel_rfl)), hw, hl109, hc115, hr114, trivial⟩
            · skip
              refine WC.skip ?_
              intro w hw
              exact ⟨out_81, Γ79, A82, c83, h, (sl_ (by kernel_rfl)), hw, (Gh.refl _), hc85, hs84, trivial⟩
          · skip
            rintro σ w ⟨out_95, Γ93, A96, c97, h, hsl, hw, hl94, hc99, hs98, -⟩
            refine Wpt.slots hsl ?_
            refine WC.here (C := CC F Γ93 []) ?_ hw
            clear hw hsl
            refine WC.region ?_
            refine va rfl rfl rfl (q_move (v := .int .i64 ((i87 : Nat) : Int)) rfl (by kernel_rfl)) ?_
            refine va rfl rfl rfl (q_add_r (r := ((i87 + 1 : Nat) : Int)) rfl rfl rfl (ctr_len hl92 (hb.mono (hl43.trans hl80)).le)) ?_
            refine va rfl rfl rfl (q_assign (v := .int .i64 ((i87 + 1 : Nat) : Int)) rfl (by kernel_rfl)) ?_
            refine WR.nil ?_
            intro w hw
            exact ⟨hl92, out_95, h, Γ93, A96, c97, (sl_ (by kernel_rfl)), hw, (hl80.trans hl94), hc99, hs98, trivial⟩
        · skip
          have h := hge90 (ige hb91)
          refine WC.exit ?_
          change WC _ _ _ _ _ _
          refine WC.seq ?_
          refine WC.rs ?_
          refine va rfl rfl rfl (q_move (v := .slice A82 out_81.length c83) rfl (by kernel_rfl)) ?_
          refine va rfl rfl rfl (q_len_slice rfl Try.underlying40 rfl) ?_
          refine va rfl rfl rfl (q_gtr rfl rfl rfl) ?_
          refine WR.nil ?_
          change WC _ _ _ _ _ _
          refine WC.cif h (by kernel_rfl) (fun hb116 h => ?_) (fun hb116 h => ?_)
          · skip
            refine WC.rs ?_
            refine va rfl rfl rfl (q_assign (v := .slice none 0 0) rfl (by kernel_rfl)) ?_
            refine va rfl rfl rfl (q_assign (v := .int .i64 3) rfl (by kernel_rfl)) ?_
            refine WR.nil ?_
            change WC _ _ _ _ _ _
            refine WC.ret ?_
            intro w hw
            obtain rfl := Option.some.inj h
            subst hF
            exact end_e (is := []) (by kernel_rfl) hw rfl ⟨none, 0, rfl, rfl, (Nat.zero_le 0), (Sl.nil verT _ none), (show I64 3 by decide), trivial⟩
          · skip
            refine WC.skip ?_
            change WC _ _ _ _ _ _
            refine WC.rs ?_
            refine va rfl rfl rfl (q_move (v := .slice A82 out_81.length c83) rfl (by kernel_rfl)) ?_
            refine va rfl rfl rfl (q_assign (v := .slice A82 out_81.length c83) rfl (by kernel_rfl)) ?_
            refine va rfl rfl rfl (q_assign (v := .int .i64 0) rfl (by kernel_rfl)) ?_
            refine WR.nil ?_
            change WC _ _ _ _ _ _
            refine WC.ret ?_
            intro w hw
            obtain rfl := Option.some.inj h
            subst hF
            exact end_e (is := []) (by kernel_rfl) hw rfl ⟨A82, c83, rfl, rfl, hc85, hs84, (show I64 0 by decide), trivial⟩
abbrev r_firthref14_Take (r : (List Rec) × Int) (U : List Rowb) (Γ : Gh) (v : Value) : Prop := ∃ (A0 : Option Addr), ∃ (c0 : Nat), ∃ (row0 : Rowb), v = .tuple #[.slice A0 r.1.length c0, .int .i64 r.2] ∧ U = [row0] ∧ Own recT Γ 74 row0 A0 c0 r.1 ∧ I64 r.2 ∧ True
set_option maxRecDepth 100000 in
set_option maxHeartbeats 400000 in
theorem t_firthref14_Take {Γ : Gh} {w0 : World} {Aown : Option Addr} {cown : Nat} {own : List Rec} (hown : Sl recT Γ Aown own) (hownc : own.length ≤ cown) {Atheirs : Option Addr} {ctheirs : Nat} {theirs : List Rec} (htheirs : Sl recT Γ Atheirs theirs) (htheirsc : theirs.length ≤ ctheirs) (hp : Pre [] Γ w0) {r : (List Rec) × Int} (h : m_firthref14_Take own theirs = some r) : Calls Try.prog 39 #[.slice Aown own.length cown, .slice Atheirs theirs.length ctheirs] w0 (Outc Γ [] w0 (r_firthref14_Take r)) := by
  refine calls_of (N := 90) (rs := [4, 5]) (args := [.slice Aown own.length cown, .slice Atheirs theirs.length ctheirs]) Try.func39 rfl Try.ntmps39 Try.results39 rfl ?_
  obtain ⟨F, hF⟩ : ∃ F : Fm, F = ⟨ids [], w0, Γ⟩ := ⟨_, rfl⟩
  refine WC.here (C := CC F Γ []) ?_ (hF ▸ hp.start)
  refine WC.rs ?_
  refine va rfl rfl rfl (q_assign (v := .slice none 0 0) rfl (by kernel_rfl)) ?_
  refine va rfl rfl rfl (q_assign (v := .int .i64 0) rfl (by kernel_rfl)) ?_
  refine WR.nil ?_
  change WC _ _ _ _ _ _
  refine WC.rs ?_
  refine va rfl rfl rfl (q_move (v := .slice Aown own.length cown) rfl (by kernel_rfl)) ?_
  obtain ⟨z1, hz2, h⟩ := bnd h
  refine e_call (is := []) rfl rfl (call_run Try.call67 rfl rfl (by kernel_rfl)) rfl (fun w hp => t_firthref14_Held hown hownc hp hz2) ?_
  rintro Γ3 U5 v6 hl4 ⟨A7, c8, row9, rfl, rfl, hr10, _⟩
  change WR _ _ _ (CC F Γ3 [row9]) _ _ (upd _ 16 (.tuple #[.slice A7 z1.1.length c8, .bool z1.2]))
  refine va rfl rfl rfl (q_move (v := .tuple #[.slice A7 z1.1.length c8, .bool z1.2]) rfl (by kernel_rfl)) ?_
  refine va rfl rfl rfl (q_extract (v := .slice A7 z1.1.length c8) rfl rfl rfl) ?_
  refine va rfl rfl rfl (q_extract (v := .bool z1.2) rfl rfl rfl) ?_
  refine va rfl rfl rfl (q_assign (v := .slice A7 z1.1.length c8) rfl (by kernel_rfl)) ?_
  refine va rfl rfl rfl (q_assign (v := .bool z1.2) rfl (by kernel_rfl)) ?_
  refine WR.nil ?_
  change WC _ _ _ _ _ _
  refine WC.seq ?_
  refine WC.rs ?_
  refine va rfl rfl rfl (q_move (v := .bool z1.2) rfl (by kernel_rfl)) ?_
  refine va rfl rfl rfl (q_not rfl rfl) ?_
  refine WR.nil ?_
  change WC _ _ _ _ _ _
  refine WC.cif h (by kernel_rfl) (fun hb11 h => ?_) (fun hb11 h => ?_)
  · skip
    refine WC.rs ?_
    refine va rfl rfl rfl (q_assign (v := .slice none 0 0) rfl (by kernel_rfl)) ?_
    refine va rfl rfl rfl (q_assign (v := .int .i64 1) rfl (by kernel_rfl)) ?_
    refine WR.nil ?_
    change WC _ _ _ _ _ _
    refine WC.ret ?_
    intro w hw
    have hw := hw.pad
    obtain rfl := Option.some.inj h
    subst hF
    exact end_e (is := [0]) (by kernel_rfl) hw rfl ⟨none, 0, [], rfl, rfl, (Own.nil recT _ 74), (show I64 1 by decide), trivial⟩
  · skip
    refine WC.skip ?_
    change WC _ _ _ _ _ _
    refine WC.rs ?_
    refine va rfl rfl rfl (q_move (v := .slice Atheirs theirs.length ctheirs) rfl (by kernel_rfl)) ?_
    obtain ⟨z12, hz13, h⟩ := bnd h
    refine e_call (is := []) rfl rfl (call_run Try.call67 rfl rfl (by kernel_rfl)) rfl (fun w hp => t_firthref14_Held (htheirs.mono hl4) htheirsc hp hz13) ?_
    rintro Γ14 U16 v17 hl15 ⟨A18, c19, row20, rfl, rfl, hr21, _⟩
    change WR _ _ _ (CC F Γ14 [row20, row9]) _ _ (upd _ 23 (.tuple #[.slice A18 z12.1.length c19, .bool z12.2]))
    refine va rfl rfl rfl (q_move (v := .tuple #[.slice A18 z12.1.length c19, .bool z12.2]) rfl (by kernel_rfl)) ?_
    refine va rfl rfl rfl (q_extract (v := .slice A18 z12.1.length c19) rfl rfl rfl) ?_
    refine va rfl rfl rfl (q_extract (v := .bool z12.2) rfl rfl rfl) ?_
    refine va rfl rfl rfl (q_assign (v := .bool z12.2) rfl (by kernel_rfl)) ?_
    refine WR.nil ?_
    change WC _ _ _ _ _ _
    refine WC.seq ?_
    refine WC.rs ?_
    refine va rfl rfl rfl (q_move (v := .bool z12.2) rfl (by kernel_rfl)) ?_
    refine va rfl rfl rfl (q_not rfl rfl) ?_
    refine WR.nil ?_
    change WC _ _ _ _ _ _
    refine WC.cif h (by kernel_rfl) (fun hb22 h => ?_) (fun hb22 h => ?_)
    · skip
      refine WC.rs ?_
      refine va rfl rfl rfl (q_assign (v := .slice none 0 0) rfl (by kernel_rfl)) ?_
      refine va rfl rfl rfl (q_assign (v := .int .i64 1) rfl (by kernel_rfl)) ?_
      refine WR.nil ?_
      change WC _ _ _ _ _ _
      refine WC.ret ?_
      intro w hw
      have hw := hw.pad
      obtain rfl := Option.some.inj h
      subst hF
      exact end_e (is := [0]) (by kernel_rfl) hw rfl ⟨none, 0, [], rfl, rfl, (Own.nil recT _ 74), (show I64 1 by decide), trivial⟩
    · skip
      refine WC.skip ?_
      change WC _ _ _ _ _ _
      refine WC.rs ?_
      refine va rfl rfl rfl (q_move (v := .slice A7 z1.1.length c8) rfl (by kernel_rfl)) ?_
      refine va rfl rfl rfl (q_assign (v := .slice A7 z1.1.length c8) rfl (by kernel_rfl)) ?_
      refine WR.nil ?_
      change WC _ _ _ _ _ _
      refine WC.seq ?_
      refine WC.rs ?_
      refine va rfl rfl rfl (q_assign (v := .int .i64 0) rfl (by kernel_rfl)) ?_
      refine WR.nil ?_
      change WC _ _ _ _ _ _
      refine WC.block ?_
      refine WC.forI h (fun (i36 : Nat) (s : (List Rec) × (List Rec)) σ w => match s with | (was_25, now_30) => ∃ (Γ23 : Gh), ∃ (A26 : Option Addr), ∃ (c27 : Nat), ∃ (A31 : Option Addr), ∃ (c32 : Nat), slots σ [(1, .slice Atheirs theirs.length ctheirs), (6, .slice A26 was_25.length c27), (8, .slice A31 now_30.length c32), (9, .int .i64 ((i36 : Nat) : Int))] ∧ CC F Γ23 [] w ∧ Gh.le Γ14 Γ23 ∧ was_25.length ≤ c27 ∧ Sl recT Γ23 A26 was_25 ∧ now_30.length ≤ c32 ∧ Sl recT Γ23 A31 now_30 ∧ True) ?_ ?_
      · skip
        intro w hw
        have hc41 := (hr10.mono hl15).capz
        obtain ⟨Γ37, hw, hl38, hr39⟩ := hw.seal (i := 1) rfl; have hs40 := (hr10.mono hl15).sl hl38 hr39
        exact ⟨Γ37, A7, c8, A7, c8, (sl_ (by kernel_rfl)), (hw.only (is := []) rfl), hl38, hc41, hs40, hc41, hs40, trivial⟩
      rintro f35 i36 ⟨was_25, now_30⟩ σ w hi42 hlt43 hge44 ⟨Γ23, A26, c27, A31, c32, hsl, hw, hl24, hc29, hs28, hc34, hs33, -⟩
      refine Wpt.slots hsl ?_
      refine WC.here (C := CC F Γ23 []) ?_ hw
      clear hw hsl
      refine WC.seq ?_
      refine WC.rs ?_
      refine va rfl rfl rfl (q_move (v := .int .i64 ((i36 : Nat) : Int)) rfl (by kernel_rfl)) ?_
      refine va rfl rfl rfl (q_move (v := .slice Atheirs theirs.length ctheirs) rfl (by kernel_rfl)) ?_
      refine va rfl rfl rfl (q_len_slice rfl Try.underlying41 rfl) ?_
      refine va rfl rfl rfl (q_lss rfl rfl rfl) ?_
      refine WR.nil ?_
      change WC _ _ _ _ _ _
      refine WC.cond (b := (decide (((i36 : Nat) : Int) < ((theirs.length : Nat) : Int)))) (by kernel_rfl) (fun hb45 => ?_) (fun hb45 => ?_)
      · skip
        have hl46 := ilt hb45
        have h := hlt43 hl46
        refine WC.skip ?_
        change WC _ _ _ _ _ _
        refine WC.cut (fun σ w => ∃ (now_49 : List Rec), ∃ (Γ47 : Gh), ∃ (A50 : Option Addr), ∃ (c51 : Nat), m_firthref14_Take_j5 was_25 f35 now_49 = some r ∧ slots σ [(1, .slice Atheirs theirs.length ctheirs), (6, .slice A26 was_25.length c27), (8, .slice A50 now_49.length c51), (9, .int .i64 ((i36 : Nat) : Int))] ∧ CC F Γ47 [] w ∧ Gh.le Γ23 Γ47 ∧ now_49.length ≤ c51 ∧ Sl recT Γ47 A50 now_49 ∧ True) ?_ ?_
        · skip
          refine WC.block ?_
          refine WC.seq ?_
          intro w hw; have h054 := hw.le
          refine WC.here (C := CC F Γ23 []) ?_ hw; clear hw
          refine WC.held (CC F Γ23 []) (by kernel_rfl) (fun w hw => hw.drawn _) ?_
          change WH _ _ _ _ (CC F Γ23 []) _ 18 #[false, false, false, false, false, false, false, false, false, false, false, false, false, false, false, false, false, false] _
          refine ht (i := 0) rfl (by kernel_rfl) rfl rfl rfl (fun w hw => hw.back (Gh.refl _) h054 .slnil) (q_move (v := .slice A31 now_30.length c32) rfl (by kernel_rfl)) ?_
          refine ht (i := 1) rfl (by kernel_rfl) rfl rfl rfl (fun w hw => hw.back (Gh.refl _) h054 .slnil) (q_move (v := .slice Atheirs theirs.length ctheirs) rfl (by kernel_rfl)) ?_
          refine ht (i := 2) rfl (by kernel_rfl) rfl rfl rfl (fun w hw => hw.back (Gh.refl _) h054 .slnil) (q_move (v := .int .i64 ((i36 : Nat) : Int)) rfl (by kernel_rfl)) ?_
          refine ht (i := 3) rfl (by kernel_rfl) rfl rfl rfl (fun w hw => hw.back (Gh.refl _) h054 .slnil) (q_ixn (i := i36) Try.underlying41 Try.sizeOf74 rfl rfl rfl hl46 ((htheirs.mono ((hl4.trans hl15).trans hl24)).some_ hl46)) ?_
          refine ht (i := 4) rfl (by kernel_rfl) rfl rfl rfl (fun w hw => hw.back (Gh.refl _) h054 .slnil) (q_field_addr (i36 * 2) fld_74_0 rfl rfl ((htheirs.mono ((hl4.trans hl15).trans hl24)).some_ hl46) rfl) ?_
          obtain ⟨A55, c56, hx57⟩ := (htheirs.mono ((hl4.trans hl15).trans hl24)).recT_at i36
          refine ht (i := 5) rfl (by kernel_rfl) rfl rfl rfl (fun w hw => hw.back (Gh.refl _) h054 .slnil) (q_ld (c := 0) (v := .string (gt theirs i36).key) (hx57 hl46).2 rfl Try.isAgg9 rfl rfl) ?_
          refine ht (i := 7) rfl (by kernel_rfl) rfl rfl rfl (fun w hw => hw.back (Gh.refl _) h054 .slnil) (q_move (v := .slice Atheirs theirs.length ctheirs) rfl (by kernel_rfl)) ?_
          refine ht (i := 8) rfl (by kernel_rfl) rfl rfl rfl (fun w hw => hw.back (Gh.refl _) h054 .slnil) (q_move (v := .int .i64 ((i36 : Nat) : Int)) rfl (by kernel_rfl)) ?_
          refine ht (i := 9) rfl (by kernel_rfl) rfl rfl rfl (fun w hw => hw.back (Gh.refl _) h054 .slnil) (q_ixn (i := i36) Try.underlying41 Try.sizeOf74 rfl rfl rfl hl46 ((htheirs.mono ((hl4.trans hl15).trans hl24)).some_ hl46)) ?_
          refine ht (i := 10) rfl (by kernel_rfl) rfl rfl rfl (fun w hw => hw.back (Gh.refl _) h054 .slnil) (q_field_addr (i36 * 2 + 1) fld_74_1 rfl rfl ((htheirs.mono ((hl4.trans hl15).trans hl24)).some_ hl46) rfl) ?_
          refine ht (i := 11) rfl (by kernel_rfl) rfl rfl rfl (fun w hw => hw.back (Gh.refl _) h054 .slnil) (q_ld (c := 1) (v := .slice A55 ((gt theirs i36).vers).length c56) (hx57 hl46).2 rfl Try.isAgg40 rfl rfl) ?_
          refine WH.lone (i := 6) (by kernel_rfl) rfl ?_
          obtain ⟨z58, hz59, h⟩ := bnd h
          refine e_call (is := []) rfl rfl (call_run Try.call68 rfl rfl (by kernel_rfl)) rfl (fun w hp => t_firthref14_Get hs33 hc34 ((gt theirs i36).key) (hx57 hl46).1.1 hp hz59) ?_
          rintro Γ60 U62 v63 hl61 ⟨A64, c65, rfl, rfl, hc67, hr66, _⟩
          change WR _ _ _ (CC F Γ60 []) _ _ (upd _ 42 (.slice A64 z58.length c65))
          refine WR.nil ?_
          refine WH.next (fun w hw => hw.back hl61 h054 .slnil) ?_
          refine WH.lone (i := 12) (by kernel_rfl) rfl ?_
          obtain ⟨z68, hz69, h⟩ := bnd h
          refine e_call (is := []) rfl rfl (call_run Try.call32 rfl rfl (by kernel_rfl)) rfl (fun w hp => t_firthref05_Merge hr66 hc67 ((hx57 hl46).1.2.2.mono hl61) (hx57 hl46).1.2.1 hp hz69) ?_
          rintro Γ70 U72 v73 hl71 ⟨A74, c75, rfl, rfl, hc77, hr76, hr78, _⟩
          change WR _ _ _ (CC F Γ70 []) _ _ (upd _ 48 (.tuple #[.slice A74 z68.1.length c75, .int .i64 z68.2]))
          refine WR.nil ?_
          refine WH.next (fun w hw => hw.back (hl61.trans hl71) h054 .slnil) ?_
          refine ht (i := 13) rfl (by kernel_rfl) rfl rfl rfl (fun w hw => hw.back (hl61.trans hl71) h054 .slnil) (q_move (v := .tuple #[.slice A74 z68.1.length c75, .int .i64 z68.2]) rfl (by kernel_rfl)) ?_
          refine ht (i := 14) rfl (by kernel_rfl) rfl rfl rfl (fun w hw => hw.back (hl61.trans hl71) h054 .slnil) (q_extract (v := .slice A74 z68.1.length c75) rfl rfl rfl) ?_
          refine ht (i := 15) rfl (by kernel_rfl) rfl rfl rfl (fun w hw => hw.back (hl61.trans hl71) h054 .slnil) (q_extract (v := .int .i64 z68.2) rfl rfl rfl) ?_
          refine ht (i := 16) rfl (by kernel_rfl) rfl rfl rfl (fun w hw => hw.back (hl61.trans hl71) h054 .slnil) (q_assign (v := .slice A74 z68.1.length c75) rfl (by kernel_rfl)) ?_
          refine ht (i := 17) rfl (by kernel_rfl) rfl rfl rfl (fun w hw => hw.back (hl61.trans hl71) h054 .slnil) (q_assign (v := .int .i64 z68.2) rfl (by kernel_rfl)) ?_
          refine WH.done (by kernel_rfl) ?_
          change WC _ _ _ _ _ _
          refine WC.rs ?_
          refine va rfl rfl rfl (q_move (v := .int .i64 z68.2) rfl (by kernel_rfl)) ?_
          refine va rfl rfl rfl (q_eql rfl rfl rfl) ?_
          refine WR.nil ?_
          change WC _ _ _ _ _ _
          refine WC.cif h (by kernel_rfl) (fun hb79 h => ?_) (fun hb79 h => ?_)
          · skip
            refine WC.region ?_
            refine va rfl rfl rfl (q_move (v := .slice A31 now_30.length c32) rfl (by kernel_rfl)) ?_
            refine va rfl rfl rfl (q_move (v := .slice Atheirs theirs.length ctheirs) rfl (by kernel_rfl)) ?_
            refine va rfl rfl rfl (q_move (v := .int .i64 ((i36 : Nat) : Int)) rfl (by kernel_rfl)) ?_
            refine va rfl rfl rfl (q_ixn (i := i36) Try.underlying41 Try.sizeOf74 rfl rfl rfl hl46 ((htheirs.mono ((((hl4.trans hl15).trans hl24).trans hl61).trans hl71)).some_ hl46)) ?_
            refine va rfl rfl rfl (q_field_addr (i36 * 2) fld_74_0 rfl rfl ((htheirs.mono ((((hl4.trans hl15).trans hl24).trans hl61).trans hl71)).some_ hl46) rfl) ?_
            refine va rfl rfl rfl (q_ld (c := 0) (v := .string (gt theirs i36).key) ((hx57 hl46).2.mono (hl61.trans hl71)) rfl Try.isAgg9 rfl rfl) ?_
            refine va rfl rfl rfl (q_move (v := .slice A74 z68.1.length c75) rfl (by kernel_rfl)) ?_
            refine va rfl rfl rfl (q_build' (v := .agg #[.string (gt theirs i36).key, .slice A74 z68.1.length c75]) rfl (bargs2 rfl rfl) (fun w => by kernel_rfl)) ?_
            obtain ⟨z80, hz81, h⟩ := bnd h
            refine e_call (is := []) rfl rfl (call_run Try.call69 rfl rfl (by kernel_rfl)) rfl (fun w hp => t_firthref10_With (hs33.mono (hl61.trans hl71)) hc34 (⟨(gt theirs i36).key, z68.1⟩ : Rec) ⟨(hx57 hl46).1.1, ⟨hc77, hr76⟩⟩ hp hz81) ?_
            rintro Γ82 U84 v85 hl83 ⟨A86, c87, row88, rfl, rfl, hr89, _⟩
            change WR _ _ _ (CC F Γ82 [row88]) _ _ (upd _ 61 (.slice A86 z80.length c87))
            refine va rfl rfl rfl (q_assign (v := .slice A86 z80.length c87) rfl (by kernel_rfl)) ?_
            refine WR.nil ?_
            intro w hw
            have hc94 := hr89.capz
            obtain ⟨Γ90, hw, hl91, hr92⟩ := hw.seal (i := 0) rfl; have hs93 := hr89.sl hl91 hr92
            exact ⟨z80, Γ90, A86, c87, h, (sl_ (by kernel_rfl)), (hw.only (is := []) rfl), (((hl61.trans hl71).trans hl83).trans hl91), hc94, hs93, trivial⟩
          · skip
            refine WC.skip ?_
            intro w hw
            exact ⟨now_30, Γ70, A31, c32, h, (sl_ (by kernel_rfl)), hw, (hl61.trans hl71), hc34, (hs33.mono (hl61.trans hl71)), trivial⟩
        · skip
          rintro σ w ⟨now_49, Γ47, A50, c51, h, hsl, hw, hl48, hc53, hs52, -⟩
          refine Wpt.slots hsl ?_
          refine WC.here (C := CC F Γ47 []) ?_ hw
          clear hw hsl
          refine WC.region ?_
          refine va rfl rfl rfl (q_move (v := .int .i64 ((i36 : Nat) : Int)) rfl (by kernel_rfl)) ?_
          refine va rfl rfl rfl (q_add_r (r := ((i36 + 1 : Nat) : Int)) rfl rfl rfl (ctr_len hl46 (htheirs.mono ((hl4.trans hl15).trans hl24)).le)) ?_
          refine va rfl rfl rfl (q_assign (v := .int .i64 ((i36 + 1 : Nat) : Int)) rfl (by kernel_rfl)) ?_
          refine WR.nil ?_
          intro w hw
          exact ⟨hl46, (was_25, now_49), h, Γ47, A26, c27, A50, c51, (sl_ (by kernel_rfl)), hw, (hl24.trans hl48), hc29, (hs28.mono hl48), hc53, hs52, trivial⟩
      · skip
        have h := hge44 (ige hb45)
        refine WC.exit ?_
        change WC _ _ _ _ _ _
        refine WC.rs ?_
        refine va rfl rfl rfl (q_assign (v := .slice none 0 0) rfl (by kernel_rfl)) ?_
        refine WR.nil ?_
        change WC _ _ _ _ _ _
        refine WC.seq ?_
        refine WC.rs ?_
        refine va rfl rfl rfl (q_assign (v := .int .i64 0) rfl (by kernel_rfl)) ?_
        refine WR.nil ?_
        change WC _ _ _ _ _ _
        refine WC.block ?_
        refine WC.forI h (fun (i103 : Nat) (out_97 : List Rec) σ w => ∃ (Γ95 : Gh), ∃ (A98 : Option Addr), ∃ (c99 : Nat), ∃ (row100 : Rowb), slots σ [(6, .slice A26 was_25.length c27), (8, .slice A31 now_30.length c32), (12, .slice A98 out_97.length c99), (13, .int .i64 ((i103 : Nat) : Int))] ∧ CC F Γ95 [row100] w ∧ Gh.le Γ23 Γ95 ∧ Own recT Γ95 74 row100 A98 c99 out_97 ∧ True) ?_ ?_
        · skip
          intro w hw
          have hw := hw.pad
          exact ⟨Γ23, none, 0, [], (sl_ (by kernel_rfl)), hw, (Gh.refl _), (Own.nil recT _ 74), trivial⟩
        rintro f102 i103 out_97 σ w hi104 hlt105 hge106 ⟨Γ95, A98, c99, row100, hsl, hw, hl96, ho101, -⟩
        refine Wpt.slots hsl ?_
        refine WC.here (C := CC F Γ95 [row100]) ?_ hw
        clear hw hsl
        refine WC.seq ?_
        refine WC.rs ?_
        refine va rfl rfl rfl (q_move (v := .int .i64 ((i103 : Nat) : Int)) rfl (by kernel_rfl)) ?_
        refine va rfl rfl rfl (q_move (v := .slice A31 now_30.length c32) rfl (by kernel_rfl)) ?_
        refine va rfl rfl rfl (q_len_slice rfl Try.underlying41 rfl) ?_
        refine va rfl rfl rfl (q_lss rfl rfl rfl) ?_
        refine WR.nil ?_
        change WC _ _ _ _ _ _
        refine WC.cond (b := (decide (((i103 : Nat) : Int) < ((now_30.length : Nat) : Int)))) (by kernel_rfl) (fun hb107 => ?_) (fun hb107 => ?_)
        · skip
          have hl108 := ilt hb107
          have h := hlt105 hl108
          refine WC.skip ?_
          change WC _ _ _ _ _ _
          refine WC.cut (fun σ w => ∃ (out_111 : List Rec), ∃ (Γ109 : Gh), ∃ (A112 : Option Addr), ∃ (c113 : Nat), ∃ (row114 : Rowb), m_firthref14_Take_j10 f102 out_111 = some r ∧ slots σ [(6, .slice A26 was_25.length c27), (8, .slice A31 now_30.length c32), (12, .slice A112 out_111.length c113), (13, .int .i64 ((i103 : Nat) : Int))] ∧ CC F Γ109 [row114] w ∧ Gh.le Γ95 Γ109 ∧ Own recT Γ109 74 row114 A112 c113 out_111 ∧ True) ?_ ?_
          · skip
            refine WC.block ?_
            refine WC.seq ?_
            intro w hw; have h0116 := hw.le
            refine WC.here (C := CC F Γ95 [row100]) ?_ hw; clear hw
            refine WC.held (CC F Γ95 [row100]) (by kernel_rfl) (fun w hw => hw.drawn _) ?_
            change WH _ _ _ _ (CC F Γ95 [row100]) _ 14 #[false, false, false, false, false, false, false, false, false, false, false, false, false, false] _
            refine ht (i := 0) rfl (by kernel_rfl) rfl rfl rfl (fun w hw => hw.back (Gh.refl _) h0116 (.cons_cons _ .slnil)) (q_move (v := .slice A31 now_30.length c32) rfl (by kernel_rfl)) ?_
            refine ht (i := 1) rfl (by kernel_rfl) rfl rfl rfl (fun w hw => hw.back (Gh.refl _) h0116 (.cons_cons _ .slnil)) (q_move (v := .int .i64 ((i103 : Nat) : Int)) rfl (by kernel_rfl)) ?_
            refine ht (i := 2) rfl (by kernel_rfl) rfl rfl rfl (fun w hw => hw.back (Gh.refl _) h0116 (.cons_cons _ .slnil)) (q_ixn (i := i103) Try.underlying41 Try.sizeOf74 rfl rfl rfl hl108 ((hs33.mono hl96).some_ hl108)) ?_
            refine ht (i := 3) rfl (by kernel_rfl) rfl rfl rfl (fun w hw => hw.back (Gh.refl _) h0116 (.cons_cons _ .slnil)) (q_field_addr (i103 * 2 + 1) fld_74_1 rfl rfl ((hs33.mono hl96).some_ hl108) rfl) ?_
            obtain ⟨A117, c118, hx119⟩ := (hs33.mono hl96).recT_at i103
            refine ht (i := 4) rfl (by kernel_rfl) rfl rfl rfl (fun w hw => hw.back (Gh.refl _) h0116 (.cons_cons _ .slnil)) (q_ld (c := 1) (v := .slice A117 ((gt now_30 i103).vers).length c118) (hx119 hl108).2 rfl Try.isAgg40 rfl rfl) ?_
            refine ht (i := 5) rfl (by kernel_rfl) rfl rfl rfl (fun w hw => hw.back (Gh.refl _) h0116 (.cons_cons _ .slnil)) (q_move (v := .slice A26 was_25.length c27) rfl (by kernel_rfl)) ?_
            refine ht (i := 6) rfl (by kernel_rfl) rfl rfl rfl (fun w hw => hw.back (Gh.refl _) h0116 (.cons_cons _ .slnil)) (q_move (v := .slice A31 now_30.length c32) rfl (by kernel_rfl)) ?_
            refine ht (i := 7) rfl (by kernel_rfl) rfl rfl rfl (fun w hw => hw.back (Gh.refl _) h0116 (.cons_cons _ .slnil)) (q_move (v := .int .i64 ((i103 : Nat) : Int)) rfl (by kernel_rfl)) ?_
            refine ht (i := 8) rfl (by kernel_rfl) rfl rfl rfl (fun w hw => hw.back (Gh.refl _) h0116 (.cons_cons _ .slnil)) (q_ixn (i := i103) Try.underlying41 Try.sizeOf74 rfl rfl rfl hl108 ((hs33.mono hl96).some_ hl108)) ?_
            refine ht (i := 9) rfl (by kernel_rfl) rfl rfl rfl (fun w hw => hw.back (Gh.refl _) h0116 (.cons_cons _ .slnil)) (q_field_addr (i103 * 2) fld_74_0 rfl rfl ((hs33.mono hl96).some_ hl108) rfl) ?_
            refine ht (i := 10) rfl (by kernel_rfl) rfl rfl rfl (fun w hw => hw.back (Gh.refl _) h0116 (.cons_cons _ .slnil)) (q_ld (c := 0) (v := .string (gt now_30 i103).key) (hx119 hl108).2 rfl Try.isAgg9 rfl rfl) ?_
            refine WH.lone (i := 11) (by kernel_rfl) rfl ?_
            obtain ⟨z120, hz121, h⟩ := bnd h
            refine e_call (is := []) rfl rfl (call_run Try.call68 rfl rfl (by kernel_rfl)) rfl (fun w hp => t_firthref14_Get (hs28.mono hl96) hc29 ((gt now_30 i103).key) (hx119 hl108).1.1 hp hz121) ?_
            rintro Γ122 U124 v125 hl123 ⟨A126, c127, rfl, rfl, hc129, hr128, _⟩
            change WR _ _ _ (CC F Γ122 [row100]) _ _ (upd _ 79 (.slice A126 z120.length c127))
            refine WR.nil ?_
            refine WH.next (fun w hw => hw.back hl123 h0116 (.cons_cons _ .slnil)) ?_
            refine WH.lone (i := 12) (by kernel_rfl) rfl ?_
            obtain ⟨z130, hz131, h⟩ := bnd h
            refine vc rfl rfl rfl (q_call (call_run Try.call24 rfl rfl (by kernel_rfl)) (fun w hw => t_firthref05_Same (Γ := Gh.all w) (((hx119 hl108).1.2.2.mono hl123).mono hw.sat.le_all) (hx119 hl108).1.2.1 (hr128.mono hw.sat.le_all) hc129 (Sat.all w) hz131)) ?_
            refine WR.nil ?_
            refine WH.next (fun w hw => hw.back hl123 h0116 (.cons_cons _ .slnil)) ?_
            refine ht (i := 13) rfl (by kernel_rfl) rfl rfl rfl (fun w hw => hw.back hl123 h0116 (.cons_cons _ .slnil)) (q_not rfl rfl) ?_
            refine WH.done (by kernel_rfl) ?_
            change WC _ _ _ _ _ _
            refine WC.cif h (by kernel_rfl) (fun hb132 h => ?_) (fun hb132 h => ?_)
            · skip
              refine WC.region ?_
              refine va rfl rfl rfl (q_move (v := .slice A98 out_97.length c99) rfl (by kernel_rfl)) ?_
              refine va rfl rfl rfl (q_move (v := .slice A31 now_30.length c32) rfl (by kernel_rfl)) ?_
              refine va rfl rfl rfl (q_move (v := .int .i64 ((i103 : Nat) : Int)) rfl (by kernel_rfl)) ?_
              refine va rfl rfl rfl (q_ixn (i := i103) Try.underlying41 Try.sizeOf74 rfl rfl rfl hl108 ((hs33.mono (hl96.trans hl123)).some_ hl108)) ?_
              refine va rfl rfl rfl (q_lda (c := 0) (vs := [.string (gt now_30 i103).key, .slice A117 ((gt now_30 i103).vers).length c118]) ((hx119 hl108).2.mono hl123) rfl Try.isAgg74 Try.sizeOf74 rfl rfl rfl) ?_
              refine e_buildSlice (cs := #[.string (gt now_30 i103).key, .slice A117 ((gt now_30 i103).vers).length c118]) (e := 74) rfl rfl rfl rfl (fun w => by kernel_rfl) ?_
              intro g133
              obtain ⟨hk134, h⟩ := chk_some h
              refine e_append (T := recT) (xs := out_97) (ys := [(gt now_30 i103)]) elem_41 (i := 1) rfl rfl rfl rfl rfl rfl rfl (ho101.mono hl123) (of_decide_eq_true hk134) (fun w hw => src_one (T := recT) (y := (gt now_30 i103)) (i := 0) rfl (by exact ⟨A117, c118, rfl, (Rec.fits_mono (hx119 hl108).1 hl123)⟩) hw) ?_
              intro row135 A136 c137 ho138
              refine va rfl rfl rfl (q_assign (v := .slice A136 (out_97 ++ [(gt now_30 i103)]).length c137) rfl (by kernel_rfl)) ?_
              refine WR.nil ?_
              intro w hw
              exact ⟨(out_97 ++ [(gt now_30 i103)]), Γ122, A136, c137, row135, h, (sl_ (by kernel_rfl)), (hw.only (is := [1]) rfl), hl123, ho138, trivial⟩
            · skip
              refine WC.skip ?_
              intro w hw
              exact ⟨out_97, Γ122, A98, c99, row100, h, (sl_ (by kernel_rfl)), hw, hl123, (ho101.mono hl123), trivial⟩
          · skip
            rintro σ w ⟨out_111, Γ109, A112, c113, row114, h, hsl, hw, hl110, ho115, -⟩
            refine Wpt.slots hsl ?_
            refine WC.here (C := CC F Γ109 [row114]) ?_ hw
            clear hw hsl
            refine WC.region ?_
            refine va rfl rfl rfl (q_move (v := .int .i64 ((i103 : Nat) : Int)) rfl (by kernel_rfl)) ?_
            refine va rfl rfl rfl (q_add_r (r := ((i103 + 1 : Nat) : Int)) rfl rfl rfl (ctr_len hl108 (hs33.mono hl96).le)) ?_
            refine va rfl rfl rfl (q_assign (v := .int .i64 ((i103 + 1 : Nat) : Int)) rfl (by kernel_rfl)) ?_
            refine WR.nil ?_
            intro w hw
            exact ⟨hl108, out_111, h, Γ109, A112, c113, row114, (sl_ (by kernel_rfl)), hw, (hl96.trans hl110), ho115, trivial⟩
        · skip
          have h := hge106 (ige hb107)
          refine WC.exit ?_
          change WC _ _ _ _ _ _
          refine WC.rs ?_
          refine va rfl rfl rfl (q_move (v := .slice A98 out_97.length c99) rfl (by kernel_rfl)) ?_
          refine va rfl rfl rfl (q_assign (v := .slice A98 out_97.length c99) rfl (by kernel_rfl)) ?_
          refine va rfl rfl rfl (q_assign (v := .int .i64 0) rfl (by kernel_rfl)) ?_
          refine WR.nil ?_
          change WC _ _ _ _ _ _
          refine WC.ret ?_
          intro w hw
          obtain rfl := Option.some.inj h
          subst hF
          exact end_e (is := [0]) (by kernel_rfl) hw rfl ⟨A98, c99, row100, rfl, rfl, ho101, (show I64 0 by decide), trivial⟩
set_option maxRecDepth 100000 in
set_option maxHeartbeats 400000 in
theorem t_firthref06_SameRecs {Γ : Gh} {w0 : World} {Aa : Option Addr} {ca : Nat} {a : List Rec} (ha : Sl recT Γ Aa a) (hac : a.length ≤ ca) {Ab : Option Addr} {cb : Nat} {b : List Rec} (hb : Sl recT Γ Ab b) (hbc : b.length ≤ cb) (hs : Sat Γ w0) {r : Bool} (h : m_firthref06_SameRecs a b = some r) : Calls Try.prog 40 #[.slice Aa a.length ca, .slice Ab b.length cb] w0 (fun e w' => e = .returned (.bool r) ∧ Fr no w0 w') := by
  refine calls_of (N := 42) (rs := [4]) (args := [.slice Aa a.length ca, .slice Ab b.length cb]) Try.func40 rfl Try.ntmps40 Try.results40 rfl ?_
  obtain ⟨F, hF⟩ : ∃ F : Fm, F = ⟨no, w0, Γ⟩ := ⟨_, rfl⟩
  refine WC.here (C := CC F Γ []) ?_ (hF ▸ Cur.start0 hs)
  refine WC.rs ?_
  refine va rfl rfl rfl (q_assign (v := .bool false) rfl (by kernel_rfl)) ?_
  refine WR.nil ?_
  change WC _ _ _ _ _ _
  refine WC.seq ?_
  refine WC.rs ?_
  refine va rfl rfl rfl (q_move (v := .slice Aa a.length ca) rfl (by kernel_rfl)) ?_
  refine va rfl rfl rfl (q_len_slice rfl Try.underlying41 rfl) ?_
  refine va rfl rfl rfl (q_move (v := .slice Ab b.length cb) rfl (by kernel_rfl)) ?_
  refine va rfl rfl rfl (q_len_slice rfl Try.underlying41 rfl) ?_
  refine va rfl rfl rfl (q_neq rfl rfl rfl) ?_
  refine WR.nil ?_
  change WC _ _ _ _ _ _
  refine WC.cif h (by kernel_rfl) (fun hb1 h => ?_) (fun hb1 h => ?_)
  · skip
    refine WC.rs ?_
    refine va rfl rfl rfl (q_assign (v := .bool false) rfl (by kernel_rfl)) ?_
    refine WR.nil ?_
    change WC _ _ _ _ _ _
    refine WC.ret ?_
    intro w hw
    obtain rfl := Option.some.inj h
    subst hF
    exact ⟨by kernel_rfl, hw.fr⟩
  · skip
    refine WC.skip ?_
    change WC _ _ _ _ _ _
    refine WC.seq ?_
    refine WC.rs ?_
    refine va rfl rfl rfl (q_assign (v := .int .i64 0) rfl (by kernel_rfl)) ?_
    refine WR.nil ?_
    change WC _ _ _ _ _ _
    refine WC.block ?_
    refine WC.forI h (fun (i3 : Nat) (s : Unit) σ w => match s with | () => slots σ [(0, .slice Aa a.length ca), (1, .slice Ab b.length cb), (5, .int .i64 ((i3 : Nat) : Int))] ∧ CC F Γ [] w ∧ True) ?_ ?_
    · skip
      intro w hw
      exact ⟨(sl_ (by kernel_rfl)), hw, trivial⟩
    rintro f2 i3 ⟨⟩ σ w hi4 hlt5 hge6 ⟨hsl, hw, -⟩
    refine Wpt.slots hsl ?_
    refine WC.here (C := CC F Γ []) ?_ hw
    clear hw hsl
    refine WC.seq ?_
    refine WC.rs ?_
    refine va rfl rfl rfl (q_move (v := .int .i64 ((i3 : Nat) : Int)) rfl (by kernel_rfl)) ?_
    refine va rfl rfl rfl (q_move (v := .slice Aa a.length ca) rfl (by kernel_rfl)) ?_
    refine va rfl rfl rfl (q_len_slice rfl Try.underlying41 rfl) ?_
    refine va rfl rfl rfl (q_lss rfl rfl rfl) ?_
    refine WR.nil ?_
    change WC _ _ _ _ _ _
    refine WC.cond (b := (decide (((i3 : Nat) : Int) < ((a.length : Nat) : Int)))) (by kernel_rfl) (fun hb7 => ?_) (fun hb7 => ?_)
    · skip
      have hl8 := ilt hb7
      have h := hlt5 hl8
      refine WC.skip ?_
      change WC _ _ _ _ _ _
      refine WC.seq ?_
      refine WC.block ?_
      refine WC.seq ?_
      refine WC.dr (by kernel_rfl) (by kernel_rfl) (fun w hw => hw.drawn _) ?_
      refine wa rfl rfl rfl (q_move (v := .slice Aa a.length ca) rfl (by kernel_rfl)) ?_
      refine wa rfl rfl rfl (q_move (v := .int .i64 ((i3 : Nat) : Int)) rfl (by kernel_rfl)) ?_
      refine wa rfl rfl rfl (q_ixn (i := i3) Try.underlying41 Try.sizeOf74 rfl rfl rfl hl8 (ha.some_ hl8)) ?_
      refine wa rfl rfl rfl (q_field_addr (i3 * 2) fld_74_0 rfl rfl (ha.some_ hl8) rfl) ?_
      obtain ⟨A9, c10, hx11⟩ := ha.recT_at i3
      refine wa rfl rfl rfl (q_ld (c := 0) (v := .string (gt a i3).key) (hx11 hl8).2 rfl Try.isAgg9 rfl rfl) ?_
      refine wa rfl rfl rfl (q_move (v := .slice Ab b.length cb) rfl (by kernel_rfl)) ?_
      refine wa rfl rfl rfl (q_move (v := .int .i64 ((i3 : Nat) : Int)) rfl (by kernel_rfl)) ?_
      obtain ⟨hk12, h⟩ := chk_some h
      refine wa rfl rfl rfl (q_ixn (i := i3) Try.underlying41 Try.sizeOf74 rfl rfl rfl (of_decide_eq_true hk12) (hb.some_ (of_decide_eq_true hk12))) ?_
      refine wa rfl rfl rfl (q_field_addr (i3 * 2) fld_74_0 rfl rfl (hb.some_ (of_decide_eq_true hk12)) rfl) ?_
      obtain ⟨A13, c14, hx15⟩ := hb.recT_at i3
      refine wa rfl rfl rfl (q_ld (c := 0) (v := .string (gt b i3).key) (hx15 (of_decide_eq_true hk12)).2 rfl Try.isAgg9 rfl rfl) ?_
      refine wa rfl rfl rfl (q_sneq rfl rfl rfl) ?_
      refine wa rfl rfl rfl (q_move (v := .bool ((gt a i3).key != (gt b i3).key)) rfl (by kernel_rfl)) ?_
      refine wg0 rfl rfl rfl rfl rfl (fun hg16 => QV.qo (q_move (v := .slice Aa a.length ca) rfl (by kernel_rfl))) ?_
      refine wg0 rfl rfl rfl rfl rfl (fun hg17 => QV.qo (q_move (v := .int .i64 ((i3 : Nat) : Int)) rfl (by kernel_rfl))) ?_
      refine wg0 rfl rfl rfl rfl rfl (fun hg18 => QV.qo (q_ixn (i := i3) Try.underlying41 Try.sizeOf74 rfl (gu hg18 rfl) (gu hg18 rfl) hl8 (ha.some_ hl8))) ?_
      refine wg0 rfl rfl rfl rfl rfl (fun hg19 => QV.qo (q_field_addr (i3 * 2 + 1) fld_74_1 rfl (gu hg19 rfl) (ha.some_ hl8) rfl)) ?_
      refine wg0 rfl rfl rfl rfl rfl (fun hg20 => QV.qo (q_ld (c := 1) (v := .slice A9 ((gt a i3).vers).length c10) (hx11 hl8).2 rfl Try.isAgg40 (gu hg20 rfl) rfl)) ?_
      refine wg0 rfl rfl rfl rfl rfl (fun hg21 => QV.qo (q_move (v := .slice Ab b.length cb) rfl (by kernel_rfl))) ?_
      refine wg0 rfl rfl rfl rfl rfl (fun hg22 => QV.qo (q_move (v := .int .i64 ((i3 : Nat) : Int)) rfl (by kernel_rfl))) ?_
      refine wg0 rfl rfl rfl rfl rfl (fun hg23 => QV.qo (q_ixn (i := i3) Try.underlying41 Try.sizeOf74 rfl (gu hg23 rfl) (gu hg23 rfl) (of_decide_eq_true hk12) (hb.some_ (of_decide_eq_true hk12)))) ?_
      refine wg0 rfl rfl rfl rfl rfl (fun hg24 => QV.qo (q_field_addr (i3 * 2 + 1) fld_74_1 rfl (gu hg24 rfl) (hb.some_ (of_decide_eq_true hk12)) rfl)) ?_
      refine wg0 rfl rfl rfl rfl rfl (fun hg25 => QV.qo (q_ld (c := 1) (v := .slice A13 ((gt b i3).vers).length c14) (hx15 (of_decide_eq_true hk12)).2 rfl Try.isAgg40 (gu hg25 rfl) rfl)) ?_
      obtain ⟨z27, hz28, h⟩ := bnd h
      refine wg0 rfl rfl rfl rfl rfl (fun hg26 => (q_call (call_run Try.call24 rfl rfl (args2 (gu hg26 rfl) (gu hg26 rfl))) (fun w hw => t_firthref05_Same (Γ := Gh.all w) ((hx11 hl8).1.2.2.mono hw.sat.le_all) (hx11 hl8).1.2.1 ((hx15 (of_decide_eq_true hk12)).1.2.2.mono hw.sat.le_all) (hx15 (of_decide_eq_true hk12)).1.2.1 (Sat.all w) (gc_of hz28 hg26)))) ?_
      refine wg0 rfl rfl rfl rfl rfl (fun hg29 => QV.qo (q_not rfl (gu hg29 rfl))) ?_
      refine wa rfl rfl rfl (q_pick rfl rfl (pk_or' (g := ((gt a i3).key != (gt b i3).key)) (y := (!z27)))) ?_
      refine WQ.nil ?_
      change WC _ _ _ _ _ _
      refine WC.cif h (by kernel_rfl) (fun hb30 h => ?_) (fun hb30 h => ?_)
      · skip
        refine WC.rs ?_
        refine va rfl rfl rfl (q_assign (v := .bool false) rfl (by kernel_rfl)) ?_
        refine WR.nil ?_
        change WC _ _ _ _ _ _
        refine WC.ret ?_
        intro w hw
        obtain rfl := Option.some.inj h
        subst hF
        exact ⟨by kernel_rfl, hw.fr⟩
      · skip
        refine WC.skip ?_
        change WC _ _ _ _ _ _
        refine WC.region ?_
        refine va rfl rfl rfl (q_move (v := .int .i64 ((i3 : Nat) : Int)) rfl (by kernel_rfl)) ?_
        refine va rfl rfl rfl (q_add_r (r := ((i3 + 1 : Nat) : Int)) rfl rfl rfl (ctr_len hl8 ha.le)) ?_
        refine va rfl rfl rfl (q_assign (v := .int .i64 ((i3 + 1 : Nat) : Int)) rfl (by kernel_rfl)) ?_
        refine WR.nil ?_
        intro w hw
        exact ⟨hl8, (), h, (sl_ (by kernel_rfl)), hw, trivial⟩
    · skip
      have h := hge6 (ige hb7)
      refine WC.exit ?_
      change WC _ _ _ _ _ _
      refine WC.rs ?_
      refine va rfl rfl rfl (q_assign (v := .bool true) rfl (by kernel_rfl)) ?_
      refine WR.nil ?_
      change WC _ _ _ _ _ _
      refine WC.ret ?_
      intro w hw
      obtain rfl := Option.some.inj h
      subst hF
      exact ⟨by kernel_rfl, hw.fr⟩
set_option maxRecDepth 100000 in
set_option maxHeartbeats 400000 in
theorem t_firthlaw16_QuorumKeeps {Γ : Gh} {w0 : World} {Al : Option Addr} {cl : Nat} {l : List Ver} (hl : Sl verT Γ Al l) (hlc : l.length ≤ cl) {Arecs : Option Addr} {crecs : Nat} {recs : List Rec} (hrecs : Sl recT Γ Arecs recs) (hrecsc : recs.length ≤ crecs) (hs : Sat Γ w0) {r : Bool} (h : m_firthlaw16_QuorumKeeps l recs = some r) : Calls Try.prog 7 #[.slice Al l.length cl, .slice Arecs recs.length crecs] w0 (fun e w' => e = .returned (.bool r) ∧ Fr no w0 w') := by
  refine calls_of (N := 151) (rs := [4]) (args := [.slice Al l.length cl, .slice Arecs recs.length crecs]) Try.func7 rfl Try.ntmps7 Try.results7 rfl ?_
  obtain ⟨F, hF⟩ : ∃ F : Fm, F = ⟨no, w0, Γ⟩ := ⟨_, rfl⟩
  refine WC.here (C := CC F Γ []) ?_ (hF ▸ Cur.start0 hs)
  refine WC.rs ?_
  refine va rfl rfl rfl (q_assign (v := .bool false) rfl (by kernel_rfl)) ?_
  refine WR.nil ?_
  change WC _ _ _ _ _ _
  refine WC.seq ?_
  refine WC.rs ?_
  obtain ⟨z1, hz2, h⟩ := bnd h
  refine vc rfl rfl rfl (q_call (call_run Try.call9 rfl rfl (by kernel_rfl)) (fun w hw => t_firthlaw16_awake (Γ := Gh.all w)  (Sat.all w) hz2)) ?_
  refine va rfl rfl rfl (q_not rfl rfl) ?_
  refine va rfl rfl rfl (q_move (v := .bool (!z1)) rfl (by kernel_rfl)) ?_
  refine vg0 rfl rfl rfl rfl rfl (fun hg3 => QV.qo (q_move (v := .slice Al l.length cl) rfl (by kernel_rfl))) ?_
  obtain ⟨z5, hz6, h⟩ := bnd h
  refine vg0 rfl rfl rfl rfl rfl (fun hg4 => (q_call (call_run Try.call30 rfl rfl (args1 (gu hg4 rfl))) (fun w hw => t_firthref05_Right (Γ := Gh.all w) (hl.mono hw.sat.le_all) hlc (Sat.all w) (gc_of hz6 hg4)))) ?_
  refine vg0 rfl rfl rfl rfl rfl (fun hg7 => QV.qo (q_not rfl (gu hg7 rfl))) ?_
  refine va rfl rfl rfl (q_pick rfl rfl (pk_or' (g := (!z1)) (y := (!z5)))) ?_
  refine WR.nil ?_
  change WC _ _ _ _ _ _
  refine WC.cif h (by kernel_rfl) (fun hb8 h => ?_) (fun hb8 h => ?_)
  · skip
    refine WC.rs ?_
    obtain ⟨z9, hz10, h⟩ := bnd h
    refine vc rfl rfl rfl (q_call (call_run Try.call9 rfl rfl (by kernel_rfl)) (fun w hw => t_firthlaw16_awake (Γ := Gh.all w)  (Sat.all w) hz10)) ?_
    refine va rfl rfl rfl (q_assign (v := .bool z9) rfl (by kernel_rfl)) ?_
    refine WR.nil ?_
    change WC _ _ _ _ _ _
    refine WC.ret ?_
    intro w hw
    obtain rfl := Option.some.inj h
    subst hF
    exact ⟨by kernel_rfl, hw.fr⟩
  · skip
    refine WC.skip ?_
    change WC _ _ _ _ _ _
    refine WC.rs ?_
    refine e_buildSlice (cs := #[.int .i64 2, .int .i64 1]) (e := 3) rfl rfl rfl rfl (fun w => by kernel_rfl) ?_
    intro g11
    refine va rfl rfl rfl (q_assign (v := .slice (some ⟨g11, 0, none⟩) 2 2) rfl (by kernel_rfl)) ?_
    refine WR.nil ?_
    change WC _ _ _ _ _ _
    refine WC.rs ?_
    refine va rfl rfl rfl (q_move (v := .slice (some ⟨g11, 0, none⟩) 2 2) rfl (by kernel_rfl)) ?_
    have ho12 : Own intT Γ 3 [(g11, .cells #[.int .i64 2, .int .i64 1] 3 (0, 0))] (some ⟨g11, 0, none⟩) 2 [2, 1] := Own.of_blockL (T := intT) (ys := [2, 1]) [[.int .i64 2], [.int .i64 1]] rfl (show 2 ≤ lim by decide) (show Ty.rd intT Γ [.int .i64 2] 2 ∧ Ty.rd intT Γ [.int .i64 1] 1 ∧ True from ⟨⟨rfl, (show I64 2 by decide)⟩, ⟨rfl, (show I64 1 by decide)⟩, trivial⟩)
    obtain ⟨z13, hz14, h⟩ := bnd h
    refine e_callB (is := []) (Lent.nil F) rfl rfl (call_run Try.call19 rfl rfl (by kernel_rfl)) rfl (fun w Θ hp hpB hle hleB hR => t_quorum_NewRead_l1 (own_lent ho12 hR (List.mem_of_getElem? (i := 0) rfl) hle) ho12.capz 1 (show I64 1 by decide) hp hpB hz14) ?_
    rintro Γ15 U17 v18 hl16 ⟨g19, row20, rfl, rfl, hr21, hr22, _⟩
    change WR _ _ _ (CC F Γ15 [row20, [(g11, .cells #[.int .i64 2, .int .i64 1] 3 (0, 0))]]) _ _ (upd _ 32 (.tuple #[optp z13.1 g19, .int .i64 z13.2]))
    refine va rfl rfl rfl (q_move (v := .tuple #[optp z13.1 g19, .int .i64 z13.2]) rfl (by kernel_rfl)) ?_
    refine va rfl rfl rfl (q_extract (v := optp z13.1 g19) rfl rfl rfl) ?_
    refine va rfl rfl rfl (q_extract (v := .int .i64 z13.2) rfl rfl rfl) ?_
    refine va rfl rfl rfl (q_assign (v := optp z13.1 g19) rfl (by kernel_rfl)) ?_
    refine va rfl rfl rfl (q_assign (v := .int .i64 z13.2) rfl (by kernel_rfl)) ?_
    refine WR.nil ?_
    change WC _ _ _ _ _ _
    refine WC.rs ?_
    refine va rfl rfl rfl (q_move (v := .slice (some ⟨g11, 0, none⟩) 2 2) rfl (by kernel_rfl)) ?_
    obtain ⟨z23, hz24, h⟩ := bnd h
    refine e_callB (is := []) (Lent.nil F) rfl rfl (call_run Try.call36 rfl rfl (by kernel_rfl)) rfl (fun w Θ hp hpB hle hleB hR => t_quorum_NewScan_l0 (own_lent (ho12.mono hl16) hR (List.mem_of_getElem? (i := 1) rfl) hle) (ho12.mono hl16).capz 1 (show I64 1 by decide) hp hpB hz24) ?_
    rintro Γ25 U27 v28 hl26 ⟨g29, row30, rfl, rfl, hr31, hr32, _⟩
    change WR _ _ _ (CC F Γ25 [row30, row20, [(g11, .cells #[.int .i64 2, .int .i64 1] 3 (0, 0))]]) _ _ (upd _ 37 (.tuple #[optp z23.1 g29, .int .i64 z23.2]))
    refine va rfl rfl rfl (q_move (v := .tuple #[optp z23.1 g29, .int .i64 z23.2]) rfl (by kernel_rfl)) ?_
    refine va rfl rfl rfl (q_extract (v := optp z23.1 g29) rfl rfl rfl) ?_
    refine va rfl rfl rfl (q_extract (v := .int .i64 z23.2) rfl rfl rfl) ?_
    refine va rfl rfl rfl (q_assign (v := optp z23.1 g29) rfl (by kernel_rfl)) ?_
    refine va rfl rfl rfl (q_assign (v := .int .i64 z23.2) rfl (by kernel_rfl)) ?_
    refine WR.nil ?_
    change WC _ _ _ _ _ _
    refine WC.seq ?_
    refine WC.rs ?_
    refine va rfl rfl rfl (q_move (v := optp z13.1 g19) rfl (by kernel_rfl)) ?_
    refine va rfl rfl rfl (q_opt_eql Try.underlying36 rfl rfl rfl) ?_
    refine va rfl rfl rfl (q_move (v := .bool (Option.isNone z13.1)) rfl (by kernel_rfl)) ?_
    refine vg0 rfl rfl rfl rfl rfl (fun hg33 => QV.qo (q_move (v := optp z23.1 g29) rfl (by kernel_rfl))) ?_
    refine vg0 rfl rfl rfl rfl rfl (fun hg34 => QV.qo (q_opt_eql Try.underlying66 rfl (gu hg34 rfl) rfl)) ?_
    refine va rfl rfl rfl (q_pick rfl rfl (pk_or' (g := (Option.isNone z13.1)) (y := (Option.isNone z23.1)))) ?_
    refine va rfl rfl rfl (q_move (v := .bool ((Option.isNone z13.1) || (Option.isNone z23.1))) rfl (by kernel_rfl)) ?_
    refine vg0 rfl rfl rfl rfl rfl (fun hg35 => QV.qo (q_move (v := .int .i64 z13.2) rfl (by kernel_rfl))) ?_
    refine vg0 rfl rfl rfl rfl rfl (fun hg36 => QV.qo (q_neq rfl (gu hg36 rfl) rfl)) ?_
    refine va rfl rfl rfl (q_pick rfl rfl (pk_or' (g := ((Option.isNone z13.1) || (Option.isNone z23.1))) (y := (z13.2 != 0)))) ?_
    refine va rfl rfl rfl (q_move (v := .bool (((Option.isNone z13.1) || (Option.isNone z23.1)) || (z13.2 != 0))) rfl (by kernel_rfl)) ?_
    refine vg0 rfl rfl rfl rfl rfl (fun hg37 => QV.qo (q_move (v := .int .i64 z23.2) rfl (by kernel_rfl))) ?_
    refine vg0 rfl rfl rfl rfl rfl (fun hg38 => QV.qo (q_neq rfl (gu hg38 rfl) rfl)) ?_
    refine va rfl rfl rfl (q_pick rfl rfl (pk_or' (g := (((Option.isNone z13.1) || (Option.isNone z23.1)) || (z13.2 != 0))) (y := (z23.2 != 0)))) ?_
    refine WR.nil ?_
    change WC _ _ _ _ _ _
    refine WC.cif h (by kernel_rfl) (fun hb39 h => ?_) (fun hb39 h => ?_)
    · skip
      refine WC.rs ?_
      refine va rfl rfl rfl (q_assign (v := .bool false) rfl (by kernel_rfl)) ?_
      refine WR.nil ?_
      change WC _ _ _ _ _ _
      refine WC.ret ?_
      intro w hw
      obtain rfl := Option.some.inj h
      subst hF
      exact ⟨by kernel_rfl, hw.fr⟩
    · skip
      obtain ⟨z40, hz41, h⟩ := bnd h
      have ho42 := optob_some hr31 hz41
      obtain ⟨z43, hz44, h⟩ := bnd h
      have ho45 := optob_some (optob_mono hr21 (fun _ h => h.mono hl26)) hz44
      refine WC.skip ?_
      change WC _ _ _ _ _ _
      refine WC.rs ?_
      refine va rfl rfl rfl (q_move (v := .slice (some ⟨g11, 0, none⟩) 2 2) rfl (by kernel_rfl)) ?_
      refine va rfl rfl rfl (q_ixn (i := 0) Try.underlying22 Try.sizeOf3 rfl rfl rfl (by decide) ((ho12.mono (hl16.trans hl26)).some_ (show 0 < List.length [2, 1] from by decide))) ?_
      refine e_store_own (T := intT) (q := 0) (v := .int .i64 7) (y := 7) rfl rfl rfl rfl (by kernel_rfl) Try.sizeOf3 (by exact ⟨rfl, (show I64 7 by decide)⟩) (i := 2) rfl (ho12.mono (hl16.trans hl26)) (show 0 < List.length [2, 1] from by decide) ?_
      intro row46 ho47
      refine WR.nil ?_
      change WC _ _ _ _ _ _
      refine WC.rs ?_
      refine va rfl rfl rfl (q_assign (v := .slice none 0 0) rfl (by kernel_rfl)) ?_
      refine WR.nil ?_
      change WC _ _ _ _ _ _
      refine WC.rs ?_
      refine va rfl rfl rfl (q_move (v := .slice none 0 0) rfl (by kernel_rfl)) ?_
      refine va rfl rfl rfl (q_move (v := .slice Al l.length cl) rfl (by kernel_rfl)) ?_
      refine WR.sub (fun w hw => hw.pad) ?_
      obtain ⟨hk48, h⟩ := chk_some h
      refine e_append (T := verT) (xs := []) (ys := l) elem_40 (i := 0) rfl rfl rfl rfl (by kernel_rfl) rfl rfl (Own.nil verT Γ25 58) (of_decide_eq_true hk48) (fun w hw => src_sl (hl.mono (hl16.trans hl26)) hw) ?_
      intro row49 A50 c51 ho52
      refine va rfl rfl rfl (q_assign (v := .slice A50 l.length c51) rfl (by kernel_rfl)) ?_
      refine WR.nil ?_
      change WC _ _ _ _ _ _
      refine WC.rs ?_
      refine va rfl rfl rfl (q_move (v := .pointer (some ⟨g19, 0, none⟩)) rfl (optp_some rfl hz44)) ?_
      refine va rfl rfl rfl (q_move (v := .slice A50 l.length c51) rfl (by kernel_rfl)) ?_
      obtain ⟨z53, hz54, h⟩ := bnd h
      refine e_callB (is := [2]) (Lent.nil F) rfl rfl (call_run Try.call20 rfl rfl (by kernel_rfl)) rfl (fun w Θ hp hpB hle hleB hR => t_quorum_Read_Got_l1 ho45 2 (show I64 2 by decide) (own_lent ho52 hR (List.mem_of_getElem? (i := 0) rfl) hle) ho52.capz hp hpB hz54) ?_
      rintro Γ55 U57 v58 hl56 ⟨row59, rfl, rfl, hr60, _⟩
      change WR _ _ _ (CC F Γ55 [row59, row49, row30, row46]) _ _ (upd _ 61 (.bool z53.2))
      refine WR.nil ?_
      change WC _ _ _ _ _ _
      refine WC.rs ?_
      refine va rfl rfl rfl (q_move (v := .pointer (some ⟨g29, 0, none⟩)) rfl (optp_some rfl hz41)) ?_
      refine va rfl rfl rfl (q_move (v := .slice Arecs recs.length crecs) rfl (by kernel_rfl)) ?_
      obtain ⟨z61, hz62, h⟩ := bnd h
      refine e_call (is := [2]) rfl rfl (call_run Try.call37 rfl rfl (by kernel_rfl)) rfl (fun w hp => t_quorum_Scan_Got (ho42.mono hl56) 2 (show I64 2 by decide) (hrecs.mono ((hl16.trans hl26).trans hl56)) hrecsc hp hz62) ?_
      rintro Γ63 U65 v66 hl64 ⟨row67, rfl, rfl, hr68, _⟩
      change WR _ _ _ (CC F Γ63 [row67, row59, row49, row46]) _ _ (upd _ 64 (.bool z61.2))
      refine va rfl rfl rfl (q_assign (v := .bool z61.2) rfl (by kernel_rfl)) ?_
      refine WR.nil ?_
      change WC _ _ _ _ _ _
      refine WC.seq ?_
      refine WC.rs ?_
      refine va rfl rfl rfl (q_assign (v := .int .i64 0) rfl (by kernel_rfl)) ?_
      refine WR.nil ?_
      change WC _ _ _ _ _ _
      refine WC.block ?_
      refine WC.forI h (fun (i74 : Nat) (x69 : List Ver) σ w => ∃ (row70 : Rowb), slots σ [(0, .slice Al l.length cl), (1, .slice Arecs recs.length crecs), (6, optp z13.1 g19), (8, optp z23.1 g29), (10, .slice A50 l.length c51), (11, .bool z61.2), (12, .int .i64 ((i74 : Nat) : Int))] ∧ CC F Γ63 [row67, row59, row70] w ∧ x69.length = l.length ∧ Own verT Γ63 58 row70 A50 c51 x69 ∧ True) ?_ ?_
      · skip
        intro w hw
        exact ⟨row49, (sl_ (by kernel_rfl)), (hw.only (is := [0, 0, 0]) rfl), rfl, (ho52.mono (hl56.trans hl64)), trivial⟩
      rintro f73 i74 x69 σ w hi75 hlt76 hge77 ⟨row70, hsl, hw, hn72, ho71, -⟩
      refine Wpt.slots hsl ?_
      refine WC.here (C := CC F Γ63 [row67, row59, row70]) ?_ hw
      clear hw hsl
      refine WC.seq ?_
      refine WC.rs ?_
      refine va rfl rfl rfl (q_move (v := .int .i64 ((i74 : Nat) : Int)) rfl (by kernel_rfl)) ?_
      refine va rfl rfl rfl (q_move (v := .slice A50 l.length c51) rfl (by kernel_rfl)) ?_
      refine va rfl rfl rfl (q_len_slice rfl Try.underlying40 rfl) ?_
      refine va rfl rfl rfl (q_lss rfl rfl rfl) ?_
      refine WR.nil ?_
      change WC _ _ _ _ _ _
      refine WC.cond (b := (decide (((i74 : Nat) : Int) < ((l.length : Nat) : Int)))) (by kernel_rfl) (fun hb78 => ?_) (fun hb78 => ?_)
      · skip
        have hl79 := ilt hb78
        have h := hlt76 hl79
        refine WC.skip ?_
        change WC _ _ _ _ _ _
        refine WC.seq ?_
        refine WC.block ?_
        refine WC.region ?_
        refine va rfl rfl rfl (q_move (v := .slice A50 l.length c51) rfl (by kernel_rfl)) ?_
        refine va rfl rfl rfl (q_move (v := .int .i64 ((i74 : Nat) : Int)) rfl (by kernel_rfl)) ?_
        refine va rfl rfl rfl (q_ixn (i := i74) Try.underlying40 Try.sizeOf58 rfl rfl rfl hl79 (ho71.some_ (ltq hl79 hn72.symm))) ?_
        refine va rfl rfl rfl (q_field_addr (i74 * 5 + 4) fld_58_3 rfl rfl (ho71.some_ (ltq hl79 hn72.symm)) rfl) ?_
        obtain ⟨A80, c81, hx82⟩ := ho71.verT_at i74
        refine e_store_part (T := verT) (q := i74) (f := 4) (v := .string (⟨#[115, 112, 111, 105, 108, 116]⟩ : ByteArray)) (vs := [.string (⟨#[115, 112, 111, 105, 108, 116]⟩ : ByteArray)]) (cs := [.int .i64 (gt x69 i74).dot.s, .int .i64 (gt x69 i74).dot.n, .slice A80 ((gt x69 i74).past).length c81, .bool (gt x69 i74).gone, .string (gt x69 i74).val]) (new := [.int .i64 (gt x69 i74).dot.s, .int .i64 (gt x69 i74).dot.n, .slice A80 ((gt x69 i74).past).length c81, .bool (gt x69 i74).gone, .string (⟨#[115, 112, 111, 105, 108, 116]⟩ : ByteArray)]) (y := (⟨(⟨(gt x69 i74).dot.s, (gt x69 i74).dot.n⟩ : Dot), (gt x69 i74).past, (gt x69 i74).gone, (⟨#[115, 112, 111, 105, 108, 116]⟩ : ByteArray)⟩ : Ver)) rfl rfl rfl rfl (by kernel_rfl) Try.sizeOf9 rfl (hx82 (ltq hl79 hn72.symm)).2 rfl (Nat.le_of_ble_eq_true rfl) rfl (by exact ⟨A80, c81, rfl, ⟨(hx82 (ltq hl79 hn72.symm)).1.1, (hx82 (ltq hl79 hn72.symm)).1.2.1, ⟨(hx82 (ltq hl79 hn72.symm)).1.2.2.1.1, (hx82 (ltq hl79 hn72.symm)).1.2.2.1.2⟩, (show (⟨#[115, 112, 111, 105, 108, 116]⟩ : ByteArray).size ≤ lim by decide)⟩⟩) (i := 2) rfl ho71 (ltq hl79 hn72.symm) ?_
        intro row83 ho84
        refine WR.nil ?_
        change WC _ _ _ _ _ _
        refine WC.region ?_
        refine va rfl rfl rfl (q_move (v := .int .i64 ((i74 : Nat) : Int)) rfl (by kernel_rfl)) ?_
        refine va rfl rfl rfl (q_add_r (r := ((i74 + 1 : Nat) : Int)) rfl rfl rfl (ctr_len hl79 (hl.mono (((hl16.trans hl26).trans hl56).trans hl64)).le)) ?_
        refine va rfl rfl rfl (q_assign (v := .int .i64 ((i74 + 1 : Nat) : Int)) rfl (by kernel_rfl)) ?_
        refine WR.nil ?_
        intro w hw
        exact ⟨hl79, (List.set x69 i74 (⟨(⟨(gt x69 i74).dot.s, (gt x69 i74).dot.n⟩ : Dot), (gt x69 i74).past, (gt x69 i74).gone, (⟨#[115, 112, 111, 105, 108, 116]⟩ : ByteArray)⟩ : Ver)), h, row83, (sl_ (by kernel_rfl)), hw, (List.length_set.trans hn72), ho84, trivial⟩
      · skip
        have h := hge77 (ige hb78)
        refine WC.exit ?_
        change WC _ _ _ _ _ _
        refine WC.rs ?_
        refine va rfl rfl rfl (q_move (v := .pointer (some ⟨g19, 0, none⟩)) rfl (optp_some rfl hz44)) ?_
        obtain ⟨z85, hz86, h⟩ := bnd h
        refine e_callF (is := []) (Lent.nil F) rfl rfl (call_run Try.call25 rfl rfl (by kernel_rfl)) rfl (fun w Θ hp hpB hle hleB hR => t_quorum_Read_Vers_l1 ((hr60.mono hl64).mono hle) (fun p hp => hR _ (List.mem_of_getElem? (i := 1) rfl) p hp) hp hpB hz86) ?_
        rintro J87 U89 v90 hn88 ⟨A91, c92, row93, rfl, rfl, hr94, _⟩
        refine WR.join2 fun hn95 => ?_
        have hr96 := hr94.sl (ghr_left hn95) (ghr_right hn95)
        have hc97 := hr94.capz
        change WR _ _ _ (CC F Γ63 [(J87 ++ row93), row67, row59, row70]) _ _ (upd _ 76 (.slice A91 z85.length c92))
        refine va rfl rfl rfl (q_assign (v := .slice A91 z85.length c92) rfl (by kernel_rfl)) ?_
        refine WR.nil ?_
        change WC _ _ _ _ _ _
        refine WC.seq ?_
        refine WC.rs ?_
        refine va rfl rfl rfl (q_assign (v := .int .i64 0) rfl (by kernel_rfl)) ?_
        refine WR.nil ?_
        change WC _ _ _ _ _ _
        refine WC.block ?_
        refine WC.loopJ (z85.length) (fun (i98 : Nat) σ w => ∃ (J99 : Rowb) (ys101 : List Ver), (J99.map (·.1)).Nodup ∧ Sl verT (ghr J99) A91 ys101 ∧ shL Ver.sh ys101 = shL Ver.sh z85 ∧ slots σ [(0, .slice Al l.length cl), (1, .slice Arecs recs.length crecs), (6, optp z13.1 g19), (8, optp z23.1 g29), (11, .bool z61.2), (13, .slice A91 z85.length c92), (14, .int .i64 ((i98 : Nat) : Int))] ∧ CC F Γ63 [J99, row67, row59, row70] w) ?_ ?_
        · skip
          intro w hw; exact ⟨(J87 ++ row93), z85, hn95, hr96, rfl, (sl_ (by kernel_rfl)), hw⟩
        rintro i98 σ w ⟨J99, ys101, hn100, hj102, hs103, hsl, hw⟩
        have hq104 := shL_eq_len hs103
        refine Wpt.slots hsl ?_
        refine WC.here (C := CC F Γ63 [J99, row67, row59, row70]) ?_ hw
        clear hw hsl
        refine WC.seq ?_
        refine WC.rs ?_
        refine va rfl rfl rfl (q_move (v := .int .i64 ((i98 : Nat) : Int)) rfl (by kernel_rfl)) ?_
        refine va rfl rfl rfl (q_move (v := .slice A91 z85.length c92) rfl (by kernel_rfl)) ?_
        refine va rfl rfl rfl (q_len_slice rfl Try.underlying40 rfl) ?_
        refine va rfl rfl rfl (q_lss rfl rfl rfl) ?_
        refine WR.nil ?_
        change WC _ _ _ _ _ _
        refine WC.cond (b := (decide (((i98 : Nat) : Int) < ((z85.length : Nat) : Int)))) (by kernel_rfl) (fun hb105 => ?_) (fun hb105 => ?_)
        · skip
          have hl106 := ilt hb105
          have hq107 := jlt hs103 (ltq hl106 hq104.symm)
          refine WC.skip ?_
          change WC _ _ _ _ _ _
          refine WC.seq ?_
          refine WC.block ?_
          refine WC.rs ?_
          refine va rfl rfl rfl (q_assign (v := .int .i64 0) rfl (by kernel_rfl)) ?_
          refine WR.nil ?_
          change WC _ _ _ _ _ _
          refine WC.block ?_
          refine WC.loopJ (((gt ys101 i98).past).length) (fun (i108 : Nat) σ w => ∃ (J109 : Rowb) (ys111 : List Ver), (J109.map (·.1)).Nodup ∧ Sl verT (ghr J109) A91 ys111 ∧ shL Ver.sh ys111 = shL Ver.sh z85 ∧ slots σ [(0, .slice Al l.length cl), (1, .slice Arecs recs.length crecs), (6, optp z13.1 g19), (8, optp z23.1 g29), (11, .bool z61.2), (13, .slice A91 z85.length c92), (14, .int .i64 ((i98 : Nat) : Int)), (15, .int .i64 ((i108 : Nat) : Int))] ∧ CC F Γ63 [J109, row67, row59, row70] w) ?_ ?_
          · skip
            intro w hw; exact ⟨J99, ys101, hn100, hj102, hs103, (sl_ (by kernel_rfl)), hw⟩
          rintro i108 σ w ⟨J109, ys111, hn110, hj112, hs113, hsl, hw⟩
          have hq114 := shL_eq_len hs113
          refine Wpt.slots hsl ?_
          refine WC.here (C := CC F Γ63 [J109, row67, row59, row70]) ?_ hw
          clear hw hsl
          refine WC.seq ?_
          refine WC.rs ?_
          refine va rfl rfl rfl (q_move (v := .int .i64 ((i108 : Nat) : Int)) rfl (by kernel_rfl)) ?_
          refine va rfl rfl rfl (q_move (v := .slice A91 z85.length c92) rfl (by kernel_rfl)) ?_
          refine va rfl rfl rfl (q_move (v := .int .i64 ((i98 : Nat) : Int)) rfl (by kernel_rfl)) ?_
          refine va rfl rfl rfl (q_ixn (i := i98) Try.underlying40 Try.sizeOf58 rfl rfl rfl hl106 (hj112.some_ (ltq hl106 hq114.symm))) ?_
          refine va rfl rfl rfl (q_field_addr (i98 * 5 + 2) fld_58_1 rfl rfl (hj112.some_ (ltq hl106 hq114.symm)) rfl) ?_
          obtain ⟨A115, c116, hx117⟩ := hj112.verT_at i98
          refine va rfl rfl rfl (q_ldS (c := 2) (v := .slice A115 ((gt ys111 i98).past).length c116) (satJ (i := 0) rfl hn110) (hx117 (ltq hl106 hq114.symm)).2 rfl Try.isAgg56 rfl rfl) ?_
          refine va rfl rfl rfl (q_len_slice rfl Try.underlying56 rfl) ?_
          refine va rfl rfl rfl (q_lss rfl rfl rfl) ?_
          refine WR.nil ?_
          change WC _ _ _ _ _ _
          refine WC.cond (b := (decide (((i108 : Nat) : Int) < ((((gt ys111 i98).past).length : Nat) : Int)))) (by kernel_rfl) (fun hb118 => ?_) (fun hb118 => ?_)
          · skip
            have hl119 := ilt hb118
            have hq120 := jlt (shL_kid hs113 hq107) hl119
            refine WC.skip ?_
            change WC _ _ _ _ _ _
            refine WC.seq ?_
            refine WC.block ?_
            refine WC.region ?_
            refine va rfl rfl rfl (q_move (v := .slice A91 z85.length c92) rfl (by kernel_rfl)) ?_
            refine va rfl rfl rfl (q_move (v := .int .i64 ((i98 : Nat) : Int)) rfl (by kernel_rfl)) ?_
            refine va rfl rfl rfl (q_ixn (i := i98) Try.underlying40 Try.sizeOf58 rfl rfl rfl hl106 (hj112.some_ (ltq hl106 hq114.symm))) ?_
            refine va rfl rfl rfl (q_field_addr (i98 * 5 + 2) fld_58_1 rfl rfl (hj112.some_ (ltq hl106 hq114.symm)) rfl) ?_
            refine va rfl rfl rfl (q_ldS (c := 2) (v := .slice A115 ((gt ys111 i98).past).length c116) (satJ (i := 0) rfl hn110) (hx117 (ltq hl106 hq114.symm)).2 rfl Try.isAgg56 rfl rfl) ?_
            refine va rfl rfl rfl (q_move (v := .int .i64 ((i108 : Nat) : Int)) rfl (by kernel_rfl)) ?_
            refine va rfl rfl rfl (q_ixn (i := i108) Try.underlying56 Try.sizeOf71 rfl rfl rfl hl119 ((hx117 (ltq hl106 hq114.symm)).1.2.2.1.2.some_ hl119)) ?_
            refine va rfl rfl rfl (q_field_addr (i108 * 3 + 2) fld_71_2 rfl rfl ((hx117 (ltq hl106 hq114.symm)).1.2.2.1.2.some_ hl119) rfl) ?_
            refine e_store_J (c := 2) (u := .int .i64 (gt ((gt ys111 i98).past) i108).t) (v := .int .i64 (-3)) rfl rfl rfl rfl (by kernel_rfl) Try.sizeOf2 rfl rfl ((hx117 (ltq hl106 hq114.symm)).1.2.2.1.2.spanT_at hl119).2 rfl (.int _ _ (show I64 (-3) by decide)) (i := 0) rfl hn110 ?_
            intro J121 hn122 hl123
            obtain ⟨ys124, hj125, hs126⟩ := hj112.like like_Ver hl123
            have hs126 := hs126.trans hs113
            have hq127 := shL_eq_len hs126
            have hlt128 := jtl (shL_kid hs126 hq107) hq120
            refine WR.nil ?_
            change WC _ _ _ _ _ _
            refine WC.region ?_
            refine va rfl rfl rfl (q_move (v := .int .i64 ((i108 : Nat) : Int)) rfl (by kernel_rfl)) ?_
            refine va rfl rfl rfl (q_add_r (r := ((i108 + 1 : Nat) : Int)) rfl rfl rfl (ctr_len hl119 (hx117 (ltq hl106 hq114.symm)).1.2.2.1.2.le)) ?_
            refine va rfl rfl rfl (q_assign (v := .int .i64 ((i108 + 1 : Nat) : Int)) rfl (by kernel_rfl)) ?_
            refine WR.nil ?_
            intro w hw; exact ⟨(jtl (shL_kid hs103 hq107) hq120), J121, ys124, hn122, hj125, hs126, (sl_ (by kernel_rfl)), hw⟩
          · skip
            refine WC.exit ?_
            change WC _ _ _ _ _ _
            refine WC.region ?_
            refine va rfl rfl rfl (q_move (v := .int .i64 ((i98 : Nat) : Int)) rfl (by kernel_rfl)) ?_
            refine va rfl rfl rfl (q_add_r (r := ((i98 + 1 : Nat) : Int)) rfl rfl rfl (ctr_len hl106 (hq104 ▸ hj102.le))) ?_
            refine va rfl rfl rfl (q_assign (v := .int .i64 ((i98 + 1 : Nat) : Int)) rfl (by kernel_rfl)) ?_
            refine WR.nil ?_
            intro w hw; exact ⟨hl106, J109, ys111, hn110, hj112, hs113, (sl_ (by kernel_rfl)), hw⟩
        · skip
          refine WC.exit ?_
          change WC _ _ _ _ _ _
          refine WC.rs ?_
          refine va rfl rfl rfl (q_move (v := .pointer (some ⟨g29, 0, none⟩)) rfl (optp_some rfl hz41)) ?_
          obtain ⟨z129, hz130, h⟩ := bnd h
          refine e_callF (is := []) (Lent.nil F) rfl rfl (call_run Try.call38 rfl rfl (by kernel_rfl)) rfl (fun w Θ hp hpB hle hleB hR => t_quorum_Scan_Recs_l0 (hr68.mono hle) (fun p hp => hR _ (List.mem_of_getElem? (i := 1) rfl) p hp) hp hpB hz130) ?_
          rintro J131 U133 v134 hn132 ⟨A135, c136, row137, rfl, rfl, hr138, _⟩
          refine WR.join2 fun hn139 => ?_
          have hr140 := hr138.sl (ghr_left hn139) (ghr_right hn139)
          have hc141 := hr138.capz
          change WR _ _ _ (CC F Γ63 [(J131 ++ row137), J99, row67, row59, row70]) _ _ (upd _ 102 (.slice A135 z129.length c136))
          refine va rfl rfl rfl (q_assign (v := .slice A135 z129.length c136) rfl (by kernel_rfl)) ?_
          refine WR.nil ?_
          change WC _ _ _ _ _ _
          refine WC.seq ?_
          refine WC.rs ?_
          refine va rfl rfl rfl (q_assign (v := .int .i64 0) rfl (by kernel_rfl)) ?_
          refine WR.nil ?_
          change WC _ _ _ _ _ _
          refine WC.block ?_
          refine WC.loopJ (z129.length) (fun (i142 : Nat) σ w => ∃ (J143 : Rowb) (ys145 : List Rec), (J143.map (·.1)).Nodup ∧ Sl recT (ghr J143) A135 ys145 ∧ shL Rec.sh ys145 = shL Rec.sh z129 ∧ slots σ [(0, .slice Al l.length cl), (1, .slice Arecs recs.length crecs), (6, optp z13.1 g19), (8, optp z23.1 g29), (11, .bool z61.2), (16, .slice A135 z129.length c136), (17, .int .i64 ((i142 : Nat) : Int))] ∧ CC F Γ63 [J143, J99, row67, row59, row70] w) ?_ ?_
          · skip
            intro w hw; exact ⟨(J131 ++ row137), z129, hn139, hr140, rfl, (sl_ (by kernel_rfl)), hw⟩
          rintro i142 σ w ⟨J143, ys145, hn144, hj146, hs147, hsl, hw⟩
          have hq148 := shL_eq_len hs147
          refine Wpt.slots hsl ?_
          refine WC.here (C := CC F Γ63 [J143, J99, row67, row59, row70]) ?_ hw
          clear hw hsl
          refine WC.seq ?_
          refine WC.rs ?_
          refine va rfl rfl rfl (q_move (v := .int .i64 ((i142 : Nat) : Int)) rfl (by kernel_rfl)) ?_
          refine va rfl rfl rfl (q_move (v := .slice A135 z129.length c136) rfl (by kernel_rfl)) ?_
          refine va rfl rfl rfl (q_len_slice rfl Try.underlying41 rfl) ?_
          refine va rfl rfl rfl (q_lss rfl rfl rfl) ?_
          refine WR.nil ?_
          change WC _ _ _ _ _ _
          refine WC.cond (b := (decide (((i142 : Nat) : Int) < ((z129.length : Nat) : Int)))) (by kernel_rfl) (fun hb149 => ?_) (fun hb149 => ?_)
          · skip
            have hl150 := ilt hb149
            have hq151 := jlt hs147 (ltq hl150 hq148.symm)
            refine WC.skip ?_
            change WC _ _ _ _ _ _
            refine WC.seq ?_
            refine WC.block ?_
            refine WC.rs ?_
            refine va rfl rfl rfl (q_assign (v := .int .i64 0) rfl (by kernel_rfl)) ?_
            refine WR.nil ?_
            change WC _ _ _ _ _ _
            refine WC.block ?_
            refine WC.loopJ (((gt ys145 i142).vers).length) (fun (i152 : Nat) σ w => ∃ (J153 : Rowb) (ys155 : List Rec), (J153.map (·.1)).Nodup ∧ Sl recT (ghr J153) A135 ys155 ∧ shL Rec.sh ys155 = shL Rec.sh z129 ∧ slots σ [(0, .slice Al l.length cl), (1, .slice Arecs recs.length crecs), (6, optp z13.1 g19), (8, optp z23.1 g29), (11, .bool z61.2), (16, .slice A135 z129.length c136), (17, .int .i64 ((i142 : Nat) : Int)), (18, .int .i64 ((i152 : Nat) : Int))] ∧ CC F Γ63 [J153, J99, row67, row59, row70] w) ?_ ?_
            · skip
              intro w hw; exact ⟨J143, ys145, hn144, hj146, hs147, (sl_ (by kernel_rfl)), hw⟩
            rintro i152 σ w ⟨J153, ys155, hn154, hj156, hs157, hsl, hw⟩
            have hq158 := shL_eq_len hs157
            refine Wpt.slots hsl ?_
            refine WC.here (C := CC F Γ63 [J153, J99, row67, row59, row70]) ?_ hw
            clear hw hsl
            refine WC.seq ?_
            refine WC.rs ?_
            refine va rfl rfl rfl (q_move (v := .int .i64 ((i152 : Nat) : Int)) rfl (by kernel_rfl)) ?_
            refine va rfl rfl rfl (q_move (v := .slice A135 z129.length c136) rfl (by kernel_rfl)) ?_
            refine va rfl rfl rfl (q_move (v := .int .i64 ((i142 : Nat) : Int)) rfl (by kernel_rfl)) ?_
            refine va rfl rfl rfl (q_ixn (i := i142) Try.underlying41 Try.sizeOf74 rfl rfl rfl hl150 (hj156.some_ (ltq hl150 hq158.symm))) ?_
            refine va rfl rfl rfl (q_field_addr (i142 * 2 + 1) fld_74_1 rfl rfl (hj156.some_ (ltq hl150 hq158.symm)) rfl) ?_
            obtain ⟨A159, c160, hx161⟩ := hj156.recT_at i142
            refine va rfl rfl rfl (q_ldS (c := 1) (v := .slice A159 ((gt ys155 i142).vers).length c160) (satJ (i := 0) rfl hn154) (hx161 (ltq hl150 hq158.symm)).2 rfl Try.isAgg40 rfl rfl) ?_
            refine va rfl rfl rfl (q_len_slice rfl Try.underlying40 rfl) ?_
            refine va rfl rfl rfl (q_lss rfl rfl rfl) ?_
            refine WR.nil ?_
            change WC _ _ _ _ _ _
            refine WC.cond (b := (decide (((i152 : Nat) : Int) < ((((gt ys155 i142).vers).length : Nat) : Int)))) (by kernel_rfl) (fun hb162 => ?_) (fun hb162 => ?_)
            · skip
              have hl163 := ilt hb162
              have hq164 := jlt (shL_kid hs157 hq151) hl163
              refine WC.skip ?_
              change WC _ _ _ _ _ _
              refine WC.seq ?_
              refine WC.block ?_
              refine WC.region ?_
              refine va rfl rfl rfl (q_move (v := .slice A135 z129.length c136) rfl (by kernel_rfl)) ?_
              refine va rfl rfl rfl (q_move (v := .int .i64 ((i142 : Nat) : Int)) rfl (by kernel_rfl)) ?_
              refine va rfl rfl rfl (q_ixn (i := i142) Try.underlying41 Try.sizeOf74 rfl rfl rfl hl150 (hj156.some_ (ltq hl150 hq158.symm))) ?_
              refine va rfl rfl rfl (q_field_addr (i142 * 2 + 1) fld_74_1 rfl rfl (hj156.some_ (ltq hl150 hq158.symm)) rfl) ?_
              refine va rfl rfl rfl (q_ldS (c := 1) (v := .slice A159 ((gt ys155 i142).vers).length c160) (satJ (i := 0) rfl hn154) (hx161 (ltq hl150 hq158.symm)).2 rfl Try.isAgg40 rfl rfl) ?_
              refine va rfl rfl rfl (q_move (v := .int .i64 ((i152 : Nat) : Int)) rfl (by kernel_rfl)) ?_
              refine va rfl rfl rfl (q_ixn (i := i152) Try.underlying40 Try.sizeOf58 rfl rfl rfl hl163 ((hx161 (ltq hl150 hq158.symm)).1.2.2.some_ hl163)) ?_
              refine va rfl rfl rfl (q_field_addr (i152 * 5 + 4) fld_58_3 rfl rfl ((hx161 (ltq hl150 hq158.symm)).1.2.2.some_ hl163) rfl) ?_
              obtain ⟨A165, c166, hx167⟩ := (hx161 (ltq hl150 hq158.symm)).1.2.2.verT_at i152
              refine e_store_J (c := 4) (u := .string (gt ((gt ys155 i142).vers) i152).val) (v := .string (⟨#[115, 112, 111, 105, 108, 116]⟩ : ByteArray)) rfl rfl rfl rfl (by kernel_rfl) Try.sizeOf9 rfl rfl (hx167 hl163).2 rfl (.str _ _ (show (⟨#[115, 112, 111, 105, 108, 116]⟩ : ByteArray).size ≤ lim by decide)) (i := 0) rfl hn154 ?_
              intro J168 hn169 hl170
              obtain ⟨ys171, hj172, hs173⟩ := hj156.like like_Rec hl170
              have hs173 := hs173.trans hs157
              have hq174 := shL_eq_len hs173
              have hlt175 := jtl (shL_kid hs173 hq151) hq164
              refine WR.nil ?_
              change WC _ _ _ _ _ _
              refine WC.region ?_
              refine va rfl rfl rfl (q_move (v := .int .i64 ((i152 : Nat) : Int)) rfl (by kernel_rfl)) ?_
              refine va rfl rfl rfl (q_add_r (r := ((i152 + 1 : Nat) : Int)) rfl rfl rfl (ctr_len hl163 (hx161 (ltq hl150 hq158.symm)).1.2.2.le)) ?_
              refine va rfl rfl rfl (q_assign (v := .int .i64 ((i152 + 1 : Nat) : Int)) rfl (by kernel_rfl)) ?_
              refine WR.nil ?_
              intro w hw; exact ⟨(jtl (shL_kid hs147 hq151) hq164), J168, ys171, hn169, hj172, hs173, (sl_ (by kernel_rfl)), hw⟩
            · skip
              refine WC.exit ?_
              change WC _ _ _ _ _ _
              refine WC.region ?_
              refine va rfl rfl rfl (q_move (v := .int .i64 ((i142 : Nat) : Int)) rfl (by kernel_rfl)) ?_
              refine va rfl rfl rfl (q_add_r (r := ((i142 + 1 : Nat) : Int)) rfl rfl rfl (ctr_len hl150 (hq148 ▸ hj146.le))) ?_
              refine va rfl rfl rfl (q_assign (v := .int .i64 ((i142 + 1 : Nat) : Int)) rfl (by kernel_rfl)) ?_
              refine WR.nil ?_
              intro w hw; exact ⟨hl150, J153, ys155, hn154, hj156, hs157, (sl_ (by kernel_rfl)), hw⟩
          · skip
            refine WC.exit ?_
            change WC _ _ _ _ _ _
            refine WC.rs ?_
            refine va rfl rfl rfl (q_move (v := .slice Arecs recs.length crecs) rfl (by kernel_rfl)) ?_
            obtain ⟨z176, hz177, h⟩ := bnd h
            refine e_call (is := []) rfl rfl (call_run Try.call39 rfl rfl (by kernel_rfl)) rfl (fun w hp => t_firthref14_Take (Sl.nil recT _ none) (Nat.zero_le 0) (hrecs.mono (((hl16.trans hl26).trans hl56).trans hl64)) hrecsc hp hz177) ?_
            rintro Γ178 U180 v181 hl179 ⟨A182, c183, row184, rfl, rfl, hr185, hr186, _⟩
            change WR _ _ _ (CC F Γ178 [row184, J143, J99, row67, row59, row70]) _ _ (upd _ 129 (.tuple #[.slice A182 z176.1.length c183, .int .i64 z176.2]))
            refine va rfl rfl rfl (q_move (v := .tuple #[.slice A182 z176.1.length c183, .int .i64 z176.2]) rfl (by kernel_rfl)) ?_
            refine va rfl rfl rfl (q_extract (v := .slice A182 z176.1.length c183) rfl rfl rfl) ?_
            refine va rfl rfl rfl (q_extract (v := .int .i64 z176.2) rfl rfl rfl) ?_
            refine va rfl rfl rfl (q_assign (v := .slice A182 z176.1.length c183) rfl (by kernel_rfl)) ?_
            refine va rfl rfl rfl (q_assign (v := .int .i64 z176.2) rfl (by kernel_rfl)) ?_
            refine WR.nil ?_
            change WC _ _ _ _ _ _
            refine WC.rs ?_
            refine va rfl rfl rfl (q_move (v := .pointer (some ⟨g19, 0, none⟩)) rfl (optp_some rfl hz44)) ?_
            obtain ⟨z187, hz188, h⟩ := bnd h
            refine e_callF (is := []) (Lent.nil F) rfl rfl (call_run Try.call25 rfl rfl (by kernel_rfl)) rfl (fun w Θ hp hpB hle hleB hR => t_quorum_Read_Vers_l1 ((hr60.mono (hl64.trans hl179)).mono hle) (fun p hp => hR _ (List.mem_of_getElem? (i := 4) rfl) p hp) hp hpB hz188) ?_
            rintro J189 U191 v192 hn190 ⟨A193, c194, row195, rfl, rfl, hr196, _⟩
            refine WR.join2 fun hn197 => ?_
            have hr198 := hr196.sl (ghr_left hn197) (ghr_right hn197)
            have hc199 := hr196.capz
            change WR _ _ _ (CC F Γ178 [(J189 ++ row195), row184, J143, J99, row67, row59, row70]) _ _ (upd _ 133 (.slice A193 z187.length c194))
            refine va rfl rfl rfl (q_move (v := .slice Al l.length cl) rfl (by kernel_rfl)) ?_
            obtain ⟨z200, hz201, h⟩ := bnd h
            refine vc rfl rfl rfl (q_call (call_run Try.call24 rfl rfl (by kernel_rfl)) (fun w hw => t_firthref05_Same (Γ := Gh.all w) (hr198.mono ((satJ (i := 0) rfl hn197) w hw).le_all) hc199 ((hl.mono ((((hl16.trans hl26).trans hl56).trans hl64).trans hl179)).mono hw.sat.le_all) hlc (Sat.all w) hz201)) ?_
            refine va rfl rfl rfl (q_move (v := .bool z200) rfl (by kernel_rfl)) ?_
            refine vg1 rfl rfl rfl rfl rfl (fun hg202 => QV.qo (q_move (v := .bool z61.2) rfl (by kernel_rfl))) ?_
            refine vg1 rfl rfl rfl rfl rfl (fun hg203 => QV.qo (q_not rfl (gu hg203 rfl))) ?_
            refine vg1 rfl rfl rfl rfl rfl (fun hg204 => QV.qo (q_move (v := .bool (!z61.2)) rfl (gu hg204 rfl))) ?_
            refine vh0 (c0 := z200) (g := (!z61.2)) rfl rfl rfl rfl rfl (fun hg205 => QV.qo (q_move (v := .pointer (some ⟨g29, 0, none⟩)) rfl (optp_some rfl hz41))) ?_
            refine (Bool.eq_false_or_eq_true (z200 && (!(!z61.2)))).elim (fun hb206 => ?_) (fun hb206 => ?_)
            · skip
              have h := bt hb206 h
              refine WR.sat (c0 := z200) (g := (!z61.2)) rfl rfl rfl hb206 ?_
              obtain ⟨z207, hz208, h⟩ := bnd h
              refine e_callF (is := []) (Lent.nil F) rfl rfl (call_run Try.call38 rfl rfl (args1 (gu hb206 rfl))) rfl (fun w Θ hp hpB hle hleB hR => t_quorum_Scan_Recs_l0 ((hr68.mono hl179).mono hle) (fun p hp => hR _ (List.mem_of_getElem? (i := 4) rfl) p hp) hp hpB hz208) ?_
              rintro J209 U211 v212 hn210 ⟨A213, c214, row215, rfl, rfl, hr216, _⟩
              refine WR.join2 fun hn217 => ?_
              have hr218 := hr216.sl (ghr_left hn217) (ghr_right hn217)
              have hc219 := hr216.capz
              change WR _ _ _ (CC F Γ178 [(J209 ++ row215), (J189 ++ row195), row184, J143, J99, row67, row59, row70]) _ _ (upd _ 141 (.slice A213 z207.length c214))
              refine WR.sat (c0 := z200) (g := (!z61.2)) rfl rfl rfl hb206 ?_
              refine va rfl rfl rfl (q_move (v := .slice A182 z176.1.length c183) rfl (by kernel_rfl)) ?_
              refine WR.sat (c0 := z200) (g := (!z61.2)) rfl rfl rfl hb206 ?_
              obtain ⟨z220, hz221, h⟩ := bnd h
              refine vc rfl rfl rfl (q_call (call_run Try.call40 rfl rfl (by kernel_rfl)) (fun w hw => t_firthref06_SameRecs (Γ := Gh.all w) (hr218.mono ((satJ (i := 0) rfl hn217) w hw).le_all) hc219 (hr185.sl hw.sat.le_all (hw.ra 2 rfl)) hr185.capz (Sat.all w) hz221)) ?_
              refine WR.sat (c0 := true) (g := z200) rfl rfl rfl (and_l hb206) ?_
              refine va rfl rfl rfl (q_pick_f (v := .bool z220) rfl (gu (and_l hb206) rfl) (not_t (and_r hb206)) (by kernel_rfl)) ?_
              refine va rfl rfl rfl (q_pick_t (v := .bool z220) rfl rfl (and_l hb206) (by kernel_rfl)) ?_
              refine va rfl rfl rfl (q_move (v := .bool z220) rfl (by kernel_rfl)) ?_
              refine vg1 rfl rfl rfl rfl rfl (fun hg222 => QV.qo (q_move (v := .pointer (some ⟨g19, 0, none⟩)) rfl (optp_some rfl hz44))) ?_
              refine (Bool.eq_false_or_eq_true z220).elim (fun hb223 => ?_) (fun hb223 => ?_)
              · skip
                have h := bt hb223 h
                refine WR.sat (c0 := true) (g := z220) rfl rfl rfl hb223 ?_
                obtain ⟨z224, hz225, h⟩ := bnd h
                refine e_call (is := [6]) rfl rfl (call_run Try.call20 rfl rfl (args3 (gu hb223 rfl) rfl rfl)) rfl (fun w hp => t_quorum_Read_Got (hr60.mono (hl64.trans hl179)) 7 (show I64 7 by decide) (Sl.nil verT _ none) (Nat.zero_le 0) hp hz225) ?_
                rintro Γ226 U228 v229 hl227 ⟨row230, rfl, rfl, hr231, _⟩
                change WR _ _ _ (CC F Γ226 [row230, (J209 ++ row215), (J189 ++ row195), row184, J143, J99, row67, row70]) _ _ (upd _ 148 (.bool z224.2))
                refine WR.sat (c0 := true) (g := z220) rfl rfl rfl hb223 ?_
                refine va rfl rfl rfl (q_not rfl rfl) ?_
                refine va rfl rfl rfl (q_pick_t (v := .bool (!z224.2)) rfl rfl hb223 (by kernel_rfl)) ?_
                refine va rfl rfl rfl (q_assign (v := .bool (!z224.2)) rfl (by kernel_rfl)) ?_
                refine WR.nil ?_
                change WC _ _ _ _ _ _
                refine WC.ret ?_
                intro w hw
                obtain rfl := Option.some.inj h
                subst hF
                exact ⟨by kernel_rfl, hw.fr⟩
              · skip
                have h := bf hb223 h
                refine WR.unsat (c0 := true) (g := z220) rfl rfl rfl hb223 rfl ?_
                refine WR.unsat (c0 := true) (g := z220) rfl rfl rfl hb223 rfl ?_
                refine va rfl rfl rfl (q_pick_f (v := .bool false) rfl rfl hb223 (by kernel_rfl)) ?_
                refine va rfl rfl rfl (q_assign (v := .bool false) rfl (by kernel_rfl)) ?_
                refine WR.nil ?_
                change WC _ _ _ _ _ _
                refine WC.ret ?_
                intro w hw
                obtain rfl := Option.some.inj h
                subst hF
                exact ⟨by kernel_rfl, hw.fr⟩
            · skip
              have h := bf hb206 h
              refine WR.unsat (c0 := z200) (g := (!z61.2)) rfl rfl rfl hb206 rfl ?_
              refine WR.unsat (c0 := z200) (g := (!z61.2)) rfl rfl rfl hb206 rfl ?_
              refine WR.unsat (c0 := z200) (g := (!z61.2)) rfl rfl rfl hb206 rfl ?_
              refine vg1 rfl rfl rfl rfl rfl (fun hg232 => QV.qo (q_pick_t (v := .bool true) rfl (gu hg232 rfl) (and_nt hb206 hg232) (by kernel_rfl))) ?_
              refine va rfl rfl rfl (q_pick rfl rfl (pk_and' (g := z200) (y := true))) ?_
              refine va rfl rfl rfl (q_move (v := .bool (z200 && true)) rfl (by kernel_rfl)) ?_
              refine vg1 rfl rfl rfl rfl rfl (fun hg233 => QV.qo (q_move (v := .pointer (some ⟨g19, 0, none⟩)) rfl (optp_some rfl hz44))) ?_
              refine (Bool.eq_false_or_eq_true (z200 && true)).elim (fun hb234 => ?_) (fun hb234 => ?_)
              · skip
                have h := bt hb234 h
                refine WR.sat (c0 := true) (g := (z200 && true)) rfl rfl rfl hb234 ?_
                obtain ⟨z235, hz236, h⟩ := bnd h
                refine e_call (is := [5]) rfl rfl (call_run Try.call20 rfl rfl (args3 (gu hb234 rfl) rfl rfl)) rfl (fun w hp => t_quorum_Read_Got (hr60.mono (hl64.trans hl179)) 7 (show I64 7 by decide) (Sl.nil verT _ none) (Nat.zero_le 0) hp hz236) ?_
                rintro Γ237 U239 v240 hl238 ⟨row241, rfl, rfl, hr242, _⟩
                change WR _ _ _ (CC F Γ237 [row241, (J189 ++ row195), row184, J143, J99, row67, row70]) _ _ (upd _ 148 (.bool z235.2))
                refine WR.sat (c0 := true) (g := (z200 && true)) rfl rfl rfl hb234 ?_
                refine va rfl rfl rfl (q_not rfl rfl) ?_
                refine va rfl rfl rfl (q_pick_t (v := .bool (!z235.2)) rfl rfl hb234 (by kernel_rfl)) ?_
                refine va rfl rfl rfl (q_assign (v := .bool (!z235.2)) rfl (by kernel_rfl)) ?_
                refine WR.nil ?_
                change WC _ _ _ _ _ _
                refine WC.ret ?_
                intro w hw
                obtain rfl := Option.some.inj h
                subst hF
                exact ⟨by kernel_rfl, hw.fr⟩
              · skip
                have h := bf hb234 h
                refine WR.unsat (c0 := true) (g := (z200 && true)) rfl rfl rfl hb234 rfl ?_
                refine WR.unsat (c0 := true) (g := (z200 && true)) rfl rfl rfl hb234 rfl ?_
                refine va rfl rfl rfl (q_pick_f (v := .bool false) rfl rfl hb234 (by kernel_rfl)) ?_
                refine va rfl rfl rfl (q_assign (v := .bool false) rfl (by kernel_rfl)) ?_
                refine WR.nil ?_
                change WC _ _ _ _ _ _
                refine WC.ret ?_
                intro w hw
                obtain rfl := Option.some.inj h
                subst hF
                exact ⟨by kernel_rfl, hw.fr⟩
end Fw
end Go.Proofs.Ytlgahohnbkkoiaa
