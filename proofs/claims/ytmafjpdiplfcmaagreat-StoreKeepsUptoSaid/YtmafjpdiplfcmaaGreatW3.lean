/- Walks through the functions that the law reaches (printed by a program). No condition. -/
import Derived.Test.YtmafjpdiplfcmaaGreatW2
namespace Go.Proofs.YtmafjpdiplfcmaaGreat
namespace Fw
set_option linter.unusedVariables false
set_option linter.unusedSimpArgs false
set_option linter.unusedSectionVars false
set_option maxRecDepth 100000
set_option maxHeartbeats 400000
open Go.RowKit
abbrev r_seglog_Log_Append (gl : Nat) (el : Nat × Nat) (edk0 : Nat) (r : Oseglog_Log × Odisk_Disk × Int) (U : List Rowb) (Γ : Gh) (v : Value) : Prop := ∃ (rowl' : Rowb), ∃ (rowdk0' : Rowb), v = .int .i64 r.2.2 ∧ U = [rowl', rowdk0'] ∧ Oseglog_Log.ob el Γ gl rowl' r.1 ∧ Odisk_Disk.ob edk0 Γ el.2 rowdk0' r.2.1 ∧ I64 r.2.2 ∧ True
theorem t_seglog_Log_Append {Γ : Gh} {w0 : World} {gl : Nat} {el : Nat × Nat} {rowl : Rowb} {l : Oseglog_Log} (hl : Oseglog_Log.ob el Γ gl rowl l) {Ab : Option Addr} {cb : Nat} {b : List UInt8} (hb : Sl byteT Γ Ab b) (hbc : b.length ≤ cb) {edk0 : Nat} {rowdk0 : Rowb} {dk0 : Odisk_Disk} (hdk0 : Odisk_Disk.ob edk0 Γ el.2 rowdk0 dk0) (hp : Pre [rowl, rowdk0] Γ w0) {r : Oseglog_Log × Odisk_Disk × Int} (h : m_seglog_Log_Append l b dk0 = some r) : Calls Tryz.prog 37 #[(pq gl), .slice Ab b.length cb] w0 (Outc Γ [rowl, rowdk0] w0 (r_seglog_Log_Append gl el edk0 r)) := by
 refine calls_of (N := 95) (rs := [4]) (args := [(pq gl), .slice Ab b.length cb]) Tryz.func37 rfl Tryz.ntmps37 Tryz.results37 rfl ?_
 obtain ⟨F, hF⟩ : ∃ F : Fm, F = ⟨ids [rowl, rowdk0], w0, Γ⟩ := ⟨_, rfl⟩
 refine WC.here (C := CC F Γ [rowl, rowdk0]) ?_ (hF ▸ hp.start)
 refine WC.rs ?_
 refine as_ (v := .int .i64 0) ?_
 refine WR.done ?_
 refine WC.rs ?_
 refine mv (v := .slice Ab b.length cb) ?_
 obtain ⟨z1, hz2, h⟩ := bnd h
 refine e_call (is := []) rfl rfl (call_run Tryz.call81 rfl rfl (by kernel_rfl)) rfl (fun w hp => t_frame_Put hb hbc hp hz2) ?_
 rintro Γ3 U5 v6 hl4 ⟨A7, c8, row9, rfl, rfl, hr10, hr11, _⟩
 change WR _ _ _ (CC F Γ3 [row9, rowl, rowdk0]) _ _ (upd _ 12 (.tuple #[.slice A7 z1.1.length c8, .int .i64 z1.2]))
 refine mv (v := .tuple #[.slice A7 z1.1.length c8, .int .i64 z1.2]) ?_
 refine vb (q_extract (v := .slice A7 z1.1.length c8) rfl rfl rfl) ?_
 refine vb (q_extract (v := .int .i64 z1.2) rfl rfl rfl) ?_
 refine as_ (v := .slice A7 z1.1.length c8) ?_
 refine as_ (v := .int .i64 z1.2) ?_
 refine WR.done ?_
 refine WC.seq ?_
 refine WC.rs ?_
 refine mv (v := .int .i64 z1.2) ?_
 refine vb (q_neq rfl rfl rfl) ?_
 refine WR.done ?_
 refine WC.cif h (by kernel_rfl) (fun hb12 h => ?_) (fun hb12 h => ?_)
 ·
  refine WC.rs ?_
  refine mv (v := .int .i64 z1.2) ?_
  refine as_ (v := .int .i64 z1.2) ?_
  refine WR.done ?_
  refine WC.ret ?_
  intro w hw
  obtain rfl := Option.some.inj h
  subst hF
  exact end_e (is := [1, 1]) (by kernel_rfl) hw rfl ⟨rowl, rowdk0, rfl, rfl, (hl.mono hl4), (hdk0.mono hl4), hr11, trivial⟩
 ·
  refine WC.skip ?_
  change WC _ _ _ _ _ _
  refine WC.seq ?_
  have hq := (hl.mono hl4)
  obtain ⟨hrow_13, ho0_13, ho1_13, ho2_13, ho3_13, ho4_13, ho5_13, ho6_13, -⟩ := hq
  intro w hw; have hw := hw.unfold (i := 1) rfl hrow_13
  refine WC.here (C := CC F Γ3 [[(gl, .cells #[.pointer (some ⟨el.2, 0, none⟩), .string l.place_name, .int .i64 l.place_gen, .int .i64 l.size, .int .i64 l.last, .int .i64 l.tail, .int .i64 l.count, .int .i64 l.bytes] el.1 (0, 0))], row9, rowdk0]) ?_ hw
  clear hw
  refine WC.dr (by kernel_rfl) (by kernel_rfl) (fun w hw => hw.drawn _) ?_
  refine wa rfl rfl rfl (q_move (v := (pq gl)) rfl (by kernel_rfl)) ?_
  refine wa rfl rfl rfl (q_nil (A := some ⟨gl, 0, none⟩) rfl rfl rfl) ?_
  refine wa rfl rfl rfl (q_fl 4 fld_146_2 rfl rfl rfl) ?_
  refine wa rfl rfl rfl (q_ldl (i := 0) (v := .int .i64 l.last) rfl rfl Tryz.isAgg2 rfl rfl) ?_
  refine wa rfl rfl rfl (q_move (v := (pq gl)) rfl (by kernel_rfl)) ?_
  refine wa rfl rfl rfl (q_nil (A := some ⟨gl, 0, none⟩) rfl rfl rfl) ?_
  refine wa rfl rfl rfl (q_fl 5 fld_146_3 rfl rfl rfl) ?_
  refine wa rfl rfl rfl (q_ldl (i := 0) (v := .int .i64 l.tail) rfl rfl Tryz.isAgg3 rfl rfl) ?_
  refine wa rfl rfl rfl (q_assign (v := .int .i64 l.last) rfl (by kernel_rfl)) ?_
  refine wa rfl rfl rfl (q_assign (v := .int .i64 l.tail) rfl (by kernel_rfl)) ?_
  refine WQ.nil ?_
  change WC _ _ _ _ _ _
  intro w hw; have hw := hw.fold (is := [0]) rfl hrow_13
  refine WC.here (C := CC F Γ3 [rowl, row9, rowdk0]) ?_ hw
  clear hw
  refine WC.cut (fun σ w => ∃ (part_15 : Int), ∃ (tail_17 : Int), m_seglog_Log_Append_j1 l dk0 z1 part_15 tail_17 = some r ∧ slots σ [(0, (pq gl)), (5, .slice A7 z1.1.length c8), (7, .int .i64 part_15), (8, .int .i64 tail_17)] ∧ CC F Γ3 [rowl, row9, rowdk0] w ∧ I64 part_15 ∧ I64 tail_17 ∧ True) ?_ ?_
  ·
   refine WC.rs ?_
   refine mv (v := .int .i64 l.last) ?_
   refine vb (q_eql rfl rfl rfl) ?_
   refine mv (v := .bool (l.last == 0)) ?_
   refine vg0 rfl rfl rfl rfl rfl (fun hg19 => QV.qo (q_move (v := .int .i64 l.tail) rfl (by kernel_rfl))) ?_
   refine vg0 rfl rfl rfl rfl rfl (fun hg20 => QV.qo (q_gtr rfl (gu hg20 rfl) rfl)) ?_
   refine vg0 rfl rfl rfl rfl rfl (fun hg21 => QV.qo (q_move (v := .bool (decide (0 < l.tail))) rfl (gu hg21 rfl))) ?_
   refine vh1 (c0 := (!(l.last == 0))) (g := (decide (0 < l.tail))) rfl rfl rfl rfl rfl (fun hg22 => QV.qo (q_move (v := .slice A7 z1.1.length c8) rfl (by kernel_rfl))) ?_
   refine vh1 (c0 := (!(l.last == 0))) (g := (decide (0 < l.tail))) rfl rfl rfl rfl rfl (fun hg23 => QV.qo (q_len_slice rfl Tryz.underlying51 (gu hg23 rfl))) ?_
   refine vh1 (c0 := (!(l.last == 0))) (g := (decide (0 < l.tail))) rfl rfl rfl rfl rfl (fun hg24 => QV.qo (q_move (v := (pq gl)) rfl (by kernel_rfl))) ?_
   refine vh1 (c0 := (!(l.last == 0))) (g := (decide (0 < l.tail))) rfl rfl rfl rfl rfl (fun hg25 => QV.qo (q_nil (A := some ⟨gl, 0, none⟩) rfl (gu hg25 rfl) rfl)) ?_
   refine vh1 (c0 := (!(l.last == 0))) (g := (decide (0 < l.tail))) rfl rfl rfl rfl rfl (fun hg26 => QV.qo (q_fl 3 fld_146_1 rfl (gu hg26 rfl) rfl)) ?_
   have hq := (hl.mono hl4)
   obtain ⟨hrow_28, ho0_28, ho1_28, ho2_28, ho3_28, ho4_28, ho5_28, ho6_28, -⟩ := hq
   intro w hw; have hw := hw.unfold (i := 0) rfl hrow_28
   refine WR.here (C := CC F Γ3 [[(gl, .cells #[.pointer (some ⟨el.2, 0, none⟩), .string l.place_name, .int .i64 l.place_gen, .int .i64 l.size, .int .i64 l.last, .int .i64 l.tail, .int .i64 l.count, .int .i64 l.bytes] el.1 (0, 0))], row9, rowdk0]) ?_ hw
   clear hw
   refine vh1 (c0 := (!(l.last == 0))) (g := (decide (0 < l.tail))) rfl rfl rfl rfl rfl (fun hg29 => QV.qo (q_ldl (i := 0) (v := .int .i64 l.size) rfl rfl Tryz.isAgg3 (gu hg29 rfl) rfl)) ?_
   refine vh1 (c0 := (!(l.last == 0))) (g := (decide (0 < l.tail))) rfl rfl rfl rfl rfl (fun hg30 => QV.qo (q_move (v := .int .i64 l.tail) rfl (by kernel_rfl))) ?_
   refine vh1 (c0 := (!(l.last == 0))) (g := (decide (0 < l.tail))) rfl rfl rfl rfl rfl (fun hg31 => QV.qo (q_sub rfl (gu hg31 rfl) (gu hg31 rfl))) ?_
   refine vh1 (c0 := (!(l.last == 0))) (g := (decide (0 < l.tail))) rfl rfl rfl rfl rfl (fun hg32 => QV.qo (q_gtr rfl (gu hg32 rfl) (gu hg32 rfl))) ?_
   refine vg0 rfl rfl rfl rfl rfl (fun hg33 => QV.qo (q_pick rfl (gu hg33 rfl) (pk_and (c := (!(l.last == 0))) (g := (decide (0 < l.tail))) (y := (decide ((w64 (l.size - l.tail)) < ((z1.1.length : Nat) : Int)))) hg33))) ?_
   refine vb (q_pick rfl rfl (pk_or' (g := (l.last == 0)) (y := ((decide (0 < l.tail)) && (decide ((w64 (l.size - l.tail)) < ((z1.1.length : Nat) : Int))))))) ?_
   refine WR.done ?_
   refine WC.cif h (by kernel_rfl) (fun hb34 h => ?_) (fun hb34 h => ?_)
   ·
    refine WC.region ?_
    refine mv (v := .int .i64 l.last) ?_
    refine vb (q_add rfl rfl rfl) ?_
    refine as_ (v := .int .i64 (w64 (l.last + 1))) ?_
    refine as_ (v := .int .i64 0) ?_
    refine WR.nil ?_
    intro w hw
    have hw := hw.fold (is := [0]) rfl hrow_28
    exact ⟨(w64 (l.last + 1)), 0, h, (sl_ (by kernel_rfl)), hw, (w64_r _), (show I64 0 by decide), trivial⟩
   ·
    refine WC.skip ?_
    intro w hw
    have hw := hw.fold (is := [0]) rfl hrow_28
    exact ⟨l.last, l.tail, h, (sl_ (by kernel_rfl)), hw, ho3_13, ho4_13, trivial⟩
  ·
   rintro σ w ⟨part_15, tail_17, h, hsl, hw, hr16, hr18, -⟩
   refine Wpt.slots hsl ?_
   refine WC.here (C := CC F Γ3 [rowl, row9, rowdk0]) ?_ hw
   clear hw hsl
   refine WC.seq ?_
   refine WC.rs ?_
   refine mv (v := .int .i64 part_15) ?_
   refine vb (q_gtr rfl rfl rfl) ?_
   refine WR.done ?_
   refine WC.cif h (by kernel_rfl) (fun hb37 h => ?_) (fun hb37 h => ?_)
   ·
    refine WC.rs ?_
    refine as_ (v := .int .i64 72) ?_
    refine WR.done ?_
    refine WC.ret ?_
    intro w hw
    obtain rfl := Option.some.inj h
    subst hF
    exact end_e (is := [0, 1]) (by kernel_rfl) hw rfl ⟨rowl, rowdk0, rfl, rfl, (hl.mono hl4), (hdk0.mono hl4), (show I64 72 by decide), trivial⟩
   ·
    refine WC.skip ?_
    change WC _ _ _ _ _ _
    refine WC.seq ?_
    refine WC.cut (fun σ w => ∃ (f_40 : List UInt8), ∃ (e_45 : Int), ∃ (o47 : Odisk_Disk), ∃ (Γ38 : Gh), ∃ (A41 : Option Addr), ∃ (c42 : Nat), ∃ (row48 : Rowb), m_seglog_Log_Append_j2 l part_15 tail_17 f_40 e_45 o47 = some r ∧ slots σ [(0, (pq gl)), (5, .slice A41 f_40.length c42), (7, .int .i64 part_15), (8, .int .i64 tail_17), (9, .int .i64 e_45)] ∧ CC F Γ38 [rowl, row48] w ∧ Gh.le Γ3 Γ38 ∧ f_40.length ≤ c42 ∧ Sl byteT Γ38 A41 f_40 ∧ I64 e_45 ∧ Odisk_Disk.ob edk0 Γ38 el.2 row48 o47 ∧ True) ?_ ?_
    ·
     have hc54 := hr10.capz
     intro w hw; obtain ⟨Γ50, hw, hl51, hr52⟩ := hw.seal (i := 1) rfl; have hs53 := hr10.sl hl51 hr52
     refine WC.here (C := CC F Γ50 [rowl, [], rowdk0]) ?_ hw
     clear hw
     intro w hw; have h055 := hw.le
     refine WC.here (C := CC F Γ50 [rowl, [], rowdk0]) ?_ hw; clear hw
     refine WC.held (CC F Γ50 [[]]) (by kernel_rfl) (fun w hw => hw.drawn _) ?_
     change WH _ _ _ _ (CC F Γ50 [rowl, [], rowdk0]) _ 19 #[false, false, false, false, false, false, false, false, false, false, false, false, false, false, false, false, false, false, false] _
     refine hu 0 rfl (bk_ (Gh.refl _) h055 (.cons _ (.cons_cons _ (.cons _ .slnil)))) (q_move (v := (pq gl)) rfl (by kernel_rfl)) ?_
     refine hu 1 rfl (bk_ (Gh.refl _) h055 (.cons _ (.cons_cons _ (.cons _ .slnil)))) (q_nil (A := some ⟨gl, 0, none⟩) rfl rfl rfl) ?_
     refine hu 2 rfl (bk_ (Gh.refl _) h055 (.cons _ (.cons_cons _ (.cons _ .slnil)))) (q_fl 0 fld_146_0 rfl rfl rfl) ?_
     refine hu 3 rfl (bk_ (Gh.refl _) h055 (.cons _ (.cons_cons _ (.cons _ .slnil)))) (q_fl 0 fld_138_0 rfl rfl rfl) ?_
     refine hu 5 rfl (bk_ (Gh.refl _) h055 (.cons _ (.cons_cons _ (.cons _ .slnil)))) (q_move (v := (pq gl)) rfl (by kernel_rfl)) ?_
     refine hu 6 rfl (bk_ (Gh.refl _) h055 (.cons _ (.cons_cons _ (.cons _ .slnil)))) (q_nil (A := some ⟨gl, 0, none⟩) rfl rfl rfl) ?_
     refine hu 7 rfl (bk_ (Gh.refl _) h055 (.cons _ (.cons_cons _ (.cons _ .slnil)))) (q_fl 0 fld_146_0 rfl rfl rfl) ?_
     refine hu 9 rfl (bk_ (Gh.refl _) h055 (.cons _ (.cons_cons _ (.cons _ .slnil)))) (q_move (v := (pq gl)) rfl (by kernel_rfl)) ?_
     refine hu 10 rfl (bk_ (Gh.refl _) h055 (.cons _ (.cons_cons _ (.cons _ .slnil)))) (q_nil (A := some ⟨gl, 0, none⟩) rfl rfl rfl) ?_
     refine hu 11 rfl (bk_ (Gh.refl _) h055 (.cons _ (.cons_cons _ (.cons _ .slnil)))) (q_fl 0 fld_146_0 rfl rfl rfl) ?_
     refine hu 12 rfl (bk_ (Gh.refl _) h055 (.cons _ (.cons_cons _ (.cons _ .slnil)))) (q_fl 2 fld_138_2 rfl rfl rfl) ?_
     refine hu 14 rfl (bk_ (Gh.refl _) h055 (.cons _ (.cons_cons _ (.cons _ .slnil)))) (q_move (v := .int .i64 part_15) rfl (by kernel_rfl)) ?_
     refine hu 16 rfl (bk_ (Gh.refl _) h055 (.cons _ (.cons_cons _ (.cons _ .slnil)))) (q_move (v := .slice A7 z1.1.length c8) rfl (by kernel_rfl)) ?_
     refine WH.each (l := [4, 8, 13]) (by kernel_rfl) (by simp) ?_
     intro i hi; simp only [List.mem_cons, List.not_mem_nil, or_false] at hi
     rcases hi with rfl | rfl | rfl
     ·
      refine ⟨_, rfl, ?_⟩
      have hq := (hl.mono (hl4.trans hl51))
      obtain ⟨hrow_56, ho0_56, ho1_56, ho2_56, ho3_56, ho4_56, ho5_56, ho6_56, -⟩ := hq
      intro w hw; have hw := hw.unfold (i := 0) rfl hrow_56
      refine WR.here (C := CC F Γ50 [[(gl, .cells #[.pointer (some ⟨el.2, 0, none⟩), .string l.place_name, .int .i64 l.place_gen, .int .i64 l.size, .int .i64 l.last, .int .i64 l.tail, .int .i64 l.count, .int .i64 l.bytes] el.1 (0, 0))], [], rowdk0]) ?_ hw
      clear hw
      refine vb (q_ldl (i := 0) (v := .pointer (some ⟨el.2, 0, none⟩)) rfl rfl Tryz.isAgg27 rfl rfl) ?_
      refine WR.nil ?_
      refine WH.next (bk_ (Gh.refl _) h055 (.cons _ (.cons_cons _ (.cons _ .slnil)))) ?_
      refine WH.each (l := [8, 13]) (by kernel_rfl) (by simp) ?_
      intro i hi; simp only [List.mem_cons, List.not_mem_nil, or_false] at hi
      rcases hi with rfl | rfl
      ·
       refine ⟨_, rfl, ?_⟩
       refine vb (q_ldla (i := 0) (vs := [.pointer (some ⟨el.2, 0, none⟩), .string l.place_name, .int .i64 l.place_gen]) rfl rfl Tryz.isAgg138 Tryz.sizeOf138 rfl rfl) ?_
       refine WR.nil ?_
       refine WH.next (bk_ (Gh.refl _) h055 (.cons _ (.cons_cons _ (.cons _ .slnil)))) ?_
       refine WH.lone (i := 13) (by kernel_rfl) rfl ?_
       refine vb (q_ldl (i := 0) (v := .int .i64 l.place_gen) rfl rfl Tryz.isAgg2 rfl rfl) ?_
       refine WR.nil ?_
       refine WH.next (bk_ (Gh.refl _) h055 (.cons _ (.cons_cons _ (.cons _ .slnil)))) ?_
       refine WH.lone (i := 15) (by kernel_rfl) rfl ?_
       obtain ⟨z57, hz58, h⟩ := bnd h
       refine vc rfl rfl rfl (q_call (call_run Tryz.call82 rfl rfl (by kernel_rfl)) (fun w hw => t_seglog_place_file (Γ := Gh.all w) (gp__0 := el.2) l.place_name ho0_56 l.place_gen ho1_56 l.place_gen ho1_56 part_15 hr16 (Sat.all w) hz58)) ?_
       refine WR.nil ?_
       refine WH.next (bk_ (Gh.refl _) h055 (.cons _ (.cons_cons _ (.cons _ .slnil)))) ?_
       refine WH.lone (i := 17) (by kernel_rfl) rfl ?_
       obtain ⟨hk59, h⟩ := chk_some h
       obtain ⟨z60, hz61, h⟩ := bnd h
       refine e_call (is := [2]) rfl rfl (call_run Tryz.call21 rfl rfl (by kernel_rfl)) rfl (fun w hp => t_disk_Disk_Append (hdk0.mono (hl4.trans hl51)) z57 (of_decide_eq_true hk59) hs53 hc54 hp hz61) ?_
       rintro Γ62 U64 v65 hl63 ⟨row66, rfl, rfl, hr67, hr68, _⟩
       change WR _ _ _ (CC F Γ62 [row66, [(gl, .cells #[.pointer (some ⟨el.2, 0, none⟩), .string l.place_name, .int .i64 l.place_gen, .int .i64 l.size, .int .i64 l.last, .int .i64 l.tail, .int .i64 l.count, .int .i64 l.bytes] el.1 (0, 0))], []]) _ _ (upd _ 64 (.int .i64 z60.2))
       refine WR.nil ?_
       refine WH.next (bk_ hl63 h055 (.cons _ (.cons _ (.cons_cons _ .slnil)))) ?_
       refine hu 18 rfl (bk_ hl63 h055 (.cons _ (.cons _ (.cons_cons _ .slnil)))) (q_assign (v := .int .i64 z60.2) rfl (by kernel_rfl)) ?_
       refine WH.done (by kernel_rfl) ?_
       intro w hw
       have hw := hw.fold (is := [1]) rfl hrow_56
       exact ⟨z1.1, z60.2, z60.1, Γ62, A7, c8, row66, h, (sl_ (by kernel_rfl)), (hw.only (is := [0, 0]) rfl), (hl51.trans hl63), hc54, (hs53.mono hl63), hr68, hr67, trivial⟩
      ·
       refine ⟨_, rfl, ?_⟩
       refine vb (q_ldl (i := 0) (v := .int .i64 l.place_gen) rfl rfl Tryz.isAgg2 rfl rfl) ?_
       refine WR.nil ?_
       refine WH.next (bk_ (Gh.refl _) h055 (.cons _ (.cons_cons _ (.cons _ .slnil)))) ?_
       refine WH.lone (i := 8) (by kernel_rfl) rfl ?_
       refine vb (q_ldla (i := 0) (vs := [.pointer (some ⟨el.2, 0, none⟩), .string l.place_name, .int .i64 l.place_gen]) rfl rfl Tryz.isAgg138 Tryz.sizeOf138 rfl rfl) ?_
       refine WR.nil ?_
       refine WH.next (bk_ (Gh.refl _) h055 (.cons _ (.cons_cons _ (.cons _ .slnil)))) ?_
       refine WH.lone (i := 15) (by kernel_rfl) rfl ?_
       obtain ⟨z57, hz58, h⟩ := bnd h
       refine vc rfl rfl rfl (q_call (call_run Tryz.call82 rfl rfl (by kernel_rfl)) (fun w hw => t_seglog_place_file (Γ := Gh.all w) (gp__0 := el.2) l.place_name ho0_56 l.place_gen ho1_56 l.place_gen ho1_56 part_15 hr16 (Sat.all w) hz58)) ?_
       refine WR.nil ?_
       refine WH.next (bk_ (Gh.refl _) h055 (.cons _ (.cons_cons _ (.cons _ .slnil)))) ?_
       refine WH.lone (i := 17) (by kernel_rfl) rfl ?_
       obtain ⟨hk59, h⟩ := chk_some h
       obtain ⟨z60, hz61, h⟩ := bnd h
       refine e_call (is := [2]) rfl rfl (call_run Tryz.call21 rfl rfl (by kernel_rfl)) rfl (fun w hp => t_disk_Disk_Append (hdk0.mono (hl4.trans hl51)) z57 (of_decide_eq_true hk59) hs53 hc54 hp hz61) ?_
       rintro Γ62 U64 v65 hl63 ⟨row66, rfl, rfl, hr67, hr68, _⟩
       change WR _ _ _ (CC F Γ62 [row66, [(gl, .cells #[.pointer (some ⟨el.2, 0, none⟩), .string l.place_name, .int .i64 l.place_gen, .int .i64 l.size, .int .i64 l.last, .int .i64 l.tail, .int .i64 l.count, .int .i64 l.bytes] el.1 (0, 0))], []]) _ _ (upd _ 64 (.int .i64 z60.2))
       refine WR.nil ?_
       refine WH.next (bk_ hl63 h055 (.cons _ (.cons _ (.cons_cons _ .slnil)))) ?_
       refine hu 18 rfl (bk_ hl63 h055 (.cons _ (.cons _ (.cons_cons _ .slnil)))) (q_assign (v := .int .i64 z60.2) rfl (by kernel_rfl)) ?_
       refine WH.done (by kernel_rfl) ?_
       intro w hw
       have hw := hw.fold (is := [1]) rfl hrow_56
       exact ⟨z1.1, z60.2, z60.1, Γ62, A7, c8, row66, h, (sl_ (by kernel_rfl)), (hw.only (is := [0, 0]) rfl), (hl51.trans hl63), hc54, (hs53.mono hl63), hr68, hr67, trivial⟩
     ·
      refine ⟨_, rfl, ?_⟩
      have hq := (hl.mono (hl4.trans hl51))
      obtain ⟨hrow_56, ho0_56, ho1_56, ho2_56, ho3_56, ho4_56, ho5_56, ho6_56, -⟩ := hq
      intro w hw; have hw := hw.unfold (i := 0) rfl hrow_56
      refine WR.here (C := CC F Γ50 [[(gl, .cells #[.pointer (some ⟨el.2, 0, none⟩), .string l.place_name, .int .i64 l.place_gen, .int .i64 l.size, .int .i64 l.last, .int .i64 l.tail, .int .i64 l.count, .int .i64 l.bytes] el.1 (0, 0))], [], rowdk0]) ?_ hw
      clear hw
      refine vb (q_ldla (i := 0) (vs := [.pointer (some ⟨el.2, 0, none⟩), .string l.place_name, .int .i64 l.place_gen]) rfl rfl Tryz.isAgg138 Tryz.sizeOf138 rfl rfl) ?_
      refine WR.nil ?_
      refine WH.next (bk_ (Gh.refl _) h055 (.cons _ (.cons_cons _ (.cons _ .slnil)))) ?_
      refine WH.each (l := [4, 13]) (by kernel_rfl) (by simp) ?_
      intro i hi; simp only [List.mem_cons, List.not_mem_nil, or_false] at hi
      rcases hi with rfl | rfl
      ·
       refine ⟨_, rfl, ?_⟩
       refine vb (q_ldl (i := 0) (v := .pointer (some ⟨el.2, 0, none⟩)) rfl rfl Tryz.isAgg27 rfl rfl) ?_
       refine WR.nil ?_
       refine WH.next (bk_ (Gh.refl _) h055 (.cons _ (.cons_cons _ (.cons _ .slnil)))) ?_
       refine WH.lone (i := 13) (by kernel_rfl) rfl ?_
       refine vb (q_ldl (i := 0) (v := .int .i64 l.place_gen) rfl rfl Tryz.isAgg2 rfl rfl) ?_
       refine WR.nil ?_
       refine WH.next (bk_ (Gh.refl _) h055 (.cons _ (.cons_cons _ (.cons _ .slnil)))) ?_
       refine WH.lone (i := 15) (by kernel_rfl) rfl ?_
       obtain ⟨z57, hz58, h⟩ := bnd h
       refine vc rfl rfl rfl (q_call (call_run Tryz.call82 rfl rfl (by kernel_rfl)) (fun w hw => t_seglog_place_file (Γ := Gh.all w) (gp__0 := el.2) l.place_name ho0_56 l.place_gen ho1_56 l.place_gen ho1_56 part_15 hr16 (Sat.all w) hz58)) ?_
       refine WR.nil ?_
       refine WH.next (bk_ (Gh.refl _) h055 (.cons _ (.cons_cons _ (.cons _ .slnil)))) ?_
       refine WH.lone (i := 17) (by kernel_rfl) rfl ?_
       obtain ⟨hk59, h⟩ := chk_some h
       obtain ⟨z60, hz61, h⟩ := bnd h
       refine e_call (is := [2]) rfl rfl (call_run Tryz.call21 rfl rfl (by kernel_rfl)) rfl (fun w hp => t_disk_Disk_Append (hdk0.mono (hl4.trans hl51)) z57 (of_decide_eq_true hk59) hs53 hc54 hp hz61) ?_
       rintro Γ62 U64 v65 hl63 ⟨row66, rfl, rfl, hr67, hr68, _⟩
       change WR _ _ _ (CC F Γ62 [row66, [(gl, .cells #[.pointer (some ⟨el.2, 0, none⟩), .string l.place_name, .int .i64 l.place_gen, .int .i64 l.size, .int .i64 l.last, .int .i64 l.tail, .int .i64 l.count, .int .i64 l.bytes] el.1 (0, 0))], []]) _ _ (upd _ 64 (.int .i64 z60.2))
       refine WR.nil ?_
       refine WH.next (bk_ hl63 h055 (.cons _ (.cons _ (.cons_cons _ .slnil)))) ?_
       refine hu 18 rfl (bk_ hl63 h055 (.cons _ (.cons _ (.cons_cons _ .slnil)))) (q_assign (v := .int .i64 z60.2) rfl (by kernel_rfl)) ?_
       refine WH.done (by kernel_rfl) ?_
       intro w hw
       have hw := hw.fold (is := [1]) rfl hrow_56
       exact ⟨z1.1, z60.2, z60.1, Γ62, A7, c8, row66, h, (sl_ (by kernel_rfl)), (hw.only (is := [0, 0]) rfl), (hl51.trans hl63), hc54, (hs53.mono hl63), hr68, hr67, trivial⟩
      ·
       refine ⟨_, rfl, ?_⟩
       refine vb (q_ldl (i := 0) (v := .int .i64 l.place_gen) rfl rfl Tryz.isAgg2 rfl rfl) ?_
       refine WR.nil ?_
       refine WH.next (bk_ (Gh.refl _) h055 (.cons _ (.cons_cons _ (.cons _ .slnil)))) ?_
       obtain ⟨z57, hz58, h⟩ := bnd h
       refine WH.each (l := [4, 15]) (by kernel_rfl) (by simp) ?_
       intro i hi; simp only [List.mem_cons, List.not_mem_nil, or_false] at hi
       rcases hi with rfl | rfl
       ·
        refine ⟨_, rfl, ?_⟩
        refine vb (q_ldl (i := 0) (v := .pointer (some ⟨el.2, 0, none⟩)) rfl rfl Tryz.isAgg27 rfl rfl) ?_
        refine WR.nil ?_
        refine WH.next (bk_ (Gh.refl _) h055 (.cons _ (.cons_cons _ (.cons _ .slnil)))) ?_
        refine WH.lone (i := 15) (by kernel_rfl) rfl ?_
        refine vc rfl rfl rfl (q_call (call_run Tryz.call82 rfl rfl (by kernel_rfl)) (fun w hw => t_seglog_place_file (Γ := Gh.all w) (gp__0 := el.2) l.place_name ho0_56 l.place_gen ho1_56 l.place_gen ho1_56 part_15 hr16 (Sat.all w) hz58)) ?_
        refine WR.nil ?_
        refine WH.next (bk_ (Gh.refl _) h055 (.cons _ (.cons_cons _ (.cons _ .slnil)))) ?_
        refine WH.lone (i := 17) (by kernel_rfl) rfl ?_
        obtain ⟨hk59, h⟩ := chk_some h
        obtain ⟨z60, hz61, h⟩ := bnd h
        refine e_call (is := [2]) rfl rfl (call_run Tryz.call21 rfl rfl (by kernel_rfl)) rfl (fun w hp => t_disk_Disk_Append (hdk0.mono (hl4.trans hl51)) z57 (of_decide_eq_true hk59) hs53 hc54 hp hz61) ?_
        rintro Γ62 U64 v65 hl63 ⟨row66, rfl, rfl, hr67, hr68, _⟩
        change WR _ _ _ (CC F Γ62 [row66, [(gl, .cells #[.pointer (some ⟨el.2, 0, none⟩), .string l.place_name, .int .i64 l.place_gen, .int .i64 l.size, .int .i64 l.last, .int .i64 l.tail, .int .i64 l.count, .int .i64 l.bytes] el.1 (0, 0))], []]) _ _ (upd _ 64 (.int .i64 z60.2))
        refine WR.nil ?_
        refine WH.next (bk_ hl63 h055 (.cons _ (.cons _ (.cons_cons _ .slnil)))) ?_
        refine hu 18 rfl (bk_ hl63 h055 (.cons _ (.cons _ (.cons_cons _ .slnil)))) (q_assign (v := .int .i64 z60.2) rfl (by kernel_rfl)) ?_
        refine WH.done (by kernel_rfl) ?_
        intro w hw
        have hw := hw.fold (is := [1]) rfl hrow_56
        exact ⟨z1.1, z60.2, z60.1, Γ62, A7, c8, row66, h, (sl_ (by kernel_rfl)), (hw.only (is := [0, 0]) rfl), (hl51.trans hl63), hc54, (hs53.mono hl63), hr68, hr67, trivial⟩
       ·
        refine ⟨_, rfl, ?_⟩
        refine vc rfl rfl rfl (q_call (call_run Tryz.call82 rfl rfl (by kernel_rfl)) (fun w hw => t_seglog_place_file (Γ := Gh.all w) (gp__0 := el.2) l.place_name ho0_56 l.place_gen ho1_56 l.place_gen ho1_56 part_15 hr16 (Sat.all w) hz58)) ?_
        refine WR.nil ?_
        refine WH.next (bk_ (Gh.refl _) h055 (.cons _ (.cons_cons _ (.cons _ .slnil)))) ?_
        refine WH.lone (i := 4) (by kernel_rfl) rfl ?_
        refine vb (q_ldl (i := 0) (v := .pointer (some ⟨el.2, 0, none⟩)) rfl rfl Tryz.isAgg27 rfl rfl) ?_
        refine WR.nil ?_
        refine WH.next (bk_ (Gh.refl _) h055 (.cons _ (.cons_cons _ (.cons _ .slnil)))) ?_
        refine WH.lone (i := 17) (by kernel_rfl) rfl ?_
        obtain ⟨hk59, h⟩ := chk_some h
        obtain ⟨z60, hz61, h⟩ := bnd h
        refine e_call (is := [2]) rfl rfl (call_run Tryz.call21 rfl rfl (by kernel_rfl)) rfl (fun w hp => t_disk_Disk_Append (hdk0.mono (hl4.trans hl51)) z57 (of_decide_eq_true hk59) hs53 hc54 hp hz61) ?_
        rintro Γ62 U64 v65 hl63 ⟨row66, rfl, rfl, hr67, hr68, _⟩
        change WR _ _ _ (CC F Γ62 [row66, [(gl, .cells #[.pointer (some ⟨el.2, 0, none⟩), .string l.place_name, .int .i64 l.place_gen, .int .i64 l.size, .int .i64 l.last, .int .i64 l.tail, .int .i64 l.count, .int .i64 l.bytes] el.1 (0, 0))], []]) _ _ (upd _ 64 (.int .i64 z60.2))
        refine WR.nil ?_
        refine WH.next (bk_ hl63 h055 (.cons _ (.cons _ (.cons_cons _ .slnil)))) ?_
        refine hu 18 rfl (bk_ hl63 h055 (.cons _ (.cons _ (.cons_cons _ .slnil)))) (q_assign (v := .int .i64 z60.2) rfl (by kernel_rfl)) ?_
        refine WH.done (by kernel_rfl) ?_
        intro w hw
        have hw := hw.fold (is := [1]) rfl hrow_56
        exact ⟨z1.1, z60.2, z60.1, Γ62, A7, c8, row66, h, (sl_ (by kernel_rfl)), (hw.only (is := [0, 0]) rfl), (hl51.trans hl63), hc54, (hs53.mono hl63), hr68, hr67, trivial⟩
     ·
      refine ⟨_, rfl, ?_⟩
      have hq := (hl.mono (hl4.trans hl51))
      obtain ⟨hrow_56, ho0_56, ho1_56, ho2_56, ho3_56, ho4_56, ho5_56, ho6_56, -⟩ := hq
      intro w hw; have hw := hw.unfold (i := 0) rfl hrow_56
      refine WR.here (C := CC F Γ50 [[(gl, .cells #[.pointer (some ⟨el.2, 0, none⟩), .string l.place_name, .int .i64 l.place_gen, .int .i64 l.size, .int .i64 l.last, .int .i64 l.tail, .int .i64 l.count, .int .i64 l.bytes] el.1 (0, 0))], [], rowdk0]) ?_ hw
      clear hw
      refine vb (q_ldl (i := 0) (v := .int .i64 l.place_gen) rfl rfl Tryz.isAgg2 rfl rfl) ?_
      refine WR.nil ?_
      refine WH.next (bk_ (Gh.refl _) h055 (.cons _ (.cons_cons _ (.cons _ .slnil)))) ?_
      refine WH.each (l := [4, 8]) (by kernel_rfl) (by simp) ?_
      intro i hi; simp only [List.mem_cons, List.not_mem_nil, or_false] at hi
      rcases hi with rfl | rfl
      ·
       refine ⟨_, rfl, ?_⟩
       refine vb (q_ldl (i := 0) (v := .pointer (some ⟨el.2, 0, none⟩)) rfl rfl Tryz.isAgg27 rfl rfl) ?_
       refine WR.nil ?_
       refine WH.next (bk_ (Gh.refl _) h055 (.cons _ (.cons_cons _ (.cons _ .slnil)))) ?_
       refine WH.lone (i := 8) (by kernel_rfl) rfl ?_
       refine vb (q_ldla (i := 0) (vs := [.pointer (some ⟨el.2, 0, none⟩), .string l.place_name, .int .i64 l.place_gen]) rfl rfl Tryz.isAgg138 Tryz.sizeOf138 rfl rfl) ?_
       refine WR.nil ?_
       refine WH.next (bk_ (Gh.refl _) h055 (.cons _ (.cons_cons _ (.cons _ .slnil)))) ?_
       refine WH.lone (i := 15) (by kernel_rfl) rfl ?_
       obtain ⟨z57, hz58, h⟩ := bnd h
       refine vc rfl rfl rfl (q_call (call_run Tryz.call82 rfl rfl (by kernel_rfl)) (fun w hw => t_seglog_place_file (Γ := Gh.all w) (gp__0 := el.2) l.place_name ho0_56 l.place_gen ho1_56 l.place_gen ho1_56 part_15 hr16 (Sat.all w) hz58)) ?_
       refine WR.nil ?_
       refine WH.next (bk_ (Gh.refl _) h055 (.cons _ (.cons_cons _ (.cons _ .slnil)))) ?_
       refine WH.lone (i := 17) (by kernel_rfl) rfl ?_
       obtain ⟨hk59, h⟩ := chk_some h
       obtain ⟨z60, hz61, h⟩ := bnd h
       refine e_call (is := [2]) rfl rfl (call_run Tryz.call21 rfl rfl (by kernel_rfl)) rfl (fun w hp => t_disk_Disk_Append (hdk0.mono (hl4.trans hl51)) z57 (of_decide_eq_true hk59) hs53 hc54 hp hz61) ?_
       rintro Γ62 U64 v65 hl63 ⟨row66, rfl, rfl, hr67, hr68, _⟩
       change WR _ _ _ (CC F Γ62 [row66, [(gl, .cells #[.pointer (some ⟨el.2, 0, none⟩), .string l.place_name, .int .i64 l.place_gen, .int .i64 l.size, .int .i64 l.last, .int .i64 l.tail, .int .i64 l.count, .int .i64 l.bytes] el.1 (0, 0))], []]) _ _ (upd _ 64 (.int .i64 z60.2))
       refine WR.nil ?_
       refine WH.next (bk_ hl63 h055 (.cons _ (.cons _ (.cons_cons _ .slnil)))) ?_
       refine hu 18 rfl (bk_ hl63 h055 (.cons _ (.cons _ (.cons_cons _ .slnil)))) (q_assign (v := .int .i64 z60.2) rfl (by kernel_rfl)) ?_
       refine WH.done (by kernel_rfl) ?_
       intro w hw
       have hw := hw.fold (is := [1]) rfl hrow_56
       exact ⟨z1.1, z60.2, z60.1, Γ62, A7, c8, row66, h, (sl_ (by kernel_rfl)), (hw.only (is := [0, 0]) rfl), (hl51.trans hl63), hc54, (hs53.mono hl63), hr68, hr67, trivial⟩
      ·
       refine ⟨_, rfl, ?_⟩
       refine vb (q_ldla (i := 0) (vs := [.pointer (some ⟨el.2, 0, none⟩), .string l.place_name, .int .i64 l.place_gen]) rfl rfl Tryz.isAgg138 Tryz.sizeOf138 rfl rfl) ?_
       refine WR.nil ?_
       refine WH.next (bk_ (Gh.refl _) h055 (.cons _ (.cons_cons _ (.cons _ .slnil)))) ?_
       obtain ⟨z57, hz58, h⟩ := bnd h
       refine WH.each (l := [4, 15]) (by kernel_rfl) (by simp) ?_
       intro i hi; simp only [List.mem_cons, List.not_mem_nil, or_false] at hi
       rcases hi with rfl | rfl
       ·
        refine ⟨_, rfl, ?_⟩
        refine vb (q_ldl (i := 0) (v := .pointer (some ⟨el.2, 0, none⟩)) rfl rfl Tryz.isAgg27 rfl rfl) ?_
        refine WR.nil ?_
        refine WH.next (bk_ (Gh.refl _) h055 (.cons _ (.cons_cons _ (.cons _ .slnil)))) ?_
        refine WH.lone (i := 15) (by kernel_rfl) rfl ?_
        refine vc rfl rfl rfl (q_call (call_run Tryz.call82 rfl rfl (by kernel_rfl)) (fun w hw => t_seglog_place_file (Γ := Gh.all w) (gp__0 := el.2) l.place_name ho0_56 l.place_gen ho1_56 l.place_gen ho1_56 part_15 hr16 (Sat.all w) hz58)) ?_
        refine WR.nil ?_
        refine WH.next (bk_ (Gh.refl _) h055 (.cons _ (.cons_cons _ (.cons _ .slnil)))) ?_
        refine WH.lone (i := 17) (by kernel_rfl) rfl ?_
        obtain ⟨hk59, h⟩ := chk_some h
        obtain ⟨z60, hz61, h⟩ := bnd h
        refine e_call (is := [2]) rfl rfl (call_run Tryz.call21 rfl rfl (by kernel_rfl)) rfl (fun w hp => t_disk_Disk_Append (hdk0.mono (hl4.trans hl51)) z57 (of_decide_eq_true hk59) hs53 hc54 hp hz61) ?_
        rintro Γ62 U64 v65 hl63 ⟨row66, rfl, rfl, hr67, hr68, _⟩
        change WR _ _ _ (CC F Γ62 [row66, [(gl, .cells #[.pointer (some ⟨el.2, 0, none⟩), .string l.place_name, .int .i64 l.place_gen, .int .i64 l.size, .int .i64 l.last, .int .i64 l.tail, .int .i64 l.count, .int .i64 l.bytes] el.1 (0, 0))], []]) _ _ (upd _ 64 (.int .i64 z60.2))
        refine WR.nil ?_
        refine WH.next (bk_ hl63 h055 (.cons _ (.cons _ (.cons_cons _ .slnil)))) ?_
        refine hu 18 rfl (bk_ hl63 h055 (.cons _ (.cons _ (.cons_cons _ .slnil)))) (q_assign (v := .int .i64 z60.2) rfl (by kernel_rfl)) ?_
        refine WH.done (by kernel_rfl) ?_
        intro w hw
        have hw := hw.fold (is := [1]) rfl hrow_56
        exact ⟨z1.1, z60.2, z60.1, Γ62, A7, c8, row66, h, (sl_ (by kernel_rfl)), (hw.only (is := [0, 0]) rfl), (hl51.trans hl63), hc54, (hs53.mono hl63), hr68, hr67, trivial⟩
       ·
        refine ⟨_, rfl, ?_⟩
        refine vc rfl rfl rfl (q_call (call_run Tryz.call82 rfl rfl (by kernel_rfl)) (fun w hw => t_seglog_place_file (Γ := Gh.all w) (gp__0 := el.2) l.place_name ho0_56 l.place_gen ho1_56 l.place_gen ho1_56 part_15 hr16 (Sat.all w) hz58)) ?_
        refine WR.nil ?_
        refine WH.next (bk_ (Gh.refl _) h055 (.cons _ (.cons_cons _ (.cons _ .slnil)))) ?_
        refine WH.lone (i := 4) (by kernel_rfl) rfl ?_
        refine vb (q_ldl (i := 0) (v := .pointer (some ⟨el.2, 0, none⟩)) rfl rfl Tryz.isAgg27 rfl rfl) ?_
        refine WR.nil ?_
        refine WH.next (bk_ (Gh.refl _) h055 (.cons _ (.cons_cons _ (.cons _ .slnil)))) ?_
        refine WH.lone (i := 17) (by kernel_rfl) rfl ?_
        obtain ⟨hk59, h⟩ := chk_some h
        obtain ⟨z60, hz61, h⟩ := bnd h
        refine e_call (is := [2]) rfl rfl (call_run Tryz.call21 rfl rfl (by kernel_rfl)) rfl (fun w hp => t_disk_Disk_Append (hdk0.mono (hl4.trans hl51)) z57 (of_decide_eq_true hk59) hs53 hc54 hp hz61) ?_
        rintro Γ62 U64 v65 hl63 ⟨row66, rfl, rfl, hr67, hr68, _⟩
        change WR _ _ _ (CC F Γ62 [row66, [(gl, .cells #[.pointer (some ⟨el.2, 0, none⟩), .string l.place_name, .int .i64 l.place_gen, .int .i64 l.size, .int .i64 l.last, .int .i64 l.tail, .int .i64 l.count, .int .i64 l.bytes] el.1 (0, 0))], []]) _ _ (upd _ 64 (.int .i64 z60.2))
        refine WR.nil ?_
        refine WH.next (bk_ hl63 h055 (.cons _ (.cons _ (.cons_cons _ .slnil)))) ?_
        refine hu 18 rfl (bk_ hl63 h055 (.cons _ (.cons _ (.cons_cons _ .slnil)))) (q_assign (v := .int .i64 z60.2) rfl (by kernel_rfl)) ?_
        refine WH.done (by kernel_rfl) ?_
        intro w hw
        have hw := hw.fold (is := [1]) rfl hrow_56
        exact ⟨z1.1, z60.2, z60.1, Γ62, A7, c8, row66, h, (sl_ (by kernel_rfl)), (hw.only (is := [0, 0]) rfl), (hl51.trans hl63), hc54, (hs53.mono hl63), hr68, hr67, trivial⟩
    ·
     rintro σ w ⟨f_40, e_45, o47, Γ38, A41, c42, row48, h, hsl, hw, hl39, hc44, hs43, hr46, ho49, -⟩
     refine Wpt.slots hsl ?_
     refine WC.here (C := CC F Γ38 [rowl, row48]) ?_ hw
     clear hw hsl
     refine WC.rs ?_
     refine mv (v := .int .i64 e_45) ?_
     refine vb (q_neq rfl rfl rfl) ?_
     refine WR.done ?_
     refine WC.cif h (by kernel_rfl) (fun hb70 h => ?_) (fun hb70 h => ?_)
     ·
      refine WC.rs ?_
      refine mv (v := .int .i64 e_45) ?_
      refine as_ (v := .int .i64 e_45) ?_
      refine WR.done ?_
      refine WC.ret ?_
      intro w hw
      obtain rfl := Option.some.inj h
      subst hF
      exact end_e (is := [0, 0]) (by kernel_rfl) hw rfl ⟨rowl, row48, rfl, rfl, (hl.mono (hl4.trans hl39)), ho49, hr46, trivial⟩
     ·
      refine WC.skip ?_
      change WC _ _ _ _ _ _
      refine WC.rs ?_
      refine mv (v := (pq gl)) ?_
      refine mv (v := (pq gl)) ?_
      refine mv (v := .int .i64 part_15) ?_
      refine mv (v := .int .i64 tail_17) ?_
      refine mv (v := .slice A41 f_40.length c42) ?_
      refine vb (q_len_slice rfl Tryz.underlying51 rfl) ?_
      refine vb (q_add rfl rfl rfl) ?_
      refine vb (q_nil (A := some ⟨gl, 0, none⟩) rfl rfl rfl) ?_
      refine vb (q_fl 4 fld_146_2 rfl rfl rfl) ?_
      have hq := (hl.mono (hl4.trans hl39))
      obtain ⟨hrow_71, ho0_71, ho1_71, ho2_71, ho3_71, ho4_71, ho5_71, ho6_71, -⟩ := hq
      intro w hw; have hw := hw.unfold (i := 0) rfl hrow_71
      refine WR.here (C := CC F Γ38 [[(gl, .cells #[.pointer (some ⟨el.2, 0, none⟩), .string l.place_name, .int .i64 l.place_gen, .int .i64 l.size, .int .i64 l.last, .int .i64 l.tail, .int .i64 l.count, .int .i64 l.bytes] el.1 (0, 0))], row48]) ?_ hw
      clear hw
      refine e_st (i := 0) (v := .int .i64 part_15) (new := #[.pointer (some ⟨el.2, 0, none⟩), .string l.place_name, .int .i64 l.place_gen, .int .i64 l.size, .int .i64 part_15, .int .i64 l.tail, .int .i64 l.count, .int .i64 l.bytes]) rfl Tryz.sizeOf2 rfl rfl rfl rfl (by kernel_rfl) rfl rfl rfl rfl ?_
      refine vb (q_nil (A := some ⟨gl, 0, none⟩) rfl rfl rfl) ?_
      refine vb (q_fl 5 fld_146_3 rfl rfl rfl) ?_
      refine e_st (i := 0) (v := .int .i64 (w64 (tail_17 + ((f_40.length : Nat) : Int)))) (new := #[.pointer (some ⟨el.2, 0, none⟩), .string l.place_name, .int .i64 l.place_gen, .int .i64 l.size, .int .i64 part_15, .int .i64 (w64 (tail_17 + ((f_40.length : Nat) : Int))), .int .i64 l.count, .int .i64 l.bytes]) rfl Tryz.sizeOf3 rfl rfl rfl rfl (by kernel_rfl) rfl rfl rfl rfl ?_
      refine WR.done ?_
      refine WC.rs ?_
      refine mv (v := (pq gl)) ?_
      refine vb (q_nil (A := some ⟨gl, 0, none⟩) rfl rfl rfl) ?_
      refine vb (q_fl 6 fld_146_4 rfl rfl rfl) ?_
      refine vb (q_ldl (i := 0) (v := .int .i64 l.count) rfl rfl Tryz.isAgg3 rfl rfl) ?_
      refine vb (q_add rfl rfl rfl) ?_
      refine vb (q_nil (A := some ⟨gl, 0, none⟩) rfl rfl rfl) ?_
      refine vb (q_fl 6 fld_146_4 rfl rfl rfl) ?_
      refine e_st (i := 0) (v := .int .i64 (w64 (l.count + 1))) (new := #[.pointer (some ⟨el.2, 0, none⟩), .string l.place_name, .int .i64 l.place_gen, .int .i64 l.size, .int .i64 part_15, .int .i64 (w64 (tail_17 + ((f_40.length : Nat) : Int))), .int .i64 (w64 (l.count + 1)), .int .i64 l.bytes]) rfl Tryz.sizeOf3 rfl rfl rfl rfl (by kernel_rfl) rfl rfl rfl rfl ?_
      refine WR.done ?_
      refine WC.rs ?_
      refine mv (v := (pq gl)) ?_
      refine vb (q_nil (A := some ⟨gl, 0, none⟩) rfl rfl rfl) ?_
      refine vb (q_fl 7 fld_146_5 rfl rfl rfl) ?_
      refine vb (q_ldl (i := 0) (v := .int .i64 l.bytes) rfl rfl Tryz.isAgg3 rfl rfl) ?_
      refine mv (v := .slice A41 f_40.length c42) ?_
      refine vb (q_len_slice rfl Tryz.underlying51 rfl) ?_
      refine vb (q_add rfl rfl rfl) ?_
      refine vb (q_nil (A := some ⟨gl, 0, none⟩) rfl rfl rfl) ?_
      refine vb (q_fl 7 fld_146_5 rfl rfl rfl) ?_
      refine e_st (i := 0) (v := .int .i64 (w64 (l.bytes + ((f_40.length : Nat) : Int)))) (new := #[.pointer (some ⟨el.2, 0, none⟩), .string l.place_name, .int .i64 l.place_gen, .int .i64 l.size, .int .i64 part_15, .int .i64 (w64 (tail_17 + ((f_40.length : Nat) : Int))), .int .i64 (w64 (l.count + 1)), .int .i64 (w64 (l.bytes + ((f_40.length : Nat) : Int)))]) rfl Tryz.sizeOf3 rfl rfl rfl rfl (by kernel_rfl) rfl rfl rfl rfl ?_
      refine WR.done ?_
      refine WC.rs ?_
      refine as_ (v := .int .i64 0) ?_
      refine WR.done ?_
      refine WC.ret ?_
      intro w hw
      obtain ⟨row_72, hrow_72, hob_72⟩ : ∃ rw : Rowb, rw = ([[(gl, .cells #[.pointer (some ⟨el.2, 0, none⟩), .string l.place_name, .int .i64 l.place_gen, .int .i64 l.size, .int .i64 part_15, .int .i64 (w64 (tail_17 + ((f_40.length : Nat) : Int))), .int .i64 (w64 (l.count + 1)), .int .i64 (w64 (l.bytes + ((f_40.length : Nat) : Int)))] el.1 (0, 0))]] : List Rowb).flatten ∧ Oseglog_Log.ob el Γ38 gl rw (⟨l.place_name, l.place_gen, l.size, part_15, (w64 (tail_17 + ((f_40.length : Nat) : Int))), (w64 (l.count + 1)), (w64 (l.bytes + ((f_40.length : Nat) : Int)))⟩ : Oseglog_Log) := ⟨_, rfl, rfl, ho0_71, ho1_71, ho2_71, hr16, (w64_r _), (w64_r _), (w64_r _), trivial⟩
      have hw := hw.fold (is := [0]) rfl hrow_72
      obtain rfl := Option.some.inj h
      subst hF
      exact end_e (is := [0, 0]) (by kernel_rfl) hw rfl ⟨row_72, row48, rfl, rfl, hob_72, ho49, (show I64 0 by decide), trivial⟩
abbrev r_seglog_Log_Sync (gl : Nat) (el : Nat × Nat) (rowl : Rowb) (edk0 : Nat) (r : Odisk_Disk) (U : List Rowb) (Γ : Gh) (v : Value) : Prop := ∃ (rowdk0' : Rowb), v = .tuple #[] ∧ U = [rowl, rowdk0'] ∧ Odisk_Disk.ob edk0 Γ el.2 rowdk0' r ∧ True
theorem t_seglog_Log_Sync {Γ : Gh} {w0 : World} {gl : Nat} {el : Nat × Nat} {rowl : Rowb} {l : Oseglog_Log} (hl : Oseglog_Log.ob el Γ gl rowl l) {edk0 : Nat} {rowdk0 : Rowb} {dk0 : Odisk_Disk} (hdk0 : Odisk_Disk.ob edk0 Γ el.2 rowdk0 dk0) (hp : Pre [rowl, rowdk0] Γ w0) {r : Odisk_Disk} (h : m_seglog_Log_Sync l dk0 = some r) : Calls Tryz.prog 38 #[(pq gl)] w0 (Outc Γ [rowl, rowdk0] w0 (r_seglog_Log_Sync gl el rowl edk0 r)) := by
 refine calls_of (N := 8) (rs := []) (args := [(pq gl)]) Tryz.func38 rfl Tryz.ntmps38 Tryz.results38 rfl ?_
 obtain ⟨F, hF⟩ : ∃ F : Fm, F = ⟨ids [rowl, rowdk0], w0, Γ⟩ := ⟨_, rfl⟩
 refine WC.here (C := CC F Γ [rowl, rowdk0]) ?_ (hF ▸ hp.start)
 refine WC.region ?_
 refine mv (v := (pq gl)) ?_
 refine vb (q_nil (A := some ⟨gl, 0, none⟩) rfl rfl rfl) ?_
 refine vb (q_fl 0 fld_146_0 rfl rfl rfl) ?_
 refine vb (q_fl 0 fld_138_0 rfl rfl rfl) ?_
 have hq := hl
 obtain ⟨hrow_1, ho0_1, ho1_1, ho2_1, ho3_1, ho4_1, ho5_1, ho6_1, -⟩ := hq
 intro w hw; have hw := hw.unfold (i := 0) rfl hrow_1
 refine WR.here (C := CC F Γ [[(gl, .cells #[.pointer (some ⟨el.2, 0, none⟩), .string l.place_name, .int .i64 l.place_gen, .int .i64 l.size, .int .i64 l.last, .int .i64 l.tail, .int .i64 l.count, .int .i64 l.bytes] el.1 (0, 0))], rowdk0]) ?_ hw
 clear hw
 refine vb (q_ldl (i := 0) (v := .pointer (some ⟨el.2, 0, none⟩)) rfl rfl Tryz.isAgg27 rfl rfl) ?_
 obtain ⟨z2, hz3, h⟩ := bnd h
 refine e_call (is := [1]) rfl rfl (call_run Tryz.call76 rfl rfl (by kernel_rfl)) rfl (fun w hp => t_disk_Disk_Sync hdk0 hp hz3) ?_
 rintro Γ4 U6 v7 hl5 ⟨row8, rfl, rfl, hr9, _⟩
 change WR _ _ _ (CC F Γ4 [row8, [(gl, .cells #[.pointer (some ⟨el.2, 0, none⟩), .string l.place_name, .int .i64 l.place_gen, .int .i64 l.size, .int .i64 l.last, .int .i64 l.tail, .int .i64 l.count, .int .i64 l.bytes] el.1 (0, 0))]]) _ _ (upd _ 7 (.tuple #[]))
 refine WR.nil ?_
 intro w hw
 have hw := hw.fold (is := [1]) rfl hrow_1
 obtain rfl := Option.some.inj h
 subst hF
 exact end_e (is := [0, 0]) (by kernel_rfl) hw rfl ⟨row8, rfl, rfl, hr9, trivial⟩
abbrev r_store_Store_lay_l1 (gs_ : Nat) (es_ : Nat × Nat) (r : Ostore_Store) (U : List Rowb) (Γ : Gh) (v : Value) : Prop := ∃ (rows_' : Rowb), v = .tuple #[] ∧ U = [rows_'] ∧ Ostore_Store.ob es_ Γ gs_ rows_' r ∧ True
theorem t_store_Store_lay_l1 {Γ : Gh} {w0 : World} {B : Gh} {gs_ : Nat} {es_ : Nat × Nat} {rows_ : Rowb} {s_ : Ostore_Store} (hs_ : Ostore_Store.ob es_ Γ gs_ rows_ s_) {Ar_1 : Option Addr} {cr_1 : Nat} (r_ : Rec) (hr_ : Rec.fits B Ar_1 cr_1 r_) {Ab : Option Addr} {cb : Nat} {b : List UInt8} (hb : Sl byteT Γ Ab b) (hbc : b.length ≤ cb) (hp : Pre [rows_] Γ w0) (hpB : Pre [rows_] B w0) {r : Ostore_Store} (h : m_store_Store_lay s_ r_ b = some r) : Calls Tryz.prog 35 #[(pq gs_), .agg #[.string r_.key, .slice Ar_1 r_.vers.length cr_1], .slice Ab b.length cb] w0 (Outc Γ [rows_] w0 (r_store_Store_lay_l1 gs_ es_ r)) := by
 refine calls_of (N := 23) (rs := []) (args := [(pq gs_), .agg #[.string r_.key, .slice Ar_1 r_.vers.length cr_1], .slice Ab b.length cb]) Tryz.func35 rfl Tryz.ntmps35 Tryz.results35 rfl ?_
 obtain ⟨F, hF⟩ : ∃ F : Fm, F = ⟨ids [rows_], w0, Γ⟩ := ⟨_, rfl⟩
 refine WC.here (C := CC F Γ [rows_]) ?_ (hF ▸ hp.start)
 have hB : Lent F B := hF ▸ Lent.start hpB
 refine WC.rs ?_
 refine e_box (v := .agg #[.string r_.key, .slice Ar_1 r_.vers.length cr_1]) rfl rfl rfl rfl (by kernel_rfl) ?_
 intro g1
 refine WR.done ?_
 refine WC.seq ?_
 intro w hw; have h02 := hw.le
 refine WC.here (C := CC F Γ [[(g1, .cells #[.string r_.key, .slice Ar_1 r_.vers.length cr_1] 24 (0, 0))], rows_]) ?_ hw; clear hw
 refine WC.held (CC F Γ [[(g1, .cells #[.string r_.key, .slice Ar_1 r_.vers.length cr_1] 24 (0, 0))]]) (by kernel_rfl) (fun w hw => hw.drawn _) ?_
 change WH _ _ _ _ (CC F Γ [[(g1, .cells #[.string r_.key, .slice Ar_1 r_.vers.length cr_1] 24 (0, 0))], rows_]) _ 7 #[false, false, false, false, false, false, false] _
 refine hu 0 rfl (bk_ (Gh.refl _) h02 (.cons_cons _ (.cons _ .slnil))) (q_move (v := (pq gs_)) rfl (by kernel_rfl)) ?_
 refine hu 1 rfl (bk_ (Gh.refl _) h02 (.cons_cons _ (.cons _ .slnil))) (q_nil (A := some ⟨gs_, 0, none⟩) rfl rfl rfl) ?_
 refine hu 2 rfl (bk_ (Gh.refl _) h02 (.cons_cons _ (.cons _ .slnil))) (q_fl 1 fld_86_1 rfl rfl rfl) ?_
 refine hu 4 rfl (bk_ (Gh.refl _) h02 (.cons_cons _ (.cons _ .slnil))) (q_fl 0 fld_24_0 rfl rfl rfl) ?_
 refine hu 5 rfl (bk_ (Gh.refl _) h02 (.cons_cons _ (.cons _ .slnil))) (q_ldl (i := 0) (v := .string r_.key) rfl rfl Tryz.isAgg9 rfl rfl) ?_
 refine WH.lone (i := 3) (by kernel_rfl) rfl ?_
 have hq := hs_
 obtain ⟨g0_3, r0_3, m1_3, r1_3, hrow_3, ho0_3, ho1_3, -⟩ := hq
 intro w hw; have hw := hw.unfold (i := 1) rfl hrow_3
 refine WR.here (C := CC F Γ [[(gs_, .cells #[(pq g0_3), .map (some m1_3)] es_.1 (0, 0))], r0_3, r1_3, [(g1, .cells #[.string r_.key, .slice Ar_1 r_.vers.length cr_1] 24 (0, 0))]]) ?_ hw
 clear hw
 refine vb (q_ldl (i := 0) (v := .map (some m1_3)) rfl rfl Tryz.isAgg76 rfl rfl) ?_
 refine WR.nil ?_
 refine WH.next (bk_ (Gh.refl _) h02 (.cons _ (.cons _ (.cons _ (.cons_cons _ .slnil))))) ?_
 refine WH.lone (i := 6) (by kernel_rfl) rfl ?_
 refine e_delete (i := 2) (x := r_.key) rfl ho1_3 rfl rfl rfl Tryz.underlying76 rfl rfl ?_
 intro row4 hm5
 refine WR.nil ?_
 refine WH.next (bk_ (Gh.refl _) h02 (.cons _ (.cons _ (.cons _ (.cons_cons _ .slnil))))) ?_
 refine WH.done (by kernel_rfl) ?_
 change WC _ _ _ _ _ _
 refine WC.rs ?_
 refine vb (q_fl 1 fld_24_1 rfl rfl rfl) ?_
 refine vb (q_ldl (i := 3) (v := .slice Ar_1 r_.vers.length cr_1) rfl rfl Tryz.isAgg22 rfl rfl) ?_
 refine vb (q_len_slice rfl Tryz.underlying22 rfl) ?_
 refine vb (q_gtr rfl rfl rfl) ?_
 refine WR.done ?_
 refine WC.cif h (by kernel_rfl) (fun hb6 h => ?_) (fun hb6 h => ?_)
 ·
  intro w hw; have h07 := hw.le
  refine WC.here (C := CC F Γ [[(gs_, .cells #[(pq g0_3), .map (some m1_3)] es_.1 (0, 0))], r0_3, row4, [(g1, .cells #[.string r_.key, .slice Ar_1 r_.vers.length cr_1] 24 (0, 0))]]) ?_ hw; clear hw
  refine WC.held (CC F Γ [[(gs_, .cells #[(pq g0_3), .map (some m1_3)] es_.1 (0, 0))], [(g1, .cells #[.string r_.key, .slice Ar_1 r_.vers.length cr_1] 24 (0, 0))]]) (by kernel_rfl) (fun w hw => hw.drawn _) ?_
  change WH _ _ _ _ (CC F Γ [[(gs_, .cells #[(pq g0_3), .map (some m1_3)] es_.1 (0, 0))], r0_3, row4, [(g1, .cells #[.string r_.key, .slice Ar_1 r_.vers.length cr_1] 24 (0, 0))]]) _ 8 #[false, false, false, false, false, false, false, false] _
  refine hu 0 rfl (bk_ (Gh.refl _) h07 (.cons_cons _ (.cons _ (.cons _ (.cons_cons _ .slnil))))) (q_move (v := (pq gs_)) rfl (by kernel_rfl)) ?_
  refine hu 1 rfl (bk_ (Gh.refl _) h07 (.cons_cons _ (.cons _ (.cons _ (.cons_cons _ .slnil))))) (q_nil (A := some ⟨gs_, 0, none⟩) rfl rfl rfl) ?_
  refine hu 2 rfl (bk_ (Gh.refl _) h07 (.cons_cons _ (.cons _ (.cons _ (.cons_cons _ .slnil))))) (q_fl 1 fld_86_1 rfl rfl rfl) ?_
  refine hu 3 rfl (bk_ (Gh.refl _) h07 (.cons_cons _ (.cons _ (.cons _ (.cons_cons _ .slnil))))) (q_ldl (i := 0) (v := .map (some m1_3)) rfl rfl Tryz.isAgg76 rfl rfl) ?_
  refine hu 4 rfl (bk_ (Gh.refl _) h07 (.cons_cons _ (.cons _ (.cons _ (.cons_cons _ .slnil))))) (q_fl 0 fld_24_0 rfl rfl rfl) ?_
  refine hu 5 rfl (bk_ (Gh.refl _) h07 (.cons_cons _ (.cons _ (.cons _ (.cons_cons _ .slnil))))) (q_ldl (i := 1) (v := .string r_.key) rfl rfl Tryz.isAgg9 rfl rfl) ?_
  refine hu 6 rfl (bk_ (Gh.refl _) h07 (.cons_cons _ (.cons _ (.cons _ (.cons_cons _ .slnil))))) (q_move (v := .slice Ab b.length cb) rfl (by kernel_rfl)) ?_
  refine WH.lone (i := 7) (by kernel_rfl) rfl ?_
  refine e_mapUpdate (i := 2) (x := r_.key) (v := .slice Ab b.length cb) (a := b) rfl rfl rfl Tryz.underlying76 rfl rfl (by kernel_rfl) rfl hm5 (by exact ⟨Ab, cb, rfl, hbc, hb⟩) hr_.1 ?_
  intro row8 hm9
  refine WR.nil ?_
  refine WH.next (bk_ (Gh.refl _) h07 (.cons_cons _ (.cons _ (.cons _ (.cons_cons _ .slnil))))) ?_
  refine WH.done (by kernel_rfl) ?_
  intro w hw
  obtain ⟨row_10, hrow_10, hob_10⟩ : ∃ rw : Rowb, rw = ([[(gs_, .cells #[(pq g0_3), .map (some m1_3)] es_.1 (0, 0))], r0_3, row8] : List Rowb).flatten ∧ Ostore_Store.ob es_ Γ gs_ rw (⟨s_.log, (mput r_.key b (mdel r_.key s_.keys))⟩ : Ostore_Store) := ⟨_, rfl, g0_3, r0_3, m1_3, row8, rfl, ho0_3, hm9, trivial⟩
  have hw := hw.fold (is := [0, 0, 0]) rfl hrow_10
  obtain rfl := Option.some.inj h
  subst hF
  exact end_e (is := [0]) (by kernel_rfl) hw rfl ⟨row_10, rfl, rfl, hob_10, trivial⟩
 ·
  refine WC.skip ?_
  intro w hw
  obtain ⟨row_11, hrow_11, hob_11⟩ : ∃ rw : Rowb, rw = ([[(gs_, .cells #[(pq g0_3), .map (some m1_3)] es_.1 (0, 0))], r0_3, row4] : List Rowb).flatten ∧ Ostore_Store.ob es_ Γ gs_ rw (⟨s_.log, (mdel r_.key s_.keys)⟩ : Ostore_Store) := ⟨_, rfl, g0_3, r0_3, m1_3, row4, rfl, ho0_3, hm5, trivial⟩
  have hw := hw.fold (is := [0, 0, 0]) rfl hrow_11
  obtain rfl := Option.some.inj h
  subst hF
  exact end_e (is := [0]) (by kernel_rfl) hw rfl ⟨row_11, rfl, rfl, hob_11, trivial⟩
abbrev r_store_Store_Put_l0 (gs_ : Nat) (es_ : Nat × Nat) (edk0 : Nat) (r : Ostore_Store × Odisk_Disk × Int) (U : List Rowb) (Γ : Gh) (v : Value) : Prop := ∃ (rows_' : Rowb), ∃ (rowdk0' : Rowb), v = .int .i64 r.2.2 ∧ U = [rows_', rowdk0'] ∧ Ostore_Store.ob es_ Γ gs_ rows_' r.1 ∧ Odisk_Disk.ob edk0 Γ es_.2 rowdk0' r.2.1 ∧ I64 r.2.2 ∧ True
theorem t_store_Store_Put_l0 {Γ : Gh} {w0 : World} {B : Gh} {gs_ : Nat} {es_ : Nat × Nat} {rows_ : Rowb} {s_ : Ostore_Store} (hs_ : Ostore_Store.ob es_ Γ gs_ rows_ s_) {Ar_1 : Option Addr} {cr_1 : Nat} (r_ : Rec) (hr_ : Rec.fits B Ar_1 cr_1 r_) {edk0 : Nat} {rowdk0 : Rowb} {dk0 : Odisk_Disk} (hdk0 : Odisk_Disk.ob edk0 Γ es_.2 rowdk0 dk0) (hp : Pre [rows_, rowdk0] Γ w0) (hpB : Pre [rows_, rowdk0] B w0) {r : Ostore_Store × Odisk_Disk × Int} (h : m_store_Store_Put s_ r_ dk0 = some r) : Calls Tryz.prog 11 #[(pq gs_), .agg #[.string r_.key, .slice Ar_1 r_.vers.length cr_1]] w0 (Outc Γ [rows_, rowdk0] w0 (r_store_Store_Put_l0 gs_ es_ edk0 r)) := by
 refine calls_of (N := 32) (rs := [4]) (args := [(pq gs_), .agg #[.string r_.key, .slice Ar_1 r_.vers.length cr_1]]) Tryz.func11 rfl Tryz.ntmps11 Tryz.results11 rfl ?_
 obtain ⟨F, hF⟩ : ∃ F : Fm, F = ⟨ids [rows_, rowdk0], w0, Γ⟩ := ⟨_, rfl⟩
 refine WC.here (C := CC F Γ [rows_, rowdk0]) ?_ (hF ▸ hp.start)
 have hB : Lent F B := hF ▸ Lent.start hpB
 refine WC.rs ?_
 refine e_box (v := .agg #[.string r_.key, .slice Ar_1 r_.vers.length cr_1]) rfl rfl rfl rfl (by kernel_rfl) ?_
 intro g1
 refine as_ (v := .int .i64 0) ?_
 refine WR.done ?_
 refine WC.rs ?_
 refine vb (q_ldla (i := 0) (vs := [.string r_.key, .slice Ar_1 r_.vers.length cr_1]) rfl rfl Tryz.isAgg24 Tryz.sizeOf24 rfl rfl) ?_
 obtain ⟨z2, hz3, h⟩ := bnd h
 refine e_callB (is := []) hB rfl rfl (call_run Tryz.call36 rfl rfl (by kernel_rfl)) rfl (fun w Θ hp hpB hle hleB hR => t_code_PutRec_l1 r_ (Rec.fits_mono hr_ hleB) hp hpB hz3) ?_
 rintro Γ4 U6 v7 hl5 ⟨A8, c9, row10, rfl, rfl, hr11, hr12, _⟩
 change WR _ _ _ (CC F Γ4 [row10, [(g1, .cells #[.string r_.key, .slice Ar_1 r_.vers.length cr_1] 24 (0, 0))], rows_, rowdk0]) _ _ (upd _ 9 (.tuple #[.slice A8 z2.1.length c9, .int .i64 z2.2]))
 refine mv (v := .tuple #[.slice A8 z2.1.length c9, .int .i64 z2.2]) ?_
 refine vb (q_extract (v := .slice A8 z2.1.length c9) rfl rfl rfl) ?_
 refine vb (q_extract (v := .int .i64 z2.2) rfl rfl rfl) ?_
 refine as_ (v := .slice A8 z2.1.length c9) ?_
 refine as_ (v := .int .i64 z2.2) ?_
 refine WR.done ?_
 refine WC.cut (fun σ w => ∃ (b_15 : List UInt8), ∃ (e_20 : Int), ∃ (o22 : Ostore_Store), ∃ (o25 : Odisk_Disk), ∃ (Γ13 : Gh), ∃ (A16 : Option Addr), ∃ (c17 : Nat), ∃ (row23 : Rowb), ∃ (row26 : Rowb), m_store_Store_Put_j1 r_ b_15 e_20 o22 o25 = some r ∧ slots σ [(0, (pq gs_)), (3, (pq g1)), (5, .slice A16 b_15.length c17), (6, .int .i64 e_20)] ∧ CC F Γ13 [[(g1, .cells #[.string r_.key, .slice Ar_1 r_.vers.length cr_1] 24 (0, 0))], row23, row26] w ∧ Gh.le Γ4 Γ13 ∧ b_15.length ≤ c17 ∧ Sl byteT Γ13 A16 b_15 ∧ I64 e_20 ∧ Ostore_Store.ob es_ Γ13 gs_ row23 o22 ∧ Odisk_Disk.ob edk0 Γ13 es_.2 row26 o25 ∧ True) ?_ ?_
 ·
  refine WC.rs ?_
  refine mv (v := .int .i64 z2.2) ?_
  refine vb (q_eql rfl rfl rfl) ?_
  refine WR.done ?_
  refine WC.cif h (by kernel_rfl) (fun hb28 h => ?_) (fun hb28 h => ?_)
  ·
   refine WC.region ?_
   refine mv (v := (pq gs_)) ?_
   refine vb (q_nil (A := some ⟨gs_, 0, none⟩) rfl rfl rfl) ?_
   refine vb (q_fl 0 fld_86_0 rfl rfl rfl) ?_
   have hq := (hs_.mono hl5)
   obtain ⟨g0_29, r0_29, m1_29, r1_29, hrow_29, ho0_29, ho1_29, -⟩ := hq
   intro w hw; have hw := hw.unfold (i := 2) rfl hrow_29
   refine WR.here (C := CC F Γ4 [[(gs_, .cells #[(pq g0_29), .map (some m1_29)] es_.1 (0, 0))], r0_29, r1_29, row10, [(g1, .cells #[.string r_.key, .slice Ar_1 r_.vers.length cr_1] 24 (0, 0))], rowdk0]) ?_ hw
   clear hw
   refine vb (q_ldl (i := 0) (v := (pq g0_29)) rfl rfl Tryz.isAgg81 rfl rfl) ?_
   refine mv (v := .slice A8 z2.1.length c9) ?_
   have hc34 := hr11.capz
   intro w hw; obtain ⟨Γ30, hw, hl31, hr32⟩ := hw.seal (i := 3) rfl; have hs33 := hr11.sl hl31 hr32
   refine WR.here (C := CC F Γ30 [[(gs_, .cells #[(pq g0_29), .map (some m1_29)] es_.1 (0, 0))], r0_29, r1_29, [], [(g1, .cells #[.string r_.key, .slice Ar_1 r_.vers.length cr_1] 24 (0, 0))], rowdk0]) ?_ hw
   clear hw
   obtain ⟨z35, hz36, h⟩ := bnd h
   refine e_call (is := [1, 4]) rfl rfl (call_run Tryz.call37 rfl rfl (by kernel_rfl)) rfl (fun w hp => t_seglog_Log_Append (ho0_29.mono hl31) hs33 hc34 (hdk0.mono (hl5.trans hl31)) hp hz36) ?_
   rintro Γ37 U39 v40 hl38 ⟨row41, row43, rfl, rfl, hr42, hr44, hr45, _⟩
   change WR _ _ _ (CC F Γ37 [row41, row43, [(gs_, .cells #[(pq g0_29), .map (some m1_29)] es_.1 (0, 0))], r1_29, [], [(g1, .cells #[.string r_.key, .slice Ar_1 r_.vers.length cr_1] 24 (0, 0))]]) _ _ (upd _ 19 (.int .i64 z35.2.2))
   refine as_ (v := .int .i64 z35.2.2) ?_
   refine WR.nil ?_
   intro w hw
   obtain ⟨row_46, hrow_46, hob_46⟩ : ∃ rw : Rowb, rw = ([[(gs_, .cells #[(pq g0_29), .map (some m1_29)] es_.1 (0, 0))], row41, r1_29] : List Rowb).flatten ∧ Ostore_Store.ob es_ Γ37 gs_ rw (⟨z35.1, s_.keys⟩ : Ostore_Store) := ⟨_, rfl, g0_29, row41, m1_29, r1_29, rfl, hr42, (ho1_29.mono (hl31.trans hl38)), trivial⟩
   have hw := hw.fold (is := [2, 0, 1]) rfl hrow_46
   exact ⟨z2.1, z35.2.2, (⟨z35.1, s_.keys⟩ : Ostore_Store), z35.2.1, Γ37, A8, c9, row_46, row43, h, (sl_ (by kernel_rfl)), (hw.only (is := [3, 0, 0]) rfl), (hl31.trans hl38), hc34, (hs33.mono hl38), hr45, hob_46, hr44, trivial⟩
  ·
   refine WC.skip ?_
   intro w hw
   have hc51 := hr11.capz
   obtain ⟨Γ47, hw, hl48, hr49⟩ := hw.seal (i := 0) rfl; have hs50 := hr11.sl hl48 hr49
   exact ⟨z2.1, z2.2, s_, dk0, Γ47, A8, c9, rows_, rowdk0, h, (sl_ (by kernel_rfl)), (hw.only (is := [1, 1, 1]) rfl), hl48, hc51, hs50, hr12, (hs_.mono (hl5.trans hl48)), (hdk0.mono (hl5.trans hl48)), trivial⟩
 ·
  rintro σ w ⟨b_15, e_20, o22, o25, Γ13, A16, c17, row23, row26, h, hsl, hw, hl14, hc19, hs18, hr21, ho24, ho27, -⟩
  refine Wpt.slots hsl ?_
  refine WC.here (C := CC F Γ13 [[(g1, .cells #[.string r_.key, .slice Ar_1 r_.vers.length cr_1] 24 (0, 0))], row23, row26]) ?_ hw
  clear hw hsl
  refine WC.seq ?_
  refine WC.rs ?_
  refine mv (v := .int .i64 e_20) ?_
  refine vb (q_neq rfl rfl rfl) ?_
  refine WR.done ?_
  refine WC.cif h (by kernel_rfl) (fun hb52 h => ?_) (fun hb52 h => ?_)
  ·
   refine WC.rs ?_
   refine mv (v := .int .i64 e_20) ?_
   refine as_ (v := .int .i64 e_20) ?_
   refine WR.done ?_
   refine WC.ret ?_
   intro w hw
   obtain rfl := Option.some.inj h
   subst hF
   exact end_e (is := [1, 1]) (by kernel_rfl) hw rfl ⟨row23, row26, rfl, rfl, ho24, ho27, hr21, trivial⟩
  ·
   refine WC.skip ?_
   change WC _ _ _ _ _ _
   refine WC.rs ?_
   refine mv (v := (pq gs_)) ?_
   refine vb (q_nil (A := some ⟨gs_, 0, none⟩) rfl rfl rfl) ?_
   refine vb (q_fl 0 fld_86_0 rfl rfl rfl) ?_
   have hq := ho24
   obtain ⟨g0_53, r0_53, m1_53, r1_53, hrow_53, ho0_53, ho1_53, -⟩ := hq
   intro w hw; have hw := hw.unfold (i := 1) rfl hrow_53
   refine WR.here (C := CC F Γ13 [[(gs_, .cells #[(pq g0_53), .map (some m1_53)] es_.1 (0, 0))], r0_53, r1_53, [(g1, .cells #[.string r_.key, .slice Ar_1 r_.vers.length cr_1] 24 (0, 0))], row26]) ?_ hw
   clear hw
   refine vb (q_ldl (i := 0) (v := (pq g0_53)) rfl rfl Tryz.isAgg81 rfl rfl) ?_
   obtain ⟨z54, hz55, h⟩ := bnd h
   refine e_call (is := [1, 3]) rfl rfl (call_run Tryz.call38 rfl rfl (by kernel_rfl)) rfl (fun w hp => t_seglog_Log_Sync ho0_53 ho27 hp hz55) ?_
   rintro Γ56 U58 v59 hl57 ⟨row60, rfl, rfl, hr61, _⟩
   change WR _ _ _ (CC F Γ56 [r0_53, row60, [(gs_, .cells #[(pq g0_53), .map (some m1_53)] es_.1 (0, 0))], r1_53, [(g1, .cells #[.string r_.key, .slice Ar_1 r_.vers.length cr_1] 24 (0, 0))]]) _ _ (upd _ 27 (.tuple #[]))
   refine WR.done ?_
   refine WC.rs ?_
   refine mv (v := (pq gs_)) ?_
   refine vb (q_ldla (i := 4) (vs := [.string r_.key, .slice Ar_1 r_.vers.length cr_1]) rfl rfl Tryz.isAgg24 Tryz.sizeOf24 rfl rfl) ?_
   refine mv (v := .slice A16 b_15.length c17) ?_
   intro w hw; have hw := hw.fold (is := [2, 0, 1]) rfl hrow_53
   refine WR.here (C := CC F Γ56 [row23, row60, [(g1, .cells #[.string r_.key, .slice Ar_1 r_.vers.length cr_1] 24 (0, 0))]]) ?_ hw
   clear hw
   obtain ⟨z63, hz64, h⟩ := bnd h
   refine e_callB (is := [0]) hB rfl rfl (call_run Tryz.call35 rfl rfl (by kernel_rfl)) rfl (fun w Θ hp hpB hle hleB hR => t_store_Store_lay_l1 (ho24.mono hl57) r_ (Rec.fits_mono hr_ hleB) (hs18.mono hl57) hc19 hp hpB hz64) ?_
   rintro Γ65 U67 v68 hl66 ⟨row69, rfl, rfl, hr70, _⟩
   change WR _ _ _ (CC F Γ65 [row69, row60, [(g1, .cells #[.string r_.key, .slice Ar_1 r_.vers.length cr_1] 24 (0, 0))]]) _ _ (upd _ 31 (.tuple #[]))
   refine WR.done ?_
   refine WC.rs ?_
   refine as_ (v := .int .i64 0) ?_
   refine WR.done ?_
   refine WC.ret ?_
   intro w hw
   obtain rfl := Option.some.inj h
   subst hF
   exact end_e (is := [0, 0]) (by kernel_rfl) hw rfl ⟨row69, row60, rfl, rfl, hr70, (hr61.mono hl66), (show I64 0 by decide), trivial⟩
abbrev r_store_Store_Keys (gs_ : Nat) (es_ : Nat × Nat) (rows_ : Rowb) (r : List ByteArray) (U : List Rowb) (Γ : Gh) (v : Value) : Prop := ∃ (A0 : Option Addr), ∃ (c0 : Nat), ∃ (row0 : Rowb), v = .slice A0 r.length c0 ∧ U = [rows_, row0] ∧ Own strT Γ 9 row0 A0 c0 r ∧ True
theorem t_store_Store_Keys {Γ : Gh} {w0 : World} {gs_ : Nat} {es_ : Nat × Nat} {rows_ : Rowb} {s_ : Ostore_Store} (hs_ : Ostore_Store.ob es_ Γ gs_ rows_ s_) (hp : Pre [rows_] Γ w0) {r : List ByteArray} (h : m_store_Store_Keys s_ = some r) : Calls Tryz.prog 30 #[(pq gs_)] w0 (Outc Γ [rows_] w0 (r_store_Store_Keys gs_ es_ rows_ r)) := by
 refine calls_of (N := 9) (rs := [2]) (args := [(pq gs_)]) Tryz.func30 rfl Tryz.ntmps30 Tryz.results30 rfl ?_
 obtain ⟨F, hF⟩ : ∃ F : Fm, F = ⟨ids [rows_], w0, Γ⟩ := ⟨_, rfl⟩
 refine WC.here (C := CC F Γ [rows_]) ?_ (hF ▸ hp.start)
 refine WC.rs ?_
 refine as_ (v := .slice none 0 0) ?_
 refine WR.done ?_
 refine WC.rs ?_
 refine mv (v := (pq gs_)) ?_
 refine vb (q_nil (A := some ⟨gs_, 0, none⟩) rfl rfl rfl) ?_
 refine vb (q_fl 1 fld_86_1 rfl rfl rfl) ?_
 have hq := hs_
 obtain ⟨g0_1, r0_1, m1_1, r1_1, hrow_1, ho0_1, ho1_1, -⟩ := hq
 intro w hw; have hw := hw.unfold (i := 0) rfl hrow_1
 refine WR.here (C := CC F Γ [[(gs_, .cells #[(pq g0_1), .map (some m1_1)] es_.1 (0, 0))], r0_1, r1_1]) ?_ hw
 clear hw
 refine vb (q_ldl (i := 0) (v := .map (some m1_1)) rfl rfl Tryz.isAgg76 rfl rfl) ?_
 refine e_keys (ρ := keys62_ren) keys62 (mb := some m1_1) rfl rfl (call_run Tryz.call62 rfl rfl (by kernel_rfl)) ?_
 intro g2
 change WR _ _ _ (CC F Γ [[(g2, .cells #[.map (some m1_1)] 76 (0, 0))], [(gs_, .cells #[(pq g0_1), .map (some m1_1)] es_.1 (0, 0))], r0_1, r1_1]) _ _ (upd _ 7 (.func (.func 111) #[] #[(pq g2)]))
 obtain ⟨hk3, h⟩ := chk_some h
 refine e_call (is := [0, 2]) rfl rfl (call_run Tryz.call61 rfl rfl (by kernel_rfl)) rfl (fun w hp => sk61_62 ho1_1 (of_decide_eq_true hk3) hp) ?_
 rintro Γ4 U6 v7 hl5 ⟨A8, c9, row10, rfl, rfl, ho11⟩
 change WR _ _ _ (CC F Γ4 [[(g2, .cells #[.map (some m1_1)] 76 (0, 0))], r1_1, row10, [(gs_, .cells #[(pq g0_1), .map (some m1_1)] es_.1 (0, 0))], r0_1]) _ _ (upd _ 8 (.slice A8 (skeys s_.keys).length c9))
 refine as_ (v := .slice A8 (skeys s_.keys).length c9) ?_
 refine WR.done ?_
 refine WC.ret ?_
 intro w hw
 have hw := hw.fold (is := [3, 3, 1]) rfl hrow_1
 obtain rfl := Option.some.inj h
 subst hF
 exact end_e (is := [0, 1]) (by kernel_rfl) hw rfl ⟨A8, c9, row10, rfl, rfl, ho11, trivial⟩
abbrev r_store_Store_Get_l0 (r : List Ver) (U : List Rowb) (Γ : Gh) (v : Value) : Prop := ∃ (A0 : Option Addr), ∃ (c0 : Nat), v = .slice A0 r.length c0 ∧ U = [] ∧ r.length ≤ c0 ∧ Sl verT Γ A0 r ∧ True
theorem t_store_Store_Get_l0 {Γ : Gh} {w0 : World} {B : Gh} {gs_ : Nat} {es_ : Nat × Nat} {rows_ : Rowb} {s_ : Ostore_Store} (hs_ : Ostore_Store.ob es_ B gs_ rows_ s_) (hs_r : ∀ p ∈ rows_, B p.1 = some p.2) (key : ByteArray) (hkey : key.size ≤ lim) (hp : Pre [] Γ w0) (hpB : Pre [] B w0) {r : List Ver} (h : m_store_Store_Get s_ key = some r) : Calls Tryz.prog 12 #[(pq gs_), .string key] w0 (Outc Γ [] w0 (r_store_Store_Get_l0 r)) := by
 refine calls_of (N := 19) (rs := [4]) (args := [(pq gs_), .string key]) Tryz.func12 rfl Tryz.ntmps12 Tryz.results12 rfl ?_
 obtain ⟨F, hF⟩ : ∃ F : Fm, F = ⟨ids [], w0, Γ⟩ := ⟨_, rfl⟩
 refine WC.here (C := CC F Γ []) ?_ (hF ▸ hp.start)
 have hB : Lent F B := hF ▸ Lent.start hpB
 refine WC.rs ?_
 refine as_ (v := .slice none 0 0) ?_
 refine WR.done ?_
 refine WC.rs ?_
 refine mv (v := (pq gs_)) ?_
 refine vb (q_nil (A := some ⟨gs_, 0, none⟩) rfl rfl rfl) ?_
 refine vb (q_fl 1 fld_86_1 rfl rfl rfl) ?_
 have hq := hs_
 obtain ⟨g0_1, r0_1, m1_1, r1_1, hrow_1, ho0_1, ho1_1, -⟩ := hq
 have hg_2 : ∀ u ∈ ([[(gs_, .cells #[(pq g0_1), .map (some m1_1)] es_.1 (0, 0))], r0_1, r1_1] : List Rowb), ∀ p ∈ u, B p.1 = some p.2 := fun u hu p hp => (fun p hp => (hs_r p hp)) p (hrow_1 ▸ List.mem_flatten.2 ⟨u, hu, hp⟩)
 have hgc3 := hg_2 _ (List.mem_cons_self ..) (gs_, _) (List.mem_singleton.2 rfl)
 have hgs4 := hg_2 r0_1 (by simp)
 have hgs5 := hg_2 r1_1 (by simp)
 refine vb (q_via (fun w hw => hB.sat hw) fun F => (q_ldg (v := .map (some m1_1)) hgc3 rfl Tryz.isAgg76 rfl rfl)) ?_
 refine mv (v := .string key) ?_
 obtain ⟨v6, ⟨A9, c10, hv7, hc11, hs12⟩, hat8⟩ := MapO.look ho1_1 key (z := .slice none 0 0) (zx := []) ⟨none, 0, rfl, Nat.zero_le _, Sl.nil _ _ _⟩
 obtain rfl : v6 = _ := List.cons.inj hv7 |>.1
 refine vb (q_via (fun w hw => hB.sat hw) fun F => (q_lookup1g (v := .slice A9 ((mget key s_.keys).getD []).length c10) (fun p hp => (hgs5 p hp)) hat8 rfl Tryz.underlying76 Tryz.zeroValue51 rfl rfl)) ?_
 obtain ⟨z13, hz14, h⟩ := bnd h
 refine e_callB (is := []) hB rfl rfl (call_run Tryz.call34 rfl rfl (by kernel_rfl)) rfl (fun w Θ hp hpB hle hleB hR => t_code_Rec_l0 (hs12.mono hleB) hc11 hp hpB hz14) ?_
 rintro Γ15 U17 v18 hl16 ⟨A19, c20, rfl, rfl, hr21, hr22, _⟩
 change WR _ _ _ (CC F Γ15 []) _ _ (upd _ 14 (.tuple #[.agg #[.string z13.1.key, .slice A19 z13.1.vers.length c20], .int .i64 z13.2]))
 refine mv (v := .tuple #[.agg #[.string z13.1.key, .slice A19 z13.1.vers.length c20], .int .i64 z13.2]) ?_
 refine vb (q_extract (v := .agg #[.string z13.1.key, .slice A19 z13.1.vers.length c20]) rfl rfl rfl) ?_
 refine vb (q_extract (v := .int .i64 z13.2) rfl rfl rfl) ?_
 refine e_alloc Tryz.zeroValue24 rfl rfl rfl rfl ?_
 intro g23
 refine e_st (i := 0) (v := .agg #[.string z13.1.key, .slice A19 z13.1.vers.length c20]) (new := #[.string z13.1.key, .slice A19 z13.1.vers.length c20]) rfl Tryz.sizeOf24 rfl rfl rfl rfl (by kernel_rfl) rfl rfl rfl rfl ?_
 refine as_ (v := .int .i64 z13.2) ?_
 refine WR.done ?_
 refine WC.rs ?_
 refine vb (q_fl 1 fld_24_1 rfl rfl rfl) ?_
 refine vb (q_ldl (i := 0) (v := .slice A19 z13.1.vers.length c20) rfl rfl Tryz.isAgg22 rfl rfl) ?_
 refine as_ (v := .slice A19 z13.1.vers.length c20) ?_
 refine WR.done ?_
 refine WC.ret ?_
 intro w hw
 obtain rfl := Option.some.inj h
 subst hF
 exact end_e (is := []) (by kernel_rfl) hw rfl ⟨A19, c20, rfl, rfl, hr21.2.1, hr21.2.2, trivial⟩
abbrev r_store_Store_Recs (gs_ : Nat) (es_ : Nat × Nat) (rows_ : Rowb) (r : List Rec) (U : List Rowb) (Γ : Gh) (v : Value) : Prop := ∃ (A0 : Option Addr), ∃ (c0 : Nat), ∃ (row0 : Rowb), v = .slice A0 r.length c0 ∧ U = [rows_, row0] ∧ Own recT Γ 24 row0 A0 c0 r ∧ True
theorem t_store_Store_Recs {Γ : Gh} {w0 : World} {gs_ : Nat} {es_ : Nat × Nat} {rows_ : Rowb} {s_ : Ostore_Store} (hs_ : Ostore_Store.ob es_ Γ gs_ rows_ s_) (hp : Pre [rows_] Γ w0) {r : List Rec} (h : m_store_Store_Recs s_ = some r) : Calls Tryz.prog 27 #[(pq gs_)] w0 (Outc Γ [rows_] w0 (r_store_Store_Recs gs_ es_ rows_ r)) := by
 refine calls_of (N := 23) (rs := [2]) (args := [(pq gs_)]) Tryz.func27 rfl Tryz.ntmps27 Tryz.results27 rfl ?_
 obtain ⟨F, hF⟩ : ∃ F : Fm, F = ⟨ids [rows_], w0, Γ⟩ := ⟨_, rfl⟩
 refine WC.here (C := CC F Γ [rows_]) ?_ (hF ▸ hp.start)
 refine WC.rs ?_
 refine as_ (v := .slice none 0 0) ?_
 refine WR.done ?_
 refine WC.rs ?_
 refine as_ (v := .slice none 0 0) ?_
 refine WR.done ?_
 refine WC.seq ?_
 refine WC.rs ?_
 refine mv (v := (pq gs_)) ?_
 obtain ⟨z1, hz2, h⟩ := bnd h
 refine e_call (is := [0]) rfl rfl (call_run Tryz.call30 rfl rfl (by kernel_rfl)) rfl (fun w hp => t_store_Store_Keys hs_ hp hz2) ?_
 rintro Γ3 U5 v6 hl4 ⟨A7, c8, row9, rfl, rfl, hr10, _⟩
 change WR _ _ _ (CC F Γ3 [rows_, row9]) _ _ (upd _ 7 (.slice A7 z1.length c8))
 refine vb (q_len_slice rfl Tryz.underlying72 rfl) ?_
 refine mv (v := .int .i64 0) ?_
 refine WR.done ?_
 refine WC.block ?_
 refine WC.forI h (fun (i19 : Nat) (out_13 : List Rec) σ w => ∃ (Γ11 : Gh), ∃ (A14 : Option Addr), ∃ (c15 : Nat), ∃ (row16 : Rowb), slots σ [(0, (pq gs_)), (3, .slice A14 out_13.length c15), (7, .slice A7 z1.length c8), (8, .int .i64 ((z1.length : Nat) : Int)), (9, .int .i64 ((i19 : Nat) : Int))] ∧ CC F Γ11 [row16, rows_, row9] w ∧ Gh.le Γ3 Γ11 ∧ Own recT Γ11 24 row16 A14 c15 out_13 ∧ True) ?_ ?_
 ·
  intro w hw
  have hw := hw.pad
  exact ⟨Γ3, none, 0, [], (sl_ (by kernel_rfl)), hw, (Gh.refl _), (Own.nil recT _ 24), trivial⟩
 rintro f18 i19 out_13 σ w hi20 hlt21 hge22 ⟨Γ11, A14, c15, row16, hsl, hw, hl12, ho17, -⟩
 refine Wpt.slots hsl ?_
 refine WC.here (C := CC F Γ11 [row16, rows_, row9]) ?_ hw
 clear hw hsl
 refine WC.rs ?_
 refine vb (q_lss rfl rfl rfl) ?_
 refine WR.done ?_
 refine WC.seq ?_
 refine WC.cond (b := (decide (((i19 : Nat) : Int) < ((z1.length : Nat) : Int)))) (by kernel_rfl) (fun hb23 => ?_) (fun hb23 => ?_)
 ·
  have hl24 := ilt hb23
  have h := hlt21 hl24
  refine WC.skip ?_
  change WC _ _ _ _ _ _
  refine WC.seq ?_
  refine WC.block ?_
  refine WC.rs ?_
  refine vb (q_ixn (i := i19) Tryz.underlying72 Tryz.sizeOf9 rfl rfl rfl hl24 ((hr10.mono hl12).some_ hl24)) ?_
  refine vb (q_ldo (c := 0) (v := .string (gt z1 i19)) (i := 2) rfl ((hr10.mono hl12).strT_at hl24).2 rfl Tryz.isAgg9 rfl rfl) ?_
  refine as_ (v := .string (gt z1 i19)) ?_
  refine WR.done ?_
  refine WC.region ?_
  refine mv (v := .slice A14 out_13.length c15) ?_
  refine mv (v := .string (gt z1 i19)) ?_
  refine mv (v := (pq gs_)) ?_
  refine mv (v := .string (gt z1 i19)) ?_
  obtain ⟨z25, hz26, h⟩ := bnd h
  refine e_callB (is := []) (Lent.nil F) rfl rfl (call_run Tryz.call12 rfl rfl (by kernel_rfl)) rfl (fun w Θ hp hpB hle hleB hR => t_store_Store_Get_l0 ((hs_.mono (hl4.trans hl12)).mono hle) (fun p hp => hR _ (List.mem_of_getElem? (i := 1) rfl) p hp) (gt z1 i19) ((hr10.mono hl12).strT_at hl24).1 hp hpB hz26) ?_
  rintro Γ27 U29 v30 hl28 ⟨A31, c32, rfl, rfl, hc34, hr33, _⟩
  change WR _ _ _ (CC F Γ27 [row16, rows_, row9]) _ _ (upd _ 17 (.slice A31 z25.length c32))
  refine vb (q_build' (v := .agg #[.string (gt z1 i19), .slice A31 z25.length c32]) rfl (bargs2 rfl rfl) (fun w => by kernel_rfl)) ?_
  refine e_buildSlice (cs := #[.string (gt z1 i19), .slice A31 z25.length c32]) (e := 24) rfl rfl rfl rfl (fun w => by kernel_rfl) ?_
  intro g35
  obtain ⟨hk36, h⟩ := chk_some h
  refine e_append (T := recT) (xs := out_13) (ys := [(⟨(gt z1 i19), z25⟩ : Rec)]) elem_66 (i := 1) rfl rfl rfl rfl rfl rfl rfl (ho17.mono hl28) (of_decide_eq_true hk36) (fun w hw => src_one (T := recT) (y := (⟨(gt z1 i19), z25⟩ : Rec)) (i := 0) rfl (by exact ⟨A31, c32, rfl, ⟨((hr10.mono (hl12.trans hl28)).strT_at hl24).1, ⟨hc34, hr33⟩⟩⟩) hw) ?_
  intro row37 A38 c39 ho40
  refine as_ (v := .slice A38 (out_13 ++ [(⟨(gt z1 i19), z25⟩ : Rec)]).length c39) ?_
  refine WR.nil ?_
  change WC _ _ _ _ _ _
  refine WC.region ?_
  refine vb (q_add_r (r := ((i19 + 1 : Nat) : Int)) rfl rfl rfl (ctr_len hl24 (hr10.mono hl12).le)) ?_
  refine mv (v := .int .i64 ((i19 + 1 : Nat) : Int)) ?_
  refine WR.nil ?_
  intro w hw
  exact ⟨hl24, (out_13 ++ [(⟨(gt z1 i19), z25⟩ : Rec)]), h, Γ27, A38, c39, row37, (sl_ (by kernel_rfl)), (hw.only (is := [1, 1, 1]) rfl), (hl12.trans hl28), ho40, trivial⟩
 ·
  have h := hge22 (ige hb23)
  refine WC.exit ?_
  change WC _ _ _ _ _ _
  refine WC.rs ?_
  refine mv (v := .slice A14 out_13.length c15) ?_
  refine as_ (v := .slice A14 out_13.length c15) ?_
  refine WR.done ?_
  refine WC.ret ?_
  intro w hw
  obtain rfl := Option.some.inj h
  subst hF
  exact end_e (is := [1, 0]) (by kernel_rfl) hw rfl ⟨A14, c15, row16, rfl, rfl, ho17, trivial⟩
theorem t_vect_Covers {Γ : Gh} {w0 : World} {Av_ : Option Addr} {cv_ : Nat} {v_ : List Int} (hv_ : Sl intT Γ Av_ v_) (hv_c : v_.length ≤ cv_) (d : Dot) (hd : Dot.fits Γ  d) (hs : Sat Γ w0) {r : Bool} (h : m_vect_Covers v_ d = some r) : Calls Tryz.prog 46 #[.slice Av_ v_.length cv_, .agg #[.int .i64 d.s, .int .i64 d.n]] w0 (fun e w' => e = .returned (.bool r) ∧ Fr no w0 w') := by
 refine calls_of (N := 31) (rs := [4]) (args := [.slice Av_ v_.length cv_, .agg #[.int .i64 d.s, .int .i64 d.n]]) Tryz.func46 rfl Tryz.ntmps46 Tryz.results46 rfl ?_
 obtain ⟨F, hF⟩ : ∃ F : Fm, F = ⟨no, w0, Γ⟩ := ⟨_, rfl⟩
 refine WC.here (C := CC F Γ []) ?_ (hF ▸ Cur.start0 hs)
 refine WC.rs ?_
 refine e_box (v := .agg #[.int .i64 d.s, .int .i64 d.n]) rfl rfl rfl rfl (by kernel_rfl) ?_
 intro g1
 refine as_ (v := .bool false) ?_
 refine WR.done ?_
 refine WC.seq ?_
 refine WC.dr (by kernel_rfl) (by kernel_rfl) (fun w hw => hw.drawn _) ?_
 refine wa rfl rfl rfl (q_fl 0 fld_36_0 rfl rfl rfl) ?_
 refine wa rfl rfl rfl (q_ldl (i := 0) (v := .int .i64 d.s) rfl rfl Tryz.isAgg3 rfl rfl) ?_
 refine wa rfl rfl rfl (q_geq rfl rfl rfl) ?_
 refine wa rfl rfl rfl (q_move (v := .bool (decide (1 ≤ d.s))) rfl (by kernel_rfl)) ?_
 refine wg1 rfl rfl rfl rfl rfl (fun hg2 => QV.qo (q_fl 0 fld_36_0 rfl rfl rfl)) ?_
 refine wg1 rfl rfl rfl rfl rfl (fun hg3 => QV.qo (q_ldl (i := 0) (v := .int .i64 d.s) rfl rfl Tryz.isAgg3 (gu hg3 rfl) rfl)) ?_
 refine wg1 rfl rfl rfl rfl rfl (fun hg4 => QV.qo (q_move (v := .slice Av_ v_.length cv_) rfl (by kernel_rfl))) ?_
 refine wg1 rfl rfl rfl rfl rfl (fun hg5 => QV.qo (q_len_slice rfl Tryz.underlying50 (gu hg5 rfl))) ?_
 refine wg1 rfl rfl rfl rfl rfl (fun hg6 => QV.qo (q_leq rfl (gu hg6 rfl) (gu hg6 rfl))) ?_
 refine wa rfl rfl rfl (q_pick rfl rfl (pk_and' (g := (decide (1 ≤ d.s))) (y := (decide (d.s ≤ ((v_.length : Nat) : Int)))))) ?_
 refine wa rfl rfl rfl (q_move (v := .bool ((decide (1 ≤ d.s)) && (decide (d.s ≤ ((v_.length : Nat) : Int))))) rfl (by kernel_rfl)) ?_
 refine wg1 rfl rfl rfl rfl rfl (fun hg7 => QV.qo (q_fl 1 fld_36_1 rfl rfl rfl)) ?_
 refine wg1 rfl rfl rfl rfl rfl (fun hg8 => QV.qo (q_ldl (i := 0) (v := .int .i64 d.n) rfl rfl Tryz.isAgg2 (gu hg8 rfl) rfl)) ?_
 refine wg1 rfl rfl rfl rfl rfl (fun hg9 => QV.qo (q_geq rfl (gu hg9 rfl) rfl)) ?_
 refine wa rfl rfl rfl (q_pick rfl rfl (pk_and' (g := ((decide (1 ≤ d.s)) && (decide (d.s ≤ ((v_.length : Nat) : Int))))) (y := (decide (1 ≤ d.n))))) ?_
 refine wa rfl rfl rfl (q_move (v := .bool (((decide (1 ≤ d.s)) && (decide (d.s ≤ ((v_.length : Nat) : Int)))) && (decide (1 ≤ d.n)))) rfl (by kernel_rfl)) ?_
 refine wg1 rfl rfl rfl rfl rfl (fun hg10 => QV.qo (q_fl 1 fld_36_1 rfl rfl rfl)) ?_
 refine wg1 rfl rfl rfl rfl rfl (fun hg11 => QV.qo (q_ldl (i := 0) (v := .int .i64 d.n) rfl rfl Tryz.isAgg2 (gu hg11 rfl) rfl)) ?_
 refine wg1 rfl rfl rfl rfl rfl (fun hg12 => QV.qo (q_move (v := .slice Av_ v_.length cv_) rfl (by kernel_rfl))) ?_
 refine wg1 rfl rfl rfl rfl rfl (fun hg13 => QV.qo (q_fl 0 fld_36_0 rfl rfl rfl)) ?_
 refine wg1 rfl rfl rfl rfl rfl (fun hg14 => QV.qo (q_ldl (i := 0) (v := .int .i64 d.s) rfl rfl Tryz.isAgg3 (gu hg14 rfl) rfl)) ?_
 refine wg1 rfl rfl rfl rfl rfl (fun hg15 => QV.qo (q_sub rfl (gu hg15 rfl) rfl)) ?_
 obtain ⟨hk17, h⟩ := chk_some h
 refine wg1 rfl rfl rfl rfl rfl (fun hg16 => QV.qo (q_ix Tryz.underlying50 Tryz.sizeOf2 rfl (gu hg16 rfl) (gu hg16 rfl) (imp_of hk17 hg16) (hv_.some_ (inb_lt (imp_of hk17 hg16))))) ?_
 refine wg1 rfl rfl rfl rfl rfl (fun hg18 => QV.qo (q_ld (c := 0) (v := .int .i64 (gt v_ ((w64 (d.s - 1)).toNat))) (hv_.intT_at (inb_lt (imp_of hk17 hg18))).2 rfl Tryz.isAgg2 (gu hg18 rfl) rfl)) ?_
 refine wg1 rfl rfl rfl rfl rfl (fun hg19 => QV.qo (q_leq rfl (gu hg19 rfl) (gu hg19 rfl))) ?_
 refine wa rfl rfl rfl (q_pick rfl rfl (pk_and' (g := (((decide (1 ≤ d.s)) && (decide (d.s ≤ ((v_.length : Nat) : Int)))) && (decide (1 ≤ d.n)))) (y := (decide (d.n ≤ (gt v_ ((w64 (d.s - 1)).toNat))))))) ?_
 refine wa rfl rfl rfl (q_assign (v := .bool ((((decide (1 ≤ d.s)) && (decide (d.s ≤ ((v_.length : Nat) : Int)))) && (decide (1 ≤ d.n))) && (decide (d.n ≤ (gt v_ ((w64 (d.s - 1)).toNat)))))) rfl (by kernel_rfl)) ?_
 refine WQ.nil ?_
 change WC _ _ _ _ _ _
 refine WC.ret ?_
 intro w hw
 obtain rfl := Option.some.inj h
 subst hF
 exact ⟨by kernel_rfl, hw.fr⟩
abbrev r_seglog_Log_Rewrite_1 (gb0 : Nat) (gb0v : Nat) (eb0v : Nat × Nat) (b0v : Oseglog_Log) (rowb0v : Rowb) (r : Bool) (U : List Rowb) (Γ : Gh) (v : Value) : Prop := v = .bool r ∧ U = [[(gb0, .cells #[.pointer (some ⟨gb0v, 0, none⟩)] 81 (0, 0))], rowb0v] ∧ True
theorem t_seglog_Log_Rewrite_1 {Γ : Gh} {w0 : World} (g_ : Int) (hg_ : I64 g_) (a1 : Int) (ha1 : I64 a1) {gb0 : Nat} {gb0v : Nat} {eb0v : Nat × Nat} {rowb0v : Rowb} {b0v : Oseglog_Log} (hb0v : Oseglog_Log.ob eb0v Γ gb0v rowb0v b0v) (hp : Pre [[(gb0, .cells #[(pq gb0v)] 81 (0, 0))], rowb0v] Γ w0) {r : Bool} (h : m_seglog_Log_Rewrite_1 g_ a1 b0v = some r) : Calls Tryz.prog 94 #[.int .i64 g_, .int .i64 a1, (pq gb0)] w0 (Outc Γ [[(gb0, .cells #[(pq gb0v)] 81 (0, 0))], rowb0v] w0 (r_seglog_Log_Rewrite_1 gb0 gb0v eb0v b0v rowb0v r)) := by
 refine calls_of (N := 13) (rs := [5]) (args := [.int .i64 g_, .int .i64 a1, (pq gb0)]) Tryz.func94 rfl Tryz.ntmps94 Tryz.results94 rfl ?_
 obtain ⟨F, hF⟩ : ∃ F : Fm, F = ⟨ids [[(gb0, .cells #[(pq gb0v)] 81 (0, 0))], rowb0v], w0, Γ⟩ := ⟨_, rfl⟩
 refine WC.here (C := CC F Γ [[(gb0, .cells #[(pq gb0v)] 81 (0, 0))], rowb0v]) ?_ (hF ▸ hp.start)
 refine WC.rs ?_
 refine as_ (v := .bool false) ?_
 refine WR.done ?_
 refine WC.rs ?_
 refine mv (v := .int .i64 g_) ?_
 refine vb (q_ldl (i := 0) (v := (pq gb0v)) rfl rfl Tryz.isAgg81 rfl rfl) ?_
 refine vb (q_nil (A := some ⟨gb0v, 0, none⟩) rfl rfl rfl) ?_
 refine vb (q_fl 0 fld_146_0 rfl rfl rfl) ?_
 refine vb (q_fl 2 fld_138_2 rfl rfl rfl) ?_
 have hq := hb0v
 obtain ⟨hrow_1, ho0_1, ho1_1, ho2_1, ho3_1, ho4_1, ho5_1, ho6_1, -⟩ := hq
 intro w hw; have hw := hw.unfold (i := 1) rfl hrow_1
 refine WR.here (C := CC F Γ [[(gb0v, .cells #[.pointer (some ⟨eb0v.2, 0, none⟩), .string b0v.place_name, .int .i64 b0v.place_gen, .int .i64 b0v.size, .int .i64 b0v.last, .int .i64 b0v.tail, .int .i64 b0v.count, .int .i64 b0v.bytes] eb0v.1 (0, 0))], [(gb0, .cells #[(pq gb0v)] 81 (0, 0))]]) ?_ hw
 clear hw
 refine vb (q_ldl (i := 0) (v := .int .i64 b0v.place_gen) rfl rfl Tryz.isAgg2 rfl rfl) ?_
 refine vb (q_eql rfl rfl rfl) ?_
 refine as_ (v := .bool (g_ == b0v.place_gen)) ?_
 refine WR.done ?_
 refine WC.ret ?_
 intro w hw
 have hw := hw.fold (is := [0]) rfl hrow_1
 obtain rfl := Option.some.inj h
 subst hF
 exact end_e (is := [1, 0]) (by kernel_rfl) hw rfl ⟨rfl, rfl, trivial⟩
abbrev r_seglog_Log_Rewrite_2 (gb0 : Nat) (gb0v : Nat) (eb0v : Nat × Nat) (b0v : Oseglog_Log) (rowb0v : Rowb) (r : Bool) (U : List Rowb) (Γ : Gh) (v : Value) : Prop := v = .bool r ∧ U = [[(gb0, .cells #[.pointer (some ⟨gb0v, 0, none⟩)] 81 (0, 0))], rowb0v] ∧ True
theorem t_seglog_Log_Rewrite_2 {Γ : Gh} {w0 : World} (g_ : Int) (hg_ : I64 g_) (a1 : Int) (ha1 : I64 a1) {gb0 : Nat} {gb0v : Nat} {eb0v : Nat × Nat} {rowb0v : Rowb} {b0v : Oseglog_Log} (hb0v : Oseglog_Log.ob eb0v Γ gb0v rowb0v b0v) (hp : Pre [[(gb0, .cells #[(pq gb0v)] 81 (0, 0))], rowb0v] Γ w0) {r : Bool} (h : m_seglog_Log_Rewrite_2 g_ a1 b0v = some r) : Calls Tryz.prog 96 #[.int .i64 g_, .int .i64 a1, (pq gb0)] w0 (Outc Γ [[(gb0, .cells #[(pq gb0v)] 81 (0, 0))], rowb0v] w0 (r_seglog_Log_Rewrite_2 gb0 gb0v eb0v b0v rowb0v r)) := by
 refine calls_of (N := 13) (rs := [5]) (args := [.int .i64 g_, .int .i64 a1, (pq gb0)]) Tryz.func96 rfl Tryz.ntmps96 Tryz.results96 rfl ?_
 obtain ⟨F, hF⟩ : ∃ F : Fm, F = ⟨ids [[(gb0, .cells #[(pq gb0v)] 81 (0, 0))], rowb0v], w0, Γ⟩ := ⟨_, rfl⟩
 refine WC.here (C := CC F Γ [[(gb0, .cells #[(pq gb0v)] 81 (0, 0))], rowb0v]) ?_ (hF ▸ hp.start)
 refine WC.rs ?_
 refine as_ (v := .bool false) ?_
 refine WR.done ?_
 refine WC.rs ?_
 refine mv (v := .int .i64 g_) ?_
 refine vb (q_ldl (i := 0) (v := (pq gb0v)) rfl rfl Tryz.isAgg81 rfl rfl) ?_
 refine vb (q_nil (A := some ⟨gb0v, 0, none⟩) rfl rfl rfl) ?_
 refine vb (q_fl 0 fld_146_0 rfl rfl rfl) ?_
 refine vb (q_fl 2 fld_138_2 rfl rfl rfl) ?_
 have hq := hb0v
 obtain ⟨hrow_1, ho0_1, ho1_1, ho2_1, ho3_1, ho4_1, ho5_1, ho6_1, -⟩ := hq
 intro w hw; have hw := hw.unfold (i := 1) rfl hrow_1
 refine WR.here (C := CC F Γ [[(gb0v, .cells #[.pointer (some ⟨eb0v.2, 0, none⟩), .string b0v.place_name, .int .i64 b0v.place_gen, .int .i64 b0v.size, .int .i64 b0v.last, .int .i64 b0v.tail, .int .i64 b0v.count, .int .i64 b0v.bytes] eb0v.1 (0, 0))], [(gb0, .cells #[(pq gb0v)] 81 (0, 0))]]) ?_ hw
 clear hw
 refine vb (q_ldl (i := 0) (v := .int .i64 b0v.place_gen) rfl rfl Tryz.isAgg2 rfl rfl) ?_
 refine vb (q_eql rfl rfl rfl) ?_
 refine as_ (v := .bool (g_ == b0v.place_gen)) ?_
 refine WR.done ?_
 refine WC.ret ?_
 intro w hw
 have hw := hw.fold (is := [0]) rfl hrow_1
 obtain rfl := Option.some.inj h
 subst hF
 exact end_e (is := [1, 0]) (by kernel_rfl) hw rfl ⟨rfl, rfl, trivial⟩
abbrev r_seglog_Log_Rewrite_3 (gb0 : Nat) (b0v : Int) (r : Bool) (U : List Rowb) (Γ : Gh) (v : Value) : Prop := v = .bool r ∧ U = [[(gb0, .cells #[.int .i64 b0v] 2 (0, 0))]] ∧ True
theorem t_seglog_Log_Rewrite_3 {Γ : Gh} {w0 : World} (g_ : Int) (hg_ : I64 g_) (a1 : Int) (ha1 : I64 a1) {gb0 : Nat} (b0v : Int) (hb0v : I64 b0v) (hp : Pre [[(gb0, .cells #[.int .i64 b0v] 2 (0, 0))]] Γ w0) {r : Bool} (h : m_seglog_Log_Rewrite_3 g_ a1 b0v = some r) : Calls Tryz.prog 97 #[.int .i64 g_, .int .i64 a1, (pq gb0)] w0 (Outc Γ [[(gb0, .cells #[.int .i64 b0v] 2 (0, 0))]] w0 (r_seglog_Log_Rewrite_3 gb0 b0v r)) := by
 refine calls_of (N := 9) (rs := [5]) (args := [.int .i64 g_, .int .i64 a1, (pq gb0)]) Tryz.func97 rfl Tryz.ntmps97 Tryz.results97 rfl ?_
 obtain ⟨F, hF⟩ : ∃ F : Fm, F = ⟨ids [[(gb0, .cells #[.int .i64 b0v] 2 (0, 0))]], w0, Γ⟩ := ⟨_, rfl⟩
 refine WC.here (C := CC F Γ [[(gb0, .cells #[.int .i64 b0v] 2 (0, 0))]]) ?_ (hF ▸ hp.start)
 refine WC.rs ?_
 refine as_ (v := .bool false) ?_
 refine WR.done ?_
 refine WC.rs ?_
 refine mv (v := .int .i64 g_) ?_
 refine vb (q_ldl (i := 0) (v := .int .i64 b0v) rfl rfl Tryz.isAgg2 rfl rfl) ?_
 refine vb (q_eql rfl rfl rfl) ?_
 refine as_ (v := .bool (g_ == b0v)) ?_
 refine WR.done ?_
 refine WC.ret ?_
 intro w hw
 obtain rfl := Option.some.inj h
 subst hF
 exact end_e (is := [0]) (by kernel_rfl) hw rfl ⟨rfl, rfl, trivial⟩
abbrev r_seglog_Log_Rewrite (gl : Nat) (el : Nat × Nat) (edk0 : Nat) (r : Oseglog_Log × Odisk_Disk × Int) (U : List Rowb) (Γ : Gh) (v : Value) : Prop := ∃ (rowl' : Rowb), ∃ (rowdk0' : Rowb), v = .int .i64 r.2.2 ∧ U = [rowl', rowdk0'] ∧ Oseglog_Log.ob el Γ gl rowl' r.1 ∧ Odisk_Disk.ob edk0 Γ el.2 rowdk0' r.2.1 ∧ I64 r.2.2 ∧ True
theorem t_seglog_Log_Rewrite {Γ : Gh} {w0 : World} {gl : Nat} {el : Nat × Nat} {rowl : Rowb} {l : Oseglog_Log} (hl : Oseglog_Log.ob el Γ gl rowl l) {Alist : Option Addr} {clist : Nat} {list : List (List UInt8)} (hlist : Sl (slT byteT) Γ Alist list) (hlistc : list.length ≤ clist) {edk0 : Nat} {rowdk0 : Rowb} {dk0 : Odisk_Disk} (hdk0 : Odisk_Disk.ob edk0 Γ el.2 rowdk0 dk0) (hp : Pre [rowl, rowdk0] Γ w0) {r : Oseglog_Log × Odisk_Disk × Int} (h : m_seglog_Log_Rewrite l list dk0 = some r) : Calls Tryz.prog 47 #[(pq gl), .slice Alist list.length clist] w0 (Outc Γ [rowl, rowdk0] w0 (r_seglog_Log_Rewrite gl el edk0 r)) := by
 refine calls_of (N := 134) (rs := [4]) (args := [(pq gl), .slice Alist list.length clist]) Tryz.func47 rfl Tryz.ntmps47 Tryz.results47 rfl ?_
 obtain ⟨F, hF⟩ : ∃ F : Fm, F = ⟨ids [rowl, rowdk0], w0, Γ⟩ := ⟨_, rfl⟩
 refine WC.here (C := CC F Γ [rowl, rowdk0]) ?_ (hF ▸ hp.start)
 refine WC.rs ?_
 refine as_ (v := .int .i64 0) ?_
 refine WR.done ?_
 refine WC.seq ?_
 refine WC.rs ?_
 refine mv (v := .slice Alist list.length clist) ?_
 refine vb (q_len_slice rfl Tryz.underlying82 rfl) ?_
 refine mv (v := .int .i64 0) ?_
 refine WR.done ?_
 refine WC.block ?_
 refine WC.forI h (fun (i2 : Nat) (s : Unit) σ w => match s with | () => slots σ [(0, (pq gl)), (1, .slice Alist list.length clist), (15, .slice Alist list.length clist), (16, .int .i64 ((list.length : Nat) : Int)), (17, .int .i64 ((i2 : Nat) : Int))] ∧ CC F Γ [rowl, rowdk0] w ∧ True) ?_ ?_
 ·
  intro w hw
  exact ⟨(sl_ (by kernel_rfl)), hw, trivial⟩
 rintro f1 i2 ⟨⟩ σ w hi3 hlt4 hge5 ⟨hsl, hw, -⟩
 refine Wpt.slots hsl ?_
 refine WC.here (C := CC F Γ [rowl, rowdk0]) ?_ hw
 clear hw hsl
 refine WC.rs ?_
 refine vb (q_lss rfl rfl rfl) ?_
 refine WR.done ?_
 refine WC.seq ?_
 refine WC.cond (b := (decide (((i2 : Nat) : Int) < ((list.length : Nat) : Int)))) (by kernel_rfl) (fun hb6 => ?_) (fun hb6 => ?_)
 ·
  have hl7 := ilt hb6
  have h := hlt4 hl7
  refine WC.skip ?_
  change WC _ _ _ _ _ _
  refine WC.seq ?_
  refine WC.block ?_
  refine WC.rs ?_
  refine vb (q_ixn (i := i2) Tryz.underlying82 Tryz.sizeOf51 rfl rfl rfl hl7 (hlist.some_ hl7)) ?_
  obtain ⟨A8, c9, hx10⟩ := hlist.slT_at i2
  refine vb (q_ld (c := 0) (v := .slice A8 (gt list i2).length c9) (hx10 hl7).2 rfl Tryz.isAgg51 rfl rfl) ?_
  refine as_ (v := .slice A8 (gt list i2).length c9) ?_
  refine WR.done ?_
  refine WC.rs ?_
  refine mv (v := .slice A8 (gt list i2).length c9) ?_
  refine vb (q_len_slice rfl Tryz.underlying51 rfl) ?_
  refine vb (q_gtr rfl rfl rfl) ?_
  refine WR.done ?_
  refine WC.cif h (by kernel_rfl) (fun hb11 h => ?_) (fun hb11 h => ?_)
  ·
   refine WC.rs ?_
   refine as_ (v := .int .i64 3) ?_
   refine WR.done ?_
   refine WC.ret ?_
   intro w hw
   obtain rfl := Option.some.inj h
   subst hF
   exact end_e (is := [0, 0]) (by kernel_rfl) hw rfl ⟨rowl, rowdk0, rfl, rfl, hl, hdk0, (show I64 3 by decide), trivial⟩
  ·
   refine WC.skip ?_
   change WC _ _ _ _ _ _
   refine WC.region ?_
   refine vb (q_add_r (r := ((i2 + 1 : Nat) : Int)) rfl rfl rfl (ctr_len hl7 hlist.le)) ?_
   refine mv (v := .int .i64 ((i2 + 1 : Nat) : Int)) ?_
   refine WR.nil ?_
   intro w hw
   exact ⟨hl7, (), h, (sl_ (by kernel_rfl)), hw, trivial⟩
 ·
  have h := hge5 (ige hb6)
  refine WC.exit ?_
  change WC _ _ _ _ _ _
  refine WC.seq ?_
  refine WC.rs ?_
  refine mv (v := (pq gl)) ?_
  refine vb (q_nil (A := some ⟨gl, 0, none⟩) rfl rfl rfl) ?_
  refine vb (q_fl 0 fld_146_0 rfl rfl rfl) ?_
  refine vb (q_fl 2 fld_138_2 rfl rfl rfl) ?_
  have hq := hl
  obtain ⟨hrow_12, ho0_12, ho1_12, ho2_12, ho3_12, ho4_12, ho5_12, ho6_12, -⟩ := hq
  intro w hw; have hw := hw.unfold (i := 0) rfl hrow_12
  refine WR.here (C := CC F Γ [[(gl, .cells #[.pointer (some ⟨el.2, 0, none⟩), .string l.place_name, .int .i64 l.place_gen, .int .i64 l.size, .int .i64 l.last, .int .i64 l.tail, .int .i64 l.count, .int .i64 l.bytes] el.1 (0, 0))], rowdk0]) ?_ hw
  clear hw
  refine vb (q_ldl (i := 0) (v := .int .i64 l.place_gen) rfl rfl Tryz.isAgg2 rfl rfl) ?_
  refine vb (q_eql rfl rfl rfl) ?_
  refine WR.done ?_
  refine WC.cif h (by kernel_rfl) (fun hb13 h => ?_) (fun hb13 h => ?_)
  ·
   refine WC.rs ?_
   refine as_ (v := .int .i64 72) ?_
   refine WR.done ?_
   refine WC.ret ?_
   intro w hw
   have hw := hw.fold (is := [0]) rfl hrow_12
   obtain rfl := Option.some.inj h
   subst hF
   exact end_e (is := [0, 0]) (by kernel_rfl) hw rfl ⟨rowl, rowdk0, rfl, rfl, hl, hdk0, (show I64 72 by decide), trivial⟩
  ·
   refine WC.skip ?_
   change WC _ _ _ _ _ _
   refine WC.seq ?_
   intro w hw; have h015 := hw.le
   refine WC.here (C := CC F Γ [[(gl, .cells #[.pointer (some ⟨el.2, 0, none⟩), .string l.place_name, .int .i64 l.place_gen, .int .i64 l.size, .int .i64 l.last, .int .i64 l.tail, .int .i64 l.count, .int .i64 l.bytes] el.1 (0, 0))], rowdk0]) ?_ hw; clear hw
   refine WC.held (CC F Γ [[(gl, .cells #[.pointer (some ⟨el.2, 0, none⟩), .string l.place_name, .int .i64 l.place_gen, .int .i64 l.size, .int .i64 l.last, .int .i64 l.tail, .int .i64 l.count, .int .i64 l.bytes] el.1 (0, 0))]]) (by kernel_rfl) (fun w hw => hw.drawn _) ?_
   change WH _ _ _ _ (CC F Γ [[(gl, .cells #[.pointer (some ⟨el.2, 0, none⟩), .string l.place_name, .int .i64 l.place_gen, .int .i64 l.size, .int .i64 l.last, .int .i64 l.tail, .int .i64 l.count, .int .i64 l.bytes] el.1 (0, 0))], rowdk0]) _ 12 #[false, false, false, false, false, false, false, false, false, false, false, false] _
   refine hu 0 rfl (bk_ (Gh.refl _) h015 (.cons_cons _ (.cons _ .slnil))) (q_move (v := (pq gl)) rfl (by kernel_rfl)) ?_
   refine hu 1 rfl (bk_ (Gh.refl _) h015 (.cons_cons _ (.cons _ .slnil))) (q_nil (A := some ⟨gl, 0, none⟩) rfl rfl rfl) ?_
   refine hu 2 rfl (bk_ (Gh.refl _) h015 (.cons_cons _ (.cons _ .slnil))) (q_fl 0 fld_146_0 rfl rfl rfl) ?_
   refine hu 3 rfl (bk_ (Gh.refl _) h015 (.cons_cons _ (.cons _ .slnil))) (q_ldla (i := 0) (vs := [.pointer (some ⟨el.2, 0, none⟩), .string l.place_name, .int .i64 l.place_gen]) rfl rfl Tryz.isAgg138 Tryz.sizeOf138 rfl rfl) ?_
   refine hu 4 rfl (bk_ (Gh.refl _) h015 (.cons_cons _ (.cons _ .slnil))) (q_move (v := (pq gl)) rfl (by kernel_rfl)) ?_
   refine hu 5 rfl (bk_ (Gh.refl _) h015 (.cons_cons _ (.cons _ .slnil))) (q_nil (A := some ⟨gl, 0, none⟩) rfl rfl rfl) ?_
   refine hu 6 rfl (bk_ (Gh.refl _) h015 (.cons_cons _ (.cons _ .slnil))) (q_fl 3 fld_146_1 rfl rfl rfl) ?_
   refine hu 7 rfl (bk_ (Gh.refl _) h015 (.cons_cons _ (.cons _ .slnil))) (q_ldl (i := 0) (v := .int .i64 l.size) rfl rfl Tryz.isAgg3 rfl rfl) ?_
   refine hu 8 rfl (bk_ (Gh.refl _) h015 (.cons_cons _ (.cons _ .slnil))) (q_build' (v := .agg #[.pointer (some ⟨el.2, 0, none⟩), .string l.place_name, .int .i64 l.place_gen, .int .i64 l.size, .int .i64 0, .int .i64 0, .int .i64 0, .int .i64 0]) rfl (bargs2 rfl rfl) (fun w => by kernel_rfl)) ?_
   refine WH.each (l := [9, 10]) (by kernel_rfl) (by simp) ?_
   intro i hi; simp only [List.mem_cons, List.not_mem_nil, or_false] at hi
   rcases hi with rfl | rfl
   ·
    refine ⟨_, rfl, ?_⟩
    refine e_box (v := .agg #[.pointer (some ⟨el.2, 0, none⟩), .string l.place_name, .int .i64 l.place_gen, .int .i64 l.size, .int .i64 0, .int .i64 0, .int .i64 0, .int .i64 0]) rfl rfl rfl rfl (by kernel_rfl) ?_
    intro gh40_
    refine WR.nil ?_
    refine WH.next (bk_ (Gh.refl _) h015 (.cons _ (.cons_cons _ (.cons _ .slnil)))) ?_
    refine WH.lone (i := 10) (by kernel_rfl) rfl ?_
    refine e_alloc Tryz.zeroValue81 rfl rfl rfl rfl ?_
    intro gh7_
    refine WR.nil ?_
    refine WH.next (bk_ (Gh.refl _) h015 (.cons _ (.cons _ (.cons_cons _ (.cons _ .slnil))))) ?_
    refine WH.lone (i := 11) (by kernel_rfl) rfl ?_
    refine e_st (i := 0) (v := (pq gh40_)) (new := #[(pq gh40_)]) rfl Tryz.sizeOf81 rfl rfl rfl rfl (by kernel_rfl) rfl rfl rfl rfl ?_
    refine WR.nil ?_
    refine WH.next (bk_ (Gh.refl _) h015 (.cons _ (.cons _ (.cons_cons _ (.cons _ .slnil))))) ?_
    refine WH.done (by kernel_rfl) ?_
    change WC _ _ _ _ _ _
    refine WC.rs ?_
    refine vb (q_ldl (i := 0) (v := (pq gh40_)) rfl rfl Tryz.isAgg81 rfl rfl) ?_
    refine vb (q_nil (A := some ⟨gh40_, 0, none⟩) rfl rfl rfl) ?_
    refine vb (q_fl 0 fld_146_0 rfl rfl rfl) ?_
    refine vb (q_fl 2 fld_138_2 rfl rfl rfl) ?_
    refine vb (q_ldl (i := 1) (v := .int .i64 l.place_gen) rfl rfl Tryz.isAgg2 rfl rfl) ?_
    refine vb (q_add rfl rfl rfl) ?_
    refine vb (q_nil (A := some ⟨gh40_, 0, none⟩) rfl rfl rfl) ?_
    refine vb (q_fl 0 fld_146_0 rfl rfl rfl) ?_
    refine vb (q_fl 2 fld_138_2 rfl rfl rfl) ?_
    refine e_st (i := 1) (v := .int .i64 (w64 (l.place_gen + 1))) (new := #[.pointer (some ⟨el.2, 0, none⟩), .string l.place_name, .int .i64 (w64 (l.place_gen + 1)), .int .i64 l.size, .int .i64 0, .int .i64 0, .int .i64 0, .int .i64 0]) rfl Tryz.sizeOf2 rfl rfl rfl rfl (by kernel_rfl) rfl rfl rfl rfl ?_
    refine WR.done ?_
    refine WC.rs ?_
    refine mv (v := (pq gl)) ?_
    refine vb (q_nil (A := some ⟨gl, 0, none⟩) rfl rfl rfl) ?_
    refine vb (q_fl 0 fld_146_0 rfl rfl rfl) ?_
    refine vb (q_fl 2 fld_138_2 rfl rfl rfl) ?_
    refine vb (q_ldl (i := 2) (v := .int .i64 l.place_gen) rfl rfl Tryz.isAgg2 rfl rfl) ?_
    refine e_alloc Tryz.zeroValue2 rfl rfl rfl rfl ?_
    intro g16
    refine e_st (i := 0) (v := .int .i64 l.place_gen) (new := #[.int .i64 l.place_gen]) rfl Tryz.sizeOf2 rfl rfl rfl rfl (by kernel_rfl) rfl rfl rfl rfl ?_
    refine WR.done ?_
    refine WC.seq ?_
    refine WC.rs ?_
    refine mv (v := .slice Alist list.length clist) ?_
    refine vb (q_len_slice rfl Tryz.underlying82 rfl) ?_
    refine mv (v := .int .i64 0) ?_
    refine WR.done ?_
    refine WC.block ?_
    intro w hw; have hw := hw.fold (is := [3]) rfl hrow_12
    refine WC.here (C := CC F Γ [rowl, [(g16, .cells #[.int .i64 l.place_gen] 2 (0, 0))], [(gh7_, .cells #[(pq gh40_)] 81 (0, 0))], [(gh40_, .cells #[.pointer (some ⟨el.2, 0, none⟩), .string l.place_name, .int .i64 (w64 (l.place_gen + 1)), .int .i64 l.size, .int .i64 0, .int .i64 0, .int .i64 0, .int .i64 0] 146 (0, 0))], rowdk0]) ?_ hw
    clear hw
    obtain ⟨row_18, hrow_18, hob_18⟩ : ∃ rw : Rowb, rw = ([[(gh40_, .cells #[.pointer (some ⟨el.2, 0, none⟩), .string l.place_name, .int .i64 (w64 (l.place_gen + 1)), .int .i64 l.size, .int .i64 0, .int .i64 0, .int .i64 0, .int .i64 0] 146 (0, 0))]] : List Rowb).flatten ∧ Oseglog_Log.ob (146, el.2) Γ gh40_ rw (⟨l.place_name, (w64 (l.place_gen + 1)), l.size, 0, 0, 0, 0⟩ : Oseglog_Log) := ⟨_, rfl, rfl, ho0_12, (w64_r _), ho2_12, (show I64 0 by decide), (show I64 0 by decide), (show I64 0 by decide), (show I64 0 by decide), trivial⟩
    intro w hw; have hw := hw.fold (is := [3]) rfl hrow_18
    refine WC.here (C := CC F Γ [row_18, rowl, [(g16, .cells #[.int .i64 l.place_gen] 2 (0, 0))], [(gh7_, .cells #[(pq gh40_)] 81 (0, 0))], rowdk0]) ?_ hw
    clear hw
    refine WC.forI h (fun (i28 : Nat) (s : Oseglog_Log × Odisk_Disk) σ w => match s with | (o21, o24) => ∃ (Γ19 : Gh), ∃ (row22 : Rowb), ∃ (row25 : Rowb), slots σ [(0, (pq gl)), (7, (pq gh7_)), (8, (pq g16)), (55, .slice Alist list.length clist), (56, .int .i64 ((list.length : Nat) : Int)), (57, .int .i64 ((i28 : Nat) : Int))] ∧ CC F Γ19 [row22, rowl, [(g16, .cells #[.int .i64 l.place_gen] 2 (0, 0))], [(gh7_, .cells #[(pq gh40_)] 81 (0, 0))], row25] w ∧ Gh.le Γ Γ19 ∧ Oseglog_Log.ob (146, el.2) Γ19 gh40_ row22 o21 ∧ Odisk_Disk.ob edk0 Γ19 el.2 row25 o24 ∧ True) ?_ ?_
    ·
     intro w hw
     exact ⟨Γ, row_18, rowdk0, (sl_ (by kernel_rfl)), hw, (Gh.refl _), hob_18, hdk0, trivial⟩
    rintro f27 i28 ⟨o21, o24⟩ σ w hi29 hlt30 hge31 ⟨Γ19, row22, row25, hsl, hw, hl20, ho23, ho26, -⟩
    refine Wpt.slots hsl ?_
    refine WC.here (C := CC F Γ19 [row22, rowl, [(g16, .cells #[.int .i64 l.place_gen] 2 (0, 0))], [(gh7_, .cells #[(pq gh40_)] 81 (0, 0))], row25]) ?_ hw
    clear hw hsl
    refine WC.rs ?_
    refine vb (q_lss rfl rfl rfl) ?_
    refine WR.done ?_
    refine WC.seq ?_
    refine WC.cond (b := (decide (((i28 : Nat) : Int) < ((list.length : Nat) : Int)))) (by kernel_rfl) (fun hb32 => ?_) (fun hb32 => ?_)
    ·
     have hl33 := ilt hb32
     have h := hlt30 hl33
     refine WC.skip ?_
     change WC _ _ _ _ _ _
     refine WC.seq ?_
     refine WC.block ?_
     refine WC.rs ?_
     refine vb (q_ixn (i := i28) Tryz.underlying82 Tryz.sizeOf51 rfl rfl rfl hl33 ((hlist.mono hl20).some_ hl33)) ?_
     obtain ⟨A34, c35, hx36⟩ := (hlist.mono hl20).slT_at i28
     refine vb (q_ld (c := 0) (v := .slice A34 (gt list i28).length c35) (hx36 hl33).2 rfl Tryz.isAgg51 rfl rfl) ?_
     refine as_ (v := .slice A34 (gt list i28).length c35) ?_
     refine WR.done ?_
     refine WC.rs ?_
     refine vb (q_ldl (i := 3) (v := (pq gh40_)) rfl rfl Tryz.isAgg81 rfl rfl) ?_
     refine mv (v := .slice A34 (gt list i28).length c35) ?_
     obtain ⟨z37, hz38, h⟩ := bnd h
     refine e_call (is := [0, 3]) rfl rfl (call_run Tryz.call37 rfl rfl (by kernel_rfl)) rfl (fun w hp => t_seglog_Log_Append ho23 (hx36 hl33).1.2 (hx36 hl33).1.1 ho26 hp hz38) ?_
     rintro Γ39 U41 v42 hl40 ⟨row43, row45, rfl, rfl, hr44, hr46, hr47, _⟩
     change WR _ _ _ (CC F Γ39 [row43, row45, rowl, [(g16, .cells #[.int .i64 l.place_gen] 2 (0, 0))], [(gh7_, .cells #[(pq gh40_)] 81 (0, 0))]]) _ _ (upd _ 63 (.int .i64 z37.2.2))
     refine as_ (v := .int .i64 z37.2.2) ?_
     refine WR.done ?_
     refine WC.rs ?_
     refine mv (v := .int .i64 z37.2.2) ?_
     refine vb (q_neq rfl rfl rfl) ?_
     refine WR.done ?_
     refine WC.cif h (by kernel_rfl) (fun hb48 h => ?_) (fun hb48 h => ?_)
     ·
      refine WC.rs ?_
      refine vb (q_ldl (i := 4) (v := (pq gh40_)) rfl rfl Tryz.isAgg81 rfl rfl) ?_
      refine vb (q_nil (A := some ⟨gh40_, 0, none⟩) rfl rfl rfl) ?_
      refine vb (q_fl 0 fld_146_0 rfl rfl rfl) ?_
      have hq := hr44
      obtain ⟨hrow_49, ho0_49, ho1_49, ho2_49, ho3_49, ho4_49, ho5_49, ho6_49, -⟩ := hq
      intro w hw; have hw := hw.unfold (i := 0) rfl hrow_49
      refine WR.here (C := CC F Γ39 [[(gh40_, .cells #[.pointer (some ⟨el.2, 0, none⟩), .string z37.1.place_name, .int .i64 z37.1.place_gen, .int .i64 z37.1.size, .int .i64 z37.1.last, .int .i64 z37.1.tail, .int .i64 z37.1.count, .int .i64 z37.1.bytes] 146 (0, 0))], row45, rowl, [(g16, .cells #[.int .i64 l.place_gen] 2 (0, 0))], [(gh7_, .cells #[(pq gh40_)] 81 (0, 0))]]) ?_ hw
      clear hw
      refine vb (q_ldla (i := 0) (vs := [.pointer (some ⟨el.2, 0, none⟩), .string z37.1.place_name, .int .i64 z37.1.place_gen]) rfl rfl Tryz.isAgg138 Tryz.sizeOf138 rfl rfl) ?_
      refine vb (q_mkfn (v := .func (.func 94) #[] #[(pq gh7_)]) rfl (by kernel_rfl)) ?_
      intro w hw; have hw := hw.fold (is := [0]) rfl hrow_49
      refine WR.here (C := CC F Γ39 [row43, row45, rowl, [(g16, .cells #[.int .i64 l.place_gen] 2 (0, 0))], [(gh7_, .cells #[(pq gh40_)] 81 (0, 0))]]) ?_ hw
      clear hw
      obtain ⟨rowT51, hT52⟩ : ∃ r : Rowb, r = ([[(gh7_, .cells #[(pq gh40_)] 81 (0, 0))], row43] : List Rowb).flatten := ⟨_, rfl⟩
      refine WR.sub (fun w hw => hw.fold (is := [4, 0]) rfl hT52) ?_
      obtain ⟨z53, hz54, h⟩ := bnd h
      refine e_call (is := [1, 0]) rfl rfl (call_run Tryz.call72 rfl rfl (by kernel_rfl)) rfl (fun w hp => t_seglog_place_remove (caps := #[(pq gh7_)]) hr46 z37.1.place_name ho0_49 z37.1.place_gen ho1_49 (fun x y => m_seglog_Log_Rewrite_1 x y z37.1) (fun {Γq_ wq_} x hx y hy hle hp2 {_} hq => Calls.mono (t_seglog_Log_Rewrite_1 (Γ := Γq_) x hx y hy (hr44.mono hle) (by subst hT52; exact hp2.parts) hq) (fun e w2 ho => Outc.quiet (by subst hT52; exact hp2.parts) ho (fun _ _ _ hr => ⟨hr.1, hr.2.1⟩))) Tryz.call94 hp hz54) ?_
      rintro Γ55 U57 v58 hl56 ⟨row59, rfl, rfl, hd60⟩
      change WR _ _ _ (CC F Γ55 [row59, rowT51, rowl, [(g16, .cells #[.int .i64 l.place_gen] 2 (0, 0))]]) _ _ (upd _ 71 (.tuple #[]))
      refine WR.sub (fun w hw => hw.unfold (i := 1) rfl hT52) ?_
      change WR _ _ _ (CC F Γ55 [[(gh7_, .cells #[(pq gh40_)] 81 (0, 0))], row43, row59, rowl, [(g16, .cells #[.int .i64 l.place_gen] 2 (0, 0))]]) _ _ _
      refine WR.done ?_
      refine WC.rs ?_
      refine mv (v := .int .i64 z37.2.2) ?_
      refine as_ (v := .int .i64 z37.2.2) ?_
      refine WR.done ?_
      refine WC.ret ?_
      intro w hw
      obtain rfl := Option.some.inj h
      subst hF
      exact end_e (is := [3, 2]) (by kernel_rfl) hw rfl ⟨rowl, row59, rfl, rfl, (hl.mono ((hl20.trans hl40).trans hl56)), hd60, hr47, trivial⟩
     ·
      refine WC.skip ?_
      change WC _ _ _ _ _ _
      refine WC.region ?_
      refine vb (q_add_r (r := ((i28 + 1 : Nat) : Int)) rfl rfl rfl (ctr_len hl33 (hlist.mono hl20).le)) ?_
      refine mv (v := .int .i64 ((i28 + 1 : Nat) : Int)) ?_
      refine WR.nil ?_
      intro w hw
      exact ⟨hl33, (z37.1, z37.2.1), h, Γ39, row43, row45, (sl_ (by kernel_rfl)), (hw.only (is := [0, 1, 1, 1, 0]) rfl), (hl20.trans hl40), hr44, hr46, trivial⟩
    ·
     have h := hge31 (ige hb32)
     refine WC.exit ?_
     change WC _ _ _ _ _ _
     refine WC.rs ?_
     refine mv (v := (pq gl)) ?_
     refine vb (q_nil (A := some ⟨gl, 0, none⟩) rfl rfl rfl) ?_
     refine vb (q_fl 0 fld_146_0 rfl rfl rfl) ?_
     refine vb (q_fl 0 fld_138_0 rfl rfl rfl) ?_
     have hq := (hl.mono hl20)
     obtain ⟨hrow_61, ho0_61, ho1_61, ho2_61, ho3_61, ho4_61, ho5_61, ho6_61, -⟩ := hq
     intro w hw; have hw := hw.unfold (i := 1) rfl hrow_61
     refine WR.here (C := CC F Γ19 [[(gl, .cells #[.pointer (some ⟨el.2, 0, none⟩), .string l.place_name, .int .i64 l.place_gen, .int .i64 l.size, .int .i64 l.last, .int .i64 l.tail, .int .i64 l.count, .int .i64 l.bytes] el.1 (0, 0))], row22, [(g16, .cells #[.int .i64 l.place_gen] 2 (0, 0))], [(gh7_, .cells #[(pq gh40_)] 81 (0, 0))], row25]) ?_ hw
     clear hw
     refine vb (q_ldl (i := 0) (v := .pointer (some ⟨el.2, 0, none⟩)) rfl rfl Tryz.isAgg27 rfl rfl) ?_
     obtain ⟨z62, hz63, h⟩ := bnd h
     refine e_call (is := [4]) rfl rfl (call_run Tryz.call76 rfl rfl (by kernel_rfl)) rfl (fun w hp => t_disk_Disk_Sync ho26 hp hz63) ?_
     rintro Γ64 U66 v67 hl65 ⟨row68, rfl, rfl, hr69, _⟩
     change WR _ _ _ (CC F Γ64 [row68, [(gl, .cells #[.pointer (some ⟨el.2, 0, none⟩), .string l.place_name, .int .i64 l.place_gen, .int .i64 l.size, .int .i64 l.last, .int .i64 l.tail, .int .i64 l.count, .int .i64 l.bytes] el.1 (0, 0))], row22, [(g16, .cells #[.int .i64 l.place_gen] 2 (0, 0))], [(gh7_, .cells #[(pq gh40_)] 81 (0, 0))]]) _ _ (upd _ 79 (.tuple #[]))
     refine WR.done ?_
     refine WC.rs ?_
     refine vb (q_ldl (i := 4) (v := (pq gh40_)) rfl rfl Tryz.isAgg81 rfl rfl) ?_
     refine vb (q_nil (A := some ⟨gh40_, 0, none⟩) rfl rfl rfl) ?_
     refine vb (q_fl 0 fld_146_0 rfl rfl rfl) ?_
     refine vb (q_fl 2 fld_138_2 rfl rfl rfl) ?_
     have hq := (ho23.mono hl65)
     obtain ⟨hrow_70, ho0_70, ho1_70, ho2_70, ho3_70, ho4_70, ho5_70, ho6_70, -⟩ := hq
     intro w hw; have hw := hw.unfold (i := 2) rfl hrow_70
     refine WR.here (C := CC F Γ64 [[(gh40_, .cells #[.pointer (some ⟨el.2, 0, none⟩), .string o21.place_name, .int .i64 o21.place_gen, .int .i64 o21.size, .int .i64 o21.last, .int .i64 o21.tail, .int .i64 o21.count, .int .i64 o21.bytes] 146 (0, 0))], row68, [(gl, .cells #[.pointer (some ⟨el.2, 0, none⟩), .string l.place_name, .int .i64 l.place_gen, .int .i64 l.size, .int .i64 l.last, .int .i64 l.tail, .int .i64 l.count, .int .i64 l.bytes] el.1 (0, 0))], [(g16, .cells #[.int .i64 l.place_gen] 2 (0, 0))], [(gh7_, .cells #[(pq gh40_)] 81 (0, 0))]]) ?_ hw
     clear hw
     refine vb (q_ldl (i := 0) (v := .int .i64 o21.place_gen) rfl rfl Tryz.isAgg2 rfl rfl) ?_
     obtain ⟨z71, hz72, h⟩ := bnd h
     refine e_call (is := []) rfl rfl (call_run Tryz.call95 rfl rfl (by kernel_rfl)) rfl (fun w hp => t_num_PutNum o21.place_gen ho1_70 hp hz72) ?_
     rintro Γ73 U75 v76 hl74 ⟨A77, c78, row79, rfl, rfl, hr80, _⟩
     change WR _ _ _ (CC F Γ73 [row79, [(gh40_, .cells #[.pointer (some ⟨el.2, 0, none⟩), .string o21.place_name, .int .i64 o21.place_gen, .int .i64 o21.size, .int .i64 o21.last, .int .i64 o21.tail, .int .i64 o21.count, .int .i64 o21.bytes] 146 (0, 0))], row68, [(gl, .cells #[.pointer (some ⟨el.2, 0, none⟩), .string l.place_name, .int .i64 l.place_gen, .int .i64 l.size, .int .i64 l.last, .int .i64 l.tail, .int .i64 l.count, .int .i64 l.bytes] el.1 (0, 0))], [(g16, .cells #[.int .i64 l.place_gen] 2 (0, 0))], [(gh7_, .cells #[(pq gh40_)] 81 (0, 0))]]) _ _ (upd _ 86 (.slice A77 z71.length c78))
     have hc85 := hr80.capz
     intro w hw; obtain ⟨Γ81, hw, hl82, hr83⟩ := hw.seal (i := 0) rfl; have hs84 := hr80.sl hl82 hr83
     refine WR.here (C := CC F Γ81 [[], [(gh40_, .cells #[.pointer (some ⟨el.2, 0, none⟩), .string o21.place_name, .int .i64 o21.place_gen, .int .i64 o21.size, .int .i64 o21.last, .int .i64 o21.tail, .int .i64 o21.count, .int .i64 o21.bytes] 146 (0, 0))], row68, [(gl, .cells #[.pointer (some ⟨el.2, 0, none⟩), .string l.place_name, .int .i64 l.place_gen, .int .i64 l.size, .int .i64 l.last, .int .i64 l.tail, .int .i64 l.count, .int .i64 l.bytes] el.1 (0, 0))], [(g16, .cells #[.int .i64 l.place_gen] 2 (0, 0))], [(gh7_, .cells #[(pq gh40_)] 81 (0, 0))]]) ?_ hw
     clear hw
     obtain ⟨z86, hz87, h⟩ := bnd h
     refine e_call (is := []) rfl rfl (call_run Tryz.call81 rfl rfl (by kernel_rfl)) rfl (fun w hp => t_frame_Put hs84 hc85 hp hz87) ?_
     rintro Γ88 U90 v91 hl89 ⟨A92, c93, row94, rfl, rfl, hr95, hr96, _⟩
     change WR _ _ _ (CC F Γ88 [row94, [], [(gh40_, .cells #[.pointer (some ⟨el.2, 0, none⟩), .string o21.place_name, .int .i64 o21.place_gen, .int .i64 o21.size, .int .i64 o21.last, .int .i64 o21.tail, .int .i64 o21.count, .int .i64 o21.bytes] 146 (0, 0))], row68, [(gl, .cells #[.pointer (some ⟨el.2, 0, none⟩), .string l.place_name, .int .i64 l.place_gen, .int .i64 l.size, .int .i64 l.last, .int .i64 l.tail, .int .i64 l.count, .int .i64 l.bytes] el.1 (0, 0))], [(g16, .cells #[.int .i64 l.place_gen] 2 (0, 0))], [(gh7_, .cells #[(pq gh40_)] 81 (0, 0))]]) _ _ (upd _ 87 (.tuple #[.slice A92 z86.1.length c93, .int .i64 z86.2]))
     refine mv (v := .tuple #[.slice A92 z86.1.length c93, .int .i64 z86.2]) ?_
     refine vb (q_extract (v := .slice A92 z86.1.length c93) rfl rfl rfl) ?_
     refine vb (q_extract (v := .int .i64 z86.2) rfl rfl rfl) ?_
     refine as_ (v := .slice A92 z86.1.length c93) ?_
     refine as_ (v := .int .i64 z86.2) ?_
     refine WR.done ?_
     refine WC.seq ?_
     refine WC.seq ?_
     have hc101 := hr95.capz
     intro w hw; obtain ⟨Γ97, hw, hl98, hr99⟩ := hw.seal (i := 0) rfl; have hs100 := hr95.sl hl98 hr99
     refine WC.here (C := CC F Γ97 [[], [], [(gh40_, .cells #[.pointer (some ⟨el.2, 0, none⟩), .string o21.place_name, .int .i64 o21.place_gen, .int .i64 o21.size, .int .i64 o21.last, .int .i64 o21.tail, .int .i64 o21.count, .int .i64 o21.bytes] 146 (0, 0))], row68, [(gl, .cells #[.pointer (some ⟨el.2, 0, none⟩), .string l.place_name, .int .i64 l.place_gen, .int .i64 l.size, .int .i64 l.last, .int .i64 l.tail, .int .i64 l.count, .int .i64 l.bytes] el.1 (0, 0))], [(g16, .cells #[.int .i64 l.place_gen] 2 (0, 0))], [(gh7_, .cells #[(pq gh40_)] 81 (0, 0))]]) ?_ hw
     clear hw
     intro w hw; have h0102 := hw.le
     refine WC.here (C := CC F Γ97 [[], [], [(gh40_, .cells #[.pointer (some ⟨el.2, 0, none⟩), .string o21.place_name, .int .i64 o21.place_gen, .int .i64 o21.size, .int .i64 o21.last, .int .i64 o21.tail, .int .i64 o21.count, .int .i64 o21.bytes] 146 (0, 0))], row68, [(gl, .cells #[.pointer (some ⟨el.2, 0, none⟩), .string l.place_name, .int .i64 l.place_gen, .int .i64 l.size, .int .i64 l.last, .int .i64 l.tail, .int .i64 l.count, .int .i64 l.bytes] el.1 (0, 0))], [(g16, .cells #[.int .i64 l.place_gen] 2 (0, 0))], [(gh7_, .cells #[(pq gh40_)] 81 (0, 0))]]) ?_ hw; clear hw
     refine WC.held (CC F Γ97 [[], [], [(gh40_, .cells #[.pointer (some ⟨el.2, 0, none⟩), .string o21.place_name, .int .i64 o21.place_gen, .int .i64 o21.size, .int .i64 o21.last, .int .i64 o21.tail, .int .i64 o21.count, .int .i64 o21.bytes] 146 (0, 0))], [(gl, .cells #[.pointer (some ⟨el.2, 0, none⟩), .string l.place_name, .int .i64 l.place_gen, .int .i64 l.size, .int .i64 l.last, .int .i64 l.tail, .int .i64 l.count, .int .i64 l.bytes] el.1 (0, 0))], [(g16, .cells #[.int .i64 l.place_gen] 2 (0, 0))], [(gh7_, .cells #[(pq gh40_)] 81 (0, 0))]]) (by kernel_rfl) (fun w hw => hw.drawn _) ?_
     change WH _ _ _ _ (CC F Γ97 [[], [], [(gh40_, .cells #[.pointer (some ⟨el.2, 0, none⟩), .string o21.place_name, .int .i64 o21.place_gen, .int .i64 o21.size, .int .i64 o21.last, .int .i64 o21.tail, .int .i64 o21.count, .int .i64 o21.bytes] 146 (0, 0))], row68, [(gl, .cells #[.pointer (some ⟨el.2, 0, none⟩), .string l.place_name, .int .i64 l.place_gen, .int .i64 l.size, .int .i64 l.last, .int .i64 l.tail, .int .i64 l.count, .int .i64 l.bytes] el.1 (0, 0))], [(g16, .cells #[.int .i64 l.place_gen] 2 (0, 0))], [(gh7_, .cells #[(pq gh40_)] 81 (0, 0))]]) _ 13 #[false, false, false, false, false, false, false, false, false, false, false, false, false] _
     refine hu 0 rfl (bk_ (Gh.refl _) h0102 (.cons_cons _ (.cons_cons _ (.cons_cons _ (.cons _ (.cons_cons _ (.cons_cons _ (.cons_cons _ .slnil)))))))) (q_move (v := (pq gl)) rfl (by kernel_rfl)) ?_
     refine hu 1 rfl (bk_ (Gh.refl _) h0102 (.cons_cons _ (.cons_cons _ (.cons_cons _ (.cons _ (.cons_cons _ (.cons_cons _ (.cons_cons _ .slnil)))))))) (q_nil (A := some ⟨gl, 0, none⟩) rfl rfl rfl) ?_
     refine hu 2 rfl (bk_ (Gh.refl _) h0102 (.cons_cons _ (.cons_cons _ (.cons_cons _ (.cons _ (.cons_cons _ (.cons_cons _ (.cons_cons _ .slnil)))))))) (q_fl 0 fld_146_0 rfl rfl rfl) ?_
     refine hu 3 rfl (bk_ (Gh.refl _) h0102 (.cons_cons _ (.cons_cons _ (.cons_cons _ (.cons _ (.cons_cons _ (.cons_cons _ (.cons_cons _ .slnil)))))))) (q_fl 0 fld_138_0 rfl rfl rfl) ?_
     refine hu 4 rfl (bk_ (Gh.refl _) h0102 (.cons_cons _ (.cons_cons _ (.cons_cons _ (.cons _ (.cons_cons _ (.cons_cons _ (.cons_cons _ .slnil)))))))) (q_ldl (i := 3) (v := .pointer (some ⟨el.2, 0, none⟩)) rfl rfl Tryz.isAgg27 rfl rfl) ?_
     refine hu 5 rfl (bk_ (Gh.refl _) h0102 (.cons_cons _ (.cons_cons _ (.cons_cons _ (.cons _ (.cons_cons _ (.cons_cons _ (.cons_cons _ .slnil)))))))) (q_move (v := (pq gl)) rfl (by kernel_rfl)) ?_
     refine hu 6 rfl (bk_ (Gh.refl _) h0102 (.cons_cons _ (.cons_cons _ (.cons_cons _ (.cons _ (.cons_cons _ (.cons_cons _ (.cons_cons _ .slnil)))))))) (q_nil (A := some ⟨gl, 0, none⟩) rfl rfl rfl) ?_
     refine hu 7 rfl (bk_ (Gh.refl _) h0102 (.cons_cons _ (.cons_cons _ (.cons_cons _ (.cons _ (.cons_cons _ (.cons_cons _ (.cons_cons _ .slnil)))))))) (q_fl 0 fld_146_0 rfl rfl rfl) ?_
     refine hu 8 rfl (bk_ (Gh.refl _) h0102 (.cons_cons _ (.cons_cons _ (.cons_cons _ (.cons _ (.cons_cons _ (.cons_cons _ (.cons_cons _ .slnil)))))))) (q_ldla (i := 3) (vs := [.pointer (some ⟨el.2, 0, none⟩), .string l.place_name, .int .i64 l.place_gen]) rfl rfl Tryz.isAgg138 Tryz.sizeOf138 rfl rfl) ?_
     refine hu 10 rfl (bk_ (Gh.refl _) h0102 (.cons_cons _ (.cons_cons _ (.cons_cons _ (.cons _ (.cons_cons _ (.cons_cons _ (.cons_cons _ .slnil)))))))) (q_move (v := .slice A92 z86.1.length c93) rfl (by kernel_rfl)) ?_
     refine WH.lone (i := 9) (by kernel_rfl) rfl ?_
     obtain ⟨z103, hz104, h⟩ := bnd h
     refine vc rfl rfl rfl (q_call (call_run Tryz.call71 rfl rfl (by kernel_rfl)) (fun w hw => t_seglog_place_list (Γ := Gh.all w) (gp__0 := el.2) l.place_name ho0_61 l.place_gen ho1_61 (Sat.all w) hz104)) ?_
     refine WR.nil ?_
     refine WH.next (bk_ (Gh.refl _) h0102 (.cons_cons _ (.cons_cons _ (.cons_cons _ (.cons _ (.cons_cons _ (.cons_cons _ (.cons_cons _ .slnil)))))))) ?_
     refine WH.lone (i := 11) (by kernel_rfl) rfl ?_
     obtain ⟨hk105, h⟩ := chk_some h
     obtain ⟨z106, hz107, h⟩ := bnd h
     refine e_call (is := [3]) rfl rfl (call_run Tryz.call21 rfl rfl (by kernel_rfl)) rfl (fun w hp => t_disk_Disk_Append (hr69.mono (((hl74.trans hl82).trans hl89).trans hl98)) z103 (of_decide_eq_true hk105) hs100 hc101 hp hz107) ?_
     rintro Γ108 U110 v111 hl109 ⟨row112, rfl, rfl, hr113, hr114, _⟩
     change WR _ _ _ (CC F Γ108 [row112, [], [], [(gh40_, .cells #[.pointer (some ⟨el.2, 0, none⟩), .string o21.place_name, .int .i64 o21.place_gen, .int .i64 o21.size, .int .i64 o21.last, .int .i64 o21.tail, .int .i64 o21.count, .int .i64 o21.bytes] 146 (0, 0))], [(gl, .cells #[.pointer (some ⟨el.2, 0, none⟩), .string l.place_name, .int .i64 l.place_gen, .int .i64 l.size, .int .i64 l.last, .int .i64 l.tail, .int .i64 l.count, .int .i64 l.bytes] el.1 (0, 0))], [(g16, .cells #[.int .i64 l.place_gen] 2 (0, 0))], [(gh7_, .cells #[(pq gh40_)] 81 (0, 0))]]) _ _ (upd _ 101 (.int .i64 z106.2))
     refine WR.nil ?_
     refine WH.next (bk_ hl109 h0102 (.cons _ (.cons_cons _ (.cons_cons _ (.cons_cons _ (.cons_cons _ (.cons_cons _ (.cons_cons _ .slnil)))))))) ?_
     refine hu 12 rfl (bk_ hl109 h0102 (.cons _ (.cons_cons _ (.cons_cons _ (.cons_cons _ (.cons_cons _ (.cons_cons _ (.cons_cons _ .slnil)))))))) (q_assign (v := .int .i64 z106.2) rfl (by kernel_rfl)) ?_
     refine WH.done (by kernel_rfl) ?_
     change WC _ _ _ _ _ _
     refine WC.rs ?_
     refine mv (v := .int .i64 z106.2) ?_
     refine vb (q_neq rfl rfl rfl) ?_
     refine WR.done ?_
     refine WC.cif h (by kernel_rfl) (fun hb115 h => ?_) (fun hb115 h => ?_)
     ·
      refine WC.rs ?_
      refine vb (q_ldl (i := 6) (v := (pq gh40_)) rfl rfl Tryz.isAgg81 rfl rfl) ?_
      refine vb (q_nil (A := some ⟨gh40_, 0, none⟩) rfl rfl rfl) ?_
      refine vb (q_fl 0 fld_146_0 rfl rfl rfl) ?_
      refine vb (q_ldla (i := 3) (vs := [.pointer (some ⟨el.2, 0, none⟩), .string o21.place_name, .int .i64 o21.place_gen]) rfl rfl Tryz.isAgg138 Tryz.sizeOf138 rfl rfl) ?_
      refine vb (q_mkfn (v := .func (.func 96) #[] #[(pq gh7_)]) rfl (by kernel_rfl)) ?_
      intro w hw; have hw := hw.fold (is := [3]) rfl hrow_70
      refine WR.here (C := CC F Γ108 [row22, row112, [], [], [(gl, .cells #[.pointer (some ⟨el.2, 0, none⟩), .string l.place_name, .int .i64 l.place_gen, .int .i64 l.size, .int .i64 l.last, .int .i64 l.tail, .int .i64 l.count, .int .i64 l.bytes] el.1 (0, 0))], [(g16, .cells #[.int .i64 l.place_gen] 2 (0, 0))], [(gh7_, .cells #[(pq gh40_)] 81 (0, 0))]]) ?_ hw
      clear hw
      obtain ⟨rowT117, hT118⟩ : ∃ r : Rowb, r = ([[(gh7_, .cells #[(pq gh40_)] 81 (0, 0))], row22] : List Rowb).flatten := ⟨_, rfl⟩
      refine WR.sub (fun w hw => hw.fold (is := [6, 0]) rfl hT118) ?_
      obtain ⟨z119, hz120, h⟩ := bnd h
      refine e_call (is := [1, 0]) rfl rfl (call_run Tryz.call72 rfl rfl (by kernel_rfl)) rfl (fun w hp => t_seglog_place_remove (caps := #[(pq gh7_)]) hr113 o21.place_name ho0_70 o21.place_gen ho1_70 (fun x y => m_seglog_Log_Rewrite_2 x y o21) (fun {Γq_ wq_} x hx y hy hle hp2 {_} hq => Calls.mono (t_seglog_Log_Rewrite_2 (Γ := Γq_) x hx y hy ((ho23.mono (((((hl65.trans hl74).trans hl82).trans hl89).trans hl98).trans hl109)).mono hle) (by subst hT118; exact hp2.parts) hq) (fun e w2 ho => Outc.quiet (by subst hT118; exact hp2.parts) ho (fun _ _ _ hr => ⟨hr.1, hr.2.1⟩))) Tryz.call96 hp hz120) ?_
      rintro Γ121 U123 v124 hl122 ⟨row125, rfl, rfl, hd126⟩
      change WR _ _ _ (CC F Γ121 [row125, rowT117, [], [], [(gl, .cells #[.pointer (some ⟨el.2, 0, none⟩), .string l.place_name, .int .i64 l.place_gen, .int .i64 l.size, .int .i64 l.last, .int .i64 l.tail, .int .i64 l.count, .int .i64 l.bytes] el.1 (0, 0))], [(g16, .cells #[.int .i64 l.place_gen] 2 (0, 0))]]) _ _ (upd _ 109 (.tuple #[]))
      refine WR.sub (fun w hw => hw.unfold (i := 1) rfl hT118) ?_
      change WR _ _ _ (CC F Γ121 [[(gh7_, .cells #[(pq gh40_)] 81 (0, 0))], row22, row125, [], [], [(gl, .cells #[.pointer (some ⟨el.2, 0, none⟩), .string l.place_name, .int .i64 l.place_gen, .int .i64 l.size, .int .i64 l.last, .int .i64 l.tail, .int .i64 l.count, .int .i64 l.bytes] el.1 (0, 0))], [(g16, .cells #[.int .i64 l.place_gen] 2 (0, 0))]]) _ _ _
      refine WR.done ?_
      refine WC.rs ?_
      refine mv (v := .int .i64 z106.2) ?_
      refine as_ (v := .int .i64 z106.2) ?_
      refine WR.done ?_
      refine WC.ret ?_
      intro w hw
      have hw := hw.fold (is := [5]) rfl hrow_61
      obtain rfl := Option.some.inj h
      subst hF
      exact end_e (is := [0, 2]) (by kernel_rfl) hw rfl ⟨rowl, row125, rfl, rfl, (hl.mono (((((((hl20.trans hl65).trans hl74).trans hl82).trans hl89).trans hl98).trans hl109).trans hl122)), hd126, hr114, trivial⟩
     ·
      refine WC.skip ?_
      change WC _ _ _ _ _ _
      refine WC.rs ?_
      refine mv (v := (pq gl)) ?_
      refine vb (q_nil (A := some ⟨gl, 0, none⟩) rfl rfl rfl) ?_
      refine vb (q_fl 0 fld_146_0 rfl rfl rfl) ?_
      refine vb (q_fl 0 fld_138_0 rfl rfl rfl) ?_
      refine vb (q_ldl (i := 4) (v := .pointer (some ⟨el.2, 0, none⟩)) rfl rfl Tryz.isAgg27 rfl rfl) ?_
      obtain ⟨z128, hz129, h⟩ := bnd h
      refine e_call (is := [0]) rfl rfl (call_run Tryz.call76 rfl rfl (by kernel_rfl)) rfl (fun w hp => t_disk_Disk_Sync hr113 hp hz129) ?_
      rintro Γ130 U132 v133 hl131 ⟨row134, rfl, rfl, hr135, _⟩
      change WR _ _ _ (CC F Γ130 [row134, [], [], [(gh40_, .cells #[.pointer (some ⟨el.2, 0, none⟩), .string o21.place_name, .int .i64 o21.place_gen, .int .i64 o21.size, .int .i64 o21.last, .int .i64 o21.tail, .int .i64 o21.count, .int .i64 o21.bytes] 146 (0, 0))], [(gl, .cells #[.pointer (some ⟨el.2, 0, none⟩), .string l.place_name, .int .i64 l.place_gen, .int .i64 l.size, .int .i64 l.last, .int .i64 l.tail, .int .i64 l.count, .int .i64 l.bytes] el.1 (0, 0))], [(g16, .cells #[.int .i64 l.place_gen] 2 (0, 0))], [(gh7_, .cells #[(pq gh40_)] 81 (0, 0))]]) _ _ (upd _ 116 (.tuple #[]))
      refine WR.done ?_
      refine WC.rs ?_
      refine vb (q_ldl (i := 6) (v := (pq gh40_)) rfl rfl Tryz.isAgg81 rfl rfl) ?_
      refine vb (q_nil (A := some ⟨gh40_, 0, none⟩) rfl rfl rfl) ?_
      refine vb (q_fl 0 fld_146_0 rfl rfl rfl) ?_
      refine vb (q_ldla (i := 3) (vs := [.pointer (some ⟨el.2, 0, none⟩), .string o21.place_name, .int .i64 o21.place_gen]) rfl rfl Tryz.isAgg138 Tryz.sizeOf138 rfl rfl) ?_
      refine vb (q_mkfn (v := .func (.func 97) #[] #[(pq g16)]) rfl (by kernel_rfl)) ?_
      obtain ⟨rowT136, hT137⟩ : ∃ r : Rowb, r = ([[(g16, .cells #[.int .i64 l.place_gen] 2 (0, 0))]] : List Rowb).flatten := ⟨_, rfl⟩
      refine WR.sub (fun w hw => hw.fold (is := [5]) rfl hT137) ?_
      obtain ⟨z138, hz139, h⟩ := bnd h
      refine e_call (is := [1, 0]) rfl rfl (call_run Tryz.call72 rfl rfl (by kernel_rfl)) rfl (fun w hp => t_seglog_place_remove (caps := #[(pq g16)]) hr135 o21.place_name ho0_70 o21.place_gen ho1_70 (fun x y => m_seglog_Log_Rewrite_3 x y l.place_gen) (fun {Γq_ wq_} x hx y hy hle hp2 {_} hq => Calls.mono (t_seglog_Log_Rewrite_3 (Γ := Γq_) x hx y hy l.place_gen ho1_12 (by subst hT137; exact hp2.parts) hq) (fun e w2 ho => Outc.quiet (by subst hT137; exact hp2.parts) ho (fun _ _ _ hr => ⟨hr.1, hr.2.1⟩))) Tryz.call97 hp hz139) ?_
      rintro Γ140 U142 v143 hl141 ⟨row144, rfl, rfl, hd145⟩
      change WR _ _ _ (CC F Γ140 [row144, rowT136, [], [], [(gh40_, .cells #[.pointer (some ⟨el.2, 0, none⟩), .string o21.place_name, .int .i64 o21.place_gen, .int .i64 o21.size, .int .i64 o21.last, .int .i64 o21.tail, .int .i64 o21.count, .int .i64 o21.bytes] 146 (0, 0))], [(gl, .cells #[.pointer (some ⟨el.2, 0, none⟩), .string l.place_name, .int .i64 l.place_gen, .int .i64 l.size, .int .i64 l.last, .int .i64 l.tail, .int .i64 l.count, .int .i64 l.bytes] el.1 (0, 0))], [(gh7_, .cells #[(pq gh40_)] 81 (0, 0))]]) _ _ (upd _ 122 (.tuple #[]))
      refine WR.sub (fun w hw => hw.unfold (i := 1) rfl hT137) ?_
      change WR _ _ _ (CC F Γ140 [[(g16, .cells #[.int .i64 l.place_gen] 2 (0, 0))], row144, [], [], [(gh40_, .cells #[.pointer (some ⟨el.2, 0, none⟩), .string o21.place_name, .int .i64 o21.place_gen, .int .i64 o21.size, .int .i64 o21.last, .int .i64 o21.tail, .int .i64 o21.count, .int .i64 o21.bytes] 146 (0, 0))], [(gl, .cells #[.pointer (some ⟨el.2, 0, none⟩), .string l.place_name, .int .i64 l.place_gen, .int .i64 l.size, .int .i64 l.last, .int .i64 l.tail, .int .i64 l.count, .int .i64 l.bytes] el.1 (0, 0))], [(gh7_, .cells #[(pq gh40_)] 81 (0, 0))]]) _ _ _
      refine WR.done ?_
      refine WC.rs ?_
      refine mv (v := (pq gl)) ?_
      refine vb (q_nil (A := some ⟨gl, 0, none⟩) rfl rfl rfl) ?_
      refine vb (q_fl 0 fld_146_0 rfl rfl rfl) ?_
      refine vb (q_fl 0 fld_138_0 rfl rfl rfl) ?_
      refine vb (q_ldl (i := 5) (v := .pointer (some ⟨el.2, 0, none⟩)) rfl rfl Tryz.isAgg27 rfl rfl) ?_
      obtain ⟨z146, hz147, h⟩ := bnd h
      refine e_call (is := [1]) rfl rfl (call_run Tryz.call76 rfl rfl (by kernel_rfl)) rfl (fun w hp => t_disk_Disk_Sync hd145 hp hz147) ?_
      rintro Γ148 U150 v151 hl149 ⟨row152, rfl, rfl, hr153, _⟩
      change WR _ _ _ (CC F Γ148 [row152, [(g16, .cells #[.int .i64 l.place_gen] 2 (0, 0))], [], [], [(gh40_, .cells #[.pointer (some ⟨el.2, 0, none⟩), .string o21.place_name, .int .i64 o21.place_gen, .int .i64 o21.size, .int .i64 o21.last, .int .i64 o21.tail, .int .i64 o21.count, .int .i64 o21.bytes] 146 (0, 0))], [(gl, .cells #[.pointer (some ⟨el.2, 0, none⟩), .string l.place_name, .int .i64 l.place_gen, .int .i64 l.size, .int .i64 l.last, .int .i64 l.tail, .int .i64 l.count, .int .i64 l.bytes] el.1 (0, 0))], [(gh7_, .cells #[(pq gh40_)] 81 (0, 0))]]) _ _ (upd _ 128 (.tuple #[]))
      refine WR.done ?_
      refine WC.rs ?_
      refine mv (v := (pq gl)) ?_
      refine vb (q_ldl (i := 6) (v := (pq gh40_)) rfl rfl Tryz.isAgg81 rfl rfl) ?_
      refine vb (q_nil (A := some ⟨gh40_, 0, none⟩) rfl rfl rfl) ?_
      refine vb (q_ldla (i := 4) (vs := [.pointer (some ⟨el.2, 0, none⟩), .string o21.place_name, .int .i64 o21.place_gen, .int .i64 o21.size, .int .i64 o21.last, .int .i64 o21.tail, .int .i64 o21.count, .int .i64 o21.bytes]) rfl rfl Tryz.isAgg146 Tryz.sizeOf146 rfl rfl) ?_
      refine vb (q_nil (A := some ⟨gl, 0, none⟩) rfl rfl rfl) ?_
      refine e_st (i := 5) (v := .agg #[.pointer (some ⟨el.2, 0, none⟩), .string o21.place_name, .int .i64 o21.place_gen, .int .i64 o21.size, .int .i64 o21.last, .int .i64 o21.tail, .int .i64 o21.count, .int .i64 o21.bytes]) (new := #[.pointer (some ⟨el.2, 0, none⟩), .string o21.place_name, .int .i64 o21.place_gen, .int .i64 o21.size, .int .i64 o21.last, .int .i64 o21.tail, .int .i64 o21.count, .int .i64 o21.bytes]) rfl Tryz.sizeOf146 rfl rfl rfl rfl (by kernel_rfl) rfl rfl rfl rfl ?_
      refine WR.done ?_
      refine WC.rs ?_
      refine as_ (v := .int .i64 0) ?_
      refine WR.done ?_
      refine WC.ret ?_
      intro w hw
      obtain ⟨row_154, hrow_154, hob_154⟩ : ∃ rw : Rowb, rw = ([[(gl, .cells #[.pointer (some ⟨el.2, 0, none⟩), .string o21.place_name, .int .i64 o21.place_gen, .int .i64 o21.size, .int .i64 o21.last, .int .i64 o21.tail, .int .i64 o21.count, .int .i64 o21.bytes] el.1 (0, 0))]] : List Rowb).flatten ∧ Oseglog_Log.ob el Γ148 gl rw (⟨o21.place_name, o21.place_gen, o21.size, o21.last, o21.tail, o21.count, o21.bytes⟩ : Oseglog_Log) := ⟨_, rfl, rfl, ho0_70, ho1_70, ho2_70, ho3_70, ho4_70, ho5_70, ho6_70, trivial⟩
      have hw := hw.fold (is := [5]) rfl hrow_154
      obtain rfl := Option.some.inj h
      subst hF
      exact end_e (is := [0, 0]) (by kernel_rfl) hw rfl ⟨row_154, row152, rfl, rfl, hob_154, hr153, (show I64 0 by decide), trivial⟩
   ·
    refine ⟨_, rfl, ?_⟩
    refine e_alloc Tryz.zeroValue81 rfl rfl rfl rfl ?_
    intro g16
    refine WR.nil ?_
    refine WH.next (bk_ (Gh.refl _) h015 (.cons _ (.cons_cons _ (.cons _ .slnil)))) ?_
    refine WH.lone (i := 9) (by kernel_rfl) rfl ?_
    refine e_box (v := .agg #[.pointer (some ⟨el.2, 0, none⟩), .string l.place_name, .int .i64 l.place_gen, .int .i64 l.size, .int .i64 0, .int .i64 0, .int .i64 0, .int .i64 0]) rfl rfl rfl rfl (by kernel_rfl) ?_
    intro gh40_
    refine WR.nil ?_
    refine WH.next (bk_ (Gh.refl _) h015 (.cons _ (.cons _ (.cons_cons _ (.cons _ .slnil))))) ?_
    refine WH.lone (i := 11) (by kernel_rfl) rfl ?_
    refine e_st (i := 1) (v := (pq gh40_)) (new := #[(pq gh40_)]) rfl Tryz.sizeOf81 rfl rfl rfl rfl (by kernel_rfl) rfl rfl rfl rfl ?_
    refine WR.nil ?_
    refine WH.next (bk_ (Gh.refl _) h015 (.cons _ (.cons _ (.cons_cons _ (.cons _ .slnil))))) ?_
    refine WH.done (by kernel_rfl) ?_
    change WC _ _ _ _ _ _
    refine WC.rs ?_
    refine vb (q_ldl (i := 1) (v := (pq gh40_)) rfl rfl Tryz.isAgg81 rfl rfl) ?_
    refine vb (q_nil (A := some ⟨gh40_, 0, none⟩) rfl rfl rfl) ?_
    refine vb (q_fl 0 fld_146_0 rfl rfl rfl) ?_
    refine vb (q_fl 2 fld_138_2 rfl rfl rfl) ?_
    refine vb (q_ldl (i := 0) (v := .int .i64 l.place_gen) rfl rfl Tryz.isAgg2 rfl rfl) ?_
    refine vb (q_add rfl rfl rfl) ?_
    refine vb (q_nil (A := some ⟨gh40_, 0, none⟩) rfl rfl rfl) ?_
    refine vb (q_fl 0 fld_146_0 rfl rfl rfl) ?_
    refine vb (q_fl 2 fld_138_2 rfl rfl rfl) ?_
    refine e_st (i := 0) (v := .int .i64 (w64 (l.place_gen + 1))) (new := #[.pointer (some ⟨el.2, 0, none⟩), .string l.place_name, .int .i64 (w64 (l.place_gen + 1)), .int .i64 l.size, .int .i64 0, .int .i64 0, .int .i64 0, .int .i64 0]) rfl Tryz.sizeOf2 rfl rfl rfl rfl (by kernel_rfl) rfl rfl rfl rfl ?_
    refine WR.done ?_
    refine WC.rs ?_
    refine mv (v := (pq gl)) ?_
    refine vb (q_nil (A := some ⟨gl, 0, none⟩) rfl rfl rfl) ?_
    refine vb (q_fl 0 fld_146_0 rfl rfl rfl) ?_
    refine vb (q_fl 2 fld_138_2 rfl rfl rfl) ?_
    refine vb (q_ldl (i := 2) (v := .int .i64 l.place_gen) rfl rfl Tryz.isAgg2 rfl rfl) ?_
    refine e_alloc Tryz.zeroValue2 rfl rfl rfl rfl ?_
    intro g17
    refine e_st (i := 0) (v := .int .i64 l.place_gen) (new := #[.int .i64 l.place_gen]) rfl Tryz.sizeOf2 rfl rfl rfl rfl (by kernel_rfl) rfl rfl rfl rfl ?_
    refine WR.done ?_
    refine WC.seq ?_
    refine WC.rs ?_
    refine mv (v := .slice Alist list.length clist) ?_
    refine vb (q_len_slice rfl Tryz.underlying82 rfl) ?_
    refine mv (v := .int .i64 0) ?_
    refine WR.done ?_
    refine WC.block ?_
    intro w hw; have hw := hw.fold (is := [3]) rfl hrow_12
    refine WC.here (C := CC F Γ [rowl, [(g17, .cells #[.int .i64 l.place_gen] 2 (0, 0))], [(gh40_, .cells #[.pointer (some ⟨el.2, 0, none⟩), .string l.place_name, .int .i64 (w64 (l.place_gen + 1)), .int .i64 l.size, .int .i64 0, .int .i64 0, .int .i64 0, .int .i64 0] 146 (0, 0))], [(g16, .cells #[(pq gh40_)] 81 (0, 0))], rowdk0]) ?_ hw
    clear hw
    obtain ⟨row_19, hrow_19, hob_19⟩ : ∃ rw : Rowb, rw = ([[(gh40_, .cells #[.pointer (some ⟨el.2, 0, none⟩), .string l.place_name, .int .i64 (w64 (l.place_gen + 1)), .int .i64 l.size, .int .i64 0, .int .i64 0, .int .i64 0, .int .i64 0] 146 (0, 0))]] : List Rowb).flatten ∧ Oseglog_Log.ob (146, el.2) Γ gh40_ rw (⟨l.place_name, (w64 (l.place_gen + 1)), l.size, 0, 0, 0, 0⟩ : Oseglog_Log) := ⟨_, rfl, rfl, ho0_12, (w64_r _), ho2_12, (show I64 0 by decide), (show I64 0 by decide), (show I64 0 by decide), (show I64 0 by decide), trivial⟩
    intro w hw; have hw := hw.fold (is := [2]) rfl hrow_19
    refine WC.here (C := CC F Γ [row_19, rowl, [(g17, .cells #[.int .i64 l.place_gen] 2 (0, 0))], [(g16, .cells #[(pq gh40_)] 81 (0, 0))], rowdk0]) ?_ hw
    clear hw
    refine WC.forI h (fun (i29 : Nat) (s : Oseglog_Log × Odisk_Disk) σ w => match s with | (o22, o25) => ∃ (Γ20 : Gh), ∃ (row23 : Rowb), ∃ (row26 : Rowb), slots σ [(0, (pq gl)), (7, (pq g16)), (8, (pq g17)), (55, .slice Alist list.length clist), (56, .int .i64 ((list.length : Nat) : Int)), (57, .int .i64 ((i29 : Nat) : Int))] ∧ CC F Γ20 [row23, rowl, [(g17, .cells #[.int .i64 l.place_gen] 2 (0, 0))], [(g16, .cells #[(pq gh40_)] 81 (0, 0))], row26] w ∧ Gh.le Γ Γ20 ∧ Oseglog_Log.ob (146, el.2) Γ20 gh40_ row23 o22 ∧ Odisk_Disk.ob edk0 Γ20 el.2 row26 o25 ∧ True) ?_ ?_
    ·
     intro w hw
     exact ⟨Γ, row_19, rowdk0, (sl_ (by kernel_rfl)), hw, (Gh.refl _), hob_19, hdk0, trivial⟩
    rintro f28 i29 ⟨o22, o25⟩ σ w hi30 hlt31 hge32 ⟨Γ20, row23, row26, hsl, hw, hl21, ho24, ho27, -⟩
    refine Wpt.slots hsl ?_
    refine WC.here (C := CC F Γ20 [row23, rowl, [(g17, .cells #[.int .i64 l.place_gen] 2 (0, 0))], [(g16, .cells #[(pq gh40_)] 81 (0, 0))], row26]) ?_ hw
    clear hw hsl
    refine WC.rs ?_
    refine vb (q_lss rfl rfl rfl) ?_
    refine WR.done ?_
    refine WC.seq ?_
    refine WC.cond (b := (decide (((i29 : Nat) : Int) < ((list.length : Nat) : Int)))) (by kernel_rfl) (fun hb33 => ?_) (fun hb33 => ?_)
    ·
     have hl34 := ilt hb33
     have h := hlt31 hl34
     refine WC.skip ?_
     change WC _ _ _ _ _ _
     refine WC.seq ?_
     refine WC.block ?_
     refine WC.rs ?_
     refine vb (q_ixn (i := i29) Tryz.underlying82 Tryz.sizeOf51 rfl rfl rfl hl34 ((hlist.mono hl21).some_ hl34)) ?_
     obtain ⟨A35, c36, hx37⟩ := (hlist.mono hl21).slT_at i29
     refine vb (q_ld (c := 0) (v := .slice A35 (gt list i29).length c36) (hx37 hl34).2 rfl Tryz.isAgg51 rfl rfl) ?_
     refine as_ (v := .slice A35 (gt list i29).length c36) ?_
     refine WR.done ?_
     refine WC.rs ?_
     refine vb (q_ldl (i := 3) (v := (pq gh40_)) rfl rfl Tryz.isAgg81 rfl rfl) ?_
     refine mv (v := .slice A35 (gt list i29).length c36) ?_
     obtain ⟨z38, hz39, h⟩ := bnd h
     refine e_call (is := [0, 3]) rfl rfl (call_run Tryz.call37 rfl rfl (by kernel_rfl)) rfl (fun w hp => t_seglog_Log_Append ho24 (hx37 hl34).1.2 (hx37 hl34).1.1 ho27 hp hz39) ?_
     rintro Γ40 U42 v43 hl41 ⟨row44, row46, rfl, rfl, hr45, hr47, hr48, _⟩
     change WR _ _ _ (CC F Γ40 [row44, row46, rowl, [(g17, .cells #[.int .i64 l.place_gen] 2 (0, 0))], [(g16, .cells #[(pq gh40_)] 81 (0, 0))]]) _ _ (upd _ 63 (.int .i64 z38.2.2))
     refine as_ (v := .int .i64 z38.2.2) ?_
     refine WR.done ?_
     refine WC.rs ?_
     refine mv (v := .int .i64 z38.2.2) ?_
     refine vb (q_neq rfl rfl rfl) ?_
     refine WR.done ?_
     refine WC.cif h (by kernel_rfl) (fun hb49 h => ?_) (fun hb49 h => ?_)
     ·
      refine WC.rs ?_
      refine vb (q_ldl (i := 4) (v := (pq gh40_)) rfl rfl Tryz.isAgg81 rfl rfl) ?_
      refine vb (q_nil (A := some ⟨gh40_, 0, none⟩) rfl rfl rfl) ?_
      refine vb (q_fl 0 fld_146_0 rfl rfl rfl) ?_
      have hq := hr45
      obtain ⟨hrow_50, ho0_50, ho1_50, ho2_50, ho3_50, ho4_50, ho5_50, ho6_50, -⟩ := hq
      intro w hw; have hw := hw.unfold (i := 0) rfl hrow_50
      refine WR.here (C := CC F Γ40 [[(gh40_, .cells #[.pointer (some ⟨el.2, 0, none⟩), .string z38.1.place_name, .int .i64 z38.1.place_gen, .int .i64 z38.1.size, .int .i64 z38.1.last, .int .i64 z38.1.tail, .int .i64 z38.1.count, .int .i64 z38.1.bytes] 146 (0, 0))], row46, rowl, [(g17, .cells #[.int .i64 l.place_gen] 2 (0, 0))], [(g16, .cells #[(pq gh40_)] 81 (0, 0))]]) ?_ hw
      clear hw
      refine vb (q_ldla (i := 0) (vs := [.pointer (some ⟨el.2, 0, none⟩), .string z38.1.place_name, .int .i64 z38.1.place_gen]) rfl rfl Tryz.isAgg138 Tryz.sizeOf138 rfl rfl) ?_
      refine vb (q_mkfn (v := .func (.func 94) #[] #[(pq g16)]) rfl (by kernel_rfl)) ?_
      intro w hw; have hw := hw.fold (is := [0]) rfl hrow_50
      refine WR.here (C := CC F Γ40 [row44, row46, rowl, [(g17, .cells #[.int .i64 l.place_gen] 2 (0, 0))], [(g16, .cells #[(pq gh40_)] 81 (0, 0))]]) ?_ hw
      clear hw
      obtain ⟨rowT52, hT53⟩ : ∃ r : Rowb, r = ([[(g16, .cells #[(pq gh40_)] 81 (0, 0))], row44] : List Rowb).flatten := ⟨_, rfl⟩
      refine WR.sub (fun w hw => hw.fold (is := [4, 0]) rfl hT53) ?_
      obtain ⟨z54, hz55, h⟩ := bnd h
      refine e_call (is := [1, 0]) rfl rfl (call_run Tryz.call72 rfl rfl (by kernel_rfl)) rfl (fun w hp => t_seglog_place_remove (caps := #[(pq g16)]) hr47 z38.1.place_name ho0_50 z38.1.place_gen ho1_50 (fun x y => m_seglog_Log_Rewrite_1 x y z38.1) (fun {Γq_ wq_} x hx y hy hle hp2 {_} hq => Calls.mono (t_seglog_Log_Rewrite_1 (Γ := Γq_) x hx y hy (hr45.mono hle) (by subst hT53; exact hp2.parts) hq) (fun e w2 ho => Outc.quiet (by subst hT53; exact hp2.parts) ho (fun _ _ _ hr => ⟨hr.1, hr.2.1⟩))) Tryz.call94 hp hz55) ?_
      rintro Γ56 U58 v59 hl57 ⟨row60, rfl, rfl, hd61⟩
      change WR _ _ _ (CC F Γ56 [row60, rowT52, rowl, [(g17, .cells #[.int .i64 l.place_gen] 2 (0, 0))]]) _ _ (upd _ 71 (.tuple #[]))
      refine WR.sub (fun w hw => hw.unfold (i := 1) rfl hT53) ?_
      change WR _ _ _ (CC F Γ56 [[(g16, .cells #[(pq gh40_)] 81 (0, 0))], row44, row60, rowl, [(g17, .cells #[.int .i64 l.place_gen] 2 (0, 0))]]) _ _ _
      refine WR.done ?_
      refine WC.rs ?_
      refine mv (v := .int .i64 z38.2.2) ?_
      refine as_ (v := .int .i64 z38.2.2) ?_
      refine WR.done ?_
      refine WC.ret ?_
      intro w hw
      obtain rfl := Option.some.inj h
      subst hF
      exact end_e (is := [3, 2]) (by kernel_rfl) hw rfl ⟨rowl, row60, rfl, rfl, (hl.mono ((hl21.trans hl41).trans hl57)), hd61, hr48, trivial⟩
     ·
      refine WC.skip ?_
      change WC _ _ _ _ _ _
      refine WC.region ?_
      refine vb (q_add_r (r := ((i29 + 1 : Nat) : Int)) rfl rfl rfl (ctr_len hl34 (hlist.mono hl21).le)) ?_
      refine mv (v := .int .i64 ((i29 + 1 : Nat) : Int)) ?_
      refine WR.nil ?_
      intro w hw
      exact ⟨hl34, (z38.1, z38.2.1), h, Γ40, row44, row46, (sl_ (by kernel_rfl)), (hw.only (is := [0, 1, 1, 1, 0]) rfl), (hl21.trans hl41), hr45, hr47, trivial⟩
    ·
     have h := hge32 (ige hb33)
     refine WC.exit ?_
     change WC _ _ _ _ _ _
     refine WC.rs ?_
     refine mv (v := (pq gl)) ?_
     refine vb (q_nil (A := some ⟨gl, 0, none⟩) rfl rfl rfl) ?_
     refine vb (q_fl 0 fld_146_0 rfl rfl rfl) ?_
     refine vb (q_fl 0 fld_138_0 rfl rfl rfl) ?_
     have hq := (hl.mono hl21)
     obtain ⟨hrow_62, ho0_62, ho1_62, ho2_62, ho3_62, ho4_62, ho5_62, ho6_62, -⟩ := hq
     intro w hw; have hw := hw.unfold (i := 1) rfl hrow_62
     refine WR.here (C := CC F Γ20 [[(gl, .cells #[.pointer (some ⟨el.2, 0, none⟩), .string l.place_name, .int .i64 l.place_gen, .int .i64 l.size, .int .i64 l.last, .int .i64 l.tail, .int .i64 l.count, .int .i64 l.bytes] el.1 (0, 0))], row23, [(g17, .cells #[.int .i64 l.place_gen] 2 (0, 0))], [(g16, .cells #[(pq gh40_)] 81 (0, 0))], row26]) ?_ hw
     clear hw
     refine vb (q_ldl (i := 0) (v := .pointer (some ⟨el.2, 0, none⟩)) rfl rfl Tryz.isAgg27 rfl rfl) ?_
     obtain ⟨z63, hz64, h⟩ := bnd h
     refine e_call (is := [4]) rfl rfl (call_run Tryz.call76 rfl rfl (by kernel_rfl)) rfl (fun w hp => t_disk_Disk_Sync ho27 hp hz64) ?_
     rintro Γ65 U67 v68 hl66 ⟨row69, rfl, rfl, hr70, _⟩
     change WR _ _ _ (CC F Γ65 [row69, [(gl, .cells #[.pointer (some ⟨el.2, 0, none⟩), .string l.place_name, .int .i64 l.place_gen, .int .i64 l.size, .int .i64 l.last, .int .i64 l.tail, .int .i64 l.count, .int .i64 l.bytes] el.1 (0, 0))], row23, [(g17, .cells #[.int .i64 l.place_gen] 2 (0, 0))], [(g16, .cells #[(pq gh40_)] 81 (0, 0))]]) _ _ (upd _ 79 (.tuple #[]))
     refine WR.done ?_
     refine WC.rs ?_
     refine vb (q_ldl (i := 4) (v := (pq gh40_)) rfl rfl Tryz.isAgg81 rfl rfl) ?_
     refine vb (q_nil (A := some ⟨gh40_, 0, none⟩) rfl rfl rfl) ?_
     refine vb (q_fl 0 fld_146_0 rfl rfl rfl) ?_
     refine vb (q_fl 2 fld_138_2 rfl rfl rfl) ?_
     have hq := (ho24.mono hl66)
     obtain ⟨hrow_71, ho0_71, ho1_71, ho2_71, ho3_71, ho4_71, ho5_71, ho6_71, -⟩ := hq
     intro w hw; have hw := hw.unfold (i := 2) rfl hrow_71
     refine WR.here (C := CC F Γ65 [[(gh40_, .cells #[.pointer (some ⟨el.2, 0, none⟩), .string o22.place_name, .int .i64 o22.place_gen, .int .i64 o22.size, .int .i64 o22.last, .int .i64 o22.tail, .int .i64 o22.count, .int .i64 o22.bytes] 146 (0, 0))], row69, [(gl, .cells #[.pointer (some ⟨el.2, 0, none⟩), .string l.place_name, .int .i64 l.place_gen, .int .i64 l.size, .int .i64 l.last, .int .i64 l.tail, .int .i64 l.count, .int .i64 l.bytes] el.1 (0, 0))], [(g17, .cells #[.int .i64 l.place_gen] 2 (0, 0))], [(g16, .cells #[(pq gh40_)] 81 (0, 0))]]) ?_ hw
     clear hw
     refine vb (q_ldl (i := 0) (v := .int .i64 o22.place_gen) rfl rfl Tryz.isAgg2 rfl rfl) ?_
     obtain ⟨z72, hz73, h⟩ := bnd h
     refine e_call (is := []) rfl rfl (call_run Tryz.call95 rfl rfl (by kernel_rfl)) rfl (fun w hp => t_num_PutNum o22.place_gen ho1_71 hp hz73) ?_
     rintro Γ74 U76 v77 hl75 ⟨A78, c79, row80, rfl, rfl, hr81, _⟩
     change WR _ _ _ (CC F Γ74 [row80, [(gh40_, .cells #[.pointer (some ⟨el.2, 0, none⟩), .string o22.place_name, .int .i64 o22.place_gen, .int .i64 o22.size, .int .i64 o22.last, .int .i64 o22.tail, .int .i64 o22.count, .int .i64 o22.bytes] 146 (0, 0))], row69, [(gl, .cells #[.pointer (some ⟨el.2, 0, none⟩), .string l.place_name, .int .i64 l.place_gen, .int .i64 l.size, .int .i64 l.last, .int .i64 l.tail, .int .i64 l.count, .int .i64 l.bytes] el.1 (0, 0))], [(g17, .cells #[.int .i64 l.place_gen] 2 (0, 0))], [(g16, .cells #[(pq gh40_)] 81 (0, 0))]]) _ _ (upd _ 86 (.slice A78 z72.length c79))
     have hc86 := hr81.capz
     intro w hw; obtain ⟨Γ82, hw, hl83, hr84⟩ := hw.seal (i := 0) rfl; have hs85 := hr81.sl hl83 hr84
     refine WR.here (C := CC F Γ82 [[], [(gh40_, .cells #[.pointer (some ⟨el.2, 0, none⟩), .string o22.place_name, .int .i64 o22.place_gen, .int .i64 o22.size, .int .i64 o22.last, .int .i64 o22.tail, .int .i64 o22.count, .int .i64 o22.bytes] 146 (0, 0))], row69, [(gl, .cells #[.pointer (some ⟨el.2, 0, none⟩), .string l.place_name, .int .i64 l.place_gen, .int .i64 l.size, .int .i64 l.last, .int .i64 l.tail, .int .i64 l.count, .int .i64 l.bytes] el.1 (0, 0))], [(g17, .cells #[.int .i64 l.place_gen] 2 (0, 0))], [(g16, .cells #[(pq gh40_)] 81 (0, 0))]]) ?_ hw
     clear hw
     obtain ⟨z87, hz88, h⟩ := bnd h
     refine e_call (is := []) rfl rfl (call_run Tryz.call81 rfl rfl (by kernel_rfl)) rfl (fun w hp => t_frame_Put hs85 hc86 hp hz88) ?_
     rintro Γ89 U91 v92 hl90 ⟨A93, c94, row95, rfl, rfl, hr96, hr97, _⟩
     change WR _ _ _ (CC F Γ89 [row95, [], [(gh40_, .cells #[.pointer (some ⟨el.2, 0, none⟩), .string o22.place_name, .int .i64 o22.place_gen, .int .i64 o22.size, .int .i64 o22.last, .int .i64 o22.tail, .int .i64 o22.count, .int .i64 o22.bytes] 146 (0, 0))], row69, [(gl, .cells #[.pointer (some ⟨el.2, 0, none⟩), .string l.place_name, .int .i64 l.place_gen, .int .i64 l.size, .int .i64 l.last, .int .i64 l.tail, .int .i64 l.count, .int .i64 l.bytes] el.1 (0, 0))], [(g17, .cells #[.int .i64 l.place_gen] 2 (0, 0))], [(g16, .cells #[(pq gh40_)] 81 (0, 0))]]) _ _ (upd _ 87 (.tuple #[.slice A93 z87.1.length c94, .int .i64 z87.2]))
     refine mv (v := .tuple #[.slice A93 z87.1.length c94, .int .i64 z87.2]) ?_
     refine vb (q_extract (v := .slice A93 z87.1.length c94) rfl rfl rfl) ?_
     refine vb (q_extract (v := .int .i64 z87.2) rfl rfl rfl) ?_
     refine as_ (v := .slice A93 z87.1.length c94) ?_
     refine as_ (v := .int .i64 z87.2) ?_
     refine WR.done ?_
     refine WC.seq ?_
     refine WC.seq ?_
     have hc102 := hr96.capz
     intro w hw; obtain ⟨Γ98, hw, hl99, hr100⟩ := hw.seal (i := 0) rfl; have hs101 := hr96.sl hl99 hr100
     refine WC.here (C := CC F Γ98 [[], [], [(gh40_, .cells #[.pointer (some ⟨el.2, 0, none⟩), .string o22.place_name, .int .i64 o22.place_gen, .int .i64 o22.size, .int .i64 o22.last, .int .i64 o22.tail, .int .i64 o22.count, .int .i64 o22.bytes] 146 (0, 0))], row69, [(gl, .cells #[.pointer (some ⟨el.2, 0, none⟩), .string l.place_name, .int .i64 l.place_gen, .int .i64 l.size, .int .i64 l.last, .int .i64 l.tail, .int .i64 l.count, .int .i64 l.bytes] el.1 (0, 0))], [(g17, .cells #[.int .i64 l.place_gen] 2 (0, 0))], [(g16, .cells #[(pq gh40_)] 81 (0, 0))]]) ?_ hw
     clear hw
     intro w hw; have h0103 := hw.le
     refine WC.here (C := CC F Γ98 [[], [], [(gh40_, .cells #[.pointer (some ⟨el.2, 0, none⟩), .string o22.place_name, .int .i64 o22.place_gen, .int .i64 o22.size, .int .i64 o22.last, .int .i64 o22.tail, .int .i64 o22.count, .int .i64 o22.bytes] 146 (0, 0))], row69, [(gl, .cells #[.pointer (some ⟨el.2, 0, none⟩), .string l.place_name, .int .i64 l.place_gen, .int .i64 l.size, .int .i64 l.last, .int .i64 l.tail, .int .i64 l.count, .int .i64 l.bytes] el.1 (0, 0))], [(g17, .cells #[.int .i64 l.place_gen] 2 (0, 0))], [(g16, .cells #[(pq gh40_)] 81 (0, 0))]]) ?_ hw; clear hw
     refine WC.held (CC F Γ98 [[], [], [(gh40_, .cells #[.pointer (some ⟨el.2, 0, none⟩), .string o22.place_name, .int .i64 o22.place_gen, .int .i64 o22.size, .int .i64 o22.last, .int .i64 o22.tail, .int .i64 o22.count, .int .i64 o22.bytes] 146 (0, 0))], [(gl, .cells #[.pointer (some ⟨el.2, 0, none⟩), .string l.place_name, .int .i64 l.place_gen, .int .i64 l.size, .int .i64 l.last, .int .i64 l.tail, .int .i64 l.count, .int .i64 l.bytes] el.1 (0, 0))], [(g17, .cells #[.int .i64 l.place_gen] 2 (0, 0))], [(g16, .cells #[(pq gh40_)] 81 (0, 0))]]) (by kernel_rfl) (fun w hw => hw.drawn _) ?_
     change WH _ _ _ _ (CC F Γ98 [[], [], [(gh40_, .cells #[.pointer (some ⟨el.2, 0, none⟩), .string o22.place_name, .int .i64 o22.place_gen, .int .i64 o22.size, .int .i64 o22.last, .int .i64 o22.tail, .int .i64 o22.count, .int .i64 o22.bytes] 146 (0, 0))], row69, [(gl, .cells #[.pointer (some ⟨el.2, 0, none⟩), .string l.place_name, .int .i64 l.place_gen, .int .i64 l.size, .int .i64 l.last, .int .i64 l.tail, .int .i64 l.count, .int .i64 l.bytes] el.1 (0, 0))], [(g17, .cells #[.int .i64 l.place_gen] 2 (0, 0))], [(g16, .cells #[(pq gh40_)] 81 (0, 0))]]) _ 13 #[false, false, false, false, false, false, false, false, false, false, false, false, false] _
     refine hu 0 rfl (bk_ (Gh.refl _) h0103 (.cons_cons _ (.cons_cons _ (.cons_cons _ (.cons _ (.cons_cons _ (.cons_cons _ (.cons_cons _ .slnil)))))))) (q_move (v := (pq gl)) rfl (by kernel_rfl)) ?_
     refine hu 1 rfl (bk_ (Gh.refl _) h0103 (.cons_cons _ (.cons_cons _ (.cons_cons _ (.cons _ (.cons_cons _ (.cons_cons _ (.cons_cons _ .slnil)))))))) (q_nil (A := some ⟨gl, 0, none⟩) rfl rfl rfl) ?_
     refine hu 2 rfl (bk_ (Gh.refl _) h0103 (.cons_cons _ (.cons_cons _ (.cons_cons _ (.cons _ (.cons_cons _ (.cons_cons _ (.cons_cons _ .slnil)))))))) (q_fl 0 fld_146_0 rfl rfl rfl) ?_
     refine hu 3 rfl (bk_ (Gh.refl _) h0103 (.cons_cons _ (.cons_cons _ (.cons_cons _ (.cons _ (.cons_cons _ (.cons_cons _ (.cons_cons _ .slnil)))))))) (q_fl 0 fld_138_0 rfl rfl rfl) ?_
     refine hu 4 rfl (bk_ (Gh.refl _) h0103 (.cons_cons _ (.cons_cons _ (.cons_cons _ (.cons _ (.cons_cons _ (.cons_cons _ (.cons_cons _ .slnil)))))))) (q_ldl (i := 3) (v := .pointer (some ⟨el.2, 0, none⟩)) rfl rfl Tryz.isAgg27 rfl rfl) ?_
     refine hu 5 rfl (bk_ (Gh.refl _) h0103 (.cons_cons _ (.cons_cons _ (.cons_cons _ (.cons _ (.cons_cons _ (.cons_cons _ (.cons_cons _ .slnil)))))))) (q_move (v := (pq gl)) rfl (by kernel_rfl)) ?_
     refine hu 6 rfl (bk_ (Gh.refl _) h0103 (.cons_cons _ (.cons_cons _ (.cons_cons _ (.cons _ (.cons_cons _ (.cons_cons _ (.cons_cons _ .slnil)))))))) (q_nil (A := some ⟨gl, 0, none⟩) rfl rfl rfl) ?_
     refine hu 7 rfl (bk_ (Gh.refl _) h0103 (.cons_cons _ (.cons_cons _ (.cons_cons _ (.cons _ (.cons_cons _ (.cons_cons _ (.cons_cons _ .slnil)))))))) (q_fl 0 fld_146_0 rfl rfl rfl) ?_
     refine hu 8 rfl (bk_ (Gh.refl _) h0103 (.cons_cons _ (.cons_cons _ (.cons_cons _ (.cons _ (.cons_cons _ (.cons_cons _ (.cons_cons _ .slnil)))))))) (q_ldla (i := 3) (vs := [.pointer (some ⟨el.2, 0, none⟩), .string l.place_name, .int .i64 l.place_gen]) rfl rfl Tryz.isAgg138 Tryz.sizeOf138 rfl rfl) ?_
     refine hu 10 rfl (bk_ (Gh.refl _) h0103 (.cons_cons _ (.cons_cons _ (.cons_cons _ (.cons _ (.cons_cons _ (.cons_cons _ (.cons_cons _ .slnil)))))))) (q_move (v := .slice A93 z87.1.length c94) rfl (by kernel_rfl)) ?_
     refine WH.lone (i := 9) (by kernel_rfl) rfl ?_
     obtain ⟨z104, hz105, h⟩ := bnd h
     refine vc rfl rfl rfl (q_call (call_run Tryz.call71 rfl rfl (by kernel_rfl)) (fun w hw => t_seglog_place_list (Γ := Gh.all w) (gp__0 := el.2) l.place_name ho0_62 l.place_gen ho1_62 (Sat.all w) hz105)) ?_
     refine WR.nil ?_
     refine WH.next (bk_ (Gh.refl _) h0103 (.cons_cons _ (.cons_cons _ (.cons_cons _ (.cons _ (.cons_cons _ (.cons_cons _ (.cons_cons _ .slnil)))))))) ?_
     refine WH.lone (i := 11) (by kernel_rfl) rfl ?_
     obtain ⟨hk106, h⟩ := chk_some h
     obtain ⟨z107, hz108, h⟩ := bnd h
     refine e_call (is := [3]) rfl rfl (call_run Tryz.call21 rfl rfl (by kernel_rfl)) rfl (fun w hp => t_disk_Disk_Append (hr70.mono (((hl75.trans hl83).trans hl90).trans hl99)) z104 (of_decide_eq_true hk106) hs101 hc102 hp hz108) ?_
     rintro Γ109 U111 v112 hl110 ⟨row113, rfl, rfl, hr114, hr115, _⟩
     change WR _ _ _ (CC F Γ109 [row113, [], [], [(gh40_, .cells #[.pointer (some ⟨el.2, 0, none⟩), .string o22.place_name, .int .i64 o22.place_gen, .int .i64 o22.size, .int .i64 o22.last, .int .i64 o22.tail, .int .i64 o22.count, .int .i64 o22.bytes] 146 (0, 0))], [(gl, .cells #[.pointer (some ⟨el.2, 0, none⟩), .string l.place_name, .int .i64 l.place_gen, .int .i64 l.size, .int .i64 l.last, .int .i64 l.tail, .int .i64 l.count, .int .i64 l.bytes] el.1 (0, 0))], [(g17, .cells #[.int .i64 l.place_gen] 2 (0, 0))], [(g16, .cells #[(pq gh40_)] 81 (0, 0))]]) _ _ (upd _ 101 (.int .i64 z107.2))
     refine WR.nil ?_
     refine WH.next (bk_ hl110 h0103 (.cons _ (.cons_cons _ (.cons_cons _ (.cons_cons _ (.cons_cons _ (.cons_cons _ (.cons_cons _ .slnil)))))))) ?_
     refine hu 12 rfl (bk_ hl110 h0103 (.cons _ (.cons_cons _ (.cons_cons _ (.cons_cons _ (.cons_cons _ (.cons_cons _ (.cons_cons _ .slnil)))))))) (q_assign (v := .int .i64 z107.2) rfl (by kernel_rfl)) ?_
     refine WH.done (by kernel_rfl) ?_
     change WC _ _ _ _ _ _
     refine WC.rs ?_
     refine mv (v := .int .i64 z107.2) ?_
     refine vb (q_neq rfl rfl rfl) ?_
     refine WR.done ?_
     refine WC.cif h (by kernel_rfl) (fun hb116 h => ?_) (fun hb116 h => ?_)
     ·
      refine WC.rs ?_
      refine vb (q_ldl (i := 6) (v := (pq gh40_)) rfl rfl Tryz.isAgg81 rfl rfl) ?_
      refine vb (q_nil (A := some ⟨gh40_, 0, none⟩) rfl rfl rfl) ?_
      refine vb (q_fl 0 fld_146_0 rfl rfl rfl) ?_
      refine vb (q_ldla (i := 3) (vs := [.pointer (some ⟨el.2, 0, none⟩), .string o22.place_name, .int .i64 o22.place_gen]) rfl rfl Tryz.isAgg138 Tryz.sizeOf138 rfl rfl) ?_
      refine vb (q_mkfn (v := .func (.func 96) #[] #[(pq g16)]) rfl (by kernel_rfl)) ?_
      intro w hw; have hw := hw.fold (is := [3]) rfl hrow_71
      refine WR.here (C := CC F Γ109 [row23, row113, [], [], [(gl, .cells #[.pointer (some ⟨el.2, 0, none⟩), .string l.place_name, .int .i64 l.place_gen, .int .i64 l.size, .int .i64 l.last, .int .i64 l.tail, .int .i64 l.count, .int .i64 l.bytes] el.1 (0, 0))], [(g17, .cells #[.int .i64 l.place_gen] 2 (0, 0))], [(g16, .cells #[(pq gh40_)] 81 (0, 0))]]) ?_ hw
      clear hw
      obtain ⟨rowT118, hT119⟩ : ∃ r : Rowb, r = ([[(g16, .cells #[(pq gh40_)] 81 (0, 0))], row23] : List Rowb).flatten := ⟨_, rfl⟩
      refine WR.sub (fun w hw => hw.fold (is := [6, 0]) rfl hT119) ?_
      obtain ⟨z120, hz121, h⟩ := bnd h
      refine e_call (is := [1, 0]) rfl rfl (call_run Tryz.call72 rfl rfl (by kernel_rfl)) rfl (fun w hp => t_seglog_place_remove (caps := #[(pq g16)]) hr114 o22.place_name ho0_71 o22.place_gen ho1_71 (fun x y => m_seglog_Log_Rewrite_2 x y o22) (fun {Γq_ wq_} x hx y hy hle hp2 {_} hq => Calls.mono (t_seglog_Log_Rewrite_2 (Γ := Γq_) x hx y hy ((ho24.mono (((((hl66.trans hl75).trans hl83).trans hl90).trans hl99).trans hl110)).mono hle) (by subst hT119; exact hp2.parts) hq) (fun e w2 ho => Outc.quiet (by subst hT119; exact hp2.parts) ho (fun _ _ _ hr => ⟨hr.1, hr.2.1⟩))) Tryz.call96 hp hz121) ?_
      rintro Γ122 U124 v125 hl123 ⟨row126, rfl, rfl, hd127⟩
      change WR _ _ _ (CC F Γ122 [row126, rowT118, [], [], [(gl, .cells #[.pointer (some ⟨el.2, 0, none⟩), .string l.place_name, .int .i64 l.place_gen, .int .i64 l.size, .int .i64 l.last, .int .i64 l.tail, .int .i64 l.count, .int .i64 l.bytes] el.1 (0, 0))], [(g17, .cells #[.int .i64 l.place_gen] 2 (0, 0))]]) _ _ (upd _ 109 (.tuple #[]))
      refine WR.sub (fun w hw => hw.unfold (i := 1) rfl hT119) ?_
      change WR _ _ _ (CC F Γ122 [[(g16, .cells #[(pq gh40_)] 81 (0, 0))], row23, row126, [], [], [(gl, .cells #[.pointer (some ⟨el.2, 0, none⟩), .string l.place_name, .int .i64 l.place_gen, .int .i64 l.size, .int .i64 l.last, .int .i64 l.tail, .int .i64 l.count, .int .i64 l.bytes] el.1 (0, 0))], [(g17, .cells #[.int .i64 l.place_gen] 2 (0, 0))]]) _ _ _
      refine WR.done ?_
      refine WC.rs ?_
      refine mv (v := .int .i64 z107.2) ?_
      refine as_ (v := .int .i64 z107.2) ?_
      refine WR.done ?_
      refine WC.ret ?_
      intro w hw
      have hw := hw.fold (is := [5]) rfl hrow_62
      obtain rfl := Option.some.inj h
      subst hF
      exact end_e (is := [0, 2]) (by kernel_rfl) hw rfl ⟨rowl, row126, rfl, rfl, (hl.mono (((((((hl21.trans hl66).trans hl75).trans hl83).trans hl90).trans hl99).trans hl110).trans hl123)), hd127, hr115, trivial⟩
     ·
      refine WC.skip ?_
      change WC _ _ _ _ _ _
      refine WC.rs ?_
      refine mv (v := (pq gl)) ?_
      refine vb (q_nil (A := some ⟨gl, 0, none⟩) rfl rfl rfl) ?_
      refine vb (q_fl 0 fld_146_0 rfl rfl rfl) ?_
      refine vb (q_fl 0 fld_138_0 rfl rfl rfl) ?_
      refine vb (q_ldl (i := 4) (v := .pointer (some ⟨el.2, 0, none⟩)) rfl rfl Tryz.isAgg27 rfl rfl) ?_
      obtain ⟨z129, hz130, h⟩ := bnd h
      refine e_call (is := [0]) rfl rfl (call_run Tryz.call76 rfl rfl (by kernel_rfl)) rfl (fun w hp => t_disk_Disk_Sync hr114 hp hz130) ?_
      rintro Γ131 U133 v134 hl132 ⟨row135, rfl, rfl, hr136, _⟩
      change WR _ _ _ (CC F Γ131 [row135, [], [], [(gh40_, .cells #[.pointer (some ⟨el.2, 0, none⟩), .string o22.place_name, .int .i64 o22.place_gen, .int .i64 o22.size, .int .i64 o22.last, .int .i64 o22.tail, .int .i64 o22.count, .int .i64 o22.bytes] 146 (0, 0))], [(gl, .cells #[.pointer (some ⟨el.2, 0, none⟩), .string l.place_name, .int .i64 l.place_gen, .int .i64 l.size, .int .i64 l.last, .int .i64 l.tail, .int .i64 l.count, .int .i64 l.bytes] el.1 (0, 0))], [(g17, .cells #[.int .i64 l.place_gen] 2 (0, 0))], [(g16, .cells #[(pq gh40_)] 81 (0, 0))]]) _ _ (upd _ 116 (.tuple #[]))
      refine WR.done ?_
      refine WC.rs ?_
      refine vb (q_ldl (i := 6) (v := (pq gh40_)) rfl rfl Tryz.isAgg81 rfl rfl) ?_
      refine vb (q_nil (A := some ⟨gh40_, 0, none⟩) rfl rfl rfl) ?_
      refine vb (q_fl 0 fld_146_0 rfl rfl rfl) ?_
      refine vb (q_ldla (i := 3) (vs := [.pointer (some ⟨el.2, 0, none⟩), .string o22.place_name, .int .i64 o22.place_gen]) rfl rfl Tryz.isAgg138 Tryz.sizeOf138 rfl rfl) ?_
      refine vb (q_mkfn (v := .func (.func 97) #[] #[(pq g17)]) rfl (by kernel_rfl)) ?_
      obtain ⟨rowT137, hT138⟩ : ∃ r : Rowb, r = ([[(g17, .cells #[.int .i64 l.place_gen] 2 (0, 0))]] : List Rowb).flatten := ⟨_, rfl⟩
      refine WR.sub (fun w hw => hw.fold (is := [5]) rfl hT138) ?_
      obtain ⟨z139, hz140, h⟩ := bnd h
      refine e_call (is := [1, 0]) rfl rfl (call_run Tryz.call72 rfl rfl (by kernel_rfl)) rfl (fun w hp => t_seglog_place_remove (caps := #[(pq g17)]) hr136 o22.place_name ho0_71 o22.place_gen ho1_71 (fun x y => m_seglog_Log_Rewrite_3 x y l.place_gen) (fun {Γq_ wq_} x hx y hy hle hp2 {_} hq => Calls.mono (t_seglog_Log_Rewrite_3 (Γ := Γq_) x hx y hy l.place_gen ho1_12 (by subst hT138; exact hp2.parts) hq) (fun e w2 ho => Outc.quiet (by subst hT138; exact hp2.parts) ho (fun _ _ _ hr => ⟨hr.1, hr.2.1⟩))) Tryz.call97 hp hz140) ?_
      rintro Γ141 U143 v144 hl142 ⟨row145, rfl, rfl, hd146⟩
      change WR _ _ _ (CC F Γ141 [row145, rowT137, [], [], [(gh40_, .cells #[.pointer (some ⟨el.2, 0, none⟩), .string o22.place_name, .int .i64 o22.place_gen, .int .i64 o22.size, .int .i64 o22.last, .int .i64 o22.tail, .int .i64 o22.count, .int .i64 o22.bytes] 146 (0, 0))], [(gl, .cells #[.pointer (some ⟨el.2, 0, none⟩), .string l.place_name, .int .i64 l.place_gen, .int .i64 l.size, .int .i64 l.last, .int .i64 l.tail, .int .i64 l.count, .int .i64 l.bytes] el.1 (0, 0))], [(g16, .cells #[(pq gh40_)] 81 (0, 0))]]) _ _ (upd _ 122 (.tuple #[]))
      refine WR.sub (fun w hw => hw.unfold (i := 1) rfl hT138) ?_
      change WR _ _ _ (CC F Γ141 [[(g17, .cells #[.int .i64 l.place_gen] 2 (0, 0))], row145, [], [], [(gh40_, .cells #[.pointer (some ⟨el.2, 0, none⟩), .string o22.place_name, .int .i64 o22.place_gen, .int .i64 o22.size, .int .i64 o22.last, .int .i64 o22.tail, .int .i64 o22.count, .int .i64 o22.bytes] 146 (0, 0))], [(gl, .cells #[.pointer (some ⟨el.2, 0, none⟩), .string l.place_name, .int .i64 l.place_gen, .int .i64 l.size, .int .i64 l.last, .int .i64 l.tail, .int .i64 l.count, .int .i64 l.bytes] el.1 (0, 0))], [(g16, .cells #[(pq gh40_)] 81 (0, 0))]]) _ _ _
      refine WR.done ?_
      refine WC.rs ?_
      refine mv (v := (pq gl)) ?_
      refine vb (q_nil (A := some ⟨gl, 0, none⟩) rfl rfl rfl) ?_
      refine vb (q_fl 0 fld_146_0 rfl rfl rfl) ?_
      refine vb (q_fl 0 fld_138_0 rfl rfl rfl) ?_
      refine vb (q_ldl (i := 5) (v := .pointer (some ⟨el.2, 0, none⟩)) rfl rfl Tryz.isAgg27 rfl rfl) ?_
      obtain ⟨z147, hz148, h⟩ := bnd h
      refine e_call (is := [1]) rfl rfl (call_run Tryz.call76 rfl rfl (by kernel_rfl)) rfl (fun w hp => t_disk_Disk_Sync hd146 hp hz148) ?_
      rintro Γ149 U151 v152 hl150 ⟨row153, rfl, rfl, hr154, _⟩
      change WR _ _ _ (CC F Γ149 [row153, [(g17, .cells #[.int .i64 l.place_gen] 2 (0, 0))], [], [], [(gh40_, .cells #[.pointer (some ⟨el.2, 0, none⟩), .string o22.place_name, .int .i64 o22.place_gen, .int .i64 o22.size, .int .i64 o22.last, .int .i64 o22.tail, .int .i64 o22.count, .int .i64 o22.bytes] 146 (0, 0))], [(gl, .cells #[.pointer (some ⟨el.2, 0, none⟩), .string l.place_name, .int .i64 l.place_gen, .int .i64 l.size, .int .i64 l.last, .int .i64 l.tail, .int .i64 l.count, .int .i64 l.bytes] el.1 (0, 0))], [(g16, .cells #[(pq gh40_)] 81 (0, 0))]]) _ _ (upd _ 128 (.tuple #[]))
      refine WR.done ?_
      refine WC.rs ?_
      refine mv (v := (pq gl)) ?_
      refine vb (q_ldl (i := 6) (v := (pq gh40_)) rfl rfl Tryz.isAgg81 rfl rfl) ?_
      refine vb (q_nil (A := some ⟨gh40_, 0, none⟩) rfl rfl rfl) ?_
      refine vb (q_ldla (i := 4) (vs := [.pointer (some ⟨el.2, 0, none⟩), .string o22.place_name, .int .i64 o22.place_gen, .int .i64 o22.size, .int .i64 o22.last, .int .i64 o22.tail, .int .i64 o22.count, .int .i64 o22.bytes]) rfl rfl Tryz.isAgg146 Tryz.sizeOf146 rfl rfl) ?_
      refine vb (q_nil (A := some ⟨gl, 0, none⟩) rfl rfl rfl) ?_
      refine e_st (i := 5) (v := .agg #[.pointer (some ⟨el.2, 0, none⟩), .string o22.place_name, .int .i64 o22.place_gen, .int .i64 o22.size, .int .i64 o22.last, .int .i64 o22.tail, .int .i64 o22.count, .int .i64 o22.bytes]) (new := #[.pointer (some ⟨el.2, 0, none⟩), .string o22.place_name, .int .i64 o22.place_gen, .int .i64 o22.size, .int .i64 o22.last, .int .i64 o22.tail, .int .i64 o22.count, .int .i64 o22.bytes]) rfl Tryz.sizeOf146 rfl rfl rfl rfl (by kernel_rfl) rfl rfl rfl rfl ?_
      refine WR.done ?_
      refine WC.rs ?_
      refine as_ (v := .int .i64 0) ?_
      refine WR.done ?_
      refine WC.ret ?_
      intro w hw
      obtain ⟨row_155, hrow_155, hob_155⟩ : ∃ rw : Rowb, rw = ([[(gl, .cells #[.pointer (some ⟨el.2, 0, none⟩), .string o22.place_name, .int .i64 o22.place_gen, .int .i64 o22.size, .int .i64 o22.last, .int .i64 o22.tail, .int .i64 o22.count, .int .i64 o22.bytes] el.1 (0, 0))]] : List Rowb).flatten ∧ Oseglog_Log.ob el Γ149 gl rw (⟨o22.place_name, o22.place_gen, o22.size, o22.last, o22.tail, o22.count, o22.bytes⟩ : Oseglog_Log) := ⟨_, rfl, rfl, ho0_71, ho1_71, ho2_71, ho3_71, ho4_71, ho5_71, ho6_71, trivial⟩
      have hw := hw.fold (is := [5]) rfl hrow_155
      obtain rfl := Option.some.inj h
      subst hF
      exact end_e (is := [0, 0]) (by kernel_rfl) hw rfl ⟨row_155, row153, rfl, rfl, hob_155, hr154, (show I64 0 by decide), trivial⟩
abbrev r_store_Store_Trim (gs_ : Nat) (es_ : Nat × Nat) (edk0 : Nat) (r : Ostore_Store × Odisk_Disk × Int) (U : List Rowb) (Γ : Gh) (v : Value) : Prop := ∃ (rows_' : Rowb), ∃ (rowdk0' : Rowb), v = .int .i64 r.2.2 ∧ U = [rows_', rowdk0'] ∧ Ostore_Store.ob es_ Γ gs_ rows_' r.1 ∧ Odisk_Disk.ob edk0 Γ es_.2 rowdk0' r.2.1 ∧ I64 r.2.2 ∧ True
theorem t_store_Store_Trim {Γ : Gh} {w0 : World} {gs_ : Nat} {es_ : Nat × Nat} {rows_ : Rowb} {s_ : Ostore_Store} (hs_ : Ostore_Store.ob es_ Γ gs_ rows_ s_) {Afloor : Option Addr} {cfloor : Nat} {floor : List Int} (hfloor : Sl intT Γ Afloor floor) (hfloorc : floor.length ≤ cfloor) {edk0 : Nat} {rowdk0 : Rowb} {dk0 : Odisk_Disk} (hdk0 : Odisk_Disk.ob edk0 Γ es_.2 rowdk0 dk0) (hp : Pre [rows_, rowdk0] Γ w0) {r : Ostore_Store × Odisk_Disk × Int} (h : m_store_Store_Trim s_ floor dk0 = some r) : Calls Tryz.prog 17 #[(pq gs_), .slice Afloor floor.length cfloor] w0 (Outc Γ [rows_, rowdk0] w0 (r_store_Store_Trim gs_ es_ edk0 r)) := by
 refine calls_of (N := 69) (rs := [4]) (args := [(pq gs_), .slice Afloor floor.length cfloor]) Tryz.func17 rfl Tryz.ntmps17 Tryz.results17 rfl ?_
 obtain ⟨F, hF⟩ : ∃ F : Fm, F = ⟨ids [rows_, rowdk0], w0, Γ⟩ := ⟨_, rfl⟩
 refine WC.here (C := CC F Γ [rows_, rowdk0]) ?_ (hF ▸ hp.start)
 refine WC.rs ?_
 refine as_ (v := .int .i64 0) ?_
 refine WR.done ?_
 refine WC.rs ?_
 refine e_makeMap (strK Tryz.underlying9) (slT byteT).v rfl rfl rfl rfl ?_
 intro g1 row2 hm3
 refine as_ (v := .map (some g1)) ?_
 refine WR.done ?_
 refine WC.rs ?_
 refine as_ (v := .slice none 0 0) ?_
 refine WR.done ?_
 refine WC.seq ?_
 refine WC.rs ?_
 refine mv (v := (pq gs_)) ?_
 obtain ⟨z4, hz5, h⟩ := bnd h
 refine e_call (is := [1]) rfl rfl (call_run Tryz.call27 rfl rfl (by kernel_rfl)) rfl (fun w hp => t_store_Store_Recs hs_ hp hz5) ?_
 rintro Γ6 U8 v9 hl7 ⟨A10, c11, row12, rfl, rfl, hr13, _⟩
 change WR _ _ _ (CC F Γ6 [rows_, row12, row2, rowdk0]) _ _ (upd _ 12 (.slice A10 z4.length c11))
 refine vb (q_len_slice rfl Tryz.underlying66 rfl) ?_
 refine mv (v := .int .i64 0) ?_
 refine WR.done ?_
 refine WC.block ?_
 refine WC.forI h (fun (i23 : Nat) (s : (List (List UInt8)) × (List (ByteArray × (List UInt8)))) σ w => match s with | (list_14, m19) => ∃ (A15 : Option Addr), ∃ (c16 : Nat), ∃ (row17 : Rowb), ∃ (row20 : Rowb), slots σ [(0, (pq gs_)), (1, .slice Afloor floor.length cfloor), (5, .map (some g1)), (6, .slice A15 list_14.length c16), (12, .slice A10 z4.length c11), (13, .int .i64 ((z4.length : Nat) : Int)), (14, .int .i64 ((i23 : Nat) : Int))] ∧ CC F Γ6 [row17, rows_, row12, row20, rowdk0] w ∧ Own (slT byteT) Γ6 51 row17 A15 c16 list_14 ∧ MapO (strK Tryz.underlying9) (slT byteT).v Γ6 row20 g1 m19 ∧ True) ?_ ?_
 ·
  intro w hw
  have hw := hw.pad
  exact ⟨none, 0, [], row2, (sl_ (by kernel_rfl)), hw, (Own.nil (slT byteT) _ 51), (hm3.mono hl7), trivial⟩
 rintro f22 i23 ⟨list_14, m19⟩ σ w hi24 hlt25 hge26 ⟨A15, c16, row17, row20, hsl, hw, ho18, ho21, -⟩
 refine Wpt.slots hsl ?_
 refine WC.here (C := CC F Γ6 [row17, rows_, row12, row20, rowdk0]) ?_ hw
 clear hw hsl
 refine WC.rs ?_
 refine vb (q_lss rfl rfl rfl) ?_
 refine WR.done ?_
 refine WC.seq ?_
 refine WC.cond (b := (decide (((i23 : Nat) : Int) < ((z4.length : Nat) : Int)))) (by kernel_rfl) (fun hb27 => ?_) (fun hb27 => ?_)
 ·
  have hl28 := ilt hb27
  have h := hlt25 hl28
  refine WC.skip ?_
  change WC _ _ _ _ _ _
  refine WC.cut (fun σ w => ∃ (list_29 : List (List UInt8)), ∃ (m34 : List (ByteArray × (List UInt8))), ∃ (A30 : Option Addr), ∃ (c31 : Nat), ∃ (row32 : Rowb), ∃ (row35 : Rowb), m_store_Store_Trim_j5 f22 list_29 m34 = some r ∧ slots σ [(0, (pq gs_)), (1, .slice Afloor floor.length cfloor), (5, .map (some g1)), (6, .slice A30 list_29.length c31), (12, .slice A10 z4.length c11), (13, .int .i64 ((z4.length : Nat) : Int)), (14, .int .i64 ((i23 : Nat) : Int))] ∧ CC F Γ6 [row32, rows_, row12, row35, rowdk0] w ∧ Own (slT byteT) Γ6 51 row32 A30 c31 list_29 ∧ MapO (strK Tryz.underlying9) (slT byteT).v Γ6 row35 g1 m34 ∧ True) ?_ ?_
  ·
   refine WC.block ?_
   refine WC.rs ?_
   refine vb (q_ixn (i := i23) Tryz.underlying66 Tryz.sizeOf24 rfl rfl rfl hl28 (hr13.some_ hl28)) ?_
   obtain ⟨A37, c38, hx39⟩ := hr13.recT_at i23
   refine vb (q_ldoa (c := 0) (vs := [.string (gt z4 i23).key, .slice A37 ((gt z4 i23).vers).length c38]) (i := 2) rfl (hx39 hl28).2 rfl Tryz.isAgg24 Tryz.sizeOf24 rfl rfl) ?_
   refine e_alloc Tryz.zeroValue24 rfl rfl rfl rfl ?_
   intro g40
   refine e_st (i := 0) (v := .agg #[.string (gt z4 i23).key, .slice A37 ((gt z4 i23).vers).length c38]) (new := #[.string (gt z4 i23).key, .slice A37 ((gt z4 i23).vers).length c38]) rfl Tryz.sizeOf24 rfl rfl rfl rfl (by kernel_rfl) rfl rfl rfl rfl ?_
   refine WR.done ?_
   refine WC.seq ?_
   refine WC.rs ?_
   refine vb (q_fl 1 fld_24_1 rfl rfl rfl) ?_
   refine vb (q_ldl (i := 0) (v := .slice A37 ((gt z4 i23).vers).length c38) rfl rfl Tryz.isAgg22 rfl rfl) ?_
   refine vb (q_len_slice rfl Tryz.underlying22 rfl) ?_
   refine vb (q_eql rfl rfl rfl) ?_
   refine mv (v := .bool (((((gt z4 i23).vers).length : Nat) : Int) == 1)) ?_
   refine vg1 rfl rfl rfl rfl rfl (fun hg41 => QV.qo (q_fl 1 fld_24_1 rfl rfl rfl)) ?_
   refine vg1 rfl rfl rfl rfl rfl (fun hg42 => QV.qo (q_ldl (i := 0) (v := .slice A37 ((gt z4 i23).vers).length c38) rfl rfl Tryz.isAgg22 (gu hg42 rfl) rfl)) ?_
   obtain ⟨hk44, h⟩ := chk_some h
   refine vg1 rfl rfl rfl rfl rfl (fun hg43 => QV.qo (q_ixn (i := 0) Tryz.underlying22 Tryz.sizeOf39 rfl (gu hg43 rfl) rfl (of_decide_eq_true (imp_of hk44 hg43)) ((hx39 hl28).1.2.2.some_ (of_decide_eq_true (imp_of hk44 hg43))))) ?_
   refine vg1 rfl rfl rfl rfl rfl (fun hg45 => QV.qo (q_field_addr (0 * 5 + 3) fld_39_2 rfl (gu hg45 rfl) ((hx39 hl28).1.2.2.some_ (of_decide_eq_true (imp_of hk44 hg45))) rfl)) ?_
   obtain ⟨A47, c48, hx49⟩ := (hx39 hl28).1.2.2.verT_at 0
   refine vg1 rfl rfl rfl rfl rfl (fun hg46 => QV.qo (q_ld (c := 3) (v := .bool (gt ((gt z4 i23).vers) 0).gone) (hx49 (of_decide_eq_true (imp_of hk44 hg46))).2 rfl Tryz.isAgg4 (gu hg46 rfl) rfl)) ?_
   refine vb (q_pick rfl rfl (pk_and' (g := (((((gt z4 i23).vers).length : Nat) : Int) == 1)) (y := (gt ((gt z4 i23).vers) 0).gone))) ?_
   refine mv (v := .bool ((((((gt z4 i23).vers).length : Nat) : Int) == 1) && (gt ((gt z4 i23).vers) 0).gone)) ?_
   refine vg1 rfl rfl rfl rfl rfl (fun hg50 => QV.qo (q_move (v := .slice Afloor floor.length cfloor) rfl (by kernel_rfl))) ?_
   refine vg1 rfl rfl rfl rfl rfl (fun hg51 => QV.qo (q_fl 1 fld_24_1 rfl rfl rfl)) ?_
   refine vg1 rfl rfl rfl rfl rfl (fun hg52 => QV.qo (q_ldl (i := 0) (v := .slice A37 ((gt z4 i23).vers).length c38) rfl rfl Tryz.isAgg22 (gu hg52 rfl) rfl)) ?_
   obtain ⟨hk54, h⟩ := chk_some h
   refine vg1 rfl rfl rfl rfl rfl (fun hg53 => QV.qo (q_ixn (i := 0) Tryz.underlying22 Tryz.sizeOf39 rfl (gu hg53 rfl) rfl (of_decide_eq_true (imp_of hk54 hg53)) ((hx39 hl28).1.2.2.some_ (of_decide_eq_true (imp_of hk54 hg53))))) ?_
   refine vg1 rfl rfl rfl rfl rfl (fun hg55 => QV.qo (q_field_addr (0 * 5) fld_39_0 rfl (gu hg55 rfl) ((hx39 hl28).1.2.2.some_ (of_decide_eq_true (imp_of hk54 hg55))) rfl)) ?_
   refine vg1 rfl rfl rfl rfl rfl (fun hg56 => QV.qo (q_lda (c := 0) (vs := [.int .i64 (gt ((gt z4 i23).vers) 0).dot.s, .int .i64 (gt ((gt z4 i23).vers) 0).dot.n]) (hx49 (of_decide_eq_true (imp_of hk54 hg56))).2 rfl Tryz.isAgg36 Tryz.sizeOf36 (gu hg56 rfl) rfl rfl)) ?_
   obtain ⟨z58, hz59, h⟩ := bnd h
   refine vg1 rfl rfl rfl rfl rfl (fun hg57 => (q_call (call_run Tryz.call46 rfl rfl (args2 (gu hg57 rfl) (gu hg57 rfl))) (fun w hw => t_vect_Covers (Γ := Gh.all w) ((hfloor.mono hl7).mono hw.sat.le_all) hfloorc ((gt ((gt z4 i23).vers) 0).dot) ⟨(hx49 (of_decide_eq_true (imp_of hk54 hg57))).1.1, (hx49 (of_decide_eq_true (imp_of hk54 hg57))).1.2.1⟩ (Sat.all w) (gc_of hz59 hg57)))) ?_
   refine vb (q_pick rfl rfl (pk_and' (g := ((((((gt z4 i23).vers).length : Nat) : Int) == 1) && (gt ((gt z4 i23).vers) 0).gone)) (y := z58))) ?_
   refine WR.done ?_
   refine WC.cif h (by kernel_rfl) (fun hb60 h => ?_) (fun hb60 h => ?_)
   ·
    refine WC.exit ?_
    intro w hw
    exact ⟨list_14, m19, A15, c16, row17, row20, h, (sl_ (by kernel_rfl)), (hw.only (is := [1, 1, 1, 1, 1]) rfl), ho18, ho21, trivial⟩
   ·
    refine WC.skip ?_
    change WC _ _ _ _ _ _
    refine WC.seq ?_
    intro w hw; have h061 := hw.le
    refine WC.here (C := CC F Γ6 [[(g40, .cells #[.string (gt z4 i23).key, .slice A37 ((gt z4 i23).vers).length c38] 24 (0, 0))], row17, rows_, row12, row20, rowdk0]) ?_ hw; clear hw
    refine WC.held (CC F Γ6 [[(g40, .cells #[.string (gt z4 i23).key, .slice A37 ((gt z4 i23).vers).length c38] 24 (0, 0))], row17, row12]) (by kernel_rfl) (fun w hw => hw.drawn _) ?_
    change WH _ _ _ _ (CC F Γ6 [[(g40, .cells #[.string (gt z4 i23).key, .slice A37 ((gt z4 i23).vers).length c38] 24 (0, 0))], row17, rows_, row12, row20, rowdk0]) _ 11 #[false, false, false, false, false, false, false, false, false, false, false] _
    refine hu 0 rfl (bk_ (Gh.refl _) h061 (.cons_cons _ (.cons_cons _ (.cons _ (.cons_cons _ (.cons _ (.cons _ .slnil))))))) (q_move (v := .map (some g1)) rfl (by kernel_rfl)) ?_
    refine hu 1 rfl (bk_ (Gh.refl _) h061 (.cons_cons _ (.cons_cons _ (.cons _ (.cons_cons _ (.cons _ (.cons _ .slnil))))))) (q_fl 0 fld_24_0 rfl rfl rfl) ?_
    refine hu 2 rfl (bk_ (Gh.refl _) h061 (.cons_cons _ (.cons_cons _ (.cons _ (.cons_cons _ (.cons _ (.cons _ .slnil))))))) (q_ldl (i := 0) (v := .string (gt z4 i23).key) rfl rfl Tryz.isAgg9 rfl rfl) ?_
    refine hu 3 rfl (bk_ (Gh.refl _) h061 (.cons_cons _ (.cons_cons _ (.cons _ (.cons_cons _ (.cons _ (.cons _ .slnil))))))) (q_move (v := (pq gs_)) rfl (by kernel_rfl)) ?_
    refine hu 4 rfl (bk_ (Gh.refl _) h061 (.cons_cons _ (.cons_cons _ (.cons _ (.cons_cons _ (.cons _ (.cons _ .slnil))))))) (q_nil (A := some ⟨gs_, 0, none⟩) rfl rfl rfl) ?_
    refine hu 5 rfl (bk_ (Gh.refl _) h061 (.cons_cons _ (.cons_cons _ (.cons _ (.cons_cons _ (.cons _ (.cons _ .slnil))))))) (q_fl 1 fld_86_1 rfl rfl rfl) ?_
    refine hu 7 rfl (bk_ (Gh.refl _) h061 (.cons_cons _ (.cons_cons _ (.cons _ (.cons_cons _ (.cons _ (.cons _ .slnil))))))) (q_fl 0 fld_24_0 rfl rfl rfl) ?_
    refine hu 8 rfl (bk_ (Gh.refl _) h061 (.cons_cons _ (.cons_cons _ (.cons _ (.cons_cons _ (.cons _ (.cons _ .slnil))))))) (q_ldl (i := 0) (v := .string (gt z4 i23).key) rfl rfl Tryz.isAgg9 rfl rfl) ?_
    refine WH.lone (i := 6) (by kernel_rfl) rfl ?_
    have hq := (hs_.mono hl7)
    obtain ⟨g0_62, r0_62, m1_62, r1_62, hrow_62, ho0_62, ho1_62, -⟩ := hq
    intro w hw; have hw := hw.unfold (i := 2) rfl hrow_62
    refine WR.here (C := CC F Γ6 [[(gs_, .cells #[(pq g0_62), .map (some m1_62)] es_.1 (0, 0))], r0_62, r1_62, [(g40, .cells #[.string (gt z4 i23).key, .slice A37 ((gt z4 i23).vers).length c38] 24 (0, 0))], row17, row12, row20, rowdk0]) ?_ hw
    clear hw
    refine vb (q_ldl (i := 0) (v := .map (some m1_62)) rfl rfl Tryz.isAgg76 rfl rfl) ?_
    refine WR.nil ?_
    refine WH.next (bk_ (Gh.refl _) h061 (.cons _ (.cons _ (.cons _ (.cons_cons _ (.cons_cons _ (.cons_cons _ (.cons _ (.cons _ .slnil))))))))) ?_
    refine WH.lone (i := 9) (by kernel_rfl) rfl ?_
    obtain ⟨v63, ⟨A66, c67, hv64, hc68, hs69⟩, hat65⟩ := MapO.look ho1_62 ((gt z4 i23).key) (z := .slice none 0 0) (zx := []) ⟨none, 0, rfl, Nat.zero_le _, Sl.nil _ _ _⟩
    obtain rfl : v63 = _ := List.cons.inj hv64 |>.1
    refine vb (q_lookup1 (v := .slice A66 ((mget ((gt z4 i23).key) s_.keys).getD []).length c67) hat65 rfl Tryz.underlying76 Tryz.zeroValue51 rfl rfl (i := 2) rfl) ?_
    refine WR.nil ?_
    refine WH.next (bk_ (Gh.refl _) h061 (.cons _ (.cons _ (.cons _ (.cons_cons _ (.cons_cons _ (.cons_cons _ (.cons _ (.cons _ .slnil))))))))) ?_
    refine WH.lone (i := 10) (by kernel_rfl) rfl ?_
    refine e_mapUpdate (i := 6) (x := ((gt z4 i23).key)) (v := .slice A66 ((mget ((gt z4 i23).key) s_.keys).getD []).length c67) (a := ((mget ((gt z4 i23).key) s_.keys).getD [])) rfl rfl rfl Tryz.underlying76 rfl rfl (by kernel_rfl) rfl ho21 (by exact ⟨A66, c67, rfl, hc68, hs69⟩) (hx39 hl28).1.1 ?_
    intro row70 hm71
    refine WR.nil ?_
    refine WH.next (bk_ (Gh.refl _) h061 (.cons _ (.cons _ (.cons _ (.cons_cons _ (.cons_cons _ (.cons_cons _ (.cons _ (.cons _ .slnil))))))))) ?_
    refine WH.done (by kernel_rfl) ?_
    change WC _ _ _ _ _ _
    refine WC.region ?_
    refine mv (v := .slice A15 list_14.length c16) ?_
    refine mv (v := .map (some g1)) ?_
    refine vb (q_fl 0 fld_24_0 rfl rfl rfl) ?_
    refine vb (q_ldl (i := 3) (v := .string (gt z4 i23).key) rfl rfl Tryz.isAgg9 rfl rfl) ?_
    obtain ⟨v72, ⟨A75, c76, hv73, hc77, hs78⟩, hat74⟩ := MapO.look hm71 ((gt z4 i23).key) (z := .slice none 0 0) (zx := []) ⟨none, 0, rfl, Nat.zero_le _, Sl.nil _ _ _⟩
    obtain rfl : v72 = _ := List.cons.inj hv73 |>.1
    refine vb (q_lookup1 (v := .slice A75 ((mget ((gt z4 i23).key) (mput ((gt z4 i23).key) ((mget ((gt z4 i23).key) s_.keys).getD []) m19)).getD []).length c76) hat74 rfl Tryz.underlying76 Tryz.zeroValue51 rfl rfl (i := 6) rfl) ?_
    refine e_buildSlice (cs := #[.slice A75 ((mget ((gt z4 i23).key) (mput ((gt z4 i23).key) ((mget ((gt z4 i23).key) s_.keys).getD []) m19)).getD []).length c76]) (e := 51) rfl rfl rfl rfl (fun w => by kernel_rfl) ?_
    intro g79
    obtain ⟨hk80, h⟩ := chk_some h
    refine e_append (T := (slT byteT)) (xs := list_14) (ys := [((mget ((gt z4 i23).key) (mput ((gt z4 i23).key) ((mget ((gt z4 i23).key) s_.keys).getD []) m19)).getD [])]) elem_82 (i := 5) rfl rfl rfl rfl rfl rfl rfl ho18 (of_decide_eq_true hk80) (fun w hw => src_one (T := (slT byteT)) (y := ((mget ((gt z4 i23).key) (mput ((gt z4 i23).key) ((mget ((gt z4 i23).key) s_.keys).getD []) m19)).getD [])) (i := 0) rfl (by exact ⟨A75, c76, rfl, hc77, hs78⟩) hw) ?_
    intro row81 A82 c83 ho84
    refine as_ (v := .slice A82 (list_14 ++ [((mget ((gt z4 i23).key) (mput ((gt z4 i23).key) ((mget ((gt z4 i23).key) s_.keys).getD []) m19)).getD [])]).length c83) ?_
    refine WR.nil ?_
    intro w hw
    have hw := hw.fold (is := [1, 1, 1]) rfl hrow_62
    exact ⟨(list_14 ++ [((mget ((gt z4 i23).key) (mput ((gt z4 i23).key) ((mget ((gt z4 i23).key) s_.keys).getD []) m19)).getD [])]), (mput ((gt z4 i23).key) ((mget ((gt z4 i23).key) s_.keys).getD []) m19), A82, c83, row81, row70, h, (sl_ (by kernel_rfl)), (hw.only (is := [3, 0, 2, 2, 2]) rfl), ho84, hm71, trivial⟩
  ·
   rintro σ w ⟨list_29, m34, A30, c31, row32, row35, h, hsl, hw, ho33, ho36, -⟩
   refine Wpt.slots hsl ?_
   refine WC.here (C := CC F Γ6 [row32, rows_, row12, row35, rowdk0]) ?_ hw
   clear hw hsl
   refine WC.region ?_
   refine vb (q_add_r (r := ((i23 + 1 : Nat) : Int)) rfl rfl rfl (ctr_len hl28 hr13.le)) ?_
   refine mv (v := .int .i64 ((i23 + 1 : Nat) : Int)) ?_
   refine WR.nil ?_
   intro w hw
   exact ⟨hl28, (list_29, m34), h, A30, c31, row32, row35, (sl_ (by kernel_rfl)), hw, ho33, ho36, trivial⟩
 ·
  have h := hge26 (ige hb27)
  refine WC.exit ?_
  change WC _ _ _ _ _ _
  refine WC.seq ?_
  refine WC.rs ?_
  refine mv (v := (pq gs_)) ?_
  refine vb (q_nil (A := some ⟨gs_, 0, none⟩) rfl rfl rfl) ?_
  refine vb (q_fl 0 fld_86_0 rfl rfl rfl) ?_
  have hq := (hs_.mono hl7)
  obtain ⟨g0_86, r0_86, m1_86, r1_86, hrow_86, ho0_86, ho1_86, -⟩ := hq
  intro w hw; have hw := hw.unfold (i := 1) rfl hrow_86
  refine WR.here (C := CC F Γ6 [[(gs_, .cells #[(pq g0_86), .map (some m1_86)] es_.1 (0, 0))], r0_86, r1_86, row17, row12, row20, rowdk0]) ?_ hw
  clear hw
  refine vb (q_ldl (i := 0) (v := (pq g0_86)) rfl rfl Tryz.isAgg81 rfl rfl) ?_
  refine mv (v := .slice A15 list_14.length c16) ?_
  have hc91 := ho18.capz
  intro w hw; obtain ⟨Γ87, hw, hl88, hr89⟩ := hw.seal (i := 3) rfl; have hs90 := ho18.sl hl88 hr89
  refine WR.here (C := CC F Γ87 [[(gs_, .cells #[(pq g0_86), .map (some m1_86)] es_.1 (0, 0))], r0_86, r1_86, [], row12, row20, rowdk0]) ?_ hw
  clear hw
  obtain ⟨z92, hz93, h⟩ := bnd h
  refine e_call (is := [1, 5]) rfl rfl (call_run Tryz.call47 rfl rfl (by kernel_rfl)) rfl (fun w hp => t_seglog_Log_Rewrite (ho0_86.mono hl88) hs90 hc91 (hdk0.mono (hl7.trans hl88)) hp hz93) ?_
  rintro Γ94 U96 v97 hl95 ⟨row98, row100, rfl, rfl, hr99, hr101, hr102, _⟩
  change WR _ _ _ (CC F Γ94 [row98, row100, [(gs_, .cells #[(pq g0_86), .map (some m1_86)] es_.1 (0, 0))], r1_86, [], row12, row20]) _ _ (upd _ 61 (.int .i64 z92.2.2))
  refine as_ (v := .int .i64 z92.2.2) ?_
  refine WR.done ?_
  refine WC.rs ?_
  refine mv (v := .int .i64 z92.2.2) ?_
  refine vb (q_neq rfl rfl rfl) ?_
  refine WR.done ?_
  refine WC.cif h (by kernel_rfl) (fun hb103 h => ?_) (fun hb103 h => ?_)
  ·
   refine WC.rs ?_
   refine mv (v := .int .i64 z92.2.2) ?_
   refine as_ (v := .int .i64 z92.2.2) ?_
   refine WR.done ?_
   refine WC.ret ?_
   intro w hw
   obtain ⟨row_104, hrow_104, hob_104⟩ : ∃ rw : Rowb, rw = ([[(gs_, .cells #[(pq g0_86), .map (some m1_86)] es_.1 (0, 0))], row98, r1_86] : List Rowb).flatten ∧ Ostore_Store.ob es_ Γ94 gs_ rw (⟨z92.1, s_.keys⟩ : Ostore_Store) := ⟨_, rfl, g0_86, row98, m1_86, r1_86, rfl, hr99, (ho1_86.mono (hl88.trans hl95)), trivial⟩
   have hw := hw.fold (is := [2, 0, 1]) rfl hrow_104
   obtain rfl := Option.some.inj h
   subst hF
   exact end_e (is := [0, 0]) (by kernel_rfl) hw rfl ⟨row_104, row100, rfl, rfl, hob_104, hr101, hr102, trivial⟩
  ·
   refine WC.skip ?_
   change WC _ _ _ _ _ _
   refine WC.rs ?_
   refine mv (v := (pq gs_)) ?_
   refine mv (v := .map (some g1)) ?_
   refine vb (q_nil (A := some ⟨gs_, 0, none⟩) rfl rfl rfl) ?_
   refine vb (q_fl 1 fld_86_1 rfl rfl rfl) ?_
   refine e_st (i := 2) (v := .map (some g1)) (new := #[(pq g0_86), .map (some g1)]) rfl Tryz.sizeOf76 rfl rfl rfl rfl (by kernel_rfl) rfl rfl rfl rfl ?_
   refine WR.done ?_
   refine WC.rs ?_
   refine as_ (v := .int .i64 0) ?_
   refine WR.done ?_
   refine WC.ret ?_
   intro w hw
   obtain ⟨row_105, hrow_105, hob_105⟩ : ∃ rw : Rowb, rw = ([[(gs_, .cells #[(pq g0_86), .map (some g1)] es_.1 (0, 0))], row98, row20] : List Rowb).flatten ∧ Ostore_Store.ob es_ Γ94 gs_ rw (⟨z92.1, m19⟩ : Ostore_Store) := ⟨_, rfl, g0_86, row98, g1, row20, rfl, hr99, (ho21.mono (hl88.trans hl95)), trivial⟩
   have hw := hw.fold (is := [2, 0, 4]) rfl hrow_105
   obtain rfl := Option.some.inj h
   subst hF
   exact end_e (is := [0, 0]) (by kernel_rfl) hw rfl ⟨row_105, row100, rfl, rfl, hob_105, hr101, (show I64 0 by decide), trivial⟩
theorem t_seglog_Log_Count {Γ : Gh} {w0 : World} {gl : Nat} {el : Nat × Nat} {rowl : Rowb} {l : Oseglog_Log} (hl : Oseglog_Log.ob el Γ gl rowl l) (hlr : ∀ p ∈ rowl, Γ p.1 = some p.2) (hs : Sat Γ w0) {r : Int} (h : m_seglog_Log_Count l = some r) : Calls Tryz.prog 63 #[(pq gl)] w0 (fun e w' => e = .returned (.int .i64 r) ∧ Fr no w0 w') := by
 refine calls_of (N := 7) (rs := [2]) (args := [(pq gl)]) Tryz.func63 rfl Tryz.ntmps63 Tryz.results63 rfl ?_
 obtain ⟨F, hF⟩ : ∃ F : Fm, F = ⟨no, w0, Γ⟩ := ⟨_, rfl⟩
 refine WC.here (C := CC F Γ []) ?_ (hF ▸ Cur.start0 hs)
 refine WC.rs ?_
 refine as_ (v := .int .i64 0) ?_
 refine WR.done ?_
 refine WC.rs ?_
 refine mv (v := (pq gl)) ?_
 refine vb (q_nil (A := some ⟨gl, 0, none⟩) rfl rfl rfl) ?_
 refine vb (q_fl 6 fld_146_4 rfl rfl rfl) ?_
 have hq := hl
 obtain ⟨hrow_1, ho0_1, ho1_1, ho2_1, ho3_1, ho4_1, ho5_1, ho6_1, -⟩ := hq
 have hg_2 : ∀ u ∈ ([[(gl, .cells #[.pointer (some ⟨el.2, 0, none⟩), .string l.place_name, .int .i64 l.place_gen, .int .i64 l.size, .int .i64 l.last, .int .i64 l.tail, .int .i64 l.count, .int .i64 l.bytes] el.1 (0, 0))]] : List Rowb), ∀ p ∈ u, Γ p.1 = some p.2 := fun u hu p hp => (fun p hp => (hlr p hp)) p (hrow_1 ▸ List.mem_flatten.2 ⟨u, hu, hp⟩)
 have hgc3 := hg_2 _ (List.mem_cons_self ..) (gl, _) (List.mem_singleton.2 rfl)
 refine vb (q_ldg (v := .int .i64 l.count) hgc3 rfl Tryz.isAgg3 rfl rfl) ?_
 refine as_ (v := .int .i64 l.count) ?_
 refine WR.done ?_
 refine WC.ret ?_
 intro w hw
 obtain rfl := Option.some.inj h
 subst hF
 exact ⟨by kernel_rfl, hw.fr⟩
theorem t_store_Store_Waste {Γ : Gh} {w0 : World} {gs_ : Nat} {es_ : Nat × Nat} {rows_ : Rowb} {s_ : Ostore_Store} (hs_ : Ostore_Store.ob es_ Γ gs_ rows_ s_) (hs_r : ∀ p ∈ rows_, Γ p.1 = some p.2) (hs : Sat Γ w0) {r : Int} (h : m_store_Store_Waste s_ = some r) : Calls Tryz.prog 31 #[(pq gs_)] w0 (fun e w' => e = .returned (.int .i64 r) ∧ Fr no w0 w') := by
 refine calls_of (N := 14) (rs := [2]) (args := [(pq gs_)]) Tryz.func31 rfl Tryz.ntmps31 Tryz.results31 rfl ?_
 obtain ⟨F, hF⟩ : ∃ F : Fm, F = ⟨no, w0, Γ⟩ := ⟨_, rfl⟩
 refine WC.here (C := CC F Γ []) ?_ (hF ▸ Cur.start0 hs)
 refine WC.rs ?_
 refine as_ (v := .int .i64 0) ?_
 refine WR.done ?_
 refine WC.seq ?_
 refine WC.dr (by kernel_rfl) (by kernel_rfl) (fun w hw => hw.drawn _) ?_
 refine wa rfl rfl rfl (q_move (v := (pq gs_)) rfl (by kernel_rfl)) ?_
 refine wa rfl rfl rfl (q_nil (A := some ⟨gs_, 0, none⟩) rfl rfl rfl) ?_
 refine wa rfl rfl rfl (q_fl 0 fld_86_0 rfl rfl rfl) ?_
 have hq := hs_
 obtain ⟨g0_1, r0_1, m1_1, r1_1, hrow_1, ho0_1, ho1_1, -⟩ := hq
 have hg_2 : ∀ u ∈ ([[(gs_, .cells #[(pq g0_1), .map (some m1_1)] es_.1 (0, 0))], r0_1, r1_1] : List Rowb), ∀ p ∈ u, Γ p.1 = some p.2 := fun u hu p hp => (fun p hp => (hs_r p hp)) p (hrow_1 ▸ List.mem_flatten.2 ⟨u, hu, hp⟩)
 have hgc3 := hg_2 _ (List.mem_cons_self ..) (gs_, _) (List.mem_singleton.2 rfl)
 have hgs4 := hg_2 r0_1 (by simp)
 have hgs5 := hg_2 r1_1 (by simp)
 refine wa rfl rfl rfl (q_ldg (v := (pq g0_1)) hgc3 rfl Tryz.isAgg81 rfl rfl) ?_
 obtain ⟨z6, hz7, h⟩ := bnd h
 refine wc rfl rfl rfl (q_call (call_run Tryz.call63 rfl rfl (by kernel_rfl)) (fun w hw => t_seglog_Log_Count (Γ := Gh.all w) (ho0_1.mono hw.sat.le_all) (fun p hp => hw.sat _ _ (hgs4 p hp)) (Sat.all w) hz7)) ?_
 refine wa rfl rfl rfl (q_move (v := (pq gs_)) rfl (by kernel_rfl)) ?_
 refine wa rfl rfl rfl (q_nil (A := some ⟨gs_, 0, none⟩) rfl rfl rfl) ?_
 refine wa rfl rfl rfl (q_fl 1 fld_86_1 rfl rfl rfl) ?_
 refine wa rfl rfl rfl (q_ldg (v := .map (some m1_1)) hgc3 rfl Tryz.isAgg76 rfl rfl) ?_
 refine wa rfl rfl rfl (q_len_mapg (fun p hp => (hgs5 p hp)) ho1_1 rfl Tryz.underlying76 rfl) ?_
 refine wa rfl rfl rfl (q_sub rfl rfl rfl) ?_
 refine wa rfl rfl rfl (q_assign (v := .int .i64 (w64 (z6 - ((s_.keys.length : Nat) : Int)))) rfl (by kernel_rfl)) ?_
 refine WQ.nil ?_
 change WC _ _ _ _ _ _
 refine WC.ret ?_
 intro w hw
 obtain rfl := Option.some.inj h
 subst hF
 exact ⟨by kernel_rfl, hw.fr⟩
theorem t_firthlaw10_awake {Γ : Gh} {w0 : World}  (hs : Sat Γ w0) {r : Bool} (h : m_firthlaw10_awake = some r) : Calls Tryz.prog 6 #[] w0 (fun e w' => e = .returned (.bool r) ∧ Fr no w0 w') := by
 refine calls_of (N := 69) (rs := [0]) (args := []) Tryz.func6 rfl Tryz.ntmps6 Tryz.results6 rfl ?_
 obtain ⟨F, hF⟩ : ∃ F : Fm, F = ⟨no, w0, Γ⟩ := ⟨_, rfl⟩
 refine WC.here (C := CC F Γ []) ?_ (hF ▸ Cur.start0 hs)
 refine WC.rs ?_
 refine as_ (v := .bool false) ?_
 refine WR.done ?_
 refine WC.rs ?_
 obtain ⟨z1, hz2, h⟩ := bnd h
 refine e_call (is := []) rfl rfl (call_run Tryz.call8 rfl rfl (by kernel_rfl)) rfl (fun w hp => t_disk_New 1000 (show I64 1000 by decide) hp hz2) ?_
 rintro Γ3 U5 v6 hl4 ⟨g7, row8, rfl, rfl, hr9, _⟩
 change WR _ _ _ (CC F Γ3 [row8]) _ _ (upd _ 6 ((pq g7)))
 refine as_ (v := (pq g7)) ?_
 refine WR.done ?_
 refine WC.rs ?_
 refine mv (v := (pq g7)) ?_
 obtain ⟨z10, hz11, h⟩ := bnd h
 refine e_call (is := [0]) rfl rfl (call_run Tryz.call9 rfl rfl (by kernel_rfl)) rfl (fun w hp => t_store_Open hr9 (⟨#[115]⟩ : ByteArray) (show (⟨#[115]⟩ : ByteArray).size ≤ lim by decide) 64 (show I64 64 by decide) hp hz11) ?_
 rintro Γ12 U14 v15 hl13 ⟨row16, g18, row19, rfl, rfl, hr17, hr20, hr21, _⟩
 change WR _ _ _ (CC F Γ12 [row16, row19]) _ _ (upd _ 9 (.tuple #[optp z10.2.1 g18, .int .i64 z10.2.2]))
 refine mv (v := .tuple #[optp z10.2.1 g18, .int .i64 z10.2.2]) ?_
 refine vb (q_extract (v := optp z10.2.1 g18) rfl rfl rfl) ?_
 refine vb (q_extract (v := .int .i64 z10.2.2) rfl rfl rfl) ?_
 refine as_ (v := optp z10.2.1 g18) ?_
 refine as_ (v := .int .i64 z10.2.2) ?_
 refine WR.done ?_
 refine WC.seq ?_
 refine WC.rs ?_
 refine mv (v := optp z10.2.1 g18) ?_
 refine vb (q_opt_eql Tryz.underlying29 rfl rfl rfl) ?_
 refine mv (v := .bool (Option.isNone z10.2.1)) ?_
 refine vg0 rfl rfl rfl rfl rfl (fun hg22 => QV.qo (q_move (v := .int .i64 z10.2.2) rfl (by kernel_rfl))) ?_
 refine vg0 rfl rfl rfl rfl rfl (fun hg23 => QV.qo (q_neq rfl (gu hg23 rfl) rfl)) ?_
 refine vb (q_pick rfl rfl (pk_or' (g := (Option.isNone z10.2.1)) (y := (z10.2.2 != 0)))) ?_
 refine mv (v := .bool ((Option.isNone z10.2.1) || (z10.2.2 != 0))) ?_
 refine vg0 rfl rfl rfl rfl rfl (fun hg24 => QV.qo (q_move (v := optp z10.2.1 g18) rfl (by kernel_rfl))) ?_
 refine (Bool.eq_false_or_eq_true (!((Option.isNone z10.2.1) || (z10.2.2 != 0)))).elim (fun hb25 => ?_) (fun hb25 => ?_)
 ·
  have h := bt hb25 h
  obtain ⟨z26, hz27, h⟩ := bnd h
  have ho28 := optob_some hr20 hz27
  refine WR.sat (c0 := true) (g := ((Option.isNone z10.2.1) || (z10.2.2 != 0))) rfl rfl rfl hb25 ?_
  obtain ⟨z29, hz30, h⟩ := bnd h
  refine e_call (is := []) rfl rfl (call_run Tryz.call29 rfl rfl (by kernel_rfl)) rfl (fun w hp => t_firthlaw10_ver 1 (show I64 1 by decide) 1 (show I64 1 by decide) false hp hz30) ?_
  rintro Γ31 U33 v34 hl32 ⟨A35, c36, rfl, rfl, hr37, _⟩
  change WR _ _ _ (CC F Γ31 [row16, row19]) _ _ (upd _ 20 (.agg #[.int .i64 z29.dot.s, .int .i64 z29.dot.n, .slice A35 z29.past.length c36, .bool z29.gone, .string z29.val]))
  refine WR.sat (c0 := true) (g := ((Option.isNone z10.2.1) || (z10.2.2 != 0))) rfl rfl rfl hb25 ?_
  refine e_buildSlice (cs := #[.int .i64 z29.dot.s, .int .i64 z29.dot.n, .slice A35 z29.past.length c36, .bool z29.gone, .string z29.val]) (e := 39) rfl rfl rfl rfl (fun w => by kernel_rfl) ?_
  intro g38
  refine WR.sat (c0 := true) (g := ((Option.isNone z10.2.1) || (z10.2.2 != 0))) rfl rfl rfl hb25 ?_
  refine vb (q_build' (v := .agg #[.string (⟨#[107]⟩ : ByteArray), .slice (some ⟨g38, 0, none⟩) 1 1]) rfl (bargs2 rfl rfl) (fun w => by kernel_rfl)) ?_
  refine WR.sat (c0 := true) (g := ((Option.isNone z10.2.1) || (z10.2.2 != 0))) rfl rfl rfl hb25 ?_
  have ho39 : Own verT Γ31 39 [(g38, .cells #[.int .i64 z29.dot.s, .int .i64 z29.dot.n, .slice A35 z29.past.length c36, .bool z29.gone, .string z29.val] 39 (0, 0))] (some ⟨g38, 0, none⟩) 1 [z29] := Own.of_blockL (T := verT) (ys := [z29]) [[.int .i64 z29.dot.s, .int .i64 z29.dot.n, .slice A35 z29.past.length c36, .bool z29.gone, .string z29.val]] rfl (show 1 ≤ lim by decide) (show Ty.rd verT Γ31 [.int .i64 z29.dot.s, .int .i64 z29.dot.n, .slice A35 z29.past.length c36, .bool z29.gone, .string z29.val] z29 ∧ True from ⟨⟨A35, c36, rfl, hr37⟩, trivial⟩)
  have hc44 := ho39.capz
  intro w hw; obtain ⟨Γ40, hw, hl41, hr42⟩ := hw.seal (i := 0) rfl; have hs43 := ho39.sl hl41 hr42
  refine WR.here (C := CC F Γ40 [[], row16, row19]) ?_ hw
  clear hw
  obtain ⟨z45, hz46, h⟩ := bnd h
  refine e_callB (is := [2, 1]) (Lent.nil F) rfl rfl (call_run Tryz.call11 rfl rfl (args2 (optp_some (gu hb25 rfl) hz27) rfl)) rfl (fun w Θ hp hpB hle hleB hR => t_store_Store_Put_l0 (ho28.mono (hl32.trans hl41)) (⟨(⟨#[107]⟩ : ByteArray), [z29]⟩ : Rec) (Rec.fits_mono ⟨(show (⟨#[107]⟩ : ByteArray).size ≤ lim by decide), ⟨hc44, hs43⟩⟩ hle) (hr17.mono (hl32.trans hl41)) hp hpB hz46) ?_
  rintro Γ47 U49 v50 hl48 ⟨row51, row53, rfl, rfl, hr52, hr54, hr55, _⟩
  change WR _ _ _ (CC F Γ47 [row51, row53, []]) _ _ (upd _ 23 (.int .i64 z45.2.2))
  refine WR.sat (c0 := true) (g := ((Option.isNone z10.2.1) || (z10.2.2 != 0))) rfl rfl rfl hb25 ?_
  refine vb (q_neq rfl rfl rfl) ?_
  refine vb (q_pick_f (v := .bool (z45.2.2 != 0)) rfl rfl (not_t hb25) (by kernel_rfl)) ?_
  refine mv (v := .bool (z45.2.2 != 0)) ?_
  refine vg0 rfl rfl rfl rfl rfl (fun hg56 => QV.qo (q_move (v := (pq g18)) rfl (optp_some rfl hz27))) ?_
  refine (Bool.eq_false_or_eq_true (!(z45.2.2 != 0))).elim (fun hb57 => ?_) (fun hb57 => ?_)
  ·
   have h := bt hb57 h
   refine WR.sat (c0 := true) (g := (z45.2.2 != 0)) rfl rfl rfl hb57 ?_
   obtain ⟨z58, hz59, h⟩ := bnd h
   refine e_call (is := []) rfl rfl (call_run Tryz.call29 rfl rfl (by kernel_rfl)) rfl (fun w hp => t_firthlaw10_ver 2 (show I64 2 by decide) 1 (show I64 1 by decide) true hp hz59) ?_
   rintro Γ60 U62 v63 hl61 ⟨A64, c65, rfl, rfl, hr66, _⟩
   change WR _ _ _ (CC F Γ60 [row51, row53, []]) _ _ (upd _ 28 (.agg #[.int .i64 z58.dot.s, .int .i64 z58.dot.n, .slice A64 z58.past.length c65, .bool z58.gone, .string z58.val]))
   refine WR.sat (c0 := true) (g := (z45.2.2 != 0)) rfl rfl rfl hb57 ?_
   refine e_buildSlice (cs := #[.int .i64 z58.dot.s, .int .i64 z58.dot.n, .slice A64 z58.past.length c65, .bool z58.gone, .string z58.val]) (e := 39) rfl rfl rfl rfl (fun w => by kernel_rfl) ?_
   intro g67
   refine WR.sat (c0 := true) (g := (z45.2.2 != 0)) rfl rfl rfl hb57 ?_
   refine vb (q_build' (v := .agg #[.string (⟨#[108]⟩ : ByteArray), .slice (some ⟨g67, 0, none⟩) 1 1]) rfl (bargs2 rfl rfl) (fun w => by kernel_rfl)) ?_
   refine WR.sat (c0 := true) (g := (z45.2.2 != 0)) rfl rfl rfl hb57 ?_
   have ho68 : Own verT Γ60 39 [(g67, .cells #[.int .i64 z58.dot.s, .int .i64 z58.dot.n, .slice A64 z58.past.length c65, .bool z58.gone, .string z58.val] 39 (0, 0))] (some ⟨g67, 0, none⟩) 1 [z58] := Own.of_blockL (T := verT) (ys := [z58]) [[.int .i64 z58.dot.s, .int .i64 z58.dot.n, .slice A64 z58.past.length c65, .bool z58.gone, .string z58.val]] rfl (show 1 ≤ lim by decide) (show Ty.rd verT Γ60 [.int .i64 z58.dot.s, .int .i64 z58.dot.n, .slice A64 z58.past.length c65, .bool z58.gone, .string z58.val] z58 ∧ True from ⟨⟨A64, c65, rfl, hr66⟩, trivial⟩)
   have hc73 := ho68.capz
   intro w hw; obtain ⟨Γ69, hw, hl70, hr71⟩ := hw.seal (i := 0) rfl; have hs72 := ho68.sl hl70 hr71
   refine WR.here (C := CC F Γ69 [[], row51, row53, []]) ?_ hw
   clear hw
   obtain ⟨z74, hz75, h⟩ := bnd h
   refine e_callB (is := [1, 1]) (Lent.nil F) rfl rfl (call_run Tryz.call11 rfl rfl (args2 (gu hb57 rfl) rfl)) rfl (fun w Θ hp hpB hle hleB hR => t_store_Store_Put_l0 (hr52.mono (hl61.trans hl70)) (⟨(⟨#[108]⟩ : ByteArray), [z58]⟩ : Rec) (Rec.fits_mono ⟨(show (⟨#[108]⟩ : ByteArray).size ≤ lim by decide), ⟨hc73, hs72⟩⟩ hle) (hr54.mono (hl61.trans hl70)) hp hpB hz75) ?_
   rintro Γ76 U78 v79 hl77 ⟨row80, row82, rfl, rfl, hr81, hr83, hr84, _⟩
   change WR _ _ _ (CC F Γ76 [row80, row82, [], []]) _ _ (upd _ 31 (.int .i64 z74.2.2))
   refine WR.sat (c0 := true) (g := (z45.2.2 != 0)) rfl rfl rfl hb57 ?_
   refine vb (q_neq rfl rfl rfl) ?_
   refine vb (q_pick_f (v := .bool (z74.2.2 != 0)) rfl rfl (not_t hb57) (by kernel_rfl)) ?_
   refine WR.done ?_
   refine WC.cif h (by kernel_rfl) (fun hb85 h => ?_) (fun hb85 h => ?_)
   ·
    refine WC.rs ?_
    refine as_ (v := .bool false) ?_
    refine WR.done ?_
    refine WC.ret ?_
    intro w hw
    obtain rfl := Option.some.inj h
    subst hF
    exact ⟨by kernel_rfl, hw.fr⟩
   ·
    refine WC.skip ?_
    change WC _ _ _ _ _ _
    refine WC.rs ?_
    refine vb (q_move (v := (pq g18)) rfl (optp_some rfl hz27)) ?_
    obtain ⟨z86, hz87, h⟩ := bnd h
    refine e_call (is := [0]) rfl rfl (call_run Tryz.call30 rfl rfl (by kernel_rfl)) rfl (fun w hp => t_store_Store_Keys hr81 hp hz87) ?_
    rintro Γ88 U90 v91 hl89 ⟨A92, c93, row94, rfl, rfl, hr95, _⟩
    change WR _ _ _ (CC F Γ88 [row80, row94, row82, [], []]) _ _ (upd _ 35 (.slice A92 z86.length c93))
    refine vb (q_len_slice rfl Tryz.underlying72 rfl) ?_
    refine as_ (v := .int .i64 ((z86.length : Nat) : Int)) ?_
    refine WR.done ?_
    refine WC.rs ?_
    refine vb (q_move (v := (pq g18)) rfl (optp_some rfl hz27)) ?_
    refine e_buildSlice (cs := #[.int .i64 9, .int .i64 1]) (e := 2) rfl rfl rfl rfl (fun w => by kernel_rfl) ?_
    intro g96
    have ho97 : Own intT Γ88 2 [(g96, .cells #[.int .i64 9, .int .i64 1] 2 (0, 0))] (some ⟨g96, 0, none⟩) 2 [9, 1] := Own.of_blockL (T := intT) (ys := [9, 1]) [[.int .i64 9], [.int .i64 1]] rfl (show 2 ≤ lim by decide) (show Ty.rd intT Γ88 [.int .i64 9] 9 ∧ Ty.rd intT Γ88 [.int .i64 1] 1 ∧ True from ⟨⟨rfl, (show I64 9 by decide)⟩, ⟨rfl, (show I64 1 by decide)⟩, trivial⟩)
    have hc102 := ho97.capz
    intro w hw; obtain ⟨Γ98, hw, hl99, hr100⟩ := hw.seal (i := 0) rfl; have hs101 := ho97.sl hl99 hr100
    refine WR.here (C := CC F Γ98 [[], row80, row94, row82, [], []]) ?_ hw
    clear hw
    obtain ⟨z103, hz104, h⟩ := bnd h
    refine e_call (is := [1, 2]) rfl rfl (call_run Tryz.call17 rfl rfl (by kernel_rfl)) rfl (fun w hp => t_store_Store_Trim (hr81.mono (hl89.trans hl99)) hs101 hc102 (hr83.mono (hl89.trans hl99)) hp hz104) ?_
    rintro Γ105 U107 v108 hl106 ⟨row109, row111, rfl, rfl, hr110, hr112, hr113, _⟩
    change WR _ _ _ (CC F Γ105 [row109, row111, [], row94, [], []]) _ _ (upd _ 39 (.int .i64 z103.2.2))
    refine as_ (v := .int .i64 z103.2.2) ?_
    refine WR.done ?_
    refine WC.rs ?_
    refine mv (v := .int .i64 ((z86.length : Nat) : Int)) ?_
    refine vb (q_eql rfl rfl rfl) ?_
    refine mv (v := .bool (((z86.length : Nat) : Int) == 2)) ?_
    refine vg1 rfl rfl rfl rfl rfl (fun hg114 => QV.qo (q_move (v := .int .i64 z103.2.2) rfl (by kernel_rfl))) ?_
    refine vg1 rfl rfl rfl rfl rfl (fun hg115 => QV.qo (q_eql rfl (gu hg115 rfl) rfl)) ?_
    refine vb (q_pick rfl rfl (pk_and' (g := (((z86.length : Nat) : Int) == 2)) (y := (z103.2.2 == 0)))) ?_
    refine mv (v := .bool ((((z86.length : Nat) : Int) == 2) && (z103.2.2 == 0))) ?_
    refine vg1 rfl rfl rfl rfl rfl (fun hg116 => QV.qo (q_move (v := (pq g18)) rfl (optp_some rfl hz27))) ?_
    refine (Bool.eq_false_or_eq_true ((((z86.length : Nat) : Int) == 2) && (z103.2.2 == 0))).elim (fun hb117 => ?_) (fun hb117 => ?_)
    ·
     have h := bt hb117 h
     refine WR.sat (c0 := true) (g := ((((z86.length : Nat) : Int) == 2) && (z103.2.2 == 0))) rfl rfl rfl hb117 ?_
     obtain ⟨z118, hz119, h⟩ := bnd h
     refine e_call (is := [0]) rfl rfl (call_run Tryz.call30 rfl rfl (args1 (gu hb117 rfl))) rfl (fun w hp => t_store_Store_Keys hr110 hp hz119) ?_
     rintro Γ120 U122 v123 hl121 ⟨A124, c125, row126, rfl, rfl, hr127, _⟩
     change WR _ _ _ (CC F Γ120 [row109, row126, row111, [], row94, [], []]) _ _ (upd _ 48 (.slice A124 z118.length c125))
     refine WR.sat (c0 := true) (g := ((((z86.length : Nat) : Int) == 2) && (z103.2.2 == 0))) rfl rfl rfl hb117 ?_
     refine vb (q_len_slice rfl Tryz.underlying72 rfl) ?_
     refine WR.sat (c0 := true) (g := ((((z86.length : Nat) : Int) == 2) && (z103.2.2 == 0))) rfl rfl rfl hb117 ?_
     refine vb (q_eql rfl rfl rfl) ?_
     refine vb (q_pick_t (v := .bool (((z118.length : Nat) : Int) == 1)) rfl rfl hb117 (by kernel_rfl)) ?_
     refine mv (v := .bool (((z118.length : Nat) : Int) == 1)) ?_
     refine vg1 rfl rfl rfl rfl rfl (fun hg128 => QV.qo (q_move (v := (pq g18)) rfl (optp_some rfl hz27))) ?_
     obtain ⟨z130, hz131, h⟩ := bnd h
     refine vg1 rfl rfl rfl rfl rfl (fun hg129 => (q_call (call_run Tryz.call31 rfl rfl (args1 (gu hg129 rfl))) (fun w hw => t_store_Store_Waste (Γ := Gh.all w) ((hr110.mono hl121).mono hw.sat.le_all) (hw.ra 0 rfl) (Sat.all w) (gc_of hz131 hg129)))) ?_
     refine vg1 rfl rfl rfl rfl rfl (fun hg132 => QV.qo (q_eql rfl (gu hg132 rfl) rfl)) ?_
     refine vb (q_pick rfl rfl (pk_and' (g := (((z118.length : Nat) : Int) == 1)) (y := (z130 == 0)))) ?_
     refine mv (v := .bool ((((z118.length : Nat) : Int) == 1) && (z130 == 0))) ?_
     refine vg1 rfl rfl rfl rfl rfl (fun hg133 => QV.qo (q_move (v := (pq g18)) rfl (optp_some rfl hz27))) ?_
     refine (Bool.eq_false_or_eq_true ((((z118.length : Nat) : Int) == 1) && (z130 == 0))).elim (fun hb134 => ?_) (fun hb134 => ?_)
     ·
      have h := bt hb134 h
      refine WR.sat (c0 := true) (g := ((((z118.length : Nat) : Int) == 1) && (z130 == 0))) rfl rfl rfl hb134 ?_
      obtain ⟨z135, hz136, h⟩ := bnd h
      refine e_callB (is := []) (Lent.nil F) rfl rfl (call_run Tryz.call12 rfl rfl (args2 (gu hb134 rfl) rfl)) rfl (fun w Θ hp hpB hle hleB hR => t_store_Store_Get_l0 ((hr110.mono hl121).mono hle) (fun p hp => hR _ (List.mem_of_getElem? (i := 0) rfl) p hp) (⟨#[107]⟩ : ByteArray) (show (⟨#[107]⟩ : ByteArray).size ≤ lim by decide) hp hpB hz136) ?_
      rintro Γ137 U139 v140 hl138 ⟨A141, c142, rfl, rfl, hc144, hr143, _⟩
      change WR _ _ _ (CC F Γ137 [row109, row126, row111, [], row94, [], []]) _ _ (upd _ 59 (.slice A141 z135.length c142))
      refine WR.sat (c0 := true) (g := ((((z118.length : Nat) : Int) == 1) && (z130 == 0))) rfl rfl rfl hb134 ?_
      refine vb (q_len_slice rfl Tryz.underlying22 rfl) ?_
      refine WR.sat (c0 := true) (g := ((((z118.length : Nat) : Int) == 1) && (z130 == 0))) rfl rfl rfl hb134 ?_
      refine vb (q_eql rfl rfl rfl) ?_
      refine vb (q_pick_t (v := .bool (((z135.length : Nat) : Int) == 1)) rfl rfl hb134 (by kernel_rfl)) ?_
      refine mv (v := .bool (((z135.length : Nat) : Int) == 1)) ?_
      refine vg1 rfl rfl rfl rfl rfl (fun hg145 => QV.qo (q_move (v := (pq g18)) rfl (optp_some rfl hz27))) ?_
      refine (Bool.eq_false_or_eq_true (((z135.length : Nat) : Int) == 1)).elim (fun hb146 => ?_) (fun hb146 => ?_)
      ·
       have h := bt hb146 h
       refine WR.sat (c0 := true) (g := (((z135.length : Nat) : Int) == 1)) rfl rfl rfl hb146 ?_
       obtain ⟨z147, hz148, h⟩ := bnd h
       refine e_callB (is := []) (Lent.nil F) rfl rfl (call_run Tryz.call12 rfl rfl (args2 (gu hb146 rfl) rfl)) rfl (fun w Θ hp hpB hle hleB hR => t_store_Store_Get_l0 ((hr110.mono (hl121.trans hl138)).mono hle) (fun p hp => hR _ (List.mem_of_getElem? (i := 0) rfl) p hp) (⟨#[108]⟩ : ByteArray) (show (⟨#[108]⟩ : ByteArray).size ≤ lim by decide) hp hpB hz148) ?_
       rintro Γ149 U151 v152 hl150 ⟨A153, c154, rfl, rfl, hc156, hr155, _⟩
       change WR _ _ _ (CC F Γ149 [row109, row126, row111, [], row94, [], []]) _ _ (upd _ 65 (.slice A153 z147.length c154))
       refine WR.sat (c0 := true) (g := (((z135.length : Nat) : Int) == 1)) rfl rfl rfl hb146 ?_
       refine vb (q_len_slice rfl Tryz.underlying22 rfl) ?_
       refine WR.sat (c0 := true) (g := (((z135.length : Nat) : Int) == 1)) rfl rfl rfl hb146 ?_
       refine vb (q_eql rfl rfl rfl) ?_
       refine vb (q_pick_t (v := .bool (((z147.length : Nat) : Int) == 0)) rfl rfl hb146 (by kernel_rfl)) ?_
       refine as_ (v := .bool (((z147.length : Nat) : Int) == 0)) ?_
       refine WR.done ?_
       refine WC.ret ?_
       intro w hw
       obtain rfl := Option.some.inj h
       subst hF
       exact ⟨by kernel_rfl, hw.fr⟩
      ·
       have h := bf hb146 h
       refine WR.unsat (c0 := true) (g := (((z135.length : Nat) : Int) == 1)) rfl rfl rfl hb146 rfl ?_
       refine WR.unsat (c0 := true) (g := (((z135.length : Nat) : Int) == 1)) rfl rfl rfl hb146 rfl ?_
       refine WR.unsat (c0 := true) (g := (((z135.length : Nat) : Int) == 1)) rfl rfl rfl hb146 rfl ?_
       refine vb (q_pick_f (v := .bool false) rfl rfl hb146 (by kernel_rfl)) ?_
       refine as_ (v := .bool false) ?_
       refine WR.done ?_
       refine WC.ret ?_
       intro w hw
       obtain rfl := Option.some.inj h
       subst hF
       exact ⟨by kernel_rfl, hw.fr⟩
     ·
      have h := bf hb134 h
      refine WR.unsat (c0 := true) (g := ((((z118.length : Nat) : Int) == 1) && (z130 == 0))) rfl rfl rfl hb134 rfl ?_
      refine WR.unsat (c0 := true) (g := ((((z118.length : Nat) : Int) == 1) && (z130 == 0))) rfl rfl rfl hb134 rfl ?_
      refine WR.unsat (c0 := true) (g := ((((z118.length : Nat) : Int) == 1) && (z130 == 0))) rfl rfl rfl hb134 rfl ?_
      refine vb (q_pick_f (v := .bool false) rfl rfl hb134 (by kernel_rfl)) ?_
      refine mv (v := .bool false) ?_
      refine WR.unsat (c0 := true) (g := false) rfl rfl rfl rfl rfl ?_
      refine WR.unsat (c0 := true) (g := false) rfl rfl rfl rfl rfl ?_
      refine WR.unsat (c0 := true) (g := false) rfl rfl rfl rfl rfl ?_
      refine WR.unsat (c0 := true) (g := false) rfl rfl rfl rfl rfl ?_
      refine vb (q_pickf (v := .bool false) rfl rfl rfl) ?_
      refine as_ (v := .bool false) ?_
      refine WR.done ?_
      refine WC.ret ?_
      intro w hw
      obtain rfl := Option.some.inj h
      subst hF
      exact ⟨by kernel_rfl, hw.fr⟩
    ·
     have h := bf hb117 h
     refine WR.unsat (c0 := true) (g := ((((z86.length : Nat) : Int) == 2) && (z103.2.2 == 0))) rfl rfl rfl hb117 rfl ?_
     refine WR.unsat (c0 := true) (g := ((((z86.length : Nat) : Int) == 2) && (z103.2.2 == 0))) rfl rfl rfl hb117 rfl ?_
     refine WR.unsat (c0 := true) (g := ((((z86.length : Nat) : Int) == 2) && (z103.2.2 == 0))) rfl rfl rfl hb117 rfl ?_
     refine vb (q_pick_f (v := .bool false) rfl rfl hb117 (by kernel_rfl)) ?_
     refine mv (v := .bool false) ?_
     refine WR.unsat (c0 := true) (g := false) rfl rfl rfl rfl rfl ?_
     refine WR.unsat (c0 := true) (g := false) rfl rfl rfl rfl rfl ?_
     refine WR.unsat (c0 := true) (g := false) rfl rfl rfl rfl rfl ?_
     refine vb (q_pickf (v := .bool false) rfl rfl rfl) ?_
     refine mv (v := .bool false) ?_
     refine WR.unsat (c0 := true) (g := false) rfl rfl rfl rfl rfl ?_
     refine WR.unsat (c0 := true) (g := false) rfl rfl rfl rfl rfl ?_
     refine WR.unsat (c0 := true) (g := false) rfl rfl rfl rfl rfl ?_
     refine WR.unsat (c0 := true) (g := false) rfl rfl rfl rfl rfl ?_
     refine vb (q_pickf (v := .bool false) rfl rfl rfl) ?_
     refine mv (v := .bool false) ?_
     refine WR.unsat (c0 := true) (g := false) rfl rfl rfl rfl rfl ?_
     refine WR.unsat (c0 := true) (g := false) rfl rfl rfl rfl rfl ?_
     refine WR.unsat (c0 := true) (g := false) rfl rfl rfl rfl rfl ?_
     refine WR.unsat (c0 := true) (g := false) rfl rfl rfl rfl rfl ?_
     refine vb (q_pickf (v := .bool false) rfl rfl rfl) ?_
     refine as_ (v := .bool false) ?_
     refine WR.done ?_
     refine WC.ret ?_
     intro w hw
     obtain rfl := Option.some.inj h
     subst hF
     exact ⟨by kernel_rfl, hw.fr⟩
  ·
   have h := bf hb57 h
   refine WR.unsat (c0 := true) (g := (z45.2.2 != 0)) rfl rfl rfl hb57 rfl ?_
   refine WR.unsat (c0 := true) (g := (z45.2.2 != 0)) rfl rfl rfl hb57 rfl ?_
   refine WR.unsat (c0 := true) (g := (z45.2.2 != 0)) rfl rfl rfl hb57 rfl ?_
   refine WR.unsat (c0 := true) (g := (z45.2.2 != 0)) rfl rfl rfl hb57 rfl ?_
   refine WR.unsat (c0 := true) (g := (z45.2.2 != 0)) rfl rfl rfl hb57 rfl ?_
   refine vb (q_pick_t (v := .bool true) rfl rfl (not_f hb57) (by kernel_rfl)) ?_
   refine WR.done ?_
   refine WC.ctk (b := true) (by kernel_rfl) rfl ?_
   refine WC.rs ?_
   refine as_ (v := .bool false) ?_
   refine WR.done ?_
   refine WC.ret ?_
   intro w hw
   obtain rfl := Option.some.inj h
   subst hF
   exact ⟨by kernel_rfl, hw.fr⟩
 ·
  have h := bf hb25 h
  refine WR.unsat (c0 := true) (g := ((Option.isNone z10.2.1) || (z10.2.2 != 0))) rfl rfl rfl hb25 rfl ?_
  refine WR.unsat (c0 := true) (g := ((Option.isNone z10.2.1) || (z10.2.2 != 0))) rfl rfl rfl hb25 rfl ?_
  refine WR.unsat (c0 := true) (g := ((Option.isNone z10.2.1) || (z10.2.2 != 0))) rfl rfl rfl hb25 rfl ?_
  refine WR.unsat (c0 := true) (g := ((Option.isNone z10.2.1) || (z10.2.2 != 0))) rfl rfl rfl hb25 rfl ?_
  refine WR.unsat (c0 := true) (g := ((Option.isNone z10.2.1) || (z10.2.2 != 0))) rfl rfl rfl hb25 rfl ?_
  refine vb (q_pick_t (v := .bool true) rfl rfl (not_f hb25) (by kernel_rfl)) ?_
  refine mv (v := .bool true) ?_
  refine WR.unsat (c0 := true) (g := true) rfl rfl rfl (nott rfl) rfl ?_
  refine WR.unsat (c0 := true) (g := true) rfl rfl rfl (nott rfl) rfl ?_
  refine WR.unsat (c0 := true) (g := true) rfl rfl rfl (nott rfl) rfl ?_
  refine WR.unsat (c0 := true) (g := true) rfl rfl rfl (nott rfl) rfl ?_
  refine WR.unsat (c0 := true) (g := true) rfl rfl rfl (nott rfl) rfl ?_
  refine WR.unsat (c0 := true) (g := true) rfl rfl rfl (nott rfl) rfl ?_
  refine vb (q_pickt (v := .bool true) rfl rfl rfl) ?_
  refine WR.done ?_
  refine WC.ctk (b := true) (by kernel_rfl) rfl ?_
  refine WC.rs ?_
  refine as_ (v := .bool false) ?_
  refine WR.done ?_
  refine WC.ret ?_
  intro w hw
  obtain rfl := Option.some.inj h
  subst hF
  exact ⟨by kernel_rfl, hw.fr⟩
theorem t_firthref03_Same {Γ : Gh} {w0 : World} {Aa : Option Addr} {ca : Nat} {a : List Span} (ha : Sl spanT Γ Aa a) (hac : a.length ≤ ca) {Ab : Option Addr} {cb : Nat} {b : List Span} (hb : Sl spanT Γ Ab b) (hbc : b.length ≤ cb) (hs : Sat Γ w0) {r : Bool} (h : m_firthref03_Same a b = some r) : Calls Tryz.prog 83 #[.slice Aa a.length ca, .slice Ab b.length cb] w0 (fun e w' => e = .returned (.bool r) ∧ Fr no w0 w') := by
 refine calls_of (N := 26) (rs := [4]) (args := [.slice Aa a.length ca, .slice Ab b.length cb]) Tryz.func83 rfl Tryz.ntmps83 Tryz.results83 rfl ?_
 obtain ⟨F, hF⟩ : ∃ F : Fm, F = ⟨no, w0, Γ⟩ := ⟨_, rfl⟩
 refine WC.here (C := CC F Γ []) ?_ (hF ▸ Cur.start0 hs)
 refine WC.rs ?_
 refine as_ (v := .bool false) ?_
 refine WR.done ?_
 refine WC.seq ?_
 refine WC.rs ?_
 refine mv (v := .slice Aa a.length ca) ?_
 refine vb (q_len_slice rfl Tryz.underlying37 rfl) ?_
 refine mv (v := .slice Ab b.length cb) ?_
 refine vb (q_len_slice rfl Tryz.underlying37 rfl) ?_
 refine vb (q_neq rfl rfl rfl) ?_
 refine WR.done ?_
 refine WC.cif h (by kernel_rfl) (fun hb1 h => ?_) (fun hb1 h => ?_)
 ·
  refine WC.rs ?_
  refine as_ (v := .bool false) ?_
  refine WR.done ?_
  refine WC.ret ?_
  intro w hw
  obtain rfl := Option.some.inj h
  subst hF
  exact ⟨by kernel_rfl, hw.fr⟩
 ·
  refine WC.skip ?_
  change WC _ _ _ _ _ _
  refine WC.seq ?_
  refine WC.rs ?_
  refine as_ (v := .int .i64 0) ?_
  refine WR.done ?_
  refine WC.block ?_
  refine WC.forI h (fun (i3 : Nat) (s : Unit) σ w => match s with | () => slots σ [(0, .slice Aa a.length ca), (1, .slice Ab b.length cb), (5, .int .i64 ((i3 : Nat) : Int))] ∧ CC F Γ [] w ∧ True) ?_ ?_
  ·
   intro w hw
   exact ⟨(sl_ (by kernel_rfl)), hw, trivial⟩
  rintro f2 i3 ⟨⟩ σ w hi4 hlt5 hge6 ⟨hsl, hw, -⟩
  refine Wpt.slots hsl ?_
  refine WC.here (C := CC F Γ []) ?_ hw
  clear hw hsl
  refine WC.seq ?_
  refine WC.rs ?_
  refine mv (v := .int .i64 ((i3 : Nat) : Int)) ?_
  refine mv (v := .slice Aa a.length ca) ?_
  refine vb (q_len_slice rfl Tryz.underlying37 rfl) ?_
  refine vb (q_lss rfl rfl rfl) ?_
  refine WR.done ?_
  refine WC.cond (b := (decide (((i3 : Nat) : Int) < ((a.length : Nat) : Int)))) (by kernel_rfl) (fun hb7 => ?_) (fun hb7 => ?_)
  ·
   have hl8 := ilt hb7
   have h := hlt5 hl8
   refine WC.skip ?_
   change WC _ _ _ _ _ _
   refine WC.seq ?_
   refine WC.block ?_
   refine WC.seq ?_
   refine WC.dr (by kernel_rfl) (by kernel_rfl) (fun w hw => hw.drawn _) ?_
   refine wa rfl rfl rfl (q_move (v := .slice Aa a.length ca) rfl (by kernel_rfl)) ?_
   refine wa rfl rfl rfl (q_move (v := .int .i64 ((i3 : Nat) : Int)) rfl (by kernel_rfl)) ?_
   refine wa rfl rfl rfl (q_ixn (i := i3) Tryz.underlying37 Tryz.sizeOf41 rfl rfl rfl hl8 (ha.some_ hl8)) ?_
   refine wa rfl rfl rfl (q_lda (c := 0) (vs := [.int .i64 (gt a i3).s, .int .i64 (gt a i3).f, .int .i64 (gt a i3).t]) (ha.spanT_at hl8).2 rfl Tryz.isAgg41 Tryz.sizeOf41 rfl rfl rfl) ?_
   refine wa rfl rfl rfl (q_move (v := .slice Ab b.length cb) rfl (by kernel_rfl)) ?_
   refine wa rfl rfl rfl (q_move (v := .int .i64 ((i3 : Nat) : Int)) rfl (by kernel_rfl)) ?_
   obtain ⟨hk9, h⟩ := chk_some h
   refine wa rfl rfl rfl (q_ixn (i := i3) Tryz.underlying37 Tryz.sizeOf41 rfl rfl rfl (of_decide_eq_true hk9) (hb.some_ (of_decide_eq_true hk9))) ?_
   refine wa rfl rfl rfl (q_lda (c := 0) (vs := [.int .i64 (gt b i3).s, .int .i64 (gt b i3).f, .int .i64 (gt b i3).t]) (hb.spanT_at (of_decide_eq_true hk9)).2 rfl Tryz.isAgg41 Tryz.sizeOf41 rfl rfl rfl) ?_
   refine wa rfl rfl rfl (q_neq_Span (a := (gt a i3)) (b := (gt b i3)) rfl rfl rfl) ?_
   refine WQ.nil ?_
   change WC _ _ _ _ _ _
   refine WC.cif h (by kernel_rfl) (fun hb10 h => ?_) (fun hb10 h => ?_)
   ·
    refine WC.rs ?_
    refine as_ (v := .bool false) ?_
    refine WR.done ?_
    refine WC.ret ?_
    intro w hw
    obtain rfl := Option.some.inj h
    subst hF
    exact ⟨by kernel_rfl, hw.fr⟩
   ·
    refine WC.skip ?_
    change WC _ _ _ _ _ _
    refine WC.region ?_
    refine mv (v := .int .i64 ((i3 : Nat) : Int)) ?_
    refine vb (q_add_r (r := ((i3 + 1 : Nat) : Int)) rfl rfl rfl (ctr_len hl8 ha.le)) ?_
    refine as_ (v := .int .i64 ((i3 + 1 : Nat) : Int)) ?_
    refine WR.nil ?_
    intro w hw
    exact ⟨hl8, (), h, (sl_ (by kernel_rfl)), hw, trivial⟩
  ·
   have h := hge6 (ige hb7)
   refine WC.exit ?_
   change WC _ _ _ _ _ _
   refine WC.rs ?_
   refine as_ (v := .bool true) ?_
   refine WR.done ?_
   refine WC.ret ?_
   intro w hw
   obtain rfl := Option.some.inj h
   subst hF
   exact ⟨by kernel_rfl, hw.fr⟩
theorem t_firthref05_SameOne {Γ : Gh} {w0 : World} {Aa2 : Option Addr} {ca2 : Nat} (a : Ver) (ha : Ver.fits Γ Aa2 ca2 a) {Ab2 : Option Addr} {cb2 : Nat} (b : Ver) (hb : Ver.fits Γ Ab2 cb2 b) (hs : Sat Γ w0) {r : Bool} (h : m_firthref05_SameOne a b = some r) : Calls Tryz.prog 39 #[.agg #[.int .i64 a.dot.s, .int .i64 a.dot.n, .slice Aa2 a.past.length ca2, .bool a.gone, .string a.val], .agg #[.int .i64 b.dot.s, .int .i64 b.dot.n, .slice Ab2 b.past.length cb2, .bool b.gone, .string b.val]] w0 (fun e w' => e = .returned (.bool r) ∧ Fr no w0 w') := by
 refine calls_of (N := 31) (rs := [4]) (args := [.agg #[.int .i64 a.dot.s, .int .i64 a.dot.n, .slice Aa2 a.past.length ca2, .bool a.gone, .string a.val], .agg #[.int .i64 b.dot.s, .int .i64 b.dot.n, .slice Ab2 b.past.length cb2, .bool b.gone, .string b.val]]) Tryz.func39 rfl Tryz.ntmps39 Tryz.results39 rfl ?_
 obtain ⟨F, hF⟩ : ∃ F : Fm, F = ⟨no, w0, Γ⟩ := ⟨_, rfl⟩
 refine WC.here (C := CC F Γ []) ?_ (hF ▸ Cur.start0 hs)
 refine WC.rs ?_
 refine e_box (v := .agg #[.int .i64 a.dot.s, .int .i64 a.dot.n, .slice Aa2 a.past.length ca2, .bool a.gone, .string a.val]) rfl rfl rfl rfl (by kernel_rfl) ?_
 intro g1
 refine e_box (v := .agg #[.int .i64 b.dot.s, .int .i64 b.dot.n, .slice Ab2 b.past.length cb2, .bool b.gone, .string b.val]) rfl rfl rfl rfl (by kernel_rfl) ?_
 intro g2
 refine as_ (v := .bool false) ?_
 refine WR.done ?_
 refine WC.rs ?_
 refine vb (q_fl 0 fld_39_0 rfl rfl rfl) ?_
 refine vb (q_ldla (i := 1) (vs := [.int .i64 a.dot.s, .int .i64 a.dot.n]) rfl rfl Tryz.isAgg36 Tryz.sizeOf36 rfl rfl) ?_
 refine vb (q_fl 0 fld_39_0 rfl rfl rfl) ?_
 refine vb (q_ldla (i := 0) (vs := [.int .i64 b.dot.s, .int .i64 b.dot.n]) rfl rfl Tryz.isAgg36 Tryz.sizeOf36 rfl rfl) ?_
 refine vb (q_eql_Dot (a := a.dot) (b := b.dot) rfl rfl rfl) ?_
 refine mv (v := .bool (a.dot == b.dot)) ?_
 refine vg1 rfl rfl rfl rfl rfl (fun hg3 => QV.qo (q_fl 3 fld_39_2 rfl rfl rfl)) ?_
 refine vg1 rfl rfl rfl rfl rfl (fun hg4 => QV.qo (q_ldl (i := 1) (v := .bool a.gone) rfl rfl Tryz.isAgg4 (gu hg4 rfl) rfl)) ?_
 refine vg1 rfl rfl rfl rfl rfl (fun hg5 => QV.qo (q_fl 3 fld_39_2 rfl rfl rfl)) ?_
 refine vg1 rfl rfl rfl rfl rfl (fun hg6 => QV.qo (q_ldl (i := 0) (v := .bool b.gone) rfl rfl Tryz.isAgg4 (gu hg6 rfl) rfl)) ?_
 refine vg1 rfl rfl rfl rfl rfl (fun hg7 => QV.qo (q_beql Tryz.underlying4 rfl (gu hg7 rfl) (gu hg7 rfl))) ?_
 refine vb (q_pick rfl rfl (pk_and' (g := (a.dot == b.dot)) (y := (a.gone == b.gone)))) ?_
 refine mv (v := .bool ((a.dot == b.dot) && (a.gone == b.gone))) ?_
 refine vg1 rfl rfl rfl rfl rfl (fun hg8 => QV.qo (q_fl 4 fld_39_3 rfl rfl rfl)) ?_
 refine vg1 rfl rfl rfl rfl rfl (fun hg9 => QV.qo (q_ldl (i := 1) (v := .string a.val) rfl rfl Tryz.isAgg9 (gu hg9 rfl) rfl)) ?_
 refine vg1 rfl rfl rfl rfl rfl (fun hg10 => QV.qo (q_fl 4 fld_39_3 rfl rfl rfl)) ?_
 refine vg1 rfl rfl rfl rfl rfl (fun hg11 => QV.qo (q_ldl (i := 0) (v := .string b.val) rfl rfl Tryz.isAgg9 (gu hg11 rfl) rfl)) ?_
 refine vg1 rfl rfl rfl rfl rfl (fun hg12 => QV.qo (q_seql rfl (gu hg12 rfl) (gu hg12 rfl))) ?_
 refine vb (q_pick rfl rfl (pk_and' (g := ((a.dot == b.dot) && (a.gone == b.gone))) (y := (a.val == b.val)))) ?_
 refine mv (v := .bool (((a.dot == b.dot) && (a.gone == b.gone)) && (a.val == b.val))) ?_
 refine vg1 rfl rfl rfl rfl rfl (fun hg13 => QV.qo (q_fl 2 fld_39_1 rfl rfl rfl)) ?_
 refine vg1 rfl rfl rfl rfl rfl (fun hg14 => QV.qo (q_ldl (i := 1) (v := .slice Aa2 a.past.length ca2) rfl rfl Tryz.isAgg37 (gu hg14 rfl) rfl)) ?_
 refine vg1 rfl rfl rfl rfl rfl (fun hg15 => QV.qo (q_fl 2 fld_39_1 rfl rfl rfl)) ?_
 refine vg1 rfl rfl rfl rfl rfl (fun hg16 => QV.qo (q_ldl (i := 0) (v := .slice Ab2 b.past.length cb2) rfl rfl Tryz.isAgg37 (gu hg16 rfl) rfl)) ?_
 obtain ⟨z18, hz19, h⟩ := bnd h
 refine vg1 rfl rfl rfl rfl rfl (fun hg17 => (q_call (call_run Tryz.call83 rfl rfl (args2 (gu hg17 rfl) (gu hg17 rfl))) (fun w hw => t_firthref03_Same (Γ := Gh.all w) (ha.2.2.1.2.mono hw.sat.le_all) ha.2.2.1.1 (hb.2.2.1.2.mono hw.sat.le_all) hb.2.2.1.1 (Sat.all w) (gc_of hz19 hg17)))) ?_
 refine vb (q_pick rfl rfl (pk_and' (g := (((a.dot == b.dot) && (a.gone == b.gone)) && (a.val == b.val))) (y := z18))) ?_
 refine as_ (v := .bool ((((a.dot == b.dot) && (a.gone == b.gone)) && (a.val == b.val)) && z18)) ?_
 refine WR.done ?_
 refine WC.ret ?_
 intro w hw
 obtain rfl := Option.some.inj h
 subst hF
 exact ⟨by kernel_rfl, hw.fr⟩
theorem t_firthref05_Same {Γ : Gh} {w0 : World} {Aa : Option Addr} {ca : Nat} {a : List Ver} (ha : Sl verT Γ Aa a) (hac : a.length ≤ ca) {Ab : Option Addr} {cb : Nat} {b : List Ver} (hb : Sl verT Γ Ab b) (hbc : b.length ≤ cb) (hs : Sat Γ w0) {r : Bool} (h : m_firthref05_Same a b = some r) : Calls Tryz.prog 13 #[.slice Aa a.length ca, .slice Ab b.length cb] w0 (fun e w' => e = .returned (.bool r) ∧ Fr no w0 w') := by
 refine calls_of (N := 27) (rs := [4]) (args := [.slice Aa a.length ca, .slice Ab b.length cb]) Tryz.func13 rfl Tryz.ntmps13 Tryz.results13 rfl ?_
 obtain ⟨F, hF⟩ : ∃ F : Fm, F = ⟨no, w0, Γ⟩ := ⟨_, rfl⟩
 refine WC.here (C := CC F Γ []) ?_ (hF ▸ Cur.start0 hs)
 refine WC.rs ?_
 refine as_ (v := .bool false) ?_
 refine WR.done ?_
 refine WC.seq ?_
 refine WC.rs ?_
 refine mv (v := .slice Aa a.length ca) ?_
 refine vb (q_len_slice rfl Tryz.underlying22 rfl) ?_
 refine mv (v := .slice Ab b.length cb) ?_
 refine vb (q_len_slice rfl Tryz.underlying22 rfl) ?_
 refine vb (q_neq rfl rfl rfl) ?_
 refine WR.done ?_
 refine WC.cif h (by kernel_rfl) (fun hb1 h => ?_) (fun hb1 h => ?_)
 ·
  refine WC.rs ?_
  refine as_ (v := .bool false) ?_
  refine WR.done ?_
  refine WC.ret ?_
  intro w hw
  obtain rfl := Option.some.inj h
  subst hF
  exact ⟨by kernel_rfl, hw.fr⟩
 ·
  refine WC.skip ?_
  change WC _ _ _ _ _ _
  refine WC.seq ?_
  refine WC.rs ?_
  refine as_ (v := .int .i64 0) ?_
  refine WR.done ?_
  refine WC.block ?_
  refine WC.forI h (fun (i3 : Nat) (s : Unit) σ w => match s with | () => slots σ [(0, .slice Aa a.length ca), (1, .slice Ab b.length cb), (5, .int .i64 ((i3 : Nat) : Int))] ∧ CC F Γ [] w ∧ True) ?_ ?_
  ·
   intro w hw
   exact ⟨(sl_ (by kernel_rfl)), hw, trivial⟩
  rintro f2 i3 ⟨⟩ σ w hi4 hlt5 hge6 ⟨hsl, hw, -⟩
  refine Wpt.slots hsl ?_
  refine WC.here (C := CC F Γ []) ?_ hw
  clear hw hsl
  refine WC.seq ?_
  refine WC.rs ?_
  refine mv (v := .int .i64 ((i3 : Nat) : Int)) ?_
  refine mv (v := .slice Aa a.length ca) ?_
  refine vb (q_len_slice rfl Tryz.underlying22 rfl) ?_
  refine vb (q_lss rfl rfl rfl) ?_
  refine WR.done ?_
  refine WC.cond (b := (decide (((i3 : Nat) : Int) < ((a.length : Nat) : Int)))) (by kernel_rfl) (fun hb7 => ?_) (fun hb7 => ?_)
  ·
   have hl8 := ilt hb7
   have h := hlt5 hl8
   refine WC.skip ?_
   change WC _ _ _ _ _ _
   refine WC.seq ?_
   refine WC.block ?_
   refine WC.seq ?_
   refine WC.dr (by kernel_rfl) (by kernel_rfl) (fun w hw => hw.drawn _) ?_
   refine wa rfl rfl rfl (q_move (v := .slice Aa a.length ca) rfl (by kernel_rfl)) ?_
   refine wa rfl rfl rfl (q_move (v := .int .i64 ((i3 : Nat) : Int)) rfl (by kernel_rfl)) ?_
   refine wa rfl rfl rfl (q_ixn (i := i3) Tryz.underlying22 Tryz.sizeOf39 rfl rfl rfl hl8 (ha.some_ hl8)) ?_
   obtain ⟨A9, c10, hx11⟩ := ha.verT_at i3
   refine wa rfl rfl rfl (q_lda (c := 0) (vs := [.int .i64 (gt a i3).dot.s, .int .i64 (gt a i3).dot.n, .slice A9 ((gt a i3).past).length c10, .bool (gt a i3).gone, .string (gt a i3).val]) (hx11 hl8).2 rfl Tryz.isAgg39 Tryz.sizeOf39 rfl rfl rfl) ?_
   refine wa rfl rfl rfl (q_move (v := .slice Ab b.length cb) rfl (by kernel_rfl)) ?_
   refine wa rfl rfl rfl (q_move (v := .int .i64 ((i3 : Nat) : Int)) rfl (by kernel_rfl)) ?_
   obtain ⟨hk12, h⟩ := chk_some h
   refine wa rfl rfl rfl (q_ixn (i := i3) Tryz.underlying22 Tryz.sizeOf39 rfl rfl rfl (of_decide_eq_true hk12) (hb.some_ (of_decide_eq_true hk12))) ?_
   obtain ⟨A13, c14, hx15⟩ := hb.verT_at i3
   refine wa rfl rfl rfl (q_lda (c := 0) (vs := [.int .i64 (gt b i3).dot.s, .int .i64 (gt b i3).dot.n, .slice A13 ((gt b i3).past).length c14, .bool (gt b i3).gone, .string (gt b i3).val]) (hx15 (of_decide_eq_true hk12)).2 rfl Tryz.isAgg39 Tryz.sizeOf39 rfl rfl rfl) ?_
   obtain ⟨z16, hz17, h⟩ := bnd h
   refine wc rfl rfl rfl (q_call (call_run Tryz.call39 rfl rfl (by kernel_rfl)) (fun w hw => t_firthref05_SameOne (Γ := Gh.all w) (gt a i3) (Ver.fits_mono (hx11 hl8).1 hw.sat.le_all) (gt b i3) (Ver.fits_mono (hx15 (of_decide_eq_true hk12)).1 hw.sat.le_all) (Sat.all w) hz17)) ?_
   refine wa rfl rfl rfl (q_not rfl rfl) ?_
   refine WQ.nil ?_
   change WC _ _ _ _ _ _
   refine WC.cif h (by kernel_rfl) (fun hb18 h => ?_) (fun hb18 h => ?_)
   ·
    refine WC.rs ?_
    refine as_ (v := .bool false) ?_
    refine WR.done ?_
    refine WC.ret ?_
    intro w hw
    obtain rfl := Option.some.inj h
    subst hF
    exact ⟨by kernel_rfl, hw.fr⟩
   ·
    refine WC.skip ?_
    change WC _ _ _ _ _ _
    refine WC.region ?_
    refine mv (v := .int .i64 ((i3 : Nat) : Int)) ?_
    refine vb (q_add_r (r := ((i3 + 1 : Nat) : Int)) rfl rfl rfl (ctr_len hl8 ha.le)) ?_
    refine as_ (v := .int .i64 ((i3 + 1 : Nat) : Int)) ?_
    refine WR.nil ?_
    intro w hw
    exact ⟨hl8, (), h, (sl_ (by kernel_rfl)), hw, trivial⟩
  ·
   have h := hge6 (ige hb7)
   refine WC.exit ?_
   change WC _ _ _ _ _ _
   refine WC.rs ?_
   refine as_ (v := .bool true) ?_
   refine WR.done ?_
   refine WC.ret ?_
   intro w hw
   obtain rfl := Option.some.inj h
   subst hF
   exact ⟨by kernel_rfl, hw.fr⟩
theorem t_firthref03_Dot {Γ : Gh} {w0 : World} (d : Dot) (hd : Dot.fits Γ  d) (hs : Sat Γ w0) {r : Bool} (h : m_firthref03_Dot d = some r) : Calls Tryz.prog 112 #[.agg #[.int .i64 d.s, .int .i64 d.n]] w0 (fun e w' => e = .returned (.bool r) ∧ Fr no w0 w') := by
 refine calls_of (N := 21) (rs := [2]) (args := [.agg #[.int .i64 d.s, .int .i64 d.n]]) Tryz.func112 rfl Tryz.ntmps112 Tryz.results112 rfl ?_
 obtain ⟨F, hF⟩ : ∃ F : Fm, F = ⟨no, w0, Γ⟩ := ⟨_, rfl⟩
 refine WC.here (C := CC F Γ []) ?_ (hF ▸ Cur.start0 hs)
 refine WC.rs ?_
 refine e_box (v := .agg #[.int .i64 d.s, .int .i64 d.n]) rfl rfl rfl rfl (by kernel_rfl) ?_
 intro g1
 refine as_ (v := .bool false) ?_
 refine WR.done ?_
 refine WC.rs ?_
 refine vb (q_fl 0 fld_36_0 rfl rfl rfl) ?_
 refine vb (q_ldl (i := 0) (v := .int .i64 d.s) rfl rfl Tryz.isAgg3 rfl rfl) ?_
 refine vb (q_geq rfl rfl rfl) ?_
 refine mv (v := .bool (decide (1 ≤ d.s))) ?_
 refine vg1 rfl rfl rfl rfl rfl (fun hg2 => QV.qo (q_fl 0 fld_36_0 rfl rfl rfl)) ?_
 refine vg1 rfl rfl rfl rfl rfl (fun hg3 => QV.qo (q_ldl (i := 0) (v := .int .i64 d.s) rfl rfl Tryz.isAgg3 (gu hg3 rfl) rfl)) ?_
 refine vg1 rfl rfl rfl rfl rfl (fun hg4 => QV.qo (q_leq rfl (gu hg4 rfl) rfl)) ?_
 refine vb (q_pick rfl rfl (pk_and' (g := (decide (1 ≤ d.s))) (y := (decide (d.s ≤ 16))))) ?_
 refine mv (v := .bool ((decide (1 ≤ d.s)) && (decide (d.s ≤ 16)))) ?_
 refine vg1 rfl rfl rfl rfl rfl (fun hg5 => QV.qo (q_fl 1 fld_36_1 rfl rfl rfl)) ?_
 refine vg1 rfl rfl rfl rfl rfl (fun hg6 => QV.qo (q_ldl (i := 0) (v := .int .i64 d.n) rfl rfl Tryz.isAgg2 (gu hg6 rfl) rfl)) ?_
 refine vg1 rfl rfl rfl rfl rfl (fun hg7 => QV.qo (q_geq rfl (gu hg7 rfl) rfl)) ?_
 refine vb (q_pick rfl rfl (pk_and' (g := ((decide (1 ≤ d.s)) && (decide (d.s ≤ 16)))) (y := (decide (1 ≤ d.n))))) ?_
 refine mv (v := .bool (((decide (1 ≤ d.s)) && (decide (d.s ≤ 16))) && (decide (1 ≤ d.n)))) ?_
 refine vg1 rfl rfl rfl rfl rfl (fun hg8 => QV.qo (q_fl 1 fld_36_1 rfl rfl rfl)) ?_
 refine vg1 rfl rfl rfl rfl rfl (fun hg9 => QV.qo (q_ldl (i := 0) (v := .int .i64 d.n) rfl rfl Tryz.isAgg2 (gu hg9 rfl) rfl)) ?_
 refine vg1 rfl rfl rfl rfl rfl (fun hg10 => QV.qo (q_leq rfl (gu hg10 rfl) rfl)) ?_
 refine vb (q_pick rfl rfl (pk_and' (g := (((decide (1 ≤ d.s)) && (decide (d.s ≤ 16))) && (decide (1 ≤ d.n)))) (y := (decide (d.n ≤ 4611686018427387904))))) ?_
 refine as_ (v := .bool ((((decide (1 ≤ d.s)) && (decide (d.s ≤ 16))) && (decide (1 ≤ d.n))) && (decide (d.n ≤ 4611686018427387904)))) ?_
 refine WR.done ?_
 refine WC.ret ?_
 intro w hw
 obtain rfl := Option.some.inj h
 subst hF
 exact ⟨by kernel_rfl, hw.fr⟩
end Fw
end Go.Proofs.YtmafjpdiplfcmaaGreat
