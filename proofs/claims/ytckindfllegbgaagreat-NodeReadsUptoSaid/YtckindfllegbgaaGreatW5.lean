/- Walks through the functions that the law reaches (printed by a program). No condition. -/
import Derived.Test.YtckindfllegbgaaGreatW4
namespace Go.Proofs.YtckindfllegbgaaGreat
namespace Fw
set_option linter.unusedVariables false
set_option linter.unusedSimpArgs false
set_option linter.unusedSectionVars false
set_option maxRecDepth 100000
set_option maxHeartbeats 400000
open Go.RowKit
theorem t_num_Hash {Γ : Gh} {w0 : World} {Ab : Option Addr} {cb : Nat} {b : List UInt8} (hb : Sl byteT Γ Ab b) (hbc : b.length ≤ cb) (hs : Sat Γ w0) {r : Int} (h : m_num_Hash b = some r) : Calls Tryz.prog 75 #[.slice Ab b.length cb] w0 (fun e w' => e = .returned (.int .u64 r) ∧ Fr no w0 w') := by
 refine calls_of (N := 27) (rs := [2]) (args := [.slice Ab b.length cb]) Tryz.func75 rfl Tryz.ntmps75 Tryz.results75 rfl ?_
 obtain ⟨F, hF⟩ : ∃ F : Fm, F = ⟨no, w0, Γ⟩ := ⟨_, rfl⟩
 refine WC.here (C := CC F Γ []) ?_ (hF ▸ Cur.start0 hs)
 refine WC.rs ?_
 refine as_ (v := .int .u64 0) ?_
 refine WR.done ?_
 refine WC.rs ?_
 refine as_ (v := .int .u64 14695981039346656037) ?_
 refine WR.done ?_
 refine WC.seq ?_
 refine WC.rs ?_
 refine mv (v := .slice Ab b.length cb) ?_
 refine vb (q_len_slice rfl Tryz.underlying77 rfl) ?_
 refine mv (v := .int .i64 0) ?_
 refine WR.done ?_
 refine WC.block ?_
 refine WC.forI h (fun (i4 : Nat) (h_1 : Int) σ w => slots σ [(3, .int .u64 h_1), (6, .slice Ab b.length cb), (7, .int .i64 ((b.length : Nat) : Int)), (8, .int .i64 ((i4 : Nat) : Int))] ∧ CC F Γ [] w ∧ U64 h_1 ∧ True) ?_ ?_
 ·
  intro w hw
  exact ⟨(sl_ (by kernel_rfl)), hw, (show U64 14695981039346656037 by decide), trivial⟩
 rintro f3 i4 h_1 σ w hi5 hlt6 hge7 ⟨hsl, hw, hr2, -⟩
 refine Wpt.slots hsl ?_
 refine WC.here (C := CC F Γ []) ?_ hw
 clear hw hsl
 refine WC.rs ?_
 refine vb (q_lss rfl rfl rfl) ?_
 refine WR.done ?_
 refine WC.seq ?_
 refine WC.cond (b := (decide (((i4 : Nat) : Int) < ((b.length : Nat) : Int)))) (by kernel_rfl) (fun hb8 => ?_) (fun hb8 => ?_)
 ·
  have hl9 := ilt hb8
  have h := hlt6 hl9
  refine WC.skip ?_
  change WC _ _ _ _ _ _
  refine WC.seq ?_
  refine WC.block ?_
  refine WC.rs ?_
  refine vb (q_ixn (i := i4) Tryz.underlying77 Tryz.sizeOf5 rfl rfl rfl hl9 (hb.some_ hl9)) ?_
  refine vb (q_ld (c := 0) (v := .int .u8 (((gt b i4).toNat : Nat) : Int)) (hb.byteT_at hl9).2 rfl Tryz.isAgg5 rfl rfl) ?_
  refine as_ (v := .int .u8 (((gt b i4).toNat : Nat) : Int)) ?_
  refine WR.done ?_
  refine WC.region ?_
  refine mv (v := .int .u64 h_1) ?_
  refine mv (v := .int .u8 (((gt b i4).toNat : Nat) : Int)) ?_
  refine vb (q_conv Tryz.underlying82 Tryz.underlying5 rfl rfl) ?_
  refine vb (q_xor rfl rfl rfl) ?_
  refine vb (q_mul rfl rfl rfl) ?_
  refine as_ (v := .int .u64 (wu64 ((ixor .u64 h_1 (wu64 (((gt b i4).toNat : Nat) : Int))) * 1099511628211))) ?_
  refine WR.nil ?_
  change WC _ _ _ _ _ _
  refine WC.region ?_
  refine vb (q_add_r (r := ((i4 + 1 : Nat) : Int)) rfl rfl rfl (ctr_len hl9 hb.le)) ?_
  refine mv (v := .int .i64 ((i4 + 1 : Nat) : Int)) ?_
  refine WR.nil ?_
  intro w hw
  exact ⟨hl9, (wu64 ((ixor .u64 h_1 (wu64 (((gt b i4).toNat : Nat) : Int))) * 1099511628211)), h, (sl_ (by kernel_rfl)), hw, (wu64_r _), trivial⟩
 ·
  have h := hge7 (ige hb8)
  refine WC.exit ?_
  change WC _ _ _ _ _ _
  refine WC.rs ?_
  refine mv (v := .int .u64 h_1) ?_
  refine mv (v := .int .u64 h_1) ?_
  refine vb (q_shr rfl rfl rfl (by decide)) ?_
  refine vb (q_xor rfl rfl rfl) ?_
  refine vb (q_mul rfl rfl rfl) ?_
  refine as_ (v := .int .u64 (wu64 ((ixor .u64 h_1 (ishr .u64 h_1 33)) * 18397679294719823053))) ?_
  refine WR.done ?_
  refine WC.rs ?_
  refine mv (v := .int .u64 (wu64 ((ixor .u64 h_1 (ishr .u64 h_1 33)) * 18397679294719823053))) ?_
  refine mv (v := .int .u64 (wu64 ((ixor .u64 h_1 (ishr .u64 h_1 33)) * 18397679294719823053))) ?_
  refine vb (q_shr rfl rfl rfl (by decide)) ?_
  refine vb (q_xor rfl rfl rfl) ?_
  refine as_ (v := .int .u64 (ixor .u64 (wu64 ((ixor .u64 h_1 (ishr .u64 h_1 33)) * 18397679294719823053)) (ishr .u64 (wu64 ((ixor .u64 h_1 (ishr .u64 h_1 33)) * 18397679294719823053)) 33))) ?_
  refine WR.done ?_
  refine WC.ret ?_
  intro w hw
  obtain rfl := Option.some.inj h
  subst hF
  exact ⟨by kernel_rfl, hw.fr⟩
theorem t_ring_Part {Γ : Gh} {w0 : World} (key : ByteArray) (hkey : key.size ≤ lim) (hs : Sat Γ w0) {r : Int} (h : m_ring_Part key = some r) : Calls Tryz.prog 43 #[.string key] w0 (fun e w' => e = .returned (.int .i64 r) ∧ Fr no w0 w') := by
 refine calls_of (N := 8) (rs := [2]) (args := [.string key]) Tryz.func43 rfl Tryz.ntmps43 Tryz.results43 rfl ?_
 obtain ⟨F, hF⟩ : ∃ F : Fm, F = ⟨no, w0, Γ⟩ := ⟨_, rfl⟩
 refine WC.here (C := CC F Γ []) ?_ (hF ▸ Cur.start0 hs)
 refine WC.rs ?_
 refine as_ (v := .int .i64 0) ?_
 refine WR.done ?_
 refine WC.rs ?_
 refine mv (v := .string key) ?_
 refine e_convB (src := 9) (dst := 77) (s := key) Tryz.underlying9 Tryz.underlying77 Tryz.underlying5 hkey rfl rfl rfl rfl rfl ?_
 intro Γ1 A2 c3 hl4 hs5 hc6
 obtain ⟨z7, hz8, h⟩ := bnd h
 refine vc rfl rfl rfl (q_call (call_run Tryz.call75 rfl rfl (by kernel_rfl)) (fun w hw => t_num_Hash (Γ := Gh.all w) (hs5.mono hw.sat.le_all) hc6 (Sat.all w) hz8)) ?_
 refine vb (q_rem rfl rfl rfl (by decide)) ?_
 refine vb (q_conv Tryz.underlying3 Tryz.underlying82 rfl rfl) ?_
 refine as_ (v := .int .i64 (w64 (z7.tmod 8))) ?_
 refine WR.done ?_
 refine WC.ret ?_
 intro w hw
 obtain rfl := Option.some.inj h
 subst hF
 exact ⟨by kernel_rfl, hw.fr⟩
abbrev r_node_Node_Recs (gn : Nat) (en : Nat × Nat) (rown : Rowb) (r : List Rec) (U : List Rowb) (Γ : Gh) (v : Value) : Prop := ∃ (A0 : Option Addr), ∃ (c0 : Nat), ∃ (row0 : Rowb), v = .slice A0 r.length c0 ∧ U = [rown, row0] ∧ Own recT Γ 45 row0 A0 c0 r ∧ True
theorem t_node_Node_Recs {Γ : Gh} {w0 : World} {gn : Nat} {en : Nat × Nat} {rown : Rowb} {n : Onode_Node} (hn : Onode_Node.ob en Γ gn rown n) (p_ : Int) (hp_ : I64 p_) (hp : Pre [rown] Γ w0) {r : List Rec} (h : m_node_Node_Recs n p_ = some r) : Calls Tryz.prog 15 #[(pq gn), .int .i64 p_] w0 (Outc Γ [rown] w0 (r_node_Node_Recs gn en rown r)) := by
 refine calls_of (N := 33) (rs := [4]) (args := [(pq gn), .int .i64 p_]) Tryz.func15 rfl Tryz.ntmps15 Tryz.results15 rfl ?_
 obtain ⟨F, hF⟩ : ∃ F : Fm, F = ⟨ids [rown], w0, Γ⟩ := ⟨_, rfl⟩
 refine WC.here (C := CC F Γ [rown]) ?_ (hF ▸ hp.start)
 refine WC.rs ?_
 refine as_ (v := .slice none 0 0) ?_
 refine WR.done ?_
 refine WC.rs ?_
 refine as_ (v := .slice none 0 0) ?_
 refine WR.done ?_
 refine WC.seq ?_
 refine WC.rs ?_
 refine mv (v := (pq gn)) ?_
 refine vb (q_nil (A := some ⟨gn, 0, none⟩) rfl rfl rfl) ?_
 refine vb (q_fl 4 fld_74_3 rfl rfl rfl) ?_
 have hq := hn
 obtain ⟨g4_1, r4_1, m5_1, r5_1, m6_1, r6_1, hrow_1, ho0_1, ho1_1, ho2_1, ho3_1, ho4_1, ho5_1, -⟩ := hq
 intro w hw; have hw := hw.unfold (i := 0) rfl hrow_1
 refine WR.here (C := CC F Γ [[(gn, .cells #[.int .i64 n.life, .pointer (some ⟨en.2, 0, none⟩), .int .i64 n.self_site, .int .i64 n.self_node, (pq g4_1), .map (some m5_1), .map (some m6_1)] en.1 (0, 0))], r4_1, r5_1, r6_1]) ?_ hw
 clear hw
 refine vb (q_ldl (i := 0) (v := (pq g4_1)) rfl rfl Tryz.isAgg68 rfl rfl) ?_
 obtain ⟨z2, hz3, h⟩ := bnd h
 refine e_call (is := [1]) rfl rfl (call_run Tryz.call42 rfl rfl (by kernel_rfl)) rfl (fun w hp => t_store_Store_Recs ho3_1 hp hz3) ?_
 rintro Γ4 U6 v7 hl5 ⟨A8, c9, row10, rfl, rfl, hr11, _⟩
 change WR _ _ _ (CC F Γ4 [r4_1, row10, [(gn, .cells #[.int .i64 n.life, .pointer (some ⟨en.2, 0, none⟩), .int .i64 n.self_site, .int .i64 n.self_node, (pq g4_1), .map (some m5_1), .map (some m6_1)] en.1 (0, 0))], r5_1, r6_1]) _ _ (upd _ 12 (.slice A8 z2.length c9))
 refine vb (q_len_slice rfl Tryz.underlying22 rfl) ?_
 refine mv (v := .int .i64 0) ?_
 refine WR.done ?_
 refine WC.block ?_
 intro w hw; have hw := hw.fold (is := [2, 0, 1, 1]) rfl hrow_1
 refine WC.here (C := CC F Γ4 [rown, row10]) ?_ hw
 clear hw
 refine WC.forI h (fun (i19 : Nat) (out_13 : List Rec) σ w => ∃ (A14 : Option Addr), ∃ (c15 : Nat), ∃ (row16 : Rowb), slots σ [(1, .int .i64 p_), (5, .slice A14 out_13.length c15), (12, .slice A8 z2.length c9), (13, .int .i64 ((z2.length : Nat) : Int)), (14, .int .i64 ((i19 : Nat) : Int))] ∧ CC F Γ4 [row16, rown, row10] w ∧ Own recT Γ4 45 row16 A14 c15 out_13 ∧ True) ?_ ?_
 ·
  intro w hw
  have hw := hw.pad
  exact ⟨none, 0, [], (sl_ (by kernel_rfl)), hw, (Own.nil recT _ 45), trivial⟩
 rintro f18 i19 out_13 σ w hi20 hlt21 hge22 ⟨A14, c15, row16, hsl, hw, ho17, -⟩
 refine Wpt.slots hsl ?_
 refine WC.here (C := CC F Γ4 [row16, rown, row10]) ?_ hw
 clear hw hsl
 refine WC.rs ?_
 refine vb (q_lss rfl rfl rfl) ?_
 refine WR.done ?_
 refine WC.seq ?_
 refine WC.cond (b := (decide (((i19 : Nat) : Int) < ((z2.length : Nat) : Int)))) (by kernel_rfl) (fun hb23 => ?_) (fun hb23 => ?_)
 ·
  have hl24 := ilt hb23
  have h := hlt21 hl24
  refine WC.skip ?_
  change WC _ _ _ _ _ _
  refine WC.cut (fun σ w => ∃ (out_25 : List Rec), ∃ (A26 : Option Addr), ∃ (c27 : Nat), ∃ (row28 : Rowb), m_node_Node_Recs_j5 f18 out_25 = some r ∧ slots σ [(1, .int .i64 p_), (5, .slice A26 out_25.length c27), (12, .slice A8 z2.length c9), (13, .int .i64 ((z2.length : Nat) : Int)), (14, .int .i64 ((i19 : Nat) : Int))] ∧ CC F Γ4 [row28, rown, row10] w ∧ Own recT Γ4 45 row28 A26 c27 out_25 ∧ True) ?_ ?_
  ·
   refine WC.block ?_
   refine WC.rs ?_
   refine vb (q_ixn (i := i19) Tryz.underlying22 Tryz.sizeOf45 rfl rfl rfl hl24 (hr11.some_ hl24)) ?_
   obtain ⟨A30, c31, hx32⟩ := hr11.recT_at i19
   refine vb (q_ldoa (c := 0) (vs := [.string (gt z2 i19).key, .slice A30 ((gt z2 i19).vers).length c31]) (i := 2) rfl (hx32 hl24).2 rfl Tryz.isAgg45 Tryz.sizeOf45 rfl rfl) ?_
   refine e_alloc Tryz.zeroValue45 rfl rfl rfl rfl ?_
   intro g33
   refine e_st (i := 0) (v := .agg #[.string (gt z2 i19).key, .slice A30 ((gt z2 i19).vers).length c31]) (new := #[.string (gt z2 i19).key, .slice A30 ((gt z2 i19).vers).length c31]) rfl Tryz.sizeOf45 rfl rfl rfl rfl (by kernel_rfl) rfl rfl rfl rfl ?_
   refine WR.done ?_
   refine WC.rs ?_
   refine mv (v := .int .i64 p_) ?_
   refine vb (q_lss rfl rfl rfl) ?_
   refine mv (v := .bool (decide (p_ < 0))) ?_
   refine vg0 rfl rfl rfl rfl rfl (fun hg34 => QV.qo (q_fl 0 fld_45_0 rfl rfl rfl)) ?_
   refine vg0 rfl rfl rfl rfl rfl (fun hg35 => QV.qo (q_ldl (i := 0) (v := .string (gt z2 i19).key) rfl rfl Tryz.isAgg9 (gu hg35 rfl) rfl)) ?_
   obtain ⟨z37, hz38, h⟩ := bnd h
   refine vg0 rfl rfl rfl rfl rfl (fun hg36 => (q_call (call_run Tryz.call43 rfl rfl (args1 (gu hg36 rfl))) (fun w hw => t_ring_Part (Γ := Gh.all w) ((gt z2 i19).key) (hx32 hl24).1.1 (Sat.all w) (gc_of hz38 hg36)))) ?_
   refine vg0 rfl rfl rfl rfl rfl (fun hg39 => QV.qo (q_move (v := .int .i64 p_) rfl (by kernel_rfl))) ?_
   refine vg0 rfl rfl rfl rfl rfl (fun hg40 => QV.qo (q_eql rfl (gu hg40 rfl) (gu hg40 rfl))) ?_
   refine vb (q_pick rfl rfl (pk_or' (g := (decide (p_ < 0))) (y := (z37 == p_)))) ?_
   refine WR.done ?_
   refine WC.cif h (by kernel_rfl) (fun hb41 h => ?_) (fun hb41 h => ?_)
   ·
    refine WC.region ?_
    refine mv (v := .slice A14 out_13.length c15) ?_
    refine vb (q_ldla (i := 0) (vs := [.string (gt z2 i19).key, .slice A30 ((gt z2 i19).vers).length c31]) rfl rfl Tryz.isAgg45 Tryz.sizeOf45 rfl rfl) ?_
    refine e_buildSlice (cs := #[.string (gt z2 i19).key, .slice A30 ((gt z2 i19).vers).length c31]) (e := 45) rfl rfl rfl rfl (fun w => by kernel_rfl) ?_
    intro g42
    obtain ⟨hk43, h⟩ := chk_some h
    refine e_append (T := recT) (xs := out_13) (ys := [(gt z2 i19)]) elem_22 (i := 2) rfl rfl rfl rfl rfl rfl rfl ho17 (of_decide_eq_true hk43) (fun w hw => src_one (T := recT) (y := (gt z2 i19)) (i := 0) rfl (by exact ⟨A30, c31, rfl, (hx32 hl24).1⟩) hw) ?_
    intro row44 A45 c46 ho47
    refine as_ (v := .slice A45 (out_13 ++ [(gt z2 i19)]).length c46) ?_
    refine WR.nil ?_
    intro w hw
    exact ⟨(out_13 ++ [(gt z2 i19)]), A45, c46, row44, h, (sl_ (by kernel_rfl)), (hw.only (is := [2, 2, 2]) rfl), ho47, trivial⟩
   ·
    refine WC.skip ?_
    intro w hw
    exact ⟨out_13, A14, c15, row16, h, (sl_ (by kernel_rfl)), (hw.only (is := [1, 1, 1]) rfl), ho17, trivial⟩
  ·
   rintro σ w ⟨out_25, A26, c27, row28, h, hsl, hw, ho29, -⟩
   refine Wpt.slots hsl ?_
   refine WC.here (C := CC F Γ4 [row28, rown, row10]) ?_ hw
   clear hw hsl
   refine WC.region ?_
   refine vb (q_add_r (r := ((i19 + 1 : Nat) : Int)) rfl rfl rfl (ctr_len hl24 hr11.le)) ?_
   refine mv (v := .int .i64 ((i19 + 1 : Nat) : Int)) ?_
   refine WR.nil ?_
   intro w hw
   exact ⟨hl24, out_25, h, A26, c27, row28, (sl_ (by kernel_rfl)), hw, ho29, trivial⟩
 ·
  have h := hge22 (ige hb23)
  refine WC.exit ?_
  change WC _ _ _ _ _ _
  refine WC.rs ?_
  refine mv (v := .slice A14 out_13.length c15) ?_
  refine as_ (v := .slice A14 out_13.length c15) ?_
  refine WR.done ?_
  refine WC.ret ?_
  intro w hw
  obtain rfl := Option.some.inj h
  subst hF
  exact end_e (is := [1, 0]) (by kernel_rfl) hw rfl ⟨A14, c15, row16, rfl, rfl, ho17, trivial⟩
abbrev r_node_Node_scan (gn : Nat) (en : Nat × Nat) (rown : Rowb) (ganswer0 : Nat) (ganswer1 : Nat) (answer1v0 : Int) (answer1v1 : Int) (answer1v2 : Int) (answer1v3 : Int) (answer1v4 : Int) (answer1v5 : Int) (answer1v6 : Int) (answer1v7 : Int) (answer1v8 : Int) (answer1v9 : ByteArray) (Aanswer1v10 : Option Addr) (canswer1v10 : Nat) (answer1v10 : List Rec) (Aanswer1v11 : Option Addr) (canswer1v11 : Nat) (answer1v11 : List Int) (Aanswer1v12 : Option Addr) (canswer1v12 : Nat) (answer1v12 : List Int) (Aanswer1v13 : Option Addr) (canswer1v13 : Nat) (answer1v13 : List Int) (Aanswer1v14 : Option Addr) (canswer1v14 : Nat) (answer1v14 : List Int) (ganswer2 : Nat) (Aanswer2v : Option Addr) (canswer2v : Nat) (answer2v : List Dapi_Msg) (rowanswer2v : Rowb) (edk0 : Nat) (rowdk0 : Rowb) (r : List Dapi_Msg) (U : List Rowb) (Γ : Gh) (v : Value) : Prop := ∃ (Aanswer2_0 : Option Addr), ∃ (canswer2_0 : Nat), ∃ (rowanswer2_0 : Rowb), v = .tuple #[] ∧ U = [rown, [(ganswer0, .cells #[.pointer (some ⟨gn, 0, none⟩)] 27 (0, 0))], [(ganswer1, .cells #[.int .i64 answer1v0, .int .i64 answer1v1, .int .i64 answer1v2, .int .i64 answer1v3, .int .i64 answer1v4, .int .i64 answer1v5, .int .i64 answer1v6, .int .i64 answer1v7, .int .i64 answer1v8, .string answer1v9, .slice Aanswer1v10 answer1v10.length canswer1v10, .slice Aanswer1v11 answer1v11.length canswer1v11, .slice Aanswer1v12 answer1v12.length canswer1v12, .slice Aanswer1v13 answer1v13.length canswer1v13, .slice Aanswer1v14 answer1v14.length canswer1v14] 40 (0, 0))], [(ganswer2, .cells #[.slice Aanswer2_0 r.length canswer2_0] 34 (0, 0))], rowanswer2_0, rowdk0] ∧ Own dapi_MsgT Γ 40 rowanswer2_0 Aanswer2_0 canswer2_0 r ∧ True
theorem t_node_Node_scan {Γ : Gh} {w0 : World} {gn : Nat} {en : Nat × Nat} {rown : Rowb} {n : Onode_Node} (hn : Onode_Node.ob en Γ gn rown n) {Am10 : Option Addr} {cm10 : Nat} {Am11 : Option Addr} {cm11 : Nat} {Am12 : Option Addr} {cm12 : Nat} {Am13 : Option Addr} {cm13 : Nat} {Am14 : Option Addr} {cm14 : Nat} (m : Dapi_Msg) (hm : Dapi_Msg.fits Γ Am10 cm10 Am11 cm11 Am12 cm12 Am13 cm13 Am14 cm14 m) {ganswer0 : Nat}  {ganswer1 : Nat} (answer1v0 : Int) (hanswer1v0 : I64 answer1v0) (answer1v1 : Int) (hanswer1v1 : I64 answer1v1) (answer1v2 : Int) (hanswer1v2 : I64 answer1v2) (answer1v3 : Int) (hanswer1v3 : I64 answer1v3) (answer1v4 : Int) (hanswer1v4 : I64 answer1v4) (answer1v5 : Int) (hanswer1v5 : I64 answer1v5) (answer1v6 : Int) (hanswer1v6 : I64 answer1v6) (answer1v7 : Int) (hanswer1v7 : I64 answer1v7) (answer1v8 : Int) (hanswer1v8 : I64 answer1v8) (answer1v9 : ByteArray) (hanswer1v9 : answer1v9.size ≤ lim) {Aanswer1v10 : Option Addr} {canswer1v10 : Nat} {answer1v10 : List Rec} (hanswer1v10 : Sl recT Γ Aanswer1v10 answer1v10) (hanswer1v10c : answer1v10.length ≤ canswer1v10) {Aanswer1v11 : Option Addr} {canswer1v11 : Nat} {answer1v11 : List Int} (hanswer1v11 : Sl intT Γ Aanswer1v11 answer1v11) (hanswer1v11c : answer1v11.length ≤ canswer1v11) {Aanswer1v12 : Option Addr} {canswer1v12 : Nat} {answer1v12 : List Int} (hanswer1v12 : Sl intT Γ Aanswer1v12 answer1v12) (hanswer1v12c : answer1v12.length ≤ canswer1v12) {Aanswer1v13 : Option Addr} {canswer1v13 : Nat} {answer1v13 : List Int} (hanswer1v13 : Sl u64T Γ Aanswer1v13 answer1v13) (hanswer1v13c : answer1v13.length ≤ canswer1v13) {Aanswer1v14 : Option Addr} {canswer1v14 : Nat} {answer1v14 : List Int} (hanswer1v14 : Sl intT Γ Aanswer1v14 answer1v14) (hanswer1v14c : answer1v14.length ≤ canswer1v14) {ganswer2 : Nat} {Aanswer2v : Option Addr} {canswer2v : Nat} {rowanswer2v : Rowb} {answer2v : List Dapi_Msg} (hanswer2v : Own dapi_MsgT Γ 40 rowanswer2v Aanswer2v canswer2v answer2v) {edk0 : Nat} {rowdk0 : Rowb} {dk0 : Odisk_Disk} (hdk0 : Odisk_Disk.ob edk0 Γ en.2 rowdk0 dk0) (hp : Pre [rown, [(ganswer0, .cells #[(pq gn)] 27 (0, 0))], [(ganswer1, .cells #[.int .i64 answer1v0, .int .i64 answer1v1, .int .i64 answer1v2, .int .i64 answer1v3, .int .i64 answer1v4, .int .i64 answer1v5, .int .i64 answer1v6, .int .i64 answer1v7, .int .i64 answer1v8, .string answer1v9, .slice Aanswer1v10 answer1v10.length canswer1v10, .slice Aanswer1v11 answer1v11.length canswer1v11, .slice Aanswer1v12 answer1v12.length canswer1v12, .slice Aanswer1v13 answer1v13.length canswer1v13, .slice Aanswer1v14 answer1v14.length canswer1v14] 40 (0, 0))], [(ganswer2, .cells #[.slice Aanswer2v answer2v.length canswer2v] 34 (0, 0))], rowanswer2v, rowdk0] Γ w0) {r : List Dapi_Msg} (h : m_node_Node_scan n m answer1v0 answer1v1 answer1v2 answer1v3 answer1v4 answer1v5 answer1v6 answer1v7 answer1v8 answer1v9 answer1v10 answer1v11 answer1v12 answer1v13 answer1v14 answer2v dk0 = some r) : Calls Tryz.prog 35 #[(pq gn), .agg #[.int .i64 m.kind, .int .i64 m.from_.site, .int .i64 m.from_.node, .int .i64 m.to_.site, .int .i64 m.to_.node, .int .i64 m.id, .int .i64 m.n, .int .i64 m.for_, .int .i64 m.code, .string m.key, .slice Am10 m.recs.length cm10, .slice Am11 m.vec.length cm11, .slice Am12 m.path.length cm12, .slice Am13 m.hashes.length cm13, .slice Am14 m.route.length cm14], .func (.func 41) #[] #[(pq ganswer0), (pq ganswer1), (pq ganswer2)]] w0 (Outc Γ [rown, [(ganswer0, .cells #[(pq gn)] 27 (0, 0))], [(ganswer1, .cells #[.int .i64 answer1v0, .int .i64 answer1v1, .int .i64 answer1v2, .int .i64 answer1v3, .int .i64 answer1v4, .int .i64 answer1v5, .int .i64 answer1v6, .int .i64 answer1v7, .int .i64 answer1v8, .string answer1v9, .slice Aanswer1v10 answer1v10.length canswer1v10, .slice Aanswer1v11 answer1v11.length canswer1v11, .slice Aanswer1v12 answer1v12.length canswer1v12, .slice Aanswer1v13 answer1v13.length canswer1v13, .slice Aanswer1v14 answer1v14.length canswer1v14] 40 (0, 0))], [(ganswer2, .cells #[.slice Aanswer2v answer2v.length canswer2v] 34 (0, 0))], rowanswer2v, rowdk0] w0 (r_node_Node_scan gn en rown ganswer0 ganswer1 answer1v0 answer1v1 answer1v2 answer1v3 answer1v4 answer1v5 answer1v6 answer1v7 answer1v8 answer1v9 Aanswer1v10 canswer1v10 answer1v10 Aanswer1v11 canswer1v11 answer1v11 Aanswer1v12 canswer1v12 answer1v12 Aanswer1v13 canswer1v13 answer1v13 Aanswer1v14 canswer1v14 answer1v14 ganswer2 Aanswer2v canswer2v answer2v rowanswer2v edk0 rowdk0 r)) := by
 refine calls_of (N := 24) (rs := []) (args := [(pq gn), .agg #[.int .i64 m.kind, .int .i64 m.from_.site, .int .i64 m.from_.node, .int .i64 m.to_.site, .int .i64 m.to_.node, .int .i64 m.id, .int .i64 m.n, .int .i64 m.for_, .int .i64 m.code, .string m.key, .slice Am10 m.recs.length cm10, .slice Am11 m.vec.length cm11, .slice Am12 m.path.length cm12, .slice Am13 m.hashes.length cm13, .slice Am14 m.route.length cm14], .func (.func 41) #[] #[(pq ganswer0), (pq ganswer1), (pq ganswer2)]]) Tryz.func35 rfl Tryz.ntmps35 Tryz.results35 rfl ?_
 obtain ⟨F, hF⟩ : ∃ F : Fm, F = ⟨ids [rown, [(ganswer0, .cells #[(pq gn)] 27 (0, 0))], [(ganswer1, .cells #[.int .i64 answer1v0, .int .i64 answer1v1, .int .i64 answer1v2, .int .i64 answer1v3, .int .i64 answer1v4, .int .i64 answer1v5, .int .i64 answer1v6, .int .i64 answer1v7, .int .i64 answer1v8, .string answer1v9, .slice Aanswer1v10 answer1v10.length canswer1v10, .slice Aanswer1v11 answer1v11.length canswer1v11, .slice Aanswer1v12 answer1v12.length canswer1v12, .slice Aanswer1v13 answer1v13.length canswer1v13, .slice Aanswer1v14 answer1v14.length canswer1v14] 40 (0, 0))], [(ganswer2, .cells #[.slice Aanswer2v answer2v.length canswer2v] 34 (0, 0))], rowanswer2v, rowdk0], w0, Γ⟩ := ⟨_, rfl⟩
 refine WC.here (C := CC F Γ [rown, [(ganswer0, .cells #[(pq gn)] 27 (0, 0))], [(ganswer1, .cells #[.int .i64 answer1v0, .int .i64 answer1v1, .int .i64 answer1v2, .int .i64 answer1v3, .int .i64 answer1v4, .int .i64 answer1v5, .int .i64 answer1v6, .int .i64 answer1v7, .int .i64 answer1v8, .string answer1v9, .slice Aanswer1v10 answer1v10.length canswer1v10, .slice Aanswer1v11 answer1v11.length canswer1v11, .slice Aanswer1v12 answer1v12.length canswer1v12, .slice Aanswer1v13 answer1v13.length canswer1v13, .slice Aanswer1v14 answer1v14.length canswer1v14] 40 (0, 0))], [(ganswer2, .cells #[.slice Aanswer2v answer2v.length canswer2v] 34 (0, 0))], rowanswer2v, rowdk0]) ?_ (hF ▸ hp.start)
 refine WC.rs ?_
 refine e_box (v := .agg #[.int .i64 m.kind, .int .i64 m.from_.site, .int .i64 m.from_.node, .int .i64 m.to_.site, .int .i64 m.to_.node, .int .i64 m.id, .int .i64 m.n, .int .i64 m.for_, .int .i64 m.code, .string m.key, .slice Am10 m.recs.length cm10, .slice Am11 m.vec.length cm11, .slice Am12 m.path.length cm12, .slice Am13 m.hashes.length cm13, .slice Am14 m.route.length cm14]) rfl rfl rfl rfl (by kernel_rfl) ?_
 intro g1
 refine WR.done ?_
 refine WC.seq ?_
 refine WC.rs ?_
 refine mv (v := (pq gn)) ?_
 obtain ⟨z2, hz3, h⟩ := bnd h
 refine e_call (is := [1, 5]) rfl rfl (call_run Tryz.call12 rfl rfl (by kernel_rfl)) rfl (fun w hp => t_node_Node_Intact hn hdk0 hp hz3) ?_
 rintro Γ4 U6 v7 hl5 ⟨rfl, rfl, _⟩
 change WR _ _ _ (CC F Γ4 [rown, rowdk0, [(g1, .cells #[.int .i64 m.kind, .int .i64 m.from_.site, .int .i64 m.from_.node, .int .i64 m.to_.site, .int .i64 m.to_.node, .int .i64 m.id, .int .i64 m.n, .int .i64 m.for_, .int .i64 m.code, .string m.key, .slice Am10 m.recs.length cm10, .slice Am11 m.vec.length cm11, .slice Am12 m.path.length cm12, .slice Am13 m.hashes.length cm13, .slice Am14 m.route.length cm14] 40 (0, 0))], [(ganswer0, .cells #[(pq gn)] 27 (0, 0))], [(ganswer1, .cells #[.int .i64 answer1v0, .int .i64 answer1v1, .int .i64 answer1v2, .int .i64 answer1v3, .int .i64 answer1v4, .int .i64 answer1v5, .int .i64 answer1v6, .int .i64 answer1v7, .int .i64 answer1v8, .string answer1v9, .slice Aanswer1v10 answer1v10.length canswer1v10, .slice Aanswer1v11 answer1v11.length canswer1v11, .slice Aanswer1v12 answer1v12.length canswer1v12, .slice Aanswer1v13 answer1v13.length canswer1v13, .slice Aanswer1v14 answer1v14.length canswer1v14] 40 (0, 0))], [(ganswer2, .cells #[.slice Aanswer2v answer2v.length canswer2v] 34 (0, 0))], rowanswer2v]) _ _ (upd _ 8 (.bool z2))
 refine vb (q_not rfl rfl) ?_
 refine WR.done ?_
 refine WC.cif h (by kernel_rfl) (fun hb8 h => ?_) (fun hb8 h => ?_)
 ·
  refine WC.ret ?_
  intro w hw
  obtain rfl := Option.some.inj h
  subst hF
  exact end_e (is := [0, 2, 2, 2, 2, 0]) (by kernel_rfl) hw rfl ⟨Aanswer2v, canswer2v, rowanswer2v, rfl, rfl, (hanswer2v.mono hl5), trivial⟩
 ·
  refine WC.skip ?_
  change WC _ _ _ _ _ _
  refine WC.rs ?_
  refine vb (q_fl 6 fld_40_4 rfl rfl rfl) ?_
  refine vb (q_ldl (i := 2) (v := .int .i64 m.n) rfl rfl Tryz.isAgg2 rfl rfl) ?_
  refine vb (q_build' (v := .agg #[.int .i64 7, .int .i64 0, .int .i64 0, .int .i64 0, .int .i64 0, .int .i64 0, .int .i64 m.n, .int .i64 0, .int .i64 0, .string ByteArray.empty, .slice none 0 0, .slice none 0 0, .slice none 0 0, .slice none 0 0, .slice none 0 0]) rfl (bargs2 rfl rfl) (fun w => by kernel_rfl)) ?_
  refine e_alloc Tryz.zeroValue40 rfl rfl rfl rfl ?_
  intro g9
  refine e_st (i := 0) (v := .agg #[.int .i64 7, .int .i64 0, .int .i64 0, .int .i64 0, .int .i64 0, .int .i64 0, .int .i64 m.n, .int .i64 0, .int .i64 0, .string ByteArray.empty, .slice none 0 0, .slice none 0 0, .slice none 0 0, .slice none 0 0, .slice none 0 0]) (new := #[.int .i64 7, .int .i64 0, .int .i64 0, .int .i64 0, .int .i64 0, .int .i64 0, .int .i64 m.n, .int .i64 0, .int .i64 0, .string ByteArray.empty, .slice none 0 0, .slice none 0 0, .slice none 0 0, .slice none 0 0, .slice none 0 0]) rfl Tryz.sizeOf40 rfl rfl rfl rfl (by kernel_rfl) rfl rfl rfl rfl ?_
  refine WR.done ?_
  refine WC.cut (fun σ w => ∃ (x12 : List Rec), ∃ (Γ10 : Gh), ∃ (A13 : Option Addr), ∃ (c14 : Nat), ∃ (row15 : Rowb), m_node_Node_scan_j1 n m answer1v0 answer1v1 answer1v2 answer1v3 answer1v4 answer1v5 answer1v6 answer1v7 answer1v8 answer1v9 answer1v10 answer1v11 answer1v12 answer1v13 answer1v14 answer2v x12 = some r ∧ slots σ [(2, .func (.func 41) #[] #[(pq ganswer0), (pq ganswer1), (pq ganswer2)]), (6, (pq g9))] ∧ CC F Γ10 [row15, [(g9, .cells #[.int .i64 7, .int .i64 0, .int .i64 0, .int .i64 0, .int .i64 0, .int .i64 0, .int .i64 m.n, .int .i64 0, .int .i64 0, .string ByteArray.empty, .slice A13 x12.length c14, .slice none 0 0, .slice none 0 0, .slice none 0 0, .slice none 0 0] 40 (0, 0))], rown, rowdk0, [(ganswer0, .cells #[(pq gn)] 27 (0, 0))], [(ganswer1, .cells #[.int .i64 answer1v0, .int .i64 answer1v1, .int .i64 answer1v2, .int .i64 answer1v3, .int .i64 answer1v4, .int .i64 answer1v5, .int .i64 answer1v6, .int .i64 answer1v7, .int .i64 answer1v8, .string answer1v9, .slice Aanswer1v10 answer1v10.length canswer1v10, .slice Aanswer1v11 answer1v11.length canswer1v11, .slice Aanswer1v12 answer1v12.length canswer1v12, .slice Aanswer1v13 answer1v13.length canswer1v13, .slice Aanswer1v14 answer1v14.length canswer1v14] 40 (0, 0))], [(ganswer2, .cells #[.slice Aanswer2v answer2v.length canswer2v] 34 (0, 0))], rowanswer2v] w ∧ Gh.le Γ4 Γ10 ∧ Own recT Γ10 45 row15 A13 c14 x12 ∧ True) ?_ ?_
  ·
   refine WC.rs ?_
   refine vb (q_fl 6 fld_40_4 rfl rfl rfl) ?_
   refine vb (q_ldl (i := 3) (v := .int .i64 m.n) rfl rfl Tryz.isAgg2 rfl rfl) ?_
   obtain ⟨z17, hz18, h⟩ := bnd h
   refine vc rfl rfl rfl (q_call (call_run Tryz.call61 rfl rfl (by kernel_rfl)) (fun w hw => t_node_part (Γ := Gh.all w) m.n hm.2.2.2.2.2.2.1 (Sat.all w) hz18)) ?_
   refine WR.done ?_
   refine WC.cif h (by kernel_rfl) (fun hb19 h => ?_) (fun hb19 h => ?_)
   ·
    refine WC.region ?_
    refine mv (v := (pq gn)) ?_
    refine vb (q_fl 6 fld_40_4 rfl rfl rfl) ?_
    refine vb (q_ldl (i := 3) (v := .int .i64 m.n) rfl rfl Tryz.isAgg2 rfl rfl) ?_
    obtain ⟨z20, hz21, h⟩ := bnd h
    refine e_call (is := [1]) rfl rfl (call_run Tryz.call15 rfl rfl (by kernel_rfl)) rfl (fun w hp => t_node_Node_Recs (hn.mono hl5) m.n hm.2.2.2.2.2.2.1 hp hz21) ?_
    rintro Γ22 U24 v25 hl23 ⟨A26, c27, row28, rfl, rfl, hr29, _⟩
    change WR _ _ _ (CC F Γ22 [rown, row28, [(g9, .cells #[.int .i64 7, .int .i64 0, .int .i64 0, .int .i64 0, .int .i64 0, .int .i64 0, .int .i64 m.n, .int .i64 0, .int .i64 0, .string ByteArray.empty, .slice none 0 0, .slice none 0 0, .slice none 0 0, .slice none 0 0, .slice none 0 0] 40 (0, 0))], rowdk0, [(g1, .cells #[.int .i64 m.kind, .int .i64 m.from_.site, .int .i64 m.from_.node, .int .i64 m.to_.site, .int .i64 m.to_.node, .int .i64 m.id, .int .i64 m.n, .int .i64 m.for_, .int .i64 m.code, .string m.key, .slice Am10 m.recs.length cm10, .slice Am11 m.vec.length cm11, .slice Am12 m.path.length cm12, .slice Am13 m.hashes.length cm13, .slice Am14 m.route.length cm14] 40 (0, 0))], [(ganswer0, .cells #[(pq gn)] 27 (0, 0))], [(ganswer1, .cells #[.int .i64 answer1v0, .int .i64 answer1v1, .int .i64 answer1v2, .int .i64 answer1v3, .int .i64 answer1v4, .int .i64 answer1v5, .int .i64 answer1v6, .int .i64 answer1v7, .int .i64 answer1v8, .string answer1v9, .slice Aanswer1v10 answer1v10.length canswer1v10, .slice Aanswer1v11 answer1v11.length canswer1v11, .slice Aanswer1v12 answer1v12.length canswer1v12, .slice Aanswer1v13 answer1v13.length canswer1v13, .slice Aanswer1v14 answer1v14.length canswer1v14] 40 (0, 0))], [(ganswer2, .cells #[.slice Aanswer2v answer2v.length canswer2v] 34 (0, 0))], rowanswer2v]) _ _ (upd _ 19 (.slice A26 z20.length c27))
    refine vb (q_fl 10 fld_40_8 rfl rfl rfl) ?_
    refine e_st (i := 2) (v := .slice A26 z20.length c27) (new := #[.int .i64 7, .int .i64 0, .int .i64 0, .int .i64 0, .int .i64 0, .int .i64 0, .int .i64 m.n, .int .i64 0, .int .i64 0, .string ByteArray.empty, .slice A26 z20.length c27, .slice none 0 0, .slice none 0 0, .slice none 0 0, .slice none 0 0]) rfl Tryz.sizeOf22 rfl rfl rfl rfl (by kernel_rfl) rfl rfl rfl rfl ?_
    refine WR.nil ?_
    intro w hw
    exact ⟨z20, Γ22, A26, c27, row28, h, (sl_ (by kernel_rfl)), (hw.only (is := [1, 1, 0, 0, 1, 1, 1, 1]) rfl), hl23, hr29, trivial⟩
   ·
    refine WC.skip ?_
    intro w hw
    have hw := hw.pad
    exact ⟨[], Γ4, none, 0, [], h, (sl_ (by kernel_rfl)), (hw.only (is := [0, 0, 0, 0, 1, 1, 1, 1]) rfl), (Gh.refl _), (Own.nil recT _ 45), trivial⟩
  ·
   rintro σ w ⟨x12, Γ10, A13, c14, row15, h, hsl, hw, hl11, ho16, -⟩
   refine Wpt.slots hsl ?_
   refine WC.here (C := CC F Γ10 [row15, [(g9, .cells #[.int .i64 7, .int .i64 0, .int .i64 0, .int .i64 0, .int .i64 0, .int .i64 0, .int .i64 m.n, .int .i64 0, .int .i64 0, .string ByteArray.empty, .slice A13 x12.length c14, .slice none 0 0, .slice none 0 0, .slice none 0 0, .slice none 0 0] 40 (0, 0))], rown, rowdk0, [(ganswer0, .cells #[(pq gn)] 27 (0, 0))], [(ganswer1, .cells #[.int .i64 answer1v0, .int .i64 answer1v1, .int .i64 answer1v2, .int .i64 answer1v3, .int .i64 answer1v4, .int .i64 answer1v5, .int .i64 answer1v6, .int .i64 answer1v7, .int .i64 answer1v8, .string answer1v9, .slice Aanswer1v10 answer1v10.length canswer1v10, .slice Aanswer1v11 answer1v11.length canswer1v11, .slice Aanswer1v12 answer1v12.length canswer1v12, .slice Aanswer1v13 answer1v13.length canswer1v13, .slice Aanswer1v14 answer1v14.length canswer1v14] 40 (0, 0))], [(ganswer2, .cells #[.slice Aanswer2v answer2v.length canswer2v] 34 (0, 0))], rowanswer2v]) ?_ hw
   clear hw hsl
   refine WC.region ?_
   refine mv (v := .func (.func 41) #[] #[(pq ganswer0), (pq ganswer1), (pq ganswer2)]) ?_
   refine vb (q_ldla (i := 1) (vs := [.int .i64 7, .int .i64 0, .int .i64 0, .int .i64 0, .int .i64 0, .int .i64 0, .int .i64 m.n, .int .i64 0, .int .i64 0, .string ByteArray.empty, .slice A13 x12.length c14, .slice none 0 0, .slice none 0 0, .slice none 0 0, .slice none 0 0]) rfl rfl Tryz.isAgg40 Tryz.sizeOf40 rfl rfl) ?_
   have hc34 := ho16.capz
   intro w hw; obtain ⟨Γ30, hw, hl31, hr32⟩ := hw.seal (i := 0) rfl; have hs33 := ho16.sl hl31 hr32
   refine WR.here (C := CC F Γ30 [[], [(g9, .cells #[.int .i64 7, .int .i64 0, .int .i64 0, .int .i64 0, .int .i64 0, .int .i64 0, .int .i64 m.n, .int .i64 0, .int .i64 0, .string ByteArray.empty, .slice A13 x12.length c14, .slice none 0 0, .slice none 0 0, .slice none 0 0, .slice none 0 0] 40 (0, 0))], rown, rowdk0, [(ganswer0, .cells #[(pq gn)] 27 (0, 0))], [(ganswer1, .cells #[.int .i64 answer1v0, .int .i64 answer1v1, .int .i64 answer1v2, .int .i64 answer1v3, .int .i64 answer1v4, .int .i64 answer1v5, .int .i64 answer1v6, .int .i64 answer1v7, .int .i64 answer1v8, .string answer1v9, .slice Aanswer1v10 answer1v10.length canswer1v10, .slice Aanswer1v11 answer1v11.length canswer1v11, .slice Aanswer1v12 answer1v12.length canswer1v12, .slice Aanswer1v13 answer1v13.length canswer1v13, .slice Aanswer1v14 answer1v14.length canswer1v14] 40 (0, 0))], [(ganswer2, .cells #[.slice Aanswer2v answer2v.length canswer2v] 34 (0, 0))], rowanswer2v]) ?_ hw
   clear hw
   obtain ⟨z35, hz36, h⟩ := bnd h
   refine e_call (is := [4, 2, 3, 3, 3]) rfl rfl (call_run_fv (caps := #[(pq ganswer0), (pq ganswer1), (pq ganswer2)]) Tryz.call41 rfl (by kernel_rfl) (by kernel_rfl)) rfl (fun w hp => t_node_Node_Handle_1 (Aa11 := none) (ca11 := 0) (Aa12 := none) (ca12 := 0) (Aa13 := none) (ca13 := 0) (Aa14 := none) (ca14 := 0) (⟨7, (⟨0, 0⟩ : Adr), (⟨0, 0⟩ : Adr), 0, m.n, 0, 0, ByteArray.empty, x12, [], [], [], []⟩ : Dapi_Msg) ⟨(show I64 7 by decide), (show I64 0 by decide), (show I64 0 by decide), (show I64 0 by decide), (show I64 0 by decide), (show I64 0 by decide), hm.2.2.2.2.2.2.1, (show I64 0 by decide), (show I64 0 by decide), (show (ByteArray.empty : ByteArray).size ≤ lim by decide), ⟨hc34, hs33⟩, ⟨Nat.zero_le _, Sl.nil _ _ _⟩, ⟨Nat.zero_le _, Sl.nil _ _ _⟩, ⟨Nat.zero_le _, Sl.nil _ _ _⟩, ⟨Nat.zero_le _, Sl.nil _ _ _⟩⟩ (hn.mono ((hl5.trans hl11).trans hl31)) answer1v0 hanswer1v0 answer1v1 hanswer1v1 answer1v2 hanswer1v2 answer1v3 hanswer1v3 answer1v4 hanswer1v4 answer1v5 hanswer1v5 answer1v6 hanswer1v6 answer1v7 hanswer1v7 answer1v8 hanswer1v8 answer1v9 hanswer1v9 (hanswer1v10.mono ((hl5.trans hl11).trans hl31)) hanswer1v10c (hanswer1v11.mono ((hl5.trans hl11).trans hl31)) hanswer1v11c (hanswer1v12.mono ((hl5.trans hl11).trans hl31)) hanswer1v12c (hanswer1v13.mono ((hl5.trans hl11).trans hl31)) hanswer1v13c (hanswer1v14.mono ((hl5.trans hl11).trans hl31)) hanswer1v14c (hanswer2v.mono ((hl5.trans hl11).trans hl31)) hp hz36) ?_
   rintro Γ37 U39 v40 hl38 ⟨A41, c42, row43, rfl, rfl, hr44, _⟩
   change WR _ _ _ (CC F Γ37 [[(ganswer0, .cells #[(pq gn)] 27 (0, 0))], rown, [(ganswer1, .cells #[.int .i64 answer1v0, .int .i64 answer1v1, .int .i64 answer1v2, .int .i64 answer1v3, .int .i64 answer1v4, .int .i64 answer1v5, .int .i64 answer1v6, .int .i64 answer1v7, .int .i64 answer1v8, .string answer1v9, .slice Aanswer1v10 answer1v10.length canswer1v10, .slice Aanswer1v11 answer1v11.length canswer1v11, .slice Aanswer1v12 answer1v12.length canswer1v12, .slice Aanswer1v13 answer1v13.length canswer1v13, .slice Aanswer1v14 answer1v14.length canswer1v14] 40 (0, 0))], [(ganswer2, .cells #[.slice A41 z35.length c42] 34 (0, 0))], row43, [], [(g9, .cells #[.int .i64 7, .int .i64 0, .int .i64 0, .int .i64 0, .int .i64 0, .int .i64 0, .int .i64 m.n, .int .i64 0, .int .i64 0, .string ByteArray.empty, .slice A13 x12.length c14, .slice none 0 0, .slice none 0 0, .slice none 0 0, .slice none 0 0] 40 (0, 0))], rowdk0]) _ _ (upd _ 23 (.tuple #[]))
   refine WR.nil ?_
   intro w hw
   obtain rfl := Option.some.inj h
   subst hF
   exact end_e (is := [1, 0, 0, 0, 0, 2]) (by kernel_rfl) hw rfl ⟨A41, c42, row43, rfl, rfl, hr44, trivial⟩
abbrev r_node_Format (gd : Nat) (ed : Nat) (r : Odisk_Disk × Int) (U : List Rowb) (Γ : Gh) (v : Value) : Prop := ∃ (rowd' : Rowb), v = .int .i64 r.2 ∧ U = [rowd'] ∧ Odisk_Disk.ob ed Γ gd rowd' r.1 ∧ I64 r.2 ∧ True
theorem t_node_Format {Γ : Gh} {w0 : World} {gd ed : Nat} {rowd : Rowb} {d : Odisk_Disk} (hd : Odisk_Disk.ob ed Γ gd rowd d) (hp : Pre [rowd] Γ w0) {r : Odisk_Disk × Int} (h : m_node_Format d = some r) : Calls Tryz.prog 65 #[(pq gd)] w0 (Outc Γ [rowd] w0 (r_node_Format gd ed r)) := by
 refine calls_of (N := 20) (rs := [2]) (args := [(pq gd)]) Tryz.func65 rfl Tryz.ntmps65 Tryz.results65 rfl ?_
 obtain ⟨F, hF⟩ : ∃ F : Fm, F = ⟨ids [rowd], w0, Γ⟩ := ⟨_, rfl⟩
 refine WC.here (C := CC F Γ [rowd]) ?_ (hF ▸ hp.start)
 refine WC.rs ?_
 refine as_ (v := .int .i64 0) ?_
 refine WR.done ?_
 refine WC.seq ?_
 refine WC.rs ?_
 refine mv (v := (pq gd)) ?_
 obtain ⟨z1, hz2, h⟩ := bnd h
 refine e_call (is := [0]) rfl rfl (call_run Tryz.call39 rfl rfl (by kernel_rfl)) rfl (fun w hp => t_disk_Disk_Read hd (⟨#[111, 107]⟩ : ByteArray) (show (⟨#[111, 107]⟩ : ByteArray).size ≤ lim by decide) hp hz2) ?_
 rintro Γ3 U5 v6 hl4 ⟨A7, c8, row9, rfl, rfl, hr10, _⟩
 change WR _ _ _ (CC F Γ3 [rowd, row9]) _ _ (upd _ 8 (.tuple #[.slice A7 z1.1.length c8, .bool z1.2]))
 refine mv (v := .tuple #[.slice A7 z1.1.length c8, .bool z1.2]) ?_
 refine vb (q_extract (v := .slice A7 z1.1.length c8) rfl rfl rfl) ?_
 refine vb (q_extract (v := .bool z1.2) rfl rfl rfl) ?_
 refine as_ (v := .slice A7 z1.1.length c8) ?_
 refine as_ (v := .bool z1.2) ?_
 refine WR.done ?_
 refine WC.rs ?_
 refine mv (v := .bool z1.2) ?_
 refine WR.done ?_
 refine WC.cif h (by kernel_rfl) (fun hb11 h => ?_) (fun hb11 h => ?_)
 ·
  refine WC.rs ?_
  refine as_ (v := .int .i64 0) ?_
  refine WR.done ?_
  refine WC.ret ?_
  intro w hw
  obtain rfl := Option.some.inj h
  subst hF
  exact end_e (is := [0]) (by kernel_rfl) hw rfl ⟨rowd, rfl, rfl, (hd.mono hl4), (show I64 0 by decide), trivial⟩
 ·
  refine WC.skip ?_
  change WC _ _ _ _ _ _
  refine WC.seq ?_
  refine WC.rs ?_
  refine mv (v := (pq gd)) ?_
  refine e_buildSlice (cs := #[.int .u8 1]) (e := 5) rfl rfl rfl rfl (fun w => by kernel_rfl) ?_
  intro g12
  have ho13 : Own byteT Γ3 5 [(g12, .cells #[.int .u8 1] 5 (0, 0))] (some ⟨g12, 0, none⟩) 1 [(b8 1)] := Own.of_blockL (T := byteT) (ys := [(b8 1)]) [[.int .u8 1]] rfl (show 1 ≤ lim by decide) (show Ty.rd byteT Γ3 [.int .u8 1] (b8 1) ∧ True from ⟨(by show [Value.int .u8 1] = [Value.int .u8 _]; rw [b8_val (by decide)]), trivial⟩)
  have hc18 := ho13.capz
  intro w hw; obtain ⟨Γ14, hw, hl15, hr16⟩ := hw.seal (i := 0) rfl; have hs17 := ho13.sl hl15 hr16
  refine WR.here (C := CC F Γ14 [[], rowd, row9]) ?_ hw
  clear hw
  obtain ⟨z19, hz20, h⟩ := bnd h
  refine e_call (is := [1]) rfl rfl (call_run Tryz.call110 rfl rfl (by kernel_rfl)) rfl (fun w hp => t_disk_Disk_Append (hd.mono (hl4.trans hl15)) (⟨#[111, 107]⟩ : ByteArray) (show (⟨#[111, 107]⟩ : ByteArray).size ≤ lim by decide) hs17 hc18 hp hz20) ?_
  rintro Γ21 U23 v24 hl22 ⟨row25, rfl, rfl, hr26, hr27, _⟩
  change WR _ _ _ (CC F Γ21 [row25, [], row9]) _ _ (upd _ 14 (.int .i64 z19.2))
  refine as_ (v := .int .i64 z19.2) ?_
  refine WR.done ?_
  refine WC.rs ?_
  refine mv (v := .int .i64 z19.2) ?_
  refine vb (q_neq rfl rfl rfl) ?_
  refine WR.done ?_
  refine WC.cif h (by kernel_rfl) (fun hb28 h => ?_) (fun hb28 h => ?_)
  ·
   refine WC.rs ?_
   refine mv (v := .int .i64 z19.2) ?_
   refine as_ (v := .int .i64 z19.2) ?_
   refine WR.done ?_
   refine WC.ret ?_
   intro w hw
   obtain rfl := Option.some.inj h
   subst hF
   exact end_e (is := [0]) (by kernel_rfl) hw rfl ⟨row25, rfl, rfl, hr26, hr27, trivial⟩
  ·
   refine WC.skip ?_
   change WC _ _ _ _ _ _
   refine WC.rs ?_
   refine mv (v := (pq gd)) ?_
   obtain ⟨z29, hz30, h⟩ := bnd h
   refine e_call (is := [0]) rfl rfl (call_run Tryz.call92 rfl rfl (by kernel_rfl)) rfl (fun w hp => t_disk_Disk_Sync hr26 hp hz30) ?_
   rintro Γ31 U33 v34 hl32 ⟨row35, rfl, rfl, hr36, _⟩
   change WR _ _ _ (CC F Γ31 [row35, [], row9]) _ _ (upd _ 19 (.tuple #[]))
   refine WR.done ?_
   refine WC.rs ?_
   refine as_ (v := .int .i64 0) ?_
   refine WR.done ?_
   refine WC.ret ?_
   intro w hw
   obtain rfl := Option.some.inj h
   subst hF
   exact end_e (is := [0]) (by kernel_rfl) hw rfl ⟨row35, rfl, rfl, hr36, (show I64 0 by decide), trivial⟩
abbrev r_node_Node_bless (gn : Nat) (en : Nat × Nat) (rown : Rowb) (ganswer0 : Nat) (ganswer1 : Nat) (answer1v0 : Int) (answer1v1 : Int) (answer1v2 : Int) (answer1v3 : Int) (answer1v4 : Int) (answer1v5 : Int) (answer1v6 : Int) (answer1v7 : Int) (answer1v8 : Int) (answer1v9 : ByteArray) (Aanswer1v10 : Option Addr) (canswer1v10 : Nat) (answer1v10 : List Rec) (Aanswer1v11 : Option Addr) (canswer1v11 : Nat) (answer1v11 : List Int) (Aanswer1v12 : Option Addr) (canswer1v12 : Nat) (answer1v12 : List Int) (Aanswer1v13 : Option Addr) (canswer1v13 : Nat) (answer1v13 : List Int) (Aanswer1v14 : Option Addr) (canswer1v14 : Nat) (answer1v14 : List Int) (ganswer2 : Nat) (Aanswer2v : Option Addr) (canswer2v : Nat) (answer2v : List Dapi_Msg) (rowanswer2v : Rowb) (edk0 : Nat) (r : (List Dapi_Msg) × Odisk_Disk) (U : List Rowb) (Γ : Gh) (v : Value) : Prop := ∃ (Aanswer2_0 : Option Addr), ∃ (canswer2_0 : Nat), ∃ (rowanswer2_0 : Rowb), ∃ (rowdk0' : Rowb), v = .tuple #[] ∧ U = [rown, [(ganswer0, .cells #[.pointer (some ⟨gn, 0, none⟩)] 27 (0, 0))], [(ganswer1, .cells #[.int .i64 answer1v0, .int .i64 answer1v1, .int .i64 answer1v2, .int .i64 answer1v3, .int .i64 answer1v4, .int .i64 answer1v5, .int .i64 answer1v6, .int .i64 answer1v7, .int .i64 answer1v8, .string answer1v9, .slice Aanswer1v10 answer1v10.length canswer1v10, .slice Aanswer1v11 answer1v11.length canswer1v11, .slice Aanswer1v12 answer1v12.length canswer1v12, .slice Aanswer1v13 answer1v13.length canswer1v13, .slice Aanswer1v14 answer1v14.length canswer1v14] 40 (0, 0))], [(ganswer2, .cells #[.slice Aanswer2_0 r.1.length canswer2_0] 34 (0, 0))], rowanswer2_0, rowdk0'] ∧ Own dapi_MsgT Γ 40 rowanswer2_0 Aanswer2_0 canswer2_0 r.1 ∧ Odisk_Disk.ob edk0 Γ en.2 rowdk0' r.2 ∧ True
theorem t_node_Node_bless {Γ : Gh} {w0 : World} {gn : Nat} {en : Nat × Nat} {rown : Rowb} {n : Onode_Node} (hn : Onode_Node.ob en Γ gn rown n) {Am10 : Option Addr} {cm10 : Nat} {Am11 : Option Addr} {cm11 : Nat} {Am12 : Option Addr} {cm12 : Nat} {Am13 : Option Addr} {cm13 : Nat} {Am14 : Option Addr} {cm14 : Nat} (m : Dapi_Msg) (hm : Dapi_Msg.fits Γ Am10 cm10 Am11 cm11 Am12 cm12 Am13 cm13 Am14 cm14 m) {ganswer0 : Nat}  {ganswer1 : Nat} (answer1v0 : Int) (hanswer1v0 : I64 answer1v0) (answer1v1 : Int) (hanswer1v1 : I64 answer1v1) (answer1v2 : Int) (hanswer1v2 : I64 answer1v2) (answer1v3 : Int) (hanswer1v3 : I64 answer1v3) (answer1v4 : Int) (hanswer1v4 : I64 answer1v4) (answer1v5 : Int) (hanswer1v5 : I64 answer1v5) (answer1v6 : Int) (hanswer1v6 : I64 answer1v6) (answer1v7 : Int) (hanswer1v7 : I64 answer1v7) (answer1v8 : Int) (hanswer1v8 : I64 answer1v8) (answer1v9 : ByteArray) (hanswer1v9 : answer1v9.size ≤ lim) {Aanswer1v10 : Option Addr} {canswer1v10 : Nat} {answer1v10 : List Rec} (hanswer1v10 : Sl recT Γ Aanswer1v10 answer1v10) (hanswer1v10c : answer1v10.length ≤ canswer1v10) {Aanswer1v11 : Option Addr} {canswer1v11 : Nat} {answer1v11 : List Int} (hanswer1v11 : Sl intT Γ Aanswer1v11 answer1v11) (hanswer1v11c : answer1v11.length ≤ canswer1v11) {Aanswer1v12 : Option Addr} {canswer1v12 : Nat} {answer1v12 : List Int} (hanswer1v12 : Sl intT Γ Aanswer1v12 answer1v12) (hanswer1v12c : answer1v12.length ≤ canswer1v12) {Aanswer1v13 : Option Addr} {canswer1v13 : Nat} {answer1v13 : List Int} (hanswer1v13 : Sl u64T Γ Aanswer1v13 answer1v13) (hanswer1v13c : answer1v13.length ≤ canswer1v13) {Aanswer1v14 : Option Addr} {canswer1v14 : Nat} {answer1v14 : List Int} (hanswer1v14 : Sl intT Γ Aanswer1v14 answer1v14) (hanswer1v14c : answer1v14.length ≤ canswer1v14) {ganswer2 : Nat} {Aanswer2v : Option Addr} {canswer2v : Nat} {rowanswer2v : Rowb} {answer2v : List Dapi_Msg} (hanswer2v : Own dapi_MsgT Γ 40 rowanswer2v Aanswer2v canswer2v answer2v) {edk0 : Nat} {rowdk0 : Rowb} {dk0 : Odisk_Disk} (hdk0 : Odisk_Disk.ob edk0 Γ en.2 rowdk0 dk0) (hp : Pre [rown, [(ganswer0, .cells #[(pq gn)] 27 (0, 0))], [(ganswer1, .cells #[.int .i64 answer1v0, .int .i64 answer1v1, .int .i64 answer1v2, .int .i64 answer1v3, .int .i64 answer1v4, .int .i64 answer1v5, .int .i64 answer1v6, .int .i64 answer1v7, .int .i64 answer1v8, .string answer1v9, .slice Aanswer1v10 answer1v10.length canswer1v10, .slice Aanswer1v11 answer1v11.length canswer1v11, .slice Aanswer1v12 answer1v12.length canswer1v12, .slice Aanswer1v13 answer1v13.length canswer1v13, .slice Aanswer1v14 answer1v14.length canswer1v14] 40 (0, 0))], [(ganswer2, .cells #[.slice Aanswer2v answer2v.length canswer2v] 34 (0, 0))], rowanswer2v, rowdk0] Γ w0) {r : (List Dapi_Msg) × Odisk_Disk} (h : m_node_Node_bless n m answer1v0 answer1v1 answer1v2 answer1v3 answer1v4 answer1v5 answer1v6 answer1v7 answer1v8 answer1v9 answer1v10 answer1v11 answer1v12 answer1v13 answer1v14 answer2v dk0 = some r) : Calls Tryz.prog 38 #[(pq gn), .agg #[.int .i64 m.kind, .int .i64 m.from_.site, .int .i64 m.from_.node, .int .i64 m.to_.site, .int .i64 m.to_.node, .int .i64 m.id, .int .i64 m.n, .int .i64 m.for_, .int .i64 m.code, .string m.key, .slice Am10 m.recs.length cm10, .slice Am11 m.vec.length cm11, .slice Am12 m.path.length cm12, .slice Am13 m.hashes.length cm13, .slice Am14 m.route.length cm14], .func (.func 41) #[] #[(pq ganswer0), (pq ganswer1), (pq ganswer2)]] w0 (Outc Γ [rown, [(ganswer0, .cells #[(pq gn)] 27 (0, 0))], [(ganswer1, .cells #[.int .i64 answer1v0, .int .i64 answer1v1, .int .i64 answer1v2, .int .i64 answer1v3, .int .i64 answer1v4, .int .i64 answer1v5, .int .i64 answer1v6, .int .i64 answer1v7, .int .i64 answer1v8, .string answer1v9, .slice Aanswer1v10 answer1v10.length canswer1v10, .slice Aanswer1v11 answer1v11.length canswer1v11, .slice Aanswer1v12 answer1v12.length canswer1v12, .slice Aanswer1v13 answer1v13.length canswer1v13, .slice Aanswer1v14 answer1v14.length canswer1v14] 40 (0, 0))], [(ganswer2, .cells #[.slice Aanswer2v answer2v.length canswer2v] 34 (0, 0))], rowanswer2v, rowdk0] w0 (r_node_Node_bless gn en rown ganswer0 ganswer1 answer1v0 answer1v1 answer1v2 answer1v3 answer1v4 answer1v5 answer1v6 answer1v7 answer1v8 answer1v9 Aanswer1v10 canswer1v10 answer1v10 Aanswer1v11 canswer1v11 answer1v11 Aanswer1v12 canswer1v12 answer1v12 Aanswer1v13 canswer1v13 answer1v13 Aanswer1v14 canswer1v14 answer1v14 ganswer2 Aanswer2v canswer2v answer2v rowanswer2v edk0 r)) := by
 refine calls_of (N := 32) (rs := []) (args := [(pq gn), .agg #[.int .i64 m.kind, .int .i64 m.from_.site, .int .i64 m.from_.node, .int .i64 m.to_.site, .int .i64 m.to_.node, .int .i64 m.id, .int .i64 m.n, .int .i64 m.for_, .int .i64 m.code, .string m.key, .slice Am10 m.recs.length cm10, .slice Am11 m.vec.length cm11, .slice Am12 m.path.length cm12, .slice Am13 m.hashes.length cm13, .slice Am14 m.route.length cm14], .func (.func 41) #[] #[(pq ganswer0), (pq ganswer1), (pq ganswer2)]]) Tryz.func38 rfl Tryz.ntmps38 Tryz.results38 rfl ?_
 obtain ⟨F, hF⟩ : ∃ F : Fm, F = ⟨ids [rown, [(ganswer0, .cells #[(pq gn)] 27 (0, 0))], [(ganswer1, .cells #[.int .i64 answer1v0, .int .i64 answer1v1, .int .i64 answer1v2, .int .i64 answer1v3, .int .i64 answer1v4, .int .i64 answer1v5, .int .i64 answer1v6, .int .i64 answer1v7, .int .i64 answer1v8, .string answer1v9, .slice Aanswer1v10 answer1v10.length canswer1v10, .slice Aanswer1v11 answer1v11.length canswer1v11, .slice Aanswer1v12 answer1v12.length canswer1v12, .slice Aanswer1v13 answer1v13.length canswer1v13, .slice Aanswer1v14 answer1v14.length canswer1v14] 40 (0, 0))], [(ganswer2, .cells #[.slice Aanswer2v answer2v.length canswer2v] 34 (0, 0))], rowanswer2v, rowdk0], w0, Γ⟩ := ⟨_, rfl⟩
 refine WC.here (C := CC F Γ [rown, [(ganswer0, .cells #[(pq gn)] 27 (0, 0))], [(ganswer1, .cells #[.int .i64 answer1v0, .int .i64 answer1v1, .int .i64 answer1v2, .int .i64 answer1v3, .int .i64 answer1v4, .int .i64 answer1v5, .int .i64 answer1v6, .int .i64 answer1v7, .int .i64 answer1v8, .string answer1v9, .slice Aanswer1v10 answer1v10.length canswer1v10, .slice Aanswer1v11 answer1v11.length canswer1v11, .slice Aanswer1v12 answer1v12.length canswer1v12, .slice Aanswer1v13 answer1v13.length canswer1v13, .slice Aanswer1v14 answer1v14.length canswer1v14] 40 (0, 0))], [(ganswer2, .cells #[.slice Aanswer2v answer2v.length canswer2v] 34 (0, 0))], rowanswer2v, rowdk0]) ?_ (hF ▸ hp.start)
 refine WC.rs ?_
 refine e_box (v := .agg #[.int .i64 m.kind, .int .i64 m.from_.site, .int .i64 m.from_.node, .int .i64 m.to_.site, .int .i64 m.to_.node, .int .i64 m.id, .int .i64 m.n, .int .i64 m.for_, .int .i64 m.code, .string m.key, .slice Am10 m.recs.length cm10, .slice Am11 m.vec.length cm11, .slice Am12 m.path.length cm12, .slice Am13 m.hashes.length cm13, .slice Am14 m.route.length cm14]) rfl rfl rfl rfl (by kernel_rfl) ?_
 intro g1
 refine WR.done ?_
 refine WC.seq ?_
 refine WC.seq ?_
 have hq := hn
 obtain ⟨g4_2, r4_2, m5_2, r5_2, m6_2, r6_2, hrow_2, ho0_2, ho1_2, ho2_2, ho3_2, ho4_2, ho5_2, -⟩ := hq
 intro w hw; have hw := hw.unfold (i := 1) rfl hrow_2
 refine WC.here (C := CC F Γ [[(gn, .cells #[.int .i64 n.life, .pointer (some ⟨en.2, 0, none⟩), .int .i64 n.self_site, .int .i64 n.self_node, (pq g4_2), .map (some m5_2), .map (some m6_2)] en.1 (0, 0))], r4_2, r5_2, r6_2, [(g1, .cells #[.int .i64 m.kind, .int .i64 m.from_.site, .int .i64 m.from_.node, .int .i64 m.to_.site, .int .i64 m.to_.node, .int .i64 m.id, .int .i64 m.n, .int .i64 m.for_, .int .i64 m.code, .string m.key, .slice Am10 m.recs.length cm10, .slice Am11 m.vec.length cm11, .slice Am12 m.path.length cm12, .slice Am13 m.hashes.length cm13, .slice Am14 m.route.length cm14] 40 (0, 0))], [(ganswer0, .cells #[(pq gn)] 27 (0, 0))], [(ganswer1, .cells #[.int .i64 answer1v0, .int .i64 answer1v1, .int .i64 answer1v2, .int .i64 answer1v3, .int .i64 answer1v4, .int .i64 answer1v5, .int .i64 answer1v6, .int .i64 answer1v7, .int .i64 answer1v8, .string answer1v9, .slice Aanswer1v10 answer1v10.length canswer1v10, .slice Aanswer1v11 answer1v11.length canswer1v11, .slice Aanswer1v12 answer1v12.length canswer1v12, .slice Aanswer1v13 answer1v13.length canswer1v13, .slice Aanswer1v14 answer1v14.length canswer1v14] 40 (0, 0))], [(ganswer2, .cells #[.slice Aanswer2v answer2v.length canswer2v] 34 (0, 0))], rowanswer2v, rowdk0]) ?_ hw
 clear hw
 refine WC.dr (by kernel_rfl) (by kernel_rfl) (fun w hw => hw.drawn _) ?_
 refine wa rfl rfl rfl (q_fl 6 fld_40_4 rfl rfl rfl) ?_
 refine wa rfl rfl rfl (q_ldl (i := 4) (v := .int .i64 m.n) rfl rfl Tryz.isAgg2 rfl rfl) ?_
 refine wa rfl rfl rfl (q_move (v := (pq gn)) rfl (by kernel_rfl)) ?_
 refine wa rfl rfl rfl (q_nil (A := some ⟨gn, 0, none⟩) rfl rfl rfl) ?_
 refine wa rfl rfl rfl (q_fl 0 fld_74_0 rfl rfl rfl) ?_
 refine wa rfl rfl rfl (q_ldl (i := 0) (v := .int .i64 n.life) rfl rfl Tryz.isAgg2 rfl rfl) ?_
 refine wa rfl rfl rfl (q_neq rfl rfl rfl) ?_
 refine WQ.nil ?_
 change WC _ _ _ _ _ _
 refine WC.cif h (by kernel_rfl) (fun hb3 h => ?_) (fun hb3 h => ?_)
 ·
  refine WC.ret ?_
  intro w hw
  have hw := hw.fold (is := [0, 0, 0, 0]) rfl hrow_2
  obtain rfl := Option.some.inj h
  subst hF
  exact end_e (is := [0, 1, 1, 1, 1, 1]) (by kernel_rfl) hw rfl ⟨Aanswer2v, canswer2v, rowanswer2v, rowdk0, rfl, rfl, hanswer2v, hdk0, trivial⟩
 ·
  refine WC.skip ?_
  change WC _ _ _ _ _ _
  refine WC.seq ?_
  refine WC.rs ?_
  refine mv (v := (pq gn)) ?_
  refine vb (q_nil (A := some ⟨gn, 0, none⟩) rfl rfl rfl) ?_
  refine vb (q_fl 1 fld_74_1 rfl rfl rfl) ?_
  refine vb (q_ldl (i := 0) (v := .pointer (some ⟨en.2, 0, none⟩)) rfl rfl Tryz.isAgg25 rfl rfl) ?_
  obtain ⟨z5, hz6, h⟩ := bnd h
  refine e_call (is := [9]) rfl rfl (call_run Tryz.call65 rfl rfl (by kernel_rfl)) rfl (fun w hp => t_node_Format hdk0 hp hz6) ?_
  rintro Γ7 U9 v10 hl8 ⟨row11, rfl, rfl, hr12, hr13, _⟩
  change WR _ _ _ (CC F Γ7 [row11, [(gn, .cells #[.int .i64 n.life, .pointer (some ⟨en.2, 0, none⟩), .int .i64 n.self_site, .int .i64 n.self_node, (pq g4_2), .map (some m5_2), .map (some m6_2)] en.1 (0, 0))], r4_2, r5_2, r6_2, [(g1, .cells #[.int .i64 m.kind, .int .i64 m.from_.site, .int .i64 m.from_.node, .int .i64 m.to_.site, .int .i64 m.to_.node, .int .i64 m.id, .int .i64 m.n, .int .i64 m.for_, .int .i64 m.code, .string m.key, .slice Am10 m.recs.length cm10, .slice Am11 m.vec.length cm11, .slice Am12 m.path.length cm12, .slice Am13 m.hashes.length cm13, .slice Am14 m.route.length cm14] 40 (0, 0))], [(ganswer0, .cells #[(pq gn)] 27 (0, 0))], [(ganswer1, .cells #[.int .i64 answer1v0, .int .i64 answer1v1, .int .i64 answer1v2, .int .i64 answer1v3, .int .i64 answer1v4, .int .i64 answer1v5, .int .i64 answer1v6, .int .i64 answer1v7, .int .i64 answer1v8, .string answer1v9, .slice Aanswer1v10 answer1v10.length canswer1v10, .slice Aanswer1v11 answer1v11.length canswer1v11, .slice Aanswer1v12 answer1v12.length canswer1v12, .slice Aanswer1v13 answer1v13.length canswer1v13, .slice Aanswer1v14 answer1v14.length canswer1v14] 40 (0, 0))], [(ganswer2, .cells #[.slice Aanswer2v answer2v.length canswer2v] 34 (0, 0))], rowanswer2v]) _ _ (upd _ 18 (.int .i64 z5.2))
  refine as_ (v := .int .i64 z5.2) ?_
  refine WR.done ?_
  refine WC.rs ?_
  refine mv (v := .int .i64 z5.2) ?_
  refine vb (q_neq rfl rfl rfl) ?_
  refine WR.done ?_
  refine WC.cif h (by kernel_rfl) (fun hb14 h => ?_) (fun hb14 h => ?_)
  ·
   refine WC.rs ?_
   refine mv (v := .func (.func 41) #[] #[(pq ganswer0), (pq ganswer1), (pq ganswer2)]) ?_
   refine mv (v := .int .i64 z5.2) ?_
   refine vb (q_build' (v := .agg #[.int .i64 3, .int .i64 0, .int .i64 0, .int .i64 0, .int .i64 0, .int .i64 0, .int .i64 0, .int .i64 0, .int .i64 z5.2, .string ByteArray.empty, .slice none 0 0, .slice none 0 0, .slice none 0 0, .slice none 0 0, .slice none 0 0]) rfl (bargs2 rfl rfl) (fun w => by kernel_rfl)) ?_
   intro w hw; have hw := hw.fold (is := [1, 1, 1, 1]) rfl hrow_2
   refine WR.here (C := CC F Γ7 [rown, row11, [(g1, .cells #[.int .i64 m.kind, .int .i64 m.from_.site, .int .i64 m.from_.node, .int .i64 m.to_.site, .int .i64 m.to_.node, .int .i64 m.id, .int .i64 m.n, .int .i64 m.for_, .int .i64 m.code, .string m.key, .slice Am10 m.recs.length cm10, .slice Am11 m.vec.length cm11, .slice Am12 m.path.length cm12, .slice Am13 m.hashes.length cm13, .slice Am14 m.route.length cm14] 40 (0, 0))], [(ganswer0, .cells #[(pq gn)] 27 (0, 0))], [(ganswer1, .cells #[.int .i64 answer1v0, .int .i64 answer1v1, .int .i64 answer1v2, .int .i64 answer1v3, .int .i64 answer1v4, .int .i64 answer1v5, .int .i64 answer1v6, .int .i64 answer1v7, .int .i64 answer1v8, .string answer1v9, .slice Aanswer1v10 answer1v10.length canswer1v10, .slice Aanswer1v11 answer1v11.length canswer1v11, .slice Aanswer1v12 answer1v12.length canswer1v12, .slice Aanswer1v13 answer1v13.length canswer1v13, .slice Aanswer1v14 answer1v14.length canswer1v14] 40 (0, 0))], [(ganswer2, .cells #[.slice Aanswer2v answer2v.length canswer2v] 34 (0, 0))], rowanswer2v]) ?_ hw
   clear hw
   obtain ⟨z16, hz17, h⟩ := bnd h
   refine e_call (is := [3, 0, 2, 2, 2]) rfl rfl (call_run_fv (caps := #[(pq ganswer0), (pq ganswer1), (pq ganswer2)]) Tryz.call41 rfl (by kernel_rfl) (by kernel_rfl)) rfl (fun w hp => t_node_Node_Handle_1 (Aa10 := none) (ca10 := 0) (Aa11 := none) (ca11 := 0) (Aa12 := none) (ca12 := 0) (Aa13 := none) (ca13 := 0) (Aa14 := none) (ca14 := 0) (⟨3, (⟨0, 0⟩ : Adr), (⟨0, 0⟩ : Adr), 0, 0, 0, z5.2, ByteArray.empty, [], [], [], [], []⟩ : Dapi_Msg) ⟨(show I64 3 by decide), (show I64 0 by decide), (show I64 0 by decide), (show I64 0 by decide), (show I64 0 by decide), (show I64 0 by decide), (show I64 0 by decide), (show I64 0 by decide), hr13, (show (ByteArray.empty : ByteArray).size ≤ lim by decide), ⟨Nat.zero_le _, Sl.nil _ _ _⟩, ⟨Nat.zero_le _, Sl.nil _ _ _⟩, ⟨Nat.zero_le _, Sl.nil _ _ _⟩, ⟨Nat.zero_le _, Sl.nil _ _ _⟩, ⟨Nat.zero_le _, Sl.nil _ _ _⟩⟩ (hn.mono hl8) answer1v0 hanswer1v0 answer1v1 hanswer1v1 answer1v2 hanswer1v2 answer1v3 hanswer1v3 answer1v4 hanswer1v4 answer1v5 hanswer1v5 answer1v6 hanswer1v6 answer1v7 hanswer1v7 answer1v8 hanswer1v8 answer1v9 hanswer1v9 (hanswer1v10.mono hl8) hanswer1v10c (hanswer1v11.mono hl8) hanswer1v11c (hanswer1v12.mono hl8) hanswer1v12c (hanswer1v13.mono hl8) hanswer1v13c (hanswer1v14.mono hl8) hanswer1v14c (hanswer2v.mono hl8) hp hz17) ?_
   rintro Γ18 U20 v21 hl19 ⟨A22, c23, row24, rfl, rfl, hr25, _⟩
   change WR _ _ _ (CC F Γ18 [[(ganswer0, .cells #[(pq gn)] 27 (0, 0))], rown, [(ganswer1, .cells #[.int .i64 answer1v0, .int .i64 answer1v1, .int .i64 answer1v2, .int .i64 answer1v3, .int .i64 answer1v4, .int .i64 answer1v5, .int .i64 answer1v6, .int .i64 answer1v7, .int .i64 answer1v8, .string answer1v9, .slice Aanswer1v10 answer1v10.length canswer1v10, .slice Aanswer1v11 answer1v11.length canswer1v11, .slice Aanswer1v12 answer1v12.length canswer1v12, .slice Aanswer1v13 answer1v13.length canswer1v13, .slice Aanswer1v14 answer1v14.length canswer1v14] 40 (0, 0))], [(ganswer2, .cells #[.slice A22 z16.length c23] 34 (0, 0))], row24, row11, [(g1, .cells #[.int .i64 m.kind, .int .i64 m.from_.site, .int .i64 m.from_.node, .int .i64 m.to_.site, .int .i64 m.to_.node, .int .i64 m.id, .int .i64 m.n, .int .i64 m.for_, .int .i64 m.code, .string m.key, .slice Am10 m.recs.length cm10, .slice Am11 m.vec.length cm11, .slice Am12 m.path.length cm12, .slice Am13 m.hashes.length cm13, .slice Am14 m.route.length cm14] 40 (0, 0))]]) _ _ (upd _ 24 (.tuple #[]))
   refine WR.done ?_
   refine WC.ret ?_
   intro w hw
   obtain rfl := Option.some.inj h
   subst hF
   exact end_e (is := [1, 0, 0, 0, 0, 0]) (by kernel_rfl) hw rfl ⟨A22, c23, row24, row11, rfl, rfl, hr25, (hr12.mono hl19), trivial⟩
  ·
   refine WC.skip ?_
   change WC _ _ _ _ _ _
   refine WC.region ?_
   refine mv (v := .func (.func 41) #[] #[(pq ganswer0), (pq ganswer1), (pq ganswer2)]) ?_
   refine mv (v := (pq gn)) ?_
   refine vb (q_nil (A := some ⟨gn, 0, none⟩) rfl rfl rfl) ?_
   refine vb (q_fl 0 fld_74_0 rfl rfl rfl) ?_
   refine vb (q_ldl (i := 1) (v := .int .i64 n.life) rfl rfl Tryz.isAgg2 rfl rfl) ?_
   refine vb (q_build' (v := .agg #[.int .i64 2, .int .i64 0, .int .i64 0, .int .i64 0, .int .i64 0, .int .i64 0, .int .i64 n.life, .int .i64 0, .int .i64 0, .string ByteArray.empty, .slice none 0 0, .slice none 0 0, .slice none 0 0, .slice none 0 0, .slice none 0 0]) rfl (bargs2 rfl rfl) (fun w => by kernel_rfl)) ?_
   intro w hw; have hw := hw.fold (is := [1, 1, 1, 1]) rfl hrow_2
   refine WR.here (C := CC F Γ7 [rown, row11, [(g1, .cells #[.int .i64 m.kind, .int .i64 m.from_.site, .int .i64 m.from_.node, .int .i64 m.to_.site, .int .i64 m.to_.node, .int .i64 m.id, .int .i64 m.n, .int .i64 m.for_, .int .i64 m.code, .string m.key, .slice Am10 m.recs.length cm10, .slice Am11 m.vec.length cm11, .slice Am12 m.path.length cm12, .slice Am13 m.hashes.length cm13, .slice Am14 m.route.length cm14] 40 (0, 0))], [(ganswer0, .cells #[(pq gn)] 27 (0, 0))], [(ganswer1, .cells #[.int .i64 answer1v0, .int .i64 answer1v1, .int .i64 answer1v2, .int .i64 answer1v3, .int .i64 answer1v4, .int .i64 answer1v5, .int .i64 answer1v6, .int .i64 answer1v7, .int .i64 answer1v8, .string answer1v9, .slice Aanswer1v10 answer1v10.length canswer1v10, .slice Aanswer1v11 answer1v11.length canswer1v11, .slice Aanswer1v12 answer1v12.length canswer1v12, .slice Aanswer1v13 answer1v13.length canswer1v13, .slice Aanswer1v14 answer1v14.length canswer1v14] 40 (0, 0))], [(ganswer2, .cells #[.slice Aanswer2v answer2v.length canswer2v] 34 (0, 0))], rowanswer2v]) ?_ hw
   clear hw
   obtain ⟨z27, hz28, h⟩ := bnd h
   refine e_call (is := [3, 0, 2, 2, 2]) rfl rfl (call_run_fv (caps := #[(pq ganswer0), (pq ganswer1), (pq ganswer2)]) Tryz.call41 rfl (by kernel_rfl) (by kernel_rfl)) rfl (fun w hp => t_node_Node_Handle_1 (Aa10 := none) (ca10 := 0) (Aa11 := none) (ca11 := 0) (Aa12 := none) (ca12 := 0) (Aa13 := none) (ca13 := 0) (Aa14 := none) (ca14 := 0) (⟨2, (⟨0, 0⟩ : Adr), (⟨0, 0⟩ : Adr), 0, n.life, 0, 0, ByteArray.empty, [], [], [], [], []⟩ : Dapi_Msg) ⟨(show I64 2 by decide), (show I64 0 by decide), (show I64 0 by decide), (show I64 0 by decide), (show I64 0 by decide), (show I64 0 by decide), ho0_2, (show I64 0 by decide), (show I64 0 by decide), (show (ByteArray.empty : ByteArray).size ≤ lim by decide), ⟨Nat.zero_le _, Sl.nil _ _ _⟩, ⟨Nat.zero_le _, Sl.nil _ _ _⟩, ⟨Nat.zero_le _, Sl.nil _ _ _⟩, ⟨Nat.zero_le _, Sl.nil _ _ _⟩, ⟨Nat.zero_le _, Sl.nil _ _ _⟩⟩ (hn.mono hl8) answer1v0 hanswer1v0 answer1v1 hanswer1v1 answer1v2 hanswer1v2 answer1v3 hanswer1v3 answer1v4 hanswer1v4 answer1v5 hanswer1v5 answer1v6 hanswer1v6 answer1v7 hanswer1v7 answer1v8 hanswer1v8 answer1v9 hanswer1v9 (hanswer1v10.mono hl8) hanswer1v10c (hanswer1v11.mono hl8) hanswer1v11c (hanswer1v12.mono hl8) hanswer1v12c (hanswer1v13.mono hl8) hanswer1v13c (hanswer1v14.mono hl8) hanswer1v14c (hanswer2v.mono hl8) hp hz28) ?_
   rintro Γ29 U31 v32 hl30 ⟨A33, c34, row35, rfl, rfl, hr36, _⟩
   change WR _ _ _ (CC F Γ29 [[(ganswer0, .cells #[(pq gn)] 27 (0, 0))], rown, [(ganswer1, .cells #[.int .i64 answer1v0, .int .i64 answer1v1, .int .i64 answer1v2, .int .i64 answer1v3, .int .i64 answer1v4, .int .i64 answer1v5, .int .i64 answer1v6, .int .i64 answer1v7, .int .i64 answer1v8, .string answer1v9, .slice Aanswer1v10 answer1v10.length canswer1v10, .slice Aanswer1v11 answer1v11.length canswer1v11, .slice Aanswer1v12 answer1v12.length canswer1v12, .slice Aanswer1v13 answer1v13.length canswer1v13, .slice Aanswer1v14 answer1v14.length canswer1v14] 40 (0, 0))], [(ganswer2, .cells #[.slice A33 z27.length c34] 34 (0, 0))], row35, row11, [(g1, .cells #[.int .i64 m.kind, .int .i64 m.from_.site, .int .i64 m.from_.node, .int .i64 m.to_.site, .int .i64 m.to_.node, .int .i64 m.id, .int .i64 m.n, .int .i64 m.for_, .int .i64 m.code, .string m.key, .slice Am10 m.recs.length cm10, .slice Am11 m.vec.length cm11, .slice Am12 m.path.length cm12, .slice Am13 m.hashes.length cm13, .slice Am14 m.route.length cm14] 40 (0, 0))]]) _ _ (upd _ 31 (.tuple #[]))
   refine WR.nil ?_
   intro w hw
   obtain rfl := Option.some.inj h
   subst hF
   exact end_e (is := [1, 0, 0, 0, 0, 0]) (by kernel_rfl) hw rfl ⟨A33, c34, row35, row11, rfl, rfl, hr36, (hr12.mono hl30), trivial⟩
abbrev r_node_Node_Handle (gn : Nat) (en : Nat × Nat) (edk0 : Nat) (r : Onode_Node × Odisk_Disk × (List Dapi_Msg)) (U : List Rowb) (Γ : Gh) (v : Value) : Prop := ∃ (rown' : Rowb), ∃ (rowdk0' : Rowb), ∃ (A0 : Option Addr), ∃ (c0 : Nat), ∃ (row0 : Rowb), v = .slice A0 r.2.2.length c0 ∧ U = [rown', rowdk0', row0] ∧ Onode_Node.ob en Γ gn rown' r.1 ∧ Odisk_Disk.ob edk0 Γ en.2 rowdk0' r.2.1 ∧ Own dapi_MsgT Γ 40 row0 A0 c0 r.2.2 ∧ True
theorem t_node_Node_Handle {Γ : Gh} {w0 : World} {gn : Nat} {en : Nat × Nat} {rown : Rowb} {n : Onode_Node} (hn : Onode_Node.ob en Γ gn rown n) {Am10 : Option Addr} {cm10 : Nat} {Am11 : Option Addr} {cm11 : Nat} {Am12 : Option Addr} {cm12 : Nat} {Am13 : Option Addr} {cm13 : Nat} {Am14 : Option Addr} {cm14 : Nat} (m : Dapi_Msg) (hm : Dapi_Msg.fits Γ Am10 cm10 Am11 cm11 Am12 cm12 Am13 cm13 Am14 cm14 m) {edk0 : Nat} {rowdk0 : Rowb} {dk0 : Odisk_Disk} (hdk0 : Odisk_Disk.ob edk0 Γ en.2 rowdk0 dk0) (hp : Pre [rown, rowdk0] Γ w0) {r : Onode_Node × Odisk_Disk × (List Dapi_Msg)} (h : m_node_Node_Handle n m dk0 = some r) : Calls Tryz.prog 13 #[(pq gn), .agg #[.int .i64 m.kind, .int .i64 m.from_.site, .int .i64 m.from_.node, .int .i64 m.to_.site, .int .i64 m.to_.node, .int .i64 m.id, .int .i64 m.n, .int .i64 m.for_, .int .i64 m.code, .string m.key, .slice Am10 m.recs.length cm10, .slice Am11 m.vec.length cm11, .slice Am12 m.path.length cm12, .slice Am13 m.hashes.length cm13, .slice Am14 m.route.length cm14]] w0 (Outc Γ [rown, rowdk0] w0 (r_node_Node_Handle gn en edk0 r)) := by
 refine calls_of (N := 44) (rs := [4]) (args := [(pq gn), .agg #[.int .i64 m.kind, .int .i64 m.from_.site, .int .i64 m.from_.node, .int .i64 m.to_.site, .int .i64 m.to_.node, .int .i64 m.id, .int .i64 m.n, .int .i64 m.for_, .int .i64 m.code, .string m.key, .slice Am10 m.recs.length cm10, .slice Am11 m.vec.length cm11, .slice Am12 m.path.length cm12, .slice Am13 m.hashes.length cm13, .slice Am14 m.route.length cm14]]) Tryz.func13 rfl Tryz.ntmps13 Tryz.results13 rfl ?_
 obtain ⟨F, hF⟩ : ∃ F : Fm, F = ⟨ids [rown, rowdk0], w0, Γ⟩ := ⟨_, rfl⟩
 refine WC.here (C := CC F Γ [rown, rowdk0]) ?_ (hF ▸ hp.start)
 refine WC.rs ?_
 refine e_box (v := (pq gn)) rfl rfl rfl rfl (by kernel_rfl) ?_
 intro g1
 refine e_box (v := .agg #[.int .i64 m.kind, .int .i64 m.from_.site, .int .i64 m.from_.node, .int .i64 m.to_.site, .int .i64 m.to_.node, .int .i64 m.id, .int .i64 m.n, .int .i64 m.for_, .int .i64 m.code, .string m.key, .slice Am10 m.recs.length cm10, .slice Am11 m.vec.length cm11, .slice Am12 m.path.length cm12, .slice Am13 m.hashes.length cm13, .slice Am14 m.route.length cm14]) rfl rfl rfl rfl (by kernel_rfl) ?_
 intro g2
 refine as_ (v := .slice none 0 0) ?_
 refine WR.done ?_
 refine WC.seq ?_
 refine WC.seq ?_
 have hq := hn
 obtain ⟨g4_3, r4_3, m5_3, r5_3, m6_3, r6_3, hrow_3, ho0_3, ho1_3, ho2_3, ho3_3, ho4_3, ho5_3, -⟩ := hq
 intro w hw; have hw := hw.unfold (i := 2) rfl hrow_3
 refine WC.here (C := CC F Γ [[(gn, .cells #[.int .i64 n.life, .pointer (some ⟨en.2, 0, none⟩), .int .i64 n.self_site, .int .i64 n.self_node, (pq g4_3), .map (some m5_3), .map (some m6_3)] en.1 (0, 0))], r4_3, r5_3, r6_3, [(g2, .cells #[.int .i64 m.kind, .int .i64 m.from_.site, .int .i64 m.from_.node, .int .i64 m.to_.site, .int .i64 m.to_.node, .int .i64 m.id, .int .i64 m.n, .int .i64 m.for_, .int .i64 m.code, .string m.key, .slice Am10 m.recs.length cm10, .slice Am11 m.vec.length cm11, .slice Am12 m.path.length cm12, .slice Am13 m.hashes.length cm13, .slice Am14 m.route.length cm14] 40 (0, 0))], [(g1, .cells #[(pq gn)] 27 (0, 0))], rowdk0]) ?_ hw
 clear hw
 refine WC.dr (by kernel_rfl) (by kernel_rfl) (fun w hw => hw.drawn _) ?_
 refine wa rfl rfl rfl (q_ldla (i := 4) (vs := [.int .i64 m.kind, .int .i64 m.from_.site, .int .i64 m.from_.node, .int .i64 m.to_.site, .int .i64 m.to_.node, .int .i64 m.id, .int .i64 m.n, .int .i64 m.for_, .int .i64 m.code, .string m.key, .slice Am10 m.recs.length cm10, .slice Am11 m.vec.length cm11, .slice Am12 m.path.length cm12, .slice Am13 m.hashes.length cm13, .slice Am14 m.route.length cm14]) rfl rfl Tryz.isAgg40 Tryz.sizeOf40 rfl rfl) ?_
 obtain ⟨z4, hz5, h⟩ := bnd h
 refine wc rfl rfl rfl (q_call (call_run Tryz.call40 rfl rfl (by kernel_rfl)) (fun w hw => t_code_RightMsg (Γ := Gh.all w) m (Dapi_Msg.fits_mono hm hw.sat.le_all) (Sat.all w) hz5)) ?_
 refine wa rfl rfl rfl (q_not rfl rfl) ?_
 refine wa rfl rfl rfl (q_move (v := .bool (!z4)) rfl (by kernel_rfl)) ?_
 refine wg0 rfl rfl rfl rfl rfl (fun hg6 => QV.qo (q_fl 3 fld_40_2 rfl rfl rfl)) ?_
 refine wg0 rfl rfl rfl rfl rfl (fun hg7 => QV.qo (q_ldla (i := 4) (vs := [.int .i64 m.to_.site, .int .i64 m.to_.node]) rfl rfl Tryz.isAgg32 Tryz.sizeOf32 (gu hg7 rfl) rfl)) ?_
 refine wg0 rfl rfl rfl rfl rfl (fun hg8 => QV.qo (q_ldl (i := 5) (v := (pq gn)) rfl rfl Tryz.isAgg27 rfl rfl)) ?_
 refine wg0 rfl rfl rfl rfl rfl (fun hg9 => QV.qo (q_nil (A := some ⟨gn, 0, none⟩) rfl (gu hg9 rfl) rfl)) ?_
 refine wg0 rfl rfl rfl rfl rfl (fun hg10 => QV.qo (q_fl 2 fld_74_2 rfl (gu hg10 rfl) rfl)) ?_
 refine wg0 rfl rfl rfl rfl rfl (fun hg11 => QV.qo (q_ldla (i := 0) (vs := [.int .i64 n.self_site, .int .i64 n.self_node]) rfl rfl Tryz.isAgg32 Tryz.sizeOf32 (gu hg11 rfl) rfl)) ?_
 refine wg0 rfl rfl rfl rfl rfl (fun hg12 => QV.qo (q_neq_Adr (a := m.to_) (b := (⟨n.self_site, n.self_node⟩ : Adr)) rfl (gu hg12 rfl) (gu hg12 rfl))) ?_
 refine wa rfl rfl rfl (q_pick rfl rfl (pk_or' (g := (!z4)) (y := (m.to_ != (⟨n.self_site, n.self_node⟩ : Adr))))) ?_
 refine wa rfl rfl rfl (q_move (v := .bool ((!z4) || (m.to_ != (⟨n.self_site, n.self_node⟩ : Adr)))) rfl (by kernel_rfl)) ?_
 refine wg0 rfl rfl rfl rfl rfl (fun hg13 => QV.qo (q_fl 1 fld_40_1 rfl rfl rfl)) ?_
 refine wg0 rfl rfl rfl rfl rfl (fun hg14 => QV.qo (q_fl 1 fld_32_0 rfl (gu hg14 rfl) rfl)) ?_
 refine wg0 rfl rfl rfl rfl rfl (fun hg15 => QV.qo (q_ldl (i := 4) (v := .int .i64 m.from_.site) rfl rfl Tryz.isAgg3 (gu hg15 rfl) rfl)) ?_
 refine wg0 rfl rfl rfl rfl rfl (fun hg16 => QV.qo (q_ldl (i := 5) (v := (pq gn)) rfl rfl Tryz.isAgg27 rfl rfl)) ?_
 refine wg0 rfl rfl rfl rfl rfl (fun hg17 => QV.qo (q_nil (A := some ⟨gn, 0, none⟩) rfl (gu hg17 rfl) rfl)) ?_
 refine wg0 rfl rfl rfl rfl rfl (fun hg18 => QV.qo (q_fl 2 fld_74_2 rfl (gu hg18 rfl) rfl)) ?_
 refine wg0 rfl rfl rfl rfl rfl (fun hg19 => QV.qo (q_fl 2 fld_32_0 rfl (gu hg19 rfl) rfl)) ?_
 refine wg0 rfl rfl rfl rfl rfl (fun hg20 => QV.qo (q_ldl (i := 0) (v := .int .i64 n.self_site) rfl rfl Tryz.isAgg3 (gu hg20 rfl) rfl)) ?_
 refine wg0 rfl rfl rfl rfl rfl (fun hg21 => QV.qo (q_neq rfl (gu hg21 rfl) (gu hg21 rfl))) ?_
 refine wa rfl rfl rfl (q_pick rfl rfl (pk_or' (g := ((!z4) || (m.to_ != (⟨n.self_site, n.self_node⟩ : Adr)))) (y := (m.from_.site != n.self_site)))) ?_
 refine WQ.nil ?_
 change WC _ _ _ _ _ _
 refine WC.cif h (by kernel_rfl) (fun hb22 h => ?_) (fun hb22 h => ?_)
 ·
  refine WC.rs ?_
  refine as_ (v := .slice none 0 0) ?_
  refine WR.done ?_
  refine WC.ret ?_
  intro w hw
  have hw := hw.fold (is := [0, 0, 0, 0]) rfl hrow_3
  have hw := hw.pad
  obtain rfl := Option.some.inj h
  subst hF
  exact end_e (is := [1, 3, 0]) (by kernel_rfl) hw rfl ⟨rown, rowdk0, none, 0, [], rfl, rfl, hn, hdk0, (Own.nil dapi_MsgT _ 40), trivial⟩
 ·
  refine WC.skip ?_
  change WC _ _ _ _ _ _
  refine WC.rs ?_
  refine e_alloc Tryz.zeroValue34 rfl rfl rfl rfl ?_
  intro g24
  refine WR.done ?_
  intro w hw; have hw := hw.fold (is := [1, 1, 1, 1]) rfl hrow_3
  refine WC.here (C := CC F Γ [rown, [(g24, .cells #[.slice none 0 0] 34 (0, 0))], [(g2, .cells #[.int .i64 m.kind, .int .i64 m.from_.site, .int .i64 m.from_.node, .int .i64 m.to_.site, .int .i64 m.to_.node, .int .i64 m.id, .int .i64 m.n, .int .i64 m.for_, .int .i64 m.code, .string m.key, .slice Am10 m.recs.length cm10, .slice Am11 m.vec.length cm11, .slice Am12 m.path.length cm12, .slice Am13 m.hashes.length cm13, .slice Am14 m.route.length cm14] 40 (0, 0))], [(g1, .cells #[(pq gn)] 27 (0, 0))], rowdk0]) ?_ hw
  clear hw
  refine WC.cut (fun σ w => ∃ (x28 : List Dapi_Msg), ∃ (o33 : Onode_Node), ∃ (o36 : Odisk_Disk), ∃ (Γ26 : Gh), ∃ (A29 : Option Addr), ∃ (c30 : Nat), ∃ (row31 : Rowb), ∃ (row34 : Rowb), ∃ (row37 : Rowb), m_node_Node_Handle_j1 x28 o33 o36 = some r ∧ slots σ [(5, (pq g24))] ∧ CC F Γ26 [row31, row34, [(g24, .cells #[.slice A29 x28.length c30] 34 (0, 0))], row37] w ∧ Gh.le Γ Γ26 ∧ Own dapi_MsgT Γ26 40 row31 A29 c30 x28 ∧ Onode_Node.ob en Γ26 gn row34 o33 ∧ Odisk_Disk.ob edk0 Γ26 en.2 row37 o36 ∧ True) ?_ ?_
  ·
   refine WC.seq ?_
   intro w hw; have h039 := hw.le
   refine WC.here (C := CC F Γ [rown, [(g24, .cells #[.slice none 0 0] 34 (0, 0))], [(g2, .cells #[.int .i64 m.kind, .int .i64 m.from_.site, .int .i64 m.from_.node, .int .i64 m.to_.site, .int .i64 m.to_.node, .int .i64 m.id, .int .i64 m.n, .int .i64 m.for_, .int .i64 m.code, .string m.key, .slice Am10 m.recs.length cm10, .slice Am11 m.vec.length cm11, .slice Am12 m.path.length cm12, .slice Am13 m.hashes.length cm13, .slice Am14 m.route.length cm14] 40 (0, 0))], [(g1, .cells #[(pq gn)] 27 (0, 0))], rowdk0]) ?_ hw; clear hw
   refine WC.held (CC F Γ [[(g24, .cells #[.slice none 0 0] 34 (0, 0))], [(g2, .cells #[.int .i64 m.kind, .int .i64 m.from_.site, .int .i64 m.from_.node, .int .i64 m.to_.site, .int .i64 m.to_.node, .int .i64 m.id, .int .i64 m.n, .int .i64 m.for_, .int .i64 m.code, .string m.key, .slice Am10 m.recs.length cm10, .slice Am11 m.vec.length cm11, .slice Am12 m.path.length cm12, .slice Am13 m.hashes.length cm13, .slice Am14 m.route.length cm14] 40 (0, 0))], [(g1, .cells #[(pq gn)] 27 (0, 0))]]) (by kernel_rfl) (fun w hw => hw.drawn _) ?_
   change WH _ _ _ _ (CC F Γ [rown, [(g24, .cells #[.slice none 0 0] 34 (0, 0))], [(g2, .cells #[.int .i64 m.kind, .int .i64 m.from_.site, .int .i64 m.from_.node, .int .i64 m.to_.site, .int .i64 m.to_.node, .int .i64 m.id, .int .i64 m.n, .int .i64 m.for_, .int .i64 m.code, .string m.key, .slice Am10 m.recs.length cm10, .slice Am11 m.vec.length cm11, .slice Am12 m.path.length cm12, .slice Am13 m.hashes.length cm13, .slice Am14 m.route.length cm14] 40 (0, 0))], [(g1, .cells #[(pq gn)] 27 (0, 0))], rowdk0]) _ 8 #[false, false, false, false, false, false, false, false] _
   refine hu 0 rfl (bk_ (Gh.refl _) h039 (.cons _ (.cons_cons _ (.cons_cons _ (.cons_cons _ (.cons _ .slnil)))))) (q_ldl (i := 2) (v := (pq gn)) rfl rfl Tryz.isAgg27 rfl rfl) ?_
   refine hu 1 rfl (bk_ (Gh.refl _) h039 (.cons _ (.cons_cons _ (.cons_cons _ (.cons_cons _ (.cons _ .slnil)))))) (q_nil (A := some ⟨gn, 0, none⟩) rfl rfl rfl) ?_
   refine hu 2 rfl (bk_ (Gh.refl _) h039 (.cons _ (.cons_cons _ (.cons_cons _ (.cons_cons _ (.cons _ .slnil)))))) (q_fl 6 fld_74_5 rfl rfl rfl) ?_
   refine hu 4 rfl (bk_ (Gh.refl _) h039 (.cons _ (.cons_cons _ (.cons_cons _ (.cons_cons _ (.cons _ .slnil)))))) (q_fl 0 fld_40_0 rfl rfl rfl) ?_
   refine hu 5 rfl (bk_ (Gh.refl _) h039 (.cons _ (.cons_cons _ (.cons_cons _ (.cons_cons _ (.cons _ .slnil)))))) (q_ldl (i := 1) (v := .int .i64 m.kind) rfl rfl Tryz.isAgg3 rfl rfl) ?_
   refine WH.lone (i := 3) (by kernel_rfl) rfl ?_
   have hq := hn
   obtain ⟨g4_40, r4_40, m5_40, r5_40, m6_40, r6_40, hrow_40, ho0_40, ho1_40, ho2_40, ho3_40, ho4_40, ho5_40, -⟩ := hq
   intro w hw; have hw := hw.unfold (i := 0) rfl hrow_40
   refine WR.here (C := CC F Γ [[(gn, .cells #[.int .i64 n.life, .pointer (some ⟨en.2, 0, none⟩), .int .i64 n.self_site, .int .i64 n.self_node, (pq g4_40), .map (some m5_40), .map (some m6_40)] en.1 (0, 0))], r4_40, r5_40, r6_40, [(g24, .cells #[.slice none 0 0] 34 (0, 0))], [(g2, .cells #[.int .i64 m.kind, .int .i64 m.from_.site, .int .i64 m.from_.node, .int .i64 m.to_.site, .int .i64 m.to_.node, .int .i64 m.id, .int .i64 m.n, .int .i64 m.for_, .int .i64 m.code, .string m.key, .slice Am10 m.recs.length cm10, .slice Am11 m.vec.length cm11, .slice Am12 m.path.length cm12, .slice Am13 m.hashes.length cm13, .slice Am14 m.route.length cm14] 40 (0, 0))], [(g1, .cells #[(pq gn)] 27 (0, 0))], rowdk0]) ?_ hw
   clear hw
   refine vb (q_ldl (i := 0) (v := .map (some m6_40)) rfl rfl Tryz.isAgg72 rfl rfl) ?_
   refine WR.nil ?_
   refine WH.next (bk_ (Gh.refl _) h039 (.cons _ (.cons _ (.cons _ (.cons _ (.cons_cons _ (.cons_cons _ (.cons_cons _ (.cons _ .slnil))))))))) ?_
   refine WH.lone (i := 6) (by kernel_rfl) rfl ?_
   obtain hq41 | ⟨a42, hq41⟩ := opt_or (mget m.kind n.does)
   ·
    have h := optm_n hq41 h
    refine vb (q_lookup1 (v := .nilFunc) (MapO.miss ho5_40 .nilFunc hq41) rfl Tryz.underlying72 Tryz.zeroValue76 rfl rfl (i := 3) rfl) ?_
    refine WR.nil ?_
    refine WH.next (bk_ (Gh.refl _) h039 (.cons _ (.cons _ (.cons _ (.cons _ (.cons_cons _ (.cons_cons _ (.cons_cons _ (.cons _ .slnil))))))))) ?_
    refine hu 7 rfl (bk_ (Gh.refl _) h039 (.cons _ (.cons _ (.cons _ (.cons _ (.cons_cons _ (.cons_cons _ (.cons_cons _ (.cons _ .slnil))))))))) (q_assign (v := .nilFunc) rfl (by kernel_rfl)) ?_
    refine WH.done (by kernel_rfl) ?_
    change WC _ _ _ _ _ _
    refine WC.rs ?_
    refine mv (v := .nilFunc) ?_
    refine vb (q_nf_neq Tryz.underlying76 rfl rfl rfl) ?_
    refine WR.done ?_
    refine WC.cfk (b := false) (by kernel_rfl) rfl ?_
    refine WC.skip ?_
    intro w hw
    have hw := hw.fold (is := [0, 0, 0, 0]) rfl hrow_40
    have hw := hw.pad
    exact ⟨[], n, dk0, Γ, none, 0, [], rown, rowdk0, h, (sl_ (by kernel_rfl)), (hw.only (is := [0, 0, 0, 2]) rfl), (Gh.refl _), (Own.nil dapi_MsgT _ 40), hn, hdk0, trivial⟩
   ·
    have h := optm_s hq41 h
    refine (Bool.eq_false_or_eq_true (a42 == 32)).elim (fun hb47 => ?_) (fun hb47 => ?_)
    ·
     have h := bt hb47 h
     have hq48 : (mget m.kind n.does) = some 32 := hq41.trans (congrArg some (eq_of_beq hb47))
     obtain ⟨v44, hv45, hat46⟩ := MapO.hit ho5_40 .nilFunc hq48
     obtain rfl : v44 = .func (.func 32) #[(pq gn)] #[] := hv45
     refine vb (q_lookup1 (v := .func (.func 32) #[(pq gn)] #[]) hat46 rfl Tryz.underlying72 Tryz.zeroValue76 rfl rfl (i := 3) rfl) ?_
     refine WR.nil ?_
     refine WH.next (bk_ (Gh.refl _) h039 (.cons _ (.cons _ (.cons _ (.cons _ (.cons_cons _ (.cons_cons _ (.cons_cons _ (.cons _ .slnil))))))))) ?_
     refine hu 7 rfl (bk_ (Gh.refl _) h039 (.cons _ (.cons _ (.cons _ (.cons _ (.cons_cons _ (.cons_cons _ (.cons_cons _ (.cons _ .slnil))))))))) (q_assign (v := .func (.func 32) #[(pq gn)] #[]) rfl (by kernel_rfl)) ?_
     refine WH.done (by kernel_rfl) ?_
     change WC _ _ _ _ _ _
     refine WC.rs ?_
     refine mv (v := .func (.func 32) #[(pq gn)] #[]) ?_
     refine vb (q_fn_neq Tryz.underlying76 rfl rfl rfl) ?_
     refine WR.done ?_
     refine WC.ctk (b := true) (by kernel_rfl) rfl ?_
     refine WC.region ?_
     refine mv (v := .func (.func 32) #[(pq gn)] #[]) ?_
     refine vb (q_ldla (i := 5) (vs := [.int .i64 m.kind, .int .i64 m.from_.site, .int .i64 m.from_.node, .int .i64 m.to_.site, .int .i64 m.to_.node, .int .i64 m.id, .int .i64 m.n, .int .i64 m.for_, .int .i64 m.code, .string m.key, .slice Am10 m.recs.length cm10, .slice Am11 m.vec.length cm11, .slice Am12 m.path.length cm12, .slice Am13 m.hashes.length cm13, .slice Am14 m.route.length cm14]) rfl rfl Tryz.isAgg40 Tryz.sizeOf40 rfl rfl) ?_
     refine vb (q_mkfn (v := .func (.func 41) #[] #[(pq g1), (pq g2), (pq g24)]) rfl (by kernel_rfl)) ?_
     intro w hw; have hw := hw.fold (is := [0, 0, 0, 0]) rfl hrow_40
     refine WR.here (C := CC F Γ [rown, [(g24, .cells #[.slice none 0 0] 34 (0, 0))], [(g2, .cells #[.int .i64 m.kind, .int .i64 m.from_.site, .int .i64 m.from_.node, .int .i64 m.to_.site, .int .i64 m.to_.node, .int .i64 m.id, .int .i64 m.n, .int .i64 m.for_, .int .i64 m.code, .string m.key, .slice Am10 m.recs.length cm10, .slice Am11 m.vec.length cm11, .slice Am12 m.path.length cm12, .slice Am13 m.hashes.length cm13, .slice Am14 m.route.length cm14] 40 (0, 0))], [(g1, .cells #[(pq gn)] 27 (0, 0))], rowdk0]) ?_ hw
     clear hw
     refine WR.sub (fun w hw => hw.pad) ?_
     obtain ⟨z50, hz51, h⟩ := bnd h
     refine e_call (is := [1, 3, 2, 1, 0, 0]) rfl rfl (call_run_fb (first := #[(pq gn)]) Tryz.call32 rfl (by kernel_rfl) (by kernel_rfl)) rfl (fun w hp => t_node_Node_put hn m hm  m.kind hm.1 m.from_.site hm.2.1 m.from_.node hm.2.2.1 m.to_.site hm.2.2.2.1 m.to_.node hm.2.2.2.2.1 m.id hm.2.2.2.2.2.1 m.n hm.2.2.2.2.2.2.1 m.for_ hm.2.2.2.2.2.2.2.1 m.code hm.2.2.2.2.2.2.2.2.1 m.key hm.2.2.2.2.2.2.2.2.2.1 hm.2.2.2.2.2.2.2.2.2.2.1.2 hm.2.2.2.2.2.2.2.2.2.2.1.1 hm.2.2.2.2.2.2.2.2.2.2.2.1.2 hm.2.2.2.2.2.2.2.2.2.2.2.1.1 hm.2.2.2.2.2.2.2.2.2.2.2.2.1.2 hm.2.2.2.2.2.2.2.2.2.2.2.2.1.1 hm.2.2.2.2.2.2.2.2.2.2.2.2.2.1.2 hm.2.2.2.2.2.2.2.2.2.2.2.2.2.1.1 hm.2.2.2.2.2.2.2.2.2.2.2.2.2.2.2 hm.2.2.2.2.2.2.2.2.2.2.2.2.2.2.1 (Own.nil dapi_MsgT Γ 40) hdk0 hp hz51) ?_
     rintro Γ52 U54 v55 hl53 ⟨row56, A58, c59, row60, row62, rfl, rfl, hr57, hr61, hr63, _⟩
     change WR _ _ _ (CC F Γ52 [row56, [(g1, .cells #[(pq gn)] 27 (0, 0))], [(g2, .cells #[.int .i64 m.kind, .int .i64 m.from_.site, .int .i64 m.from_.node, .int .i64 m.to_.site, .int .i64 m.to_.node, .int .i64 m.id, .int .i64 m.n, .int .i64 m.for_, .int .i64 m.code, .string m.key, .slice Am10 m.recs.length cm10, .slice Am11 m.vec.length cm11, .slice Am12 m.path.length cm12, .slice Am13 m.hashes.length cm13, .slice Am14 m.route.length cm14] 40 (0, 0))], [(g24, .cells #[.slice A58 z50.2.1.length c59] 34 (0, 0))], row60, row62]) _ _ (upd _ 42 (.tuple #[]))
     refine WR.nil ?_
     intro w hw
     exact ⟨z50.2.1, z50.1, z50.2.2, Γ52, A58, c59, row60, row56, row62, h, (sl_ (by kernel_rfl)), (hw.only (is := [4, 0, 2, 2]) rfl), hl53, hr61, hr57, hr63, trivial⟩
    ·
     have h := bf hb47 h
     refine (Bool.eq_false_or_eq_true (a42 == 33)).elim (fun hb64 => ?_) (fun hb64 => ?_)
     ·
      have h := bt hb64 h
      have hq65 : (mget m.kind n.does) = some 33 := hq41.trans (congrArg some (eq_of_beq hb64))
      obtain ⟨v44, hv45, hat46⟩ := MapO.hit ho5_40 .nilFunc hq65
      obtain rfl : v44 = .func (.func 33) #[(pq gn)] #[] := hv45
      refine vb (q_lookup1 (v := .func (.func 33) #[(pq gn)] #[]) hat46 rfl Tryz.underlying72 Tryz.zeroValue76 rfl rfl (i := 3) rfl) ?_
      refine WR.nil ?_
      refine WH.next (bk_ (Gh.refl _) h039 (.cons _ (.cons _ (.cons _ (.cons _ (.cons_cons _ (.cons_cons _ (.cons_cons _ (.cons _ .slnil))))))))) ?_
      refine hu 7 rfl (bk_ (Gh.refl _) h039 (.cons _ (.cons _ (.cons _ (.cons _ (.cons_cons _ (.cons_cons _ (.cons_cons _ (.cons _ .slnil))))))))) (q_assign (v := .func (.func 33) #[(pq gn)] #[]) rfl (by kernel_rfl)) ?_
      refine WH.done (by kernel_rfl) ?_
      change WC _ _ _ _ _ _
      refine WC.rs ?_
      refine mv (v := .func (.func 33) #[(pq gn)] #[]) ?_
      refine vb (q_fn_neq Tryz.underlying76 rfl rfl rfl) ?_
      refine WR.done ?_
      refine WC.ctk (b := true) (by kernel_rfl) rfl ?_
      refine WC.region ?_
      refine mv (v := .func (.func 33) #[(pq gn)] #[]) ?_
      refine vb (q_ldla (i := 5) (vs := [.int .i64 m.kind, .int .i64 m.from_.site, .int .i64 m.from_.node, .int .i64 m.to_.site, .int .i64 m.to_.node, .int .i64 m.id, .int .i64 m.n, .int .i64 m.for_, .int .i64 m.code, .string m.key, .slice Am10 m.recs.length cm10, .slice Am11 m.vec.length cm11, .slice Am12 m.path.length cm12, .slice Am13 m.hashes.length cm13, .slice Am14 m.route.length cm14]) rfl rfl Tryz.isAgg40 Tryz.sizeOf40 rfl rfl) ?_
      refine vb (q_mkfn (v := .func (.func 41) #[] #[(pq g1), (pq g2), (pq g24)]) rfl (by kernel_rfl)) ?_
      intro w hw; have hw := hw.fold (is := [0, 0, 0, 0]) rfl hrow_40
      refine WR.here (C := CC F Γ [rown, [(g24, .cells #[.slice none 0 0] 34 (0, 0))], [(g2, .cells #[.int .i64 m.kind, .int .i64 m.from_.site, .int .i64 m.from_.node, .int .i64 m.to_.site, .int .i64 m.to_.node, .int .i64 m.id, .int .i64 m.n, .int .i64 m.for_, .int .i64 m.code, .string m.key, .slice Am10 m.recs.length cm10, .slice Am11 m.vec.length cm11, .slice Am12 m.path.length cm12, .slice Am13 m.hashes.length cm13, .slice Am14 m.route.length cm14] 40 (0, 0))], [(g1, .cells #[(pq gn)] 27 (0, 0))], rowdk0]) ?_ hw
      clear hw
      refine WR.sub (fun w hw => hw.pad) ?_
      obtain ⟨z67, hz68, h⟩ := bnd h
      refine e_call (is := [1, 3, 2, 1, 0, 0]) rfl rfl (call_run_fb (first := #[(pq gn)]) Tryz.call33 rfl (by kernel_rfl) (by kernel_rfl)) rfl (fun w hp => t_node_Node_done hn m hm  m.kind hm.1 m.from_.site hm.2.1 m.from_.node hm.2.2.1 m.to_.site hm.2.2.2.1 m.to_.node hm.2.2.2.2.1 m.id hm.2.2.2.2.2.1 m.n hm.2.2.2.2.2.2.1 m.for_ hm.2.2.2.2.2.2.2.1 m.code hm.2.2.2.2.2.2.2.2.1 m.key hm.2.2.2.2.2.2.2.2.2.1 hm.2.2.2.2.2.2.2.2.2.2.1.2 hm.2.2.2.2.2.2.2.2.2.2.1.1 hm.2.2.2.2.2.2.2.2.2.2.2.1.2 hm.2.2.2.2.2.2.2.2.2.2.2.1.1 hm.2.2.2.2.2.2.2.2.2.2.2.2.1.2 hm.2.2.2.2.2.2.2.2.2.2.2.2.1.1 hm.2.2.2.2.2.2.2.2.2.2.2.2.2.1.2 hm.2.2.2.2.2.2.2.2.2.2.2.2.2.1.1 hm.2.2.2.2.2.2.2.2.2.2.2.2.2.2.2 hm.2.2.2.2.2.2.2.2.2.2.2.2.2.2.1 (Own.nil dapi_MsgT Γ 40) hdk0 hp hz68) ?_
      rintro Γ69 U71 v72 hl70 ⟨row73, row75, rfl, rfl, hr74, hr76, _⟩
      change WR _ _ _ (CC F Γ69 [row73, [(g1, .cells #[(pq gn)] 27 (0, 0))], [(g2, .cells #[.int .i64 m.kind, .int .i64 m.from_.site, .int .i64 m.from_.node, .int .i64 m.to_.site, .int .i64 m.to_.node, .int .i64 m.id, .int .i64 m.n, .int .i64 m.for_, .int .i64 m.code, .string m.key, .slice Am10 m.recs.length cm10, .slice Am11 m.vec.length cm11, .slice Am12 m.path.length cm12, .slice Am13 m.hashes.length cm13, .slice Am14 m.route.length cm14] 40 (0, 0))], [(g24, .cells #[.slice none 0 0] 34 (0, 0))], [], row75]) _ _ (upd _ 42 (.tuple #[]))
      refine WR.nil ?_
      intro w hw
      exact ⟨[], z67.1, z67.2, Γ69, none, 0, [], row73, row75, h, (sl_ (by kernel_rfl)), (hw.only (is := [4, 0, 2, 2]) rfl), hl70, ((Own.nil dapi_MsgT Γ 40).mono hl70), hr74, hr76, trivial⟩
     ·
      have h := bf hb64 h
      refine (Bool.eq_false_or_eq_true (a42 == 34)).elim (fun hb77 => ?_) (fun hb77 => ?_)
      ·
       have h := bt hb77 h
       have hq78 : (mget m.kind n.does) = some 34 := hq41.trans (congrArg some (eq_of_beq hb77))
       obtain ⟨v44, hv45, hat46⟩ := MapO.hit ho5_40 .nilFunc hq78
       obtain rfl : v44 = .func (.func 34) #[(pq gn)] #[] := hv45
       refine vb (q_lookup1 (v := .func (.func 34) #[(pq gn)] #[]) hat46 rfl Tryz.underlying72 Tryz.zeroValue76 rfl rfl (i := 3) rfl) ?_
       refine WR.nil ?_
       refine WH.next (bk_ (Gh.refl _) h039 (.cons _ (.cons _ (.cons _ (.cons _ (.cons_cons _ (.cons_cons _ (.cons_cons _ (.cons _ .slnil))))))))) ?_
       refine hu 7 rfl (bk_ (Gh.refl _) h039 (.cons _ (.cons _ (.cons _ (.cons _ (.cons_cons _ (.cons_cons _ (.cons_cons _ (.cons _ .slnil))))))))) (q_assign (v := .func (.func 34) #[(pq gn)] #[]) rfl (by kernel_rfl)) ?_
       refine WH.done (by kernel_rfl) ?_
       change WC _ _ _ _ _ _
       refine WC.rs ?_
       refine mv (v := .func (.func 34) #[(pq gn)] #[]) ?_
       refine vb (q_fn_neq Tryz.underlying76 rfl rfl rfl) ?_
       refine WR.done ?_
       refine WC.ctk (b := true) (by kernel_rfl) rfl ?_
       refine WC.region ?_
       refine mv (v := .func (.func 34) #[(pq gn)] #[]) ?_
       refine vb (q_ldla (i := 5) (vs := [.int .i64 m.kind, .int .i64 m.from_.site, .int .i64 m.from_.node, .int .i64 m.to_.site, .int .i64 m.to_.node, .int .i64 m.id, .int .i64 m.n, .int .i64 m.for_, .int .i64 m.code, .string m.key, .slice Am10 m.recs.length cm10, .slice Am11 m.vec.length cm11, .slice Am12 m.path.length cm12, .slice Am13 m.hashes.length cm13, .slice Am14 m.route.length cm14]) rfl rfl Tryz.isAgg40 Tryz.sizeOf40 rfl rfl) ?_
       refine vb (q_mkfn (v := .func (.func 41) #[] #[(pq g1), (pq g2), (pq g24)]) rfl (by kernel_rfl)) ?_
       intro w hw; have hw := hw.fold (is := [0, 0, 0, 0]) rfl hrow_40
       refine WR.here (C := CC F Γ [rown, [(g24, .cells #[.slice none 0 0] 34 (0, 0))], [(g2, .cells #[.int .i64 m.kind, .int .i64 m.from_.site, .int .i64 m.from_.node, .int .i64 m.to_.site, .int .i64 m.to_.node, .int .i64 m.id, .int .i64 m.n, .int .i64 m.for_, .int .i64 m.code, .string m.key, .slice Am10 m.recs.length cm10, .slice Am11 m.vec.length cm11, .slice Am12 m.path.length cm12, .slice Am13 m.hashes.length cm13, .slice Am14 m.route.length cm14] 40 (0, 0))], [(g1, .cells #[(pq gn)] 27 (0, 0))], rowdk0]) ?_ hw
       clear hw
       refine WR.sub (fun w hw => hw.pad) ?_
       obtain ⟨z80, hz81, h⟩ := bnd h
       refine e_call (is := [1, 3, 2, 1, 0, 0]) rfl rfl (call_run_fb (first := #[(pq gn)]) Tryz.call34 rfl (by kernel_rfl) (by kernel_rfl)) rfl (fun w hp => t_node_Node_get hn m hm  m.kind hm.1 m.from_.site hm.2.1 m.from_.node hm.2.2.1 m.to_.site hm.2.2.2.1 m.to_.node hm.2.2.2.2.1 m.id hm.2.2.2.2.2.1 m.n hm.2.2.2.2.2.2.1 m.for_ hm.2.2.2.2.2.2.2.1 m.code hm.2.2.2.2.2.2.2.2.1 m.key hm.2.2.2.2.2.2.2.2.2.1 hm.2.2.2.2.2.2.2.2.2.2.1.2 hm.2.2.2.2.2.2.2.2.2.2.1.1 hm.2.2.2.2.2.2.2.2.2.2.2.1.2 hm.2.2.2.2.2.2.2.2.2.2.2.1.1 hm.2.2.2.2.2.2.2.2.2.2.2.2.1.2 hm.2.2.2.2.2.2.2.2.2.2.2.2.1.1 hm.2.2.2.2.2.2.2.2.2.2.2.2.2.1.2 hm.2.2.2.2.2.2.2.2.2.2.2.2.2.1.1 hm.2.2.2.2.2.2.2.2.2.2.2.2.2.2.2 hm.2.2.2.2.2.2.2.2.2.2.2.2.2.2.1 (Own.nil dapi_MsgT Γ 40) hdk0 hp hz81) ?_
       rintro Γ82 U84 v85 hl83 ⟨A86, c87, row88, rfl, rfl, hr89, _⟩
       change WR _ _ _ (CC F Γ82 [rown, [(g1, .cells #[(pq gn)] 27 (0, 0))], [(g2, .cells #[.int .i64 m.kind, .int .i64 m.from_.site, .int .i64 m.from_.node, .int .i64 m.to_.site, .int .i64 m.to_.node, .int .i64 m.id, .int .i64 m.n, .int .i64 m.for_, .int .i64 m.code, .string m.key, .slice Am10 m.recs.length cm10, .slice Am11 m.vec.length cm11, .slice Am12 m.path.length cm12, .slice Am13 m.hashes.length cm13, .slice Am14 m.route.length cm14] 40 (0, 0))], [(g24, .cells #[.slice A86 z80.length c87] 34 (0, 0))], row88, rowdk0]) _ _ (upd _ 42 (.tuple #[]))
       refine WR.nil ?_
       intro w hw
       exact ⟨z80, n, dk0, Γ82, A86, c87, row88, rown, rowdk0, h, (sl_ (by kernel_rfl)), (hw.only (is := [4, 0, 2, 2]) rfl), hl83, hr89, (hn.mono hl83), (hdk0.mono hl83), trivial⟩
      ·
       have h := bf hb77 h
       refine (Bool.eq_false_or_eq_true (a42 == 35)).elim (fun hb90 => ?_) (fun hb90 => ?_)
       ·
        have h := bt hb90 h
        have hq91 : (mget m.kind n.does) = some 35 := hq41.trans (congrArg some (eq_of_beq hb90))
        obtain ⟨v44, hv45, hat46⟩ := MapO.hit ho5_40 .nilFunc hq91
        obtain rfl : v44 = .func (.func 35) #[(pq gn)] #[] := hv45
        refine vb (q_lookup1 (v := .func (.func 35) #[(pq gn)] #[]) hat46 rfl Tryz.underlying72 Tryz.zeroValue76 rfl rfl (i := 3) rfl) ?_
        refine WR.nil ?_
        refine WH.next (bk_ (Gh.refl _) h039 (.cons _ (.cons _ (.cons _ (.cons _ (.cons_cons _ (.cons_cons _ (.cons_cons _ (.cons _ .slnil))))))))) ?_
        refine hu 7 rfl (bk_ (Gh.refl _) h039 (.cons _ (.cons _ (.cons _ (.cons _ (.cons_cons _ (.cons_cons _ (.cons_cons _ (.cons _ .slnil))))))))) (q_assign (v := .func (.func 35) #[(pq gn)] #[]) rfl (by kernel_rfl)) ?_
        refine WH.done (by kernel_rfl) ?_
        change WC _ _ _ _ _ _
        refine WC.rs ?_
        refine mv (v := .func (.func 35) #[(pq gn)] #[]) ?_
        refine vb (q_fn_neq Tryz.underlying76 rfl rfl rfl) ?_
        refine WR.done ?_
        refine WC.ctk (b := true) (by kernel_rfl) rfl ?_
        refine WC.region ?_
        refine mv (v := .func (.func 35) #[(pq gn)] #[]) ?_
        refine vb (q_ldla (i := 5) (vs := [.int .i64 m.kind, .int .i64 m.from_.site, .int .i64 m.from_.node, .int .i64 m.to_.site, .int .i64 m.to_.node, .int .i64 m.id, .int .i64 m.n, .int .i64 m.for_, .int .i64 m.code, .string m.key, .slice Am10 m.recs.length cm10, .slice Am11 m.vec.length cm11, .slice Am12 m.path.length cm12, .slice Am13 m.hashes.length cm13, .slice Am14 m.route.length cm14]) rfl rfl Tryz.isAgg40 Tryz.sizeOf40 rfl rfl) ?_
        refine vb (q_mkfn (v := .func (.func 41) #[] #[(pq g1), (pq g2), (pq g24)]) rfl (by kernel_rfl)) ?_
        intro w hw; have hw := hw.fold (is := [0, 0, 0, 0]) rfl hrow_40
        refine WR.here (C := CC F Γ [rown, [(g24, .cells #[.slice none 0 0] 34 (0, 0))], [(g2, .cells #[.int .i64 m.kind, .int .i64 m.from_.site, .int .i64 m.from_.node, .int .i64 m.to_.site, .int .i64 m.to_.node, .int .i64 m.id, .int .i64 m.n, .int .i64 m.for_, .int .i64 m.code, .string m.key, .slice Am10 m.recs.length cm10, .slice Am11 m.vec.length cm11, .slice Am12 m.path.length cm12, .slice Am13 m.hashes.length cm13, .slice Am14 m.route.length cm14] 40 (0, 0))], [(g1, .cells #[(pq gn)] 27 (0, 0))], rowdk0]) ?_ hw
        clear hw
        refine WR.sub (fun w hw => hw.pad) ?_
        obtain ⟨z93, hz94, h⟩ := bnd h
        refine e_call (is := [1, 3, 2, 1, 0, 0]) rfl rfl (call_run_fb (first := #[(pq gn)]) Tryz.call35 rfl (by kernel_rfl) (by kernel_rfl)) rfl (fun w hp => t_node_Node_scan hn m hm  m.kind hm.1 m.from_.site hm.2.1 m.from_.node hm.2.2.1 m.to_.site hm.2.2.2.1 m.to_.node hm.2.2.2.2.1 m.id hm.2.2.2.2.2.1 m.n hm.2.2.2.2.2.2.1 m.for_ hm.2.2.2.2.2.2.2.1 m.code hm.2.2.2.2.2.2.2.2.1 m.key hm.2.2.2.2.2.2.2.2.2.1 hm.2.2.2.2.2.2.2.2.2.2.1.2 hm.2.2.2.2.2.2.2.2.2.2.1.1 hm.2.2.2.2.2.2.2.2.2.2.2.1.2 hm.2.2.2.2.2.2.2.2.2.2.2.1.1 hm.2.2.2.2.2.2.2.2.2.2.2.2.1.2 hm.2.2.2.2.2.2.2.2.2.2.2.2.1.1 hm.2.2.2.2.2.2.2.2.2.2.2.2.2.1.2 hm.2.2.2.2.2.2.2.2.2.2.2.2.2.1.1 hm.2.2.2.2.2.2.2.2.2.2.2.2.2.2.2 hm.2.2.2.2.2.2.2.2.2.2.2.2.2.2.1 (Own.nil dapi_MsgT Γ 40) hdk0 hp hz94) ?_
        rintro Γ95 U97 v98 hl96 ⟨A99, c100, row101, rfl, rfl, hr102, _⟩
        change WR _ _ _ (CC F Γ95 [rown, [(g1, .cells #[(pq gn)] 27 (0, 0))], [(g2, .cells #[.int .i64 m.kind, .int .i64 m.from_.site, .int .i64 m.from_.node, .int .i64 m.to_.site, .int .i64 m.to_.node, .int .i64 m.id, .int .i64 m.n, .int .i64 m.for_, .int .i64 m.code, .string m.key, .slice Am10 m.recs.length cm10, .slice Am11 m.vec.length cm11, .slice Am12 m.path.length cm12, .slice Am13 m.hashes.length cm13, .slice Am14 m.route.length cm14] 40 (0, 0))], [(g24, .cells #[.slice A99 z93.length c100] 34 (0, 0))], row101, rowdk0]) _ _ (upd _ 42 (.tuple #[]))
        refine WR.nil ?_
        intro w hw
        exact ⟨z93, n, dk0, Γ95, A99, c100, row101, rown, rowdk0, h, (sl_ (by kernel_rfl)), (hw.only (is := [4, 0, 2, 2]) rfl), hl96, hr102, (hn.mono hl96), (hdk0.mono hl96), trivial⟩
       ·
        have h := bf hb90 h
        refine (Bool.eq_false_or_eq_true (a42 == 38)).elim (fun hb103 => ?_) (fun hb103 => ?_)
        ·
         have h := bt hb103 h
         have hq104 : (mget m.kind n.does) = some 38 := hq41.trans (congrArg some (eq_of_beq hb103))
         obtain ⟨v44, hv45, hat46⟩ := MapO.hit ho5_40 .nilFunc hq104
         obtain rfl : v44 = .func (.func 38) #[(pq gn)] #[] := hv45
         refine vb (q_lookup1 (v := .func (.func 38) #[(pq gn)] #[]) hat46 rfl Tryz.underlying72 Tryz.zeroValue76 rfl rfl (i := 3) rfl) ?_
         refine WR.nil ?_
         refine WH.next (bk_ (Gh.refl _) h039 (.cons _ (.cons _ (.cons _ (.cons _ (.cons_cons _ (.cons_cons _ (.cons_cons _ (.cons _ .slnil))))))))) ?_
         refine hu 7 rfl (bk_ (Gh.refl _) h039 (.cons _ (.cons _ (.cons _ (.cons _ (.cons_cons _ (.cons_cons _ (.cons_cons _ (.cons _ .slnil))))))))) (q_assign (v := .func (.func 38) #[(pq gn)] #[]) rfl (by kernel_rfl)) ?_
         refine WH.done (by kernel_rfl) ?_
         change WC _ _ _ _ _ _
         refine WC.rs ?_
         refine mv (v := .func (.func 38) #[(pq gn)] #[]) ?_
         refine vb (q_fn_neq Tryz.underlying76 rfl rfl rfl) ?_
         refine WR.done ?_
         refine WC.ctk (b := true) (by kernel_rfl) rfl ?_
         refine WC.region ?_
         refine mv (v := .func (.func 38) #[(pq gn)] #[]) ?_
         refine vb (q_ldla (i := 5) (vs := [.int .i64 m.kind, .int .i64 m.from_.site, .int .i64 m.from_.node, .int .i64 m.to_.site, .int .i64 m.to_.node, .int .i64 m.id, .int .i64 m.n, .int .i64 m.for_, .int .i64 m.code, .string m.key, .slice Am10 m.recs.length cm10, .slice Am11 m.vec.length cm11, .slice Am12 m.path.length cm12, .slice Am13 m.hashes.length cm13, .slice Am14 m.route.length cm14]) rfl rfl Tryz.isAgg40 Tryz.sizeOf40 rfl rfl) ?_
         refine vb (q_mkfn (v := .func (.func 41) #[] #[(pq g1), (pq g2), (pq g24)]) rfl (by kernel_rfl)) ?_
         intro w hw; have hw := hw.fold (is := [0, 0, 0, 0]) rfl hrow_40
         refine WR.here (C := CC F Γ [rown, [(g24, .cells #[.slice none 0 0] 34 (0, 0))], [(g2, .cells #[.int .i64 m.kind, .int .i64 m.from_.site, .int .i64 m.from_.node, .int .i64 m.to_.site, .int .i64 m.to_.node, .int .i64 m.id, .int .i64 m.n, .int .i64 m.for_, .int .i64 m.code, .string m.key, .slice Am10 m.recs.length cm10, .slice Am11 m.vec.length cm11, .slice Am12 m.path.length cm12, .slice Am13 m.hashes.length cm13, .slice Am14 m.route.length cm14] 40 (0, 0))], [(g1, .cells #[(pq gn)] 27 (0, 0))], rowdk0]) ?_ hw
         clear hw
         refine WR.sub (fun w hw => hw.pad) ?_
         obtain ⟨z106, hz107, h⟩ := bnd h
         refine e_call (is := [1, 3, 2, 1, 0, 0]) rfl rfl (call_run_fb (first := #[(pq gn)]) Tryz.call38 rfl (by kernel_rfl) (by kernel_rfl)) rfl (fun w hp => t_node_Node_bless hn m hm  m.kind hm.1 m.from_.site hm.2.1 m.from_.node hm.2.2.1 m.to_.site hm.2.2.2.1 m.to_.node hm.2.2.2.2.1 m.id hm.2.2.2.2.2.1 m.n hm.2.2.2.2.2.2.1 m.for_ hm.2.2.2.2.2.2.2.1 m.code hm.2.2.2.2.2.2.2.2.1 m.key hm.2.2.2.2.2.2.2.2.2.1 hm.2.2.2.2.2.2.2.2.2.2.1.2 hm.2.2.2.2.2.2.2.2.2.2.1.1 hm.2.2.2.2.2.2.2.2.2.2.2.1.2 hm.2.2.2.2.2.2.2.2.2.2.2.1.1 hm.2.2.2.2.2.2.2.2.2.2.2.2.1.2 hm.2.2.2.2.2.2.2.2.2.2.2.2.1.1 hm.2.2.2.2.2.2.2.2.2.2.2.2.2.1.2 hm.2.2.2.2.2.2.2.2.2.2.2.2.2.1.1 hm.2.2.2.2.2.2.2.2.2.2.2.2.2.2.2 hm.2.2.2.2.2.2.2.2.2.2.2.2.2.2.1 (Own.nil dapi_MsgT Γ 40) hdk0 hp hz107) ?_
         rintro Γ108 U110 v111 hl109 ⟨A112, c113, row114, row116, rfl, rfl, hr115, hr117, _⟩
         change WR _ _ _ (CC F Γ108 [rown, [(g1, .cells #[(pq gn)] 27 (0, 0))], [(g2, .cells #[.int .i64 m.kind, .int .i64 m.from_.site, .int .i64 m.from_.node, .int .i64 m.to_.site, .int .i64 m.to_.node, .int .i64 m.id, .int .i64 m.n, .int .i64 m.for_, .int .i64 m.code, .string m.key, .slice Am10 m.recs.length cm10, .slice Am11 m.vec.length cm11, .slice Am12 m.path.length cm12, .slice Am13 m.hashes.length cm13, .slice Am14 m.route.length cm14] 40 (0, 0))], [(g24, .cells #[.slice A112 z106.1.length c113] 34 (0, 0))], row114, row116]) _ _ (upd _ 42 (.tuple #[]))
         refine WR.nil ?_
         intro w hw
         exact ⟨z106.1, n, z106.2, Γ108, A112, c113, row114, rown, row116, h, (sl_ (by kernel_rfl)), (hw.only (is := [4, 0, 2, 2]) rfl), hl109, hr115, (hn.mono hl109), hr117, trivial⟩
        ·
         have h := bf hb103 h
         cases h
  ·
   rintro σ w ⟨x28, o33, o36, Γ26, A29, c30, row31, row34, row37, h, hsl, hw, hl27, ho32, ho35, ho38, -⟩
   refine Wpt.slots hsl ?_
   refine WC.here (C := CC F Γ26 [row31, row34, [(g24, .cells #[.slice A29 x28.length c30] 34 (0, 0))], row37]) ?_ hw
   clear hw hsl
   refine WC.rs ?_
   refine vb (q_ldl (i := 2) (v := .slice A29 x28.length c30) rfl rfl Tryz.isAgg34 rfl rfl) ?_
   refine as_ (v := .slice A29 x28.length c30) ?_
   refine WR.done ?_
   refine WC.ret ?_
   intro w hw
   obtain rfl := Option.some.inj h
   subst hF
   exact end_e (is := [1, 2, 0]) (by kernel_rfl) hw rfl ⟨row34, row37, A29, c30, row31, rfl, rfl, ho35, ho38, ho32, trivial⟩
abbrev r_node_Node_Hints (gn : Nat) (en : Nat × Nat) (rown : Rowb) (r : List Rec) (U : List Rowb) (Γ : Gh) (v : Value) : Prop := ∃ (A0 : Option Addr), ∃ (c0 : Nat), ∃ (row0 : Rowb), v = .slice A0 r.length c0 ∧ U = [rown, row0] ∧ Own recT Γ 45 row0 A0 c0 r ∧ True
theorem t_node_Node_Hints {Γ : Gh} {w0 : World} {gn : Nat} {en : Nat × Nat} {rown : Rowb} {n : Onode_Node} (hn : Onode_Node.ob en Γ gn rown n) (f_ : Int) (hf_ : I64 f_) (hp : Pre [rown] Γ w0) {r : List Rec} (h : m_node_Node_Hints n f_ = some r) : Calls Tryz.prog 24 #[(pq gn), .int .i64 f_] w0 (Outc Γ [rown] w0 (r_node_Node_Hints gn en rown r)) := by
 refine calls_of (N := 16) (rs := [4]) (args := [(pq gn), .int .i64 f_]) Tryz.func24 rfl Tryz.ntmps24 Tryz.results24 rfl ?_
 obtain ⟨F, hF⟩ : ∃ F : Fm, F = ⟨ids [rown], w0, Γ⟩ := ⟨_, rfl⟩
 refine WC.here (C := CC F Γ [rown]) ?_ (hF ▸ hp.start)
 refine WC.rs ?_
 refine as_ (v := .slice none 0 0) ?_
 refine WR.done ?_
 refine WC.seq ?_
 refine WC.rs ?_
 refine mv (v := (pq gn)) ?_
 refine vb (q_nil (A := some ⟨gn, 0, none⟩) rfl rfl rfl) ?_
 refine vb (q_fl 5 fld_74_4 rfl rfl rfl) ?_
 have hq := hn
 obtain ⟨g4_1, r4_1, m5_1, r5_1, m6_1, r6_1, hrow_1, ho0_1, ho1_1, ho2_1, ho3_1, ho4_1, ho5_1, -⟩ := hq
 intro w hw; have hw := hw.unfold (i := 0) rfl hrow_1
 refine WR.here (C := CC F Γ [[(gn, .cells #[.int .i64 n.life, .pointer (some ⟨en.2, 0, none⟩), .int .i64 n.self_site, .int .i64 n.self_node, (pq g4_1), .map (some m5_1), .map (some m6_1)] en.1 (0, 0))], r4_1, r5_1, r6_1]) ?_ hw
 clear hw
 refine vb (q_ldl (i := 0) (v := .map (some m5_1)) rfl rfl Tryz.isAgg71 rfl rfl) ?_
 refine mv (v := .int .i64 f_) ?_
 obtain hq3 | ⟨o2, hq3⟩ := opt_or (mget f_ n.hints)
 ·
  have h := optm_n hq3 h
  obtain ⟨rM4, hat5, hsub6⟩ := MapJ.no ho4_1 hq3
  refine vb (q_lookup1r (v := .pointer none) (fun w hw p hp => hw.at_ (i := 2) rfl (hsub6 p hp)) hat5 rfl Tryz.underlying71 Tryz.zeroValue68 rfl rfl) ?_
  refine as_ (v := .pointer none) ?_
  refine WR.done ?_
  refine WC.rs ?_
  refine mv (v := .pointer none) ?_
  refine vb (q_ptr_neq (a := none) Tryz.underlying68 rfl rfl rfl) ?_
  refine WR.done ?_
  refine WC.cfk (b := false) (by kernel_rfl) rfl ?_
  refine WC.skip ?_
  change WC _ _ _ _ _ _
  refine WC.rs ?_
  refine as_ (v := .slice none 0 0) ?_
  refine WR.done ?_
  refine WC.ret ?_
  intro w hw
  have hw := hw.fold (is := [0, 0, 0, 0]) rfl hrow_1
  have hw := hw.pad
  obtain rfl := Option.some.inj h
  subst hF
  exact end_e (is := [1, 0]) (by kernel_rfl) hw rfl ⟨none, 0, [], rfl, rfl, (Own.nil recT _ 45), trivial⟩
 ·
  have h := optm_s hq3 h
  obtain ⟨gs8, rM9, rA10, rS11, rB12, hat13, hsub14, hrow15, hm16, hback17⟩ := MapJ.part ho4_1 hq3
  have hm16 : Ostore_Store.ob (107, en.2) Γ gs8 rS11 o2 := hm16
  refine vb (q_lookup1r (v := (pq gs8)) (fun w hw p hp => hw.at_ (i := 2) rfl (by rw [hrow15]; exact List.mem_append.2 (.inl (hsub14 p hp)))) hat13 rfl Tryz.underlying71 Tryz.zeroValue68 rfl rfl) ?_
  intro w hw; have hw := hw.unfold (U := [rA10, rS11, rB12]) (i := 2) rfl (by rw [hrow15]; simp)
  refine WR.here (C := CC F Γ [rA10, rS11, rB12, [(gn, .cells #[.int .i64 n.life, .pointer (some ⟨en.2, 0, none⟩), .int .i64 n.self_site, .int .i64 n.self_node, (pq g4_1), .map (some m5_1), .map (some m6_1)] en.1 (0, 0))], r4_1, r6_1]) ?_ hw
  clear hw
  refine as_ (v := (pq gs8)) ?_
  refine WR.done ?_
  refine WC.rs ?_
  refine mv (v := (pq gs8)) ?_
  refine vb (q_ptr_neq (a := some ⟨gs8, 0, none⟩) Tryz.underlying68 rfl rfl rfl) ?_
  refine WR.done ?_
  refine WC.ctk (b := true) (by kernel_rfl) rfl ?_
  refine WC.rs ?_
  refine mv (v := (pq gs8)) ?_
  obtain ⟨z18, hz19, h⟩ := bnd h
  refine e_call (is := [1]) rfl rfl (call_run Tryz.call42 rfl rfl (by kernel_rfl)) rfl (fun w hp => t_store_Store_Recs hm16 hp hz19) ?_
  rintro Γ20 U22 v23 hl21 ⟨A24, c25, row26, rfl, rfl, hr27, _⟩
  change WR _ _ _ (CC F Γ20 [rS11, row26, rA10, rB12, [(gn, .cells #[.int .i64 n.life, .pointer (some ⟨en.2, 0, none⟩), .int .i64 n.self_site, .int .i64 n.self_node, (pq g4_1), .map (some m5_1), .map (some m6_1)] en.1 (0, 0))], r4_1, r6_1]) _ _ (upd _ 15 (.slice A24 z18.length c25))
  refine as_ (v := .slice A24 z18.length c25) ?_
  refine WR.done ?_
  refine WC.ret ?_
  intro w hw
  have hw := hw.fold (is := [2, 0, 1]) rfl (show r5_1 = ([rA10, rS11, rB12] : List Rowb).flatten from by rw [hrow15]; simp)
  have hw := hw.fold (is := [2, 2, 0, 1]) rfl hrow_1
  obtain rfl := Option.some.inj h
  subst hF
  exact end_e (is := [0, 0]) (by kernel_rfl) hw rfl ⟨A24, c25, row26, rfl, rfl, hr27, trivial⟩
abbrev r_node_Node_Tick (gn : Nat) (en : Nat × Nat) (rown : Rowb) (r : List Dapi_Msg) (U : List Rowb) (Γ : Gh) (v : Value) : Prop := ∃ (A0 : Option Addr), ∃ (c0 : Nat), ∃ (row0 : Rowb), v = .slice A0 r.length c0 ∧ U = [rown, row0] ∧ Own dapi_MsgT Γ 40 row0 A0 c0 r ∧ True
theorem t_node_Node_Tick {Γ : Gh} {w0 : World} {gn : Nat} {en : Nat × Nat} {rown : Rowb} {n : Onode_Node} (hn : Onode_Node.ob en Γ gn rown n) (hp : Pre [rown] Γ w0) {r : List Dapi_Msg} (h : m_node_Node_Tick n = some r) : Calls Tryz.prog 21 #[(pq gn)] w0 (Outc Γ [rown] w0 (r_node_Node_Tick gn en rown r)) := by
 refine calls_of (N := 38) (rs := [2]) (args := [(pq gn)]) Tryz.func21 rfl Tryz.ntmps21 Tryz.results21 rfl ?_
 obtain ⟨F, hF⟩ : ∃ F : Fm, F = ⟨ids [rown], w0, Γ⟩ := ⟨_, rfl⟩
 refine WC.here (C := CC F Γ [rown]) ?_ (hF ▸ hp.start)
 refine WC.rs ?_
 refine as_ (v := .slice none 0 0) ?_
 refine WR.done ?_
 refine WC.rs ?_
 refine as_ (v := .slice none 0 0) ?_
 refine WR.done ?_
 refine WC.seq ?_
 refine WC.rs ?_
 refine as_ (v := .int .i64 1) ?_
 refine WR.done ?_
 refine WC.block ?_
 refine WC.loopN h (fun (s : (List Dapi_Msg) × Int) σ w => match s with | (out_3, f_8) => ∃ (Γ1 : Gh), ∃ (A4 : Option Addr), ∃ (c5 : Nat), ∃ (row6 : Rowb), slots σ [(0, (pq gn)), (3, .slice A4 out_3.length c5), (4, .int .i64 f_8)] ∧ CC F Γ1 [row6, rown] w ∧ Gh.le Γ Γ1 ∧ Own dapi_MsgT Γ1 40 row6 A4 c5 out_3 ∧ I64 f_8 ∧ True) ?_ ?_
 ·
  intro w hw
  have hw := hw.pad
  exact ⟨Γ, none, 0, [], (sl_ (by kernel_rfl)), hw, (Gh.refl _), (Own.nil dapi_MsgT _ 40), (show I64 1 by decide), trivial⟩
 rintro f10 ⟨out_3, f_8⟩ σ w h ⟨Γ1, A4, c5, row6, hsl, hw, hl2, ho7, hr9, -⟩
 refine Wpt.slots hsl ?_
 refine WC.here (C := CC F Γ1 [row6, rown]) ?_ hw
 clear hw hsl
 refine WC.seq ?_
 refine WC.rs ?_
 refine mv (v := .int .i64 f_8) ?_
 refine vb (q_leq rfl rfl rfl) ?_
 refine WR.done ?_
 refine WC.cif h (by kernel_rfl) (fun hb14 h => ?_) (fun hb14 h => ?_)
 ·
  refine WC.skip ?_
  change WC _ _ _ _ _ _
  refine WC.seq ?_
  refine WC.block ?_
  refine WC.rs ?_
  refine mv (v := (pq gn)) ?_
  refine mv (v := .int .i64 f_8) ?_
  obtain ⟨z15, hz16, h⟩ := bnd h
  refine e_call (is := [1]) rfl rfl (call_run Tryz.call24 rfl rfl (by kernel_rfl)) rfl (fun w hp => t_node_Node_Hints (hn.mono hl2) f_8 hr9 hp hz16) ?_
  rintro Γ17 U19 v20 hl18 ⟨A21, c22, row23, rfl, rfl, hr24, _⟩
  change WR _ _ _ (CC F Γ17 [rown, row23, row6]) _ _ (upd _ 13 (.slice A21 z15.length c22))
  refine vb (q_len_slice rfl Tryz.underlying22 rfl) ?_
  refine mv (v := .int .i64 0) ?_
  refine WR.done ?_
  refine WC.block ?_
  refine WC.forI h (fun (i33 : Nat) (out_27 : List Dapi_Msg) σ w => ∃ (Γ25 : Gh), ∃ (A28 : Option Addr), ∃ (c29 : Nat), ∃ (row30 : Rowb), slots σ [(0, (pq gn)), (3, .slice A28 out_27.length c29), (4, .int .i64 f_8), (13, .slice A21 z15.length c22), (14, .int .i64 ((z15.length : Nat) : Int)), (15, .int .i64 ((i33 : Nat) : Int))] ∧ CC F Γ25 [row30, rown, row23] w ∧ Gh.le Γ17 Γ25 ∧ Own dapi_MsgT Γ25 40 row30 A28 c29 out_27 ∧ True) ?_ ?_
  ·
   intro w hw
   exact ⟨Γ17, A4, c5, row6, (sl_ (by kernel_rfl)), (hw.only (is := [2, 0, 0]) rfl), (Gh.refl _), (ho7.mono hl18), trivial⟩
  rintro f32 i33 out_27 σ w hi34 hlt35 hge36 ⟨Γ25, A28, c29, row30, hsl, hw, hl26, ho31, -⟩
  refine Wpt.slots hsl ?_
  refine WC.here (C := CC F Γ25 [row30, rown, row23]) ?_ hw
  clear hw hsl
  refine WC.rs ?_
  refine vb (q_lss rfl rfl rfl) ?_
  refine WR.done ?_
  refine WC.seq ?_
  refine WC.cond (b := (decide (((i33 : Nat) : Int) < ((z15.length : Nat) : Int)))) (by kernel_rfl) (fun hb37 => ?_) (fun hb37 => ?_)
  ·
   have hl38 := ilt hb37
   have h := hlt35 hl38
   refine WC.skip ?_
   change WC _ _ _ _ _ _
   refine WC.seq ?_
   refine WC.block ?_
   refine WC.rs ?_
   refine vb (q_ixn (i := i33) Tryz.underlying22 Tryz.sizeOf45 rfl rfl rfl hl38 ((hr24.mono hl26).some_ hl38)) ?_
   obtain ⟨A39, c40, hx41⟩ := (hr24.mono hl26).recT_at i33
   refine vb (q_ldoa (c := 0) (vs := [.string (gt z15 i33).key, .slice A39 ((gt z15 i33).vers).length c40]) (i := 2) rfl (hx41 hl38).2 rfl Tryz.isAgg45 Tryz.sizeOf45 rfl rfl) ?_
   refine e_alloc Tryz.zeroValue45 rfl rfl rfl rfl ?_
   intro g42
   refine e_st (i := 0) (v := .agg #[.string (gt z15 i33).key, .slice A39 ((gt z15 i33).vers).length c40]) (new := #[.string (gt z15 i33).key, .slice A39 ((gt z15 i33).vers).length c40]) rfl Tryz.sizeOf45 rfl rfl rfl rfl (by kernel_rfl) rfl rfl rfl rfl ?_
   refine WR.done ?_
   intro w hw; have h043 := hw.le
   refine WC.here (C := CC F Γ25 [[(g42, .cells #[.string (gt z15 i33).key, .slice A39 ((gt z15 i33).vers).length c40] 45 (0, 0))], row30, rown, row23]) ?_ hw; clear hw
   refine WC.held (CC F Γ25 [[(g42, .cells #[.string (gt z15 i33).key, .slice A39 ((gt z15 i33).vers).length c40] 45 (0, 0))], row23]) (by kernel_rfl) (fun w hw => hw.drawn _) ?_
   change WH _ _ _ _ (CC F Γ25 [[(g42, .cells #[.string (gt z15 i33).key, .slice A39 ((gt z15 i33).vers).length c40] 45 (0, 0))], row30, rown, row23]) _ 18 #[false, false, false, false, false, false, false, false, false, false, false, false, false, false, false, false, false, false] _
   refine hu 0 rfl (bk_ (Gh.refl _) h043 (.cons_cons _ (.cons _ (.cons _ (.cons_cons _ .slnil))))) (q_move (v := .slice A28 out_27.length c29) rfl (by kernel_rfl)) ?_
   refine hu 1 rfl (bk_ (Gh.refl _) h043 (.cons_cons _ (.cons _ (.cons _ (.cons_cons _ .slnil))))) (q_move (v := (pq gn)) rfl (by kernel_rfl)) ?_
   refine hu 2 rfl (bk_ (Gh.refl _) h043 (.cons_cons _ (.cons _ (.cons _ (.cons_cons _ .slnil))))) (q_nil (A := some ⟨gn, 0, none⟩) rfl rfl rfl) ?_
   refine hu 3 rfl (bk_ (Gh.refl _) h043 (.cons_cons _ (.cons _ (.cons _ (.cons_cons _ .slnil))))) (q_fl 2 fld_74_2 rfl rfl rfl) ?_
   refine hu 5 rfl (bk_ (Gh.refl _) h043 (.cons_cons _ (.cons _ (.cons _ (.cons_cons _ .slnil))))) (q_move (v := (pq gn)) rfl (by kernel_rfl)) ?_
   refine hu 6 rfl (bk_ (Gh.refl _) h043 (.cons_cons _ (.cons _ (.cons _ (.cons_cons _ .slnil))))) (q_nil (A := some ⟨gn, 0, none⟩) rfl rfl rfl) ?_
   refine hu 7 rfl (bk_ (Gh.refl _) h043 (.cons_cons _ (.cons _ (.cons _ (.cons_cons _ .slnil))))) (q_fl 2 fld_74_2 rfl rfl rfl) ?_
   refine hu 8 rfl (bk_ (Gh.refl _) h043 (.cons_cons _ (.cons _ (.cons _ (.cons_cons _ .slnil))))) (q_fl 2 fld_32_0 rfl rfl rfl) ?_
   refine hu 10 rfl (bk_ (Gh.refl _) h043 (.cons_cons _ (.cons _ (.cons _ (.cons_cons _ .slnil))))) (q_move (v := .int .i64 f_8) rfl (by kernel_rfl)) ?_
   refine hu 12 rfl (bk_ (Gh.refl _) h043 (.cons_cons _ (.cons _ (.cons _ (.cons_cons _ .slnil))))) (q_ldla (i := 0) (vs := [.string (gt z15 i33).key, .slice A39 ((gt z15 i33).vers).length c40]) rfl rfl Tryz.isAgg45 Tryz.sizeOf45 rfl rfl) ?_
   refine WH.each (l := [4, 9, 13]) (by kernel_rfl) (by simp) ?_
   intro i hi; simp only [List.mem_cons, List.not_mem_nil, or_false] at hi
   rcases hi with rfl | rfl | rfl
   ·
    refine ⟨_, rfl, ?_⟩
    have hq := (hn.mono ((hl2.trans hl18).trans hl26))
    obtain ⟨g4_44, r4_44, m5_44, r5_44, m6_44, r6_44, hrow_44, ho0_44, ho1_44, ho2_44, ho3_44, ho4_44, ho5_44, -⟩ := hq
    intro w hw; have hw := hw.unfold (i := 2) rfl hrow_44
    refine WR.here (C := CC F Γ25 [[(gn, .cells #[.int .i64 n.life, .pointer (some ⟨en.2, 0, none⟩), .int .i64 n.self_site, .int .i64 n.self_node, (pq g4_44), .map (some m5_44), .map (some m6_44)] en.1 (0, 0))], r4_44, r5_44, r6_44, [(g42, .cells #[.string (gt z15 i33).key, .slice A39 ((gt z15 i33).vers).length c40] 45 (0, 0))], row30, row23]) ?_ hw
    clear hw
    refine vb (q_ldla (i := 0) (vs := [.int .i64 n.self_site, .int .i64 n.self_node]) rfl rfl Tryz.isAgg32 Tryz.sizeOf32 rfl rfl) ?_
    refine WR.nil ?_
    refine WH.next (bk_ (Gh.refl _) h043 (.cons _ (.cons _ (.cons _ (.cons _ (.cons_cons _ (.cons _ (.cons_cons _ .slnil)))))))) ?_
    refine WH.each (l := [9, 13]) (by kernel_rfl) (by simp) ?_
    intro i hi; simp only [List.mem_cons, List.not_mem_nil, or_false] at hi
    rcases hi with rfl | rfl
    ·
     refine ⟨_, rfl, ?_⟩
     refine vb (q_ldl (i := 0) (v := .int .i64 n.self_site) rfl rfl Tryz.isAgg3 rfl rfl) ?_
     refine WR.nil ?_
     refine WH.next (bk_ (Gh.refl _) h043 (.cons _ (.cons _ (.cons _ (.cons _ (.cons_cons _ (.cons _ (.cons_cons _ .slnil)))))))) ?_
     refine hu 11 rfl (bk_ (Gh.refl _) h043 (.cons _ (.cons _ (.cons _ (.cons _ (.cons_cons _ (.cons _ (.cons_cons _ .slnil)))))))) (q_build' (v := .agg #[.int .i64 n.self_site, .int .i64 f_8]) rfl (bargs2 rfl rfl) (fun w => by kernel_rfl)) ?_
     refine WH.lone (i := 13) (by kernel_rfl) rfl ?_
     refine e_buildSlice (cs := #[.string (gt z15 i33).key, .slice A39 ((gt z15 i33).vers).length c40]) (e := 45) rfl rfl rfl rfl (fun w => by kernel_rfl) ?_
     intro g45
     refine WR.nil ?_
     refine WH.next (bk_ (Gh.refl _) h043 (.cons _ (.cons _ (.cons _ (.cons _ (.cons _ (.cons_cons _ (.cons _ (.cons_cons _ .slnil))))))))) ?_
     refine hu 14 rfl (bk_ (Gh.refl _) h043 (.cons _ (.cons _ (.cons _ (.cons _ (.cons _ (.cons_cons _ (.cons _ (.cons_cons _ .slnil))))))))) (q_build' (v := .agg #[.int .i64 1, .int .i64 n.self_site, .int .i64 n.self_node, .int .i64 n.self_site, .int .i64 f_8, .int .i64 0, .int .i64 0, .int .i64 0, .int .i64 0, .string ByteArray.empty, .slice (some ⟨g45, 0, none⟩) 1 1, .slice none 0 0, .slice none 0 0, .slice none 0 0, .slice none 0 0]) rfl (bargs4 rfl rfl rfl rfl) (fun w => by kernel_rfl)) ?_
     refine WH.lone (i := 15) (by kernel_rfl) rfl ?_
     have ho46 : Own recT Γ25 45 [(g45, .cells #[.string (gt z15 i33).key, .slice A39 ((gt z15 i33).vers).length c40] 45 (0, 0))] (some ⟨g45, 0, none⟩) 1 [(gt z15 i33)] := Own.of_blockL (T := recT) (ys := [(gt z15 i33)]) [[.string (gt z15 i33).key, .slice A39 ((gt z15 i33).vers).length c40]] rfl (show 1 ≤ lim by decide) (show Ty.rd recT Γ25 [.string (gt z15 i33).key, .slice A39 ((gt z15 i33).vers).length c40] (gt z15 i33) ∧ True from ⟨⟨A39, c40, rfl, (hx41 hl38).1⟩, trivial⟩)
     have hc51 := ho46.capz
     intro w hw; obtain ⟨Γ47, hw, hl48, hr49⟩ := hw.seal (i := 0) rfl; have hs50 := ho46.sl hl48 hr49
     refine WR.here (C := CC F Γ47 [[], [(gn, .cells #[.int .i64 n.life, .pointer (some ⟨en.2, 0, none⟩), .int .i64 n.self_site, .int .i64 n.self_node, (pq g4_44), .map (some m5_44), .map (some m6_44)] en.1 (0, 0))], r4_44, r5_44, r6_44, [(g42, .cells #[.string (gt z15 i33).key, .slice A39 ((gt z15 i33).vers).length c40] 45 (0, 0))], row30, row23]) ?_ hw
     clear hw
     refine e_buildSlice (cs := #[.int .i64 1, .int .i64 n.self_site, .int .i64 n.self_node, .int .i64 n.self_site, .int .i64 f_8, .int .i64 0, .int .i64 0, .int .i64 0, .int .i64 0, .string ByteArray.empty, .slice (some ⟨g45, 0, none⟩) [(gt z15 i33)].length 1, .slice none 0 0, .slice none 0 0, .slice none 0 0, .slice none 0 0]) (e := 40) rfl rfl rfl rfl (fun w => by kernel_rfl) ?_
     intro g52
     refine WR.nil ?_
     refine WH.next (bk_ hl48 h043 (.cons _ (.cons _ (.cons _ (.cons _ (.cons _ (.cons _ (.cons_cons _ (.cons _ (.cons_cons _ .slnil)))))))))) ?_
     refine WH.lone (i := 16) (by kernel_rfl) rfl ?_
     obtain ⟨hk53, h⟩ := chk_some h
     refine e_append (T := dapi_MsgT) (xs := out_27) (ys := [(⟨1, (⟨n.self_site, n.self_node⟩ : Adr), (⟨n.self_site, f_8⟩ : Adr), 0, 0, 0, 0, ByteArray.empty, [(gt z15 i33)], [], [], [], []⟩ : Dapi_Msg)]) elem_34 (i := 7) rfl rfl rfl rfl rfl rfl rfl (ho31.mono hl48) (of_decide_eq_true hk53) (fun w hw => src_one (T := dapi_MsgT) (y := (⟨1, (⟨n.self_site, n.self_node⟩ : Adr), (⟨n.self_site, f_8⟩ : Adr), 0, 0, 0, 0, ByteArray.empty, [(gt z15 i33)], [], [], [], []⟩ : Dapi_Msg)) (i := 0) rfl (by exact ⟨(some ⟨g45, 0, none⟩), 1, none, 0, none, 0, none, 0, none, 0, rfl, ⟨(show I64 1 by decide), ho1_44, ho2_44, ho1_44, hr9, (show I64 0 by decide), (show I64 0 by decide), (show I64 0 by decide), (show I64 0 by decide), (show (ByteArray.empty : ByteArray).size ≤ lim by decide), ⟨hc51, hs50⟩, ⟨Nat.zero_le _, Sl.nil _ _ _⟩, ⟨Nat.zero_le _, Sl.nil _ _ _⟩, ⟨Nat.zero_le _, Sl.nil _ _ _⟩, ⟨Nat.zero_le _, Sl.nil _ _ _⟩⟩⟩) hw) ?_
     intro row54 A55 c56 ho57
     refine WR.nil ?_
     refine WH.next (bk_ hl48 h043 (.cons _ (.cons _ (.cons _ (.cons _ (.cons _ (.cons _ (.cons_cons _ (.cons _ (.cons_cons _ .slnil)))))))))) ?_
     refine hu 17 rfl (bk_ hl48 h043 (.cons _ (.cons _ (.cons _ (.cons _ (.cons _ (.cons _ (.cons_cons _ (.cons _ (.cons_cons _ .slnil)))))))))) (q_assign (v := .slice A55 (out_27 ++ [(⟨1, (⟨n.self_site, n.self_node⟩ : Adr), (⟨n.self_site, f_8⟩ : Adr), 0, 0, 0, 0, ByteArray.empty, [(gt z15 i33)], [], [], [], []⟩ : Dapi_Msg)]).length c56) rfl (by kernel_rfl)) ?_
     refine WH.done (by kernel_rfl) ?_
     change WC _ _ _ _ _ _
     refine WC.region ?_
     refine vb (q_add_r (r := ((i33 + 1 : Nat) : Int)) rfl rfl rfl (ctr_len hl38 (hr24.mono hl26).le)) ?_
     refine mv (v := .int .i64 ((i33 + 1 : Nat) : Int)) ?_
     refine WR.nil ?_
     intro w hw
     have hw := hw.fold (is := [2, 2, 2, 2]) rfl hrow_44
     exact ⟨hl38, (out_27 ++ [(⟨1, (⟨n.self_site, n.self_node⟩ : Adr), (⟨n.self_site, f_8⟩ : Adr), 0, 0, 0, 0, ByteArray.empty, [(gt z15 i33)], [], [], [], []⟩ : Dapi_Msg)]), h, Γ47, A55, c56, row54, (sl_ (by kernel_rfl)), (hw.only (is := [4, 0, 3]) rfl), (hl26.trans hl48), ho57, trivial⟩
    ·
     refine ⟨_, rfl, ?_⟩
     refine e_buildSlice (cs := #[.string (gt z15 i33).key, .slice A39 ((gt z15 i33).vers).length c40]) (e := 45) rfl rfl rfl rfl (fun w => by kernel_rfl) ?_
     intro g45
     refine WR.nil ?_
     refine WH.next (bk_ (Gh.refl _) h043 (.cons _ (.cons _ (.cons _ (.cons _ (.cons _ (.cons_cons _ (.cons _ (.cons_cons _ .slnil))))))))) ?_
     refine WH.lone (i := 9) (by kernel_rfl) rfl ?_
     refine vb (q_ldl (i := 1) (v := .int .i64 n.self_site) rfl rfl Tryz.isAgg3 rfl rfl) ?_
     refine WR.nil ?_
     refine WH.next (bk_ (Gh.refl _) h043 (.cons _ (.cons _ (.cons _ (.cons _ (.cons _ (.cons_cons _ (.cons _ (.cons_cons _ .slnil))))))))) ?_
     refine hu 11 rfl (bk_ (Gh.refl _) h043 (.cons _ (.cons _ (.cons _ (.cons _ (.cons _ (.cons_cons _ (.cons _ (.cons_cons _ .slnil))))))))) (q_build' (v := .agg #[.int .i64 n.self_site, .int .i64 f_8]) rfl (bargs2 rfl rfl) (fun w => by kernel_rfl)) ?_
     refine hu 14 rfl (bk_ (Gh.refl _) h043 (.cons _ (.cons _ (.cons _ (.cons _ (.cons _ (.cons_cons _ (.cons _ (.cons_cons _ .slnil))))))))) (q_build' (v := .agg #[.int .i64 1, .int .i64 n.self_site, .int .i64 n.self_node, .int .i64 n.self_site, .int .i64 f_8, .int .i64 0, .int .i64 0, .int .i64 0, .int .i64 0, .string ByteArray.empty, .slice (some ⟨g45, 0, none⟩) 1 1, .slice none 0 0, .slice none 0 0, .slice none 0 0, .slice none 0 0]) rfl (bargs4 rfl rfl rfl rfl) (fun w => by kernel_rfl)) ?_
     refine WH.lone (i := 15) (by kernel_rfl) rfl ?_
     have ho46 : Own recT Γ25 45 [(g45, .cells #[.string (gt z15 i33).key, .slice A39 ((gt z15 i33).vers).length c40] 45 (0, 0))] (some ⟨g45, 0, none⟩) 1 [(gt z15 i33)] := Own.of_blockL (T := recT) (ys := [(gt z15 i33)]) [[.string (gt z15 i33).key, .slice A39 ((gt z15 i33).vers).length c40]] rfl (show 1 ≤ lim by decide) (show Ty.rd recT Γ25 [.string (gt z15 i33).key, .slice A39 ((gt z15 i33).vers).length c40] (gt z15 i33) ∧ True from ⟨⟨A39, c40, rfl, (hx41 hl38).1⟩, trivial⟩)
     have hc51 := ho46.capz
     intro w hw; obtain ⟨Γ47, hw, hl48, hr49⟩ := hw.seal (i := 0) rfl; have hs50 := ho46.sl hl48 hr49
     refine WR.here (C := CC F Γ47 [[], [(gn, .cells #[.int .i64 n.life, .pointer (some ⟨en.2, 0, none⟩), .int .i64 n.self_site, .int .i64 n.self_node, (pq g4_44), .map (some m5_44), .map (some m6_44)] en.1 (0, 0))], r4_44, r5_44, r6_44, [(g42, .cells #[.string (gt z15 i33).key, .slice A39 ((gt z15 i33).vers).length c40] 45 (0, 0))], row30, row23]) ?_ hw
     clear hw
     refine e_buildSlice (cs := #[.int .i64 1, .int .i64 n.self_site, .int .i64 n.self_node, .int .i64 n.self_site, .int .i64 f_8, .int .i64 0, .int .i64 0, .int .i64 0, .int .i64 0, .string ByteArray.empty, .slice (some ⟨g45, 0, none⟩) [(gt z15 i33)].length 1, .slice none 0 0, .slice none 0 0, .slice none 0 0, .slice none 0 0]) (e := 40) rfl rfl rfl rfl (fun w => by kernel_rfl) ?_
     intro g52
     refine WR.nil ?_
     refine WH.next (bk_ hl48 h043 (.cons _ (.cons _ (.cons _ (.cons _ (.cons _ (.cons _ (.cons_cons _ (.cons _ (.cons_cons _ .slnil)))))))))) ?_
     refine WH.lone (i := 16) (by kernel_rfl) rfl ?_
     obtain ⟨hk53, h⟩ := chk_some h
     refine e_append (T := dapi_MsgT) (xs := out_27) (ys := [(⟨1, (⟨n.self_site, n.self_node⟩ : Adr), (⟨n.self_site, f_8⟩ : Adr), 0, 0, 0, 0, ByteArray.empty, [(gt z15 i33)], [], [], [], []⟩ : Dapi_Msg)]) elem_34 (i := 7) rfl rfl rfl rfl rfl rfl rfl (ho31.mono hl48) (of_decide_eq_true hk53) (fun w hw => src_one (T := dapi_MsgT) (y := (⟨1, (⟨n.self_site, n.self_node⟩ : Adr), (⟨n.self_site, f_8⟩ : Adr), 0, 0, 0, 0, ByteArray.empty, [(gt z15 i33)], [], [], [], []⟩ : Dapi_Msg)) (i := 0) rfl (by exact ⟨(some ⟨g45, 0, none⟩), 1, none, 0, none, 0, none, 0, none, 0, rfl, ⟨(show I64 1 by decide), ho1_44, ho2_44, ho1_44, hr9, (show I64 0 by decide), (show I64 0 by decide), (show I64 0 by decide), (show I64 0 by decide), (show (ByteArray.empty : ByteArray).size ≤ lim by decide), ⟨hc51, hs50⟩, ⟨Nat.zero_le _, Sl.nil _ _ _⟩, ⟨Nat.zero_le _, Sl.nil _ _ _⟩, ⟨Nat.zero_le _, Sl.nil _ _ _⟩, ⟨Nat.zero_le _, Sl.nil _ _ _⟩⟩⟩) hw) ?_
     intro row54 A55 c56 ho57
     refine WR.nil ?_
     refine WH.next (bk_ hl48 h043 (.cons _ (.cons _ (.cons _ (.cons _ (.cons _ (.cons _ (.cons_cons _ (.cons _ (.cons_cons _ .slnil)))))))))) ?_
     refine hu 17 rfl (bk_ hl48 h043 (.cons _ (.cons _ (.cons _ (.cons _ (.cons _ (.cons _ (.cons_cons _ (.cons _ (.cons_cons _ .slnil)))))))))) (q_assign (v := .slice A55 (out_27 ++ [(⟨1, (⟨n.self_site, n.self_node⟩ : Adr), (⟨n.self_site, f_8⟩ : Adr), 0, 0, 0, 0, ByteArray.empty, [(gt z15 i33)], [], [], [], []⟩ : Dapi_Msg)]).length c56) rfl (by kernel_rfl)) ?_
     refine WH.done (by kernel_rfl) ?_
     change WC _ _ _ _ _ _
     refine WC.region ?_
     refine vb (q_add_r (r := ((i33 + 1 : Nat) : Int)) rfl rfl rfl (ctr_len hl38 (hr24.mono hl26).le)) ?_
     refine mv (v := .int .i64 ((i33 + 1 : Nat) : Int)) ?_
     refine WR.nil ?_
     intro w hw
     have hw := hw.fold (is := [2, 2, 2, 2]) rfl hrow_44
     exact ⟨hl38, (out_27 ++ [(⟨1, (⟨n.self_site, n.self_node⟩ : Adr), (⟨n.self_site, f_8⟩ : Adr), 0, 0, 0, 0, ByteArray.empty, [(gt z15 i33)], [], [], [], []⟩ : Dapi_Msg)]), h, Γ47, A55, c56, row54, (sl_ (by kernel_rfl)), (hw.only (is := [4, 0, 3]) rfl), (hl26.trans hl48), ho57, trivial⟩
   ·
    refine ⟨_, rfl, ?_⟩
    have hq := (hn.mono ((hl2.trans hl18).trans hl26))
    obtain ⟨g4_44, r4_44, m5_44, r5_44, m6_44, r6_44, hrow_44, ho0_44, ho1_44, ho2_44, ho3_44, ho4_44, ho5_44, -⟩ := hq
    intro w hw; have hw := hw.unfold (i := 2) rfl hrow_44
    refine WR.here (C := CC F Γ25 [[(gn, .cells #[.int .i64 n.life, .pointer (some ⟨en.2, 0, none⟩), .int .i64 n.self_site, .int .i64 n.self_node, (pq g4_44), .map (some m5_44), .map (some m6_44)] en.1 (0, 0))], r4_44, r5_44, r6_44, [(g42, .cells #[.string (gt z15 i33).key, .slice A39 ((gt z15 i33).vers).length c40] 45 (0, 0))], row30, row23]) ?_ hw
    clear hw
    refine vb (q_ldl (i := 0) (v := .int .i64 n.self_site) rfl rfl Tryz.isAgg3 rfl rfl) ?_
    refine WR.nil ?_
    refine WH.next (bk_ (Gh.refl _) h043 (.cons _ (.cons _ (.cons _ (.cons _ (.cons_cons _ (.cons _ (.cons_cons _ .slnil)))))))) ?_
    refine hu 11 rfl (bk_ (Gh.refl _) h043 (.cons _ (.cons _ (.cons _ (.cons _ (.cons_cons _ (.cons _ (.cons_cons _ .slnil)))))))) (q_build' (v := .agg #[.int .i64 n.self_site, .int .i64 f_8]) rfl (bargs2 rfl rfl) (fun w => by kernel_rfl)) ?_
    refine WH.each (l := [4, 13]) (by kernel_rfl) (by simp) ?_
    intro i hi; simp only [List.mem_cons, List.not_mem_nil, or_false] at hi
    rcases hi with rfl | rfl
    ·
     refine ⟨_, rfl, ?_⟩
     refine vb (q_ldla (i := 0) (vs := [.int .i64 n.self_site, .int .i64 n.self_node]) rfl rfl Tryz.isAgg32 Tryz.sizeOf32 rfl rfl) ?_
     refine WR.nil ?_
     refine WH.next (bk_ (Gh.refl _) h043 (.cons _ (.cons _ (.cons _ (.cons _ (.cons_cons _ (.cons _ (.cons_cons _ .slnil)))))))) ?_
     refine WH.lone (i := 13) (by kernel_rfl) rfl ?_
     refine e_buildSlice (cs := #[.string (gt z15 i33).key, .slice A39 ((gt z15 i33).vers).length c40]) (e := 45) rfl rfl rfl rfl (fun w => by kernel_rfl) ?_
     intro g45
     refine WR.nil ?_
     refine WH.next (bk_ (Gh.refl _) h043 (.cons _ (.cons _ (.cons _ (.cons _ (.cons _ (.cons_cons _ (.cons _ (.cons_cons _ .slnil))))))))) ?_
     refine hu 14 rfl (bk_ (Gh.refl _) h043 (.cons _ (.cons _ (.cons _ (.cons _ (.cons _ (.cons_cons _ (.cons _ (.cons_cons _ .slnil))))))))) (q_build' (v := .agg #[.int .i64 1, .int .i64 n.self_site, .int .i64 n.self_node, .int .i64 n.self_site, .int .i64 f_8, .int .i64 0, .int .i64 0, .int .i64 0, .int .i64 0, .string ByteArray.empty, .slice (some ⟨g45, 0, none⟩) 1 1, .slice none 0 0, .slice none 0 0, .slice none 0 0, .slice none 0 0]) rfl (bargs4 rfl rfl rfl rfl) (fun w => by kernel_rfl)) ?_
     refine WH.lone (i := 15) (by kernel_rfl) rfl ?_
     have ho46 : Own recT Γ25 45 [(g45, .cells #[.string (gt z15 i33).key, .slice A39 ((gt z15 i33).vers).length c40] 45 (0, 0))] (some ⟨g45, 0, none⟩) 1 [(gt z15 i33)] := Own.of_blockL (T := recT) (ys := [(gt z15 i33)]) [[.string (gt z15 i33).key, .slice A39 ((gt z15 i33).vers).length c40]] rfl (show 1 ≤ lim by decide) (show Ty.rd recT Γ25 [.string (gt z15 i33).key, .slice A39 ((gt z15 i33).vers).length c40] (gt z15 i33) ∧ True from ⟨⟨A39, c40, rfl, (hx41 hl38).1⟩, trivial⟩)
     have hc51 := ho46.capz
     intro w hw; obtain ⟨Γ47, hw, hl48, hr49⟩ := hw.seal (i := 0) rfl; have hs50 := ho46.sl hl48 hr49
     refine WR.here (C := CC F Γ47 [[], [(gn, .cells #[.int .i64 n.life, .pointer (some ⟨en.2, 0, none⟩), .int .i64 n.self_site, .int .i64 n.self_node, (pq g4_44), .map (some m5_44), .map (some m6_44)] en.1 (0, 0))], r4_44, r5_44, r6_44, [(g42, .cells #[.string (gt z15 i33).key, .slice A39 ((gt z15 i33).vers).length c40] 45 (0, 0))], row30, row23]) ?_ hw
     clear hw
     refine e_buildSlice (cs := #[.int .i64 1, .int .i64 n.self_site, .int .i64 n.self_node, .int .i64 n.self_site, .int .i64 f_8, .int .i64 0, .int .i64 0, .int .i64 0, .int .i64 0, .string ByteArray.empty, .slice (some ⟨g45, 0, none⟩) [(gt z15 i33)].length 1, .slice none 0 0, .slice none 0 0, .slice none 0 0, .slice none 0 0]) (e := 40) rfl rfl rfl rfl (fun w => by kernel_rfl) ?_
     intro g52
     refine WR.nil ?_
     refine WH.next (bk_ hl48 h043 (.cons _ (.cons _ (.cons _ (.cons _ (.cons _ (.cons _ (.cons_cons _ (.cons _ (.cons_cons _ .slnil)))))))))) ?_
     refine WH.lone (i := 16) (by kernel_rfl) rfl ?_
     obtain ⟨hk53, h⟩ := chk_some h
     refine e_append (T := dapi_MsgT) (xs := out_27) (ys := [(⟨1, (⟨n.self_site, n.self_node⟩ : Adr), (⟨n.self_site, f_8⟩ : Adr), 0, 0, 0, 0, ByteArray.empty, [(gt z15 i33)], [], [], [], []⟩ : Dapi_Msg)]) elem_34 (i := 7) rfl rfl rfl rfl rfl rfl rfl (ho31.mono hl48) (of_decide_eq_true hk53) (fun w hw => src_one (T := dapi_MsgT) (y := (⟨1, (⟨n.self_site, n.self_node⟩ : Adr), (⟨n.self_site, f_8⟩ : Adr), 0, 0, 0, 0, ByteArray.empty, [(gt z15 i33)], [], [], [], []⟩ : Dapi_Msg)) (i := 0) rfl (by exact ⟨(some ⟨g45, 0, none⟩), 1, none, 0, none, 0, none, 0, none, 0, rfl, ⟨(show I64 1 by decide), ho1_44, ho2_44, ho1_44, hr9, (show I64 0 by decide), (show I64 0 by decide), (show I64 0 by decide), (show I64 0 by decide), (show (ByteArray.empty : ByteArray).size ≤ lim by decide), ⟨hc51, hs50⟩, ⟨Nat.zero_le _, Sl.nil _ _ _⟩, ⟨Nat.zero_le _, Sl.nil _ _ _⟩, ⟨Nat.zero_le _, Sl.nil _ _ _⟩, ⟨Nat.zero_le _, Sl.nil _ _ _⟩⟩⟩) hw) ?_
     intro row54 A55 c56 ho57
     refine WR.nil ?_
     refine WH.next (bk_ hl48 h043 (.cons _ (.cons _ (.cons _ (.cons _ (.cons _ (.cons _ (.cons_cons _ (.cons _ (.cons_cons _ .slnil)))))))))) ?_
     refine hu 17 rfl (bk_ hl48 h043 (.cons _ (.cons _ (.cons _ (.cons _ (.cons _ (.cons _ (.cons_cons _ (.cons _ (.cons_cons _ .slnil)))))))))) (q_assign (v := .slice A55 (out_27 ++ [(⟨1, (⟨n.self_site, n.self_node⟩ : Adr), (⟨n.self_site, f_8⟩ : Adr), 0, 0, 0, 0, ByteArray.empty, [(gt z15 i33)], [], [], [], []⟩ : Dapi_Msg)]).length c56) rfl (by kernel_rfl)) ?_
     refine WH.done (by kernel_rfl) ?_
     change WC _ _ _ _ _ _
     refine WC.region ?_
     refine vb (q_add_r (r := ((i33 + 1 : Nat) : Int)) rfl rfl rfl (ctr_len hl38 (hr24.mono hl26).le)) ?_
     refine mv (v := .int .i64 ((i33 + 1 : Nat) : Int)) ?_
     refine WR.nil ?_
     intro w hw
     have hw := hw.fold (is := [2, 2, 2, 2]) rfl hrow_44
     exact ⟨hl38, (out_27 ++ [(⟨1, (⟨n.self_site, n.self_node⟩ : Adr), (⟨n.self_site, f_8⟩ : Adr), 0, 0, 0, 0, ByteArray.empty, [(gt z15 i33)], [], [], [], []⟩ : Dapi_Msg)]), h, Γ47, A55, c56, row54, (sl_ (by kernel_rfl)), (hw.only (is := [4, 0, 3]) rfl), (hl26.trans hl48), ho57, trivial⟩
    ·
     refine ⟨_, rfl, ?_⟩
     refine e_buildSlice (cs := #[.string (gt z15 i33).key, .slice A39 ((gt z15 i33).vers).length c40]) (e := 45) rfl rfl rfl rfl (fun w => by kernel_rfl) ?_
     intro g45
     refine WR.nil ?_
     refine WH.next (bk_ (Gh.refl _) h043 (.cons _ (.cons _ (.cons _ (.cons _ (.cons _ (.cons_cons _ (.cons _ (.cons_cons _ .slnil))))))))) ?_
     refine WH.lone (i := 4) (by kernel_rfl) rfl ?_
     refine vb (q_ldla (i := 1) (vs := [.int .i64 n.self_site, .int .i64 n.self_node]) rfl rfl Tryz.isAgg32 Tryz.sizeOf32 rfl rfl) ?_
     refine WR.nil ?_
     refine WH.next (bk_ (Gh.refl _) h043 (.cons _ (.cons _ (.cons _ (.cons _ (.cons _ (.cons_cons _ (.cons _ (.cons_cons _ .slnil))))))))) ?_
     refine hu 14 rfl (bk_ (Gh.refl _) h043 (.cons _ (.cons _ (.cons _ (.cons _ (.cons _ (.cons_cons _ (.cons _ (.cons_cons _ .slnil))))))))) (q_build' (v := .agg #[.int .i64 1, .int .i64 n.self_site, .int .i64 n.self_node, .int .i64 n.self_site, .int .i64 f_8, .int .i64 0, .int .i64 0, .int .i64 0, .int .i64 0, .string ByteArray.empty, .slice (some ⟨g45, 0, none⟩) 1 1, .slice none 0 0, .slice none 0 0, .slice none 0 0, .slice none 0 0]) rfl (bargs4 rfl rfl rfl rfl) (fun w => by kernel_rfl)) ?_
     refine WH.lone (i := 15) (by kernel_rfl) rfl ?_
     have ho46 : Own recT Γ25 45 [(g45, .cells #[.string (gt z15 i33).key, .slice A39 ((gt z15 i33).vers).length c40] 45 (0, 0))] (some ⟨g45, 0, none⟩) 1 [(gt z15 i33)] := Own.of_blockL (T := recT) (ys := [(gt z15 i33)]) [[.string (gt z15 i33).key, .slice A39 ((gt z15 i33).vers).length c40]] rfl (show 1 ≤ lim by decide) (show Ty.rd recT Γ25 [.string (gt z15 i33).key, .slice A39 ((gt z15 i33).vers).length c40] (gt z15 i33) ∧ True from ⟨⟨A39, c40, rfl, (hx41 hl38).1⟩, trivial⟩)
     have hc51 := ho46.capz
     intro w hw; obtain ⟨Γ47, hw, hl48, hr49⟩ := hw.seal (i := 0) rfl; have hs50 := ho46.sl hl48 hr49
     refine WR.here (C := CC F Γ47 [[], [(gn, .cells #[.int .i64 n.life, .pointer (some ⟨en.2, 0, none⟩), .int .i64 n.self_site, .int .i64 n.self_node, (pq g4_44), .map (some m5_44), .map (some m6_44)] en.1 (0, 0))], r4_44, r5_44, r6_44, [(g42, .cells #[.string (gt z15 i33).key, .slice A39 ((gt z15 i33).vers).length c40] 45 (0, 0))], row30, row23]) ?_ hw
     clear hw
     refine e_buildSlice (cs := #[.int .i64 1, .int .i64 n.self_site, .int .i64 n.self_node, .int .i64 n.self_site, .int .i64 f_8, .int .i64 0, .int .i64 0, .int .i64 0, .int .i64 0, .string ByteArray.empty, .slice (some ⟨g45, 0, none⟩) [(gt z15 i33)].length 1, .slice none 0 0, .slice none 0 0, .slice none 0 0, .slice none 0 0]) (e := 40) rfl rfl rfl rfl (fun w => by kernel_rfl) ?_
     intro g52
     refine WR.nil ?_
     refine WH.next (bk_ hl48 h043 (.cons _ (.cons _ (.cons _ (.cons _ (.cons _ (.cons _ (.cons_cons _ (.cons _ (.cons_cons _ .slnil)))))))))) ?_
     refine WH.lone (i := 16) (by kernel_rfl) rfl ?_
     obtain ⟨hk53, h⟩ := chk_some h
     refine e_append (T := dapi_MsgT) (xs := out_27) (ys := [(⟨1, (⟨n.self_site, n.self_node⟩ : Adr), (⟨n.self_site, f_8⟩ : Adr), 0, 0, 0, 0, ByteArray.empty, [(gt z15 i33)], [], [], [], []⟩ : Dapi_Msg)]) elem_34 (i := 7) rfl rfl rfl rfl rfl rfl rfl (ho31.mono hl48) (of_decide_eq_true hk53) (fun w hw => src_one (T := dapi_MsgT) (y := (⟨1, (⟨n.self_site, n.self_node⟩ : Adr), (⟨n.self_site, f_8⟩ : Adr), 0, 0, 0, 0, ByteArray.empty, [(gt z15 i33)], [], [], [], []⟩ : Dapi_Msg)) (i := 0) rfl (by exact ⟨(some ⟨g45, 0, none⟩), 1, none, 0, none, 0, none, 0, none, 0, rfl, ⟨(show I64 1 by decide), ho1_44, ho2_44, ho1_44, hr9, (show I64 0 by decide), (show I64 0 by decide), (show I64 0 by decide), (show I64 0 by decide), (show (ByteArray.empty : ByteArray).size ≤ lim by decide), ⟨hc51, hs50⟩, ⟨Nat.zero_le _, Sl.nil _ _ _⟩, ⟨Nat.zero_le _, Sl.nil _ _ _⟩, ⟨Nat.zero_le _, Sl.nil _ _ _⟩, ⟨Nat.zero_le _, Sl.nil _ _ _⟩⟩⟩) hw) ?_
     intro row54 A55 c56 ho57
     refine WR.nil ?_
     refine WH.next (bk_ hl48 h043 (.cons _ (.cons _ (.cons _ (.cons _ (.cons _ (.cons _ (.cons_cons _ (.cons _ (.cons_cons _ .slnil)))))))))) ?_
     refine hu 17 rfl (bk_ hl48 h043 (.cons _ (.cons _ (.cons _ (.cons _ (.cons _ (.cons _ (.cons_cons _ (.cons _ (.cons_cons _ .slnil)))))))))) (q_assign (v := .slice A55 (out_27 ++ [(⟨1, (⟨n.self_site, n.self_node⟩ : Adr), (⟨n.self_site, f_8⟩ : Adr), 0, 0, 0, 0, ByteArray.empty, [(gt z15 i33)], [], [], [], []⟩ : Dapi_Msg)]).length c56) rfl (by kernel_rfl)) ?_
     refine WH.done (by kernel_rfl) ?_
     change WC _ _ _ _ _ _
     refine WC.region ?_
     refine vb (q_add_r (r := ((i33 + 1 : Nat) : Int)) rfl rfl rfl (ctr_len hl38 (hr24.mono hl26).le)) ?_
     refine mv (v := .int .i64 ((i33 + 1 : Nat) : Int)) ?_
     refine WR.nil ?_
     intro w hw
     have hw := hw.fold (is := [2, 2, 2, 2]) rfl hrow_44
     exact ⟨hl38, (out_27 ++ [(⟨1, (⟨n.self_site, n.self_node⟩ : Adr), (⟨n.self_site, f_8⟩ : Adr), 0, 0, 0, 0, ByteArray.empty, [(gt z15 i33)], [], [], [], []⟩ : Dapi_Msg)]), h, Γ47, A55, c56, row54, (sl_ (by kernel_rfl)), (hw.only (is := [4, 0, 3]) rfl), (hl26.trans hl48), ho57, trivial⟩
   ·
    refine ⟨_, rfl, ?_⟩
    refine e_buildSlice (cs := #[.string (gt z15 i33).key, .slice A39 ((gt z15 i33).vers).length c40]) (e := 45) rfl rfl rfl rfl (fun w => by kernel_rfl) ?_
    intro g44
    refine WR.nil ?_
    refine WH.next (bk_ (Gh.refl _) h043 (.cons _ (.cons_cons _ (.cons _ (.cons _ (.cons_cons _ .slnil)))))) ?_
    refine WH.each (l := [4, 9]) (by kernel_rfl) (by simp) ?_
    intro i hi; simp only [List.mem_cons, List.not_mem_nil, or_false] at hi
    rcases hi with rfl | rfl
    ·
     refine ⟨_, rfl, ?_⟩
     have hq := (hn.mono ((hl2.trans hl18).trans hl26))
     obtain ⟨g4_45, r4_45, m5_45, r5_45, m6_45, r6_45, hrow_45, ho0_45, ho1_45, ho2_45, ho3_45, ho4_45, ho5_45, -⟩ := hq
     intro w hw; have hw := hw.unfold (i := 3) rfl hrow_45
     refine WR.here (C := CC F Γ25 [[(gn, .cells #[.int .i64 n.life, .pointer (some ⟨en.2, 0, none⟩), .int .i64 n.self_site, .int .i64 n.self_node, (pq g4_45), .map (some m5_45), .map (some m6_45)] en.1 (0, 0))], r4_45, r5_45, r6_45, [(g44, .cells #[.string (gt z15 i33).key, .slice A39 ((gt z15 i33).vers).length c40] 45 (0, 0))], [(g42, .cells #[.string (gt z15 i33).key, .slice A39 ((gt z15 i33).vers).length c40] 45 (0, 0))], row30, row23]) ?_ hw
     clear hw
     refine vb (q_ldla (i := 0) (vs := [.int .i64 n.self_site, .int .i64 n.self_node]) rfl rfl Tryz.isAgg32 Tryz.sizeOf32 rfl rfl) ?_
     refine WR.nil ?_
     refine WH.next (bk_ (Gh.refl _) h043 (.cons _ (.cons _ (.cons _ (.cons _ (.cons _ (.cons_cons _ (.cons _ (.cons_cons _ .slnil))))))))) ?_
     refine WH.lone (i := 9) (by kernel_rfl) rfl ?_
     refine vb (q_ldl (i := 0) (v := .int .i64 n.self_site) rfl rfl Tryz.isAgg3 rfl rfl) ?_
     refine WR.nil ?_
     refine WH.next (bk_ (Gh.refl _) h043 (.cons _ (.cons _ (.cons _ (.cons _ (.cons _ (.cons_cons _ (.cons _ (.cons_cons _ .slnil))))))))) ?_
     refine hu 11 rfl (bk_ (Gh.refl _) h043 (.cons _ (.cons _ (.cons _ (.cons _ (.cons _ (.cons_cons _ (.cons _ (.cons_cons _ .slnil))))))))) (q_build' (v := .agg #[.int .i64 n.self_site, .int .i64 f_8]) rfl (bargs2 rfl rfl) (fun w => by kernel_rfl)) ?_
     refine hu 14 rfl (bk_ (Gh.refl _) h043 (.cons _ (.cons _ (.cons _ (.cons _ (.cons _ (.cons_cons _ (.cons _ (.cons_cons _ .slnil))))))))) (q_build' (v := .agg #[.int .i64 1, .int .i64 n.self_site, .int .i64 n.self_node, .int .i64 n.self_site, .int .i64 f_8, .int .i64 0, .int .i64 0, .int .i64 0, .int .i64 0, .string ByteArray.empty, .slice (some ⟨g44, 0, none⟩) 1 1, .slice none 0 0, .slice none 0 0, .slice none 0 0, .slice none 0 0]) rfl (bargs4 rfl rfl rfl rfl) (fun w => by kernel_rfl)) ?_
     refine WH.lone (i := 15) (by kernel_rfl) rfl ?_
     have ho46 : Own recT Γ25 45 [(g44, .cells #[.string (gt z15 i33).key, .slice A39 ((gt z15 i33).vers).length c40] 45 (0, 0))] (some ⟨g44, 0, none⟩) 1 [(gt z15 i33)] := Own.of_blockL (T := recT) (ys := [(gt z15 i33)]) [[.string (gt z15 i33).key, .slice A39 ((gt z15 i33).vers).length c40]] rfl (show 1 ≤ lim by decide) (show Ty.rd recT Γ25 [.string (gt z15 i33).key, .slice A39 ((gt z15 i33).vers).length c40] (gt z15 i33) ∧ True from ⟨⟨A39, c40, rfl, (hx41 hl38).1⟩, trivial⟩)
     have hc51 := ho46.capz
     intro w hw; obtain ⟨Γ47, hw, hl48, hr49⟩ := hw.seal (i := 4) rfl; have hs50 := ho46.sl hl48 hr49
     refine WR.here (C := CC F Γ47 [[(gn, .cells #[.int .i64 n.life, .pointer (some ⟨en.2, 0, none⟩), .int .i64 n.self_site, .int .i64 n.self_node, (pq g4_45), .map (some m5_45), .map (some m6_45)] en.1 (0, 0))], r4_45, r5_45, r6_45, [], [(g42, .cells #[.string (gt z15 i33).key, .slice A39 ((gt z15 i33).vers).length c40] 45 (0, 0))], row30, row23]) ?_ hw
     clear hw
     refine e_buildSlice (cs := #[.int .i64 1, .int .i64 n.self_site, .int .i64 n.self_node, .int .i64 n.self_site, .int .i64 f_8, .int .i64 0, .int .i64 0, .int .i64 0, .int .i64 0, .string ByteArray.empty, .slice (some ⟨g44, 0, none⟩) [(gt z15 i33)].length 1, .slice none 0 0, .slice none 0 0, .slice none 0 0, .slice none 0 0]) (e := 40) rfl rfl rfl rfl (fun w => by kernel_rfl) ?_
     intro g52
     refine WR.nil ?_
     refine WH.next (bk_ hl48 h043 (.cons _ (.cons _ (.cons _ (.cons _ (.cons _ (.cons _ (.cons_cons _ (.cons _ (.cons_cons _ .slnil)))))))))) ?_
     refine WH.lone (i := 16) (by kernel_rfl) rfl ?_
     obtain ⟨hk53, h⟩ := chk_some h
     refine e_append (T := dapi_MsgT) (xs := out_27) (ys := [(⟨1, (⟨n.self_site, n.self_node⟩ : Adr), (⟨n.self_site, f_8⟩ : Adr), 0, 0, 0, 0, ByteArray.empty, [(gt z15 i33)], [], [], [], []⟩ : Dapi_Msg)]) elem_34 (i := 7) rfl rfl rfl rfl rfl rfl rfl (ho31.mono hl48) (of_decide_eq_true hk53) (fun w hw => src_one (T := dapi_MsgT) (y := (⟨1, (⟨n.self_site, n.self_node⟩ : Adr), (⟨n.self_site, f_8⟩ : Adr), 0, 0, 0, 0, ByteArray.empty, [(gt z15 i33)], [], [], [], []⟩ : Dapi_Msg)) (i := 0) rfl (by exact ⟨(some ⟨g44, 0, none⟩), 1, none, 0, none, 0, none, 0, none, 0, rfl, ⟨(show I64 1 by decide), ho1_45, ho2_45, ho1_45, hr9, (show I64 0 by decide), (show I64 0 by decide), (show I64 0 by decide), (show I64 0 by decide), (show (ByteArray.empty : ByteArray).size ≤ lim by decide), ⟨hc51, hs50⟩, ⟨Nat.zero_le _, Sl.nil _ _ _⟩, ⟨Nat.zero_le _, Sl.nil _ _ _⟩, ⟨Nat.zero_le _, Sl.nil _ _ _⟩, ⟨Nat.zero_le _, Sl.nil _ _ _⟩⟩⟩) hw) ?_
     intro row54 A55 c56 ho57
     refine WR.nil ?_
     refine WH.next (bk_ hl48 h043 (.cons _ (.cons _ (.cons _ (.cons _ (.cons _ (.cons _ (.cons_cons _ (.cons _ (.cons_cons _ .slnil)))))))))) ?_
     refine hu 17 rfl (bk_ hl48 h043 (.cons _ (.cons _ (.cons _ (.cons _ (.cons _ (.cons _ (.cons_cons _ (.cons _ (.cons_cons _ .slnil)))))))))) (q_assign (v := .slice A55 (out_27 ++ [(⟨1, (⟨n.self_site, n.self_node⟩ : Adr), (⟨n.self_site, f_8⟩ : Adr), 0, 0, 0, 0, ByteArray.empty, [(gt z15 i33)], [], [], [], []⟩ : Dapi_Msg)]).length c56) rfl (by kernel_rfl)) ?_
     refine WH.done (by kernel_rfl) ?_
     change WC _ _ _ _ _ _
     refine WC.region ?_
     refine vb (q_add_r (r := ((i33 + 1 : Nat) : Int)) rfl rfl rfl (ctr_len hl38 (hr24.mono hl26).le)) ?_
     refine mv (v := .int .i64 ((i33 + 1 : Nat) : Int)) ?_
     refine WR.nil ?_
     intro w hw
     have hw := hw.fold (is := [1, 1, 1, 1]) rfl hrow_45
     exact ⟨hl38, (out_27 ++ [(⟨1, (⟨n.self_site, n.self_node⟩ : Adr), (⟨n.self_site, f_8⟩ : Adr), 0, 0, 0, 0, ByteArray.empty, [(gt z15 i33)], [], [], [], []⟩ : Dapi_Msg)]), h, Γ47, A55, c56, row54, (sl_ (by kernel_rfl)), (hw.only (is := [4, 0, 3]) rfl), (hl26.trans hl48), ho57, trivial⟩
    ·
     refine ⟨_, rfl, ?_⟩
     have hq := (hn.mono ((hl2.trans hl18).trans hl26))
     obtain ⟨g4_45, r4_45, m5_45, r5_45, m6_45, r6_45, hrow_45, ho0_45, ho1_45, ho2_45, ho3_45, ho4_45, ho5_45, -⟩ := hq
     intro w hw; have hw := hw.unfold (i := 3) rfl hrow_45
     refine WR.here (C := CC F Γ25 [[(gn, .cells #[.int .i64 n.life, .pointer (some ⟨en.2, 0, none⟩), .int .i64 n.self_site, .int .i64 n.self_node, (pq g4_45), .map (some m5_45), .map (some m6_45)] en.1 (0, 0))], r4_45, r5_45, r6_45, [(g44, .cells #[.string (gt z15 i33).key, .slice A39 ((gt z15 i33).vers).length c40] 45 (0, 0))], [(g42, .cells #[.string (gt z15 i33).key, .slice A39 ((gt z15 i33).vers).length c40] 45 (0, 0))], row30, row23]) ?_ hw
     clear hw
     refine vb (q_ldl (i := 0) (v := .int .i64 n.self_site) rfl rfl Tryz.isAgg3 rfl rfl) ?_
     refine WR.nil ?_
     refine WH.next (bk_ (Gh.refl _) h043 (.cons _ (.cons _ (.cons _ (.cons _ (.cons _ (.cons_cons _ (.cons _ (.cons_cons _ .slnil))))))))) ?_
     refine hu 11 rfl (bk_ (Gh.refl _) h043 (.cons _ (.cons _ (.cons _ (.cons _ (.cons _ (.cons_cons _ (.cons _ (.cons_cons _ .slnil))))))))) (q_build' (v := .agg #[.int .i64 n.self_site, .int .i64 f_8]) rfl (bargs2 rfl rfl) (fun w => by kernel_rfl)) ?_
     refine WH.lone (i := 4) (by kernel_rfl) rfl ?_
     refine vb (q_ldla (i := 0) (vs := [.int .i64 n.self_site, .int .i64 n.self_node]) rfl rfl Tryz.isAgg32 Tryz.sizeOf32 rfl rfl) ?_
     refine WR.nil ?_
     refine WH.next (bk_ (Gh.refl _) h043 (.cons _ (.cons _ (.cons _ (.cons _ (.cons _ (.cons_cons _ (.cons _ (.cons_cons _ .slnil))))))))) ?_
     refine hu 14 rfl (bk_ (Gh.refl _) h043 (.cons _ (.cons _ (.cons _ (.cons _ (.cons _ (.cons_cons _ (.cons _ (.cons_cons _ .slnil))))))))) (q_build' (v := .agg #[.int .i64 1, .int .i64 n.self_site, .int .i64 n.self_node, .int .i64 n.self_site, .int .i64 f_8, .int .i64 0, .int .i64 0, .int .i64 0, .int .i64 0, .string ByteArray.empty, .slice (some ⟨g44, 0, none⟩) 1 1, .slice none 0 0, .slice none 0 0, .slice none 0 0, .slice none 0 0]) rfl (bargs4 rfl rfl rfl rfl) (fun w => by kernel_rfl)) ?_
     refine WH.lone (i := 15) (by kernel_rfl) rfl ?_
     have ho46 : Own recT Γ25 45 [(g44, .cells #[.string (gt z15 i33).key, .slice A39 ((gt z15 i33).vers).length c40] 45 (0, 0))] (some ⟨g44, 0, none⟩) 1 [(gt z15 i33)] := Own.of_blockL (T := recT) (ys := [(gt z15 i33)]) [[.string (gt z15 i33).key, .slice A39 ((gt z15 i33).vers).length c40]] rfl (show 1 ≤ lim by decide) (show Ty.rd recT Γ25 [.string (gt z15 i33).key, .slice A39 ((gt z15 i33).vers).length c40] (gt z15 i33) ∧ True from ⟨⟨A39, c40, rfl, (hx41 hl38).1⟩, trivial⟩)
     have hc51 := ho46.capz
     intro w hw; obtain ⟨Γ47, hw, hl48, hr49⟩ := hw.seal (i := 4) rfl; have hs50 := ho46.sl hl48 hr49
     refine WR.here (C := CC F Γ47 [[(gn, .cells #[.int .i64 n.life, .pointer (some ⟨en.2, 0, none⟩), .int .i64 n.self_site, .int .i64 n.self_node, (pq g4_45), .map (some m5_45), .map (some m6_45)] en.1 (0, 0))], r4_45, r5_45, r6_45, [], [(g42, .cells #[.string (gt z15 i33).key, .slice A39 ((gt z15 i33).vers).length c40] 45 (0, 0))], row30, row23]) ?_ hw
     clear hw
     refine e_buildSlice (cs := #[.int .i64 1, .int .i64 n.self_site, .int .i64 n.self_node, .int .i64 n.self_site, .int .i64 f_8, .int .i64 0, .int .i64 0, .int .i64 0, .int .i64 0, .string ByteArray.empty, .slice (some ⟨g44, 0, none⟩) [(gt z15 i33)].length 1, .slice none 0 0, .slice none 0 0, .slice none 0 0, .slice none 0 0]) (e := 40) rfl rfl rfl rfl (fun w => by kernel_rfl) ?_
     intro g52
     refine WR.nil ?_
     refine WH.next (bk_ hl48 h043 (.cons _ (.cons _ (.cons _ (.cons _ (.cons _ (.cons _ (.cons_cons _ (.cons _ (.cons_cons _ .slnil)))))))))) ?_
     refine WH.lone (i := 16) (by kernel_rfl) rfl ?_
     obtain ⟨hk53, h⟩ := chk_some h
     refine e_append (T := dapi_MsgT) (xs := out_27) (ys := [(⟨1, (⟨n.self_site, n.self_node⟩ : Adr), (⟨n.self_site, f_8⟩ : Adr), 0, 0, 0, 0, ByteArray.empty, [(gt z15 i33)], [], [], [], []⟩ : Dapi_Msg)]) elem_34 (i := 7) rfl rfl rfl rfl rfl rfl rfl (ho31.mono hl48) (of_decide_eq_true hk53) (fun w hw => src_one (T := dapi_MsgT) (y := (⟨1, (⟨n.self_site, n.self_node⟩ : Adr), (⟨n.self_site, f_8⟩ : Adr), 0, 0, 0, 0, ByteArray.empty, [(gt z15 i33)], [], [], [], []⟩ : Dapi_Msg)) (i := 0) rfl (by exact ⟨(some ⟨g44, 0, none⟩), 1, none, 0, none, 0, none, 0, none, 0, rfl, ⟨(show I64 1 by decide), ho1_45, ho2_45, ho1_45, hr9, (show I64 0 by decide), (show I64 0 by decide), (show I64 0 by decide), (show I64 0 by decide), (show (ByteArray.empty : ByteArray).size ≤ lim by decide), ⟨hc51, hs50⟩, ⟨Nat.zero_le _, Sl.nil _ _ _⟩, ⟨Nat.zero_le _, Sl.nil _ _ _⟩, ⟨Nat.zero_le _, Sl.nil _ _ _⟩, ⟨Nat.zero_le _, Sl.nil _ _ _⟩⟩⟩) hw) ?_
     intro row54 A55 c56 ho57
     refine WR.nil ?_
     refine WH.next (bk_ hl48 h043 (.cons _ (.cons _ (.cons _ (.cons _ (.cons _ (.cons _ (.cons_cons _ (.cons _ (.cons_cons _ .slnil)))))))))) ?_
     refine hu 17 rfl (bk_ hl48 h043 (.cons _ (.cons _ (.cons _ (.cons _ (.cons _ (.cons _ (.cons_cons _ (.cons _ (.cons_cons _ .slnil)))))))))) (q_assign (v := .slice A55 (out_27 ++ [(⟨1, (⟨n.self_site, n.self_node⟩ : Adr), (⟨n.self_site, f_8⟩ : Adr), 0, 0, 0, 0, ByteArray.empty, [(gt z15 i33)], [], [], [], []⟩ : Dapi_Msg)]).length c56) rfl (by kernel_rfl)) ?_
     refine WH.done (by kernel_rfl) ?_
     change WC _ _ _ _ _ _
     refine WC.region ?_
     refine vb (q_add_r (r := ((i33 + 1 : Nat) : Int)) rfl rfl rfl (ctr_len hl38 (hr24.mono hl26).le)) ?_
     refine mv (v := .int .i64 ((i33 + 1 : Nat) : Int)) ?_
     refine WR.nil ?_
     intro w hw
     have hw := hw.fold (is := [1, 1, 1, 1]) rfl hrow_45
     exact ⟨hl38, (out_27 ++ [(⟨1, (⟨n.self_site, n.self_node⟩ : Adr), (⟨n.self_site, f_8⟩ : Adr), 0, 0, 0, 0, ByteArray.empty, [(gt z15 i33)], [], [], [], []⟩ : Dapi_Msg)]), h, Γ47, A55, c56, row54, (sl_ (by kernel_rfl)), (hw.only (is := [4, 0, 3]) rfl), (hl26.trans hl48), ho57, trivial⟩
  ·
   have h := hge36 (ige hb37)
   refine WC.exit ?_
   change WC _ _ _ _ _ _
   refine WC.region ?_
   refine mv (v := .int .i64 f_8) ?_
   refine vb (q_add rfl rfl rfl) ?_
   refine as_ (v := .int .i64 (w64 (f_8 + 1))) ?_
   refine WR.nil ?_
   intro w hw
   exact ⟨(out_27, (w64 (f_8 + 1))), h, Γ25, A28, c29, row30, (sl_ (by kernel_rfl)), (hw.only (is := [0, 0]) rfl), ((hl2.trans hl18).trans hl26), ho31, (w64_r _), trivial⟩
 ·
  refine WC.exit ?_
  change WC _ _ _ _ _ _
  refine WC.rs ?_
  refine mv (v := .slice A4 out_3.length c5) ?_
  refine as_ (v := .slice A4 out_3.length c5) ?_
  refine WR.done ?_
  refine WC.ret ?_
  intro w hw
  obtain rfl := Option.some.inj h
  subst hF
  exact end_e (is := [1, 0]) (by kernel_rfl) hw rfl ⟨A4, c5, row6, rfl, rfl, ho7, trivial⟩
theorem t_firthlaw15_awake {Γ : Gh} {w0 : World}  (hs : Sat Γ w0) {r : Bool} (h : m_firthlaw15_awake = some r) : Calls Tryz.prog 7 #[] w0 (fun e w' => e = .returned (.bool r) ∧ Fr no w0 w') := by
 refine calls_of (N := 86) (rs := [0]) (args := []) Tryz.func7 rfl Tryz.ntmps7 Tryz.results7 rfl ?_
 obtain ⟨F, hF⟩ : ∃ F : Fm, F = ⟨no, w0, Γ⟩ := ⟨_, rfl⟩
 refine WC.here (C := CC F Γ []) ?_ (hF ▸ Cur.start0 hs)
 refine WC.rs ?_
 refine as_ (v := .bool false) ?_
 refine WR.done ?_
 refine WC.rs ?_
 obtain ⟨z1, hz2, h⟩ := bnd h
 refine e_call (is := []) rfl rfl (call_run Tryz.call9 rfl rfl (by kernel_rfl)) rfl (fun w hp => t_disk_New 5000 (show I64 5000 by decide) hp hz2) ?_
 rintro Γ3 U5 v6 hl4 ⟨g7, row8, rfl, rfl, hr9, _⟩
 change WR _ _ _ (CC F Γ3 [row8]) _ _ (upd _ 8 ((pq g7)))
 obtain ⟨z10, hz11, h⟩ := bnd h
 refine vc rfl rfl rfl (q_call (call_run Tryz.call11 rfl rfl (by kernel_rfl)) (fun w hw => t_firthlaw15_at (Γ := Gh.all w) 1 (show I64 1 by decide) (Sat.all w) hz11)) ?_
 obtain ⟨hk12, h⟩ := chk_some h
 obtain ⟨hk13, h⟩ := chk_some h
 obtain ⟨z14, hz15, h⟩ := bnd h
 refine e_call (is := [0]) rfl rfl (call_run Tryz.call10 rfl rfl (by kernel_rfl)) rfl (fun w hp => t_node_Open hr9 z10 ⟨(i64b_of hk12), (i64b_of hk13)⟩ 256 (show I64 256 by decide) 3 (show I64 3 by decide) hp hz15) ?_
 rintro Γ16 U18 v19 hl17 ⟨row20, g22, row23, rfl, rfl, hr21, hr24, hr25, _⟩
 change WR _ _ _ (CC F Γ16 [row20, row23]) _ _ (upd _ 10 (.tuple #[optp z14.2.1 g22, .int .i64 z14.2.2]))
 refine mv (v := .tuple #[optp z14.2.1 g22, .int .i64 z14.2.2]) ?_
 refine vb (q_extract (v := optp z14.2.1 g22) rfl rfl rfl) ?_
 refine vb (q_extract (v := .int .i64 z14.2.2) rfl rfl rfl) ?_
 refine as_ (v := optp z14.2.1 g22) ?_
 refine as_ (v := .int .i64 z14.2.2) ?_
 refine WR.done ?_
 refine WC.seq ?_
 refine WC.rs ?_
 refine mv (v := optp z14.2.1 g22) ?_
 refine vb (q_opt_eql Tryz.underlying27 rfl rfl rfl) ?_
 refine mv (v := .bool (Option.isNone z14.2.1)) ?_
 refine vg0 rfl rfl rfl rfl rfl (fun hg26 => QV.qo (q_move (v := .int .i64 z14.2.2) rfl (by kernel_rfl))) ?_
 refine vg0 rfl rfl rfl rfl rfl (fun hg27 => QV.qo (q_neq rfl (gu hg27 rfl) rfl)) ?_
 refine vb (q_pick rfl rfl (pk_or' (g := (Option.isNone z14.2.1)) (y := (z14.2.2 != 0)))) ?_
 refine WR.done ?_
 refine WC.cif h (by kernel_rfl) (fun hb28 h => ?_) (fun hb28 h => ?_)
 ·
  refine WC.rs ?_
  refine as_ (v := .bool false) ?_
  refine WR.done ?_
  refine WC.ret ?_
  intro w hw
  obtain rfl := Option.some.inj h
  subst hF
  exact ⟨by kernel_rfl, hw.fr⟩
 ·
  obtain ⟨z29, hz30, h⟩ := bnd h
  have ho31 := optob_some hr24 hz30
  refine WC.skip ?_
  change WC _ _ _ _ _ _
  refine WC.rs ?_
  refine vb (q_move (v := (pq g22)) rfl (optp_some rfl hz30)) ?_
  obtain ⟨z32, hz33, h⟩ := bnd h
  refine e_call (is := []) rfl rfl (call_run Tryz.call26 rfl rfl (by kernel_rfl)) rfl (fun w hp => t_firthlaw15_one (⟨#[107]⟩ : ByteArray) (show (⟨#[107]⟩ : ByteArray).size ≤ lim by decide) 1 (show I64 1 by decide) 1 (show I64 1 by decide) hp hz33) ?_
  rintro Γ34 U36 v37 hl35 ⟨A38, c39, rfl, rfl, hr40, _⟩
  change WR _ _ _ (CC F Γ34 [row20, row23]) _ _ (upd _ 20 (.agg #[.string z32.key, .slice A38 z32.vers.length c39]))
  refine e_buildSlice (cs := #[.string z32.key, .slice A38 z32.vers.length c39]) (e := 45) rfl rfl rfl rfl (fun w => by kernel_rfl) ?_
  intro g41
  have ho42 : Own recT Γ34 45 [(g41, .cells #[.string z32.key, .slice A38 z32.vers.length c39] 45 (0, 0))] (some ⟨g41, 0, none⟩) 1 [z32] := Own.of_blockL (T := recT) (ys := [z32]) [[.string z32.key, .slice A38 z32.vers.length c39]] rfl (show 1 ≤ lim by decide) (show Ty.rd recT Γ34 [.string z32.key, .slice A38 z32.vers.length c39] z32 ∧ True from ⟨⟨A38, c39, rfl, hr40⟩, trivial⟩)
  have hc47 := ho42.capz
  intro w hw; obtain ⟨Γ43, hw, hl44, hr45⟩ := hw.seal (i := 0) rfl; have hs46 := ho42.sl hl44 hr45
  refine WR.here (C := CC F Γ43 [[], row20, row23]) ?_ hw
  clear hw
  obtain ⟨z48, hz49, h⟩ := bnd h
  refine e_call (is := []) rfl rfl (call_run Tryz.call14 rfl rfl (by kernel_rfl)) rfl (fun w hp => t_firthlaw15_put 1 (show I64 1 by decide) hs46 hc47 hp hz49) ?_
  rintro Γ50 U52 v53 hl51 ⟨A54, c55, A56, c57, A58, c59, A60, c61, A62, c63, rfl, rfl, hr64, _⟩
  change WR _ _ _ (CC F Γ50 [[], row20, row23]) _ _ (upd _ 22 (.agg #[.int .i64 z48.kind, .int .i64 z48.from_.site, .int .i64 z48.from_.node, .int .i64 z48.to_.site, .int .i64 z48.to_.node, .int .i64 z48.id, .int .i64 z48.n, .int .i64 z48.for_, .int .i64 z48.code, .string z48.key, .slice A54 z48.recs.length c55, .slice A56 z48.vec.length c57, .slice A58 z48.path.length c59, .slice A60 z48.hashes.length c61, .slice A62 z48.route.length c63]))
  obtain ⟨z65, hz66, h⟩ := bnd h
  refine e_call (is := [2, 1]) rfl rfl (call_run Tryz.call13 rfl rfl (by kernel_rfl)) rfl (fun w hp => t_node_Node_Handle (ho31.mono ((hl35.trans hl44).trans hl51)) z48 hr64 (hr21.mono ((hl35.trans hl44).trans hl51)) hp hz66) ?_
  rintro Γ67 U69 v70 hl68 ⟨row71, row73, A75, c76, row77, rfl, rfl, hr72, hr74, hr78, _⟩
  change WR _ _ _ (CC F Γ67 [row71, row73, row77, []]) _ _ (upd _ 23 (.slice A75 z65.2.2.length c76))
  refine as_ (v := .slice A75 z65.2.2.length c76) ?_
  refine WR.done ?_
  refine WC.rs ?_
  obtain ⟨z79, hz80, h⟩ := bnd h
  refine e_call (is := []) rfl rfl (call_run Tryz.call26 rfl rfl (by kernel_rfl)) rfl (fun w hp => t_firthlaw15_one (⟨#[107]⟩ : ByteArray) (show (⟨#[107]⟩ : ByteArray).size ≤ lim by decide) 2 (show I64 2 by decide) 1 (show I64 1 by decide) hp hz80) ?_
  rintro Γ81 U83 v84 hl82 ⟨A85, c86, rfl, rfl, hr87, _⟩
  change WR _ _ _ (CC F Γ81 [row71, row73, row77, []]) _ _ (upd _ 24 (.agg #[.string z79.key, .slice A85 z79.vers.length c86]))
  refine e_buildSlice (cs := #[.string z79.key, .slice A85 z79.vers.length c86]) (e := 45) rfl rfl rfl rfl (fun w => by kernel_rfl) ?_
  intro g88
  have ho89 : Own recT Γ81 45 [(g88, .cells #[.string z79.key, .slice A85 z79.vers.length c86] 45 (0, 0))] (some ⟨g88, 0, none⟩) 1 [z79] := Own.of_blockL (T := recT) (ys := [z79]) [[.string z79.key, .slice A85 z79.vers.length c86]] rfl (show 1 ≤ lim by decide) (show Ty.rd recT Γ81 [.string z79.key, .slice A85 z79.vers.length c86] z79 ∧ True from ⟨⟨A85, c86, rfl, hr87⟩, trivial⟩)
  have hc94 := ho89.capz
  intro w hw; obtain ⟨Γ90, hw, hl91, hr92⟩ := hw.seal (i := 0) rfl; have hs93 := ho89.sl hl91 hr92
  refine WR.here (C := CC F Γ90 [[], row71, row73, row77, []]) ?_ hw
  clear hw
  obtain ⟨z95, hz96, h⟩ := bnd h
  refine e_call (is := []) rfl rfl (call_run Tryz.call14 rfl rfl (by kernel_rfl)) rfl (fun w hp => t_firthlaw15_put 1 (show I64 1 by decide) hs93 hc94 hp hz96) ?_
  rintro Γ97 U99 v100 hl98 ⟨A101, c102, A103, c104, A105, c106, A107, c108, A109, c110, rfl, rfl, hr111, _⟩
  change WR _ _ _ (CC F Γ97 [[], row71, row73, row77, []]) _ _ (upd _ 26 (.agg #[.int .i64 z95.kind, .int .i64 z95.from_.site, .int .i64 z95.from_.node, .int .i64 z95.to_.site, .int .i64 z95.to_.node, .int .i64 z95.id, .int .i64 z95.n, .int .i64 z95.for_, .int .i64 z95.code, .string z95.key, .slice A101 z95.recs.length c102, .slice A103 z95.vec.length c104, .slice A105 z95.path.length c106, .slice A107 z95.hashes.length c108, .slice A109 z95.route.length c110]))
  refine e_alloc Tryz.zeroValue40 rfl rfl rfl rfl ?_
  intro g112
  refine e_st (i := 0) (v := .agg #[.int .i64 z95.kind, .int .i64 z95.from_.site, .int .i64 z95.from_.node, .int .i64 z95.to_.site, .int .i64 z95.to_.node, .int .i64 z95.id, .int .i64 z95.n, .int .i64 z95.for_, .int .i64 z95.code, .string z95.key, .slice A101 z95.recs.length c102, .slice A103 z95.vec.length c104, .slice A105 z95.path.length c106, .slice A107 z95.hashes.length c108, .slice A109 z95.route.length c110]) (new := #[.int .i64 z95.kind, .int .i64 z95.from_.site, .int .i64 z95.from_.node, .int .i64 z95.to_.site, .int .i64 z95.to_.node, .int .i64 z95.id, .int .i64 z95.n, .int .i64 z95.for_, .int .i64 z95.code, .string z95.key, .slice A101 z95.recs.length c102, .slice A103 z95.vec.length c104, .slice A105 z95.path.length c106, .slice A107 z95.hashes.length c108, .slice A109 z95.route.length c110]) rfl Tryz.sizeOf40 rfl rfl rfl rfl (by kernel_rfl) rfl rfl rfl rfl ?_
  refine WR.done ?_
  refine WC.rs ?_
  refine vb (q_fl 7 fld_40_5 rfl rfl rfl) ?_
  refine e_st (i := 0) (v := .int .i64 3) (new := #[.int .i64 z95.kind, .int .i64 z95.from_.site, .int .i64 z95.from_.node, .int .i64 z95.to_.site, .int .i64 z95.to_.node, .int .i64 z95.id, .int .i64 z95.n, .int .i64 3, .int .i64 z95.code, .string z95.key, .slice A101 z95.recs.length c102, .slice A103 z95.vec.length c104, .slice A105 z95.path.length c106, .slice A107 z95.hashes.length c108, .slice A109 z95.route.length c110]) rfl Tryz.sizeOf3 rfl rfl rfl rfl (by kernel_rfl) rfl rfl rfl rfl ?_
  refine WR.done ?_
  refine WC.rs ?_
  refine vb (q_move (v := (pq g22)) rfl (optp_some rfl hz30)) ?_
  refine vb (q_ldla (i := 0) (vs := [.int .i64 z95.kind, .int .i64 z95.from_.site, .int .i64 z95.from_.node, .int .i64 z95.to_.site, .int .i64 z95.to_.node, .int .i64 z95.id, .int .i64 z95.n, .int .i64 3, .int .i64 z95.code, .string z95.key, .slice A101 z95.recs.length c102, .slice A103 z95.vec.length c104, .slice A105 z95.path.length c106, .slice A107 z95.hashes.length c108, .slice A109 z95.route.length c110]) rfl rfl Tryz.isAgg40 Tryz.sizeOf40 rfl rfl) ?_
  obtain ⟨z113, hz114, h⟩ := bnd h
  refine e_call (is := [2, 2]) rfl rfl (call_run Tryz.call13 rfl rfl (by kernel_rfl)) rfl (fun w hp => t_node_Node_Handle (hr72.mono ((hl82.trans hl91).trans hl98)) (⟨z95.kind, (⟨z95.from_.site, z95.from_.node⟩ : Adr), (⟨z95.to_.site, z95.to_.node⟩ : Adr), z95.id, z95.n, 3, z95.code, z95.key, z95.recs, z95.vec, z95.path, z95.hashes, z95.route⟩ : Dapi_Msg) ⟨hr111.1, hr111.2.1, hr111.2.2.1, hr111.2.2.2.1, hr111.2.2.2.2.1, hr111.2.2.2.2.2.1, hr111.2.2.2.2.2.2.1, (show I64 3 by decide), hr111.2.2.2.2.2.2.2.2.1, hr111.2.2.2.2.2.2.2.2.2.1, ⟨hr111.2.2.2.2.2.2.2.2.2.2.1.1, hr111.2.2.2.2.2.2.2.2.2.2.1.2⟩, ⟨hr111.2.2.2.2.2.2.2.2.2.2.2.1.1, hr111.2.2.2.2.2.2.2.2.2.2.2.1.2⟩, ⟨hr111.2.2.2.2.2.2.2.2.2.2.2.2.1.1, hr111.2.2.2.2.2.2.2.2.2.2.2.2.1.2⟩, ⟨hr111.2.2.2.2.2.2.2.2.2.2.2.2.2.1.1, hr111.2.2.2.2.2.2.2.2.2.2.2.2.2.1.2⟩, ⟨hr111.2.2.2.2.2.2.2.2.2.2.2.2.2.2.1, hr111.2.2.2.2.2.2.2.2.2.2.2.2.2.2.2⟩⟩ (hr74.mono ((hl82.trans hl91).trans hl98)) hp hz114) ?_
  rintro Γ115 U117 v118 hl116 ⟨row119, row121, A123, c124, row125, rfl, rfl, hr120, hr122, hr126, _⟩
  change WR _ _ _ (CC F Γ115 [row119, row121, row125, [(g112, .cells #[.int .i64 z95.kind, .int .i64 z95.from_.site, .int .i64 z95.from_.node, .int .i64 z95.to_.site, .int .i64 z95.to_.node, .int .i64 z95.id, .int .i64 z95.n, .int .i64 3, .int .i64 z95.code, .string z95.key, .slice A101 z95.recs.length c102, .slice A103 z95.vec.length c104, .slice A105 z95.path.length c106, .slice A107 z95.hashes.length c108, .slice A109 z95.route.length c110] 40 (0, 0))], [], row77, []]) _ _ (upd _ 30 (.slice A123 z113.2.2.length c124))
  refine as_ (v := .slice A123 z113.2.2.length c124) ?_
  refine WR.done ?_
  refine WC.rs ?_
  refine vb (q_move (v := (pq g22)) rfl (optp_some rfl hz30)) ?_
  obtain ⟨z127, hz128, h⟩ := bnd h
  refine e_call (is := [0]) rfl rfl (call_run Tryz.call21 rfl rfl (by kernel_rfl)) rfl (fun w hp => t_node_Node_Tick hr120 hp hz128) ?_
  rintro Γ129 U131 v132 hl130 ⟨A133, c134, row135, rfl, rfl, hr136, _⟩
  change WR _ _ _ (CC F Γ129 [row119, row135, row121, row125, [(g112, .cells #[.int .i64 z95.kind, .int .i64 z95.from_.site, .int .i64 z95.from_.node, .int .i64 z95.to_.site, .int .i64 z95.to_.node, .int .i64 z95.id, .int .i64 z95.n, .int .i64 3, .int .i64 z95.code, .string z95.key, .slice A101 z95.recs.length c102, .slice A103 z95.vec.length c104, .slice A105 z95.path.length c106, .slice A107 z95.hashes.length c108, .slice A109 z95.route.length c110] 40 (0, 0))], [], row77, []]) _ _ (upd _ 32 (.slice A133 z127.length c134))
  refine as_ (v := .slice A133 z127.length c134) ?_
  refine WR.done ?_
  refine WC.seq ?_
  refine WC.seq ?_
  intro w hw; have h0137 := hw.le
  refine WC.here (C := CC F Γ129 [row119, row135, row121, row125, [(g112, .cells #[.int .i64 z95.kind, .int .i64 z95.from_.site, .int .i64 z95.from_.node, .int .i64 z95.to_.site, .int .i64 z95.to_.node, .int .i64 z95.id, .int .i64 z95.n, .int .i64 3, .int .i64 z95.code, .string z95.key, .slice A101 z95.recs.length c102, .slice A103 z95.vec.length c104, .slice A105 z95.path.length c106, .slice A107 z95.hashes.length c108, .slice A109 z95.route.length c110] 40 (0, 0))], [], row77, []]) ?_ hw; clear hw
  refine WC.held (CC F Γ129 [row135, row125, [(g112, .cells #[.int .i64 z95.kind, .int .i64 z95.from_.site, .int .i64 z95.from_.node, .int .i64 z95.to_.site, .int .i64 z95.to_.node, .int .i64 z95.id, .int .i64 z95.n, .int .i64 3, .int .i64 z95.code, .string z95.key, .slice A101 z95.recs.length c102, .slice A103 z95.vec.length c104, .slice A105 z95.path.length c106, .slice A107 z95.hashes.length c108, .slice A109 z95.route.length c110] 40 (0, 0))], [], row77, []]) (by kernel_rfl) (fun w hw => hw.drawn _) ?_
  change WH _ _ _ _ (CC F Γ129 [row119, row135, row121, row125, [(g112, .cells #[.int .i64 z95.kind, .int .i64 z95.from_.site, .int .i64 z95.from_.node, .int .i64 z95.to_.site, .int .i64 z95.to_.node, .int .i64 z95.id, .int .i64 z95.n, .int .i64 3, .int .i64 z95.code, .string z95.key, .slice A101 z95.recs.length c102, .slice A103 z95.vec.length c104, .slice A105 z95.path.length c106, .slice A107 z95.hashes.length c108, .slice A109 z95.route.length c110] 40 (0, 0))], [], row77, []]) _ 40 #[false, false, false, false, false, false, false, false, false, false, false, false, false, false, false, false, false, false, false, false, false, false, false, false, false, false, false, false, false, false, false, false, false, false, false, false, false, false, false, false] _
  refine hu 0 rfl (bk_ (Gh.refl _) h0137 (.cons _ (.cons_cons _ (.cons _ (.cons_cons _ (.cons_cons _ (.cons_cons _ (.cons_cons _ (.cons_cons _ .slnil))))))))) (q_move (v := .slice A75 z65.2.2.length c76) rfl (by kernel_rfl)) ?_
  refine hu 1 rfl (bk_ (Gh.refl _) h0137 (.cons _ (.cons_cons _ (.cons _ (.cons_cons _ (.cons_cons _ (.cons_cons _ (.cons_cons _ (.cons_cons _ .slnil))))))))) (q_len_slice rfl Tryz.underlying34 rfl) ?_
  refine hu 2 rfl (bk_ (Gh.refl _) h0137 (.cons _ (.cons_cons _ (.cons _ (.cons_cons _ (.cons_cons _ (.cons_cons _ (.cons_cons _ (.cons_cons _ .slnil))))))))) (q_neq rfl rfl rfl) ?_
  refine hu 3 rfl (bk_ (Gh.refl _) h0137 (.cons _ (.cons_cons _ (.cons _ (.cons_cons _ (.cons_cons _ (.cons_cons _ (.cons_cons _ (.cons_cons _ .slnil))))))))) (q_move (v := .bool (((z65.2.2.length : Nat) : Int) != 1)) rfl (by kernel_rfl)) ?_
  refine hg0 (i := 4) rfl (by kernel_rfl) rfl rfl rfl rfl rfl (bk_ (Gh.refl _) h0137 (.cons _ (.cons_cons _ (.cons _ (.cons_cons _ (.cons_cons _ (.cons_cons _ (.cons_cons _ (.cons_cons _ .slnil))))))))) (fun hg138 => (q_move (v := .slice A75 z65.2.2.length c76) rfl (by kernel_rfl))) ?_
  obtain ⟨hk140, h⟩ := chk_some h
  refine hg0 (i := 5) rfl (by kernel_rfl) rfl rfl rfl rfl rfl (bk_ (Gh.refl _) h0137 (.cons _ (.cons_cons _ (.cons _ (.cons_cons _ (.cons_cons _ (.cons_cons _ (.cons_cons _ (.cons_cons _ .slnil))))))))) (fun hg139 => (q_ixn (i := 0) Tryz.underlying34 Tryz.sizeOf40 rfl (gu hg139 rfl) rfl (of_decide_eq_true (imp_of hk140 hg139)) ((hr78.mono ((((hl82.trans hl91).trans hl98).trans hl116).trans hl130)).some_ (of_decide_eq_true (imp_of hk140 hg139))))) ?_
  refine hg0 (i := 6) rfl (by kernel_rfl) rfl rfl rfl rfl rfl (bk_ (Gh.refl _) h0137 (.cons _ (.cons_cons _ (.cons _ (.cons_cons _ (.cons_cons _ (.cons_cons _ (.cons_cons _ (.cons_cons _ .slnil))))))))) (fun hg141 => (q_field_addr (0 * 15) fld_40_0 rfl (gu hg141 rfl) ((hr78.mono ((((hl82.trans hl91).trans hl98).trans hl116).trans hl130)).some_ (of_decide_eq_true (imp_of hk140 hg141))) rfl)) ?_
  obtain ⟨A143, c144, A145, c146, A147, c148, A149, c150, A151, c152, hx153⟩ := (hr78.mono ((((hl82.trans hl91).trans hl98).trans hl116).trans hl130)).dapi_MsgT_at 0
  refine hg0 (i := 7) rfl (by kernel_rfl) rfl rfl rfl rfl rfl (bk_ (Gh.refl _) h0137 (.cons _ (.cons_cons _ (.cons _ (.cons_cons _ (.cons_cons _ (.cons_cons _ (.cons_cons _ (.cons_cons _ .slnil))))))))) (fun hg142 => (q_ldo (c := 0) (v := .int .i64 (gt z65.2.2 0).kind) (i := 4) rfl (hx153 (of_decide_eq_true (imp_of hk140 hg142))).2 rfl Tryz.isAgg3 (gu hg142 rfl) rfl)) ?_
  refine hg0 (i := 8) rfl (by kernel_rfl) rfl rfl rfl rfl rfl (bk_ (Gh.refl _) h0137 (.cons _ (.cons_cons _ (.cons _ (.cons_cons _ (.cons_cons _ (.cons_cons _ (.cons_cons _ (.cons_cons _ .slnil))))))))) (fun hg154 => (q_neq rfl (gu hg154 rfl) rfl)) ?_
  refine hu 9 rfl (bk_ (Gh.refl _) h0137 (.cons _ (.cons_cons _ (.cons _ (.cons_cons _ (.cons_cons _ (.cons_cons _ (.cons_cons _ (.cons_cons _ .slnil))))))))) (q_pick rfl rfl (pk_or' (g := (((z65.2.2.length : Nat) : Int) != 1)) (y := ((gt z65.2.2 0).kind != 2)))) ?_
  refine hu 10 rfl (bk_ (Gh.refl _) h0137 (.cons _ (.cons_cons _ (.cons _ (.cons_cons _ (.cons_cons _ (.cons_cons _ (.cons_cons _ (.cons_cons _ .slnil))))))))) (q_move (v := .bool ((((z65.2.2.length : Nat) : Int) != 1) || ((gt z65.2.2 0).kind != 2))) rfl (by kernel_rfl)) ?_
  refine hg0 (i := 11) rfl (by kernel_rfl) rfl rfl rfl rfl rfl (bk_ (Gh.refl _) h0137 (.cons _ (.cons_cons _ (.cons _ (.cons_cons _ (.cons_cons _ (.cons_cons _ (.cons_cons _ (.cons_cons _ .slnil))))))))) (fun hg155 => (q_move (v := .slice A123 z113.2.2.length c124) rfl (by kernel_rfl))) ?_
  refine hg0 (i := 12) rfl (by kernel_rfl) rfl rfl rfl rfl rfl (bk_ (Gh.refl _) h0137 (.cons _ (.cons_cons _ (.cons _ (.cons_cons _ (.cons_cons _ (.cons_cons _ (.cons_cons _ (.cons_cons _ .slnil))))))))) (fun hg156 => (q_len_slice rfl Tryz.underlying34 (gu hg156 rfl))) ?_
  refine hg0 (i := 13) rfl (by kernel_rfl) rfl rfl rfl rfl rfl (bk_ (Gh.refl _) h0137 (.cons _ (.cons_cons _ (.cons _ (.cons_cons _ (.cons_cons _ (.cons_cons _ (.cons_cons _ (.cons_cons _ .slnil))))))))) (fun hg157 => (q_neq rfl (gu hg157 rfl) rfl)) ?_
  refine hu 14 rfl (bk_ (Gh.refl _) h0137 (.cons _ (.cons_cons _ (.cons _ (.cons_cons _ (.cons_cons _ (.cons_cons _ (.cons_cons _ (.cons_cons _ .slnil))))))))) (q_pick rfl rfl (pk_or' (g := ((((z65.2.2.length : Nat) : Int) != 1) || ((gt z65.2.2 0).kind != 2))) (y := (((z113.2.2.length : Nat) : Int) != 0)))) ?_
  refine hu 15 rfl (bk_ (Gh.refl _) h0137 (.cons _ (.cons_cons _ (.cons _ (.cons_cons _ (.cons_cons _ (.cons_cons _ (.cons_cons _ (.cons_cons _ .slnil))))))))) (q_move (v := .bool (((((z65.2.2.length : Nat) : Int) != 1) || ((gt z65.2.2 0).kind != 2)) || (((z113.2.2.length : Nat) : Int) != 0))) rfl (by kernel_rfl)) ?_
  refine hg0 (i := 16) rfl (by kernel_rfl) rfl rfl rfl rfl rfl (bk_ (Gh.refl _) h0137 (.cons _ (.cons_cons _ (.cons _ (.cons_cons _ (.cons_cons _ (.cons_cons _ (.cons_cons _ (.cons_cons _ .slnil))))))))) (fun hg158 => (q_move (v := .slice A133 z127.length c134) rfl (by kernel_rfl))) ?_
  refine hg0 (i := 17) rfl (by kernel_rfl) rfl rfl rfl rfl rfl (bk_ (Gh.refl _) h0137 (.cons _ (.cons_cons _ (.cons _ (.cons_cons _ (.cons_cons _ (.cons_cons _ (.cons_cons _ (.cons_cons _ .slnil))))))))) (fun hg159 => (q_len_slice rfl Tryz.underlying34 (gu hg159 rfl))) ?_
  refine hg0 (i := 18) rfl (by kernel_rfl) rfl rfl rfl rfl rfl (bk_ (Gh.refl _) h0137 (.cons _ (.cons_cons _ (.cons _ (.cons_cons _ (.cons_cons _ (.cons_cons _ (.cons_cons _ (.cons_cons _ .slnil))))))))) (fun hg160 => (q_neq rfl (gu hg160 rfl) rfl)) ?_
  refine hu 19 rfl (bk_ (Gh.refl _) h0137 (.cons _ (.cons_cons _ (.cons _ (.cons_cons _ (.cons_cons _ (.cons_cons _ (.cons_cons _ (.cons_cons _ .slnil))))))))) (q_pick rfl rfl (pk_or' (g := (((((z65.2.2.length : Nat) : Int) != 1) || ((gt z65.2.2 0).kind != 2)) || (((z113.2.2.length : Nat) : Int) != 0))) (y := (((z127.length : Nat) : Int) != 1)))) ?_
  refine hu 20 rfl (bk_ (Gh.refl _) h0137 (.cons _ (.cons_cons _ (.cons _ (.cons_cons _ (.cons_cons _ (.cons_cons _ (.cons_cons _ (.cons_cons _ .slnil))))))))) (q_move (v := .bool ((((((z65.2.2.length : Nat) : Int) != 1) || ((gt z65.2.2 0).kind != 2)) || (((z113.2.2.length : Nat) : Int) != 0)) || (((z127.length : Nat) : Int) != 1))) rfl (by kernel_rfl)) ?_
  refine hg0 (i := 21) rfl (by kernel_rfl) rfl rfl rfl rfl rfl (bk_ (Gh.refl _) h0137 (.cons _ (.cons_cons _ (.cons _ (.cons_cons _ (.cons_cons _ (.cons_cons _ (.cons_cons _ (.cons_cons _ .slnil))))))))) (fun hg161 => (q_move (v := .slice A133 z127.length c134) rfl (by kernel_rfl))) ?_
  obtain ⟨hk163, h⟩ := chk_some h
  refine hg0 (i := 22) rfl (by kernel_rfl) rfl rfl rfl rfl rfl (bk_ (Gh.refl _) h0137 (.cons _ (.cons_cons _ (.cons _ (.cons_cons _ (.cons_cons _ (.cons_cons _ (.cons_cons _ (.cons_cons _ .slnil))))))))) (fun hg162 => (q_ixn (i := 0) Tryz.underlying34 Tryz.sizeOf40 rfl (gu hg162 rfl) rfl (of_decide_eq_true (imp_of hk163 hg162)) (hr136.some_ (of_decide_eq_true (imp_of hk163 hg162))))) ?_
  refine hg0 (i := 23) rfl (by kernel_rfl) rfl rfl rfl rfl rfl (bk_ (Gh.refl _) h0137 (.cons _ (.cons_cons _ (.cons _ (.cons_cons _ (.cons_cons _ (.cons_cons _ (.cons_cons _ (.cons_cons _ .slnil))))))))) (fun hg164 => (q_field_addr (0 * 15 + 3) fld_40_2 rfl (gu hg164 rfl) (hr136.some_ (of_decide_eq_true (imp_of hk163 hg164))) rfl)) ?_
  obtain ⟨A166, c167, A168, c169, A170, c171, A172, c173, A174, c175, hx176⟩ := hr136.dapi_MsgT_at 0
  refine hg0 (i := 24) rfl (by kernel_rfl) rfl rfl rfl rfl rfl (bk_ (Gh.refl _) h0137 (.cons _ (.cons_cons _ (.cons _ (.cons_cons _ (.cons_cons _ (.cons_cons _ (.cons_cons _ (.cons_cons _ .slnil))))))))) (fun hg165 => (q_ldoa (c := 3) (vs := [.int .i64 (gt z127 0).to_.site, .int .i64 (gt z127 0).to_.node]) (i := 0) rfl (hx176 (of_decide_eq_true (imp_of hk163 hg165))).2 rfl Tryz.isAgg32 Tryz.sizeOf32 (gu hg165 rfl) rfl)) ?_
  refine WH.lone (i := 25) (by kernel_rfl) rfl ?_
  obtain ⟨z178, hz179, h⟩ := bnd h
  refine vg0 rfl rfl rfl rfl rfl (fun hg177 => (q_call (call_run Tryz.call11 rfl rfl (by kernel_rfl)) (fun w hw => t_firthlaw15_at (Γ := Gh.all w) 3 (show I64 3 by decide) (Sat.all w) (gc_of hz179 hg177)))) ?_
  refine WR.nil ?_
  refine WH.next (bk_ (Gh.refl _) h0137 (.cons _ (.cons_cons _ (.cons _ (.cons_cons _ (.cons_cons _ (.cons_cons _ (.cons_cons _ (.cons_cons _ .slnil))))))))) ?_
  refine hg0 (i := 26) rfl (by kernel_rfl) rfl rfl rfl rfl rfl (bk_ (Gh.refl _) h0137 (.cons _ (.cons_cons _ (.cons _ (.cons_cons _ (.cons_cons _ (.cons_cons _ (.cons_cons _ (.cons_cons _ .slnil))))))))) (fun hg180 => (q_neq_Adr (a := (gt z127 0).to_) (b := z178) rfl (gu hg180 rfl) (gu hg180 rfl))) ?_
  refine hu 27 rfl (bk_ (Gh.refl _) h0137 (.cons _ (.cons_cons _ (.cons _ (.cons_cons _ (.cons_cons _ (.cons_cons _ (.cons_cons _ (.cons_cons _ .slnil))))))))) (q_pick rfl rfl (pk_or' (g := ((((((z65.2.2.length : Nat) : Int) != 1) || ((gt z65.2.2 0).kind != 2)) || (((z113.2.2.length : Nat) : Int) != 0)) || (((z127.length : Nat) : Int) != 1))) (y := ((gt z127 0).to_ != z178)))) ?_
  refine hu 28 rfl (bk_ (Gh.refl _) h0137 (.cons _ (.cons_cons _ (.cons _ (.cons_cons _ (.cons_cons _ (.cons_cons _ (.cons_cons _ (.cons_cons _ .slnil))))))))) (q_move (v := .bool (((((((z65.2.2.length : Nat) : Int) != 1) || ((gt z65.2.2 0).kind != 2)) || (((z113.2.2.length : Nat) : Int) != 0)) || (((z127.length : Nat) : Int) != 1)) || ((gt z127 0).to_ != z178))) rfl (by kernel_rfl)) ?_
  refine hg0 (i := 29) rfl (by kernel_rfl) rfl rfl rfl rfl rfl (bk_ (Gh.refl _) h0137 (.cons _ (.cons_cons _ (.cons _ (.cons_cons _ (.cons_cons _ (.cons_cons _ (.cons_cons _ (.cons_cons _ .slnil))))))))) (fun hg181 => (q_move (v := (pq g22)) rfl (optp_some rfl hz30))) ?_
  refine (Bool.eq_false_or_eq_true (!(((((((z65.2.2.length : Nat) : Int) != 1) || ((gt z65.2.2 0).kind != 2)) || (((z113.2.2.length : Nat) : Int) != 0)) || (((z127.length : Nat) : Int) != 1)) || ((gt z127 0).to_ != z178)))).elim (fun hb182 => ?_) (fun hb182 => ?_)
  ·
   have h := bt hb182 h
   refine WH.lone (i := 30) (by kernel_rfl) rfl ?_
   refine WR.sat (c0 := true) (g := (((((((z65.2.2.length : Nat) : Int) != 1) || ((gt z65.2.2 0).kind != 2)) || (((z113.2.2.length : Nat) : Int) != 0)) || (((z127.length : Nat) : Int) != 1)) || ((gt z127 0).to_ != z178))) rfl rfl rfl hb182 ?_
   obtain ⟨z183, hz184, h⟩ := bnd h
   refine e_call (is := [0]) rfl rfl (call_run Tryz.call24 rfl rfl (args2 (gu hb182 rfl) rfl)) rfl (fun w hp => t_node_Node_Hints (hr120.mono hl130) 3 (show I64 3 by decide) hp hz184) ?_
   rintro Γ185 U187 v188 hl186 ⟨A189, c190, row191, rfl, rfl, hr192, _⟩
   change WR _ _ _ (CC F Γ185 [row119, row191, row135, row121, row125, [(g112, .cells #[.int .i64 z95.kind, .int .i64 z95.from_.site, .int .i64 z95.from_.node, .int .i64 z95.to_.site, .int .i64 z95.to_.node, .int .i64 z95.id, .int .i64 z95.n, .int .i64 3, .int .i64 z95.code, .string z95.key, .slice A101 z95.recs.length c102, .slice A103 z95.vec.length c104, .slice A105 z95.path.length c106, .slice A107 z95.hashes.length c108, .slice A109 z95.route.length c110] 40 (0, 0))], [], row77, []]) _ _ (upd _ 63 (.slice A189 z183.length c190))
   refine WR.nil ?_
   refine WH.next (bk_ hl186 h0137 (.cons _ (.cons _ (.cons_cons _ (.cons _ (.cons_cons _ (.cons_cons _ (.cons_cons _ (.cons_cons _ (.cons_cons _ .slnil)))))))))) ?_
   refine WH.lone (i := 31) (by kernel_rfl) rfl ?_
   refine vg0 rfl rfl rfl rfl rfl (fun hg194 => QV.qo (q_len_slice rfl Tryz.underlying22 rfl)) ?_
   refine WR.nil ?_
   refine WH.next (bk_ hl186 h0137 (.cons _ (.cons _ (.cons_cons _ (.cons _ (.cons_cons _ (.cons_cons _ (.cons_cons _ (.cons_cons _ (.cons_cons _ .slnil)))))))))) ?_
   refine hg0 (i := 32) rfl (by kernel_rfl) rfl rfl rfl rfl rfl (bk_ hl186 h0137 (.cons _ (.cons _ (.cons_cons _ (.cons _ (.cons_cons _ (.cons_cons _ (.cons_cons _ (.cons_cons _ (.cons_cons _ .slnil)))))))))) (fun hg195 => (q_neq rfl (gu hg195 rfl) rfl)) ?_
   refine hu 33 rfl (bk_ hl186 h0137 (.cons _ (.cons _ (.cons_cons _ (.cons _ (.cons_cons _ (.cons_cons _ (.cons_cons _ (.cons_cons _ (.cons_cons _ .slnil)))))))))) (q_pick_f (v := .bool (((z183.length : Nat) : Int) != 1)) rfl rfl (not_t hb182) (gu hb182 rfl)) ?_
   refine hu 34 rfl (bk_ hl186 h0137 (.cons _ (.cons _ (.cons_cons _ (.cons _ (.cons_cons _ (.cons_cons _ (.cons_cons _ (.cons_cons _ (.cons_cons _ .slnil)))))))))) (q_move (v := .bool (((z183.length : Nat) : Int) != 1)) rfl (by kernel_rfl)) ?_
   refine hg0 (i := 35) rfl (by kernel_rfl) rfl rfl rfl rfl rfl (bk_ hl186 h0137 (.cons _ (.cons _ (.cons_cons _ (.cons _ (.cons_cons _ (.cons_cons _ (.cons_cons _ (.cons_cons _ (.cons_cons _ .slnil)))))))))) (fun hg196 => (q_move (v := (pq g22)) rfl (optp_some rfl hz30))) ?_
   refine (Bool.eq_false_or_eq_true (!(((z183.length : Nat) : Int) != 1))).elim (fun hb197 => ?_) (fun hb197 => ?_)
   ·
    have h := bt hb197 h
    refine WH.lone (i := 36) (by kernel_rfl) rfl ?_
    refine WR.sat (c0 := true) (g := (((z183.length : Nat) : Int) != 1)) rfl rfl rfl hb197 ?_
    obtain ⟨z198, hz199, h⟩ := bnd h
    refine e_call (is := [0]) rfl rfl (call_run Tryz.call15 rfl rfl (args2 (gu hb197 rfl) rfl)) rfl (fun w hp => t_node_Node_Recs (hr120.mono (hl130.trans hl186)) (-1) (show I64 (-1) by decide) hp hz199) ?_
    rintro Γ200 U202 v203 hl201 ⟨A204, c205, row206, rfl, rfl, hr207, _⟩
    change WR _ _ _ (CC F Γ200 [row119, row206, row191, row135, row121, row125, [(g112, .cells #[.int .i64 z95.kind, .int .i64 z95.from_.site, .int .i64 z95.from_.node, .int .i64 z95.to_.site, .int .i64 z95.to_.node, .int .i64 z95.id, .int .i64 z95.n, .int .i64 3, .int .i64 z95.code, .string z95.key, .slice A101 z95.recs.length c102, .slice A103 z95.vec.length c104, .slice A105 z95.path.length c106, .slice A107 z95.hashes.length c108, .slice A109 z95.route.length c110] 40 (0, 0))], [], row77, []]) _ _ (upd _ 69 (.slice A204 z198.length c205))
    refine WR.nil ?_
    refine WH.next (bk_ (hl186.trans hl201) h0137 (.cons _ (.cons _ (.cons _ (.cons_cons _ (.cons _ (.cons_cons _ (.cons_cons _ (.cons_cons _ (.cons_cons _ (.cons_cons _ .slnil))))))))))) ?_
    refine WH.lone (i := 37) (by kernel_rfl) rfl ?_
    refine vg0 rfl rfl rfl rfl rfl (fun hg209 => QV.qo (q_len_slice rfl Tryz.underlying22 rfl)) ?_
    refine WR.nil ?_
    refine WH.next (bk_ (hl186.trans hl201) h0137 (.cons _ (.cons _ (.cons _ (.cons_cons _ (.cons _ (.cons_cons _ (.cons_cons _ (.cons_cons _ (.cons_cons _ (.cons_cons _ .slnil))))))))))) ?_
    refine hg0 (i := 38) rfl (by kernel_rfl) rfl rfl rfl rfl rfl (bk_ (hl186.trans hl201) h0137 (.cons _ (.cons _ (.cons _ (.cons_cons _ (.cons _ (.cons_cons _ (.cons_cons _ (.cons_cons _ (.cons_cons _ (.cons_cons _ .slnil))))))))))) (fun hg210 => (q_neq rfl (gu hg210 rfl) rfl)) ?_
    refine hu 39 rfl (bk_ (hl186.trans hl201) h0137 (.cons _ (.cons _ (.cons _ (.cons_cons _ (.cons _ (.cons_cons _ (.cons_cons _ (.cons_cons _ (.cons_cons _ (.cons_cons _ .slnil))))))))))) (q_pick_f (v := .bool (((z198.length : Nat) : Int) != 1)) rfl rfl (not_t hb197) (gu hb197 rfl)) ?_
    refine WH.done (by kernel_rfl) ?_
    change WC _ _ _ _ _ _
    refine WC.cif h (by kernel_rfl) (fun hb211 h => ?_) (fun hb211 h => ?_)
    ·
     refine WC.rs ?_
     refine as_ (v := .bool false) ?_
     refine WR.done ?_
     refine WC.ret ?_
     intro w hw
     obtain rfl := Option.some.inj h
     subst hF
     exact ⟨by kernel_rfl, hw.fr⟩
    ·
     refine WC.skip ?_
     change WC _ _ _ _ _ _
     refine WC.seq ?_
     intro w hw; have h0212 := hw.le
     refine WC.here (C := CC F Γ200 [row119, row206, row191, row135, row121, row125, [(g112, .cells #[.int .i64 z95.kind, .int .i64 z95.from_.site, .int .i64 z95.from_.node, .int .i64 z95.to_.site, .int .i64 z95.to_.node, .int .i64 z95.id, .int .i64 z95.n, .int .i64 3, .int .i64 z95.code, .string z95.key, .slice A101 z95.recs.length c102, .slice A103 z95.vec.length c104, .slice A105 z95.path.length c106, .slice A107 z95.hashes.length c108, .slice A109 z95.route.length c110] 40 (0, 0))], [], row77, []]) ?_ hw; clear hw
     refine WC.held (CC F Γ200 [row206, row191, row135, row125, [(g112, .cells #[.int .i64 z95.kind, .int .i64 z95.from_.site, .int .i64 z95.from_.node, .int .i64 z95.to_.site, .int .i64 z95.to_.node, .int .i64 z95.id, .int .i64 z95.n, .int .i64 3, .int .i64 z95.code, .string z95.key, .slice A101 z95.recs.length c102, .slice A103 z95.vec.length c104, .slice A105 z95.path.length c106, .slice A107 z95.hashes.length c108, .slice A109 z95.route.length c110] 40 (0, 0))], [], row77, []]) (by kernel_rfl) (fun w hw => hw.drawn _) ?_
     change WH _ _ _ _ (CC F Γ200 [row119, row206, row191, row135, row121, row125, [(g112, .cells #[.int .i64 z95.kind, .int .i64 z95.from_.site, .int .i64 z95.from_.node, .int .i64 z95.to_.site, .int .i64 z95.to_.node, .int .i64 z95.id, .int .i64 z95.n, .int .i64 3, .int .i64 z95.code, .string z95.key, .slice A101 z95.recs.length c102, .slice A103 z95.vec.length c104, .slice A105 z95.path.length c106, .slice A107 z95.hashes.length c108, .slice A109 z95.route.length c110] 40 (0, 0))], [], row77, []]) _ 9 #[false, false, false, false, false, false, false, false, false] _
     refine hu 0 rfl (bk_ (Gh.refl _) h0212 (.cons _ (.cons_cons _ (.cons_cons _ (.cons_cons _ (.cons _ (.cons_cons _ (.cons_cons _ (.cons_cons _ (.cons_cons _ (.cons_cons _ .slnil))))))))))) (q_move (v := (pq g22)) rfl (optp_some rfl hz30)) ?_
     refine hu 3 rfl (bk_ (Gh.refl _) h0212 (.cons _ (.cons_cons _ (.cons_cons _ (.cons_cons _ (.cons _ (.cons_cons _ (.cons_cons _ (.cons_cons _ (.cons_cons _ (.cons_cons _ .slnil))))))))))) (q_move (v := .slice A133 z127.length c134) rfl (by kernel_rfl)) ?_
     obtain ⟨hk213, h⟩ := chk_some h
     refine hu 4 rfl (bk_ (Gh.refl _) h0212 (.cons _ (.cons_cons _ (.cons_cons _ (.cons_cons _ (.cons _ (.cons_cons _ (.cons_cons _ (.cons_cons _ (.cons_cons _ (.cons_cons _ .slnil))))))))))) (q_ixn (i := 0) Tryz.underlying34 Tryz.sizeOf40 rfl rfl rfl (of_decide_eq_true hk213) ((hr136.mono (hl186.trans hl201)).some_ (of_decide_eq_true hk213))) ?_
     refine hu 5 rfl (bk_ (Gh.refl _) h0212 (.cons _ (.cons_cons _ (.cons_cons _ (.cons_cons _ (.cons _ (.cons_cons _ (.cons_cons _ (.cons_cons _ (.cons_cons _ (.cons_cons _ .slnil))))))))))) (q_field_addr (0 * 15 + 10) fld_40_8 rfl rfl ((hr136.mono (hl186.trans hl201)).some_ (of_decide_eq_true hk213)) rfl) ?_
     refine hu 6 rfl (bk_ (Gh.refl _) h0212 (.cons _ (.cons_cons _ (.cons_cons _ (.cons_cons _ (.cons _ (.cons_cons _ (.cons_cons _ (.cons_cons _ (.cons_cons _ (.cons_cons _ .slnil))))))))))) (q_ldo (c := 10) (v := .slice A166 ((gt z127 0).recs).length c167) (i := 2) rfl (hx176 (of_decide_eq_true hk213)).2 rfl Tryz.isAgg22 rfl rfl) ?_
     refine WH.lone (i := 1) (by kernel_rfl) rfl ?_
     obtain ⟨z214, hz215, h⟩ := bnd h
     refine vc rfl rfl rfl (q_call (call_run Tryz.call11 rfl rfl (by kernel_rfl)) (fun w hw => t_firthlaw15_at (Γ := Gh.all w) 3 (show I64 3 by decide) (Sat.all w) hz215)) ?_
     refine WR.nil ?_
     refine WH.next (bk_ (Gh.refl _) h0212 (.cons _ (.cons_cons _ (.cons_cons _ (.cons_cons _ (.cons _ (.cons_cons _ (.cons_cons _ (.cons_cons _ (.cons_cons _ (.cons_cons _ .slnil))))))))))) ?_
     refine WH.lone (i := 2) (by kernel_rfl) rfl ?_
     obtain ⟨z216, hz217, h⟩ := bnd h
     refine vc rfl rfl rfl (q_call (call_run Tryz.call11 rfl rfl (by kernel_rfl)) (fun w hw => t_firthlaw15_at (Γ := Gh.all w) 1 (show I64 1 by decide) (Sat.all w) hz217)) ?_
     refine WR.nil ?_
     refine WH.next (bk_ (Gh.refl _) h0212 (.cons _ (.cons_cons _ (.cons_cons _ (.cons_cons _ (.cons _ (.cons_cons _ (.cons_cons _ (.cons_cons _ (.cons_cons _ (.cons_cons _ .slnil))))))))))) ?_
     refine hu 7 rfl (bk_ (Gh.refl _) h0212 (.cons _ (.cons_cons _ (.cons_cons _ (.cons_cons _ (.cons _ (.cons_cons _ (.cons_cons _ (.cons_cons _ (.cons_cons _ (.cons_cons _ .slnil))))))))))) (q_build' (v := .agg #[.int .i64 2, .int .i64 z214.site, .int .i64 z214.node, .int .i64 z216.site, .int .i64 z216.node, .int .i64 0, .int .i64 0, .int .i64 0, .int .i64 0, .string ByteArray.empty, .slice A166 ((gt z127 0).recs).length c167, .slice none 0 0, .slice none 0 0, .slice none 0 0, .slice none 0 0]) rfl (bargs4 rfl rfl rfl rfl) (fun w => by kernel_rfl)) ?_
     refine WH.lone (i := 8) (by kernel_rfl) rfl ?_
     obtain ⟨hk218, h⟩ := chk_some h
     obtain ⟨hk219, h⟩ := chk_some h
     obtain ⟨hk220, h⟩ := chk_some h
     obtain ⟨hk221, h⟩ := chk_some h
     obtain ⟨z222, hz223, h⟩ := bnd h
     refine e_call (is := [0, 3]) rfl rfl (call_run Tryz.call13 rfl rfl (by kernel_rfl)) rfl (fun w hp => t_node_Node_Handle (hr120.mono ((hl130.trans hl186).trans hl201)) (Am11 := none) (cm11 := 0) (Am12 := none) (cm12 := 0) (Am13 := none) (cm13 := 0) (Am14 := none) (cm14 := 0) (⟨2, (⟨z214.site, z214.node⟩ : Adr), (⟨z216.site, z216.node⟩ : Adr), 0, 0, 0, 0, ByteArray.empty, (gt z127 0).recs, [], [], [], []⟩ : Dapi_Msg) ⟨(show I64 2 by decide), (i64b_of hk218), (i64b_of hk219), (i64b_of hk220), (i64b_of hk221), (show I64 0 by decide), (show I64 0 by decide), (show I64 0 by decide), (show I64 0 by decide), (show (ByteArray.empty : ByteArray).size ≤ lim by decide), ⟨(hx176 (of_decide_eq_true hk213)).1.2.2.2.2.2.2.2.2.2.2.1.1, ((hx176 (of_decide_eq_true hk213)).1.2.2.2.2.2.2.2.2.2.2.1.2.mono (hl186.trans hl201))⟩, ⟨Nat.zero_le _, Sl.nil _ _ _⟩, ⟨Nat.zero_le _, Sl.nil _ _ _⟩, ⟨Nat.zero_le _, Sl.nil _ _ _⟩, ⟨Nat.zero_le _, Sl.nil _ _ _⟩⟩ (hr122.mono ((hl130.trans hl186).trans hl201)) hp hz223) ?_
     rintro Γ224 U226 v227 hl225 ⟨row228, row230, A232, c233, row234, rfl, rfl, hr229, hr231, hr235, _⟩
     change WR _ _ _ (CC F Γ224 [row228, row230, row234, row206, row191, row135, row125, [(g112, .cells #[.int .i64 z95.kind, .int .i64 z95.from_.site, .int .i64 z95.from_.node, .int .i64 z95.to_.site, .int .i64 z95.to_.node, .int .i64 z95.id, .int .i64 z95.n, .int .i64 3, .int .i64 z95.code, .string z95.key, .slice A101 z95.recs.length c102, .slice A103 z95.vec.length c104, .slice A105 z95.path.length c106, .slice A107 z95.hashes.length c108, .slice A109 z95.route.length c110] 40 (0, 0))], [], row77, []]) _ _ (upd _ 81 (.slice A232 z222.2.2.length c233))
     refine WR.nil ?_
     refine WH.next (bk_ hl225 h0212 (.cons _ (.cons _ (.cons _ (.cons_cons _ (.cons_cons _ (.cons_cons _ (.cons_cons _ (.cons_cons _ (.cons_cons _ (.cons_cons _ (.cons_cons _ .slnil)))))))))))) ?_
     refine WH.done (by kernel_rfl) ?_
     change WC _ _ _ _ _ _
     refine WC.rs ?_
     refine vb (q_move (v := (pq g22)) rfl (optp_some rfl hz30)) ?_
     obtain ⟨z236, hz237, h⟩ := bnd h
     refine e_call (is := [0]) rfl rfl (call_run Tryz.call24 rfl rfl (by kernel_rfl)) rfl (fun w hp => t_node_Node_Hints hr229 3 (show I64 3 by decide) hp hz237) ?_
     rintro Γ238 U240 v241 hl239 ⟨A242, c243, row244, rfl, rfl, hr245, _⟩
     change WR _ _ _ (CC F Γ238 [row228, row244, row230, row234, row206, row191, row135, row125, [(g112, .cells #[.int .i64 z95.kind, .int .i64 z95.from_.site, .int .i64 z95.from_.node, .int .i64 z95.to_.site, .int .i64 z95.to_.node, .int .i64 z95.id, .int .i64 z95.n, .int .i64 3, .int .i64 z95.code, .string z95.key, .slice A101 z95.recs.length c102, .slice A103 z95.vec.length c104, .slice A105 z95.path.length c106, .slice A107 z95.hashes.length c108, .slice A109 z95.route.length c110] 40 (0, 0))], [], row77, []]) _ _ (upd _ 83 (.slice A242 z236.length c243))
     refine vb (q_len_slice rfl Tryz.underlying22 rfl) ?_
     refine vb (q_eql rfl rfl rfl) ?_
     refine as_ (v := .bool (((z236.length : Nat) : Int) == 0)) ?_
     refine WR.done ?_
     refine WC.ret ?_
     intro w hw
     obtain rfl := Option.some.inj h
     subst hF
     exact ⟨by kernel_rfl, hw.fr⟩
   ·
    have h := bf hb197 h
    refine hg0 (g := (((z183.length : Nat) : Int) != 1)) (i := 36) (v := undef) rfl (by kernel_rfl) rfl rfl rfl rfl rfl (bk_ hl186 h0137 (.cons _ (.cons _ (.cons_cons _ (.cons _ (.cons_cons _ (.cons_cons _ (.cons_cons _ (.cons_cons _ (.cons_cons _ .slnil)))))))))) (no_tf hb197) ?_
    refine WH.env (v := undef) (gv_false hb197) ?_
    refine hg0 (g := (((z183.length : Nat) : Int) != 1)) (i := 37) (v := undef) rfl (by kernel_rfl) rfl rfl rfl rfl rfl (bk_ hl186 h0137 (.cons _ (.cons _ (.cons_cons _ (.cons _ (.cons_cons _ (.cons_cons _ (.cons_cons _ (.cons_cons _ (.cons_cons _ .slnil)))))))))) (no_tf hb197) ?_
    refine WH.env (v := undef) (gv_false hb197) ?_
    refine hg0 (g := (((z183.length : Nat) : Int) != 1)) (i := 38) (v := undef) rfl (by kernel_rfl) rfl rfl rfl rfl rfl (bk_ hl186 h0137 (.cons _ (.cons _ (.cons_cons _ (.cons _ (.cons_cons _ (.cons_cons _ (.cons_cons _ (.cons_cons _ (.cons_cons _ .slnil)))))))))) (no_tf hb197) ?_
    refine WH.env (v := undef) (gv_false hb197) ?_
    refine hu 39 rfl (bk_ hl186 h0137 (.cons _ (.cons _ (.cons_cons _ (.cons _ (.cons_cons _ (.cons_cons _ (.cons_cons _ (.cons_cons _ (.cons_cons _ .slnil)))))))))) (q_pick_t (v := .bool true) rfl rfl (not_f hb197) (by kernel_rfl)) ?_
    refine WH.done (by kernel_rfl) ?_
    change WC _ _ _ _ _ _
    refine WC.ctk (b := true) (by kernel_rfl) rfl ?_
    refine WC.rs ?_
    refine as_ (v := .bool false) ?_
    refine WR.done ?_
    refine WC.ret ?_
    intro w hw
    obtain rfl := Option.some.inj h
    subst hF
    exact ⟨by kernel_rfl, hw.fr⟩
  ·
   have h := bf hb182 h
   refine hg0 (g := (((((((z65.2.2.length : Nat) : Int) != 1) || ((gt z65.2.2 0).kind != 2)) || (((z113.2.2.length : Nat) : Int) != 0)) || (((z127.length : Nat) : Int) != 1)) || ((gt z127 0).to_ != z178))) (i := 30) (v := undef) rfl (by kernel_rfl) rfl rfl rfl rfl rfl (bk_ (Gh.refl _) h0137 (.cons _ (.cons_cons _ (.cons _ (.cons_cons _ (.cons_cons _ (.cons_cons _ (.cons_cons _ (.cons_cons _ .slnil))))))))) (no_tf hb182) ?_
   refine WH.env (v := undef) (gv_false hb182) ?_
   refine hg0 (g := (((((((z65.2.2.length : Nat) : Int) != 1) || ((gt z65.2.2 0).kind != 2)) || (((z113.2.2.length : Nat) : Int) != 0)) || (((z127.length : Nat) : Int) != 1)) || ((gt z127 0).to_ != z178))) (i := 31) (v := undef) rfl (by kernel_rfl) rfl rfl rfl rfl rfl (bk_ (Gh.refl _) h0137 (.cons _ (.cons_cons _ (.cons _ (.cons_cons _ (.cons_cons _ (.cons_cons _ (.cons_cons _ (.cons_cons _ .slnil))))))))) (no_tf hb182) ?_
   refine WH.env (v := undef) (gv_false hb182) ?_
   refine hg0 (g := (((((((z65.2.2.length : Nat) : Int) != 1) || ((gt z65.2.2 0).kind != 2)) || (((z113.2.2.length : Nat) : Int) != 0)) || (((z127.length : Nat) : Int) != 1)) || ((gt z127 0).to_ != z178))) (i := 32) (v := undef) rfl (by kernel_rfl) rfl rfl rfl rfl rfl (bk_ (Gh.refl _) h0137 (.cons _ (.cons_cons _ (.cons _ (.cons_cons _ (.cons_cons _ (.cons_cons _ (.cons_cons _ (.cons_cons _ .slnil))))))))) (no_tf hb182) ?_
   refine WH.env (v := undef) (gv_false hb182) ?_
   refine hu 33 rfl (bk_ (Gh.refl _) h0137 (.cons _ (.cons_cons _ (.cons _ (.cons_cons _ (.cons_cons _ (.cons_cons _ (.cons_cons _ (.cons_cons _ .slnil))))))))) (q_pick_t (v := .bool true) rfl rfl (not_f hb182) (by kernel_rfl)) ?_
   refine hu 34 rfl (bk_ (Gh.refl _) h0137 (.cons _ (.cons_cons _ (.cons _ (.cons_cons _ (.cons_cons _ (.cons_cons _ (.cons_cons _ (.cons_cons _ .slnil))))))))) (q_move (v := .bool true) rfl (by kernel_rfl)) ?_
   refine hg0 (g := true) (i := 35) (v := undef) rfl (by kernel_rfl) rfl rfl rfl rfl rfl (bk_ (Gh.refl _) h0137 (.cons _ (.cons_cons _ (.cons _ (.cons_cons _ (.cons_cons _ (.cons_cons _ (.cons_cons _ (.cons_cons _ .slnil))))))))) (no_tf (nott rfl)) ?_
   refine WH.env (v := undef) (gv_false (nott rfl)) ?_
   refine hg0 (g := true) (i := 36) (v := undef) rfl (by kernel_rfl) rfl rfl rfl rfl rfl (bk_ (Gh.refl _) h0137 (.cons _ (.cons_cons _ (.cons _ (.cons_cons _ (.cons_cons _ (.cons_cons _ (.cons_cons _ (.cons_cons _ .slnil))))))))) (no_tf (nott rfl)) ?_
   refine WH.env (v := undef) (gv_false (nott rfl)) ?_
   refine hg0 (g := true) (i := 37) (v := undef) rfl (by kernel_rfl) rfl rfl rfl rfl rfl (bk_ (Gh.refl _) h0137 (.cons _ (.cons_cons _ (.cons _ (.cons_cons _ (.cons_cons _ (.cons_cons _ (.cons_cons _ (.cons_cons _ .slnil))))))))) (no_tf (nott rfl)) ?_
   refine WH.env (v := undef) (gv_false (nott rfl)) ?_
   refine hg0 (g := true) (i := 38) (v := undef) rfl (by kernel_rfl) rfl rfl rfl rfl rfl (bk_ (Gh.refl _) h0137 (.cons _ (.cons_cons _ (.cons _ (.cons_cons _ (.cons_cons _ (.cons_cons _ (.cons_cons _ (.cons_cons _ .slnil))))))))) (no_tf (nott rfl)) ?_
   refine WH.env (v := undef) (gv_false (nott rfl)) ?_
   refine hu 39 rfl (bk_ (Gh.refl _) h0137 (.cons _ (.cons_cons _ (.cons _ (.cons_cons _ (.cons_cons _ (.cons_cons _ (.cons_cons _ (.cons_cons _ .slnil))))))))) (q_pickt (v := .bool true) rfl rfl rfl) ?_
   refine WH.done (by kernel_rfl) ?_
   change WC _ _ _ _ _ _
   refine WC.ctk (b := true) (by kernel_rfl) rfl ?_
   refine WC.rs ?_
   refine as_ (v := .bool false) ?_
   refine WR.done ?_
   refine WC.ret ?_
   intro w hw
   obtain rfl := Option.some.inj h
   subst hF
   exact ⟨by kernel_rfl, hw.fr⟩
theorem t_firthlaw15_heavy {Γ : Gh} {w0 : World} {Alist : Option Addr} {clist : Nat} {list : List Rec} (hlist : Sl recT Γ Alist list) (hlistc : list.length ≤ clist) (hs : Sat Γ w0) {r : Int} (h : m_firthlaw15_heavy list = some r) : Calls Tryz.prog 27 #[.slice Alist list.length clist] w0 (fun e w' => e = .returned (.int .i64 r) ∧ Fr no w0 w') := by
 refine calls_of (N := 57) (rs := [2]) (args := [.slice Alist list.length clist]) Tryz.func27 rfl Tryz.ntmps27 Tryz.results27 rfl ?_
 obtain ⟨F, hF⟩ : ∃ F : Fm, F = ⟨no, w0, Γ⟩ := ⟨_, rfl⟩
 refine WC.here (C := CC F Γ []) ?_ (hF ▸ Cur.start0 hs)
 refine WC.rs ?_
 refine as_ (v := .int .i64 0) ?_
 refine WR.done ?_
 refine WC.rs ?_
 refine as_ (v := .int .i64 0) ?_
 refine WR.done ?_
 refine WC.seq ?_
 refine WC.rs ?_
 refine as_ (v := .int .i64 0) ?_
 refine WR.done ?_
 refine WC.block ?_
 refine WC.forI h (fun (i4 : Nat) (n_1 : Int) σ w => slots σ [(0, .slice Alist list.length clist), (3, .int .i64 n_1), (4, .int .i64 ((i4 : Nat) : Int))] ∧ CC F Γ [] w ∧ I64 n_1 ∧ True) ?_ ?_
 ·
  intro w hw
  exact ⟨(sl_ (by kernel_rfl)), hw, (show I64 0 by decide), trivial⟩
 rintro f3 i4 n_1 σ w hi5 hlt6 hge7 ⟨hsl, hw, hr2, -⟩
 refine Wpt.slots hsl ?_
 refine WC.here (C := CC F Γ []) ?_ hw
 clear hw hsl
 refine WC.seq ?_
 refine WC.rs ?_
 refine mv (v := .int .i64 ((i4 : Nat) : Int)) ?_
 refine mv (v := .slice Alist list.length clist) ?_
 refine vb (q_len_slice rfl Tryz.underlying22 rfl) ?_
 refine vb (q_lss rfl rfl rfl) ?_
 refine WR.done ?_
 refine WC.cond (b := (decide (((i4 : Nat) : Int) < ((list.length : Nat) : Int)))) (by kernel_rfl) (fun hb8 => ?_) (fun hb8 => ?_)
 ·
  have hl9 := ilt hb8
  have h := hlt6 hl9
  refine WC.skip ?_
  change WC _ _ _ _ _ _
  refine WC.seq ?_
  refine WC.block ?_
  refine WC.rs ?_
  refine mv (v := .int .i64 n_1) ?_
  refine vb (q_add rfl rfl rfl) ?_
  refine mv (v := .slice Alist list.length clist) ?_
  refine mv (v := .int .i64 ((i4 : Nat) : Int)) ?_
  refine vb (q_ixn (i := i4) Tryz.underlying22 Tryz.sizeOf45 rfl rfl rfl hl9 (hlist.some_ hl9)) ?_
  refine vb (q_field_addr (i4 * 2) fld_45_0 rfl rfl (hlist.some_ hl9) rfl) ?_
  obtain ⟨A10, c11, hx12⟩ := hlist.recT_at i4
  refine vb (q_ld (c := 0) (v := .string (gt list i4).key) (hx12 hl9).2 rfl Tryz.isAgg9 rfl rfl) ?_
  refine vb (q_len_str rfl Tryz.underlying9 rfl) ?_
  refine vb (q_add rfl rfl rfl) ?_
  refine as_ (v := .int .i64 (w64 ((w64 (n_1 + 64)) + ((((gt list i4).key).size : Nat) : Int)))) ?_
  refine WR.done ?_
  refine WC.rs ?_
  refine as_ (v := .int .i64 0) ?_
  refine WR.done ?_
  refine WC.block ?_
  refine WC.forI h (fun (i16 : Nat) (n_13 : Int) σ w => slots σ [(0, .slice Alist list.length clist), (3, .int .i64 n_13), (4, .int .i64 ((i4 : Nat) : Int)), (5, .int .i64 ((i16 : Nat) : Int))] ∧ CC F Γ [] w ∧ I64 n_13 ∧ True) ?_ ?_
  ·
   intro w hw
   exact ⟨(sl_ (by kernel_rfl)), hw, (w64_r _), trivial⟩
  rintro f15 i16 n_13 σ w hi17 hlt18 hge19 ⟨hsl, hw, hr14, -⟩
  refine Wpt.slots hsl ?_
  refine WC.here (C := CC F Γ []) ?_ hw
  clear hw hsl
  refine WC.seq ?_
  refine WC.rs ?_
  refine mv (v := .int .i64 ((i16 : Nat) : Int)) ?_
  refine mv (v := .slice Alist list.length clist) ?_
  refine mv (v := .int .i64 ((i4 : Nat) : Int)) ?_
  refine vb (q_ixn (i := i4) Tryz.underlying22 Tryz.sizeOf45 rfl rfl rfl hl9 (hlist.some_ hl9)) ?_
  refine vb (q_field_addr (i4 * 2 + 1) fld_45_1 rfl rfl (hlist.some_ hl9) rfl) ?_
  obtain ⟨A20, c21, hx22⟩ := hlist.recT_at i4
  refine vb (q_ld (c := 1) (v := .slice A20 ((gt list i4).vers).length c21) (hx22 hl9).2 rfl Tryz.isAgg43 rfl rfl) ?_
  refine vb (q_len_slice rfl Tryz.underlying43 rfl) ?_
  refine vb (q_lss rfl rfl rfl) ?_
  refine WR.done ?_
  refine WC.cond (b := (decide (((i16 : Nat) : Int) < ((((gt list i4).vers).length : Nat) : Int)))) (by kernel_rfl) (fun hb23 => ?_) (fun hb23 => ?_)
  ·
   have hl24 := ilt hb23
   have h := hlt18 hl24
   refine WC.skip ?_
   change WC _ _ _ _ _ _
   refine WC.seq ?_
   refine WC.block ?_
   refine WC.dr (by kernel_rfl) (by kernel_rfl) (fun w hw => hw.drawn _) ?_
   refine wa rfl rfl rfl (q_move (v := .int .i64 n_13) rfl (by kernel_rfl)) ?_
   refine wa rfl rfl rfl (q_add rfl rfl rfl) ?_
   refine wa rfl rfl rfl (q_move (v := .slice Alist list.length clist) rfl (by kernel_rfl)) ?_
   refine wa rfl rfl rfl (q_move (v := .int .i64 ((i4 : Nat) : Int)) rfl (by kernel_rfl)) ?_
   refine wa rfl rfl rfl (q_ixn (i := i4) Tryz.underlying22 Tryz.sizeOf45 rfl rfl rfl hl9 (hlist.some_ hl9)) ?_
   refine wa rfl rfl rfl (q_field_addr (i4 * 2 + 1) fld_45_1 rfl rfl (hlist.some_ hl9) rfl) ?_
   refine wa rfl rfl rfl (q_ld (c := 1) (v := .slice A20 ((gt list i4).vers).length c21) (hx22 hl9).2 rfl Tryz.isAgg43 rfl rfl) ?_
   refine wa rfl rfl rfl (q_move (v := .int .i64 ((i16 : Nat) : Int)) rfl (by kernel_rfl)) ?_
   refine wa rfl rfl rfl (q_ixn (i := i16) Tryz.underlying43 Tryz.sizeOf89 rfl rfl rfl hl24 ((hx22 hl9).1.2.2.some_ hl24)) ?_
   refine wa rfl rfl rfl (q_field_addr (i16 * 5 + 4) fld_89_3 rfl rfl ((hx22 hl9).1.2.2.some_ hl24) rfl) ?_
   obtain ⟨A25, c26, hx27⟩ := (hx22 hl9).1.2.2.verT_at i16
   refine wa rfl rfl rfl (q_ld (c := 4) (v := .string (gt ((gt list i4).vers) i16).val) (hx27 hl24).2 rfl Tryz.isAgg9 rfl rfl) ?_
   refine wa rfl rfl rfl (q_len_str rfl Tryz.underlying9 rfl) ?_
   refine wa rfl rfl rfl (q_add rfl rfl rfl) ?_
   refine wa rfl rfl rfl (q_move (v := .slice Alist list.length clist) rfl (by kernel_rfl)) ?_
   refine wa rfl rfl rfl (q_move (v := .int .i64 ((i4 : Nat) : Int)) rfl (by kernel_rfl)) ?_
   refine wa rfl rfl rfl (q_ixn (i := i4) Tryz.underlying22 Tryz.sizeOf45 rfl rfl rfl hl9 (hlist.some_ hl9)) ?_
   refine wa rfl rfl rfl (q_field_addr (i4 * 2 + 1) fld_45_1 rfl rfl (hlist.some_ hl9) rfl) ?_
   refine wa rfl rfl rfl (q_ld (c := 1) (v := .slice A20 ((gt list i4).vers).length c21) (hx22 hl9).2 rfl Tryz.isAgg43 rfl rfl) ?_
   refine wa rfl rfl rfl (q_move (v := .int .i64 ((i16 : Nat) : Int)) rfl (by kernel_rfl)) ?_
   refine wa rfl rfl rfl (q_ixn (i := i16) Tryz.underlying43 Tryz.sizeOf89 rfl rfl rfl hl24 ((hx22 hl9).1.2.2.some_ hl24)) ?_
   refine wa rfl rfl rfl (q_field_addr (i16 * 5 + 2) fld_89_1 rfl rfl ((hx22 hl9).1.2.2.some_ hl24) rfl) ?_
   obtain ⟨A28, c29, hx30⟩ := (hx22 hl9).1.2.2.verT_at i16
   refine wa rfl rfl rfl (q_ld (c := 2) (v := .slice A28 ((gt ((gt list i4).vers) i16).past).length c29) (hx30 hl24).2 rfl Tryz.isAgg87 rfl rfl) ?_
   refine wa rfl rfl rfl (q_len_slice rfl Tryz.underlying87 rfl) ?_
   refine wa rfl rfl rfl (q_mul rfl rfl rfl) ?_
   refine wa rfl rfl rfl (q_add rfl rfl rfl) ?_
   refine wa rfl rfl rfl (q_assign (v := .int .i64 (w64 ((w64 ((w64 (n_13 + 128)) + ((((gt ((gt list i4).vers) i16).val).size : Nat) : Int))) + (w64 (32 * ((((gt ((gt list i4).vers) i16).past).length : Nat) : Int)))))) rfl (by kernel_rfl)) ?_
   refine WQ.nil ?_
   change WC _ _ _ _ _ _
   refine WC.region ?_
   refine mv (v := .int .i64 ((i16 : Nat) : Int)) ?_
   refine vb (q_add_r (r := ((i16 + 1 : Nat) : Int)) rfl rfl rfl (ctr_len hl24 (hx22 hl9).1.2.2.le)) ?_
   refine as_ (v := .int .i64 ((i16 + 1 : Nat) : Int)) ?_
   refine WR.nil ?_
   intro w hw
   exact ⟨hl24, (w64 ((w64 ((w64 (n_13 + 128)) + ((((gt ((gt list i4).vers) i16).val).size : Nat) : Int))) + (w64 (32 * ((((gt ((gt list i4).vers) i16).past).length : Nat) : Int))))), h, (sl_ (by kernel_rfl)), hw, (w64_r _), trivial⟩
  ·
   have h := hge19 (ige hb23)
   refine WC.exit ?_
   change WC _ _ _ _ _ _
   refine WC.region ?_
   refine mv (v := .int .i64 ((i4 : Nat) : Int)) ?_
   refine vb (q_add_r (r := ((i4 + 1 : Nat) : Int)) rfl rfl rfl (ctr_len hl9 hlist.le)) ?_
   refine as_ (v := .int .i64 ((i4 + 1 : Nat) : Int)) ?_
   refine WR.nil ?_
   intro w hw
   exact ⟨hl9, n_13, h, (sl_ (by kernel_rfl)), hw, hr14, trivial⟩
 ·
  have h := hge7 (ige hb8)
  refine WC.exit ?_
  change WC _ _ _ _ _ _
  refine WC.rs ?_
  refine mv (v := .int .i64 n_1) ?_
  refine as_ (v := .int .i64 n_1) ?_
  refine WR.done ?_
  refine WC.ret ?_
  intro w hw
  obtain rfl := Option.some.inj h
  subst hF
  exact ⟨by kernel_rfl, hw.fr⟩
theorem t_firthref03_Dot {Γ : Gh} {w0 : World} (d : Dot) (hd : Dot.fits Γ  d) (hs : Sat Γ w0) {r : Bool} (h : m_firthref03_Dot d = some r) : Calls Tryz.prog 115 #[.agg #[.int .i64 d.s, .int .i64 d.n]] w0 (fun e w' => e = .returned (.bool r) ∧ Fr no w0 w') := by
 refine calls_of (N := 21) (rs := [2]) (args := [.agg #[.int .i64 d.s, .int .i64 d.n]]) Tryz.func115 rfl Tryz.ntmps115 Tryz.results115 rfl ?_
 obtain ⟨F, hF⟩ : ∃ F : Fm, F = ⟨no, w0, Γ⟩ := ⟨_, rfl⟩
 refine WC.here (C := CC F Γ []) ?_ (hF ▸ Cur.start0 hs)
 refine WC.rs ?_
 refine e_box (v := .agg #[.int .i64 d.s, .int .i64 d.n]) rfl rfl rfl rfl (by kernel_rfl) ?_
 intro g1
 refine as_ (v := .bool false) ?_
 refine WR.done ?_
 refine WC.rs ?_
 refine vb (q_fl 0 fld_86_0 rfl rfl rfl) ?_
 refine vb (q_ldl (i := 0) (v := .int .i64 d.s) rfl rfl Tryz.isAgg3 rfl rfl) ?_
 refine vb (q_geq rfl rfl rfl) ?_
 refine mv (v := .bool (decide (1 ≤ d.s))) ?_
 refine vg1 rfl rfl rfl rfl rfl (fun hg2 => QV.qo (q_fl 0 fld_86_0 rfl rfl rfl)) ?_
 refine vg1 rfl rfl rfl rfl rfl (fun hg3 => QV.qo (q_ldl (i := 0) (v := .int .i64 d.s) rfl rfl Tryz.isAgg3 (gu hg3 rfl) rfl)) ?_
 refine vg1 rfl rfl rfl rfl rfl (fun hg4 => QV.qo (q_leq rfl (gu hg4 rfl) rfl)) ?_
 refine vb (q_pick rfl rfl (pk_and' (g := (decide (1 ≤ d.s))) (y := (decide (d.s ≤ 16))))) ?_
 refine mv (v := .bool ((decide (1 ≤ d.s)) && (decide (d.s ≤ 16)))) ?_
 refine vg1 rfl rfl rfl rfl rfl (fun hg5 => QV.qo (q_fl 1 fld_86_1 rfl rfl rfl)) ?_
 refine vg1 rfl rfl rfl rfl rfl (fun hg6 => QV.qo (q_ldl (i := 0) (v := .int .i64 d.n) rfl rfl Tryz.isAgg2 (gu hg6 rfl) rfl)) ?_
 refine vg1 rfl rfl rfl rfl rfl (fun hg7 => QV.qo (q_geq rfl (gu hg7 rfl) rfl)) ?_
 refine vb (q_pick rfl rfl (pk_and' (g := ((decide (1 ≤ d.s)) && (decide (d.s ≤ 16)))) (y := (decide (1 ≤ d.n))))) ?_
 refine mv (v := .bool (((decide (1 ≤ d.s)) && (decide (d.s ≤ 16))) && (decide (1 ≤ d.n)))) ?_
 refine vg1 rfl rfl rfl rfl rfl (fun hg8 => QV.qo (q_fl 1 fld_86_1 rfl rfl rfl)) ?_
 refine vg1 rfl rfl rfl rfl rfl (fun hg9 => QV.qo (q_ldl (i := 0) (v := .int .i64 d.n) rfl rfl Tryz.isAgg2 (gu hg9 rfl) rfl)) ?_
 refine vg1 rfl rfl rfl rfl rfl (fun hg10 => QV.qo (q_leq rfl (gu hg10 rfl) rfl)) ?_
 refine vb (q_pick rfl rfl (pk_and' (g := (((decide (1 ≤ d.s)) && (decide (d.s ≤ 16))) && (decide (1 ≤ d.n)))) (y := (decide (d.n ≤ 4611686018427387904))))) ?_
 refine as_ (v := .bool ((((decide (1 ≤ d.s)) && (decide (d.s ≤ 16))) && (decide (1 ≤ d.n))) && (decide (d.n ≤ 4611686018427387904)))) ?_
 refine WR.done ?_
 refine WC.ret ?_
 intro w hw
 obtain rfl := Option.some.inj h
 subst hF
 exact ⟨by kernel_rfl, hw.fr⟩
theorem t_firthref03_Right {Γ : Gh} {w0 : World} {Al : Option Addr} {cl : Nat} {l : List Span} (hl : Sl spanT Γ Al l) (hlc : l.length ≤ cl) (hs : Sat Γ w0) {r : Bool} (h : m_firthref03_Right l = some r) : Calls Tryz.prog 116 #[.slice Al l.length cl] w0 (fun e w' => e = .returned (.bool r) ∧ Fr no w0 w') := by
 refine calls_of (N := 99) (rs := [2]) (args := [.slice Al l.length cl]) Tryz.func116 rfl Tryz.ntmps116 Tryz.results116 rfl ?_
 obtain ⟨F, hF⟩ : ∃ F : Fm, F = ⟨no, w0, Γ⟩ := ⟨_, rfl⟩
 refine WC.here (C := CC F Γ []) ?_ (hF ▸ Cur.start0 hs)
 refine WC.rs ?_
 refine as_ (v := .bool false) ?_
 refine WR.done ?_
 refine WC.seq ?_
 refine WC.rs ?_
 refine mv (v := .slice Al l.length cl) ?_
 refine vb (q_len_slice rfl Tryz.underlying87 rfl) ?_
 refine vb (q_gtr rfl rfl rfl) ?_
 refine WR.done ?_
 refine WC.cif h (by kernel_rfl) (fun hb1 h => ?_) (fun hb1 h => ?_)
 ·
  refine WC.rs ?_
  refine as_ (v := .bool false) ?_
  refine WR.done ?_
  refine WC.ret ?_
  intro w hw
  obtain rfl := Option.some.inj h
  subst hF
  exact ⟨by kernel_rfl, hw.fr⟩
 ·
  refine WC.skip ?_
  change WC _ _ _ _ _ _
  refine WC.seq ?_
  refine WC.rs ?_
  refine as_ (v := .int .i64 0) ?_
  refine WR.done ?_
  refine WC.block ?_
  refine WC.forI h (fun (i3 : Nat) (s : Unit) σ w => match s with | () => slots σ [(0, .slice Al l.length cl), (3, .int .i64 ((i3 : Nat) : Int))] ∧ CC F Γ [] w ∧ True) ?_ ?_
  ·
   intro w hw
   exact ⟨(sl_ (by kernel_rfl)), hw, trivial⟩
  rintro f2 i3 ⟨⟩ σ w hi4 hlt5 hge6 ⟨hsl, hw, -⟩
  refine Wpt.slots hsl ?_
  refine WC.here (C := CC F Γ []) ?_ hw
  clear hw hsl
  refine WC.seq ?_
  refine WC.rs ?_
  refine mv (v := .int .i64 ((i3 : Nat) : Int)) ?_
  refine mv (v := .slice Al l.length cl) ?_
  refine vb (q_len_slice rfl Tryz.underlying87 rfl) ?_
  refine vb (q_lss rfl rfl rfl) ?_
  refine WR.done ?_
  refine WC.cond (b := (decide (((i3 : Nat) : Int) < ((l.length : Nat) : Int)))) (by kernel_rfl) (fun hb7 => ?_) (fun hb7 => ?_)
  ·
   have hl8 := ilt hb7
   have h := hlt5 hl8
   refine WC.skip ?_
   change WC _ _ _ _ _ _
   refine WC.seq ?_
   refine WC.block ?_
   refine WC.seq ?_
   refine WC.seq ?_
   refine WC.dr (by kernel_rfl) (by kernel_rfl) (fun w hw => hw.drawn _) ?_
   refine wa rfl rfl rfl (q_move (v := .slice Al l.length cl) rfl (by kernel_rfl)) ?_
   refine wa rfl rfl rfl (q_move (v := .int .i64 ((i3 : Nat) : Int)) rfl (by kernel_rfl)) ?_
   refine wa rfl rfl rfl (q_ixn (i := i3) Tryz.underlying87 Tryz.sizeOf93 rfl rfl rfl hl8 (hl.some_ hl8)) ?_
   refine wa rfl rfl rfl (q_field_addr (i3 * 3) fld_93_0 rfl rfl (hl.some_ hl8) rfl) ?_
   refine wa rfl rfl rfl (q_ld (c := 0) (v := .int .i64 (gt l i3).s) (hl.spanT_at hl8).2 rfl Tryz.isAgg3 rfl rfl) ?_
   refine wa rfl rfl rfl (q_move (v := .slice Al l.length cl) rfl (by kernel_rfl)) ?_
   refine wa rfl rfl rfl (q_move (v := .int .i64 ((i3 : Nat) : Int)) rfl (by kernel_rfl)) ?_
   refine wa rfl rfl rfl (q_ixn (i := i3) Tryz.underlying87 Tryz.sizeOf93 rfl rfl rfl hl8 (hl.some_ hl8)) ?_
   refine wa rfl rfl rfl (q_field_addr (i3 * 3 + 1) fld_93_1 rfl rfl (hl.some_ hl8) rfl) ?_
   refine wa rfl rfl rfl (q_ld (c := 1) (v := .int .i64 (gt l i3).f) (hl.spanT_at hl8).2 rfl Tryz.isAgg2 rfl rfl) ?_
   refine wa rfl rfl rfl (q_build' (v := .agg #[.int .i64 (gt l i3).s, .int .i64 (gt l i3).f]) rfl (bargs2 rfl rfl) (fun w => by kernel_rfl)) ?_
   obtain ⟨z9, hz10, h⟩ := bnd h
   refine wc rfl rfl rfl (q_call (call_run Tryz.call115 rfl rfl (by kernel_rfl)) (fun w hw => t_firthref03_Dot (Γ := Gh.all w) (⟨(gt l i3).s, (gt l i3).f⟩ : Dot) ⟨(hl.spanT_at hl8).1.1, (hl.spanT_at hl8).1.2.1⟩ (Sat.all w) hz10)) ?_
   refine wa rfl rfl rfl (q_not rfl rfl) ?_
   refine wa rfl rfl rfl (q_move (v := .bool (!z9)) rfl (by kernel_rfl)) ?_
   refine wg0 rfl rfl rfl rfl rfl (fun hg11 => QV.qo (q_move (v := .slice Al l.length cl) rfl (by kernel_rfl))) ?_
   refine wg0 rfl rfl rfl rfl rfl (fun hg12 => QV.qo (q_move (v := .int .i64 ((i3 : Nat) : Int)) rfl (by kernel_rfl))) ?_
   refine wg0 rfl rfl rfl rfl rfl (fun hg13 => QV.qo (q_ixn (i := i3) Tryz.underlying87 Tryz.sizeOf93 rfl (gu hg13 rfl) (gu hg13 rfl) hl8 (hl.some_ hl8))) ?_
   refine wg0 rfl rfl rfl rfl rfl (fun hg14 => QV.qo (q_field_addr (i3 * 3) fld_93_0 rfl (gu hg14 rfl) (hl.some_ hl8) rfl)) ?_
   refine wg0 rfl rfl rfl rfl rfl (fun hg15 => QV.qo (q_ld (c := 0) (v := .int .i64 (gt l i3).s) (hl.spanT_at hl8).2 rfl Tryz.isAgg3 (gu hg15 rfl) rfl)) ?_
   refine wg0 rfl rfl rfl rfl rfl (fun hg16 => QV.qo (q_move (v := .slice Al l.length cl) rfl (by kernel_rfl))) ?_
   refine wg0 rfl rfl rfl rfl rfl (fun hg17 => QV.qo (q_move (v := .int .i64 ((i3 : Nat) : Int)) rfl (by kernel_rfl))) ?_
   refine wg0 rfl rfl rfl rfl rfl (fun hg18 => QV.qo (q_ixn (i := i3) Tryz.underlying87 Tryz.sizeOf93 rfl (gu hg18 rfl) (gu hg18 rfl) hl8 (hl.some_ hl8))) ?_
   refine wg0 rfl rfl rfl rfl rfl (fun hg19 => QV.qo (q_field_addr (i3 * 3 + 2) fld_93_2 rfl (gu hg19 rfl) (hl.some_ hl8) rfl)) ?_
   refine wg0 rfl rfl rfl rfl rfl (fun hg20 => QV.qo (q_ld (c := 2) (v := .int .i64 (gt l i3).t) (hl.spanT_at hl8).2 rfl Tryz.isAgg2 (gu hg20 rfl) rfl)) ?_
   refine wg0 rfl rfl rfl rfl rfl (fun hg21 => QV.qo (q_build' (v := .agg #[.int .i64 (gt l i3).s, .int .i64 (gt l i3).t]) rfl (bargs2 (gu hg21 rfl) (gu hg21 rfl)) (fun w => by kernel_rfl))) ?_
   obtain ⟨z23, hz24, h⟩ := bnd h
   refine wg0 rfl rfl rfl rfl rfl (fun hg22 => (q_call (call_run Tryz.call115 rfl rfl (args1 (gu hg22 rfl))) (fun w hw => t_firthref03_Dot (Γ := Gh.all w) (⟨(gt l i3).s, (gt l i3).t⟩ : Dot) ⟨(hl.spanT_at hl8).1.1, (hl.spanT_at hl8).1.2.2⟩ (Sat.all w) (gc_of hz24 hg22)))) ?_
   refine wg0 rfl rfl rfl rfl rfl (fun hg25 => QV.qo (q_not rfl (gu hg25 rfl))) ?_
   refine wa rfl rfl rfl (q_pick rfl rfl (pk_or' (g := (!z9)) (y := (!z23)))) ?_
   refine wa rfl rfl rfl (q_move (v := .bool ((!z9) || (!z23))) rfl (by kernel_rfl)) ?_
   refine wg0 rfl rfl rfl rfl rfl (fun hg26 => QV.qo (q_move (v := .slice Al l.length cl) rfl (by kernel_rfl))) ?_
   refine wg0 rfl rfl rfl rfl rfl (fun hg27 => QV.qo (q_move (v := .int .i64 ((i3 : Nat) : Int)) rfl (by kernel_rfl))) ?_
   refine wg0 rfl rfl rfl rfl rfl (fun hg28 => QV.qo (q_ixn (i := i3) Tryz.underlying87 Tryz.sizeOf93 rfl (gu hg28 rfl) (gu hg28 rfl) hl8 (hl.some_ hl8))) ?_
   refine wg0 rfl rfl rfl rfl rfl (fun hg29 => QV.qo (q_field_addr (i3 * 3 + 1) fld_93_1 rfl (gu hg29 rfl) (hl.some_ hl8) rfl)) ?_
   refine wg0 rfl rfl rfl rfl rfl (fun hg30 => QV.qo (q_ld (c := 1) (v := .int .i64 (gt l i3).f) (hl.spanT_at hl8).2 rfl Tryz.isAgg2 (gu hg30 rfl) rfl)) ?_
   refine wg0 rfl rfl rfl rfl rfl (fun hg31 => QV.qo (q_move (v := .slice Al l.length cl) rfl (by kernel_rfl))) ?_
   refine wg0 rfl rfl rfl rfl rfl (fun hg32 => QV.qo (q_move (v := .int .i64 ((i3 : Nat) : Int)) rfl (by kernel_rfl))) ?_
   refine wg0 rfl rfl rfl rfl rfl (fun hg33 => QV.qo (q_ixn (i := i3) Tryz.underlying87 Tryz.sizeOf93 rfl (gu hg33 rfl) (gu hg33 rfl) hl8 (hl.some_ hl8))) ?_
   refine wg0 rfl rfl rfl rfl rfl (fun hg34 => QV.qo (q_field_addr (i3 * 3 + 2) fld_93_2 rfl (gu hg34 rfl) (hl.some_ hl8) rfl)) ?_
   refine wg0 rfl rfl rfl rfl rfl (fun hg35 => QV.qo (q_ld (c := 2) (v := .int .i64 (gt l i3).t) (hl.spanT_at hl8).2 rfl Tryz.isAgg2 (gu hg35 rfl) rfl)) ?_
   refine wg0 rfl rfl rfl rfl rfl (fun hg36 => QV.qo (q_gtr rfl (gu hg36 rfl) (gu hg36 rfl))) ?_
   refine wa rfl rfl rfl (q_pick rfl rfl (pk_or' (g := ((!z9) || (!z23))) (y := (decide ((gt l i3).t < (gt l i3).f))))) ?_
   refine WQ.nil ?_
   change WC _ _ _ _ _ _
   refine WC.cif h (by kernel_rfl) (fun hb37 h => ?_) (fun hb37 h => ?_)
   ·
    refine WC.rs ?_
    refine as_ (v := .bool false) ?_
    refine WR.done ?_
    refine WC.ret ?_
    intro w hw
    obtain rfl := Option.some.inj h
    subst hF
    exact ⟨by kernel_rfl, hw.fr⟩
   ·
    refine WC.skip ?_
    change WC _ _ _ _ _ _
    refine WC.seq ?_
    refine WC.dr (by kernel_rfl) (by kernel_rfl) (fun w hw => hw.drawn _) ?_
    refine wa rfl rfl rfl (q_move (v := .int .i64 ((i3 : Nat) : Int)) rfl (by kernel_rfl)) ?_
    refine wa rfl rfl rfl (q_gtr rfl rfl rfl) ?_
    refine wa rfl rfl rfl (q_move (v := .bool (decide (0 < ((i3 : Nat) : Int)))) rfl (by kernel_rfl)) ?_
    refine wg1 rfl rfl rfl rfl rfl (fun hg38 => QV.qo (q_move (v := .slice Al l.length cl) rfl (by kernel_rfl))) ?_
    refine wg1 rfl rfl rfl rfl rfl (fun hg39 => QV.qo (q_move (v := .int .i64 ((i3 : Nat) : Int)) rfl (by kernel_rfl))) ?_
    refine wg1 rfl rfl rfl rfl rfl (fun hg40 => QV.qo (q_ixn (i := i3) Tryz.underlying87 Tryz.sizeOf93 rfl (gu hg40 rfl) (gu hg40 rfl) hl8 (hl.some_ hl8))) ?_
    refine wg1 rfl rfl rfl rfl rfl (fun hg41 => QV.qo (q_field_addr (i3 * 3) fld_93_0 rfl (gu hg41 rfl) (hl.some_ hl8) rfl)) ?_
    refine wg1 rfl rfl rfl rfl rfl (fun hg42 => QV.qo (q_ld (c := 0) (v := .int .i64 (gt l i3).s) (hl.spanT_at hl8).2 rfl Tryz.isAgg3 (gu hg42 rfl) rfl)) ?_
    refine wg1 rfl rfl rfl rfl rfl (fun hg43 => QV.qo (q_move (v := .slice Al l.length cl) rfl (by kernel_rfl))) ?_
    refine wg1 rfl rfl rfl rfl rfl (fun hg44 => QV.qo (q_move (v := .int .i64 ((i3 : Nat) : Int)) rfl (by kernel_rfl))) ?_
    refine wg1 rfl rfl rfl rfl rfl (fun hg45 => QV.qo (q_sub rfl (gu hg45 rfl) rfl)) ?_
    obtain ⟨hk47, h⟩ := chk_some h
    refine wg1 rfl rfl rfl rfl rfl (fun hg46 => QV.qo (q_ix Tryz.underlying87 Tryz.sizeOf93 rfl (gu hg46 rfl) (gu hg46 rfl) (imp_of hk47 hg46) (hl.some_ (inb_lt (imp_of hk47 hg46))))) ?_
    refine wg1 rfl rfl rfl rfl rfl (fun hg48 => QV.qo (q_field_addr (((w64 (((i3 : Nat) : Int) - 1)).toNat) * 3) fld_93_0 rfl (gu hg48 rfl) (hl.some_ (inb_lt (imp_of hk47 hg48))) rfl)) ?_
    refine wg1 rfl rfl rfl rfl rfl (fun hg49 => QV.qo (q_ld (c := 0) (v := .int .i64 (gt l ((w64 (((i3 : Nat) : Int) - 1)).toNat)).s) (hl.spanT_at (inb_lt (imp_of hk47 hg49))).2 rfl Tryz.isAgg3 (gu hg49 rfl) rfl)) ?_
    refine wg1 rfl rfl rfl rfl rfl (fun hg50 => QV.qo (q_lss rfl (gu hg50 rfl) (gu hg50 rfl))) ?_
    refine wg1 rfl rfl rfl rfl rfl (fun hg51 => QV.qo (q_move (v := .bool (decide ((gt l i3).s < (gt l ((w64 (((i3 : Nat) : Int) - 1)).toNat)).s))) rfl (gu hg51 rfl))) ?_
    refine wh0 (c0 := (decide (0 < ((i3 : Nat) : Int)))) (g := (decide ((gt l i3).s < (gt l ((w64 (((i3 : Nat) : Int) - 1)).toNat)).s))) rfl rfl rfl rfl rfl (fun hg52 => QV.qo (q_move (v := .slice Al l.length cl) rfl (by kernel_rfl))) ?_
    refine wh0 (c0 := (decide (0 < ((i3 : Nat) : Int)))) (g := (decide ((gt l i3).s < (gt l ((w64 (((i3 : Nat) : Int) - 1)).toNat)).s))) rfl rfl rfl rfl rfl (fun hg53 => QV.qo (q_move (v := .int .i64 ((i3 : Nat) : Int)) rfl (by kernel_rfl))) ?_
    refine wh0 (c0 := (decide (0 < ((i3 : Nat) : Int)))) (g := (decide ((gt l i3).s < (gt l ((w64 (((i3 : Nat) : Int) - 1)).toNat)).s))) rfl rfl rfl rfl rfl (fun hg54 => QV.qo (q_ixn (i := i3) Tryz.underlying87 Tryz.sizeOf93 rfl (gu hg54 rfl) (gu hg54 rfl) hl8 (hl.some_ hl8))) ?_
    refine wh0 (c0 := (decide (0 < ((i3 : Nat) : Int)))) (g := (decide ((gt l i3).s < (gt l ((w64 (((i3 : Nat) : Int) - 1)).toNat)).s))) rfl rfl rfl rfl rfl (fun hg55 => QV.qo (q_field_addr (i3 * 3) fld_93_0 rfl (gu hg55 rfl) (hl.some_ hl8) rfl)) ?_
    refine wh0 (c0 := (decide (0 < ((i3 : Nat) : Int)))) (g := (decide ((gt l i3).s < (gt l ((w64 (((i3 : Nat) : Int) - 1)).toNat)).s))) rfl rfl rfl rfl rfl (fun hg56 => QV.qo (q_ld (c := 0) (v := .int .i64 (gt l i3).s) (hl.spanT_at hl8).2 rfl Tryz.isAgg3 (gu hg56 rfl) rfl)) ?_
    refine wh0 (c0 := (decide (0 < ((i3 : Nat) : Int)))) (g := (decide ((gt l i3).s < (gt l ((w64 (((i3 : Nat) : Int) - 1)).toNat)).s))) rfl rfl rfl rfl rfl (fun hg57 => QV.qo (q_move (v := .slice Al l.length cl) rfl (by kernel_rfl))) ?_
    refine wh0 (c0 := (decide (0 < ((i3 : Nat) : Int)))) (g := (decide ((gt l i3).s < (gt l ((w64 (((i3 : Nat) : Int) - 1)).toNat)).s))) rfl rfl rfl rfl rfl (fun hg58 => QV.qo (q_move (v := .int .i64 ((i3 : Nat) : Int)) rfl (by kernel_rfl))) ?_
    refine wh0 (c0 := (decide (0 < ((i3 : Nat) : Int)))) (g := (decide ((gt l i3).s < (gt l ((w64 (((i3 : Nat) : Int) - 1)).toNat)).s))) rfl rfl rfl rfl rfl (fun hg59 => QV.qo (q_sub rfl (gu hg59 rfl) rfl)) ?_
    refine wh0 (c0 := (decide (0 < ((i3 : Nat) : Int)))) (g := (decide ((gt l i3).s < (gt l ((w64 (((i3 : Nat) : Int) - 1)).toNat)).s))) rfl rfl rfl rfl rfl (fun hg60 => QV.qo (q_ix Tryz.underlying87 Tryz.sizeOf93 rfl (gu hg60 rfl) (gu hg60 rfl) (imp_of hk47 (and_l hg60)) (hl.some_ (inb_lt (imp_of hk47 (and_l hg60)))))) ?_
    refine wh0 (c0 := (decide (0 < ((i3 : Nat) : Int)))) (g := (decide ((gt l i3).s < (gt l ((w64 (((i3 : Nat) : Int) - 1)).toNat)).s))) rfl rfl rfl rfl rfl (fun hg61 => QV.qo (q_field_addr (((w64 (((i3 : Nat) : Int) - 1)).toNat) * 3) fld_93_0 rfl (gu hg61 rfl) (hl.some_ (inb_lt (imp_of hk47 (and_l hg61)))) rfl)) ?_
    refine wh0 (c0 := (decide (0 < ((i3 : Nat) : Int)))) (g := (decide ((gt l i3).s < (gt l ((w64 (((i3 : Nat) : Int) - 1)).toNat)).s))) rfl rfl rfl rfl rfl (fun hg62 => QV.qo (q_ld (c := 0) (v := .int .i64 (gt l ((w64 (((i3 : Nat) : Int) - 1)).toNat)).s) (hl.spanT_at (inb_lt (imp_of hk47 (and_l hg62)))).2 rfl Tryz.isAgg3 (gu hg62 rfl) rfl)) ?_
    refine wh0 (c0 := (decide (0 < ((i3 : Nat) : Int)))) (g := (decide ((gt l i3).s < (gt l ((w64 (((i3 : Nat) : Int) - 1)).toNat)).s))) rfl rfl rfl rfl rfl (fun hg63 => QV.qo (q_eql rfl (gu hg63 rfl) (gu hg63 rfl))) ?_
    refine wh0 (c0 := (decide (0 < ((i3 : Nat) : Int)))) (g := (decide ((gt l i3).s < (gt l ((w64 (((i3 : Nat) : Int) - 1)).toNat)).s))) rfl rfl rfl rfl rfl (fun hg64 => QV.qo (q_move (v := .bool ((gt l i3).s == (gt l ((w64 (((i3 : Nat) : Int) - 1)).toNat)).s)) rfl (gu hg64 rfl))) ?_
    refine wh1 (c0 := ((decide (0 < ((i3 : Nat) : Int))) && (!(decide ((gt l i3).s < (gt l ((w64 (((i3 : Nat) : Int) - 1)).toNat)).s))))) (g := ((gt l i3).s == (gt l ((w64 (((i3 : Nat) : Int) - 1)).toNat)).s)) rfl rfl rfl rfl rfl (fun hg65 => QV.qo (q_move (v := .slice Al l.length cl) rfl (by kernel_rfl))) ?_
    refine wh1 (c0 := ((decide (0 < ((i3 : Nat) : Int))) && (!(decide ((gt l i3).s < (gt l ((w64 (((i3 : Nat) : Int) - 1)).toNat)).s))))) (g := ((gt l i3).s == (gt l ((w64 (((i3 : Nat) : Int) - 1)).toNat)).s)) rfl rfl rfl rfl rfl (fun hg66 => QV.qo (q_move (v := .int .i64 ((i3 : Nat) : Int)) rfl (by kernel_rfl))) ?_
    refine wh1 (c0 := ((decide (0 < ((i3 : Nat) : Int))) && (!(decide ((gt l i3).s < (gt l ((w64 (((i3 : Nat) : Int) - 1)).toNat)).s))))) (g := ((gt l i3).s == (gt l ((w64 (((i3 : Nat) : Int) - 1)).toNat)).s)) rfl rfl rfl rfl rfl (fun hg67 => QV.qo (q_ixn (i := i3) Tryz.underlying87 Tryz.sizeOf93 rfl (gu hg67 rfl) (gu hg67 rfl) hl8 (hl.some_ hl8))) ?_
    refine wh1 (c0 := ((decide (0 < ((i3 : Nat) : Int))) && (!(decide ((gt l i3).s < (gt l ((w64 (((i3 : Nat) : Int) - 1)).toNat)).s))))) (g := ((gt l i3).s == (gt l ((w64 (((i3 : Nat) : Int) - 1)).toNat)).s)) rfl rfl rfl rfl rfl (fun hg68 => QV.qo (q_field_addr (i3 * 3 + 1) fld_93_1 rfl (gu hg68 rfl) (hl.some_ hl8) rfl)) ?_
    refine wh1 (c0 := ((decide (0 < ((i3 : Nat) : Int))) && (!(decide ((gt l i3).s < (gt l ((w64 (((i3 : Nat) : Int) - 1)).toNat)).s))))) (g := ((gt l i3).s == (gt l ((w64 (((i3 : Nat) : Int) - 1)).toNat)).s)) rfl rfl rfl rfl rfl (fun hg69 => QV.qo (q_ld (c := 1) (v := .int .i64 (gt l i3).f) (hl.spanT_at hl8).2 rfl Tryz.isAgg2 (gu hg69 rfl) rfl)) ?_
    refine wh1 (c0 := ((decide (0 < ((i3 : Nat) : Int))) && (!(decide ((gt l i3).s < (gt l ((w64 (((i3 : Nat) : Int) - 1)).toNat)).s))))) (g := ((gt l i3).s == (gt l ((w64 (((i3 : Nat) : Int) - 1)).toNat)).s)) rfl rfl rfl rfl rfl (fun hg70 => QV.qo (q_sub rfl (gu hg70 rfl) rfl)) ?_
    refine wh1 (c0 := ((decide (0 < ((i3 : Nat) : Int))) && (!(decide ((gt l i3).s < (gt l ((w64 (((i3 : Nat) : Int) - 1)).toNat)).s))))) (g := ((gt l i3).s == (gt l ((w64 (((i3 : Nat) : Int) - 1)).toNat)).s)) rfl rfl rfl rfl rfl (fun hg71 => QV.qo (q_move (v := .slice Al l.length cl) rfl (by kernel_rfl))) ?_
    refine wh1 (c0 := ((decide (0 < ((i3 : Nat) : Int))) && (!(decide ((gt l i3).s < (gt l ((w64 (((i3 : Nat) : Int) - 1)).toNat)).s))))) (g := ((gt l i3).s == (gt l ((w64 (((i3 : Nat) : Int) - 1)).toNat)).s)) rfl rfl rfl rfl rfl (fun hg72 => QV.qo (q_move (v := .int .i64 ((i3 : Nat) : Int)) rfl (by kernel_rfl))) ?_
    refine wh1 (c0 := ((decide (0 < ((i3 : Nat) : Int))) && (!(decide ((gt l i3).s < (gt l ((w64 (((i3 : Nat) : Int) - 1)).toNat)).s))))) (g := ((gt l i3).s == (gt l ((w64 (((i3 : Nat) : Int) - 1)).toNat)).s)) rfl rfl rfl rfl rfl (fun hg73 => QV.qo (q_sub rfl (gu hg73 rfl) rfl)) ?_
    refine wh1 (c0 := ((decide (0 < ((i3 : Nat) : Int))) && (!(decide ((gt l i3).s < (gt l ((w64 (((i3 : Nat) : Int) - 1)).toNat)).s))))) (g := ((gt l i3).s == (gt l ((w64 (((i3 : Nat) : Int) - 1)).toNat)).s)) rfl rfl rfl rfl rfl (fun hg74 => QV.qo (q_ix Tryz.underlying87 Tryz.sizeOf93 rfl (gu hg74 rfl) (gu hg74 rfl) (imp_of hk47 (and_l (and_l hg74))) (hl.some_ (inb_lt (imp_of hk47 (and_l (and_l hg74))))))) ?_
    refine wh1 (c0 := ((decide (0 < ((i3 : Nat) : Int))) && (!(decide ((gt l i3).s < (gt l ((w64 (((i3 : Nat) : Int) - 1)).toNat)).s))))) (g := ((gt l i3).s == (gt l ((w64 (((i3 : Nat) : Int) - 1)).toNat)).s)) rfl rfl rfl rfl rfl (fun hg75 => QV.qo (q_field_addr (((w64 (((i3 : Nat) : Int) - 1)).toNat) * 3 + 2) fld_93_2 rfl (gu hg75 rfl) (hl.some_ (inb_lt (imp_of hk47 (and_l (and_l hg75))))) rfl)) ?_
    refine wh1 (c0 := ((decide (0 < ((i3 : Nat) : Int))) && (!(decide ((gt l i3).s < (gt l ((w64 (((i3 : Nat) : Int) - 1)).toNat)).s))))) (g := ((gt l i3).s == (gt l ((w64 (((i3 : Nat) : Int) - 1)).toNat)).s)) rfl rfl rfl rfl rfl (fun hg76 => QV.qo (q_ld (c := 2) (v := .int .i64 (gt l ((w64 (((i3 : Nat) : Int) - 1)).toNat)).t) (hl.spanT_at (inb_lt (imp_of hk47 (and_l (and_l hg76))))).2 rfl Tryz.isAgg2 (gu hg76 rfl) rfl)) ?_
    refine wh1 (c0 := ((decide (0 < ((i3 : Nat) : Int))) && (!(decide ((gt l i3).s < (gt l ((w64 (((i3 : Nat) : Int) - 1)).toNat)).s))))) (g := ((gt l i3).s == (gt l ((w64 (((i3 : Nat) : Int) - 1)).toNat)).s)) rfl rfl rfl rfl rfl (fun hg77 => QV.qo (q_leq rfl (gu hg77 rfl) (gu hg77 rfl))) ?_
    refine wh0 (c0 := (decide (0 < ((i3 : Nat) : Int)))) (g := (decide ((gt l i3).s < (gt l ((w64 (((i3 : Nat) : Int) - 1)).toNat)).s))) rfl rfl rfl rfl rfl (fun hg78 => QV.qo (q_pick rfl (gu hg78 rfl) (pk_and (c := ((decide (0 < ((i3 : Nat) : Int))) && (!(decide ((gt l i3).s < (gt l ((w64 (((i3 : Nat) : Int) - 1)).toNat)).s))))) (g := ((gt l i3).s == (gt l ((w64 (((i3 : Nat) : Int) - 1)).toNat)).s)) (y := (decide ((w64 ((gt l i3).f - 1)) ≤ (gt l ((w64 (((i3 : Nat) : Int) - 1)).toNat)).t))) hg78))) ?_
    refine wg1 rfl rfl rfl rfl rfl (fun hg79 => QV.qo (q_pick rfl (gu hg79 rfl) (pk_or (c := (decide (0 < ((i3 : Nat) : Int)))) (g := (decide ((gt l i3).s < (gt l ((w64 (((i3 : Nat) : Int) - 1)).toNat)).s))) (y := (((gt l i3).s == (gt l ((w64 (((i3 : Nat) : Int) - 1)).toNat)).s) && (decide ((w64 ((gt l i3).f - 1)) ≤ (gt l ((w64 (((i3 : Nat) : Int) - 1)).toNat)).t)))) hg79))) ?_
    refine wa rfl rfl rfl (q_pick rfl rfl (pk_and' (g := (decide (0 < ((i3 : Nat) : Int)))) (y := ((decide ((gt l i3).s < (gt l ((w64 (((i3 : Nat) : Int) - 1)).toNat)).s)) || (((gt l i3).s == (gt l ((w64 (((i3 : Nat) : Int) - 1)).toNat)).s) && (decide ((w64 ((gt l i3).f - 1)) ≤ (gt l ((w64 (((i3 : Nat) : Int) - 1)).toNat)).t))))))) ?_
    refine WQ.nil ?_
    change WC _ _ _ _ _ _
    refine WC.cif h (by kernel_rfl) (fun hb80 h => ?_) (fun hb80 h => ?_)
    ·
     refine WC.rs ?_
     refine as_ (v := .bool false) ?_
     refine WR.done ?_
     refine WC.ret ?_
     intro w hw
     obtain rfl := Option.some.inj h
     subst hF
     exact ⟨by kernel_rfl, hw.fr⟩
    ·
     refine WC.skip ?_
     change WC _ _ _ _ _ _
     refine WC.region ?_
     refine mv (v := .int .i64 ((i3 : Nat) : Int)) ?_
     refine vb (q_add_r (r := ((i3 + 1 : Nat) : Int)) rfl rfl rfl (ctr_len hl8 hl.le)) ?_
     refine as_ (v := .int .i64 ((i3 + 1 : Nat) : Int)) ?_
     refine WR.nil ?_
     intro w hw
     exact ⟨hl8, (), h, (sl_ (by kernel_rfl)), hw, trivial⟩
  ·
   have h := hge6 (ige hb7)
   refine WC.exit ?_
   change WC _ _ _ _ _ _
   refine WC.rs ?_
   refine as_ (v := .bool true) ?_
   refine WR.done ?_
   refine WC.ret ?_
   intro w hw
   obtain rfl := Option.some.inj h
   subst hF
   exact ⟨by kernel_rfl, hw.fr⟩
theorem t_firthref03_Top {Γ : Gh} {w0 : World} {Al : Option Addr} {cl : Nat} {l : List Span} (hl : Sl spanT Γ Al l) (hlc : l.length ≤ cl) (s_ : Int) (hs_ : I64 s_) (hs : Sat Γ w0) {r : Int} (h : m_firthref03_Top l s_ = some r) : Calls Tryz.prog 117 #[.slice Al l.length cl, .int .i64 s_] w0 (fun e w' => e = .returned (.int .i64 r) ∧ Fr no w0 w') := by
 refine calls_of (N := 35) (rs := [4]) (args := [.slice Al l.length cl, .int .i64 s_]) Tryz.func117 rfl Tryz.ntmps117 Tryz.results117 rfl ?_
 obtain ⟨F, hF⟩ : ∃ F : Fm, F = ⟨no, w0, Γ⟩ := ⟨_, rfl⟩
 refine WC.here (C := CC F Γ []) ?_ (hF ▸ Cur.start0 hs)
 refine WC.rs ?_
 refine as_ (v := .int .i64 0) ?_
 refine WR.done ?_
 refine WC.rs ?_
 refine as_ (v := .int .i64 0) ?_
 refine WR.done ?_
 refine WC.seq ?_
 refine WC.rs ?_
 refine as_ (v := .int .i64 0) ?_
 refine WR.done ?_
 refine WC.block ?_
 refine WC.forI h (fun (i4 : Nat) (n_1 : Int) σ w => slots σ [(0, .slice Al l.length cl), (1, .int .i64 s_), (5, .int .i64 n_1), (6, .int .i64 ((i4 : Nat) : Int))] ∧ CC F Γ [] w ∧ I64 n_1 ∧ True) ?_ ?_
 ·
  intro w hw
  exact ⟨(sl_ (by kernel_rfl)), hw, (show I64 0 by decide), trivial⟩
 rintro f3 i4 n_1 σ w hi5 hlt6 hge7 ⟨hsl, hw, hr2, -⟩
 refine Wpt.slots hsl ?_
 refine WC.here (C := CC F Γ []) ?_ hw
 clear hw hsl
 refine WC.seq ?_
 refine WC.rs ?_
 refine mv (v := .int .i64 ((i4 : Nat) : Int)) ?_
 refine mv (v := .slice Al l.length cl) ?_
 refine vb (q_len_slice rfl Tryz.underlying87 rfl) ?_
 refine vb (q_lss rfl rfl rfl) ?_
 refine WR.done ?_
 refine WC.cond (b := (decide (((i4 : Nat) : Int) < ((l.length : Nat) : Int)))) (by kernel_rfl) (fun hb8 => ?_) (fun hb8 => ?_)
 ·
  have hl9 := ilt hb8
  have h := hlt6 hl9
  refine WC.skip ?_
  change WC _ _ _ _ _ _
  refine WC.cut (fun σ w => ∃ (n_10 : Int), m_firthref03_Top_j6 f3 n_10 = some r ∧ slots σ [(0, .slice Al l.length cl), (1, .int .i64 s_), (5, .int .i64 n_10), (6, .int .i64 ((i4 : Nat) : Int))] ∧ CC F Γ [] w ∧ I64 n_10 ∧ True) ?_ ?_
  ·
   refine WC.block ?_
   refine WC.rs ?_
   refine mv (v := .slice Al l.length cl) ?_
   refine mv (v := .int .i64 ((i4 : Nat) : Int)) ?_
   refine vb (q_ixn (i := i4) Tryz.underlying87 Tryz.sizeOf93 rfl rfl rfl hl9 (hl.some_ hl9)) ?_
   refine vb (q_field_addr (i4 * 3) fld_93_0 rfl rfl (hl.some_ hl9) rfl) ?_
   refine vb (q_ld (c := 0) (v := .int .i64 (gt l i4).s) (hl.spanT_at hl9).2 rfl Tryz.isAgg3 rfl rfl) ?_
   refine mv (v := .int .i64 s_) ?_
   refine vb (q_eql rfl rfl rfl) ?_
   refine mv (v := .bool ((gt l i4).s == s_)) ?_
   refine vg1 rfl rfl rfl rfl rfl (fun hg12 => QV.qo (q_move (v := .slice Al l.length cl) rfl (by kernel_rfl))) ?_
   refine vg1 rfl rfl rfl rfl rfl (fun hg13 => QV.qo (q_move (v := .int .i64 ((i4 : Nat) : Int)) rfl (by kernel_rfl))) ?_
   refine vg1 rfl rfl rfl rfl rfl (fun hg14 => QV.qo (q_ixn (i := i4) Tryz.underlying87 Tryz.sizeOf93 rfl (gu hg14 rfl) (gu hg14 rfl) hl9 (hl.some_ hl9))) ?_
   refine vg1 rfl rfl rfl rfl rfl (fun hg15 => QV.qo (q_field_addr (i4 * 3 + 2) fld_93_2 rfl (gu hg15 rfl) (hl.some_ hl9) rfl)) ?_
   refine vg1 rfl rfl rfl rfl rfl (fun hg16 => QV.qo (q_ld (c := 2) (v := .int .i64 (gt l i4).t) (hl.spanT_at hl9).2 rfl Tryz.isAgg2 (gu hg16 rfl) rfl)) ?_
   refine vg1 rfl rfl rfl rfl rfl (fun hg17 => QV.qo (q_move (v := .int .i64 n_1) rfl (by kernel_rfl))) ?_
   refine vg1 rfl rfl rfl rfl rfl (fun hg18 => QV.qo (q_gtr rfl (gu hg18 rfl) (gu hg18 rfl))) ?_
   refine vb (q_pick rfl rfl (pk_and' (g := ((gt l i4).s == s_)) (y := (decide (n_1 < (gt l i4).t))))) ?_
   refine WR.done ?_
   refine WC.cif h (by kernel_rfl) (fun hb19 h => ?_) (fun hb19 h => ?_)
   ·
    refine WC.region ?_
    refine mv (v := .slice Al l.length cl) ?_
    refine mv (v := .int .i64 ((i4 : Nat) : Int)) ?_
    refine vb (q_ixn (i := i4) Tryz.underlying87 Tryz.sizeOf93 rfl rfl rfl hl9 (hl.some_ hl9)) ?_
    refine vb (q_field_addr (i4 * 3 + 2) fld_93_2 rfl rfl (hl.some_ hl9) rfl) ?_
    refine vb (q_ld (c := 2) (v := .int .i64 (gt l i4).t) (hl.spanT_at hl9).2 rfl Tryz.isAgg2 rfl rfl) ?_
    refine as_ (v := .int .i64 (gt l i4).t) ?_
    refine WR.nil ?_
    intro w hw
    exact ⟨(gt l i4).t, h, (sl_ (by kernel_rfl)), hw, (hl.spanT_at hl9).1.2.2, trivial⟩
   ·
    refine WC.skip ?_
    intro w hw
    exact ⟨n_1, h, (sl_ (by kernel_rfl)), hw, hr2, trivial⟩
  ·
   rintro σ w ⟨n_10, h, hsl, hw, hr11, -⟩
   refine Wpt.slots hsl ?_
   refine WC.here (C := CC F Γ []) ?_ hw
   clear hw hsl
   refine WC.region ?_
   refine mv (v := .int .i64 ((i4 : Nat) : Int)) ?_
   refine vb (q_add_r (r := ((i4 + 1 : Nat) : Int)) rfl rfl rfl (ctr_len hl9 hl.le)) ?_
   refine as_ (v := .int .i64 ((i4 + 1 : Nat) : Int)) ?_
   refine WR.nil ?_
   intro w hw
   exact ⟨hl9, n_10, h, (sl_ (by kernel_rfl)), hw, hr11, trivial⟩
 ·
  have h := hge7 (ige hb8)
  refine WC.exit ?_
  change WC _ _ _ _ _ _
  refine WC.rs ?_
  refine mv (v := .int .i64 n_1) ?_
  refine as_ (v := .int .i64 n_1) ?_
  refine WR.done ?_
  refine WC.ret ?_
  intro w hw
  obtain rfl := Option.some.inj h
  subst hF
  exact ⟨by kernel_rfl, hw.fr⟩
theorem t_firthref05_RightOne {Γ : Gh} {w0 : World} {Av_2 : Option Addr} {cv_2 : Nat} (v_ : Ver) (hv_ : Ver.fits Γ Av_2 cv_2 v_) (hs : Sat Γ w0) {r : Bool} (h : m_firthref05_RightOne v_ = some r) : Calls Tryz.prog 80 #[.agg #[.int .i64 v_.dot.s, .int .i64 v_.dot.n, .slice Av_2 v_.past.length cv_2, .bool v_.gone, .string v_.val]] w0 (fun e w' => e = .returned (.bool r) ∧ Fr no w0 w') := by
 refine calls_of (N := 34) (rs := [2]) (args := [.agg #[.int .i64 v_.dot.s, .int .i64 v_.dot.n, .slice Av_2 v_.past.length cv_2, .bool v_.gone, .string v_.val]]) Tryz.func80 rfl Tryz.ntmps80 Tryz.results80 rfl ?_
 obtain ⟨F, hF⟩ : ∃ F : Fm, F = ⟨no, w0, Γ⟩ := ⟨_, rfl⟩
 refine WC.here (C := CC F Γ []) ?_ (hF ▸ Cur.start0 hs)
 refine WC.rs ?_
 refine e_box (v := .agg #[.int .i64 v_.dot.s, .int .i64 v_.dot.n, .slice Av_2 v_.past.length cv_2, .bool v_.gone, .string v_.val]) rfl rfl rfl rfl (by kernel_rfl) ?_
 intro g1
 refine as_ (v := .bool false) ?_
 refine WR.done ?_
 refine WC.seq ?_
 refine WC.seq ?_
 refine WC.dr (by kernel_rfl) (by kernel_rfl) (fun w hw => hw.drawn _) ?_
 refine wa rfl rfl rfl (q_fl 0 fld_89_0 rfl rfl rfl) ?_
 refine wa rfl rfl rfl (q_ldla (i := 0) (vs := [.int .i64 v_.dot.s, .int .i64 v_.dot.n]) rfl rfl Tryz.isAgg86 Tryz.sizeOf86 rfl rfl) ?_
 obtain ⟨z2, hz3, h⟩ := bnd h
 refine wc rfl rfl rfl (q_call (call_run Tryz.call115 rfl rfl (by kernel_rfl)) (fun w hw => t_firthref03_Dot (Γ := Gh.all w) v_.dot ⟨hv_.1, hv_.2.1⟩ (Sat.all w) hz3)) ?_
 refine wa rfl rfl rfl (q_not rfl rfl) ?_
 refine wa rfl rfl rfl (q_move (v := .bool (!z2)) rfl (by kernel_rfl)) ?_
 refine wg0 rfl rfl rfl rfl rfl (fun hg4 => QV.qo (q_fl 2 fld_89_1 rfl rfl rfl)) ?_
 refine wg0 rfl rfl rfl rfl rfl (fun hg5 => QV.qo (q_ldl (i := 0) (v := .slice Av_2 v_.past.length cv_2) rfl rfl Tryz.isAgg87 (gu hg5 rfl) rfl)) ?_
 obtain ⟨z7, hz8, h⟩ := bnd h
 refine wg0 rfl rfl rfl rfl rfl (fun hg6 => (q_call (call_run Tryz.call116 rfl rfl (args1 (gu hg6 rfl))) (fun w hw => t_firthref03_Right (Γ := Gh.all w) (hv_.2.2.1.2.mono hw.sat.le_all) hv_.2.2.1.1 (Sat.all w) (gc_of hz8 hg6)))) ?_
 refine wg0 rfl rfl rfl rfl rfl (fun hg9 => QV.qo (q_not rfl (gu hg9 rfl))) ?_
 refine wa rfl rfl rfl (q_pick rfl rfl (pk_or' (g := (!z2)) (y := (!z7)))) ?_
 refine wa rfl rfl rfl (q_move (v := .bool ((!z2) || (!z7))) rfl (by kernel_rfl)) ?_
 refine wg0 rfl rfl rfl rfl rfl (fun hg10 => QV.qo (q_fl 2 fld_89_1 rfl rfl rfl)) ?_
 refine wg0 rfl rfl rfl rfl rfl (fun hg11 => QV.qo (q_ldl (i := 0) (v := .slice Av_2 v_.past.length cv_2) rfl rfl Tryz.isAgg87 (gu hg11 rfl) rfl)) ?_
 refine wg0 rfl rfl rfl rfl rfl (fun hg12 => QV.qo (q_fl 0 fld_89_0 rfl rfl rfl)) ?_
 refine wg0 rfl rfl rfl rfl rfl (fun hg13 => QV.qo (q_fl 0 fld_86_0 rfl (gu hg13 rfl) rfl)) ?_
 refine wg0 rfl rfl rfl rfl rfl (fun hg14 => QV.qo (q_ldl (i := 0) (v := .int .i64 v_.dot.s) rfl rfl Tryz.isAgg3 (gu hg14 rfl) rfl)) ?_
 obtain ⟨z16, hz17, h⟩ := bnd h
 refine wg0 rfl rfl rfl rfl rfl (fun hg15 => (q_call (call_run Tryz.call117 rfl rfl (args2 (gu hg15 rfl) (gu hg15 rfl))) (fun w hw => t_firthref03_Top (Γ := Gh.all w) (hv_.2.2.1.2.mono hw.sat.le_all) hv_.2.2.1.1 v_.dot.s hv_.1 (Sat.all w) (gc_of hz17 hg15)))) ?_
 refine wg0 rfl rfl rfl rfl rfl (fun hg18 => QV.qo (q_fl 0 fld_89_0 rfl rfl rfl)) ?_
 refine wg0 rfl rfl rfl rfl rfl (fun hg19 => QV.qo (q_fl 1 fld_86_1 rfl (gu hg19 rfl) rfl)) ?_
 refine wg0 rfl rfl rfl rfl rfl (fun hg20 => QV.qo (q_ldl (i := 0) (v := .int .i64 v_.dot.n) rfl rfl Tryz.isAgg2 (gu hg20 rfl) rfl)) ?_
 refine wg0 rfl rfl rfl rfl rfl (fun hg21 => QV.qo (q_geq rfl (gu hg21 rfl) (gu hg21 rfl))) ?_
 refine wa rfl rfl rfl (q_pick rfl rfl (pk_or' (g := ((!z2) || (!z7))) (y := (decide (v_.dot.n ≤ z16))))) ?_
 refine WQ.nil ?_
 change WC _ _ _ _ _ _
 refine WC.cif h (by kernel_rfl) (fun hb22 h => ?_) (fun hb22 h => ?_)
 ·
  refine WC.rs ?_
  refine as_ (v := .bool false) ?_
  refine WR.done ?_
  refine WC.ret ?_
  intro w hw
  obtain rfl := Option.some.inj h
  subst hF
  exact ⟨by kernel_rfl, hw.fr⟩
 ·
  refine WC.skip ?_
  change WC _ _ _ _ _ _
  refine WC.seq ?_
  refine WC.rs ?_
  refine vb (q_fl 3 fld_89_2 rfl rfl rfl) ?_
  refine vb (q_ldl (i := 0) (v := .bool v_.gone) rfl rfl Tryz.isAgg4 rfl rfl) ?_
  refine WR.done ?_
  refine WC.cif h (by kernel_rfl) (fun hb23 h => ?_) (fun hb23 h => ?_)
  ·
   refine WC.rs ?_
   refine vb (q_fl 4 fld_89_3 rfl rfl rfl) ?_
   refine vb (q_ldl (i := 0) (v := .string v_.val) rfl rfl Tryz.isAgg9 rfl rfl) ?_
   refine vb (q_seql rfl rfl rfl) ?_
   refine as_ (v := .bool (v_.val == ByteArray.empty)) ?_
   refine WR.done ?_
   refine WC.ret ?_
   intro w hw
   obtain rfl := Option.some.inj h
   subst hF
   exact ⟨by kernel_rfl, hw.fr⟩
  ·
   refine WC.skip ?_
   change WC _ _ _ _ _ _
   refine WC.rs ?_
   refine vb (q_fl 4 fld_89_3 rfl rfl rfl) ?_
   refine vb (q_ldl (i := 0) (v := .string v_.val) rfl rfl Tryz.isAgg9 rfl rfl) ?_
   refine vb (q_len_str rfl Tryz.underlying9 rfl) ?_
   refine vb (q_leq rfl rfl rfl) ?_
   refine as_ (v := .bool (decide (((v_.val.size : Nat) : Int) ≤ 256))) ?_
   refine WR.done ?_
   refine WC.ret ?_
   intro w hw
   obtain rfl := Option.some.inj h
   subst hF
   exact ⟨by kernel_rfl, hw.fr⟩
end Fw
end Go.Proofs.YtckindfllegbgaaGreat
