/- Walks through the functions that the law reaches (printed by a program). No condition. -/
import Derived.Test.YtckindfllegbgaaGreatW4
namespace Go.Proofs.YtckindfllegbgaaGreat
namespace Fw
set_option linter.unusedVariables false
set_option linter.unusedSimpArgs false
set_option linter.unusedSectionVars false
set_option maxRecDepth 100000
set_option maxHeartbeats 400000
open Go.RowKit
theorem t_firthlaw15_awake {Γ : Gh} {w0 : World}  (hs : Sat Γ w0) {r : Bool} (h : m_firthlaw15_awake = some r) : Calls Tryz.prog 7 #[] w0 (fun e w' => e = .returned (.bool r) ∧ Fr no w0 w') := by
 refine calls_of (N := 86) (rs := [0]) (args := []) Tryz.func7 rfl Tryz.ntmps7 Tryz.results7 rfl ?_
 obtain ⟨F, hF⟩ : ∃ F : Fm, F = ⟨no, w0, Γ⟩ := ⟨_, rfl⟩
 refine WC.here (C := CC F Γ []) ?_ (hF ▸ Cur.start0 hs)
 refine WC.rs (as_ (v := .bool false) ?_)
 refine WR.done ?_
 refine WC.rs ?_
 obtain ⟨z1, hz2, h⟩ := bnd h
 refine e_call (is := []) rfl rfl (call_run Tryz.call9 rfl rfl (by kernel_rfl)) rfl (fun w hp => t_disk_New 5000 (show I64 5000 by decide) hp hz2) ?_
 rintro Γ3 U5 v6 hl4 ⟨g7, row8, rfl, rfl, hr9, _⟩
 change WR _ _ _ (CC F Γ3 [row8]) _ _ (upd _ 8 ((pq g7)))
 obtain ⟨z10, hz11, h⟩ := bnd h
 refine vc rfl rfl rfl (q_call (call_run Tryz.call11 rfl rfl (by kernel_rfl)) (fun w hw => t_firthlaw15_at (Γ := Gh.all w) 1 (show I64 1 by decide) (Sat.all w) hz11)) ?_
 obtain ⟨hk12, h⟩ := chk_some h
 obtain ⟨hk13, h⟩ := chk_some h
 obtain ⟨z14, hz15, h⟩ := bnd h
 refine e_call (is := [0]) rfl rfl (call_run Tryz.call10 rfl rfl (by kernel_rfl)) rfl (fun w hp => t_node_Open hr9 z10 ⟨(i64b_of hk12), (i64b_of hk13)⟩ 256 (show I64 256 by decide) 3 (show I64 3 by decide) hp hz15) ?_
 rintro Γ16 U18 v19 hl17 ⟨row20, g22, row23, rfl, rfl, hr21, hr24, hr25, _⟩
 change WR _ _ _ (CC F Γ16 [row20, row23]) _ _ (upd _ 10 (.tuple #[optp z14.2.1 g22, .int .i64 z14.2.2]))
 refine mv (v := .tuple #[optp z14.2.1 g22, .int .i64 z14.2.2]) (vb (q_extract (v := optp z14.2.1 g22) rfl rfl rfl) (vb (q_extract (v := .int .i64 z14.2.2) rfl rfl rfl) (as_ (v := optp z14.2.1 g22) (as_ (v := .int .i64 z14.2.2) ?_))))
 refine WR.done ?_
 refine WC.seq (WC.rs (mv (v := optp z14.2.1 g22) (vb (q_opt_eql Tryz.underlying27 rfl rfl rfl) (mv (v := .bool (Option.isNone z14.2.1)) (vg0 rfl rfl rfl rfl rfl (fun hg26 => QV.qo (q_move (v := .int .i64 z14.2.2) rfl (by kernel_rfl))) (vg0 rfl rfl rfl rfl rfl (fun hg27 => QV.qo (q_neq rfl (gu hg27 rfl) rfl)) (vb (q_pick rfl rfl (pk_or' (g := (Option.isNone z14.2.1)) (y := (z14.2.2 != 0)))) ?_)))))))
 refine WR.done ?_
 refine WC.cif h (by kernel_rfl) (fun hb28 h => ?_) (fun hb28 h => ?_)
 ·
  refine WC.rs (as_ (v := .bool false) ?_)
  refine WR.done ?_
  refine WC.ret ?_
  intro w hw
  obtain rfl := Option.some.inj h
  subst hF
  exact ⟨by kernel_rfl, hw.fr⟩
 ·
  obtain ⟨z29, hz30, h⟩ := bnd h
  have ho31 := optob_some hr24 hz30
  refine WC.skip ?_
  change WC _ _ _ _ _ _
  refine WC.rs (vb (q_move (v := (pq g22)) rfl (optp_some rfl hz30)) ?_)
  obtain ⟨z32, hz33, h⟩ := bnd h
  refine e_call (is := []) rfl rfl (call_run Tryz.call26 rfl rfl (by kernel_rfl)) rfl (fun w hp => t_firthlaw15_one (⟨#[107]⟩ : ByteArray) (show (⟨#[107]⟩ : ByteArray).size ≤ lim by decide) 1 (show I64 1 by decide) 1 (show I64 1 by decide) hp hz33) ?_
  rintro Γ34 U36 v37 hl35 ⟨A38, c39, rfl, rfl, hr40, _⟩
  change WR _ _ _ (CC F Γ34 [row20, row23]) _ _ (upd _ 20 (.agg #[.string z32.key, .slice A38 z32.vers.length c39]))
  refine e_buildSlice (cs := #[.string z32.key, .slice A38 z32.vers.length c39]) (e := 45) rfl rfl rfl rfl (fun w => by kernel_rfl) ?_
  intro g41
  have ho42 : Own recT Γ34 45 [(g41, .cells #[.string z32.key, .slice A38 z32.vers.length c39] 45 (0, 0))] (some ⟨g41, 0, none⟩) 1 [z32] := Own.of_blockL (T := recT) (ys := [z32]) [[.string z32.key, .slice A38 z32.vers.length c39]] rfl (show 1 ≤ lim by decide) (show Ty.rd recT Γ34 [.string z32.key, .slice A38 z32.vers.length c39] z32 ∧ True from ⟨⟨A38, c39, rfl, hr40⟩, trivial⟩)
  have hc47 := ho42.capz
  intro w hw; obtain ⟨Γ43, hw, hl44, hr45⟩ := hw.seal (i := 0) rfl; have hs46 := ho42.sl hl44 hr45
  refine WR.here (C := CC F Γ43 [[], row20, row23]) ?_ hw
  clear hw
  obtain ⟨z48, hz49, h⟩ := bnd h
  refine e_call (is := []) rfl rfl (call_run Tryz.call14 rfl rfl (by kernel_rfl)) rfl (fun w hp => t_firthlaw15_put 1 (show I64 1 by decide) hs46 hc47 hp hz49) ?_
  rintro Γ50 U52 v53 hl51 ⟨A54, c55, A56, c57, A58, c59, A60, c61, A62, c63, rfl, rfl, hr64, _⟩
  change WR _ _ _ (CC F Γ50 [[], row20, row23]) _ _ (upd _ 22 (.agg #[.int .i64 z48.kind, .int .i64 z48.from_.site, .int .i64 z48.from_.node, .int .i64 z48.to_.site, .int .i64 z48.to_.node, .int .i64 z48.id, .int .i64 z48.n, .int .i64 z48.for_, .int .i64 z48.code, .string z48.key, .slice A54 z48.recs.length c55, .slice A56 z48.vec.length c57, .slice A58 z48.path.length c59, .slice A60 z48.hashes.length c61, .slice A62 z48.route.length c63]))
  obtain ⟨z65, hz66, h⟩ := bnd h
  refine e_call (is := [2, 1]) rfl rfl (call_run Tryz.call13 rfl rfl (by kernel_rfl)) rfl (fun w hp => t_node_Node_Handle (ho31.mono ((hl35.trans hl44).trans hl51)) z48 hr64 (hr21.mono ((hl35.trans hl44).trans hl51)) hp hz66) ?_
  rintro Γ67 U69 v70 hl68 ⟨row71, row73, A75, c76, row77, rfl, rfl, hr72, hr74, hr78, _⟩
  change WR _ _ _ (CC F Γ67 [row71, row73, row77, []]) _ _ (upd _ 23 (.slice A75 z65.2.2.length c76))
  refine as_ (v := .slice A75 z65.2.2.length c76) ?_
  refine WR.done ?_
  refine WC.rs ?_
  obtain ⟨z79, hz80, h⟩ := bnd h
  refine e_call (is := []) rfl rfl (call_run Tryz.call26 rfl rfl (by kernel_rfl)) rfl (fun w hp => t_firthlaw15_one (⟨#[107]⟩ : ByteArray) (show (⟨#[107]⟩ : ByteArray).size ≤ lim by decide) 2 (show I64 2 by decide) 1 (show I64 1 by decide) hp hz80) ?_
  rintro Γ81 U83 v84 hl82 ⟨A85, c86, rfl, rfl, hr87, _⟩
  change WR _ _ _ (CC F Γ81 [row71, row73, row77, []]) _ _ (upd _ 24 (.agg #[.string z79.key, .slice A85 z79.vers.length c86]))
  refine e_buildSlice (cs := #[.string z79.key, .slice A85 z79.vers.length c86]) (e := 45) rfl rfl rfl rfl (fun w => by kernel_rfl) ?_
  intro g88
  have ho89 : Own recT Γ81 45 [(g88, .cells #[.string z79.key, .slice A85 z79.vers.length c86] 45 (0, 0))] (some ⟨g88, 0, none⟩) 1 [z79] := Own.of_blockL (T := recT) (ys := [z79]) [[.string z79.key, .slice A85 z79.vers.length c86]] rfl (show 1 ≤ lim by decide) (show Ty.rd recT Γ81 [.string z79.key, .slice A85 z79.vers.length c86] z79 ∧ True from ⟨⟨A85, c86, rfl, hr87⟩, trivial⟩)
  have hc94 := ho89.capz
  intro w hw; obtain ⟨Γ90, hw, hl91, hr92⟩ := hw.seal (i := 0) rfl; have hs93 := ho89.sl hl91 hr92
  refine WR.here (C := CC F Γ90 [[], row71, row73, row77, []]) ?_ hw
  clear hw
  obtain ⟨z95, hz96, h⟩ := bnd h
  refine e_call (is := []) rfl rfl (call_run Tryz.call14 rfl rfl (by kernel_rfl)) rfl (fun w hp => t_firthlaw15_put 1 (show I64 1 by decide) hs93 hc94 hp hz96) ?_
  rintro Γ97 U99 v100 hl98 ⟨A101, c102, A103, c104, A105, c106, A107, c108, A109, c110, rfl, rfl, hr111, _⟩
  change WR _ _ _ (CC F Γ97 [[], row71, row73, row77, []]) _ _ (upd _ 26 (.agg #[.int .i64 z95.kind, .int .i64 z95.from_.site, .int .i64 z95.from_.node, .int .i64 z95.to_.site, .int .i64 z95.to_.node, .int .i64 z95.id, .int .i64 z95.n, .int .i64 z95.for_, .int .i64 z95.code, .string z95.key, .slice A101 z95.recs.length c102, .slice A103 z95.vec.length c104, .slice A105 z95.path.length c106, .slice A107 z95.hashes.length c108, .slice A109 z95.route.length c110]))
  refine e_alloc Tryz.zeroValue40 rfl rfl rfl rfl ?_
  intro g112
  refine e_st (i := 0) (v := .agg #[.int .i64 z95.kind, .int .i64 z95.from_.site, .int .i64 z95.from_.node, .int .i64 z95.to_.site, .int .i64 z95.to_.node, .int .i64 z95.id, .int .i64 z95.n, .int .i64 z95.for_, .int .i64 z95.code, .string z95.key, .slice A101 z95.recs.length c102, .slice A103 z95.vec.length c104, .slice A105 z95.path.length c106, .slice A107 z95.hashes.length c108, .slice A109 z95.route.length c110]) (new := #[.int .i64 z95.kind, .int .i64 z95.from_.site, .int .i64 z95.from_.node, .int .i64 z95.to_.site, .int .i64 z95.to_.node, .int .i64 z95.id, .int .i64 z95.n, .int .i64 z95.for_, .int .i64 z95.code, .string z95.key, .slice A101 z95.recs.length c102, .slice A103 z95.vec.length c104, .slice A105 z95.path.length c106, .slice A107 z95.hashes.length c108, .slice A109 z95.route.length c110]) rfl Tryz.sizeOf40 rfl rfl rfl rfl (by kernel_rfl) rfl rfl rfl rfl ?_
  refine WR.done ?_
  refine WC.rs (vb (q_fl 7 fld_40_5 rfl rfl rfl) ?_)
  refine e_st (i := 0) (v := .int .i64 3) (new := #[.int .i64 z95.kind, .int .i64 z95.from_.site, .int .i64 z95.from_.node, .int .i64 z95.to_.site, .int .i64 z95.to_.node, .int .i64 z95.id, .int .i64 z95.n, .int .i64 3, .int .i64 z95.code, .string z95.key, .slice A101 z95.recs.length c102, .slice A103 z95.vec.length c104, .slice A105 z95.path.length c106, .slice A107 z95.hashes.length c108, .slice A109 z95.route.length c110]) rfl Tryz.sizeOf3 rfl rfl rfl rfl (by kernel_rfl) rfl rfl rfl rfl ?_
  refine WR.done ?_
  refine WC.rs (vb (q_move (v := (pq g22)) rfl (optp_some rfl hz30)) (vb (q_ldla (i := 0) (vs := [.int .i64 z95.kind, .int .i64 z95.from_.site, .int .i64 z95.from_.node, .int .i64 z95.to_.site, .int .i64 z95.to_.node, .int .i64 z95.id, .int .i64 z95.n, .int .i64 3, .int .i64 z95.code, .string z95.key, .slice A101 z95.recs.length c102, .slice A103 z95.vec.length c104, .slice A105 z95.path.length c106, .slice A107 z95.hashes.length c108, .slice A109 z95.route.length c110]) rfl rfl Tryz.isAgg40 Tryz.sizeOf40 rfl rfl) ?_))
  obtain ⟨z113, hz114, h⟩ := bnd h
  refine e_call (is := [2, 2]) rfl rfl (call_run Tryz.call13 rfl rfl (by kernel_rfl)) rfl (fun w hp => t_node_Node_Handle (hr72.mono ((hl82.trans hl91).trans hl98)) (⟨z95.kind, (⟨z95.from_.site, z95.from_.node⟩ : Adr), (⟨z95.to_.site, z95.to_.node⟩ : Adr), z95.id, z95.n, 3, z95.code, z95.key, z95.recs, z95.vec, z95.path, z95.hashes, z95.route⟩ : Dapi_Msg) ⟨hr111.1, hr111.2.1, hr111.2.2.1, hr111.2.2.2.1, hr111.2.2.2.2.1, hr111.2.2.2.2.2.1, hr111.2.2.2.2.2.2.1, (show I64 3 by decide), hr111.2.2.2.2.2.2.2.2.1, hr111.2.2.2.2.2.2.2.2.2.1, ⟨hr111.2.2.2.2.2.2.2.2.2.2.1.1, hr111.2.2.2.2.2.2.2.2.2.2.1.2⟩, ⟨hr111.2.2.2.2.2.2.2.2.2.2.2.1.1, hr111.2.2.2.2.2.2.2.2.2.2.2.1.2⟩, ⟨hr111.2.2.2.2.2.2.2.2.2.2.2.2.1.1, hr111.2.2.2.2.2.2.2.2.2.2.2.2.1.2⟩, ⟨hr111.2.2.2.2.2.2.2.2.2.2.2.2.2.1.1, hr111.2.2.2.2.2.2.2.2.2.2.2.2.2.1.2⟩, ⟨hr111.2.2.2.2.2.2.2.2.2.2.2.2.2.2.1, hr111.2.2.2.2.2.2.2.2.2.2.2.2.2.2.2⟩⟩ (hr74.mono ((hl82.trans hl91).trans hl98)) hp hz114) ?_
  rintro Γ115 U117 v118 hl116 ⟨row119, row121, A123, c124, row125, rfl, rfl, hr120, hr122, hr126, _⟩
  change WR _ _ _ (CC F Γ115 [row119, row121, row125, [(g112, .cells #[.int .i64 z95.kind, .int .i64 z95.from_.site, .int .i64 z95.from_.node, .int .i64 z95.to_.site, .int .i64 z95.to_.node, .int .i64 z95.id, .int .i64 z95.n, .int .i64 3, .int .i64 z95.code, .string z95.key, .slice A101 z95.recs.length c102, .slice A103 z95.vec.length c104, .slice A105 z95.path.length c106, .slice A107 z95.hashes.length c108, .slice A109 z95.route.length c110] 40 (0, 0))], [], row77, []]) _ _ (upd _ 30 (.slice A123 z113.2.2.length c124))
  refine as_ (v := .slice A123 z113.2.2.length c124) ?_
  refine WR.done ?_
  refine WC.rs (vb (q_move (v := (pq g22)) rfl (optp_some rfl hz30)) ?_)
  obtain ⟨z127, hz128, h⟩ := bnd h
  refine e_call (is := [0]) rfl rfl (call_run Tryz.call21 rfl rfl (by kernel_rfl)) rfl (fun w hp => t_node_Node_Tick hr120 hp hz128) ?_
  rintro Γ129 U131 v132 hl130 ⟨A133, c134, row135, rfl, rfl, hr136, _⟩
  change WR _ _ _ (CC F Γ129 [row119, row135, row121, row125, [(g112, .cells #[.int .i64 z95.kind, .int .i64 z95.from_.site, .int .i64 z95.from_.node, .int .i64 z95.to_.site, .int .i64 z95.to_.node, .int .i64 z95.id, .int .i64 z95.n, .int .i64 3, .int .i64 z95.code, .string z95.key, .slice A101 z95.recs.length c102, .slice A103 z95.vec.length c104, .slice A105 z95.path.length c106, .slice A107 z95.hashes.length c108, .slice A109 z95.route.length c110] 40 (0, 0))], [], row77, []]) _ _ (upd _ 32 (.slice A133 z127.length c134))
  refine as_ (v := .slice A133 z127.length c134) ?_
  refine WR.done ?_
  refine WC.seq (WC.seq ?_)
  intro w hw; have h0137 := hw.le
  refine WC.here (C := CC F Γ129 [row119, row135, row121, row125, [(g112, .cells #[.int .i64 z95.kind, .int .i64 z95.from_.site, .int .i64 z95.from_.node, .int .i64 z95.to_.site, .int .i64 z95.to_.node, .int .i64 z95.id, .int .i64 z95.n, .int .i64 3, .int .i64 z95.code, .string z95.key, .slice A101 z95.recs.length c102, .slice A103 z95.vec.length c104, .slice A105 z95.path.length c106, .slice A107 z95.hashes.length c108, .slice A109 z95.route.length c110] 40 (0, 0))], [], row77, []]) ?_ hw; clear hw
  refine WC.held (CC F Γ129 [row135, row125, [(g112, .cells #[.int .i64 z95.kind, .int .i64 z95.from_.site, .int .i64 z95.from_.node, .int .i64 z95.to_.site, .int .i64 z95.to_.node, .int .i64 z95.id, .int .i64 z95.n, .int .i64 3, .int .i64 z95.code, .string z95.key, .slice A101 z95.recs.length c102, .slice A103 z95.vec.length c104, .slice A105 z95.path.length c106, .slice A107 z95.hashes.length c108, .slice A109 z95.route.length c110] 40 (0, 0))], [], row77, []]) (by kernel_rfl) (fun w hw => hw.drawn _) ?_
  change WH _ _ _ _ (CC F Γ129 [row119, row135, row121, row125, [(g112, .cells #[.int .i64 z95.kind, .int .i64 z95.from_.site, .int .i64 z95.from_.node, .int .i64 z95.to_.site, .int .i64 z95.to_.node, .int .i64 z95.id, .int .i64 z95.n, .int .i64 3, .int .i64 z95.code, .string z95.key, .slice A101 z95.recs.length c102, .slice A103 z95.vec.length c104, .slice A105 z95.path.length c106, .slice A107 z95.hashes.length c108, .slice A109 z95.route.length c110] 40 (0, 0))], [], row77, []]) _ 40 #[false, false, false, false, false, false, false, false, false, false, false, false, false, false, false, false, false, false, false, false, false, false, false, false, false, false, false, false, false, false, false, false, false, false, false, false, false, false, false, false] _
  refine hu 0 rfl (bk_ (Gh.refl _) h0137 (.cons _ (.cons_cons _ (.cons _ (.cons_cons _ (.cons_cons _ (.cons_cons _ (.cons_cons _ (.cons_cons _ .slnil))))))))) (q_move (v := .slice A75 z65.2.2.length c76) rfl (by kernel_rfl)) (hu 1 rfl (bk_ (Gh.refl _) h0137 (.cons _ (.cons_cons _ (.cons _ (.cons_cons _ (.cons_cons _ (.cons_cons _ (.cons_cons _ (.cons_cons _ .slnil))))))))) (q_len_slice rfl Tryz.underlying34 rfl) (hu 2 rfl (bk_ (Gh.refl _) h0137 (.cons _ (.cons_cons _ (.cons _ (.cons_cons _ (.cons_cons _ (.cons_cons _ (.cons_cons _ (.cons_cons _ .slnil))))))))) (q_neq rfl rfl rfl) (hu 3 rfl (bk_ (Gh.refl _) h0137 (.cons _ (.cons_cons _ (.cons _ (.cons_cons _ (.cons_cons _ (.cons_cons _ (.cons_cons _ (.cons_cons _ .slnil))))))))) (q_move (v := .bool (((z65.2.2.length : Nat) : Int) != 1)) rfl (by kernel_rfl)) ?_)))
  refine hg0 (i := 4) rfl (by kernel_rfl) rfl rfl rfl rfl rfl (bk_ (Gh.refl _) h0137 (.cons _ (.cons_cons _ (.cons _ (.cons_cons _ (.cons_cons _ (.cons_cons _ (.cons_cons _ (.cons_cons _ .slnil))))))))) (fun hg138 => (q_move (v := .slice A75 z65.2.2.length c76) rfl (by kernel_rfl))) ?_
  obtain ⟨hk140, h⟩ := chk_some h
  refine hg0 (i := 5) rfl (by kernel_rfl) rfl rfl rfl rfl rfl (bk_ (Gh.refl _) h0137 (.cons _ (.cons_cons _ (.cons _ (.cons_cons _ (.cons_cons _ (.cons_cons _ (.cons_cons _ (.cons_cons _ .slnil))))))))) (fun hg139 => (q_ixn (i := 0) Tryz.underlying34 Tryz.sizeOf40 rfl (gu hg139 rfl) rfl (of_decide_eq_true (imp_of hk140 hg139)) ((hr78.mono ((((hl82.trans hl91).trans hl98).trans hl116).trans hl130)).some_ (of_decide_eq_true (imp_of hk140 hg139))))) ?_
  refine hg0 (i := 6) rfl (by kernel_rfl) rfl rfl rfl rfl rfl (bk_ (Gh.refl _) h0137 (.cons _ (.cons_cons _ (.cons _ (.cons_cons _ (.cons_cons _ (.cons_cons _ (.cons_cons _ (.cons_cons _ .slnil))))))))) (fun hg141 => (q_field_addr (0 * 15) fld_40_0 rfl (gu hg141 rfl) ((hr78.mono ((((hl82.trans hl91).trans hl98).trans hl116).trans hl130)).some_ (of_decide_eq_true (imp_of hk140 hg141))) rfl)) ?_
  obtain ⟨A143, c144, A145, c146, A147, c148, A149, c150, A151, c152, hx153⟩ := (hr78.mono ((((hl82.trans hl91).trans hl98).trans hl116).trans hl130)).dapi_MsgT_at 0
  refine hg0 (i := 7) rfl (by kernel_rfl) rfl rfl rfl rfl rfl (bk_ (Gh.refl _) h0137 (.cons _ (.cons_cons _ (.cons _ (.cons_cons _ (.cons_cons _ (.cons_cons _ (.cons_cons _ (.cons_cons _ .slnil))))))))) (fun hg142 => (q_ldo (c := 0) (v := .int .i64 (gt z65.2.2 0).kind) (i := 4) rfl (hx153 (of_decide_eq_true (imp_of hk140 hg142))).2 rfl Tryz.isAgg3 (gu hg142 rfl) rfl)) ?_
  refine hg0 (i := 8) rfl (by kernel_rfl) rfl rfl rfl rfl rfl (bk_ (Gh.refl _) h0137 (.cons _ (.cons_cons _ (.cons _ (.cons_cons _ (.cons_cons _ (.cons_cons _ (.cons_cons _ (.cons_cons _ .slnil))))))))) (fun hg154 => (q_neq rfl (gu hg154 rfl) rfl)) ?_
  refine hu 9 rfl (bk_ (Gh.refl _) h0137 (.cons _ (.cons_cons _ (.cons _ (.cons_cons _ (.cons_cons _ (.cons_cons _ (.cons_cons _ (.cons_cons _ .slnil))))))))) (q_pick rfl rfl (pk_or' (g := (((z65.2.2.length : Nat) : Int) != 1)) (y := ((gt z65.2.2 0).kind != 2)))) (hu 10 rfl (bk_ (Gh.refl _) h0137 (.cons _ (.cons_cons _ (.cons _ (.cons_cons _ (.cons_cons _ (.cons_cons _ (.cons_cons _ (.cons_cons _ .slnil))))))))) (q_move (v := .bool ((((z65.2.2.length : Nat) : Int) != 1) || ((gt z65.2.2 0).kind != 2))) rfl (by kernel_rfl)) ?_)
  refine hg0 (i := 11) rfl (by kernel_rfl) rfl rfl rfl rfl rfl (bk_ (Gh.refl _) h0137 (.cons _ (.cons_cons _ (.cons _ (.cons_cons _ (.cons_cons _ (.cons_cons _ (.cons_cons _ (.cons_cons _ .slnil))))))))) (fun hg155 => (q_move (v := .slice A123 z113.2.2.length c124) rfl (by kernel_rfl))) ?_
  refine hg0 (i := 12) rfl (by kernel_rfl) rfl rfl rfl rfl rfl (bk_ (Gh.refl _) h0137 (.cons _ (.cons_cons _ (.cons _ (.cons_cons _ (.cons_cons _ (.cons_cons _ (.cons_cons _ (.cons_cons _ .slnil))))))))) (fun hg156 => (q_len_slice rfl Tryz.underlying34 (gu hg156 rfl))) ?_
  refine hg0 (i := 13) rfl (by kernel_rfl) rfl rfl rfl rfl rfl (bk_ (Gh.refl _) h0137 (.cons _ (.cons_cons _ (.cons _ (.cons_cons _ (.cons_cons _ (.cons_cons _ (.cons_cons _ (.cons_cons _ .slnil))))))))) (fun hg157 => (q_neq rfl (gu hg157 rfl) rfl)) ?_
  refine hu 14 rfl (bk_ (Gh.refl _) h0137 (.cons _ (.cons_cons _ (.cons _ (.cons_cons _ (.cons_cons _ (.cons_cons _ (.cons_cons _ (.cons_cons _ .slnil))))))))) (q_pick rfl rfl (pk_or' (g := ((((z65.2.2.length : Nat) : Int) != 1) || ((gt z65.2.2 0).kind != 2))) (y := (((z113.2.2.length : Nat) : Int) != 0)))) (hu 15 rfl (bk_ (Gh.refl _) h0137 (.cons _ (.cons_cons _ (.cons _ (.cons_cons _ (.cons_cons _ (.cons_cons _ (.cons_cons _ (.cons_cons _ .slnil))))))))) (q_move (v := .bool (((((z65.2.2.length : Nat) : Int) != 1) || ((gt z65.2.2 0).kind != 2)) || (((z113.2.2.length : Nat) : Int) != 0))) rfl (by kernel_rfl)) ?_)
  refine hg0 (i := 16) rfl (by kernel_rfl) rfl rfl rfl rfl rfl (bk_ (Gh.refl _) h0137 (.cons _ (.cons_cons _ (.cons _ (.cons_cons _ (.cons_cons _ (.cons_cons _ (.cons_cons _ (.cons_cons _ .slnil))))))))) (fun hg158 => (q_move (v := .slice A133 z127.length c134) rfl (by kernel_rfl))) ?_
  refine hg0 (i := 17) rfl (by kernel_rfl) rfl rfl rfl rfl rfl (bk_ (Gh.refl _) h0137 (.cons _ (.cons_cons _ (.cons _ (.cons_cons _ (.cons_cons _ (.cons_cons _ (.cons_cons _ (.cons_cons _ .slnil))))))))) (fun hg159 => (q_len_slice rfl Tryz.underlying34 (gu hg159 rfl))) ?_
  refine hg0 (i := 18) rfl (by kernel_rfl) rfl rfl rfl rfl rfl (bk_ (Gh.refl _) h0137 (.cons _ (.cons_cons _ (.cons _ (.cons_cons _ (.cons_cons _ (.cons_cons _ (.cons_cons _ (.cons_cons _ .slnil))))))))) (fun hg160 => (q_neq rfl (gu hg160 rfl) rfl)) ?_
  refine hu 19 rfl (bk_ (Gh.refl _) h0137 (.cons _ (.cons_cons _ (.cons _ (.cons_cons _ (.cons_cons _ (.cons_cons _ (.cons_cons _ (.cons_cons _ .slnil))))))))) (q_pick rfl rfl (pk_or' (g := (((((z65.2.2.length : Nat) : Int) != 1) || ((gt z65.2.2 0).kind != 2)) || (((z113.2.2.length : Nat) : Int) != 0))) (y := (((z127.length : Nat) : Int) != 1)))) (hu 20 rfl (bk_ (Gh.refl _) h0137 (.cons _ (.cons_cons _ (.cons _ (.cons_cons _ (.cons_cons _ (.cons_cons _ (.cons_cons _ (.cons_cons _ .slnil))))))))) (q_move (v := .bool ((((((z65.2.2.length : Nat) : Int) != 1) || ((gt z65.2.2 0).kind != 2)) || (((z113.2.2.length : Nat) : Int) != 0)) || (((z127.length : Nat) : Int) != 1))) rfl (by kernel_rfl)) ?_)
  refine hg0 (i := 21) rfl (by kernel_rfl) rfl rfl rfl rfl rfl (bk_ (Gh.refl _) h0137 (.cons _ (.cons_cons _ (.cons _ (.cons_cons _ (.cons_cons _ (.cons_cons _ (.cons_cons _ (.cons_cons _ .slnil))))))))) (fun hg161 => (q_move (v := .slice A133 z127.length c134) rfl (by kernel_rfl))) ?_
  obtain ⟨hk163, h⟩ := chk_some h
  refine hg0 (i := 22) rfl (by kernel_rfl) rfl rfl rfl rfl rfl (bk_ (Gh.refl _) h0137 (.cons _ (.cons_cons _ (.cons _ (.cons_cons _ (.cons_cons _ (.cons_cons _ (.cons_cons _ (.cons_cons _ .slnil))))))))) (fun hg162 => (q_ixn (i := 0) Tryz.underlying34 Tryz.sizeOf40 rfl (gu hg162 rfl) rfl (of_decide_eq_true (imp_of hk163 hg162)) (hr136.some_ (of_decide_eq_true (imp_of hk163 hg162))))) ?_
  refine hg0 (i := 23) rfl (by kernel_rfl) rfl rfl rfl rfl rfl (bk_ (Gh.refl _) h0137 (.cons _ (.cons_cons _ (.cons _ (.cons_cons _ (.cons_cons _ (.cons_cons _ (.cons_cons _ (.cons_cons _ .slnil))))))))) (fun hg164 => (q_field_addr (0 * 15 + 3) fld_40_2 rfl (gu hg164 rfl) (hr136.some_ (of_decide_eq_true (imp_of hk163 hg164))) rfl)) ?_
  obtain ⟨A166, c167, A168, c169, A170, c171, A172, c173, A174, c175, hx176⟩ := hr136.dapi_MsgT_at 0
  refine hg0 (i := 24) rfl (by kernel_rfl) rfl rfl rfl rfl rfl (bk_ (Gh.refl _) h0137 (.cons _ (.cons_cons _ (.cons _ (.cons_cons _ (.cons_cons _ (.cons_cons _ (.cons_cons _ (.cons_cons _ .slnil))))))))) (fun hg165 => (q_ldoa (c := 3) (vs := [.int .i64 (gt z127 0).to_.site, .int .i64 (gt z127 0).to_.node]) (i := 0) rfl (hx176 (of_decide_eq_true (imp_of hk163 hg165))).2 rfl Tryz.isAgg32 Tryz.sizeOf32 (gu hg165 rfl) rfl)) ?_
  refine WH.lone (i := 25) (by kernel_rfl) rfl ?_
  obtain ⟨z178, hz179, h⟩ := bnd h
  refine vg0 rfl rfl rfl rfl rfl (fun hg177 => (q_call (call_run Tryz.call11 rfl rfl (by kernel_rfl)) (fun w hw => t_firthlaw15_at (Γ := Gh.all w) 3 (show I64 3 by decide) (Sat.all w) (gc_of hz179 hg177)))) ?_
  refine WR.nil ?_
  refine WH.next (bk_ (Gh.refl _) h0137 (.cons _ (.cons_cons _ (.cons _ (.cons_cons _ (.cons_cons _ (.cons_cons _ (.cons_cons _ (.cons_cons _ .slnil))))))))) ?_
  refine hg0 (i := 26) rfl (by kernel_rfl) rfl rfl rfl rfl rfl (bk_ (Gh.refl _) h0137 (.cons _ (.cons_cons _ (.cons _ (.cons_cons _ (.cons_cons _ (.cons_cons _ (.cons_cons _ (.cons_cons _ .slnil))))))))) (fun hg180 => (q_neq_Adr (a := (gt z127 0).to_) (b := z178) rfl (gu hg180 rfl) (gu hg180 rfl))) ?_
  refine hu 27 rfl (bk_ (Gh.refl _) h0137 (.cons _ (.cons_cons _ (.cons _ (.cons_cons _ (.cons_cons _ (.cons_cons _ (.cons_cons _ (.cons_cons _ .slnil))))))))) (q_pick rfl rfl (pk_or' (g := ((((((z65.2.2.length : Nat) : Int) != 1) || ((gt z65.2.2 0).kind != 2)) || (((z113.2.2.length : Nat) : Int) != 0)) || (((z127.length : Nat) : Int) != 1))) (y := ((gt z127 0).to_ != z178)))) (hu 28 rfl (bk_ (Gh.refl _) h0137 (.cons _ (.cons_cons _ (.cons _ (.cons_cons _ (.cons_cons _ (.cons_cons _ (.cons_cons _ (.cons_cons _ .slnil))))))))) (q_move (v := .bool (((((((z65.2.2.length : Nat) : Int) != 1) || ((gt z65.2.2 0).kind != 2)) || (((z113.2.2.length : Nat) : Int) != 0)) || (((z127.length : Nat) : Int) != 1)) || ((gt z127 0).to_ != z178))) rfl (by kernel_rfl)) ?_)
  refine hg0 (i := 29) rfl (by kernel_rfl) rfl rfl rfl rfl rfl (bk_ (Gh.refl _) h0137 (.cons _ (.cons_cons _ (.cons _ (.cons_cons _ (.cons_cons _ (.cons_cons _ (.cons_cons _ (.cons_cons _ .slnil))))))))) (fun hg181 => (q_move (v := (pq g22)) rfl (optp_some rfl hz30))) ?_
  refine (Bool.eq_false_or_eq_true (!(((((((z65.2.2.length : Nat) : Int) != 1) || ((gt z65.2.2 0).kind != 2)) || (((z113.2.2.length : Nat) : Int) != 0)) || (((z127.length : Nat) : Int) != 1)) || ((gt z127 0).to_ != z178)))).elim (fun hb182 => ?_) (fun hb182 => ?_)
  ·
   have h := bt hb182 h
   refine WH.lone (i := 30) (by kernel_rfl) rfl ?_
   refine WR.sat (c0 := true) (g := (((((((z65.2.2.length : Nat) : Int) != 1) || ((gt z65.2.2 0).kind != 2)) || (((z113.2.2.length : Nat) : Int) != 0)) || (((z127.length : Nat) : Int) != 1)) || ((gt z127 0).to_ != z178))) rfl rfl rfl hb182 ?_
   obtain ⟨z183, hz184, h⟩ := bnd h
   refine e_call (is := [0]) rfl rfl (call_run Tryz.call24 rfl rfl (args2 (gu hb182 rfl) rfl)) rfl (fun w hp => t_node_Node_Hints (hr120.mono hl130) 3 (show I64 3 by decide) hp hz184) ?_
   rintro Γ185 U187 v188 hl186 ⟨A189, c190, row191, rfl, rfl, hr192, _⟩
   change WR _ _ _ (CC F Γ185 [row119, row191, row135, row121, row125, [(g112, .cells #[.int .i64 z95.kind, .int .i64 z95.from_.site, .int .i64 z95.from_.node, .int .i64 z95.to_.site, .int .i64 z95.to_.node, .int .i64 z95.id, .int .i64 z95.n, .int .i64 3, .int .i64 z95.code, .string z95.key, .slice A101 z95.recs.length c102, .slice A103 z95.vec.length c104, .slice A105 z95.path.length c106, .slice A107 z95.hashes.length c108, .slice A109 z95.route.length c110] 40 (0, 0))], [], row77, []]) _ _ (upd _ 63 (.slice A189 z183.length c190))
   refine WR.nil ?_
   refine WH.next (bk_ hl186 h0137 (.cons _ (.cons _ (.cons_cons _ (.cons _ (.cons_cons _ (.cons_cons _ (.cons_cons _ (.cons_cons _ (.cons_cons _ .slnil)))))))))) ?_
   refine WH.lone (i := 31) (by kernel_rfl) rfl ?_
   refine vg0 rfl rfl rfl rfl rfl (fun hg194 => QV.qo (q_len_slice rfl Tryz.underlying22 rfl)) ?_
   refine WR.nil ?_
   refine WH.next (bk_ hl186 h0137 (.cons _ (.cons _ (.cons_cons _ (.cons _ (.cons_cons _ (.cons_cons _ (.cons_cons _ (.cons_cons _ (.cons_cons _ .slnil)))))))))) ?_
   refine hg0 (i := 32) rfl (by kernel_rfl) rfl rfl rfl rfl rfl (bk_ hl186 h0137 (.cons _ (.cons _ (.cons_cons _ (.cons _ (.cons_cons _ (.cons_cons _ (.cons_cons _ (.cons_cons _ (.cons_cons _ .slnil)))))))))) (fun hg195 => (q_neq rfl (gu hg195 rfl) rfl)) ?_
   refine hu 33 rfl (bk_ hl186 h0137 (.cons _ (.cons _ (.cons_cons _ (.cons _ (.cons_cons _ (.cons_cons _ (.cons_cons _ (.cons_cons _ (.cons_cons _ .slnil)))))))))) (q_pick_f (v := .bool (((z183.length : Nat) : Int) != 1)) rfl rfl (not_t hb182) (gu hb182 rfl)) (hu 34 rfl (bk_ hl186 h0137 (.cons _ (.cons _ (.cons_cons _ (.cons _ (.cons_cons _ (.cons_cons _ (.cons_cons _ (.cons_cons _ (.cons_cons _ .slnil)))))))))) (q_move (v := .bool (((z183.length : Nat) : Int) != 1)) rfl (by kernel_rfl)) ?_)
   refine hg0 (i := 35) rfl (by kernel_rfl) rfl rfl rfl rfl rfl (bk_ hl186 h0137 (.cons _ (.cons _ (.cons_cons _ (.cons _ (.cons_cons _ (.cons_cons _ (.cons_cons _ (.cons_cons _ (.cons_cons _ .slnil)))))))))) (fun hg196 => (q_move (v := (pq g22)) rfl (optp_some rfl hz30))) ?_
   refine (Bool.eq_false_or_eq_true (!(((z183.length : Nat) : Int) != 1))).elim (fun hb197 => ?_) (fun hb197 => ?_)
   ·
    have h := bt hb197 h
    refine WH.lone (i := 36) (by kernel_rfl) rfl ?_
    refine WR.sat (c0 := true) (g := (((z183.length : Nat) : Int) != 1)) rfl rfl rfl hb197 ?_
    obtain ⟨z198, hz199, h⟩ := bnd h
    refine e_call (is := [0]) rfl rfl (call_run Tryz.call15 rfl rfl (args2 (gu hb197 rfl) rfl)) rfl (fun w hp => t_node_Node_Recs (hr120.mono (hl130.trans hl186)) (-1) (show I64 (-1) by decide) hp hz199) ?_
    rintro Γ200 U202 v203 hl201 ⟨A204, c205, row206, rfl, rfl, hr207, _⟩
    change WR _ _ _ (CC F Γ200 [row119, row206, row191, row135, row121, row125, [(g112, .cells #[.int .i64 z95.kind, .int .i64 z95.from_.site, .int .i64 z95.from_.node, .int .i64 z95.to_.site, .int .i64 z95.to_.node, .int .i64 z95.id, .int .i64 z95.n, .int .i64 3, .int .i64 z95.code, .string z95.key, .slice A101 z95.recs.length c102, .slice A103 z95.vec.length c104, .slice A105 z95.path.length c106, .slice A107 z95.hashes.length c108, .slice A109 z95.route.length c110] 40 (0, 0))], [], row77, []]) _ _ (upd _ 69 (.slice A204 z198.length c205))
    refine WR.nil ?_
    refine WH.next (bk_ (hl186.trans hl201) h0137 (.cons _ (.cons _ (.cons _ (.cons_cons _ (.cons _ (.cons_cons _ (.cons_cons _ (.cons_cons _ (.cons_cons _ (.cons_cons _ .slnil))))))))))) ?_
    refine WH.lone (i := 37) (by kernel_rfl) rfl ?_
    refine vg0 rfl rfl rfl rfl rfl (fun hg209 => QV.qo (q_len_slice rfl Tryz.underlying22 rfl)) ?_
    refine WR.nil ?_
    refine WH.next (bk_ (hl186.trans hl201) h0137 (.cons _ (.cons _ (.cons _ (.cons_cons _ (.cons _ (.cons_cons _ (.cons_cons _ (.cons_cons _ (.cons_cons _ (.cons_cons _ .slnil))))))))))) ?_
    refine hg0 (i := 38) rfl (by kernel_rfl) rfl rfl rfl rfl rfl (bk_ (hl186.trans hl201) h0137 (.cons _ (.cons _ (.cons _ (.cons_cons _ (.cons _ (.cons_cons _ (.cons_cons _ (.cons_cons _ (.cons_cons _ (.cons_cons _ .slnil))))))))))) (fun hg210 => (q_neq rfl (gu hg210 rfl) rfl)) ?_
    refine hu 39 rfl (bk_ (hl186.trans hl201) h0137 (.cons _ (.cons _ (.cons _ (.cons_cons _ (.cons _ (.cons_cons _ (.cons_cons _ (.cons_cons _ (.cons_cons _ (.cons_cons _ .slnil))))))))))) (q_pick_f (v := .bool (((z198.length : Nat) : Int) != 1)) rfl rfl (not_t hb197) (gu hb197 rfl)) ?_
    refine WH.done (by kernel_rfl) ?_
    change WC _ _ _ _ _ _
    refine WC.cif h (by kernel_rfl) (fun hb211 h => ?_) (fun hb211 h => ?_)
    ·
     refine WC.rs (as_ (v := .bool false) ?_)
     refine WR.done ?_
     refine WC.ret ?_
     intro w hw
     obtain rfl := Option.some.inj h
     subst hF
     exact ⟨by kernel_rfl, hw.fr⟩
    ·
     refine WC.skip ?_
     change WC _ _ _ _ _ _
     refine WC.seq ?_
     intro w hw; have h0212 := hw.le
     refine WC.here (C := CC F Γ200 [row119, row206, row191, row135, row121, row125, [(g112, .cells #[.int .i64 z95.kind, .int .i64 z95.from_.site, .int .i64 z95.from_.node, .int .i64 z95.to_.site, .int .i64 z95.to_.node, .int .i64 z95.id, .int .i64 z95.n, .int .i64 3, .int .i64 z95.code, .string z95.key, .slice A101 z95.recs.length c102, .slice A103 z95.vec.length c104, .slice A105 z95.path.length c106, .slice A107 z95.hashes.length c108, .slice A109 z95.route.length c110] 40 (0, 0))], [], row77, []]) ?_ hw; clear hw
     refine WC.held (CC F Γ200 [row206, row191, row135, row125, [(g112, .cells #[.int .i64 z95.kind, .int .i64 z95.from_.site, .int .i64 z95.from_.node, .int .i64 z95.to_.site, .int .i64 z95.to_.node, .int .i64 z95.id, .int .i64 z95.n, .int .i64 3, .int .i64 z95.code, .string z95.key, .slice A101 z95.recs.length c102, .slice A103 z95.vec.length c104, .slice A105 z95.path.length c106, .slice A107 z95.hashes.length c108, .slice A109 z95.route.length c110] 40 (0, 0))], [], row77, []]) (by kernel_rfl) (fun w hw => hw.drawn _) ?_
     change WH _ _ _ _ (CC F Γ200 [row119, row206, row191, row135, row121, row125, [(g112, .cells #[.int .i64 z95.kind, .int .i64 z95.from_.site, .int .i64 z95.from_.node, .int .i64 z95.to_.site, .int .i64 z95.to_.node, .int .i64 z95.id, .int .i64 z95.n, .int .i64 3, .int .i64 z95.code, .string z95.key, .slice A101 z95.recs.length c102, .slice A103 z95.vec.length c104, .slice A105 z95.path.length c106, .slice A107 z95.hashes.length c108, .slice A109 z95.route.length c110] 40 (0, 0))], [], row77, []]) _ 9 #[false, false, false, false, false, false, false, false, false] _
     refine hu 0 rfl (bk_ (Gh.refl _) h0212 (.cons _ (.cons_cons _ (.cons_cons _ (.cons_cons _ (.cons _ (.cons_cons _ (.cons_cons _ (.cons_cons _ (.cons_cons _ (.cons_cons _ .slnil))))))))))) (q_move (v := (pq g22)) rfl (optp_some rfl hz30)) (hu 3 rfl (bk_ (Gh.refl _) h0212 (.cons _ (.cons_cons _ (.cons_cons _ (.cons_cons _ (.cons _ (.cons_cons _ (.cons_cons _ (.cons_cons _ (.cons_cons _ (.cons_cons _ .slnil))))))))))) (q_move (v := .slice A133 z127.length c134) rfl (by kernel_rfl)) ?_)
     obtain ⟨hk213, h⟩ := chk_some h
     refine hu 4 rfl (bk_ (Gh.refl _) h0212 (.cons _ (.cons_cons _ (.cons_cons _ (.cons_cons _ (.cons _ (.cons_cons _ (.cons_cons _ (.cons_cons _ (.cons_cons _ (.cons_cons _ .slnil))))))))))) (q_ixn (i := 0) Tryz.underlying34 Tryz.sizeOf40 rfl rfl rfl (of_decide_eq_true hk213) ((hr136.mono (hl186.trans hl201)).some_ (of_decide_eq_true hk213))) (hu 5 rfl (bk_ (Gh.refl _) h0212 (.cons _ (.cons_cons _ (.cons_cons _ (.cons_cons _ (.cons _ (.cons_cons _ (.cons_cons _ (.cons_cons _ (.cons_cons _ (.cons_cons _ .slnil))))))))))) (q_field_addr (0 * 15 + 10) fld_40_8 rfl rfl ((hr136.mono (hl186.trans hl201)).some_ (of_decide_eq_true hk213)) rfl) (hu 6 rfl (bk_ (Gh.refl _) h0212 (.cons _ (.cons_cons _ (.cons_cons _ (.cons_cons _ (.cons _ (.cons_cons _ (.cons_cons _ (.cons_cons _ (.cons_cons _ (.cons_cons _ .slnil))))))))))) (q_ldo (c := 10) (v := .slice A166 ((gt z127 0).recs).length c167) (i := 2) rfl (hx176 (of_decide_eq_true hk213)).2 rfl Tryz.isAgg22 rfl rfl) ?_))
     refine WH.lone (i := 1) (by kernel_rfl) rfl ?_
     obtain ⟨z214, hz215, h⟩ := bnd h
     refine vc rfl rfl rfl (q_call (call_run Tryz.call11 rfl rfl (by kernel_rfl)) (fun w hw => t_firthlaw15_at (Γ := Gh.all w) 3 (show I64 3 by decide) (Sat.all w) hz215)) ?_
     refine WR.nil ?_
     refine WH.next (bk_ (Gh.refl _) h0212 (.cons _ (.cons_cons _ (.cons_cons _ (.cons_cons _ (.cons _ (.cons_cons _ (.cons_cons _ (.cons_cons _ (.cons_cons _ (.cons_cons _ .slnil))))))))))) ?_
     refine WH.lone (i := 2) (by kernel_rfl) rfl ?_
     obtain ⟨z216, hz217, h⟩ := bnd h
     refine vc rfl rfl rfl (q_call (call_run Tryz.call11 rfl rfl (by kernel_rfl)) (fun w hw => t_firthlaw15_at (Γ := Gh.all w) 1 (show I64 1 by decide) (Sat.all w) hz217)) ?_
     refine WR.nil ?_
     refine WH.next (bk_ (Gh.refl _) h0212 (.cons _ (.cons_cons _ (.cons_cons _ (.cons_cons _ (.cons _ (.cons_cons _ (.cons_cons _ (.cons_cons _ (.cons_cons _ (.cons_cons _ .slnil))))))))))) ?_
     refine hu 7 rfl (bk_ (Gh.refl _) h0212 (.cons _ (.cons_cons _ (.cons_cons _ (.cons_cons _ (.cons _ (.cons_cons _ (.cons_cons _ (.cons_cons _ (.cons_cons _ (.cons_cons _ .slnil))))))))))) (q_build' (v := .agg #[.int .i64 2, .int .i64 z214.site, .int .i64 z214.node, .int .i64 z216.site, .int .i64 z216.node, .int .i64 0, .int .i64 0, .int .i64 0, .int .i64 0, .string ByteArray.empty, .slice A166 ((gt z127 0).recs).length c167, .slice none 0 0, .slice none 0 0, .slice none 0 0, .slice none 0 0]) rfl (bargs4 rfl rfl rfl rfl) (fun w => by kernel_rfl)) ?_
     refine WH.lone (i := 8) (by kernel_rfl) rfl ?_
     obtain ⟨hk218, h⟩ := chk_some h
     obtain ⟨hk219, h⟩ := chk_some h
     obtain ⟨hk220, h⟩ := chk_some h
     obtain ⟨hk221, h⟩ := chk_some h
     obtain ⟨z222, hz223, h⟩ := bnd h
     refine e_call (is := [0, 3]) rfl rfl (call_run Tryz.call13 rfl rfl (by kernel_rfl)) rfl (fun w hp => t_node_Node_Handle (hr120.mono ((hl130.trans hl186).trans hl201)) (Am11 := none) (cm11 := 0) (Am12 := none) (cm12 := 0) (Am13 := none) (cm13 := 0) (Am14 := none) (cm14 := 0) (⟨2, (⟨z214.site, z214.node⟩ : Adr), (⟨z216.site, z216.node⟩ : Adr), 0, 0, 0, 0, ByteArray.empty, (gt z127 0).recs, [], [], [], []⟩ : Dapi_Msg) ⟨(show I64 2 by decide), (i64b_of hk218), (i64b_of hk219), (i64b_of hk220), (i64b_of hk221), (show I64 0 by decide), (show I64 0 by decide), (show I64 0 by decide), (show I64 0 by decide), (show (ByteArray.empty : ByteArray).size ≤ lim by decide), ⟨(hx176 (of_decide_eq_true hk213)).1.2.2.2.2.2.2.2.2.2.2.1.1, ((hx176 (of_decide_eq_true hk213)).1.2.2.2.2.2.2.2.2.2.2.1.2.mono (hl186.trans hl201))⟩, ⟨Nat.zero_le _, Sl.nil _ _ _⟩, ⟨Nat.zero_le _, Sl.nil _ _ _⟩, ⟨Nat.zero_le _, Sl.nil _ _ _⟩, ⟨Nat.zero_le _, Sl.nil _ _ _⟩⟩ (hr122.mono ((hl130.trans hl186).trans hl201)) hp hz223) ?_
     rintro Γ224 U226 v227 hl225 ⟨row228, row230, A232, c233, row234, rfl, rfl, hr229, hr231, hr235, _⟩
     change WR _ _ _ (CC F Γ224 [row228, row230, row234, row206, row191, row135, row125, [(g112, .cells #[.int .i64 z95.kind, .int .i64 z95.from_.site, .int .i64 z95.from_.node, .int .i64 z95.to_.site, .int .i64 z95.to_.node, .int .i64 z95.id, .int .i64 z95.n, .int .i64 3, .int .i64 z95.code, .string z95.key, .slice A101 z95.recs.length c102, .slice A103 z95.vec.length c104, .slice A105 z95.path.length c106, .slice A107 z95.hashes.length c108, .slice A109 z95.route.length c110] 40 (0, 0))], [], row77, []]) _ _ (upd _ 81 (.slice A232 z222.2.2.length c233))
     refine WR.nil ?_
     refine WH.next (bk_ hl225 h0212 (.cons _ (.cons _ (.cons _ (.cons_cons _ (.cons_cons _ (.cons_cons _ (.cons_cons _ (.cons_cons _ (.cons_cons _ (.cons_cons _ (.cons_cons _ .slnil)))))))))))) ?_
     refine WH.done (by kernel_rfl) ?_
     change WC _ _ _ _ _ _
     refine WC.rs (vb (q_move (v := (pq g22)) rfl (optp_some rfl hz30)) ?_)
     obtain ⟨z236, hz237, h⟩ := bnd h
     refine e_call (is := [0]) rfl rfl (call_run Tryz.call24 rfl rfl (by kernel_rfl)) rfl (fun w hp => t_node_Node_Hints hr229 3 (show I64 3 by decide) hp hz237) ?_
     rintro Γ238 U240 v241 hl239 ⟨A242, c243, row244, rfl, rfl, hr245, _⟩
     change WR _ _ _ (CC F Γ238 [row228, row244, row230, row234, row206, row191, row135, row125, [(g112, .cells #[.int .i64 z95.kind, .int .i64 z95.from_.site, .int .i64 z95.from_.node, .int .i64 z95.to_.site, .int .i64 z95.to_.node, .int .i64 z95.id, .int .i64 z95.n, .int .i64 3, .int .i64 z95.code, .string z95.key, .slice A101 z95.recs.length c102, .slice A103 z95.vec.length c104, .slice A105 z95.path.length c106, .slice A107 z95.hashes.length c108, .slice A109 z95.route.length c110] 40 (0, 0))], [], row77, []]) _ _ (upd _ 83 (.slice A242 z236.length c243))
     refine vb (q_len_slice rfl Tryz.underlying22 rfl) (vb (q_eql rfl rfl rfl) (as_ (v := .bool (((z236.length : Nat) : Int) == 0)) ?_))
     refine WR.done ?_
     refine WC.ret ?_
     intro w hw
     obtain rfl := Option.some.inj h
     subst hF
     exact ⟨by kernel_rfl, hw.fr⟩
   ·
    have h := bf hb197 h
    refine hg0 (g := (((z183.length : Nat) : Int) != 1)) (i := 36) (v := undef) rfl (by kernel_rfl) rfl rfl rfl rfl rfl (bk_ hl186 h0137 (.cons _ (.cons _ (.cons_cons _ (.cons _ (.cons_cons _ (.cons_cons _ (.cons_cons _ (.cons_cons _ (.cons_cons _ .slnil)))))))))) (no_tf hb197) ?_
    refine WH.env (v := undef) (gv_false hb197) ?_
    refine hg0 (g := (((z183.length : Nat) : Int) != 1)) (i := 37) (v := undef) rfl (by kernel_rfl) rfl rfl rfl rfl rfl (bk_ hl186 h0137 (.cons _ (.cons _ (.cons_cons _ (.cons _ (.cons_cons _ (.cons_cons _ (.cons_cons _ (.cons_cons _ (.cons_cons _ .slnil)))))))))) (no_tf hb197) ?_
    refine WH.env (v := undef) (gv_false hb197) ?_
    refine hg0 (g := (((z183.length : Nat) : Int) != 1)) (i := 38) (v := undef) rfl (by kernel_rfl) rfl rfl rfl rfl rfl (bk_ hl186 h0137 (.cons _ (.cons _ (.cons_cons _ (.cons _ (.cons_cons _ (.cons_cons _ (.cons_cons _ (.cons_cons _ (.cons_cons _ .slnil)))))))))) (no_tf hb197) ?_
    refine WH.env (v := undef) (gv_false hb197) ?_
    refine hu 39 rfl (bk_ hl186 h0137 (.cons _ (.cons _ (.cons_cons _ (.cons _ (.cons_cons _ (.cons_cons _ (.cons_cons _ (.cons_cons _ (.cons_cons _ .slnil)))))))))) (q_pick_t (v := .bool true) rfl rfl (not_f hb197) (by kernel_rfl)) ?_
    refine WH.done (by kernel_rfl) ?_
    change WC _ _ _ _ _ _
    refine WC.ctk (b := true) (by kernel_rfl) rfl ?_
    refine WC.rs (as_ (v := .bool false) ?_)
    refine WR.done ?_
    refine WC.ret ?_
    intro w hw
    obtain rfl := Option.some.inj h
    subst hF
    exact ⟨by kernel_rfl, hw.fr⟩
  ·
   have h := bf hb182 h
   refine hg0 (g := (((((((z65.2.2.length : Nat) : Int) != 1) || ((gt z65.2.2 0).kind != 2)) || (((z113.2.2.length : Nat) : Int) != 0)) || (((z127.length : Nat) : Int) != 1)) || ((gt z127 0).to_ != z178))) (i := 30) (v := undef) rfl (by kernel_rfl) rfl rfl rfl rfl rfl (bk_ (Gh.refl _) h0137 (.cons _ (.cons_cons _ (.cons _ (.cons_cons _ (.cons_cons _ (.cons_cons _ (.cons_cons _ (.cons_cons _ .slnil))))))))) (no_tf hb182) ?_
   refine WH.env (v := undef) (gv_false hb182) ?_
   refine hg0 (g := (((((((z65.2.2.length : Nat) : Int) != 1) || ((gt z65.2.2 0).kind != 2)) || (((z113.2.2.length : Nat) : Int) != 0)) || (((z127.length : Nat) : Int) != 1)) || ((gt z127 0).to_ != z178))) (i := 31) (v := undef) rfl (by kernel_rfl) rfl rfl rfl rfl rfl (bk_ (Gh.refl _) h0137 (.cons _ (.cons_cons _ (.cons _ (.cons_cons _ (.cons_cons _ (.cons_cons _ (.cons_cons _ (.cons_cons _ .slnil))))))))) (no_tf hb182) ?_
   refine WH.env (v := undef) (gv_false hb182) ?_
   refine hg0 (g := (((((((z65.2.2.length : Nat) : Int) != 1) || ((gt z65.2.2 0).kind != 2)) || (((z113.2.2.length : Nat) : Int) != 0)) || (((z127.length : Nat) : Int) != 1)) || ((gt z127 0).to_ != z178))) (i := 32) (v := undef) rfl (by kernel_rfl) rfl rfl rfl rfl rfl (bk_ (Gh.refl _) h0137 (.cons _ (.cons_cons _ (.cons _ (.cons_cons _ (.cons_cons _ (.cons_cons _ (.cons_cons _ (.cons_cons _ .slnil))))))))) (no_tf hb182) ?_
   refine WH.env (v := undef) (gv_false hb182) ?_
   refine hu 33 rfl (bk_ (Gh.refl _) h0137 (.cons _ (.cons_cons _ (.cons _ (.cons_cons _ (.cons_cons _ (.cons_cons _ (.cons_cons _ (.cons_cons _ .slnil))))))))) (q_pick_t (v := .bool true) rfl rfl (not_f hb182) (by kernel_rfl)) (hu 34 rfl (bk_ (Gh.refl _) h0137 (.cons _ (.cons_cons _ (.cons _ (.cons_cons _ (.cons_cons _ (.cons_cons _ (.cons_cons _ (.cons_cons _ .slnil))))))))) (q_move (v := .bool true) rfl (by kernel_rfl)) ?_)
   refine hg0 (g := true) (i := 35) (v := undef) rfl (by kernel_rfl) rfl rfl rfl rfl rfl (bk_ (Gh.refl _) h0137 (.cons _ (.cons_cons _ (.cons _ (.cons_cons _ (.cons_cons _ (.cons_cons _ (.cons_cons _ (.cons_cons _ .slnil))))))))) (no_tf (nott rfl)) ?_
   refine WH.env (v := undef) (gv_false (nott rfl)) ?_
   refine hg0 (g := true) (i := 36) (v := undef) rfl (by kernel_rfl) rfl rfl rfl rfl rfl (bk_ (Gh.refl _) h0137 (.cons _ (.cons_cons _ (.cons _ (.cons_cons _ (.cons_cons _ (.cons_cons _ (.cons_cons _ (.cons_cons _ .slnil))))))))) (no_tf (nott rfl)) ?_
   refine WH.env (v := undef) (gv_false (nott rfl)) ?_
   refine hg0 (g := true) (i := 37) (v := undef) rfl (by kernel_rfl) rfl rfl rfl rfl rfl (bk_ (Gh.refl _) h0137 (.cons _ (.cons_cons _ (.cons _ (.cons_cons _ (.cons_cons _ (.cons_cons _ (.cons_cons _ (.cons_cons _ .slnil))))))))) (no_tf (nott rfl)) ?_
   refine WH.env (v := undef) (gv_false (nott rfl)) ?_
   refine hg0 (g := true) (i := 38) (v := undef) rfl (by kernel_rfl) rfl rfl rfl rfl rfl (bk_ (Gh.refl _) h0137 (.cons _ (.cons_cons _ (.cons _ (.cons_cons _ (.cons_cons _ (.cons_cons _ (.cons_cons _ (.cons_cons _ .slnil))))))))) (no_tf (nott rfl)) ?_
   refine WH.env (v := undef) (gv_false (nott rfl)) ?_
   refine hu 39 rfl (bk_ (Gh.refl _) h0137 (.cons _ (.cons_cons _ (.cons _ (.cons_cons _ (.cons_cons _ (.cons_cons _ (.cons_cons _ (.cons_cons _ .slnil))))))))) (q_pickt (v := .bool true) rfl rfl rfl) ?_
   refine WH.done (by kernel_rfl) ?_
   change WC _ _ _ _ _ _
   refine WC.ctk (b := true) (by kernel_rfl) rfl ?_
   refine WC.rs (as_ (v := .bool false) ?_)
   refine WR.done ?_
   refine WC.ret ?_
   intro w hw
   obtain rfl := Option.some.inj h
   subst hF
   exact ⟨by kernel_rfl, hw.fr⟩
theorem t_firthref03_Dot {Γ : Gh} {w0 : World} (d : Dot) (hd : Dot.fits Γ  d) (hs : Sat Γ w0) {r : Bool} (h : m_firthref03_Dot d = some r) : Calls Tryz.prog 115 #[.agg #[.int .i64 d.s, .int .i64 d.n]] w0 (fun e w' => e = .returned (.bool r) ∧ Fr no w0 w') := by
 refine calls_of (N := 21) (rs := [2]) (args := [.agg #[.int .i64 d.s, .int .i64 d.n]]) Tryz.func115 rfl Tryz.ntmps115 Tryz.results115 rfl ?_
 obtain ⟨F, hF⟩ : ∃ F : Fm, F = ⟨no, w0, Γ⟩ := ⟨_, rfl⟩
 refine WC.here (C := CC F Γ []) ?_ (hF ▸ Cur.start0 hs)
 refine WC.rs ?_
 refine e_box (v := .agg #[.int .i64 d.s, .int .i64 d.n]) rfl rfl rfl rfl (by kernel_rfl) ?_
 intro g1
 refine as_ (v := .bool false) ?_
 refine WR.done ?_
 refine WC.rs (vb (q_fl 0 fld_86_0 rfl rfl rfl) (vb (q_ldl (i := 0) (v := .int .i64 d.s) rfl rfl Tryz.isAgg3 rfl rfl) (vb (q_geq rfl rfl rfl) (mv (v := .bool (decide (1 ≤ d.s))) (vg1 rfl rfl rfl rfl rfl (fun hg2 => QV.qo (q_fl 0 fld_86_0 rfl rfl rfl)) (vg1 rfl rfl rfl rfl rfl (fun hg3 => QV.qo (q_ldl (i := 0) (v := .int .i64 d.s) rfl rfl Tryz.isAgg3 (gu hg3 rfl) rfl)) (vg1 rfl rfl rfl rfl rfl (fun hg4 => QV.qo (q_leq rfl (gu hg4 rfl) rfl)) ?_)))))))
 refine vb (q_pick rfl rfl (pk_and' (g := (decide (1 ≤ d.s))) (y := (decide (d.s ≤ 16))))) (mv (v := .bool ((decide (1 ≤ d.s)) && (decide (d.s ≤ 16)))) (vg1 rfl rfl rfl rfl rfl (fun hg5 => QV.qo (q_fl 1 fld_86_1 rfl rfl rfl)) (vg1 rfl rfl rfl rfl rfl (fun hg6 => QV.qo (q_ldl (i := 0) (v := .int .i64 d.n) rfl rfl Tryz.isAgg2 (gu hg6 rfl) rfl)) (vg1 rfl rfl rfl rfl rfl (fun hg7 => QV.qo (q_geq rfl (gu hg7 rfl) rfl)) (vb (q_pick rfl rfl (pk_and' (g := ((decide (1 ≤ d.s)) && (decide (d.s ≤ 16)))) (y := (decide (1 ≤ d.n))))) (mv (v := .bool (((decide (1 ≤ d.s)) && (decide (d.s ≤ 16))) && (decide (1 ≤ d.n)))) (vg1 rfl rfl rfl rfl rfl (fun hg8 => QV.qo (q_fl 1 fld_86_1 rfl rfl rfl)) ?_)))))))
 refine vg1 rfl rfl rfl rfl rfl (fun hg9 => QV.qo (q_ldl (i := 0) (v := .int .i64 d.n) rfl rfl Tryz.isAgg2 (gu hg9 rfl) rfl)) (vg1 rfl rfl rfl rfl rfl (fun hg10 => QV.qo (q_leq rfl (gu hg10 rfl) rfl)) (vb (q_pick rfl rfl (pk_and' (g := (((decide (1 ≤ d.s)) && (decide (d.s ≤ 16))) && (decide (1 ≤ d.n)))) (y := (decide (d.n ≤ 4611686018427387904))))) (as_ (v := .bool ((((decide (1 ≤ d.s)) && (decide (d.s ≤ 16))) && (decide (1 ≤ d.n))) && (decide (d.n ≤ 4611686018427387904)))) ?_)))
 refine WR.done ?_
 refine WC.ret ?_
 intro w hw
 obtain rfl := Option.some.inj h
 subst hF
 exact ⟨by kernel_rfl, hw.fr⟩
theorem t_firthref03_Right {Γ : Gh} {w0 : World} {Al : Option Addr} {cl : Nat} {l : List Span} (hl : Sl spanT Γ Al l) (hlc : l.length ≤ cl) (hs : Sat Γ w0) {r : Bool} (h : m_firthref03_Right l = some r) : Calls Tryz.prog 116 #[.slice Al l.length cl] w0 (fun e w' => e = .returned (.bool r) ∧ Fr no w0 w') := by
 refine calls_of (N := 99) (rs := [2]) (args := [.slice Al l.length cl]) Tryz.func116 rfl Tryz.ntmps116 Tryz.results116 rfl ?_
 obtain ⟨F, hF⟩ : ∃ F : Fm, F = ⟨no, w0, Γ⟩ := ⟨_, rfl⟩
 refine WC.here (C := CC F Γ []) ?_ (hF ▸ Cur.start0 hs)
 refine WC.rs (as_ (v := .bool false) ?_)
 refine WR.done ?_
 refine WC.seq (WC.rs (mv (v := .slice Al l.length cl) (vb (q_len_slice rfl Tryz.underlying87 rfl) (vb (q_gtr rfl rfl rfl) ?_))))
 refine WR.done ?_
 refine WC.cif h (by kernel_rfl) (fun hb1 h => ?_) (fun hb1 h => ?_)
 ·
  refine WC.rs (as_ (v := .bool false) ?_)
  refine WR.done ?_
  refine WC.ret ?_
  intro w hw
  obtain rfl := Option.some.inj h
  subst hF
  exact ⟨by kernel_rfl, hw.fr⟩
 ·
  refine WC.skip ?_
  change WC _ _ _ _ _ _
  refine WC.seq (WC.rs (as_ (v := .int .i64 0) ?_))
  refine WR.done ?_
  refine WC.block ?_
  refine WC.forI h (fun (i3 : Nat) (s : Unit) σ w => match s with | () => slots σ [(0, .slice Al l.length cl), (3, .int .i64 ((i3 : Nat) : Int))] ∧ CC F Γ [] w ∧ True) ?_ ?_
  ·
   intro w hw
   exact ⟨(sl_ (by kernel_rfl)), hw, trivial⟩
  rintro f2 i3 ⟨⟩ σ w hi4 hlt5 hge6 ⟨hsl, hw, -⟩
  refine Wpt.slots hsl ?_
  refine WC.here (C := CC F Γ []) ?_ hw
  clear hw hsl
  refine WC.seq (WC.rs (mv (v := .int .i64 ((i3 : Nat) : Int)) (mv (v := .slice Al l.length cl) (vb (q_len_slice rfl Tryz.underlying87 rfl) (vb (q_lss rfl rfl rfl) ?_)))))
  refine WR.done ?_
  refine WC.cond (b := (decide (((i3 : Nat) : Int) < ((l.length : Nat) : Int)))) (by kernel_rfl) (fun hb7 => ?_) (fun hb7 => ?_)
  ·
   have hl8 := ilt hb7
   have h := hlt5 hl8
   refine WC.skip ?_
   change WC _ _ _ _ _ _
   refine WC.seq (WC.block (WC.seq (WC.seq ?_)))
   refine WC.dr (by kernel_rfl) (by kernel_rfl) (fun w hw => hw.drawn _) ?_
   refine wa rfl rfl rfl (q_move (v := .slice Al l.length cl) rfl (by kernel_rfl)) (wa rfl rfl rfl (q_move (v := .int .i64 ((i3 : Nat) : Int)) rfl (by kernel_rfl)) (wa rfl rfl rfl (q_ixn (i := i3) Tryz.underlying87 Tryz.sizeOf93 rfl rfl rfl hl8 (hl.some_ hl8)) (wa rfl rfl rfl (q_field_addr (i3 * 3) fld_93_0 rfl rfl (hl.some_ hl8) rfl) (wa rfl rfl rfl (q_ld (c := 0) (v := .int .i64 (gt l i3).s) (hl.spanT_at hl8).2 rfl Tryz.isAgg3 rfl rfl) (wa rfl rfl rfl (q_move (v := .slice Al l.length cl) rfl (by kernel_rfl)) (wa rfl rfl rfl (q_move (v := .int .i64 ((i3 : Nat) : Int)) rfl (by kernel_rfl)) (wa rfl rfl rfl (q_ixn (i := i3) Tryz.underlying87 Tryz.sizeOf93 rfl rfl rfl hl8 (hl.some_ hl8)) ?_)))))))
   refine wa rfl rfl rfl (q_field_addr (i3 * 3 + 1) fld_93_1 rfl rfl (hl.some_ hl8) rfl) (wa rfl rfl rfl (q_ld (c := 1) (v := .int .i64 (gt l i3).f) (hl.spanT_at hl8).2 rfl Tryz.isAgg2 rfl rfl) (wa rfl rfl rfl (q_build' (v := .agg #[.int .i64 (gt l i3).s, .int .i64 (gt l i3).f]) rfl (bargs2 rfl rfl) (fun w => by kernel_rfl)) ?_))
   obtain ⟨z9, hz10, h⟩ := bnd h
   refine wc rfl rfl rfl (q_call (call_run Tryz.call115 rfl rfl (by kernel_rfl)) (fun w hw => t_firthref03_Dot (Γ := Gh.all w) (⟨(gt l i3).s, (gt l i3).f⟩ : Dot) ⟨(hl.spanT_at hl8).1.1, (hl.spanT_at hl8).1.2.1⟩ (Sat.all w) hz10)) (wa rfl rfl rfl (q_not rfl rfl) (wa rfl rfl rfl (q_move (v := .bool (!z9)) rfl (by kernel_rfl)) (wg0 rfl rfl rfl rfl rfl (fun hg11 => QV.qo (q_move (v := .slice Al l.length cl) rfl (by kernel_rfl))) (wg0 rfl rfl rfl rfl rfl (fun hg12 => QV.qo (q_move (v := .int .i64 ((i3 : Nat) : Int)) rfl (by kernel_rfl))) (wg0 rfl rfl rfl rfl rfl (fun hg13 => QV.qo (q_ixn (i := i3) Tryz.underlying87 Tryz.sizeOf93 rfl (gu hg13 rfl) (gu hg13 rfl) hl8 (hl.some_ hl8))) (wg0 rfl rfl rfl rfl rfl (fun hg14 => QV.qo (q_field_addr (i3 * 3) fld_93_0 rfl (gu hg14 rfl) (hl.some_ hl8) rfl)) (wg0 rfl rfl rfl rfl rfl (fun hg15 => QV.qo (q_ld (c := 0) (v := .int .i64 (gt l i3).s) (hl.spanT_at hl8).2 rfl Tryz.isAgg3 (gu hg15 rfl) rfl)) ?_)))))))
   refine wg0 rfl rfl rfl rfl rfl (fun hg16 => QV.qo (q_move (v := .slice Al l.length cl) rfl (by kernel_rfl))) (wg0 rfl rfl rfl rfl rfl (fun hg17 => QV.qo (q_move (v := .int .i64 ((i3 : Nat) : Int)) rfl (by kernel_rfl))) (wg0 rfl rfl rfl rfl rfl (fun hg18 => QV.qo (q_ixn (i := i3) Tryz.underlying87 Tryz.sizeOf93 rfl (gu hg18 rfl) (gu hg18 rfl) hl8 (hl.some_ hl8))) (wg0 rfl rfl rfl rfl rfl (fun hg19 => QV.qo (q_field_addr (i3 * 3 + 2) fld_93_2 rfl (gu hg19 rfl) (hl.some_ hl8) rfl)) (wg0 rfl rfl rfl rfl rfl (fun hg20 => QV.qo (q_ld (c := 2) (v := .int .i64 (gt l i3).t) (hl.spanT_at hl8).2 rfl Tryz.isAgg2 (gu hg20 rfl) rfl)) (wg0 rfl rfl rfl rfl rfl (fun hg21 => QV.qo (q_build' (v := .agg #[.int .i64 (gt l i3).s, .int .i64 (gt l i3).t]) rfl (bargs2 (gu hg21 rfl) (gu hg21 rfl)) (fun w => by kernel_rfl))) ?_)))))
   obtain ⟨z23, hz24, h⟩ := bnd h
   refine wg0 rfl rfl rfl rfl rfl (fun hg22 => (q_call (call_run Tryz.call115 rfl rfl (args1 (gu hg22 rfl))) (fun w hw => t_firthref03_Dot (Γ := Gh.all w) (⟨(gt l i3).s, (gt l i3).t⟩ : Dot) ⟨(hl.spanT_at hl8).1.1, (hl.spanT_at hl8).1.2.2⟩ (Sat.all w) (gc_of hz24 hg22)))) (wg0 rfl rfl rfl rfl rfl (fun hg25 => QV.qo (q_not rfl (gu hg25 rfl))) (wa rfl rfl rfl (q_pick rfl rfl (pk_or' (g := (!z9)) (y := (!z23)))) (wa rfl rfl rfl (q_move (v := .bool ((!z9) || (!z23))) rfl (by kernel_rfl)) (wg0 rfl rfl rfl rfl rfl (fun hg26 => QV.qo (q_move (v := .slice Al l.length cl) rfl (by kernel_rfl))) (wg0 rfl rfl rfl rfl rfl (fun hg27 => QV.qo (q_move (v := .int .i64 ((i3 : Nat) : Int)) rfl (by kernel_rfl))) (wg0 rfl rfl rfl rfl rfl (fun hg28 => QV.qo (q_ixn (i := i3) Tryz.underlying87 Tryz.sizeOf93 rfl (gu hg28 rfl) (gu hg28 rfl) hl8 (hl.some_ hl8))) (wg0 rfl rfl rfl rfl rfl (fun hg29 => QV.qo (q_field_addr (i3 * 3 + 1) fld_93_1 rfl (gu hg29 rfl) (hl.some_ hl8) rfl)) ?_)))))))
   refine wg0 rfl rfl rfl rfl rfl (fun hg30 => QV.qo (q_ld (c := 1) (v := .int .i64 (gt l i3).f) (hl.spanT_at hl8).2 rfl Tryz.isAgg2 (gu hg30 rfl) rfl)) (wg0 rfl rfl rfl rfl rfl (fun hg31 => QV.qo (q_move (v := .slice Al l.length cl) rfl (by kernel_rfl))) (wg0 rfl rfl rfl rfl rfl (fun hg32 => QV.qo (q_move (v := .int .i64 ((i3 : Nat) : Int)) rfl (by kernel_rfl))) (wg0 rfl rfl rfl rfl rfl (fun hg33 => QV.qo (q_ixn (i := i3) Tryz.underlying87 Tryz.sizeOf93 rfl (gu hg33 rfl) (gu hg33 rfl) hl8 (hl.some_ hl8))) (wg0 rfl rfl rfl rfl rfl (fun hg34 => QV.qo (q_field_addr (i3 * 3 + 2) fld_93_2 rfl (gu hg34 rfl) (hl.some_ hl8) rfl)) (wg0 rfl rfl rfl rfl rfl (fun hg35 => QV.qo (q_ld (c := 2) (v := .int .i64 (gt l i3).t) (hl.spanT_at hl8).2 rfl Tryz.isAgg2 (gu hg35 rfl) rfl)) (wg0 rfl rfl rfl rfl rfl (fun hg36 => QV.qo (q_gtr rfl (gu hg36 rfl) (gu hg36 rfl))) (wa rfl rfl rfl (q_pick rfl rfl (pk_or' (g := ((!z9) || (!z23))) (y := (decide ((gt l i3).t < (gt l i3).f))))) ?_)))))))
   refine WQ.nil ?_
   change WC _ _ _ _ _ _
   refine WC.cif h (by kernel_rfl) (fun hb37 h => ?_) (fun hb37 h => ?_)
   ·
    refine WC.rs (as_ (v := .bool false) ?_)
    refine WR.done ?_
    refine WC.ret ?_
    intro w hw
    obtain rfl := Option.some.inj h
    subst hF
    exact ⟨by kernel_rfl, hw.fr⟩
   ·
    refine WC.skip ?_
    change WC _ _ _ _ _ _
    refine WC.seq ?_
    refine WC.dr (by kernel_rfl) (by kernel_rfl) (fun w hw => hw.drawn _) ?_
    refine wa rfl rfl rfl (q_move (v := .int .i64 ((i3 : Nat) : Int)) rfl (by kernel_rfl)) (wa rfl rfl rfl (q_gtr rfl rfl rfl) (wa rfl rfl rfl (q_move (v := .bool (decide (0 < ((i3 : Nat) : Int)))) rfl (by kernel_rfl)) (wg1 rfl rfl rfl rfl rfl (fun hg38 => QV.qo (q_move (v := .slice Al l.length cl) rfl (by kernel_rfl))) (wg1 rfl rfl rfl rfl rfl (fun hg39 => QV.qo (q_move (v := .int .i64 ((i3 : Nat) : Int)) rfl (by kernel_rfl))) (wg1 rfl rfl rfl rfl rfl (fun hg40 => QV.qo (q_ixn (i := i3) Tryz.underlying87 Tryz.sizeOf93 rfl (gu hg40 rfl) (gu hg40 rfl) hl8 (hl.some_ hl8))) (wg1 rfl rfl rfl rfl rfl (fun hg41 => QV.qo (q_field_addr (i3 * 3) fld_93_0 rfl (gu hg41 rfl) (hl.some_ hl8) rfl)) (wg1 rfl rfl rfl rfl rfl (fun hg42 => QV.qo (q_ld (c := 0) (v := .int .i64 (gt l i3).s) (hl.spanT_at hl8).2 rfl Tryz.isAgg3 (gu hg42 rfl) rfl)) ?_)))))))
    refine wg1 rfl rfl rfl rfl rfl (fun hg43 => QV.qo (q_move (v := .slice Al l.length cl) rfl (by kernel_rfl))) (wg1 rfl rfl rfl rfl rfl (fun hg44 => QV.qo (q_move (v := .int .i64 ((i3 : Nat) : Int)) rfl (by kernel_rfl))) (wg1 rfl rfl rfl rfl rfl (fun hg45 => QV.qo (q_sub rfl (gu hg45 rfl) rfl)) ?_))
    obtain ⟨hk47, h⟩ := chk_some h
    refine wg1 rfl rfl rfl rfl rfl (fun hg46 => QV.qo (q_ix Tryz.underlying87 Tryz.sizeOf93 rfl (gu hg46 rfl) (gu hg46 rfl) (imp_of hk47 hg46) (hl.some_ (inb_lt (imp_of hk47 hg46))))) (wg1 rfl rfl rfl rfl rfl (fun hg48 => QV.qo (q_field_addr (((w64 (((i3 : Nat) : Int) - 1)).toNat) * 3) fld_93_0 rfl (gu hg48 rfl) (hl.some_ (inb_lt (imp_of hk47 hg48))) rfl)) (wg1 rfl rfl rfl rfl rfl (fun hg49 => QV.qo (q_ld (c := 0) (v := .int .i64 (gt l ((w64 (((i3 : Nat) : Int) - 1)).toNat)).s) (hl.spanT_at (inb_lt (imp_of hk47 hg49))).2 rfl Tryz.isAgg3 (gu hg49 rfl) rfl)) (wg1 rfl rfl rfl rfl rfl (fun hg50 => QV.qo (q_lss rfl (gu hg50 rfl) (gu hg50 rfl))) (wg1 rfl rfl rfl rfl rfl (fun hg51 => QV.qo (q_move (v := .bool (decide ((gt l i3).s < (gt l ((w64 (((i3 : Nat) : Int) - 1)).toNat)).s))) rfl (gu hg51 rfl))) (wh0 (c0 := (decide (0 < ((i3 : Nat) : Int)))) (g := (decide ((gt l i3).s < (gt l ((w64 (((i3 : Nat) : Int) - 1)).toNat)).s))) rfl rfl rfl rfl rfl (fun hg52 => QV.qo (q_move (v := .slice Al l.length cl) rfl (by kernel_rfl))) (wh0 (c0 := (decide (0 < ((i3 : Nat) : Int)))) (g := (decide ((gt l i3).s < (gt l ((w64 (((i3 : Nat) : Int) - 1)).toNat)).s))) rfl rfl rfl rfl rfl (fun hg53 => QV.qo (q_move (v := .int .i64 ((i3 : Nat) : Int)) rfl (by kernel_rfl))) ?_))))))
    refine wh0 (c0 := (decide (0 < ((i3 : Nat) : Int)))) (g := (decide ((gt l i3).s < (gt l ((w64 (((i3 : Nat) : Int) - 1)).toNat)).s))) rfl rfl rfl rfl rfl (fun hg54 => QV.qo (q_ixn (i := i3) Tryz.underlying87 Tryz.sizeOf93 rfl (gu hg54 rfl) (gu hg54 rfl) hl8 (hl.some_ hl8))) (wh0 (c0 := (decide (0 < ((i3 : Nat) : Int)))) (g := (decide ((gt l i3).s < (gt l ((w64 (((i3 : Nat) : Int) - 1)).toNat)).s))) rfl rfl rfl rfl rfl (fun hg55 => QV.qo (q_field_addr (i3 * 3) fld_93_0 rfl (gu hg55 rfl) (hl.some_ hl8) rfl)) (wh0 (c0 := (decide (0 < ((i3 : Nat) : Int)))) (g := (decide ((gt l i3).s < (gt l ((w64 (((i3 : Nat) : Int) - 1)).toNat)).s))) rfl rfl rfl rfl rfl (fun hg56 => QV.qo (q_ld (c := 0) (v := .int .i64 (gt l i3).s) (hl.spanT_at hl8).2 rfl Tryz.isAgg3 (gu hg56 rfl) rfl)) (wh0 (c0 := (decide (0 < ((i3 : Nat) : Int)))) (g := (decide ((gt l i3).s < (gt l ((w64 (((i3 : Nat) : Int) - 1)).toNat)).s))) rfl rfl rfl rfl rfl (fun hg57 => QV.qo (q_move (v := .slice Al l.length cl) rfl (by kernel_rfl))) (wh0 (c0 := (decide (0 < ((i3 : Nat) : Int)))) (g := (decide ((gt l i3).s < (gt l ((w64 (((i3 : Nat) : Int) - 1)).toNat)).s))) rfl rfl rfl rfl rfl (fun hg58 => QV.qo (q_move (v := .int .i64 ((i3 : Nat) : Int)) rfl (by kernel_rfl))) ?_))))
    refine wh0 (c0 := (decide (0 < ((i3 : Nat) : Int)))) (g := (decide ((gt l i3).s < (gt l ((w64 (((i3 : Nat) : Int) - 1)).toNat)).s))) rfl rfl rfl rfl rfl (fun hg59 => QV.qo (q_sub rfl (gu hg59 rfl) rfl)) (wh0 (c0 := (decide (0 < ((i3 : Nat) : Int)))) (g := (decide ((gt l i3).s < (gt l ((w64 (((i3 : Nat) : Int) - 1)).toNat)).s))) rfl rfl rfl rfl rfl (fun hg60 => QV.qo (q_ix Tryz.underlying87 Tryz.sizeOf93 rfl (gu hg60 rfl) (gu hg60 rfl) (imp_of hk47 (and_l hg60)) (hl.some_ (inb_lt (imp_of hk47 (and_l hg60)))))) (wh0 (c0 := (decide (0 < ((i3 : Nat) : Int)))) (g := (decide ((gt l i3).s < (gt l ((w64 (((i3 : Nat) : Int) - 1)).toNat)).s))) rfl rfl rfl rfl rfl (fun hg61 => QV.qo (q_field_addr (((w64 (((i3 : Nat) : Int) - 1)).toNat) * 3) fld_93_0 rfl (gu hg61 rfl) (hl.some_ (inb_lt (imp_of hk47 (and_l hg61)))) rfl)) (wh0 (c0 := (decide (0 < ((i3 : Nat) : Int)))) (g := (decide ((gt l i3).s < (gt l ((w64 (((i3 : Nat) : Int) - 1)).toNat)).s))) rfl rfl rfl rfl rfl (fun hg62 => QV.qo (q_ld (c := 0) (v := .int .i64 (gt l ((w64 (((i3 : Nat) : Int) - 1)).toNat)).s) (hl.spanT_at (inb_lt (imp_of hk47 (and_l hg62)))).2 rfl Tryz.isAgg3 (gu hg62 rfl) rfl)) (wh0 (c0 := (decide (0 < ((i3 : Nat) : Int)))) (g := (decide ((gt l i3).s < (gt l ((w64 (((i3 : Nat) : Int) - 1)).toNat)).s))) rfl rfl rfl rfl rfl (fun hg63 => QV.qo (q_eql rfl (gu hg63 rfl) (gu hg63 rfl))) ?_))))
    refine wh0 (c0 := (decide (0 < ((i3 : Nat) : Int)))) (g := (decide ((gt l i3).s < (gt l ((w64 (((i3 : Nat) : Int) - 1)).toNat)).s))) rfl rfl rfl rfl rfl (fun hg64 => QV.qo (q_move (v := .bool ((gt l i3).s == (gt l ((w64 (((i3 : Nat) : Int) - 1)).toNat)).s)) rfl (gu hg64 rfl))) (wh1 (c0 := ((decide (0 < ((i3 : Nat) : Int))) && (!(decide ((gt l i3).s < (gt l ((w64 (((i3 : Nat) : Int) - 1)).toNat)).s))))) (g := ((gt l i3).s == (gt l ((w64 (((i3 : Nat) : Int) - 1)).toNat)).s)) rfl rfl rfl rfl rfl (fun hg65 => QV.qo (q_move (v := .slice Al l.length cl) rfl (by kernel_rfl))) (wh1 (c0 := ((decide (0 < ((i3 : Nat) : Int))) && (!(decide ((gt l i3).s < (gt l ((w64 (((i3 : Nat) : Int) - 1)).toNat)).s))))) (g := ((gt l i3).s == (gt l ((w64 (((i3 : Nat) : Int) - 1)).toNat)).s)) rfl rfl rfl rfl rfl (fun hg66 => QV.qo (q_move (v := .int .i64 ((i3 : Nat) : Int)) rfl (by kernel_rfl))) (wh1 (c0 := ((decide (0 < ((i3 : Nat) : Int))) && (!(decide ((gt l i3).s < (gt l ((w64 (((i3 : Nat) : Int) - 1)).toNat)).s))))) (g := ((gt l i3).s == (gt l ((w64 (((i3 : Nat) : Int) - 1)).toNat)).s)) rfl rfl rfl rfl rfl (fun hg67 => QV.qo (q_ixn (i := i3) Tryz.underlying87 Tryz.sizeOf93 rfl (gu hg67 rfl) (gu hg67 rfl) hl8 (hl.some_ hl8))) ?_)))
    refine wh1 (c0 := ((decide (0 < ((i3 : Nat) : Int))) && (!(decide ((gt l i3).s < (gt l ((w64 (((i3 : Nat) : Int) - 1)).toNat)).s))))) (g := ((gt l i3).s == (gt l ((w64 (((i3 : Nat) : Int) - 1)).toNat)).s)) rfl rfl rfl rfl rfl (fun hg68 => QV.qo (q_field_addr (i3 * 3 + 1) fld_93_1 rfl (gu hg68 rfl) (hl.some_ hl8) rfl)) (wh1 (c0 := ((decide (0 < ((i3 : Nat) : Int))) && (!(decide ((gt l i3).s < (gt l ((w64 (((i3 : Nat) : Int) - 1)).toNat)).s))))) (g := ((gt l i3).s == (gt l ((w64 (((i3 : Nat) : Int) - 1)).toNat)).s)) rfl rfl rfl rfl rfl (fun hg69 => QV.qo (q_ld (c := 1) (v := .int .i64 (gt l i3).f) (hl.spanT_at hl8).2 rfl Tryz.isAgg2 (gu hg69 rfl) rfl)) (wh1 (c0 := ((decide (0 < ((i3 : Nat) : Int))) && (!(decide ((gt l i3).s < (gt l ((w64 (((i3 : Nat) : Int) - 1)).toNat)).s))))) (g := ((gt l i3).s == (gt l ((w64 (((i3 : Nat) : Int) - 1)).toNat)).s)) rfl rfl rfl rfl rfl (fun hg70 => QV.qo (q_sub rfl (gu hg70 rfl) rfl)) (wh1 (c0 := ((decide (0 < ((i3 : Nat) : Int))) && (!(decide ((gt l i3).s < (gt l ((w64 (((i3 : Nat) : Int) - 1)).toNat)).s))))) (g := ((gt l i3).s == (gt l ((w64 (((i3 : Nat) : Int) - 1)).toNat)).s)) rfl rfl rfl rfl rfl (fun hg71 => QV.qo (q_move (v := .slice Al l.length cl) rfl (by kernel_rfl))) ?_)))
    refine wh1 (c0 := ((decide (0 < ((i3 : Nat) : Int))) && (!(decide ((gt l i3).s < (gt l ((w64 (((i3 : Nat) : Int) - 1)).toNat)).s))))) (g := ((gt l i3).s == (gt l ((w64 (((i3 : Nat) : Int) - 1)).toNat)).s)) rfl rfl rfl rfl rfl (fun hg72 => QV.qo (q_move (v := .int .i64 ((i3 : Nat) : Int)) rfl (by kernel_rfl))) (wh1 (c0 := ((decide (0 < ((i3 : Nat) : Int))) && (!(decide ((gt l i3).s < (gt l ((w64 (((i3 : Nat) : Int) - 1)).toNat)).s))))) (g := ((gt l i3).s == (gt l ((w64 (((i3 : Nat) : Int) - 1)).toNat)).s)) rfl rfl rfl rfl rfl (fun hg73 => QV.qo (q_sub rfl (gu hg73 rfl) rfl)) (wh1 (c0 := ((decide (0 < ((i3 : Nat) : Int))) && (!(decide ((gt l i3).s < (gt l ((w64 (((i3 : Nat) : Int) - 1)).toNat)).s))))) (g := ((gt l i3).s == (gt l ((w64 (((i3 : Nat) : Int) - 1)).toNat)).s)) rfl rfl rfl rfl rfl (fun hg74 => QV.qo (q_ix Tryz.underlying87 Tryz.sizeOf93 rfl (gu hg74 rfl) (gu hg74 rfl) (imp_of hk47 (and_l (and_l hg74))) (hl.some_ (inb_lt (imp_of hk47 (and_l (and_l hg74))))))) (wh1 (c0 := ((decide (0 < ((i3 : Nat) : Int))) && (!(decide ((gt l i3).s < (gt l ((w64 (((i3 : Nat) : Int) - 1)).toNat)).s))))) (g := ((gt l i3).s == (gt l ((w64 (((i3 : Nat) : Int) - 1)).toNat)).s)) rfl rfl rfl rfl rfl (fun hg75 => QV.qo (q_field_addr (((w64 (((i3 : Nat) : Int) - 1)).toNat) * 3 + 2) fld_93_2 rfl (gu hg75 rfl) (hl.some_ (inb_lt (imp_of hk47 (and_l (and_l hg75))))) rfl)) ?_)))
    refine wh1 (c0 := ((decide (0 < ((i3 : Nat) : Int))) && (!(decide ((gt l i3).s < (gt l ((w64 (((i3 : Nat) : Int) - 1)).toNat)).s))))) (g := ((gt l i3).s == (gt l ((w64 (((i3 : Nat) : Int) - 1)).toNat)).s)) rfl rfl rfl rfl rfl (fun hg76 => QV.qo (q_ld (c := 2) (v := .int .i64 (gt l ((w64 (((i3 : Nat) : Int) - 1)).toNat)).t) (hl.spanT_at (inb_lt (imp_of hk47 (and_l (and_l hg76))))).2 rfl Tryz.isAgg2 (gu hg76 rfl) rfl)) (wh1 (c0 := ((decide (0 < ((i3 : Nat) : Int))) && (!(decide ((gt l i3).s < (gt l ((w64 (((i3 : Nat) : Int) - 1)).toNat)).s))))) (g := ((gt l i3).s == (gt l ((w64 (((i3 : Nat) : Int) - 1)).toNat)).s)) rfl rfl rfl rfl rfl (fun hg77 => QV.qo (q_leq rfl (gu hg77 rfl) (gu hg77 rfl))) (wh0 (c0 := (decide (0 < ((i3 : Nat) : Int)))) (g := (decide ((gt l i3).s < (gt l ((w64 (((i3 : Nat) : Int) - 1)).toNat)).s))) rfl rfl rfl rfl rfl (fun hg78 => QV.qo (q_pick rfl (gu hg78 rfl) (pk_and (c := ((decide (0 < ((i3 : Nat) : Int))) && (!(decide ((gt l i3).s < (gt l ((w64 (((i3 : Nat) : Int) - 1)).toNat)).s))))) (g := ((gt l i3).s == (gt l ((w64 (((i3 : Nat) : Int) - 1)).toNat)).s)) (y := (decide ((w64 ((gt l i3).f - 1)) ≤ (gt l ((w64 (((i3 : Nat) : Int) - 1)).toNat)).t))) hg78))) ?_))
    refine wg1 rfl rfl rfl rfl rfl (fun hg79 => QV.qo (q_pick rfl (gu hg79 rfl) (pk_or (c := (decide (0 < ((i3 : Nat) : Int)))) (g := (decide ((gt l i3).s < (gt l ((w64 (((i3 : Nat) : Int) - 1)).toNat)).s))) (y := (((gt l i3).s == (gt l ((w64 (((i3 : Nat) : Int) - 1)).toNat)).s) && (decide ((w64 ((gt l i3).f - 1)) ≤ (gt l ((w64 (((i3 : Nat) : Int) - 1)).toNat)).t)))) hg79))) (wa rfl rfl rfl (q_pick rfl rfl (pk_and' (g := (decide (0 < ((i3 : Nat) : Int)))) (y := ((decide ((gt l i3).s < (gt l ((w64 (((i3 : Nat) : Int) - 1)).toNat)).s)) || (((gt l i3).s == (gt l ((w64 (((i3 : Nat) : Int) - 1)).toNat)).s) && (decide ((w64 ((gt l i3).f - 1)) ≤ (gt l ((w64 (((i3 : Nat) : Int) - 1)).toNat)).t))))))) ?_)
    refine WQ.nil ?_
    change WC _ _ _ _ _ _
    refine WC.cif h (by kernel_rfl) (fun hb80 h => ?_) (fun hb80 h => ?_)
    ·
     refine WC.rs (as_ (v := .bool false) ?_)
     refine WR.done ?_
     refine WC.ret ?_
     intro w hw
     obtain rfl := Option.some.inj h
     subst hF
     exact ⟨by kernel_rfl, hw.fr⟩
    ·
     refine WC.skip ?_
     change WC _ _ _ _ _ _
     refine WC.region ?_
     refine mv (v := .int .i64 ((i3 : Nat) : Int)) (vb (q_add_r (r := ((i3 + 1 : Nat) : Int)) rfl rfl rfl (ctr_len hl8 hl.le)) (as_ (v := .int .i64 ((i3 + 1 : Nat) : Int)) ?_))
     refine WR.nil ?_
     intro w hw
     exact ⟨hl8, (), h, (sl_ (by kernel_rfl)), hw, trivial⟩
  ·
   have h := hge6 (ige hb7)
   refine WC.exit ?_
   change WC _ _ _ _ _ _
   refine WC.rs (as_ (v := .bool true) ?_)
   refine WR.done ?_
   refine WC.ret ?_
   intro w hw
   obtain rfl := Option.some.inj h
   subst hF
   exact ⟨by kernel_rfl, hw.fr⟩
theorem t_firthref03_Top {Γ : Gh} {w0 : World} {Al : Option Addr} {cl : Nat} {l : List Span} (hl : Sl spanT Γ Al l) (hlc : l.length ≤ cl) (s_ : Int) (hs_ : I64 s_) (hs : Sat Γ w0) {r : Int} (h : m_firthref03_Top l s_ = some r) : Calls Tryz.prog 117 #[.slice Al l.length cl, .int .i64 s_] w0 (fun e w' => e = .returned (.int .i64 r) ∧ Fr no w0 w') := by
 refine calls_of (N := 35) (rs := [4]) (args := [.slice Al l.length cl, .int .i64 s_]) Tryz.func117 rfl Tryz.ntmps117 Tryz.results117 rfl ?_
 obtain ⟨F, hF⟩ : ∃ F : Fm, F = ⟨no, w0, Γ⟩ := ⟨_, rfl⟩
 refine WC.here (C := CC F Γ []) ?_ (hF ▸ Cur.start0 hs)
 refine WC.rs (as_ (v := .int .i64 0) ?_)
 refine WR.done ?_
 refine WC.rs (as_ (v := .int .i64 0) ?_)
 refine WR.done ?_
 refine WC.seq (WC.rs (as_ (v := .int .i64 0) ?_))
 refine WR.done ?_
 refine WC.block ?_
 refine WC.forI h (fun (i4 : Nat) (n_1 : Int) σ w => slots σ [(0, .slice Al l.length cl), (1, .int .i64 s_), (5, .int .i64 n_1), (6, .int .i64 ((i4 : Nat) : Int))] ∧ CC F Γ [] w ∧ I64 n_1 ∧ True) ?_ ?_
 ·
  intro w hw
  exact ⟨(sl_ (by kernel_rfl)), hw, (show I64 0 by decide), trivial⟩
 rintro f3 i4 n_1 σ w hi5 hlt6 hge7 ⟨hsl, hw, hr2, -⟩
 refine Wpt.slots hsl ?_
 refine WC.here (C := CC F Γ []) ?_ hw
 clear hw hsl
 refine WC.seq (WC.rs (mv (v := .int .i64 ((i4 : Nat) : Int)) (mv (v := .slice Al l.length cl) (vb (q_len_slice rfl Tryz.underlying87 rfl) (vb (q_lss rfl rfl rfl) ?_)))))
 refine WR.done ?_
 refine WC.cond (b := (decide (((i4 : Nat) : Int) < ((l.length : Nat) : Int)))) (by kernel_rfl) (fun hb8 => ?_) (fun hb8 => ?_)
 ·
  have hl9 := ilt hb8
  have h := hlt6 hl9
  refine WC.skip ?_
  change WC _ _ _ _ _ _
  refine WC.cut (fun σ w => ∃ (n_10 : Int), m_firthref03_Top_j6 f3 n_10 = some r ∧ slots σ [(0, .slice Al l.length cl), (1, .int .i64 s_), (5, .int .i64 n_10), (6, .int .i64 ((i4 : Nat) : Int))] ∧ CC F Γ [] w ∧ I64 n_10 ∧ True) ?_ ?_
  ·
   refine WC.block (WC.rs (mv (v := .slice Al l.length cl) (mv (v := .int .i64 ((i4 : Nat) : Int)) (vb (q_ixn (i := i4) Tryz.underlying87 Tryz.sizeOf93 rfl rfl rfl hl9 (hl.some_ hl9)) (vb (q_field_addr (i4 * 3) fld_93_0 rfl rfl (hl.some_ hl9) rfl) (vb (q_ld (c := 0) (v := .int .i64 (gt l i4).s) (hl.spanT_at hl9).2 rfl Tryz.isAgg3 rfl rfl) (mv (v := .int .i64 s_) ?_)))))))
   refine vb (q_eql rfl rfl rfl) (mv (v := .bool ((gt l i4).s == s_)) (vg1 rfl rfl rfl rfl rfl (fun hg12 => QV.qo (q_move (v := .slice Al l.length cl) rfl (by kernel_rfl))) (vg1 rfl rfl rfl rfl rfl (fun hg13 => QV.qo (q_move (v := .int .i64 ((i4 : Nat) : Int)) rfl (by kernel_rfl))) (vg1 rfl rfl rfl rfl rfl (fun hg14 => QV.qo (q_ixn (i := i4) Tryz.underlying87 Tryz.sizeOf93 rfl (gu hg14 rfl) (gu hg14 rfl) hl9 (hl.some_ hl9))) (vg1 rfl rfl rfl rfl rfl (fun hg15 => QV.qo (q_field_addr (i4 * 3 + 2) fld_93_2 rfl (gu hg15 rfl) (hl.some_ hl9) rfl)) (vg1 rfl rfl rfl rfl rfl (fun hg16 => QV.qo (q_ld (c := 2) (v := .int .i64 (gt l i4).t) (hl.spanT_at hl9).2 rfl Tryz.isAgg2 (gu hg16 rfl) rfl)) (vg1 rfl rfl rfl rfl rfl (fun hg17 => QV.qo (q_move (v := .int .i64 n_1) rfl (by kernel_rfl))) ?_)))))))
   refine vg1 rfl rfl rfl rfl rfl (fun hg18 => QV.qo (q_gtr rfl (gu hg18 rfl) (gu hg18 rfl))) (vb (q_pick rfl rfl (pk_and' (g := ((gt l i4).s == s_)) (y := (decide (n_1 < (gt l i4).t))))) ?_)
   refine WR.done ?_
   refine WC.cif h (by kernel_rfl) (fun hb19 h => ?_) (fun hb19 h => ?_)
   ·
    refine WC.region ?_
    refine mv (v := .slice Al l.length cl) (mv (v := .int .i64 ((i4 : Nat) : Int)) (vb (q_ixn (i := i4) Tryz.underlying87 Tryz.sizeOf93 rfl rfl rfl hl9 (hl.some_ hl9)) (vb (q_field_addr (i4 * 3 + 2) fld_93_2 rfl rfl (hl.some_ hl9) rfl) (vb (q_ld (c := 2) (v := .int .i64 (gt l i4).t) (hl.spanT_at hl9).2 rfl Tryz.isAgg2 rfl rfl) (as_ (v := .int .i64 (gt l i4).t) ?_)))))
    refine WR.nil ?_
    intro w hw
    exact ⟨(gt l i4).t, h, (sl_ (by kernel_rfl)), hw, (hl.spanT_at hl9).1.2.2, trivial⟩
   ·
    refine WC.skip ?_
    intro w hw
    exact ⟨n_1, h, (sl_ (by kernel_rfl)), hw, hr2, trivial⟩
  ·
   rintro σ w ⟨n_10, h, hsl, hw, hr11, -⟩
   refine Wpt.slots hsl ?_
   refine WC.here (C := CC F Γ []) ?_ hw
   clear hw hsl
   refine WC.region ?_
   refine mv (v := .int .i64 ((i4 : Nat) : Int)) (vb (q_add_r (r := ((i4 + 1 : Nat) : Int)) rfl rfl rfl (ctr_len hl9 hl.le)) (as_ (v := .int .i64 ((i4 + 1 : Nat) : Int)) ?_))
   refine WR.nil ?_
   intro w hw
   exact ⟨hl9, n_10, h, (sl_ (by kernel_rfl)), hw, hr11, trivial⟩
 ·
  have h := hge7 (ige hb8)
  refine WC.exit ?_
  change WC _ _ _ _ _ _
  refine WC.rs (mv (v := .int .i64 n_1) (as_ (v := .int .i64 n_1) ?_))
  refine WR.done ?_
  refine WC.ret ?_
  intro w hw
  obtain rfl := Option.some.inj h
  subst hF
  exact ⟨by kernel_rfl, hw.fr⟩
theorem t_firthref05_RightOne {Γ : Gh} {w0 : World} {Av_2 : Option Addr} {cv_2 : Nat} (v_ : Ver) (hv_ : Ver.fits Γ Av_2 cv_2 v_) (hs : Sat Γ w0) {r : Bool} (h : m_firthref05_RightOne v_ = some r) : Calls Tryz.prog 80 #[.agg #[.int .i64 v_.dot.s, .int .i64 v_.dot.n, .slice Av_2 v_.past.length cv_2, .bool v_.gone, .string v_.val]] w0 (fun e w' => e = .returned (.bool r) ∧ Fr no w0 w') := by
 refine calls_of (N := 34) (rs := [2]) (args := [.agg #[.int .i64 v_.dot.s, .int .i64 v_.dot.n, .slice Av_2 v_.past.length cv_2, .bool v_.gone, .string v_.val]]) Tryz.func80 rfl Tryz.ntmps80 Tryz.results80 rfl ?_
 obtain ⟨F, hF⟩ : ∃ F : Fm, F = ⟨no, w0, Γ⟩ := ⟨_, rfl⟩
 refine WC.here (C := CC F Γ []) ?_ (hF ▸ Cur.start0 hs)
 refine WC.rs ?_
 refine e_box (v := .agg #[.int .i64 v_.dot.s, .int .i64 v_.dot.n, .slice Av_2 v_.past.length cv_2, .bool v_.gone, .string v_.val]) rfl rfl rfl rfl (by kernel_rfl) ?_
 intro g1
 refine as_ (v := .bool false) ?_
 refine WR.done ?_
 refine WC.seq (WC.seq ?_)
 refine WC.dr (by kernel_rfl) (by kernel_rfl) (fun w hw => hw.drawn _) ?_
 refine wa rfl rfl rfl (q_fl 0 fld_89_0 rfl rfl rfl) (wa rfl rfl rfl (q_ldla (i := 0) (vs := [.int .i64 v_.dot.s, .int .i64 v_.dot.n]) rfl rfl Tryz.isAgg86 Tryz.sizeOf86 rfl rfl) ?_)
 obtain ⟨z2, hz3, h⟩ := bnd h
 refine wc rfl rfl rfl (q_call (call_run Tryz.call115 rfl rfl (by kernel_rfl)) (fun w hw => t_firthref03_Dot (Γ := Gh.all w) v_.dot ⟨hv_.1, hv_.2.1⟩ (Sat.all w) hz3)) (wa rfl rfl rfl (q_not rfl rfl) (wa rfl rfl rfl (q_move (v := .bool (!z2)) rfl (by kernel_rfl)) (wg0 rfl rfl rfl rfl rfl (fun hg4 => QV.qo (q_fl 2 fld_89_1 rfl rfl rfl)) (wg0 rfl rfl rfl rfl rfl (fun hg5 => QV.qo (q_ldl (i := 0) (v := .slice Av_2 v_.past.length cv_2) rfl rfl Tryz.isAgg87 (gu hg5 rfl) rfl)) ?_))))
 obtain ⟨z7, hz8, h⟩ := bnd h
 refine wg0 rfl rfl rfl rfl rfl (fun hg6 => (q_call (call_run Tryz.call116 rfl rfl (args1 (gu hg6 rfl))) (fun w hw => t_firthref03_Right (Γ := Gh.all w) (hv_.2.2.1.2.mono hw.sat.le_all) hv_.2.2.1.1 (Sat.all w) (gc_of hz8 hg6)))) (wg0 rfl rfl rfl rfl rfl (fun hg9 => QV.qo (q_not rfl (gu hg9 rfl))) (wa rfl rfl rfl (q_pick rfl rfl (pk_or' (g := (!z2)) (y := (!z7)))) (wa rfl rfl rfl (q_move (v := .bool ((!z2) || (!z7))) rfl (by kernel_rfl)) (wg0 rfl rfl rfl rfl rfl (fun hg10 => QV.qo (q_fl 2 fld_89_1 rfl rfl rfl)) (wg0 rfl rfl rfl rfl rfl (fun hg11 => QV.qo (q_ldl (i := 0) (v := .slice Av_2 v_.past.length cv_2) rfl rfl Tryz.isAgg87 (gu hg11 rfl) rfl)) (wg0 rfl rfl rfl rfl rfl (fun hg12 => QV.qo (q_fl 0 fld_89_0 rfl rfl rfl)) (wg0 rfl rfl rfl rfl rfl (fun hg13 => QV.qo (q_fl 0 fld_86_0 rfl (gu hg13 rfl) rfl)) ?_)))))))
 refine wg0 rfl rfl rfl rfl rfl (fun hg14 => QV.qo (q_ldl (i := 0) (v := .int .i64 v_.dot.s) rfl rfl Tryz.isAgg3 (gu hg14 rfl) rfl)) ?_
 obtain ⟨z16, hz17, h⟩ := bnd h
 refine wg0 rfl rfl rfl rfl rfl (fun hg15 => (q_call (call_run Tryz.call117 rfl rfl (args2 (gu hg15 rfl) (gu hg15 rfl))) (fun w hw => t_firthref03_Top (Γ := Gh.all w) (hv_.2.2.1.2.mono hw.sat.le_all) hv_.2.2.1.1 v_.dot.s hv_.1 (Sat.all w) (gc_of hz17 hg15)))) (wg0 rfl rfl rfl rfl rfl (fun hg18 => QV.qo (q_fl 0 fld_89_0 rfl rfl rfl)) (wg0 rfl rfl rfl rfl rfl (fun hg19 => QV.qo (q_fl 1 fld_86_1 rfl (gu hg19 rfl) rfl)) (wg0 rfl rfl rfl rfl rfl (fun hg20 => QV.qo (q_ldl (i := 0) (v := .int .i64 v_.dot.n) rfl rfl Tryz.isAgg2 (gu hg20 rfl) rfl)) (wg0 rfl rfl rfl rfl rfl (fun hg21 => QV.qo (q_geq rfl (gu hg21 rfl) (gu hg21 rfl))) (wa rfl rfl rfl (q_pick rfl rfl (pk_or' (g := ((!z2) || (!z7))) (y := (decide (v_.dot.n ≤ z16))))) ?_)))))
 refine WQ.nil ?_
 change WC _ _ _ _ _ _
 refine WC.cif h (by kernel_rfl) (fun hb22 h => ?_) (fun hb22 h => ?_)
 ·
  refine WC.rs (as_ (v := .bool false) ?_)
  refine WR.done ?_
  refine WC.ret ?_
  intro w hw
  obtain rfl := Option.some.inj h
  subst hF
  exact ⟨by kernel_rfl, hw.fr⟩
 ·
  refine WC.skip ?_
  change WC _ _ _ _ _ _
  refine WC.seq (WC.rs (vb (q_fl 3 fld_89_2 rfl rfl rfl) (vb (q_ldl (i := 0) (v := .bool v_.gone) rfl rfl Tryz.isAgg4 rfl rfl) ?_)))
  refine WR.done ?_
  refine WC.cif h (by kernel_rfl) (fun hb23 h => ?_) (fun hb23 h => ?_)
  ·
   refine WC.rs (vb (q_fl 4 fld_89_3 rfl rfl rfl) (vb (q_ldl (i := 0) (v := .string v_.val) rfl rfl Tryz.isAgg9 rfl rfl) (vb (q_seql rfl rfl rfl) (as_ (v := .bool (v_.val == ByteArray.empty)) ?_))))
   refine WR.done ?_
   refine WC.ret ?_
   intro w hw
   obtain rfl := Option.some.inj h
   subst hF
   exact ⟨by kernel_rfl, hw.fr⟩
  ·
   refine WC.skip ?_
   change WC _ _ _ _ _ _
   refine WC.rs (vb (q_fl 4 fld_89_3 rfl rfl rfl) (vb (q_ldl (i := 0) (v := .string v_.val) rfl rfl Tryz.isAgg9 rfl rfl) (vb (q_len_str rfl Tryz.underlying9 rfl) (vb (q_leq rfl rfl rfl) (as_ (v := .bool (decide (((v_.val.size : Nat) : Int) ≤ 256))) ?_)))))
   refine WR.done ?_
   refine WC.ret ?_
   intro w hw
   obtain rfl := Option.some.inj h
   subst hF
   exact ⟨by kernel_rfl, hw.fr⟩
theorem t_firthref03_Has {Γ : Gh} {w0 : World} {Al : Option Addr} {cl : Nat} {l : List Span} (hl : Sl spanT Γ Al l) (hlc : l.length ≤ cl) (d : Dot) (hd : Dot.fits Γ  d) (hs : Sat Γ w0) {r : Bool} (h : m_firthref03_Has l d = some r) : Calls Tryz.prog 82 #[.slice Al l.length cl, .agg #[.int .i64 d.s, .int .i64 d.n]] w0 (fun e w' => e = .returned (.bool r) ∧ Fr no w0 w') := by
 refine calls_of (N := 40) (rs := [4]) (args := [.slice Al l.length cl, .agg #[.int .i64 d.s, .int .i64 d.n]]) Tryz.func82 rfl Tryz.ntmps82 Tryz.results82 rfl ?_
 obtain ⟨F, hF⟩ : ∃ F : Fm, F = ⟨no, w0, Γ⟩ := ⟨_, rfl⟩
 refine WC.here (C := CC F Γ []) ?_ (hF ▸ Cur.start0 hs)
 refine WC.rs ?_
 refine e_box (v := .agg #[.int .i64 d.s, .int .i64 d.n]) rfl rfl rfl rfl (by kernel_rfl) ?_
 intro g1
 refine as_ (v := .bool false) ?_
 refine WR.done ?_
 refine WC.seq (WC.rs (as_ (v := .int .i64 0) ?_))
 refine WR.done ?_
 refine WC.block ?_
 refine WC.forI h (fun (i3 : Nat) (s : Unit) σ w => match s with | () => slots σ [(0, .slice Al l.length cl), (3, (pq g1)), (5, .int .i64 ((i3 : Nat) : Int))] ∧ CC F Γ [[(g1, .cells #[.int .i64 d.s, .int .i64 d.n] 86 (0, 0))]] w ∧ True) ?_ ?_
 ·
  intro w hw
  exact ⟨(sl_ (by kernel_rfl)), hw, trivial⟩
 rintro f2 i3 ⟨⟩ σ w hi4 hlt5 hge6 ⟨hsl, hw, -⟩
 refine Wpt.slots hsl ?_
 refine WC.here (C := CC F Γ [[(g1, .cells #[.int .i64 d.s, .int .i64 d.n] 86 (0, 0))]]) ?_ hw
 clear hw hsl
 refine WC.seq (WC.rs (mv (v := .int .i64 ((i3 : Nat) : Int)) (mv (v := .slice Al l.length cl) (vb (q_len_slice rfl Tryz.underlying87 rfl) (vb (q_lss rfl rfl rfl) ?_)))))
 refine WR.done ?_
 refine WC.cond (b := (decide (((i3 : Nat) : Int) < ((l.length : Nat) : Int)))) (by kernel_rfl) (fun hb7 => ?_) (fun hb7 => ?_)
 ·
  have hl8 := ilt hb7
  have h := hlt5 hl8
  refine WC.skip ?_
  change WC _ _ _ _ _ _
  refine WC.seq (WC.block (WC.seq ?_))
  refine WC.dr (by kernel_rfl) (by kernel_rfl) (fun w hw => hw.drawn _) ?_
  refine wa rfl rfl rfl (q_move (v := .slice Al l.length cl) rfl (by kernel_rfl)) (wa rfl rfl rfl (q_move (v := .int .i64 ((i3 : Nat) : Int)) rfl (by kernel_rfl)) (wa rfl rfl rfl (q_ixn (i := i3) Tryz.underlying87 Tryz.sizeOf93 rfl rfl rfl hl8 (hl.some_ hl8)) (wa rfl rfl rfl (q_field_addr (i3 * 3) fld_93_0 rfl rfl (hl.some_ hl8) rfl) (wa rfl rfl rfl (q_ld (c := 0) (v := .int .i64 (gt l i3).s) (hl.spanT_at hl8).2 rfl Tryz.isAgg3 rfl rfl) (wa rfl rfl rfl (q_fl 0 fld_86_0 rfl rfl rfl) (wa rfl rfl rfl (q_ldl (i := 0) (v := .int .i64 d.s) rfl rfl Tryz.isAgg3 rfl rfl) (wa rfl rfl rfl (q_eql rfl rfl rfl) ?_)))))))
  refine wa rfl rfl rfl (q_move (v := .bool ((gt l i3).s == d.s)) rfl (by kernel_rfl)) (wg1 rfl rfl rfl rfl rfl (fun hg9 => QV.qo (q_fl 1 fld_86_1 rfl rfl rfl)) (wg1 rfl rfl rfl rfl rfl (fun hg10 => QV.qo (q_ldl (i := 0) (v := .int .i64 d.n) rfl rfl Tryz.isAgg2 (gu hg10 rfl) rfl)) (wg1 rfl rfl rfl rfl rfl (fun hg11 => QV.qo (q_move (v := .slice Al l.length cl) rfl (by kernel_rfl))) (wg1 rfl rfl rfl rfl rfl (fun hg12 => QV.qo (q_move (v := .int .i64 ((i3 : Nat) : Int)) rfl (by kernel_rfl))) (wg1 rfl rfl rfl rfl rfl (fun hg13 => QV.qo (q_ixn (i := i3) Tryz.underlying87 Tryz.sizeOf93 rfl (gu hg13 rfl) (gu hg13 rfl) hl8 (hl.some_ hl8))) (wg1 rfl rfl rfl rfl rfl (fun hg14 => QV.qo (q_field_addr (i3 * 3 + 1) fld_93_1 rfl (gu hg14 rfl) (hl.some_ hl8) rfl)) (wg1 rfl rfl rfl rfl rfl (fun hg15 => QV.qo (q_ld (c := 1) (v := .int .i64 (gt l i3).f) (hl.spanT_at hl8).2 rfl Tryz.isAgg2 (gu hg15 rfl) rfl)) ?_)))))))
  refine wg1 rfl rfl rfl rfl rfl (fun hg16 => QV.qo (q_geq rfl (gu hg16 rfl) (gu hg16 rfl))) (wa rfl rfl rfl (q_pick rfl rfl (pk_and' (g := ((gt l i3).s == d.s)) (y := (decide ((gt l i3).f ≤ d.n))))) (wa rfl rfl rfl (q_move (v := .bool (((gt l i3).s == d.s) && (decide ((gt l i3).f ≤ d.n)))) rfl (by kernel_rfl)) (wg1 rfl rfl rfl rfl rfl (fun hg17 => QV.qo (q_fl 1 fld_86_1 rfl rfl rfl)) (wg1 rfl rfl rfl rfl rfl (fun hg18 => QV.qo (q_ldl (i := 0) (v := .int .i64 d.n) rfl rfl Tryz.isAgg2 (gu hg18 rfl) rfl)) (wg1 rfl rfl rfl rfl rfl (fun hg19 => QV.qo (q_move (v := .slice Al l.length cl) rfl (by kernel_rfl))) (wg1 rfl rfl rfl rfl rfl (fun hg20 => QV.qo (q_move (v := .int .i64 ((i3 : Nat) : Int)) rfl (by kernel_rfl))) (wg1 rfl rfl rfl rfl rfl (fun hg21 => QV.qo (q_ixn (i := i3) Tryz.underlying87 Tryz.sizeOf93 rfl (gu hg21 rfl) (gu hg21 rfl) hl8 (hl.some_ hl8))) ?_)))))))
  refine wg1 rfl rfl rfl rfl rfl (fun hg22 => QV.qo (q_field_addr (i3 * 3 + 2) fld_93_2 rfl (gu hg22 rfl) (hl.some_ hl8) rfl)) (wg1 rfl rfl rfl rfl rfl (fun hg23 => QV.qo (q_ld (c := 2) (v := .int .i64 (gt l i3).t) (hl.spanT_at hl8).2 rfl Tryz.isAgg2 (gu hg23 rfl) rfl)) (wg1 rfl rfl rfl rfl rfl (fun hg24 => QV.qo (q_leq rfl (gu hg24 rfl) (gu hg24 rfl))) (wa rfl rfl rfl (q_pick rfl rfl (pk_and' (g := (((gt l i3).s == d.s) && (decide ((gt l i3).f ≤ d.n)))) (y := (decide (d.n ≤ (gt l i3).t))))) ?_)))
  refine WQ.nil ?_
  change WC _ _ _ _ _ _
  refine WC.cif h (by kernel_rfl) (fun hb25 h => ?_) (fun hb25 h => ?_)
  ·
   refine WC.rs (as_ (v := .bool true) ?_)
   refine WR.done ?_
   refine WC.ret ?_
   intro w hw
   obtain rfl := Option.some.inj h
   subst hF
   exact ⟨by kernel_rfl, hw.fr⟩
  ·
   refine WC.skip ?_
   change WC _ _ _ _ _ _
   refine WC.region ?_
   refine mv (v := .int .i64 ((i3 : Nat) : Int)) (vb (q_add_r (r := ((i3 + 1 : Nat) : Int)) rfl rfl rfl (ctr_len hl8 hl.le)) (as_ (v := .int .i64 ((i3 + 1 : Nat) : Int)) ?_))
   refine WR.nil ?_
   intro w hw
   exact ⟨hl8, (), h, (sl_ (by kernel_rfl)), hw, trivial⟩
 ·
  have h := hge6 (ige hb7)
  refine WC.exit ?_
  change WC _ _ _ _ _ _
  refine WC.rs (as_ (v := .bool false) ?_)
  refine WR.done ?_
  refine WC.ret ?_
  intro w hw
  obtain rfl := Option.some.inj h
  subst hF
  exact ⟨by kernel_rfl, hw.fr⟩
theorem t_firthref05_Behind {Γ : Gh} {w0 : World} {Al : Option Addr} {cl : Nat} {l : List Ver} (hl : Sl verT Γ Al l) (hlc : l.length ≤ cl) (d : Dot) (hd : Dot.fits Γ  d) (hs : Sat Γ w0) {r : Bool} (h : m_firthref05_Behind l d = some r) : Calls Tryz.prog 51 #[.slice Al l.length cl, .agg #[.int .i64 d.s, .int .i64 d.n]] w0 (fun e w' => e = .returned (.bool r) ∧ Fr no w0 w') := by
 refine calls_of (N := 19) (rs := [4]) (args := [.slice Al l.length cl, .agg #[.int .i64 d.s, .int .i64 d.n]]) Tryz.func51 rfl Tryz.ntmps51 Tryz.results51 rfl ?_
 obtain ⟨F, hF⟩ : ∃ F : Fm, F = ⟨no, w0, Γ⟩ := ⟨_, rfl⟩
 refine WC.here (C := CC F Γ []) ?_ (hF ▸ Cur.start0 hs)
 refine WC.rs ?_
 refine e_box (v := .agg #[.int .i64 d.s, .int .i64 d.n]) rfl rfl rfl rfl (by kernel_rfl) ?_
 intro g1
 refine as_ (v := .bool false) ?_
 refine WR.done ?_
 refine WC.seq (WC.rs (as_ (v := .int .i64 0) ?_))
 refine WR.done ?_
 refine WC.block ?_
 refine WC.forI h (fun (i3 : Nat) (s : Unit) σ w => match s with | () => slots σ [(0, .slice Al l.length cl), (3, (pq g1)), (5, .int .i64 ((i3 : Nat) : Int))] ∧ CC F Γ [[(g1, .cells #[.int .i64 d.s, .int .i64 d.n] 86 (0, 0))]] w ∧ True) ?_ ?_
 ·
  intro w hw
  exact ⟨(sl_ (by kernel_rfl)), hw, trivial⟩
 rintro f2 i3 ⟨⟩ σ w hi4 hlt5 hge6 ⟨hsl, hw, -⟩
 refine Wpt.slots hsl ?_
 refine WC.here (C := CC F Γ [[(g1, .cells #[.int .i64 d.s, .int .i64 d.n] 86 (0, 0))]]) ?_ hw
 clear hw hsl
 refine WC.seq (WC.rs (mv (v := .int .i64 ((i3 : Nat) : Int)) (mv (v := .slice Al l.length cl) (vb (q_len_slice rfl Tryz.underlying43 rfl) (vb (q_lss rfl rfl rfl) ?_)))))
 refine WR.done ?_
 refine WC.cond (b := (decide (((i3 : Nat) : Int) < ((l.length : Nat) : Int)))) (by kernel_rfl) (fun hb7 => ?_) (fun hb7 => ?_)
 ·
  have hl8 := ilt hb7
  have h := hlt5 hl8
  refine WC.skip ?_
  change WC _ _ _ _ _ _
  refine WC.seq (WC.block (WC.seq ?_))
  refine WC.dr (by kernel_rfl) (by kernel_rfl) (fun w hw => hw.drawn _) ?_
  refine wa rfl rfl rfl (q_move (v := .slice Al l.length cl) rfl (by kernel_rfl)) (wa rfl rfl rfl (q_move (v := .int .i64 ((i3 : Nat) : Int)) rfl (by kernel_rfl)) (wa rfl rfl rfl (q_ixn (i := i3) Tryz.underlying43 Tryz.sizeOf89 rfl rfl rfl hl8 (hl.some_ hl8)) (wa rfl rfl rfl (q_field_addr (i3 * 5 + 2) fld_89_1 rfl rfl (hl.some_ hl8) rfl) ?_)))
  obtain ⟨A9, c10, hx11⟩ := hl.verT_at i3
  refine wa rfl rfl rfl (q_ld (c := 2) (v := .slice A9 ((gt l i3).past).length c10) (hx11 hl8).2 rfl Tryz.isAgg87 rfl rfl) (wa rfl rfl rfl (q_ldla (i := 0) (vs := [.int .i64 d.s, .int .i64 d.n]) rfl rfl Tryz.isAgg86 Tryz.sizeOf86 rfl rfl) ?_)
  obtain ⟨z12, hz13, h⟩ := bnd h
  refine wc rfl rfl rfl (q_call (call_run Tryz.call82 rfl rfl (by kernel_rfl)) (fun w hw => t_firthref03_Has (Γ := Gh.all w) ((hx11 hl8).1.2.2.1.2.mono hw.sat.le_all) (hx11 hl8).1.2.2.1.1 d hd (Sat.all w) hz13)) ?_
  refine WQ.nil ?_
  change WC _ _ _ _ _ _
  refine WC.cif h (by kernel_rfl) (fun hb14 h => ?_) (fun hb14 h => ?_)
  ·
   refine WC.rs (as_ (v := .bool true) ?_)
   refine WR.done ?_
   refine WC.ret ?_
   intro w hw
   obtain rfl := Option.some.inj h
   subst hF
   exact ⟨by kernel_rfl, hw.fr⟩
  ·
   refine WC.skip ?_
   change WC _ _ _ _ _ _
   refine WC.region ?_
   refine mv (v := .int .i64 ((i3 : Nat) : Int)) (vb (q_add_r (r := ((i3 + 1 : Nat) : Int)) rfl rfl rfl (ctr_len hl8 hl.le)) (as_ (v := .int .i64 ((i3 + 1 : Nat) : Int)) ?_))
   refine WR.nil ?_
   intro w hw
   exact ⟨hl8, (), h, (sl_ (by kernel_rfl)), hw, trivial⟩
 ·
  have h := hge6 (ige hb7)
  refine WC.exit ?_
  change WC _ _ _ _ _ _
  refine WC.rs (as_ (v := .bool false) ?_)
  refine WR.done ?_
  refine WC.ret ?_
  intro w hw
  obtain rfl := Option.some.inj h
  subst hF
  exact ⟨by kernel_rfl, hw.fr⟩
theorem t_firthref05_Less {Γ : Gh} {w0 : World} (a : Dot) (ha : Dot.fits Γ  a) (b : Dot) (hb : Dot.fits Γ  b) (hs : Sat Γ w0) {r : Bool} (h : m_firthref05_Less a b = some r) : Calls Tryz.prog 81 #[.agg #[.int .i64 a.s, .int .i64 a.n], .agg #[.int .i64 b.s, .int .i64 b.n]] w0 (fun e w' => e = .returned (.bool r) ∧ Fr no w0 w') := by
 refine calls_of (N := 20) (rs := [4]) (args := [.agg #[.int .i64 a.s, .int .i64 a.n], .agg #[.int .i64 b.s, .int .i64 b.n]]) Tryz.func81 rfl Tryz.ntmps81 Tryz.results81 rfl ?_
 obtain ⟨F, hF⟩ : ∃ F : Fm, F = ⟨no, w0, Γ⟩ := ⟨_, rfl⟩
 refine WC.here (C := CC F Γ []) ?_ (hF ▸ Cur.start0 hs)
 refine WC.rs ?_
 refine e_box (v := .agg #[.int .i64 a.s, .int .i64 a.n]) rfl rfl rfl rfl (by kernel_rfl) ?_
 intro g1
 refine e_box (v := .agg #[.int .i64 b.s, .int .i64 b.n]) rfl rfl rfl rfl (by kernel_rfl) ?_
 intro g2
 refine as_ (v := .bool false) ?_
 refine WR.done ?_
 refine WC.seq (WC.rs (vb (q_fl 0 fld_86_0 rfl rfl rfl) (vb (q_ldl (i := 1) (v := .int .i64 a.s) rfl rfl Tryz.isAgg3 rfl rfl) (vb (q_fl 0 fld_86_0 rfl rfl rfl) (vb (q_ldl (i := 0) (v := .int .i64 b.s) rfl rfl Tryz.isAgg3 rfl rfl) (vb (q_neq rfl rfl rfl) ?_))))))
 refine WR.done ?_
 refine WC.cif h (by kernel_rfl) (fun hb3 h => ?_) (fun hb3 h => ?_)
 ·
  refine WC.rs (vb (q_fl 0 fld_86_0 rfl rfl rfl) (vb (q_ldl (i := 1) (v := .int .i64 a.s) rfl rfl Tryz.isAgg3 rfl rfl) (vb (q_fl 0 fld_86_0 rfl rfl rfl) (vb (q_ldl (i := 0) (v := .int .i64 b.s) rfl rfl Tryz.isAgg3 rfl rfl) (vb (q_lss rfl rfl rfl) (as_ (v := .bool (decide (a.s < b.s))) ?_))))))
  refine WR.done ?_
  refine WC.ret ?_
  intro w hw
  obtain rfl := Option.some.inj h
  subst hF
  exact ⟨by kernel_rfl, hw.fr⟩
 ·
  refine WC.skip ?_
  change WC _ _ _ _ _ _
  refine WC.rs (vb (q_fl 1 fld_86_1 rfl rfl rfl) (vb (q_ldl (i := 1) (v := .int .i64 a.n) rfl rfl Tryz.isAgg2 rfl rfl) (vb (q_fl 1 fld_86_1 rfl rfl rfl) (vb (q_ldl (i := 0) (v := .int .i64 b.n) rfl rfl Tryz.isAgg2 rfl rfl) (vb (q_lss rfl rfl rfl) (as_ (v := .bool (decide (a.n < b.n))) ?_))))))
  refine WR.done ?_
  refine WC.ret ?_
  intro w hw
  obtain rfl := Option.some.inj h
  subst hF
  exact ⟨by kernel_rfl, hw.fr⟩
theorem t_firthref05_Right {Γ : Gh} {w0 : World} {Al : Option Addr} {cl : Nat} {l : List Ver} (hl : Sl verT Γ Al l) (hlc : l.length ≤ cl) (hs : Sat Γ w0) {r : Bool} (h : m_firthref05_Right l = some r) : Calls Tryz.prog 50 #[.slice Al l.length cl] w0 (fun e w' => e = .returned (.bool r) ∧ Fr no w0 w') := by
 refine calls_of (N := 45) (rs := [2]) (args := [.slice Al l.length cl]) Tryz.func50 rfl Tryz.ntmps50 Tryz.results50 rfl ?_
 obtain ⟨F, hF⟩ : ∃ F : Fm, F = ⟨no, w0, Γ⟩ := ⟨_, rfl⟩
 refine WC.here (C := CC F Γ []) ?_ (hF ▸ Cur.start0 hs)
 refine WC.rs (as_ (v := .bool false) ?_)
 refine WR.done ?_
 refine WC.seq (WC.rs (mv (v := .slice Al l.length cl) (vb (q_len_slice rfl Tryz.underlying43 rfl) (vb (q_gtr rfl rfl rfl) ?_))))
 refine WR.done ?_
 refine WC.cif h (by kernel_rfl) (fun hb1 h => ?_) (fun hb1 h => ?_)
 ·
  refine WC.rs (as_ (v := .bool false) ?_)
  refine WR.done ?_
  refine WC.ret ?_
  intro w hw
  obtain rfl := Option.some.inj h
  subst hF
  exact ⟨by kernel_rfl, hw.fr⟩
 ·
  refine WC.skip ?_
  change WC _ _ _ _ _ _
  refine WC.seq (WC.rs (as_ (v := .int .i64 0) ?_))
  refine WR.done ?_
  refine WC.block ?_
  refine WC.forI h (fun (i3 : Nat) (s : Unit) σ w => match s with | () => slots σ [(0, .slice Al l.length cl), (3, .int .i64 ((i3 : Nat) : Int))] ∧ CC F Γ [] w ∧ True) ?_ ?_
  ·
   intro w hw
   exact ⟨(sl_ (by kernel_rfl)), hw, trivial⟩
  rintro f2 i3 ⟨⟩ σ w hi4 hlt5 hge6 ⟨hsl, hw, -⟩
  refine Wpt.slots hsl ?_
  refine WC.here (C := CC F Γ []) ?_ hw
  clear hw hsl
  refine WC.seq (WC.rs (mv (v := .int .i64 ((i3 : Nat) : Int)) (mv (v := .slice Al l.length cl) (vb (q_len_slice rfl Tryz.underlying43 rfl) (vb (q_lss rfl rfl rfl) ?_)))))
  refine WR.done ?_
  refine WC.cond (b := (decide (((i3 : Nat) : Int) < ((l.length : Nat) : Int)))) (by kernel_rfl) (fun hb7 => ?_) (fun hb7 => ?_)
  ·
   have hl8 := ilt hb7
   have h := hlt5 hl8
   refine WC.skip ?_
   change WC _ _ _ _ _ _
   refine WC.seq (WC.block (WC.seq (WC.rs (mv (v := .slice Al l.length cl) (mv (v := .int .i64 ((i3 : Nat) : Int)) (vb (q_ixn (i := i3) Tryz.underlying43 Tryz.sizeOf89 rfl rfl rfl hl8 (hl.some_ hl8)) ?_))))))
   obtain ⟨A9, c10, hx11⟩ := hl.verT_at i3
   refine vb (q_lda (c := 0) (vs := [.int .i64 (gt l i3).dot.s, .int .i64 (gt l i3).dot.n, .slice A9 ((gt l i3).past).length c10, .bool (gt l i3).gone, .string (gt l i3).val]) (hx11 hl8).2 rfl Tryz.isAgg89 Tryz.sizeOf89 rfl rfl rfl) ?_
   obtain ⟨z12, hz13, h⟩ := bnd h
   refine vc rfl rfl rfl (q_call (call_run Tryz.call80 rfl rfl (by kernel_rfl)) (fun w hw => t_firthref05_RightOne (Γ := Gh.all w) (gt l i3) (Ver.fits_mono (hx11 hl8).1 hw.sat.le_all) (Sat.all w) hz13)) (vb (q_not rfl rfl) (mv (v := .bool (!z12)) (vg0 rfl rfl rfl rfl rfl (fun hg14 => QV.qo (q_move (v := .slice Al l.length cl) rfl (by kernel_rfl))) (vg0 rfl rfl rfl rfl rfl (fun hg15 => QV.qo (q_move (v := .slice Al l.length cl) rfl (by kernel_rfl))) (vg0 rfl rfl rfl rfl rfl (fun hg16 => QV.qo (q_move (v := .int .i64 ((i3 : Nat) : Int)) rfl (by kernel_rfl))) (vg0 rfl rfl rfl rfl rfl (fun hg17 => QV.qo (q_ixn (i := i3) Tryz.underlying43 Tryz.sizeOf89 rfl (gu hg17 rfl) (gu hg17 rfl) hl8 (hl.some_ hl8))) (vg0 rfl rfl rfl rfl rfl (fun hg18 => QV.qo (q_field_addr (i3 * 5) fld_89_0 rfl (gu hg18 rfl) (hl.some_ hl8) rfl)) ?_)))))))
   refine vg0 rfl rfl rfl rfl rfl (fun hg19 => QV.qo (q_lda (c := 0) (vs := [.int .i64 (gt l i3).dot.s, .int .i64 (gt l i3).dot.n]) (hx11 hl8).2 rfl Tryz.isAgg86 Tryz.sizeOf86 (gu hg19 rfl) rfl rfl)) ?_
   obtain ⟨z21, hz22, h⟩ := bnd h
   refine vg0 rfl rfl rfl rfl rfl (fun hg20 => (q_call (call_run Tryz.call51 rfl rfl (args2 (gu hg20 rfl) (gu hg20 rfl))) (fun w hw => t_firthref05_Behind (Γ := Gh.all w) (hl.mono hw.sat.le_all) hlc ((gt l i3).dot) ⟨(hx11 hl8).1.1, (hx11 hl8).1.2.1⟩ (Sat.all w) (gc_of hz22 hg20)))) (vb (q_pick rfl rfl (pk_or' (g := (!z12)) (y := z21))) ?_)
   refine WR.done ?_
   refine WC.cif h (by kernel_rfl) (fun hb23 h => ?_) (fun hb23 h => ?_)
   ·
    refine WC.rs (as_ (v := .bool false) ?_)
    refine WR.done ?_
    refine WC.ret ?_
    intro w hw
    obtain rfl := Option.some.inj h
    subst hF
    exact ⟨by kernel_rfl, hw.fr⟩
   ·
    refine WC.skip ?_
    change WC _ _ _ _ _ _
    refine WC.seq ?_
    refine WC.dr (by kernel_rfl) (by kernel_rfl) (fun w hw => hw.drawn _) ?_
    refine wa rfl rfl rfl (q_move (v := .int .i64 ((i3 : Nat) : Int)) rfl (by kernel_rfl)) (wa rfl rfl rfl (q_gtr rfl rfl rfl) (wa rfl rfl rfl (q_move (v := .bool (decide (0 < ((i3 : Nat) : Int)))) rfl (by kernel_rfl)) (wg1 rfl rfl rfl rfl rfl (fun hg24 => QV.qo (q_move (v := .slice Al l.length cl) rfl (by kernel_rfl))) (wg1 rfl rfl rfl rfl rfl (fun hg25 => QV.qo (q_move (v := .int .i64 ((i3 : Nat) : Int)) rfl (by kernel_rfl))) (wg1 rfl rfl rfl rfl rfl (fun hg26 => QV.qo (q_sub rfl (gu hg26 rfl) rfl)) ?_)))))
    obtain ⟨hk28, h⟩ := chk_some h
    refine wg1 rfl rfl rfl rfl rfl (fun hg27 => QV.qo (q_ix Tryz.underlying43 Tryz.sizeOf89 rfl (gu hg27 rfl) (gu hg27 rfl) (imp_of hk28 hg27) (hl.some_ (inb_lt (imp_of hk28 hg27))))) (wg1 rfl rfl rfl rfl rfl (fun hg29 => QV.qo (q_field_addr (((w64 (((i3 : Nat) : Int) - 1)).toNat) * 5) fld_89_0 rfl (gu hg29 rfl) (hl.some_ (inb_lt (imp_of hk28 hg29))) rfl)) ?_)
    obtain ⟨A31, c32, hx33⟩ := hl.verT_at ((w64 (((i3 : Nat) : Int) - 1)).toNat)
    refine wg1 rfl rfl rfl rfl rfl (fun hg30 => QV.qo (q_lda (c := 0) (vs := [.int .i64 (gt l ((w64 (((i3 : Nat) : Int) - 1)).toNat)).dot.s, .int .i64 (gt l ((w64 (((i3 : Nat) : Int) - 1)).toNat)).dot.n]) (hx33 (inb_lt (imp_of hk28 hg30))).2 rfl Tryz.isAgg86 Tryz.sizeOf86 (gu hg30 rfl) rfl rfl)) (wg1 rfl rfl rfl rfl rfl (fun hg34 => QV.qo (q_move (v := .slice Al l.length cl) rfl (by kernel_rfl))) (wg1 rfl rfl rfl rfl rfl (fun hg35 => QV.qo (q_move (v := .int .i64 ((i3 : Nat) : Int)) rfl (by kernel_rfl))) (wg1 rfl rfl rfl rfl rfl (fun hg36 => QV.qo (q_ixn (i := i3) Tryz.underlying43 Tryz.sizeOf89 rfl (gu hg36 rfl) (gu hg36 rfl) hl8 (hl.some_ hl8))) (wg1 rfl rfl rfl rfl rfl (fun hg37 => QV.qo (q_field_addr (i3 * 5) fld_89_0 rfl (gu hg37 rfl) (hl.some_ hl8) rfl)) (wg1 rfl rfl rfl rfl rfl (fun hg38 => QV.qo (q_lda (c := 0) (vs := [.int .i64 (gt l i3).dot.s, .int .i64 (gt l i3).dot.n]) (hx11 hl8).2 rfl Tryz.isAgg86 Tryz.sizeOf86 (gu hg38 rfl) rfl rfl)) ?_)))))
    obtain ⟨z40, hz41, h⟩ := bnd h
    refine wg1 rfl rfl rfl rfl rfl (fun hg39 => (q_call (call_run Tryz.call81 rfl rfl (args2 (gu hg39 rfl) (gu hg39 rfl))) (fun w hw => t_firthref05_Less (Γ := Gh.all w) ((gt l ((w64 (((i3 : Nat) : Int) - 1)).toNat)).dot) ⟨(hx33 (inb_lt (imp_of hk28 hg39))).1.1, (hx33 (inb_lt (imp_of hk28 hg39))).1.2.1⟩ ((gt l i3).dot) ⟨(hx11 hl8).1.1, (hx11 hl8).1.2.1⟩ (Sat.all w) (gc_of hz41 hg39)))) (wg1 rfl rfl rfl rfl rfl (fun hg42 => QV.qo (q_not rfl (gu hg42 rfl))) (wa rfl rfl rfl (q_pick rfl rfl (pk_and' (g := (decide (0 < ((i3 : Nat) : Int)))) (y := (!z40)))) ?_))
    refine WQ.nil ?_
    change WC _ _ _ _ _ _
    refine WC.cif h (by kernel_rfl) (fun hb43 h => ?_) (fun hb43 h => ?_)
    ·
     refine WC.rs (as_ (v := .bool false) ?_)
     refine WR.done ?_
     refine WC.ret ?_
     intro w hw
     obtain rfl := Option.some.inj h
     subst hF
     exact ⟨by kernel_rfl, hw.fr⟩
    ·
     refine WC.skip ?_
     change WC _ _ _ _ _ _
     refine WC.region ?_
     refine mv (v := .int .i64 ((i3 : Nat) : Int)) (vb (q_add_r (r := ((i3 + 1 : Nat) : Int)) rfl rfl rfl (ctr_len hl8 hl.le)) (as_ (v := .int .i64 ((i3 + 1 : Nat) : Int)) ?_))
     refine WR.nil ?_
     intro w hw
     exact ⟨hl8, (), h, (sl_ (by kernel_rfl)), hw, trivial⟩
  ·
   have h := hge6 (ige hb7)
   refine WC.exit ?_
   change WC _ _ _ _ _ _
   refine WC.rs (as_ (v := .bool true) ?_)
   refine WR.done ?_
   refine WC.ret ?_
   intro w hw
   obtain rfl := Option.some.inj h
   subst hF
   exact ⟨by kernel_rfl, hw.fr⟩
theorem t_firthref06_RightRec {Γ : Gh} {w0 : World} {Ar_1 : Option Addr} {cr_1 : Nat} (r_ : Rec) (hr_ : Rec.fits Γ Ar_1 cr_1 r_) (hs : Sat Γ w0) {r : Bool} (h : m_firthref06_RightRec r_ = some r) : Calls Tryz.prog 28 #[.agg #[.string r_.key, .slice Ar_1 r_.vers.length cr_1]] w0 (fun e w' => e = .returned (.bool r) ∧ Fr no w0 w') := by
 refine calls_of (N := 17) (rs := [2]) (args := [.agg #[.string r_.key, .slice Ar_1 r_.vers.length cr_1]]) Tryz.func28 rfl Tryz.ntmps28 Tryz.results28 rfl ?_
 obtain ⟨F, hF⟩ : ∃ F : Fm, F = ⟨no, w0, Γ⟩ := ⟨_, rfl⟩
 refine WC.here (C := CC F Γ []) ?_ (hF ▸ Cur.start0 hs)
 refine WC.rs ?_
 refine e_box (v := .agg #[.string r_.key, .slice Ar_1 r_.vers.length cr_1]) rfl rfl rfl rfl (by kernel_rfl) ?_
 intro g1
 refine as_ (v := .bool false) ?_
 refine WR.done ?_
 refine WC.rs (vb (q_fl 0 fld_45_0 rfl rfl rfl) (vb (q_ldl (i := 0) (v := .string r_.key) rfl rfl Tryz.isAgg9 rfl rfl) (vb (q_sneq rfl rfl rfl) (mv (v := .bool (r_.key != ByteArray.empty)) (vg1 rfl rfl rfl rfl rfl (fun hg2 => QV.qo (q_fl 0 fld_45_0 rfl rfl rfl)) (vg1 rfl rfl rfl rfl rfl (fun hg3 => QV.qo (q_ldl (i := 0) (v := .string r_.key) rfl rfl Tryz.isAgg9 (gu hg3 rfl) rfl)) (vg1 rfl rfl rfl rfl rfl (fun hg4 => QV.qo (q_len_str rfl Tryz.underlying9 (gu hg4 rfl))) ?_)))))))
 refine vg1 rfl rfl rfl rfl rfl (fun hg5 => QV.qo (q_leq rfl (gu hg5 rfl) rfl)) (vb (q_pick rfl rfl (pk_and' (g := (r_.key != ByteArray.empty)) (y := (decide (((r_.key.size : Nat) : Int) ≤ 32))))) (mv (v := .bool ((r_.key != ByteArray.empty) && (decide (((r_.key.size : Nat) : Int) ≤ 32)))) (vg1 rfl rfl rfl rfl rfl (fun hg6 => QV.qo (q_fl 1 fld_45_1 rfl rfl rfl)) (vg1 rfl rfl rfl rfl rfl (fun hg7 => QV.qo (q_ldl (i := 0) (v := .slice Ar_1 r_.vers.length cr_1) rfl rfl Tryz.isAgg43 (gu hg7 rfl) rfl)) ?_))))
 obtain ⟨z9, hz10, h⟩ := bnd h
 refine vg1 rfl rfl rfl rfl rfl (fun hg8 => (q_call (call_run Tryz.call50 rfl rfl (args1 (gu hg8 rfl))) (fun w hw => t_firthref05_Right (Γ := Gh.all w) (hr_.2.2.mono hw.sat.le_all) hr_.2.1 (Sat.all w) (gc_of hz10 hg8)))) (vb (q_pick rfl rfl (pk_and' (g := ((r_.key != ByteArray.empty) && (decide (((r_.key.size : Nat) : Int) ≤ 32)))) (y := z9))) (as_ (v := .bool (((r_.key != ByteArray.empty) && (decide (((r_.key.size : Nat) : Int) ≤ 32))) && z9)) ?_))
 refine WR.done ?_
 refine WC.ret ?_
 intro w hw
 obtain rfl := Option.some.inj h
 subst hF
 exact ⟨by kernel_rfl, hw.fr⟩
theorem t_firthref03_Same {Γ : Gh} {w0 : World} {Aa : Option Addr} {ca : Nat} {a : List Span} (ha : Sl spanT Γ Aa a) (hac : a.length ≤ ca) {Ab : Option Addr} {cb : Nat} {b : List Span} (hb : Sl spanT Γ Ab b) (hbc : b.length ≤ cb) (hs : Sat Γ w0) {r : Bool} (h : m_firthref03_Same a b = some r) : Calls Tryz.prog 76 #[.slice Aa a.length ca, .slice Ab b.length cb] w0 (fun e w' => e = .returned (.bool r) ∧ Fr no w0 w') := by
 refine calls_of (N := 26) (rs := [4]) (args := [.slice Aa a.length ca, .slice Ab b.length cb]) Tryz.func76 rfl Tryz.ntmps76 Tryz.results76 rfl ?_
 obtain ⟨F, hF⟩ : ∃ F : Fm, F = ⟨no, w0, Γ⟩ := ⟨_, rfl⟩
 refine WC.here (C := CC F Γ []) ?_ (hF ▸ Cur.start0 hs)
 refine WC.rs (as_ (v := .bool false) ?_)
 refine WR.done ?_
 refine WC.seq (WC.rs (mv (v := .slice Aa a.length ca) (vb (q_len_slice rfl Tryz.underlying87 rfl) (mv (v := .slice Ab b.length cb) (vb (q_len_slice rfl Tryz.underlying87 rfl) (vb (q_neq rfl rfl rfl) ?_))))))
 refine WR.done ?_
 refine WC.cif h (by kernel_rfl) (fun hb1 h => ?_) (fun hb1 h => ?_)
 ·
  refine WC.rs (as_ (v := .bool false) ?_)
  refine WR.done ?_
  refine WC.ret ?_
  intro w hw
  obtain rfl := Option.some.inj h
  subst hF
  exact ⟨by kernel_rfl, hw.fr⟩
 ·
  refine WC.skip ?_
  change WC _ _ _ _ _ _
  refine WC.seq (WC.rs (as_ (v := .int .i64 0) ?_))
  refine WR.done ?_
  refine WC.block ?_
  refine WC.forI h (fun (i3 : Nat) (s : Unit) σ w => match s with | () => slots σ [(0, .slice Aa a.length ca), (1, .slice Ab b.length cb), (5, .int .i64 ((i3 : Nat) : Int))] ∧ CC F Γ [] w ∧ True) ?_ ?_
  ·
   intro w hw
   exact ⟨(sl_ (by kernel_rfl)), hw, trivial⟩
  rintro f2 i3 ⟨⟩ σ w hi4 hlt5 hge6 ⟨hsl, hw, -⟩
  refine Wpt.slots hsl ?_
  refine WC.here (C := CC F Γ []) ?_ hw
  clear hw hsl
  refine WC.seq (WC.rs (mv (v := .int .i64 ((i3 : Nat) : Int)) (mv (v := .slice Aa a.length ca) (vb (q_len_slice rfl Tryz.underlying87 rfl) (vb (q_lss rfl rfl rfl) ?_)))))
  refine WR.done ?_
  refine WC.cond (b := (decide (((i3 : Nat) : Int) < ((a.length : Nat) : Int)))) (by kernel_rfl) (fun hb7 => ?_) (fun hb7 => ?_)
  ·
   have hl8 := ilt hb7
   have h := hlt5 hl8
   refine WC.skip ?_
   change WC _ _ _ _ _ _
   refine WC.seq (WC.block (WC.seq ?_))
   refine WC.dr (by kernel_rfl) (by kernel_rfl) (fun w hw => hw.drawn _) ?_
   refine wa rfl rfl rfl (q_move (v := .slice Aa a.length ca) rfl (by kernel_rfl)) (wa rfl rfl rfl (q_move (v := .int .i64 ((i3 : Nat) : Int)) rfl (by kernel_rfl)) (wa rfl rfl rfl (q_ixn (i := i3) Tryz.underlying87 Tryz.sizeOf93 rfl rfl rfl hl8 (ha.some_ hl8)) (wa rfl rfl rfl (q_lda (c := 0) (vs := [.int .i64 (gt a i3).s, .int .i64 (gt a i3).f, .int .i64 (gt a i3).t]) (ha.spanT_at hl8).2 rfl Tryz.isAgg93 Tryz.sizeOf93 rfl rfl rfl) (wa rfl rfl rfl (q_move (v := .slice Ab b.length cb) rfl (by kernel_rfl)) (wa rfl rfl rfl (q_move (v := .int .i64 ((i3 : Nat) : Int)) rfl (by kernel_rfl)) ?_)))))
   obtain ⟨hk9, h⟩ := chk_some h
   refine wa rfl rfl rfl (q_ixn (i := i3) Tryz.underlying87 Tryz.sizeOf93 rfl rfl rfl (of_decide_eq_true hk9) (hb.some_ (of_decide_eq_true hk9))) (wa rfl rfl rfl (q_lda (c := 0) (vs := [.int .i64 (gt b i3).s, .int .i64 (gt b i3).f, .int .i64 (gt b i3).t]) (hb.spanT_at (of_decide_eq_true hk9)).2 rfl Tryz.isAgg93 Tryz.sizeOf93 rfl rfl rfl) (wa rfl rfl rfl (q_neq_Span (a := (gt a i3)) (b := (gt b i3)) rfl rfl rfl) ?_))
   refine WQ.nil ?_
   change WC _ _ _ _ _ _
   refine WC.cif h (by kernel_rfl) (fun hb10 h => ?_) (fun hb10 h => ?_)
   ·
    refine WC.rs (as_ (v := .bool false) ?_)
    refine WR.done ?_
    refine WC.ret ?_
    intro w hw
    obtain rfl := Option.some.inj h
    subst hF
    exact ⟨by kernel_rfl, hw.fr⟩
   ·
    refine WC.skip ?_
    change WC _ _ _ _ _ _
    refine WC.region ?_
    refine mv (v := .int .i64 ((i3 : Nat) : Int)) (vb (q_add_r (r := ((i3 + 1 : Nat) : Int)) rfl rfl rfl (ctr_len hl8 ha.le)) (as_ (v := .int .i64 ((i3 + 1 : Nat) : Int)) ?_))
    refine WR.nil ?_
    intro w hw
    exact ⟨hl8, (), h, (sl_ (by kernel_rfl)), hw, trivial⟩
  ·
   have h := hge6 (ige hb7)
   refine WC.exit ?_
   change WC _ _ _ _ _ _
   refine WC.rs (as_ (v := .bool true) ?_)
   refine WR.done ?_
   refine WC.ret ?_
   intro w hw
   obtain rfl := Option.some.inj h
   subst hF
   exact ⟨by kernel_rfl, hw.fr⟩
theorem t_firthref05_SameOne {Γ : Gh} {w0 : World} {Aa2 : Option Addr} {ca2 : Nat} (a : Ver) (ha : Ver.fits Γ Aa2 ca2 a) {Ab2 : Option Addr} {cb2 : Nat} (b : Ver) (hb : Ver.fits Γ Ab2 cb2 b) (hs : Sat Γ w0) {r : Bool} (h : m_firthref05_SameOne a b = some r) : Calls Tryz.prog 45 #[.agg #[.int .i64 a.dot.s, .int .i64 a.dot.n, .slice Aa2 a.past.length ca2, .bool a.gone, .string a.val], .agg #[.int .i64 b.dot.s, .int .i64 b.dot.n, .slice Ab2 b.past.length cb2, .bool b.gone, .string b.val]] w0 (fun e w' => e = .returned (.bool r) ∧ Fr no w0 w') := by
 refine calls_of (N := 31) (rs := [4]) (args := [.agg #[.int .i64 a.dot.s, .int .i64 a.dot.n, .slice Aa2 a.past.length ca2, .bool a.gone, .string a.val], .agg #[.int .i64 b.dot.s, .int .i64 b.dot.n, .slice Ab2 b.past.length cb2, .bool b.gone, .string b.val]]) Tryz.func45 rfl Tryz.ntmps45 Tryz.results45 rfl ?_
 obtain ⟨F, hF⟩ : ∃ F : Fm, F = ⟨no, w0, Γ⟩ := ⟨_, rfl⟩
 refine WC.here (C := CC F Γ []) ?_ (hF ▸ Cur.start0 hs)
 refine WC.rs ?_
 refine e_box (v := .agg #[.int .i64 a.dot.s, .int .i64 a.dot.n, .slice Aa2 a.past.length ca2, .bool a.gone, .string a.val]) rfl rfl rfl rfl (by kernel_rfl) ?_
 intro g1
 refine e_box (v := .agg #[.int .i64 b.dot.s, .int .i64 b.dot.n, .slice Ab2 b.past.length cb2, .bool b.gone, .string b.val]) rfl rfl rfl rfl (by kernel_rfl) ?_
 intro g2
 refine as_ (v := .bool false) ?_
 refine WR.done ?_
 refine WC.rs (vb (q_fl 0 fld_89_0 rfl rfl rfl) (vb (q_ldla (i := 1) (vs := [.int .i64 a.dot.s, .int .i64 a.dot.n]) rfl rfl Tryz.isAgg86 Tryz.sizeOf86 rfl rfl) (vb (q_fl 0 fld_89_0 rfl rfl rfl) (vb (q_ldla (i := 0) (vs := [.int .i64 b.dot.s, .int .i64 b.dot.n]) rfl rfl Tryz.isAgg86 Tryz.sizeOf86 rfl rfl) (vb (q_eql_Dot (a := a.dot) (b := b.dot) rfl rfl rfl) (mv (v := .bool (a.dot == b.dot)) (vg1 rfl rfl rfl rfl rfl (fun hg3 => QV.qo (q_fl 3 fld_89_2 rfl rfl rfl)) ?_)))))))
 refine vg1 rfl rfl rfl rfl rfl (fun hg4 => QV.qo (q_ldl (i := 1) (v := .bool a.gone) rfl rfl Tryz.isAgg4 (gu hg4 rfl) rfl)) (vg1 rfl rfl rfl rfl rfl (fun hg5 => QV.qo (q_fl 3 fld_89_2 rfl rfl rfl)) (vg1 rfl rfl rfl rfl rfl (fun hg6 => QV.qo (q_ldl (i := 0) (v := .bool b.gone) rfl rfl Tryz.isAgg4 (gu hg6 rfl) rfl)) (vg1 rfl rfl rfl rfl rfl (fun hg7 => QV.qo (q_beql Tryz.underlying4 rfl (gu hg7 rfl) (gu hg7 rfl))) (vb (q_pick rfl rfl (pk_and' (g := (a.dot == b.dot)) (y := (a.gone == b.gone)))) (mv (v := .bool ((a.dot == b.dot) && (a.gone == b.gone))) (vg1 rfl rfl rfl rfl rfl (fun hg8 => QV.qo (q_fl 4 fld_89_3 rfl rfl rfl)) (vg1 rfl rfl rfl rfl rfl (fun hg9 => QV.qo (q_ldl (i := 1) (v := .string a.val) rfl rfl Tryz.isAgg9 (gu hg9 rfl) rfl)) ?_)))))))
 refine vg1 rfl rfl rfl rfl rfl (fun hg10 => QV.qo (q_fl 4 fld_89_3 rfl rfl rfl)) (vg1 rfl rfl rfl rfl rfl (fun hg11 => QV.qo (q_ldl (i := 0) (v := .string b.val) rfl rfl Tryz.isAgg9 (gu hg11 rfl) rfl)) (vg1 rfl rfl rfl rfl rfl (fun hg12 => QV.qo (q_seql rfl (gu hg12 rfl) (gu hg12 rfl))) (vb (q_pick rfl rfl (pk_and' (g := ((a.dot == b.dot) && (a.gone == b.gone))) (y := (a.val == b.val)))) (mv (v := .bool (((a.dot == b.dot) && (a.gone == b.gone)) && (a.val == b.val))) (vg1 rfl rfl rfl rfl rfl (fun hg13 => QV.qo (q_fl 2 fld_89_1 rfl rfl rfl)) (vg1 rfl rfl rfl rfl rfl (fun hg14 => QV.qo (q_ldl (i := 1) (v := .slice Aa2 a.past.length ca2) rfl rfl Tryz.isAgg87 (gu hg14 rfl) rfl)) (vg1 rfl rfl rfl rfl rfl (fun hg15 => QV.qo (q_fl 2 fld_89_1 rfl rfl rfl)) ?_)))))))
 refine vg1 rfl rfl rfl rfl rfl (fun hg16 => QV.qo (q_ldl (i := 0) (v := .slice Ab2 b.past.length cb2) rfl rfl Tryz.isAgg87 (gu hg16 rfl) rfl)) ?_
 obtain ⟨z18, hz19, h⟩ := bnd h
 refine vg1 rfl rfl rfl rfl rfl (fun hg17 => (q_call (call_run Tryz.call76 rfl rfl (args2 (gu hg17 rfl) (gu hg17 rfl))) (fun w hw => t_firthref03_Same (Γ := Gh.all w) (ha.2.2.1.2.mono hw.sat.le_all) ha.2.2.1.1 (hb.2.2.1.2.mono hw.sat.le_all) hb.2.2.1.1 (Sat.all w) (gc_of hz19 hg17)))) (vb (q_pick rfl rfl (pk_and' (g := (((a.dot == b.dot) && (a.gone == b.gone)) && (a.val == b.val))) (y := z18))) (as_ (v := .bool ((((a.dot == b.dot) && (a.gone == b.gone)) && (a.val == b.val)) && z18)) ?_))
 refine WR.done ?_
 refine WC.ret ?_
 intro w hw
 obtain rfl := Option.some.inj h
 subst hF
 exact ⟨by kernel_rfl, hw.fr⟩
theorem t_firthref05_Same {Γ : Gh} {w0 : World} {Aa : Option Addr} {ca : Nat} {a : List Ver} (ha : Sl verT Γ Aa a) (hac : a.length ≤ ca) {Ab : Option Addr} {cb : Nat} {b : List Ver} (hb : Sl verT Γ Ab b) (hbc : b.length ≤ cb) (hs : Sat Γ w0) {r : Bool} (h : m_firthref05_Same a b = some r) : Calls Tryz.prog 17 #[.slice Aa a.length ca, .slice Ab b.length cb] w0 (fun e w' => e = .returned (.bool r) ∧ Fr no w0 w') := by
 refine calls_of (N := 27) (rs := [4]) (args := [.slice Aa a.length ca, .slice Ab b.length cb]) Tryz.func17 rfl Tryz.ntmps17 Tryz.results17 rfl ?_
 obtain ⟨F, hF⟩ : ∃ F : Fm, F = ⟨no, w0, Γ⟩ := ⟨_, rfl⟩
 refine WC.here (C := CC F Γ []) ?_ (hF ▸ Cur.start0 hs)
 refine WC.rs (as_ (v := .bool false) ?_)
 refine WR.done ?_
 refine WC.seq (WC.rs (mv (v := .slice Aa a.length ca) (vb (q_len_slice rfl Tryz.underlying43 rfl) (mv (v := .slice Ab b.length cb) (vb (q_len_slice rfl Tryz.underlying43 rfl) (vb (q_neq rfl rfl rfl) ?_))))))
 refine WR.done ?_
 refine WC.cif h (by kernel_rfl) (fun hb1 h => ?_) (fun hb1 h => ?_)
 ·
  refine WC.rs (as_ (v := .bool false) ?_)
  refine WR.done ?_
  refine WC.ret ?_
  intro w hw
  obtain rfl := Option.some.inj h
  subst hF
  exact ⟨by kernel_rfl, hw.fr⟩
 ·
  refine WC.skip ?_
  change WC _ _ _ _ _ _
  refine WC.seq (WC.rs (as_ (v := .int .i64 0) ?_))
  refine WR.done ?_
  refine WC.block ?_
  refine WC.forI h (fun (i3 : Nat) (s : Unit) σ w => match s with | () => slots σ [(0, .slice Aa a.length ca), (1, .slice Ab b.length cb), (5, .int .i64 ((i3 : Nat) : Int))] ∧ CC F Γ [] w ∧ True) ?_ ?_
  ·
   intro w hw
   exact ⟨(sl_ (by kernel_rfl)), hw, trivial⟩
  rintro f2 i3 ⟨⟩ σ w hi4 hlt5 hge6 ⟨hsl, hw, -⟩
  refine Wpt.slots hsl ?_
  refine WC.here (C := CC F Γ []) ?_ hw
  clear hw hsl
  refine WC.seq (WC.rs (mv (v := .int .i64 ((i3 : Nat) : Int)) (mv (v := .slice Aa a.length ca) (vb (q_len_slice rfl Tryz.underlying43 rfl) (vb (q_lss rfl rfl rfl) ?_)))))
  refine WR.done ?_
  refine WC.cond (b := (decide (((i3 : Nat) : Int) < ((a.length : Nat) : Int)))) (by kernel_rfl) (fun hb7 => ?_) (fun hb7 => ?_)
  ·
   have hl8 := ilt hb7
   have h := hlt5 hl8
   refine WC.skip ?_
   change WC _ _ _ _ _ _
   refine WC.seq (WC.block (WC.seq ?_))
   refine WC.dr (by kernel_rfl) (by kernel_rfl) (fun w hw => hw.drawn _) ?_
   refine wa rfl rfl rfl (q_move (v := .slice Aa a.length ca) rfl (by kernel_rfl)) (wa rfl rfl rfl (q_move (v := .int .i64 ((i3 : Nat) : Int)) rfl (by kernel_rfl)) (wa rfl rfl rfl (q_ixn (i := i3) Tryz.underlying43 Tryz.sizeOf89 rfl rfl rfl hl8 (ha.some_ hl8)) ?_))
   obtain ⟨A9, c10, hx11⟩ := ha.verT_at i3
   refine wa rfl rfl rfl (q_lda (c := 0) (vs := [.int .i64 (gt a i3).dot.s, .int .i64 (gt a i3).dot.n, .slice A9 ((gt a i3).past).length c10, .bool (gt a i3).gone, .string (gt a i3).val]) (hx11 hl8).2 rfl Tryz.isAgg89 Tryz.sizeOf89 rfl rfl rfl) (wa rfl rfl rfl (q_move (v := .slice Ab b.length cb) rfl (by kernel_rfl)) (wa rfl rfl rfl (q_move (v := .int .i64 ((i3 : Nat) : Int)) rfl (by kernel_rfl)) ?_))
   obtain ⟨hk12, h⟩ := chk_some h
   refine wa rfl rfl rfl (q_ixn (i := i3) Tryz.underlying43 Tryz.sizeOf89 rfl rfl rfl (of_decide_eq_true hk12) (hb.some_ (of_decide_eq_true hk12))) ?_
   obtain ⟨A13, c14, hx15⟩ := hb.verT_at i3
   refine wa rfl rfl rfl (q_lda (c := 0) (vs := [.int .i64 (gt b i3).dot.s, .int .i64 (gt b i3).dot.n, .slice A13 ((gt b i3).past).length c14, .bool (gt b i3).gone, .string (gt b i3).val]) (hx15 (of_decide_eq_true hk12)).2 rfl Tryz.isAgg89 Tryz.sizeOf89 rfl rfl rfl) ?_
   obtain ⟨z16, hz17, h⟩ := bnd h
   refine wc rfl rfl rfl (q_call (call_run Tryz.call45 rfl rfl (by kernel_rfl)) (fun w hw => t_firthref05_SameOne (Γ := Gh.all w) (gt a i3) (Ver.fits_mono (hx11 hl8).1 hw.sat.le_all) (gt b i3) (Ver.fits_mono (hx15 (of_decide_eq_true hk12)).1 hw.sat.le_all) (Sat.all w) hz17)) (wa rfl rfl rfl (q_not rfl rfl) ?_)
   refine WQ.nil ?_
   change WC _ _ _ _ _ _
   refine WC.cif h (by kernel_rfl) (fun hb18 h => ?_) (fun hb18 h => ?_)
   ·
    refine WC.rs (as_ (v := .bool false) ?_)
    refine WR.done ?_
    refine WC.ret ?_
    intro w hw
    obtain rfl := Option.some.inj h
    subst hF
    exact ⟨by kernel_rfl, hw.fr⟩
   ·
    refine WC.skip ?_
    change WC _ _ _ _ _ _
    refine WC.region ?_
    refine mv (v := .int .i64 ((i3 : Nat) : Int)) (vb (q_add_r (r := ((i3 + 1 : Nat) : Int)) rfl rfl rfl (ctr_len hl8 ha.le)) (as_ (v := .int .i64 ((i3 + 1 : Nat) : Int)) ?_))
    refine WR.nil ?_
    intro w hw
    exact ⟨hl8, (), h, (sl_ (by kernel_rfl)), hw, trivial⟩
  ·
   have h := hge6 (ige hb7)
   refine WC.exit ?_
   change WC _ _ _ _ _ _
   refine WC.rs (as_ (v := .bool true) ?_)
   refine WR.done ?_
   refine WC.ret ?_
   intro w hw
   obtain rfl := Option.some.inj h
   subst hF
   exact ⟨by kernel_rfl, hw.fr⟩
theorem t_firthref06_SameRecs {Γ : Gh} {w0 : World} {Aa : Option Addr} {ca : Nat} {a : List Rec} (ha : Sl recT Γ Aa a) (hac : a.length ≤ ca) {Ab : Option Addr} {cb : Nat} {b : List Rec} (hb : Sl recT Γ Ab b) (hbc : b.length ≤ cb) (hs : Sat Γ w0) {r : Bool} (h : m_firthref06_SameRecs a b = some r) : Calls Tryz.prog 19 #[.slice Aa a.length ca, .slice Ab b.length cb] w0 (fun e w' => e = .returned (.bool r) ∧ Fr no w0 w') := by
 refine calls_of (N := 42) (rs := [4]) (args := [.slice Aa a.length ca, .slice Ab b.length cb]) Tryz.func19 rfl Tryz.ntmps19 Tryz.results19 rfl ?_
 obtain ⟨F, hF⟩ : ∃ F : Fm, F = ⟨no, w0, Γ⟩ := ⟨_, rfl⟩
 refine WC.here (C := CC F Γ []) ?_ (hF ▸ Cur.start0 hs)
 refine WC.rs (as_ (v := .bool false) ?_)
 refine WR.done ?_
 refine WC.seq (WC.rs (mv (v := .slice Aa a.length ca) (vb (q_len_slice rfl Tryz.underlying22 rfl) (mv (v := .slice Ab b.length cb) (vb (q_len_slice rfl Tryz.underlying22 rfl) (vb (q_neq rfl rfl rfl) ?_))))))
 refine WR.done ?_
 refine WC.cif h (by kernel_rfl) (fun hb1 h => ?_) (fun hb1 h => ?_)
 ·
  refine WC.rs (as_ (v := .bool false) ?_)
  refine WR.done ?_
  refine WC.ret ?_
  intro w hw
  obtain rfl := Option.some.inj h
  subst hF
  exact ⟨by kernel_rfl, hw.fr⟩
 ·
  refine WC.skip ?_
  change WC _ _ _ _ _ _
  refine WC.seq (WC.rs (as_ (v := .int .i64 0) ?_))
  refine WR.done ?_
  refine WC.block ?_
  refine WC.forI h (fun (i3 : Nat) (s : Unit) σ w => match s with | () => slots σ [(0, .slice Aa a.length ca), (1, .slice Ab b.length cb), (5, .int .i64 ((i3 : Nat) : Int))] ∧ CC F Γ [] w ∧ True) ?_ ?_
  ·
   intro w hw
   exact ⟨(sl_ (by kernel_rfl)), hw, trivial⟩
  rintro f2 i3 ⟨⟩ σ w hi4 hlt5 hge6 ⟨hsl, hw, -⟩
  refine Wpt.slots hsl ?_
  refine WC.here (C := CC F Γ []) ?_ hw
  clear hw hsl
  refine WC.seq (WC.rs (mv (v := .int .i64 ((i3 : Nat) : Int)) (mv (v := .slice Aa a.length ca) (vb (q_len_slice rfl Tryz.underlying22 rfl) (vb (q_lss rfl rfl rfl) ?_)))))
  refine WR.done ?_
  refine WC.cond (b := (decide (((i3 : Nat) : Int) < ((a.length : Nat) : Int)))) (by kernel_rfl) (fun hb7 => ?_) (fun hb7 => ?_)
  ·
   have hl8 := ilt hb7
   have h := hlt5 hl8
   refine WC.skip ?_
   change WC _ _ _ _ _ _
   refine WC.seq (WC.block (WC.seq ?_))
   refine WC.dr (by kernel_rfl) (by kernel_rfl) (fun w hw => hw.drawn _) ?_
   refine wa rfl rfl rfl (q_move (v := .slice Aa a.length ca) rfl (by kernel_rfl)) (wa rfl rfl rfl (q_move (v := .int .i64 ((i3 : Nat) : Int)) rfl (by kernel_rfl)) (wa rfl rfl rfl (q_ixn (i := i3) Tryz.underlying22 Tryz.sizeOf45 rfl rfl rfl hl8 (ha.some_ hl8)) (wa rfl rfl rfl (q_field_addr (i3 * 2) fld_45_0 rfl rfl (ha.some_ hl8) rfl) ?_)))
   obtain ⟨A9, c10, hx11⟩ := ha.recT_at i3
   refine wa rfl rfl rfl (q_ld (c := 0) (v := .string (gt a i3).key) (hx11 hl8).2 rfl Tryz.isAgg9 rfl rfl) (wa rfl rfl rfl (q_move (v := .slice Ab b.length cb) rfl (by kernel_rfl)) (wa rfl rfl rfl (q_move (v := .int .i64 ((i3 : Nat) : Int)) rfl (by kernel_rfl)) ?_))
   obtain ⟨hk12, h⟩ := chk_some h
   refine wa rfl rfl rfl (q_ixn (i := i3) Tryz.underlying22 Tryz.sizeOf45 rfl rfl rfl (of_decide_eq_true hk12) (hb.some_ (of_decide_eq_true hk12))) (wa rfl rfl rfl (q_field_addr (i3 * 2) fld_45_0 rfl rfl (hb.some_ (of_decide_eq_true hk12)) rfl) ?_)
   obtain ⟨A13, c14, hx15⟩ := hb.recT_at i3
   refine wa rfl rfl rfl (q_ld (c := 0) (v := .string (gt b i3).key) (hx15 (of_decide_eq_true hk12)).2 rfl Tryz.isAgg9 rfl rfl) (wa rfl rfl rfl (q_sneq rfl rfl rfl) (wa rfl rfl rfl (q_move (v := .bool ((gt a i3).key != (gt b i3).key)) rfl (by kernel_rfl)) (wg0 rfl rfl rfl rfl rfl (fun hg16 => QV.qo (q_move (v := .slice Aa a.length ca) rfl (by kernel_rfl))) (wg0 rfl rfl rfl rfl rfl (fun hg17 => QV.qo (q_move (v := .int .i64 ((i3 : Nat) : Int)) rfl (by kernel_rfl))) (wg0 rfl rfl rfl rfl rfl (fun hg18 => QV.qo (q_ixn (i := i3) Tryz.underlying22 Tryz.sizeOf45 rfl (gu hg18 rfl) (gu hg18 rfl) hl8 (ha.some_ hl8))) (wg0 rfl rfl rfl rfl rfl (fun hg19 => QV.qo (q_field_addr (i3 * 2 + 1) fld_45_1 rfl (gu hg19 rfl) (ha.some_ hl8) rfl)) (wg0 rfl rfl rfl rfl rfl (fun hg20 => QV.qo (q_ld (c := 1) (v := .slice A9 ((gt a i3).vers).length c10) (hx11 hl8).2 rfl Tryz.isAgg43 (gu hg20 rfl) rfl)) ?_)))))))
   refine wg0 rfl rfl rfl rfl rfl (fun hg21 => QV.qo (q_move (v := .slice Ab b.length cb) rfl (by kernel_rfl))) (wg0 rfl rfl rfl rfl rfl (fun hg22 => QV.qo (q_move (v := .int .i64 ((i3 : Nat) : Int)) rfl (by kernel_rfl))) (wg0 rfl rfl rfl rfl rfl (fun hg23 => QV.qo (q_ixn (i := i3) Tryz.underlying22 Tryz.sizeOf45 rfl (gu hg23 rfl) (gu hg23 rfl) (of_decide_eq_true hk12) (hb.some_ (of_decide_eq_true hk12)))) (wg0 rfl rfl rfl rfl rfl (fun hg24 => QV.qo (q_field_addr (i3 * 2 + 1) fld_45_1 rfl (gu hg24 rfl) (hb.some_ (of_decide_eq_true hk12)) rfl)) (wg0 rfl rfl rfl rfl rfl (fun hg25 => QV.qo (q_ld (c := 1) (v := .slice A13 ((gt b i3).vers).length c14) (hx15 (of_decide_eq_true hk12)).2 rfl Tryz.isAgg43 (gu hg25 rfl) rfl)) ?_))))
   obtain ⟨z27, hz28, h⟩ := bnd h
   refine wg0 rfl rfl rfl rfl rfl (fun hg26 => (q_call (call_run Tryz.call17 rfl rfl (args2 (gu hg26 rfl) (gu hg26 rfl))) (fun w hw => t_firthref05_Same (Γ := Gh.all w) ((hx11 hl8).1.2.2.mono hw.sat.le_all) (hx11 hl8).1.2.1 ((hx15 (of_decide_eq_true hk12)).1.2.2.mono hw.sat.le_all) (hx15 (of_decide_eq_true hk12)).1.2.1 (Sat.all w) (gc_of hz28 hg26)))) (wg0 rfl rfl rfl rfl rfl (fun hg29 => QV.qo (q_not rfl (gu hg29 rfl))) (wa rfl rfl rfl (q_pick rfl rfl (pk_or' (g := ((gt a i3).key != (gt b i3).key)) (y := (!z27)))) ?_))
   refine WQ.nil ?_
   change WC _ _ _ _ _ _
   refine WC.cif h (by kernel_rfl) (fun hb30 h => ?_) (fun hb30 h => ?_)
   ·
    refine WC.rs (as_ (v := .bool false) ?_)
    refine WR.done ?_
    refine WC.ret ?_
    intro w hw
    obtain rfl := Option.some.inj h
    subst hF
    exact ⟨by kernel_rfl, hw.fr⟩
   ·
    refine WC.skip ?_
    change WC _ _ _ _ _ _
    refine WC.region ?_
    refine mv (v := .int .i64 ((i3 : Nat) : Int)) (vb (q_add_r (r := ((i3 + 1 : Nat) : Int)) rfl rfl rfl (ctr_len hl8 ha.le)) (as_ (v := .int .i64 ((i3 + 1 : Nat) : Int)) ?_))
    refine WR.nil ?_
    intro w hw
    exact ⟨hl8, (), h, (sl_ (by kernel_rfl)), hw, trivial⟩
  ·
   have h := hge6 (ige hb7)
   refine WC.exit ?_
   change WC _ _ _ _ _ _
   refine WC.rs (as_ (v := .bool true) ?_)
   refine WR.done ?_
   refine WC.ret ?_
   intro w hw
   obtain rfl := Option.some.inj h
   subst hF
   exact ⟨by kernel_rfl, hw.fr⟩
theorem t_firthref06_place {Γ : Gh} {w0 : World} (a : Adr) (ha : Adr.fits Γ  a) (hs : Sat Γ w0) {r : Bool} (h : m_firthref06_place a = some r) : Calls Tryz.prog 46 #[.agg #[.int .i64 a.site, .int .i64 a.node]] w0 (fun e w' => e = .returned (.bool r) ∧ Fr no w0 w') := by
 refine calls_of (N := 21) (rs := [2]) (args := [.agg #[.int .i64 a.site, .int .i64 a.node]]) Tryz.func46 rfl Tryz.ntmps46 Tryz.results46 rfl ?_
 obtain ⟨F, hF⟩ : ∃ F : Fm, F = ⟨no, w0, Γ⟩ := ⟨_, rfl⟩
 refine WC.here (C := CC F Γ []) ?_ (hF ▸ Cur.start0 hs)
 refine WC.rs ?_
 refine e_box (v := .agg #[.int .i64 a.site, .int .i64 a.node]) rfl rfl rfl rfl (by kernel_rfl) ?_
 intro g1
 refine as_ (v := .bool false) ?_
 refine WR.done ?_
 refine WC.rs (vb (q_fl 0 fld_32_0 rfl rfl rfl) (vb (q_ldl (i := 0) (v := .int .i64 a.site) rfl rfl Tryz.isAgg3 rfl rfl) (vb (q_geq rfl rfl rfl) (mv (v := .bool (decide (1 ≤ a.site))) (vg1 rfl rfl rfl rfl rfl (fun hg2 => QV.qo (q_fl 0 fld_32_0 rfl rfl rfl)) (vg1 rfl rfl rfl rfl rfl (fun hg3 => QV.qo (q_ldl (i := 0) (v := .int .i64 a.site) rfl rfl Tryz.isAgg3 (gu hg3 rfl) rfl)) (vg1 rfl rfl rfl rfl rfl (fun hg4 => QV.qo (q_leq rfl (gu hg4 rfl) rfl)) ?_)))))))
 refine vb (q_pick rfl rfl (pk_and' (g := (decide (1 ≤ a.site))) (y := (decide (a.site ≤ 16))))) (mv (v := .bool ((decide (1 ≤ a.site)) && (decide (a.site ≤ 16)))) (vg1 rfl rfl rfl rfl rfl (fun hg5 => QV.qo (q_fl 1 fld_32_1 rfl rfl rfl)) (vg1 rfl rfl rfl rfl rfl (fun hg6 => QV.qo (q_ldl (i := 0) (v := .int .i64 a.node) rfl rfl Tryz.isAgg3 (gu hg6 rfl) rfl)) (vg1 rfl rfl rfl rfl rfl (fun hg7 => QV.qo (q_geq rfl (gu hg7 rfl) rfl)) (vb (q_pick rfl rfl (pk_and' (g := ((decide (1 ≤ a.site)) && (decide (a.site ≤ 16)))) (y := (decide (0 ≤ a.node))))) (mv (v := .bool (((decide (1 ≤ a.site)) && (decide (a.site ≤ 16))) && (decide (0 ≤ a.node)))) (vg1 rfl rfl rfl rfl rfl (fun hg8 => QV.qo (q_fl 1 fld_32_1 rfl rfl rfl)) ?_)))))))
 refine vg1 rfl rfl rfl rfl rfl (fun hg9 => QV.qo (q_ldl (i := 0) (v := .int .i64 a.node) rfl rfl Tryz.isAgg3 (gu hg9 rfl) rfl)) (vg1 rfl rfl rfl rfl rfl (fun hg10 => QV.qo (q_leq rfl (gu hg10 rfl) rfl)) (vb (q_pick rfl rfl (pk_and' (g := (((decide (1 ≤ a.site)) && (decide (a.site ≤ 16))) && (decide (0 ≤ a.node)))) (y := (decide (a.node ≤ 8))))) (as_ (v := .bool ((((decide (1 ≤ a.site)) && (decide (a.site ≤ 16))) && (decide (0 ≤ a.node))) && (decide (a.node ≤ 8)))) ?_)))
 refine WR.done ?_
 refine WC.ret ?_
 intro w hw
 obtain rfl := Option.some.inj h
 subst hF
 exact ⟨by kernel_rfl, hw.fr⟩
theorem t_firthref04_Right {Γ : Gh} {w0 : World} {Av_ : Option Addr} {cv_ : Nat} {v_ : List Int} (hv_ : Sl intT Γ Av_ v_) (hv_c : v_.length ≤ cv_) (hs : Sat Γ w0) {r : Bool} (h : m_firthref04_Right v_ = some r) : Calls Tryz.prog 47 #[.slice Av_ v_.length cv_] w0 (fun e w' => e = .returned (.bool r) ∧ Fr no w0 w') := by
 refine calls_of (N := 30) (rs := [2]) (args := [.slice Av_ v_.length cv_]) Tryz.func47 rfl Tryz.ntmps47 Tryz.results47 rfl ?_
 obtain ⟨F, hF⟩ : ∃ F : Fm, F = ⟨no, w0, Γ⟩ := ⟨_, rfl⟩
 refine WC.here (C := CC F Γ []) ?_ (hF ▸ Cur.start0 hs)
 refine WC.rs (as_ (v := .bool false) ?_)
 refine WR.done ?_
 refine WC.seq (WC.rs (mv (v := .slice Av_ v_.length cv_) (vb (q_len_slice rfl Tryz.underlying36 rfl) (vb (q_eql rfl rfl rfl) (mv (v := .bool (((v_.length : Nat) : Int) == 0)) (vg0 rfl rfl rfl rfl rfl (fun hg1 => QV.qo (q_move (v := .slice Av_ v_.length cv_) rfl (by kernel_rfl))) (vg0 rfl rfl rfl rfl rfl (fun hg2 => QV.qo (q_len_slice rfl Tryz.underlying36 (gu hg2 rfl))) ?_)))))))
 refine vg0 rfl rfl rfl rfl rfl (fun hg3 => QV.qo (q_gtr rfl (gu hg3 rfl) rfl)) (vb (q_pick rfl rfl (pk_or' (g := (((v_.length : Nat) : Int) == 0)) (y := (decide (16 < ((v_.length : Nat) : Int)))))) ?_)
 refine WR.done ?_
 refine WC.cif h (by kernel_rfl) (fun hb4 h => ?_) (fun hb4 h => ?_)
 ·
  refine WC.rs (as_ (v := .bool false) ?_)
  refine WR.done ?_
  refine WC.ret ?_
  intro w hw
  obtain rfl := Option.some.inj h
  subst hF
  exact ⟨by kernel_rfl, hw.fr⟩
 ·
  refine WC.skip ?_
  change WC _ _ _ _ _ _
  refine WC.seq (WC.rs (as_ (v := .int .i64 0) ?_))
  refine WR.done ?_
  refine WC.block ?_
  refine WC.forI h (fun (i6 : Nat) (s : Unit) σ w => match s with | () => slots σ [(0, .slice Av_ v_.length cv_), (3, .int .i64 ((i6 : Nat) : Int))] ∧ CC F Γ [] w ∧ True) ?_ ?_
  ·
   intro w hw
   exact ⟨(sl_ (by kernel_rfl)), hw, trivial⟩
  rintro f5 i6 ⟨⟩ σ w hi7 hlt8 hge9 ⟨hsl, hw, -⟩
  refine Wpt.slots hsl ?_
  refine WC.here (C := CC F Γ []) ?_ hw
  clear hw hsl
  refine WC.seq (WC.rs (mv (v := .int .i64 ((i6 : Nat) : Int)) (mv (v := .slice Av_ v_.length cv_) (vb (q_len_slice rfl Tryz.underlying36 rfl) (vb (q_lss rfl rfl rfl) ?_)))))
  refine WR.done ?_
  refine WC.cond (b := (decide (((i6 : Nat) : Int) < ((v_.length : Nat) : Int)))) (by kernel_rfl) (fun hb10 => ?_) (fun hb10 => ?_)
  ·
   have hl11 := ilt hb10
   have h := hlt8 hl11
   refine WC.skip ?_
   change WC _ _ _ _ _ _
   refine WC.seq (WC.block (WC.rs (mv (v := .slice Av_ v_.length cv_) (mv (v := .int .i64 ((i6 : Nat) : Int)) (vb (q_ixn (i := i6) Tryz.underlying36 Tryz.sizeOf2 rfl rfl rfl hl11 (hv_.some_ hl11)) (vb (q_ld (c := 0) (v := .int .i64 (gt v_ i6)) (hv_.intT_at hl11).2 rfl Tryz.isAgg2 rfl rfl) (vb (q_lss rfl rfl rfl) ?_)))))))
   refine mv (v := .bool (decide ((gt v_ i6) < 0))) (vg0 rfl rfl rfl rfl rfl (fun hg12 => QV.qo (q_move (v := .slice Av_ v_.length cv_) rfl (by kernel_rfl))) (vg0 rfl rfl rfl rfl rfl (fun hg13 => QV.qo (q_move (v := .int .i64 ((i6 : Nat) : Int)) rfl (by kernel_rfl))) (vg0 rfl rfl rfl rfl rfl (fun hg14 => QV.qo (q_ixn (i := i6) Tryz.underlying36 Tryz.sizeOf2 rfl (gu hg14 rfl) (gu hg14 rfl) hl11 (hv_.some_ hl11))) (vg0 rfl rfl rfl rfl rfl (fun hg15 => QV.qo (q_ld (c := 0) (v := .int .i64 (gt v_ i6)) (hv_.intT_at hl11).2 rfl Tryz.isAgg2 (gu hg15 rfl) rfl)) (vg0 rfl rfl rfl rfl rfl (fun hg16 => QV.qo (q_gtr rfl (gu hg16 rfl) rfl)) (vb (q_pick rfl rfl (pk_or' (g := (decide ((gt v_ i6) < 0))) (y := (decide (4611686018427387904 < (gt v_ i6)))))) ?_))))))
   refine WR.done ?_
   refine WC.cif h (by kernel_rfl) (fun hb17 h => ?_) (fun hb17 h => ?_)
   ·
    refine WC.rs (as_ (v := .bool false) ?_)
    refine WR.done ?_
    refine WC.ret ?_
    intro w hw
    obtain rfl := Option.some.inj h
    subst hF
    exact ⟨by kernel_rfl, hw.fr⟩
   ·
    refine WC.skip ?_
    change WC _ _ _ _ _ _
    refine WC.region ?_
    refine mv (v := .int .i64 ((i6 : Nat) : Int)) (vb (q_add_r (r := ((i6 + 1 : Nat) : Int)) rfl rfl rfl (ctr_len hl11 hv_.le)) (as_ (v := .int .i64 ((i6 + 1 : Nat) : Int)) ?_))
    refine WR.nil ?_
    intro w hw
    exact ⟨hl11, (), h, (sl_ (by kernel_rfl)), hw, trivial⟩
  ·
   have h := hge9 (ige hb10)
   refine WC.exit ?_
   change WC _ _ _ _ _ _
   refine WC.rs (as_ (v := .bool true) ?_)
   refine WR.done ?_
   refine WC.ret ?_
   intro w hw
   obtain rfl := Option.some.inj h
   subst hF
   exact ⟨by kernel_rfl, hw.fr⟩
theorem t_firthref06_RightMsg {Γ : Gh} {w0 : World} {Am10 : Option Addr} {cm10 : Nat} {Am11 : Option Addr} {cm11 : Nat} {Am12 : Option Addr} {cm12 : Nat} {Am13 : Option Addr} {cm13 : Nat} {Am14 : Option Addr} {cm14 : Nat} (m : Dapi_Msg) (hm : Dapi_Msg.fits Γ Am10 cm10 Am11 cm11 Am12 cm12 Am13 cm13 Am14 cm14 m) (hs : Sat Γ w0) {r : Bool} (h : m_firthref06_RightMsg m = some r) : Calls Tryz.prog 20 #[.agg #[.int .i64 m.kind, .int .i64 m.from_.site, .int .i64 m.from_.node, .int .i64 m.to_.site, .int .i64 m.to_.node, .int .i64 m.id, .int .i64 m.n, .int .i64 m.for_, .int .i64 m.code, .string m.key, .slice Am10 m.recs.length cm10, .slice Am11 m.vec.length cm11, .slice Am12 m.path.length cm12, .slice Am13 m.hashes.length cm13, .slice Am14 m.route.length cm14]] w0 (fun e w' => e = .returned (.bool r) ∧ Fr no w0 w') := by
 refine calls_of (N := 146) (rs := [2]) (args := [.agg #[.int .i64 m.kind, .int .i64 m.from_.site, .int .i64 m.from_.node, .int .i64 m.to_.site, .int .i64 m.to_.node, .int .i64 m.id, .int .i64 m.n, .int .i64 m.for_, .int .i64 m.code, .string m.key, .slice Am10 m.recs.length cm10, .slice Am11 m.vec.length cm11, .slice Am12 m.path.length cm12, .slice Am13 m.hashes.length cm13, .slice Am14 m.route.length cm14]]) Tryz.func20 rfl Tryz.ntmps20 Tryz.results20 rfl ?_
 obtain ⟨F, hF⟩ : ∃ F : Fm, F = ⟨no, w0, Γ⟩ := ⟨_, rfl⟩
 refine WC.here (C := CC F Γ []) ?_ (hF ▸ Cur.start0 hs)
 refine WC.rs ?_
 refine e_box (v := .agg #[.int .i64 m.kind, .int .i64 m.from_.site, .int .i64 m.from_.node, .int .i64 m.to_.site, .int .i64 m.to_.node, .int .i64 m.id, .int .i64 m.n, .int .i64 m.for_, .int .i64 m.code, .string m.key, .slice Am10 m.recs.length cm10, .slice Am11 m.vec.length cm11, .slice Am12 m.path.length cm12, .slice Am13 m.hashes.length cm13, .slice Am14 m.route.length cm14]) rfl rfl rfl rfl (by kernel_rfl) ?_
 intro g1
 refine as_ (v := .bool false) ?_
 refine WR.done ?_
 refine WC.seq (WC.rs (vb (q_fl 0 fld_40_0 rfl rfl rfl) (vb (q_ldl (i := 0) (v := .int .i64 m.kind) rfl rfl Tryz.isAgg3 rfl rfl) (vb (q_lss rfl rfl rfl) (mv (v := .bool (decide (m.kind < 1))) (vg0 rfl rfl rfl rfl rfl (fun hg2 => QV.qo (q_fl 0 fld_40_0 rfl rfl rfl)) (vg0 rfl rfl rfl rfl rfl (fun hg3 => QV.qo (q_ldl (i := 0) (v := .int .i64 m.kind) rfl rfl Tryz.isAgg3 (gu hg3 rfl) rfl)) ?_)))))))
 refine vg0 rfl rfl rfl rfl rfl (fun hg4 => QV.qo (q_gtr rfl (gu hg4 rfl) rfl)) (vb (q_pick rfl rfl (pk_or' (g := (decide (m.kind < 1))) (y := (decide (17 < m.kind))))) (mv (v := .bool ((decide (m.kind < 1)) || (decide (17 < m.kind)))) (vg0 rfl rfl rfl rfl rfl (fun hg5 => QV.qo (q_fl 1 fld_40_1 rfl rfl rfl)) (vg0 rfl rfl rfl rfl rfl (fun hg6 => QV.qo (q_ldla (i := 0) (vs := [.int .i64 m.from_.site, .int .i64 m.from_.node]) rfl rfl Tryz.isAgg32 Tryz.sizeOf32 (gu hg6 rfl) rfl)) ?_))))
 obtain ⟨z8, hz9, h⟩ := bnd h
 refine vg0 rfl rfl rfl rfl rfl (fun hg7 => (q_call (call_run Tryz.call46 rfl rfl (args1 (gu hg7 rfl))) (fun w hw => t_firthref06_place (Γ := Gh.all w) m.from_ ⟨hm.2.1, hm.2.2.1⟩ (Sat.all w) (gc_of hz9 hg7)))) (vg0 rfl rfl rfl rfl rfl (fun hg10 => QV.qo (q_not rfl (gu hg10 rfl))) (vb (q_pick rfl rfl (pk_or' (g := ((decide (m.kind < 1)) || (decide (17 < m.kind)))) (y := (!z8)))) (mv (v := .bool (((decide (m.kind < 1)) || (decide (17 < m.kind))) || (!z8))) (vg0 rfl rfl rfl rfl rfl (fun hg11 => QV.qo (q_fl 3 fld_40_2 rfl rfl rfl)) (vg0 rfl rfl rfl rfl rfl (fun hg12 => QV.qo (q_ldla (i := 0) (vs := [.int .i64 m.to_.site, .int .i64 m.to_.node]) rfl rfl Tryz.isAgg32 Tryz.sizeOf32 (gu hg12 rfl) rfl)) ?_)))))
 obtain ⟨z14, hz15, h⟩ := bnd h
 refine vg0 rfl rfl rfl rfl rfl (fun hg13 => (q_call (call_run Tryz.call46 rfl rfl (args1 (gu hg13 rfl))) (fun w hw => t_firthref06_place (Γ := Gh.all w) m.to_ ⟨hm.2.2.2.1, hm.2.2.2.2.1⟩ (Sat.all w) (gc_of hz15 hg13)))) (vg0 rfl rfl rfl rfl rfl (fun hg16 => QV.qo (q_not rfl (gu hg16 rfl))) (vb (q_pick rfl rfl (pk_or' (g := (((decide (m.kind < 1)) || (decide (17 < m.kind))) || (!z8))) (y := (!z14)))) (mv (v := .bool ((((decide (m.kind < 1)) || (decide (17 < m.kind))) || (!z8)) || (!z14))) (vg0 rfl rfl rfl rfl rfl (fun hg17 => QV.qo (q_fl 5 fld_40_3 rfl rfl rfl)) (vg0 rfl rfl rfl rfl rfl (fun hg18 => QV.qo (q_ldl (i := 0) (v := .int .i64 m.id) rfl rfl Tryz.isAgg2 (gu hg18 rfl) rfl)) (vg0 rfl rfl rfl rfl rfl (fun hg19 => QV.qo (q_lss rfl (gu hg19 rfl) rfl)) (vb (q_pick rfl rfl (pk_or' (g := ((((decide (m.kind < 1)) || (decide (17 < m.kind))) || (!z8)) || (!z14))) (y := (decide (m.id < 0))))) ?_)))))))
 refine mv (v := .bool (((((decide (m.kind < 1)) || (decide (17 < m.kind))) || (!z8)) || (!z14)) || (decide (m.id < 0)))) (vg0 rfl rfl rfl rfl rfl (fun hg20 => QV.qo (q_fl 6 fld_40_4 rfl rfl rfl)) (vg0 rfl rfl rfl rfl rfl (fun hg21 => QV.qo (q_ldl (i := 0) (v := .int .i64 m.n) rfl rfl Tryz.isAgg2 (gu hg21 rfl) rfl)) (vg0 rfl rfl rfl rfl rfl (fun hg22 => QV.qo (q_lss rfl (gu hg22 rfl) rfl)) (vb (q_pick rfl rfl (pk_or' (g := (((((decide (m.kind < 1)) || (decide (17 < m.kind))) || (!z8)) || (!z14)) || (decide (m.id < 0)))) (y := (decide (m.n < 0))))) (mv (v := .bool ((((((decide (m.kind < 1)) || (decide (17 < m.kind))) || (!z8)) || (!z14)) || (decide (m.id < 0))) || (decide (m.n < 0)))) (vg0 rfl rfl rfl rfl rfl (fun hg23 => QV.qo (q_fl 7 fld_40_5 rfl rfl rfl)) (vg0 rfl rfl rfl rfl rfl (fun hg24 => QV.qo (q_ldl (i := 0) (v := .int .i64 m.for_) rfl rfl Tryz.isAgg3 (gu hg24 rfl) rfl)) ?_)))))))
 refine vg0 rfl rfl rfl rfl rfl (fun hg25 => QV.qo (q_lss rfl (gu hg25 rfl) rfl)) (vb (q_pick rfl rfl (pk_or' (g := ((((((decide (m.kind < 1)) || (decide (17 < m.kind))) || (!z8)) || (!z14)) || (decide (m.id < 0))) || (decide (m.n < 0)))) (y := (decide (m.for_ < 0))))) (mv (v := .bool (((((((decide (m.kind < 1)) || (decide (17 < m.kind))) || (!z8)) || (!z14)) || (decide (m.id < 0))) || (decide (m.n < 0))) || (decide (m.for_ < 0)))) (vg0 rfl rfl rfl rfl rfl (fun hg26 => QV.qo (q_fl 7 fld_40_5 rfl rfl rfl)) (vg0 rfl rfl rfl rfl rfl (fun hg27 => QV.qo (q_ldl (i := 0) (v := .int .i64 m.for_) rfl rfl Tryz.isAgg3 (gu hg27 rfl) rfl)) (vg0 rfl rfl rfl rfl rfl (fun hg28 => QV.qo (q_gtr rfl (gu hg28 rfl) rfl)) (vb (q_pick rfl rfl (pk_or' (g := (((((((decide (m.kind < 1)) || (decide (17 < m.kind))) || (!z8)) || (!z14)) || (decide (m.id < 0))) || (decide (m.n < 0))) || (decide (m.for_ < 0)))) (y := (decide (8 < m.for_))))) (mv (v := .bool ((((((((decide (m.kind < 1)) || (decide (17 < m.kind))) || (!z8)) || (!z14)) || (decide (m.id < 0))) || (decide (m.n < 0))) || (decide (m.for_ < 0))) || (decide (8 < m.for_)))) ?_)))))))
 refine vg0 rfl rfl rfl rfl rfl (fun hg29 => QV.qo (q_fl 8 fld_40_6 rfl rfl rfl)) (vg0 rfl rfl rfl rfl rfl (fun hg30 => QV.qo (q_ldl (i := 0) (v := .int .i64 m.code) rfl rfl Tryz.isAgg28 (gu hg30 rfl) rfl)) (vg0 rfl rfl rfl rfl rfl (fun hg31 => QV.qo (q_lss rfl (gu hg31 rfl) rfl)) (vb (q_pick rfl rfl (pk_or' (g := ((((((((decide (m.kind < 1)) || (decide (17 < m.kind))) || (!z8)) || (!z14)) || (decide (m.id < 0))) || (decide (m.n < 0))) || (decide (m.for_ < 0))) || (decide (8 < m.for_)))) (y := (decide (m.code < 0))))) (mv (v := .bool (((((((((decide (m.kind < 1)) || (decide (17 < m.kind))) || (!z8)) || (!z14)) || (decide (m.id < 0))) || (decide (m.n < 0))) || (decide (m.for_ < 0))) || (decide (8 < m.for_))) || (decide (m.code < 0)))) (vg0 rfl rfl rfl rfl rfl (fun hg32 => QV.qo (q_fl 8 fld_40_6 rfl rfl rfl)) (vg0 rfl rfl rfl rfl rfl (fun hg33 => QV.qo (q_ldl (i := 0) (v := .int .i64 m.code) rfl rfl Tryz.isAgg28 (gu hg33 rfl) rfl)) (vg0 rfl rfl rfl rfl rfl (fun hg34 => QV.qo (q_gtr rfl (gu hg34 rfl) rfl)) ?_)))))))
 refine vb (q_pick rfl rfl (pk_or' (g := (((((((((decide (m.kind < 1)) || (decide (17 < m.kind))) || (!z8)) || (!z14)) || (decide (m.id < 0))) || (decide (m.n < 0))) || (decide (m.for_ < 0))) || (decide (8 < m.for_))) || (decide (m.code < 0)))) (y := (decide (999 < m.code))))) (mv (v := .bool ((((((((((decide (m.kind < 1)) || (decide (17 < m.kind))) || (!z8)) || (!z14)) || (decide (m.id < 0))) || (decide (m.n < 0))) || (decide (m.for_ < 0))) || (decide (8 < m.for_))) || (decide (m.code < 0))) || (decide (999 < m.code)))) (vg0 rfl rfl rfl rfl rfl (fun hg35 => QV.qo (q_fl 9 fld_40_7 rfl rfl rfl)) (vg0 rfl rfl rfl rfl rfl (fun hg36 => QV.qo (q_ldl (i := 0) (v := .string m.key) rfl rfl Tryz.isAgg9 (gu hg36 rfl) rfl)) (vg0 rfl rfl rfl rfl rfl (fun hg37 => QV.qo (q_len_str rfl Tryz.underlying9 (gu hg37 rfl))) (vg0 rfl rfl rfl rfl rfl (fun hg38 => QV.qo (q_gtr rfl (gu hg38 rfl) rfl)) (vb (q_pick rfl rfl (pk_or' (g := ((((((((((decide (m.kind < 1)) || (decide (17 < m.kind))) || (!z8)) || (!z14)) || (decide (m.id < 0))) || (decide (m.n < 0))) || (decide (m.for_ < 0))) || (decide (8 < m.for_))) || (decide (m.code < 0))) || (decide (999 < m.code)))) (y := (decide (32 < ((m.key.size : Nat) : Int)))))) ?_))))))
 refine WR.done ?_
 refine WC.cif h (by kernel_rfl) (fun hb39 h => ?_) (fun hb39 h => ?_)
 ·
  refine WC.rs (as_ (v := .bool false) ?_)
  refine WR.done ?_
  refine WC.ret ?_
  intro w hw
  obtain rfl := Option.some.inj h
  subst hF
  exact ⟨by kernel_rfl, hw.fr⟩
 ·
  refine WC.skip ?_
  change WC _ _ _ _ _ _
  refine WC.seq (WC.rs (vb (q_fl 11 fld_40_9 rfl rfl rfl) (vb (q_ldl (i := 0) (v := .slice Am11 m.vec.length cm11) rfl rfl Tryz.isAgg36 rfl rfl) (vb (q_len_slice rfl Tryz.underlying36 rfl) (vb (q_gtr rfl rfl rfl) (mv (v := .bool (decide (0 < ((m.vec.length : Nat) : Int)))) (vg1 rfl rfl rfl rfl rfl (fun hg40 => QV.qo (q_fl 11 fld_40_9 rfl rfl rfl)) ?_)))))))
  refine vg1 rfl rfl rfl rfl rfl (fun hg41 => QV.qo (q_ldl (i := 0) (v := .slice Am11 m.vec.length cm11) rfl rfl Tryz.isAgg36 (gu hg41 rfl) rfl)) ?_
  obtain ⟨z43, hz44, h⟩ := bnd h
  refine vg1 rfl rfl rfl rfl rfl (fun hg42 => (q_call (call_run Tryz.call47 rfl rfl (args1 (gu hg42 rfl))) (fun w hw => t_firthref04_Right (Γ := Gh.all w) (hm.2.2.2.2.2.2.2.2.2.2.2.1.2.mono hw.sat.le_all) hm.2.2.2.2.2.2.2.2.2.2.2.1.1 (Sat.all w) (gc_of hz44 hg42)))) (vg1 rfl rfl rfl rfl rfl (fun hg45 => QV.qo (q_not rfl (gu hg45 rfl))) (vb (q_pick rfl rfl (pk_and' (g := (decide (0 < ((m.vec.length : Nat) : Int)))) (y := (!z43)))) (mv (v := .bool ((decide (0 < ((m.vec.length : Nat) : Int))) && (!z43))) (vg0 rfl rfl rfl rfl rfl (fun hg46 => QV.qo (q_fl 12 fld_40_10 rfl rfl rfl)) (vg0 rfl rfl rfl rfl rfl (fun hg47 => QV.qo (q_ldl (i := 0) (v := .slice Am12 m.path.length cm12) rfl rfl Tryz.isAgg37 (gu hg47 rfl) rfl)) (vg0 rfl rfl rfl rfl rfl (fun hg48 => QV.qo (q_len_slice rfl Tryz.underlying37 (gu hg48 rfl))) (vg0 rfl rfl rfl rfl rfl (fun hg49 => QV.qo (q_gtr rfl (gu hg49 rfl) rfl)) ?_)))))))
  refine vb (q_pick rfl rfl (pk_or' (g := ((decide (0 < ((m.vec.length : Nat) : Int))) && (!z43))) (y := (decide (2 < ((m.path.length : Nat) : Int)))))) (mv (v := .bool (((decide (0 < ((m.vec.length : Nat) : Int))) && (!z43)) || (decide (2 < ((m.path.length : Nat) : Int))))) (vg0 rfl rfl rfl rfl rfl (fun hg50 => QV.qo (q_fl 13 fld_40_11 rfl rfl rfl)) (vg0 rfl rfl rfl rfl rfl (fun hg51 => QV.qo (q_ldl (i := 0) (v := .slice Am13 m.hashes.length cm13) rfl rfl Tryz.isAgg38 (gu hg51 rfl) rfl)) (vg0 rfl rfl rfl rfl rfl (fun hg52 => QV.qo (q_len_slice rfl Tryz.underlying38 (gu hg52 rfl))) (vg0 rfl rfl rfl rfl rfl (fun hg53 => QV.qo (q_gtr rfl (gu hg53 rfl) rfl)) (vb (q_pick rfl rfl (pk_or' (g := (((decide (0 < ((m.vec.length : Nat) : Int))) && (!z43)) || (decide (2 < ((m.path.length : Nat) : Int))))) (y := (decide (16 < ((m.hashes.length : Nat) : Int)))))) (mv (v := .bool ((((decide (0 < ((m.vec.length : Nat) : Int))) && (!z43)) || (decide (2 < ((m.path.length : Nat) : Int)))) || (decide (16 < ((m.hashes.length : Nat) : Int))))) ?_)))))))
  refine vg0 rfl rfl rfl rfl rfl (fun hg54 => QV.qo (q_fl 14 fld_40_12 rfl rfl rfl)) (vg0 rfl rfl rfl rfl rfl (fun hg55 => QV.qo (q_ldl (i := 0) (v := .slice Am14 m.route.length cm14) rfl rfl Tryz.isAgg37 (gu hg55 rfl) rfl)) (vg0 rfl rfl rfl rfl rfl (fun hg56 => QV.qo (q_len_slice rfl Tryz.underlying37 (gu hg56 rfl))) (vg0 rfl rfl rfl rfl rfl (fun hg57 => QV.qo (q_gtr rfl (gu hg57 rfl) rfl)) (vb (q_pick rfl rfl (pk_or' (g := ((((decide (0 < ((m.vec.length : Nat) : Int))) && (!z43)) || (decide (2 < ((m.path.length : Nat) : Int)))) || (decide (16 < ((m.hashes.length : Nat) : Int))))) (y := (decide (16 < ((m.route.length : Nat) : Int)))))) ?_))))
  refine WR.done ?_
  refine WC.cif h (by kernel_rfl) (fun hb58 h => ?_) (fun hb58 h => ?_)
  ·
   refine WC.rs (as_ (v := .bool false) ?_)
   refine WR.done ?_
   refine WC.ret ?_
   intro w hw
   obtain rfl := Option.some.inj h
   subst hF
   exact ⟨by kernel_rfl, hw.fr⟩
  ·
   refine WC.skip ?_
   change WC _ _ _ _ _ _
   refine WC.seq (WC.rs (as_ (v := .int .i64 0) ?_))
   refine WR.done ?_
   refine WC.block ?_
   refine WC.forI h (fun (i60 : Nat) (s : Unit) σ w => match s with | () => slots σ [(1, (pq g1)), (3, .int .i64 ((i60 : Nat) : Int))] ∧ CC F Γ [[(g1, .cells #[.int .i64 m.kind, .int .i64 m.from_.site, .int .i64 m.from_.node, .int .i64 m.to_.site, .int .i64 m.to_.node, .int .i64 m.id, .int .i64 m.n, .int .i64 m.for_, .int .i64 m.code, .string m.key, .slice Am10 m.recs.length cm10, .slice Am11 m.vec.length cm11, .slice Am12 m.path.length cm12, .slice Am13 m.hashes.length cm13, .slice Am14 m.route.length cm14] 40 (0, 0))]] w ∧ True) ?_ ?_
   ·
    intro w hw
    exact ⟨(sl_ (by kernel_rfl)), hw, trivial⟩
   rintro f59 i60 ⟨⟩ σ w hi61 hlt62 hge63 ⟨hsl, hw, -⟩
   refine Wpt.slots hsl ?_
   refine WC.here (C := CC F Γ [[(g1, .cells #[.int .i64 m.kind, .int .i64 m.from_.site, .int .i64 m.from_.node, .int .i64 m.to_.site, .int .i64 m.to_.node, .int .i64 m.id, .int .i64 m.n, .int .i64 m.for_, .int .i64 m.code, .string m.key, .slice Am10 m.recs.length cm10, .slice Am11 m.vec.length cm11, .slice Am12 m.path.length cm12, .slice Am13 m.hashes.length cm13, .slice Am14 m.route.length cm14] 40 (0, 0))]]) ?_ hw
   clear hw hsl
   refine WC.seq (WC.rs (mv (v := .int .i64 ((i60 : Nat) : Int)) (vb (q_fl 10 fld_40_8 rfl rfl rfl) (vb (q_ldl (i := 0) (v := .slice Am10 m.recs.length cm10) rfl rfl Tryz.isAgg22 rfl rfl) (vb (q_len_slice rfl Tryz.underlying22 rfl) (vb (q_lss rfl rfl rfl) ?_))))))
   refine WR.done ?_
   refine WC.cond (b := (decide (((i60 : Nat) : Int) < ((m.recs.length : Nat) : Int)))) (by kernel_rfl) (fun hb64 => ?_) (fun hb64 => ?_)
   ·
    have hl65 := ilt hb64
    have h := hlt62 hl65
    refine WC.skip ?_
    change WC _ _ _ _ _ _
    refine WC.seq (WC.block (WC.rs (vb (q_fl 10 fld_40_8 rfl rfl rfl) (vb (q_ldl (i := 0) (v := .slice Am10 m.recs.length cm10) rfl rfl Tryz.isAgg22 rfl rfl) (mv (v := .int .i64 ((i60 : Nat) : Int)) (vb (q_ixn (i := i60) Tryz.underlying22 Tryz.sizeOf45 rfl rfl rfl hl65 (hm.2.2.2.2.2.2.2.2.2.2.1.2.some_ hl65)) ?_))))))
    obtain ⟨A66, c67, hx68⟩ := hm.2.2.2.2.2.2.2.2.2.2.1.2.recT_at i60
    refine vb (q_lda (c := 0) (vs := [.string (gt m.recs i60).key, .slice A66 ((gt m.recs i60).vers).length c67]) (hx68 hl65).2 rfl Tryz.isAgg45 Tryz.sizeOf45 rfl rfl rfl) ?_
    obtain ⟨z69, hz70, h⟩ := bnd h
    refine vc rfl rfl rfl (q_call (call_run Tryz.call28 rfl rfl (by kernel_rfl)) (fun w hw => t_firthref06_RightRec (Γ := Gh.all w) (gt m.recs i60) (Rec.fits_mono (hx68 hl65).1 hw.sat.le_all) (Sat.all w) hz70)) (vb (q_not rfl rfl) ?_)
    refine WR.done ?_
    refine WC.cif h (by kernel_rfl) (fun hb71 h => ?_) (fun hb71 h => ?_)
    ·
     refine WC.rs (as_ (v := .bool false) ?_)
     refine WR.done ?_
     refine WC.ret ?_
     intro w hw
     obtain rfl := Option.some.inj h
     subst hF
     exact ⟨by kernel_rfl, hw.fr⟩
    ·
     refine WC.skip ?_
     change WC _ _ _ _ _ _
     refine WC.region ?_
     refine mv (v := .int .i64 ((i60 : Nat) : Int)) (vb (q_add_r (r := ((i60 + 1 : Nat) : Int)) rfl rfl rfl (ctr_len hl65 hm.2.2.2.2.2.2.2.2.2.2.1.2.le)) (as_ (v := .int .i64 ((i60 + 1 : Nat) : Int)) ?_))
     refine WR.nil ?_
     intro w hw
     exact ⟨hl65, (), h, (sl_ (by kernel_rfl)), hw, trivial⟩
   ·
    have h := hge63 (ige hb64)
    refine WC.exit ?_
    change WC _ _ _ _ _ _
    refine WC.seq (WC.rs (as_ (v := .int .i64 0) ?_))
    refine WR.done ?_
    refine WC.block ?_
    refine WC.forI h (fun (i73 : Nat) (s : Unit) σ w => match s with | () => slots σ [(1, (pq g1)), (4, .int .i64 ((i73 : Nat) : Int))] ∧ CC F Γ [[(g1, .cells #[.int .i64 m.kind, .int .i64 m.from_.site, .int .i64 m.from_.node, .int .i64 m.to_.site, .int .i64 m.to_.node, .int .i64 m.id, .int .i64 m.n, .int .i64 m.for_, .int .i64 m.code, .string m.key, .slice Am10 m.recs.length cm10, .slice Am11 m.vec.length cm11, .slice Am12 m.path.length cm12, .slice Am13 m.hashes.length cm13, .slice Am14 m.route.length cm14] 40 (0, 0))]] w ∧ True) ?_ ?_
    ·
     intro w hw
     exact ⟨(sl_ (by kernel_rfl)), hw, trivial⟩
    rintro f72 i73 ⟨⟩ σ w hi74 hlt75 hge76 ⟨hsl, hw, -⟩
    refine Wpt.slots hsl ?_
    refine WC.here (C := CC F Γ [[(g1, .cells #[.int .i64 m.kind, .int .i64 m.from_.site, .int .i64 m.from_.node, .int .i64 m.to_.site, .int .i64 m.to_.node, .int .i64 m.id, .int .i64 m.n, .int .i64 m.for_, .int .i64 m.code, .string m.key, .slice Am10 m.recs.length cm10, .slice Am11 m.vec.length cm11, .slice Am12 m.path.length cm12, .slice Am13 m.hashes.length cm13, .slice Am14 m.route.length cm14] 40 (0, 0))]]) ?_ hw
    clear hw hsl
    refine WC.seq (WC.rs (mv (v := .int .i64 ((i73 : Nat) : Int)) (vb (q_fl 12 fld_40_10 rfl rfl rfl) (vb (q_ldl (i := 0) (v := .slice Am12 m.path.length cm12) rfl rfl Tryz.isAgg37 rfl rfl) (vb (q_len_slice rfl Tryz.underlying37 rfl) (vb (q_lss rfl rfl rfl) ?_))))))
    refine WR.done ?_
    refine WC.cond (b := (decide (((i73 : Nat) : Int) < ((m.path.length : Nat) : Int)))) (by kernel_rfl) (fun hb77 => ?_) (fun hb77 => ?_)
    ·
     have hl78 := ilt hb77
     have h := hlt75 hl78
     refine WC.skip ?_
     change WC _ _ _ _ _ _
     refine WC.seq (WC.block (WC.rs (vb (q_fl 12 fld_40_10 rfl rfl rfl) (vb (q_ldl (i := 0) (v := .slice Am12 m.path.length cm12) rfl rfl Tryz.isAgg37 rfl rfl) (mv (v := .int .i64 ((i73 : Nat) : Int)) (vb (q_ixn (i := i73) Tryz.underlying37 Tryz.sizeOf3 rfl rfl rfl hl78 (hm.2.2.2.2.2.2.2.2.2.2.2.2.1.2.some_ hl78)) (vb (q_ld (c := 0) (v := .int .i64 (gt m.path i73)) (hm.2.2.2.2.2.2.2.2.2.2.2.2.1.2.intT_at hl78).2 rfl Tryz.isAgg3 rfl rfl) ?_)))))))
     refine vb (q_lss rfl rfl rfl) (mv (v := .bool (decide ((gt m.path i73) < 0))) (vg0 rfl rfl rfl rfl rfl (fun hg79 => QV.qo (q_fl 12 fld_40_10 rfl rfl rfl)) (vg0 rfl rfl rfl rfl rfl (fun hg80 => QV.qo (q_ldl (i := 0) (v := .slice Am12 m.path.length cm12) rfl rfl Tryz.isAgg37 (gu hg80 rfl) rfl)) (vg0 rfl rfl rfl rfl rfl (fun hg81 => QV.qo (q_move (v := .int .i64 ((i73 : Nat) : Int)) rfl (by kernel_rfl))) (vg0 rfl rfl rfl rfl rfl (fun hg82 => QV.qo (q_ixn (i := i73) Tryz.underlying37 Tryz.sizeOf3 rfl (gu hg82 rfl) (gu hg82 rfl) hl78 (hm.2.2.2.2.2.2.2.2.2.2.2.2.1.2.some_ hl78))) (vg0 rfl rfl rfl rfl rfl (fun hg83 => QV.qo (q_ld (c := 0) (v := .int .i64 (gt m.path i73)) (hm.2.2.2.2.2.2.2.2.2.2.2.2.1.2.intT_at hl78).2 rfl Tryz.isAgg3 (gu hg83 rfl) rfl)) (vg0 rfl rfl rfl rfl rfl (fun hg84 => QV.qo (q_gtr rfl (gu hg84 rfl) rfl)) ?_)))))))
     refine vb (q_pick rfl rfl (pk_or' (g := (decide ((gt m.path i73) < 0))) (y := (decide (15 < (gt m.path i73)))))) ?_
     refine WR.done ?_
     refine WC.cif h (by kernel_rfl) (fun hb85 h => ?_) (fun hb85 h => ?_)
     ·
      refine WC.rs (as_ (v := .bool false) ?_)
      refine WR.done ?_
      refine WC.ret ?_
      intro w hw
      obtain rfl := Option.some.inj h
      subst hF
      exact ⟨by kernel_rfl, hw.fr⟩
     ·
      refine WC.skip ?_
      change WC _ _ _ _ _ _
      refine WC.region ?_
      refine mv (v := .int .i64 ((i73 : Nat) : Int)) (vb (q_add_r (r := ((i73 + 1 : Nat) : Int)) rfl rfl rfl (ctr_len hl78 hm.2.2.2.2.2.2.2.2.2.2.2.2.1.2.le)) (as_ (v := .int .i64 ((i73 + 1 : Nat) : Int)) ?_))
      refine WR.nil ?_
      intro w hw
      exact ⟨hl78, (), h, (sl_ (by kernel_rfl)), hw, trivial⟩
    ·
     have h := hge76 (ige hb77)
     refine WC.exit ?_
     change WC _ _ _ _ _ _
     refine WC.seq (WC.rs (as_ (v := .int .i64 0) ?_))
     refine WR.done ?_
     refine WC.block ?_
     refine WC.forI h (fun (i87 : Nat) (s : Unit) σ w => match s with | () => slots σ [(1, (pq g1)), (5, .int .i64 ((i87 : Nat) : Int))] ∧ CC F Γ [[(g1, .cells #[.int .i64 m.kind, .int .i64 m.from_.site, .int .i64 m.from_.node, .int .i64 m.to_.site, .int .i64 m.to_.node, .int .i64 m.id, .int .i64 m.n, .int .i64 m.for_, .int .i64 m.code, .string m.key, .slice Am10 m.recs.length cm10, .slice Am11 m.vec.length cm11, .slice Am12 m.path.length cm12, .slice Am13 m.hashes.length cm13, .slice Am14 m.route.length cm14] 40 (0, 0))]] w ∧ True) ?_ ?_
     ·
      intro w hw
      exact ⟨(sl_ (by kernel_rfl)), hw, trivial⟩
     rintro f86 i87 ⟨⟩ σ w hi88 hlt89 hge90 ⟨hsl, hw, -⟩
     refine Wpt.slots hsl ?_
     refine WC.here (C := CC F Γ [[(g1, .cells #[.int .i64 m.kind, .int .i64 m.from_.site, .int .i64 m.from_.node, .int .i64 m.to_.site, .int .i64 m.to_.node, .int .i64 m.id, .int .i64 m.n, .int .i64 m.for_, .int .i64 m.code, .string m.key, .slice Am10 m.recs.length cm10, .slice Am11 m.vec.length cm11, .slice Am12 m.path.length cm12, .slice Am13 m.hashes.length cm13, .slice Am14 m.route.length cm14] 40 (0, 0))]]) ?_ hw
     clear hw hsl
     refine WC.seq (WC.rs (mv (v := .int .i64 ((i87 : Nat) : Int)) (vb (q_fl 14 fld_40_12 rfl rfl rfl) (vb (q_ldl (i := 0) (v := .slice Am14 m.route.length cm14) rfl rfl Tryz.isAgg37 rfl rfl) (vb (q_len_slice rfl Tryz.underlying37 rfl) (vb (q_lss rfl rfl rfl) ?_))))))
     refine WR.done ?_
     refine WC.cond (b := (decide (((i87 : Nat) : Int) < ((m.route.length : Nat) : Int)))) (by kernel_rfl) (fun hb91 => ?_) (fun hb91 => ?_)
     ·
      have hl92 := ilt hb91
      have h := hlt89 hl92
      refine WC.skip ?_
      change WC _ _ _ _ _ _
      refine WC.seq (WC.block (WC.rs (vb (q_fl 14 fld_40_12 rfl rfl rfl) (vb (q_ldl (i := 0) (v := .slice Am14 m.route.length cm14) rfl rfl Tryz.isAgg37 rfl rfl) (mv (v := .int .i64 ((i87 : Nat) : Int)) (vb (q_ixn (i := i87) Tryz.underlying37 Tryz.sizeOf3 rfl rfl rfl hl92 (hm.2.2.2.2.2.2.2.2.2.2.2.2.2.2.2.some_ hl92)) (vb (q_ld (c := 0) (v := .int .i64 (gt m.route i87)) (hm.2.2.2.2.2.2.2.2.2.2.2.2.2.2.2.intT_at hl92).2 rfl Tryz.isAgg3 rfl rfl) ?_)))))))
      refine vb (q_lss rfl rfl rfl) (mv (v := .bool (decide ((gt m.route i87) < 1))) (vg0 rfl rfl rfl rfl rfl (fun hg93 => QV.qo (q_fl 14 fld_40_12 rfl rfl rfl)) (vg0 rfl rfl rfl rfl rfl (fun hg94 => QV.qo (q_ldl (i := 0) (v := .slice Am14 m.route.length cm14) rfl rfl Tryz.isAgg37 (gu hg94 rfl) rfl)) (vg0 rfl rfl rfl rfl rfl (fun hg95 => QV.qo (q_move (v := .int .i64 ((i87 : Nat) : Int)) rfl (by kernel_rfl))) (vg0 rfl rfl rfl rfl rfl (fun hg96 => QV.qo (q_ixn (i := i87) Tryz.underlying37 Tryz.sizeOf3 rfl (gu hg96 rfl) (gu hg96 rfl) hl92 (hm.2.2.2.2.2.2.2.2.2.2.2.2.2.2.2.some_ hl92))) (vg0 rfl rfl rfl rfl rfl (fun hg97 => QV.qo (q_ld (c := 0) (v := .int .i64 (gt m.route i87)) (hm.2.2.2.2.2.2.2.2.2.2.2.2.2.2.2.intT_at hl92).2 rfl Tryz.isAgg3 (gu hg97 rfl) rfl)) (vg0 rfl rfl rfl rfl rfl (fun hg98 => QV.qo (q_gtr rfl (gu hg98 rfl) rfl)) ?_)))))))
      refine vb (q_pick rfl rfl (pk_or' (g := (decide ((gt m.route i87) < 1))) (y := (decide (16 < (gt m.route i87)))))) ?_
      refine WR.done ?_
      refine WC.cif h (by kernel_rfl) (fun hb99 h => ?_) (fun hb99 h => ?_)
      ·
       refine WC.rs (as_ (v := .bool false) ?_)
       refine WR.done ?_
       refine WC.ret ?_
       intro w hw
       obtain rfl := Option.some.inj h
       subst hF
       exact ⟨by kernel_rfl, hw.fr⟩
      ·
       refine WC.skip ?_
       change WC _ _ _ _ _ _
       refine WC.region ?_
       refine mv (v := .int .i64 ((i87 : Nat) : Int)) (vb (q_add_r (r := ((i87 + 1 : Nat) : Int)) rfl rfl rfl (ctr_len hl92 hm.2.2.2.2.2.2.2.2.2.2.2.2.2.2.2.le)) (as_ (v := .int .i64 ((i87 + 1 : Nat) : Int)) ?_))
       refine WR.nil ?_
       intro w hw
       exact ⟨hl92, (), h, (sl_ (by kernel_rfl)), hw, trivial⟩
     ·
      have h := hge90 (ige hb91)
      refine WC.exit ?_
      change WC _ _ _ _ _ _
      refine WC.rs (as_ (v := .bool true) ?_)
      refine WR.done ?_
      refine WC.ret ?_
      intro w hw
      obtain rfl := Option.some.inj h
      subst hF
      exact ⟨by kernel_rfl, hw.fr⟩
theorem t_firthlaw15_NodeStrange {Γ : Gh} {w0 : World} {Alist : Option Addr} {clist : Nat} {list : List Rec} (hlist : Sl recT Γ Alist list) (hlistc : list.length ≤ clist) {Am10 : Option Addr} {cm10 : Nat} {Am11 : Option Addr} {cm11 : Nat} {Am12 : Option Addr} {cm12 : Nat} {Am13 : Option Addr} {cm13 : Nat} {Am14 : Option Addr} {cm14 : Nat} (m : Dapi_Msg) (hm : Dapi_Msg.fits Γ Am10 cm10 Am11 cm11 Am12 cm12 Am13 cm13 Am14 cm14 m) (hs : Sat Γ w0) {r : Bool} (h : m_firthlaw15_NodeStrange list m = some r) : Calls Tryz.prog 4 #[.slice Alist list.length clist, .agg #[.int .i64 m.kind, .int .i64 m.from_.site, .int .i64 m.from_.node, .int .i64 m.to_.site, .int .i64 m.to_.node, .int .i64 m.id, .int .i64 m.n, .int .i64 m.for_, .int .i64 m.code, .string m.key, .slice Am10 m.recs.length cm10, .slice Am11 m.vec.length cm11, .slice Am12 m.path.length cm12, .slice Am13 m.hashes.length cm13, .slice Am14 m.route.length cm14]] w0 (fun e w' => e = .returned (.bool r) ∧ Fr no w0 w') := by
 refine calls_of (N := 61) (rs := [4]) (args := [.slice Alist list.length clist, .agg #[.int .i64 m.kind, .int .i64 m.from_.site, .int .i64 m.from_.node, .int .i64 m.to_.site, .int .i64 m.to_.node, .int .i64 m.id, .int .i64 m.n, .int .i64 m.for_, .int .i64 m.code, .string m.key, .slice Am10 m.recs.length cm10, .slice Am11 m.vec.length cm11, .slice Am12 m.path.length cm12, .slice Am13 m.hashes.length cm13, .slice Am14 m.route.length cm14]]) Tryz.func4 rfl Tryz.ntmps4 Tryz.results4 rfl ?_
 obtain ⟨F, hF⟩ : ∃ F : Fm, F = ⟨no, w0, Γ⟩ := ⟨_, rfl⟩
 refine WC.here (C := CC F Γ []) ?_ (hF ▸ Cur.start0 hs)
 refine WC.rs ?_
 refine e_box (v := .agg #[.int .i64 m.kind, .int .i64 m.from_.site, .int .i64 m.from_.node, .int .i64 m.to_.site, .int .i64 m.to_.node, .int .i64 m.id, .int .i64 m.n, .int .i64 m.for_, .int .i64 m.code, .string m.key, .slice Am10 m.recs.length cm10, .slice Am11 m.vec.length cm11, .slice Am12 m.path.length cm12, .slice Am13 m.hashes.length cm13, .slice Am14 m.route.length cm14]) rfl rfl rfl rfl (by kernel_rfl) ?_
 intro g1
 refine as_ (v := .bool false) ?_
 refine WR.done ?_
 refine WC.seq (WC.rs ?_)
 obtain ⟨z2, hz3, h⟩ := bnd h
 refine vc rfl rfl rfl (q_call (call_run Tryz.call7 rfl rfl (by kernel_rfl)) (fun w hw => t_firthlaw15_awake (Γ := Gh.all w)  (Sat.all w) hz3)) (vb (q_not rfl rfl) ?_)
 refine WR.done ?_
 refine WC.cif h (by kernel_rfl) (fun hb4 h => ?_) (fun hb4 h => ?_)
 ·
  refine WC.rs (as_ (v := .bool false) ?_)
  refine WR.done ?_
  refine WC.ret ?_
  intro w hw
  obtain rfl := Option.some.inj h
  subst hF
  exact ⟨by kernel_rfl, hw.fr⟩
 ·
  refine WC.skip ?_
  change WC _ _ _ _ _ _
  refine WC.rs ?_
  obtain ⟨z5, hz6, h⟩ := bnd h
  refine e_call (is := []) rfl rfl (call_run Tryz.call9 rfl rfl (by kernel_rfl)) rfl (fun w hp => t_disk_New 16777216 (show I64 16777216 by decide) hp hz6) ?_
  rintro Γ7 U9 v10 hl8 ⟨g11, row12, rfl, rfl, hr13, _⟩
  change WR _ _ _ (CC F Γ7 [row12, [(g1, .cells #[.int .i64 m.kind, .int .i64 m.from_.site, .int .i64 m.from_.node, .int .i64 m.to_.site, .int .i64 m.to_.node, .int .i64 m.id, .int .i64 m.n, .int .i64 m.for_, .int .i64 m.code, .string m.key, .slice Am10 m.recs.length cm10, .slice Am11 m.vec.length cm11, .slice Am12 m.path.length cm12, .slice Am13 m.hashes.length cm13, .slice Am14 m.route.length cm14] 40 (0, 0))]]) _ _ (upd _ 11 ((pq g11)))
  obtain ⟨z14, hz15, h⟩ := bnd h
  refine vc rfl rfl rfl (q_call (call_run Tryz.call11 rfl rfl (by kernel_rfl)) (fun w hw => t_firthlaw15_at (Γ := Gh.all w) 1 (show I64 1 by decide) (Sat.all w) hz15)) ?_
  obtain ⟨hk16, h⟩ := chk_some h
  obtain ⟨hk17, h⟩ := chk_some h
  obtain ⟨z18, hz19, h⟩ := bnd h
  refine e_call (is := [0]) rfl rfl (call_run Tryz.call10 rfl rfl (by kernel_rfl)) rfl (fun w hp => t_node_Open hr13 z14 ⟨(i64b_of hk16), (i64b_of hk17)⟩ 500 (show I64 500 by decide) 3 (show I64 3 by decide) hp hz19) ?_
  rintro Γ20 U22 v23 hl21 ⟨row24, g26, row27, rfl, rfl, hr25, hr28, hr29, _⟩
  change WR _ _ _ (CC F Γ20 [row24, row27, [(g1, .cells #[.int .i64 m.kind, .int .i64 m.from_.site, .int .i64 m.from_.node, .int .i64 m.to_.site, .int .i64 m.to_.node, .int .i64 m.id, .int .i64 m.n, .int .i64 m.for_, .int .i64 m.code, .string m.key, .slice Am10 m.recs.length cm10, .slice Am11 m.vec.length cm11, .slice Am12 m.path.length cm12, .slice Am13 m.hashes.length cm13, .slice Am14 m.route.length cm14] 40 (0, 0))]]) _ _ (upd _ 13 (.tuple #[optp z18.2.1 g26, .int .i64 z18.2.2]))
  refine mv (v := .tuple #[optp z18.2.1 g26, .int .i64 z18.2.2]) (vb (q_extract (v := optp z18.2.1 g26) rfl rfl rfl) (vb (q_extract (v := .int .i64 z18.2.2) rfl rfl rfl) (as_ (v := optp z18.2.1 g26) (as_ (v := .int .i64 z18.2.2) ?_))))
  refine WR.done ?_
  refine WC.seq (WC.rs (mv (v := optp z18.2.1 g26) (vb (q_opt_eql Tryz.underlying27 rfl rfl rfl) (mv (v := .bool (Option.isNone z18.2.1)) (vg0 rfl rfl rfl rfl rfl (fun hg30 => QV.qo (q_move (v := .int .i64 z18.2.2) rfl (by kernel_rfl))) (vg0 rfl rfl rfl rfl rfl (fun hg31 => QV.qo (q_neq rfl (gu hg31 rfl) rfl)) (vb (q_pick rfl rfl (pk_or' (g := (Option.isNone z18.2.1)) (y := (z18.2.2 != 0)))) ?_)))))))
  refine WR.done ?_
  refine WC.cif h (by kernel_rfl) (fun hb32 h => ?_) (fun hb32 h => ?_)
  ·
   refine WC.rs (as_ (v := .bool false) ?_)
   refine WR.done ?_
   refine WC.ret ?_
   intro w hw
   obtain rfl := Option.some.inj h
   subst hF
   exact ⟨by kernel_rfl, hw.fr⟩
  ·
   obtain ⟨z33, hz34, h⟩ := bnd h
   have ho35 := optob_some hr28 hz34
   refine WC.skip ?_
   change WC _ _ _ _ _ _
   refine WC.rs (vb (q_move (v := (pq g26)) rfl (optp_some rfl hz34)) (mv (v := .slice Alist list.length clist) ?_))
   obtain ⟨z36, hz37, h⟩ := bnd h
   refine e_call (is := []) rfl rfl (call_run Tryz.call14 rfl rfl (by kernel_rfl)) rfl (fun w hp => t_firthlaw15_put 1 (show I64 1 by decide) (hlist.mono (hl8.trans hl21)) hlistc hp hz37) ?_
   rintro Γ38 U40 v41 hl39 ⟨A42, c43, A44, c45, A46, c47, A48, c49, A50, c51, rfl, rfl, hr52, _⟩
   change WR _ _ _ (CC F Γ38 [row24, row27, [(g1, .cells #[.int .i64 m.kind, .int .i64 m.from_.site, .int .i64 m.from_.node, .int .i64 m.to_.site, .int .i64 m.to_.node, .int .i64 m.id, .int .i64 m.n, .int .i64 m.for_, .int .i64 m.code, .string m.key, .slice Am10 m.recs.length cm10, .slice Am11 m.vec.length cm11, .slice Am12 m.path.length cm12, .slice Am13 m.hashes.length cm13, .slice Am14 m.route.length cm14] 40 (0, 0))]]) _ _ (upd _ 24 (.agg #[.int .i64 z36.kind, .int .i64 z36.from_.site, .int .i64 z36.from_.node, .int .i64 z36.to_.site, .int .i64 z36.to_.node, .int .i64 z36.id, .int .i64 z36.n, .int .i64 z36.for_, .int .i64 z36.code, .string z36.key, .slice A42 z36.recs.length c43, .slice A44 z36.vec.length c45, .slice A46 z36.path.length c47, .slice A48 z36.hashes.length c49, .slice A50 z36.route.length c51]))
   obtain ⟨z53, hz54, h⟩ := bnd h
   refine e_call (is := [1, 0]) rfl rfl (call_run Tryz.call13 rfl rfl (by kernel_rfl)) rfl (fun w hp => t_node_Node_Handle (ho35.mono hl39) z36 hr52 (hr25.mono hl39) hp hz54) ?_
   rintro Γ55 U57 v58 hl56 ⟨row59, row61, A63, c64, row65, rfl, rfl, hr60, hr62, hr66, _⟩
   change WR _ _ _ (CC F Γ55 [row59, row61, row65, [(g1, .cells #[.int .i64 m.kind, .int .i64 m.from_.site, .int .i64 m.from_.node, .int .i64 m.to_.site, .int .i64 m.to_.node, .int .i64 m.id, .int .i64 m.n, .int .i64 m.for_, .int .i64 m.code, .string m.key, .slice Am10 m.recs.length cm10, .slice Am11 m.vec.length cm11, .slice Am12 m.path.length cm12, .slice Am13 m.hashes.length cm13, .slice Am14 m.route.length cm14] 40 (0, 0))]]) _ _ (upd _ 25 (.slice A63 z53.2.2.length c64))
   refine WR.done ?_
   refine WC.cut (fun σ w => ∃ (x67 : Dapi_Msg), ∃ (A69 : Option Addr), ∃ (c70 : Nat), ∃ (A71 : Option Addr), ∃ (c72 : Nat), ∃ (A73 : Option Addr), ∃ (c74 : Nat), ∃ (A75 : Option Addr), ∃ (c76 : Nat), ∃ (A77 : Option Addr), ∃ (c78 : Nat), m_firthlaw15_NodeStrange_j1 z53 x67 = some r ∧ slots σ [(3, (pq g1)), (5, optp z18.2.1 g26)] ∧ CC F Γ55 [row59, row61, [(g1, .cells #[.int .i64 x67.kind, .int .i64 x67.from_.site, .int .i64 x67.from_.node, .int .i64 x67.to_.site, .int .i64 x67.to_.node, .int .i64 x67.id, .int .i64 x67.n, .int .i64 x67.for_, .int .i64 x67.code, .string x67.key, .slice A69 x67.recs.length c70, .slice A71 x67.vec.length c72, .slice A73 x67.path.length c74, .slice A75 x67.hashes.length c76, .slice A77 x67.route.length c78] 40 (0, 0))]] w ∧ Dapi_Msg.fits Γ55 A69 c70 A71 c72 A73 c74 A75 c76 A77 c78 x67 ∧ True) ?_ ?_
   ·
    refine WC.seq ?_
    refine WC.dr (by kernel_rfl) (by kernel_rfl) (fun w hw => hw.drawn _) ?_
    refine wa rfl rfl rfl (q_ldla (i := 3) (vs := [.int .i64 m.kind, .int .i64 m.from_.site, .int .i64 m.from_.node, .int .i64 m.to_.site, .int .i64 m.to_.node, .int .i64 m.id, .int .i64 m.n, .int .i64 m.for_, .int .i64 m.code, .string m.key, .slice Am10 m.recs.length cm10, .slice Am11 m.vec.length cm11, .slice Am12 m.path.length cm12, .slice Am13 m.hashes.length cm13, .slice Am14 m.route.length cm14]) rfl rfl Tryz.isAgg40 Tryz.sizeOf40 rfl rfl) ?_
    obtain ⟨z79, hz80, h⟩ := bnd h
    refine wc rfl rfl rfl (q_call (call_run Tryz.call20 rfl rfl (by kernel_rfl)) (fun w hw => t_firthref06_RightMsg (Γ := Gh.all w) m (Dapi_Msg.fits_mono (Dapi_Msg.fits_mono hm (((hl8.trans hl21).trans hl39).trans hl56)) hw.sat.le_all) (Sat.all w) hz80)) (wa rfl rfl rfl (q_move (v := .bool z79) rfl (by kernel_rfl)) (wg1 rfl rfl rfl rfl rfl (fun hg81 => QV.qo (q_fl 3 fld_40_2 rfl rfl rfl)) (wg1 rfl rfl rfl rfl rfl (fun hg82 => QV.qo (q_ldla (i := 3) (vs := [.int .i64 m.to_.site, .int .i64 m.to_.node]) rfl rfl Tryz.isAgg32 Tryz.sizeOf32 (gu hg82 rfl) rfl)) ?_)))
    obtain ⟨z84, hz85, h⟩ := bnd h
    refine wg1 rfl rfl rfl rfl rfl (fun hg83 => (q_call (call_run Tryz.call11 rfl rfl (by kernel_rfl)) (fun w hw => t_firthlaw15_at (Γ := Gh.all w) 1 (show I64 1 by decide) (Sat.all w) (gc_of hz85 hg83)))) (wg1 rfl rfl rfl rfl rfl (fun hg86 => QV.qo (q_eql_Adr (a := m.to_) (b := z84) rfl (gu hg86 rfl) (gu hg86 rfl))) (wa rfl rfl rfl (q_pick rfl rfl (pk_and' (g := z79) (y := (m.to_ == z84)))) (wa rfl rfl rfl (q_move (v := .bool (z79 && (m.to_ == z84))) rfl (by kernel_rfl)) (wg1 rfl rfl rfl rfl rfl (fun hg87 => QV.qo (q_fl 1 fld_40_1 rfl rfl rfl)) (wg1 rfl rfl rfl rfl rfl (fun hg88 => QV.qo (q_fl 1 fld_32_0 rfl (gu hg88 rfl) rfl)) (wg1 rfl rfl rfl rfl rfl (fun hg89 => QV.qo (q_ldl (i := 3) (v := .int .i64 m.from_.site) rfl rfl Tryz.isAgg3 (gu hg89 rfl) rfl)) (wg1 rfl rfl rfl rfl rfl (fun hg90 => QV.qo (q_eql rfl (gu hg90 rfl) rfl)) ?_)))))))
    refine wa rfl rfl rfl (q_pick rfl rfl (pk_and' (g := (z79 && (m.to_ == z84))) (y := (m.from_.site == 1)))) ?_
    refine WQ.nil ?_
    change WC _ _ _ _ _ _
    refine WC.cif h (by kernel_rfl) (fun hb91 h => ?_) (fun hb91 h => ?_)
    ·
     refine WC.region ?_
     refine vb (q_fl 1 fld_40_1 rfl rfl rfl) (vb (q_fl 1 fld_32_0 rfl rfl rfl) ?_)
     refine e_st (i := 3) (v := .int .i64 2) (new := #[.int .i64 m.kind, .int .i64 2, .int .i64 m.from_.node, .int .i64 m.to_.site, .int .i64 m.to_.node, .int .i64 m.id, .int .i64 m.n, .int .i64 m.for_, .int .i64 m.code, .string m.key, .slice Am10 m.recs.length cm10, .slice Am11 m.vec.length cm11, .slice Am12 m.path.length cm12, .slice Am13 m.hashes.length cm13, .slice Am14 m.route.length cm14]) rfl Tryz.sizeOf3 rfl rfl rfl rfl (by kernel_rfl) rfl rfl rfl rfl ?_
     refine WR.nil ?_
     intro w hw
     exact ⟨(⟨m.kind, (⟨2, m.from_.node⟩ : Adr), (⟨m.to_.site, m.to_.node⟩ : Adr), m.id, m.n, m.for_, m.code, m.key, m.recs, m.vec, m.path, m.hashes, m.route⟩ : Dapi_Msg), Am10, cm10, Am11, cm11, Am12, cm12, Am13, cm13, Am14, cm14, h, (sl_ (by kernel_rfl)), (hw.only (is := [0, 0, 1]) rfl), ⟨hm.1, (show I64 2 by decide), hm.2.2.1, hm.2.2.2.1, hm.2.2.2.2.1, hm.2.2.2.2.2.1, hm.2.2.2.2.2.2.1, hm.2.2.2.2.2.2.2.1, hm.2.2.2.2.2.2.2.2.1, hm.2.2.2.2.2.2.2.2.2.1, ⟨hm.2.2.2.2.2.2.2.2.2.2.1.1, (hm.2.2.2.2.2.2.2.2.2.2.1.2.mono (((hl8.trans hl21).trans hl39).trans hl56))⟩, ⟨hm.2.2.2.2.2.2.2.2.2.2.2.1.1, (hm.2.2.2.2.2.2.2.2.2.2.2.1.2.mono (((hl8.trans hl21).trans hl39).trans hl56))⟩, ⟨hm.2.2.2.2.2.2.2.2.2.2.2.2.1.1, (hm.2.2.2.2.2.2.2.2.2.2.2.2.1.2.mono (((hl8.trans hl21).trans hl39).trans hl56))⟩, ⟨hm.2.2.2.2.2.2.2.2.2.2.2.2.2.1.1, (hm.2.2.2.2.2.2.2.2.2.2.2.2.2.1.2.mono (((hl8.trans hl21).trans hl39).trans hl56))⟩, ⟨hm.2.2.2.2.2.2.2.2.2.2.2.2.2.2.1, (hm.2.2.2.2.2.2.2.2.2.2.2.2.2.2.2.mono (((hl8.trans hl21).trans hl39).trans hl56))⟩⟩, trivial⟩
    ·
     refine WC.skip ?_
     intro w hw
     exact ⟨m, Am10, cm10, Am11, cm11, Am12, cm12, Am13, cm13, Am14, cm14, h, (sl_ (by kernel_rfl)), (hw.only (is := [0, 0, 1]) rfl), (Dapi_Msg.fits_mono hm (((hl8.trans hl21).trans hl39).trans hl56)), trivial⟩
   ·
    rintro σ w ⟨x67, A69, c70, A71, c72, A73, c74, A75, c76, A77, c78, h, hsl, hw, hf68, -⟩
    refine Wpt.slots hsl ?_
    refine WC.here (C := CC F Γ55 [row59, row61, [(g1, .cells #[.int .i64 x67.kind, .int .i64 x67.from_.site, .int .i64 x67.from_.node, .int .i64 x67.to_.site, .int .i64 x67.to_.node, .int .i64 x67.id, .int .i64 x67.n, .int .i64 x67.for_, .int .i64 x67.code, .string x67.key, .slice A69 x67.recs.length c70, .slice A71 x67.vec.length c72, .slice A73 x67.path.length c74, .slice A75 x67.hashes.length c76, .slice A77 x67.route.length c78] 40 (0, 0))]]) ?_ hw
    clear hw hsl
    refine WC.rs (vb (q_move (v := (pq g26)) rfl (optp_some rfl hz34)) ?_)
    obtain ⟨z92, hz93, h⟩ := bnd h
    refine e_call (is := [0]) rfl rfl (call_run Tryz.call15 rfl rfl (by kernel_rfl)) rfl (fun w hp => t_node_Node_Recs hr60 (-1) (show I64 (-1) by decide) hp hz93) ?_
    rintro Γ94 U96 v97 hl95 ⟨A98, c99, row100, rfl, rfl, hr101, _⟩
    change WR _ _ _ (CC F Γ94 [row59, row100, row61, [(g1, .cells #[.int .i64 x67.kind, .int .i64 x67.from_.site, .int .i64 x67.from_.node, .int .i64 x67.to_.site, .int .i64 x67.to_.node, .int .i64 x67.id, .int .i64 x67.n, .int .i64 x67.for_, .int .i64 x67.code, .string x67.key, .slice A69 x67.recs.length c70, .slice A71 x67.vec.length c72, .slice A73 x67.path.length c74, .slice A75 x67.hashes.length c76, .slice A77 x67.route.length c78] 40 (0, 0))]]) _ _ (upd _ 43 (.slice A98 z92.length c99))
    refine as_ (v := .slice A98 z92.length c99) ?_
    refine WR.done ?_
    refine WC.rs (vb (q_move (v := (pq g26)) rfl (optp_some rfl hz34)) (vb (q_ldla (i := 3) (vs := [.int .i64 x67.kind, .int .i64 x67.from_.site, .int .i64 x67.from_.node, .int .i64 x67.to_.site, .int .i64 x67.to_.node, .int .i64 x67.id, .int .i64 x67.n, .int .i64 x67.for_, .int .i64 x67.code, .string x67.key, .slice A69 x67.recs.length c70, .slice A71 x67.vec.length c72, .slice A73 x67.path.length c74, .slice A75 x67.hashes.length c76, .slice A77 x67.route.length c78]) rfl rfl Tryz.isAgg40 Tryz.sizeOf40 rfl rfl) ?_))
    obtain ⟨z102, hz103, h⟩ := bnd h
    refine e_call (is := [0, 1]) rfl rfl (call_run Tryz.call13 rfl rfl (by kernel_rfl)) rfl (fun w hp => t_node_Node_Handle (hr60.mono hl95) x67 (Dapi_Msg.fits_mono hf68 hl95) (hr62.mono hl95) hp hz103) ?_
    rintro Γ104 U106 v107 hl105 ⟨row108, row110, A112, c113, row114, rfl, rfl, hr109, hr111, hr115, _⟩
    change WR _ _ _ (CC F Γ104 [row108, row110, row114, row100, [(g1, .cells #[.int .i64 x67.kind, .int .i64 x67.from_.site, .int .i64 x67.from_.node, .int .i64 x67.to_.site, .int .i64 x67.to_.node, .int .i64 x67.id, .int .i64 x67.n, .int .i64 x67.for_, .int .i64 x67.code, .string x67.key, .slice A69 x67.recs.length c70, .slice A71 x67.vec.length c72, .slice A73 x67.path.length c74, .slice A75 x67.hashes.length c76, .slice A77 x67.route.length c78] 40 (0, 0))]]) _ _ (upd _ 46 (.slice A112 z102.2.2.length c113))
    refine vb (q_len_slice rfl Tryz.underlying34 rfl) (vb (q_eql rfl rfl rfl) (mv (v := .bool (((z102.2.2.length : Nat) : Int) == 0)) (vg1 rfl rfl rfl rfl rfl (fun hg116 => QV.qo (q_move (v := (pq g26)) rfl (optp_some rfl hz34))) ?_)))
    refine (Bool.eq_false_or_eq_true (((z102.2.2.length : Nat) : Int) == 0)).elim (fun hb117 => ?_) (fun hb117 => ?_)
    ·
     have h := bt hb117 h
     refine WR.sat (c0 := true) (g := (((z102.2.2.length : Nat) : Int) == 0)) rfl rfl rfl hb117 ?_
     obtain ⟨z118, hz119, h⟩ := bnd h
     refine e_call (is := [0]) rfl rfl (call_run Tryz.call15 rfl rfl (args2 (gu hb117 rfl) rfl)) rfl (fun w hp => t_node_Node_Recs hr109 (-1) (show I64 (-1) by decide) hp hz119) ?_
     rintro Γ120 U122 v123 hl121 ⟨A124, c125, row126, rfl, rfl, hr127, _⟩
     change WR _ _ _ (CC F Γ120 [row108, row126, row110, row114, row100, [(g1, .cells #[.int .i64 x67.kind, .int .i64 x67.from_.site, .int .i64 x67.from_.node, .int .i64 x67.to_.site, .int .i64 x67.to_.node, .int .i64 x67.id, .int .i64 x67.n, .int .i64 x67.for_, .int .i64 x67.code, .string x67.key, .slice A69 x67.recs.length c70, .slice A71 x67.vec.length c72, .slice A73 x67.path.length c74, .slice A75 x67.hashes.length c76, .slice A77 x67.route.length c78] 40 (0, 0))]]) _ _ (upd _ 51 (.slice A124 z118.length c125))
     refine WR.sat (c0 := true) (g := (((z102.2.2.length : Nat) : Int) == 0)) rfl rfl rfl hb117 ?_
     refine mv (v := .slice A98 z92.length c99) ?_
     refine WR.sat (c0 := true) (g := (((z102.2.2.length : Nat) : Int) == 0)) rfl rfl rfl hb117 ?_
     obtain ⟨z128, hz129, h⟩ := bnd h
     refine vc rfl rfl rfl (q_call (call_run Tryz.call19 rfl rfl (by kernel_rfl)) (fun w hw => t_firthref06_SameRecs (Γ := Gh.all w) (hr127.sl hw.sat.le_all (hw.ra 1 rfl)) hr127.capz ((hr101.mono (hl105.trans hl121)).sl hw.sat.le_all (hw.ra 4 rfl)) (hr101.mono (hl105.trans hl121)).capz (Sat.all w) hz129)) (vb (q_pick_t (v := .bool z128) rfl rfl hb117 (by kernel_rfl)) (mv (v := .bool z128) (vg1 rfl rfl rfl rfl rfl (fun hg130 => QV.qo (q_move (v := (pq g26)) rfl (optp_some rfl hz34))) ?_)))
     refine (Bool.eq_false_or_eq_true z128).elim (fun hb131 => ?_) (fun hb131 => ?_)
     ·
      have h := bt hb131 h
      refine WR.sat (c0 := true) (g := z128) rfl rfl rfl hb131 ?_
      obtain ⟨z132, hz133, h⟩ := bnd h
      refine e_call (is := [0]) rfl rfl (call_run Tryz.call21 rfl rfl (args1 (gu hb131 rfl))) rfl (fun w hp => t_node_Node_Tick (hr109.mono hl121) hp hz133) ?_
      rintro Γ134 U136 v137 hl135 ⟨A138, c139, row140, rfl, rfl, hr141, _⟩
      change WR _ _ _ (CC F Γ134 [row108, row140, row126, row110, row114, row100, [(g1, .cells #[.int .i64 x67.kind, .int .i64 x67.from_.site, .int .i64 x67.from_.node, .int .i64 x67.to_.site, .int .i64 x67.to_.node, .int .i64 x67.id, .int .i64 x67.n, .int .i64 x67.for_, .int .i64 x67.code, .string x67.key, .slice A69 x67.recs.length c70, .slice A71 x67.vec.length c72, .slice A73 x67.path.length c74, .slice A75 x67.hashes.length c76, .slice A77 x67.route.length c78] 40 (0, 0))]]) _ _ (upd _ 57 (.slice A138 z132.length c139))
      refine WR.sat (c0 := true) (g := z128) rfl rfl rfl hb131 ?_
      refine vb (q_len_slice rfl Tryz.underlying34 rfl) ?_
      refine WR.sat (c0 := true) (g := z128) rfl rfl rfl hb131 ?_
      refine vb (q_eql rfl rfl rfl) (vb (q_pick_t (v := .bool (((z132.length : Nat) : Int) == 0)) rfl rfl hb131 (by kernel_rfl)) (as_ (v := .bool (((z132.length : Nat) : Int) == 0)) ?_))
      refine WR.done ?_
      refine WC.ret ?_
      intro w hw
      obtain rfl := Option.some.inj h
      subst hF
      exact ⟨by kernel_rfl, hw.fr⟩
     ·
      have h := bf hb131 h
      refine WR.unsat (c0 := true) (g := z128) rfl rfl rfl hb131 rfl ?_
      refine WR.unsat (c0 := true) (g := z128) rfl rfl rfl hb131 rfl ?_
      refine WR.unsat (c0 := true) (g := z128) rfl rfl rfl hb131 rfl ?_
      refine vb (q_pick_f (v := .bool false) rfl rfl hb131 (by kernel_rfl)) (as_ (v := .bool false) ?_)
      refine WR.done ?_
      refine WC.ret ?_
      intro w hw
      obtain rfl := Option.some.inj h
      subst hF
      exact ⟨by kernel_rfl, hw.fr⟩
    ·
     have h := bf hb117 h
     refine WR.unsat (c0 := true) (g := (((z102.2.2.length : Nat) : Int) == 0)) rfl rfl rfl hb117 rfl ?_
     refine WR.unsat (c0 := true) (g := (((z102.2.2.length : Nat) : Int) == 0)) rfl rfl rfl hb117 rfl ?_
     refine WR.unsat (c0 := true) (g := (((z102.2.2.length : Nat) : Int) == 0)) rfl rfl rfl hb117 rfl ?_
     refine vb (q_pick_f (v := .bool false) rfl rfl hb117 (by kernel_rfl)) (mv (v := .bool false) ?_)
     refine WR.unsat (c0 := true) (g := false) rfl rfl rfl rfl rfl ?_
     refine WR.unsat (c0 := true) (g := false) rfl rfl rfl rfl rfl ?_
     refine WR.unsat (c0 := true) (g := false) rfl rfl rfl rfl rfl ?_
     refine WR.unsat (c0 := true) (g := false) rfl rfl rfl rfl rfl ?_
     refine vb (q_pickf (v := .bool false) rfl rfl rfl) (as_ (v := .bool false) ?_)
     refine WR.done ?_
     refine WC.ret ?_
     intro w hw
     obtain rfl := Option.some.inj h
     subst hF
     exact ⟨by kernel_rfl, hw.fr⟩
end Fw
end Go.Proofs.YtckindfllegbgaaGreat
