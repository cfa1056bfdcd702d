/- Walks through the functions that the law reaches (printed by a program). No condition. -/
import Derived.Test.YtckindfllegbgaaGreatW3
namespace Go.Proofs.YtckindfllegbgaaGreat
namespace Fw
set_option linter.unusedVariables false
set_option linter.unusedSimpArgs false
set_option linter.unusedSectionVars false
set_option maxRecDepth 100000
set_option maxHeartbeats 400000
open Go.RowKit
abbrev r_node_lay (gs_ : Nat) (es_ : Nat × Nat) (edk0 : Nat) (r : Ostore_Store × Odisk_Disk × Int) (U : List Rowb) (Γ : Gh) (v : Value) : Prop := ∃ (rows_' : Rowb), ∃ (rowdk0' : Rowb), v = .int .i64 r.2.2 ∧ U = [rows_', rowdk0'] ∧ Ostore_Store.ob es_ Γ gs_ rows_' r.1 ∧ Odisk_Disk.ob edk0 Γ es_.2 rowdk0' r.2.1 ∧ I64 r.2.2 ∧ True
theorem t_node_lay {Γ : Gh} {w0 : World} {gs_ : Nat} {es_ : Nat × Nat} {rows_ : Rowb} {s_ : Ostore_Store} (hs_ : Ostore_Store.ob es_ Γ gs_ rows_ s_) {Alist : Option Addr} {clist : Nat} {list : List Rec} (hlist : Sl recT Γ Alist list) (hlistc : list.length ≤ clist) {edk0 : Nat} {rowdk0 : Rowb} {dk0 : Odisk_Disk} (hdk0 : Odisk_Disk.ob edk0 Γ es_.2 rowdk0 dk0) (hp : Pre [rows_, rowdk0] Γ w0) {r : Ostore_Store × Odisk_Disk × Int} (h : m_node_lay s_ list dk0 = some r) : Calls Tryz.prog 56 #[(pq gs_), .slice Alist list.length clist] w0 (Outc Γ [rows_, rowdk0] w0 (r_node_lay gs_ es_ edk0 r)) := by
 refine calls_of (N := 45) (rs := [4]) (args := [(pq gs_), .slice Alist list.length clist]) Tryz.func56 rfl Tryz.ntmps56 Tryz.results56 rfl ?_
 obtain ⟨F, hF⟩ : ∃ F : Fm, F = ⟨ids [rows_, rowdk0], w0, Γ⟩ := ⟨_, rfl⟩
 refine WC.here (C := CC F Γ [rows_, rowdk0]) ?_ (hF ▸ hp.start)
 refine WC.rs (as_ (v := .int .i64 0) ?_)
 refine WR.done ?_
 refine WC.seq (WC.rs (mv (v := .slice Alist list.length clist) (vb (q_len_slice rfl Tryz.underlying22 rfl) (mv (v := .int .i64 0) ?_))))
 refine WR.done ?_
 refine WC.block ?_
 refine WC.forI h (fun (i10 : Nat) (s : Ostore_Store × Odisk_Disk) σ w => match s with | (o3, o6) => ∃ (Γ1 : Gh), ∃ (row4 : Rowb), ∃ (row7 : Rowb), slots σ [(0, (pq gs_)), (10, .slice Alist list.length clist), (11, .int .i64 ((list.length : Nat) : Int)), (12, .int .i64 ((i10 : Nat) : Int))] ∧ CC F Γ1 [row4, row7] w ∧ Gh.le Γ Γ1 ∧ Ostore_Store.ob es_ Γ1 gs_ row4 o3 ∧ Odisk_Disk.ob edk0 Γ1 es_.2 row7 o6 ∧ True) ?_ ?_
 ·
  intro w hw
  exact ⟨Γ, rows_, rowdk0, (sl_ (by kernel_rfl)), hw, (Gh.refl _), hs_, hdk0, trivial⟩
 rintro f9 i10 ⟨o3, o6⟩ σ w hi11 hlt12 hge13 ⟨Γ1, row4, row7, hsl, hw, hl2, ho5, ho8, -⟩
 refine Wpt.slots hsl ?_
 refine WC.here (C := CC F Γ1 [row4, row7]) ?_ hw
 clear hw hsl
 refine WC.rs (vb (q_lss rfl rfl rfl) ?_)
 refine WR.done ?_
 refine WC.seq ?_
 refine WC.cond (b := (decide (((i10 : Nat) : Int) < ((list.length : Nat) : Int)))) (by kernel_rfl) (fun hb14 => ?_) (fun hb14 => ?_)
 ·
  have hl15 := ilt hb14
  have h := hlt12 hl15
  refine WC.skip ?_
  change WC _ _ _ _ _ _
  refine WC.seq (WC.block (WC.rs (vb (q_ixn (i := i10) Tryz.underlying22 Tryz.sizeOf45 rfl rfl rfl hl15 ((hlist.mono hl2).some_ hl15)) ?_)))
  obtain ⟨A16, c17, hx18⟩ := (hlist.mono hl2).recT_at i10
  refine vb (q_lda (c := 0) (vs := [.string (gt list i10).key, .slice A16 ((gt list i10).vers).length c17]) (hx18 hl15).2 rfl Tryz.isAgg45 Tryz.sizeOf45 rfl rfl rfl) ?_
  refine e_alloc Tryz.zeroValue45 rfl rfl rfl rfl ?_
  intro g19
  refine e_st (i := 0) (v := .agg #[.string (gt list i10).key, .slice A16 ((gt list i10).vers).length c17]) (new := #[.string (gt list i10).key, .slice A16 ((gt list i10).vers).length c17]) rfl Tryz.sizeOf45 rfl rfl rfl rfl (by kernel_rfl) rfl rfl rfl rfl ?_
  refine WR.done ?_
  refine WC.rs (mv (v := (pq gs_)) (vb (q_fl 0 fld_45_0 rfl rfl rfl) (vb (q_ldl (i := 0) (v := .string (gt list i10).key) rfl rfl Tryz.isAgg9 rfl rfl) ?_)))
  obtain ⟨z20, hz21, h⟩ := bnd h
  refine e_call (is := [1]) rfl rfl (call_run Tryz.call58 rfl rfl (by kernel_rfl)) rfl (fun w hp => t_store_Store_Get ho5 ((gt list i10).key) (hx18 hl15).1.1 hp hz21) ?_
  rintro Γ22 U24 v25 hl23 ⟨A26, c27, rfl, rfl, hc29, hr28, _⟩
  change WR _ _ _ (CC F Γ22 [row4, [(g19, .cells #[.string (gt list i10).key, .slice A16 ((gt list i10).vers).length c17] 45 (0, 0))], row7]) _ _ (upd _ 19 (.slice A26 z20.length c27))
  refine as_ (v := .slice A26 z20.length c27) ?_
  refine WR.done ?_
  refine WC.rs (mv (v := .slice A26 z20.length c27) (vb (q_fl 1 fld_45_1 rfl rfl rfl) (vb (q_ldl (i := 1) (v := .slice A16 ((gt list i10).vers).length c17) rfl rfl Tryz.isAgg43 rfl rfl) ?_)))
  obtain ⟨z30, hz31, h⟩ := bnd h
  refine e_call (is := []) rfl rfl (call_run Tryz.call95 rfl rfl (by kernel_rfl)) rfl (fun w hp => t_vers_Merge hr28 hc29 ((hx18 hl15).1.2.2.mono hl23) (hx18 hl15).1.2.1 hp hz31) ?_
  rintro Γ32 U34 v35 hl33 ⟨A36, c37, row38, rfl, rfl, hr39, hr40, _⟩
  change WR _ _ _ (CC F Γ32 [row38, row4, [(g19, .cells #[.string (gt list i10).key, .slice A16 ((gt list i10).vers).length c17] 45 (0, 0))], row7]) _ _ (upd _ 24 (.tuple #[.slice A36 z30.1.length c37, .int .i64 z30.2]))
  refine mv (v := .tuple #[.slice A36 z30.1.length c37, .int .i64 z30.2]) (vb (q_extract (v := .slice A36 z30.1.length c37) rfl rfl rfl) (vb (q_extract (v := .int .i64 z30.2) rfl rfl rfl) (as_ (v := .slice A36 z30.1.length c37) (as_ (v := .int .i64 z30.2) ?_))))
  refine WR.done ?_
  refine WC.cut (fun σ w => ∃ (e_43 : Int), ∃ (o45 : Ostore_Store), ∃ (o48 : Odisk_Disk), ∃ (Γ41 : Gh), ∃ (row46 : Rowb), ∃ (row49 : Rowb), m_node_lay_j5 f9 e_43 o45 o48 = some r ∧ slots σ [(0, (pq gs_)), (9, .int .i64 e_43), (10, .slice Alist list.length clist), (11, .int .i64 ((list.length : Nat) : Int)), (12, .int .i64 ((i10 : Nat) : Int))] ∧ CC F Γ41 [row46, row49] w ∧ Gh.le Γ32 Γ41 ∧ I64 e_43 ∧ Ostore_Store.ob es_ Γ41 gs_ row46 o45 ∧ Odisk_Disk.ob edk0 Γ41 es_.2 row49 o48 ∧ True) ?_ ?_
  ·
   refine WC.rs (mv (v := .int .i64 z30.2) (vb (q_eql rfl rfl rfl) (mv (v := .bool (z30.2 == 0)) (vg1 rfl rfl rfl rfl rfl (fun hg51 => QV.qo (q_move (v := .slice A36 z30.1.length c37) rfl (by kernel_rfl))) (vg1 rfl rfl rfl rfl rfl (fun hg52 => QV.qo (q_move (v := .slice A26 z20.length c27) rfl (by kernel_rfl))) ?_)))))
   obtain ⟨z54, hz55, h⟩ := bnd h
   refine vg1 rfl rfl rfl rfl rfl (fun hg53 => (q_call (call_run Tryz.call96 rfl rfl (args2 (gu hg53 rfl) (gu hg53 rfl))) (fun w hw => t_vers_Same (Γ := Gh.all w) (hr39.sl hw.sat.le_all (hw.ra 0 rfl)) hr39.capz ((hr28.mono hl33).mono hw.sat.le_all) hc29 (Sat.all w) (gc_of hz55 hg53)))) (vg1 rfl rfl rfl rfl rfl (fun hg56 => QV.qo (q_not rfl (gu hg56 rfl))) (vb (q_pick rfl rfl (pk_and' (g := (z30.2 == 0)) (y := (!z54)))) ?_))
   refine WR.done ?_
   refine WC.cif h (by kernel_rfl) (fun hb57 h => ?_) (fun hb57 h => ?_)
   ·
    refine WC.region ?_
    refine mv (v := (pq gs_)) (vb (q_fl 0 fld_45_0 rfl rfl rfl) (vb (q_ldl (i := 2) (v := .string (gt list i10).key) rfl rfl Tryz.isAgg9 rfl rfl) (mv (v := .slice A36 z30.1.length c37) (vb (q_build' (v := .agg #[.string (gt list i10).key, .slice A36 z30.1.length c37]) rfl (bargs2 rfl rfl) (fun w => by kernel_rfl)) ?_))))
    have hc62 := hr39.capz
    intro w hw; obtain ⟨Γ58, hw, hl59, hr60⟩ := hw.seal (i := 0) rfl; have hs61 := hr39.sl hl59 hr60
    refine WR.here (C := CC F Γ58 [[], row4, [(g19, .cells #[.string (gt list i10).key, .slice A16 ((gt list i10).vers).length c17] 45 (0, 0))], row7]) ?_ hw
    clear hw
    obtain ⟨z63, hz64, h⟩ := bnd h
    refine e_call (is := [1, 2]) rfl rfl (call_run Tryz.call60 rfl rfl (by kernel_rfl)) rfl (fun w hp => t_store_Store_Put (ho5.mono ((hl23.trans hl33).trans hl59)) (⟨(gt list i10).key, z30.1⟩ : Rec) ⟨(hx18 hl15).1.1, ⟨hc62, hs61⟩⟩ (ho8.mono ((hl23.trans hl33).trans hl59)) hp hz64) ?_
    rintro Γ65 U67 v68 hl66 ⟨row69, row71, rfl, rfl, hr70, hr72, hr73, _⟩
    change WR _ _ _ (CC F Γ65 [row69, row71, [], [(g19, .cells #[.string (gt list i10).key, .slice A16 ((gt list i10).vers).length c17] 45 (0, 0))]]) _ _ (upd _ 40 (.int .i64 z63.2.2))
    refine as_ (v := .int .i64 z63.2.2) ?_
    refine WR.nil ?_
    intro w hw
    exact ⟨z63.2.2, z63.1, z63.2.1, Γ65, row69, row71, h, (sl_ (by kernel_rfl)), (hw.only (is := [0, 0]) rfl), (hl59.trans hl66), hr73, hr70, hr72, trivial⟩
   ·
    refine WC.skip ?_
    intro w hw
    exact ⟨z30.2, o3, o6, Γ32, row4, row7, h, (sl_ (by kernel_rfl)), (hw.only (is := [1, 2]) rfl), (Gh.refl _), hr40, (ho5.mono (hl23.trans hl33)), (ho8.mono (hl23.trans hl33)), trivial⟩
  ·
   rintro σ w ⟨e_43, o45, o48, Γ41, row46, row49, h, hsl, hw, hl42, hr44, ho47, ho50, -⟩
   refine Wpt.slots hsl ?_
   refine WC.here (C := CC F Γ41 [row46, row49]) ?_ hw
   clear hw hsl
   refine WC.rs (mv (v := .int .i64 e_43) (vb (q_neq rfl rfl rfl) ?_))
   refine WR.done ?_
   refine WC.cif h (by kernel_rfl) (fun hb74 h => ?_) (fun hb74 h => ?_)
   ·
    refine WC.rs (mv (v := .int .i64 e_43) (as_ (v := .int .i64 e_43) ?_))
    refine WR.done ?_
    refine WC.ret ?_
    intro w hw
    obtain rfl := Option.some.inj h
    subst hF
    exact end_e (is := [0, 0]) (by kernel_rfl) hw rfl ⟨row46, row49, rfl, rfl, ho47, ho50, hr44, trivial⟩
   ·
    refine WC.skip ?_
    change WC _ _ _ _ _ _
    refine WC.region ?_
    refine vb (q_add_r (r := ((i10 + 1 : Nat) : Int)) rfl rfl rfl (ctr_len hl15 (hlist.mono hl2).le)) (mv (v := .int .i64 ((i10 + 1 : Nat) : Int)) ?_)
    refine WR.nil ?_
    intro w hw
    exact ⟨hl15, (o45, o48), h, Γ41, row46, row49, (sl_ (by kernel_rfl)), hw, (((hl2.trans hl23).trans hl33).trans hl42), ho47, ho50, trivial⟩
 ·
  have h := hge13 (ige hb14)
  refine WC.exit ?_
  change WC _ _ _ _ _ _
  refine WC.rs (as_ (v := .int .i64 0) ?_)
  refine WR.done ?_
  refine WC.ret ?_
  intro w hw
  obtain rfl := Option.some.inj h
  subst hF
  exact end_e (is := [0, 0]) (by kernel_rfl) hw rfl ⟨row4, row7, rfl, rfl, ho5, ho8, (show I64 0 by decide), trivial⟩
abbrev r_node_Node_Handle_1 (gb0 : Nat) (gb0v : Nat) (eb0v : Nat × Nat) (b0v : Onode_Node) (rowb0v : Rowb) (gb1 : Nat) (b1v0 : Int) (b1v1 : Int) (b1v2 : Int) (b1v3 : Int) (b1v4 : Int) (b1v5 : Int) (b1v6 : Int) (b1v7 : Int) (b1v8 : Int) (b1v9 : ByteArray) (Ab1v10 : Option Addr) (cb1v10 : Nat) (b1v10 : List Rec) (Ab1v11 : Option Addr) (cb1v11 : Nat) (b1v11 : List Int) (Ab1v12 : Option Addr) (cb1v12 : Nat) (b1v12 : List Int) (Ab1v13 : Option Addr) (cb1v13 : Nat) (b1v13 : List Int) (Ab1v14 : Option Addr) (cb1v14 : Nat) (b1v14 : List Int) (gb2 : Nat) (Ab2v : Option Addr) (cb2v : Nat) (b2v : List Dapi_Msg) (rowb2v : Rowb) (r : List Dapi_Msg) (U : List Rowb) (Γ : Gh) (v : Value) : Prop := ∃ (Ab2_0 : Option Addr), ∃ (cb2_0 : Nat), ∃ (rowb2_0 : Rowb), v = .tuple #[] ∧ U = [[(gb0, .cells #[.pointer (some ⟨gb0v, 0, none⟩)] 27 (0, 0))], rowb0v, [(gb1, .cells #[.int .i64 b1v0, .int .i64 b1v1, .int .i64 b1v2, .int .i64 b1v3, .int .i64 b1v4, .int .i64 b1v5, .int .i64 b1v6, .int .i64 b1v7, .int .i64 b1v8, .string b1v9, .slice Ab1v10 b1v10.length cb1v10, .slice Ab1v11 b1v11.length cb1v11, .slice Ab1v12 b1v12.length cb1v12, .slice Ab1v13 b1v13.length cb1v13, .slice Ab1v14 b1v14.length cb1v14] 40 (0, 0))], [(gb2, .cells #[.slice Ab2_0 r.length cb2_0] 34 (0, 0))], rowb2_0] ∧ Own dapi_MsgT Γ 40 rowb2_0 Ab2_0 cb2_0 r ∧ True
theorem t_node_Node_Handle_1 {Γ : Gh} {w0 : World} {Aa10 : Option Addr} {ca10 : Nat} {Aa11 : Option Addr} {ca11 : Nat} {Aa12 : Option Addr} {ca12 : Nat} {Aa13 : Option Addr} {ca13 : Nat} {Aa14 : Option Addr} {ca14 : Nat} (a : Dapi_Msg) (ha : Dapi_Msg.fits Γ Aa10 ca10 Aa11 ca11 Aa12 ca12 Aa13 ca13 Aa14 ca14 a) {gb0 : Nat} {gb0v : Nat} {eb0v : Nat × Nat} {rowb0v : Rowb} {b0v : Onode_Node} (hb0v : Onode_Node.ob eb0v Γ gb0v rowb0v b0v) {gb1 : Nat} (b1v0 : Int) (hb1v0 : I64 b1v0) (b1v1 : Int) (hb1v1 : I64 b1v1) (b1v2 : Int) (hb1v2 : I64 b1v2) (b1v3 : Int) (hb1v3 : I64 b1v3) (b1v4 : Int) (hb1v4 : I64 b1v4) (b1v5 : Int) (hb1v5 : I64 b1v5) (b1v6 : Int) (hb1v6 : I64 b1v6) (b1v7 : Int) (hb1v7 : I64 b1v7) (b1v8 : Int) (hb1v8 : I64 b1v8) (b1v9 : ByteArray) (hb1v9 : b1v9.size ≤ lim) {Ab1v10 : Option Addr} {cb1v10 : Nat} {b1v10 : List Rec} (hb1v10 : Sl recT Γ Ab1v10 b1v10) (hb1v10c : b1v10.length ≤ cb1v10) {Ab1v11 : Option Addr} {cb1v11 : Nat} {b1v11 : List Int} (hb1v11 : Sl intT Γ Ab1v11 b1v11) (hb1v11c : b1v11.length ≤ cb1v11) {Ab1v12 : Option Addr} {cb1v12 : Nat} {b1v12 : List Int} (hb1v12 : Sl intT Γ Ab1v12 b1v12) (hb1v12c : b1v12.length ≤ cb1v12) {Ab1v13 : Option Addr} {cb1v13 : Nat} {b1v13 : List Int} (hb1v13 : Sl u64T Γ Ab1v13 b1v13) (hb1v13c : b1v13.length ≤ cb1v13) {Ab1v14 : Option Addr} {cb1v14 : Nat} {b1v14 : List Int} (hb1v14 : Sl intT Γ Ab1v14 b1v14) (hb1v14c : b1v14.length ≤ cb1v14) {gb2 : Nat} {Ab2v : Option Addr} {cb2v : Nat} {rowb2v : Rowb} {b2v : List Dapi_Msg} (hb2v : Own dapi_MsgT Γ 40 rowb2v Ab2v cb2v b2v) (hp : Pre [[(gb0, .cells #[(pq gb0v)] 27 (0, 0))], rowb0v, [(gb1, .cells #[.int .i64 b1v0, .int .i64 b1v1, .int .i64 b1v2, .int .i64 b1v3, .int .i64 b1v4, .int .i64 b1v5, .int .i64 b1v6, .int .i64 b1v7, .int .i64 b1v8, .string b1v9, .slice Ab1v10 b1v10.length cb1v10, .slice Ab1v11 b1v11.length cb1v11, .slice Ab1v12 b1v12.length cb1v12, .slice Ab1v13 b1v13.length cb1v13, .slice Ab1v14 b1v14.length cb1v14] 40 (0, 0))], [(gb2, .cells #[.slice Ab2v b2v.length cb2v] 34 (0, 0))], rowb2v] Γ w0) {r : List Dapi_Msg} (h : m_node_Node_Handle_1 a b0v b1v0 b1v1 b1v2 b1v3 b1v4 b1v5 b1v6 b1v7 b1v8 b1v9 b1v10 b1v11 b1v12 b1v13 b1v14 b2v = some r) : Calls Tryz.prog 41 #[.agg #[.int .i64 a.kind, .int .i64 a.from_.site, .int .i64 a.from_.node, .int .i64 a.to_.site, .int .i64 a.to_.node, .int .i64 a.id, .int .i64 a.n, .int .i64 a.for_, .int .i64 a.code, .string a.key, .slice Aa10 a.recs.length ca10, .slice Aa11 a.vec.length ca11, .slice Aa12 a.path.length ca12, .slice Aa13 a.hashes.length ca13, .slice Aa14 a.route.length ca14], (pq gb0), (pq gb1), (pq gb2)] w0 (Outc Γ [[(gb0, .cells #[(pq gb0v)] 27 (0, 0))], rowb0v, [(gb1, .cells #[.int .i64 b1v0, .int .i64 b1v1, .int .i64 b1v2, .int .i64 b1v3, .int .i64 b1v4, .int .i64 b1v5, .int .i64 b1v6, .int .i64 b1v7, .int .i64 b1v8, .string b1v9, .slice Ab1v10 b1v10.length cb1v10, .slice Ab1v11 b1v11.length cb1v11, .slice Ab1v12 b1v12.length cb1v12, .slice Ab1v13 b1v13.length cb1v13, .slice Ab1v14 b1v14.length cb1v14] 40 (0, 0))], [(gb2, .cells #[.slice Ab2v b2v.length cb2v] 34 (0, 0))], rowb2v] w0 (r_node_Node_Handle_1 gb0 gb0v eb0v b0v rowb0v gb1 b1v0 b1v1 b1v2 b1v3 b1v4 b1v5 b1v6 b1v7 b1v8 b1v9 Ab1v10 cb1v10 b1v10 Ab1v11 cb1v11 b1v11 Ab1v12 cb1v12 b1v12 Ab1v13 cb1v13 b1v13 Ab1v14 cb1v14 b1v14 gb2 Ab2v cb2v b2v rowb2v r)) := by
 refine calls_of (N := 20) (rs := []) (args := [.agg #[.int .i64 a.kind, .int .i64 a.from_.site, .int .i64 a.from_.node, .int .i64 a.to_.site, .int .i64 a.to_.node, .int .i64 a.id, .int .i64 a.n, .int .i64 a.for_, .int .i64 a.code, .string a.key, .slice Aa10 a.recs.length ca10, .slice Aa11 a.vec.length ca11, .slice Aa12 a.path.length ca12, .slice Aa13 a.hashes.length ca13, .slice Aa14 a.route.length ca14], (pq gb0), (pq gb1), (pq gb2)]) Tryz.func41 rfl Tryz.ntmps41 Tryz.results41 rfl ?_
 obtain ⟨F, hF⟩ : ∃ F : Fm, F = ⟨ids [[(gb0, .cells #[(pq gb0v)] 27 (0, 0))], rowb0v, [(gb1, .cells #[.int .i64 b1v0, .int .i64 b1v1, .int .i64 b1v2, .int .i64 b1v3, .int .i64 b1v4, .int .i64 b1v5, .int .i64 b1v6, .int .i64 b1v7, .int .i64 b1v8, .string b1v9, .slice Ab1v10 b1v10.length cb1v10, .slice Ab1v11 b1v11.length cb1v11, .slice Ab1v12 b1v12.length cb1v12, .slice Ab1v13 b1v13.length cb1v13, .slice Ab1v14 b1v14.length cb1v14] 40 (0, 0))], [(gb2, .cells #[.slice Ab2v b2v.length cb2v] 34 (0, 0))], rowb2v], w0, Γ⟩ := ⟨_, rfl⟩
 refine WC.here (C := CC F Γ [[(gb0, .cells #[(pq gb0v)] 27 (0, 0))], rowb0v, [(gb1, .cells #[.int .i64 b1v0, .int .i64 b1v1, .int .i64 b1v2, .int .i64 b1v3, .int .i64 b1v4, .int .i64 b1v5, .int .i64 b1v6, .int .i64 b1v7, .int .i64 b1v8, .string b1v9, .slice Ab1v10 b1v10.length cb1v10, .slice Ab1v11 b1v11.length cb1v11, .slice Ab1v12 b1v12.length cb1v12, .slice Ab1v13 b1v13.length cb1v13, .slice Ab1v14 b1v14.length cb1v14] 40 (0, 0))], [(gb2, .cells #[.slice Ab2v b2v.length cb2v] 34 (0, 0))], rowb2v]) ?_ (hF ▸ hp.start)
 refine WC.rs ?_
 refine e_box (v := .agg #[.int .i64 a.kind, .int .i64 a.from_.site, .int .i64 a.from_.node, .int .i64 a.to_.site, .int .i64 a.to_.node, .int .i64 a.id, .int .i64 a.n, .int .i64 a.for_, .int .i64 a.code, .string a.key, .slice Aa10 a.recs.length ca10, .slice Aa11 a.vec.length ca11, .slice Aa12 a.path.length ca12, .slice Aa13 a.hashes.length ca13, .slice Aa14 a.route.length ca14]) rfl rfl rfl rfl (by kernel_rfl) ?_
 intro g1
 refine WR.done ?_
 refine WC.seq ?_
 intro w hw; have h02 := hw.le
 refine WC.here (C := CC F Γ [[(g1, .cells #[.int .i64 a.kind, .int .i64 a.from_.site, .int .i64 a.from_.node, .int .i64 a.to_.site, .int .i64 a.to_.node, .int .i64 a.id, .int .i64 a.n, .int .i64 a.for_, .int .i64 a.code, .string a.key, .slice Aa10 a.recs.length ca10, .slice Aa11 a.vec.length ca11, .slice Aa12 a.path.length ca12, .slice Aa13 a.hashes.length ca13, .slice Aa14 a.route.length ca14] 40 (0, 0))], [(gb0, .cells #[(pq gb0v)] 27 (0, 0))], rowb0v, [(gb1, .cells #[.int .i64 b1v0, .int .i64 b1v1, .int .i64 b1v2, .int .i64 b1v3, .int .i64 b1v4, .int .i64 b1v5, .int .i64 b1v6, .int .i64 b1v7, .int .i64 b1v8, .string b1v9, .slice Ab1v10 b1v10.length cb1v10, .slice Ab1v11 b1v11.length cb1v11, .slice Ab1v12 b1v12.length cb1v12, .slice Ab1v13 b1v13.length cb1v13, .slice Ab1v14 b1v14.length cb1v14] 40 (0, 0))], [(gb2, .cells #[.slice Ab2v b2v.length cb2v] 34 (0, 0))], rowb2v]) ?_ hw; clear hw
 refine WC.held (CC F Γ [[(gb0, .cells #[(pq gb0v)] 27 (0, 0))], [(gb1, .cells #[.int .i64 b1v0, .int .i64 b1v1, .int .i64 b1v2, .int .i64 b1v3, .int .i64 b1v4, .int .i64 b1v5, .int .i64 b1v6, .int .i64 b1v7, .int .i64 b1v8, .string b1v9, .slice Ab1v10 b1v10.length cb1v10, .slice Ab1v11 b1v11.length cb1v11, .slice Ab1v12 b1v12.length cb1v12, .slice Ab1v13 b1v13.length cb1v13, .slice Ab1v14 b1v14.length cb1v14] 40 (0, 0))], [(gb2, .cells #[.slice Ab2v b2v.length cb2v] 34 (0, 0))]]) (by kernel_rfl) (fun w hw => hw.drawn _) ?_
 change WH _ _ _ _ (CC F Γ [[(g1, .cells #[.int .i64 a.kind, .int .i64 a.from_.site, .int .i64 a.from_.node, .int .i64 a.to_.site, .int .i64 a.to_.node, .int .i64 a.id, .int .i64 a.n, .int .i64 a.for_, .int .i64 a.code, .string a.key, .slice Aa10 a.recs.length ca10, .slice Aa11 a.vec.length ca11, .slice Aa12 a.path.length ca12, .slice Aa13 a.hashes.length ca13, .slice Aa14 a.route.length ca14] 40 (0, 0))], [(gb0, .cells #[(pq gb0v)] 27 (0, 0))], rowb0v, [(gb1, .cells #[.int .i64 b1v0, .int .i64 b1v1, .int .i64 b1v2, .int .i64 b1v3, .int .i64 b1v4, .int .i64 b1v5, .int .i64 b1v6, .int .i64 b1v7, .int .i64 b1v8, .string b1v9, .slice Ab1v10 b1v10.length cb1v10, .slice Ab1v11 b1v11.length cb1v11, .slice Ab1v12 b1v12.length cb1v12, .slice Ab1v13 b1v13.length cb1v13, .slice Ab1v14 b1v14.length cb1v14] 40 (0, 0))], [(gb2, .cells #[.slice Ab2v b2v.length cb2v] 34 (0, 0))], rowb2v]) _ 14 #[false, false, false, false, false, false, false, false, false, false, false, false, false, false] _
 refine hu 0 rfl (bk_ (Gh.refl _) h02 (.cons _ (.cons_cons _ (.cons _ (.cons_cons _ (.cons_cons _ (.cons _ .slnil))))))) (q_ldl (i := 0) (v := (pq gb0v)) rfl rfl Tryz.isAgg27 rfl rfl) (hu 1 rfl (bk_ (Gh.refl _) h02 (.cons _ (.cons_cons _ (.cons _ (.cons_cons _ (.cons_cons _ (.cons _ .slnil))))))) (q_nil (A := some ⟨gb0v, 0, none⟩) rfl rfl rfl) (hu 2 rfl (bk_ (Gh.refl _) h02 (.cons _ (.cons_cons _ (.cons _ (.cons_cons _ (.cons_cons _ (.cons _ .slnil))))))) (q_fl 2 fld_74_2 rfl rfl rfl) (hu 4 rfl (bk_ (Gh.refl _) h02 (.cons _ (.cons_cons _ (.cons _ (.cons_cons _ (.cons_cons _ (.cons _ .slnil))))))) (q_fl 1 fld_40_1 rfl rfl rfl) (hu 5 rfl (bk_ (Gh.refl _) h02 (.cons _ (.cons_cons _ (.cons _ (.cons_cons _ (.cons_cons _ (.cons _ .slnil))))))) (q_ldla (i := 1) (vs := [.int .i64 b1v1, .int .i64 b1v2]) rfl rfl Tryz.isAgg32 Tryz.sizeOf32 rfl rfl) (hu 6 rfl (bk_ (Gh.refl _) h02 (.cons _ (.cons_cons _ (.cons _ (.cons_cons _ (.cons_cons _ (.cons _ .slnil))))))) (q_fl 5 fld_40_3 rfl rfl rfl) (hu 7 rfl (bk_ (Gh.refl _) h02 (.cons _ (.cons_cons _ (.cons _ (.cons_cons _ (.cons_cons _ (.cons _ .slnil))))))) (q_ldl (i := 1) (v := .int .i64 b1v5) rfl rfl Tryz.isAgg2 rfl rfl) ?_))))))
 refine WH.lone (i := 3) (by kernel_rfl) rfl ?_
 have hq := hb0v
 obtain ⟨g4_3, r4_3, m5_3, r5_3, m6_3, r6_3, hrow_3, ho0_3, ho1_3, ho2_3, ho3_3, ho4_3, ho5_3, -⟩ := hq
 intro w hw; have hw := hw.unfold (i := 2) rfl hrow_3
 refine WR.here (C := CC F Γ [[(gb0v, .cells #[.int .i64 b0v.life, .pointer (some ⟨eb0v.2, 0, none⟩), .int .i64 b0v.self_site, .int .i64 b0v.self_node, (pq g4_3), .map (some m5_3), .map (some m6_3)] eb0v.1 (0, 0))], r4_3, r5_3, r6_3, [(g1, .cells #[.int .i64 a.kind, .int .i64 a.from_.site, .int .i64 a.from_.node, .int .i64 a.to_.site, .int .i64 a.to_.node, .int .i64 a.id, .int .i64 a.n, .int .i64 a.for_, .int .i64 a.code, .string a.key, .slice Aa10 a.recs.length ca10, .slice Aa11 a.vec.length ca11, .slice Aa12 a.path.length ca12, .slice Aa13 a.hashes.length ca13, .slice Aa14 a.route.length ca14] 40 (0, 0))], [(gb0, .cells #[(pq gb0v)] 27 (0, 0))], [(gb1, .cells #[.int .i64 b1v0, .int .i64 b1v1, .int .i64 b1v2, .int .i64 b1v3, .int .i64 b1v4, .int .i64 b1v5, .int .i64 b1v6, .int .i64 b1v7, .int .i64 b1v8, .string b1v9, .slice Ab1v10 b1v10.length cb1v10, .slice Ab1v11 b1v11.length cb1v11, .slice Ab1v12 b1v12.length cb1v12, .slice Ab1v13 b1v13.length cb1v13, .slice Ab1v14 b1v14.length cb1v14] 40 (0, 0))], [(gb2, .cells #[.slice Ab2v b2v.length cb2v] 34 (0, 0))], rowb2v]) ?_ hw
 clear hw
 refine vb (q_ldla (i := 0) (vs := [.int .i64 b0v.self_site, .int .i64 b0v.self_node]) rfl rfl Tryz.isAgg32 Tryz.sizeOf32 rfl rfl) ?_
 refine WR.nil ?_
 refine WH.next (bk_ (Gh.refl _) h02 (.cons _ (.cons _ (.cons _ (.cons _ (.cons _ (.cons_cons _ (.cons_cons _ (.cons_cons _ (.cons _ .slnil)))))))))) ?_
 refine hu 8 rfl (bk_ (Gh.refl _) h02 (.cons _ (.cons _ (.cons _ (.cons _ (.cons _ (.cons_cons _ (.cons_cons _ (.cons_cons _ (.cons _ .slnil)))))))))) (q_fl 1 fld_40_1 rfl rfl rfl) ?_
 refine WH.lone (i := 9) (by kernel_rfl) rfl ?_
 refine e_st (i := 4) (v := .agg #[.int .i64 b0v.self_site, .int .i64 b0v.self_node]) (new := #[.int .i64 a.kind, .int .i64 b0v.self_site, .int .i64 b0v.self_node, .int .i64 a.to_.site, .int .i64 a.to_.node, .int .i64 a.id, .int .i64 a.n, .int .i64 a.for_, .int .i64 a.code, .string a.key, .slice Aa10 a.recs.length ca10, .slice Aa11 a.vec.length ca11, .slice Aa12 a.path.length ca12, .slice Aa13 a.hashes.length ca13, .slice Aa14 a.route.length ca14]) rfl Tryz.sizeOf32 rfl rfl rfl rfl (by kernel_rfl) rfl rfl rfl rfl ?_
 refine WR.nil ?_
 refine WH.next (bk_ (Gh.refl _) h02 (.cons _ (.cons _ (.cons _ (.cons _ (.cons _ (.cons_cons _ (.cons_cons _ (.cons_cons _ (.cons _ .slnil)))))))))) ?_
 refine hu 10 rfl (bk_ (Gh.refl _) h02 (.cons _ (.cons _ (.cons _ (.cons _ (.cons _ (.cons_cons _ (.cons_cons _ (.cons_cons _ (.cons _ .slnil)))))))))) (q_fl 3 fld_40_2 rfl rfl rfl) ?_
 refine WH.lone (i := 11) (by kernel_rfl) rfl ?_
 refine e_st (i := 4) (v := .agg #[.int .i64 b1v1, .int .i64 b1v2]) (new := #[.int .i64 a.kind, .int .i64 b0v.self_site, .int .i64 b0v.self_node, .int .i64 b1v1, .int .i64 b1v2, .int .i64 a.id, .int .i64 a.n, .int .i64 a.for_, .int .i64 a.code, .string a.key, .slice Aa10 a.recs.length ca10, .slice Aa11 a.vec.length ca11, .slice Aa12 a.path.length ca12, .slice Aa13 a.hashes.length ca13, .slice Aa14 a.route.length ca14]) rfl Tryz.sizeOf32 rfl rfl rfl rfl (by kernel_rfl) rfl rfl rfl rfl ?_
 refine WR.nil ?_
 refine WH.next (bk_ (Gh.refl _) h02 (.cons _ (.cons _ (.cons _ (.cons _ (.cons _ (.cons_cons _ (.cons_cons _ (.cons_cons _ (.cons _ .slnil)))))))))) ?_
 refine hu 12 rfl (bk_ (Gh.refl _) h02 (.cons _ (.cons _ (.cons _ (.cons _ (.cons _ (.cons_cons _ (.cons_cons _ (.cons_cons _ (.cons _ .slnil)))))))))) (q_fl 5 fld_40_3 rfl rfl rfl) ?_
 refine WH.lone (i := 13) (by kernel_rfl) rfl ?_
 refine e_st (i := 4) (v := .int .i64 b1v5) (new := #[.int .i64 a.kind, .int .i64 b0v.self_site, .int .i64 b0v.self_node, .int .i64 b1v1, .int .i64 b1v2, .int .i64 b1v5, .int .i64 a.n, .int .i64 a.for_, .int .i64 a.code, .string a.key, .slice Aa10 a.recs.length ca10, .slice Aa11 a.vec.length ca11, .slice Aa12 a.path.length ca12, .slice Aa13 a.hashes.length ca13, .slice Aa14 a.route.length ca14]) rfl Tryz.sizeOf2 rfl rfl rfl rfl (by kernel_rfl) rfl rfl rfl rfl ?_
 refine WR.nil ?_
 refine WH.next (bk_ (Gh.refl _) h02 (.cons _ (.cons _ (.cons _ (.cons _ (.cons _ (.cons_cons _ (.cons_cons _ (.cons_cons _ (.cons _ .slnil)))))))))) ?_
 refine WH.done (by kernel_rfl) ?_
 change WC _ _ _ _ _ _
 refine WC.region ?_
 refine vb (q_ldl (i := 7) (v := .slice Ab2v b2v.length cb2v) rfl rfl Tryz.isAgg34 rfl rfl) (vb (q_ldla (i := 4) (vs := [.int .i64 a.kind, .int .i64 b0v.self_site, .int .i64 b0v.self_node, .int .i64 b1v1, .int .i64 b1v2, .int .i64 b1v5, .int .i64 a.n, .int .i64 a.for_, .int .i64 a.code, .string a.key, .slice Aa10 a.recs.length ca10, .slice Aa11 a.vec.length ca11, .slice Aa12 a.path.length ca12, .slice Aa13 a.hashes.length ca13, .slice Aa14 a.route.length ca14]) rfl rfl Tryz.isAgg40 Tryz.sizeOf40 rfl rfl) ?_)
 refine e_buildSlice (cs := #[.int .i64 a.kind, .int .i64 b0v.self_site, .int .i64 b0v.self_node, .int .i64 b1v1, .int .i64 b1v2, .int .i64 b1v5, .int .i64 a.n, .int .i64 a.for_, .int .i64 a.code, .string a.key, .slice Aa10 a.recs.length ca10, .slice Aa11 a.vec.length ca11, .slice Aa12 a.path.length ca12, .slice Aa13 a.hashes.length ca13, .slice Aa14 a.route.length ca14]) (e := 40) rfl rfl rfl rfl (fun w => by kernel_rfl) ?_
 intro g4
 obtain ⟨hk5, h⟩ := chk_some h
 refine e_append (T := dapi_MsgT) (xs := b2v) (ys := [(⟨a.kind, (⟨b0v.self_site, b0v.self_node⟩ : Adr), (⟨b1v1, b1v2⟩ : Adr), b1v5, a.n, a.for_, a.code, a.key, a.recs, a.vec, a.path, a.hashes, a.route⟩ : Dapi_Msg)]) elem_34 (i := 9) rfl rfl rfl rfl rfl rfl rfl hb2v (of_decide_eq_true hk5) (fun w hw => src_one (T := dapi_MsgT) (y := (⟨a.kind, (⟨b0v.self_site, b0v.self_node⟩ : Adr), (⟨b1v1, b1v2⟩ : Adr), b1v5, a.n, a.for_, a.code, a.key, a.recs, a.vec, a.path, a.hashes, a.route⟩ : Dapi_Msg)) (i := 0) rfl (by exact ⟨Aa10, ca10, Aa11, ca11, Aa12, ca12, Aa13, ca13, Aa14, ca14, rfl, ⟨ha.1, ho1_3, ho2_3, hb1v1, hb1v2, hb1v5, ha.2.2.2.2.2.2.1, ha.2.2.2.2.2.2.2.1, ha.2.2.2.2.2.2.2.2.1, ha.2.2.2.2.2.2.2.2.2.1, ⟨ha.2.2.2.2.2.2.2.2.2.2.1.1, ha.2.2.2.2.2.2.2.2.2.2.1.2⟩, ⟨ha.2.2.2.2.2.2.2.2.2.2.2.1.1, ha.2.2.2.2.2.2.2.2.2.2.2.1.2⟩, ⟨ha.2.2.2.2.2.2.2.2.2.2.2.2.1.1, ha.2.2.2.2.2.2.2.2.2.2.2.2.1.2⟩, ⟨ha.2.2.2.2.2.2.2.2.2.2.2.2.2.1.1, ha.2.2.2.2.2.2.2.2.2.2.2.2.2.1.2⟩, ⟨ha.2.2.2.2.2.2.2.2.2.2.2.2.2.2.1, ha.2.2.2.2.2.2.2.2.2.2.2.2.2.2.2⟩⟩⟩) hw) ?_
 intro row6 A7 c8 ho9
 refine e_st (i := 8) (v := .slice A7 (b2v ++ [(⟨a.kind, (⟨b0v.self_site, b0v.self_node⟩ : Adr), (⟨b1v1, b1v2⟩ : Adr), b1v5, a.n, a.for_, a.code, a.key, a.recs, a.vec, a.path, a.hashes, a.route⟩ : Dapi_Msg)]).length c8) (new := #[.slice A7 (b2v ++ [(⟨a.kind, (⟨b0v.self_site, b0v.self_node⟩ : Adr), (⟨b1v1, b1v2⟩ : Adr), b1v5, a.n, a.for_, a.code, a.key, a.recs, a.vec, a.path, a.hashes, a.route⟩ : Dapi_Msg)]).length c8]) rfl Tryz.sizeOf34 rfl rfl rfl rfl (by kernel_rfl) rfl rfl rfl rfl ?_
 refine WR.nil ?_
 intro w hw
 have hw := hw.fold (is := [1, 1, 1, 1]) rfl hrow_3
 obtain rfl := Option.some.inj h
 subst hF
 exact end_e (is := [3, 0, 2, 2, 2]) (by kernel_rfl) hw rfl ⟨A7, c8, row6, rfl, rfl, ho9, trivial⟩
abbrev r_node_own (r : List Rec) (U : List Rowb) (Γ : Gh) (v : Value) : Prop := ∃ (A0 : Option Addr), ∃ (c0 : Nat), ∃ (row0 : Rowb), v = .slice A0 r.length c0 ∧ U = [row0] ∧ Own recT Γ 45 row0 A0 c0 r ∧ True
theorem t_node_own {Γ : Gh} {w0 : World} {Al : Option Addr} {cl : Nat} {l : List Rec} (hl : Sl recT Γ Al l) (hlc : l.length ≤ cl) (hp : Pre [] Γ w0) {r : List Rec} (h : m_node_own l = some r) : Calls Tryz.prog 57 #[.slice Al l.length cl] w0 (Outc Γ [] w0 (r_node_own r)) := by
 refine calls_of (N := 42) (rs := [2]) (args := [.slice Al l.length cl]) Tryz.func57 rfl Tryz.ntmps57 Tryz.results57 rfl ?_
 obtain ⟨F, hF⟩ : ∃ F : Fm, F = ⟨ids [], w0, Γ⟩ := ⟨_, rfl⟩
 refine WC.here (C := CC F Γ []) ?_ (hF ▸ hp.start)
 refine WC.rs (as_ (v := .slice none 0 0) ?_)
 refine WR.done ?_
 refine WC.rs (as_ (v := .slice none 0 0) ?_)
 refine WR.done ?_
 refine WC.seq (WC.rs (mv (v := .slice Al l.length cl) (vb (q_len_slice rfl Tryz.underlying22 rfl) (mv (v := .int .i64 0) ?_))))
 refine WR.done ?_
 refine WC.block ?_
 refine WC.forI h (fun (i9 : Nat) (out_3 : List Rec) σ w => ∃ (Γ1 : Gh), ∃ (A4 : Option Addr), ∃ (c5 : Nat), ∃ (row6 : Rowb), slots σ [(3, .slice A4 out_3.length c5), (9, .slice Al l.length cl), (10, .int .i64 ((l.length : Nat) : Int)), (11, .int .i64 ((i9 : Nat) : Int))] ∧ CC F Γ1 [row6] w ∧ Gh.le Γ Γ1 ∧ Own recT Γ1 45 row6 A4 c5 out_3 ∧ True) ?_ ?_
 ·
  intro w hw
  have hw := hw.pad
  exact ⟨Γ, none, 0, [], (sl_ (by kernel_rfl)), hw, (Gh.refl _), (Own.nil recT _ 45), trivial⟩
 rintro f8 i9 out_3 σ w hi10 hlt11 hge12 ⟨Γ1, A4, c5, row6, hsl, hw, hl2, ho7, -⟩
 refine Wpt.slots hsl ?_
 refine WC.here (C := CC F Γ1 [row6]) ?_ hw
 clear hw hsl
 refine WC.rs (vb (q_lss rfl rfl rfl) ?_)
 refine WR.done ?_
 refine WC.seq ?_
 refine WC.cond (b := (decide (((i9 : Nat) : Int) < ((l.length : Nat) : Int)))) (by kernel_rfl) (fun hb13 => ?_) (fun hb13 => ?_)
 ·
  have hl14 := ilt hb13
  have h := hlt11 hl14
  refine WC.skip ?_
  change WC _ _ _ _ _ _
  refine WC.seq (WC.block (WC.rs (vb (q_ixn (i := i9) Tryz.underlying22 Tryz.sizeOf45 rfl rfl rfl hl14 ((hl.mono hl2).some_ hl14)) ?_)))
  obtain ⟨A15, c16, hx17⟩ := (hl.mono hl2).recT_at i9
  refine vb (q_lda (c := 0) (vs := [.string (gt l i9).key, .slice A15 ((gt l i9).vers).length c16]) (hx17 hl14).2 rfl Tryz.isAgg45 Tryz.sizeOf45 rfl rfl rfl) ?_
  refine e_alloc Tryz.zeroValue45 rfl rfl rfl rfl ?_
  intro g18
  refine e_st (i := 0) (v := .agg #[.string (gt l i9).key, .slice A15 ((gt l i9).vers).length c16]) (new := #[.string (gt l i9).key, .slice A15 ((gt l i9).vers).length c16]) rfl Tryz.sizeOf45 rfl rfl rfl rfl (by kernel_rfl) rfl rfl rfl rfl ?_
  refine WR.done ?_
  refine WC.rs (vb (q_fl 0 fld_45_0 rfl rfl rfl) (vb (q_ldl (i := 0) (v := .string (gt l i9).key) rfl rfl Tryz.isAgg9 rfl rfl) (vb (q_build' (v := .agg #[.string (gt l i9).key, .slice none 0 0]) rfl (bargs1 rfl) (fun w => by kernel_rfl)) ?_)))
  refine e_alloc Tryz.zeroValue45 rfl rfl rfl rfl ?_
  intro g19
  refine e_st (i := 0) (v := .agg #[.string (gt l i9).key, .slice none 0 0]) (new := #[.string (gt l i9).key, .slice none 0 0]) rfl Tryz.sizeOf45 rfl rfl rfl rfl (by kernel_rfl) rfl rfl rfl rfl ?_
  refine WR.done ?_
  refine WC.seq (WC.rs (vb (q_fl 1 fld_45_1 rfl rfl rfl) (vb (q_ldl (i := 1) (v := .slice A15 ((gt l i9).vers).length c16) rfl rfl Tryz.isAgg43 rfl rfl) (vb (q_len_slice rfl Tryz.underlying43 rfl) (mv (v := .int .i64 0) ?_)))))
  refine WR.done ?_
  refine WC.block ?_
  refine WC.forI h (fun (i28 : Nat) (x22 : List Ver) σ w => ∃ (Γ20 : Gh), ∃ (A23 : Option Addr), ∃ (c24 : Nat), ∃ (row25 : Rowb), slots σ [(3, .slice A4 out_3.length c5), (6, (pq g19)), (9, .slice Al l.length cl), (10, .int .i64 ((l.length : Nat) : Int)), (11, .int .i64 ((i9 : Nat) : Int)), (19, .slice A15 ((gt l i9).vers).length c16), (20, .int .i64 ((((gt l i9).vers).length : Nat) : Int)), (21, .int .i64 ((i28 : Nat) : Int))] ∧ CC F Γ20 [row25, [(g19, .cells #[.string (gt l i9).key, .slice A23 x22.length c24] 45 (0, 0))], row6] w ∧ Gh.le Γ1 Γ20 ∧ Own verT Γ20 89 row25 A23 c24 x22 ∧ True) ?_ ?_
  ·
   intro w hw
   have hw := hw.pad
   exact ⟨Γ1, none, 0, [], (sl_ (by kernel_rfl)), (hw.only (is := [0, 0, 1]) rfl), (Gh.refl _), (Own.nil verT _ 89), trivial⟩
  rintro f27 i28 x22 σ w hi29 hlt30 hge31 ⟨Γ20, A23, c24, row25, hsl, hw, hl21, ho26, -⟩
  refine Wpt.slots hsl ?_
  refine WC.here (C := CC F Γ20 [row25, [(g19, .cells #[.string (gt l i9).key, .slice A23 x22.length c24] 45 (0, 0))], row6]) ?_ hw
  clear hw hsl
  refine WC.rs (vb (q_lss rfl rfl rfl) ?_)
  refine WR.done ?_
  refine WC.seq ?_
  refine WC.cond (b := (decide (((i28 : Nat) : Int) < ((((gt l i9).vers).length : Nat) : Int)))) (by kernel_rfl) (fun hb32 => ?_) (fun hb32 => ?_)
  ·
   have hl33 := ilt hb32
   have h := hlt30 hl33
   refine WC.skip ?_
   change WC _ _ _ _ _ _
   refine WC.seq (WC.block (WC.rs (vb (q_ixn (i := i28) Tryz.underlying43 Tryz.sizeOf89 rfl rfl rfl hl33 (((hx17 hl14).1.2.2.mono hl21).some_ hl33)) ?_)))
   obtain ⟨A34, c35, hx36⟩ := ((hx17 hl14).1.2.2.mono hl21).verT_at i28
   refine vb (q_lda (c := 0) (vs := [.int .i64 (gt ((gt l i9).vers) i28).dot.s, .int .i64 (gt ((gt l i9).vers) i28).dot.n, .slice A34 ((gt ((gt l i9).vers) i28).past).length c35, .bool (gt ((gt l i9).vers) i28).gone, .string (gt ((gt l i9).vers) i28).val]) (hx36 hl33).2 rfl Tryz.isAgg89 Tryz.sizeOf89 rfl rfl rfl) ?_
   refine e_alloc Tryz.zeroValue89 rfl rfl rfl rfl ?_
   intro g37
   refine e_st (i := 0) (v := .agg #[.int .i64 (gt ((gt l i9).vers) i28).dot.s, .int .i64 (gt ((gt l i9).vers) i28).dot.n, .slice A34 ((gt ((gt l i9).vers) i28).past).length c35, .bool (gt ((gt l i9).vers) i28).gone, .string (gt ((gt l i9).vers) i28).val]) (new := #[.int .i64 (gt ((gt l i9).vers) i28).dot.s, .int .i64 (gt ((gt l i9).vers) i28).dot.n, .slice A34 ((gt ((gt l i9).vers) i28).past).length c35, .bool (gt ((gt l i9).vers) i28).gone, .string (gt ((gt l i9).vers) i28).val]) rfl Tryz.sizeOf89 rfl rfl rfl rfl (by kernel_rfl) rfl rfl rfl rfl ?_
   refine WR.done ?_
   refine WC.rs (vb (q_fl 2 fld_89_1 rfl rfl rfl) (vb (q_ldl (i := 0) (v := .slice A34 ((gt ((gt l i9).vers) i28).past).length c35) rfl rfl Tryz.isAgg87 rfl rfl) ?_))
   refine WR.sub (fun w hw => hw.pad) ?_
   obtain ⟨hk38, h⟩ := chk_some h
   refine e_append (T := spanT) (xs := []) (ys := (gt ((gt l i9).vers) i28).past) elem_87 (i := 0) rfl rfl rfl rfl (by kernel_rfl) rfl rfl (Own.nil spanT Γ20 93) (of_decide_eq_true hk38) (fun w hw => src_sl (hx36 hl33).1.2.2.1.2 hw) ?_
   intro row39 A40 c41 ho42
   refine vb (q_fl 2 fld_89_1 rfl rfl rfl) ?_
   refine e_st (i := 1) (v := .slice A40 (gt ((gt l i9).vers) i28).past.length c41) (new := #[.int .i64 (gt ((gt l i9).vers) i28).dot.s, .int .i64 (gt ((gt l i9).vers) i28).dot.n, .slice A40 (gt ((gt l i9).vers) i28).past.length c41, .bool (gt ((gt l i9).vers) i28).gone, .string (gt ((gt l i9).vers) i28).val]) rfl Tryz.sizeOf87 rfl rfl rfl rfl (by kernel_rfl) rfl rfl rfl rfl ?_
   refine WR.done ?_
   refine WC.region ?_
   refine vb (q_fl 1 fld_45_1 rfl rfl rfl) (vb (q_ldl (i := 3) (v := .slice A23 x22.length c24) rfl rfl Tryz.isAgg43 rfl rfl) (vb (q_ldla (i := 1) (vs := [.int .i64 (gt ((gt l i9).vers) i28).dot.s, .int .i64 (gt ((gt l i9).vers) i28).dot.n, .slice A40 (gt ((gt l i9).vers) i28).past.length c41, .bool (gt ((gt l i9).vers) i28).gone, .string (gt ((gt l i9).vers) i28).val]) rfl rfl Tryz.isAgg89 Tryz.sizeOf89 rfl rfl) ?_))
   have hc47 := ho42.capz
   intro w hw; obtain ⟨Γ43, hw, hl44, hr45⟩ := hw.seal (i := 0) rfl; have hs46 := ho42.sl hl44 hr45
   refine WR.here (C := CC F Γ43 [[], [(g37, .cells #[.int .i64 (gt ((gt l i9).vers) i28).dot.s, .int .i64 (gt ((gt l i9).vers) i28).dot.n, .slice A40 ((gt ((gt l i9).vers) i28).past).length c41, .bool (gt ((gt l i9).vers) i28).gone, .string (gt ((gt l i9).vers) i28).val] 89 (0, 0))], row25, [(g19, .cells #[.string (gt l i9).key, .slice A23 x22.length c24] 45 (0, 0))], row6]) ?_ hw
   clear hw
   refine e_buildSlice (cs := #[.int .i64 (gt ((gt l i9).vers) i28).dot.s, .int .i64 (gt ((gt l i9).vers) i28).dot.n, .slice A40 ((gt ((gt l i9).vers) i28).past).length c41, .bool (gt ((gt l i9).vers) i28).gone, .string (gt ((gt l i9).vers) i28).val]) (e := 89) rfl rfl rfl rfl (fun w => by kernel_rfl) ?_
   intro g48
   obtain ⟨hk49, h⟩ := chk_some h
   refine e_append (T := verT) (xs := x22) (ys := [(gt ((gt l i9).vers) i28)]) elem_43 (i := 3) rfl rfl rfl rfl rfl rfl rfl (ho26.mono hl44) (of_decide_eq_true hk49) (fun w hw => src_one (T := verT) (y := (gt ((gt l i9).vers) i28)) (i := 0) rfl (by exact ⟨A40, c41, rfl, ⟨(hx36 hl33).1.1, (hx36 hl33).1.2.1, ⟨hc47, hs46⟩, (hx36 hl33).1.2.2.2⟩⟩) hw) ?_
   intro row50 A51 c52 ho53
   refine vb (q_fl 1 fld_45_1 rfl rfl rfl) ?_
   refine e_st (i := 4) (v := .slice A51 (x22 ++ [(gt ((gt l i9).vers) i28)]).length c52) (new := #[.string (gt l i9).key, .slice A51 (x22 ++ [(gt ((gt l i9).vers) i28)]).length c52]) rfl Tryz.sizeOf43 rfl rfl rfl rfl (by kernel_rfl) rfl rfl rfl rfl ?_
   refine WR.nil ?_
   change WC _ _ _ _ _ _
   refine WC.region ?_
   refine vb (q_add_r (r := ((i28 + 1 : Nat) : Int)) rfl rfl rfl (ctr_len hl33 ((hx17 hl14).1.2.2.mono hl21).le)) (mv (v := .int .i64 ((i28 + 1 : Nat) : Int)) ?_)
   refine WR.nil ?_
   intro w hw
   exact ⟨hl33, (x22 ++ [(gt ((gt l i9).vers) i28)]), h, Γ43, A51, c52, row50, (sl_ (by kernel_rfl)), (hw.only (is := [3, 3, 3]) rfl), (hl21.trans hl44), ho53, trivial⟩
  ·
   have h := hge31 (ige hb32)
   refine WC.exit ?_
   change WC _ _ _ _ _ _
   refine WC.region ?_
   refine mv (v := .slice A4 out_3.length c5) (vb (q_ldla (i := 1) (vs := [.string (gt l i9).key, .slice A23 x22.length c24]) rfl rfl Tryz.isAgg45 Tryz.sizeOf45 rfl rfl) ?_)
   have hc58 := ho26.capz
   intro w hw; obtain ⟨Γ54, hw, hl55, hr56⟩ := hw.seal (i := 0) rfl; have hs57 := ho26.sl hl55 hr56
   refine WR.here (C := CC F Γ54 [[], [(g19, .cells #[.string (gt l i9).key, .slice A23 x22.length c24] 45 (0, 0))], row6]) ?_ hw
   clear hw
   refine e_buildSlice (cs := #[.string (gt l i9).key, .slice A23 x22.length c24]) (e := 45) rfl rfl rfl rfl (fun w => by kernel_rfl) ?_
   intro g59
   obtain ⟨hk60, h⟩ := chk_some h
   refine e_append (T := recT) (xs := out_3) (ys := [(⟨(gt l i9).key, x22⟩ : Rec)]) elem_22 (i := 3) rfl rfl rfl rfl rfl rfl rfl (ho7.mono (hl21.trans hl55)) (of_decide_eq_true hk60) (fun w hw => src_one (T := recT) (y := (⟨(gt l i9).key, x22⟩ : Rec)) (i := 0) rfl (by exact ⟨A23, c24, rfl, ⟨(hx17 hl14).1.1, ⟨hc58, hs57⟩⟩⟩) hw) ?_
   intro row61 A62 c63 ho64
   refine as_ (v := .slice A62 (out_3 ++ [(⟨(gt l i9).key, x22⟩ : Rec)]).length c63) ?_
   refine WR.nil ?_
   change WC _ _ _ _ _ _
   refine WC.region ?_
   refine vb (q_add_r (r := ((i9 + 1 : Nat) : Int)) rfl rfl rfl (ctr_len hl14 (hl.mono hl2).le)) (mv (v := .int .i64 ((i9 + 1 : Nat) : Int)) ?_)
   refine WR.nil ?_
   intro w hw
   exact ⟨hl14, (out_3 ++ [(⟨(gt l i9).key, x22⟩ : Rec)]), h, Γ54, A62, c63, row61, (sl_ (by kernel_rfl)), (hw.only (is := [3]) rfl), ((hl2.trans hl21).trans hl55), ho64, trivial⟩
 ·
  have h := hge12 (ige hb13)
  refine WC.exit ?_
  change WC _ _ _ _ _ _
  refine WC.rs (mv (v := .slice A4 out_3.length c5) (as_ (v := .slice A4 out_3.length c5) ?_))
  refine WR.done ?_
  refine WC.ret ?_
  intro w hw
  obtain rfl := Option.some.inj h
  subst hF
  exact end_e (is := [0]) (by kernel_rfl) hw rfl ⟨A4, c5, row6, rfl, rfl, ho7, trivial⟩
abbrev r_node_Node_put (gn : Nat) (en : Nat × Nat) (ganswer0 : Nat) (ganswer1 : Nat) (answer1v0 : Int) (answer1v1 : Int) (answer1v2 : Int) (answer1v3 : Int) (answer1v4 : Int) (answer1v5 : Int) (answer1v6 : Int) (answer1v7 : Int) (answer1v8 : Int) (answer1v9 : ByteArray) (Aanswer1v10 : Option Addr) (canswer1v10 : Nat) (answer1v10 : List Rec) (Aanswer1v11 : Option Addr) (canswer1v11 : Nat) (answer1v11 : List Int) (Aanswer1v12 : Option Addr) (canswer1v12 : Nat) (answer1v12 : List Int) (Aanswer1v13 : Option Addr) (canswer1v13 : Nat) (answer1v13 : List Int) (Aanswer1v14 : Option Addr) (canswer1v14 : Nat) (answer1v14 : List Int) (ganswer2 : Nat) (Aanswer2v : Option Addr) (canswer2v : Nat) (answer2v : List Dapi_Msg) (rowanswer2v : Rowb) (edk0 : Nat) (r : Onode_Node × (List Dapi_Msg) × Odisk_Disk) (U : List Rowb) (Γ : Gh) (v : Value) : Prop := ∃ (rown' : Rowb), ∃ (Aanswer2_0 : Option Addr), ∃ (canswer2_0 : Nat), ∃ (rowanswer2_0 : Rowb), ∃ (rowdk0' : Rowb), v = .tuple #[] ∧ U = [rown', [(ganswer0, .cells #[.pointer (some ⟨gn, 0, none⟩)] 27 (0, 0))], [(ganswer1, .cells #[.int .i64 answer1v0, .int .i64 answer1v1, .int .i64 answer1v2, .int .i64 answer1v3, .int .i64 answer1v4, .int .i64 answer1v5, .int .i64 answer1v6, .int .i64 answer1v7, .int .i64 answer1v8, .string answer1v9, .slice Aanswer1v10 answer1v10.length canswer1v10, .slice Aanswer1v11 answer1v11.length canswer1v11, .slice Aanswer1v12 answer1v12.length canswer1v12, .slice Aanswer1v13 answer1v13.length canswer1v13, .slice Aanswer1v14 answer1v14.length canswer1v14] 40 (0, 0))], [(ganswer2, .cells #[.slice Aanswer2_0 r.2.1.length canswer2_0] 34 (0, 0))], rowanswer2_0, rowdk0'] ∧ Onode_Node.ob en Γ gn rown' r.1 ∧ Own dapi_MsgT Γ 40 rowanswer2_0 Aanswer2_0 canswer2_0 r.2.1 ∧ Odisk_Disk.ob edk0 Γ en.2 rowdk0' r.2.2 ∧ True
theorem t_node_Node_put {Γ : Gh} {w0 : World} {gn : Nat} {en : Nat × Nat} {rown : Rowb} {n : Onode_Node} (hn : Onode_Node.ob en Γ gn rown n) {Am10 : Option Addr} {cm10 : Nat} {Am11 : Option Addr} {cm11 : Nat} {Am12 : Option Addr} {cm12 : Nat} {Am13 : Option Addr} {cm13 : Nat} {Am14 : Option Addr} {cm14 : Nat} (m : Dapi_Msg) (hm : Dapi_Msg.fits Γ Am10 cm10 Am11 cm11 Am12 cm12 Am13 cm13 Am14 cm14 m) {ganswer0 : Nat}  {ganswer1 : Nat} (answer1v0 : Int) (hanswer1v0 : I64 answer1v0) (answer1v1 : Int) (hanswer1v1 : I64 answer1v1) (answer1v2 : Int) (hanswer1v2 : I64 answer1v2) (answer1v3 : Int) (hanswer1v3 : I64 answer1v3) (answer1v4 : Int) (hanswer1v4 : I64 answer1v4) (answer1v5 : Int) (hanswer1v5 : I64 answer1v5) (answer1v6 : Int) (hanswer1v6 : I64 answer1v6) (answer1v7 : Int) (hanswer1v7 : I64 answer1v7) (answer1v8 : Int) (hanswer1v8 : I64 answer1v8) (answer1v9 : ByteArray) (hanswer1v9 : answer1v9.size ≤ lim) {Aanswer1v10 : Option Addr} {canswer1v10 : Nat} {answer1v10 : List Rec} (hanswer1v10 : Sl recT Γ Aanswer1v10 answer1v10) (hanswer1v10c : answer1v10.length ≤ canswer1v10) {Aanswer1v11 : Option Addr} {canswer1v11 : Nat} {answer1v11 : List Int} (hanswer1v11 : Sl intT Γ Aanswer1v11 answer1v11) (hanswer1v11c : answer1v11.length ≤ canswer1v11) {Aanswer1v12 : Option Addr} {canswer1v12 : Nat} {answer1v12 : List Int} (hanswer1v12 : Sl intT Γ Aanswer1v12 answer1v12) (hanswer1v12c : answer1v12.length ≤ canswer1v12) {Aanswer1v13 : Option Addr} {canswer1v13 : Nat} {answer1v13 : List Int} (hanswer1v13 : Sl u64T Γ Aanswer1v13 answer1v13) (hanswer1v13c : answer1v13.length ≤ canswer1v13) {Aanswer1v14 : Option Addr} {canswer1v14 : Nat} {answer1v14 : List Int} (hanswer1v14 : Sl intT Γ Aanswer1v14 answer1v14) (hanswer1v14c : answer1v14.length ≤ canswer1v14) {ganswer2 : Nat} {Aanswer2v : Option Addr} {canswer2v : Nat} {rowanswer2v : Rowb} {answer2v : List Dapi_Msg} (hanswer2v : Own dapi_MsgT Γ 40 rowanswer2v Aanswer2v canswer2v answer2v) {edk0 : Nat} {rowdk0 : Rowb} {dk0 : Odisk_Disk} (hdk0 : Odisk_Disk.ob edk0 Γ en.2 rowdk0 dk0) (hp : Pre [rown, [(ganswer0, .cells #[(pq gn)] 27 (0, 0))], [(ganswer1, .cells #[.int .i64 answer1v0, .int .i64 answer1v1, .int .i64 answer1v2, .int .i64 answer1v3, .int .i64 answer1v4, .int .i64 answer1v5, .int .i64 answer1v6, .int .i64 answer1v7, .int .i64 answer1v8, .string answer1v9, .slice Aanswer1v10 answer1v10.length canswer1v10, .slice Aanswer1v11 answer1v11.length canswer1v11, .slice Aanswer1v12 answer1v12.length canswer1v12, .slice Aanswer1v13 answer1v13.length canswer1v13, .slice Aanswer1v14 answer1v14.length canswer1v14] 40 (0, 0))], [(ganswer2, .cells #[.slice Aanswer2v answer2v.length canswer2v] 34 (0, 0))], rowanswer2v, rowdk0] Γ w0) {r : Onode_Node × (List Dapi_Msg) × Odisk_Disk} (h : m_node_Node_put n m answer1v0 answer1v1 answer1v2 answer1v3 answer1v4 answer1v5 answer1v6 answer1v7 answer1v8 answer1v9 answer1v10 answer1v11 answer1v12 answer1v13 answer1v14 answer2v dk0 = some r) : Calls Tryz.prog 32 #[(pq gn), .agg #[.int .i64 m.kind, .int .i64 m.from_.site, .int .i64 m.from_.node, .int .i64 m.to_.site, .int .i64 m.to_.node, .int .i64 m.id, .int .i64 m.n, .int .i64 m.for_, .int .i64 m.code, .string m.key, .slice Am10 m.recs.length cm10, .slice Am11 m.vec.length cm11, .slice Am12 m.path.length cm12, .slice Am13 m.hashes.length cm13, .slice Am14 m.route.length cm14], .func (.func 41) #[] #[(pq ganswer0), (pq ganswer1), (pq ganswer2)]] w0 (Outc Γ [rown, [(ganswer0, .cells #[(pq gn)] 27 (0, 0))], [(ganswer1, .cells #[.int .i64 answer1v0, .int .i64 answer1v1, .int .i64 answer1v2, .int .i64 answer1v3, .int .i64 answer1v4, .int .i64 answer1v5, .int .i64 answer1v6, .int .i64 answer1v7, .int .i64 answer1v8, .string answer1v9, .slice Aanswer1v10 answer1v10.length canswer1v10, .slice Aanswer1v11 answer1v11.length canswer1v11, .slice Aanswer1v12 answer1v12.length canswer1v12, .slice Aanswer1v13 answer1v13.length canswer1v13, .slice Aanswer1v14 answer1v14.length canswer1v14] 40 (0, 0))], [(ganswer2, .cells #[.slice Aanswer2v answer2v.length canswer2v] 34 (0, 0))], rowanswer2v, rowdk0] w0 (r_node_Node_put gn en ganswer0 ganswer1 answer1v0 answer1v1 answer1v2 answer1v3 answer1v4 answer1v5 answer1v6 answer1v7 answer1v8 answer1v9 Aanswer1v10 canswer1v10 answer1v10 Aanswer1v11 canswer1v11 answer1v11 Aanswer1v12 canswer1v12 answer1v12 Aanswer1v13 canswer1v13 answer1v13 Aanswer1v14 canswer1v14 answer1v14 ganswer2 Aanswer2v canswer2v answer2v rowanswer2v edk0 r)) := by
 refine calls_of (N := 53) (rs := []) (args := [(pq gn), .agg #[.int .i64 m.kind, .int .i64 m.from_.site, .int .i64 m.from_.node, .int .i64 m.to_.site, .int .i64 m.to_.node, .int .i64 m.id, .int .i64 m.n, .int .i64 m.for_, .int .i64 m.code, .string m.key, .slice Am10 m.recs.length cm10, .slice Am11 m.vec.length cm11, .slice Am12 m.path.length cm12, .slice Am13 m.hashes.length cm13, .slice Am14 m.route.length cm14], .func (.func 41) #[] #[(pq ganswer0), (pq ganswer1), (pq ganswer2)]]) Tryz.func32 rfl Tryz.ntmps32 Tryz.results32 rfl ?_
 obtain ⟨F, hF⟩ : ∃ F : Fm, F = ⟨ids [rown, [(ganswer0, .cells #[(pq gn)] 27 (0, 0))], [(ganswer1, .cells #[.int .i64 answer1v0, .int .i64 answer1v1, .int .i64 answer1v2, .int .i64 answer1v3, .int .i64 answer1v4, .int .i64 answer1v5, .int .i64 answer1v6, .int .i64 answer1v7, .int .i64 answer1v8, .string answer1v9, .slice Aanswer1v10 answer1v10.length canswer1v10, .slice Aanswer1v11 answer1v11.length canswer1v11, .slice Aanswer1v12 answer1v12.length canswer1v12, .slice Aanswer1v13 answer1v13.length canswer1v13, .slice Aanswer1v14 answer1v14.length canswer1v14] 40 (0, 0))], [(ganswer2, .cells #[.slice Aanswer2v answer2v.length canswer2v] 34 (0, 0))], rowanswer2v, rowdk0], w0, Γ⟩ := ⟨_, rfl⟩
 refine WC.here (C := CC F Γ [rown, [(ganswer0, .cells #[(pq gn)] 27 (0, 0))], [(ganswer1, .cells #[.int .i64 answer1v0, .int .i64 answer1v1, .int .i64 answer1v2, .int .i64 answer1v3, .int .i64 answer1v4, .int .i64 answer1v5, .int .i64 answer1v6, .int .i64 answer1v7, .int .i64 answer1v8, .string answer1v9, .slice Aanswer1v10 answer1v10.length canswer1v10, .slice Aanswer1v11 answer1v11.length canswer1v11, .slice Aanswer1v12 answer1v12.length canswer1v12, .slice Aanswer1v13 answer1v13.length canswer1v13, .slice Aanswer1v14 answer1v14.length canswer1v14] 40 (0, 0))], [(ganswer2, .cells #[.slice Aanswer2v answer2v.length canswer2v] 34 (0, 0))], rowanswer2v, rowdk0]) ?_ (hF ▸ hp.start)
 refine WC.rs ?_
 refine e_box (v := .agg #[.int .i64 m.kind, .int .i64 m.from_.site, .int .i64 m.from_.node, .int .i64 m.to_.site, .int .i64 m.to_.node, .int .i64 m.id, .int .i64 m.n, .int .i64 m.for_, .int .i64 m.code, .string m.key, .slice Am10 m.recs.length cm10, .slice Am11 m.vec.length cm11, .slice Am12 m.path.length cm12, .slice Am13 m.hashes.length cm13, .slice Am14 m.route.length cm14]) rfl rfl rfl rfl (by kernel_rfl) ?_
 intro g1
 refine WR.done ?_
 refine WC.seq (WC.seq ?_)
 have hq := hn
 obtain ⟨g4_2, r4_2, m5_2, r5_2, m6_2, r6_2, hrow_2, ho0_2, ho1_2, ho2_2, ho3_2, ho4_2, ho5_2, -⟩ := hq
 intro w hw; have hw := hw.unfold (i := 1) rfl hrow_2
 refine WC.here (C := CC F Γ [[(gn, .cells #[.int .i64 n.life, .pointer (some ⟨en.2, 0, none⟩), .int .i64 n.self_site, .int .i64 n.self_node, (pq g4_2), .map (some m5_2), .map (some m6_2)] en.1 (0, 0))], r4_2, r5_2, r6_2, [(g1, .cells #[.int .i64 m.kind, .int .i64 m.from_.site, .int .i64 m.from_.node, .int .i64 m.to_.site, .int .i64 m.to_.node, .int .i64 m.id, .int .i64 m.n, .int .i64 m.for_, .int .i64 m.code, .string m.key, .slice Am10 m.recs.length cm10, .slice Am11 m.vec.length cm11, .slice Am12 m.path.length cm12, .slice Am13 m.hashes.length cm13, .slice Am14 m.route.length cm14] 40 (0, 0))], [(ganswer0, .cells #[(pq gn)] 27 (0, 0))], [(ganswer1, .cells #[.int .i64 answer1v0, .int .i64 answer1v1, .int .i64 answer1v2, .int .i64 answer1v3, .int .i64 answer1v4, .int .i64 answer1v5, .int .i64 answer1v6, .int .i64 answer1v7, .int .i64 answer1v8, .string answer1v9, .slice Aanswer1v10 answer1v10.length canswer1v10, .slice Aanswer1v11 answer1v11.length canswer1v11, .slice Aanswer1v12 answer1v12.length canswer1v12, .slice Aanswer1v13 answer1v13.length canswer1v13, .slice Aanswer1v14 answer1v14.length canswer1v14] 40 (0, 0))], [(ganswer2, .cells #[.slice Aanswer2v answer2v.length canswer2v] 34 (0, 0))], rowanswer2v, rowdk0]) ?_ hw
 clear hw
 refine WC.dr (by kernel_rfl) (by kernel_rfl) (fun w hw => hw.drawn _) ?_
 refine wa rfl rfl rfl (q_fl 7 fld_40_5 rfl rfl rfl) (wa rfl rfl rfl (q_ldl (i := 4) (v := .int .i64 m.for_) rfl rfl Tryz.isAgg3 rfl rfl) (wa rfl rfl rfl (q_neq rfl rfl rfl) (wa rfl rfl rfl (q_move (v := .bool (m.for_ != 0)) rfl (by kernel_rfl)) (wg1 rfl rfl rfl rfl rfl (fun hg3 => QV.qo (q_fl 7 fld_40_5 rfl rfl rfl)) (wg1 rfl rfl rfl rfl rfl (fun hg4 => QV.qo (q_ldl (i := 4) (v := .int .i64 m.for_) rfl rfl Tryz.isAgg3 (gu hg4 rfl) rfl)) (wg1 rfl rfl rfl rfl rfl (fun hg5 => QV.qo (q_move (v := (pq gn)) rfl (by kernel_rfl))) (wg1 rfl rfl rfl rfl rfl (fun hg6 => QV.qo (q_nil (A := some ⟨gn, 0, none⟩) rfl (gu hg6 rfl) rfl)) ?_)))))))
 refine wg1 rfl rfl rfl rfl rfl (fun hg7 => QV.qo (q_fl 2 fld_74_2 rfl (gu hg7 rfl) rfl)) (wg1 rfl rfl rfl rfl rfl (fun hg8 => QV.qo (q_fl 3 fld_32_1 rfl (gu hg8 rfl) rfl)) (wg1 rfl rfl rfl rfl rfl (fun hg9 => QV.qo (q_ldl (i := 0) (v := .int .i64 n.self_node) rfl rfl Tryz.isAgg3 (gu hg9 rfl) rfl)) (wg1 rfl rfl rfl rfl rfl (fun hg10 => QV.qo (q_neq rfl (gu hg10 rfl) (gu hg10 rfl))) (wa rfl rfl rfl (q_pick rfl rfl (pk_and' (g := (m.for_ != 0)) (y := (m.for_ != n.self_node)))) ?_))))
 refine WQ.nil ?_
 change WC _ _ _ _ _ _
 refine WC.cif h (by kernel_rfl) (fun hb11 h => ?_) (fun hb11 h => ?_)
 ·
  refine WC.seq ?_
  intro w hw; have h012 := hw.le
  refine WC.here (C := CC F Γ [[(gn, .cells #[.int .i64 n.life, .pointer (some ⟨en.2, 0, none⟩), .int .i64 n.self_site, .int .i64 n.self_node, (pq g4_2), .map (some m5_2), .map (some m6_2)] en.1 (0, 0))], r4_2, r5_2, r6_2, [(g1, .cells #[.int .i64 m.kind, .int .i64 m.from_.site, .int .i64 m.from_.node, .int .i64 m.to_.site, .int .i64 m.to_.node, .int .i64 m.id, .int .i64 m.n, .int .i64 m.for_, .int .i64 m.code, .string m.key, .slice Am10 m.recs.length cm10, .slice Am11 m.vec.length cm11, .slice Am12 m.path.length cm12, .slice Am13 m.hashes.length cm13, .slice Am14 m.route.length cm14] 40 (0, 0))], [(ganswer0, .cells #[(pq gn)] 27 (0, 0))], [(ganswer1, .cells #[.int .i64 answer1v0, .int .i64 answer1v1, .int .i64 answer1v2, .int .i64 answer1v3, .int .i64 answer1v4, .int .i64 answer1v5, .int .i64 answer1v6, .int .i64 answer1v7, .int .i64 answer1v8, .string answer1v9, .slice Aanswer1v10 answer1v10.length canswer1v10, .slice Aanswer1v11 answer1v11.length canswer1v11, .slice Aanswer1v12 answer1v12.length canswer1v12, .slice Aanswer1v13 answer1v13.length canswer1v13, .slice Aanswer1v14 answer1v14.length canswer1v14] 40 (0, 0))], [(ganswer2, .cells #[.slice Aanswer2v answer2v.length canswer2v] 34 (0, 0))], rowanswer2v, rowdk0]) ?_ hw; clear hw
  refine WC.held (CC F Γ [[(gn, .cells #[.int .i64 n.life, .pointer (some ⟨en.2, 0, none⟩), .int .i64 n.self_site, .int .i64 n.self_node, (pq g4_2), .map (some m5_2), .map (some m6_2)] en.1 (0, 0))], r4_2, r6_2, [(g1, .cells #[.int .i64 m.kind, .int .i64 m.from_.site, .int .i64 m.from_.node, .int .i64 m.to_.site, .int .i64 m.to_.node, .int .i64 m.id, .int .i64 m.n, .int .i64 m.for_, .int .i64 m.code, .string m.key, .slice Am10 m.recs.length cm10, .slice Am11 m.vec.length cm11, .slice Am12 m.path.length cm12, .slice Am13 m.hashes.length cm13, .slice Am14 m.route.length cm14] 40 (0, 0))], [(ganswer0, .cells #[(pq gn)] 27 (0, 0))], [(ganswer1, .cells #[.int .i64 answer1v0, .int .i64 answer1v1, .int .i64 answer1v2, .int .i64 answer1v3, .int .i64 answer1v4, .int .i64 answer1v5, .int .i64 answer1v6, .int .i64 answer1v7, .int .i64 answer1v8, .string answer1v9, .slice Aanswer1v10 answer1v10.length canswer1v10, .slice Aanswer1v11 answer1v11.length canswer1v11, .slice Aanswer1v12 answer1v12.length canswer1v12, .slice Aanswer1v13 answer1v13.length canswer1v13, .slice Aanswer1v14 answer1v14.length canswer1v14] 40 (0, 0))], [(ganswer2, .cells #[.slice Aanswer2v answer2v.length canswer2v] 34 (0, 0))]]) (by kernel_rfl) (fun w hw => hw.drawn _) ?_
  change WH _ _ _ _ (CC F Γ [[(gn, .cells #[.int .i64 n.life, .pointer (some ⟨en.2, 0, none⟩), .int .i64 n.self_site, .int .i64 n.self_node, (pq g4_2), .map (some m5_2), .map (some m6_2)] en.1 (0, 0))], r4_2, r5_2, r6_2, [(g1, .cells #[.int .i64 m.kind, .int .i64 m.from_.site, .int .i64 m.from_.node, .int .i64 m.to_.site, .int .i64 m.to_.node, .int .i64 m.id, .int .i64 m.n, .int .i64 m.for_, .int .i64 m.code, .string m.key, .slice Am10 m.recs.length cm10, .slice Am11 m.vec.length cm11, .slice Am12 m.path.length cm12, .slice Am13 m.hashes.length cm13, .slice Am14 m.route.length cm14] 40 (0, 0))], [(ganswer0, .cells #[(pq gn)] 27 (0, 0))], [(ganswer1, .cells #[.int .i64 answer1v0, .int .i64 answer1v1, .int .i64 answer1v2, .int .i64 answer1v3, .int .i64 answer1v4, .int .i64 answer1v5, .int .i64 answer1v6, .int .i64 answer1v7, .int .i64 answer1v8, .string answer1v9, .slice Aanswer1v10 answer1v10.length canswer1v10, .slice Aanswer1v11 answer1v11.length canswer1v11, .slice Aanswer1v12 answer1v12.length canswer1v12, .slice Aanswer1v13 answer1v13.length canswer1v13, .slice Aanswer1v14 answer1v14.length canswer1v14] 40 (0, 0))], [(ganswer2, .cells #[.slice Aanswer2v answer2v.length canswer2v] 34 (0, 0))], rowanswer2v, rowdk0]) _ 10 #[false, false, false, false, false, false, false, false, false, false] _
  refine hu 0 rfl (bk_ (Gh.refl _) h012 (.cons_cons _ (.cons_cons _ (.cons _ (.cons_cons _ (.cons_cons _ (.cons_cons _ (.cons_cons _ (.cons_cons _ (.cons _ (.cons _ .slnil))))))))))) (q_move (v := (pq gn)) rfl (by kernel_rfl)) (hu 1 rfl (bk_ (Gh.refl _) h012 (.cons_cons _ (.cons_cons _ (.cons _ (.cons_cons _ (.cons_cons _ (.cons_cons _ (.cons_cons _ (.cons_cons _ (.cons _ (.cons _ .slnil))))))))))) (q_nil (A := some ⟨gn, 0, none⟩) rfl rfl rfl) (hu 2 rfl (bk_ (Gh.refl _) h012 (.cons_cons _ (.cons_cons _ (.cons _ (.cons_cons _ (.cons_cons _ (.cons_cons _ (.cons_cons _ (.cons_cons _ (.cons _ (.cons _ .slnil))))))))))) (q_fl 5 fld_74_4 rfl rfl rfl) (hu 3 rfl (bk_ (Gh.refl _) h012 (.cons_cons _ (.cons_cons _ (.cons _ (.cons_cons _ (.cons_cons _ (.cons_cons _ (.cons_cons _ (.cons_cons _ (.cons _ (.cons _ .slnil))))))))))) (q_ldl (i := 0) (v := .map (some m5_2)) rfl rfl Tryz.isAgg71 rfl rfl) (hu 4 rfl (bk_ (Gh.refl _) h012 (.cons_cons _ (.cons_cons _ (.cons _ (.cons_cons _ (.cons_cons _ (.cons_cons _ (.cons_cons _ (.cons_cons _ (.cons _ (.cons _ .slnil))))))))))) (q_fl 7 fld_40_5 rfl rfl rfl) (hu 5 rfl (bk_ (Gh.refl _) h012 (.cons_cons _ (.cons_cons _ (.cons _ (.cons_cons _ (.cons_cons _ (.cons_cons _ (.cons_cons _ (.cons_cons _ (.cons _ (.cons _ .slnil))))))))))) (q_ldl (i := 3) (v := .int .i64 m.for_) rfl rfl Tryz.isAgg3 rfl rfl) ?_)))))
  refine hu 7 rfl (bk_ (Gh.refl _) h012 (.cons_cons _ (.cons_cons _ (.cons _ (.cons_cons _ (.cons_cons _ (.cons_cons _ (.cons_cons _ (.cons_cons _ (.cons _ (.cons _ .slnil))))))))))) (q_fl 10 fld_40_8 rfl rfl rfl) (hu 8 rfl (bk_ (Gh.refl _) h012 (.cons_cons _ (.cons_cons _ (.cons _ (.cons_cons _ (.cons_cons _ (.cons_cons _ (.cons_cons _ (.cons_cons _ (.cons _ (.cons _ .slnil))))))))))) (q_ldl (i := 3) (v := .slice Am10 m.recs.length cm10) rfl rfl Tryz.isAgg22 rfl rfl) ?_)
  refine WH.lone (i := 6) (by kernel_rfl) rfl ?_
  obtain ⟨o13, hq14, h⟩ := bnd h
  obtain ⟨gs15, rM16, rA17, rS18, rB19, hat20, hsub21, hrow22, hm23, hback24⟩ := MapJ.part ho4_2 hq14
  have hm23 : Ostore_Store.ob (107, en.2) Γ gs15 rS18 o13 := hm23
  refine vb (q_lookup1r (v := (pq gs15)) (fun w hw p hp => hw.at_ (i := 2) rfl (by rw [hrow22]; exact List.mem_append.2 (.inl (hsub21 p hp)))) hat20 rfl Tryz.underlying71 Tryz.zeroValue68 rfl rfl) ?_
  intro w hw; have hw := hw.unfold (U := [rA17, rS18, rB19]) (i := 2) rfl (by rw [hrow22]; simp)
  refine WR.here (C := CC F Γ [rA17, rS18, rB19, [(gn, .cells #[.int .i64 n.life, .pointer (some ⟨en.2, 0, none⟩), .int .i64 n.self_site, .int .i64 n.self_node, (pq g4_2), .map (some m5_2), .map (some m6_2)] en.1 (0, 0))], r4_2, r6_2, [(g1, .cells #[.int .i64 m.kind, .int .i64 m.from_.site, .int .i64 m.from_.node, .int .i64 m.to_.site, .int .i64 m.to_.node, .int .i64 m.id, .int .i64 m.n, .int .i64 m.for_, .int .i64 m.code, .string m.key, .slice Am10 m.recs.length cm10, .slice Am11 m.vec.length cm11, .slice Am12 m.path.length cm12, .slice Am13 m.hashes.length cm13, .slice Am14 m.route.length cm14] 40 (0, 0))], [(ganswer0, .cells #[(pq gn)] 27 (0, 0))], [(ganswer1, .cells #[.int .i64 answer1v0, .int .i64 answer1v1, .int .i64 answer1v2, .int .i64 answer1v3, .int .i64 answer1v4, .int .i64 answer1v5, .int .i64 answer1v6, .int .i64 answer1v7, .int .i64 answer1v8, .string answer1v9, .slice Aanswer1v10 answer1v10.length canswer1v10, .slice Aanswer1v11 answer1v11.length canswer1v11, .slice Aanswer1v12 answer1v12.length canswer1v12, .slice Aanswer1v13 answer1v13.length canswer1v13, .slice Aanswer1v14 answer1v14.length canswer1v14] 40 (0, 0))], [(ganswer2, .cells #[.slice Aanswer2v answer2v.length canswer2v] 34 (0, 0))], rowanswer2v, rowdk0]) ?_ hw
  clear hw
  refine WR.nil ?_
  refine WH.next (bk_ (Gh.refl _) h012 (.cons _ (.cons _ (.cons _ (.cons_cons _ (.cons_cons _ (.cons_cons _ (.cons_cons _ (.cons_cons _ (.cons_cons _ (.cons_cons _ (.cons _ (.cons _ .slnil))))))))))))) ?_
  refine WH.lone (i := 9) (by kernel_rfl) rfl ?_
  obtain ⟨z25, hz26, h⟩ := bnd h
  refine e_call (is := [1, 10]) rfl rfl (call_run Tryz.call56 rfl rfl (by kernel_rfl)) rfl (fun w hp => t_node_lay hm23 hm.2.2.2.2.2.2.2.2.2.2.1.2 hm.2.2.2.2.2.2.2.2.2.2.1.1 hdk0 hp hz26) ?_
  rintro Γ27 U29 v30 hl28 ⟨row31, row33, rfl, rfl, hr32, hr34, hr35, _⟩
  change WR _ _ _ (CC F Γ27 [row31, row33, rA17, rB19, [(gn, .cells #[.int .i64 n.life, .pointer (some ⟨en.2, 0, none⟩), .int .i64 n.self_site, .int .i64 n.self_node, (pq g4_2), .map (some m5_2), .map (some m6_2)] en.1 (0, 0))], r4_2, r6_2, [(g1, .cells #[.int .i64 m.kind, .int .i64 m.from_.site, .int .i64 m.from_.node, .int .i64 m.to_.site, .int .i64 m.to_.node, .int .i64 m.id, .int .i64 m.n, .int .i64 m.for_, .int .i64 m.code, .string m.key, .slice Am10 m.recs.length cm10, .slice Am11 m.vec.length cm11, .slice Am12 m.path.length cm12, .slice Am13 m.hashes.length cm13, .slice Am14 m.route.length cm14] 40 (0, 0))], [(ganswer0, .cells #[(pq gn)] 27 (0, 0))], [(ganswer1, .cells #[.int .i64 answer1v0, .int .i64 answer1v1, .int .i64 answer1v2, .int .i64 answer1v3, .int .i64 answer1v4, .int .i64 answer1v5, .int .i64 answer1v6, .int .i64 answer1v7, .int .i64 answer1v8, .string answer1v9, .slice Aanswer1v10 answer1v10.length canswer1v10, .slice Aanswer1v11 answer1v11.length canswer1v11, .slice Aanswer1v12 answer1v12.length canswer1v12, .slice Aanswer1v13 answer1v13.length canswer1v13, .slice Aanswer1v14 answer1v14.length canswer1v14] 40 (0, 0))], [(ganswer2, .cells #[.slice Aanswer2v answer2v.length canswer2v] 34 (0, 0))], rowanswer2v]) _ _ (upd _ 29 (.int .i64 z25.2.2))
  refine WR.nil ?_
  refine WH.next (bk_ hl28 h012 (.cons _ (.cons _ (.cons _ (.cons _ (.cons_cons _ (.cons_cons _ (.cons_cons _ (.cons_cons _ (.cons_cons _ (.cons_cons _ (.cons_cons _ (.cons _ .slnil))))))))))))) ?_
  refine WH.done (by kernel_rfl) ?_
  change WC _ _ _ _ _ _
  refine WC.ret ?_
  intro w hw
  obtain ⟨row36, hrow37, hm38⟩ : ∃ rw : Rowb, rw = ([rA17, row31, rB19] : List Rowb).flatten ∧ MapJ (intK Tryz.underlying3) (Ostore_Store.tob (107, en.2)) Γ27 rw m5_2 (mput m.for_ z25.1 n.hints) := ⟨_, rfl, by simpa using hback24 _ _ _ hl28 hr32⟩
  have hw := hw.fold (is := [2, 0, 1]) rfl hrow37
  obtain ⟨row_39, hrow_39, hob_39⟩ : ∃ rw : Rowb, rw = ([[(gn, .cells #[.int .i64 n.life, .pointer (some ⟨en.2, 0, none⟩), .int .i64 n.self_site, .int .i64 n.self_node, (pq g4_2), .map (some m5_2), .map (some m6_2)] en.1 (0, 0))], r4_2, row36, r6_2] : List Rowb).flatten ∧ Onode_Node.ob en Γ27 gn rw (⟨n.life, n.self_site, n.self_node, n.own, (mput m.for_ z25.1 n.hints), n.does⟩ : Onode_Node) := ⟨_, rfl, g4_2, r4_2, m5_2, row36, m6_2, r6_2, rfl, ho0_2, ho1_2, ho2_2, (ho3_2.mono hl28), hm38, (ho5_2.mono hl28), trivial⟩
  have hw := hw.fold (is := [2, 2, 0, 1]) rfl hrow_39
  obtain rfl := Option.some.inj h
  subst hF
  exact end_e (is := [0, 2, 2, 2, 2, 0]) (by kernel_rfl) hw rfl ⟨row_39, Aanswer2v, canswer2v, rowanswer2v, row33, rfl, rfl, hob_39, (hanswer2v.mono hl28), hr34, trivial⟩
 ·
  refine WC.skip ?_
  change WC _ _ _ _ _ _
  refine WC.seq (WC.seq ?_)
  intro w hw; have h040 := hw.le
  refine WC.here (C := CC F Γ [[(gn, .cells #[.int .i64 n.life, .pointer (some ⟨en.2, 0, none⟩), .int .i64 n.self_site, .int .i64 n.self_node, (pq g4_2), .map (some m5_2), .map (some m6_2)] en.1 (0, 0))], r4_2, r5_2, r6_2, [(g1, .cells #[.int .i64 m.kind, .int .i64 m.from_.site, .int .i64 m.from_.node, .int .i64 m.to_.site, .int .i64 m.to_.node, .int .i64 m.id, .int .i64 m.n, .int .i64 m.for_, .int .i64 m.code, .string m.key, .slice Am10 m.recs.length cm10, .slice Am11 m.vec.length cm11, .slice Am12 m.path.length cm12, .slice Am13 m.hashes.length cm13, .slice Am14 m.route.length cm14] 40 (0, 0))], [(ganswer0, .cells #[(pq gn)] 27 (0, 0))], [(ganswer1, .cells #[.int .i64 answer1v0, .int .i64 answer1v1, .int .i64 answer1v2, .int .i64 answer1v3, .int .i64 answer1v4, .int .i64 answer1v5, .int .i64 answer1v6, .int .i64 answer1v7, .int .i64 answer1v8, .string answer1v9, .slice Aanswer1v10 answer1v10.length canswer1v10, .slice Aanswer1v11 answer1v11.length canswer1v11, .slice Aanswer1v12 answer1v12.length canswer1v12, .slice Aanswer1v13 answer1v13.length canswer1v13, .slice Aanswer1v14 answer1v14.length canswer1v14] 40 (0, 0))], [(ganswer2, .cells #[.slice Aanswer2v answer2v.length canswer2v] 34 (0, 0))], rowanswer2v, rowdk0]) ?_ hw; clear hw
  refine WC.held (CC F Γ [[(gn, .cells #[.int .i64 n.life, .pointer (some ⟨en.2, 0, none⟩), .int .i64 n.self_site, .int .i64 n.self_node, (pq g4_2), .map (some m5_2), .map (some m6_2)] en.1 (0, 0))], r6_2, [(g1, .cells #[.int .i64 m.kind, .int .i64 m.from_.site, .int .i64 m.from_.node, .int .i64 m.to_.site, .int .i64 m.to_.node, .int .i64 m.id, .int .i64 m.n, .int .i64 m.for_, .int .i64 m.code, .string m.key, .slice Am10 m.recs.length cm10, .slice Am11 m.vec.length cm11, .slice Am12 m.path.length cm12, .slice Am13 m.hashes.length cm13, .slice Am14 m.route.length cm14] 40 (0, 0))], [(ganswer0, .cells #[(pq gn)] 27 (0, 0))], [(ganswer1, .cells #[.int .i64 answer1v0, .int .i64 answer1v1, .int .i64 answer1v2, .int .i64 answer1v3, .int .i64 answer1v4, .int .i64 answer1v5, .int .i64 answer1v6, .int .i64 answer1v7, .int .i64 answer1v8, .string answer1v9, .slice Aanswer1v10 answer1v10.length canswer1v10, .slice Aanswer1v11 answer1v11.length canswer1v11, .slice Aanswer1v12 answer1v12.length canswer1v12, .slice Aanswer1v13 answer1v13.length canswer1v13, .slice Aanswer1v14 answer1v14.length canswer1v14] 40 (0, 0))], [(ganswer2, .cells #[.slice Aanswer2v answer2v.length canswer2v] 34 (0, 0))]]) (by kernel_rfl) (fun w hw => hw.drawn _) ?_
  change WH _ _ _ _ (CC F Γ [[(gn, .cells #[.int .i64 n.life, .pointer (some ⟨en.2, 0, none⟩), .int .i64 n.self_site, .int .i64 n.self_node, (pq g4_2), .map (some m5_2), .map (some m6_2)] en.1 (0, 0))], r4_2, r5_2, r6_2, [(g1, .cells #[.int .i64 m.kind, .int .i64 m.from_.site, .int .i64 m.from_.node, .int .i64 m.to_.site, .int .i64 m.to_.node, .int .i64 m.id, .int .i64 m.n, .int .i64 m.for_, .int .i64 m.code, .string m.key, .slice Am10 m.recs.length cm10, .slice Am11 m.vec.length cm11, .slice Am12 m.path.length cm12, .slice Am13 m.hashes.length cm13, .slice Am14 m.route.length cm14] 40 (0, 0))], [(ganswer0, .cells #[(pq gn)] 27 (0, 0))], [(ganswer1, .cells #[.int .i64 answer1v0, .int .i64 answer1v1, .int .i64 answer1v2, .int .i64 answer1v3, .int .i64 answer1v4, .int .i64 answer1v5, .int .i64 answer1v6, .int .i64 answer1v7, .int .i64 answer1v8, .string answer1v9, .slice Aanswer1v10 answer1v10.length canswer1v10, .slice Aanswer1v11 answer1v11.length canswer1v11, .slice Aanswer1v12 answer1v12.length canswer1v12, .slice Aanswer1v13 answer1v13.length canswer1v13, .slice Aanswer1v14 answer1v14.length canswer1v14] 40 (0, 0))], [(ganswer2, .cells #[.slice Aanswer2v answer2v.length canswer2v] 34 (0, 0))], rowanswer2v, rowdk0]) _ 8 #[false, false, false, false, false, false, false, false] _
  refine hu 0 rfl (bk_ (Gh.refl _) h040 (.cons_cons _ (.cons _ (.cons _ (.cons_cons _ (.cons_cons _ (.cons_cons _ (.cons_cons _ (.cons_cons _ (.cons _ (.cons _ .slnil))))))))))) (q_move (v := (pq gn)) rfl (by kernel_rfl)) (hu 1 rfl (bk_ (Gh.refl _) h040 (.cons_cons _ (.cons _ (.cons _ (.cons_cons _ (.cons_cons _ (.cons_cons _ (.cons_cons _ (.cons_cons _ (.cons _ (.cons _ .slnil))))))))))) (q_nil (A := some ⟨gn, 0, none⟩) rfl rfl rfl) (hu 2 rfl (bk_ (Gh.refl _) h040 (.cons_cons _ (.cons _ (.cons _ (.cons_cons _ (.cons_cons _ (.cons_cons _ (.cons_cons _ (.cons_cons _ (.cons _ (.cons _ .slnil))))))))))) (q_fl 4 fld_74_3 rfl rfl rfl) (hu 3 rfl (bk_ (Gh.refl _) h040 (.cons_cons _ (.cons _ (.cons _ (.cons_cons _ (.cons_cons _ (.cons_cons _ (.cons_cons _ (.cons_cons _ (.cons _ (.cons _ .slnil))))))))))) (q_ldl (i := 0) (v := (pq g4_2)) rfl rfl Tryz.isAgg68 rfl rfl) (hu 4 rfl (bk_ (Gh.refl _) h040 (.cons_cons _ (.cons _ (.cons _ (.cons_cons _ (.cons_cons _ (.cons_cons _ (.cons_cons _ (.cons_cons _ (.cons _ (.cons _ .slnil))))))))))) (q_fl 10 fld_40_8 rfl rfl rfl) (hu 5 rfl (bk_ (Gh.refl _) h040 (.cons_cons _ (.cons _ (.cons _ (.cons_cons _ (.cons_cons _ (.cons_cons _ (.cons_cons _ (.cons_cons _ (.cons _ (.cons _ .slnil))))))))))) (q_ldl (i := 2) (v := .slice Am10 m.recs.length cm10) rfl rfl Tryz.isAgg22 rfl rfl) ?_)))))
  refine WH.lone (i := 6) (by kernel_rfl) rfl ?_
  obtain ⟨z41, hz42, h⟩ := bnd h
  refine e_call (is := [1, 8]) rfl rfl (call_run Tryz.call56 rfl rfl (by kernel_rfl)) rfl (fun w hp => t_node_lay ho3_2 hm.2.2.2.2.2.2.2.2.2.2.1.2 hm.2.2.2.2.2.2.2.2.2.2.1.1 hdk0 hp hz42) ?_
  rintro Γ43 U45 v46 hl44 ⟨row47, row49, rfl, rfl, hr48, hr50, hr51, _⟩
  change WR _ _ _ (CC F Γ43 [row47, row49, [(gn, .cells #[.int .i64 n.life, .pointer (some ⟨en.2, 0, none⟩), .int .i64 n.self_site, .int .i64 n.self_node, (pq g4_2), .map (some m5_2), .map (some m6_2)] en.1 (0, 0))], r5_2, r6_2, [(g1, .cells #[.int .i64 m.kind, .int .i64 m.from_.site, .int .i64 m.from_.node, .int .i64 m.to_.site, .int .i64 m.to_.node, .int .i64 m.id, .int .i64 m.n, .int .i64 m.for_, .int .i64 m.code, .string m.key, .slice Am10 m.recs.length cm10, .slice Am11 m.vec.length cm11, .slice Am12 m.path.length cm12, .slice Am13 m.hashes.length cm13, .slice Am14 m.route.length cm14] 40 (0, 0))], [(ganswer0, .cells #[(pq gn)] 27 (0, 0))], [(ganswer1, .cells #[.int .i64 answer1v0, .int .i64 answer1v1, .int .i64 answer1v2, .int .i64 answer1v3, .int .i64 answer1v4, .int .i64 answer1v5, .int .i64 answer1v6, .int .i64 answer1v7, .int .i64 answer1v8, .string answer1v9, .slice Aanswer1v10 answer1v10.length canswer1v10, .slice Aanswer1v11 answer1v11.length canswer1v11, .slice Aanswer1v12 answer1v12.length canswer1v12, .slice Aanswer1v13 answer1v13.length canswer1v13, .slice Aanswer1v14 answer1v14.length canswer1v14] 40 (0, 0))], [(ganswer2, .cells #[.slice Aanswer2v answer2v.length canswer2v] 34 (0, 0))], rowanswer2v]) _ _ (upd _ 36 (.int .i64 z41.2.2))
  refine WR.nil ?_
  refine WH.next (bk_ hl44 h040 (.cons _ (.cons _ (.cons_cons _ (.cons _ (.cons_cons _ (.cons_cons _ (.cons_cons _ (.cons_cons _ (.cons_cons _ (.cons _ .slnil))))))))))) ?_
  refine hu 7 rfl (bk_ hl44 h040 (.cons _ (.cons _ (.cons_cons _ (.cons _ (.cons_cons _ (.cons_cons _ (.cons_cons _ (.cons_cons _ (.cons_cons _ (.cons _ .slnil))))))))))) (q_assign (v := .int .i64 z41.2.2) rfl (by kernel_rfl)) ?_
  refine WH.done (by kernel_rfl) ?_
  change WC _ _ _ _ _ _
  refine WC.rs (mv (v := .int .i64 z41.2.2) (vb (q_neq rfl rfl rfl) ?_))
  refine WR.done ?_
  refine WC.cif h (by kernel_rfl) (fun hb52 h => ?_) (fun hb52 h => ?_)
  ·
   refine WC.rs (mv (v := .func (.func 41) #[] #[(pq ganswer0), (pq ganswer1), (pq ganswer2)]) (mv (v := .int .i64 z41.2.2) (vb (q_build' (v := .agg #[.int .i64 3, .int .i64 0, .int .i64 0, .int .i64 0, .int .i64 0, .int .i64 0, .int .i64 0, .int .i64 0, .int .i64 z41.2.2, .string ByteArray.empty, .slice none 0 0, .slice none 0 0, .slice none 0 0, .slice none 0 0, .slice none 0 0]) rfl (bargs2 rfl rfl) (fun w => by kernel_rfl)) ?_)))
   obtain ⟨row_53, hrow_53, hob_53⟩ : ∃ rw : Rowb, rw = ([[(gn, .cells #[.int .i64 n.life, .pointer (some ⟨en.2, 0, none⟩), .int .i64 n.self_site, .int .i64 n.self_node, (pq g4_2), .map (some m5_2), .map (some m6_2)] en.1 (0, 0))], row47, r5_2, r6_2] : List Rowb).flatten ∧ Onode_Node.ob en Γ43 gn rw (⟨n.life, n.self_site, n.self_node, z41.1, n.hints, n.does⟩ : Onode_Node) := ⟨_, rfl, g4_2, row47, m5_2, r5_2, m6_2, r6_2, rfl, ho0_2, ho1_2, ho2_2, hr48, (ho4_2.mono hl44), (ho5_2.mono hl44), trivial⟩
   intro w hw; have hw := hw.fold (is := [2, 0, 1, 1]) rfl hrow_53
   refine WR.here (C := CC F Γ43 [row_53, row49, [(g1, .cells #[.int .i64 m.kind, .int .i64 m.from_.site, .int .i64 m.from_.node, .int .i64 m.to_.site, .int .i64 m.to_.node, .int .i64 m.id, .int .i64 m.n, .int .i64 m.for_, .int .i64 m.code, .string m.key, .slice Am10 m.recs.length cm10, .slice Am11 m.vec.length cm11, .slice Am12 m.path.length cm12, .slice Am13 m.hashes.length cm13, .slice Am14 m.route.length cm14] 40 (0, 0))], [(ganswer0, .cells #[(pq gn)] 27 (0, 0))], [(ganswer1, .cells #[.int .i64 answer1v0, .int .i64 answer1v1, .int .i64 answer1v2, .int .i64 answer1v3, .int .i64 answer1v4, .int .i64 answer1v5, .int .i64 answer1v6, .int .i64 answer1v7, .int .i64 answer1v8, .string answer1v9, .slice Aanswer1v10 answer1v10.length canswer1v10, .slice Aanswer1v11 answer1v11.length canswer1v11, .slice Aanswer1v12 answer1v12.length canswer1v12, .slice Aanswer1v13 answer1v13.length canswer1v13, .slice Aanswer1v14 answer1v14.length canswer1v14] 40 (0, 0))], [(ganswer2, .cells #[.slice Aanswer2v answer2v.length canswer2v] 34 (0, 0))], rowanswer2v]) ?_ hw
   clear hw
   obtain ⟨z54, hz55, h⟩ := bnd h
   refine e_call (is := [3, 0, 2, 2, 2]) rfl rfl (call_run_fv (caps := #[(pq ganswer0), (pq ganswer1), (pq ganswer2)]) Tryz.call41 rfl (by kernel_rfl) (by kernel_rfl)) rfl (fun w hp => t_node_Node_Handle_1 (Aa10 := none) (ca10 := 0) (Aa11 := none) (ca11 := 0) (Aa12 := none) (ca12 := 0) (Aa13 := none) (ca13 := 0) (Aa14 := none) (ca14 := 0) (⟨3, (⟨0, 0⟩ : Adr), (⟨0, 0⟩ : Adr), 0, 0, 0, z41.2.2, ByteArray.empty, [], [], [], [], []⟩ : Dapi_Msg) ⟨(show I64 3 by decide), (show I64 0 by decide), (show I64 0 by decide), (show I64 0 by decide), (show I64 0 by decide), (show I64 0 by decide), (show I64 0 by decide), (show I64 0 by decide), hr51, (show (ByteArray.empty : ByteArray).size ≤ lim by decide), ⟨Nat.zero_le _, Sl.nil _ _ _⟩, ⟨Nat.zero_le _, Sl.nil _ _ _⟩, ⟨Nat.zero_le _, Sl.nil _ _ _⟩, ⟨Nat.zero_le _, Sl.nil _ _ _⟩, ⟨Nat.zero_le _, Sl.nil _ _ _⟩⟩ hob_53 answer1v0 hanswer1v0 answer1v1 hanswer1v1 answer1v2 hanswer1v2 answer1v3 hanswer1v3 answer1v4 hanswer1v4 answer1v5 hanswer1v5 answer1v6 hanswer1v6 answer1v7 hanswer1v7 answer1v8 hanswer1v8 answer1v9 hanswer1v9 (hanswer1v10.mono hl44) hanswer1v10c (hanswer1v11.mono hl44) hanswer1v11c (hanswer1v12.mono hl44) hanswer1v12c (hanswer1v13.mono hl44) hanswer1v13c (hanswer1v14.mono hl44) hanswer1v14c (hanswer2v.mono hl44) hp hz55) ?_
   rintro Γ56 U58 v59 hl57 ⟨A60, c61, row62, rfl, rfl, hr63, _⟩
   change WR _ _ _ (CC F Γ56 [[(ganswer0, .cells #[(pq gn)] 27 (0, 0))], row_53, [(ganswer1, .cells #[.int .i64 answer1v0, .int .i64 answer1v1, .int .i64 answer1v2, .int .i64 answer1v3, .int .i64 answer1v4, .int .i64 answer1v5, .int .i64 answer1v6, .int .i64 answer1v7, .int .i64 answer1v8, .string answer1v9, .slice Aanswer1v10 answer1v10.length canswer1v10, .slice Aanswer1v11 answer1v11.length canswer1v11, .slice Aanswer1v12 answer1v12.length canswer1v12, .slice Aanswer1v13 answer1v13.length canswer1v13, .slice Aanswer1v14 answer1v14.length canswer1v14] 40 (0, 0))], [(ganswer2, .cells #[.slice A60 z54.length c61] 34 (0, 0))], row62, row49, [(g1, .cells #[.int .i64 m.kind, .int .i64 m.from_.site, .int .i64 m.from_.node, .int .i64 m.to_.site, .int .i64 m.to_.node, .int .i64 m.id, .int .i64 m.n, .int .i64 m.for_, .int .i64 m.code, .string m.key, .slice Am10 m.recs.length cm10, .slice Am11 m.vec.length cm11, .slice Am12 m.path.length cm12, .slice Am13 m.hashes.length cm13, .slice Am14 m.route.length cm14] 40 (0, 0))]]) _ _ (upd _ 42 (.tuple #[]))
   refine WR.done ?_
   refine WC.ret ?_
   intro w hw
   obtain rfl := Option.some.inj h
   subst hF
   exact end_e (is := [1, 0, 0, 0, 0, 0]) (by kernel_rfl) hw rfl ⟨row_53, A60, c61, row62, row49, rfl, rfl, (hob_53.mono hl57), hr63, (hr50.mono hl57), trivial⟩
  ·
   refine WC.skip ?_
   change WC _ _ _ _ _ _
   obtain ⟨row_64, hrow_64, hob_64⟩ : ∃ rw : Rowb, rw = ([[(gn, .cells #[.int .i64 n.life, .pointer (some ⟨en.2, 0, none⟩), .int .i64 n.self_site, .int .i64 n.self_node, (pq g4_2), .map (some m5_2), .map (some m6_2)] en.1 (0, 0))], row47, r5_2, r6_2] : List Rowb).flatten ∧ Onode_Node.ob en Γ43 gn rw (⟨n.life, n.self_site, n.self_node, z41.1, n.hints, n.does⟩ : Onode_Node) := ⟨_, rfl, g4_2, row47, m5_2, r5_2, m6_2, r6_2, rfl, ho0_2, ho1_2, ho2_2, hr48, (ho4_2.mono hl44), (ho5_2.mono hl44), trivial⟩
   intro w hw; have hw := hw.fold (is := [2, 0, 1, 1]) rfl hrow_64
   refine WC.here (C := CC F Γ43 [row_64, row49, [(g1, .cells #[.int .i64 m.kind, .int .i64 m.from_.site, .int .i64 m.from_.node, .int .i64 m.to_.site, .int .i64 m.to_.node, .int .i64 m.id, .int .i64 m.n, .int .i64 m.for_, .int .i64 m.code, .string m.key, .slice Am10 m.recs.length cm10, .slice Am11 m.vec.length cm11, .slice Am12 m.path.length cm12, .slice Am13 m.hashes.length cm13, .slice Am14 m.route.length cm14] 40 (0, 0))], [(ganswer0, .cells #[(pq gn)] 27 (0, 0))], [(ganswer1, .cells #[.int .i64 answer1v0, .int .i64 answer1v1, .int .i64 answer1v2, .int .i64 answer1v3, .int .i64 answer1v4, .int .i64 answer1v5, .int .i64 answer1v6, .int .i64 answer1v7, .int .i64 answer1v8, .string answer1v9, .slice Aanswer1v10 answer1v10.length canswer1v10, .slice Aanswer1v11 answer1v11.length canswer1v11, .slice Aanswer1v12 answer1v12.length canswer1v12, .slice Aanswer1v13 answer1v13.length canswer1v13, .slice Aanswer1v14 answer1v14.length canswer1v14] 40 (0, 0))], [(ganswer2, .cells #[.slice Aanswer2v answer2v.length canswer2v] 34 (0, 0))], rowanswer2v]) ?_ hw
   clear hw
   intro w hw; have h065 := hw.le
   refine WC.here (C := CC F Γ43 [row_64, row49, [(g1, .cells #[.int .i64 m.kind, .int .i64 m.from_.site, .int .i64 m.from_.node, .int .i64 m.to_.site, .int .i64 m.to_.node, .int .i64 m.id, .int .i64 m.n, .int .i64 m.for_, .int .i64 m.code, .string m.key, .slice Am10 m.recs.length cm10, .slice Am11 m.vec.length cm11, .slice Am12 m.path.length cm12, .slice Am13 m.hashes.length cm13, .slice Am14 m.route.length cm14] 40 (0, 0))], [(ganswer0, .cells #[(pq gn)] 27 (0, 0))], [(ganswer1, .cells #[.int .i64 answer1v0, .int .i64 answer1v1, .int .i64 answer1v2, .int .i64 answer1v3, .int .i64 answer1v4, .int .i64 answer1v5, .int .i64 answer1v6, .int .i64 answer1v7, .int .i64 answer1v8, .string answer1v9, .slice Aanswer1v10 answer1v10.length canswer1v10, .slice Aanswer1v11 answer1v11.length canswer1v11, .slice Aanswer1v12 answer1v12.length canswer1v12, .slice Aanswer1v13 answer1v13.length canswer1v13, .slice Aanswer1v14 answer1v14.length canswer1v14] 40 (0, 0))], [(ganswer2, .cells #[.slice Aanswer2v answer2v.length canswer2v] 34 (0, 0))], rowanswer2v]) ?_ hw; clear hw
   refine WC.held (CC F Γ43 [[(g1, .cells #[.int .i64 m.kind, .int .i64 m.from_.site, .int .i64 m.from_.node, .int .i64 m.to_.site, .int .i64 m.to_.node, .int .i64 m.id, .int .i64 m.n, .int .i64 m.for_, .int .i64 m.code, .string m.key, .slice Am10 m.recs.length cm10, .slice Am11 m.vec.length cm11, .slice Am12 m.path.length cm12, .slice Am13 m.hashes.length cm13, .slice Am14 m.route.length cm14] 40 (0, 0))]]) (by kernel_rfl) (fun w hw => hw.drawn _) ?_
   change WH _ _ _ _ (CC F Γ43 [row_64, row49, [(g1, .cells #[.int .i64 m.kind, .int .i64 m.from_.site, .int .i64 m.from_.node, .int .i64 m.to_.site, .int .i64 m.to_.node, .int .i64 m.id, .int .i64 m.n, .int .i64 m.for_, .int .i64 m.code, .string m.key, .slice Am10 m.recs.length cm10, .slice Am11 m.vec.length cm11, .slice Am12 m.path.length cm12, .slice Am13 m.hashes.length cm13, .slice Am14 m.route.length cm14] 40 (0, 0))], [(ganswer0, .cells #[(pq gn)] 27 (0, 0))], [(ganswer1, .cells #[.int .i64 answer1v0, .int .i64 answer1v1, .int .i64 answer1v2, .int .i64 answer1v3, .int .i64 answer1v4, .int .i64 answer1v5, .int .i64 answer1v6, .int .i64 answer1v7, .int .i64 answer1v8, .string answer1v9, .slice Aanswer1v10 answer1v10.length canswer1v10, .slice Aanswer1v11 answer1v11.length canswer1v11, .slice Aanswer1v12 answer1v12.length canswer1v12, .slice Aanswer1v13 answer1v13.length canswer1v13, .slice Aanswer1v14 answer1v14.length canswer1v14] 40 (0, 0))], [(ganswer2, .cells #[.slice Aanswer2v answer2v.length canswer2v] 34 (0, 0))], rowanswer2v]) _ 10 #[false, false, false, false, false, false, false, false, false, false] _
   refine hu 0 rfl (bk_ (Gh.refl _) h065 (.cons _ (.cons _ (.cons_cons _ (.cons _ (.cons _ (.cons _ (.cons _ .slnil)))))))) (q_move (v := .func (.func 41) #[] #[(pq ganswer0), (pq ganswer1), (pq ganswer2)]) rfl (by kernel_rfl)) (hu 1 rfl (bk_ (Gh.refl _) h065 (.cons _ (.cons _ (.cons_cons _ (.cons _ (.cons _ (.cons _ (.cons _ .slnil)))))))) (q_move (v := (pq gn)) rfl (by kernel_rfl)) (hu 2 rfl (bk_ (Gh.refl _) h065 (.cons _ (.cons _ (.cons_cons _ (.cons _ (.cons _ (.cons _ (.cons _ .slnil)))))))) (q_nil (A := some ⟨gn, 0, none⟩) rfl rfl rfl) (hu 3 rfl (bk_ (Gh.refl _) h065 (.cons _ (.cons _ (.cons_cons _ (.cons _ (.cons _ (.cons _ (.cons _ .slnil)))))))) (q_fl 0 fld_74_0 rfl rfl rfl) (hu 5 rfl (bk_ (Gh.refl _) h065 (.cons _ (.cons _ (.cons_cons _ (.cons _ (.cons _ (.cons _ (.cons _ .slnil)))))))) (q_fl 10 fld_40_8 rfl rfl rfl) (hu 6 rfl (bk_ (Gh.refl _) h065 (.cons _ (.cons _ (.cons_cons _ (.cons _ (.cons _ (.cons _ (.cons _ .slnil)))))))) (q_ldl (i := 0) (v := .slice Am10 m.recs.length cm10) rfl rfl Tryz.isAgg22 rfl rfl) ?_)))))
   obtain ⟨z66, hz67, h⟩ := bnd h
   refine WH.each (l := [4, 7]) (by kernel_rfl) (by simp) ?_
   intro i hi; simp only [List.mem_cons, List.not_mem_nil, or_false] at hi
   rcases hi with rfl | rfl
   ·
    refine ⟨_, rfl, ?_⟩
    have hq := hob_64
    obtain ⟨g4_68, r4_68, m5_68, r5_68, m6_68, r6_68, hrow_68, ho0_68, ho1_68, ho2_68, ho3_68, ho4_68, ho5_68, -⟩ := hq
    intro w hw; have hw := hw.unfold (i := 0) rfl hrow_68
    refine WR.here (C := CC F Γ43 [[(gn, .cells #[.int .i64 (⟨n.life, n.self_site, n.self_node, z41.1, n.hints, n.does⟩ : Onode_Node).life, .pointer (some ⟨en.2, 0, none⟩), .int .i64 (⟨n.life, n.self_site, n.self_node, z41.1, n.hints, n.does⟩ : Onode_Node).self_site, .int .i64 (⟨n.life, n.self_site, n.self_node, z41.1, n.hints, n.does⟩ : Onode_Node).self_node, (pq g4_68), .map (some m5_68), .map (some m6_68)] en.1 (0, 0))], r4_68, r5_68, r6_68, row49, [(g1, .cells #[.int .i64 m.kind, .int .i64 m.from_.site, .int .i64 m.from_.node, .int .i64 m.to_.site, .int .i64 m.to_.node, .int .i64 m.id, .int .i64 m.n, .int .i64 m.for_, .int .i64 m.code, .string m.key, .slice Am10 m.recs.length cm10, .slice Am11 m.vec.length cm11, .slice Am12 m.path.length cm12, .slice Am13 m.hashes.length cm13, .slice Am14 m.route.length cm14] 40 (0, 0))], [(ganswer0, .cells #[(pq gn)] 27 (0, 0))], [(ganswer1, .cells #[.int .i64 answer1v0, .int .i64 answer1v1, .int .i64 answer1v2, .int .i64 answer1v3, .int .i64 answer1v4, .int .i64 answer1v5, .int .i64 answer1v6, .int .i64 answer1v7, .int .i64 answer1v8, .string answer1v9, .slice Aanswer1v10 answer1v10.length canswer1v10, .slice Aanswer1v11 answer1v11.length canswer1v11, .slice Aanswer1v12 answer1v12.length canswer1v12, .slice Aanswer1v13 answer1v13.length canswer1v13, .slice Aanswer1v14 answer1v14.length canswer1v14] 40 (0, 0))], [(ganswer2, .cells #[.slice Aanswer2v answer2v.length canswer2v] 34 (0, 0))], rowanswer2v]) ?_ hw
    clear hw
    refine vb (q_ldl (i := 0) (v := .int .i64 (⟨n.life, n.self_site, n.self_node, z41.1, n.hints, n.does⟩ : Onode_Node).life) rfl rfl Tryz.isAgg2 rfl rfl) ?_
    refine WR.nil ?_
    refine WH.next (bk_ (Gh.refl _) h065 (.cons _ (.cons _ (.cons _ (.cons _ (.cons _ (.cons_cons _ (.cons _ (.cons _ (.cons _ (.cons _ .slnil))))))))))) ?_
    refine WH.lone (i := 7) (by kernel_rfl) rfl ?_
    refine e_call (is := []) rfl rfl (call_run Tryz.call57 rfl rfl (by kernel_rfl)) rfl (fun w hp => t_node_own (hm.2.2.2.2.2.2.2.2.2.2.1.2.mono hl44) hm.2.2.2.2.2.2.2.2.2.2.1.1 hp hz67) ?_
    rintro Γ69 U71 v72 hl70 ⟨A73, c74, row75, rfl, rfl, hr76, _⟩
    change WR _ _ _ (CC F Γ69 [row75, [(gn, .cells #[.int .i64 (⟨n.life, n.self_site, n.self_node, z41.1, n.hints, n.does⟩ : Onode_Node).life, .pointer (some ⟨en.2, 0, none⟩), .int .i64 (⟨n.life, n.self_site, n.self_node, z41.1, n.hints, n.does⟩ : Onode_Node).self_site, .int .i64 (⟨n.life, n.self_site, n.self_node, z41.1, n.hints, n.does⟩ : Onode_Node).self_node, (pq g4_68), .map (some m5_68), .map (some m6_68)] en.1 (0, 0))], r4_68, r5_68, r6_68, row49, [(g1, .cells #[.int .i64 m.kind, .int .i64 m.from_.site, .int .i64 m.from_.node, .int .i64 m.to_.site, .int .i64 m.to_.node, .int .i64 m.id, .int .i64 m.n, .int .i64 m.for_, .int .i64 m.code, .string m.key, .slice Am10 m.recs.length cm10, .slice Am11 m.vec.length cm11, .slice Am12 m.path.length cm12, .slice Am13 m.hashes.length cm13, .slice Am14 m.route.length cm14] 40 (0, 0))], [(ganswer0, .cells #[(pq gn)] 27 (0, 0))], [(ganswer1, .cells #[.int .i64 answer1v0, .int .i64 answer1v1, .int .i64 answer1v2, .int .i64 answer1v3, .int .i64 answer1v4, .int .i64 answer1v5, .int .i64 answer1v6, .int .i64 answer1v7, .int .i64 answer1v8, .string answer1v9, .slice Aanswer1v10 answer1v10.length canswer1v10, .slice Aanswer1v11 answer1v11.length canswer1v11, .slice Aanswer1v12 answer1v12.length canswer1v12, .slice Aanswer1v13 answer1v13.length canswer1v13, .slice Aanswer1v14 answer1v14.length canswer1v14] 40 (0, 0))], [(ganswer2, .cells #[.slice Aanswer2v answer2v.length canswer2v] 34 (0, 0))], rowanswer2v]) _ _ (upd _ 50 (.slice A73 z66.length c74))
    refine WR.nil ?_
    refine WH.next (bk_ hl70 h065 (.cons _ (.cons _ (.cons _ (.cons _ (.cons _ (.cons _ (.cons_cons _ (.cons _ (.cons _ (.cons _ (.cons _ .slnil)))))))))))) ?_
    refine hu 8 rfl (bk_ hl70 h065 (.cons _ (.cons _ (.cons _ (.cons _ (.cons _ (.cons _ (.cons_cons _ (.cons _ (.cons _ (.cons _ (.cons _ .slnil)))))))))))) (q_build' (v := .agg #[.int .i64 2, .int .i64 0, .int .i64 0, .int .i64 0, .int .i64 0, .int .i64 0, .int .i64 (⟨n.life, n.self_site, n.self_node, z41.1, n.hints, n.does⟩ : Onode_Node).life, .int .i64 0, .int .i64 0, .string ByteArray.empty, .slice A73 z66.length c74, .slice none 0 0, .slice none 0 0, .slice none 0 0, .slice none 0 0]) rfl (bargs3 rfl rfl rfl) (fun w => by kernel_rfl)) ?_
    refine WH.lone (i := 9) (by kernel_rfl) rfl ?_
    have hc81 := hr76.capz
    intro w hw; obtain ⟨Γ77, hw, hl78, hr79⟩ := hw.seal (i := 0) rfl; have hs80 := hr76.sl hl78 hr79
    refine WR.here (C := CC F Γ77 [[], [(gn, .cells #[.int .i64 (⟨n.life, n.self_site, n.self_node, z41.1, n.hints, n.does⟩ : Onode_Node).life, .pointer (some ⟨en.2, 0, none⟩), .int .i64 (⟨n.life, n.self_site, n.self_node, z41.1, n.hints, n.does⟩ : Onode_Node).self_site, .int .i64 (⟨n.life, n.self_site, n.self_node, z41.1, n.hints, n.does⟩ : Onode_Node).self_node, (pq g4_68), .map (some m5_68), .map (some m6_68)] en.1 (0, 0))], r4_68, r5_68, r6_68, row49, [(g1, .cells #[.int .i64 m.kind, .int .i64 m.from_.site, .int .i64 m.from_.node, .int .i64 m.to_.site, .int .i64 m.to_.node, .int .i64 m.id, .int .i64 m.n, .int .i64 m.for_, .int .i64 m.code, .string m.key, .slice Am10 m.recs.length cm10, .slice Am11 m.vec.length cm11, .slice Am12 m.path.length cm12, .slice Am13 m.hashes.length cm13, .slice Am14 m.route.length cm14] 40 (0, 0))], [(ganswer0, .cells #[(pq gn)] 27 (0, 0))], [(ganswer1, .cells #[.int .i64 answer1v0, .int .i64 answer1v1, .int .i64 answer1v2, .int .i64 answer1v3, .int .i64 answer1v4, .int .i64 answer1v5, .int .i64 answer1v6, .int .i64 answer1v7, .int .i64 answer1v8, .string answer1v9, .slice Aanswer1v10 answer1v10.length canswer1v10, .slice Aanswer1v11 answer1v11.length canswer1v11, .slice Aanswer1v12 answer1v12.length canswer1v12, .slice Aanswer1v13 answer1v13.length canswer1v13, .slice Aanswer1v14 answer1v14.length canswer1v14] 40 (0, 0))], [(ganswer2, .cells #[.slice Aanswer2v answer2v.length canswer2v] 34 (0, 0))], rowanswer2v]) ?_ hw
    clear hw
    intro w hw; have hw := hw.fold (is := [1, 1, 1, 1]) rfl hrow_68
    refine WR.here (C := CC F Γ77 [row_64, [], row49, [(g1, .cells #[.int .i64 m.kind, .int .i64 m.from_.site, .int .i64 m.from_.node, .int .i64 m.to_.site, .int .i64 m.to_.node, .int .i64 m.id, .int .i64 m.n, .int .i64 m.for_, .int .i64 m.code, .string m.key, .slice Am10 m.recs.length cm10, .slice Am11 m.vec.length cm11, .slice Am12 m.path.length cm12, .slice Am13 m.hashes.length cm13, .slice Am14 m.route.length cm14] 40 (0, 0))], [(ganswer0, .cells #[(pq gn)] 27 (0, 0))], [(ganswer1, .cells #[.int .i64 answer1v0, .int .i64 answer1v1, .int .i64 answer1v2, .int .i64 answer1v3, .int .i64 answer1v4, .int .i64 answer1v5, .int .i64 answer1v6, .int .i64 answer1v7, .int .i64 answer1v8, .string answer1v9, .slice Aanswer1v10 answer1v10.length canswer1v10, .slice Aanswer1v11 answer1v11.length canswer1v11, .slice Aanswer1v12 answer1v12.length canswer1v12, .slice Aanswer1v13 answer1v13.length canswer1v13, .slice Aanswer1v14 answer1v14.length canswer1v14] 40 (0, 0))], [(ganswer2, .cells #[.slice Aanswer2v answer2v.length canswer2v] 34 (0, 0))], rowanswer2v]) ?_ hw
    clear hw
    obtain ⟨z83, hz84, h⟩ := bnd h
    refine e_call (is := [4, 0, 3, 3, 3]) rfl rfl (call_run_fv (caps := #[(pq ganswer0), (pq ganswer1), (pq ganswer2)]) Tryz.call41 rfl (by kernel_rfl) (by kernel_rfl)) rfl (fun w hp => t_node_Node_Handle_1 (Aa11 := none) (ca11 := 0) (Aa12 := none) (ca12 := 0) (Aa13 := none) (ca13 := 0) (Aa14 := none) (ca14 := 0) (⟨2, (⟨0, 0⟩ : Adr), (⟨0, 0⟩ : Adr), 0, (⟨n.life, n.self_site, n.self_node, z41.1, n.hints, n.does⟩ : Onode_Node).life, 0, 0, ByteArray.empty, z66, [], [], [], []⟩ : Dapi_Msg) ⟨(show I64 2 by decide), (show I64 0 by decide), (show I64 0 by decide), (show I64 0 by decide), (show I64 0 by decide), (show I64 0 by decide), ho0_68, (show I64 0 by decide), (show I64 0 by decide), (show (ByteArray.empty : ByteArray).size ≤ lim by decide), ⟨hc81, hs80⟩, ⟨Nat.zero_le _, Sl.nil _ _ _⟩, ⟨Nat.zero_le _, Sl.nil _ _ _⟩, ⟨Nat.zero_le _, Sl.nil _ _ _⟩, ⟨Nat.zero_le _, Sl.nil _ _ _⟩⟩ (hob_64.mono (hl70.trans hl78)) answer1v0 hanswer1v0 answer1v1 hanswer1v1 answer1v2 hanswer1v2 answer1v3 hanswer1v3 answer1v4 hanswer1v4 answer1v5 hanswer1v5 answer1v6 hanswer1v6 answer1v7 hanswer1v7 answer1v8 hanswer1v8 answer1v9 hanswer1v9 (hanswer1v10.mono ((hl44.trans hl70).trans hl78)) hanswer1v10c (hanswer1v11.mono ((hl44.trans hl70).trans hl78)) hanswer1v11c (hanswer1v12.mono ((hl44.trans hl70).trans hl78)) hanswer1v12c (hanswer1v13.mono ((hl44.trans hl70).trans hl78)) hanswer1v13c (hanswer1v14.mono ((hl44.trans hl70).trans hl78)) hanswer1v14c (hanswer2v.mono ((hl44.trans hl70).trans hl78)) hp hz84) ?_
    rintro Γ85 U87 v88 hl86 ⟨A89, c90, row91, rfl, rfl, hr92, _⟩
    change WR _ _ _ (CC F Γ85 [[(ganswer0, .cells #[(pq gn)] 27 (0, 0))], row_64, [(ganswer1, .cells #[.int .i64 answer1v0, .int .i64 answer1v1, .int .i64 answer1v2, .int .i64 answer1v3, .int .i64 answer1v4, .int .i64 answer1v5, .int .i64 answer1v6, .int .i64 answer1v7, .int .i64 answer1v8, .string answer1v9, .slice Aanswer1v10 answer1v10.length canswer1v10, .slice Aanswer1v11 answer1v11.length canswer1v11, .slice Aanswer1v12 answer1v12.length canswer1v12, .slice Aanswer1v13 answer1v13.length canswer1v13, .slice Aanswer1v14 answer1v14.length canswer1v14] 40 (0, 0))], [(ganswer2, .cells #[.slice A89 z83.length c90] 34 (0, 0))], row91, [], row49, [(g1, .cells #[.int .i64 m.kind, .int .i64 m.from_.site, .int .i64 m.from_.node, .int .i64 m.to_.site, .int .i64 m.to_.node, .int .i64 m.id, .int .i64 m.n, .int .i64 m.for_, .int .i64 m.code, .string m.key, .slice Am10 m.recs.length cm10, .slice Am11 m.vec.length cm11, .slice Am12 m.path.length cm12, .slice Am13 m.hashes.length cm13, .slice Am14 m.route.length cm14] 40 (0, 0))]]) _ _ (upd _ 52 (.tuple #[]))
    refine WR.nil ?_
    refine WH.next (bk_ ((hl70.trans hl78).trans hl86) h065 (.cons _ (.cons _ (.cons _ (.cons _ (.cons _ (.cons _ (.cons _ (.cons_cons _ .slnil))))))))) ?_
    refine WH.done (by kernel_rfl) ?_
    intro w hw
    obtain rfl := Option.some.inj h
    subst hF
    exact end_e (is := [1, 0, 0, 0, 0, 1]) (by kernel_rfl) hw rfl ⟨row_64, A89, c90, row91, row49, rfl, rfl, (hob_64.mono ((hl70.trans hl78).trans hl86)), hr92, (hr50.mono ((hl70.trans hl78).trans hl86)), trivial⟩
   ·
    refine ⟨_, rfl, ?_⟩
    refine e_call (is := []) rfl rfl (call_run Tryz.call57 rfl rfl (by kernel_rfl)) rfl (fun w hp => t_node_own (hm.2.2.2.2.2.2.2.2.2.2.1.2.mono hl44) hm.2.2.2.2.2.2.2.2.2.2.1.1 hp hz67) ?_
    rintro Γ68 U70 v71 hl69 ⟨A72, c73, row74, rfl, rfl, hr75, _⟩
    change WR _ _ _ (CC F Γ68 [row74, row_64, row49, [(g1, .cells #[.int .i64 m.kind, .int .i64 m.from_.site, .int .i64 m.from_.node, .int .i64 m.to_.site, .int .i64 m.to_.node, .int .i64 m.id, .int .i64 m.n, .int .i64 m.for_, .int .i64 m.code, .string m.key, .slice Am10 m.recs.length cm10, .slice Am11 m.vec.length cm11, .slice Am12 m.path.length cm12, .slice Am13 m.hashes.length cm13, .slice Am14 m.route.length cm14] 40 (0, 0))], [(ganswer0, .cells #[(pq gn)] 27 (0, 0))], [(ganswer1, .cells #[.int .i64 answer1v0, .int .i64 answer1v1, .int .i64 answer1v2, .int .i64 answer1v3, .int .i64 answer1v4, .int .i64 answer1v5, .int .i64 answer1v6, .int .i64 answer1v7, .int .i64 answer1v8, .string answer1v9, .slice Aanswer1v10 answer1v10.length canswer1v10, .slice Aanswer1v11 answer1v11.length canswer1v11, .slice Aanswer1v12 answer1v12.length canswer1v12, .slice Aanswer1v13 answer1v13.length canswer1v13, .slice Aanswer1v14 answer1v14.length canswer1v14] 40 (0, 0))], [(ganswer2, .cells #[.slice Aanswer2v answer2v.length canswer2v] 34 (0, 0))], rowanswer2v]) _ _ (upd _ 50 (.slice A72 z66.length c73))
    refine WR.nil ?_
    refine WH.next (bk_ hl69 h065 (.cons _ (.cons _ (.cons _ (.cons_cons _ (.cons _ (.cons _ (.cons _ (.cons _ .slnil))))))))) ?_
    refine WH.lone (i := 4) (by kernel_rfl) rfl ?_
    have hq := (hob_64.mono hl69)
    obtain ⟨g4_76, r4_76, m5_76, r5_76, m6_76, r6_76, hrow_76, ho0_76, ho1_76, ho2_76, ho3_76, ho4_76, ho5_76, -⟩ := hq
    intro w hw; have hw := hw.unfold (i := 1) rfl hrow_76
    refine WR.here (C := CC F Γ68 [[(gn, .cells #[.int .i64 (⟨n.life, n.self_site, n.self_node, z41.1, n.hints, n.does⟩ : Onode_Node).life, .pointer (some ⟨en.2, 0, none⟩), .int .i64 (⟨n.life, n.self_site, n.self_node, z41.1, n.hints, n.does⟩ : Onode_Node).self_site, .int .i64 (⟨n.life, n.self_site, n.self_node, z41.1, n.hints, n.does⟩ : Onode_Node).self_node, (pq g4_76), .map (some m5_76), .map (some m6_76)] en.1 (0, 0))], r4_76, r5_76, r6_76, row74, row49, [(g1, .cells #[.int .i64 m.kind, .int .i64 m.from_.site, .int .i64 m.from_.node, .int .i64 m.to_.site, .int .i64 m.to_.node, .int .i64 m.id, .int .i64 m.n, .int .i64 m.for_, .int .i64 m.code, .string m.key, .slice Am10 m.recs.length cm10, .slice Am11 m.vec.length cm11, .slice Am12 m.path.length cm12, .slice Am13 m.hashes.length cm13, .slice Am14 m.route.length cm14] 40 (0, 0))], [(ganswer0, .cells #[(pq gn)] 27 (0, 0))], [(ganswer1, .cells #[.int .i64 answer1v0, .int .i64 answer1v1, .int .i64 answer1v2, .int .i64 answer1v3, .int .i64 answer1v4, .int .i64 answer1v5, .int .i64 answer1v6, .int .i64 answer1v7, .int .i64 answer1v8, .string answer1v9, .slice Aanswer1v10 answer1v10.length canswer1v10, .slice Aanswer1v11 answer1v11.length canswer1v11, .slice Aanswer1v12 answer1v12.length canswer1v12, .slice Aanswer1v13 answer1v13.length canswer1v13, .slice Aanswer1v14 answer1v14.length canswer1v14] 40 (0, 0))], [(ganswer2, .cells #[.slice Aanswer2v answer2v.length canswer2v] 34 (0, 0))], rowanswer2v]) ?_ hw
    clear hw
    refine vb (q_ldl (i := 0) (v := .int .i64 (⟨n.life, n.self_site, n.self_node, z41.1, n.hints, n.does⟩ : Onode_Node).life) rfl rfl Tryz.isAgg2 rfl rfl) ?_
    refine WR.nil ?_
    refine WH.next (bk_ hl69 h065 (.cons _ (.cons _ (.cons _ (.cons _ (.cons _ (.cons _ (.cons_cons _ (.cons _ (.cons _ (.cons _ (.cons _ .slnil)))))))))))) ?_
    refine hu 8 rfl (bk_ hl69 h065 (.cons _ (.cons _ (.cons _ (.cons _ (.cons _ (.cons _ (.cons_cons _ (.cons _ (.cons _ (.cons _ (.cons _ .slnil)))))))))))) (q_build' (v := .agg #[.int .i64 2, .int .i64 0, .int .i64 0, .int .i64 0, .int .i64 0, .int .i64 0, .int .i64 (⟨n.life, n.self_site, n.self_node, z41.1, n.hints, n.does⟩ : Onode_Node).life, .int .i64 0, .int .i64 0, .string ByteArray.empty, .slice A72 z66.length c73, .slice none 0 0, .slice none 0 0, .slice none 0 0, .slice none 0 0]) rfl (bargs3 rfl rfl rfl) (fun w => by kernel_rfl)) ?_
    refine WH.lone (i := 9) (by kernel_rfl) rfl ?_
    have hc81 := hr75.capz
    intro w hw; obtain ⟨Γ77, hw, hl78, hr79⟩ := hw.seal (i := 4) rfl; have hs80 := hr75.sl hl78 hr79
    refine WR.here (C := CC F Γ77 [[(gn, .cells #[.int .i64 (⟨n.life, n.self_site, n.self_node, z41.1, n.hints, n.does⟩ : Onode_Node).life, .pointer (some ⟨en.2, 0, none⟩), .int .i64 (⟨n.life, n.self_site, n.self_node, z41.1, n.hints, n.does⟩ : Onode_Node).self_site, .int .i64 (⟨n.life, n.self_site, n.self_node, z41.1, n.hints, n.does⟩ : Onode_Node).self_node, (pq g4_76), .map (some m5_76), .map (some m6_76)] en.1 (0, 0))], r4_76, r5_76, r6_76, [], row49, [(g1, .cells #[.int .i64 m.kind, .int .i64 m.from_.site, .int .i64 m.from_.node, .int .i64 m.to_.site, .int .i64 m.to_.node, .int .i64 m.id, .int .i64 m.n, .int .i64 m.for_, .int .i64 m.code, .string m.key, .slice Am10 m.recs.length cm10, .slice Am11 m.vec.length cm11, .slice Am12 m.path.length cm12, .slice Am13 m.hashes.length cm13, .slice Am14 m.route.length cm14] 40 (0, 0))], [(ganswer0, .cells #[(pq gn)] 27 (0, 0))], [(ganswer1, .cells #[.int .i64 answer1v0, .int .i64 answer1v1, .int .i64 answer1v2, .int .i64 answer1v3, .int .i64 answer1v4, .int .i64 answer1v5, .int .i64 answer1v6, .int .i64 answer1v7, .int .i64 answer1v8, .string answer1v9, .slice Aanswer1v10 answer1v10.length canswer1v10, .slice Aanswer1v11 answer1v11.length canswer1v11, .slice Aanswer1v12 answer1v12.length canswer1v12, .slice Aanswer1v13 answer1v13.length canswer1v13, .slice Aanswer1v14 answer1v14.length canswer1v14] 40 (0, 0))], [(ganswer2, .cells #[.slice Aanswer2v answer2v.length canswer2v] 34 (0, 0))], rowanswer2v]) ?_ hw
    clear hw
    intro w hw; have hw := hw.fold (is := [0, 0, 0, 0]) rfl hrow_76
    refine WR.here (C := CC F Γ77 [row_64, [], row49, [(g1, .cells #[.int .i64 m.kind, .int .i64 m.from_.site, .int .i64 m.from_.node, .int .i64 m.to_.site, .int .i64 m.to_.node, .int .i64 m.id, .int .i64 m.n, .int .i64 m.for_, .int .i64 m.code, .string m.key, .slice Am10 m.recs.length cm10, .slice Am11 m.vec.length cm11, .slice Am12 m.path.length cm12, .slice Am13 m.hashes.length cm13, .slice Am14 m.route.length cm14] 40 (0, 0))], [(ganswer0, .cells #[(pq gn)] 27 (0, 0))], [(ganswer1, .cells #[.int .i64 answer1v0, .int .i64 answer1v1, .int .i64 answer1v2, .int .i64 answer1v3, .int .i64 answer1v4, .int .i64 answer1v5, .int .i64 answer1v6, .int .i64 answer1v7, .int .i64 answer1v8, .string answer1v9, .slice Aanswer1v10 answer1v10.length canswer1v10, .slice Aanswer1v11 answer1v11.length canswer1v11, .slice Aanswer1v12 answer1v12.length canswer1v12, .slice Aanswer1v13 answer1v13.length canswer1v13, .slice Aanswer1v14 answer1v14.length canswer1v14] 40 (0, 0))], [(ganswer2, .cells #[.slice Aanswer2v answer2v.length canswer2v] 34 (0, 0))], rowanswer2v]) ?_ hw
    clear hw
    obtain ⟨z83, hz84, h⟩ := bnd h
    refine e_call (is := [4, 0, 3, 3, 3]) rfl rfl (call_run_fv (caps := #[(pq ganswer0), (pq ganswer1), (pq ganswer2)]) Tryz.call41 rfl (by kernel_rfl) (by kernel_rfl)) rfl (fun w hp => t_node_Node_Handle_1 (Aa11 := none) (ca11 := 0) (Aa12 := none) (ca12 := 0) (Aa13 := none) (ca13 := 0) (Aa14 := none) (ca14 := 0) (⟨2, (⟨0, 0⟩ : Adr), (⟨0, 0⟩ : Adr), 0, (⟨n.life, n.self_site, n.self_node, z41.1, n.hints, n.does⟩ : Onode_Node).life, 0, 0, ByteArray.empty, z66, [], [], [], []⟩ : Dapi_Msg) ⟨(show I64 2 by decide), (show I64 0 by decide), (show I64 0 by decide), (show I64 0 by decide), (show I64 0 by decide), (show I64 0 by decide), ho0_76, (show I64 0 by decide), (show I64 0 by decide), (show (ByteArray.empty : ByteArray).size ≤ lim by decide), ⟨hc81, hs80⟩, ⟨Nat.zero_le _, Sl.nil _ _ _⟩, ⟨Nat.zero_le _, Sl.nil _ _ _⟩, ⟨Nat.zero_le _, Sl.nil _ _ _⟩, ⟨Nat.zero_le _, Sl.nil _ _ _⟩⟩ (hob_64.mono (hl69.trans hl78)) answer1v0 hanswer1v0 answer1v1 hanswer1v1 answer1v2 hanswer1v2 answer1v3 hanswer1v3 answer1v4 hanswer1v4 answer1v5 hanswer1v5 answer1v6 hanswer1v6 answer1v7 hanswer1v7 answer1v8 hanswer1v8 answer1v9 hanswer1v9 (hanswer1v10.mono ((hl44.trans hl69).trans hl78)) hanswer1v10c (hanswer1v11.mono ((hl44.trans hl69).trans hl78)) hanswer1v11c (hanswer1v12.mono ((hl44.trans hl69).trans hl78)) hanswer1v12c (hanswer1v13.mono ((hl44.trans hl69).trans hl78)) hanswer1v13c (hanswer1v14.mono ((hl44.trans hl69).trans hl78)) hanswer1v14c (hanswer2v.mono ((hl44.trans hl69).trans hl78)) hp hz84) ?_
    rintro Γ85 U87 v88 hl86 ⟨A89, c90, row91, rfl, rfl, hr92, _⟩
    change WR _ _ _ (CC F Γ85 [[(ganswer0, .cells #[(pq gn)] 27 (0, 0))], row_64, [(ganswer1, .cells #[.int .i64 answer1v0, .int .i64 answer1v1, .int .i64 answer1v2, .int .i64 answer1v3, .int .i64 answer1v4, .int .i64 answer1v5, .int .i64 answer1v6, .int .i64 answer1v7, .int .i64 answer1v8, .string answer1v9, .slice Aanswer1v10 answer1v10.length canswer1v10, .slice Aanswer1v11 answer1v11.length canswer1v11, .slice Aanswer1v12 answer1v12.length canswer1v12, .slice Aanswer1v13 answer1v13.length canswer1v13, .slice Aanswer1v14 answer1v14.length canswer1v14] 40 (0, 0))], [(ganswer2, .cells #[.slice A89 z83.length c90] 34 (0, 0))], row91, [], row49, [(g1, .cells #[.int .i64 m.kind, .int .i64 m.from_.site, .int .i64 m.from_.node, .int .i64 m.to_.site, .int .i64 m.to_.node, .int .i64 m.id, .int .i64 m.n, .int .i64 m.for_, .int .i64 m.code, .string m.key, .slice Am10 m.recs.length cm10, .slice Am11 m.vec.length cm11, .slice Am12 m.path.length cm12, .slice Am13 m.hashes.length cm13, .slice Am14 m.route.length cm14] 40 (0, 0))]]) _ _ (upd _ 52 (.tuple #[]))
    refine WR.nil ?_
    refine WH.next (bk_ ((hl69.trans hl78).trans hl86) h065 (.cons _ (.cons _ (.cons _ (.cons _ (.cons _ (.cons _ (.cons _ (.cons_cons _ .slnil))))))))) ?_
    refine WH.done (by kernel_rfl) ?_
    intro w hw
    obtain rfl := Option.some.inj h
    subst hF
    exact end_e (is := [1, 0, 0, 0, 0, 1]) (by kernel_rfl) hw rfl ⟨row_64, A89, c90, row91, row49, rfl, rfl, (hob_64.mono ((hl69.trans hl78).trans hl86)), hr92, (hr50.mono ((hl69.trans hl78).trans hl86)), trivial⟩
theorem t_vers_Lacks {Γ : Gh} {w0 : World} {Aa : Option Addr} {ca : Nat} {a : List Ver} (ha : Sl verT Γ Aa a) (hac : a.length ≤ ca) {Ab : Option Addr} {cb : Nat} {b : List Ver} (hb : Sl verT Γ Ab b) (hbc : b.length ≤ cb) (hs : Sat Γ w0) {r : Bool} (h : m_vers_Lacks a b = some r) : Calls Tryz.prog 59 #[.slice Aa a.length ca, .slice Ab b.length cb] w0 (fun e w' => e = .returned (.bool r) ∧ Fr no w0 w') := by
 refine calls_of (N := 21) (rs := [4]) (args := [.slice Aa a.length ca, .slice Ab b.length cb]) Tryz.func59 rfl Tryz.ntmps59 Tryz.results59 rfl ?_
 obtain ⟨F, hF⟩ : ∃ F : Fm, F = ⟨no, w0, Γ⟩ := ⟨_, rfl⟩
 refine WC.here (C := CC F Γ []) ?_ (hF ▸ Cur.start0 hs)
 refine WC.rs (as_ (v := .bool false) ?_)
 refine WR.done ?_
 refine WC.rs (mv (v := .slice Aa a.length ca) (mv (v := .slice Ab b.length cb) ?_))
 obtain ⟨z1, hz2, h⟩ := bnd h
 refine e_call (is := []) rfl rfl (call_run Tryz.call95 rfl rfl (by kernel_rfl)) rfl (fun w hp => t_vers_Merge ha hac hb hbc hp hz2) ?_
 rintro Γ3 U5 v6 hl4 ⟨A7, c8, row9, rfl, rfl, hr10, hr11, _⟩
 change WR _ _ _ (CC F Γ3 [row9]) _ _ (upd _ 10 (.tuple #[.slice A7 z1.1.length c8, .int .i64 z1.2]))
 refine mv (v := .tuple #[.slice A7 z1.1.length c8, .int .i64 z1.2]) (vb (q_extract (v := .slice A7 z1.1.length c8) rfl rfl rfl) (vb (q_extract (v := .int .i64 z1.2) rfl rfl rfl) (as_ (v := .slice A7 z1.1.length c8) (as_ (v := .int .i64 z1.2) ?_))))
 refine WR.done ?_
 refine WC.rs (mv (v := .int .i64 z1.2) (vb (q_eql rfl rfl rfl) (mv (v := .bool (z1.2 == 0)) (vg1 rfl rfl rfl rfl rfl (fun hg12 => QV.qo (q_move (v := .slice A7 z1.1.length c8) rfl (by kernel_rfl))) (vg1 rfl rfl rfl rfl rfl (fun hg13 => QV.qo (q_move (v := .slice Aa a.length ca) rfl (by kernel_rfl))) ?_)))))
 obtain ⟨z15, hz16, h⟩ := bnd h
 refine vg1 rfl rfl rfl rfl rfl (fun hg14 => (q_call (call_run Tryz.call96 rfl rfl (args2 (gu hg14 rfl) (gu hg14 rfl))) (fun w hw => t_vers_Same (Γ := Gh.all w) (hr10.sl hw.sat.le_all (hw.ra 0 rfl)) hr10.capz ((ha.mono hl4).mono hw.sat.le_all) hac (Sat.all w) (gc_of hz16 hg14)))) (vg1 rfl rfl rfl rfl rfl (fun hg17 => QV.qo (q_not rfl (gu hg17 rfl))) (vb (q_pick rfl rfl (pk_and' (g := (z1.2 == 0)) (y := (!z15)))) (as_ (v := .bool ((z1.2 == 0) && (!z15))) ?_)))
 refine WR.done ?_
 refine WC.ret ?_
 intro w hw
 obtain rfl := Option.some.inj h
 subst hF
 exact ⟨by kernel_rfl, hw.fr⟩
abbrev r_node_Node_done (gn : Nat) (en : Nat × Nat) (ga20 : Nat) (ga21 : Nat) (a21v0 : Int) (a21v1 : Int) (a21v2 : Int) (a21v3 : Int) (a21v4 : Int) (a21v5 : Int) (a21v6 : Int) (a21v7 : Int) (a21v8 : Int) (a21v9 : ByteArray) (Aa21v10 : Option Addr) (ca21v10 : Nat) (a21v10 : List Rec) (Aa21v11 : Option Addr) (ca21v11 : Nat) (a21v11 : List Int) (Aa21v12 : Option Addr) (ca21v12 : Nat) (a21v12 : List Int) (Aa21v13 : Option Addr) (ca21v13 : Nat) (a21v13 : List Int) (Aa21v14 : Option Addr) (ca21v14 : Nat) (a21v14 : List Int) (ga22 : Nat) (Aa22v : Option Addr) (ca22v : Nat) (a22v : List Dapi_Msg) (rowa22v : Rowb) (edk0 : Nat) (r : Onode_Node × Odisk_Disk) (U : List Rowb) (Γ : Gh) (v : Value) : Prop := ∃ (rown' : Rowb), ∃ (rowdk0' : Rowb), v = .tuple #[] ∧ U = [rown', [(ga20, .cells #[.pointer (some ⟨gn, 0, none⟩)] 27 (0, 0))], [(ga21, .cells #[.int .i64 a21v0, .int .i64 a21v1, .int .i64 a21v2, .int .i64 a21v3, .int .i64 a21v4, .int .i64 a21v5, .int .i64 a21v6, .int .i64 a21v7, .int .i64 a21v8, .string a21v9, .slice Aa21v10 a21v10.length ca21v10, .slice Aa21v11 a21v11.length ca21v11, .slice Aa21v12 a21v12.length ca21v12, .slice Aa21v13 a21v13.length ca21v13, .slice Aa21v14 a21v14.length ca21v14] 40 (0, 0))], [(ga22, .cells #[.slice Aa22v a22v.length ca22v] 34 (0, 0))], rowa22v, rowdk0'] ∧ Onode_Node.ob en Γ gn rown' r.1 ∧ Odisk_Disk.ob edk0 Γ en.2 rowdk0' r.2 ∧ True
theorem t_node_Node_done {Γ : Gh} {w0 : World} {gn : Nat} {en : Nat × Nat} {rown : Rowb} {n : Onode_Node} (hn : Onode_Node.ob en Γ gn rown n) {Am10 : Option Addr} {cm10 : Nat} {Am11 : Option Addr} {cm11 : Nat} {Am12 : Option Addr} {cm12 : Nat} {Am13 : Option Addr} {cm13 : Nat} {Am14 : Option Addr} {cm14 : Nat} (m : Dapi_Msg) (hm : Dapi_Msg.fits Γ Am10 cm10 Am11 cm11 Am12 cm12 Am13 cm13 Am14 cm14 m) {ga20 : Nat}  {ga21 : Nat} (a21v0 : Int) (ha21v0 : I64 a21v0) (a21v1 : Int) (ha21v1 : I64 a21v1) (a21v2 : Int) (ha21v2 : I64 a21v2) (a21v3 : Int) (ha21v3 : I64 a21v3) (a21v4 : Int) (ha21v4 : I64 a21v4) (a21v5 : Int) (ha21v5 : I64 a21v5) (a21v6 : Int) (ha21v6 : I64 a21v6) (a21v7 : Int) (ha21v7 : I64 a21v7) (a21v8 : Int) (ha21v8 : I64 a21v8) (a21v9 : ByteArray) (ha21v9 : a21v9.size ≤ lim) {Aa21v10 : Option Addr} {ca21v10 : Nat} {a21v10 : List Rec} (ha21v10 : Sl recT Γ Aa21v10 a21v10) (ha21v10c : a21v10.length ≤ ca21v10) {Aa21v11 : Option Addr} {ca21v11 : Nat} {a21v11 : List Int} (ha21v11 : Sl intT Γ Aa21v11 a21v11) (ha21v11c : a21v11.length ≤ ca21v11) {Aa21v12 : Option Addr} {ca21v12 : Nat} {a21v12 : List Int} (ha21v12 : Sl intT Γ Aa21v12 a21v12) (ha21v12c : a21v12.length ≤ ca21v12) {Aa21v13 : Option Addr} {ca21v13 : Nat} {a21v13 : List Int} (ha21v13 : Sl u64T Γ Aa21v13 a21v13) (ha21v13c : a21v13.length ≤ ca21v13) {Aa21v14 : Option Addr} {ca21v14 : Nat} {a21v14 : List Int} (ha21v14 : Sl intT Γ Aa21v14 a21v14) (ha21v14c : a21v14.length ≤ ca21v14) {ga22 : Nat} {Aa22v : Option Addr} {ca22v : Nat} {rowa22v : Rowb} {a22v : List Dapi_Msg} (ha22v : Own dapi_MsgT Γ 40 rowa22v Aa22v ca22v a22v) {edk0 : Nat} {rowdk0 : Rowb} {dk0 : Odisk_Disk} (hdk0 : Odisk_Disk.ob edk0 Γ en.2 rowdk0 dk0) (hp : Pre [rown, [(ga20, .cells #[(pq gn)] 27 (0, 0))], [(ga21, .cells #[.int .i64 a21v0, .int .i64 a21v1, .int .i64 a21v2, .int .i64 a21v3, .int .i64 a21v4, .int .i64 a21v5, .int .i64 a21v6, .int .i64 a21v7, .int .i64 a21v8, .string a21v9, .slice Aa21v10 a21v10.length ca21v10, .slice Aa21v11 a21v11.length ca21v11, .slice Aa21v12 a21v12.length ca21v12, .slice Aa21v13 a21v13.length ca21v13, .slice Aa21v14 a21v14.length ca21v14] 40 (0, 0))], [(ga22, .cells #[.slice Aa22v a22v.length ca22v] 34 (0, 0))], rowa22v, rowdk0] Γ w0) {r : Onode_Node × Odisk_Disk} (h : m_node_Node_done n m a21v0 a21v1 a21v2 a21v3 a21v4 a21v5 a21v6 a21v7 a21v8 a21v9 a21v10 a21v11 a21v12 a21v13 a21v14 a22v dk0 = some r) : Calls Tryz.prog 33 #[(pq gn), .agg #[.int .i64 m.kind, .int .i64 m.from_.site, .int .i64 m.from_.node, .int .i64 m.to_.site, .int .i64 m.to_.node, .int .i64 m.id, .int .i64 m.n, .int .i64 m.for_, .int .i64 m.code, .string m.key, .slice Am10 m.recs.length cm10, .slice Am11 m.vec.length cm11, .slice Am12 m.path.length cm12, .slice Am13 m.hashes.length cm13, .slice Am14 m.route.length cm14], .func (.func 41) #[] #[(pq ga20), (pq ga21), (pq ga22)]] w0 (Outc Γ [rown, [(ga20, .cells #[(pq gn)] 27 (0, 0))], [(ga21, .cells #[.int .i64 a21v0, .int .i64 a21v1, .int .i64 a21v2, .int .i64 a21v3, .int .i64 a21v4, .int .i64 a21v5, .int .i64 a21v6, .int .i64 a21v7, .int .i64 a21v8, .string a21v9, .slice Aa21v10 a21v10.length ca21v10, .slice Aa21v11 a21v11.length ca21v11, .slice Aa21v12 a21v12.length ca21v12, .slice Aa21v13 a21v13.length ca21v13, .slice Aa21v14 a21v14.length ca21v14] 40 (0, 0))], [(ga22, .cells #[.slice Aa22v a22v.length ca22v] 34 (0, 0))], rowa22v, rowdk0] w0 (r_node_Node_done gn en ga20 ga21 a21v0 a21v1 a21v2 a21v3 a21v4 a21v5 a21v6 a21v7 a21v8 a21v9 Aa21v10 ca21v10 a21v10 Aa21v11 ca21v11 a21v11 Aa21v12 ca21v12 a21v12 Aa21v13 ca21v13 a21v13 Aa21v14 ca21v14 a21v14 ga22 Aa22v ca22v a22v rowa22v edk0 r)) := by
 refine calls_of (N := 47) (rs := []) (args := [(pq gn), .agg #[.int .i64 m.kind, .int .i64 m.from_.site, .int .i64 m.from_.node, .int .i64 m.to_.site, .int .i64 m.to_.node, .int .i64 m.id, .int .i64 m.n, .int .i64 m.for_, .int .i64 m.code, .string m.key, .slice Am10 m.recs.length cm10, .slice Am11 m.vec.length cm11, .slice Am12 m.path.length cm12, .slice Am13 m.hashes.length cm13, .slice Am14 m.route.length cm14], .func (.func 41) #[] #[(pq ga20), (pq ga21), (pq ga22)]]) Tryz.func33 rfl Tryz.ntmps33 Tryz.results33 rfl ?_
 obtain ⟨F, hF⟩ : ∃ F : Fm, F = ⟨ids [rown, [(ga20, .cells #[(pq gn)] 27 (0, 0))], [(ga21, .cells #[.int .i64 a21v0, .int .i64 a21v1, .int .i64 a21v2, .int .i64 a21v3, .int .i64 a21v4, .int .i64 a21v5, .int .i64 a21v6, .int .i64 a21v7, .int .i64 a21v8, .string a21v9, .slice Aa21v10 a21v10.length ca21v10, .slice Aa21v11 a21v11.length ca21v11, .slice Aa21v12 a21v12.length ca21v12, .slice Aa21v13 a21v13.length ca21v13, .slice Aa21v14 a21v14.length ca21v14] 40 (0, 0))], [(ga22, .cells #[.slice Aa22v a22v.length ca22v] 34 (0, 0))], rowa22v, rowdk0], w0, Γ⟩ := ⟨_, rfl⟩
 refine WC.here (C := CC F Γ [rown, [(ga20, .cells #[(pq gn)] 27 (0, 0))], [(ga21, .cells #[.int .i64 a21v0, .int .i64 a21v1, .int .i64 a21v2, .int .i64 a21v3, .int .i64 a21v4, .int .i64 a21v5, .int .i64 a21v6, .int .i64 a21v7, .int .i64 a21v8, .string a21v9, .slice Aa21v10 a21v10.length ca21v10, .slice Aa21v11 a21v11.length ca21v11, .slice Aa21v12 a21v12.length ca21v12, .slice Aa21v13 a21v13.length ca21v13, .slice Aa21v14 a21v14.length ca21v14] 40 (0, 0))], [(ga22, .cells #[.slice Aa22v a22v.length ca22v] 34 (0, 0))], rowa22v, rowdk0]) ?_ (hF ▸ hp.start)
 refine WC.rs ?_
 refine e_box (v := .agg #[.int .i64 m.kind, .int .i64 m.from_.site, .int .i64 m.from_.node, .int .i64 m.to_.site, .int .i64 m.to_.node, .int .i64 m.id, .int .i64 m.n, .int .i64 m.for_, .int .i64 m.code, .string m.key, .slice Am10 m.recs.length cm10, .slice Am11 m.vec.length cm11, .slice Am12 m.path.length cm12, .slice Am13 m.hashes.length cm13, .slice Am14 m.route.length cm14]) rfl rfl rfl rfl (by kernel_rfl) ?_
 intro g1
 refine WR.done ?_
 refine WC.seq ?_
 intro w hw; have h02 := hw.le
 refine WC.here (C := CC F Γ [[(g1, .cells #[.int .i64 m.kind, .int .i64 m.from_.site, .int .i64 m.from_.node, .int .i64 m.to_.site, .int .i64 m.to_.node, .int .i64 m.id, .int .i64 m.n, .int .i64 m.for_, .int .i64 m.code, .string m.key, .slice Am10 m.recs.length cm10, .slice Am11 m.vec.length cm11, .slice Am12 m.path.length cm12, .slice Am13 m.hashes.length cm13, .slice Am14 m.route.length cm14] 40 (0, 0))], rown, [(ga20, .cells #[(pq gn)] 27 (0, 0))], [(ga21, .cells #[.int .i64 a21v0, .int .i64 a21v1, .int .i64 a21v2, .int .i64 a21v3, .int .i64 a21v4, .int .i64 a21v5, .int .i64 a21v6, .int .i64 a21v7, .int .i64 a21v8, .string a21v9, .slice Aa21v10 a21v10.length ca21v10, .slice Aa21v11 a21v11.length ca21v11, .slice Aa21v12 a21v12.length ca21v12, .slice Aa21v13 a21v13.length ca21v13, .slice Aa21v14 a21v14.length ca21v14] 40 (0, 0))], [(ga22, .cells #[.slice Aa22v a22v.length ca22v] 34 (0, 0))], rowa22v, rowdk0]) ?_ hw; clear hw
 refine WC.held (CC F Γ [[(g1, .cells #[.int .i64 m.kind, .int .i64 m.from_.site, .int .i64 m.from_.node, .int .i64 m.to_.site, .int .i64 m.to_.node, .int .i64 m.id, .int .i64 m.n, .int .i64 m.for_, .int .i64 m.code, .string m.key, .slice Am10 m.recs.length cm10, .slice Am11 m.vec.length cm11, .slice Am12 m.path.length cm12, .slice Am13 m.hashes.length cm13, .slice Am14 m.route.length cm14] 40 (0, 0))], [(ga20, .cells #[(pq gn)] 27 (0, 0))], [(ga21, .cells #[.int .i64 a21v0, .int .i64 a21v1, .int .i64 a21v2, .int .i64 a21v3, .int .i64 a21v4, .int .i64 a21v5, .int .i64 a21v6, .int .i64 a21v7, .int .i64 a21v8, .string a21v9, .slice Aa21v10 a21v10.length ca21v10, .slice Aa21v11 a21v11.length ca21v11, .slice Aa21v12 a21v12.length ca21v12, .slice Aa21v13 a21v13.length ca21v13, .slice Aa21v14 a21v14.length ca21v14] 40 (0, 0))], [(ga22, .cells #[.slice Aa22v a22v.length ca22v] 34 (0, 0))]]) (by kernel_rfl) (fun w hw => hw.drawn _) ?_
 change WH _ _ _ _ (CC F Γ [[(g1, .cells #[.int .i64 m.kind, .int .i64 m.from_.site, .int .i64 m.from_.node, .int .i64 m.to_.site, .int .i64 m.to_.node, .int .i64 m.id, .int .i64 m.n, .int .i64 m.for_, .int .i64 m.code, .string m.key, .slice Am10 m.recs.length cm10, .slice Am11 m.vec.length cm11, .slice Am12 m.path.length cm12, .slice Am13 m.hashes.length cm13, .slice Am14 m.route.length cm14] 40 (0, 0))], rown, [(ga20, .cells #[(pq gn)] 27 (0, 0))], [(ga21, .cells #[.int .i64 a21v0, .int .i64 a21v1, .int .i64 a21v2, .int .i64 a21v3, .int .i64 a21v4, .int .i64 a21v5, .int .i64 a21v6, .int .i64 a21v7, .int .i64 a21v8, .string a21v9, .slice Aa21v10 a21v10.length ca21v10, .slice Aa21v11 a21v11.length ca21v11, .slice Aa21v12 a21v12.length ca21v12, .slice Aa21v13 a21v13.length ca21v13, .slice Aa21v14 a21v14.length ca21v14] 40 (0, 0))], [(ga22, .cells #[.slice Aa22v a22v.length ca22v] 34 (0, 0))], rowa22v, rowdk0]) _ 9 #[false, false, false, false, false, false, false, false, false] _
 refine hu 0 rfl (bk_ (Gh.refl _) h02 (.cons_cons _ (.cons _ (.cons_cons _ (.cons_cons _ (.cons_cons _ (.cons _ (.cons _ .slnil)))))))) (q_move (v := (pq gn)) rfl (by kernel_rfl)) (hu 1 rfl (bk_ (Gh.refl _) h02 (.cons_cons _ (.cons _ (.cons_cons _ (.cons_cons _ (.cons_cons _ (.cons _ (.cons _ .slnil)))))))) (q_nil (A := some ⟨gn, 0, none⟩) rfl rfl rfl) (hu 2 rfl (bk_ (Gh.refl _) h02 (.cons_cons _ (.cons _ (.cons_cons _ (.cons_cons _ (.cons_cons _ (.cons _ (.cons _ .slnil)))))))) (q_fl 5 fld_74_4 rfl rfl rfl) (hu 4 rfl (bk_ (Gh.refl _) h02 (.cons_cons _ (.cons _ (.cons_cons _ (.cons_cons _ (.cons_cons _ (.cons _ (.cons _ .slnil)))))))) (q_fl 1 fld_40_1 rfl rfl rfl) (hu 5 rfl (bk_ (Gh.refl _) h02 (.cons_cons _ (.cons _ (.cons_cons _ (.cons_cons _ (.cons_cons _ (.cons _ (.cons _ .slnil)))))))) (q_fl 2 fld_32_1 rfl rfl rfl) (hu 6 rfl (bk_ (Gh.refl _) h02 (.cons_cons _ (.cons _ (.cons_cons _ (.cons_cons _ (.cons_cons _ (.cons _ (.cons _ .slnil)))))))) (q_ldl (i := 0) (v := .int .i64 m.from_.node) rfl rfl Tryz.isAgg3 rfl rfl) ?_)))))
 refine WH.lone (i := 3) (by kernel_rfl) rfl ?_
 have hq := hn
 obtain ⟨g4_3, r4_3, m5_3, r5_3, m6_3, r6_3, hrow_3, ho0_3, ho1_3, ho2_3, ho3_3, ho4_3, ho5_3, -⟩ := hq
 intro w hw; have hw := hw.unfold (i := 1) rfl hrow_3
 refine WR.here (C := CC F Γ [[(gn, .cells #[.int .i64 n.life, .pointer (some ⟨en.2, 0, none⟩), .int .i64 n.self_site, .int .i64 n.self_node, (pq g4_3), .map (some m5_3), .map (some m6_3)] en.1 (0, 0))], r4_3, r5_3, r6_3, [(g1, .cells #[.int .i64 m.kind, .int .i64 m.from_.site, .int .i64 m.from_.node, .int .i64 m.to_.site, .int .i64 m.to_.node, .int .i64 m.id, .int .i64 m.n, .int .i64 m.for_, .int .i64 m.code, .string m.key, .slice Am10 m.recs.length cm10, .slice Am11 m.vec.length cm11, .slice Am12 m.path.length cm12, .slice Am13 m.hashes.length cm13, .slice Am14 m.route.length cm14] 40 (0, 0))], [(ga20, .cells #[(pq gn)] 27 (0, 0))], [(ga21, .cells #[.int .i64 a21v0, .int .i64 a21v1, .int .i64 a21v2, .int .i64 a21v3, .int .i64 a21v4, .int .i64 a21v5, .int .i64 a21v6, .int .i64 a21v7, .int .i64 a21v8, .string a21v9, .slice Aa21v10 a21v10.length ca21v10, .slice Aa21v11 a21v11.length ca21v11, .slice Aa21v12 a21v12.length ca21v12, .slice Aa21v13 a21v13.length ca21v13, .slice Aa21v14 a21v14.length ca21v14] 40 (0, 0))], [(ga22, .cells #[.slice Aa22v a22v.length ca22v] 34 (0, 0))], rowa22v, rowdk0]) ?_ hw
 clear hw
 refine vb (q_ldl (i := 0) (v := .map (some m5_3)) rfl rfl Tryz.isAgg71 rfl rfl) ?_
 refine WR.nil ?_
 refine WH.next (bk_ (Gh.refl _) h02 (.cons _ (.cons _ (.cons _ (.cons _ (.cons_cons _ (.cons_cons _ (.cons_cons _ (.cons_cons _ (.cons _ (.cons _ .slnil))))))))))) ?_
 refine WH.lone (i := 7) (by kernel_rfl) rfl ?_
 obtain hq5 | ⟨o4, hq5⟩ := opt_or (mget m.from_.node n.hints)
 ·
  have h := optm_n hq5 h
  obtain ⟨rM6, hat7, hsub8⟩ := MapJ.no ho4_3 hq5
  refine vb (q_lookup1r (v := .pointer none) (fun w hw p hp => hw.at_ (i := 2) rfl (hsub8 p hp)) hat7 rfl Tryz.underlying71 Tryz.zeroValue68 rfl rfl) ?_
  refine WR.nil ?_
  refine WH.next (bk_ (Gh.refl _) h02 (.cons _ (.cons _ (.cons _ (.cons _ (.cons_cons _ (.cons_cons _ (.cons_cons _ (.cons_cons _ (.cons _ (.cons _ .slnil))))))))))) ?_
  refine hu 8 rfl (bk_ (Gh.refl _) h02 (.cons _ (.cons _ (.cons _ (.cons _ (.cons_cons _ (.cons_cons _ (.cons_cons _ (.cons_cons _ (.cons _ (.cons _ .slnil))))))))))) (q_assign (v := .pointer none) rfl (by kernel_rfl)) ?_
  refine WH.done (by kernel_rfl) ?_
  change WC _ _ _ _ _ _
  refine WC.seq (WC.rs (mv (v := .pointer none) (vb (q_ptr_eql (a := none) Tryz.underlying68 rfl rfl rfl) ?_)))
  refine WR.done ?_
  refine WC.ctk (b := true) (by kernel_rfl) rfl ?_
  refine WC.ret ?_
  intro w hw
  have hw := hw.fold (is := [0, 0, 0, 0]) rfl hrow_3
  obtain rfl := Option.some.inj h
  subst hF
  exact end_e (is := [0, 1, 1, 1, 1, 1]) (by kernel_rfl) hw rfl ⟨rown, rowdk0, rfl, rfl, hn, hdk0, trivial⟩
 ·
  have h := optm_s hq5 h
  obtain ⟨gs10, rM11, rA12, rS13, rB14, hat15, hsub16, hrow17, hm18, hback19⟩ := MapJ.part ho4_3 hq5
  have hm18 : Ostore_Store.ob (107, en.2) Γ gs10 rS13 o4 := hm18
  refine vb (q_lookup1r (v := (pq gs10)) (fun w hw p hp => hw.at_ (i := 2) rfl (by rw [hrow17]; exact List.mem_append.2 (.inl (hsub16 p hp)))) hat15 rfl Tryz.underlying71 Tryz.zeroValue68 rfl rfl) ?_
  intro w hw; have hw := hw.unfold (U := [rA12, rS13, rB14]) (i := 2) rfl (by rw [hrow17]; simp)
  refine WR.here (C := CC F Γ [rA12, rS13, rB14, [(gn, .cells #[.int .i64 n.life, .pointer (some ⟨en.2, 0, none⟩), .int .i64 n.self_site, .int .i64 n.self_node, (pq g4_3), .map (some m5_3), .map (some m6_3)] en.1 (0, 0))], r4_3, r6_3, [(g1, .cells #[.int .i64 m.kind, .int .i64 m.from_.site, .int .i64 m.from_.node, .int .i64 m.to_.site, .int .i64 m.to_.node, .int .i64 m.id, .int .i64 m.n, .int .i64 m.for_, .int .i64 m.code, .string m.key, .slice Am10 m.recs.length cm10, .slice Am11 m.vec.length cm11, .slice Am12 m.path.length cm12, .slice Am13 m.hashes.length cm13, .slice Am14 m.route.length cm14] 40 (0, 0))], [(ga20, .cells #[(pq gn)] 27 (0, 0))], [(ga21, .cells #[.int .i64 a21v0, .int .i64 a21v1, .int .i64 a21v2, .int .i64 a21v3, .int .i64 a21v4, .int .i64 a21v5, .int .i64 a21v6, .int .i64 a21v7, .int .i64 a21v8, .string a21v9, .slice Aa21v10 a21v10.length ca21v10, .slice Aa21v11 a21v11.length ca21v11, .slice Aa21v12 a21v12.length ca21v12, .slice Aa21v13 a21v13.length ca21v13, .slice Aa21v14 a21v14.length ca21v14] 40 (0, 0))], [(ga22, .cells #[.slice Aa22v a22v.length ca22v] 34 (0, 0))], rowa22v, rowdk0]) ?_ hw
  clear hw
  refine WR.nil ?_
  refine WH.next (bk_ (Gh.refl _) h02 (.cons _ (.cons _ (.cons _ (.cons _ (.cons _ (.cons _ (.cons_cons _ (.cons_cons _ (.cons_cons _ (.cons_cons _ (.cons _ (.cons _ .slnil))))))))))))) ?_
  refine hu 8 rfl (bk_ (Gh.refl _) h02 (.cons _ (.cons _ (.cons _ (.cons _ (.cons _ (.cons _ (.cons_cons _ (.cons_cons _ (.cons_cons _ (.cons_cons _ (.cons _ (.cons _ .slnil))))))))))))) (q_assign (v := (pq gs10)) rfl (by kernel_rfl)) ?_
  refine WH.done (by kernel_rfl) ?_
  change WC _ _ _ _ _ _
  refine WC.seq (WC.rs (mv (v := (pq gs10)) (vb (q_ptr_eql (a := some ⟨gs10, 0, none⟩) Tryz.underlying68 rfl rfl rfl) ?_)))
  refine WR.done ?_
  refine WC.cfk (b := false) (by kernel_rfl) rfl ?_
  refine WC.skip ?_
  change WC _ _ _ _ _ _
  refine WC.rs (vb (q_fl 10 fld_40_8 rfl rfl rfl) (vb (q_ldl (i := 6) (v := .slice Am10 m.recs.length cm10) rfl rfl Tryz.isAgg22 rfl rfl) (vb (q_len_slice rfl Tryz.underlying22 rfl) (mv (v := .int .i64 0) ?_))))
  refine WR.done ?_
  refine WC.block ?_
  refine WC.forI h (fun (i29 : Nat) (s : Ostore_Store × Odisk_Disk) σ w => match s with | (o22, o25) => ∃ (Γ20 : Gh), ∃ (row23 : Rowb), ∃ (row26 : Rowb), slots σ [(6, (pq gs10)), (21, .slice Am10 m.recs.length cm10), (22, .int .i64 ((m.recs.length : Nat) : Int)), (23, .int .i64 ((i29 : Nat) : Int))] ∧ CC F Γ20 [rA12, row23, rB14, [(gn, .cells #[.int .i64 n.life, .pointer (some ⟨en.2, 0, none⟩), .int .i64 n.self_site, .int .i64 n.self_node, (pq g4_3), .map (some m5_3), .map (some m6_3)] en.1 (0, 0))], r4_3, r6_3, [(ga20, .cells #[(pq gn)] 27 (0, 0))], [(ga21, .cells #[.int .i64 a21v0, .int .i64 a21v1, .int .i64 a21v2, .int .i64 a21v3, .int .i64 a21v4, .int .i64 a21v5, .int .i64 a21v6, .int .i64 a21v7, .int .i64 a21v8, .string a21v9, .slice Aa21v10 a21v10.length ca21v10, .slice Aa21v11 a21v11.length ca21v11, .slice Aa21v12 a21v12.length ca21v12, .slice Aa21v13 a21v13.length ca21v13, .slice Aa21v14 a21v14.length ca21v14] 40 (0, 0))], [(ga22, .cells #[.slice Aa22v a22v.length ca22v] 34 (0, 0))], rowa22v, row26] w ∧ Gh.le Γ Γ20 ∧ Ostore_Store.ob (107, en.2) Γ20 gs10 row23 o22 ∧ Odisk_Disk.ob edk0 Γ20 en.2 row26 o25 ∧ True) ?_ ?_
  ·
   intro w hw
   exact ⟨Γ, rS13, rowdk0, (sl_ (by kernel_rfl)), (hw.only (is := [0, 0, 0, 0, 0, 0, 1, 1, 1, 1, 1]) rfl), (Gh.refl _), hm18, hdk0, trivial⟩
  rintro f28 i29 ⟨o22, o25⟩ σ w hi30 hlt31 hge32 ⟨Γ20, row23, row26, hsl, hw, hl21, ho24, ho27, -⟩
  refine Wpt.slots hsl ?_
  refine WC.here (C := CC F Γ20 [rA12, row23, rB14, [(gn, .cells #[.int .i64 n.life, .pointer (some ⟨en.2, 0, none⟩), .int .i64 n.self_site, .int .i64 n.self_node, (pq g4_3), .map (some m5_3), .map (some m6_3)] en.1 (0, 0))], r4_3, r6_3, [(ga20, .cells #[(pq gn)] 27 (0, 0))], [(ga21, .cells #[.int .i64 a21v0, .int .i64 a21v1, .int .i64 a21v2, .int .i64 a21v3, .int .i64 a21v4, .int .i64 a21v5, .int .i64 a21v6, .int .i64 a21v7, .int .i64 a21v8, .string a21v9, .slice Aa21v10 a21v10.length ca21v10, .slice Aa21v11 a21v11.length ca21v11, .slice Aa21v12 a21v12.length ca21v12, .slice Aa21v13 a21v13.length ca21v13, .slice Aa21v14 a21v14.length ca21v14] 40 (0, 0))], [(ga22, .cells #[.slice Aa22v a22v.length ca22v] 34 (0, 0))], rowa22v, row26]) ?_ hw
  clear hw hsl
  refine WC.rs (vb (q_lss rfl rfl rfl) ?_)
  refine WR.done ?_
  refine WC.seq ?_
  refine WC.cond (b := (decide (((i29 : Nat) : Int) < ((m.recs.length : Nat) : Int)))) (by kernel_rfl) (fun hb33 => ?_) (fun hb33 => ?_)
  ·
   have hl34 := ilt hb33
   have h := hlt31 hl34
   refine WC.skip ?_
   change WC _ _ _ _ _ _
   refine WC.cut (fun σ w => ∃ (o37 : Ostore_Store), ∃ (o40 : Odisk_Disk), ∃ (Γ35 : Gh), ∃ (row38 : Rowb), ∃ (row41 : Rowb), m_node_Node_done_j5 f28 o37 o40 = some r ∧ slots σ [(6, (pq gs10)), (21, .slice Am10 m.recs.length cm10), (22, .int .i64 ((m.recs.length : Nat) : Int)), (23, .int .i64 ((i29 : Nat) : Int))] ∧ CC F Γ35 [rA12, row38, rB14, [(gn, .cells #[.int .i64 n.life, .pointer (some ⟨en.2, 0, none⟩), .int .i64 n.self_site, .int .i64 n.self_node, (pq g4_3), .map (some m5_3), .map (some m6_3)] en.1 (0, 0))], r4_3, r6_3, [(ga20, .cells #[(pq gn)] 27 (0, 0))], [(ga21, .cells #[.int .i64 a21v0, .int .i64 a21v1, .int .i64 a21v2, .int .i64 a21v3, .int .i64 a21v4, .int .i64 a21v5, .int .i64 a21v6, .int .i64 a21v7, .int .i64 a21v8, .string a21v9, .slice Aa21v10 a21v10.length ca21v10, .slice Aa21v11 a21v11.length ca21v11, .slice Aa21v12 a21v12.length ca21v12, .slice Aa21v13 a21v13.length ca21v13, .slice Aa21v14 a21v14.length ca21v14] 40 (0, 0))], [(ga22, .cells #[.slice Aa22v a22v.length ca22v] 34 (0, 0))], rowa22v, row41] w ∧ Gh.le Γ20 Γ35 ∧ Ostore_Store.ob (107, en.2) Γ35 gs10 row38 o37 ∧ Odisk_Disk.ob edk0 Γ35 en.2 row41 o40 ∧ True) ?_ ?_
   ·
    refine WC.block (WC.rs (vb (q_ixn (i := i29) Tryz.underlying22 Tryz.sizeOf45 rfl rfl rfl hl34 ((hm.2.2.2.2.2.2.2.2.2.2.1.2.mono hl21).some_ hl34)) ?_))
    obtain ⟨A43, c44, hx45⟩ := (hm.2.2.2.2.2.2.2.2.2.2.1.2.mono hl21).recT_at i29
    refine vb (q_lda (c := 0) (vs := [.string (gt m.recs i29).key, .slice A43 ((gt m.recs i29).vers).length c44]) (hx45 hl34).2 rfl Tryz.isAgg45 Tryz.sizeOf45 rfl rfl rfl) ?_
    refine e_alloc Tryz.zeroValue45 rfl rfl rfl rfl ?_
    intro g46
    refine e_st (i := 0) (v := .agg #[.string (gt m.recs i29).key, .slice A43 ((gt m.recs i29).vers).length c44]) (new := #[.string (gt m.recs i29).key, .slice A43 ((gt m.recs i29).vers).length c44]) rfl Tryz.sizeOf45 rfl rfl rfl rfl (by kernel_rfl) rfl rfl rfl rfl ?_
    refine WR.done ?_
    refine WC.rs (mv (v := (pq gs10)) (vb (q_fl 0 fld_45_0 rfl rfl rfl) (vb (q_ldl (i := 0) (v := .string (gt m.recs i29).key) rfl rfl Tryz.isAgg9 rfl rfl) ?_)))
    obtain ⟨z47, hz48, h⟩ := bnd h
    refine e_call (is := [2]) rfl rfl (call_run Tryz.call58 rfl rfl (by kernel_rfl)) rfl (fun w hp => t_store_Store_Get ho24 ((gt m.recs i29).key) (hx45 hl34).1.1 hp hz48) ?_
    rintro Γ49 U51 v52 hl50 ⟨A53, c54, rfl, rfl, hc56, hr55, _⟩
    change WR _ _ _ (CC F Γ49 [row23, [(g46, .cells #[.string (gt m.recs i29).key, .slice A43 ((gt m.recs i29).vers).length c44] 45 (0, 0))], rA12, rB14, [(gn, .cells #[.int .i64 n.life, .pointer (some ⟨en.2, 0, none⟩), .int .i64 n.self_site, .int .i64 n.self_node, (pq g4_3), .map (some m5_3), .map (some m6_3)] en.1 (0, 0))], r4_3, r6_3, [(ga20, .cells #[(pq gn)] 27 (0, 0))], [(ga21, .cells #[.int .i64 a21v0, .int .i64 a21v1, .int .i64 a21v2, .int .i64 a21v3, .int .i64 a21v4, .int .i64 a21v5, .int .i64 a21v6, .int .i64 a21v7, .int .i64 a21v8, .string a21v9, .slice Aa21v10 a21v10.length ca21v10, .slice Aa21v11 a21v11.length ca21v11, .slice Aa21v12 a21v12.length ca21v12, .slice Aa21v13 a21v13.length ca21v13, .slice Aa21v14 a21v14.length ca21v14] 40 (0, 0))], [(ga22, .cells #[.slice Aa22v a22v.length ca22v] 34 (0, 0))], rowa22v, row26]) _ _ (upd _ 30 (.slice A53 z47.length c54))
    refine as_ (v := .slice A53 z47.length c54) ?_
    refine WR.done ?_
    refine WC.rs (mv (v := .slice A53 z47.length c54) (vb (q_len_slice rfl Tryz.underlying43 rfl) (vb (q_gtr rfl rfl rfl) (mv (v := .bool (decide (0 < ((z47.length : Nat) : Int)))) (vg1 rfl rfl rfl rfl rfl (fun hg57 => QV.qo (q_fl 1 fld_45_1 rfl rfl rfl)) (vg1 rfl rfl rfl rfl rfl (fun hg58 => QV.qo (q_ldl (i := 1) (v := .slice A43 ((gt m.recs i29).vers).length c44) rfl rfl Tryz.isAgg43 (gu hg58 rfl) rfl)) (vg1 rfl rfl rfl rfl rfl (fun hg59 => QV.qo (q_move (v := .slice A53 z47.length c54) rfl (by kernel_rfl))) ?_)))))))
    obtain ⟨z61, hz62, h⟩ := bnd h
    refine vg1 rfl rfl rfl rfl rfl (fun hg60 => (q_call (call_run Tryz.call59 rfl rfl (args2 (gu hg60 rfl) (gu hg60 rfl))) (fun w hw => t_vers_Lacks (Γ := Gh.all w) (((hx45 hl34).1.2.2.mono hl50).mono hw.sat.le_all) (hx45 hl34).1.2.1 (hr55.mono hw.sat.le_all) hc56 (Sat.all w) (gc_of hz62 hg60)))) (vg1 rfl rfl rfl rfl rfl (fun hg63 => QV.qo (q_not rfl (gu hg63 rfl))) (vb (q_pick rfl rfl (pk_and' (g := (decide (0 < ((z47.length : Nat) : Int)))) (y := (!z61)))) ?_))
    refine WR.done ?_
    refine WC.cif h (by kernel_rfl) (fun hb64 h => ?_) (fun hb64 h => ?_)
    ·
     refine WC.region ?_
     refine mv (v := (pq gs10)) (vb (q_fl 0 fld_45_0 rfl rfl rfl) (vb (q_ldl (i := 1) (v := .string (gt m.recs i29).key) rfl rfl Tryz.isAgg9 rfl rfl) (vb (q_build' (v := .agg #[.string (gt m.recs i29).key, .slice none 0 0]) rfl (bargs1 rfl) (fun w => by kernel_rfl)) ?_)))
     obtain ⟨z65, hz66, h⟩ := bnd h
     refine e_call (is := [0, 10]) rfl rfl (call_run Tryz.call60 rfl rfl (by kernel_rfl)) rfl (fun w hp => t_store_Store_Put (ho24.mono hl50) (Ar_1 := none) (cr_1 := 0) (⟨(gt m.recs i29).key, []⟩ : Rec) ⟨(hx45 hl34).1.1, ⟨Nat.zero_le _, Sl.nil _ _ _⟩⟩ (ho27.mono hl50) hp hz66) ?_
     rintro Γ67 U69 v70 hl68 ⟨row71, row73, rfl, rfl, hr72, hr74, hr75, _⟩
     change WR _ _ _ (CC F Γ67 [row71, row73, [(g46, .cells #[.string (gt m.recs i29).key, .slice A43 ((gt m.recs i29).vers).length c44] 45 (0, 0))], rA12, rB14, [(gn, .cells #[.int .i64 n.life, .pointer (some ⟨en.2, 0, none⟩), .int .i64 n.self_site, .int .i64 n.self_node, (pq g4_3), .map (some m5_3), .map (some m6_3)] en.1 (0, 0))], r4_3, r6_3, [(ga20, .cells #[(pq gn)] 27 (0, 0))], [(ga21, .cells #[.int .i64 a21v0, .int .i64 a21v1, .int .i64 a21v2, .int .i64 a21v3, .int .i64 a21v4, .int .i64 a21v5, .int .i64 a21v6, .int .i64 a21v7, .int .i64 a21v8, .string a21v9, .slice Aa21v10 a21v10.length ca21v10, .slice Aa21v11 a21v11.length ca21v11, .slice Aa21v12 a21v12.length ca21v12, .slice Aa21v13 a21v13.length ca21v13, .slice Aa21v14 a21v14.length ca21v14] 40 (0, 0))], [(ga22, .cells #[.slice Aa22v a22v.length ca22v] 34 (0, 0))], rowa22v]) _ _ (upd _ 45 (.int .i64 z65.2.2))
     refine WR.nil ?_
     intro w hw
     exact ⟨z65.1, z65.2.1, Γ67, row71, row73, h, (sl_ (by kernel_rfl)), (hw.only (is := [3, 0, 2, 2, 2, 2, 2, 2, 2, 2, 0]) rfl), (hl50.trans hl68), hr72, hr74, trivial⟩
    ·
     refine WC.skip ?_
     intro w hw
     exact ⟨o22, o25, Γ49, row23, row26, h, (sl_ (by kernel_rfl)), (hw.only (is := [2, 0, 1, 1, 1, 1, 1, 1, 1, 1, 1]) rfl), hl50, (ho24.mono hl50), (ho27.mono hl50), trivial⟩
   ·
    rintro σ w ⟨o37, o40, Γ35, row38, row41, h, hsl, hw, hl36, ho39, ho42, -⟩
    refine Wpt.slots hsl ?_
    refine WC.here (C := CC F Γ35 [rA12, row38, rB14, [(gn, .cells #[.int .i64 n.life, .pointer (some ⟨en.2, 0, none⟩), .int .i64 n.self_site, .int .i64 n.self_node, (pq g4_3), .map (some m5_3), .map (some m6_3)] en.1 (0, 0))], r4_3, r6_3, [(ga20, .cells #[(pq gn)] 27 (0, 0))], [(ga21, .cells #[.int .i64 a21v0, .int .i64 a21v1, .int .i64 a21v2, .int .i64 a21v3, .int .i64 a21v4, .int .i64 a21v5, .int .i64 a21v6, .int .i64 a21v7, .int .i64 a21v8, .string a21v9, .slice Aa21v10 a21v10.length ca21v10, .slice Aa21v11 a21v11.length ca21v11, .slice Aa21v12 a21v12.length ca21v12, .slice Aa21v13 a21v13.length ca21v13, .slice Aa21v14 a21v14.length ca21v14] 40 (0, 0))], [(ga22, .cells #[.slice Aa22v a22v.length ca22v] 34 (0, 0))], rowa22v, row41]) ?_ hw
    clear hw hsl
    refine WC.region ?_
    refine vb (q_add_r (r := ((i29 + 1 : Nat) : Int)) rfl rfl rfl (ctr_len hl34 (hm.2.2.2.2.2.2.2.2.2.2.1.2.mono hl21).le)) (mv (v := .int .i64 ((i29 + 1 : Nat) : Int)) ?_)
    refine WR.nil ?_
    intro w hw
    exact ⟨hl34, (o37, o40), h, Γ35, row38, row41, (sl_ (by kernel_rfl)), hw, (hl21.trans hl36), ho39, ho42, trivial⟩
  ·
   have h := hge32 (ige hb33)
   refine WC.exit ?_
   intro w hw
   obtain ⟨row76, hrow77, hm78⟩ : ∃ rw : Rowb, rw = ([rA12, row23, rB14] : List Rowb).flatten ∧ MapJ (intK Tryz.underlying3) (Ostore_Store.tob (107, en.2)) Γ20 rw m5_3 (mput m.from_.node o22 n.hints) := ⟨_, rfl, by simpa using hback19 _ _ _ hl21 ho24⟩
   have hw := hw.fold (is := [0, 0, 0]) rfl hrow77
   obtain ⟨row_79, hrow_79, hob_79⟩ : ∃ rw : Rowb, rw = ([[(gn, .cells #[.int .i64 n.life, .pointer (some ⟨en.2, 0, none⟩), .int .i64 n.self_site, .int .i64 n.self_node, (pq g4_3), .map (some m5_3), .map (some m6_3)] en.1 (0, 0))], r4_3, row76, r6_3] : List Rowb).flatten ∧ Onode_Node.ob en Γ20 gn rw (⟨n.life, n.self_site, n.self_node, n.own, (mput m.from_.node o22 n.hints), n.does⟩ : Onode_Node) := ⟨_, rfl, g4_3, r4_3, m5_3, row76, m6_3, r6_3, rfl, ho0_3, ho1_3, ho2_3, (ho3_3.mono hl21), hm78, (ho5_3.mono hl21), trivial⟩
   have hw := hw.fold (is := [1, 1, 0, 0]) rfl hrow_79
   obtain rfl := Option.some.inj h
   subst hF
   exact end_e (is := [0, 0, 0, 0, 0, 0]) (by kernel_rfl) hw rfl ⟨row_79, row26, rfl, rfl, hob_79, ho27, trivial⟩
abbrev r_node_Node_Handle (gn : Nat) (en : Nat × Nat) (edk0 : Nat) (r : Onode_Node × Odisk_Disk × (List Dapi_Msg)) (U : List Rowb) (Γ : Gh) (v : Value) : Prop := ∃ (rown' : Rowb), ∃ (rowdk0' : Rowb), ∃ (A0 : Option Addr), ∃ (c0 : Nat), ∃ (row0 : Rowb), v = .slice A0 r.2.2.length c0 ∧ U = [rown', rowdk0', row0] ∧ Onode_Node.ob en Γ gn rown' r.1 ∧ Odisk_Disk.ob edk0 Γ en.2 rowdk0' r.2.1 ∧ Own dapi_MsgT Γ 40 row0 A0 c0 r.2.2 ∧ True
theorem t_node_Node_Handle {Γ : Gh} {w0 : World} {gn : Nat} {en : Nat × Nat} {rown : Rowb} {n : Onode_Node} (hn : Onode_Node.ob en Γ gn rown n) {Am10 : Option Addr} {cm10 : Nat} {Am11 : Option Addr} {cm11 : Nat} {Am12 : Option Addr} {cm12 : Nat} {Am13 : Option Addr} {cm13 : Nat} {Am14 : Option Addr} {cm14 : Nat} (m : Dapi_Msg) (hm : Dapi_Msg.fits Γ Am10 cm10 Am11 cm11 Am12 cm12 Am13 cm13 Am14 cm14 m) {edk0 : Nat} {rowdk0 : Rowb} {dk0 : Odisk_Disk} (hdk0 : Odisk_Disk.ob edk0 Γ en.2 rowdk0 dk0) (hp : Pre [rown, rowdk0] Γ w0) {r : Onode_Node × Odisk_Disk × (List Dapi_Msg)} (h : m_node_Node_Handle n m dk0 = some r) : Calls Tryz.prog 13 #[(pq gn), .agg #[.int .i64 m.kind, .int .i64 m.from_.site, .int .i64 m.from_.node, .int .i64 m.to_.site, .int .i64 m.to_.node, .int .i64 m.id, .int .i64 m.n, .int .i64 m.for_, .int .i64 m.code, .string m.key, .slice Am10 m.recs.length cm10, .slice Am11 m.vec.length cm11, .slice Am12 m.path.length cm12, .slice Am13 m.hashes.length cm13, .slice Am14 m.route.length cm14]] w0 (Outc Γ [rown, rowdk0] w0 (r_node_Node_Handle gn en edk0 r)) := by
 refine calls_of (N := 44) (rs := [4]) (args := [(pq gn), .agg #[.int .i64 m.kind, .int .i64 m.from_.site, .int .i64 m.from_.node, .int .i64 m.to_.site, .int .i64 m.to_.node, .int .i64 m.id, .int .i64 m.n, .int .i64 m.for_, .int .i64 m.code, .string m.key, .slice Am10 m.recs.length cm10, .slice Am11 m.vec.length cm11, .slice Am12 m.path.length cm12, .slice Am13 m.hashes.length cm13, .slice Am14 m.route.length cm14]]) Tryz.func13 rfl Tryz.ntmps13 Tryz.results13 rfl ?_
 obtain ⟨F, hF⟩ : ∃ F : Fm, F = ⟨ids [rown, rowdk0], w0, Γ⟩ := ⟨_, rfl⟩
 refine WC.here (C := CC F Γ [rown, rowdk0]) ?_ (hF ▸ hp.start)
 refine WC.rs ?_
 refine e_box (v := (pq gn)) rfl rfl rfl rfl (by kernel_rfl) ?_
 intro g1
 refine e_box (v := .agg #[.int .i64 m.kind, .int .i64 m.from_.site, .int .i64 m.from_.node, .int .i64 m.to_.site, .int .i64 m.to_.node, .int .i64 m.id, .int .i64 m.n, .int .i64 m.for_, .int .i64 m.code, .string m.key, .slice Am10 m.recs.length cm10, .slice Am11 m.vec.length cm11, .slice Am12 m.path.length cm12, .slice Am13 m.hashes.length cm13, .slice Am14 m.route.length cm14]) rfl rfl rfl rfl (by kernel_rfl) ?_
 intro g2
 refine as_ (v := .slice none 0 0) ?_
 refine WR.done ?_
 refine WC.seq (WC.seq ?_)
 have hq := hn
 obtain ⟨g4_3, r4_3, m5_3, r5_3, m6_3, r6_3, hrow_3, ho0_3, ho1_3, ho2_3, ho3_3, ho4_3, ho5_3, -⟩ := hq
 intro w hw; have hw := hw.unfold (i := 2) rfl hrow_3
 refine WC.here (C := CC F Γ [[(gn, .cells #[.int .i64 n.life, .pointer (some ⟨en.2, 0, none⟩), .int .i64 n.self_site, .int .i64 n.self_node, (pq g4_3), .map (some m5_3), .map (some m6_3)] en.1 (0, 0))], r4_3, r5_3, r6_3, [(g2, .cells #[.int .i64 m.kind, .int .i64 m.from_.site, .int .i64 m.from_.node, .int .i64 m.to_.site, .int .i64 m.to_.node, .int .i64 m.id, .int .i64 m.n, .int .i64 m.for_, .int .i64 m.code, .string m.key, .slice Am10 m.recs.length cm10, .slice Am11 m.vec.length cm11, .slice Am12 m.path.length cm12, .slice Am13 m.hashes.length cm13, .slice Am14 m.route.length cm14] 40 (0, 0))], [(g1, .cells #[(pq gn)] 27 (0, 0))], rowdk0]) ?_ hw
 clear hw
 refine WC.dr (by kernel_rfl) (by kernel_rfl) (fun w hw => hw.drawn _) ?_
 refine wa rfl rfl rfl (q_ldla (i := 4) (vs := [.int .i64 m.kind, .int .i64 m.from_.site, .int .i64 m.from_.node, .int .i64 m.to_.site, .int .i64 m.to_.node, .int .i64 m.id, .int .i64 m.n, .int .i64 m.for_, .int .i64 m.code, .string m.key, .slice Am10 m.recs.length cm10, .slice Am11 m.vec.length cm11, .slice Am12 m.path.length cm12, .slice Am13 m.hashes.length cm13, .slice Am14 m.route.length cm14]) rfl rfl Tryz.isAgg40 Tryz.sizeOf40 rfl rfl) ?_
 obtain ⟨z4, hz5, h⟩ := bnd h
 refine wc rfl rfl rfl (q_call (call_run Tryz.call40 rfl rfl (by kernel_rfl)) (fun w hw => t_code_RightMsg (Γ := Gh.all w) m (Dapi_Msg.fits_mono hm hw.sat.le_all) (Sat.all w) hz5)) (wa rfl rfl rfl (q_not rfl rfl) (wa rfl rfl rfl (q_move (v := .bool (!z4)) rfl (by kernel_rfl)) (wg0 rfl rfl rfl rfl rfl (fun hg6 => QV.qo (q_fl 3 fld_40_2 rfl rfl rfl)) (wg0 rfl rfl rfl rfl rfl (fun hg7 => QV.qo (q_ldla (i := 4) (vs := [.int .i64 m.to_.site, .int .i64 m.to_.node]) rfl rfl Tryz.isAgg32 Tryz.sizeOf32 (gu hg7 rfl) rfl)) (wg0 rfl rfl rfl rfl rfl (fun hg8 => QV.qo (q_ldl (i := 5) (v := (pq gn)) rfl rfl Tryz.isAgg27 rfl rfl)) (wg0 rfl rfl rfl rfl rfl (fun hg9 => QV.qo (q_nil (A := some ⟨gn, 0, none⟩) rfl (gu hg9 rfl) rfl)) (wg0 rfl rfl rfl rfl rfl (fun hg10 => QV.qo (q_fl 2 fld_74_2 rfl (gu hg10 rfl) rfl)) ?_)))))))
 refine wg0 rfl rfl rfl rfl rfl (fun hg11 => QV.qo (q_ldla (i := 0) (vs := [.int .i64 n.self_site, .int .i64 n.self_node]) rfl rfl Tryz.isAgg32 Tryz.sizeOf32 (gu hg11 rfl) rfl)) (wg0 rfl rfl rfl rfl rfl (fun hg12 => QV.qo (q_neq_Adr (a := m.to_) (b := (⟨n.self_site, n.self_node⟩ : Adr)) rfl (gu hg12 rfl) (gu hg12 rfl))) (wa rfl rfl rfl (q_pick rfl rfl (pk_or' (g := (!z4)) (y := (m.to_ != (⟨n.self_site, n.self_node⟩ : Adr))))) (wa rfl rfl rfl (q_move (v := .bool ((!z4) || (m.to_ != (⟨n.self_site, n.self_node⟩ : Adr)))) rfl (by kernel_rfl)) (wg0 rfl rfl rfl rfl rfl (fun hg13 => QV.qo (q_fl 1 fld_40_1 rfl rfl rfl)) (wg0 rfl rfl rfl rfl rfl (fun hg14 => QV.qo (q_fl 1 fld_32_0 rfl (gu hg14 rfl) rfl)) (wg0 rfl rfl rfl rfl rfl (fun hg15 => QV.qo (q_ldl (i := 4) (v := .int .i64 m.from_.site) rfl rfl Tryz.isAgg3 (gu hg15 rfl) rfl)) (wg0 rfl rfl rfl rfl rfl (fun hg16 => QV.qo (q_ldl (i := 5) (v := (pq gn)) rfl rfl Tryz.isAgg27 rfl rfl)) ?_)))))))
 refine wg0 rfl rfl rfl rfl rfl (fun hg17 => QV.qo (q_nil (A := some ⟨gn, 0, none⟩) rfl (gu hg17 rfl) rfl)) (wg0 rfl rfl rfl rfl rfl (fun hg18 => QV.qo (q_fl 2 fld_74_2 rfl (gu hg18 rfl) rfl)) (wg0 rfl rfl rfl rfl rfl (fun hg19 => QV.qo (q_fl 2 fld_32_0 rfl (gu hg19 rfl) rfl)) (wg0 rfl rfl rfl rfl rfl (fun hg20 => QV.qo (q_ldl (i := 0) (v := .int .i64 n.self_site) rfl rfl Tryz.isAgg3 (gu hg20 rfl) rfl)) (wg0 rfl rfl rfl rfl rfl (fun hg21 => QV.qo (q_neq rfl (gu hg21 rfl) (gu hg21 rfl))) (wa rfl rfl rfl (q_pick rfl rfl (pk_or' (g := ((!z4) || (m.to_ != (⟨n.self_site, n.self_node⟩ : Adr)))) (y := (m.from_.site != n.self_site)))) ?_)))))
 refine WQ.nil ?_
 change WC _ _ _ _ _ _
 refine WC.cif h (by kernel_rfl) (fun hb22 h => ?_) (fun hb22 h => ?_)
 ·
  refine WC.rs (as_ (v := .slice none 0 0) ?_)
  refine WR.done ?_
  refine WC.ret ?_
  intro w hw
  have hw := hw.fold (is := [0, 0, 0, 0]) rfl hrow_3
  have hw := hw.pad
  obtain rfl := Option.some.inj h
  subst hF
  exact end_e (is := [1, 3, 0]) (by kernel_rfl) hw rfl ⟨rown, rowdk0, none, 0, [], rfl, rfl, hn, hdk0, (Own.nil dapi_MsgT _ 40), trivial⟩
 ·
  refine WC.skip ?_
  change WC _ _ _ _ _ _
  refine WC.rs ?_
  refine e_alloc Tryz.zeroValue34 rfl rfl rfl rfl ?_
  intro g24
  refine WR.done ?_
  intro w hw; have hw := hw.fold (is := [1, 1, 1, 1]) rfl hrow_3
  refine WC.here (C := CC F Γ [rown, [(g24, .cells #[.slice none 0 0] 34 (0, 0))], [(g2, .cells #[.int .i64 m.kind, .int .i64 m.from_.site, .int .i64 m.from_.node, .int .i64 m.to_.site, .int .i64 m.to_.node, .int .i64 m.id, .int .i64 m.n, .int .i64 m.for_, .int .i64 m.code, .string m.key, .slice Am10 m.recs.length cm10, .slice Am11 m.vec.length cm11, .slice Am12 m.path.length cm12, .slice Am13 m.hashes.length cm13, .slice Am14 m.route.length cm14] 40 (0, 0))], [(g1, .cells #[(pq gn)] 27 (0, 0))], rowdk0]) ?_ hw
  clear hw
  refine WC.cut (fun σ w => ∃ (x28 : List Dapi_Msg), ∃ (o33 : Onode_Node), ∃ (o36 : Odisk_Disk), ∃ (Γ26 : Gh), ∃ (A29 : Option Addr), ∃ (c30 : Nat), ∃ (row31 : Rowb), ∃ (row34 : Rowb), ∃ (row37 : Rowb), m_node_Node_Handle_j1 x28 o33 o36 = some r ∧ slots σ [(5, (pq g24))] ∧ CC F Γ26 [row31, row34, [(g24, .cells #[.slice A29 x28.length c30] 34 (0, 0))], row37] w ∧ Gh.le Γ Γ26 ∧ Own dapi_MsgT Γ26 40 row31 A29 c30 x28 ∧ Onode_Node.ob en Γ26 gn row34 o33 ∧ Odisk_Disk.ob edk0 Γ26 en.2 row37 o36 ∧ True) ?_ ?_
  ·
   refine WC.seq ?_
   intro w hw; have h039 := hw.le
   refine WC.here (C := CC F Γ [rown, [(g24, .cells #[.slice none 0 0] 34 (0, 0))], [(g2, .cells #[.int .i64 m.kind, .int .i64 m.from_.site, .int .i64 m.from_.node, .int .i64 m.to_.site, .int .i64 m.to_.node, .int .i64 m.id, .int .i64 m.n, .int .i64 m.for_, .int .i64 m.code, .string m.key, .slice Am10 m.recs.length cm10, .slice Am11 m.vec.length cm11, .slice Am12 m.path.length cm12, .slice Am13 m.hashes.length cm13, .slice Am14 m.route.length cm14] 40 (0, 0))], [(g1, .cells #[(pq gn)] 27 (0, 0))], rowdk0]) ?_ hw; clear hw
   refine WC.held (CC F Γ [[(g24, .cells #[.slice none 0 0] 34 (0, 0))], [(g2, .cells #[.int .i64 m.kind, .int .i64 m.from_.site, .int .i64 m.from_.node, .int .i64 m.to_.site, .int .i64 m.to_.node, .int .i64 m.id, .int .i64 m.n, .int .i64 m.for_, .int .i64 m.code, .string m.key, .slice Am10 m.recs.length cm10, .slice Am11 m.vec.length cm11, .slice Am12 m.path.length cm12, .slice Am13 m.hashes.length cm13, .slice Am14 m.route.length cm14] 40 (0, 0))], [(g1, .cells #[(pq gn)] 27 (0, 0))]]) (by kernel_rfl) (fun w hw => hw.drawn _) ?_
   change WH _ _ _ _ (CC F Γ [rown, [(g24, .cells #[.slice none 0 0] 34 (0, 0))], [(g2, .cells #[.int .i64 m.kind, .int .i64 m.from_.site, .int .i64 m.from_.node, .int .i64 m.to_.site, .int .i64 m.to_.node, .int .i64 m.id, .int .i64 m.n, .int .i64 m.for_, .int .i64 m.code, .string m.key, .slice Am10 m.recs.length cm10, .slice Am11 m.vec.length cm11, .slice Am12 m.path.length cm12, .slice Am13 m.hashes.length cm13, .slice Am14 m.route.length cm14] 40 (0, 0))], [(g1, .cells #[(pq gn)] 27 (0, 0))], rowdk0]) _ 8 #[false, false, false, false, false, false, false, false] _
   refine hu 0 rfl (bk_ (Gh.refl _) h039 (.cons _ (.cons_cons _ (.cons_cons _ (.cons_cons _ (.cons _ .slnil)))))) (q_ldl (i := 2) (v := (pq gn)) rfl rfl Tryz.isAgg27 rfl rfl) (hu 1 rfl (bk_ (Gh.refl _) h039 (.cons _ (.cons_cons _ (.cons_cons _ (.cons_cons _ (.cons _ .slnil)))))) (q_nil (A := some ⟨gn, 0, none⟩) rfl rfl rfl) (hu 2 rfl (bk_ (Gh.refl _) h039 (.cons _ (.cons_cons _ (.cons_cons _ (.cons_cons _ (.cons _ .slnil)))))) (q_fl 6 fld_74_5 rfl rfl rfl) (hu 4 rfl (bk_ (Gh.refl _) h039 (.cons _ (.cons_cons _ (.cons_cons _ (.cons_cons _ (.cons _ .slnil)))))) (q_fl 0 fld_40_0 rfl rfl rfl) (hu 5 rfl (bk_ (Gh.refl _) h039 (.cons _ (.cons_cons _ (.cons_cons _ (.cons_cons _ (.cons _ .slnil)))))) (q_ldl (i := 1) (v := .int .i64 m.kind) rfl rfl Tryz.isAgg3 rfl rfl) ?_))))
   refine WH.lone (i := 3) (by kernel_rfl) rfl ?_
   have hq := hn
   obtain ⟨g4_40, r4_40, m5_40, r5_40, m6_40, r6_40, hrow_40, ho0_40, ho1_40, ho2_40, ho3_40, ho4_40, ho5_40, -⟩ := hq
   intro w hw; have hw := hw.unfold (i := 0) rfl hrow_40
   refine WR.here (C := CC F Γ [[(gn, .cells #[.int .i64 n.life, .pointer (some ⟨en.2, 0, none⟩), .int .i64 n.self_site, .int .i64 n.self_node, (pq g4_40), .map (some m5_40), .map (some m6_40)] en.1 (0, 0))], r4_40, r5_40, r6_40, [(g24, .cells #[.slice none 0 0] 34 (0, 0))], [(g2, .cells #[.int .i64 m.kind, .int .i64 m.from_.site, .int .i64 m.from_.node, .int .i64 m.to_.site, .int .i64 m.to_.node, .int .i64 m.id, .int .i64 m.n, .int .i64 m.for_, .int .i64 m.code, .string m.key, .slice Am10 m.recs.length cm10, .slice Am11 m.vec.length cm11, .slice Am12 m.path.length cm12, .slice Am13 m.hashes.length cm13, .slice Am14 m.route.length cm14] 40 (0, 0))], [(g1, .cells #[(pq gn)] 27 (0, 0))], rowdk0]) ?_ hw
   clear hw
   refine vb (q_ldl (i := 0) (v := .map (some m6_40)) rfl rfl Tryz.isAgg72 rfl rfl) ?_
   refine WR.nil ?_
   refine WH.next (bk_ (Gh.refl _) h039 (.cons _ (.cons _ (.cons _ (.cons _ (.cons_cons _ (.cons_cons _ (.cons_cons _ (.cons _ .slnil))))))))) ?_
   refine WH.lone (i := 6) (by kernel_rfl) rfl ?_
   obtain hq41 | ⟨a42, hq41⟩ := opt_or (mget m.kind n.does)
   ·
    have h := optm_n hq41 h
    refine vb (q_lookup1 (v := .nilFunc) (MapO.miss ho5_40 .nilFunc hq41) rfl Tryz.underlying72 Tryz.zeroValue76 rfl rfl (i := 3) rfl) ?_
    refine WR.nil ?_
    refine WH.next (bk_ (Gh.refl _) h039 (.cons _ (.cons _ (.cons _ (.cons _ (.cons_cons _ (.cons_cons _ (.cons_cons _ (.cons _ .slnil))))))))) ?_
    refine hu 7 rfl (bk_ (Gh.refl _) h039 (.cons _ (.cons _ (.cons _ (.cons _ (.cons_cons _ (.cons_cons _ (.cons_cons _ (.cons _ .slnil))))))))) (q_assign (v := .nilFunc) rfl (by kernel_rfl)) ?_
    refine WH.done (by kernel_rfl) ?_
    change WC _ _ _ _ _ _
    refine WC.rs (mv (v := .nilFunc) (vb (q_nf_neq Tryz.underlying76 rfl rfl rfl) ?_))
    refine WR.done ?_
    refine WC.cfk (b := false) (by kernel_rfl) rfl ?_
    refine WC.skip ?_
    intro w hw
    have hw := hw.fold (is := [0, 0, 0, 0]) rfl hrow_40
    have hw := hw.pad
    exact ⟨[], n, dk0, Γ, none, 0, [], rown, rowdk0, h, (sl_ (by kernel_rfl)), (hw.only (is := [0, 0, 0, 2]) rfl), (Gh.refl _), (Own.nil dapi_MsgT _ 40), hn, hdk0, trivial⟩
   ·
    have h := optm_s hq41 h
    refine (Bool.eq_false_or_eq_true (a42 == 32)).elim (fun hb47 => ?_) (fun hb47 => ?_)
    ·
     have h := bt hb47 h
     have hq48 : (mget m.kind n.does) = some 32 := hq41.trans (congrArg some (eq_of_beq hb47))
     obtain ⟨v44, hv45, hat46⟩ := MapO.hit ho5_40 .nilFunc hq48
     obtain rfl : v44 = .func (.func 32) #[(pq gn)] #[] := hv45
     refine vb (q_lookup1 (v := .func (.func 32) #[(pq gn)] #[]) hat46 rfl Tryz.underlying72 Tryz.zeroValue76 rfl rfl (i := 3) rfl) ?_
     refine WR.nil ?_
     refine WH.next (bk_ (Gh.refl _) h039 (.cons _ (.cons _ (.cons _ (.cons _ (.cons_cons _ (.cons_cons _ (.cons_cons _ (.cons _ .slnil))))))))) ?_
     refine hu 7 rfl (bk_ (Gh.refl _) h039 (.cons _ (.cons _ (.cons _ (.cons _ (.cons_cons _ (.cons_cons _ (.cons_cons _ (.cons _ .slnil))))))))) (q_assign (v := .func (.func 32) #[(pq gn)] #[]) rfl (by kernel_rfl)) ?_
     refine WH.done (by kernel_rfl) ?_
     change WC _ _ _ _ _ _
     refine WC.rs (mv (v := .func (.func 32) #[(pq gn)] #[]) (vb (q_fn_neq Tryz.underlying76 rfl rfl rfl) ?_))
     refine WR.done ?_
     refine WC.ctk (b := true) (by kernel_rfl) rfl ?_
     refine WC.region ?_
     refine mv (v := .func (.func 32) #[(pq gn)] #[]) (vb (q_ldla (i := 5) (vs := [.int .i64 m.kind, .int .i64 m.from_.site, .int .i64 m.from_.node, .int .i64 m.to_.site, .int .i64 m.to_.node, .int .i64 m.id, .int .i64 m.n, .int .i64 m.for_, .int .i64 m.code, .string m.key, .slice Am10 m.recs.length cm10, .slice Am11 m.vec.length cm11, .slice Am12 m.path.length cm12, .slice Am13 m.hashes.length cm13, .slice Am14 m.route.length cm14]) rfl rfl Tryz.isAgg40 Tryz.sizeOf40 rfl rfl) (vb (q_mkfn (v := .func (.func 41) #[] #[(pq g1), (pq g2), (pq g24)]) rfl (by kernel_rfl)) ?_))
     intro w hw; have hw := hw.fold (is := [0, 0, 0, 0]) rfl hrow_40
     refine WR.here (C := CC F Γ [rown, [(g24, .cells #[.slice none 0 0] 34 (0, 0))], [(g2, .cells #[.int .i64 m.kind, .int .i64 m.from_.site, .int .i64 m.from_.node, .int .i64 m.to_.site, .int .i64 m.to_.node, .int .i64 m.id, .int .i64 m.n, .int .i64 m.for_, .int .i64 m.code, .string m.key, .slice Am10 m.recs.length cm10, .slice Am11 m.vec.length cm11, .slice Am12 m.path.length cm12, .slice Am13 m.hashes.length cm13, .slice Am14 m.route.length cm14] 40 (0, 0))], [(g1, .cells #[(pq gn)] 27 (0, 0))], rowdk0]) ?_ hw
     clear hw
     refine WR.sub (fun w hw => hw.pad) ?_
     obtain ⟨z50, hz51, h⟩ := bnd h
     refine e_call (is := [1, 3, 2, 1, 0, 0]) rfl rfl (call_run_fb (first := #[(pq gn)]) Tryz.call32 rfl (by kernel_rfl) (by kernel_rfl)) rfl (fun w hp => t_node_Node_put hn m hm  m.kind hm.1 m.from_.site hm.2.1 m.from_.node hm.2.2.1 m.to_.site hm.2.2.2.1 m.to_.node hm.2.2.2.2.1 m.id hm.2.2.2.2.2.1 m.n hm.2.2.2.2.2.2.1 m.for_ hm.2.2.2.2.2.2.2.1 m.code hm.2.2.2.2.2.2.2.2.1 m.key hm.2.2.2.2.2.2.2.2.2.1 hm.2.2.2.2.2.2.2.2.2.2.1.2 hm.2.2.2.2.2.2.2.2.2.2.1.1 hm.2.2.2.2.2.2.2.2.2.2.2.1.2 hm.2.2.2.2.2.2.2.2.2.2.2.1.1 hm.2.2.2.2.2.2.2.2.2.2.2.2.1.2 hm.2.2.2.2.2.2.2.2.2.2.2.2.1.1 hm.2.2.2.2.2.2.2.2.2.2.2.2.2.1.2 hm.2.2.2.2.2.2.2.2.2.2.2.2.2.1.1 hm.2.2.2.2.2.2.2.2.2.2.2.2.2.2.2 hm.2.2.2.2.2.2.2.2.2.2.2.2.2.2.1 (Own.nil dapi_MsgT Γ 40) hdk0 hp hz51) ?_
     rintro Γ52 U54 v55 hl53 ⟨row56, A58, c59, row60, row62, rfl, rfl, hr57, hr61, hr63, _⟩
     change WR _ _ _ (CC F Γ52 [row56, [(g1, .cells #[(pq gn)] 27 (0, 0))], [(g2, .cells #[.int .i64 m.kind, .int .i64 m.from_.site, .int .i64 m.from_.node, .int .i64 m.to_.site, .int .i64 m.to_.node, .int .i64 m.id, .int .i64 m.n, .int .i64 m.for_, .int .i64 m.code, .string m.key, .slice Am10 m.recs.length cm10, .slice Am11 m.vec.length cm11, .slice Am12 m.path.length cm12, .slice Am13 m.hashes.length cm13, .slice Am14 m.route.length cm14] 40 (0, 0))], [(g24, .cells #[.slice A58 z50.2.1.length c59] 34 (0, 0))], row60, row62]) _ _ (upd _ 42 (.tuple #[]))
     refine WR.nil ?_
     intro w hw
     exact ⟨z50.2.1, z50.1, z50.2.2, Γ52, A58, c59, row60, row56, row62, h, (sl_ (by kernel_rfl)), (hw.only (is := [4, 0, 2, 2]) rfl), hl53, hr61, hr57, hr63, trivial⟩
    ·
     have h := bf hb47 h
     refine (Bool.eq_false_or_eq_true (a42 == 33)).elim (fun hb64 => ?_) (fun hb64 => ?_)
     ·
      have h := bt hb64 h
      have hq65 : (mget m.kind n.does) = some 33 := hq41.trans (congrArg some (eq_of_beq hb64))
      obtain ⟨v44, hv45, hat46⟩ := MapO.hit ho5_40 .nilFunc hq65
      obtain rfl : v44 = .func (.func 33) #[(pq gn)] #[] := hv45
      refine vb (q_lookup1 (v := .func (.func 33) #[(pq gn)] #[]) hat46 rfl Tryz.underlying72 Tryz.zeroValue76 rfl rfl (i := 3) rfl) ?_
      refine WR.nil ?_
      refine WH.next (bk_ (Gh.refl _) h039 (.cons _ (.cons _ (.cons _ (.cons _ (.cons_cons _ (.cons_cons _ (.cons_cons _ (.cons _ .slnil))))))))) ?_
      refine hu 7 rfl (bk_ (Gh.refl _) h039 (.cons _ (.cons _ (.cons _ (.cons _ (.cons_cons _ (.cons_cons _ (.cons_cons _ (.cons _ .slnil))))))))) (q_assign (v := .func (.func 33) #[(pq gn)] #[]) rfl (by kernel_rfl)) ?_
      refine WH.done (by kernel_rfl) ?_
      change WC _ _ _ _ _ _
      refine WC.rs (mv (v := .func (.func 33) #[(pq gn)] #[]) (vb (q_fn_neq Tryz.underlying76 rfl rfl rfl) ?_))
      refine WR.done ?_
      refine WC.ctk (b := true) (by kernel_rfl) rfl ?_
      refine WC.region ?_
      refine mv (v := .func (.func 33) #[(pq gn)] #[]) (vb (q_ldla (i := 5) (vs := [.int .i64 m.kind, .int .i64 m.from_.site, .int .i64 m.from_.node, .int .i64 m.to_.site, .int .i64 m.to_.node, .int .i64 m.id, .int .i64 m.n, .int .i64 m.for_, .int .i64 m.code, .string m.key, .slice Am10 m.recs.length cm10, .slice Am11 m.vec.length cm11, .slice Am12 m.path.length cm12, .slice Am13 m.hashes.length cm13, .slice Am14 m.route.length cm14]) rfl rfl Tryz.isAgg40 Tryz.sizeOf40 rfl rfl) (vb (q_mkfn (v := .func (.func 41) #[] #[(pq g1), (pq g2), (pq g24)]) rfl (by kernel_rfl)) ?_))
      intro w hw; have hw := hw.fold (is := [0, 0, 0, 0]) rfl hrow_40
      refine WR.here (C := CC F Γ [rown, [(g24, .cells #[.slice none 0 0] 34 (0, 0))], [(g2, .cells #[.int .i64 m.kind, .int .i64 m.from_.site, .int .i64 m.from_.node, .int .i64 m.to_.site, .int .i64 m.to_.node, .int .i64 m.id, .int .i64 m.n, .int .i64 m.for_, .int .i64 m.code, .string m.key, .slice Am10 m.recs.length cm10, .slice Am11 m.vec.length cm11, .slice Am12 m.path.length cm12, .slice Am13 m.hashes.length cm13, .slice Am14 m.route.length cm14] 40 (0, 0))], [(g1, .cells #[(pq gn)] 27 (0, 0))], rowdk0]) ?_ hw
      clear hw
      refine WR.sub (fun w hw => hw.pad) ?_
      obtain ⟨z67, hz68, h⟩ := bnd h
      refine e_call (is := [1, 3, 2, 1, 0, 0]) rfl rfl (call_run_fb (first := #[(pq gn)]) Tryz.call33 rfl (by kernel_rfl) (by kernel_rfl)) rfl (fun w hp => t_node_Node_done hn m hm  m.kind hm.1 m.from_.site hm.2.1 m.from_.node hm.2.2.1 m.to_.site hm.2.2.2.1 m.to_.node hm.2.2.2.2.1 m.id hm.2.2.2.2.2.1 m.n hm.2.2.2.2.2.2.1 m.for_ hm.2.2.2.2.2.2.2.1 m.code hm.2.2.2.2.2.2.2.2.1 m.key hm.2.2.2.2.2.2.2.2.2.1 hm.2.2.2.2.2.2.2.2.2.2.1.2 hm.2.2.2.2.2.2.2.2.2.2.1.1 hm.2.2.2.2.2.2.2.2.2.2.2.1.2 hm.2.2.2.2.2.2.2.2.2.2.2.1.1 hm.2.2.2.2.2.2.2.2.2.2.2.2.1.2 hm.2.2.2.2.2.2.2.2.2.2.2.2.1.1 hm.2.2.2.2.2.2.2.2.2.2.2.2.2.1.2 hm.2.2.2.2.2.2.2.2.2.2.2.2.2.1.1 hm.2.2.2.2.2.2.2.2.2.2.2.2.2.2.2 hm.2.2.2.2.2.2.2.2.2.2.2.2.2.2.1 (Own.nil dapi_MsgT Γ 40) hdk0 hp hz68) ?_
      rintro Γ69 U71 v72 hl70 ⟨row73, row75, rfl, rfl, hr74, hr76, _⟩
      change WR _ _ _ (CC F Γ69 [row73, [(g1, .cells #[(pq gn)] 27 (0, 0))], [(g2, .cells #[.int .i64 m.kind, .int .i64 m.from_.site, .int .i64 m.from_.node, .int .i64 m.to_.site, .int .i64 m.to_.node, .int .i64 m.id, .int .i64 m.n, .int .i64 m.for_, .int .i64 m.code, .string m.key, .slice Am10 m.recs.length cm10, .slice Am11 m.vec.length cm11, .slice Am12 m.path.length cm12, .slice Am13 m.hashes.length cm13, .slice Am14 m.route.length cm14] 40 (0, 0))], [(g24, .cells #[.slice none 0 0] 34 (0, 0))], [], row75]) _ _ (upd _ 42 (.tuple #[]))
      refine WR.nil ?_
      intro w hw
      exact ⟨[], z67.1, z67.2, Γ69, none, 0, [], row73, row75, h, (sl_ (by kernel_rfl)), (hw.only (is := [4, 0, 2, 2]) rfl), hl70, ((Own.nil dapi_MsgT Γ 40).mono hl70), hr74, hr76, trivial⟩
     ·
      have h := bf hb64 h
      cases h
  ·
   rintro σ w ⟨x28, o33, o36, Γ26, A29, c30, row31, row34, row37, h, hsl, hw, hl27, ho32, ho35, ho38, -⟩
   refine Wpt.slots hsl ?_
   refine WC.here (C := CC F Γ26 [row31, row34, [(g24, .cells #[.slice A29 x28.length c30] 34 (0, 0))], row37]) ?_ hw
   clear hw hsl
   refine WC.rs (vb (q_ldl (i := 2) (v := .slice A29 x28.length c30) rfl rfl Tryz.isAgg34 rfl rfl) (as_ (v := .slice A29 x28.length c30) ?_))
   refine WR.done ?_
   refine WC.ret ?_
   intro w hw
   obtain rfl := Option.some.inj h
   subst hF
   exact end_e (is := [1, 2, 0]) (by kernel_rfl) hw rfl ⟨row34, row37, A29, c30, row31, rfl, rfl, ho35, ho38, ho32, trivial⟩
abbrev r_store_Store_Keys (gs_ : Nat) (es_ : Nat × Nat) (rows_ : Rowb) (r : List ByteArray) (U : List Rowb) (Γ : Gh) (v : Value) : Prop := ∃ (A0 : Option Addr), ∃ (c0 : Nat), ∃ (row0 : Rowb), v = .slice A0 r.length c0 ∧ U = [rows_, row0] ∧ Own strT Γ 9 row0 A0 c0 r ∧ True
theorem t_store_Store_Keys {Γ : Gh} {w0 : World} {gs_ : Nat} {es_ : Nat × Nat} {rows_ : Rowb} {s_ : Ostore_Store} (hs_ : Ostore_Store.ob es_ Γ gs_ rows_ s_) (hp : Pre [rows_] Γ w0) {r : List ByteArray} (h : m_store_Store_Keys s_ = some r) : Calls Tryz.prog 74 #[(pq gs_)] w0 (Outc Γ [rows_] w0 (r_store_Store_Keys gs_ es_ rows_ r)) := by
 refine calls_of (N := 9) (rs := [2]) (args := [(pq gs_)]) Tryz.func74 rfl Tryz.ntmps74 Tryz.results74 rfl ?_
 obtain ⟨F, hF⟩ : ∃ F : Fm, F = ⟨ids [rows_], w0, Γ⟩ := ⟨_, rfl⟩
 refine WC.here (C := CC F Γ [rows_]) ?_ (hF ▸ hp.start)
 refine WC.rs (as_ (v := .slice none 0 0) ?_)
 refine WR.done ?_
 refine WC.rs (mv (v := (pq gs_)) (vb (q_nil (A := some ⟨gs_, 0, none⟩) rfl rfl rfl) (vb (q_fl 1 fld_107_1 rfl rfl rfl) ?_)))
 have hq := hs_
 obtain ⟨g0_1, r0_1, m1_1, r1_1, hrow_1, ho0_1, ho1_1, -⟩ := hq
 intro w hw; have hw := hw.unfold (i := 0) rfl hrow_1
 refine WR.here (C := CC F Γ [[(gs_, .cells #[(pq g0_1), .map (some m1_1)] es_.1 (0, 0))], r0_1, r1_1]) ?_ hw
 clear hw
 refine vb (q_ldl (i := 0) (v := .map (some m1_1)) rfl rfl Tryz.isAgg63 rfl rfl) ?_
 refine e_keys (ρ := keys114_ren) keys114 (mb := some m1_1) rfl rfl (call_run Tryz.call114 rfl rfl (by kernel_rfl)) ?_
 intro g2
 change WR _ _ _ (CC F Γ [[(g2, .cells #[.map (some m1_1)] 63 (0, 0))], [(gs_, .cells #[(pq g0_1), .map (some m1_1)] es_.1 (0, 0))], r0_1, r1_1]) _ _ (upd _ 7 (.func (.func 151) #[] #[(pq g2)]))
 obtain ⟨hk3, h⟩ := chk_some h
 refine e_call (is := [0, 2]) rfl rfl (call_run Tryz.call108 rfl rfl (by kernel_rfl)) rfl (fun w hp => sk108_114 ho1_1 (of_decide_eq_true hk3) hp) ?_
 rintro Γ4 U6 v7 hl5 ⟨A8, c9, row10, rfl, rfl, ho11⟩
 change WR _ _ _ (CC F Γ4 [[(g2, .cells #[.map (some m1_1)] 63 (0, 0))], r1_1, row10, [(gs_, .cells #[(pq g0_1), .map (some m1_1)] es_.1 (0, 0))], r0_1]) _ _ (upd _ 8 (.slice A8 (skeys s_.keys).length c9))
 refine as_ (v := .slice A8 (skeys s_.keys).length c9) ?_
 refine WR.done ?_
 refine WC.ret ?_
 intro w hw
 have hw := hw.fold (is := [3, 3, 1]) rfl hrow_1
 obtain rfl := Option.some.inj h
 subst hF
 exact end_e (is := [0, 1]) (by kernel_rfl) hw rfl ⟨A8, c9, row10, rfl, rfl, ho11, trivial⟩
abbrev r_store_Store_Get_l1 (r : List Ver) (U : List Rowb) (Γ : Gh) (v : Value) : Prop := ∃ (A0 : Option Addr), ∃ (c0 : Nat), v = .slice A0 r.length c0 ∧ U = [] ∧ r.length ≤ c0 ∧ Sl verT Γ A0 r ∧ True
theorem t_store_Store_Get_l1 {Γ : Gh} {w0 : World} {B : Gh} {gs_ : Nat} {es_ : Nat × Nat} {rows_ : Rowb} {s_ : Ostore_Store} (hs_ : Ostore_Store.ob es_ B gs_ rows_ s_) (hs_r : ∀ p ∈ rows_, B p.1 = some p.2) (key : ByteArray) (hkey : key.size ≤ lim) (hp : Pre [] Γ w0) (hpB : Pre [] B w0) {r : List Ver} (h : m_store_Store_Get s_ key = some r) : Calls Tryz.prog 58 #[(pq gs_), .string key] w0 (Outc Γ [] w0 (r_store_Store_Get_l1 r)) := by
 refine calls_of (N := 19) (rs := [4]) (args := [(pq gs_), .string key]) Tryz.func58 rfl Tryz.ntmps58 Tryz.results58 rfl ?_
 obtain ⟨F, hF⟩ : ∃ F : Fm, F = ⟨ids [], w0, Γ⟩ := ⟨_, rfl⟩
 refine WC.here (C := CC F Γ []) ?_ (hF ▸ hp.start)
 have hB : Lent F B := hF ▸ Lent.start hpB
 refine WC.rs (as_ (v := .slice none 0 0) ?_)
 refine WR.done ?_
 refine WC.rs (mv (v := (pq gs_)) (vb (q_nil (A := some ⟨gs_, 0, none⟩) rfl rfl rfl) (vb (q_fl 1 fld_107_1 rfl rfl rfl) ?_)))
 have hq := hs_
 obtain ⟨g0_1, r0_1, m1_1, r1_1, hrow_1, ho0_1, ho1_1, -⟩ := hq
 have hg_2 : ∀ u ∈ ([[(gs_, .cells #[(pq g0_1), .map (some m1_1)] es_.1 (0, 0))], r0_1, r1_1] : List Rowb), ∀ p ∈ u, B p.1 = some p.2 := fun u hu p hp => (fun p hp => (hs_r p hp)) p (hrow_1 ▸ List.mem_flatten.2 ⟨u, hu, hp⟩)
 have hgc3 := hg_2 _ (List.mem_cons_self ..) (gs_, _) (List.mem_singleton.2 rfl)
 have hgs4 := hg_2 r0_1 (by simp)
 have hgs5 := hg_2 r1_1 (by simp)
 refine vb (q_via (fun w hw => hB.sat hw) fun F => (q_ldg (v := .map (some m1_1)) hgc3 rfl Tryz.isAgg63 rfl rfl)) (mv (v := .string key) ?_)
 obtain ⟨v6, ⟨A9, c10, hv7, hc11, hs12⟩, hat8⟩ := MapO.look ho1_1 key (z := .slice none 0 0) (zx := []) ⟨none, 0, rfl, Nat.zero_le _, Sl.nil _ _ _⟩
 obtain rfl : v6 = _ := List.cons.inj hv7 |>.1
 refine vb (q_via (fun w hw => hB.sat hw) fun F => (q_lookup1g (v := .slice A9 ((mget key s_.keys).getD []).length c10) (fun p hp => (hgs5 p hp)) hat8 rfl Tryz.underlying63 Tryz.zeroValue77 rfl rfl)) ?_
 obtain ⟨z13, hz14, h⟩ := bnd h
 refine e_callB (is := []) hB rfl rfl (call_run Tryz.call54 rfl rfl (by kernel_rfl)) rfl (fun w Θ hp hpB hle hleB hR => t_code_Rec_l0 (hs12.mono hleB) hc11 hp hpB hz14) ?_
 rintro Γ15 U17 v18 hl16 ⟨A19, c20, rfl, rfl, hr21, hr22, _⟩
 change WR _ _ _ (CC F Γ15 []) _ _ (upd _ 14 (.tuple #[.agg #[.string z13.1.key, .slice A19 z13.1.vers.length c20], .int .i64 z13.2]))
 refine mv (v := .tuple #[.agg #[.string z13.1.key, .slice A19 z13.1.vers.length c20], .int .i64 z13.2]) (vb (q_extract (v := .agg #[.string z13.1.key, .slice A19 z13.1.vers.length c20]) rfl rfl rfl) (vb (q_extract (v := .int .i64 z13.2) rfl rfl rfl) ?_))
 refine e_alloc Tryz.zeroValue45 rfl rfl rfl rfl ?_
 intro g23
 refine e_st (i := 0) (v := .agg #[.string z13.1.key, .slice A19 z13.1.vers.length c20]) (new := #[.string z13.1.key, .slice A19 z13.1.vers.length c20]) rfl Tryz.sizeOf45 rfl rfl rfl rfl (by kernel_rfl) rfl rfl rfl rfl ?_
 refine as_ (v := .int .i64 z13.2) ?_
 refine WR.done ?_
 refine WC.rs (vb (q_fl 1 fld_45_1 rfl rfl rfl) (vb (q_ldl (i := 0) (v := .slice A19 z13.1.vers.length c20) rfl rfl Tryz.isAgg43 rfl rfl) (as_ (v := .slice A19 z13.1.vers.length c20) ?_)))
 refine WR.done ?_
 refine WC.ret ?_
 intro w hw
 obtain rfl := Option.some.inj h
 subst hF
 exact end_e (is := []) (by kernel_rfl) hw rfl ⟨A19, c20, rfl, rfl, hr21.2.1, hr21.2.2, trivial⟩
abbrev r_store_Store_Recs (gs_ : Nat) (es_ : Nat × Nat) (rows_ : Rowb) (r : List Rec) (U : List Rowb) (Γ : Gh) (v : Value) : Prop := ∃ (A0 : Option Addr), ∃ (c0 : Nat), ∃ (row0 : Rowb), v = .slice A0 r.length c0 ∧ U = [rows_, row0] ∧ Own recT Γ 45 row0 A0 c0 r ∧ True
theorem t_store_Store_Recs {Γ : Gh} {w0 : World} {gs_ : Nat} {es_ : Nat × Nat} {rows_ : Rowb} {s_ : Ostore_Store} (hs_ : Ostore_Store.ob es_ Γ gs_ rows_ s_) (hp : Pre [rows_] Γ w0) {r : List Rec} (h : m_store_Store_Recs s_ = some r) : Calls Tryz.prog 42 #[(pq gs_)] w0 (Outc Γ [rows_] w0 (r_store_Store_Recs gs_ es_ rows_ r)) := by
 refine calls_of (N := 23) (rs := [2]) (args := [(pq gs_)]) Tryz.func42 rfl Tryz.ntmps42 Tryz.results42 rfl ?_
 obtain ⟨F, hF⟩ : ∃ F : Fm, F = ⟨ids [rows_], w0, Γ⟩ := ⟨_, rfl⟩
 refine WC.here (C := CC F Γ [rows_]) ?_ (hF ▸ hp.start)
 refine WC.rs (as_ (v := .slice none 0 0) ?_)
 refine WR.done ?_
 refine WC.rs (as_ (v := .slice none 0 0) ?_)
 refine WR.done ?_
 refine WC.seq (WC.rs (mv (v := (pq gs_)) ?_))
 obtain ⟨z1, hz2, h⟩ := bnd h
 refine e_call (is := [0]) rfl rfl (call_run Tryz.call74 rfl rfl (by kernel_rfl)) rfl (fun w hp => t_store_Store_Keys hs_ hp hz2) ?_
 rintro Γ3 U5 v6 hl4 ⟨A7, c8, row9, rfl, rfl, hr10, _⟩
 change WR _ _ _ (CC F Γ3 [rows_, row9]) _ _ (upd _ 7 (.slice A7 z1.length c8))
 refine vb (q_len_slice rfl Tryz.underlying133 rfl) (mv (v := .int .i64 0) ?_)
 refine WR.done ?_
 refine WC.block ?_
 refine WC.forI h (fun (i19 : Nat) (out_13 : List Rec) σ w => ∃ (Γ11 : Gh), ∃ (A14 : Option Addr), ∃ (c15 : Nat), ∃ (row16 : Rowb), slots σ [(0, (pq gs_)), (3, .slice A14 out_13.length c15), (7, .slice A7 z1.length c8), (8, .int .i64 ((z1.length : Nat) : Int)), (9, .int .i64 ((i19 : Nat) : Int))] ∧ CC F Γ11 [row16, rows_, row9] w ∧ Gh.le Γ3 Γ11 ∧ Own recT Γ11 45 row16 A14 c15 out_13 ∧ True) ?_ ?_
 ·
  intro w hw
  have hw := hw.pad
  exact ⟨Γ3, none, 0, [], (sl_ (by kernel_rfl)), hw, (Gh.refl _), (Own.nil recT _ 45), trivial⟩
 rintro f18 i19 out_13 σ w hi20 hlt21 hge22 ⟨Γ11, A14, c15, row16, hsl, hw, hl12, ho17, -⟩
 refine Wpt.slots hsl ?_
 refine WC.here (C := CC F Γ11 [row16, rows_, row9]) ?_ hw
 clear hw hsl
 refine WC.rs (vb (q_lss rfl rfl rfl) ?_)
 refine WR.done ?_
 refine WC.seq ?_
 refine WC.cond (b := (decide (((i19 : Nat) : Int) < ((z1.length : Nat) : Int)))) (by kernel_rfl) (fun hb23 => ?_) (fun hb23 => ?_)
 ·
  have hl24 := ilt hb23
  have h := hlt21 hl24
  refine WC.skip ?_
  change WC _ _ _ _ _ _
  refine WC.seq (WC.block (WC.rs (vb (q_ixn (i := i19) Tryz.underlying133 Tryz.sizeOf9 rfl rfl rfl hl24 ((hr10.mono hl12).some_ hl24)) (vb (q_ldo (c := 0) (v := .string (gt z1 i19)) (i := 2) rfl ((hr10.mono hl12).strT_at hl24).2 rfl Tryz.isAgg9 rfl rfl) (as_ (v := .string (gt z1 i19)) ?_)))))
  refine WR.done ?_
  refine WC.region ?_
  refine mv (v := .slice A14 out_13.length c15) (mv (v := .string (gt z1 i19)) (mv (v := (pq gs_)) (mv (v := .string (gt z1 i19)) ?_)))
  obtain ⟨z25, hz26, h⟩ := bnd h
  refine e_callB (is := []) (Lent.nil F) rfl rfl (call_run Tryz.call58 rfl rfl (by kernel_rfl)) rfl (fun w Θ hp hpB hle hleB hR => t_store_Store_Get_l1 ((hs_.mono (hl4.trans hl12)).mono hle) (fun p hp => hR _ (List.mem_of_getElem? (i := 1) rfl) p hp) (gt z1 i19) ((hr10.mono hl12).strT_at hl24).1 hp hpB hz26) ?_
  rintro Γ27 U29 v30 hl28 ⟨A31, c32, rfl, rfl, hc34, hr33, _⟩
  change WR _ _ _ (CC F Γ27 [row16, rows_, row9]) _ _ (upd _ 17 (.slice A31 z25.length c32))
  refine vb (q_build' (v := .agg #[.string (gt z1 i19), .slice A31 z25.length c32]) rfl (bargs2 rfl rfl) (fun w => by kernel_rfl)) ?_
  refine e_buildSlice (cs := #[.string (gt z1 i19), .slice A31 z25.length c32]) (e := 45) rfl rfl rfl rfl (fun w => by kernel_rfl) ?_
  intro g35
  obtain ⟨hk36, h⟩ := chk_some h
  refine e_append (T := recT) (xs := out_13) (ys := [(⟨(gt z1 i19), z25⟩ : Rec)]) elem_22 (i := 1) rfl rfl rfl rfl rfl rfl rfl (ho17.mono hl28) (of_decide_eq_true hk36) (fun w hw => src_one (T := recT) (y := (⟨(gt z1 i19), z25⟩ : Rec)) (i := 0) rfl (by exact ⟨A31, c32, rfl, ⟨((hr10.mono (hl12.trans hl28)).strT_at hl24).1, ⟨hc34, hr33⟩⟩⟩) hw) ?_
  intro row37 A38 c39 ho40
  refine as_ (v := .slice A38 (out_13 ++ [(⟨(gt z1 i19), z25⟩ : Rec)]).length c39) ?_
  refine WR.nil ?_
  change WC _ _ _ _ _ _
  refine WC.region ?_
  refine vb (q_add_r (r := ((i19 + 1 : Nat) : Int)) rfl rfl rfl (ctr_len hl24 (hr10.mono hl12).le)) (mv (v := .int .i64 ((i19 + 1 : Nat) : Int)) ?_)
  refine WR.nil ?_
  intro w hw
  exact ⟨hl24, (out_13 ++ [(⟨(gt z1 i19), z25⟩ : Rec)]), h, Γ27, A38, c39, row37, (sl_ (by kernel_rfl)), (hw.only (is := [1, 1, 1]) rfl), (hl12.trans hl28), ho40, trivial⟩
 ·
  have h := hge22 (ige hb23)
  refine WC.exit ?_
  change WC _ _ _ _ _ _
  refine WC.rs (mv (v := .slice A14 out_13.length c15) (as_ (v := .slice A14 out_13.length c15) ?_))
  refine WR.done ?_
  refine WC.ret ?_
  intro w hw
  obtain rfl := Option.some.inj h
  subst hF
  exact end_e (is := [1, 0]) (by kernel_rfl) hw rfl ⟨A14, c15, row16, rfl, rfl, ho17, trivial⟩
abbrev r_node_Node_Hints (gn : Nat) (en : Nat × Nat) (rown : Rowb) (r : List Rec) (U : List Rowb) (Γ : Gh) (v : Value) : Prop := ∃ (A0 : Option Addr), ∃ (c0 : Nat), ∃ (row0 : Rowb), v = .slice A0 r.length c0 ∧ U = [rown, row0] ∧ Own recT Γ 45 row0 A0 c0 r ∧ True
theorem t_node_Node_Hints {Γ : Gh} {w0 : World} {gn : Nat} {en : Nat × Nat} {rown : Rowb} {n : Onode_Node} (hn : Onode_Node.ob en Γ gn rown n) (f_ : Int) (hf_ : I64 f_) (hp : Pre [rown] Γ w0) {r : List Rec} (h : m_node_Node_Hints n f_ = some r) : Calls Tryz.prog 24 #[(pq gn), .int .i64 f_] w0 (Outc Γ [rown] w0 (r_node_Node_Hints gn en rown r)) := by
 refine calls_of (N := 16) (rs := [4]) (args := [(pq gn), .int .i64 f_]) Tryz.func24 rfl Tryz.ntmps24 Tryz.results24 rfl ?_
 obtain ⟨F, hF⟩ : ∃ F : Fm, F = ⟨ids [rown], w0, Γ⟩ := ⟨_, rfl⟩
 refine WC.here (C := CC F Γ [rown]) ?_ (hF ▸ hp.start)
 refine WC.rs (as_ (v := .slice none 0 0) ?_)
 refine WR.done ?_
 refine WC.seq (WC.rs (mv (v := (pq gn)) (vb (q_nil (A := some ⟨gn, 0, none⟩) rfl rfl rfl) (vb (q_fl 5 fld_74_4 rfl rfl rfl) ?_))))
 have hq := hn
 obtain ⟨g4_1, r4_1, m5_1, r5_1, m6_1, r6_1, hrow_1, ho0_1, ho1_1, ho2_1, ho3_1, ho4_1, ho5_1, -⟩ := hq
 intro w hw; have hw := hw.unfold (i := 0) rfl hrow_1
 refine WR.here (C := CC F Γ [[(gn, .cells #[.int .i64 n.life, .pointer (some ⟨en.2, 0, none⟩), .int .i64 n.self_site, .int .i64 n.self_node, (pq g4_1), .map (some m5_1), .map (some m6_1)] en.1 (0, 0))], r4_1, r5_1, r6_1]) ?_ hw
 clear hw
 refine vb (q_ldl (i := 0) (v := .map (some m5_1)) rfl rfl Tryz.isAgg71 rfl rfl) (mv (v := .int .i64 f_) ?_)
 obtain hq3 | ⟨o2, hq3⟩ := opt_or (mget f_ n.hints)
 ·
  have h := optm_n hq3 h
  obtain ⟨rM4, hat5, hsub6⟩ := MapJ.no ho4_1 hq3
  refine vb (q_lookup1r (v := .pointer none) (fun w hw p hp => hw.at_ (i := 2) rfl (hsub6 p hp)) hat5 rfl Tryz.underlying71 Tryz.zeroValue68 rfl rfl) (as_ (v := .pointer none) ?_)
  refine WR.done ?_
  refine WC.rs (mv (v := .pointer none) (vb (q_ptr_neq (a := none) Tryz.underlying68 rfl rfl rfl) ?_))
  refine WR.done ?_
  refine WC.cfk (b := false) (by kernel_rfl) rfl ?_
  refine WC.skip ?_
  change WC _ _ _ _ _ _
  refine WC.rs (as_ (v := .slice none 0 0) ?_)
  refine WR.done ?_
  refine WC.ret ?_
  intro w hw
  have hw := hw.fold (is := [0, 0, 0, 0]) rfl hrow_1
  have hw := hw.pad
  obtain rfl := Option.some.inj h
  subst hF
  exact end_e (is := [1, 0]) (by kernel_rfl) hw rfl ⟨none, 0, [], rfl, rfl, (Own.nil recT _ 45), trivial⟩
 ·
  have h := optm_s hq3 h
  obtain ⟨gs8, rM9, rA10, rS11, rB12, hat13, hsub14, hrow15, hm16, hback17⟩ := MapJ.part ho4_1 hq3
  have hm16 : Ostore_Store.ob (107, en.2) Γ gs8 rS11 o2 := hm16
  refine vb (q_lookup1r (v := (pq gs8)) (fun w hw p hp => hw.at_ (i := 2) rfl (by rw [hrow15]; exact List.mem_append.2 (.inl (hsub14 p hp)))) hat13 rfl Tryz.underlying71 Tryz.zeroValue68 rfl rfl) ?_
  intro w hw; have hw := hw.unfold (U := [rA10, rS11, rB12]) (i := 2) rfl (by rw [hrow15]; simp)
  refine WR.here (C := CC F Γ [rA10, rS11, rB12, [(gn, .cells #[.int .i64 n.life, .pointer (some ⟨en.2, 0, none⟩), .int .i64 n.self_site, .int .i64 n.self_node, (pq g4_1), .map (some m5_1), .map (some m6_1)] en.1 (0, 0))], r4_1, r6_1]) ?_ hw
  clear hw
  refine as_ (v := (pq gs8)) ?_
  refine WR.done ?_
  refine WC.rs (mv (v := (pq gs8)) (vb (q_ptr_neq (a := some ⟨gs8, 0, none⟩) Tryz.underlying68 rfl rfl rfl) ?_))
  refine WR.done ?_
  refine WC.ctk (b := true) (by kernel_rfl) rfl ?_
  refine WC.rs (mv (v := (pq gs8)) ?_)
  obtain ⟨z18, hz19, h⟩ := bnd h
  refine e_call (is := [1]) rfl rfl (call_run Tryz.call42 rfl rfl (by kernel_rfl)) rfl (fun w hp => t_store_Store_Recs hm16 hp hz19) ?_
  rintro Γ20 U22 v23 hl21 ⟨A24, c25, row26, rfl, rfl, hr27, _⟩
  change WR _ _ _ (CC F Γ20 [rS11, row26, rA10, rB12, [(gn, .cells #[.int .i64 n.life, .pointer (some ⟨en.2, 0, none⟩), .int .i64 n.self_site, .int .i64 n.self_node, (pq g4_1), .map (some m5_1), .map (some m6_1)] en.1 (0, 0))], r4_1, r6_1]) _ _ (upd _ 15 (.slice A24 z18.length c25))
  refine as_ (v := .slice A24 z18.length c25) ?_
  refine WR.done ?_
  refine WC.ret ?_
  intro w hw
  have hw := hw.fold (is := [2, 0, 1]) rfl (show r5_1 = ([rA10, rS11, rB12] : List Rowb).flatten from by rw [hrow15]; simp)
  have hw := hw.fold (is := [2, 2, 0, 1]) rfl hrow_1
  obtain rfl := Option.some.inj h
  subst hF
  exact end_e (is := [0, 0]) (by kernel_rfl) hw rfl ⟨A24, c25, row26, rfl, rfl, hr27, trivial⟩
abbrev r_node_Node_Tick (gn : Nat) (en : Nat × Nat) (rown : Rowb) (r : List Dapi_Msg) (U : List Rowb) (Γ : Gh) (v : Value) : Prop := ∃ (A0 : Option Addr), ∃ (c0 : Nat), ∃ (row0 : Rowb), v = .slice A0 r.length c0 ∧ U = [rown, row0] ∧ Own dapi_MsgT Γ 40 row0 A0 c0 r ∧ True
theorem t_node_Node_Tick {Γ : Gh} {w0 : World} {gn : Nat} {en : Nat × Nat} {rown : Rowb} {n : Onode_Node} (hn : Onode_Node.ob en Γ gn rown n) (hp : Pre [rown] Γ w0) {r : List Dapi_Msg} (h : m_node_Node_Tick n = some r) : Calls Tryz.prog 21 #[(pq gn)] w0 (Outc Γ [rown] w0 (r_node_Node_Tick gn en rown r)) := by
 refine calls_of (N := 38) (rs := [2]) (args := [(pq gn)]) Tryz.func21 rfl Tryz.ntmps21 Tryz.results21 rfl ?_
 obtain ⟨F, hF⟩ : ∃ F : Fm, F = ⟨ids [rown], w0, Γ⟩ := ⟨_, rfl⟩
 refine WC.here (C := CC F Γ [rown]) ?_ (hF ▸ hp.start)
 refine WC.rs (as_ (v := .slice none 0 0) ?_)
 refine WR.done ?_
 refine WC.rs (as_ (v := .slice none 0 0) ?_)
 refine WR.done ?_
 refine WC.seq (WC.rs (as_ (v := .int .i64 1) ?_))
 refine WR.done ?_
 refine WC.block ?_
 refine WC.loopN h (fun (s : (List Dapi_Msg) × Int) σ w => match s with | (out_3, f_8) => ∃ (Γ1 : Gh), ∃ (A4 : Option Addr), ∃ (c5 : Nat), ∃ (row6 : Rowb), slots σ [(0, (pq gn)), (3, .slice A4 out_3.length c5), (4, .int .i64 f_8)] ∧ CC F Γ1 [row6, rown] w ∧ Gh.le Γ Γ1 ∧ Own dapi_MsgT Γ1 40 row6 A4 c5 out_3 ∧ I64 f_8 ∧ True) ?_ ?_
 ·
  intro w hw
  have hw := hw.pad
  exact ⟨Γ, none, 0, [], (sl_ (by kernel_rfl)), hw, (Gh.refl _), (Own.nil dapi_MsgT _ 40), (show I64 1 by decide), trivial⟩
 rintro f10 ⟨out_3, f_8⟩ σ w h ⟨Γ1, A4, c5, row6, hsl, hw, hl2, ho7, hr9, -⟩
 refine Wpt.slots hsl ?_
 refine WC.here (C := CC F Γ1 [row6, rown]) ?_ hw
 clear hw hsl
 refine WC.seq (WC.rs (mv (v := .int .i64 f_8) (vb (q_leq rfl rfl rfl) ?_)))
 refine WR.done ?_
 refine WC.cif h (by kernel_rfl) (fun hb14 h => ?_) (fun hb14 h => ?_)
 ·
  refine WC.skip ?_
  change WC _ _ _ _ _ _
  refine WC.seq (WC.block (WC.rs (mv (v := (pq gn)) (mv (v := .int .i64 f_8) ?_))))
  obtain ⟨z15, hz16, h⟩ := bnd h
  refine e_call (is := [1]) rfl rfl (call_run Tryz.call24 rfl rfl (by kernel_rfl)) rfl (fun w hp => t_node_Node_Hints (hn.mono hl2) f_8 hr9 hp hz16) ?_
  rintro Γ17 U19 v20 hl18 ⟨A21, c22, row23, rfl, rfl, hr24, _⟩
  change WR _ _ _ (CC F Γ17 [rown, row23, row6]) _ _ (upd _ 13 (.slice A21 z15.length c22))
  refine vb (q_len_slice rfl Tryz.underlying22 rfl) (mv (v := .int .i64 0) ?_)
  refine WR.done ?_
  refine WC.block ?_
  refine WC.forI h (fun (i33 : Nat) (out_27 : List Dapi_Msg) σ w => ∃ (Γ25 : Gh), ∃ (A28 : Option Addr), ∃ (c29 : Nat), ∃ (row30 : Rowb), slots σ [(0, (pq gn)), (3, .slice A28 out_27.length c29), (4, .int .i64 f_8), (13, .slice A21 z15.length c22), (14, .int .i64 ((z15.length : Nat) : Int)), (15, .int .i64 ((i33 : Nat) : Int))] ∧ CC F Γ25 [row30, rown, row23] w ∧ Gh.le Γ17 Γ25 ∧ Own dapi_MsgT Γ25 40 row30 A28 c29 out_27 ∧ True) ?_ ?_
  ·
   intro w hw
   exact ⟨Γ17, A4, c5, row6, (sl_ (by kernel_rfl)), (hw.only (is := [2, 0, 0]) rfl), (Gh.refl _), (ho7.mono hl18), trivial⟩
  rintro f32 i33 out_27 σ w hi34 hlt35 hge36 ⟨Γ25, A28, c29, row30, hsl, hw, hl26, ho31, -⟩
  refine Wpt.slots hsl ?_
  refine WC.here (C := CC F Γ25 [row30, rown, row23]) ?_ hw
  clear hw hsl
  refine WC.rs (vb (q_lss rfl rfl rfl) ?_)
  refine WR.done ?_
  refine WC.seq ?_
  refine WC.cond (b := (decide (((i33 : Nat) : Int) < ((z15.length : Nat) : Int)))) (by kernel_rfl) (fun hb37 => ?_) (fun hb37 => ?_)
  ·
   have hl38 := ilt hb37
   have h := hlt35 hl38
   refine WC.skip ?_
   change WC _ _ _ _ _ _
   refine WC.seq (WC.block (WC.rs (vb (q_ixn (i := i33) Tryz.underlying22 Tryz.sizeOf45 rfl rfl rfl hl38 ((hr24.mono hl26).some_ hl38)) ?_)))
   obtain ⟨A39, c40, hx41⟩ := (hr24.mono hl26).recT_at i33
   refine vb (q_ldoa (c := 0) (vs := [.string (gt z15 i33).key, .slice A39 ((gt z15 i33).vers).length c40]) (i := 2) rfl (hx41 hl38).2 rfl Tryz.isAgg45 Tryz.sizeOf45 rfl rfl) ?_
   refine e_alloc Tryz.zeroValue45 rfl rfl rfl rfl ?_
   intro g42
   refine e_st (i := 0) (v := .agg #[.string (gt z15 i33).key, .slice A39 ((gt z15 i33).vers).length c40]) (new := #[.string (gt z15 i33).key, .slice A39 ((gt z15 i33).vers).length c40]) rfl Tryz.sizeOf45 rfl rfl rfl rfl (by kernel_rfl) rfl rfl rfl rfl ?_
   refine WR.done ?_
   intro w hw; have h043 := hw.le
   refine WC.here (C := CC F Γ25 [[(g42, .cells #[.string (gt z15 i33).key, .slice A39 ((gt z15 i33).vers).length c40] 45 (0, 0))], row30, rown, row23]) ?_ hw; clear hw
   refine WC.held (CC F Γ25 [[(g42, .cells #[.string (gt z15 i33).key, .slice A39 ((gt z15 i33).vers).length c40] 45 (0, 0))], row23]) (by kernel_rfl) (fun w hw => hw.drawn _) ?_
   change WH _ _ _ _ (CC F Γ25 [[(g42, .cells #[.string (gt z15 i33).key, .slice A39 ((gt z15 i33).vers).length c40] 45 (0, 0))], row30, rown, row23]) _ 18 #[false, false, false, false, false, false, false, false, false, false, false, false, false, false, false, false, false, false] _
   refine hu 0 rfl (bk_ (Gh.refl _) h043 (.cons_cons _ (.cons _ (.cons _ (.cons_cons _ .slnil))))) (q_move (v := .slice A28 out_27.length c29) rfl (by kernel_rfl)) (hu 1 rfl (bk_ (Gh.refl _) h043 (.cons_cons _ (.cons _ (.cons _ (.cons_cons _ .slnil))))) (q_move (v := (pq gn)) rfl (by kernel_rfl)) (hu 2 rfl (bk_ (Gh.refl _) h043 (.cons_cons _ (.cons _ (.cons _ (.cons_cons _ .slnil))))) (q_nil (A := some ⟨gn, 0, none⟩) rfl rfl rfl) (hu 3 rfl (bk_ (Gh.refl _) h043 (.cons_cons _ (.cons _ (.cons _ (.cons_cons _ .slnil))))) (q_fl 2 fld_74_2 rfl rfl rfl) (hu 5 rfl (bk_ (Gh.refl _) h043 (.cons_cons _ (.cons _ (.cons _ (.cons_cons _ .slnil))))) (q_move (v := (pq gn)) rfl (by kernel_rfl)) (hu 6 rfl (bk_ (Gh.refl _) h043 (.cons_cons _ (.cons _ (.cons _ (.cons_cons _ .slnil))))) (q_nil (A := some ⟨gn, 0, none⟩) rfl rfl rfl) (hu 7 rfl (bk_ (Gh.refl _) h043 (.cons_cons _ (.cons _ (.cons _ (.cons_cons _ .slnil))))) (q_fl 2 fld_74_2 rfl rfl rfl) (hu 8 rfl (bk_ (Gh.refl _) h043 (.cons_cons _ (.cons _ (.cons _ (.cons_cons _ .slnil))))) (q_fl 2 fld_32_0 rfl rfl rfl) ?_)))))))
   refine hu 10 rfl (bk_ (Gh.refl _) h043 (.cons_cons _ (.cons _ (.cons _ (.cons_cons _ .slnil))))) (q_move (v := .int .i64 f_8) rfl (by kernel_rfl)) (hu 12 rfl (bk_ (Gh.refl _) h043 (.cons_cons _ (.cons _ (.cons _ (.cons_cons _ .slnil))))) (q_ldla (i := 0) (vs := [.string (gt z15 i33).key, .slice A39 ((gt z15 i33).vers).length c40]) rfl rfl Tryz.isAgg45 Tryz.sizeOf45 rfl rfl) ?_)
   refine WH.each (l := [4, 9, 13]) (by kernel_rfl) (by simp) ?_
   intro i hi; simp only [List.mem_cons, List.not_mem_nil, or_false] at hi
   rcases hi with rfl | rfl | rfl
   ·
    refine ⟨_, rfl, ?_⟩
    have hq := (hn.mono ((hl2.trans hl18).trans hl26))
    obtain ⟨g4_44, r4_44, m5_44, r5_44, m6_44, r6_44, hrow_44, ho0_44, ho1_44, ho2_44, ho3_44, ho4_44, ho5_44, -⟩ := hq
    intro w hw; have hw := hw.unfold (i := 2) rfl hrow_44
    refine WR.here (C := CC F Γ25 [[(gn, .cells #[.int .i64 n.life, .pointer (some ⟨en.2, 0, none⟩), .int .i64 n.self_site, .int .i64 n.self_node, (pq g4_44), .map (some m5_44), .map (some m6_44)] en.1 (0, 0))], r4_44, r5_44, r6_44, [(g42, .cells #[.string (gt z15 i33).key, .slice A39 ((gt z15 i33).vers).length c40] 45 (0, 0))], row30, row23]) ?_ hw
    clear hw
    refine vb (q_ldla (i := 0) (vs := [.int .i64 n.self_site, .int .i64 n.self_node]) rfl rfl Tryz.isAgg32 Tryz.sizeOf32 rfl rfl) ?_
    refine WR.nil ?_
    refine WH.next (bk_ (Gh.refl _) h043 (.cons _ (.cons _ (.cons _ (.cons _ (.cons_cons _ (.cons _ (.cons_cons _ .slnil)))))))) ?_
    refine WH.each (l := [9, 13]) (by kernel_rfl) (by simp) ?_
    intro i hi; simp only [List.mem_cons, List.not_mem_nil, or_false] at hi
    rcases hi with rfl | rfl
    ·
     refine ⟨_, rfl, ?_⟩
     refine vb (q_ldl (i := 0) (v := .int .i64 n.self_site) rfl rfl Tryz.isAgg3 rfl rfl) ?_
     refine WR.nil ?_
     refine WH.next (bk_ (Gh.refl _) h043 (.cons _ (.cons _ (.cons _ (.cons _ (.cons_cons _ (.cons _ (.cons_cons _ .slnil)))))))) ?_
     refine hu 11 rfl (bk_ (Gh.refl _) h043 (.cons _ (.cons _ (.cons _ (.cons _ (.cons_cons _ (.cons _ (.cons_cons _ .slnil)))))))) (q_build' (v := .agg #[.int .i64 n.self_site, .int .i64 f_8]) rfl (bargs2 rfl rfl) (fun w => by kernel_rfl)) ?_
     refine WH.lone (i := 13) (by kernel_rfl) rfl ?_
     refine e_buildSlice (cs := #[.string (gt z15 i33).key, .slice A39 ((gt z15 i33).vers).length c40]) (e := 45) rfl rfl rfl rfl (fun w => by kernel_rfl) ?_
     intro g45
     refine WR.nil ?_
     refine WH.next (bk_ (Gh.refl _) h043 (.cons _ (.cons _ (.cons _ (.cons _ (.cons _ (.cons_cons _ (.cons _ (.cons_cons _ .slnil))))))))) ?_
     refine hu 14 rfl (bk_ (Gh.refl _) h043 (.cons _ (.cons _ (.cons _ (.cons _ (.cons _ (.cons_cons _ (.cons _ (.cons_cons _ .slnil))))))))) (q_build' (v := .agg #[.int .i64 1, .int .i64 n.self_site, .int .i64 n.self_node, .int .i64 n.self_site, .int .i64 f_8, .int .i64 0, .int .i64 0, .int .i64 0, .int .i64 0, .string ByteArray.empty, .slice (some ⟨g45, 0, none⟩) 1 1, .slice none 0 0, .slice none 0 0, .slice none 0 0, .slice none 0 0]) rfl (bargs4 rfl rfl rfl rfl) (fun w => by kernel_rfl)) ?_
     refine WH.lone (i := 15) (by kernel_rfl) rfl ?_
     have ho46 : Own recT Γ25 45 [(g45, .cells #[.string (gt z15 i33).key, .slice A39 ((gt z15 i33).vers).length c40] 45 (0, 0))] (some ⟨g45, 0, none⟩) 1 [(gt z15 i33)] := Own.of_blockL (T := recT) (ys := [(gt z15 i33)]) [[.string (gt z15 i33).key, .slice A39 ((gt z15 i33).vers).length c40]] rfl (show 1 ≤ lim by decide) (show Ty.rd recT Γ25 [.string (gt z15 i33).key, .slice A39 ((gt z15 i33).vers).length c40] (gt z15 i33) ∧ True from ⟨⟨A39, c40, rfl, (hx41 hl38).1⟩, trivial⟩)
     have hc51 := ho46.capz
     intro w hw; obtain ⟨Γ47, hw, hl48, hr49⟩ := hw.seal (i := 0) rfl; have hs50 := ho46.sl hl48 hr49
     refine WR.here (C := CC F Γ47 [[], [(gn, .cells #[.int .i64 n.life, .pointer (some ⟨en.2, 0, none⟩), .int .i64 n.self_site, .int .i64 n.self_node, (pq g4_44), .map (some m5_44), .map (some m6_44)] en.1 (0, 0))], r4_44, r5_44, r6_44, [(g42, .cells #[.string (gt z15 i33).key, .slice A39 ((gt z15 i33).vers).length c40] 45 (0, 0))], row30, row23]) ?_ hw
     clear hw
     refine e_buildSlice (cs := #[.int .i64 1, .int .i64 n.self_site, .int .i64 n.self_node, .int .i64 n.self_site, .int .i64 f_8, .int .i64 0, .int .i64 0, .int .i64 0, .int .i64 0, .string ByteArray.empty, .slice (some ⟨g45, 0, none⟩) [(gt z15 i33)].length 1, .slice none 0 0, .slice none 0 0, .slice none 0 0, .slice none 0 0]) (e := 40) rfl rfl rfl rfl (fun w => by kernel_rfl) ?_
     intro g52
     refine WR.nil ?_
     refine WH.next (bk_ hl48 h043 (.cons _ (.cons _ (.cons _ (.cons _ (.cons _ (.cons _ (.cons_cons _ (.cons _ (.cons_cons _ .slnil)))))))))) ?_
     refine WH.lone (i := 16) (by kernel_rfl) rfl ?_
     obtain ⟨hk53, h⟩ := chk_some h
     refine e_append (T := dapi_MsgT) (xs := out_27) (ys := [(⟨1, (⟨n.self_site, n.self_node⟩ : Adr), (⟨n.self_site, f_8⟩ : Adr), 0, 0, 0, 0, ByteArray.empty, [(gt z15 i33)], [], [], [], []⟩ : Dapi_Msg)]) elem_34 (i := 7) rfl rfl rfl rfl rfl rfl rfl (ho31.mono hl48) (of_decide_eq_true hk53) (fun w hw => src_one (T := dapi_MsgT) (y := (⟨1, (⟨n.self_site, n.self_node⟩ : Adr), (⟨n.self_site, f_8⟩ : Adr), 0, 0, 0, 0, ByteArray.empty, [(gt z15 i33)], [], [], [], []⟩ : Dapi_Msg)) (i := 0) rfl (by exact ⟨(some ⟨g45, 0, none⟩), 1, none, 0, none, 0, none, 0, none, 0, rfl, ⟨(show I64 1 by decide), ho1_44, ho2_44, ho1_44, hr9, (show I64 0 by decide), (show I64 0 by decide), (show I64 0 by decide), (show I64 0 by decide), (show (ByteArray.empty : ByteArray).size ≤ lim by decide), ⟨hc51, hs50⟩, ⟨Nat.zero_le _, Sl.nil _ _ _⟩, ⟨Nat.zero_le _, Sl.nil _ _ _⟩, ⟨Nat.zero_le _, Sl.nil _ _ _⟩, ⟨Nat.zero_le _, Sl.nil _ _ _⟩⟩⟩) hw) ?_
     intro row54 A55 c56 ho57
     refine WR.nil ?_
     refine WH.next (bk_ hl48 h043 (.cons _ (.cons _ (.cons _ (.cons _ (.cons _ (.cons _ (.cons_cons _ (.cons _ (.cons_cons _ .slnil)))))))))) ?_
     refine hu 17 rfl (bk_ hl48 h043 (.cons _ (.cons _ (.cons _ (.cons _ (.cons _ (.cons _ (.cons_cons _ (.cons _ (.cons_cons _ .slnil)))))))))) (q_assign (v := .slice A55 (out_27 ++ [(⟨1, (⟨n.self_site, n.self_node⟩ : Adr), (⟨n.self_site, f_8⟩ : Adr), 0, 0, 0, 0, ByteArray.empty, [(gt z15 i33)], [], [], [], []⟩ : Dapi_Msg)]).length c56) rfl (by kernel_rfl)) ?_
     refine WH.done (by kernel_rfl) ?_
     change WC _ _ _ _ _ _
     refine WC.region ?_
     refine vb (q_add_r (r := ((i33 + 1 : Nat) : Int)) rfl rfl rfl (ctr_len hl38 (hr24.mono hl26).le)) (mv (v := .int .i64 ((i33 + 1 : Nat) : Int)) ?_)
     refine WR.nil ?_
     intro w hw
     have hw := hw.fold (is := [2, 2, 2, 2]) rfl hrow_44
     exact ⟨hl38, (out_27 ++ [(⟨1, (⟨n.self_site, n.self_node⟩ : Adr), (⟨n.self_site, f_8⟩ : Adr), 0, 0, 0, 0, ByteArray.empty, [(gt z15 i33)], [], [], [], []⟩ : Dapi_Msg)]), h, Γ47, A55, c56, row54, (sl_ (by kernel_rfl)), (hw.only (is := [4, 0, 3]) rfl), (hl26.trans hl48), ho57, trivial⟩
    ·
     refine ⟨_, rfl, ?_⟩
     refine e_buildSlice (cs := #[.string (gt z15 i33).key, .slice A39 ((gt z15 i33).vers).length c40]) (e := 45) rfl rfl rfl rfl (fun w => by kernel_rfl) ?_
     intro g45
     refine WR.nil ?_
     refine WH.next (bk_ (Gh.refl _) h043 (.cons _ (.cons _ (.cons _ (.cons _ (.cons _ (.cons_cons _ (.cons _ (.cons_cons _ .slnil))))))))) ?_
     refine WH.lone (i := 9) (by kernel_rfl) rfl ?_
     refine vb (q_ldl (i := 1) (v := .int .i64 n.self_site) rfl rfl Tryz.isAgg3 rfl rfl) ?_
     refine WR.nil ?_
     refine WH.next (bk_ (Gh.refl _) h043 (.cons _ (.cons _ (.cons _ (.cons _ (.cons _ (.cons_cons _ (.cons _ (.cons_cons _ .slnil))))))))) ?_
     refine hu 11 rfl (bk_ (Gh.refl _) h043 (.cons _ (.cons _ (.cons _ (.cons _ (.cons _ (.cons_cons _ (.cons _ (.cons_cons _ .slnil))))))))) (q_build' (v := .agg #[.int .i64 n.self_site, .int .i64 f_8]) rfl (bargs2 rfl rfl) (fun w => by kernel_rfl)) (hu 14 rfl (bk_ (Gh.refl _) h043 (.cons _ (.cons _ (.cons _ (.cons _ (.cons _ (.cons_cons _ (.cons _ (.cons_cons _ .slnil))))))))) (q_build' (v := .agg #[.int .i64 1, .int .i64 n.self_site, .int .i64 n.self_node, .int .i64 n.self_site, .int .i64 f_8, .int .i64 0, .int .i64 0, .int .i64 0, .int .i64 0, .string ByteArray.empty, .slice (some ⟨g45, 0, none⟩) 1 1, .slice none 0 0, .slice none 0 0, .slice none 0 0, .slice none 0 0]) rfl (bargs4 rfl rfl rfl rfl) (fun w => by kernel_rfl)) ?_)
     refine WH.lone (i := 15) (by kernel_rfl) rfl ?_
     have ho46 : Own recT Γ25 45 [(g45, .cells #[.string (gt z15 i33).key, .slice A39 ((gt z15 i33).vers).length c40] 45 (0, 0))] (some ⟨g45, 0, none⟩) 1 [(gt z15 i33)] := Own.of_blockL (T := recT) (ys := [(gt z15 i33)]) [[.string (gt z15 i33).key, .slice A39 ((gt z15 i33).vers).length c40]] rfl (show 1 ≤ lim by decide) (show Ty.rd recT Γ25 [.string (gt z15 i33).key, .slice A39 ((gt z15 i33).vers).length c40] (gt z15 i33) ∧ True from ⟨⟨A39, c40, rfl, (hx41 hl38).1⟩, trivial⟩)
     have hc51 := ho46.capz
     intro w hw; obtain ⟨Γ47, hw, hl48, hr49⟩ := hw.seal (i := 0) rfl; have hs50 := ho46.sl hl48 hr49
     refine WR.here (C := CC F Γ47 [[], [(gn, .cells #[.int .i64 n.life, .pointer (some ⟨en.2, 0, none⟩), .int .i64 n.self_site, .int .i64 n.self_node, (pq g4_44), .map (some m5_44), .map (some m6_44)] en.1 (0, 0))], r4_44, r5_44, r6_44, [(g42, .cells #[.string (gt z15 i33).key, .slice A39 ((gt z15 i33).vers).length c40] 45 (0, 0))], row30, row23]) ?_ hw
     clear hw
     refine e_buildSlice (cs := #[.int .i64 1, .int .i64 n.self_site, .int .i64 n.self_node, .int .i64 n.self_site, .int .i64 f_8, .int .i64 0, .int .i64 0, .int .i64 0, .int .i64 0, .string ByteArray.empty, .slice (some ⟨g45, 0, none⟩) [(gt z15 i33)].length 1, .slice none 0 0, .slice none 0 0, .slice none 0 0, .slice none 0 0]) (e := 40) rfl rfl rfl rfl (fun w => by kernel_rfl) ?_
     intro g52
     refine WR.nil ?_
     refine WH.next (bk_ hl48 h043 (.cons _ (.cons _ (.cons _ (.cons _ (.cons _ (.cons _ (.cons_cons _ (.cons _ (.cons_cons _ .slnil)))))))))) ?_
     refine WH.lone (i := 16) (by kernel_rfl) rfl ?_
     obtain ⟨hk53, h⟩ := chk_some h
     refine e_append (T := dapi_MsgT) (xs := out_27) (ys := [(⟨1, (⟨n.self_site, n.self_node⟩ : Adr), (⟨n.self_site, f_8⟩ : Adr), 0, 0, 0, 0, ByteArray.empty, [(gt z15 i33)], [], [], [], []⟩ : Dapi_Msg)]) elem_34 (i := 7) rfl rfl rfl rfl rfl rfl rfl (ho31.mono hl48) (of_decide_eq_true hk53) (fun w hw => src_one (T := dapi_MsgT) (y := (⟨1, (⟨n.self_site, n.self_node⟩ : Adr), (⟨n.self_site, f_8⟩ : Adr), 0, 0, 0, 0, ByteArray.empty, [(gt z15 i33)], [], [], [], []⟩ : Dapi_Msg)) (i := 0) rfl (by exact ⟨(some ⟨g45, 0, none⟩), 1, none, 0, none, 0, none, 0, none, 0, rfl, ⟨(show I64 1 by decide), ho1_44, ho2_44, ho1_44, hr9, (show I64 0 by decide), (show I64 0 by decide), (show I64 0 by decide), (show I64 0 by decide), (show (ByteArray.empty : ByteArray).size ≤ lim by decide), ⟨hc51, hs50⟩, ⟨Nat.zero_le _, Sl.nil _ _ _⟩, ⟨Nat.zero_le _, Sl.nil _ _ _⟩, ⟨Nat.zero_le _, Sl.nil _ _ _⟩, ⟨Nat.zero_le _, Sl.nil _ _ _⟩⟩⟩) hw) ?_
     intro row54 A55 c56 ho57
     refine WR.nil ?_
     refine WH.next (bk_ hl48 h043 (.cons _ (.cons _ (.cons _ (.cons _ (.cons _ (.cons _ (.cons_cons _ (.cons _ (.cons_cons _ .slnil)))))))))) ?_
     refine hu 17 rfl (bk_ hl48 h043 (.cons _ (.cons _ (.cons _ (.cons _ (.cons _ (.cons _ (.cons_cons _ (.cons _ (.cons_cons _ .slnil)))))))))) (q_assign (v := .slice A55 (out_27 ++ [(⟨1, (⟨n.self_site, n.self_node⟩ : Adr), (⟨n.self_site, f_8⟩ : Adr), 0, 0, 0, 0, ByteArray.empty, [(gt z15 i33)], [], [], [], []⟩ : Dapi_Msg)]).length c56) rfl (by kernel_rfl)) ?_
     refine WH.done (by kernel_rfl) ?_
     change WC _ _ _ _ _ _
     refine WC.region ?_
     refine vb (q_add_r (r := ((i33 + 1 : Nat) : Int)) rfl rfl rfl (ctr_len hl38 (hr24.mono hl26).le)) (mv (v := .int .i64 ((i33 + 1 : Nat) : Int)) ?_)
     refine WR.nil ?_
     intro w hw
     have hw := hw.fold (is := [2, 2, 2, 2]) rfl hrow_44
     exact ⟨hl38, (out_27 ++ [(⟨1, (⟨n.self_site, n.self_node⟩ : Adr), (⟨n.self_site, f_8⟩ : Adr), 0, 0, 0, 0, ByteArray.empty, [(gt z15 i33)], [], [], [], []⟩ : Dapi_Msg)]), h, Γ47, A55, c56, row54, (sl_ (by kernel_rfl)), (hw.only (is := [4, 0, 3]) rfl), (hl26.trans hl48), ho57, trivial⟩
   ·
    refine ⟨_, rfl, ?_⟩
    have hq := (hn.mono ((hl2.trans hl18).trans hl26))
    obtain ⟨g4_44, r4_44, m5_44, r5_44, m6_44, r6_44, hrow_44, ho0_44, ho1_44, ho2_44, ho3_44, ho4_44, ho5_44, -⟩ := hq
    intro w hw; have hw := hw.unfold (i := 2) rfl hrow_44
    refine WR.here (C := CC F Γ25 [[(gn, .cells #[.int .i64 n.life, .pointer (some ⟨en.2, 0, none⟩), .int .i64 n.self_site, .int .i64 n.self_node, (pq g4_44), .map (some m5_44), .map (some m6_44)] en.1 (0, 0))], r4_44, r5_44, r6_44, [(g42, .cells #[.string (gt z15 i33).key, .slice A39 ((gt z15 i33).vers).length c40] 45 (0, 0))], row30, row23]) ?_ hw
    clear hw
    refine vb (q_ldl (i := 0) (v := .int .i64 n.self_site) rfl rfl Tryz.isAgg3 rfl rfl) ?_
    refine WR.nil ?_
    refine WH.next (bk_ (Gh.refl _) h043 (.cons _ (.cons _ (.cons _ (.cons _ (.cons_cons _ (.cons _ (.cons_cons _ .slnil)))))))) ?_
    refine hu 11 rfl (bk_ (Gh.refl _) h043 (.cons _ (.cons _ (.cons _ (.cons _ (.cons_cons _ (.cons _ (.cons_cons _ .slnil)))))))) (q_build' (v := .agg #[.int .i64 n.self_site, .int .i64 f_8]) rfl (bargs2 rfl rfl) (fun w => by kernel_rfl)) ?_
    refine WH.each (l := [4, 13]) (by kernel_rfl) (by simp) ?_
    intro i hi; simp only [List.mem_cons, List.not_mem_nil, or_false] at hi
    rcases hi with rfl | rfl
    ·
     refine ⟨_, rfl, ?_⟩
     refine vb (q_ldla (i := 0) (vs := [.int .i64 n.self_site, .int .i64 n.self_node]) rfl rfl Tryz.isAgg32 Tryz.sizeOf32 rfl rfl) ?_
     refine WR.nil ?_
     refine WH.next (bk_ (Gh.refl _) h043 (.cons _ (.cons _ (.cons _ (.cons _ (.cons_cons _ (.cons _ (.cons_cons _ .slnil)))))))) ?_
     refine WH.lone (i := 13) (by kernel_rfl) rfl ?_
     refine e_buildSlice (cs := #[.string (gt z15 i33).key, .slice A39 ((gt z15 i33).vers).length c40]) (e := 45) rfl rfl rfl rfl (fun w => by kernel_rfl) ?_
     intro g45
     refine WR.nil ?_
     refine WH.next (bk_ (Gh.refl _) h043 (.cons _ (.cons _ (.cons _ (.cons _ (.cons _ (.cons_cons _ (.cons _ (.cons_cons _ .slnil))))))))) ?_
     refine hu 14 rfl (bk_ (Gh.refl _) h043 (.cons _ (.cons _ (.cons _ (.cons _ (.cons _ (.cons_cons _ (.cons _ (.cons_cons _ .slnil))))))))) (q_build' (v := .agg #[.int .i64 1, .int .i64 n.self_site, .int .i64 n.self_node, .int .i64 n.self_site, .int .i64 f_8, .int .i64 0, .int .i64 0, .int .i64 0, .int .i64 0, .string ByteArray.empty, .slice (some ⟨g45, 0, none⟩) 1 1, .slice none 0 0, .slice none 0 0, .slice none 0 0, .slice none 0 0]) rfl (bargs4 rfl rfl rfl rfl) (fun w => by kernel_rfl)) ?_
     refine WH.lone (i := 15) (by kernel_rfl) rfl ?_
     have ho46 : Own recT Γ25 45 [(g45, .cells #[.string (gt z15 i33).key, .slice A39 ((gt z15 i33).vers).length c40] 45 (0, 0))] (some ⟨g45, 0, none⟩) 1 [(gt z15 i33)] := Own.of_blockL (T := recT) (ys := [(gt z15 i33)]) [[.string (gt z15 i33).key, .slice A39 ((gt z15 i33).vers).length c40]] rfl (show 1 ≤ lim by decide) (show Ty.rd recT Γ25 [.string (gt z15 i33).key, .slice A39 ((gt z15 i33).vers).length c40] (gt z15 i33) ∧ True from ⟨⟨A39, c40, rfl, (hx41 hl38).1⟩, trivial⟩)
     have hc51 := ho46.capz
     intro w hw; obtain ⟨Γ47, hw, hl48, hr49⟩ := hw.seal (i := 0) rfl; have hs50 := ho46.sl hl48 hr49
     refine WR.here (C := CC F Γ47 [[], [(gn, .cells #[.int .i64 n.life, .pointer (some ⟨en.2, 0, none⟩), .int .i64 n.self_site, .int .i64 n.self_node, (pq g4_44), .map (some m5_44), .map (some m6_44)] en.1 (0, 0))], r4_44, r5_44, r6_44, [(g42, .cells #[.string (gt z15 i33).key, .slice A39 ((gt z15 i33).vers).length c40] 45 (0, 0))], row30, row23]) ?_ hw
     clear hw
     refine e_buildSlice (cs := #[.int .i64 1, .int .i64 n.self_site, .int .i64 n.self_node, .int .i64 n.self_site, .int .i64 f_8, .int .i64 0, .int .i64 0, .int .i64 0, .int .i64 0, .string ByteArray.empty, .slice (some ⟨g45, 0, none⟩) [(gt z15 i33)].length 1, .slice none 0 0, .slice none 0 0, .slice none 0 0, .slice none 0 0]) (e := 40) rfl rfl rfl rfl (fun w => by kernel_rfl) ?_
     intro g52
     refine WR.nil ?_
     refine WH.next (bk_ hl48 h043 (.cons _ (.cons _ (.cons _ (.cons _ (.cons _ (.cons _ (.cons_cons _ (.cons _ (.cons_cons _ .slnil)))))))))) ?_
     refine WH.lone (i := 16) (by kernel_rfl) rfl ?_
     obtain ⟨hk53, h⟩ := chk_some h
     refine e_append (T := dapi_MsgT) (xs := out_27) (ys := [(⟨1, (⟨n.self_site, n.self_node⟩ : Adr), (⟨n.self_site, f_8⟩ : Adr), 0, 0, 0, 0, ByteArray.empty, [(gt z15 i33)], [], [], [], []⟩ : Dapi_Msg)]) elem_34 (i := 7) rfl rfl rfl rfl rfl rfl rfl (ho31.mono hl48) (of_decide_eq_true hk53) (fun w hw => src_one (T := dapi_MsgT) (y := (⟨1, (⟨n.self_site, n.self_node⟩ : Adr), (⟨n.self_site, f_8⟩ : Adr), 0, 0, 0, 0, ByteArray.empty, [(gt z15 i33)], [], [], [], []⟩ : Dapi_Msg)) (i := 0) rfl (by exact ⟨(some ⟨g45, 0, none⟩), 1, none, 0, none, 0, none, 0, none, 0, rfl, ⟨(show I64 1 by decide), ho1_44, ho2_44, ho1_44, hr9, (show I64 0 by decide), (show I64 0 by decide), (show I64 0 by decide), (show I64 0 by decide), (show (ByteArray.empty : ByteArray).size ≤ lim by decide), ⟨hc51, hs50⟩, ⟨Nat.zero_le _, Sl.nil _ _ _⟩, ⟨Nat.zero_le _, Sl.nil _ _ _⟩, ⟨Nat.zero_le _, Sl.nil _ _ _⟩, ⟨Nat.zero_le _, Sl.nil _ _ _⟩⟩⟩) hw) ?_
     intro row54 A55 c56 ho57
     refine WR.nil ?_
     refine WH.next (bk_ hl48 h043 (.cons _ (.cons _ (.cons _ (.cons _ (.cons _ (.cons _ (.cons_cons _ (.cons _ (.cons_cons _ .slnil)))))))))) ?_
     refine hu 17 rfl (bk_ hl48 h043 (.cons _ (.cons _ (.cons _ (.cons _ (.cons _ (.cons _ (.cons_cons _ (.cons _ (.cons_cons _ .slnil)))))))))) (q_assign (v := .slice A55 (out_27 ++ [(⟨1, (⟨n.self_site, n.self_node⟩ : Adr), (⟨n.self_site, f_8⟩ : Adr), 0, 0, 0, 0, ByteArray.empty, [(gt z15 i33)], [], [], [], []⟩ : Dapi_Msg)]).length c56) rfl (by kernel_rfl)) ?_
     refine WH.done (by kernel_rfl) ?_
     change WC _ _ _ _ _ _
     refine WC.region ?_
     refine vb (q_add_r (r := ((i33 + 1 : Nat) : Int)) rfl rfl rfl (ctr_len hl38 (hr24.mono hl26).le)) (mv (v := .int .i64 ((i33 + 1 : Nat) : Int)) ?_)
     refine WR.nil ?_
     intro w hw
     have hw := hw.fold (is := [2, 2, 2, 2]) rfl hrow_44
     exact ⟨hl38, (out_27 ++ [(⟨1, (⟨n.self_site, n.self_node⟩ : Adr), (⟨n.self_site, f_8⟩ : Adr), 0, 0, 0, 0, ByteArray.empty, [(gt z15 i33)], [], [], [], []⟩ : Dapi_Msg)]), h, Γ47, A55, c56, row54, (sl_ (by kernel_rfl)), (hw.only (is := [4, 0, 3]) rfl), (hl26.trans hl48), ho57, trivial⟩
    ·
     refine ⟨_, rfl, ?_⟩
     refine e_buildSlice (cs := #[.string (gt z15 i33).key, .slice A39 ((gt z15 i33).vers).length c40]) (e := 45) rfl rfl rfl rfl (fun w => by kernel_rfl) ?_
     intro g45
     refine WR.nil ?_
     refine WH.next (bk_ (Gh.refl _) h043 (.cons _ (.cons _ (.cons _ (.cons _ (.cons _ (.cons_cons _ (.cons _ (.cons_cons _ .slnil))))))))) ?_
     refine WH.lone (i := 4) (by kernel_rfl) rfl ?_
     refine vb (q_ldla (i := 1) (vs := [.int .i64 n.self_site, .int .i64 n.self_node]) rfl rfl Tryz.isAgg32 Tryz.sizeOf32 rfl rfl) ?_
     refine WR.nil ?_
     refine WH.next (bk_ (Gh.refl _) h043 (.cons _ (.cons _ (.cons _ (.cons _ (.cons _ (.cons_cons _ (.cons _ (.cons_cons _ .slnil))))))))) ?_
     refine hu 14 rfl (bk_ (Gh.refl _) h043 (.cons _ (.cons _ (.cons _ (.cons _ (.cons _ (.cons_cons _ (.cons _ (.cons_cons _ .slnil))))))))) (q_build' (v := .agg #[.int .i64 1, .int .i64 n.self_site, .int .i64 n.self_node, .int .i64 n.self_site, .int .i64 f_8, .int .i64 0, .int .i64 0, .int .i64 0, .int .i64 0, .string ByteArray.empty, .slice (some ⟨g45, 0, none⟩) 1 1, .slice none 0 0, .slice none 0 0, .slice none 0 0, .slice none 0 0]) rfl (bargs4 rfl rfl rfl rfl) (fun w => by kernel_rfl)) ?_
     refine WH.lone (i := 15) (by kernel_rfl) rfl ?_
     have ho46 : Own recT Γ25 45 [(g45, .cells #[.string (gt z15 i33).key, .slice A39 ((gt z15 i33).vers).length c40] 45 (0, 0))] (some ⟨g45, 0, none⟩) 1 [(gt z15 i33)] := Own.of_blockL (T := recT) (ys := [(gt z15 i33)]) [[.string (gt z15 i33).key, .slice A39 ((gt z15 i33).vers).length c40]] rfl (show 1 ≤ lim by decide) (show Ty.rd recT Γ25 [.string (gt z15 i33).key, .slice A39 ((gt z15 i33).vers).length c40] (gt z15 i33) ∧ True from ⟨⟨A39, c40, rfl, (hx41 hl38).1⟩, trivial⟩)
     have hc51 := ho46.capz
     intro w hw; obtain ⟨Γ47, hw, hl48, hr49⟩ := hw.seal (i := 0) rfl; have hs50 := ho46.sl hl48 hr49
     refine WR.here (C := CC F Γ47 [[], [(gn, .cells #[.int .i64 n.life, .pointer (some ⟨en.2, 0, none⟩), .int .i64 n.self_site, .int .i64 n.self_node, (pq g4_44), .map (some m5_44), .map (some m6_44)] en.1 (0, 0))], r4_44, r5_44, r6_44, [(g42, .cells #[.string (gt z15 i33).key, .slice A39 ((gt z15 i33).vers).length c40] 45 (0, 0))], row30, row23]) ?_ hw
     clear hw
     refine e_buildSlice (cs := #[.int .i64 1, .int .i64 n.self_site, .int .i64 n.self_node, .int .i64 n.self_site, .int .i64 f_8, .int .i64 0, .int .i64 0, .int .i64 0, .int .i64 0, .string ByteArray.empty, .slice (some ⟨g45, 0, none⟩) [(gt z15 i33)].length 1, .slice none 0 0, .slice none 0 0, .slice none 0 0, .slice none 0 0]) (e := 40) rfl rfl rfl rfl (fun w => by kernel_rfl) ?_
     intro g52
     refine WR.nil ?_
     refine WH.next (bk_ hl48 h043 (.cons _ (.cons _ (.cons _ (.cons _ (.cons _ (.cons _ (.cons_cons _ (.cons _ (.cons_cons _ .slnil)))))))))) ?_
     refine WH.lone (i := 16) (by kernel_rfl) rfl ?_
     obtain ⟨hk53, h⟩ := chk_some h
     refine e_append (T := dapi_MsgT) (xs := out_27) (ys := [(⟨1, (⟨n.self_site, n.self_node⟩ : Adr), (⟨n.self_site, f_8⟩ : Adr), 0, 0, 0, 0, ByteArray.empty, [(gt z15 i33)], [], [], [], []⟩ : Dapi_Msg)]) elem_34 (i := 7) rfl rfl rfl rfl rfl rfl rfl (ho31.mono hl48) (of_decide_eq_true hk53) (fun w hw => src_one (T := dapi_MsgT) (y := (⟨1, (⟨n.self_site, n.self_node⟩ : Adr), (⟨n.self_site, f_8⟩ : Adr), 0, 0, 0, 0, ByteArray.empty, [(gt z15 i33)], [], [], [], []⟩ : Dapi_Msg)) (i := 0) rfl (by exact ⟨(some ⟨g45, 0, none⟩), 1, none, 0, none, 0, none, 0, none, 0, rfl, ⟨(show I64 1 by decide), ho1_44, ho2_44, ho1_44, hr9, (show I64 0 by decide), (show I64 0 by decide), (show I64 0 by decide), (show I64 0 by decide), (show (ByteArray.empty : ByteArray).size ≤ lim by decide), ⟨hc51, hs50⟩, ⟨Nat.zero_le _, Sl.nil _ _ _⟩, ⟨Nat.zero_le _, Sl.nil _ _ _⟩, ⟨Nat.zero_le _, Sl.nil _ _ _⟩, ⟨Nat.zero_le _, Sl.nil _ _ _⟩⟩⟩) hw) ?_
     intro row54 A55 c56 ho57
     refine WR.nil ?_
     refine WH.next (bk_ hl48 h043 (.cons _ (.cons _ (.cons _ (.cons _ (.cons _ (.cons _ (.cons_cons _ (.cons _ (.cons_cons _ .slnil)))))))))) ?_
     refine hu 17 rfl (bk_ hl48 h043 (.cons _ (.cons _ (.cons _ (.cons _ (.cons _ (.cons _ (.cons_cons _ (.cons _ (.cons_cons _ .slnil)))))))))) (q_assign (v := .slice A55 (out_27 ++ [(⟨1, (⟨n.self_site, n.self_node⟩ : Adr), (⟨n.self_site, f_8⟩ : Adr), 0, 0, 0, 0, ByteArray.empty, [(gt z15 i33)], [], [], [], []⟩ : Dapi_Msg)]).length c56) rfl (by kernel_rfl)) ?_
     refine WH.done (by kernel_rfl) ?_
     change WC _ _ _ _ _ _
     refine WC.region ?_
     refine vb (q_add_r (r := ((i33 + 1 : Nat) : Int)) rfl rfl rfl (ctr_len hl38 (hr24.mono hl26).le)) (mv (v := .int .i64 ((i33 + 1 : Nat) : Int)) ?_)
     refine WR.nil ?_
     intro w hw
     have hw := hw.fold (is := [2, 2, 2, 2]) rfl hrow_44
     exact ⟨hl38, (out_27 ++ [(⟨1, (⟨n.self_site, n.self_node⟩ : Adr), (⟨n.self_site, f_8⟩ : Adr), 0, 0, 0, 0, ByteArray.empty, [(gt z15 i33)], [], [], [], []⟩ : Dapi_Msg)]), h, Γ47, A55, c56, row54, (sl_ (by kernel_rfl)), (hw.only (is := [4, 0, 3]) rfl), (hl26.trans hl48), ho57, trivial⟩
   ·
    refine ⟨_, rfl, ?_⟩
    refine e_buildSlice (cs := #[.string (gt z15 i33).key, .slice A39 ((gt z15 i33).vers).length c40]) (e := 45) rfl rfl rfl rfl (fun w => by kernel_rfl) ?_
    intro g44
    refine WR.nil ?_
    refine WH.next (bk_ (Gh.refl _) h043 (.cons _ (.cons_cons _ (.cons _ (.cons _ (.cons_cons _ .slnil)))))) ?_
    refine WH.each (l := [4, 9]) (by kernel_rfl) (by simp) ?_
    intro i hi; simp only [List.mem_cons, List.not_mem_nil, or_false] at hi
    rcases hi with rfl | rfl
    ·
     refine ⟨_, rfl, ?_⟩
     have hq := (hn.mono ((hl2.trans hl18).trans hl26))
     obtain ⟨g4_45, r4_45, m5_45, r5_45, m6_45, r6_45, hrow_45, ho0_45, ho1_45, ho2_45, ho3_45, ho4_45, ho5_45, -⟩ := hq
     intro w hw; have hw := hw.unfold (i := 3) rfl hrow_45
     refine WR.here (C := CC F Γ25 [[(gn, .cells #[.int .i64 n.life, .pointer (some ⟨en.2, 0, none⟩), .int .i64 n.self_site, .int .i64 n.self_node, (pq g4_45), .map (some m5_45), .map (some m6_45)] en.1 (0, 0))], r4_45, r5_45, r6_45, [(g44, .cells #[.string (gt z15 i33).key, .slice A39 ((gt z15 i33).vers).length c40] 45 (0, 0))], [(g42, .cells #[.string (gt z15 i33).key, .slice A39 ((gt z15 i33).vers).length c40] 45 (0, 0))], row30, row23]) ?_ hw
     clear hw
     refine vb (q_ldla (i := 0) (vs := [.int .i64 n.self_site, .int .i64 n.self_node]) rfl rfl Tryz.isAgg32 Tryz.sizeOf32 rfl rfl) ?_
     refine WR.nil ?_
     refine WH.next (bk_ (Gh.refl _) h043 (.cons _ (.cons _ (.cons _ (.cons _ (.cons _ (.cons_cons _ (.cons _ (.cons_cons _ .slnil))))))))) ?_
     refine WH.lone (i := 9) (by kernel_rfl) rfl ?_
     refine vb (q_ldl (i := 0) (v := .int .i64 n.self_site) rfl rfl Tryz.isAgg3 rfl rfl) ?_
     refine WR.nil ?_
     refine WH.next (bk_ (Gh.refl _) h043 (.cons _ (.cons _ (.cons _ (.cons _ (.cons _ (.cons_cons _ (.cons _ (.cons_cons _ .slnil))))))))) ?_
     refine hu 11 rfl (bk_ (Gh.refl _) h043 (.cons _ (.cons _ (.cons _ (.cons _ (.cons _ (.cons_cons _ (.cons _ (.cons_cons _ .slnil))))))))) (q_build' (v := .agg #[.int .i64 n.self_site, .int .i64 f_8]) rfl (bargs2 rfl rfl) (fun w => by kernel_rfl)) (hu 14 rfl (bk_ (Gh.refl _) h043 (.cons _ (.cons _ (.cons _ (.cons _ (.cons _ (.cons_cons _ (.cons _ (.cons_cons _ .slnil))))))))) (q_build' (v := .agg #[.int .i64 1, .int .i64 n.self_site, .int .i64 n.self_node, .int .i64 n.self_site, .int .i64 f_8, .int .i64 0, .int .i64 0, .int .i64 0, .int .i64 0, .string ByteArray.empty, .slice (some ⟨g44, 0, none⟩) 1 1, .slice none 0 0, .slice none 0 0, .slice none 0 0, .slice none 0 0]) rfl (bargs4 rfl rfl rfl rfl) (fun w => by kernel_rfl)) ?_)
     refine WH.lone (i := 15) (by kernel_rfl) rfl ?_
     have ho46 : Own recT Γ25 45 [(g44, .cells #[.string (gt z15 i33).key, .slice A39 ((gt z15 i33).vers).length c40] 45 (0, 0))] (some ⟨g44, 0, none⟩) 1 [(gt z15 i33)] := Own.of_blockL (T := recT) (ys := [(gt z15 i33)]) [[.string (gt z15 i33).key, .slice A39 ((gt z15 i33).vers).length c40]] rfl (show 1 ≤ lim by decide) (show Ty.rd recT Γ25 [.string (gt z15 i33).key, .slice A39 ((gt z15 i33).vers).length c40] (gt z15 i33) ∧ True from ⟨⟨A39, c40, rfl, (hx41 hl38).1⟩, trivial⟩)
     have hc51 := ho46.capz
     intro w hw; obtain ⟨Γ47, hw, hl48, hr49⟩ := hw.seal (i := 4) rfl; have hs50 := ho46.sl hl48 hr49
     refine WR.here (C := CC F Γ47 [[(gn, .cells #[.int .i64 n.life, .pointer (some ⟨en.2, 0, none⟩), .int .i64 n.self_site, .int .i64 n.self_node, (pq g4_45), .map (some m5_45), .map (some m6_45)] en.1 (0, 0))], r4_45, r5_45, r6_45, [], [(g42, .cells #[.string (gt z15 i33).key, .slice A39 ((gt z15 i33).vers).length c40] 45 (0, 0))], row30, row23]) ?_ hw
     clear hw
     refine e_buildSlice (cs := #[.int .i64 1, .int .i64 n.self_site, .int .i64 n.self_node, .int .i64 n.self_site, .int .i64 f_8, .int .i64 0, .int .i64 0, .int .i64 0, .int .i64 0, .string ByteArray.empty, .slice (some ⟨g44, 0, none⟩) [(gt z15 i33)].length 1, .slice none 0 0, .slice none 0 0, .slice none 0 0, .slice none 0 0]) (e := 40) rfl rfl rfl rfl (fun w => by kernel_rfl) ?_
     intro g52
     refine WR.nil ?_
     refine WH.next (bk_ hl48 h043 (.cons _ (.cons _ (.cons _ (.cons _ (.cons _ (.cons _ (.cons_cons _ (.cons _ (.cons_cons _ .slnil)))))))))) ?_
     refine WH.lone (i := 16) (by kernel_rfl) rfl ?_
     obtain ⟨hk53, h⟩ := chk_some h
     refine e_append (T := dapi_MsgT) (xs := out_27) (ys := [(⟨1, (⟨n.self_site, n.self_node⟩ : Adr), (⟨n.self_site, f_8⟩ : Adr), 0, 0, 0, 0, ByteArray.empty, [(gt z15 i33)], [], [], [], []⟩ : Dapi_Msg)]) elem_34 (i := 7) rfl rfl rfl rfl rfl rfl rfl (ho31.mono hl48) (of_decide_eq_true hk53) (fun w hw => src_one (T := dapi_MsgT) (y := (⟨1, (⟨n.self_site, n.self_node⟩ : Adr), (⟨n.self_site, f_8⟩ : Adr), 0, 0, 0, 0, ByteArray.empty, [(gt z15 i33)], [], [], [], []⟩ : Dapi_Msg)) (i := 0) rfl (by exact ⟨(some ⟨g44, 0, none⟩), 1, none, 0, none, 0, none, 0, none, 0, rfl, ⟨(show I64 1 by decide), ho1_45, ho2_45, ho1_45, hr9, (show I64 0 by decide), (show I64 0 by decide), (show I64 0 by decide), (show I64 0 by decide), (show (ByteArray.empty : ByteArray).size ≤ lim by decide), ⟨hc51, hs50⟩, ⟨Nat.zero_le _, Sl.nil _ _ _⟩, ⟨Nat.zero_le _, Sl.nil _ _ _⟩, ⟨Nat.zero_le _, Sl.nil _ _ _⟩, ⟨Nat.zero_le _, Sl.nil _ _ _⟩⟩⟩) hw) ?_
     intro row54 A55 c56 ho57
     refine WR.nil ?_
     refine WH.next (bk_ hl48 h043 (.cons _ (.cons _ (.cons _ (.cons _ (.cons _ (.cons _ (.cons_cons _ (.cons _ (.cons_cons _ .slnil)))))))))) ?_
     refine hu 17 rfl (bk_ hl48 h043 (.cons _ (.cons _ (.cons _ (.cons _ (.cons _ (.cons _ (.cons_cons _ (.cons _ (.cons_cons _ .slnil)))))))))) (q_assign (v := .slice A55 (out_27 ++ [(⟨1, (⟨n.self_site, n.self_node⟩ : Adr), (⟨n.self_site, f_8⟩ : Adr), 0, 0, 0, 0, ByteArray.empty, [(gt z15 i33)], [], [], [], []⟩ : Dapi_Msg)]).length c56) rfl (by kernel_rfl)) ?_
     refine WH.done (by kernel_rfl) ?_
     change WC _ _ _ _ _ _
     refine WC.region ?_
     refine vb (q_add_r (r := ((i33 + 1 : Nat) : Int)) rfl rfl rfl (ctr_len hl38 (hr24.mono hl26).le)) (mv (v := .int .i64 ((i33 + 1 : Nat) : Int)) ?_)
     refine WR.nil ?_
     intro w hw
     have hw := hw.fold (is := [1, 1, 1, 1]) rfl hrow_45
     exact ⟨hl38, (out_27 ++ [(⟨1, (⟨n.self_site, n.self_node⟩ : Adr), (⟨n.self_site, f_8⟩ : Adr), 0, 0, 0, 0, ByteArray.empty, [(gt z15 i33)], [], [], [], []⟩ : Dapi_Msg)]), h, Γ47, A55, c56, row54, (sl_ (by kernel_rfl)), (hw.only (is := [4, 0, 3]) rfl), (hl26.trans hl48), ho57, trivial⟩
    ·
     refine ⟨_, rfl, ?_⟩
     have hq := (hn.mono ((hl2.trans hl18).trans hl26))
     obtain ⟨g4_45, r4_45, m5_45, r5_45, m6_45, r6_45, hrow_45, ho0_45, ho1_45, ho2_45, ho3_45, ho4_45, ho5_45, -⟩ := hq
     intro w hw; have hw := hw.unfold (i := 3) rfl hrow_45
     refine WR.here (C := CC F Γ25 [[(gn, .cells #[.int .i64 n.life, .pointer (some ⟨en.2, 0, none⟩), .int .i64 n.self_site, .int .i64 n.self_node, (pq g4_45), .map (some m5_45), .map (some m6_45)] en.1 (0, 0))], r4_45, r5_45, r6_45, [(g44, .cells #[.string (gt z15 i33).key, .slice A39 ((gt z15 i33).vers).length c40] 45 (0, 0))], [(g42, .cells #[.string (gt z15 i33).key, .slice A39 ((gt z15 i33).vers).length c40] 45 (0, 0))], row30, row23]) ?_ hw
     clear hw
     refine vb (q_ldl (i := 0) (v := .int .i64 n.self_site) rfl rfl Tryz.isAgg3 rfl rfl) ?_
     refine WR.nil ?_
     refine WH.next (bk_ (Gh.refl _) h043 (.cons _ (.cons _ (.cons _ (.cons _ (.cons _ (.cons_cons _ (.cons _ (.cons_cons _ .slnil))))))))) ?_
     refine hu 11 rfl (bk_ (Gh.refl _) h043 (.cons _ (.cons _ (.cons _ (.cons _ (.cons _ (.cons_cons _ (.cons _ (.cons_cons _ .slnil))))))))) (q_build' (v := .agg #[.int .i64 n.self_site, .int .i64 f_8]) rfl (bargs2 rfl rfl) (fun w => by kernel_rfl)) ?_
     refine WH.lone (i := 4) (by kernel_rfl) rfl ?_
     refine vb (q_ldla (i := 0) (vs := [.int .i64 n.self_site, .int .i64 n.self_node]) rfl rfl Tryz.isAgg32 Tryz.sizeOf32 rfl rfl) ?_
     refine WR.nil ?_
     refine WH.next (bk_ (Gh.refl _) h043 (.cons _ (.cons _ (.cons _ (.cons _ (.cons _ (.cons_cons _ (.cons _ (.cons_cons _ .slnil))))))))) ?_
     refine hu 14 rfl (bk_ (Gh.refl _) h043 (.cons _ (.cons _ (.cons _ (.cons _ (.cons _ (.cons_cons _ (.cons _ (.cons_cons _ .slnil))))))))) (q_build' (v := .agg #[.int .i64 1, .int .i64 n.self_site, .int .i64 n.self_node, .int .i64 n.self_site, .int .i64 f_8, .int .i64 0, .int .i64 0, .int .i64 0, .int .i64 0, .string ByteArray.empty, .slice (some ⟨g44, 0, none⟩) 1 1, .slice none 0 0, .slice none 0 0, .slice none 0 0, .slice none 0 0]) rfl (bargs4 rfl rfl rfl rfl) (fun w => by kernel_rfl)) ?_
     refine WH.lone (i := 15) (by kernel_rfl) rfl ?_
     have ho46 : Own recT Γ25 45 [(g44, .cells #[.string (gt z15 i33).key, .slice A39 ((gt z15 i33).vers).length c40] 45 (0, 0))] (some ⟨g44, 0, none⟩) 1 [(gt z15 i33)] := Own.of_blockL (T := recT) (ys := [(gt z15 i33)]) [[.string (gt z15 i33).key, .slice A39 ((gt z15 i33).vers).length c40]] rfl (show 1 ≤ lim by decide) (show Ty.rd recT Γ25 [.string (gt z15 i33).key, .slice A39 ((gt z15 i33).vers).length c40] (gt z15 i33) ∧ True from ⟨⟨A39, c40, rfl, (hx41 hl38).1⟩, trivial⟩)
     have hc51 := ho46.capz
     intro w hw; obtain ⟨Γ47, hw, hl48, hr49⟩ := hw.seal (i := 4) rfl; have hs50 := ho46.sl hl48 hr49
     refine WR.here (C := CC F Γ47 [[(gn, .cells #[.int .i64 n.life, .pointer (some ⟨en.2, 0, none⟩), .int .i64 n.self_site, .int .i64 n.self_node, (pq g4_45), .map (some m5_45), .map (some m6_45)] en.1 (0, 0))], r4_45, r5_45, r6_45, [], [(g42, .cells #[.string (gt z15 i33).key, .slice A39 ((gt z15 i33).vers).length c40] 45 (0, 0))], row30, row23]) ?_ hw
     clear hw
     refine e_buildSlice (cs := #[.int .i64 1, .int .i64 n.self_site, .int .i64 n.self_node, .int .i64 n.self_site, .int .i64 f_8, .int .i64 0, .int .i64 0, .int .i64 0, .int .i64 0, .string ByteArray.empty, .slice (some ⟨g44, 0, none⟩) [(gt z15 i33)].length 1, .slice none 0 0, .slice none 0 0, .slice none 0 0, .slice none 0 0]) (e := 40) rfl rfl rfl rfl (fun w => by kernel_rfl) ?_
     intro g52
     refine WR.nil ?_
     refine WH.next (bk_ hl48 h043 (.cons _ (.cons _ (.cons _ (.cons _ (.cons _ (.cons _ (.cons_cons _ (.cons _ (.cons_cons _ .slnil)))))))))) ?_
     refine WH.lone (i := 16) (by kernel_rfl) rfl ?_
     obtain ⟨hk53, h⟩ := chk_some h
     refine e_append (T := dapi_MsgT) (xs := out_27) (ys := [(⟨1, (⟨n.self_site, n.self_node⟩ : Adr), (⟨n.self_site, f_8⟩ : Adr), 0, 0, 0, 0, ByteArray.empty, [(gt z15 i33)], [], [], [], []⟩ : Dapi_Msg)]) elem_34 (i := 7) rfl rfl rfl rfl rfl rfl rfl (ho31.mono hl48) (of_decide_eq_true hk53) (fun w hw => src_one (T := dapi_MsgT) (y := (⟨1, (⟨n.self_site, n.self_node⟩ : Adr), (⟨n.self_site, f_8⟩ : Adr), 0, 0, 0, 0, ByteArray.empty, [(gt z15 i33)], [], [], [], []⟩ : Dapi_Msg)) (i := 0) rfl (by exact ⟨(some ⟨g44, 0, none⟩), 1, none, 0, none, 0, none, 0, none, 0, rfl, ⟨(show I64 1 by decide), ho1_45, ho2_45, ho1_45, hr9, (show I64 0 by decide), (show I64 0 by decide), (show I64 0 by decide), (show I64 0 by decide), (show (ByteArray.empty : ByteArray).size ≤ lim by decide), ⟨hc51, hs50⟩, ⟨Nat.zero_le _, Sl.nil _ _ _⟩, ⟨Nat.zero_le _, Sl.nil _ _ _⟩, ⟨Nat.zero_le _, Sl.nil _ _ _⟩, ⟨Nat.zero_le _, Sl.nil _ _ _⟩⟩⟩) hw) ?_
     intro row54 A55 c56 ho57
     refine WR.nil ?_
     refine WH.next (bk_ hl48 h043 (.cons _ (.cons _ (.cons _ (.cons _ (.cons _ (.cons _ (.cons_cons _ (.cons _ (.cons_cons _ .slnil)))))))))) ?_
     refine hu 17 rfl (bk_ hl48 h043 (.cons _ (.cons _ (.cons _ (.cons _ (.cons _ (.cons _ (.cons_cons _ (.cons _ (.cons_cons _ .slnil)))))))))) (q_assign (v := .slice A55 (out_27 ++ [(⟨1, (⟨n.self_site, n.self_node⟩ : Adr), (⟨n.self_site, f_8⟩ : Adr), 0, 0, 0, 0, ByteArray.empty, [(gt z15 i33)], [], [], [], []⟩ : Dapi_Msg)]).length c56) rfl (by kernel_rfl)) ?_
     refine WH.done (by kernel_rfl) ?_
     change WC _ _ _ _ _ _
     refine WC.region ?_
     refine vb (q_add_r (r := ((i33 + 1 : Nat) : Int)) rfl rfl rfl (ctr_len hl38 (hr24.mono hl26).le)) (mv (v := .int .i64 ((i33 + 1 : Nat) : Int)) ?_)
     refine WR.nil ?_
     intro w hw
     have hw := hw.fold (is := [1, 1, 1, 1]) rfl hrow_45
     exact ⟨hl38, (out_27 ++ [(⟨1, (⟨n.self_site, n.self_node⟩ : Adr), (⟨n.self_site, f_8⟩ : Adr), 0, 0, 0, 0, ByteArray.empty, [(gt z15 i33)], [], [], [], []⟩ : Dapi_Msg)]), h, Γ47, A55, c56, row54, (sl_ (by kernel_rfl)), (hw.only (is := [4, 0, 3]) rfl), (hl26.trans hl48), ho57, trivial⟩
  ·
   have h := hge36 (ige hb37)
   refine WC.exit ?_
   change WC _ _ _ _ _ _
   refine WC.region ?_
   refine mv (v := .int .i64 f_8) (vb (q_add rfl rfl rfl) (as_ (v := .int .i64 (w64 (f_8 + 1))) ?_))
   refine WR.nil ?_
   intro w hw
   exact ⟨(out_27, (w64 (f_8 + 1))), h, Γ25, A28, c29, row30, (sl_ (by kernel_rfl)), (hw.only (is := [0, 0]) rfl), ((hl2.trans hl18).trans hl26), ho31, (w64_r _), trivial⟩
 ·
  refine WC.exit ?_
  change WC _ _ _ _ _ _
  refine WC.rs (mv (v := .slice A4 out_3.length c5) (as_ (v := .slice A4 out_3.length c5) ?_))
  refine WR.done ?_
  refine WC.ret ?_
  intro w hw
  obtain rfl := Option.some.inj h
  subst hF
  exact end_e (is := [1, 0]) (by kernel_rfl) hw rfl ⟨A4, c5, row6, rfl, rfl, ho7, trivial⟩
theorem t_num_Hash {Γ : Gh} {w0 : World} {Ab : Option Addr} {cb : Nat} {b : List UInt8} (hb : Sl byteT Γ Ab b) (hbc : b.length ≤ cb) (hs : Sat Γ w0) {r : Int} (h : m_num_Hash b = some r) : Calls Tryz.prog 75 #[.slice Ab b.length cb] w0 (fun e w' => e = .returned (.int .u64 r) ∧ Fr no w0 w') := by
 refine calls_of (N := 27) (rs := [2]) (args := [.slice Ab b.length cb]) Tryz.func75 rfl Tryz.ntmps75 Tryz.results75 rfl ?_
 obtain ⟨F, hF⟩ : ∃ F : Fm, F = ⟨no, w0, Γ⟩ := ⟨_, rfl⟩
 refine WC.here (C := CC F Γ []) ?_ (hF ▸ Cur.start0 hs)
 refine WC.rs (as_ (v := .int .u64 0) ?_)
 refine WR.done ?_
 refine WC.rs (as_ (v := .int .u64 14695981039346656037) ?_)
 refine WR.done ?_
 refine WC.seq (WC.rs (mv (v := .slice Ab b.length cb) (vb (q_len_slice rfl Tryz.underlying77 rfl) (mv (v := .int .i64 0) ?_))))
 refine WR.done ?_
 refine WC.block ?_
 refine WC.forI h (fun (i4 : Nat) (h_1 : Int) σ w => slots σ [(3, .int .u64 h_1), (6, .slice Ab b.length cb), (7, .int .i64 ((b.length : Nat) : Int)), (8, .int .i64 ((i4 : Nat) : Int))] ∧ CC F Γ [] w ∧ U64 h_1 ∧ True) ?_ ?_
 ·
  intro w hw
  exact ⟨(sl_ (by kernel_rfl)), hw, (show U64 14695981039346656037 by decide), trivial⟩
 rintro f3 i4 h_1 σ w hi5 hlt6 hge7 ⟨hsl, hw, hr2, -⟩
 refine Wpt.slots hsl ?_
 refine WC.here (C := CC F Γ []) ?_ hw
 clear hw hsl
 refine WC.rs (vb (q_lss rfl rfl rfl) ?_)
 refine WR.done ?_
 refine WC.seq ?_
 refine WC.cond (b := (decide (((i4 : Nat) : Int) < ((b.length : Nat) : Int)))) (by kernel_rfl) (fun hb8 => ?_) (fun hb8 => ?_)
 ·
  have hl9 := ilt hb8
  have h := hlt6 hl9
  refine WC.skip ?_
  change WC _ _ _ _ _ _
  refine WC.seq (WC.block (WC.rs (vb (q_ixn (i := i4) Tryz.underlying77 Tryz.sizeOf5 rfl rfl rfl hl9 (hb.some_ hl9)) (vb (q_ld (c := 0) (v := .int .u8 (((gt b i4).toNat : Nat) : Int)) (hb.byteT_at hl9).2 rfl Tryz.isAgg5 rfl rfl) (as_ (v := .int .u8 (((gt b i4).toNat : Nat) : Int)) ?_)))))
  refine WR.done ?_
  refine WC.region ?_
  refine mv (v := .int .u64 h_1) (mv (v := .int .u8 (((gt b i4).toNat : Nat) : Int)) (vb (q_conv Tryz.underlying82 Tryz.underlying5 rfl rfl) (vb (q_xor rfl rfl rfl) (vb (q_mul rfl rfl rfl) (as_ (v := .int .u64 (wu64 ((ixor .u64 h_1 (wu64 (((gt b i4).toNat : Nat) : Int))) * 1099511628211))) ?_)))))
  refine WR.nil ?_
  change WC _ _ _ _ _ _
  refine WC.region ?_
  refine vb (q_add_r (r := ((i4 + 1 : Nat) : Int)) rfl rfl rfl (ctr_len hl9 hb.le)) (mv (v := .int .i64 ((i4 + 1 : Nat) : Int)) ?_)
  refine WR.nil ?_
  intro w hw
  exact ⟨hl9, (wu64 ((ixor .u64 h_1 (wu64 (((gt b i4).toNat : Nat) : Int))) * 1099511628211)), h, (sl_ (by kernel_rfl)), hw, (wu64_r _), trivial⟩
 ·
  have h := hge7 (ige hb8)
  refine WC.exit ?_
  change WC _ _ _ _ _ _
  refine WC.rs (mv (v := .int .u64 h_1) (mv (v := .int .u64 h_1) (vb (q_shr rfl rfl rfl (by decide)) (vb (q_xor rfl rfl rfl) (vb (q_mul rfl rfl rfl) (as_ (v := .int .u64 (wu64 ((ixor .u64 h_1 (ishr .u64 h_1 33)) * 18397679294719823053))) ?_))))))
  refine WR.done ?_
  refine WC.rs (mv (v := .int .u64 (wu64 ((ixor .u64 h_1 (ishr .u64 h_1 33)) * 18397679294719823053))) (mv (v := .int .u64 (wu64 ((ixor .u64 h_1 (ishr .u64 h_1 33)) * 18397679294719823053))) (vb (q_shr rfl rfl rfl (by decide)) (vb (q_xor rfl rfl rfl) (as_ (v := .int .u64 (ixor .u64 (wu64 ((ixor .u64 h_1 (ishr .u64 h_1 33)) * 18397679294719823053)) (ishr .u64 (wu64 ((ixor .u64 h_1 (ishr .u64 h_1 33)) * 18397679294719823053)) 33))) ?_)))))
  refine WR.done ?_
  refine WC.ret ?_
  intro w hw
  obtain rfl := Option.some.inj h
  subst hF
  exact ⟨by kernel_rfl, hw.fr⟩
theorem t_ring_Part {Γ : Gh} {w0 : World} (key : ByteArray) (hkey : key.size ≤ lim) (hs : Sat Γ w0) {r : Int} (h : m_ring_Part key = some r) : Calls Tryz.prog 43 #[.string key] w0 (fun e w' => e = .returned (.int .i64 r) ∧ Fr no w0 w') := by
 refine calls_of (N := 8) (rs := [2]) (args := [.string key]) Tryz.func43 rfl Tryz.ntmps43 Tryz.results43 rfl ?_
 obtain ⟨F, hF⟩ : ∃ F : Fm, F = ⟨no, w0, Γ⟩ := ⟨_, rfl⟩
 refine WC.here (C := CC F Γ []) ?_ (hF ▸ Cur.start0 hs)
 refine WC.rs (as_ (v := .int .i64 0) ?_)
 refine WR.done ?_
 refine WC.rs (mv (v := .string key) ?_)
 refine e_convB (src := 9) (dst := 77) (s := key) Tryz.underlying9 Tryz.underlying77 Tryz.underlying5 hkey rfl rfl rfl rfl rfl ?_
 intro Γ1 A2 c3 hl4 hs5 hc6
 obtain ⟨z7, hz8, h⟩ := bnd h
 refine vc rfl rfl rfl (q_call (call_run Tryz.call75 rfl rfl (by kernel_rfl)) (fun w hw => t_num_Hash (Γ := Gh.all w) (hs5.mono hw.sat.le_all) hc6 (Sat.all w) hz8)) (vb (q_rem rfl rfl rfl (by decide)) (vb (q_conv Tryz.underlying3 Tryz.underlying82 rfl rfl) (as_ (v := .int .i64 (w64 (z7.tmod 8))) ?_)))
 refine WR.done ?_
 refine WC.ret ?_
 intro w hw
 obtain rfl := Option.some.inj h
 subst hF
 exact ⟨by kernel_rfl, hw.fr⟩
abbrev r_node_Node_Recs (gn : Nat) (en : Nat × Nat) (rown : Rowb) (r : List Rec) (U : List Rowb) (Γ : Gh) (v : Value) : Prop := ∃ (A0 : Option Addr), ∃ (c0 : Nat), ∃ (row0 : Rowb), v = .slice A0 r.length c0 ∧ U = [rown, row0] ∧ Own recT Γ 45 row0 A0 c0 r ∧ True
theorem t_node_Node_Recs {Γ : Gh} {w0 : World} {gn : Nat} {en : Nat × Nat} {rown : Rowb} {n : Onode_Node} (hn : Onode_Node.ob en Γ gn rown n) (p_ : Int) (hp_ : I64 p_) (hp : Pre [rown] Γ w0) {r : List Rec} (h : m_node_Node_Recs n p_ = some r) : Calls Tryz.prog 15 #[(pq gn), .int .i64 p_] w0 (Outc Γ [rown] w0 (r_node_Node_Recs gn en rown r)) := by
 refine calls_of (N := 33) (rs := [4]) (args := [(pq gn), .int .i64 p_]) Tryz.func15 rfl Tryz.ntmps15 Tryz.results15 rfl ?_
 obtain ⟨F, hF⟩ : ∃ F : Fm, F = ⟨ids [rown], w0, Γ⟩ := ⟨_, rfl⟩
 refine WC.here (C := CC F Γ [rown]) ?_ (hF ▸ hp.start)
 refine WC.rs (as_ (v := .slice none 0 0) ?_)
 refine WR.done ?_
 refine WC.rs (as_ (v := .slice none 0 0) ?_)
 refine WR.done ?_
 refine WC.seq (WC.rs (mv (v := (pq gn)) (vb (q_nil (A := some ⟨gn, 0, none⟩) rfl rfl rfl) (vb (q_fl 4 fld_74_3 rfl rfl rfl) ?_))))
 have hq := hn
 obtain ⟨g4_1, r4_1, m5_1, r5_1, m6_1, r6_1, hrow_1, ho0_1, ho1_1, ho2_1, ho3_1, ho4_1, ho5_1, -⟩ := hq
 intro w hw; have hw := hw.unfold (i := 0) rfl hrow_1
 refine WR.here (C := CC F Γ [[(gn, .cells #[.int .i64 n.life, .pointer (some ⟨en.2, 0, none⟩), .int .i64 n.self_site, .int .i64 n.self_node, (pq g4_1), .map (some m5_1), .map (some m6_1)] en.1 (0, 0))], r4_1, r5_1, r6_1]) ?_ hw
 clear hw
 refine vb (q_ldl (i := 0) (v := (pq g4_1)) rfl rfl Tryz.isAgg68 rfl rfl) ?_
 obtain ⟨z2, hz3, h⟩ := bnd h
 refine e_call (is := [1]) rfl rfl (call_run Tryz.call42 rfl rfl (by kernel_rfl)) rfl (fun w hp => t_store_Store_Recs ho3_1 hp hz3) ?_
 rintro Γ4 U6 v7 hl5 ⟨A8, c9, row10, rfl, rfl, hr11, _⟩
 change WR _ _ _ (CC F Γ4 [r4_1, row10, [(gn, .cells #[.int .i64 n.life, .pointer (some ⟨en.2, 0, none⟩), .int .i64 n.self_site, .int .i64 n.self_node, (pq g4_1), .map (some m5_1), .map (some m6_1)] en.1 (0, 0))], r5_1, r6_1]) _ _ (upd _ 12 (.slice A8 z2.length c9))
 refine vb (q_len_slice rfl Tryz.underlying22 rfl) (mv (v := .int .i64 0) ?_)
 refine WR.done ?_
 refine WC.block ?_
 intro w hw; have hw := hw.fold (is := [2, 0, 1, 1]) rfl hrow_1
 refine WC.here (C := CC F Γ4 [rown, row10]) ?_ hw
 clear hw
 refine WC.forI h (fun (i19 : Nat) (out_13 : List Rec) σ w => ∃ (A14 : Option Addr), ∃ (c15 : Nat), ∃ (row16 : Rowb), slots σ [(1, .int .i64 p_), (5, .slice A14 out_13.length c15), (12, .slice A8 z2.length c9), (13, .int .i64 ((z2.length : Nat) : Int)), (14, .int .i64 ((i19 : Nat) : Int))] ∧ CC F Γ4 [row16, rown, row10] w ∧ Own recT Γ4 45 row16 A14 c15 out_13 ∧ True) ?_ ?_
 ·
  intro w hw
  have hw := hw.pad
  exact ⟨none, 0, [], (sl_ (by kernel_rfl)), hw, (Own.nil recT _ 45), trivial⟩
 rintro f18 i19 out_13 σ w hi20 hlt21 hge22 ⟨A14, c15, row16, hsl, hw, ho17, -⟩
 refine Wpt.slots hsl ?_
 refine WC.here (C := CC F Γ4 [row16, rown, row10]) ?_ hw
 clear hw hsl
 refine WC.rs (vb (q_lss rfl rfl rfl) ?_)
 refine WR.done ?_
 refine WC.seq ?_
 refine WC.cond (b := (decide (((i19 : Nat) : Int) < ((z2.length : Nat) : Int)))) (by kernel_rfl) (fun hb23 => ?_) (fun hb23 => ?_)
 ·
  have hl24 := ilt hb23
  have h := hlt21 hl24
  refine WC.skip ?_
  change WC _ _ _ _ _ _
  refine WC.cut (fun σ w => ∃ (out_25 : List Rec), ∃ (A26 : Option Addr), ∃ (c27 : Nat), ∃ (row28 : Rowb), m_node_Node_Recs_j5 f18 out_25 = some r ∧ slots σ [(1, .int .i64 p_), (5, .slice A26 out_25.length c27), (12, .slice A8 z2.length c9), (13, .int .i64 ((z2.length : Nat) : Int)), (14, .int .i64 ((i19 : Nat) : Int))] ∧ CC F Γ4 [row28, rown, row10] w ∧ Own recT Γ4 45 row28 A26 c27 out_25 ∧ True) ?_ ?_
  ·
   refine WC.block (WC.rs (vb (q_ixn (i := i19) Tryz.underlying22 Tryz.sizeOf45 rfl rfl rfl hl24 (hr11.some_ hl24)) ?_))
   obtain ⟨A30, c31, hx32⟩ := hr11.recT_at i19
   refine vb (q_ldoa (c := 0) (vs := [.string (gt z2 i19).key, .slice A30 ((gt z2 i19).vers).length c31]) (i := 2) rfl (hx32 hl24).2 rfl Tryz.isAgg45 Tryz.sizeOf45 rfl rfl) ?_
   refine e_alloc Tryz.zeroValue45 rfl rfl rfl rfl ?_
   intro g33
   refine e_st (i := 0) (v := .agg #[.string (gt z2 i19).key, .slice A30 ((gt z2 i19).vers).length c31]) (new := #[.string (gt z2 i19).key, .slice A30 ((gt z2 i19).vers).length c31]) rfl Tryz.sizeOf45 rfl rfl rfl rfl (by kernel_rfl) rfl rfl rfl rfl ?_
   refine WR.done ?_
   refine WC.rs (mv (v := .int .i64 p_) (vb (q_lss rfl rfl rfl) (mv (v := .bool (decide (p_ < 0))) (vg0 rfl rfl rfl rfl rfl (fun hg34 => QV.qo (q_fl 0 fld_45_0 rfl rfl rfl)) (vg0 rfl rfl rfl rfl rfl (fun hg35 => QV.qo (q_ldl (i := 0) (v := .string (gt z2 i19).key) rfl rfl Tryz.isAgg9 (gu hg35 rfl) rfl)) ?_)))))
   obtain ⟨z37, hz38, h⟩ := bnd h
   refine vg0 rfl rfl rfl rfl rfl (fun hg36 => (q_call (call_run Tryz.call43 rfl rfl (args1 (gu hg36 rfl))) (fun w hw => t_ring_Part (Γ := Gh.all w) ((gt z2 i19).key) (hx32 hl24).1.1 (Sat.all w) (gc_of hz38 hg36)))) (vg0 rfl rfl rfl rfl rfl (fun hg39 => QV.qo (q_move (v := .int .i64 p_) rfl (by kernel_rfl))) (vg0 rfl rfl rfl rfl rfl (fun hg40 => QV.qo (q_eql rfl (gu hg40 rfl) (gu hg40 rfl))) (vb (q_pick rfl rfl (pk_or' (g := (decide (p_ < 0))) (y := (z37 == p_)))) ?_)))
   refine WR.done ?_
   refine WC.cif h (by kernel_rfl) (fun hb41 h => ?_) (fun hb41 h => ?_)
   ·
    refine WC.region ?_
    refine mv (v := .slice A14 out_13.length c15) (vb (q_ldla (i := 0) (vs := [.string (gt z2 i19).key, .slice A30 ((gt z2 i19).vers).length c31]) rfl rfl Tryz.isAgg45 Tryz.sizeOf45 rfl rfl) ?_)
    refine e_buildSlice (cs := #[.string (gt z2 i19).key, .slice A30 ((gt z2 i19).vers).length c31]) (e := 45) rfl rfl rfl rfl (fun w => by kernel_rfl) ?_
    intro g42
    obtain ⟨hk43, h⟩ := chk_some h
    refine e_append (T := recT) (xs := out_13) (ys := [(gt z2 i19)]) elem_22 (i := 2) rfl rfl rfl rfl rfl rfl rfl ho17 (of_decide_eq_true hk43) (fun w hw => src_one (T := recT) (y := (gt z2 i19)) (i := 0) rfl (by exact ⟨A30, c31, rfl, (hx32 hl24).1⟩) hw) ?_
    intro row44 A45 c46 ho47
    refine as_ (v := .slice A45 (out_13 ++ [(gt z2 i19)]).length c46) ?_
    refine WR.nil ?_
    intro w hw
    exact ⟨(out_13 ++ [(gt z2 i19)]), A45, c46, row44, h, (sl_ (by kernel_rfl)), (hw.only (is := [2, 2, 2]) rfl), ho47, trivial⟩
   ·
    refine WC.skip ?_
    intro w hw
    exact ⟨out_13, A14, c15, row16, h, (sl_ (by kernel_rfl)), (hw.only (is := [1, 1, 1]) rfl), ho17, trivial⟩
  ·
   rintro σ w ⟨out_25, A26, c27, row28, h, hsl, hw, ho29, -⟩
   refine Wpt.slots hsl ?_
   refine WC.here (C := CC F Γ4 [row28, rown, row10]) ?_ hw
   clear hw hsl
   refine WC.region ?_
   refine vb (q_add_r (r := ((i19 + 1 : Nat) : Int)) rfl rfl rfl (ctr_len hl24 hr11.le)) (mv (v := .int .i64 ((i19 + 1 : Nat) : Int)) ?_)
   refine WR.nil ?_
   intro w hw
   exact ⟨hl24, out_25, h, A26, c27, row28, (sl_ (by kernel_rfl)), hw, ho29, trivial⟩
 ·
  have h := hge22 (ige hb23)
  refine WC.exit ?_
  change WC _ _ _ _ _ _
  refine WC.rs (mv (v := .slice A14 out_13.length c15) (as_ (v := .slice A14 out_13.length c15) ?_))
  refine WR.done ?_
  refine WC.ret ?_
  intro w hw
  obtain rfl := Option.some.inj h
  subst hF
  exact end_e (is := [1, 0]) (by kernel_rfl) hw rfl ⟨A14, c15, row16, rfl, rfl, ho17, trivial⟩
end Fw
end Go.Proofs.YtckindfllegbgaaGreat
