/- Walks through the functions that the law reaches (printed by a program). No condition. -/
import Derived.Test.YtckindfllegbgaaGreatW2
namespace Go.Proofs.YtckindfllegbgaaGreat
namespace Fw
set_option linter.unusedVariables false
set_option linter.unusedSimpArgs false
set_option linter.unusedSectionVars false
set_option maxRecDepth 100000
set_option maxHeartbeats 400000
open Go.RowKit
open Go.Proofs.Tryz
abbrev r_node_lay (gs_ : Nat) (es_ : Nat × Nat) (edk0 : Nat) (r : Ostore_Store × Odisk_Disk × Int) (U : List Rowb) (Γ : Gh) (v : Value) : Prop := ∃ (rows_' : Rowb), ∃ (rowdk0' : Rowb), v = .int .i64 r.2.2 ∧ U = [rows_', rowdk0'] ∧ Ostore_Store.ob es_ Γ gs_ rows_' r.1 ∧ Odisk_Disk.ob edk0 Γ es_.2 rowdk0' r.2.1 ∧ I64 r.2.2 ∧ True
theorem t_node_lay {Γ : Gh} {w0 : World} {gs_ : Nat} {es_ : Nat × Nat} {rows_ : Rowb} {s_ : Ostore_Store} (hs_ : Ostore_Store.ob es_ Γ gs_ rows_ s_) {Alist : Option Addr} {clist : Nat} {list : List Rec} (hlist : Sl recT Γ Alist list) (hlistc : list.length ≤ clist) {edk0 : Nat} {rowdk0 : Rowb} {dk0 : Odisk_Disk} (hdk0 : Odisk_Disk.ob edk0 Γ es_.2 rowdk0 dk0) (hp : Pre [rows_, rowdk0] Γ w0) {r : Ostore_Store × Odisk_Disk × Int} (h : m_node_lay s_ list dk0 = some r) : Calls Tryz.prog 56 #[(pq gs_), .slice Alist list.length clist] w0 (Outc Γ [rows_, rowdk0] w0 (r_node_lay gs_ es_ edk0 r)) := by
 refine go_ (n := 45) (rs := [4]) (args := [(pq gs_), .slice Alist list.length clist]) func56 rfl ntmps56 results56 rfl hp fun F hF => ?_
 refine WC.rs (aV (k:=WR.done (WC.seq (WC.rs (mV (k:=sV (q_len_slice rfl underlying22) (k:=mV (k:=?_))))))))
 refine WR.done (WC.block ?_)
 refine WC.forI h (fun (i10 : Nat) (s : Ostore_Store × Odisk_Disk) σ w => match s with | (o3, o6) => ∃ (Γ1 : Gh), ∃ (row4 : Rowb), ∃ (row7 : Rowb), slots σ [(0, (pq gs_)), (10, .slice Alist list.length clist), (11, ii ((list.length : Nat) : Int)), (12, ii ((i10 : Nat) : Int))] ∧ CC F Γ1 [row4, row7] w ∧ Gh.le Γ Γ1 ∧ Ostore_Store.ob es_ Γ1 gs_ row4 o3 ∧ Odisk_Disk.ob edk0 Γ1 es_.2 row7 o6 ∧ True) ?_ ?_
 ·
  intro w hw
  exact ⟨Γ, rows_, rowdk0, (sl_ (by kernel_rfl)), hw, (Gh.refl _), hs_, hdk0, trivial⟩
 rintro f9 i10 ⟨o3, o6⟩ σ w hi11 hlt12 hge13 ⟨Γ1, row4, row7, hsl, hw, hl2, ho5, ho8, -⟩
 refine Wpt.slots hsl ?_
 refine WC.here (C := CC F Γ1 [_, _]) ?_ hw
 clear hw hsl
 refine WC.rs (sV q_lss (k:=WR.done (WC.seq ?_)))
 refine WC.cond (b := (decide (((i10 : Nat) : Int) < ((list.length : Nat) : Int)))) (by kernel_rfl) (fun hb14 => ?_) (fun hb14 => ?_)
 ·
  have hl15 := ilt hb14
  have h := hlt12 hl15
  refine WC.skip (wc_ ?_)
  refine WC.seq (WC.block (WC.rs (sV (q_ixn (i := i10) underlying22 sizeOf45 rfl rfl rfl hl15 ((hlist.mono hl2).some_ hl15)) (k:=?_))))
  obtain ⟨A16, c17, hx18⟩ := (hlist.mono hl2).recT_at i10
  refine sV (q_lda (c := 0) (vs := [.string (gt list i10).key, .slice A16 ((gt list i10).vers).length c17]) (hx18 hl15).2 rfl isAgg45 sizeOf45 rfl rfl rfl) (k:=?_)
  refine alV zeroValue45 ?_
  intro g19
  refine stV 0 (.agg #[.string (gt list i10).key, .slice A16 ((gt list i10).vers).length c17]) #[.string (gt list i10).key, .slice A16 ((gt list i10).vers).length c17] sizeOf45 (k:=WR.done (WC.rs (mV (k:=sV (q_fl 0 fld_45_0) (k:=sV (ldV 0 isAgg9) (k:=?_))))))
  obtain ⟨z20, hz21, h⟩ := bnd h
  refine ecV [1] (caV call58) (fun w hp => t_store_Store_Get ho5 ((gt list i10).key) (hx18 hl15).1.1 hp hz21) ?_
  rintro Γ22 U24 v25 hl23 ⟨A26, c27, rfl, rfl, hc29, hr28, _⟩
  refine cwV 19 [_, _, _] (aV (k:=WR.done (WC.rs (mV (k:=sV (q_fl 1 fld_45_1) (k:=sV (ldV 1 isAgg43) (k:=?_)))))))
  obtain ⟨z30, hz31, h⟩ := bnd h
  refine ecV [] (caV call95) (fun w hp => t_vers_Merge hr28 hc29 ((hx18 hl15).1.2.2.mono hl23) (hx18 hl15).1.2.1 hp hz31) ?_
  rintro Γ32 U34 v35 hl33 ⟨A36, c37, row38, rfl, rfl, hr39, hr40, _⟩
  refine cwV 24 [_, _, _, _] (mV (k:=sV exV (k:=sV exV (k:=aV (k:=aV (k:=WR.done ?_))))))
  refine WC.cut (fun σ w => ∃ (e_43 : Int), ∃ (o45 : Ostore_Store), ∃ (o48 : Odisk_Disk), ∃ (Γ41 : Gh), ∃ (row46 : Rowb), ∃ (row49 : Rowb), m_node_lay_j5 f9 e_43 o45 o48 = some r ∧ slots σ [(0, (pq gs_)), (9, ii e_43), (10, .slice Alist list.length clist), (11, ii ((list.length : Nat) : Int)), (12, ii ((i10 : Nat) : Int))] ∧ CC F Γ41 [row46, row49] w ∧ Gh.le Γ32 Γ41 ∧ I64 e_43 ∧ Ostore_Store.ob es_ Γ41 gs_ row46 o45 ∧ Odisk_Disk.ob edk0 Γ41 es_.2 row49 o48 ∧ True) ?_ ?_
  ·
   refine WC.rs (mV (k:=sV q_eql (k:=mV (k:=vG1 (h:=fun hg51 => moV) (k:=vG1 (h:=fun hg52 => moV) (k:=?_))))))
   obtain ⟨z54, hz55, h⟩ := bnd h
   refine vg1 rfl rfl rfl rfl rfl (fun hg53 => (q_call (call_run call96 rfl rfl (args2 (grV hg53) (grV hg53))) (fun w hw => t_vers_Same (Γ := Gh.all w) (hr39.sl hw.sat.le_all (hw.ra 0 rfl)) hr39.capz ((hr28.mono hl33).mono hw.sat.le_all) hc29 (Sat.all w) (gc_of hz55 hg53)))) (vG1 (h:=fun hg56 => q_not rfl (grV hg56)) (k:=sV pkA (k:=WR.done ?_)))
   refine ciV h (fun hb57 h => ?_) (fun hb57 h => ?_)
   ·
    refine WC.region ?_
    refine mV (k:=sV (q_fl 0 fld_45_0) (k:=sV (ldV 2 isAgg9) (k:=mV (k:=sV (q_build' (v := .agg #[.string (gt list i10).key, .slice A36 z30.1.length c37]) rfl (bargs2 rfl rfl) (fun w => by kernel_rfl)) (k:=?_)))))
    have hc62 := hr39.capz
    intro w hw; obtain ⟨Γ58, hw, hl59, hr60⟩ := hw.seal (i := 0) rfl; have hs61 := hr39.sl hl59 hr60
    refine WR.here (C := CC F Γ58 [_, _, _, _]) ?_ hw
    clear hw
    obtain ⟨z63, hz64, h⟩ := bnd h
    refine ecV [1, 2] (caV call60) (fun w hp => t_store_Store_Put (ho5.mono ((hl23.trans hl33).trans hl59)) (⟨(gt list i10).key, z30.1⟩ : Rec) ⟨(hx18 hl15).1.1, ⟨hc62, hs61⟩⟩ (ho8.mono ((hl23.trans hl33).trans hl59)) hp hz64) ?_
    rintro Γ65 U67 v68 hl66 ⟨row69, row71, rfl, rfl, hr70, hr72, hr73, _⟩
    refine cwV 40 [_, _, _, _] (aV (k:=?_))
    refine WR.nil ?_
    intro w hw
    exact ⟨z63.2.2, z63.1, z63.2.1, Γ65, row69, row71, h, (sl_ (by kernel_rfl)), (hw.only (is := [0, 0]) rfl), (hl59.trans hl66), hr73, hr70, hr72, trivial⟩
   refine WC.skip ?_
   intro w hw
   exact ⟨z30.2, o3, o6, Γ32, row4, row7, h, (sl_ (by kernel_rfl)), (hw.only (is := [1, 2]) rfl), (Gh.refl _), hr40, (ho5.mono (hl23.trans hl33)), (ho8.mono (hl23.trans hl33)), trivial⟩
  rintro σ w ⟨e_43, o45, o48, Γ41, row46, row49, h, hsl, hw, hl42, hr44, ho47, ho50, -⟩
  refine Wpt.slots hsl ?_
  refine WC.here (C := CC F Γ41 [_, _]) ?_ hw
  clear hw hsl
  refine WC.rs (mV (k:=sV q_neq (k:=WR.done ?_)))
  refine ciV h (fun hb74 h => ?_) (fun hb74 h => ?_)
  ·
   refine WC.rs (mV (k:=aV (k:=WR.done ?_)))
   exact WC.ret fun w hw => re_ r [0, 0] h hF hw ⟨row46, row49, rfl, rfl, ho47, ho50, hr44, trivial⟩
  refine WC.skip (wc_ ?_)
  refine WC.region ?_
  refine sV (q_add_r (r := ((i10 + 1 : Nat) : Int)) rfl rfl rfl (ctr_len hl15 (hlist.mono hl2).le)) (k:=mV (k:=?_))
  refine WR.nil ?_
  intro w hw
  exact ⟨hl15, (o45, o48), h, Γ41, row46, row49, (sl_ (by kernel_rfl)), hw, (((hl2.trans hl23).trans hl33).trans hl42), ho47, ho50, trivial⟩
 have h := hge13 (ige hb14)
 refine WC.exit ?_
 change WC _ _ _ _ _ _
 refine WC.rs (aV (k:=WR.done ?_))
 exact WC.ret fun w hw => re_ r [0, 0] h hF hw ⟨row4, row7, rfl, rfl, ho5, ho8, (show I64 0 by decide), trivial⟩
abbrev r_node_Node_Handle_1 (gb0 : Nat) (gb0v : Nat) (eb0v : Nat × Nat) (b0v : Onode_Node) (rowb0v : Rowb) (gb1 : Nat) (Ab1_10 : Option Addr) (cb1_10 : Nat) (Ab1_11 : Option Addr) (cb1_11 : Nat) (Ab1_12 : Option Addr) (cb1_12 : Nat) (Ab1_13 : Option Addr) (cb1_13 : Nat) (Ab1_14 : Option Addr) (cb1_14 : Nat) (b1 : Dapi_Msg) (gb2 : Nat) (Ab2v : Option Addr) (cb2v : Nat) (b2v : List Dapi_Msg) (rowb2v : Rowb) (r : List Dapi_Msg) (U : List Rowb) (Γ : Gh) (v : Value) : Prop := ∃ (Ab2_0 : Option Addr), ∃ (cb2_0 : Nat), ∃ (rowb2_0 : Rowb), v = .tuple #[] ∧ U = [[(gb0, .cells #[.pointer (some ⟨gb0v, 0, none⟩)] 27 (0, 0))], rowb0v, [(gb1, .cells #[.int .i64 b1.kind, .int .i64 b1.from_.site, .int .i64 b1.from_.node, .int .i64 b1.to_.site, .int .i64 b1.to_.node, .int .i64 b1.id, .int .i64 b1.n, .int .i64 b1.for_, .int .i64 b1.code, .string b1.key, .slice Ab1_10 b1.recs.length cb1_10, .slice Ab1_11 b1.vec.length cb1_11, .slice Ab1_12 b1.path.length cb1_12, .slice Ab1_13 b1.hashes.length cb1_13, .slice Ab1_14 b1.route.length cb1_14] 40 (0, 0))], [(gb2, .cells #[.slice Ab2_0 r.length cb2_0] 34 (0, 0))], rowb2_0] ∧ Own dapi_MsgT Γ 40 rowb2_0 Ab2_0 cb2_0 r ∧ True
theorem t_node_Node_Handle_1 {Γ : Gh} {w0 : World} {Aa10 : Option Addr} {ca10 : Nat} {Aa11 : Option Addr} {ca11 : Nat} {Aa12 : Option Addr} {ca12 : Nat} {Aa13 : Option Addr} {ca13 : Nat} {Aa14 : Option Addr} {ca14 : Nat} (a : Dapi_Msg) (ha : Dapi_Msg.fits Γ Aa10 ca10 Aa11 ca11 Aa12 ca12 Aa13 ca13 Aa14 ca14 a) {gb0 : Nat} {gb0v : Nat} {eb0v : Nat × Nat} {rowb0v : Rowb} {b0v : Onode_Node} (hb0v : Onode_Node.ob eb0v Γ gb0v rowb0v b0v) {gb1 : Nat} {Ab1_10 : Option Addr} {cb1_10 : Nat} {Ab1_11 : Option Addr} {cb1_11 : Nat} {Ab1_12 : Option Addr} {cb1_12 : Nat} {Ab1_13 : Option Addr} {cb1_13 : Nat} {Ab1_14 : Option Addr} {cb1_14 : Nat} (b1 : Dapi_Msg) (hb1 : Dapi_Msg.fits Γ Ab1_10 cb1_10 Ab1_11 cb1_11 Ab1_12 cb1_12 Ab1_13 cb1_13 Ab1_14 cb1_14 b1) {gb2 : Nat} {Ab2v : Option Addr} {cb2v : Nat} {rowb2v : Rowb} {b2v : List Dapi_Msg} (hb2v : Own dapi_MsgT Γ 40 rowb2v Ab2v cb2v b2v) (hp : Pre [[(gb0, .cells #[(pq gb0v)] 27 (0, 0))], rowb0v, [(gb1, .cells #[ii b1.kind, ii b1.from_.site, ii b1.from_.node, ii b1.to_.site, ii b1.to_.node, ii b1.id, ii b1.n, ii b1.for_, ii b1.code, .string b1.key, .slice Ab1_10 b1.recs.length cb1_10, .slice Ab1_11 b1.vec.length cb1_11, .slice Ab1_12 b1.path.length cb1_12, .slice Ab1_13 b1.hashes.length cb1_13, .slice Ab1_14 b1.route.length cb1_14] 40 (0, 0))], [(gb2, .cells #[.slice Ab2v b2v.length cb2v] 34 (0, 0))], rowb2v] Γ w0) {r : List Dapi_Msg} (h : m_node_Node_Handle_1 a b0v b1 b2v = some r) : Calls Tryz.prog 41 #[.agg #[ii a.kind, ii a.from_.site, ii a.from_.node, ii a.to_.site, ii a.to_.node, ii a.id, ii a.n, ii a.for_, ii a.code, .string a.key, .slice Aa10 a.recs.length ca10, .slice Aa11 a.vec.length ca11, .slice Aa12 a.path.length ca12, .slice Aa13 a.hashes.length ca13, .slice Aa14 a.route.length ca14], (pq gb0), (pq gb1), (pq gb2)] w0 (Outc Γ [[(gb0, .cells #[(pq gb0v)] 27 (0, 0))], rowb0v, [(gb1, .cells #[ii b1.kind, ii b1.from_.site, ii b1.from_.node, ii b1.to_.site, ii b1.to_.node, ii b1.id, ii b1.n, ii b1.for_, ii b1.code, .string b1.key, .slice Ab1_10 b1.recs.length cb1_10, .slice Ab1_11 b1.vec.length cb1_11, .slice Ab1_12 b1.path.length cb1_12, .slice Ab1_13 b1.hashes.length cb1_13, .slice Ab1_14 b1.route.length cb1_14] 40 (0, 0))], [(gb2, .cells #[.slice Ab2v b2v.length cb2v] 34 (0, 0))], rowb2v] w0 (r_node_Node_Handle_1 gb0 gb0v eb0v b0v rowb0v gb1 Ab1_10 cb1_10 Ab1_11 cb1_11 Ab1_12 cb1_12 Ab1_13 cb1_13 Ab1_14 cb1_14 b1 gb2 Ab2v cb2v b2v rowb2v r)) := by
 refine go_ (n := 20) (rs := []) (args := [.agg #[ii a.kind, ii a.from_.site, ii a.from_.node, ii a.to_.site, ii a.to_.node, ii a.id, ii a.n, ii a.for_, ii a.code, .string a.key, .slice Aa10 a.recs.length ca10, .slice Aa11 a.vec.length ca11, .slice Aa12 a.path.length ca12, .slice Aa13 a.hashes.length ca13, .slice Aa14 a.route.length ca14], (pq gb0), (pq gb1), (pq gb2)]) func41 rfl ntmps41 results41 rfl hp fun F hF => ?_
 refine WC.rs ?_
 refine bxV (v := .agg #[ii a.kind, ii a.from_.site, ii a.from_.node, ii a.to_.site, ii a.to_.node, ii a.id, ii a.n, ii a.for_, ii a.code, .string a.key, .slice Aa10 a.recs.length ca10, .slice Aa11 a.vec.length ca11, .slice Aa12 a.path.length ca12, .slice Aa13 a.hashes.length ca13, .slice Aa14 a.route.length ca14]) ?_
 intro g1
 refine WR.done (WC.seq ?_)
 intro w hw; have h02 := hw.le
 refine WC.here (C := CC F Γ [_, _, _, _, _, _]) ?_ hw; clear hw
 refine held_ (CC F Γ [[(gb0, .cells #[(pq gb0v)] 27 (0, 0))], [(gb1, .cells #[ii b1.kind, ii b1.from_.site, ii b1.from_.node, ii b1.to_.site, ii b1.to_.node, ii b1.id, ii b1.n, ii b1.for_, ii b1.code, .string b1.key, .slice Ab1_10 b1.recs.length cb1_10, .slice Ab1_11 b1.vec.length cb1_11, .slice Ab1_12 b1.path.length cb1_12, .slice Ab1_13 b1.hashes.length cb1_13, .slice Ab1_14 b1.route.length cb1_14] 40 (0, 0))], [(gb2, .cells #[.slice Ab2v b2v.length cb2v] 34 (0, 0))]]) (bo_ [1, 2, 2] (Gh.refl _) h02) fun k => ?_
 change WH _ _ _ _ (CC F Γ [_, _, _, _, _, _]) _ 14 _ _
 refine hV 0 k (q:=ldV 0 isAgg27) (k:=hV 1 k (q:=nlV) (k:=hV 2 k (q:=q_fl 2 fld_74_2) (k:=hV 4 k (q:=q_fl 1 fld_40_1) (k:=hV 5 k (q:=ldaV 1 [ii b1.from_.site, ii b1.from_.node] isAgg32 sizeOf32) (k:=hV 6 k (q:=q_fl 5 fld_40_3) (k:=hV 7 k (q:=ldV 1 isAgg2) (k:=wl_ 3 rfl ?_)))))))
 have hq := hb0v
 obtain ⟨g4_3, r4_3, m5_3, r5_3, m6_3, r6_3, hrow_3, ho0_3, ho1_3, ho2_3, ho3_3, ho4_3, ho5_3, -⟩ := hq
 intro w hw; have hw := hw.unfold (i := 2) rfl hrow_3
 refine WR.here (C := CC F Γ [_, _, _, _, _, _, _, _, _]) ?_ hw
 clear hw
 refine sV (ldaV 0 [ii b0v.self_site, ii b0v.self_node] isAgg32 sizeOf32) (k:=?_)
 refine WR.nil ?_
 refine nxV (bo_ [5, 5, 5] (Gh.refl _) h02) fun k => ?_
 refine hV 8 k (q:=q_fl 1 fld_40_1) (k:=wl_ 9 rfl (stV 4 (.agg #[ii b0v.self_site, ii b0v.self_node]) #[ii a.kind, ii b0v.self_site, ii b0v.self_node, ii a.to_.site, ii a.to_.node, ii a.id, ii a.n, ii a.for_, ii a.code, .string a.key, .slice Aa10 a.recs.length ca10, .slice Aa11 a.vec.length ca11, .slice Aa12 a.path.length ca12, .slice Aa13 a.hashes.length ca13, .slice Aa14 a.route.length ca14] sizeOf32 (k:=?_)))
 refine WR.nil ?_
 refine nxV (bo_ [5, 5, 5] (Gh.refl _) h02) fun k => ?_
 refine hV 10 k (q:=q_fl 3 fld_40_2) (k:=wl_ 11 rfl (stV 4 (.agg #[ii b1.from_.site, ii b1.from_.node]) #[ii a.kind, ii b0v.self_site, ii b0v.self_node, ii b1.from_.site, ii b1.from_.node, ii a.id, ii a.n, ii a.for_, ii a.code, .string a.key, .slice Aa10 a.recs.length ca10, .slice Aa11 a.vec.length ca11, .slice Aa12 a.path.length ca12, .slice Aa13 a.hashes.length ca13, .slice Aa14 a.route.length ca14] sizeOf32 (k:=?_)))
 refine WR.nil ?_
 refine nxV (bo_ [5, 5, 5] (Gh.refl _) h02) fun k => ?_
 refine hV 12 k (q:=q_fl 5 fld_40_3) (k:=wl_ 13 rfl (stV 4 (ii b1.id) #[ii a.kind, ii b0v.self_site, ii b0v.self_node, ii b1.from_.site, ii b1.from_.node, ii b1.id, ii a.n, ii a.for_, ii a.code, .string a.key, .slice Aa10 a.recs.length ca10, .slice Aa11 a.vec.length ca11, .slice Aa12 a.path.length ca12, .slice Aa13 a.hashes.length ca13, .slice Aa14 a.route.length ca14] sizeOf2 (k:=?_)))
 refine WR.nil ?_
 refine nxV (bo_ [5, 5, 5] (Gh.refl _) h02) fun k => ?_
 refine WH.done (by kernel_rfl) ?_
 change WC _ _ _ _ _ _
 refine WC.region ?_
 refine sV (ldV 7 isAgg34) (k:=sV (ldaV 4 [ii a.kind, ii b0v.self_site, ii b0v.self_node, ii b1.from_.site, ii b1.from_.node, ii b1.id, ii a.n, ii a.for_, ii a.code, .string a.key, .slice Aa10 a.recs.length ca10, .slice Aa11 a.vec.length ca11, .slice Aa12 a.path.length ca12, .slice Aa13 a.hashes.length ca13, .slice Aa14 a.route.length ca14] isAgg40 sizeOf40) (k:=?_))
 refine bsV #[ii a.kind, ii b0v.self_site, ii b0v.self_node, ii b1.from_.site, ii b1.from_.node, ii b1.id, ii a.n, ii a.for_, ii a.code, .string a.key, .slice Aa10 a.recs.length ca10, .slice Aa11 a.vec.length ca11, .slice Aa12 a.path.length ca12, .slice Aa13 a.hashes.length ca13, .slice Aa14 a.route.length ca14] 40 ?_
 intro g4
 obtain ⟨hk5, h⟩ := chk_some h
 refine e_append (T := dapi_MsgT) (xs := b2v) (ys := [(⟨a.kind, (⟨b0v.self_site, b0v.self_node⟩ : Adr), (⟨b1.from_.site, b1.from_.node⟩ : Adr), b1.id, a.n, a.for_, a.code, a.key, a.recs, a.vec, a.path, a.hashes, a.route⟩ : Dapi_Msg)]) elem_34 (i := 9) rfl rfl rfl rfl rfl rfl rfl hb2v (of_decide_eq_true hk5) (fun w hw => src_one (T := dapi_MsgT) (y := (⟨a.kind, (⟨b0v.self_site, b0v.self_node⟩ : Adr), (⟨b1.from_.site, b1.from_.node⟩ : Adr), b1.id, a.n, a.for_, a.code, a.key, a.recs, a.vec, a.path, a.hashes, a.route⟩ : Dapi_Msg)) (i := 0) rfl (by exact ⟨Aa10, ca10, Aa11, ca11, Aa12, ca12, Aa13, ca13, Aa14, ca14, rfl, ⟨ha.1, ho1_3, ho2_3, hb1.2.1, hb1.2.2.1, hb1.2.2.2.2.2.1, ha.2.2.2.2.2.2.1, ha.2.2.2.2.2.2.2.1, ha.2.2.2.2.2.2.2.2.1, ha.2.2.2.2.2.2.2.2.2.1, ⟨ha.2.2.2.2.2.2.2.2.2.2.1.1, ha.2.2.2.2.2.2.2.2.2.2.1.2⟩, ⟨ha.2.2.2.2.2.2.2.2.2.2.2.1.1, ha.2.2.2.2.2.2.2.2.2.2.2.1.2⟩, ⟨ha.2.2.2.2.2.2.2.2.2.2.2.2.1.1, ha.2.2.2.2.2.2.2.2.2.2.2.2.1.2⟩, ⟨ha.2.2.2.2.2.2.2.2.2.2.2.2.2.1.1, ha.2.2.2.2.2.2.2.2.2.2.2.2.2.1.2⟩, ⟨ha.2.2.2.2.2.2.2.2.2.2.2.2.2.2.1, ha.2.2.2.2.2.2.2.2.2.2.2.2.2.2.2⟩⟩⟩) hw) ?_
 intro row6 A7 c8 ho9
 refine stV 8 (.slice A7 (b2v ++ [(⟨a.kind, (⟨b0v.self_site, b0v.self_node⟩ : Adr), (⟨b1.from_.site, b1.from_.node⟩ : Adr), b1.id, a.n, a.for_, a.code, a.key, a.recs, a.vec, a.path, a.hashes, a.route⟩ : Dapi_Msg)]).length c8) #[.slice A7 (b2v ++ [(⟨a.kind, (⟨b0v.self_site, b0v.self_node⟩ : Adr), (⟨b1.from_.site, b1.from_.node⟩ : Adr), b1.id, a.n, a.for_, a.code, a.key, a.recs, a.vec, a.path, a.hashes, a.route⟩ : Dapi_Msg)]).length c8] sizeOf34 (k:=?_)
 refine WR.nil ?_
 intro w hw
 have hw := hw.fold (is := [1, 1, 1, 1]) rfl hrow_3
 obtain rfl := Option.some.inj h
 subst hF
 exact end_e (is := [3, 0, 2, 2, 2]) (by kernel_rfl) hw rfl ⟨A7, c8, row6, rfl, rfl, ho9, trivial⟩
abbrev r_node_own (r : List Rec) (U : List Rowb) (Γ : Gh) (v : Value) : Prop := ∃ (A0 : Option Addr), ∃ (c0 : Nat), ∃ (row0 : Rowb), v = .slice A0 r.length c0 ∧ U = [row0] ∧ Own recT Γ 45 row0 A0 c0 r ∧ True
theorem t_node_own {Γ : Gh} {w0 : World} {Al : Option Addr} {cl : Nat} {l : List Rec} (hl : Sl recT Γ Al l) (hlc : l.length ≤ cl) (hp : Pre [] Γ w0) {r : List Rec} (h : m_node_own l = some r) : Calls Tryz.prog 57 #[.slice Al l.length cl] w0 (Outc Γ [] w0 (r_node_own r)) := by
 refine go_ (n := 42) (rs := [2]) (args := [.slice Al l.length cl]) func57 rfl ntmps57 results57 rfl hp fun F hF => ?_
 refine WC.rs (aV (k:=WR.done (WC.rs (aV (k:=WR.done (WC.seq (WC.rs ?_)))))))
 refine mV (k:=sV (q_len_slice rfl underlying22) (k:=mV (k:=WR.done (WC.block ?_))))
 refine WC.forI h (fun (i9 : Nat) (out_3 : List Rec) σ w => ∃ (Γ1 : Gh), ∃ (A4 : Option Addr), ∃ (c5 : Nat), ∃ (row6 : Rowb), slots σ [(3, .slice A4 out_3.length c5), (9, .slice Al l.length cl), (10, ii ((l.length : Nat) : Int)), (11, ii ((i9 : Nat) : Int))] ∧ CC F Γ1 [row6] w ∧ Gh.le Γ Γ1 ∧ Own recT Γ1 45 row6 A4 c5 out_3 ∧ True) ?_ ?_
 ·
  intro w hw
  have hw := hw.pad
  exact ⟨Γ, none, 0, [], (sl_ (by kernel_rfl)), hw, (Gh.refl _), (Own.nil recT _ 45), trivial⟩
 rintro f8 i9 out_3 σ w hi10 hlt11 hge12 ⟨Γ1, A4, c5, row6, hsl, hw, hl2, ho7, -⟩
 refine Wpt.slots hsl ?_
 refine WC.here (C := CC F Γ1 [_]) ?_ hw
 clear hw hsl
 refine WC.rs (sV q_lss (k:=WR.done (WC.seq ?_)))
 refine WC.cond (b := (decide (((i9 : Nat) : Int) < ((l.length : Nat) : Int)))) (by kernel_rfl) (fun hb13 => ?_) (fun hb13 => ?_)
 ·
  have hl14 := ilt hb13
  have h := hlt11 hl14
  refine WC.skip (wc_ ?_)
  refine WC.seq (WC.block (WC.rs (sV (q_ixn (i := i9) underlying22 sizeOf45 rfl rfl rfl hl14 ((hl.mono hl2).some_ hl14)) (k:=?_))))
  obtain ⟨A15, c16, hx17⟩ := (hl.mono hl2).recT_at i9
  refine sV (q_lda (c := 0) (vs := [.string (gt l i9).key, .slice A15 ((gt l i9).vers).length c16]) (hx17 hl14).2 rfl isAgg45 sizeOf45 rfl rfl rfl) (k:=?_)
  refine alV zeroValue45 ?_
  intro g18
  refine stV 0 (.agg #[.string (gt l i9).key, .slice A15 ((gt l i9).vers).length c16]) #[.string (gt l i9).key, .slice A15 ((gt l i9).vers).length c16] sizeOf45 (k:=WR.done (WC.rs (sV (q_fl 0 fld_45_0) (k:=sV (ldV 0 isAgg9) (k:=sV (q_build' (v := .agg #[.string (gt l i9).key, .slice none 0 0]) rfl (bargs1 rfl) (fun w => by kernel_rfl)) (k:=?_))))))
  refine alV zeroValue45 ?_
  intro g19
  refine stV 0 (.agg #[.string (gt l i9).key, .slice none 0 0]) #[.string (gt l i9).key, .slice none 0 0] sizeOf45 (k:=WR.done (WC.seq (WC.rs (sV (q_fl 1 fld_45_1) (k:=sV (ldV 1 isAgg43) (k:=sV (q_len_slice rfl underlying43) (k:=mV (k:=?_))))))))
  refine WR.done (WC.block ?_)
  refine WC.forI h (fun (i28 : Nat) (x22 : List Ver) σ w => ∃ (Γ20 : Gh), ∃ (A23 : Option Addr), ∃ (c24 : Nat), ∃ (row25 : Rowb), slots σ [(3, .slice A4 out_3.length c5), (6, (pq g19)), (9, .slice Al l.length cl), (10, ii ((l.length : Nat) : Int)), (11, ii ((i9 : Nat) : Int)), (19, .slice A15 ((gt l i9).vers).length c16), (20, ii ((((gt l i9).vers).length : Nat) : Int)), (21, ii ((i28 : Nat) : Int))] ∧ CC F Γ20 [row25, [(g19, .cells #[.string (gt l i9).key, .slice A23 x22.length c24] 45 (0, 0))], row6] w ∧ Gh.le Γ1 Γ20 ∧ Own verT Γ20 89 row25 A23 c24 x22 ∧ True) ?_ ?_
  ·
   intro w hw
   have hw := hw.pad
   exact ⟨Γ1, none, 0, [], (sl_ (by kernel_rfl)), (hw.only (is := [0, 0, 1]) rfl), (Gh.refl _), (Own.nil verT _ 89), trivial⟩
  rintro f27 i28 x22 σ w hi29 hlt30 hge31 ⟨Γ20, A23, c24, row25, hsl, hw, hl21, ho26, -⟩
  refine Wpt.slots hsl ?_
  refine WC.here (C := CC F Γ20 [_, _, _]) ?_ hw
  clear hw hsl
  refine WC.rs (sV q_lss (k:=WR.done (WC.seq ?_)))
  refine WC.cond (b := (decide (((i28 : Nat) : Int) < ((((gt l i9).vers).length : Nat) : Int)))) (by kernel_rfl) (fun hb32 => ?_) (fun hb32 => ?_)
  ·
   have hl33 := ilt hb32
   have h := hlt30 hl33
   refine WC.skip (wc_ ?_)
   refine WC.seq (WC.block (WC.rs (sV (q_ixn (i := i28) underlying43 sizeOf89 rfl rfl rfl hl33 (((hx17 hl14).1.2.2.mono hl21).some_ hl33)) (k:=?_))))
   obtain ⟨A34, c35, hx36⟩ := ((hx17 hl14).1.2.2.mono hl21).verT_at i28
   refine sV (q_lda (c := 0) (vs := [ii (gt ((gt l i9).vers) i28).dot.s, ii (gt ((gt l i9).vers) i28).dot.n, .slice A34 ((gt ((gt l i9).vers) i28).past).length c35, .bool (gt ((gt l i9).vers) i28).gone, .string (gt ((gt l i9).vers) i28).val]) (hx36 hl33).2 rfl isAgg89 sizeOf89 rfl rfl rfl) (k:=?_)
   refine alV zeroValue89 ?_
   intro g37
   refine stV 0 (.agg #[ii (gt ((gt l i9).vers) i28).dot.s, ii (gt ((gt l i9).vers) i28).dot.n, .slice A34 ((gt ((gt l i9).vers) i28).past).length c35, .bool (gt ((gt l i9).vers) i28).gone, .string (gt ((gt l i9).vers) i28).val]) #[ii (gt ((gt l i9).vers) i28).dot.s, ii (gt ((gt l i9).vers) i28).dot.n, .slice A34 ((gt ((gt l i9).vers) i28).past).length c35, .bool (gt ((gt l i9).vers) i28).gone, .string (gt ((gt l i9).vers) i28).val] sizeOf89 (k:=WR.done (WC.rs (sV (q_fl 2 fld_89_1) (k:=sV (ldV 0 isAgg87) (k:=?_)))))
   refine WR.sub (fun w hw => hw.pad) ?_
   obtain ⟨hk38, h⟩ := chk_some h
   refine e_append (T := spanT) (xs := []) (ys := (gt ((gt l i9).vers) i28).past) elem_87 (i := 0) rfl rfl rfl rfl (by kernel_rfl) rfl rfl (Own.nil spanT Γ20 93) (of_decide_eq_true hk38) (fun w hw => src_sl (hx36 hl33).1.2.2.1.2 hw) ?_
   intro row39 A40 c41 ho42
   refine sV (q_fl 2 fld_89_1) (k:=stV 1 (.slice A40 (gt ((gt l i9).vers) i28).past.length c41) #[ii (gt ((gt l i9).vers) i28).dot.s, ii (gt ((gt l i9).vers) i28).dot.n, .slice A40 (gt ((gt l i9).vers) i28).past.length c41, .bool (gt ((gt l i9).vers) i28).gone, .string (gt ((gt l i9).vers) i28).val] sizeOf87 (k:=WR.done ?_))
   refine WC.region ?_
   refine sV (q_fl 1 fld_45_1) (k:=sV (ldV 3 isAgg43) (k:=sV (ldaV 1 [ii (gt ((gt l i9).vers) i28).dot.s, ii (gt ((gt l i9).vers) i28).dot.n, .slice A40 (gt ((gt l i9).vers) i28).past.length c41, .bool (gt ((gt l i9).vers) i28).gone, .string (gt ((gt l i9).vers) i28).val] isAgg89 sizeOf89) (k:=?_)))
   have hc47 := ho42.capz
   intro w hw; obtain ⟨Γ43, hw, hl44, hr45⟩ := hw.seal (i := 0) rfl; have hs46 := ho42.sl hl44 hr45
   refine WR.here (C := CC F Γ43 [_, _, _, _, _]) ?_ hw
   clear hw
   refine bsV #[ii (gt ((gt l i9).vers) i28).dot.s, ii (gt ((gt l i9).vers) i28).dot.n, .slice A40 ((gt ((gt l i9).vers) i28).past).length c41, .bool (gt ((gt l i9).vers) i28).gone, .string (gt ((gt l i9).vers) i28).val] 89 ?_
   intro g48
   obtain ⟨hk49, h⟩ := chk_some h
   refine e_append (T := verT) (xs := x22) (ys := [(gt ((gt l i9).vers) i28)]) elem_43 (i := 3) rfl rfl rfl rfl rfl rfl rfl (ho26.mono hl44) (of_decide_eq_true hk49) (fun w hw => src_one (T := verT) (y := (gt ((gt l i9).vers) i28)) (i := 0) rfl (by exact ⟨A40, c41, rfl, ⟨(hx36 hl33).1.1, (hx36 hl33).1.2.1, ⟨hc47, hs46⟩, (hx36 hl33).1.2.2.2⟩⟩) hw) ?_
   intro row50 A51 c52 ho53
   refine sV (q_fl 1 fld_45_1) (k:=stV 4 (.slice A51 (x22 ++ [(gt ((gt l i9).vers) i28)]).length c52) #[.string (gt l i9).key, .slice A51 (x22 ++ [(gt ((gt l i9).vers) i28)]).length c52] sizeOf43 (k:=?_))
   refine WR.nil ?_
   change WC _ _ _ _ _ _
   refine WC.region ?_
   refine sV (q_add_r (r := ((i28 + 1 : Nat) : Int)) rfl rfl rfl (ctr_len hl33 ((hx17 hl14).1.2.2.mono hl21).le)) (k:=mV (k:=?_))
   refine WR.nil ?_
   intro w hw
   exact ⟨hl33, (x22 ++ [(gt ((gt l i9).vers) i28)]), h, Γ43, A51, c52, row50, (sl_ (by kernel_rfl)), (hw.only (is := [3, 3, 3]) rfl), (hl21.trans hl44), ho53, trivial⟩
  have h := hge31 (ige hb32)
  refine WC.exit ?_
  change WC _ _ _ _ _ _
  refine WC.region ?_
  refine mV (k:=sV (ldaV 1 [.string (gt l i9).key, .slice A23 x22.length c24] isAgg45 sizeOf45) (k:=?_))
  have hc58 := ho26.capz
  intro w hw; obtain ⟨Γ54, hw, hl55, hr56⟩ := hw.seal (i := 0) rfl; have hs57 := ho26.sl hl55 hr56
  refine WR.here (C := CC F Γ54 [_, _, _]) ?_ hw
  clear hw
  refine bsV #[.string (gt l i9).key, .slice A23 x22.length c24] 45 ?_
  intro g59
  obtain ⟨hk60, h⟩ := chk_some h
  refine e_append (T := recT) (xs := out_3) (ys := [(⟨(gt l i9).key, x22⟩ : Rec)]) elem_22 (i := 3) rfl rfl rfl rfl rfl rfl rfl (ho7.mono (hl21.trans hl55)) (of_decide_eq_true hk60) (fun w hw => src_one (T := recT) (y := (⟨(gt l i9).key, x22⟩ : Rec)) (i := 0) rfl (by exact ⟨A23, c24, rfl, ⟨(hx17 hl14).1.1, ⟨hc58, hs57⟩⟩⟩) hw) ?_
  intro row61 A62 c63 ho64
  refine aV (k:=?_)
  refine WR.nil ?_
  change WC _ _ _ _ _ _
  refine WC.region ?_
  refine sV (q_add_r (r := ((i9 + 1 : Nat) : Int)) rfl rfl rfl (ctr_len hl14 (hl.mono hl2).le)) (k:=mV (k:=?_))
  refine WR.nil ?_
  intro w hw
  exact ⟨hl14, (out_3 ++ [(⟨(gt l i9).key, x22⟩ : Rec)]), h, Γ54, A62, c63, row61, (sl_ (by kernel_rfl)), (hw.only (is := [3]) rfl), ((hl2.trans hl21).trans hl55), ho64, trivial⟩
 have h := hge12 (ige hb13)
 refine WC.exit ?_
 change WC _ _ _ _ _ _
 refine WC.rs (mV (k:=aV (k:=WR.done ?_)))
 exact WC.ret fun w hw => re_ r [0] h hF hw ⟨A4, c5, row6, rfl, rfl, ho7, trivial⟩
abbrev r_node_Node_put (gn : Nat) (en : Nat × Nat) (ganswer0 : Nat) (ganswer1 : Nat) (Aanswer1_10 : Option Addr) (canswer1_10 : Nat) (Aanswer1_11 : Option Addr) (canswer1_11 : Nat) (Aanswer1_12 : Option Addr) (canswer1_12 : Nat) (Aanswer1_13 : Option Addr) (canswer1_13 : Nat) (Aanswer1_14 : Option Addr) (canswer1_14 : Nat) (answer1 : Dapi_Msg) (ganswer2 : Nat) (Aanswer2v : Option Addr) (canswer2v : Nat) (answer2v : List Dapi_Msg) (rowanswer2v : Rowb) (edk0 : Nat) (r : Onode_Node × (List Dapi_Msg) × Odisk_Disk) (U : List Rowb) (Γ : Gh) (v : Value) : Prop := ∃ (rown' : Rowb), ∃ (Aanswer2_0 : Option Addr), ∃ (canswer2_0 : Nat), ∃ (rowanswer2_0 : Rowb), ∃ (rowdk0' : Rowb), v = .tuple #[] ∧ U = [rown', [(ganswer0, .cells #[.pointer (some ⟨gn, 0, none⟩)] 27 (0, 0))], [(ganswer1, .cells #[.int .i64 answer1.kind, .int .i64 answer1.from_.site, .int .i64 answer1.from_.node, .int .i64 answer1.to_.site, .int .i64 answer1.to_.node, .int .i64 answer1.id, .int .i64 answer1.n, .int .i64 answer1.for_, .int .i64 answer1.code, .string answer1.key, .slice Aanswer1_10 answer1.recs.length canswer1_10, .slice Aanswer1_11 answer1.vec.length canswer1_11, .slice Aanswer1_12 answer1.path.length canswer1_12, .slice Aanswer1_13 answer1.hashes.length canswer1_13, .slice Aanswer1_14 answer1.route.length canswer1_14] 40 (0, 0))], [(ganswer2, .cells #[.slice Aanswer2_0 r.2.1.length canswer2_0] 34 (0, 0))], rowanswer2_0, rowdk0'] ∧ Onode_Node.ob en Γ gn rown' r.1 ∧ Own dapi_MsgT Γ 40 rowanswer2_0 Aanswer2_0 canswer2_0 r.2.1 ∧ Odisk_Disk.ob edk0 Γ en.2 rowdk0' r.2.2 ∧ True
theorem t_node_Node_put {Γ : Gh} {w0 : World} {gn : Nat} {en : Nat × Nat} {rown : Rowb} {n : Onode_Node} (hn : Onode_Node.ob en Γ gn rown n) {Am10 : Option Addr} {cm10 : Nat} {Am11 : Option Addr} {cm11 : Nat} {Am12 : Option Addr} {cm12 : Nat} {Am13 : Option Addr} {cm13 : Nat} {Am14 : Option Addr} {cm14 : Nat} (m : Dapi_Msg) (hm : Dapi_Msg.fits Γ Am10 cm10 Am11 cm11 Am12 cm12 Am13 cm13 Am14 cm14 m) {ganswer0 : Nat}  {ganswer1 : Nat} {Aanswer1_10 : Option Addr} {canswer1_10 : Nat} {Aanswer1_11 : Option Addr} {canswer1_11 : Nat} {Aanswer1_12 : Option Addr} {canswer1_12 : Nat} {Aanswer1_13 : Option Addr} {canswer1_13 : Nat} {Aanswer1_14 : Option Addr} {canswer1_14 : Nat} (answer1 : Dapi_Msg) (hanswer1 : Dapi_Msg.fits Γ Aanswer1_10 canswer1_10 Aanswer1_11 canswer1_11 Aanswer1_12 canswer1_12 Aanswer1_13 canswer1_13 Aanswer1_14 canswer1_14 answer1) {ganswer2 : Nat} {Aanswer2v : Option Addr} {canswer2v : Nat} {rowanswer2v : Rowb} {answer2v : List Dapi_Msg} (hanswer2v : Own dapi_MsgT Γ 40 rowanswer2v Aanswer2v canswer2v answer2v) {edk0 : Nat} {rowdk0 : Rowb} {dk0 : Odisk_Disk} (hdk0 : Odisk_Disk.ob edk0 Γ en.2 rowdk0 dk0) (hp : Pre [rown, [(ganswer0, .cells #[(pq gn)] 27 (0, 0))], [(ganswer1, .cells #[ii answer1.kind, ii answer1.from_.site, ii answer1.from_.node, ii answer1.to_.site, ii answer1.to_.node, ii answer1.id, ii answer1.n, ii answer1.for_, ii answer1.code, .string answer1.key, .slice Aanswer1_10 answer1.recs.length canswer1_10, .slice Aanswer1_11 answer1.vec.length canswer1_11, .slice Aanswer1_12 answer1.path.length canswer1_12, .slice Aanswer1_13 answer1.hashes.length canswer1_13, .slice Aanswer1_14 answer1.route.length canswer1_14] 40 (0, 0))], [(ganswer2, .cells #[.slice Aanswer2v answer2v.length canswer2v] 34 (0, 0))], rowanswer2v, rowdk0] Γ w0) {r : Onode_Node × (List Dapi_Msg) × Odisk_Disk} (h : m_node_Node_put n m answer1 answer2v dk0 = some r) : Calls Tryz.prog 32 #[(pq gn), .agg #[ii m.kind, ii m.from_.site, ii m.from_.node, ii m.to_.site, ii m.to_.node, ii m.id, ii m.n, ii m.for_, ii m.code, .string m.key, .slice Am10 m.recs.length cm10, .slice Am11 m.vec.length cm11, .slice Am12 m.path.length cm12, .slice Am13 m.hashes.length cm13, .slice Am14 m.route.length cm14], .func (.func 41) #[] #[(pq ganswer0), (pq ganswer1), (pq ganswer2)]] w0 (Outc Γ [rown, [(ganswer0, .cells #[(pq gn)] 27 (0, 0))], [(ganswer1, .cells #[ii answer1.kind, ii answer1.from_.site, ii answer1.from_.node, ii answer1.to_.site, ii answer1.to_.node, ii answer1.id, ii answer1.n, ii answer1.for_, ii answer1.code, .string answer1.key, .slice Aanswer1_10 answer1.recs.length canswer1_10, .slice Aanswer1_11 answer1.vec.length canswer1_11, .slice Aanswer1_12 answer1.path.length canswer1_12, .slice Aanswer1_13 answer1.hashes.length canswer1_13, .slice Aanswer1_14 answer1.route.length canswer1_14] 40 (0, 0))], [(ganswer2, .cells #[.slice Aanswer2v answer2v.length canswer2v] 34 (0, 0))], rowanswer2v, rowdk0] w0 (r_node_Node_put gn en ganswer0 ganswer1 Aanswer1_10 canswer1_10 Aanswer1_11 canswer1_11 Aanswer1_12 canswer1_12 Aanswer1_13 canswer1_13 Aanswer1_14 canswer1_14 answer1 ganswer2 Aanswer2v canswer2v answer2v rowanswer2v edk0 r)) := by
 refine go_ (n := 53) (rs := []) (args := [(pq gn), .agg #[ii m.kind, ii m.from_.site, ii m.from_.node, ii m.to_.site, ii m.to_.node, ii m.id, ii m.n, ii m.for_, ii m.code, .string m.key, .slice Am10 m.recs.length cm10, .slice Am11 m.vec.length cm11, .slice Am12 m.path.length cm12, .slice Am13 m.hashes.length cm13, .slice Am14 m.route.length cm14], .func (.func 41) #[] #[(pq ganswer0), (pq ganswer1), (pq ganswer2)]]) func32 rfl ntmps32 results32 rfl hp fun F hF => ?_
 refine WC.rs ?_
 refine bxV (v := .agg #[ii m.kind, ii m.from_.site, ii m.from_.node, ii m.to_.site, ii m.to_.node, ii m.id, ii m.n, ii m.for_, ii m.code, .string m.key, .slice Am10 m.recs.length cm10, .slice Am11 m.vec.length cm11, .slice Am12 m.path.length cm12, .slice Am13 m.hashes.length cm13, .slice Am14 m.route.length cm14]) ?_
 intro g1
 refine WR.done (WC.seq (WC.seq ?_))
 have hq := hn
 obtain ⟨g4_2, r4_2, m5_2, r5_2, m6_2, r6_2, hrow_2, ho0_2, ho1_2, ho2_2, ho3_2, ho4_2, ho5_2, -⟩ := hq
 intro w hw; have hw := hw.unfold (i := 1) rfl hrow_2
 refine WC.here (C := CC F Γ [_, _, _, _, _, _, _, _, _, _]) ?_ hw
 clear hw
 refine WC.dr (by kernel_rfl) (by kernel_rfl) (fun w hw => hw.drawn _) ?_
 refine zV (q_fl 7 fld_40_5) (k:=zV (ldV 4 isAgg3) (k:=zV q_neq (k:=zV moV (k:=wG1 (h:=fun hg3 => q_fl 7 fld_40_5) (k:=wG1 (h:=fun hg4 => ldV 4 isAgg3 (hx:=grV hg4)) (k:=wG1 (h:=fun hg5 => moV) (k:=wG1 (h:=fun hg6 => nlV (hv:=grV hg6)) (k:=?_))))))))
 refine wG1 (h:=fun hg7 => q_fl 2 fld_74_2 rfl (grV hg7)) (k:=wG1 (h:=fun hg8 => q_fl 3 fld_32_1 rfl (grV hg8)) (k:=wG1 (h:=fun hg9 => ldV 0 isAgg3 (hx:=grV hg9)) (k:=wG1 (h:=fun hg10 => q_neq rfl (grV hg10) (grV hg10)) (k:=zV pkA (k:=?_)))))
 refine WQ.nil ?_
 change WC _ _ _ _ _ _
 refine ciV h (fun hb11 h => ?_) (fun hb11 h => ?_)
 ·
  refine WC.seq ?_
  intro w hw; have h012 := hw.le
  refine WC.here (C := CC F Γ [_, _, _, _, _, _, _, _, _, _]) ?_ hw; clear hw
  refine held_ (CC F Γ [[(gn, .cells #[ii n.life, .pointer (some ⟨en.2, 0, none⟩), ii n.self_site, ii n.self_node, (pq g4_2), .map (some m5_2), .map (some m6_2)] en.1 (0, 0))], r4_2, r6_2, [(g1, .cells #[ii m.kind, ii m.from_.site, ii m.from_.node, ii m.to_.site, ii m.to_.node, ii m.id, ii m.n, ii m.for_, ii m.code, .string m.key, .slice Am10 m.recs.length cm10, .slice Am11 m.vec.length cm11, .slice Am12 m.path.length cm12, .slice Am13 m.hashes.length cm13, .slice Am14 m.route.length cm14] 40 (0, 0))], [(ganswer0, .cells #[(pq gn)] 27 (0, 0))], [(ganswer1, .cells #[ii answer1.kind, ii answer1.from_.site, ii answer1.from_.node, ii answer1.to_.site, ii answer1.to_.node, ii answer1.id, ii answer1.n, ii answer1.for_, ii answer1.code, .string answer1.key, .slice Aanswer1_10 answer1.recs.length canswer1_10, .slice Aanswer1_11 answer1.vec.length canswer1_11, .slice Aanswer1_12 answer1.path.length canswer1_12, .slice Aanswer1_13 answer1.hashes.length canswer1_13, .slice Aanswer1_14 answer1.route.length canswer1_14] 40 (0, 0))], [(ganswer2, .cells #[.slice Aanswer2v answer2v.length canswer2v] 34 (0, 0))]]) (bo_ [0, 0, 1, 1, 1, 1, 1] (Gh.refl _) h012) fun k => ?_
  change WH _ _ _ _ (CC F Γ [_, _, _, _, _, _, _, _, _, _]) _ 10 _ _
  refine hV 0 k (q:=moV) (k:=hV 1 k (q:=nlV) (k:=hV 2 k (q:=q_fl 5 fld_74_4) (k:=hV 3 k (q:=ldV 0 isAgg71) (k:=hV 4 k (q:=q_fl 7 fld_40_5) (k:=hV 5 k (q:=ldV 3 isAgg3) (k:=hV 7 k (q:=q_fl 10 fld_40_8) (k:=hV 8 k (q:=ldV 3 isAgg22) (k:=?_))))))))
  refine wl_ 6 rfl ?_
  obtain ⟨o13, hq14, h⟩ := bnd h
  obtain ⟨gs15, rM16, rA17, rS18, rB19, hat20, hsub21, hrow22, hm23, hback24⟩ := MapJ.part ho4_2 hq14
  have hm23 : Ostore_Store.ob (107, en.2) Γ gs15 rS18 o13 := hm23
  refine sV (q_lookup1r (v := (pq gs15)) (fun w hw p hp => hw.at_ (i := 2) rfl (by rw [hrow22]; exact List.mem_append.2 (.inl (hsub21 p hp)))) hat20 rfl underlying71 zeroValue68 rfl rfl) (k:=?_)
  intro w hw; have hw := hw.unfold (U := [rA17, rS18, rB19]) (i := 2) rfl (by rw [hrow22]; simp)
  refine WR.here (C := CC F Γ [_, _, _, _, _, _, _, _, _, _, _, _]) ?_ hw
  clear hw
  refine WR.nil ?_
  refine nxV (bo_ [3, 3, 3, 3, 3, 3, 3] (Gh.refl _) h012) fun k => ?_
  refine wl_ 9 rfl ?_
  obtain ⟨z25, hz26, h⟩ := bnd h
  refine ecV [1, 10] (caV call56) (fun w hp => t_node_lay hm23 hm.2.2.2.2.2.2.2.2.2.2.1.2 hm.2.2.2.2.2.2.2.2.2.2.1.1 hdk0 hp hz26) ?_
  rintro Γ27 U29 v30 hl28 ⟨row31, row33, rfl, rfl, hr32, hr34, hr35, _⟩
  refine cwV 29 [_, _, _, _, _, _, _, _, _, _, _, _] ?_
  refine WR.nil ?_
  refine nxV (bo_ [4, 4, 4, 4, 4, 4, 4] hl28 h012) fun k => ?_
  refine WH.done (by kernel_rfl) ?_
  change WC _ _ _ _ _ _
  refine WC.ret ?_
  intro w hw
  obtain ⟨row36, hrow37, hm38⟩ : ∃ rw : Rowb, rw = ([rA17, row31, rB19] : List Rowb).flatten ∧ MapJ (intK underlying3) (Ostore_Store.tob (107, en.2)) Γ27 rw m5_2 (mput m.for_ z25.1 n.hints) := ⟨_, rfl, by simpa using hback24 _ _ _ hl28 hr32⟩
  have hw := hw.fold (is := [2, 0, 1]) rfl hrow37
  obtain ⟨row_39, hrow_39, hob_39⟩ : ∃ rw : Rowb, rw = ([[(gn, .cells #[ii n.life, .pointer (some ⟨en.2, 0, none⟩), ii n.self_site, ii n.self_node, (pq g4_2), .map (some m5_2), .map (some m6_2)] en.1 (0, 0))], r4_2, row36, r6_2] : List Rowb).flatten ∧ Onode_Node.ob en Γ27 gn rw (⟨n.life, n.self_site, n.self_node, n.own, (mput m.for_ z25.1 n.hints), n.does⟩ : Onode_Node) := ⟨_, rfl, g4_2, r4_2, m5_2, row36, m6_2, r6_2, rfl, ho0_2, ho1_2, ho2_2, (ho3_2.mono hl28), hm38, (ho5_2.mono hl28), trivial⟩
  have hw := hw.fold (is := [2, 2, 0, 1]) rfl hrow_39
  obtain rfl := Option.some.inj h
  subst hF
  exact end_e (is := [0, 2, 2, 2, 2, 0]) (by kernel_rfl) hw rfl ⟨row_39, Aanswer2v, canswer2v, rowanswer2v, row33, rfl, rfl, hob_39, (hanswer2v.mono hl28), hr34, trivial⟩
 refine WC.skip (wc_ ?_)
 refine WC.seq (WC.seq ?_)
 intro w hw; have h040 := hw.le
 refine WC.here (C := CC F Γ [_, _, _, _, _, _, _, _, _, _]) ?_ hw; clear hw
 refine held_ (CC F Γ [[(gn, .cells #[ii n.life, .pointer (some ⟨en.2, 0, none⟩), ii n.self_site, ii n.self_node, (pq g4_2), .map (some m5_2), .map (some m6_2)] en.1 (0, 0))], r6_2, [(g1, .cells #[ii m.kind, ii m.from_.site, ii m.from_.node, ii m.to_.site, ii m.to_.node, ii m.id, ii m.n, ii m.for_, ii m.code, .string m.key, .slice Am10 m.recs.length cm10, .slice Am11 m.vec.length cm11, .slice Am12 m.path.length cm12, .slice Am13 m.hashes.length cm13, .slice Am14 m.route.length cm14] 40 (0, 0))], [(ganswer0, .cells #[(pq gn)] 27 (0, 0))], [(ganswer1, .cells #[ii answer1.kind, ii answer1.from_.site, ii answer1.from_.node, ii answer1.to_.site, ii answer1.to_.node, ii answer1.id, ii answer1.n, ii answer1.for_, ii answer1.code, .string answer1.key, .slice Aanswer1_10 answer1.recs.length canswer1_10, .slice Aanswer1_11 answer1.vec.length canswer1_11, .slice Aanswer1_12 answer1.path.length canswer1_12, .slice Aanswer1_13 answer1.hashes.length canswer1_13, .slice Aanswer1_14 answer1.route.length canswer1_14] 40 (0, 0))], [(ganswer2, .cells #[.slice Aanswer2v answer2v.length canswer2v] 34 (0, 0))]]) (bo_ [0, 2, 2, 2, 2, 2] (Gh.refl _) h040) fun k => ?_
 change WH _ _ _ _ (CC F Γ [_, _, _, _, _, _, _, _, _, _]) _ 8 _ _
 refine hV 0 k (q:=moV) (k:=hV 1 k (q:=nlV) (k:=hV 2 k (q:=q_fl 4 fld_74_3) (k:=hV 3 k (q:=ldV 0 isAgg68) (k:=hV 4 k (q:=q_fl 10 fld_40_8) (k:=hV 5 k (q:=ldV 2 isAgg22) (k:=wl_ 6 rfl ?_))))))
 obtain ⟨z41, hz42, h⟩ := bnd h
 refine ecV [1, 8] (caV call56) (fun w hp => t_node_lay ho3_2 hm.2.2.2.2.2.2.2.2.2.2.1.2 hm.2.2.2.2.2.2.2.2.2.2.1.1 hdk0 hp hz42) ?_
 rintro Γ43 U45 v46 hl44 ⟨row47, row49, rfl, rfl, hr48, hr50, hr51, _⟩
 refine cwV 36 [_, _, _, _, _, _, _, _, _, _] ?_
 refine WR.nil ?_
 refine nxV (bo_ [2, 3, 3, 3, 3, 3] hl44 h040) fun k => ?_
 refine hV 7 k (q:=aoV) (k:=?_)
 refine WH.done (by kernel_rfl) ?_
 change WC _ _ _ _ _ _
 refine WC.rs (mV (k:=sV q_neq (k:=WR.done ?_)))
 refine ciV h (fun hb52 h => ?_) (fun hb52 h => ?_)
 ·
  refine WC.rs (mU (v := .func (.func 41) #[] #[(pq ganswer0), (pq ganswer1), (pq ganswer2)]) (k:=mV (k:=sV (q_build' (v := .agg #[ii 3, ii 0, ii 0, ii 0, ii 0, ii 0, ii 0, ii 0, ii z41.2.2, .string ByteArray.empty, .slice none 0 0, .slice none 0 0, .slice none 0 0, .slice none 0 0, .slice none 0 0]) rfl (bargs2 rfl rfl) (fun w => by kernel_rfl)) (k:=?_))))
  obtain ⟨row_53, hrow_53, hob_53⟩ : ∃ rw : Rowb, rw = ([[(gn, .cells #[ii n.life, .pointer (some ⟨en.2, 0, none⟩), ii n.self_site, ii n.self_node, (pq g4_2), .map (some m5_2), .map (some m6_2)] en.1 (0, 0))], row47, r5_2, r6_2] : List Rowb).flatten ∧ Onode_Node.ob en Γ43 gn rw (⟨n.life, n.self_site, n.self_node, z41.1, n.hints, n.does⟩ : Onode_Node) := ⟨_, rfl, g4_2, row47, m5_2, r5_2, m6_2, r6_2, rfl, ho0_2, ho1_2, ho2_2, hr48, (ho4_2.mono hl44), (ho5_2.mono hl44), trivial⟩
  intro w hw; have hw := hw.fold (is := [2, 0, 1, 1]) rfl hrow_53
  refine WR.here (C := CC F Γ43 [_, _, _, _, _, _, _]) ?_ hw
  clear hw
  obtain ⟨z54, hz55, h⟩ := bnd h
  refine ecV [3, 0, 2, 2, 2] (call_run_fv (caps := #[(pq ganswer0), (pq ganswer1), (pq ganswer2)]) call41 rfl (by kernel_rfl) (by kernel_rfl)) (fun w hp => t_node_Node_Handle_1 (Aa10 := none) (ca10 := 0) (Aa11 := none) (ca11 := 0) (Aa12 := none) (ca12 := 0) (Aa13 := none) (ca13 := 0) (Aa14 := none) (ca14 := 0) (⟨3, (⟨0, 0⟩ : Adr), (⟨0, 0⟩ : Adr), 0, 0, 0, z41.2.2, ByteArray.empty, [], [], [], [], []⟩ : Dapi_Msg) ⟨(show I64 3 by decide), (show I64 0 by decide), (show I64 0 by decide), (show I64 0 by decide), (show I64 0 by decide), (show I64 0 by decide), (show I64 0 by decide), (show I64 0 by decide), hr51, (show (ByteArray.empty : ByteArray).size ≤ lim by decide), ⟨Nat.zero_le _, Sl.nil _ _ _⟩, ⟨Nat.zero_le _, Sl.nil _ _ _⟩, ⟨Nat.zero_le _, Sl.nil _ _ _⟩, ⟨Nat.zero_le _, Sl.nil _ _ _⟩, ⟨Nat.zero_le _, Sl.nil _ _ _⟩⟩ hob_53 answer1 (by exact (Dapi_Msg.fits_mono hanswer1 hl44)) (hanswer2v.mono hl44) hp hz55) ?_
  rintro Γ56 U58 v59 hl57 ⟨A60, c61, row62, rfl, rfl, hr63, _⟩
  refine cwV 42 [_, _, _, _, _, _, _] (WR.done ?_)
  exact WC.ret fun w hw => re_ r [1, 0, 0, 0, 0, 0] h hF hw ⟨row_53, A60, c61, row62, row49, rfl, rfl, (hob_53.mono hl57), hr63, (hr50.mono hl57), trivial⟩
 refine WC.skip (wc_ ?_)
 obtain ⟨row_64, hrow_64, hob_64⟩ : ∃ rw : Rowb, rw = ([[(gn, .cells #[ii n.life, .pointer (some ⟨en.2, 0, none⟩), ii n.self_site, ii n.self_node, (pq g4_2), .map (some m5_2), .map (some m6_2)] en.1 (0, 0))], row47, r5_2, r6_2] : List Rowb).flatten ∧ Onode_Node.ob en Γ43 gn rw (⟨n.life, n.self_site, n.self_node, z41.1, n.hints, n.does⟩ : Onode_Node) := ⟨_, rfl, g4_2, row47, m5_2, r5_2, m6_2, r6_2, rfl, ho0_2, ho1_2, ho2_2, hr48, (ho4_2.mono hl44), (ho5_2.mono hl44), trivial⟩
 intro w hw; have hw := hw.fold (is := [2, 0, 1, 1]) rfl hrow_64
 refine WC.here (C := CC F Γ43 [_, _, _, _, _, _, _]) ?_ hw
 clear hw
 have hq := hob_64
 obtain ⟨g4_65, r4_65, m5_65, r5_65, m6_65, r6_65, hrow_65, ho0_65, ho1_65, ho2_65, ho3_65, ho4_65, ho5_65, -⟩ := hq
 intro w hw; have hw := hw.unfold (i := 0) rfl hrow_65
 refine WC.here (C := CC F Γ43 [_, _, _, _, _, _, _, _, _, _]) ?_ hw
 clear hw
 intro w hw; have h066 := hw.le
 refine WC.here (C := CC F Γ43 [_, _, _, _, _, _, _, _, _, _]) ?_ hw; clear hw
 refine held_ (CC F Γ43 [[(gn, .cells #[ii (⟨n.life, n.self_site, n.self_node, z41.1, n.hints, n.does⟩ : Onode_Node).life, .pointer (some ⟨en.2, 0, none⟩), ii (⟨n.life, n.self_site, n.self_node, z41.1, n.hints, n.does⟩ : Onode_Node).self_site, ii (⟨n.life, n.self_site, n.self_node, z41.1, n.hints, n.does⟩ : Onode_Node).self_node, (pq g4_65), .map (some m5_65), .map (some m6_65)] en.1 (0, 0))], r4_65, r6_65, [(g1, .cells #[ii m.kind, ii m.from_.site, ii m.from_.node, ii m.to_.site, ii m.to_.node, ii m.id, ii m.n, ii m.for_, ii m.code, .string m.key, .slice Am10 m.recs.length cm10, .slice Am11 m.vec.length cm11, .slice Am12 m.path.length cm12, .slice Am13 m.hashes.length cm13, .slice Am14 m.route.length cm14] 40 (0, 0))]]) (bo_ [0, 0, 1, 2] (Gh.refl _) h066) fun k => ?_
 change WH _ _ _ _ (CC F Γ43 [_, _, _, _, _, _, _, _, _, _]) _ 10 _ _
 refine hV 0 k (q:=q_move (v := .func (.func 41) #[] #[(pq ganswer0), (pq ganswer1), (pq ganswer2)]) rfl (by kernel_rfl)) (k:=hV 1 k (q:=moV) (k:=hV 2 k (q:=nlV) (k:=hV 3 k (q:=q_fl 0 fld_74_0) (k:=hV 4 k (q:=ldV 0 isAgg2) (k:=hV 5 k (q:=q_fl 10 fld_40_8) (k:=hV 6 k (q:=ldV 3 isAgg22) (k:=wl_ 7 rfl ?_)))))))
 obtain ⟨z67, hz68, h⟩ := bnd h
 refine ecV [] (caV call57) (fun w hp => t_node_own (hm.2.2.2.2.2.2.2.2.2.2.1.2.mono hl44) hm.2.2.2.2.2.2.2.2.2.2.1.1 hp hz68) ?_
 rintro Γ69 U71 v72 hl70 ⟨A73, c74, row75, rfl, rfl, hr76, _⟩
 refine cwV 50 [_, _, _, _, _, _, _, _, _, _, _] ?_
 refine WR.nil ?_
 refine nxV (bo_ [1, 1, 2, 3] hl70 h066) fun k => ?_
 refine hV 8 k (q:=q_build' (v := .agg #[ii 2, ii 0, ii 0, ii 0, ii 0, ii 0, ii (⟨n.life, n.self_site, n.self_node, z41.1, n.hints, n.does⟩ : Onode_Node).life, ii 0, ii 0, .string ByteArray.empty, .slice A73 z67.length c74, .slice none 0 0, .slice none 0 0, .slice none 0 0, .slice none 0 0]) rfl (bargs3 rfl rfl rfl) (fun w => by kernel_rfl)) (k:=wl_ 9 rfl ?_)
 have hc81 := hr76.capz
 intro w hw; obtain ⟨Γ77, hw, hl78, hr79⟩ := hw.seal (i := 0) rfl; have hs80 := hr76.sl hl78 hr79
 refine WR.here (C := CC F Γ77 [_, _, _, _, _, _, _, _, _, _, _]) ?_ hw
 clear hw
 intro w hw; have hw := hw.fold (is := [1, 1, 1, 1]) rfl hrow_65
 refine WR.here (C := CC F Γ77 [_, _, _, _, _, _, _, _]) ?_ hw
 clear hw
 obtain ⟨z83, hz84, h⟩ := bnd h
 refine ecV [4, 0, 3, 3, 3] (call_run_fv (caps := #[(pq ganswer0), (pq ganswer1), (pq ganswer2)]) call41 rfl (by kernel_rfl) (by kernel_rfl)) (fun w hp => t_node_Node_Handle_1 (Aa11 := none) (ca11 := 0) (Aa12 := none) (ca12 := 0) (Aa13 := none) (ca13 := 0) (Aa14 := none) (ca14 := 0) (⟨2, (⟨0, 0⟩ : Adr), (⟨0, 0⟩ : Adr), 0, (⟨n.life, n.self_site, n.self_node, z41.1, n.hints, n.does⟩ : Onode_Node).life, 0, 0, ByteArray.empty, z67, [], [], [], []⟩ : Dapi_Msg) ⟨(show I64 2 by decide), (show I64 0 by decide), (show I64 0 by decide), (show I64 0 by decide), (show I64 0 by decide), (show I64 0 by decide), ho0_65, (show I64 0 by decide), (show I64 0 by decide), (show (ByteArray.empty : ByteArray).size ≤ lim by decide), ⟨hc81, hs80⟩, ⟨Nat.zero_le _, Sl.nil _ _ _⟩, ⟨Nat.zero_le _, Sl.nil _ _ _⟩, ⟨Nat.zero_le _, Sl.nil _ _ _⟩, ⟨Nat.zero_le _, Sl.nil _ _ _⟩⟩ (hob_64.mono (hl70.trans hl78)) answer1 (by exact (Dapi_Msg.fits_mono hanswer1 ((hl44.trans hl70).trans hl78))) (hanswer2v.mono ((hl44.trans hl70).trans hl78)) hp hz84) ?_
 rintro Γ85 U87 v88 hl86 ⟨A89, c90, row91, rfl, rfl, hr92, _⟩
 refine cwV 52 [_, _, _, _, _, _, _, _] ?_
 refine WR.nil ?_
 refine nxV (fun w hw => (hw.unfold (i := 1) rfl hrow_65).back ((hl70.trans hl78).trans hl86) h066 (.cons_cons _ (.cons_cons _ (.cons _ (.cons_cons _ (.cons _ (.cons _ (.cons _ (.cons _ (.cons _ (.cons _ (.cons_cons _ .slnil)))))))))))) fun k => ?_
 refine WH.done (by kernel_rfl) ?_
 intro w hw
 obtain rfl := Option.some.inj h
 subst hF
 exact end_e (is := [1, 0, 0, 0, 0, 1]) (by kernel_rfl) hw rfl ⟨row_64, A89, c90, row91, row49, rfl, rfl, (hob_64.mono ((hl70.trans hl78).trans hl86)), hr92, (hr50.mono ((hl70.trans hl78).trans hl86)), trivial⟩
theorem t_vers_Lacks {Γ : Gh} {w0 : World} {Aa : Option Addr} {ca : Nat} {a : List Ver} (ha : Sl verT Γ Aa a) (hac : a.length ≤ ca) {Ab : Option Addr} {cb : Nat} {b : List Ver} (hb : Sl verT Γ Ab b) (hbc : b.length ≤ cb) (hs : Sat Γ w0) {r : Bool} (h : m_vers_Lacks a b = some r) : Calls Tryz.prog 59 #[.slice Aa a.length ca, .slice Ab b.length cb] w0 (fun e w' => e = .returned (.bool r) ∧ Fr no w0 w') := by
 refine goq_ (n := 21) (rs := [4]) (args := [.slice Aa a.length ca, .slice Ab b.length cb]) func59 rfl ntmps59 results59 rfl hs fun F hF => ?_
 refine WC.rs (aV (k:=WR.done (WC.rs (mV (k:=mV (k:=?_))))))
 obtain ⟨z1, hz2, h⟩ := bnd h
 refine ecV [] (caV call95) (fun w hp => t_vers_Merge ha hac hb hbc hp hz2) ?_
 rintro Γ3 U5 v6 hl4 ⟨A7, c8, row9, rfl, rfl, hr10, hr11, _⟩
 refine cwV 10 [_] (mV (k:=sV exV (k:=sV exV (k:=aV (k:=aV (k:=WR.done (WC.rs ?_)))))))
 refine mV (k:=sV q_eql (k:=mV (k:=vG1 (h:=fun hg12 => moV) (k:=vG1 (h:=fun hg13 => moV) (k:=?_)))))
 obtain ⟨z15, hz16, h⟩ := bnd h
 refine vg1 rfl rfl rfl rfl rfl (fun hg14 => (q_call (call_run call96 rfl rfl (args2 (grV hg14) (grV hg14))) (fun w hw => t_vers_Same (Γ := Gh.all w) (hr10.sl hw.sat.le_all (hw.ra 0 rfl)) hr10.capz ((ha.mono hl4).mono hw.sat.le_all) hac (Sat.all w) (gc_of hz16 hg14)))) (vG1 (h:=fun hg17 => q_not rfl (grV hg17)) (k:=sV pkA (k:=aV (k:=WR.done ?_))))
 exact WC.ret fun w hw => rq_ r h hF hw
abbrev r_node_Node_done (gn : Nat) (en : Nat × Nat) (ga20 : Nat) (ga21 : Nat) (Aa21_10 : Option Addr) (ca21_10 : Nat) (Aa21_11 : Option Addr) (ca21_11 : Nat) (Aa21_12 : Option Addr) (ca21_12 : Nat) (Aa21_13 : Option Addr) (ca21_13 : Nat) (Aa21_14 : Option Addr) (ca21_14 : Nat) (a21 : Dapi_Msg) (ga22 : Nat) (Aa22v : Option Addr) (ca22v : Nat) (a22v : List Dapi_Msg) (rowa22v : Rowb) (edk0 : Nat) (r : Onode_Node × Odisk_Disk) (U : List Rowb) (Γ : Gh) (v : Value) : Prop := ∃ (rown' : Rowb), ∃ (rowdk0' : Rowb), v = .tuple #[] ∧ U = [rown', [(ga20, .cells #[.pointer (some ⟨gn, 0, none⟩)] 27 (0, 0))], [(ga21, .cells #[.int .i64 a21.kind, .int .i64 a21.from_.site, .int .i64 a21.from_.node, .int .i64 a21.to_.site, .int .i64 a21.to_.node, .int .i64 a21.id, .int .i64 a21.n, .int .i64 a21.for_, .int .i64 a21.code, .string a21.key, .slice Aa21_10 a21.recs.length ca21_10, .slice Aa21_11 a21.vec.length ca21_11, .slice Aa21_12 a21.path.length ca21_12, .slice Aa21_13 a21.hashes.length ca21_13, .slice Aa21_14 a21.route.length ca21_14] 40 (0, 0))], [(ga22, .cells #[.slice Aa22v a22v.length ca22v] 34 (0, 0))], rowa22v, rowdk0'] ∧ Onode_Node.ob en Γ gn rown' r.1 ∧ Odisk_Disk.ob edk0 Γ en.2 rowdk0' r.2 ∧ True
theorem t_node_Node_done {Γ : Gh} {w0 : World} {gn : Nat} {en : Nat × Nat} {rown : Rowb} {n : Onode_Node} (hn : Onode_Node.ob en Γ gn rown n) {Am10 : Option Addr} {cm10 : Nat} {Am11 : Option Addr} {cm11 : Nat} {Am12 : Option Addr} {cm12 : Nat} {Am13 : Option Addr} {cm13 : Nat} {Am14 : Option Addr} {cm14 : Nat} (m : Dapi_Msg) (hm : Dapi_Msg.fits Γ Am10 cm10 Am11 cm11 Am12 cm12 Am13 cm13 Am14 cm14 m) {ga20 : Nat}  {ga21 : Nat} {Aa21_10 : Option Addr} {ca21_10 : Nat} {Aa21_11 : Option Addr} {ca21_11 : Nat} {Aa21_12 : Option Addr} {ca21_12 : Nat} {Aa21_13 : Option Addr} {ca21_13 : Nat} {Aa21_14 : Option Addr} {ca21_14 : Nat} (a21 : Dapi_Msg) (ha21 : Dapi_Msg.fits Γ Aa21_10 ca21_10 Aa21_11 ca21_11 Aa21_12 ca21_12 Aa21_13 ca21_13 Aa21_14 ca21_14 a21) {ga22 : Nat} {Aa22v : Option Addr} {ca22v : Nat} {rowa22v : Rowb} {a22v : List Dapi_Msg} (ha22v : Own dapi_MsgT Γ 40 rowa22v Aa22v ca22v a22v) {edk0 : Nat} {rowdk0 : Rowb} {dk0 : Odisk_Disk} (hdk0 : Odisk_Disk.ob edk0 Γ en.2 rowdk0 dk0) (hp : Pre [rown, [(ga20, .cells #[(pq gn)] 27 (0, 0))], [(ga21, .cells #[ii a21.kind, ii a21.from_.site, ii a21.from_.node, ii a21.to_.site, ii a21.to_.node, ii a21.id, ii a21.n, ii a21.for_, ii a21.code, .string a21.key, .slice Aa21_10 a21.recs.length ca21_10, .slice Aa21_11 a21.vec.length ca21_11, .slice Aa21_12 a21.path.length ca21_12, .slice Aa21_13 a21.hashes.length ca21_13, .slice Aa21_14 a21.route.length ca21_14] 40 (0, 0))], [(ga22, .cells #[.slice Aa22v a22v.length ca22v] 34 (0, 0))], rowa22v, rowdk0] Γ w0) {r : Onode_Node × Odisk_Disk} (h : m_node_Node_done n m a21 a22v dk0 = some r) : Calls Tryz.prog 33 #[(pq gn), .agg #[ii m.kind, ii m.from_.site, ii m.from_.node, ii m.to_.site, ii m.to_.node, ii m.id, ii m.n, ii m.for_, ii m.code, .string m.key, .slice Am10 m.recs.length cm10, .slice Am11 m.vec.length cm11, .slice Am12 m.path.length cm12, .slice Am13 m.hashes.length cm13, .slice Am14 m.route.length cm14], .func (.func 41) #[] #[(pq ga20), (pq ga21), (pq ga22)]] w0 (Outc Γ [rown, [(ga20, .cells #[(pq gn)] 27 (0, 0))], [(ga21, .cells #[ii a21.kind, ii a21.from_.site, ii a21.from_.node, ii a21.to_.site, ii a21.to_.node, ii a21.id, ii a21.n, ii a21.for_, ii a21.code, .string a21.key, .slice Aa21_10 a21.recs.length ca21_10, .slice Aa21_11 a21.vec.length ca21_11, .slice Aa21_12 a21.path.length ca21_12, .slice Aa21_13 a21.hashes.length ca21_13, .slice Aa21_14 a21.route.length ca21_14] 40 (0, 0))], [(ga22, .cells #[.slice Aa22v a22v.length ca22v] 34 (0, 0))], rowa22v, rowdk0] w0 (r_node_Node_done gn en ga20 ga21 Aa21_10 ca21_10 Aa21_11 ca21_11 Aa21_12 ca21_12 Aa21_13 ca21_13 Aa21_14 ca21_14 a21 ga22 Aa22v ca22v a22v rowa22v edk0 r)) := by
 refine go_ (n := 47) (rs := []) (args := [(pq gn), .agg #[ii m.kind, ii m.from_.site, ii m.from_.node, ii m.to_.site, ii m.to_.node, ii m.id, ii m.n, ii m.for_, ii m.code, .string m.key, .slice Am10 m.recs.length cm10, .slice Am11 m.vec.length cm11, .slice Am12 m.path.length cm12, .slice Am13 m.hashes.length cm13, .slice Am14 m.route.length cm14], .func (.func 41) #[] #[(pq ga20), (pq ga21), (pq ga22)]]) func33 rfl ntmps33 results33 rfl hp fun F hF => ?_
 refine WC.rs ?_
 refine bxV (v := .agg #[ii m.kind, ii m.from_.site, ii m.from_.node, ii m.to_.site, ii m.to_.node, ii m.id, ii m.n, ii m.for_, ii m.code, .string m.key, .slice Am10 m.recs.length cm10, .slice Am11 m.vec.length cm11, .slice Am12 m.path.length cm12, .slice Am13 m.hashes.length cm13, .slice Am14 m.route.length cm14]) ?_
 intro g1
 refine WR.done (WC.seq ?_)
 intro w hw; have h02 := hw.le
 refine WC.here (C := CC F Γ [_, _, _, _, _, _, _]) ?_ hw; clear hw
 refine held_ (CC F Γ [[(g1, .cells #[ii m.kind, ii m.from_.site, ii m.from_.node, ii m.to_.site, ii m.to_.node, ii m.id, ii m.n, ii m.for_, ii m.code, .string m.key, .slice Am10 m.recs.length cm10, .slice Am11 m.vec.length cm11, .slice Am12 m.path.length cm12, .slice Am13 m.hashes.length cm13, .slice Am14 m.route.length cm14] 40 (0, 0))], [(ga20, .cells #[(pq gn)] 27 (0, 0))], [(ga21, .cells #[ii a21.kind, ii a21.from_.site, ii a21.from_.node, ii a21.to_.site, ii a21.to_.node, ii a21.id, ii a21.n, ii a21.for_, ii a21.code, .string a21.key, .slice Aa21_10 a21.recs.length ca21_10, .slice Aa21_11 a21.vec.length ca21_11, .slice Aa21_12 a21.path.length ca21_12, .slice Aa21_13 a21.hashes.length ca21_13, .slice Aa21_14 a21.route.length ca21_14] 40 (0, 0))], [(ga22, .cells #[.slice Aa22v a22v.length ca22v] 34 (0, 0))]]) (bo_ [0, 1, 1, 1] (Gh.refl _) h02) fun k => ?_
 change WH _ _ _ _ (CC F Γ [_, _, _, _, _, _, _]) _ 9 _ _
 refine hV 0 k (q:=moV) (k:=hV 1 k (q:=nlV) (k:=hV 2 k (q:=q_fl 5 fld_74_4) (k:=hV 4 k (q:=q_fl 1 fld_40_1) (k:=hV 5 k (q:=q_fl 2 fld_32_1) (k:=hV 6 k (q:=ldV 0 isAgg3) (k:=wl_ 3 rfl ?_))))))
 have hq := hn
 obtain ⟨g4_3, r4_3, m5_3, r5_3, m6_3, r6_3, hrow_3, ho0_3, ho1_3, ho2_3, ho3_3, ho4_3, ho5_3, -⟩ := hq
 intro w hw; have hw := hw.unfold (i := 1) rfl hrow_3
 refine WR.here (C := CC F Γ [_, _, _, _, _, _, _, _, _, _]) ?_ hw
 clear hw
 refine sV (ldV 0 isAgg71) (k:=?_)
 refine WR.nil ?_
 refine nxV (bo_ [4, 4, 4, 4] (Gh.refl _) h02) fun k => ?_
 refine wl_ 7 rfl ?_
 obtain hq5 | ⟨o4, hq5⟩ := opt_or (mget m.from_.node n.hints)
 ·
  have h := optm_n hq5 h
  obtain ⟨rM6, hat7, hsub8⟩ := MapJ.no ho4_3 hq5
  refine sV (q_lookup1r (v := .pointer none) (fun w hw p hp => hw.at_ (i := 2) rfl (hsub8 p hp)) hat7 rfl underlying71 zeroValue68 rfl rfl) (k:=?_)
  refine WR.nil ?_
  refine nxV (bo_ [4, 4, 4, 4] (Gh.refl _) h02) fun k => ?_
  refine hV 8 k (q:=aoV) (k:=?_)
  refine WH.done (by kernel_rfl) ?_
  change WC _ _ _ _ _ _
  refine WC.seq (WC.rs (mV (k:=sV (q_ptr_eql (a := none) underlying68 rfl rfl rfl) (k:=WR.done ?_))))
  refine WC.ctk (b := true) (by kernel_rfl) rfl ?_
  refine WC.ret ?_
  intro w hw
  have hw := hw.fold (is := [0, 0, 0, 0]) rfl hrow_3
  exact re_ r [0, 1, 1, 1, 1, 1] h hF hw ⟨rown, rowdk0, rfl, rfl, hn, hdk0, trivial⟩
 have h := optm_s hq5 h
 obtain ⟨gs10, rM11, rA12, rS13, rB14, hat15, hsub16, hrow17, hm18, hback19⟩ := MapJ.part ho4_3 hq5
 have hm18 : Ostore_Store.ob (107, en.2) Γ gs10 rS13 o4 := hm18
 refine sV (q_lookup1r (v := (pq gs10)) (fun w hw p hp => hw.at_ (i := 2) rfl (by rw [hrow17]; exact List.mem_append.2 (.inl (hsub16 p hp)))) hat15 rfl underlying71 zeroValue68 rfl rfl) (k:=?_)
 intro w hw; have hw := hw.unfold (U := [rA12, rS13, rB14]) (i := 2) rfl (by rw [hrow17]; simp)
 refine WR.here (C := CC F Γ [_, _, _, _, _, _, _, _, _, _, _, _]) ?_ hw
 clear hw
 refine WR.nil ?_
 refine nxV (bo_ [6, 6, 6, 6] (Gh.refl _) h02) fun k => ?_
 refine hV 8 k (q:=aoV) (k:=?_)
 refine WH.done (by kernel_rfl) ?_
 change WC _ _ _ _ _ _
 refine WC.seq (WC.rs (mV (k:=sV (q_ptr_eql (a := some ⟨gs10, 0, none⟩) underlying68 rfl rfl rfl) (k:=WR.done ?_))))
 refine WC.cfk (b := false) (by kernel_rfl) rfl ?_
 refine WC.skip (wc_ ?_)
 refine WC.rs (sV (q_fl 10 fld_40_8) (k:=sV (ldV 6 isAgg22) (k:=sV (q_len_slice rfl underlying22) (k:=mV (k:=WR.done (WC.block ?_))))))
 refine WC.forI h (fun (i29 : Nat) (s : Ostore_Store × Odisk_Disk) σ w => match s with | (o22, o25) => ∃ (Γ20 : Gh), ∃ (row23 : Rowb), ∃ (row26 : Rowb), slots σ [(6, (pq gs10)), (21, .slice Am10 m.recs.length cm10), (22, ii ((m.recs.length : Nat) : Int)), (23, ii ((i29 : Nat) : Int))] ∧ CC F Γ20 [rA12, row23, rB14, [(gn, .cells #[ii n.life, .pointer (some ⟨en.2, 0, none⟩), ii n.self_site, ii n.self_node, (pq g4_3), .map (some m5_3), .map (some m6_3)] en.1 (0, 0))], r4_3, r6_3, [(ga20, .cells #[(pq gn)] 27 (0, 0))], [(ga21, .cells #[ii a21.kind, ii a21.from_.site, ii a21.from_.node, ii a21.to_.site, ii a21.to_.node, ii a21.id, ii a21.n, ii a21.for_, ii a21.code, .string a21.key, .slice Aa21_10 a21.recs.length ca21_10, .slice Aa21_11 a21.vec.length ca21_11, .slice Aa21_12 a21.path.length ca21_12, .slice Aa21_13 a21.hashes.length ca21_13, .slice Aa21_14 a21.route.length ca21_14] 40 (0, 0))], [(ga22, .cells #[.slice Aa22v a22v.length ca22v] 34 (0, 0))], rowa22v, row26] w ∧ Gh.le Γ Γ20 ∧ Ostore_Store.ob (107, en.2) Γ20 gs10 row23 o22 ∧ Odisk_Disk.ob edk0 Γ20 en.2 row26 o25 ∧ True) ?_ ?_
 ·
  intro w hw
  exact ⟨Γ, rS13, rowdk0, (sl_ (by kernel_rfl)), (hw.only (is := [0, 0, 0, 0, 0, 0, 1, 1, 1, 1, 1]) rfl), (Gh.refl _), hm18, hdk0, trivial⟩
 rintro f28 i29 ⟨o22, o25⟩ σ w hi30 hlt31 hge32 ⟨Γ20, row23, row26, hsl, hw, hl21, ho24, ho27, -⟩
 refine Wpt.slots hsl ?_
 refine WC.here (C := CC F Γ20 [_, _, _, _, _, _, _, _, _, _, _]) ?_ hw
 clear hw hsl
 refine WC.rs (sV q_lss (k:=WR.done (WC.seq ?_)))
 refine WC.cond (b := (decide (((i29 : Nat) : Int) < ((m.recs.length : Nat) : Int)))) (by kernel_rfl) (fun hb33 => ?_) (fun hb33 => ?_)
 ·
  have hl34 := ilt hb33
  have h := hlt31 hl34
  refine WC.skip (wc_ ?_)
  refine WC.cut (fun σ w => ∃ (o37 : Ostore_Store), ∃ (o40 : Odisk_Disk), ∃ (Γ35 : Gh), ∃ (row38 : Rowb), ∃ (row41 : Rowb), m_node_Node_done_j5 f28 o37 o40 = some r ∧ slots σ [(6, (pq gs10)), (21, .slice Am10 m.recs.length cm10), (22, ii ((m.recs.length : Nat) : Int)), (23, ii ((i29 : Nat) : Int))] ∧ CC F Γ35 [rA12, row38, rB14, [(gn, .cells #[ii n.life, .pointer (some ⟨en.2, 0, none⟩), ii n.self_site, ii n.self_node, (pq g4_3), .map (some m5_3), .map (some m6_3)] en.1 (0, 0))], r4_3, r6_3, [(ga20, .cells #[(pq gn)] 27 (0, 0))], [(ga21, .cells #[ii a21.kind, ii a21.from_.site, ii a21.from_.node, ii a21.to_.site, ii a21.to_.node, ii a21.id, ii a21.n, ii a21.for_, ii a21.code, .string a21.key, .slice Aa21_10 a21.recs.length ca21_10, .slice Aa21_11 a21.vec.length ca21_11, .slice Aa21_12 a21.path.length ca21_12, .slice Aa21_13 a21.hashes.length ca21_13, .slice Aa21_14 a21.route.length ca21_14] 40 (0, 0))], [(ga22, .cells #[.slice Aa22v a22v.length ca22v] 34 (0, 0))], rowa22v, row41] w ∧ Gh.le Γ20 Γ35 ∧ Ostore_Store.ob (107, en.2) Γ35 gs10 row38 o37 ∧ Odisk_Disk.ob edk0 Γ35 en.2 row41 o40 ∧ True) ?_ ?_
  ·
   refine WC.block (WC.rs (sV (q_ixn (i := i29) underlying22 sizeOf45 rfl rfl rfl hl34 ((hm.2.2.2.2.2.2.2.2.2.2.1.2.mono hl21).some_ hl34)) (k:=?_)))
   obtain ⟨A43, c44, hx45⟩ := (hm.2.2.2.2.2.2.2.2.2.2.1.2.mono hl21).recT_at i29
   refine sV (q_lda (c := 0) (vs := [.string (gt m.recs i29).key, .slice A43 ((gt m.recs i29).vers).length c44]) (hx45 hl34).2 rfl isAgg45 sizeOf45 rfl rfl rfl) (k:=?_)
   refine alV zeroValue45 ?_
   intro g46
   refine stV 0 (.agg #[.string (gt m.recs i29).key, .slice A43 ((gt m.recs i29).vers).length c44]) #[.string (gt m.recs i29).key, .slice A43 ((gt m.recs i29).vers).length c44] sizeOf45 (k:=WR.done (WC.rs (mV (k:=sV (q_fl 0 fld_45_0) (k:=sV (ldV 0 isAgg9) (k:=?_))))))
   obtain ⟨z47, hz48, h⟩ := bnd h
   refine ecV [2] (caV call58) (fun w hp => t_store_Store_Get ho24 ((gt m.recs i29).key) (hx45 hl34).1.1 hp hz48) ?_
   rintro Γ49 U51 v52 hl50 ⟨A53, c54, rfl, rfl, hc56, hr55, _⟩
   refine cwV 30 [_, _, _, _, _, _, _, _, _, _, _, _] (aV (k:=WR.done (WC.rs (mV (k:=sV (q_len_slice rfl underlying43) (k:=sV q_gtr (k:=mV (k:=?_))))))))
   refine vG1 (h:=fun hg57 => q_fl 1 fld_45_1) (k:=vG1 (h:=fun hg58 => ldV 1 isAgg43 (hx:=grV hg58)) (k:=vG1 (h:=fun hg59 => moV) (k:=?_)))
   obtain ⟨z61, hz62, h⟩ := bnd h
   refine vg1 rfl rfl rfl rfl rfl (fun hg60 => (q_call (call_run call59 rfl rfl (args2 (grV hg60) (grV hg60))) (fun w hw => t_vers_Lacks (Γ := Gh.all w) (((hx45 hl34).1.2.2.mono hl50).mono hw.sat.le_all) (hx45 hl34).1.2.1 (hr55.mono hw.sat.le_all) hc56 (Sat.all w) (gc_of hz62 hg60)))) (vG1 (h:=fun hg63 => q_not rfl (grV hg63)) (k:=sV pkA (k:=WR.done ?_)))
   refine ciV h (fun hb64 h => ?_) (fun hb64 h => ?_)
   ·
    refine WC.region ?_
    refine mV (k:=sV (q_fl 0 fld_45_0) (k:=sV (ldV 1 isAgg9) (k:=sV (q_build' (v := .agg #[.string (gt m.recs i29).key, .slice none 0 0]) rfl (bargs1 rfl) (fun w => by kernel_rfl)) (k:=?_))))
    obtain ⟨z65, hz66, h⟩ := bnd h
    refine ecV [0, 10] (caV call60) (fun w hp => t_store_Store_Put (ho24.mono hl50) (Ar_1 := none) (cr_1 := 0) (⟨(gt m.recs i29).key, []⟩ : Rec) ⟨(hx45 hl34).1.1, ⟨Nat.zero_le _, Sl.nil _ _ _⟩⟩ (ho27.mono hl50) hp hz66) ?_
    rintro Γ67 U69 v70 hl68 ⟨row71, row73, rfl, rfl, hr72, hr74, hr75, _⟩
    refine cwV 45 [_, _, _, _, _, _, _, _, _, _, _, _] ?_
    refine WR.nil ?_
    intro w hw
    exact ⟨z65.1, z65.2.1, Γ67, row71, row73, h, (sl_ (by kernel_rfl)), (hw.only (is := [3, 0, 2, 2, 2, 2, 2, 2, 2, 2, 0]) rfl), (hl50.trans hl68), hr72, hr74, trivial⟩
   refine WC.skip ?_
   intro w hw
   exact ⟨o22, o25, Γ49, row23, row26, h, (sl_ (by kernel_rfl)), (hw.only (is := [2, 0, 1, 1, 1, 1, 1, 1, 1, 1, 1]) rfl), hl50, (ho24.mono hl50), (ho27.mono hl50), trivial⟩
  rintro σ w ⟨o37, o40, Γ35, row38, row41, h, hsl, hw, hl36, ho39, ho42, -⟩
  refine Wpt.slots hsl ?_
  refine WC.here (C := CC F Γ35 [_, _, _, _, _, _, _, _, _, _, _]) ?_ hw
  clear hw hsl
  refine WC.region ?_
  refine sV (q_add_r (r := ((i29 + 1 : Nat) : Int)) rfl rfl rfl (ctr_len hl34 (hm.2.2.2.2.2.2.2.2.2.2.1.2.mono hl21).le)) (k:=mV (k:=?_))
  refine WR.nil ?_
  intro w hw
  exact ⟨hl34, (o37, o40), h, Γ35, row38, row41, (sl_ (by kernel_rfl)), hw, (hl21.trans hl36), ho39, ho42, trivial⟩
 have h := hge32 (ige hb33)
 refine WC.exit ?_
 intro w hw
 obtain ⟨row76, hrow77, hm78⟩ : ∃ rw : Rowb, rw = ([rA12, row23, rB14] : List Rowb).flatten ∧ MapJ (intK underlying3) (Ostore_Store.tob (107, en.2)) Γ20 rw m5_3 (mput m.from_.node o22 n.hints) := ⟨_, rfl, by simpa using hback19 _ _ _ hl21 ho24⟩
 have hw := hw.fold (is := [0, 0, 0]) rfl hrow77
 obtain ⟨row_79, hrow_79, hob_79⟩ : ∃ rw : Rowb, rw = ([[(gn, .cells #[ii n.life, .pointer (some ⟨en.2, 0, none⟩), ii n.self_site, ii n.self_node, (pq g4_3), .map (some m5_3), .map (some m6_3)] en.1 (0, 0))], r4_3, row76, r6_3] : List Rowb).flatten ∧ Onode_Node.ob en Γ20 gn rw (⟨n.life, n.self_site, n.self_node, n.own, (mput m.from_.node o22 n.hints), n.does⟩ : Onode_Node) := ⟨_, rfl, g4_3, r4_3, m5_3, row76, m6_3, r6_3, rfl, ho0_3, ho1_3, ho2_3, (ho3_3.mono hl21), hm78, (ho5_3.mono hl21), trivial⟩
 have hw := hw.fold (is := [1, 1, 0, 0]) rfl hrow_79
 obtain rfl := Option.some.inj h
 subst hF
 exact end_e (is := [0, 0, 0, 0, 0, 0]) (by kernel_rfl) hw rfl ⟨row_79, row26, rfl, rfl, hob_79, ho27, trivial⟩
abbrev r_node_Node_Intact (gn : Nat) (en : Nat × Nat) (rown : Rowb) (edk0 : Nat) (rowdk0 : Rowb) (r : Bool) (U : List Rowb) (Γ : Gh) (v : Value) : Prop := v = .bool r ∧ U = [rown, rowdk0] ∧ True
theorem t_node_Node_Intact {Γ : Gh} {w0 : World} {gn : Nat} {en : Nat × Nat} {rown : Rowb} {n : Onode_Node} (hn : Onode_Node.ob en Γ gn rown n) {edk0 : Nat} {rowdk0 : Rowb} {dk0 : Odisk_Disk} (hdk0 : Odisk_Disk.ob edk0 Γ en.2 rowdk0 dk0) (hp : Pre [rown, rowdk0] Γ w0) {r : Bool} (h : m_node_Node_Intact n dk0 = some r) : Calls Tryz.prog 12 #[(pq gn)] w0 (Outc Γ [rown, rowdk0] w0 (r_node_Node_Intact gn en rown edk0 rowdk0 r)) := by
 refine go_ (n := 14) (rs := [2]) (args := [(pq gn)]) func12 rfl ntmps12 results12 rfl hp fun F hF => ?_
 refine WC.rs (aV (k:=WR.done (WC.rs (mV (k:=sV nlV (k:=sV (q_fl 1 fld_74_1) (k:=?_)))))))
 have hq := hn
 obtain ⟨g4_1, r4_1, m5_1, r5_1, m6_1, r6_1, hrow_1, ho0_1, ho1_1, ho2_1, ho3_1, ho4_1, ho5_1, -⟩ := hq
 intro w hw; have hw := hw.unfold (i := 0) rfl hrow_1
 refine WR.here (C := CC F Γ [_, _, _, _, _]) ?_ hw
 clear hw
 refine sV (ldV 0 isAgg25) (k:=?_)
 obtain ⟨z2, hz3, h⟩ := bnd h
 refine ecV [4] (caV call39) (fun w hp => t_disk_Disk_Read hdk0 (⟨#[111, 107]⟩ : ByteArray) (show (⟨#[111, 107]⟩ : ByteArray).size ≤ lim by decide) hp hz3) ?_
 rintro Γ4 U6 v7 hl5 ⟨A8, c9, row10, rfl, rfl, hr11, _⟩
 refine cwV 10 [_, _, _, _, _, _] (mV (k:=sV exV (k:=sV exV (k:=aV (k:=aV (k:=WR.done (WC.rs ?_)))))))
 refine mV (k:=aV (k:=WR.done ?_))
 refine WC.ret ?_
 intro w hw
 have hw := hw.fold (is := [2, 2, 2, 2]) rfl hrow_1
 exact re_ r [0, 0] h hF hw ⟨rfl, rfl, trivial⟩
abbrev r_node_Node_get (gn : Nat) (en : Nat × Nat) (rown : Rowb) (ganswer0 : Nat) (ganswer1 : Nat) (Aanswer1_10 : Option Addr) (canswer1_10 : Nat) (Aanswer1_11 : Option Addr) (canswer1_11 : Nat) (Aanswer1_12 : Option Addr) (canswer1_12 : Nat) (Aanswer1_13 : Option Addr) (canswer1_13 : Nat) (Aanswer1_14 : Option Addr) (canswer1_14 : Nat) (answer1 : Dapi_Msg) (ganswer2 : Nat) (Aanswer2v : Option Addr) (canswer2v : Nat) (answer2v : List Dapi_Msg) (rowanswer2v : Rowb) (edk0 : Nat) (rowdk0 : Rowb) (r : List Dapi_Msg) (U : List Rowb) (Γ : Gh) (v : Value) : Prop := ∃ (Aanswer2_0 : Option Addr), ∃ (canswer2_0 : Nat), ∃ (rowanswer2_0 : Rowb), v = .tuple #[] ∧ U = [rown, [(ganswer0, .cells #[.pointer (some ⟨gn, 0, none⟩)] 27 (0, 0))], [(ganswer1, .cells #[.int .i64 answer1.kind, .int .i64 answer1.from_.site, .int .i64 answer1.from_.node, .int .i64 answer1.to_.site, .int .i64 answer1.to_.node, .int .i64 answer1.id, .int .i64 answer1.n, .int .i64 answer1.for_, .int .i64 answer1.code, .string answer1.key, .slice Aanswer1_10 answer1.recs.length canswer1_10, .slice Aanswer1_11 answer1.vec.length canswer1_11, .slice Aanswer1_12 answer1.path.length canswer1_12, .slice Aanswer1_13 answer1.hashes.length canswer1_13, .slice Aanswer1_14 answer1.route.length canswer1_14] 40 (0, 0))], [(ganswer2, .cells #[.slice Aanswer2_0 r.length canswer2_0] 34 (0, 0))], rowanswer2_0, rowdk0] ∧ Own dapi_MsgT Γ 40 rowanswer2_0 Aanswer2_0 canswer2_0 r ∧ True
theorem t_node_Node_get {Γ : Gh} {w0 : World} {gn : Nat} {en : Nat × Nat} {rown : Rowb} {n : Onode_Node} (hn : Onode_Node.ob en Γ gn rown n) {Am10 : Option Addr} {cm10 : Nat} {Am11 : Option Addr} {cm11 : Nat} {Am12 : Option Addr} {cm12 : Nat} {Am13 : Option Addr} {cm13 : Nat} {Am14 : Option Addr} {cm14 : Nat} (m : Dapi_Msg) (hm : Dapi_Msg.fits Γ Am10 cm10 Am11 cm11 Am12 cm12 Am13 cm13 Am14 cm14 m) {ganswer0 : Nat}  {ganswer1 : Nat} {Aanswer1_10 : Option Addr} {canswer1_10 : Nat} {Aanswer1_11 : Option Addr} {canswer1_11 : Nat} {Aanswer1_12 : Option Addr} {canswer1_12 : Nat} {Aanswer1_13 : Option Addr} {canswer1_13 : Nat} {Aanswer1_14 : Option Addr} {canswer1_14 : Nat} (answer1 : Dapi_Msg) (hanswer1 : Dapi_Msg.fits Γ Aanswer1_10 canswer1_10 Aanswer1_11 canswer1_11 Aanswer1_12 canswer1_12 Aanswer1_13 canswer1_13 Aanswer1_14 canswer1_14 answer1) {ganswer2 : Nat} {Aanswer2v : Option Addr} {canswer2v : Nat} {rowanswer2v : Rowb} {answer2v : List Dapi_Msg} (hanswer2v : Own dapi_MsgT Γ 40 rowanswer2v Aanswer2v canswer2v answer2v) {edk0 : Nat} {rowdk0 : Rowb} {dk0 : Odisk_Disk} (hdk0 : Odisk_Disk.ob edk0 Γ en.2 rowdk0 dk0) (hp : Pre [rown, [(ganswer0, .cells #[(pq gn)] 27 (0, 0))], [(ganswer1, .cells #[ii answer1.kind, ii answer1.from_.site, ii answer1.from_.node, ii answer1.to_.site, ii answer1.to_.node, ii answer1.id, ii answer1.n, ii answer1.for_, ii answer1.code, .string answer1.key, .slice Aanswer1_10 answer1.recs.length canswer1_10, .slice Aanswer1_11 answer1.vec.length canswer1_11, .slice Aanswer1_12 answer1.path.length canswer1_12, .slice Aanswer1_13 answer1.hashes.length canswer1_13, .slice Aanswer1_14 answer1.route.length canswer1_14] 40 (0, 0))], [(ganswer2, .cells #[.slice Aanswer2v answer2v.length canswer2v] 34 (0, 0))], rowanswer2v, rowdk0] Γ w0) {r : List Dapi_Msg} (h : m_node_Node_get n m answer1 answer2v dk0 = some r) : Calls Tryz.prog 34 #[(pq gn), .agg #[ii m.kind, ii m.from_.site, ii m.from_.node, ii m.to_.site, ii m.to_.node, ii m.id, ii m.n, ii m.for_, ii m.code, .string m.key, .slice Am10 m.recs.length cm10, .slice Am11 m.vec.length cm11, .slice Am12 m.path.length cm12, .slice Am13 m.hashes.length cm13, .slice Am14 m.route.length cm14], .func (.func 41) #[] #[(pq ganswer0), (pq ganswer1), (pq ganswer2)]] w0 (Outc Γ [rown, [(ganswer0, .cells #[(pq gn)] 27 (0, 0))], [(ganswer1, .cells #[ii answer1.kind, ii answer1.from_.site, ii answer1.from_.node, ii answer1.to_.site, ii answer1.to_.node, ii answer1.id, ii answer1.n, ii answer1.for_, ii answer1.code, .string answer1.key, .slice Aanswer1_10 answer1.recs.length canswer1_10, .slice Aanswer1_11 answer1.vec.length canswer1_11, .slice Aanswer1_12 answer1.path.length canswer1_12, .slice Aanswer1_13 answer1.hashes.length canswer1_13, .slice Aanswer1_14 answer1.route.length canswer1_14] 40 (0, 0))], [(ganswer2, .cells #[.slice Aanswer2v answer2v.length canswer2v] 34 (0, 0))], rowanswer2v, rowdk0] w0 (r_node_Node_get gn en rown ganswer0 ganswer1 Aanswer1_10 canswer1_10 Aanswer1_11 canswer1_11 Aanswer1_12 canswer1_12 Aanswer1_13 canswer1_13 Aanswer1_14 canswer1_14 answer1 ganswer2 Aanswer2v canswer2v answer2v rowanswer2v edk0 rowdk0 r)) := by
 refine go_ (n := 33) (rs := []) (args := [(pq gn), .agg #[ii m.kind, ii m.from_.site, ii m.from_.node, ii m.to_.site, ii m.to_.node, ii m.id, ii m.n, ii m.for_, ii m.code, .string m.key, .slice Am10 m.recs.length cm10, .slice Am11 m.vec.length cm11, .slice Am12 m.path.length cm12, .slice Am13 m.hashes.length cm13, .slice Am14 m.route.length cm14], .func (.func 41) #[] #[(pq ganswer0), (pq ganswer1), (pq ganswer2)]]) func34 rfl ntmps34 results34 rfl hp fun F hF => ?_
 refine WC.rs ?_
 refine bxV (v := .agg #[ii m.kind, ii m.from_.site, ii m.from_.node, ii m.to_.site, ii m.to_.node, ii m.id, ii m.n, ii m.for_, ii m.code, .string m.key, .slice Am10 m.recs.length cm10, .slice Am11 m.vec.length cm11, .slice Am12 m.path.length cm12, .slice Am13 m.hashes.length cm13, .slice Am14 m.route.length cm14]) ?_
 intro g1
 refine WR.done (WC.seq (WC.rs (mV (k:=?_))))
 obtain ⟨z2, hz3, h⟩ := bnd h
 refine ecV [1, 5] (caV call12) (fun w hp => t_node_Node_Intact hn hdk0 hp hz3) ?_
 rintro Γ4 U6 v7 hl5 ⟨rfl, rfl, _⟩
 refine cwV 9 [_, _, _, _, _, _, _] (sV q_not (k:=WR.done ?_))
 refine ciV h (fun hb8 h => ?_) (fun hb8 h => ?_)
 ·
  exact WC.ret fun w hw => re_ r [0, 2, 2, 2, 2, 0] h hF hw ⟨Aanswer2v, canswer2v, rowanswer2v, rfl, rfl, (hanswer2v.mono hl5), trivial⟩
 refine WC.skip (wc_ ?_)
 refine WC.rs (sV (q_fl 9 fld_40_7) (k:=sV (ldV 2 isAgg9) (k:=sV (q_build' (v := .agg #[ii 5, ii 0, ii 0, ii 0, ii 0, ii 0, ii 0, ii 0, ii 0, .string m.key, .slice none 0 0, .slice none 0 0, .slice none 0 0, .slice none 0 0, .slice none 0 0]) rfl (bargs2 rfl rfl) (fun w => by kernel_rfl)) (k:=?_))))
 refine alV zeroValue40 ?_
 intro g9
 refine stV 0 (.agg #[ii 5, ii 0, ii 0, ii 0, ii 0, ii 0, ii 0, ii 0, ii 0, .string m.key, .slice none 0 0, .slice none 0 0, .slice none 0 0, .slice none 0 0, .slice none 0 0]) #[ii 5, ii 0, ii 0, ii 0, ii 0, ii 0, ii 0, ii 0, ii 0, .string m.key, .slice none 0 0, .slice none 0 0, .slice none 0 0, .slice none 0 0, .slice none 0 0] sizeOf40 (k:=WR.done ?_)
 refine WC.cut (fun σ w => ∃ (x12 : List Rec), ∃ (Γ10 : Gh), ∃ (A13 : Option Addr), ∃ (c14 : Nat), ∃ (row15 : Rowb), m_node_Node_get_j1 n m answer1 answer2v x12 = some r ∧ slots σ [(2, .func (.func 41) #[] #[(pq ganswer0), (pq ganswer1), (pq ganswer2)]), (6, (pq g9))] ∧ CC F Γ10 [row15, [(g9, .cells #[ii 5, ii 0, ii 0, ii 0, ii 0, ii 0, ii 0, ii 0, ii 0, .string m.key, .slice A13 x12.length c14, .slice none 0 0, .slice none 0 0, .slice none 0 0, .slice none 0 0] 40 (0, 0))], rown, rowdk0, [(ganswer0, .cells #[(pq gn)] 27 (0, 0))], [(ganswer1, .cells #[ii answer1.kind, ii answer1.from_.site, ii answer1.from_.node, ii answer1.to_.site, ii answer1.to_.node, ii answer1.id, ii answer1.n, ii answer1.for_, ii answer1.code, .string answer1.key, .slice Aanswer1_10 answer1.recs.length canswer1_10, .slice Aanswer1_11 answer1.vec.length canswer1_11, .slice Aanswer1_12 answer1.path.length canswer1_12, .slice Aanswer1_13 answer1.hashes.length canswer1_13, .slice Aanswer1_14 answer1.route.length canswer1_14] 40 (0, 0))], [(ganswer2, .cells #[.slice Aanswer2v answer2v.length canswer2v] 34 (0, 0))], rowanswer2v] w ∧ Gh.le Γ4 Γ10 ∧ Own recT Γ10 45 row15 A13 c14 x12 ∧ True) ?_ ?_
 ·
  refine WC.seq ?_
  intro w hw; have h017 := hw.le
  refine WC.here (C := CC F Γ4 [_, _, _, _, _, _, _, _]) ?_ hw; clear hw
  refine held_ (CC F Γ4 [[(g9, .cells #[ii 5, ii 0, ii 0, ii 0, ii 0, ii 0, ii 0, ii 0, ii 0, .string m.key, .slice none 0 0, .slice none 0 0, .slice none 0 0, .slice none 0 0, .slice none 0 0] 40 (0, 0))], [(g1, .cells #[ii m.kind, ii m.from_.site, ii m.from_.node, ii m.to_.site, ii m.to_.node, ii m.id, ii m.n, ii m.for_, ii m.code, .string m.key, .slice Am10 m.recs.length cm10, .slice Am11 m.vec.length cm11, .slice Am12 m.path.length cm12, .slice Am13 m.hashes.length cm13, .slice Am14 m.route.length cm14] 40 (0, 0))], [(ganswer0, .cells #[(pq gn)] 27 (0, 0))], [(ganswer1, .cells #[ii answer1.kind, ii answer1.from_.site, ii answer1.from_.node, ii answer1.to_.site, ii answer1.to_.node, ii answer1.id, ii answer1.n, ii answer1.for_, ii answer1.code, .string answer1.key, .slice Aanswer1_10 answer1.recs.length canswer1_10, .slice Aanswer1_11 answer1.vec.length canswer1_11, .slice Aanswer1_12 answer1.path.length canswer1_12, .slice Aanswer1_13 answer1.hashes.length canswer1_13, .slice Aanswer1_14 answer1.route.length canswer1_14] 40 (0, 0))], [(ganswer2, .cells #[.slice Aanswer2v answer2v.length canswer2v] 34 (0, 0))]]) (bo_ [0, 2, 2, 2, 2] (Gh.refl _) h017) fun k => ?_
  change WH _ _ _ _ (CC F Γ4 [_, _, _, _, _, _, _, _]) _ 8 _ _
  refine hV 0 k (q:=moV) (k:=hV 1 k (q:=nlV) (k:=hV 2 k (q:=q_fl 4 fld_74_3) (k:=hV 4 k (q:=q_fl 9 fld_40_7) (k:=hV 5 k (q:=ldV 1 isAgg9) (k:=wl_ 3 rfl ?_)))))
  have hq := (hn.mono hl5)
  obtain ⟨g4_18, r4_18, m5_18, r5_18, m6_18, r6_18, hrow_18, ho0_18, ho1_18, ho2_18, ho3_18, ho4_18, ho5_18, -⟩ := hq
  intro w hw; have hw := hw.unfold (i := 1) rfl hrow_18
  refine WR.here (C := CC F Γ4 [_, _, _, _, _, _, _, _, _, _, _]) ?_ hw
  clear hw
  refine sV (ldV 0 isAgg68) (k:=?_)
  refine WR.nil ?_
  refine nxV (bo_ [4, 5, 5, 5, 5] (Gh.refl _) h017) fun k => ?_
  refine wl_ 6 rfl ?_
  obtain ⟨z19, hz20, h⟩ := bnd h
  refine ecV [1] (caV call58) (fun w hp => t_store_Store_Get ho3_18 m.key hm.2.2.2.2.2.2.2.2.2.1 hp hz20) ?_
  rintro Γ21 U23 v24 hl22 ⟨A25, c26, rfl, rfl, hc28, hr27, _⟩
  refine cwV 20 [_, _, _, _, _, _, _, _, _, _, _] ?_
  refine WR.nil ?_
  refine nxV (bo_ [4, 5, 5, 5, 5] hl22 h017) fun k => ?_
  refine hV 7 k (q:=aoV) (k:=?_)
  refine WH.done (by kernel_rfl) ?_
  change WC _ _ _ _ _ _
  refine WC.rs (mV (k:=sV (q_len_slice rfl underlying43) (k:=sV q_gtr (k:=WR.done ?_))))
  refine ciV h (fun hb29 h => ?_) (fun hb29 h => ?_)
  ·
   refine WC.region ?_
   refine sV (q_fl 9 fld_40_7) (k:=sV (ldV 6 isAgg9) (k:=mV (k:=sV (q_build' (v := .agg #[.string m.key, .slice A25 z19.length c26]) rfl (bargs2 rfl rfl) (fun w => by kernel_rfl)) (k:=?_))))
   refine bsV #[.string m.key, .slice A25 z19.length c26] 45 ?_
   intro g30
   refine sV (q_fl 10 fld_40_8) (k:=?_)
   have ho31 : Own recT Γ21 45 [(g30, .cells #[.string m.key, .slice A25 z19.length c26] 45 (0, 0))] (some ⟨g30, 0, none⟩) 1 [(⟨m.key, z19⟩ : Rec)] := Own.of_blockL (T := recT) (ys := [(⟨m.key, z19⟩ : Rec)]) [[.string m.key, .slice A25 z19.length c26]] rfl (show 1 ≤ lim by decide) (show Ty.rd recT Γ21 [.string m.key, .slice A25 z19.length c26] (⟨m.key, z19⟩ : Rec) ∧ True from ⟨⟨A25, c26, rfl, ⟨hm.2.2.2.2.2.2.2.2.2.1, ⟨hc28, hr27⟩⟩⟩, trivial⟩)
   refine stV 5 (.slice (some ⟨g30, 0, none⟩) 1 1) #[ii 5, ii 0, ii 0, ii 0, ii 0, ii 0, ii 0, ii 0, ii 0, .string m.key, .slice (some ⟨g30, 0, none⟩) 1 1, .slice none 0 0, .slice none 0 0, .slice none 0 0, .slice none 0 0] sizeOf22 (k:=?_)
   refine WR.nil ?_
   intro w hw
   have hw := hw.fold (is := [2, 1, 1, 1]) rfl hrow_18
   exact ⟨[(⟨m.key, z19⟩ : Rec)], Γ21, (some ⟨g30, 0, none⟩), 1, [(g30, .cells #[.string m.key, .slice A25 z19.length c26] 45 (0, 0))], h, (sl_ (by kernel_rfl)), (hw.only (is := [1, 1, 0, 0, 1, 1, 1, 1]) rfl), hl22, ho31, trivial⟩
  refine WC.skip ?_
  intro w hw
  have hw := hw.fold (is := [1, 0, 0, 0]) rfl hrow_18
  have hw := hw.pad
  exact ⟨[], Γ21, none, 0, [], h, (sl_ (by kernel_rfl)), (hw.only (is := [0, 1, 0, 0, 1, 1, 1, 1]) rfl), hl22, (Own.nil recT _ 45), trivial⟩
 rintro σ w ⟨x12, Γ10, A13, c14, row15, h, hsl, hw, hl11, ho16, -⟩
 refine Wpt.slots hsl ?_
 refine WC.here (C := CC F Γ10 [_, _, _, _, _, _, _, _]) ?_ hw
 clear hw hsl
 refine WC.region ?_
 refine mU (v := .func (.func 41) #[] #[(pq ganswer0), (pq ganswer1), (pq ganswer2)]) (k:=sV (ldaV 1 [ii 5, ii 0, ii 0, ii 0, ii 0, ii 0, ii 0, ii 0, ii 0, .string m.key, .slice A13 x12.length c14, .slice none 0 0, .slice none 0 0, .slice none 0 0, .slice none 0 0] isAgg40 sizeOf40) (k:=?_))
 have hc38 := ho16.capz
 intro w hw; obtain ⟨Γ34, hw, hl35, hr36⟩ := hw.seal (i := 0) rfl; have hs37 := ho16.sl hl35 hr36
 refine WR.here (C := CC F Γ34 [_, _, _, _, _, _, _, _]) ?_ hw
 clear hw
 obtain ⟨z39, hz40, h⟩ := bnd h
 refine ecV [4, 2, 3, 3, 3] (call_run_fv (caps := #[(pq ganswer0), (pq ganswer1), (pq ganswer2)]) call41 rfl (by kernel_rfl) (by kernel_rfl)) (fun w hp => t_node_Node_Handle_1 (Aa11 := none) (ca11 := 0) (Aa12 := none) (ca12 := 0) (Aa13 := none) (ca13 := 0) (Aa14 := none) (ca14 := 0) (⟨5, (⟨0, 0⟩ : Adr), (⟨0, 0⟩ : Adr), 0, 0, 0, 0, m.key, x12, [], [], [], []⟩ : Dapi_Msg) ⟨(show I64 5 by decide), (show I64 0 by decide), (show I64 0 by decide), (show I64 0 by decide), (show I64 0 by decide), (show I64 0 by decide), (show I64 0 by decide), (show I64 0 by decide), (show I64 0 by decide), hm.2.2.2.2.2.2.2.2.2.1, ⟨hc38, hs37⟩, ⟨Nat.zero_le _, Sl.nil _ _ _⟩, ⟨Nat.zero_le _, Sl.nil _ _ _⟩, ⟨Nat.zero_le _, Sl.nil _ _ _⟩, ⟨Nat.zero_le _, Sl.nil _ _ _⟩⟩ (hn.mono ((hl5.trans hl11).trans hl35)) answer1 (by exact (Dapi_Msg.fits_mono hanswer1 ((hl5.trans hl11).trans hl35))) (hanswer2v.mono ((hl5.trans hl11).trans hl35)) hp hz40) ?_
 rintro Γ41 U43 v44 hl42 ⟨A45, c46, row47, rfl, rfl, hr48, _⟩
 refine cwV 32 [_, _, _, _, _, _, _, _] ?_
 refine WR.nil ?_
 intro w hw
 obtain rfl := Option.some.inj h
 subst hF
 exact end_e (is := [1, 0, 0, 0, 0, 2]) (by kernel_rfl) hw rfl ⟨A45, c46, row47, rfl, rfl, hr48, trivial⟩
theorem t_node_part {Γ : Gh} {w0 : World} (p_ : Int) (hp_ : I64 p_) (hs : Sat Γ w0) {r : Bool} (h : m_node_part p_ = some r) : Calls Tryz.prog 61 #[ii p_] w0 (fun e w' => e = .returned (.bool r) ∧ Fr no w0 w') := by
 refine goq_ (n := 9) (rs := [2]) (args := [ii p_]) func61 rfl ntmps61 results61 rfl hs fun F hF => ?_
 refine WC.rs (aV (k:=WR.done (WC.rs (mV (k:=sV q_geq (k:=mV (k:=vG1 (h:=fun hg1 => moV) (k:=?_))))))))
 refine vG1 (h:=fun hg2 => q_lss rfl (grV hg2)) (k:=sV pkA (k:=aV (k:=WR.done ?_)))
 exact WC.ret fun w hw => rq_ r h hF hw
abbrev r_store_Store_Keys (gs_ : Nat) (es_ : Nat × Nat) (rows_ : Rowb) (r : List ByteArray) (U : List Rowb) (Γ : Gh) (v : Value) : Prop := ∃ (A0 : Option Addr), ∃ (c0 : Nat), ∃ (row0 : Rowb), v = .slice A0 r.length c0 ∧ U = [rows_, row0] ∧ Own strT Γ 9 row0 A0 c0 r ∧ True
theorem t_store_Store_Keys {Γ : Gh} {w0 : World} {gs_ : Nat} {es_ : Nat × Nat} {rows_ : Rowb} {s_ : Ostore_Store} (hs_ : Ostore_Store.ob es_ Γ gs_ rows_ s_) (hp : Pre [rows_] Γ w0) {r : List ByteArray} (h : m_store_Store_Keys s_ = some r) : Calls Tryz.prog 74 #[(pq gs_)] w0 (Outc Γ [rows_] w0 (r_store_Store_Keys gs_ es_ rows_ r)) := by
 refine go_ (n := 9) (rs := [2]) (args := [(pq gs_)]) func74 rfl ntmps74 results74 rfl hp fun F hF => ?_
 refine WC.rs (aV (k:=WR.done (WC.rs (mV (k:=sV nlV (k:=sV (q_fl 1 fld_107_1) (k:=?_)))))))
 have hq := hs_
 obtain ⟨g0_1, r0_1, m1_1, r1_1, hrow_1, ho0_1, ho1_1, -⟩ := hq
 intro w hw; have hw := hw.unfold (i := 0) rfl hrow_1
 refine WR.here (C := CC F Γ [_, _, _]) ?_ hw
 clear hw
 refine sV (ldV 0 isAgg63) (k:=?_)
 refine e_keys (ρ := keys114_ren) keys114 (mb := some m1_1) rfl rfl (caV call114) ?_
 intro g2
 refine cwV 7 [_, _, _, _] ?_
 obtain ⟨hk3, h⟩ := chk_some h
 refine ecV [0, 2] (caV call108) (fun w hp => sk108_114 ho1_1 (of_decide_eq_true hk3) hp) ?_
 rintro Γ4 U6 v7 hl5 ⟨A8, c9, row10, rfl, rfl, ho11⟩
 refine cwV 8 [_, _, _, _, _] (aV (k:=WR.done ?_))
 refine WC.ret ?_
 intro w hw
 have hw := hw.fold (is := [3, 3, 1]) rfl hrow_1
 exact re_ r [0, 1] h hF hw ⟨A8, c9, row10, rfl, rfl, ho11, trivial⟩
abbrev r_store_Store_Get_l1 (r : List Ver) (U : List Rowb) (Γ : Gh) (v : Value) : Prop := ∃ (A0 : Option Addr), ∃ (c0 : Nat), v = .slice A0 r.length c0 ∧ U = [] ∧ r.length ≤ c0 ∧ Sl verT Γ A0 r ∧ True
theorem t_store_Store_Get_l1 {Γ : Gh} {w0 : World} {B : Gh} {gs_ : Nat} {es_ : Nat × Nat} {rows_ : Rowb} {s_ : Ostore_Store} (hs_ : Ostore_Store.ob es_ B gs_ rows_ s_) (hs_r : ∀ p ∈ rows_, B p.1 = some p.2) (key : ByteArray) (hkey : key.size ≤ lim) (hp : Pre [] Γ w0) (hpB : Pre [] B w0) {r : List Ver} (h : m_store_Store_Get s_ key = some r) : Calls Tryz.prog 58 #[(pq gs_), .string key] w0 (Outc Γ [] w0 (r_store_Store_Get_l1 r)) := by
 refine go_ (n := 19) (rs := [4]) (args := [(pq gs_), .string key]) func58 rfl ntmps58 results58 rfl hp fun F hF => ?_
 have hB : Lent F B := hF ▸ Lent.start hpB
 refine WC.rs (aV (k:=WR.done (WC.rs (mV (k:=sV nlV (k:=sV (q_fl 1 fld_107_1) (k:=?_)))))))
 have hq := hs_
 obtain ⟨g0_1, r0_1, m1_1, r1_1, hrow_1, ho0_1, ho1_1, -⟩ := hq
 have hg_2 : ∀ u ∈ ([[(gs_, .cells #[(pq g0_1), .map (some m1_1)] es_.1 (0, 0))], r0_1, r1_1] : List Rowb), ∀ p ∈ u, B p.1 = some p.2 := fun u hu p hp => (fun p hp => (hs_r p hp)) p (hrow_1 ▸ List.mem_flatten.2 ⟨u, hu, hp⟩)
 have hgc3 := hg_2 _ (List.mem_cons_self ..) (gs_, _) (List.mem_singleton.2 rfl)
 have hgs4 := hg_2 r0_1 (by simp)
 have hgs5 := hg_2 r1_1 (by simp)
 refine sV (q_via (fun w hw => hB.sat hw) fun F => (q_ldg (v := .map (some m1_1)) hgc3 rfl isAgg63 rfl rfl)) (k:=mV (k:=?_))
 obtain ⟨v6, ⟨A9, c10, hv7, hc11, hs12⟩, hat8⟩ := MapO.look ho1_1 key (z := .slice none 0 0) (zx := []) ⟨none, 0, rfl, Nat.zero_le _, Sl.nil _ _ _⟩
 obtain rfl : v6 = _ := List.cons.inj hv7 |>.1
 refine sV (q_via (fun w hw => hB.sat hw) fun F => (q_lookup1g (v := .slice A9 ((mget key s_.keys).getD []).length c10) (fun p hp => (hgs5 p hp)) hat8 rfl underlying63 zeroValue77 rfl rfl)) (k:=?_)
 obtain ⟨z13, hz14, h⟩ := bnd h
 refine e_callB (is := []) hB rfl rfl (caV call54) rfl (fun w Θ hp hpB hle hleB hR => t_code_Rec_l0 (hs12.mono hleB) hc11 hp hpB hz14) ?_
 rintro Γ15 U17 v18 hl16 ⟨A19, c20, rfl, rfl, hr21, hr22, _⟩
 refine cwV 14 [] (mV (k:=sV exV (k:=sV exV (k:=?_))))
 refine alV zeroValue45 ?_
 intro g23
 refine stV 0 (.agg #[.string z13.1.key, .slice A19 z13.1.vers.length c20]) #[.string z13.1.key, .slice A19 z13.1.vers.length c20] sizeOf45 (k:=aV (k:=WR.done (WC.rs (sV (q_fl 1 fld_45_1) (k:=sV (ldV 0 isAgg43) (k:=aV (k:=WR.done ?_)))))))
 exact WC.ret fun w hw => re_ r [] h hF hw ⟨A19, c20, rfl, rfl, hr21.2.1, hr21.2.2, trivial⟩
abbrev r_store_Store_Recs (gs_ : Nat) (es_ : Nat × Nat) (rows_ : Rowb) (r : List Rec) (U : List Rowb) (Γ : Gh) (v : Value) : Prop := ∃ (A0 : Option Addr), ∃ (c0 : Nat), ∃ (row0 : Rowb), v = .slice A0 r.length c0 ∧ U = [rows_, row0] ∧ Own recT Γ 45 row0 A0 c0 r ∧ True
theorem t_store_Store_Recs {Γ : Gh} {w0 : World} {gs_ : Nat} {es_ : Nat × Nat} {rows_ : Rowb} {s_ : Ostore_Store} (hs_ : Ostore_Store.ob es_ Γ gs_ rows_ s_) (hp : Pre [rows_] Γ w0) {r : List Rec} (h : m_store_Store_Recs s_ = some r) : Calls Tryz.prog 42 #[(pq gs_)] w0 (Outc Γ [rows_] w0 (r_store_Store_Recs gs_ es_ rows_ r)) := by
 refine go_ (n := 23) (rs := [2]) (args := [(pq gs_)]) func42 rfl ntmps42 results42 rfl hp fun F hF => ?_
 refine WC.rs (aV (k:=WR.done (WC.rs (aV (k:=WR.done (WC.seq (WC.rs ?_)))))))
 refine mV (k:=?_)
 obtain ⟨z1, hz2, h⟩ := bnd h
 refine ecV [0] (caV call74) (fun w hp => t_store_Store_Keys hs_ hp hz2) ?_
 rintro Γ3 U5 v6 hl4 ⟨A7, c8, row9, rfl, rfl, hr10, _⟩
 refine cwV 7 [_, _] (sV (q_len_slice rfl underlying133) (k:=mV (k:=WR.done (WC.block ?_))))
 refine WC.forI h (fun (i19 : Nat) (out_13 : List Rec) σ w => ∃ (Γ11 : Gh), ∃ (A14 : Option Addr), ∃ (c15 : Nat), ∃ (row16 : Rowb), slots σ [(0, (pq gs_)), (3, .slice A14 out_13.length c15), (7, .slice A7 z1.length c8), (8, ii ((z1.length : Nat) : Int)), (9, ii ((i19 : Nat) : Int))] ∧ CC F Γ11 [row16, rows_, row9] w ∧ Gh.le Γ3 Γ11 ∧ Own recT Γ11 45 row16 A14 c15 out_13 ∧ True) ?_ ?_
 ·
  intro w hw
  have hw := hw.pad
  exact ⟨Γ3, none, 0, [], (sl_ (by kernel_rfl)), hw, (Gh.refl _), (Own.nil recT _ 45), trivial⟩
 rintro f18 i19 out_13 σ w hi20 hlt21 hge22 ⟨Γ11, A14, c15, row16, hsl, hw, hl12, ho17, -⟩
 refine Wpt.slots hsl ?_
 refine WC.here (C := CC F Γ11 [_, _, _]) ?_ hw
 clear hw hsl
 refine WC.rs (sV q_lss (k:=WR.done (WC.seq ?_)))
 refine WC.cond (b := (decide (((i19 : Nat) : Int) < ((z1.length : Nat) : Int)))) (by kernel_rfl) (fun hb23 => ?_) (fun hb23 => ?_)
 ·
  have hl24 := ilt hb23
  have h := hlt21 hl24
  refine WC.skip (wc_ ?_)
  refine WC.seq (WC.block (WC.rs (sV (q_ixn (i := i19) underlying133 sizeOf9 rfl rfl rfl hl24 ((hr10.mono hl12).some_ hl24)) (k:=sV (q_ldo (c := 0) (v := .string (gt z1 i19)) (i := 2) rfl ((hr10.mono hl12).strT_at hl24).2 rfl isAgg9 rfl rfl) (k:=aV (k:=WR.done ?_))))))
  refine WC.region ?_
  refine mV (k:=mV (k:=mV (k:=mV (k:=?_))))
  obtain ⟨z25, hz26, h⟩ := bnd h
  refine e_callB (is := []) (Lent.nil F) rfl rfl (caV call58) rfl (fun w Θ hp hpB hle hleB hR => t_store_Store_Get_l1 ((hs_.mono (hl4.trans hl12)).mono hle) (fun p hp => hR _ (List.mem_of_getElem? (i := 1) rfl) p hp) (gt z1 i19) ((hr10.mono hl12).strT_at hl24).1 hp hpB hz26) ?_
  rintro Γ27 U29 v30 hl28 ⟨A31, c32, rfl, rfl, hc34, hr33, _⟩
  refine cwV 17 [_, _, _] (sV (q_build' (v := .agg #[.string (gt z1 i19), .slice A31 z25.length c32]) rfl (bargs2 rfl rfl) (fun w => by kernel_rfl)) (k:=?_))
  refine bsV #[.string (gt z1 i19), .slice A31 z25.length c32] 45 ?_
  intro g35
  obtain ⟨hk36, h⟩ := chk_some h
  refine e_append (T := recT) (xs := out_13) (ys := [(⟨(gt z1 i19), z25⟩ : Rec)]) elem_22 (i := 1) rfl rfl rfl rfl rfl rfl rfl (ho17.mono hl28) (of_decide_eq_true hk36) (fun w hw => src_one (T := recT) (y := (⟨(gt z1 i19), z25⟩ : Rec)) (i := 0) rfl (by exact ⟨A31, c32, rfl, ⟨((hr10.mono (hl12.trans hl28)).strT_at hl24).1, ⟨hc34, hr33⟩⟩⟩) hw) ?_
  intro row37 A38 c39 ho40
  refine aV (k:=?_)
  refine WR.nil ?_
  change WC _ _ _ _ _ _
  refine WC.region ?_
  refine sV (q_add_r (r := ((i19 + 1 : Nat) : Int)) rfl rfl rfl (ctr_len hl24 (hr10.mono hl12).le)) (k:=mV (k:=?_))
  refine WR.nil ?_
  intro w hw
  exact ⟨hl24, (out_13 ++ [(⟨(gt z1 i19), z25⟩ : Rec)]), h, Γ27, A38, c39, row37, (sl_ (by kernel_rfl)), (hw.only (is := [1, 1, 1]) rfl), (hl12.trans hl28), ho40, trivial⟩
 have h := hge22 (ige hb23)
 refine WC.exit ?_
 change WC _ _ _ _ _ _
 refine WC.rs (mV (k:=aV (k:=WR.done ?_)))
 exact WC.ret fun w hw => re_ r [1, 0] h hF hw ⟨A14, c15, row16, rfl, rfl, ho17, trivial⟩
theorem t_num_Hash {Γ : Gh} {w0 : World} {Ab : Option Addr} {cb : Nat} {b : List UInt8} (hb : Sl byteT Γ Ab b) (hbc : b.length ≤ cb) (hs : Sat Γ w0) {r : Int} (h : m_num_Hash b = some r) : Calls Tryz.prog 75 #[.slice Ab b.length cb] w0 (fun e w' => e = .returned (.int .u64 r) ∧ Fr no w0 w') := by
 refine goq_ (n := 27) (rs := [2]) (args := [.slice Ab b.length cb]) func75 rfl ntmps75 results75 rfl hs fun F hF => ?_
 refine WC.rs (aV (k:=WR.done (WC.rs (aV (k:=WR.done (WC.seq (WC.rs ?_)))))))
 refine mV (k:=sV (q_len_slice rfl underlying77) (k:=mV (k:=WR.done (WC.block ?_))))
 refine WC.forI h (fun (i4 : Nat) (h_1 : Int) σ w => slots σ [(3, .int .u64 h_1), (6, .slice Ab b.length cb), (7, ii ((b.length : Nat) : Int)), (8, ii ((i4 : Nat) : Int))] ∧ CC F Γ [] w ∧ U64 h_1 ∧ True) ?_ ?_
 ·
  intro w hw
  exact ⟨(sl_ (by kernel_rfl)), hw, (show U64 14695981039346656037 by decide), trivial⟩
 rintro f3 i4 h_1 σ w hi5 hlt6 hge7 ⟨hsl, hw, hr2, -⟩
 refine Wpt.slots hsl ?_
 refine WC.here (C := CC F Γ []) ?_ hw
 clear hw hsl
 refine WC.rs (sV q_lss (k:=WR.done (WC.seq ?_)))
 refine WC.cond (b := (decide (((i4 : Nat) : Int) < ((b.length : Nat) : Int)))) (by kernel_rfl) (fun hb8 => ?_) (fun hb8 => ?_)
 ·
  have hl9 := ilt hb8
  have h := hlt6 hl9
  refine WC.skip (wc_ ?_)
  refine WC.seq (WC.block (WC.rs (sV (q_ixn (i := i4) underlying77 sizeOf5 rfl rfl rfl hl9 (hb.some_ hl9)) (k:=sV (q_ld (c := 0) (v := .int .u8 (((gt b i4).toNat : Nat) : Int)) (hb.byteT_at hl9).2 rfl isAgg5 rfl rfl) (k:=aV (k:=WR.done ?_))))))
  refine WC.region ?_
  refine mV (k:=mV (k:=sV (q_conv underlying82 underlying5) (k:=sV q_xor (k:=sV q_mul (k:=aV (k:=?_))))))
  refine WR.nil ?_
  change WC _ _ _ _ _ _
  refine WC.region ?_
  refine sV (q_add_r (r := ((i4 + 1 : Nat) : Int)) rfl rfl rfl (ctr_len hl9 hb.le)) (k:=mV (k:=?_))
  refine WR.nil ?_
  intro w hw
  exact ⟨hl9, (wu64 ((ixor .u64 h_1 (wu64 (((gt b i4).toNat : Nat) : Int))) * 1099511628211)), h, (sl_ (by kernel_rfl)), hw, (wu64_r _), trivial⟩
 have h := hge7 (ige hb8)
 refine WC.exit ?_
 change WC _ _ _ _ _ _
 refine WC.rs (mV (k:=mV (k:=sV (q_shr rfl rfl rfl (by decide)) (k:=sV q_xor (k:=sV q_mul (k:=aV (k:=WR.done ?_)))))))
 refine WC.rs (mV (k:=mV (k:=sV (q_shr rfl rfl rfl (by decide)) (k:=sV q_xor (k:=aV (k:=WR.done ?_))))))
 exact WC.ret fun w hw => rq_ r h hF hw
theorem t_ring_Part {Γ : Gh} {w0 : World} (key : ByteArray) (hkey : key.size ≤ lim) (hs : Sat Γ w0) {r : Int} (h : m_ring_Part key = some r) : Calls Tryz.prog 43 #[.string key] w0 (fun e w' => e = .returned (ii r) ∧ Fr no w0 w') := by
 refine goq_ (n := 8) (rs := [2]) (args := [.string key]) func43 rfl ntmps43 results43 rfl hs fun F hF => ?_
 refine WC.rs (aV (k:=WR.done (WC.rs (mV (k:=?_)))))
 refine e_convB (src := 9) (dst := 77) (s := key) underlying9 underlying77 underlying5 hkey rfl rfl rfl rfl rfl ?_
 intro Γ1 A2 c3 hl4 hs5 hc6
 obtain ⟨z7, hz8, h⟩ := bnd h
 refine vqV (caV call75) (fun w hw => t_num_Hash (Γ := Gh.all w) (hs5.mono hw.sat.le_all) hc6 (Sat.all w) hz8) (k:=sV (q_rem rfl rfl rfl (by decide)) (k:=sV (q_conv underlying3 underlying82) (k:=aV (k:=WR.done ?_))))
 exact WC.ret fun w hw => rq_ r h hF hw
abbrev r_node_Node_Recs (gn : Nat) (en : Nat × Nat) (rown : Rowb) (r : List Rec) (U : List Rowb) (Γ : Gh) (v : Value) : Prop := ∃ (A0 : Option Addr), ∃ (c0 : Nat), ∃ (row0 : Rowb), v = .slice A0 r.length c0 ∧ U = [rown, row0] ∧ Own recT Γ 45 row0 A0 c0 r ∧ True
theorem t_node_Node_Recs {Γ : Gh} {w0 : World} {gn : Nat} {en : Nat × Nat} {rown : Rowb} {n : Onode_Node} (hn : Onode_Node.ob en Γ gn rown n) (p_ : Int) (hp_ : I64 p_) (hp : Pre [rown] Γ w0) {r : List Rec} (h : m_node_Node_Recs n p_ = some r) : Calls Tryz.prog 15 #[(pq gn), ii p_] w0 (Outc Γ [rown] w0 (r_node_Node_Recs gn en rown r)) := by
 refine go_ (n := 33) (rs := [4]) (args := [(pq gn), ii p_]) func15 rfl ntmps15 results15 rfl hp fun F hF => ?_
 refine WC.rs (aV (k:=WR.done (WC.rs (aV (k:=WR.done (WC.seq (WC.rs ?_)))))))
 refine mV (k:=sV nlV (k:=sV (q_fl 4 fld_74_3) (k:=?_)))
 have hq := hn
 obtain ⟨g4_1, r4_1, m5_1, r5_1, m6_1, r6_1, hrow_1, ho0_1, ho1_1, ho2_1, ho3_1, ho4_1, ho5_1, -⟩ := hq
 intro w hw; have hw := hw.unfold (i := 0) rfl hrow_1
 refine WR.here (C := CC F Γ [_, _, _, _]) ?_ hw
 clear hw
 refine sV (ldV 0 isAgg68) (k:=?_)
 obtain ⟨z2, hz3, h⟩ := bnd h
 refine ecV [1] (caV call42) (fun w hp => t_store_Store_Recs ho3_1 hp hz3) ?_
 rintro Γ4 U6 v7 hl5 ⟨A8, c9, row10, rfl, rfl, hr11, _⟩
 refine cwV 12 [_, _, _, _, _] (sV (q_len_slice rfl underlying22) (k:=mV (k:=WR.done (WC.block ?_))))
 intro w hw; have hw := hw.fold (is := [2, 0, 1, 1]) rfl hrow_1
 refine WC.here (C := CC F Γ4 [_, _]) ?_ hw
 clear hw
 refine WC.forI h (fun (i19 : Nat) (out_13 : List Rec) σ w => ∃ (A14 : Option Addr), ∃ (c15 : Nat), ∃ (row16 : Rowb), slots σ [(1, ii p_), (5, .slice A14 out_13.length c15), (12, .slice A8 z2.length c9), (13, ii ((z2.length : Nat) : Int)), (14, ii ((i19 : Nat) : Int))] ∧ CC F Γ4 [row16, rown, row10] w ∧ Own recT Γ4 45 row16 A14 c15 out_13 ∧ True) ?_ ?_
 ·
  intro w hw
  have hw := hw.pad
  exact ⟨none, 0, [], (sl_ (by kernel_rfl)), hw, (Own.nil recT _ 45), trivial⟩
 rintro f18 i19 out_13 σ w hi20 hlt21 hge22 ⟨A14, c15, row16, hsl, hw, ho17, -⟩
 refine Wpt.slots hsl ?_
 refine WC.here (C := CC F Γ4 [_, _, _]) ?_ hw
 clear hw hsl
 refine WC.rs (sV q_lss (k:=WR.done (WC.seq ?_)))
 refine WC.cond (b := (decide (((i19 : Nat) : Int) < ((z2.length : Nat) : Int)))) (by kernel_rfl) (fun hb23 => ?_) (fun hb23 => ?_)
 ·
  have hl24 := ilt hb23
  have h := hlt21 hl24
  refine WC.skip (wc_ ?_)
  refine WC.cut (fun σ w => ∃ (out_25 : List Rec), ∃ (A26 : Option Addr), ∃ (c27 : Nat), ∃ (row28 : Rowb), m_node_Node_Recs_j5 f18 out_25 = some r ∧ slots σ [(1, ii p_), (5, .slice A26 out_25.length c27), (12, .slice A8 z2.length c9), (13, ii ((z2.length : Nat) : Int)), (14, ii ((i19 : Nat) : Int))] ∧ CC F Γ4 [row28, rown, row10] w ∧ Own recT Γ4 45 row28 A26 c27 out_25 ∧ True) ?_ ?_
  ·
   refine WC.block (WC.rs (sV (q_ixn (i := i19) underlying22 sizeOf45 rfl rfl rfl hl24 (hr11.some_ hl24)) (k:=?_)))
   obtain ⟨A30, c31, hx32⟩ := hr11.recT_at i19
   refine sV (q_ldoa (c := 0) (vs := [.string (gt z2 i19).key, .slice A30 ((gt z2 i19).vers).length c31]) (i := 2) rfl (hx32 hl24).2 rfl isAgg45 sizeOf45 rfl rfl) (k:=?_)
   refine alV zeroValue45 ?_
   intro g33
   refine stV 0 (.agg #[.string (gt z2 i19).key, .slice A30 ((gt z2 i19).vers).length c31]) #[.string (gt z2 i19).key, .slice A30 ((gt z2 i19).vers).length c31] sizeOf45 (k:=WR.done (WC.rs (mV (k:=sV q_lss (k:=mV (k:=vG0 (h:=fun hg34 => q_fl 0 fld_45_0) (k:=vG0 (h:=fun hg35 => ldV 0 isAgg9 (hx:=grV hg35)) (k:=?_))))))))
   obtain ⟨z37, hz38, h⟩ := bnd h
   refine vg0 rfl rfl rfl rfl rfl (fun hg36 => (q_call (call_run call43 rfl rfl (args1 (grV hg36))) (fun w hw => t_ring_Part (Γ := Gh.all w) ((gt z2 i19).key) (hx32 hl24).1.1 (Sat.all w) (gc_of hz38 hg36)))) (vG0 (h:=fun hg39 => moV) (k:=vG0 (h:=fun hg40 => q_eql rfl (grV hg40) (grV hg40)) (k:=sV pkO (k:=WR.done ?_))))
   refine ciV h (fun hb41 h => ?_) (fun hb41 h => ?_)
   ·
    refine WC.region ?_
    refine mV (k:=sV (ldaV 0 [.string (gt z2 i19).key, .slice A30 ((gt z2 i19).vers).length c31] isAgg45 sizeOf45) (k:=?_))
    refine bsV #[.string (gt z2 i19).key, .slice A30 ((gt z2 i19).vers).length c31] 45 ?_
    intro g42
    obtain ⟨hk43, h⟩ := chk_some h
    refine e_append (T := recT) (xs := out_13) (ys := [(gt z2 i19)]) elem_22 (i := 2) rfl rfl rfl rfl rfl rfl rfl ho17 (of_decide_eq_true hk43) (fun w hw => src_one (T := recT) (y := (gt z2 i19)) (i := 0) rfl (by exact ⟨A30, c31, rfl, (hx32 hl24).1⟩) hw) ?_
    intro row44 A45 c46 ho47
    refine aV (k:=?_)
    refine WR.nil ?_
    intro w hw
    exact ⟨(out_13 ++ [(gt z2 i19)]), A45, c46, row44, h, (sl_ (by kernel_rfl)), (hw.only (is := [2, 2, 2]) rfl), ho47, trivial⟩
   refine WC.skip ?_
   intro w hw
   exact ⟨out_13, A14, c15, row16, h, (sl_ (by kernel_rfl)), (hw.only (is := [1, 1, 1]) rfl), ho17, trivial⟩
  rintro σ w ⟨out_25, A26, c27, row28, h, hsl, hw, ho29, -⟩
  refine Wpt.slots hsl ?_
  refine WC.here (C := CC F Γ4 [_, _, _]) ?_ hw
  clear hw hsl
  refine WC.region ?_
  refine sV (q_add_r (r := ((i19 + 1 : Nat) : Int)) rfl rfl rfl (ctr_len hl24 hr11.le)) (k:=mV (k:=?_))
  refine WR.nil ?_
  intro w hw
  exact ⟨hl24, out_25, h, A26, c27, row28, (sl_ (by kernel_rfl)), hw, ho29, trivial⟩
 have h := hge22 (ige hb23)
 refine WC.exit ?_
 change WC _ _ _ _ _ _
 refine WC.rs (mV (k:=aV (k:=WR.done ?_)))
 exact WC.ret fun w hw => re_ r [1, 0] h hF hw ⟨A14, c15, row16, rfl, rfl, ho17, trivial⟩
abbrev r_node_Node_scan (gn : Nat) (en : Nat × Nat) (rown : Rowb) (ganswer0 : Nat) (ganswer1 : Nat) (Aanswer1_10 : Option Addr) (canswer1_10 : Nat) (Aanswer1_11 : Option Addr) (canswer1_11 : Nat) (Aanswer1_12 : Option Addr) (canswer1_12 : Nat) (Aanswer1_13 : Option Addr) (canswer1_13 : Nat) (Aanswer1_14 : Option Addr) (canswer1_14 : Nat) (answer1 : Dapi_Msg) (ganswer2 : Nat) (Aanswer2v : Option Addr) (canswer2v : Nat) (answer2v : List Dapi_Msg) (rowanswer2v : Rowb) (edk0 : Nat) (rowdk0 : Rowb) (r : List Dapi_Msg) (U : List Rowb) (Γ : Gh) (v : Value) : Prop := ∃ (Aanswer2_0 : Option Addr), ∃ (canswer2_0 : Nat), ∃ (rowanswer2_0 : Rowb), v = .tuple #[] ∧ U = [rown, [(ganswer0, .cells #[.pointer (some ⟨gn, 0, none⟩)] 27 (0, 0))], [(ganswer1, .cells #[.int .i64 answer1.kind, .int .i64 answer1.from_.site, .int .i64 answer1.from_.node, .int .i64 answer1.to_.site, .int .i64 answer1.to_.node, .int .i64 answer1.id, .int .i64 answer1.n, .int .i64 answer1.for_, .int .i64 answer1.code, .string answer1.key, .slice Aanswer1_10 answer1.recs.length canswer1_10, .slice Aanswer1_11 answer1.vec.length canswer1_11, .slice Aanswer1_12 answer1.path.length canswer1_12, .slice Aanswer1_13 answer1.hashes.length canswer1_13, .slice Aanswer1_14 answer1.route.length canswer1_14] 40 (0, 0))], [(ganswer2, .cells #[.slice Aanswer2_0 r.length canswer2_0] 34 (0, 0))], rowanswer2_0, rowdk0] ∧ Own dapi_MsgT Γ 40 rowanswer2_0 Aanswer2_0 canswer2_0 r ∧ True
theorem t_node_Node_scan {Γ : Gh} {w0 : World} {gn : Nat} {en : Nat × Nat} {rown : Rowb} {n : Onode_Node} (hn : Onode_Node.ob en Γ gn rown n) {Am10 : Option Addr} {cm10 : Nat} {Am11 : Option Addr} {cm11 : Nat} {Am12 : Option Addr} {cm12 : Nat} {Am13 : Option Addr} {cm13 : Nat} {Am14 : Option Addr} {cm14 : Nat} (m : Dapi_Msg) (hm : Dapi_Msg.fits Γ Am10 cm10 Am11 cm11 Am12 cm12 Am13 cm13 Am14 cm14 m) {ganswer0 : Nat}  {ganswer1 : Nat} {Aanswer1_10 : Option Addr} {canswer1_10 : Nat} {Aanswer1_11 : Option Addr} {canswer1_11 : Nat} {Aanswer1_12 : Option Addr} {canswer1_12 : Nat} {Aanswer1_13 : Option Addr} {canswer1_13 : Nat} {Aanswer1_14 : Option Addr} {canswer1_14 : Nat} (answer1 : Dapi_Msg) (hanswer1 : Dapi_Msg.fits Γ Aanswer1_10 canswer1_10 Aanswer1_11 canswer1_11 Aanswer1_12 canswer1_12 Aanswer1_13 canswer1_13 Aanswer1_14 canswer1_14 answer1) {ganswer2 : Nat} {Aanswer2v : Option Addr} {canswer2v : Nat} {rowanswer2v : Rowb} {answer2v : List Dapi_Msg} (hanswer2v : Own dapi_MsgT Γ 40 rowanswer2v Aanswer2v canswer2v answer2v) {edk0 : Nat} {rowdk0 : Rowb} {dk0 : Odisk_Disk} (hdk0 : Odisk_Disk.ob edk0 Γ en.2 rowdk0 dk0) (hp : Pre [rown, [(ganswer0, .cells #[(pq gn)] 27 (0, 0))], [(ganswer1, .cells #[ii answer1.kind, ii answer1.from_.site, ii answer1.from_.node, ii answer1.to_.site, ii answer1.to_.node, ii answer1.id, ii answer1.n, ii answer1.for_, ii answer1.code, .string answer1.key, .slice Aanswer1_10 answer1.recs.length canswer1_10, .slice Aanswer1_11 answer1.vec.length canswer1_11, .slice Aanswer1_12 answer1.path.length canswer1_12, .slice Aanswer1_13 answer1.hashes.length canswer1_13, .slice Aanswer1_14 answer1.route.length canswer1_14] 40 (0, 0))], [(ganswer2, .cells #[.slice Aanswer2v answer2v.length canswer2v] 34 (0, 0))], rowanswer2v, rowdk0] Γ w0) {r : List Dapi_Msg} (h : m_node_Node_scan n m answer1 answer2v dk0 = some r) : Calls Tryz.prog 35 #[(pq gn), .agg #[ii m.kind, ii m.from_.site, ii m.from_.node, ii m.to_.site, ii m.to_.node, ii m.id, ii m.n, ii m.for_, ii m.code, .string m.key, .slice Am10 m.recs.length cm10, .slice Am11 m.vec.length cm11, .slice Am12 m.path.length cm12, .slice Am13 m.hashes.length cm13, .slice Am14 m.route.length cm14], .func (.func 41) #[] #[(pq ganswer0), (pq ganswer1), (pq ganswer2)]] w0 (Outc Γ [rown, [(ganswer0, .cells #[(pq gn)] 27 (0, 0))], [(ganswer1, .cells #[ii answer1.kind, ii answer1.from_.site, ii answer1.from_.node, ii answer1.to_.site, ii answer1.to_.node, ii answer1.id, ii answer1.n, ii answer1.for_, ii answer1.code, .string answer1.key, .slice Aanswer1_10 answer1.recs.length canswer1_10, .slice Aanswer1_11 answer1.vec.length canswer1_11, .slice Aanswer1_12 answer1.path.length canswer1_12, .slice Aanswer1_13 answer1.hashes.length canswer1_13, .slice Aanswer1_14 answer1.route.length canswer1_14] 40 (0, 0))], [(ganswer2, .cells #[.slice Aanswer2v answer2v.length canswer2v] 34 (0, 0))], rowanswer2v, rowdk0] w0 (r_node_Node_scan gn en rown ganswer0 ganswer1 Aanswer1_10 canswer1_10 Aanswer1_11 canswer1_11 Aanswer1_12 canswer1_12 Aanswer1_13 canswer1_13 Aanswer1_14 canswer1_14 answer1 ganswer2 Aanswer2v canswer2v answer2v rowanswer2v edk0 rowdk0 r)) := by
 refine go_ (n := 24) (rs := []) (args := [(pq gn), .agg #[ii m.kind, ii m.from_.site, ii m.from_.node, ii m.to_.site, ii m.to_.node, ii m.id, ii m.n, ii m.for_, ii m.code, .string m.key, .slice Am10 m.recs.length cm10, .slice Am11 m.vec.length cm11, .slice Am12 m.path.length cm12, .slice Am13 m.hashes.length cm13, .slice Am14 m.route.length cm14], .func (.func 41) #[] #[(pq ganswer0), (pq ganswer1), (pq ganswer2)]]) func35 rfl ntmps35 results35 rfl hp fun F hF => ?_
 refine WC.rs ?_
 refine bxV (v := .agg #[ii m.kind, ii m.from_.site, ii m.from_.node, ii m.to_.site, ii m.to_.node, ii m.id, ii m.n, ii m.for_, ii m.code, .string m.key, .slice Am10 m.recs.length cm10, .slice Am11 m.vec.length cm11, .slice Am12 m.path.length cm12, .slice Am13 m.hashes.length cm13, .slice Am14 m.route.length cm14]) ?_
 intro g1
 refine WR.done (WC.seq (WC.rs (mV (k:=?_))))
 obtain ⟨z2, hz3, h⟩ := bnd h
 refine ecV [1, 5] (caV call12) (fun w hp => t_node_Node_Intact hn hdk0 hp hz3) ?_
 rintro Γ4 U6 v7 hl5 ⟨rfl, rfl, _⟩
 refine cwV 8 [_, _, _, _, _, _, _] (sV q_not (k:=WR.done ?_))
 refine ciV h (fun hb8 h => ?_) (fun hb8 h => ?_)
 ·
  exact WC.ret fun w hw => re_ r [0, 2, 2, 2, 2, 0] h hF hw ⟨Aanswer2v, canswer2v, rowanswer2v, rfl, rfl, (hanswer2v.mono hl5), trivial⟩
 refine WC.skip (wc_ ?_)
 refine WC.rs (sV (q_fl 6 fld_40_4) (k:=sV (ldV 2 isAgg2) (k:=sV (q_build' (v := .agg #[ii 7, ii 0, ii 0, ii 0, ii 0, ii 0, ii m.n, ii 0, ii 0, .string ByteArray.empty, .slice none 0 0, .slice none 0 0, .slice none 0 0, .slice none 0 0, .slice none 0 0]) rfl (bargs2 rfl rfl) (fun w => by kernel_rfl)) (k:=?_))))
 refine alV zeroValue40 ?_
 intro g9
 refine stV 0 (.agg #[ii 7, ii 0, ii 0, ii 0, ii 0, ii 0, ii m.n, ii 0, ii 0, .string ByteArray.empty, .slice none 0 0, .slice none 0 0, .slice none 0 0, .slice none 0 0, .slice none 0 0]) #[ii 7, ii 0, ii 0, ii 0, ii 0, ii 0, ii m.n, ii 0, ii 0, .string ByteArray.empty, .slice none 0 0, .slice none 0 0, .slice none 0 0, .slice none 0 0, .slice none 0 0] sizeOf40 (k:=WR.done ?_)
 refine WC.cut (fun σ w => ∃ (x12 : List Rec), ∃ (Γ10 : Gh), ∃ (A13 : Option Addr), ∃ (c14 : Nat), ∃ (row15 : Rowb), m_node_Node_scan_j1 n m answer1 answer2v x12 = some r ∧ slots σ [(2, .func (.func 41) #[] #[(pq ganswer0), (pq ganswer1), (pq ganswer2)]), (6, (pq g9))] ∧ CC F Γ10 [row15, [(g9, .cells #[ii 7, ii 0, ii 0, ii 0, ii 0, ii 0, ii m.n, ii 0, ii 0, .string ByteArray.empty, .slice A13 x12.length c14, .slice none 0 0, .slice none 0 0, .slice none 0 0, .slice none 0 0] 40 (0, 0))], rown, rowdk0, [(ganswer0, .cells #[(pq gn)] 27 (0, 0))], [(ganswer1, .cells #[ii answer1.kind, ii answer1.from_.site, ii answer1.from_.node, ii answer1.to_.site, ii answer1.to_.node, ii answer1.id, ii answer1.n, ii answer1.for_, ii answer1.code, .string answer1.key, .slice Aanswer1_10 answer1.recs.length canswer1_10, .slice Aanswer1_11 answer1.vec.length canswer1_11, .slice Aanswer1_12 answer1.path.length canswer1_12, .slice Aanswer1_13 answer1.hashes.length canswer1_13, .slice Aanswer1_14 answer1.route.length canswer1_14] 40 (0, 0))], [(ganswer2, .cells #[.slice Aanswer2v answer2v.length canswer2v] 34 (0, 0))], rowanswer2v] w ∧ Gh.le Γ4 Γ10 ∧ Own recT Γ10 45 row15 A13 c14 x12 ∧ True) ?_ ?_
 ·
  refine WC.rs (sV (q_fl 6 fld_40_4) (k:=sV (ldV 3 isAgg2) (k:=?_)))
  obtain ⟨z17, hz18, h⟩ := bnd h
  refine vqV (caV call61) (fun w hw => t_node_part (Γ := Gh.all w) m.n hm.2.2.2.2.2.2.1 (Sat.all w) hz18) (k:=WR.done ?_)
  refine ciV h (fun hb19 h => ?_) (fun hb19 h => ?_)
  ·
   refine WC.region ?_
   refine mV (k:=sV (q_fl 6 fld_40_4) (k:=sV (ldV 3 isAgg2) (k:=?_)))
   obtain ⟨z20, hz21, h⟩ := bnd h
   refine ecV [1] (caV call15) (fun w hp => t_node_Node_Recs (hn.mono hl5) m.n hm.2.2.2.2.2.2.1 hp hz21) ?_
   rintro Γ22 U24 v25 hl23 ⟨A26, c27, row28, rfl, rfl, hr29, _⟩
   refine cwV 19 [_, _, _, _, _, _, _, _, _] (sV (q_fl 10 fld_40_8) (k:=stV 2 (.slice A26 z20.length c27) #[ii 7, ii 0, ii 0, ii 0, ii 0, ii 0, ii m.n, ii 0, ii 0, .string ByteArray.empty, .slice A26 z20.length c27, .slice none 0 0, .slice none 0 0, .slice none 0 0, .slice none 0 0] sizeOf22 (k:=?_)))
   refine WR.nil ?_
   intro w hw
   exact ⟨z20, Γ22, A26, c27, row28, h, (sl_ (by kernel_rfl)), (hw.only (is := [1, 1, 0, 0, 1, 1, 1, 1]) rfl), hl23, hr29, trivial⟩
  refine WC.skip ?_
  intro w hw
  have hw := hw.pad
  exact ⟨[], Γ4, none, 0, [], h, (sl_ (by kernel_rfl)), (hw.only (is := [0, 0, 0, 0, 1, 1, 1, 1]) rfl), (Gh.refl _), (Own.nil recT _ 45), trivial⟩
 rintro σ w ⟨x12, Γ10, A13, c14, row15, h, hsl, hw, hl11, ho16, -⟩
 refine Wpt.slots hsl ?_
 refine WC.here (C := CC F Γ10 [_, _, _, _, _, _, _, _]) ?_ hw
 clear hw hsl
 refine WC.region ?_
 refine mU (v := .func (.func 41) #[] #[(pq ganswer0), (pq ganswer1), (pq ganswer2)]) (k:=sV (ldaV 1 [ii 7, ii 0, ii 0, ii 0, ii 0, ii 0, ii m.n, ii 0, ii 0, .string ByteArray.empty, .slice A13 x12.length c14, .slice none 0 0, .slice none 0 0, .slice none 0 0, .slice none 0 0] isAgg40 sizeOf40) (k:=?_))
 have hc34 := ho16.capz
 intro w hw; obtain ⟨Γ30, hw, hl31, hr32⟩ := hw.seal (i := 0) rfl; have hs33 := ho16.sl hl31 hr32
 refine WR.here (C := CC F Γ30 [_, _, _, _, _, _, _, _]) ?_ hw
 clear hw
 obtain ⟨z35, hz36, h⟩ := bnd h
 refine ecV [4, 2, 3, 3, 3] (call_run_fv (caps := #[(pq ganswer0), (pq ganswer1), (pq ganswer2)]) call41 rfl (by kernel_rfl) (by kernel_rfl)) (fun w hp => t_node_Node_Handle_1 (Aa11 := none) (ca11 := 0) (Aa12 := none) (ca12 := 0) (Aa13 := none) (ca13 := 0) (Aa14 := none) (ca14 := 0) (⟨7, (⟨0, 0⟩ : Adr), (⟨0, 0⟩ : Adr), 0, m.n, 0, 0, ByteArray.empty, x12, [], [], [], []⟩ : Dapi_Msg) ⟨(show I64 7 by decide), (show I64 0 by decide), (show I64 0 by decide), (show I64 0 by decide), (show I64 0 by decide), (show I64 0 by decide), hm.2.2.2.2.2.2.1, (show I64 0 by decide), (show I64 0 by decide), (show (ByteArray.empty : ByteArray).size ≤ lim by decide), ⟨hc34, hs33⟩, ⟨Nat.zero_le _, Sl.nil _ _ _⟩, ⟨Nat.zero_le _, Sl.nil _ _ _⟩, ⟨Nat.zero_le _, Sl.nil _ _ _⟩, ⟨Nat.zero_le _, Sl.nil _ _ _⟩⟩ (hn.mono ((hl5.trans hl11).trans hl31)) answer1 (by exact (Dapi_Msg.fits_mono hanswer1 ((hl5.trans hl11).trans hl31))) (hanswer2v.mono ((hl5.trans hl11).trans hl31)) hp hz36) ?_
 rintro Γ37 U39 v40 hl38 ⟨A41, c42, row43, rfl, rfl, hr44, _⟩
 refine cwV 23 [_, _, _, _, _, _, _, _] ?_
 refine WR.nil ?_
 intro w hw
 obtain rfl := Option.some.inj h
 subst hF
 exact end_e (is := [1, 0, 0, 0, 0, 2]) (by kernel_rfl) hw rfl ⟨A41, c42, row43, rfl, rfl, hr44, trivial⟩
abbrev r_node_Format (gd : Nat) (ed : Nat) (r : Odisk_Disk × Int) (U : List Rowb) (Γ : Gh) (v : Value) : Prop := ∃ (rowd' : Rowb), v = .int .i64 r.2 ∧ U = [rowd'] ∧ Odisk_Disk.ob ed Γ gd rowd' r.1 ∧ I64 r.2 ∧ True
theorem t_node_Format {Γ : Gh} {w0 : World} {gd ed : Nat} {rowd : Rowb} {d : Odisk_Disk} (hd : Odisk_Disk.ob ed Γ gd rowd d) (hp : Pre [rowd] Γ w0) {r : Odisk_Disk × Int} (h : m_node_Format d = some r) : Calls Tryz.prog 65 #[(pq gd)] w0 (Outc Γ [rowd] w0 (r_node_Format gd ed r)) := by
 refine go_ (n := 20) (rs := [2]) (args := [(pq gd)]) func65 rfl ntmps65 results65 rfl hp fun F hF => ?_
 refine WC.rs (aV (k:=WR.done (WC.seq (WC.rs (mV (k:=?_))))))
 obtain ⟨z1, hz2, h⟩ := bnd h
 refine ecV [0] (caV call39) (fun w hp => t_disk_Disk_Read hd (⟨#[111, 107]⟩ : ByteArray) (show (⟨#[111, 107]⟩ : ByteArray).size ≤ lim by decide) hp hz2) ?_
 rintro Γ3 U5 v6 hl4 ⟨A7, c8, row9, rfl, rfl, hr10, _⟩
 refine cwV 8 [_, _] (mV (k:=sV exV (k:=sV exV (k:=aV (k:=aV (k:=WR.done (WC.rs ?_)))))))
 refine mV (k:=WR.done ?_)
 refine ciV h (fun hb11 h => ?_) (fun hb11 h => ?_)
 ·
  refine WC.rs (aV (k:=WR.done ?_))
  exact WC.ret fun w hw => re_ r [0] h hF hw ⟨rowd, rfl, rfl, (hd.mono hl4), (show I64 0 by decide), trivial⟩
 refine WC.skip (wc_ ?_)
 refine WC.seq (WC.rs (mV (k:=?_)))
 refine bsV #[.int .u8 1] 5 ?_
 intro g12
 have ho13 : Own byteT Γ3 5 [(g12, .cells #[.int .u8 1] 5 (0, 0))] (some ⟨g12, 0, none⟩) 1 [(b8 1)] := Own.of_blockL (T := byteT) (ys := [(b8 1)]) [[.int .u8 1]] rfl (show 1 ≤ lim by decide) (show Ty.rd byteT Γ3 [.int .u8 1] (b8 1) ∧ True from ⟨(by show [Value.int .u8 1] = [Value.int .u8 _]; rw [b8_val (by decide)]), trivial⟩)
 have hc18 := ho13.capz
 intro w hw; obtain ⟨Γ14, hw, hl15, hr16⟩ := hw.seal (i := 0) rfl; have hs17 := ho13.sl hl15 hr16
 refine WR.here (C := CC F Γ14 [_, _, _]) ?_ hw
 clear hw
 obtain ⟨z19, hz20, h⟩ := bnd h
 refine ecV [1] (caV call110) (fun w hp => t_disk_Disk_Append (hd.mono (hl4.trans hl15)) (⟨#[111, 107]⟩ : ByteArray) (show (⟨#[111, 107]⟩ : ByteArray).size ≤ lim by decide) hs17 hc18 hp hz20) ?_
 rintro Γ21 U23 v24 hl22 ⟨row25, rfl, rfl, hr26, hr27, _⟩
 refine cwV 14 [_, _, _] (aV (k:=WR.done (WC.rs (mV (k:=sV q_neq (k:=WR.done ?_))))))
 refine ciV h (fun hb28 h => ?_) (fun hb28 h => ?_)
 ·
  refine WC.rs (mV (k:=aV (k:=WR.done ?_)))
  exact WC.ret fun w hw => re_ r [0] h hF hw ⟨row25, rfl, rfl, hr26, hr27, trivial⟩
 refine WC.skip (wc_ ?_)
 refine WC.rs (mV (k:=?_))
 obtain ⟨z29, hz30, h⟩ := bnd h
 refine ecV [0] (caV call92) (fun w hp => t_disk_Disk_Sync hr26 hp hz30) ?_
 rintro Γ31 U33 v34 hl32 ⟨row35, rfl, rfl, hr36, _⟩
 refine cwV 19 [_, _, _] (WR.done (WC.rs (aV (k:=WR.done ?_))))
 exact WC.ret fun w hw => re_ r [0] h hF hw ⟨row35, rfl, rfl, hr36, (show I64 0 by decide), trivial⟩
abbrev r_node_Node_bless (gn : Nat) (en : Nat × Nat) (rown : Rowb) (ganswer0 : Nat) (ganswer1 : Nat) (Aanswer1_10 : Option Addr) (canswer1_10 : Nat) (Aanswer1_11 : Option Addr) (canswer1_11 : Nat) (Aanswer1_12 : Option Addr) (canswer1_12 : Nat) (Aanswer1_13 : Option Addr) (canswer1_13 : Nat) (Aanswer1_14 : Option Addr) (canswer1_14 : Nat) (answer1 : Dapi_Msg) (ganswer2 : Nat) (Aanswer2v : Option Addr) (canswer2v : Nat) (answer2v : List Dapi_Msg) (rowanswer2v : Rowb) (edk0 : Nat) (r : (List Dapi_Msg) × Odisk_Disk) (U : List Rowb) (Γ : Gh) (v : Value) : Prop := ∃ (Aanswer2_0 : Option Addr), ∃ (canswer2_0 : Nat), ∃ (rowanswer2_0 : Rowb), ∃ (rowdk0' : Rowb), v = .tuple #[] ∧ U = [rown, [(ganswer0, .cells #[.pointer (some ⟨gn, 0, none⟩)] 27 (0, 0))], [(ganswer1, .cells #[.int .i64 answer1.kind, .int .i64 answer1.from_.site, .int .i64 answer1.from_.node, .int .i64 answer1.to_.site, .int .i64 answer1.to_.node, .int .i64 answer1.id, .int .i64 answer1.n, .int .i64 answer1.for_, .int .i64 answer1.code, .string answer1.key, .slice Aanswer1_10 answer1.recs.length canswer1_10, .slice Aanswer1_11 answer1.vec.length canswer1_11, .slice Aanswer1_12 answer1.path.length canswer1_12, .slice Aanswer1_13 answer1.hashes.length canswer1_13, .slice Aanswer1_14 answer1.route.length canswer1_14] 40 (0, 0))], [(ganswer2, .cells #[.slice Aanswer2_0 r.1.length canswer2_0] 34 (0, 0))], rowanswer2_0, rowdk0'] ∧ Own dapi_MsgT Γ 40 rowanswer2_0 Aanswer2_0 canswer2_0 r.1 ∧ Odisk_Disk.ob edk0 Γ en.2 rowdk0' r.2 ∧ True
theorem t_node_Node_bless {Γ : Gh} {w0 : World} {gn : Nat} {en : Nat × Nat} {rown : Rowb} {n : Onode_Node} (hn : Onode_Node.ob en Γ gn rown n) {Am10 : Option Addr} {cm10 : Nat} {Am11 : Option Addr} {cm11 : Nat} {Am12 : Option Addr} {cm12 : Nat} {Am13 : Option Addr} {cm13 : Nat} {Am14 : Option Addr} {cm14 : Nat} (m : Dapi_Msg) (hm : Dapi_Msg.fits Γ Am10 cm10 Am11 cm11 Am12 cm12 Am13 cm13 Am14 cm14 m) {ganswer0 : Nat}  {ganswer1 : Nat} {Aanswer1_10 : Option Addr} {canswer1_10 : Nat} {Aanswer1_11 : Option Addr} {canswer1_11 : Nat} {Aanswer1_12 : Option Addr} {canswer1_12 : Nat} {Aanswer1_13 : Option Addr} {canswer1_13 : Nat} {Aanswer1_14 : Option Addr} {canswer1_14 : Nat} (answer1 : Dapi_Msg) (hanswer1 : Dapi_Msg.fits Γ Aanswer1_10 canswer1_10 Aanswer1_11 canswer1_11 Aanswer1_12 canswer1_12 Aanswer1_13 canswer1_13 Aanswer1_14 canswer1_14 answer1) {ganswer2 : Nat} {Aanswer2v : Option Addr} {canswer2v : Nat} {rowanswer2v : Rowb} {answer2v : List Dapi_Msg} (hanswer2v : Own dapi_MsgT Γ 40 rowanswer2v Aanswer2v canswer2v answer2v) {edk0 : Nat} {rowdk0 : Rowb} {dk0 : Odisk_Disk} (hdk0 : Odisk_Disk.ob edk0 Γ en.2 rowdk0 dk0) (hp : Pre [rown, [(ganswer0, .cells #[(pq gn)] 27 (0, 0))], [(ganswer1, .cells #[ii answer1.kind, ii answer1.from_.site, ii answer1.from_.node, ii answer1.to_.site, ii answer1.to_.node, ii answer1.id, ii answer1.n, ii answer1.for_, ii answer1.code, .string answer1.key, .slice Aanswer1_10 answer1.recs.length canswer1_10, .slice Aanswer1_11 answer1.vec.length canswer1_11, .slice Aanswer1_12 answer1.path.length canswer1_12, .slice Aanswer1_13 answer1.hashes.length canswer1_13, .slice Aanswer1_14 answer1.route.length canswer1_14] 40 (0, 0))], [(ganswer2, .cells #[.slice Aanswer2v answer2v.length canswer2v] 34 (0, 0))], rowanswer2v, rowdk0] Γ w0) {r : (List Dapi_Msg) × Odisk_Disk} (h : m_node_Node_bless n m answer1 answer2v dk0 = some r) : Calls Tryz.prog 38 #[(pq gn), .agg #[ii m.kind, ii m.from_.site, ii m.from_.node, ii m.to_.site, ii m.to_.node, ii m.id, ii m.n, ii m.for_, ii m.code, .string m.key, .slice Am10 m.recs.length cm10, .slice Am11 m.vec.length cm11, .slice Am12 m.path.length cm12, .slice Am13 m.hashes.length cm13, .slice Am14 m.route.length cm14], .func (.func 41) #[] #[(pq ganswer0), (pq ganswer1), (pq ganswer2)]] w0 (Outc Γ [rown, [(ganswer0, .cells #[(pq gn)] 27 (0, 0))], [(ganswer1, .cells #[ii answer1.kind, ii answer1.from_.site, ii answer1.from_.node, ii answer1.to_.site, ii answer1.to_.node, ii answer1.id, ii answer1.n, ii answer1.for_, ii answer1.code, .string answer1.key, .slice Aanswer1_10 answer1.recs.length canswer1_10, .slice Aanswer1_11 answer1.vec.length canswer1_11, .slice Aanswer1_12 answer1.path.length canswer1_12, .slice Aanswer1_13 answer1.hashes.length canswer1_13, .slice Aanswer1_14 answer1.route.length canswer1_14] 40 (0, 0))], [(ganswer2, .cells #[.slice Aanswer2v answer2v.length canswer2v] 34 (0, 0))], rowanswer2v, rowdk0] w0 (r_node_Node_bless gn en rown ganswer0 ganswer1 Aanswer1_10 canswer1_10 Aanswer1_11 canswer1_11 Aanswer1_12 canswer1_12 Aanswer1_13 canswer1_13 Aanswer1_14 canswer1_14 answer1 ganswer2 Aanswer2v canswer2v answer2v rowanswer2v edk0 r)) := by
 refine go_ (n := 32) (rs := []) (args := [(pq gn), .agg #[ii m.kind, ii m.from_.site, ii m.from_.node, ii m.to_.site, ii m.to_.node, ii m.id, ii m.n, ii m.for_, ii m.code, .string m.key, .slice Am10 m.recs.length cm10, .slice Am11 m.vec.length cm11, .slice Am12 m.path.length cm12, .slice Am13 m.hashes.length cm13, .slice Am14 m.route.length cm14], .func (.func 41) #[] #[(pq ganswer0), (pq ganswer1), (pq ganswer2)]]) func38 rfl ntmps38 results38 rfl hp fun F hF => ?_
 refine WC.rs ?_
 refine bxV (v := .agg #[ii m.kind, ii m.from_.site, ii m.from_.node, ii m.to_.site, ii m.to_.node, ii m.id, ii m.n, ii m.for_, ii m.code, .string m.key, .slice Am10 m.recs.length cm10, .slice Am11 m.vec.length cm11, .slice Am12 m.path.length cm12, .slice Am13 m.hashes.length cm13, .slice Am14 m.route.length cm14]) ?_
 intro g1
 refine WR.done (WC.seq (WC.seq ?_))
 have hq := hn
 obtain ⟨g4_2, r4_2, m5_2, r5_2, m6_2, r6_2, hrow_2, ho0_2, ho1_2, ho2_2, ho3_2, ho4_2, ho5_2, -⟩ := hq
 intro w hw; have hw := hw.unfold (i := 1) rfl hrow_2
 refine WC.here (C := CC F Γ [_, _, _, _, _, _, _, _, _, _]) ?_ hw
 clear hw
 refine WC.dr (by kernel_rfl) (by kernel_rfl) (fun w hw => hw.drawn _) ?_
 refine zV (q_fl 6 fld_40_4) (k:=zV (ldV 4 isAgg2) (k:=zV moV (k:=zV nlV (k:=zV (q_fl 0 fld_74_0) (k:=zV (ldV 0 isAgg2) (k:=zV q_neq (k:=?_)))))))
 refine WQ.nil ?_
 change WC _ _ _ _ _ _
 refine ciV h (fun hb3 h => ?_) (fun hb3 h => ?_)
 ·
  refine WC.ret ?_
  intro w hw
  have hw := hw.fold (is := [0, 0, 0, 0]) rfl hrow_2
  exact re_ r [0, 1, 1, 1, 1, 1] h hF hw ⟨Aanswer2v, canswer2v, rowanswer2v, rowdk0, rfl, rfl, hanswer2v, hdk0, trivial⟩
 refine WC.skip (wc_ ?_)
 refine WC.seq (WC.rs (mV (k:=sV nlV (k:=sV (q_fl 1 fld_74_1) (k:=sV (ldV 0 isAgg25) (k:=?_))))))
 obtain ⟨z5, hz6, h⟩ := bnd h
 refine ecV [9] (caV call65) (fun w hp => t_node_Format hdk0 hp hz6) ?_
 rintro Γ7 U9 v10 hl8 ⟨row11, rfl, rfl, hr12, hr13, _⟩
 refine cwV 18 [_, _, _, _, _, _, _, _, _, _] (aV (k:=WR.done (WC.rs (mV (k:=sV q_neq (k:=WR.done ?_))))))
 refine ciV h (fun hb14 h => ?_) (fun hb14 h => ?_)
 ·
  refine WC.rs (mU (v := .func (.func 41) #[] #[(pq ganswer0), (pq ganswer1), (pq ganswer2)]) (k:=mV (k:=sV (q_build' (v := .agg #[ii 3, ii 0, ii 0, ii 0, ii 0, ii 0, ii 0, ii 0, ii z5.2, .string ByteArray.empty, .slice none 0 0, .slice none 0 0, .slice none 0 0, .slice none 0 0, .slice none 0 0]) rfl (bargs2 rfl rfl) (fun w => by kernel_rfl)) (k:=?_))))
  intro w hw; have hw := hw.fold (is := [1, 1, 1, 1]) rfl hrow_2
  refine WR.here (C := CC F Γ7 [_, _, _, _, _, _, _]) ?_ hw
  clear hw
  obtain ⟨z16, hz17, h⟩ := bnd h
  refine ecV [3, 0, 2, 2, 2] (call_run_fv (caps := #[(pq ganswer0), (pq ganswer1), (pq ganswer2)]) call41 rfl (by kernel_rfl) (by kernel_rfl)) (fun w hp => t_node_Node_Handle_1 (Aa10 := none) (ca10 := 0) (Aa11 := none) (ca11 := 0) (Aa12 := none) (ca12 := 0) (Aa13 := none) (ca13 := 0) (Aa14 := none) (ca14 := 0) (⟨3, (⟨0, 0⟩ : Adr), (⟨0, 0⟩ : Adr), 0, 0, 0, z5.2, ByteArray.empty, [], [], [], [], []⟩ : Dapi_Msg) ⟨(show I64 3 by decide), (show I64 0 by decide), (show I64 0 by decide), (show I64 0 by decide), (show I64 0 by decide), (show I64 0 by decide), (show I64 0 by decide), (show I64 0 by decide), hr13, (show (ByteArray.empty : ByteArray).size ≤ lim by decide), ⟨Nat.zero_le _, Sl.nil _ _ _⟩, ⟨Nat.zero_le _, Sl.nil _ _ _⟩, ⟨Nat.zero_le _, Sl.nil _ _ _⟩, ⟨Nat.zero_le _, Sl.nil _ _ _⟩, ⟨Nat.zero_le _, Sl.nil _ _ _⟩⟩ (hn.mono hl8) answer1 (by exact (Dapi_Msg.fits_mono hanswer1 hl8)) (hanswer2v.mono hl8) hp hz17) ?_
  rintro Γ18 U20 v21 hl19 ⟨A22, c23, row24, rfl, rfl, hr25, _⟩
  refine cwV 24 [_, _, _, _, _, _, _] (WR.done ?_)
  exact WC.ret fun w hw => re_ r [1, 0, 0, 0, 0, 0] h hF hw ⟨A22, c23, row24, row11, rfl, rfl, hr25, (hr12.mono hl19), trivial⟩
 refine WC.skip (wc_ ?_)
 refine WC.region ?_
 refine mU (v := .func (.func 41) #[] #[(pq ganswer0), (pq ganswer1), (pq ganswer2)]) (k:=mV (k:=sV nlV (k:=sV (q_fl 0 fld_74_0) (k:=sV (ldV 1 isAgg2) (k:=sV (q_build' (v := .agg #[ii 2, ii 0, ii 0, ii 0, ii 0, ii 0, ii n.life, ii 0, ii 0, .string ByteArray.empty, .slice none 0 0, .slice none 0 0, .slice none 0 0, .slice none 0 0, .slice none 0 0]) rfl (bargs2 rfl rfl) (fun w => by kernel_rfl)) (k:=?_))))))
 intro w hw; have hw := hw.fold (is := [1, 1, 1, 1]) rfl hrow_2
 refine WR.here (C := CC F Γ7 [_, _, _, _, _, _, _]) ?_ hw
 clear hw
 obtain ⟨z27, hz28, h⟩ := bnd h
 refine ecV [3, 0, 2, 2, 2] (call_run_fv (caps := #[(pq ganswer0), (pq ganswer1), (pq ganswer2)]) call41 rfl (by kernel_rfl) (by kernel_rfl)) (fun w hp => t_node_Node_Handle_1 (Aa10 := none) (ca10 := 0) (Aa11 := none) (ca11 := 0) (Aa12 := none) (ca12 := 0) (Aa13 := none) (ca13 := 0) (Aa14 := none) (ca14 := 0) (⟨2, (⟨0, 0⟩ : Adr), (⟨0, 0⟩ : Adr), 0, n.life, 0, 0, ByteArray.empty, [], [], [], [], []⟩ : Dapi_Msg) ⟨(show I64 2 by decide), (show I64 0 by decide), (show I64 0 by decide), (show I64 0 by decide), (show I64 0 by decide), (show I64 0 by decide), ho0_2, (show I64 0 by decide), (show I64 0 by decide), (show (ByteArray.empty : ByteArray).size ≤ lim by decide), ⟨Nat.zero_le _, Sl.nil _ _ _⟩, ⟨Nat.zero_le _, Sl.nil _ _ _⟩, ⟨Nat.zero_le _, Sl.nil _ _ _⟩, ⟨Nat.zero_le _, Sl.nil _ _ _⟩, ⟨Nat.zero_le _, Sl.nil _ _ _⟩⟩ (hn.mono hl8) answer1 (by exact (Dapi_Msg.fits_mono hanswer1 hl8)) (hanswer2v.mono hl8) hp hz28) ?_
 rintro Γ29 U31 v32 hl30 ⟨A33, c34, row35, rfl, rfl, hr36, _⟩
 refine cwV 31 [_, _, _, _, _, _, _] ?_
 refine WR.nil ?_
 intro w hw
 obtain rfl := Option.some.inj h
 subst hF
 exact end_e (is := [1, 0, 0, 0, 0, 0]) (by kernel_rfl) hw rfl ⟨A33, c34, row35, row11, rfl, rfl, hr36, (hr12.mono hl30), trivial⟩
abbrev r_node_Node_Handle (gn : Nat) (en : Nat × Nat) (edk0 : Nat) (r : Onode_Node × Odisk_Disk × (List Dapi_Msg)) (U : List Rowb) (Γ : Gh) (v : Value) : Prop := ∃ (rown' : Rowb), ∃ (rowdk0' : Rowb), ∃ (A0 : Option Addr), ∃ (c0 : Nat), ∃ (row0 : Rowb), v = .slice A0 r.2.2.length c0 ∧ U = [rown', rowdk0', row0] ∧ Onode_Node.ob en Γ gn rown' r.1 ∧ Odisk_Disk.ob edk0 Γ en.2 rowdk0' r.2.1 ∧ Own dapi_MsgT Γ 40 row0 A0 c0 r.2.2 ∧ True
theorem t_node_Node_Handle {Γ : Gh} {w0 : World} {gn : Nat} {en : Nat × Nat} {rown : Rowb} {n : Onode_Node} (hn : Onode_Node.ob en Γ gn rown n) {Am10 : Option Addr} {cm10 : Nat} {Am11 : Option Addr} {cm11 : Nat} {Am12 : Option Addr} {cm12 : Nat} {Am13 : Option Addr} {cm13 : Nat} {Am14 : Option Addr} {cm14 : Nat} (m : Dapi_Msg) (hm : Dapi_Msg.fits Γ Am10 cm10 Am11 cm11 Am12 cm12 Am13 cm13 Am14 cm14 m) {edk0 : Nat} {rowdk0 : Rowb} {dk0 : Odisk_Disk} (hdk0 : Odisk_Disk.ob edk0 Γ en.2 rowdk0 dk0) (hp : Pre [rown, rowdk0] Γ w0) {r : Onode_Node × Odisk_Disk × (List Dapi_Msg)} (h : m_node_Node_Handle n m dk0 = some r) : Calls Tryz.prog 13 #[(pq gn), .agg #[ii m.kind, ii m.from_.site, ii m.from_.node, ii m.to_.site, ii m.to_.node, ii m.id, ii m.n, ii m.for_, ii m.code, .string m.key, .slice Am10 m.recs.length cm10, .slice Am11 m.vec.length cm11, .slice Am12 m.path.length cm12, .slice Am13 m.hashes.length cm13, .slice Am14 m.route.length cm14]] w0 (Outc Γ [rown, rowdk0] w0 (r_node_Node_Handle gn en edk0 r)) := by
 refine go_ (n := 44) (rs := [4]) (args := [(pq gn), .agg #[ii m.kind, ii m.from_.site, ii m.from_.node, ii m.to_.site, ii m.to_.node, ii m.id, ii m.n, ii m.for_, ii m.code, .string m.key, .slice Am10 m.recs.length cm10, .slice Am11 m.vec.length cm11, .slice Am12 m.path.length cm12, .slice Am13 m.hashes.length cm13, .slice Am14 m.route.length cm14]]) func13 rfl ntmps13 results13 rfl hp fun F hF => ?_
 refine WC.rs ?_
 refine bxV (v := (pq gn)) ?_
 intro g1
 refine bxV (v := .agg #[ii m.kind, ii m.from_.site, ii m.from_.node, ii m.to_.site, ii m.to_.node, ii m.id, ii m.n, ii m.for_, ii m.code, .string m.key, .slice Am10 m.recs.length cm10, .slice Am11 m.vec.length cm11, .slice Am12 m.path.length cm12, .slice Am13 m.hashes.length cm13, .slice Am14 m.route.length cm14]) ?_
 intro g2
 refine aV (k:=WR.done (WC.seq (WC.seq ?_)))
 have hq := hn
 obtain ⟨g4_3, r4_3, m5_3, r5_3, m6_3, r6_3, hrow_3, ho0_3, ho1_3, ho2_3, ho3_3, ho4_3, ho5_3, -⟩ := hq
 intro w hw; have hw := hw.unfold (i := 2) rfl hrow_3
 refine WC.here (C := CC F Γ [_, _, _, _, _, _, _]) ?_ hw
 clear hw
 refine WC.dr (by kernel_rfl) (by kernel_rfl) (fun w hw => hw.drawn _) ?_
 refine zV (ldaV 4 [ii m.kind, ii m.from_.site, ii m.from_.node, ii m.to_.site, ii m.to_.node, ii m.id, ii m.n, ii m.for_, ii m.code, .string m.key, .slice Am10 m.recs.length cm10, .slice Am11 m.vec.length cm11, .slice Am12 m.path.length cm12, .slice Am13 m.hashes.length cm13, .slice Am14 m.route.length cm14] isAgg40 sizeOf40) (k:=?_)
 obtain ⟨z4, hz5, h⟩ := bnd h
 refine wc rfl rfl rfl (q_call (caV call40) (fun w hw => t_code_RightMsg (Γ := Gh.all w) m (Dapi_Msg.fits_mono hm hw.sat.le_all) (Sat.all w) hz5)) (zV q_not (k:=zV moV (k:=wG0 (h:=fun hg6 => q_fl 3 fld_40_2) (k:=wG0 (h:=fun hg7 => ldaV 4 [ii m.to_.site, ii m.to_.node] isAgg32 sizeOf32 (hx:=grV hg7)) (k:=wG0 (h:=fun hg8 => ldV 5 isAgg27) (k:=wG0 (h:=fun hg9 => nlV (hv:=grV hg9)) (k:=wG0 (h:=fun hg10 => q_fl 2 fld_74_2 rfl (grV hg10)) (k:=?_))))))))
 refine wG0 (h:=fun hg11 => ldaV 0 [ii n.self_site, ii n.self_node] isAgg32 sizeOf32 (hx:=grV hg11)) (k:=wG0 (h:=fun hg12 => q_neq_Adr (a := m.to_) (b := (⟨n.self_site, n.self_node⟩ : Adr)) rfl (grV hg12) (grV hg12)) (k:=zV pkO (k:=zV moV (k:=wG0 (h:=fun hg13 => q_fl 1 fld_40_1) (k:=wG0 (h:=fun hg14 => q_fl 1 fld_32_0 rfl (grV hg14)) (k:=wG0 (h:=fun hg15 => ldV 4 isAgg3 (hx:=grV hg15)) (k:=wG0 (h:=fun hg16 => ldV 5 isAgg27) (k:=?_))))))))
 refine wG0 (h:=fun hg17 => nlV (hv:=grV hg17)) (k:=wG0 (h:=fun hg18 => q_fl 2 fld_74_2 rfl (grV hg18)) (k:=wG0 (h:=fun hg19 => q_fl 2 fld_32_0 rfl (grV hg19)) (k:=wG0 (h:=fun hg20 => ldV 0 isAgg3 (hx:=grV hg20)) (k:=wG0 (h:=fun hg21 => q_neq rfl (grV hg21) (grV hg21)) (k:=zV pkO (k:=?_))))))
 refine WQ.nil ?_
 change WC _ _ _ _ _ _
 refine ciV h (fun hb22 h => ?_) (fun hb22 h => ?_)
 ·
  refine WC.rs (aV (k:=WR.done ?_))
  refine WC.ret ?_
  intro w hw
  have hw := hw.fold (is := [0, 0, 0, 0]) rfl hrow_3
  have hw := hw.pad
  exact re_ r [1, 3, 0] h hF hw ⟨rown, rowdk0, none, 0, [], rfl, rfl, hn, hdk0, (Own.nil dapi_MsgT _ 40), trivial⟩
 refine WC.skip (wc_ ?_)
 refine WC.rs ?_
 refine alV zeroValue34 ?_
 intro g24
 refine WR.done ?_
 intro w hw; have hw := hw.fold (is := [1, 1, 1, 1]) rfl hrow_3
 refine WC.here (C := CC F Γ [_, _, _, _, _]) ?_ hw
 clear hw
 refine WC.cut (fun σ w => ∃ (x28 : List Dapi_Msg), ∃ (o33 : Onode_Node), ∃ (o36 : Odisk_Disk), ∃ (Γ26 : Gh), ∃ (A29 : Option Addr), ∃ (c30 : Nat), ∃ (row31 : Rowb), ∃ (row34 : Rowb), ∃ (row37 : Rowb), m_node_Node_Handle_j1 x28 o33 o36 = some r ∧ slots σ [(5, (pq g24))] ∧ CC F Γ26 [row31, row34, [(g24, .cells #[.slice A29 x28.length c30] 34 (0, 0))], row37] w ∧ Gh.le Γ Γ26 ∧ Own dapi_MsgT Γ26 40 row31 A29 c30 x28 ∧ Onode_Node.ob en Γ26 gn row34 o33 ∧ Odisk_Disk.ob edk0 Γ26 en.2 row37 o36 ∧ True) ?_ ?_
 ·
  refine WC.seq ?_
  intro w hw; have h039 := hw.le
  refine WC.here (C := CC F Γ [_, _, _, _, _]) ?_ hw; clear hw
  refine held_ (CC F Γ [[(g24, .cells #[.slice none 0 0] 34 (0, 0))], [(g2, .cells #[ii m.kind, ii m.from_.site, ii m.from_.node, ii m.to_.site, ii m.to_.node, ii m.id, ii m.n, ii m.for_, ii m.code, .string m.key, .slice Am10 m.recs.length cm10, .slice Am11 m.vec.length cm11, .slice Am12 m.path.length cm12, .slice Am13 m.hashes.length cm13, .slice Am14 m.route.length cm14] 40 (0, 0))], [(g1, .cells #[(pq gn)] 27 (0, 0))]]) (bo_ [1, 1, 1] (Gh.refl _) h039) fun k => ?_
  change WH _ _ _ _ (CC F Γ [_, _, _, _, _]) _ 8 _ _
  refine hV 0 k (q:=ldV 2 isAgg27) (k:=hV 1 k (q:=nlV) (k:=hV 2 k (q:=q_fl 6 fld_74_5) (k:=hV 4 k (q:=q_fl 0 fld_40_0) (k:=hV 5 k (q:=ldV 1 isAgg3) (k:=wl_ 3 rfl ?_)))))
  have hq := hn
  obtain ⟨g4_40, r4_40, m5_40, r5_40, m6_40, r6_40, hrow_40, ho0_40, ho1_40, ho2_40, ho3_40, ho4_40, ho5_40, -⟩ := hq
  intro w hw; have hw := hw.unfold (i := 0) rfl hrow_40
  refine WR.here (C := CC F Γ [_, _, _, _, _, _, _, _]) ?_ hw
  clear hw
  refine sV (ldV 0 isAgg72) (k:=?_)
  refine WR.nil ?_
  refine nxV (bo_ [4, 4, 4] (Gh.refl _) h039) fun k => ?_
  refine wl_ 6 rfl ?_
  obtain hq41 | ⟨a42, hq41⟩ := opt_or (mget m.kind n.does)
  ·
   have h := optm_n hq41 h
   refine sV (q_lookup1 (v := .nilFunc) (MapO.miss ho5_40 .nilFunc hq41) rfl underlying72 zeroValue76 rfl rfl (i := 3) rfl) (k:=?_)
   refine WR.nil ?_
   refine nxV (bo_ [4, 4, 4] (Gh.refl _) h039) fun k => ?_
   refine hV 7 k (q:=q_assign (v := .nilFunc) rfl (by kernel_rfl)) (k:=?_)
   refine WH.done (by kernel_rfl) ?_
   change WC _ _ _ _ _ _
   refine WC.rs (mU (v := .nilFunc) (k:=sV (q_nf_neq underlying76 rfl rfl rfl) (k:=WR.done ?_)))
   refine WC.cfk (b := false) (by kernel_rfl) rfl ?_
   refine WC.skip ?_
   intro w hw
   have hw := hw.fold (is := [0, 0, 0, 0]) rfl hrow_40
   have hw := hw.pad
   exact ⟨[], n, dk0, Γ, none, 0, [], rown, rowdk0, h, (sl_ (by kernel_rfl)), (hw.only (is := [0, 0, 0, 2]) rfl), (Gh.refl _), (Own.nil dapi_MsgT _ 40), hn, hdk0, trivial⟩
  have h := optm_s hq41 h
  refine (Bool.eq_false_or_eq_true (a42 == 32)).elim (fun hb47 => ?_) (fun hb47 => ?_)
  ·
   have h := bt hb47 h
   have hq48 : (mget m.kind n.does) = some 32 := hq41.trans (congrArg some (eq_of_beq hb47))
   obtain ⟨v44, hv45, hat46⟩ := MapO.hit ho5_40 .nilFunc hq48
   obtain rfl : v44 = .func (.func 32) #[(pq gn)] #[] := hv45
   refine sV (q_lookup1 (v := .func (.func 32) #[(pq gn)] #[]) hat46 rfl underlying72 zeroValue76 rfl rfl (i := 3) rfl) (k:=?_)
   refine WR.nil ?_
   refine nxV (bo_ [4, 4, 4] (Gh.refl _) h039) fun k => ?_
   refine hV 7 k (q:=q_assign (v := .func (.func 32) #[(pq gn)] #[]) rfl (by kernel_rfl)) (k:=?_)
   refine WH.done (by kernel_rfl) ?_
   change WC _ _ _ _ _ _
   refine WC.rs (mU (v := .func (.func 32) #[(pq gn)] #[]) (k:=sV (q_fn_neq underlying76 rfl rfl rfl) (k:=WR.done ?_)))
   refine WC.ctk (b := true) (by kernel_rfl) rfl ?_
   refine WC.region ?_
   refine mU (v := .func (.func 32) #[(pq gn)] #[]) (k:=sV (ldaV 5 [ii m.kind, ii m.from_.site, ii m.from_.node, ii m.to_.site, ii m.to_.node, ii m.id, ii m.n, ii m.for_, ii m.code, .string m.key, .slice Am10 m.recs.length cm10, .slice Am11 m.vec.length cm11, .slice Am12 m.path.length cm12, .slice Am13 m.hashes.length cm13, .slice Am14 m.route.length cm14] isAgg40 sizeOf40) (k:=sV (q_mkfn (v := .func (.func 41) #[] #[(pq g1), (pq g2), (pq g24)]) rfl (by kernel_rfl)) (k:=?_)))
   intro w hw; have hw := hw.fold (is := [0, 0, 0, 0]) rfl hrow_40
   refine WR.here (C := CC F Γ [_, _, _, _, _]) ?_ hw
   clear hw
   refine WR.sub (fun w hw => hw.pad) ?_
   obtain ⟨z50, hz51, h⟩ := bnd h
   refine ecV [1, 3, 2, 1, 0, 0] (call_run_fb (first := #[(pq gn)]) call32 rfl (by kernel_rfl) (by kernel_rfl)) (fun w hp => t_node_Node_put hn m hm  m (by exact hm) (Own.nil dapi_MsgT Γ 40) hdk0 hp hz51) ?_
   rintro Γ52 U54 v55 hl53 ⟨row56, A58, c59, row60, row62, rfl, rfl, hr57, hr61, hr63, _⟩
   refine cwV 42 [_, _, _, _, _, _] ?_
   refine WR.nil ?_
   intro w hw
   exact ⟨z50.2.1, z50.1, z50.2.2, Γ52, A58, c59, row60, row56, row62, h, (sl_ (by kernel_rfl)), (hw.only (is := [4, 0, 2, 2]) rfl), hl53, hr61, hr57, hr63, trivial⟩
  have h := bf hb47 h
  refine (Bool.eq_false_or_eq_true (a42 == 33)).elim (fun hb64 => ?_) (fun hb64 => ?_)
  ·
   have h := bt hb64 h
   have hq65 : (mget m.kind n.does) = some 33 := hq41.trans (congrArg some (eq_of_beq hb64))
   obtain ⟨v44, hv45, hat46⟩ := MapO.hit ho5_40 .nilFunc hq65
   obtain rfl : v44 = .func (.func 33) #[(pq gn)] #[] := hv45
   refine sV (q_lookup1 (v := .func (.func 33) #[(pq gn)] #[]) hat46 rfl underlying72 zeroValue76 rfl rfl (i := 3) rfl) (k:=?_)
   refine WR.nil ?_
   refine nxV (bo_ [4, 4, 4] (Gh.refl _) h039) fun k => ?_
   refine hV 7 k (q:=q_assign (v := .func (.func 33) #[(pq gn)] #[]) rfl (by kernel_rfl)) (k:=?_)
   refine WH.done (by kernel_rfl) ?_
   change WC _ _ _ _ _ _
   refine WC.rs (mU (v := .func (.func 33) #[(pq gn)] #[]) (k:=sV (q_fn_neq underlying76 rfl rfl rfl) (k:=WR.done ?_)))
   refine WC.ctk (b := true) (by kernel_rfl) rfl ?_
   refine WC.region ?_
   refine mU (v := .func (.func 33) #[(pq gn)] #[]) (k:=sV (ldaV 5 [ii m.kind, ii m.from_.site, ii m.from_.node, ii m.to_.site, ii m.to_.node, ii m.id, ii m.n, ii m.for_, ii m.code, .string m.key, .slice Am10 m.recs.length cm10, .slice Am11 m.vec.length cm11, .slice Am12 m.path.length cm12, .slice Am13 m.hashes.length cm13, .slice Am14 m.route.length cm14] isAgg40 sizeOf40) (k:=sV (q_mkfn (v := .func (.func 41) #[] #[(pq g1), (pq g2), (pq g24)]) rfl (by kernel_rfl)) (k:=?_)))
   intro w hw; have hw := hw.fold (is := [0, 0, 0, 0]) rfl hrow_40
   refine WR.here (C := CC F Γ [_, _, _, _, _]) ?_ hw
   clear hw
   refine WR.sub (fun w hw => hw.pad) ?_
   obtain ⟨z67, hz68, h⟩ := bnd h
   refine ecV [1, 3, 2, 1, 0, 0] (call_run_fb (first := #[(pq gn)]) call33 rfl (by kernel_rfl) (by kernel_rfl)) (fun w hp => t_node_Node_done hn m hm  m (by exact hm) (Own.nil dapi_MsgT Γ 40) hdk0 hp hz68) ?_
   rintro Γ69 U71 v72 hl70 ⟨row73, row75, rfl, rfl, hr74, hr76, _⟩
   refine cwV 42 [_, _, _, _, _, _] ?_
   refine WR.nil ?_
   intro w hw
   exact ⟨[], z67.1, z67.2, Γ69, none, 0, [], row73, row75, h, (sl_ (by kernel_rfl)), (hw.only (is := [4, 0, 2, 2]) rfl), hl70, ((Own.nil dapi_MsgT Γ 40).mono hl70), hr74, hr76, trivial⟩
  have h := bf hb64 h
  refine (Bool.eq_false_or_eq_true (a42 == 34)).elim (fun hb77 => ?_) (fun hb77 => ?_)
  ·
   have h := bt hb77 h
   have hq78 : (mget m.kind n.does) = some 34 := hq41.trans (congrArg some (eq_of_beq hb77))
   obtain ⟨v44, hv45, hat46⟩ := MapO.hit ho5_40 .nilFunc hq78
   obtain rfl : v44 = .func (.func 34) #[(pq gn)] #[] := hv45
   refine sV (q_lookup1 (v := .func (.func 34) #[(pq gn)] #[]) hat46 rfl underlying72 zeroValue76 rfl rfl (i := 3) rfl) (k:=?_)
   refine WR.nil ?_
   refine nxV (bo_ [4, 4, 4] (Gh.refl _) h039) fun k => ?_
   refine hV 7 k (q:=q_assign (v := .func (.func 34) #[(pq gn)] #[]) rfl (by kernel_rfl)) (k:=?_)
   refine WH.done (by kernel_rfl) ?_
   change WC _ _ _ _ _ _
   refine WC.rs (mU (v := .func (.func 34) #[(pq gn)] #[]) (k:=sV (q_fn_neq underlying76 rfl rfl rfl) (k:=WR.done ?_)))
   refine WC.ctk (b := true) (by kernel_rfl) rfl ?_
   refine WC.region ?_
   refine mU (v := .func (.func 34) #[(pq gn)] #[]) (k:=sV (ldaV 5 [ii m.kind, ii m.from_.site, ii m.from_.node, ii m.to_.site, ii m.to_.node, ii m.id, ii m.n, ii m.for_, ii m.code, .string m.key, .slice Am10 m.recs.length cm10, .slice Am11 m.vec.length cm11, .slice Am12 m.path.length cm12, .slice Am13 m.hashes.length cm13, .slice Am14 m.route.length cm14] isAgg40 sizeOf40) (k:=sV (q_mkfn (v := .func (.func 41) #[] #[(pq g1), (pq g2), (pq g24)]) rfl (by kernel_rfl)) (k:=?_)))
   intro w hw; have hw := hw.fold (is := [0, 0, 0, 0]) rfl hrow_40
   refine WR.here (C := CC F Γ [_, _, _, _, _]) ?_ hw
   clear hw
   refine WR.sub (fun w hw => hw.pad) ?_
   obtain ⟨z80, hz81, h⟩ := bnd h
   refine ecV [1, 3, 2, 1, 0, 0] (call_run_fb (first := #[(pq gn)]) call34 rfl (by kernel_rfl) (by kernel_rfl)) (fun w hp => t_node_Node_get hn m hm  m (by exact hm) (Own.nil dapi_MsgT Γ 40) hdk0 hp hz81) ?_
   rintro Γ82 U84 v85 hl83 ⟨A86, c87, row88, rfl, rfl, hr89, _⟩
   refine cwV 42 [_, _, _, _, _, _] ?_
   refine WR.nil ?_
   intro w hw
   exact ⟨z80, n, dk0, Γ82, A86, c87, row88, rown, rowdk0, h, (sl_ (by kernel_rfl)), (hw.only (is := [4, 0, 2, 2]) rfl), hl83, hr89, (hn.mono hl83), (hdk0.mono hl83), trivial⟩
  have h := bf hb77 h
  refine (Bool.eq_false_or_eq_true (a42 == 35)).elim (fun hb90 => ?_) (fun hb90 => ?_)
  ·
   have h := bt hb90 h
   have hq91 : (mget m.kind n.does) = some 35 := hq41.trans (congrArg some (eq_of_beq hb90))
   obtain ⟨v44, hv45, hat46⟩ := MapO.hit ho5_40 .nilFunc hq91
   obtain rfl : v44 = .func (.func 35) #[(pq gn)] #[] := hv45
   refine sV (q_lookup1 (v := .func (.func 35) #[(pq gn)] #[]) hat46 rfl underlying72 zeroValue76 rfl rfl (i := 3) rfl) (k:=?_)
   refine WR.nil ?_
   refine nxV (bo_ [4, 4, 4] (Gh.refl _) h039) fun k => ?_
   refine hV 7 k (q:=q_assign (v := .func (.func 35) #[(pq gn)] #[]) rfl (by kernel_rfl)) (k:=?_)
   refine WH.done (by kernel_rfl) ?_
   change WC _ _ _ _ _ _
   refine WC.rs (mU (v := .func (.func 35) #[(pq gn)] #[]) (k:=sV (q_fn_neq underlying76 rfl rfl rfl) (k:=WR.done ?_)))
   refine WC.ctk (b := true) (by kernel_rfl) rfl ?_
   refine WC.region ?_
   refine mU (v := .func (.func 35) #[(pq gn)] #[]) (k:=sV (ldaV 5 [ii m.kind, ii m.from_.site, ii m.from_.node, ii m.to_.site, ii m.to_.node, ii m.id, ii m.n, ii m.for_, ii m.code, .string m.key, .slice Am10 m.recs.length cm10, .slice Am11 m.vec.length cm11, .slice Am12 m.path.length cm12, .slice Am13 m.hashes.length cm13, .slice Am14 m.route.length cm14] isAgg40 sizeOf40) (k:=sV (q_mkfn (v := .func (.func 41) #[] #[(pq g1), (pq g2), (pq g24)]) rfl (by kernel_rfl)) (k:=?_)))
   intro w hw; have hw := hw.fold (is := [0, 0, 0, 0]) rfl hrow_40
   refine WR.here (C := CC F Γ [_, _, _, _, _]) ?_ hw
   clear hw
   refine WR.sub (fun w hw => hw.pad) ?_
   obtain ⟨z93, hz94, h⟩ := bnd h
   refine ecV [1, 3, 2, 1, 0, 0] (call_run_fb (first := #[(pq gn)]) call35 rfl (by kernel_rfl) (by kernel_rfl)) (fun w hp => t_node_Node_scan hn m hm  m (by exact hm) (Own.nil dapi_MsgT Γ 40) hdk0 hp hz94) ?_
   rintro Γ95 U97 v98 hl96 ⟨A99, c100, row101, rfl, rfl, hr102, _⟩
   refine cwV 42 [_, _, _, _, _, _] ?_
   refine WR.nil ?_
   intro w hw
   exact ⟨z93, n, dk0, Γ95, A99, c100, row101, rown, rowdk0, h, (sl_ (by kernel_rfl)), (hw.only (is := [4, 0, 2, 2]) rfl), hl96, hr102, (hn.mono hl96), (hdk0.mono hl96), trivial⟩
  have h := bf hb90 h
  refine (Bool.eq_false_or_eq_true (a42 == 38)).elim (fun hb103 => ?_) (fun hb103 => ?_)
  ·
   have h := bt hb103 h
   have hq104 : (mget m.kind n.does) = some 38 := hq41.trans (congrArg some (eq_of_beq hb103))
   obtain ⟨v44, hv45, hat46⟩ := MapO.hit ho5_40 .nilFunc hq104
   obtain rfl : v44 = .func (.func 38) #[(pq gn)] #[] := hv45
   refine sV (q_lookup1 (v := .func (.func 38) #[(pq gn)] #[]) hat46 rfl underlying72 zeroValue76 rfl rfl (i := 3) rfl) (k:=?_)
   refine WR.nil ?_
   refine nxV (bo_ [4, 4, 4] (Gh.refl _) h039) fun k => ?_
   refine hV 7 k (q:=q_assign (v := .func (.func 38) #[(pq gn)] #[]) rfl (by kernel_rfl)) (k:=?_)
   refine WH.done (by kernel_rfl) ?_
   change WC _ _ _ _ _ _
   refine WC.rs (mU (v := .func (.func 38) #[(pq gn)] #[]) (k:=sV (q_fn_neq underlying76 rfl rfl rfl) (k:=WR.done ?_)))
   refine WC.ctk (b := true) (by kernel_rfl) rfl ?_
   refine WC.region ?_
   refine mU (v := .func (.func 38) #[(pq gn)] #[]) (k:=sV (ldaV 5 [ii m.kind, ii m.from_.site, ii m.from_.node, ii m.to_.site, ii m.to_.node, ii m.id, ii m.n, ii m.for_, ii m.code, .string m.key, .slice Am10 m.recs.length cm10, .slice Am11 m.vec.length cm11, .slice Am12 m.path.length cm12, .slice Am13 m.hashes.length cm13, .slice Am14 m.route.length cm14] isAgg40 sizeOf40) (k:=sV (q_mkfn (v := .func (.func 41) #[] #[(pq g1), (pq g2), (pq g24)]) rfl (by kernel_rfl)) (k:=?_)))
   intro w hw; have hw := hw.fold (is := [0, 0, 0, 0]) rfl hrow_40
   refine WR.here (C := CC F Γ [_, _, _, _, _]) ?_ hw
   clear hw
   refine WR.sub (fun w hw => hw.pad) ?_
   obtain ⟨z106, hz107, h⟩ := bnd h
   refine ecV [1, 3, 2, 1, 0, 0] (call_run_fb (first := #[(pq gn)]) call38 rfl (by kernel_rfl) (by kernel_rfl)) (fun w hp => t_node_Node_bless hn m hm  m (by exact hm) (Own.nil dapi_MsgT Γ 40) hdk0 hp hz107) ?_
   rintro Γ108 U110 v111 hl109 ⟨A112, c113, row114, row116, rfl, rfl, hr115, hr117, _⟩
   refine cwV 42 [_, _, _, _, _, _] ?_
   refine WR.nil ?_
   intro w hw
   exact ⟨z106.1, n, z106.2, Γ108, A112, c113, row114, rown, row116, h, (sl_ (by kernel_rfl)), (hw.only (is := [4, 0, 2, 2]) rfl), hl109, hr115, (hn.mono hl109), hr117, trivial⟩
  have h := bf hb103 h
  cases h
 rintro σ w ⟨x28, o33, o36, Γ26, A29, c30, row31, row34, row37, h, hsl, hw, hl27, ho32, ho35, ho38, -⟩
 refine Wpt.slots hsl ?_
 refine WC.here (C := CC F Γ26 [_, _, _, _]) ?_ hw
 clear hw hsl
 refine WC.rs (sV (ldV 2 isAgg34) (k:=aV (k:=WR.done ?_)))
 exact WC.ret fun w hw => re_ r [1, 2, 0] h hF hw ⟨row34, row37, A29, c30, row31, rfl, rfl, ho35, ho38, ho32, trivial⟩
abbrev r_node_Node_Hints (gn : Nat) (en : Nat × Nat) (rown : Rowb) (r : List Rec) (U : List Rowb) (Γ : Gh) (v : Value) : Prop := ∃ (A0 : Option Addr), ∃ (c0 : Nat), ∃ (row0 : Rowb), v = .slice A0 r.length c0 ∧ U = [rown, row0] ∧ Own recT Γ 45 row0 A0 c0 r ∧ True
theorem t_node_Node_Hints {Γ : Gh} {w0 : World} {gn : Nat} {en : Nat × Nat} {rown : Rowb} {n : Onode_Node} (hn : Onode_Node.ob en Γ gn rown n) (f_ : Int) (hf_ : I64 f_) (hp : Pre [rown] Γ w0) {r : List Rec} (h : m_node_Node_Hints n f_ = some r) : Calls Tryz.prog 24 #[(pq gn), ii f_] w0 (Outc Γ [rown] w0 (r_node_Node_Hints gn en rown r)) := by
 refine go_ (n := 16) (rs := [4]) (args := [(pq gn), ii f_]) func24 rfl ntmps24 results24 rfl hp fun F hF => ?_
 refine WC.rs (aV (k:=WR.done (WC.seq (WC.rs (mV (k:=sV nlV (k:=sV (q_fl 5 fld_74_4) (k:=?_))))))))
 have hq := hn
 obtain ⟨g4_1, r4_1, m5_1, r5_1, m6_1, r6_1, hrow_1, ho0_1, ho1_1, ho2_1, ho3_1, ho4_1, ho5_1, -⟩ := hq
 intro w hw; have hw := hw.unfold (i := 0) rfl hrow_1
 refine WR.here (C := CC F Γ [_, _, _, _]) ?_ hw
 clear hw
 refine sV (ldV 0 isAgg71) (k:=mV (k:=?_))
 obtain hq3 | ⟨o2, hq3⟩ := opt_or (mget f_ n.hints)
 ·
  have h := optm_n hq3 h
  obtain ⟨rM4, hat5, hsub6⟩ := MapJ.no ho4_1 hq3
  refine sV (q_lookup1r (v := .pointer none) (fun w hw p hp => hw.at_ (i := 2) rfl (hsub6 p hp)) hat5 rfl underlying71 zeroValue68 rfl rfl) (k:=aV (k:=WR.done (WC.rs (mV (k:=sV (q_ptr_neq (a := none) underlying68 rfl rfl rfl) (k:=WR.done ?_))))))
  refine WC.cfk (b := false) (by kernel_rfl) rfl ?_
  refine WC.skip (wc_ ?_)
  refine WC.rs (aV (k:=WR.done ?_))
  refine WC.ret ?_
  intro w hw
  have hw := hw.fold (is := [0, 0, 0, 0]) rfl hrow_1
  have hw := hw.pad
  exact re_ r [1, 0] h hF hw ⟨none, 0, [], rfl, rfl, (Own.nil recT _ 45), trivial⟩
 have h := optm_s hq3 h
 obtain ⟨gs8, rM9, rA10, rS11, rB12, hat13, hsub14, hrow15, hm16, hback17⟩ := MapJ.part ho4_1 hq3
 have hm16 : Ostore_Store.ob (107, en.2) Γ gs8 rS11 o2 := hm16
 refine sV (q_lookup1r (v := (pq gs8)) (fun w hw p hp => hw.at_ (i := 2) rfl (by rw [hrow15]; exact List.mem_append.2 (.inl (hsub14 p hp)))) hat13 rfl underlying71 zeroValue68 rfl rfl) (k:=?_)
 intro w hw; have hw := hw.unfold (U := [rA10, rS11, rB12]) (i := 2) rfl (by rw [hrow15]; simp)
 refine WR.here (C := CC F Γ [_, _, _, _, _, _]) ?_ hw
 clear hw
 refine aV (k:=WR.done (WC.rs (mV (k:=sV (q_ptr_neq (a := some ⟨gs8, 0, none⟩) underlying68 rfl rfl rfl) (k:=WR.done ?_)))))
 refine WC.ctk (b := true) (by kernel_rfl) rfl ?_
 refine WC.rs (mV (k:=?_))
 obtain ⟨z18, hz19, h⟩ := bnd h
 refine ecV [1] (caV call42) (fun w hp => t_store_Store_Recs hm16 hp hz19) ?_
 rintro Γ20 U22 v23 hl21 ⟨A24, c25, row26, rfl, rfl, hr27, _⟩
 refine cwV 15 [_, _, _, _, _, _, _] (aV (k:=WR.done ?_))
 refine WC.ret ?_
 intro w hw
 have hw := hw.fold (is := [2, 0, 1]) rfl (show r5_1 = ([rA10, rS11, rB12] : List Rowb).flatten from by rw [hrow15]; simp)
 have hw := hw.fold (is := [2, 2, 0, 1]) rfl hrow_1
 exact re_ r [0, 0] h hF hw ⟨A24, c25, row26, rfl, rfl, hr27, trivial⟩
abbrev r_node_Node_Tick (gn : Nat) (en : Nat × Nat) (rown : Rowb) (r : List Dapi_Msg) (U : List Rowb) (Γ : Gh) (v : Value) : Prop := ∃ (A0 : Option Addr), ∃ (c0 : Nat), ∃ (row0 : Rowb), v = .slice A0 r.length c0 ∧ U = [rown, row0] ∧ Own dapi_MsgT Γ 40 row0 A0 c0 r ∧ True
theorem t_node_Node_Tick {Γ : Gh} {w0 : World} {gn : Nat} {en : Nat × Nat} {rown : Rowb} {n : Onode_Node} (hn : Onode_Node.ob en Γ gn rown n) (hp : Pre [rown] Γ w0) {r : List Dapi_Msg} (h : m_node_Node_Tick n = some r) : Calls Tryz.prog 21 #[(pq gn)] w0 (Outc Γ [rown] w0 (r_node_Node_Tick gn en rown r)) := by
 refine go_ (n := 38) (rs := [2]) (args := [(pq gn)]) func21 rfl ntmps21 results21 rfl hp fun F hF => ?_
 refine WC.rs (aV (k:=WR.done (WC.rs (aV (k:=WR.done (WC.seq (WC.rs ?_)))))))
 refine aV (k:=WR.done (WC.block ?_))
 refine WC.loopN h (fun (s : (List Dapi_Msg) × Int) σ w => match s with | (out_3, f_8) => ∃ (Γ1 : Gh), ∃ (A4 : Option Addr), ∃ (c5 : Nat), ∃ (row6 : Rowb), slots σ [(0, (pq gn)), (3, .slice A4 out_3.length c5), (4, ii f_8)] ∧ CC F Γ1 [row6, rown] w ∧ Gh.le Γ Γ1 ∧ Own dapi_MsgT Γ1 40 row6 A4 c5 out_3 ∧ I64 f_8 ∧ True) ?_ ?_
 ·
  intro w hw
  have hw := hw.pad
  exact ⟨Γ, none, 0, [], (sl_ (by kernel_rfl)), hw, (Gh.refl _), (Own.nil dapi_MsgT _ 40), (show I64 1 by decide), trivial⟩
 rintro f10 ⟨out_3, f_8⟩ σ w h ⟨Γ1, A4, c5, row6, hsl, hw, hl2, ho7, hr9, -⟩
 refine Wpt.slots hsl ?_
 refine WC.here (C := CC F Γ1 [_, _]) ?_ hw
 clear hw hsl
 refine WC.seq (WC.rs (mV (k:=sV q_leq (k:=WR.done ?_))))
 refine ciV h (fun hb14 h => ?_) (fun hb14 h => ?_)
 ·
  refine WC.skip (wc_ ?_)
  refine WC.seq (WC.block (WC.rs (mV (k:=mV (k:=?_)))))
  obtain ⟨z15, hz16, h⟩ := bnd h
  refine ecV [1] (caV call24) (fun w hp => t_node_Node_Hints (hn.mono hl2) f_8 hr9 hp hz16) ?_
  rintro Γ17 U19 v20 hl18 ⟨A21, c22, row23, rfl, rfl, hr24, _⟩
  refine cwV 13 [_, _, _] (sV (q_len_slice rfl underlying22) (k:=mV (k:=WR.done (WC.block ?_))))
  refine WC.forI h (fun (i33 : Nat) (out_27 : List Dapi_Msg) σ w => ∃ (Γ25 : Gh), ∃ (A28 : Option Addr), ∃ (c29 : Nat), ∃ (row30 : Rowb), slots σ [(0, (pq gn)), (3, .slice A28 out_27.length c29), (4, ii f_8), (13, .slice A21 z15.length c22), (14, ii ((z15.length : Nat) : Int)), (15, ii ((i33 : Nat) : Int))] ∧ CC F Γ25 [row30, rown, row23] w ∧ Gh.le Γ17 Γ25 ∧ Own dapi_MsgT Γ25 40 row30 A28 c29 out_27 ∧ True) ?_ ?_
  ·
   intro w hw
   exact ⟨Γ17, A4, c5, row6, (sl_ (by kernel_rfl)), (hw.only (is := [2, 0, 0]) rfl), (Gh.refl _), (ho7.mono hl18), trivial⟩
  rintro f32 i33 out_27 σ w hi34 hlt35 hge36 ⟨Γ25, A28, c29, row30, hsl, hw, hl26, ho31, -⟩
  refine Wpt.slots hsl ?_
  refine WC.here (C := CC F Γ25 [_, _, _]) ?_ hw
  clear hw hsl
  refine WC.rs (sV q_lss (k:=WR.done (WC.seq ?_)))
  refine WC.cond (b := (decide (((i33 : Nat) : Int) < ((z15.length : Nat) : Int)))) (by kernel_rfl) (fun hb37 => ?_) (fun hb37 => ?_)
  ·
   have hl38 := ilt hb37
   have h := hlt35 hl38
   refine WC.skip (wc_ ?_)
   refine WC.seq (WC.block (WC.rs (sV (q_ixn (i := i33) underlying22 sizeOf45 rfl rfl rfl hl38 ((hr24.mono hl26).some_ hl38)) (k:=?_))))
   obtain ⟨A39, c40, hx41⟩ := (hr24.mono hl26).recT_at i33
   refine sV (q_ldoa (c := 0) (vs := [.string (gt z15 i33).key, .slice A39 ((gt z15 i33).vers).length c40]) (i := 2) rfl (hx41 hl38).2 rfl isAgg45 sizeOf45 rfl rfl) (k:=?_)
   refine alV zeroValue45 ?_
   intro g42
   refine stV 0 (.agg #[.string (gt z15 i33).key, .slice A39 ((gt z15 i33).vers).length c40]) #[.string (gt z15 i33).key, .slice A39 ((gt z15 i33).vers).length c40] sizeOf45 (k:=WR.done ?_)
   have hq := (hn.mono ((hl2.trans hl18).trans hl26))
   obtain ⟨g4_43, r4_43, m5_43, r5_43, m6_43, r6_43, hrow_43, ho0_43, ho1_43, ho2_43, ho3_43, ho4_43, ho5_43, -⟩ := hq
   intro w hw; have hw := hw.unfold (i := 2) rfl hrow_43
   refine WC.here (C := CC F Γ25 [_, _, _, _, _, _, _]) ?_ hw
   clear hw
   intro w hw; have h044 := hw.le
   refine WC.here (C := CC F Γ25 [_, _, _, _, _, _, _]) ?_ hw; clear hw
   refine held_ (CC F Γ25 [[(gn, .cells #[ii n.life, .pointer (some ⟨en.2, 0, none⟩), ii n.self_site, ii n.self_node, (pq g4_43), .map (some m5_43), .map (some m6_43)] en.1 (0, 0))], r4_43, r6_43, [(g42, .cells #[.string (gt z15 i33).key, .slice A39 ((gt z15 i33).vers).length c40] 45 (0, 0))], row23]) (bo_ [0, 0, 1, 1, 2] (Gh.refl _) h044) fun k => ?_
   change WH _ _ _ _ (CC F Γ25 [_, _, _, _, _, _, _]) _ 18 _ _
   refine hV 0 k (q:=moV) (k:=hV 1 k (q:=moV) (k:=hV 2 k (q:=nlV) (k:=hV 3 k (q:=q_fl 2 fld_74_2) (k:=hV 4 k (q:=ldaV 0 [ii n.self_site, ii n.self_node] isAgg32 sizeOf32) (k:=hV 5 k (q:=moV) (k:=hV 6 k (q:=nlV) (k:=hV 7 k (q:=q_fl 2 fld_74_2) (k:=?_))))))))
   refine hV 8 k (q:=q_fl 2 fld_32_0) (k:=hV 9 k (q:=ldV 0 isAgg3) (k:=hV 10 k (q:=moV) (k:=hV 11 k (q:=q_build' (v := .agg #[ii n.self_site, ii f_8]) rfl (bargs2 rfl rfl) (fun w => by kernel_rfl)) (k:=hV 12 k (q:=ldaV 3 [.string (gt z15 i33).key, .slice A39 ((gt z15 i33).vers).length c40] isAgg45 sizeOf45) (k:=wl_ 13 rfl ?_)))))
   refine bsV #[.string (gt z15 i33).key, .slice A39 ((gt z15 i33).vers).length c40] 45 ?_
   intro g45
   refine WR.nil ?_
   refine nxV (bo_ [1, 1, 2, 2, 3] (Gh.refl _) h044) fun k => ?_
   refine hV 14 k (q:=q_build' (v := .agg #[ii 1, ii n.self_site, ii n.self_node, ii n.self_site, ii f_8, ii 0, ii 0, ii 0, ii 0, .string ByteArray.empty, .slice (some ⟨g45, 0, none⟩) 1 1, .slice none 0 0, .slice none 0 0, .slice none 0 0, .slice none 0 0]) rfl (bargs4 rfl rfl rfl rfl) (fun w => by kernel_rfl)) (k:=wl_ 15 rfl ?_)
   have ho46 : Own recT Γ25 45 [(g45, .cells #[.string (gt z15 i33).key, .slice A39 ((gt z15 i33).vers).length c40] 45 (0, 0))] (some ⟨g45, 0, none⟩) 1 [(gt z15 i33)] := Own.of_blockL (T := recT) (ys := [(gt z15 i33)]) [[.string (gt z15 i33).key, .slice A39 ((gt z15 i33).vers).length c40]] rfl (show 1 ≤ lim by decide) (show Ty.rd recT Γ25 [.string (gt z15 i33).key, .slice A39 ((gt z15 i33).vers).length c40] (gt z15 i33) ∧ True from ⟨⟨A39, c40, rfl, (hx41 hl38).1⟩, trivial⟩)
   have hc51 := ho46.capz
   intro w hw; obtain ⟨Γ47, hw, hl48, hr49⟩ := hw.seal (i := 0) rfl; have hs50 := ho46.sl hl48 hr49
   refine WR.here (C := CC F Γ47 [_, _, _, _, _, _, _, _]) ?_ hw
   clear hw
   refine bsV #[ii 1, ii n.self_site, ii n.self_node, ii n.self_site, ii f_8, ii 0, ii 0, ii 0, ii 0, .string ByteArray.empty, .slice (some ⟨g45, 0, none⟩) [(gt z15 i33)].length 1, .slice none 0 0, .slice none 0 0, .slice none 0 0, .slice none 0 0] 40 ?_
   intro g52
   refine WR.nil ?_
   refine nxV (bo_ [2, 2, 3, 3, 4] hl48 h044) fun k => ?_
   refine wl_ 16 rfl ?_
   obtain ⟨hk53, h⟩ := chk_some h
   refine e_append (T := dapi_MsgT) (xs := out_27) (ys := [(⟨1, (⟨n.self_site, n.self_node⟩ : Adr), (⟨n.self_site, f_8⟩ : Adr), 0, 0, 0, 0, ByteArray.empty, [(gt z15 i33)], [], [], [], []⟩ : Dapi_Msg)]) elem_34 (i := 7) rfl rfl rfl rfl rfl rfl rfl (ho31.mono hl48) (of_decide_eq_true hk53) (fun w hw => src_one (T := dapi_MsgT) (y := (⟨1, (⟨n.self_site, n.self_node⟩ : Adr), (⟨n.self_site, f_8⟩ : Adr), 0, 0, 0, 0, ByteArray.empty, [(gt z15 i33)], [], [], [], []⟩ : Dapi_Msg)) (i := 0) rfl (by exact ⟨(some ⟨g45, 0, none⟩), 1, none, 0, none, 0, none, 0, none, 0, rfl, ⟨(show I64 1 by decide), ho1_43, ho2_43, ho1_43, hr9, (show I64 0 by decide), (show I64 0 by decide), (show I64 0 by decide), (show I64 0 by decide), (show (ByteArray.empty : ByteArray).size ≤ lim by decide), ⟨hc51, hs50⟩, ⟨Nat.zero_le _, Sl.nil _ _ _⟩, ⟨Nat.zero_le _, Sl.nil _ _ _⟩, ⟨Nat.zero_le _, Sl.nil _ _ _⟩, ⟨Nat.zero_le _, Sl.nil _ _ _⟩⟩⟩) hw) ?_
   intro row54 A55 c56 ho57
   refine WR.nil ?_
   refine nxV (bo_ [2, 2, 3, 3, 4] hl48 h044) fun k => ?_
   refine hV 17 k (q:=aoV) (k:=?_)
   refine WH.done (by kernel_rfl) ?_
   change WC _ _ _ _ _ _
   refine WC.region ?_
   refine sV (q_add_r (r := ((i33 + 1 : Nat) : Int)) rfl rfl rfl (ctr_len hl38 (hr24.mono hl26).le)) (k:=mV (k:=?_))
   refine WR.nil ?_
   intro w hw
   have hw := hw.fold (is := [2, 2, 2, 2]) rfl hrow_43
   exact ⟨hl38, (out_27 ++ [(⟨1, (⟨n.self_site, n.self_node⟩ : Adr), (⟨n.self_site, f_8⟩ : Adr), 0, 0, 0, 0, ByteArray.empty, [(gt z15 i33)], [], [], [], []⟩ : Dapi_Msg)]), h, Γ47, A55, c56, row54, (sl_ (by kernel_rfl)), (hw.only (is := [4, 0, 3]) rfl), (hl26.trans hl48), ho57, trivial⟩
  have h := hge36 (ige hb37)
  refine WC.exit ?_
  change WC _ _ _ _ _ _
  refine WC.region ?_
  refine mV (k:=sV q_add (k:=aV (k:=?_)))
  refine WR.nil ?_
  intro w hw
  exact ⟨(out_27, (w64 (f_8 + 1))), h, Γ25, A28, c29, row30, (sl_ (by kernel_rfl)), (hw.only (is := [0, 0]) rfl), ((hl2.trans hl18).trans hl26), ho31, (w64_r _), trivial⟩
 refine WC.exit ?_
 change WC _ _ _ _ _ _
 refine WC.rs (mV (k:=aV (k:=WR.done ?_)))
 exact WC.ret fun w hw => re_ r [1, 0] h hF hw ⟨A4, c5, row6, rfl, rfl, ho7, trivial⟩
theorem t_firthlaw15_awake {Γ : Gh} {w0 : World}  (hs : Sat Γ w0) {r : Bool} (h : m_firthlaw15_awake = some r) : Calls Tryz.prog 7 #[] w0 (fun e w' => e = .returned (.bool r) ∧ Fr no w0 w') := by
 refine goq_ (n := 86) (rs := [0]) (args := []) func7 rfl ntmps7 results7 rfl hs fun F hF => ?_
 refine WC.rs (aV (k:=WR.done (WC.rs ?_)))
 obtain ⟨z1, hz2, h⟩ := bnd h
 refine ecV [] (caV call9) (fun w hp => t_disk_New 5000 (show I64 5000 by decide) hp hz2) ?_
 rintro Γ3 U5 v6 hl4 ⟨g7, row8, rfl, rfl, hr9, _⟩
 refine cwV 8 [_] ?_
 obtain ⟨z10, hz11, h⟩ := bnd h
 refine vqV (caV call11) (fun w hw => t_firthlaw15_at (Γ := Gh.all w) 1 (show I64 1 by decide) (Sat.all w) hz11) (k:=?_)
 obtain ⟨hk12, h⟩ := chk_some h
 obtain ⟨hk13, h⟩ := chk_some h
 obtain ⟨z14, hz15, h⟩ := bnd h
 refine ecV [0] (caV call10) (fun w hp => t_node_Open hr9 z10 ⟨(i64b_of hk12), (i64b_of hk13)⟩ 256 (show I64 256 by decide) 3 (show I64 3 by decide) hp hz15) ?_
 rintro Γ16 U18 v19 hl17 ⟨row20, g22, row23, rfl, rfl, hr21, hr24, hr25, _⟩
 refine cwV 10 [_, _] (mV (k:=sV exV (k:=sV exV (k:=aU (v := optp z14.2.1 g22) (k:=aV (k:=WR.done (WC.seq ?_)))))))
 refine WC.rs (mU (v := optp z14.2.1 g22) (k:=sV (q_opt_eql underlying27 rfl rfl rfl) (k:=mV (k:=vG0 (h:=fun hg26 => moV) (k:=vG0 (h:=fun hg27 => q_neq rfl (grV hg27)) (k:=sV pkO (k:=WR.done ?_)))))))
 refine ciV h (fun hb28 h => ?_) (fun hb28 h => ?_)
 ·
  refine WC.rs (aV (k:=WR.done ?_))
  exact WC.ret fun w hw => rq_ r h hF hw
 obtain ⟨z29, hz30, h⟩ := bnd h
 have ho31 := optob_some hr24 hz30
 refine WC.skip (wc_ ?_)
 refine WC.rs (sV (q_move (v := (pq g22)) rfl (optp_some rfl hz30)) (k:=?_))
 obtain ⟨z32, hz33, h⟩ := bnd h
 refine ecV [] (caV call26) (fun w hp => t_firthlaw15_one (⟨#[107]⟩ : ByteArray) (show (⟨#[107]⟩ : ByteArray).size ≤ lim by decide) 1 (show I64 1 by decide) 1 (show I64 1 by decide) hp hz33) ?_
 rintro Γ34 U36 v37 hl35 ⟨A38, c39, rfl, rfl, hr40, _⟩
 refine cwV 20 [_, _] ?_
 refine bsV #[.string z32.key, .slice A38 z32.vers.length c39] 45 ?_
 intro g41
 have ho42 : Own recT Γ34 45 [(g41, .cells #[.string z32.key, .slice A38 z32.vers.length c39] 45 (0, 0))] (some ⟨g41, 0, none⟩) 1 [z32] := Own.of_blockL (T := recT) (ys := [z32]) [[.string z32.key, .slice A38 z32.vers.length c39]] rfl (show 1 ≤ lim by decide) (show Ty.rd recT Γ34 [.string z32.key, .slice A38 z32.vers.length c39] z32 ∧ True from ⟨⟨A38, c39, rfl, hr40⟩, trivial⟩)
 have hc47 := ho42.capz
 intro w hw; obtain ⟨Γ43, hw, hl44, hr45⟩ := hw.seal (i := 0) rfl; have hs46 := ho42.sl hl44 hr45
 refine WR.here (C := CC F Γ43 [_, _, _]) ?_ hw
 clear hw
 obtain ⟨z48, hz49, h⟩ := bnd h
 refine ecV [] (caV call14) (fun w hp => t_firthlaw15_put 1 (show I64 1 by decide) hs46 hc47 hp hz49) ?_
 rintro Γ50 U52 v53 hl51 ⟨A54, c55, A56, c57, A58, c59, A60, c61, A62, c63, rfl, rfl, hr64, _⟩
 refine cwV 22 [_, _, _] ?_
 obtain ⟨z65, hz66, h⟩ := bnd h
 refine ecV [2, 1] (caV call13) (fun w hp => t_node_Node_Handle (ho31.mono ((hl35.trans hl44).trans hl51)) z48 hr64 (hr21.mono ((hl35.trans hl44).trans hl51)) hp hz66) ?_
 rintro Γ67 U69 v70 hl68 ⟨row71, row73, A75, c76, row77, rfl, rfl, hr72, hr74, hr78, _⟩
 refine cwV 23 [_, _, _, _] (aV (k:=WR.done (WC.rs ?_)))
 obtain ⟨z79, hz80, h⟩ := bnd h
 refine ecV [] (caV call26) (fun w hp => t_firthlaw15_one (⟨#[107]⟩ : ByteArray) (show (⟨#[107]⟩ : ByteArray).size ≤ lim by decide) 2 (show I64 2 by decide) 1 (show I64 1 by decide) hp hz80) ?_
 rintro Γ81 U83 v84 hl82 ⟨A85, c86, rfl, rfl, hr87, _⟩
 refine cwV 24 [_, _, _, _] ?_
 refine bsV #[.string z79.key, .slice A85 z79.vers.length c86] 45 ?_
 intro g88
 have ho89 : Own recT Γ81 45 [(g88, .cells #[.string z79.key, .slice A85 z79.vers.length c86] 45 (0, 0))] (some ⟨g88, 0, none⟩) 1 [z79] := Own.of_blockL (T := recT) (ys := [z79]) [[.string z79.key, .slice A85 z79.vers.length c86]] rfl (show 1 ≤ lim by decide) (show Ty.rd recT Γ81 [.string z79.key, .slice A85 z79.vers.length c86] z79 ∧ True from ⟨⟨A85, c86, rfl, hr87⟩, trivial⟩)
 have hc94 := ho89.capz
 intro w hw; obtain ⟨Γ90, hw, hl91, hr92⟩ := hw.seal (i := 0) rfl; have hs93 := ho89.sl hl91 hr92
 refine WR.here (C := CC F Γ90 [_, _, _, _, _]) ?_ hw
 clear hw
 obtain ⟨z95, hz96, h⟩ := bnd h
 refine ecV [] (caV call14) (fun w hp => t_firthlaw15_put 1 (show I64 1 by decide) hs93 hc94 hp hz96) ?_
 rintro Γ97 U99 v100 hl98 ⟨A101, c102, A103, c104, A105, c106, A107, c108, A109, c110, rfl, rfl, hr111, _⟩
 refine cwV 26 [_, _, _, _, _] ?_
 refine alV zeroValue40 ?_
 intro g112
 refine stV 0 (.agg #[ii z95.kind, ii z95.from_.site, ii z95.from_.node, ii z95.to_.site, ii z95.to_.node, ii z95.id, ii z95.n, ii z95.for_, ii z95.code, .string z95.key, .slice A101 z95.recs.length c102, .slice A103 z95.vec.length c104, .slice A105 z95.path.length c106, .slice A107 z95.hashes.length c108, .slice A109 z95.route.length c110]) #[ii z95.kind, ii z95.from_.site, ii z95.from_.node, ii z95.to_.site, ii z95.to_.node, ii z95.id, ii z95.n, ii z95.for_, ii z95.code, .string z95.key, .slice A101 z95.recs.length c102, .slice A103 z95.vec.length c104, .slice A105 z95.path.length c106, .slice A107 z95.hashes.length c108, .slice A109 z95.route.length c110] sizeOf40 (k:=WR.done (WC.rs (sV (q_fl 7 fld_40_5) (k:=stV 0 (ii 3) #[ii z95.kind, ii z95.from_.site, ii z95.from_.node, ii z95.to_.site, ii z95.to_.node, ii z95.id, ii z95.n, ii 3, ii z95.code, .string z95.key, .slice A101 z95.recs.length c102, .slice A103 z95.vec.length c104, .slice A105 z95.path.length c106, .slice A107 z95.hashes.length c108, .slice A109 z95.route.length c110] sizeOf3 (k:=WR.done (WC.rs (sV (q_move (v := (pq g22)) rfl (optp_some rfl hz30)) (k:=?_))))))))
 refine sV (ldaV 0 [ii z95.kind, ii z95.from_.site, ii z95.from_.node, ii z95.to_.site, ii z95.to_.node, ii z95.id, ii z95.n, ii 3, ii z95.code, .string z95.key, .slice A101 z95.recs.length c102, .slice A103 z95.vec.length c104, .slice A105 z95.path.length c106, .slice A107 z95.hashes.length c108, .slice A109 z95.route.length c110] isAgg40 sizeOf40) (k:=?_)
 obtain ⟨z113, hz114, h⟩ := bnd h
 refine ecV [2, 2] (caV call13) (fun w hp => t_node_Node_Handle (hr72.mono ((hl82.trans hl91).trans hl98)) (⟨z95.kind, (⟨z95.from_.site, z95.from_.node⟩ : Adr), (⟨z95.to_.site, z95.to_.node⟩ : Adr), z95.id, z95.n, 3, z95.code, z95.key, z95.recs, z95.vec, z95.path, z95.hashes, z95.route⟩ : Dapi_Msg) ⟨hr111.1, hr111.2.1, hr111.2.2.1, hr111.2.2.2.1, hr111.2.2.2.2.1, hr111.2.2.2.2.2.1, hr111.2.2.2.2.2.2.1, (show I64 3 by decide), hr111.2.2.2.2.2.2.2.2.1, hr111.2.2.2.2.2.2.2.2.2.1, ⟨hr111.2.2.2.2.2.2.2.2.2.2.1.1, hr111.2.2.2.2.2.2.2.2.2.2.1.2⟩, ⟨hr111.2.2.2.2.2.2.2.2.2.2.2.1.1, hr111.2.2.2.2.2.2.2.2.2.2.2.1.2⟩, ⟨hr111.2.2.2.2.2.2.2.2.2.2.2.2.1.1, hr111.2.2.2.2.2.2.2.2.2.2.2.2.1.2⟩, ⟨hr111.2.2.2.2.2.2.2.2.2.2.2.2.2.1.1, hr111.2.2.2.2.2.2.2.2.2.2.2.2.2.1.2⟩, ⟨hr111.2.2.2.2.2.2.2.2.2.2.2.2.2.2.1, hr111.2.2.2.2.2.2.2.2.2.2.2.2.2.2.2⟩⟩ (hr74.mono ((hl82.trans hl91).trans hl98)) hp hz114) ?_
 rintro Γ115 U117 v118 hl116 ⟨row119, row121, A123, c124, row125, rfl, rfl, hr120, hr122, hr126, _⟩
 refine cwV 30 [_, _, _, _, _, _, _] (aV (k:=WR.done (WC.rs (sV (q_move (v := (pq g22)) rfl (optp_some rfl hz30)) (k:=?_)))))
 obtain ⟨z127, hz128, h⟩ := bnd h
 refine ecV [0] (caV call21) (fun w hp => t_node_Node_Tick hr120 hp hz128) ?_
 rintro Γ129 U131 v132 hl130 ⟨A133, c134, row135, rfl, rfl, hr136, _⟩
 refine cwV 32 [_, _, _, _, _, _, _, _] (aV (k:=WR.done (WC.seq (WC.seq ?_))))
 intro w hw; have h0137 := hw.le
 refine WC.here (C := CC F Γ129 [_, _, _, _, _, _, _, _]) ?_ hw; clear hw
 refine held_ (CC F Γ129 [row135, row125, [(g112, .cells #[ii z95.kind, ii z95.from_.site, ii z95.from_.node, ii z95.to_.site, ii z95.to_.node, ii z95.id, ii z95.n, ii 3, ii z95.code, .string z95.key, .slice A101 z95.recs.length c102, .slice A103 z95.vec.length c104, .slice A105 z95.path.length c106, .slice A107 z95.hashes.length c108, .slice A109 z95.route.length c110] 40 (0, 0))], [], row77, []]) (bo_ [1, 2, 2, 2, 2, 2] (Gh.refl _) h0137) fun k => ?_
 change WH _ _ _ _ (CC F Γ129 [_, _, _, _, _, _, _, _]) _ 40 _ _
 refine hV 0 k (q:=moV) (k:=hV 1 k (q:=q_len_slice rfl underlying34) (k:=hV 2 k (q:=q_neq) (k:=hV 3 k (q:=moV) (k:=hV0 4 k (h:=fun hg138 => moV) (k:=?_)))))
 obtain ⟨hk140, h⟩ := chk_some h
 refine hV0 5 k (h:=fun hg139 => q_ixn (i := 0) underlying34 sizeOf40 rfl (grV hg139) rfl (of_decide_eq_true (imp_of hk140 hg139)) ((hr78.mono ((((hl82.trans hl91).trans hl98).trans hl116).trans hl130)).some_ (of_decide_eq_true (imp_of hk140 hg139)))) (k:=hV0 6 k (h:=fun hg141 => q_field_addr (0 * 15) fld_40_0 rfl (grV hg141) ((hr78.mono ((((hl82.trans hl91).trans hl98).trans hl116).trans hl130)).some_ (of_decide_eq_true (imp_of hk140 hg141))) rfl) (k:=?_))
 obtain ⟨A143, c144, A145, c146, A147, c148, A149, c150, A151, c152, hx153⟩ := (hr78.mono ((((hl82.trans hl91).trans hl98).trans hl116).trans hl130)).dapi_MsgT_at 0
 refine hV0 7 k (h:=fun hg142 => q_ldo (c := 0) (v := ii (gt z65.2.2 0).kind) (i := 4) rfl (hx153 (of_decide_eq_true (imp_of hk140 hg142))).2 rfl isAgg3 (grV hg142) rfl) (k:=hV0 8 k (h:=fun hg154 => q_neq rfl (grV hg154)) (k:=hV 9 k (q:=pkO) (k:=hV 10 k (q:=moV) (k:=hV0 11 k (h:=fun hg155 => moV) (k:=hV0 12 k (h:=fun hg156 => q_len_slice rfl underlying34 (grV hg156)) (k:=hV0 13 k (h:=fun hg157 => q_neq rfl (grV hg157)) (k:=hV 14 k (q:=pkO) (k:=?_))))))))
 refine hV 15 k (q:=moV) (k:=hV0 16 k (h:=fun hg158 => moV) (k:=hV0 17 k (h:=fun hg159 => q_len_slice rfl underlying34 (grV hg159)) (k:=hV0 18 k (h:=fun hg160 => q_neq rfl (grV hg160)) (k:=hV 19 k (q:=pkO) (k:=hV 20 k (q:=moV) (k:=hV0 21 k (h:=fun hg161 => moV) (k:=?_)))))))
 obtain ⟨hk163, h⟩ := chk_some h
 refine hV0 22 k (h:=fun hg162 => q_ixn (i := 0) underlying34 sizeOf40 rfl (grV hg162) rfl (of_decide_eq_true (imp_of hk163 hg162)) (hr136.some_ (of_decide_eq_true (imp_of hk163 hg162)))) (k:=hV0 23 k (h:=fun hg164 => q_field_addr (0 * 15 + 3) fld_40_2 rfl (grV hg164) (hr136.some_ (of_decide_eq_true (imp_of hk163 hg164))) rfl) (k:=?_))
 obtain ⟨A166, c167, A168, c169, A170, c171, A172, c173, A174, c175, hx176⟩ := hr136.dapi_MsgT_at 0
 refine hV0 24 k (h:=fun hg165 => q_ldoa (c := 3) (vs := [ii (gt z127 0).to_.site, ii (gt z127 0).to_.node]) (i := 0) rfl (hx176 (of_decide_eq_true (imp_of hk163 hg165))).2 rfl isAgg32 sizeOf32 (grV hg165) rfl) (k:=wl_ 25 rfl ?_)
 obtain ⟨z178, hz179, h⟩ := bnd h
 refine vg0 rfl rfl rfl rfl rfl (fun hg177 => (q_call (caV call11) (fun w hw => t_firthlaw15_at (Γ := Gh.all w) 3 (show I64 3 by decide) (Sat.all w) (gc_of hz179 hg177)))) ?_
 refine WR.nil ?_
 refine nxV (bo_ [1, 2, 2, 2, 2, 2] (Gh.refl _) h0137) fun k => ?_
 refine hV0 26 k (h:=fun hg180 => q_neq_Adr (a := (gt z127 0).to_) (b := z178) rfl (grV hg180) (grV hg180)) (k:=hV 27 k (q:=pkO) (k:=hV 28 k (q:=moV) (k:=hV0 29 k (h:=fun hg181 => q_move (v := (pq g22)) rfl (optp_some rfl hz30)) (k:=?_))))
 refine (Bool.eq_false_or_eq_true (!(((((((z65.2.2.length : Nat) : Int) != 1) || ((gt z65.2.2 0).kind != 2)) || (((z113.2.2.length : Nat) : Int) != 0)) || (((z127.length : Nat) : Int) != 1)) || ((gt z127 0).to_ != z178)))).elim (fun hb182 => ?_) (fun hb182 => ?_)
 ·
  have h := bt hb182 h
  refine wl_ 30 rfl ?_
  refine WR.sat (c0 := true) (g := (((((((z65.2.2.length : Nat) : Int) != 1) || ((gt z65.2.2 0).kind != 2)) || (((z113.2.2.length : Nat) : Int) != 0)) || (((z127.length : Nat) : Int) != 1)) || ((gt z127 0).to_ != z178))) rfl rfl rfl hb182 ?_
  obtain ⟨z183, hz184, h⟩ := bnd h
  refine ecV [0] (call_run call24 rfl rfl (args2 (grV hb182) rfl)) (fun w hp => t_node_Node_Hints (hr120.mono hl130) 3 (show I64 3 by decide) hp hz184) ?_
  rintro Γ185 U187 v188 hl186 ⟨A189, c190, row191, rfl, rfl, hr192, _⟩
  refine cwV 63 [_, _, _, _, _, _, _, _, _] ?_
  refine WR.nil ?_
  refine nxV (bo_ [2, 3, 3, 3, 3, 3] hl186 h0137) fun k => ?_
  refine wl_ 31 rfl (vG0 (h:=fun hg194 => q_len_slice rfl underlying22) (k:=?_))
  refine WR.nil ?_
  refine nxV (bo_ [2, 3, 3, 3, 3, 3] hl186 h0137) fun k => ?_
  refine hV0 32 k (h:=fun hg195 => q_neq rfl (grV hg195)) (k:=hV 33 k (q:=q_pick_f (v := .bool (((z183.length : Nat) : Int) != 1)) rfl rfl (not_t hb182) (grV hb182)) (k:=hV 34 k (q:=moV) (k:=hV0 35 k (h:=fun hg196 => q_move (v := (pq g22)) rfl (optp_some rfl hz30)) (k:=?_))))
  refine (Bool.eq_false_or_eq_true (!(((z183.length : Nat) : Int) != 1))).elim (fun hb197 => ?_) (fun hb197 => ?_)
  ·
   have h := bt hb197 h
   refine wl_ 36 rfl ?_
   refine WR.sat (c0 := true) (g := (((z183.length : Nat) : Int) != 1)) rfl rfl rfl hb197 ?_
   obtain ⟨z198, hz199, h⟩ := bnd h
   refine ecV [0] (call_run call15 rfl rfl (args2 (grV hb197) rfl)) (fun w hp => t_node_Node_Recs (hr120.mono (hl130.trans hl186)) (-1) (show I64 (-1) by decide) hp hz199) ?_
   rintro Γ200 U202 v203 hl201 ⟨A204, c205, row206, rfl, rfl, hr207, _⟩
   refine cwV 69 [_, _, _, _, _, _, _, _, _, _] ?_
   refine WR.nil ?_
   refine nxV (bo_ [3, 4, 4, 4, 4, 4] (hl186.trans hl201) h0137) fun k => ?_
   refine wl_ 37 rfl (vG0 (h:=fun hg209 => q_len_slice rfl underlying22) (k:=?_))
   refine WR.nil ?_
   refine nxV (bo_ [3, 4, 4, 4, 4, 4] (hl186.trans hl201) h0137) fun k => ?_
   refine hV0 38 k (h:=fun hg210 => q_neq rfl (grV hg210)) (k:=hV 39 k (q:=q_pick_f (v := .bool (((z198.length : Nat) : Int) != 1)) rfl rfl (not_t hb197) (grV hb197)) (k:=?_))
   refine WH.done (by kernel_rfl) ?_
   change WC _ _ _ _ _ _
   refine ciV h (fun hb211 h => ?_) (fun hb211 h => ?_)
   ·
    refine WC.rs (aV (k:=WR.done ?_))
    exact WC.ret fun w hw => rq_ r h hF hw
   refine WC.skip (wc_ ?_)
   refine WC.seq ?_
   intro w hw; have h0212 := hw.le
   refine WC.here (C := CC F Γ200 [_, _, _, _, _, _, _, _, _, _]) ?_ hw; clear hw
   refine held_ (CC F Γ200 [row206, row191, row135, row125, [(g112, .cells #[ii z95.kind, ii z95.from_.site, ii z95.from_.node, ii z95.to_.site, ii z95.to_.node, ii z95.id, ii z95.n, ii 3, ii z95.code, .string z95.key, .slice A101 z95.recs.length c102, .slice A103 z95.vec.length c104, .slice A105 z95.path.length c106, .slice A107 z95.hashes.length c108, .slice A109 z95.route.length c110] 40 (0, 0))], [], row77, []]) (bo_ [1, 1, 1, 2, 2, 2, 2, 2] (Gh.refl _) h0212) fun k => ?_
   change WH _ _ _ _ (CC F Γ200 [_, _, _, _, _, _, _, _, _, _]) _ 9 _ _
   refine hV 0 k (q:=q_move (v := (pq g22)) rfl (optp_some rfl hz30)) (k:=hV 3 k (q:=moV) (k:=?_))
   obtain ⟨hk213, h⟩ := chk_some h
   refine hV 4 k (q:=q_ixn (i := 0) underlying34 sizeOf40 rfl rfl rfl (of_decide_eq_true hk213) ((hr136.mono (hl186.trans hl201)).some_ (of_decide_eq_true hk213))) (k:=hV 5 k (q:=q_field_addr (0 * 15 + 10) fld_40_8 rfl rfl ((hr136.mono (hl186.trans hl201)).some_ (of_decide_eq_true hk213)) rfl) (k:=hV 6 k (q:=q_ldo (c := 10) (v := .slice A166 ((gt z127 0).recs).length c167) (i := 2) rfl (hx176 (of_decide_eq_true hk213)).2 rfl isAgg22 rfl rfl) (k:=wl_ 1 rfl ?_)))
   obtain ⟨z214, hz215, h⟩ := bnd h
   refine vqV (caV call11) (fun w hw => t_firthlaw15_at (Γ := Gh.all w) 3 (show I64 3 by decide) (Sat.all w) hz215) (k:=?_)
   refine WR.nil ?_
   refine nxV (bo_ [1, 1, 1, 2, 2, 2, 2, 2] (Gh.refl _) h0212) fun k => ?_
   refine wl_ 2 rfl ?_
   obtain ⟨z216, hz217, h⟩ := bnd h
   refine vqV (caV call11) (fun w hw => t_firthlaw15_at (Γ := Gh.all w) 1 (show I64 1 by decide) (Sat.all w) hz217) (k:=?_)
   refine WR.nil ?_
   refine nxV (bo_ [1, 1, 1, 2, 2, 2, 2, 2] (Gh.refl _) h0212) fun k => ?_
   refine hV 7 k (q:=q_build' (v := .agg #[ii 2, ii z214.site, ii z214.node, ii z216.site, ii z216.node, ii 0, ii 0, ii 0, ii 0, .string ByteArray.empty, .slice A166 ((gt z127 0).recs).length c167, .slice none 0 0, .slice none 0 0, .slice none 0 0, .slice none 0 0]) rfl (bargs4 rfl rfl rfl rfl) (fun w => by kernel_rfl)) (k:=wl_ 8 rfl ?_)
   obtain ⟨hk218, h⟩ := chk_some h
   obtain ⟨hk219, h⟩ := chk_some h
   obtain ⟨hk220, h⟩ := chk_some h
   obtain ⟨hk221, h⟩ := chk_some h
   obtain ⟨z222, hz223, h⟩ := bnd h
   refine ecV [0, 3] (caV call13) (fun w hp => t_node_Node_Handle (hr120.mono ((hl130.trans hl186).trans hl201)) (Am11 := none) (cm11 := 0) (Am12 := none) (cm12 := 0) (Am13 := none) (cm13 := 0) (Am14 := none) (cm14 := 0) (⟨2, (⟨z214.site, z214.node⟩ : Adr), (⟨z216.site, z216.node⟩ : Adr), 0, 0, 0, 0, ByteArray.empty, (gt z127 0).recs, [], [], [], []⟩ : Dapi_Msg) ⟨(show I64 2 by decide), (i64b_of hk218), (i64b_of hk219), (i64b_of hk220), (i64b_of hk221), (show I64 0 by decide), (show I64 0 by decide), (show I64 0 by decide), (show I64 0 by decide), (show (ByteArray.empty : ByteArray).size ≤ lim by decide), ⟨(hx176 (of_decide_eq_true hk213)).1.2.2.2.2.2.2.2.2.2.2.1.1, ((hx176 (of_decide_eq_true hk213)).1.2.2.2.2.2.2.2.2.2.2.1.2.mono (hl186.trans hl201))⟩, ⟨Nat.zero_le _, Sl.nil _ _ _⟩, ⟨Nat.zero_le _, Sl.nil _ _ _⟩, ⟨Nat.zero_le _, Sl.nil _ _ _⟩, ⟨Nat.zero_le _, Sl.nil _ _ _⟩⟩ (hr122.mono ((hl130.trans hl186).trans hl201)) hp hz223) ?_
   rintro Γ224 U226 v227 hl225 ⟨row228, row230, A232, c233, row234, rfl, rfl, hr229, hr231, hr235, _⟩
   refine cwV 81 [_, _, _, _, _, _, _, _, _, _, _] ?_
   refine WR.nil ?_
   refine nxV (bo_ [3, 3, 3, 3, 3, 3, 3, 3] hl225 h0212) fun k => ?_
   refine WH.done (by kernel_rfl) ?_
   change WC _ _ _ _ _ _
   refine WC.rs (sV (q_move (v := (pq g22)) rfl (optp_some rfl hz30)) (k:=?_))
   obtain ⟨z236, hz237, h⟩ := bnd h
   refine ecV [0] (caV call24) (fun w hp => t_node_Node_Hints hr229 3 (show I64 3 by decide) hp hz237) ?_
   rintro Γ238 U240 v241 hl239 ⟨A242, c243, row244, rfl, rfl, hr245, _⟩
   refine cwV 83 [_, _, _, _, _, _, _, _, _, _, _, _] (sV (q_len_slice rfl underlying22) (k:=sV q_eql (k:=aV (k:=WR.done ?_))))
   exact WC.ret fun w hw => rq_ r h hF hw
  have h := bf hb197 h
  refine hg0 (g := (((z183.length : Nat) : Int) != 1)) (i := 36) (v := undef) rfl (by kernel_rfl) rfl rfl rfl rfl rfl (bo_ [2, 3, 3, 3, 3, 3] hl186 h0137) (no_tf hb197) ?_
  refine WH.env (v := undef) (gv_false hb197) ?_
  refine hg0 (g := (((z183.length : Nat) : Int) != 1)) (i := 37) (v := undef) rfl (by kernel_rfl) rfl rfl rfl rfl rfl (bo_ [2, 3, 3, 3, 3, 3] hl186 h0137) (no_tf hb197) ?_
  refine WH.env (v := undef) (gv_false hb197) ?_
  refine hg0 (g := (((z183.length : Nat) : Int) != 1)) (i := 38) (v := undef) rfl (by kernel_rfl) rfl rfl rfl rfl rfl (bo_ [2, 3, 3, 3, 3, 3] hl186 h0137) (no_tf hb197) ?_
  refine WH.env (v := undef) (gv_false hb197) ?_
  refine hV 39 (bo_ [2, 3, 3, 3, 3, 3] hl186 h0137) (q:=q_pick_t (v := .bool true) rfl rfl (not_f hb197) (by kernel_rfl)) (k:=?_)
  refine WH.done (by kernel_rfl) ?_
  change WC _ _ _ _ _ _
  refine WC.ctk (b := true) (by kernel_rfl) rfl ?_
  refine WC.rs (aV (k:=WR.done ?_))
  exact WC.ret fun w hw => rq_ r h hF hw
 have h := bf hb182 h
 refine hg0 (g := (((((((z65.2.2.length : Nat) : Int) != 1) || ((gt z65.2.2 0).kind != 2)) || (((z113.2.2.length : Nat) : Int) != 0)) || (((z127.length : Nat) : Int) != 1)) || ((gt z127 0).to_ != z178))) (i := 30) (v := undef) rfl (by kernel_rfl) rfl rfl rfl rfl rfl (bo_ [1, 2, 2, 2, 2, 2] (Gh.refl _) h0137) (no_tf hb182) ?_
 refine WH.env (v := undef) (gv_false hb182) ?_
 refine hg0 (g := (((((((z65.2.2.length : Nat) : Int) != 1) || ((gt z65.2.2 0).kind != 2)) || (((z113.2.2.length : Nat) : Int) != 0)) || (((z127.length : Nat) : Int) != 1)) || ((gt z127 0).to_ != z178))) (i := 31) (v := undef) rfl (by kernel_rfl) rfl rfl rfl rfl rfl (bo_ [1, 2, 2, 2, 2, 2] (Gh.refl _) h0137) (no_tf hb182) ?_
 refine WH.env (v := undef) (gv_false hb182) ?_
 refine hg0 (g := (((((((z65.2.2.length : Nat) : Int) != 1) || ((gt z65.2.2 0).kind != 2)) || (((z113.2.2.length : Nat) : Int) != 0)) || (((z127.length : Nat) : Int) != 1)) || ((gt z127 0).to_ != z178))) (i := 32) (v := undef) rfl (by kernel_rfl) rfl rfl rfl rfl rfl (bo_ [1, 2, 2, 2, 2, 2] (Gh.refl _) h0137) (no_tf hb182) ?_
 refine WH.env (v := undef) (gv_false hb182) ?_
 refine hV 33 (bo_ [1, 2, 2, 2, 2, 2] (Gh.refl _) h0137) (q:=q_pick_t (v := .bool true) rfl rfl (not_f hb182) (by kernel_rfl)) (k:=hV 34 (bo_ [1, 2, 2, 2, 2, 2] (Gh.refl _) h0137) (q:=moV) (k:=?_))
 refine hg0 (g := true) (i := 35) (v := undef) rfl (by kernel_rfl) rfl rfl rfl rfl rfl (bo_ [1, 2, 2, 2, 2, 2] (Gh.refl _) h0137) (no_tf (nott rfl)) ?_
 refine WH.env (v := undef) (gv_false (nott rfl)) ?_
 refine hg0 (g := true) (i := 36) (v := undef) rfl (by kernel_rfl) rfl rfl rfl rfl rfl (bo_ [1, 2, 2, 2, 2, 2] (Gh.refl _) h0137) (no_tf (nott rfl)) ?_
 refine WH.env (v := undef) (gv_false (nott rfl)) ?_
 refine hg0 (g := true) (i := 37) (v := undef) rfl (by kernel_rfl) rfl rfl rfl rfl rfl (bo_ [1, 2, 2, 2, 2, 2] (Gh.refl _) h0137) (no_tf (nott rfl)) ?_
 refine WH.env (v := undef) (gv_false (nott rfl)) ?_
 refine hg0 (g := true) (i := 38) (v := undef) rfl (by kernel_rfl) rfl rfl rfl rfl rfl (bo_ [1, 2, 2, 2, 2, 2] (Gh.refl _) h0137) (no_tf (nott rfl)) ?_
 refine WH.env (v := undef) (gv_false (nott rfl)) ?_
 refine hV 39 (bo_ [1, 2, 2, 2, 2, 2] (Gh.refl _) h0137) (q:=q_pickt (v := .bool true) rfl rfl rfl) (k:=?_)
 refine WH.done (by kernel_rfl) ?_
 change WC _ _ _ _ _ _
 refine WC.ctk (b := true) (by kernel_rfl) rfl ?_
 refine WC.rs (aV (k:=WR.done ?_))
 exact WC.ret fun w hw => rq_ r h hF hw
theorem t_firthlaw15_heavy {Γ : Gh} {w0 : World} {Alist : Option Addr} {clist : Nat} {list : List Rec} (hlist : Sl recT Γ Alist list) (hlistc : list.length ≤ clist) (hs : Sat Γ w0) {r : Int} (h : m_firthlaw15_heavy list = some r) : Calls Tryz.prog 27 #[.slice Alist list.length clist] w0 (fun e w' => e = .returned (ii r) ∧ Fr no w0 w') := by
 refine goq_ (n := 57) (rs := [2]) (args := [.slice Alist list.length clist]) func27 rfl ntmps27 results27 rfl hs fun F hF => ?_
 refine WC.rs (aV (k:=WR.done (WC.rs (aV (k:=WR.done (WC.seq (WC.rs ?_)))))))
 refine aV (k:=WR.done (WC.block ?_))
 refine WC.forI h (fun (i4 : Nat) (n_1 : Int) σ w => slots σ [(0, .slice Alist list.length clist), (3, ii n_1), (4, ii ((i4 : Nat) : Int))] ∧ CC F Γ [] w ∧ I64 n_1 ∧ True) ?_ ?_
 ·
  intro w hw
  exact ⟨(sl_ (by kernel_rfl)), hw, (show I64 0 by decide), trivial⟩
 rintro f3 i4 n_1 σ w hi5 hlt6 hge7 ⟨hsl, hw, hr2, -⟩
 refine Wpt.slots hsl ?_
 refine WC.here (C := CC F Γ []) ?_ hw
 clear hw hsl
 refine WC.seq (WC.rs (mV (k:=mV (k:=sV (q_len_slice rfl underlying22) (k:=sV q_lss (k:=WR.done ?_))))))
 refine WC.cond (b := (decide (((i4 : Nat) : Int) < ((list.length : Nat) : Int)))) (by kernel_rfl) (fun hb8 => ?_) (fun hb8 => ?_)
 ·
  have hl9 := ilt hb8
  have h := hlt6 hl9
  refine WC.skip (wc_ ?_)
  refine WC.seq (WC.block (WC.rs (mV (k:=sV q_add (k:=mV (k:=mV (k:=sV (q_ixn (i := i4) underlying22 sizeOf45 rfl rfl rfl hl9 (hlist.some_ hl9)) (k:=?_))))))))
  refine sV (q_field_addr (i4 * 2) fld_45_0 rfl rfl (hlist.some_ hl9) rfl) (k:=?_)
  obtain ⟨A10, c11, hx12⟩ := hlist.recT_at i4
  refine sV (q_ld (c := 0) (v := .string (gt list i4).key) (hx12 hl9).2 rfl isAgg9 rfl rfl) (k:=sV (q_len_str rfl underlying9) (k:=sV q_add (k:=aV (k:=WR.done (WC.rs (aV (k:=WR.done ?_)))))))
  refine WC.block ?_
  refine WC.forI h (fun (i16 : Nat) (n_13 : Int) σ w => slots σ [(0, .slice Alist list.length clist), (3, ii n_13), (4, ii ((i4 : Nat) : Int)), (5, ii ((i16 : Nat) : Int))] ∧ CC F Γ [] w ∧ I64 n_13 ∧ True) ?_ ?_
  ·
   intro w hw
   exact ⟨(sl_ (by kernel_rfl)), hw, (w64_r _), trivial⟩
  rintro f15 i16 n_13 σ w hi17 hlt18 hge19 ⟨hsl, hw, hr14, -⟩
  refine Wpt.slots hsl ?_
  refine WC.here (C := CC F Γ []) ?_ hw
  clear hw hsl
  refine WC.seq (WC.rs (mV (k:=mV (k:=mV (k:=sV (q_ixn (i := i4) underlying22 sizeOf45 rfl rfl rfl hl9 (hlist.some_ hl9)) (k:=sV (q_field_addr (i4 * 2 + 1) fld_45_1 rfl rfl (hlist.some_ hl9) rfl) (k:=?_)))))))
  obtain ⟨A20, c21, hx22⟩ := hlist.recT_at i4
  refine sV (q_ld (c := 1) (v := .slice A20 ((gt list i4).vers).length c21) (hx22 hl9).2 rfl isAgg43 rfl rfl) (k:=sV (q_len_slice rfl underlying43) (k:=sV q_lss (k:=WR.done ?_)))
  refine WC.cond (b := (decide (((i16 : Nat) : Int) < ((((gt list i4).vers).length : Nat) : Int)))) (by kernel_rfl) (fun hb23 => ?_) (fun hb23 => ?_)
  ·
   have hl24 := ilt hb23
   have h := hlt18 hl24
   refine WC.skip (wc_ ?_)
   refine WC.seq (WC.block ?_)
   refine WC.dr (by kernel_rfl) (by kernel_rfl) (fun w hw => hw.drawn _) ?_
   refine zV moV (k:=zV q_add (k:=zV moV (k:=zV moV (k:=zV (q_ixn (i := i4) underlying22 sizeOf45 rfl rfl rfl hl9 (hlist.some_ hl9)) (k:=zV (q_field_addr (i4 * 2 + 1) fld_45_1 rfl rfl (hlist.some_ hl9) rfl) (k:=zV (q_ld (c := 1) (v := .slice A20 ((gt list i4).vers).length c21) (hx22 hl9).2 rfl isAgg43 rfl rfl) (k:=zV moV (k:=?_))))))))
   refine zV (q_ixn (i := i16) underlying43 sizeOf89 rfl rfl rfl hl24 ((hx22 hl9).1.2.2.some_ hl24)) (k:=zV (q_field_addr (i16 * 5 + 4) fld_89_3 rfl rfl ((hx22 hl9).1.2.2.some_ hl24) rfl) (k:=?_))
   obtain ⟨A25, c26, hx27⟩ := (hx22 hl9).1.2.2.verT_at i16
   refine zV (q_ld (c := 4) (v := .string (gt ((gt list i4).vers) i16).val) (hx27 hl24).2 rfl isAgg9 rfl rfl) (k:=zV (q_len_str rfl underlying9) (k:=zV q_add (k:=zV moV (k:=zV moV (k:=zV (q_ixn (i := i4) underlying22 sizeOf45 rfl rfl rfl hl9 (hlist.some_ hl9)) (k:=zV (q_field_addr (i4 * 2 + 1) fld_45_1 rfl rfl (hlist.some_ hl9) rfl) (k:=zV (q_ld (c := 1) (v := .slice A20 ((gt list i4).vers).length c21) (hx22 hl9).2 rfl isAgg43 rfl rfl) (k:=?_))))))))
   refine zV moV (k:=zV (q_ixn (i := i16) underlying43 sizeOf89 rfl rfl rfl hl24 ((hx22 hl9).1.2.2.some_ hl24)) (k:=zV (q_field_addr (i16 * 5 + 2) fld_89_1 rfl rfl ((hx22 hl9).1.2.2.some_ hl24) rfl) (k:=?_)))
   obtain ⟨A28, c29, hx30⟩ := (hx22 hl9).1.2.2.verT_at i16
   refine zV (q_ld (c := 2) (v := .slice A28 ((gt ((gt list i4).vers) i16).past).length c29) (hx30 hl24).2 rfl isAgg87 rfl rfl) (k:=zV (q_len_slice rfl underlying87) (k:=zV q_mul (k:=zV q_add (k:=zV aoV (k:=?_)))))
   refine WQ.nil ?_
   change WC _ _ _ _ _ _
   refine WC.region ?_
   refine mV (k:=sV (q_add_r (r := ((i16 + 1 : Nat) : Int)) rfl rfl rfl (ctr_len hl24 (hx22 hl9).1.2.2.le)) (k:=aV (k:=?_)))
   refine WR.nil ?_
   intro w hw
   exact ⟨hl24, (w64 ((w64 ((w64 (n_13 + 128)) + ((((gt ((gt list i4).vers) i16).val).size : Nat) : Int))) + (w64 (32 * ((((gt ((gt list i4).vers) i16).past).length : Nat) : Int))))), h, (sl_ (by kernel_rfl)), hw, (w64_r _), trivial⟩
  have h := hge19 (ige hb23)
  refine WC.exit ?_
  change WC _ _ _ _ _ _
  refine WC.region ?_
  refine mV (k:=sV (q_add_r (r := ((i4 + 1 : Nat) : Int)) rfl rfl rfl (ctr_len hl9 hlist.le)) (k:=aV (k:=?_)))
  refine WR.nil ?_
  intro w hw
  exact ⟨hl9, n_13, h, (sl_ (by kernel_rfl)), hw, hr14, trivial⟩
 have h := hge7 (ige hb8)
 refine WC.exit ?_
 change WC _ _ _ _ _ _
 refine WC.rs (mV (k:=aV (k:=WR.done ?_)))
 exact WC.ret fun w hw => rq_ r h hF hw
theorem t_firthref03_Dot {Γ : Gh} {w0 : World} (d : Dot) (hd : Dot.fits Γ  d) (hs : Sat Γ w0) {r : Bool} (h : m_firthref03_Dot d = some r) : Calls Tryz.prog 115 #[.agg #[ii d.s, ii d.n]] w0 (fun e w' => e = .returned (.bool r) ∧ Fr no w0 w') := by
 refine goq_ (n := 21) (rs := [2]) (args := [.agg #[ii d.s, ii d.n]]) func115 rfl ntmps115 results115 rfl hs fun F hF => ?_
 refine WC.rs ?_
 refine bxV (v := .agg #[ii d.s, ii d.n]) ?_
 intro g1
 refine aV (k:=WR.done (WC.rs (sV (q_fl 0 fld_86_0) (k:=sV (ldV 0 isAgg3) (k:=sV q_geq (k:=mV (k:=vG1 (h:=fun hg2 => q_fl 0 fld_86_0) (k:=?_))))))))
 refine vG1 (h:=fun hg3 => ldV 0 isAgg3 (hx:=grV hg3)) (k:=vG1 (h:=fun hg4 => q_leq rfl (grV hg4)) (k:=sV pkA (k:=mV (k:=vG1 (h:=fun hg5 => q_fl 1 fld_86_1) (k:=vG1 (h:=fun hg6 => ldV 0 isAgg2 (hx:=grV hg6)) (k:=vG1 (h:=fun hg7 => q_geq rfl (grV hg7)) (k:=sV pkA (k:=?_))))))))
 refine mV (k:=vG1 (h:=fun hg8 => q_fl 1 fld_86_1) (k:=vG1 (h:=fun hg9 => ldV 0 isAgg2 (hx:=grV hg9)) (k:=vG1 (h:=fun hg10 => q_leq rfl (grV hg10)) (k:=sV pkA (k:=aV (k:=WR.done ?_))))))
 exact WC.ret fun w hw => rq_ r h hF hw
theorem t_firthref03_Right {Γ : Gh} {w0 : World} {Al : Option Addr} {cl : Nat} {l : List Span} (hl : Sl spanT Γ Al l) (hlc : l.length ≤ cl) (hs : Sat Γ w0) {r : Bool} (h : m_firthref03_Right l = some r) : Calls Tryz.prog 116 #[.slice Al l.length cl] w0 (fun e w' => e = .returned (.bool r) ∧ Fr no w0 w') := by
 refine goq_ (n := 99) (rs := [2]) (args := [.slice Al l.length cl]) func116 rfl ntmps116 results116 rfl hs fun F hF => ?_
 refine WC.rs (aV (k:=WR.done (WC.seq (WC.rs (mV (k:=sV (q_len_slice rfl underlying87) (k:=sV q_gtr (k:=?_))))))))
 refine WR.done ?_
 refine ciV h (fun hb1 h => ?_) (fun hb1 h => ?_)
 ·
  refine WC.rs (aV (k:=WR.done ?_))
  exact WC.ret fun w hw => rq_ r h hF hw
 refine WC.skip (wc_ ?_)
 refine WC.seq (WC.rs (aV (k:=WR.done (WC.block ?_))))
 refine WC.forI h (fun (i3 : Nat) (s : Unit) σ w => match s with | () => slots σ [(0, .slice Al l.length cl), (3, ii ((i3 : Nat) : Int))] ∧ CC F Γ [] w ∧ True) ?_ ?_
 ·
  intro w hw
  exact ⟨(sl_ (by kernel_rfl)), hw, trivial⟩
 rintro f2 i3 ⟨⟩ σ w hi4 hlt5 hge6 ⟨hsl, hw, -⟩
 refine Wpt.slots hsl ?_
 refine WC.here (C := CC F Γ []) ?_ hw
 clear hw hsl
 refine WC.seq (WC.rs (mV (k:=mV (k:=sV (q_len_slice rfl underlying87) (k:=sV q_lss (k:=WR.done ?_))))))
 refine WC.cond (b := (decide (((i3 : Nat) : Int) < ((l.length : Nat) : Int)))) (by kernel_rfl) (fun hb7 => ?_) (fun hb7 => ?_)
 ·
  have hl8 := ilt hb7
  have h := hlt5 hl8
  refine WC.skip (wc_ ?_)
  refine WC.seq (WC.block (WC.seq (WC.seq ?_)))
  refine WC.dr (by kernel_rfl) (by kernel_rfl) (fun w hw => hw.drawn _) ?_
  refine zV moV (k:=zV moV (k:=zV (q_ixn (i := i3) underlying87 sizeOf93 rfl rfl rfl hl8 (hl.some_ hl8)) (k:=zV (q_field_addr (i3 * 3) fld_93_0 rfl rfl (hl.some_ hl8) rfl) (k:=zV (q_ld (c := 0) (v := ii (gt l i3).s) (hl.spanT_at hl8).2 rfl isAgg3 rfl rfl) (k:=zV moV (k:=zV moV (k:=zV (q_ixn (i := i3) underlying87 sizeOf93 rfl rfl rfl hl8 (hl.some_ hl8)) (k:=?_))))))))
  refine zV (q_field_addr (i3 * 3 + 1) fld_93_1 rfl rfl (hl.some_ hl8) rfl) (k:=zV (q_ld (c := 1) (v := ii (gt l i3).f) (hl.spanT_at hl8).2 rfl isAgg2 rfl rfl) (k:=zV (q_build' (v := .agg #[ii (gt l i3).s, ii (gt l i3).f]) rfl (bargs2 rfl rfl) (fun w => by kernel_rfl)) (k:=?_)))
  obtain ⟨z9, hz10, h⟩ := bnd h
  refine wc rfl rfl rfl (q_call (caV call115) (fun w hw => t_firthref03_Dot (Γ := Gh.all w) (⟨(gt l i3).s, (gt l i3).f⟩ : Dot) ⟨(hl.spanT_at hl8).1.1, (hl.spanT_at hl8).1.2.1⟩ (Sat.all w) hz10)) (zV q_not (k:=zV moV (k:=wG0 (h:=fun hg11 => moV) (k:=wG0 (h:=fun hg12 => moV) (k:=wG0 (h:=fun hg13 => q_ixn (i := i3) underlying87 sizeOf93 rfl (grV hg13) (grV hg13) hl8 (hl.some_ hl8)) (k:=wG0 (h:=fun hg14 => q_field_addr (i3 * 3) fld_93_0 rfl (grV hg14) (hl.some_ hl8) rfl) (k:=wG0 (h:=fun hg15 => q_ld (c := 0) (v := ii (gt l i3).s) (hl.spanT_at hl8).2 rfl isAgg3 (grV hg15) rfl) (k:=?_))))))))
  refine wG0 (h:=fun hg16 => moV) (k:=wG0 (h:=fun hg17 => moV) (k:=wG0 (h:=fun hg18 => q_ixn (i := i3) underlying87 sizeOf93 rfl (grV hg18) (grV hg18) hl8 (hl.some_ hl8)) (k:=wG0 (h:=fun hg19 => q_field_addr (i3 * 3 + 2) fld_93_2 rfl (grV hg19) (hl.some_ hl8) rfl) (k:=wG0 (h:=fun hg20 => q_ld (c := 2) (v := ii (gt l i3).t) (hl.spanT_at hl8).2 rfl isAgg2 (grV hg20) rfl) (k:=wG0 (h:=fun hg21 => q_build' (v := .agg #[ii (gt l i3).s, ii (gt l i3).t]) rfl (bargs2 (grV hg21) (grV hg21)) (fun w => by kernel_rfl)) (k:=?_))))))
  obtain ⟨z23, hz24, h⟩ := bnd h
  refine wg0 rfl rfl rfl rfl rfl (fun hg22 => (q_call (call_run call115 rfl rfl (args1 (grV hg22))) (fun w hw => t_firthref03_Dot (Γ := Gh.all w) (⟨(gt l i3).s, (gt l i3).t⟩ : Dot) ⟨(hl.spanT_at hl8).1.1, (hl.spanT_at hl8).1.2.2⟩ (Sat.all w) (gc_of hz24 hg22)))) (wG0 (h:=fun hg25 => q_not rfl (grV hg25)) (k:=zV pkO (k:=zV moV (k:=wG0 (h:=fun hg26 => moV) (k:=wG0 (h:=fun hg27 => moV) (k:=wG0 (h:=fun hg28 => q_ixn (i := i3) underlying87 sizeOf93 rfl (grV hg28) (grV hg28) hl8 (hl.some_ hl8)) (k:=wG0 (h:=fun hg29 => q_field_addr (i3 * 3 + 1) fld_93_1 rfl (grV hg29) (hl.some_ hl8) rfl) (k:=?_))))))))
  refine wG0 (h:=fun hg30 => q_ld (c := 1) (v := ii (gt l i3).f) (hl.spanT_at hl8).2 rfl isAgg2 (grV hg30) rfl) (k:=wG0 (h:=fun hg31 => moV) (k:=wG0 (h:=fun hg32 => moV) (k:=wG0 (h:=fun hg33 => q_ixn (i := i3) underlying87 sizeOf93 rfl (grV hg33) (grV hg33) hl8 (hl.some_ hl8)) (k:=wG0 (h:=fun hg34 => q_field_addr (i3 * 3 + 2) fld_93_2 rfl (grV hg34) (hl.some_ hl8) rfl) (k:=wG0 (h:=fun hg35 => q_ld (c := 2) (v := ii (gt l i3).t) (hl.spanT_at hl8).2 rfl isAgg2 (grV hg35) rfl) (k:=wG0 (h:=fun hg36 => q_gtr rfl (grV hg36) (grV hg36)) (k:=zV pkO (k:=?_))))))))
  refine WQ.nil ?_
  change WC _ _ _ _ _ _
  refine ciV h (fun hb37 h => ?_) (fun hb37 h => ?_)
  ·
   refine WC.rs (aV (k:=WR.done ?_))
   exact WC.ret fun w hw => rq_ r h hF hw
  refine WC.skip (wc_ ?_)
  refine WC.seq ?_
  refine WC.dr (by kernel_rfl) (by kernel_rfl) (fun w hw => hw.drawn _) ?_
  refine zV moV (k:=zV q_gtr (k:=zV moV (k:=wG1 (h:=fun hg38 => moV) (k:=wG1 (h:=fun hg39 => moV) (k:=wG1 (h:=fun hg40 => q_ixn (i := i3) underlying87 sizeOf93 rfl (grV hg40) (grV hg40) hl8 (hl.some_ hl8)) (k:=wG1 (h:=fun hg41 => q_field_addr (i3 * 3) fld_93_0 rfl (grV hg41) (hl.some_ hl8) rfl) (k:=wG1 (h:=fun hg42 => q_ld (c := 0) (v := ii (gt l i3).s) (hl.spanT_at hl8).2 rfl isAgg3 (grV hg42) rfl) (k:=?_))))))))
  refine wG1 (h:=fun hg43 => moV) (k:=wG1 (h:=fun hg44 => moV) (k:=wG1 (h:=fun hg45 => q_sub rfl (grV hg45)) (k:=?_)))
  obtain ⟨hk47, h⟩ := chk_some h
  refine wG1 (h:=fun hg46 => q_ix underlying87 sizeOf93 rfl (grV hg46) (grV hg46) (imp_of hk47 hg46) (hl.some_ (inb_lt (imp_of hk47 hg46)))) (k:=wG1 (h:=fun hg48 => q_field_addr (((w64 (((i3 : Nat) : Int) - 1)).toNat) * 3) fld_93_0 rfl (grV hg48) (hl.some_ (inb_lt (imp_of hk47 hg48))) rfl) (k:=wG1 (h:=fun hg49 => q_ld (c := 0) (v := ii (gt l ((w64 (((i3 : Nat) : Int) - 1)).toNat)).s) (hl.spanT_at (inb_lt (imp_of hk47 hg49))).2 rfl isAgg3 (grV hg49) rfl) (k:=wG1 (h:=fun hg50 => q_lss rfl (grV hg50) (grV hg50)) (k:=wG1 (h:=fun hg51 => q_move (v := .bool (decide ((gt l i3).s < (gt l ((w64 (((i3 : Nat) : Int) - 1)).toNat)).s))) rfl (grV hg51)) (k:=wh0 (c0 := (decide (0 < ((i3 : Nat) : Int)))) (g := (decide ((gt l i3).s < (gt l ((w64 (((i3 : Nat) : Int) - 1)).toNat)).s))) rfl rfl rfl rfl rfl (fun _ => QV.qo moV) (wh0 (c0 := (decide (0 < ((i3 : Nat) : Int)))) (g := (decide ((gt l i3).s < (gt l ((w64 (((i3 : Nat) : Int) - 1)).toNat)).s))) rfl rfl rfl rfl rfl (fun _ => QV.qo moV) (wh0 (c0 := (decide (0 < ((i3 : Nat) : Int)))) (g := (decide ((gt l i3).s < (gt l ((w64 (((i3 : Nat) : Int) - 1)).toNat)).s))) rfl rfl rfl rfl rfl (fun hg54 => QV.qo (q_ixn (i := i3) underlying87 sizeOf93 rfl (grV hg54) (grV hg54) hl8 (hl.some_ hl8))) ?_)))))))
  refine wh0 (c0 := (decide (0 < ((i3 : Nat) : Int)))) (g := (decide ((gt l i3).s < (gt l ((w64 (((i3 : Nat) : Int) - 1)).toNat)).s))) rfl rfl rfl rfl rfl (fun hg55 => QV.qo (q_field_addr (i3 * 3) fld_93_0 rfl (grV hg55) (hl.some_ hl8) rfl)) (wh0 (c0 := (decide (0 < ((i3 : Nat) : Int)))) (g := (decide ((gt l i3).s < (gt l ((w64 (((i3 : Nat) : Int) - 1)).toNat)).s))) rfl rfl rfl rfl rfl (fun hg56 => QV.qo (q_ld (c := 0) (v := ii (gt l i3).s) (hl.spanT_at hl8).2 rfl isAgg3 (grV hg56) rfl)) (wh0 (c0 := (decide (0 < ((i3 : Nat) : Int)))) (g := (decide ((gt l i3).s < (gt l ((w64 (((i3 : Nat) : Int) - 1)).toNat)).s))) rfl rfl rfl rfl rfl (fun _ => QV.qo moV) (wh0 (c0 := (decide (0 < ((i3 : Nat) : Int)))) (g := (decide ((gt l i3).s < (gt l ((w64 (((i3 : Nat) : Int) - 1)).toNat)).s))) rfl rfl rfl rfl rfl (fun _ => QV.qo moV) (wh0 (c0 := (decide (0 < ((i3 : Nat) : Int)))) (g := (decide ((gt l i3).s < (gt l ((w64 (((i3 : Nat) : Int) - 1)).toNat)).s))) rfl rfl rfl rfl rfl (fun hg59 => QV.qo (q_sub rfl (grV hg59))) (wh0 (c0 := (decide (0 < ((i3 : Nat) : Int)))) (g := (decide ((gt l i3).s < (gt l ((w64 (((i3 : Nat) : Int) - 1)).toNat)).s))) rfl rfl rfl rfl rfl (fun hg60 => QV.qo (q_ix underlying87 sizeOf93 rfl (grV hg60) (grV hg60) (imp_of hk47 (and_l hg60)) (hl.some_ (inb_lt (imp_of hk47 (and_l hg60)))))) ?_)))))
  refine wh0 (c0 := (decide (0 < ((i3 : Nat) : Int)))) (g := (decide ((gt l i3).s < (gt l ((w64 (((i3 : Nat) : Int) - 1)).toNat)).s))) rfl rfl rfl rfl rfl (fun hg61 => QV.qo (q_field_addr (((w64 (((i3 : Nat) : Int) - 1)).toNat) * 3) fld_93_0 rfl (grV hg61) (hl.some_ (inb_lt (imp_of hk47 (and_l hg61)))) rfl)) (wh0 (c0 := (decide (0 < ((i3 : Nat) : Int)))) (g := (decide ((gt l i3).s < (gt l ((w64 (((i3 : Nat) : Int) - 1)).toNat)).s))) rfl rfl rfl rfl rfl (fun hg62 => QV.qo (q_ld (c := 0) (v := ii (gt l ((w64 (((i3 : Nat) : Int) - 1)).toNat)).s) (hl.spanT_at (inb_lt (imp_of hk47 (and_l hg62)))).2 rfl isAgg3 (grV hg62) rfl)) (wh0 (c0 := (decide (0 < ((i3 : Nat) : Int)))) (g := (decide ((gt l i3).s < (gt l ((w64 (((i3 : Nat) : Int) - 1)).toNat)).s))) rfl rfl rfl rfl rfl (fun hg63 => QV.qo (q_eql rfl (grV hg63) (grV hg63))) (wh0 (c0 := (decide (0 < ((i3 : Nat) : Int)))) (g := (decide ((gt l i3).s < (gt l ((w64 (((i3 : Nat) : Int) - 1)).toNat)).s))) rfl rfl rfl rfl rfl (fun hg64 => QV.qo (q_move (v := .bool ((gt l i3).s == (gt l ((w64 (((i3 : Nat) : Int) - 1)).toNat)).s)) rfl (grV hg64))) (wh1 (c0 := ((decide (0 < ((i3 : Nat) : Int))) && (!(decide ((gt l i3).s < (gt l ((w64 (((i3 : Nat) : Int) - 1)).toNat)).s))))) (g := ((gt l i3).s == (gt l ((w64 (((i3 : Nat) : Int) - 1)).toNat)).s)) rfl rfl rfl rfl rfl (fun _ => QV.qo moV) ?_))))
  refine wh1 (c0 := ((decide (0 < ((i3 : Nat) : Int))) && (!(decide ((gt l i3).s < (gt l ((w64 (((i3 : Nat) : Int) - 1)).toNat)).s))))) (g := ((gt l i3).s == (gt l ((w64 (((i3 : Nat) : Int) - 1)).toNat)).s)) rfl rfl rfl rfl rfl (fun _ => QV.qo moV) (wh1 (c0 := ((decide (0 < ((i3 : Nat) : Int))) && (!(decide ((gt l i3).s < (gt l ((w64 (((i3 : Nat) : Int) - 1)).toNat)).s))))) (g := ((gt l i3).s == (gt l ((w64 (((i3 : Nat) : Int) - 1)).toNat)).s)) rfl rfl rfl rfl rfl (fun hg67 => QV.qo (q_ixn (i := i3) underlying87 sizeOf93 rfl (grV hg67) (grV hg67) hl8 (hl.some_ hl8))) (wh1 (c0 := ((decide (0 < ((i3 : Nat) : Int))) && (!(decide ((gt l i3).s < (gt l ((w64 (((i3 : Nat) : Int) - 1)).toNat)).s))))) (g := ((gt l i3).s == (gt l ((w64 (((i3 : Nat) : Int) - 1)).toNat)).s)) rfl rfl rfl rfl rfl (fun hg68 => QV.qo (q_field_addr (i3 * 3 + 1) fld_93_1 rfl (grV hg68) (hl.some_ hl8) rfl)) (wh1 (c0 := ((decide (0 < ((i3 : Nat) : Int))) && (!(decide ((gt l i3).s < (gt l ((w64 (((i3 : Nat) : Int) - 1)).toNat)).s))))) (g := ((gt l i3).s == (gt l ((w64 (((i3 : Nat) : Int) - 1)).toNat)).s)) rfl rfl rfl rfl rfl (fun hg69 => QV.qo (q_ld (c := 1) (v := ii (gt l i3).f) (hl.spanT_at hl8).2 rfl isAgg2 (grV hg69) rfl)) ?_)))
  refine wh1 (c0 := ((decide (0 < ((i3 : Nat) : Int))) && (!(decide ((gt l i3).s < (gt l ((w64 (((i3 : Nat) : Int) - 1)).toNat)).s))))) (g := ((gt l i3).s == (gt l ((w64 (((i3 : Nat) : Int) - 1)).toNat)).s)) rfl rfl rfl rfl rfl (fun hg70 => QV.qo (q_sub rfl (grV hg70))) (wh1 (c0 := ((decide (0 < ((i3 : Nat) : Int))) && (!(decide ((gt l i3).s < (gt l ((w64 (((i3 : Nat) : Int) - 1)).toNat)).s))))) (g := ((gt l i3).s == (gt l ((w64 (((i3 : Nat) : Int) - 1)).toNat)).s)) rfl rfl rfl rfl rfl (fun _ => QV.qo moV) (wh1 (c0 := ((decide (0 < ((i3 : Nat) : Int))) && (!(decide ((gt l i3).s < (gt l ((w64 (((i3 : Nat) : Int) - 1)).toNat)).s))))) (g := ((gt l i3).s == (gt l ((w64 (((i3 : Nat) : Int) - 1)).toNat)).s)) rfl rfl rfl rfl rfl (fun _ => QV.qo moV) (wh1 (c0 := ((decide (0 < ((i3 : Nat) : Int))) && (!(decide ((gt l i3).s < (gt l ((w64 (((i3 : Nat) : Int) - 1)).toNat)).s))))) (g := ((gt l i3).s == (gt l ((w64 (((i3 : Nat) : Int) - 1)).toNat)).s)) rfl rfl rfl rfl rfl (fun hg73 => QV.qo (q_sub rfl (grV hg73))) (wh1 (c0 := ((decide (0 < ((i3 : Nat) : Int))) && (!(decide ((gt l i3).s < (gt l ((w64 (((i3 : Nat) : Int) - 1)).toNat)).s))))) (g := ((gt l i3).s == (gt l ((w64 (((i3 : Nat) : Int) - 1)).toNat)).s)) rfl rfl rfl rfl rfl (fun hg74 => QV.qo (q_ix underlying87 sizeOf93 rfl (grV hg74) (grV hg74) (imp_of hk47 (and_l (and_l hg74))) (hl.some_ (inb_lt (imp_of hk47 (and_l (and_l hg74))))))) ?_))))
  refine wh1 (c0 := ((decide (0 < ((i3 : Nat) : Int))) && (!(decide ((gt l i3).s < (gt l ((w64 (((i3 : Nat) : Int) - 1)).toNat)).s))))) (g := ((gt l i3).s == (gt l ((w64 (((i3 : Nat) : Int) - 1)).toNat)).s)) rfl rfl rfl rfl rfl (fun hg75 => QV.qo (q_field_addr (((w64 (((i3 : Nat) : Int) - 1)).toNat) * 3 + 2) fld_93_2 rfl (grV hg75) (hl.some_ (inb_lt (imp_of hk47 (and_l (and_l hg75))))) rfl)) (wh1 (c0 := ((decide (0 < ((i3 : Nat) : Int))) && (!(decide ((gt l i3).s < (gt l ((w64 (((i3 : Nat) : Int) - 1)).toNat)).s))))) (g := ((gt l i3).s == (gt l ((w64 (((i3 : Nat) : Int) - 1)).toNat)).s)) rfl rfl rfl rfl rfl (fun hg76 => QV.qo (q_ld (c := 2) (v := ii (gt l ((w64 (((i3 : Nat) : Int) - 1)).toNat)).t) (hl.spanT_at (inb_lt (imp_of hk47 (and_l (and_l hg76))))).2 rfl isAgg2 (grV hg76) rfl)) (wh1 (c0 := ((decide (0 < ((i3 : Nat) : Int))) && (!(decide ((gt l i3).s < (gt l ((w64 (((i3 : Nat) : Int) - 1)).toNat)).s))))) (g := ((gt l i3).s == (gt l ((w64 (((i3 : Nat) : Int) - 1)).toNat)).s)) rfl rfl rfl rfl rfl (fun hg77 => QV.qo (q_leq rfl (grV hg77) (grV hg77))) ?_))
  refine wh0 (c0 := (decide (0 < ((i3 : Nat) : Int)))) (g := (decide ((gt l i3).s < (gt l ((w64 (((i3 : Nat) : Int) - 1)).toNat)).s))) rfl rfl rfl rfl rfl (fun hg78 => QV.qo (q_pick rfl (grV hg78) (pk_and (c := ((decide (0 < ((i3 : Nat) : Int))) && (!(decide ((gt l i3).s < (gt l ((w64 (((i3 : Nat) : Int) - 1)).toNat)).s))))) (g := ((gt l i3).s == (gt l ((w64 (((i3 : Nat) : Int) - 1)).toNat)).s)) (y := (decide ((w64 ((gt l i3).f - 1)) ≤ (gt l ((w64 (((i3 : Nat) : Int) - 1)).toNat)).t))) hg78))) (wG1 (h:=fun hg79 => q_pick rfl (grV hg79) (pk_or (c := (decide (0 < ((i3 : Nat) : Int)))) (g := (decide ((gt l i3).s < (gt l ((w64 (((i3 : Nat) : Int) - 1)).toNat)).s))) (y := (((gt l i3).s == (gt l ((w64 (((i3 : Nat) : Int) - 1)).toNat)).s) && (decide ((w64 ((gt l i3).f - 1)) ≤ (gt l ((w64 (((i3 : Nat) : Int) - 1)).toNat)).t)))) hg79)) (k:=zV pkA (k:=?_)))
  refine WQ.nil ?_
  change WC _ _ _ _ _ _
  refine ciV h (fun hb80 h => ?_) (fun hb80 h => ?_)
  ·
   refine WC.rs (aV (k:=WR.done ?_))
   exact WC.ret fun w hw => rq_ r h hF hw
  refine WC.skip (wc_ ?_)
  refine WC.region ?_
  refine mV (k:=sV (q_add_r (r := ((i3 + 1 : Nat) : Int)) rfl rfl rfl (ctr_len hl8 hl.le)) (k:=aV (k:=?_)))
  refine WR.nil ?_
  intro w hw
  exact ⟨hl8, (), h, (sl_ (by kernel_rfl)), hw, trivial⟩
 have h := hge6 (ige hb7)
 refine WC.exit ?_
 change WC _ _ _ _ _ _
 refine WC.rs (aV (k:=WR.done ?_))
 exact WC.ret fun w hw => rq_ r h hF hw
theorem t_firthref03_Top {Γ : Gh} {w0 : World} {Al : Option Addr} {cl : Nat} {l : List Span} (hl : Sl spanT Γ Al l) (hlc : l.length ≤ cl) (s_ : Int) (hs_ : I64 s_) (hs : Sat Γ w0) {r : Int} (h : m_firthref03_Top l s_ = some r) : Calls Tryz.prog 117 #[.slice Al l.length cl, ii s_] w0 (fun e w' => e = .returned (ii r) ∧ Fr no w0 w') := by
 refine goq_ (n := 35) (rs := [4]) (args := [.slice Al l.length cl, ii s_]) func117 rfl ntmps117 results117 rfl hs fun F hF => ?_
 refine WC.rs (aV (k:=WR.done (WC.rs (aV (k:=WR.done (WC.seq (WC.rs ?_)))))))
 refine aV (k:=WR.done (WC.block ?_))
 refine WC.forI h (fun (i4 : Nat) (n_1 : Int) σ w => slots σ [(0, .slice Al l.length cl), (1, ii s_), (5, ii n_1), (6, ii ((i4 : Nat) : Int))] ∧ CC F Γ [] w ∧ I64 n_1 ∧ True) ?_ ?_
 ·
  intro w hw
  exact ⟨(sl_ (by kernel_rfl)), hw, (show I64 0 by decide), trivial⟩
 rintro f3 i4 n_1 σ w hi5 hlt6 hge7 ⟨hsl, hw, hr2, -⟩
 refine Wpt.slots hsl ?_
 refine WC.here (C := CC F Γ []) ?_ hw
 clear hw hsl
 refine WC.seq (WC.rs (mV (k:=mV (k:=sV (q_len_slice rfl underlying87) (k:=sV q_lss (k:=WR.done ?_))))))
 refine WC.cond (b := (decide (((i4 : Nat) : Int) < ((l.length : Nat) : Int)))) (by kernel_rfl) (fun hb8 => ?_) (fun hb8 => ?_)
 ·
  have hl9 := ilt hb8
  have h := hlt6 hl9
  refine WC.skip (wc_ ?_)
  refine WC.cut (fun σ w => ∃ (n_10 : Int), m_firthref03_Top_j6 f3 n_10 = some r ∧ slots σ [(0, .slice Al l.length cl), (1, ii s_), (5, ii n_10), (6, ii ((i4 : Nat) : Int))] ∧ CC F Γ [] w ∧ I64 n_10 ∧ True) ?_ ?_
  ·
   refine WC.block (WC.rs (mV (k:=mV (k:=sV (q_ixn (i := i4) underlying87 sizeOf93 rfl rfl rfl hl9 (hl.some_ hl9)) (k:=sV (q_field_addr (i4 * 3) fld_93_0 rfl rfl (hl.some_ hl9) rfl) (k:=sV (q_ld (c := 0) (v := ii (gt l i4).s) (hl.spanT_at hl9).2 rfl isAgg3 rfl rfl) (k:=mV (k:=?_))))))))
   refine sV q_eql (k:=mV (k:=vG1 (h:=fun hg12 => moV) (k:=vG1 (h:=fun hg13 => moV) (k:=vG1 (h:=fun hg14 => q_ixn (i := i4) underlying87 sizeOf93 rfl (grV hg14) (grV hg14) hl9 (hl.some_ hl9)) (k:=vG1 (h:=fun hg15 => q_field_addr (i4 * 3 + 2) fld_93_2 rfl (grV hg15) (hl.some_ hl9) rfl) (k:=vG1 (h:=fun hg16 => q_ld (c := 2) (v := ii (gt l i4).t) (hl.spanT_at hl9).2 rfl isAgg2 (grV hg16) rfl) (k:=vG1 (h:=fun hg17 => moV) (k:=?_))))))))
   refine vG1 (h:=fun hg18 => q_gtr rfl (grV hg18) (grV hg18)) (k:=sV pkA (k:=WR.done ?_))
   refine ciV h (fun hb19 h => ?_) (fun hb19 h => ?_)
   ·
    refine WC.region ?_
    refine mV (k:=mV (k:=sV (q_ixn (i := i4) underlying87 sizeOf93 rfl rfl rfl hl9 (hl.some_ hl9)) (k:=sV (q_field_addr (i4 * 3 + 2) fld_93_2 rfl rfl (hl.some_ hl9) rfl) (k:=sV (q_ld (c := 2) (v := ii (gt l i4).t) (hl.spanT_at hl9).2 rfl isAgg2 rfl rfl) (k:=aV (k:=?_))))))
    refine WR.nil ?_
    intro w hw
    exact ⟨(gt l i4).t, h, (sl_ (by kernel_rfl)), hw, (hl.spanT_at hl9).1.2.2, trivial⟩
   refine WC.skip ?_
   intro w hw
   exact ⟨n_1, h, (sl_ (by kernel_rfl)), hw, hr2, trivial⟩
  rintro σ w ⟨n_10, h, hsl, hw, hr11, -⟩
  refine Wpt.slots hsl ?_
  refine WC.here (C := CC F Γ []) ?_ hw
  clear hw hsl
  refine WC.region ?_
  refine mV (k:=sV (q_add_r (r := ((i4 + 1 : Nat) : Int)) rfl rfl rfl (ctr_len hl9 hl.le)) (k:=aV (k:=?_)))
  refine WR.nil ?_
  intro w hw
  exact ⟨hl9, n_10, h, (sl_ (by kernel_rfl)), hw, hr11, trivial⟩
 have h := hge7 (ige hb8)
 refine WC.exit ?_
 change WC _ _ _ _ _ _
 refine WC.rs (mV (k:=aV (k:=WR.done ?_)))
 exact WC.ret fun w hw => rq_ r h hF hw
theorem t_firthref05_RightOne {Γ : Gh} {w0 : World} {Av_2 : Option Addr} {cv_2 : Nat} (v_ : Ver) (hv_ : Ver.fits Γ Av_2 cv_2 v_) (hs : Sat Γ w0) {r : Bool} (h : m_firthref05_RightOne v_ = some r) : Calls Tryz.prog 80 #[.agg #[ii v_.dot.s, ii v_.dot.n, .slice Av_2 v_.past.length cv_2, .bool v_.gone, .string v_.val]] w0 (fun e w' => e = .returned (.bool r) ∧ Fr no w0 w') := by
 refine goq_ (n := 34) (rs := [2]) (args := [.agg #[ii v_.dot.s, ii v_.dot.n, .slice Av_2 v_.past.length cv_2, .bool v_.gone, .string v_.val]]) func80 rfl ntmps80 results80 rfl hs fun F hF => ?_
 refine WC.rs ?_
 refine bxV (v := .agg #[ii v_.dot.s, ii v_.dot.n, .slice Av_2 v_.past.length cv_2, .bool v_.gone, .string v_.val]) ?_
 intro g1
 refine aV (k:=WR.done (WC.seq (WC.seq ?_)))
 refine WC.dr (by kernel_rfl) (by kernel_rfl) (fun w hw => hw.drawn _) ?_
 refine zV (q_fl 0 fld_89_0) (k:=zV (ldaV 0 [ii v_.dot.s, ii v_.dot.n] isAgg86 sizeOf86) (k:=?_))
 obtain ⟨z2, hz3, h⟩ := bnd h
 refine wc rfl rfl rfl (q_call (caV call115) (fun w hw => t_firthref03_Dot (Γ := Gh.all w) v_.dot ⟨hv_.1, hv_.2.1⟩ (Sat.all w) hz3)) (zV q_not (k:=zV moV (k:=wG0 (h:=fun hg4 => q_fl 2 fld_89_1) (k:=wG0 (h:=fun hg5 => ldV 0 isAgg87 (hx:=grV hg5)) (k:=?_)))))
 obtain ⟨z7, hz8, h⟩ := bnd h
 refine wg0 rfl rfl rfl rfl rfl (fun hg6 => (q_call (call_run call116 rfl rfl (args1 (grV hg6))) (fun w hw => t_firthref03_Right (Γ := Gh.all w) (hv_.2.2.1.2.mono hw.sat.le_all) hv_.2.2.1.1 (Sat.all w) (gc_of hz8 hg6)))) (wG0 (h:=fun hg9 => q_not rfl (grV hg9)) (k:=zV pkO (k:=zV moV (k:=wG0 (h:=fun hg10 => q_fl 2 fld_89_1) (k:=wG0 (h:=fun hg11 => ldV 0 isAgg87 (hx:=grV hg11)) (k:=wG0 (h:=fun hg12 => q_fl 0 fld_89_0) (k:=wG0 (h:=fun hg13 => q_fl 0 fld_86_0 rfl (grV hg13)) (k:=?_))))))))
 refine wG0 (h:=fun hg14 => ldV 0 isAgg3 (hx:=grV hg14)) (k:=?_)
 obtain ⟨z16, hz17, h⟩ := bnd h
 refine wg0 rfl rfl rfl rfl rfl (fun hg15 => (q_call (call_run call117 rfl rfl (args2 (grV hg15) (grV hg15))) (fun w hw => t_firthref03_Top (Γ := Gh.all w) (hv_.2.2.1.2.mono hw.sat.le_all) hv_.2.2.1.1 v_.dot.s hv_.1 (Sat.all w) (gc_of hz17 hg15)))) (wG0 (h:=fun hg18 => q_fl 0 fld_89_0) (k:=wG0 (h:=fun hg19 => q_fl 1 fld_86_1 rfl (grV hg19)) (k:=wG0 (h:=fun hg20 => ldV 0 isAgg2 (hx:=grV hg20)) (k:=wG0 (h:=fun hg21 => q_geq rfl (grV hg21) (grV hg21)) (k:=zV pkO (k:=?_))))))
 refine WQ.nil ?_
 change WC _ _ _ _ _ _
 refine ciV h (fun hb22 h => ?_) (fun hb22 h => ?_)
 ·
  refine WC.rs (aV (k:=WR.done ?_))
  exact WC.ret fun w hw => rq_ r h hF hw
 refine WC.skip (wc_ ?_)
 refine WC.seq (WC.rs (sV (q_fl 3 fld_89_2) (k:=sV (ldV 0 isAgg4) (k:=WR.done ?_))))
 refine ciV h (fun hb23 h => ?_) (fun hb23 h => ?_)
 ·
  refine WC.rs (sV (q_fl 4 fld_89_3) (k:=sV (ldV 0 isAgg9) (k:=sV q_seql (k:=aV (k:=WR.done ?_)))))
  exact WC.ret fun w hw => rq_ r h hF hw
 refine WC.skip (wc_ ?_)
 refine WC.rs (sV (q_fl 4 fld_89_3) (k:=sV (ldV 0 isAgg9) (k:=sV (q_len_str rfl underlying9) (k:=sV q_leq (k:=aV (k:=WR.done ?_))))))
 exact WC.ret fun w hw => rq_ r h hF hw
theorem t_firthref03_Has {Γ : Gh} {w0 : World} {Al : Option Addr} {cl : Nat} {l : List Span} (hl : Sl spanT Γ Al l) (hlc : l.length ≤ cl) (d : Dot) (hd : Dot.fits Γ  d) (hs : Sat Γ w0) {r : Bool} (h : m_firthref03_Has l d = some r) : Calls Tryz.prog 82 #[.slice Al l.length cl, .agg #[ii d.s, ii d.n]] w0 (fun e w' => e = .returned (.bool r) ∧ Fr no w0 w') := by
 refine goq_ (n := 40) (rs := [4]) (args := [.slice Al l.length cl, .agg #[ii d.s, ii d.n]]) func82 rfl ntmps82 results82 rfl hs fun F hF => ?_
 refine WC.rs ?_
 refine bxV (v := .agg #[ii d.s, ii d.n]) ?_
 intro g1
 refine aV (k:=WR.done (WC.seq (WC.rs (aV (k:=WR.done (WC.block ?_))))))
 refine WC.forI h (fun (i3 : Nat) (s : Unit) σ w => match s with | () => slots σ [(0, .slice Al l.length cl), (3, (pq g1)), (5, ii ((i3 : Nat) : Int))] ∧ CC F Γ [[(g1, .cells #[ii d.s, ii d.n] 86 (0, 0))]] w ∧ True) ?_ ?_
 ·
  intro w hw
  exact ⟨(sl_ (by kernel_rfl)), hw, trivial⟩
 rintro f2 i3 ⟨⟩ σ w hi4 hlt5 hge6 ⟨hsl, hw, -⟩
 refine Wpt.slots hsl ?_
 refine WC.here (C := CC F Γ [_]) ?_ hw
 clear hw hsl
 refine WC.seq (WC.rs (mV (k:=mV (k:=sV (q_len_slice rfl underlying87) (k:=sV q_lss (k:=WR.done ?_))))))
 refine WC.cond (b := (decide (((i3 : Nat) : Int) < ((l.length : Nat) : Int)))) (by kernel_rfl) (fun hb7 => ?_) (fun hb7 => ?_)
 ·
  have hl8 := ilt hb7
  have h := hlt5 hl8
  refine WC.skip (wc_ ?_)
  refine WC.seq (WC.block (WC.seq ?_))
  refine WC.dr (by kernel_rfl) (by kernel_rfl) (fun w hw => hw.drawn _) ?_
  refine zV moV (k:=zV moV (k:=zV (q_ixn (i := i3) underlying87 sizeOf93 rfl rfl rfl hl8 (hl.some_ hl8)) (k:=zV (q_field_addr (i3 * 3) fld_93_0 rfl rfl (hl.some_ hl8) rfl) (k:=zV (q_ld (c := 0) (v := ii (gt l i3).s) (hl.spanT_at hl8).2 rfl isAgg3 rfl rfl) (k:=zV (q_fl 0 fld_86_0) (k:=zV (ldV 0 isAgg3) (k:=zV q_eql (k:=?_))))))))
  refine zV moV (k:=wG1 (h:=fun hg9 => q_fl 1 fld_86_1) (k:=wG1 (h:=fun hg10 => ldV 0 isAgg2 (hx:=grV hg10)) (k:=wG1 (h:=fun hg11 => moV) (k:=wG1 (h:=fun hg12 => moV) (k:=wG1 (h:=fun hg13 => q_ixn (i := i3) underlying87 sizeOf93 rfl (grV hg13) (grV hg13) hl8 (hl.some_ hl8)) (k:=wG1 (h:=fun hg14 => q_field_addr (i3 * 3 + 1) fld_93_1 rfl (grV hg14) (hl.some_ hl8) rfl) (k:=wG1 (h:=fun hg15 => q_ld (c := 1) (v := ii (gt l i3).f) (hl.spanT_at hl8).2 rfl isAgg2 (grV hg15) rfl) (k:=?_))))))))
  refine wG1 (h:=fun hg16 => q_geq rfl (grV hg16) (grV hg16)) (k:=zV pkA (k:=zV moV (k:=wG1 (h:=fun hg17 => q_fl 1 fld_86_1) (k:=wG1 (h:=fun hg18 => ldV 0 isAgg2 (hx:=grV hg18)) (k:=wG1 (h:=fun hg19 => moV) (k:=wG1 (h:=fun hg20 => moV) (k:=wG1 (h:=fun hg21 => q_ixn (i := i3) underlying87 sizeOf93 rfl (grV hg21) (grV hg21) hl8 (hl.some_ hl8)) (k:=?_))))))))
  refine wG1 (h:=fun hg22 => q_field_addr (i3 * 3 + 2) fld_93_2 rfl (grV hg22) (hl.some_ hl8) rfl) (k:=wG1 (h:=fun hg23 => q_ld (c := 2) (v := ii (gt l i3).t) (hl.spanT_at hl8).2 rfl isAgg2 (grV hg23) rfl) (k:=wG1 (h:=fun hg24 => q_leq rfl (grV hg24) (grV hg24)) (k:=zV pkA (k:=?_))))
  refine WQ.nil ?_
  change WC _ _ _ _ _ _
  refine ciV h (fun hb25 h => ?_) (fun hb25 h => ?_)
  ·
   refine WC.rs (aV (k:=WR.done ?_))
   exact WC.ret fun w hw => rq_ r h hF hw
  refine WC.skip (wc_ ?_)
  refine WC.region ?_
  refine mV (k:=sV (q_add_r (r := ((i3 + 1 : Nat) : Int)) rfl rfl rfl (ctr_len hl8 hl.le)) (k:=aV (k:=?_)))
  refine WR.nil ?_
  intro w hw
  exact ⟨hl8, (), h, (sl_ (by kernel_rfl)), hw, trivial⟩
 have h := hge6 (ige hb7)
 refine WC.exit ?_
 change WC _ _ _ _ _ _
 refine WC.rs (aV (k:=WR.done ?_))
 exact WC.ret fun w hw => rq_ r h hF hw
theorem t_firthref05_Behind {Γ : Gh} {w0 : World} {Al : Option Addr} {cl : Nat} {l : List Ver} (hl : Sl verT Γ Al l) (hlc : l.length ≤ cl) (d : Dot) (hd : Dot.fits Γ  d) (hs : Sat Γ w0) {r : Bool} (h : m_firthref05_Behind l d = some r) : Calls Tryz.prog 51 #[.slice Al l.length cl, .agg #[ii d.s, ii d.n]] w0 (fun e w' => e = .returned (.bool r) ∧ Fr no w0 w') := by
 refine goq_ (n := 19) (rs := [4]) (args := [.slice Al l.length cl, .agg #[ii d.s, ii d.n]]) func51 rfl ntmps51 results51 rfl hs fun F hF => ?_
 refine WC.rs ?_
 refine bxV (v := .agg #[ii d.s, ii d.n]) ?_
 intro g1
 refine aV (k:=WR.done (WC.seq (WC.rs (aV (k:=WR.done (WC.block ?_))))))
 refine WC.forI h (fun (i3 : Nat) (s : Unit) σ w => match s with | () => slots σ [(0, .slice Al l.length cl), (3, (pq g1)), (5, ii ((i3 : Nat) : Int))] ∧ CC F Γ [[(g1, .cells #[ii d.s, ii d.n] 86 (0, 0))]] w ∧ True) ?_ ?_
 ·
  intro w hw
  exact ⟨(sl_ (by kernel_rfl)), hw, trivial⟩
 rintro f2 i3 ⟨⟩ σ w hi4 hlt5 hge6 ⟨hsl, hw, -⟩
 refine Wpt.slots hsl ?_
 refine WC.here (C := CC F Γ [_]) ?_ hw
 clear hw hsl
 refine WC.seq (WC.rs (mV (k:=mV (k:=sV (q_len_slice rfl underlying43) (k:=sV q_lss (k:=WR.done ?_))))))
 refine WC.cond (b := (decide (((i3 : Nat) : Int) < ((l.length : Nat) : Int)))) (by kernel_rfl) (fun hb7 => ?_) (fun hb7 => ?_)
 ·
  have hl8 := ilt hb7
  have h := hlt5 hl8
  refine WC.skip (wc_ ?_)
  refine WC.seq (WC.block (WC.seq ?_))
  refine WC.dr (by kernel_rfl) (by kernel_rfl) (fun w hw => hw.drawn _) ?_
  refine zV moV (k:=zV moV (k:=zV (q_ixn (i := i3) underlying43 sizeOf89 rfl rfl rfl hl8 (hl.some_ hl8)) (k:=zV (q_field_addr (i3 * 5 + 2) fld_89_1 rfl rfl (hl.some_ hl8) rfl) (k:=?_))))
  obtain ⟨A9, c10, hx11⟩ := hl.verT_at i3
  refine zV (q_ld (c := 2) (v := .slice A9 ((gt l i3).past).length c10) (hx11 hl8).2 rfl isAgg87 rfl rfl) (k:=zV (ldaV 0 [ii d.s, ii d.n] isAgg86 sizeOf86) (k:=?_))
  obtain ⟨z12, hz13, h⟩ := bnd h
  refine wc rfl rfl rfl (q_call (caV call82) (fun w hw => t_firthref03_Has (Γ := Gh.all w) ((hx11 hl8).1.2.2.1.2.mono hw.sat.le_all) (hx11 hl8).1.2.2.1.1 d hd (Sat.all w) hz13)) ?_
  refine WQ.nil ?_
  change WC _ _ _ _ _ _
  refine ciV h (fun hb14 h => ?_) (fun hb14 h => ?_)
  ·
   refine WC.rs (aV (k:=WR.done ?_))
   exact WC.ret fun w hw => rq_ r h hF hw
  refine WC.skip (wc_ ?_)
  refine WC.region ?_
  refine mV (k:=sV (q_add_r (r := ((i3 + 1 : Nat) : Int)) rfl rfl rfl (ctr_len hl8 hl.le)) (k:=aV (k:=?_)))
  refine WR.nil ?_
  intro w hw
  exact ⟨hl8, (), h, (sl_ (by kernel_rfl)), hw, trivial⟩
 have h := hge6 (ige hb7)
 refine WC.exit ?_
 change WC _ _ _ _ _ _
 refine WC.rs (aV (k:=WR.done ?_))
 exact WC.ret fun w hw => rq_ r h hF hw
theorem t_firthref05_Less {Γ : Gh} {w0 : World} (a : Dot) (ha : Dot.fits Γ  a) (b : Dot) (hb : Dot.fits Γ  b) (hs : Sat Γ w0) {r : Bool} (h : m_firthref05_Less a b = some r) : Calls Tryz.prog 81 #[.agg #[ii a.s, ii a.n], .agg #[ii b.s, ii b.n]] w0 (fun e w' => e = .returned (.bool r) ∧ Fr no w0 w') := by
 refine goq_ (n := 20) (rs := [4]) (args := [.agg #[ii a.s, ii a.n], .agg #[ii b.s, ii b.n]]) func81 rfl ntmps81 results81 rfl hs fun F hF => ?_
 refine WC.rs ?_
 refine bxV (v := .agg #[ii a.s, ii a.n]) ?_
 intro g1
 refine bxV (v := .agg #[ii b.s, ii b.n]) ?_
 intro g2
 refine aV (k:=WR.done (WC.seq (WC.rs (sV (q_fl 0 fld_86_0) (k:=sV (ldV 1 isAgg3) (k:=sV (q_fl 0 fld_86_0) (k:=sV (ldV 0 isAgg3) (k:=?_))))))))
 refine sV q_neq (k:=WR.done ?_)
 refine ciV h (fun hb3 h => ?_) (fun hb3 h => ?_)
 ·
  refine WC.rs (sV (q_fl 0 fld_86_0) (k:=sV (ldV 1 isAgg3) (k:=sV (q_fl 0 fld_86_0) (k:=sV (ldV 0 isAgg3) (k:=sV q_lss (k:=aV (k:=WR.done ?_)))))))
  exact WC.ret fun w hw => rq_ r h hF hw
 refine WC.skip (wc_ ?_)
 refine WC.rs (sV (q_fl 1 fld_86_1) (k:=sV (ldV 1 isAgg2) (k:=sV (q_fl 1 fld_86_1) (k:=sV (ldV 0 isAgg2) (k:=sV q_lss (k:=aV (k:=WR.done ?_)))))))
 exact WC.ret fun w hw => rq_ r h hF hw
theorem t_firthref05_Right {Γ : Gh} {w0 : World} {Al : Option Addr} {cl : Nat} {l : List Ver} (hl : Sl verT Γ Al l) (hlc : l.length ≤ cl) (hs : Sat Γ w0) {r : Bool} (h : m_firthref05_Right l = some r) : Calls Tryz.prog 50 #[.slice Al l.length cl] w0 (fun e w' => e = .returned (.bool r) ∧ Fr no w0 w') := by
 refine goq_ (n := 45) (rs := [2]) (args := [.slice Al l.length cl]) func50 rfl ntmps50 results50 rfl hs fun F hF => ?_
 refine WC.rs (aV (k:=WR.done (WC.seq (WC.rs (mV (k:=sV (q_len_slice rfl underlying43) (k:=sV q_gtr (k:=?_))))))))
 refine WR.done ?_
 refine ciV h (fun hb1 h => ?_) (fun hb1 h => ?_)
 ·
  refine WC.rs (aV (k:=WR.done ?_))
  exact WC.ret fun w hw => rq_ r h hF hw
 refine WC.skip (wc_ ?_)
 refine WC.seq (WC.rs (aV (k:=WR.done (WC.block ?_))))
 refine WC.forI h (fun (i3 : Nat) (s : Unit) σ w => match s with | () => slots σ [(0, .slice Al l.length cl), (3, ii ((i3 : Nat) : Int))] ∧ CC F Γ [] w ∧ True) ?_ ?_
 ·
  intro w hw
  exact ⟨(sl_ (by kernel_rfl)), hw, trivial⟩
 rintro f2 i3 ⟨⟩ σ w hi4 hlt5 hge6 ⟨hsl, hw, -⟩
 refine Wpt.slots hsl ?_
 refine WC.here (C := CC F Γ []) ?_ hw
 clear hw hsl
 refine WC.seq (WC.rs (mV (k:=mV (k:=sV (q_len_slice rfl underlying43) (k:=sV q_lss (k:=WR.done ?_))))))
 refine WC.cond (b := (decide (((i3 : Nat) : Int) < ((l.length : Nat) : Int)))) (by kernel_rfl) (fun hb7 => ?_) (fun hb7 => ?_)
 ·
  have hl8 := ilt hb7
  have h := hlt5 hl8
  refine WC.skip (wc_ ?_)
  refine WC.seq (WC.block (WC.seq (WC.rs (mV (k:=mV (k:=sV (q_ixn (i := i3) underlying43 sizeOf89 rfl rfl rfl hl8 (hl.some_ hl8)) (k:=?_)))))))
  obtain ⟨A9, c10, hx11⟩ := hl.verT_at i3
  refine sV (q_lda (c := 0) (vs := [ii (gt l i3).dot.s, ii (gt l i3).dot.n, .slice A9 ((gt l i3).past).length c10, .bool (gt l i3).gone, .string (gt l i3).val]) (hx11 hl8).2 rfl isAgg89 sizeOf89 rfl rfl rfl) (k:=?_)
  obtain ⟨z12, hz13, h⟩ := bnd h
  refine vqV (caV call80) (fun w hw => t_firthref05_RightOne (Γ := Gh.all w) (gt l i3) (Ver.fits_mono (hx11 hl8).1 hw.sat.le_all) (Sat.all w) hz13) (k:=sV q_not (k:=mV (k:=vG0 (h:=fun hg14 => moV) (k:=vG0 (h:=fun hg15 => moV) (k:=vG0 (h:=fun hg16 => moV) (k:=vG0 (h:=fun hg17 => q_ixn (i := i3) underlying43 sizeOf89 rfl (grV hg17) (grV hg17) hl8 (hl.some_ hl8)) (k:=vG0 (h:=fun hg18 => q_field_addr (i3 * 5) fld_89_0 rfl (grV hg18) (hl.some_ hl8) rfl) (k:=?_))))))))
  refine vG0 (h:=fun hg19 => q_lda (c := 0) (vs := [ii (gt l i3).dot.s, ii (gt l i3).dot.n]) (hx11 hl8).2 rfl isAgg86 sizeOf86 (grV hg19) rfl rfl) (k:=?_)
  obtain ⟨z21, hz22, h⟩ := bnd h
  refine vg0 rfl rfl rfl rfl rfl (fun hg20 => (q_call (call_run call51 rfl rfl (args2 (grV hg20) (grV hg20))) (fun w hw => t_firthref05_Behind (Γ := Gh.all w) (hl.mono hw.sat.le_all) hlc ((gt l i3).dot) ⟨(hx11 hl8).1.1, (hx11 hl8).1.2.1⟩ (Sat.all w) (gc_of hz22 hg20)))) (sV pkO (k:=WR.done ?_))
  refine ciV h (fun hb23 h => ?_) (fun hb23 h => ?_)
  ·
   refine WC.rs (aV (k:=WR.done ?_))
   exact WC.ret fun w hw => rq_ r h hF hw
  refine WC.skip (wc_ ?_)
  refine WC.seq ?_
  refine WC.dr (by kernel_rfl) (by kernel_rfl) (fun w hw => hw.drawn _) ?_
  refine zV moV (k:=zV q_gtr (k:=zV moV (k:=wG1 (h:=fun hg24 => moV) (k:=wG1 (h:=fun hg25 => moV) (k:=wG1 (h:=fun hg26 => q_sub rfl (grV hg26)) (k:=?_))))))
  obtain ⟨hk28, h⟩ := chk_some h
  refine wG1 (h:=fun hg27 => q_ix underlying43 sizeOf89 rfl (grV hg27) (grV hg27) (imp_of hk28 hg27) (hl.some_ (inb_lt (imp_of hk28 hg27)))) (k:=wG1 (h:=fun hg29 => q_field_addr (((w64 (((i3 : Nat) : Int) - 1)).toNat) * 5) fld_89_0 rfl (grV hg29) (hl.some_ (inb_lt (imp_of hk28 hg29))) rfl) (k:=?_))
  obtain ⟨A31, c32, hx33⟩ := hl.verT_at ((w64 (((i3 : Nat) : Int) - 1)).toNat)
  refine wG1 (h:=fun hg30 => q_lda (c := 0) (vs := [ii (gt l ((w64 (((i3 : Nat) : Int) - 1)).toNat)).dot.s, ii (gt l ((w64 (((i3 : Nat) : Int) - 1)).toNat)).dot.n]) (hx33 (inb_lt (imp_of hk28 hg30))).2 rfl isAgg86 sizeOf86 (grV hg30) rfl rfl) (k:=wG1 (h:=fun hg34 => moV) (k:=wG1 (h:=fun hg35 => moV) (k:=wG1 (h:=fun hg36 => q_ixn (i := i3) underlying43 sizeOf89 rfl (grV hg36) (grV hg36) hl8 (hl.some_ hl8)) (k:=wG1 (h:=fun hg37 => q_field_addr (i3 * 5) fld_89_0 rfl (grV hg37) (hl.some_ hl8) rfl) (k:=wG1 (h:=fun hg38 => q_lda (c := 0) (vs := [ii (gt l i3).dot.s, ii (gt l i3).dot.n]) (hx11 hl8).2 rfl isAgg86 sizeOf86 (grV hg38) rfl rfl) (k:=?_))))))
  obtain ⟨z40, hz41, h⟩ := bnd h
  refine wg1 rfl rfl rfl rfl rfl (fun hg39 => (q_call (call_run call81 rfl rfl (args2 (grV hg39) (grV hg39))) (fun w hw => t_firthref05_Less (Γ := Gh.all w) ((gt l ((w64 (((i3 : Nat) : Int) - 1)).toNat)).dot) ⟨(hx33 (inb_lt (imp_of hk28 hg39))).1.1, (hx33 (inb_lt (imp_of hk28 hg39))).1.2.1⟩ ((gt l i3).dot) ⟨(hx11 hl8).1.1, (hx11 hl8).1.2.1⟩ (Sat.all w) (gc_of hz41 hg39)))) (wG1 (h:=fun hg42 => q_not rfl (grV hg42)) (k:=zV pkA (k:=?_)))
  refine WQ.nil ?_
  change WC _ _ _ _ _ _
  refine ciV h (fun hb43 h => ?_) (fun hb43 h => ?_)
  ·
   refine WC.rs (aV (k:=WR.done ?_))
   exact WC.ret fun w hw => rq_ r h hF hw
  refine WC.skip (wc_ ?_)
  refine WC.region ?_
  refine mV (k:=sV (q_add_r (r := ((i3 + 1 : Nat) : Int)) rfl rfl rfl (ctr_len hl8 hl.le)) (k:=aV (k:=?_)))
  refine WR.nil ?_
  intro w hw
  exact ⟨hl8, (), h, (sl_ (by kernel_rfl)), hw, trivial⟩
 have h := hge6 (ige hb7)
 refine WC.exit ?_
 change WC _ _ _ _ _ _
 refine WC.rs (aV (k:=WR.done ?_))
 exact WC.ret fun w hw => rq_ r h hF hw
theorem t_firthref06_RightRec {Γ : Gh} {w0 : World} {Ar_1 : Option Addr} {cr_1 : Nat} (r_ : Rec) (hr_ : Rec.fits Γ Ar_1 cr_1 r_) (hs : Sat Γ w0) {r : Bool} (h : m_firthref06_RightRec r_ = some r) : Calls Tryz.prog 28 #[.agg #[.string r_.key, .slice Ar_1 r_.vers.length cr_1]] w0 (fun e w' => e = .returned (.bool r) ∧ Fr no w0 w') := by
 refine goq_ (n := 17) (rs := [2]) (args := [.agg #[.string r_.key, .slice Ar_1 r_.vers.length cr_1]]) func28 rfl ntmps28 results28 rfl hs fun F hF => ?_
 refine WC.rs ?_
 refine bxV (v := .agg #[.string r_.key, .slice Ar_1 r_.vers.length cr_1]) ?_
 intro g1
 refine aV (k:=WR.done (WC.rs (sV (q_fl 0 fld_45_0) (k:=sV (ldV 0 isAgg9) (k:=sV q_sneq (k:=mV (k:=vG1 (h:=fun hg2 => q_fl 0 fld_45_0) (k:=?_))))))))
 refine vG1 (h:=fun hg3 => ldV 0 isAgg9 (hx:=grV hg3)) (k:=vG1 (h:=fun hg4 => q_len_str rfl underlying9 (grV hg4)) (k:=vG1 (h:=fun hg5 => q_leq rfl (grV hg5)) (k:=sV pkA (k:=mV (k:=vG1 (h:=fun hg6 => q_fl 1 fld_45_1) (k:=vG1 (h:=fun hg7 => ldV 0 isAgg43 (hx:=grV hg7)) (k:=?_)))))))
 obtain ⟨z9, hz10, h⟩ := bnd h
 refine vg1 rfl rfl rfl rfl rfl (fun hg8 => (q_call (call_run call50 rfl rfl (args1 (grV hg8))) (fun w hw => t_firthref05_Right (Γ := Gh.all w) (hr_.2.2.mono hw.sat.le_all) hr_.2.1 (Sat.all w) (gc_of hz10 hg8)))) (sV pkA (k:=aV (k:=WR.done ?_)))
 exact WC.ret fun w hw => rq_ r h hF hw
theorem t_firthref03_Same {Γ : Gh} {w0 : World} {Aa : Option Addr} {ca : Nat} {a : List Span} (ha : Sl spanT Γ Aa a) (hac : a.length ≤ ca) {Ab : Option Addr} {cb : Nat} {b : List Span} (hb : Sl spanT Γ Ab b) (hbc : b.length ≤ cb) (hs : Sat Γ w0) {r : Bool} (h : m_firthref03_Same a b = some r) : Calls Tryz.prog 76 #[.slice Aa a.length ca, .slice Ab b.length cb] w0 (fun e w' => e = .returned (.bool r) ∧ Fr no w0 w') := by
 refine goq_ (n := 26) (rs := [4]) (args := [.slice Aa a.length ca, .slice Ab b.length cb]) func76 rfl ntmps76 results76 rfl hs fun F hF => ?_
 refine WC.rs (aV (k:=WR.done (WC.seq (WC.rs (mV (k:=sV (q_len_slice rfl underlying87) (k:=mV (k:=?_))))))))
 refine sV (q_len_slice rfl underlying87) (k:=sV q_neq (k:=WR.done ?_))
 refine ciV h (fun hb1 h => ?_) (fun hb1 h => ?_)
 ·
  refine WC.rs (aV (k:=WR.done ?_))
  exact WC.ret fun w hw => rq_ r h hF hw
 refine WC.skip (wc_ ?_)
 refine WC.seq (WC.rs (aV (k:=WR.done (WC.block ?_))))
 refine WC.forI h (fun (i3 : Nat) (s : Unit) σ w => match s with | () => slots σ [(0, .slice Aa a.length ca), (1, .slice Ab b.length cb), (5, ii ((i3 : Nat) : Int))] ∧ CC F Γ [] w ∧ True) ?_ ?_
 ·
  intro w hw
  exact ⟨(sl_ (by kernel_rfl)), hw, trivial⟩
 rintro f2 i3 ⟨⟩ σ w hi4 hlt5 hge6 ⟨hsl, hw, -⟩
 refine Wpt.slots hsl ?_
 refine WC.here (C := CC F Γ []) ?_ hw
 clear hw hsl
 refine WC.seq (WC.rs (mV (k:=mV (k:=sV (q_len_slice rfl underlying87) (k:=sV q_lss (k:=WR.done ?_))))))
 refine WC.cond (b := (decide (((i3 : Nat) : Int) < ((a.length : Nat) : Int)))) (by kernel_rfl) (fun hb7 => ?_) (fun hb7 => ?_)
 ·
  have hl8 := ilt hb7
  have h := hlt5 hl8
  refine WC.skip (wc_ ?_)
  refine WC.seq (WC.block (WC.seq ?_))
  refine WC.dr (by kernel_rfl) (by kernel_rfl) (fun w hw => hw.drawn _) ?_
  refine zV moV (k:=zV moV (k:=zV (q_ixn (i := i3) underlying87 sizeOf93 rfl rfl rfl hl8 (ha.some_ hl8)) (k:=zV (q_lda (c := 0) (vs := [ii (gt a i3).s, ii (gt a i3).f, ii (gt a i3).t]) (ha.spanT_at hl8).2 rfl isAgg93 sizeOf93 rfl rfl rfl) (k:=zV moV (k:=zV moV (k:=?_))))))
  obtain ⟨hk9, h⟩ := chk_some h
  refine zV (q_ixn (i := i3) underlying87 sizeOf93 rfl rfl rfl (of_decide_eq_true hk9) (hb.some_ (of_decide_eq_true hk9))) (k:=zV (q_lda (c := 0) (vs := [ii (gt b i3).s, ii (gt b i3).f, ii (gt b i3).t]) (hb.spanT_at (of_decide_eq_true hk9)).2 rfl isAgg93 sizeOf93 rfl rfl rfl) (k:=zV (q_neq_Span (a := (gt a i3)) (b := (gt b i3)) rfl rfl rfl) (k:=?_)))
  refine WQ.nil ?_
  change WC _ _ _ _ _ _
  refine ciV h (fun hb10 h => ?_) (fun hb10 h => ?_)
  ·
   refine WC.rs (aV (k:=WR.done ?_))
   exact WC.ret fun w hw => rq_ r h hF hw
  refine WC.skip (wc_ ?_)
  refine WC.region ?_
  refine mV (k:=sV (q_add_r (r := ((i3 + 1 : Nat) : Int)) rfl rfl rfl (ctr_len hl8 ha.le)) (k:=aV (k:=?_)))
  refine WR.nil ?_
  intro w hw
  exact ⟨hl8, (), h, (sl_ (by kernel_rfl)), hw, trivial⟩
 have h := hge6 (ige hb7)
 refine WC.exit ?_
 change WC _ _ _ _ _ _
 refine WC.rs (aV (k:=WR.done ?_))
 exact WC.ret fun w hw => rq_ r h hF hw
theorem t_firthref05_SameOne {Γ : Gh} {w0 : World} {Aa2 : Option Addr} {ca2 : Nat} (a : Ver) (ha : Ver.fits Γ Aa2 ca2 a) {Ab2 : Option Addr} {cb2 : Nat} (b : Ver) (hb : Ver.fits Γ Ab2 cb2 b) (hs : Sat Γ w0) {r : Bool} (h : m_firthref05_SameOne a b = some r) : Calls Tryz.prog 45 #[.agg #[ii a.dot.s, ii a.dot.n, .slice Aa2 a.past.length ca2, .bool a.gone, .string a.val], .agg #[ii b.dot.s, ii b.dot.n, .slice Ab2 b.past.length cb2, .bool b.gone, .string b.val]] w0 (fun e w' => e = .returned (.bool r) ∧ Fr no w0 w') := by
 refine goq_ (n := 31) (rs := [4]) (args := [.agg #[ii a.dot.s, ii a.dot.n, .slice Aa2 a.past.length ca2, .bool a.gone, .string a.val], .agg #[ii b.dot.s, ii b.dot.n, .slice Ab2 b.past.length cb2, .bool b.gone, .string b.val]]) func45 rfl ntmps45 results45 rfl hs fun F hF => ?_
 refine WC.rs ?_
 refine bxV (v := .agg #[ii a.dot.s, ii a.dot.n, .slice Aa2 a.past.length ca2, .bool a.gone, .string a.val]) ?_
 intro g1
 refine bxV (v := .agg #[ii b.dot.s, ii b.dot.n, .slice Ab2 b.past.length cb2, .bool b.gone, .string b.val]) ?_
 intro g2
 refine aV (k:=WR.done (WC.rs (sV (q_fl 0 fld_89_0) (k:=sV (ldaV 1 [ii a.dot.s, ii a.dot.n] isAgg86 sizeOf86) (k:=sV (q_fl 0 fld_89_0) (k:=sV (ldaV 0 [ii b.dot.s, ii b.dot.n] isAgg86 sizeOf86) (k:=sV (q_eql_Dot (a := a.dot) (b := b.dot) rfl rfl rfl) (k:=?_))))))))
 refine mV (k:=vG1 (h:=fun hg3 => q_fl 3 fld_89_2) (k:=vG1 (h:=fun hg4 => ldV 1 isAgg4 (hx:=grV hg4)) (k:=vG1 (h:=fun hg5 => q_fl 3 fld_89_2) (k:=vG1 (h:=fun hg6 => ldV 0 isAgg4 (hx:=grV hg6)) (k:=vG1 (h:=fun hg7 => q_beql underlying4 rfl (grV hg7) (grV hg7)) (k:=sV pkA (k:=mV (k:=?_))))))))
 refine vG1 (h:=fun hg8 => q_fl 4 fld_89_3) (k:=vG1 (h:=fun hg9 => ldV 1 isAgg9 (hx:=grV hg9)) (k:=vG1 (h:=fun hg10 => q_fl 4 fld_89_3) (k:=vG1 (h:=fun hg11 => ldV 0 isAgg9 (hx:=grV hg11)) (k:=vG1 (h:=fun hg12 => q_seql rfl (grV hg12) (grV hg12)) (k:=sV pkA (k:=mV (k:=vG1 (h:=fun hg13 => q_fl 2 fld_89_1) (k:=?_))))))))
 refine vG1 (h:=fun hg14 => ldV 1 isAgg87 (hx:=grV hg14)) (k:=vG1 (h:=fun hg15 => q_fl 2 fld_89_1) (k:=vG1 (h:=fun hg16 => ldV 0 isAgg87 (hx:=grV hg16)) (k:=?_)))
 obtain ⟨z18, hz19, h⟩ := bnd h
 refine vg1 rfl rfl rfl rfl rfl (fun hg17 => (q_call (call_run call76 rfl rfl (args2 (grV hg17) (grV hg17))) (fun w hw => t_firthref03_Same (Γ := Gh.all w) (ha.2.2.1.2.mono hw.sat.le_all) ha.2.2.1.1 (hb.2.2.1.2.mono hw.sat.le_all) hb.2.2.1.1 (Sat.all w) (gc_of hz19 hg17)))) (sV pkA (k:=aV (k:=WR.done ?_)))
 exact WC.ret fun w hw => rq_ r h hF hw
theorem t_firthlaw15_under {Γ : Gh} {w0 : World} {Aa : Option Addr} {ca : Nat} {a : List Span} (ha : Sl spanT Γ Aa a) (hac : a.length ≤ ca) {Ab : Option Addr} {cb : Nat} {b : List Span} (hb : Sl spanT Γ Ab b) (hbc : b.length ≤ cb) (hs : Sat Γ w0) {r : Bool} (h : m_firthlaw15_under a b = some r) : Calls Tryz.prog 52 #[.slice Aa a.length ca, .slice Ab b.length cb] w0 (fun e w' => e = .returned (.bool r) ∧ Fr no w0 w') := by
 refine goq_ (n := 62) (rs := [4]) (args := [.slice Aa a.length ca, .slice Ab b.length cb]) func52 rfl ntmps52 results52 rfl hs fun F hF => ?_
 refine WC.rs (aV (k:=WR.done (WC.seq (WC.rs (aV (k:=WR.done (WC.block ?_)))))))
 refine WC.forI h (fun (i2 : Nat) (s : Unit) σ w => match s with | () => slots σ [(0, .slice Aa a.length ca), (1, .slice Ab b.length cb), (5, ii ((i2 : Nat) : Int))] ∧ CC F Γ [] w ∧ True) ?_ ?_
 ·
  intro w hw
  exact ⟨(sl_ (by kernel_rfl)), hw, trivial⟩
 rintro f1 i2 ⟨⟩ σ w hi3 hlt4 hge5 ⟨hsl, hw, -⟩
 refine Wpt.slots hsl ?_
 refine WC.here (C := CC F Γ []) ?_ hw
 clear hw hsl
 refine WC.seq (WC.rs (mV (k:=mV (k:=sV (q_len_slice rfl underlying87) (k:=sV q_lss (k:=WR.done ?_))))))
 refine WC.cond (b := (decide (((i2 : Nat) : Int) < ((a.length : Nat) : Int)))) (by kernel_rfl) (fun hb6 => ?_) (fun hb6 => ?_)
 ·
  have hl7 := ilt hb6
  have h := hlt4 hl7
  refine WC.skip (wc_ ?_)
  refine WC.seq (WC.block (WC.rs (aV (k:=WR.done (WC.seq (WC.rs (aV (k:=?_))))))))
  refine WR.done (WC.block ?_)
  refine WC.forI h (fun (i10 : Nat) (in_8 : Bool) σ w => slots σ [(0, .slice Aa a.length ca), (1, .slice Ab b.length cb), (5, ii ((i2 : Nat) : Int)), (6, .bool in_8), (7, ii ((i10 : Nat) : Int))] ∧ CC F Γ [] w ∧ True) ?_ ?_
  ·
   intro w hw
   exact ⟨(sl_ (by kernel_rfl)), hw, trivial⟩
  rintro f9 i10 in_8 σ w hi11 hlt12 hge13 ⟨hsl, hw, -⟩
  refine Wpt.slots hsl ?_
  refine WC.here (C := CC F Γ []) ?_ hw
  clear hw hsl
  refine WC.seq (WC.rs (mV (k:=mV (k:=sV (q_len_slice rfl underlying87) (k:=sV q_lss (k:=WR.done ?_))))))
  refine WC.cond (b := (decide (((i10 : Nat) : Int) < ((b.length : Nat) : Int)))) (by kernel_rfl) (fun hb14 => ?_) (fun hb14 => ?_)
  ·
   have hl15 := ilt hb14
   have h := hlt12 hl15
   refine WC.skip (wc_ ?_)
   refine WC.seq (WC.block ?_)
   refine WC.dr (by kernel_rfl) (by kernel_rfl) (fun w hw => hw.drawn _) ?_
   refine zV moV (k:=zV moV (k:=wG0 (h:=fun hg16 => moV) (k:=wG0 (h:=fun hg17 => moV) (k:=wG0 (h:=fun hg18 => q_ixn (i := i2) underlying87 sizeOf93 rfl (grV hg18) (grV hg18) hl7 (ha.some_ hl7)) (k:=wG0 (h:=fun hg19 => q_field_addr (i2 * 3) fld_93_0 rfl (grV hg19) (ha.some_ hl7) rfl) (k:=wG0 (h:=fun hg20 => q_ld (c := 0) (v := ii (gt a i2).s) (ha.spanT_at hl7).2 rfl isAgg3 (grV hg20) rfl) (k:=wG0 (h:=fun hg21 => moV) (k:=?_))))))))
   refine wG0 (h:=fun hg22 => moV) (k:=wG0 (h:=fun hg23 => q_ixn (i := i10) underlying87 sizeOf93 rfl (grV hg23) (grV hg23) hl15 (hb.some_ hl15)) (k:=wG0 (h:=fun hg24 => q_field_addr (i10 * 3) fld_93_0 rfl (grV hg24) (hb.some_ hl15) rfl) (k:=wG0 (h:=fun hg25 => q_ld (c := 0) (v := ii (gt b i10).s) (hb.spanT_at hl15).2 rfl isAgg3 (grV hg25) rfl) (k:=wG0 (h:=fun hg26 => q_eql rfl (grV hg26) (grV hg26)) (k:=wG0 (h:=fun hg27 => q_move (v := .bool ((gt a i2).s == (gt b i10).s)) rfl (grV hg27)) (k:=wh1 (c0 := (!in_8)) (g := ((gt a i2).s == (gt b i10).s)) rfl rfl rfl rfl rfl (fun _ => QV.qo moV) (wh1 (c0 := (!in_8)) (g := ((gt a i2).s == (gt b i10).s)) rfl rfl rfl rfl rfl (fun _ => QV.qo moV) ?_)))))))
   refine wh1 (c0 := (!in_8)) (g := ((gt a i2).s == (gt b i10).s)) rfl rfl rfl rfl rfl (fun hg30 => QV.qo (q_ixn (i := i10) underlying87 sizeOf93 rfl (grV hg30) (grV hg30) hl15 (hb.some_ hl15))) (wh1 (c0 := (!in_8)) (g := ((gt a i2).s == (gt b i10).s)) rfl rfl rfl rfl rfl (fun hg31 => QV.qo (q_field_addr (i10 * 3 + 1) fld_93_1 rfl (grV hg31) (hb.some_ hl15) rfl)) (wh1 (c0 := (!in_8)) (g := ((gt a i2).s == (gt b i10).s)) rfl rfl rfl rfl rfl (fun hg32 => QV.qo (q_ld (c := 1) (v := ii (gt b i10).f) (hb.spanT_at hl15).2 rfl isAgg2 (grV hg32) rfl)) (wh1 (c0 := (!in_8)) (g := ((gt a i2).s == (gt b i10).s)) rfl rfl rfl rfl rfl (fun _ => QV.qo moV) (wh1 (c0 := (!in_8)) (g := ((gt a i2).s == (gt b i10).s)) rfl rfl rfl rfl rfl (fun _ => QV.qo moV) (wh1 (c0 := (!in_8)) (g := ((gt a i2).s == (gt b i10).s)) rfl rfl rfl rfl rfl (fun hg35 => QV.qo (q_ixn (i := i2) underlying87 sizeOf93 rfl (grV hg35) (grV hg35) hl7 (ha.some_ hl7))) (wh1 (c0 := (!in_8)) (g := ((gt a i2).s == (gt b i10).s)) rfl rfl rfl rfl rfl (fun hg36 => QV.qo (q_field_addr (i2 * 3 + 1) fld_93_1 rfl (grV hg36) (ha.some_ hl7) rfl)) (wh1 (c0 := (!in_8)) (g := ((gt a i2).s == (gt b i10).s)) rfl rfl rfl rfl rfl (fun hg37 => QV.qo (q_ld (c := 1) (v := ii (gt a i2).f) (ha.spanT_at hl7).2 rfl isAgg2 (grV hg37) rfl)) ?_)))))))
   refine wh1 (c0 := (!in_8)) (g := ((gt a i2).s == (gt b i10).s)) rfl rfl rfl rfl rfl (fun hg38 => QV.qo (q_leq rfl (grV hg38) (grV hg38))) (wG0 (h:=fun hg39 => q_pick rfl (grV hg39) (pk_and (c := (!in_8)) (g := ((gt a i2).s == (gt b i10).s)) (y := (decide ((gt b i10).f ≤ (gt a i2).f))) hg39)) (k:=wG0 (h:=fun hg40 => q_move (v := .bool (((gt a i2).s == (gt b i10).s) && (decide ((gt b i10).f ≤ (gt a i2).f)))) rfl (grV hg40)) (k:=wh1 (c0 := (!in_8)) (g := (((gt a i2).s == (gt b i10).s) && (decide ((gt b i10).f ≤ (gt a i2).f)))) rfl rfl rfl rfl rfl (fun _ => QV.qo moV) (wh1 (c0 := (!in_8)) (g := (((gt a i2).s == (gt b i10).s) && (decide ((gt b i10).f ≤ (gt a i2).f)))) rfl rfl rfl rfl rfl (fun _ => QV.qo moV) (wh1 (c0 := (!in_8)) (g := (((gt a i2).s == (gt b i10).s) && (decide ((gt b i10).f ≤ (gt a i2).f)))) rfl rfl rfl rfl rfl (fun hg43 => QV.qo (q_ixn (i := i2) underlying87 sizeOf93 rfl (grV hg43) (grV hg43) hl7 (ha.some_ hl7))) (wh1 (c0 := (!in_8)) (g := (((gt a i2).s == (gt b i10).s) && (decide ((gt b i10).f ≤ (gt a i2).f)))) rfl rfl rfl rfl rfl (fun hg44 => QV.qo (q_field_addr (i2 * 3 + 2) fld_93_2 rfl (grV hg44) (ha.some_ hl7) rfl)) (wh1 (c0 := (!in_8)) (g := (((gt a i2).s == (gt b i10).s) && (decide ((gt b i10).f ≤ (gt a i2).f)))) rfl rfl rfl rfl rfl (fun hg45 => QV.qo (q_ld (c := 2) (v := ii (gt a i2).t) (ha.spanT_at hl7).2 rfl isAgg2 (grV hg45) rfl)) ?_)))))))
   refine wh1 (c0 := (!in_8)) (g := (((gt a i2).s == (gt b i10).s) && (decide ((gt b i10).f ≤ (gt a i2).f)))) rfl rfl rfl rfl rfl (fun _ => QV.qo moV) (wh1 (c0 := (!in_8)) (g := (((gt a i2).s == (gt b i10).s) && (decide ((gt b i10).f ≤ (gt a i2).f)))) rfl rfl rfl rfl rfl (fun _ => QV.qo moV) (wh1 (c0 := (!in_8)) (g := (((gt a i2).s == (gt b i10).s) && (decide ((gt b i10).f ≤ (gt a i2).f)))) rfl rfl rfl rfl rfl (fun hg48 => QV.qo (q_ixn (i := i10) underlying87 sizeOf93 rfl (grV hg48) (grV hg48) hl15 (hb.some_ hl15))) (wh1 (c0 := (!in_8)) (g := (((gt a i2).s == (gt b i10).s) && (decide ((gt b i10).f ≤ (gt a i2).f)))) rfl rfl rfl rfl rfl (fun hg49 => QV.qo (q_field_addr (i10 * 3 + 2) fld_93_2 rfl (grV hg49) (hb.some_ hl15) rfl)) (wh1 (c0 := (!in_8)) (g := (((gt a i2).s == (gt b i10).s) && (decide ((gt b i10).f ≤ (gt a i2).f)))) rfl rfl rfl rfl rfl (fun hg50 => QV.qo (q_ld (c := 2) (v := ii (gt b i10).t) (hb.spanT_at hl15).2 rfl isAgg2 (grV hg50) rfl)) (wh1 (c0 := (!in_8)) (g := (((gt a i2).s == (gt b i10).s) && (decide ((gt b i10).f ≤ (gt a i2).f)))) rfl rfl rfl rfl rfl (fun hg51 => QV.qo (q_leq rfl (grV hg51) (grV hg51))) (wG0 (h:=fun hg52 => q_pick rfl (grV hg52) (pk_and (c := (!in_8)) (g := (((gt a i2).s == (gt b i10).s) && (decide ((gt b i10).f ≤ (gt a i2).f)))) (y := (decide ((gt a i2).t ≤ (gt b i10).t))) hg52)) (k:=zV pkO (k:=?_))))))))
   refine zV aoV (k:=?_)
   refine WQ.nil ?_
   change WC _ _ _ _ _ _
   refine WC.region ?_
   refine mV (k:=sV (q_add_r (r := ((i10 + 1 : Nat) : Int)) rfl rfl rfl (ctr_len hl15 hb.le)) (k:=aV (k:=?_)))
   refine WR.nil ?_
   intro w hw
   exact ⟨hl15, (in_8 || ((((gt a i2).s == (gt b i10).s) && (decide ((gt b i10).f ≤ (gt a i2).f))) && (decide ((gt a i2).t ≤ (gt b i10).t)))), h, (sl_ (by kernel_rfl)), hw, trivial⟩
  have h := hge13 (ige hb14)
  refine WC.exit ?_
  change WC _ _ _ _ _ _
  refine WC.rs (mV (k:=sV q_not (k:=WR.done ?_)))
  refine ciV h (fun hb53 h => ?_) (fun hb53 h => ?_)
  ·
   refine WC.rs (aV (k:=WR.done ?_))
   exact WC.ret fun w hw => rq_ r h hF hw
  refine WC.skip (wc_ ?_)
  refine WC.region ?_
  refine mV (k:=sV (q_add_r (r := ((i2 + 1 : Nat) : Int)) rfl rfl rfl (ctr_len hl7 ha.le)) (k:=aV (k:=?_)))
  refine WR.nil ?_
  intro w hw
  exact ⟨hl7, (), h, (sl_ (by kernel_rfl)), hw, trivial⟩
 have h := hge5 (ige hb6)
 refine WC.exit ?_
 change WC _ _ _ _ _ _
 refine WC.rs (aV (k:=WR.done ?_))
 exact WC.ret fun w hw => rq_ r h hF hw
end Fw
end Go.Proofs.YtckindfllegbgaaGreat
