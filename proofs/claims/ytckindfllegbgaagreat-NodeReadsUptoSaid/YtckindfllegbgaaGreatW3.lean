/- Walks through the functions that the law reaches (printed by a program). No condition. -/
import Derived.Test.YtckindfllegbgaaGreatW2
namespace Go.Proofs.YtckindfllegbgaaGreat
namespace Fw
set_option linter.unusedVariables false
set_option linter.unusedSimpArgs false
set_option linter.unusedSectionVars false
set_option maxRecDepth 100000
set_option maxHeartbeats 400000
open Go.RowKit
abbrev r_store_Open (gd : Nat) (ed : Nat) (r : Odisk_Disk × (Option Ostore_Store) × Int) (U : List Rowb) (Γ : Gh) (v : Value) : Prop := ∃ (rowd' : Rowb), ∃ (g0 : Nat), ∃ (row0 : Rowb), v = .tuple #[optp r.2.1 g0, .int .i64 r.2.2] ∧ U = [rowd', row0] ∧ Odisk_Disk.ob ed Γ gd rowd' r.1 ∧ optob (Ostore_Store.ob (107, gd) Γ g0) row0 r.2.1 ∧ I64 r.2.2 ∧ True
theorem t_store_Open {Γ : Gh} {w0 : World} {gd ed : Nat} {rowd : Rowb} {d : Odisk_Disk} (hd : Odisk_Disk.ob ed Γ gd rowd d) (name : ByteArray) (hname : name.size ≤ lim) (size : Int) (hsize : I64 size) (hp : Pre [rowd] Γ w0) {r : Odisk_Disk × (Option Ostore_Store) × Int} (h : m_store_Open d name size = some r) : Calls Tryz.prog 30 #[(pq gd), .string name, .int .i64 size] w0 (Outc Γ [rowd] w0 (r_store_Open gd ed r)) := by
 refine calls_of (N := 51) (rs := [6, 7]) (args := [(pq gd), .string name, .int .i64 size]) Tryz.func30 rfl Tryz.ntmps30 Tryz.results30 rfl ?_
 obtain ⟨F, hF⟩ : ∃ F : Fm, F = ⟨ids [rowd], w0, Γ⟩ := ⟨_, rfl⟩
 refine WC.here (C := CC F Γ [rowd]) ?_ (hF ▸ hp.start)
 refine WC.rs ?_
 refine as_ (v := .pointer none) ?_
 refine as_ (v := .int .i64 0) ?_
 refine WR.done ?_
 refine WC.rs ?_
 refine mv (v := (pq gd)) ?_
 refine mv (v := .string name) ?_
 refine mv (v := .int .i64 size) ?_
 obtain ⟨z1, hz2, h⟩ := bnd h
 refine e_call (is := [0]) rfl rfl (call_run Tryz.call53 rfl rfl (by kernel_rfl)) rfl (fun w hp => t_seglog_Open hd name hname size hsize hp hz2) ?_
 rintro Γ3 U5 v6 hl4 ⟨row7, g9, row10, A12, c13, row14, rfl, rfl, hr8, hr11, hr15, hr16, _⟩
 change WR _ _ _ (CC F Γ3 [row7, row10, row14]) _ _ (upd _ 20 (.tuple #[optp z1.2.1 g9, .slice A12 z1.2.2.1.length c13, .int .i64 z1.2.2.2]))
 refine mv (v := .tuple #[optp z1.2.1 g9, .slice A12 z1.2.2.1.length c13, .int .i64 z1.2.2.2]) ?_
 refine vb (q_extract (v := optp z1.2.1 g9) rfl rfl rfl) ?_
 refine vb (q_extract (v := .slice A12 z1.2.2.1.length c13) rfl rfl rfl) ?_
 refine vb (q_extract (v := .int .i64 z1.2.2.2) rfl rfl rfl) ?_
 refine as_ (v := optp z1.2.1 g9) ?_
 refine as_ (v := .slice A12 z1.2.2.1.length c13) ?_
 refine as_ (v := .int .i64 z1.2.2.2) ?_
 refine WR.done ?_
 refine WC.seq ?_
 refine WC.rs ?_
 refine mv (v := .int .i64 z1.2.2.2) ?_
 refine vb (q_neq rfl rfl rfl) ?_
 refine WR.done ?_
 refine WC.cif h (by kernel_rfl) (fun hb17 h => ?_) (fun hb17 h => ?_)
 ·
  refine WC.rs ?_
  refine mv (v := .int .i64 z1.2.2.2) ?_
  refine as_ (v := .pointer none) ?_
  refine as_ (v := .int .i64 z1.2.2.2) ?_
  refine WR.done ?_
  refine WC.ret ?_
  intro w hw
  have hw := hw.pad
  obtain rfl := Option.some.inj h
  subst hF
  exact end_e (is := [1, 0]) (by kernel_rfl) hw rfl ⟨row7, 0, [], rfl, rfl, hr8, rfl, hr16, trivial⟩
 ·
  refine WC.skip ?_
  change WC _ _ _ _ _ _
  refine WC.rs ?_
  refine mv (v := optp z1.2.1 g9) ?_
  refine e_makeMap (strK Tryz.underlying9) (slT byteT).v rfl rfl rfl rfl ?_
  intro g18 row19 hm20
  obtain ⟨z21, hz22, h⟩ := bnd h
  have ho23 := optob_some hr11 hz22
  refine vb (q_build' (v := .agg #[(pq g9), .map (some g18)]) rfl (bargs2 (optp_some rfl hz22) rfl) (fun w => by kernel_rfl)) ?_
  refine e_box (v := .agg #[(pq g9), .map (some g18)]) rfl rfl rfl rfl (by kernel_rfl) ?_
  intro g24
  refine as_ (v := (pq g24)) ?_
  refine WR.done ?_
  refine WC.seq ?_
  refine WC.rs ?_
  refine mv (v := .slice A12 z1.2.2.1.length c13) ?_
  refine vb (q_len_slice rfl Tryz.underlying103 rfl) ?_
  refine mv (v := .int .i64 0) ?_
  refine WR.done ?_
  refine WC.block ?_
  obtain ⟨row_25, hrow_25, hob_25⟩ : ∃ rw : Rowb, rw = ([[(g24, .cells #[(pq g9), .map (some g18)] 107 (0, 0))], row10, row19] : List Rowb).flatten ∧ Ostore_Store.ob (107, gd) Γ3 g24 rw (⟨z21, ([] : List (ByteArray × (List UInt8)))⟩ : Ostore_Store) := ⟨_, rfl, g9, row10, g18, row19, rfl, ho23, hm20, trivial⟩
  intro w hw; have hw := hw.fold (is := [0, 2, 0]) rfl hrow_25
  refine WC.here (C := CC F Γ3 [row_25, row7, row14]) ?_ hw
  clear hw
  refine WC.forI h (fun (i32 : Nat) (o28 : Ostore_Store) σ w => ∃ (Γ26 : Gh), ∃ (row29 : Rowb), slots σ [(11, (pq g24)), (31, .slice A12 z1.2.2.1.length c13), (32, .int .i64 ((z1.2.2.1.length : Nat) : Int)), (33, .int .i64 ((i32 : Nat) : Int))] ∧ CC F Γ26 [row29, row7, row14] w ∧ Gh.le Γ3 Γ26 ∧ Ostore_Store.ob (107, gd) Γ26 g24 row29 o28 ∧ True) ?_ ?_
  ·
   intro w hw
   exact ⟨Γ3, row_25, (sl_ (by kernel_rfl)), hw, (Gh.refl _), hob_25, trivial⟩
  rintro f31 i32 o28 σ w hi33 hlt34 hge35 ⟨Γ26, row29, hsl, hw, hl27, ho30, -⟩
  refine Wpt.slots hsl ?_
  refine WC.here (C := CC F Γ26 [row29, row7, row14]) ?_ hw
  clear hw hsl
  refine WC.rs ?_
  refine vb (q_lss rfl rfl rfl) ?_
  refine WR.done ?_
  refine WC.seq ?_
  refine WC.cond (b := (decide (((i32 : Nat) : Int) < ((z1.2.2.1.length : Nat) : Int)))) (by kernel_rfl) (fun hb36 => ?_) (fun hb36 => ?_)
  ·
   have hl37 := ilt hb36
   have h := hlt34 hl37
   refine WC.skip ?_
   change WC _ _ _ _ _ _
   refine WC.seq ?_
   refine WC.block ?_
   refine WC.rs ?_
   refine vb (q_ixn (i := i32) Tryz.underlying103 Tryz.sizeOf77 rfl rfl rfl hl37 ((hr15.mono hl27).some_ hl37)) ?_
   obtain ⟨A38, c39, hx40⟩ := (hr15.mono hl27).slT_at i32
   refine vb (q_ldo (c := 0) (v := .slice A38 (gt z1.2.2.1 i32).length c39) (i := 2) rfl (hx40 hl37).2 rfl Tryz.isAgg77 rfl rfl) ?_
   refine as_ (v := .slice A38 (gt z1.2.2.1 i32).length c39) ?_
   refine WR.done ?_
   refine WC.rs ?_
   refine mv (v := .slice A38 (gt z1.2.2.1 i32).length c39) ?_
   obtain ⟨z41, hz42, h⟩ := bnd h
   refine e_callB (is := []) (Lent.nil F) rfl rfl (call_run Tryz.call54 rfl rfl (by kernel_rfl)) rfl (fun w Θ hp hpB hle hleB hR => t_code_Rec_l0 ((hx40 hl37).1.2.mono hle) (hx40 hl37).1.1 hp hpB hz42) ?_
   rintro Γ43 U45 v46 hl44 ⟨A47, c48, rfl, rfl, hr49, hr50, _⟩
   change WR _ _ _ (CC F Γ43 [row29, row7, row14]) _ _ (upd _ 39 (.tuple #[.agg #[.string z41.1.key, .slice A47 z41.1.vers.length c48], .int .i64 z41.2]))
   refine mv (v := .tuple #[.agg #[.string z41.1.key, .slice A47 z41.1.vers.length c48], .int .i64 z41.2]) ?_
   refine vb (q_extract (v := .agg #[.string z41.1.key, .slice A47 z41.1.vers.length c48]) rfl rfl rfl) ?_
   refine vb (q_extract (v := .int .i64 z41.2) rfl rfl rfl) ?_
   refine e_alloc Tryz.zeroValue45 rfl rfl rfl rfl ?_
   intro g51
   refine e_st (i := 0) (v := .agg #[.string z41.1.key, .slice A47 z41.1.vers.length c48]) (new := #[.string z41.1.key, .slice A47 z41.1.vers.length c48]) rfl Tryz.sizeOf45 rfl rfl rfl rfl (by kernel_rfl) rfl rfl rfl rfl ?_
   refine as_ (v := .int .i64 z41.2) ?_
   refine WR.done ?_
   refine WC.seq ?_
   refine WC.rs ?_
   refine mv (v := .int .i64 z41.2) ?_
   refine vb (q_neq rfl rfl rfl) ?_
   refine WR.done ?_
   refine WC.cif h (by kernel_rfl) (fun hb52 h => ?_) (fun hb52 h => ?_)
   ·
    refine WC.rs ?_
    refine mv (v := .int .i64 z41.2) ?_
    refine as_ (v := .pointer none) ?_
    refine as_ (v := .int .i64 z41.2) ?_
    refine WR.done ?_
    refine WC.ret ?_
    intro w hw
    have hw := hw.pad
    obtain rfl := Option.some.inj h
    subst hF
    exact end_e (is := [3, 0]) (by kernel_rfl) hw rfl ⟨row7, 0, [], rfl, rfl, (hr8.mono (hl27.trans hl44)), rfl, hr50, trivial⟩
   ·
    refine WC.skip ?_
    change WC _ _ _ _ _ _
    refine WC.region ?_
    refine mv (v := (pq g24)) ?_
    refine vb (q_ldla (i := 0) (vs := [.string z41.1.key, .slice A47 z41.1.vers.length c48]) rfl rfl Tryz.isAgg45 Tryz.sizeOf45 rfl rfl) ?_
    refine mv (v := .slice A38 (gt z1.2.2.1 i32).length c39) ?_
    obtain ⟨z53, hz54, h⟩ := bnd h
    refine e_call (is := [1]) rfl rfl (call_run Tryz.call55 rfl rfl (by kernel_rfl)) rfl (fun w hp => t_store_Store_lay (ho30.mono hl44) z41.1 hr49 ((hx40 hl37).1.2.mono hl44) (hx40 hl37).1.1 hp hz54) ?_
    rintro Γ55 U57 v58 hl56 ⟨row59, rfl, rfl, hr60, _⟩
    change WR _ _ _ (CC F Γ55 [row59, [(g51, .cells #[.string z41.1.key, .slice A47 z41.1.vers.length c48] 45 (0, 0))], row7, row14]) _ _ (upd _ 48 (.tuple #[]))
    refine WR.nil ?_
    change WC _ _ _ _ _ _
    refine WC.region ?_
    refine vb (q_add_r (r := ((i32 + 1 : Nat) : Int)) rfl rfl rfl (ctr_len hl37 (hr15.mono hl27).le)) ?_
    refine mv (v := .int .i64 ((i32 + 1 : Nat) : Int)) ?_
    refine WR.nil ?_
    intro w hw
    exact ⟨hl37, z53, h, Γ55, row59, (sl_ (by kernel_rfl)), (hw.only (is := [0, 1, 1]) rfl), ((hl27.trans hl44).trans hl56), hr60, trivial⟩
  ·
   have h := hge35 (ige hb36)
   refine WC.exit ?_
   change WC _ _ _ _ _ _
   refine WC.rs ?_
   refine mv (v := (pq g24)) ?_
   refine as_ (v := (pq g24)) ?_
   refine as_ (v := .int .i64 0) ?_
   refine WR.done ?_
   refine WC.ret ?_
   intro w hw
   obtain rfl := Option.some.inj h
   subst hF
   exact end_e (is := [1, 0]) (by kernel_rfl) hw rfl ⟨row7, g24, row29, rfl, rfl, (hr8.mono hl27), ho30, (show I64 0 by decide), trivial⟩
abbrev r_node_Open (gd : Nat) (ed : Nat) (r : Odisk_Disk × (Option Onode_Node) × Int) (U : List Rowb) (Γ : Gh) (v : Value) : Prop := ∃ (rowd' : Rowb), ∃ (g0 : Nat), ∃ (row0 : Rowb), v = .tuple #[optp r.2.1 g0, .int .i64 r.2.2] ∧ U = [rowd', row0] ∧ Odisk_Disk.ob ed Γ gd rowd' r.1 ∧ optob (Onode_Node.ob (74, gd) Γ g0) row0 r.2.1 ∧ I64 r.2.2 ∧ True
theorem t_node_Open {Γ : Gh} {w0 : World} {gd ed : Nat} {rowd : Rowb} {d : Odisk_Disk} (hd : Odisk_Disk.ob ed Γ gd rowd d) (self : Adr) (hself : Adr.fits Γ  self) (size : Int) (hsize : I64 size) (life : Int) (hlife : I64 life) (hp : Pre [rowd] Γ w0) {r : Odisk_Disk × (Option Onode_Node) × Int} (h : m_node_Open d self size life = some r) : Calls Tryz.prog 10 #[(pq gd), .agg #[.int .i64 self.site, .int .i64 self.node], .int .i64 size, .int .i64 life] w0 (Outc Γ [rowd] w0 (r_node_Open gd ed r)) := by
 refine calls_of (N := 97) (rs := [8, 9]) (args := [(pq gd), .agg #[.int .i64 self.site, .int .i64 self.node], .int .i64 size, .int .i64 life]) Tryz.func10 rfl Tryz.ntmps10 Tryz.results10 rfl ?_
 obtain ⟨F, hF⟩ : ∃ F : Fm, F = ⟨ids [rowd], w0, Γ⟩ := ⟨_, rfl⟩
 refine WC.here (C := CC F Γ [rowd]) ?_ (hF ▸ hp.start)
 refine WC.rs ?_
 refine e_box (v := .agg #[.int .i64 self.site, .int .i64 self.node]) rfl rfl rfl rfl (by kernel_rfl) ?_
 intro g1
 refine as_ (v := .pointer none) ?_
 refine as_ (v := .int .i64 0) ?_
 refine WR.done ?_
 refine WC.seq ?_
 refine WC.rs ?_
 refine mv (v := .int .i64 life) ?_
 refine vb (q_lss rfl rfl rfl) ?_
 refine mv (v := .bool (decide (life < 0))) ?_
 refine vg0 rfl rfl rfl rfl rfl (fun hg2 => QV.qo (q_fl 0 fld_32_0 rfl rfl rfl)) ?_
 refine vg0 rfl rfl rfl rfl rfl (fun hg3 => QV.qo (q_ldl (i := 0) (v := .int .i64 self.site) rfl rfl Tryz.isAgg3 (gu hg3 rfl) rfl)) ?_
 refine vg0 rfl rfl rfl rfl rfl (fun hg4 => QV.qo (q_lss rfl (gu hg4 rfl) rfl)) ?_
 refine vb (q_pick rfl rfl (pk_or' (g := (decide (life < 0))) (y := (decide (self.site < 1))))) ?_
 refine mv (v := .bool ((decide (life < 0)) || (decide (self.site < 1)))) ?_
 refine vg0 rfl rfl rfl rfl rfl (fun hg5 => QV.qo (q_fl 0 fld_32_0 rfl rfl rfl)) ?_
 refine vg0 rfl rfl rfl rfl rfl (fun hg6 => QV.qo (q_ldl (i := 0) (v := .int .i64 self.site) rfl rfl Tryz.isAgg3 (gu hg6 rfl) rfl)) ?_
 refine vg0 rfl rfl rfl rfl rfl (fun hg7 => QV.qo (q_gtr rfl (gu hg7 rfl) rfl)) ?_
 refine vb (q_pick rfl rfl (pk_or' (g := ((decide (life < 0)) || (decide (self.site < 1)))) (y := (decide (16 < self.site))))) ?_
 refine mv (v := .bool (((decide (life < 0)) || (decide (self.site < 1))) || (decide (16 < self.site)))) ?_
 refine vg0 rfl rfl rfl rfl rfl (fun hg8 => QV.qo (q_fl 1 fld_32_1 rfl rfl rfl)) ?_
 refine vg0 rfl rfl rfl rfl rfl (fun hg9 => QV.qo (q_ldl (i := 0) (v := .int .i64 self.node) rfl rfl Tryz.isAgg3 (gu hg9 rfl) rfl)) ?_
 refine vg0 rfl rfl rfl rfl rfl (fun hg10 => QV.qo (q_lss rfl (gu hg10 rfl) rfl)) ?_
 refine vb (q_pick rfl rfl (pk_or' (g := (((decide (life < 0)) || (decide (self.site < 1))) || (decide (16 < self.site)))) (y := (decide (self.node < 1))))) ?_
 refine mv (v := .bool ((((decide (life < 0)) || (decide (self.site < 1))) || (decide (16 < self.site))) || (decide (self.node < 1)))) ?_
 refine vg0 rfl rfl rfl rfl rfl (fun hg11 => QV.qo (q_fl 1 fld_32_1 rfl rfl rfl)) ?_
 refine vg0 rfl rfl rfl rfl rfl (fun hg12 => QV.qo (q_ldl (i := 0) (v := .int .i64 self.node) rfl rfl Tryz.isAgg3 (gu hg12 rfl) rfl)) ?_
 refine vg0 rfl rfl rfl rfl rfl (fun hg13 => QV.qo (q_gtr rfl (gu hg13 rfl) rfl)) ?_
 refine vb (q_pick rfl rfl (pk_or' (g := ((((decide (life < 0)) || (decide (self.site < 1))) || (decide (16 < self.site))) || (decide (self.node < 1)))) (y := (decide (8 < self.node))))) ?_
 refine WR.done ?_
 refine WC.cif h (by kernel_rfl) (fun hb14 h => ?_) (fun hb14 h => ?_)
 ·
  refine WC.rs ?_
  refine as_ (v := .pointer none) ?_
  refine as_ (v := .int .i64 1) ?_
  refine WR.done ?_
  refine WC.ret ?_
  intro w hw
  have hw := hw.pad
  obtain rfl := Option.some.inj h
  subst hF
  exact end_e (is := [2, 0]) (by kernel_rfl) hw rfl ⟨rowd, 0, [], rfl, rfl, hd, rfl, (show I64 1 by decide), trivial⟩
 ·
  refine WC.skip ?_
  change WC _ _ _ _ _ _
  refine WC.rs ?_
  refine mv (v := (pq gd)) ?_
  refine mv (v := .int .i64 size) ?_
  obtain ⟨z15, hz16, h⟩ := bnd h
  refine e_call (is := [1]) rfl rfl (call_run Tryz.call30 rfl rfl (by kernel_rfl)) rfl (fun w hp => t_store_Open hd (⟨#[100]⟩ : ByteArray) (show (⟨#[100]⟩ : ByteArray).size ≤ lim by decide) size hsize hp hz16) ?_
  rintro Γ17 U19 v20 hl18 ⟨row21, g23, row24, rfl, rfl, hr22, hr25, hr26, _⟩
  change WR _ _ _ (CC F Γ17 [row21, row24, [(g1, .cells #[.int .i64 self.site, .int .i64 self.node] 32 (0, 0))]]) _ _ (upd _ 39 (.tuple #[optp z15.2.1 g23, .int .i64 z15.2.2]))
  refine mv (v := .tuple #[optp z15.2.1 g23, .int .i64 z15.2.2]) ?_
  refine vb (q_extract (v := optp z15.2.1 g23) rfl rfl rfl) ?_
  refine vb (q_extract (v := .int .i64 z15.2.2) rfl rfl rfl) ?_
  refine as_ (v := optp z15.2.1 g23) ?_
  refine as_ (v := .int .i64 z15.2.2) ?_
  refine WR.done ?_
  refine WC.seq ?_
  refine WC.rs ?_
  refine mv (v := .int .i64 z15.2.2) ?_
  refine vb (q_neq rfl rfl rfl) ?_
  refine WR.done ?_
  refine WC.cif h (by kernel_rfl) (fun hb27 h => ?_) (fun hb27 h => ?_)
  ·
   refine WC.rs ?_
   refine mv (v := .int .i64 z15.2.2) ?_
   refine as_ (v := .pointer none) ?_
   refine as_ (v := .int .i64 z15.2.2) ?_
   refine WR.done ?_
   refine WC.ret ?_
   intro w hw
   have hw := hw.pad
   obtain rfl := Option.some.inj h
   subst hF
   exact end_e (is := [1, 0]) (by kernel_rfl) hw rfl ⟨row21, 0, [], rfl, rfl, hr22, rfl, hr26, trivial⟩
  ·
   refine WC.skip ?_
   change WC _ _ _ _ _ _
   refine WC.rs ?_
   refine mv (v := .int .i64 life) ?_
   refine mv (v := (pq gd)) ?_
   refine vb (q_ldla (i := 2) (vs := [.int .i64 self.site, .int .i64 self.node]) rfl rfl Tryz.isAgg32 Tryz.sizeOf32 rfl rfl) ?_
   refine mv (v := optp z15.2.1 g23) ?_
   refine e_makeMap (intK Tryz.underlying3) prefV rfl rfl rfl rfl ?_
   intro g28 row29 hm30
   have hm30 := MapJ.new (T := (Ostore_Store.tob (107, gd))) hm30
   obtain ⟨z31, hz32, h⟩ := bnd h
   have ho33 := optob_some hr25 hz32
   refine vb (q_build' (v := .agg #[.int .i64 life, (pq gd), .int .i64 self.site, .int .i64 self.node, (pq g23), .map (some g28), .map none]) rfl (bargs5 rfl rfl rfl (optp_some rfl hz32) rfl) (fun w => by kernel_rfl)) ?_
   refine e_box (v := .agg #[.int .i64 life, (pq gd), .int .i64 self.site, .int .i64 self.node, (pq g23), .map (some g28), .map none]) rfl rfl rfl rfl (by kernel_rfl) ?_
   intro g34
   refine as_ (v := (pq g34)) ?_
   refine WR.done ?_
   refine WC.seq ?_
   refine WC.rs ?_
   refine as_ (v := .int .i64 1) ?_
   refine WR.done ?_
   refine WC.block ?_
   refine WC.loopN h (fun (s : Int × (List (Int × Ostore_Store)) × Odisk_Disk) σ w => match s with | (f_37, m39, o42) => ∃ (Γ35 : Gh), ∃ (row40 : Rowb), ∃ (row43 : Rowb), slots σ [(0, (pq gd)), (2, .int .i64 size), (5, (pq g1)), (12, (pq g34)), (13, .int .i64 f_37)] ∧ CC F Γ35 [[(g34, .cells #[.int .i64 life, (pq gd), .int .i64 self.site, .int .i64 self.node, (pq g23), .map (some g28), .map none] 74 (0, 0))], row40, row43, row24, [(g1, .cells #[.int .i64 self.site, .int .i64 self.node] 32 (0, 0))]] w ∧ Gh.le Γ17 Γ35 ∧ I64 f_37 ∧ MapJ (intK Tryz.underlying3) (Ostore_Store.tob (107, gd)) Γ35 row40 g28 m39 ∧ Odisk_Disk.ob ed Γ35 gd row43 o42 ∧ True) ?_ ?_
   ·
    intro w hw
    exact ⟨Γ17, row29, row21, (sl_ (by kernel_rfl)), hw, (Gh.refl _), (show I64 1 by decide), hm30, hr22, trivial⟩
   rintro f45 ⟨f_37, m39, o42⟩ σ w h ⟨Γ35, row40, row43, hsl, hw, hl36, hr38, ho41, ho44, -⟩
   refine Wpt.slots hsl ?_
   refine WC.here (C := CC F Γ35 [[(g34, .cells #[.int .i64 life, (pq gd), .int .i64 self.site, .int .i64 self.node, (pq g23), .map (some g28), .map none] 74 (0, 0))], row40, row43, row24, [(g1, .cells #[.int .i64 self.site, .int .i64 self.node] 32 (0, 0))]]) ?_ hw
   clear hw hsl
   refine WC.seq ?_
   refine WC.rs ?_
   refine mv (v := .int .i64 f_37) ?_
   refine vb (q_leq rfl rfl rfl) ?_
   refine WR.done ?_
   refine WC.cif h (by kernel_rfl) (fun hb49 h => ?_) (fun hb49 h => ?_)
   ·
    refine WC.skip ?_
    change WC _ _ _ _ _ _
    refine WC.cut (fun σ w => ∃ (m52 : List (Int × Ostore_Store)), ∃ (o55 : Odisk_Disk), ∃ (Γ50 : Gh), ∃ (row53 : Rowb), ∃ (row56 : Rowb), m_node_Open_j4 f_37 f45 m52 o55 = some r ∧ slots σ [(0, (pq gd)), (2, .int .i64 size), (5, (pq g1)), (12, (pq g34)), (13, .int .i64 f_37)] ∧ CC F Γ50 [[(g34, .cells #[.int .i64 life, (pq gd), .int .i64 self.site, .int .i64 self.node, (pq g23), .map (some g28), .map none] 74 (0, 0))], row53, row56, row24, [(g1, .cells #[.int .i64 self.site, .int .i64 self.node] 32 (0, 0))]] w ∧ Gh.le Γ35 Γ50 ∧ MapJ (intK Tryz.underlying3) (Ostore_Store.tob (107, gd)) Γ50 row53 g28 m52 ∧ Odisk_Disk.ob ed Γ50 gd row56 o55 ∧ True) ?_ ?_
    ·
     refine WC.block ?_
     refine WC.seq ?_
     refine WC.rs ?_
     refine mv (v := .int .i64 f_37) ?_
     refine vb (q_fl 1 fld_32_1 rfl rfl rfl) ?_
     refine vb (q_ldl (i := 4) (v := .int .i64 self.node) rfl rfl Tryz.isAgg3 rfl rfl) ?_
     refine vb (q_eql rfl rfl rfl) ?_
     refine WR.done ?_
     refine WC.cif h (by kernel_rfl) (fun hb58 h => ?_) (fun hb58 h => ?_)
     ·
      refine WC.exit ?_
      intro w hw
      exact ⟨m39, o42, Γ35, row40, row43, h, (sl_ (by kernel_rfl)), hw, (Gh.refl _), ho41, ho44, trivial⟩
     ·
      refine WC.skip ?_
      change WC _ _ _ _ _ _
      refine WC.seq ?_
      intro w hw; have h059 := hw.le
      refine WC.here (C := CC F Γ35 [[(g34, .cells #[.int .i64 life, (pq gd), .int .i64 self.site, .int .i64 self.node, (pq g23), .map (some g28), .map none] 74 (0, 0))], row40, row43, row24, [(g1, .cells #[.int .i64 self.site, .int .i64 self.node] 32 (0, 0))]]) ?_ hw; clear hw
      refine WC.held (CC F Γ35 [[(g34, .cells #[.int .i64 life, (pq gd), .int .i64 self.site, .int .i64 self.node, (pq g23), .map (some g28), .map none] 74 (0, 0))], [(g1, .cells #[.int .i64 self.site, .int .i64 self.node] 32 (0, 0))]]) (by kernel_rfl) (fun w hw => hw.drawn _) ?_
      change WH _ _ _ _ (CC F Γ35 [[(g34, .cells #[.int .i64 life, (pq gd), .int .i64 self.site, .int .i64 self.node, (pq g23), .map (some g28), .map none] 74 (0, 0))], row40, row43, row24, [(g1, .cells #[.int .i64 self.site, .int .i64 self.node] 32 (0, 0))]]) _ 16 #[false, false, false, false, false, false, false, false, false, false, false, false, false, false, false, false] _
      refine hu 0 rfl (bk_ (Gh.refl _) h059 (.cons_cons _ (.cons _ (.cons _ (.cons _ (.cons_cons _ .slnil)))))) (q_move (v := (pq g34)) rfl (by kernel_rfl)) ?_
      refine hu 1 rfl (bk_ (Gh.refl _) h059 (.cons_cons _ (.cons _ (.cons _ (.cons _ (.cons_cons _ .slnil)))))) (q_nil (A := some ⟨g34, 0, none⟩) rfl rfl rfl) ?_
      refine hu 2 rfl (bk_ (Gh.refl _) h059 (.cons_cons _ (.cons _ (.cons _ (.cons _ (.cons_cons _ .slnil)))))) (q_fl 5 fld_74_4 rfl rfl rfl) ?_
      refine hu 3 rfl (bk_ (Gh.refl _) h059 (.cons_cons _ (.cons _ (.cons _ (.cons _ (.cons_cons _ .slnil)))))) (q_ldl (i := 0) (v := .map (some g28)) rfl rfl Tryz.isAgg71 rfl rfl) ?_
      refine hu 4 rfl (bk_ (Gh.refl _) h059 (.cons_cons _ (.cons _ (.cons _ (.cons _ (.cons_cons _ .slnil)))))) (q_move (v := .int .i64 f_37) rfl (by kernel_rfl)) ?_
      refine hu 5 rfl (bk_ (Gh.refl _) h059 (.cons_cons _ (.cons _ (.cons _ (.cons _ (.cons_cons _ .slnil)))))) (q_move (v := (pq gd)) rfl (by kernel_rfl)) ?_
      refine hu 6 rfl (bk_ (Gh.refl _) h059 (.cons_cons _ (.cons _ (.cons _ (.cons _ (.cons_cons _ .slnil)))))) (q_move (v := .int .i64 f_37) rfl (by kernel_rfl)) ?_
      refine hu 9 rfl (bk_ (Gh.refl _) h059 (.cons_cons _ (.cons _ (.cons _ (.cons _ (.cons_cons _ .slnil)))))) (q_move (v := .int .i64 size) rfl (by kernel_rfl)) ?_
      refine WH.lone (i := 7) (by kernel_rfl) rfl ?_
      obtain ⟨z60, hz61, h⟩ := bnd h
      refine vc rfl rfl rfl (q_call (call_run Tryz.call31 rfl rfl (by kernel_rfl)) (fun w hw => t_num_Digits (Γ := Gh.all w) f_37 hr38 (Sat.all w) hz61)) ?_
      refine WR.nil ?_
      refine WH.next (bk_ (Gh.refl _) h059 (.cons_cons _ (.cons _ (.cons _ (.cons _ (.cons_cons _ .slnil)))))) ?_
      obtain ⟨hk62, h⟩ := chk_some h
      refine hu 8 rfl (bk_ (Gh.refl _) h059 (.cons_cons _ (.cons _ (.cons _ (.cons _ (.cons_cons _ .slnil)))))) (q_sadd rfl rfl rfl (show (⟨#[104]⟩ : ByteArray).size ≤ lim by decide) (of_decide_eq_true hk62)) ?_
      refine WH.lone (i := 10) (by kernel_rfl) rfl ?_
      obtain ⟨hk63, h⟩ := chk_some h
      obtain ⟨z64, hz65, h⟩ := bnd h
      refine e_call (is := [2]) rfl rfl (call_run Tryz.call30 rfl rfl (by kernel_rfl)) rfl (fun w hp => t_store_Open ho44 ((⟨#[104]⟩ : ByteArray) ++ z60) (of_decide_eq_true hk63) size hsize hp hz65) ?_
      rintro Γ66 U68 v69 hl67 ⟨row70, g72, row73, rfl, rfl, hr71, hr74, hr75, _⟩
      change WR _ _ _ (CC F Γ66 [row70, row73, [(g34, .cells #[.int .i64 life, (pq gd), .int .i64 self.site, .int .i64 self.node, (pq g23), .map (some g28), .map none] 74 (0, 0))], row40, row24, [(g1, .cells #[.int .i64 self.site, .int .i64 self.node] 32 (0, 0))]]) _ _ (upd _ 71 (.tuple #[optp z64.2.1 g72, .int .i64 z64.2.2]))
      refine WR.nil ?_
      refine WH.next (bk_ hl67 h059 (.cons _ (.cons _ (.cons_cons _ (.cons _ (.cons _ (.cons_cons _ .slnil))))))) ?_
      refine hu 11 rfl (bk_ hl67 h059 (.cons _ (.cons _ (.cons_cons _ (.cons _ (.cons _ (.cons_cons _ .slnil))))))) (q_move (v := .tuple #[optp z64.2.1 g72, .int .i64 z64.2.2]) rfl (by kernel_rfl)) ?_
      refine hu 12 rfl (bk_ hl67 h059 (.cons _ (.cons _ (.cons_cons _ (.cons _ (.cons _ (.cons_cons _ .slnil))))))) (q_extract (v := optp z64.2.1 g72) rfl rfl rfl) ?_
      refine hu 13 rfl (bk_ hl67 h059 (.cons _ (.cons _ (.cons_cons _ (.cons _ (.cons _ (.cons_cons _ .slnil))))))) (q_extract (v := .int .i64 z64.2.2) rfl rfl rfl) ?_
      refine WH.lone (i := 14) (by kernel_rfl) rfl ?_
      obtain ⟨z76, hz77, h⟩ := bnd h
      have ho78 := optob_some hr74 hz77
      obtain ⟨hk79, h⟩ := chk_some h
      refine e_mjput (i := 3) (j := 1) (x := f_37) rfl (by decide) rfl (ho41.mono hl67) ho78 (not_t hk79) rfl rfl rfl Tryz.underlying71 rfl rfl (optp_some rfl hz77) hr38 ?_
      intro row80 hm81
      change WR _ _ _ (CC F Γ66 [row80, row70, [(g34, .cells #[.int .i64 life, (pq gd), .int .i64 self.site, .int .i64 self.node, (pq g23), .map (some g28), .map none] 74 (0, 0))], row24, [(g1, .cells #[.int .i64 self.site, .int .i64 self.node] 32 (0, 0))]]) _ _ _
      refine WR.nil ?_
      refine WH.next (bk_ hl67 h059 (.cons _ (.cons _ (.cons_cons _ (.cons _ (.cons_cons _ .slnil)))))) ?_
      refine hu 15 rfl (bk_ hl67 h059 (.cons _ (.cons _ (.cons_cons _ (.cons _ (.cons_cons _ .slnil)))))) (q_assign (v := .int .i64 z64.2.2) rfl (by kernel_rfl)) ?_
      refine WH.done (by kernel_rfl) ?_
      change WC _ _ _ _ _ _
      refine WC.rs ?_
      refine mv (v := .int .i64 z64.2.2) ?_
      refine vb (q_neq rfl rfl rfl) ?_
      refine WR.done ?_
      refine WC.cif h (by kernel_rfl) (fun hb82 h => ?_) (fun hb82 h => ?_)
      ·
       refine WC.rs ?_
       refine mv (v := .int .i64 z64.2.2) ?_
       refine as_ (v := .pointer none) ?_
       refine as_ (v := .int .i64 z64.2.2) ?_
       refine WR.done ?_
       refine WC.ret ?_
       intro w hw
       have hw := hw.pad
       obtain rfl := Option.some.inj h
       subst hF
       exact end_e (is := [2, 0]) (by kernel_rfl) hw rfl ⟨row70, 0, [], rfl, rfl, hr71, rfl, hr75, trivial⟩
      ·
       refine WC.skip ?_
       intro w hw
       exact ⟨(mput f_37 z76 m39), z64.1, Γ66, row80, row70, h, (sl_ (by kernel_rfl)), (hw.only (is := [2, 0, 0, 0, 0]) rfl), hl67, hm81, hr71, trivial⟩
    ·
     rintro σ w ⟨m52, o55, Γ50, row53, row56, h, hsl, hw, hl51, ho54, ho57, -⟩
     refine Wpt.slots hsl ?_
     refine WC.here (C := CC F Γ50 [[(g34, .cells #[.int .i64 life, (pq gd), .int .i64 self.site, .int .i64 self.node, (pq g23), .map (some g28), .map none] 74 (0, 0))], row53, row56, row24, [(g1, .cells #[.int .i64 self.site, .int .i64 self.node] 32 (0, 0))]]) ?_ hw
     clear hw hsl
     refine WC.region ?_
     refine mv (v := .int .i64 f_37) ?_
     refine vb (q_add rfl rfl rfl) ?_
     refine as_ (v := .int .i64 (w64 (f_37 + 1))) ?_
     refine WR.nil ?_
     intro w hw
     exact ⟨((w64 (f_37 + 1)), m52, o55), h, Γ50, row53, row56, (sl_ (by kernel_rfl)), hw, (hl36.trans hl51), (w64_r _), ho54, ho57, trivial⟩
   ·
    refine WC.exit ?_
    change WC _ _ _ _ _ _
    refine WC.rs ?_
    refine mv (v := (pq g34)) ?_
    refine e_makeMap (intK Tryz.underlying3) (fnV g34) rfl rfl rfl rfl ?_
    intro g83 row84 hm85
    refine mv (v := (pq g34)) ?_
    refine vb (q_mkfn (v := .func (.func 32) #[(pq g34)] #[]) rfl (by kernel_rfl)) ?_
    refine WR.insert rfl rfl rfl (fun o' hg' hd' ho' => ?_)
    refine e_mapUpdate (i := 0) (x := 1) (v := .func (.func 32) #[(pq g34)] #[]) (a := 32) hg' hd' ho' Tryz.underlying72 rfl rfl (by kernel_rfl) rfl hm85 (by exact rfl) (show I64 1 by decide) ?_
    intro row86 hm87
    refine mv (v := (pq g34)) ?_
    refine vb (q_mkfn (v := .func (.func 33) #[(pq g34)] #[]) rfl (by kernel_rfl)) ?_
    refine WR.insert rfl rfl rfl (fun o' hg' hd' ho' => ?_)
    refine e_mapUpdate (i := 0) (x := 2) (v := .func (.func 33) #[(pq g34)] #[]) (a := 33) hg' hd' ho' Tryz.underlying72 rfl rfl (by kernel_rfl) rfl hm87 (by exact rfl) (show I64 2 by decide) ?_
    intro row88 hm89
    refine mv (v := (pq g34)) ?_
    refine vb (q_mkfn (v := .func (.func 34) #[(pq g34)] #[]) rfl (by kernel_rfl)) ?_
    refine WR.insert rfl rfl rfl (fun o' hg' hd' ho' => ?_)
    refine e_mapUpdate (i := 0) (x := 4) (v := .func (.func 34) #[(pq g34)] #[]) (a := 34) hg' hd' ho' Tryz.underlying72 rfl rfl (by kernel_rfl) rfl hm89 (by exact rfl) (show I64 4 by decide) ?_
    intro row90 hm91
    refine mv (v := (pq g34)) ?_
    refine vb (q_mkfn (v := .func (.func 35) #[(pq g34)] #[]) rfl (by kernel_rfl)) ?_
    refine WR.insert rfl rfl rfl (fun o' hg' hd' ho' => ?_)
    refine e_mapUpdate (i := 0) (x := 6) (v := .func (.func 35) #[(pq g34)] #[]) (a := 35) hg' hd' ho' Tryz.underlying72 rfl rfl (by kernel_rfl) rfl hm91 (by exact rfl) (show I64 6 by decide) ?_
    intro row92 hm93
    refine mv (v := (pq g34)) ?_
    refine vb (q_mkfn (v := .func (.func 36) #[(pq g34)] #[]) rfl (by kernel_rfl)) ?_
    refine WR.insert rfl rfl rfl (fun o' hg' hd' ho' => ?_)
    refine e_mapUpdate (i := 0) (x := 8) (v := .func (.func 36) #[(pq g34)] #[]) (a := 36) hg' hd' ho' Tryz.underlying72 rfl rfl (by kernel_rfl) rfl hm93 (by exact rfl) (show I64 8 by decide) ?_
    intro row94 hm95
    refine mv (v := (pq g34)) ?_
    refine vb (q_mkfn (v := .func (.func 37) #[(pq g34)] #[]) rfl (by kernel_rfl)) ?_
    refine WR.insert rfl rfl rfl (fun o' hg' hd' ho' => ?_)
    refine e_mapUpdate (i := 0) (x := 9) (v := .func (.func 37) #[(pq g34)] #[]) (a := 37) hg' hd' ho' Tryz.underlying72 rfl rfl (by kernel_rfl) rfl hm95 (by exact rfl) (show I64 9 by decide) ?_
    intro row96 hm97
    refine mv (v := (pq g34)) ?_
    refine vb (q_mkfn (v := .func (.func 38) #[(pq g34)] #[]) rfl (by kernel_rfl)) ?_
    refine WR.insert rfl rfl rfl (fun o' hg' hd' ho' => ?_)
    refine e_mapUpdate (i := 0) (x := 17) (v := .func (.func 38) #[(pq g34)] #[]) (a := 38) hg' hd' ho' Tryz.underlying72 rfl rfl (by kernel_rfl) rfl hm97 (by exact rfl) (show I64 17 by decide) ?_
    intro row98 hm99
    refine mv (v := .map (some g83)) ?_
    refine vb (q_nil (A := some ⟨g34, 0, none⟩) rfl rfl rfl) ?_
    refine vb (q_fl 6 fld_74_5 rfl rfl rfl) ?_
    refine e_st (i := 1) (v := .map (some g83)) (new := #[.int .i64 life, (pq gd), .int .i64 self.site, .int .i64 self.node, (pq g23), .map (some g28), .map (some g83)]) rfl Tryz.sizeOf72 rfl rfl rfl rfl (by kernel_rfl) rfl rfl rfl rfl ?_
    refine WR.done ?_
    refine WC.rs ?_
    refine mv (v := (pq g34)) ?_
    refine as_ (v := (pq g34)) ?_
    refine as_ (v := .int .i64 0) ?_
    refine WR.done ?_
    refine WC.ret ?_
    intro w hw
    obtain ⟨row_100, hrow_100, hob_100⟩ : ∃ rw : Rowb, rw = ([[(g34, .cells #[.int .i64 life, (pq gd), .int .i64 self.site, .int .i64 self.node, (pq g23), .map (some g28), .map (some g83)] 74 (0, 0))], row24, row40, row98] : List Rowb).flatten ∧ Onode_Node.ob (74, gd) Γ35 g34 rw (⟨life, self.site, self.node, z31, m39, (mput 17 38 (mput 9 37 (mput 8 36 (mput 6 35 (mput 4 34 (mput 2 33 (mput 1 32 ([] : List (Int × Nat)))))))))⟩ : Onode_Node) := ⟨_, rfl, g23, row24, g28, row40, g83, row98, rfl, hlife, hself.1, hself.2, (ho33.mono hl36), ho41, hm99, trivial⟩
    have hw := hw.fold (is := [1, 3, 1, 0]) rfl hrow_100
    obtain rfl := Option.some.inj h
    subst hF
    exact end_e (is := [1, 0]) (by kernel_rfl) hw rfl ⟨row43, g34, row_100, rfl, rfl, ho44, hob_100, (show I64 0 by decide), trivial⟩
abbrev r_firthlaw15_one (r : Rec) (U : List Rowb) (Γ : Gh) (v : Value) : Prop := ∃ (A0_1 : Option Addr), ∃ (c0_1 : Nat), v = .agg #[.string r.key, .slice A0_1 r.vers.length c0_1] ∧ U = [] ∧ Rec.fits Γ A0_1 c0_1 r ∧ True
theorem t_firthlaw15_one {Γ : Gh} {w0 : World} (key : ByteArray) (hkey : key.size ≤ lim) (s_ : Int) (hs_ : I64 s_) (n : Int) (hn : I64 n) (hp : Pre [] Γ w0) {r : Rec} (h : m_firthlaw15_one key s_ n = some r) : Calls Tryz.prog 26 #[.string key, .int .i64 s_, .int .i64 n] w0 (Outc Γ [] w0 (r_firthlaw15_one r)) := by
 refine calls_of_r (N := 14) (rs := [.cell 6 45]) (args := [.string key, .int .i64 s_, .int .i64 n]) Tryz.func26 rfl Tryz.ntmps26 Tryz.results26 rfl ?_
 obtain ⟨F, hF⟩ : ∃ F : Fm, F = ⟨ids [], w0, Γ⟩ := ⟨_, rfl⟩
 refine WC.here (C := CC F Γ []) ?_ (hF ▸ hp.start)
 refine WC.rs ?_
 refine e_alloc Tryz.zeroValue45 rfl rfl rfl rfl ?_
 intro g1
 refine WR.done ?_
 refine WC.rs ?_
 refine mv (v := .string key) ?_
 refine mv (v := .int .i64 s_) ?_
 refine mv (v := .int .i64 n) ?_
 refine vb (q_build' (v := .agg #[.int .i64 s_, .int .i64 n]) rfl (bargs2 rfl rfl) (fun w => by kernel_rfl)) ?_
 refine vb (q_build' (v := .agg #[.int .i64 s_, .int .i64 n, .slice none 0 0, .bool false, .string (⟨#[118]⟩ : ByteArray)]) rfl (bargs2 rfl rfl) (fun w => by kernel_rfl)) ?_
 refine e_buildSlice (cs := #[.int .i64 s_, .int .i64 n, .slice none 0 0, .bool false, .string (⟨#[118]⟩ : ByteArray)]) (e := 89) rfl rfl rfl rfl (fun w => by kernel_rfl) ?_
 intro g2
 refine vb (q_build' (v := .agg #[.string key, .slice (some ⟨g2, 0, none⟩) 1 1]) rfl (bargs2 rfl rfl) (fun w => by kernel_rfl)) ?_
 refine e_st (i := 1) (v := .agg #[.string key, .slice (some ⟨g2, 0, none⟩) 1 1]) (new := #[.string key, .slice (some ⟨g2, 0, none⟩) 1 1]) rfl Tryz.sizeOf45 rfl rfl rfl rfl (by kernel_rfl) rfl rfl rfl rfl ?_
 refine WR.done ?_
 refine WC.ret ?_
 intro w hw
 have ho3 : Own verT Γ 89 [(g2, .cells #[.int .i64 s_, .int .i64 n, .slice none 0 0, .bool false, .string (⟨#[118]⟩ : ByteArray)] 89 (0, 0))] (some ⟨g2, 0, none⟩) 1 [(⟨(⟨s_, n⟩ : Dot), [], false, (⟨#[118]⟩ : ByteArray)⟩ : Ver)] := Own.of_blockL (T := verT) (ys := [(⟨(⟨s_, n⟩ : Dot), [], false, (⟨#[118]⟩ : ByteArray)⟩ : Ver)]) [[.int .i64 s_, .int .i64 n, .slice none 0 0, .bool false, .string (⟨#[118]⟩ : ByteArray)]] rfl (show 1 ≤ lim by decide) (show Ty.rd verT Γ [.int .i64 s_, .int .i64 n, .slice none 0 0, .bool false, .string (⟨#[118]⟩ : ByteArray)] (⟨(⟨s_, n⟩ : Dot), [], false, (⟨#[118]⟩ : ByteArray)⟩ : Ver) ∧ True from ⟨⟨none, 0, rfl, ⟨hs_, hn, ⟨Nat.zero_le _, Sl.nil _ _ _⟩, (show (⟨#[118]⟩ : ByteArray).size ≤ lim by decide)⟩⟩, trivial⟩)
 have hc8 := ho3.capz
 obtain ⟨Γ4, hw, hl5, hr6⟩ := hw.seal (i := 0) rfl; have hs7 := ho3.sl hl5 hr6
 obtain rfl := Option.some.inj h
 subst hF
 exact ⟨[.agg #[.string key, .slice (some ⟨g2, 0, none⟩) [(⟨(⟨s_, n⟩ : Dot), [], false, (⟨#[118]⟩ : ByteArray)⟩ : Ver)].length 1]], (rr_agg (i := 1) (us := [.string key, .slice (some ⟨g2, 0, none⟩) [(⟨(⟨s_, n⟩ : Dot), [], false, (⟨#[118]⟩ : ByteArray)⟩ : Ver)].length 1]) hw rfl Tryz.isAgg45 Tryz.sizeOf45 (by kernel_rfl) rfl rr_nil), end_e (is := []) (by kernel_rfl) hw rfl ⟨(some ⟨g2, 0, none⟩), 1, rfl, rfl, ⟨hkey, ⟨hc8, hs7⟩⟩, trivial⟩⟩
abbrev r_firthlaw15_put (r : Dapi_Msg) (U : List Rowb) (Γ : Gh) (v : Value) : Prop := ∃ (A0_10 : Option Addr), ∃ (c0_10 : Nat), ∃ (A0_11 : Option Addr), ∃ (c0_11 : Nat), ∃ (A0_12 : Option Addr), ∃ (c0_12 : Nat), ∃ (A0_13 : Option Addr), ∃ (c0_13 : Nat), ∃ (A0_14 : Option Addr), ∃ (c0_14 : Nat), v = .agg #[.int .i64 r.kind, .int .i64 r.from_.site, .int .i64 r.from_.node, .int .i64 r.to_.site, .int .i64 r.to_.node, .int .i64 r.id, .int .i64 r.n, .int .i64 r.for_, .int .i64 r.code, .string r.key, .slice A0_10 r.recs.length c0_10, .slice A0_11 r.vec.length c0_11, .slice A0_12 r.path.length c0_12, .slice A0_13 r.hashes.length c0_13, .slice A0_14 r.route.length c0_14] ∧ U = [] ∧ Dapi_Msg.fits Γ A0_10 c0_10 A0_11 c0_11 A0_12 c0_12 A0_13 c0_13 A0_14 c0_14 r ∧ True
theorem t_firthlaw15_put {Γ : Gh} {w0 : World} (to_ : Int) (hto_ : I64 to_) {Ar_ : Option Addr} {cr_ : Nat} {r_ : List Rec} (hr_ : Sl recT Γ Ar_ r_) (hr_c : r_.length ≤ cr_) (hp : Pre [] Γ w0) {r : Dapi_Msg} (h : m_firthlaw15_put to_ r_ = some r) : Calls Tryz.prog 14 #[.int .i64 to_, .slice Ar_ r_.length cr_] w0 (Outc Γ [] w0 (r_firthlaw15_put r)) := by
 refine calls_of_r (N := 10) (rs := [.cell 4 40]) (args := [.int .i64 to_, .slice Ar_ r_.length cr_]) Tryz.func14 rfl Tryz.ntmps14 Tryz.results14 rfl ?_
 obtain ⟨F, hF⟩ : ∃ F : Fm, F = ⟨ids [], w0, Γ⟩ := ⟨_, rfl⟩
 refine WC.here (C := CC F Γ []) ?_ (hF ▸ hp.start)
 refine WC.rs ?_
 refine e_alloc Tryz.zeroValue40 rfl rfl rfl rfl ?_
 intro g1
 refine WR.done ?_
 refine WC.rs ?_
 obtain ⟨z2, hz3, h⟩ := bnd h
 refine vc rfl rfl rfl (q_call (call_run Tryz.call11 rfl rfl (by kernel_rfl)) (fun w hw => t_firthlaw15_at (Γ := Gh.all w) 0 (show I64 0 by decide) (Sat.all w) hz3)) ?_
 refine mv (v := .int .i64 to_) ?_
 obtain ⟨z4, hz5, h⟩ := bnd h
 refine vc rfl rfl rfl (q_call (call_run Tryz.call11 rfl rfl (by kernel_rfl)) (fun w hw => t_firthlaw15_at (Γ := Gh.all w) to_ hto_ (Sat.all w) hz5)) ?_
 refine mv (v := .slice Ar_ r_.length cr_) ?_
 refine vb (q_build' (v := .agg #[.int .i64 1, .int .i64 z2.site, .int .i64 z2.node, .int .i64 z4.site, .int .i64 z4.node, .int .i64 5, .int .i64 0, .int .i64 0, .int .i64 0, .string ByteArray.empty, .slice Ar_ r_.length cr_, .slice none 0 0, .slice none 0 0, .slice none 0 0, .slice none 0 0]) rfl (bargs5 rfl rfl rfl rfl rfl) (fun w => by kernel_rfl)) ?_
 refine e_st (i := 0) (v := .agg #[.int .i64 1, .int .i64 z2.site, .int .i64 z2.node, .int .i64 z4.site, .int .i64 z4.node, .int .i64 5, .int .i64 0, .int .i64 0, .int .i64 0, .string ByteArray.empty, .slice Ar_ r_.length cr_, .slice none 0 0, .slice none 0 0, .slice none 0 0, .slice none 0 0]) (new := #[.int .i64 1, .int .i64 z2.site, .int .i64 z2.node, .int .i64 z4.site, .int .i64 z4.node, .int .i64 5, .int .i64 0, .int .i64 0, .int .i64 0, .string ByteArray.empty, .slice Ar_ r_.length cr_, .slice none 0 0, .slice none 0 0, .slice none 0 0, .slice none 0 0]) rfl Tryz.sizeOf40 rfl rfl rfl rfl (by kernel_rfl) rfl rfl rfl rfl ?_
 refine WR.done ?_
 refine WC.ret ?_
 intro w hw
 obtain ⟨hk6, h⟩ := chk_some h
 obtain ⟨hk7, h⟩ := chk_some h
 obtain ⟨hk8, h⟩ := chk_some h
 obtain ⟨hk9, h⟩ := chk_some h
 obtain rfl := Option.some.inj h
 subst hF
 exact ⟨[.agg #[.int .i64 1, .int .i64 z2.site, .int .i64 z2.node, .int .i64 z4.site, .int .i64 z4.node, .int .i64 5, .int .i64 0, .int .i64 0, .int .i64 0, .string ByteArray.empty, .slice Ar_ r_.length cr_, .slice none 0 0, .slice none 0 0, .slice none 0 0, .slice none 0 0]], (rr_agg (i := 0) (us := [.int .i64 1, .int .i64 z2.site, .int .i64 z2.node, .int .i64 z4.site, .int .i64 z4.node, .int .i64 5, .int .i64 0, .int .i64 0, .int .i64 0, .string ByteArray.empty, .slice Ar_ r_.length cr_, .slice none 0 0, .slice none 0 0, .slice none 0 0, .slice none 0 0]) hw rfl Tryz.isAgg40 Tryz.sizeOf40 (by kernel_rfl) rfl rr_nil), end_e (is := []) (by kernel_rfl) hw rfl ⟨Ar_, cr_, none, 0, none, 0, none, 0, none, 0, rfl, rfl, ⟨(show I64 1 by decide), (i64b_of hk6), (i64b_of hk7), (i64b_of hk8), (i64b_of hk9), (show I64 5 by decide), (show I64 0 by decide), (show I64 0 by decide), (show I64 0 by decide), (show (ByteArray.empty : ByteArray).size ≤ lim by decide), ⟨hr_c, hr_⟩, ⟨Nat.zero_le _, Sl.nil _ _ _⟩, ⟨Nat.zero_le _, Sl.nil _ _ _⟩, ⟨Nat.zero_le _, Sl.nil _ _ _⟩, ⟨Nat.zero_le _, Sl.nil _ _ _⟩⟩, trivial⟩⟩
theorem t_code_place {Γ : Gh} {w0 : World} (a : Adr) (ha : Adr.fits Γ  a) (hs : Sat Γ w0) {r : Bool} (h : m_code_place a = some r) : Calls Tryz.prog 67 #[.agg #[.int .i64 a.site, .int .i64 a.node]] w0 (fun e w' => e = .returned (.bool r) ∧ Fr no w0 w') := by
 refine calls_of (N := 21) (rs := [2]) (args := [.agg #[.int .i64 a.site, .int .i64 a.node]]) Tryz.func67 rfl Tryz.ntmps67 Tryz.results67 rfl ?_
 obtain ⟨F, hF⟩ : ∃ F : Fm, F = ⟨no, w0, Γ⟩ := ⟨_, rfl⟩
 refine WC.here (C := CC F Γ []) ?_ (hF ▸ Cur.start0 hs)
 refine WC.rs ?_
 refine e_box (v := .agg #[.int .i64 a.site, .int .i64 a.node]) rfl rfl rfl rfl (by kernel_rfl) ?_
 intro g1
 refine as_ (v := .bool false) ?_
 refine WR.done ?_
 refine WC.rs ?_
 refine vb (q_fl 0 fld_32_0 rfl rfl rfl) ?_
 refine vb (q_ldl (i := 0) (v := .int .i64 a.site) rfl rfl Tryz.isAgg3 rfl rfl) ?_
 refine vb (q_geq rfl rfl rfl) ?_
 refine mv (v := .bool (decide (1 ≤ a.site))) ?_
 refine vg1 rfl rfl rfl rfl rfl (fun hg2 => QV.qo (q_fl 0 fld_32_0 rfl rfl rfl)) ?_
 refine vg1 rfl rfl rfl rfl rfl (fun hg3 => QV.qo (q_ldl (i := 0) (v := .int .i64 a.site) rfl rfl Tryz.isAgg3 (gu hg3 rfl) rfl)) ?_
 refine vg1 rfl rfl rfl rfl rfl (fun hg4 => QV.qo (q_leq rfl (gu hg4 rfl) rfl)) ?_
 refine vb (q_pick rfl rfl (pk_and' (g := (decide (1 ≤ a.site))) (y := (decide (a.site ≤ 16))))) ?_
 refine mv (v := .bool ((decide (1 ≤ a.site)) && (decide (a.site ≤ 16)))) ?_
 refine vg1 rfl rfl rfl rfl rfl (fun hg5 => QV.qo (q_fl 1 fld_32_1 rfl rfl rfl)) ?_
 refine vg1 rfl rfl rfl rfl rfl (fun hg6 => QV.qo (q_ldl (i := 0) (v := .int .i64 a.node) rfl rfl Tryz.isAgg3 (gu hg6 rfl) rfl)) ?_
 refine vg1 rfl rfl rfl rfl rfl (fun hg7 => QV.qo (q_geq rfl (gu hg7 rfl) rfl)) ?_
 refine vb (q_pick rfl rfl (pk_and' (g := ((decide (1 ≤ a.site)) && (decide (a.site ≤ 16)))) (y := (decide (0 ≤ a.node))))) ?_
 refine mv (v := .bool (((decide (1 ≤ a.site)) && (decide (a.site ≤ 16))) && (decide (0 ≤ a.node)))) ?_
 refine vg1 rfl rfl rfl rfl rfl (fun hg8 => QV.qo (q_fl 1 fld_32_1 rfl rfl rfl)) ?_
 refine vg1 rfl rfl rfl rfl rfl (fun hg9 => QV.qo (q_ldl (i := 0) (v := .int .i64 a.node) rfl rfl Tryz.isAgg3 (gu hg9 rfl) rfl)) ?_
 refine vg1 rfl rfl rfl rfl rfl (fun hg10 => QV.qo (q_leq rfl (gu hg10 rfl) rfl)) ?_
 refine vb (q_pick rfl rfl (pk_and' (g := (((decide (1 ≤ a.site)) && (decide (a.site ≤ 16))) && (decide (0 ≤ a.node)))) (y := (decide (a.node ≤ 8))))) ?_
 refine as_ (v := .bool ((((decide (1 ≤ a.site)) && (decide (a.site ≤ 16))) && (decide (0 ≤ a.node))) && (decide (a.node ≤ 8)))) ?_
 refine WR.done ?_
 refine WC.ret ?_
 intro w hw
 obtain rfl := Option.some.inj h
 subst hF
 exact ⟨by kernel_rfl, hw.fr⟩
theorem t_code_all_api_Rec {Γ : Gh} {w0 : World} {Al : Option Addr} {cl : Nat} {l : List Rec} (hl : Sl recT Γ Al l) (hlc : l.length ≤ cl) (most : Int) (hmost : I64 most) (hs : Sat Γ w0) {r : Bool} (h : m_code_all_api_Rec l most = some r) : Calls Tryz.prog 68 #[.slice Al l.length cl, .int .i64 most, .func (.func 69) #[] #[]] w0 (fun e w' => e = .returned (.bool r) ∧ Fr no w0 w') := by
 refine calls_of (N := 24) (rs := [6]) (args := [.slice Al l.length cl, .int .i64 most, .func (.func 69) #[] #[]]) Tryz.func68 rfl Tryz.ntmps68 Tryz.results68 rfl ?_
 obtain ⟨F, hF⟩ : ∃ F : Fm, F = ⟨no, w0, Γ⟩ := ⟨_, rfl⟩
 refine WC.here (C := CC F Γ []) ?_ (hF ▸ Cur.start0 hs)
 refine WC.rs ?_
 refine as_ (v := .bool false) ?_
 refine WR.done ?_
 refine WC.seq ?_
 refine WC.rs ?_
 refine mv (v := .slice Al l.length cl) ?_
 refine vb (q_len_slice rfl Tryz.underlying22 rfl) ?_
 refine mv (v := .int .i64 0) ?_
 refine WR.done ?_
 refine WC.block ?_
 refine WC.forI h (fun (i2 : Nat) (s : Unit) σ w => match s with | () => slots σ [(0, .slice Al l.length cl), (1, .int .i64 most), (2, .func (.func 69) #[] #[]), (9, .slice Al l.length cl), (10, .int .i64 ((l.length : Nat) : Int)), (11, .int .i64 ((i2 : Nat) : Int))] ∧ CC F Γ [] w ∧ True) ?_ ?_
 ·
  intro w hw
  exact ⟨(sl_ (by kernel_rfl)), hw, trivial⟩
 rintro f1 i2 ⟨⟩ σ w hi3 hlt4 hge5 ⟨hsl, hw, -⟩
 refine Wpt.slots hsl ?_
 refine WC.here (C := CC F Γ []) ?_ hw
 clear hw hsl
 refine WC.rs ?_
 refine vb (q_lss rfl rfl rfl) ?_
 refine WR.done ?_
 refine WC.seq ?_
 refine WC.cond (b := (decide (((i2 : Nat) : Int) < ((l.length : Nat) : Int)))) (by kernel_rfl) (fun hb6 => ?_) (fun hb6 => ?_)
 ·
  have hl7 := ilt hb6
  have h := hlt4 hl7
  refine WC.skip ?_
  change WC _ _ _ _ _ _
  refine WC.seq ?_
  refine WC.block ?_
  refine WC.rs ?_
  refine vb (q_ixn (i := i2) Tryz.underlying22 Tryz.sizeOf45 rfl rfl rfl hl7 (hl.some_ hl7)) ?_
  obtain ⟨A8, c9, hx10⟩ := hl.recT_at i2
  refine vb (q_lda (c := 0) (vs := [.string (gt l i2).key, .slice A8 ((gt l i2).vers).length c9]) (hx10 hl7).2 rfl Tryz.isAgg45 Tryz.sizeOf45 rfl rfl rfl) ?_
  refine e_alloc Tryz.zeroValue45 rfl rfl rfl rfl ?_
  intro g11
  refine e_st (i := 0) (v := .agg #[.string (gt l i2).key, .slice A8 ((gt l i2).vers).length c9]) (new := #[.string (gt l i2).key, .slice A8 ((gt l i2).vers).length c9]) rfl Tryz.sizeOf45 rfl rfl rfl rfl (by kernel_rfl) rfl rfl rfl rfl ?_
  refine WR.done ?_
  refine WC.rs ?_
  refine mv (v := .func (.func 69) #[] #[]) ?_
  refine vb (q_ldla (i := 0) (vs := [.string (gt l i2).key, .slice A8 ((gt l i2).vers).length c9]) rfl rfl Tryz.isAgg45 Tryz.sizeOf45 rfl rfl) ?_
  obtain ⟨z12, hz13, h⟩ := bnd h
  refine vc rfl rfl rfl (q_call (call_run_fv (caps := #[]) Tryz.call69 rfl (by kernel_rfl) (by kernel_rfl)) (fun w hw => t_code_RightRec (Γ := Gh.all w) (gt l i2) (Rec.fits_mono (hx10 hl7).1 hw.sat.le_all) (Sat.all w) hz13)) ?_
  refine vb (q_not rfl rfl) ?_
  refine WR.done ?_
  refine WC.cif h (by kernel_rfl) (fun hb14 h => ?_) (fun hb14 h => ?_)
  ·
   refine WC.rs ?_
   refine as_ (v := .bool false) ?_
   refine WR.done ?_
   refine WC.ret ?_
   intro w hw
   obtain rfl := Option.some.inj h
   subst hF
   exact ⟨by kernel_rfl, hw.fr⟩
  ·
   refine WC.skip ?_
   change WC _ _ _ _ _ _
   refine WC.region ?_
   refine vb (q_add_r (r := ((i2 + 1 : Nat) : Int)) rfl rfl rfl (ctr_len hl7 hl.le)) ?_
   refine mv (v := .int .i64 ((i2 + 1 : Nat) : Int)) ?_
   refine WR.nil ?_
   intro w hw
   exact ⟨hl7, (), h, (sl_ (by kernel_rfl)), (hw.only (is := []) rfl), trivial⟩
 ·
  have h := hge5 (ige hb6)
  refine WC.exit ?_
  change WC _ _ _ _ _ _
  refine WC.rs ?_
  refine mv (v := .slice Al l.length cl) ?_
  refine vb (q_len_slice rfl Tryz.underlying22 rfl) ?_
  refine mv (v := .int .i64 most) ?_
  refine vb (q_leq rfl rfl rfl) ?_
  refine as_ (v := .bool (decide (((l.length : Nat) : Int) ≤ most))) ?_
  refine WR.done ?_
  refine WC.ret ?_
  intro w hw
  obtain rfl := Option.some.inj h
  subst hF
  exact ⟨by kernel_rfl, hw.fr⟩
abbrev r_code_between_int64 (r : Int × Int) (U : List Rowb) (Γ : Gh) (v : Value) : Prop := ∃ (g0_0 : Nat), ∃ (g0_1 : Nat), v = .func (.func 112) #[] #[.pointer (some ⟨g0_0, 0, none⟩), .pointer (some ⟨g0_1, 0, none⟩)] ∧ U = [[(g0_0, .cells #[.int .i64 r.1] 2 (0, 0))], [(g0_1, .cells #[.int .i64 r.2] 2 (0, 0))]] ∧ I64 r.1 ∧ I64 r.2 ∧ True
theorem t_code_between_int64 {Γ : Gh} {w0 : World} (lo : Int) (hlo : I64 lo) (hi : Int) (hhi : I64 hi) (hp : Pre [] Γ w0) {r : Int × Int} (h : m_code_between_int64 lo hi = some r) : Calls Tryz.prog 71 #[.int .i64 lo, .int .i64 hi] w0 (Outc Γ [] w0 (r_code_between_int64 r)) := by
 refine calls_of (N := 6) (rs := [4]) (args := [.int .i64 lo, .int .i64 hi]) Tryz.func71 rfl Tryz.ntmps71 Tryz.results71 rfl ?_
 obtain ⟨F, hF⟩ : ∃ F : Fm, F = ⟨ids [], w0, Γ⟩ := ⟨_, rfl⟩
 refine WC.here (C := CC F Γ []) ?_ (hF ▸ hp.start)
 refine WC.rs ?_
 refine e_box (v := .int .i64 lo) rfl rfl rfl rfl (by kernel_rfl) ?_
 intro g1
 refine e_box (v := .int .i64 hi) rfl rfl rfl rfl (by kernel_rfl) ?_
 intro g2
 refine as_ (v := .nilFunc) ?_
 refine WR.done ?_
 refine WC.rs ?_
 refine vb (q_mkfn (v := .func (.func 112) #[] #[(pq g1), (pq g2)]) rfl (by kernel_rfl)) ?_
 refine as_ (v := .func (.func 112) #[] #[(pq g1), (pq g2)]) ?_
 refine WR.done ?_
 refine WC.ret ?_
 intro w hw
 obtain rfl := Option.some.inj h
 subst hF
 exact end_e (is := [1, 0]) (by kernel_rfl) hw rfl ⟨g1, g2, rfl, rfl, hlo, hhi, trivial⟩
abbrev r_code_between_int (r : Int × Int) (U : List Rowb) (Γ : Gh) (v : Value) : Prop := ∃ (g0_0 : Nat), ∃ (g0_1 : Nat), v = .func (.func 113) #[] #[.pointer (some ⟨g0_0, 0, none⟩), .pointer (some ⟨g0_1, 0, none⟩)] ∧ U = [[(g0_0, .cells #[.int .i64 r.1] 3 (0, 0))], [(g0_1, .cells #[.int .i64 r.2] 3 (0, 0))]] ∧ I64 r.1 ∧ I64 r.2 ∧ True
theorem t_code_between_int {Γ : Gh} {w0 : World} (lo : Int) (hlo : I64 lo) (hi : Int) (hhi : I64 hi) (hp : Pre [] Γ w0) {r : Int × Int} (h : m_code_between_int lo hi = some r) : Calls Tryz.prog 73 #[.int .i64 lo, .int .i64 hi] w0 (Outc Γ [] w0 (r_code_between_int r)) := by
 refine calls_of (N := 6) (rs := [4]) (args := [.int .i64 lo, .int .i64 hi]) Tryz.func73 rfl Tryz.ntmps73 Tryz.results73 rfl ?_
 obtain ⟨F, hF⟩ : ∃ F : Fm, F = ⟨ids [], w0, Γ⟩ := ⟨_, rfl⟩
 refine WC.here (C := CC F Γ []) ?_ (hF ▸ hp.start)
 refine WC.rs ?_
 refine e_box (v := .int .i64 lo) rfl rfl rfl rfl (by kernel_rfl) ?_
 intro g1
 refine e_box (v := .int .i64 hi) rfl rfl rfl rfl (by kernel_rfl) ?_
 intro g2
 refine as_ (v := .nilFunc) ?_
 refine WR.done ?_
 refine WC.rs ?_
 refine vb (q_mkfn (v := .func (.func 113) #[] #[(pq g1), (pq g2)]) rfl (by kernel_rfl)) ?_
 refine as_ (v := .func (.func 113) #[] #[(pq g1), (pq g2)]) ?_
 refine WR.done ?_
 refine WC.ret ?_
 intro w hw
 obtain rfl := Option.some.inj h
 subst hF
 exact end_e (is := [1, 0]) (by kernel_rfl) hw rfl ⟨g1, g2, rfl, rfl, hlo, hhi, trivial⟩
abbrev r_code_between_int64_1 (gb0 : Nat) (b0v : Int) (gb1 : Nat) (b1v : Int) (r : Bool) (U : List Rowb) (Γ : Gh) (v : Value) : Prop := v = .bool r ∧ U = [[(gb0, .cells #[.int .i64 b0v] 2 (0, 0))], [(gb1, .cells #[.int .i64 b1v] 2 (0, 0))]] ∧ True
theorem t_code_between_int64_1 {Γ : Gh} {w0 : World} (n : Int) (hn : I64 n) {gb0 : Nat} (b0v : Int) (hb0v : I64 b0v) {gb1 : Nat} (b1v : Int) (hb1v : I64 b1v) (hp : Pre [[(gb0, .cells #[.int .i64 b0v] 2 (0, 0))], [(gb1, .cells #[.int .i64 b1v] 2 (0, 0))]] Γ w0) {r : Bool} (h : m_code_between_int64_1 n b0v b1v = some r) : Calls Tryz.prog 112 #[.int .i64 n, (pq gb0), (pq gb1)] w0 (Outc Γ [[(gb0, .cells #[.int .i64 b0v] 2 (0, 0))], [(gb1, .cells #[.int .i64 b1v] 2 (0, 0))]] w0 (r_code_between_int64_1 gb0 b0v gb1 b1v r)) := by
 refine calls_of (N := 13) (rs := [4]) (args := [.int .i64 n, (pq gb0), (pq gb1)]) Tryz.func112 rfl Tryz.ntmps112 Tryz.results112 rfl ?_
 obtain ⟨F, hF⟩ : ∃ F : Fm, F = ⟨ids [[(gb0, .cells #[.int .i64 b0v] 2 (0, 0))], [(gb1, .cells #[.int .i64 b1v] 2 (0, 0))]], w0, Γ⟩ := ⟨_, rfl⟩
 refine WC.here (C := CC F Γ [[(gb0, .cells #[.int .i64 b0v] 2 (0, 0))], [(gb1, .cells #[.int .i64 b1v] 2 (0, 0))]]) ?_ (hF ▸ hp.start)
 refine WC.rs ?_
 refine as_ (v := .bool false) ?_
 refine WR.done ?_
 refine WC.rs ?_
 refine mv (v := .int .i64 n) ?_
 refine vb (q_ldl (i := 0) (v := .int .i64 b0v) rfl rfl Tryz.isAgg2 rfl rfl) ?_
 refine vb (q_geq rfl rfl rfl) ?_
 refine mv (v := .bool (decide (b0v ≤ n))) ?_
 refine vg1 rfl rfl rfl rfl rfl (fun hg1 => QV.qo (q_move (v := .int .i64 n) rfl (by kernel_rfl))) ?_
 refine vg1 rfl rfl rfl rfl rfl (fun hg2 => QV.qo (q_ldl (i := 1) (v := .int .i64 b1v) rfl rfl Tryz.isAgg2 rfl rfl)) ?_
 refine vg1 rfl rfl rfl rfl rfl (fun hg3 => QV.qo (q_leq rfl (gu hg3 rfl) (gu hg3 rfl))) ?_
 refine vb (q_pick rfl rfl (pk_and' (g := (decide (b0v ≤ n))) (y := (decide (n ≤ b1v))))) ?_
 refine as_ (v := .bool ((decide (b0v ≤ n)) && (decide (n ≤ b1v)))) ?_
 refine WR.done ?_
 refine WC.ret ?_
 intro w hw
 obtain rfl := Option.some.inj h
 subst hF
 exact end_e (is := [0, 0]) (by kernel_rfl) hw rfl ⟨rfl, rfl, trivial⟩
abbrev r_code_all_int64 (gok0 : Nat) (ok0v : Int) (gok1 : Nat) (ok1v : Int) (r : Bool) (U : List Rowb) (Γ : Gh) (v : Value) : Prop := v = .bool r ∧ U = [[(gok0, .cells #[.int .i64 ok0v] 2 (0, 0))], [(gok1, .cells #[.int .i64 ok1v] 2 (0, 0))]] ∧ True
theorem t_code_all_int64 {Γ : Gh} {w0 : World} {Al : Option Addr} {cl : Nat} {l : List Int} (hl : Sl intT Γ Al l) (hlc : l.length ≤ cl) (most : Int) (hmost : I64 most) {gok0 : Nat} (ok0v : Int) (hok0v : I64 ok0v) {gok1 : Nat} (ok1v : Int) (hok1v : I64 ok1v) (hp : Pre [[(gok0, .cells #[.int .i64 ok0v] 2 (0, 0))], [(gok1, .cells #[.int .i64 ok1v] 2 (0, 0))]] Γ w0) {r : Bool} (h : m_code_all_int64 l most ok0v ok1v = some r) : Calls Tryz.prog 70 #[.slice Al l.length cl, .int .i64 most, .func (.func 112) #[] #[(pq gok0), (pq gok1)]] w0 (Outc Γ [[(gok0, .cells #[.int .i64 ok0v] 2 (0, 0))], [(gok1, .cells #[.int .i64 ok1v] 2 (0, 0))]] w0 (r_code_all_int64 gok0 ok0v gok1 ok1v r)) := by
 refine calls_of (N := 24) (rs := [6]) (args := [.slice Al l.length cl, .int .i64 most, .func (.func 112) #[] #[(pq gok0), (pq gok1)]]) Tryz.func70 rfl Tryz.ntmps70 Tryz.results70 rfl ?_
 obtain ⟨F, hF⟩ : ∃ F : Fm, F = ⟨ids [[(gok0, .cells #[.int .i64 ok0v] 2 (0, 0))], [(gok1, .cells #[.int .i64 ok1v] 2 (0, 0))]], w0, Γ⟩ := ⟨_, rfl⟩
 refine WC.here (C := CC F Γ [[(gok0, .cells #[.int .i64 ok0v] 2 (0, 0))], [(gok1, .cells #[.int .i64 ok1v] 2 (0, 0))]]) ?_ (hF ▸ hp.start)
 refine WC.rs ?_
 refine as_ (v := .bool false) ?_
 refine WR.done ?_
 refine WC.seq ?_
 refine WC.rs ?_
 refine mv (v := .slice Al l.length cl) ?_
 refine vb (q_len_slice rfl Tryz.underlying36 rfl) ?_
 refine mv (v := .int .i64 0) ?_
 refine WR.done ?_
 refine WC.block ?_
 refine WC.forI h (fun (i4 : Nat) (s : Unit) σ w => match s with | () => ∃ (Γ1 : Gh), slots σ [(0, .slice Al l.length cl), (1, .int .i64 most), (2, .func (.func 112) #[] #[(pq gok0), (pq gok1)]), (9, .slice Al l.length cl), (10, .int .i64 ((l.length : Nat) : Int)), (11, .int .i64 ((i4 : Nat) : Int))] ∧ CC F Γ1 [[(gok0, .cells #[.int .i64 ok0v] 2 (0, 0))], [(gok1, .cells #[.int .i64 ok1v] 2 (0, 0))]] w ∧ Gh.le Γ Γ1 ∧ True) ?_ ?_
 ·
  intro w hw
  exact ⟨Γ, (sl_ (by kernel_rfl)), hw, (Gh.refl _), trivial⟩
 rintro f3 i4 ⟨⟩ σ w hi5 hlt6 hge7 ⟨Γ1, hsl, hw, hl2, -⟩
 refine Wpt.slots hsl ?_
 refine WC.here (C := CC F Γ1 [[(gok0, .cells #[.int .i64 ok0v] 2 (0, 0))], [(gok1, .cells #[.int .i64 ok1v] 2 (0, 0))]]) ?_ hw
 clear hw hsl
 refine WC.rs ?_
 refine vb (q_lss rfl rfl rfl) ?_
 refine WR.done ?_
 refine WC.seq ?_
 refine WC.cond (b := (decide (((i4 : Nat) : Int) < ((l.length : Nat) : Int)))) (by kernel_rfl) (fun hb8 => ?_) (fun hb8 => ?_)
 ·
  have hl9 := ilt hb8
  have h := hlt6 hl9
  refine WC.skip ?_
  change WC _ _ _ _ _ _
  refine WC.seq ?_
  refine WC.block ?_
  refine WC.rs ?_
  refine vb (q_ixn (i := i4) Tryz.underlying36 Tryz.sizeOf2 rfl rfl rfl hl9 ((hl.mono hl2).some_ hl9)) ?_
  refine vb (q_ld (c := 0) (v := .int .i64 (gt l i4)) ((hl.mono hl2).intT_at hl9).2 rfl Tryz.isAgg2 rfl rfl) ?_
  refine as_ (v := .int .i64 (gt l i4)) ?_
  refine WR.done ?_
  refine WC.rs ?_
  refine mv (v := .func (.func 112) #[] #[(pq gok0), (pq gok1)]) ?_
  refine mv (v := .int .i64 (gt l i4)) ?_
  obtain ⟨z10, hz11, h⟩ := bnd h
  refine e_call (is := [0, 0]) rfl rfl (call_run_fv (caps := #[(pq gok0), (pq gok1)]) Tryz.call112 rfl (by kernel_rfl) (by kernel_rfl)) rfl (fun w hp => t_code_between_int64_1 (gt l i4) ((hl.mono hl2).intT_at hl9).1 ok0v hok0v ok1v hok1v hp hz11) ?_
  rintro Γ12 U14 v15 hl13 ⟨rfl, rfl, _⟩
  change WR _ _ _ (CC F Γ12 [[(gok0, .cells #[.int .i64 ok0v] 2 (0, 0))], [(gok1, .cells #[.int .i64 ok1v] 2 (0, 0))]]) _ _ (upd _ 17 (.bool z10))
  refine vb (q_not rfl rfl) ?_
  refine WR.done ?_
  refine WC.cif h (by kernel_rfl) (fun hb16 h => ?_) (fun hb16 h => ?_)
  ·
   refine WC.rs ?_
   refine as_ (v := .bool false) ?_
   refine WR.done ?_
   refine WC.ret ?_
   intro w hw
   obtain rfl := Option.some.inj h
   subst hF
   exact end_e (is := [0, 0]) (by kernel_rfl) hw rfl ⟨rfl, rfl, trivial⟩
  ·
   refine WC.skip ?_
   change WC _ _ _ _ _ _
   refine WC.region ?_
   refine vb (q_add_r (r := ((i4 + 1 : Nat) : Int)) rfl rfl rfl (ctr_len hl9 (hl.mono hl2).le)) ?_
   refine mv (v := .int .i64 ((i4 + 1 : Nat) : Int)) ?_
   refine WR.nil ?_
   intro w hw
   exact ⟨hl9, (), h, Γ12, (sl_ (by kernel_rfl)), hw, (hl2.trans hl13), trivial⟩
 ·
  have h := hge7 (ige hb8)
  refine WC.exit ?_
  change WC _ _ _ _ _ _
  refine WC.rs ?_
  refine mv (v := .slice Al l.length cl) ?_
  refine vb (q_len_slice rfl Tryz.underlying36 rfl) ?_
  refine mv (v := .int .i64 most) ?_
  refine vb (q_leq rfl rfl rfl) ?_
  refine as_ (v := .bool (decide (((l.length : Nat) : Int) ≤ most))) ?_
  refine WR.done ?_
  refine WC.ret ?_
  intro w hw
  obtain rfl := Option.some.inj h
  subst hF
  exact end_e (is := [0, 0]) (by kernel_rfl) hw rfl ⟨rfl, rfl, trivial⟩
abbrev r_code_between_int_1 (gb0 : Nat) (b0v : Int) (gb1 : Nat) (b1v : Int) (r : Bool) (U : List Rowb) (Γ : Gh) (v : Value) : Prop := v = .bool r ∧ U = [[(gb0, .cells #[.int .i64 b0v] 3 (0, 0))], [(gb1, .cells #[.int .i64 b1v] 3 (0, 0))]] ∧ True
theorem t_code_between_int_1 {Γ : Gh} {w0 : World} (n : Int) (hn : I64 n) {gb0 : Nat} (b0v : Int) (hb0v : I64 b0v) {gb1 : Nat} (b1v : Int) (hb1v : I64 b1v) (hp : Pre [[(gb0, .cells #[.int .i64 b0v] 3 (0, 0))], [(gb1, .cells #[.int .i64 b1v] 3 (0, 0))]] Γ w0) {r : Bool} (h : m_code_between_int_1 n b0v b1v = some r) : Calls Tryz.prog 113 #[.int .i64 n, (pq gb0), (pq gb1)] w0 (Outc Γ [[(gb0, .cells #[.int .i64 b0v] 3 (0, 0))], [(gb1, .cells #[.int .i64 b1v] 3 (0, 0))]] w0 (r_code_between_int_1 gb0 b0v gb1 b1v r)) := by
 refine calls_of (N := 13) (rs := [4]) (args := [.int .i64 n, (pq gb0), (pq gb1)]) Tryz.func113 rfl Tryz.ntmps113 Tryz.results113 rfl ?_
 obtain ⟨F, hF⟩ : ∃ F : Fm, F = ⟨ids [[(gb0, .cells #[.int .i64 b0v] 3 (0, 0))], [(gb1, .cells #[.int .i64 b1v] 3 (0, 0))]], w0, Γ⟩ := ⟨_, rfl⟩
 refine WC.here (C := CC F Γ [[(gb0, .cells #[.int .i64 b0v] 3 (0, 0))], [(gb1, .cells #[.int .i64 b1v] 3 (0, 0))]]) ?_ (hF ▸ hp.start)
 refine WC.rs ?_
 refine as_ (v := .bool false) ?_
 refine WR.done ?_
 refine WC.rs ?_
 refine mv (v := .int .i64 n) ?_
 refine vb (q_ldl (i := 0) (v := .int .i64 b0v) rfl rfl Tryz.isAgg3 rfl rfl) ?_
 refine vb (q_geq rfl rfl rfl) ?_
 refine mv (v := .bool (decide (b0v ≤ n))) ?_
 refine vg1 rfl rfl rfl rfl rfl (fun hg1 => QV.qo (q_move (v := .int .i64 n) rfl (by kernel_rfl))) ?_
 refine vg1 rfl rfl rfl rfl rfl (fun hg2 => QV.qo (q_ldl (i := 1) (v := .int .i64 b1v) rfl rfl Tryz.isAgg3 rfl rfl)) ?_
 refine vg1 rfl rfl rfl rfl rfl (fun hg3 => QV.qo (q_leq rfl (gu hg3 rfl) (gu hg3 rfl))) ?_
 refine vb (q_pick rfl rfl (pk_and' (g := (decide (b0v ≤ n))) (y := (decide (n ≤ b1v))))) ?_
 refine as_ (v := .bool ((decide (b0v ≤ n)) && (decide (n ≤ b1v)))) ?_
 refine WR.done ?_
 refine WC.ret ?_
 intro w hw
 obtain rfl := Option.some.inj h
 subst hF
 exact end_e (is := [0, 0]) (by kernel_rfl) hw rfl ⟨rfl, rfl, trivial⟩
abbrev r_code_all_int (gok0 : Nat) (ok0v : Int) (gok1 : Nat) (ok1v : Int) (r : Bool) (U : List Rowb) (Γ : Gh) (v : Value) : Prop := v = .bool r ∧ U = [[(gok0, .cells #[.int .i64 ok0v] 3 (0, 0))], [(gok1, .cells #[.int .i64 ok1v] 3 (0, 0))]] ∧ True
theorem t_code_all_int {Γ : Gh} {w0 : World} {Al : Option Addr} {cl : Nat} {l : List Int} (hl : Sl intT Γ Al l) (hlc : l.length ≤ cl) (most : Int) (hmost : I64 most) {gok0 : Nat} (ok0v : Int) (hok0v : I64 ok0v) {gok1 : Nat} (ok1v : Int) (hok1v : I64 ok1v) (hp : Pre [[(gok0, .cells #[.int .i64 ok0v] 3 (0, 0))], [(gok1, .cells #[.int .i64 ok1v] 3 (0, 0))]] Γ w0) {r : Bool} (h : m_code_all_int l most ok0v ok1v = some r) : Calls Tryz.prog 72 #[.slice Al l.length cl, .int .i64 most, .func (.func 113) #[] #[(pq gok0), (pq gok1)]] w0 (Outc Γ [[(gok0, .cells #[.int .i64 ok0v] 3 (0, 0))], [(gok1, .cells #[.int .i64 ok1v] 3 (0, 0))]] w0 (r_code_all_int gok0 ok0v gok1 ok1v r)) := by
 refine calls_of (N := 24) (rs := [6]) (args := [.slice Al l.length cl, .int .i64 most, .func (.func 113) #[] #[(pq gok0), (pq gok1)]]) Tryz.func72 rfl Tryz.ntmps72 Tryz.results72 rfl ?_
 obtain ⟨F, hF⟩ : ∃ F : Fm, F = ⟨ids [[(gok0, .cells #[.int .i64 ok0v] 3 (0, 0))], [(gok1, .cells #[.int .i64 ok1v] 3 (0, 0))]], w0, Γ⟩ := ⟨_, rfl⟩
 refine WC.here (C := CC F Γ [[(gok0, .cells #[.int .i64 ok0v] 3 (0, 0))], [(gok1, .cells #[.int .i64 ok1v] 3 (0, 0))]]) ?_ (hF ▸ hp.start)
 refine WC.rs ?_
 refine as_ (v := .bool false) ?_
 refine WR.done ?_
 refine WC.seq ?_
 refine WC.rs ?_
 refine mv (v := .slice Al l.length cl) ?_
 refine vb (q_len_slice rfl Tryz.underlying37 rfl) ?_
 refine mv (v := .int .i64 0) ?_
 refine WR.done ?_
 refine WC.block ?_
 refine WC.forI h (fun (i4 : Nat) (s : Unit) σ w => match s with | () => ∃ (Γ1 : Gh), slots σ [(0, .slice Al l.length cl), (1, .int .i64 most), (2, .func (.func 113) #[] #[(pq gok0), (pq gok1)]), (9, .slice Al l.length cl), (10, .int .i64 ((l.length : Nat) : Int)), (11, .int .i64 ((i4 : Nat) : Int))] ∧ CC F Γ1 [[(gok0, .cells #[.int .i64 ok0v] 3 (0, 0))], [(gok1, .cells #[.int .i64 ok1v] 3 (0, 0))]] w ∧ Gh.le Γ Γ1 ∧ True) ?_ ?_
 ·
  intro w hw
  exact ⟨Γ, (sl_ (by kernel_rfl)), hw, (Gh.refl _), trivial⟩
 rintro f3 i4 ⟨⟩ σ w hi5 hlt6 hge7 ⟨Γ1, hsl, hw, hl2, -⟩
 refine Wpt.slots hsl ?_
 refine WC.here (C := CC F Γ1 [[(gok0, .cells #[.int .i64 ok0v] 3 (0, 0))], [(gok1, .cells #[.int .i64 ok1v] 3 (0, 0))]]) ?_ hw
 clear hw hsl
 refine WC.rs ?_
 refine vb (q_lss rfl rfl rfl) ?_
 refine WR.done ?_
 refine WC.seq ?_
 refine WC.cond (b := (decide (((i4 : Nat) : Int) < ((l.length : Nat) : Int)))) (by kernel_rfl) (fun hb8 => ?_) (fun hb8 => ?_)
 ·
  have hl9 := ilt hb8
  have h := hlt6 hl9
  refine WC.skip ?_
  change WC _ _ _ _ _ _
  refine WC.seq ?_
  refine WC.block ?_
  refine WC.rs ?_
  refine vb (q_ixn (i := i4) Tryz.underlying37 Tryz.sizeOf3 rfl rfl rfl hl9 ((hl.mono hl2).some_ hl9)) ?_
  refine vb (q_ld (c := 0) (v := .int .i64 (gt l i4)) ((hl.mono hl2).intT_at hl9).2 rfl Tryz.isAgg3 rfl rfl) ?_
  refine as_ (v := .int .i64 (gt l i4)) ?_
  refine WR.done ?_
  refine WC.rs ?_
  refine mv (v := .func (.func 113) #[] #[(pq gok0), (pq gok1)]) ?_
  refine mv (v := .int .i64 (gt l i4)) ?_
  obtain ⟨z10, hz11, h⟩ := bnd h
  refine e_call (is := [0, 0]) rfl rfl (call_run_fv (caps := #[(pq gok0), (pq gok1)]) Tryz.call113 rfl (by kernel_rfl) (by kernel_rfl)) rfl (fun w hp => t_code_between_int_1 (gt l i4) ((hl.mono hl2).intT_at hl9).1 ok0v hok0v ok1v hok1v hp hz11) ?_
  rintro Γ12 U14 v15 hl13 ⟨rfl, rfl, _⟩
  change WR _ _ _ (CC F Γ12 [[(gok0, .cells #[.int .i64 ok0v] 3 (0, 0))], [(gok1, .cells #[.int .i64 ok1v] 3 (0, 0))]]) _ _ (upd _ 17 (.bool z10))
  refine vb (q_not rfl rfl) ?_
  refine WR.done ?_
  refine WC.cif h (by kernel_rfl) (fun hb16 h => ?_) (fun hb16 h => ?_)
  ·
   refine WC.rs ?_
   refine as_ (v := .bool false) ?_
   refine WR.done ?_
   refine WC.ret ?_
   intro w hw
   obtain rfl := Option.some.inj h
   subst hF
   exact end_e (is := [0, 0]) (by kernel_rfl) hw rfl ⟨rfl, rfl, trivial⟩
  ·
   refine WC.skip ?_
   change WC _ _ _ _ _ _
   refine WC.region ?_
   refine vb (q_add_r (r := ((i4 + 1 : Nat) : Int)) rfl rfl rfl (ctr_len hl9 (hl.mono hl2).le)) ?_
   refine mv (v := .int .i64 ((i4 + 1 : Nat) : Int)) ?_
   refine WR.nil ?_
   intro w hw
   exact ⟨hl9, (), h, Γ12, (sl_ (by kernel_rfl)), hw, (hl2.trans hl13), trivial⟩
 ·
  have h := hge7 (ige hb8)
  refine WC.exit ?_
  change WC _ _ _ _ _ _
  refine WC.rs ?_
  refine mv (v := .slice Al l.length cl) ?_
  refine vb (q_len_slice rfl Tryz.underlying37 rfl) ?_
  refine mv (v := .int .i64 most) ?_
  refine vb (q_leq rfl rfl rfl) ?_
  refine as_ (v := .bool (decide (((l.length : Nat) : Int) ≤ most))) ?_
  refine WR.done ?_
  refine WC.ret ?_
  intro w hw
  obtain rfl := Option.some.inj h
  subst hF
  exact end_e (is := [0, 0]) (by kernel_rfl) hw rfl ⟨rfl, rfl, trivial⟩
theorem t_code_RightMsg {Γ : Gh} {w0 : World} {Am10 : Option Addr} {cm10 : Nat} {Am11 : Option Addr} {cm11 : Nat} {Am12 : Option Addr} {cm12 : Nat} {Am13 : Option Addr} {cm13 : Nat} {Am14 : Option Addr} {cm14 : Nat} (m : Dapi_Msg) (hm : Dapi_Msg.fits Γ Am10 cm10 Am11 cm11 Am12 cm12 Am13 cm13 Am14 cm14 m) (hs : Sat Γ w0) {r : Bool} (h : m_code_RightMsg m = some r) : Calls Tryz.prog 40 #[.agg #[.int .i64 m.kind, .int .i64 m.from_.site, .int .i64 m.from_.node, .int .i64 m.to_.site, .int .i64 m.to_.node, .int .i64 m.id, .int .i64 m.n, .int .i64 m.for_, .int .i64 m.code, .string m.key, .slice Am10 m.recs.length cm10, .slice Am11 m.vec.length cm11, .slice Am12 m.path.length cm12, .slice Am13 m.hashes.length cm13, .slice Am14 m.route.length cm14]] w0 (fun e w' => e = .returned (.bool r) ∧ Fr no w0 w') := by
 refine calls_of (N := 89) (rs := [2]) (args := [.agg #[.int .i64 m.kind, .int .i64 m.from_.site, .int .i64 m.from_.node, .int .i64 m.to_.site, .int .i64 m.to_.node, .int .i64 m.id, .int .i64 m.n, .int .i64 m.for_, .int .i64 m.code, .string m.key, .slice Am10 m.recs.length cm10, .slice Am11 m.vec.length cm11, .slice Am12 m.path.length cm12, .slice Am13 m.hashes.length cm13, .slice Am14 m.route.length cm14]]) Tryz.func40 rfl Tryz.ntmps40 Tryz.results40 rfl ?_
 obtain ⟨F, hF⟩ : ∃ F : Fm, F = ⟨no, w0, Γ⟩ := ⟨_, rfl⟩
 refine WC.here (C := CC F Γ []) ?_ (hF ▸ Cur.start0 hs)
 refine WC.rs ?_
 refine e_box (v := .agg #[.int .i64 m.kind, .int .i64 m.from_.site, .int .i64 m.from_.node, .int .i64 m.to_.site, .int .i64 m.to_.node, .int .i64 m.id, .int .i64 m.n, .int .i64 m.for_, .int .i64 m.code, .string m.key, .slice Am10 m.recs.length cm10, .slice Am11 m.vec.length cm11, .slice Am12 m.path.length cm12, .slice Am13 m.hashes.length cm13, .slice Am14 m.route.length cm14]) rfl rfl rfl rfl (by kernel_rfl) ?_
 intro g1
 refine as_ (v := .bool false) ?_
 refine WR.done ?_
 refine WC.seq ?_
 intro w hw; have h02 := hw.le
 refine WC.here (C := CC F Γ [[(g1, .cells #[.int .i64 m.kind, .int .i64 m.from_.site, .int .i64 m.from_.node, .int .i64 m.to_.site, .int .i64 m.to_.node, .int .i64 m.id, .int .i64 m.n, .int .i64 m.for_, .int .i64 m.code, .string m.key, .slice Am10 m.recs.length cm10, .slice Am11 m.vec.length cm11, .slice Am12 m.path.length cm12, .slice Am13 m.hashes.length cm13, .slice Am14 m.route.length cm14] 40 (0, 0))]]) ?_ hw; clear hw
 refine WC.held (CC F Γ [[(g1, .cells #[.int .i64 m.kind, .int .i64 m.from_.site, .int .i64 m.from_.node, .int .i64 m.to_.site, .int .i64 m.to_.node, .int .i64 m.id, .int .i64 m.n, .int .i64 m.for_, .int .i64 m.code, .string m.key, .slice Am10 m.recs.length cm10, .slice Am11 m.vec.length cm11, .slice Am12 m.path.length cm12, .slice Am13 m.hashes.length cm13, .slice Am14 m.route.length cm14] 40 (0, 0))]]) (by kernel_rfl) (fun w hw => hw.drawn _) ?_
 change WH _ _ _ _ (CC F Γ [[(g1, .cells #[.int .i64 m.kind, .int .i64 m.from_.site, .int .i64 m.from_.node, .int .i64 m.to_.site, .int .i64 m.to_.node, .int .i64 m.id, .int .i64 m.n, .int .i64 m.for_, .int .i64 m.code, .string m.key, .slice Am10 m.recs.length cm10, .slice Am11 m.vec.length cm11, .slice Am12 m.path.length cm12, .slice Am13 m.hashes.length cm13, .slice Am14 m.route.length cm14] 40 (0, 0))]]) _ 87 #[false, false, false, false, false, false, false, false, false, false, false, false, false, false, false, false, false, false, false, false, false, false, false, false, false, false, false, false, false, false, false, false, false, false, false, false, false, false, false, false, false, false, false, false, false, false, false, false, false, false, false, false, false, false, false, false, false, false, false, false, false, false, false, false, false, false, false, false, false, false, false, false, false, false, false, false, false, false, false, false, false, false, false, false, false, false, false] _
 refine hu 0 rfl (bk_ (Gh.refl _) h02 (.cons_cons _ .slnil)) (q_fl 0 fld_40_0 rfl rfl rfl) ?_
 refine hu 1 rfl (bk_ (Gh.refl _) h02 (.cons_cons _ .slnil)) (q_ldl (i := 0) (v := .int .i64 m.kind) rfl rfl Tryz.isAgg3 rfl rfl) ?_
 refine hu 2 rfl (bk_ (Gh.refl _) h02 (.cons_cons _ .slnil)) (q_geq rfl rfl rfl) ?_
 refine hu 3 rfl (bk_ (Gh.refl _) h02 (.cons_cons _ .slnil)) (q_move (v := .bool (decide (1 ≤ m.kind))) rfl (by kernel_rfl)) ?_
 refine hg1 (i := 4) rfl (by kernel_rfl) rfl rfl rfl rfl rfl (bk_ (Gh.refl _) h02 (.cons_cons _ .slnil)) (fun hg3 => (q_fl 0 fld_40_0 rfl rfl rfl)) ?_
 refine hg1 (i := 5) rfl (by kernel_rfl) rfl rfl rfl rfl rfl (bk_ (Gh.refl _) h02 (.cons_cons _ .slnil)) (fun hg4 => (q_ldl (i := 0) (v := .int .i64 m.kind) rfl rfl Tryz.isAgg3 (gu hg4 rfl) rfl)) ?_
 refine hg1 (i := 6) rfl (by kernel_rfl) rfl rfl rfl rfl rfl (bk_ (Gh.refl _) h02 (.cons_cons _ .slnil)) (fun hg5 => (q_leq rfl (gu hg5 rfl) rfl)) ?_
 refine hu 7 rfl (bk_ (Gh.refl _) h02 (.cons_cons _ .slnil)) (q_pick rfl rfl (pk_and' (g := (decide (1 ≤ m.kind))) (y := (decide (m.kind ≤ 17))))) ?_
 refine hu 8 rfl (bk_ (Gh.refl _) h02 (.cons_cons _ .slnil)) (q_move (v := .bool ((decide (1 ≤ m.kind)) && (decide (m.kind ≤ 17)))) rfl (by kernel_rfl)) ?_
 refine hg1 (i := 9) rfl (by kernel_rfl) rfl rfl rfl rfl rfl (bk_ (Gh.refl _) h02 (.cons_cons _ .slnil)) (fun hg6 => (q_fl 1 fld_40_1 rfl rfl rfl)) ?_
 refine hg1 (i := 10) rfl (by kernel_rfl) rfl rfl rfl rfl rfl (bk_ (Gh.refl _) h02 (.cons_cons _ .slnil)) (fun hg7 => (q_ldla (i := 0) (vs := [.int .i64 m.from_.site, .int .i64 m.from_.node]) rfl rfl Tryz.isAgg32 Tryz.sizeOf32 (gu hg7 rfl) rfl)) ?_
 refine WH.lone (i := 11) (by kernel_rfl) rfl ?_
 obtain ⟨z9, hz10, h⟩ := bnd h
 refine vg1 rfl rfl rfl rfl rfl (fun hg8 => (q_call (call_run Tryz.call67 rfl rfl (args1 (gu hg8 rfl))) (fun w hw => t_code_place (Γ := Gh.all w) m.from_ ⟨hm.2.1, hm.2.2.1⟩ (Sat.all w) (gc_of hz10 hg8)))) ?_
 refine WR.nil ?_
 refine WH.next (bk_ (Gh.refl _) h02 (.cons_cons _ .slnil)) ?_
 refine hu 12 rfl (bk_ (Gh.refl _) h02 (.cons_cons _ .slnil)) (q_pick rfl rfl (pk_and' (g := ((decide (1 ≤ m.kind)) && (decide (m.kind ≤ 17)))) (y := z9))) ?_
 refine hu 13 rfl (bk_ (Gh.refl _) h02 (.cons_cons _ .slnil)) (q_move (v := .bool (((decide (1 ≤ m.kind)) && (decide (m.kind ≤ 17))) && z9)) rfl (by kernel_rfl)) ?_
 refine hg1 (i := 14) rfl (by kernel_rfl) rfl rfl rfl rfl rfl (bk_ (Gh.refl _) h02 (.cons_cons _ .slnil)) (fun hg11 => (q_fl 3 fld_40_2 rfl rfl rfl)) ?_
 refine hg1 (i := 15) rfl (by kernel_rfl) rfl rfl rfl rfl rfl (bk_ (Gh.refl _) h02 (.cons_cons _ .slnil)) (fun hg12 => (q_ldla (i := 0) (vs := [.int .i64 m.to_.site, .int .i64 m.to_.node]) rfl rfl Tryz.isAgg32 Tryz.sizeOf32 (gu hg12 rfl) rfl)) ?_
 refine WH.lone (i := 16) (by kernel_rfl) rfl ?_
 obtain ⟨z14, hz15, h⟩ := bnd h
 refine vg1 rfl rfl rfl rfl rfl (fun hg13 => (q_call (call_run Tryz.call67 rfl rfl (args1 (gu hg13 rfl))) (fun w hw => t_code_place (Γ := Gh.all w) m.to_ ⟨hm.2.2.2.1, hm.2.2.2.2.1⟩ (Sat.all w) (gc_of hz15 hg13)))) ?_
 refine WR.nil ?_
 refine WH.next (bk_ (Gh.refl _) h02 (.cons_cons _ .slnil)) ?_
 refine hu 17 rfl (bk_ (Gh.refl _) h02 (.cons_cons _ .slnil)) (q_pick rfl rfl (pk_and' (g := (((decide (1 ≤ m.kind)) && (decide (m.kind ≤ 17))) && z9)) (y := z14))) ?_
 refine hu 18 rfl (bk_ (Gh.refl _) h02 (.cons_cons _ .slnil)) (q_move (v := .bool ((((decide (1 ≤ m.kind)) && (decide (m.kind ≤ 17))) && z9) && z14)) rfl (by kernel_rfl)) ?_
 refine hg1 (i := 19) rfl (by kernel_rfl) rfl rfl rfl rfl rfl (bk_ (Gh.refl _) h02 (.cons_cons _ .slnil)) (fun hg16 => (q_fl 5 fld_40_3 rfl rfl rfl)) ?_
 refine hg1 (i := 20) rfl (by kernel_rfl) rfl rfl rfl rfl rfl (bk_ (Gh.refl _) h02 (.cons_cons _ .slnil)) (fun hg17 => (q_ldl (i := 0) (v := .int .i64 m.id) rfl rfl Tryz.isAgg2 (gu hg17 rfl) rfl)) ?_
 refine hg1 (i := 21) rfl (by kernel_rfl) rfl rfl rfl rfl rfl (bk_ (Gh.refl _) h02 (.cons_cons _ .slnil)) (fun hg18 => (q_geq rfl (gu hg18 rfl) rfl)) ?_
 refine hu 22 rfl (bk_ (Gh.refl _) h02 (.cons_cons _ .slnil)) (q_pick rfl rfl (pk_and' (g := ((((decide (1 ≤ m.kind)) && (decide (m.kind ≤ 17))) && z9) && z14)) (y := (decide (0 ≤ m.id))))) ?_
 refine hu 23 rfl (bk_ (Gh.refl _) h02 (.cons_cons _ .slnil)) (q_move (v := .bool (((((decide (1 ≤ m.kind)) && (decide (m.kind ≤ 17))) && z9) && z14) && (decide (0 ≤ m.id)))) rfl (by kernel_rfl)) ?_
 refine hg1 (i := 24) rfl (by kernel_rfl) rfl rfl rfl rfl rfl (bk_ (Gh.refl _) h02 (.cons_cons _ .slnil)) (fun hg19 => (q_fl 6 fld_40_4 rfl rfl rfl)) ?_
 refine hg1 (i := 25) rfl (by kernel_rfl) rfl rfl rfl rfl rfl (bk_ (Gh.refl _) h02 (.cons_cons _ .slnil)) (fun hg20 => (q_ldl (i := 0) (v := .int .i64 m.n) rfl rfl Tryz.isAgg2 (gu hg20 rfl) rfl)) ?_
 refine hg1 (i := 26) rfl (by kernel_rfl) rfl rfl rfl rfl rfl (bk_ (Gh.refl _) h02 (.cons_cons _ .slnil)) (fun hg21 => (q_geq rfl (gu hg21 rfl) rfl)) ?_
 refine hu 27 rfl (bk_ (Gh.refl _) h02 (.cons_cons _ .slnil)) (q_pick rfl rfl (pk_and' (g := (((((decide (1 ≤ m.kind)) && (decide (m.kind ≤ 17))) && z9) && z14) && (decide (0 ≤ m.id)))) (y := (decide (0 ≤ m.n))))) ?_
 refine hu 28 rfl (bk_ (Gh.refl _) h02 (.cons_cons _ .slnil)) (q_move (v := .bool ((((((decide (1 ≤ m.kind)) && (decide (m.kind ≤ 17))) && z9) && z14) && (decide (0 ≤ m.id))) && (decide (0 ≤ m.n)))) rfl (by kernel_rfl)) ?_
 refine hg1 (i := 29) rfl (by kernel_rfl) rfl rfl rfl rfl rfl (bk_ (Gh.refl _) h02 (.cons_cons _ .slnil)) (fun hg22 => (q_fl 7 fld_40_5 rfl rfl rfl)) ?_
 refine hg1 (i := 30) rfl (by kernel_rfl) rfl rfl rfl rfl rfl (bk_ (Gh.refl _) h02 (.cons_cons _ .slnil)) (fun hg23 => (q_ldl (i := 0) (v := .int .i64 m.for_) rfl rfl Tryz.isAgg3 (gu hg23 rfl) rfl)) ?_
 refine hg1 (i := 31) rfl (by kernel_rfl) rfl rfl rfl rfl rfl (bk_ (Gh.refl _) h02 (.cons_cons _ .slnil)) (fun hg24 => (q_geq rfl (gu hg24 rfl) rfl)) ?_
 refine hu 32 rfl (bk_ (Gh.refl _) h02 (.cons_cons _ .slnil)) (q_pick rfl rfl (pk_and' (g := ((((((decide (1 ≤ m.kind)) && (decide (m.kind ≤ 17))) && z9) && z14) && (decide (0 ≤ m.id))) && (decide (0 ≤ m.n)))) (y := (decide (0 ≤ m.for_))))) ?_
 refine hu 33 rfl (bk_ (Gh.refl _) h02 (.cons_cons _ .slnil)) (q_move (v := .bool (((((((decide (1 ≤ m.kind)) && (decide (m.kind ≤ 17))) && z9) && z14) && (decide (0 ≤ m.id))) && (decide (0 ≤ m.n))) && (decide (0 ≤ m.for_)))) rfl (by kernel_rfl)) ?_
 refine hg1 (i := 34) rfl (by kernel_rfl) rfl rfl rfl rfl rfl (bk_ (Gh.refl _) h02 (.cons_cons _ .slnil)) (fun hg25 => (q_fl 7 fld_40_5 rfl rfl rfl)) ?_
 refine hg1 (i := 35) rfl (by kernel_rfl) rfl rfl rfl rfl rfl (bk_ (Gh.refl _) h02 (.cons_cons _ .slnil)) (fun hg26 => (q_ldl (i := 0) (v := .int .i64 m.for_) rfl rfl Tryz.isAgg3 (gu hg26 rfl) rfl)) ?_
 refine hg1 (i := 36) rfl (by kernel_rfl) rfl rfl rfl rfl rfl (bk_ (Gh.refl _) h02 (.cons_cons _ .slnil)) (fun hg27 => (q_leq rfl (gu hg27 rfl) rfl)) ?_
 refine hu 37 rfl (bk_ (Gh.refl _) h02 (.cons_cons _ .slnil)) (q_pick rfl rfl (pk_and' (g := (((((((decide (1 ≤ m.kind)) && (decide (m.kind ≤ 17))) && z9) && z14) && (decide (0 ≤ m.id))) && (decide (0 ≤ m.n))) && (decide (0 ≤ m.for_)))) (y := (decide (m.for_ ≤ 8))))) ?_
 refine hu 38 rfl (bk_ (Gh.refl _) h02 (.cons_cons _ .slnil)) (q_move (v := .bool ((((((((decide (1 ≤ m.kind)) && (decide (m.kind ≤ 17))) && z9) && z14) && (decide (0 ≤ m.id))) && (decide (0 ≤ m.n))) && (decide (0 ≤ m.for_))) && (decide (m.for_ ≤ 8)))) rfl (by kernel_rfl)) ?_
 refine hg1 (i := 39) rfl (by kernel_rfl) rfl rfl rfl rfl rfl (bk_ (Gh.refl _) h02 (.cons_cons _ .slnil)) (fun hg28 => (q_fl 8 fld_40_6 rfl rfl rfl)) ?_
 refine hg1 (i := 40) rfl (by kernel_rfl) rfl rfl rfl rfl rfl (bk_ (Gh.refl _) h02 (.cons_cons _ .slnil)) (fun hg29 => (q_ldl (i := 0) (v := .int .i64 m.code) rfl rfl Tryz.isAgg28 (gu hg29 rfl) rfl)) ?_
 refine hg1 (i := 41) rfl (by kernel_rfl) rfl rfl rfl rfl rfl (bk_ (Gh.refl _) h02 (.cons_cons _ .slnil)) (fun hg30 => (q_geq rfl (gu hg30 rfl) rfl)) ?_
 refine hu 42 rfl (bk_ (Gh.refl _) h02 (.cons_cons _ .slnil)) (q_pick rfl rfl (pk_and' (g := ((((((((decide (1 ≤ m.kind)) && (decide (m.kind ≤ 17))) && z9) && z14) && (decide (0 ≤ m.id))) && (decide (0 ≤ m.n))) && (decide (0 ≤ m.for_))) && (decide (m.for_ ≤ 8)))) (y := (decide (0 ≤ m.code))))) ?_
 refine hu 43 rfl (bk_ (Gh.refl _) h02 (.cons_cons _ .slnil)) (q_move (v := .bool (((((((((decide (1 ≤ m.kind)) && (decide (m.kind ≤ 17))) && z9) && z14) && (decide (0 ≤ m.id))) && (decide (0 ≤ m.n))) && (decide (0 ≤ m.for_))) && (decide (m.for_ ≤ 8))) && (decide (0 ≤ m.code)))) rfl (by kernel_rfl)) ?_
 refine hg1 (i := 44) rfl (by kernel_rfl) rfl rfl rfl rfl rfl (bk_ (Gh.refl _) h02 (.cons_cons _ .slnil)) (fun hg31 => (q_fl 8 fld_40_6 rfl rfl rfl)) ?_
 refine hg1 (i := 45) rfl (by kernel_rfl) rfl rfl rfl rfl rfl (bk_ (Gh.refl _) h02 (.cons_cons _ .slnil)) (fun hg32 => (q_ldl (i := 0) (v := .int .i64 m.code) rfl rfl Tryz.isAgg28 (gu hg32 rfl) rfl)) ?_
 refine hg1 (i := 46) rfl (by kernel_rfl) rfl rfl rfl rfl rfl (bk_ (Gh.refl _) h02 (.cons_cons _ .slnil)) (fun hg33 => (q_leq rfl (gu hg33 rfl) rfl)) ?_
 refine hu 47 rfl (bk_ (Gh.refl _) h02 (.cons_cons _ .slnil)) (q_pick rfl rfl (pk_and' (g := (((((((((decide (1 ≤ m.kind)) && (decide (m.kind ≤ 17))) && z9) && z14) && (decide (0 ≤ m.id))) && (decide (0 ≤ m.n))) && (decide (0 ≤ m.for_))) && (decide (m.for_ ≤ 8))) && (decide (0 ≤ m.code)))) (y := (decide (m.code ≤ 999))))) ?_
 refine hu 48 rfl (bk_ (Gh.refl _) h02 (.cons_cons _ .slnil)) (q_move (v := .bool ((((((((((decide (1 ≤ m.kind)) && (decide (m.kind ≤ 17))) && z9) && z14) && (decide (0 ≤ m.id))) && (decide (0 ≤ m.n))) && (decide (0 ≤ m.for_))) && (decide (m.for_ ≤ 8))) && (decide (0 ≤ m.code))) && (decide (m.code ≤ 999)))) rfl (by kernel_rfl)) ?_
 refine hg1 (i := 49) rfl (by kernel_rfl) rfl rfl rfl rfl rfl (bk_ (Gh.refl _) h02 (.cons_cons _ .slnil)) (fun hg34 => (q_fl 9 fld_40_7 rfl rfl rfl)) ?_
 refine hg1 (i := 50) rfl (by kernel_rfl) rfl rfl rfl rfl rfl (bk_ (Gh.refl _) h02 (.cons_cons _ .slnil)) (fun hg35 => (q_ldl (i := 0) (v := .string m.key) rfl rfl Tryz.isAgg9 (gu hg35 rfl) rfl)) ?_
 refine hg1 (i := 51) rfl (by kernel_rfl) rfl rfl rfl rfl rfl (bk_ (Gh.refl _) h02 (.cons_cons _ .slnil)) (fun hg36 => (q_len_str rfl Tryz.underlying9 (gu hg36 rfl))) ?_
 refine hg1 (i := 52) rfl (by kernel_rfl) rfl rfl rfl rfl rfl (bk_ (Gh.refl _) h02 (.cons_cons _ .slnil)) (fun hg37 => (q_leq rfl (gu hg37 rfl) rfl)) ?_
 refine hu 53 rfl (bk_ (Gh.refl _) h02 (.cons_cons _ .slnil)) (q_pick rfl rfl (pk_and' (g := ((((((((((decide (1 ≤ m.kind)) && (decide (m.kind ≤ 17))) && z9) && z14) && (decide (0 ≤ m.id))) && (decide (0 ≤ m.n))) && (decide (0 ≤ m.for_))) && (decide (m.for_ ≤ 8))) && (decide (0 ≤ m.code))) && (decide (m.code ≤ 999)))) (y := (decide (((m.key.size : Nat) : Int) ≤ 32))))) ?_
 refine hu 54 rfl (bk_ (Gh.refl _) h02 (.cons_cons _ .slnil)) (q_move (v := .bool (((((((((((decide (1 ≤ m.kind)) && (decide (m.kind ≤ 17))) && z9) && z14) && (decide (0 ≤ m.id))) && (decide (0 ≤ m.n))) && (decide (0 ≤ m.for_))) && (decide (m.for_ ≤ 8))) && (decide (0 ≤ m.code))) && (decide (m.code ≤ 999))) && (decide (((m.key.size : Nat) : Int) ≤ 32)))) rfl (by kernel_rfl)) ?_
 refine hg1 (i := 55) rfl (by kernel_rfl) rfl rfl rfl rfl rfl (bk_ (Gh.refl _) h02 (.cons_cons _ .slnil)) (fun hg38 => (q_fl 10 fld_40_8 rfl rfl rfl)) ?_
 refine hg1 (i := 56) rfl (by kernel_rfl) rfl rfl rfl rfl rfl (bk_ (Gh.refl _) h02 (.cons_cons _ .slnil)) (fun hg39 => (q_ldl (i := 0) (v := .slice Am10 m.recs.length cm10) rfl rfl Tryz.isAgg22 (gu hg39 rfl) rfl)) ?_
 refine hg1 (i := 57) rfl (by kernel_rfl) rfl rfl rfl rfl rfl (bk_ (Gh.refl _) h02 (.cons_cons _ .slnil)) (fun hg40 => (q_fl 10 fld_40_8 rfl rfl rfl)) ?_
 refine hg1 (i := 58) rfl (by kernel_rfl) rfl rfl rfl rfl rfl (bk_ (Gh.refl _) h02 (.cons_cons _ .slnil)) (fun hg41 => (q_ldl (i := 0) (v := .slice Am10 m.recs.length cm10) rfl rfl Tryz.isAgg22 (gu hg41 rfl) rfl)) ?_
 refine hg1 (i := 59) rfl (by kernel_rfl) rfl rfl rfl rfl rfl (bk_ (Gh.refl _) h02 (.cons_cons _ .slnil)) (fun hg42 => (q_len_slice rfl Tryz.underlying22 (gu hg42 rfl))) ?_
 refine WH.lone (i := 60) (by kernel_rfl) rfl ?_
 obtain ⟨z44, hz45, h⟩ := bnd h
 refine vg1 rfl rfl rfl rfl rfl (fun hg43 => (q_call (call_run Tryz.call68 rfl rfl (args3 (gu hg43 rfl) (gu hg43 rfl) rfl)) (fun w hw => t_code_all_api_Rec (Γ := Gh.all w) (hm.2.2.2.2.2.2.2.2.2.2.1.2.mono hw.sat.le_all) hm.2.2.2.2.2.2.2.2.2.2.1.1 ((m.recs.length : Nat) : Int) (len_r hm.2.2.2.2.2.2.2.2.2.2.1.2.le) (Sat.all w) (gc_of hz45 hg43)))) ?_
 refine WR.nil ?_
 refine WH.next (bk_ (Gh.refl _) h02 (.cons_cons _ .slnil)) ?_
 refine hu 61 rfl (bk_ (Gh.refl _) h02 (.cons_cons _ .slnil)) (q_pick rfl rfl (pk_and' (g := (((((((((((decide (1 ≤ m.kind)) && (decide (m.kind ≤ 17))) && z9) && z14) && (decide (0 ≤ m.id))) && (decide (0 ≤ m.n))) && (decide (0 ≤ m.for_))) && (decide (m.for_ ≤ 8))) && (decide (0 ≤ m.code))) && (decide (m.code ≤ 999))) && (decide (((m.key.size : Nat) : Int) ≤ 32)))) (y := z44))) ?_
 refine hu 62 rfl (bk_ (Gh.refl _) h02 (.cons_cons _ .slnil)) (q_move (v := .bool ((((((((((((decide (1 ≤ m.kind)) && (decide (m.kind ≤ 17))) && z9) && z14) && (decide (0 ≤ m.id))) && (decide (0 ≤ m.n))) && (decide (0 ≤ m.for_))) && (decide (m.for_ ≤ 8))) && (decide (0 ≤ m.code))) && (decide (m.code ≤ 999))) && (decide (((m.key.size : Nat) : Int) ≤ 32))) && z44)) rfl (by kernel_rfl)) ?_
 refine hg1 (i := 63) rfl (by kernel_rfl) rfl rfl rfl rfl rfl (bk_ (Gh.refl _) h02 (.cons_cons _ .slnil)) (fun hg46 => (q_fl 11 fld_40_9 rfl rfl rfl)) ?_
 refine hg1 (i := 64) rfl (by kernel_rfl) rfl rfl rfl rfl rfl (bk_ (Gh.refl _) h02 (.cons_cons _ .slnil)) (fun hg47 => (q_ldl (i := 0) (v := .slice Am11 m.vec.length cm11) rfl rfl Tryz.isAgg36 (gu hg47 rfl) rfl)) ?_
 refine (Bool.eq_false_or_eq_true ((((((((((((decide (1 ≤ m.kind)) && (decide (m.kind ≤ 17))) && z9) && z14) && (decide (0 ≤ m.id))) && (decide (0 ≤ m.n))) && (decide (0 ≤ m.for_))) && (decide (m.for_ ≤ 8))) && (decide (0 ≤ m.code))) && (decide (m.code ≤ 999))) && (decide (((m.key.size : Nat) : Int) ≤ 32))) && z44)).elim (fun hb48 => ?_) (fun hb48 => ?_)
 ·
  have h := bt hb48 h
  refine WH.lone (i := 65) (by kernel_rfl) rfl ?_
  refine WR.sat (c0 := true) (g := ((((((((((((decide (1 ≤ m.kind)) && (decide (m.kind ≤ 17))) && z9) && z14) && (decide (0 ≤ m.id))) && (decide (0 ≤ m.n))) && (decide (0 ≤ m.for_))) && (decide (m.for_ ≤ 8))) && (decide (0 ≤ m.code))) && (decide (m.code ≤ 999))) && (decide (((m.key.size : Nat) : Int) ≤ 32))) && z44)) rfl rfl rfl hb48 ?_
  obtain ⟨z49, hz50, h⟩ := bnd h
  refine e_call (is := []) rfl rfl (call_run Tryz.call71 rfl rfl (by kernel_rfl)) rfl (fun w hp => t_code_between_int64 0 (show I64 0 by decide) 4611686018427387904 (show I64 4611686018427387904 by decide) hp hz50) ?_
  rintro Γ51 U53 v54 hl52 ⟨g55, g57, rfl, rfl, hr56, hr58, _⟩
  change WR _ _ _ (CC F Γ51 [[(g55, .cells #[.int .i64 z49.1] 2 (0, 0))], [(g57, .cells #[.int .i64 z49.2] 2 (0, 0))], [(g1, .cells #[.int .i64 m.kind, .int .i64 m.from_.site, .int .i64 m.from_.node, .int .i64 m.to_.site, .int .i64 m.to_.node, .int .i64 m.id, .int .i64 m.n, .int .i64 m.for_, .int .i64 m.code, .string m.key, .slice Am10 m.recs.length cm10, .slice Am11 m.vec.length cm11, .slice Am12 m.path.length cm12, .slice Am13 m.hashes.length cm13, .slice Am14 m.route.length cm14] 40 (0, 0))]]) _ _ (upd _ 68 (.func (.func 112) #[] #[(pq g55), (pq g57)]))
  refine WR.nil ?_
  refine WH.next (bk_ hl52 h02 (.cons _ (.cons _ (.cons_cons _ .slnil)))) ?_
  refine WH.lone (i := 66) (by kernel_rfl) rfl ?_
  refine WR.sat (c0 := true) (g := ((((((((((((decide (1 ≤ m.kind)) && (decide (m.kind ≤ 17))) && z9) && z14) && (decide (0 ≤ m.id))) && (decide (0 ≤ m.n))) && (decide (0 ≤ m.for_))) && (decide (m.for_ ≤ 8))) && (decide (0 ≤ m.code))) && (decide (m.code ≤ 999))) && (decide (((m.key.size : Nat) : Int) ≤ 32))) && z44)) rfl rfl rfl hb48 ?_
  obtain ⟨z59, hz60, h⟩ := bnd h
  refine e_call (is := [0, 0]) rfl rfl (call_run Tryz.call70 rfl rfl (args3 (gu hb48 rfl) rfl rfl)) rfl (fun w hp => t_code_all_int64 (hm.2.2.2.2.2.2.2.2.2.2.2.1.2.mono hl52) hm.2.2.2.2.2.2.2.2.2.2.2.1.1 16 (show I64 16 by decide) z49.1 hr56 z49.2 hr58 hp hz60) ?_
  rintro Γ61 U63 v64 hl62 ⟨rfl, rfl, _⟩
  change WR _ _ _ (CC F Γ61 [[(g55, .cells #[.int .i64 z49.1] 2 (0, 0))], [(g57, .cells #[.int .i64 z49.2] 2 (0, 0))], [(g1, .cells #[.int .i64 m.kind, .int .i64 m.from_.site, .int .i64 m.from_.node, .int .i64 m.to_.site, .int .i64 m.to_.node, .int .i64 m.id, .int .i64 m.n, .int .i64 m.for_, .int .i64 m.code, .string m.key, .slice Am10 m.recs.length cm10, .slice Am11 m.vec.length cm11, .slice Am12 m.path.length cm12, .slice Am13 m.hashes.length cm13, .slice Am14 m.route.length cm14] 40 (0, 0))]]) _ _ (upd _ 69 (.bool z59))
  refine WR.nil ?_
  refine WH.next (bk_ (hl52.trans hl62) h02 (.cons _ (.cons _ (.cons_cons _ .slnil)))) ?_
  refine hu 67 rfl (bk_ (hl52.trans hl62) h02 (.cons _ (.cons _ (.cons_cons _ .slnil)))) (q_pick_t (v := .bool z59) rfl rfl hb48 (by kernel_rfl)) ?_
  refine hu 68 rfl (bk_ (hl52.trans hl62) h02 (.cons _ (.cons _ (.cons_cons _ .slnil)))) (q_move (v := .bool z59) rfl (by kernel_rfl)) ?_
  refine hg1 (i := 69) rfl (by kernel_rfl) rfl rfl rfl rfl rfl (bk_ (hl52.trans hl62) h02 (.cons _ (.cons _ (.cons_cons _ .slnil)))) (fun hg65 => (q_fl 12 fld_40_10 rfl rfl rfl)) ?_
  refine hg1 (i := 70) rfl (by kernel_rfl) rfl rfl rfl rfl rfl (bk_ (hl52.trans hl62) h02 (.cons _ (.cons _ (.cons_cons _ .slnil)))) (fun hg66 => (q_ldl (i := 0) (v := .slice Am12 m.path.length cm12) rfl rfl Tryz.isAgg37 (gu hg66 rfl) rfl)) ?_
  refine (Bool.eq_false_or_eq_true z59).elim (fun hb67 => ?_) (fun hb67 => ?_)
  ·
   have h := bt hb67 h
   refine WH.lone (i := 71) (by kernel_rfl) rfl ?_
   refine WR.sat (c0 := true) (g := z59) rfl rfl rfl hb67 ?_
   obtain ⟨z68, hz69, h⟩ := bnd h
   refine e_call (is := []) rfl rfl (call_run Tryz.call73 rfl rfl (by kernel_rfl)) rfl (fun w hp => t_code_between_int 0 (show I64 0 by decide) 15 (show I64 15 by decide) hp hz69) ?_
   rintro Γ70 U72 v73 hl71 ⟨g74, g76, rfl, rfl, hr75, hr77, _⟩
   change WR _ _ _ (CC F Γ70 [[(g74, .cells #[.int .i64 z68.1] 3 (0, 0))], [(g76, .cells #[.int .i64 z68.2] 3 (0, 0))], [(g55, .cells #[.int .i64 z49.1] 2 (0, 0))], [(g57, .cells #[.int .i64 z49.2] 2 (0, 0))], [(g1, .cells #[.int .i64 m.kind, .int .i64 m.from_.site, .int .i64 m.from_.node, .int .i64 m.to_.site, .int .i64 m.to_.node, .int .i64 m.id, .int .i64 m.n, .int .i64 m.for_, .int .i64 m.code, .string m.key, .slice Am10 m.recs.length cm10, .slice Am11 m.vec.length cm11, .slice Am12 m.path.length cm12, .slice Am13 m.hashes.length cm13, .slice Am14 m.route.length cm14] 40 (0, 0))]]) _ _ (upd _ 74 (.func (.func 113) #[] #[(pq g74), (pq g76)]))
   refine WR.nil ?_
   refine WH.next (bk_ ((hl52.trans hl62).trans hl71) h02 (.cons _ (.cons _ (.cons _ (.cons _ (.cons_cons _ .slnil)))))) ?_
   refine WH.lone (i := 72) (by kernel_rfl) rfl ?_
   refine WR.sat (c0 := true) (g := z59) rfl rfl rfl hb67 ?_
   obtain ⟨z78, hz79, h⟩ := bnd h
   refine e_call (is := [0, 0]) rfl rfl (call_run Tryz.call72 rfl rfl (args3 (gu hb67 rfl) rfl rfl)) rfl (fun w hp => t_code_all_int (hm.2.2.2.2.2.2.2.2.2.2.2.2.1.2.mono ((hl52.trans hl62).trans hl71)) hm.2.2.2.2.2.2.2.2.2.2.2.2.1.1 2 (show I64 2 by decide) z68.1 hr75 z68.2 hr77 hp hz79) ?_
   rintro Γ80 U82 v83 hl81 ⟨rfl, rfl, _⟩
   change WR _ _ _ (CC F Γ80 [[(g74, .cells #[.int .i64 z68.1] 3 (0, 0))], [(g76, .cells #[.int .i64 z68.2] 3 (0, 0))], [(g55, .cells #[.int .i64 z49.1] 2 (0, 0))], [(g57, .cells #[.int .i64 z49.2] 2 (0, 0))], [(g1, .cells #[.int .i64 m.kind, .int .i64 m.from_.site, .int .i64 m.from_.node, .int .i64 m.to_.site, .int .i64 m.to_.node, .int .i64 m.id, .int .i64 m.n, .int .i64 m.for_, .int .i64 m.code, .string m.key, .slice Am10 m.recs.length cm10, .slice Am11 m.vec.length cm11, .slice Am12 m.path.length cm12, .slice Am13 m.hashes.length cm13, .slice Am14 m.route.length cm14] 40 (0, 0))]]) _ _ (upd _ 75 (.bool z78))
   refine WR.nil ?_
   refine WH.next (bk_ (((hl52.trans hl62).trans hl71).trans hl81) h02 (.cons _ (.cons _ (.cons _ (.cons _ (.cons_cons _ .slnil)))))) ?_
   refine hu 73 rfl (bk_ (((hl52.trans hl62).trans hl71).trans hl81) h02 (.cons _ (.cons _ (.cons _ (.cons _ (.cons_cons _ .slnil)))))) (q_pick_t (v := .bool z78) rfl rfl hb67 (by kernel_rfl)) ?_
   refine hu 74 rfl (bk_ (((hl52.trans hl62).trans hl71).trans hl81) h02 (.cons _ (.cons _ (.cons _ (.cons _ (.cons_cons _ .slnil)))))) (q_move (v := .bool z78) rfl (by kernel_rfl)) ?_
   refine hg1 (i := 75) rfl (by kernel_rfl) rfl rfl rfl rfl rfl (bk_ (((hl52.trans hl62).trans hl71).trans hl81) h02 (.cons _ (.cons _ (.cons _ (.cons _ (.cons_cons _ .slnil)))))) (fun hg84 => (q_fl 13 fld_40_11 rfl rfl rfl)) ?_
   refine hg1 (i := 76) rfl (by kernel_rfl) rfl rfl rfl rfl rfl (bk_ (((hl52.trans hl62).trans hl71).trans hl81) h02 (.cons _ (.cons _ (.cons _ (.cons _ (.cons_cons _ .slnil)))))) (fun hg85 => (q_ldl (i := 0) (v := .slice Am13 m.hashes.length cm13) rfl rfl Tryz.isAgg38 (gu hg85 rfl) rfl)) ?_
   refine hg1 (i := 77) rfl (by kernel_rfl) rfl rfl rfl rfl rfl (bk_ (((hl52.trans hl62).trans hl71).trans hl81) h02 (.cons _ (.cons _ (.cons _ (.cons _ (.cons_cons _ .slnil)))))) (fun hg86 => (q_len_slice rfl Tryz.underlying38 (gu hg86 rfl))) ?_
   refine hg1 (i := 78) rfl (by kernel_rfl) rfl rfl rfl rfl rfl (bk_ (((hl52.trans hl62).trans hl71).trans hl81) h02 (.cons _ (.cons _ (.cons _ (.cons _ (.cons_cons _ .slnil)))))) (fun hg87 => (q_leq rfl (gu hg87 rfl) rfl)) ?_
   refine hu 79 rfl (bk_ (((hl52.trans hl62).trans hl71).trans hl81) h02 (.cons _ (.cons _ (.cons _ (.cons _ (.cons_cons _ .slnil)))))) (q_pick rfl rfl (pk_and' (g := z78) (y := (decide (((m.hashes.length : Nat) : Int) ≤ 16))))) ?_
   refine hu 80 rfl (bk_ (((hl52.trans hl62).trans hl71).trans hl81) h02 (.cons _ (.cons _ (.cons _ (.cons _ (.cons_cons _ .slnil)))))) (q_move (v := .bool (z78 && (decide (((m.hashes.length : Nat) : Int) ≤ 16)))) rfl (by kernel_rfl)) ?_
   refine hg1 (i := 81) rfl (by kernel_rfl) rfl rfl rfl rfl rfl (bk_ (((hl52.trans hl62).trans hl71).trans hl81) h02 (.cons _ (.cons _ (.cons _ (.cons _ (.cons_cons _ .slnil)))))) (fun hg88 => (q_fl 14 fld_40_12 rfl rfl rfl)) ?_
   refine hg1 (i := 82) rfl (by kernel_rfl) rfl rfl rfl rfl rfl (bk_ (((hl52.trans hl62).trans hl71).trans hl81) h02 (.cons _ (.cons _ (.cons _ (.cons _ (.cons_cons _ .slnil)))))) (fun hg89 => (q_ldl (i := 0) (v := .slice Am14 m.route.length cm14) rfl rfl Tryz.isAgg37 (gu hg89 rfl) rfl)) ?_
   refine (Bool.eq_false_or_eq_true (z78 && (decide (((m.hashes.length : Nat) : Int) ≤ 16)))).elim (fun hb90 => ?_) (fun hb90 => ?_)
   ·
    have h := bt hb90 h
    refine WH.lone (i := 83) (by kernel_rfl) rfl ?_
    refine WR.sat (c0 := true) (g := (z78 && (decide (((m.hashes.length : Nat) : Int) ≤ 16)))) rfl rfl rfl hb90 ?_
    obtain ⟨z91, hz92, h⟩ := bnd h
    refine e_call (is := []) rfl rfl (call_run Tryz.call73 rfl rfl (by kernel_rfl)) rfl (fun w hp => t_code_between_int 1 (show I64 1 by decide) 16 (show I64 16 by decide) hp hz92) ?_
    rintro Γ93 U95 v96 hl94 ⟨g97, g99, rfl, rfl, hr98, hr100, _⟩
    change WR _ _ _ (CC F Γ93 [[(g97, .cells #[.int .i64 z91.1] 3 (0, 0))], [(g99, .cells #[.int .i64 z91.2] 3 (0, 0))], [(g74, .cells #[.int .i64 z68.1] 3 (0, 0))], [(g76, .cells #[.int .i64 z68.2] 3 (0, 0))], [(g55, .cells #[.int .i64 z49.1] 2 (0, 0))], [(g57, .cells #[.int .i64 z49.2] 2 (0, 0))], [(g1, .cells #[.int .i64 m.kind, .int .i64 m.from_.site, .int .i64 m.from_.node, .int .i64 m.to_.site, .int .i64 m.to_.node, .int .i64 m.id, .int .i64 m.n, .int .i64 m.for_, .int .i64 m.code, .string m.key, .slice Am10 m.recs.length cm10, .slice Am11 m.vec.length cm11, .slice Am12 m.path.length cm12, .slice Am13 m.hashes.length cm13, .slice Am14 m.route.length cm14] 40 (0, 0))]]) _ _ (upd _ 86 (.func (.func 113) #[] #[(pq g97), (pq g99)]))
    refine WR.nil ?_
    refine WH.next (bk_ ((((hl52.trans hl62).trans hl71).trans hl81).trans hl94) h02 (.cons _ (.cons _ (.cons _ (.cons _ (.cons _ (.cons _ (.cons_cons _ .slnil)))))))) ?_
    refine WH.lone (i := 84) (by kernel_rfl) rfl ?_
    refine WR.sat (c0 := true) (g := (z78 && (decide (((m.hashes.length : Nat) : Int) ≤ 16)))) rfl rfl rfl hb90 ?_
    obtain ⟨z101, hz102, h⟩ := bnd h
    refine e_call (is := [0, 0]) rfl rfl (call_run Tryz.call72 rfl rfl (args3 (gu hb90 rfl) rfl rfl)) rfl (fun w hp => t_code_all_int (hm.2.2.2.2.2.2.2.2.2.2.2.2.2.2.2.mono ((((hl52.trans hl62).trans hl71).trans hl81).trans hl94)) hm.2.2.2.2.2.2.2.2.2.2.2.2.2.2.1 16 (show I64 16 by decide) z91.1 hr98 z91.2 hr100 hp hz102) ?_
    rintro Γ103 U105 v106 hl104 ⟨rfl, rfl, _⟩
    change WR _ _ _ (CC F Γ103 [[(g97, .cells #[.int .i64 z91.1] 3 (0, 0))], [(g99, .cells #[.int .i64 z91.2] 3 (0, 0))], [(g74, .cells #[.int .i64 z68.1] 3 (0, 0))], [(g76, .cells #[.int .i64 z68.2] 3 (0, 0))], [(g55, .cells #[.int .i64 z49.1] 2 (0, 0))], [(g57, .cells #[.int .i64 z49.2] 2 (0, 0))], [(g1, .cells #[.int .i64 m.kind, .int .i64 m.from_.site, .int .i64 m.from_.node, .int .i64 m.to_.site, .int .i64 m.to_.node, .int .i64 m.id, .int .i64 m.n, .int .i64 m.for_, .int .i64 m.code, .string m.key, .slice Am10 m.recs.length cm10, .slice Am11 m.vec.length cm11, .slice Am12 m.path.length cm12, .slice Am13 m.hashes.length cm13, .slice Am14 m.route.length cm14] 40 (0, 0))]]) _ _ (upd _ 87 (.bool z101))
    refine WR.nil ?_
    refine WH.next (bk_ (((((hl52.trans hl62).trans hl71).trans hl81).trans hl94).trans hl104) h02 (.cons _ (.cons _ (.cons _ (.cons _ (.cons _ (.cons _ (.cons_cons _ .slnil)))))))) ?_
    refine hu 85 rfl (bk_ (((((hl52.trans hl62).trans hl71).trans hl81).trans hl94).trans hl104) h02 (.cons _ (.cons _ (.cons _ (.cons _ (.cons _ (.cons _ (.cons_cons _ .slnil)))))))) (q_pick_t (v := .bool z101) rfl rfl hb90 (by kernel_rfl)) ?_
    refine hu 86 rfl (bk_ (((((hl52.trans hl62).trans hl71).trans hl81).trans hl94).trans hl104) h02 (.cons _ (.cons _ (.cons _ (.cons _ (.cons _ (.cons _ (.cons_cons _ .slnil)))))))) (q_assign (v := .bool z101) rfl (by kernel_rfl)) ?_
    refine WH.done (by kernel_rfl) ?_
    change WC _ _ _ _ _ _
    refine WC.ret ?_
    intro w hw
    obtain rfl := Option.some.inj h
    subst hF
    exact ⟨by kernel_rfl, hw.fr⟩
   ·
    have h := bf hb90 h
    refine hg1 (g := (z78 && (decide (((m.hashes.length : Nat) : Int) ≤ 16)))) (i := 83) (v := undef) rfl (by kernel_rfl) rfl rfl rfl rfl rfl (bk_ (((hl52.trans hl62).trans hl71).trans hl81) h02 (.cons _ (.cons _ (.cons _ (.cons _ (.cons_cons _ .slnil)))))) (no_tf hb90) ?_
    refine WH.env (v := undef) (gv_false hb90) ?_
    refine hg1 (g := (z78 && (decide (((m.hashes.length : Nat) : Int) ≤ 16)))) (i := 84) (v := undef) rfl (by kernel_rfl) rfl rfl rfl rfl rfl (bk_ (((hl52.trans hl62).trans hl71).trans hl81) h02 (.cons _ (.cons _ (.cons _ (.cons _ (.cons_cons _ .slnil)))))) (no_tf hb90) ?_
    refine WH.env (v := undef) (gv_false hb90) ?_
    refine hu 85 rfl (bk_ (((hl52.trans hl62).trans hl71).trans hl81) h02 (.cons _ (.cons _ (.cons _ (.cons _ (.cons_cons _ .slnil)))))) (q_pick_f (v := .bool false) rfl rfl hb90 (by kernel_rfl)) ?_
    refine hu 86 rfl (bk_ (((hl52.trans hl62).trans hl71).trans hl81) h02 (.cons _ (.cons _ (.cons _ (.cons _ (.cons_cons _ .slnil)))))) (q_assign (v := .bool false) rfl (by kernel_rfl)) ?_
    refine WH.done (by kernel_rfl) ?_
    change WC _ _ _ _ _ _
    refine WC.ret ?_
    intro w hw
    obtain rfl := Option.some.inj h
    subst hF
    exact ⟨by kernel_rfl, hw.fr⟩
  ·
   have h := bf hb67 h
   refine hg1 (g := z59) (i := 71) (v := undef) rfl (by kernel_rfl) rfl rfl rfl rfl rfl (bk_ (hl52.trans hl62) h02 (.cons _ (.cons _ (.cons_cons _ .slnil)))) (no_tf hb67) ?_
   refine WH.env (v := undef) (gv_false hb67) ?_
   refine hg1 (g := z59) (i := 72) (v := undef) rfl (by kernel_rfl) rfl rfl rfl rfl rfl (bk_ (hl52.trans hl62) h02 (.cons _ (.cons _ (.cons_cons _ .slnil)))) (no_tf hb67) ?_
   refine WH.env (v := undef) (gv_false hb67) ?_
   refine hu 73 rfl (bk_ (hl52.trans hl62) h02 (.cons _ (.cons _ (.cons_cons _ .slnil)))) (q_pick_f (v := .bool false) rfl rfl hb67 (by kernel_rfl)) ?_
   refine hu 74 rfl (bk_ (hl52.trans hl62) h02 (.cons _ (.cons _ (.cons_cons _ .slnil)))) (q_move (v := .bool false) rfl (by kernel_rfl)) ?_
   refine hg1 (g := false) (i := 75) (v := undef) rfl (by kernel_rfl) rfl rfl rfl rfl rfl (bk_ (hl52.trans hl62) h02 (.cons _ (.cons _ (.cons_cons _ .slnil)))) (no_tf rfl) ?_
   refine WH.env (v := undef) (gv_false rfl) ?_
   refine hg1 (g := false) (i := 76) (v := undef) rfl (by kernel_rfl) rfl rfl rfl rfl rfl (bk_ (hl52.trans hl62) h02 (.cons _ (.cons _ (.cons_cons _ .slnil)))) (no_tf rfl) ?_
   refine WH.env (v := undef) (gv_false rfl) ?_
   refine hg1 (g := false) (i := 77) (v := undef) rfl (by kernel_rfl) rfl rfl rfl rfl rfl (bk_ (hl52.trans hl62) h02 (.cons _ (.cons _ (.cons_cons _ .slnil)))) (no_tf rfl) ?_
   refine WH.env (v := undef) (gv_false rfl) ?_
   refine hg1 (g := false) (i := 78) (v := undef) rfl (by kernel_rfl) rfl rfl rfl rfl rfl (bk_ (hl52.trans hl62) h02 (.cons _ (.cons _ (.cons_cons _ .slnil)))) (no_tf rfl) ?_
   refine WH.env (v := undef) (gv_false rfl) ?_
   refine hu 79 rfl (bk_ (hl52.trans hl62) h02 (.cons _ (.cons _ (.cons_cons _ .slnil)))) (q_pickf (v := .bool false) rfl rfl rfl) ?_
   refine hu 80 rfl (bk_ (hl52.trans hl62) h02 (.cons _ (.cons _ (.cons_cons _ .slnil)))) (q_move (v := .bool false) rfl (by kernel_rfl)) ?_
   refine hg1 (g := false) (i := 81) (v := undef) rfl (by kernel_rfl) rfl rfl rfl rfl rfl (bk_ (hl52.trans hl62) h02 (.cons _ (.cons _ (.cons_cons _ .slnil)))) (no_tf rfl) ?_
   refine WH.env (v := undef) (gv_false rfl) ?_
   refine hg1 (g := false) (i := 82) (v := undef) rfl (by kernel_rfl) rfl rfl rfl rfl rfl (bk_ (hl52.trans hl62) h02 (.cons _ (.cons _ (.cons_cons _ .slnil)))) (no_tf rfl) ?_
   refine WH.env (v := undef) (gv_false rfl) ?_
   refine hg1 (g := false) (i := 83) (v := undef) rfl (by kernel_rfl) rfl rfl rfl rfl rfl (bk_ (hl52.trans hl62) h02 (.cons _ (.cons _ (.cons_cons _ .slnil)))) (no_tf rfl) ?_
   refine WH.env (v := undef) (gv_false rfl) ?_
   refine hg1 (g := false) (i := 84) (v := undef) rfl (by kernel_rfl) rfl rfl rfl rfl rfl (bk_ (hl52.trans hl62) h02 (.cons _ (.cons _ (.cons_cons _ .slnil)))) (no_tf rfl) ?_
   refine WH.env (v := undef) (gv_false rfl) ?_
   refine hu 85 rfl (bk_ (hl52.trans hl62) h02 (.cons _ (.cons _ (.cons_cons _ .slnil)))) (q_pickf (v := .bool false) rfl rfl rfl) ?_
   refine hu 86 rfl (bk_ (hl52.trans hl62) h02 (.cons _ (.cons _ (.cons_cons _ .slnil)))) (q_assign (v := .bool false) rfl (by kernel_rfl)) ?_
   refine WH.done (by kernel_rfl) ?_
   change WC _ _ _ _ _ _
   refine WC.ret ?_
   intro w hw
   obtain rfl := Option.some.inj h
   subst hF
   exact ⟨by kernel_rfl, hw.fr⟩
 ·
  have h := bf hb48 h
  refine hg1 (g := ((((((((((((decide (1 ≤ m.kind)) && (decide (m.kind ≤ 17))) && z9) && z14) && (decide (0 ≤ m.id))) && (decide (0 ≤ m.n))) && (decide (0 ≤ m.for_))) && (decide (m.for_ ≤ 8))) && (decide (0 ≤ m.code))) && (decide (m.code ≤ 999))) && (decide (((m.key.size : Nat) : Int) ≤ 32))) && z44)) (i := 65) (v := undef) rfl (by kernel_rfl) rfl rfl rfl rfl rfl (bk_ (Gh.refl _) h02 (.cons_cons _ .slnil)) (no_tf hb48) ?_
  refine WH.env (v := undef) (gv_false hb48) ?_
  refine hg1 (g := ((((((((((((decide (1 ≤ m.kind)) && (decide (m.kind ≤ 17))) && z9) && z14) && (decide (0 ≤ m.id))) && (decide (0 ≤ m.n))) && (decide (0 ≤ m.for_))) && (decide (m.for_ ≤ 8))) && (decide (0 ≤ m.code))) && (decide (m.code ≤ 999))) && (decide (((m.key.size : Nat) : Int) ≤ 32))) && z44)) (i := 66) (v := undef) rfl (by kernel_rfl) rfl rfl rfl rfl rfl (bk_ (Gh.refl _) h02 (.cons_cons _ .slnil)) (no_tf hb48) ?_
  refine WH.env (v := undef) (gv_false hb48) ?_
  refine hu 67 rfl (bk_ (Gh.refl _) h02 (.cons_cons _ .slnil)) (q_pick_f (v := .bool false) rfl rfl hb48 (by kernel_rfl)) ?_
  refine hu 68 rfl (bk_ (Gh.refl _) h02 (.cons_cons _ .slnil)) (q_move (v := .bool false) rfl (by kernel_rfl)) ?_
  refine hg1 (g := false) (i := 69) (v := undef) rfl (by kernel_rfl) rfl rfl rfl rfl rfl (bk_ (Gh.refl _) h02 (.cons_cons _ .slnil)) (no_tf rfl) ?_
  refine WH.env (v := undef) (gv_false rfl) ?_
  refine hg1 (g := false) (i := 70) (v := undef) rfl (by kernel_rfl) rfl rfl rfl rfl rfl (bk_ (Gh.refl _) h02 (.cons_cons _ .slnil)) (no_tf rfl) ?_
  refine WH.env (v := undef) (gv_false rfl) ?_
  refine hg1 (g := false) (i := 71) (v := undef) rfl (by kernel_rfl) rfl rfl rfl rfl rfl (bk_ (Gh.refl _) h02 (.cons_cons _ .slnil)) (no_tf rfl) ?_
  refine WH.env (v := undef) (gv_false rfl) ?_
  refine hg1 (g := false) (i := 72) (v := undef) rfl (by kernel_rfl) rfl rfl rfl rfl rfl (bk_ (Gh.refl _) h02 (.cons_cons _ .slnil)) (no_tf rfl) ?_
  refine WH.env (v := undef) (gv_false rfl) ?_
  refine hu 73 rfl (bk_ (Gh.refl _) h02 (.cons_cons _ .slnil)) (q_pickf (v := .bool false) rfl rfl rfl) ?_
  refine hu 74 rfl (bk_ (Gh.refl _) h02 (.cons_cons _ .slnil)) (q_move (v := .bool false) rfl (by kernel_rfl)) ?_
  refine hg1 (g := false) (i := 75) (v := undef) rfl (by kernel_rfl) rfl rfl rfl rfl rfl (bk_ (Gh.refl _) h02 (.cons_cons _ .slnil)) (no_tf rfl) ?_
  refine WH.env (v := undef) (gv_false rfl) ?_
  refine hg1 (g := false) (i := 76) (v := undef) rfl (by kernel_rfl) rfl rfl rfl rfl rfl (bk_ (Gh.refl _) h02 (.cons_cons _ .slnil)) (no_tf rfl) ?_
  refine WH.env (v := undef) (gv_false rfl) ?_
  refine hg1 (g := false) (i := 77) (v := undef) rfl (by kernel_rfl) rfl rfl rfl rfl rfl (bk_ (Gh.refl _) h02 (.cons_cons _ .slnil)) (no_tf rfl) ?_
  refine WH.env (v := undef) (gv_false rfl) ?_
  refine hg1 (g := false) (i := 78) (v := undef) rfl (by kernel_rfl) rfl rfl rfl rfl rfl (bk_ (Gh.refl _) h02 (.cons_cons _ .slnil)) (no_tf rfl) ?_
  refine WH.env (v := undef) (gv_false rfl) ?_
  refine hu 79 rfl (bk_ (Gh.refl _) h02 (.cons_cons _ .slnil)) (q_pickf (v := .bool false) rfl rfl rfl) ?_
  refine hu 80 rfl (bk_ (Gh.refl _) h02 (.cons_cons _ .slnil)) (q_move (v := .bool false) rfl (by kernel_rfl)) ?_
  refine hg1 (g := false) (i := 81) (v := undef) rfl (by kernel_rfl) rfl rfl rfl rfl rfl (bk_ (Gh.refl _) h02 (.cons_cons _ .slnil)) (no_tf rfl) ?_
  refine WH.env (v := undef) (gv_false rfl) ?_
  refine hg1 (g := false) (i := 82) (v := undef) rfl (by kernel_rfl) rfl rfl rfl rfl rfl (bk_ (Gh.refl _) h02 (.cons_cons _ .slnil)) (no_tf rfl) ?_
  refine WH.env (v := undef) (gv_false rfl) ?_
  refine hg1 (g := false) (i := 83) (v := undef) rfl (by kernel_rfl) rfl rfl rfl rfl rfl (bk_ (Gh.refl _) h02 (.cons_cons _ .slnil)) (no_tf rfl) ?_
  refine WH.env (v := undef) (gv_false rfl) ?_
  refine hg1 (g := false) (i := 84) (v := undef) rfl (by kernel_rfl) rfl rfl rfl rfl rfl (bk_ (Gh.refl _) h02 (.cons_cons _ .slnil)) (no_tf rfl) ?_
  refine WH.env (v := undef) (gv_false rfl) ?_
  refine hu 85 rfl (bk_ (Gh.refl _) h02 (.cons_cons _ .slnil)) (q_pickf (v := .bool false) rfl rfl rfl) ?_
  refine hu 86 rfl (bk_ (Gh.refl _) h02 (.cons_cons _ .slnil)) (q_assign (v := .bool false) rfl (by kernel_rfl)) ?_
  refine WH.done (by kernel_rfl) ?_
  change WC _ _ _ _ _ _
  refine WC.ret ?_
  intro w hw
  obtain rfl := Option.some.inj h
  subst hF
  exact ⟨by kernel_rfl, hw.fr⟩
abbrev r_store_Store_Get (gs_ : Nat) (es_ : Nat × Nat) (rows_ : Rowb) (r : List Ver) (U : List Rowb) (Γ : Gh) (v : Value) : Prop := ∃ (A0 : Option Addr), ∃ (c0 : Nat), v = .slice A0 r.length c0 ∧ U = [rows_] ∧ r.length ≤ c0 ∧ Sl verT Γ A0 r ∧ True
theorem t_store_Store_Get {Γ : Gh} {w0 : World} {gs_ : Nat} {es_ : Nat × Nat} {rows_ : Rowb} {s_ : Ostore_Store} (hs_ : Ostore_Store.ob es_ Γ gs_ rows_ s_) (key : ByteArray) (hkey : key.size ≤ lim) (hp : Pre [rows_] Γ w0) {r : List Ver} (h : m_store_Store_Get s_ key = some r) : Calls Tryz.prog 58 #[(pq gs_), .string key] w0 (Outc Γ [rows_] w0 (r_store_Store_Get gs_ es_ rows_ r)) := by
 refine calls_of (N := 19) (rs := [4]) (args := [(pq gs_), .string key]) Tryz.func58 rfl Tryz.ntmps58 Tryz.results58 rfl ?_
 obtain ⟨F, hF⟩ : ∃ F : Fm, F = ⟨ids [rows_], w0, Γ⟩ := ⟨_, rfl⟩
 refine WC.here (C := CC F Γ [rows_]) ?_ (hF ▸ hp.start)
 refine WC.rs ?_
 refine as_ (v := .slice none 0 0) ?_
 refine WR.done ?_
 refine WC.rs ?_
 refine mv (v := (pq gs_)) ?_
 refine vb (q_nil (A := some ⟨gs_, 0, none⟩) rfl rfl rfl) ?_
 refine vb (q_fl 1 fld_107_1 rfl rfl rfl) ?_
 have hq := hs_
 obtain ⟨g0_1, r0_1, m1_1, r1_1, hrow_1, ho0_1, ho1_1, -⟩ := hq
 intro w hw; have hw := hw.unfold (i := 0) rfl hrow_1
 refine WR.here (C := CC F Γ [[(gs_, .cells #[(pq g0_1), .map (some m1_1)] es_.1 (0, 0))], r0_1, r1_1]) ?_ hw
 clear hw
 refine vb (q_ldl (i := 0) (v := .map (some m1_1)) rfl rfl Tryz.isAgg63 rfl rfl) ?_
 refine mv (v := .string key) ?_
 obtain ⟨v2, ⟨A5, c6, hv3, hc7, hs8⟩, hat4⟩ := MapO.look ho1_1 key (z := .slice none 0 0) (zx := []) ⟨none, 0, rfl, Nat.zero_le _, Sl.nil _ _ _⟩
 obtain rfl : v2 = _ := List.cons.inj hv3 |>.1
 refine vb (q_lookup1 (v := .slice A5 ((mget key s_.keys).getD []).length c6) hat4 rfl Tryz.underlying63 Tryz.zeroValue77 rfl rfl (i := 2) rfl) ?_
 obtain ⟨z9, hz10, h⟩ := bnd h
 refine e_call (is := []) rfl rfl (call_run Tryz.call54 rfl rfl (by kernel_rfl)) rfl (fun w hp => t_code_Rec hs8 hc7 hp hz10) ?_
 rintro Γ11 U13 v14 hl12 ⟨A15, c16, rfl, rfl, hr17, hr18, _⟩
 change WR _ _ _ (CC F Γ11 [[(gs_, .cells #[(pq g0_1), .map (some m1_1)] es_.1 (0, 0))], r0_1, r1_1]) _ _ (upd _ 14 (.tuple #[.agg #[.string z9.1.key, .slice A15 z9.1.vers.length c16], .int .i64 z9.2]))
 refine mv (v := .tuple #[.agg #[.string z9.1.key, .slice A15 z9.1.vers.length c16], .int .i64 z9.2]) ?_
 refine vb (q_extract (v := .agg #[.string z9.1.key, .slice A15 z9.1.vers.length c16]) rfl rfl rfl) ?_
 refine vb (q_extract (v := .int .i64 z9.2) rfl rfl rfl) ?_
 refine e_alloc Tryz.zeroValue45 rfl rfl rfl rfl ?_
 intro g19
 refine e_st (i := 0) (v := .agg #[.string z9.1.key, .slice A15 z9.1.vers.length c16]) (new := #[.string z9.1.key, .slice A15 z9.1.vers.length c16]) rfl Tryz.sizeOf45 rfl rfl rfl rfl (by kernel_rfl) rfl rfl rfl rfl ?_
 refine as_ (v := .int .i64 z9.2) ?_
 refine WR.done ?_
 refine WC.rs ?_
 refine vb (q_fl 1 fld_45_1 rfl rfl rfl) ?_
 refine vb (q_ldl (i := 0) (v := .slice A15 z9.1.vers.length c16) rfl rfl Tryz.isAgg43 rfl rfl) ?_
 refine as_ (v := .slice A15 z9.1.vers.length c16) ?_
 refine WR.done ?_
 refine WC.ret ?_
 intro w hw
 have hw := hw.fold (is := [1, 1, 1]) rfl hrow_1
 obtain rfl := Option.some.inj h
 subst hF
 exact end_e (is := [0]) (by kernel_rfl) hw rfl ⟨A15, c16, rfl, rfl, hr17.2.1, hr17.2.2, trivial⟩
abbrev r_vers_clone_api_Span (r : List Span) (U : List Rowb) (Γ : Gh) (v : Value) : Prop := ∃ (A0 : Option Addr), ∃ (c0 : Nat), ∃ (row0 : Rowb), v = .slice A0 r.length c0 ∧ U = [row0] ∧ Own spanT Γ 93 row0 A0 c0 r ∧ True
theorem t_vers_clone_api_Span {Γ : Gh} {w0 : World} {Al : Option Addr} {cl : Nat} {l : List Span} (hl : Sl spanT Γ Al l) (hlc : l.length ≤ cl) (hp : Pre [] Γ w0) {r : List Span} (h : m_vers_clone_api_Span l = some r) : Calls Tryz.prog 131 #[.slice Al l.length cl] w0 (Outc Γ [] w0 (r_vers_clone_api_Span r)) := by
 refine calls_of (N := 5) (rs := [2]) (args := [.slice Al l.length cl]) Tryz.func131 rfl Tryz.ntmps131 Tryz.results131 rfl ?_
 obtain ⟨F, hF⟩ : ∃ F : Fm, F = ⟨ids [], w0, Γ⟩ := ⟨_, rfl⟩
 refine WC.here (C := CC F Γ []) ?_ (hF ▸ hp.start)
 refine WC.rs ?_
 refine as_ (v := .slice none 0 0) ?_
 refine WR.done ?_
 refine WC.rs ?_
 refine mv (v := .slice Al l.length cl) ?_
 refine WR.sub (fun w hw => hw.pad) ?_
 obtain ⟨hk1, h⟩ := chk_some h
 refine e_append (T := spanT) (xs := []) (ys := l) elem_87 (i := 0) rfl rfl rfl rfl (by kernel_rfl) rfl rfl (Own.nil spanT Γ 93) (of_decide_eq_true hk1) (fun w hw => src_sl hl hw) ?_
 intro row2 A3 c4 ho5
 refine as_ (v := .slice A3 l.length c4) ?_
 refine WR.done ?_
 refine WC.ret ?_
 intro w hw
 obtain rfl := Option.some.inj h
 subst hF
 exact end_e (is := [0]) (by kernel_rfl) hw rfl ⟨A3, c4, row2, rfl, rfl, ho5, trivial⟩
abbrev r_vers_Merge_1 (gb0 : Nat) (Ab0v : Option Addr) (cb0v : Nat) (b0v : List Ver) (gb1 : Nat) (Ab1v : Option Addr) (cb1v : Nat) (b1v : List Ver) (gb2 : Nat) (Ab2v : Option Addr) (cb2v : Nat) (b2v : List Ver) (rowb2v : Rowb) (r : List Ver) (U : List Rowb) (Γ : Gh) (v : Value) : Prop := ∃ (Ab2_0 : Option Addr), ∃ (cb2_0 : Nat), ∃ (rowb2_0 : Rowb), v = .tuple #[] ∧ U = [[(gb0, .cells #[.slice Ab0v b0v.length cb0v] 43 (0, 0))], [(gb1, .cells #[.slice Ab1v b1v.length cb1v] 43 (0, 0))], [(gb2, .cells #[.slice Ab2_0 r.length cb2_0] 43 (0, 0))], rowb2_0] ∧ Own verT Γ 89 rowb2_0 Ab2_0 cb2_0 r ∧ True
theorem t_vers_Merge_1 {Γ : Gh} {w0 : World} {Av_2 : Option Addr} {cv_2 : Nat} (v_ : Ver) (hv_ : Ver.fits Γ Av_2 cv_2 v_) {gb0 : Nat} {Ab0v : Option Addr} {cb0v : Nat} {b0v : List Ver} (hb0v : Sl verT Γ Ab0v b0v) (hb0vc : b0v.length ≤ cb0v) {gb1 : Nat} {Ab1v : Option Addr} {cb1v : Nat} {b1v : List Ver} (hb1v : Sl verT Γ Ab1v b1v) (hb1vc : b1v.length ≤ cb1v) {gb2 : Nat} {Ab2v : Option Addr} {cb2v : Nat} {rowb2v : Rowb} {b2v : List Ver} (hb2v : Own verT Γ 89 rowb2v Ab2v cb2v b2v) (hp : Pre [[(gb0, .cells #[.slice Ab0v b0v.length cb0v] 43 (0, 0))], [(gb1, .cells #[.slice Ab1v b1v.length cb1v] 43 (0, 0))], [(gb2, .cells #[.slice Ab2v b2v.length cb2v] 43 (0, 0))], rowb2v] Γ w0) {r : List Ver} (h : m_vers_Merge_1 v_ b0v b1v b2v = some r) : Calls Tryz.prog 129 #[.agg #[.int .i64 v_.dot.s, .int .i64 v_.dot.n, .slice Av_2 v_.past.length cv_2, .bool v_.gone, .string v_.val], (pq gb0), (pq gb1), (pq gb2)] w0 (Outc Γ [[(gb0, .cells #[.slice Ab0v b0v.length cb0v] 43 (0, 0))], [(gb1, .cells #[.slice Ab1v b1v.length cb1v] 43 (0, 0))], [(gb2, .cells #[.slice Ab2v b2v.length cb2v] 43 (0, 0))], rowb2v] w0 (r_vers_Merge_1 gb0 Ab0v cb0v b0v gb1 Ab1v cb1v b1v gb2 Ab2v cb2v b2v rowb2v r)) := by
 refine calls_of (N := 25) (rs := []) (args := [.agg #[.int .i64 v_.dot.s, .int .i64 v_.dot.n, .slice Av_2 v_.past.length cv_2, .bool v_.gone, .string v_.val], (pq gb0), (pq gb1), (pq gb2)]) Tryz.func129 rfl Tryz.ntmps129 Tryz.results129 rfl ?_
 obtain ⟨F, hF⟩ : ∃ F : Fm, F = ⟨ids [[(gb0, .cells #[.slice Ab0v b0v.length cb0v] 43 (0, 0))], [(gb1, .cells #[.slice Ab1v b1v.length cb1v] 43 (0, 0))], [(gb2, .cells #[.slice Ab2v b2v.length cb2v] 43 (0, 0))], rowb2v], w0, Γ⟩ := ⟨_, rfl⟩
 refine WC.here (C := CC F Γ [[(gb0, .cells #[.slice Ab0v b0v.length cb0v] 43 (0, 0))], [(gb1, .cells #[.slice Ab1v b1v.length cb1v] 43 (0, 0))], [(gb2, .cells #[.slice Ab2v b2v.length cb2v] 43 (0, 0))], rowb2v]) ?_ (hF ▸ hp.start)
 refine WC.rs ?_
 refine e_box (v := .agg #[.int .i64 v_.dot.s, .int .i64 v_.dot.n, .slice Av_2 v_.past.length cv_2, .bool v_.gone, .string v_.val]) rfl rfl rfl rfl (by kernel_rfl) ?_
 intro g1
 refine WR.done ?_
 refine WC.rs ?_
 refine vb (q_fl 0 fld_89_0 rfl rfl rfl) ?_
 refine vb (q_ldla (i := 0) (vs := [.int .i64 v_.dot.s, .int .i64 v_.dot.n]) rfl rfl Tryz.isAgg86 Tryz.sizeOf86 rfl rfl) ?_
 refine vb (q_ldl (i := 1) (v := .slice Ab0v b0v.length cb0v) rfl rfl Tryz.isAgg43 rfl rfl) ?_
 obtain ⟨z2, hz3, h⟩ := bnd h
 refine vc rfl rfl rfl (q_call (call_run Tryz.call130 rfl rfl (by kernel_rfl)) (fun w hw => t_vers_behind (Γ := Gh.all w) v_.dot ⟨hv_.1, hv_.2.1⟩ (hb0v.mono hw.sat.le_all) hb0vc (Sat.all w) hz3)) ?_
 refine vb (q_not rfl rfl) ?_
 refine mv (v := .bool (!z2)) ?_
 refine vg1 rfl rfl rfl rfl rfl (fun hg4 => QV.qo (q_fl 0 fld_89_0 rfl rfl rfl)) ?_
 refine vg1 rfl rfl rfl rfl rfl (fun hg5 => QV.qo (q_ldla (i := 0) (vs := [.int .i64 v_.dot.s, .int .i64 v_.dot.n]) rfl rfl Tryz.isAgg86 Tryz.sizeOf86 (gu hg5 rfl) rfl)) ?_
 refine vg1 rfl rfl rfl rfl rfl (fun hg6 => QV.qo (q_ldl (i := 2) (v := .slice Ab1v b1v.length cb1v) rfl rfl Tryz.isAgg43 rfl rfl)) ?_
 obtain ⟨z8, hz9, h⟩ := bnd h
 refine vg1 rfl rfl rfl rfl rfl (fun hg7 => (q_call (call_run Tryz.call130 rfl rfl (args2 (gu hg7 rfl) (gu hg7 rfl))) (fun w hw => t_vers_behind (Γ := Gh.all w) v_.dot ⟨hv_.1, hv_.2.1⟩ (hb1v.mono hw.sat.le_all) hb1vc (Sat.all w) (gc_of hz9 hg7)))) ?_
 refine vg1 rfl rfl rfl rfl rfl (fun hg10 => QV.qo (q_not rfl (gu hg10 rfl))) ?_
 refine vb (q_pick rfl rfl (pk_and' (g := (!z2)) (y := (!z8)))) ?_
 refine WR.done ?_
 refine WC.cif h (by kernel_rfl) (fun hb11 h => ?_) (fun hb11 h => ?_)
 ·
  refine WC.rs ?_
  refine vb (q_fl 2 fld_89_1 rfl rfl rfl) ?_
  refine vb (q_ldl (i := 0) (v := .slice Av_2 v_.past.length cv_2) rfl rfl Tryz.isAgg87 rfl rfl) ?_
  obtain ⟨z12, hz13, h⟩ := bnd h
  refine e_call (is := []) rfl rfl (call_run Tryz.call131 rfl rfl (by kernel_rfl)) rfl (fun w hp => t_vers_clone_api_Span hv_.2.2.1.2 hv_.2.2.1.1 hp hz13) ?_
  rintro Γ14 U16 v17 hl15 ⟨A18, c19, row20, rfl, rfl, hr21, _⟩
  change WR _ _ _ (CC F Γ14 [row20, [(g1, .cells #[.int .i64 v_.dot.s, .int .i64 v_.dot.n, .slice Av_2 v_.past.length cv_2, .bool v_.gone, .string v_.val] 89 (0, 0))], [(gb0, .cells #[.slice Ab0v b0v.length cb0v] 43 (0, 0))], [(gb1, .cells #[.slice Ab1v b1v.length cb1v] 43 (0, 0))], [(gb2, .cells #[.slice Ab2v b2v.length cb2v] 43 (0, 0))], rowb2v]) _ _ (upd _ 19 (.slice A18 z12.length c19))
  refine vb (q_fl 2 fld_89_1 rfl rfl rfl) ?_
  refine e_st (i := 1) (v := .slice A18 z12.length c19) (new := #[.int .i64 v_.dot.s, .int .i64 v_.dot.n, .slice A18 z12.length c19, .bool v_.gone, .string v_.val]) rfl Tryz.sizeOf87 rfl rfl rfl rfl (by kernel_rfl) rfl rfl rfl rfl ?_
  refine WR.done ?_
  refine WC.region ?_
  refine vb (q_ldl (i := 4) (v := .slice Ab2v b2v.length cb2v) rfl rfl Tryz.isAgg43 rfl rfl) ?_
  refine vb (q_ldla (i := 1) (vs := [.int .i64 v_.dot.s, .int .i64 v_.dot.n, .slice A18 z12.length c19, .bool v_.gone, .string v_.val]) rfl rfl Tryz.isAgg89 Tryz.sizeOf89 rfl rfl) ?_
  have hc26 := hr21.capz
  intro w hw; obtain ⟨Γ22, hw, hl23, hr24⟩ := hw.seal (i := 0) rfl; have hs25 := hr21.sl hl23 hr24
  refine WR.here (C := CC F Γ22 [[], [(g1, .cells #[.int .i64 v_.dot.s, .int .i64 v_.dot.n, .slice A18 z12.length c19, .bool v_.gone, .string v_.val] 89 (0, 0))], [(gb0, .cells #[.slice Ab0v b0v.length cb0v] 43 (0, 0))], [(gb1, .cells #[.slice Ab1v b1v.length cb1v] 43 (0, 0))], [(gb2, .cells #[.slice Ab2v b2v.length cb2v] 43 (0, 0))], rowb2v]) ?_ hw
  clear hw
  refine e_buildSlice (cs := #[.int .i64 v_.dot.s, .int .i64 v_.dot.n, .slice A18 z12.length c19, .bool v_.gone, .string v_.val]) (e := 89) rfl rfl rfl rfl (fun w => by kernel_rfl) ?_
  intro g27
  obtain ⟨hk28, h⟩ := chk_some h
  refine e_append (T := verT) (xs := b2v) (ys := [(⟨(⟨v_.dot.s, v_.dot.n⟩ : Dot), z12, v_.gone, v_.val⟩ : Ver)]) elem_43 (i := 6) rfl rfl rfl rfl rfl rfl rfl (hb2v.mono (hl15.trans hl23)) (of_decide_eq_true hk28) (fun w hw => src_one (T := verT) (y := (⟨(⟨v_.dot.s, v_.dot.n⟩ : Dot), z12, v_.gone, v_.val⟩ : Ver)) (i := 0) rfl (by exact ⟨A18, c19, rfl, ⟨hv_.1, hv_.2.1, ⟨hc26, hs25⟩, hv_.2.2.2⟩⟩) hw) ?_
  intro row29 A30 c31 ho32
  refine e_st (i := 5) (v := .slice A30 (b2v ++ [(⟨(⟨v_.dot.s, v_.dot.n⟩ : Dot), z12, v_.gone, v_.val⟩ : Ver)]).length c31) (new := #[.slice A30 (b2v ++ [(⟨(⟨v_.dot.s, v_.dot.n⟩ : Dot), z12, v_.gone, v_.val⟩ : Ver)]).length c31]) rfl Tryz.sizeOf43 rfl rfl rfl rfl (by kernel_rfl) rfl rfl rfl rfl ?_
  refine WR.nil ?_
  intro w hw
  obtain rfl := Option.some.inj h
  subst hF
  exact end_e (is := [3, 3, 3, 3]) (by kernel_rfl) hw rfl ⟨A30, c31, row29, rfl, rfl, ho32, trivial⟩
 ·
  refine WC.skip ?_
  intro w hw
  obtain rfl := Option.some.inj h
  subst hF
  exact end_e (is := [1, 1, 1, 1]) (by kernel_rfl) hw rfl ⟨Ab2v, cb2v, rowb2v, rfl, rfl, hb2v, trivial⟩
theorem t_vers_same {Γ : Gh} {w0 : World} {Aa2 : Option Addr} {ca2 : Nat} (a : Ver) (ha : Ver.fits Γ Aa2 ca2 a) {Ab2 : Option Addr} {cb2 : Nat} (b : Ver) (hb : Ver.fits Γ Ab2 cb2 b) (hs : Sat Γ w0) {r : Bool} (h : m_vers_same a b = some r) : Calls Tryz.prog 133 #[.agg #[.int .i64 a.dot.s, .int .i64 a.dot.n, .slice Aa2 a.past.length ca2, .bool a.gone, .string a.val], .agg #[.int .i64 b.dot.s, .int .i64 b.dot.n, .slice Ab2 b.past.length cb2, .bool b.gone, .string b.val]] w0 (fun e w' => e = .returned (.bool r) ∧ Fr no w0 w') := by
 refine calls_of (N := 52) (rs := [4]) (args := [.agg #[.int .i64 a.dot.s, .int .i64 a.dot.n, .slice Aa2 a.past.length ca2, .bool a.gone, .string a.val], .agg #[.int .i64 b.dot.s, .int .i64 b.dot.n, .slice Ab2 b.past.length cb2, .bool b.gone, .string b.val]]) Tryz.func133 rfl Tryz.ntmps133 Tryz.results133 rfl ?_
 obtain ⟨F, hF⟩ : ∃ F : Fm, F = ⟨no, w0, Γ⟩ := ⟨_, rfl⟩
 refine WC.here (C := CC F Γ []) ?_ (hF ▸ Cur.start0 hs)
 refine WC.rs ?_
 refine e_box (v := .agg #[.int .i64 a.dot.s, .int .i64 a.dot.n, .slice Aa2 a.past.length ca2, .bool a.gone, .string a.val]) rfl rfl rfl rfl (by kernel_rfl) ?_
 intro g1
 refine e_box (v := .agg #[.int .i64 b.dot.s, .int .i64 b.dot.n, .slice Ab2 b.past.length cb2, .bool b.gone, .string b.val]) rfl rfl rfl rfl (by kernel_rfl) ?_
 intro g2
 refine as_ (v := .bool false) ?_
 refine WR.done ?_
 refine WC.seq ?_
 refine WC.rs ?_
 refine vb (q_fl 0 fld_89_0 rfl rfl rfl) ?_
 refine vb (q_ldla (i := 1) (vs := [.int .i64 a.dot.s, .int .i64 a.dot.n]) rfl rfl Tryz.isAgg86 Tryz.sizeOf86 rfl rfl) ?_
 refine vb (q_fl 0 fld_89_0 rfl rfl rfl) ?_
 refine vb (q_ldla (i := 0) (vs := [.int .i64 b.dot.s, .int .i64 b.dot.n]) rfl rfl Tryz.isAgg86 Tryz.sizeOf86 rfl rfl) ?_
 refine vb (q_neq_Dot (a := a.dot) (b := b.dot) rfl rfl rfl) ?_
 refine mv (v := .bool (a.dot != b.dot)) ?_
 refine vg0 rfl rfl rfl rfl rfl (fun hg3 => QV.qo (q_fl 3 fld_89_2 rfl rfl rfl)) ?_
 refine vg0 rfl rfl rfl rfl rfl (fun hg4 => QV.qo (q_ldl (i := 1) (v := .bool a.gone) rfl rfl Tryz.isAgg4 (gu hg4 rfl) rfl)) ?_
 refine vg0 rfl rfl rfl rfl rfl (fun hg5 => QV.qo (q_fl 3 fld_89_2 rfl rfl rfl)) ?_
 refine vg0 rfl rfl rfl rfl rfl (fun hg6 => QV.qo (q_ldl (i := 0) (v := .bool b.gone) rfl rfl Tryz.isAgg4 (gu hg6 rfl) rfl)) ?_
 refine vg0 rfl rfl rfl rfl rfl (fun hg7 => QV.qo (q_bneq Tryz.underlying4 rfl (gu hg7 rfl) (gu hg7 rfl))) ?_
 refine vb (q_pick rfl rfl (pk_or' (g := (a.dot != b.dot)) (y := (a.gone != b.gone)))) ?_
 refine mv (v := .bool ((a.dot != b.dot) || (a.gone != b.gone))) ?_
 refine vg0 rfl rfl rfl rfl rfl (fun hg8 => QV.qo (q_fl 4 fld_89_3 rfl rfl rfl)) ?_
 refine vg0 rfl rfl rfl rfl rfl (fun hg9 => QV.qo (q_ldl (i := 1) (v := .string a.val) rfl rfl Tryz.isAgg9 (gu hg9 rfl) rfl)) ?_
 refine vg0 rfl rfl rfl rfl rfl (fun hg10 => QV.qo (q_fl 4 fld_89_3 rfl rfl rfl)) ?_
 refine vg0 rfl rfl rfl rfl rfl (fun hg11 => QV.qo (q_ldl (i := 0) (v := .string b.val) rfl rfl Tryz.isAgg9 (gu hg11 rfl) rfl)) ?_
 refine vg0 rfl rfl rfl rfl rfl (fun hg12 => QV.qo (q_sneq rfl (gu hg12 rfl) (gu hg12 rfl))) ?_
 refine vb (q_pick rfl rfl (pk_or' (g := ((a.dot != b.dot) || (a.gone != b.gone))) (y := (a.val != b.val)))) ?_
 refine mv (v := .bool (((a.dot != b.dot) || (a.gone != b.gone)) || (a.val != b.val))) ?_
 refine vg0 rfl rfl rfl rfl rfl (fun hg13 => QV.qo (q_fl 2 fld_89_1 rfl rfl rfl)) ?_
 refine vg0 rfl rfl rfl rfl rfl (fun hg14 => QV.qo (q_ldl (i := 1) (v := .slice Aa2 a.past.length ca2) rfl rfl Tryz.isAgg87 (gu hg14 rfl) rfl)) ?_
 refine vg0 rfl rfl rfl rfl rfl (fun hg15 => QV.qo (q_len_slice rfl Tryz.underlying87 (gu hg15 rfl))) ?_
 refine vg0 rfl rfl rfl rfl rfl (fun hg16 => QV.qo (q_fl 2 fld_89_1 rfl rfl rfl)) ?_
 refine vg0 rfl rfl rfl rfl rfl (fun hg17 => QV.qo (q_ldl (i := 0) (v := .slice Ab2 b.past.length cb2) rfl rfl Tryz.isAgg87 (gu hg17 rfl) rfl)) ?_
 refine vg0 rfl rfl rfl rfl rfl (fun hg18 => QV.qo (q_len_slice rfl Tryz.underlying87 (gu hg18 rfl))) ?_
 refine vg0 rfl rfl rfl rfl rfl (fun hg19 => QV.qo (q_neq rfl (gu hg19 rfl) (gu hg19 rfl))) ?_
 refine vb (q_pick rfl rfl (pk_or' (g := (((a.dot != b.dot) || (a.gone != b.gone)) || (a.val != b.val))) (y := (((a.past.length : Nat) : Int) != ((b.past.length : Nat) : Int))))) ?_
 refine WR.done ?_
 refine WC.cif h (by kernel_rfl) (fun hb20 h => ?_) (fun hb20 h => ?_)
 ·
  refine WC.rs ?_
  refine as_ (v := .bool false) ?_
  refine WR.done ?_
  refine WC.ret ?_
  intro w hw
  obtain rfl := Option.some.inj h
  subst hF
  exact ⟨by kernel_rfl, hw.fr⟩
 ·
  refine WC.skip ?_
  change WC _ _ _ _ _ _
  refine WC.seq ?_
  refine WC.rs ?_
  refine vb (q_fl 2 fld_89_1 rfl rfl rfl) ?_
  refine vb (q_ldl (i := 1) (v := .slice Aa2 a.past.length ca2) rfl rfl Tryz.isAgg87 rfl rfl) ?_
  refine vb (q_len_slice rfl Tryz.underlying87 rfl) ?_
  refine mv (v := .int .i64 0) ?_
  refine WR.done ?_
  refine WC.block ?_
  refine WC.forI h (fun (i22 : Nat) (s : Unit) σ w => match s with | () => slots σ [(2, (pq g1)), (3, (pq g2)), (36, .int .i64 ((a.past.length : Nat) : Int)), (37, .int .i64 ((i22 : Nat) : Int))] ∧ CC F Γ [[(g2, .cells #[.int .i64 b.dot.s, .int .i64 b.dot.n, .slice Ab2 b.past.length cb2, .bool b.gone, .string b.val] 89 (0, 0))], [(g1, .cells #[.int .i64 a.dot.s, .int .i64 a.dot.n, .slice Aa2 a.past.length ca2, .bool a.gone, .string a.val] 89 (0, 0))]] w ∧ True) ?_ ?_
  ·
   intro w hw
   exact ⟨(sl_ (by kernel_rfl)), hw, trivial⟩
  rintro f21 i22 ⟨⟩ σ w hi23 hlt24 hge25 ⟨hsl, hw, -⟩
  refine Wpt.slots hsl ?_
  refine WC.here (C := CC F Γ [[(g2, .cells #[.int .i64 b.dot.s, .int .i64 b.dot.n, .slice Ab2 b.past.length cb2, .bool b.gone, .string b.val] 89 (0, 0))], [(g1, .cells #[.int .i64 a.dot.s, .int .i64 a.dot.n, .slice Aa2 a.past.length ca2, .bool a.gone, .string a.val] 89 (0, 0))]]) ?_ hw
  clear hw hsl
  refine WC.rs ?_
  refine vb (q_lss rfl rfl rfl) ?_
  refine WR.done ?_
  refine WC.seq ?_
  refine WC.cond (b := (decide (((i22 : Nat) : Int) < ((a.past.length : Nat) : Int)))) (by kernel_rfl) (fun hb26 => ?_) (fun hb26 => ?_)
  ·
   have hl27 := ilt hb26
   have h := hlt24 hl27
   refine WC.skip ?_
   change WC _ _ _ _ _ _
   refine WC.seq ?_
   refine WC.block ?_
   refine WC.rs ?_
   refine mv (v := .int .i64 ((i22 : Nat) : Int)) ?_
   refine as_ (v := .int .i64 ((i22 : Nat) : Int)) ?_
   refine WR.done ?_
   refine WC.seq ?_
   refine WC.dr (by kernel_rfl) (by kernel_rfl) (fun w hw => hw.drawn _) ?_
   refine wa rfl rfl rfl (q_fl 2 fld_89_1 rfl rfl rfl) ?_
   refine wa rfl rfl rfl (q_ldl (i := 1) (v := .slice Aa2 a.past.length ca2) rfl rfl Tryz.isAgg87 rfl rfl) ?_
   refine wa rfl rfl rfl (q_move (v := .int .i64 ((i22 : Nat) : Int)) rfl (by kernel_rfl)) ?_
   refine wa rfl rfl rfl (q_ixn (i := i22) Tryz.underlying87 Tryz.sizeOf93 rfl rfl rfl hl27 (ha.2.2.1.2.some_ hl27)) ?_
   refine wa rfl rfl rfl (q_lda (c := 0) (vs := [.int .i64 (gt a.past i22).s, .int .i64 (gt a.past i22).f, .int .i64 (gt a.past i22).t]) (ha.2.2.1.2.spanT_at hl27).2 rfl Tryz.isAgg93 Tryz.sizeOf93 rfl rfl rfl) ?_
   refine wa rfl rfl rfl (q_fl 2 fld_89_1 rfl rfl rfl) ?_
   refine wa rfl rfl rfl (q_ldl (i := 0) (v := .slice Ab2 b.past.length cb2) rfl rfl Tryz.isAgg87 rfl rfl) ?_
   refine wa rfl rfl rfl (q_move (v := .int .i64 ((i22 : Nat) : Int)) rfl (by kernel_rfl)) ?_
   obtain ⟨hk28, h⟩ := chk_some h
   refine wa rfl rfl rfl (q_ixn (i := i22) Tryz.underlying87 Tryz.sizeOf93 rfl rfl rfl (of_decide_eq_true hk28) (hb.2.2.1.2.some_ (of_decide_eq_true hk28))) ?_
   refine wa rfl rfl rfl (q_lda (c := 0) (vs := [.int .i64 (gt b.past i22).s, .int .i64 (gt b.past i22).f, .int .i64 (gt b.past i22).t]) (hb.2.2.1.2.spanT_at (of_decide_eq_true hk28)).2 rfl Tryz.isAgg93 Tryz.sizeOf93 rfl rfl rfl) ?_
   refine wa rfl rfl rfl (q_neq_Span (a := (gt a.past i22)) (b := (gt b.past i22)) rfl rfl rfl) ?_
   refine WQ.nil ?_
   change WC _ _ _ _ _ _
   refine WC.cif h (by kernel_rfl) (fun hb29 h => ?_) (fun hb29 h => ?_)
   ·
    refine WC.rs ?_
    refine as_ (v := .bool false) ?_
    refine WR.done ?_
    refine WC.ret ?_
    intro w hw
    obtain rfl := Option.some.inj h
    subst hF
    exact ⟨by kernel_rfl, hw.fr⟩
   ·
    refine WC.skip ?_
    change WC _ _ _ _ _ _
    refine WC.region ?_
    refine vb (q_add_r (r := ((i22 + 1 : Nat) : Int)) rfl rfl rfl (ctr_len hl27 ha.2.2.1.2.le)) ?_
    refine mv (v := .int .i64 ((i22 + 1 : Nat) : Int)) ?_
    refine WR.nil ?_
    intro w hw
    exact ⟨hl27, (), h, (sl_ (by kernel_rfl)), hw, trivial⟩
  ·
   have h := hge25 (ige hb26)
   refine WC.exit ?_
   change WC _ _ _ _ _ _
   refine WC.rs ?_
   refine as_ (v := .bool true) ?_
   refine WR.done ?_
   refine WC.ret ?_
   intro w hw
   obtain rfl := Option.some.inj h
   subst hF
   exact ⟨by kernel_rfl, hw.fr⟩
abbrev r_vers_Merge (r : (List Ver) × Int) (U : List Rowb) (Γ : Gh) (v : Value) : Prop := ∃ (A0 : Option Addr), ∃ (c0 : Nat), ∃ (row0 : Rowb), v = .tuple #[.slice A0 r.1.length c0, .int .i64 r.2] ∧ U = [row0] ∧ Own verT Γ 89 row0 A0 c0 r.1 ∧ I64 r.2 ∧ True
theorem t_vers_Merge {Γ : Gh} {w0 : World} {Aa : Option Addr} {ca : Nat} {a : List Ver} (ha : Sl verT Γ Aa a) (hac : a.length ≤ ca) {Ab : Option Addr} {cb : Nat} {b : List Ver} (hb : Sl verT Γ Ab b) (hbc : b.length ≤ cb) (hp : Pre [] Γ w0) {r : (List Ver) × Int} (h : m_vers_Merge a b = some r) : Calls Tryz.prog 95 #[.slice Aa a.length ca, .slice Ab b.length cb] w0 (Outc Γ [] w0 (r_vers_Merge r)) := by
 refine calls_of (N := 110) (rs := [4, 5]) (args := [.slice Aa a.length ca, .slice Ab b.length cb]) Tryz.func95 rfl Tryz.ntmps95 Tryz.results95 rfl ?_
 obtain ⟨F, hF⟩ : ∃ F : Fm, F = ⟨ids [], w0, Γ⟩ := ⟨_, rfl⟩
 refine WC.here (C := CC F Γ []) ?_ (hF ▸ hp.start)
 refine WC.rs ?_
 refine e_box (v := .slice Aa a.length ca) rfl rfl rfl rfl (by kernel_rfl) ?_
 intro g1
 refine e_box (v := .slice Ab b.length cb) rfl rfl rfl rfl (by kernel_rfl) ?_
 intro g2
 refine as_ (v := .slice none 0 0) ?_
 refine as_ (v := .int .i64 0) ?_
 refine WR.done ?_
 refine WC.seq ?_
 refine WC.rs ?_
 refine vb (q_ldl (i := 1) (v := .slice Aa a.length ca) rfl rfl Tryz.isAgg43 rfl rfl) ?_
 obtain ⟨z3, hz4, h⟩ := bnd h
 refine vc rfl rfl rfl (q_call (call_run Tryz.call111 rfl rfl (by kernel_rfl)) (fun w hw => t_vers_Right (Γ := Gh.all w) (ha.mono hw.sat.le_all) hac (Sat.all w) hz4)) ?_
 refine vb (q_not rfl rfl) ?_
 refine mv (v := .bool (!z3)) ?_
 refine vg0 rfl rfl rfl rfl rfl (fun hg5 => QV.qo (q_ldl (i := 0) (v := .slice Ab b.length cb) rfl rfl Tryz.isAgg43 rfl rfl)) ?_
 obtain ⟨z7, hz8, h⟩ := bnd h
 refine vg0 rfl rfl rfl rfl rfl (fun hg6 => (q_call (call_run Tryz.call111 rfl rfl (args1 (gu hg6 rfl))) (fun w hw => t_vers_Right (Γ := Gh.all w) (hb.mono hw.sat.le_all) hbc (Sat.all w) (gc_of hz8 hg6)))) ?_
 refine vg0 rfl rfl rfl rfl rfl (fun hg9 => QV.qo (q_not rfl (gu hg9 rfl))) ?_
 refine vb (q_pick rfl rfl (pk_or' (g := (!z3)) (y := (!z7)))) ?_
 refine WR.done ?_
 refine WC.cif h (by kernel_rfl) (fun hb10 h => ?_) (fun hb10 h => ?_)
 ·
  refine WC.rs ?_
  refine as_ (v := .slice none 0 0) ?_
  refine as_ (v := .int .i64 1) ?_
  refine WR.done ?_
  refine WC.ret ?_
  intro w hw
  have hw := hw.pad
  obtain rfl := Option.some.inj h
  subst hF
  exact end_e (is := [0]) (by kernel_rfl) hw rfl ⟨none, 0, [], rfl, rfl, (Own.nil verT _ 89), (show I64 1 by decide), trivial⟩
 ·
  refine WC.skip ?_
  change WC _ _ _ _ _ _
  refine WC.rs ?_
  refine e_alloc Tryz.zeroValue43 rfl rfl rfl rfl ?_
  intro g11
  refine WR.done ?_
  refine WC.rs ?_
  refine vb (q_mkfn (v := .func (.func 129) #[] #[(pq g1), (pq g2), (pq g11)]) rfl (by kernel_rfl)) ?_
  refine as_ (v := .func (.func 129) #[] #[(pq g1), (pq g2), (pq g11)]) ?_
  refine WR.done ?_
  refine WC.rs ?_
  refine as_ (v := .bool false) ?_
  refine WR.done ?_
  refine WC.seq ?_
  refine WC.rs ?_
  refine as_ (v := .int .i64 0) ?_
  refine as_ (v := .int .i64 0) ?_
  refine WR.done ?_
  refine WC.block ?_
  refine WC.loopN h (fun (s : Bool × Int × Int × (List Ver)) σ w => match s with | (twin_14, i_15, k_17, x19) => ∃ (Γ12 : Gh), ∃ (A20 : Option Addr), ∃ (c21 : Nat), ∃ (row22 : Rowb), slots σ [(2, (pq g1)), (3, (pq g2)), (6, (pq g11)), (7, .func (.func 129) #[] #[(pq g1), (pq g2), (pq g11)]), (8, .bool twin_14), (9, .int .i64 i_15), (10, .int .i64 k_17)] ∧ CC F Γ12 [row22, [(g11, .cells #[.slice A20 x19.length c21] 43 (0, 0))], [(g2, .cells #[.slice Ab b.length cb] 43 (0, 0))], [(g1, .cells #[.slice Aa a.length ca] 43 (0, 0))]] w ∧ Gh.le Γ Γ12 ∧ I64 i_15 ∧ I64 k_17 ∧ Own verT Γ12 89 row22 A20 c21 x19 ∧ True) ?_ ?_
  ·
   intro w hw
   have hw := hw.pad
   exact ⟨Γ, none, 0, [], (sl_ (by kernel_rfl)), hw, (Gh.refl _), (show I64 0 by decide), (show I64 0 by decide), (Own.nil verT _ 89), trivial⟩
  rintro f24 ⟨twin_14, i_15, k_17, x19⟩ σ w h ⟨Γ12, A20, c21, row22, hsl, hw, hl13, hr16, hr18, ho23, -⟩
  refine Wpt.slots hsl ?_
  refine WC.here (C := CC F Γ12 [row22, [(g11, .cells #[.slice A20 x19.length c21] 43 (0, 0))], [(g2, .cells #[.slice Ab b.length cb] 43 (0, 0))], [(g1, .cells #[.slice Aa a.length ca] 43 (0, 0))]]) ?_ hw
  clear hw hsl
  refine WC.seq ?_
  refine WC.rs ?_
  refine mv (v := .int .i64 i_15) ?_
  refine vb (q_ldl (i := 3) (v := .slice Aa a.length ca) rfl rfl Tryz.isAgg43 rfl rfl) ?_
  refine vb (q_len_slice rfl Tryz.underlying43 rfl) ?_
  refine vb (q_lss rfl rfl rfl) ?_
  refine mv (v := .bool (decide (i_15 < ((a.length : Nat) : Int)))) ?_
  refine vg0 rfl rfl rfl rfl rfl (fun hg28 => QV.qo (q_move (v := .int .i64 k_17) rfl (by kernel_rfl))) ?_
  refine vg0 rfl rfl rfl rfl rfl (fun hg29 => QV.qo (q_ldl (i := 2) (v := .slice Ab b.length cb) rfl rfl Tryz.isAgg43 rfl rfl)) ?_
  refine vg0 rfl rfl rfl rfl rfl (fun hg30 => QV.qo (q_len_slice rfl Tryz.underlying43 (gu hg30 rfl))) ?_
  refine vg0 rfl rfl rfl rfl rfl (fun hg31 => QV.qo (q_lss rfl (gu hg31 rfl) (gu hg31 rfl))) ?_
  refine vb (q_pick rfl rfl (pk_or' (g := (decide (i_15 < ((a.length : Nat) : Int)))) (y := (decide (k_17 < ((b.length : Nat) : Int)))))) ?_
  refine WR.done ?_
  refine WC.cif h (by kernel_rfl) (fun hb32 h => ?_) (fun hb32 h => ?_)
  ·
   refine WC.skip ?_
   change WC _ _ _ _ _ _
   refine WC.block ?_
   refine WC.block ?_
   refine WC.seq ?_
   refine WC.dr (by kernel_rfl) (by kernel_rfl) (fun w hw => hw.drawn _) ?_
   refine wa rfl rfl rfl (q_move (v := .int .i64 k_17) rfl (by kernel_rfl)) ?_
   refine wa rfl rfl rfl (q_ldl (i := 2) (v := .slice Ab b.length cb) rfl rfl Tryz.isAgg43 rfl rfl) ?_
   refine wa rfl rfl rfl (q_len_slice rfl Tryz.underlying43 rfl) ?_
   refine wa rfl rfl rfl (q_eql rfl rfl rfl) ?_
   refine wa rfl rfl rfl (q_move (v := .bool (k_17 == ((b.length : Nat) : Int))) rfl (by kernel_rfl)) ?_
   refine wg0 rfl rfl rfl rfl rfl (fun hg33 => QV.qo (q_move (v := .int .i64 i_15) rfl (by kernel_rfl))) ?_
   refine wg0 rfl rfl rfl rfl rfl (fun hg34 => QV.qo (q_ldl (i := 3) (v := .slice Aa a.length ca) rfl rfl Tryz.isAgg43 rfl rfl)) ?_
   refine wg0 rfl rfl rfl rfl rfl (fun hg35 => QV.qo (q_len_slice rfl Tryz.underlying43 (gu hg35 rfl))) ?_
   refine wg0 rfl rfl rfl rfl rfl (fun hg36 => QV.qo (q_lss rfl (gu hg36 rfl) (gu hg36 rfl))) ?_
   refine wg0 rfl rfl rfl rfl rfl (fun hg37 => QV.qo (q_move (v := .bool (decide (i_15 < ((a.length : Nat) : Int)))) rfl (gu hg37 rfl))) ?_
   refine wh1 (c0 := (!(k_17 == ((b.length : Nat) : Int)))) (g := (decide (i_15 < ((a.length : Nat) : Int)))) rfl rfl rfl rfl rfl (fun hg38 => QV.qo (q_ldl (i := 3) (v := .slice Aa a.length ca) rfl rfl Tryz.isAgg43 rfl rfl)) ?_
   refine wh1 (c0 := (!(k_17 == ((b.length : Nat) : Int)))) (g := (decide (i_15 < ((a.length : Nat) : Int)))) rfl rfl rfl rfl rfl (fun hg39 => QV.qo (q_move (v := .int .i64 i_15) rfl (by kernel_rfl))) ?_
   obtain ⟨hk41, h⟩ := chk_some h
   refine wh1 (c0 := (!(k_17 == ((b.length : Nat) : Int)))) (g := (decide (i_15 < ((a.length : Nat) : Int)))) rfl rfl rfl rfl rfl (fun hg40 => QV.qo (q_ix Tryz.underlying43 Tryz.sizeOf89 rfl (gu hg40 rfl) (gu hg40 rfl) (imp_of hk41 hg40) ((ha.mono hl13).some_ (inb_lt (imp_of hk41 hg40))))) ?_
   refine wh1 (c0 := (!(k_17 == ((b.length : Nat) : Int)))) (g := (decide (i_15 < ((a.length : Nat) : Int)))) rfl rfl rfl rfl rfl (fun hg42 => QV.qo (q_field_addr (i_15.toNat * 5) fld_89_0 rfl (gu hg42 rfl) ((ha.mono hl13).some_ (inb_lt (imp_of hk41 hg42))) rfl)) ?_
   obtain ⟨A44, c45, hx46⟩ := (ha.mono hl13).verT_at i_15.toNat
   refine wh1 (c0 := (!(k_17 == ((b.length : Nat) : Int)))) (g := (decide (i_15 < ((a.length : Nat) : Int)))) rfl rfl rfl rfl rfl (fun hg43 => QV.qo (q_lda (c := 0) (vs := [.int .i64 (gt a i_15.toNat).dot.s, .int .i64 (gt a i_15.toNat).dot.n]) (hx46 (inb_lt (imp_of hk41 hg43))).2 rfl Tryz.isAgg86 Tryz.sizeOf86 (gu hg43 rfl) rfl rfl)) ?_
   refine wh1 (c0 := (!(k_17 == ((b.length : Nat) : Int)))) (g := (decide (i_15 < ((a.length : Nat) : Int)))) rfl rfl rfl rfl rfl (fun hg47 => QV.qo (q_ldl (i := 2) (v := .slice Ab b.length cb) rfl rfl Tryz.isAgg43 rfl rfl)) ?_
   refine wh1 (c0 := (!(k_17 == ((b.length : Nat) : Int)))) (g := (decide (i_15 < ((a.length : Nat) : Int)))) rfl rfl rfl rfl rfl (fun hg48 => QV.qo (q_move (v := .int .i64 k_17) rfl (by kernel_rfl))) ?_
   obtain ⟨hk50, h⟩ := chk_some h
   refine wh1 (c0 := (!(k_17 == ((b.length : Nat) : Int)))) (g := (decide (i_15 < ((a.length : Nat) : Int)))) rfl rfl rfl rfl rfl (fun hg49 => QV.qo (q_ix Tryz.underlying43 Tryz.sizeOf89 rfl (gu hg49 rfl) (gu hg49 rfl) (imp_of hk50 hg49) ((hb.mono hl13).some_ (inb_lt (imp_of hk50 hg49))))) ?_
   refine wh1 (c0 := (!(k_17 == ((b.length : Nat) : Int)))) (g := (decide (i_15 < ((a.length : Nat) : Int)))) rfl rfl rfl rfl rfl (fun hg51 => QV.qo (q_field_addr (k_17.toNat * 5) fld_89_0 rfl (gu hg51 rfl) ((hb.mono hl13).some_ (inb_lt (imp_of hk50 hg51))) rfl)) ?_
   obtain ⟨A53, c54, hx55⟩ := (hb.mono hl13).verT_at k_17.toNat
   refine wh1 (c0 := (!(k_17 == ((b.length : Nat) : Int)))) (g := (decide (i_15 < ((a.length : Nat) : Int)))) rfl rfl rfl rfl rfl (fun hg52 => QV.qo (q_lda (c := 0) (vs := [.int .i64 (gt b k_17.toNat).dot.s, .int .i64 (gt b k_17.toNat).dot.n]) (hx55 (inb_lt (imp_of hk50 hg52))).2 rfl Tryz.isAgg86 Tryz.sizeOf86 (gu hg52 rfl) rfl rfl)) ?_
   obtain ⟨z57, hz58, h⟩ := bnd h
   refine wh1 (c0 := (!(k_17 == ((b.length : Nat) : Int)))) (g := (decide (i_15 < ((a.length : Nat) : Int)))) rfl rfl rfl rfl rfl (fun hg56 => (q_call (call_run Tryz.call132 rfl rfl (args2 (gu hg56 rfl) (gu hg56 rfl))) (fun w hw => t_vers_before (Γ := Gh.all w) ((gt a i_15.toNat).dot) ⟨(hx46 (inb_lt (imp_of hk41 hg56))).1.1, (hx46 (inb_lt (imp_of hk41 hg56))).1.2.1⟩ ((gt b k_17.toNat).dot) ⟨(hx55 (inb_lt (imp_of hk50 hg56))).1.1, (hx55 (inb_lt (imp_of hk50 hg56))).1.2.1⟩ (Sat.all w) (gc_of hz58 hg56)))) ?_
   refine wg0 rfl rfl rfl rfl rfl (fun hg59 => QV.qo (q_pick rfl (gu hg59 rfl) (pk_and (c := (!(k_17 == ((b.length : Nat) : Int)))) (g := (decide (i_15 < ((a.length : Nat) : Int)))) (y := z57) hg59))) ?_
   refine wa rfl rfl rfl (q_pick rfl rfl (pk_or' (g := (k_17 == ((b.length : Nat) : Int))) (y := ((decide (i_15 < ((a.length : Nat) : Int))) && z57)))) ?_
   refine wa rfl rfl rfl (q_assign (v := .bool ((k_17 == ((b.length : Nat) : Int)) || ((decide (i_15 < ((a.length : Nat) : Int))) && z57))) rfl (by kernel_rfl)) ?_
   refine WQ.nil ?_
   change WC _ _ _ _ _ _
   refine WC.cif h (by kernel_rfl) (fun hb60 h => ?_) (fun hb60 h => ?_)
   ·
    refine WC.rs ?_
    refine mv (v := .func (.func 129) #[] #[(pq g1), (pq g2), (pq g11)]) ?_
    refine vb (q_ldl (i := 3) (v := .slice Aa a.length ca) rfl rfl Tryz.isAgg43 rfl rfl) ?_
    refine mv (v := .int .i64 i_15) ?_
    obtain ⟨hk61, h⟩ := chk_some h
    refine vb (q_ix Tryz.underlying43 Tryz.sizeOf89 rfl rfl rfl hk61 ((ha.mono hl13).some_ (inb_lt hk61))) ?_
    refine vb (q_lda (c := 0) (vs := [.int .i64 (gt a i_15.toNat).dot.s, .int .i64 (gt a i_15.toNat).dot.n, .slice A44 ((gt a i_15.toNat).past).length c45, .bool (gt a i_15.toNat).gone, .string (gt a i_15.toNat).val]) (hx46 (inb_lt hk61)).2 rfl Tryz.isAgg89 Tryz.sizeOf89 rfl rfl rfl) ?_
    obtain ⟨z62, hz63, h⟩ := bnd h
    refine e_call (is := [3, 2, 1, 0]) rfl rfl (call_run_fv (caps := #[(pq g1), (pq g2), (pq g11)]) Tryz.call129 rfl (by kernel_rfl) (by kernel_rfl)) rfl (fun w hp => t_vers_Merge_1 (gt a i_15.toNat) (hx46 (inb_lt hk61)).1 (ha.mono hl13) hac (hb.mono hl13) hbc ho23 hp hz63) ?_
    rintro Γ64 U66 v67 hl65 ⟨A68, c69, row70, rfl, rfl, hr71, _⟩
    change WR _ _ _ (CC F Γ64 [[(g1, .cells #[.slice Aa a.length ca] 43 (0, 0))], [(g2, .cells #[.slice Ab b.length cb] 43 (0, 0))], [(g11, .cells #[.slice A68 z62.length c69] 43 (0, 0))], row70]) _ _ (upd _ 67 (.tuple #[]))
    refine WR.done ?_
    refine WC.region ?_
    refine mv (v := .int .i64 i_15) ?_
    refine vb (q_add rfl rfl rfl) ?_
    refine as_ (v := .int .i64 (w64 (i_15 + 1))) ?_
    refine WR.nil ?_
    intro w hw
    exact ⟨(twin_14, (w64 (i_15 + 1)), k_17, z62), h, Γ64, A68, c69, row70, (sl_ (by kernel_rfl)), (hw.only (is := [3, 2, 1, 0]) rfl), (hl13.trans hl65), (w64_r _), hr18, hr71, trivial⟩
   ·
    refine WC.seq ?_
    refine WC.dr (by kernel_rfl) (by kernel_rfl) (fun w hw => hw.drawn _) ?_
    refine wa rfl rfl rfl (q_move (v := .int .i64 i_15) rfl (by kernel_rfl)) ?_
    refine wa rfl rfl rfl (q_ldl (i := 3) (v := .slice Aa a.length ca) rfl rfl Tryz.isAgg43 rfl rfl) ?_
    refine wa rfl rfl rfl (q_len_slice rfl Tryz.underlying43 rfl) ?_
    refine wa rfl rfl rfl (q_lss rfl rfl rfl) ?_
    refine wa rfl rfl rfl (q_move (v := .bool (decide (i_15 < ((a.length : Nat) : Int)))) rfl (by kernel_rfl)) ?_
    refine wg1 rfl rfl rfl rfl rfl (fun hg72 => QV.qo (q_ldl (i := 3) (v := .slice Aa a.length ca) rfl rfl Tryz.isAgg43 rfl rfl)) ?_
    refine wg1 rfl rfl rfl rfl rfl (fun hg73 => QV.qo (q_move (v := .int .i64 i_15) rfl (by kernel_rfl))) ?_
    obtain ⟨hk75, h⟩ := chk_some h
    refine wg1 rfl rfl rfl rfl rfl (fun hg74 => QV.qo (q_ix Tryz.underlying43 Tryz.sizeOf89 rfl (gu hg74 rfl) (gu hg74 rfl) (imp_of hk75 hg74) ((ha.mono hl13).some_ (inb_lt (imp_of hk75 hg74))))) ?_
    refine wg1 rfl rfl rfl rfl rfl (fun hg76 => QV.qo (q_field_addr (i_15.toNat * 5) fld_89_0 rfl (gu hg76 rfl) ((ha.mono hl13).some_ (inb_lt (imp_of hk75 hg76))) rfl)) ?_
    refine wg1 rfl rfl rfl rfl rfl (fun hg77 => QV.qo (q_lda (c := 0) (vs := [.int .i64 (gt a i_15.toNat).dot.s, .int .i64 (gt a i_15.toNat).dot.n]) (hx46 (inb_lt (imp_of hk75 hg77))).2 rfl Tryz.isAgg86 Tryz.sizeOf86 (gu hg77 rfl) rfl rfl)) ?_
    refine wg1 rfl rfl rfl rfl rfl (fun hg78 => QV.qo (q_ldl (i := 2) (v := .slice Ab b.length cb) rfl rfl Tryz.isAgg43 rfl rfl)) ?_
    refine wg1 rfl rfl rfl rfl rfl (fun hg79 => QV.qo (q_move (v := .int .i64 k_17) rfl (by kernel_rfl))) ?_
    obtain ⟨hk81, h⟩ := chk_some h
    refine wg1 rfl rfl rfl rfl rfl (fun hg80 => QV.qo (q_ix Tryz.underlying43 Tryz.sizeOf89 rfl (gu hg80 rfl) (gu hg80 rfl) (imp_of hk81 hg80) ((hb.mono hl13).some_ (inb_lt (imp_of hk81 hg80))))) ?_
    refine wg1 rfl rfl rfl rfl rfl (fun hg82 => QV.qo (q_field_addr (k_17.toNat * 5) fld_89_0 rfl (gu hg82 rfl) ((hb.mono hl13).some_ (inb_lt (imp_of hk81 hg82))) rfl)) ?_
    refine wg1 rfl rfl rfl rfl rfl (fun hg83 => QV.qo (q_lda (c := 0) (vs := [.int .i64 (gt b k_17.toNat).dot.s, .int .i64 (gt b k_17.toNat).dot.n]) (hx55 (inb_lt (imp_of hk81 hg83))).2 rfl Tryz.isAgg86 Tryz.sizeOf86 (gu hg83 rfl) rfl rfl)) ?_
    refine wg1 rfl rfl rfl rfl rfl (fun hg84 => QV.qo (q_eql_Dot (a := (gt a i_15.toNat).dot) (b := (gt b k_17.toNat).dot) rfl (gu hg84 rfl) (gu hg84 rfl))) ?_
    refine wa rfl rfl rfl (q_pick rfl rfl (pk_and' (g := (decide (i_15 < ((a.length : Nat) : Int)))) (y := ((gt a i_15.toNat).dot == (gt b k_17.toNat).dot)))) ?_
    refine wa rfl rfl rfl (q_assign (v := .bool ((decide (i_15 < ((a.length : Nat) : Int))) && ((gt a i_15.toNat).dot == (gt b k_17.toNat).dot))) rfl (by kernel_rfl)) ?_
    refine WQ.nil ?_
    change WC _ _ _ _ _ _
    refine WC.cif h (by kernel_rfl) (fun hb85 h => ?_) (fun hb85 h => ?_)
    ·
     refine WC.seq ?_
     refine WC.dr (by kernel_rfl) (by kernel_rfl) (fun w hw => hw.drawn _) ?_
     refine wa rfl rfl rfl (q_move (v := .bool twin_14) rfl (by kernel_rfl)) ?_
     refine wa rfl rfl rfl (q_move (v := .bool twin_14) rfl (by kernel_rfl)) ?_
     refine wg0 rfl rfl rfl rfl rfl (fun hg86 => QV.qo (q_ldl (i := 3) (v := .slice Aa a.length ca) rfl rfl Tryz.isAgg43 rfl rfl)) ?_
     refine wg0 rfl rfl rfl rfl rfl (fun hg87 => QV.qo (q_move (v := .int .i64 i_15) rfl (by kernel_rfl))) ?_
     obtain ⟨hk89, h⟩ := chk_some h
     refine wg0 rfl rfl rfl rfl rfl (fun hg88 => QV.qo (q_ix Tryz.underlying43 Tryz.sizeOf89 rfl (gu hg88 rfl) (gu hg88 rfl) (imp_of hk89 hg88) ((ha.mono hl13).some_ (inb_lt (imp_of hk89 hg88))))) ?_
     refine wg0 rfl rfl rfl rfl rfl (fun hg90 => QV.qo (q_lda (c := 0) (vs := [.int .i64 (gt a i_15.toNat).dot.s, .int .i64 (gt a i_15.toNat).dot.n, .slice A44 ((gt a i_15.toNat).past).length c45, .bool (gt a i_15.toNat).gone, .string (gt a i_15.toNat).val]) (hx46 (inb_lt (imp_of hk89 hg90))).2 rfl Tryz.isAgg89 Tryz.sizeOf89 (gu hg90 rfl) rfl rfl)) ?_
     refine wg0 rfl rfl rfl rfl rfl (fun hg91 => QV.qo (q_ldl (i := 2) (v := .slice Ab b.length cb) rfl rfl Tryz.isAgg43 rfl rfl)) ?_
     refine wg0 rfl rfl rfl rfl rfl (fun hg92 => QV.qo (q_move (v := .int .i64 k_17) rfl (by kernel_rfl))) ?_
     obtain ⟨hk94, h⟩ := chk_some h
     refine wg0 rfl rfl rfl rfl rfl (fun hg93 => QV.qo (q_ix Tryz.underlying43 Tryz.sizeOf89 rfl (gu hg93 rfl) (gu hg93 rfl) (imp_of hk94 hg93) ((hb.mono hl13).some_ (inb_lt (imp_of hk94 hg93))))) ?_
     refine wg0 rfl rfl rfl rfl rfl (fun hg95 => QV.qo (q_lda (c := 0) (vs := [.int .i64 (gt b k_17.toNat).dot.s, .int .i64 (gt b k_17.toNat).dot.n, .slice A53 ((gt b k_17.toNat).past).length c54, .bool (gt b k_17.toNat).gone, .string (gt b k_17.toNat).val]) (hx55 (inb_lt (imp_of hk94 hg95))).2 rfl Tryz.isAgg89 Tryz.sizeOf89 (gu hg95 rfl) rfl rfl)) ?_
     obtain ⟨z97, hz98, h⟩ := bnd h
     refine wg0 rfl rfl rfl rfl rfl (fun hg96 => (q_call (call_run Tryz.call133 rfl rfl (args2 (gu hg96 rfl) (gu hg96 rfl))) (fun w hw => t_vers_same (Γ := Gh.all w) (gt a i_15.toNat) (Ver.fits_mono (hx46 (inb_lt (imp_of hk89 hg96))).1 hw.sat.le_all) (gt b k_17.toNat) (Ver.fits_mono (hx55 (inb_lt (imp_of hk94 hg96))).1 hw.sat.le_all) (Sat.all w) (gc_of hz98 hg96)))) ?_
     refine wg0 rfl rfl rfl rfl rfl (fun hg99 => QV.qo (q_not rfl (gu hg99 rfl))) ?_
     refine wa rfl rfl rfl (q_pick rfl rfl (pk_or' (g := twin_14) (y := (!z97)))) ?_
     refine wa rfl rfl rfl (q_assign (v := .bool (twin_14 || (!z97))) rfl (by kernel_rfl)) ?_
     refine WQ.nil ?_
     change WC _ _ _ _ _ _
     refine WC.region ?_
     refine mv (v := .int .i64 i_15) ?_
     refine vb (q_add rfl rfl rfl) ?_
     refine as_ (v := .int .i64 (w64 (i_15 + 1))) ?_
     refine WR.nil ?_
     intro w hw
     exact ⟨((twin_14 || (!z97)), (w64 (i_15 + 1)), k_17, x19), h, Γ12, A20, c21, row22, (sl_ (by kernel_rfl)), hw, hl13, (w64_r _), hr18, ho23, trivial⟩
    ·
     refine WC.rs ?_
     refine mv (v := .func (.func 129) #[] #[(pq g1), (pq g2), (pq g11)]) ?_
     refine vb (q_ldl (i := 2) (v := .slice Ab b.length cb) rfl rfl Tryz.isAgg43 rfl rfl) ?_
     refine mv (v := .int .i64 k_17) ?_
     obtain ⟨hk100, h⟩ := chk_some h
     refine vb (q_ix Tryz.underlying43 Tryz.sizeOf89 rfl rfl rfl hk100 ((hb.mono hl13).some_ (inb_lt hk100))) ?_
     refine vb (q_lda (c := 0) (vs := [.int .i64 (gt b k_17.toNat).dot.s, .int .i64 (gt b k_17.toNat).dot.n, .slice A53 ((gt b k_17.toNat).past).length c54, .bool (gt b k_17.toNat).gone, .string (gt b k_17.toNat).val]) (hx55 (inb_lt hk100)).2 rfl Tryz.isAgg89 Tryz.sizeOf89 rfl rfl rfl) ?_
     obtain ⟨z101, hz102, h⟩ := bnd h
     refine e_call (is := [3, 2, 1, 0]) rfl rfl (call_run_fv (caps := #[(pq g1), (pq g2), (pq g11)]) Tryz.call129 rfl (by kernel_rfl) (by kernel_rfl)) rfl (fun w hp => t_vers_Merge_1 (gt b k_17.toNat) (hx55 (inb_lt hk100)).1 (ha.mono hl13) hac (hb.mono hl13) hbc ho23 hp hz102) ?_
     rintro Γ103 U105 v106 hl104 ⟨A107, c108, row109, rfl, rfl, hr110, _⟩
     change WR _ _ _ (CC F Γ103 [[(g1, .cells #[.slice Aa a.length ca] 43 (0, 0))], [(g2, .cells #[.slice Ab b.length cb] 43 (0, 0))], [(g11, .cells #[.slice A107 z101.length c108] 43 (0, 0))], row109]) _ _ (upd _ 35 (.tuple #[]))
     refine WR.done ?_
     refine WC.region ?_
     refine mv (v := .int .i64 k_17) ?_
     refine vb (q_add rfl rfl rfl) ?_
     refine as_ (v := .int .i64 (w64 (k_17 + 1))) ?_
     refine WR.nil ?_
     intro w hw
     exact ⟨(twin_14, i_15, (w64 (k_17 + 1)), z101), h, Γ103, A107, c108, row109, (sl_ (by kernel_rfl)), (hw.only (is := [3, 2, 1, 0]) rfl), (hl13.trans hl104), hr16, (w64_r _), hr110, trivial⟩
  ·
   refine WC.exit ?_
   change WC _ _ _ _ _ _
   refine WC.seq ?_
   refine WC.block ?_
   refine WC.rs ?_
   refine mv (v := .bool twin_14) ?_
   refine as_ (v := .bool twin_14) ?_
   refine WR.done ?_
   refine WC.cif h (by kernel_rfl) (fun hb111 h => ?_) (fun hb111 h => ?_)
   ·
    refine WC.rs ?_
    refine as_ (v := .slice none 0 0) ?_
    refine as_ (v := .int .i64 50) ?_
    refine WR.done ?_
    refine WC.ret ?_
    intro w hw
    have hw := hw.pad
    obtain rfl := Option.some.inj h
    subst hF
    exact end_e (is := [0]) (by kernel_rfl) hw rfl ⟨none, 0, [], rfl, rfl, (Own.nil verT _ 89), (show I64 50 by decide), trivial⟩
   ·
    refine WC.rs ?_
    refine vb (q_ldl (i := 1) (v := .slice A20 x19.length c21) rfl rfl Tryz.isAgg43 rfl rfl) ?_
    refine vb (q_len_slice rfl Tryz.underlying43 rfl) ?_
    refine vb (q_gtr rfl rfl rfl) ?_
    refine as_ (v := .bool (decide (512 < ((x19.length : Nat) : Int)))) ?_
    refine WR.done ?_
    refine WC.cif h (by kernel_rfl) (fun hb112 h => ?_) (fun hb112 h => ?_)
    ·
     refine WC.rs ?_
     refine as_ (v := .slice none 0 0) ?_
     refine as_ (v := .int .i64 3) ?_
     refine WR.done ?_
     refine WC.ret ?_
     intro w hw
     have hw := hw.pad
     obtain rfl := Option.some.inj h
     subst hF
     exact end_e (is := [0]) (by kernel_rfl) hw rfl ⟨none, 0, [], rfl, rfl, (Own.nil verT _ 89), (show I64 3 by decide), trivial⟩
    ·
     refine WC.skip ?_
     change WC _ _ _ _ _ _
     refine WC.rs ?_
     refine vb (q_ldl (i := 1) (v := .slice A20 x19.length c21) rfl rfl Tryz.isAgg43 rfl rfl) ?_
     refine as_ (v := .slice A20 x19.length c21) ?_
     refine as_ (v := .int .i64 0) ?_
     refine WR.done ?_
     refine WC.ret ?_
     intro w hw
     obtain rfl := Option.some.inj h
     subst hF
     exact end_e (is := [0]) (by kernel_rfl) hw rfl ⟨A20, c21, row22, rfl, rfl, ho23, (show I64 0 by decide), trivial⟩
theorem t_vers_Same {Γ : Gh} {w0 : World} {Aa : Option Addr} {ca : Nat} {a : List Ver} (ha : Sl verT Γ Aa a) (hac : a.length ≤ ca) {Ab : Option Addr} {cb : Nat} {b : List Ver} (hb : Sl verT Γ Ab b) (hbc : b.length ≤ cb) (hs : Sat Γ w0) {r : Bool} (h : m_vers_Same a b = some r) : Calls Tryz.prog 96 #[.slice Aa a.length ca, .slice Ab b.length cb] w0 (fun e w' => e = .returned (.bool r) ∧ Fr no w0 w') := by
 refine calls_of (N := 30) (rs := [4]) (args := [.slice Aa a.length ca, .slice Ab b.length cb]) Tryz.func96 rfl Tryz.ntmps96 Tryz.results96 rfl ?_
 obtain ⟨F, hF⟩ : ∃ F : Fm, F = ⟨no, w0, Γ⟩ := ⟨_, rfl⟩
 refine WC.here (C := CC F Γ []) ?_ (hF ▸ Cur.start0 hs)
 refine WC.rs ?_
 refine as_ (v := .bool false) ?_
 refine WR.done ?_
 refine WC.seq ?_
 refine WC.rs ?_
 refine mv (v := .slice Aa a.length ca) ?_
 refine vb (q_len_slice rfl Tryz.underlying43 rfl) ?_
 refine mv (v := .slice Ab b.length cb) ?_
 refine vb (q_len_slice rfl Tryz.underlying43 rfl) ?_
 refine vb (q_min rfl rfl rfl) ?_
 refine mv (v := .int .i64 0) ?_
 refine WR.done ?_
 refine WC.block ?_
 refine WC.forU h (fun (i2 : Nat) (s : Unit) σ w => match s with | () => slots σ [(0, .slice Aa a.length ca), (1, .slice Ab b.length cb), (10, .int .i64 (min ((a.length : Nat) : Int) ((b.length : Nat) : Int))), (11, .int .i64 ((i2 : Nat) : Int))] ∧ CC F Γ [] w ∧ True) ?_ ?_
 ·
  intro w hw
  exact ⟨(sl_ (by kernel_rfl)), hw, trivial⟩
 rintro f1 i2 ⟨⟩ σ w hi3 hlt4 hge5 ⟨hsl, hw, -⟩
 refine Wpt.slots hsl ?_
 refine WC.here (C := CC F Γ []) ?_ hw
 clear hw hsl
 refine WC.rs ?_
 refine vb (q_lss rfl rfl rfl) ?_
 refine WR.done ?_
 refine WC.seq ?_
 refine WC.cond (b := (decide (((i2 : Nat) : Int) < (min ((a.length : Nat) : Int) ((b.length : Nat) : Int))))) (by kernel_rfl) (fun hb6 => ?_) (fun hb6 => ?_)
 ·
  have hl7 := ilti hb6
  have h := hlt4 hl7
  refine WC.skip ?_
  change WC _ _ _ _ _ _
  refine WC.seq ?_
  refine WC.block ?_
  refine WC.rs ?_
  refine mv (v := .int .i64 ((i2 : Nat) : Int)) ?_
  refine as_ (v := .int .i64 ((i2 : Nat) : Int)) ?_
  refine WR.done ?_
  refine WC.seq ?_
  refine WC.dr (by kernel_rfl) (by kernel_rfl) (fun w hw => hw.drawn _) ?_
  refine wa rfl rfl rfl (q_move (v := .slice Aa a.length ca) rfl (by kernel_rfl)) ?_
  refine wa rfl rfl rfl (q_move (v := .int .i64 ((i2 : Nat) : Int)) rfl (by kernel_rfl)) ?_
  obtain ⟨hk8, h⟩ := chk_some h
  refine wa rfl rfl rfl (q_ixn (i := i2) Tryz.underlying43 Tryz.sizeOf89 rfl rfl rfl (of_decide_eq_true hk8) (ha.some_ (of_decide_eq_true hk8))) ?_
  obtain ⟨A9, c10, hx11⟩ := ha.verT_at i2
  refine wa rfl rfl rfl (q_lda (c := 0) (vs := [.int .i64 (gt a i2).dot.s, .int .i64 (gt a i2).dot.n, .slice A9 ((gt a i2).past).length c10, .bool (gt a i2).gone, .string (gt a i2).val]) (hx11 (of_decide_eq_true hk8)).2 rfl Tryz.isAgg89 Tryz.sizeOf89 rfl rfl rfl) ?_
  refine wa rfl rfl rfl (q_move (v := .slice Ab b.length cb) rfl (by kernel_rfl)) ?_
  refine wa rfl rfl rfl (q_move (v := .int .i64 ((i2 : Nat) : Int)) rfl (by kernel_rfl)) ?_
  obtain ⟨hk12, h⟩ := chk_some h
  refine wa rfl rfl rfl (q_ixn (i := i2) Tryz.underlying43 Tryz.sizeOf89 rfl rfl rfl (of_decide_eq_true hk12) (hb.some_ (of_decide_eq_true hk12))) ?_
  obtain ⟨A13, c14, hx15⟩ := hb.verT_at i2
  refine wa rfl rfl rfl (q_lda (c := 0) (vs := [.int .i64 (gt b i2).dot.s, .int .i64 (gt b i2).dot.n, .slice A13 ((gt b i2).past).length c14, .bool (gt b i2).gone, .string (gt b i2).val]) (hx15 (of_decide_eq_true hk12)).2 rfl Tryz.isAgg89 Tryz.sizeOf89 rfl rfl rfl) ?_
  obtain ⟨z16, hz17, h⟩ := bnd h
  refine wc rfl rfl rfl (q_call (call_run Tryz.call133 rfl rfl (by kernel_rfl)) (fun w hw => t_vers_same (Γ := Gh.all w) (gt a i2) (Ver.fits_mono (hx11 (of_decide_eq_true hk8)).1 hw.sat.le_all) (gt b i2) (Ver.fits_mono (hx15 (of_decide_eq_true hk12)).1 hw.sat.le_all) (Sat.all w) hz17)) ?_
  refine wa rfl rfl rfl (q_not rfl rfl) ?_
  refine WQ.nil ?_
  change WC _ _ _ _ _ _
  refine WC.cif h (by kernel_rfl) (fun hb18 h => ?_) (fun hb18 h => ?_)
  ·
   refine WC.rs ?_
   refine as_ (v := .bool false) ?_
   refine WR.done ?_
   refine WC.ret ?_
   intro w hw
   obtain rfl := Option.some.inj h
   subst hF
   exact ⟨by kernel_rfl, hw.fr⟩
  ·
   refine WC.skip ?_
   change WC _ _ _ _ _ _
   refine WC.region ?_
   refine vb (q_add_r (r := ((i2 + 1 : Nat) : Int)) rfl rfl rfl (ctr_int hl7 (min_r (len_r ha.le) (len_r hb.le)))) ?_
   refine mv (v := .int .i64 ((i2 + 1 : Nat) : Int)) ?_
   refine WR.nil ?_
   intro w hw
   exact ⟨hl7, (), h, (sl_ (by kernel_rfl)), hw, trivial⟩
 ·
  have h := hge5 (igei hb6)
  refine WC.exit ?_
  change WC _ _ _ _ _ _
  refine WC.rs ?_
  refine mv (v := .slice Aa a.length ca) ?_
  refine vb (q_len_slice rfl Tryz.underlying43 rfl) ?_
  refine mv (v := .slice Ab b.length cb) ?_
  refine vb (q_len_slice rfl Tryz.underlying43 rfl) ?_
  refine vb (q_eql rfl rfl rfl) ?_
  refine as_ (v := .bool (((a.length : Nat) : Int) == ((b.length : Nat) : Int))) ?_
  refine WR.done ?_
  refine WC.ret ?_
  intro w hw
  obtain rfl := Option.some.inj h
  subst hF
  exact ⟨by kernel_rfl, hw.fr⟩
abbrev r_num_PutNum (r : List UInt8) (U : List Rowb) (Γ : Gh) (v : Value) : Prop := ∃ (A0 : Option Addr), ∃ (c0 : Nat), ∃ (row0 : Rowb), v = .slice A0 r.length c0 ∧ U = [row0] ∧ Own byteT Γ 5 row0 A0 c0 r ∧ True
theorem t_num_PutNum {Γ : Gh} {w0 : World} (n : Int) (hn : I64 n) (hp : Pre [] Γ w0) {r : List UInt8} (h : m_num_PutNum n = some r) : Calls Tryz.prog 171 #[.int .i64 n] w0 (Outc Γ [] w0 (r_num_PutNum r)) := by
 refine calls_of (N := 23) (rs := [2]) (args := [.int .i64 n]) Tryz.func171 rfl Tryz.ntmps171 Tryz.results171 rfl ?_
 obtain ⟨F, hF⟩ : ∃ F : Fm, F = ⟨ids [], w0, Γ⟩ := ⟨_, rfl⟩
 refine WC.here (C := CC F Γ []) ?_ (hF ▸ hp.start)
 refine WC.rs ?_
 refine as_ (v := .slice none 0 0) ?_
 refine WR.done ?_
 refine WC.rs ?_
 refine as_ (v := .slice none 0 0) ?_
 refine WR.done ?_
 refine WC.rs ?_
 refine mv (v := .int .i64 n) ?_
 refine vb (q_max rfl rfl rfl) ?_
 refine vb (q_conv Tryz.underlying82 Tryz.underlying2 rfl rfl) ?_
 refine as_ (v := .int .u64 (wu64 (max n 0))) ?_
 refine WR.done ?_
 refine WC.seq ?_
 refine WC.block ?_
 refine WC.loopN h (fun (s : (List UInt8) × Int) σ w => match s with | (b_1, u_6) => ∃ (A2 : Option Addr), ∃ (c3 : Nat), ∃ (row4 : Rowb), slots σ [(3, .slice A2 b_1.length c3), (4, .int .u64 u_6)] ∧ CC F Γ [row4] w ∧ Own byteT Γ 5 row4 A2 c3 b_1 ∧ True) ?_ ?_
 ·
  intro w hw
  have hw := hw.pad
  exact ⟨none, 0, [], (sl_ (by kernel_rfl)), hw, (Own.nil byteT _ 5), trivial⟩
 rintro f7 ⟨b_1, u_6⟩ σ w h ⟨A2, c3, row4, hsl, hw, ho5, -⟩
 refine Wpt.slots hsl ?_
 refine WC.here (C := CC F Γ [row4]) ?_ hw
 clear hw hsl
 refine WC.seq ?_
 refine WC.rs ?_
 refine mv (v := .int .u64 u_6) ?_
 refine vb (q_gtr rfl rfl rfl) ?_
 refine WR.done ?_
 refine WC.cif h (by kernel_rfl) (fun hb11 h => ?_) (fun hb11 h => ?_)
 ·
  refine WC.skip ?_
  change WC _ _ _ _ _ _
  refine WC.seq ?_
  refine WC.block ?_
  refine WC.region ?_
  refine mv (v := .slice A2 b_1.length c3) ?_
  refine mv (v := .int .u64 u_6) ?_
  refine vb (q_conv Tryz.underlying5 Tryz.underlying82 rfl rfl) ?_
  refine vb (q_or rfl rfl rfl) ?_
  refine e_buildSlice (cs := #[.int .u8 (ior .u8 (wu8 u_6) 128)]) (e := 5) rfl rfl rfl rfl (fun w => by kernel_rfl) ?_
  intro g12
  obtain ⟨hk13, h⟩ := chk_some h
  obtain ⟨hk14, h⟩ := chk_some h
  refine e_append (T := byteT) (xs := b_1) (ys := [(b8 (ior .u8 (wu8 u_6) 128))]) elem_77 (i := 1) rfl rfl rfl rfl rfl rfl rfl ho5 (of_decide_eq_true hk14) (fun w hw => src_one (T := byteT) (y := (b8 (ior .u8 (wu8 u_6) 128))) (i := 0) rfl (by exact (by show [Value.int .u8 (ior .u8 (wu8 u_6) 128)] = [Value.int .u8 _]; rw [b8_val (u8b_of hk13)])) hw) ?_
  intro row15 A16 c17 ho18
  refine as_ (v := .slice A16 (b_1 ++ [(b8 (ior .u8 (wu8 u_6) 128))]).length c17) ?_
  refine WR.nil ?_
  change WC _ _ _ _ _ _
  refine WC.region ?_
  refine mv (v := .int .u64 u_6) ?_
  refine vb (q_shr rfl rfl rfl (by decide)) ?_
  refine as_ (v := .int .u64 (ishr .u64 u_6 7)) ?_
  refine WR.nil ?_
  intro w hw
  exact ⟨((b_1 ++ [(b8 (ior .u8 (wu8 u_6) 128))]), (ishr .u64 u_6 7)), h, A16, c17, row15, (sl_ (by kernel_rfl)), (hw.only (is := [1]) rfl), ho18, trivial⟩
 ·
  refine WC.exit ?_
  change WC _ _ _ _ _ _
  refine WC.rs ?_
  refine mv (v := .slice A2 b_1.length c3) ?_
  refine mv (v := .int .u64 u_6) ?_
  refine vb (q_conv Tryz.underlying5 Tryz.underlying82 rfl rfl) ?_
  refine e_buildSlice (cs := #[.int .u8 (wu8 u_6)]) (e := 5) rfl rfl rfl rfl (fun w => by kernel_rfl) ?_
  intro g19
  obtain ⟨hk20, h⟩ := chk_some h
  refine e_append (T := byteT) (xs := b_1) (ys := [(b8 (wu8 u_6))]) elem_77 (i := 1) rfl rfl rfl rfl rfl rfl rfl ho5 (of_decide_eq_true hk20) (fun w hw => src_one (T := byteT) (y := (b8 (wu8 u_6))) (i := 0) rfl (by exact (by show [Value.int .u8 (wu8 u_6)] = [Value.int .u8 _]; rw [b8_val (wu8_r _)])) hw) ?_
  intro row21 A22 c23 ho24
  refine as_ (v := .slice A22 (b_1 ++ [(b8 (wu8 u_6))]).length c23) ?_
  refine WR.done ?_
  refine WC.ret ?_
  intro w hw
  obtain rfl := Option.some.inj h
  subst hF
  exact end_e (is := [1]) (by kernel_rfl) hw rfl ⟨A22, c23, row21, rfl, rfl, ho24, trivial⟩
abbrev r_num_PutText (r : List UInt8) (U : List Rowb) (Γ : Gh) (v : Value) : Prop := ∃ (A0 : Option Addr), ∃ (c0 : Nat), ∃ (row0 : Rowb), v = .slice A0 r.length c0 ∧ U = [row0] ∧ Own byteT Γ 5 row0 A0 c0 r ∧ True
theorem t_num_PutText {Γ : Gh} {w0 : World} (s_ : ByteArray) (hs_ : s_.size ≤ lim) (hp : Pre [] Γ w0) {r : List UInt8} (h : m_num_PutText s_ = some r) : Calls Tryz.prog 195 #[.string s_] w0 (Outc Γ [] w0 (r_num_PutText r)) := by
 refine calls_of (N := 8) (rs := [2]) (args := [.string s_]) Tryz.func195 rfl Tryz.ntmps195 Tryz.results195 rfl ?_
 obtain ⟨F, hF⟩ : ∃ F : Fm, F = ⟨ids [], w0, Γ⟩ := ⟨_, rfl⟩
 refine WC.here (C := CC F Γ []) ?_ (hF ▸ hp.start)
 refine WC.rs ?_
 refine as_ (v := .slice none 0 0) ?_
 refine WR.done ?_
 refine WC.rs ?_
 refine mv (v := .string s_) ?_
 refine vb (q_len_str rfl Tryz.underlying9 rfl) ?_
 obtain ⟨z1, hz2, h⟩ := bnd h
 refine e_call (is := []) rfl rfl (call_run Tryz.call171 rfl rfl (by kernel_rfl)) rfl (fun w hp => t_num_PutNum ((s_.size : Nat) : Int) (len_r hs_) hp hz2) ?_
 rintro Γ3 U5 v6 hl4 ⟨A7, c8, row9, rfl, rfl, hr10, _⟩
 change WR _ _ _ (CC F Γ3 [row9]) _ _ (upd _ 5 (.slice A7 z1.length c8))
 refine mv (v := .string s_) ?_
 obtain ⟨hk11, h⟩ := chk_some h
 refine e_append_str (xs := z1) (s := s_) (ti := Tryz.t5) Tryz.underlying77 Tryz.underlying9 (by kernel_rfl) (by kernel_rfl) (by kernel_rfl) (by kernel_rfl) (i := 0) rfl rfl rfl rfl rfl rfl rfl hr10 (of_decide_eq_true hk11) ?_
 intro row12 A13 c14 ho15
 refine as_ (v := .slice A13 (z1 ++ s_.data.toList).length c14) ?_
 refine WR.done ?_
 refine WC.ret ?_
 intro w hw
 obtain rfl := Option.some.inj h
 subst hF
 exact end_e (is := [0]) (by kernel_rfl) hw rfl ⟨A13, c14, row12, rfl, rfl, ho15, trivial⟩
abbrev r_code_writer_text (gw_ : Nat) (ew_ : Nat) (r : Ocode_writer) (U : List Rowb) (Γ : Gh) (v : Value) : Prop := ∃ (roww_' : Rowb), v = .tuple #[] ∧ U = [roww_'] ∧ Ocode_writer.ob ew_ Γ gw_ roww_' r ∧ True
theorem t_code_writer_text {Γ : Gh} {w0 : World} {gw_ ew_ : Nat} {roww_ : Rowb} {w_ : Ocode_writer} (hw_ : Ocode_writer.ob ew_ Γ gw_ roww_ w_) (s_ : ByteArray) (hs_ : s_.size ≤ lim) (hp : Pre [roww_] Γ w0) {r : Ocode_writer} (h : m_code_writer_text w_ s_ = some r) : Calls Tryz.prog 168 #[(pq gw_), .string s_] w0 (Outc Γ [roww_] w0 (r_code_writer_text gw_ ew_ r)) := by
 refine calls_of (N := 14) (rs := []) (args := [(pq gw_), .string s_]) Tryz.func168 rfl Tryz.ntmps168 Tryz.results168 rfl ?_
 obtain ⟨F, hF⟩ : ∃ F : Fm, F = ⟨ids [roww_], w0, Γ⟩ := ⟨_, rfl⟩
 refine WC.here (C := CC F Γ [roww_]) ?_ (hF ▸ hp.start)
 intro w hw; have h01 := hw.le
 refine WC.here (C := CC F Γ [roww_]) ?_ hw; clear hw
 refine WC.held (CC F Γ []) (by kernel_rfl) (fun w hw => hw.drawn _) ?_
 change WH _ _ _ _ (CC F Γ [roww_]) _ 11 #[false, false, false, false, false, false, false, false, false, false, false] _
 refine hu 0 rfl (bk_ (Gh.refl _) h01 (.cons _ .slnil)) (q_move (v := (pq gw_)) rfl (by kernel_rfl)) ?_
 refine hu 1 rfl (bk_ (Gh.refl _) h01 (.cons _ .slnil)) (q_move (v := (pq gw_)) rfl (by kernel_rfl)) ?_
 refine hu 2 rfl (bk_ (Gh.refl _) h01 (.cons _ .slnil)) (q_nil (A := some ⟨gw_, 0, none⟩) rfl rfl rfl) ?_
 refine hu 3 rfl (bk_ (Gh.refl _) h01 (.cons _ .slnil)) (q_fl 0 fld_202_0 rfl rfl rfl) ?_
 refine hu 5 rfl (bk_ (Gh.refl _) h01 (.cons _ .slnil)) (q_move (v := .string s_) rfl (by kernel_rfl)) ?_
 obtain ⟨z2, hz3, h⟩ := bnd h
 refine WH.each (l := [4, 6]) (by kernel_rfl) (by simp) ?_
 intro i hi; simp only [List.mem_cons, List.not_mem_nil, or_false] at hi
 rcases hi with rfl | rfl
 ·
  refine ⟨_, rfl, ?_⟩
  have hq := hw_
  obtain ⟨A0_4, c0_4, r0_4, hrow_4, ho0_4, -⟩ := hq
  intro w hw; have hw := hw.unfold (i := 0) rfl hrow_4
  refine WR.here (C := CC F Γ [[(gw_, .cells #[.slice A0_4 w_.b.length c0_4] ew_ (0, 0))], r0_4]) ?_ hw
  clear hw
  refine vb (q_ldl (i := 0) (v := .slice A0_4 w_.b.length c0_4) rfl rfl Tryz.isAgg77 rfl rfl) ?_
  refine WR.nil ?_
  refine WH.next (bk_ (Gh.refl _) h01 (.cons _ (.cons _ .slnil))) ?_
  refine WH.lone (i := 6) (by kernel_rfl) rfl ?_
  refine e_call (is := []) rfl rfl (call_run Tryz.call195 rfl rfl (by kernel_rfl)) rfl (fun w hp => t_num_PutText s_ hs_ hp hz3) ?_
  rintro Γ5 U7 v8 hl6 ⟨A9, c10, row11, rfl, rfl, hr12, _⟩
  change WR _ _ _ (CC F Γ5 [row11, [(gw_, .cells #[.slice A0_4 w_.b.length c0_4] ew_ (0, 0))], r0_4]) _ _ (upd _ 10 (.slice A9 z2.length c10))
  refine WR.nil ?_
  refine WH.next (bk_ hl6 h01 (.cons _ (.cons _ (.cons _ .slnil)))) ?_
  refine WH.lone (i := 7) (by kernel_rfl) rfl ?_
  obtain ⟨hk13, h⟩ := chk_some h
  refine e_append (T := byteT) (xs := w_.b) (ys := z2) elem_77 (i := 2) rfl rfl rfl rfl rfl rfl rfl (ho0_4.mono hl6) (of_decide_eq_true hk13) (fun w hw => src_own (i := 0) rfl hr12 hw) ?_
  intro row14 A15 c16 ho17
  refine WR.nil ?_
  refine WH.next (bk_ hl6 h01 (.cons _ (.cons _ (.cons _ .slnil)))) ?_
  refine hu 8 rfl (bk_ hl6 h01 (.cons _ (.cons _ (.cons _ .slnil)))) (q_nil (A := some ⟨gw_, 0, none⟩) rfl rfl rfl) ?_
  refine hu 9 rfl (bk_ hl6 h01 (.cons _ (.cons _ (.cons _ .slnil)))) (q_fl 0 fld_202_0 rfl rfl rfl) ?_
  refine WH.lone (i := 10) (by kernel_rfl) rfl ?_
  refine e_st (i := 1) (v := .slice A15 (w_.b ++ z2).length c16) (new := #[.slice A15 (w_.b ++ z2).length c16]) rfl Tryz.sizeOf77 rfl rfl rfl rfl (by kernel_rfl) rfl rfl rfl rfl ?_
  refine WR.nil ?_
  refine WH.next (bk_ hl6 h01 (.cons _ (.cons _ (.cons _ .slnil)))) ?_
  refine WH.done (by kernel_rfl) ?_
  intro w hw
  obtain ⟨row_18, hrow_18, hob_18⟩ : ∃ rw : Rowb, rw = ([[(gw_, .cells #[.slice A15 (w_.b ++ z2).length c16] ew_ (0, 0))], row14] : List Rowb).flatten ∧ Ocode_writer.ob ew_ Γ5 gw_ rw (⟨(w_.b ++ z2)⟩ : Ocode_writer) := ⟨_, rfl, A15, c16, row14, rfl, ho17, trivial⟩
  have hw := hw.fold (is := [1, 1]) rfl hrow_18
  obtain rfl := Option.some.inj h
  subst hF
  exact end_e (is := [0]) (by kernel_rfl) hw rfl ⟨row_18, rfl, rfl, hob_18, trivial⟩
 ·
  refine ⟨_, rfl, ?_⟩
  refine e_call (is := []) rfl rfl (call_run Tryz.call195 rfl rfl (by kernel_rfl)) rfl (fun w hp => t_num_PutText s_ hs_ hp hz3) ?_
  rintro Γ4 U6 v7 hl5 ⟨A8, c9, row10, rfl, rfl, hr11, _⟩
  change WR _ _ _ (CC F Γ4 [row10, roww_]) _ _ (upd _ 10 (.slice A8 z2.length c9))
  refine WR.nil ?_
  refine WH.next (bk_ hl5 h01 (.cons _ (.cons _ .slnil))) ?_
  refine WH.lone (i := 4) (by kernel_rfl) rfl ?_
  have hq := (hw_.mono hl5)
  obtain ⟨A0_12, c0_12, r0_12, hrow_12, ho0_12, -⟩ := hq
  intro w hw; have hw := hw.unfold (i := 1) rfl hrow_12
  refine WR.here (C := CC F Γ4 [[(gw_, .cells #[.slice A0_12 w_.b.length c0_12] ew_ (0, 0))], r0_12, row10]) ?_ hw
  clear hw
  refine vb (q_ldl (i := 0) (v := .slice A0_12 w_.b.length c0_12) rfl rfl Tryz.isAgg77 rfl rfl) ?_
  refine WR.nil ?_
  refine WH.next (bk_ hl5 h01 (.cons _ (.cons _ (.cons _ .slnil)))) ?_
  refine WH.lone (i := 7) (by kernel_rfl) rfl ?_
  obtain ⟨hk13, h⟩ := chk_some h
  refine e_append (T := byteT) (xs := w_.b) (ys := z2) elem_77 (i := 1) rfl rfl rfl rfl rfl rfl rfl ho0_12 (of_decide_eq_true hk13) (fun w hw => src_own (i := 2) rfl hr11 hw) ?_
  intro row14 A15 c16 ho17
  refine WR.nil ?_
  refine WH.next (bk_ hl5 h01 (.cons _ (.cons _ (.cons _ .slnil)))) ?_
  refine hu 8 rfl (bk_ hl5 h01 (.cons _ (.cons _ (.cons _ .slnil)))) (q_nil (A := some ⟨gw_, 0, none⟩) rfl rfl rfl) ?_
  refine hu 9 rfl (bk_ hl5 h01 (.cons _ (.cons _ (.cons _ .slnil)))) (q_fl 0 fld_202_0 rfl rfl rfl) ?_
  refine WH.lone (i := 10) (by kernel_rfl) rfl ?_
  refine e_st (i := 0) (v := .slice A15 (w_.b ++ z2).length c16) (new := #[.slice A15 (w_.b ++ z2).length c16]) rfl Tryz.sizeOf77 rfl rfl rfl rfl (by kernel_rfl) rfl rfl rfl rfl ?_
  refine WR.nil ?_
  refine WH.next (bk_ hl5 h01 (.cons _ (.cons _ (.cons _ .slnil)))) ?_
  refine WH.done (by kernel_rfl) ?_
  intro w hw
  obtain ⟨row_18, hrow_18, hob_18⟩ : ∃ rw : Rowb, rw = ([[(gw_, .cells #[.slice A15 (w_.b ++ z2).length c16] ew_ (0, 0))], row14] : List Rowb).flatten ∧ Ocode_writer.ob ew_ Γ4 gw_ rw (⟨(w_.b ++ z2)⟩ : Ocode_writer) := ⟨_, rfl, A15, c16, row14, rfl, ho17, trivial⟩
  have hw := hw.fold (is := [0, 0]) rfl hrow_18
  obtain rfl := Option.some.inj h
  subst hF
  exact end_e (is := [0]) (by kernel_rfl) hw rfl ⟨row_18, rfl, rfl, hob_18, trivial⟩
abbrev r_code_writer_num (gw_ : Nat) (ew_ : Nat) (r : Ocode_writer) (U : List Rowb) (Γ : Gh) (v : Value) : Prop := ∃ (roww_' : Rowb), v = .tuple #[] ∧ U = [roww_'] ∧ Ocode_writer.ob ew_ Γ gw_ roww_' r ∧ True
theorem t_code_writer_num {Γ : Gh} {w0 : World} {gw_ ew_ : Nat} {roww_ : Rowb} {w_ : Ocode_writer} (hw_ : Ocode_writer.ob ew_ Γ gw_ roww_ w_) (n : Int) (hn : I64 n) (hp : Pre [roww_] Γ w0) {r : Ocode_writer} (h : m_code_writer_num w_ n = some r) : Calls Tryz.prog 197 #[(pq gw_), .int .i64 n] w0 (Outc Γ [roww_] w0 (r_code_writer_num gw_ ew_ r)) := by
 refine calls_of (N := 14) (rs := []) (args := [(pq gw_), .int .i64 n]) Tryz.func197 rfl Tryz.ntmps197 Tryz.results197 rfl ?_
 obtain ⟨F, hF⟩ : ∃ F : Fm, F = ⟨ids [roww_], w0, Γ⟩ := ⟨_, rfl⟩
 refine WC.here (C := CC F Γ [roww_]) ?_ (hF ▸ hp.start)
 intro w hw; have h01 := hw.le
 refine WC.here (C := CC F Γ [roww_]) ?_ hw; clear hw
 refine WC.held (CC F Γ []) (by kernel_rfl) (fun w hw => hw.drawn _) ?_
 change WH _ _ _ _ (CC F Γ [roww_]) _ 11 #[false, false, false, false, false, false, false, false, false, false, false] _
 refine hu 0 rfl (bk_ (Gh.refl _) h01 (.cons _ .slnil)) (q_move (v := (pq gw_)) rfl (by kernel_rfl)) ?_
 refine hu 1 rfl (bk_ (Gh.refl _) h01 (.cons _ .slnil)) (q_move (v := (pq gw_)) rfl (by kernel_rfl)) ?_
 refine hu 2 rfl (bk_ (Gh.refl _) h01 (.cons _ .slnil)) (q_nil (A := some ⟨gw_, 0, none⟩) rfl rfl rfl) ?_
 refine hu 3 rfl (bk_ (Gh.refl _) h01 (.cons _ .slnil)) (q_fl 0 fld_202_0 rfl rfl rfl) ?_
 refine hu 5 rfl (bk_ (Gh.refl _) h01 (.cons _ .slnil)) (q_move (v := .int .i64 n) rfl (by kernel_rfl)) ?_
 obtain ⟨z2, hz3, h⟩ := bnd h
 refine WH.each (l := [4, 6]) (by kernel_rfl) (by simp) ?_
 intro i hi; simp only [List.mem_cons, List.not_mem_nil, or_false] at hi
 rcases hi with rfl | rfl
 ·
  refine ⟨_, rfl, ?_⟩
  have hq := hw_
  obtain ⟨A0_4, c0_4, r0_4, hrow_4, ho0_4, -⟩ := hq
  intro w hw; have hw := hw.unfold (i := 0) rfl hrow_4
  refine WR.here (C := CC F Γ [[(gw_, .cells #[.slice A0_4 w_.b.length c0_4] ew_ (0, 0))], r0_4]) ?_ hw
  clear hw
  refine vb (q_ldl (i := 0) (v := .slice A0_4 w_.b.length c0_4) rfl rfl Tryz.isAgg77 rfl rfl) ?_
  refine WR.nil ?_
  refine WH.next (bk_ (Gh.refl _) h01 (.cons _ (.cons _ .slnil))) ?_
  refine WH.lone (i := 6) (by kernel_rfl) rfl ?_
  refine e_call (is := []) rfl rfl (call_run Tryz.call171 rfl rfl (by kernel_rfl)) rfl (fun w hp => t_num_PutNum n hn hp hz3) ?_
  rintro Γ5 U7 v8 hl6 ⟨A9, c10, row11, rfl, rfl, hr12, _⟩
  change WR _ _ _ (CC F Γ5 [row11, [(gw_, .cells #[.slice A0_4 w_.b.length c0_4] ew_ (0, 0))], r0_4]) _ _ (upd _ 10 (.slice A9 z2.length c10))
  refine WR.nil ?_
  refine WH.next (bk_ hl6 h01 (.cons _ (.cons _ (.cons _ .slnil)))) ?_
  refine WH.lone (i := 7) (by kernel_rfl) rfl ?_
  obtain ⟨hk13, h⟩ := chk_some h
  refine e_append (T := byteT) (xs := w_.b) (ys := z2) elem_77 (i := 2) rfl rfl rfl rfl rfl rfl rfl (ho0_4.mono hl6) (of_decide_eq_true hk13) (fun w hw => src_own (i := 0) rfl hr12 hw) ?_
  intro row14 A15 c16 ho17
  refine WR.nil ?_
  refine WH.next (bk_ hl6 h01 (.cons _ (.cons _ (.cons _ .slnil)))) ?_
  refine hu 8 rfl (bk_ hl6 h01 (.cons _ (.cons _ (.cons _ .slnil)))) (q_nil (A := some ⟨gw_, 0, none⟩) rfl rfl rfl) ?_
  refine hu 9 rfl (bk_ hl6 h01 (.cons _ (.cons _ (.cons _ .slnil)))) (q_fl 0 fld_202_0 rfl rfl rfl) ?_
  refine WH.lone (i := 10) (by kernel_rfl) rfl ?_
  refine e_st (i := 1) (v := .slice A15 (w_.b ++ z2).length c16) (new := #[.slice A15 (w_.b ++ z2).length c16]) rfl Tryz.sizeOf77 rfl rfl rfl rfl (by kernel_rfl) rfl rfl rfl rfl ?_
  refine WR.nil ?_
  refine WH.next (bk_ hl6 h01 (.cons _ (.cons _ (.cons _ .slnil)))) ?_
  refine WH.done (by kernel_rfl) ?_
  intro w hw
  obtain ⟨row_18, hrow_18, hob_18⟩ : ∃ rw : Rowb, rw = ([[(gw_, .cells #[.slice A15 (w_.b ++ z2).length c16] ew_ (0, 0))], row14] : List Rowb).flatten ∧ Ocode_writer.ob ew_ Γ5 gw_ rw (⟨(w_.b ++ z2)⟩ : Ocode_writer) := ⟨_, rfl, A15, c16, row14, rfl, ho17, trivial⟩
  have hw := hw.fold (is := [1, 1]) rfl hrow_18
  obtain rfl := Option.some.inj h
  subst hF
  exact end_e (is := [0]) (by kernel_rfl) hw rfl ⟨row_18, rfl, rfl, hob_18, trivial⟩
 ·
  refine ⟨_, rfl, ?_⟩
  refine e_call (is := []) rfl rfl (call_run Tryz.call171 rfl rfl (by kernel_rfl)) rfl (fun w hp => t_num_PutNum n hn hp hz3) ?_
  rintro Γ4 U6 v7 hl5 ⟨A8, c9, row10, rfl, rfl, hr11, _⟩
  change WR _ _ _ (CC F Γ4 [row10, roww_]) _ _ (upd _ 10 (.slice A8 z2.length c9))
  refine WR.nil ?_
  refine WH.next (bk_ hl5 h01 (.cons _ (.cons _ .slnil))) ?_
  refine WH.lone (i := 4) (by kernel_rfl) rfl ?_
  have hq := (hw_.mono hl5)
  obtain ⟨A0_12, c0_12, r0_12, hrow_12, ho0_12, -⟩ := hq
  intro w hw; have hw := hw.unfold (i := 1) rfl hrow_12
  refine WR.here (C := CC F Γ4 [[(gw_, .cells #[.slice A0_12 w_.b.length c0_12] ew_ (0, 0))], r0_12, row10]) ?_ hw
  clear hw
  refine vb (q_ldl (i := 0) (v := .slice A0_12 w_.b.length c0_12) rfl rfl Tryz.isAgg77 rfl rfl) ?_
  refine WR.nil ?_
  refine WH.next (bk_ hl5 h01 (.cons _ (.cons _ (.cons _ .slnil)))) ?_
  refine WH.lone (i := 7) (by kernel_rfl) rfl ?_
  obtain ⟨hk13, h⟩ := chk_some h
  refine e_append (T := byteT) (xs := w_.b) (ys := z2) elem_77 (i := 1) rfl rfl rfl rfl rfl rfl rfl ho0_12 (of_decide_eq_true hk13) (fun w hw => src_own (i := 2) rfl hr11 hw) ?_
  intro row14 A15 c16 ho17
  refine WR.nil ?_
  refine WH.next (bk_ hl5 h01 (.cons _ (.cons _ (.cons _ .slnil)))) ?_
  refine hu 8 rfl (bk_ hl5 h01 (.cons _ (.cons _ (.cons _ .slnil)))) (q_nil (A := some ⟨gw_, 0, none⟩) rfl rfl rfl) ?_
  refine hu 9 rfl (bk_ hl5 h01 (.cons _ (.cons _ (.cons _ .slnil)))) (q_fl 0 fld_202_0 rfl rfl rfl) ?_
  refine WH.lone (i := 10) (by kernel_rfl) rfl ?_
  refine e_st (i := 0) (v := .slice A15 (w_.b ++ z2).length c16) (new := #[.slice A15 (w_.b ++ z2).length c16]) rfl Tryz.sizeOf77 rfl rfl rfl rfl (by kernel_rfl) rfl rfl rfl rfl ?_
  refine WR.nil ?_
  refine WH.next (bk_ hl5 h01 (.cons _ (.cons _ (.cons _ .slnil)))) ?_
  refine WH.done (by kernel_rfl) ?_
  intro w hw
  obtain ⟨row_18, hrow_18, hob_18⟩ : ∃ rw : Rowb, rw = ([[(gw_, .cells #[.slice A15 (w_.b ++ z2).length c16] ew_ (0, 0))], row14] : List Rowb).flatten ∧ Ocode_writer.ob ew_ Γ4 gw_ rw (⟨(w_.b ++ z2)⟩ : Ocode_writer) := ⟨_, rfl, A15, c16, row14, rfl, ho17, trivial⟩
  have hw := hw.fold (is := [0, 0]) rfl hrow_18
  obtain rfl := Option.some.inj h
  subst hF
  exact end_e (is := [0]) (by kernel_rfl) hw rfl ⟨row_18, rfl, rfl, hob_18, trivial⟩
abbrev r_code_writer_int (gw_ : Nat) (ew_ : Nat) (r : Ocode_writer) (U : List Rowb) (Γ : Gh) (v : Value) : Prop := ∃ (roww_' : Rowb), v = .tuple #[] ∧ U = [roww_'] ∧ Ocode_writer.ob ew_ Γ gw_ roww_' r ∧ True
theorem t_code_writer_int {Γ : Gh} {w0 : World} {gw_ ew_ : Nat} {roww_ : Rowb} {w_ : Ocode_writer} (hw_ : Ocode_writer.ob ew_ Γ gw_ roww_ w_) (n : Int) (hn : I64 n) (hp : Pre [roww_] Γ w0) {r : Ocode_writer} (h : m_code_writer_int w_ n = some r) : Calls Tryz.prog 196 #[(pq gw_), .int .i64 n] w0 (Outc Γ [roww_] w0 (r_code_writer_int gw_ ew_ r)) := by
 refine calls_of (N := 7) (rs := []) (args := [(pq gw_), .int .i64 n]) Tryz.func196 rfl Tryz.ntmps196 Tryz.results196 rfl ?_
 obtain ⟨F, hF⟩ : ∃ F : Fm, F = ⟨ids [roww_], w0, Γ⟩ := ⟨_, rfl⟩
 refine WC.here (C := CC F Γ [roww_]) ?_ (hF ▸ hp.start)
 refine WC.region ?_
 refine mv (v := (pq gw_)) ?_
 refine mv (v := .int .i64 n) ?_
 obtain ⟨z1, hz2, h⟩ := bnd h
 refine e_call (is := [0]) rfl rfl (call_run Tryz.call197 rfl rfl (by kernel_rfl)) rfl (fun w hp => t_code_writer_num hw_ n hn hp hz2) ?_
 rintro Γ3 U5 v6 hl4 ⟨row7, rfl, rfl, hr8, _⟩
 change WR _ _ _ (CC F Γ3 [row7]) _ _ (upd _ 6 (.tuple #[]))
 refine WR.nil ?_
 intro w hw
 obtain rfl := Option.some.inj h
 subst hF
 exact end_e (is := [0]) (by kernel_rfl) hw rfl ⟨row7, rfl, rfl, hr8, trivial⟩
abbrev r_code_writer_span (gw_ : Nat) (ew_ : Nat) (r : Ocode_writer) (U : List Rowb) (Γ : Gh) (v : Value) : Prop := ∃ (roww_' : Rowb), v = .tuple #[] ∧ U = [roww_'] ∧ Ocode_writer.ob ew_ Γ gw_ roww_' r ∧ True
theorem t_code_writer_span {Γ : Gh} {w0 : World} {gw_ ew_ : Nat} {roww_ : Rowb} {w_ : Ocode_writer} (hw_ : Ocode_writer.ob ew_ Γ gw_ roww_ w_) (x_ : Span) (hx_ : Span.fits Γ  x_) (hp : Pre [roww_] Γ w0) {r : Ocode_writer} (h : m_code_writer_span w_ x_ = some r) : Calls Tryz.prog 199 #[(pq gw_), .agg #[.int .i64 x_.s, .int .i64 x_.f, .int .i64 x_.t]] w0 (Outc Γ [roww_] w0 (r_code_writer_span gw_ ew_ r)) := by
 refine calls_of (N := 19) (rs := []) (args := [(pq gw_), .agg #[.int .i64 x_.s, .int .i64 x_.f, .int .i64 x_.t]]) Tryz.func199 rfl Tryz.ntmps199 Tryz.results199 rfl ?_
 obtain ⟨F, hF⟩ : ∃ F : Fm, F = ⟨ids [roww_], w0, Γ⟩ := ⟨_, rfl⟩
 refine WC.here (C := CC F Γ [roww_]) ?_ (hF ▸ hp.start)
 refine WC.rs ?_
 refine e_box (v := .agg #[.int .i64 x_.s, .int .i64 x_.f, .int .i64 x_.t]) rfl rfl rfl rfl (by kernel_rfl) ?_
 intro g1
 refine WR.done ?_
 refine WC.rs ?_
 refine mv (v := (pq gw_)) ?_
 refine vb (q_fl 0 fld_93_0 rfl rfl rfl) ?_
 refine vb (q_ldl (i := 0) (v := .int .i64 x_.s) rfl rfl Tryz.isAgg3 rfl rfl) ?_
 obtain ⟨z2, hz3, h⟩ := bnd h
 refine e_call (is := [1]) rfl rfl (call_run Tryz.call196 rfl rfl (by kernel_rfl)) rfl (fun w hp => t_code_writer_int hw_ x_.s hx_.1 hp hz3) ?_
 rintro Γ4 U6 v7 hl5 ⟨row8, rfl, rfl, hr9, _⟩
 change WR _ _ _ (CC F Γ4 [row8, [(g1, .cells #[.int .i64 x_.s, .int .i64 x_.f, .int .i64 x_.t] 93 (0, 0))]]) _ _ (upd _ 7 (.tuple #[]))
 refine WR.done ?_
 refine WC.rs ?_
 refine mv (v := (pq gw_)) ?_
 refine vb (q_fl 1 fld_93_1 rfl rfl rfl) ?_
 refine vb (q_ldl (i := 1) (v := .int .i64 x_.f) rfl rfl Tryz.isAgg2 rfl rfl) ?_
 obtain ⟨z10, hz11, h⟩ := bnd h
 refine e_call (is := [0]) rfl rfl (call_run Tryz.call197 rfl rfl (by kernel_rfl)) rfl (fun w hp => t_code_writer_num hr9 x_.f hx_.2.1 hp hz11) ?_
 rintro Γ12 U14 v15 hl13 ⟨row16, rfl, rfl, hr17, _⟩
 change WR _ _ _ (CC F Γ12 [row16, [(g1, .cells #[.int .i64 x_.s, .int .i64 x_.f, .int .i64 x_.t] 93 (0, 0))]]) _ _ (upd _ 11 (.tuple #[]))
 refine WR.done ?_
 refine WC.region ?_
 refine mv (v := (pq gw_)) ?_
 refine vb (q_fl 2 fld_93_2 rfl rfl rfl) ?_
 refine vb (q_ldl (i := 1) (v := .int .i64 x_.t) rfl rfl Tryz.isAgg2 rfl rfl) ?_
 refine vb (q_fl 1 fld_93_1 rfl rfl rfl) ?_
 refine vb (q_ldl (i := 1) (v := .int .i64 x_.f) rfl rfl Tryz.isAgg2 rfl rfl) ?_
 refine vb (q_sub rfl rfl rfl) ?_
 obtain ⟨z18, hz19, h⟩ := bnd h
 refine e_call (is := [0]) rfl rfl (call_run Tryz.call197 rfl rfl (by kernel_rfl)) rfl (fun w hp => t_code_writer_num hr17 (w64 (x_.t - x_.f)) (w64_r _) hp hz19) ?_
 rintro Γ20 U22 v23 hl21 ⟨row24, rfl, rfl, hr25, _⟩
 change WR _ _ _ (CC F Γ20 [row24, [(g1, .cells #[.int .i64 x_.s, .int .i64 x_.f, .int .i64 x_.t] 93 (0, 0))]]) _ _ (upd _ 18 (.tuple #[]))
 refine WR.nil ?_
 intro w hw
 obtain rfl := Option.some.inj h
 subst hF
 exact end_e (is := [0]) (by kernel_rfl) hw rfl ⟨row24, rfl, rfl, hr25, trivial⟩
abbrev r_code_put_api_Span (gw_ : Nat) (ew_ : Nat) (r : Ocode_writer) (U : List Rowb) (Γ : Gh) (v : Value) : Prop := ∃ (roww_' : Rowb), v = .tuple #[] ∧ U = [roww_'] ∧ Ocode_writer.ob ew_ Γ gw_ roww_' r ∧ True
theorem t_code_put_api_Span {Γ : Gh} {w0 : World} {gw_ ew_ : Nat} {roww_ : Rowb} {w_ : Ocode_writer} (hw_ : Ocode_writer.ob ew_ Γ gw_ roww_ w_) {Al : Option Addr} {cl : Nat} {l : List Span} (hl : Sl spanT Γ Al l) (hlc : l.length ≤ cl) (hp : Pre [roww_] Γ w0) {r : Ocode_writer} (h : m_code_put_api_Span w_ l = some r) : Calls Tryz.prog 198 #[(pq gw_), .slice Al l.length cl, .func (.func 199) #[(pq gw_)] #[]] w0 (Outc Γ [roww_] w0 (r_code_put_api_Span gw_ ew_ r)) := by
 refine calls_of (N := 22) (rs := []) (args := [(pq gw_), .slice Al l.length cl, .func (.func 199) #[(pq gw_)] #[]]) Tryz.func198 rfl Tryz.ntmps198 Tryz.results198 rfl ?_
 obtain ⟨F, hF⟩ : ∃ F : Fm, F = ⟨ids [roww_], w0, Γ⟩ := ⟨_, rfl⟩
 refine WC.here (C := CC F Γ [roww_]) ?_ (hF ▸ hp.start)
 refine WC.rs ?_
 refine mv (v := (pq gw_)) ?_
 refine mv (v := .slice Al l.length cl) ?_
 refine vb (q_len_slice rfl Tryz.underlying87 rfl) ?_
 obtain ⟨z1, hz2, h⟩ := bnd h
 refine e_call (is := [0]) rfl rfl (call_run Tryz.call196 rfl rfl (by kernel_rfl)) rfl (fun w hp => t_code_writer_int hw_ ((l.length : Nat) : Int) (len_r hl.le) hp hz2) ?_
 rintro Γ3 U5 v6 hl4 ⟨row7, rfl, rfl, hr8, _⟩
 change WR _ _ _ (CC F Γ3 [row7]) _ _ (upd _ 11 (.tuple #[]))
 refine WR.done ?_
 refine WC.rs ?_
 refine mv (v := .slice Al l.length cl) ?_
 refine vb (q_len_slice rfl Tryz.underlying87 rfl) ?_
 refine mv (v := .int .i64 0) ?_
 refine WR.done ?_
 refine WC.block ?_
 refine WC.forI h (fun (i15 : Nat) (o11 : Ocode_writer) σ w => ∃ (Γ9 : Gh), ∃ (row12 : Rowb), slots σ [(2, .func (.func 199) #[(pq gw_)] #[]), (12, .slice Al l.length cl), (13, .int .i64 ((l.length : Nat) : Int)), (14, .int .i64 ((i15 : Nat) : Int))] ∧ CC F Γ9 [row12] w ∧ Gh.le Γ3 Γ9 ∧ Ocode_writer.ob ew_ Γ9 gw_ row12 o11 ∧ True) ?_ ?_
 ·
  intro w hw
  exact ⟨Γ3, row7, (sl_ (by kernel_rfl)), hw, (Gh.refl _), hr8, trivial⟩
 rintro f14 i15 o11 σ w hi16 hlt17 hge18 ⟨Γ9, row12, hsl, hw, hl10, ho13, -⟩
 refine Wpt.slots hsl ?_
 refine WC.here (C := CC F Γ9 [row12]) ?_ hw
 clear hw hsl
 refine WC.rs ?_
 refine vb (q_lss rfl rfl rfl) ?_
 refine WR.done ?_
 refine WC.seq ?_
 refine WC.cond (b := (decide (((i15 : Nat) : Int) < ((l.length : Nat) : Int)))) (by kernel_rfl) (fun hb19 => ?_) (fun hb19 => ?_)
 ·
  have hl20 := ilt hb19
  have h := hlt17 hl20
  refine WC.skip ?_
  change WC _ _ _ _ _ _
  refine WC.seq ?_
  refine WC.block ?_
  refine WC.rs ?_
  refine vb (q_ixn (i := i15) Tryz.underlying87 Tryz.sizeOf93 rfl rfl rfl hl20 ((hl.mono (hl4.trans hl10)).some_ hl20)) ?_
  refine vb (q_lda (c := 0) (vs := [.int .i64 (gt l i15).s, .int .i64 (gt l i15).f, .int .i64 (gt l i15).t]) ((hl.mono (hl4.trans hl10)).spanT_at hl20).2 rfl Tryz.isAgg93 Tryz.sizeOf93 rfl rfl rfl) ?_
  refine e_alloc Tryz.zeroValue93 rfl rfl rfl rfl ?_
  intro g21
  refine e_st (i := 0) (v := .agg #[.int .i64 (gt l i15).s, .int .i64 (gt l i15).f, .int .i64 (gt l i15).t]) (new := #[.int .i64 (gt l i15).s, .int .i64 (gt l i15).f, .int .i64 (gt l i15).t]) rfl Tryz.sizeOf93 rfl rfl rfl rfl (by kernel_rfl) rfl rfl rfl rfl ?_
  refine WR.done ?_
  refine WC.region ?_
  refine mv (v := .func (.func 199) #[(pq gw_)] #[]) ?_
  refine vb (q_ldla (i := 0) (vs := [.int .i64 (gt l i15).s, .int .i64 (gt l i15).f, .int .i64 (gt l i15).t]) rfl rfl Tryz.isAgg93 Tryz.sizeOf93 rfl rfl) ?_
  obtain ⟨z22, hz23, h⟩ := bnd h
  refine e_call (is := [1]) rfl rfl (call_run_fb (first := #[(pq gw_)]) Tryz.call199 rfl (by kernel_rfl) (by kernel_rfl)) rfl (fun w hp => t_code_writer_span ho13 (gt l i15) ((hl.mono (hl4.trans hl10)).spanT_at hl20).1 hp hz23) ?_
  rintro Γ24 U26 v27 hl25 ⟨row28, rfl, rfl, hr29, _⟩
  change WR _ _ _ (CC F Γ24 [row28, [(g21, .cells #[.int .i64 (gt l i15).s, .int .i64 (gt l i15).f, .int .i64 (gt l i15).t] 93 (0, 0))]]) _ _ (upd _ 20 (.tuple #[]))
  refine WR.nil ?_
  change WC _ _ _ _ _ _
  refine WC.region ?_
  refine vb (q_add_r (r := ((i15 + 1 : Nat) : Int)) rfl rfl rfl (ctr_len hl20 (hl.mono (hl4.trans hl10)).le)) ?_
  refine mv (v := .int .i64 ((i15 + 1 : Nat) : Int)) ?_
  refine WR.nil ?_
  intro w hw
  exact ⟨hl20, z22, h, Γ24, row28, (sl_ (by kernel_rfl)), (hw.only (is := [0]) rfl), (hl10.trans hl25), hr29, trivial⟩
 ·
  have h := hge18 (ige hb19)
  refine WC.exit ?_
  intro w hw
  obtain rfl := Option.some.inj h
  subst hF
  exact end_e (is := [0]) (by kernel_rfl) hw rfl ⟨row12, rfl, rfl, ho13, trivial⟩
abbrev r_code_writer_ver (gw_ : Nat) (ew_ : Nat) (r : Ocode_writer) (U : List Rowb) (Γ : Gh) (v : Value) : Prop := ∃ (roww_' : Rowb), v = .tuple #[] ∧ U = [roww_'] ∧ Ocode_writer.ob ew_ Γ gw_ roww_' r ∧ True
theorem t_code_writer_ver {Γ : Gh} {w0 : World} {gw_ ew_ : Nat} {roww_ : Rowb} {w_ : Ocode_writer} (hw_ : Ocode_writer.ob ew_ Γ gw_ roww_ w_) {Av_2 : Option Addr} {cv_2 : Nat} (v_ : Ver) (hv_ : Ver.fits Γ Av_2 cv_2 v_) (hp : Pre [roww_] Γ w0) {r : Ocode_writer} (h : m_code_writer_ver w_ v_ = some r) : Calls Tryz.prog 170 #[(pq gw_), .agg #[.int .i64 v_.dot.s, .int .i64 v_.dot.n, .slice Av_2 v_.past.length cv_2, .bool v_.gone, .string v_.val]] w0 (Outc Γ [roww_] w0 (r_code_writer_ver gw_ ew_ r)) := by
 refine calls_of (N := 30) (rs := []) (args := [(pq gw_), .agg #[.int .i64 v_.dot.s, .int .i64 v_.dot.n, .slice Av_2 v_.past.length cv_2, .bool v_.gone, .string v_.val]]) Tryz.func170 rfl Tryz.ntmps170 Tryz.results170 rfl ?_
 obtain ⟨F, hF⟩ : ∃ F : Fm, F = ⟨ids [roww_], w0, Γ⟩ := ⟨_, rfl⟩
 refine WC.here (C := CC F Γ [roww_]) ?_ (hF ▸ hp.start)
 refine WC.rs ?_
 refine e_box (v := .agg #[.int .i64 v_.dot.s, .int .i64 v_.dot.n, .slice Av_2 v_.past.length cv_2, .bool v_.gone, .string v_.val]) rfl rfl rfl rfl (by kernel_rfl) ?_
 intro g1
 refine WR.done ?_
 refine WC.rs ?_
 refine mv (v := (pq gw_)) ?_
 refine vb (q_fl 0 fld_89_0 rfl rfl rfl) ?_
 refine vb (q_fl 0 fld_86_0 rfl rfl rfl) ?_
 refine vb (q_ldl (i := 0) (v := .int .i64 v_.dot.s) rfl rfl Tryz.isAgg3 rfl rfl) ?_
 obtain ⟨z2, hz3, h⟩ := bnd h
 refine e_call (is := [1]) rfl rfl (call_run Tryz.call196 rfl rfl (by kernel_rfl)) rfl (fun w hp => t_code_writer_int hw_ v_.dot.s hv_.1 hp hz3) ?_
 rintro Γ4 U6 v7 hl5 ⟨row8, rfl, rfl, hr9, _⟩
 change WR _ _ _ (CC F Γ4 [row8, [(g1, .cells #[.int .i64 v_.dot.s, .int .i64 v_.dot.n, .slice Av_2 v_.past.length cv_2, .bool v_.gone, .string v_.val] 89 (0, 0))]]) _ _ (upd _ 8 (.tuple #[]))
 refine WR.done ?_
 refine WC.rs ?_
 refine mv (v := (pq gw_)) ?_
 refine vb (q_fl 0 fld_89_0 rfl rfl rfl) ?_
 refine vb (q_fl 1 fld_86_1 rfl rfl rfl) ?_
 refine vb (q_ldl (i := 1) (v := .int .i64 v_.dot.n) rfl rfl Tryz.isAgg2 rfl rfl) ?_
 obtain ⟨z10, hz11, h⟩ := bnd h
 refine e_call (is := [0]) rfl rfl (call_run Tryz.call197 rfl rfl (by kernel_rfl)) rfl (fun w hp => t_code_writer_num hr9 v_.dot.n hv_.2.1 hp hz11) ?_
 rintro Γ12 U14 v15 hl13 ⟨row16, rfl, rfl, hr17, _⟩
 change WR _ _ _ (CC F Γ12 [row16, [(g1, .cells #[.int .i64 v_.dot.s, .int .i64 v_.dot.n, .slice Av_2 v_.past.length cv_2, .bool v_.gone, .string v_.val] 89 (0, 0))]]) _ _ (upd _ 13 (.tuple #[]))
 refine WR.done ?_
 refine WC.rs ?_
 refine mv (v := (pq gw_)) ?_
 refine vb (q_fl 2 fld_89_1 rfl rfl rfl) ?_
 refine vb (q_ldl (i := 1) (v := .slice Av_2 v_.past.length cv_2) rfl rfl Tryz.isAgg87 rfl rfl) ?_
 refine mv (v := (pq gw_)) ?_
 refine vb (q_mkfn (v := .func (.func 199) #[(pq gw_)] #[]) rfl (by kernel_rfl)) ?_
 obtain ⟨z18, hz19, h⟩ := bnd h
 refine e_call (is := [0]) rfl rfl (call_run Tryz.call198 rfl rfl (by kernel_rfl)) rfl (fun w hp => t_code_put_api_Span hr17 (hv_.2.2.1.2.mono (hl5.trans hl13)) hv_.2.2.1.1 hp hz19) ?_
 rintro Γ20 U22 v23 hl21 ⟨row24, rfl, rfl, hr25, _⟩
 change WR _ _ _ (CC F Γ20 [row24, [(g1, .cells #[.int .i64 v_.dot.s, .int .i64 v_.dot.n, .slice Av_2 v_.past.length cv_2, .bool v_.gone, .string v_.val] 89 (0, 0))]]) _ _ (upd _ 19 (.tuple #[]))
 refine WR.done ?_
 refine WC.seq ?_
 refine WC.rs ?_
 refine vb (q_fl 3 fld_89_2 rfl rfl rfl) ?_
 refine vb (q_ldl (i := 1) (v := .bool v_.gone) rfl rfl Tryz.isAgg4 rfl rfl) ?_
 refine WR.done ?_
 refine WC.cif h (by kernel_rfl) (fun hb26 h => ?_) (fun hb26 h => ?_)
 ·
  refine WC.rs ?_
  refine mv (v := (pq gw_)) ?_
  obtain ⟨z27, hz28, h⟩ := bnd h
  refine e_call (is := [0]) rfl rfl (call_run Tryz.call196 rfl rfl (by kernel_rfl)) rfl (fun w hp => t_code_writer_int hr25 1 (show I64 1 by decide) hp hz28) ?_
  rintro Γ29 U31 v32 hl30 ⟨row33, rfl, rfl, hr34, _⟩
  change WR _ _ _ (CC F Γ29 [row33, [(g1, .cells #[.int .i64 v_.dot.s, .int .i64 v_.dot.n, .slice Av_2 v_.past.length cv_2, .bool v_.gone, .string v_.val] 89 (0, 0))]]) _ _ (upd _ 23 (.tuple #[]))
  refine WR.done ?_
  refine WC.ret ?_
  intro w hw
  obtain rfl := Option.some.inj h
  subst hF
  exact end_e (is := [0]) (by kernel_rfl) hw rfl ⟨row33, rfl, rfl, hr34, trivial⟩
 ·
  refine WC.skip ?_
  change WC _ _ _ _ _ _
  refine WC.rs ?_
  refine mv (v := (pq gw_)) ?_
  obtain ⟨z35, hz36, h⟩ := bnd h
  refine e_call (is := [0]) rfl rfl (call_run Tryz.call196 rfl rfl (by kernel_rfl)) rfl (fun w hp => t_code_writer_int hr25 0 (show I64 0 by decide) hp hz36) ?_
  rintro Γ37 U39 v40 hl38 ⟨row41, rfl, rfl, hr42, _⟩
  change WR _ _ _ (CC F Γ37 [row41, [(g1, .cells #[.int .i64 v_.dot.s, .int .i64 v_.dot.n, .slice Av_2 v_.past.length cv_2, .bool v_.gone, .string v_.val] 89 (0, 0))]]) _ _ (upd _ 25 (.tuple #[]))
  refine WR.done ?_
  refine WC.region ?_
  refine mv (v := (pq gw_)) ?_
  refine vb (q_fl 4 fld_89_3 rfl rfl rfl) ?_
  refine vb (q_ldl (i := 1) (v := .string v_.val) rfl rfl Tryz.isAgg9 rfl rfl) ?_
  obtain ⟨z43, hz44, h⟩ := bnd h
  refine e_call (is := [0]) rfl rfl (call_run Tryz.call168 rfl rfl (by kernel_rfl)) rfl (fun w hp => t_code_writer_text hr42 v_.val hv_.2.2.2 hp hz44) ?_
  rintro Γ45 U47 v48 hl46 ⟨row49, rfl, rfl, hr50, _⟩
  change WR _ _ _ (CC F Γ45 [row49, [(g1, .cells #[.int .i64 v_.dot.s, .int .i64 v_.dot.n, .slice Av_2 v_.past.length cv_2, .bool v_.gone, .string v_.val] 89 (0, 0))]]) _ _ (upd _ 29 (.tuple #[]))
  refine WR.nil ?_
  intro w hw
  obtain rfl := Option.some.inj h
  subst hF
  exact end_e (is := [0]) (by kernel_rfl) hw rfl ⟨row49, rfl, rfl, hr50, trivial⟩
abbrev r_code_put_api_Ver (gw_ : Nat) (ew_ : Nat) (r : Ocode_writer) (U : List Rowb) (Γ : Gh) (v : Value) : Prop := ∃ (roww_' : Rowb), v = .tuple #[] ∧ U = [roww_'] ∧ Ocode_writer.ob ew_ Γ gw_ roww_' r ∧ True
theorem t_code_put_api_Ver {Γ : Gh} {w0 : World} {gw_ ew_ : Nat} {roww_ : Rowb} {w_ : Ocode_writer} (hw_ : Ocode_writer.ob ew_ Γ gw_ roww_ w_) {Al : Option Addr} {cl : Nat} {l : List Ver} (hl : Sl verT Γ Al l) (hlc : l.length ≤ cl) (hp : Pre [roww_] Γ w0) {r : Ocode_writer} (h : m_code_put_api_Ver w_ l = some r) : Calls Tryz.prog 169 #[(pq gw_), .slice Al l.length cl, .func (.func 170) #[(pq gw_)] #[]] w0 (Outc Γ [roww_] w0 (r_code_put_api_Ver gw_ ew_ r)) := by
 refine calls_of (N := 22) (rs := []) (args := [(pq gw_), .slice Al l.length cl, .func (.func 170) #[(pq gw_)] #[]]) Tryz.func169 rfl Tryz.ntmps169 Tryz.results169 rfl ?_
 obtain ⟨F, hF⟩ : ∃ F : Fm, F = ⟨ids [roww_], w0, Γ⟩ := ⟨_, rfl⟩
 refine WC.here (C := CC F Γ [roww_]) ?_ (hF ▸ hp.start)
 refine WC.rs ?_
 refine mv (v := (pq gw_)) ?_
 refine mv (v := .slice Al l.length cl) ?_
 refine vb (q_len_slice rfl Tryz.underlying43 rfl) ?_
 obtain ⟨z1, hz2, h⟩ := bnd h
 refine e_call (is := [0]) rfl rfl (call_run Tryz.call196 rfl rfl (by kernel_rfl)) rfl (fun w hp => t_code_writer_int hw_ ((l.length : Nat) : Int) (len_r hl.le) hp hz2) ?_
 rintro Γ3 U5 v6 hl4 ⟨row7, rfl, rfl, hr8, _⟩
 change WR _ _ _ (CC F Γ3 [row7]) _ _ (upd _ 11 (.tuple #[]))
 refine WR.done ?_
 refine WC.rs ?_
 refine mv (v := .slice Al l.length cl) ?_
 refine vb (q_len_slice rfl Tryz.underlying43 rfl) ?_
 refine mv (v := .int .i64 0) ?_
 refine WR.done ?_
 refine WC.block ?_
 refine WC.forI h (fun (i15 : Nat) (o11 : Ocode_writer) σ w => ∃ (Γ9 : Gh), ∃ (row12 : Rowb), slots σ [(2, .func (.func 170) #[(pq gw_)] #[]), (12, .slice Al l.length cl), (13, .int .i64 ((l.length : Nat) : Int)), (14, .int .i64 ((i15 : Nat) : Int))] ∧ CC F Γ9 [row12] w ∧ Gh.le Γ3 Γ9 ∧ Ocode_writer.ob ew_ Γ9 gw_ row12 o11 ∧ True) ?_ ?_
 ·
  intro w hw
  exact ⟨Γ3, row7, (sl_ (by kernel_rfl)), hw, (Gh.refl _), hr8, trivial⟩
 rintro f14 i15 o11 σ w hi16 hlt17 hge18 ⟨Γ9, row12, hsl, hw, hl10, ho13, -⟩
 refine Wpt.slots hsl ?_
 refine WC.here (C := CC F Γ9 [row12]) ?_ hw
 clear hw hsl
 refine WC.rs ?_
 refine vb (q_lss rfl rfl rfl) ?_
 refine WR.done ?_
 refine WC.seq ?_
 refine WC.cond (b := (decide (((i15 : Nat) : Int) < ((l.length : Nat) : Int)))) (by kernel_rfl) (fun hb19 => ?_) (fun hb19 => ?_)
 ·
  have hl20 := ilt hb19
  have h := hlt17 hl20
  refine WC.skip ?_
  change WC _ _ _ _ _ _
  refine WC.seq ?_
  refine WC.block ?_
  refine WC.rs ?_
  refine vb (q_ixn (i := i15) Tryz.underlying43 Tryz.sizeOf89 rfl rfl rfl hl20 ((hl.mono (hl4.trans hl10)).some_ hl20)) ?_
  obtain ⟨A21, c22, hx23⟩ := (hl.mono (hl4.trans hl10)).verT_at i15
  refine vb (q_lda (c := 0) (vs := [.int .i64 (gt l i15).dot.s, .int .i64 (gt l i15).dot.n, .slice A21 ((gt l i15).past).length c22, .bool (gt l i15).gone, .string (gt l i15).val]) (hx23 hl20).2 rfl Tryz.isAgg89 Tryz.sizeOf89 rfl rfl rfl) ?_
  refine e_alloc Tryz.zeroValue89 rfl rfl rfl rfl ?_
  intro g24
  refine e_st (i := 0) (v := .agg #[.int .i64 (gt l i15).dot.s, .int .i64 (gt l i15).dot.n, .slice A21 ((gt l i15).past).length c22, .bool (gt l i15).gone, .string (gt l i15).val]) (new := #[.int .i64 (gt l i15).dot.s, .int .i64 (gt l i15).dot.n, .slice A21 ((gt l i15).past).length c22, .bool (gt l i15).gone, .string (gt l i15).val]) rfl Tryz.sizeOf89 rfl rfl rfl rfl (by kernel_rfl) rfl rfl rfl rfl ?_
  refine WR.done ?_
  refine WC.region ?_
  refine mv (v := .func (.func 170) #[(pq gw_)] #[]) ?_
  refine vb (q_ldla (i := 0) (vs := [.int .i64 (gt l i15).dot.s, .int .i64 (gt l i15).dot.n, .slice A21 ((gt l i15).past).length c22, .bool (gt l i15).gone, .string (gt l i15).val]) rfl rfl Tryz.isAgg89 Tryz.sizeOf89 rfl rfl) ?_
  obtain ⟨z25, hz26, h⟩ := bnd h
  refine e_call (is := [1]) rfl rfl (call_run_fb (first := #[(pq gw_)]) Tryz.call170 rfl (by kernel_rfl) (by kernel_rfl)) rfl (fun w hp => t_code_writer_ver ho13 (gt l i15) (hx23 hl20).1 hp hz26) ?_
  rintro Γ27 U29 v30 hl28 ⟨row31, rfl, rfl, hr32, _⟩
  change WR _ _ _ (CC F Γ27 [row31, [(g24, .cells #[.int .i64 (gt l i15).dot.s, .int .i64 (gt l i15).dot.n, .slice A21 ((gt l i15).past).length c22, .bool (gt l i15).gone, .string (gt l i15).val] 89 (0, 0))]]) _ _ (upd _ 20 (.tuple #[]))
  refine WR.nil ?_
  change WC _ _ _ _ _ _
  refine WC.region ?_
  refine vb (q_add_r (r := ((i15 + 1 : Nat) : Int)) rfl rfl rfl (ctr_len hl20 (hl.mono (hl4.trans hl10)).le)) ?_
  refine mv (v := .int .i64 ((i15 + 1 : Nat) : Int)) ?_
  refine WR.nil ?_
  intro w hw
  exact ⟨hl20, z25, h, Γ27, row31, (sl_ (by kernel_rfl)), (hw.only (is := [0]) rfl), (hl10.trans hl28), hr32, trivial⟩
 ·
  have h := hge18 (ige hb19)
  refine WC.exit ?_
  intro w hw
  obtain rfl := Option.some.inj h
  subst hF
  exact end_e (is := [0]) (by kernel_rfl) hw rfl ⟨row12, rfl, rfl, ho13, trivial⟩
abbrev r_code_writer_rec (gw_ : Nat) (ew_ : Nat) (r : Ocode_writer) (U : List Rowb) (Γ : Gh) (v : Value) : Prop := ∃ (roww_' : Rowb), v = .tuple #[] ∧ U = [roww_'] ∧ Ocode_writer.ob ew_ Γ gw_ roww_' r ∧ True
theorem t_code_writer_rec {Γ : Gh} {w0 : World} {gw_ ew_ : Nat} {roww_ : Rowb} {w_ : Ocode_writer} (hw_ : Ocode_writer.ob ew_ Γ gw_ roww_ w_) {Ar_1 : Option Addr} {cr_1 : Nat} (r_ : Rec) (hr_ : Rec.fits Γ Ar_1 cr_1 r_) (hp : Pre [roww_] Γ w0) {r : Ocode_writer} (h : m_code_writer_rec w_ r_ = some r) : Calls Tryz.prog 134 #[(pq gw_), .agg #[.string r_.key, .slice Ar_1 r_.vers.length cr_1]] w0 (Outc Γ [roww_] w0 (r_code_writer_rec gw_ ew_ r)) := by
 refine calls_of (N := 14) (rs := []) (args := [(pq gw_), .agg #[.string r_.key, .slice Ar_1 r_.vers.length cr_1]]) Tryz.func134 rfl Tryz.ntmps134 Tryz.results134 rfl ?_
 obtain ⟨F, hF⟩ : ∃ F : Fm, F = ⟨ids [roww_], w0, Γ⟩ := ⟨_, rfl⟩
 refine WC.here (C := CC F Γ [roww_]) ?_ (hF ▸ hp.start)
 refine WC.rs ?_
 refine e_box (v := .agg #[.string r_.key, .slice Ar_1 r_.vers.length cr_1]) rfl rfl rfl rfl (by kernel_rfl) ?_
 intro g1
 refine WR.done ?_
 refine WC.rs ?_
 refine mv (v := (pq gw_)) ?_
 refine vb (q_fl 0 fld_45_0 rfl rfl rfl) ?_
 refine vb (q_ldl (i := 0) (v := .string r_.key) rfl rfl Tryz.isAgg9 rfl rfl) ?_
 obtain ⟨z2, hz3, h⟩ := bnd h
 refine e_call (is := [1]) rfl rfl (call_run Tryz.call168 rfl rfl (by kernel_rfl)) rfl (fun w hp => t_code_writer_text hw_ r_.key hr_.1 hp hz3) ?_
 rintro Γ4 U6 v7 hl5 ⟨row8, rfl, rfl, hr9, _⟩
 change WR _ _ _ (CC F Γ4 [row8, [(g1, .cells #[.string r_.key, .slice Ar_1 r_.vers.length cr_1] 45 (0, 0))]]) _ _ (upd _ 7 (.tuple #[]))
 refine WR.done ?_
 refine WC.region ?_
 refine mv (v := (pq gw_)) ?_
 refine vb (q_fl 1 fld_45_1 rfl rfl rfl) ?_
 refine vb (q_ldl (i := 1) (v := .slice Ar_1 r_.vers.length cr_1) rfl rfl Tryz.isAgg43 rfl rfl) ?_
 refine mv (v := (pq gw_)) ?_
 refine vb (q_mkfn (v := .func (.func 170) #[(pq gw_)] #[]) rfl (by kernel_rfl)) ?_
 obtain ⟨z10, hz11, h⟩ := bnd h
 refine e_call (is := [0]) rfl rfl (call_run Tryz.call169 rfl rfl (by kernel_rfl)) rfl (fun w hp => t_code_put_api_Ver hr9 (hr_.2.2.mono hl5) hr_.2.1 hp hz11) ?_
 rintro Γ12 U14 v15 hl13 ⟨row16, rfl, rfl, hr17, _⟩
 change WR _ _ _ (CC F Γ12 [row16, [(g1, .cells #[.string r_.key, .slice Ar_1 r_.vers.length cr_1] 45 (0, 0))]]) _ _ (upd _ 13 (.tuple #[]))
 refine WR.nil ?_
 intro w hw
 obtain rfl := Option.some.inj h
 subst hF
 exact end_e (is := [0]) (by kernel_rfl) hw rfl ⟨row16, rfl, rfl, hr17, trivial⟩
abbrev r_code_PutRec (r : (List UInt8) × Int) (U : List Rowb) (Γ : Gh) (v : Value) : Prop := ∃ (A0 : Option Addr), ∃ (c0 : Nat), ∃ (row0 : Rowb), v = .tuple #[.slice A0 r.1.length c0, .int .i64 r.2] ∧ U = [row0] ∧ Own byteT Γ 5 row0 A0 c0 r.1 ∧ I64 r.2 ∧ True
theorem t_code_PutRec {Γ : Gh} {w0 : World} {Ar_1 : Option Addr} {cr_1 : Nat} (r_ : Rec) (hr_ : Rec.fits Γ Ar_1 cr_1 r_) (hp : Pre [] Γ w0) {r : (List UInt8) × Int} (h : m_code_PutRec r_ = some r) : Calls Tryz.prog 97 #[.agg #[.string r_.key, .slice Ar_1 r_.vers.length cr_1]] w0 (Outc Γ [] w0 (r_code_PutRec r)) := by
 refine calls_of (N := 17) (rs := [2, 3]) (args := [.agg #[.string r_.key, .slice Ar_1 r_.vers.length cr_1]]) Tryz.func97 rfl Tryz.ntmps97 Tryz.results97 rfl ?_
 obtain ⟨F, hF⟩ : ∃ F : Fm, F = ⟨ids [], w0, Γ⟩ := ⟨_, rfl⟩
 refine WC.here (C := CC F Γ []) ?_ (hF ▸ hp.start)
 refine WC.rs ?_
 refine e_box (v := .agg #[.string r_.key, .slice Ar_1 r_.vers.length cr_1]) rfl rfl rfl rfl (by kernel_rfl) ?_
 intro g1
 refine as_ (v := .slice none 0 0) ?_
 refine as_ (v := .int .i64 0) ?_
 refine WR.done ?_
 refine WC.seq ?_
 refine WC.rs ?_
 refine vb (q_ldla (i := 0) (vs := [.string r_.key, .slice Ar_1 r_.vers.length cr_1]) rfl rfl Tryz.isAgg45 Tryz.sizeOf45 rfl rfl) ?_
 obtain ⟨z2, hz3, h⟩ := bnd h
 refine vc rfl rfl rfl (q_call (call_run Tryz.call69 rfl rfl (by kernel_rfl)) (fun w hw => t_code_RightRec (Γ := Gh.all w) r_ (Rec.fits_mono hr_ hw.sat.le_all) (Sat.all w) hz3)) ?_
 refine vb (q_not rfl rfl) ?_
 refine WR.done ?_
 refine WC.cif h (by kernel_rfl) (fun hb4 h => ?_) (fun hb4 h => ?_)
 ·
  refine WC.rs ?_
  refine as_ (v := .slice none 0 0) ?_
  refine as_ (v := .int .i64 1) ?_
  refine WR.done ?_
  refine WC.ret ?_
  intro w hw
  have hw := hw.pad
  obtain rfl := Option.some.inj h
  subst hF
  exact end_e (is := [0]) (by kernel_rfl) hw rfl ⟨none, 0, [], rfl, rfl, (Own.nil byteT _ 5), (show I64 1 by decide), trivial⟩
 ·
  refine WC.skip ?_
  change WC _ _ _ _ _ _
  refine WC.rs ?_
  refine vb (q_build (v := .agg #[.slice none 0 0]) rfl (fun w => by kernel_rfl)) ?_
  refine e_box (v := .agg #[.slice none 0 0]) rfl rfl rfl rfl (by kernel_rfl) ?_
  intro g5
  refine as_ (v := (pq g5)) ?_
  refine WR.done ?_
  refine WC.rs ?_
  refine mv (v := (pq g5)) ?_
  refine vb (q_ldla (i := 1) (vs := [.string r_.key, .slice Ar_1 r_.vers.length cr_1]) rfl rfl Tryz.isAgg45 Tryz.sizeOf45 rfl rfl) ?_
  refine WR.sub (fun w hw => hw.pad) ?_
  obtain ⟨row_6, hrow_6, hob_6⟩ : ∃ rw : Rowb, rw = ([[(g5, .cells #[.slice none 0 0] 202 (0, 0))], []] : List Rowb).flatten ∧ Ocode_writer.ob 202 Γ g5 rw (⟨[]⟩ : Ocode_writer) := ⟨_, rfl, none, 0, [], rfl, (Own.nil byteT Γ 5), trivial⟩
  intro w hw; have hw := hw.fold (is := [1, 0]) rfl hrow_6
  refine WR.here (C := CC F Γ [row_6, [(g1, .cells #[.string r_.key, .slice Ar_1 r_.vers.length cr_1] 45 (0, 0))]]) ?_ hw
  clear hw
  obtain ⟨z7, hz8, h⟩ := bnd h
  refine e_call (is := [0]) rfl rfl (call_run Tryz.call134 rfl rfl (by kernel_rfl)) rfl (fun w hp => t_code_writer_rec hob_6 r_ hr_ hp hz8) ?_
  rintro Γ9 U11 v12 hl10 ⟨row13, rfl, rfl, hr14, _⟩
  change WR _ _ _ (CC F Γ9 [row13, [(g1, .cells #[.string r_.key, .slice Ar_1 r_.vers.length cr_1] 45 (0, 0))]]) _ _ (upd _ 12 (.tuple #[]))
  refine WR.done ?_
  refine WC.rs ?_
  refine mv (v := (pq g5)) ?_
  refine vb (q_nil (A := some ⟨g5, 0, none⟩) rfl rfl rfl) ?_
  refine vb (q_fl 0 fld_202_0 rfl rfl rfl) ?_
  have hq := hr14
  obtain ⟨A0_15, c0_15, r0_15, hrow_15, ho0_15, -⟩ := hq
  intro w hw; have hw := hw.unfold (i := 0) rfl hrow_15
  refine WR.here (C := CC F Γ9 [[(g5, .cells #[.slice A0_15 z7.b.length c0_15] 202 (0, 0))], r0_15, [(g1, .cells #[.string r_.key, .slice Ar_1 r_.vers.length cr_1] 45 (0, 0))]]) ?_ hw
  clear hw
  refine vb (q_ldl (i := 0) (v := .slice A0_15 z7.b.length c0_15) rfl rfl Tryz.isAgg77 rfl rfl) ?_
  refine as_ (v := .slice A0_15 z7.b.length c0_15) ?_
  refine as_ (v := .int .i64 0) ?_
  refine WR.done ?_
  refine WC.ret ?_
  intro w hw
  obtain rfl := Option.some.inj h
  subst hF
  exact end_e (is := [1]) (by kernel_rfl) hw rfl ⟨A0_15, c0_15, r0_15, rfl, rfl, ho0_15, (show I64 0 by decide), trivial⟩
abbrev r_frame_Put (r : (List UInt8) × Int) (U : List Rowb) (Γ : Gh) (v : Value) : Prop := ∃ (A0 : Option Addr), ∃ (c0 : Nat), ∃ (row0 : Rowb), v = .tuple #[.slice A0 r.1.length c0, .int .i64 r.2] ∧ U = [row0] ∧ Own byteT Γ 5 row0 A0 c0 r.1 ∧ I64 r.2 ∧ True
theorem t_frame_Put {Γ : Gh} {w0 : World} {Ab : Option Addr} {cb : Nat} {b : List UInt8} (hb : Sl byteT Γ Ab b) (hbc : b.length ≤ cb) (hp : Pre [] Γ w0) {r : (List UInt8) × Int} (h : m_frame_Put b = some r) : Calls Tryz.prog 135 #[.slice Ab b.length cb] w0 (Outc Γ [] w0 (r_frame_Put r)) := by
 refine calls_of (N := 32) (rs := [2, 3]) (args := [.slice Ab b.length cb]) Tryz.func135 rfl Tryz.ntmps135 Tryz.results135 rfl ?_
 obtain ⟨F, hF⟩ : ∃ F : Fm, F = ⟨ids [], w0, Γ⟩ := ⟨_, rfl⟩
 refine WC.here (C := CC F Γ []) ?_ (hF ▸ hp.start)
 refine WC.rs ?_
 refine as_ (v := .slice none 0 0) ?_
 refine as_ (v := .int .i64 0) ?_
 refine WR.done ?_
 refine WC.seq ?_
 refine WC.rs ?_
 refine mv (v := .slice Ab b.length cb) ?_
 refine vb (q_len_slice rfl Tryz.underlying77 rfl) ?_
 refine vb (q_gtr rfl rfl rfl) ?_
 refine WR.done ?_
 refine WC.cif h (by kernel_rfl) (fun hb1 h => ?_) (fun hb1 h => ?_)
 ·
  refine WC.rs ?_
  refine as_ (v := .slice none 0 0) ?_
  refine as_ (v := .int .i64 3) ?_
  refine WR.done ?_
  refine WC.ret ?_
  intro w hw
  have hw := hw.pad
  obtain rfl := Option.some.inj h
  subst hF
  exact end_e (is := [0]) (by kernel_rfl) hw rfl ⟨none, 0, [], rfl, rfl, (Own.nil byteT _ 5), (show I64 3 by decide), trivial⟩
 ·
  refine WC.skip ?_
  change WC _ _ _ _ _ _
  refine WC.rs ?_
  refine mv (v := .slice Ab b.length cb) ?_
  refine vb (q_len_slice rfl Tryz.underlying77 rfl) ?_
  obtain ⟨z2, hz3, h⟩ := bnd h
  refine e_call (is := []) rfl rfl (call_run Tryz.call171 rfl rfl (by kernel_rfl)) rfl (fun w hp => t_num_PutNum ((b.length : Nat) : Int) (len_r hb.le) hp hz3) ?_
  rintro Γ4 U6 v7 hl5 ⟨A8, c9, row10, rfl, rfl, hr11, _⟩
  change WR _ _ _ (CC F Γ4 [row10]) _ _ (upd _ 12 (.slice A8 z2.length c9))
  refine as_ (v := .slice A8 z2.length c9) ?_
  refine WR.done ?_
  refine WC.rs ?_
  refine mv (v := .slice A8 z2.length c9) ?_
  refine mv (v := .slice Ab b.length cb) ?_
  refine e_buildSlice (cs := #[.slice A8 z2.length c9, .slice Ab b.length cb]) (e := 77) rfl rfl rfl rfl (fun w => by kernel_rfl) ?_
  intro g12
  obtain ⟨z13, hz14, h⟩ := bnd h
  refine vc rfl rfl rfl (q_call (call_run Tryz.call172 rfl rfl (by kernel_rfl)) (fun w hw => t_frame_Sum (Γ := Gh.all w) ((Own.of_blockL (T := slT byteT) (Γ := Gh.all w) (e := 77) (g := g12) (ys := ([z2, b] : List (List UInt8))) [[.slice A8 z2.length c9], [.slice Ab b.length cb]] rfl (show 2 ≤ lim by decide) (show Ty.rd (slT byteT) (Gh.all w) [.slice A8 z2.length c9] z2 ∧ Ty.rd (slT byteT) (Gh.all w) [.slice Ab b.length cb] b ∧ True from ⟨⟨A8, c9, rfl, hr11.capz, (hr11.sl hw.sat.le_all (hw.ra 1 rfl))⟩, ⟨Ab, cb, rfl, hbc, ((hb.mono hl5).mono hw.sat.le_all)⟩, trivial⟩)).sl (Gh.refl _) (hw.ra 0 rfl)) (Nat.le_refl _) (Sat.all w) hz14)) ?_
  refine as_ (v := .int .u32 z13) ?_
  refine WR.done ?_
  refine WC.seq ?_
  refine WC.rs ?_
  refine mv (v := .int .i64 0) ?_
  refine WR.done ?_
  refine WC.block ?_
  refine WC.forU h (fun (i21 : Nat) (out_15 : List UInt8) σ w => ∃ (A16 : Option Addr), ∃ (c17 : Nat), ∃ (row18 : Rowb), slots σ [(0, .slice Ab b.length cb), (4, .slice A16 out_15.length c17), (5, .int .u32 z13), (17, .int .i64 ((i21 : Nat) : Int))] ∧ CC F Γ4 [row18] w ∧ Own byteT Γ4 5 row18 A16 c17 out_15 ∧ True) ?_ ?_
  ·
   intro w hw
   exact ⟨A8, c9, row10, (sl_ (by kernel_rfl)), (hw.only (is := [1]) rfl), hr11, trivial⟩
  rintro f20 i21 out_15 σ w hi22 hlt23 hge24 ⟨A16, c17, row18, hsl, hw, ho19, -⟩
  refine Wpt.slots hsl ?_
  refine WC.here (C := CC F Γ4 [row18]) ?_ hw
  clear hw hsl
  refine WC.rs ?_
  refine vb (q_lss rfl rfl rfl) ?_
  refine WR.done ?_
  refine WC.seq ?_
  refine WC.cond (b := (decide (((i21 : Nat) : Int) < 4))) (by kernel_rfl) (fun hb25 => ?_) (fun hb25 => ?_)
  ·
   have hl26 := ilt hb25
   have h := hlt23 hl26
   refine WC.skip ?_
   change WC _ _ _ _ _ _
   refine WC.seq ?_
   refine WC.block ?_
   refine WC.rs ?_
   refine mv (v := .int .i64 ((i21 : Nat) : Int)) ?_
   refine as_ (v := .int .i64 ((i21 : Nat) : Int)) ?_
   refine WR.done ?_
   refine WC.region ?_
   refine mv (v := .slice A16 out_15.length c17) ?_
   refine mv (v := .int .u32 z13) ?_
   refine mv (v := .int .i64 ((i21 : Nat) : Int)) ?_
   refine vb (q_mul rfl rfl rfl) ?_
   obtain ⟨hk27, h⟩ := chk_some h
   refine vb (q_shr rfl rfl rfl hk27) ?_
   refine vb (q_conv Tryz.underlying5 Tryz.underlying242 rfl rfl) ?_
   refine e_buildSlice (cs := #[.int .u8 (wu8 (ishr .u32 z13 (w64 (8 * ((i21 : Nat) : Int)))))]) (e := 5) rfl rfl rfl rfl (fun w => by kernel_rfl) ?_
   intro g28
   obtain ⟨hk29, h⟩ := chk_some h
   refine e_append (T := byteT) (xs := out_15) (ys := [(b8 (wu8 (ishr .u32 z13 (w64 (8 * ((i21 : Nat) : Int))))))]) elem_77 (i := 1) rfl rfl rfl rfl rfl rfl rfl ho19 (of_decide_eq_true hk29) (fun w hw => src_one (T := byteT) (y := (b8 (wu8 (ishr .u32 z13 (w64 (8 * ((i21 : Nat) : Int))))))) (i := 0) rfl (by exact (by show [Value.int .u8 (wu8 (ishr .u32 z13 (w64 (8 * ((i21 : Nat) : Int)))))] = [Value.int .u8 _]; rw [b8_val (wu8_r _)])) hw) ?_
   intro row30 A31 c32 ho33
   refine as_ (v := .slice A31 (out_15 ++ [(b8 (wu8 (ishr .u32 z13 (w64 (8 * ((i21 : Nat) : Int))))))]).length c32) ?_
   refine WR.nil ?_
   change WC _ _ _ _ _ _
   refine WC.region ?_
   refine vb (q_add_r (r := ((i21 + 1 : Nat) : Int)) rfl rfl rfl (ctr_lit hl26 (by decide))) ?_
   refine mv (v := .int .i64 ((i21 + 1 : Nat) : Int)) ?_
   refine WR.nil ?_
   intro w hw
   exact ⟨hl26, (out_15 ++ [(b8 (wu8 (ishr .u32 z13 (w64 (8 * ((i21 : Nat) : Int))))))]), h, A31, c32, row30, (sl_ (by kernel_rfl)), (hw.only (is := [1]) rfl), ho33, trivial⟩
  ·
   have h := hge24 (ige hb25)
   refine WC.exit ?_
   change WC _ _ _ _ _ _
   refine WC.rs ?_
   refine mv (v := .slice A16 out_15.length c17) ?_
   refine mv (v := .slice Ab b.length cb) ?_
   obtain ⟨hk34, h⟩ := chk_some h
   refine e_append (T := byteT) (xs := out_15) (ys := b) elem_77 (i := 0) rfl rfl rfl rfl rfl rfl rfl ho19 (of_decide_eq_true hk34) (fun w hw => src_sl (hb.mono hl5) hw) ?_
   intro row35 A36 c37 ho38
   refine as_ (v := .slice A36 (out_15 ++ b).length c37) ?_
   refine as_ (v := .int .i64 0) ?_
   refine WR.done ?_
   refine WC.ret ?_
   intro w hw
   obtain rfl := Option.some.inj h
   subst hF
   exact end_e (is := [0]) (by kernel_rfl) hw rfl ⟨A36, c37, row35, rfl, rfl, ho38, (show I64 0 by decide), trivial⟩
theorem t_disk_Disk_Used {Γ : Gh} {w0 : World} {gd ed : Nat} {rowd : Rowb} {d : Odisk_Disk} (hd : Odisk_Disk.ob ed Γ gd rowd d) (hdr : ∀ p ∈ rowd, Γ p.1 = some p.2) (hs : Sat Γ w0) {r : Int} (h : m_disk_Disk_Used d = some r) : Calls Tryz.prog 148 #[(pq gd)] w0 (fun e w' => e = .returned (.int .i64 r) ∧ Fr no w0 w') := by
 refine calls_of (N := 20) (rs := [2]) (args := [(pq gd)]) Tryz.func148 rfl Tryz.ntmps148 Tryz.results148 rfl ?_
 obtain ⟨F, hF⟩ : ∃ F : Fm, F = ⟨no, w0, Γ⟩ := ⟨_, rfl⟩
 refine WC.here (C := CC F Γ []) ?_ (hF ▸ Cur.start0 hs)
 refine WC.rs ?_
 refine as_ (v := .int .i64 0) ?_
 refine WR.done ?_
 refine WC.rs ?_
 refine as_ (v := .int .i64 0) ?_
 refine WR.done ?_
 refine WC.seq ?_
 refine WC.rs ?_
 refine mv (v := (pq gd)) ?_
 refine vb (q_nil (A := some ⟨gd, 0, none⟩) rfl rfl rfl) ?_
 refine vb (q_fl 2 fld_67_2 rfl rfl rfl) ?_
 have hq := hd
 obtain ⟨m1_1, r1_1, m2_1, r2_1, A3_1, c3_1, r3_1, hrow_1, ho0_1, ho1_1, ho2_1, ho3_1, -⟩ := hq
 have hg_2 : ∀ u ∈ ([[(gd, .cells #[.int .i64 d.room, .map (some m1_1), .map (some m2_1), .slice A3_1 d.loose.length c3_1] ed (0, 0))], r1_1, r2_1, r3_1] : List Rowb), ∀ p ∈ u, Γ p.1 = some p.2 := fun u hu p hp => (fun p hp => (hdr p hp)) p (hrow_1 ▸ List.mem_flatten.2 ⟨u, hu, hp⟩)
 have hgc3 := hg_2 _ (List.mem_cons_self ..) (gd, _) (List.mem_singleton.2 rfl)
 have hgs4 := hg_2 r1_1 (by simp)
 have hgs5 := hg_2 r2_1 (by simp)
 have hgs6 := hg_2 r3_1 (by simp)
 have hs7 := ho3_1.sl (Gh.refl _) hgs6
 refine vb (q_ldg (v := .map (some m2_1)) hgc3 rfl Tryz.isAgg64 rfl rfl) ?_
 refine e_range ho2_1 (fun w hw p hp => hw.sat _ _ (hgs5 p hp)) rfl rfl rfl Tryz.underlying64 rfl ?_
 intro g8 row9 hi10
 change WR _ _ _ (CC F Γ [row9]) _ _ (upd _ 10 ((pq g8)))
 refine WR.done ?_
 refine WC.block ?_
 refine WC.forE h (Comm.of_tot _ (fun _ _ => rfl) (fun _ _ _ => w64_comm _ _ _)) (fun (l11 : List (ByteArray × (List UInt8))) (n_12 : Int) σ w => ∃ (row14 : Rowb), slots σ [(3, .int .i64 n_12), (10, (pq g8))] ∧ CC F Γ [row14] w ∧ I64 n_12 ∧ ItO (strK Tryz.underlying9) (slT byteT).v Γ row14 g8 m2_1 r2_1 d.seen l11 ∧ True) ?_ ?_
 ·
  intro w hw
  exact ⟨row9, (sl_ (by kernel_rfl)), hw, (show I64 0 by decide), hi10, trivial⟩
 rintro G21 l11 n_12 σ w hstep16 hK17 ⟨row14, hsl, hw, hr13, hi15, -⟩
 refine Wpt.slots hsl ?_
 refine WC.here (C := CC F Γ [row14]) ?_ hw
 clear hw hsl
 refine WC.rs ?_
 refine e_next (i := 0) rfl ho2_1.ks hi15 (fun w hw p hp => hw.sat _ _ (hgs5 p hp)) rfl rfl rfl rfl (fun hl22 => ?_) (fun en23 l24 v25 row26 hp27 hok28 hv29 hit30 he31 => ?_)
 ·
  have h := hK17 hl22
  change WR _ _ _ (CC F Γ [row14]) _ _ (upd _ 11 (.tuple #[.bool false]))
  refine vb (q_extract (v := .bool false) rfl rfl rfl) ?_
  refine WR.done ?_
  refine WC.seq ?_
  refine WC.cfk (b := false) (by kernel_rfl) rfl ?_
  refine WC.exit ?_
  change WC _ _ _ _ _ _
  refine WC.rs ?_
  refine mv (v := .int .i64 n_12) ?_
  refine as_ (v := .int .i64 n_12) ?_
  refine WR.done ?_
  refine WC.ret ?_
  intro w hw
  obtain rfl := Option.some.inj h
  subst hF
  exact ⟨by kernel_rfl, hw.fr⟩
 ·
  obtain ⟨hlen18, s219, h, hgo20⟩ := hstep16 en23 l24 hp27
  obtain ⟨A32, c33, hv29, hc34, hs35⟩ := hv29
  obtain rfl : v25 = _ := List.cons.inj hv29 |>.1
  change WR _ _ _ (CC F Γ [row26]) _ _ (upd _ 11 (.tuple #[.bool true, .string en23.1, .slice A32 en23.2.length c33]))
  refine vb (q_extract (v := .bool true) rfl rfl rfl) ?_
  refine WR.done ?_
  refine WC.seq ?_
  refine WC.ctk (b := true) (by kernel_rfl) rfl ?_
  refine WC.skip ?_
  change WC _ _ _ _ _ _
  refine WC.block ?_
  refine WC.rs ?_
  refine vb (q_entry (kv := .string en23.1) (v := .slice A32 en23.2.length c33) (i := 0) rfl he31 (fun w hw p hp => hw.sat _ _ (hgs5 p hp)) rfl rfl) ?_
  refine vb (q_extract (v := .slice A32 en23.2.length c33) rfl rfl rfl) ?_
  refine as_ (v := .slice A32 en23.2.length c33) ?_
  refine WR.done ?_
  refine WC.region ?_
  refine mv (v := .int .i64 n_12) ?_
  refine mv (v := .slice A32 en23.2.length c33) ?_
  refine vb (q_len_slice rfl Tryz.underlying77 rfl) ?_
  refine vb (q_add rfl rfl rfl) ?_
  refine as_ (v := .int .i64 (w64 (n_12 + ((en23.2.length : Nat) : Int)))) ?_
  refine WR.nil ?_
  intro w hw
  obtain rfl := Option.some.inj h
  exact ⟨l24, _, hlen18, hgo20, row26, (sl_ (by kernel_rfl)), hw, (w64_r _), hit30, trivial⟩
abbrev r_disk_add (r : Cdisk_change_do) (U : List Rowb) (Γ : Gh) (v : Value) : Prop := ∃ (A0 : Option Addr), ∃ (c0 : Nat), v = (Cdisk_change_do.val r A0 c0) ∧ U = [] ∧ Cdisk_change_do.ok Γ A0 c0 r ∧ True
theorem t_disk_add {Γ : Gh} {w0 : World} (name : ByteArray) (hname : name.size ≤ lim) {Ab : Option Addr} {cb : Nat} {b : List UInt8} (hb : Sl byteT Γ Ab b) (hbc : b.length ≤ cb) (hp : Pre [] Γ w0) {r : Cdisk_change_do} (h : m_disk_add name b = some r) : Calls Tryz.prog 48 #[.string name, .slice Ab b.length cb] w0 (Outc Γ [] w0 (r_disk_add r)) := by
 refine calls_of (N := 6) (rs := [4]) (args := [.string name, .slice Ab b.length cb]) Tryz.func48 rfl Tryz.ntmps48 Tryz.results48 rfl ?_
 obtain ⟨F, hF⟩ : ∃ F : Fm, F = ⟨ids [], w0, Γ⟩ := ⟨_, rfl⟩
 refine WC.here (C := CC F Γ []) ?_ (hF ▸ hp.start)
 refine WC.rs ?_
 refine e_box (v := .string name) rfl rfl rfl rfl (by kernel_rfl) ?_
 intro g1
 refine e_box (v := .slice Ab b.length cb) rfl rfl rfl rfl (by kernel_rfl) ?_
 intro g2
 refine as_ (v := .nilFunc) ?_
 refine WR.done ?_
 refine WC.rs ?_
 refine vb (q_mkfn (v := .func (.func 77) #[] #[(pq g1), (pq g2)]) rfl (by kernel_rfl)) ?_
 refine as_ (v := .func (.func 77) #[] #[(pq g1), (pq g2)]) ?_
 refine WR.done ?_
 refine WC.ret ?_
 intro w hw
 obtain ⟨Γ3, hw, hl4, hr5⟩ := hw.seal (i := 1) rfl
 have hg6 := hr5 _ (List.mem_singleton.2 rfl)
 obtain ⟨Γ7, hw, hl8, hr9⟩ := hw.seal (i := 0) rfl
 have hg10 := hr9 _ (List.mem_singleton.2 rfl)
 have hf11 : Cdisk_change_do.ok Γ7 (some ⟨g2, 0, none⟩) g1 (Cdisk_change_do.disk_add_1 name b) := ⟨⟨(hl8 _ _ hg6), hname⟩, ⟨g2, Ab, cb, rfl, hg10, hbc, (hb.mono (hl4.trans hl8))⟩, trivial⟩
 obtain rfl := Option.some.inj h
 subst hF
 exact end_e (is := []) (by kernel_rfl) hw rfl ⟨(some ⟨g2, 0, none⟩), g1, rfl, rfl, hf11, trivial⟩
abbrev r_disk_Disk_Append (gd : Nat) (ed : Nat) (r : Odisk_Disk × Int) (U : List Rowb) (Γ : Gh) (v : Value) : Prop := ∃ (rowd' : Rowb), v = .int .i64 r.2 ∧ U = [rowd'] ∧ Odisk_Disk.ob ed Γ gd rowd' r.1 ∧ I64 r.2 ∧ True
theorem t_disk_Disk_Append {Γ : Gh} {w0 : World} {gd ed : Nat} {rowd : Rowb} {d : Odisk_Disk} (hd : Odisk_Disk.ob ed Γ gd rowd d) (name : ByteArray) (hname : name.size ≤ lim) {Ab : Option Addr} {cb : Nat} {b : List UInt8} (hb : Sl byteT Γ Ab b) (hbc : b.length ≤ cb) (hp : Pre [rowd] Γ w0) {r : Odisk_Disk × Int} (h : m_disk_Disk_Append d name b = some r) : Calls Tryz.prog 110 #[(pq gd), .string name, .slice Ab b.length cb] w0 (Outc Γ [rowd] w0 (r_disk_Disk_Append gd ed r)) := by
 refine calls_of (N := 31) (rs := [6]) (args := [(pq gd), .string name, .slice Ab b.length cb]) Tryz.func110 rfl Tryz.ntmps110 Tryz.results110 rfl ?_
 obtain ⟨F, hF⟩ : ∃ F : Fm, F = ⟨ids [rowd], w0, Γ⟩ := ⟨_, rfl⟩
 refine WC.here (C := CC F Γ [rowd]) ?_ (hF ▸ hp.start)
 refine WC.rs ?_
 refine as_ (v := .int .i64 0) ?_
 refine WR.done ?_
 refine WC.seq ?_
 refine WC.rs ?_
 refine mv (v := .string name) ?_
 refine e_buildSlice (cs := #[.string name]) (e := 9) rfl rfl rfl rfl (fun w => by kernel_rfl) ?_
 intro g1
 have ho2 : Own strT Γ 9 [(g1, .cells #[.string name] 9 (0, 0))] (some ⟨g1, 0, none⟩) 1 [name] := Own.of_blockL (T := strT) (ys := [name]) [[.string name]] rfl (show 1 ≤ lim by decide) (show Ty.rd strT Γ [.string name] name ∧ True from ⟨⟨rfl, hname⟩, trivial⟩)
 obtain ⟨z3, hz4, h⟩ := bnd h
 refine vc rfl rfl rfl (q_call (call_run Tryz.call147 rfl rfl (by kernel_rfl)) (fun w hw => t_disk_right (Γ := Gh.all w) (ho2.sl hw.sat.le_all (hw.ra 0 rfl)) ho2.capz (Sat.all w) hz4)) ?_
 refine vb (q_not rfl rfl) ?_
 refine WR.done ?_
 refine WC.cif h (by kernel_rfl) (fun hb5 h => ?_) (fun hb5 h => ?_)
 ·
  refine WC.rs ?_
  refine as_ (v := .int .i64 70) ?_
  refine WR.done ?_
  refine WC.ret ?_
  intro w hw
  obtain rfl := Option.some.inj h
  subst hF
  exact end_e (is := [1]) (by kernel_rfl) hw rfl ⟨rowd, rfl, rfl, hd, (show I64 70 by decide), trivial⟩
 ·
  refine WC.skip ?_
  change WC _ _ _ _ _ _
  refine WC.seq ?_
  refine WC.seq ?_
  have hq := hd
  obtain ⟨m1_6, r1_6, m2_6, r2_6, A3_6, c3_6, r3_6, hrow_6, ho0_6, ho1_6, ho2_6, ho3_6, -⟩ := hq
  intro w hw; have hw := hw.unfold (i := 1) rfl hrow_6
  refine WC.here (C := CC F Γ [[(gd, .cells #[.int .i64 d.room, .map (some m1_6), .map (some m2_6), .slice A3_6 d.loose.length c3_6] ed (0, 0))], r1_6, r2_6, r3_6, [(g1, .cells #[.string name] 9 (0, 0))]]) ?_ hw
  clear hw
  refine WC.dr (by kernel_rfl) (by kernel_rfl) (fun w hw => hw.drawn _) ?_
  refine wa rfl rfl rfl (q_move (v := .slice Ab b.length cb) rfl (by kernel_rfl)) ?_
  refine wa rfl rfl rfl (q_len_slice rfl Tryz.underlying77 rfl) ?_
  refine wa rfl rfl rfl (q_move (v := (pq gd)) rfl (by kernel_rfl)) ?_
  refine wa rfl rfl rfl (q_nil (A := some ⟨gd, 0, none⟩) rfl rfl rfl) ?_
  refine wa rfl rfl rfl (q_fl 0 fld_67_0 rfl rfl rfl) ?_
  refine wa rfl rfl rfl (q_ldl (i := 0) (v := .int .i64 d.room) rfl rfl Tryz.isAgg3 rfl rfl) ?_
  refine wa rfl rfl rfl (q_move (v := (pq gd)) rfl (by kernel_rfl)) ?_
  obtain ⟨z7, hz8, h⟩ := bnd h
  refine wc rfl rfl rfl (q_call (call_run Tryz.call148 rfl rfl (by kernel_rfl)) (fun w hw => t_disk_Disk_Used (Γ := Gh.all w) (hd.mono hw.sat.le_all) (hw.raU [0, 0, 0, 0] rfl hrow_6) (Sat.all w) hz8)) ?_
  refine wa rfl rfl rfl (q_sub rfl rfl rfl) ?_
  refine wa rfl rfl rfl (q_gtr rfl rfl rfl) ?_
  refine WQ.nil ?_
  change WC _ _ _ _ _ _
  refine WC.cif h (by kernel_rfl) (fun hb9 h => ?_) (fun hb9 h => ?_)
  ·
   refine WC.rs ?_
   refine as_ (v := .int .i64 72) ?_
   refine WR.done ?_
   refine WC.ret ?_
   intro w hw
   have hw := hw.fold (is := [0, 0, 0, 0]) rfl hrow_6
   obtain rfl := Option.some.inj h
   subst hF
   exact end_e (is := [0]) (by kernel_rfl) hw rfl ⟨rowd, rfl, rfl, hd, (show I64 72 by decide), trivial⟩
  ·
   refine WC.skip ?_
   change WC _ _ _ _ _ _
   refine WC.rs ?_
   refine mv (v := .slice Ab b.length cb) ?_
   obtain ⟨z11, hz12, h⟩ := bnd h
   refine e_call (is := []) rfl rfl (call_run Tryz.call66 rfl rfl (by kernel_rfl)) rfl (fun w hp => t_slices_Clone_byte_byte hb hbc hp hz12) ?_
   rintro Γ13 U15 v16 hl14 ⟨A17, c18, row19, rfl, rfl, hr20, _⟩
   change WR _ _ _ (CC F Γ13 [row19, [(gd, .cells #[.int .i64 d.room, .map (some m1_6), .map (some m2_6), .slice A3_6 d.loose.length c3_6] ed (0, 0))], r1_6, r2_6, r3_6, [(g1, .cells #[.string name] 9 (0, 0))]]) _ _ (upd _ 22 (.slice A17 z11.length c18))
   refine as_ (v := .slice A17 z11.length c18) ?_
   refine WR.done ?_
   refine WC.rs ?_
   refine mv (v := (pq gd)) ?_
   refine mv (v := .string name) ?_
   refine mv (v := .slice A17 z11.length c18) ?_
   have hc25 := hr20.capz
   intro w hw; obtain ⟨Γ21, hw, hl22, hr23⟩ := hw.seal (i := 0) rfl; have hs24 := hr20.sl hl22 hr23
   refine WR.here (C := CC F Γ21 [[], [(gd, .cells #[.int .i64 d.room, .map (some m1_6), .map (some m2_6), .slice A3_6 d.loose.length c3_6] ed (0, 0))], r1_6, r2_6, r3_6, [(g1, .cells #[.string name] 9 (0, 0))]]) ?_ hw
   clear hw
   obtain ⟨z26, hz27, h⟩ := bnd h
   refine e_call (is := []) rfl rfl (call_run Tryz.call48 rfl rfl (by kernel_rfl)) rfl (fun w hp => t_disk_add name hname hs24 hc25 hp hz27) ?_
   rintro Γ28 U30 v31 hl29 ⟨A32, c33, rfl, rfl, hr34, _⟩
   change WR _ _ _ (CC F Γ28 [[], [(gd, .cells #[.int .i64 d.room, .map (some m1_6), .map (some m2_6), .slice A3_6 d.loose.length c3_6] ed (0, 0))], r1_6, r2_6, r3_6, [(g1, .cells #[.string name] 9 (0, 0))]]) _ _ (upd _ 26 ((Cdisk_change_do.val z26 A32 c33)))
   refine mv (v := .string name) ?_
   refine mv (v := .slice A17 z11.length c18) ?_
   refine vb (q_build' (v := .agg #[(Cdisk_change_do.val z26 A32 c33), .string name, .slice A17 z11.length c18]) rfl (bargs3 rfl rfl rfl) (fun w => by kernel_rfl)) ?_
   intro w hw; have hw := hw.fold (is := [1, 1, 1, 1]) rfl hrow_6
   refine WR.here (C := CC F Γ28 [rowd, [], [(g1, .cells #[.string name] 9 (0, 0))]]) ?_ hw
   clear hw
   obtain ⟨z36, hz37, h⟩ := bnd h
   refine e_call (is := [0]) rfl rfl (call_run Tryz.call149 rfl rfl (by kernel_rfl)) rfl (fun w hp => t_disk_Disk_done (hd.mono ((hl14.trans hl22).trans hl29)) (⟨z26, name, z11⟩ : Ddisk_change) ⟨hr34, hname, ⟨hc25, (hs24.mono hl29)⟩⟩ hp hz37) ?_
   rintro Γ38 U40 v41 hl39 ⟨row42, rfl, rfl, hr43, hr44, _⟩
   change WR _ _ _ (CC F Γ38 [row42, [], [(g1, .cells #[.string name] 9 (0, 0))]]) _ _ (upd _ 30 (.int .i64 z36.2))
   refine as_ (v := .int .i64 z36.2) ?_
   refine WR.done ?_
   refine WC.ret ?_
   intro w hw
   obtain rfl := Option.some.inj h
   subst hF
   exact end_e (is := [0]) (by kernel_rfl) hw rfl ⟨row42, rfl, rfl, hr43, hr44, trivial⟩
end Fw
end Go.Proofs.YtckindfllegbgaaGreat
