/- Walks through the functions that the law reaches (printed by a program). No condition. -/
import Derived.Test.YtckindfllegbgaaGreatW1
namespace Go.Proofs.YtckindfllegbgaaGreat
namespace Fw
set_option linter.unusedVariables false
set_option linter.unusedSimpArgs false
set_option linter.unusedSectionVars false
set_option maxRecDepth 100000
set_option maxHeartbeats 400000
open Go.RowKit
abbrev r_seglog_Open (gd : Nat) (ed : Nat) (r : Odisk_Disk × (Option Oseglog_Log) × (List (List UInt8)) × Int) (U : List Rowb) (Γ : Gh) (v : Value) : Prop := ∃ (rowd' : Rowb), ∃ (g0 : Nat), ∃ (row0 : Rowb), ∃ (A1 : Option Addr), ∃ (c1 : Nat), ∃ (row1 : Rowb), v = .tuple #[optp r.2.1 g0, .slice A1 r.2.2.1.length c1, .int .i64 r.2.2.2] ∧ U = [rowd', row0, row1] ∧ Odisk_Disk.ob ed Γ gd rowd' r.1 ∧ optob (Oseglog_Log.ob (150, gd) Γ g0) row0 r.2.1 ∧ Own (slT byteT) Γ 77 row1 A1 c1 r.2.2.1 ∧ I64 r.2.2.2 ∧ True
theorem t_seglog_Open {Γ : Gh} {w0 : World} {gd ed : Nat} {rowd : Rowb} {d : Odisk_Disk} (hd : Odisk_Disk.ob ed Γ gd rowd d) (name : ByteArray) (hname : name.size ≤ lim) (size : Int) (hsize : I64 size) (hp : Pre [rowd] Γ w0) {r : Odisk_Disk × (Option Oseglog_Log) × (List (List UInt8)) × Int} (h : m_seglog_Open d name size = some r) : Calls Tryz.prog 53 #[(pq gd), .string name, .int .i64 size] w0 (Outc Γ [rowd] w0 (r_seglog_Open gd ed r)) := by
 refine calls_of (N := 70) (rs := [6, 7, 8]) (args := [(pq gd), .string name, .int .i64 size]) Tryz.func53 rfl Tryz.ntmps53 Tryz.results53 rfl ?_
 obtain ⟨F, hF⟩ : ∃ F : Fm, F = ⟨ids [rowd], w0, Γ⟩ := ⟨_, rfl⟩
 refine WC.here (C := CC F Γ [rowd]) ?_ (hF ▸ hp.start)
 refine WC.rs ?_
 refine as_ (v := .pointer none) ?_
 refine as_ (v := .slice none 0 0) ?_
 refine as_ (v := .int .i64 0) ?_
 refine WR.done ?_
 refine WC.seq ?_
 refine WC.rs ?_
 refine mv (v := .string name) ?_
 refine vb (q_len_str rfl Tryz.underlying9 rfl) ?_
 refine vb (q_lss rfl rfl rfl) ?_
 refine mv (v := .bool (decide (((name.size : Nat) : Int) < 1))) ?_
 refine vg0 rfl rfl rfl rfl rfl (fun hg1 => QV.qo (q_move (v := .string name) rfl (by kernel_rfl))) ?_
 refine vg0 rfl rfl rfl rfl rfl (fun hg2 => QV.qo (q_len_str rfl Tryz.underlying9 (gu hg2 rfl))) ?_
 refine vg0 rfl rfl rfl rfl rfl (fun hg3 => QV.qo (q_gtr rfl (gu hg3 rfl) rfl)) ?_
 refine vb (q_pick rfl rfl (pk_or' (g := (decide (((name.size : Nat) : Int) < 1))) (y := (decide (2 < ((name.size : Nat) : Int)))))) ?_
 refine mv (v := .bool ((decide (((name.size : Nat) : Int) < 1)) || (decide (2 < ((name.size : Nat) : Int))))) ?_
 refine vg0 rfl rfl rfl rfl rfl (fun hg4 => QV.qo (q_move (v := .string name) rfl (by kernel_rfl))) ?_
 obtain ⟨z6, hz7, h⟩ := bnd h
 refine vg0 rfl rfl rfl rfl rfl (fun hg5 => (q_call (call_run Tryz.call83 rfl rfl (args2 (gu hg5 rfl) rfl)) (fun w hw => t_strings_Contains (Γ := Gh.all w) name hname (Sat.all w) (gc_of hz7 hg5)))) ?_
 refine vb (q_pick rfl rfl (pk_or' (g := ((decide (((name.size : Nat) : Int) < 1)) || (decide (2 < ((name.size : Nat) : Int))))) (y := z6))) ?_
 refine WR.done ?_
 refine WC.cif h (by kernel_rfl) (fun hb8 h => ?_) (fun hb8 h => ?_)
 ·
  refine WC.rs ?_
  refine as_ (v := .pointer none) ?_
  refine as_ (v := .slice none 0 0) ?_
  refine as_ (v := .int .i64 1) ?_
  refine WR.done ?_
  refine WC.ret ?_
  intro w hw
  have hw := hw.pad
  have hw := hw.pad
  obtain rfl := Option.some.inj h
  subst hF
  exact end_e (is := [2, 1, 0]) (by kernel_rfl) hw rfl ⟨rowd, 0, [], none, 0, [], rfl, rfl, hd, rfl, (Own.nil (slT byteT) _ 77), (show I64 1 by decide), trivial⟩
 ·
  refine WC.skip ?_
  change WC _ _ _ _ _ _
  refine WC.rs ?_
  refine mv (v := (pq gd)) ?_
  refine mv (v := .string name) ?_
  refine vb (q_build' (v := .agg #[(pq gd), .string name, .int .i64 0]) rfl (bargs2 rfl rfl) (fun w => by kernel_rfl)) ?_
  refine e_alloc Tryz.zeroValue141 rfl rfl rfl rfl ?_
  intro g9
  refine e_st (i := 0) (v := .agg #[(pq gd), .string name, .int .i64 0]) (new := #[(pq gd), .string name, .int .i64 0]) rfl Tryz.sizeOf141 rfl rfl rfl rfl (by kernel_rfl) rfl rfl rfl rfl ?_
  refine WR.done ?_
  refine WC.rs ?_
  refine vb (q_ldla (i := 0) (vs := [(pq gd), .string name, .int .i64 0]) rfl rfl Tryz.isAgg141 Tryz.sizeOf141 rfl rfl) ?_
  obtain ⟨z10, hz11, h⟩ := bnd h
  refine e_call (is := [1]) rfl rfl (call_run Tryz.call84 rfl rfl (by kernel_rfl)) rfl (fun w hp => t_seglog_place_holds (gp__0 := gd) name hname 0 (show I64 0 by decide) hd hp hz11) ?_
  rintro Γ12 U14 v15 hl13 ⟨rfl, rfl, hr16, hr17, hr18, _⟩
  change WR _ _ _ (CC F Γ12 [rowd, [(g9, .cells #[(pq gd), .string name, .int .i64 0] 141 (0, 0))]]) _ _ (upd _ 33 (.tuple #[.int .i64 z10.1, .int .i64 z10.2.1, .int .i64 z10.2.2]))
  refine mv (v := .tuple #[.int .i64 z10.1, .int .i64 z10.2.1, .int .i64 z10.2.2]) ?_
  refine vb (q_extract (v := .int .i64 z10.1) rfl rfl rfl) ?_
  refine vb (q_extract (v := .int .i64 z10.2.1) rfl rfl rfl) ?_
  refine vb (q_extract (v := .int .i64 z10.2.2) rfl rfl rfl) ?_
  refine e_alloc Tryz.zeroValue2 rfl rfl rfl rfl ?_
  intro g19
  refine e_st (i := 0) (v := .int .i64 z10.1) (new := #[.int .i64 z10.1]) rfl Tryz.sizeOf2 rfl rfl rfl rfl (by kernel_rfl) rfl rfl rfl rfl ?_
  refine as_ (v := .int .i64 z10.2.1) ?_
  refine as_ (v := .int .i64 z10.2.2) ?_
  refine WR.done ?_
  refine WC.seq ?_
  refine WC.rs ?_
  refine mv (v := .int .i64 z10.2.2) ?_
  refine vb (q_neq rfl rfl rfl) ?_
  refine WR.done ?_
  refine WC.cif h (by kernel_rfl) (fun hb20 h => ?_) (fun hb20 h => ?_)
  ·
   refine WC.rs ?_
   refine mv (v := .int .i64 z10.2.2) ?_
   refine as_ (v := .pointer none) ?_
   refine as_ (v := .slice none 0 0) ?_
   refine as_ (v := .int .i64 z10.2.2) ?_
   refine WR.done ?_
   refine WC.ret ?_
   intro w hw
   have hw := hw.pad
   have hw := hw.pad
   obtain rfl := Option.some.inj h
   subst hF
   exact end_e (is := [3, 1, 0]) (by kernel_rfl) hw rfl ⟨rowd, 0, [], none, 0, [], rfl, rfl, (hd.mono hl13), rfl, (Own.nil (slT byteT) _ 77), hr18, trivial⟩
  ·
   refine WC.skip ?_
   change WC _ _ _ _ _ _
   refine WC.rs ?_
   refine vb (q_ldl (i := 0) (v := .int .i64 z10.1) rfl rfl Tryz.isAgg2 rfl rfl) ?_
   refine vb (q_fl 2 fld_141_2 rfl rfl rfl) ?_
   refine e_st (i := 2) (v := .int .i64 z10.1) (new := #[(pq gd), .string name, .int .i64 z10.1]) rfl Tryz.sizeOf2 rfl rfl rfl rfl (by kernel_rfl) rfl rfl rfl rfl ?_
   refine WR.done ?_
   refine WC.rs ?_
   refine mv (v := (pq gd)) ?_
   obtain ⟨z21, hz22, h⟩ := bnd h
   refine vc rfl rfl rfl (q_call (call_run Tryz.call85 rfl rfl (by kernel_rfl)) (fun w hw => t_disk_Disk_Loose (Γ := Gh.all w) ((hd.mono hl13).mono hw.sat.le_all) (hw.ra 1 rfl) (Sat.all w) hz22)) ?_
   refine as_ (v := .int .i64 z21) ?_
   refine WR.done ?_
   refine WC.seq ?_
   intro w hw; have h023 := hw.le
   refine WC.here (C := CC F Γ12 [[(g19, .cells #[.int .i64 z10.1] 2 (0, 0))], rowd, [(g9, .cells #[(pq gd), .string name, .int .i64 z10.1] 141 (0, 0))]]) ?_ hw; clear hw
   refine WC.held (CC F Γ12 [[(g19, .cells #[.int .i64 z10.1] 2 (0, 0))], [(g9, .cells #[(pq gd), .string name, .int .i64 z10.1] 141 (0, 0))]]) (by kernel_rfl) (fun w hw => hw.drawn _) ?_
   change WH _ _ _ _ (CC F Γ12 [[(g19, .cells #[.int .i64 z10.1] 2 (0, 0))], rowd, [(g9, .cells #[(pq gd), .string name, .int .i64 z10.1] 141 (0, 0))]]) _ 5 #[false, false, false, false, false] _
   refine hu 0 rfl (bk_ (Gh.refl _) h023 (.cons_cons _ (.cons _ (.cons_cons _ .slnil)))) (q_ldla (i := 1) (vs := [(pq gd), .string name, .int .i64 z10.1]) rfl rfl Tryz.isAgg141 Tryz.sizeOf141 rfl rfl) ?_
   refine hu 1 rfl (bk_ (Gh.refl _) h023 (.cons_cons _ (.cons _ (.cons_cons _ .slnil)))) (q_ldla (i := 1) (vs := [(pq gd), .string name, .int .i64 z10.1]) rfl rfl Tryz.isAgg141 Tryz.sizeOf141 rfl rfl) ?_
   refine hu 3 rfl (bk_ (Gh.refl _) h023 (.cons_cons _ (.cons _ (.cons_cons _ .slnil)))) (q_move (v := .int .i64 z10.2.1) rfl (by kernel_rfl)) ?_
   refine WH.lone (i := 2) (by kernel_rfl) rfl ?_
   obtain ⟨z24, hz25, h⟩ := bnd h
   refine vc rfl rfl rfl (q_call (call_run Tryz.call87 rfl rfl (by kernel_rfl)) (fun w hw => t_seglog_place_list (Γ := Gh.all w) (gp__0 := gd) name hname z10.1 hr16 (Sat.all w) hz25)) ?_
   refine WR.nil ?_
   refine WH.next (bk_ (Gh.refl _) h023 (.cons_cons _ (.cons _ (.cons_cons _ .slnil)))) ?_
   refine WH.lone (i := 4) (by kernel_rfl) rfl ?_
   obtain ⟨hk26, h⟩ := chk_some h
   obtain ⟨z27, hz28, h⟩ := bnd h
   refine e_call (is := [1]) rfl rfl (call_run Tryz.call86 rfl rfl (by kernel_rfl)) rfl (fun w hp => t_seglog_place_shorten (gp__0 := gd) name hname z10.1 hr16 z24 (of_decide_eq_true hk26) z10.2.1 hr17 (hd.mono hl13) hp hz28) ?_
   rintro Γ29 U31 v32 hl30 ⟨row33, rfl, rfl, hr34, _⟩
   change WR _ _ _ (CC F Γ29 [row33, [(g19, .cells #[.int .i64 z10.1] 2 (0, 0))], [(g9, .cells #[(pq gd), .string name, .int .i64 z10.1] 141 (0, 0))]]) _ _ (upd _ 48 (.tuple #[]))
   refine WR.nil ?_
   refine WH.next (bk_ hl30 h023 (.cons _ (.cons_cons _ (.cons_cons _ .slnil)))) ?_
   refine WH.done (by kernel_rfl) ?_
   change WC _ _ _ _ _ _
   refine WC.rs ?_
   refine vb (q_ldla (i := 2) (vs := [(pq gd), .string name, .int .i64 z10.1]) rfl rfl Tryz.isAgg141 Tryz.sizeOf141 rfl rfl) ?_
   refine vb (q_mkfn (v := .func (.func 89) #[] #[(pq g19)]) rfl (by kernel_rfl)) ?_
   obtain ⟨rowT35, hT36⟩ : ∃ r : Rowb, r = ([[(g19, .cells #[.int .i64 z10.1] 2 (0, 0))]] : List Rowb).flatten := ⟨_, rfl⟩
   refine WR.sub (fun w hw => hw.fold (is := [1]) rfl hT36) ?_
   obtain ⟨z37, hz38, h⟩ := bnd h
   refine e_call (is := [1, 0]) rfl rfl (call_run Tryz.call88 rfl rfl (by kernel_rfl)) rfl (fun w hp => t_seglog_place_remove (caps := #[(pq g19)]) hr34 name hname z10.1 hr16 (fun x y => m_seglog_Open_1 x y z10.1) (fun {Γq_ wq_} x hx y hy hle hp2 {_} hq => Calls.mono (t_seglog_Open_1 (Γ := Γq_) x hx y hy z10.1 hr16 (by subst hT36; exact hp2.parts) hq) (fun e w2 ho => Outc.quiet (by subst hT36; exact hp2.parts) ho (fun _ _ _ hr => ⟨hr.1, hr.2.1⟩))) Tryz.call89 hp hz38) ?_
   rintro Γ39 U41 v42 hl40 ⟨row43, rfl, rfl, hd44⟩
   change WR _ _ _ (CC F Γ39 [row43, rowT35, [(g9, .cells #[(pq gd), .string name, .int .i64 z10.1] 141 (0, 0))]]) _ _ (upd _ 51 (.tuple #[]))
   refine WR.sub (fun w hw => hw.unfold (i := 1) rfl hT36) ?_
   change WR _ _ _ (CC F Γ39 [[(g19, .cells #[.int .i64 z10.1] 2 (0, 0))], row43, [(g9, .cells #[(pq gd), .string name, .int .i64 z10.1] 141 (0, 0))]]) _ _ _
   refine WR.done ?_
   refine WC.rs ?_
   refine vb (q_ldla (i := 2) (vs := [(pq gd), .string name, .int .i64 z10.1]) rfl rfl Tryz.isAgg141 Tryz.sizeOf141 rfl rfl) ?_
   refine mv (v := .int .i64 size) ?_
   refine vb (q_max rfl rfl rfl) ?_
   refine vb (q_build' (v := .agg #[(pq gd), .string name, .int .i64 z10.1, .int .i64 (max size 16), .int .i64 0, .int .i64 0, .int .i64 0, .int .i64 0]) rfl (bargs2 rfl rfl) (fun w => by kernel_rfl)) ?_
   refine e_box (v := .agg #[(pq gd), .string name, .int .i64 z10.1, .int .i64 (max size 16), .int .i64 0, .int .i64 0, .int .i64 0, .int .i64 0]) rfl rfl rfl rfl (by kernel_rfl) ?_
   intro g45
   refine e_alloc Tryz.zeroValue102 rfl rfl rfl rfl ?_
   intro g46
   refine e_st (i := 0) (v := (pq g45)) (new := #[(pq g45)]) rfl Tryz.sizeOf102 rfl rfl rfl rfl (by kernel_rfl) rfl rfl rfl rfl ?_
   refine WR.done ?_
   refine WC.rs ?_
   refine vb (q_ldl (i := 0) (v := (pq g45)) rfl rfl Tryz.isAgg102 rfl rfl) ?_
   obtain ⟨row_47, hrow_47, hob_47⟩ : ∃ rw : Rowb, rw = ([[(g45, .cells #[(pq gd), .string name, .int .i64 z10.1, .int .i64 (max size 16), .int .i64 0, .int .i64 0, .int .i64 0, .int .i64 0] 150 (0, 0))]] : List Rowb).flatten ∧ Oseglog_Log.ob (150, gd) Γ39 g45 rw (⟨name, z10.1, (max size 16), 0, 0, 0, 0⟩ : Oseglog_Log) := ⟨_, rfl, rfl, hname, hr16, (max_r hsize (show I64 16 by decide)), (show I64 0 by decide), (show I64 0 by decide), (show I64 0 by decide), (show I64 0 by decide), trivial⟩
   intro w hw; have hw := hw.fold (is := [1]) rfl hrow_47
   refine WR.here (C := CC F Γ39 [row_47, [(g46, .cells #[(pq g45)] 102 (0, 0))], [(g19, .cells #[.int .i64 z10.1] 2 (0, 0))], row43, [(g9, .cells #[(pq gd), .string name, .int .i64 z10.1] 141 (0, 0))]]) ?_ hw
   clear hw
   obtain ⟨z48, hz49, h⟩ := bnd h
   refine e_call (is := [0, 2]) rfl rfl (call_run Tryz.call90 rfl rfl (by kernel_rfl)) rfl (fun w hp => t_seglog_Log_scan hob_47 hd44 hp hz49) ?_
   rintro Γ50 U52 v53 hl51 ⟨row54, row56, A58, c59, row60, rfl, rfl, hr55, hr57, hr61, _⟩
   change WR _ _ _ (CC F Γ50 [row54, row56, row60, [(g46, .cells #[(pq g45)] 102 (0, 0))], [(g19, .cells #[.int .i64 z10.1] 2 (0, 0))], [(g9, .cells #[(pq gd), .string name, .int .i64 z10.1] 141 (0, 0))]]) _ _ (upd _ 58 (.slice A58 z48.2.2.length c59))
   refine as_ (v := .slice A58 z48.2.2.length c59) ?_
   refine WR.done ?_
   refine WC.rs ?_
   refine vb (q_ldla (i := 5) (vs := [(pq gd), .string name, .int .i64 z10.1]) rfl rfl Tryz.isAgg141 Tryz.sizeOf141 rfl rfl) ?_
   refine vb (q_mkfn (v := .func (.func 91) #[] #[(pq g46)]) rfl (by kernel_rfl)) ?_
   obtain ⟨rowT62, hT63⟩ : ∃ r : Rowb, r = ([[(g46, .cells #[(pq g45)] 102 (0, 0))], row54] : List Rowb).flatten := ⟨_, rfl⟩
   refine WR.sub (fun w hw => hw.fold (is := [3, 0]) rfl hT63) ?_
   obtain ⟨z64, hz65, h⟩ := bnd h
   refine e_call (is := [1, 0]) rfl rfl (call_run Tryz.call88 rfl rfl (by kernel_rfl)) rfl (fun w hp => t_seglog_place_remove (caps := #[(pq g46)]) hr57 name hname z10.1 hr16 (fun x y => m_seglog_Open_2 x y z48.1) (fun {Γq_ wq_} x hx y hy hle hp2 {_} hq => Calls.mono (t_seglog_Open_2 (Γ := Γq_) x hx y hy (hr55.mono hle) (by subst hT63; exact hp2.parts) hq) (fun e w2 ho => Outc.quiet (by subst hT63; exact hp2.parts) ho (fun _ _ _ hr => ⟨hr.1, hr.2.1⟩))) Tryz.call91 hp hz65) ?_
   rintro Γ66 U68 v69 hl67 ⟨row70, rfl, rfl, hd71⟩
   change WR _ _ _ (CC F Γ66 [row70, rowT62, row60, [(g19, .cells #[.int .i64 z10.1] 2 (0, 0))], [(g9, .cells #[(pq gd), .string name, .int .i64 z10.1] 141 (0, 0))]]) _ _ (upd _ 61 (.tuple #[]))
   refine WR.sub (fun w hw => hw.unfold (i := 1) rfl hT63) ?_
   change WR _ _ _ (CC F Γ66 [[(g46, .cells #[(pq g45)] 102 (0, 0))], row54, row70, row60, [(g19, .cells #[.int .i64 z10.1] 2 (0, 0))], [(g9, .cells #[(pq gd), .string name, .int .i64 z10.1] 141 (0, 0))]]) _ _ _
   refine WR.done ?_
   refine WC.cut (fun σ w => ∃ (o74 : Odisk_Disk), ∃ (Γ72 : Gh), ∃ (row75 : Rowb), m_seglog_Open_j1 z48 o74 = some r ∧ slots σ [(14, (pq g46)), (15, .slice A58 z48.2.2.length c59)] ∧ CC F Γ72 [[(g46, .cells #[(pq g45)] 102 (0, 0))], row54, row75, row60] w ∧ Gh.le Γ66 Γ72 ∧ Odisk_Disk.ob ed Γ72 gd row75 o74 ∧ True) ?_ ?_
   ·
    refine WC.rs ?_
    refine mv (v := (pq gd)) ?_
    obtain ⟨z77, hz78, h⟩ := bnd h
    refine vc rfl rfl rfl (q_call (call_run Tryz.call85 rfl rfl (by kernel_rfl)) (fun w hw => t_disk_Disk_Loose (Γ := Gh.all w) (hd71.mono hw.sat.le_all) (hw.ra 2 rfl) (Sat.all w) hz78)) ?_
    refine mv (v := .int .i64 z21) ?_
    refine vb (q_neq rfl rfl rfl) ?_
    refine WR.done ?_
    refine WC.cif h (by kernel_rfl) (fun hb79 h => ?_) (fun hb79 h => ?_)
    ·
     refine WC.region ?_
     refine mv (v := (pq gd)) ?_
     obtain ⟨z80, hz81, h⟩ := bnd h
     refine e_call (is := [2]) rfl rfl (call_run Tryz.call92 rfl rfl (by kernel_rfl)) rfl (fun w hp => t_disk_Disk_Sync hd71 hp hz81) ?_
     rintro Γ82 U84 v85 hl83 ⟨row86, rfl, rfl, hr87, _⟩
     change WR _ _ _ (CC F Γ82 [row86, [(g46, .cells #[(pq g45)] 102 (0, 0))], row54, row60, [(g19, .cells #[.int .i64 z10.1] 2 (0, 0))], [(g9, .cells #[(pq gd), .string name, .int .i64 z10.1] 141 (0, 0))]]) _ _ (upd _ 67 (.tuple #[]))
     refine WR.nil ?_
     intro w hw
     exact ⟨z80, Γ82, row86, h, (sl_ (by kernel_rfl)), (hw.only (is := [1, 1, 0, 0]) rfl), hl83, hr87, trivial⟩
    ·
     refine WC.skip ?_
     intro w hw
     exact ⟨z64, Γ66, row70, h, (sl_ (by kernel_rfl)), (hw.only (is := [0, 0, 0, 0]) rfl), (Gh.refl _), hd71, trivial⟩
   ·
    rintro σ w ⟨o74, Γ72, row75, h, hsl, hw, hl73, ho76, -⟩
    refine Wpt.slots hsl ?_
    refine WC.here (C := CC F Γ72 [[(g46, .cells #[(pq g45)] 102 (0, 0))], row54, row75, row60]) ?_ hw
    clear hw hsl
    refine WC.rs ?_
    refine vb (q_ldl (i := 0) (v := (pq g45)) rfl rfl Tryz.isAgg102 rfl rfl) ?_
    refine mv (v := .slice A58 z48.2.2.length c59) ?_
    refine as_ (v := (pq g45)) ?_
    refine as_ (v := .slice A58 z48.2.2.length c59) ?_
    refine as_ (v := .int .i64 0) ?_
    refine WR.done ?_
    refine WC.ret ?_
    intro w hw
    obtain rfl := Option.some.inj h
    subst hF
    exact end_e (is := [2, 1, 1]) (by kernel_rfl) hw rfl ⟨row75, g45, row54, A58, c59, row60, rfl, rfl, ho76, (hr55.mono (hl67.trans hl73)), (hr61.mono (hl67.trans hl73)), (show I64 0 by decide), trivial⟩
theorem t_num_Text {Γ : Gh} {w0 : World} {Ab : Option Addr} {cb : Nat} {b : List UInt8} (hb : Sl byteT Γ Ab b) (hbc : b.length ≤ cb) (at_ : Int) (hat_ : I64 at_) (most : Int) (hmost : I64 most) (hs : Sat Γ w0) {r : ByteArray × Int × Int} (h : m_num_Text b at_ most = some r) : Calls Tryz.prog 162 #[.slice Ab b.length cb, .int .i64 at_, .int .i64 most] w0 (fun e w' => e = .returned (.tuple #[.string r.1, .int .i64 r.2.1, .int .i64 r.2.2]) ∧ Fr no w0 w') := by
 refine calls_of (N := 44) (rs := [6, 7, 8]) (args := [.slice Ab b.length cb, .int .i64 at_, .int .i64 most]) Tryz.func162 rfl Tryz.ntmps162 Tryz.results162 rfl ?_
 obtain ⟨F, hF⟩ : ∃ F : Fm, F = ⟨no, w0, Γ⟩ := ⟨_, rfl⟩
 refine WC.here (C := CC F Γ []) ?_ (hF ▸ Cur.start0 hs)
 refine WC.rs ?_
 refine as_ (v := .string ByteArray.empty) ?_
 refine as_ (v := .int .i64 0) ?_
 refine as_ (v := .int .i64 0) ?_
 refine WR.done ?_
 refine WC.rs ?_
 refine mv (v := .slice Ab b.length cb) ?_
 refine mv (v := .int .i64 at_) ?_
 obtain ⟨z1, hz2, h⟩ := bnd h
 refine vc rfl rfl rfl (q_call (call_run Tryz.call120 rfl rfl (by kernel_rfl)) (fun w hw => t_num_Num (Γ := Gh.all w) (hb.mono hw.sat.le_all) hbc at_ hat_ (Sat.all w) hz2)) ?_
 refine mv (v := .tuple #[.int .i64 z1.1, .int .i64 z1.2.1, .int .i64 z1.2.2]) ?_
 refine vb (q_extract (v := .int .i64 z1.1) rfl rfl rfl) ?_
 refine vb (q_extract (v := .int .i64 z1.2.1) rfl rfl rfl) ?_
 refine vb (q_extract (v := .int .i64 z1.2.2) rfl rfl rfl) ?_
 refine as_ (v := .int .i64 z1.1) ?_
 refine as_ (v := .int .i64 z1.2.1) ?_
 refine as_ (v := .int .i64 z1.2.2) ?_
 refine WR.done ?_
 refine WC.seq ?_
 refine WC.block ?_
 refine WC.rs ?_
 refine mv (v := .int .i64 z1.2.2) ?_
 refine vb (q_neq rfl rfl rfl) ?_
 refine as_ (v := .bool (z1.2.2 != 0)) ?_
 refine WR.done ?_
 refine WC.cif h (by kernel_rfl) (fun hb3 h => ?_) (fun hb3 h => ?_)
 ·
  refine WC.rs ?_
  refine mv (v := .int .i64 z1.2.2) ?_
  refine as_ (v := .string ByteArray.empty) ?_
  refine as_ (v := .int .i64 0) ?_
  refine as_ (v := .int .i64 z1.2.2) ?_
  refine WR.done ?_
  refine WC.ret ?_
  intro w hw
  obtain rfl := Option.some.inj h
  subst hF
  exact ⟨by kernel_rfl, hw.fr⟩
 ·
  refine WC.rs ?_
  refine mv (v := .int .i64 z1.1) ?_
  refine mv (v := .int .i64 most) ?_
  refine vb (q_max rfl rfl rfl) ?_
  refine vb (q_gtr rfl rfl rfl) ?_
  refine as_ (v := .bool (decide ((max most 0) < z1.1))) ?_
  refine WR.done ?_
  refine WC.cif h (by kernel_rfl) (fun hb4 h => ?_) (fun hb4 h => ?_)
  ·
   refine WC.rs ?_
   refine as_ (v := .string ByteArray.empty) ?_
   refine as_ (v := .int .i64 0) ?_
   refine as_ (v := .int .i64 3) ?_
   refine WR.done ?_
   refine WC.ret ?_
   intro w hw
   obtain rfl := Option.some.inj h
   subst hF
   exact ⟨by kernel_rfl, hw.fr⟩
  ·
   refine WC.rs ?_
   refine mv (v := .int .i64 z1.1) ?_
   refine mv (v := .slice Ab b.length cb) ?_
   refine vb (q_len_slice rfl Tryz.underlying77 rfl) ?_
   refine mv (v := .int .i64 z1.2.1) ?_
   refine vb (q_sub rfl rfl rfl) ?_
   refine vb (q_gtr rfl rfl rfl) ?_
   refine as_ (v := .bool (decide ((w64 (((b.length : Nat) : Int) - z1.2.1)) < z1.1))) ?_
   refine WR.done ?_
   refine WC.cif h (by kernel_rfl) (fun hb5 h => ?_) (fun hb5 h => ?_)
   ·
    refine WC.rs ?_
    refine as_ (v := .string ByteArray.empty) ?_
    refine as_ (v := .int .i64 0) ?_
    refine as_ (v := .int .i64 4) ?_
    refine WR.done ?_
    refine WC.ret ?_
    intro w hw
    obtain rfl := Option.some.inj h
    subst hF
    exact ⟨by kernel_rfl, hw.fr⟩
   ·
    refine WC.skip ?_
    change WC _ _ _ _ _ _
    refine WC.rs ?_
    refine mv (v := .slice Ab b.length cb) ?_
    refine mv (v := .int .i64 z1.2.1) ?_
    refine mv (v := .int .i64 z1.2.1) ?_
    refine mv (v := .int .i64 z1.1) ?_
    refine vb (q_add rfl rfl rfl) ?_
    obtain ⟨hk6, h⟩ := chk_some h
    obtain ⟨hk7, h⟩ := chk_some h
    obtain ⟨hk8, h⟩ := chk_some h
    refine vb (q_cut (c := cb) (lo := z1.2.1.toNat) (hi := (w64 (z1.2.1 + z1.1)).toNat) (xs := b) Tryz.underlying77 Tryz.sizeOf5 rfl rfl (nn_eq rfl hk7) (inle_eq rfl hk6) (of_decide_eq_true hk8) (inle_le hk6) hbc) ?_
    refine vb (q_bstr (hb.cut (cap := cb) (lo := z1.2.1.toNat) (hi := (w64 (z1.2.1 + z1.1)).toNat) (of_decide_eq_true hk8) (inle_le hk6) hbc) Tryz.underlying77 Tryz.underlying5 Tryz.underlying9 rfl rfl) ?_
    refine mv (v := .int .i64 z1.2.1) ?_
    refine mv (v := .int .i64 z1.1) ?_
    refine vb (q_add rfl rfl rfl) ?_
    refine as_ (v := .string (⟨(List.drop z1.2.1.toNat (List.take ((w64 (z1.2.1 + z1.1)).toNat) b)).toArray⟩ : ByteArray)) ?_
    refine as_ (v := .int .i64 (w64 (z1.2.1 + z1.1))) ?_
    refine as_ (v := .int .i64 0) ?_
    refine WR.done ?_
    refine WC.ret ?_
    intro w hw
    obtain rfl := Option.some.inj h
    subst hF
    exact ⟨by kernel_rfl, hw.fr⟩
abbrev r_code_reader_text (gr_ : Nat) (er_ : Nat) (r : Ocode_reader × ByteArray) (U : List Rowb) (Γ : Gh) (v : Value) : Prop := ∃ (rowr_' : Rowb), v = .string r.2 ∧ U = [rowr_'] ∧ Ocode_reader.ob er_ Γ gr_ rowr_' r.1 ∧ r.2.size ≤ lim ∧ True
theorem t_code_reader_text {Γ : Gh} {w0 : World} {gr_ er_ : Nat} {rowr_ : Rowb} {r_ : Ocode_reader} (hr_ : Ocode_reader.ob er_ Γ gr_ rowr_ r_) (hp : Pre [rowr_] Γ w0) {r : Option (Ocode_reader × ByteArray)} (h : m_code_reader_text r_ = some r) : Calls Tryz.prog 126 #[(pq gr_)] w0 (OutcT [{ v := (.iface 192 (.agg #[])), recovered := false }] Γ [rowr_] w0 (fun r => r_code_reader_text gr_ er_ r) r) := by
 refine calls_of (N := 33) (rs := [2]) (args := [(pq gr_)]) Tryz.func126 rfl Tryz.ntmps126 Tryz.results126 rfl ?_
 obtain ⟨F, hF⟩ : ∃ F : Fm, F = ⟨ids [rowr_], w0, Γ⟩ := ⟨_, rfl⟩
 refine WC.here (C := CC F Γ [rowr_]) ?_ (hF ▸ hp.start)
 refine WC.rs ?_
 refine as_ (v := .string ByteArray.empty) ?_
 refine WR.done ?_
 refine WC.seq ?_
 have hq := hr_
 obtain ⟨A0_1, c0_1, hrow_1, ho0_1, ho1_1, ho2_1, -⟩ := hq
 intro w hw; have hw := hw.unfold (i := 0) rfl hrow_1
 refine WC.here (C := CC F Γ [[(gr_, .cells #[.slice A0_1 r_.b.length c0_1, .int .i64 r_.at_] er_ (0, 0))]]) ?_ hw
 clear hw
 refine WC.dr (by kernel_rfl) (by kernel_rfl) (fun w hw => hw.drawn _) ?_
 refine wa rfl rfl rfl (q_move (v := (pq gr_)) rfl (by kernel_rfl)) ?_
 refine wa rfl rfl rfl (q_nil (A := some ⟨gr_, 0, none⟩) rfl rfl rfl) ?_
 refine wa rfl rfl rfl (q_fl 0 fld_194_0 rfl rfl rfl) ?_
 refine wa rfl rfl rfl (q_ldl (i := 0) (v := .slice A0_1 r_.b.length c0_1) rfl rfl Tryz.isAgg77 rfl rfl) ?_
 refine wa rfl rfl rfl (q_move (v := (pq gr_)) rfl (by kernel_rfl)) ?_
 refine wa rfl rfl rfl (q_nil (A := some ⟨gr_, 0, none⟩) rfl rfl rfl) ?_
 refine wa rfl rfl rfl (q_fl 1 fld_194_1 rfl rfl rfl) ?_
 refine wa rfl rfl rfl (q_ldl (i := 0) (v := .int .i64 r_.at_) rfl rfl Tryz.isAgg3 rfl rfl) ?_
 refine wa rfl rfl rfl (q_move (v := (pq gr_)) rfl (by kernel_rfl)) ?_
 refine wa rfl rfl rfl (q_nil (A := some ⟨gr_, 0, none⟩) rfl rfl rfl) ?_
 refine wa rfl rfl rfl (q_fl 0 fld_194_0 rfl rfl rfl) ?_
 refine wa rfl rfl rfl (q_ldl (i := 0) (v := .slice A0_1 r_.b.length c0_1) rfl rfl Tryz.isAgg77 rfl rfl) ?_
 refine wa rfl rfl rfl (q_len_slice rfl Tryz.underlying77 rfl) ?_
 obtain ⟨z2, hz3, h⟩ := bnd h
 refine wc rfl rfl rfl (q_call (call_run Tryz.call162 rfl rfl (by kernel_rfl)) (fun w hw => t_num_Text (Γ := Gh.all w) (ho1_1.mono hw.sat.le_all) ho0_1 r_.at_ ho2_1 ((r_.b.length : Nat) : Int) (len_r ho1_1.le) (Sat.all w) hz3)) ?_
 refine wa rfl rfl rfl (q_move (v := .tuple #[.string z2.1, .int .i64 z2.2.1, .int .i64 z2.2.2]) rfl (by kernel_rfl)) ?_
 refine wa rfl rfl rfl (q_extract (v := .string z2.1) rfl rfl rfl) ?_
 refine wa rfl rfl rfl (q_extract (v := .int .i64 z2.2.1) rfl rfl rfl) ?_
 refine wa rfl rfl rfl (q_extract (v := .int .i64 z2.2.2) rfl rfl rfl) ?_
 refine wa rfl rfl rfl (q_assign (v := .string z2.1) rfl (by kernel_rfl)) ?_
 refine wa rfl rfl rfl (q_assign (v := .int .i64 z2.2.1) rfl (by kernel_rfl)) ?_
 refine wa rfl rfl rfl (q_assign (v := .int .i64 z2.2.2) rfl (by kernel_rfl)) ?_
 refine WQ.nil ?_
 change WC _ _ _ _ _ _
 intro w hw; have hw := hw.fold (is := [0]) rfl hrow_1
 refine WC.here (C := CC F Γ [rowr_]) ?_ hw
 clear hw
 refine WC.cut (fun σ w => m_code_reader_text_j1 r_ z2  = some r ∧ slots σ [(0, (pq gr_)), (3, .string z2.1), (4, .int .i64 z2.2.1)] ∧ CC F Γ [rowr_] w ∧ True) ?_ ?_
 ·
  refine WC.rs ?_
  refine mv (v := .int .i64 z2.2.2) ?_
  refine vb (q_neq rfl rfl rfl) ?_
  refine WR.done ?_
  refine WC.cif h (by kernel_rfl) (fun hb5 h => ?_) (fun hb5 h => ?_)
  ·
   refine WC.region ?_
   refine vb (q_build (v := .agg #[]) rfl (fun w => by kernel_rfl)) ?_
   refine vb (q_iface rfl rfl (fun w => mkif Tryz.underlying192 w)) ?_
   refine e_panic (v := .iface 192 (.agg #[])) rfl (run_panicop rfl rfl) ?_
   intro w hw
   obtain rfl := Option.some.inj h
   subst hF
   first | exact end_t hw | exact fun _ => end_t hw
  ·
   refine WC.skip ?_
   intro w hw
   exact ⟨h, (sl_ (by kernel_rfl)), hw, trivial⟩
 ·
  rintro σ w ⟨h, hsl, hw, -⟩
  refine Wpt.slots hsl ?_
  refine WC.here (C := CC F Γ [rowr_]) ?_ hw
  clear hw hsl
  refine WC.rs ?_
  refine mv (v := (pq gr_)) ?_
  refine mv (v := .int .i64 z2.2.1) ?_
  refine vb (q_nil (A := some ⟨gr_, 0, none⟩) rfl rfl rfl) ?_
  refine vb (q_fl 1 fld_194_1 rfl rfl rfl) ?_
  have hq := hr_
  obtain ⟨A0_8, c0_8, hrow_8, ho0_8, ho1_8, ho2_8, -⟩ := hq
  intro w hw; have hw := hw.unfold (i := 0) rfl hrow_8
  refine WR.here (C := CC F Γ [[(gr_, .cells #[.slice A0_8 r_.b.length c0_8, .int .i64 r_.at_] er_ (0, 0))]]) ?_ hw
  clear hw
  refine e_st (i := 0) (v := .int .i64 z2.2.1) (new := #[.slice A0_8 r_.b.length c0_8, .int .i64 z2.2.1]) rfl Tryz.sizeOf3 rfl rfl rfl rfl (by kernel_rfl) rfl rfl rfl rfl ?_
  refine WR.done ?_
  refine WC.rs ?_
  refine mv (v := .string z2.1) ?_
  refine as_ (v := .string z2.1) ?_
  refine WR.done ?_
  refine WC.ret ?_
  intro w hw
  obtain ⟨hk10, h⟩ := chk_some h
  obtain ⟨row_9, hrow_9, hob_9⟩ : ∃ rw : Rowb, rw = ([[(gr_, .cells #[.slice A0_8 r_.b.length c0_8, .int .i64 z2.2.1] er_ (0, 0))]] : List Rowb).flatten ∧ Ocode_reader.ob er_ Γ gr_ rw (⟨r_.b, z2.2.1⟩ : Ocode_reader) := ⟨_, rfl, A0_8, c0_8, rfl, ho0_8, ho1_8, (i64b_of hk10), trivial⟩
  have hw := hw.fold (is := [0]) rfl hrow_9
  obtain ⟨hk11, h⟩ := chk_some h
  obtain rfl := Option.some.inj h
  subst hF
  exact end_e (is := [0]) (by kernel_rfl) hw rfl ⟨row_9, rfl, rfl, hob_9, (of_decide_eq_true hk11), trivial⟩
abbrev r_code_reader_num (gr_ : Nat) (er_ : Nat) (r : Ocode_reader × Int) (U : List Rowb) (Γ : Gh) (v : Value) : Prop := ∃ (rowr_' : Rowb), v = .int .i64 r.2 ∧ U = [rowr_'] ∧ Ocode_reader.ob er_ Γ gr_ rowr_' r.1 ∧ I64 r.2 ∧ True
theorem t_code_reader_num {Γ : Gh} {w0 : World} {gr_ er_ : Nat} {rowr_ : Rowb} {r_ : Ocode_reader} (hr_ : Ocode_reader.ob er_ Γ gr_ rowr_ r_) (hp : Pre [rowr_] Γ w0) {r : Option (Ocode_reader × Int)} (h : m_code_reader_num r_ = some r) : Calls Tryz.prog 163 #[(pq gr_)] w0 (OutcT [{ v := (.iface 192 (.agg #[])), recovered := false }] Γ [rowr_] w0 (fun r => r_code_reader_num gr_ er_ r) r) := by
 refine calls_of (N := 28) (rs := [2]) (args := [(pq gr_)]) Tryz.func163 rfl Tryz.ntmps163 Tryz.results163 rfl ?_
 obtain ⟨F, hF⟩ : ∃ F : Fm, F = ⟨ids [rowr_], w0, Γ⟩ := ⟨_, rfl⟩
 refine WC.here (C := CC F Γ [rowr_]) ?_ (hF ▸ hp.start)
 refine WC.rs ?_
 refine as_ (v := .int .i64 0) ?_
 refine WR.done ?_
 refine WC.seq ?_
 have hq := hr_
 obtain ⟨A0_1, c0_1, hrow_1, ho0_1, ho1_1, ho2_1, -⟩ := hq
 intro w hw; have hw := hw.unfold (i := 0) rfl hrow_1
 refine WC.here (C := CC F Γ [[(gr_, .cells #[.slice A0_1 r_.b.length c0_1, .int .i64 r_.at_] er_ (0, 0))]]) ?_ hw
 clear hw
 refine WC.dr (by kernel_rfl) (by kernel_rfl) (fun w hw => hw.drawn _) ?_
 refine wa rfl rfl rfl (q_move (v := (pq gr_)) rfl (by kernel_rfl)) ?_
 refine wa rfl rfl rfl (q_nil (A := some ⟨gr_, 0, none⟩) rfl rfl rfl) ?_
 refine wa rfl rfl rfl (q_fl 0 fld_194_0 rfl rfl rfl) ?_
 refine wa rfl rfl rfl (q_ldl (i := 0) (v := .slice A0_1 r_.b.length c0_1) rfl rfl Tryz.isAgg77 rfl rfl) ?_
 refine wa rfl rfl rfl (q_move (v := (pq gr_)) rfl (by kernel_rfl)) ?_
 refine wa rfl rfl rfl (q_nil (A := some ⟨gr_, 0, none⟩) rfl rfl rfl) ?_
 refine wa rfl rfl rfl (q_fl 1 fld_194_1 rfl rfl rfl) ?_
 refine wa rfl rfl rfl (q_ldl (i := 0) (v := .int .i64 r_.at_) rfl rfl Tryz.isAgg3 rfl rfl) ?_
 obtain ⟨z2, hz3, h⟩ := bnd h
 refine wc rfl rfl rfl (q_call (call_run Tryz.call120 rfl rfl (by kernel_rfl)) (fun w hw => t_num_Num (Γ := Gh.all w) (ho1_1.mono hw.sat.le_all) ho0_1 r_.at_ ho2_1 (Sat.all w) hz3)) ?_
 refine wa rfl rfl rfl (q_move (v := .tuple #[.int .i64 z2.1, .int .i64 z2.2.1, .int .i64 z2.2.2]) rfl (by kernel_rfl)) ?_
 refine wa rfl rfl rfl (q_extract (v := .int .i64 z2.1) rfl rfl rfl) ?_
 refine wa rfl rfl rfl (q_extract (v := .int .i64 z2.2.1) rfl rfl rfl) ?_
 refine wa rfl rfl rfl (q_extract (v := .int .i64 z2.2.2) rfl rfl rfl) ?_
 refine wa rfl rfl rfl (q_assign (v := .int .i64 z2.1) rfl (by kernel_rfl)) ?_
 refine wa rfl rfl rfl (q_assign (v := .int .i64 z2.2.1) rfl (by kernel_rfl)) ?_
 refine wa rfl rfl rfl (q_assign (v := .int .i64 z2.2.2) rfl (by kernel_rfl)) ?_
 refine WQ.nil ?_
 change WC _ _ _ _ _ _
 intro w hw; have hw := hw.fold (is := [0]) rfl hrow_1
 refine WC.here (C := CC F Γ [rowr_]) ?_ hw
 clear hw
 refine WC.cut (fun σ w => m_code_reader_num_j1 r_ z2  = some r ∧ slots σ [(0, (pq gr_)), (3, .int .i64 z2.1), (4, .int .i64 z2.2.1)] ∧ CC F Γ [rowr_] w ∧ True) ?_ ?_
 ·
  refine WC.rs ?_
  refine mv (v := .int .i64 z2.2.2) ?_
  refine vb (q_neq rfl rfl rfl) ?_
  refine WR.done ?_
  refine WC.cif h (by kernel_rfl) (fun hb5 h => ?_) (fun hb5 h => ?_)
  ·
   refine WC.region ?_
   refine vb (q_build (v := .agg #[]) rfl (fun w => by kernel_rfl)) ?_
   refine vb (q_iface rfl rfl (fun w => mkif Tryz.underlying192 w)) ?_
   refine e_panic (v := .iface 192 (.agg #[])) rfl (run_panicop rfl rfl) ?_
   intro w hw
   obtain rfl := Option.some.inj h
   subst hF
   first | exact end_t hw | exact fun _ => end_t hw
  ·
   refine WC.skip ?_
   intro w hw
   exact ⟨h, (sl_ (by kernel_rfl)), hw, trivial⟩
 ·
  rintro σ w ⟨h, hsl, hw, -⟩
  refine Wpt.slots hsl ?_
  refine WC.here (C := CC F Γ [rowr_]) ?_ hw
  clear hw hsl
  refine WC.rs ?_
  refine mv (v := (pq gr_)) ?_
  refine mv (v := .int .i64 z2.2.1) ?_
  refine vb (q_nil (A := some ⟨gr_, 0, none⟩) rfl rfl rfl) ?_
  refine vb (q_fl 1 fld_194_1 rfl rfl rfl) ?_
  have hq := hr_
  obtain ⟨A0_8, c0_8, hrow_8, ho0_8, ho1_8, ho2_8, -⟩ := hq
  intro w hw; have hw := hw.unfold (i := 0) rfl hrow_8
  refine WR.here (C := CC F Γ [[(gr_, .cells #[.slice A0_8 r_.b.length c0_8, .int .i64 r_.at_] er_ (0, 0))]]) ?_ hw
  clear hw
  refine e_st (i := 0) (v := .int .i64 z2.2.1) (new := #[.slice A0_8 r_.b.length c0_8, .int .i64 z2.2.1]) rfl Tryz.sizeOf3 rfl rfl rfl rfl (by kernel_rfl) rfl rfl rfl rfl ?_
  refine WR.done ?_
  refine WC.rs ?_
  refine mv (v := .int .i64 z2.1) ?_
  refine as_ (v := .int .i64 z2.1) ?_
  refine WR.done ?_
  refine WC.ret ?_
  intro w hw
  obtain ⟨hk10, h⟩ := chk_some h
  obtain ⟨row_9, hrow_9, hob_9⟩ : ∃ rw : Rowb, rw = ([[(gr_, .cells #[.slice A0_8 r_.b.length c0_8, .int .i64 z2.2.1] er_ (0, 0))]] : List Rowb).flatten ∧ Ocode_reader.ob er_ Γ gr_ rw (⟨r_.b, z2.2.1⟩ : Ocode_reader) := ⟨_, rfl, A0_8, c0_8, rfl, ho0_8, ho1_8, (i64b_of hk10), trivial⟩
  have hw := hw.fold (is := [0]) rfl hrow_9
  obtain ⟨hk11, h⟩ := chk_some h
  obtain rfl := Option.some.inj h
  subst hF
  exact end_e (is := [0]) (by kernel_rfl) hw rfl ⟨row_9, rfl, rfl, hob_9, (i64b_of hk11), trivial⟩
abbrev r_code_reader_int (gr_ : Nat) (er_ : Nat) (r : Ocode_reader × Int) (U : List Rowb) (Γ : Gh) (v : Value) : Prop := ∃ (rowr_' : Rowb), v = .int .i64 r.2 ∧ U = [rowr_'] ∧ Ocode_reader.ob er_ Γ gr_ rowr_' r.1 ∧ I64 r.2 ∧ True
theorem t_code_reader_int {Γ : Gh} {w0 : World} {gr_ er_ : Nat} {rowr_ : Rowb} {r_ : Ocode_reader} (hr_ : Ocode_reader.ob er_ Γ gr_ rowr_ r_) (hp : Pre [rowr_] Γ w0) {r : Option (Ocode_reader × Int)} (h : m_code_reader_int r_ = some r) : Calls Tryz.prog 164 #[(pq gr_)] w0 (OutcT [{ v := (.iface 192 (.agg #[])), recovered := false }] Γ [rowr_] w0 (fun r => r_code_reader_int gr_ er_ r) r) := by
 refine calls_of (N := 5) (rs := [2]) (args := [(pq gr_)]) Tryz.func164 rfl Tryz.ntmps164 Tryz.results164 rfl ?_
 obtain ⟨F, hF⟩ : ∃ F : Fm, F = ⟨ids [rowr_], w0, Γ⟩ := ⟨_, rfl⟩
 refine WC.here (C := CC F Γ [rowr_]) ?_ (hF ▸ hp.start)
 refine WC.rs ?_
 refine as_ (v := .int .i64 0) ?_
 refine WR.done ?_
 refine WC.rs ?_
 refine mv (v := (pq gr_)) ?_
 obtain ⟨z1, hz2, h⟩ := bnd h
 rcases z1 with _ | o3
 ·
  have h := optm_n rfl h
  refine e_callN (is := [0]) rfl (call_run Tryz.call163 rfl rfl (by kernel_rfl)) rfl (fun w hp => t_code_reader_num hr_ hp hz2) ?_
  intro Γ4 hl5
  intro w hw
  obtain rfl := Option.some.inj h
  subst hF
  first | exact end_t hw | exact fun _ => end_t hw
 ·
  have h := optm_s rfl h
  refine e_call (is := [0]) rfl rfl (call_run Tryz.call163 rfl rfl (by kernel_rfl)) rfl (fun w hp => t_code_reader_num hr_ hp hz2) ?_
  rintro Γ6 U8 v9 hl7 ⟨row10, rfl, rfl, hr11, hr12, _⟩
  change WR _ _ _ (CC F Γ6 [row10]) _ _ (upd _ 4 (.int .i64 o3.2))
  refine as_ (v := .int .i64 o3.2) ?_
  refine WR.done ?_
  refine WC.ret ?_
  intro w hw
  obtain rfl := Option.some.inj h
  subst hF
  exact end_e (is := [0]) (by kernel_rfl) hw rfl ⟨row10, rfl, rfl, hr11, hr12, trivial⟩
abbrev r_code_reader_span (gr_ : Nat) (er_ : Nat) (r : Ocode_reader × Span) (U : List Rowb) (Γ : Gh) (v : Value) : Prop := ∃ (rowr_' : Rowb), v = .agg #[.int .i64 r.2.s, .int .i64 r.2.f, .int .i64 r.2.t] ∧ U = [rowr_'] ∧ Ocode_reader.ob er_ Γ gr_ rowr_' r.1 ∧ Span.fits Γ  r.2 ∧ True
theorem t_code_reader_span {Γ : Gh} {w0 : World} {gr_ er_ : Nat} {rowr_ : Rowb} {r_ : Ocode_reader} (hr_ : Ocode_reader.ob er_ Γ gr_ rowr_ r_) (hp : Pre [rowr_] Γ w0) {r : Option (Ocode_reader × Span)} (h : m_code_reader_span r_ = some r) : Calls Tryz.prog 166 #[(pq gr_)] w0 (OutcT [{ v := (.iface 192 (.agg #[])), recovered := false }] Γ [rowr_] w0 (fun r => r_code_reader_span gr_ er_ r) r) := by
 refine calls_of_r (N := 24) (rs := [.cell 2 93]) (args := [(pq gr_)]) Tryz.func166 rfl Tryz.ntmps166 Tryz.results166 rfl ?_
 obtain ⟨F, hF⟩ : ∃ F : Fm, F = ⟨ids [rowr_], w0, Γ⟩ := ⟨_, rfl⟩
 refine WC.here (C := CC F Γ [rowr_]) ?_ (hF ▸ hp.start)
 refine WC.rs ?_
 refine e_alloc Tryz.zeroValue93 rfl rfl rfl rfl ?_
 intro g1
 refine WR.done ?_
 refine WC.rs ?_
 refine mv (v := (pq gr_)) ?_
 obtain ⟨z2, hz3, h⟩ := bnd h
 rcases z2 with _ | o4
 ·
  have h := optm_n rfl h
  refine e_callN (is := [1]) rfl (call_run Tryz.call164 rfl rfl (by kernel_rfl)) rfl (fun w hp => t_code_reader_int hr_ hp hz3) ?_
  intro Γ5 hl6
  intro w hw
  obtain rfl := Option.some.inj h
  subst hF
  first | exact end_t hw | exact fun _ => end_t hw
 ·
  have h := optm_s rfl h
  refine e_call (is := [1]) rfl rfl (call_run Tryz.call164 rfl rfl (by kernel_rfl)) rfl (fun w hp => t_code_reader_int hr_ hp hz3) ?_
  rintro Γ7 U9 v10 hl8 ⟨row11, rfl, rfl, hr12, hr13, _⟩
  change WR _ _ _ (CC F Γ7 [row11, [(g1, .cells #[.int .i64 0, .int .i64 0, .int .i64 0] 93 (0, 0))]]) _ _ (upd _ 5 (.int .i64 o4.2))
  refine vb (q_build' (v := .agg #[.int .i64 o4.2, .int .i64 0, .int .i64 0]) rfl (bargs1 rfl) (fun w => by kernel_rfl)) ?_
  refine e_alloc Tryz.zeroValue93 rfl rfl rfl rfl ?_
  intro g14
  refine e_st (i := 0) (v := .agg #[.int .i64 o4.2, .int .i64 0, .int .i64 0]) (new := #[.int .i64 o4.2, .int .i64 0, .int .i64 0]) rfl Tryz.sizeOf93 rfl rfl rfl rfl (by kernel_rfl) rfl rfl rfl rfl ?_
  refine WR.done ?_
  refine WC.rs ?_
  refine mv (v := (pq gr_)) ?_
  obtain ⟨z15, hz16, h⟩ := bnd h
  rcases z15 with _ | o17
  ·
   have h := optm_n rfl h
   refine e_callN (is := [1]) rfl (call_run Tryz.call163 rfl rfl (by kernel_rfl)) rfl (fun w hp => t_code_reader_num hr12 hp hz16) ?_
   intro Γ18 hl19
   intro w hw
   obtain rfl := Option.some.inj h
   subst hF
   first | exact end_t hw | exact fun _ => end_t hw
  ·
   have h := optm_s rfl h
   refine e_call (is := [1]) rfl rfl (call_run Tryz.call163 rfl rfl (by kernel_rfl)) rfl (fun w hp => t_code_reader_num hr12 hp hz16) ?_
   rintro Γ20 U22 v23 hl21 ⟨row24, rfl, rfl, hr25, hr26, _⟩
   change WR _ _ _ (CC F Γ20 [row24, [(g14, .cells #[.int .i64 o4.2, .int .i64 0, .int .i64 0] 93 (0, 0))], [(g1, .cells #[.int .i64 0, .int .i64 0, .int .i64 0] 93 (0, 0))]]) _ _ (upd _ 8 (.int .i64 o17.2))
   refine vb (q_fl 1 fld_93_1 rfl rfl rfl) ?_
   refine e_st (i := 1) (v := .int .i64 o17.2) (new := #[.int .i64 o4.2, .int .i64 o17.2, .int .i64 0]) rfl Tryz.sizeOf2 rfl rfl rfl rfl (by kernel_rfl) rfl rfl rfl rfl ?_
   refine WR.done ?_
   refine WC.cut (fun σ w => ∃ (x29 : Span), ∃ (o31 : Ocode_reader), ∃ (Γ27 : Gh), ∃ (row32 : Rowb), m_code_reader_span_j1 x29 o31 = some r ∧ slots σ [(2, (pq g1)), (3, (pq g14))] ∧ CC F Γ27 [row32, [(g14, .cells #[.int .i64 x29.s, .int .i64 x29.f, .int .i64 x29.t] 93 (0, 0))], [(g1, .cells #[.int .i64 0, .int .i64 0, .int .i64 0] 93 (0, 0))]] w ∧ Gh.le Γ20 Γ27 ∧ Span.fits Γ27  x29 ∧ Ocode_reader.ob er_ Γ27 gr_ row32 o31 ∧ True) ?_ ?_
   ·
    intro w hw; have h034 := hw.le
    refine WC.here (C := CC F Γ20 [row24, [(g14, .cells #[.int .i64 o4.2, .int .i64 o17.2, .int .i64 0] 93 (0, 0))], [(g1, .cells #[.int .i64 0, .int .i64 0, .int .i64 0] 93 (0, 0))]]) ?_ hw; clear hw
    refine WC.held (CC F Γ20 [[(g1, .cells #[.int .i64 0, .int .i64 0, .int .i64 0] 93 (0, 0))]]) (by kernel_rfl) (fun w hw => hw.drawn _) ?_
    change WH _ _ _ _ (CC F Γ20 [row24, [(g14, .cells #[.int .i64 o4.2, .int .i64 o17.2, .int .i64 0] 93 (0, 0))], [(g1, .cells #[.int .i64 0, .int .i64 0, .int .i64 0] 93 (0, 0))]]) _ 7 #[false, false, false, false, false, false, false] _
    refine hu 0 rfl (bk_ (Gh.refl _) h034 (.cons _ (.cons _ (.cons_cons _ .slnil)))) (q_fl 1 fld_93_1 rfl rfl rfl) ?_
    refine hu 2 rfl (bk_ (Gh.refl _) h034 (.cons _ (.cons _ (.cons_cons _ .slnil)))) (q_move (v := (pq gr_)) rfl (by kernel_rfl)) ?_
    obtain ⟨z35, hz36, h⟩ := bnd h
    refine WH.each (l := [1, 3]) (by kernel_rfl) (by simp) ?_
    intro i hi; simp only [List.mem_cons, List.not_mem_nil, or_false] at hi
    rcases hi with rfl | rfl
    ·
     refine ⟨_, rfl, ?_⟩
     refine vb (q_ldl (i := 1) (v := .int .i64 o17.2) rfl rfl Tryz.isAgg2 rfl rfl) ?_
     refine WR.nil ?_
     refine WH.next (bk_ (Gh.refl _) h034 (.cons _ (.cons _ (.cons_cons _ .slnil)))) ?_
     refine WH.lone (i := 3) (by kernel_rfl) rfl ?_
     rcases z35 with _ | o37
     ·
      have h := optm_n rfl h
      refine e_callN (is := [0]) rfl (call_run Tryz.call163 rfl rfl (by kernel_rfl)) rfl (fun w hp => t_code_reader_num hr25 hp hz36) ?_
      intro Γ38 hl39
      intro w hw
      obtain rfl := Option.some.inj h
      subst hF
      first | exact end_t hw | exact fun _ => end_t hw
     ·
      have h := optm_s rfl h
      refine e_call (is := [0]) rfl rfl (call_run Tryz.call163 rfl rfl (by kernel_rfl)) rfl (fun w hp => t_code_reader_num hr25 hp hz36) ?_
      rintro Γ40 U42 v43 hl41 ⟨row44, rfl, rfl, hr45, hr46, _⟩
      change WR _ _ _ (CC F Γ40 [row44, [(g14, .cells #[.int .i64 o4.2, .int .i64 o17.2, .int .i64 0] 93 (0, 0))], [(g1, .cells #[.int .i64 0, .int .i64 0, .int .i64 0] 93 (0, 0))]]) _ _ (upd _ 13 (.int .i64 o37.2))
      refine WR.nil ?_
      refine WH.next (bk_ hl41 h034 (.cons _ (.cons _ (.cons_cons _ .slnil)))) ?_
      refine hu 4 rfl (bk_ hl41 h034 (.cons _ (.cons _ (.cons_cons _ .slnil)))) (q_add rfl rfl rfl) ?_
      refine hu 5 rfl (bk_ hl41 h034 (.cons _ (.cons _ (.cons_cons _ .slnil)))) (q_fl 2 fld_93_2 rfl rfl rfl) ?_
      refine WH.lone (i := 6) (by kernel_rfl) rfl ?_
      refine e_st (i := 1) (v := .int .i64 (w64 (o17.2 + o37.2))) (new := #[.int .i64 o4.2, .int .i64 o17.2, .int .i64 (w64 (o17.2 + o37.2))]) rfl Tryz.sizeOf2 rfl rfl rfl rfl (by kernel_rfl) rfl rfl rfl rfl ?_
      refine WR.nil ?_
      refine WH.next (bk_ hl41 h034 (.cons _ (.cons _ (.cons_cons _ .slnil)))) ?_
      refine WH.done (by kernel_rfl) ?_
      intro w hw
      exact ⟨(⟨o4.2, o17.2, (w64 (o17.2 + o37.2))⟩ : Span), o37.1, Γ40, row44, h, (sl_ (by kernel_rfl)), hw, hl41, ⟨hr13, hr26, (w64_r _)⟩, hr45, trivial⟩
    ·
     refine ⟨_, rfl, ?_⟩
     rcases z35 with _ | o37
     ·
      have h := optm_n rfl h
      refine e_callN (is := [0]) rfl (call_run Tryz.call163 rfl rfl (by kernel_rfl)) rfl (fun w hp => t_code_reader_num hr25 hp hz36) ?_
      intro Γ38 hl39
      intro w hw
      obtain rfl := Option.some.inj h
      subst hF
      first | exact end_t hw | exact fun _ => end_t hw
     ·
      have h := optm_s rfl h
      refine e_call (is := [0]) rfl rfl (call_run Tryz.call163 rfl rfl (by kernel_rfl)) rfl (fun w hp => t_code_reader_num hr25 hp hz36) ?_
      rintro Γ40 U42 v43 hl41 ⟨row44, rfl, rfl, hr45, hr46, _⟩
      change WR _ _ _ (CC F Γ40 [row44, [(g14, .cells #[.int .i64 o4.2, .int .i64 o17.2, .int .i64 0] 93 (0, 0))], [(g1, .cells #[.int .i64 0, .int .i64 0, .int .i64 0] 93 (0, 0))]]) _ _ (upd _ 13 (.int .i64 o37.2))
      refine WR.nil ?_
      refine WH.next (bk_ hl41 h034 (.cons _ (.cons _ (.cons_cons _ .slnil)))) ?_
      refine WH.lone (i := 1) (by kernel_rfl) rfl ?_
      refine vb (q_ldl (i := 1) (v := .int .i64 o17.2) rfl rfl Tryz.isAgg2 rfl rfl) ?_
      refine WR.nil ?_
      refine WH.next (bk_ hl41 h034 (.cons _ (.cons _ (.cons_cons _ .slnil)))) ?_
      refine hu 4 rfl (bk_ hl41 h034 (.cons _ (.cons _ (.cons_cons _ .slnil)))) (q_add rfl rfl rfl) ?_
      refine hu 5 rfl (bk_ hl41 h034 (.cons _ (.cons _ (.cons_cons _ .slnil)))) (q_fl 2 fld_93_2 rfl rfl rfl) ?_
      refine WH.lone (i := 6) (by kernel_rfl) rfl ?_
      refine e_st (i := 1) (v := .int .i64 (w64 (o17.2 + o37.2))) (new := #[.int .i64 o4.2, .int .i64 o17.2, .int .i64 (w64 (o17.2 + o37.2))]) rfl Tryz.sizeOf2 rfl rfl rfl rfl (by kernel_rfl) rfl rfl rfl rfl ?_
      refine WR.nil ?_
      refine WH.next (bk_ hl41 h034 (.cons _ (.cons _ (.cons_cons _ .slnil)))) ?_
      refine WH.done (by kernel_rfl) ?_
      intro w hw
      exact ⟨(⟨o4.2, o17.2, (w64 (o17.2 + o37.2))⟩ : Span), o37.1, Γ40, row44, h, (sl_ (by kernel_rfl)), hw, hl41, ⟨hr13, hr26, (w64_r _)⟩, hr45, trivial⟩
   ·
    rintro σ w ⟨x29, o31, Γ27, row32, h, hsl, hw, hl28, hf30, ho33, -⟩
    refine Wpt.slots hsl ?_
    refine WC.here (C := CC F Γ27 [row32, [(g14, .cells #[.int .i64 x29.s, .int .i64 x29.f, .int .i64 x29.t] 93 (0, 0))], [(g1, .cells #[.int .i64 0, .int .i64 0, .int .i64 0] 93 (0, 0))]]) ?_ hw
    clear hw hsl
    refine WC.cut (fun σ w => m_code_reader_span_j2 x29 o31  = some r ∧ slots σ [(2, (pq g1)), (3, (pq g14))] ∧ CC F Γ27 [row32, [(g14, .cells #[.int .i64 x29.s, .int .i64 x29.f, .int .i64 x29.t] 93 (0, 0))], [(g1, .cells #[.int .i64 0, .int .i64 0, .int .i64 0] 93 (0, 0))]] w ∧ True) ?_ ?_
    ·
     refine WC.rs ?_
     refine vb (q_fl 2 fld_93_2 rfl rfl rfl) ?_
     refine vb (q_ldl (i := 1) (v := .int .i64 x29.t) rfl rfl Tryz.isAgg2 rfl rfl) ?_
     refine vb (q_fl 1 fld_93_1 rfl rfl rfl) ?_
     refine vb (q_ldl (i := 1) (v := .int .i64 x29.f) rfl rfl Tryz.isAgg2 rfl rfl) ?_
     refine vb (q_lss rfl rfl rfl) ?_
     refine WR.done ?_
     refine WC.cif h (by kernel_rfl) (fun hb47 h => ?_) (fun hb47 h => ?_)
     ·
      refine WC.region ?_
      refine vb (q_build (v := .agg #[]) rfl (fun w => by kernel_rfl)) ?_
      refine vb (q_iface rfl rfl (fun w => mkif Tryz.underlying192 w)) ?_
      refine e_panic (v := .iface 192 (.agg #[])) rfl (run_panicop rfl rfl) ?_
      intro w hw
      obtain rfl := Option.some.inj h
      subst hF
      first | exact end_t hw | exact fun _ => end_t hw
     ·
      refine WC.skip ?_
      intro w hw
      exact ⟨h, (sl_ (by kernel_rfl)), hw, trivial⟩
    ·
     rintro σ w ⟨h, hsl, hw, -⟩
     refine Wpt.slots hsl ?_
     refine WC.here (C := CC F Γ27 [row32, [(g14, .cells #[.int .i64 x29.s, .int .i64 x29.f, .int .i64 x29.t] 93 (0, 0))], [(g1, .cells #[.int .i64 0, .int .i64 0, .int .i64 0] 93 (0, 0))]]) ?_ hw
     clear hw hsl
     refine WC.rs ?_
     refine vb (q_ldla (i := 1) (vs := [.int .i64 x29.s, .int .i64 x29.f, .int .i64 x29.t]) rfl rfl Tryz.isAgg93 Tryz.sizeOf93 rfl rfl) ?_
     refine e_st (i := 2) (v := .agg #[.int .i64 x29.s, .int .i64 x29.f, .int .i64 x29.t]) (new := #[.int .i64 x29.s, .int .i64 x29.f, .int .i64 x29.t]) rfl Tryz.sizeOf93 rfl rfl rfl rfl (by kernel_rfl) rfl rfl rfl rfl ?_
     refine WR.done ?_
     refine WC.ret ?_
     intro w hw
     obtain rfl := Option.some.inj h
     subst hF
     exact ⟨[.agg #[.int .i64 x29.s, .int .i64 x29.f, .int .i64 x29.t]], (rr_agg (i := 2) (us := [.int .i64 x29.s, .int .i64 x29.f, .int .i64 x29.t]) hw rfl Tryz.isAgg93 Tryz.sizeOf93 (by kernel_rfl) rfl rr_nil), end_e (is := [0]) (by kernel_rfl) hw rfl ⟨row32, rfl, rfl, ho33, hf30, trivial⟩⟩
abbrev r_code_take_api_Span (gr_ : Nat) (er_ : Nat) (r : Ocode_reader × (List Span)) (U : List Rowb) (Γ : Gh) (v : Value) : Prop := ∃ (rowr_' : Rowb), ∃ (A0 : Option Addr), ∃ (c0 : Nat), ∃ (row0 : Rowb), v = .slice A0 r.2.length c0 ∧ U = [rowr_', row0] ∧ Ocode_reader.ob er_ Γ gr_ rowr_' r.1 ∧ Own spanT Γ 93 row0 A0 c0 r.2 ∧ True
theorem t_code_take_api_Span {Γ : Gh} {w0 : World} {gr_ er_ : Nat} {rowr_ : Rowb} {r_ : Ocode_reader} (hr_ : Ocode_reader.ob er_ Γ gr_ rowr_ r_) (hp : Pre [rowr_] Γ w0) {r : Option (Ocode_reader × (List Span))} (h : m_code_take_api_Span r_ = some r) : Calls Tryz.prog 165 #[(pq gr_), .func (.func 166) #[(pq gr_)] #[]] w0 (OutcT [{ v := (.iface 192 (.agg #[])), recovered := false }] Γ [rowr_] w0 (fun r => r_code_take_api_Span gr_ er_ r) r) := by
 refine calls_of (N := 33) (rs := [4]) (args := [(pq gr_), .func (.func 166) #[(pq gr_)] #[]]) Tryz.func165 rfl Tryz.ntmps165 Tryz.results165 rfl ?_
 obtain ⟨F, hF⟩ : ∃ F : Fm, F = ⟨ids [rowr_], w0, Γ⟩ := ⟨_, rfl⟩
 refine WC.here (C := CC F Γ [rowr_]) ?_ (hF ▸ hp.start)
 refine WC.rs ?_
 refine as_ (v := .slice none 0 0) ?_
 refine WR.done ?_
 refine WC.rs ?_
 refine mv (v := (pq gr_)) ?_
 obtain ⟨z1, hz2, h⟩ := bnd h
 rcases z1 with _ | o3
 ·
  have h := optm_n rfl h
  refine e_callN (is := [0]) rfl (call_run Tryz.call163 rfl rfl (by kernel_rfl)) rfl (fun w hp => t_code_reader_num hr_ hp hz2) ?_
  intro Γ4 hl5
  intro w hw
  obtain rfl := Option.some.inj h
  subst hF
  first | exact end_t hw | exact fun _ => end_t hw
 ·
  have h := optm_s rfl h
  refine e_call (is := [0]) rfl rfl (call_run Tryz.call163 rfl rfl (by kernel_rfl)) rfl (fun w hp => t_code_reader_num hr_ hp hz2) ?_
  rintro Γ6 U8 v9 hl7 ⟨row10, rfl, rfl, hr11, hr12, _⟩
  change WR _ _ _ (CC F Γ6 [row10]) _ _ (upd _ 8 (.int .i64 o3.2))
  refine as_ (v := .int .i64 o3.2) ?_
  refine WR.done ?_
  refine WC.cut (fun σ w => m_code_take_api_Span_j1 o3  = some r ∧ slots σ [(1, .func (.func 166) #[(pq gr_)] #[]), (5, .int .i64 o3.2)] ∧ CC F Γ6 [row10] w ∧ True) ?_ ?_
  ·
   refine WC.seq ?_
   have hq := hr11
   obtain ⟨A0_13, c0_13, hrow_13, ho0_13, ho1_13, ho2_13, -⟩ := hq
   intro w hw; have hw := hw.unfold (i := 0) rfl hrow_13
   refine WC.here (C := CC F Γ6 [[(gr_, .cells #[.slice A0_13 o3.1.b.length c0_13, .int .i64 o3.1.at_] er_ (0, 0))]]) ?_ hw
   clear hw
   refine WC.dr (by kernel_rfl) (by kernel_rfl) (fun w hw => hw.drawn _) ?_
   refine wa rfl rfl rfl (q_move (v := .int .i64 o3.2) rfl (by kernel_rfl)) ?_
   refine wa rfl rfl rfl (q_move (v := (pq gr_)) rfl (by kernel_rfl)) ?_
   refine wa rfl rfl rfl (q_nil (A := some ⟨gr_, 0, none⟩) rfl rfl rfl) ?_
   refine wa rfl rfl rfl (q_fl 0 fld_194_0 rfl rfl rfl) ?_
   refine wa rfl rfl rfl (q_ldl (i := 0) (v := .slice A0_13 o3.1.b.length c0_13) rfl rfl Tryz.isAgg77 rfl rfl) ?_
   refine wa rfl rfl rfl (q_len_slice rfl Tryz.underlying77 rfl) ?_
   refine wa rfl rfl rfl (q_move (v := (pq gr_)) rfl (by kernel_rfl)) ?_
   refine wa rfl rfl rfl (q_nil (A := some ⟨gr_, 0, none⟩) rfl rfl rfl) ?_
   refine wa rfl rfl rfl (q_fl 1 fld_194_1 rfl rfl rfl) ?_
   refine wa rfl rfl rfl (q_ldl (i := 0) (v := .int .i64 o3.1.at_) rfl rfl Tryz.isAgg3 rfl rfl) ?_
   refine wa rfl rfl rfl (q_sub rfl rfl rfl) ?_
   refine wa rfl rfl rfl (q_gtr rfl rfl rfl) ?_
   refine WQ.nil ?_
   change WC _ _ _ _ _ _
   refine WC.cif h (by kernel_rfl) (fun hb14 h => ?_) (fun hb14 h => ?_)
   ·
    refine WC.region ?_
    refine vb (q_build (v := .agg #[]) rfl (fun w => by kernel_rfl)) ?_
    refine vb (q_iface rfl rfl (fun w => mkif Tryz.underlying192 w)) ?_
    refine e_panic (v := .iface 192 (.agg #[])) rfl (run_panicop rfl rfl) ?_
    intro w hw
    obtain rfl := Option.some.inj h
    subst hF
    first | exact end_t hw | exact fun _ => end_t hw
   ·
    refine WC.skip ?_
    intro w hw
    have hw := hw.fold (is := [0]) rfl hrow_13
    exact ⟨h, (sl_ (by kernel_rfl)), hw, trivial⟩
  ·
   rintro σ w ⟨h, hsl, hw, -⟩
   refine Wpt.slots hsl ?_
   refine WC.here (C := CC F Γ6 [row10]) ?_ hw
   clear hw hsl
   refine WC.rs ?_
   refine as_ (v := .slice none 0 0) ?_
   refine WR.done ?_
   refine WC.seq ?_
   refine WC.rs ?_
   refine mv (v := .int .i64 o3.2) ?_
   refine mv (v := .int .i64 0) ?_
   refine WR.done ?_
   refine WC.block ?_
   refine WC.forU h (fun (i29 : Nat) (s : (List Span) × Ocode_reader) σ w => match s with | (out_20, o25) => ∃ (Γ18 : Gh), ∃ (A21 : Option Addr), ∃ (c22 : Nat), ∃ (row23 : Rowb), ∃ (row26 : Rowb), slots σ [(1, .func (.func 166) #[(pq gr_)] #[]), (6, .slice A21 out_20.length c22), (23, .int .i64 o3.2), (24, .int .i64 ((i29 : Nat) : Int))] ∧ CC F Γ18 [row23, row26] w ∧ Gh.le Γ6 Γ18 ∧ Own spanT Γ18 93 row23 A21 c22 out_20 ∧ Ocode_reader.ob er_ Γ18 gr_ row26 o25 ∧ True) ?_ ?_
   ·
    intro w hw
    have hw := hw.pad
    exact ⟨Γ6, none, 0, [], row10, (sl_ (by kernel_rfl)), hw, (Gh.refl _), (Own.nil spanT _ 93), hr11, trivial⟩
   rintro f28 i29 ⟨out_20, o25⟩ σ w hi30 hlt31 hge32 ⟨Γ18, A21, c22, row23, row26, hsl, hw, hl19, ho24, ho27, -⟩
   refine Wpt.slots hsl ?_
   refine WC.here (C := CC F Γ18 [row23, row26]) ?_ hw
   clear hw hsl
   refine WC.rs ?_
   refine vb (q_lss rfl rfl rfl) ?_
   refine WR.done ?_
   refine WC.seq ?_
   refine WC.cond (b := (decide (((i29 : Nat) : Int) < o3.2))) (by kernel_rfl) (fun hb33 => ?_) (fun hb33 => ?_)
   ·
    have hl34 := ilti hb33
    have h := hlt31 hl34
    refine WC.skip ?_
    change WC _ _ _ _ _ _
    refine WC.seq ?_
    refine WC.block ?_
    refine WC.region ?_
    refine mv (v := .slice A21 out_20.length c22) ?_
    refine mv (v := .func (.func 166) #[(pq gr_)] #[]) ?_
    obtain ⟨z35, hz36, h⟩ := bnd h
    rcases z35 with _ | o37
    ·
     have h := optm_n rfl h
     refine e_callN (is := [1]) rfl (call_run_fb (first := #[(pq gr_)]) Tryz.call166 rfl (by kernel_rfl) (by kernel_rfl)) rfl (fun w hp => t_code_reader_span ho27 hp hz36) ?_
     intro Γ38 hl39
     intro w hw
     obtain rfl := Option.some.inj h
     subst hF
     first | exact end_t hw | exact fun _ => end_t hw
    ·
     have h := optm_s rfl h
     refine e_call (is := [1]) rfl rfl (call_run_fb (first := #[(pq gr_)]) Tryz.call166 rfl (by kernel_rfl) (by kernel_rfl)) rfl (fun w hp => t_code_reader_span ho27 hp hz36) ?_
     rintro Γ40 U42 v43 hl41 ⟨row44, rfl, rfl, hr45, hr46, _⟩
     change WR _ _ _ (CC F Γ40 [row44, row23]) _ _ (upd _ 28 (.agg #[.int .i64 o37.2.s, .int .i64 o37.2.f, .int .i64 o37.2.t]))
     refine e_buildSlice (cs := #[.int .i64 o37.2.s, .int .i64 o37.2.f, .int .i64 o37.2.t]) (e := 93) rfl rfl rfl rfl (fun w => by kernel_rfl) ?_
     intro g47
     obtain ⟨hk48, h⟩ := chk_some h
     refine e_append (T := spanT) (xs := out_20) (ys := [o37.2]) elem_87 (i := 2) rfl rfl rfl rfl rfl rfl rfl (ho24.mono hl41) (of_decide_eq_true hk48) (fun w hw => src_one (T := spanT) (y := o37.2) (i := 0) rfl (by exact ⟨rfl, hr46⟩) hw) ?_
     intro row49 A50 c51 ho52
     refine as_ (v := .slice A50 (out_20 ++ [o37.2]).length c51) ?_
     refine WR.nil ?_
     change WC _ _ _ _ _ _
     refine WC.region ?_
     refine vb (q_add_r (r := ((i29 + 1 : Nat) : Int)) rfl rfl rfl (ctr_int hl34 hr12)) ?_
     refine mv (v := .int .i64 ((i29 + 1 : Nat) : Int)) ?_
     refine WR.nil ?_
     intro w hw
     exact ⟨hl34, ((out_20 ++ [o37.2]), o37.1), h, Γ40, A50, c51, row49, row44, (sl_ (by kernel_rfl)), (hw.only (is := [2, 1]) rfl), (hl19.trans hl41), ho52, hr45, trivial⟩
   ·
    have h := hge32 (igei hb33)
    refine WC.exit ?_
    change WC _ _ _ _ _ _
    refine WC.rs ?_
    refine mv (v := .slice A21 out_20.length c22) ?_
    refine as_ (v := .slice A21 out_20.length c22) ?_
    refine WR.done ?_
    refine WC.ret ?_
    intro w hw
    obtain rfl := Option.some.inj h
    subst hF
    exact end_e (is := [1, 0]) (by kernel_rfl) hw rfl ⟨row26, A21, c22, row23, rfl, rfl, ho27, ho24, trivial⟩
abbrev r_code_reader_ver (gr_ : Nat) (er_ : Nat) (r : Ocode_reader × Ver) (U : List Rowb) (Γ : Gh) (v : Value) : Prop := ∃ (rowr_' : Rowb), ∃ (A0_2 : Option Addr), ∃ (c0_2 : Nat), v = .agg #[.int .i64 r.2.dot.s, .int .i64 r.2.dot.n, .slice A0_2 r.2.past.length c0_2, .bool r.2.gone, .string r.2.val] ∧ U = [rowr_'] ∧ Ocode_reader.ob er_ Γ gr_ rowr_' r.1 ∧ Ver.fits Γ A0_2 c0_2 r.2 ∧ True
theorem t_code_reader_ver {Γ : Gh} {w0 : World} {gr_ er_ : Nat} {rowr_ : Rowb} {r_ : Ocode_reader} (hr_ : Ocode_reader.ob er_ Γ gr_ rowr_ r_) (hp : Pre [rowr_] Γ w0) {r : Option (Ocode_reader × Ver)} (h : m_code_reader_ver r_ = some r) : Calls Tryz.prog 128 #[(pq gr_)] w0 (OutcT [{ v := (.iface 192 (.agg #[])), recovered := false }] Γ [rowr_] w0 (fun r => r_code_reader_ver gr_ er_ r) r) := by
 refine calls_of_r (N := 30) (rs := [.cell 2 89]) (args := [(pq gr_)]) Tryz.func128 rfl Tryz.ntmps128 Tryz.results128 rfl ?_
 obtain ⟨F, hF⟩ : ∃ F : Fm, F = ⟨ids [rowr_], w0, Γ⟩ := ⟨_, rfl⟩
 refine WC.here (C := CC F Γ [rowr_]) ?_ (hF ▸ hp.start)
 refine WC.rs ?_
 refine e_alloc Tryz.zeroValue89 rfl rfl rfl rfl ?_
 intro g1
 refine WR.done ?_
 refine WC.rs ?_
 refine mv (v := (pq gr_)) ?_
 obtain ⟨z2, hz3, h⟩ := bnd h
 rcases z2 with _ | o4
 ·
  have h := optm_n rfl h
  refine e_callN (is := [1]) rfl (call_run Tryz.call164 rfl rfl (by kernel_rfl)) rfl (fun w hp => t_code_reader_int hr_ hp hz3) ?_
  intro Γ5 hl6
  intro w hw
  obtain rfl := Option.some.inj h
  subst hF
  first | exact end_t hw | exact fun _ => end_t hw
 ·
  have h := optm_s rfl h
  refine e_call (is := [1]) rfl rfl (call_run Tryz.call164 rfl rfl (by kernel_rfl)) rfl (fun w hp => t_code_reader_int hr_ hp hz3) ?_
  rintro Γ7 U9 v10 hl8 ⟨row11, rfl, rfl, hr12, hr13, _⟩
  change WR _ _ _ (CC F Γ7 [row11, [(g1, .cells #[.int .i64 0, .int .i64 0, .slice none 0 0, .bool false, .string ByteArray.empty] 89 (0, 0))]]) _ _ (upd _ 5 (.int .i64 o4.2))
  refine vb (q_build' (v := .agg #[.int .i64 o4.2, .int .i64 0]) rfl (bargs1 rfl) (fun w => by kernel_rfl)) ?_
  refine vb (q_build' (v := .agg #[.int .i64 o4.2, .int .i64 0, .slice none 0 0, .bool false, .string ByteArray.empty]) rfl (bargs1 rfl) (fun w => by kernel_rfl)) ?_
  refine e_alloc Tryz.zeroValue89 rfl rfl rfl rfl ?_
  intro g14
  refine e_st (i := 0) (v := .agg #[.int .i64 o4.2, .int .i64 0, .slice none 0 0, .bool false, .string ByteArray.empty]) (new := #[.int .i64 o4.2, .int .i64 0, .slice none 0 0, .bool false, .string ByteArray.empty]) rfl Tryz.sizeOf89 rfl rfl rfl rfl (by kernel_rfl) rfl rfl rfl rfl ?_
  refine WR.done ?_
  refine WC.rs ?_
  refine mv (v := (pq gr_)) ?_
  obtain ⟨z15, hz16, h⟩ := bnd h
  rcases z15 with _ | o17
  ·
   have h := optm_n rfl h
   refine e_callN (is := [1]) rfl (call_run Tryz.call163 rfl rfl (by kernel_rfl)) rfl (fun w hp => t_code_reader_num hr12 hp hz16) ?_
   intro Γ18 hl19
   intro w hw
   obtain rfl := Option.some.inj h
   subst hF
   first | exact end_t hw | exact fun _ => end_t hw
  ·
   have h := optm_s rfl h
   refine e_call (is := [1]) rfl rfl (call_run Tryz.call163 rfl rfl (by kernel_rfl)) rfl (fun w hp => t_code_reader_num hr12 hp hz16) ?_
   rintro Γ20 U22 v23 hl21 ⟨row24, rfl, rfl, hr25, hr26, _⟩
   change WR _ _ _ (CC F Γ20 [row24, [(g14, .cells #[.int .i64 o4.2, .int .i64 0, .slice none 0 0, .bool false, .string ByteArray.empty] 89 (0, 0))], [(g1, .cells #[.int .i64 0, .int .i64 0, .slice none 0 0, .bool false, .string ByteArray.empty] 89 (0, 0))]]) _ _ (upd _ 9 (.int .i64 o17.2))
   refine vb (q_fl 0 fld_89_0 rfl rfl rfl) ?_
   refine vb (q_fl 1 fld_86_1 rfl rfl rfl) ?_
   refine e_st (i := 1) (v := .int .i64 o17.2) (new := #[.int .i64 o4.2, .int .i64 o17.2, .slice none 0 0, .bool false, .string ByteArray.empty]) rfl Tryz.sizeOf2 rfl rfl rfl rfl (by kernel_rfl) rfl rfl rfl rfl ?_
   refine WR.done ?_
   refine WC.rs ?_
   refine mv (v := (pq gr_)) ?_
   refine mv (v := (pq gr_)) ?_
   refine vb (q_mkfn (v := .func (.func 166) #[(pq gr_)] #[]) rfl (by kernel_rfl)) ?_
   obtain ⟨z27, hz28, h⟩ := bnd h
   rcases z27 with _ | o29
   ·
    have h := optm_n rfl h
    refine e_callN (is := [0]) rfl (call_run Tryz.call165 rfl rfl (by kernel_rfl)) rfl (fun w hp => t_code_take_api_Span hr25 hp hz28) ?_
    intro Γ30 hl31
    intro w hw
    obtain rfl := Option.some.inj h
    subst hF
    first | exact end_t hw | exact fun _ => end_t hw
   ·
    have h := optm_s rfl h
    refine e_call (is := [0]) rfl rfl (call_run Tryz.call165 rfl rfl (by kernel_rfl)) rfl (fun w hp => t_code_take_api_Span hr25 hp hz28) ?_
    rintro Γ32 U34 v35 hl33 ⟨row36, A38, c39, row40, rfl, rfl, hr37, hr41, _⟩
    change WR _ _ _ (CC F Γ32 [row36, row40, [(g14, .cells #[.int .i64 o4.2, .int .i64 o17.2, .slice none 0 0, .bool false, .string ByteArray.empty] 89 (0, 0))], [(g1, .cells #[.int .i64 0, .int .i64 0, .slice none 0 0, .bool false, .string ByteArray.empty] 89 (0, 0))]]) _ _ (upd _ 15 (.slice A38 o29.2.length c39))
    refine vb (q_fl 2 fld_89_1 rfl rfl rfl) ?_
    refine e_st (i := 2) (v := .slice A38 o29.2.length c39) (new := #[.int .i64 o4.2, .int .i64 o17.2, .slice A38 o29.2.length c39, .bool false, .string ByteArray.empty]) rfl Tryz.sizeOf87 rfl rfl rfl rfl (by kernel_rfl) rfl rfl rfl rfl ?_
    refine WR.done ?_
    refine WC.cut (fun σ w => ∃ (x44 : Bool), ∃ (x45 : ByteArray), ∃ (o47 : Ocode_reader), ∃ (Γ42 : Gh), ∃ (row48 : Rowb), m_code_reader_ver_j1 o4 o17 o29 x44 x45 o47 = some r ∧ slots σ [(2, (pq g1)), (3, (pq g14))] ∧ CC F Γ42 [row48, row40, [(g14, .cells #[.int .i64 o4.2, .int .i64 o17.2, .slice A38 o29.2.length c39, .bool x44, .string x45] 89 (0, 0))], [(g1, .cells #[.int .i64 0, .int .i64 0, .slice none 0 0, .bool false, .string ByteArray.empty] 89 (0, 0))]] w ∧ Gh.le Γ32 Γ42 ∧ x45.size ≤ lim ∧ Ocode_reader.ob er_ Γ42 gr_ row48 o47 ∧ True) ?_ ?_
    ·
     refine WC.rs ?_
     refine mv (v := (pq gr_)) ?_
     obtain ⟨z50, hz51, h⟩ := bnd h
     rcases z50 with _ | o52
     ·
      have h := optm_n rfl h
      refine e_callN (is := [0]) rfl (call_run Tryz.call163 rfl rfl (by kernel_rfl)) rfl (fun w hp => t_code_reader_num hr37 hp hz51) ?_
      intro Γ53 hl54
      intro w hw
      obtain rfl := Option.some.inj h
      subst hF
      first | exact end_t hw | exact fun _ => end_t hw
     ·
      have h := optm_s rfl h
      refine e_call (is := [0]) rfl rfl (call_run Tryz.call163 rfl rfl (by kernel_rfl)) rfl (fun w hp => t_code_reader_num hr37 hp hz51) ?_
      rintro Γ55 U57 v58 hl56 ⟨row59, rfl, rfl, hr60, hr61, _⟩
      change WR _ _ _ (CC F Γ55 [row59, row40, [(g14, .cells #[.int .i64 o4.2, .int .i64 o17.2, .slice A38 o29.2.length c39, .bool false, .string ByteArray.empty] 89 (0, 0))], [(g1, .cells #[.int .i64 0, .int .i64 0, .slice none 0 0, .bool false, .string ByteArray.empty] 89 (0, 0))]]) _ _ (upd _ 18 (.int .i64 o52.2))
      refine WR.done ?_
      refine WC.block ?_
      refine WC.rs ?_
      refine vb (q_eql rfl rfl rfl) ?_
      refine as_ (v := .bool (o52.2 == 0)) ?_
      refine WR.done ?_
      refine WC.cif h (by kernel_rfl) (fun hb62 h => ?_) (fun hb62 h => ?_)
      ·
       refine WC.region ?_
       refine mv (v := (pq gr_)) ?_
       obtain ⟨z63, hz64, h⟩ := bnd h
       rcases z63 with _ | o65
       ·
        have h := optm_n rfl h
        refine e_callN (is := [0]) rfl (call_run Tryz.call126 rfl rfl (by kernel_rfl)) rfl (fun w hp => t_code_reader_text hr60 hp hz64) ?_
        intro Γ66 hl67
        intro w hw
        obtain rfl := Option.some.inj h
        subst hF
        first | exact end_t hw | exact fun _ => end_t hw
       ·
        have h := optm_s rfl h
        refine e_call (is := [0]) rfl rfl (call_run Tryz.call126 rfl rfl (by kernel_rfl)) rfl (fun w hp => t_code_reader_text hr60 hp hz64) ?_
        rintro Γ68 U70 v71 hl69 ⟨row72, rfl, rfl, hr73, hr74, _⟩
        change WR _ _ _ (CC F Γ68 [row72, row40, [(g14, .cells #[.int .i64 o4.2, .int .i64 o17.2, .slice A38 o29.2.length c39, .bool false, .string ByteArray.empty] 89 (0, 0))], [(g1, .cells #[.int .i64 0, .int .i64 0, .slice none 0 0, .bool false, .string ByteArray.empty] 89 (0, 0))]]) _ _ (upd _ 24 (.string o65.2))
        refine vb (q_fl 4 fld_89_3 rfl rfl rfl) ?_
        refine e_st (i := 2) (v := .string o65.2) (new := #[.int .i64 o4.2, .int .i64 o17.2, .slice A38 o29.2.length c39, .bool false, .string o65.2]) rfl Tryz.sizeOf9 rfl rfl rfl rfl (by kernel_rfl) rfl rfl rfl rfl ?_
        refine WR.nil ?_
        intro w hw
        exact ⟨false, o65.2, o65.1, Γ68, row72, h, (sl_ (by kernel_rfl)), hw, (hl56.trans hl69), hr74, hr73, trivial⟩
      ·
       refine WC.rs ?_
       refine vb (q_eql rfl rfl rfl) ?_
       refine as_ (v := .bool (o52.2 == 1)) ?_
       refine WR.done ?_
       refine WC.cif h (by kernel_rfl) (fun hb75 h => ?_) (fun hb75 h => ?_)
       ·
        refine WC.region ?_
        refine vb (q_fl 3 fld_89_2 rfl rfl rfl) ?_
        refine e_st (i := 2) (v := .bool true) (new := #[.int .i64 o4.2, .int .i64 o17.2, .slice A38 o29.2.length c39, .bool true, .string ByteArray.empty]) rfl Tryz.sizeOf4 rfl rfl rfl rfl (by kernel_rfl) rfl rfl rfl rfl ?_
        refine WR.nil ?_
        intro w hw
        exact ⟨true, ByteArray.empty, o52.1, Γ55, row59, h, (sl_ (by kernel_rfl)), hw, hl56, (show (ByteArray.empty : ByteArray).size ≤ lim by decide), hr60, trivial⟩
       ·
        refine WC.region ?_
        refine vb (q_build (v := .agg #[]) rfl (fun w => by kernel_rfl)) ?_
        refine vb (q_iface rfl rfl (fun w => mkif Tryz.underlying192 w)) ?_
        refine e_panic (v := .iface 192 (.agg #[])) rfl (run_panicop rfl rfl) ?_
        intro w hw
        obtain rfl := Option.some.inj h
        subst hF
        first | exact end_t hw | exact fun _ => end_t hw
    ·
     rintro σ w ⟨x44, x45, o47, Γ42, row48, h, hsl, hw, hl43, hr46, ho49, -⟩
     refine Wpt.slots hsl ?_
     refine WC.here (C := CC F Γ42 [row48, row40, [(g14, .cells #[.int .i64 o4.2, .int .i64 o17.2, .slice A38 o29.2.length c39, .bool x44, .string x45] 89 (0, 0))], [(g1, .cells #[.int .i64 0, .int .i64 0, .slice none 0 0, .bool false, .string ByteArray.empty] 89 (0, 0))]]) ?_ hw
     clear hw hsl
     refine WC.rs ?_
     refine vb (q_ldla (i := 2) (vs := [.int .i64 o4.2, .int .i64 o17.2, .slice A38 o29.2.length c39, .bool x44, .string x45]) rfl rfl Tryz.isAgg89 Tryz.sizeOf89 rfl rfl) ?_
     refine e_st (i := 3) (v := .agg #[.int .i64 o4.2, .int .i64 o17.2, .slice A38 o29.2.length c39, .bool x44, .string x45]) (new := #[.int .i64 o4.2, .int .i64 o17.2, .slice A38 o29.2.length c39, .bool x44, .string x45]) rfl Tryz.sizeOf89 rfl rfl rfl rfl (by kernel_rfl) rfl rfl rfl rfl ?_
     refine WR.done ?_
     refine WC.ret ?_
     intro w hw
     have hc82 := (hr41.mono hl43).capz
     obtain ⟨Γ78, hw, hl79, hr80⟩ := hw.seal (i := 1) rfl; have hs81 := (hr41.mono hl43).sl hl79 hr80
     obtain rfl := Option.some.inj h
     subst hF
     exact ⟨[.agg #[.int .i64 o4.2, .int .i64 o17.2, .slice A38 o29.2.length c39, .bool x44, .string x45]], (rr_agg (i := 3) (us := [.int .i64 o4.2, .int .i64 o17.2, .slice A38 o29.2.length c39, .bool x44, .string x45]) hw rfl Tryz.isAgg89 Tryz.sizeOf89 (by kernel_rfl) rfl rr_nil), end_e (is := [0]) (by kernel_rfl) hw rfl ⟨row48, A38, c39, rfl, rfl, (ho49.mono hl79), ⟨hr13, hr26, ⟨hc82, hs81⟩, hr46⟩, trivial⟩⟩
abbrev r_code_take_api_Ver (gr_ : Nat) (er_ : Nat) (r : Ocode_reader × (List Ver)) (U : List Rowb) (Γ : Gh) (v : Value) : Prop := ∃ (rowr_' : Rowb), ∃ (A0 : Option Addr), ∃ (c0 : Nat), ∃ (row0 : Rowb), v = .slice A0 r.2.length c0 ∧ U = [rowr_', row0] ∧ Ocode_reader.ob er_ Γ gr_ rowr_' r.1 ∧ Own verT Γ 89 row0 A0 c0 r.2 ∧ True
theorem t_code_take_api_Ver {Γ : Gh} {w0 : World} {gr_ er_ : Nat} {rowr_ : Rowb} {r_ : Ocode_reader} (hr_ : Ocode_reader.ob er_ Γ gr_ rowr_ r_) (hp : Pre [rowr_] Γ w0) {r : Option (Ocode_reader × (List Ver))} (h : m_code_take_api_Ver r_ = some r) : Calls Tryz.prog 127 #[(pq gr_), .func (.func 128) #[(pq gr_)] #[]] w0 (OutcT [{ v := (.iface 192 (.agg #[])), recovered := false }] Γ [rowr_] w0 (fun r => r_code_take_api_Ver gr_ er_ r) r) := by
 refine calls_of (N := 33) (rs := [4]) (args := [(pq gr_), .func (.func 128) #[(pq gr_)] #[]]) Tryz.func127 rfl Tryz.ntmps127 Tryz.results127 rfl ?_
 obtain ⟨F, hF⟩ : ∃ F : Fm, F = ⟨ids [rowr_], w0, Γ⟩ := ⟨_, rfl⟩
 refine WC.here (C := CC F Γ [rowr_]) ?_ (hF ▸ hp.start)
 refine WC.rs ?_
 refine as_ (v := .slice none 0 0) ?_
 refine WR.done ?_
 refine WC.rs ?_
 refine mv (v := (pq gr_)) ?_
 obtain ⟨z1, hz2, h⟩ := bnd h
 rcases z1 with _ | o3
 ·
  have h := optm_n rfl h
  refine e_callN (is := [0]) rfl (call_run Tryz.call163 rfl rfl (by kernel_rfl)) rfl (fun w hp => t_code_reader_num hr_ hp hz2) ?_
  intro Γ4 hl5
  intro w hw
  obtain rfl := Option.some.inj h
  subst hF
  first | exact end_t hw | exact fun _ => end_t hw
 ·
  have h := optm_s rfl h
  refine e_call (is := [0]) rfl rfl (call_run Tryz.call163 rfl rfl (by kernel_rfl)) rfl (fun w hp => t_code_reader_num hr_ hp hz2) ?_
  rintro Γ6 U8 v9 hl7 ⟨row10, rfl, rfl, hr11, hr12, _⟩
  change WR _ _ _ (CC F Γ6 [row10]) _ _ (upd _ 8 (.int .i64 o3.2))
  refine as_ (v := .int .i64 o3.2) ?_
  refine WR.done ?_
  refine WC.cut (fun σ w => m_code_take_api_Ver_j1 o3  = some r ∧ slots σ [(1, .func (.func 128) #[(pq gr_)] #[]), (5, .int .i64 o3.2)] ∧ CC F Γ6 [row10] w ∧ True) ?_ ?_
  ·
   refine WC.seq ?_
   have hq := hr11
   obtain ⟨A0_13, c0_13, hrow_13, ho0_13, ho1_13, ho2_13, -⟩ := hq
   intro w hw; have hw := hw.unfold (i := 0) rfl hrow_13
   refine WC.here (C := CC F Γ6 [[(gr_, .cells #[.slice A0_13 o3.1.b.length c0_13, .int .i64 o3.1.at_] er_ (0, 0))]]) ?_ hw
   clear hw
   refine WC.dr (by kernel_rfl) (by kernel_rfl) (fun w hw => hw.drawn _) ?_
   refine wa rfl rfl rfl (q_move (v := .int .i64 o3.2) rfl (by kernel_rfl)) ?_
   refine wa rfl rfl rfl (q_move (v := (pq gr_)) rfl (by kernel_rfl)) ?_
   refine wa rfl rfl rfl (q_nil (A := some ⟨gr_, 0, none⟩) rfl rfl rfl) ?_
   refine wa rfl rfl rfl (q_fl 0 fld_194_0 rfl rfl rfl) ?_
   refine wa rfl rfl rfl (q_ldl (i := 0) (v := .slice A0_13 o3.1.b.length c0_13) rfl rfl Tryz.isAgg77 rfl rfl) ?_
   refine wa rfl rfl rfl (q_len_slice rfl Tryz.underlying77 rfl) ?_
   refine wa rfl rfl rfl (q_move (v := (pq gr_)) rfl (by kernel_rfl)) ?_
   refine wa rfl rfl rfl (q_nil (A := some ⟨gr_, 0, none⟩) rfl rfl rfl) ?_
   refine wa rfl rfl rfl (q_fl 1 fld_194_1 rfl rfl rfl) ?_
   refine wa rfl rfl rfl (q_ldl (i := 0) (v := .int .i64 o3.1.at_) rfl rfl Tryz.isAgg3 rfl rfl) ?_
   refine wa rfl rfl rfl (q_sub rfl rfl rfl) ?_
   refine wa rfl rfl rfl (q_gtr rfl rfl rfl) ?_
   refine WQ.nil ?_
   change WC _ _ _ _ _ _
   refine WC.cif h (by kernel_rfl) (fun hb14 h => ?_) (fun hb14 h => ?_)
   ·
    refine WC.region ?_
    refine vb (q_build (v := .agg #[]) rfl (fun w => by kernel_rfl)) ?_
    refine vb (q_iface rfl rfl (fun w => mkif Tryz.underlying192 w)) ?_
    refine e_panic (v := .iface 192 (.agg #[])) rfl (run_panicop rfl rfl) ?_
    intro w hw
    obtain rfl := Option.some.inj h
    subst hF
    first | exact end_t hw | exact fun _ => end_t hw
   ·
    refine WC.skip ?_
    intro w hw
    have hw := hw.fold (is := [0]) rfl hrow_13
    exact ⟨h, (sl_ (by kernel_rfl)), hw, trivial⟩
  ·
   rintro σ w ⟨h, hsl, hw, -⟩
   refine Wpt.slots hsl ?_
   refine WC.here (C := CC F Γ6 [row10]) ?_ hw
   clear hw hsl
   refine WC.rs ?_
   refine as_ (v := .slice none 0 0) ?_
   refine WR.done ?_
   refine WC.seq ?_
   refine WC.rs ?_
   refine mv (v := .int .i64 o3.2) ?_
   refine mv (v := .int .i64 0) ?_
   refine WR.done ?_
   refine WC.block ?_
   refine WC.forU h (fun (i29 : Nat) (s : (List Ver) × Ocode_reader) σ w => match s with | (out_20, o25) => ∃ (Γ18 : Gh), ∃ (A21 : Option Addr), ∃ (c22 : Nat), ∃ (row23 : Rowb), ∃ (row26 : Rowb), slots σ [(1, .func (.func 128) #[(pq gr_)] #[]), (6, .slice A21 out_20.length c22), (23, .int .i64 o3.2), (24, .int .i64 ((i29 : Nat) : Int))] ∧ CC F Γ18 [row23, row26] w ∧ Gh.le Γ6 Γ18 ∧ Own verT Γ18 89 row23 A21 c22 out_20 ∧ Ocode_reader.ob er_ Γ18 gr_ row26 o25 ∧ True) ?_ ?_
   ·
    intro w hw
    have hw := hw.pad
    exact ⟨Γ6, none, 0, [], row10, (sl_ (by kernel_rfl)), hw, (Gh.refl _), (Own.nil verT _ 89), hr11, trivial⟩
   rintro f28 i29 ⟨out_20, o25⟩ σ w hi30 hlt31 hge32 ⟨Γ18, A21, c22, row23, row26, hsl, hw, hl19, ho24, ho27, -⟩
   refine Wpt.slots hsl ?_
   refine WC.here (C := CC F Γ18 [row23, row26]) ?_ hw
   clear hw hsl
   refine WC.rs ?_
   refine vb (q_lss rfl rfl rfl) ?_
   refine WR.done ?_
   refine WC.seq ?_
   refine WC.cond (b := (decide (((i29 : Nat) : Int) < o3.2))) (by kernel_rfl) (fun hb33 => ?_) (fun hb33 => ?_)
   ·
    have hl34 := ilti hb33
    have h := hlt31 hl34
    refine WC.skip ?_
    change WC _ _ _ _ _ _
    refine WC.seq ?_
    refine WC.block ?_
    refine WC.region ?_
    refine mv (v := .slice A21 out_20.length c22) ?_
    refine mv (v := .func (.func 128) #[(pq gr_)] #[]) ?_
    obtain ⟨z35, hz36, h⟩ := bnd h
    rcases z35 with _ | o37
    ·
     have h := optm_n rfl h
     refine e_callN (is := [1]) rfl (call_run_fb (first := #[(pq gr_)]) Tryz.call128 rfl (by kernel_rfl) (by kernel_rfl)) rfl (fun w hp => t_code_reader_ver ho27 hp hz36) ?_
     intro Γ38 hl39
     intro w hw
     obtain rfl := Option.some.inj h
     subst hF
     first | exact end_t hw | exact fun _ => end_t hw
    ·
     have h := optm_s rfl h
     refine e_call (is := [1]) rfl rfl (call_run_fb (first := #[(pq gr_)]) Tryz.call128 rfl (by kernel_rfl) (by kernel_rfl)) rfl (fun w hp => t_code_reader_ver ho27 hp hz36) ?_
     rintro Γ40 U42 v43 hl41 ⟨row44, A46, c47, rfl, rfl, hr45, hr48, _⟩
     change WR _ _ _ (CC F Γ40 [row44, row23]) _ _ (upd _ 28 (.agg #[.int .i64 o37.2.dot.s, .int .i64 o37.2.dot.n, .slice A46 o37.2.past.length c47, .bool o37.2.gone, .string o37.2.val]))
     refine e_buildSlice (cs := #[.int .i64 o37.2.dot.s, .int .i64 o37.2.dot.n, .slice A46 o37.2.past.length c47, .bool o37.2.gone, .string o37.2.val]) (e := 89) rfl rfl rfl rfl (fun w => by kernel_rfl) ?_
     intro g49
     obtain ⟨hk50, h⟩ := chk_some h
     refine e_append (T := verT) (xs := out_20) (ys := [o37.2]) elem_43 (i := 2) rfl rfl rfl rfl rfl rfl rfl (ho24.mono hl41) (of_decide_eq_true hk50) (fun w hw => src_one (T := verT) (y := o37.2) (i := 0) rfl (by exact ⟨A46, c47, rfl, hr48⟩) hw) ?_
     intro row51 A52 c53 ho54
     refine as_ (v := .slice A52 (out_20 ++ [o37.2]).length c53) ?_
     refine WR.nil ?_
     change WC _ _ _ _ _ _
     refine WC.region ?_
     refine vb (q_add_r (r := ((i29 + 1 : Nat) : Int)) rfl rfl rfl (ctr_int hl34 hr12)) ?_
     refine mv (v := .int .i64 ((i29 + 1 : Nat) : Int)) ?_
     refine WR.nil ?_
     intro w hw
     exact ⟨hl34, ((out_20 ++ [o37.2]), o37.1), h, Γ40, A52, c53, row51, row44, (sl_ (by kernel_rfl)), (hw.only (is := [2, 1]) rfl), (hl19.trans hl41), ho54, hr45, trivial⟩
   ·
    have h := hge32 (igei hb33)
    refine WC.exit ?_
    change WC _ _ _ _ _ _
    refine WC.rs ?_
    refine mv (v := .slice A21 out_20.length c22) ?_
    refine as_ (v := .slice A21 out_20.length c22) ?_
    refine WR.done ?_
    refine WC.ret ?_
    intro w hw
    obtain rfl := Option.some.inj h
    subst hF
    exact end_e (is := [1, 0]) (by kernel_rfl) hw rfl ⟨row26, A21, c22, row23, rfl, rfl, ho27, ho24, trivial⟩
abbrev r_code_reader_rec (gr_ : Nat) (er_ : Nat) (r : Ocode_reader × Rec) (U : List Rowb) (Γ : Gh) (v : Value) : Prop := ∃ (rowr_' : Rowb), ∃ (A0_1 : Option Addr), ∃ (c0_1 : Nat), v = .agg #[.string r.2.key, .slice A0_1 r.2.vers.length c0_1] ∧ U = [rowr_'] ∧ Ocode_reader.ob er_ Γ gr_ rowr_' r.1 ∧ Rec.fits Γ A0_1 c0_1 r.2 ∧ True
theorem t_code_reader_rec {Γ : Gh} {w0 : World} {gr_ er_ : Nat} {rowr_ : Rowb} {r_ : Ocode_reader} (hr_ : Ocode_reader.ob er_ Γ gr_ rowr_ r_) (hp : Pre [rowr_] Γ w0) {r : Option (Ocode_reader × Rec)} (h : m_code_reader_rec r_ = some r) : Calls Tryz.prog 94 #[(pq gr_)] w0 (OutcT [{ v := (.iface 192 (.agg #[])), recovered := false }] Γ [rowr_] w0 (fun r => r_code_reader_rec gr_ er_ r) r) := by
 refine calls_of_r (N := 12) (rs := [.cell 2 45]) (args := [(pq gr_)]) Tryz.func94 rfl Tryz.ntmps94 Tryz.results94 rfl ?_
 obtain ⟨F, hF⟩ : ∃ F : Fm, F = ⟨ids [rowr_], w0, Γ⟩ := ⟨_, rfl⟩
 refine WC.here (C := CC F Γ [rowr_]) ?_ (hF ▸ hp.start)
 refine WC.rs ?_
 refine e_alloc Tryz.zeroValue45 rfl rfl rfl rfl ?_
 intro g1
 refine WR.done ?_
 refine WC.rs ?_
 refine mv (v := (pq gr_)) ?_
 obtain ⟨z2, hz3, h⟩ := bnd h
 rcases z2 with _ | o4
 ·
  have h := optm_n rfl h
  refine e_callN (is := [1]) rfl (call_run Tryz.call126 rfl rfl (by kernel_rfl)) rfl (fun w hp => t_code_reader_text hr_ hp hz3) ?_
  intro Γ5 hl6
  intro w hw
  obtain rfl := Option.some.inj h
  subst hF
  first | exact end_t hw | exact fun _ => end_t hw
 ·
  have h := optm_s rfl h
  refine e_call (is := [1]) rfl rfl (call_run Tryz.call126 rfl rfl (by kernel_rfl)) rfl (fun w hp => t_code_reader_text hr_ hp hz3) ?_
  rintro Γ7 U9 v10 hl8 ⟨row11, rfl, rfl, hr12, hr13, _⟩
  change WR _ _ _ (CC F Γ7 [row11, [(g1, .cells #[.string ByteArray.empty, .slice none 0 0] 45 (0, 0))]]) _ _ (upd _ 5 (.string o4.2))
  refine as_ (v := .string o4.2) ?_
  refine WR.done ?_
  refine WC.rs ?_
  refine mv (v := .string o4.2) ?_
  refine mv (v := (pq gr_)) ?_
  refine mv (v := (pq gr_)) ?_
  refine vb (q_mkfn (v := .func (.func 128) #[(pq gr_)] #[]) rfl (by kernel_rfl)) ?_
  obtain ⟨z14, hz15, h⟩ := bnd h
  rcases z14 with _ | o16
  ·
   have h := optm_n rfl h
   refine e_callN (is := [0]) rfl (call_run Tryz.call127 rfl rfl (by kernel_rfl)) rfl (fun w hp => t_code_take_api_Ver hr12 hp hz15) ?_
   intro Γ17 hl18
   intro w hw
   obtain rfl := Option.some.inj h
   subst hF
   first | exact end_t hw | exact fun _ => end_t hw
  ·
   have h := optm_s rfl h
   refine e_call (is := [0]) rfl rfl (call_run Tryz.call127 rfl rfl (by kernel_rfl)) rfl (fun w hp => t_code_take_api_Ver hr12 hp hz15) ?_
   rintro Γ19 U21 v22 hl20 ⟨row23, A25, c26, row27, rfl, rfl, hr24, hr28, _⟩
   change WR _ _ _ (CC F Γ19 [row23, row27, [(g1, .cells #[.string ByteArray.empty, .slice none 0 0] 45 (0, 0))]]) _ _ (upd _ 10 (.slice A25 o16.2.length c26))
   refine vb (q_build' (v := .agg #[.string o4.2, .slice A25 o16.2.length c26]) rfl (bargs2 rfl rfl) (fun w => by kernel_rfl)) ?_
   refine e_st (i := 2) (v := .agg #[.string o4.2, .slice A25 o16.2.length c26]) (new := #[.string o4.2, .slice A25 o16.2.length c26]) rfl Tryz.sizeOf45 rfl rfl rfl rfl (by kernel_rfl) rfl rfl rfl rfl ?_
   refine WR.done ?_
   refine WC.ret ?_
   intro w hw
   have hc33 := hr28.capz
   obtain ⟨Γ29, hw, hl30, hr31⟩ := hw.seal (i := 1) rfl; have hs32 := hr28.sl hl30 hr31
   obtain rfl := Option.some.inj h
   subst hF
   exact ⟨[.agg #[.string o4.2, .slice A25 o16.2.length c26]], (rr_agg (i := 2) (us := [.string o4.2, .slice A25 o16.2.length c26]) hw rfl Tryz.isAgg45 Tryz.sizeOf45 (by kernel_rfl) rfl rr_nil), end_e (is := [0]) (by kernel_rfl) hw rfl ⟨row23, A25, c26, rfl, rfl, (hr24.mono hl30), ⟨hr13, ⟨hc33, hs32⟩⟩, trivial⟩⟩
set_option maxRecDepth 100000 in
theorem idle_125 (p0 : Value) (p1 : Value) : idle Tryz.prog 125 #[p0, p1] := by
  intro w
  refine callsD_idle (n := 13) (args := [p0, p1]) Tryz.func125 rfl Tryz.ntmps125 Tryz.results125 (run_recover rfl rfl) rfl rfl rfl rfl ?_
  refine WC.here (C := fun w2 => w2 = w) ?_ rfl
  refine WC.block ?_
  refine WC.rs ?_
  refine va rfl rfl rfl (q_eqnil2 rfl rfl (fun w => eq_nilnil Tryz.underlying20 w)) ?_
  refine WR.nil ?_
  change WC _ _ _ _ _ _
  refine WC.ctk (b := true) (by kernel_rfl) rfl ?_
  refine WC.region ?_
  refine va rfl rfl rfl (q_assign (v := .nilIface) rfl (by kernel_rfl)) ?_
  refine WR.nil ?_
  intro w2 hw
  exact ⟨⟨_, rfl⟩, hw⟩
abbrev r_code_whole_api_Rec_1 (gb0 : Nat) (b0v0 : ByteArray) (Ab0v1 : Option Addr) (cb0v1 : Nat) (b0v1 : List Ver) (gb1 : Nat) (b1v : Int) (r : ByteArray × (List Ver) × Int) (U : List Rowb) (Γ : Gh) (v : Value) : Prop := ∃ (Ab0_1 : Option Addr), ∃ (cb0_1 : Nat), v = .tuple #[] ∧ U = [[(gb0, .cells #[.string r.1, .slice Ab0_1 r.2.1.length cb0_1] 45 (0, 0))], [(gb1, .cells #[.int .i64 r.2.2] 28 (0, 0))]] ∧ r.1.size ≤ lim ∧ r.2.1.length ≤ cb0_1 ∧ Sl verT Γ Ab0_1 r.2.1 ∧ I64 r.2.2 ∧ True
theorem t_code_whole_api_Rec_1 {Γ : Gh} {w0 : World} {gb0 : Nat} (b0v0 : ByteArray) (hb0v0 : b0v0.size ≤ lim) {Ab0v1 : Option Addr} {cb0v1 : Nat} {b0v1 : List Ver} (hb0v1 : Sl verT Γ Ab0v1 b0v1) (hb0v1c : b0v1.length ≤ cb0v1) {gb1 : Nat} (b1v : Int) (hb1v : I64 b1v) (hp : Pre [[(gb0, .cells #[.string b0v0, .slice Ab0v1 b0v1.length cb0v1] 45 (0, 0))], [(gb1, .cells #[.int .i64 b1v] 28 (0, 0))]] Γ w0) {r : ByteArray × (List Ver) × Int} (h : m_code_whole_api_Rec_1 b0v0 b0v1 b1v = some r) : CallsD Tryz.prog 125 #[(pq gb0), (pq gb1)] (.panicking [{ v := (.iface 192 (.agg #[])), recovered := false }]) w0 (fun e u' w' => u' = .panicking [{ v := (.iface 192 (.agg #[])), recovered := true }] ∧ (Outc Γ [[(gb0, .cells #[.string b0v0, .slice Ab0v1 b0v1.length cb0v1] 45 (0, 0))], [(gb1, .cells #[.int .i64 b1v] 28 (0, 0))]] w0 (r_code_whole_api_Rec_1 gb0 b0v0 Ab0v1 cb0v1 b0v1 gb1 b1v r)) e w') := by
 refine callsD_rec (n := 13) (args := [(pq gb0), (pq gb1)]) Tryz.func125 rfl Tryz.ntmps125 Tryz.results125 (run_recover rfl rfl) rfl rfl rfl rfl ?_
 obtain ⟨F, hF⟩ : ∃ F : Fm, F = ⟨ids [[(gb0, .cells #[.string b0v0, .slice Ab0v1 b0v1.length cb0v1] 45 (0, 0))], [(gb1, .cells #[.int .i64 b1v] 28 (0, 0))]], w0, Γ⟩ := ⟨_, rfl⟩
 refine WC.here (C := CC F Γ [[(gb0, .cells #[.string b0v0, .slice Ab0v1 b0v1.length cb0v1] 45 (0, 0))], [(gb1, .cells #[.int .i64 b1v] 28 (0, 0))]]) ?_ (hF ▸ hp.start)
 refine WC.block ?_
 refine WC.rs ?_
 refine vb (q_eqinil rfl rfl rfl (fun w => eq_inil Tryz.underlying20 w)) ?_
 refine WR.done ?_
 refine WC.cfk (b := false) (by kernel_rfl) rfl ?_
 refine WC.rs ?_
 refine vb (q_assert2 Tryz.underlying192 rfl rfl) ?_
 refine vb (q_extract (v := .bool true) rfl rfl rfl) ?_
 refine vb (q_extract (v := .agg #[]) rfl rfl rfl) ?_
 refine WR.done ?_
 refine WC.ctk (b := true) (by kernel_rfl) rfl ?_
 refine WC.rs ?_
 refine e_alloc Tryz.zeroValue192 rfl rfl rfl rfl ?_
 intro g1
 refine e_st (i := 0) (v := .agg #[]) (new := #[]) rfl Tryz.sizeOf192 rfl rfl rfl rfl (by kernel_rfl) rfl rfl rfl rfl ?_
 refine WR.done ?_
 refine WC.rs ?_
 refine e_alloc Tryz.zeroValue45 rfl rfl rfl rfl ?_
 intro g2
 refine WR.done ?_
 refine WC.region ?_
 refine vb (q_ldla (i := 0) (vs := [.string ByteArray.empty, .slice none 0 0]) rfl rfl Tryz.isAgg45 Tryz.sizeOf45 rfl rfl) ?_
 refine e_st (i := 2) (v := .agg #[.string ByteArray.empty, .slice none 0 0]) (new := #[.string ByteArray.empty, .slice none 0 0]) rfl Tryz.sizeOf45 rfl rfl rfl rfl (by kernel_rfl) rfl rfl rfl rfl ?_
 refine e_st (i := 3) (v := .int .i64 2) (new := #[.int .i64 2]) rfl Tryz.sizeOf28 rfl rfl rfl rfl (by kernel_rfl) rfl rfl rfl rfl ?_
 refine WR.nil ?_
 intro w hw
 obtain rfl := Option.some.inj h
 subst hF
 exact end_e (is := [2, 2]) (by kernel_rfl) hw rfl ⟨none, 0, rfl, rfl, (show (ByteArray.empty : ByteArray).size ≤ lim by decide), (Nat.zero_le 0), (Sl.nil verT _ none), (show I64 2 by decide), trivial⟩
theorem t_span_Right {Γ : Gh} {w0 : World} {Al : Option Addr} {cl : Nat} {l : List Span} (hl : Sl spanT Γ Al l) (hlc : l.length ≤ cl) (hs : Sat Γ w0) {r : Bool} (h : m_span_Right l = some r) : Calls Tryz.prog 184 #[.slice Al l.length cl] w0 (fun e w' => e = .returned (.bool r) ∧ Fr no w0 w') := by
 refine calls_of (N := 65) (rs := [2]) (args := [.slice Al l.length cl]) Tryz.func184 rfl Tryz.ntmps184 Tryz.results184 rfl ?_
 obtain ⟨F, hF⟩ : ∃ F : Fm, F = ⟨no, w0, Γ⟩ := ⟨_, rfl⟩
 refine WC.here (C := CC F Γ []) ?_ (hF ▸ Cur.start0 hs)
 refine WC.rs ?_
 refine as_ (v := .bool false) ?_
 refine WR.done ?_
 refine WC.rs ?_
 refine vb (q_build (v := .agg #[.int .i64 0, .int .i64 0, .int .i64 0]) rfl (fun w => by kernel_rfl)) ?_
 refine e_alloc Tryz.zeroValue93 rfl rfl rfl rfl ?_
 intro g1
 refine e_st (i := 0) (v := .agg #[.int .i64 0, .int .i64 0, .int .i64 0]) (new := #[.int .i64 0, .int .i64 0, .int .i64 0]) rfl Tryz.sizeOf93 rfl rfl rfl rfl (by kernel_rfl) rfl rfl rfl rfl ?_
 refine WR.done ?_
 refine WC.seq ?_
 refine WC.rs ?_
 refine mv (v := .slice Al l.length cl) ?_
 refine vb (q_len_slice rfl Tryz.underlying87 rfl) ?_
 refine mv (v := .int .i64 0) ?_
 refine WR.done ?_
 refine WC.block ?_
 refine WC.forI h (fun (i5 : Nat) (x2 : Span) σ w => slots σ [(0, .slice Al l.length cl), (3, (pq g1)), (7, .slice Al l.length cl), (8, .int .i64 ((l.length : Nat) : Int)), (9, .int .i64 ((i5 : Nat) : Int))] ∧ CC F Γ [[(g1, .cells #[.int .i64 x2.s, .int .i64 x2.f, .int .i64 x2.t] 93 (0, 0))]] w ∧ Span.fits Γ  x2 ∧ True) ?_ ?_
 ·
  intro w hw
  exact ⟨(sl_ (by kernel_rfl)), hw, ⟨(show I64 0 by decide), (show I64 0 by decide), (show I64 0 by decide)⟩, trivial⟩
 rintro f4 i5 x2 σ w hi6 hlt7 hge8 ⟨hsl, hw, hf3, -⟩
 refine Wpt.slots hsl ?_
 refine WC.here (C := CC F Γ [[(g1, .cells #[.int .i64 x2.s, .int .i64 x2.f, .int .i64 x2.t] 93 (0, 0))]]) ?_ hw
 clear hw hsl
 refine WC.rs ?_
 refine vb (q_lss rfl rfl rfl) ?_
 refine WR.done ?_
 refine WC.seq ?_
 refine WC.cond (b := (decide (((i5 : Nat) : Int) < ((l.length : Nat) : Int)))) (by kernel_rfl) (fun hb9 => ?_) (fun hb9 => ?_)
 ·
  have hl10 := ilt hb9
  have h := hlt7 hl10
  refine WC.skip ?_
  change WC _ _ _ _ _ _
  refine WC.seq ?_
  refine WC.block ?_
  refine WC.rs ?_
  refine vb (q_ixn (i := i5) Tryz.underlying87 Tryz.sizeOf93 rfl rfl rfl hl10 (hl.some_ hl10)) ?_
  refine vb (q_lda (c := 0) (vs := [.int .i64 (gt l i5).s, .int .i64 (gt l i5).f, .int .i64 (gt l i5).t]) (hl.spanT_at hl10).2 rfl Tryz.isAgg93 Tryz.sizeOf93 rfl rfl rfl) ?_
  refine e_alloc Tryz.zeroValue93 rfl rfl rfl rfl ?_
  intro g11
  refine e_st (i := 0) (v := .agg #[.int .i64 (gt l i5).s, .int .i64 (gt l i5).f, .int .i64 (gt l i5).t]) (new := #[.int .i64 (gt l i5).s, .int .i64 (gt l i5).f, .int .i64 (gt l i5).t]) rfl Tryz.sizeOf93 rfl rfl rfl rfl (by kernel_rfl) rfl rfl rfl rfl ?_
  refine WR.done ?_
  refine WC.seq ?_
  refine WC.rs ?_
  refine vb (q_fl 0 fld_93_0 rfl rfl rfl) ?_
  refine vb (q_ldl (i := 0) (v := .int .i64 (gt l i5).s) rfl rfl Tryz.isAgg3 rfl rfl) ?_
  refine vb (q_lss rfl rfl rfl) ?_
  refine mv (v := .bool (decide ((gt l i5).s < 1))) ?_
  refine vg0 rfl rfl rfl rfl rfl (fun hg12 => QV.qo (q_fl 0 fld_93_0 rfl rfl rfl)) ?_
  refine vg0 rfl rfl rfl rfl rfl (fun hg13 => QV.qo (q_ldl (i := 0) (v := .int .i64 (gt l i5).s) rfl rfl Tryz.isAgg3 (gu hg13 rfl) rfl)) ?_
  refine vg0 rfl rfl rfl rfl rfl (fun hg14 => QV.qo (q_gtr rfl (gu hg14 rfl) rfl)) ?_
  refine vb (q_pick rfl rfl (pk_or' (g := (decide ((gt l i5).s < 1))) (y := (decide (16 < (gt l i5).s))))) ?_
  refine mv (v := .bool ((decide ((gt l i5).s < 1)) || (decide (16 < (gt l i5).s)))) ?_
  refine vg0 rfl rfl rfl rfl rfl (fun hg15 => QV.qo (q_fl 1 fld_93_1 rfl rfl rfl)) ?_
  refine vg0 rfl rfl rfl rfl rfl (fun hg16 => QV.qo (q_ldl (i := 0) (v := .int .i64 (gt l i5).f) rfl rfl Tryz.isAgg2 (gu hg16 rfl) rfl)) ?_
  refine vg0 rfl rfl rfl rfl rfl (fun hg17 => QV.qo (q_lss rfl (gu hg17 rfl) rfl)) ?_
  refine vb (q_pick rfl rfl (pk_or' (g := ((decide ((gt l i5).s < 1)) || (decide (16 < (gt l i5).s)))) (y := (decide ((gt l i5).f < 1))))) ?_
  refine mv (v := .bool (((decide ((gt l i5).s < 1)) || (decide (16 < (gt l i5).s))) || (decide ((gt l i5).f < 1)))) ?_
  refine vg0 rfl rfl rfl rfl rfl (fun hg18 => QV.qo (q_fl 1 fld_93_1 rfl rfl rfl)) ?_
  refine vg0 rfl rfl rfl rfl rfl (fun hg19 => QV.qo (q_ldl (i := 0) (v := .int .i64 (gt l i5).f) rfl rfl Tryz.isAgg2 (gu hg19 rfl) rfl)) ?_
  refine vg0 rfl rfl rfl rfl rfl (fun hg20 => QV.qo (q_fl 2 fld_93_2 rfl rfl rfl)) ?_
  refine vg0 rfl rfl rfl rfl rfl (fun hg21 => QV.qo (q_ldl (i := 0) (v := .int .i64 (gt l i5).t) rfl rfl Tryz.isAgg2 (gu hg21 rfl) rfl)) ?_
  refine vg0 rfl rfl rfl rfl rfl (fun hg22 => QV.qo (q_gtr rfl (gu hg22 rfl) (gu hg22 rfl))) ?_
  refine vb (q_pick rfl rfl (pk_or' (g := (((decide ((gt l i5).s < 1)) || (decide (16 < (gt l i5).s))) || (decide ((gt l i5).f < 1)))) (y := (decide ((gt l i5).t < (gt l i5).f))))) ?_
  refine mv (v := .bool ((((decide ((gt l i5).s < 1)) || (decide (16 < (gt l i5).s))) || (decide ((gt l i5).f < 1))) || (decide ((gt l i5).t < (gt l i5).f)))) ?_
  refine vg0 rfl rfl rfl rfl rfl (fun hg23 => QV.qo (q_fl 2 fld_93_2 rfl rfl rfl)) ?_
  refine vg0 rfl rfl rfl rfl rfl (fun hg24 => QV.qo (q_ldl (i := 0) (v := .int .i64 (gt l i5).t) rfl rfl Tryz.isAgg2 (gu hg24 rfl) rfl)) ?_
  refine vg0 rfl rfl rfl rfl rfl (fun hg25 => QV.qo (q_gtr rfl (gu hg25 rfl) rfl)) ?_
  refine vb (q_pick rfl rfl (pk_or' (g := ((((decide ((gt l i5).s < 1)) || (decide (16 < (gt l i5).s))) || (decide ((gt l i5).f < 1))) || (decide ((gt l i5).t < (gt l i5).f)))) (y := (decide (4611686018427387904 < (gt l i5).t))))) ?_
  refine mv (v := .bool (((((decide ((gt l i5).s < 1)) || (decide (16 < (gt l i5).s))) || (decide ((gt l i5).f < 1))) || (decide ((gt l i5).t < (gt l i5).f))) || (decide (4611686018427387904 < (gt l i5).t)))) ?_
  refine vg0 rfl rfl rfl rfl rfl (fun hg26 => QV.qo (q_fl 0 fld_93_0 rfl rfl rfl)) ?_
  refine vg0 rfl rfl rfl rfl rfl (fun hg27 => QV.qo (q_ldl (i := 0) (v := .int .i64 (gt l i5).s) rfl rfl Tryz.isAgg3 (gu hg27 rfl) rfl)) ?_
  refine vg0 rfl rfl rfl rfl rfl (fun hg28 => QV.qo (q_fl 0 fld_93_0 rfl rfl rfl)) ?_
  refine vg0 rfl rfl rfl rfl rfl (fun hg29 => QV.qo (q_ldl (i := 1) (v := .int .i64 x2.s) rfl rfl Tryz.isAgg3 (gu hg29 rfl) rfl)) ?_
  refine vg0 rfl rfl rfl rfl rfl (fun hg30 => QV.qo (q_lss rfl (gu hg30 rfl) (gu hg30 rfl))) ?_
  refine vb (q_pick rfl rfl (pk_or' (g := (((((decide ((gt l i5).s < 1)) || (decide (16 < (gt l i5).s))) || (decide ((gt l i5).f < 1))) || (decide ((gt l i5).t < (gt l i5).f))) || (decide (4611686018427387904 < (gt l i5).t)))) (y := (decide ((gt l i5).s < x2.s))))) ?_
  refine mv (v := .bool ((((((decide ((gt l i5).s < 1)) || (decide (16 < (gt l i5).s))) || (decide ((gt l i5).f < 1))) || (decide ((gt l i5).t < (gt l i5).f))) || (decide (4611686018427387904 < (gt l i5).t))) || (decide ((gt l i5).s < x2.s)))) ?_
  refine vg0 rfl rfl rfl rfl rfl (fun hg31 => QV.qo (q_fl 0 fld_93_0 rfl rfl rfl)) ?_
  refine vg0 rfl rfl rfl rfl rfl (fun hg32 => QV.qo (q_ldl (i := 0) (v := .int .i64 (gt l i5).s) rfl rfl Tryz.isAgg3 (gu hg32 rfl) rfl)) ?_
  refine vg0 rfl rfl rfl rfl rfl (fun hg33 => QV.qo (q_fl 0 fld_93_0 rfl rfl rfl)) ?_
  refine vg0 rfl rfl rfl rfl rfl (fun hg34 => QV.qo (q_ldl (i := 1) (v := .int .i64 x2.s) rfl rfl Tryz.isAgg3 (gu hg34 rfl) rfl)) ?_
  refine vg0 rfl rfl rfl rfl rfl (fun hg35 => QV.qo (q_eql rfl (gu hg35 rfl) (gu hg35 rfl))) ?_
  refine vg0 rfl rfl rfl rfl rfl (fun hg36 => QV.qo (q_move (v := .bool ((gt l i5).s == x2.s)) rfl (gu hg36 rfl))) ?_
  refine vh1 (c0 := (!((((((decide ((gt l i5).s < 1)) || (decide (16 < (gt l i5).s))) || (decide ((gt l i5).f < 1))) || (decide ((gt l i5).t < (gt l i5).f))) || (decide (4611686018427387904 < (gt l i5).t))) || (decide ((gt l i5).s < x2.s))))) (g := ((gt l i5).s == x2.s)) rfl rfl rfl rfl rfl (fun hg37 => QV.qo (q_fl 1 fld_93_1 rfl rfl rfl)) ?_
  refine vh1 (c0 := (!((((((decide ((gt l i5).s < 1)) || (decide (16 < (gt l i5).s))) || (decide ((gt l i5).f < 1))) || (decide ((gt l i5).t < (gt l i5).f))) || (decide (4611686018427387904 < (gt l i5).t))) || (decide ((gt l i5).s < x2.s))))) (g := ((gt l i5).s == x2.s)) rfl rfl rfl rfl rfl (fun hg38 => QV.qo (q_ldl (i := 0) (v := .int .i64 (gt l i5).f) rfl rfl Tryz.isAgg2 (gu hg38 rfl) rfl)) ?_
  refine vh1 (c0 := (!((((((decide ((gt l i5).s < 1)) || (decide (16 < (gt l i5).s))) || (decide ((gt l i5).f < 1))) || (decide ((gt l i5).t < (gt l i5).f))) || (decide (4611686018427387904 < (gt l i5).t))) || (decide ((gt l i5).s < x2.s))))) (g := ((gt l i5).s == x2.s)) rfl rfl rfl rfl rfl (fun hg39 => QV.qo (q_fl 2 fld_93_2 rfl rfl rfl)) ?_
  refine vh1 (c0 := (!((((((decide ((gt l i5).s < 1)) || (decide (16 < (gt l i5).s))) || (decide ((gt l i5).f < 1))) || (decide ((gt l i5).t < (gt l i5).f))) || (decide (4611686018427387904 < (gt l i5).t))) || (decide ((gt l i5).s < x2.s))))) (g := ((gt l i5).s == x2.s)) rfl rfl rfl rfl rfl (fun hg40 => QV.qo (q_ldl (i := 1) (v := .int .i64 x2.t) rfl rfl Tryz.isAgg2 (gu hg40 rfl) rfl)) ?_
  refine vh1 (c0 := (!((((((decide ((gt l i5).s < 1)) || (decide (16 < (gt l i5).s))) || (decide ((gt l i5).f < 1))) || (decide ((gt l i5).t < (gt l i5).f))) || (decide (4611686018427387904 < (gt l i5).t))) || (decide ((gt l i5).s < x2.s))))) (g := ((gt l i5).s == x2.s)) rfl rfl rfl rfl rfl (fun hg41 => QV.qo (q_add rfl (gu hg41 rfl) rfl)) ?_
  refine vh1 (c0 := (!((((((decide ((gt l i5).s < 1)) || (decide (16 < (gt l i5).s))) || (decide ((gt l i5).f < 1))) || (decide ((gt l i5).t < (gt l i5).f))) || (decide (4611686018427387904 < (gt l i5).t))) || (decide ((gt l i5).s < x2.s))))) (g := ((gt l i5).s == x2.s)) rfl rfl rfl rfl rfl (fun hg42 => QV.qo (q_leq rfl (gu hg42 rfl) (gu hg42 rfl))) ?_
  refine vg0 rfl rfl rfl rfl rfl (fun hg43 => QV.qo (q_pick rfl (gu hg43 rfl) (pk_and (c := (!((((((decide ((gt l i5).s < 1)) || (decide (16 < (gt l i5).s))) || (decide ((gt l i5).f < 1))) || (decide ((gt l i5).t < (gt l i5).f))) || (decide (4611686018427387904 < (gt l i5).t))) || (decide ((gt l i5).s < x2.s))))) (g := ((gt l i5).s == x2.s)) (y := (decide ((gt l i5).f ≤ (w64 (x2.t + 1))))) hg43))) ?_
  refine vb (q_pick rfl rfl (pk_or' (g := ((((((decide ((gt l i5).s < 1)) || (decide (16 < (gt l i5).s))) || (decide ((gt l i5).f < 1))) || (decide ((gt l i5).t < (gt l i5).f))) || (decide (4611686018427387904 < (gt l i5).t))) || (decide ((gt l i5).s < x2.s)))) (y := (((gt l i5).s == x2.s) && (decide ((gt l i5).f ≤ (w64 (x2.t + 1)))))))) ?_
  refine WR.done ?_
  refine WC.cif h (by kernel_rfl) (fun hb44 h => ?_) (fun hb44 h => ?_)
  ·
   refine WC.rs ?_
   refine as_ (v := .bool false) ?_
   refine WR.done ?_
   refine WC.ret ?_
   intro w hw
   obtain rfl := Option.some.inj h
   subst hF
   exact ⟨by kernel_rfl, hw.fr⟩
  ·
   refine WC.skip ?_
   change WC _ _ _ _ _ _
   refine WC.region ?_
   refine vb (q_ldla (i := 0) (vs := [.int .i64 (gt l i5).s, .int .i64 (gt l i5).f, .int .i64 (gt l i5).t]) rfl rfl Tryz.isAgg93 Tryz.sizeOf93 rfl rfl) ?_
   refine e_st (i := 1) (v := .agg #[.int .i64 (gt l i5).s, .int .i64 (gt l i5).f, .int .i64 (gt l i5).t]) (new := #[.int .i64 (gt l i5).s, .int .i64 (gt l i5).f, .int .i64 (gt l i5).t]) rfl Tryz.sizeOf93 rfl rfl rfl rfl (by kernel_rfl) rfl rfl rfl rfl ?_
   refine WR.nil ?_
   change WC _ _ _ _ _ _
   refine WC.region ?_
   refine vb (q_add_r (r := ((i5 + 1 : Nat) : Int)) rfl rfl rfl (ctr_len hl10 hl.le)) ?_
   refine mv (v := .int .i64 ((i5 + 1 : Nat) : Int)) ?_
   refine WR.nil ?_
   intro w hw
   exact ⟨hl10, (gt l i5), h, (sl_ (by kernel_rfl)), (hw.only (is := [1]) rfl), (hl.spanT_at hl10).1, trivial⟩
 ·
  have h := hge8 (ige hb9)
  refine WC.exit ?_
  change WC _ _ _ _ _ _
  refine WC.rs ?_
  refine mv (v := .slice Al l.length cl) ?_
  refine vb (q_len_slice rfl Tryz.underlying87 rfl) ?_
  refine vb (q_leq rfl rfl rfl) ?_
  refine as_ (v := .bool (decide (((l.length : Nat) : Int) ≤ 1024))) ?_
  refine WR.done ?_
  refine WC.ret ?_
  intro w hw
  obtain rfl := Option.some.inj h
  subst hF
  exact ⟨by kernel_rfl, hw.fr⟩
theorem t_span_Top {Γ : Gh} {w0 : World} {Al : Option Addr} {cl : Nat} {l : List Span} (hl : Sl spanT Γ Al l) (hlc : l.length ≤ cl) (s_ : Int) (hs_ : I64 s_) (hs : Sat Γ w0) {r : Int} (h : m_span_Top l s_ = some r) : Calls Tryz.prog 185 #[.slice Al l.length cl, .int .i64 s_] w0 (fun e w' => e = .returned (.int .i64 r) ∧ Fr no w0 w') := by
 refine calls_of (N := 24) (rs := [4]) (args := [.slice Al l.length cl, .int .i64 s_]) Tryz.func185 rfl Tryz.ntmps185 Tryz.results185 rfl ?_
 obtain ⟨F, hF⟩ : ∃ F : Fm, F = ⟨no, w0, Γ⟩ := ⟨_, rfl⟩
 refine WC.here (C := CC F Γ []) ?_ (hF ▸ Cur.start0 hs)
 refine WC.rs ?_
 refine as_ (v := .int .i64 0) ?_
 refine WR.done ?_
 refine WC.rs ?_
 refine as_ (v := .int .i64 0) ?_
 refine WR.done ?_
 refine WC.seq ?_
 refine WC.rs ?_
 refine mv (v := .slice Al l.length cl) ?_
 refine vb (q_len_slice rfl Tryz.underlying87 rfl) ?_
 refine mv (v := .int .i64 0) ?_
 refine WR.done ?_
 refine WC.block ?_
 refine WC.forI h (fun (i4 : Nat) (top_1 : Int) σ w => slots σ [(1, .int .i64 s_), (5, .int .i64 top_1), (8, .slice Al l.length cl), (9, .int .i64 ((l.length : Nat) : Int)), (10, .int .i64 ((i4 : Nat) : Int))] ∧ CC F Γ [] w ∧ I64 top_1 ∧ True) ?_ ?_
 ·
  intro w hw
  exact ⟨(sl_ (by kernel_rfl)), hw, (show I64 0 by decide), trivial⟩
 rintro f3 i4 top_1 σ w hi5 hlt6 hge7 ⟨hsl, hw, hr2, -⟩
 refine Wpt.slots hsl ?_
 refine WC.here (C := CC F Γ []) ?_ hw
 clear hw hsl
 refine WC.rs ?_
 refine vb (q_lss rfl rfl rfl) ?_
 refine WR.done ?_
 refine WC.seq ?_
 refine WC.cond (b := (decide (((i4 : Nat) : Int) < ((l.length : Nat) : Int)))) (by kernel_rfl) (fun hb8 => ?_) (fun hb8 => ?_)
 ·
  have hl9 := ilt hb8
  have h := hlt6 hl9
  refine WC.skip ?_
  change WC _ _ _ _ _ _
  refine WC.cut (fun σ w => ∃ (top_10 : Int), m_span_Top_j6 f3 top_10 = some r ∧ slots σ [(1, .int .i64 s_), (5, .int .i64 top_10), (8, .slice Al l.length cl), (9, .int .i64 ((l.length : Nat) : Int)), (10, .int .i64 ((i4 : Nat) : Int))] ∧ CC F Γ [] w ∧ I64 top_10 ∧ True) ?_ ?_
  ·
   refine WC.block ?_
   refine WC.rs ?_
   refine vb (q_ixn (i := i4) Tryz.underlying87 Tryz.sizeOf93 rfl rfl rfl hl9 (hl.some_ hl9)) ?_
   refine vb (q_lda (c := 0) (vs := [.int .i64 (gt l i4).s, .int .i64 (gt l i4).f, .int .i64 (gt l i4).t]) (hl.spanT_at hl9).2 rfl Tryz.isAgg93 Tryz.sizeOf93 rfl rfl rfl) ?_
   refine e_alloc Tryz.zeroValue93 rfl rfl rfl rfl ?_
   intro g12
   refine e_st (i := 0) (v := .agg #[.int .i64 (gt l i4).s, .int .i64 (gt l i4).f, .int .i64 (gt l i4).t]) (new := #[.int .i64 (gt l i4).s, .int .i64 (gt l i4).f, .int .i64 (gt l i4).t]) rfl Tryz.sizeOf93 rfl rfl rfl rfl (by kernel_rfl) rfl rfl rfl rfl ?_
   refine WR.done ?_
   refine WC.rs ?_
   refine vb (q_fl 0 fld_93_0 rfl rfl rfl) ?_
   refine vb (q_ldl (i := 0) (v := .int .i64 (gt l i4).s) rfl rfl Tryz.isAgg3 rfl rfl) ?_
   refine mv (v := .int .i64 s_) ?_
   refine vb (q_eql rfl rfl rfl) ?_
   refine WR.done ?_
   refine WC.cif h (by kernel_rfl) (fun hb13 h => ?_) (fun hb13 h => ?_)
   ·
    refine WC.region ?_
    refine mv (v := .int .i64 top_1) ?_
    refine vb (q_fl 2 fld_93_2 rfl rfl rfl) ?_
    refine vb (q_ldl (i := 0) (v := .int .i64 (gt l i4).t) rfl rfl Tryz.isAgg2 rfl rfl) ?_
    refine vb (q_max rfl rfl rfl) ?_
    refine as_ (v := .int .i64 (max top_1 (gt l i4).t)) ?_
    refine WR.nil ?_
    intro w hw
    exact ⟨(max top_1 (gt l i4).t), h, (sl_ (by kernel_rfl)), (hw.only (is := []) rfl), (max_r hr2 (hl.spanT_at hl9).1.2.2), trivial⟩
   ·
    refine WC.skip ?_
    intro w hw
    exact ⟨top_1, h, (sl_ (by kernel_rfl)), (hw.only (is := []) rfl), hr2, trivial⟩
  ·
   rintro σ w ⟨top_10, h, hsl, hw, hr11, -⟩
   refine Wpt.slots hsl ?_
   refine WC.here (C := CC F Γ []) ?_ hw
   clear hw hsl
   refine WC.region ?_
   refine vb (q_add_r (r := ((i4 + 1 : Nat) : Int)) rfl rfl rfl (ctr_len hl9 hl.le)) ?_
   refine mv (v := .int .i64 ((i4 + 1 : Nat) : Int)) ?_
   refine WR.nil ?_
   intro w hw
   exact ⟨hl9, top_10, h, (sl_ (by kernel_rfl)), hw, hr11, trivial⟩
 ·
  have h := hge7 (ige hb8)
  refine WC.exit ?_
  change WC _ _ _ _ _ _
  refine WC.rs ?_
  refine mv (v := .int .i64 top_1) ?_
  refine as_ (v := .int .i64 top_1) ?_
  refine WR.done ?_
  refine WC.ret ?_
  intro w hw
  obtain rfl := Option.some.inj h
  subst hF
  exact ⟨by kernel_rfl, hw.fr⟩
theorem t_vers_RightOne {Γ : Gh} {w0 : World} {Av_2 : Option Addr} {cv_2 : Nat} (v_ : Ver) (hv_ : Ver.fits Γ Av_2 cv_2 v_) (hs : Sat Γ w0) {r : Bool} (h : m_vers_RightOne v_ = some r) : Calls Tryz.prog 150 #[.agg #[.int .i64 v_.dot.s, .int .i64 v_.dot.n, .slice Av_2 v_.past.length cv_2, .bool v_.gone, .string v_.val]] w0 (fun e w' => e = .returned (.bool r) ∧ Fr no w0 w') := by
 refine calls_of (N := 50) (rs := [2]) (args := [.agg #[.int .i64 v_.dot.s, .int .i64 v_.dot.n, .slice Av_2 v_.past.length cv_2, .bool v_.gone, .string v_.val]]) Tryz.func150 rfl Tryz.ntmps150 Tryz.results150 rfl ?_
 obtain ⟨F, hF⟩ : ∃ F : Fm, F = ⟨no, w0, Γ⟩ := ⟨_, rfl⟩
 refine WC.here (C := CC F Γ []) ?_ (hF ▸ Cur.start0 hs)
 refine WC.rs ?_
 refine e_box (v := .agg #[.int .i64 v_.dot.s, .int .i64 v_.dot.n, .slice Av_2 v_.past.length cv_2, .bool v_.gone, .string v_.val]) rfl rfl rfl rfl (by kernel_rfl) ?_
 intro g1
 refine as_ (v := .bool false) ?_
 refine WR.done ?_
 refine WC.rs ?_
 refine vb (q_fl 0 fld_89_0 rfl rfl rfl) ?_
 refine vb (q_fl 0 fld_86_0 rfl rfl rfl) ?_
 refine vb (q_ldl (i := 0) (v := .int .i64 v_.dot.s) rfl rfl Tryz.isAgg3 rfl rfl) ?_
 refine vb (q_fl 0 fld_89_0 rfl rfl rfl) ?_
 refine vb (q_fl 1 fld_86_1 rfl rfl rfl) ?_
 refine vb (q_ldl (i := 0) (v := .int .i64 v_.dot.n) rfl rfl Tryz.isAgg2 rfl rfl) ?_
 refine vb (q_fl 0 fld_89_0 rfl rfl rfl) ?_
 refine vb (q_fl 1 fld_86_1 rfl rfl rfl) ?_
 refine vb (q_ldl (i := 0) (v := .int .i64 v_.dot.n) rfl rfl Tryz.isAgg2 rfl rfl) ?_
 refine vb (q_build' (v := .agg #[.int .i64 v_.dot.s, .int .i64 v_.dot.n, .int .i64 v_.dot.n]) rfl (bargs3 rfl rfl rfl) (fun w => by kernel_rfl)) ?_
 refine e_alloc Tryz.zeroValue93 rfl rfl rfl rfl ?_
 intro g2
 refine e_st (i := 0) (v := .agg #[.int .i64 v_.dot.s, .int .i64 v_.dot.n, .int .i64 v_.dot.n]) (new := #[.int .i64 v_.dot.s, .int .i64 v_.dot.n, .int .i64 v_.dot.n]) rfl Tryz.sizeOf93 rfl rfl rfl rfl (by kernel_rfl) rfl rfl rfl rfl ?_
 refine WR.done ?_
 refine WC.seq ?_
 intro w hw; have h03 := hw.le
 refine WC.here (C := CC F Γ [[(g2, .cells #[.int .i64 v_.dot.s, .int .i64 v_.dot.n, .int .i64 v_.dot.n] 93 (0, 0))], [(g1, .cells #[.int .i64 v_.dot.s, .int .i64 v_.dot.n, .slice Av_2 v_.past.length cv_2, .bool v_.gone, .string v_.val] 89 (0, 0))]]) ?_ hw; clear hw
 refine WC.held (CC F Γ [[(g2, .cells #[.int .i64 v_.dot.s, .int .i64 v_.dot.n, .int .i64 v_.dot.n] 93 (0, 0))], [(g1, .cells #[.int .i64 v_.dot.s, .int .i64 v_.dot.n, .slice Av_2 v_.past.length cv_2, .bool v_.gone, .string v_.val] 89 (0, 0))]]) (by kernel_rfl) (fun w hw => hw.drawn _) ?_
 change WH _ _ _ _ (CC F Γ [[(g2, .cells #[.int .i64 v_.dot.s, .int .i64 v_.dot.n, .int .i64 v_.dot.n] 93 (0, 0))], [(g1, .cells #[.int .i64 v_.dot.s, .int .i64 v_.dot.n, .slice Av_2 v_.past.length cv_2, .bool v_.gone, .string v_.val] 89 (0, 0))]]) _ 37 #[false, false, false, false, false, false, false, false, false, false, false, false, false, false, false, false, false, false, false, false, false, false, false, false, false, false, false, false, false, false, false, false, false, false, false, false, false] _
 refine hu 0 rfl (bk_ (Gh.refl _) h03 (.cons_cons _ (.cons_cons _ .slnil))) (q_ldla (i := 0) (vs := [.int .i64 v_.dot.s, .int .i64 v_.dot.n, .int .i64 v_.dot.n]) rfl rfl Tryz.isAgg93 Tryz.sizeOf93 rfl rfl) ?_
 refine WH.lone (i := 1) (by kernel_rfl) rfl ?_
 refine e_buildSlice (cs := #[.int .i64 v_.dot.s, .int .i64 v_.dot.n, .int .i64 v_.dot.n]) (e := 93) rfl rfl rfl rfl (fun w => by kernel_rfl) ?_
 intro g4
 refine WR.nil ?_
 refine WH.next (bk_ (Gh.refl _) h03 (.cons _ (.cons_cons _ (.cons_cons _ .slnil)))) ?_
 refine WH.lone (i := 2) (by kernel_rfl) rfl ?_
 have ho5 : Own spanT Γ 93 [(g4, .cells #[.int .i64 v_.dot.s, .int .i64 v_.dot.n, .int .i64 v_.dot.n] 93 (0, 0))] (some ⟨g4, 0, none⟩) 1 [(⟨v_.dot.s, v_.dot.n, v_.dot.n⟩ : Span)] := Own.of_blockL (T := spanT) (ys := [(⟨v_.dot.s, v_.dot.n, v_.dot.n⟩ : Span)]) [[.int .i64 v_.dot.s, .int .i64 v_.dot.n, .int .i64 v_.dot.n]] rfl (show 1 ≤ lim by decide) (show Ty.rd spanT Γ [.int .i64 v_.dot.s, .int .i64 v_.dot.n, .int .i64 v_.dot.n] (⟨v_.dot.s, v_.dot.n, v_.dot.n⟩ : Span) ∧ True from ⟨⟨rfl, ⟨hv_.1, hv_.2.1, hv_.2.1⟩⟩, trivial⟩)
 obtain ⟨z6, hz7, h⟩ := bnd h
 refine vc rfl rfl rfl (q_call (call_run Tryz.call184 rfl rfl (by kernel_rfl)) (fun w hw => t_span_Right (Γ := Gh.all w) (ho5.sl hw.sat.le_all (hw.ra 0 rfl)) ho5.capz (Sat.all w) hz7)) ?_
 refine WR.nil ?_
 refine WH.next (bk_ (Gh.refl _) h03 (.cons _ (.cons_cons _ (.cons_cons _ .slnil)))) ?_
 refine hu 3 rfl (bk_ (Gh.refl _) h03 (.cons _ (.cons_cons _ (.cons_cons _ .slnil)))) (q_move (v := .bool z6) rfl (by kernel_rfl)) ?_
 refine hg1 (i := 4) rfl (by kernel_rfl) rfl rfl rfl rfl rfl (bk_ (Gh.refl _) h03 (.cons _ (.cons_cons _ (.cons_cons _ .slnil)))) (fun hg8 => (q_fl 2 fld_89_1 rfl rfl rfl)) ?_
 refine hg1 (i := 5) rfl (by kernel_rfl) rfl rfl rfl rfl rfl (bk_ (Gh.refl _) h03 (.cons _ (.cons_cons _ (.cons_cons _ .slnil)))) (fun hg9 => (q_ldl (i := 1) (v := .slice Av_2 v_.past.length cv_2) rfl rfl Tryz.isAgg87 (gu hg9 rfl) rfl)) ?_
 refine WH.lone (i := 6) (by kernel_rfl) rfl ?_
 obtain ⟨z11, hz12, h⟩ := bnd h
 refine vg1 rfl rfl rfl rfl rfl (fun hg10 => (q_call (call_run Tryz.call184 rfl rfl (args1 (gu hg10 rfl))) (fun w hw => t_span_Right (Γ := Gh.all w) (hv_.2.2.1.2.mono hw.sat.le_all) hv_.2.2.1.1 (Sat.all w) (gc_of hz12 hg10)))) ?_
 refine WR.nil ?_
 refine WH.next (bk_ (Gh.refl _) h03 (.cons _ (.cons_cons _ (.cons_cons _ .slnil)))) ?_
 refine hu 7 rfl (bk_ (Gh.refl _) h03 (.cons _ (.cons_cons _ (.cons_cons _ .slnil)))) (q_pick rfl rfl (pk_and' (g := z6) (y := z11))) ?_
 refine hu 8 rfl (bk_ (Gh.refl _) h03 (.cons _ (.cons_cons _ (.cons_cons _ .slnil)))) (q_move (v := .bool (z6 && z11)) rfl (by kernel_rfl)) ?_
 refine hg1 (i := 9) rfl (by kernel_rfl) rfl rfl rfl rfl rfl (bk_ (Gh.refl _) h03 (.cons _ (.cons_cons _ (.cons_cons _ .slnil)))) (fun hg13 => (q_fl 2 fld_89_1 rfl rfl rfl)) ?_
 refine hg1 (i := 10) rfl (by kernel_rfl) rfl rfl rfl rfl rfl (bk_ (Gh.refl _) h03 (.cons _ (.cons_cons _ (.cons_cons _ .slnil)))) (fun hg14 => (q_ldl (i := 1) (v := .slice Av_2 v_.past.length cv_2) rfl rfl Tryz.isAgg87 (gu hg14 rfl) rfl)) ?_
 refine hg1 (i := 11) rfl (by kernel_rfl) rfl rfl rfl rfl rfl (bk_ (Gh.refl _) h03 (.cons _ (.cons_cons _ (.cons_cons _ .slnil)))) (fun hg15 => (q_fl 0 fld_89_0 rfl rfl rfl)) ?_
 refine hg1 (i := 12) rfl (by kernel_rfl) rfl rfl rfl rfl rfl (bk_ (Gh.refl _) h03 (.cons _ (.cons_cons _ (.cons_cons _ .slnil)))) (fun hg16 => (q_fl 0 fld_86_0 rfl (gu hg16 rfl) rfl)) ?_
 refine hg1 (i := 13) rfl (by kernel_rfl) rfl rfl rfl rfl rfl (bk_ (Gh.refl _) h03 (.cons _ (.cons_cons _ (.cons_cons _ .slnil)))) (fun hg17 => (q_ldl (i := 1) (v := .int .i64 v_.dot.s) rfl rfl Tryz.isAgg3 (gu hg17 rfl) rfl)) ?_
 refine hg1 (i := 15) rfl (by kernel_rfl) rfl rfl rfl rfl rfl (bk_ (Gh.refl _) h03 (.cons _ (.cons_cons _ (.cons_cons _ .slnil)))) (fun hg18 => (q_fl 0 fld_89_0 rfl rfl rfl)) ?_
 refine hg1 (i := 16) rfl (by kernel_rfl) rfl rfl rfl rfl rfl (bk_ (Gh.refl _) h03 (.cons _ (.cons_cons _ (.cons_cons _ .slnil)))) (fun hg19 => (q_fl 1 fld_86_1 rfl (gu hg19 rfl) rfl)) ?_
 refine hg1 (i := 17) rfl (by kernel_rfl) rfl rfl rfl rfl rfl (bk_ (Gh.refl _) h03 (.cons _ (.cons_cons _ (.cons_cons _ .slnil)))) (fun hg20 => (q_ldl (i := 1) (v := .int .i64 v_.dot.n) rfl rfl Tryz.isAgg2 (gu hg20 rfl) rfl)) ?_
 refine WH.lone (i := 14) (by kernel_rfl) rfl ?_
 obtain ⟨z22, hz23, h⟩ := bnd h
 refine vg1 rfl rfl rfl rfl rfl (fun hg21 => (q_call (call_run Tryz.call185 rfl rfl (args2 (gu hg21 rfl) (gu hg21 rfl))) (fun w hw => t_span_Top (Γ := Gh.all w) (hv_.2.2.1.2.mono hw.sat.le_all) hv_.2.2.1.1 v_.dot.s hv_.1 (Sat.all w) (gc_of hz23 hg21)))) ?_
 refine WR.nil ?_
 refine WH.next (bk_ (Gh.refl _) h03 (.cons _ (.cons_cons _ (.cons_cons _ .slnil)))) ?_
 refine hg1 (i := 18) rfl (by kernel_rfl) rfl rfl rfl rfl rfl (bk_ (Gh.refl _) h03 (.cons _ (.cons_cons _ (.cons_cons _ .slnil)))) (fun hg24 => (q_lss rfl (gu hg24 rfl) (gu hg24 rfl))) ?_
 refine hu 19 rfl (bk_ (Gh.refl _) h03 (.cons _ (.cons_cons _ (.cons_cons _ .slnil)))) (q_pick rfl rfl (pk_and' (g := (z6 && z11)) (y := (decide (z22 < v_.dot.n))))) ?_
 refine hu 20 rfl (bk_ (Gh.refl _) h03 (.cons _ (.cons_cons _ (.cons_cons _ .slnil)))) (q_move (v := .bool ((z6 && z11) && (decide (z22 < v_.dot.n)))) rfl (by kernel_rfl)) ?_
 refine hg1 (i := 21) rfl (by kernel_rfl) rfl rfl rfl rfl rfl (bk_ (Gh.refl _) h03 (.cons _ (.cons_cons _ (.cons_cons _ .slnil)))) (fun hg25 => (q_fl 4 fld_89_3 rfl rfl rfl)) ?_
 refine hg1 (i := 22) rfl (by kernel_rfl) rfl rfl rfl rfl rfl (bk_ (Gh.refl _) h03 (.cons _ (.cons_cons _ (.cons_cons _ .slnil)))) (fun hg26 => (q_ldl (i := 1) (v := .string v_.val) rfl rfl Tryz.isAgg9 (gu hg26 rfl) rfl)) ?_
 refine hg1 (i := 23) rfl (by kernel_rfl) rfl rfl rfl rfl rfl (bk_ (Gh.refl _) h03 (.cons _ (.cons_cons _ (.cons_cons _ .slnil)))) (fun hg27 => (q_len_str rfl Tryz.underlying9 (gu hg27 rfl))) ?_
 refine hg1 (i := 24) rfl (by kernel_rfl) rfl rfl rfl rfl rfl (bk_ (Gh.refl _) h03 (.cons _ (.cons_cons _ (.cons_cons _ .slnil)))) (fun hg28 => (q_leq rfl (gu hg28 rfl) rfl)) ?_
 refine hu 25 rfl (bk_ (Gh.refl _) h03 (.cons _ (.cons_cons _ (.cons_cons _ .slnil)))) (q_pick rfl rfl (pk_and' (g := ((z6 && z11) && (decide (z22 < v_.dot.n)))) (y := (decide (((v_.val.size : Nat) : Int) ≤ 256))))) ?_
 refine hu 26 rfl (bk_ (Gh.refl _) h03 (.cons _ (.cons_cons _ (.cons_cons _ .slnil)))) (q_move (v := .bool (((z6 && z11) && (decide (z22 < v_.dot.n))) && (decide (((v_.val.size : Nat) : Int) ≤ 256)))) rfl (by kernel_rfl)) ?_
 refine hg1 (i := 27) rfl (by kernel_rfl) rfl rfl rfl rfl rfl (bk_ (Gh.refl _) h03 (.cons _ (.cons_cons _ (.cons_cons _ .slnil)))) (fun hg29 => (q_fl 3 fld_89_2 rfl rfl rfl)) ?_
 refine hg1 (i := 28) rfl (by kernel_rfl) rfl rfl rfl rfl rfl (bk_ (Gh.refl _) h03 (.cons _ (.cons_cons _ (.cons_cons _ .slnil)))) (fun hg30 => (q_ldl (i := 1) (v := .bool v_.gone) rfl rfl Tryz.isAgg4 (gu hg30 rfl) rfl)) ?_
 refine hg1 (i := 29) rfl (by kernel_rfl) rfl rfl rfl rfl rfl (bk_ (Gh.refl _) h03 (.cons _ (.cons_cons _ (.cons_cons _ .slnil)))) (fun hg31 => (q_not rfl (gu hg31 rfl))) ?_
 refine hg1 (i := 30) rfl (by kernel_rfl) rfl rfl rfl rfl rfl (bk_ (Gh.refl _) h03 (.cons _ (.cons_cons _ (.cons_cons _ .slnil)))) (fun hg32 => (q_move (v := .bool (!v_.gone)) rfl (gu hg32 rfl))) ?_
 refine hh0 (c0 := (((z6 && z11) && (decide (z22 < v_.dot.n))) && (decide (((v_.val.size : Nat) : Int) ≤ 256)))) (g := (!v_.gone)) (i := 31) rfl (by kernel_rfl) rfl rfl rfl rfl rfl (bk_ (Gh.refl _) h03 (.cons _ (.cons_cons _ (.cons_cons _ .slnil)))) (fun hg33 => (q_fl 4 fld_89_3 rfl rfl rfl)) ?_
 refine hh0 (c0 := (((z6 && z11) && (decide (z22 < v_.dot.n))) && (decide (((v_.val.size : Nat) : Int) ≤ 256)))) (g := (!v_.gone)) (i := 32) rfl (by kernel_rfl) rfl rfl rfl rfl rfl (bk_ (Gh.refl _) h03 (.cons _ (.cons_cons _ (.cons_cons _ .slnil)))) (fun hg34 => (q_ldl (i := 1) (v := .string v_.val) rfl rfl Tryz.isAgg9 (gu hg34 rfl) rfl)) ?_
 refine hh0 (c0 := (((z6 && z11) && (decide (z22 < v_.dot.n))) && (decide (((v_.val.size : Nat) : Int) ≤ 256)))) (g := (!v_.gone)) (i := 33) rfl (by kernel_rfl) rfl rfl rfl rfl rfl (bk_ (Gh.refl _) h03 (.cons _ (.cons_cons _ (.cons_cons _ .slnil)))) (fun hg35 => (q_seql rfl (gu hg35 rfl) rfl)) ?_
 refine hg1 (i := 34) rfl (by kernel_rfl) rfl rfl rfl rfl rfl (bk_ (Gh.refl _) h03 (.cons _ (.cons_cons _ (.cons_cons _ .slnil)))) (fun hg36 => (q_pick rfl (gu hg36 rfl) (pk_or (c := (((z6 && z11) && (decide (z22 < v_.dot.n))) && (decide (((v_.val.size : Nat) : Int) ≤ 256)))) (g := (!v_.gone)) (y := (v_.val == ByteArray.empty)) hg36))) ?_
 refine hu 35 rfl (bk_ (Gh.refl _) h03 (.cons _ (.cons_cons _ (.cons_cons _ .slnil)))) (q_pick rfl rfl (pk_and' (g := (((z6 && z11) && (decide (z22 < v_.dot.n))) && (decide (((v_.val.size : Nat) : Int) ≤ 256)))) (y := ((!v_.gone) || (v_.val == ByteArray.empty))))) ?_
 refine hu 36 rfl (bk_ (Gh.refl _) h03 (.cons _ (.cons_cons _ (.cons_cons _ .slnil)))) (q_assign (v := .bool ((((z6 && z11) && (decide (z22 < v_.dot.n))) && (decide (((v_.val.size : Nat) : Int) ≤ 256))) && ((!v_.gone) || (v_.val == ByteArray.empty)))) rfl (by kernel_rfl)) ?_
 refine WH.done (by kernel_rfl) ?_
 change WC _ _ _ _ _ _
 refine WC.ret ?_
 intro w hw
 obtain rfl := Option.some.inj h
 subst hF
 exact ⟨by kernel_rfl, hw.fr⟩
theorem t_vers_before {Γ : Gh} {w0 : World} (a : Dot) (ha : Dot.fits Γ  a) (b : Dot) (hb : Dot.fits Γ  b) (hs : Sat Γ w0) {r : Bool} (h : m_vers_before a b = some r) : Calls Tryz.prog 132 #[.agg #[.int .i64 a.s, .int .i64 a.n], .agg #[.int .i64 b.s, .int .i64 b.n]] w0 (fun e w' => e = .returned (.bool r) ∧ Fr no w0 w') := by
 refine calls_of (N := 24) (rs := [4]) (args := [.agg #[.int .i64 a.s, .int .i64 a.n], .agg #[.int .i64 b.s, .int .i64 b.n]]) Tryz.func132 rfl Tryz.ntmps132 Tryz.results132 rfl ?_
 obtain ⟨F, hF⟩ : ∃ F : Fm, F = ⟨no, w0, Γ⟩ := ⟨_, rfl⟩
 refine WC.here (C := CC F Γ []) ?_ (hF ▸ Cur.start0 hs)
 refine WC.rs ?_
 refine e_box (v := .agg #[.int .i64 a.s, .int .i64 a.n]) rfl rfl rfl rfl (by kernel_rfl) ?_
 intro g1
 refine e_box (v := .agg #[.int .i64 b.s, .int .i64 b.n]) rfl rfl rfl rfl (by kernel_rfl) ?_
 intro g2
 refine as_ (v := .bool false) ?_
 refine WR.done ?_
 refine WC.rs ?_
 refine vb (q_fl 0 fld_86_0 rfl rfl rfl) ?_
 refine vb (q_ldl (i := 1) (v := .int .i64 a.s) rfl rfl Tryz.isAgg3 rfl rfl) ?_
 refine vb (q_fl 0 fld_86_0 rfl rfl rfl) ?_
 refine vb (q_ldl (i := 0) (v := .int .i64 b.s) rfl rfl Tryz.isAgg3 rfl rfl) ?_
 refine vb (q_lss rfl rfl rfl) ?_
 refine mv (v := .bool (decide (a.s < b.s))) ?_
 refine vg0 rfl rfl rfl rfl rfl (fun hg3 => QV.qo (q_fl 0 fld_86_0 rfl rfl rfl)) ?_
 refine vg0 rfl rfl rfl rfl rfl (fun hg4 => QV.qo (q_ldl (i := 1) (v := .int .i64 a.s) rfl rfl Tryz.isAgg3 (gu hg4 rfl) rfl)) ?_
 refine vg0 rfl rfl rfl rfl rfl (fun hg5 => QV.qo (q_fl 0 fld_86_0 rfl rfl rfl)) ?_
 refine vg0 rfl rfl rfl rfl rfl (fun hg6 => QV.qo (q_ldl (i := 0) (v := .int .i64 b.s) rfl rfl Tryz.isAgg3 (gu hg6 rfl) rfl)) ?_
 refine vg0 rfl rfl rfl rfl rfl (fun hg7 => QV.qo (q_eql rfl (gu hg7 rfl) (gu hg7 rfl))) ?_
 refine vg0 rfl rfl rfl rfl rfl (fun hg8 => QV.qo (q_move (v := .bool (a.s == b.s)) rfl (gu hg8 rfl))) ?_
 refine vh1 (c0 := (!(decide (a.s < b.s)))) (g := (a.s == b.s)) rfl rfl rfl rfl rfl (fun hg9 => QV.qo (q_fl 1 fld_86_1 rfl rfl rfl)) ?_
 refine vh1 (c0 := (!(decide (a.s < b.s)))) (g := (a.s == b.s)) rfl rfl rfl rfl rfl (fun hg10 => QV.qo (q_ldl (i := 1) (v := .int .i64 a.n) rfl rfl Tryz.isAgg2 (gu hg10 rfl) rfl)) ?_
 refine vh1 (c0 := (!(decide (a.s < b.s)))) (g := (a.s == b.s)) rfl rfl rfl rfl rfl (fun hg11 => QV.qo (q_fl 1 fld_86_1 rfl rfl rfl)) ?_
 refine vh1 (c0 := (!(decide (a.s < b.s)))) (g := (a.s == b.s)) rfl rfl rfl rfl rfl (fun hg12 => QV.qo (q_ldl (i := 0) (v := .int .i64 b.n) rfl rfl Tryz.isAgg2 (gu hg12 rfl) rfl)) ?_
 refine vh1 (c0 := (!(decide (a.s < b.s)))) (g := (a.s == b.s)) rfl rfl rfl rfl rfl (fun hg13 => QV.qo (q_lss rfl (gu hg13 rfl) (gu hg13 rfl))) ?_
 refine vg0 rfl rfl rfl rfl rfl (fun hg14 => QV.qo (q_pick rfl (gu hg14 rfl) (pk_and (c := (!(decide (a.s < b.s)))) (g := (a.s == b.s)) (y := (decide (a.n < b.n))) hg14))) ?_
 refine vb (q_pick rfl rfl (pk_or' (g := (decide (a.s < b.s))) (y := ((a.s == b.s) && (decide (a.n < b.n)))))) ?_
 refine as_ (v := .bool ((decide (a.s < b.s)) || ((a.s == b.s) && (decide (a.n < b.n))))) ?_
 refine WR.done ?_
 refine WC.ret ?_
 intro w hw
 obtain rfl := Option.some.inj h
 subst hF
 exact ⟨by kernel_rfl, hw.fr⟩
theorem t_span_Has {Γ : Gh} {w0 : World} {Al : Option Addr} {cl : Nat} {l : List Span} (hl : Sl spanT Γ Al l) (hlc : l.length ≤ cl) (d : Dot) (hd : Dot.fits Γ  d) (hs : Sat Γ w0) {r : Bool} (h : m_span_Has l d = some r) : Calls Tryz.prog 167 #[.slice Al l.length cl, .agg #[.int .i64 d.s, .int .i64 d.n]] w0 (fun e w' => e = .returned (.bool r) ∧ Fr no w0 w') := by
 refine calls_of (N := 33) (rs := [4]) (args := [.slice Al l.length cl, .agg #[.int .i64 d.s, .int .i64 d.n]]) Tryz.func167 rfl Tryz.ntmps167 Tryz.results167 rfl ?_
 obtain ⟨F, hF⟩ : ∃ F : Fm, F = ⟨no, w0, Γ⟩ := ⟨_, rfl⟩
 refine WC.here (C := CC F Γ []) ?_ (hF ▸ Cur.start0 hs)
 refine WC.rs ?_
 refine e_box (v := .agg #[.int .i64 d.s, .int .i64 d.n]) rfl rfl rfl rfl (by kernel_rfl) ?_
 intro g1
 refine as_ (v := .bool false) ?_
 refine WR.done ?_
 refine WC.seq ?_
 refine WC.rs ?_
 refine mv (v := .slice Al l.length cl) ?_
 refine vb (q_len_slice rfl Tryz.underlying87 rfl) ?_
 refine mv (v := .int .i64 0) ?_
 refine WR.done ?_
 refine WC.block ?_
 refine WC.forI h (fun (i3 : Nat) (s : Unit) σ w => match s with | () => slots σ [(3, (pq g1)), (7, .slice Al l.length cl), (8, .int .i64 ((l.length : Nat) : Int)), (9, .int .i64 ((i3 : Nat) : Int))] ∧ CC F Γ [[(g1, .cells #[.int .i64 d.s, .int .i64 d.n] 86 (0, 0))]] w ∧ True) ?_ ?_
 ·
  intro w hw
  exact ⟨(sl_ (by kernel_rfl)), hw, trivial⟩
 rintro f2 i3 ⟨⟩ σ w hi4 hlt5 hge6 ⟨hsl, hw, -⟩
 refine Wpt.slots hsl ?_
 refine WC.here (C := CC F Γ [[(g1, .cells #[.int .i64 d.s, .int .i64 d.n] 86 (0, 0))]]) ?_ hw
 clear hw hsl
 refine WC.rs ?_
 refine vb (q_lss rfl rfl rfl) ?_
 refine WR.done ?_
 refine WC.seq ?_
 refine WC.cond (b := (decide (((i3 : Nat) : Int) < ((l.length : Nat) : Int)))) (by kernel_rfl) (fun hb7 => ?_) (fun hb7 => ?_)
 ·
  have hl8 := ilt hb7
  have h := hlt5 hl8
  refine WC.skip ?_
  change WC _ _ _ _ _ _
  refine WC.seq ?_
  refine WC.block ?_
  refine WC.rs ?_
  refine vb (q_ixn (i := i3) Tryz.underlying87 Tryz.sizeOf93 rfl rfl rfl hl8 (hl.some_ hl8)) ?_
  refine vb (q_lda (c := 0) (vs := [.int .i64 (gt l i3).s, .int .i64 (gt l i3).f, .int .i64 (gt l i3).t]) (hl.spanT_at hl8).2 rfl Tryz.isAgg93 Tryz.sizeOf93 rfl rfl rfl) ?_
  refine e_alloc Tryz.zeroValue93 rfl rfl rfl rfl ?_
  intro g9
  refine e_st (i := 0) (v := .agg #[.int .i64 (gt l i3).s, .int .i64 (gt l i3).f, .int .i64 (gt l i3).t]) (new := #[.int .i64 (gt l i3).s, .int .i64 (gt l i3).f, .int .i64 (gt l i3).t]) rfl Tryz.sizeOf93 rfl rfl rfl rfl (by kernel_rfl) rfl rfl rfl rfl ?_
  refine WR.done ?_
  refine WC.rs ?_
  refine vb (q_fl 0 fld_93_0 rfl rfl rfl) ?_
  refine vb (q_ldl (i := 0) (v := .int .i64 (gt l i3).s) rfl rfl Tryz.isAgg3 rfl rfl) ?_
  refine vb (q_fl 0 fld_86_0 rfl rfl rfl) ?_
  refine vb (q_ldl (i := 1) (v := .int .i64 d.s) rfl rfl Tryz.isAgg3 rfl rfl) ?_
  refine vb (q_eql rfl rfl rfl) ?_
  refine mv (v := .bool ((gt l i3).s == d.s)) ?_
  refine vg1 rfl rfl rfl rfl rfl (fun hg10 => QV.qo (q_fl 1 fld_93_1 rfl rfl rfl)) ?_
  refine vg1 rfl rfl rfl rfl rfl (fun hg11 => QV.qo (q_ldl (i := 0) (v := .int .i64 (gt l i3).f) rfl rfl Tryz.isAgg2 (gu hg11 rfl) rfl)) ?_
  refine vg1 rfl rfl rfl rfl rfl (fun hg12 => QV.qo (q_fl 1 fld_86_1 rfl rfl rfl)) ?_
  refine vg1 rfl rfl rfl rfl rfl (fun hg13 => QV.qo (q_ldl (i := 1) (v := .int .i64 d.n) rfl rfl Tryz.isAgg2 (gu hg13 rfl) rfl)) ?_
  refine vg1 rfl rfl rfl rfl rfl (fun hg14 => QV.qo (q_leq rfl (gu hg14 rfl) (gu hg14 rfl))) ?_
  refine vb (q_pick rfl rfl (pk_and' (g := ((gt l i3).s == d.s)) (y := (decide ((gt l i3).f ≤ d.n))))) ?_
  refine mv (v := .bool (((gt l i3).s == d.s) && (decide ((gt l i3).f ≤ d.n)))) ?_
  refine vg1 rfl rfl rfl rfl rfl (fun hg15 => QV.qo (q_fl 1 fld_86_1 rfl rfl rfl)) ?_
  refine vg1 rfl rfl rfl rfl rfl (fun hg16 => QV.qo (q_ldl (i := 1) (v := .int .i64 d.n) rfl rfl Tryz.isAgg2 (gu hg16 rfl) rfl)) ?_
  refine vg1 rfl rfl rfl rfl rfl (fun hg17 => QV.qo (q_fl 2 fld_93_2 rfl rfl rfl)) ?_
  refine vg1 rfl rfl rfl rfl rfl (fun hg18 => QV.qo (q_ldl (i := 0) (v := .int .i64 (gt l i3).t) rfl rfl Tryz.isAgg2 (gu hg18 rfl) rfl)) ?_
  refine vg1 rfl rfl rfl rfl rfl (fun hg19 => QV.qo (q_leq rfl (gu hg19 rfl) (gu hg19 rfl))) ?_
  refine vb (q_pick rfl rfl (pk_and' (g := (((gt l i3).s == d.s) && (decide ((gt l i3).f ≤ d.n)))) (y := (decide (d.n ≤ (gt l i3).t))))) ?_
  refine WR.done ?_
  refine WC.cif h (by kernel_rfl) (fun hb20 h => ?_) (fun hb20 h => ?_)
  ·
   refine WC.rs ?_
   refine as_ (v := .bool true) ?_
   refine WR.done ?_
   refine WC.ret ?_
   intro w hw
   obtain rfl := Option.some.inj h
   subst hF
   exact ⟨by kernel_rfl, hw.fr⟩
  ·
   refine WC.skip ?_
   change WC _ _ _ _ _ _
   refine WC.region ?_
   refine vb (q_add_r (r := ((i3 + 1 : Nat) : Int)) rfl rfl rfl (ctr_len hl8 hl.le)) ?_
   refine mv (v := .int .i64 ((i3 + 1 : Nat) : Int)) ?_
   refine WR.nil ?_
   intro w hw
   exact ⟨hl8, (), h, (sl_ (by kernel_rfl)), (hw.only (is := [1]) rfl), trivial⟩
 ·
  have h := hge6 (ige hb7)
  refine WC.exit ?_
  change WC _ _ _ _ _ _
  refine WC.rs ?_
  refine as_ (v := .bool false) ?_
  refine WR.done ?_
  refine WC.ret ?_
  intro w hw
  obtain rfl := Option.some.inj h
  subst hF
  exact ⟨by kernel_rfl, hw.fr⟩
theorem t_vers_behind {Γ : Gh} {w0 : World} (d : Dot) (hd : Dot.fits Γ  d) {Al : Option Addr} {cl : Nat} {l : List Ver} (hl : Sl verT Γ Al l) (hlc : l.length ≤ cl) (hs : Sat Γ w0) {r : Bool} (h : m_vers_behind d l = some r) : Calls Tryz.prog 130 #[.agg #[.int .i64 d.s, .int .i64 d.n], .slice Al l.length cl] w0 (fun e w' => e = .returned (.bool r) ∧ Fr no w0 w') := by
 refine calls_of (N := 18) (rs := [4]) (args := [.agg #[.int .i64 d.s, .int .i64 d.n], .slice Al l.length cl]) Tryz.func130 rfl Tryz.ntmps130 Tryz.results130 rfl ?_
 obtain ⟨F, hF⟩ : ∃ F : Fm, F = ⟨no, w0, Γ⟩ := ⟨_, rfl⟩
 refine WC.here (C := CC F Γ []) ?_ (hF ▸ Cur.start0 hs)
 refine WC.rs ?_
 refine e_box (v := .agg #[.int .i64 d.s, .int .i64 d.n]) rfl rfl rfl rfl (by kernel_rfl) ?_
 intro g1
 refine as_ (v := .bool false) ?_
 refine WR.done ?_
 refine WC.seq ?_
 refine WC.rs ?_
 refine mv (v := .slice Al l.length cl) ?_
 refine vb (q_len_slice rfl Tryz.underlying43 rfl) ?_
 refine mv (v := .int .i64 0) ?_
 refine WR.done ?_
 refine WC.block ?_
 refine WC.forI h (fun (i3 : Nat) (s : Unit) σ w => match s with | () => slots σ [(2, (pq g1)), (7, .slice Al l.length cl), (8, .int .i64 ((l.length : Nat) : Int)), (9, .int .i64 ((i3 : Nat) : Int))] ∧ CC F Γ [[(g1, .cells #[.int .i64 d.s, .int .i64 d.n] 86 (0, 0))]] w ∧ True) ?_ ?_
 ·
  intro w hw
  exact ⟨(sl_ (by kernel_rfl)), hw, trivial⟩
 rintro f2 i3 ⟨⟩ σ w hi4 hlt5 hge6 ⟨hsl, hw, -⟩
 refine Wpt.slots hsl ?_
 refine WC.here (C := CC F Γ [[(g1, .cells #[.int .i64 d.s, .int .i64 d.n] 86 (0, 0))]]) ?_ hw
 clear hw hsl
 refine WC.rs ?_
 refine vb (q_lss rfl rfl rfl) ?_
 refine WR.done ?_
 refine WC.seq ?_
 refine WC.cond (b := (decide (((i3 : Nat) : Int) < ((l.length : Nat) : Int)))) (by kernel_rfl) (fun hb7 => ?_) (fun hb7 => ?_)
 ·
  have hl8 := ilt hb7
  have h := hlt5 hl8
  refine WC.skip ?_
  change WC _ _ _ _ _ _
  refine WC.seq ?_
  refine WC.block ?_
  refine WC.rs ?_
  refine vb (q_ixn (i := i3) Tryz.underlying43 Tryz.sizeOf89 rfl rfl rfl hl8 (hl.some_ hl8)) ?_
  obtain ⟨A9, c10, hx11⟩ := hl.verT_at i3
  refine vb (q_lda (c := 0) (vs := [.int .i64 (gt l i3).dot.s, .int .i64 (gt l i3).dot.n, .slice A9 ((gt l i3).past).length c10, .bool (gt l i3).gone, .string (gt l i3).val]) (hx11 hl8).2 rfl Tryz.isAgg89 Tryz.sizeOf89 rfl rfl rfl) ?_
  refine e_alloc Tryz.zeroValue89 rfl rfl rfl rfl ?_
  intro g12
  refine e_st (i := 0) (v := .agg #[.int .i64 (gt l i3).dot.s, .int .i64 (gt l i3).dot.n, .slice A9 ((gt l i3).past).length c10, .bool (gt l i3).gone, .string (gt l i3).val]) (new := #[.int .i64 (gt l i3).dot.s, .int .i64 (gt l i3).dot.n, .slice A9 ((gt l i3).past).length c10, .bool (gt l i3).gone, .string (gt l i3).val]) rfl Tryz.sizeOf89 rfl rfl rfl rfl (by kernel_rfl) rfl rfl rfl rfl ?_
  refine WR.done ?_
  refine WC.rs ?_
  refine vb (q_fl 2 fld_89_1 rfl rfl rfl) ?_
  refine vb (q_ldl (i := 0) (v := .slice A9 ((gt l i3).past).length c10) rfl rfl Tryz.isAgg87 rfl rfl) ?_
  refine vb (q_ldla (i := 1) (vs := [.int .i64 d.s, .int .i64 d.n]) rfl rfl Tryz.isAgg86 Tryz.sizeOf86 rfl rfl) ?_
  obtain ⟨z13, hz14, h⟩ := bnd h
  refine vc rfl rfl rfl (q_call (call_run Tryz.call167 rfl rfl (by kernel_rfl)) (fun w hw => t_span_Has (Γ := Gh.all w) ((hx11 hl8).1.2.2.1.2.mono hw.sat.le_all) (hx11 hl8).1.2.2.1.1 d hd (Sat.all w) hz14)) ?_
  refine WR.done ?_
  refine WC.cif h (by kernel_rfl) (fun hb15 h => ?_) (fun hb15 h => ?_)
  ·
   refine WC.rs ?_
   refine as_ (v := .bool true) ?_
   refine WR.done ?_
   refine WC.ret ?_
   intro w hw
   obtain rfl := Option.some.inj h
   subst hF
   exact ⟨by kernel_rfl, hw.fr⟩
  ·
   refine WC.skip ?_
   change WC _ _ _ _ _ _
   refine WC.region ?_
   refine vb (q_add_r (r := ((i3 + 1 : Nat) : Int)) rfl rfl rfl (ctr_len hl8 hl.le)) ?_
   refine mv (v := .int .i64 ((i3 + 1 : Nat) : Int)) ?_
   refine WR.nil ?_
   intro w hw
   exact ⟨hl8, (), h, (sl_ (by kernel_rfl)), (hw.only (is := [1]) rfl), trivial⟩
 ·
  have h := hge6 (ige hb7)
  refine WC.exit ?_
  change WC _ _ _ _ _ _
  refine WC.rs ?_
  refine as_ (v := .bool false) ?_
  refine WR.done ?_
  refine WC.ret ?_
  intro w hw
  obtain rfl := Option.some.inj h
  subst hF
  exact ⟨by kernel_rfl, hw.fr⟩
theorem t_vers_Right {Γ : Gh} {w0 : World} {Al : Option Addr} {cl : Nat} {l : List Ver} (hl : Sl verT Γ Al l) (hlc : l.length ≤ cl) (hs : Sat Γ w0) {r : Bool} (h : m_vers_Right l = some r) : Calls Tryz.prog 111 #[.slice Al l.length cl] w0 (fun e w' => e = .returned (.bool r) ∧ Fr no w0 w') := by
 refine calls_of (N := 41) (rs := [2]) (args := [.slice Al l.length cl]) Tryz.func111 rfl Tryz.ntmps111 Tryz.results111 rfl ?_
 obtain ⟨F, hF⟩ : ∃ F : Fm, F = ⟨no, w0, Γ⟩ := ⟨_, rfl⟩
 refine WC.here (C := CC F Γ []) ?_ (hF ▸ Cur.start0 hs)
 refine WC.rs ?_
 refine as_ (v := .bool false) ?_
 refine WR.done ?_
 refine WC.seq ?_
 refine WC.rs ?_
 refine mv (v := .slice Al l.length cl) ?_
 refine vb (q_len_slice rfl Tryz.underlying43 rfl) ?_
 refine mv (v := .int .i64 0) ?_
 refine WR.done ?_
 refine WC.block ?_
 refine WC.forI h (fun (i2 : Nat) (s : Unit) σ w => match s with | () => slots σ [(0, .slice Al l.length cl), (5, .slice Al l.length cl), (6, .int .i64 ((l.length : Nat) : Int)), (7, .int .i64 ((i2 : Nat) : Int))] ∧ CC F Γ [] w ∧ True) ?_ ?_
 ·
  intro w hw
  exact ⟨(sl_ (by kernel_rfl)), hw, trivial⟩
 rintro f1 i2 ⟨⟩ σ w hi3 hlt4 hge5 ⟨hsl, hw, -⟩
 refine Wpt.slots hsl ?_
 refine WC.here (C := CC F Γ []) ?_ hw
 clear hw hsl
 refine WC.rs ?_
 refine vb (q_lss rfl rfl rfl) ?_
 refine WR.done ?_
 refine WC.seq ?_
 refine WC.cond (b := (decide (((i2 : Nat) : Int) < ((l.length : Nat) : Int)))) (by kernel_rfl) (fun hb6 => ?_) (fun hb6 => ?_)
 ·
  have hl7 := ilt hb6
  have h := hlt4 hl7
  refine WC.skip ?_
  change WC _ _ _ _ _ _
  refine WC.seq ?_
  refine WC.block ?_
  refine WC.rs ?_
  refine mv (v := .int .i64 ((i2 : Nat) : Int)) ?_
  refine vb (q_ixn (i := i2) Tryz.underlying43 Tryz.sizeOf89 rfl rfl rfl hl7 (hl.some_ hl7)) ?_
  obtain ⟨A8, c9, hx10⟩ := hl.verT_at i2
  refine vb (q_lda (c := 0) (vs := [.int .i64 (gt l i2).dot.s, .int .i64 (gt l i2).dot.n, .slice A8 ((gt l i2).past).length c9, .bool (gt l i2).gone, .string (gt l i2).val]) (hx10 hl7).2 rfl Tryz.isAgg89 Tryz.sizeOf89 rfl rfl rfl) ?_
  refine e_alloc Tryz.zeroValue89 rfl rfl rfl rfl ?_
  intro g11
  refine as_ (v := .int .i64 ((i2 : Nat) : Int)) ?_
  refine e_st (i := 0) (v := .agg #[.int .i64 (gt l i2).dot.s, .int .i64 (gt l i2).dot.n, .slice A8 ((gt l i2).past).length c9, .bool (gt l i2).gone, .string (gt l i2).val]) (new := #[.int .i64 (gt l i2).dot.s, .int .i64 (gt l i2).dot.n, .slice A8 ((gt l i2).past).length c9, .bool (gt l i2).gone, .string (gt l i2).val]) rfl Tryz.sizeOf89 rfl rfl rfl rfl (by kernel_rfl) rfl rfl rfl rfl ?_
  refine WR.done ?_
  refine WC.seq ?_
  refine WC.dr (by kernel_rfl) (by kernel_rfl) (fun w hw => hw.drawn _) ?_
  refine wa rfl rfl rfl (q_ldla (i := 0) (vs := [.int .i64 (gt l i2).dot.s, .int .i64 (gt l i2).dot.n, .slice A8 ((gt l i2).past).length c9, .bool (gt l i2).gone, .string (gt l i2).val]) rfl rfl Tryz.isAgg89 Tryz.sizeOf89 rfl rfl) ?_
  obtain ⟨z12, hz13, h⟩ := bnd h
  refine wc rfl rfl rfl (q_call (call_run Tryz.call150 rfl rfl (by kernel_rfl)) (fun w hw => t_vers_RightOne (Γ := Gh.all w) (gt l i2) (Ver.fits_mono (hx10 hl7).1 hw.sat.le_all) (Sat.all w) hz13)) ?_
  refine wa rfl rfl rfl (q_not rfl rfl) ?_
  refine wa rfl rfl rfl (q_move (v := .bool (!z12)) rfl (by kernel_rfl)) ?_
  refine wg0 rfl rfl rfl rfl rfl (fun hg14 => QV.qo (q_move (v := .int .i64 ((i2 : Nat) : Int)) rfl (by kernel_rfl))) ?_
  refine wg0 rfl rfl rfl rfl rfl (fun hg15 => QV.qo (q_gtr rfl (gu hg15 rfl) rfl)) ?_
  refine wg0 rfl rfl rfl rfl rfl (fun hg16 => QV.qo (q_move (v := .bool (decide (0 < ((i2 : Nat) : Int)))) rfl (gu hg16 rfl))) ?_
  refine wh1 (c0 := (!(!z12))) (g := (decide (0 < ((i2 : Nat) : Int)))) rfl rfl rfl rfl rfl (fun hg17 => QV.qo (q_move (v := .slice Al l.length cl) rfl (by kernel_rfl))) ?_
  refine wh1 (c0 := (!(!z12))) (g := (decide (0 < ((i2 : Nat) : Int)))) rfl rfl rfl rfl rfl (fun hg18 => QV.qo (q_move (v := .int .i64 ((i2 : Nat) : Int)) rfl (by kernel_rfl))) ?_
  refine wh1 (c0 := (!(!z12))) (g := (decide (0 < ((i2 : Nat) : Int)))) rfl rfl rfl rfl rfl (fun hg19 => QV.qo (q_sub rfl (gu hg19 rfl) rfl)) ?_
  obtain ⟨hk21, h⟩ := chk_some h
  refine wh1 (c0 := (!(!z12))) (g := (decide (0 < ((i2 : Nat) : Int)))) rfl rfl rfl rfl rfl (fun hg20 => QV.qo (q_ix Tryz.underlying43 Tryz.sizeOf89 rfl (gu hg20 rfl) (gu hg20 rfl) (imp_of hk21 hg20) (hl.some_ (inb_lt (imp_of hk21 hg20))))) ?_
  refine wh1 (c0 := (!(!z12))) (g := (decide (0 < ((i2 : Nat) : Int)))) rfl rfl rfl rfl rfl (fun hg22 => QV.qo (q_field_addr (((w64 (((i2 : Nat) : Int) - 1)).toNat) * 5) fld_89_0 rfl (gu hg22 rfl) (hl.some_ (inb_lt (imp_of hk21 hg22))) rfl)) ?_
  obtain ⟨A24, c25, hx26⟩ := hl.verT_at ((w64 (((i2 : Nat) : Int) - 1)).toNat)
  refine wh1 (c0 := (!(!z12))) (g := (decide (0 < ((i2 : Nat) : Int)))) rfl rfl rfl rfl rfl (fun hg23 => QV.qo (q_lda (c := 0) (vs := [.int .i64 (gt l ((w64 (((i2 : Nat) : Int) - 1)).toNat)).dot.s, .int .i64 (gt l ((w64 (((i2 : Nat) : Int) - 1)).toNat)).dot.n]) (hx26 (inb_lt (imp_of hk21 hg23))).2 rfl Tryz.isAgg86 Tryz.sizeOf86 (gu hg23 rfl) rfl rfl)) ?_
  refine wh1 (c0 := (!(!z12))) (g := (decide (0 < ((i2 : Nat) : Int)))) rfl rfl rfl rfl rfl (fun hg27 => QV.qo (q_fl 0 fld_89_0 rfl rfl rfl)) ?_
  refine wh1 (c0 := (!(!z12))) (g := (decide (0 < ((i2 : Nat) : Int)))) rfl rfl rfl rfl rfl (fun hg28 => QV.qo (q_ldla (i := 0) (vs := [.int .i64 (gt l i2).dot.s, .int .i64 (gt l i2).dot.n]) rfl rfl Tryz.isAgg86 Tryz.sizeOf86 (gu hg28 rfl) rfl)) ?_
  obtain ⟨z30, hz31, h⟩ := bnd h
  refine wh1 (c0 := (!(!z12))) (g := (decide (0 < ((i2 : Nat) : Int)))) rfl rfl rfl rfl rfl (fun hg29 => (q_call (call_run Tryz.call132 rfl rfl (args2 (gu hg29 rfl) (gu hg29 rfl))) (fun w hw => t_vers_before (Γ := Gh.all w) ((gt l ((w64 (((i2 : Nat) : Int) - 1)).toNat)).dot) ⟨(hx26 (inb_lt (imp_of hk21 hg29))).1.1, (hx26 (inb_lt (imp_of hk21 hg29))).1.2.1⟩ ((gt l i2).dot) ⟨(hx10 hl7).1.1, (hx10 hl7).1.2.1⟩ (Sat.all w) (gc_of hz31 hg29)))) ?_
  refine wh1 (c0 := (!(!z12))) (g := (decide (0 < ((i2 : Nat) : Int)))) rfl rfl rfl rfl rfl (fun hg32 => QV.qo (q_not rfl (gu hg32 rfl))) ?_
  refine wg0 rfl rfl rfl rfl rfl (fun hg33 => QV.qo (q_pick rfl (gu hg33 rfl) (pk_and (c := (!(!z12))) (g := (decide (0 < ((i2 : Nat) : Int)))) (y := (!z30)) hg33))) ?_
  refine wa rfl rfl rfl (q_pick rfl rfl (pk_or' (g := (!z12)) (y := ((decide (0 < ((i2 : Nat) : Int))) && (!z30))))) ?_
  refine wa rfl rfl rfl (q_move (v := .bool ((!z12) || ((decide (0 < ((i2 : Nat) : Int))) && (!z30)))) rfl (by kernel_rfl)) ?_
  refine wg0 rfl rfl rfl rfl rfl (fun hg34 => QV.qo (q_fl 0 fld_89_0 rfl rfl rfl)) ?_
  refine wg0 rfl rfl rfl rfl rfl (fun hg35 => QV.qo (q_ldla (i := 0) (vs := [.int .i64 (gt l i2).dot.s, .int .i64 (gt l i2).dot.n]) rfl rfl Tryz.isAgg86 Tryz.sizeOf86 (gu hg35 rfl) rfl)) ?_
  refine wg0 rfl rfl rfl rfl rfl (fun hg36 => QV.qo (q_move (v := .slice Al l.length cl) rfl (by kernel_rfl))) ?_
  obtain ⟨z38, hz39, h⟩ := bnd h
  refine wg0 rfl rfl rfl rfl rfl (fun hg37 => (q_call (call_run Tryz.call130 rfl rfl (args2 (gu hg37 rfl) (gu hg37 rfl))) (fun w hw => t_vers_behind (Γ := Gh.all w) ((gt l i2).dot) ⟨(hx10 hl7).1.1, (hx10 hl7).1.2.1⟩ (hl.mono hw.sat.le_all) hlc (Sat.all w) (gc_of hz39 hg37)))) ?_
  refine wa rfl rfl rfl (q_pick rfl rfl (pk_or' (g := ((!z12) || ((decide (0 < ((i2 : Nat) : Int))) && (!z30)))) (y := z38))) ?_
  refine WQ.nil ?_
  change WC _ _ _ _ _ _
  refine WC.cif h (by kernel_rfl) (fun hb40 h => ?_) (fun hb40 h => ?_)
  ·
   refine WC.rs ?_
   refine as_ (v := .bool false) ?_
   refine WR.done ?_
   refine WC.ret ?_
   intro w hw
   obtain rfl := Option.some.inj h
   subst hF
   exact ⟨by kernel_rfl, hw.fr⟩
  ·
   refine WC.skip ?_
   change WC _ _ _ _ _ _
   refine WC.region ?_
   refine vb (q_add_r (r := ((i2 + 1 : Nat) : Int)) rfl rfl rfl (ctr_len hl7 hl.le)) ?_
   refine mv (v := .int .i64 ((i2 + 1 : Nat) : Int)) ?_
   refine WR.nil ?_
   intro w hw
   exact ⟨hl7, (), h, (sl_ (by kernel_rfl)), (hw.only (is := []) rfl), trivial⟩
 ·
  have h := hge5 (ige hb6)
  refine WC.exit ?_
  change WC _ _ _ _ _ _
  refine WC.rs ?_
  refine mv (v := .slice Al l.length cl) ?_
  refine vb (q_len_slice rfl Tryz.underlying43 rfl) ?_
  refine vb (q_leq rfl rfl rfl) ?_
  refine as_ (v := .bool (decide (((l.length : Nat) : Int) ≤ 512))) ?_
  refine WR.done ?_
  refine WC.ret ?_
  intro w hw
  obtain rfl := Option.some.inj h
  subst hF
  exact ⟨by kernel_rfl, hw.fr⟩
theorem t_code_RightRec {Γ : Gh} {w0 : World} {Ar_1 : Option Addr} {cr_1 : Nat} (r_ : Rec) (hr_ : Rec.fits Γ Ar_1 cr_1 r_) (hs : Sat Γ w0) {r : Bool} (h : m_code_RightRec r_ = some r) : Calls Tryz.prog 69 #[.agg #[.string r_.key, .slice Ar_1 r_.vers.length cr_1]] w0 (fun e w' => e = .returned (.bool r) ∧ Fr no w0 w') := by
 refine calls_of (N := 18) (rs := [2]) (args := [.agg #[.string r_.key, .slice Ar_1 r_.vers.length cr_1]]) Tryz.func69 rfl Tryz.ntmps69 Tryz.results69 rfl ?_
 obtain ⟨F, hF⟩ : ∃ F : Fm, F = ⟨no, w0, Γ⟩ := ⟨_, rfl⟩
 refine WC.here (C := CC F Γ []) ?_ (hF ▸ Cur.start0 hs)
 refine WC.rs ?_
 refine e_box (v := .agg #[.string r_.key, .slice Ar_1 r_.vers.length cr_1]) rfl rfl rfl rfl (by kernel_rfl) ?_
 intro g1
 refine as_ (v := .bool false) ?_
 refine WR.done ?_
 refine WC.rs ?_
 refine vb (q_fl 0 fld_45_0 rfl rfl rfl) ?_
 refine vb (q_ldl (i := 0) (v := .string r_.key) rfl rfl Tryz.isAgg9 rfl rfl) ?_
 refine vb (q_len_str rfl Tryz.underlying9 rfl) ?_
 refine vb (q_geq rfl rfl rfl) ?_
 refine mv (v := .bool (decide (1 ≤ ((r_.key.size : Nat) : Int)))) ?_
 refine vg1 rfl rfl rfl rfl rfl (fun hg2 => QV.qo (q_fl 0 fld_45_0 rfl rfl rfl)) ?_
 refine vg1 rfl rfl rfl rfl rfl (fun hg3 => QV.qo (q_ldl (i := 0) (v := .string r_.key) rfl rfl Tryz.isAgg9 (gu hg3 rfl) rfl)) ?_
 refine vg1 rfl rfl rfl rfl rfl (fun hg4 => QV.qo (q_len_str rfl Tryz.underlying9 (gu hg4 rfl))) ?_
 refine vg1 rfl rfl rfl rfl rfl (fun hg5 => QV.qo (q_leq rfl (gu hg5 rfl) rfl)) ?_
 refine vb (q_pick rfl rfl (pk_and' (g := (decide (1 ≤ ((r_.key.size : Nat) : Int)))) (y := (decide (((r_.key.size : Nat) : Int) ≤ 32))))) ?_
 refine mv (v := .bool ((decide (1 ≤ ((r_.key.size : Nat) : Int))) && (decide (((r_.key.size : Nat) : Int) ≤ 32)))) ?_
 refine vg1 rfl rfl rfl rfl rfl (fun hg6 => QV.qo (q_fl 1 fld_45_1 rfl rfl rfl)) ?_
 refine vg1 rfl rfl rfl rfl rfl (fun hg7 => QV.qo (q_ldl (i := 0) (v := .slice Ar_1 r_.vers.length cr_1) rfl rfl Tryz.isAgg43 (gu hg7 rfl) rfl)) ?_
 obtain ⟨z9, hz10, h⟩ := bnd h
 refine vg1 rfl rfl rfl rfl rfl (fun hg8 => (q_call (call_run Tryz.call111 rfl rfl (args1 (gu hg8 rfl))) (fun w hw => t_vers_Right (Γ := Gh.all w) (hr_.2.2.mono hw.sat.le_all) hr_.2.1 (Sat.all w) (gc_of hz10 hg8)))) ?_
 refine vb (q_pick rfl rfl (pk_and' (g := ((decide (1 ≤ ((r_.key.size : Nat) : Int))) && (decide (((r_.key.size : Nat) : Int) ≤ 32)))) (y := z9))) ?_
 refine as_ (v := .bool (((decide (1 ≤ ((r_.key.size : Nat) : Int))) && (decide (((r_.key.size : Nat) : Int) ≤ 32))) && z9)) ?_
 refine WR.done ?_
 refine WC.ret ?_
 intro w hw
 obtain rfl := Option.some.inj h
 subst hF
 exact ⟨by kernel_rfl, hw.fr⟩
abbrev r_code_whole_api_Rec (r : Rec × Int) (U : List Rowb) (Γ : Gh) (v : Value) : Prop := ∃ (A0_1 : Option Addr), ∃ (c0_1 : Nat), v = .tuple #[.agg #[.string r.1.key, .slice A0_1 r.1.vers.length c0_1], .int .i64 r.2] ∧ U = [] ∧ Rec.fits Γ A0_1 c0_1 r.1 ∧ I64 r.2 ∧ True
theorem t_code_whole_api_Rec {Γ : Gh} {w0 : World} {Ab : Option Addr} {cb : Nat} {b : List UInt8} (hb : Sl byteT Γ Ab b) (hbc : b.length ≤ cb) (hp : Pre [] Γ w0) {r : Rec × Int} (h : m_code_whole_api_Rec b = some r) : Calls Tryz.prog 93 #[.slice Ab b.length cb, .func (.func 94) #[] #[], .func (.func 69) #[] #[]] w0 (Outc Γ [] w0 (r_code_whole_api_Rec r)) := by
 refine calls_door (n := 32) (args := [.slice Ab b.length cb, .func (.func 94) #[] #[], .func (.func 69) #[] #[]]) Tryz.func93 rfl Tryz.ntmps93 rfl ?_
 obtain ⟨F, hF⟩ : ∃ F : Fm, F = ⟨ids [], w0, Γ⟩ := ⟨_, rfl⟩
 refine WX.here (C := CC F Γ []) ?_ (hF ▸ hp.start)
 refine WX.seq ?_
 refine WC.region ?_
 refine e_alloc Tryz.zeroValue45 rfl rfl rfl rfl ?_
 intro g1
 refine e_alloc Tryz.zeroValue28 rfl rfl rfl rfl ?_
 intro g2
 refine WR.nil ?_
 change WX _ _ _ _ _ _ _
 refine WX.defer (v := .func (.func 125) #[] #[(pq g1), (pq g2)]) (d := ⟨.fn (.func 125) #[(pq g1), (pq g2)], #[]⟩) rfl rfl rfl rfl (q_mkfn (v := .func (.func 125) #[] #[(pq g1), (pq g2)]) rfl (by kernel_rfl)) (run_defer rfl rfl) ?_
 refine WX.last ?_
 change WC _ _ _ _ _ _
 refine WC.rs ?_
 refine mv (v := .slice Ab b.length cb) ?_
 refine vb (q_build' (v := .agg #[.slice Ab b.length cb, .int .i64 0]) rfl (bargs1 rfl) (fun w => by kernel_rfl)) ?_
 refine e_box (v := .agg #[.slice Ab b.length cb, .int .i64 0]) rfl rfl rfl rfl (by kernel_rfl) ?_
 intro g3
 refine as_ (v := (pq g3)) ?_
 refine WR.done ?_
 refine WC.rs ?_
 refine mv (v := .func (.func 94) #[] #[]) ?_
 refine mv (v := (pq g3)) ?_
 obtain ⟨row_4, hrow_4, hob_4⟩ : ∃ rw : Rowb, rw = ([[(g3, .cells #[.slice Ab b.length cb, .int .i64 0] 194 (0, 0))]] : List Rowb).flatten ∧ Ocode_reader.ob 194 Γ g3 rw (⟨b, 0⟩ : Ocode_reader) := ⟨_, rfl, Ab, cb, rfl, hbc, hb, (show I64 0 by decide), trivial⟩
 intro w hw; have hw := hw.fold (is := [0]) rfl hrow_4
 refine WR.here (C := CC F Γ [row_4, [(g2, .cells #[.int .i64 0] 28 (0, 0))], [(g1, .cells #[.string ByteArray.empty, .slice none 0 0] 45 (0, 0))]]) ?_ hw
 clear hw
 obtain ⟨z5, hz6, h⟩ := bnd h
 rcases z5 with _ | o7
 ·
  have h := optm_n rfl h
  refine e_callN (is := [0]) rfl (call_run_fv (caps := #[]) Tryz.call94 rfl (by kernel_rfl) (by kernel_rfl)) rfl (fun w hp => t_code_reader_rec hob_4 hp hz6) ?_
  intro Γ8 hl9
  change ∀ w, CC F Γ8 [[(g2, .cells #[.int .i64 0] 28 (0, 0))], [(g1, .cells #[.string ByteArray.empty, .slice none 0 0] 45 (0, 0))]] w → _
  obtain ⟨z10, hz11, h⟩ := bnd h
  refine door_panic (rs := [.cell 6 45, .cell 7 28]) (is := [1, 0]) Tryz.results93 (invoke_fn Tryz.call125) rfl rfl (fun w hp => t_code_whole_api_Rec_1 ByteArray.empty (show (ByteArray.empty : ByteArray).size ≤ lim by decide) (Sl.nil verT _ none) (Nat.zero_le 0) 0 (show I64 0 by decide) hp hz11) ?_
  rintro Γ12 U14 v15 hl13 ⟨A17, c18, rfl, rfl, hr16, hc20, hr19, hr21, _⟩
  change WRt _ _ _ (CC F Γ12 [[(g1, .cells #[.string z10.1, .slice A17 z10.2.1.length c18] 45 (0, 0))], [(g2, .cells #[.int .i64 z10.2.2] 28 (0, 0))]]) _
  unfold WRt
  intro w hw
  obtain rfl := Option.some.inj h
  subst hF
  exact ⟨[.agg #[.string z10.1, .slice A17 z10.2.1.length c18], .int .i64 z10.2.2], (rr_agg (i := 0) (us := [.string z10.1, .slice A17 z10.2.1.length c18]) hw rfl Tryz.isAgg45 Tryz.sizeOf45 (by kernel_rfl) rfl (rr_cell (i := 1) hw rfl Tryz.isAgg28 (by kernel_rfl) rfl rr_nil)), end_e (is := []) (by kernel_rfl) hw rfl ⟨A17, c18, rfl, rfl, ⟨hr16, ⟨hc20, hr19⟩⟩, hr21, trivial⟩⟩
 ·
  have h := optm_s rfl h
  refine e_call (is := [0]) rfl rfl (call_run_fv (caps := #[]) Tryz.call94 rfl (by kernel_rfl) (by kernel_rfl)) rfl (fun w hp => t_code_reader_rec hob_4 hp hz6) ?_
  rintro Γ22 U24 v25 hl23 ⟨row26, A28, c29, rfl, rfl, hr27, hr30, _⟩
  change WR _ _ _ (CC F Γ22 [row26, [(g2, .cells #[.int .i64 0] 28 (0, 0))], [(g1, .cells #[.string ByteArray.empty, .slice none 0 0] 45 (0, 0))]]) _ _ (upd _ 15 (.agg #[.string o7.2.key, .slice A28 o7.2.vers.length c29]))
  refine e_st (i := 2) (v := .agg #[.string o7.2.key, .slice A28 o7.2.vers.length c29]) (new := #[.string o7.2.key, .slice A28 o7.2.vers.length c29]) rfl Tryz.sizeOf45 rfl rfl rfl rfl (by kernel_rfl) rfl rfl rfl rfl ?_
  refine WR.done ?_
  refine WC.cut (fun σ w => m_code_whole_api_Rec_j1 o7  = some r ∧ slots σ [(6, (pq g1)), (7, (pq g2))] ∧ CC F Γ22 [row26, [(g2, .cells #[.int .i64 0] 28 (0, 0))], [(g1, .cells #[.string o7.2.key, .slice A28 o7.2.vers.length c29] 45 (0, 0))]] w ∧ True) ?_ ?_
  ·
   refine WC.rs ?_
   refine mv (v := (pq g3)) ?_
   refine vb (q_nil (A := some ⟨g3, 0, none⟩) rfl rfl rfl) ?_
   refine vb (q_fl 1 fld_194_1 rfl rfl rfl) ?_
   have hq := hr27
   obtain ⟨A0_31, c0_31, hrow_31, ho0_31, ho1_31, ho2_31, -⟩ := hq
   intro w hw; have hw := hw.unfold (i := 0) rfl hrow_31
   refine WR.here (C := CC F Γ22 [[(g3, .cells #[.slice A0_31 o7.1.b.length c0_31, .int .i64 o7.1.at_] 194 (0, 0))], [(g2, .cells #[.int .i64 0] 28 (0, 0))], [(g1, .cells #[.string o7.2.key, .slice A28 o7.2.vers.length c29] 45 (0, 0))]]) ?_ hw
   clear hw
   refine vb (q_ldl (i := 0) (v := .int .i64 o7.1.at_) rfl rfl Tryz.isAgg3 rfl rfl) ?_
   refine mv (v := .slice Ab b.length cb) ?_
   refine vb (q_len_slice rfl Tryz.underlying77 rfl) ?_
   refine vb (q_neq rfl rfl rfl) ?_
   refine mv (v := .bool (o7.1.at_ != ((b.length : Nat) : Int))) ?_
   refine vg0 rfl rfl rfl rfl rfl (fun hg32 => QV.qo (q_move (v := .func (.func 69) #[] #[]) rfl (by kernel_rfl))) ?_
   refine vg0 rfl rfl rfl rfl rfl (fun hg33 => QV.qo (q_ldla (i := 2) (vs := [.string o7.2.key, .slice A28 o7.2.vers.length c29]) rfl rfl Tryz.isAgg45 Tryz.sizeOf45 rfl rfl)) ?_
   obtain ⟨z35, hz36, h⟩ := bnd h
   refine vg0 rfl rfl rfl rfl rfl (fun hg34 => (q_call (call_run_fv (caps := #[]) (args := #[.agg #[.string o7.2.key, .slice A28 o7.2.vers.length c29]]) Tryz.call69 rfl (gu hg34 rfl) ((congrArg (· ++ #[]) (args1 (gu hg34 rfl))).trans (by kernel_rfl))) (fun w hw => t_code_RightRec (Γ := Gh.all w) o7.2 (Rec.fits_mono hr30 hw.sat.le_all) (Sat.all w) (gc_of hz36 hg34)))) ?_
   refine vg0 rfl rfl rfl rfl rfl (fun hg37 => QV.qo (q_not rfl (gu hg37 rfl))) ?_
   refine vb (q_pick rfl rfl (pk_or' (g := (o7.1.at_ != ((b.length : Nat) : Int))) (y := (!z35)))) ?_
   refine WR.done ?_
   refine WC.cif h (by kernel_rfl) (fun hb38 h => ?_) (fun hb38 h => ?_)
   ·
    refine WC.region ?_
    refine vb (q_build (v := .agg #[]) rfl (fun w => by kernel_rfl)) ?_
    refine vb (q_iface rfl rfl (fun w => mkif Tryz.underlying192 w)) ?_
    refine e_panic (v := .iface 192 (.agg #[])) rfl (run_panicop rfl rfl) ?_
    change ∀ w, CC F Γ22 [[(g3, .cells #[.slice A0_31 o7.1.b.length c0_31, .int .i64 o7.1.at_] 194 (0, 0))], [(g2, .cells #[.int .i64 0] 28 (0, 0))], [(g1, .cells #[.string o7.2.key, .slice A28 o7.2.vers.length c29] 45 (0, 0))]] w → _
    obtain ⟨z41, hz42, h⟩ := bnd h
    refine door_panic (rs := [.cell 6 45, .cell 7 28]) (is := [2, 1]) Tryz.results93 (invoke_fn Tryz.call125) rfl rfl (fun w hp => t_code_whole_api_Rec_1 o7.2.key hr30.1 hr30.2.2 hr30.2.1 0 (show I64 0 by decide) hp hz42) ?_
    rintro Γ43 U45 v46 hl44 ⟨A48, c49, rfl, rfl, hr47, hc51, hr50, hr52, _⟩
    change WRt _ _ _ (CC F Γ43 [[(g1, .cells #[.string z41.1, .slice A48 z41.2.1.length c49] 45 (0, 0))], [(g2, .cells #[.int .i64 z41.2.2] 28 (0, 0))], [(g3, .cells #[.slice A0_31 o7.1.b.length c0_31, .int .i64 o7.1.at_] 194 (0, 0))]]) _
    unfold WRt
    intro w hw
    obtain rfl := Option.some.inj h
    subst hF
    exact ⟨[.agg #[.string z41.1, .slice A48 z41.2.1.length c49], .int .i64 z41.2.2], (rr_agg (i := 0) (us := [.string z41.1, .slice A48 z41.2.1.length c49]) hw rfl Tryz.isAgg45 Tryz.sizeOf45 (by kernel_rfl) rfl (rr_cell (i := 1) hw rfl Tryz.isAgg28 (by kernel_rfl) rfl rr_nil)), end_e (is := []) (by kernel_rfl) hw rfl ⟨A48, c49, rfl, rfl, ⟨hr47, ⟨hc51, hr50⟩⟩, hr52, trivial⟩⟩
   ·
    refine WC.skip ?_
    intro w hw
    have hw := hw.fold (is := [0]) rfl hrow_31
    exact ⟨h, (sl_ (by kernel_rfl)), hw, trivial⟩
  ·
   rintro σ w ⟨h, hsl, hw, -⟩
   refine Wpt.slots hsl ?_
   refine WC.here (C := CC F Γ22 [row26, [(g2, .cells #[.int .i64 0] 28 (0, 0))], [(g1, .cells #[.string o7.2.key, .slice A28 o7.2.vers.length c29] 45 (0, 0))]]) ?_ hw
   clear hw hsl
   refine WC.rs ?_
   refine vb (q_ldla (i := 2) (vs := [.string o7.2.key, .slice A28 o7.2.vers.length c29]) rfl rfl Tryz.isAgg45 Tryz.sizeOf45 rfl rfl) ?_
   refine e_st (i := 2) (v := .agg #[.string o7.2.key, .slice A28 o7.2.vers.length c29]) (new := #[.string o7.2.key, .slice A28 o7.2.vers.length c29]) rfl Tryz.sizeOf45 rfl rfl rfl rfl (by kernel_rfl) rfl rfl rfl rfl ?_
   refine e_st (i := 1) (v := .int .i64 0) (new := #[.int .i64 0]) rfl Tryz.sizeOf28 rfl rfl rfl rfl (by kernel_rfl) rfl rfl rfl rfl ?_
   refine WR.done ?_
   refine WC.ret ?_
   refine door_ret (rs := [.cell 6 45, .cell 7 28]) Tryz.results93 (invoke_fn Tryz.call125) (idle_125 ((pq g1)) ((pq g2))) ?_
   unfold WRt
   intro w hw
   obtain rfl := Option.some.inj h
   subst hF
   exact ⟨[.agg #[.string o7.2.key, .slice A28 o7.2.vers.length c29], .int .i64 0], (rr_agg (i := 2) (us := [.string o7.2.key, .slice A28 o7.2.vers.length c29]) hw rfl Tryz.isAgg45 Tryz.sizeOf45 (by kernel_rfl) rfl (rr_cell (i := 1) hw rfl Tryz.isAgg28 (by kernel_rfl) rfl rr_nil)), end_e (is := []) (by kernel_rfl) hw rfl ⟨A28, c29, rfl, rfl, hr30, (show I64 0 by decide), trivial⟩⟩
abbrev r_code_reader_text_l1 (Bo : Gh) (gr_ : Nat) (er_ : Nat) (r : Ocode_reader × ByteArray) (U : List Rowb) (Γ : Gh) (v : Value) : Prop := ∃ (rowr_' : Rowb), v = .string r.2 ∧ U = [rowr_'] ∧ Ocode_reader.ob er_ Bo gr_ rowr_' r.1 ∧ r.2.size ≤ lim ∧ True
theorem t_code_reader_text_l1 {Γ : Gh} {w0 : World} {Bo : Gh} {gr_ er_ : Nat} {rowr_ : Rowb} {r_ : Ocode_reader} (hr_ : Ocode_reader.ob er_ Bo gr_ rowr_ r_) (hp : Pre [rowr_] Γ w0) (hpO : Pre [rowr_] Bo w0) {r : Option (Ocode_reader × ByteArray)} (h : m_code_reader_text r_ = some r) : Calls Tryz.prog 126 #[(pq gr_)] w0 (OutcT [{ v := (.iface 192 (.agg #[])), recovered := false }] Γ [rowr_] w0 (fun r => r_code_reader_text_l1 Bo gr_ er_ r) r) := by
 refine calls_of (N := 33) (rs := [2]) (args := [(pq gr_)]) Tryz.func126 rfl Tryz.ntmps126 Tryz.results126 rfl ?_
 obtain ⟨F, hF⟩ : ∃ F : Fm, F = ⟨ids [rowr_], w0, Γ⟩ := ⟨_, rfl⟩
 refine WC.here (C := CC F Γ [rowr_]) ?_ (hF ▸ hp.start)
 have hO : Lent F Bo := hF ▸ Lent.start hpO
 refine WC.rs ?_
 refine as_ (v := .string ByteArray.empty) ?_
 refine WR.done ?_
 refine WC.seq ?_
 have hq := hr_
 obtain ⟨A0_1, c0_1, hrow_1, ho0_1, ho1_1, ho2_1, -⟩ := hq
 intro w hw; have hw := hw.unfold (i := 0) rfl hrow_1
 refine WC.here (C := CC F Γ [[(gr_, .cells #[.slice A0_1 r_.b.length c0_1, .int .i64 r_.at_] er_ (0, 0))]]) ?_ hw
 clear hw
 refine WC.dr (by kernel_rfl) (by kernel_rfl) (fun w hw => hw.drawn _) ?_
 refine wa rfl rfl rfl (q_move (v := (pq gr_)) rfl (by kernel_rfl)) ?_
 refine wa rfl rfl rfl (q_nil (A := some ⟨gr_, 0, none⟩) rfl rfl rfl) ?_
 refine wa rfl rfl rfl (q_fl 0 fld_194_0 rfl rfl rfl) ?_
 refine wa rfl rfl rfl (q_ldl (i := 0) (v := .slice A0_1 r_.b.length c0_1) rfl rfl Tryz.isAgg77 rfl rfl) ?_
 refine wa rfl rfl rfl (q_move (v := (pq gr_)) rfl (by kernel_rfl)) ?_
 refine wa rfl rfl rfl (q_nil (A := some ⟨gr_, 0, none⟩) rfl rfl rfl) ?_
 refine wa rfl rfl rfl (q_fl 1 fld_194_1 rfl rfl rfl) ?_
 refine wa rfl rfl rfl (q_ldl (i := 0) (v := .int .i64 r_.at_) rfl rfl Tryz.isAgg3 rfl rfl) ?_
 refine wa rfl rfl rfl (q_move (v := (pq gr_)) rfl (by kernel_rfl)) ?_
 refine wa rfl rfl rfl (q_nil (A := some ⟨gr_, 0, none⟩) rfl rfl rfl) ?_
 refine wa rfl rfl rfl (q_fl 0 fld_194_0 rfl rfl rfl) ?_
 refine wa rfl rfl rfl (q_ldl (i := 0) (v := .slice A0_1 r_.b.length c0_1) rfl rfl Tryz.isAgg77 rfl rfl) ?_
 refine wa rfl rfl rfl (q_len_slice rfl Tryz.underlying77 rfl) ?_
 obtain ⟨z2, hz3, h⟩ := bnd h
 refine wc rfl rfl rfl (q_call (call_run Tryz.call162 rfl rfl (by kernel_rfl)) (fun w hw => t_num_Text (Γ := Gh.all w) (ho1_1.mono ((fun w hw => hO.sat hw) w hw).le_all) ho0_1 r_.at_ ho2_1 ((r_.b.length : Nat) : Int) (len_r ho1_1.le) (Sat.all w) hz3)) ?_
 refine wa rfl rfl rfl (q_move (v := .tuple #[.string z2.1, .int .i64 z2.2.1, .int .i64 z2.2.2]) rfl (by kernel_rfl)) ?_
 refine wa rfl rfl rfl (q_extract (v := .string z2.1) rfl rfl rfl) ?_
 refine wa rfl rfl rfl (q_extract (v := .int .i64 z2.2.1) rfl rfl rfl) ?_
 refine wa rfl rfl rfl (q_extract (v := .int .i64 z2.2.2) rfl rfl rfl) ?_
 refine wa rfl rfl rfl (q_assign (v := .string z2.1) rfl (by kernel_rfl)) ?_
 refine wa rfl rfl rfl (q_assign (v := .int .i64 z2.2.1) rfl (by kernel_rfl)) ?_
 refine wa rfl rfl rfl (q_assign (v := .int .i64 z2.2.2) rfl (by kernel_rfl)) ?_
 refine WQ.nil ?_
 change WC _ _ _ _ _ _
 intro w hw; have hw := hw.fold (is := [0]) rfl hrow_1
 refine WC.here (C := CC F Γ [rowr_]) ?_ hw
 clear hw
 refine WC.cut (fun σ w => m_code_reader_text_j1 r_ z2  = some r ∧ slots σ [(0, (pq gr_)), (3, .string z2.1), (4, .int .i64 z2.2.1)] ∧ CC F Γ [rowr_] w ∧ True) ?_ ?_
 ·
  refine WC.rs ?_
  refine mv (v := .int .i64 z2.2.2) ?_
  refine vb (q_neq rfl rfl rfl) ?_
  refine WR.done ?_
  refine WC.cif h (by kernel_rfl) (fun hb5 h => ?_) (fun hb5 h => ?_)
  ·
   refine WC.region ?_
   refine vb (q_build (v := .agg #[]) rfl (fun w => by kernel_rfl)) ?_
   refine vb (q_iface rfl rfl (fun w => mkif Tryz.underlying192 w)) ?_
   refine e_panic (v := .iface 192 (.agg #[])) rfl (run_panicop rfl rfl) ?_
   intro w hw
   obtain rfl := Option.some.inj h
   subst hF
   first | exact end_t hw | exact fun _ => end_t hw
  ·
   refine WC.skip ?_
   intro w hw
   exact ⟨h, (sl_ (by kernel_rfl)), hw, trivial⟩
 ·
  rintro σ w ⟨h, hsl, hw, -⟩
  refine Wpt.slots hsl ?_
  refine WC.here (C := CC F Γ [rowr_]) ?_ hw
  clear hw hsl
  refine WC.rs ?_
  refine mv (v := (pq gr_)) ?_
  refine mv (v := .int .i64 z2.2.1) ?_
  refine vb (q_nil (A := some ⟨gr_, 0, none⟩) rfl rfl rfl) ?_
  refine vb (q_fl 1 fld_194_1 rfl rfl rfl) ?_
  have hq := hr_
  obtain ⟨A0_8, c0_8, hrow_8, ho0_8, ho1_8, ho2_8, -⟩ := hq
  intro w hw; have hw := hw.unfold (i := 0) rfl hrow_8
  refine WR.here (C := CC F Γ [[(gr_, .cells #[.slice A0_8 r_.b.length c0_8, .int .i64 r_.at_] er_ (0, 0))]]) ?_ hw
  clear hw
  refine e_st (i := 0) (v := .int .i64 z2.2.1) (new := #[.slice A0_8 r_.b.length c0_8, .int .i64 z2.2.1]) rfl Tryz.sizeOf3 rfl rfl rfl rfl (by kernel_rfl) rfl rfl rfl rfl ?_
  refine WR.done ?_
  refine WC.rs ?_
  refine mv (v := .string z2.1) ?_
  refine as_ (v := .string z2.1) ?_
  refine WR.done ?_
  refine WC.ret ?_
  intro w hw
  obtain ⟨hk10, h⟩ := chk_some h
  obtain ⟨row_9, hrow_9, hob_9⟩ : ∃ rw : Rowb, rw = ([[(gr_, .cells #[.slice A0_8 r_.b.length c0_8, .int .i64 z2.2.1] er_ (0, 0))]] : List Rowb).flatten ∧ Ocode_reader.ob er_ Bo gr_ rw (⟨r_.b, z2.2.1⟩ : Ocode_reader) := ⟨_, rfl, A0_8, c0_8, rfl, ho0_8, ho1_8, (i64b_of hk10), trivial⟩
  have hw := hw.fold (is := [0]) rfl hrow_9
  obtain ⟨hk11, h⟩ := chk_some h
  obtain rfl := Option.some.inj h
  subst hF
  exact end_e (is := [0]) (by kernel_rfl) hw rfl ⟨row_9, rfl, rfl, hob_9, (of_decide_eq_true hk11), trivial⟩
abbrev r_code_reader_num_l1 (Bo : Gh) (gr_ : Nat) (er_ : Nat) (r : Ocode_reader × Int) (U : List Rowb) (Γ : Gh) (v : Value) : Prop := ∃ (rowr_' : Rowb), v = .int .i64 r.2 ∧ U = [rowr_'] ∧ Ocode_reader.ob er_ Bo gr_ rowr_' r.1 ∧ I64 r.2 ∧ True
theorem t_code_reader_num_l1 {Γ : Gh} {w0 : World} {Bo : Gh} {gr_ er_ : Nat} {rowr_ : Rowb} {r_ : Ocode_reader} (hr_ : Ocode_reader.ob er_ Bo gr_ rowr_ r_) (hp : Pre [rowr_] Γ w0) (hpO : Pre [rowr_] Bo w0) {r : Option (Ocode_reader × Int)} (h : m_code_reader_num r_ = some r) : Calls Tryz.prog 163 #[(pq gr_)] w0 (OutcT [{ v := (.iface 192 (.agg #[])), recovered := false }] Γ [rowr_] w0 (fun r => r_code_reader_num_l1 Bo gr_ er_ r) r) := by
 refine calls_of (N := 28) (rs := [2]) (args := [(pq gr_)]) Tryz.func163 rfl Tryz.ntmps163 Tryz.results163 rfl ?_
 obtain ⟨F, hF⟩ : ∃ F : Fm, F = ⟨ids [rowr_], w0, Γ⟩ := ⟨_, rfl⟩
 refine WC.here (C := CC F Γ [rowr_]) ?_ (hF ▸ hp.start)
 have hO : Lent F Bo := hF ▸ Lent.start hpO
 refine WC.rs ?_
 refine as_ (v := .int .i64 0) ?_
 refine WR.done ?_
 refine WC.seq ?_
 have hq := hr_
 obtain ⟨A0_1, c0_1, hrow_1, ho0_1, ho1_1, ho2_1, -⟩ := hq
 intro w hw; have hw := hw.unfold (i := 0) rfl hrow_1
 refine WC.here (C := CC F Γ [[(gr_, .cells #[.slice A0_1 r_.b.length c0_1, .int .i64 r_.at_] er_ (0, 0))]]) ?_ hw
 clear hw
 refine WC.dr (by kernel_rfl) (by kernel_rfl) (fun w hw => hw.drawn _) ?_
 refine wa rfl rfl rfl (q_move (v := (pq gr_)) rfl (by kernel_rfl)) ?_
 refine wa rfl rfl rfl (q_nil (A := some ⟨gr_, 0, none⟩) rfl rfl rfl) ?_
 refine wa rfl rfl rfl (q_fl 0 fld_194_0 rfl rfl rfl) ?_
 refine wa rfl rfl rfl (q_ldl (i := 0) (v := .slice A0_1 r_.b.length c0_1) rfl rfl Tryz.isAgg77 rfl rfl) ?_
 refine wa rfl rfl rfl (q_move (v := (pq gr_)) rfl (by kernel_rfl)) ?_
 refine wa rfl rfl rfl (q_nil (A := some ⟨gr_, 0, none⟩) rfl rfl rfl) ?_
 refine wa rfl rfl rfl (q_fl 1 fld_194_1 rfl rfl rfl) ?_
 refine wa rfl rfl rfl (q_ldl (i := 0) (v := .int .i64 r_.at_) rfl rfl Tryz.isAgg3 rfl rfl) ?_
 obtain ⟨z2, hz3, h⟩ := bnd h
 refine wc rfl rfl rfl (q_call (call_run Tryz.call120 rfl rfl (by kernel_rfl)) (fun w hw => t_num_Num (Γ := Gh.all w) (ho1_1.mono ((fun w hw => hO.sat hw) w hw).le_all) ho0_1 r_.at_ ho2_1 (Sat.all w) hz3)) ?_
 refine wa rfl rfl rfl (q_move (v := .tuple #[.int .i64 z2.1, .int .i64 z2.2.1, .int .i64 z2.2.2]) rfl (by kernel_rfl)) ?_
 refine wa rfl rfl rfl (q_extract (v := .int .i64 z2.1) rfl rfl rfl) ?_
 refine wa rfl rfl rfl (q_extract (v := .int .i64 z2.2.1) rfl rfl rfl) ?_
 refine wa rfl rfl rfl (q_extract (v := .int .i64 z2.2.2) rfl rfl rfl) ?_
 refine wa rfl rfl rfl (q_assign (v := .int .i64 z2.1) rfl (by kernel_rfl)) ?_
 refine wa rfl rfl rfl (q_assign (v := .int .i64 z2.2.1) rfl (by kernel_rfl)) ?_
 refine wa rfl rfl rfl (q_assign (v := .int .i64 z2.2.2) rfl (by kernel_rfl)) ?_
 refine WQ.nil ?_
 change WC _ _ _ _ _ _
 intro w hw; have hw := hw.fold (is := [0]) rfl hrow_1
 refine WC.here (C := CC F Γ [rowr_]) ?_ hw
 clear hw
 refine WC.cut (fun σ w => m_code_reader_num_j1 r_ z2  = some r ∧ slots σ [(0, (pq gr_)), (3, .int .i64 z2.1), (4, .int .i64 z2.2.1)] ∧ CC F Γ [rowr_] w ∧ True) ?_ ?_
 ·
  refine WC.rs ?_
  refine mv (v := .int .i64 z2.2.2) ?_
  refine vb (q_neq rfl rfl rfl) ?_
  refine WR.done ?_
  refine WC.cif h (by kernel_rfl) (fun hb5 h => ?_) (fun hb5 h => ?_)
  ·
   refine WC.region ?_
   refine vb (q_build (v := .agg #[]) rfl (fun w => by kernel_rfl)) ?_
   refine vb (q_iface rfl rfl (fun w => mkif Tryz.underlying192 w)) ?_
   refine e_panic (v := .iface 192 (.agg #[])) rfl (run_panicop rfl rfl) ?_
   intro w hw
   obtain rfl := Option.some.inj h
   subst hF
   first | exact end_t hw | exact fun _ => end_t hw
  ·
   refine WC.skip ?_
   intro w hw
   exact ⟨h, (sl_ (by kernel_rfl)), hw, trivial⟩
 ·
  rintro σ w ⟨h, hsl, hw, -⟩
  refine Wpt.slots hsl ?_
  refine WC.here (C := CC F Γ [rowr_]) ?_ hw
  clear hw hsl
  refine WC.rs ?_
  refine mv (v := (pq gr_)) ?_
  refine mv (v := .int .i64 z2.2.1) ?_
  refine vb (q_nil (A := some ⟨gr_, 0, none⟩) rfl rfl rfl) ?_
  refine vb (q_fl 1 fld_194_1 rfl rfl rfl) ?_
  have hq := hr_
  obtain ⟨A0_8, c0_8, hrow_8, ho0_8, ho1_8, ho2_8, -⟩ := hq
  intro w hw; have hw := hw.unfold (i := 0) rfl hrow_8
  refine WR.here (C := CC F Γ [[(gr_, .cells #[.slice A0_8 r_.b.length c0_8, .int .i64 r_.at_] er_ (0, 0))]]) ?_ hw
  clear hw
  refine e_st (i := 0) (v := .int .i64 z2.2.1) (new := #[.slice A0_8 r_.b.length c0_8, .int .i64 z2.2.1]) rfl Tryz.sizeOf3 rfl rfl rfl rfl (by kernel_rfl) rfl rfl rfl rfl ?_
  refine WR.done ?_
  refine WC.rs ?_
  refine mv (v := .int .i64 z2.1) ?_
  refine as_ (v := .int .i64 z2.1) ?_
  refine WR.done ?_
  refine WC.ret ?_
  intro w hw
  obtain ⟨hk10, h⟩ := chk_some h
  obtain ⟨row_9, hrow_9, hob_9⟩ : ∃ rw : Rowb, rw = ([[(gr_, .cells #[.slice A0_8 r_.b.length c0_8, .int .i64 z2.2.1] er_ (0, 0))]] : List Rowb).flatten ∧ Ocode_reader.ob er_ Bo gr_ rw (⟨r_.b, z2.2.1⟩ : Ocode_reader) := ⟨_, rfl, A0_8, c0_8, rfl, ho0_8, ho1_8, (i64b_of hk10), trivial⟩
  have hw := hw.fold (is := [0]) rfl hrow_9
  obtain ⟨hk11, h⟩ := chk_some h
  obtain rfl := Option.some.inj h
  subst hF
  exact end_e (is := [0]) (by kernel_rfl) hw rfl ⟨row_9, rfl, rfl, hob_9, (i64b_of hk11), trivial⟩
abbrev r_code_reader_int_l1 (Bo : Gh) (gr_ : Nat) (er_ : Nat) (r : Ocode_reader × Int) (U : List Rowb) (Γ : Gh) (v : Value) : Prop := ∃ (rowr_' : Rowb), v = .int .i64 r.2 ∧ U = [rowr_'] ∧ Ocode_reader.ob er_ Bo gr_ rowr_' r.1 ∧ I64 r.2 ∧ True
theorem t_code_reader_int_l1 {Γ : Gh} {w0 : World} {Bo : Gh} {gr_ er_ : Nat} {rowr_ : Rowb} {r_ : Ocode_reader} (hr_ : Ocode_reader.ob er_ Bo gr_ rowr_ r_) (hp : Pre [rowr_] Γ w0) (hpO : Pre [rowr_] Bo w0) {r : Option (Ocode_reader × Int)} (h : m_code_reader_int r_ = some r) : Calls Tryz.prog 164 #[(pq gr_)] w0 (OutcT [{ v := (.iface 192 (.agg #[])), recovered := false }] Γ [rowr_] w0 (fun r => r_code_reader_int_l1 Bo gr_ er_ r) r) := by
 refine calls_of (N := 5) (rs := [2]) (args := [(pq gr_)]) Tryz.func164 rfl Tryz.ntmps164 Tryz.results164 rfl ?_
 obtain ⟨F, hF⟩ : ∃ F : Fm, F = ⟨ids [rowr_], w0, Γ⟩ := ⟨_, rfl⟩
 refine WC.here (C := CC F Γ [rowr_]) ?_ (hF ▸ hp.start)
 have hO : Lent F Bo := hF ▸ Lent.start hpO
 refine WC.rs ?_
 refine as_ (v := .int .i64 0) ?_
 refine WR.done ?_
 refine WC.rs ?_
 refine mv (v := (pq gr_)) ?_
 obtain ⟨z1, hz2, h⟩ := bnd h
 rcases z1 with _ | o3
 ·
  have h := optm_n rfl h
  refine e_callNW (is := [0]) rfl (call_run Tryz.call163 rfl rfl (by kernel_rfl)) rfl (fun w hw hp => t_code_reader_num_l1 hr_ hp (hO.pre (is := [0]) hw rfl) hz2) ?_
  intro Γ4 hl5
  intro w hw
  obtain rfl := Option.some.inj h
  subst hF
  first | exact end_t hw | exact fun _ => end_t hw
 ·
  have h := optm_s rfl h
  refine e_callW (is := [0]) rfl rfl (call_run Tryz.call163 rfl rfl (by kernel_rfl)) rfl (fun w hw hp => t_code_reader_num_l1 hr_ hp (hO.pre (is := [0]) hw rfl) hz2) ?_
  rintro Γ6 U8 v9 hl7 ⟨row10, rfl, rfl, hr11, hr12, _⟩
  change WR _ _ _ (CC F Γ6 [row10]) _ _ (upd _ 4 (.int .i64 o3.2))
  refine as_ (v := .int .i64 o3.2) ?_
  refine WR.done ?_
  refine WC.ret ?_
  intro w hw
  obtain rfl := Option.some.inj h
  subst hF
  exact end_e (is := [0]) (by kernel_rfl) hw rfl ⟨row10, rfl, rfl, hr11, hr12, trivial⟩
abbrev r_code_reader_span_l1 (Bo : Gh) (gr_ : Nat) (er_ : Nat) (r : Ocode_reader × Span) (U : List Rowb) (Γ : Gh) (v : Value) : Prop := ∃ (rowr_' : Rowb), v = .agg #[.int .i64 r.2.s, .int .i64 r.2.f, .int .i64 r.2.t] ∧ U = [rowr_'] ∧ Ocode_reader.ob er_ Bo gr_ rowr_' r.1 ∧ Span.fits Γ  r.2 ∧ True
theorem t_code_reader_span_l1 {Γ : Gh} {w0 : World} {Bo : Gh} {gr_ er_ : Nat} {rowr_ : Rowb} {r_ : Ocode_reader} (hr_ : Ocode_reader.ob er_ Bo gr_ rowr_ r_) (hp : Pre [rowr_] Γ w0) (hpO : Pre [rowr_] Bo w0) {r : Option (Ocode_reader × Span)} (h : m_code_reader_span r_ = some r) : Calls Tryz.prog 166 #[(pq gr_)] w0 (OutcT [{ v := (.iface 192 (.agg #[])), recovered := false }] Γ [rowr_] w0 (fun r => r_code_reader_span_l1 Bo gr_ er_ r) r) := by
 refine calls_of_r (N := 24) (rs := [.cell 2 93]) (args := [(pq gr_)]) Tryz.func166 rfl Tryz.ntmps166 Tryz.results166 rfl ?_
 obtain ⟨F, hF⟩ : ∃ F : Fm, F = ⟨ids [rowr_], w0, Γ⟩ := ⟨_, rfl⟩
 refine WC.here (C := CC F Γ [rowr_]) ?_ (hF ▸ hp.start)
 have hO : Lent F Bo := hF ▸ Lent.start hpO
 refine WC.rs ?_
 refine e_alloc Tryz.zeroValue93 rfl rfl rfl rfl ?_
 intro g1
 refine WR.done ?_
 refine WC.rs ?_
 refine mv (v := (pq gr_)) ?_
 obtain ⟨z2, hz3, h⟩ := bnd h
 rcases z2 with _ | o4
 ·
  have h := optm_n rfl h
  refine e_callNW (is := [1]) rfl (call_run Tryz.call164 rfl rfl (by kernel_rfl)) rfl (fun w hw hp => t_code_reader_int_l1 hr_ hp (hO.pre (is := [1]) hw rfl) hz3) ?_
  intro Γ5 hl6
  intro w hw
  obtain rfl := Option.some.inj h
  subst hF
  first | exact end_t hw | exact fun _ => end_t hw
 ·
  have h := optm_s rfl h
  refine e_callW (is := [1]) rfl rfl (call_run Tryz.call164 rfl rfl (by kernel_rfl)) rfl (fun w hw hp => t_code_reader_int_l1 hr_ hp (hO.pre (is := [1]) hw rfl) hz3) ?_
  rintro Γ7 U9 v10 hl8 ⟨row11, rfl, rfl, hr12, hr13, _⟩
  change WR _ _ _ (CC F Γ7 [row11, [(g1, .cells #[.int .i64 0, .int .i64 0, .int .i64 0] 93 (0, 0))]]) _ _ (upd _ 5 (.int .i64 o4.2))
  refine vb (q_build' (v := .agg #[.int .i64 o4.2, .int .i64 0, .int .i64 0]) rfl (bargs1 rfl) (fun w => by kernel_rfl)) ?_
  refine e_alloc Tryz.zeroValue93 rfl rfl rfl rfl ?_
  intro g14
  refine e_st (i := 0) (v := .agg #[.int .i64 o4.2, .int .i64 0, .int .i64 0]) (new := #[.int .i64 o4.2, .int .i64 0, .int .i64 0]) rfl Tryz.sizeOf93 rfl rfl rfl rfl (by kernel_rfl) rfl rfl rfl rfl ?_
  refine WR.done ?_
  refine WC.rs ?_
  refine mv (v := (pq gr_)) ?_
  obtain ⟨z15, hz16, h⟩ := bnd h
  rcases z15 with _ | o17
  ·
   have h := optm_n rfl h
   refine e_callNW (is := [1]) rfl (call_run Tryz.call163 rfl rfl (by kernel_rfl)) rfl (fun w hw hp => t_code_reader_num_l1 hr12 hp (hO.pre (is := [1]) hw rfl) hz16) ?_
   intro Γ18 hl19
   intro w hw
   obtain rfl := Option.some.inj h
   subst hF
   first | exact end_t hw | exact fun _ => end_t hw
  ·
   have h := optm_s rfl h
   refine e_callW (is := [1]) rfl rfl (call_run Tryz.call163 rfl rfl (by kernel_rfl)) rfl (fun w hw hp => t_code_reader_num_l1 hr12 hp (hO.pre (is := [1]) hw rfl) hz16) ?_
   rintro Γ20 U22 v23 hl21 ⟨row24, rfl, rfl, hr25, hr26, _⟩
   change WR _ _ _ (CC F Γ20 [row24, [(g14, .cells #[.int .i64 o4.2, .int .i64 0, .int .i64 0] 93 (0, 0))], [(g1, .cells #[.int .i64 0, .int .i64 0, .int .i64 0] 93 (0, 0))]]) _ _ (upd _ 8 (.int .i64 o17.2))
   refine vb (q_fl 1 fld_93_1 rfl rfl rfl) ?_
   refine e_st (i := 1) (v := .int .i64 o17.2) (new := #[.int .i64 o4.2, .int .i64 o17.2, .int .i64 0]) rfl Tryz.sizeOf2 rfl rfl rfl rfl (by kernel_rfl) rfl rfl rfl rfl ?_
   refine WR.done ?_
   refine WC.cut (fun σ w => ∃ (x29 : Span), ∃ (o31 : Ocode_reader), ∃ (Γ27 : Gh), ∃ (row32 : Rowb), m_code_reader_span_j1 x29 o31 = some r ∧ slots σ [(2, (pq g1)), (3, (pq g14))] ∧ CC F Γ27 [row32, [(g14, .cells #[.int .i64 x29.s, .int .i64 x29.f, .int .i64 x29.t] 93 (0, 0))], [(g1, .cells #[.int .i64 0, .int .i64 0, .int .i64 0] 93 (0, 0))]] w ∧ Gh.le Γ20 Γ27 ∧ Span.fits Γ27  x29 ∧ Ocode_reader.ob er_ Bo gr_ row32 o31 ∧ True) ?_ ?_
   ·
    intro w hw; have h034 := hw.le
    refine WC.here (C := CC F Γ20 [row24, [(g14, .cells #[.int .i64 o4.2, .int .i64 o17.2, .int .i64 0] 93 (0, 0))], [(g1, .cells #[.int .i64 0, .int .i64 0, .int .i64 0] 93 (0, 0))]]) ?_ hw; clear hw
    refine WC.held (CC F Γ20 [[(g1, .cells #[.int .i64 0, .int .i64 0, .int .i64 0] 93 (0, 0))]]) (by kernel_rfl) (fun w hw => hw.drawn _) ?_
    change WH _ _ _ _ (CC F Γ20 [row24, [(g14, .cells #[.int .i64 o4.2, .int .i64 o17.2, .int .i64 0] 93 (0, 0))], [(g1, .cells #[.int .i64 0, .int .i64 0, .int .i64 0] 93 (0, 0))]]) _ 7 #[false, false, false, false, false, false, false] _
    refine hu 0 rfl (bk_ (Gh.refl _) h034 (.cons _ (.cons _ (.cons_cons _ .slnil)))) (q_fl 1 fld_93_1 rfl rfl rfl) ?_
    refine hu 2 rfl (bk_ (Gh.refl _) h034 (.cons _ (.cons _ (.cons_cons _ .slnil)))) (q_move (v := (pq gr_)) rfl (by kernel_rfl)) ?_
    obtain ⟨z35, hz36, h⟩ := bnd h
    refine WH.each (l := [1, 3]) (by kernel_rfl) (by simp) ?_
    intro i hi; simp only [List.mem_cons, List.not_mem_nil, or_false] at hi
    rcases hi with rfl | rfl
    ·
     refine ⟨_, rfl, ?_⟩
     refine vb (q_ldl (i := 1) (v := .int .i64 o17.2) rfl rfl Tryz.isAgg2 rfl rfl) ?_
     refine WR.nil ?_
     refine WH.next (bk_ (Gh.refl _) h034 (.cons _ (.cons _ (.cons_cons _ .slnil)))) ?_
     refine WH.lone (i := 3) (by kernel_rfl) rfl ?_
     rcases z35 with _ | o37
     ·
      have h := optm_n rfl h
      refine e_callNW (is := [0]) rfl (call_run Tryz.call163 rfl rfl (by kernel_rfl)) rfl (fun w hw hp => t_code_reader_num_l1 hr25 hp (hO.pre (is := [0]) hw rfl) hz36) ?_
      intro Γ38 hl39
      intro w hw
      obtain rfl := Option.some.inj h
      subst hF
      first | exact end_t hw | exact fun _ => end_t hw
     ·
      have h := optm_s rfl h
      refine e_callW (is := [0]) rfl rfl (call_run Tryz.call163 rfl rfl (by kernel_rfl)) rfl (fun w hw hp => t_code_reader_num_l1 hr25 hp (hO.pre (is := [0]) hw rfl) hz36) ?_
      rintro Γ40 U42 v43 hl41 ⟨row44, rfl, rfl, hr45, hr46, _⟩
      change WR _ _ _ (CC F Γ40 [row44, [(g14, .cells #[.int .i64 o4.2, .int .i64 o17.2, .int .i64 0] 93 (0, 0))], [(g1, .cells #[.int .i64 0, .int .i64 0, .int .i64 0] 93 (0, 0))]]) _ _ (upd _ 13 (.int .i64 o37.2))
      refine WR.nil ?_
      refine WH.next (bk_ hl41 h034 (.cons _ (.cons _ (.cons_cons _ .slnil)))) ?_
      refine hu 4 rfl (bk_ hl41 h034 (.cons _ (.cons _ (.cons_cons _ .slnil)))) (q_add rfl rfl rfl) ?_
      refine hu 5 rfl (bk_ hl41 h034 (.cons _ (.cons _ (.cons_cons _ .slnil)))) (q_fl 2 fld_93_2 rfl rfl rfl) ?_
      refine WH.lone (i := 6) (by kernel_rfl) rfl ?_
      refine e_st (i := 1) (v := .int .i64 (w64 (o17.2 + o37.2))) (new := #[.int .i64 o4.2, .int .i64 o17.2, .int .i64 (w64 (o17.2 + o37.2))]) rfl Tryz.sizeOf2 rfl rfl rfl rfl (by kernel_rfl) rfl rfl rfl rfl ?_
      refine WR.nil ?_
      refine WH.next (bk_ hl41 h034 (.cons _ (.cons _ (.cons_cons _ .slnil)))) ?_
      refine WH.done (by kernel_rfl) ?_
      intro w hw
      exact ⟨(⟨o4.2, o17.2, (w64 (o17.2 + o37.2))⟩ : Span), o37.1, Γ40, row44, h, (sl_ (by kernel_rfl)), hw, hl41, ⟨hr13, hr26, (w64_r _)⟩, hr45, trivial⟩
    ·
     refine ⟨_, rfl, ?_⟩
     rcases z35 with _ | o37
     ·
      have h := optm_n rfl h
      refine e_callNW (is := [0]) rfl (call_run Tryz.call163 rfl rfl (by kernel_rfl)) rfl (fun w hw hp => t_code_reader_num_l1 hr25 hp (hO.pre (is := [0]) hw rfl) hz36) ?_
      intro Γ38 hl39
      intro w hw
      obtain rfl := Option.some.inj h
      subst hF
      first | exact end_t hw | exact fun _ => end_t hw
     ·
      have h := optm_s rfl h
      refine e_callW (is := [0]) rfl rfl (call_run Tryz.call163 rfl rfl (by kernel_rfl)) rfl (fun w hw hp => t_code_reader_num_l1 hr25 hp (hO.pre (is := [0]) hw rfl) hz36) ?_
      rintro Γ40 U42 v43 hl41 ⟨row44, rfl, rfl, hr45, hr46, _⟩
      change WR _ _ _ (CC F Γ40 [row44, [(g14, .cells #[.int .i64 o4.2, .int .i64 o17.2, .int .i64 0] 93 (0, 0))], [(g1, .cells #[.int .i64 0, .int .i64 0, .int .i64 0] 93 (0, 0))]]) _ _ (upd _ 13 (.int .i64 o37.2))
      refine WR.nil ?_
      refine WH.next (bk_ hl41 h034 (.cons _ (.cons _ (.cons_cons _ .slnil)))) ?_
      refine WH.lone (i := 1) (by kernel_rfl) rfl ?_
      refine vb (q_ldl (i := 1) (v := .int .i64 o17.2) rfl rfl Tryz.isAgg2 rfl rfl) ?_
      refine WR.nil ?_
      refine WH.next (bk_ hl41 h034 (.cons _ (.cons _ (.cons_cons _ .slnil)))) ?_
      refine hu 4 rfl (bk_ hl41 h034 (.cons _ (.cons _ (.cons_cons _ .slnil)))) (q_add rfl rfl rfl) ?_
      refine hu 5 rfl (bk_ hl41 h034 (.cons _ (.cons _ (.cons_cons _ .slnil)))) (q_fl 2 fld_93_2 rfl rfl rfl) ?_
      refine WH.lone (i := 6) (by kernel_rfl) rfl ?_
      refine e_st (i := 1) (v := .int .i64 (w64 (o17.2 + o37.2))) (new := #[.int .i64 o4.2, .int .i64 o17.2, .int .i64 (w64 (o17.2 + o37.2))]) rfl Tryz.sizeOf2 rfl rfl rfl rfl (by kernel_rfl) rfl rfl rfl rfl ?_
      refine WR.nil ?_
      refine WH.next (bk_ hl41 h034 (.cons _ (.cons _ (.cons_cons _ .slnil)))) ?_
      refine WH.done (by kernel_rfl) ?_
      intro w hw
      exact ⟨(⟨o4.2, o17.2, (w64 (o17.2 + o37.2))⟩ : Span), o37.1, Γ40, row44, h, (sl_ (by kernel_rfl)), hw, hl41, ⟨hr13, hr26, (w64_r _)⟩, hr45, trivial⟩
   ·
    rintro σ w ⟨x29, o31, Γ27, row32, h, hsl, hw, hl28, hf30, ho33, -⟩
    refine Wpt.slots hsl ?_
    refine WC.here (C := CC F Γ27 [row32, [(g14, .cells #[.int .i64 x29.s, .int .i64 x29.f, .int .i64 x29.t] 93 (0, 0))], [(g1, .cells #[.int .i64 0, .int .i64 0, .int .i64 0] 93 (0, 0))]]) ?_ hw
    clear hw hsl
    refine WC.cut (fun σ w => m_code_reader_span_j2 x29 o31  = some r ∧ slots σ [(2, (pq g1)), (3, (pq g14))] ∧ CC F Γ27 [row32, [(g14, .cells #[.int .i64 x29.s, .int .i64 x29.f, .int .i64 x29.t] 93 (0, 0))], [(g1, .cells #[.int .i64 0, .int .i64 0, .int .i64 0] 93 (0, 0))]] w ∧ True) ?_ ?_
    ·
     refine WC.rs ?_
     refine vb (q_fl 2 fld_93_2 rfl rfl rfl) ?_
     refine vb (q_ldl (i := 1) (v := .int .i64 x29.t) rfl rfl Tryz.isAgg2 rfl rfl) ?_
     refine vb (q_fl 1 fld_93_1 rfl rfl rfl) ?_
     refine vb (q_ldl (i := 1) (v := .int .i64 x29.f) rfl rfl Tryz.isAgg2 rfl rfl) ?_
     refine vb (q_lss rfl rfl rfl) ?_
     refine WR.done ?_
     refine WC.cif h (by kernel_rfl) (fun hb47 h => ?_) (fun hb47 h => ?_)
     ·
      refine WC.region ?_
      refine vb (q_build (v := .agg #[]) rfl (fun w => by kernel_rfl)) ?_
      refine vb (q_iface rfl rfl (fun w => mkif Tryz.underlying192 w)) ?_
      refine e_panic (v := .iface 192 (.agg #[])) rfl (run_panicop rfl rfl) ?_
      intro w hw
      obtain rfl := Option.some.inj h
      subst hF
      first | exact end_t hw | exact fun _ => end_t hw
     ·
      refine WC.skip ?_
      intro w hw
      exact ⟨h, (sl_ (by kernel_rfl)), hw, trivial⟩
    ·
     rintro σ w ⟨h, hsl, hw, -⟩
     refine Wpt.slots hsl ?_
     refine WC.here (C := CC F Γ27 [row32, [(g14, .cells #[.int .i64 x29.s, .int .i64 x29.f, .int .i64 x29.t] 93 (0, 0))], [(g1, .cells #[.int .i64 0, .int .i64 0, .int .i64 0] 93 (0, 0))]]) ?_ hw
     clear hw hsl
     refine WC.rs ?_
     refine vb (q_ldla (i := 1) (vs := [.int .i64 x29.s, .int .i64 x29.f, .int .i64 x29.t]) rfl rfl Tryz.isAgg93 Tryz.sizeOf93 rfl rfl) ?_
     refine e_st (i := 2) (v := .agg #[.int .i64 x29.s, .int .i64 x29.f, .int .i64 x29.t]) (new := #[.int .i64 x29.s, .int .i64 x29.f, .int .i64 x29.t]) rfl Tryz.sizeOf93 rfl rfl rfl rfl (by kernel_rfl) rfl rfl rfl rfl ?_
     refine WR.done ?_
     refine WC.ret ?_
     intro w hw
     obtain rfl := Option.some.inj h
     subst hF
     exact ⟨[.agg #[.int .i64 x29.s, .int .i64 x29.f, .int .i64 x29.t]], (rr_agg (i := 2) (us := [.int .i64 x29.s, .int .i64 x29.f, .int .i64 x29.t]) hw rfl Tryz.isAgg93 Tryz.sizeOf93 (by kernel_rfl) rfl rr_nil), end_e (is := [0]) (by kernel_rfl) hw rfl ⟨row32, rfl, rfl, ho33, hf30, trivial⟩⟩
abbrev r_code_take_api_Span_l1 (Bo : Gh) (gr_ : Nat) (er_ : Nat) (r : Ocode_reader × (List Span)) (U : List Rowb) (Γ : Gh) (v : Value) : Prop := ∃ (rowr_' : Rowb), ∃ (A0 : Option Addr), ∃ (c0 : Nat), ∃ (row0 : Rowb), v = .slice A0 r.2.length c0 ∧ U = [rowr_', row0] ∧ Ocode_reader.ob er_ Bo gr_ rowr_' r.1 ∧ Own spanT Γ 93 row0 A0 c0 r.2 ∧ True
theorem t_code_take_api_Span_l1 {Γ : Gh} {w0 : World} {Bo : Gh} {gr_ er_ : Nat} {rowr_ : Rowb} {r_ : Ocode_reader} (hr_ : Ocode_reader.ob er_ Bo gr_ rowr_ r_) (hp : Pre [rowr_] Γ w0) (hpO : Pre [rowr_] Bo w0) {r : Option (Ocode_reader × (List Span))} (h : m_code_take_api_Span r_ = some r) : Calls Tryz.prog 165 #[(pq gr_), .func (.func 166) #[(pq gr_)] #[]] w0 (OutcT [{ v := (.iface 192 (.agg #[])), recovered := false }] Γ [rowr_] w0 (fun r => r_code_take_api_Span_l1 Bo gr_ er_ r) r) := by
 refine calls_of (N := 33) (rs := [4]) (args := [(pq gr_), .func (.func 166) #[(pq gr_)] #[]]) Tryz.func165 rfl Tryz.ntmps165 Tryz.results165 rfl ?_
 obtain ⟨F, hF⟩ : ∃ F : Fm, F = ⟨ids [rowr_], w0, Γ⟩ := ⟨_, rfl⟩
 refine WC.here (C := CC F Γ [rowr_]) ?_ (hF ▸ hp.start)
 have hO : Lent F Bo := hF ▸ Lent.start hpO
 refine WC.rs ?_
 refine as_ (v := .slice none 0 0) ?_
 refine WR.done ?_
 refine WC.rs ?_
 refine mv (v := (pq gr_)) ?_
 obtain ⟨z1, hz2, h⟩ := bnd h
 rcases z1 with _ | o3
 ·
  have h := optm_n rfl h
  refine e_callNW (is := [0]) rfl (call_run Tryz.call163 rfl rfl (by kernel_rfl)) rfl (fun w hw hp => t_code_reader_num_l1 hr_ hp (hO.pre (is := [0]) hw rfl) hz2) ?_
  intro Γ4 hl5
  intro w hw
  obtain rfl := Option.some.inj h
  subst hF
  first | exact end_t hw | exact fun _ => end_t hw
 ·
  have h := optm_s rfl h
  refine e_callW (is := [0]) rfl rfl (call_run Tryz.call163 rfl rfl (by kernel_rfl)) rfl (fun w hw hp => t_code_reader_num_l1 hr_ hp (hO.pre (is := [0]) hw rfl) hz2) ?_
  rintro Γ6 U8 v9 hl7 ⟨row10, rfl, rfl, hr11, hr12, _⟩
  change WR _ _ _ (CC F Γ6 [row10]) _ _ (upd _ 8 (.int .i64 o3.2))
  refine as_ (v := .int .i64 o3.2) ?_
  refine WR.done ?_
  refine WC.cut (fun σ w => m_code_take_api_Span_j1 o3  = some r ∧ slots σ [(1, .func (.func 166) #[(pq gr_)] #[]), (5, .int .i64 o3.2)] ∧ CC F Γ6 [row10] w ∧ True) ?_ ?_
  ·
   refine WC.seq ?_
   have hq := hr11
   obtain ⟨A0_13, c0_13, hrow_13, ho0_13, ho1_13, ho2_13, -⟩ := hq
   intro w hw; have hw := hw.unfold (i := 0) rfl hrow_13
   refine WC.here (C := CC F Γ6 [[(gr_, .cells #[.slice A0_13 o3.1.b.length c0_13, .int .i64 o3.1.at_] er_ (0, 0))]]) ?_ hw
   clear hw
   refine WC.dr (by kernel_rfl) (by kernel_rfl) (fun w hw => hw.drawn _) ?_
   refine wa rfl rfl rfl (q_move (v := .int .i64 o3.2) rfl (by kernel_rfl)) ?_
   refine wa rfl rfl rfl (q_move (v := (pq gr_)) rfl (by kernel_rfl)) ?_
   refine wa rfl rfl rfl (q_nil (A := some ⟨gr_, 0, none⟩) rfl rfl rfl) ?_
   refine wa rfl rfl rfl (q_fl 0 fld_194_0 rfl rfl rfl) ?_
   refine wa rfl rfl rfl (q_ldl (i := 0) (v := .slice A0_13 o3.1.b.length c0_13) rfl rfl Tryz.isAgg77 rfl rfl) ?_
   refine wa rfl rfl rfl (q_len_slice rfl Tryz.underlying77 rfl) ?_
   refine wa rfl rfl rfl (q_move (v := (pq gr_)) rfl (by kernel_rfl)) ?_
   refine wa rfl rfl rfl (q_nil (A := some ⟨gr_, 0, none⟩) rfl rfl rfl) ?_
   refine wa rfl rfl rfl (q_fl 1 fld_194_1 rfl rfl rfl) ?_
   refine wa rfl rfl rfl (q_ldl (i := 0) (v := .int .i64 o3.1.at_) rfl rfl Tryz.isAgg3 rfl rfl) ?_
   refine wa rfl rfl rfl (q_sub rfl rfl rfl) ?_
   refine wa rfl rfl rfl (q_gtr rfl rfl rfl) ?_
   refine WQ.nil ?_
   change WC _ _ _ _ _ _
   refine WC.cif h (by kernel_rfl) (fun hb14 h => ?_) (fun hb14 h => ?_)
   ·
    refine WC.region ?_
    refine vb (q_build (v := .agg #[]) rfl (fun w => by kernel_rfl)) ?_
    refine vb (q_iface rfl rfl (fun w => mkif Tryz.underlying192 w)) ?_
    refine e_panic (v := .iface 192 (.agg #[])) rfl (run_panicop rfl rfl) ?_
    intro w hw
    obtain rfl := Option.some.inj h
    subst hF
    first | exact end_t hw | exact fun _ => end_t hw
   ·
    refine WC.skip ?_
    intro w hw
    have hw := hw.fold (is := [0]) rfl hrow_13
    exact ⟨h, (sl_ (by kernel_rfl)), hw, trivial⟩
  ·
   rintro σ w ⟨h, hsl, hw, -⟩
   refine Wpt.slots hsl ?_
   refine WC.here (C := CC F Γ6 [row10]) ?_ hw
   clear hw hsl
   refine WC.rs ?_
   refine as_ (v := .slice none 0 0) ?_
   refine WR.done ?_
   refine WC.seq ?_
   refine WC.rs ?_
   refine mv (v := .int .i64 o3.2) ?_
   refine mv (v := .int .i64 0) ?_
   refine WR.done ?_
   refine WC.block ?_
   refine WC.forU h (fun (i29 : Nat) (s : (List Span) × Ocode_reader) σ w => match s with | (out_20, o25) => ∃ (Γ18 : Gh), ∃ (A21 : Option Addr), ∃ (c22 : Nat), ∃ (row23 : Rowb), ∃ (row26 : Rowb), slots σ [(1, .func (.func 166) #[(pq gr_)] #[]), (6, .slice A21 out_20.length c22), (23, .int .i64 o3.2), (24, .int .i64 ((i29 : Nat) : Int))] ∧ CC F Γ18 [row23, row26] w ∧ Gh.le Γ6 Γ18 ∧ Own spanT Γ18 93 row23 A21 c22 out_20 ∧ Ocode_reader.ob er_ Bo gr_ row26 o25 ∧ True) ?_ ?_
   ·
    intro w hw
    have hw := hw.pad
    exact ⟨Γ6, none, 0, [], row10, (sl_ (by kernel_rfl)), hw, (Gh.refl _), (Own.nil spanT _ 93), hr11, trivial⟩
   rintro f28 i29 ⟨out_20, o25⟩ σ w hi30 hlt31 hge32 ⟨Γ18, A21, c22, row23, row26, hsl, hw, hl19, ho24, ho27, -⟩
   refine Wpt.slots hsl ?_
   refine WC.here (C := CC F Γ18 [row23, row26]) ?_ hw
   clear hw hsl
   refine WC.rs ?_
   refine vb (q_lss rfl rfl rfl) ?_
   refine WR.done ?_
   refine WC.seq ?_
   refine WC.cond (b := (decide (((i29 : Nat) : Int) < o3.2))) (by kernel_rfl) (fun hb33 => ?_) (fun hb33 => ?_)
   ·
    have hl34 := ilti hb33
    have h := hlt31 hl34
    refine WC.skip ?_
    change WC _ _ _ _ _ _
    refine WC.seq ?_
    refine WC.block ?_
    refine WC.region ?_
    refine mv (v := .slice A21 out_20.length c22) ?_
    refine mv (v := .func (.func 166) #[(pq gr_)] #[]) ?_
    obtain ⟨z35, hz36, h⟩ := bnd h
    rcases z35 with _ | o37
    ·
     have h := optm_n rfl h
     refine e_callNW (is := [1]) rfl (call_run_fb (first := #[(pq gr_)]) Tryz.call166 rfl (by kernel_rfl) (by kernel_rfl)) rfl (fun w hw hp => t_code_reader_span_l1 ho27 hp (hO.pre (is := [1]) hw rfl) hz36) ?_
     intro Γ38 hl39
     intro w hw
     obtain rfl := Option.some.inj h
     subst hF
     first | exact end_t hw | exact fun _ => end_t hw
    ·
     have h := optm_s rfl h
     refine e_callW (is := [1]) rfl rfl (call_run_fb (first := #[(pq gr_)]) Tryz.call166 rfl (by kernel_rfl) (by kernel_rfl)) rfl (fun w hw hp => t_code_reader_span_l1 ho27 hp (hO.pre (is := [1]) hw rfl) hz36) ?_
     rintro Γ40 U42 v43 hl41 ⟨row44, rfl, rfl, hr45, hr46, _⟩
     change WR _ _ _ (CC F Γ40 [row44, row23]) _ _ (upd _ 28 (.agg #[.int .i64 o37.2.s, .int .i64 o37.2.f, .int .i64 o37.2.t]))
     refine e_buildSlice (cs := #[.int .i64 o37.2.s, .int .i64 o37.2.f, .int .i64 o37.2.t]) (e := 93) rfl rfl rfl rfl (fun w => by kernel_rfl) ?_
     intro g47
     obtain ⟨hk48, h⟩ := chk_some h
     refine e_append (T := spanT) (xs := out_20) (ys := [o37.2]) elem_87 (i := 2) rfl rfl rfl rfl rfl rfl rfl (ho24.mono hl41) (of_decide_eq_true hk48) (fun w hw => src_one (T := spanT) (y := o37.2) (i := 0) rfl (by exact ⟨rfl, hr46⟩) hw) ?_
     intro row49 A50 c51 ho52
     refine as_ (v := .slice A50 (out_20 ++ [o37.2]).length c51) ?_
     refine WR.nil ?_
     change WC _ _ _ _ _ _
     refine WC.region ?_
     refine vb (q_add_r (r := ((i29 + 1 : Nat) : Int)) rfl rfl rfl (ctr_int hl34 hr12)) ?_
     refine mv (v := .int .i64 ((i29 + 1 : Nat) : Int)) ?_
     refine WR.nil ?_
     intro w hw
     exact ⟨hl34, ((out_20 ++ [o37.2]), o37.1), h, Γ40, A50, c51, row49, row44, (sl_ (by kernel_rfl)), (hw.only (is := [2, 1]) rfl), (hl19.trans hl41), ho52, hr45, trivial⟩
   ·
    have h := hge32 (igei hb33)
    refine WC.exit ?_
    change WC _ _ _ _ _ _
    refine WC.rs ?_
    refine mv (v := .slice A21 out_20.length c22) ?_
    refine as_ (v := .slice A21 out_20.length c22) ?_
    refine WR.done ?_
    refine WC.ret ?_
    intro w hw
    obtain rfl := Option.some.inj h
    subst hF
    exact end_e (is := [1, 0]) (by kernel_rfl) hw rfl ⟨row26, A21, c22, row23, rfl, rfl, ho27, ho24, trivial⟩
abbrev r_code_reader_ver_l1 (Bo : Gh) (gr_ : Nat) (er_ : Nat) (r : Ocode_reader × Ver) (U : List Rowb) (Γ : Gh) (v : Value) : Prop := ∃ (rowr_' : Rowb), ∃ (A0_2 : Option Addr), ∃ (c0_2 : Nat), v = .agg #[.int .i64 r.2.dot.s, .int .i64 r.2.dot.n, .slice A0_2 r.2.past.length c0_2, .bool r.2.gone, .string r.2.val] ∧ U = [rowr_'] ∧ Ocode_reader.ob er_ Bo gr_ rowr_' r.1 ∧ Ver.fits Γ A0_2 c0_2 r.2 ∧ True
theorem t_code_reader_ver_l1 {Γ : Gh} {w0 : World} {Bo : Gh} {gr_ er_ : Nat} {rowr_ : Rowb} {r_ : Ocode_reader} (hr_ : Ocode_reader.ob er_ Bo gr_ rowr_ r_) (hp : Pre [rowr_] Γ w0) (hpO : Pre [rowr_] Bo w0) {r : Option (Ocode_reader × Ver)} (h : m_code_reader_ver r_ = some r) : Calls Tryz.prog 128 #[(pq gr_)] w0 (OutcT [{ v := (.iface 192 (.agg #[])), recovered := false }] Γ [rowr_] w0 (fun r => r_code_reader_ver_l1 Bo gr_ er_ r) r) := by
 refine calls_of_r (N := 30) (rs := [.cell 2 89]) (args := [(pq gr_)]) Tryz.func128 rfl Tryz.ntmps128 Tryz.results128 rfl ?_
 obtain ⟨F, hF⟩ : ∃ F : Fm, F = ⟨ids [rowr_], w0, Γ⟩ := ⟨_, rfl⟩
 refine WC.here (C := CC F Γ [rowr_]) ?_ (hF ▸ hp.start)
 have hO : Lent F Bo := hF ▸ Lent.start hpO
 refine WC.rs ?_
 refine e_alloc Tryz.zeroValue89 rfl rfl rfl rfl ?_
 intro g1
 refine WR.done ?_
 refine WC.rs ?_
 refine mv (v := (pq gr_)) ?_
 obtain ⟨z2, hz3, h⟩ := bnd h
 rcases z2 with _ | o4
 ·
  have h := optm_n rfl h
  refine e_callNW (is := [1]) rfl (call_run Tryz.call164 rfl rfl (by kernel_rfl)) rfl (fun w hw hp => t_code_reader_int_l1 hr_ hp (hO.pre (is := [1]) hw rfl) hz3) ?_
  intro Γ5 hl6
  intro w hw
  obtain rfl := Option.some.inj h
  subst hF
  first | exact end_t hw | exact fun _ => end_t hw
 ·
  have h := optm_s rfl h
  refine e_callW (is := [1]) rfl rfl (call_run Tryz.call164 rfl rfl (by kernel_rfl)) rfl (fun w hw hp => t_code_reader_int_l1 hr_ hp (hO.pre (is := [1]) hw rfl) hz3) ?_
  rintro Γ7 U9 v10 hl8 ⟨row11, rfl, rfl, hr12, hr13, _⟩
  change WR _ _ _ (CC F Γ7 [row11, [(g1, .cells #[.int .i64 0, .int .i64 0, .slice none 0 0, .bool false, .string ByteArray.empty] 89 (0, 0))]]) _ _ (upd _ 5 (.int .i64 o4.2))
  refine vb (q_build' (v := .agg #[.int .i64 o4.2, .int .i64 0]) rfl (bargs1 rfl) (fun w => by kernel_rfl)) ?_
  refine vb (q_build' (v := .agg #[.int .i64 o4.2, .int .i64 0, .slice none 0 0, .bool false, .string ByteArray.empty]) rfl (bargs1 rfl) (fun w => by kernel_rfl)) ?_
  refine e_alloc Tryz.zeroValue89 rfl rfl rfl rfl ?_
  intro g14
  refine e_st (i := 0) (v := .agg #[.int .i64 o4.2, .int .i64 0, .slice none 0 0, .bool false, .string ByteArray.empty]) (new := #[.int .i64 o4.2, .int .i64 0, .slice none 0 0, .bool false, .string ByteArray.empty]) rfl Tryz.sizeOf89 rfl rfl rfl rfl (by kernel_rfl) rfl rfl rfl rfl ?_
  refine WR.done ?_
  refine WC.rs ?_
  refine mv (v := (pq gr_)) ?_
  obtain ⟨z15, hz16, h⟩ := bnd h
  rcases z15 with _ | o17
  ·
   have h := optm_n rfl h
   refine e_callNW (is := [1]) rfl (call_run Tryz.call163 rfl rfl (by kernel_rfl)) rfl (fun w hw hp => t_code_reader_num_l1 hr12 hp (hO.pre (is := [1]) hw rfl) hz16) ?_
   intro Γ18 hl19
   intro w hw
   obtain rfl := Option.some.inj h
   subst hF
   first | exact end_t hw | exact fun _ => end_t hw
  ·
   have h := optm_s rfl h
   refine e_callW (is := [1]) rfl rfl (call_run Tryz.call163 rfl rfl (by kernel_rfl)) rfl (fun w hw hp => t_code_reader_num_l1 hr12 hp (hO.pre (is := [1]) hw rfl) hz16) ?_
   rintro Γ20 U22 v23 hl21 ⟨row24, rfl, rfl, hr25, hr26, _⟩
   change WR _ _ _ (CC F Γ20 [row24, [(g14, .cells #[.int .i64 o4.2, .int .i64 0, .slice none 0 0, .bool false, .string ByteArray.empty] 89 (0, 0))], [(g1, .cells #[.int .i64 0, .int .i64 0, .slice none 0 0, .bool false, .string ByteArray.empty] 89 (0, 0))]]) _ _ (upd _ 9 (.int .i64 o17.2))
   refine vb (q_fl 0 fld_89_0 rfl rfl rfl) ?_
   refine vb (q_fl 1 fld_86_1 rfl rfl rfl) ?_
   refine e_st (i := 1) (v := .int .i64 o17.2) (new := #[.int .i64 o4.2, .int .i64 o17.2, .slice none 0 0, .bool false, .string ByteArray.empty]) rfl Tryz.sizeOf2 rfl rfl rfl rfl (by kernel_rfl) rfl rfl rfl rfl ?_
   refine WR.done ?_
   refine WC.rs ?_
   refine mv (v := (pq gr_)) ?_
   refine mv (v := (pq gr_)) ?_
   refine vb (q_mkfn (v := .func (.func 166) #[(pq gr_)] #[]) rfl (by kernel_rfl)) ?_
   obtain ⟨z27, hz28, h⟩ := bnd h
   rcases z27 with _ | o29
   ·
    have h := optm_n rfl h
    refine e_callNW (is := [0]) rfl (call_run Tryz.call165 rfl rfl (by kernel_rfl)) rfl (fun w hw hp => t_code_take_api_Span_l1 hr25 hp (hO.pre (is := [0]) hw rfl) hz28) ?_
    intro Γ30 hl31
    intro w hw
    obtain rfl := Option.some.inj h
    subst hF
    first | exact end_t hw | exact fun _ => end_t hw
   ·
    have h := optm_s rfl h
    refine e_callW (is := [0]) rfl rfl (call_run Tryz.call165 rfl rfl (by kernel_rfl)) rfl (fun w hw hp => t_code_take_api_Span_l1 hr25 hp (hO.pre (is := [0]) hw rfl) hz28) ?_
    rintro Γ32 U34 v35 hl33 ⟨row36, A38, c39, row40, rfl, rfl, hr37, hr41, _⟩
    change WR _ _ _ (CC F Γ32 [row36, row40, [(g14, .cells #[.int .i64 o4.2, .int .i64 o17.2, .slice none 0 0, .bool false, .string ByteArray.empty] 89 (0, 0))], [(g1, .cells #[.int .i64 0, .int .i64 0, .slice none 0 0, .bool false, .string ByteArray.empty] 89 (0, 0))]]) _ _ (upd _ 15 (.slice A38 o29.2.length c39))
    refine vb (q_fl 2 fld_89_1 rfl rfl rfl) ?_
    refine e_st (i := 2) (v := .slice A38 o29.2.length c39) (new := #[.int .i64 o4.2, .int .i64 o17.2, .slice A38 o29.2.length c39, .bool false, .string ByteArray.empty]) rfl Tryz.sizeOf87 rfl rfl rfl rfl (by kernel_rfl) rfl rfl rfl rfl ?_
    refine WR.done ?_
    refine WC.cut (fun σ w => ∃ (x44 : Bool), ∃ (x45 : ByteArray), ∃ (o47 : Ocode_reader), ∃ (Γ42 : Gh), ∃ (row48 : Rowb), m_code_reader_ver_j1 o4 o17 o29 x44 x45 o47 = some r ∧ slots σ [(2, (pq g1)), (3, (pq g14))] ∧ CC F Γ42 [row48, row40, [(g14, .cells #[.int .i64 o4.2, .int .i64 o17.2, .slice A38 o29.2.length c39, .bool x44, .string x45] 89 (0, 0))], [(g1, .cells #[.int .i64 0, .int .i64 0, .slice none 0 0, .bool false, .string ByteArray.empty] 89 (0, 0))]] w ∧ Gh.le Γ32 Γ42 ∧ x45.size ≤ lim ∧ Ocode_reader.ob er_ Bo gr_ row48 o47 ∧ True) ?_ ?_
    ·
     refine WC.rs ?_
     refine mv (v := (pq gr_)) ?_
     obtain ⟨z50, hz51, h⟩ := bnd h
     rcases z50 with _ | o52
     ·
      have h := optm_n rfl h
      refine e_callNW (is := [0]) rfl (call_run Tryz.call163 rfl rfl (by kernel_rfl)) rfl (fun w hw hp => t_code_reader_num_l1 hr37 hp (hO.pre (is := [0]) hw rfl) hz51) ?_
      intro Γ53 hl54
      intro w hw
      obtain rfl := Option.some.inj h
      subst hF
      first | exact end_t hw | exact fun _ => end_t hw
     ·
      have h := optm_s rfl h
      refine e_callW (is := [0]) rfl rfl (call_run Tryz.call163 rfl rfl (by kernel_rfl)) rfl (fun w hw hp => t_code_reader_num_l1 hr37 hp (hO.pre (is := [0]) hw rfl) hz51) ?_
      rintro Γ55 U57 v58 hl56 ⟨row59, rfl, rfl, hr60, hr61, _⟩
      change WR _ _ _ (CC F Γ55 [row59, row40, [(g14, .cells #[.int .i64 o4.2, .int .i64 o17.2, .slice A38 o29.2.length c39, .bool false, .string ByteArray.empty] 89 (0, 0))], [(g1, .cells #[.int .i64 0, .int .i64 0, .slice none 0 0, .bool false, .string ByteArray.empty] 89 (0, 0))]]) _ _ (upd _ 18 (.int .i64 o52.2))
      refine WR.done ?_
      refine WC.block ?_
      refine WC.rs ?_
      refine vb (q_eql rfl rfl rfl) ?_
      refine as_ (v := .bool (o52.2 == 0)) ?_
      refine WR.done ?_
      refine WC.cif h (by kernel_rfl) (fun hb62 h => ?_) (fun hb62 h => ?_)
      ·
       refine WC.region ?_
       refine mv (v := (pq gr_)) ?_
       obtain ⟨z63, hz64, h⟩ := bnd h
       rcases z63 with _ | o65
       ·
        have h := optm_n rfl h
        refine e_callNW (is := [0]) rfl (call_run Tryz.call126 rfl rfl (by kernel_rfl)) rfl (fun w hw hp => t_code_reader_text_l1 hr60 hp (hO.pre (is := [0]) hw rfl) hz64) ?_
        intro Γ66 hl67
        intro w hw
        obtain rfl := Option.some.inj h
        subst hF
        first | exact end_t hw | exact fun _ => end_t hw
       ·
        have h := optm_s rfl h
        refine e_callW (is := [0]) rfl rfl (call_run Tryz.call126 rfl rfl (by kernel_rfl)) rfl (fun w hw hp => t_code_reader_text_l1 hr60 hp (hO.pre (is := [0]) hw rfl) hz64) ?_
        rintro Γ68 U70 v71 hl69 ⟨row72, rfl, rfl, hr73, hr74, _⟩
        change WR _ _ _ (CC F Γ68 [row72, row40, [(g14, .cells #[.int .i64 o4.2, .int .i64 o17.2, .slice A38 o29.2.length c39, .bool false, .string ByteArray.empty] 89 (0, 0))], [(g1, .cells #[.int .i64 0, .int .i64 0, .slice none 0 0, .bool false, .string ByteArray.empty] 89 (0, 0))]]) _ _ (upd _ 24 (.string o65.2))
        refine vb (q_fl 4 fld_89_3 rfl rfl rfl) ?_
        refine e_st (i := 2) (v := .string o65.2) (new := #[.int .i64 o4.2, .int .i64 o17.2, .slice A38 o29.2.length c39, .bool false, .string o65.2]) rfl Tryz.sizeOf9 rfl rfl rfl rfl (by kernel_rfl) rfl rfl rfl rfl ?_
        refine WR.nil ?_
        intro w hw
        exact ⟨false, o65.2, o65.1, Γ68, row72, h, (sl_ (by kernel_rfl)), hw, (hl56.trans hl69), hr74, hr73, trivial⟩
      ·
       refine WC.rs ?_
       refine vb (q_eql rfl rfl rfl) ?_
       refine as_ (v := .bool (o52.2 == 1)) ?_
       refine WR.done ?_
       refine WC.cif h (by kernel_rfl) (fun hb75 h => ?_) (fun hb75 h => ?_)
       ·
        refine WC.region ?_
        refine vb (q_fl 3 fld_89_2 rfl rfl rfl) ?_
        refine e_st (i := 2) (v := .bool true) (new := #[.int .i64 o4.2, .int .i64 o17.2, .slice A38 o29.2.length c39, .bool true, .string ByteArray.empty]) rfl Tryz.sizeOf4 rfl rfl rfl rfl (by kernel_rfl) rfl rfl rfl rfl ?_
        refine WR.nil ?_
        intro w hw
        exact ⟨true, ByteArray.empty, o52.1, Γ55, row59, h, (sl_ (by kernel_rfl)), hw, hl56, (show (ByteArray.empty : ByteArray).size ≤ lim by decide), hr60, trivial⟩
       ·
        refine WC.region ?_
        refine vb (q_build (v := .agg #[]) rfl (fun w => by kernel_rfl)) ?_
        refine vb (q_iface rfl rfl (fun w => mkif Tryz.underlying192 w)) ?_
        refine e_panic (v := .iface 192 (.agg #[])) rfl (run_panicop rfl rfl) ?_
        intro w hw
        obtain rfl := Option.some.inj h
        subst hF
        first | exact end_t hw | exact fun _ => end_t hw
    ·
     rintro σ w ⟨x44, x45, o47, Γ42, row48, h, hsl, hw, hl43, hr46, ho49, -⟩
     refine Wpt.slots hsl ?_
     refine WC.here (C := CC F Γ42 [row48, row40, [(g14, .cells #[.int .i64 o4.2, .int .i64 o17.2, .slice A38 o29.2.length c39, .bool x44, .string x45] 89 (0, 0))], [(g1, .cells #[.int .i64 0, .int .i64 0, .slice none 0 0, .bool false, .string ByteArray.empty] 89 (0, 0))]]) ?_ hw
     clear hw hsl
     refine WC.rs ?_
     refine vb (q_ldla (i := 2) (vs := [.int .i64 o4.2, .int .i64 o17.2, .slice A38 o29.2.length c39, .bool x44, .string x45]) rfl rfl Tryz.isAgg89 Tryz.sizeOf89 rfl rfl) ?_
     refine e_st (i := 3) (v := .agg #[.int .i64 o4.2, .int .i64 o17.2, .slice A38 o29.2.length c39, .bool x44, .string x45]) (new := #[.int .i64 o4.2, .int .i64 o17.2, .slice A38 o29.2.length c39, .bool x44, .string x45]) rfl Tryz.sizeOf89 rfl rfl rfl rfl (by kernel_rfl) rfl rfl rfl rfl ?_
     refine WR.done ?_
     refine WC.ret ?_
     intro w hw
     have hc82 := (hr41.mono hl43).capz
     obtain ⟨Γ78, hw, hl79, hr80⟩ := hw.seal (i := 1) rfl; have hs81 := (hr41.mono hl43).sl hl79 hr80
     obtain rfl := Option.some.inj h
     subst hF
     exact ⟨[.agg #[.int .i64 o4.2, .int .i64 o17.2, .slice A38 o29.2.length c39, .bool x44, .string x45]], (rr_agg (i := 3) (us := [.int .i64 o4.2, .int .i64 o17.2, .slice A38 o29.2.length c39, .bool x44, .string x45]) hw rfl Tryz.isAgg89 Tryz.sizeOf89 (by kernel_rfl) rfl rr_nil), end_e (is := [0]) (by kernel_rfl) hw rfl ⟨row48, A38, c39, rfl, rfl, ho49, ⟨hr13, hr26, ⟨hc82, hs81⟩, hr46⟩, trivial⟩⟩
abbrev r_code_take_api_Ver_l1 (Bo : Gh) (gr_ : Nat) (er_ : Nat) (r : Ocode_reader × (List Ver)) (U : List Rowb) (Γ : Gh) (v : Value) : Prop := ∃ (rowr_' : Rowb), ∃ (A0 : Option Addr), ∃ (c0 : Nat), ∃ (row0 : Rowb), v = .slice A0 r.2.length c0 ∧ U = [rowr_', row0] ∧ Ocode_reader.ob er_ Bo gr_ rowr_' r.1 ∧ Own verT Γ 89 row0 A0 c0 r.2 ∧ True
theorem t_code_take_api_Ver_l1 {Γ : Gh} {w0 : World} {Bo : Gh} {gr_ er_ : Nat} {rowr_ : Rowb} {r_ : Ocode_reader} (hr_ : Ocode_reader.ob er_ Bo gr_ rowr_ r_) (hp : Pre [rowr_] Γ w0) (hpO : Pre [rowr_] Bo w0) {r : Option (Ocode_reader × (List Ver))} (h : m_code_take_api_Ver r_ = some r) : Calls Tryz.prog 127 #[(pq gr_), .func (.func 128) #[(pq gr_)] #[]] w0 (OutcT [{ v := (.iface 192 (.agg #[])), recovered := false }] Γ [rowr_] w0 (fun r => r_code_take_api_Ver_l1 Bo gr_ er_ r) r) := by
 refine calls_of (N := 33) (rs := [4]) (args := [(pq gr_), .func (.func 128) #[(pq gr_)] #[]]) Tryz.func127 rfl Tryz.ntmps127 Tryz.results127 rfl ?_
 obtain ⟨F, hF⟩ : ∃ F : Fm, F = ⟨ids [rowr_], w0, Γ⟩ := ⟨_, rfl⟩
 refine WC.here (C := CC F Γ [rowr_]) ?_ (hF ▸ hp.start)
 have hO : Lent F Bo := hF ▸ Lent.start hpO
 refine WC.rs ?_
 refine as_ (v := .slice none 0 0) ?_
 refine WR.done ?_
 refine WC.rs ?_
 refine mv (v := (pq gr_)) ?_
 obtain ⟨z1, hz2, h⟩ := bnd h
 rcases z1 with _ | o3
 ·
  have h := optm_n rfl h
  refine e_callNW (is := [0]) rfl (call_run Tryz.call163 rfl rfl (by kernel_rfl)) rfl (fun w hw hp => t_code_reader_num_l1 hr_ hp (hO.pre (is := [0]) hw rfl) hz2) ?_
  intro Γ4 hl5
  intro w hw
  obtain rfl := Option.some.inj h
  subst hF
  first | exact end_t hw | exact fun _ => end_t hw
 ·
  have h := optm_s rfl h
  refine e_callW (is := [0]) rfl rfl (call_run Tryz.call163 rfl rfl (by kernel_rfl)) rfl (fun w hw hp => t_code_reader_num_l1 hr_ hp (hO.pre (is := [0]) hw rfl) hz2) ?_
  rintro Γ6 U8 v9 hl7 ⟨row10, rfl, rfl, hr11, hr12, _⟩
  change WR _ _ _ (CC F Γ6 [row10]) _ _ (upd _ 8 (.int .i64 o3.2))
  refine as_ (v := .int .i64 o3.2) ?_
  refine WR.done ?_
  refine WC.cut (fun σ w => m_code_take_api_Ver_j1 o3  = some r ∧ slots σ [(1, .func (.func 128) #[(pq gr_)] #[]), (5, .int .i64 o3.2)] ∧ CC F Γ6 [row10] w ∧ True) ?_ ?_
  ·
   refine WC.seq ?_
   have hq := hr11
   obtain ⟨A0_13, c0_13, hrow_13, ho0_13, ho1_13, ho2_13, -⟩ := hq
   intro w hw; have hw := hw.unfold (i := 0) rfl hrow_13
   refine WC.here (C := CC F Γ6 [[(gr_, .cells #[.slice A0_13 o3.1.b.length c0_13, .int .i64 o3.1.at_] er_ (0, 0))]]) ?_ hw
   clear hw
   refine WC.dr (by kernel_rfl) (by kernel_rfl) (fun w hw => hw.drawn _) ?_
   refine wa rfl rfl rfl (q_move (v := .int .i64 o3.2) rfl (by kernel_rfl)) ?_
   refine wa rfl rfl rfl (q_move (v := (pq gr_)) rfl (by kernel_rfl)) ?_
   refine wa rfl rfl rfl (q_nil (A := some ⟨gr_, 0, none⟩) rfl rfl rfl) ?_
   refine wa rfl rfl rfl (q_fl 0 fld_194_0 rfl rfl rfl) ?_
   refine wa rfl rfl rfl (q_ldl (i := 0) (v := .slice A0_13 o3.1.b.length c0_13) rfl rfl Tryz.isAgg77 rfl rfl) ?_
   refine wa rfl rfl rfl (q_len_slice rfl Tryz.underlying77 rfl) ?_
   refine wa rfl rfl rfl (q_move (v := (pq gr_)) rfl (by kernel_rfl)) ?_
   refine wa rfl rfl rfl (q_nil (A := some ⟨gr_, 0, none⟩) rfl rfl rfl) ?_
   refine wa rfl rfl rfl (q_fl 1 fld_194_1 rfl rfl rfl) ?_
   refine wa rfl rfl rfl (q_ldl (i := 0) (v := .int .i64 o3.1.at_) rfl rfl Tryz.isAgg3 rfl rfl) ?_
   refine wa rfl rfl rfl (q_sub rfl rfl rfl) ?_
   refine wa rfl rfl rfl (q_gtr rfl rfl rfl) ?_
   refine WQ.nil ?_
   change WC _ _ _ _ _ _
   refine WC.cif h (by kernel_rfl) (fun hb14 h => ?_) (fun hb14 h => ?_)
   ·
    refine WC.region ?_
    refine vb (q_build (v := .agg #[]) rfl (fun w => by kernel_rfl)) ?_
    refine vb (q_iface rfl rfl (fun w => mkif Tryz.underlying192 w)) ?_
    refine e_panic (v := .iface 192 (.agg #[])) rfl (run_panicop rfl rfl) ?_
    intro w hw
    obtain rfl := Option.some.inj h
    subst hF
    first | exact end_t hw | exact fun _ => end_t hw
   ·
    refine WC.skip ?_
    intro w hw
    have hw := hw.fold (is := [0]) rfl hrow_13
    exact ⟨h, (sl_ (by kernel_rfl)), hw, trivial⟩
  ·
   rintro σ w ⟨h, hsl, hw, -⟩
   refine Wpt.slots hsl ?_
   refine WC.here (C := CC F Γ6 [row10]) ?_ hw
   clear hw hsl
   refine WC.rs ?_
   refine as_ (v := .slice none 0 0) ?_
   refine WR.done ?_
   refine WC.seq ?_
   refine WC.rs ?_
   refine mv (v := .int .i64 o3.2) ?_
   refine mv (v := .int .i64 0) ?_
   refine WR.done ?_
   refine WC.block ?_
   refine WC.forU h (fun (i29 : Nat) (s : (List Ver) × Ocode_reader) σ w => match s with | (out_20, o25) => ∃ (Γ18 : Gh), ∃ (A21 : Option Addr), ∃ (c22 : Nat), ∃ (row23 : Rowb), ∃ (row26 : Rowb), slots σ [(1, .func (.func 128) #[(pq gr_)] #[]), (6, .slice A21 out_20.length c22), (23, .int .i64 o3.2), (24, .int .i64 ((i29 : Nat) : Int))] ∧ CC F Γ18 [row23, row26] w ∧ Gh.le Γ6 Γ18 ∧ Own verT Γ18 89 row23 A21 c22 out_20 ∧ Ocode_reader.ob er_ Bo gr_ row26 o25 ∧ True) ?_ ?_
   ·
    intro w hw
    have hw := hw.pad
    exact ⟨Γ6, none, 0, [], row10, (sl_ (by kernel_rfl)), hw, (Gh.refl _), (Own.nil verT _ 89), hr11, trivial⟩
   rintro f28 i29 ⟨out_20, o25⟩ σ w hi30 hlt31 hge32 ⟨Γ18, A21, c22, row23, row26, hsl, hw, hl19, ho24, ho27, -⟩
   refine Wpt.slots hsl ?_
   refine WC.here (C := CC F Γ18 [row23, row26]) ?_ hw
   clear hw hsl
   refine WC.rs ?_
   refine vb (q_lss rfl rfl rfl) ?_
   refine WR.done ?_
   refine WC.seq ?_
   refine WC.cond (b := (decide (((i29 : Nat) : Int) < o3.2))) (by kernel_rfl) (fun hb33 => ?_) (fun hb33 => ?_)
   ·
    have hl34 := ilti hb33
    have h := hlt31 hl34
    refine WC.skip ?_
    change WC _ _ _ _ _ _
    refine WC.seq ?_
    refine WC.block ?_
    refine WC.region ?_
    refine mv (v := .slice A21 out_20.length c22) ?_
    refine mv (v := .func (.func 128) #[(pq gr_)] #[]) ?_
    obtain ⟨z35, hz36, h⟩ := bnd h
    rcases z35 with _ | o37
    ·
     have h := optm_n rfl h
     refine e_callNW (is := [1]) rfl (call_run_fb (first := #[(pq gr_)]) Tryz.call128 rfl (by kernel_rfl) (by kernel_rfl)) rfl (fun w hw hp => t_code_reader_ver_l1 ho27 hp (hO.pre (is := [1]) hw rfl) hz36) ?_
     intro Γ38 hl39
     intro w hw
     obtain rfl := Option.some.inj h
     subst hF
     first | exact end_t hw | exact fun _ => end_t hw
    ·
     have h := optm_s rfl h
     refine e_callW (is := [1]) rfl rfl (call_run_fb (first := #[(pq gr_)]) Tryz.call128 rfl (by kernel_rfl) (by kernel_rfl)) rfl (fun w hw hp => t_code_reader_ver_l1 ho27 hp (hO.pre (is := [1]) hw rfl) hz36) ?_
     rintro Γ40 U42 v43 hl41 ⟨row44, A46, c47, rfl, rfl, hr45, hr48, _⟩
     change WR _ _ _ (CC F Γ40 [row44, row23]) _ _ (upd _ 28 (.agg #[.int .i64 o37.2.dot.s, .int .i64 o37.2.dot.n, .slice A46 o37.2.past.length c47, .bool o37.2.gone, .string o37.2.val]))
     refine e_buildSlice (cs := #[.int .i64 o37.2.dot.s, .int .i64 o37.2.dot.n, .slice A46 o37.2.past.length c47, .bool o37.2.gone, .string o37.2.val]) (e := 89) rfl rfl rfl rfl (fun w => by kernel_rfl) ?_
     intro g49
     obtain ⟨hk50, h⟩ := chk_some h
     refine e_append (T := verT) (xs := out_20) (ys := [o37.2]) elem_43 (i := 2) rfl rfl rfl rfl rfl rfl rfl (ho24.mono hl41) (of_decide_eq_true hk50) (fun w hw => src_one (T := verT) (y := o37.2) (i := 0) rfl (by exact ⟨A46, c47, rfl, hr48⟩) hw) ?_
     intro row51 A52 c53 ho54
     refine as_ (v := .slice A52 (out_20 ++ [o37.2]).length c53) ?_
     refine WR.nil ?_
     change WC _ _ _ _ _ _
     refine WC.region ?_
     refine vb (q_add_r (r := ((i29 + 1 : Nat) : Int)) rfl rfl rfl (ctr_int hl34 hr12)) ?_
     refine mv (v := .int .i64 ((i29 + 1 : Nat) : Int)) ?_
     refine WR.nil ?_
     intro w hw
     exact ⟨hl34, ((out_20 ++ [o37.2]), o37.1), h, Γ40, A52, c53, row51, row44, (sl_ (by kernel_rfl)), (hw.only (is := [2, 1]) rfl), (hl19.trans hl41), ho54, hr45, trivial⟩
   ·
    have h := hge32 (igei hb33)
    refine WC.exit ?_
    change WC _ _ _ _ _ _
    refine WC.rs ?_
    refine mv (v := .slice A21 out_20.length c22) ?_
    refine as_ (v := .slice A21 out_20.length c22) ?_
    refine WR.done ?_
    refine WC.ret ?_
    intro w hw
    obtain rfl := Option.some.inj h
    subst hF
    exact end_e (is := [1, 0]) (by kernel_rfl) hw rfl ⟨row26, A21, c22, row23, rfl, rfl, ho27, ho24, trivial⟩
abbrev r_code_reader_rec_l1 (Bo : Gh) (gr_ : Nat) (er_ : Nat) (r : Ocode_reader × Rec) (U : List Rowb) (Γ : Gh) (v : Value) : Prop := ∃ (rowr_' : Rowb), ∃ (A0_1 : Option Addr), ∃ (c0_1 : Nat), v = .agg #[.string r.2.key, .slice A0_1 r.2.vers.length c0_1] ∧ U = [rowr_'] ∧ Ocode_reader.ob er_ Bo gr_ rowr_' r.1 ∧ Rec.fits Γ A0_1 c0_1 r.2 ∧ True
theorem t_code_reader_rec_l1 {Γ : Gh} {w0 : World} {Bo : Gh} {gr_ er_ : Nat} {rowr_ : Rowb} {r_ : Ocode_reader} (hr_ : Ocode_reader.ob er_ Bo gr_ rowr_ r_) (hp : Pre [rowr_] Γ w0) (hpO : Pre [rowr_] Bo w0) {r : Option (Ocode_reader × Rec)} (h : m_code_reader_rec r_ = some r) : Calls Tryz.prog 94 #[(pq gr_)] w0 (OutcT [{ v := (.iface 192 (.agg #[])), recovered := false }] Γ [rowr_] w0 (fun r => r_code_reader_rec_l1 Bo gr_ er_ r) r) := by
 refine calls_of_r (N := 12) (rs := [.cell 2 45]) (args := [(pq gr_)]) Tryz.func94 rfl Tryz.ntmps94 Tryz.results94 rfl ?_
 obtain ⟨F, hF⟩ : ∃ F : Fm, F = ⟨ids [rowr_], w0, Γ⟩ := ⟨_, rfl⟩
 refine WC.here (C := CC F Γ [rowr_]) ?_ (hF ▸ hp.start)
 have hO : Lent F Bo := hF ▸ Lent.start hpO
 refine WC.rs ?_
 refine e_alloc Tryz.zeroValue45 rfl rfl rfl rfl ?_
 intro g1
 refine WR.done ?_
 refine WC.rs ?_
 refine mv (v := (pq gr_)) ?_
 obtain ⟨z2, hz3, h⟩ := bnd h
 rcases z2 with _ | o4
 ·
  have h := optm_n rfl h
  refine e_callNW (is := [1]) rfl (call_run Tryz.call126 rfl rfl (by kernel_rfl)) rfl (fun w hw hp => t_code_reader_text_l1 hr_ hp (hO.pre (is := [1]) hw rfl) hz3) ?_
  intro Γ5 hl6
  intro w hw
  obtain rfl := Option.some.inj h
  subst hF
  first | exact end_t hw | exact fun _ => end_t hw
 ·
  have h := optm_s rfl h
  refine e_callW (is := [1]) rfl rfl (call_run Tryz.call126 rfl rfl (by kernel_rfl)) rfl (fun w hw hp => t_code_reader_text_l1 hr_ hp (hO.pre (is := [1]) hw rfl) hz3) ?_
  rintro Γ7 U9 v10 hl8 ⟨row11, rfl, rfl, hr12, hr13, _⟩
  change WR _ _ _ (CC F Γ7 [row11, [(g1, .cells #[.string ByteArray.empty, .slice none 0 0] 45 (0, 0))]]) _ _ (upd _ 5 (.string o4.2))
  refine as_ (v := .string o4.2) ?_
  refine WR.done ?_
  refine WC.rs ?_
  refine mv (v := .string o4.2) ?_
  refine mv (v := (pq gr_)) ?_
  refine mv (v := (pq gr_)) ?_
  refine vb (q_mkfn (v := .func (.func 128) #[(pq gr_)] #[]) rfl (by kernel_rfl)) ?_
  obtain ⟨z14, hz15, h⟩ := bnd h
  rcases z14 with _ | o16
  ·
   have h := optm_n rfl h
   refine e_callNW (is := [0]) rfl (call_run Tryz.call127 rfl rfl (by kernel_rfl)) rfl (fun w hw hp => t_code_take_api_Ver_l1 hr12 hp (hO.pre (is := [0]) hw rfl) hz15) ?_
   intro Γ17 hl18
   intro w hw
   obtain rfl := Option.some.inj h
   subst hF
   first | exact end_t hw | exact fun _ => end_t hw
  ·
   have h := optm_s rfl h
   refine e_callW (is := [0]) rfl rfl (call_run Tryz.call127 rfl rfl (by kernel_rfl)) rfl (fun w hw hp => t_code_take_api_Ver_l1 hr12 hp (hO.pre (is := [0]) hw rfl) hz15) ?_
   rintro Γ19 U21 v22 hl20 ⟨row23, A25, c26, row27, rfl, rfl, hr24, hr28, _⟩
   change WR _ _ _ (CC F Γ19 [row23, row27, [(g1, .cells #[.string ByteArray.empty, .slice none 0 0] 45 (0, 0))]]) _ _ (upd _ 10 (.slice A25 o16.2.length c26))
   refine vb (q_build' (v := .agg #[.string o4.2, .slice A25 o16.2.length c26]) rfl (bargs2 rfl rfl) (fun w => by kernel_rfl)) ?_
   refine e_st (i := 2) (v := .agg #[.string o4.2, .slice A25 o16.2.length c26]) (new := #[.string o4.2, .slice A25 o16.2.length c26]) rfl Tryz.sizeOf45 rfl rfl rfl rfl (by kernel_rfl) rfl rfl rfl rfl ?_
   refine WR.done ?_
   refine WC.ret ?_
   intro w hw
   have hc33 := hr28.capz
   obtain ⟨Γ29, hw, hl30, hr31⟩ := hw.seal (i := 1) rfl; have hs32 := hr28.sl hl30 hr31
   obtain rfl := Option.some.inj h
   subst hF
   exact ⟨[.agg #[.string o4.2, .slice A25 o16.2.length c26]], (rr_agg (i := 2) (us := [.string o4.2, .slice A25 o16.2.length c26]) hw rfl Tryz.isAgg45 Tryz.sizeOf45 (by kernel_rfl) rfl rr_nil), end_e (is := [0]) (by kernel_rfl) hw rfl ⟨row23, A25, c26, rfl, rfl, hr24, ⟨hr13, ⟨hc33, hs32⟩⟩, trivial⟩⟩
abbrev r_code_whole_api_Rec_l1 (r : Rec × Int) (U : List Rowb) (Γ : Gh) (v : Value) : Prop := ∃ (A0_1 : Option Addr), ∃ (c0_1 : Nat), v = .tuple #[.agg #[.string r.1.key, .slice A0_1 r.1.vers.length c0_1], .int .i64 r.2] ∧ U = [] ∧ Rec.fits Γ A0_1 c0_1 r.1 ∧ I64 r.2 ∧ True
theorem t_code_whole_api_Rec_l1 {Γ : Gh} {w0 : World} {B : Gh} {Ab : Option Addr} {cb : Nat} {b : List UInt8} (hb : Sl byteT B Ab b) (hbc : b.length ≤ cb) (hp : Pre [] Γ w0) (hpB : Pre [] B w0) {r : Rec × Int} (h : m_code_whole_api_Rec b = some r) : Calls Tryz.prog 93 #[.slice Ab b.length cb, .func (.func 94) #[] #[], .func (.func 69) #[] #[]] w0 (Outc Γ [] w0 (r_code_whole_api_Rec_l1 r)) := by
 refine calls_door (n := 32) (args := [.slice Ab b.length cb, .func (.func 94) #[] #[], .func (.func 69) #[] #[]]) Tryz.func93 rfl Tryz.ntmps93 rfl ?_
 obtain ⟨F, hF⟩ : ∃ F : Fm, F = ⟨ids [], w0, Γ⟩ := ⟨_, rfl⟩
 refine WX.here (C := CC F Γ []) ?_ (hF ▸ hp.start)
 have hB : Lent F B := hF ▸ Lent.start hpB
 refine WX.seq ?_
 refine WC.region ?_
 refine e_alloc Tryz.zeroValue45 rfl rfl rfl rfl ?_
 intro g1
 refine e_alloc Tryz.zeroValue28 rfl rfl rfl rfl ?_
 intro g2
 refine WR.nil ?_
 change WX _ _ _ _ _ _ _
 refine WX.defer (v := .func (.func 125) #[] #[(pq g1), (pq g2)]) (d := ⟨.fn (.func 125) #[(pq g1), (pq g2)], #[]⟩) rfl rfl rfl rfl (q_mkfn (v := .func (.func 125) #[] #[(pq g1), (pq g2)]) rfl (by kernel_rfl)) (run_defer rfl rfl) ?_
 refine WX.last ?_
 change WC _ _ _ _ _ _
 refine WC.rs ?_
 refine mv (v := .slice Ab b.length cb) ?_
 refine vb (q_build' (v := .agg #[.slice Ab b.length cb, .int .i64 0]) rfl (bargs1 rfl) (fun w => by kernel_rfl)) ?_
 refine e_box (v := .agg #[.slice Ab b.length cb, .int .i64 0]) rfl rfl rfl rfl (by kernel_rfl) ?_
 intro g3
 refine as_ (v := (pq g3)) ?_
 refine WR.done ?_
 refine WC.rs ?_
 refine mv (v := .func (.func 94) #[] #[]) ?_
 refine mv (v := (pq g3)) ?_
 obtain ⟨row_4, hrow_4, hob_4⟩ : ∃ rw : Rowb, rw = ([[(g3, .cells #[.slice Ab b.length cb, .int .i64 0] 194 (0, 0))]] : List Rowb).flatten ∧ Ocode_reader.ob 194 B g3 rw (⟨b, 0⟩ : Ocode_reader) := ⟨_, rfl, Ab, cb, rfl, hbc, hb, (show I64 0 by decide), trivial⟩
 intro w hw; have hw := hw.fold (is := [0]) rfl hrow_4
 refine WR.here (C := CC F Γ [row_4, [(g2, .cells #[.int .i64 0] 28 (0, 0))], [(g1, .cells #[.string ByteArray.empty, .slice none 0 0] 45 (0, 0))]]) ?_ hw
 clear hw
 obtain ⟨z5, hz6, h⟩ := bnd h
 rcases z5 with _ | o7
 ·
  have h := optm_n rfl h
  refine e_callNW (is := [0]) rfl (call_run_fv (caps := #[]) Tryz.call94 rfl (by kernel_rfl) (by kernel_rfl)) rfl (fun w hw hp => t_code_reader_rec_l1 hob_4 hp (hB.pre (is := [0]) hw rfl) hz6) ?_
  intro Γ8 hl9
  change ∀ w, CC F Γ8 [[(g2, .cells #[.int .i64 0] 28 (0, 0))], [(g1, .cells #[.string ByteArray.empty, .slice none 0 0] 45 (0, 0))]] w → _
  obtain ⟨z10, hz11, h⟩ := bnd h
  refine door_panic (rs := [.cell 6 45, .cell 7 28]) (is := [1, 0]) Tryz.results93 (invoke_fn Tryz.call125) rfl rfl (fun w hp => t_code_whole_api_Rec_1 ByteArray.empty (show (ByteArray.empty : ByteArray).size ≤ lim by decide) (Sl.nil verT _ none) (Nat.zero_le 0) 0 (show I64 0 by decide) hp hz11) ?_
  rintro Γ12 U14 v15 hl13 ⟨A17, c18, rfl, rfl, hr16, hc20, hr19, hr21, _⟩
  change WRt _ _ _ (CC F Γ12 [[(g1, .cells #[.string z10.1, .slice A17 z10.2.1.length c18] 45 (0, 0))], [(g2, .cells #[.int .i64 z10.2.2] 28 (0, 0))]]) _
  unfold WRt
  intro w hw
  obtain rfl := Option.some.inj h
  subst hF
  exact ⟨[.agg #[.string z10.1, .slice A17 z10.2.1.length c18], .int .i64 z10.2.2], (rr_agg (i := 0) (us := [.string z10.1, .slice A17 z10.2.1.length c18]) hw rfl Tryz.isAgg45 Tryz.sizeOf45 (by kernel_rfl) rfl (rr_cell (i := 1) hw rfl Tryz.isAgg28 (by kernel_rfl) rfl rr_nil)), end_e (is := []) (by kernel_rfl) hw rfl ⟨A17, c18, rfl, rfl, ⟨hr16, ⟨hc20, hr19⟩⟩, hr21, trivial⟩⟩
 ·
  have h := optm_s rfl h
  refine e_callW (is := [0]) rfl rfl (call_run_fv (caps := #[]) Tryz.call94 rfl (by kernel_rfl) (by kernel_rfl)) rfl (fun w hw hp => t_code_reader_rec_l1 hob_4 hp (hB.pre (is := [0]) hw rfl) hz6) ?_
  rintro Γ22 U24 v25 hl23 ⟨row26, A28, c29, rfl, rfl, hr27, hr30, _⟩
  change WR _ _ _ (CC F Γ22 [row26, [(g2, .cells #[.int .i64 0] 28 (0, 0))], [(g1, .cells #[.string ByteArray.empty, .slice none 0 0] 45 (0, 0))]]) _ _ (upd _ 15 (.agg #[.string o7.2.key, .slice A28 o7.2.vers.length c29]))
  refine e_st (i := 2) (v := .agg #[.string o7.2.key, .slice A28 o7.2.vers.length c29]) (new := #[.string o7.2.key, .slice A28 o7.2.vers.length c29]) rfl Tryz.sizeOf45 rfl rfl rfl rfl (by kernel_rfl) rfl rfl rfl rfl ?_
  refine WR.done ?_
  refine WC.cut (fun σ w => m_code_whole_api_Rec_j1 o7  = some r ∧ slots σ [(6, (pq g1)), (7, (pq g2))] ∧ CC F Γ22 [row26, [(g2, .cells #[.int .i64 0] 28 (0, 0))], [(g1, .cells #[.string o7.2.key, .slice A28 o7.2.vers.length c29] 45 (0, 0))]] w ∧ True) ?_ ?_
  ·
   refine WC.rs ?_
   refine mv (v := (pq g3)) ?_
   refine vb (q_nil (A := some ⟨g3, 0, none⟩) rfl rfl rfl) ?_
   refine vb (q_fl 1 fld_194_1 rfl rfl rfl) ?_
   have hq := hr27
   obtain ⟨A0_31, c0_31, hrow_31, ho0_31, ho1_31, ho2_31, -⟩ := hq
   intro w hw; have hw := hw.unfold (i := 0) rfl hrow_31
   refine WR.here (C := CC F Γ22 [[(g3, .cells #[.slice A0_31 o7.1.b.length c0_31, .int .i64 o7.1.at_] 194 (0, 0))], [(g2, .cells #[.int .i64 0] 28 (0, 0))], [(g1, .cells #[.string o7.2.key, .slice A28 o7.2.vers.length c29] 45 (0, 0))]]) ?_ hw
   clear hw
   refine vb (q_ldl (i := 0) (v := .int .i64 o7.1.at_) rfl rfl Tryz.isAgg3 rfl rfl) ?_
   refine mv (v := .slice Ab b.length cb) ?_
   refine vb (q_len_slice rfl Tryz.underlying77 rfl) ?_
   refine vb (q_neq rfl rfl rfl) ?_
   refine mv (v := .bool (o7.1.at_ != ((b.length : Nat) : Int))) ?_
   refine vg0 rfl rfl rfl rfl rfl (fun hg32 => QV.qo (q_move (v := .func (.func 69) #[] #[]) rfl (by kernel_rfl))) ?_
   refine vg0 rfl rfl rfl rfl rfl (fun hg33 => QV.qo (q_ldla (i := 2) (vs := [.string o7.2.key, .slice A28 o7.2.vers.length c29]) rfl rfl Tryz.isAgg45 Tryz.sizeOf45 rfl rfl)) ?_
   obtain ⟨z35, hz36, h⟩ := bnd h
   refine vg0 rfl rfl rfl rfl rfl (fun hg34 => (q_call (call_run_fv (caps := #[]) (args := #[.agg #[.string o7.2.key, .slice A28 o7.2.vers.length c29]]) Tryz.call69 rfl (gu hg34 rfl) ((congrArg (· ++ #[]) (args1 (gu hg34 rfl))).trans (by kernel_rfl))) (fun w hw => t_code_RightRec (Γ := Gh.all w) o7.2 (Rec.fits_mono hr30 hw.sat.le_all) (Sat.all w) (gc_of hz36 hg34)))) ?_
   refine vg0 rfl rfl rfl rfl rfl (fun hg37 => QV.qo (q_not rfl (gu hg37 rfl))) ?_
   refine vb (q_pick rfl rfl (pk_or' (g := (o7.1.at_ != ((b.length : Nat) : Int))) (y := (!z35)))) ?_
   refine WR.done ?_
   refine WC.cif h (by kernel_rfl) (fun hb38 h => ?_) (fun hb38 h => ?_)
   ·
    refine WC.region ?_
    refine vb (q_build (v := .agg #[]) rfl (fun w => by kernel_rfl)) ?_
    refine vb (q_iface rfl rfl (fun w => mkif Tryz.underlying192 w)) ?_
    refine e_panic (v := .iface 192 (.agg #[])) rfl (run_panicop rfl rfl) ?_
    change ∀ w, CC F Γ22 [[(g3, .cells #[.slice A0_31 o7.1.b.length c0_31, .int .i64 o7.1.at_] 194 (0, 0))], [(g2, .cells #[.int .i64 0] 28 (0, 0))], [(g1, .cells #[.string o7.2.key, .slice A28 o7.2.vers.length c29] 45 (0, 0))]] w → _
    obtain ⟨z41, hz42, h⟩ := bnd h
    refine door_panic (rs := [.cell 6 45, .cell 7 28]) (is := [2, 1]) Tryz.results93 (invoke_fn Tryz.call125) rfl rfl (fun w hp => t_code_whole_api_Rec_1 o7.2.key hr30.1 hr30.2.2 hr30.2.1 0 (show I64 0 by decide) hp hz42) ?_
    rintro Γ43 U45 v46 hl44 ⟨A48, c49, rfl, rfl, hr47, hc51, hr50, hr52, _⟩
    change WRt _ _ _ (CC F Γ43 [[(g1, .cells #[.string z41.1, .slice A48 z41.2.1.length c49] 45 (0, 0))], [(g2, .cells #[.int .i64 z41.2.2] 28 (0, 0))], [(g3, .cells #[.slice A0_31 o7.1.b.length c0_31, .int .i64 o7.1.at_] 194 (0, 0))]]) _
    unfold WRt
    intro w hw
    obtain rfl := Option.some.inj h
    subst hF
    exact ⟨[.agg #[.string z41.1, .slice A48 z41.2.1.length c49], .int .i64 z41.2.2], (rr_agg (i := 0) (us := [.string z41.1, .slice A48 z41.2.1.length c49]) hw rfl Tryz.isAgg45 Tryz.sizeOf45 (by kernel_rfl) rfl (rr_cell (i := 1) hw rfl Tryz.isAgg28 (by kernel_rfl) rfl rr_nil)), end_e (is := []) (by kernel_rfl) hw rfl ⟨A48, c49, rfl, rfl, ⟨hr47, ⟨hc51, hr50⟩⟩, hr52, trivial⟩⟩
   ·
    refine WC.skip ?_
    intro w hw
    have hw := hw.fold (is := [0]) rfl hrow_31
    exact ⟨h, (sl_ (by kernel_rfl)), hw, trivial⟩
  ·
   rintro σ w ⟨h, hsl, hw, -⟩
   refine Wpt.slots hsl ?_
   refine WC.here (C := CC F Γ22 [row26, [(g2, .cells #[.int .i64 0] 28 (0, 0))], [(g1, .cells #[.string o7.2.key, .slice A28 o7.2.vers.length c29] 45 (0, 0))]]) ?_ hw
   clear hw hsl
   refine WC.rs ?_
   refine vb (q_ldla (i := 2) (vs := [.string o7.2.key, .slice A28 o7.2.vers.length c29]) rfl rfl Tryz.isAgg45 Tryz.sizeOf45 rfl rfl) ?_
   refine e_st (i := 2) (v := .agg #[.string o7.2.key, .slice A28 o7.2.vers.length c29]) (new := #[.string o7.2.key, .slice A28 o7.2.vers.length c29]) rfl Tryz.sizeOf45 rfl rfl rfl rfl (by kernel_rfl) rfl rfl rfl rfl ?_
   refine e_st (i := 1) (v := .int .i64 0) (new := #[.int .i64 0]) rfl Tryz.sizeOf28 rfl rfl rfl rfl (by kernel_rfl) rfl rfl rfl rfl ?_
   refine WR.done ?_
   refine WC.ret ?_
   refine door_ret (rs := [.cell 6 45, .cell 7 28]) Tryz.results93 (invoke_fn Tryz.call125) (idle_125 ((pq g1)) ((pq g2))) ?_
   unfold WRt
   intro w hw
   obtain rfl := Option.some.inj h
   subst hF
   exact ⟨[.agg #[.string o7.2.key, .slice A28 o7.2.vers.length c29], .int .i64 0], (rr_agg (i := 2) (us := [.string o7.2.key, .slice A28 o7.2.vers.length c29]) hw rfl Tryz.isAgg45 Tryz.sizeOf45 (by kernel_rfl) rfl (rr_cell (i := 1) hw rfl Tryz.isAgg28 (by kernel_rfl) rfl rr_nil)), end_e (is := []) (by kernel_rfl) hw rfl ⟨A28, c29, rfl, rfl, hr30, (show I64 0 by decide), trivial⟩⟩
abbrev r_code_Rec (r : Rec × Int) (U : List Rowb) (Γ : Gh) (v : Value) : Prop := ∃ (A0_1 : Option Addr), ∃ (c0_1 : Nat), v = .tuple #[.agg #[.string r.1.key, .slice A0_1 r.1.vers.length c0_1], .int .i64 r.2] ∧ U = [] ∧ Rec.fits Γ A0_1 c0_1 r.1 ∧ I64 r.2 ∧ True
theorem t_code_Rec {Γ : Gh} {w0 : World} {Ab : Option Addr} {cb : Nat} {b : List UInt8} (hb : Sl byteT Γ Ab b) (hbc : b.length ≤ cb) (hp : Pre [] Γ w0) {r : Rec × Int} (h : m_code_Rec b = some r) : Calls Tryz.prog 54 #[.slice Ab b.length cb] w0 (Outc Γ [] w0 (r_code_Rec r)) := by
 refine calls_of_r (N := 8) (rs := [.cell 2 45, .tmp 3]) (args := [.slice Ab b.length cb]) Tryz.func54 rfl Tryz.ntmps54 Tryz.results54 rfl ?_
 obtain ⟨F, hF⟩ : ∃ F : Fm, F = ⟨ids [], w0, Γ⟩ := ⟨_, rfl⟩
 refine WC.here (C := CC F Γ []) ?_ (hF ▸ hp.start)
 refine WC.rs ?_
 refine e_alloc Tryz.zeroValue45 rfl rfl rfl rfl ?_
 intro g1
 refine as_ (v := .int .i64 0) ?_
 refine WR.done ?_
 refine WC.rs ?_
 refine mv (v := .slice Ab b.length cb) ?_
 obtain ⟨z2, hz3, h⟩ := bnd h
 refine e_call (is := []) rfl rfl (call_run Tryz.call93 rfl rfl (by kernel_rfl)) rfl (fun w hp => t_code_whole_api_Rec hb hbc hp hz3) ?_
 rintro Γ4 U6 v7 hl5 ⟨A8, c9, rfl, rfl, hr10, hr11, _⟩
 change WR _ _ _ (CC F Γ4 [[(g1, .cells #[.string ByteArray.empty, .slice none 0 0] 45 (0, 0))]]) _ _ (upd _ 5 (.tuple #[.agg #[.string z2.1.key, .slice A8 z2.1.vers.length c9], .int .i64 z2.2]))
 refine vb (q_extract (v := .agg #[.string z2.1.key, .slice A8 z2.1.vers.length c9]) rfl rfl rfl) ?_
 refine vb (q_extract (v := .int .i64 z2.2) rfl rfl rfl) ?_
 refine e_st (i := 0) (v := .agg #[.string z2.1.key, .slice A8 z2.1.vers.length c9]) (new := #[.string z2.1.key, .slice A8 z2.1.vers.length c9]) rfl Tryz.sizeOf45 rfl rfl rfl rfl (by kernel_rfl) rfl rfl rfl rfl ?_
 refine as_ (v := .int .i64 z2.2) ?_
 refine WR.done ?_
 refine WC.ret ?_
 intro w hw
 obtain rfl := Option.some.inj h
 subst hF
 exact ⟨[.agg #[.string z2.1.key, .slice A8 z2.1.vers.length c9], .int .i64 z2.2], (rr_agg (i := 0) (us := [.string z2.1.key, .slice A8 z2.1.vers.length c9]) hw rfl Tryz.isAgg45 Tryz.sizeOf45 (by kernel_rfl) rfl (rr_tmp (by kernel_rfl) rr_nil)), end_e (is := []) (by kernel_rfl) hw rfl ⟨A8, c9, rfl, rfl, hr10, hr11, trivial⟩⟩
abbrev r_code_Rec_l0 (r : Rec × Int) (U : List Rowb) (Γ : Gh) (v : Value) : Prop := ∃ (A0_1 : Option Addr), ∃ (c0_1 : Nat), v = .tuple #[.agg #[.string r.1.key, .slice A0_1 r.1.vers.length c0_1], .int .i64 r.2] ∧ U = [] ∧ Rec.fits Γ A0_1 c0_1 r.1 ∧ I64 r.2 ∧ True
theorem t_code_Rec_l0 {Γ : Gh} {w0 : World} {B : Gh} {Ab : Option Addr} {cb : Nat} {b : List UInt8} (hb : Sl byteT B Ab b) (hbc : b.length ≤ cb) (hp : Pre [] Γ w0) (hpB : Pre [] B w0) {r : Rec × Int} (h : m_code_Rec b = some r) : Calls Tryz.prog 54 #[.slice Ab b.length cb] w0 (Outc Γ [] w0 (r_code_Rec_l0 r)) := by
 refine calls_of_r (N := 8) (rs := [.cell 2 45, .tmp 3]) (args := [.slice Ab b.length cb]) Tryz.func54 rfl Tryz.ntmps54 Tryz.results54 rfl ?_
 obtain ⟨F, hF⟩ : ∃ F : Fm, F = ⟨ids [], w0, Γ⟩ := ⟨_, rfl⟩
 refine WC.here (C := CC F Γ []) ?_ (hF ▸ hp.start)
 have hB : Lent F B := hF ▸ Lent.start hpB
 refine WC.rs ?_
 refine e_alloc Tryz.zeroValue45 rfl rfl rfl rfl ?_
 intro g1
 refine as_ (v := .int .i64 0) ?_
 refine WR.done ?_
 refine WC.rs ?_
 refine mv (v := .slice Ab b.length cb) ?_
 obtain ⟨z2, hz3, h⟩ := bnd h
 refine e_callB (is := []) hB rfl rfl (call_run Tryz.call93 rfl rfl (by kernel_rfl)) rfl (fun w Θ hp hpB hle hleB hR => t_code_whole_api_Rec_l1 (hb.mono hleB) hbc hp hpB hz3) ?_
 rintro Γ4 U6 v7 hl5 ⟨A8, c9, rfl, rfl, hr10, hr11, _⟩
 change WR _ _ _ (CC F Γ4 [[(g1, .cells #[.string ByteArray.empty, .slice none 0 0] 45 (0, 0))]]) _ _ (upd _ 5 (.tuple #[.agg #[.string z2.1.key, .slice A8 z2.1.vers.length c9], .int .i64 z2.2]))
 refine vb (q_extract (v := .agg #[.string z2.1.key, .slice A8 z2.1.vers.length c9]) rfl rfl rfl) ?_
 refine vb (q_extract (v := .int .i64 z2.2) rfl rfl rfl) ?_
 refine e_st (i := 0) (v := .agg #[.string z2.1.key, .slice A8 z2.1.vers.length c9]) (new := #[.string z2.1.key, .slice A8 z2.1.vers.length c9]) rfl Tryz.sizeOf45 rfl rfl rfl rfl (by kernel_rfl) rfl rfl rfl rfl ?_
 refine as_ (v := .int .i64 z2.2) ?_
 refine WR.done ?_
 refine WC.ret ?_
 intro w hw
 obtain rfl := Option.some.inj h
 subst hF
 exact ⟨[.agg #[.string z2.1.key, .slice A8 z2.1.vers.length c9], .int .i64 z2.2], (rr_agg (i := 0) (us := [.string z2.1.key, .slice A8 z2.1.vers.length c9]) hw rfl Tryz.isAgg45 Tryz.sizeOf45 (by kernel_rfl) rfl (rr_tmp (by kernel_rfl) rr_nil)), end_e (is := []) (by kernel_rfl) hw rfl ⟨A8, c9, rfl, rfl, hr10, hr11, trivial⟩⟩
abbrev r_store_Store_lay (gs_ : Nat) (es_ : Nat × Nat) (r : Ostore_Store) (U : List Rowb) (Γ : Gh) (v : Value) : Prop := ∃ (rows_' : Rowb), v = .tuple #[] ∧ U = [rows_'] ∧ Ostore_Store.ob es_ Γ gs_ rows_' r ∧ True
theorem t_store_Store_lay {Γ : Gh} {w0 : World} {gs_ : Nat} {es_ : Nat × Nat} {rows_ : Rowb} {s_ : Ostore_Store} (hs_ : Ostore_Store.ob es_ Γ gs_ rows_ s_) {Ar_1 : Option Addr} {cr_1 : Nat} (r_ : Rec) (hr_ : Rec.fits Γ Ar_1 cr_1 r_) {Ab : Option Addr} {cb : Nat} {b : List UInt8} (hb : Sl byteT Γ Ab b) (hbc : b.length ≤ cb) (hp : Pre [rows_] Γ w0) {r : Ostore_Store} (h : m_store_Store_lay s_ r_ b = some r) : Calls Tryz.prog 55 #[(pq gs_), .agg #[.string r_.key, .slice Ar_1 r_.vers.length cr_1], .slice Ab b.length cb] w0 (Outc Γ [rows_] w0 (r_store_Store_lay gs_ es_ r)) := by
 refine calls_of (N := 23) (rs := []) (args := [(pq gs_), .agg #[.string r_.key, .slice Ar_1 r_.vers.length cr_1], .slice Ab b.length cb]) Tryz.func55 rfl Tryz.ntmps55 Tryz.results55 rfl ?_
 obtain ⟨F, hF⟩ : ∃ F : Fm, F = ⟨ids [rows_], w0, Γ⟩ := ⟨_, rfl⟩
 refine WC.here (C := CC F Γ [rows_]) ?_ (hF ▸ hp.start)
 refine WC.rs ?_
 refine e_box (v := .agg #[.string r_.key, .slice Ar_1 r_.vers.length cr_1]) rfl rfl rfl rfl (by kernel_rfl) ?_
 intro g1
 refine WR.done ?_
 refine WC.seq ?_
 intro w hw; have h02 := hw.le
 refine WC.here (C := CC F Γ [[(g1, .cells #[.string r_.key, .slice Ar_1 r_.vers.length cr_1] 45 (0, 0))], rows_]) ?_ hw; clear hw
 refine WC.held (CC F Γ [[(g1, .cells #[.string r_.key, .slice Ar_1 r_.vers.length cr_1] 45 (0, 0))]]) (by kernel_rfl) (fun w hw => hw.drawn _) ?_
 change WH _ _ _ _ (CC F Γ [[(g1, .cells #[.string r_.key, .slice Ar_1 r_.vers.length cr_1] 45 (0, 0))], rows_]) _ 7 #[false, false, false, false, false, false, false] _
 refine hu 0 rfl (bk_ (Gh.refl _) h02 (.cons_cons _ (.cons _ .slnil))) (q_move (v := (pq gs_)) rfl (by kernel_rfl)) ?_
 refine hu 1 rfl (bk_ (Gh.refl _) h02 (.cons_cons _ (.cons _ .slnil))) (q_nil (A := some ⟨gs_, 0, none⟩) rfl rfl rfl) ?_
 refine hu 2 rfl (bk_ (Gh.refl _) h02 (.cons_cons _ (.cons _ .slnil))) (q_fl 1 fld_107_1 rfl rfl rfl) ?_
 refine hu 4 rfl (bk_ (Gh.refl _) h02 (.cons_cons _ (.cons _ .slnil))) (q_fl 0 fld_45_0 rfl rfl rfl) ?_
 refine hu 5 rfl (bk_ (Gh.refl _) h02 (.cons_cons _ (.cons _ .slnil))) (q_ldl (i := 0) (v := .string r_.key) rfl rfl Tryz.isAgg9 rfl rfl) ?_
 refine WH.lone (i := 3) (by kernel_rfl) rfl ?_
 have hq := hs_
 obtain ⟨g0_3, r0_3, m1_3, r1_3, hrow_3, ho0_3, ho1_3, -⟩ := hq
 intro w hw; have hw := hw.unfold (i := 1) rfl hrow_3
 refine WR.here (C := CC F Γ [[(gs_, .cells #[(pq g0_3), .map (some m1_3)] es_.1 (0, 0))], r0_3, r1_3, [(g1, .cells #[.string r_.key, .slice Ar_1 r_.vers.length cr_1] 45 (0, 0))]]) ?_ hw
 clear hw
 refine vb (q_ldl (i := 0) (v := .map (some m1_3)) rfl rfl Tryz.isAgg63 rfl rfl) ?_
 refine WR.nil ?_
 refine WH.next (bk_ (Gh.refl _) h02 (.cons _ (.cons _ (.cons _ (.cons_cons _ .slnil))))) ?_
 refine WH.lone (i := 6) (by kernel_rfl) rfl ?_
 refine e_delete (i := 2) (x := r_.key) rfl ho1_3 rfl rfl rfl Tryz.underlying63 rfl rfl ?_
 intro row4 hm5
 refine WR.nil ?_
 refine WH.next (bk_ (Gh.refl _) h02 (.cons _ (.cons _ (.cons _ (.cons_cons _ .slnil))))) ?_
 refine WH.done (by kernel_rfl) ?_
 change WC _ _ _ _ _ _
 refine WC.rs ?_
 refine vb (q_fl 1 fld_45_1 rfl rfl rfl) ?_
 refine vb (q_ldl (i := 3) (v := .slice Ar_1 r_.vers.length cr_1) rfl rfl Tryz.isAgg43 rfl rfl) ?_
 refine vb (q_len_slice rfl Tryz.underlying43 rfl) ?_
 refine vb (q_gtr rfl rfl rfl) ?_
 refine WR.done ?_
 refine WC.cif h (by kernel_rfl) (fun hb6 h => ?_) (fun hb6 h => ?_)
 ·
  intro w hw; have h07 := hw.le
  refine WC.here (C := CC F Γ [[(gs_, .cells #[(pq g0_3), .map (some m1_3)] es_.1 (0, 0))], r0_3, row4, [(g1, .cells #[.string r_.key, .slice Ar_1 r_.vers.length cr_1] 45 (0, 0))]]) ?_ hw; clear hw
  refine WC.held (CC F Γ [[(gs_, .cells #[(pq g0_3), .map (some m1_3)] es_.1 (0, 0))], [(g1, .cells #[.string r_.key, .slice Ar_1 r_.vers.length cr_1] 45 (0, 0))]]) (by kernel_rfl) (fun w hw => hw.drawn _) ?_
  change WH _ _ _ _ (CC F Γ [[(gs_, .cells #[(pq g0_3), .map (some m1_3)] es_.1 (0, 0))], r0_3, row4, [(g1, .cells #[.string r_.key, .slice Ar_1 r_.vers.length cr_1] 45 (0, 0))]]) _ 8 #[false, false, false, false, false, false, false, false] _
  refine hu 0 rfl (bk_ (Gh.refl _) h07 (.cons_cons _ (.cons _ (.cons _ (.cons_cons _ .slnil))))) (q_move (v := (pq gs_)) rfl (by kernel_rfl)) ?_
  refine hu 1 rfl (bk_ (Gh.refl _) h07 (.cons_cons _ (.cons _ (.cons _ (.cons_cons _ .slnil))))) (q_nil (A := some ⟨gs_, 0, none⟩) rfl rfl rfl) ?_
  refine hu 2 rfl (bk_ (Gh.refl _) h07 (.cons_cons _ (.cons _ (.cons _ (.cons_cons _ .slnil))))) (q_fl 1 fld_107_1 rfl rfl rfl) ?_
  refine hu 3 rfl (bk_ (Gh.refl _) h07 (.cons_cons _ (.cons _ (.cons _ (.cons_cons _ .slnil))))) (q_ldl (i := 0) (v := .map (some m1_3)) rfl rfl Tryz.isAgg63 rfl rfl) ?_
  refine hu 4 rfl (bk_ (Gh.refl _) h07 (.cons_cons _ (.cons _ (.cons _ (.cons_cons _ .slnil))))) (q_fl 0 fld_45_0 rfl rfl rfl) ?_
  refine hu 5 rfl (bk_ (Gh.refl _) h07 (.cons_cons _ (.cons _ (.cons _ (.cons_cons _ .slnil))))) (q_ldl (i := 1) (v := .string r_.key) rfl rfl Tryz.isAgg9 rfl rfl) ?_
  refine hu 6 rfl (bk_ (Gh.refl _) h07 (.cons_cons _ (.cons _ (.cons _ (.cons_cons _ .slnil))))) (q_move (v := .slice Ab b.length cb) rfl (by kernel_rfl)) ?_
  refine WH.lone (i := 7) (by kernel_rfl) rfl ?_
  refine e_mapUpdate (i := 2) (x := r_.key) (v := .slice Ab b.length cb) (a := b) rfl rfl rfl Tryz.underlying63 rfl rfl (by kernel_rfl) rfl hm5 (by exact ⟨Ab, cb, rfl, hbc, hb⟩) hr_.1 ?_
  intro row8 hm9
  refine WR.nil ?_
  refine WH.next (bk_ (Gh.refl _) h07 (.cons_cons _ (.cons _ (.cons _ (.cons_cons _ .slnil))))) ?_
  refine WH.done (by kernel_rfl) ?_
  intro w hw
  obtain ⟨row_10, hrow_10, hob_10⟩ : ∃ rw : Rowb, rw = ([[(gs_, .cells #[(pq g0_3), .map (some m1_3)] es_.1 (0, 0))], r0_3, row8] : List Rowb).flatten ∧ Ostore_Store.ob es_ Γ gs_ rw (⟨s_.log, (mput r_.key b (mdel r_.key s_.keys))⟩ : Ostore_Store) := ⟨_, rfl, g0_3, r0_3, m1_3, row8, rfl, ho0_3, hm9, trivial⟩
  have hw := hw.fold (is := [0, 0, 0]) rfl hrow_10
  obtain rfl := Option.some.inj h
  subst hF
  exact end_e (is := [0]) (by kernel_rfl) hw rfl ⟨row_10, rfl, rfl, hob_10, trivial⟩
 ·
  refine WC.skip ?_
  intro w hw
  obtain ⟨row_11, hrow_11, hob_11⟩ : ∃ rw : Rowb, rw = ([[(gs_, .cells #[(pq g0_3), .map (some m1_3)] es_.1 (0, 0))], r0_3, row4] : List Rowb).flatten ∧ Ostore_Store.ob es_ Γ gs_ rw (⟨s_.log, (mdel r_.key s_.keys)⟩ : Ostore_Store) := ⟨_, rfl, g0_3, r0_3, m1_3, row4, rfl, ho0_3, hm5, trivial⟩
  have hw := hw.fold (is := [0, 0, 0]) rfl hrow_11
  obtain rfl := Option.some.inj h
  subst hF
  exact end_e (is := [0]) (by kernel_rfl) hw rfl ⟨row_11, rfl, rfl, hob_11, trivial⟩
end Fw
end Go.Proofs.YtckindfllegbgaaGreat
