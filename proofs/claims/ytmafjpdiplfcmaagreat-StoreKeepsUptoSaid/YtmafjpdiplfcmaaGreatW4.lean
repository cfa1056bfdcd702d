/- Walks through the functions that the law reaches (printed by a program). No condition. -/
import Derived.Test.YtmafjpdiplfcmaaGreatW3
namespace Go.Proofs.YtmafjpdiplfcmaaGreat
namespace Fw
set_option linter.unusedVariables false
set_option linter.unusedSimpArgs false
set_option linter.unusedSectionVars false
set_option maxRecDepth 100000
set_option maxHeartbeats 400000
open Go.RowKit
theorem t_firthref03_Right {Γ : Gh} {w0 : World} {Al : Option Addr} {cl : Nat} {l : List Span} (hl : Sl spanT Γ Al l) (hlc : l.length ≤ cl) (hs : Sat Γ w0) {r : Bool} (h : m_firthref03_Right l = some r) : Calls Tryz.prog 113 #[.slice Al l.length cl] w0 (fun e w' => e = .returned (.bool r) ∧ Fr no w0 w') := by
 refine calls_of (N := 99) (rs := [2]) (args := [.slice Al l.length cl]) Tryz.func113 rfl Tryz.ntmps113 Tryz.results113 rfl ?_
 obtain ⟨F, hF⟩ : ∃ F : Fm, F = ⟨no, w0, Γ⟩ := ⟨_, rfl⟩
 refine WC.here (C := CC F Γ []) ?_ (hF ▸ Cur.start0 hs)
 refine WC.rs ?_
 refine as_ (v := .bool false) ?_
 refine WR.done ?_
 refine WC.seq ?_
 refine WC.rs ?_
 refine mv (v := .slice Al l.length cl) ?_
 refine vb (q_len_slice rfl Tryz.underlying37 rfl) ?_
 refine vb (q_gtr rfl rfl rfl) ?_
 refine WR.done ?_
 refine WC.cif h (by kernel_rfl) (fun hb1 h => ?_) (fun hb1 h => ?_)
 ·
  refine WC.rs ?_
  refine as_ (v := .bool false) ?_
  refine WR.done ?_
  refine WC.ret ?_
  intro w hw
  obtain rfl := Option.some.inj h
  subst hF
  exact ⟨by kernel_rfl, hw.fr⟩
 ·
  refine WC.skip ?_
  change WC _ _ _ _ _ _
  refine WC.seq ?_
  refine WC.rs ?_
  refine as_ (v := .int .i64 0) ?_
  refine WR.done ?_
  refine WC.block ?_
  refine WC.forI h (fun (i3 : Nat) (s : Unit) σ w => match s with | () => slots σ [(0, .slice Al l.length cl), (3, .int .i64 ((i3 : Nat) : Int))] ∧ CC F Γ [] w ∧ True) ?_ ?_
  ·
   intro w hw
   exact ⟨(sl_ (by kernel_rfl)), hw, trivial⟩
  rintro f2 i3 ⟨⟩ σ w hi4 hlt5 hge6 ⟨hsl, hw, -⟩
  refine Wpt.slots hsl ?_
  refine WC.here (C := CC F Γ []) ?_ hw
  clear hw hsl
  refine WC.seq ?_
  refine WC.rs ?_
  refine mv (v := .int .i64 ((i3 : Nat) : Int)) ?_
  refine mv (v := .slice Al l.length cl) ?_
  refine vb (q_len_slice rfl Tryz.underlying37 rfl) ?_
  refine vb (q_lss rfl rfl rfl) ?_
  refine WR.done ?_
  refine WC.cond (b := (decide (((i3 : Nat) : Int) < ((l.length : Nat) : Int)))) (by kernel_rfl) (fun hb7 => ?_) (fun hb7 => ?_)
  ·
   have hl8 := ilt hb7
   have h := hlt5 hl8
   refine WC.skip ?_
   change WC _ _ _ _ _ _
   refine WC.seq ?_
   refine WC.block ?_
   refine WC.seq ?_
   refine WC.seq ?_
   refine WC.dr (by kernel_rfl) (by kernel_rfl) (fun w hw => hw.drawn _) ?_
   refine wa rfl rfl rfl (q_move (v := .slice Al l.length cl) rfl (by kernel_rfl)) ?_
   refine wa rfl rfl rfl (q_move (v := .int .i64 ((i3 : Nat) : Int)) rfl (by kernel_rfl)) ?_
   refine wa rfl rfl rfl (q_ixn (i := i3) Tryz.underlying37 Tryz.sizeOf41 rfl rfl rfl hl8 (hl.some_ hl8)) ?_
   refine wa rfl rfl rfl (q_field_addr (i3 * 3) fld_41_0 rfl rfl (hl.some_ hl8) rfl) ?_
   refine wa rfl rfl rfl (q_ld (c := 0) (v := .int .i64 (gt l i3).s) (hl.spanT_at hl8).2 rfl Tryz.isAgg3 rfl rfl) ?_
   refine wa rfl rfl rfl (q_move (v := .slice Al l.length cl) rfl (by kernel_rfl)) ?_
   refine wa rfl rfl rfl (q_move (v := .int .i64 ((i3 : Nat) : Int)) rfl (by kernel_rfl)) ?_
   refine wa rfl rfl rfl (q_ixn (i := i3) Tryz.underlying37 Tryz.sizeOf41 rfl rfl rfl hl8 (hl.some_ hl8)) ?_
   refine wa rfl rfl rfl (q_field_addr (i3 * 3 + 1) fld_41_1 rfl rfl (hl.some_ hl8) rfl) ?_
   refine wa rfl rfl rfl (q_ld (c := 1) (v := .int .i64 (gt l i3).f) (hl.spanT_at hl8).2 rfl Tryz.isAgg2 rfl rfl) ?_
   refine wa rfl rfl rfl (q_build' (v := .agg #[.int .i64 (gt l i3).s, .int .i64 (gt l i3).f]) rfl (bargs2 rfl rfl) (fun w => by kernel_rfl)) ?_
   obtain ⟨z9, hz10, h⟩ := bnd h
   refine wc rfl rfl rfl (q_call (call_run Tryz.call112 rfl rfl (by kernel_rfl)) (fun w hw => t_firthref03_Dot (Γ := Gh.all w) (⟨(gt l i3).s, (gt l i3).f⟩ : Dot) ⟨(hl.spanT_at hl8).1.1, (hl.spanT_at hl8).1.2.1⟩ (Sat.all w) hz10)) ?_
   refine wa rfl rfl rfl (q_not rfl rfl) ?_
   refine wa rfl rfl rfl (q_move (v := .bool (!z9)) rfl (by kernel_rfl)) ?_
   refine wg0 rfl rfl rfl rfl rfl (fun hg11 => QV.qo (q_move (v := .slice Al l.length cl) rfl (by kernel_rfl))) ?_
   refine wg0 rfl rfl rfl rfl rfl (fun hg12 => QV.qo (q_move (v := .int .i64 ((i3 : Nat) : Int)) rfl (by kernel_rfl))) ?_
   refine wg0 rfl rfl rfl rfl rfl (fun hg13 => QV.qo (q_ixn (i := i3) Tryz.underlying37 Tryz.sizeOf41 rfl (gu hg13 rfl) (gu hg13 rfl) hl8 (hl.some_ hl8))) ?_
   refine wg0 rfl rfl rfl rfl rfl (fun hg14 => QV.qo (q_field_addr (i3 * 3) fld_41_0 rfl (gu hg14 rfl) (hl.some_ hl8) rfl)) ?_
   refine wg0 rfl rfl rfl rfl rfl (fun hg15 => QV.qo (q_ld (c := 0) (v := .int .i64 (gt l i3).s) (hl.spanT_at hl8).2 rfl Tryz.isAgg3 (gu hg15 rfl) rfl)) ?_
   refine wg0 rfl rfl rfl rfl rfl (fun hg16 => QV.qo (q_move (v := .slice Al l.length cl) rfl (by kernel_rfl))) ?_
   refine wg0 rfl rfl rfl rfl rfl (fun hg17 => QV.qo (q_move (v := .int .i64 ((i3 : Nat) : Int)) rfl (by kernel_rfl))) ?_
   refine wg0 rfl rfl rfl rfl rfl (fun hg18 => QV.qo (q_ixn (i := i3) Tryz.underlying37 Tryz.sizeOf41 rfl (gu hg18 rfl) (gu hg18 rfl) hl8 (hl.some_ hl8))) ?_
   refine wg0 rfl rfl rfl rfl rfl (fun hg19 => QV.qo (q_field_addr (i3 * 3 + 2) fld_41_2 rfl (gu hg19 rfl) (hl.some_ hl8) rfl)) ?_
   refine wg0 rfl rfl rfl rfl rfl (fun hg20 => QV.qo (q_ld (c := 2) (v := .int .i64 (gt l i3).t) (hl.spanT_at hl8).2 rfl Tryz.isAgg2 (gu hg20 rfl) rfl)) ?_
   refine wg0 rfl rfl rfl rfl rfl (fun hg21 => QV.qo (q_build' (v := .agg #[.int .i64 (gt l i3).s, .int .i64 (gt l i3).t]) rfl (bargs2 (gu hg21 rfl) (gu hg21 rfl)) (fun w => by kernel_rfl))) ?_
   obtain ⟨z23, hz24, h⟩ := bnd h
   refine wg0 rfl rfl rfl rfl rfl (fun hg22 => (q_call (call_run Tryz.call112 rfl rfl (args1 (gu hg22 rfl))) (fun w hw => t_firthref03_Dot (Γ := Gh.all w) (⟨(gt l i3).s, (gt l i3).t⟩ : Dot) ⟨(hl.spanT_at hl8).1.1, (hl.spanT_at hl8).1.2.2⟩ (Sat.all w) (gc_of hz24 hg22)))) ?_
   refine wg0 rfl rfl rfl rfl rfl (fun hg25 => QV.qo (q_not rfl (gu hg25 rfl))) ?_
   refine wa rfl rfl rfl (q_pick rfl rfl (pk_or' (g := (!z9)) (y := (!z23)))) ?_
   refine wa rfl rfl rfl (q_move (v := .bool ((!z9) || (!z23))) rfl (by kernel_rfl)) ?_
   refine wg0 rfl rfl rfl rfl rfl (fun hg26 => QV.qo (q_move (v := .slice Al l.length cl) rfl (by kernel_rfl))) ?_
   refine wg0 rfl rfl rfl rfl rfl (fun hg27 => QV.qo (q_move (v := .int .i64 ((i3 : Nat) : Int)) rfl (by kernel_rfl))) ?_
   refine wg0 rfl rfl rfl rfl rfl (fun hg28 => QV.qo (q_ixn (i := i3) Tryz.underlying37 Tryz.sizeOf41 rfl (gu hg28 rfl) (gu hg28 rfl) hl8 (hl.some_ hl8))) ?_
   refine wg0 rfl rfl rfl rfl rfl (fun hg29 => QV.qo (q_field_addr (i3 * 3 + 1) fld_41_1 rfl (gu hg29 rfl) (hl.some_ hl8) rfl)) ?_
   refine wg0 rfl rfl rfl rfl rfl (fun hg30 => QV.qo (q_ld (c := 1) (v := .int .i64 (gt l i3).f) (hl.spanT_at hl8).2 rfl Tryz.isAgg2 (gu hg30 rfl) rfl)) ?_
   refine wg0 rfl rfl rfl rfl rfl (fun hg31 => QV.qo (q_move (v := .slice Al l.length cl) rfl (by kernel_rfl))) ?_
   refine wg0 rfl rfl rfl rfl rfl (fun hg32 => QV.qo (q_move (v := .int .i64 ((i3 : Nat) : Int)) rfl (by kernel_rfl))) ?_
   refine wg0 rfl rfl rfl rfl rfl (fun hg33 => QV.qo (q_ixn (i := i3) Tryz.underlying37 Tryz.sizeOf41 rfl (gu hg33 rfl) (gu hg33 rfl) hl8 (hl.some_ hl8))) ?_
   refine wg0 rfl rfl rfl rfl rfl (fun hg34 => QV.qo (q_field_addr (i3 * 3 + 2) fld_41_2 rfl (gu hg34 rfl) (hl.some_ hl8) rfl)) ?_
   refine wg0 rfl rfl rfl rfl rfl (fun hg35 => QV.qo (q_ld (c := 2) (v := .int .i64 (gt l i3).t) (hl.spanT_at hl8).2 rfl Tryz.isAgg2 (gu hg35 rfl) rfl)) ?_
   refine wg0 rfl rfl rfl rfl rfl (fun hg36 => QV.qo (q_gtr rfl (gu hg36 rfl) (gu hg36 rfl))) ?_
   refine wa rfl rfl rfl (q_pick rfl rfl (pk_or' (g := ((!z9) || (!z23))) (y := (decide ((gt l i3).t < (gt l i3).f))))) ?_
   refine WQ.nil ?_
   change WC _ _ _ _ _ _
   refine WC.cif h (by kernel_rfl) (fun hb37 h => ?_) (fun hb37 h => ?_)
   ·
    refine WC.rs ?_
    refine as_ (v := .bool false) ?_
    refine WR.done ?_
    refine WC.ret ?_
    intro w hw
    obtain rfl := Option.some.inj h
    subst hF
    exact ⟨by kernel_rfl, hw.fr⟩
   ·
    refine WC.skip ?_
    change WC _ _ _ _ _ _
    refine WC.seq ?_
    refine WC.dr (by kernel_rfl) (by kernel_rfl) (fun w hw => hw.drawn _) ?_
    refine wa rfl rfl rfl (q_move (v := .int .i64 ((i3 : Nat) : Int)) rfl (by kernel_rfl)) ?_
    refine wa rfl rfl rfl (q_gtr rfl rfl rfl) ?_
    refine wa rfl rfl rfl (q_move (v := .bool (decide (0 < ((i3 : Nat) : Int)))) rfl (by kernel_rfl)) ?_
    refine wg1 rfl rfl rfl rfl rfl (fun hg38 => QV.qo (q_move (v := .slice Al l.length cl) rfl (by kernel_rfl))) ?_
    refine wg1 rfl rfl rfl rfl rfl (fun hg39 => QV.qo (q_move (v := .int .i64 ((i3 : Nat) : Int)) rfl (by kernel_rfl))) ?_
    refine wg1 rfl rfl rfl rfl rfl (fun hg40 => QV.qo (q_ixn (i := i3) Tryz.underlying37 Tryz.sizeOf41 rfl (gu hg40 rfl) (gu hg40 rfl) hl8 (hl.some_ hl8))) ?_
    refine wg1 rfl rfl rfl rfl rfl (fun hg41 => QV.qo (q_field_addr (i3 * 3) fld_41_0 rfl (gu hg41 rfl) (hl.some_ hl8) rfl)) ?_
    refine wg1 rfl rfl rfl rfl rfl (fun hg42 => QV.qo (q_ld (c := 0) (v := .int .i64 (gt l i3).s) (hl.spanT_at hl8).2 rfl Tryz.isAgg3 (gu hg42 rfl) rfl)) ?_
    refine wg1 rfl rfl rfl rfl rfl (fun hg43 => QV.qo (q_move (v := .slice Al l.length cl) rfl (by kernel_rfl))) ?_
    refine wg1 rfl rfl rfl rfl rfl (fun hg44 => QV.qo (q_move (v := .int .i64 ((i3 : Nat) : Int)) rfl (by kernel_rfl))) ?_
    refine wg1 rfl rfl rfl rfl rfl (fun hg45 => QV.qo (q_sub rfl (gu hg45 rfl) rfl)) ?_
    obtain ⟨hk47, h⟩ := chk_some h
    refine wg1 rfl rfl rfl rfl rfl (fun hg46 => QV.qo (q_ix Tryz.underlying37 Tryz.sizeOf41 rfl (gu hg46 rfl) (gu hg46 rfl) (imp_of hk47 hg46) (hl.some_ (inb_lt (imp_of hk47 hg46))))) ?_
    refine wg1 rfl rfl rfl rfl rfl (fun hg48 => QV.qo (q_field_addr (((w64 (((i3 : Nat) : Int) - 1)).toNat) * 3) fld_41_0 rfl (gu hg48 rfl) (hl.some_ (inb_lt (imp_of hk47 hg48))) rfl)) ?_
    refine wg1 rfl rfl rfl rfl rfl (fun hg49 => QV.qo (q_ld (c := 0) (v := .int .i64 (gt l ((w64 (((i3 : Nat) : Int) - 1)).toNat)).s) (hl.spanT_at (inb_lt (imp_of hk47 hg49))).2 rfl Tryz.isAgg3 (gu hg49 rfl) rfl)) ?_
    refine wg1 rfl rfl rfl rfl rfl (fun hg50 => QV.qo (q_lss rfl (gu hg50 rfl) (gu hg50 rfl))) ?_
    refine wg1 rfl rfl rfl rfl rfl (fun hg51 => QV.qo (q_move (v := .bool (decide ((gt l i3).s < (gt l ((w64 (((i3 : Nat) : Int) - 1)).toNat)).s))) rfl (gu hg51 rfl))) ?_
    refine wh0 (c0 := (decide (0 < ((i3 : Nat) : Int)))) (g := (decide ((gt l i3).s < (gt l ((w64 (((i3 : Nat) : Int) - 1)).toNat)).s))) rfl rfl rfl rfl rfl (fun hg52 => QV.qo (q_move (v := .slice Al l.length cl) rfl (by kernel_rfl))) ?_
    refine wh0 (c0 := (decide (0 < ((i3 : Nat) : Int)))) (g := (decide ((gt l i3).s < (gt l ((w64 (((i3 : Nat) : Int) - 1)).toNat)).s))) rfl rfl rfl rfl rfl (fun hg53 => QV.qo (q_move (v := .int .i64 ((i3 : Nat) : Int)) rfl (by kernel_rfl))) ?_
    refine wh0 (c0 := (decide (0 < ((i3 : Nat) : Int)))) (g := (decide ((gt l i3).s < (gt l ((w64 (((i3 : Nat) : Int) - 1)).toNat)).s))) rfl rfl rfl rfl rfl (fun hg54 => QV.qo (q_ixn (i := i3) Tryz.underlying37 Tryz.sizeOf41 rfl (gu hg54 rfl) (gu hg54 rfl) hl8 (hl.some_ hl8))) ?_
    refine wh0 (c0 := (decide (0 < ((i3 : Nat) : Int)))) (g := (decide ((gt l i3).s < (gt l ((w64 (((i3 : Nat) : Int) - 1)).toNat)).s))) rfl rfl rfl rfl rfl (fun hg55 => QV.qo (q_field_addr (i3 * 3) fld_41_0 rfl (gu hg55 rfl) (hl.some_ hl8) rfl)) ?_
    refine wh0 (c0 := (decide (0 < ((i3 : Nat) : Int)))) (g := (decide ((gt l i3).s < (gt l ((w64 (((i3 : Nat) : Int) - 1)).toNat)).s))) rfl rfl rfl rfl rfl (fun hg56 => QV.qo (q_ld (c := 0) (v := .int .i64 (gt l i3).s) (hl.spanT_at hl8).2 rfl Tryz.isAgg3 (gu hg56 rfl) rfl)) ?_
    refine wh0 (c0 := (decide (0 < ((i3 : Nat) : Int)))) (g := (decide ((gt l i3).s < (gt l ((w64 (((i3 : Nat) : Int) - 1)).toNat)).s))) rfl rfl rfl rfl rfl (fun hg57 => QV.qo (q_move (v := .slice Al l.length cl) rfl (by kernel_rfl))) ?_
    refine wh0 (c0 := (decide (0 < ((i3 : Nat) : Int)))) (g := (decide ((gt l i3).s < (gt l ((w64 (((i3 : Nat) : Int) - 1)).toNat)).s))) rfl rfl rfl rfl rfl (fun hg58 => QV.qo (q_move (v := .int .i64 ((i3 : Nat) : Int)) rfl (by kernel_rfl))) ?_
    refine wh0 (c0 := (decide (0 < ((i3 : Nat) : Int)))) (g := (decide ((gt l i3).s < (gt l ((w64 (((i3 : Nat) : Int) - 1)).toNat)).s))) rfl rfl rfl rfl rfl (fun hg59 => QV.qo (q_sub rfl (gu hg59 rfl) rfl)) ?_
    refine wh0 (c0 := (decide (0 < ((i3 : Nat) : Int)))) (g := (decide ((gt l i3).s < (gt l ((w64 (((i3 : Nat) : Int) - 1)).toNat)).s))) rfl rfl rfl rfl rfl (fun hg60 => QV.qo (q_ix Tryz.underlying37 Tryz.sizeOf41 rfl (gu hg60 rfl) (gu hg60 rfl) (imp_of hk47 (and_l hg60)) (hl.some_ (inb_lt (imp_of hk47 (and_l hg60)))))) ?_
    refine wh0 (c0 := (decide (0 < ((i3 : Nat) : Int)))) (g := (decide ((gt l i3).s < (gt l ((w64 (((i3 : Nat) : Int) - 1)).toNat)).s))) rfl rfl rfl rfl rfl (fun hg61 => QV.qo (q_field_addr (((w64 (((i3 : Nat) : Int) - 1)).toNat) * 3) fld_41_0 rfl (gu hg61 rfl) (hl.some_ (inb_lt (imp_of hk47 (and_l hg61)))) rfl)) ?_
    refine wh0 (c0 := (decide (0 < ((i3 : Nat) : Int)))) (g := (decide ((gt l i3).s < (gt l ((w64 (((i3 : Nat) : Int) - 1)).toNat)).s))) rfl rfl rfl rfl rfl (fun hg62 => QV.qo (q_ld (c := 0) (v := .int .i64 (gt l ((w64 (((i3 : Nat) : Int) - 1)).toNat)).s) (hl.spanT_at (inb_lt (imp_of hk47 (and_l hg62)))).2 rfl Tryz.isAgg3 (gu hg62 rfl) rfl)) ?_
    refine wh0 (c0 := (decide (0 < ((i3 : Nat) : Int)))) (g := (decide ((gt l i3).s < (gt l ((w64 (((i3 : Nat) : Int) - 1)).toNat)).s))) rfl rfl rfl rfl rfl (fun hg63 => QV.qo (q_eql rfl (gu hg63 rfl) (gu hg63 rfl))) ?_
    refine wh0 (c0 := (decide (0 < ((i3 : Nat) : Int)))) (g := (decide ((gt l i3).s < (gt l ((w64 (((i3 : Nat) : Int) - 1)).toNat)).s))) rfl rfl rfl rfl rfl (fun hg64 => QV.qo (q_move (v := .bool ((gt l i3).s == (gt l ((w64 (((i3 : Nat) : Int) - 1)).toNat)).s)) rfl (gu hg64 rfl))) ?_
    refine wh1 (c0 := ((decide (0 < ((i3 : Nat) : Int))) && (!(decide ((gt l i3).s < (gt l ((w64 (((i3 : Nat) : Int) - 1)).toNat)).s))))) (g := ((gt l i3).s == (gt l ((w64 (((i3 : Nat) : Int) - 1)).toNat)).s)) rfl rfl rfl rfl rfl (fun hg65 => QV.qo (q_move (v := .slice Al l.length cl) rfl (by kernel_rfl))) ?_
    refine wh1 (c0 := ((decide (0 < ((i3 : Nat) : Int))) && (!(decide ((gt l i3).s < (gt l ((w64 (((i3 : Nat) : Int) - 1)).toNat)).s))))) (g := ((gt l i3).s == (gt l ((w64 (((i3 : Nat) : Int) - 1)).toNat)).s)) rfl rfl rfl rfl rfl (fun hg66 => QV.qo (q_move (v := .int .i64 ((i3 : Nat) : Int)) rfl (by kernel_rfl))) ?_
    refine wh1 (c0 := ((decide (0 < ((i3 : Nat) : Int))) && (!(decide ((gt l i3).s < (gt l ((w64 (((i3 : Nat) : Int) - 1)).toNat)).s))))) (g := ((gt l i3).s == (gt l ((w64 (((i3 : Nat) : Int) - 1)).toNat)).s)) rfl rfl rfl rfl rfl (fun hg67 => QV.qo (q_ixn (i := i3) Tryz.underlying37 Tryz.sizeOf41 rfl (gu hg67 rfl) (gu hg67 rfl) hl8 (hl.some_ hl8))) ?_
    refine wh1 (c0 := ((decide (0 < ((i3 : Nat) : Int))) && (!(decide ((gt l i3).s < (gt l ((w64 (((i3 : Nat) : Int) - 1)).toNat)).s))))) (g := ((gt l i3).s == (gt l ((w64 (((i3 : Nat) : Int) - 1)).toNat)).s)) rfl rfl rfl rfl rfl (fun hg68 => QV.qo (q_field_addr (i3 * 3 + 1) fld_41_1 rfl (gu hg68 rfl) (hl.some_ hl8) rfl)) ?_
    refine wh1 (c0 := ((decide (0 < ((i3 : Nat) : Int))) && (!(decide ((gt l i3).s < (gt l ((w64 (((i3 : Nat) : Int) - 1)).toNat)).s))))) (g := ((gt l i3).s == (gt l ((w64 (((i3 : Nat) : Int) - 1)).toNat)).s)) rfl rfl rfl rfl rfl (fun hg69 => QV.qo (q_ld (c := 1) (v := .int .i64 (gt l i3).f) (hl.spanT_at hl8).2 rfl Tryz.isAgg2 (gu hg69 rfl) rfl)) ?_
    refine wh1 (c0 := ((decide (0 < ((i3 : Nat) : Int))) && (!(decide ((gt l i3).s < (gt l ((w64 (((i3 : Nat) : Int) - 1)).toNat)).s))))) (g := ((gt l i3).s == (gt l ((w64 (((i3 : Nat) : Int) - 1)).toNat)).s)) rfl rfl rfl rfl rfl (fun hg70 => QV.qo (q_sub rfl (gu hg70 rfl) rfl)) ?_
    refine wh1 (c0 := ((decide (0 < ((i3 : Nat) : Int))) && (!(decide ((gt l i3).s < (gt l ((w64 (((i3 : Nat) : Int) - 1)).toNat)).s))))) (g := ((gt l i3).s == (gt l ((w64 (((i3 : Nat) : Int) - 1)).toNat)).s)) rfl rfl rfl rfl rfl (fun hg71 => QV.qo (q_move (v := .slice Al l.length cl) rfl (by kernel_rfl))) ?_
    refine wh1 (c0 := ((decide (0 < ((i3 : Nat) : Int))) && (!(decide ((gt l i3).s < (gt l ((w64 (((i3 : Nat) : Int) - 1)).toNat)).s))))) (g := ((gt l i3).s == (gt l ((w64 (((i3 : Nat) : Int) - 1)).toNat)).s)) rfl rfl rfl rfl rfl (fun hg72 => QV.qo (q_move (v := .int .i64 ((i3 : Nat) : Int)) rfl (by kernel_rfl))) ?_
    refine wh1 (c0 := ((decide (0 < ((i3 : Nat) : Int))) && (!(decide ((gt l i3).s < (gt l ((w64 (((i3 : Nat) : Int) - 1)).toNat)).s))))) (g := ((gt l i3).s == (gt l ((w64 (((i3 : Nat) : Int) - 1)).toNat)).s)) rfl rfl rfl rfl rfl (fun hg73 => QV.qo (q_sub rfl (gu hg73 rfl) rfl)) ?_
    refine wh1 (c0 := ((decide (0 < ((i3 : Nat) : Int))) && (!(decide ((gt l i3).s < (gt l ((w64 (((i3 : Nat) : Int) - 1)).toNat)).s))))) (g := ((gt l i3).s == (gt l ((w64 (((i3 : Nat) : Int) - 1)).toNat)).s)) rfl rfl rfl rfl rfl (fun hg74 => QV.qo (q_ix Tryz.underlying37 Tryz.sizeOf41 rfl (gu hg74 rfl) (gu hg74 rfl) (imp_of hk47 (and_l (and_l hg74))) (hl.some_ (inb_lt (imp_of hk47 (and_l (and_l hg74))))))) ?_
    refine wh1 (c0 := ((decide (0 < ((i3 : Nat) : Int))) && (!(decide ((gt l i3).s < (gt l ((w64 (((i3 : Nat) : Int) - 1)).toNat)).s))))) (g := ((gt l i3).s == (gt l ((w64 (((i3 : Nat) : Int) - 1)).toNat)).s)) rfl rfl rfl rfl rfl (fun hg75 => QV.qo (q_field_addr (((w64 (((i3 : Nat) : Int) - 1)).toNat) * 3 + 2) fld_41_2 rfl (gu hg75 rfl) (hl.some_ (inb_lt (imp_of hk47 (and_l (and_l hg75))))) rfl)) ?_
    refine wh1 (c0 := ((decide (0 < ((i3 : Nat) : Int))) && (!(decide ((gt l i3).s < (gt l ((w64 (((i3 : Nat) : Int) - 1)).toNat)).s))))) (g := ((gt l i3).s == (gt l ((w64 (((i3 : Nat) : Int) - 1)).toNat)).s)) rfl rfl rfl rfl rfl (fun hg76 => QV.qo (q_ld (c := 2) (v := .int .i64 (gt l ((w64 (((i3 : Nat) : Int) - 1)).toNat)).t) (hl.spanT_at (inb_lt (imp_of hk47 (and_l (and_l hg76))))).2 rfl Tryz.isAgg2 (gu hg76 rfl) rfl)) ?_
    refine wh1 (c0 := ((decide (0 < ((i3 : Nat) : Int))) && (!(decide ((gt l i3).s < (gt l ((w64 (((i3 : Nat) : Int) - 1)).toNat)).s))))) (g := ((gt l i3).s == (gt l ((w64 (((i3 : Nat) : Int) - 1)).toNat)).s)) rfl rfl rfl rfl rfl (fun hg77 => QV.qo (q_leq rfl (gu hg77 rfl) (gu hg77 rfl))) ?_
    refine wh0 (c0 := (decide (0 < ((i3 : Nat) : Int)))) (g := (decide ((gt l i3).s < (gt l ((w64 (((i3 : Nat) : Int) - 1)).toNat)).s))) rfl rfl rfl rfl rfl (fun hg78 => QV.qo (q_pick rfl (gu hg78 rfl) (pk_and (c := ((decide (0 < ((i3 : Nat) : Int))) && (!(decide ((gt l i3).s < (gt l ((w64 (((i3 : Nat) : Int) - 1)).toNat)).s))))) (g := ((gt l i3).s == (gt l ((w64 (((i3 : Nat) : Int) - 1)).toNat)).s)) (y := (decide ((w64 ((gt l i3).f - 1)) ≤ (gt l ((w64 (((i3 : Nat) : Int) - 1)).toNat)).t))) hg78))) ?_
    refine wg1 rfl rfl rfl rfl rfl (fun hg79 => QV.qo (q_pick rfl (gu hg79 rfl) (pk_or (c := (decide (0 < ((i3 : Nat) : Int)))) (g := (decide ((gt l i3).s < (gt l ((w64 (((i3 : Nat) : Int) - 1)).toNat)).s))) (y := (((gt l i3).s == (gt l ((w64 (((i3 : Nat) : Int) - 1)).toNat)).s) && (decide ((w64 ((gt l i3).f - 1)) ≤ (gt l ((w64 (((i3 : Nat) : Int) - 1)).toNat)).t)))) hg79))) ?_
    refine wa rfl rfl rfl (q_pick rfl rfl (pk_and' (g := (decide (0 < ((i3 : Nat) : Int)))) (y := ((decide ((gt l i3).s < (gt l ((w64 (((i3 : Nat) : Int) - 1)).toNat)).s)) || (((gt l i3).s == (gt l ((w64 (((i3 : Nat) : Int) - 1)).toNat)).s) && (decide ((w64 ((gt l i3).f - 1)) ≤ (gt l ((w64 (((i3 : Nat) : Int) - 1)).toNat)).t))))))) ?_
    refine WQ.nil ?_
    change WC _ _ _ _ _ _
    refine WC.cif h (by kernel_rfl) (fun hb80 h => ?_) (fun hb80 h => ?_)
    ·
     refine WC.rs ?_
     refine as_ (v := .bool false) ?_
     refine WR.done ?_
     refine WC.ret ?_
     intro w hw
     obtain rfl := Option.some.inj h
     subst hF
     exact ⟨by kernel_rfl, hw.fr⟩
    ·
     refine WC.skip ?_
     change WC _ _ _ _ _ _
     refine WC.region ?_
     refine mv (v := .int .i64 ((i3 : Nat) : Int)) ?_
     refine vb (q_add_r (r := ((i3 + 1 : Nat) : Int)) rfl rfl rfl (ctr_len hl8 hl.le)) ?_
     refine as_ (v := .int .i64 ((i3 + 1 : Nat) : Int)) ?_
     refine WR.nil ?_
     intro w hw
     exact ⟨hl8, (), h, (sl_ (by kernel_rfl)), hw, trivial⟩
  ·
   have h := hge6 (ige hb7)
   refine WC.exit ?_
   change WC _ _ _ _ _ _
   refine WC.rs ?_
   refine as_ (v := .bool true) ?_
   refine WR.done ?_
   refine WC.ret ?_
   intro w hw
   obtain rfl := Option.some.inj h
   subst hF
   exact ⟨by kernel_rfl, hw.fr⟩
theorem t_firthref03_Top {Γ : Gh} {w0 : World} {Al : Option Addr} {cl : Nat} {l : List Span} (hl : Sl spanT Γ Al l) (hlc : l.length ≤ cl) (s_ : Int) (hs_ : I64 s_) (hs : Sat Γ w0) {r : Int} (h : m_firthref03_Top l s_ = some r) : Calls Tryz.prog 114 #[.slice Al l.length cl, .int .i64 s_] w0 (fun e w' => e = .returned (.int .i64 r) ∧ Fr no w0 w') := by
 refine calls_of (N := 35) (rs := [4]) (args := [.slice Al l.length cl, .int .i64 s_]) Tryz.func114 rfl Tryz.ntmps114 Tryz.results114 rfl ?_
 obtain ⟨F, hF⟩ : ∃ F : Fm, F = ⟨no, w0, Γ⟩ := ⟨_, rfl⟩
 refine WC.here (C := CC F Γ []) ?_ (hF ▸ Cur.start0 hs)
 refine WC.rs ?_
 refine as_ (v := .int .i64 0) ?_
 refine WR.done ?_
 refine WC.rs ?_
 refine as_ (v := .int .i64 0) ?_
 refine WR.done ?_
 refine WC.seq ?_
 refine WC.rs ?_
 refine as_ (v := .int .i64 0) ?_
 refine WR.done ?_
 refine WC.block ?_
 refine WC.forI h (fun (i4 : Nat) (n_1 : Int) σ w => slots σ [(0, .slice Al l.length cl), (1, .int .i64 s_), (5, .int .i64 n_1), (6, .int .i64 ((i4 : Nat) : Int))] ∧ CC F Γ [] w ∧ I64 n_1 ∧ True) ?_ ?_
 ·
  intro w hw
  exact ⟨(sl_ (by kernel_rfl)), hw, (show I64 0 by decide), trivial⟩
 rintro f3 i4 n_1 σ w hi5 hlt6 hge7 ⟨hsl, hw, hr2, -⟩
 refine Wpt.slots hsl ?_
 refine WC.here (C := CC F Γ []) ?_ hw
 clear hw hsl
 refine WC.seq ?_
 refine WC.rs ?_
 refine mv (v := .int .i64 ((i4 : Nat) : Int)) ?_
 refine mv (v := .slice Al l.length cl) ?_
 refine vb (q_len_slice rfl Tryz.underlying37 rfl) ?_
 refine vb (q_lss rfl rfl rfl) ?_
 refine WR.done ?_
 refine WC.cond (b := (decide (((i4 : Nat) : Int) < ((l.length : Nat) : Int)))) (by kernel_rfl) (fun hb8 => ?_) (fun hb8 => ?_)
 ·
  have hl9 := ilt hb8
  have h := hlt6 hl9
  refine WC.skip ?_
  change WC _ _ _ _ _ _
  refine WC.cut (fun σ w => ∃ (n_10 : Int), m_firthref03_Top_j6 f3 n_10 = some r ∧ slots σ [(0, .slice Al l.length cl), (1, .int .i64 s_), (5, .int .i64 n_10), (6, .int .i64 ((i4 : Nat) : Int))] ∧ CC F Γ [] w ∧ I64 n_10 ∧ True) ?_ ?_
  ·
   refine WC.block ?_
   refine WC.rs ?_
   refine mv (v := .slice Al l.length cl) ?_
   refine mv (v := .int .i64 ((i4 : Nat) : Int)) ?_
   refine vb (q_ixn (i := i4) Tryz.underlying37 Tryz.sizeOf41 rfl rfl rfl hl9 (hl.some_ hl9)) ?_
   refine vb (q_field_addr (i4 * 3) fld_41_0 rfl rfl (hl.some_ hl9) rfl) ?_
   refine vb (q_ld (c := 0) (v := .int .i64 (gt l i4).s) (hl.spanT_at hl9).2 rfl Tryz.isAgg3 rfl rfl) ?_
   refine mv (v := .int .i64 s_) ?_
   refine vb (q_eql rfl rfl rfl) ?_
   refine mv (v := .bool ((gt l i4).s == s_)) ?_
   refine vg1 rfl rfl rfl rfl rfl (fun hg12 => QV.qo (q_move (v := .slice Al l.length cl) rfl (by kernel_rfl))) ?_
   refine vg1 rfl rfl rfl rfl rfl (fun hg13 => QV.qo (q_move (v := .int .i64 ((i4 : Nat) : Int)) rfl (by kernel_rfl))) ?_
   refine vg1 rfl rfl rfl rfl rfl (fun hg14 => QV.qo (q_ixn (i := i4) Tryz.underlying37 Tryz.sizeOf41 rfl (gu hg14 rfl) (gu hg14 rfl) hl9 (hl.some_ hl9))) ?_
   refine vg1 rfl rfl rfl rfl rfl (fun hg15 => QV.qo (q_field_addr (i4 * 3 + 2) fld_41_2 rfl (gu hg15 rfl) (hl.some_ hl9) rfl)) ?_
   refine vg1 rfl rfl rfl rfl rfl (fun hg16 => QV.qo (q_ld (c := 2) (v := .int .i64 (gt l i4).t) (hl.spanT_at hl9).2 rfl Tryz.isAgg2 (gu hg16 rfl) rfl)) ?_
   refine vg1 rfl rfl rfl rfl rfl (fun hg17 => QV.qo (q_move (v := .int .i64 n_1) rfl (by kernel_rfl))) ?_
   refine vg1 rfl rfl rfl rfl rfl (fun hg18 => QV.qo (q_gtr rfl (gu hg18 rfl) (gu hg18 rfl))) ?_
   refine vb (q_pick rfl rfl (pk_and' (g := ((gt l i4).s == s_)) (y := (decide (n_1 < (gt l i4).t))))) ?_
   refine WR.done ?_
   refine WC.cif h (by kernel_rfl) (fun hb19 h => ?_) (fun hb19 h => ?_)
   ·
    refine WC.region ?_
    refine mv (v := .slice Al l.length cl) ?_
    refine mv (v := .int .i64 ((i4 : Nat) : Int)) ?_
    refine vb (q_ixn (i := i4) Tryz.underlying37 Tryz.sizeOf41 rfl rfl rfl hl9 (hl.some_ hl9)) ?_
    refine vb (q_field_addr (i4 * 3 + 2) fld_41_2 rfl rfl (hl.some_ hl9) rfl) ?_
    refine vb (q_ld (c := 2) (v := .int .i64 (gt l i4).t) (hl.spanT_at hl9).2 rfl Tryz.isAgg2 rfl rfl) ?_
    refine as_ (v := .int .i64 (gt l i4).t) ?_
    refine WR.nil ?_
    intro w hw
    exact ⟨(gt l i4).t, h, (sl_ (by kernel_rfl)), hw, (hl.spanT_at hl9).1.2.2, trivial⟩
   ·
    refine WC.skip ?_
    intro w hw
    exact ⟨n_1, h, (sl_ (by kernel_rfl)), hw, hr2, trivial⟩
  ·
   rintro σ w ⟨n_10, h, hsl, hw, hr11, -⟩
   refine Wpt.slots hsl ?_
   refine WC.here (C := CC F Γ []) ?_ hw
   clear hw hsl
   refine WC.region ?_
   refine mv (v := .int .i64 ((i4 : Nat) : Int)) ?_
   refine vb (q_add_r (r := ((i4 + 1 : Nat) : Int)) rfl rfl rfl (ctr_len hl9 hl.le)) ?_
   refine as_ (v := .int .i64 ((i4 + 1 : Nat) : Int)) ?_
   refine WR.nil ?_
   intro w hw
   exact ⟨hl9, n_10, h, (sl_ (by kernel_rfl)), hw, hr11, trivial⟩
 ·
  have h := hge7 (ige hb8)
  refine WC.exit ?_
  change WC _ _ _ _ _ _
  refine WC.rs ?_
  refine mv (v := .int .i64 n_1) ?_
  refine as_ (v := .int .i64 n_1) ?_
  refine WR.done ?_
  refine WC.ret ?_
  intro w hw
  obtain rfl := Option.some.inj h
  subst hF
  exact ⟨by kernel_rfl, hw.fr⟩
theorem t_firthref05_RightOne {Γ : Gh} {w0 : World} {Av_2 : Option Addr} {cv_2 : Nat} (v_ : Ver) (hv_ : Ver.fits Γ Av_2 cv_2 v_) (hs : Sat Γ w0) {r : Bool} (h : m_firthref05_RightOne v_ = some r) : Calls Tryz.prog 64 #[.agg #[.int .i64 v_.dot.s, .int .i64 v_.dot.n, .slice Av_2 v_.past.length cv_2, .bool v_.gone, .string v_.val]] w0 (fun e w' => e = .returned (.bool r) ∧ Fr no w0 w') := by
 refine calls_of (N := 34) (rs := [2]) (args := [.agg #[.int .i64 v_.dot.s, .int .i64 v_.dot.n, .slice Av_2 v_.past.length cv_2, .bool v_.gone, .string v_.val]]) Tryz.func64 rfl Tryz.ntmps64 Tryz.results64 rfl ?_
 obtain ⟨F, hF⟩ : ∃ F : Fm, F = ⟨no, w0, Γ⟩ := ⟨_, rfl⟩
 refine WC.here (C := CC F Γ []) ?_ (hF ▸ Cur.start0 hs)
 refine WC.rs ?_
 refine e_box (v := .agg #[.int .i64 v_.dot.s, .int .i64 v_.dot.n, .slice Av_2 v_.past.length cv_2, .bool v_.gone, .string v_.val]) rfl rfl rfl rfl (by kernel_rfl) ?_
 intro g1
 refine as_ (v := .bool false) ?_
 refine WR.done ?_
 refine WC.seq ?_
 refine WC.seq ?_
 refine WC.dr (by kernel_rfl) (by kernel_rfl) (fun w hw => hw.drawn _) ?_
 refine wa rfl rfl rfl (q_fl 0 fld_39_0 rfl rfl rfl) ?_
 refine wa rfl rfl rfl (q_ldla (i := 0) (vs := [.int .i64 v_.dot.s, .int .i64 v_.dot.n]) rfl rfl Tryz.isAgg36 Tryz.sizeOf36 rfl rfl) ?_
 obtain ⟨z2, hz3, h⟩ := bnd h
 refine wc rfl rfl rfl (q_call (call_run Tryz.call112 rfl rfl (by kernel_rfl)) (fun w hw => t_firthref03_Dot (Γ := Gh.all w) v_.dot ⟨hv_.1, hv_.2.1⟩ (Sat.all w) hz3)) ?_
 refine wa rfl rfl rfl (q_not rfl rfl) ?_
 refine wa rfl rfl rfl (q_move (v := .bool (!z2)) rfl (by kernel_rfl)) ?_
 refine wg0 rfl rfl rfl rfl rfl (fun hg4 => QV.qo (q_fl 2 fld_39_1 rfl rfl rfl)) ?_
 refine wg0 rfl rfl rfl rfl rfl (fun hg5 => QV.qo (q_ldl (i := 0) (v := .slice Av_2 v_.past.length cv_2) rfl rfl Tryz.isAgg37 (gu hg5 rfl) rfl)) ?_
 obtain ⟨z7, hz8, h⟩ := bnd h
 refine wg0 rfl rfl rfl rfl rfl (fun hg6 => (q_call (call_run Tryz.call113 rfl rfl (args1 (gu hg6 rfl))) (fun w hw => t_firthref03_Right (Γ := Gh.all w) (hv_.2.2.1.2.mono hw.sat.le_all) hv_.2.2.1.1 (Sat.all w) (gc_of hz8 hg6)))) ?_
 refine wg0 rfl rfl rfl rfl rfl (fun hg9 => QV.qo (q_not rfl (gu hg9 rfl))) ?_
 refine wa rfl rfl rfl (q_pick rfl rfl (pk_or' (g := (!z2)) (y := (!z7)))) ?_
 refine wa rfl rfl rfl (q_move (v := .bool ((!z2) || (!z7))) rfl (by kernel_rfl)) ?_
 refine wg0 rfl rfl rfl rfl rfl (fun hg10 => QV.qo (q_fl 2 fld_39_1 rfl rfl rfl)) ?_
 refine wg0 rfl rfl rfl rfl rfl (fun hg11 => QV.qo (q_ldl (i := 0) (v := .slice Av_2 v_.past.length cv_2) rfl rfl Tryz.isAgg37 (gu hg11 rfl) rfl)) ?_
 refine wg0 rfl rfl rfl rfl rfl (fun hg12 => QV.qo (q_fl 0 fld_39_0 rfl rfl rfl)) ?_
 refine wg0 rfl rfl rfl rfl rfl (fun hg13 => QV.qo (q_fl 0 fld_36_0 rfl (gu hg13 rfl) rfl)) ?_
 refine wg0 rfl rfl rfl rfl rfl (fun hg14 => QV.qo (q_ldl (i := 0) (v := .int .i64 v_.dot.s) rfl rfl Tryz.isAgg3 (gu hg14 rfl) rfl)) ?_
 obtain ⟨z16, hz17, h⟩ := bnd h
 refine wg0 rfl rfl rfl rfl rfl (fun hg15 => (q_call (call_run Tryz.call114 rfl rfl (args2 (gu hg15 rfl) (gu hg15 rfl))) (fun w hw => t_firthref03_Top (Γ := Gh.all w) (hv_.2.2.1.2.mono hw.sat.le_all) hv_.2.2.1.1 v_.dot.s hv_.1 (Sat.all w) (gc_of hz17 hg15)))) ?_
 refine wg0 rfl rfl rfl rfl rfl (fun hg18 => QV.qo (q_fl 0 fld_39_0 rfl rfl rfl)) ?_
 refine wg0 rfl rfl rfl rfl rfl (fun hg19 => QV.qo (q_fl 1 fld_36_1 rfl (gu hg19 rfl) rfl)) ?_
 refine wg0 rfl rfl rfl rfl rfl (fun hg20 => QV.qo (q_ldl (i := 0) (v := .int .i64 v_.dot.n) rfl rfl Tryz.isAgg2 (gu hg20 rfl) rfl)) ?_
 refine wg0 rfl rfl rfl rfl rfl (fun hg21 => QV.qo (q_geq rfl (gu hg21 rfl) (gu hg21 rfl))) ?_
 refine wa rfl rfl rfl (q_pick rfl rfl (pk_or' (g := ((!z2) || (!z7))) (y := (decide (v_.dot.n ≤ z16))))) ?_
 refine WQ.nil ?_
 change WC _ _ _ _ _ _
 refine WC.cif h (by kernel_rfl) (fun hb22 h => ?_) (fun hb22 h => ?_)
 ·
  refine WC.rs ?_
  refine as_ (v := .bool false) ?_
  refine WR.done ?_
  refine WC.ret ?_
  intro w hw
  obtain rfl := Option.some.inj h
  subst hF
  exact ⟨by kernel_rfl, hw.fr⟩
 ·
  refine WC.skip ?_
  change WC _ _ _ _ _ _
  refine WC.seq ?_
  refine WC.rs ?_
  refine vb (q_fl 3 fld_39_2 rfl rfl rfl) ?_
  refine vb (q_ldl (i := 0) (v := .bool v_.gone) rfl rfl Tryz.isAgg4 rfl rfl) ?_
  refine WR.done ?_
  refine WC.cif h (by kernel_rfl) (fun hb23 h => ?_) (fun hb23 h => ?_)
  ·
   refine WC.rs ?_
   refine vb (q_fl 4 fld_39_3 rfl rfl rfl) ?_
   refine vb (q_ldl (i := 0) (v := .string v_.val) rfl rfl Tryz.isAgg9 rfl rfl) ?_
   refine vb (q_seql rfl rfl rfl) ?_
   refine as_ (v := .bool (v_.val == ByteArray.empty)) ?_
   refine WR.done ?_
   refine WC.ret ?_
   intro w hw
   obtain rfl := Option.some.inj h
   subst hF
   exact ⟨by kernel_rfl, hw.fr⟩
  ·
   refine WC.skip ?_
   change WC _ _ _ _ _ _
   refine WC.rs ?_
   refine vb (q_fl 4 fld_39_3 rfl rfl rfl) ?_
   refine vb (q_ldl (i := 0) (v := .string v_.val) rfl rfl Tryz.isAgg9 rfl rfl) ?_
   refine vb (q_len_str rfl Tryz.underlying9 rfl) ?_
   refine vb (q_leq rfl rfl rfl) ?_
   refine as_ (v := .bool (decide (((v_.val.size : Nat) : Int) ≤ 256))) ?_
   refine WR.done ?_
   refine WC.ret ?_
   intro w hw
   obtain rfl := Option.some.inj h
   subst hF
   exact ⟨by kernel_rfl, hw.fr⟩
theorem t_firthref03_Has {Γ : Gh} {w0 : World} {Al : Option Addr} {cl : Nat} {l : List Span} (hl : Sl spanT Γ Al l) (hlc : l.length ≤ cl) (d : Dot) (hd : Dot.fits Γ  d) (hs : Sat Γ w0) {r : Bool} (h : m_firthref03_Has l d = some r) : Calls Tryz.prog 115 #[.slice Al l.length cl, .agg #[.int .i64 d.s, .int .i64 d.n]] w0 (fun e w' => e = .returned (.bool r) ∧ Fr no w0 w') := by
 refine calls_of (N := 40) (rs := [4]) (args := [.slice Al l.length cl, .agg #[.int .i64 d.s, .int .i64 d.n]]) Tryz.func115 rfl Tryz.ntmps115 Tryz.results115 rfl ?_
 obtain ⟨F, hF⟩ : ∃ F : Fm, F = ⟨no, w0, Γ⟩ := ⟨_, rfl⟩
 refine WC.here (C := CC F Γ []) ?_ (hF ▸ Cur.start0 hs)
 refine WC.rs ?_
 refine e_box (v := .agg #[.int .i64 d.s, .int .i64 d.n]) rfl rfl rfl rfl (by kernel_rfl) ?_
 intro g1
 refine as_ (v := .bool false) ?_
 refine WR.done ?_
 refine WC.seq ?_
 refine WC.rs ?_
 refine as_ (v := .int .i64 0) ?_
 refine WR.done ?_
 refine WC.block ?_
 refine WC.forI h (fun (i3 : Nat) (s : Unit) σ w => match s with | () => slots σ [(0, .slice Al l.length cl), (3, (pq g1)), (5, .int .i64 ((i3 : Nat) : Int))] ∧ CC F Γ [[(g1, .cells #[.int .i64 d.s, .int .i64 d.n] 36 (0, 0))]] w ∧ True) ?_ ?_
 ·
  intro w hw
  exact ⟨(sl_ (by kernel_rfl)), hw, trivial⟩
 rintro f2 i3 ⟨⟩ σ w hi4 hlt5 hge6 ⟨hsl, hw, -⟩
 refine Wpt.slots hsl ?_
 refine WC.here (C := CC F Γ [[(g1, .cells #[.int .i64 d.s, .int .i64 d.n] 36 (0, 0))]]) ?_ hw
 clear hw hsl
 refine WC.seq ?_
 refine WC.rs ?_
 refine mv (v := .int .i64 ((i3 : Nat) : Int)) ?_
 refine mv (v := .slice Al l.length cl) ?_
 refine vb (q_len_slice rfl Tryz.underlying37 rfl) ?_
 refine vb (q_lss rfl rfl rfl) ?_
 refine WR.done ?_
 refine WC.cond (b := (decide (((i3 : Nat) : Int) < ((l.length : Nat) : Int)))) (by kernel_rfl) (fun hb7 => ?_) (fun hb7 => ?_)
 ·
  have hl8 := ilt hb7
  have h := hlt5 hl8
  refine WC.skip ?_
  change WC _ _ _ _ _ _
  refine WC.seq ?_
  refine WC.block ?_
  refine WC.seq ?_
  refine WC.dr (by kernel_rfl) (by kernel_rfl) (fun w hw => hw.drawn _) ?_
  refine wa rfl rfl rfl (q_move (v := .slice Al l.length cl) rfl (by kernel_rfl)) ?_
  refine wa rfl rfl rfl (q_move (v := .int .i64 ((i3 : Nat) : Int)) rfl (by kernel_rfl)) ?_
  refine wa rfl rfl rfl (q_ixn (i := i3) Tryz.underlying37 Tryz.sizeOf41 rfl rfl rfl hl8 (hl.some_ hl8)) ?_
  refine wa rfl rfl rfl (q_field_addr (i3 * 3) fld_41_0 rfl rfl (hl.some_ hl8) rfl) ?_
  refine wa rfl rfl rfl (q_ld (c := 0) (v := .int .i64 (gt l i3).s) (hl.spanT_at hl8).2 rfl Tryz.isAgg3 rfl rfl) ?_
  refine wa rfl rfl rfl (q_fl 0 fld_36_0 rfl rfl rfl) ?_
  refine wa rfl rfl rfl (q_ldl (i := 0) (v := .int .i64 d.s) rfl rfl Tryz.isAgg3 rfl rfl) ?_
  refine wa rfl rfl rfl (q_eql rfl rfl rfl) ?_
  refine wa rfl rfl rfl (q_move (v := .bool ((gt l i3).s == d.s)) rfl (by kernel_rfl)) ?_
  refine wg1 rfl rfl rfl rfl rfl (fun hg9 => QV.qo (q_fl 1 fld_36_1 rfl rfl rfl)) ?_
  refine wg1 rfl rfl rfl rfl rfl (fun hg10 => QV.qo (q_ldl (i := 0) (v := .int .i64 d.n) rfl rfl Tryz.isAgg2 (gu hg10 rfl) rfl)) ?_
  refine wg1 rfl rfl rfl rfl rfl (fun hg11 => QV.qo (q_move (v := .slice Al l.length cl) rfl (by kernel_rfl))) ?_
  refine wg1 rfl rfl rfl rfl rfl (fun hg12 => QV.qo (q_move (v := .int .i64 ((i3 : Nat) : Int)) rfl (by kernel_rfl))) ?_
  refine wg1 rfl rfl rfl rfl rfl (fun hg13 => QV.qo (q_ixn (i := i3) Tryz.underlying37 Tryz.sizeOf41 rfl (gu hg13 rfl) (gu hg13 rfl) hl8 (hl.some_ hl8))) ?_
  refine wg1 rfl rfl rfl rfl rfl (fun hg14 => QV.qo (q_field_addr (i3 * 3 + 1) fld_41_1 rfl (gu hg14 rfl) (hl.some_ hl8) rfl)) ?_
  refine wg1 rfl rfl rfl rfl rfl (fun hg15 => QV.qo (q_ld (c := 1) (v := .int .i64 (gt l i3).f) (hl.spanT_at hl8).2 rfl Tryz.isAgg2 (gu hg15 rfl) rfl)) ?_
  refine wg1 rfl rfl rfl rfl rfl (fun hg16 => QV.qo (q_geq rfl (gu hg16 rfl) (gu hg16 rfl))) ?_
  refine wa rfl rfl rfl (q_pick rfl rfl (pk_and' (g := ((gt l i3).s == d.s)) (y := (decide ((gt l i3).f ≤ d.n))))) ?_
  refine wa rfl rfl rfl (q_move (v := .bool (((gt l i3).s == d.s) && (decide ((gt l i3).f ≤ d.n)))) rfl (by kernel_rfl)) ?_
  refine wg1 rfl rfl rfl rfl rfl (fun hg17 => QV.qo (q_fl 1 fld_36_1 rfl rfl rfl)) ?_
  refine wg1 rfl rfl rfl rfl rfl (fun hg18 => QV.qo (q_ldl (i := 0) (v := .int .i64 d.n) rfl rfl Tryz.isAgg2 (gu hg18 rfl) rfl)) ?_
  refine wg1 rfl rfl rfl rfl rfl (fun hg19 => QV.qo (q_move (v := .slice Al l.length cl) rfl (by kernel_rfl))) ?_
  refine wg1 rfl rfl rfl rfl rfl (fun hg20 => QV.qo (q_move (v := .int .i64 ((i3 : Nat) : Int)) rfl (by kernel_rfl))) ?_
  refine wg1 rfl rfl rfl rfl rfl (fun hg21 => QV.qo (q_ixn (i := i3) Tryz.underlying37 Tryz.sizeOf41 rfl (gu hg21 rfl) (gu hg21 rfl) hl8 (hl.some_ hl8))) ?_
  refine wg1 rfl rfl rfl rfl rfl (fun hg22 => QV.qo (q_field_addr (i3 * 3 + 2) fld_41_2 rfl (gu hg22 rfl) (hl.some_ hl8) rfl)) ?_
  refine wg1 rfl rfl rfl rfl rfl (fun hg23 => QV.qo (q_ld (c := 2) (v := .int .i64 (gt l i3).t) (hl.spanT_at hl8).2 rfl Tryz.isAgg2 (gu hg23 rfl) rfl)) ?_
  refine wg1 rfl rfl rfl rfl rfl (fun hg24 => QV.qo (q_leq rfl (gu hg24 rfl) (gu hg24 rfl))) ?_
  refine wa rfl rfl rfl (q_pick rfl rfl (pk_and' (g := (((gt l i3).s == d.s) && (decide ((gt l i3).f ≤ d.n)))) (y := (decide (d.n ≤ (gt l i3).t))))) ?_
  refine WQ.nil ?_
  change WC _ _ _ _ _ _
  refine WC.cif h (by kernel_rfl) (fun hb25 h => ?_) (fun hb25 h => ?_)
  ·
   refine WC.rs ?_
   refine as_ (v := .bool true) ?_
   refine WR.done ?_
   refine WC.ret ?_
   intro w hw
   obtain rfl := Option.some.inj h
   subst hF
   exact ⟨by kernel_rfl, hw.fr⟩
  ·
   refine WC.skip ?_
   change WC _ _ _ _ _ _
   refine WC.region ?_
   refine mv (v := .int .i64 ((i3 : Nat) : Int)) ?_
   refine vb (q_add_r (r := ((i3 + 1 : Nat) : Int)) rfl rfl rfl (ctr_len hl8 hl.le)) ?_
   refine as_ (v := .int .i64 ((i3 + 1 : Nat) : Int)) ?_
   refine WR.nil ?_
   intro w hw
   exact ⟨hl8, (), h, (sl_ (by kernel_rfl)), hw, trivial⟩
 ·
  have h := hge6 (ige hb7)
  refine WC.exit ?_
  change WC _ _ _ _ _ _
  refine WC.rs ?_
  refine as_ (v := .bool false) ?_
  refine WR.done ?_
  refine WC.ret ?_
  intro w hw
  obtain rfl := Option.some.inj h
  subst hF
  exact ⟨by kernel_rfl, hw.fr⟩
theorem t_firthref05_Behind {Γ : Gh} {w0 : World} {Al : Option Addr} {cl : Nat} {l : List Ver} (hl : Sl verT Γ Al l) (hlc : l.length ≤ cl) (d : Dot) (hd : Dot.fits Γ  d) (hs : Sat Γ w0) {r : Bool} (h : m_firthref05_Behind l d = some r) : Calls Tryz.prog 65 #[.slice Al l.length cl, .agg #[.int .i64 d.s, .int .i64 d.n]] w0 (fun e w' => e = .returned (.bool r) ∧ Fr no w0 w') := by
 refine calls_of (N := 19) (rs := [4]) (args := [.slice Al l.length cl, .agg #[.int .i64 d.s, .int .i64 d.n]]) Tryz.func65 rfl Tryz.ntmps65 Tryz.results65 rfl ?_
 obtain ⟨F, hF⟩ : ∃ F : Fm, F = ⟨no, w0, Γ⟩ := ⟨_, rfl⟩
 refine WC.here (C := CC F Γ []) ?_ (hF ▸ Cur.start0 hs)
 refine WC.rs ?_
 refine e_box (v := .agg #[.int .i64 d.s, .int .i64 d.n]) rfl rfl rfl rfl (by kernel_rfl) ?_
 intro g1
 refine as_ (v := .bool false) ?_
 refine WR.done ?_
 refine WC.seq ?_
 refine WC.rs ?_
 refine as_ (v := .int .i64 0) ?_
 refine WR.done ?_
 refine WC.block ?_
 refine WC.forI h (fun (i3 : Nat) (s : Unit) σ w => match s with | () => slots σ [(0, .slice Al l.length cl), (3, (pq g1)), (5, .int .i64 ((i3 : Nat) : Int))] ∧ CC F Γ [[(g1, .cells #[.int .i64 d.s, .int .i64 d.n] 36 (0, 0))]] w ∧ True) ?_ ?_
 ·
  intro w hw
  exact ⟨(sl_ (by kernel_rfl)), hw, trivial⟩
 rintro f2 i3 ⟨⟩ σ w hi4 hlt5 hge6 ⟨hsl, hw, -⟩
 refine Wpt.slots hsl ?_
 refine WC.here (C := CC F Γ [[(g1, .cells #[.int .i64 d.s, .int .i64 d.n] 36 (0, 0))]]) ?_ hw
 clear hw hsl
 refine WC.seq ?_
 refine WC.rs ?_
 refine mv (v := .int .i64 ((i3 : Nat) : Int)) ?_
 refine mv (v := .slice Al l.length cl) ?_
 refine vb (q_len_slice rfl Tryz.underlying22 rfl) ?_
 refine vb (q_lss rfl rfl rfl) ?_
 refine WR.done ?_
 refine WC.cond (b := (decide (((i3 : Nat) : Int) < ((l.length : Nat) : Int)))) (by kernel_rfl) (fun hb7 => ?_) (fun hb7 => ?_)
 ·
  have hl8 := ilt hb7
  have h := hlt5 hl8
  refine WC.skip ?_
  change WC _ _ _ _ _ _
  refine WC.seq ?_
  refine WC.block ?_
  refine WC.seq ?_
  refine WC.dr (by kernel_rfl) (by kernel_rfl) (fun w hw => hw.drawn _) ?_
  refine wa rfl rfl rfl (q_move (v := .slice Al l.length cl) rfl (by kernel_rfl)) ?_
  refine wa rfl rfl rfl (q_move (v := .int .i64 ((i3 : Nat) : Int)) rfl (by kernel_rfl)) ?_
  refine wa rfl rfl rfl (q_ixn (i := i3) Tryz.underlying22 Tryz.sizeOf39 rfl rfl rfl hl8 (hl.some_ hl8)) ?_
  refine wa rfl rfl rfl (q_field_addr (i3 * 5 + 2) fld_39_1 rfl rfl (hl.some_ hl8) rfl) ?_
  obtain ⟨A9, c10, hx11⟩ := hl.verT_at i3
  refine wa rfl rfl rfl (q_ld (c := 2) (v := .slice A9 ((gt l i3).past).length c10) (hx11 hl8).2 rfl Tryz.isAgg37 rfl rfl) ?_
  refine wa rfl rfl rfl (q_ldla (i := 0) (vs := [.int .i64 d.s, .int .i64 d.n]) rfl rfl Tryz.isAgg36 Tryz.sizeOf36 rfl rfl) ?_
  obtain ⟨z12, hz13, h⟩ := bnd h
  refine wc rfl rfl rfl (q_call (call_run Tryz.call115 rfl rfl (by kernel_rfl)) (fun w hw => t_firthref03_Has (Γ := Gh.all w) ((hx11 hl8).1.2.2.1.2.mono hw.sat.le_all) (hx11 hl8).1.2.2.1.1 d hd (Sat.all w) hz13)) ?_
  refine WQ.nil ?_
  change WC _ _ _ _ _ _
  refine WC.cif h (by kernel_rfl) (fun hb14 h => ?_) (fun hb14 h => ?_)
  ·
   refine WC.rs ?_
   refine as_ (v := .bool true) ?_
   refine WR.done ?_
   refine WC.ret ?_
   intro w hw
   obtain rfl := Option.some.inj h
   subst hF
   exact ⟨by kernel_rfl, hw.fr⟩
  ·
   refine WC.skip ?_
   change WC _ _ _ _ _ _
   refine WC.region ?_
   refine mv (v := .int .i64 ((i3 : Nat) : Int)) ?_
   refine vb (q_add_r (r := ((i3 + 1 : Nat) : Int)) rfl rfl rfl (ctr_len hl8 hl.le)) ?_
   refine as_ (v := .int .i64 ((i3 + 1 : Nat) : Int)) ?_
   refine WR.nil ?_
   intro w hw
   exact ⟨hl8, (), h, (sl_ (by kernel_rfl)), hw, trivial⟩
 ·
  have h := hge6 (ige hb7)
  refine WC.exit ?_
  change WC _ _ _ _ _ _
  refine WC.rs ?_
  refine as_ (v := .bool false) ?_
  refine WR.done ?_
  refine WC.ret ?_
  intro w hw
  obtain rfl := Option.some.inj h
  subst hF
  exact ⟨by kernel_rfl, hw.fr⟩
theorem t_firthref05_Less {Γ : Gh} {w0 : World} (a : Dot) (ha : Dot.fits Γ  a) (b : Dot) (hb : Dot.fits Γ  b) (hs : Sat Γ w0) {r : Bool} (h : m_firthref05_Less a b = some r) : Calls Tryz.prog 66 #[.agg #[.int .i64 a.s, .int .i64 a.n], .agg #[.int .i64 b.s, .int .i64 b.n]] w0 (fun e w' => e = .returned (.bool r) ∧ Fr no w0 w') := by
 refine calls_of (N := 20) (rs := [4]) (args := [.agg #[.int .i64 a.s, .int .i64 a.n], .agg #[.int .i64 b.s, .int .i64 b.n]]) Tryz.func66 rfl Tryz.ntmps66 Tryz.results66 rfl ?_
 obtain ⟨F, hF⟩ : ∃ F : Fm, F = ⟨no, w0, Γ⟩ := ⟨_, rfl⟩
 refine WC.here (C := CC F Γ []) ?_ (hF ▸ Cur.start0 hs)
 refine WC.rs ?_
 refine e_box (v := .agg #[.int .i64 a.s, .int .i64 a.n]) rfl rfl rfl rfl (by kernel_rfl) ?_
 intro g1
 refine e_box (v := .agg #[.int .i64 b.s, .int .i64 b.n]) rfl rfl rfl rfl (by kernel_rfl) ?_
 intro g2
 refine as_ (v := .bool false) ?_
 refine WR.done ?_
 refine WC.seq ?_
 refine WC.rs ?_
 refine vb (q_fl 0 fld_36_0 rfl rfl rfl) ?_
 refine vb (q_ldl (i := 1) (v := .int .i64 a.s) rfl rfl Tryz.isAgg3 rfl rfl) ?_
 refine vb (q_fl 0 fld_36_0 rfl rfl rfl) ?_
 refine vb (q_ldl (i := 0) (v := .int .i64 b.s) rfl rfl Tryz.isAgg3 rfl rfl) ?_
 refine vb (q_neq rfl rfl rfl) ?_
 refine WR.done ?_
 refine WC.cif h (by kernel_rfl) (fun hb3 h => ?_) (fun hb3 h => ?_)
 ·
  refine WC.rs ?_
  refine vb (q_fl 0 fld_36_0 rfl rfl rfl) ?_
  refine vb (q_ldl (i := 1) (v := .int .i64 a.s) rfl rfl Tryz.isAgg3 rfl rfl) ?_
  refine vb (q_fl 0 fld_36_0 rfl rfl rfl) ?_
  refine vb (q_ldl (i := 0) (v := .int .i64 b.s) rfl rfl Tryz.isAgg3 rfl rfl) ?_
  refine vb (q_lss rfl rfl rfl) ?_
  refine as_ (v := .bool (decide (a.s < b.s))) ?_
  refine WR.done ?_
  refine WC.ret ?_
  intro w hw
  obtain rfl := Option.some.inj h
  subst hF
  exact ⟨by kernel_rfl, hw.fr⟩
 ·
  refine WC.skip ?_
  change WC _ _ _ _ _ _
  refine WC.rs ?_
  refine vb (q_fl 1 fld_36_1 rfl rfl rfl) ?_
  refine vb (q_ldl (i := 1) (v := .int .i64 a.n) rfl rfl Tryz.isAgg2 rfl rfl) ?_
  refine vb (q_fl 1 fld_36_1 rfl rfl rfl) ?_
  refine vb (q_ldl (i := 0) (v := .int .i64 b.n) rfl rfl Tryz.isAgg2 rfl rfl) ?_
  refine vb (q_lss rfl rfl rfl) ?_
  refine as_ (v := .bool (decide (a.n < b.n))) ?_
  refine WR.done ?_
  refine WC.ret ?_
  intro w hw
  obtain rfl := Option.some.inj h
  subst hF
  exact ⟨by kernel_rfl, hw.fr⟩
theorem t_firthref05_Right {Γ : Gh} {w0 : World} {Al : Option Addr} {cl : Nat} {l : List Ver} (hl : Sl verT Γ Al l) (hlc : l.length ≤ cl) (hs : Sat Γ w0) {r : Bool} (h : m_firthref05_Right l = some r) : Calls Tryz.prog 32 #[.slice Al l.length cl] w0 (fun e w' => e = .returned (.bool r) ∧ Fr no w0 w') := by
 refine calls_of (N := 45) (rs := [2]) (args := [.slice Al l.length cl]) Tryz.func32 rfl Tryz.ntmps32 Tryz.results32 rfl ?_
 obtain ⟨F, hF⟩ : ∃ F : Fm, F = ⟨no, w0, Γ⟩ := ⟨_, rfl⟩
 refine WC.here (C := CC F Γ []) ?_ (hF ▸ Cur.start0 hs)
 refine WC.rs ?_
 refine as_ (v := .bool false) ?_
 refine WR.done ?_
 refine WC.seq ?_
 refine WC.rs ?_
 refine mv (v := .slice Al l.length cl) ?_
 refine vb (q_len_slice rfl Tryz.underlying22 rfl) ?_
 refine vb (q_gtr rfl rfl rfl) ?_
 refine WR.done ?_
 refine WC.cif h (by kernel_rfl) (fun hb1 h => ?_) (fun hb1 h => ?_)
 ·
  refine WC.rs ?_
  refine as_ (v := .bool false) ?_
  refine WR.done ?_
  refine WC.ret ?_
  intro w hw
  obtain rfl := Option.some.inj h
  subst hF
  exact ⟨by kernel_rfl, hw.fr⟩
 ·
  refine WC.skip ?_
  change WC _ _ _ _ _ _
  refine WC.seq ?_
  refine WC.rs ?_
  refine as_ (v := .int .i64 0) ?_
  refine WR.done ?_
  refine WC.block ?_
  refine WC.forI h (fun (i3 : Nat) (s : Unit) σ w => match s with | () => slots σ [(0, .slice Al l.length cl), (3, .int .i64 ((i3 : Nat) : Int))] ∧ CC F Γ [] w ∧ True) ?_ ?_
  ·
   intro w hw
   exact ⟨(sl_ (by kernel_rfl)), hw, trivial⟩
  rintro f2 i3 ⟨⟩ σ w hi4 hlt5 hge6 ⟨hsl, hw, -⟩
  refine Wpt.slots hsl ?_
  refine WC.here (C := CC F Γ []) ?_ hw
  clear hw hsl
  refine WC.seq ?_
  refine WC.rs ?_
  refine mv (v := .int .i64 ((i3 : Nat) : Int)) ?_
  refine mv (v := .slice Al l.length cl) ?_
  refine vb (q_len_slice rfl Tryz.underlying22 rfl) ?_
  refine vb (q_lss rfl rfl rfl) ?_
  refine WR.done ?_
  refine WC.cond (b := (decide (((i3 : Nat) : Int) < ((l.length : Nat) : Int)))) (by kernel_rfl) (fun hb7 => ?_) (fun hb7 => ?_)
  ·
   have hl8 := ilt hb7
   have h := hlt5 hl8
   refine WC.skip ?_
   change WC _ _ _ _ _ _
   refine WC.seq ?_
   refine WC.block ?_
   refine WC.seq ?_
   refine WC.rs ?_
   refine mv (v := .slice Al l.length cl) ?_
   refine mv (v := .int .i64 ((i3 : Nat) : Int)) ?_
   refine vb (q_ixn (i := i3) Tryz.underlying22 Tryz.sizeOf39 rfl rfl rfl hl8 (hl.some_ hl8)) ?_
   obtain ⟨A9, c10, hx11⟩ := hl.verT_at i3
   refine vb (q_lda (c := 0) (vs := [.int .i64 (gt l i3).dot.s, .int .i64 (gt l i3).dot.n, .slice A9 ((gt l i3).past).length c10, .bool (gt l i3).gone, .string (gt l i3).val]) (hx11 hl8).2 rfl Tryz.isAgg39 Tryz.sizeOf39 rfl rfl rfl) ?_
   obtain ⟨z12, hz13, h⟩ := bnd h
   refine vc rfl rfl rfl (q_call (call_run Tryz.call64 rfl rfl (by kernel_rfl)) (fun w hw => t_firthref05_RightOne (Γ := Gh.all w) (gt l i3) (Ver.fits_mono (hx11 hl8).1 hw.sat.le_all) (Sat.all w) hz13)) ?_
   refine vb (q_not rfl rfl) ?_
   refine mv (v := .bool (!z12)) ?_
   refine vg0 rfl rfl rfl rfl rfl (fun hg14 => QV.qo (q_move (v := .slice Al l.length cl) rfl (by kernel_rfl))) ?_
   refine vg0 rfl rfl rfl rfl rfl (fun hg15 => QV.qo (q_move (v := .slice Al l.length cl) rfl (by kernel_rfl))) ?_
   refine vg0 rfl rfl rfl rfl rfl (fun hg16 => QV.qo (q_move (v := .int .i64 ((i3 : Nat) : Int)) rfl (by kernel_rfl))) ?_
   refine vg0 rfl rfl rfl rfl rfl (fun hg17 => QV.qo (q_ixn (i := i3) Tryz.underlying22 Tryz.sizeOf39 rfl (gu hg17 rfl) (gu hg17 rfl) hl8 (hl.some_ hl8))) ?_
   refine vg0 rfl rfl rfl rfl rfl (fun hg18 => QV.qo (q_field_addr (i3 * 5) fld_39_0 rfl (gu hg18 rfl) (hl.some_ hl8) rfl)) ?_
   refine vg0 rfl rfl rfl rfl rfl (fun hg19 => QV.qo (q_lda (c := 0) (vs := [.int .i64 (gt l i3).dot.s, .int .i64 (gt l i3).dot.n]) (hx11 hl8).2 rfl Tryz.isAgg36 Tryz.sizeOf36 (gu hg19 rfl) rfl rfl)) ?_
   obtain ⟨z21, hz22, h⟩ := bnd h
   refine vg0 rfl rfl rfl rfl rfl (fun hg20 => (q_call (call_run Tryz.call65 rfl rfl (args2 (gu hg20 rfl) (gu hg20 rfl))) (fun w hw => t_firthref05_Behind (Γ := Gh.all w) (hl.mono hw.sat.le_all) hlc ((gt l i3).dot) ⟨(hx11 hl8).1.1, (hx11 hl8).1.2.1⟩ (Sat.all w) (gc_of hz22 hg20)))) ?_
   refine vb (q_pick rfl rfl (pk_or' (g := (!z12)) (y := z21))) ?_
   refine WR.done ?_
   refine WC.cif h (by kernel_rfl) (fun hb23 h => ?_) (fun hb23 h => ?_)
   ·
    refine WC.rs ?_
    refine as_ (v := .bool false) ?_
    refine WR.done ?_
    refine WC.ret ?_
    intro w hw
    obtain rfl := Option.some.inj h
    subst hF
    exact ⟨by kernel_rfl, hw.fr⟩
   ·
    refine WC.skip ?_
    change WC _ _ _ _ _ _
    refine WC.seq ?_
    refine WC.dr (by kernel_rfl) (by kernel_rfl) (fun w hw => hw.drawn _) ?_
    refine wa rfl rfl rfl (q_move (v := .int .i64 ((i3 : Nat) : Int)) rfl (by kernel_rfl)) ?_
    refine wa rfl rfl rfl (q_gtr rfl rfl rfl) ?_
    refine wa rfl rfl rfl (q_move (v := .bool (decide (0 < ((i3 : Nat) : Int)))) rfl (by kernel_rfl)) ?_
    refine wg1 rfl rfl rfl rfl rfl (fun hg24 => QV.qo (q_move (v := .slice Al l.length cl) rfl (by kernel_rfl))) ?_
    refine wg1 rfl rfl rfl rfl rfl (fun hg25 => QV.qo (q_move (v := .int .i64 ((i3 : Nat) : Int)) rfl (by kernel_rfl))) ?_
    refine wg1 rfl rfl rfl rfl rfl (fun hg26 => QV.qo (q_sub rfl (gu hg26 rfl) rfl)) ?_
    obtain ⟨hk28, h⟩ := chk_some h
    refine wg1 rfl rfl rfl rfl rfl (fun hg27 => QV.qo (q_ix Tryz.underlying22 Tryz.sizeOf39 rfl (gu hg27 rfl) (gu hg27 rfl) (imp_of hk28 hg27) (hl.some_ (inb_lt (imp_of hk28 hg27))))) ?_
    refine wg1 rfl rfl rfl rfl rfl (fun hg29 => QV.qo (q_field_addr (((w64 (((i3 : Nat) : Int) - 1)).toNat) * 5) fld_39_0 rfl (gu hg29 rfl) (hl.some_ (inb_lt (imp_of hk28 hg29))) rfl)) ?_
    obtain ⟨A31, c32, hx33⟩ := hl.verT_at ((w64 (((i3 : Nat) : Int) - 1)).toNat)
    refine wg1 rfl rfl rfl rfl rfl (fun hg30 => QV.qo (q_lda (c := 0) (vs := [.int .i64 (gt l ((w64 (((i3 : Nat) : Int) - 1)).toNat)).dot.s, .int .i64 (gt l ((w64 (((i3 : Nat) : Int) - 1)).toNat)).dot.n]) (hx33 (inb_lt (imp_of hk28 hg30))).2 rfl Tryz.isAgg36 Tryz.sizeOf36 (gu hg30 rfl) rfl rfl)) ?_
    refine wg1 rfl rfl rfl rfl rfl (fun hg34 => QV.qo (q_move (v := .slice Al l.length cl) rfl (by kernel_rfl))) ?_
    refine wg1 rfl rfl rfl rfl rfl (fun hg35 => QV.qo (q_move (v := .int .i64 ((i3 : Nat) : Int)) rfl (by kernel_rfl))) ?_
    refine wg1 rfl rfl rfl rfl rfl (fun hg36 => QV.qo (q_ixn (i := i3) Tryz.underlying22 Tryz.sizeOf39 rfl (gu hg36 rfl) (gu hg36 rfl) hl8 (hl.some_ hl8))) ?_
    refine wg1 rfl rfl rfl rfl rfl (fun hg37 => QV.qo (q_field_addr (i3 * 5) fld_39_0 rfl (gu hg37 rfl) (hl.some_ hl8) rfl)) ?_
    refine wg1 rfl rfl rfl rfl rfl (fun hg38 => QV.qo (q_lda (c := 0) (vs := [.int .i64 (gt l i3).dot.s, .int .i64 (gt l i3).dot.n]) (hx11 hl8).2 rfl Tryz.isAgg36 Tryz.sizeOf36 (gu hg38 rfl) rfl rfl)) ?_
    obtain ⟨z40, hz41, h⟩ := bnd h
    refine wg1 rfl rfl rfl rfl rfl (fun hg39 => (q_call (call_run Tryz.call66 rfl rfl (args2 (gu hg39 rfl) (gu hg39 rfl))) (fun w hw => t_firthref05_Less (Γ := Gh.all w) ((gt l ((w64 (((i3 : Nat) : Int) - 1)).toNat)).dot) ⟨(hx33 (inb_lt (imp_of hk28 hg39))).1.1, (hx33 (inb_lt (imp_of hk28 hg39))).1.2.1⟩ ((gt l i3).dot) ⟨(hx11 hl8).1.1, (hx11 hl8).1.2.1⟩ (Sat.all w) (gc_of hz41 hg39)))) ?_
    refine wg1 rfl rfl rfl rfl rfl (fun hg42 => QV.qo (q_not rfl (gu hg42 rfl))) ?_
    refine wa rfl rfl rfl (q_pick rfl rfl (pk_and' (g := (decide (0 < ((i3 : Nat) : Int)))) (y := (!z40)))) ?_
    refine WQ.nil ?_
    change WC _ _ _ _ _ _
    refine WC.cif h (by kernel_rfl) (fun hb43 h => ?_) (fun hb43 h => ?_)
    ·
     refine WC.rs ?_
     refine as_ (v := .bool false) ?_
     refine WR.done ?_
     refine WC.ret ?_
     intro w hw
     obtain rfl := Option.some.inj h
     subst hF
     exact ⟨by kernel_rfl, hw.fr⟩
    ·
     refine WC.skip ?_
     change WC _ _ _ _ _ _
     refine WC.region ?_
     refine mv (v := .int .i64 ((i3 : Nat) : Int)) ?_
     refine vb (q_add_r (r := ((i3 + 1 : Nat) : Int)) rfl rfl rfl (ctr_len hl8 hl.le)) ?_
     refine as_ (v := .int .i64 ((i3 + 1 : Nat) : Int)) ?_
     refine WR.nil ?_
     intro w hw
     exact ⟨hl8, (), h, (sl_ (by kernel_rfl)), hw, trivial⟩
  ·
   have h := hge6 (ige hb7)
   refine WC.exit ?_
   change WC _ _ _ _ _ _
   refine WC.rs ?_
   refine as_ (v := .bool true) ?_
   refine WR.done ?_
   refine WC.ret ?_
   intro w hw
   obtain rfl := Option.some.inj h
   subst hF
   exact ⟨by kernel_rfl, hw.fr⟩
theorem t_firthref06_RightRec {Γ : Gh} {w0 : World} {Ar_1 : Option Addr} {cr_1 : Nat} (r_ : Rec) (hr_ : Rec.fits Γ Ar_1 cr_1 r_) (hs : Sat Γ w0) {r : Bool} (h : m_firthref06_RightRec r_ = some r) : Calls Tryz.prog 7 #[.agg #[.string r_.key, .slice Ar_1 r_.vers.length cr_1]] w0 (fun e w' => e = .returned (.bool r) ∧ Fr no w0 w') := by
 refine calls_of (N := 17) (rs := [2]) (args := [.agg #[.string r_.key, .slice Ar_1 r_.vers.length cr_1]]) Tryz.func7 rfl Tryz.ntmps7 Tryz.results7 rfl ?_
 obtain ⟨F, hF⟩ : ∃ F : Fm, F = ⟨no, w0, Γ⟩ := ⟨_, rfl⟩
 refine WC.here (C := CC F Γ []) ?_ (hF ▸ Cur.start0 hs)
 refine WC.rs ?_
 refine e_box (v := .agg #[.string r_.key, .slice Ar_1 r_.vers.length cr_1]) rfl rfl rfl rfl (by kernel_rfl) ?_
 intro g1
 refine as_ (v := .bool false) ?_
 refine WR.done ?_
 refine WC.rs ?_
 refine vb (q_fl 0 fld_24_0 rfl rfl rfl) ?_
 refine vb (q_ldl (i := 0) (v := .string r_.key) rfl rfl Tryz.isAgg9 rfl rfl) ?_
 refine vb (q_sneq rfl rfl rfl) ?_
 refine mv (v := .bool (r_.key != ByteArray.empty)) ?_
 refine vg1 rfl rfl rfl rfl rfl (fun hg2 => QV.qo (q_fl 0 fld_24_0 rfl rfl rfl)) ?_
 refine vg1 rfl rfl rfl rfl rfl (fun hg3 => QV.qo (q_ldl (i := 0) (v := .string r_.key) rfl rfl Tryz.isAgg9 (gu hg3 rfl) rfl)) ?_
 refine vg1 rfl rfl rfl rfl rfl (fun hg4 => QV.qo (q_len_str rfl Tryz.underlying9 (gu hg4 rfl))) ?_
 refine vg1 rfl rfl rfl rfl rfl (fun hg5 => QV.qo (q_leq rfl (gu hg5 rfl) rfl)) ?_
 refine vb (q_pick rfl rfl (pk_and' (g := (r_.key != ByteArray.empty)) (y := (decide (((r_.key.size : Nat) : Int) ≤ 32))))) ?_
 refine mv (v := .bool ((r_.key != ByteArray.empty) && (decide (((r_.key.size : Nat) : Int) ≤ 32)))) ?_
 refine vg1 rfl rfl rfl rfl rfl (fun hg6 => QV.qo (q_fl 1 fld_24_1 rfl rfl rfl)) ?_
 refine vg1 rfl rfl rfl rfl rfl (fun hg7 => QV.qo (q_ldl (i := 0) (v := .slice Ar_1 r_.vers.length cr_1) rfl rfl Tryz.isAgg22 (gu hg7 rfl) rfl)) ?_
 obtain ⟨z9, hz10, h⟩ := bnd h
 refine vg1 rfl rfl rfl rfl rfl (fun hg8 => (q_call (call_run Tryz.call32 rfl rfl (args1 (gu hg8 rfl))) (fun w hw => t_firthref05_Right (Γ := Gh.all w) (hr_.2.2.mono hw.sat.le_all) hr_.2.1 (Sat.all w) (gc_of hz10 hg8)))) ?_
 refine vb (q_pick rfl rfl (pk_and' (g := ((r_.key != ByteArray.empty) && (decide (((r_.key.size : Nat) : Int) ≤ 32)))) (y := z9))) ?_
 refine as_ (v := .bool (((r_.key != ByteArray.empty) && (decide (((r_.key.size : Nat) : Int) ≤ 32))) && z9)) ?_
 refine WR.done ?_
 refine WC.ret ?_
 intro w hw
 obtain rfl := Option.some.inj h
 subst hF
 exact ⟨by kernel_rfl, hw.fr⟩
abbrev r_firthref10_Own_l0 (r : Rec) (U : List Rowb) (Γ : Gh) (v : Value) : Prop := ∃ (A0_1 : Option Addr), ∃ (c0_1 : Nat), v = .agg #[.string r.key, .slice A0_1 r.vers.length c0_1] ∧ U = [] ∧ Rec.fits Γ A0_1 c0_1 r ∧ True
theorem t_firthref10_Own_l0 {Γ : Gh} {w0 : World} {B : Gh} {Ar_1 : Option Addr} {cr_1 : Nat} (r_ : Rec) (hr_ : Rec.fits B Ar_1 cr_1 r_) (hp : Pre [] Γ w0) (hpB : Pre [] B w0) {r : Rec} (h : m_firthref10_Own r_ = some r) : Calls Tryz.prog 10 #[.agg #[.string r_.key, .slice Ar_1 r_.vers.length cr_1]] w0 (Outc Γ [] w0 (r_firthref10_Own_l0 r)) := by
 refine calls_of_r (N := 35) (rs := [.cell 2 24]) (args := [.agg #[.string r_.key, .slice Ar_1 r_.vers.length cr_1]]) Tryz.func10 rfl Tryz.ntmps10 Tryz.results10 rfl ?_
 obtain ⟨F, hF⟩ : ∃ F : Fm, F = ⟨ids [], w0, Γ⟩ := ⟨_, rfl⟩
 refine WC.here (C := CC F Γ []) ?_ (hF ▸ hp.start)
 have hB : Lent F B := hF ▸ Lent.start hpB
 refine WC.rs ?_
 refine e_box (v := .agg #[.string r_.key, .slice Ar_1 r_.vers.length cr_1]) rfl rfl rfl rfl (by kernel_rfl) ?_
 intro g1
 refine e_alloc Tryz.zeroValue24 rfl rfl rfl rfl ?_
 intro g2
 refine WR.done ?_
 refine WC.rs ?_
 refine vb (q_fl 0 fld_24_0 rfl rfl rfl) ?_
 refine vb (q_ldl (i := 1) (v := .string r_.key) rfl rfl Tryz.isAgg9 rfl rfl) ?_
 refine vb (q_build' (v := .agg #[.string r_.key, .slice none 0 0]) rfl (bargs1 rfl) (fun w => by kernel_rfl)) ?_
 refine e_alloc Tryz.zeroValue24 rfl rfl rfl rfl ?_
 intro g3
 refine e_st (i := 0) (v := .agg #[.string r_.key, .slice none 0 0]) (new := #[.string r_.key, .slice none 0 0]) rfl Tryz.sizeOf24 rfl rfl rfl rfl (by kernel_rfl) rfl rfl rfl rfl ?_
 refine WR.done ?_
 refine WC.seq ?_
 refine WC.rs ?_
 refine as_ (v := .int .i64 0) ?_
 refine WR.done ?_
 refine WC.block ?_
 refine WC.forI h (fun (i12 : Nat) (x6 : List Ver) σ w => ∃ (Γ4 : Gh), ∃ (A7 : Option Addr), ∃ (c8 : Nat), ∃ (row9 : Rowb), slots σ [(1, (pq g1)), (2, (pq g2)), (3, (pq g3)), (4, .int .i64 ((i12 : Nat) : Int))] ∧ CC F Γ4 [row9, [(g3, .cells #[.string r_.key, .slice A7 x6.length c8] 24 (0, 0))], [(g2, .cells #[.string ByteArray.empty, .slice none 0 0] 24 (0, 0))], [(g1, .cells #[.string r_.key, .slice Ar_1 r_.vers.length cr_1] 24 (0, 0))]] w ∧ Gh.le Γ Γ4 ∧ Own verT Γ4 39 row9 A7 c8 x6 ∧ True) ?_ ?_
 ·
  intro w hw
  have hw := hw.pad
  exact ⟨Γ, none, 0, [], (sl_ (by kernel_rfl)), hw, (Gh.refl _), (Own.nil verT _ 39), trivial⟩
 rintro f11 i12 x6 σ w hi13 hlt14 hge15 ⟨Γ4, A7, c8, row9, hsl, hw, hl5, ho10, -⟩
 refine Wpt.slots hsl ?_
 refine WC.here (C := CC F Γ4 [row9, [(g3, .cells #[.string r_.key, .slice A7 x6.length c8] 24 (0, 0))], [(g2, .cells #[.string ByteArray.empty, .slice none 0 0] 24 (0, 0))], [(g1, .cells #[.string r_.key, .slice Ar_1 r_.vers.length cr_1] 24 (0, 0))]]) ?_ hw
 clear hw hsl
 refine WC.seq ?_
 refine WC.rs ?_
 refine mv (v := .int .i64 ((i12 : Nat) : Int)) ?_
 refine vb (q_fl 1 fld_24_1 rfl rfl rfl) ?_
 refine vb (q_ldl (i := 3) (v := .slice Ar_1 r_.vers.length cr_1) rfl rfl Tryz.isAgg22 rfl rfl) ?_
 refine vb (q_len_slice rfl Tryz.underlying22 rfl) ?_
 refine vb (q_lss rfl rfl rfl) ?_
 refine WR.done ?_
 refine WC.cond (b := (decide (((i12 : Nat) : Int) < ((r_.vers.length : Nat) : Int)))) (by kernel_rfl) (fun hb16 => ?_) (fun hb16 => ?_)
 ·
  have hl17 := ilt hb16
  have h := hlt14 hl17
  refine WC.skip ?_
  change WC _ _ _ _ _ _
  refine WC.seq ?_
  refine WC.block ?_
  refine WC.rs ?_
  refine vb (q_fl 1 fld_24_1 rfl rfl rfl) ?_
  refine vb (q_ldl (i := 3) (v := .slice Ar_1 r_.vers.length cr_1) rfl rfl Tryz.isAgg22 rfl rfl) ?_
  refine mv (v := .int .i64 ((i12 : Nat) : Int)) ?_
  refine vb (q_ixn (i := i12) Tryz.underlying22 Tryz.sizeOf39 rfl rfl rfl hl17 (hr_.2.2.some_ hl17)) ?_
  obtain ⟨A18, c19, hx20⟩ := hr_.2.2.verT_at i12
  refine vb (q_ldaS (c := 0) (vs := [.int .i64 (gt r_.vers i12).dot.s, .int .i64 (gt r_.vers i12).dot.n, .slice A18 ((gt r_.vers i12).past).length c19, .bool (gt r_.vers i12).gone, .string (gt r_.vers i12).val]) (fun w hw => hB.sat hw) (hx20 hl17).2 rfl Tryz.isAgg39 Tryz.sizeOf39 rfl rfl rfl) ?_
  refine e_alloc Tryz.zeroValue39 rfl rfl rfl rfl ?_
  intro g21
  refine e_st (i := 0) (v := .agg #[.int .i64 (gt r_.vers i12).dot.s, .int .i64 (gt r_.vers i12).dot.n, .slice A18 ((gt r_.vers i12).past).length c19, .bool (gt r_.vers i12).gone, .string (gt r_.vers i12).val]) (new := #[.int .i64 (gt r_.vers i12).dot.s, .int .i64 (gt r_.vers i12).dot.n, .slice A18 ((gt r_.vers i12).past).length c19, .bool (gt r_.vers i12).gone, .string (gt r_.vers i12).val]) rfl Tryz.sizeOf39 rfl rfl rfl rfl (by kernel_rfl) rfl rfl rfl rfl ?_
  refine WR.done ?_
  refine WC.rs ?_
  refine as_ (v := .slice none 0 0) ?_
  refine WR.done ?_
  refine WC.rs ?_
  refine mv (v := .slice none 0 0) ?_
  refine vb (q_fl 2 fld_39_1 rfl rfl rfl) ?_
  refine vb (q_ldl (i := 0) (v := .slice A18 ((gt r_.vers i12).past).length c19) rfl rfl Tryz.isAgg37 rfl rfl) ?_
  refine WR.sub (fun w hw => hw.pad) ?_
  obtain ⟨hk22, h⟩ := chk_some h
  refine e_append (T := spanT) (xs := []) (ys := (gt r_.vers i12).past) elem_37 (i := 0) rfl rfl rfl rfl (by kernel_rfl) rfl rfl (Own.nil spanT Γ4 41) (of_decide_eq_true hk22) (fun w hw => src_slS (Γ := Γ4) (fun w hw => hB.sat hw) (fun _ _ h => h) (hx20 hl17).1.2.2.1.2 hw) ?_
  intro row23 A24 c25 ho26
  refine as_ (v := .slice A24 (gt r_.vers i12).past.length c25) ?_
  refine WR.done ?_
  refine WC.rs ?_
  refine mv (v := .slice A24 (gt r_.vers i12).past.length c25) ?_
  refine vb (q_fl 2 fld_39_1 rfl rfl rfl) ?_
  refine e_st (i := 1) (v := .slice A24 (gt r_.vers i12).past.length c25) (new := #[.int .i64 (gt r_.vers i12).dot.s, .int .i64 (gt r_.vers i12).dot.n, .slice A24 (gt r_.vers i12).past.length c25, .bool (gt r_.vers i12).gone, .string (gt r_.vers i12).val]) rfl Tryz.sizeOf37 rfl rfl rfl rfl (by kernel_rfl) rfl rfl rfl rfl ?_
  refine WR.done ?_
  refine WC.region ?_
  refine vb (q_fl 1 fld_24_1 rfl rfl rfl) ?_
  refine vb (q_ldl (i := 3) (v := .slice A7 x6.length c8) rfl rfl Tryz.isAgg22 rfl rfl) ?_
  refine vb (q_ldla (i := 1) (vs := [.int .i64 (gt r_.vers i12).dot.s, .int .i64 (gt r_.vers i12).dot.n, .slice A24 (gt r_.vers i12).past.length c25, .bool (gt r_.vers i12).gone, .string (gt r_.vers i12).val]) rfl rfl Tryz.isAgg39 Tryz.sizeOf39 rfl rfl) ?_
  have hc31 := ho26.capz
  intro w hw; obtain ⟨Γ27, hw, hl28, hr29⟩ := hw.seal (i := 0) rfl; have hs30 := ho26.sl hl28 hr29
  refine WR.here (C := CC F Γ27 [[], [(g21, .cells #[.int .i64 (gt r_.vers i12).dot.s, .int .i64 (gt r_.vers i12).dot.n, .slice A24 ((gt r_.vers i12).past).length c25, .bool (gt r_.vers i12).gone, .string (gt r_.vers i12).val] 39 (0, 0))], row9, [(g3, .cells #[.string r_.key, .slice A7 x6.length c8] 24 (0, 0))], [(g2, .cells #[.string ByteArray.empty, .slice none 0 0] 24 (0, 0))], [(g1, .cells #[.string r_.key, .slice Ar_1 r_.vers.length cr_1] 24 (0, 0))]]) ?_ hw
  clear hw
  refine e_buildSlice (cs := #[.int .i64 (gt r_.vers i12).dot.s, .int .i64 (gt r_.vers i12).dot.n, .slice A24 ((gt r_.vers i12).past).length c25, .bool (gt r_.vers i12).gone, .string (gt r_.vers i12).val]) (e := 39) rfl rfl rfl rfl (fun w => by kernel_rfl) ?_
  intro g32
  obtain ⟨hk33, h⟩ := chk_some h
  refine e_append (T := verT) (xs := x6) (ys := [(gt r_.vers i12)]) elem_22 (i := 3) rfl rfl rfl rfl rfl rfl rfl (ho10.mono hl28) (of_decide_eq_true hk33) (fun w hw => src_one (T := verT) (y := (gt r_.vers i12)) (i := 0) rfl (by exact ⟨A24, c25, rfl, ⟨(hx20 hl17).1.1, (hx20 hl17).1.2.1, ⟨hc31, hs30⟩, (hx20 hl17).1.2.2.2⟩⟩) hw) ?_
  intro row34 A35 c36 ho37
  refine vb (q_fl 1 fld_24_1 rfl rfl rfl) ?_
  refine e_st (i := 4) (v := .slice A35 (x6 ++ [(gt r_.vers i12)]).length c36) (new := #[.string r_.key, .slice A35 (x6 ++ [(gt r_.vers i12)]).length c36]) rfl Tryz.sizeOf22 rfl rfl rfl rfl (by kernel_rfl) rfl rfl rfl rfl ?_
  refine WR.nil ?_
  change WC _ _ _ _ _ _
  refine WC.region ?_
  refine mv (v := .int .i64 ((i12 : Nat) : Int)) ?_
  refine vb (q_add_r (r := ((i12 + 1 : Nat) : Int)) rfl rfl rfl (ctr_len hl17 hr_.2.2.le)) ?_
  refine as_ (v := .int .i64 ((i12 + 1 : Nat) : Int)) ?_
  refine WR.nil ?_
  intro w hw
  exact ⟨hl17, (x6 ++ [(gt r_.vers i12)]), h, Γ27, A35, c36, row34, (sl_ (by kernel_rfl)), (hw.only (is := [3, 3, 3, 3]) rfl), (hl5.trans hl28), ho37, trivial⟩
 ·
  have h := hge15 (ige hb16)
  refine WC.exit ?_
  change WC _ _ _ _ _ _
  refine WC.rs ?_
  refine vb (q_ldla (i := 1) (vs := [.string r_.key, .slice A7 x6.length c8]) rfl rfl Tryz.isAgg24 Tryz.sizeOf24 rfl rfl) ?_
  refine e_st (i := 2) (v := .agg #[.string r_.key, .slice A7 x6.length c8]) (new := #[.string r_.key, .slice A7 x6.length c8]) rfl Tryz.sizeOf24 rfl rfl rfl rfl (by kernel_rfl) rfl rfl rfl rfl ?_
  refine WR.done ?_
  refine WC.ret ?_
  intro w hw
  have hc42 := ho10.capz
  obtain ⟨Γ38, hw, hl39, hr40⟩ := hw.seal (i := 0) rfl; have hs41 := ho10.sl hl39 hr40
  obtain rfl := Option.some.inj h
  subst hF
  exact ⟨[.agg #[.string r_.key, .slice A7 x6.length c8]], (rr_agg (i := 2) (us := [.string r_.key, .slice A7 x6.length c8]) hw rfl Tryz.isAgg24 Tryz.sizeOf24 (by kernel_rfl) rfl rr_nil), end_e (is := []) (by kernel_rfl) hw rfl ⟨A7, c8, rfl, rfl, ⟨hr_.1, ⟨hc42, hs41⟩⟩, trivial⟩⟩
theorem t_firthlaw10_StoreKeeps {Γ : Gh} {w0 : World} {Ar_1 : Option Addr} {cr_1 : Nat} (r_ : Rec) (hr_ : Rec.fits Γ Ar_1 cr_1 r_) (hs : Sat Γ w0) {r : Bool} (h : m_firthlaw10_StoreKeeps r_ = some r) : Calls Tryz.prog 3 #[.agg #[.string r_.key, .slice Ar_1 r_.vers.length cr_1]] w0 (fun e w' => e = .returned (.bool r) ∧ Fr no w0 w') := by
 refine calls_of (N := 109) (rs := [2]) (args := [.agg #[.string r_.key, .slice Ar_1 r_.vers.length cr_1]]) Tryz.func3 rfl Tryz.ntmps3 Tryz.results3 rfl ?_
 obtain ⟨F, hF⟩ : ∃ F : Fm, F = ⟨no, w0, Γ⟩ := ⟨_, rfl⟩
 refine WC.here (C := CC F Γ []) ?_ (hF ▸ Cur.start0 hs)
 refine WC.rs ?_
 refine e_box (v := .agg #[.string r_.key, .slice Ar_1 r_.vers.length cr_1]) rfl rfl rfl rfl (by kernel_rfl) ?_
 intro g1
 refine as_ (v := .bool false) ?_
 refine WR.done ?_
 refine WC.seq ?_
 refine WC.rs ?_
 obtain ⟨z2, hz3, h⟩ := bnd h
 refine vc rfl rfl rfl (q_call (call_run Tryz.call6 rfl rfl (by kernel_rfl)) (fun w hw => t_firthlaw10_awake (Γ := Gh.all w)  (Sat.all w) hz3)) ?_
 refine vb (q_not rfl rfl) ?_
 refine mv (v := .bool (!z2)) ?_
 refine vg0 rfl rfl rfl rfl rfl (fun hg4 => QV.qo (q_ldla (i := 0) (vs := [.string r_.key, .slice Ar_1 r_.vers.length cr_1]) rfl rfl Tryz.isAgg24 Tryz.sizeOf24 rfl rfl)) ?_
 obtain ⟨z6, hz7, h⟩ := bnd h
 refine vg0 rfl rfl rfl rfl rfl (fun hg5 => (q_call (call_run Tryz.call7 rfl rfl (args1 (gu hg5 rfl))) (fun w hw => t_firthref06_RightRec (Γ := Gh.all w) r_ (Rec.fits_mono hr_ hw.sat.le_all) (Sat.all w) (gc_of hz7 hg5)))) ?_
 refine vg0 rfl rfl rfl rfl rfl (fun hg8 => QV.qo (q_not rfl (gu hg8 rfl))) ?_
 refine vb (q_pick rfl rfl (pk_or' (g := (!z2)) (y := (!z6)))) ?_
 refine WR.done ?_
 refine WC.cif h (by kernel_rfl) (fun hb9 h => ?_) (fun hb9 h => ?_)
 ·
  refine WC.rs ?_
  obtain ⟨z10, hz11, h⟩ := bnd h
  refine vc rfl rfl rfl (q_call (call_run Tryz.call6 rfl rfl (by kernel_rfl)) (fun w hw => t_firthlaw10_awake (Γ := Gh.all w)  (Sat.all w) hz11)) ?_
  refine as_ (v := .bool z10) ?_
  refine WR.done ?_
  refine WC.ret ?_
  intro w hw
  obtain rfl := Option.some.inj h
  subst hF
  exact ⟨by kernel_rfl, hw.fr⟩
 ·
  refine WC.skip ?_
  change WC _ _ _ _ _ _
  refine WC.rs ?_
  obtain ⟨z12, hz13, h⟩ := bnd h
  refine e_call (is := []) rfl rfl (call_run Tryz.call8 rfl rfl (by kernel_rfl)) rfl (fun w hp => t_disk_New 4194304 (show I64 4194304 by decide) hp hz13) ?_
  rintro Γ14 U16 v17 hl15 ⟨g18, row19, rfl, rfl, hr20, _⟩
  change WR _ _ _ (CC F Γ14 [row19, [(g1, .cells #[.string r_.key, .slice Ar_1 r_.vers.length cr_1] 24 (0, 0))]]) _ _ (upd _ 20 ((pq g18)))
  refine as_ (v := (pq g18)) ?_
  refine WR.done ?_
  refine WC.rs ?_
  refine mv (v := (pq g18)) ?_
  obtain ⟨z21, hz22, h⟩ := bnd h
  refine e_call (is := [0]) rfl rfl (call_run Tryz.call9 rfl rfl (by kernel_rfl)) rfl (fun w hp => t_store_Open hr20 (⟨#[115]⟩ : ByteArray) (show (⟨#[115]⟩ : ByteArray).size ≤ lim by decide) 64 (show I64 64 by decide) hp hz22) ?_
  rintro Γ23 U25 v26 hl24 ⟨row27, g29, row30, rfl, rfl, hr28, hr31, hr32, _⟩
  change WR _ _ _ (CC F Γ23 [row27, row30, [(g1, .cells #[.string r_.key, .slice Ar_1 r_.vers.length cr_1] 24 (0, 0))]]) _ _ (upd _ 23 (.tuple #[optp z21.2.1 g29, .int .i64 z21.2.2]))
  refine mv (v := .tuple #[optp z21.2.1 g29, .int .i64 z21.2.2]) ?_
  refine vb (q_extract (v := optp z21.2.1 g29) rfl rfl rfl) ?_
  refine vb (q_extract (v := .int .i64 z21.2.2) rfl rfl rfl) ?_
  refine as_ (v := optp z21.2.1 g29) ?_
  refine as_ (v := .int .i64 z21.2.2) ?_
  refine WR.done ?_
  refine WC.seq ?_
  refine WC.rs ?_
  refine mv (v := optp z21.2.1 g29) ?_
  refine vb (q_opt_eql Tryz.underlying29 rfl rfl rfl) ?_
  refine mv (v := .bool (Option.isNone z21.2.1)) ?_
  refine vg0 rfl rfl rfl rfl rfl (fun hg33 => QV.qo (q_move (v := .int .i64 z21.2.2) rfl (by kernel_rfl))) ?_
  refine vg0 rfl rfl rfl rfl rfl (fun hg34 => QV.qo (q_neq rfl (gu hg34 rfl) rfl)) ?_
  refine vb (q_pick rfl rfl (pk_or' (g := (Option.isNone z21.2.1)) (y := (z21.2.2 != 0)))) ?_
  refine WR.done ?_
  refine WC.cif h (by kernel_rfl) (fun hb35 h => ?_) (fun hb35 h => ?_)
  ·
   refine WC.rs ?_
   refine as_ (v := .bool false) ?_
   refine WR.done ?_
   refine WC.ret ?_
   intro w hw
   obtain rfl := Option.some.inj h
   subst hF
   exact ⟨by kernel_rfl, hw.fr⟩
  ·
   obtain ⟨z36, hz37, h⟩ := bnd h
   have ho38 := optob_some hr31 hz37
   refine WC.skip ?_
   change WC _ _ _ _ _ _
   refine WC.rs ?_
   refine vb (q_ldla (i := 2) (vs := [.string r_.key, .slice Ar_1 r_.vers.length cr_1]) rfl rfl Tryz.isAgg24 Tryz.sizeOf24 rfl rfl) ?_
   obtain ⟨z39, hz40, h⟩ := bnd h
   refine e_callF (is := []) (Lent.nil F) rfl rfl (call_run Tryz.call10 rfl rfl (by kernel_rfl)) rfl (fun w Θ hp hpB hle hleB hR => t_firthref10_Own_l0 r_ (Rec.fits_mono (Rec.fits_mono hr_ (hl15.trans hl24)) hle) hp hpB hz40) ?_
   rintro J41 U43 v44 hn42 ⟨A45, c46, rfl, rfl, hr47, _⟩
   change WR _ _ _ (CC F Γ23 [J41, row27, row30, [(g1, .cells #[.string r_.key, .slice Ar_1 r_.vers.length cr_1] 24 (0, 0))]]) _ _ (upd _ 33 (.agg #[.string z39.key, .slice A45 z39.vers.length c46]))
   refine e_alloc Tryz.zeroValue24 rfl rfl rfl rfl ?_
   intro g48
   refine e_st (i := 0) (v := .agg #[.string z39.key, .slice A45 z39.vers.length c46]) (new := #[.string z39.key, .slice A45 z39.vers.length c46]) rfl Tryz.sizeOf24 rfl rfl rfl rfl (by kernel_rfl) rfl rfl rfl rfl ?_
   refine WR.done ?_
   refine WC.seq ?_
   refine WC.rs ?_
   refine vb (q_move (v := (pq g29)) rfl (optp_some rfl hz37)) ?_
   refine vb (q_ldla (i := 0) (vs := [.string z39.key, .slice A45 z39.vers.length c46]) rfl rfl Tryz.isAgg24 Tryz.sizeOf24 rfl rfl) ?_
   obtain ⟨z49, hz50, h⟩ := bnd h
   refine e_callB (is := [3, 2]) (Lent.nil F) rfl rfl (call_run Tryz.call11 rfl rfl (by kernel_rfl)) rfl (fun w Θ hp hpB hle hleB hR => t_store_Store_Put_l0 ho38 z39 (Rec.fits_mono hr47 (ghr_le hR hn42 (List.mem_of_getElem? (i := 1) rfl))) hr28 hp hpB hz50) ?_
   rintro Γ51 U53 v54 hl52 ⟨row55, row57, rfl, rfl, hr56, hr58, hr59, _⟩
   change WR _ _ _ (CC F Γ51 [row55, row57, [(g48, .cells #[.string z39.key, .slice A45 z39.vers.length c46] 24 (0, 0))], J41, [(g1, .cells #[.string r_.key, .slice Ar_1 r_.vers.length cr_1] 24 (0, 0))]]) _ _ (upd _ 36 (.int .i64 z49.2.2))
   refine vb (q_neq rfl rfl rfl) ?_
   refine WR.done ?_
   refine WC.cif h (by kernel_rfl) (fun hb60 h => ?_) (fun hb60 h => ?_)
   ·
    refine WC.rs ?_
    refine as_ (v := .bool true) ?_
    refine WR.done ?_
    refine WC.ret ?_
    intro w hw
    obtain rfl := Option.some.inj h
    subst hF
    exact ⟨by kernel_rfl, hw.fr⟩
   ·
    refine WC.skip ?_
    change WC _ _ _ _ _ _
    refine WC.seq ?_
    refine WC.rs ?_
    refine as_ (v := .int .i64 0) ?_
    refine WR.done ?_
    refine WC.block ?_
    have hj61 := hr47.2.2
    refine WC.loopJ (z39.vers.length) (fun (i62 : Nat) σ w => ∃ (J63 : Rowb) (ys65 : List Ver), (J63.map (·.1)).Nodup ∧ Sl verT (ghr J63) A45 ys65 ∧ shL Ver.sh ys65 = shL Ver.sh z39.vers ∧ slots σ [(1, (pq g1)), (4, optp z21.2.1 g29), (6, (pq g48)), (7, .int .i64 ((i62 : Nat) : Int))] ∧ CC F Γ51 [row55, row57, [(g48, .cells #[.string z39.key, .slice A45 z39.vers.length c46] 24 (0, 0))], J63, [(g1, .cells #[.string r_.key, .slice Ar_1 r_.vers.length cr_1] 24 (0, 0))]] w) ?_ ?_
    ·
     intro w hw; exact ⟨J41, z39.vers, hn42, hj61, rfl, (sl_ (by kernel_rfl)), hw⟩
    rintro i62 σ w ⟨J63, ys65, hn64, hj66, hs67, hsl, hw⟩
    have hq68 := shL_eq_len hs67
    refine Wpt.slots hsl ?_
    refine WC.here (C := CC F Γ51 [row55, row57, [(g48, .cells #[.string z39.key, .slice A45 z39.vers.length c46] 24 (0, 0))], J63, [(g1, .cells #[.string r_.key, .slice Ar_1 r_.vers.length cr_1] 24 (0, 0))]]) ?_ hw
    clear hw hsl
    refine WC.seq ?_
    refine WC.rs ?_
    refine mv (v := .int .i64 ((i62 : Nat) : Int)) ?_
    refine vb (q_fl 1 fld_24_1 rfl rfl rfl) ?_
    refine vb (q_ldl (i := 2) (v := .slice A45 z39.vers.length c46) rfl rfl Tryz.isAgg22 rfl rfl) ?_
    refine vb (q_len_slice rfl Tryz.underlying22 rfl) ?_
    refine vb (q_lss rfl rfl rfl) ?_
    refine WR.done ?_
    refine WC.cond (b := (decide (((i62 : Nat) : Int) < ((z39.vers.length : Nat) : Int)))) (by kernel_rfl) (fun hb69 => ?_) (fun hb69 => ?_)
    ·
     have hl70 := ilt hb69
     have hq71 := jlt hs67 (ltq hl70 hq68.symm)
     refine WC.skip ?_
     change WC _ _ _ _ _ _
     refine WC.seq ?_
     refine WC.block ?_
     refine WC.rs ?_
     refine vb (q_fl 1 fld_24_1 rfl rfl rfl) ?_
     refine vb (q_ldl (i := 2) (v := .slice A45 z39.vers.length c46) rfl rfl Tryz.isAgg22 rfl rfl) ?_
     refine mv (v := .int .i64 ((i62 : Nat) : Int)) ?_
     refine vb (q_ixn (i := i62) Tryz.underlying22 Tryz.sizeOf39 rfl rfl rfl hl70 (hj66.some_ (ltq hl70 hq68.symm))) ?_
     refine vb (q_field_addr (i62 * 5 + 4) fld_39_3 rfl rfl (hj66.some_ (ltq hl70 hq68.symm)) rfl) ?_
     obtain ⟨A72, c73, hx74⟩ := hj66.verT_at i62
     refine e_store_J (c := 4) (u := .string (gt ys65 i62).val) (v := .string (⟨#[115, 112, 111, 105, 108, 116]⟩ : ByteArray)) rfl rfl rfl rfl (by kernel_rfl) Tryz.sizeOf9 rfl rfl (hx74 (ltq hl70 hq68.symm)).2 rfl (.str _ _ (show (⟨#[115, 112, 111, 105, 108, 116]⟩ : ByteArray).size ≤ lim by decide)) (i := 3) rfl hn64 ?_
     intro J75 hn76 hl77
     obtain ⟨ys78, hj79, hs80⟩ := hj66.like like_Ver hl77
     have hs80 := hs80.trans hs67
     have hq81 := shL_eq_len hs80
     refine WR.done ?_
     refine WC.rs ?_
     refine as_ (v := .int .i64 0) ?_
     refine WR.done ?_
     refine WC.block ?_
     refine WC.loopJ (((gt ys78 i62).past).length) (fun (i82 : Nat) σ w => ∃ (J83 : Rowb) (ys85 : List Ver), (J83.map (·.1)).Nodup ∧ Sl verT (ghr J83) A45 ys85 ∧ shL Ver.sh ys85 = shL Ver.sh z39.vers ∧ slots σ [(1, (pq g1)), (4, optp z21.2.1 g29), (6, (pq g48)), (7, .int .i64 ((i62 : Nat) : Int)), (8, .int .i64 ((i82 : Nat) : Int))] ∧ CC F Γ51 [row55, row57, [(g48, .cells #[.string z39.key, .slice A45 z39.vers.length c46] 24 (0, 0))], J83, [(g1, .cells #[.string r_.key, .slice Ar_1 r_.vers.length cr_1] 24 (0, 0))]] w) ?_ ?_
     ·
      intro w hw; exact ⟨J75, ys78, hn76, hj79, hs80, (sl_ (by kernel_rfl)), hw⟩
     rintro i82 σ w ⟨J83, ys85, hn84, hj86, hs87, hsl, hw⟩
     have hq88 := shL_eq_len hs87
     refine Wpt.slots hsl ?_
     refine WC.here (C := CC F Γ51 [row55, row57, [(g48, .cells #[.string z39.key, .slice A45 z39.vers.length c46] 24 (0, 0))], J83, [(g1, .cells #[.string r_.key, .slice Ar_1 r_.vers.length cr_1] 24 (0, 0))]]) ?_ hw
     clear hw hsl
     refine WC.seq ?_
     refine WC.rs ?_
     refine mv (v := .int .i64 ((i82 : Nat) : Int)) ?_
     refine vb (q_fl 1 fld_24_1 rfl rfl rfl) ?_
     refine vb (q_ldl (i := 2) (v := .slice A45 z39.vers.length c46) rfl rfl Tryz.isAgg22 rfl rfl) ?_
     refine mv (v := .int .i64 ((i62 : Nat) : Int)) ?_
     refine vb (q_ixn (i := i62) Tryz.underlying22 Tryz.sizeOf39 rfl rfl rfl hl70 (hj86.some_ (ltq hl70 hq88.symm))) ?_
     refine vb (q_field_addr (i62 * 5 + 2) fld_39_1 rfl rfl (hj86.some_ (ltq hl70 hq88.symm)) rfl) ?_
     obtain ⟨A89, c90, hx91⟩ := hj86.verT_at i62
     refine vb (q_ldS (c := 2) (v := .slice A89 ((gt ys85 i62).past).length c90) (satJ (i := 3) rfl hn84) (hx91 (ltq hl70 hq88.symm)).2 rfl Tryz.isAgg37 rfl rfl) ?_
     refine vb (q_len_slice rfl Tryz.underlying37 rfl) ?_
     refine vb (q_lss rfl rfl rfl) ?_
     refine WR.done ?_
     refine WC.cond (b := (decide (((i82 : Nat) : Int) < ((((gt ys85 i62).past).length : Nat) : Int)))) (by kernel_rfl) (fun hb92 => ?_) (fun hb92 => ?_)
     ·
      have hl93 := ilt hb92
      have hq94 := jlt (shL_kid hs87 hq71) hl93
      refine WC.skip ?_
      change WC _ _ _ _ _ _
      refine WC.seq ?_
      refine WC.block ?_
      refine WC.region ?_
      refine vb (q_fl 1 fld_24_1 rfl rfl rfl) ?_
      refine vb (q_ldl (i := 2) (v := .slice A45 z39.vers.length c46) rfl rfl Tryz.isAgg22 rfl rfl) ?_
      refine mv (v := .int .i64 ((i62 : Nat) : Int)) ?_
      refine vb (q_ixn (i := i62) Tryz.underlying22 Tryz.sizeOf39 rfl rfl rfl hl70 (hj86.some_ (ltq hl70 hq88.symm))) ?_
      refine vb (q_field_addr (i62 * 5 + 2) fld_39_1 rfl rfl (hj86.some_ (ltq hl70 hq88.symm)) rfl) ?_
      refine vb (q_ldS (c := 2) (v := .slice A89 ((gt ys85 i62).past).length c90) (satJ (i := 3) rfl hn84) (hx91 (ltq hl70 hq88.symm)).2 rfl Tryz.isAgg37 rfl rfl) ?_
      refine mv (v := .int .i64 ((i82 : Nat) : Int)) ?_
      refine vb (q_ixn (i := i82) Tryz.underlying37 Tryz.sizeOf41 rfl rfl rfl hl93 ((hx91 (ltq hl70 hq88.symm)).1.2.2.1.2.some_ hl93)) ?_
      refine vb (q_field_addr (i82 * 3 + 2) fld_41_2 rfl rfl ((hx91 (ltq hl70 hq88.symm)).1.2.2.1.2.some_ hl93) rfl) ?_
      refine e_store_J (c := 2) (u := .int .i64 (gt ((gt ys85 i62).past) i82).t) (v := .int .i64 (-3)) rfl rfl rfl rfl (by kernel_rfl) Tryz.sizeOf2 rfl rfl ((hx91 (ltq hl70 hq88.symm)).1.2.2.1.2.spanT_at hl93).2 rfl (.int _ _ (show I64 (-3) by decide)) (i := 3) rfl hn84 ?_
      intro J95 hn96 hl97
      obtain ⟨ys98, hj99, hs100⟩ := hj86.like like_Ver hl97
      have hs100 := hs100.trans hs87
      have hq101 := shL_eq_len hs100
      have hlt102 := jtl (shL_kid hs100 hq71) hq94
      refine WR.nil ?_
      change WC _ _ _ _ _ _
      refine WC.region ?_
      refine mv (v := .int .i64 ((i82 : Nat) : Int)) ?_
      refine vb (q_add_r (r := ((i82 + 1 : Nat) : Int)) rfl rfl rfl (ctr_len hl93 (hx91 (ltq hl70 hq88.symm)).1.2.2.1.2.le)) ?_
      refine as_ (v := .int .i64 ((i82 + 1 : Nat) : Int)) ?_
      refine WR.nil ?_
      intro w hw; exact ⟨(jtl (shL_kid hs80 hq71) hq94), J95, ys98, hn96, hj99, hs100, (sl_ (by kernel_rfl)), hw⟩
     ·
      refine WC.exit ?_
      change WC _ _ _ _ _ _
      refine WC.region ?_
      refine mv (v := .int .i64 ((i62 : Nat) : Int)) ?_
      refine vb (q_add_r (r := ((i62 + 1 : Nat) : Int)) rfl rfl rfl (ctr_len hl70 (hq68 ▸ hj66.le))) ?_
      refine as_ (v := .int .i64 ((i62 + 1 : Nat) : Int)) ?_
      refine WR.nil ?_
      intro w hw; exact ⟨hl70, J83, ys85, hn84, hj86, hs87, (sl_ (by kernel_rfl)), hw⟩
    ·
     refine WC.exit ?_
     change WC _ _ _ _ _ _
     refine WC.rs ?_
     refine vb (q_move (v := (pq g29)) rfl (optp_some rfl hz37)) ?_
     refine vb (q_fl 0 fld_24_0 rfl rfl rfl) ?_
     refine vb (q_ldl (i := 4) (v := .string r_.key) rfl rfl Tryz.isAgg9 rfl rfl) ?_
     obtain ⟨z103, hz104, h⟩ := bnd h
     refine e_callF (is := []) (Lent.nil F) rfl rfl (call_run Tryz.call12 rfl rfl (by kernel_rfl)) rfl (fun w Θ hp hpB hle hleB hR => t_store_Store_Get_l0 (hr56.mono hle) (fun p hp => hR _ (List.mem_of_getElem? (i := 0) rfl) p hp) r_.key hr_.1 hp hpB hz104) ?_
     rintro J105 U107 v108 hn106 ⟨A109, c110, rfl, rfl, hc112, hr111, _⟩
     change WR _ _ _ (CC F Γ51 [J105, row55, row57, [(g48, .cells #[.string z39.key, .slice A45 z39.vers.length c46] 24 (0, 0))], J63, [(g1, .cells #[.string r_.key, .slice Ar_1 r_.vers.length cr_1] 24 (0, 0))]]) _ _ (upd _ 73 (.slice A109 z103.length c110))
     refine as_ (v := .slice A109 z103.length c110) ?_
     refine WR.done ?_
     refine WC.seq ?_
     refine WC.rs ?_
     refine as_ (v := .int .i64 0) ?_
     refine WR.done ?_
     refine WC.block ?_
     refine WC.loopJ (z103.length) (fun (i113 : Nat) σ w => ∃ (J114 : Rowb) (ys116 : List Ver), (J114.map (·.1)).Nodup ∧ Sl verT (ghr J114) A109 ys116 ∧ shL Ver.sh ys116 = shL Ver.sh z103 ∧ slots σ [(1, (pq g1)), (4, optp z21.2.1 g29), (9, .slice A109 z103.length c110), (10, .int .i64 ((i113 : Nat) : Int))] ∧ CC F Γ51 [J114, row55, row57, [(g48, .cells #[.string z39.key, .slice A45 z39.vers.length c46] 24 (0, 0))], J63, [(g1, .cells #[.string r_.key, .slice Ar_1 r_.vers.length cr_1] 24 (0, 0))]] w) ?_ ?_
     ·
      intro w hw; exact ⟨J105, z103, hn106, hr111, rfl, (sl_ (by kernel_rfl)), hw⟩
     rintro i113 σ w ⟨J114, ys116, hn115, hj117, hs118, hsl, hw⟩
     have hq119 := shL_eq_len hs118
     refine Wpt.slots hsl ?_
     refine WC.here (C := CC F Γ51 [J114, row55, row57, [(g48, .cells #[.string z39.key, .slice A45 z39.vers.length c46] 24 (0, 0))], J63, [(g1, .cells #[.string r_.key, .slice Ar_1 r_.vers.length cr_1] 24 (0, 0))]]) ?_ hw
     clear hw hsl
     refine WC.seq ?_
     refine WC.rs ?_
     refine mv (v := .int .i64 ((i113 : Nat) : Int)) ?_
     refine mv (v := .slice A109 z103.length c110) ?_
     refine vb (q_len_slice rfl Tryz.underlying22 rfl) ?_
     refine vb (q_lss rfl rfl rfl) ?_
     refine WR.done ?_
     refine WC.cond (b := (decide (((i113 : Nat) : Int) < ((z103.length : Nat) : Int)))) (by kernel_rfl) (fun hb120 => ?_) (fun hb120 => ?_)
     ·
      have hl121 := ilt hb120
      have hq122 := jlt hs118 (ltq hl121 hq119.symm)
      refine WC.skip ?_
      change WC _ _ _ _ _ _
      refine WC.seq ?_
      refine WC.block ?_
      refine WC.seq ?_
      refine WC.rs ?_
      refine as_ (v := .int .i64 0) ?_
      refine WR.done ?_
      refine WC.block ?_
      refine WC.loopJ (((gt ys116 i113).past).length) (fun (i123 : Nat) σ w => ∃ (J124 : Rowb) (ys126 : List Ver), (J124.map (·.1)).Nodup ∧ Sl verT (ghr J124) A109 ys126 ∧ shL Ver.sh ys126 = shL Ver.sh z103 ∧ slots σ [(1, (pq g1)), (4, optp z21.2.1 g29), (9, .slice A109 z103.length c110), (10, .int .i64 ((i113 : Nat) : Int)), (11, .int .i64 ((i123 : Nat) : Int))] ∧ CC F Γ51 [J124, row55, row57, [(g48, .cells #[.string z39.key, .slice A45 z39.vers.length c46] 24 (0, 0))], J63, [(g1, .cells #[.string r_.key, .slice Ar_1 r_.vers.length cr_1] 24 (0, 0))]] w) ?_ ?_
      ·
       intro w hw; exact ⟨J114, ys116, hn115, hj117, hs118, (sl_ (by kernel_rfl)), hw⟩
      rintro i123 σ w ⟨J124, ys126, hn125, hj127, hs128, hsl, hw⟩
      have hq129 := shL_eq_len hs128
      refine Wpt.slots hsl ?_
      refine WC.here (C := CC F Γ51 [J124, row55, row57, [(g48, .cells #[.string z39.key, .slice A45 z39.vers.length c46] 24 (0, 0))], J63, [(g1, .cells #[.string r_.key, .slice Ar_1 r_.vers.length cr_1] 24 (0, 0))]]) ?_ hw
      clear hw hsl
      refine WC.seq ?_
      refine WC.rs ?_
      refine mv (v := .int .i64 ((i123 : Nat) : Int)) ?_
      refine mv (v := .slice A109 z103.length c110) ?_
      refine mv (v := .int .i64 ((i113 : Nat) : Int)) ?_
      refine vb (q_ixn (i := i113) Tryz.underlying22 Tryz.sizeOf39 rfl rfl rfl hl121 (hj127.some_ (ltq hl121 hq129.symm))) ?_
      refine vb (q_field_addr (i113 * 5 + 2) fld_39_1 rfl rfl (hj127.some_ (ltq hl121 hq129.symm)) rfl) ?_
      obtain ⟨A130, c131, hx132⟩ := hj127.verT_at i113
      refine vb (q_ldS (c := 2) (v := .slice A130 ((gt ys126 i113).past).length c131) (satJ (i := 0) rfl hn125) (hx132 (ltq hl121 hq129.symm)).2 rfl Tryz.isAgg37 rfl rfl) ?_
      refine vb (q_len_slice rfl Tryz.underlying37 rfl) ?_
      refine vb (q_lss rfl rfl rfl) ?_
      refine WR.done ?_
      refine WC.cond (b := (decide (((i123 : Nat) : Int) < ((((gt ys126 i113).past).length : Nat) : Int)))) (by kernel_rfl) (fun hb133 => ?_) (fun hb133 => ?_)
      ·
       have hl134 := ilt hb133
       have hq135 := jlt (shL_kid hs128 hq122) hl134
       refine WC.skip ?_
       change WC _ _ _ _ _ _
       refine WC.seq ?_
       refine WC.block ?_
       refine WC.region ?_
       refine mv (v := .slice A109 z103.length c110) ?_
       refine mv (v := .int .i64 ((i113 : Nat) : Int)) ?_
       refine vb (q_ixn (i := i113) Tryz.underlying22 Tryz.sizeOf39 rfl rfl rfl hl121 (hj127.some_ (ltq hl121 hq129.symm))) ?_
       refine vb (q_field_addr (i113 * 5 + 2) fld_39_1 rfl rfl (hj127.some_ (ltq hl121 hq129.symm)) rfl) ?_
       refine vb (q_ldS (c := 2) (v := .slice A130 ((gt ys126 i113).past).length c131) (satJ (i := 0) rfl hn125) (hx132 (ltq hl121 hq129.symm)).2 rfl Tryz.isAgg37 rfl rfl) ?_
       refine mv (v := .int .i64 ((i123 : Nat) : Int)) ?_
       refine vb (q_ixn (i := i123) Tryz.underlying37 Tryz.sizeOf41 rfl rfl rfl hl134 ((hx132 (ltq hl121 hq129.symm)).1.2.2.1.2.some_ hl134)) ?_
       refine vb (q_field_addr (i123 * 3 + 2) fld_41_2 rfl rfl ((hx132 (ltq hl121 hq129.symm)).1.2.2.1.2.some_ hl134) rfl) ?_
       refine e_store_J (c := 2) (u := .int .i64 (gt ((gt ys126 i113).past) i123).t) (v := .int .i64 (-4)) rfl rfl rfl rfl (by kernel_rfl) Tryz.sizeOf2 rfl rfl ((hx132 (ltq hl121 hq129.symm)).1.2.2.1.2.spanT_at hl134).2 rfl (.int _ _ (show I64 (-4) by decide)) (i := 0) rfl hn125 ?_
       intro J136 hn137 hl138
       obtain ⟨ys139, hj140, hs141⟩ := hj127.like like_Ver hl138
       have hs141 := hs141.trans hs128
       have hq142 := shL_eq_len hs141
       have hlt143 := jtl (shL_kid hs141 hq122) hq135
       refine WR.nil ?_
       change WC _ _ _ _ _ _
       refine WC.region ?_
       refine mv (v := .int .i64 ((i123 : Nat) : Int)) ?_
       refine vb (q_add_r (r := ((i123 + 1 : Nat) : Int)) rfl rfl rfl (ctr_len hl134 (hx132 (ltq hl121 hq129.symm)).1.2.2.1.2.le)) ?_
       refine as_ (v := .int .i64 ((i123 + 1 : Nat) : Int)) ?_
       refine WR.nil ?_
       intro w hw; exact ⟨(jtl (shL_kid hs118 hq122) hq135), J136, ys139, hn137, hj140, hs141, (sl_ (by kernel_rfl)), hw⟩
      ·
       refine WC.exit ?_
       change WC _ _ _ _ _ _
       refine WC.region ?_
       refine mv (v := .slice A109 z103.length c110) ?_
       refine mv (v := .int .i64 ((i113 : Nat) : Int)) ?_
       refine vb (q_ixn (i := i113) Tryz.underlying22 Tryz.sizeOf39 rfl rfl rfl hl121 (hj127.some_ (ltq hl121 hq129.symm))) ?_
       refine vb (q_field_addr (i113 * 5 + 4) fld_39_3 rfl rfl (hj127.some_ (ltq hl121 hq129.symm)) rfl) ?_
       refine e_store_J (c := 4) (u := .string (gt ys126 i113).val) (v := .string (⟨#[115, 112, 111, 105, 108, 116]⟩ : ByteArray)) rfl rfl rfl rfl (by kernel_rfl) Tryz.sizeOf9 rfl rfl (hx132 (ltq hl121 hq129.symm)).2 rfl (.str _ _ (show (⟨#[115, 112, 111, 105, 108, 116]⟩ : ByteArray).size ≤ lim by decide)) (i := 0) rfl hn125 ?_
       intro J144 hn145 hl146
       obtain ⟨ys147, hj148, hs149⟩ := hj127.like like_Ver hl146
       have hs149 := hs149.trans hs128
       have hq150 := shL_eq_len hs149
       refine WR.nil ?_
       change WC _ _ _ _ _ _
       refine WC.region ?_
       refine mv (v := .int .i64 ((i113 : Nat) : Int)) ?_
       refine vb (q_add_r (r := ((i113 + 1 : Nat) : Int)) rfl rfl rfl (ctr_len hl121 (hq119 ▸ hj117.le))) ?_
       refine as_ (v := .int .i64 ((i113 + 1 : Nat) : Int)) ?_
       refine WR.nil ?_
       intro w hw; exact ⟨hl121, J144, ys147, hn145, hj148, hs149, (sl_ (by kernel_rfl)), hw⟩
     ·
      refine WC.exit ?_
      change WC _ _ _ _ _ _
      refine WC.seq ?_
      intro w hw; have h0151 := hw.le
      refine WC.here (C := CC F Γ51 [J114, row55, row57, [(g48, .cells #[.string z39.key, .slice A45 z39.vers.length c46] 24 (0, 0))], J63, [(g1, .cells #[.string r_.key, .slice Ar_1 r_.vers.length cr_1] 24 (0, 0))]]) ?_ hw; clear hw
      refine WC.held (CC F Γ51 [J114, [(g48, .cells #[.string z39.key, .slice A45 z39.vers.length c46] 24 (0, 0))], J63, [(g1, .cells #[.string r_.key, .slice Ar_1 r_.vers.length cr_1] 24 (0, 0))]]) (by kernel_rfl) (fun w hw => hw.drawn _) ?_
      change WH _ _ _ _ (CC F Γ51 [J114, row55, row57, [(g48, .cells #[.string z39.key, .slice A45 z39.vers.length c46] 24 (0, 0))], J63, [(g1, .cells #[.string r_.key, .slice Ar_1 r_.vers.length cr_1] 24 (0, 0))]]) _ 8 #[false, false, false, false, false, false, false, false] _
      refine hu 0 rfl (bk_ (Gh.refl _) h0151 (.cons_cons _ (.cons _ (.cons _ (.cons_cons _ (.cons_cons _ (.cons_cons _ .slnil))))))) (q_move (v := (pq g29)) rfl (optp_some rfl hz37)) ?_
      refine hu 1 rfl (bk_ (Gh.refl _) h0151 (.cons_cons _ (.cons _ (.cons _ (.cons_cons _ (.cons_cons _ (.cons_cons _ .slnil))))))) (q_fl 0 fld_24_0 rfl rfl rfl) ?_
      refine hu 2 rfl (bk_ (Gh.refl _) h0151 (.cons_cons _ (.cons _ (.cons _ (.cons_cons _ (.cons_cons _ (.cons_cons _ .slnil))))))) (q_ldl (i := 3) (v := .string r_.key) rfl rfl Tryz.isAgg9 rfl rfl) ?_
      refine hu 4 rfl (bk_ (Gh.refl _) h0151 (.cons_cons _ (.cons _ (.cons _ (.cons_cons _ (.cons_cons _ (.cons_cons _ .slnil))))))) (q_fl 1 fld_24_1 rfl rfl rfl) ?_
      refine hu 5 rfl (bk_ (Gh.refl _) h0151 (.cons_cons _ (.cons _ (.cons _ (.cons_cons _ (.cons_cons _ (.cons_cons _ .slnil))))))) (q_ldl (i := 3) (v := .slice Ar_1 r_.vers.length cr_1) rfl rfl Tryz.isAgg22 rfl rfl) ?_
      refine WH.lone (i := 3) (by kernel_rfl) rfl ?_
      obtain ⟨z152, hz153, h⟩ := bnd h
      refine e_callF (is := []) (Lent.nil F) rfl rfl (call_run Tryz.call12 rfl rfl (by kernel_rfl)) rfl (fun w Θ hp hpB hle hleB hR => t_store_Store_Get_l0 (hr56.mono hle) (fun p hp => hR _ (List.mem_of_getElem? (i := 1) rfl) p hp) r_.key hr_.1 hp hpB hz153) ?_
      rintro J154 U156 v157 hn155 ⟨A158, c159, rfl, rfl, hc161, hr160, _⟩
      change WR _ _ _ (CC F Γ51 [J154, J114, row55, row57, [(g48, .cells #[.string z39.key, .slice A45 z39.vers.length c46] 24 (0, 0))], J63, [(g1, .cells #[.string r_.key, .slice Ar_1 r_.vers.length cr_1] 24 (0, 0))]]) _ _ (upd _ 105 (.slice A158 z152.length c159))
      refine WR.nil ?_
      refine WH.next (bk_ (Gh.refl _) h0151 (.cons _ (.cons_cons _ (.cons _ (.cons _ (.cons_cons _ (.cons_cons _ (.cons_cons _ .slnil)))))))) ?_
      refine WH.lone (i := 6) (by kernel_rfl) rfl ?_
      obtain ⟨z162, hz163, h⟩ := bnd h
      refine vc rfl rfl rfl (q_call (call_run Tryz.call13 rfl rfl (by kernel_rfl)) (fun w hw => t_firthref05_Same (Γ := Gh.all w) (hr160.mono ((satJ (i := 0) rfl hn155) w hw).le_all) hc161 ((hr_.2.2.mono ((hl15.trans hl24).trans hl52)).mono hw.sat.le_all) hr_.2.1 (Sat.all w) hz163)) ?_
      refine WR.nil ?_
      refine WH.next (bk_ (Gh.refl _) h0151 (.cons _ (.cons_cons _ (.cons _ (.cons _ (.cons_cons _ (.cons_cons _ (.cons_cons _ .slnil)))))))) ?_
      refine hu 7 rfl (bk_ (Gh.refl _) h0151 (.cons _ (.cons_cons _ (.cons _ (.cons _ (.cons_cons _ (.cons_cons _ (.cons_cons _ .slnil)))))))) (q_assign (v := .bool z162) rfl (by kernel_rfl)) ?_
      refine WH.done (by kernel_rfl) ?_
      change WC _ _ _ _ _ _
      refine WC.ret ?_
      intro w hw
      obtain rfl := Option.some.inj h
      subst hF
      exact ⟨by kernel_rfl, hw.fr⟩
end Fw
end Go.Proofs.YtmafjpdiplfcmaaGreat
